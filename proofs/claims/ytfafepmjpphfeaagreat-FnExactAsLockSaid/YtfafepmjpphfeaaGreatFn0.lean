/- Plain functions that the program's functions answer as; their contracts. Printed by a program of the proofs' writer. No condition. -/
import Derived.Test.YtfafepmjpphfeaaGreatUf
import Derived.KernelRfl
import Derived.Test.YtfafepmjpphfeaaGreatProg
set_option linter.unusedVariables false
set_option linter.unusedSimpArgs false
set_option maxRecDepth 100000
namespace Go.Proofs.YtfafepmjpphfeaaGreat.Plain
open Go Go.Tev
theorem mixed : Go.Proofs.Tryz.prog.follows .mixedOrders = true := by kernel_rfl
/- loop.example/g00231/laws.szIntS -/
@[reducible] def i14 : List Ty := [.v (.sl false .i), .v (.int .i64)]
@[reducible] def o14 : List Ty := [.v (.int .i64)]
noncomputable def m14   (y : PTup i14) : Option (PTup o14 × BTup i14) :=
  bif (ltI (wI (y.2.1 - (lenI y.1))) (0 : Int)) then (some (((-(1 : Int)), ()), ()))
  else some (((wI (y.2.1 - (lenI y.1))), ()), ())
noncomputable def E14   : CEnv := ⟨⟨Go.Proofs.Tryz.prog, fnsL []⟩, loopsL []⟩
theorem s14   (y) : tevF (E14  ) Go.Proofs.Tryz.f14 i14 o14 y = m14   y := by kernel_rfl
noncomputable def r14 : PTup i14 → Option (PTup o14 × BTup i14) := m14  
theorem k14 : CallOk Go.Proofs.Tryz.prog 14 ⟨i14, o14, r14, .nor⟩ := by
  have hE : ∀ g f, (E14  ).env.fns g = some f → CallOk Go.Proofs.Tryz.prog g f := fnsL_ok trivial
  exact fn_ok (E := E14  ) rfl hE mixed (by kernel_rfl) (by kernel_rfl) (AllLoops.of_list (l := []) (by kernel_rfl) trivial) (s14  )
/- loop.example/g00231/laws.szIntSS -/
@[reducible] def i59 : List Ty := [.v (.sl false .n), .v (.int .i64)]
@[reducible] def o59 : List Ty := [.v (.int .i64)]
@[reducible] def lc59_0 : List Ty := [.v (.sl false .n)]
@[reducible] def lb59_0 : List Ty := []
@[reducible] def lv59_0 : List Ty := [.v (.int .i64), .v (.int .i64)]
@[reducible] def lr59_0 : List Ty := [.v (.int .i64)]
noncomputable def w59_0 (c14 : PTup i14 → Option (PTup o14 × BTup i14))  (again : PTup lb59_0 → PTup lv59_0 → Option (Sum (PTup lv59_0) (PTup lr59_0) × BTup lb59_0)) (x : PTup lc59_0) (y : PTup lb59_0) (z : PTup lv59_0) : Option (Sum (PTup lv59_0) (PTup lr59_0) × BTup lb59_0) :=
  bif (ltI z.2.1 (lenI x.1)) then (bif (leI (0 : Int) z.2.1) then (bif (ltI z.2.1 (lenI x.1)) then ((c14 ((rdE .n x.1 z.2.1), (z.1, ()))).bind fun r0 =>
     bif (ltI r0.1.1 (0 : Int)) then (some ((Sum.inr ((-(1 : Int)), ())), ()))
     else again () (r0.1.1, ((wI (z.2.1 + (1 : Int))), ())))
    else none)
   else none)
  else some ((Sum.inl z), ())
noncomputable def e59_0 (l : PTup lc59_0 → PTup lb59_0 → PTup lv59_0 → Option (Sum (PTup lv59_0) (PTup lr59_0) × BTup lb59_0)) : LoopE := ⟨[0], lc59_0, [], lb59_0, [1, 5], lv59_0, [4], lr59_0, 0, l⟩
noncomputable def m59 (c14 : PTup i14 → Option (PTup o14 × BTup i14)) (l0 : PTup lc59_0 → PTup lb59_0 → PTup lv59_0 → Option (Sum (PTup lv59_0) (PTup lr59_0) × BTup lb59_0)) (y : PTup i59) : Option (PTup o59 × BTup i59) :=
  bif (ltI (wI (y.2.1 - (lenI y.1))) (0 : Int)) then (some (((-(1 : Int)), ()), ()))
  else (l0 (y.1, ()) () ((wI (y.2.1 - (lenI y.1))), ((0 : Int), ()))).bind fun r0 =>
  sumElim r0.1 (fun r1 => some ((r1.1, ()), ()))
  (fun r1 => some (r1, ()))
noncomputable def E59 (c14 : PTup i14 → Option (PTup o14 × BTup i14)) (l0 : PTup lc59_0 → PTup lb59_0 → PTup lv59_0 → Option (Sum (PTup lv59_0) (PTup lr59_0) × BTup lb59_0)) : CEnv := ⟨⟨Go.Proofs.Tryz.prog, fnsL [(14, ⟨i14, o14, c14, .nor⟩)]⟩, loopsL [(5, e59_0 l0)]⟩
theorem t59_0 (c14 : PTup i14 → Option (PTup o14 × BTup i14)) (l0 : PTup lc59_0 → PTup lb59_0 → PTup lv59_0 → Option (Sum (PTup lv59_0) (PTup lr59_0) × BTup lb59_0)) (again) (x y z) : loopRound (E59 c14 l0) (loopAt (bodyOf Go.Proofs.Tryz.f59) 0) (e59_0 l0) Go.Proofs.Tryz.f59.ntmps again x y z = w59_0 c14  again x y z := by kernel_rfl
noncomputable def n59_0 (c14 : PTup i14 → Option (PTup o14 × BTup i14))  : Nat → PTup lc59_0 → PTup lb59_0 → PTup lv59_0 → Option (Sum (PTup lv59_0) (PTup lr59_0) × BTup lb59_0)
  | 0, _, _, _ => none
  | n + 1, x, y, z => w59_0 c14  (fun y z => n59_0 c14  n x y z) x y z
theorem s59 (c14 : PTup i14 → Option (PTup o14 × BTup i14)) (l0 : PTup lc59_0 → PTup lb59_0 → PTup lv59_0 → Option (Sum (PTup lv59_0) (PTup lr59_0) × BTup lb59_0)) (y) : tevF (E59 c14 l0) Go.Proofs.Tryz.f59 i59 o59 y = m59 c14 l0 y := by kernel_rfl
noncomputable def L59_0 : PTup lc59_0 → PTup lb59_0 → PTup lv59_0 → Option (Sum (PTup lv59_0) (PTup lr59_0) × BTup lb59_0) := n59_0 r14  fuel
noncomputable def r59 : PTup i59 → Option (PTup o59 × BTup i59) := m59 r14 L59_0
theorem k59 : CallOk Go.Proofs.Tryz.prog 59 ⟨i59, o59, r59, .nor⟩ := by
  have hE : ∀ g f, (E59 r14 L59_0).env.fns g = some f → CallOk Go.Proofs.Tryz.prog g f := fnsL_ok ⟨k14, trivial⟩
  have h0 : LoopOk Go.Proofs.Tryz.prog Go.Proofs.Tryz.f59.ntmps (loopAt (bodyOf Go.Proofs.Tryz.f59) 0) (e59_0 L59_0) := lp_ok (E := E59 r14 L59_0) rfl hE mixed (AllLoops.of_list (l := []) (by kernel_rfl) trivial) (n59_0 r14 ) (fun _ _ _ => rfl) (fun n x y z => t59_0 r14 L59_0 _ x y z) rfl
  exact fn_ok (E := E59 r14 L59_0) rfl hE mixed (by kernel_rfl) (by kernel_rfl) (AllLoops.of_list (l := [(loopAt (bodyOf Go.Proofs.Tryz.f59) 0)]) (by kernel_rfl) (.one (by kernel_rfl) h0 trivial)) (s59 r14 L59_0)
/- loop.example/g00231/laws.szImage -/
@[reducible] def i13 : List Ty := [.a [.sl false .n], .v (.int .i64)]
@[reducible] def o13 : List Ty := [.v (.int .i64)]
noncomputable def m13 (c59 : PTup i59 → Option (PTup o59 × BTup i59))  (y : PTup i13) : Option (PTup o13 × BTup i13) :=
  (c59 (y.1.1, y.2)).bind fun r0 =>
  bif (ltI r0.1.1 (0 : Int)) then (some (((-(1 : Int)), ()), ()))
  else some (r0.1, ())
noncomputable def E13 (c59 : PTup i59 → Option (PTup o59 × BTup i59))  : CEnv := ⟨⟨Go.Proofs.Tryz.prog, fnsL [(59, ⟨i59, o59, c59, .nor⟩)]⟩, loopsL []⟩
theorem s13 (c59 : PTup i59 → Option (PTup o59 × BTup i59))  (y) : tevF (E13 c59 ) Go.Proofs.Tryz.f13 i13 o13 y = m13 c59  y := by kernel_rfl
noncomputable def r13 : PTup i13 → Option (PTup o13 × BTup i13) := m13 r59 
theorem k13 : CallOk Go.Proofs.Tryz.prog 13 ⟨i13, o13, r13, .nor⟩ := by
  have hE : ∀ g f, (E13 r59 ).env.fns g = some f → CallOk Go.Proofs.Tryz.prog g f := fnsL_ok ⟨k59, trivial⟩
  exact fn_ok (E := E13 r59 ) rfl hE mixed (by kernel_rfl) (by kernel_rfl) (AllLoops.of_list (l := []) (by kernel_rfl) trivial) (s13 r59 )
/- loop.example/g00231/laws.szMem -/
@[reducible] def i15 : List Ty := [.a [.sl false .i, .int .i64], .v (.int .i64)]
@[reducible] def o15 : List Ty := [.v (.int .i64)]
noncomputable def m15 (c14 : PTup i14 → Option (PTup o14 × BTup i14))  (y : PTup i15) : Option (PTup o15 × BTup i15) :=
  (c14 (y.1.1, y.2)).bind fun r0 =>
  bif (ltI r0.1.1 (0 : Int)) then (some (((-(1 : Int)), ()), ()))
  else some (r0.1, ())
noncomputable def E15 (c14 : PTup i14 → Option (PTup o14 × BTup i14))  : CEnv := ⟨⟨Go.Proofs.Tryz.prog, fnsL [(14, ⟨i14, o14, c14, .nor⟩)]⟩, loopsL []⟩
theorem s15 (c14 : PTup i14 → Option (PTup o14 × BTup i14))  (y) : tevF (E15 c14 ) Go.Proofs.Tryz.f15 i15 o15 y = m15 c14  y := by kernel_rfl
noncomputable def r15 : PTup i15 → Option (PTup o15 × BTup i15) := m15 r14 
theorem k15 : CallOk Go.Proofs.Tryz.prog 15 ⟨i15, o15, r15, .nor⟩ := by
  have hE : ∀ g f, (E15 r14 ).env.fns g = some f → CallOk Go.Proofs.Tryz.prog g f := fnsL_ok ⟨k14, trivial⟩
  exact fn_ok (E := E15 r14 ) rfl hE mixed (by kernel_rfl) (by kernel_rfl) (AllLoops.of_list (l := []) (by kernel_rfl) trivial) (s15 r14 )
/- loop.example/g00231/laws.szPpu -/
@[reducible] def i60 : List Ty := [.a [.int .i64, .int .i64, .int .i64, .int .i64, .int .i64, .bool, .sl false .i, .sl false .i], .v (.int .i64)]
@[reducible] def o60 : List Ty := [.v (.int .i64)]
noncomputable def m60 (c14 : PTup i14 → Option (PTup o14 × BTup i14))  (y : PTup i60) : Option (PTup o60 × BTup i60) :=
  (c14 (y.1.2.2.2.2.2.2.1, y.2)).bind fun r0 =>
  bif (ltI r0.1.1 (0 : Int)) then (some (((-(1 : Int)), ()), ()))
  else (c14 (y.1.2.2.2.2.2.2.2.1, r0.1)).bind fun r1 =>
  bif (ltI r1.1.1 (0 : Int)) then (some (((-(1 : Int)), ()), ()))
  else some (r1.1, ())
noncomputable def E60 (c14 : PTup i14 → Option (PTup o14 × BTup i14))  : CEnv := ⟨⟨Go.Proofs.Tryz.prog, fnsL [(14, ⟨i14, o14, c14, .nor⟩)]⟩, loopsL []⟩
theorem s60 (c14 : PTup i14 → Option (PTup o14 × BTup i14))  (y) : tevF (E60 c14 ) Go.Proofs.Tryz.f60 i60 o60 y = m60 c14  y := by kernel_rfl
noncomputable def r60 : PTup i60 → Option (PTup o60 × BTup i60) := m60 r14 
theorem k60 : CallOk Go.Proofs.Tryz.prog 60 ⟨i60, o60, r60, .nor⟩ := by
  have hE : ∀ g f, (E60 r14 ).env.fns g = some f → CallOk Go.Proofs.Tryz.prog g f := fnsL_ok ⟨k14, trivial⟩
  exact fn_ok (E := E60 r14 ) rfl hE mixed (by kernel_rfl) (by kernel_rfl) (AllLoops.of_list (l := []) (by kernel_rfl) trivial) (s60 r14 )
/- loop.example/g00231/laws.szRecS -/
@[reducible] def i95 : List Ty := [.v (.sl false .t), .v (.int .i64)]
@[reducible] def o95 : List Ty := [.v (.int .i64)]
noncomputable def m95   (y : PTup i95) : Option (PTup o95 × BTup i95) :=
  bif (ltI (wI (y.2.1 - (lenI y.1))) (0 : Int)) then (some (((-(1 : Int)), ()), ()))
  else some (((wI (y.2.1 - (lenI y.1))), ()), ())
noncomputable def E95   : CEnv := ⟨⟨Go.Proofs.Tryz.prog, fnsL []⟩, loopsL []⟩
theorem s95   (y) : tevF (E95  ) Go.Proofs.Tryz.f95 i95 o95 y = m95   y := by kernel_rfl
noncomputable def r95 : PTup i95 → Option (PTup o95 × BTup i95) := m95  
theorem k95 : CallOk Go.Proofs.Tryz.prog 95 ⟨i95, o95, r95, .nor⟩ := by
  have hE : ∀ g f, (E95  ).env.fns g = some f → CallOk Go.Proofs.Tryz.prog g f := fnsL_ok trivial
  exact fn_ok (E := E95  ) rfl hE mixed (by kernel_rfl) (by kernel_rfl) (AllLoops.of_list (l := []) (by kernel_rfl) trivial) (s95  )
/- loop.example/g00231/laws.szRing -/
@[reducible] def i61 : List Ty := [.a [.int .i64, .sl false .t], .v (.int .i64)]
@[reducible] def o61 : List Ty := [.v (.int .i64)]
noncomputable def m61 (c95 : PTup i95 → Option (PTup o95 × BTup i95))  (y : PTup i61) : Option (PTup o61 × BTup i61) :=
  (c95 (y.1.2.1, y.2)).bind fun r0 =>
  bif (ltI r0.1.1 (0 : Int)) then (some (((-(1 : Int)), ()), ()))
  else some (r0.1, ())
noncomputable def E61 (c95 : PTup i95 → Option (PTup o95 × BTup i95))  : CEnv := ⟨⟨Go.Proofs.Tryz.prog, fnsL [(95, ⟨i95, o95, c95, .nor⟩)]⟩, loopsL []⟩
theorem s61 (c95 : PTup i95 → Option (PTup o95 × BTup i95))  (y) : tevF (E61 c95 ) Go.Proofs.Tryz.f61 i61 o61 y = m61 c95  y := by kernel_rfl
noncomputable def r61 : PTup i61 → Option (PTup o61 × BTup i61) := m61 r95 
theorem k61 : CallOk Go.Proofs.Tryz.prog 61 ⟨i61, o61, r61, .nor⟩ := by
  have hE : ∀ g f, (E61 r95 ).env.fns g = some f → CallOk Go.Proofs.Tryz.prog g f := fnsL_ok ⟨k95, trivial⟩
  exact fn_ok (E := E61 r95 ) rfl hE mixed (by kernel_rfl) (by kernel_rfl) (AllLoops.of_list (l := []) (by kernel_rfl) trivial) (s61 r95 )
/- loop.example/g00231/laws.szPicture -/
@[reducible] def i16 : List Ty := [.a [.int .i64, .int .i64, .int .i64, .int .i64, .int .i64, .bool, .sl false .i, .sl false .i, .int .i64, .sl false .t, .sl false .n], .v (.int .i64)]
@[reducible] def o16 : List Ty := [.v (.int .i64)]
noncomputable def m16 (c59 : PTup i59 → Option (PTup o59 × BTup i59)) (c60 : PTup i60 → Option (PTup o60 × BTup i60)) (c61 : PTup i61 → Option (PTup o61 × BTup i61))  (y : PTup i16) : Option (PTup o16 × BTup i16) :=
  (c60 ((y.1.1, (y.1.2.1, (y.1.2.2.1, (y.1.2.2.2.1, (y.1.2.2.2.2.1, (y.1.2.2.2.2.2.1, (y.1.2.2.2.2.2.2.1, (y.1.2.2.2.2.2.2.2.1, ())))))))), y.2)).bind fun r0 =>
  bif (ltI r0.1.1 (0 : Int)) then (some (((-(1 : Int)), ()), ()))
  else (c61 ((y.1.2.2.2.2.2.2.2.2.1, (y.1.2.2.2.2.2.2.2.2.2.1, ())), r0.1)).bind fun r1 =>
  bif (ltI r1.1.1 (0 : Int)) then (some (((-(1 : Int)), ()), ()))
  else (c59 (y.1.2.2.2.2.2.2.2.2.2.2.1, r1.1)).bind fun r2 =>
  bif (ltI r2.1.1 (0 : Int)) then (some (((-(1 : Int)), ()), ()))
  else some (r2.1, ())
noncomputable def E16 (c59 : PTup i59 → Option (PTup o59 × BTup i59)) (c60 : PTup i60 → Option (PTup o60 × BTup i60)) (c61 : PTup i61 → Option (PTup o61 × BTup i61))  : CEnv := ⟨⟨Go.Proofs.Tryz.prog, fnsL [(59, ⟨i59, o59, c59, .nor⟩), (60, ⟨i60, o60, c60, .nor⟩), (61, ⟨i61, o61, c61, .nor⟩)]⟩, loopsL []⟩
theorem s16 (c59 : PTup i59 → Option (PTup o59 × BTup i59)) (c60 : PTup i60 → Option (PTup o60 × BTup i60)) (c61 : PTup i61 → Option (PTup o61 × BTup i61))  (y) : tevF (E16 c59 c60 c61 ) Go.Proofs.Tryz.f16 i16 o16 y = m16 c59 c60 c61  y := by kernel_rfl
noncomputable def r16 : PTup i16 → Option (PTup o16 × BTup i16) := m16 r59 r60 r61 
theorem k16 : CallOk Go.Proofs.Tryz.prog 16 ⟨i16, o16, r16, .nor⟩ := by
  have hE : ∀ g f, (E16 r59 r60 r61 ).env.fns g = some f → CallOk Go.Proofs.Tryz.prog g f := fnsL_ok ⟨k59, k60, k61, trivial⟩
  exact fn_ok (E := E16 r59 r60 r61 ) rfl hE mixed (by kernel_rfl) (by kernel_rfl) (AllLoops.of_list (l := []) (by kernel_rfl) trivial) (s16 r59 r60 r61 )
/- loop.example/g00231/laws.szSound -/
@[reducible] def i17 : List Ty := [.a [.int .i64, .int .i64, .int .i64, .int .i64, .int .i64, .bool, .bool, .int .i64, .sl false .t, .sl false .i], .v (.int .i64)]
@[reducible] def o17 : List Ty := [.v (.int .i64)]
noncomputable def m17 (c14 : PTup i14 → Option (PTup o14 × BTup i14)) (c61 : PTup i61 → Option (PTup o61 × BTup i61))  (y : PTup i17) : Option (PTup o17 × BTup i17) :=
  (c61 ((y.1.2.2.2.2.2.2.2.1, (y.1.2.2.2.2.2.2.2.2.1, ())), y.2)).bind fun r0 =>
  bif (ltI r0.1.1 (0 : Int)) then (some (((-(1 : Int)), ()), ()))
  else (c14 (y.1.2.2.2.2.2.2.2.2.2.1, r0.1)).bind fun r1 =>
  bif (ltI r1.1.1 (0 : Int)) then (some (((-(1 : Int)), ()), ()))
  else some (r1.1, ())
noncomputable def E17 (c14 : PTup i14 → Option (PTup o14 × BTup i14)) (c61 : PTup i61 → Option (PTup o61 × BTup i61))  : CEnv := ⟨⟨Go.Proofs.Tryz.prog, fnsL [(14, ⟨i14, o14, c14, .nor⟩), (61, ⟨i61, o61, c61, .nor⟩)]⟩, loopsL []⟩
theorem s17 (c14 : PTup i14 → Option (PTup o14 × BTup i14)) (c61 : PTup i61 → Option (PTup o61 × BTup i61))  (y) : tevF (E17 c14 c61 ) Go.Proofs.Tryz.f17 i17 o17 y = m17 c14 c61  y := by kernel_rfl
noncomputable def r17 : PTup i17 → Option (PTup o17 × BTup i17) := m17 r14 r61 
theorem k17 : CallOk Go.Proofs.Tryz.prog 17 ⟨i17, o17, r17, .nor⟩ := by
  have hE : ∀ g f, (E17 r14 r61 ).env.fns g = some f → CallOk Go.Proofs.Tryz.prog g f := fnsL_ok ⟨k14, k61, trivial⟩
  exact fn_ok (E := E17 r14 r61 ) rfl hE mixed (by kernel_rfl) (by kernel_rfl) (AllLoops.of_list (l := []) (by kernel_rfl) trivial) (s17 r14 r61 )
/- loop.example/g00231/laws.szSplit -/
@[reducible] def i4 : List Ty := [.a [.sl false .n, .sl false .i, .sl false .i, .int .i64, .int .i64, .int .i64, .int .i64, .int .i64, .bool, .bool, .bool, .bool, .bool, .int .i64, .int .i64, .bool, .int .i64, .bool, .int .i64, .int .i64, .sl false .i, .int .i64, .int .i64, .int .i64, .int .i64, .int .i64, .bool, .sl false .i, .sl false .i, .int .i64, .sl false .t, .sl false .n, .int .i64, .int .i64, .int .i64, .int .i64, .int .i64, .bool, .bool, .int .i64, .sl false .t, .sl false .i], .v (.int .i64)]
@[reducible] def o4 : List Ty := [.v (.int .i64)]
noncomputable def m4 (c13 : PTup i13 → Option (PTup o13 × BTup i13)) (c14 : PTup i14 → Option (PTup o14 × BTup i14)) (c15 : PTup i15 → Option (PTup o15 × BTup i15)) (c16 : PTup i16 → Option (PTup o16 × BTup i16)) (c17 : PTup i17 → Option (PTup o17 × BTup i17))  (y : PTup i4) : Option (PTup o4 × BTup i4) :=
  (c13 ((y.1.1, ()), y.2)).bind fun r0 =>
  bif (ltI r0.1.1 (0 : Int)) then (some (((-(1 : Int)), ()), ()))
  else (c14 (y.1.2.1, r0.1)).bind fun r1 =>
  bif (ltI r1.1.1 (0 : Int)) then (some (((-(1 : Int)), ()), ()))
  else (c15 ((y.1.2.2.1, (y.1.2.2.2.1, ())), r1.1)).bind fun r2 =>
  bif (ltI r2.1.1 (0 : Int)) then (some (((-(1 : Int)), ()), ()))
  else (c14 (y.1.2.2.2.2.2.2.2.2.2.2.2.2.2.2.2.2.2.2.2.2.1, r2.1)).bind fun r3 =>
  bif (ltI r3.1.1 (0 : Int)) then (some (((-(1 : Int)), ()), ()))
  else (c16 ((y.1.2.2.2.2.2.2.2.2.2.2.2.2.2.2.2.2.2.2.2.2.2.1, (y.1.2.2.2.2.2.2.2.2.2.2.2.2.2.2.2.2.2.2.2.2.2.2.1, (y.1.2.2.2.2.2.2.2.2.2.2.2.2.2.2.2.2.2.2.2.2.2.2.2.1, (y.1.2.2.2.2.2.2.2.2.2.2.2.2.2.2.2.2.2.2.2.2.2.2.2.2.1, (y.1.2.2.2.2.2.2.2.2.2.2.2.2.2.2.2.2.2.2.2.2.2.2.2.2.2.1, (y.1.2.2.2.2.2.2.2.2.2.2.2.2.2.2.2.2.2.2.2.2.2.2.2.2.2.2.1, (y.1.2.2.2.2.2.2.2.2.2.2.2.2.2.2.2.2.2.2.2.2.2.2.2.2.2.2.2.1, (y.1.2.2.2.2.2.2.2.2.2.2.2.2.2.2.2.2.2.2.2.2.2.2.2.2.2.2.2.2.1, (y.1.2.2.2.2.2.2.2.2.2.2.2.2.2.2.2.2.2.2.2.2.2.2.2.2.2.2.2.2.2.1, (y.1.2.2.2.2.2.2.2.2.2.2.2.2.2.2.2.2.2.2.2.2.2.2.2.2.2.2.2.2.2.2.1, (y.1.2.2.2.2.2.2.2.2.2.2.2.2.2.2.2.2.2.2.2.2.2.2.2.2.2.2.2.2.2.2.2.1, ()))))))))))), r3.1)).bind fun r4 =>
  bif (ltI r4.1.1 (0 : Int)) then (some (((-(1 : Int)), ()), ()))
  else (c17 (y.1.2.2.2.2.2.2.2.2.2.2.2.2.2.2.2.2.2.2.2.2.2.2.2.2.2.2.2.2.2.2.2.2, r4.1)).bind fun r5 =>
  bif (ltI r5.1.1 (0 : Int)) then (some (((-(1 : Int)), ()), ()))
  else some (r5.1, ())
noncomputable def E4 (c13 : PTup i13 → Option (PTup o13 × BTup i13)) (c14 : PTup i14 → Option (PTup o14 × BTup i14)) (c15 : PTup i15 → Option (PTup o15 × BTup i15)) (c16 : PTup i16 → Option (PTup o16 × BTup i16)) (c17 : PTup i17 → Option (PTup o17 × BTup i17))  : CEnv := ⟨⟨Go.Proofs.Tryz.prog, fnsL [(13, ⟨i13, o13, c13, .nor⟩), (14, ⟨i14, o14, c14, .nor⟩), (15, ⟨i15, o15, c15, .nor⟩), (16, ⟨i16, o16, c16, .nor⟩), (17, ⟨i17, o17, c17, .nor⟩)]⟩, loopsL []⟩
theorem s4 (c13 : PTup i13 → Option (PTup o13 × BTup i13)) (c14 : PTup i14 → Option (PTup o14 × BTup i14)) (c15 : PTup i15 → Option (PTup o15 × BTup i15)) (c16 : PTup i16 → Option (PTup o16 × BTup i16)) (c17 : PTup i17 → Option (PTup o17 × BTup i17))  (y) : tevF (E4 c13 c14 c15 c16 c17 ) Go.Proofs.Tryz.f4 i4 o4 y = m4 c13 c14 c15 c16 c17  y := by kernel_rfl
noncomputable def r4 : PTup i4 → Option (PTup o4 × BTup i4) := m4 r13 r14 r15 r16 r17 
theorem k4 : CallOk Go.Proofs.Tryz.prog 4 ⟨i4, o4, r4, .nor⟩ := by
  have hE : ∀ g f, (E4 r13 r14 r15 r16 r17 ).env.fns g = some f → CallOk Go.Proofs.Tryz.prog g f := fnsL_ok ⟨k13, k14, k15, k16, k17, trivial⟩
  exact fn_ok (E := E4 r13 r14 r15 r16 r17 ) rfl hE mixed (by kernel_rfl) (by kernel_rfl) (AllLoops.of_list (l := []) (by kernel_rfl) trivial) (s4 r13 r14 r15 r16 r17 )
/- loop.example/g00231/laws.toIntS -/
@[reducible] def i26 : List Ty := [.v (.sl false .i)]
@[reducible] def o26 : List Ty := [.v (.sl true .i)]
@[reducible] def lc26_0 : List Ty := [.v (.sl false .i)]
@[reducible] def lb26_0 : List Ty := []
@[reducible] def lv26_0 : List Ty := [.v (.int .i64), .v (.sl true .i)]
@[reducible] def lr26_0 : List Ty := []
noncomputable def w26_0   (again : PTup lb26_0 → PTup lv26_0 → Option (Sum (PTup lv26_0) (PTup lr26_0) × BTup lb26_0)) (x : PTup lc26_0) (y : PTup lb26_0) (z : PTup lv26_0) : Option (Sum (PTup lv26_0) (PTup lr26_0) × BTup lb26_0) :=
  bif (ltI z.1 (lenI x.1)) then (bif (leI (0 : Int) z.1) then (bif (ltI z.1 (lenI x.1)) then (bif (leI (0 : Int) z.1) then (bif (ltI z.1 (lenI z.2.1)) then (again () ((wI (z.1 + (1 : Int))), ((List.set z.2.1 (Int.toNat z.1) (rdE .i x.1 z.1)), ())))
      else none)
     else none)
    else none)
   else none)
  else some ((Sum.inl z), ())
noncomputable def e26_0 (l : PTup lc26_0 → PTup lb26_0 → PTup lv26_0 → Option (Sum (PTup lv26_0) (PTup lr26_0) × BTup lb26_0)) : LoopE := ⟨[0], lc26_0, [], lb26_0, [4, 3], lv26_0, [], lr26_0, 0, l⟩
noncomputable def m26  (l0 : PTup lc26_0 → PTup lb26_0 → PTup lv26_0 → Option (Sum (PTup lv26_0) (PTup lr26_0) × BTup lb26_0)) (y : PTup i26) : Option (PTup o26 × BTup i26) :=
  bif (leN (Int.toNat (lenI y.1)) (E.most .i)) then ((l0 y () ((0 : Int), ((List.replicate (Int.toNat (lenI y.1)) (0 : Int)), ()))).bind fun r0 =>
   sumElim r0.1 (fun r1 => some (r1.2, ()))
   (fun r1 => some (([], ()), ())))
  else none
noncomputable def E26  (l0 : PTup lc26_0 → PTup lb26_0 → PTup lv26_0 → Option (Sum (PTup lv26_0) (PTup lr26_0) × BTup lb26_0)) : CEnv := ⟨⟨Go.Proofs.Tryz.prog, fnsL []⟩, loopsL [(3, e26_0 l0)]⟩
theorem t26_0  (l0 : PTup lc26_0 → PTup lb26_0 → PTup lv26_0 → Option (Sum (PTup lv26_0) (PTup lr26_0) × BTup lb26_0)) (again) (x y z) : loopRound (E26  l0) (loopAt (bodyOf Go.Proofs.Tryz.f26) 0) (e26_0 l0) Go.Proofs.Tryz.f26.ntmps again x y z = w26_0   again x y z := by kernel_rfl
noncomputable def n26_0   : Nat → PTup lc26_0 → PTup lb26_0 → PTup lv26_0 → Option (Sum (PTup lv26_0) (PTup lr26_0) × BTup lb26_0)
  | 0, _, _, _ => none
  | n + 1, x, y, z => w26_0   (fun y z => n26_0   n x y z) x y z
theorem s26  (l0 : PTup lc26_0 → PTup lb26_0 → PTup lv26_0 → Option (Sum (PTup lv26_0) (PTup lr26_0) × BTup lb26_0)) (y) : tevF (E26  l0) Go.Proofs.Tryz.f26 i26 o26 y = m26  l0 y := by kernel_rfl
noncomputable def L26_0 : PTup lc26_0 → PTup lb26_0 → PTup lv26_0 → Option (Sum (PTup lv26_0) (PTup lr26_0) × BTup lb26_0) := n26_0   fuel
noncomputable def r26 : PTup i26 → Option (PTup o26 × BTup i26) := m26  L26_0
theorem k26 : CallOk Go.Proofs.Tryz.prog 26 ⟨i26, o26, r26, .nor⟩ := by
  have hE : ∀ g f, (E26  L26_0).env.fns g = some f → CallOk Go.Proofs.Tryz.prog g f := fnsL_ok trivial
  have h0 : LoopOk Go.Proofs.Tryz.prog Go.Proofs.Tryz.f26.ntmps (loopAt (bodyOf Go.Proofs.Tryz.f26) 0) (e26_0 L26_0) := lp_ok (E := E26  L26_0) rfl hE mixed (AllLoops.of_list (l := []) (by kernel_rfl) trivial) (n26_0  ) (fun _ _ _ => rfl) (fun n x y z => t26_0  L26_0 _ x y z) rfl
  exact fn_ok (E := E26  L26_0) rfl hE mixed (by kernel_rfl) (by kernel_rfl) (AllLoops.of_list (l := [(loopAt (bodyOf Go.Proofs.Tryz.f26) 0)]) (by kernel_rfl) (.one (by kernel_rfl) h0 trivial)) (s26  L26_0)
/- loop.example/g00231/laws.toIntSS -/
@[reducible] def i71 : List Ty := [.v (.sl false .n)]
@[reducible] def o71 : List Ty := [.v (.sl true .n)]
@[reducible] def lc71_0 : List Ty := [.v (.sl false .n)]
@[reducible] def lb71_0 : List Ty := []
@[reducible] def lv71_0 : List Ty := [.v (.int .i64), .v (.sl true .n)]
@[reducible] def lr71_0 : List Ty := []
noncomputable def w71_0 (c26 : PTup i26 → Option (PTup o26 × BTup i26))  (again : PTup lb71_0 → PTup lv71_0 → Option (Sum (PTup lv71_0) (PTup lr71_0) × BTup lb71_0)) (x : PTup lc71_0) (y : PTup lb71_0) (z : PTup lv71_0) : Option (Sum (PTup lv71_0) (PTup lr71_0) × BTup lb71_0) :=
  bif (ltI z.1 (lenI x.1)) then (bif (leI (0 : Int) z.1) then (bif (ltI z.1 (lenI x.1)) then ((c26 ((rdE .n x.1 z.1), ())).bind fun r0 =>
     bif (leI (0 : Int) z.1) then (bif (ltI z.1 (lenI z.2.1)) then (again () ((wI (z.1 + (1 : Int))), ((List.set z.2.1 (Int.toNat z.1) r0.1.1), ())))
      else none)
     else none)
    else none)
   else none)
  else some ((Sum.inl z), ())
noncomputable def e71_0 (l : PTup lc71_0 → PTup lb71_0 → PTup lv71_0 → Option (Sum (PTup lv71_0) (PTup lr71_0) × BTup lb71_0)) : LoopE := ⟨[0], lc71_0, [], lb71_0, [4, 3], lv71_0, [], lr71_0, 0, l⟩
noncomputable def m71 (c26 : PTup i26 → Option (PTup o26 × BTup i26)) (l0 : PTup lc71_0 → PTup lb71_0 → PTup lv71_0 → Option (Sum (PTup lv71_0) (PTup lr71_0) × BTup lb71_0)) (y : PTup i71) : Option (PTup o71 × BTup i71) :=
  bif (leN (Int.toNat (lenI y.1)) (E.most .n)) then ((l0 y () ((0 : Int), ((List.replicate (Int.toNat (lenI y.1)) []), ()))).bind fun r0 =>
   sumElim r0.1 (fun r1 => some (r1.2, ()))
   (fun r1 => some (([], ()), ())))
  else none
noncomputable def E71 (c26 : PTup i26 → Option (PTup o26 × BTup i26)) (l0 : PTup lc71_0 → PTup lb71_0 → PTup lv71_0 → Option (Sum (PTup lv71_0) (PTup lr71_0) × BTup lb71_0)) : CEnv := ⟨⟨Go.Proofs.Tryz.prog, fnsL [(26, ⟨i26, o26, c26, .nor⟩)]⟩, loopsL [(3, e71_0 l0)]⟩
theorem t71_0 (c26 : PTup i26 → Option (PTup o26 × BTup i26)) (l0 : PTup lc71_0 → PTup lb71_0 → PTup lv71_0 → Option (Sum (PTup lv71_0) (PTup lr71_0) × BTup lb71_0)) (again) (x y z) : loopRound (E71 c26 l0) (loopAt (bodyOf Go.Proofs.Tryz.f71) 0) (e71_0 l0) Go.Proofs.Tryz.f71.ntmps again x y z = w71_0 c26  again x y z := by kernel_rfl
noncomputable def n71_0 (c26 : PTup i26 → Option (PTup o26 × BTup i26))  : Nat → PTup lc71_0 → PTup lb71_0 → PTup lv71_0 → Option (Sum (PTup lv71_0) (PTup lr71_0) × BTup lb71_0)
  | 0, _, _, _ => none
  | n + 1, x, y, z => w71_0 c26  (fun y z => n71_0 c26  n x y z) x y z
theorem s71 (c26 : PTup i26 → Option (PTup o26 × BTup i26)) (l0 : PTup lc71_0 → PTup lb71_0 → PTup lv71_0 → Option (Sum (PTup lv71_0) (PTup lr71_0) × BTup lb71_0)) (y) : tevF (E71 c26 l0) Go.Proofs.Tryz.f71 i71 o71 y = m71 c26 l0 y := by kernel_rfl
noncomputable def L71_0 : PTup lc71_0 → PTup lb71_0 → PTup lv71_0 → Option (Sum (PTup lv71_0) (PTup lr71_0) × BTup lb71_0) := n71_0 r26  fuel
noncomputable def r71 : PTup i71 → Option (PTup o71 × BTup i71) := m71 r26 L71_0
theorem k71 : CallOk Go.Proofs.Tryz.prog 71 ⟨i71, o71, r71, .nor⟩ := by
  have hE : ∀ g f, (E71 r26 L71_0).env.fns g = some f → CallOk Go.Proofs.Tryz.prog g f := fnsL_ok ⟨k26, trivial⟩
  have h0 : LoopOk Go.Proofs.Tryz.prog Go.Proofs.Tryz.f71.ntmps (loopAt (bodyOf Go.Proofs.Tryz.f71) 0) (e71_0 L71_0) := lp_ok (E := E71 r26 L71_0) rfl hE mixed (AllLoops.of_list (l := []) (by kernel_rfl) trivial) (n71_0 r26 ) (fun _ _ _ => rfl) (fun n x y z => t71_0 r26 L71_0 _ x y z) rfl
  exact fn_ok (E := E71 r26 L71_0) rfl hE mixed (by kernel_rfl) (by kernel_rfl) (AllLoops.of_list (l := [(loopAt (bodyOf Go.Proofs.Tryz.f71) 0)]) (by kernel_rfl) (.one (by kernel_rfl) h0 trivial)) (s71 r26 L71_0)
/- loop.example/g00231/laws.toImage -/
@[reducible] def i25 : List Ty := [.a [.sl false .n]]
@[reducible] def o25 : List Ty := [.a [.sl true .n]]
noncomputable def m25 (c71 : PTup i71 → Option (PTup o71 × BTup i71))  (y : PTup i25) : Option (PTup o25 × BTup i25) :=
  (c71 y.1).bind fun r0 =>
  some ((r0.1, ()), ())
noncomputable def E25 (c71 : PTup i71 → Option (PTup o71 × BTup i71))  : CEnv := ⟨⟨Go.Proofs.Tryz.prog, fnsL [(71, ⟨i71, o71, c71, .nor⟩)]⟩, loopsL []⟩
theorem s25 (c71 : PTup i71 → Option (PTup o71 × BTup i71))  (y) : tevF (E25 c71 ) Go.Proofs.Tryz.f25 i25 o25 y = m25 c71  y := by kernel_rfl
noncomputable def r25 : PTup i25 → Option (PTup o25 × BTup i25) := m25 r71 
theorem k25 : CallOk Go.Proofs.Tryz.prog 25 ⟨i25, o25, r25, .nor⟩ := by
  have hE : ∀ g f, (E25 r71 ).env.fns g = some f → CallOk Go.Proofs.Tryz.prog g f := fnsL_ok ⟨k71, trivial⟩
  exact fn_ok (E := E25 r71 ) rfl hE mixed (by kernel_rfl) (by kernel_rfl) (AllLoops.of_list (l := []) (by kernel_rfl) trivial) (s25 r71 )
/- loop.example/g00231/laws.toMem -/
@[reducible] def i27 : List Ty := [.a [.sl false .i, .int .i64]]
@[reducible] def o27 : List Ty := [.a [.sl true .i, .int .i64]]
noncomputable def m27 (c26 : PTup i26 → Option (PTup o26 × BTup i26))  (y : PTup i27) : Option (PTup o27 × BTup i27) :=
  (c26 (y.1.1, ())).bind fun r0 =>
  some (((r0.1.1, y.1.2), ()), ())
noncomputable def E27 (c26 : PTup i26 → Option (PTup o26 × BTup i26))  : CEnv := ⟨⟨Go.Proofs.Tryz.prog, fnsL [(26, ⟨i26, o26, c26, .nor⟩)]⟩, loopsL []⟩
theorem s27 (c26 : PTup i26 → Option (PTup o26 × BTup i26))  (y) : tevF (E27 c26 ) Go.Proofs.Tryz.f27 i27 o27 y = m27 c26  y := by kernel_rfl
noncomputable def r27 : PTup i27 → Option (PTup o27 × BTup i27) := m27 r26 
theorem k27 : CallOk Go.Proofs.Tryz.prog 27 ⟨i27, o27, r27, .nor⟩ := by
  have hE : ∀ g f, (E27 r26 ).env.fns g = some f → CallOk Go.Proofs.Tryz.prog g f := fnsL_ok ⟨k26, trivial⟩
  exact fn_ok (E := E27 r26 ) rfl hE mixed (by kernel_rfl) (by kernel_rfl) (AllLoops.of_list (l := []) (by kernel_rfl) trivial) (s27 r26 )
/- loop.example/g00231/laws.toCpu -/
@[reducible] def i28 : List Ty := [.a [.int .i64, .int .i64, .int .i64, .int .i64, .bool, .bool, .bool, .bool]]
@[reducible] def o28 : List Ty := [.a [.int .i64, .int .i64, .int .i64, .int .i64, .bool, .bool, .bool, .bool]]
noncomputable def m28   (y : PTup i28) : Option (PTup o28 × BTup i28) :=
  some ((y.1, ()), ())
noncomputable def E28   : CEnv := ⟨⟨Go.Proofs.Tryz.prog, fnsL []⟩, loopsL []⟩
theorem s28   (y) : tevF (E28  ) Go.Proofs.Tryz.f28 i28 o28 y = m28   y := by kernel_rfl
noncomputable def r28 : PTup i28 → Option (PTup o28 × BTup i28) := m28  
theorem k28 : CallOk Go.Proofs.Tryz.prog 28 ⟨i28, o28, r28, .nor⟩ := by
  have hE : ∀ g f, (E28  ).env.fns g = some f → CallOk Go.Proofs.Tryz.prog g f := fnsL_ok trivial
  exact fn_ok (E := E28  ) rfl hE mixed (by kernel_rfl) (by kernel_rfl) (AllLoops.of_list (l := []) (by kernel_rfl) trivial) (s28  )
/- loop.example/g00231/laws.toPad -/
@[reducible] def i29 : List Ty := [.a [.bool, .int .i64]]
@[reducible] def o29 : List Ty := [.a [.bool, .int .i64]]
noncomputable def m29   (y : PTup i29) : Option (PTup o29 × BTup i29) :=
  some ((y.1, ()), ())
noncomputable def E29   : CEnv := ⟨⟨Go.Proofs.Tryz.prog, fnsL []⟩, loopsL []⟩
theorem s29   (y) : tevF (E29  ) Go.Proofs.Tryz.f29 i29 o29 y = m29   y := by kernel_rfl
noncomputable def r29 : PTup i29 → Option (PTup o29 × BTup i29) := m29  
theorem k29 : CallOk Go.Proofs.Tryz.prog 29 ⟨i29, o29, r29, .nor⟩ := by
  have hE : ∀ g f, (E29  ).env.fns g = some f → CallOk Go.Proofs.Tryz.prog g f := fnsL_ok trivial
  exact fn_ok (E := E29  ) rfl hE mixed (by kernel_rfl) (by kernel_rfl) (AllLoops.of_list (l := []) (by kernel_rfl) trivial) (s29  )
/- loop.example/g00231/laws.toPpu -/
@[reducible] def i72 : List Ty := [.a [.int .i64, .int .i64, .int .i64, .int .i64, .int .i64, .bool, .sl false .i, .sl false .i]]
@[reducible] def o72 : List Ty := [.a [.int .i64, .int .i64, .int .i64, .int .i64, .int .i64, .bool, .sl true .i, .sl true .i]]
noncomputable def m72 (c26 : PTup i26 → Option (PTup o26 × BTup i26))  (y : PTup i72) : Option (PTup o72 × BTup i72) :=
  (c26 (y.1.2.2.2.2.2.2.1, ())).bind fun r0 =>
  (c26 y.1.2.2.2.2.2.2.2).bind fun r1 =>
  some (((y.1.1, (y.1.2.1, (y.1.2.2.1, (y.1.2.2.2.1, (y.1.2.2.2.2.1, (y.1.2.2.2.2.2.1, (r0.1.1, r1.1))))))), ()), ())
noncomputable def E72 (c26 : PTup i26 → Option (PTup o26 × BTup i26))  : CEnv := ⟨⟨Go.Proofs.Tryz.prog, fnsL [(26, ⟨i26, o26, c26, .nor⟩)]⟩, loopsL []⟩
theorem s72 (c26 : PTup i26 → Option (PTup o26 × BTup i26))  (y) : tevF (E72 c26 ) Go.Proofs.Tryz.f72 i72 o72 y = m72 c26  y := by kernel_rfl
noncomputable def r72 : PTup i72 → Option (PTup o72 × BTup i72) := m72 r26 
theorem k72 : CallOk Go.Proofs.Tryz.prog 72 ⟨i72, o72, r72, .nor⟩ := by
  have hE : ∀ g f, (E72 r26 ).env.fns g = some f → CallOk Go.Proofs.Tryz.prog g f := fnsL_ok ⟨k26, trivial⟩
  exact fn_ok (E := E72 r26 ) rfl hE mixed (by kernel_rfl) (by kernel_rfl) (AllLoops.of_list (l := []) (by kernel_rfl) trivial) (s72 r26 )
/- loop.example/g00231/laws.toRec -/
@[reducible] def i115 : List Ty := [.a [.int .i64, .int .i64, .int .i64]]
@[reducible] def o115 : List Ty := [.a [.int .i64, .int .i64, .int .i64]]
noncomputable def m115   (y : PTup i115) : Option (PTup o115 × BTup i115) :=
  some ((y.1, ()), ())
noncomputable def E115   : CEnv := ⟨⟨Go.Proofs.Tryz.prog, fnsL []⟩, loopsL []⟩
theorem s115   (y) : tevF (E115  ) Go.Proofs.Tryz.f115 i115 o115 y = m115   y := by kernel_rfl
noncomputable def r115 : PTup i115 → Option (PTup o115 × BTup i115) := m115  
theorem k115 : CallOk Go.Proofs.Tryz.prog 115 ⟨i115, o115, r115, .nor⟩ := by
  have hE : ∀ g f, (E115  ).env.fns g = some f → CallOk Go.Proofs.Tryz.prog g f := fnsL_ok trivial
  exact fn_ok (E := E115  ) rfl hE mixed (by kernel_rfl) (by kernel_rfl) (AllLoops.of_list (l := []) (by kernel_rfl) trivial) (s115  )
/- loop.example/g00231/laws.toRecS -/
@[reducible] def i101 : List Ty := [.v (.sl false .t)]
@[reducible] def o101 : List Ty := [.v (.sl true .t)]
@[reducible] def lc101_0 : List Ty := [.v (.sl false .t)]
@[reducible] def lb101_0 : List Ty := []
@[reducible] def lv101_0 : List Ty := [.v (.int .i64), .v (.sl true .t)]
@[reducible] def lr101_0 : List Ty := []
noncomputable def w101_0 (c115 : PTup i115 → Option (PTup o115 × BTup i115))  (again : PTup lb101_0 → PTup lv101_0 → Option (Sum (PTup lv101_0) (PTup lr101_0) × BTup lb101_0)) (x : PTup lc101_0) (y : PTup lb101_0) (z : PTup lv101_0) : Option (Sum (PTup lv101_0) (PTup lr101_0) × BTup lb101_0) :=
  bif (ltI z.1 (lenI x.1)) then (bif (leI (0 : Int) z.1) then (bif (ltI z.1 (lenI x.1)) then ((c115 (((rdE .t x.1 z.1).1, ((rdE .t x.1 z.1).2.1, ((rdE .t x.1 z.1).2.2, ()))), ())).bind fun r0 =>
     bif (leI (0 : Int) z.1) then (bif (ltI z.1 (lenI z.2.1)) then (again () ((wI (z.1 + (1 : Int))), ((List.set z.2.1 (Int.toNat z.1) (r0.1.1.1, (r0.1.1.2.1, r0.1.1.2.2.1))), ())))
      else none)
     else none)
    else none)
   else none)
  else some ((Sum.inl z), ())
noncomputable def e101_0 (l : PTup lc101_0 → PTup lb101_0 → PTup lv101_0 → Option (Sum (PTup lv101_0) (PTup lr101_0) × BTup lb101_0)) : LoopE := ⟨[0], lc101_0, [], lb101_0, [4, 3], lv101_0, [], lr101_0, 0, l⟩
noncomputable def m101 (c115 : PTup i115 → Option (PTup o115 × BTup i115)) (l0 : PTup lc101_0 → PTup lb101_0 → PTup lv101_0 → Option (Sum (PTup lv101_0) (PTup lr101_0) × BTup lb101_0)) (y : PTup i101) : Option (PTup o101 × BTup i101) :=
  bif (leN (Int.toNat (lenI y.1)) (E.most .t)) then ((l0 y () ((0 : Int), ((List.replicate (Int.toNat (lenI y.1)) ((0 : Int), ((0 : Int), (0 : Int)))), ()))).bind fun r0 =>
   sumElim r0.1 (fun r1 => some (r1.2, ()))
   (fun r1 => some (([], ()), ())))
  else none
noncomputable def E101 (c115 : PTup i115 → Option (PTup o115 × BTup i115)) (l0 : PTup lc101_0 → PTup lb101_0 → PTup lv101_0 → Option (Sum (PTup lv101_0) (PTup lr101_0) × BTup lb101_0)) : CEnv := ⟨⟨Go.Proofs.Tryz.prog, fnsL [(115, ⟨i115, o115, c115, .nor⟩)]⟩, loopsL [(3, e101_0 l0)]⟩
theorem t101_0 (c115 : PTup i115 → Option (PTup o115 × BTup i115)) (l0 : PTup lc101_0 → PTup lb101_0 → PTup lv101_0 → Option (Sum (PTup lv101_0) (PTup lr101_0) × BTup lb101_0)) (again) (x y z) : loopRound (E101 c115 l0) (loopAt (bodyOf Go.Proofs.Tryz.f101) 0) (e101_0 l0) Go.Proofs.Tryz.f101.ntmps again x y z = w101_0 c115  again x y z := by kernel_rfl
noncomputable def n101_0 (c115 : PTup i115 → Option (PTup o115 × BTup i115))  : Nat → PTup lc101_0 → PTup lb101_0 → PTup lv101_0 → Option (Sum (PTup lv101_0) (PTup lr101_0) × BTup lb101_0)
  | 0, _, _, _ => none
  | n + 1, x, y, z => w101_0 c115  (fun y z => n101_0 c115  n x y z) x y z
theorem s101 (c115 : PTup i115 → Option (PTup o115 × BTup i115)) (l0 : PTup lc101_0 → PTup lb101_0 → PTup lv101_0 → Option (Sum (PTup lv101_0) (PTup lr101_0) × BTup lb101_0)) (y) : tevF (E101 c115 l0) Go.Proofs.Tryz.f101 i101 o101 y = m101 c115 l0 y := by kernel_rfl
noncomputable def L101_0 : PTup lc101_0 → PTup lb101_0 → PTup lv101_0 → Option (Sum (PTup lv101_0) (PTup lr101_0) × BTup lb101_0) := n101_0 r115  fuel
noncomputable def r101 : PTup i101 → Option (PTup o101 × BTup i101) := m101 r115 L101_0
theorem k101 : CallOk Go.Proofs.Tryz.prog 101 ⟨i101, o101, r101, .nor⟩ := by
  have hE : ∀ g f, (E101 r115 L101_0).env.fns g = some f → CallOk Go.Proofs.Tryz.prog g f := fnsL_ok ⟨k115, trivial⟩
  have h0 : LoopOk Go.Proofs.Tryz.prog Go.Proofs.Tryz.f101.ntmps (loopAt (bodyOf Go.Proofs.Tryz.f101) 0) (e101_0 L101_0) := lp_ok (E := E101 r115 L101_0) rfl hE mixed (AllLoops.of_list (l := []) (by kernel_rfl) trivial) (n101_0 r115 ) (fun _ _ _ => rfl) (fun n x y z => t101_0 r115 L101_0 _ x y z) rfl
  exact fn_ok (E := E101 r115 L101_0) rfl hE mixed (by kernel_rfl) (by kernel_rfl) (AllLoops.of_list (l := [(loopAt (bodyOf Go.Proofs.Tryz.f101) 0)]) (by kernel_rfl) (.one (by kernel_rfl) h0 trivial)) (s101 r115 L101_0)
/- loop.example/g00231/laws.toRing -/
@[reducible] def i73 : List Ty := [.a [.int .i64, .sl false .t]]
@[reducible] def o73 : List Ty := [.a [.int .i64, .sl true .t]]
noncomputable def m73 (c101 : PTup i101 → Option (PTup o101 × BTup i101))  (y : PTup i73) : Option (PTup o73 × BTup i73) :=
  (c101 y.1.2).bind fun r0 =>
  some (((y.1.1, r0.1), ()), ())
noncomputable def E73 (c101 : PTup i101 → Option (PTup o101 × BTup i101))  : CEnv := ⟨⟨Go.Proofs.Tryz.prog, fnsL [(101, ⟨i101, o101, c101, .nor⟩)]⟩, loopsL []⟩
theorem s73 (c101 : PTup i101 → Option (PTup o101 × BTup i101))  (y) : tevF (E73 c101 ) Go.Proofs.Tryz.f73 i73 o73 y = m73 c101  y := by kernel_rfl
noncomputable def r73 : PTup i73 → Option (PTup o73 × BTup i73) := m73 r101 
theorem k73 : CallOk Go.Proofs.Tryz.prog 73 ⟨i73, o73, r73, .nor⟩ := by
  have hE : ∀ g f, (E73 r101 ).env.fns g = some f → CallOk Go.Proofs.Tryz.prog g f := fnsL_ok ⟨k101, trivial⟩
  exact fn_ok (E := E73 r101 ) rfl hE mixed (by kernel_rfl) (by kernel_rfl) (AllLoops.of_list (l := []) (by kernel_rfl) trivial) (s73 r101 )
/- loop.example/g00231/laws.toPicture -/
@[reducible] def i30 : List Ty := [.a [.int .i64, .int .i64, .int .i64, .int .i64, .int .i64, .bool, .sl false .i, .sl false .i, .int .i64, .sl false .t, .sl false .n]]
@[reducible] def o30 : List Ty := [.a [.int .i64, .int .i64, .int .i64, .int .i64, .int .i64, .bool, .sl true .i, .sl true .i, .int .i64, .sl true .t, .sl true .n]]
noncomputable def m30 (c71 : PTup i71 → Option (PTup o71 × BTup i71)) (c72 : PTup i72 → Option (PTup o72 × BTup i72)) (c73 : PTup i73 → Option (PTup o73 × BTup i73))  (y : PTup i30) : Option (PTup o30 × BTup i30) :=
  (c72 ((y.1.1, (y.1.2.1, (y.1.2.2.1, (y.1.2.2.2.1, (y.1.2.2.2.2.1, (y.1.2.2.2.2.2.1, (y.1.2.2.2.2.2.2.1, (y.1.2.2.2.2.2.2.2.1, ())))))))), ())).bind fun r0 =>
  (c73 ((y.1.2.2.2.2.2.2.2.2.1, (y.1.2.2.2.2.2.2.2.2.2.1, ())), ())).bind fun r1 =>
  (c71 y.1.2.2.2.2.2.2.2.2.2.2).bind fun r2 =>
  some (((r0.1.1.1, (r0.1.1.2.1, (r0.1.1.2.2.1, (r0.1.1.2.2.2.1, (r0.1.1.2.2.2.2.1, (r0.1.1.2.2.2.2.2.1, (r0.1.1.2.2.2.2.2.2.1, (r0.1.1.2.2.2.2.2.2.2.1, (r1.1.1.1, (r1.1.1.2.1, r2.1)))))))))), ()), ())
noncomputable def E30 (c71 : PTup i71 → Option (PTup o71 × BTup i71)) (c72 : PTup i72 → Option (PTup o72 × BTup i72)) (c73 : PTup i73 → Option (PTup o73 × BTup i73))  : CEnv := ⟨⟨Go.Proofs.Tryz.prog, fnsL [(71, ⟨i71, o71, c71, .nor⟩), (72, ⟨i72, o72, c72, .nor⟩), (73, ⟨i73, o73, c73, .nor⟩)]⟩, loopsL []⟩
theorem s30 (c71 : PTup i71 → Option (PTup o71 × BTup i71)) (c72 : PTup i72 → Option (PTup o72 × BTup i72)) (c73 : PTup i73 → Option (PTup o73 × BTup i73))  (y) : tevF (E30 c71 c72 c73 ) Go.Proofs.Tryz.f30 i30 o30 y = m30 c71 c72 c73  y := by kernel_rfl
noncomputable def r30 : PTup i30 → Option (PTup o30 × BTup i30) := m30 r71 r72 r73 
theorem k30 : CallOk Go.Proofs.Tryz.prog 30 ⟨i30, o30, r30, .nor⟩ := by
  have hE : ∀ g f, (E30 r71 r72 r73 ).env.fns g = some f → CallOk Go.Proofs.Tryz.prog g f := fnsL_ok ⟨k71, k72, k73, trivial⟩
  exact fn_ok (E := E30 r71 r72 r73 ) rfl hE mixed (by kernel_rfl) (by kernel_rfl) (AllLoops.of_list (l := []) (by kernel_rfl) trivial) (s30 r71 r72 r73 )
/- loop.example/g00231/laws.toApu -/
@[reducible] def i74 : List Ty := [.a [.int .i64, .int .i64, .int .i64, .int .i64, .int .i64, .bool, .bool]]
@[reducible] def o74 : List Ty := [.a [.int .i64, .int .i64, .int .i64, .int .i64, .int .i64, .bool, .bool]]
noncomputable def m74   (y : PTup i74) : Option (PTup o74 × BTup i74) :=
  some ((y.1, ()), ())
noncomputable def E74   : CEnv := ⟨⟨Go.Proofs.Tryz.prog, fnsL []⟩, loopsL []⟩
theorem s74   (y) : tevF (E74  ) Go.Proofs.Tryz.f74 i74 o74 y = m74   y := by kernel_rfl
noncomputable def r74 : PTup i74 → Option (PTup o74 × BTup i74) := m74  
theorem k74 : CallOk Go.Proofs.Tryz.prog 74 ⟨i74, o74, r74, .nor⟩ := by
  have hE : ∀ g f, (E74  ).env.fns g = some f → CallOk Go.Proofs.Tryz.prog g f := fnsL_ok trivial
  exact fn_ok (E := E74  ) rfl hE mixed (by kernel_rfl) (by kernel_rfl) (AllLoops.of_list (l := []) (by kernel_rfl) trivial) (s74  )
/- loop.example/g00231/laws.toSound -/
@[reducible] def i31 : List Ty := [.a [.int .i64, .int .i64, .int .i64, .int .i64, .int .i64, .bool, .bool, .int .i64, .sl false .t, .sl false .i]]
@[reducible] def o31 : List Ty := [.a [.int .i64, .int .i64, .int .i64, .int .i64, .int .i64, .bool, .bool, .int .i64, .sl true .t, .sl true .i]]
noncomputable def m31 (c74 : PTup i74 → Option (PTup o74 × BTup i74)) (c26 : PTup i26 → Option (PTup o26 × BTup i26)) (c73 : PTup i73 → Option (PTup o73 × BTup i73))  (y : PTup i31) : Option (PTup o31 × BTup i31) :=
  (c74 ((y.1.1, (y.1.2.1, (y.1.2.2.1, (y.1.2.2.2.1, (y.1.2.2.2.2.1, (y.1.2.2.2.2.2.1, (y.1.2.2.2.2.2.2.1, ()))))))), ())).bind fun r0 =>
  (c73 ((y.1.2.2.2.2.2.2.2.1, (y.1.2.2.2.2.2.2.2.2.1, ())), ())).bind fun r1 =>
  (c26 y.1.2.2.2.2.2.2.2.2.2).bind fun r2 =>
  some (((r0.1.1.1, (r0.1.1.2.1, (r0.1.1.2.2.1, (r0.1.1.2.2.2.1, (r0.1.1.2.2.2.2.1, (r0.1.1.2.2.2.2.2.1, (r0.1.1.2.2.2.2.2.2.1, (r1.1.1.1, (r1.1.1.2.1, r2.1))))))))), ()), ())
noncomputable def E31 (c74 : PTup i74 → Option (PTup o74 × BTup i74)) (c26 : PTup i26 → Option (PTup o26 × BTup i26)) (c73 : PTup i73 → Option (PTup o73 × BTup i73))  : CEnv := ⟨⟨Go.Proofs.Tryz.prog, fnsL [(74, ⟨i74, o74, c74, .nor⟩), (26, ⟨i26, o26, c26, .nor⟩), (73, ⟨i73, o73, c73, .nor⟩)]⟩, loopsL []⟩
theorem s31 (c74 : PTup i74 → Option (PTup o74 × BTup i74)) (c26 : PTup i26 → Option (PTup o26 × BTup i26)) (c73 : PTup i73 → Option (PTup o73 × BTup i73))  (y) : tevF (E31 c74 c26 c73 ) Go.Proofs.Tryz.f31 i31 o31 y = m31 c74 c26 c73  y := by kernel_rfl
noncomputable def r31 : PTup i31 → Option (PTup o31 × BTup i31) := m31 r74 r26 r73 
theorem k31 : CallOk Go.Proofs.Tryz.prog 31 ⟨i31, o31, r31, .nor⟩ := by
  have hE : ∀ g f, (E31 r74 r26 r73 ).env.fns g = some f → CallOk Go.Proofs.Tryz.prog g f := fnsL_ok ⟨k74, k26, k73, trivial⟩
  exact fn_ok (E := E31 r74 r26 r73 ) rfl hE mixed (by kernel_rfl) (by kernel_rfl) (AllLoops.of_list (l := []) (by kernel_rfl) trivial) (s31 r74 r26 r73 )
/- loop.example/g00231/laws.toSplit -/
@[reducible] def i6 : List Ty := [.a [.sl false .n, .sl false .i, .sl false .i, .int .i64, .int .i64, .int .i64, .int .i64, .int .i64, .bool, .bool, .bool, .bool, .bool, .int .i64, .int .i64, .bool, .int .i64, .bool, .int .i64, .int .i64, .sl false .i, .int .i64, .int .i64, .int .i64, .int .i64, .int .i64, .bool, .sl false .i, .sl false .i, .int .i64, .sl false .t, .sl false .n, .int .i64, .int .i64, .int .i64, .int .i64, .int .i64, .bool, .bool, .int .i64, .sl false .t, .sl false .i]]
@[reducible] def o6 : List Ty := [.a [.sl true .n, .sl true .i, .sl true .i, .int .i64, .int .i64, .int .i64, .int .i64, .int .i64, .bool, .bool, .bool, .bool, .bool, .int .i64, .int .i64, .bool, .int .i64, .bool, .int .i64, .int .i64, .sl true .i, .int .i64, .int .i64, .int .i64, .int .i64, .int .i64, .bool, .sl true .i, .sl true .i, .int .i64, .sl true .t, .sl true .n, .int .i64, .int .i64, .int .i64, .int .i64, .int .i64, .bool, .bool, .int .i64, .sl true .t, .sl true .i]]
noncomputable def m6 (c28 : PTup i28 → Option (PTup o28 × BTup i28)) (c25 : PTup i25 → Option (PTup o25 × BTup i25)) (c26 : PTup i26 → Option (PTup o26 × BTup i26)) (c27 : PTup i27 → Option (PTup o27 × BTup i27)) (c29 : PTup i29 → Option (PTup o29 × BTup i29)) (c30 : PTup i30 → Option (PTup o30 × BTup i30)) (c31 : PTup i31 → Option (PTup o31 × BTup i31))  (y : PTup i6) : Option (PTup o6 × BTup i6) :=
  (c25 ((y.1.1, ()), ())).bind fun r0 =>
  (c26 (y.1.2.1, ())).bind fun r1 =>
  (c27 ((y.1.2.2.1, (y.1.2.2.2.1, ())), ())).bind fun r2 =>
  (c28 ((y.1.2.2.2.2.1, (y.1.2.2.2.2.2.1, (y.1.2.2.2.2.2.2.1, (y.1.2.2.2.2.2.2.2.1, (y.1.2.2.2.2.2.2.2.2.1, (y.1.2.2.2.2.2.2.2.2.2.1, (y.1.2.2.2.2.2.2.2.2.2.2.1, (y.1.2.2.2.2.2.2.2.2.2.2.2.1, ())))))))), ())).bind fun r3 =>
  (c29 ((y.1.2.2.2.2.2.2.2.2.2.2.2.2.1, (y.1.2.2.2.2.2.2.2.2.2.2.2.2.2.1, ())), ())).bind fun r4 =>
  (c26 (y.1.2.2.2.2.2.2.2.2.2.2.2.2.2.2.2.2.2.2.2.2.1, ())).bind fun r5 =>
  (c30 ((y.1.2.2.2.2.2.2.2.2.2.2.2.2.2.2.2.2.2.2.2.2.2.1, (y.1.2.2.2.2.2.2.2.2.2.2.2.2.2.2.2.2.2.2.2.2.2.2.1, (y.1.2.2.2.2.2.2.2.2.2.2.2.2.2.2.2.2.2.2.2.2.2.2.2.1, (y.1.2.2.2.2.2.2.2.2.2.2.2.2.2.2.2.2.2.2.2.2.2.2.2.2.1, (y.1.2.2.2.2.2.2.2.2.2.2.2.2.2.2.2.2.2.2.2.2.2.2.2.2.2.1, (y.1.2.2.2.2.2.2.2.2.2.2.2.2.2.2.2.2.2.2.2.2.2.2.2.2.2.2.1, (y.1.2.2.2.2.2.2.2.2.2.2.2.2.2.2.2.2.2.2.2.2.2.2.2.2.2.2.2.1, (y.1.2.2.2.2.2.2.2.2.2.2.2.2.2.2.2.2.2.2.2.2.2.2.2.2.2.2.2.2.1, (y.1.2.2.2.2.2.2.2.2.2.2.2.2.2.2.2.2.2.2.2.2.2.2.2.2.2.2.2.2.2.1, (y.1.2.2.2.2.2.2.2.2.2.2.2.2.2.2.2.2.2.2.2.2.2.2.2.2.2.2.2.2.2.2.1, (y.1.2.2.2.2.2.2.2.2.2.2.2.2.2.2.2.2.2.2.2.2.2.2.2.2.2.2.2.2.2.2.2.1, ()))))))))))), ())).bind fun r6 =>
  (c31 (y.1.2.2.2.2.2.2.2.2.2.2.2.2.2.2.2.2.2.2.2.2.2.2.2.2.2.2.2.2.2.2.2.2, ())).bind fun r7 =>
  some (((r0.1.1.1, (r1.1.1, (r2.1.1.1, (r2.1.1.2.1, (r3.1.1.1, (r3.1.1.2.1, (r3.1.1.2.2.1, (r3.1.1.2.2.2.1, (r3.1.1.2.2.2.2.1, (r3.1.1.2.2.2.2.2.1, (r3.1.1.2.2.2.2.2.2.1, (r3.1.1.2.2.2.2.2.2.2.1, (r4.1.1.1, (r4.1.1.2.1, (y.1.2.2.2.2.2.2.2.2.2.2.2.2.2.2.1, (y.1.2.2.2.2.2.2.2.2.2.2.2.2.2.2.2.1, (y.1.2.2.2.2.2.2.2.2.2.2.2.2.2.2.2.2.1, (y.1.2.2.2.2.2.2.2.2.2.2.2.2.2.2.2.2.2.1, (y.1.2.2.2.2.2.2.2.2.2.2.2.2.2.2.2.2.2.2.1, (y.1.2.2.2.2.2.2.2.2.2.2.2.2.2.2.2.2.2.2.2.1, (r5.1.1, (r6.1.1.1, (r6.1.1.2.1, (r6.1.1.2.2.1, (r6.1.1.2.2.2.1, (r6.1.1.2.2.2.2.1, (r6.1.1.2.2.2.2.2.1, (r6.1.1.2.2.2.2.2.2.1, (r6.1.1.2.2.2.2.2.2.2.1, (r6.1.1.2.2.2.2.2.2.2.2.1, (r6.1.1.2.2.2.2.2.2.2.2.2.1, (r6.1.1.2.2.2.2.2.2.2.2.2.2.1, r7.1.1)))))))))))))))))))))))))))))))), ()), ())
noncomputable def E6 (c28 : PTup i28 → Option (PTup o28 × BTup i28)) (c25 : PTup i25 → Option (PTup o25 × BTup i25)) (c26 : PTup i26 → Option (PTup o26 × BTup i26)) (c27 : PTup i27 → Option (PTup o27 × BTup i27)) (c29 : PTup i29 → Option (PTup o29 × BTup i29)) (c30 : PTup i30 → Option (PTup o30 × BTup i30)) (c31 : PTup i31 → Option (PTup o31 × BTup i31))  : CEnv := ⟨⟨Go.Proofs.Tryz.prog, fnsL [(28, ⟨i28, o28, c28, .nor⟩), (25, ⟨i25, o25, c25, .nor⟩), (26, ⟨i26, o26, c26, .nor⟩), (27, ⟨i27, o27, c27, .nor⟩), (29, ⟨i29, o29, c29, .nor⟩), (30, ⟨i30, o30, c30, .nor⟩), (31, ⟨i31, o31, c31, .nor⟩)]⟩, loopsL []⟩
theorem s6 (c28 : PTup i28 → Option (PTup o28 × BTup i28)) (c25 : PTup i25 → Option (PTup o25 × BTup i25)) (c26 : PTup i26 → Option (PTup o26 × BTup i26)) (c27 : PTup i27 → Option (PTup o27 × BTup i27)) (c29 : PTup i29 → Option (PTup o29 × BTup i29)) (c30 : PTup i30 → Option (PTup o30 × BTup i30)) (c31 : PTup i31 → Option (PTup o31 × BTup i31))  (y) : tevF (E6 c28 c25 c26 c27 c29 c30 c31 ) Go.Proofs.Tryz.f6 i6 o6 y = m6 c28 c25 c26 c27 c29 c30 c31  y := by kernel_rfl
noncomputable def r6 : PTup i6 → Option (PTup o6 × BTup i6) := m6 r28 r25 r26 r27 r29 r30 r31 
theorem k6 : CallOk Go.Proofs.Tryz.prog 6 ⟨i6, o6, r6, .nor⟩ := by
  have hE : ∀ g f, (E6 r28 r25 r26 r27 r29 r30 r31 ).env.fns g = some f → CallOk Go.Proofs.Tryz.prog g f := fnsL_ok ⟨k28, k25, k26, k27, k29, k30, k31, trivial⟩
  exact fn_ok (E := E6 r28 r25 r26 r27 r29 r30 r31 ) rfl hE mixed (by kernel_rfl) (by kernel_rfl) (AllLoops.of_list (l := []) (by kernel_rfl) trivial) (s6 r28 r25 r26 r27 r29 r30 r31 )
/- loop.example/g00231/spec.l1In -/
@[reducible] def i68 : List Ty := [.v (.int .i64), .v (.int .i64), .v (.int .i64)]
@[reducible] def o68 : List Ty := [.v (.bool)]
noncomputable def m68   (y : PTup i68) : Option (PTup o68 × BTup i68) :=
  bif (leI y.2.1 y.1) then (some (((leI y.1 y.2.2.1), ()), ()))
  else some ((false, ()), ())
noncomputable def E68   : CEnv := ⟨⟨Go.Proofs.Tryz.prog, fnsL []⟩, loopsL []⟩
theorem s68   (y) : tevF (E68  ) Go.Proofs.Tryz.f68 i68 o68 y = m68   y := by kernel_rfl
noncomputable def r68 : PTup i68 → Option (PTup o68 × BTup i68) := m68  
theorem k68 : CallOk Go.Proofs.Tryz.prog 68 ⟨i68, o68, r68, .nor⟩ := by
  have hE : ∀ g f, (E68  ).env.fns g = some f → CallOk Go.Proofs.Tryz.prog g f := fnsL_ok trivial
  exact fn_ok (E := E68  ) rfl hE mixed (by kernel_rfl) (by kernel_rfl) (AllLoops.of_list (l := []) (by kernel_rfl) trivial) (s68  )
/- loop.example/g00231/spec.l5Byte -/
@[reducible] def i67 : List Ty := [.v (.int .i64)]
@[reducible] def o67 : List Ty := [.v (.bool)]
noncomputable def m67 (c68 : PTup i68 → Option (PTup o68 × BTup i68))  (y : PTup i67) : Option (PTup o67 × BTup i67) :=
  (c68 (y.1, ((0 : Int), ((255 : Int), ())))).bind fun r0 =>
  some (r0.1, ())
noncomputable def E67 (c68 : PTup i68 → Option (PTup o68 × BTup i68))  : CEnv := ⟨⟨Go.Proofs.Tryz.prog, fnsL [(68, ⟨i68, o68, c68, .nor⟩)]⟩, loopsL []⟩
theorem s67 (c68 : PTup i68 → Option (PTup o68 × BTup i68))  (y) : tevF (E67 c68 ) Go.Proofs.Tryz.f67 i67 o67 y = m67 c68  y := by kernel_rfl
noncomputable def r67 : PTup i67 → Option (PTup o67 × BTup i67) := m67 r68 
theorem k67 : CallOk Go.Proofs.Tryz.prog 67 ⟨i67, o67, r67, .nor⟩ := by
  have hE : ∀ g f, (E67 r68 ).env.fns g = some f → CallOk Go.Proofs.Tryz.prog g f := fnsL_ok ⟨k68, trivial⟩
  exact fn_ok (E := E67 r68 ) rfl hE mixed (by kernel_rfl) (by kernel_rfl) (AllLoops.of_list (l := []) (by kernel_rfl) trivial) (s67 r68 )
/- loop.example/g00231/spec.PadsOk -/
@[reducible] def i62 : List Ty := [.v (.sl false .i)]
@[reducible] def o62 : List Ty := [.v (.bool)]
@[reducible] def lc62_0 : List Ty := [.v (.sl false .i)]
@[reducible] def lb62_0 : List Ty := []
@[reducible] def lv62_0 : List Ty := [.v (.int .i64)]
@[reducible] def lr62_0 : List Ty := [.v (.bool)]
noncomputable def w62_0 (c67 : PTup i67 → Option (PTup o67 × BTup i67))  (again : PTup lb62_0 → PTup lv62_0 → Option (Sum (PTup lv62_0) (PTup lr62_0) × BTup lb62_0)) (x : PTup lc62_0) (y : PTup lb62_0) (z : PTup lv62_0) : Option (Sum (PTup lv62_0) (PTup lr62_0) × BTup lb62_0) :=
  bif (ltI z.1 (lenI x.1)) then (bif (leI (0 : Int) z.1) then (bif (ltI z.1 (lenI x.1)) then ((c67 ((rdE .i x.1 z.1), ())).bind fun r0 =>
     bif (!r0.1.1) then (some ((Sum.inr (false, ())), ()))
     else again () ((wI (z.1 + (1 : Int))), ()))
    else none)
   else none)
  else some ((Sum.inl z), ())
noncomputable def e62_0 (l : PTup lc62_0 → PTup lb62_0 → PTup lv62_0 → Option (Sum (PTup lv62_0) (PTup lr62_0) × BTup lb62_0)) : LoopE := ⟨[0], lc62_0, [], lb62_0, [3], lv62_0, [2], lr62_0, 0, l⟩
noncomputable def m62 (c67 : PTup i67 → Option (PTup o67 × BTup i67)) (l0 : PTup lc62_0 → PTup lb62_0 → PTup lv62_0 → Option (Sum (PTup lv62_0) (PTup lr62_0) × BTup lb62_0)) (y : PTup i62) : Option (PTup o62 × BTup i62) :=
  (l0 y () ((0 : Int), ())).bind fun r0 =>
  sumElim r0.1 (fun r1 => some (((leI (lenI y.1) (20 : Int)), ()), ()))
  (fun r1 => some (r1, ()))
noncomputable def E62 (c67 : PTup i67 → Option (PTup o67 × BTup i67)) (l0 : PTup lc62_0 → PTup lb62_0 → PTup lv62_0 → Option (Sum (PTup lv62_0) (PTup lr62_0) × BTup lb62_0)) : CEnv := ⟨⟨Go.Proofs.Tryz.prog, fnsL [(67, ⟨i67, o67, c67, .nor⟩)]⟩, loopsL [(2, e62_0 l0)]⟩
theorem t62_0 (c67 : PTup i67 → Option (PTup o67 × BTup i67)) (l0 : PTup lc62_0 → PTup lb62_0 → PTup lv62_0 → Option (Sum (PTup lv62_0) (PTup lr62_0) × BTup lb62_0)) (again) (x y z) : loopRound (E62 c67 l0) (loopAt (bodyOf Go.Proofs.Tryz.f62) 0) (e62_0 l0) Go.Proofs.Tryz.f62.ntmps again x y z = w62_0 c67  again x y z := by kernel_rfl
noncomputable def n62_0 (c67 : PTup i67 → Option (PTup o67 × BTup i67))  : Nat → PTup lc62_0 → PTup lb62_0 → PTup lv62_0 → Option (Sum (PTup lv62_0) (PTup lr62_0) × BTup lb62_0)
  | 0, _, _, _ => none
  | n + 1, x, y, z => w62_0 c67  (fun y z => n62_0 c67  n x y z) x y z
theorem s62 (c67 : PTup i67 → Option (PTup o67 × BTup i67)) (l0 : PTup lc62_0 → PTup lb62_0 → PTup lv62_0 → Option (Sum (PTup lv62_0) (PTup lr62_0) × BTup lb62_0)) (y) : tevF (E62 c67 l0) Go.Proofs.Tryz.f62 i62 o62 y = m62 c67 l0 y := by kernel_rfl
noncomputable def L62_0 : PTup lc62_0 → PTup lb62_0 → PTup lv62_0 → Option (Sum (PTup lv62_0) (PTup lr62_0) × BTup lb62_0) := n62_0 r67  fuel
noncomputable def r62 : PTup i62 → Option (PTup o62 × BTup i62) := m62 r67 L62_0
theorem k62 : CallOk Go.Proofs.Tryz.prog 62 ⟨i62, o62, r62, .nor⟩ := by
  have hE : ∀ g f, (E62 r67 L62_0).env.fns g = some f → CallOk Go.Proofs.Tryz.prog g f := fnsL_ok ⟨k67, trivial⟩
  have h0 : LoopOk Go.Proofs.Tryz.prog Go.Proofs.Tryz.f62.ntmps (loopAt (bodyOf Go.Proofs.Tryz.f62) 0) (e62_0 L62_0) := lp_ok (E := E62 r67 L62_0) rfl hE mixed (AllLoops.of_list (l := []) (by kernel_rfl) trivial) (n62_0 r67 ) (fun _ _ _ => rfl) (fun n x y z => t62_0 r67 L62_0 _ x y z) rfl
  exact fn_ok (E := E62 r67 L62_0) rfl hE mixed (by kernel_rfl) (by kernel_rfl) (AllLoops.of_list (l := [(loopAt (bodyOf Go.Proofs.Tryz.f62) 0)]) (by kernel_rfl) (.one (by kernel_rfl) h0 trivial)) (s62 r67 L62_0)
/- loop.example/g00231/spec.ImageOk -/
@[reducible] def i96 : List Ty := [.a [.sl false .n]]
@[reducible] def o96 : List Ty := [.v (.bool)]
@[reducible] def lc96_0 : List Ty := [.v (.int .i64)]
@[reducible] def lb96_0 : List Ty := [.p [.sl false .n]]
@[reducible] def lv96_0 : List Ty := [.v (.int .i64)]
@[reducible] def lr96_0 : List Ty := [.v (.bool)]
noncomputable def w96_0 (c68 : PTup i68 → Option (PTup o68 × BTup i68))  (again : PTup lb96_0 → PTup lv96_0 → Option (Sum (PTup lv96_0) (PTup lr96_0) × BTup lb96_0)) (x : PTup lc96_0) (y : PTup lb96_0) (z : PTup lv96_0) : Option (Sum (PTup lv96_0) (PTup lr96_0) × BTup lb96_0) :=
  bif (ltI z.1 (256 : Int)) then (bif (leI (0 : Int) x.1) then (bif (ltI x.1 (lenI y.1.1)) then (bif (leI (0 : Int) z.1) then (bif (ltI z.1 (lenI (rdE .n y.1.1 x.1))) then ((c68 ((rdI (rdE .n y.1.1 x.1) z.1), ((0 : Int), ((255 : Int), ())))).bind fun r0 =>
       bif (!r0.1.1) then (some ((Sum.inr (false, ())), (y.1, ())))
       else again (y.1, ()) ((wI (z.1 + (1 : Int))), ()))
      else none)
     else none)
    else none)
   else none)
  else some ((Sum.inl z), (y.1, ()))
noncomputable def e96_0 (l : PTup lc96_0 → PTup lb96_0 → PTup lv96_0 → Option (Sum (PTup lv96_0) (PTup lr96_0) × BTup lb96_0)) : LoopE := ⟨[3], lc96_0, [1], lb96_0, [4], lv96_0, [2], lr96_0, 2, l⟩
@[reducible] def lc96_1 : List Ty := []
@[reducible] def lb96_1 : List Ty := [.p [.sl false .n]]
@[reducible] def lv96_1 : List Ty := [.v (.int .i64)]
@[reducible] def lr96_1 : List Ty := [.v (.bool)]
noncomputable def w96_1 (c68 : PTup i68 → Option (PTup o68 × BTup i68)) (l0 : PTup lc96_0 → PTup lb96_0 → PTup lv96_0 → Option (Sum (PTup lv96_0) (PTup lr96_0) × BTup lb96_0)) (again : PTup lb96_1 → PTup lv96_1 → Option (Sum (PTup lv96_1) (PTup lr96_1) × BTup lb96_1)) (x : PTup lc96_1) (y : PTup lb96_1) (z : PTup lv96_1) : Option (Sum (PTup lv96_1) (PTup lr96_1) × BTup lb96_1) :=
  bif (ltI z.1 (lenI y.1.1)) then (bif (leI (0 : Int) z.1) then (bif (ltI z.1 (lenI y.1.1)) then (bif (neI (lenI (rdE .n y.1.1 z.1)) (256 : Int)) then (some ((Sum.inr (false, ())), (y.1, ())))
     else (l0 z (y.1, ()) ((0 : Int), ())).bind fun r0 =>
     sumElim r0.1 (fun r1 => again (y.1, ()) ((wI (z.1 + (1 : Int))), ()))
     (fun r1 => some ((Sum.inr r1), (y.1, ()))))
    else none)
   else none)
  else some ((Sum.inl z), (y.1, ()))
noncomputable def e96_1 (l : PTup lc96_1 → PTup lb96_1 → PTup lv96_1 → Option (Sum (PTup lv96_1) (PTup lr96_1) × BTup lb96_1)) : LoopE := ⟨[], lc96_1, [1], lb96_1, [3], lv96_1, [2], lr96_1, 0, l⟩
noncomputable def m96 (c68 : PTup i68 → Option (PTup o68 × BTup i68)) (l0 : PTup lc96_0 → PTup lb96_0 → PTup lv96_0 → Option (Sum (PTup lv96_0) (PTup lr96_0) × BTup lb96_0)) (l1 : PTup lc96_1 → PTup lb96_1 → PTup lv96_1 → Option (Sum (PTup lv96_1) (PTup lr96_1) × BTup lb96_1)) (y : PTup i96) : Option (PTup o96 × BTup i96) :=
  (l1 () (y.1, ()) ((0 : Int), ())).bind fun r0 =>
  sumElim r0.1 (fun r1 => (c68 ((lenI y.1.1), ((1 : Int), ((8 : Int), ())))).bind fun r2 =>
   some (r2.1, ()))
  (fun r1 => some (r1, ()))
noncomputable def E96 (c68 : PTup i68 → Option (PTup o68 × BTup i68)) (l0 : PTup lc96_0 → PTup lb96_0 → PTup lv96_0 → Option (Sum (PTup lv96_0) (PTup lr96_0) × BTup lb96_0)) (l1 : PTup lc96_1 → PTup lb96_1 → PTup lv96_1 → Option (Sum (PTup lv96_1) (PTup lr96_1) × BTup lb96_1)) : CEnv := ⟨⟨Go.Proofs.Tryz.prog, fnsL [(68, ⟨i68, o68, c68, .nor⟩)]⟩, loopsL [(7, e96_0 l0), (2, e96_1 l1)]⟩
theorem t96_0 (c68 : PTup i68 → Option (PTup o68 × BTup i68)) (l0 : PTup lc96_0 → PTup lb96_0 → PTup lv96_0 → Option (Sum (PTup lv96_0) (PTup lr96_0) × BTup lb96_0)) (l1 : PTup lc96_1 → PTup lb96_1 → PTup lv96_1 → Option (Sum (PTup lv96_1) (PTup lr96_1) × BTup lb96_1)) (again) (x y z) : loopRound (E96 c68 l0 l1) (loopAt (loopAt (bodyOf Go.Proofs.Tryz.f96) 0) 0) (e96_0 l0) Go.Proofs.Tryz.f96.ntmps again x y z = w96_0 c68  again x y z := by kernel_rfl
noncomputable def n96_0 (c68 : PTup i68 → Option (PTup o68 × BTup i68))  : Nat → PTup lc96_0 → PTup lb96_0 → PTup lv96_0 → Option (Sum (PTup lv96_0) (PTup lr96_0) × BTup lb96_0)
  | 0, _, _, _ => none
  | n + 1, x, y, z => w96_0 c68  (fun y z => n96_0 c68  n x y z) x y z
theorem t96_1 (c68 : PTup i68 → Option (PTup o68 × BTup i68)) (l0 : PTup lc96_0 → PTup lb96_0 → PTup lv96_0 → Option (Sum (PTup lv96_0) (PTup lr96_0) × BTup lb96_0)) (l1 : PTup lc96_1 → PTup lb96_1 → PTup lv96_1 → Option (Sum (PTup lv96_1) (PTup lr96_1) × BTup lb96_1)) (again) (x y z) : loopRound (E96 c68 l0 l1) (loopAt (bodyOf Go.Proofs.Tryz.f96) 0) (e96_1 l1) Go.Proofs.Tryz.f96.ntmps again x y z = w96_1 c68 l0 again x y z := by kernel_rfl
noncomputable def n96_1 (c68 : PTup i68 → Option (PTup o68 × BTup i68)) (l0 : PTup lc96_0 → PTup lb96_0 → PTup lv96_0 → Option (Sum (PTup lv96_0) (PTup lr96_0) × BTup lb96_0)) : Nat → PTup lc96_1 → PTup lb96_1 → PTup lv96_1 → Option (Sum (PTup lv96_1) (PTup lr96_1) × BTup lb96_1)
  | 0, _, _, _ => none
  | n + 1, x, y, z => w96_1 c68 l0 (fun y z => n96_1 c68 l0 n x y z) x y z
theorem s96 (c68 : PTup i68 → Option (PTup o68 × BTup i68)) (l0 : PTup lc96_0 → PTup lb96_0 → PTup lv96_0 → Option (Sum (PTup lv96_0) (PTup lr96_0) × BTup lb96_0)) (l1 : PTup lc96_1 → PTup lb96_1 → PTup lv96_1 → Option (Sum (PTup lv96_1) (PTup lr96_1) × BTup lb96_1)) (y) : tevF (E96 c68 l0 l1) Go.Proofs.Tryz.f96 i96 o96 y = m96 c68 l0 l1 y := by kernel_rfl
noncomputable def L96_0 : PTup lc96_0 → PTup lb96_0 → PTup lv96_0 → Option (Sum (PTup lv96_0) (PTup lr96_0) × BTup lb96_0) := n96_0 r68  fuel
noncomputable def L96_1 : PTup lc96_1 → PTup lb96_1 → PTup lv96_1 → Option (Sum (PTup lv96_1) (PTup lr96_1) × BTup lb96_1) := n96_1 r68 L96_0 fuel
noncomputable def r96 : PTup i96 → Option (PTup o96 × BTup i96) := m96 r68 L96_0 L96_1
theorem k96 : CallOk Go.Proofs.Tryz.prog 96 ⟨i96, o96, r96, .nor⟩ := by
  have hE : ∀ g f, (E96 r68 L96_0 L96_1).env.fns g = some f → CallOk Go.Proofs.Tryz.prog g f := fnsL_ok ⟨k68, trivial⟩
  have h0 : LoopOk Go.Proofs.Tryz.prog Go.Proofs.Tryz.f96.ntmps (loopAt (loopAt (bodyOf Go.Proofs.Tryz.f96) 0) 0) (e96_0 L96_0) := lp_ok (E := E96 r68 L96_0 L96_1) rfl hE mixed (AllLoops.of_list (l := []) (by kernel_rfl) trivial) (n96_0 r68 ) (fun _ _ _ => rfl) (fun n x y z => t96_0 r68 L96_0 L96_1 _ x y z) rfl
  have h1 : LoopOk Go.Proofs.Tryz.prog Go.Proofs.Tryz.f96.ntmps (loopAt (bodyOf Go.Proofs.Tryz.f96) 0) (e96_1 L96_1) := lp_ok (E := E96 r68 L96_0 L96_1) rfl hE mixed (AllLoops.of_list (l := [(loopAt (loopAt (bodyOf Go.Proofs.Tryz.f96) 0) 0)]) (by kernel_rfl) (.one (by kernel_rfl) h0 trivial)) (n96_1 r68 L96_0) (fun _ _ _ => rfl) (fun n x y z => t96_1 r68 L96_0 L96_1 _ x y z) rfl
  exact fn_ok (E := E96 r68 L96_0 L96_1) rfl hE mixed (by kernel_rfl) (by kernel_rfl) (AllLoops.of_list (l := [(loopAt (bodyOf Go.Proofs.Tryz.f96) 0)]) (by kernel_rfl) (.one (by kernel_rfl) h1 trivial)) (s96 r68 L96_0 L96_1)
/- loop.example/g00231/spec.MemOk -/
@[reducible] def i63 : List Ty := [.a [.sl false .n], .a [.sl false .i, .int .i64]]
@[reducible] def o63 : List Ty := [.v (.bool)]
@[reducible] def lc63_0 : List Ty := []
@[reducible] def lb63_0 : List Ty := [.p [.sl false .i, .int .i64]]
@[reducible] def lv63_0 : List Ty := [.v (.int .i64)]
@[reducible] def lr63_0 : List Ty := [.v (.bool)]
noncomputable def w63_0 (c96 : PTup i96 → Option (PTup o96 × BTup i96)) (c68 : PTup i68 → Option (PTup o68 × BTup i68)) (c67 : PTup i67 → Option (PTup o67 × BTup i67))  (again : PTup lb63_0 → PTup lv63_0 → Option (Sum (PTup lv63_0) (PTup lr63_0) × BTup lb63_0)) (x : PTup lc63_0) (y : PTup lb63_0) (z : PTup lv63_0) : Option (Sum (PTup lv63_0) (PTup lr63_0) × BTup lb63_0) :=
  bif (ltI z.1 (512 : Int)) then (bif (leI (0 : Int) z.1) then (bif (ltI z.1 (lenI y.1.1)) then ((c67 ((rdE .i y.1.1 z.1), ())).bind fun r0 =>
     bif (!r0.1.1) then (some ((Sum.inr (false, ())), (y.1, ())))
     else again (y.1, ()) ((wI (z.1 + (1 : Int))), ()))
    else none)
   else none)
  else some ((Sum.inl z), (y.1, ()))
noncomputable def e63_0 (l : PTup lc63_0 → PTup lb63_0 → PTup lv63_0 → Option (Sum (PTup lv63_0) (PTup lr63_0) × BTup lb63_0)) : LoopE := ⟨[], lc63_0, [3], lb63_0, [5], lv63_0, [4], lr63_0, 0, l⟩
noncomputable def m63 (c96 : PTup i96 → Option (PTup o96 × BTup i96)) (c68 : PTup i68 → Option (PTup o68 × BTup i68)) (c67 : PTup i67 → Option (PTup o67 × BTup i67)) (l0 : PTup lc63_0 → PTup lb63_0 → PTup lv63_0 → Option (Sum (PTup lv63_0) (PTup lr63_0) × BTup lb63_0)) (y : PTup i63) : Option (PTup o63 × BTup i63) :=
  (c96 (y.1, ())).bind fun r0 =>
  bif (!r0.1.1) then (some ((false, ()), ()))
  else bif (neI (lenI y.2.1.1) (512 : Int)) then (some ((false, ()), ()))
  else (c68 (y.2.1.2.1, ((0 : Int), ((wI ((lenI y.1.1) - (1 : Int))), ())))).bind fun r1 =>
  bif (!r1.1.1) then (some ((false, ()), ()))
  else (l0 () (y.2.1, ()) ((0 : Int), ())).bind fun r2 =>
  sumElim r2.1 (fun r3 => some ((true, ()), ()))
  (fun r3 => some (r3, ()))
noncomputable def E63 (c96 : PTup i96 → Option (PTup o96 × BTup i96)) (c68 : PTup i68 → Option (PTup o68 × BTup i68)) (c67 : PTup i67 → Option (PTup o67 × BTup i67)) (l0 : PTup lc63_0 → PTup lb63_0 → PTup lv63_0 → Option (Sum (PTup lv63_0) (PTup lr63_0) × BTup lb63_0)) : CEnv := ⟨⟨Go.Proofs.Tryz.prog, fnsL [(96, ⟨i96, o96, c96, .nor⟩), (68, ⟨i68, o68, c68, .nor⟩), (67, ⟨i67, o67, c67, .nor⟩)]⟩, loopsL [(4, e63_0 l0)]⟩
theorem t63_0 (c96 : PTup i96 → Option (PTup o96 × BTup i96)) (c68 : PTup i68 → Option (PTup o68 × BTup i68)) (c67 : PTup i67 → Option (PTup o67 × BTup i67)) (l0 : PTup lc63_0 → PTup lb63_0 → PTup lv63_0 → Option (Sum (PTup lv63_0) (PTup lr63_0) × BTup lb63_0)) (again) (x y z) : loopRound (E63 c96 c68 c67 l0) (loopAt (bodyOf Go.Proofs.Tryz.f63) 0) (e63_0 l0) Go.Proofs.Tryz.f63.ntmps again x y z = w63_0 c96 c68 c67  again x y z := by kernel_rfl
noncomputable def n63_0 (c96 : PTup i96 → Option (PTup o96 × BTup i96)) (c68 : PTup i68 → Option (PTup o68 × BTup i68)) (c67 : PTup i67 → Option (PTup o67 × BTup i67))  : Nat → PTup lc63_0 → PTup lb63_0 → PTup lv63_0 → Option (Sum (PTup lv63_0) (PTup lr63_0) × BTup lb63_0)
  | 0, _, _, _ => none
  | n + 1, x, y, z => w63_0 c96 c68 c67  (fun y z => n63_0 c96 c68 c67  n x y z) x y z
theorem s63 (c96 : PTup i96 → Option (PTup o96 × BTup i96)) (c68 : PTup i68 → Option (PTup o68 × BTup i68)) (c67 : PTup i67 → Option (PTup o67 × BTup i67)) (l0 : PTup lc63_0 → PTup lb63_0 → PTup lv63_0 → Option (Sum (PTup lv63_0) (PTup lr63_0) × BTup lb63_0)) (y) : tevF (E63 c96 c68 c67 l0) Go.Proofs.Tryz.f63 i63 o63 y = m63 c96 c68 c67 l0 y := by kernel_rfl
noncomputable def L63_0 : PTup lc63_0 → PTup lb63_0 → PTup lv63_0 → Option (Sum (PTup lv63_0) (PTup lr63_0) × BTup lb63_0) := n63_0 r96 r68 r67  fuel
noncomputable def r63 : PTup i63 → Option (PTup o63 × BTup i63) := m63 r96 r68 r67 L63_0
theorem k63 : CallOk Go.Proofs.Tryz.prog 63 ⟨i63, o63, r63, .nor⟩ := by
  have hE : ∀ g f, (E63 r96 r68 r67 L63_0).env.fns g = some f → CallOk Go.Proofs.Tryz.prog g f := fnsL_ok ⟨k96, k68, k67, trivial⟩
  have h0 : LoopOk Go.Proofs.Tryz.prog Go.Proofs.Tryz.f63.ntmps (loopAt (bodyOf Go.Proofs.Tryz.f63) 0) (e63_0 L63_0) := lp_ok (E := E63 r96 r68 r67 L63_0) rfl hE mixed (AllLoops.of_list (l := []) (by kernel_rfl) trivial) (n63_0 r96 r68 r67 ) (fun _ _ _ => rfl) (fun n x y z => t63_0 r96 r68 r67 L63_0 _ x y z) rfl
  exact fn_ok (E := E63 r96 r68 r67 L63_0) rfl hE mixed (by kernel_rfl) (by kernel_rfl) (AllLoops.of_list (l := [(loopAt (bodyOf Go.Proofs.Tryz.f63) 0)]) (by kernel_rfl) (.one (by kernel_rfl) h0 trivial)) (s63 r96 r68 r67 L63_0)
/- loop.example/g00231/spec.CpuOk -/
@[reducible] def i64 : List Ty := [.a [.int .i64, .int .i64, .int .i64, .int .i64, .bool, .bool, .bool, .bool]]
@[reducible] def o64 : List Ty := [.v (.bool)]
noncomputable def m64 (c68 : PTup i68 → Option (PTup o68 × BTup i68)) (c67 : PTup i67 → Option (PTup o67 × BTup i67))  (y : PTup i64) : Option (PTup o64 × BTup i64) :=
  (c67 (y.1.1, ())).bind fun r0 =>
  bif r0.1.1 then ((c67 (y.1.2.1, ())).bind fun r1 =>
   bif r1.1.1 then ((c67 (y.1.2.2.1, ())).bind fun r2 =>
    bif r2.1.1 then ((c68 (y.1.2.2.2.1, ((0 : Int), ((65535 : Int), ())))).bind fun r3 =>
     some (r3.1, ()))
    else some ((false, ()), ()))
   else some ((false, ()), ()))
  else some ((false, ()), ())
noncomputable def E64 (c68 : PTup i68 → Option (PTup o68 × BTup i68)) (c67 : PTup i67 → Option (PTup o67 × BTup i67))  : CEnv := ⟨⟨Go.Proofs.Tryz.prog, fnsL [(68, ⟨i68, o68, c68, .nor⟩), (67, ⟨i67, o67, c67, .nor⟩)]⟩, loopsL []⟩
theorem s64 (c68 : PTup i68 → Option (PTup o68 × BTup i68)) (c67 : PTup i67 → Option (PTup o67 × BTup i67))  (y) : tevF (E64 c68 c67 ) Go.Proofs.Tryz.f64 i64 o64 y = m64 c68 c67  y := by kernel_rfl
noncomputable def r64 : PTup i64 → Option (PTup o64 × BTup i64) := m64 r68 r67 
theorem k64 : CallOk Go.Proofs.Tryz.prog 64 ⟨i64, o64, r64, .nor⟩ := by
  have hE : ∀ g f, (E64 r68 r67 ).env.fns g = some f → CallOk Go.Proofs.Tryz.prog g f := fnsL_ok ⟨k68, k67, trivial⟩
  exact fn_ok (E := E64 r68 r67 ) rfl hE mixed (by kernel_rfl) (by kernel_rfl) (AllLoops.of_list (l := []) (by kernel_rfl) trivial) (s64 r68 r67 )
/- loop.example/g00231/spec.l8Dots -/
@[reducible] def i113 : List Ty := [.v (.int .i64)]
@[reducible] def o113 : List Ty := [.v (.int .i64)]
noncomputable def m113   (y : PTup i113) : Option (PTup o113 × BTup i113) :=
  bif (ltI (48 : Int) (Int.tmod y.1 (64 : Int))) then (some (((0 : Int), ()), ()))
  else some (((Int.tmod y.1 (64 : Int)), ()), ())
noncomputable def E113   : CEnv := ⟨⟨Go.Proofs.Tryz.prog, fnsL []⟩, loopsL []⟩
theorem s113   (y) : tevF (E113  ) Go.Proofs.Tryz.f113 i113 o113 y = m113   y := by kernel_rfl
noncomputable def r113 : PTup i113 → Option (PTup o113 × BTup i113) := m113  
theorem k113 : CallOk Go.Proofs.Tryz.prog 113 ⟨i113, o113, r113, .nor⟩ := by
  have hE : ∀ g f, (E113  ).env.fns g = some f → CallOk Go.Proofs.Tryz.prog g f := fnsL_ok trivial
  exact fn_ok (E := E113  ) rfl hE mixed (by kernel_rfl) (by kernel_rfl) (AllLoops.of_list (l := []) (by kernel_rfl) trivial) (s113  )
/- loop.example/g00231/spec.PpuOk -/
@[reducible] def i97 : List Ty := [.a [.int .i64, .int .i64, .int .i64, .int .i64, .int .i64, .bool, .sl false .i, .sl false .i]]
@[reducible] def o97 : List Ty := [.v (.bool)]
@[reducible] def lc97_0 : List Ty := []
@[reducible] def lb97_0 : List Ty := [.p [.int .i64, .int .i64, .int .i64, .int .i64, .int .i64, .bool, .sl false .i, .sl false .i]]
@[reducible] def lv97_0 : List Ty := [.v (.int .i64)]
@[reducible] def lr97_0 : List Ty := [.v (.bool)]
noncomputable def w97_0 (c68 : PTup i68 → Option (PTup o68 × BTup i68)) (c67 : PTup i67 → Option (PTup o67 × BTup i67)) (c113 : PTup i113 → Option (PTup o113 × BTup i113))  (again : PTup lb97_0 → PTup lv97_0 → Option (Sum (PTup lv97_0) (PTup lr97_0) × BTup lb97_0)) (x : PTup lc97_0) (y : PTup lb97_0) (z : PTup lv97_0) : Option (Sum (PTup lv97_0) (PTup lr97_0) × BTup lb97_0) :=
  bif (ltI z.1 (lenI y.1.2.2.2.2.2.2.2.1)) then (bif (leI (0 : Int) z.1) then (bif (ltI z.1 (lenI y.1.2.2.2.2.2.2.2.1)) then ((c68 ((rdE .i y.1.2.2.2.2.2.2.2.1 z.1), ((0 : Int), ((63 : Int), ())))).bind fun r0 =>
     bif (!r0.1.1) then (some ((Sum.inr (false, ())), (y.1, ())))
     else again (y.1, ()) ((wI (z.1 + (1 : Int))), ()))
    else none)
   else none)
  else some ((Sum.inl z), (y.1, ()))
noncomputable def e97_0 (l : PTup lc97_0 → PTup lb97_0 → PTup lv97_0 → Option (Sum (PTup lv97_0) (PTup lr97_0) × BTup lb97_0)) : LoopE := ⟨[], lc97_0, [1], lb97_0, [4], lv97_0, [2], lr97_0, 2, l⟩
@[reducible] def lc97_1 : List Ty := []
@[reducible] def lb97_1 : List Ty := [.p [.int .i64, .int .i64, .int .i64, .int .i64, .int .i64, .bool, .sl false .i, .sl false .i]]
@[reducible] def lv97_1 : List Ty := [.v (.int .i64)]
@[reducible] def lr97_1 : List Ty := [.v (.bool)]
noncomputable def w97_1 (c68 : PTup i68 → Option (PTup o68 × BTup i68)) (c67 : PTup i67 → Option (PTup o67 × BTup i67)) (c113 : PTup i113 → Option (PTup o113 × BTup i113)) (l0 : PTup lc97_0 → PTup lb97_0 → PTup lv97_0 → Option (Sum (PTup lv97_0) (PTup lr97_0) × BTup lb97_0)) (again : PTup lb97_1 → PTup lv97_1 → Option (Sum (PTup lv97_1) (PTup lr97_1) × BTup lb97_1)) (x : PTup lc97_1) (y : PTup lb97_1) (z : PTup lv97_1) : Option (Sum (PTup lv97_1) (PTup lr97_1) × BTup lb97_1) :=
  bif (ltI z.1 (16 : Int)) then (bif (leI (0 : Int) z.1) then (bif (ltI z.1 (lenI y.1.2.2.2.2.2.2.1)) then ((c68 ((rdE .i y.1.2.2.2.2.2.2.1 z.1), ((0 : Int), ((63 : Int), ())))).bind fun r0 =>
     bif (!r0.1.1) then (some ((Sum.inr (false, ())), (y.1, ())))
     else again (y.1, ()) ((wI (z.1 + (1 : Int))), ()))
    else none)
   else none)
  else some ((Sum.inl z), (y.1, ()))
noncomputable def e97_1 (l : PTup lc97_1 → PTup lb97_1 → PTup lv97_1 → Option (Sum (PTup lv97_1) (PTup lr97_1) × BTup lb97_1)) : LoopE := ⟨[], lc97_1, [1], lb97_1, [3], lv97_1, [2], lr97_1, 0, l⟩
noncomputable def m97 (c68 : PTup i68 → Option (PTup o68 × BTup i68)) (c67 : PTup i67 → Option (PTup o67 × BTup i67)) (c113 : PTup i113 → Option (PTup o113 × BTup i113)) (l0 : PTup lc97_0 → PTup lb97_0 → PTup lv97_0 → Option (Sum (PTup lv97_0) (PTup lr97_0) × BTup lb97_0)) (l1 : PTup lc97_1 → PTup lb97_1 → PTup lv97_1 → Option (Sum (PTup lv97_1) (PTup lr97_1) × BTup lb97_1)) (y : PTup i97) : Option (PTup o97 × BTup i97) :=
  (c68 (y.1.1, ((0 : Int), ((20000 : Int), ())))).bind fun r0 =>
  bif (!r0.1.1) then (some ((false, ()), ()))
  else (c67 (y.1.2.1, ())).bind fun r1 =>
  bif (!r1.1.1) then (some ((false, ()), ()))
  else (c67 (y.1.2.2.1, ())).bind fun r2 =>
  bif (!r2.1.1) then (some ((false, ()), ()))
  else (c68 (y.1.2.2.2.1, ((0 : Int), ((15 : Int), ())))).bind fun r3 =>
  bif (!r3.1.1) then (some ((false, ()), ()))
  else (c68 (y.1.2.2.2.2.1, ((0 : Int), ((63 : Int), ())))).bind fun r4 =>
  bif (!r4.1.1) then (some ((false, ()), ()))
  else bif (neI (lenI y.1.2.2.2.2.2.2.1) (16 : Int)) then (some ((false, ()), ()))
  else (c113 (y.1.1, ())).bind fun r5 =>
  bif (neI (lenI y.1.2.2.2.2.2.2.2.1) r5.1.1) then (some ((false, ()), ()))
  else (l1 () (y.1, ()) ((0 : Int), ())).bind fun r6 =>
  sumElim r6.1 (fun r7 => (l0 () ((r6.2.1.1, (r6.2.1.2.1, (r6.2.1.2.2.1, (r6.2.1.2.2.2.1, (r6.2.1.2.2.2.2.1, (r6.2.1.2.2.2.2.2.1, y.1.2.2.2.2.2.2)))))), ()) ((0 : Int), ())).bind fun r8 =>
   sumElim r8.1 (fun r9 => some ((true, ()), ()))
   (fun r9 => some (r9, ())))
  (fun r7 => some (r7, ()))
noncomputable def E97 (c68 : PTup i68 → Option (PTup o68 × BTup i68)) (c67 : PTup i67 → Option (PTup o67 × BTup i67)) (c113 : PTup i113 → Option (PTup o113 × BTup i113)) (l0 : PTup lc97_0 → PTup lb97_0 → PTup lv97_0 → Option (Sum (PTup lv97_0) (PTup lr97_0) × BTup lb97_0)) (l1 : PTup lc97_1 → PTup lb97_1 → PTup lv97_1 → Option (Sum (PTup lv97_1) (PTup lr97_1) × BTup lb97_1)) : CEnv := ⟨⟨Go.Proofs.Tryz.prog, fnsL [(68, ⟨i68, o68, c68, .nor⟩), (67, ⟨i67, o67, c67, .nor⟩), (113, ⟨i113, o113, c113, .nor⟩)]⟩, loopsL [(9, e97_0 l0), (4, e97_1 l1)]⟩
theorem t97_0 (c68 : PTup i68 → Option (PTup o68 × BTup i68)) (c67 : PTup i67 → Option (PTup o67 × BTup i67)) (c113 : PTup i113 → Option (PTup o113 × BTup i113)) (l0 : PTup lc97_0 → PTup lb97_0 → PTup lv97_0 → Option (Sum (PTup lv97_0) (PTup lr97_0) × BTup lb97_0)) (l1 : PTup lc97_1 → PTup lb97_1 → PTup lv97_1 → Option (Sum (PTup lv97_1) (PTup lr97_1) × BTup lb97_1)) (again) (x y z) : loopRound (E97 c68 c67 c113 l0 l1) (loopAt (bodyOf Go.Proofs.Tryz.f97) 1) (e97_0 l0) Go.Proofs.Tryz.f97.ntmps again x y z = w97_0 c68 c67 c113  again x y z := by kernel_rfl
noncomputable def n97_0 (c68 : PTup i68 → Option (PTup o68 × BTup i68)) (c67 : PTup i67 → Option (PTup o67 × BTup i67)) (c113 : PTup i113 → Option (PTup o113 × BTup i113))  : Nat → PTup lc97_0 → PTup lb97_0 → PTup lv97_0 → Option (Sum (PTup lv97_0) (PTup lr97_0) × BTup lb97_0)
  | 0, _, _, _ => none
  | n + 1, x, y, z => w97_0 c68 c67 c113  (fun y z => n97_0 c68 c67 c113  n x y z) x y z
theorem t97_1 (c68 : PTup i68 → Option (PTup o68 × BTup i68)) (c67 : PTup i67 → Option (PTup o67 × BTup i67)) (c113 : PTup i113 → Option (PTup o113 × BTup i113)) (l0 : PTup lc97_0 → PTup lb97_0 → PTup lv97_0 → Option (Sum (PTup lv97_0) (PTup lr97_0) × BTup lb97_0)) (l1 : PTup lc97_1 → PTup lb97_1 → PTup lv97_1 → Option (Sum (PTup lv97_1) (PTup lr97_1) × BTup lb97_1)) (again) (x y z) : loopRound (E97 c68 c67 c113 l0 l1) (loopAt (bodyOf Go.Proofs.Tryz.f97) 0) (e97_1 l1) Go.Proofs.Tryz.f97.ntmps again x y z = w97_1 c68 c67 c113 l0 again x y z := by kernel_rfl
noncomputable def n97_1 (c68 : PTup i68 → Option (PTup o68 × BTup i68)) (c67 : PTup i67 → Option (PTup o67 × BTup i67)) (c113 : PTup i113 → Option (PTup o113 × BTup i113)) (l0 : PTup lc97_0 → PTup lb97_0 → PTup lv97_0 → Option (Sum (PTup lv97_0) (PTup lr97_0) × BTup lb97_0)) : Nat → PTup lc97_1 → PTup lb97_1 → PTup lv97_1 → Option (Sum (PTup lv97_1) (PTup lr97_1) × BTup lb97_1)
  | 0, _, _, _ => none
  | n + 1, x, y, z => w97_1 c68 c67 c113 l0 (fun y z => n97_1 c68 c67 c113 l0 n x y z) x y z
theorem s97 (c68 : PTup i68 → Option (PTup o68 × BTup i68)) (c67 : PTup i67 → Option (PTup o67 × BTup i67)) (c113 : PTup i113 → Option (PTup o113 × BTup i113)) (l0 : PTup lc97_0 → PTup lb97_0 → PTup lv97_0 → Option (Sum (PTup lv97_0) (PTup lr97_0) × BTup lb97_0)) (l1 : PTup lc97_1 → PTup lb97_1 → PTup lv97_1 → Option (Sum (PTup lv97_1) (PTup lr97_1) × BTup lb97_1)) (y) : tevF (E97 c68 c67 c113 l0 l1) Go.Proofs.Tryz.f97 i97 o97 y = m97 c68 c67 c113 l0 l1 y := by kernel_rfl
noncomputable def L97_0 : PTup lc97_0 → PTup lb97_0 → PTup lv97_0 → Option (Sum (PTup lv97_0) (PTup lr97_0) × BTup lb97_0) := n97_0 r68 r67 r113  fuel
noncomputable def L97_1 : PTup lc97_1 → PTup lb97_1 → PTup lv97_1 → Option (Sum (PTup lv97_1) (PTup lr97_1) × BTup lb97_1) := n97_1 r68 r67 r113 L97_0 fuel
noncomputable def r97 : PTup i97 → Option (PTup o97 × BTup i97) := m97 r68 r67 r113 L97_0 L97_1
theorem k97 : CallOk Go.Proofs.Tryz.prog 97 ⟨i97, o97, r97, .nor⟩ := by
  have hE : ∀ g f, (E97 r68 r67 r113 L97_0 L97_1).env.fns g = some f → CallOk Go.Proofs.Tryz.prog g f := fnsL_ok ⟨k68, k67, k113, trivial⟩
  have h0 : LoopOk Go.Proofs.Tryz.prog Go.Proofs.Tryz.f97.ntmps (loopAt (bodyOf Go.Proofs.Tryz.f97) 1) (e97_0 L97_0) := lp_ok (E := E97 r68 r67 r113 L97_0 L97_1) rfl hE mixed (AllLoops.of_list (l := []) (by kernel_rfl) trivial) (n97_0 r68 r67 r113 ) (fun _ _ _ => rfl) (fun n x y z => t97_0 r68 r67 r113 L97_0 L97_1 _ x y z) rfl
  have h1 : LoopOk Go.Proofs.Tryz.prog Go.Proofs.Tryz.f97.ntmps (loopAt (bodyOf Go.Proofs.Tryz.f97) 0) (e97_1 L97_1) := lp_ok (E := E97 r68 r67 r113 L97_0 L97_1) rfl hE mixed (AllLoops.of_list (l := []) (by kernel_rfl) trivial) (n97_1 r68 r67 r113 L97_0) (fun _ _ _ => rfl) (fun n x y z => t97_1 r68 r67 r113 L97_0 L97_1 _ x y z) rfl
  exact fn_ok (E := E97 r68 r67 r113 L97_0 L97_1) rfl hE mixed (by kernel_rfl) (by kernel_rfl) (AllLoops.of_list (l := [(loopAt (bodyOf Go.Proofs.Tryz.f97) 0), (loopAt (bodyOf Go.Proofs.Tryz.f97) 1)]) (by kernel_rfl) (.one (by kernel_rfl) h1 (.one (by kernel_rfl) h0 trivial))) (s97 r68 r67 r113 L97_0 L97_1)
/- loop.example/g00231/spec.RingOk -/
@[reducible] def i98 : List Ty := [.a [.int .i64, .sl false .t]]
@[reducible] def o98 : List Ty := [.v (.bool)]
@[reducible] def lc98_0 : List Ty := []
@[reducible] def lb98_0 : List Ty := [.p [.int .i64, .sl false .t]]
@[reducible] def lv98_0 : List Ty := [.v (.int .i64)]
@[reducible] def lr98_0 : List Ty := [.v (.bool)]
noncomputable def w98_0 (c68 : PTup i68 → Option (PTup o68 × BTup i68)) (c67 : PTup i67 → Option (PTup o67 × BTup i67))  (again : PTup lb98_0 → PTup lv98_0 → Option (Sum (PTup lv98_0) (PTup lr98_0) × BTup lb98_0)) (x : PTup lc98_0) (y : PTup lb98_0) (z : PTup lv98_0) : Option (Sum (PTup lv98_0) (PTup lr98_0) × BTup lb98_0) :=
  bif (ltI z.1 (lenI y.1.2.1)) then (bif (leI (0 : Int) z.1) then (bif (ltI z.1 (lenI y.1.2.1)) then ((c68 ((rdE .t y.1.2.1 z.1).1, ((0 : Int), ((20000 : Int), ())))).bind fun r0 =>
     bif (!r0.1.1) then (some ((Sum.inr (false, ())), (y.1, ())))
     else (c68 ((rdE .t y.1.2.1 z.1).2.1, ((0 : Int), ((7 : Int), ())))).bind fun r1 =>
     bif (!r1.1.1) then (some ((Sum.inr (false, ())), (y.1, ())))
     else (c67 ((rdE .t y.1.2.1 z.1).2.2, ())).bind fun r2 =>
     bif (!r2.1.1) then (some ((Sum.inr (false, ())), (y.1, ())))
     else bif (ltI (0 : Int) z.1) then (bif (leI (0 : Int) (wI (z.1 - (1 : Int)))) then (bif (ltI (wI (z.1 - (1 : Int))) (lenI y.1.2.1)) then (bif (ltI (rdE .t y.1.2.1 z.1).1 (rdE .t y.1.2.1 (wI (z.1 - (1 : Int)))).1) then (some ((Sum.inr (false, ())), (y.1, ())))
        else again (y.1, ()) ((wI (z.1 + (1 : Int))), ()))
       else none)
      else none)
     else again (y.1, ()) ((wI (z.1 + (1 : Int))), ()))
    else none)
   else none)
  else some ((Sum.inl z), (y.1, ()))
noncomputable def e98_0 (l : PTup lc98_0 → PTup lb98_0 → PTup lv98_0 → Option (Sum (PTup lv98_0) (PTup lr98_0) × BTup lb98_0)) : LoopE := ⟨[], lc98_0, [1], lb98_0, [3], lv98_0, [2], lr98_0, 0, l⟩
noncomputable def m98 (c68 : PTup i68 → Option (PTup o68 × BTup i68)) (c67 : PTup i67 → Option (PTup o67 × BTup i67)) (l0 : PTup lc98_0 → PTup lb98_0 → PTup lv98_0 → Option (Sum (PTup lv98_0) (PTup lr98_0) × BTup lb98_0)) (y : PTup i98) : Option (PTup o98 × BTup i98) :=
  (l0 () (y.1, ()) ((0 : Int), ())).bind fun r0 =>
  sumElim r0.1 (fun r1 => (c68 (r0.2.1.1, ((1 : Int), ((16 : Int), ())))).bind fun r2 =>
   bif r2.1.1 then (some (((leI (lenI y.1.2.1) r0.2.1.1), ()), ()))
   else some ((false, ()), ()))
  (fun r1 => some (r1, ()))
noncomputable def E98 (c68 : PTup i68 → Option (PTup o68 × BTup i68)) (c67 : PTup i67 → Option (PTup o67 × BTup i67)) (l0 : PTup lc98_0 → PTup lb98_0 → PTup lv98_0 → Option (Sum (PTup lv98_0) (PTup lr98_0) × BTup lb98_0)) : CEnv := ⟨⟨Go.Proofs.Tryz.prog, fnsL [(68, ⟨i68, o68, c68, .nor⟩), (67, ⟨i67, o67, c67, .nor⟩)]⟩, loopsL [(2, e98_0 l0)]⟩
theorem t98_0 (c68 : PTup i68 → Option (PTup o68 × BTup i68)) (c67 : PTup i67 → Option (PTup o67 × BTup i67)) (l0 : PTup lc98_0 → PTup lb98_0 → PTup lv98_0 → Option (Sum (PTup lv98_0) (PTup lr98_0) × BTup lb98_0)) (again) (x y z) : loopRound (E98 c68 c67 l0) (loopAt (bodyOf Go.Proofs.Tryz.f98) 0) (e98_0 l0) Go.Proofs.Tryz.f98.ntmps again x y z = w98_0 c68 c67  again x y z := by kernel_rfl
noncomputable def n98_0 (c68 : PTup i68 → Option (PTup o68 × BTup i68)) (c67 : PTup i67 → Option (PTup o67 × BTup i67))  : Nat → PTup lc98_0 → PTup lb98_0 → PTup lv98_0 → Option (Sum (PTup lv98_0) (PTup lr98_0) × BTup lb98_0)
  | 0, _, _, _ => none
  | n + 1, x, y, z => w98_0 c68 c67  (fun y z => n98_0 c68 c67  n x y z) x y z
theorem s98 (c68 : PTup i68 → Option (PTup o68 × BTup i68)) (c67 : PTup i67 → Option (PTup o67 × BTup i67)) (l0 : PTup lc98_0 → PTup lb98_0 → PTup lv98_0 → Option (Sum (PTup lv98_0) (PTup lr98_0) × BTup lb98_0)) (y) : tevF (E98 c68 c67 l0) Go.Proofs.Tryz.f98 i98 o98 y = m98 c68 c67 l0 y := by kernel_rfl
noncomputable def L98_0 : PTup lc98_0 → PTup lb98_0 → PTup lv98_0 → Option (Sum (PTup lv98_0) (PTup lr98_0) × BTup lb98_0) := n98_0 r68 r67  fuel
noncomputable def r98 : PTup i98 → Option (PTup o98 × BTup i98) := m98 r68 r67 L98_0
theorem k98 : CallOk Go.Proofs.Tryz.prog 98 ⟨i98, o98, r98, .nor⟩ := by
  have hE : ∀ g f, (E98 r68 r67 L98_0).env.fns g = some f → CallOk Go.Proofs.Tryz.prog g f := fnsL_ok ⟨k68, k67, trivial⟩
  have h0 : LoopOk Go.Proofs.Tryz.prog Go.Proofs.Tryz.f98.ntmps (loopAt (bodyOf Go.Proofs.Tryz.f98) 0) (e98_0 L98_0) := lp_ok (E := E98 r68 r67 L98_0) rfl hE mixed (AllLoops.of_list (l := []) (by kernel_rfl) trivial) (n98_0 r68 r67 ) (fun _ _ _ => rfl) (fun n x y z => t98_0 r68 r67 L98_0 _ x y z) rfl
  exact fn_ok (E := E98 r68 r67 L98_0) rfl hE mixed (by kernel_rfl) (by kernel_rfl) (AllLoops.of_list (l := [(loopAt (bodyOf Go.Proofs.Tryz.f98) 0)]) (by kernel_rfl) (.one (by kernel_rfl) h0 trivial)) (s98 r68 r67 L98_0)
/- loop.example/g00231/spec.l12Frames -/
@[reducible] def i114 : List Ty := [.v (.int .i64)]
@[reducible] def o114 : List Ty := [.v (.int .i64)]
noncomputable def m114   (y : PTup i114) : Option (PTup o114 × BTup i114) :=
  some (((wI (Int.tdiv (wI ((wI ((wI (y.1 + (64 : Int))) - (48 : Int))) - (1 : Int))) (64 : Int))), ()), ())
noncomputable def E114   : CEnv := ⟨⟨Go.Proofs.Tryz.prog, fnsL []⟩, loopsL []⟩
theorem s114   (y) : tevF (E114  ) Go.Proofs.Tryz.f114 i114 o114 y = m114   y := by kernel_rfl
noncomputable def r114 : PTup i114 → Option (PTup o114 × BTup i114) := m114  
theorem k114 : CallOk Go.Proofs.Tryz.prog 114 ⟨i114, o114, r114, .nor⟩ := by
  have hE : ∀ g f, (E114  ).env.fns g = some f → CallOk Go.Proofs.Tryz.prog g f := fnsL_ok trivial
  exact fn_ok (E := E114  ) rfl hE mixed (by kernel_rfl) (by kernel_rfl) (AllLoops.of_list (l := []) (by kernel_rfl) trivial) (s114  )
/- loop.example/g00231/spec.l12FramesOk -/
@[reducible] def i99 : List Ty := [.v (.sl false .n), .v (.int .i64)]
@[reducible] def o99 : List Ty := [.v (.bool)]
@[reducible] def lc99_0 : List Ty := [.v (.sl false .n)]
@[reducible] def lb99_0 : List Ty := []
@[reducible] def lv99_0 : List Ty := [.v (.int .i64)]
@[reducible] def lr99_0 : List Ty := [.v (.bool)]
noncomputable def w99_0 (c114 : PTup i114 → Option (PTup o114 × BTup i114))  (again : PTup lb99_0 → PTup lv99_0 → Option (Sum (PTup lv99_0) (PTup lr99_0) × BTup lb99_0)) (x : PTup lc99_0) (y : PTup lb99_0) (z : PTup lv99_0) : Option (Sum (PTup lv99_0) (PTup lr99_0) × BTup lb99_0) :=
  bif (ltI z.1 (lenI x.1)) then (bif (leI (0 : Int) z.1) then (bif (ltI z.1 (lenI x.1)) then (bif (neI (lenI (rdE .n x.1 z.1)) (48 : Int)) then (some ((Sum.inr (false, ())), ()))
     else again () ((wI (z.1 + (1 : Int))), ()))
    else none)
   else none)
  else some ((Sum.inl z), ())
noncomputable def e99_0 (l : PTup lc99_0 → PTup lb99_0 → PTup lv99_0 → Option (Sum (PTup lv99_0) (PTup lr99_0) × BTup lb99_0)) : LoopE := ⟨[0], lc99_0, [], lb99_0, [5], lv99_0, [4], lr99_0, 0, l⟩
noncomputable def m99 (c114 : PTup i114 → Option (PTup o114 × BTup i114)) (l0 : PTup lc99_0 → PTup lb99_0 → PTup lv99_0 → Option (Sum (PTup lv99_0) (PTup lr99_0) × BTup lb99_0)) (y : PTup i99) : Option (PTup o99 × BTup i99) :=
  (l0 (y.1, ()) () ((0 : Int), ())).bind fun r0 =>
  sumElim r0.1 (fun r1 => (c114 y.2).bind fun r2 =>
   some (((eqI (lenI y.1) r2.1.1), ()), ()))
  (fun r1 => some (r1, ()))
noncomputable def E99 (c114 : PTup i114 → Option (PTup o114 × BTup i114)) (l0 : PTup lc99_0 → PTup lb99_0 → PTup lv99_0 → Option (Sum (PTup lv99_0) (PTup lr99_0) × BTup lb99_0)) : CEnv := ⟨⟨Go.Proofs.Tryz.prog, fnsL [(114, ⟨i114, o114, c114, .nor⟩)]⟩, loopsL [(2, e99_0 l0)]⟩
theorem t99_0 (c114 : PTup i114 → Option (PTup o114 × BTup i114)) (l0 : PTup lc99_0 → PTup lb99_0 → PTup lv99_0 → Option (Sum (PTup lv99_0) (PTup lr99_0) × BTup lb99_0)) (again) (x y z) : loopRound (E99 c114 l0) (loopAt (bodyOf Go.Proofs.Tryz.f99) 0) (e99_0 l0) Go.Proofs.Tryz.f99.ntmps again x y z = w99_0 c114  again x y z := by kernel_rfl
noncomputable def n99_0 (c114 : PTup i114 → Option (PTup o114 × BTup i114))  : Nat → PTup lc99_0 → PTup lb99_0 → PTup lv99_0 → Option (Sum (PTup lv99_0) (PTup lr99_0) × BTup lb99_0)
  | 0, _, _, _ => none
  | n + 1, x, y, z => w99_0 c114  (fun y z => n99_0 c114  n x y z) x y z
theorem s99 (c114 : PTup i114 → Option (PTup o114 × BTup i114)) (l0 : PTup lc99_0 → PTup lb99_0 → PTup lv99_0 → Option (Sum (PTup lv99_0) (PTup lr99_0) × BTup lb99_0)) (y) : tevF (E99 c114 l0) Go.Proofs.Tryz.f99 i99 o99 y = m99 c114 l0 y := by kernel_rfl
noncomputable def L99_0 : PTup lc99_0 → PTup lb99_0 → PTup lv99_0 → Option (Sum (PTup lv99_0) (PTup lr99_0) × BTup lb99_0) := n99_0 r114  fuel
noncomputable def r99 : PTup i99 → Option (PTup o99 × BTup i99) := m99 r114 L99_0
theorem k99 : CallOk Go.Proofs.Tryz.prog 99 ⟨i99, o99, r99, .nor⟩ := by
  have hE : ∀ g f, (E99 r114 L99_0).env.fns g = some f → CallOk Go.Proofs.Tryz.prog g f := fnsL_ok ⟨k114, trivial⟩
  have h0 : LoopOk Go.Proofs.Tryz.prog Go.Proofs.Tryz.f99.ntmps (loopAt (bodyOf Go.Proofs.Tryz.f99) 0) (e99_0 L99_0) := lp_ok (E := E99 r114 L99_0) rfl hE mixed (AllLoops.of_list (l := []) (by kernel_rfl) trivial) (n99_0 r114 ) (fun _ _ _ => rfl) (fun n x y z => t99_0 r114 L99_0 _ x y z) rfl
  exact fn_ok (E := E99 r114 L99_0) rfl hE mixed (by kernel_rfl) (by kernel_rfl) (AllLoops.of_list (l := [(loopAt (bodyOf Go.Proofs.Tryz.f99) 0)]) (by kernel_rfl) (.one (by kernel_rfl) h0 trivial)) (s99 r114 L99_0)
/- loop.example/g00231/spec.PictureOk -/
@[reducible] def i65 : List Ty := [.a [.int .i64, .int .i64, .int .i64, .int .i64, .int .i64, .bool, .sl false .i, .sl false .i, .int .i64, .sl false .t, .sl false .n]]
@[reducible] def o65 : List Ty := [.v (.bool)]
noncomputable def m65 (c97 : PTup i97 → Option (PTup o97 × BTup i97)) (c98 : PTup i98 → Option (PTup o98 × BTup i98)) (c99 : PTup i99 → Option (PTup o99 × BTup i99))  (y : PTup i65) : Option (PTup o65 × BTup i65) :=
  (c97 ((y.1.1, (y.1.2.1, (y.1.2.2.1, (y.1.2.2.2.1, (y.1.2.2.2.2.1, (y.1.2.2.2.2.2.1, (y.1.2.2.2.2.2.2.1, (y.1.2.2.2.2.2.2.2.1, ())))))))), ())).bind fun r0 =>
  bif (!r0.1.1) then (some ((false, ()), ()))
  else (c98 ((y.1.2.2.2.2.2.2.2.2.1, (y.1.2.2.2.2.2.2.2.2.2.1, ())), ())).bind fun r1 =>
  bif (!r1.1.1) then (some ((false, ()), ()))
  else bif (eqI (lenI y.1.2.2.2.2.2.2.2.2.2.1) (0 : Int)) then ((c99 (y.1.2.2.2.2.2.2.2.2.2.2.1, (y.1.1, ()))).bind fun r2 =>
   some (r2.1, ()))
  else bif (ltI (0 : Int) (lenI y.1.2.2.2.2.2.2.2.2.2.1)) then (bif (leI y.1.1 (rdE .t y.1.2.2.2.2.2.2.2.2.2.1 (0 : Int)).1) then ((c99 (y.1.2.2.2.2.2.2.2.2.2.2.1, (y.1.1, ()))).bind fun r2 =>
    some (r2.1, ()))
   else some ((false, ()), ()))
  else none
noncomputable def E65 (c97 : PTup i97 → Option (PTup o97 × BTup i97)) (c98 : PTup i98 → Option (PTup o98 × BTup i98)) (c99 : PTup i99 → Option (PTup o99 × BTup i99))  : CEnv := ⟨⟨Go.Proofs.Tryz.prog, fnsL [(97, ⟨i97, o97, c97, .nor⟩), (98, ⟨i98, o98, c98, .nor⟩), (99, ⟨i99, o99, c99, .nor⟩)]⟩, loopsL []⟩
theorem s65 (c97 : PTup i97 → Option (PTup o97 × BTup i97)) (c98 : PTup i98 → Option (PTup o98 × BTup i98)) (c99 : PTup i99 → Option (PTup o99 × BTup i99))  (y) : tevF (E65 c97 c98 c99 ) Go.Proofs.Tryz.f65 i65 o65 y = m65 c97 c98 c99  y := by kernel_rfl
noncomputable def r65 : PTup i65 → Option (PTup o65 × BTup i65) := m65 r97 r98 r99 
theorem k65 : CallOk Go.Proofs.Tryz.prog 65 ⟨i65, o65, r65, .nor⟩ := by
  have hE : ∀ g f, (E65 r97 r98 r99 ).env.fns g = some f → CallOk Go.Proofs.Tryz.prog g f := fnsL_ok ⟨k97, k98, k99, trivial⟩
  exact fn_ok (E := E65 r97 r98 r99 ) rfl hE mixed (by kernel_rfl) (by kernel_rfl) (AllLoops.of_list (l := []) (by kernel_rfl) trivial) (s65 r97 r98 r99 )
/- loop.example/g00231/spec.ApuOk -/
@[reducible] def i100 : List Ty := [.a [.int .i64, .int .i64, .int .i64, .int .i64, .int .i64, .bool, .bool]]
@[reducible] def o100 : List Ty := [.v (.bool)]
noncomputable def m100 (c68 : PTup i68 → Option (PTup o68 × BTup i68)) (c67 : PTup i67 → Option (PTup o67 × BTup i67))  (y : PTup i100) : Option (PTup o100 × BTup i100) :=
  (c68 (y.1.1, ((0 : Int), ((20000 : Int), ())))).bind fun r0 =>
  bif r0.1.1 then ((c67 (y.1.2.1, ())).bind fun r1 =>
   bif r1.1.1 then ((c67 (y.1.2.2.1, ())).bind fun r2 =>
    bif r2.1.1 then ((c68 (y.1.2.2.2.1, ((0 : Int), ((1 : Int), ())))).bind fun r3 =>
     bif r3.1.1 then ((c68 (y.1.2.2.2.2.1, ((0 : Int), ((31 : Int), ())))).bind fun r4 =>
      some (r4.1, ()))
     else some ((false, ()), ()))
    else some ((false, ()), ()))
   else some ((false, ()), ()))
  else some ((false, ()), ())
noncomputable def E100 (c68 : PTup i68 → Option (PTup o68 × BTup i68)) (c67 : PTup i67 → Option (PTup o67 × BTup i67))  : CEnv := ⟨⟨Go.Proofs.Tryz.prog, fnsL [(68, ⟨i68, o68, c68, .nor⟩), (67, ⟨i67, o67, c67, .nor⟩)]⟩, loopsL []⟩
theorem s100 (c68 : PTup i68 → Option (PTup o68 × BTup i68)) (c67 : PTup i67 → Option (PTup o67 × BTup i67))  (y) : tevF (E100 c68 c67 ) Go.Proofs.Tryz.f100 i100 o100 y = m100 c68 c67  y := by kernel_rfl
noncomputable def r100 : PTup i100 → Option (PTup o100 × BTup i100) := m100 r68 r67 
theorem k100 : CallOk Go.Proofs.Tryz.prog 100 ⟨i100, o100, r100, .nor⟩ := by
  have hE : ∀ g f, (E100 r68 r67 ).env.fns g = some f → CallOk Go.Proofs.Tryz.prog g f := fnsL_ok ⟨k68, k67, trivial⟩
  exact fn_ok (E := E100 r68 r67 ) rfl hE mixed (by kernel_rfl) (by kernel_rfl) (AllLoops.of_list (l := []) (by kernel_rfl) trivial) (s100 r68 r67 )
/- loop.example/g00231/spec.SoundOk -/
@[reducible] def i66 : List Ty := [.a [.int .i64, .int .i64, .int .i64, .int .i64, .int .i64, .bool, .bool, .int .i64, .sl false .t, .sl false .i]]
@[reducible] def o66 : List Ty := [.v (.bool)]
noncomputable def m66 (c100 : PTup i100 → Option (PTup o100 × BTup i100)) (c98 : PTup i98 → Option (PTup o98 × BTup i98))  (y : PTup i66) : Option (PTup o66 × BTup i66) :=
  (c100 ((y.1.1, (y.1.2.1, (y.1.2.2.1, (y.1.2.2.2.1, (y.1.2.2.2.2.1, (y.1.2.2.2.2.2.1, (y.1.2.2.2.2.2.2.1, ()))))))), ())).bind fun r0 =>
  bif (!r0.1.1) then (some ((false, ()), ()))
  else (c98 ((y.1.2.2.2.2.2.2.2.1, (y.1.2.2.2.2.2.2.2.2.1, ())), ())).bind fun r1 =>
  bif (!r1.1.1) then (some ((false, ()), ()))
  else bif (eqI (lenI y.1.2.2.2.2.2.2.2.2.1) (0 : Int)) then (some (((eqI (lenI y.1.2.2.2.2.2.2.2.2.2.1) (wI (Int.tdiv y.1.1 (16 : Int)))), ()), ()))
  else bif (ltI (0 : Int) (lenI y.1.2.2.2.2.2.2.2.2.1)) then (bif (leI y.1.1 (rdE .t y.1.2.2.2.2.2.2.2.2.1 (0 : Int)).1) then (some (((eqI (lenI y.1.2.2.2.2.2.2.2.2.2.1) (wI (Int.tdiv y.1.1 (16 : Int)))), ()), ()))
   else some ((false, ()), ()))
  else none
noncomputable def E66 (c100 : PTup i100 → Option (PTup o100 × BTup i100)) (c98 : PTup i98 → Option (PTup o98 × BTup i98))  : CEnv := ⟨⟨Go.Proofs.Tryz.prog, fnsL [(100, ⟨i100, o100, c100, .nor⟩), (98, ⟨i98, o98, c98, .nor⟩)]⟩, loopsL []⟩
theorem s66 (c100 : PTup i100 → Option (PTup o100 × BTup i100)) (c98 : PTup i98 → Option (PTup o98 × BTup i98))  (y) : tevF (E66 c100 c98 ) Go.Proofs.Tryz.f66 i66 o66 y = m66 c100 c98  y := by kernel_rfl
noncomputable def r66 : PTup i66 → Option (PTup o66 × BTup i66) := m66 r100 r98 
theorem k66 : CallOk Go.Proofs.Tryz.prog 66 ⟨i66, o66, r66, .nor⟩ := by
  have hE : ∀ g f, (E66 r100 r98 ).env.fns g = some f → CallOk Go.Proofs.Tryz.prog g f := fnsL_ok ⟨k100, k98, trivial⟩
  exact fn_ok (E := E66 r100 r98 ) rfl hE mixed (by kernel_rfl) (by kernel_rfl) (AllLoops.of_list (l := []) (by kernel_rfl) trivial) (s66 r100 r98 )
/- loop.example/g00231/spec.l14Last -/
@[reducible] def i69 : List Ty := [.a [.int .i64, .sl false .t]]
@[reducible] def o69 : List Ty := [.v (.int .i64)]
noncomputable def m69   (y : PTup i69) : Option (PTup o69 × BTup i69) :=
  bif (eqI (lenI y.1.2.1) (0 : Int)) then (some (((0 : Int), ()), ()))
  else bif (leI (0 : Int) (wI ((lenI y.1.2.1) - (1 : Int)))) then (bif (ltI (wI ((lenI y.1.2.1) - (1 : Int))) (lenI y.1.2.1)) then (some (((rdE .t y.1.2.1 (wI ((lenI y.1.2.1) - (1 : Int)))).1, ()), ()))
   else none)
  else none
noncomputable def E69   : CEnv := ⟨⟨Go.Proofs.Tryz.prog, fnsL []⟩, loopsL []⟩
theorem s69   (y) : tevF (E69  ) Go.Proofs.Tryz.f69 i69 o69 y = m69   y := by kernel_rfl
noncomputable def r69 : PTup i69 → Option (PTup o69 × BTup i69) := m69  
theorem k69 : CallOk Go.Proofs.Tryz.prog 69 ⟨i69, o69, r69, .nor⟩ := by
  have hE : ∀ g f, (E69  ).env.fns g = some f → CallOk Go.Proofs.Tryz.prog g f := fnsL_ok trivial
  exact fn_ok (E := E69  ) rfl hE mixed (by kernel_rfl) (by kernel_rfl) (AllLoops.of_list (l := []) (by kernel_rfl) trivial) (s69  )
/- loop.example/g00231/spec.SplitOk -/
@[reducible] def i18 : List Ty := [.a [.sl false .n, .sl false .i, .sl false .i, .int .i64, .int .i64, .int .i64, .int .i64, .int .i64, .bool, .bool, .bool, .bool, .bool, .int .i64, .int .i64, .bool, .int .i64, .bool, .int .i64, .int .i64, .sl false .i, .int .i64, .int .i64, .int .i64, .int .i64, .int .i64, .bool, .sl false .i, .sl false .i, .int .i64, .sl false .t, .sl false .n, .int .i64, .int .i64, .int .i64, .int .i64, .int .i64, .bool, .bool, .int .i64, .sl false .t, .sl false .i]]
@[reducible] def o18 : List Ty := [.v (.bool)]
noncomputable def m18 (c64 : PTup i64 → Option (PTup o64 × BTup i64)) (c63 : PTup i63 → Option (PTup o63 × BTup i63)) (c62 : PTup i62 → Option (PTup o62 × BTup i62)) (c65 : PTup i65 → Option (PTup o65 × BTup i65)) (c66 : PTup i66 → Option (PTup o66 × BTup i66)) (c69 : PTup i69 → Option (PTup o69 × BTup i69)) (c68 : PTup i68 → Option (PTup o68 × BTup i68)) (c67 : PTup i67 → Option (PTup o67 × BTup i67))  (y : PTup i18) : Option (PTup o18 × BTup i18) :=
  (c62 (y.1.2.1, ())).bind fun r0 =>
  bif (!r0.1.1) then (some ((false, ()), ()))
  else (c63 ((y.1.1, ()), ((y.1.2.2.1, (y.1.2.2.2.1, ())), ()))).bind fun r1 =>
  bif (!r1.1.1) then (some ((false, ()), ()))
  else (c64 ((y.1.2.2.2.2.1, (y.1.2.2.2.2.2.1, (y.1.2.2.2.2.2.2.1, (y.1.2.2.2.2.2.2.2.1, (y.1.2.2.2.2.2.2.2.2.1, (y.1.2.2.2.2.2.2.2.2.2.1, (y.1.2.2.2.2.2.2.2.2.2.2.1, (y.1.2.2.2.2.2.2.2.2.2.2.2.1, ())))))))), ())).bind fun r2 =>
  bif (!r2.1.1) then (some ((false, ()), ()))
  else (c65 ((y.1.2.2.2.2.2.2.2.2.2.2.2.2.2.2.2.2.2.2.2.2.2.1, (y.1.2.2.2.2.2.2.2.2.2.2.2.2.2.2.2.2.2.2.2.2.2.2.1, (y.1.2.2.2.2.2.2.2.2.2.2.2.2.2.2.2.2.2.2.2.2.2.2.2.1, (y.1.2.2.2.2.2.2.2.2.2.2.2.2.2.2.2.2.2.2.2.2.2.2.2.2.1, (y.1.2.2.2.2.2.2.2.2.2.2.2.2.2.2.2.2.2.2.2.2.2.2.2.2.2.1, (y.1.2.2.2.2.2.2.2.2.2.2.2.2.2.2.2.2.2.2.2.2.2.2.2.2.2.2.1, (y.1.2.2.2.2.2.2.2.2.2.2.2.2.2.2.2.2.2.2.2.2.2.2.2.2.2.2.2.1, (y.1.2.2.2.2.2.2.2.2.2.2.2.2.2.2.2.2.2.2.2.2.2.2.2.2.2.2.2.2.1, (y.1.2.2.2.2.2.2.2.2.2.2.2.2.2.2.2.2.2.2.2.2.2.2.2.2.2.2.2.2.2.1, (y.1.2.2.2.2.2.2.2.2.2.2.2.2.2.2.2.2.2.2.2.2.2.2.2.2.2.2.2.2.2.2.1, (y.1.2.2.2.2.2.2.2.2.2.2.2.2.2.2.2.2.2.2.2.2.2.2.2.2.2.2.2.2.2.2.2.1, ()))))))))))), ())).bind fun r3 =>
  bif (!r3.1.1) then (some ((false, ()), ()))
  else (c66 (y.1.2.2.2.2.2.2.2.2.2.2.2.2.2.2.2.2.2.2.2.2.2.2.2.2.2.2.2.2.2.2.2.2, ())).bind fun r4 =>
  bif (!r4.1.1) then (some ((false, ()), ()))
  else (c67 (y.1.2.2.2.2.2.2.2.2.2.2.2.2.2.1, ())).bind fun r5 =>
  bif (!r5.1.1) then (some ((false, ()), ()))
  else (c67 (y.1.2.2.2.2.2.2.2.2.2.2.2.2.2.2.2.2.1, ())).bind fun r6 =>
  bif (!r6.1.1) then (some ((false, ()), ()))
  else (c68 (y.1.2.2.2.2.2.2.2.2.2.2.2.2.2.2.1, ((0 : Int), ((20000 : Int), ())))).bind fun r7 =>
  bif (!r7.1.1) then (some ((false, ()), ()))
  else (c68 (y.1.2.2.2.2.2.2.2.2.2.2.2.2.2.2.2.2.2.2.1, ((0 : Int), (y.1.2.2.2.2.2.2.2.2.2.2.2.2.2.2.1, ())))).bind fun r8 =>
  bif (!r8.1.1) then (some ((false, ()), ()))
  else (c68 (y.1.2.2.2.2.2.2.2.2.2.2.2.2.2.2.2.2.2.2.2.1, ((0 : Int), (y.1.2.2.2.2.2.2.2.2.2.2.2.2.2.2.1, ())))).bind fun r9 =>
  bif (!r9.1.1) then (some ((false, ()), ()))
  else bif (ltI y.1.2.2.2.2.2.2.2.2.2.2.2.2.2.2.1 y.1.2.2.2.2.2.2.2.2.2.2.2.2.2.2.2.2.2.2.2.2.2.1) then (some ((false, ()), ()))
  else bif (ltI y.1.2.2.2.2.2.2.2.2.2.2.2.2.2.2.1 y.1.2.2.2.2.2.2.2.2.2.2.2.2.2.2.2.2.2.2.2.2.2.2.2.2.2.2.2.2.2.2.2.2.1) then (some ((false, ()), ()))
  else (c69 ((y.1.2.2.2.2.2.2.2.2.2.2.2.2.2.2.2.2.2.2.2.2.2.2.2.2.2.2.2.2.2.1, (y.1.2.2.2.2.2.2.2.2.2.2.2.2.2.2.2.2.2.2.2.2.2.2.2.2.2.2.2.2.2.2.1, ())), ())).bind fun r10 =>
  bif (leI r10.1.1 y.1.2.2.2.2.2.2.2.2.2.2.2.2.2.2.1) then ((c69 ((y.1.2.2.2.2.2.2.2.2.2.2.2.2.2.2.2.2.2.2.2.2.2.2.2.2.2.2.2.2.2.2.2.2.2.2.2.2.2.2.2.1, (y.1.2.2.2.2.2.2.2.2.2.2.2.2.2.2.2.2.2.2.2.2.2.2.2.2.2.2.2.2.2.2.2.2.2.2.2.2.2.2.2.2.1, ())), ())).bind fun r11 =>
   some (((leI r11.1.1 y.1.2.2.2.2.2.2.2.2.2.2.2.2.2.2.1), ()), ()))
  else some ((false, ()), ())
noncomputable def E18 (c64 : PTup i64 → Option (PTup o64 × BTup i64)) (c63 : PTup i63 → Option (PTup o63 × BTup i63)) (c62 : PTup i62 → Option (PTup o62 × BTup i62)) (c65 : PTup i65 → Option (PTup o65 × BTup i65)) (c66 : PTup i66 → Option (PTup o66 × BTup i66)) (c69 : PTup i69 → Option (PTup o69 × BTup i69)) (c68 : PTup i68 → Option (PTup o68 × BTup i68)) (c67 : PTup i67 → Option (PTup o67 × BTup i67))  : CEnv := ⟨⟨Go.Proofs.Tryz.prog, fnsL [(64, ⟨i64, o64, c64, .nor⟩), (63, ⟨i63, o63, c63, .nor⟩), (62, ⟨i62, o62, c62, .nor⟩), (65, ⟨i65, o65, c65, .nor⟩), (66, ⟨i66, o66, c66, .nor⟩), (69, ⟨i69, o69, c69, .nor⟩), (68, ⟨i68, o68, c68, .nor⟩), (67, ⟨i67, o67, c67, .nor⟩)]⟩, loopsL []⟩
theorem s18 (c64 : PTup i64 → Option (PTup o64 × BTup i64)) (c63 : PTup i63 → Option (PTup o63 × BTup i63)) (c62 : PTup i62 → Option (PTup o62 × BTup i62)) (c65 : PTup i65 → Option (PTup o65 × BTup i65)) (c66 : PTup i66 → Option (PTup o66 × BTup i66)) (c69 : PTup i69 → Option (PTup o69 × BTup i69)) (c68 : PTup i68 → Option (PTup o68 × BTup i68)) (c67 : PTup i67 → Option (PTup o67 × BTup i67))  (y) : tevF (E18 c64 c63 c62 c65 c66 c69 c68 c67 ) Go.Proofs.Tryz.f18 i18 o18 y = m18 c64 c63 c62 c65 c66 c69 c68 c67  y := by kernel_rfl
noncomputable def r18 : PTup i18 → Option (PTup o18 × BTup i18) := m18 r64 r63 r62 r65 r66 r69 r68 r67 
theorem k18 : CallOk Go.Proofs.Tryz.prog 18 ⟨i18, o18, r18, .nor⟩ := by
  have hE : ∀ g f, (E18 r64 r63 r62 r65 r66 r69 r68 r67 ).env.fns g = some f → CallOk Go.Proofs.Tryz.prog g f := fnsL_ok ⟨k64, k63, k62, k65, k66, k69, k68, k67, trivial⟩
  exact fn_ok (E := E18 r64 r63 r62 r65 r66 r69 r68 r67 ) rfl hE mixed (by kernel_rfl) (by kernel_rfl) (AllLoops.of_list (l := []) (by kernel_rfl) trivial) (s18 r64 r63 r62 r65 r66 r69 r68 r67 )
/- loop.example/g00231/spec.l15PictureUp -/
@[reducible] def i19 : List Ty := [.a [.sl false .n, .sl false .i, .sl false .i, .int .i64, .int .i64, .int .i64, .int .i64, .int .i64, .bool, .bool, .bool, .bool, .bool, .int .i64, .int .i64, .bool, .int .i64, .bool, .int .i64, .int .i64, .sl false .i, .int .i64, .int .i64, .int .i64, .int .i64, .int .i64, .bool, .sl false .i, .sl false .i, .int .i64, .sl false .t, .sl false .n, .int .i64, .int .i64, .int .i64, .int .i64, .int .i64, .bool, .bool, .int .i64, .sl false .t, .sl false .i]]
@[reducible] def o19 : List Ty := [.v (.bool)]
noncomputable def m19   (y : PTup i19) : Option (PTup o19 × BTup i19) :=
  bif (eqI y.1.2.2.2.2.2.2.2.2.2.2.2.2.2.2.2.2.2.2.2.2.2.1 y.1.2.2.2.2.2.2.2.2.2.2.2.2.2.2.1) then (some (((eqI (lenI y.1.2.2.2.2.2.2.2.2.2.2.2.2.2.2.2.2.2.2.2.2.2.2.2.2.2.2.2.2.2.2.1) (0 : Int)), ()), ()))
  else some ((false, ()), ())
noncomputable def E19   : CEnv := ⟨⟨Go.Proofs.Tryz.prog, fnsL []⟩, loopsL []⟩
theorem s19   (y) : tevF (E19  ) Go.Proofs.Tryz.f19 i19 o19 y = m19   y := by kernel_rfl
noncomputable def r19 : PTup i19 → Option (PTup o19 × BTup i19) := m19  
theorem k19 : CallOk Go.Proofs.Tryz.prog 19 ⟨i19, o19, r19, .nor⟩ := by
  have hE : ∀ g f, (E19  ).env.fns g = some f → CallOk Go.Proofs.Tryz.prog g f := fnsL_ok trivial
  exact fn_ok (E := E19  ) rfl hE mixed (by kernel_rfl) (by kernel_rfl) (AllLoops.of_list (l := []) (by kernel_rfl) trivial) (s19  )
/- loop.example/g00231/spec.l15SoundUp -/
@[reducible] def i20 : List Ty := [.a [.sl false .n, .sl false .i, .sl false .i, .int .i64, .int .i64, .int .i64, .int .i64, .int .i64, .bool, .bool, .bool, .bool, .bool, .int .i64, .int .i64, .bool, .int .i64, .bool, .int .i64, .int .i64, .sl false .i, .int .i64, .int .i64, .int .i64, .int .i64, .int .i64, .bool, .sl false .i, .sl false .i, .int .i64, .sl false .t, .sl false .n, .int .i64, .int .i64, .int .i64, .int .i64, .int .i64, .bool, .bool, .int .i64, .sl false .t, .sl false .i]]
@[reducible] def o20 : List Ty := [.v (.bool)]
noncomputable def m20   (y : PTup i20) : Option (PTup o20 × BTup i20) :=
  bif (eqI y.1.2.2.2.2.2.2.2.2.2.2.2.2.2.2.2.2.2.2.2.2.2.2.2.2.2.2.2.2.2.2.2.2.1 y.1.2.2.2.2.2.2.2.2.2.2.2.2.2.2.1) then (some (((eqI (lenI y.1.2.2.2.2.2.2.2.2.2.2.2.2.2.2.2.2.2.2.2.2.2.2.2.2.2.2.2.2.2.2.2.2.2.2.2.2.2.2.2.2.1) (0 : Int)), ()), ()))
  else some ((false, ()), ())
noncomputable def E20   : CEnv := ⟨⟨Go.Proofs.Tryz.prog, fnsL []⟩, loopsL []⟩
theorem s20   (y) : tevF (E20  ) Go.Proofs.Tryz.f20 i20 o20 y = m20   y := by kernel_rfl
noncomputable def r20 : PTup i20 → Option (PTup o20 × BTup i20) := m20  
theorem k20 : CallOk Go.Proofs.Tryz.prog 20 ⟨i20, o20, r20, .nor⟩ := by
  have hE : ∀ g f, (E20  ).env.fns g = some f → CallOk Go.Proofs.Tryz.prog g f := fnsL_ok trivial
  exact fn_ok (E := E20  ) rfl hE mixed (by kernel_rfl) (by kernel_rfl) (AllLoops.of_list (l := []) (by kernel_rfl) trivial) (s20  )
/- loop.example/g00231/spec.l12Image -/
@[reducible] def i21 : List Ty := [.a [.sl false .n]]
@[reducible] def o21 : List Ty := [.a [.sl true .n]]
@[reducible] def lc21_0 : List Ty := []
@[reducible] def lb21_0 : List Ty := [.p [.sl false .n], .p [.sl true .n]]
@[reducible] def lv21_0 : List Ty := [.v (.int .i64)]
@[reducible] def lr21_0 : List Ty := []
noncomputable def w21_0   (again : PTup lb21_0 → PTup lv21_0 → Option (Sum (PTup lv21_0) (PTup lr21_0) × BTup lb21_0)) (x : PTup lc21_0) (y : PTup lb21_0) (z : PTup lv21_0) : Option (Sum (PTup lv21_0) (PTup lr21_0) × BTup lb21_0) :=
  bif (ltI z.1 (lenI y.1.1)) then (bif (leI (0 : Int) z.1) then (bif (ltI z.1 (lenI y.1.1)) then (bif (leN (0 + (List.length (rdE .n y.1.1 z.1))) (E.most .i)) then (bif (leN ((List.length y.2.1.1) + (List.length (([] ++ (rdE .n y.1.1 z.1)) :: []))) (E.most .n)) then (again (y.1, (((y.2.1.1 ++ (([] ++ (rdE .n y.1.1 z.1)) :: [])), ()), ())) ((wI (z.1 + (1 : Int))), ()))
      else none)
     else none)
    else none)
   else none)
  else some ((Sum.inl z), (y.1, (y.2.1, ())))
noncomputable def e21_0 (l : PTup lc21_0 → PTup lb21_0 → PTup lv21_0 → Option (Sum (PTup lv21_0) (PTup lr21_0) × BTup lb21_0)) : LoopE := ⟨[], lc21_0, [1, 3], lb21_0, [4], lv21_0, [], lr21_0, 0, l⟩
noncomputable def m21  (l0 : PTup lc21_0 → PTup lb21_0 → PTup lv21_0 → Option (Sum (PTup lv21_0) (PTup lr21_0) × BTup lb21_0)) (y : PTup i21) : Option (PTup o21 × BTup i21) :=
  (l0 () (y.1, (([], ()), ())) ((0 : Int), ())).bind fun r0 =>
  sumElim r0.1 (fun r1 => some ((r0.2.2.1, ()), ()))
  (fun r1 => some ((([], ()), ()), ()))
noncomputable def E21  (l0 : PTup lc21_0 → PTup lb21_0 → PTup lv21_0 → Option (Sum (PTup lv21_0) (PTup lr21_0) × BTup lb21_0)) : CEnv := ⟨⟨Go.Proofs.Tryz.prog, fnsL []⟩, loopsL [(3, e21_0 l0)]⟩
theorem t21_0  (l0 : PTup lc21_0 → PTup lb21_0 → PTup lv21_0 → Option (Sum (PTup lv21_0) (PTup lr21_0) × BTup lb21_0)) (again) (x y z) : loopRound (E21  l0) (loopAt (bodyOf Go.Proofs.Tryz.f21) 0) (e21_0 l0) Go.Proofs.Tryz.f21.ntmps again x y z = w21_0   again x y z := by kernel_rfl
noncomputable def n21_0   : Nat → PTup lc21_0 → PTup lb21_0 → PTup lv21_0 → Option (Sum (PTup lv21_0) (PTup lr21_0) × BTup lb21_0)
  | 0, _, _, _ => none
  | n + 1, x, y, z => w21_0   (fun y z => n21_0   n x y z) x y z
theorem s21  (l0 : PTup lc21_0 → PTup lb21_0 → PTup lv21_0 → Option (Sum (PTup lv21_0) (PTup lr21_0) × BTup lb21_0)) (y) : tevF (E21  l0) Go.Proofs.Tryz.f21 i21 o21 y = m21  l0 y := by kernel_rfl
noncomputable def L21_0 : PTup lc21_0 → PTup lb21_0 → PTup lv21_0 → Option (Sum (PTup lv21_0) (PTup lr21_0) × BTup lb21_0) := n21_0   fuel
noncomputable def r21 : PTup i21 → Option (PTup o21 × BTup i21) := m21  L21_0
theorem k21 : CallOk Go.Proofs.Tryz.prog 21 ⟨i21, o21, r21, .nor⟩ := by
  have hE : ∀ g f, (E21  L21_0).env.fns g = some f → CallOk Go.Proofs.Tryz.prog g f := fnsL_ok trivial
  have h0 : LoopOk Go.Proofs.Tryz.prog Go.Proofs.Tryz.f21.ntmps (loopAt (bodyOf Go.Proofs.Tryz.f21) 0) (e21_0 L21_0) := lp_ok (E := E21  L21_0) rfl hE mixed (AllLoops.of_list (l := []) (by kernel_rfl) trivial) (n21_0  ) (fun _ _ _ => rfl) (fun n x y z => t21_0  L21_0 _ x y z) rfl
  exact fn_ok (E := E21  L21_0) rfl hE mixed (by kernel_rfl) (by kernel_rfl) (AllLoops.of_list (l := [(loopAt (bodyOf Go.Proofs.Tryz.f21) 0)]) (by kernel_rfl) (.one (by kernel_rfl) h0 trivial)) (s21  L21_0)
/- loop.example/g00231/spec.l6Copy -/
@[reducible] def i22 : List Ty := [.a [.sl false .i, .int .i64]]
@[reducible] def o22 : List Ty := [.a [.sl true .i, .int .i64]]
noncomputable def m22   (y : PTup i22) : Option (PTup o22 × BTup i22) :=
  bif (leN (0 + (List.length y.1.1)) (E.most .i)) then (some (((([] ++ y.1.1), y.1.2), ()), ()))
  else none
noncomputable def E22   : CEnv := ⟨⟨Go.Proofs.Tryz.prog, fnsL []⟩, loopsL []⟩
theorem s22   (y) : tevF (E22  ) Go.Proofs.Tryz.f22 i22 o22 y = m22   y := by kernel_rfl
noncomputable def r22 : PTup i22 → Option (PTup o22 × BTup i22) := m22  
theorem k22 : CallOk Go.Proofs.Tryz.prog 22 ⟨i22, o22, r22, .nor⟩ := by
  have hE : ∀ g f, (E22  ).env.fns g = some f → CallOk Go.Proofs.Tryz.prog g f := fnsL_ok trivial
  exact fn_ok (E := E22  ) rfl hE mixed (by kernel_rfl) (by kernel_rfl) (AllLoops.of_list (l := []) (by kernel_rfl) trivial) (s22  )
/- loop.example/g00231/spec.l8Copy -/
@[reducible] def i23 : List Ty := [.a [.int .i64, .int .i64, .int .i64, .int .i64, .int .i64, .bool, .sl false .i, .sl false .i]]
@[reducible] def o23 : List Ty := [.a [.int .i64, .int .i64, .int .i64, .int .i64, .int .i64, .bool, .sl true .i, .sl true .i]]
noncomputable def m23   (y : PTup i23) : Option (PTup o23 × BTup i23) :=
  bif (leN (0 + (List.length y.1.2.2.2.2.2.2.1)) (E.most .i)) then (bif (leN (0 + (List.length y.1.2.2.2.2.2.2.2.1)) (E.most .i)) then (some (((y.1.1, (y.1.2.1, (y.1.2.2.1, (y.1.2.2.2.1, (y.1.2.2.2.2.1, (y.1.2.2.2.2.2.1, (([] ++ y.1.2.2.2.2.2.2.1), (([] ++ y.1.2.2.2.2.2.2.2.1), ())))))))), ()), ()))
   else none)
  else none
noncomputable def E23   : CEnv := ⟨⟨Go.Proofs.Tryz.prog, fnsL []⟩, loopsL []⟩
theorem s23   (y) : tevF (E23  ) Go.Proofs.Tryz.f23 i23 o23 y = m23   y := by kernel_rfl
noncomputable def r23 : PTup i23 → Option (PTup o23 × BTup i23) := m23  
theorem k23 : CallOk Go.Proofs.Tryz.prog 23 ⟨i23, o23, r23, .nor⟩ := by
  have hE : ∀ g f, (E23  ).env.fns g = some f → CallOk Go.Proofs.Tryz.prog g f := fnsL_ok trivial
  exact fn_ok (E := E23  ) rfl hE mixed (by kernel_rfl) (by kernel_rfl) (AllLoops.of_list (l := []) (by kernel_rfl) trivial) (s23  )
/- loop.example/g00231/spec.l12List -/
@[reducible] def i70 : List Ty := [.v (.sl false .n)]
@[reducible] def o70 : List Ty := [.v (.sl true .n)]
@[reducible] def lc70_0 : List Ty := [.v (.sl false .n)]
@[reducible] def lb70_0 : List Ty := []
@[reducible] def lv70_0 : List Ty := [.v (.sl true .n), .v (.int .i64)]
@[reducible] def lr70_0 : List Ty := []
noncomputable def w70_0   (again : PTup lb70_0 → PTup lv70_0 → Option (Sum (PTup lv70_0) (PTup lr70_0) × BTup lb70_0)) (x : PTup lc70_0) (y : PTup lb70_0) (z : PTup lv70_0) : Option (Sum (PTup lv70_0) (PTup lr70_0) × BTup lb70_0) :=
  bif (ltI z.2.1 (lenI x.1)) then (bif (leI (0 : Int) z.2.1) then (bif (ltI z.2.1 (lenI x.1)) then (bif (leN (0 + (List.length (rdE .n x.1 z.2.1))) (E.most .i)) then (bif (leN ((List.length z.1) + (List.length (([] ++ (rdE .n x.1 z.2.1)) :: []))) (E.most .n)) then (again () ((z.1 ++ (([] ++ (rdE .n x.1 z.2.1)) :: [])), ((wI (z.2.1 + (1 : Int))), ())))
      else none)
     else none)
    else none)
   else none)
  else some ((Sum.inl z), ())
noncomputable def e70_0 (l : PTup lc70_0 → PTup lb70_0 → PTup lv70_0 → Option (Sum (PTup lv70_0) (PTup lr70_0) × BTup lb70_0)) : LoopE := ⟨[0], lc70_0, [], lb70_0, [3, 4], lv70_0, [], lr70_0, 0, l⟩
noncomputable def m70  (l0 : PTup lc70_0 → PTup lb70_0 → PTup lv70_0 → Option (Sum (PTup lv70_0) (PTup lr70_0) × BTup lb70_0)) (y : PTup i70) : Option (PTup o70 × BTup i70) :=
  (l0 y () ([], ((0 : Int), ()))).bind fun r0 =>
  sumElim r0.1 (fun r1 => some ((r1.1, ()), ()))
  (fun r1 => some (([], ()), ()))
noncomputable def E70  (l0 : PTup lc70_0 → PTup lb70_0 → PTup lv70_0 → Option (Sum (PTup lv70_0) (PTup lr70_0) × BTup lb70_0)) : CEnv := ⟨⟨Go.Proofs.Tryz.prog, fnsL []⟩, loopsL [(3, e70_0 l0)]⟩
theorem t70_0  (l0 : PTup lc70_0 → PTup lb70_0 → PTup lv70_0 → Option (Sum (PTup lv70_0) (PTup lr70_0) × BTup lb70_0)) (again) (x y z) : loopRound (E70  l0) (loopAt (bodyOf Go.Proofs.Tryz.f70) 0) (e70_0 l0) Go.Proofs.Tryz.f70.ntmps again x y z = w70_0   again x y z := by kernel_rfl
noncomputable def n70_0   : Nat → PTup lc70_0 → PTup lb70_0 → PTup lv70_0 → Option (Sum (PTup lv70_0) (PTup lr70_0) × BTup lb70_0)
  | 0, _, _, _ => none
  | n + 1, x, y, z => w70_0   (fun y z => n70_0   n x y z) x y z
theorem s70  (l0 : PTup lc70_0 → PTup lb70_0 → PTup lv70_0 → Option (Sum (PTup lv70_0) (PTup lr70_0) × BTup lb70_0)) (y) : tevF (E70  l0) Go.Proofs.Tryz.f70 i70 o70 y = m70  l0 y := by kernel_rfl
noncomputable def L70_0 : PTup lc70_0 → PTup lb70_0 → PTup lv70_0 → Option (Sum (PTup lv70_0) (PTup lr70_0) × BTup lb70_0) := n70_0   fuel
noncomputable def r70 : PTup i70 → Option (PTup o70 × BTup i70) := m70  L70_0
theorem k70 : CallOk Go.Proofs.Tryz.prog 70 ⟨i70, o70, r70, .nor⟩ := by
  have hE : ∀ g f, (E70  L70_0).env.fns g = some f → CallOk Go.Proofs.Tryz.prog g f := fnsL_ok trivial
  have h0 : LoopOk Go.Proofs.Tryz.prog Go.Proofs.Tryz.f70.ntmps (loopAt (bodyOf Go.Proofs.Tryz.f70) 0) (e70_0 L70_0) := lp_ok (E := E70  L70_0) rfl hE mixed (AllLoops.of_list (l := []) (by kernel_rfl) trivial) (n70_0  ) (fun _ _ _ => rfl) (fun n x y z => t70_0  L70_0 _ x y z) rfl
  exact fn_ok (E := E70  L70_0) rfl hE mixed (by kernel_rfl) (by kernel_rfl) (AllLoops.of_list (l := [(loopAt (bodyOf Go.Proofs.Tryz.f70) 0)]) (by kernel_rfl) (.one (by kernel_rfl) h0 trivial)) (s70  L70_0)
/- loop.example/g00231/spec.ObsOf -/
@[reducible] def i24 : List Ty := [.a [.sl false .n, .sl false .i, .sl false .i, .int .i64, .int .i64, .int .i64, .int .i64, .int .i64, .bool, .bool, .bool, .bool, .bool, .int .i64, .int .i64, .bool, .int .i64, .bool, .int .i64, .int .i64, .sl false .i, .int .i64, .int .i64, .int .i64, .int .i64, .int .i64, .bool, .sl false .i, .sl false .i, .int .i64, .sl false .t, .sl false .n, .int .i64, .int .i64, .int .i64, .int .i64, .int .i64, .bool, .bool, .int .i64, .sl false .t, .sl false .i]]
@[reducible] def o24 : List Ty := [.a [.sl true .n, .sl true .i, .sl true .i]]
noncomputable def m24 (c70 : PTup i70 → Option (PTup o70 × BTup i70))  (y : PTup i24) : Option (PTup o24 × BTup i24) :=
  (c70 (y.1.2.2.2.2.2.2.2.2.2.2.2.2.2.2.2.2.2.2.2.2.2.2.2.2.2.2.2.2.2.2.2.1, ())).bind fun r0 =>
  bif (leN (0 + (List.length y.1.2.2.2.2.2.2.2.2.2.2.2.2.2.2.2.2.2.2.2.2.2.2.2.2.2.2.2.2.2.2.2.2.2.2.2.2.2.2.2.2.2.1)) (E.most .i)) then (bif (leN (0 + (List.length y.1.2.2.2.2.2.2.2.2.2.2.2.2.2.2.2.2.2.2.2.2.1)) (E.most .i)) then (some (((r0.1.1, (([] ++ y.1.2.2.2.2.2.2.2.2.2.2.2.2.2.2.2.2.2.2.2.2.2.2.2.2.2.2.2.2.2.2.2.2.2.2.2.2.2.2.2.2.2.1), (([] ++ y.1.2.2.2.2.2.2.2.2.2.2.2.2.2.2.2.2.2.2.2.2.1), ()))), ()), ()))
   else none)
  else none
noncomputable def E24 (c70 : PTup i70 → Option (PTup o70 × BTup i70))  : CEnv := ⟨⟨Go.Proofs.Tryz.prog, fnsL [(70, ⟨i70, o70, c70, .nor⟩)]⟩, loopsL []⟩
theorem s24 (c70 : PTup i70 → Option (PTup o70 × BTup i70))  (y) : tevF (E24 c70 ) Go.Proofs.Tryz.f24 i24 o24 y = m24 c70  y := by kernel_rfl
noncomputable def r24 : PTup i24 → Option (PTup o24 × BTup i24) := m24 r70 
theorem k24 : CallOk Go.Proofs.Tryz.prog 24 ⟨i24, o24, r24, .nor⟩ := by
  have hE : ∀ g f, (E24 r70 ).env.fns g = some f → CallOk Go.Proofs.Tryz.prog g f := fnsL_ok ⟨k70, trivial⟩
  exact fn_ok (E := E24 r70 ) rfl hE mixed (by kernel_rfl) (by kernel_rfl) (AllLoops.of_list (l := []) (by kernel_rfl) trivial) (s24 r70 )
/- loop.example/g00231/spec.AsLock -/
@[reducible] def i5 : List Ty := [.a [.sl false .n, .sl false .i, .sl false .i, .int .i64, .int .i64, .int .i64, .int .i64, .int .i64, .bool, .bool, .bool, .bool, .bool, .int .i64, .int .i64, .bool, .int .i64, .bool, .int .i64, .int .i64, .sl false .i, .int .i64, .int .i64, .int .i64, .int .i64, .int .i64, .bool, .sl false .i, .sl false .i, .int .i64, .sl false .t, .sl false .n, .int .i64, .int .i64, .int .i64, .int .i64, .int .i64, .bool, .bool, .int .i64, .sl false .t, .sl false .i]]
@[reducible] def o5 : List Ty := [.a [.sl true .n, .sl true .i, .sl true .i, .int .i64, .int .i64, .int .i64, .int .i64, .int .i64, .bool, .bool, .bool, .bool, .int .i64, .int .i64, .int .i64, .int .i64, .int .i64, .bool, .sl true .i, .sl true .i, .int .i64, .int .i64, .int .i64, .int .i64, .int .i64, .bool, .bool, .bool, .int .i64, .bool, .int .i64, .sl true .n, .sl true .i, .sl true .i]]
noncomputable def m5 (c24 : PTup i24 → Option (PTup o24 × BTup i24)) (c18 : PTup i18 → Option (PTup o18 × BTup i18)) (c21 : PTup i21 → Option (PTup o21 × BTup i21)) (c19 : PTup i19 → Option (PTup o19 × BTup i19)) (c20 : PTup i20 → Option (PTup o20 × BTup i20)) (c22 : PTup i22 → Option (PTup o22 × BTup i22)) (c23 : PTup i23 → Option (PTup o23 × BTup i23))  (y : PTup i5) : Option (PTup o5 × BTup i5) :=
  (c18 (y.1, ())).bind fun r0 =>
  bif (!r0.1.1) then (some ((([], ([], ([], ((0 : Int), ((0 : Int), ((0 : Int), ((0 : Int), ((0 : Int), (false, (false, (false, (false, ((0 : Int), ((0 : Int), ((0 : Int), ((0 : Int), ((0 : Int), (false, ([], ([], ((0 : Int), ((0 : Int), ((0 : Int), ((0 : Int), ((0 : Int), (false, (false, (false, ((0 : Int), (false, ((0 : Int), ([], ([], ([], ())))))))))))))))))))))))))))))))))), ()), ()))
  else (c19 (y.1, ())).bind fun r1 =>
  bif (!r1.1.1) then (some ((([], ([], ([], ((0 : Int), ((0 : Int), ((0 : Int), ((0 : Int), ((0 : Int), (false, (false, (false, (false, ((0 : Int), ((0 : Int), ((0 : Int), ((0 : Int), ((0 : Int), (false, ([], ([], ((0 : Int), ((0 : Int), ((0 : Int), ((0 : Int), ((0 : Int), (false, (false, (false, ((0 : Int), (false, ((0 : Int), ([], ([], ([], ())))))))))))))))))))))))))))))))))), ()), ()))
  else (c20 (y.1, ())).bind fun r2 =>
  bif (!r2.1.1) then (some ((([], ([], ([], ((0 : Int), ((0 : Int), ((0 : Int), ((0 : Int), ((0 : Int), (false, (false, (false, (false, ((0 : Int), ((0 : Int), ((0 : Int), ((0 : Int), ((0 : Int), (false, ([], ([], ((0 : Int), ((0 : Int), ((0 : Int), ((0 : Int), ((0 : Int), (false, (false, (false, ((0 : Int), (false, ((0 : Int), ([], ([], ([], ())))))))))))))))))))))))))))))))))), ()), ()))
  else (c21 ((y.1.1, ()), ())).bind fun r3 =>
  bif (leN (0 + (List.length y.1.2.1)) (E.most .i)) then ((c22 ((y.1.2.2.1, (y.1.2.2.2.1, ())), ())).bind fun r4 =>
   (c23 ((y.1.2.2.2.2.2.2.2.2.2.2.2.2.2.2.2.2.2.2.2.2.2.1, (y.1.2.2.2.2.2.2.2.2.2.2.2.2.2.2.2.2.2.2.2.2.2.2.1, (y.1.2.2.2.2.2.2.2.2.2.2.2.2.2.2.2.2.2.2.2.2.2.2.2.1, (y.1.2.2.2.2.2.2.2.2.2.2.2.2.2.2.2.2.2.2.2.2.2.2.2.2.1, (y.1.2.2.2.2.2.2.2.2.2.2.2.2.2.2.2.2.2.2.2.2.2.2.2.2.2.1, (y.1.2.2.2.2.2.2.2.2.2.2.2.2.2.2.2.2.2.2.2.2.2.2.2.2.2.2.1, (y.1.2.2.2.2.2.2.2.2.2.2.2.2.2.2.2.2.2.2.2.2.2.2.2.2.2.2.2.1, (y.1.2.2.2.2.2.2.2.2.2.2.2.2.2.2.2.2.2.2.2.2.2.2.2.2.2.2.2.2.1, ())))))))), ())).bind fun r5 =>
   (c24 (y.1, ())).bind fun r6 =>
   some (((r3.1.1.1, (([] ++ y.1.2.1), (r4.1.1.1, (r4.1.1.2.1, (y.1.2.2.2.2.1, (y.1.2.2.2.2.2.1, (y.1.2.2.2.2.2.2.1, (y.1.2.2.2.2.2.2.2.1, (y.1.2.2.2.2.2.2.2.2.1, (y.1.2.2.2.2.2.2.2.2.2.1, (y.1.2.2.2.2.2.2.2.2.2.2.1, (y.1.2.2.2.2.2.2.2.2.2.2.2.1, (r5.1.1.1, (r5.1.1.2.1, (r5.1.1.2.2.1, (r5.1.1.2.2.2.1, (r5.1.1.2.2.2.2.1, (r5.1.1.2.2.2.2.2.1, (r5.1.1.2.2.2.2.2.2.1, (r5.1.1.2.2.2.2.2.2.2.1, (y.1.2.2.2.2.2.2.2.2.2.2.2.2.2.2.2.2.2.2.2.2.2.2.2.2.2.2.2.2.2.2.2.2.1, (y.1.2.2.2.2.2.2.2.2.2.2.2.2.2.2.2.2.2.2.2.2.2.2.2.2.2.2.2.2.2.2.2.2.2.1, (y.1.2.2.2.2.2.2.2.2.2.2.2.2.2.2.2.2.2.2.2.2.2.2.2.2.2.2.2.2.2.2.2.2.2.2.1, (y.1.2.2.2.2.2.2.2.2.2.2.2.2.2.2.2.2.2.2.2.2.2.2.2.2.2.2.2.2.2.2.2.2.2.2.2.1, (y.1.2.2.2.2.2.2.2.2.2.2.2.2.2.2.2.2.2.2.2.2.2.2.2.2.2.2.2.2.2.2.2.2.2.2.2.2.1, (y.1.2.2.2.2.2.2.2.2.2.2.2.2.2.2.2.2.2.2.2.2.2.2.2.2.2.2.2.2.2.2.2.2.2.2.2.2.2.1, (y.1.2.2.2.2.2.2.2.2.2.2.2.2.2.2.2.2.2.2.2.2.2.2.2.2.2.2.2.2.2.2.2.2.2.2.2.2.2.2.1, (y.1.2.2.2.2.2.2.2.2.2.2.2.2.1, (y.1.2.2.2.2.2.2.2.2.2.2.2.2.2.1, (y.1.2.2.2.2.2.2.2.2.2.2.2.2.2.2.2.1, (y.1.2.2.2.2.2.2.2.2.2.2.2.2.2.2.2.2.2.2.2.1, r6.1.1))))))))))))))))))))))))))))))), ()), ()))
  else none
noncomputable def E5 (c24 : PTup i24 → Option (PTup o24 × BTup i24)) (c18 : PTup i18 → Option (PTup o18 × BTup i18)) (c21 : PTup i21 → Option (PTup o21 × BTup i21)) (c19 : PTup i19 → Option (PTup o19 × BTup i19)) (c20 : PTup i20 → Option (PTup o20 × BTup i20)) (c22 : PTup i22 → Option (PTup o22 × BTup i22)) (c23 : PTup i23 → Option (PTup o23 × BTup i23))  : CEnv := ⟨⟨Go.Proofs.Tryz.prog, fnsL [(24, ⟨i24, o24, c24, .nor⟩), (18, ⟨i18, o18, c18, .nor⟩), (21, ⟨i21, o21, c21, .nor⟩), (19, ⟨i19, o19, c19, .nor⟩), (20, ⟨i20, o20, c20, .nor⟩), (22, ⟨i22, o22, c22, .nor⟩), (23, ⟨i23, o23, c23, .nor⟩)]⟩, loopsL []⟩
theorem s5 (c24 : PTup i24 → Option (PTup o24 × BTup i24)) (c18 : PTup i18 → Option (PTup o18 × BTup i18)) (c21 : PTup i21 → Option (PTup o21 × BTup i21)) (c19 : PTup i19 → Option (PTup o19 × BTup i19)) (c20 : PTup i20 → Option (PTup o20 × BTup i20)) (c22 : PTup i22 → Option (PTup o22 × BTup i22)) (c23 : PTup i23 → Option (PTup o23 × BTup i23))  (y) : tevF (E5 c24 c18 c21 c19 c20 c22 c23 ) Go.Proofs.Tryz.f5 i5 o5 y = m5 c24 c18 c21 c19 c20 c22 c23  y := by kernel_rfl
noncomputable def r5 : PTup i5 → Option (PTup o5 × BTup i5) := m5 r24 r18 r21 r19 r20 r22 r23 
theorem k5 : CallOk Go.Proofs.Tryz.prog 5 ⟨i5, o5, r5, .nor⟩ := by
  have hE : ∀ g f, (E5 r24 r18 r21 r19 r20 r22 r23 ).env.fns g = some f → CallOk Go.Proofs.Tryz.prog g f := fnsL_ok ⟨k24, k18, k21, k19, k20, k22, k23, trivial⟩
  exact fn_ok (E := E5 r24 r18 r21 r19 r20 r22 r23 ) rfl hE mixed (by kernel_rfl) (by kernel_rfl) (AllLoops.of_list (l := []) (by kernel_rfl) trivial) (s5 r24 r18 r21 r19 r20 r22 r23 )
/- loop.example/g00231/impl.within -/
@[reducible] def i82 : List Ty := [.v (.int .i64), .v (.int .i64), .v (.int .i64)]
@[reducible] def o82 : List Ty := [.v (.bool)]
noncomputable def m82   (y : PTup i82) : Option (PTup o82 × BTup i82) :=
  bif (leI y.2.1 y.1) then (some (((leI y.1 y.2.2.1), ()), ()))
  else some ((false, ()), ())
noncomputable def E82   : CEnv := ⟨⟨Go.Proofs.Tryz.prog, fnsL []⟩, loopsL []⟩
theorem s82   (y) : tevF (E82  ) Go.Proofs.Tryz.f82 i82 o82 y = m82   y := by kernel_rfl
noncomputable def r82 : PTup i82 → Option (PTup o82 × BTup i82) := m82  
theorem k82 : CallOk Go.Proofs.Tryz.prog 82 ⟨i82, o82, r82, .nor⟩ := by
  have hE : ∀ g f, (E82  ).env.fns g = some f → CallOk Go.Proofs.Tryz.prog g f := fnsL_ok trivial
  exact fn_ok (E := E82  ) rfl hE mixed (by kernel_rfl) (by kernel_rfl) (AllLoops.of_list (l := []) (by kernel_rfl) trivial) (s82  )
/- loop.example/g00231/impl.isByte -/
@[reducible] def i80 : List Ty := [.v (.int .i64)]
@[reducible] def o80 : List Ty := [.v (.bool)]
noncomputable def m80 (c82 : PTup i82 → Option (PTup o82 × BTup i82))  (y : PTup i80) : Option (PTup o80 × BTup i80) :=
  (c82 (y.1, ((0 : Int), ((255 : Int), ())))).bind fun r0 =>
  some (r0.1, ())
noncomputable def E80 (c82 : PTup i82 → Option (PTup o82 × BTup i82))  : CEnv := ⟨⟨Go.Proofs.Tryz.prog, fnsL [(82, ⟨i82, o82, c82, .nor⟩)]⟩, loopsL []⟩
theorem s80 (c82 : PTup i82 → Option (PTup o82 × BTup i82))  (y) : tevF (E80 c82 ) Go.Proofs.Tryz.f80 i80 o80 y = m80 c82  y := by kernel_rfl
noncomputable def r80 : PTup i80 → Option (PTup o80 × BTup i80) := m80 r82 
theorem k80 : CallOk Go.Proofs.Tryz.prog 80 ⟨i80, o80, r80, .nor⟩ := by
  have hE : ∀ g f, (E80 r82 ).env.fns g = some f → CallOk Go.Proofs.Tryz.prog g f := fnsL_ok ⟨k82, trivial⟩
  exact fn_ok (E := E80 r82 ) rfl hE mixed (by kernel_rfl) (by kernel_rfl) (AllLoops.of_list (l := []) (by kernel_rfl) trivial) (s80 r82 )
/- loop.example/g00231/impl.bytesOk -/
@[reducible] def i103 : List Ty := [.v (.sl false .i)]
@[reducible] def o103 : List Ty := [.v (.bool)]
@[reducible] def lc103_0 : List Ty := [.v (.sl false .i), .v (.int .i64)]
@[reducible] def lb103_0 : List Ty := []
@[reducible] def lv103_0 : List Ty := [.v (.int .i64)]
@[reducible] def lr103_0 : List Ty := [.v (.bool)]
noncomputable def w103_0 (c80 : PTup i80 → Option (PTup o80 × BTup i80))  (again : PTup lb103_0 → PTup lv103_0 → Option (Sum (PTup lv103_0) (PTup lr103_0) × BTup lb103_0)) (x : PTup lc103_0) (y : PTup lb103_0) (z : PTup lv103_0) : Option (Sum (PTup lv103_0) (PTup lr103_0) × BTup lb103_0) :=
  bif (ltI z.1 x.2.1) then (bif (leI (0 : Int) z.1) then (bif (ltI z.1 (lenI x.1)) then ((c80 ((rdE .i x.1 z.1), ())).bind fun r0 =>
     bif (!r0.1.1) then (some ((Sum.inr (false, ())), ()))
     else again () ((wI (z.1 + (1 : Int))), ()))
    else none)
   else none)
  else some ((Sum.inl z), ())
noncomputable def e103_0 (l : PTup lc103_0 → PTup lb103_0 → PTup lv103_0 → Option (Sum (PTup lv103_0) (PTup lr103_0) × BTup lb103_0)) : LoopE := ⟨[5, 6], lc103_0, [], lb103_0, [7], lv103_0, [2], lr103_0, 0, l⟩
noncomputable def m103 (c80 : PTup i80 → Option (PTup o80 × BTup i80)) (l0 : PTup lc103_0 → PTup lb103_0 → PTup lv103_0 → Option (Sum (PTup lv103_0) (PTup lr103_0) × BTup lb103_0)) (y : PTup i103) : Option (PTup o103 × BTup i103) :=
  (l0 (y.1, ((lenI y.1), ())) () ((0 : Int), ())).bind fun r0 =>
  sumElim r0.1 (fun r1 => some ((true, ()), ()))
  (fun r1 => some (r1, ()))
noncomputable def E103 (c80 : PTup i80 → Option (PTup o80 × BTup i80)) (l0 : PTup lc103_0 → PTup lb103_0 → PTup lv103_0 → Option (Sum (PTup lv103_0) (PTup lr103_0) × BTup lb103_0)) : CEnv := ⟨⟨Go.Proofs.Tryz.prog, fnsL [(80, ⟨i80, o80, c80, .nor⟩)]⟩, loopsL [(2, e103_0 l0)]⟩
theorem t103_0 (c80 : PTup i80 → Option (PTup o80 × BTup i80)) (l0 : PTup lc103_0 → PTup lb103_0 → PTup lv103_0 → Option (Sum (PTup lv103_0) (PTup lr103_0) × BTup lb103_0)) (again) (x y z) : loopRound (E103 c80 l0) (loopAt (bodyOf Go.Proofs.Tryz.f103) 0) (e103_0 l0) Go.Proofs.Tryz.f103.ntmps again x y z = w103_0 c80  again x y z := by kernel_rfl
noncomputable def n103_0 (c80 : PTup i80 → Option (PTup o80 × BTup i80))  : Nat → PTup lc103_0 → PTup lb103_0 → PTup lv103_0 → Option (Sum (PTup lv103_0) (PTup lr103_0) × BTup lb103_0)
  | 0, _, _, _ => none
  | n + 1, x, y, z => w103_0 c80  (fun y z => n103_0 c80  n x y z) x y z
theorem s103 (c80 : PTup i80 → Option (PTup o80 × BTup i80)) (l0 : PTup lc103_0 → PTup lb103_0 → PTup lv103_0 → Option (Sum (PTup lv103_0) (PTup lr103_0) × BTup lb103_0)) (y) : tevF (E103 c80 l0) Go.Proofs.Tryz.f103 i103 o103 y = m103 c80 l0 y := by kernel_rfl
noncomputable def L103_0 : PTup lc103_0 → PTup lb103_0 → PTup lv103_0 → Option (Sum (PTup lv103_0) (PTup lr103_0) × BTup lb103_0) := n103_0 r80  fuel
noncomputable def r103 : PTup i103 → Option (PTup o103 × BTup i103) := m103 r80 L103_0
theorem k103 : CallOk Go.Proofs.Tryz.prog 103 ⟨i103, o103, r103, .nor⟩ := by
  have hE : ∀ g f, (E103 r80 L103_0).env.fns g = some f → CallOk Go.Proofs.Tryz.prog g f := fnsL_ok ⟨k80, trivial⟩
  have h0 : LoopOk Go.Proofs.Tryz.prog Go.Proofs.Tryz.f103.ntmps (loopAt (bodyOf Go.Proofs.Tryz.f103) 0) (e103_0 L103_0) := lp_ok (E := E103 r80 L103_0) rfl hE mixed (AllLoops.of_list (l := []) (by kernel_rfl) trivial) (n103_0 r80 ) (fun _ _ _ => rfl) (fun n x y z => t103_0 r80 L103_0 _ x y z) rfl
  exact fn_ok (E := E103 r80 L103_0) rfl hE mixed (by kernel_rfl) (by kernel_rfl) (AllLoops.of_list (l := [(loopAt (bodyOf Go.Proofs.Tryz.f103) 0)]) (by kernel_rfl) (.one (by kernel_rfl) h0 trivial)) (s103 r80 L103_0)
/- loop.example/g00231/impl.ImageOk -/
@[reducible] def i102 : List Ty := [.a [.sl false .n]]
@[reducible] def o102 : List Ty := [.v (.bool)]
@[reducible] def lc102_0 : List Ty := [.v (.sl false .n), .v (.int .i64)]
@[reducible] def lb102_0 : List Ty := []
@[reducible] def lv102_0 : List Ty := [.v (.int .i64)]
@[reducible] def lr102_0 : List Ty := [.v (.bool)]
noncomputable def w102_0 (c103 : PTup i103 → Option (PTup o103 × BTup i103)) (c82 : PTup i82 → Option (PTup o82 × BTup i82))  (again : PTup lb102_0 → PTup lv102_0 → Option (Sum (PTup lv102_0) (PTup lr102_0) × BTup lb102_0)) (x : PTup lc102_0) (y : PTup lb102_0) (z : PTup lv102_0) : Option (Sum (PTup lv102_0) (PTup lr102_0) × BTup lb102_0) :=
  bif (ltI z.1 x.2.1) then (bif (leI (0 : Int) z.1) then (bif (ltI z.1 (lenI x.1)) then (bif (neI (lenI (rdE .n x.1 z.1)) (256 : Int)) then (some ((Sum.inr (false, ())), ()))
     else (c103 ((rdE .n x.1 z.1), ())).bind fun r0 =>
     bif (!r0.1.1) then (some ((Sum.inr (false, ())), ()))
     else again () ((wI (z.1 + (1 : Int))), ()))
    else none)
   else none)
  else some ((Sum.inl z), ())
noncomputable def e102_0 (l : PTup lc102_0 → PTup lb102_0 → PTup lv102_0 → Option (Sum (PTup lv102_0) (PTup lr102_0) × BTup lb102_0)) : LoopE := ⟨[6, 7], lc102_0, [], lb102_0, [8], lv102_0, [2], lr102_0, 0, l⟩
noncomputable def m102 (c103 : PTup i103 → Option (PTup o103 × BTup i103)) (c82 : PTup i82 → Option (PTup o82 × BTup i82)) (l0 : PTup lc102_0 → PTup lb102_0 → PTup lv102_0 → Option (Sum (PTup lv102_0) (PTup lr102_0) × BTup lb102_0)) (y : PTup i102) : Option (PTup o102 × BTup i102) :=
  (l0 (y.1.1, ((lenI y.1.1), ())) () ((0 : Int), ())).bind fun r0 =>
  sumElim r0.1 (fun r1 => (c82 ((lenI y.1.1), ((1 : Int), ((8 : Int), ())))).bind fun r2 =>
   some (r2.1, ()))
  (fun r1 => some (r1, ()))
noncomputable def E102 (c103 : PTup i103 → Option (PTup o103 × BTup i103)) (c82 : PTup i82 → Option (PTup o82 × BTup i82)) (l0 : PTup lc102_0 → PTup lb102_0 → PTup lv102_0 → Option (Sum (PTup lv102_0) (PTup lr102_0) × BTup lb102_0)) : CEnv := ⟨⟨Go.Proofs.Tryz.prog, fnsL [(103, ⟨i103, o103, c103, .nor⟩), (82, ⟨i82, o82, c82, .nor⟩)]⟩, loopsL [(2, e102_0 l0)]⟩
theorem t102_0 (c103 : PTup i103 → Option (PTup o103 × BTup i103)) (c82 : PTup i82 → Option (PTup o82 × BTup i82)) (l0 : PTup lc102_0 → PTup lb102_0 → PTup lv102_0 → Option (Sum (PTup lv102_0) (PTup lr102_0) × BTup lb102_0)) (again) (x y z) : loopRound (E102 c103 c82 l0) (loopAt (bodyOf Go.Proofs.Tryz.f102) 0) (e102_0 l0) Go.Proofs.Tryz.f102.ntmps again x y z = w102_0 c103 c82  again x y z := by kernel_rfl
noncomputable def n102_0 (c103 : PTup i103 → Option (PTup o103 × BTup i103)) (c82 : PTup i82 → Option (PTup o82 × BTup i82))  : Nat → PTup lc102_0 → PTup lb102_0 → PTup lv102_0 → Option (Sum (PTup lv102_0) (PTup lr102_0) × BTup lb102_0)
  | 0, _, _, _ => none
  | n + 1, x, y, z => w102_0 c103 c82  (fun y z => n102_0 c103 c82  n x y z) x y z
theorem s102 (c103 : PTup i103 → Option (PTup o103 × BTup i103)) (c82 : PTup i82 → Option (PTup o82 × BTup i82)) (l0 : PTup lc102_0 → PTup lb102_0 → PTup lv102_0 → Option (Sum (PTup lv102_0) (PTup lr102_0) × BTup lb102_0)) (y) : tevF (E102 c103 c82 l0) Go.Proofs.Tryz.f102 i102 o102 y = m102 c103 c82 l0 y := by kernel_rfl
noncomputable def L102_0 : PTup lc102_0 → PTup lb102_0 → PTup lv102_0 → Option (Sum (PTup lv102_0) (PTup lr102_0) × BTup lb102_0) := n102_0 r103 r82  fuel
noncomputable def r102 : PTup i102 → Option (PTup o102 × BTup i102) := m102 r103 r82 L102_0
theorem k102 : CallOk Go.Proofs.Tryz.prog 102 ⟨i102, o102, r102, .nor⟩ := by
  have hE : ∀ g f, (E102 r103 r82 L102_0).env.fns g = some f → CallOk Go.Proofs.Tryz.prog g f := fnsL_ok ⟨k103, k82, trivial⟩
  have h0 : LoopOk Go.Proofs.Tryz.prog Go.Proofs.Tryz.f102.ntmps (loopAt (bodyOf Go.Proofs.Tryz.f102) 0) (e102_0 L102_0) := lp_ok (E := E102 r103 r82 L102_0) rfl hE mixed (AllLoops.of_list (l := []) (by kernel_rfl) trivial) (n102_0 r103 r82 ) (fun _ _ _ => rfl) (fun n x y z => t102_0 r103 r82 L102_0 _ x y z) rfl
  exact fn_ok (E := E102 r103 r82 L102_0) rfl hE mixed (by kernel_rfl) (by kernel_rfl) (AllLoops.of_list (l := [(loopAt (bodyOf Go.Proofs.Tryz.f102) 0)]) (by kernel_rfl) (.one (by kernel_rfl) h0 trivial)) (s102 r103 r82 L102_0)
/- loop.example/g00231/impl.MemOk -/
@[reducible] def i75 : List Ty := [.a [.sl false .n], .a [.sl false .i, .int .i64]]
@[reducible] def o75 : List Ty := [.v (.bool)]
noncomputable def m75 (c102 : PTup i102 → Option (PTup o102 × BTup i102)) (c103 : PTup i103 → Option (PTup o103 × BTup i103)) (c82 : PTup i82 → Option (PTup o82 × BTup i82))  (y : PTup i75) : Option (PTup o75 × BTup i75) :=
  (c102 (y.1, ())).bind fun r0 =>
  bif r0.1.1 then (bif (eqI (lenI y.2.1.1) (512 : Int)) then ((c103 (y.2.1.1, ())).bind fun r1 =>
    bif r1.1.1 then ((c82 (y.2.1.2.1, ((0 : Int), ((wI ((lenI y.1.1) - (1 : Int))), ())))).bind fun r2 =>
     some (r2.1, ()))
    else some ((false, ()), ()))
   else some ((false, ()), ()))
  else some ((false, ()), ())
noncomputable def E75 (c102 : PTup i102 → Option (PTup o102 × BTup i102)) (c103 : PTup i103 → Option (PTup o103 × BTup i103)) (c82 : PTup i82 → Option (PTup o82 × BTup i82))  : CEnv := ⟨⟨Go.Proofs.Tryz.prog, fnsL [(102, ⟨i102, o102, c102, .nor⟩), (103, ⟨i103, o103, c103, .nor⟩), (82, ⟨i82, o82, c82, .nor⟩)]⟩, loopsL []⟩
theorem s75 (c102 : PTup i102 → Option (PTup o102 × BTup i102)) (c103 : PTup i103 → Option (PTup o103 × BTup i103)) (c82 : PTup i82 → Option (PTup o82 × BTup i82))  (y) : tevF (E75 c102 c103 c82 ) Go.Proofs.Tryz.f75 i75 o75 y = m75 c102 c103 c82  y := by kernel_rfl
noncomputable def r75 : PTup i75 → Option (PTup o75 × BTup i75) := m75 r102 r103 r82 
theorem k75 : CallOk Go.Proofs.Tryz.prog 75 ⟨i75, o75, r75, .nor⟩ := by
  have hE : ∀ g f, (E75 r102 r103 r82 ).env.fns g = some f → CallOk Go.Proofs.Tryz.prog g f := fnsL_ok ⟨k102, k103, k82, trivial⟩
  exact fn_ok (E := E75 r102 r103 r82 ) rfl hE mixed (by kernel_rfl) (by kernel_rfl) (AllLoops.of_list (l := []) (by kernel_rfl) trivial) (s75 r102 r103 r82 )
/- loop.example/g00231/impl.PadsOk -/
@[reducible] def i76 : List Ty := [.v (.sl false .i)]
@[reducible] def o76 : List Ty := [.v (.bool)]
noncomputable def m76 (c103 : PTup i103 → Option (PTup o103 × BTup i103))  (y : PTup i76) : Option (PTup o76 × BTup i76) :=
  bif (leI (lenI y.1) (20 : Int)) then ((c103 y).bind fun r0 =>
   some (r0.1, ()))
  else some ((false, ()), ())
noncomputable def E76 (c103 : PTup i103 → Option (PTup o103 × BTup i103))  : CEnv := ⟨⟨Go.Proofs.Tryz.prog, fnsL [(103, ⟨i103, o103, c103, .nor⟩)]⟩, loopsL []⟩
theorem s76 (c103 : PTup i103 → Option (PTup o103 × BTup i103))  (y) : tevF (E76 c103 ) Go.Proofs.Tryz.f76 i76 o76 y = m76 c103  y := by kernel_rfl
noncomputable def r76 : PTup i76 → Option (PTup o76 × BTup i76) := m76 r103 
theorem k76 : CallOk Go.Proofs.Tryz.prog 76 ⟨i76, o76, r76, .nor⟩ := by
  have hE : ∀ g f, (E76 r103 ).env.fns g = some f → CallOk Go.Proofs.Tryz.prog g f := fnsL_ok ⟨k103, trivial⟩
  exact fn_ok (E := E76 r103 ) rfl hE mixed (by kernel_rfl) (by kernel_rfl) (AllLoops.of_list (l := []) (by kernel_rfl) trivial) (s76 r103 )
/- loop.example/g00231/impl.CpuOk -/
@[reducible] def i77 : List Ty := [.a [.int .i64, .int .i64, .int .i64, .int .i64, .bool, .bool, .bool, .bool]]
@[reducible] def o77 : List Ty := [.v (.bool)]
noncomputable def m77 (c80 : PTup i80 → Option (PTup o80 × BTup i80)) (c82 : PTup i82 → Option (PTup o82 × BTup i82))  (y : PTup i77) : Option (PTup o77 × BTup i77) :=
  (c80 (y.1.1, ())).bind fun r0 =>
  bif r0.1.1 then ((c80 (y.1.2.1, ())).bind fun r1 =>
   bif r1.1.1 then ((c80 (y.1.2.2.1, ())).bind fun r2 =>
    bif r2.1.1 then ((c82 (y.1.2.2.2.1, ((0 : Int), ((65535 : Int), ())))).bind fun r3 =>
     some (r3.1, ()))
    else some ((false, ()), ()))
   else some ((false, ()), ()))
  else some ((false, ()), ())
noncomputable def E77 (c80 : PTup i80 → Option (PTup o80 × BTup i80)) (c82 : PTup i82 → Option (PTup o82 × BTup i82))  : CEnv := ⟨⟨Go.Proofs.Tryz.prog, fnsL [(80, ⟨i80, o80, c80, .nor⟩), (82, ⟨i82, o82, c82, .nor⟩)]⟩, loopsL []⟩
theorem s77 (c80 : PTup i80 → Option (PTup o80 × BTup i80)) (c82 : PTup i82 → Option (PTup o82 × BTup i82))  (y) : tevF (E77 c80 c82 ) Go.Proofs.Tryz.f77 i77 o77 y = m77 c80 c82  y := by kernel_rfl
noncomputable def r77 : PTup i77 → Option (PTup o77 × BTup i77) := m77 r80 r82 
theorem k77 : CallOk Go.Proofs.Tryz.prog 77 ⟨i77, o77, r77, .nor⟩ := by
  have hE : ∀ g f, (E77 r80 r82 ).env.fns g = some f → CallOk Go.Proofs.Tryz.prog g f := fnsL_ok ⟨k80, k82, trivial⟩
  exact fn_ok (E := E77 r80 r82 ) rfl hE mixed (by kernel_rfl) (by kernel_rfl) (AllLoops.of_list (l := []) (by kernel_rfl) trivial) (s77 r80 r82 )
/- loop.example/g00231/impl.isTime -/
@[reducible] def i81 : List Ty := [.v (.int .i64)]
@[reducible] def o81 : List Ty := [.v (.bool)]
noncomputable def m81 (c82 : PTup i82 → Option (PTup o82 × BTup i82))  (y : PTup i81) : Option (PTup o81 × BTup i81) :=
  (c82 (y.1, ((0 : Int), ((20000 : Int), ())))).bind fun r0 =>
  some (r0.1, ())
noncomputable def E81 (c82 : PTup i82 → Option (PTup o82 × BTup i82))  : CEnv := ⟨⟨Go.Proofs.Tryz.prog, fnsL [(82, ⟨i82, o82, c82, .nor⟩)]⟩, loopsL []⟩
theorem s81 (c82 : PTup i82 → Option (PTup o82 × BTup i82))  (y) : tevF (E81 c82 ) Go.Proofs.Tryz.f81 i81 o81 y = m81 c82  y := by kernel_rfl
noncomputable def r81 : PTup i81 → Option (PTup o81 × BTup i81) := m81 r82 
theorem k81 : CallOk Go.Proofs.Tryz.prog 81 ⟨i81, o81, r81, .nor⟩ := by
  have hE : ∀ g f, (E81 r82 ).env.fns g = some f → CallOk Go.Proofs.Tryz.prog g f := fnsL_ok ⟨k82, trivial⟩
  exact fn_ok (E := E81 r82 ) rfl hE mixed (by kernel_rfl) (by kernel_rfl) (AllLoops.of_list (l := []) (by kernel_rfl) trivial) (s81 r82 )
/- loop.example/g00231/impl.colorsOk -/
@[reducible] def i116 : List Ty := [.v (.sl false .i)]
@[reducible] def o116 : List Ty := [.v (.bool)]
@[reducible] def lc116_0 : List Ty := [.v (.sl false .i), .v (.int .i64)]
@[reducible] def lb116_0 : List Ty := []
@[reducible] def lv116_0 : List Ty := [.v (.int .i64)]
@[reducible] def lr116_0 : List Ty := [.v (.bool)]
noncomputable def w116_0 (c82 : PTup i82 → Option (PTup o82 × BTup i82))  (again : PTup lb116_0 → PTup lv116_0 → Option (Sum (PTup lv116_0) (PTup lr116_0) × BTup lb116_0)) (x : PTup lc116_0) (y : PTup lb116_0) (z : PTup lv116_0) : Option (Sum (PTup lv116_0) (PTup lr116_0) × BTup lb116_0) :=
  bif (ltI z.1 x.2.1) then (bif (leI (0 : Int) z.1) then (bif (ltI z.1 (lenI x.1)) then ((c82 ((rdE .i x.1 z.1), ((0 : Int), ((63 : Int), ())))).bind fun r0 =>
     bif (!r0.1.1) then (some ((Sum.inr (false, ())), ()))
     else again () ((wI (z.1 + (1 : Int))), ()))
    else none)
   else none)
  else some ((Sum.inl z), ())
noncomputable def e116_0 (l : PTup lc116_0 → PTup lb116_0 → PTup lv116_0 → Option (Sum (PTup lv116_0) (PTup lr116_0) × BTup lb116_0)) : LoopE := ⟨[5, 6], lc116_0, [], lb116_0, [7], lv116_0, [2], lr116_0, 0, l⟩
noncomputable def m116 (c82 : PTup i82 → Option (PTup o82 × BTup i82)) (l0 : PTup lc116_0 → PTup lb116_0 → PTup lv116_0 → Option (Sum (PTup lv116_0) (PTup lr116_0) × BTup lb116_0)) (y : PTup i116) : Option (PTup o116 × BTup i116) :=
  (l0 (y.1, ((lenI y.1), ())) () ((0 : Int), ())).bind fun r0 =>
  sumElim r0.1 (fun r1 => some ((true, ()), ()))
  (fun r1 => some (r1, ()))
noncomputable def E116 (c82 : PTup i82 → Option (PTup o82 × BTup i82)) (l0 : PTup lc116_0 → PTup lb116_0 → PTup lv116_0 → Option (Sum (PTup lv116_0) (PTup lr116_0) × BTup lb116_0)) : CEnv := ⟨⟨Go.Proofs.Tryz.prog, fnsL [(82, ⟨i82, o82, c82, .nor⟩)]⟩, loopsL [(2, e116_0 l0)]⟩
theorem t116_0 (c82 : PTup i82 → Option (PTup o82 × BTup i82)) (l0 : PTup lc116_0 → PTup lb116_0 → PTup lv116_0 → Option (Sum (PTup lv116_0) (PTup lr116_0) × BTup lb116_0)) (again) (x y z) : loopRound (E116 c82 l0) (loopAt (bodyOf Go.Proofs.Tryz.f116) 0) (e116_0 l0) Go.Proofs.Tryz.f116.ntmps again x y z = w116_0 c82  again x y z := by kernel_rfl
noncomputable def n116_0 (c82 : PTup i82 → Option (PTup o82 × BTup i82))  : Nat → PTup lc116_0 → PTup lb116_0 → PTup lv116_0 → Option (Sum (PTup lv116_0) (PTup lr116_0) × BTup lb116_0)
  | 0, _, _, _ => none
  | n + 1, x, y, z => w116_0 c82  (fun y z => n116_0 c82  n x y z) x y z
theorem s116 (c82 : PTup i82 → Option (PTup o82 × BTup i82)) (l0 : PTup lc116_0 → PTup lb116_0 → PTup lv116_0 → Option (Sum (PTup lv116_0) (PTup lr116_0) × BTup lb116_0)) (y) : tevF (E116 c82 l0) Go.Proofs.Tryz.f116 i116 o116 y = m116 c82 l0 y := by kernel_rfl
noncomputable def L116_0 : PTup lc116_0 → PTup lb116_0 → PTup lv116_0 → Option (Sum (PTup lv116_0) (PTup lr116_0) × BTup lb116_0) := n116_0 r82  fuel
noncomputable def r116 : PTup i116 → Option (PTup o116 × BTup i116) := m116 r82 L116_0
theorem k116 : CallOk Go.Proofs.Tryz.prog 116 ⟨i116, o116, r116, .nor⟩ := by
  have hE : ∀ g f, (E116 r82 L116_0).env.fns g = some f → CallOk Go.Proofs.Tryz.prog g f := fnsL_ok ⟨k82, trivial⟩
  have h0 : LoopOk Go.Proofs.Tryz.prog Go.Proofs.Tryz.f116.ntmps (loopAt (bodyOf Go.Proofs.Tryz.f116) 0) (e116_0 L116_0) := lp_ok (E := E116 r82 L116_0) rfl hE mixed (AllLoops.of_list (l := []) (by kernel_rfl) trivial) (n116_0 r82 ) (fun _ _ _ => rfl) (fun n x y z => t116_0 r82 L116_0 _ x y z) rfl
  exact fn_ok (E := E116 r82 L116_0) rfl hE mixed (by kernel_rfl) (by kernel_rfl) (AllLoops.of_list (l := [(loopAt (bodyOf Go.Proofs.Tryz.f116) 0)]) (by kernel_rfl) (.one (by kernel_rfl) h0 trivial)) (s116 r82 L116_0)
/- loop.example/g00231/impl.PpuOk -/
@[reducible] def i104 : List Ty := [.a [.int .i64, .int .i64, .int .i64, .int .i64, .int .i64, .bool, .sl false .i, .sl false .i]]
@[reducible] def o104 : List Ty := [.v (.bool)]
noncomputable def m104 (c116 : PTup i116 → Option (PTup o116 × BTup i116)) (c80 : PTup i80 → Option (PTup o80 × BTup i80)) (c81 : PTup i81 → Option (PTup o81 × BTup i81)) (c82 : PTup i82 → Option (PTup o82 × BTup i82))  (y : PTup i104) : Option (PTup o104 × BTup i104) :=
  (c81 (y.1.1, ())).bind fun r0 =>
  bif (!r0.1.1) then (some ((false, ()), ()))
  else (c80 (y.1.2.1, ())).bind fun r1 =>
  bif (!r1.1.1) then (some ((false, ()), ()))
  else (c80 (y.1.2.2.1, ())).bind fun r2 =>
  bif (!r2.1.1) then (some ((false, ()), ()))
  else (c82 (y.1.2.2.2.1, ((0 : Int), ((15 : Int), ())))).bind fun r3 =>
  bif (!r3.1.1) then (some ((false, ()), ()))
  else (c82 (y.1.2.2.2.2.1, ((0 : Int), ((63 : Int), ())))).bind fun r4 =>
  bif (!r4.1.1) then (some ((false, ()), ()))
  else bif (ltI (48 : Int) (Int.tmod y.1.1 (64 : Int))) then (bif (eqI (lenI y.1.2.2.2.2.2.2.1) (16 : Int)) then ((c116 (y.1.2.2.2.2.2.2.1, ())).bind fun r5 =>
    bif r5.1.1 then (bif (eqI (lenI y.1.2.2.2.2.2.2.2.1) (0 : Int)) then ((c116 y.1.2.2.2.2.2.2.2).bind fun r6 =>
      some (r6.1, ()))
     else some ((false, ()), ()))
    else some ((false, ()), ()))
   else some ((false, ()), ()))
  else bif (eqI (lenI y.1.2.2.2.2.2.2.1) (16 : Int)) then ((c116 (y.1.2.2.2.2.2.2.1, ())).bind fun r5 =>
   bif r5.1.1 then (bif (eqI (lenI y.1.2.2.2.2.2.2.2.1) (Int.tmod y.1.1 (64 : Int))) then ((c116 y.1.2.2.2.2.2.2.2).bind fun r6 =>
     some (r6.1, ()))
    else some ((false, ()), ()))
   else some ((false, ()), ()))
  else some ((false, ()), ())
noncomputable def E104 (c116 : PTup i116 → Option (PTup o116 × BTup i116)) (c80 : PTup i80 → Option (PTup o80 × BTup i80)) (c81 : PTup i81 → Option (PTup o81 × BTup i81)) (c82 : PTup i82 → Option (PTup o82 × BTup i82))  : CEnv := ⟨⟨Go.Proofs.Tryz.prog, fnsL [(116, ⟨i116, o116, c116, .nor⟩), (80, ⟨i80, o80, c80, .nor⟩), (81, ⟨i81, o81, c81, .nor⟩), (82, ⟨i82, o82, c82, .nor⟩)]⟩, loopsL []⟩
theorem s104 (c116 : PTup i116 → Option (PTup o116 × BTup i116)) (c80 : PTup i80 → Option (PTup o80 × BTup i80)) (c81 : PTup i81 → Option (PTup o81 × BTup i81)) (c82 : PTup i82 → Option (PTup o82 × BTup i82))  (y) : tevF (E104 c116 c80 c81 c82 ) Go.Proofs.Tryz.f104 i104 o104 y = m104 c116 c80 c81 c82  y := by kernel_rfl
noncomputable def r104 : PTup i104 → Option (PTup o104 × BTup i104) := m104 r116 r80 r81 r82 
theorem k104 : CallOk Go.Proofs.Tryz.prog 104 ⟨i104, o104, r104, .nor⟩ := by
  have hE : ∀ g f, (E104 r116 r80 r81 r82 ).env.fns g = some f → CallOk Go.Proofs.Tryz.prog g f := fnsL_ok ⟨k116, k80, k81, k82, trivial⟩
  exact fn_ok (E := E104 r116 r80 r81 r82 ) rfl hE mixed (by kernel_rfl) (by kernel_rfl) (AllLoops.of_list (l := []) (by kernel_rfl) trivial) (s104 r116 r80 r81 r82 )
/- loop.example/g00231/impl.RingOk -/
@[reducible] def i117 : List Ty := [.a [.int .i64, .sl false .t]]
@[reducible] def o117 : List Ty := [.v (.bool)]
@[reducible] def lc117_0 : List Ty := [.v (.sl false .t), .v (.int .i64)]
@[reducible] def lb117_0 : List Ty := [.p [.int .i64, .sl false .t]]
@[reducible] def lv117_0 : List Ty := [.v (.int .i64)]
@[reducible] def lr117_0 : List Ty := [.v (.bool)]
noncomputable def w117_0 (c80 : PTup i80 → Option (PTup o80 × BTup i80)) (c81 : PTup i81 → Option (PTup o81 × BTup i81)) (c82 : PTup i82 → Option (PTup o82 × BTup i82))  (again : PTup lb117_0 → PTup lv117_0 → Option (Sum (PTup lv117_0) (PTup lr117_0) × BTup lb117_0)) (x : PTup lc117_0) (y : PTup lb117_0) (z : PTup lv117_0) : Option (Sum (PTup lv117_0) (PTup lr117_0) × BTup lb117_0) :=
  bif (ltI z.1 x.2.1) then (bif (leI (0 : Int) z.1) then (bif (ltI z.1 (lenI x.1)) then ((c81 ((rdE .t x.1 z.1).1, ())).bind fun r0 =>
     bif (!r0.1.1) then (some ((Sum.inr (false, ())), (y.1, ())))
     else bif (ltI (0 : Int) z.1) then (bif (leI (0 : Int) (wI (z.1 - (1 : Int)))) then (bif (ltI (wI (z.1 - (1 : Int))) (lenI y.1.2.1)) then (bif (ltI (rdE .t x.1 z.1).1 (rdE .t y.1.2.1 (wI (z.1 - (1 : Int)))).1) then (some ((Sum.inr (false, ())), (y.1, ())))
        else (c82 ((rdE .t x.1 z.1).2.1, ((0 : Int), ((7 : Int), ())))).bind fun r1 =>
        bif (!r1.1.1) then (some ((Sum.inr (false, ())), (y.1, ())))
        else (c80 ((rdE .t x.1 z.1).2.2, ())).bind fun r2 =>
        bif (!r2.1.1) then (some ((Sum.inr (false, ())), (y.1, ())))
        else again (y.1, ()) ((wI (z.1 + (1 : Int))), ()))
       else none)
      else none)
     else (c82 ((rdE .t x.1 z.1).2.1, ((0 : Int), ((7 : Int), ())))).bind fun r1 =>
     bif (!r1.1.1) then (some ((Sum.inr (false, ())), (y.1, ())))
     else (c80 ((rdE .t x.1 z.1).2.2, ())).bind fun r2 =>
     bif (!r2.1.1) then (some ((Sum.inr (false, ())), (y.1, ())))
     else again (y.1, ()) ((wI (z.1 + (1 : Int))), ()))
    else none)
   else none)
  else some ((Sum.inl z), (y.1, ()))
noncomputable def e117_0 (l : PTup lc117_0 → PTup lb117_0 → PTup lv117_0 → Option (Sum (PTup lv117_0) (PTup lr117_0) × BTup lb117_0)) : LoopE := ⟨[6, 7], lc117_0, [1], lb117_0, [8], lv117_0, [2], lr117_0, 0, l⟩
noncomputable def m117 (c80 : PTup i80 → Option (PTup o80 × BTup i80)) (c81 : PTup i81 → Option (PTup o81 × BTup i81)) (c82 : PTup i82 → Option (PTup o82 × BTup i82)) (l0 : PTup lc117_0 → PTup lb117_0 → PTup lv117_0 → Option (Sum (PTup lv117_0) (PTup lr117_0) × BTup lb117_0)) (y : PTup i117) : Option (PTup o117 × BTup i117) :=
  (l0 (y.1.2.1, ((lenI y.1.2.1), ())) (y.1, ()) ((0 : Int), ())).bind fun r0 =>
  sumElim r0.1 (fun r1 => (c82 (r0.2.1.1, ((1 : Int), ((16 : Int), ())))).bind fun r2 =>
   bif r2.1.1 then (some (((leI (lenI y.1.2.1) r0.2.1.1), ()), ()))
   else some ((false, ()), ()))
  (fun r1 => some (r1, ()))
noncomputable def E117 (c80 : PTup i80 → Option (PTup o80 × BTup i80)) (c81 : PTup i81 → Option (PTup o81 × BTup i81)) (c82 : PTup i82 → Option (PTup o82 × BTup i82)) (l0 : PTup lc117_0 → PTup lb117_0 → PTup lv117_0 → Option (Sum (PTup lv117_0) (PTup lr117_0) × BTup lb117_0)) : CEnv := ⟨⟨Go.Proofs.Tryz.prog, fnsL [(80, ⟨i80, o80, c80, .nor⟩), (81, ⟨i81, o81, c81, .nor⟩), (82, ⟨i82, o82, c82, .nor⟩)]⟩, loopsL [(2, e117_0 l0)]⟩
theorem t117_0 (c80 : PTup i80 → Option (PTup o80 × BTup i80)) (c81 : PTup i81 → Option (PTup o81 × BTup i81)) (c82 : PTup i82 → Option (PTup o82 × BTup i82)) (l0 : PTup lc117_0 → PTup lb117_0 → PTup lv117_0 → Option (Sum (PTup lv117_0) (PTup lr117_0) × BTup lb117_0)) (again) (x y z) : loopRound (E117 c80 c81 c82 l0) (loopAt (bodyOf Go.Proofs.Tryz.f117) 0) (e117_0 l0) Go.Proofs.Tryz.f117.ntmps again x y z = w117_0 c80 c81 c82  again x y z := by kernel_rfl
noncomputable def n117_0 (c80 : PTup i80 → Option (PTup o80 × BTup i80)) (c81 : PTup i81 → Option (PTup o81 × BTup i81)) (c82 : PTup i82 → Option (PTup o82 × BTup i82))  : Nat → PTup lc117_0 → PTup lb117_0 → PTup lv117_0 → Option (Sum (PTup lv117_0) (PTup lr117_0) × BTup lb117_0)
  | 0, _, _, _ => none
  | n + 1, x, y, z => w117_0 c80 c81 c82  (fun y z => n117_0 c80 c81 c82  n x y z) x y z
theorem s117 (c80 : PTup i80 → Option (PTup o80 × BTup i80)) (c81 : PTup i81 → Option (PTup o81 × BTup i81)) (c82 : PTup i82 → Option (PTup o82 × BTup i82)) (l0 : PTup lc117_0 → PTup lb117_0 → PTup lv117_0 → Option (Sum (PTup lv117_0) (PTup lr117_0) × BTup lb117_0)) (y) : tevF (E117 c80 c81 c82 l0) Go.Proofs.Tryz.f117 i117 o117 y = m117 c80 c81 c82 l0 y := by kernel_rfl
noncomputable def L117_0 : PTup lc117_0 → PTup lb117_0 → PTup lv117_0 → Option (Sum (PTup lv117_0) (PTup lr117_0) × BTup lb117_0) := n117_0 r80 r81 r82  fuel
noncomputable def r117 : PTup i117 → Option (PTup o117 × BTup i117) := m117 r80 r81 r82 L117_0
theorem k117 : CallOk Go.Proofs.Tryz.prog 117 ⟨i117, o117, r117, .nor⟩ := by
  have hE : ∀ g f, (E117 r80 r81 r82 L117_0).env.fns g = some f → CallOk Go.Proofs.Tryz.prog g f := fnsL_ok ⟨k80, k81, k82, trivial⟩
  have h0 : LoopOk Go.Proofs.Tryz.prog Go.Proofs.Tryz.f117.ntmps (loopAt (bodyOf Go.Proofs.Tryz.f117) 0) (e117_0 L117_0) := lp_ok (E := E117 r80 r81 r82 L117_0) rfl hE mixed (AllLoops.of_list (l := []) (by kernel_rfl) trivial) (n117_0 r80 r81 r82 ) (fun _ _ _ => rfl) (fun n x y z => t117_0 r80 r81 r82 L117_0 _ x y z) rfl
  exact fn_ok (E := E117 r80 r81 r82 L117_0) rfl hE mixed (by kernel_rfl) (by kernel_rfl) (AllLoops.of_list (l := [(loopAt (bodyOf Go.Proofs.Tryz.f117) 0)]) (by kernel_rfl) (.one (by kernel_rfl) h0 trivial)) (s117 r80 r81 r82 L117_0)
/- loop.example/g00231/impl.ringFrom -/
@[reducible] def i105 : List Ty := [.a [.int .i64, .sl false .t], .v (.int .i64)]
@[reducible] def o105 : List Ty := [.v (.bool)]
noncomputable def m105 (c117 : PTup i117 → Option (PTup o117 × BTup i117))  (y : PTup i105) : Option (PTup o105 × BTup i105) :=
  (c117 (y.1, ())).bind fun r0 =>
  bif r0.1.1 then (bif (eqI (lenI y.1.2.1) (0 : Int)) then (some ((true, ()), ()))
   else bif (ltI (0 : Int) (lenI y.1.2.1)) then (some (((leI y.2.1 (rdE .t y.1.2.1 (0 : Int)).1), ()), ()))
   else none)
  else some ((false, ()), ())
noncomputable def E105 (c117 : PTup i117 → Option (PTup o117 × BTup i117))  : CEnv := ⟨⟨Go.Proofs.Tryz.prog, fnsL [(117, ⟨i117, o117, c117, .nor⟩)]⟩, loopsL []⟩
theorem s105 (c117 : PTup i117 → Option (PTup o117 × BTup i117))  (y) : tevF (E105 c117 ) Go.Proofs.Tryz.f105 i105 o105 y = m105 c117  y := by kernel_rfl
noncomputable def r105 : PTup i105 → Option (PTup o105 × BTup i105) := m105 r117 
theorem k105 : CallOk Go.Proofs.Tryz.prog 105 ⟨i105, o105, r105, .nor⟩ := by
  have hE : ∀ g f, (E105 r117 ).env.fns g = some f → CallOk Go.Proofs.Tryz.prog g f := fnsL_ok ⟨k117, trivial⟩
  exact fn_ok (E := E105 r117 ) rfl hE mixed (by kernel_rfl) (by kernel_rfl) (AllLoops.of_list (l := []) (by kernel_rfl) trivial) (s105 r117 )
/- loop.example/g00231/impl.cyclesAhead -/
@[reducible] def i118 : List Ty := [.v (.int .i64), .v (.int .i64), .v (.int .i64)]
@[reducible] def o118 : List Ty := [.v (.int .i64)]
noncomputable def m118   (y : PTup i118) : Option (PTup o118 × BTup i118) :=
  bif (neI y.2.2.1 (0 : Int)) then (some (((wI (Int.tdiv (wI ((wI ((wI (y.1 + y.2.2.1)) - (1 : Int))) - y.2.1)) y.2.2.1)), ()), ()))
  else none
noncomputable def E118   : CEnv := ⟨⟨Go.Proofs.Tryz.prog, fnsL []⟩, loopsL []⟩
theorem s118   (y) : tevF (E118  ) Go.Proofs.Tryz.f118 i118 o118 y = m118   y := by kernel_rfl
noncomputable def r118 : PTup i118 → Option (PTup o118 × BTup i118) := m118  
theorem k118 : CallOk Go.Proofs.Tryz.prog 118 ⟨i118, o118, r118, .nor⟩ := by
  have hE : ∀ g f, (E118  ).env.fns g = some f → CallOk Go.Proofs.Tryz.prog g f := fnsL_ok trivial
  exact fn_ok (E := E118  ) rfl hE mixed (by kernel_rfl) (by kernel_rfl) (AllLoops.of_list (l := []) (by kernel_rfl) trivial) (s118  )
/- loop.example/g00231/impl.framesOk -/
@[reducible] def i106 : List Ty := [.v (.sl false .n), .v (.int .i64)]
@[reducible] def o106 : List Ty := [.v (.bool)]
@[reducible] def lc106_0 : List Ty := [.v (.sl false .n), .v (.int .i64)]
@[reducible] def lb106_0 : List Ty := []
@[reducible] def lv106_0 : List Ty := [.v (.int .i64)]
@[reducible] def lr106_0 : List Ty := [.v (.bool)]
noncomputable def w106_0 (c118 : PTup i118 → Option (PTup o118 × BTup i118))  (again : PTup lb106_0 → PTup lv106_0 → Option (Sum (PTup lv106_0) (PTup lr106_0) × BTup lb106_0)) (x : PTup lc106_0) (y : PTup lb106_0) (z : PTup lv106_0) : Option (Sum (PTup lv106_0) (PTup lr106_0) × BTup lb106_0) :=
  bif (ltI z.1 x.2.1) then (bif (leI (0 : Int) z.1) then (bif (ltI z.1 (lenI x.1)) then (bif (neI (lenI (rdE .n x.1 z.1)) (48 : Int)) then (some ((Sum.inr (false, ())), ()))
     else again () ((wI (z.1 + (1 : Int))), ()))
    else none)
   else none)
  else some ((Sum.inl z), ())
noncomputable def e106_0 (l : PTup lc106_0 → PTup lb106_0 → PTup lv106_0 → Option (Sum (PTup lv106_0) (PTup lr106_0) × BTup lb106_0)) : LoopE := ⟨[7, 8], lc106_0, [], lb106_0, [9], lv106_0, [4], lr106_0, 0, l⟩
noncomputable def m106 (c118 : PTup i118 → Option (PTup o118 × BTup i118)) (l0 : PTup lc106_0 → PTup lb106_0 → PTup lv106_0 → Option (Sum (PTup lv106_0) (PTup lr106_0) × BTup lb106_0)) (y : PTup i106) : Option (PTup o106 × BTup i106) :=
  (l0 (y.1, ((lenI y.1), ())) () ((0 : Int), ())).bind fun r0 =>
  sumElim r0.1 (fun r1 => (c118 (y.2.1, ((48 : Int), ((64 : Int), ())))).bind fun r2 =>
   some (((eqI (lenI y.1) r2.1.1), ()), ()))
  (fun r1 => some (r1, ()))
noncomputable def E106 (c118 : PTup i118 → Option (PTup o118 × BTup i118)) (l0 : PTup lc106_0 → PTup lb106_0 → PTup lv106_0 → Option (Sum (PTup lv106_0) (PTup lr106_0) × BTup lb106_0)) : CEnv := ⟨⟨Go.Proofs.Tryz.prog, fnsL [(118, ⟨i118, o118, c118, .nor⟩)]⟩, loopsL [(2, e106_0 l0)]⟩
theorem t106_0 (c118 : PTup i118 → Option (PTup o118 × BTup i118)) (l0 : PTup lc106_0 → PTup lb106_0 → PTup lv106_0 → Option (Sum (PTup lv106_0) (PTup lr106_0) × BTup lb106_0)) (again) (x y z) : loopRound (E106 c118 l0) (loopAt (bodyOf Go.Proofs.Tryz.f106) 0) (e106_0 l0) Go.Proofs.Tryz.f106.ntmps again x y z = w106_0 c118  again x y z := by kernel_rfl
noncomputable def n106_0 (c118 : PTup i118 → Option (PTup o118 × BTup i118))  : Nat → PTup lc106_0 → PTup lb106_0 → PTup lv106_0 → Option (Sum (PTup lv106_0) (PTup lr106_0) × BTup lb106_0)
  | 0, _, _, _ => none
  | n + 1, x, y, z => w106_0 c118  (fun y z => n106_0 c118  n x y z) x y z
theorem s106 (c118 : PTup i118 → Option (PTup o118 × BTup i118)) (l0 : PTup lc106_0 → PTup lb106_0 → PTup lv106_0 → Option (Sum (PTup lv106_0) (PTup lr106_0) × BTup lb106_0)) (y) : tevF (E106 c118 l0) Go.Proofs.Tryz.f106 i106 o106 y = m106 c118 l0 y := by kernel_rfl
noncomputable def L106_0 : PTup lc106_0 → PTup lb106_0 → PTup lv106_0 → Option (Sum (PTup lv106_0) (PTup lr106_0) × BTup lb106_0) := n106_0 r118  fuel
noncomputable def r106 : PTup i106 → Option (PTup o106 × BTup i106) := m106 r118 L106_0
theorem k106 : CallOk Go.Proofs.Tryz.prog 106 ⟨i106, o106, r106, .nor⟩ := by
  have hE : ∀ g f, (E106 r118 L106_0).env.fns g = some f → CallOk Go.Proofs.Tryz.prog g f := fnsL_ok ⟨k118, trivial⟩
  have h0 : LoopOk Go.Proofs.Tryz.prog Go.Proofs.Tryz.f106.ntmps (loopAt (bodyOf Go.Proofs.Tryz.f106) 0) (e106_0 L106_0) := lp_ok (E := E106 r118 L106_0) rfl hE mixed (AllLoops.of_list (l := []) (by kernel_rfl) trivial) (n106_0 r118 ) (fun _ _ _ => rfl) (fun n x y z => t106_0 r118 L106_0 _ x y z) rfl
  exact fn_ok (E := E106 r118 L106_0) rfl hE mixed (by kernel_rfl) (by kernel_rfl) (AllLoops.of_list (l := [(loopAt (bodyOf Go.Proofs.Tryz.f106) 0)]) (by kernel_rfl) (.one (by kernel_rfl) h0 trivial)) (s106 r118 L106_0)
/- loop.example/g00231/impl.PictureOk -/
@[reducible] def i78 : List Ty := [.a [.int .i64, .int .i64, .int .i64, .int .i64, .int .i64, .bool, .sl false .i, .sl false .i, .int .i64, .sl false .t, .sl false .n]]
@[reducible] def o78 : List Ty := [.v (.bool)]
noncomputable def m78 (c104 : PTup i104 → Option (PTup o104 × BTup i104)) (c106 : PTup i106 → Option (PTup o106 × BTup i106)) (c105 : PTup i105 → Option (PTup o105 × BTup i105))  (y : PTup i78) : Option (PTup o78 × BTup i78) :=
  (c104 ((y.1.1, (y.1.2.1, (y.1.2.2.1, (y.1.2.2.2.1, (y.1.2.2.2.2.1, (y.1.2.2.2.2.2.1, (y.1.2.2.2.2.2.2.1, (y.1.2.2.2.2.2.2.2.1, ())))))))), ())).bind fun r0 =>
  bif r0.1.1 then ((c105 ((y.1.2.2.2.2.2.2.2.2.1, (y.1.2.2.2.2.2.2.2.2.2.1, ())), (y.1.1, ()))).bind fun r1 =>
   bif r1.1.1 then ((c106 (y.1.2.2.2.2.2.2.2.2.2.2.1, (y.1.1, ()))).bind fun r2 =>
    some (r2.1, ()))
   else some ((false, ()), ()))
  else some ((false, ()), ())
noncomputable def E78 (c104 : PTup i104 → Option (PTup o104 × BTup i104)) (c106 : PTup i106 → Option (PTup o106 × BTup i106)) (c105 : PTup i105 → Option (PTup o105 × BTup i105))  : CEnv := ⟨⟨Go.Proofs.Tryz.prog, fnsL [(104, ⟨i104, o104, c104, .nor⟩), (106, ⟨i106, o106, c106, .nor⟩), (105, ⟨i105, o105, c105, .nor⟩)]⟩, loopsL []⟩
theorem s78 (c104 : PTup i104 → Option (PTup o104 × BTup i104)) (c106 : PTup i106 → Option (PTup o106 × BTup i106)) (c105 : PTup i105 → Option (PTup o105 × BTup i105))  (y) : tevF (E78 c104 c106 c105 ) Go.Proofs.Tryz.f78 i78 o78 y = m78 c104 c106 c105  y := by kernel_rfl
noncomputable def r78 : PTup i78 → Option (PTup o78 × BTup i78) := m78 r104 r106 r105 
theorem k78 : CallOk Go.Proofs.Tryz.prog 78 ⟨i78, o78, r78, .nor⟩ := by
  have hE : ∀ g f, (E78 r104 r106 r105 ).env.fns g = some f → CallOk Go.Proofs.Tryz.prog g f := fnsL_ok ⟨k104, k106, k105, trivial⟩
  exact fn_ok (E := E78 r104 r106 r105 ) rfl hE mixed (by kernel_rfl) (by kernel_rfl) (AllLoops.of_list (l := []) (by kernel_rfl) trivial) (s78 r104 r106 r105 )
/- loop.example/g00231/impl.ApuOk -/
@[reducible] def i107 : List Ty := [.a [.int .i64, .int .i64, .int .i64, .int .i64, .int .i64, .bool, .bool]]
@[reducible] def o107 : List Ty := [.v (.bool)]
noncomputable def m107 (c80 : PTup i80 → Option (PTup o80 × BTup i80)) (c81 : PTup i81 → Option (PTup o81 × BTup i81)) (c82 : PTup i82 → Option (PTup o82 × BTup i82))  (y : PTup i107) : Option (PTup o107 × BTup i107) :=
  (c81 (y.1.1, ())).bind fun r0 =>
  bif r0.1.1 then ((c80 (y.1.2.1, ())).bind fun r1 =>
   bif r1.1.1 then ((c80 (y.1.2.2.1, ())).bind fun r2 =>
    bif r2.1.1 then ((c82 (y.1.2.2.2.1, ((0 : Int), ((1 : Int), ())))).bind fun r3 =>
     bif r3.1.1 then ((c82 (y.1.2.2.2.2.1, ((0 : Int), ((31 : Int), ())))).bind fun r4 =>
      some (r4.1, ()))
     else some ((false, ()), ()))
    else some ((false, ()), ()))
   else some ((false, ()), ()))
  else some ((false, ()), ())
noncomputable def E107 (c80 : PTup i80 → Option (PTup o80 × BTup i80)) (c81 : PTup i81 → Option (PTup o81 × BTup i81)) (c82 : PTup i82 → Option (PTup o82 × BTup i82))  : CEnv := ⟨⟨Go.Proofs.Tryz.prog, fnsL [(80, ⟨i80, o80, c80, .nor⟩), (81, ⟨i81, o81, c81, .nor⟩), (82, ⟨i82, o82, c82, .nor⟩)]⟩, loopsL []⟩
theorem s107 (c80 : PTup i80 → Option (PTup o80 × BTup i80)) (c81 : PTup i81 → Option (PTup o81 × BTup i81)) (c82 : PTup i82 → Option (PTup o82 × BTup i82))  (y) : tevF (E107 c80 c81 c82 ) Go.Proofs.Tryz.f107 i107 o107 y = m107 c80 c81 c82  y := by kernel_rfl
noncomputable def r107 : PTup i107 → Option (PTup o107 × BTup i107) := m107 r80 r81 r82 
theorem k107 : CallOk Go.Proofs.Tryz.prog 107 ⟨i107, o107, r107, .nor⟩ := by
  have hE : ∀ g f, (E107 r80 r81 r82 ).env.fns g = some f → CallOk Go.Proofs.Tryz.prog g f := fnsL_ok ⟨k80, k81, k82, trivial⟩
  exact fn_ok (E := E107 r80 r81 r82 ) rfl hE mixed (by kernel_rfl) (by kernel_rfl) (AllLoops.of_list (l := []) (by kernel_rfl) trivial) (s107 r80 r81 r82 )
/- loop.example/g00231/impl.samplesOk -/
@[reducible] def i108 : List Ty := [.v (.sl false .i), .v (.int .i64)]
@[reducible] def o108 : List Ty := [.v (.bool)]
noncomputable def m108 (c118 : PTup i118 → Option (PTup o118 × BTup i118))  (y : PTup i108) : Option (PTup o108 × BTup i108) :=
  (c118 (y.2.1, ((15 : Int), ((16 : Int), ())))).bind fun r0 =>
  some (((eqI (lenI y.1) r0.1.1), ()), ())
noncomputable def E108 (c118 : PTup i118 → Option (PTup o118 × BTup i118))  : CEnv := ⟨⟨Go.Proofs.Tryz.prog, fnsL [(118, ⟨i118, o118, c118, .nor⟩)]⟩, loopsL []⟩
theorem s108 (c118 : PTup i118 → Option (PTup o118 × BTup i118))  (y) : tevF (E108 c118 ) Go.Proofs.Tryz.f108 i108 o108 y = m108 c118  y := by kernel_rfl
noncomputable def r108 : PTup i108 → Option (PTup o108 × BTup i108) := m108 r118 
theorem k108 : CallOk Go.Proofs.Tryz.prog 108 ⟨i108, o108, r108, .nor⟩ := by
  have hE : ∀ g f, (E108 r118 ).env.fns g = some f → CallOk Go.Proofs.Tryz.prog g f := fnsL_ok ⟨k118, trivial⟩
  exact fn_ok (E := E108 r118 ) rfl hE mixed (by kernel_rfl) (by kernel_rfl) (AllLoops.of_list (l := []) (by kernel_rfl) trivial) (s108 r118 )
/- loop.example/g00231/impl.SoundOk -/
@[reducible] def i79 : List Ty := [.a [.int .i64, .int .i64, .int .i64, .int .i64, .int .i64, .bool, .bool, .int .i64, .sl false .t, .sl false .i]]
@[reducible] def o79 : List Ty := [.v (.bool)]
noncomputable def m79 (c107 : PTup i107 → Option (PTup o107 × BTup i107)) (c105 : PTup i105 → Option (PTup o105 × BTup i105)) (c108 : PTup i108 → Option (PTup o108 × BTup i108))  (y : PTup i79) : Option (PTup o79 × BTup i79) :=
  (c107 ((y.1.1, (y.1.2.1, (y.1.2.2.1, (y.1.2.2.2.1, (y.1.2.2.2.2.1, (y.1.2.2.2.2.2.1, (y.1.2.2.2.2.2.2.1, ()))))))), ())).bind fun r0 =>
  bif r0.1.1 then ((c105 ((y.1.2.2.2.2.2.2.2.1, (y.1.2.2.2.2.2.2.2.2.1, ())), (y.1.1, ()))).bind fun r1 =>
   bif r1.1.1 then ((c108 (y.1.2.2.2.2.2.2.2.2.2.1, (y.1.1, ()))).bind fun r2 =>
    some (r2.1, ()))
   else some ((false, ()), ()))
  else some ((false, ()), ())
noncomputable def E79 (c107 : PTup i107 → Option (PTup o107 × BTup i107)) (c105 : PTup i105 → Option (PTup o105 × BTup i105)) (c108 : PTup i108 → Option (PTup o108 × BTup i108))  : CEnv := ⟨⟨Go.Proofs.Tryz.prog, fnsL [(107, ⟨i107, o107, c107, .nor⟩), (105, ⟨i105, o105, c105, .nor⟩), (108, ⟨i108, o108, c108, .nor⟩)]⟩, loopsL []⟩
theorem s79 (c107 : PTup i107 → Option (PTup o107 × BTup i107)) (c105 : PTup i105 → Option (PTup o105 × BTup i105)) (c108 : PTup i108 → Option (PTup o108 × BTup i108))  (y) : tevF (E79 c107 c105 c108 ) Go.Proofs.Tryz.f79 i79 o79 y = m79 c107 c105 c108  y := by kernel_rfl
noncomputable def r79 : PTup i79 → Option (PTup o79 × BTup i79) := m79 r107 r105 r108 
theorem k79 : CallOk Go.Proofs.Tryz.prog 79 ⟨i79, o79, r79, .nor⟩ := by
  have hE : ∀ g f, (E79 r107 r105 r108 ).env.fns g = some f → CallOk Go.Proofs.Tryz.prog g f := fnsL_ok ⟨k107, k105, k108, trivial⟩
  exact fn_ok (E := E79 r107 r105 r108 ) rfl hE mixed (by kernel_rfl) (by kernel_rfl) (AllLoops.of_list (l := []) (by kernel_rfl) trivial) (s79 r107 r105 r108 )
/- loop.example/g00231/impl.ringUpto -/
@[reducible] def i83 : List Ty := [.a [.int .i64, .sl false .t], .v (.int .i64)]
@[reducible] def o83 : List Ty := [.v (.bool)]
noncomputable def m83   (y : PTup i83) : Option (PTup o83 × BTup i83) :=
  bif (eqI (lenI y.1.2.1) (0 : Int)) then (some ((true, ()), ()))
  else bif (leI (0 : Int) (wI ((lenI y.1.2.1) - (1 : Int)))) then (bif (ltI (wI ((lenI y.1.2.1) - (1 : Int))) (lenI y.1.2.1)) then (some (((leI (rdE .t y.1.2.1 (wI ((lenI y.1.2.1) - (1 : Int)))).1 y.2.1), ()), ()))
   else none)
  else none
noncomputable def E83   : CEnv := ⟨⟨Go.Proofs.Tryz.prog, fnsL []⟩, loopsL []⟩
theorem s83   (y) : tevF (E83  ) Go.Proofs.Tryz.f83 i83 o83 y = m83   y := by kernel_rfl
noncomputable def r83 : PTup i83 → Option (PTup o83 × BTup i83) := m83  
theorem k83 : CallOk Go.Proofs.Tryz.prog 83 ⟨i83, o83, r83, .nor⟩ := by
  have hE : ∀ g f, (E83  ).env.fns g = some f → CallOk Go.Proofs.Tryz.prog g f := fnsL_ok trivial
  exact fn_ok (E := E83  ) rfl hE mixed (by kernel_rfl) (by kernel_rfl) (AllLoops.of_list (l := []) (by kernel_rfl) trivial) (s83  )
/- loop.example/g00231/impl.SplitOk -/
@[reducible] def i32 : List Ty := [.a [.sl false .n, .sl false .i, .sl false .i, .int .i64, .int .i64, .int .i64, .int .i64, .int .i64, .bool, .bool, .bool, .bool, .bool, .int .i64, .int .i64, .bool, .int .i64, .bool, .int .i64, .int .i64, .sl false .i, .int .i64, .int .i64, .int .i64, .int .i64, .int .i64, .bool, .sl false .i, .sl false .i, .int .i64, .sl false .t, .sl false .n, .int .i64, .int .i64, .int .i64, .int .i64, .int .i64, .bool, .bool, .int .i64, .sl false .t, .sl false .i]]
@[reducible] def o32 : List Ty := [.v (.bool)]
noncomputable def m32 (c77 : PTup i77 → Option (PTup o77 × BTup i77)) (c75 : PTup i75 → Option (PTup o75 × BTup i75)) (c76 : PTup i76 → Option (PTup o76 × BTup i76)) (c78 : PTup i78 → Option (PTup o78 × BTup i78)) (c79 : PTup i79 → Option (PTup o79 × BTup i79)) (c80 : PTup i80 → Option (PTup o80 × BTup i80)) (c81 : PTup i81 → Option (PTup o81 × BTup i81)) (c83 : PTup i83 → Option (PTup o83 × BTup i83)) (c82 : PTup i82 → Option (PTup o82 × BTup i82))  (y : PTup i32) : Option (PTup o32 × BTup i32) :=
  (c75 ((y.1.1, ()), ((y.1.2.2.1, (y.1.2.2.2.1, ())), ()))).bind fun r0 =>
  bif r0.1.1 then ((c76 (y.1.2.1, ())).bind fun r1 =>
   bif r1.1.1 then ((c77 ((y.1.2.2.2.2.1, (y.1.2.2.2.2.2.1, (y.1.2.2.2.2.2.2.1, (y.1.2.2.2.2.2.2.2.1, (y.1.2.2.2.2.2.2.2.2.1, (y.1.2.2.2.2.2.2.2.2.2.1, (y.1.2.2.2.2.2.2.2.2.2.2.1, (y.1.2.2.2.2.2.2.2.2.2.2.2.1, ())))))))), ())).bind fun r2 =>
    bif r2.1.1 then ((c78 ((y.1.2.2.2.2.2.2.2.2.2.2.2.2.2.2.2.2.2.2.2.2.2.1, (y.1.2.2.2.2.2.2.2.2.2.2.2.2.2.2.2.2.2.2.2.2.2.2.1, (y.1.2.2.2.2.2.2.2.2.2.2.2.2.2.2.2.2.2.2.2.2.2.2.2.1, (y.1.2.2.2.2.2.2.2.2.2.2.2.2.2.2.2.2.2.2.2.2.2.2.2.2.1, (y.1.2.2.2.2.2.2.2.2.2.2.2.2.2.2.2.2.2.2.2.2.2.2.2.2.2.1, (y.1.2.2.2.2.2.2.2.2.2.2.2.2.2.2.2.2.2.2.2.2.2.2.2.2.2.2.1, (y.1.2.2.2.2.2.2.2.2.2.2.2.2.2.2.2.2.2.2.2.2.2.2.2.2.2.2.2.1, (y.1.2.2.2.2.2.2.2.2.2.2.2.2.2.2.2.2.2.2.2.2.2.2.2.2.2.2.2.2.1, (y.1.2.2.2.2.2.2.2.2.2.2.2.2.2.2.2.2.2.2.2.2.2.2.2.2.2.2.2.2.2.1, (y.1.2.2.2.2.2.2.2.2.2.2.2.2.2.2.2.2.2.2.2.2.2.2.2.2.2.2.2.2.2.2.1, (y.1.2.2.2.2.2.2.2.2.2.2.2.2.2.2.2.2.2.2.2.2.2.2.2.2.2.2.2.2.2.2.2.1, ()))))))))))), ())).bind fun r3 =>
     bif r3.1.1 then ((c79 (y.1.2.2.2.2.2.2.2.2.2.2.2.2.2.2.2.2.2.2.2.2.2.2.2.2.2.2.2.2.2.2.2.2, ())).bind fun r4 =>
      (c80 (y.1.2.2.2.2.2.2.2.2.2.2.2.2.2.1, ())).bind fun r5 =>
      bif r5.1.1 then ((c80 (y.1.2.2.2.2.2.2.2.2.2.2.2.2.2.2.2.2.1, ())).bind fun r6 =>
       bif r6.1.1 then ((c81 (y.1.2.2.2.2.2.2.2.2.2.2.2.2.2.2.1, ())).bind fun r7 =>
        bif r7.1.1 then ((c82 (y.1.2.2.2.2.2.2.2.2.2.2.2.2.2.2.2.2.2.2.1, ((0 : Int), (y.1.2.2.2.2.2.2.2.2.2.2.2.2.2.2.1, ())))).bind fun r8 =>
         bif r8.1.1 then ((c82 (y.1.2.2.2.2.2.2.2.2.2.2.2.2.2.2.2.2.2.2.2.1, ((0 : Int), (y.1.2.2.2.2.2.2.2.2.2.2.2.2.2.2.1, ())))).bind fun r9 =>
          bif r4.1.1 then (bif r9.1.1 then (bif (leI y.1.2.2.2.2.2.2.2.2.2.2.2.2.2.2.2.2.2.2.2.2.2.1 y.1.2.2.2.2.2.2.2.2.2.2.2.2.2.2.1) then (bif (leI y.1.2.2.2.2.2.2.2.2.2.2.2.2.2.2.2.2.2.2.2.2.2.2.2.2.2.2.2.2.2.2.2.2.1 y.1.2.2.2.2.2.2.2.2.2.2.2.2.2.2.1) then ((c83 ((y.1.2.2.2.2.2.2.2.2.2.2.2.2.2.2.2.2.2.2.2.2.2.2.2.2.2.2.2.2.2.1, (y.1.2.2.2.2.2.2.2.2.2.2.2.2.2.2.2.2.2.2.2.2.2.2.2.2.2.2.2.2.2.2.1, ())), (y.1.2.2.2.2.2.2.2.2.2.2.2.2.2.2.1, ()))).bind fun r10 =>
              bif r10.1.1 then ((c83 ((y.1.2.2.2.2.2.2.2.2.2.2.2.2.2.2.2.2.2.2.2.2.2.2.2.2.2.2.2.2.2.2.2.2.2.2.2.2.2.2.2.1, (y.1.2.2.2.2.2.2.2.2.2.2.2.2.2.2.2.2.2.2.2.2.2.2.2.2.2.2.2.2.2.2.2.2.2.2.2.2.2.2.2.2.1, ())), (y.1.2.2.2.2.2.2.2.2.2.2.2.2.2.2.1, ()))).bind fun r11 =>
               some (r11.1, ()))
              else some ((false, ()), ()))
             else some ((false, ()), ()))
            else some ((false, ()), ()))
           else some ((false, ()), ()))
          else some ((false, ()), ()))
         else bif r4.1.1 then (some ((false, ()), ()))
         else some ((false, ()), ()))
        else bif r4.1.1 then (some ((false, ()), ()))
        else some ((false, ()), ()))
       else bif r4.1.1 then (some ((false, ()), ()))
       else some ((false, ()), ()))
      else bif r4.1.1 then (some ((false, ()), ()))
      else some ((false, ()), ()))
     else (c80 (y.1.2.2.2.2.2.2.2.2.2.2.2.2.2.1, ())).bind fun r4 =>
     bif r4.1.1 then ((c80 (y.1.2.2.2.2.2.2.2.2.2.2.2.2.2.2.2.2.1, ())).bind fun r5 =>
      bif r5.1.1 then ((c81 (y.1.2.2.2.2.2.2.2.2.2.2.2.2.2.2.1, ())).bind fun r6 =>
       bif r6.1.1 then ((c82 (y.1.2.2.2.2.2.2.2.2.2.2.2.2.2.2.2.2.2.2.1, ((0 : Int), (y.1.2.2.2.2.2.2.2.2.2.2.2.2.2.2.1, ())))).bind fun r7 =>
        bif r7.1.1 then ((c82 (y.1.2.2.2.2.2.2.2.2.2.2.2.2.2.2.2.2.2.2.2.1, ((0 : Int), (y.1.2.2.2.2.2.2.2.2.2.2.2.2.2.2.1, ())))).bind fun r8 =>
         some ((false, ()), ()))
        else some ((false, ()), ()))
       else some ((false, ()), ()))
      else some ((false, ()), ()))
     else some ((false, ()), ()))
    else (c80 (y.1.2.2.2.2.2.2.2.2.2.2.2.2.2.1, ())).bind fun r3 =>
    bif r3.1.1 then ((c80 (y.1.2.2.2.2.2.2.2.2.2.2.2.2.2.2.2.2.1, ())).bind fun r4 =>
     bif r4.1.1 then ((c81 (y.1.2.2.2.2.2.2.2.2.2.2.2.2.2.2.1, ())).bind fun r5 =>
      bif r5.1.1 then ((c82 (y.1.2.2.2.2.2.2.2.2.2.2.2.2.2.2.2.2.2.2.1, ((0 : Int), (y.1.2.2.2.2.2.2.2.2.2.2.2.2.2.2.1, ())))).bind fun r6 =>
       bif r6.1.1 then ((c82 (y.1.2.2.2.2.2.2.2.2.2.2.2.2.2.2.2.2.2.2.2.1, ((0 : Int), (y.1.2.2.2.2.2.2.2.2.2.2.2.2.2.2.1, ())))).bind fun r7 =>
        some ((false, ()), ()))
       else some ((false, ()), ()))
      else some ((false, ()), ()))
     else some ((false, ()), ()))
    else some ((false, ()), ()))
   else (c80 (y.1.2.2.2.2.2.2.2.2.2.2.2.2.2.1, ())).bind fun r2 =>
   bif r2.1.1 then ((c80 (y.1.2.2.2.2.2.2.2.2.2.2.2.2.2.2.2.2.1, ())).bind fun r3 =>
    bif r3.1.1 then ((c81 (y.1.2.2.2.2.2.2.2.2.2.2.2.2.2.2.1, ())).bind fun r4 =>
     bif r4.1.1 then ((c82 (y.1.2.2.2.2.2.2.2.2.2.2.2.2.2.2.2.2.2.2.1, ((0 : Int), (y.1.2.2.2.2.2.2.2.2.2.2.2.2.2.2.1, ())))).bind fun r5 =>
      bif r5.1.1 then ((c82 (y.1.2.2.2.2.2.2.2.2.2.2.2.2.2.2.2.2.2.2.2.1, ((0 : Int), (y.1.2.2.2.2.2.2.2.2.2.2.2.2.2.2.1, ())))).bind fun r6 =>
       some ((false, ()), ()))
      else some ((false, ()), ()))
     else some ((false, ()), ()))
    else some ((false, ()), ()))
   else some ((false, ()), ()))
  else (c80 (y.1.2.2.2.2.2.2.2.2.2.2.2.2.2.1, ())).bind fun r1 =>
  bif r1.1.1 then ((c80 (y.1.2.2.2.2.2.2.2.2.2.2.2.2.2.2.2.2.1, ())).bind fun r2 =>
   bif r2.1.1 then ((c81 (y.1.2.2.2.2.2.2.2.2.2.2.2.2.2.2.1, ())).bind fun r3 =>
    bif r3.1.1 then ((c82 (y.1.2.2.2.2.2.2.2.2.2.2.2.2.2.2.2.2.2.2.1, ((0 : Int), (y.1.2.2.2.2.2.2.2.2.2.2.2.2.2.2.1, ())))).bind fun r4 =>
     bif r4.1.1 then ((c82 (y.1.2.2.2.2.2.2.2.2.2.2.2.2.2.2.2.2.2.2.2.1, ((0 : Int), (y.1.2.2.2.2.2.2.2.2.2.2.2.2.2.2.1, ())))).bind fun r5 =>
      some ((false, ()), ()))
     else some ((false, ()), ()))
    else some ((false, ()), ()))
   else some ((false, ()), ()))
  else some ((false, ()), ())
noncomputable def E32 (c77 : PTup i77 → Option (PTup o77 × BTup i77)) (c75 : PTup i75 → Option (PTup o75 × BTup i75)) (c76 : PTup i76 → Option (PTup o76 × BTup i76)) (c78 : PTup i78 → Option (PTup o78 × BTup i78)) (c79 : PTup i79 → Option (PTup o79 × BTup i79)) (c80 : PTup i80 → Option (PTup o80 × BTup i80)) (c81 : PTup i81 → Option (PTup o81 × BTup i81)) (c83 : PTup i83 → Option (PTup o83 × BTup i83)) (c82 : PTup i82 → Option (PTup o82 × BTup i82))  : CEnv := ⟨⟨Go.Proofs.Tryz.prog, fnsL [(77, ⟨i77, o77, c77, .nor⟩), (75, ⟨i75, o75, c75, .nor⟩), (76, ⟨i76, o76, c76, .nor⟩), (78, ⟨i78, o78, c78, .nor⟩), (79, ⟨i79, o79, c79, .nor⟩), (80, ⟨i80, o80, c80, .nor⟩), (81, ⟨i81, o81, c81, .nor⟩), (83, ⟨i83, o83, c83, .nor⟩), (82, ⟨i82, o82, c82, .nor⟩)]⟩, loopsL []⟩
theorem s32 (c77 : PTup i77 → Option (PTup o77 × BTup i77)) (c75 : PTup i75 → Option (PTup o75 × BTup i75)) (c76 : PTup i76 → Option (PTup o76 × BTup i76)) (c78 : PTup i78 → Option (PTup o78 × BTup i78)) (c79 : PTup i79 → Option (PTup o79 × BTup i79)) (c80 : PTup i80 → Option (PTup o80 × BTup i80)) (c81 : PTup i81 → Option (PTup o81 × BTup i81)) (c83 : PTup i83 → Option (PTup o83 × BTup i83)) (c82 : PTup i82 → Option (PTup o82 × BTup i82))  (y) : tevF (E32 c77 c75 c76 c78 c79 c80 c81 c83 c82 ) Go.Proofs.Tryz.f32 i32 o32 y = m32 c77 c75 c76 c78 c79 c80 c81 c83 c82  y := by kernel_rfl
noncomputable def r32 : PTup i32 → Option (PTup o32 × BTup i32) := m32 r77 r75 r76 r78 r79 r80 r81 r83 r82 
theorem k32 : CallOk Go.Proofs.Tryz.prog 32 ⟨i32, o32, r32, .nor⟩ := by
  have hE : ∀ g f, (E32 r77 r75 r76 r78 r79 r80 r81 r83 r82 ).env.fns g = some f → CallOk Go.Proofs.Tryz.prog g f := fnsL_ok ⟨k77, k75, k76, k78, k79, k80, k81, k83, k82, trivial⟩
  exact fn_ok (E := E32 r77 r75 r76 r78 r79 r80 r81 r83 r82 ) rfl hE mixed (by kernel_rfl) (by kernel_rfl) (AllLoops.of_list (l := []) (by kernel_rfl) trivial) (s32 r77 r75 r76 r78 r79 r80 r81 r83 r82 )
/- (*loop.example/g00231/impl.Split).pictureCaught -/
@[reducible] def i33 : List Ty := [.r [.sl false .n, .sl false .i, .sl false .i, .int .i64, .int .i64, .int .i64, .int .i64, .int .i64, .bool, .bool, .bool, .bool, .bool, .int .i64, .int .i64, .bool, .int .i64, .bool, .int .i64, .int .i64, .sl false .i, .int .i64, .int .i64, .int .i64, .int .i64, .int .i64, .bool, .sl false .i, .sl false .i, .int .i64, .sl false .t, .sl false .n, .int .i64, .int .i64, .int .i64, .int .i64, .int .i64, .bool, .bool, .int .i64, .sl false .t, .sl false .i]]
@[reducible] def o33 : List Ty := [.v (.bool)]
noncomputable def m33   (y : PTup i33) : Option (PTup o33 × BTup i33) :=
  bif (eqI y.1.2.2.2.2.2.2.2.2.2.2.2.2.2.2.2.2.2.2.2.2.2.1 y.1.2.2.2.2.2.2.2.2.2.2.2.2.2.2.1) then (some (((eqI (lenI y.1.2.2.2.2.2.2.2.2.2.2.2.2.2.2.2.2.2.2.2.2.2.2.2.2.2.2.2.2.2.2.1) (0 : Int)), ()), ()))
  else some ((false, ()), ())
noncomputable def E33   : CEnv := ⟨⟨Go.Proofs.Tryz.prog, fnsL []⟩, loopsL []⟩
theorem s33   (y) : tevF (E33  ) Go.Proofs.Tryz.f33 i33 o33 y = m33   y := by kernel_rfl
noncomputable def r33 : PTup i33 → Option (PTup o33 × BTup i33) := m33  
theorem k33 : CallOk Go.Proofs.Tryz.prog 33 ⟨i33, o33, r33, .nor⟩ := by
  have hE : ∀ g f, (E33  ).env.fns g = some f → CallOk Go.Proofs.Tryz.prog g f := fnsL_ok trivial
  exact fn_ok (E := E33  ) rfl hE mixed (by kernel_rfl) (by kernel_rfl) (AllLoops.of_list (l := []) (by kernel_rfl) trivial) (s33  )
/- (*loop.example/g00231/impl.Split).soundCaught -/
@[reducible] def i34 : List Ty := [.r [.sl false .n, .sl false .i, .sl false .i, .int .i64, .int .i64, .int .i64, .int .i64, .int .i64, .bool, .bool, .bool, .bool, .bool, .int .i64, .int .i64, .bool, .int .i64, .bool, .int .i64, .int .i64, .sl false .i, .int .i64, .int .i64, .int .i64, .int .i64, .int .i64, .bool, .sl false .i, .sl false .i, .int .i64, .sl false .t, .sl false .n, .int .i64, .int .i64, .int .i64, .int .i64, .int .i64, .bool, .bool, .int .i64, .sl false .t, .sl false .i]]
@[reducible] def o34 : List Ty := [.v (.bool)]
noncomputable def m34   (y : PTup i34) : Option (PTup o34 × BTup i34) :=
  bif (eqI y.1.2.2.2.2.2.2.2.2.2.2.2.2.2.2.2.2.2.2.2.2.2.2.2.2.2.2.2.2.2.2.2.2.1 y.1.2.2.2.2.2.2.2.2.2.2.2.2.2.2.1) then (some (((eqI (lenI y.1.2.2.2.2.2.2.2.2.2.2.2.2.2.2.2.2.2.2.2.2.2.2.2.2.2.2.2.2.2.2.2.2.2.2.2.2.2.2.2.2.1) (0 : Int)), ()), ()))
  else some ((false, ()), ())
noncomputable def E34   : CEnv := ⟨⟨Go.Proofs.Tryz.prog, fnsL []⟩, loopsL []⟩
theorem s34   (y) : tevF (E34  ) Go.Proofs.Tryz.f34 i34 o34 y = m34   y := by kernel_rfl
noncomputable def r34 : PTup i34 → Option (PTup o34 × BTup i34) := m34  
theorem k34 : CallOk Go.Proofs.Tryz.prog 34 ⟨i34, o34, r34, .nor⟩ := by
  have hE : ∀ g f, (E34  ).env.fns g = some f → CallOk Go.Proofs.Tryz.prog g f := fnsL_ok trivial
  exact fn_ok (E := E34  ) rfl hE mixed (by kernel_rfl) (by kernel_rfl) (AllLoops.of_list (l := []) (by kernel_rfl) trivial) (s34  )
/- loop.example/g00231/impl.copyInts -/
@[reducible] def i85 : List Ty := [.v (.sl false .i)]
@[reducible] def o85 : List Ty := [.v (.sl true .i)]
noncomputable def m85   (y : PTup i85) : Option (PTup o85 × BTup i85) :=
  bif (leN (0 + (List.length y.1)) (E.most .i)) then (some ((([] ++ y.1), ()), ()))
  else none
noncomputable def E85   : CEnv := ⟨⟨Go.Proofs.Tryz.prog, fnsL []⟩, loopsL []⟩
theorem s85   (y) : tevF (E85  ) Go.Proofs.Tryz.f85 i85 o85 y = m85   y := by kernel_rfl
noncomputable def r85 : PTup i85 → Option (PTup o85 × BTup i85) := m85  
theorem k85 : CallOk Go.Proofs.Tryz.prog 85 ⟨i85, o85, r85, .nor⟩ := by
  have hE : ∀ g f, (E85  ).env.fns g = some f → CallOk Go.Proofs.Tryz.prog g f := fnsL_ok trivial
  exact fn_ok (E := E85  ) rfl hE mixed (by kernel_rfl) (by kernel_rfl) (AllLoops.of_list (l := []) (by kernel_rfl) trivial) (s85  )
/- loop.example/g00231/impl.copyImage -/
@[reducible] def i84 : List Ty := [.a [.sl false .n]]
@[reducible] def o84 : List Ty := [.a [.sl true .n]]
@[reducible] def lc84_0 : List Ty := [.v (.sl false .n), .v (.int .i64)]
@[reducible] def lb84_0 : List Ty := [.p [.sl true .n]]
@[reducible] def lv84_0 : List Ty := [.v (.int .i64)]
@[reducible] def lr84_0 : List Ty := []
noncomputable def w84_0 (c85 : PTup i85 → Option (PTup o85 × BTup i85))  (again : PTup lb84_0 → PTup lv84_0 → Option (Sum (PTup lv84_0) (PTup lr84_0) × BTup lb84_0)) (x : PTup lc84_0) (y : PTup lb84_0) (z : PTup lv84_0) : Option (Sum (PTup lv84_0) (PTup lr84_0) × BTup lb84_0) :=
  bif (ltI z.1 x.2.1) then (bif (leI (0 : Int) z.1) then (bif (ltI z.1 (lenI x.1)) then ((c85 ((rdE .n x.1 z.1), ())).bind fun r0 =>
     bif (leN ((List.length y.1.1) + (List.length (r0.1.1 :: []))) (E.most .n)) then (again (((y.1.1 ++ (r0.1.1 :: [])), ()), ()) ((wI (z.1 + (1 : Int))), ()))
     else none)
    else none)
   else none)
  else some ((Sum.inl z), (y.1, ()))
noncomputable def e84_0 (l : PTup lc84_0 → PTup lb84_0 → PTup lv84_0 → Option (Sum (PTup lv84_0) (PTup lr84_0) × BTup lb84_0)) : LoopE := ⟨[8, 9], lc84_0, [3], lb84_0, [10], lv84_0, [], lr84_0, 0, l⟩
noncomputable def m84 (c85 : PTup i85 → Option (PTup o85 × BTup i85)) (l0 : PTup lc84_0 → PTup lb84_0 → PTup lv84_0 → Option (Sum (PTup lv84_0) (PTup lr84_0) × BTup lb84_0)) (y : PTup i84) : Option (PTup o84 × BTup i84) :=
  (l0 (y.1.1, ((lenI y.1.1), ())) (([], ()), ()) ((0 : Int), ())).bind fun r0 =>
  sumElim r0.1 (fun r1 => some ((r0.2.1, ()), ()))
  (fun r1 => some ((([], ()), ()), ()))
noncomputable def E84 (c85 : PTup i85 → Option (PTup o85 × BTup i85)) (l0 : PTup lc84_0 → PTup lb84_0 → PTup lv84_0 → Option (Sum (PTup lv84_0) (PTup lr84_0) × BTup lb84_0)) : CEnv := ⟨⟨Go.Proofs.Tryz.prog, fnsL [(85, ⟨i85, o85, c85, .nor⟩)]⟩, loopsL [(3, e84_0 l0)]⟩
theorem t84_0 (c85 : PTup i85 → Option (PTup o85 × BTup i85)) (l0 : PTup lc84_0 → PTup lb84_0 → PTup lv84_0 → Option (Sum (PTup lv84_0) (PTup lr84_0) × BTup lb84_0)) (again) (x y z) : loopRound (E84 c85 l0) (loopAt (bodyOf Go.Proofs.Tryz.f84) 0) (e84_0 l0) Go.Proofs.Tryz.f84.ntmps again x y z = w84_0 c85  again x y z := by kernel_rfl
noncomputable def n84_0 (c85 : PTup i85 → Option (PTup o85 × BTup i85))  : Nat → PTup lc84_0 → PTup lb84_0 → PTup lv84_0 → Option (Sum (PTup lv84_0) (PTup lr84_0) × BTup lb84_0)
  | 0, _, _, _ => none
  | n + 1, x, y, z => w84_0 c85  (fun y z => n84_0 c85  n x y z) x y z
theorem s84 (c85 : PTup i85 → Option (PTup o85 × BTup i85)) (l0 : PTup lc84_0 → PTup lb84_0 → PTup lv84_0 → Option (Sum (PTup lv84_0) (PTup lr84_0) × BTup lb84_0)) (y) : tevF (E84 c85 l0) Go.Proofs.Tryz.f84 i84 o84 y = m84 c85 l0 y := by kernel_rfl
noncomputable def L84_0 : PTup lc84_0 → PTup lb84_0 → PTup lv84_0 → Option (Sum (PTup lv84_0) (PTup lr84_0) × BTup lb84_0) := n84_0 r85  fuel
noncomputable def r84 : PTup i84 → Option (PTup o84 × BTup i84) := m84 r85 L84_0
theorem k84 : CallOk Go.Proofs.Tryz.prog 84 ⟨i84, o84, r84, .nor⟩ := by
  have hE : ∀ g f, (E84 r85 L84_0).env.fns g = some f → CallOk Go.Proofs.Tryz.prog g f := fnsL_ok ⟨k85, trivial⟩
  have h0 : LoopOk Go.Proofs.Tryz.prog Go.Proofs.Tryz.f84.ntmps (loopAt (bodyOf Go.Proofs.Tryz.f84) 0) (e84_0 L84_0) := lp_ok (E := E84 r85 L84_0) rfl hE mixed (AllLoops.of_list (l := []) (by kernel_rfl) trivial) (n84_0 r85 ) (fun _ _ _ => rfl) (fun n x y z => t84_0 r85 L84_0 _ x y z) rfl
  exact fn_ok (E := E84 r85 L84_0) rfl hE mixed (by kernel_rfl) (by kernel_rfl) (AllLoops.of_list (l := [(loopAt (bodyOf Go.Proofs.Tryz.f84) 0)]) (by kernel_rfl) (.one (by kernel_rfl) h0 trivial)) (s84 r85 L84_0)
/- loop.example/g00231/impl.copyMem -/
@[reducible] def i86 : List Ty := [.a [.sl false .i, .int .i64]]
@[reducible] def o86 : List Ty := [.a [.sl true .i, .int .i64]]
noncomputable def m86 (c85 : PTup i85 → Option (PTup o85 × BTup i85))  (y : PTup i86) : Option (PTup o86 × BTup i86) :=
  (c85 (y.1.1, ())).bind fun r0 =>
  some (((r0.1.1, y.1.2), ()), ())
noncomputable def E86 (c85 : PTup i85 → Option (PTup o85 × BTup i85))  : CEnv := ⟨⟨Go.Proofs.Tryz.prog, fnsL [(85, ⟨i85, o85, c85, .nor⟩)]⟩, loopsL []⟩
theorem s86 (c85 : PTup i85 → Option (PTup o85 × BTup i85))  (y) : tevF (E86 c85 ) Go.Proofs.Tryz.f86 i86 o86 y = m86 c85  y := by kernel_rfl
noncomputable def r86 : PTup i86 → Option (PTup o86 × BTup i86) := m86 r85 
theorem k86 : CallOk Go.Proofs.Tryz.prog 86 ⟨i86, o86, r86, .nor⟩ := by
  have hE : ∀ g f, (E86 r85 ).env.fns g = some f → CallOk Go.Proofs.Tryz.prog g f := fnsL_ok ⟨k85, trivial⟩
  exact fn_ok (E := E86 r85 ) rfl hE mixed (by kernel_rfl) (by kernel_rfl) (AllLoops.of_list (l := []) (by kernel_rfl) trivial) (s86 r85 )
/- loop.example/g00231/impl.copyPpu -/
@[reducible] def i109 : List Ty := [.a [.int .i64, .int .i64, .int .i64, .int .i64, .int .i64, .bool, .sl false .i, .sl false .i]]
@[reducible] def o109 : List Ty := [.a [.int .i64, .int .i64, .int .i64, .int .i64, .int .i64, .bool, .sl true .i, .sl true .i]]
noncomputable def m109 (c85 : PTup i85 → Option (PTup o85 × BTup i85))  (y : PTup i109) : Option (PTup o109 × BTup i109) :=
  (c85 (y.1.2.2.2.2.2.2.1, ())).bind fun r0 =>
  (c85 y.1.2.2.2.2.2.2.2).bind fun r1 =>
  some (((y.1.1, (y.1.2.1, (y.1.2.2.1, (y.1.2.2.2.1, (y.1.2.2.2.2.1, (y.1.2.2.2.2.2.1, (r0.1.1, r1.1))))))), ()), ())
noncomputable def E109 (c85 : PTup i85 → Option (PTup o85 × BTup i85))  : CEnv := ⟨⟨Go.Proofs.Tryz.prog, fnsL [(85, ⟨i85, o85, c85, .nor⟩)]⟩, loopsL []⟩
theorem s109 (c85 : PTup i85 → Option (PTup o85 × BTup i85))  (y) : tevF (E109 c85 ) Go.Proofs.Tryz.f109 i109 o109 y = m109 c85  y := by kernel_rfl
noncomputable def r109 : PTup i109 → Option (PTup o109 × BTup i109) := m109 r85 
theorem k109 : CallOk Go.Proofs.Tryz.prog 109 ⟨i109, o109, r109, .nor⟩ := by
  have hE : ∀ g f, (E109 r85 ).env.fns g = some f → CallOk Go.Proofs.Tryz.prog g f := fnsL_ok ⟨k85, trivial⟩
  exact fn_ok (E := E109 r85 ) rfl hE mixed (by kernel_rfl) (by kernel_rfl) (AllLoops.of_list (l := []) (by kernel_rfl) trivial) (s109 r85 )
/- loop.example/g00231/impl.copyRing -/
@[reducible] def i110 : List Ty := [.a [.int .i64, .sl false .t]]
@[reducible] def o110 : List Ty := [.a [.int .i64, .sl true .t]]
noncomputable def m110   (y : PTup i110) : Option (PTup o110 × BTup i110) :=
  bif (leN (0 + (List.length y.1.2.1)) (E.most .t)) then (some (((y.1.1, (([] ++ y.1.2.1), ())), ()), ()))
  else none
noncomputable def E110   : CEnv := ⟨⟨Go.Proofs.Tryz.prog, fnsL []⟩, loopsL []⟩
theorem s110   (y) : tevF (E110  ) Go.Proofs.Tryz.f110 i110 o110 y = m110   y := by kernel_rfl
noncomputable def r110 : PTup i110 → Option (PTup o110 × BTup i110) := m110  
theorem k110 : CallOk Go.Proofs.Tryz.prog 110 ⟨i110, o110, r110, .nor⟩ := by
  have hE : ∀ g f, (E110  ).env.fns g = some f → CallOk Go.Proofs.Tryz.prog g f := fnsL_ok trivial
  exact fn_ok (E := E110  ) rfl hE mixed (by kernel_rfl) (by kernel_rfl) (AllLoops.of_list (l := []) (by kernel_rfl) trivial) (s110  )
/- loop.example/g00231/impl.copyFrames -/
@[reducible] def i89 : List Ty := [.v (.sl false .n)]
@[reducible] def o89 : List Ty := [.v (.sl true .n)]
@[reducible] def lc89_0 : List Ty := [.v (.sl false .n), .v (.int .i64)]
@[reducible] def lb89_0 : List Ty := []
@[reducible] def lv89_0 : List Ty := [.v (.sl true .n), .v (.int .i64)]
@[reducible] def lr89_0 : List Ty := []
noncomputable def w89_0 (c85 : PTup i85 → Option (PTup o85 × BTup i85))  (again : PTup lb89_0 → PTup lv89_0 → Option (Sum (PTup lv89_0) (PTup lr89_0) × BTup lb89_0)) (x : PTup lc89_0) (y : PTup lb89_0) (z : PTup lv89_0) : Option (Sum (PTup lv89_0) (PTup lr89_0) × BTup lb89_0) :=
  bif (ltI z.2.1 x.2.1) then (bif (leI (0 : Int) z.2.1) then (bif (ltI z.2.1 (lenI x.1)) then ((c85 ((rdE .n x.1 z.2.1), ())).bind fun r0 =>
     bif (leN ((List.length z.1) + (List.length (r0.1.1 :: []))) (E.most .n)) then (again () ((z.1 ++ (r0.1.1 :: [])), ((wI (z.2.1 + (1 : Int))), ())))
     else none)
    else none)
   else none)
  else some ((Sum.inl z), ())
noncomputable def e89_0 (l : PTup lc89_0 → PTup lb89_0 → PTup lv89_0 → Option (Sum (PTup lv89_0) (PTup lr89_0) × BTup lb89_0)) : LoopE := ⟨[7, 8], lc89_0, [], lb89_0, [3, 9], lv89_0, [], lr89_0, 0, l⟩
noncomputable def m89 (c85 : PTup i85 → Option (PTup o85 × BTup i85)) (l0 : PTup lc89_0 → PTup lb89_0 → PTup lv89_0 → Option (Sum (PTup lv89_0) (PTup lr89_0) × BTup lb89_0)) (y : PTup i89) : Option (PTup o89 × BTup i89) :=
  (l0 (y.1, ((lenI y.1), ())) () ([], ((0 : Int), ()))).bind fun r0 =>
  sumElim r0.1 (fun r1 => some ((r1.1, ()), ()))
  (fun r1 => some (([], ()), ()))
noncomputable def E89 (c85 : PTup i85 → Option (PTup o85 × BTup i85)) (l0 : PTup lc89_0 → PTup lb89_0 → PTup lv89_0 → Option (Sum (PTup lv89_0) (PTup lr89_0) × BTup lb89_0)) : CEnv := ⟨⟨Go.Proofs.Tryz.prog, fnsL [(85, ⟨i85, o85, c85, .nor⟩)]⟩, loopsL [(3, e89_0 l0)]⟩
theorem t89_0 (c85 : PTup i85 → Option (PTup o85 × BTup i85)) (l0 : PTup lc89_0 → PTup lb89_0 → PTup lv89_0 → Option (Sum (PTup lv89_0) (PTup lr89_0) × BTup lb89_0)) (again) (x y z) : loopRound (E89 c85 l0) (loopAt (bodyOf Go.Proofs.Tryz.f89) 0) (e89_0 l0) Go.Proofs.Tryz.f89.ntmps again x y z = w89_0 c85  again x y z := by kernel_rfl
noncomputable def n89_0 (c85 : PTup i85 → Option (PTup o85 × BTup i85))  : Nat → PTup lc89_0 → PTup lb89_0 → PTup lv89_0 → Option (Sum (PTup lv89_0) (PTup lr89_0) × BTup lb89_0)
  | 0, _, _, _ => none
  | n + 1, x, y, z => w89_0 c85  (fun y z => n89_0 c85  n x y z) x y z
theorem s89 (c85 : PTup i85 → Option (PTup o85 × BTup i85)) (l0 : PTup lc89_0 → PTup lb89_0 → PTup lv89_0 → Option (Sum (PTup lv89_0) (PTup lr89_0) × BTup lb89_0)) (y) : tevF (E89 c85 l0) Go.Proofs.Tryz.f89 i89 o89 y = m89 c85 l0 y := by kernel_rfl
noncomputable def L89_0 : PTup lc89_0 → PTup lb89_0 → PTup lv89_0 → Option (Sum (PTup lv89_0) (PTup lr89_0) × BTup lb89_0) := n89_0 r85  fuel
noncomputable def r89 : PTup i89 → Option (PTup o89 × BTup i89) := m89 r85 L89_0
theorem k89 : CallOk Go.Proofs.Tryz.prog 89 ⟨i89, o89, r89, .nor⟩ := by
  have hE : ∀ g f, (E89 r85 L89_0).env.fns g = some f → CallOk Go.Proofs.Tryz.prog g f := fnsL_ok ⟨k85, trivial⟩
  have h0 : LoopOk Go.Proofs.Tryz.prog Go.Proofs.Tryz.f89.ntmps (loopAt (bodyOf Go.Proofs.Tryz.f89) 0) (e89_0 L89_0) := lp_ok (E := E89 r85 L89_0) rfl hE mixed (AllLoops.of_list (l := []) (by kernel_rfl) trivial) (n89_0 r85 ) (fun _ _ _ => rfl) (fun n x y z => t89_0 r85 L89_0 _ x y z) rfl
  exact fn_ok (E := E89 r85 L89_0) rfl hE mixed (by kernel_rfl) (by kernel_rfl) (AllLoops.of_list (l := [(loopAt (bodyOf Go.Proofs.Tryz.f89) 0)]) (by kernel_rfl) (.one (by kernel_rfl) h0 trivial)) (s89 r85 L89_0)
/- loop.example/g00231/impl.copyPicture -/
@[reducible] def i87 : List Ty := [.a [.int .i64, .int .i64, .int .i64, .int .i64, .int .i64, .bool, .sl false .i, .sl false .i, .int .i64, .sl false .t, .sl false .n]]
@[reducible] def o87 : List Ty := [.a [.int .i64, .int .i64, .int .i64, .int .i64, .int .i64, .bool, .sl true .i, .sl true .i, .int .i64, .sl true .t, .sl true .n]]
noncomputable def m87 (c89 : PTup i89 → Option (PTup o89 × BTup i89)) (c109 : PTup i109 → Option (PTup o109 × BTup i109)) (c110 : PTup i110 → Option (PTup o110 × BTup i110))  (y : PTup i87) : Option (PTup o87 × BTup i87) :=
  (c109 ((y.1.1, (y.1.2.1, (y.1.2.2.1, (y.1.2.2.2.1, (y.1.2.2.2.2.1, (y.1.2.2.2.2.2.1, (y.1.2.2.2.2.2.2.1, (y.1.2.2.2.2.2.2.2.1, ())))))))), ())).bind fun r0 =>
  (c110 ((y.1.2.2.2.2.2.2.2.2.1, (y.1.2.2.2.2.2.2.2.2.2.1, ())), ())).bind fun r1 =>
  (c89 y.1.2.2.2.2.2.2.2.2.2.2).bind fun r2 =>
  some (((r0.1.1.1, (r0.1.1.2.1, (r0.1.1.2.2.1, (r0.1.1.2.2.2.1, (r0.1.1.2.2.2.2.1, (r0.1.1.2.2.2.2.2.1, (r0.1.1.2.2.2.2.2.2.1, (r0.1.1.2.2.2.2.2.2.2.1, (r1.1.1.1, (r1.1.1.2.1, r2.1)))))))))), ()), ())
noncomputable def E87 (c89 : PTup i89 → Option (PTup o89 × BTup i89)) (c109 : PTup i109 → Option (PTup o109 × BTup i109)) (c110 : PTup i110 → Option (PTup o110 × BTup i110))  : CEnv := ⟨⟨Go.Proofs.Tryz.prog, fnsL [(89, ⟨i89, o89, c89, .nor⟩), (109, ⟨i109, o109, c109, .nor⟩), (110, ⟨i110, o110, c110, .nor⟩)]⟩, loopsL []⟩
theorem s87 (c89 : PTup i89 → Option (PTup o89 × BTup i89)) (c109 : PTup i109 → Option (PTup o109 × BTup i109)) (c110 : PTup i110 → Option (PTup o110 × BTup i110))  (y) : tevF (E87 c89 c109 c110 ) Go.Proofs.Tryz.f87 i87 o87 y = m87 c89 c109 c110  y := by kernel_rfl
noncomputable def r87 : PTup i87 → Option (PTup o87 × BTup i87) := m87 r89 r109 r110 
theorem k87 : CallOk Go.Proofs.Tryz.prog 87 ⟨i87, o87, r87, .nor⟩ := by
  have hE : ∀ g f, (E87 r89 r109 r110 ).env.fns g = some f → CallOk Go.Proofs.Tryz.prog g f := fnsL_ok ⟨k89, k109, k110, trivial⟩
  exact fn_ok (E := E87 r89 r109 r110 ) rfl hE mixed (by kernel_rfl) (by kernel_rfl) (AllLoops.of_list (l := []) (by kernel_rfl) trivial) (s87 r89 r109 r110 )
/- loop.example/g00231/impl.copySound -/
@[reducible] def i88 : List Ty := [.a [.int .i64, .int .i64, .int .i64, .int .i64, .int .i64, .bool, .bool, .int .i64, .sl false .t, .sl false .i]]
@[reducible] def o88 : List Ty := [.a [.int .i64, .int .i64, .int .i64, .int .i64, .int .i64, .bool, .bool, .int .i64, .sl true .t, .sl true .i]]
noncomputable def m88 (c85 : PTup i85 → Option (PTup o85 × BTup i85)) (c110 : PTup i110 → Option (PTup o110 × BTup i110))  (y : PTup i88) : Option (PTup o88 × BTup i88) :=
  (c110 ((y.1.2.2.2.2.2.2.2.1, (y.1.2.2.2.2.2.2.2.2.1, ())), ())).bind fun r0 =>
  (c85 y.1.2.2.2.2.2.2.2.2.2).bind fun r1 =>
  some (((y.1.1, (y.1.2.1, (y.1.2.2.1, (y.1.2.2.2.1, (y.1.2.2.2.2.1, (y.1.2.2.2.2.2.1, (y.1.2.2.2.2.2.2.1, (r0.1.1.1, (r0.1.1.2.1, r1.1))))))))), ()), ())
noncomputable def E88 (c85 : PTup i85 → Option (PTup o85 × BTup i85)) (c110 : PTup i110 → Option (PTup o110 × BTup i110))  : CEnv := ⟨⟨Go.Proofs.Tryz.prog, fnsL [(85, ⟨i85, o85, c85, .nor⟩), (110, ⟨i110, o110, c110, .nor⟩)]⟩, loopsL []⟩
theorem s88 (c85 : PTup i85 → Option (PTup o85 × BTup i85)) (c110 : PTup i110 → Option (PTup o110 × BTup i110))  (y) : tevF (E88 c85 c110 ) Go.Proofs.Tryz.f88 i88 o88 y = m88 c85 c110  y := by kernel_rfl
noncomputable def r88 : PTup i88 → Option (PTup o88 × BTup i88) := m88 r85 r110 
theorem k88 : CallOk Go.Proofs.Tryz.prog 88 ⟨i88, o88, r88, .nor⟩ := by
  have hE : ∀ g f, (E88 r85 r110 ).env.fns g = some f → CallOk Go.Proofs.Tryz.prog g f := fnsL_ok ⟨k85, k110, trivial⟩
  exact fn_ok (E := E88 r85 r110 ) rfl hE mixed (by kernel_rfl) (by kernel_rfl) (AllLoops.of_list (l := []) (by kernel_rfl) trivial) (s88 r85 r110 )
/- loop.example/g00231/impl.copySplit -/
@[reducible] def i35 : List Ty := [.a [.sl false .n, .sl false .i, .sl false .i, .int .i64, .int .i64, .int .i64, .int .i64, .int .i64, .bool, .bool, .bool, .bool, .bool, .int .i64, .int .i64, .bool, .int .i64, .bool, .int .i64, .int .i64, .sl false .i, .int .i64, .int .i64, .int .i64, .int .i64, .int .i64, .bool, .sl false .i, .sl false .i, .int .i64, .sl false .t, .sl false .n, .int .i64, .int .i64, .int .i64, .int .i64, .int .i64, .bool, .bool, .int .i64, .sl false .t, .sl false .i]]
@[reducible] def o35 : List Ty := [.a [.sl true .n, .sl true .i, .sl true .i, .int .i64, .int .i64, .int .i64, .int .i64, .int .i64, .bool, .bool, .bool, .bool, .bool, .int .i64, .int .i64, .bool, .int .i64, .bool, .int .i64, .int .i64, .sl true .i, .int .i64, .int .i64, .int .i64, .int .i64, .int .i64, .bool, .sl true .i, .sl true .i, .int .i64, .sl true .t, .sl true .n, .int .i64, .int .i64, .int .i64, .int .i64, .int .i64, .bool, .bool, .int .i64, .sl true .t, .sl true .i]]
noncomputable def m35 (c84 : PTup i84 → Option (PTup o84 × BTup i84)) (c85 : PTup i85 → Option (PTup o85 × BTup i85)) (c86 : PTup i86 → Option (PTup o86 × BTup i86)) (c87 : PTup i87 → Option (PTup o87 × BTup i87)) (c88 : PTup i88 → Option (PTup o88 × BTup i88))  (y : PTup i35) : Option (PTup o35 × BTup i35) :=
  (c84 ((y.1.1, ()), ())).bind fun r0 =>
  (c85 (y.1.2.1, ())).bind fun r1 =>
  (c86 ((y.1.2.2.1, (y.1.2.2.2.1, ())), ())).bind fun r2 =>
  (c85 (y.1.2.2.2.2.2.2.2.2.2.2.2.2.2.2.2.2.2.2.2.2.1, ())).bind fun r3 =>
  (c87 ((y.1.2.2.2.2.2.2.2.2.2.2.2.2.2.2.2.2.2.2.2.2.2.1, (y.1.2.2.2.2.2.2.2.2.2.2.2.2.2.2.2.2.2.2.2.2.2.2.1, (y.1.2.2.2.2.2.2.2.2.2.2.2.2.2.2.2.2.2.2.2.2.2.2.2.1, (y.1.2.2.2.2.2.2.2.2.2.2.2.2.2.2.2.2.2.2.2.2.2.2.2.2.1, (y.1.2.2.2.2.2.2.2.2.2.2.2.2.2.2.2.2.2.2.2.2.2.2.2.2.2.1, (y.1.2.2.2.2.2.2.2.2.2.2.2.2.2.2.2.2.2.2.2.2.2.2.2.2.2.2.1, (y.1.2.2.2.2.2.2.2.2.2.2.2.2.2.2.2.2.2.2.2.2.2.2.2.2.2.2.2.1, (y.1.2.2.2.2.2.2.2.2.2.2.2.2.2.2.2.2.2.2.2.2.2.2.2.2.2.2.2.2.1, (y.1.2.2.2.2.2.2.2.2.2.2.2.2.2.2.2.2.2.2.2.2.2.2.2.2.2.2.2.2.2.1, (y.1.2.2.2.2.2.2.2.2.2.2.2.2.2.2.2.2.2.2.2.2.2.2.2.2.2.2.2.2.2.2.1, (y.1.2.2.2.2.2.2.2.2.2.2.2.2.2.2.2.2.2.2.2.2.2.2.2.2.2.2.2.2.2.2.2.1, ()))))))))))), ())).bind fun r4 =>
  (c88 (y.1.2.2.2.2.2.2.2.2.2.2.2.2.2.2.2.2.2.2.2.2.2.2.2.2.2.2.2.2.2.2.2.2, ())).bind fun r5 =>
  some (((r0.1.1.1, (r1.1.1, (r2.1.1.1, (r2.1.1.2.1, (y.1.2.2.2.2.1, (y.1.2.2.2.2.2.1, (y.1.2.2.2.2.2.2.1, (y.1.2.2.2.2.2.2.2.1, (y.1.2.2.2.2.2.2.2.2.1, (y.1.2.2.2.2.2.2.2.2.2.1, (y.1.2.2.2.2.2.2.2.2.2.2.1, (y.1.2.2.2.2.2.2.2.2.2.2.2.1, (y.1.2.2.2.2.2.2.2.2.2.2.2.2.1, (y.1.2.2.2.2.2.2.2.2.2.2.2.2.2.1, (y.1.2.2.2.2.2.2.2.2.2.2.2.2.2.2.1, (y.1.2.2.2.2.2.2.2.2.2.2.2.2.2.2.2.1, (y.1.2.2.2.2.2.2.2.2.2.2.2.2.2.2.2.2.1, (y.1.2.2.2.2.2.2.2.2.2.2.2.2.2.2.2.2.2.1, (y.1.2.2.2.2.2.2.2.2.2.2.2.2.2.2.2.2.2.2.1, (y.1.2.2.2.2.2.2.2.2.2.2.2.2.2.2.2.2.2.2.2.1, (r3.1.1, (r4.1.1.1, (r4.1.1.2.1, (r4.1.1.2.2.1, (r4.1.1.2.2.2.1, (r4.1.1.2.2.2.2.1, (r4.1.1.2.2.2.2.2.1, (r4.1.1.2.2.2.2.2.2.1, (r4.1.1.2.2.2.2.2.2.2.1, (r4.1.1.2.2.2.2.2.2.2.2.1, (r4.1.1.2.2.2.2.2.2.2.2.2.1, (r4.1.1.2.2.2.2.2.2.2.2.2.2.1, r5.1.1)))))))))))))))))))))))))))))))), ()), ())
noncomputable def E35 (c84 : PTup i84 → Option (PTup o84 × BTup i84)) (c85 : PTup i85 → Option (PTup o85 × BTup i85)) (c86 : PTup i86 → Option (PTup o86 × BTup i86)) (c87 : PTup i87 → Option (PTup o87 × BTup i87)) (c88 : PTup i88 → Option (PTup o88 × BTup i88))  : CEnv := ⟨⟨Go.Proofs.Tryz.prog, fnsL [(84, ⟨i84, o84, c84, .nor⟩), (85, ⟨i85, o85, c85, .nor⟩), (86, ⟨i86, o86, c86, .nor⟩), (87, ⟨i87, o87, c87, .nor⟩), (88, ⟨i88, o88, c88, .nor⟩)]⟩, loopsL []⟩
theorem s35 (c84 : PTup i84 → Option (PTup o84 × BTup i84)) (c85 : PTup i85 → Option (PTup o85 × BTup i85)) (c86 : PTup i86 → Option (PTup o86 × BTup i86)) (c87 : PTup i87 → Option (PTup o87 × BTup i87)) (c88 : PTup i88 → Option (PTup o88 × BTup i88))  (y) : tevF (E35 c84 c85 c86 c87 c88 ) Go.Proofs.Tryz.f35 i35 o35 y = m35 c84 c85 c86 c87 c88  y := by kernel_rfl
noncomputable def r35 : PTup i35 → Option (PTup o35 × BTup i35) := m35 r84 r85 r86 r87 r88 
theorem k35 : CallOk Go.Proofs.Tryz.prog 35 ⟨i35, o35, r35, .nor⟩ := by
  have hE : ∀ g f, (E35 r84 r85 r86 r87 r88 ).env.fns g = some f → CallOk Go.Proofs.Tryz.prog g f := fnsL_ok ⟨k84, k85, k86, k87, k88, trivial⟩
  exact fn_ok (E := E35 r84 r85 r86 r87 r88 ) rfl hE mixed (by kernel_rfl) (by kernel_rfl) (AllLoops.of_list (l := []) (by kernel_rfl) trivial) (s35 r84 r85 r86 r87 r88 )
/- loop.example/g00231/impl.ObsOf -/
@[reducible] def i36 : List Ty := [.a [.sl false .n, .sl false .i, .sl false .i, .int .i64, .int .i64, .int .i64, .int .i64, .int .i64, .bool, .bool, .bool, .bool, .bool, .int .i64, .int .i64, .bool, .int .i64, .bool, .int .i64, .int .i64, .sl false .i, .int .i64, .int .i64, .int .i64, .int .i64, .int .i64, .bool, .sl false .i, .sl false .i, .int .i64, .sl false .t, .sl false .n, .int .i64, .int .i64, .int .i64, .int .i64, .int .i64, .bool, .bool, .int .i64, .sl false .t, .sl false .i]]
@[reducible] def o36 : List Ty := [.a [.sl true .n, .sl true .i, .sl true .i]]
noncomputable def m36 (c89 : PTup i89 → Option (PTup o89 × BTup i89)) (c85 : PTup i85 → Option (PTup o85 × BTup i85))  (y : PTup i36) : Option (PTup o36 × BTup i36) :=
  (c89 (y.1.2.2.2.2.2.2.2.2.2.2.2.2.2.2.2.2.2.2.2.2.2.2.2.2.2.2.2.2.2.2.2.1, ())).bind fun r0 =>
  (c85 y.1.2.2.2.2.2.2.2.2.2.2.2.2.2.2.2.2.2.2.2.2.2.2.2.2.2.2.2.2.2.2.2.2.2.2.2.2.2.2.2.2.2).bind fun r1 =>
  (c85 (y.1.2.2.2.2.2.2.2.2.2.2.2.2.2.2.2.2.2.2.2.2.1, ())).bind fun r2 =>
  some (((r0.1.1, (r1.1.1, r2.1)), ()), ())
noncomputable def E36 (c89 : PTup i89 → Option (PTup o89 × BTup i89)) (c85 : PTup i85 → Option (PTup o85 × BTup i85))  : CEnv := ⟨⟨Go.Proofs.Tryz.prog, fnsL [(89, ⟨i89, o89, c89, .nor⟩), (85, ⟨i85, o85, c85, .nor⟩)]⟩, loopsL []⟩
theorem s36 (c89 : PTup i89 → Option (PTup o89 × BTup i89)) (c85 : PTup i85 → Option (PTup o85 × BTup i85))  (y) : tevF (E36 c89 c85 ) Go.Proofs.Tryz.f36 i36 o36 y = m36 c89 c85  y := by kernel_rfl
noncomputable def r36 : PTup i36 → Option (PTup o36 × BTup i36) := m36 r89 r85 
theorem k36 : CallOk Go.Proofs.Tryz.prog 36 ⟨i36, o36, r36, .nor⟩ := by
  have hE : ∀ g f, (E36 r89 r85 ).env.fns g = some f → CallOk Go.Proofs.Tryz.prog g f := fnsL_ok ⟨k89, k85, trivial⟩
  exact fn_ok (E := E36 r89 r85 ) rfl hE mixed (by kernel_rfl) (by kernel_rfl) (AllLoops.of_list (l := []) (by kernel_rfl) trivial) (s36 r89 r85 )
/- loop.example/g00231/impl.AsLock -/
@[reducible] def i7 : List Ty := [.a [.sl false .n, .sl false .i, .sl false .i, .int .i64, .int .i64, .int .i64, .int .i64, .int .i64, .bool, .bool, .bool, .bool, .bool, .int .i64, .int .i64, .bool, .int .i64, .bool, .int .i64, .int .i64, .sl false .i, .int .i64, .int .i64, .int .i64, .int .i64, .int .i64, .bool, .sl false .i, .sl false .i, .int .i64, .sl false .t, .sl false .n, .int .i64, .int .i64, .int .i64, .int .i64, .int .i64, .bool, .bool, .int .i64, .sl false .t, .sl false .i]]
@[reducible] def o7 : List Ty := [.a [.sl true .n, .sl true .i, .sl true .i, .int .i64, .int .i64, .int .i64, .int .i64, .int .i64, .bool, .bool, .bool, .bool, .int .i64, .int .i64, .int .i64, .int .i64, .int .i64, .bool, .sl true .i, .sl true .i, .int .i64, .int .i64, .int .i64, .int .i64, .int .i64, .bool, .bool, .bool, .int .i64, .bool, .int .i64, .sl true .n, .sl true .i, .sl true .i]]
noncomputable def m7 (c33 : PTup i33 → Option (PTup o33 × BTup i33)) (c34 : PTup i34 → Option (PTup o34 × BTup i34)) (c36 : PTup i36 → Option (PTup o36 × BTup i36)) (c32 : PTup i32 → Option (PTup o32 × BTup i32)) (c35 : PTup i35 → Option (PTup o35 × BTup i35))  (y : PTup i7) : Option (PTup o7 × BTup i7) :=
  (c32 (y.1, ())).bind fun r0 =>
  bif (!r0.1.1) then (some ((([], ([], ([], ((0 : Int), ((0 : Int), ((0 : Int), ((0 : Int), ((0 : Int), (false, (false, (false, (false, ((0 : Int), ((0 : Int), ((0 : Int), ((0 : Int), ((0 : Int), (false, ([], ([], ((0 : Int), ((0 : Int), ((0 : Int), ((0 : Int), ((0 : Int), (false, (false, (false, ((0 : Int), (false, ((0 : Int), ([], ([], ([], ())))))))))))))))))))))))))))))))))), ()), ()))
  else (c33 (y.1, ())).bind fun r1 =>
  bif (!r1.1.1) then (some ((([], ([], ([], ((0 : Int), ((0 : Int), ((0 : Int), ((0 : Int), ((0 : Int), (false, (false, (false, (false, ((0 : Int), ((0 : Int), ((0 : Int), ((0 : Int), ((0 : Int), (false, ([], ([], ((0 : Int), ((0 : Int), ((0 : Int), ((0 : Int), ((0 : Int), (false, (false, (false, ((0 : Int), (false, ((0 : Int), ([], ([], ([], ())))))))))))))))))))))))))))))))))), ()), ()))
  else (c34 (y.1, ())).bind fun r2 =>
  bif (!r2.1.1) then (some ((([], ([], ([], ((0 : Int), ((0 : Int), ((0 : Int), ((0 : Int), ((0 : Int), (false, (false, (false, (false, ((0 : Int), ((0 : Int), ((0 : Int), ((0 : Int), ((0 : Int), (false, ([], ([], ((0 : Int), ((0 : Int), ((0 : Int), ((0 : Int), ((0 : Int), (false, (false, (false, ((0 : Int), (false, ((0 : Int), ([], ([], ([], ())))))))))))))))))))))))))))))))))), ()), ()))
  else (c35 (y.1, ())).bind fun r3 =>
  (c36 (r3.1.1, ())).bind fun r4 =>
  some (((r3.1.1.1, (r3.1.1.2.1, (r3.1.1.2.2.1, (r3.1.1.2.2.2.1, (y.1.2.2.2.2.1, (y.1.2.2.2.2.2.1, (y.1.2.2.2.2.2.2.1, (y.1.2.2.2.2.2.2.2.1, (y.1.2.2.2.2.2.2.2.2.1, (y.1.2.2.2.2.2.2.2.2.2.1, (y.1.2.2.2.2.2.2.2.2.2.2.1, (y.1.2.2.2.2.2.2.2.2.2.2.2.1, (r3.1.1.2.2.2.2.2.2.2.2.2.2.2.2.2.2.2.2.2.2.2.2.2.1, (r3.1.1.2.2.2.2.2.2.2.2.2.2.2.2.2.2.2.2.2.2.2.2.2.2.1, (r3.1.1.2.2.2.2.2.2.2.2.2.2.2.2.2.2.2.2.2.2.2.2.2.2.2.1, (r3.1.1.2.2.2.2.2.2.2.2.2.2.2.2.2.2.2.2.2.2.2.2.2.2.2.2.1, (r3.1.1.2.2.2.2.2.2.2.2.2.2.2.2.2.2.2.2.2.2.2.2.2.2.2.2.2.1, (r3.1.1.2.2.2.2.2.2.2.2.2.2.2.2.2.2.2.2.2.2.2.2.2.2.2.2.2.2.1, (r3.1.1.2.2.2.2.2.2.2.2.2.2.2.2.2.2.2.2.2.2.2.2.2.2.2.2.2.2.2.1, (r3.1.1.2.2.2.2.2.2.2.2.2.2.2.2.2.2.2.2.2.2.2.2.2.2.2.2.2.2.2.2.1, (y.1.2.2.2.2.2.2.2.2.2.2.2.2.2.2.2.2.2.2.2.2.2.2.2.2.2.2.2.2.2.2.2.2.1, (y.1.2.2.2.2.2.2.2.2.2.2.2.2.2.2.2.2.2.2.2.2.2.2.2.2.2.2.2.2.2.2.2.2.2.1, (y.1.2.2.2.2.2.2.2.2.2.2.2.2.2.2.2.2.2.2.2.2.2.2.2.2.2.2.2.2.2.2.2.2.2.2.1, (y.1.2.2.2.2.2.2.2.2.2.2.2.2.2.2.2.2.2.2.2.2.2.2.2.2.2.2.2.2.2.2.2.2.2.2.2.1, (y.1.2.2.2.2.2.2.2.2.2.2.2.2.2.2.2.2.2.2.2.2.2.2.2.2.2.2.2.2.2.2.2.2.2.2.2.2.1, (y.1.2.2.2.2.2.2.2.2.2.2.2.2.2.2.2.2.2.2.2.2.2.2.2.2.2.2.2.2.2.2.2.2.2.2.2.2.2.1, (y.1.2.2.2.2.2.2.2.2.2.2.2.2.2.2.2.2.2.2.2.2.2.2.2.2.2.2.2.2.2.2.2.2.2.2.2.2.2.2.1, (y.1.2.2.2.2.2.2.2.2.2.2.2.2.1, (y.1.2.2.2.2.2.2.2.2.2.2.2.2.2.1, (y.1.2.2.2.2.2.2.2.2.2.2.2.2.2.2.2.1, (y.1.2.2.2.2.2.2.2.2.2.2.2.2.2.2.2.2.2.2.2.1, r4.1.1))))))))))))))))))))))))))))))), ()), ())
noncomputable def E7 (c33 : PTup i33 → Option (PTup o33 × BTup i33)) (c34 : PTup i34 → Option (PTup o34 × BTup i34)) (c36 : PTup i36 → Option (PTup o36 × BTup i36)) (c32 : PTup i32 → Option (PTup o32 × BTup i32)) (c35 : PTup i35 → Option (PTup o35 × BTup i35))  : CEnv := ⟨⟨Go.Proofs.Tryz.prog, fnsL [(33, ⟨i33, o33, c33, .nor⟩), (34, ⟨i34, o34, c34, .nor⟩), (36, ⟨i36, o36, c36, .nor⟩), (32, ⟨i32, o32, c32, .nor⟩), (35, ⟨i35, o35, c35, .nor⟩)]⟩, loopsL []⟩
theorem s7 (c33 : PTup i33 → Option (PTup o33 × BTup i33)) (c34 : PTup i34 → Option (PTup o34 × BTup i34)) (c36 : PTup i36 → Option (PTup o36 × BTup i36)) (c32 : PTup i32 → Option (PTup o32 × BTup i32)) (c35 : PTup i35 → Option (PTup o35 × BTup i35))  (y) : tevF (E7 c33 c34 c36 c32 c35 ) Go.Proofs.Tryz.f7 i7 o7 y = m7 c33 c34 c36 c32 c35  y := by kernel_rfl
noncomputable def r7 : PTup i7 → Option (PTup o7 × BTup i7) := m7 r33 r34 r36 r32 r35 
theorem k7 : CallOk Go.Proofs.Tryz.prog 7 ⟨i7, o7, r7, .nor⟩ := by
  have hE : ∀ g f, (E7 r33 r34 r36 r32 r35 ).env.fns g = some f → CallOk Go.Proofs.Tryz.prog g f := fnsL_ok ⟨k33, k34, k36, k32, k35, trivial⟩
  exact fn_ok (E := E7 r33 r34 r36 r32 r35 ) rfl hE mixed (by kernel_rfl) (by kernel_rfl) (AllLoops.of_list (l := []) (by kernel_rfl) trivial) (s7 r33 r34 r36 r32 r35 )
/- loop.example/g00231/laws.eqIntS -/
@[reducible] def i38 : List Ty := [.v (.sl false .i), .v (.sl false .i)]
@[reducible] def o38 : List Ty := [.v (.bool)]
@[reducible] def lc38_0 : List Ty := [.v (.sl false .i), .v (.sl false .i)]
@[reducible] def lb38_0 : List Ty := []
@[reducible] def lv38_0 : List Ty := [.v (.int .i64)]
@[reducible] def lr38_0 : List Ty := [.v (.bool)]
noncomputable def w38_0   (again : PTup lb38_0 → PTup lv38_0 → Option (Sum (PTup lv38_0) (PTup lr38_0) × BTup lb38_0)) (x : PTup lc38_0) (y : PTup lb38_0) (z : PTup lv38_0) : Option (Sum (PTup lv38_0) (PTup lr38_0) × BTup lb38_0) :=
  bif (ltI z.1 (lenI x.1)) then (bif (leI (0 : Int) z.1) then (bif (ltI z.1 (lenI x.1)) then (bif (leI (0 : Int) z.1) then (bif (ltI z.1 (lenI x.2.1)) then (bif (neI (rdE .i x.1 z.1) (rdE .i x.2.1 z.1)) then (some ((Sum.inr (false, ())), ()))
       else again () ((wI (z.1 + (1 : Int))), ()))
      else none)
     else none)
    else none)
   else none)
  else some ((Sum.inl z), ())
noncomputable def e38_0 (l : PTup lc38_0 → PTup lb38_0 → PTup lv38_0 → Option (Sum (PTup lv38_0) (PTup lr38_0) × BTup lb38_0)) : LoopE := ⟨[0, 1], lc38_0, [], lb38_0, [5], lv38_0, [4], lr38_0, 0, l⟩
noncomputable def m38  (l0 : PTup lc38_0 → PTup lb38_0 → PTup lv38_0 → Option (Sum (PTup lv38_0) (PTup lr38_0) × BTup lb38_0)) (y : PTup i38) : Option (PTup o38 × BTup i38) :=
  bif (neI (lenI y.1) (lenI y.2.1)) then (some ((false, ()), ()))
  else (l0 y () ((0 : Int), ())).bind fun r0 =>
  sumElim r0.1 (fun r1 => some ((true, ()), ()))
  (fun r1 => some (r1, ()))
noncomputable def E38  (l0 : PTup lc38_0 → PTup lb38_0 → PTup lv38_0 → Option (Sum (PTup lv38_0) (PTup lr38_0) × BTup lb38_0)) : CEnv := ⟨⟨Go.Proofs.Tryz.prog, fnsL []⟩, loopsL [(4, e38_0 l0)]⟩
theorem t38_0  (l0 : PTup lc38_0 → PTup lb38_0 → PTup lv38_0 → Option (Sum (PTup lv38_0) (PTup lr38_0) × BTup lb38_0)) (again) (x y z) : loopRound (E38  l0) (loopAt (bodyOf Go.Proofs.Tryz.f38) 0) (e38_0 l0) Go.Proofs.Tryz.f38.ntmps again x y z = w38_0   again x y z := by kernel_rfl
noncomputable def n38_0   : Nat → PTup lc38_0 → PTup lb38_0 → PTup lv38_0 → Option (Sum (PTup lv38_0) (PTup lr38_0) × BTup lb38_0)
  | 0, _, _, _ => none
  | n + 1, x, y, z => w38_0   (fun y z => n38_0   n x y z) x y z
theorem s38  (l0 : PTup lc38_0 → PTup lb38_0 → PTup lv38_0 → Option (Sum (PTup lv38_0) (PTup lr38_0) × BTup lb38_0)) (y) : tevF (E38  l0) Go.Proofs.Tryz.f38 i38 o38 y = m38  l0 y := by kernel_rfl
noncomputable def L38_0 : PTup lc38_0 → PTup lb38_0 → PTup lv38_0 → Option (Sum (PTup lv38_0) (PTup lr38_0) × BTup lb38_0) := n38_0   fuel
noncomputable def r38 : PTup i38 → Option (PTup o38 × BTup i38) := m38  L38_0
theorem k38 : CallOk Go.Proofs.Tryz.prog 38 ⟨i38, o38, r38, .nor⟩ := by
  have hE : ∀ g f, (E38  L38_0).env.fns g = some f → CallOk Go.Proofs.Tryz.prog g f := fnsL_ok trivial
  have h0 : LoopOk Go.Proofs.Tryz.prog Go.Proofs.Tryz.f38.ntmps (loopAt (bodyOf Go.Proofs.Tryz.f38) 0) (e38_0 L38_0) := lp_ok (E := E38  L38_0) rfl hE mixed (AllLoops.of_list (l := []) (by kernel_rfl) trivial) (n38_0  ) (fun _ _ _ => rfl) (fun n x y z => t38_0  L38_0 _ x y z) rfl
  exact fn_ok (E := E38  L38_0) rfl hE mixed (by kernel_rfl) (by kernel_rfl) (AllLoops.of_list (l := [(loopAt (bodyOf Go.Proofs.Tryz.f38) 0)]) (by kernel_rfl) (.one (by kernel_rfl) h0 trivial)) (s38  L38_0)
/- loop.example/g00231/laws.eqIntSS -/
@[reducible] def i90 : List Ty := [.v (.sl false .n), .v (.sl false .n)]
@[reducible] def o90 : List Ty := [.v (.bool)]
@[reducible] def lc90_0 : List Ty := [.v (.sl false .n), .v (.sl false .n)]
@[reducible] def lb90_0 : List Ty := []
@[reducible] def lv90_0 : List Ty := [.v (.int .i64)]
@[reducible] def lr90_0 : List Ty := [.v (.bool)]
noncomputable def w90_0 (c38 : PTup i38 → Option (PTup o38 × BTup i38))  (again : PTup lb90_0 → PTup lv90_0 → Option (Sum (PTup lv90_0) (PTup lr90_0) × BTup lb90_0)) (x : PTup lc90_0) (y : PTup lb90_0) (z : PTup lv90_0) : Option (Sum (PTup lv90_0) (PTup lr90_0) × BTup lb90_0) :=
  bif (ltI z.1 (lenI x.1)) then (bif (leI (0 : Int) z.1) then (bif (ltI z.1 (lenI x.1)) then (bif (leI (0 : Int) z.1) then (bif (ltI z.1 (lenI x.2.1)) then ((c38 ((rdE .n x.1 z.1), ((rdE .n x.2.1 z.1), ()))).bind fun r0 =>
       bif (!r0.1.1) then (some ((Sum.inr (false, ())), ()))
       else again () ((wI (z.1 + (1 : Int))), ()))
      else none)
     else none)
    else none)
   else none)
  else some ((Sum.inl z), ())
noncomputable def e90_0 (l : PTup lc90_0 → PTup lb90_0 → PTup lv90_0 → Option (Sum (PTup lv90_0) (PTup lr90_0) × BTup lb90_0)) : LoopE := ⟨[0, 1], lc90_0, [], lb90_0, [5], lv90_0, [4], lr90_0, 0, l⟩
noncomputable def m90 (c38 : PTup i38 → Option (PTup o38 × BTup i38)) (l0 : PTup lc90_0 → PTup lb90_0 → PTup lv90_0 → Option (Sum (PTup lv90_0) (PTup lr90_0) × BTup lb90_0)) (y : PTup i90) : Option (PTup o90 × BTup i90) :=
  bif (neI (lenI y.1) (lenI y.2.1)) then (some ((false, ()), ()))
  else (l0 y () ((0 : Int), ())).bind fun r0 =>
  sumElim r0.1 (fun r1 => some ((true, ()), ()))
  (fun r1 => some (r1, ()))
noncomputable def E90 (c38 : PTup i38 → Option (PTup o38 × BTup i38)) (l0 : PTup lc90_0 → PTup lb90_0 → PTup lv90_0 → Option (Sum (PTup lv90_0) (PTup lr90_0) × BTup lb90_0)) : CEnv := ⟨⟨Go.Proofs.Tryz.prog, fnsL [(38, ⟨i38, o38, c38, .nor⟩)]⟩, loopsL [(4, e90_0 l0)]⟩
theorem t90_0 (c38 : PTup i38 → Option (PTup o38 × BTup i38)) (l0 : PTup lc90_0 → PTup lb90_0 → PTup lv90_0 → Option (Sum (PTup lv90_0) (PTup lr90_0) × BTup lb90_0)) (again) (x y z) : loopRound (E90 c38 l0) (loopAt (bodyOf Go.Proofs.Tryz.f90) 0) (e90_0 l0) Go.Proofs.Tryz.f90.ntmps again x y z = w90_0 c38  again x y z := by kernel_rfl
noncomputable def n90_0 (c38 : PTup i38 → Option (PTup o38 × BTup i38))  : Nat → PTup lc90_0 → PTup lb90_0 → PTup lv90_0 → Option (Sum (PTup lv90_0) (PTup lr90_0) × BTup lb90_0)
  | 0, _, _, _ => none
  | n + 1, x, y, z => w90_0 c38  (fun y z => n90_0 c38  n x y z) x y z
theorem s90 (c38 : PTup i38 → Option (PTup o38 × BTup i38)) (l0 : PTup lc90_0 → PTup lb90_0 → PTup lv90_0 → Option (Sum (PTup lv90_0) (PTup lr90_0) × BTup lb90_0)) (y) : tevF (E90 c38 l0) Go.Proofs.Tryz.f90 i90 o90 y = m90 c38 l0 y := by kernel_rfl
noncomputable def L90_0 : PTup lc90_0 → PTup lb90_0 → PTup lv90_0 → Option (Sum (PTup lv90_0) (PTup lr90_0) × BTup lb90_0) := n90_0 r38  fuel
noncomputable def r90 : PTup i90 → Option (PTup o90 × BTup i90) := m90 r38 L90_0
theorem k90 : CallOk Go.Proofs.Tryz.prog 90 ⟨i90, o90, r90, .nor⟩ := by
  have hE : ∀ g f, (E90 r38 L90_0).env.fns g = some f → CallOk Go.Proofs.Tryz.prog g f := fnsL_ok ⟨k38, trivial⟩
  have h0 : LoopOk Go.Proofs.Tryz.prog Go.Proofs.Tryz.f90.ntmps (loopAt (bodyOf Go.Proofs.Tryz.f90) 0) (e90_0 L90_0) := lp_ok (E := E90 r38 L90_0) rfl hE mixed (AllLoops.of_list (l := []) (by kernel_rfl) trivial) (n90_0 r38 ) (fun _ _ _ => rfl) (fun n x y z => t90_0 r38 L90_0 _ x y z) rfl
  exact fn_ok (E := E90 r38 L90_0) rfl hE mixed (by kernel_rfl) (by kernel_rfl) (AllLoops.of_list (l := [(loopAt (bodyOf Go.Proofs.Tryz.f90) 0)]) (by kernel_rfl) (.one (by kernel_rfl) h0 trivial)) (s90 r38 L90_0)
/- loop.example/g00231/laws.eqImage -/
@[reducible] def i37 : List Ty := [.a [.sl false .n], .a [.sl false .n]]
@[reducible] def o37 : List Ty := [.v (.bool)]
noncomputable def m37 (c90 : PTup i90 → Option (PTup o90 × BTup i90))  (y : PTup i37) : Option (PTup o37 × BTup i37) :=
  (c90 (y.1.1, y.2.1)).bind fun r0 =>
  bif (!r0.1.1) then (some ((false, ()), ()))
  else some ((true, ()), ())
noncomputable def E37 (c90 : PTup i90 → Option (PTup o90 × BTup i90))  : CEnv := ⟨⟨Go.Proofs.Tryz.prog, fnsL [(90, ⟨i90, o90, c90, .nor⟩)]⟩, loopsL []⟩
theorem s37 (c90 : PTup i90 → Option (PTup o90 × BTup i90))  (y) : tevF (E37 c90 ) Go.Proofs.Tryz.f37 i37 o37 y = m37 c90  y := by kernel_rfl
noncomputable def r37 : PTup i37 → Option (PTup o37 × BTup i37) := m37 r90 
theorem k37 : CallOk Go.Proofs.Tryz.prog 37 ⟨i37, o37, r37, .nor⟩ := by
  have hE : ∀ g f, (E37 r90 ).env.fns g = some f → CallOk Go.Proofs.Tryz.prog g f := fnsL_ok ⟨k90, trivial⟩
  exact fn_ok (E := E37 r90 ) rfl hE mixed (by kernel_rfl) (by kernel_rfl) (AllLoops.of_list (l := []) (by kernel_rfl) trivial) (s37 r90 )
/- loop.example/g00231/laws.eqMem -/
@[reducible] def i39 : List Ty := [.a [.sl false .i, .int .i64], .a [.sl false .i, .int .i64]]
@[reducible] def o39 : List Ty := [.v (.bool)]
noncomputable def m39 (c38 : PTup i38 → Option (PTup o38 × BTup i38))  (y : PTup i39) : Option (PTup o39 × BTup i39) :=
  (c38 (y.1.1, (y.2.1.1, ()))).bind fun r0 =>
  bif (!r0.1.1) then (some ((false, ()), ()))
  else bif (neI y.1.2.1 y.2.1.2.1) then (some ((false, ()), ()))
  else some ((true, ()), ())
noncomputable def E39 (c38 : PTup i38 → Option (PTup o38 × BTup i38))  : CEnv := ⟨⟨Go.Proofs.Tryz.prog, fnsL [(38, ⟨i38, o38, c38, .nor⟩)]⟩, loopsL []⟩
theorem s39 (c38 : PTup i38 → Option (PTup o38 × BTup i38))  (y) : tevF (E39 c38 ) Go.Proofs.Tryz.f39 i39 o39 y = m39 c38  y := by kernel_rfl
noncomputable def r39 : PTup i39 → Option (PTup o39 × BTup i39) := m39 r38 
theorem k39 : CallOk Go.Proofs.Tryz.prog 39 ⟨i39, o39, r39, .nor⟩ := by
  have hE : ∀ g f, (E39 r38 ).env.fns g = some f → CallOk Go.Proofs.Tryz.prog g f := fnsL_ok ⟨k38, trivial⟩
  exact fn_ok (E := E39 r38 ) rfl hE mixed (by kernel_rfl) (by kernel_rfl) (AllLoops.of_list (l := []) (by kernel_rfl) trivial) (s39 r38 )
/- loop.example/g00231/laws.eqCpu -/
@[reducible] def i40 : List Ty := [.a [.int .i64, .int .i64, .int .i64, .int .i64, .bool, .bool, .bool, .bool], .a [.int .i64, .int .i64, .int .i64, .int .i64, .bool, .bool, .bool, .bool]]
@[reducible] def o40 : List Ty := [.v (.bool)]
noncomputable def m40   (y : PTup i40) : Option (PTup o40 × BTup i40) :=
  bif (neI y.1.1 y.2.1.1) then (some ((false, ()), ()))
  else bif (neI y.1.2.1 y.2.1.2.1) then (some ((false, ()), ()))
  else bif (neI y.1.2.2.1 y.2.1.2.2.1) then (some ((false, ()), ()))
  else bif (neI y.1.2.2.2.1 y.2.1.2.2.2.1) then (some ((false, ()), ()))
  else bif (!(y.1.2.2.2.2.1 == y.2.1.2.2.2.2.1)) then (some ((false, ()), ()))
  else bif (!(y.1.2.2.2.2.2.1 == y.2.1.2.2.2.2.2.1)) then (some ((false, ()), ()))
  else bif (!(y.1.2.2.2.2.2.2.1 == y.2.1.2.2.2.2.2.2.1)) then (some ((false, ()), ()))
  else bif (!(y.1.2.2.2.2.2.2.2.1 == y.2.1.2.2.2.2.2.2.2.1)) then (some ((false, ()), ()))
  else some ((true, ()), ())
noncomputable def E40   : CEnv := ⟨⟨Go.Proofs.Tryz.prog, fnsL []⟩, loopsL []⟩
theorem s40   (y) : tevF (E40  ) Go.Proofs.Tryz.f40 i40 o40 y = m40   y := by kernel_rfl
noncomputable def r40 : PTup i40 → Option (PTup o40 × BTup i40) := m40  
theorem k40 : CallOk Go.Proofs.Tryz.prog 40 ⟨i40, o40, r40, .nor⟩ := by
  have hE : ∀ g f, (E40  ).env.fns g = some f → CallOk Go.Proofs.Tryz.prog g f := fnsL_ok trivial
  exact fn_ok (E := E40  ) rfl hE mixed (by kernel_rfl) (by kernel_rfl) (AllLoops.of_list (l := []) (by kernel_rfl) trivial) (s40  )
/- loop.example/g00231/laws.eqPpu -/
@[reducible] def i41 : List Ty := [.a [.int .i64, .int .i64, .int .i64, .int .i64, .int .i64, .bool, .sl false .i, .sl false .i], .a [.int .i64, .int .i64, .int .i64, .int .i64, .int .i64, .bool, .sl false .i, .sl false .i]]
@[reducible] def o41 : List Ty := [.v (.bool)]
noncomputable def m41 (c38 : PTup i38 → Option (PTup o38 × BTup i38))  (y : PTup i41) : Option (PTup o41 × BTup i41) :=
  bif (neI y.1.1 y.2.1.1) then (some ((false, ()), ()))
  else bif (neI y.1.2.1 y.2.1.2.1) then (some ((false, ()), ()))
  else bif (neI y.1.2.2.1 y.2.1.2.2.1) then (some ((false, ()), ()))
  else bif (neI y.1.2.2.2.1 y.2.1.2.2.2.1) then (some ((false, ()), ()))
  else bif (neI y.1.2.2.2.2.1 y.2.1.2.2.2.2.1) then (some ((false, ()), ()))
  else bif (!(y.1.2.2.2.2.2.1 == y.2.1.2.2.2.2.2.1)) then (some ((false, ()), ()))
  else (c38 (y.1.2.2.2.2.2.2.1, (y.2.1.2.2.2.2.2.2.1, ()))).bind fun r0 =>
  bif (!r0.1.1) then (some ((false, ()), ()))
  else (c38 (y.1.2.2.2.2.2.2.2.1, y.2.1.2.2.2.2.2.2.2)).bind fun r1 =>
  bif (!r1.1.1) then (some ((false, ()), ()))
  else some ((true, ()), ())
noncomputable def E41 (c38 : PTup i38 → Option (PTup o38 × BTup i38))  : CEnv := ⟨⟨Go.Proofs.Tryz.prog, fnsL [(38, ⟨i38, o38, c38, .nor⟩)]⟩, loopsL []⟩
theorem s41 (c38 : PTup i38 → Option (PTup o38 × BTup i38))  (y) : tevF (E41 c38 ) Go.Proofs.Tryz.f41 i41 o41 y = m41 c38  y := by kernel_rfl
noncomputable def r41 : PTup i41 → Option (PTup o41 × BTup i41) := m41 r38 
theorem k41 : CallOk Go.Proofs.Tryz.prog 41 ⟨i41, o41, r41, .nor⟩ := by
  have hE : ∀ g f, (E41 r38 ).env.fns g = some f → CallOk Go.Proofs.Tryz.prog g f := fnsL_ok ⟨k38, trivial⟩
  exact fn_ok (E := E41 r38 ) rfl hE mixed (by kernel_rfl) (by kernel_rfl) (AllLoops.of_list (l := []) (by kernel_rfl) trivial) (s41 r38 )
/- loop.example/g00231/laws.eqApu -/
@[reducible] def i42 : List Ty := [.a [.int .i64, .int .i64, .int .i64, .int .i64, .int .i64, .bool, .bool], .a [.int .i64, .int .i64, .int .i64, .int .i64, .int .i64, .bool, .bool]]
@[reducible] def o42 : List Ty := [.v (.bool)]
noncomputable def m42   (y : PTup i42) : Option (PTup o42 × BTup i42) :=
  bif (neI y.1.1 y.2.1.1) then (some ((false, ()), ()))
  else bif (neI y.1.2.1 y.2.1.2.1) then (some ((false, ()), ()))
  else bif (neI y.1.2.2.1 y.2.1.2.2.1) then (some ((false, ()), ()))
  else bif (neI y.1.2.2.2.1 y.2.1.2.2.2.1) then (some ((false, ()), ()))
  else bif (neI y.1.2.2.2.2.1 y.2.1.2.2.2.2.1) then (some ((false, ()), ()))
  else bif (!(y.1.2.2.2.2.2.1 == y.2.1.2.2.2.2.2.1)) then (some ((false, ()), ()))
  else bif (!(y.1.2.2.2.2.2.2.1 == y.2.1.2.2.2.2.2.2.1)) then (some ((false, ()), ()))
  else some ((true, ()), ())
noncomputable def E42   : CEnv := ⟨⟨Go.Proofs.Tryz.prog, fnsL []⟩, loopsL []⟩
theorem s42   (y) : tevF (E42  ) Go.Proofs.Tryz.f42 i42 o42 y = m42   y := by kernel_rfl
noncomputable def r42 : PTup i42 → Option (PTup o42 × BTup i42) := m42  
theorem k42 : CallOk Go.Proofs.Tryz.prog 42 ⟨i42, o42, r42, .nor⟩ := by
  have hE : ∀ g f, (E42  ).env.fns g = some f → CallOk Go.Proofs.Tryz.prog g f := fnsL_ok trivial
  exact fn_ok (E := E42  ) rfl hE mixed (by kernel_rfl) (by kernel_rfl) (AllLoops.of_list (l := []) (by kernel_rfl) trivial) (s42  )
/- loop.example/g00231/laws.eqPad -/
@[reducible] def i43 : List Ty := [.a [.bool, .int .i64], .a [.bool, .int .i64]]
@[reducible] def o43 : List Ty := [.v (.bool)]
noncomputable def m43   (y : PTup i43) : Option (PTup o43 × BTup i43) :=
  bif (!(y.1.1 == y.2.1.1)) then (some ((false, ()), ()))
  else bif (neI y.1.2.1 y.2.1.2.1) then (some ((false, ()), ()))
  else some ((true, ()), ())
noncomputable def E43   : CEnv := ⟨⟨Go.Proofs.Tryz.prog, fnsL []⟩, loopsL []⟩
theorem s43   (y) : tevF (E43  ) Go.Proofs.Tryz.f43 i43 o43 y = m43   y := by kernel_rfl
noncomputable def r43 : PTup i43 → Option (PTup o43 × BTup i43) := m43  
theorem k43 : CallOk Go.Proofs.Tryz.prog 43 ⟨i43, o43, r43, .nor⟩ := by
  have hE : ∀ g f, (E43  ).env.fns g = some f → CallOk Go.Proofs.Tryz.prog g f := fnsL_ok trivial
  exact fn_ok (E := E43  ) rfl hE mixed (by kernel_rfl) (by kernel_rfl) (AllLoops.of_list (l := []) (by kernel_rfl) trivial) (s43  )
/- loop.example/g00231/laws.eqObs -/
@[reducible] def i44 : List Ty := [.a [.sl false .n, .sl false .i, .sl false .i], .a [.sl false .n, .sl false .i, .sl false .i]]
@[reducible] def o44 : List Ty := [.v (.bool)]
noncomputable def m44 (c38 : PTup i38 → Option (PTup o38 × BTup i38)) (c90 : PTup i90 → Option (PTup o90 × BTup i90))  (y : PTup i44) : Option (PTup o44 × BTup i44) :=
  (c90 (y.1.1, (y.2.1.1, ()))).bind fun r0 =>
  bif (!r0.1.1) then (some ((false, ()), ()))
  else (c38 (y.1.2.1, (y.2.1.2.1, ()))).bind fun r1 =>
  bif (!r1.1.1) then (some ((false, ()), ()))
  else (c38 (y.1.2.2.1, y.2.1.2.2)).bind fun r2 =>
  bif (!r2.1.1) then (some ((false, ()), ()))
  else some ((true, ()), ())
noncomputable def E44 (c38 : PTup i38 → Option (PTup o38 × BTup i38)) (c90 : PTup i90 → Option (PTup o90 × BTup i90))  : CEnv := ⟨⟨Go.Proofs.Tryz.prog, fnsL [(38, ⟨i38, o38, c38, .nor⟩), (90, ⟨i90, o90, c90, .nor⟩)]⟩, loopsL []⟩
theorem s44 (c38 : PTup i38 → Option (PTup o38 × BTup i38)) (c90 : PTup i90 → Option (PTup o90 × BTup i90))  (y) : tevF (E44 c38 c90 ) Go.Proofs.Tryz.f44 i44 o44 y = m44 c38 c90  y := by kernel_rfl
noncomputable def r44 : PTup i44 → Option (PTup o44 × BTup i44) := m44 r38 r90 
theorem k44 : CallOk Go.Proofs.Tryz.prog 44 ⟨i44, o44, r44, .nor⟩ := by
  have hE : ∀ g f, (E44 r38 r90 ).env.fns g = some f → CallOk Go.Proofs.Tryz.prog g f := fnsL_ok ⟨k38, k90, trivial⟩
  exact fn_ok (E := E44 r38 r90 ) rfl hE mixed (by kernel_rfl) (by kernel_rfl) (AllLoops.of_list (l := []) (by kernel_rfl) trivial) (s44 r38 r90 )
/- loop.example/g00231/laws.eqLock -/
@[reducible] def i8 : List Ty := [.a [.sl false .n, .sl false .i, .sl false .i, .int .i64, .int .i64, .int .i64, .int .i64, .int .i64, .bool, .bool, .bool, .bool, .int .i64, .int .i64, .int .i64, .int .i64, .int .i64, .bool, .sl false .i, .sl false .i, .int .i64, .int .i64, .int .i64, .int .i64, .int .i64, .bool, .bool, .bool, .int .i64, .bool, .int .i64, .sl false .n, .sl false .i, .sl false .i], .a [.sl false .n, .sl false .i, .sl false .i, .int .i64, .int .i64, .int .i64, .int .i64, .int .i64, .bool, .bool, .bool, .bool, .int .i64, .int .i64, .int .i64, .int .i64, .int .i64, .bool, .sl false .i, .sl false .i, .int .i64, .int .i64, .int .i64, .int .i64, .int .i64, .bool, .bool, .bool, .int .i64, .bool, .int .i64, .sl false .n, .sl false .i, .sl false .i]]
@[reducible] def o8 : List Ty := [.v (.bool)]
noncomputable def m8 (c42 : PTup i42 → Option (PTup o42 × BTup i42)) (c40 : PTup i40 → Option (PTup o40 × BTup i40)) (c37 : PTup i37 → Option (PTup o37 × BTup i37)) (c38 : PTup i38 → Option (PTup o38 × BTup i38)) (c39 : PTup i39 → Option (PTup o39 × BTup i39)) (c44 : PTup i44 → Option (PTup o44 × BTup i44)) (c43 : PTup i43 → Option (PTup o43 × BTup i43)) (c41 : PTup i41 → Option (PTup o41 × BTup i41))  (y : PTup i8) : Option (PTup o8 × BTup i8) :=
  (c37 ((y.1.1, ()), ((y.2.1.1, ()), ()))).bind fun r0 =>
  bif (!r0.1.1) then (some ((false, ()), ()))
  else (c38 (y.1.2.1, (y.2.1.2.1, ()))).bind fun r1 =>
  bif (!r1.1.1) then (some ((false, ()), ()))
  else (c39 ((y.1.2.2.1, (y.1.2.2.2.1, ())), ((y.2.1.2.2.1, (y.2.1.2.2.2.1, ())), ()))).bind fun r2 =>
  bif (!r2.1.1) then (some ((false, ()), ()))
  else (c40 ((y.1.2.2.2.2.1, (y.1.2.2.2.2.2.1, (y.1.2.2.2.2.2.2.1, (y.1.2.2.2.2.2.2.2.1, (y.1.2.2.2.2.2.2.2.2.1, (y.1.2.2.2.2.2.2.2.2.2.1, (y.1.2.2.2.2.2.2.2.2.2.2.1, (y.1.2.2.2.2.2.2.2.2.2.2.2.1, ())))))))), ((y.2.1.2.2.2.2.1, (y.2.1.2.2.2.2.2.1, (y.2.1.2.2.2.2.2.2.1, (y.2.1.2.2.2.2.2.2.2.1, (y.2.1.2.2.2.2.2.2.2.2.1, (y.2.1.2.2.2.2.2.2.2.2.2.1, (y.2.1.2.2.2.2.2.2.2.2.2.2.1, (y.2.1.2.2.2.2.2.2.2.2.2.2.2.1, ())))))))), ()))).bind fun r3 =>
  bif (!r3.1.1) then (some ((false, ()), ()))
  else (c41 ((y.1.2.2.2.2.2.2.2.2.2.2.2.2.1, (y.1.2.2.2.2.2.2.2.2.2.2.2.2.2.1, (y.1.2.2.2.2.2.2.2.2.2.2.2.2.2.2.1, (y.1.2.2.2.2.2.2.2.2.2.2.2.2.2.2.2.1, (y.1.2.2.2.2.2.2.2.2.2.2.2.2.2.2.2.2.1, (y.1.2.2.2.2.2.2.2.2.2.2.2.2.2.2.2.2.2.1, (y.1.2.2.2.2.2.2.2.2.2.2.2.2.2.2.2.2.2.2.1, (y.1.2.2.2.2.2.2.2.2.2.2.2.2.2.2.2.2.2.2.2.1, ())))))))), ((y.2.1.2.2.2.2.2.2.2.2.2.2.2.2.1, (y.2.1.2.2.2.2.2.2.2.2.2.2.2.2.2.1, (y.2.1.2.2.2.2.2.2.2.2.2.2.2.2.2.2.1, (y.2.1.2.2.2.2.2.2.2.2.2.2.2.2.2.2.2.1, (y.2.1.2.2.2.2.2.2.2.2.2.2.2.2.2.2.2.2.1, (y.2.1.2.2.2.2.2.2.2.2.2.2.2.2.2.2.2.2.2.1, (y.2.1.2.2.2.2.2.2.2.2.2.2.2.2.2.2.2.2.2.2.1, (y.2.1.2.2.2.2.2.2.2.2.2.2.2.2.2.2.2.2.2.2.2.1, ())))))))), ()))).bind fun r4 =>
  bif (!r4.1.1) then (some ((false, ()), ()))
  else (c42 ((y.1.2.2.2.2.2.2.2.2.2.2.2.2.2.2.2.2.2.2.2.2.1, (y.1.2.2.2.2.2.2.2.2.2.2.2.2.2.2.2.2.2.2.2.2.2.1, (y.1.2.2.2.2.2.2.2.2.2.2.2.2.2.2.2.2.2.2.2.2.2.2.1, (y.1.2.2.2.2.2.2.2.2.2.2.2.2.2.2.2.2.2.2.2.2.2.2.2.1, (y.1.2.2.2.2.2.2.2.2.2.2.2.2.2.2.2.2.2.2.2.2.2.2.2.2.1, (y.1.2.2.2.2.2.2.2.2.2.2.2.2.2.2.2.2.2.2.2.2.2.2.2.2.2.1, (y.1.2.2.2.2.2.2.2.2.2.2.2.2.2.2.2.2.2.2.2.2.2.2.2.2.2.2.1, ()))))))), ((y.2.1.2.2.2.2.2.2.2.2.2.2.2.2.2.2.2.2.2.2.2.2.1, (y.2.1.2.2.2.2.2.2.2.2.2.2.2.2.2.2.2.2.2.2.2.2.2.1, (y.2.1.2.2.2.2.2.2.2.2.2.2.2.2.2.2.2.2.2.2.2.2.2.2.1, (y.2.1.2.2.2.2.2.2.2.2.2.2.2.2.2.2.2.2.2.2.2.2.2.2.2.1, (y.2.1.2.2.2.2.2.2.2.2.2.2.2.2.2.2.2.2.2.2.2.2.2.2.2.2.1, (y.2.1.2.2.2.2.2.2.2.2.2.2.2.2.2.2.2.2.2.2.2.2.2.2.2.2.2.1, (y.2.1.2.2.2.2.2.2.2.2.2.2.2.2.2.2.2.2.2.2.2.2.2.2.2.2.2.2.1, ()))))))), ()))).bind fun r5 =>
  bif (!r5.1.1) then (some ((false, ()), ()))
  else (c43 ((y.1.2.2.2.2.2.2.2.2.2.2.2.2.2.2.2.2.2.2.2.2.2.2.2.2.2.2.2.1, (y.1.2.2.2.2.2.2.2.2.2.2.2.2.2.2.2.2.2.2.2.2.2.2.2.2.2.2.2.2.1, ())), ((y.2.1.2.2.2.2.2.2.2.2.2.2.2.2.2.2.2.2.2.2.2.2.2.2.2.2.2.2.2.1, (y.2.1.2.2.2.2.2.2.2.2.2.2.2.2.2.2.2.2.2.2.2.2.2.2.2.2.2.2.2.2.1, ())), ()))).bind fun r6 =>
  bif (!r6.1.1) then (some ((false, ()), ()))
  else bif (!(y.1.2.2.2.2.2.2.2.2.2.2.2.2.2.2.2.2.2.2.2.2.2.2.2.2.2.2.2.2.2.1 == y.2.1.2.2.2.2.2.2.2.2.2.2.2.2.2.2.2.2.2.2.2.2.2.2.2.2.2.2.2.2.2.1)) then (some ((false, ()), ()))
  else bif (neI y.1.2.2.2.2.2.2.2.2.2.2.2.2.2.2.2.2.2.2.2.2.2.2.2.2.2.2.2.2.2.2.1 y.2.1.2.2.2.2.2.2.2.2.2.2.2.2.2.2.2.2.2.2.2.2.2.2.2.2.2.2.2.2.2.2.1) then (some ((false, ()), ()))
  else (c44 (y.1.2.2.2.2.2.2.2.2.2.2.2.2.2.2.2.2.2.2.2.2.2.2.2.2.2.2.2.2.2.2.2, (y.2.1.2.2.2.2.2.2.2.2.2.2.2.2.2.2.2.2.2.2.2.2.2.2.2.2.2.2.2.2.2.2.2, ()))).bind fun r7 =>
  bif (!r7.1.1) then (some ((false, ()), ()))
  else some ((true, ()), ())
noncomputable def E8 (c42 : PTup i42 → Option (PTup o42 × BTup i42)) (c40 : PTup i40 → Option (PTup o40 × BTup i40)) (c37 : PTup i37 → Option (PTup o37 × BTup i37)) (c38 : PTup i38 → Option (PTup o38 × BTup i38)) (c39 : PTup i39 → Option (PTup o39 × BTup i39)) (c44 : PTup i44 → Option (PTup o44 × BTup i44)) (c43 : PTup i43 → Option (PTup o43 × BTup i43)) (c41 : PTup i41 → Option (PTup o41 × BTup i41))  : CEnv := ⟨⟨Go.Proofs.Tryz.prog, fnsL [(42, ⟨i42, o42, c42, .nor⟩), (40, ⟨i40, o40, c40, .nor⟩), (37, ⟨i37, o37, c37, .nor⟩), (38, ⟨i38, o38, c38, .nor⟩), (39, ⟨i39, o39, c39, .nor⟩), (44, ⟨i44, o44, c44, .nor⟩), (43, ⟨i43, o43, c43, .nor⟩), (41, ⟨i41, o41, c41, .nor⟩)]⟩, loopsL []⟩
theorem s8 (c42 : PTup i42 → Option (PTup o42 × BTup i42)) (c40 : PTup i40 → Option (PTup o40 × BTup i40)) (c37 : PTup i37 → Option (PTup o37 × BTup i37)) (c38 : PTup i38 → Option (PTup o38 × BTup i38)) (c39 : PTup i39 → Option (PTup o39 × BTup i39)) (c44 : PTup i44 → Option (PTup o44 × BTup i44)) (c43 : PTup i43 → Option (PTup o43 × BTup i43)) (c41 : PTup i41 → Option (PTup o41 × BTup i41))  (y) : tevF (E8 c42 c40 c37 c38 c39 c44 c43 c41 ) Go.Proofs.Tryz.f8 i8 o8 y = m8 c42 c40 c37 c38 c39 c44 c43 c41  y := by kernel_rfl
noncomputable def r8 : PTup i8 → Option (PTup o8 × BTup i8) := m8 r42 r40 r37 r38 r39 r44 r43 r41 
theorem k8 : CallOk Go.Proofs.Tryz.prog 8 ⟨i8, o8, r8, .nor⟩ := by
  have hE : ∀ g f, (E8 r42 r40 r37 r38 r39 r44 r43 r41 ).env.fns g = some f → CallOk Go.Proofs.Tryz.prog g f := fnsL_ok ⟨k42, k40, k37, k38, k39, k44, k43, k41, trivial⟩
  exact fn_ok (E := E8 r42 r40 r37 r38 r39 r44 r43 r41 ) rfl hE mixed (by kernel_rfl) (by kernel_rfl) (AllLoops.of_list (l := []) (by kernel_rfl) trivial) (s8 r42 r40 r37 r38 r39 r44 r43 r41 )
/- loop.example/g00231/laws.eqRec -/
@[reducible] def i119 : List Ty := [.a [.int .i64, .int .i64, .int .i64], .a [.int .i64, .int .i64, .int .i64]]
@[reducible] def o119 : List Ty := [.v (.bool)]
noncomputable def m119   (y : PTup i119) : Option (PTup o119 × BTup i119) :=
  bif (neI y.1.1 y.2.1.1) then (some ((false, ()), ()))
  else bif (neI y.1.2.1 y.2.1.2.1) then (some ((false, ()), ()))
  else bif (neI y.1.2.2.1 y.2.1.2.2.1) then (some ((false, ()), ()))
  else some ((true, ()), ())
noncomputable def E119   : CEnv := ⟨⟨Go.Proofs.Tryz.prog, fnsL []⟩, loopsL []⟩
theorem s119   (y) : tevF (E119  ) Go.Proofs.Tryz.f119 i119 o119 y = m119   y := by kernel_rfl
noncomputable def r119 : PTup i119 → Option (PTup o119 × BTup i119) := m119  
theorem k119 : CallOk Go.Proofs.Tryz.prog 119 ⟨i119, o119, r119, .nor⟩ := by
  have hE : ∀ g f, (E119  ).env.fns g = some f → CallOk Go.Proofs.Tryz.prog g f := fnsL_ok trivial
  exact fn_ok (E := E119  ) rfl hE mixed (by kernel_rfl) (by kernel_rfl) (AllLoops.of_list (l := []) (by kernel_rfl) trivial) (s119  )
/- loop.example/g00231/laws.eqRecS -/
@[reducible] def i111 : List Ty := [.v (.sl false .t), .v (.sl false .t)]
@[reducible] def o111 : List Ty := [.v (.bool)]
@[reducible] def lc111_0 : List Ty := [.v (.sl false .t), .v (.sl false .t)]
@[reducible] def lb111_0 : List Ty := []
@[reducible] def lv111_0 : List Ty := [.v (.int .i64)]
@[reducible] def lr111_0 : List Ty := [.v (.bool)]
noncomputable def w111_0 (c119 : PTup i119 → Option (PTup o119 × BTup i119))  (again : PTup lb111_0 → PTup lv111_0 → Option (Sum (PTup lv111_0) (PTup lr111_0) × BTup lb111_0)) (x : PTup lc111_0) (y : PTup lb111_0) (z : PTup lv111_0) : Option (Sum (PTup lv111_0) (PTup lr111_0) × BTup lb111_0) :=
  bif (ltI z.1 (lenI x.1)) then (bif (leI (0 : Int) z.1) then (bif (ltI z.1 (lenI x.1)) then (bif (leI (0 : Int) z.1) then (bif (ltI z.1 (lenI x.2.1)) then ((c119 (((rdE .t x.1 z.1).1, ((rdE .t x.1 z.1).2.1, ((rdE .t x.1 z.1).2.2, ()))), (((rdE .t x.2.1 z.1).1, ((rdE .t x.2.1 z.1).2.1, ((rdE .t x.2.1 z.1).2.2, ()))), ()))).bind fun r0 =>
       bif (!r0.1.1) then (some ((Sum.inr (false, ())), ()))
       else again () ((wI (z.1 + (1 : Int))), ()))
      else none)
     else none)
    else none)
   else none)
  else some ((Sum.inl z), ())
noncomputable def e111_0 (l : PTup lc111_0 → PTup lb111_0 → PTup lv111_0 → Option (Sum (PTup lv111_0) (PTup lr111_0) × BTup lb111_0)) : LoopE := ⟨[0, 1], lc111_0, [], lb111_0, [5], lv111_0, [4], lr111_0, 0, l⟩
noncomputable def m111 (c119 : PTup i119 → Option (PTup o119 × BTup i119)) (l0 : PTup lc111_0 → PTup lb111_0 → PTup lv111_0 → Option (Sum (PTup lv111_0) (PTup lr111_0) × BTup lb111_0)) (y : PTup i111) : Option (PTup o111 × BTup i111) :=
  bif (neI (lenI y.1) (lenI y.2.1)) then (some ((false, ()), ()))
  else (l0 y () ((0 : Int), ())).bind fun r0 =>
  sumElim r0.1 (fun r1 => some ((true, ()), ()))
  (fun r1 => some (r1, ()))
noncomputable def E111 (c119 : PTup i119 → Option (PTup o119 × BTup i119)) (l0 : PTup lc111_0 → PTup lb111_0 → PTup lv111_0 → Option (Sum (PTup lv111_0) (PTup lr111_0) × BTup lb111_0)) : CEnv := ⟨⟨Go.Proofs.Tryz.prog, fnsL [(119, ⟨i119, o119, c119, .nor⟩)]⟩, loopsL [(4, e111_0 l0)]⟩
theorem t111_0 (c119 : PTup i119 → Option (PTup o119 × BTup i119)) (l0 : PTup lc111_0 → PTup lb111_0 → PTup lv111_0 → Option (Sum (PTup lv111_0) (PTup lr111_0) × BTup lb111_0)) (again) (x y z) : loopRound (E111 c119 l0) (loopAt (bodyOf Go.Proofs.Tryz.f111) 0) (e111_0 l0) Go.Proofs.Tryz.f111.ntmps again x y z = w111_0 c119  again x y z := by kernel_rfl
noncomputable def n111_0 (c119 : PTup i119 → Option (PTup o119 × BTup i119))  : Nat → PTup lc111_0 → PTup lb111_0 → PTup lv111_0 → Option (Sum (PTup lv111_0) (PTup lr111_0) × BTup lb111_0)
  | 0, _, _, _ => none
  | n + 1, x, y, z => w111_0 c119  (fun y z => n111_0 c119  n x y z) x y z
theorem s111 (c119 : PTup i119 → Option (PTup o119 × BTup i119)) (l0 : PTup lc111_0 → PTup lb111_0 → PTup lv111_0 → Option (Sum (PTup lv111_0) (PTup lr111_0) × BTup lb111_0)) (y) : tevF (E111 c119 l0) Go.Proofs.Tryz.f111 i111 o111 y = m111 c119 l0 y := by kernel_rfl
noncomputable def L111_0 : PTup lc111_0 → PTup lb111_0 → PTup lv111_0 → Option (Sum (PTup lv111_0) (PTup lr111_0) × BTup lb111_0) := n111_0 r119  fuel
noncomputable def r111 : PTup i111 → Option (PTup o111 × BTup i111) := m111 r119 L111_0
theorem k111 : CallOk Go.Proofs.Tryz.prog 111 ⟨i111, o111, r111, .nor⟩ := by
  have hE : ∀ g f, (E111 r119 L111_0).env.fns g = some f → CallOk Go.Proofs.Tryz.prog g f := fnsL_ok ⟨k119, trivial⟩
  have h0 : LoopOk Go.Proofs.Tryz.prog Go.Proofs.Tryz.f111.ntmps (loopAt (bodyOf Go.Proofs.Tryz.f111) 0) (e111_0 L111_0) := lp_ok (E := E111 r119 L111_0) rfl hE mixed (AllLoops.of_list (l := []) (by kernel_rfl) trivial) (n111_0 r119 ) (fun _ _ _ => rfl) (fun n x y z => t111_0 r119 L111_0 _ x y z) rfl
  exact fn_ok (E := E111 r119 L111_0) rfl hE mixed (by kernel_rfl) (by kernel_rfl) (AllLoops.of_list (l := [(loopAt (bodyOf Go.Proofs.Tryz.f111) 0)]) (by kernel_rfl) (.one (by kernel_rfl) h0 trivial)) (s111 r119 L111_0)
/- loop.example/g00231/laws.eqRing -/
@[reducible] def i91 : List Ty := [.a [.int .i64, .sl false .t], .a [.int .i64, .sl false .t]]
@[reducible] def o91 : List Ty := [.v (.bool)]
noncomputable def m91 (c111 : PTup i111 → Option (PTup o111 × BTup i111))  (y : PTup i91) : Option (PTup o91 × BTup i91) :=
  bif (neI y.1.1 y.2.1.1) then (some ((false, ()), ()))
  else (c111 (y.1.2.1, y.2.1.2)).bind fun r0 =>
  bif (!r0.1.1) then (some ((false, ()), ()))
  else some ((true, ()), ())
noncomputable def E91 (c111 : PTup i111 → Option (PTup o111 × BTup i111))  : CEnv := ⟨⟨Go.Proofs.Tryz.prog, fnsL [(111, ⟨i111, o111, c111, .nor⟩)]⟩, loopsL []⟩
theorem s91 (c111 : PTup i111 → Option (PTup o111 × BTup i111))  (y) : tevF (E91 c111 ) Go.Proofs.Tryz.f91 i91 o91 y = m91 c111  y := by kernel_rfl
noncomputable def r91 : PTup i91 → Option (PTup o91 × BTup i91) := m91 r111 
theorem k91 : CallOk Go.Proofs.Tryz.prog 91 ⟨i91, o91, r91, .nor⟩ := by
  have hE : ∀ g f, (E91 r111 ).env.fns g = some f → CallOk Go.Proofs.Tryz.prog g f := fnsL_ok ⟨k111, trivial⟩
  exact fn_ok (E := E91 r111 ) rfl hE mixed (by kernel_rfl) (by kernel_rfl) (AllLoops.of_list (l := []) (by kernel_rfl) trivial) (s91 r111 )
/- loop.example/g00231/laws.eqPicture -/
@[reducible] def i45 : List Ty := [.a [.int .i64, .int .i64, .int .i64, .int .i64, .int .i64, .bool, .sl false .i, .sl false .i, .int .i64, .sl false .t, .sl false .n], .a [.int .i64, .int .i64, .int .i64, .int .i64, .int .i64, .bool, .sl false .i, .sl false .i, .int .i64, .sl false .t, .sl false .n]]
@[reducible] def o45 : List Ty := [.v (.bool)]
noncomputable def m45 (c90 : PTup i90 → Option (PTup o90 × BTup i90)) (c41 : PTup i41 → Option (PTup o41 × BTup i41)) (c91 : PTup i91 → Option (PTup o91 × BTup i91))  (y : PTup i45) : Option (PTup o45 × BTup i45) :=
  (c41 ((y.1.1, (y.1.2.1, (y.1.2.2.1, (y.1.2.2.2.1, (y.1.2.2.2.2.1, (y.1.2.2.2.2.2.1, (y.1.2.2.2.2.2.2.1, (y.1.2.2.2.2.2.2.2.1, ())))))))), ((y.2.1.1, (y.2.1.2.1, (y.2.1.2.2.1, (y.2.1.2.2.2.1, (y.2.1.2.2.2.2.1, (y.2.1.2.2.2.2.2.1, (y.2.1.2.2.2.2.2.2.1, (y.2.1.2.2.2.2.2.2.2.1, ())))))))), ()))).bind fun r0 =>
  bif (!r0.1.1) then (some ((false, ()), ()))
  else (c91 ((y.1.2.2.2.2.2.2.2.2.1, (y.1.2.2.2.2.2.2.2.2.2.1, ())), ((y.2.1.2.2.2.2.2.2.2.2.1, (y.2.1.2.2.2.2.2.2.2.2.2.1, ())), ()))).bind fun r1 =>
  bif (!r1.1.1) then (some ((false, ()), ()))
  else (c90 (y.1.2.2.2.2.2.2.2.2.2.2.1, y.2.1.2.2.2.2.2.2.2.2.2.2)).bind fun r2 =>
  bif (!r2.1.1) then (some ((false, ()), ()))
  else some ((true, ()), ())
noncomputable def E45 (c90 : PTup i90 → Option (PTup o90 × BTup i90)) (c41 : PTup i41 → Option (PTup o41 × BTup i41)) (c91 : PTup i91 → Option (PTup o91 × BTup i91))  : CEnv := ⟨⟨Go.Proofs.Tryz.prog, fnsL [(90, ⟨i90, o90, c90, .nor⟩), (41, ⟨i41, o41, c41, .nor⟩), (91, ⟨i91, o91, c91, .nor⟩)]⟩, loopsL []⟩
theorem s45 (c90 : PTup i90 → Option (PTup o90 × BTup i90)) (c41 : PTup i41 → Option (PTup o41 × BTup i41)) (c91 : PTup i91 → Option (PTup o91 × BTup i91))  (y) : tevF (E45 c90 c41 c91 ) Go.Proofs.Tryz.f45 i45 o45 y = m45 c90 c41 c91  y := by kernel_rfl
noncomputable def r45 : PTup i45 → Option (PTup o45 × BTup i45) := m45 r90 r41 r91 
theorem k45 : CallOk Go.Proofs.Tryz.prog 45 ⟨i45, o45, r45, .nor⟩ := by
  have hE : ∀ g f, (E45 r90 r41 r91 ).env.fns g = some f → CallOk Go.Proofs.Tryz.prog g f := fnsL_ok ⟨k90, k41, k91, trivial⟩
  exact fn_ok (E := E45 r90 r41 r91 ) rfl hE mixed (by kernel_rfl) (by kernel_rfl) (AllLoops.of_list (l := []) (by kernel_rfl) trivial) (s45 r90 r41 r91 )
/- loop.example/g00231/laws.eqSound -/
@[reducible] def i46 : List Ty := [.a [.int .i64, .int .i64, .int .i64, .int .i64, .int .i64, .bool, .bool, .int .i64, .sl false .t, .sl false .i], .a [.int .i64, .int .i64, .int .i64, .int .i64, .int .i64, .bool, .bool, .int .i64, .sl false .t, .sl false .i]]
@[reducible] def o46 : List Ty := [.v (.bool)]
noncomputable def m46 (c42 : PTup i42 → Option (PTup o42 × BTup i42)) (c38 : PTup i38 → Option (PTup o38 × BTup i38)) (c91 : PTup i91 → Option (PTup o91 × BTup i91))  (y : PTup i46) : Option (PTup o46 × BTup i46) :=
  (c42 ((y.1.1, (y.1.2.1, (y.1.2.2.1, (y.1.2.2.2.1, (y.1.2.2.2.2.1, (y.1.2.2.2.2.2.1, (y.1.2.2.2.2.2.2.1, ()))))))), ((y.2.1.1, (y.2.1.2.1, (y.2.1.2.2.1, (y.2.1.2.2.2.1, (y.2.1.2.2.2.2.1, (y.2.1.2.2.2.2.2.1, (y.2.1.2.2.2.2.2.2.1, ()))))))), ()))).bind fun r0 =>
  bif (!r0.1.1) then (some ((false, ()), ()))
  else (c91 ((y.1.2.2.2.2.2.2.2.1, (y.1.2.2.2.2.2.2.2.2.1, ())), ((y.2.1.2.2.2.2.2.2.2.1, (y.2.1.2.2.2.2.2.2.2.2.1, ())), ()))).bind fun r1 =>
  bif (!r1.1.1) then (some ((false, ()), ()))
  else (c38 (y.1.2.2.2.2.2.2.2.2.2.1, y.2.1.2.2.2.2.2.2.2.2.2)).bind fun r2 =>
  bif (!r2.1.1) then (some ((false, ()), ()))
  else some ((true, ()), ())
noncomputable def E46 (c42 : PTup i42 → Option (PTup o42 × BTup i42)) (c38 : PTup i38 → Option (PTup o38 × BTup i38)) (c91 : PTup i91 → Option (PTup o91 × BTup i91))  : CEnv := ⟨⟨Go.Proofs.Tryz.prog, fnsL [(42, ⟨i42, o42, c42, .nor⟩), (38, ⟨i38, o38, c38, .nor⟩), (91, ⟨i91, o91, c91, .nor⟩)]⟩, loopsL []⟩
theorem s46 (c42 : PTup i42 → Option (PTup o42 × BTup i42)) (c38 : PTup i38 → Option (PTup o38 × BTup i38)) (c91 : PTup i91 → Option (PTup o91 × BTup i91))  (y) : tevF (E46 c42 c38 c91 ) Go.Proofs.Tryz.f46 i46 o46 y = m46 c42 c38 c91  y := by kernel_rfl
noncomputable def r46 : PTup i46 → Option (PTup o46 × BTup i46) := m46 r42 r38 r91 
theorem k46 : CallOk Go.Proofs.Tryz.prog 46 ⟨i46, o46, r46, .nor⟩ := by
  have hE : ∀ g f, (E46 r42 r38 r91 ).env.fns g = some f → CallOk Go.Proofs.Tryz.prog g f := fnsL_ok ⟨k42, k38, k91, trivial⟩
  exact fn_ok (E := E46 r42 r38 r91 ) rfl hE mixed (by kernel_rfl) (by kernel_rfl) (AllLoops.of_list (l := []) (by kernel_rfl) trivial) (s46 r42 r38 r91 )
/- loop.example/g00231/laws.eqSplit -/
@[reducible] def i9 : List Ty := [.a [.sl false .n, .sl false .i, .sl false .i, .int .i64, .int .i64, .int .i64, .int .i64, .int .i64, .bool, .bool, .bool, .bool, .bool, .int .i64, .int .i64, .bool, .int .i64, .bool, .int .i64, .int .i64, .sl false .i, .int .i64, .int .i64, .int .i64, .int .i64, .int .i64, .bool, .sl false .i, .sl false .i, .int .i64, .sl false .t, .sl false .n, .int .i64, .int .i64, .int .i64, .int .i64, .int .i64, .bool, .bool, .int .i64, .sl false .t, .sl false .i], .a [.sl false .n, .sl false .i, .sl false .i, .int .i64, .int .i64, .int .i64, .int .i64, .int .i64, .bool, .bool, .bool, .bool, .bool, .int .i64, .int .i64, .bool, .int .i64, .bool, .int .i64, .int .i64, .sl false .i, .int .i64, .int .i64, .int .i64, .int .i64, .int .i64, .bool, .sl false .i, .sl false .i, .int .i64, .sl false .t, .sl false .n, .int .i64, .int .i64, .int .i64, .int .i64, .int .i64, .bool, .bool, .int .i64, .sl false .t, .sl false .i]]
@[reducible] def o9 : List Ty := [.v (.bool)]
noncomputable def m9 (c40 : PTup i40 → Option (PTup o40 × BTup i40)) (c37 : PTup i37 → Option (PTup o37 × BTup i37)) (c38 : PTup i38 → Option (PTup o38 × BTup i38)) (c39 : PTup i39 → Option (PTup o39 × BTup i39)) (c43 : PTup i43 → Option (PTup o43 × BTup i43)) (c45 : PTup i45 → Option (PTup o45 × BTup i45)) (c46 : PTup i46 → Option (PTup o46 × BTup i46))  (y : PTup i9) : Option (PTup o9 × BTup i9) :=
  (c37 ((y.1.1, ()), ((y.2.1.1, ()), ()))).bind fun r0 =>
  bif (!r0.1.1) then (some ((false, ()), ()))
  else (c38 (y.1.2.1, (y.2.1.2.1, ()))).bind fun r1 =>
  bif (!r1.1.1) then (some ((false, ()), ()))
  else (c39 ((y.1.2.2.1, (y.1.2.2.2.1, ())), ((y.2.1.2.2.1, (y.2.1.2.2.2.1, ())), ()))).bind fun r2 =>
  bif (!r2.1.1) then (some ((false, ()), ()))
  else (c40 ((y.1.2.2.2.2.1, (y.1.2.2.2.2.2.1, (y.1.2.2.2.2.2.2.1, (y.1.2.2.2.2.2.2.2.1, (y.1.2.2.2.2.2.2.2.2.1, (y.1.2.2.2.2.2.2.2.2.2.1, (y.1.2.2.2.2.2.2.2.2.2.2.1, (y.1.2.2.2.2.2.2.2.2.2.2.2.1, ())))))))), ((y.2.1.2.2.2.2.1, (y.2.1.2.2.2.2.2.1, (y.2.1.2.2.2.2.2.2.1, (y.2.1.2.2.2.2.2.2.2.1, (y.2.1.2.2.2.2.2.2.2.2.1, (y.2.1.2.2.2.2.2.2.2.2.2.1, (y.2.1.2.2.2.2.2.2.2.2.2.2.1, (y.2.1.2.2.2.2.2.2.2.2.2.2.2.1, ())))))))), ()))).bind fun r3 =>
  bif (!r3.1.1) then (some ((false, ()), ()))
  else (c43 ((y.1.2.2.2.2.2.2.2.2.2.2.2.2.1, (y.1.2.2.2.2.2.2.2.2.2.2.2.2.2.1, ())), ((y.2.1.2.2.2.2.2.2.2.2.2.2.2.2.1, (y.2.1.2.2.2.2.2.2.2.2.2.2.2.2.2.1, ())), ()))).bind fun r4 =>
  bif (!r4.1.1) then (some ((false, ()), ()))
  else bif (neI y.1.2.2.2.2.2.2.2.2.2.2.2.2.2.2.1 y.2.1.2.2.2.2.2.2.2.2.2.2.2.2.2.2.1) then (some ((false, ()), ()))
  else bif (!(y.1.2.2.2.2.2.2.2.2.2.2.2.2.2.2.2.1 == y.2.1.2.2.2.2.2.2.2.2.2.2.2.2.2.2.2.1)) then (some ((false, ()), ()))
  else bif (neI y.1.2.2.2.2.2.2.2.2.2.2.2.2.2.2.2.2.1 y.2.1.2.2.2.2.2.2.2.2.2.2.2.2.2.2.2.2.1) then (some ((false, ()), ()))
  else bif (!(y.1.2.2.2.2.2.2.2.2.2.2.2.2.2.2.2.2.2.1 == y.2.1.2.2.2.2.2.2.2.2.2.2.2.2.2.2.2.2.2.1)) then (some ((false, ()), ()))
  else bif (neI y.1.2.2.2.2.2.2.2.2.2.2.2.2.2.2.2.2.2.2.1 y.2.1.2.2.2.2.2.2.2.2.2.2.2.2.2.2.2.2.2.2.1) then (some ((false, ()), ()))
  else bif (neI y.1.2.2.2.2.2.2.2.2.2.2.2.2.2.2.2.2.2.2.2.1 y.2.1.2.2.2.2.2.2.2.2.2.2.2.2.2.2.2.2.2.2.2.1) then (some ((false, ()), ()))
  else (c38 (y.1.2.2.2.2.2.2.2.2.2.2.2.2.2.2.2.2.2.2.2.2.1, (y.2.1.2.2.2.2.2.2.2.2.2.2.2.2.2.2.2.2.2.2.2.2.1, ()))).bind fun r5 =>
  bif (!r5.1.1) then (some ((false, ()), ()))
  else (c45 ((y.1.2.2.2.2.2.2.2.2.2.2.2.2.2.2.2.2.2.2.2.2.2.1, (y.1.2.2.2.2.2.2.2.2.2.2.2.2.2.2.2.2.2.2.2.2.2.2.1, (y.1.2.2.2.2.2.2.2.2.2.2.2.2.2.2.2.2.2.2.2.2.2.2.2.1, (y.1.2.2.2.2.2.2.2.2.2.2.2.2.2.2.2.2.2.2.2.2.2.2.2.2.1, (y.1.2.2.2.2.2.2.2.2.2.2.2.2.2.2.2.2.2.2.2.2.2.2.2.2.2.1, (y.1.2.2.2.2.2.2.2.2.2.2.2.2.2.2.2.2.2.2.2.2.2.2.2.2.2.2.1, (y.1.2.2.2.2.2.2.2.2.2.2.2.2.2.2.2.2.2.2.2.2.2.2.2.2.2.2.2.1, (y.1.2.2.2.2.2.2.2.2.2.2.2.2.2.2.2.2.2.2.2.2.2.2.2.2.2.2.2.2.1, (y.1.2.2.2.2.2.2.2.2.2.2.2.2.2.2.2.2.2.2.2.2.2.2.2.2.2.2.2.2.2.1, (y.1.2.2.2.2.2.2.2.2.2.2.2.2.2.2.2.2.2.2.2.2.2.2.2.2.2.2.2.2.2.2.1, (y.1.2.2.2.2.2.2.2.2.2.2.2.2.2.2.2.2.2.2.2.2.2.2.2.2.2.2.2.2.2.2.2.1, ()))))))))))), ((y.2.1.2.2.2.2.2.2.2.2.2.2.2.2.2.2.2.2.2.2.2.2.2.1, (y.2.1.2.2.2.2.2.2.2.2.2.2.2.2.2.2.2.2.2.2.2.2.2.2.1, (y.2.1.2.2.2.2.2.2.2.2.2.2.2.2.2.2.2.2.2.2.2.2.2.2.2.1, (y.2.1.2.2.2.2.2.2.2.2.2.2.2.2.2.2.2.2.2.2.2.2.2.2.2.2.1, (y.2.1.2.2.2.2.2.2.2.2.2.2.2.2.2.2.2.2.2.2.2.2.2.2.2.2.2.1, (y.2.1.2.2.2.2.2.2.2.2.2.2.2.2.2.2.2.2.2.2.2.2.2.2.2.2.2.2.1, (y.2.1.2.2.2.2.2.2.2.2.2.2.2.2.2.2.2.2.2.2.2.2.2.2.2.2.2.2.2.1, (y.2.1.2.2.2.2.2.2.2.2.2.2.2.2.2.2.2.2.2.2.2.2.2.2.2.2.2.2.2.2.1, (y.2.1.2.2.2.2.2.2.2.2.2.2.2.2.2.2.2.2.2.2.2.2.2.2.2.2.2.2.2.2.2.1, (y.2.1.2.2.2.2.2.2.2.2.2.2.2.2.2.2.2.2.2.2.2.2.2.2.2.2.2.2.2.2.2.2.1, (y.2.1.2.2.2.2.2.2.2.2.2.2.2.2.2.2.2.2.2.2.2.2.2.2.2.2.2.2.2.2.2.2.2.1, ()))))))))))), ()))).bind fun r6 =>
  bif (!r6.1.1) then (some ((false, ()), ()))
  else (c46 (y.1.2.2.2.2.2.2.2.2.2.2.2.2.2.2.2.2.2.2.2.2.2.2.2.2.2.2.2.2.2.2.2.2, (y.2.1.2.2.2.2.2.2.2.2.2.2.2.2.2.2.2.2.2.2.2.2.2.2.2.2.2.2.2.2.2.2.2.2, ()))).bind fun r7 =>
  bif (!r7.1.1) then (some ((false, ()), ()))
  else some ((true, ()), ())
noncomputable def E9 (c40 : PTup i40 → Option (PTup o40 × BTup i40)) (c37 : PTup i37 → Option (PTup o37 × BTup i37)) (c38 : PTup i38 → Option (PTup o38 × BTup i38)) (c39 : PTup i39 → Option (PTup o39 × BTup i39)) (c43 : PTup i43 → Option (PTup o43 × BTup i43)) (c45 : PTup i45 → Option (PTup o45 × BTup i45)) (c46 : PTup i46 → Option (PTup o46 × BTup i46))  : CEnv := ⟨⟨Go.Proofs.Tryz.prog, fnsL [(40, ⟨i40, o40, c40, .nor⟩), (37, ⟨i37, o37, c37, .nor⟩), (38, ⟨i38, o38, c38, .nor⟩), (39, ⟨i39, o39, c39, .nor⟩), (43, ⟨i43, o43, c43, .nor⟩), (45, ⟨i45, o45, c45, .nor⟩), (46, ⟨i46, o46, c46, .nor⟩)]⟩, loopsL []⟩
theorem s9 (c40 : PTup i40 → Option (PTup o40 × BTup i40)) (c37 : PTup i37 → Option (PTup o37 × BTup i37)) (c38 : PTup i38 → Option (PTup o38 × BTup i38)) (c39 : PTup i39 → Option (PTup o39 × BTup i39)) (c43 : PTup i43 → Option (PTup o43 × BTup i43)) (c45 : PTup i45 → Option (PTup o45 × BTup i45)) (c46 : PTup i46 → Option (PTup o46 × BTup i46))  (y) : tevF (E9 c40 c37 c38 c39 c43 c45 c46 ) Go.Proofs.Tryz.f9 i9 o9 y = m9 c40 c37 c38 c39 c43 c45 c46  y := by kernel_rfl
noncomputable def r9 : PTup i9 → Option (PTup o9 × BTup i9) := m9 r40 r37 r38 r39 r43 r45 r46 
theorem k9 : CallOk Go.Proofs.Tryz.prog 9 ⟨i9, o9, r9, .nor⟩ := by
  have hE : ∀ g f, (E9 r40 r37 r38 r39 r43 r45 r46 ).env.fns g = some f → CallOk Go.Proofs.Tryz.prog g f := fnsL_ok ⟨k40, k37, k38, k39, k43, k45, k46, trivial⟩
  exact fn_ok (E := E9 r40 r37 r38 r39 r43 r45 r46 ) rfl hE mixed (by kernel_rfl) (by kernel_rfl) (AllLoops.of_list (l := []) (by kernel_rfl) trivial) (s9 r40 r37 r38 r39 r43 r45 r46 )
/- loop.example/g00231/laws.markIntS -/
@[reducible] def i48 : List Ty := [.v (.sl true .i), .v (.int .i64)]
@[reducible] def o48 : List Ty := [.v (.int .i64), .v (.sl true .i)]
@[reducible] def lc48_0 : List Ty := []
@[reducible] def lb48_0 : List Ty := []
@[reducible] def lv48_0 : List Ty := [.v (.int .i64), .v (.int .i64), .v (.sl true .i)]
@[reducible] def lr48_0 : List Ty := []
noncomputable def w48_0   (again : PTup lb48_0 → PTup lv48_0 → Option (Sum (PTup lv48_0) (PTup lr48_0) × BTup lb48_0)) (x : PTup lc48_0) (y : PTup lb48_0) (z : PTup lv48_0) : Option (Sum (PTup lv48_0) (PTup lr48_0) × BTup lb48_0) :=
  bif (ltI z.2.1 (lenI z.2.2.1)) then (bif (leI (0 : Int) z.2.1) then (bif (ltI z.2.1 (lenI z.2.2.1)) then (again () ((wI (z.1 + (1 : Int))), ((wI (z.2.1 + (1 : Int))), ((List.set z.2.2.1 (Int.toNat z.2.1) z.1), ()))))
    else none)
   else none)
  else some ((Sum.inl z), ())
noncomputable def e48_0 (l : PTup lc48_0 → PTup lb48_0 → PTup lv48_0 → Option (Sum (PTup lv48_0) (PTup lr48_0) × BTup lb48_0)) : LoopE := ⟨[], lc48_0, [], lb48_0, [1, 5, 0], lv48_0, [], lr48_0, 0, l⟩
noncomputable def m48  (l0 : PTup lc48_0 → PTup lb48_0 → PTup lv48_0 → Option (Sum (PTup lv48_0) (PTup lr48_0) × BTup lb48_0)) (y : PTup i48) : Option (PTup o48 × BTup i48) :=
  (l0 () () (y.2.1, ((0 : Int), (y.1, ())))).bind fun r0 =>
  sumElim r0.1 (fun r1 => some ((r1.1, r1.2.2), ()))
  (fun r1 => none)
noncomputable def E48  (l0 : PTup lc48_0 → PTup lb48_0 → PTup lv48_0 → Option (Sum (PTup lv48_0) (PTup lr48_0) × BTup lb48_0)) : CEnv := ⟨⟨Go.Proofs.Tryz.prog, fnsL []⟩, loopsL [(2, e48_0 l0)]⟩
theorem t48_0  (l0 : PTup lc48_0 → PTup lb48_0 → PTup lv48_0 → Option (Sum (PTup lv48_0) (PTup lr48_0) × BTup lb48_0)) (again) (x y z) : loopRound (E48  l0) (loopAt (bodyOf Go.Proofs.Tryz.f48) 0) (e48_0 l0) Go.Proofs.Tryz.f48.ntmps again x y z = w48_0   again x y z := by kernel_rfl
noncomputable def n48_0   : Nat → PTup lc48_0 → PTup lb48_0 → PTup lv48_0 → Option (Sum (PTup lv48_0) (PTup lr48_0) × BTup lb48_0)
  | 0, _, _, _ => none
  | n + 1, x, y, z => w48_0   (fun y z => n48_0   n x y z) x y z
theorem s48  (l0 : PTup lc48_0 → PTup lb48_0 → PTup lv48_0 → Option (Sum (PTup lv48_0) (PTup lr48_0) × BTup lb48_0)) (y) : tevM (E48  l0) Go.Proofs.Tryz.f48 i48 o48 y = m48  l0 y := by kernel_rfl
noncomputable def L48_0 : PTup lc48_0 → PTup lb48_0 → PTup lv48_0 → Option (Sum (PTup lv48_0) (PTup lr48_0) × BTup lb48_0) := n48_0   fuel
noncomputable def r48 : PTup i48 → Option (PTup o48 × BTup i48) := m48  L48_0
theorem k48 : CallOk Go.Proofs.Tryz.prog 48 ⟨i48, o48, r48, .inp⟩ := by
  have hE : ∀ g f, (E48  L48_0).env.fns g = some f → CallOk Go.Proofs.Tryz.prog g f := fnsL_ok trivial
  have h0 : LoopOk Go.Proofs.Tryz.prog Go.Proofs.Tryz.f48.ntmps (loopAt (bodyOf Go.Proofs.Tryz.f48) 0) (e48_0 L48_0) := lp_ok (E := E48  L48_0) rfl hE mixed (AllLoops.of_list (l := []) (by kernel_rfl) trivial) (n48_0  ) (fun _ _ _ => rfl) (fun n x y z => t48_0  L48_0 _ x y z) rfl
  exact fnM_ok (E := E48  L48_0) rfl hE mixed (by kernel_rfl) (by kernel_rfl) (AllLoops.of_list (l := [(loopAt (bodyOf Go.Proofs.Tryz.f48) 0)]) (by kernel_rfl) (.one (by kernel_rfl) h0 trivial)) (s48  L48_0)
/- loop.example/g00231/laws.markIntSS -/
@[reducible] def i92 : List Ty := [.v (.sl true .n), .v (.int .i64)]
@[reducible] def o92 : List Ty := [.v (.int .i64), .v (.sl true .n)]
@[reducible] def lc92_0 : List Ty := []
@[reducible] def lb92_0 : List Ty := []
@[reducible] def lv92_0 : List Ty := [.v (.int .i64), .v (.int .i64), .v (.sl true .n)]
@[reducible] def lr92_0 : List Ty := []
noncomputable def w92_0 (c48 : PTup i48 → Option (PTup o48 × BTup i48))  (again : PTup lb92_0 → PTup lv92_0 → Option (Sum (PTup lv92_0) (PTup lr92_0) × BTup lb92_0)) (x : PTup lc92_0) (y : PTup lb92_0) (z : PTup lv92_0) : Option (Sum (PTup lv92_0) (PTup lr92_0) × BTup lb92_0) :=
  bif (ltI z.2.1 (lenI z.2.2.1)) then (bif (leI (0 : Int) z.2.1) then (bif (ltI z.2.1 (lenI z.2.2.1)) then ((c48 ((rdE .n z.2.2.1 z.2.1), (z.1, ()))).bind fun r0 =>
     again () (r0.1.1, ((wI (z.2.1 + (1 : Int))), ((List.set z.2.2.1 (Int.toNat z.2.1) r0.1.2.1), ()))))
    else none)
   else none)
  else some ((Sum.inl z), ())
noncomputable def e92_0 (l : PTup lc92_0 → PTup lb92_0 → PTup lv92_0 → Option (Sum (PTup lv92_0) (PTup lr92_0) × BTup lb92_0)) : LoopE := ⟨[], lc92_0, [], lb92_0, [1, 5, 0], lv92_0, [], lr92_0, 0, l⟩
noncomputable def m92 (c48 : PTup i48 → Option (PTup o48 × BTup i48)) (l0 : PTup lc92_0 → PTup lb92_0 → PTup lv92_0 → Option (Sum (PTup lv92_0) (PTup lr92_0) × BTup lb92_0)) (y : PTup i92) : Option (PTup o92 × BTup i92) :=
  (l0 () () (y.2.1, ((0 : Int), (y.1, ())))).bind fun r0 =>
  sumElim r0.1 (fun r1 => some ((r1.1, r1.2.2), ()))
  (fun r1 => none)
noncomputable def E92 (c48 : PTup i48 → Option (PTup o48 × BTup i48)) (l0 : PTup lc92_0 → PTup lb92_0 → PTup lv92_0 → Option (Sum (PTup lv92_0) (PTup lr92_0) × BTup lb92_0)) : CEnv := ⟨⟨Go.Proofs.Tryz.prog, fnsL [(48, ⟨i48, o48, c48, .inp⟩)]⟩, loopsL [(2, e92_0 l0)]⟩
theorem t92_0 (c48 : PTup i48 → Option (PTup o48 × BTup i48)) (l0 : PTup lc92_0 → PTup lb92_0 → PTup lv92_0 → Option (Sum (PTup lv92_0) (PTup lr92_0) × BTup lb92_0)) (again) (x y z) : loopRound (E92 c48 l0) (loopAt (bodyOf Go.Proofs.Tryz.f92) 0) (e92_0 l0) Go.Proofs.Tryz.f92.ntmps again x y z = w92_0 c48  again x y z := by kernel_rfl
noncomputable def n92_0 (c48 : PTup i48 → Option (PTup o48 × BTup i48))  : Nat → PTup lc92_0 → PTup lb92_0 → PTup lv92_0 → Option (Sum (PTup lv92_0) (PTup lr92_0) × BTup lb92_0)
  | 0, _, _, _ => none
  | n + 1, x, y, z => w92_0 c48  (fun y z => n92_0 c48  n x y z) x y z
theorem s92 (c48 : PTup i48 → Option (PTup o48 × BTup i48)) (l0 : PTup lc92_0 → PTup lb92_0 → PTup lv92_0 → Option (Sum (PTup lv92_0) (PTup lr92_0) × BTup lb92_0)) (y) : tevM (E92 c48 l0) Go.Proofs.Tryz.f92 i92 o92 y = m92 c48 l0 y := by kernel_rfl
noncomputable def L92_0 : PTup lc92_0 → PTup lb92_0 → PTup lv92_0 → Option (Sum (PTup lv92_0) (PTup lr92_0) × BTup lb92_0) := n92_0 r48  fuel
noncomputable def r92 : PTup i92 → Option (PTup o92 × BTup i92) := m92 r48 L92_0
theorem k92 : CallOk Go.Proofs.Tryz.prog 92 ⟨i92, o92, r92, .inp⟩ := by
  have hE : ∀ g f, (E92 r48 L92_0).env.fns g = some f → CallOk Go.Proofs.Tryz.prog g f := fnsL_ok ⟨k48, trivial⟩
  have h0 : LoopOk Go.Proofs.Tryz.prog Go.Proofs.Tryz.f92.ntmps (loopAt (bodyOf Go.Proofs.Tryz.f92) 0) (e92_0 L92_0) := lp_ok (E := E92 r48 L92_0) rfl hE mixed (AllLoops.of_list (l := []) (by kernel_rfl) trivial) (n92_0 r48 ) (fun _ _ _ => rfl) (fun n x y z => t92_0 r48 L92_0 _ x y z) rfl
  exact fnM_ok (E := E92 r48 L92_0) rfl hE mixed (by kernel_rfl) (by kernel_rfl) (AllLoops.of_list (l := [(loopAt (bodyOf Go.Proofs.Tryz.f92) 0)]) (by kernel_rfl) (.one (by kernel_rfl) h0 trivial)) (s92 r48 L92_0)
/- loop.example/g00231/laws.markImage -/
@[reducible] def i47 : List Ty := [.a [.sl true .n], .v (.int .i64)]
@[reducible] def o47 : List Ty := [.v (.int .i64), .a [.sl true .n]]
noncomputable def m47 (c92 : PTup i92 → Option (PTup o92 × BTup i92))  (y : PTup i47) : Option (PTup o47 × BTup i47) :=
  (c92 (y.1.1, y.2)).bind fun r0 =>
  some ((r0.1.1, (r0.1.2, ())), ())
noncomputable def E47 (c92 : PTup i92 → Option (PTup o92 × BTup i92))  : CEnv := ⟨⟨Go.Proofs.Tryz.prog, fnsL [(92, ⟨i92, o92, c92, .inp⟩)]⟩, loopsL []⟩
theorem s47 (c92 : PTup i92 → Option (PTup o92 × BTup i92))  (y) : tevM (E47 c92 ) Go.Proofs.Tryz.f47 i47 o47 y = m47 c92  y := by kernel_rfl
noncomputable def r47 : PTup i47 → Option (PTup o47 × BTup i47) := m47 r92 
theorem k47 : CallOk Go.Proofs.Tryz.prog 47 ⟨i47, o47, r47, .inp⟩ := by
  have hE : ∀ g f, (E47 r92 ).env.fns g = some f → CallOk Go.Proofs.Tryz.prog g f := fnsL_ok ⟨k92, trivial⟩
  exact fnM_ok (E := E47 r92 ) rfl hE mixed (by kernel_rfl) (by kernel_rfl) (AllLoops.of_list (l := []) (by kernel_rfl) trivial) (s47 r92 )
end Go.Proofs.YtfafepmjpphfeaaGreat.Plain
