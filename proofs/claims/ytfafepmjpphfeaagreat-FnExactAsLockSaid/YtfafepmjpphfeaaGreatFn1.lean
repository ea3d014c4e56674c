/- Plain functions that the program's functions answer as; their contracts. Printed by a program of the proofs' writer. No condition. -/
import Derived.Test.YtfafepmjpphfeaaGreatUf
import Derived.KernelRfl
import Derived.Test.YtfafepmjpphfeaaGreatFn0
set_option linter.unusedVariables false
set_option linter.unusedSimpArgs false
set_option maxRecDepth 100000
namespace Go.Proofs.YtfafepmjpphfeaaGreat.Plain
open Go Go.Tev
/- loop.example/g00231/laws.markMem -/
@[reducible] def i49 : List Ty := [.a [.sl true .i, .int .i64], .v (.int .i64)]
@[reducible] def o49 : List Ty := [.v (.int .i64), .a [.sl true .i, .int .i64]]
noncomputable def m49 (c48 : PTup i48 → Option (PTup o48 × BTup i48))  (y : PTup i49) : Option (PTup o49 × BTup i49) :=
  (c48 (y.1.1, y.2)).bind fun r0 =>
  some ((r0.1.1, ((r0.1.2.1, y.1.2), ())), ())
noncomputable def E49 (c48 : PTup i48 → Option (PTup o48 × BTup i48))  : CEnv := ⟨⟨Go.Proofs.Tryz.prog, fnsL [(48, ⟨i48, o48, c48, .inp⟩)]⟩, loopsL []⟩
theorem s49 (c48 : PTup i48 → Option (PTup o48 × BTup i48))  (y) : tevM (E49 c48 ) Go.Proofs.Tryz.f49 i49 o49 y = m49 c48  y := by kernel_rfl
noncomputable def r49 : PTup i49 → Option (PTup o49 × BTup i49) := m49 r48 
theorem k49 : CallOk Go.Proofs.Tryz.prog 49 ⟨i49, o49, r49, .inp⟩ := by
  have hE : ∀ g f, (E49 r48 ).env.fns g = some f → CallOk Go.Proofs.Tryz.prog g f := fnsL_ok ⟨k48, trivial⟩
  exact fnM_ok (E := E49 r48 ) rfl hE mixed (by kernel_rfl) (by kernel_rfl) (AllLoops.of_list (l := []) (by kernel_rfl) trivial) (s49 r48 )
/- loop.example/g00231/laws.markPpu -/
@[reducible] def i52 : List Ty := [.a [.int .i64, .int .i64, .int .i64, .int .i64, .int .i64, .bool, .sl true .i, .sl true .i], .v (.int .i64)]
@[reducible] def o52 : List Ty := [.v (.int .i64), .a [.int .i64, .int .i64, .int .i64, .int .i64, .int .i64, .bool, .sl true .i, .sl true .i]]
noncomputable def m52 (c48 : PTup i48 → Option (PTup o48 × BTup i48))  (y : PTup i52) : Option (PTup o52 × BTup i52) :=
  (c48 (y.1.2.2.2.2.2.2.1, y.2)).bind fun r0 =>
  (c48 (y.1.2.2.2.2.2.2.2.1, (r0.1.1, ()))).bind fun r1 =>
  some ((r1.1.1, ((y.1.1, (y.1.2.1, (y.1.2.2.1, (y.1.2.2.2.1, (y.1.2.2.2.2.1, (y.1.2.2.2.2.2.1, (r0.1.2.1, r1.1.2))))))), ())), ())
noncomputable def E52 (c48 : PTup i48 → Option (PTup o48 × BTup i48))  : CEnv := ⟨⟨Go.Proofs.Tryz.prog, fnsL [(48, ⟨i48, o48, c48, .inp⟩)]⟩, loopsL []⟩
theorem s52 (c48 : PTup i48 → Option (PTup o48 × BTup i48))  (y) : tevM (E52 c48 ) Go.Proofs.Tryz.f52 i52 o52 y = m52 c48  y := by kernel_rfl
noncomputable def r52 : PTup i52 → Option (PTup o52 × BTup i52) := m52 r48 
theorem k52 : CallOk Go.Proofs.Tryz.prog 52 ⟨i52, o52, r52, .inp⟩ := by
  have hE : ∀ g f, (E52 r48 ).env.fns g = some f → CallOk Go.Proofs.Tryz.prog g f := fnsL_ok ⟨k48, trivial⟩
  exact fnM_ok (E := E52 r48 ) rfl hE mixed (by kernel_rfl) (by kernel_rfl) (AllLoops.of_list (l := []) (by kernel_rfl) trivial) (s52 r48 )
/- loop.example/g00231/laws.markRecS -/
@[reducible] def i112 : List Ty := [.v (.sl true .t), .v (.int .i64)]
@[reducible] def o112 : List Ty := [.v (.int .i64), .v (.sl true .t)]
@[reducible] def lc112_0 : List Ty := []
@[reducible] def lb112_0 : List Ty := []
@[reducible] def lv112_0 : List Ty := [.v (.int .i64), .v (.int .i64), .v (.sl true .t)]
@[reducible] def lr112_0 : List Ty := []
noncomputable def w112_0   (again : PTup lb112_0 → PTup lv112_0 → Option (Sum (PTup lv112_0) (PTup lr112_0) × BTup lb112_0)) (x : PTup lc112_0) (y : PTup lb112_0) (z : PTup lv112_0) : Option (Sum (PTup lv112_0) (PTup lr112_0) × BTup lb112_0) :=
  bif (ltI z.2.1 (lenI z.2.2.1)) then (bif (leI (0 : Int) z.2.1) then (bif (ltI z.2.1 (lenI z.2.2.1)) then (bif (leI (0 : Int) z.2.1) then (bif (ltI z.2.1 (lenI (List.set z.2.2.1 (Int.toNat z.2.1) (setT (rdE .t z.2.2.1 z.2.1) z.1 ((0 : Nat) + (0 : Nat)))))) then (bif (leI (0 : Int) z.2.1) then (bif (ltI z.2.1 (lenI (List.set (List.set z.2.2.1 (Int.toNat z.2.1) (setT (rdE .t z.2.2.1 z.2.1) z.1 ((0 : Nat) + (0 : Nat)))) (Int.toNat z.2.1) (setT (rdE .t (List.set z.2.2.1 (Int.toNat z.2.1) (setT (rdE .t z.2.2.1 z.2.1) z.1 ((0 : Nat) + (0 : Nat)))) z.2.1) (wI (z.1 + (1 : Int))) ((0 : Nat) + (1 : Nat)))))) then (again () ((wI ((wI ((wI (z.1 + (1 : Int))) + (1 : Int))) + (1 : Int))), ((wI (z.2.1 + (1 : Int))), ((List.set (List.set (List.set z.2.2.1 (Int.toNat z.2.1) (setT (rdE .t z.2.2.1 z.2.1) z.1 ((0 : Nat) + (0 : Nat)))) (Int.toNat z.2.1) (setT (rdE .t (List.set z.2.2.1 (Int.toNat z.2.1) (setT (rdE .t z.2.2.1 z.2.1) z.1 ((0 : Nat) + (0 : Nat)))) z.2.1) (wI (z.1 + (1 : Int))) ((0 : Nat) + (1 : Nat)))) (Int.toNat z.2.1) (setT (rdE .t (List.set (List.set z.2.2.1 (Int.toNat z.2.1) (setT (rdE .t z.2.2.1 z.2.1) z.1 ((0 : Nat) + (0 : Nat)))) (Int.toNat z.2.1) (setT (rdE .t (List.set z.2.2.1 (Int.toNat z.2.1) (setT (rdE .t z.2.2.1 z.2.1) z.1 ((0 : Nat) + (0 : Nat)))) z.2.1) (wI (z.1 + (1 : Int))) ((0 : Nat) + (1 : Nat)))) z.2.1) (wI ((wI (z.1 + (1 : Int))) + (1 : Int))) ((0 : Nat) + (2 : Nat)))), ()))))
        else none)
       else none)
      else none)
     else none)
    else none)
   else none)
  else some ((Sum.inl z), ())
noncomputable def e112_0 (l : PTup lc112_0 → PTup lb112_0 → PTup lv112_0 → Option (Sum (PTup lv112_0) (PTup lr112_0) × BTup lb112_0)) : LoopE := ⟨[], lc112_0, [], lb112_0, [1, 5, 0], lv112_0, [], lr112_0, 0, l⟩
noncomputable def m112  (l0 : PTup lc112_0 → PTup lb112_0 → PTup lv112_0 → Option (Sum (PTup lv112_0) (PTup lr112_0) × BTup lb112_0)) (y : PTup i112) : Option (PTup o112 × BTup i112) :=
  (l0 () () (y.2.1, ((0 : Int), (y.1, ())))).bind fun r0 =>
  sumElim r0.1 (fun r1 => some ((r1.1, r1.2.2), ()))
  (fun r1 => none)
noncomputable def E112  (l0 : PTup lc112_0 → PTup lb112_0 → PTup lv112_0 → Option (Sum (PTup lv112_0) (PTup lr112_0) × BTup lb112_0)) : CEnv := ⟨⟨Go.Proofs.Tryz.prog, fnsL []⟩, loopsL [(2, e112_0 l0)]⟩
theorem t112_0  (l0 : PTup lc112_0 → PTup lb112_0 → PTup lv112_0 → Option (Sum (PTup lv112_0) (PTup lr112_0) × BTup lb112_0)) (again) (x y z) : loopRound (E112  l0) (loopAt (bodyOf Go.Proofs.Tryz.f112) 0) (e112_0 l0) Go.Proofs.Tryz.f112.ntmps again x y z = w112_0   again x y z := by kernel_rfl
noncomputable def n112_0   : Nat → PTup lc112_0 → PTup lb112_0 → PTup lv112_0 → Option (Sum (PTup lv112_0) (PTup lr112_0) × BTup lb112_0)
  | 0, _, _, _ => none
  | n + 1, x, y, z => w112_0   (fun y z => n112_0   n x y z) x y z
theorem s112  (l0 : PTup lc112_0 → PTup lb112_0 → PTup lv112_0 → Option (Sum (PTup lv112_0) (PTup lr112_0) × BTup lb112_0)) (y) : tevM (E112  l0) Go.Proofs.Tryz.f112 i112 o112 y = m112  l0 y := by kernel_rfl
noncomputable def L112_0 : PTup lc112_0 → PTup lb112_0 → PTup lv112_0 → Option (Sum (PTup lv112_0) (PTup lr112_0) × BTup lb112_0) := n112_0   fuel
noncomputable def r112 : PTup i112 → Option (PTup o112 × BTup i112) := m112  L112_0
theorem k112 : CallOk Go.Proofs.Tryz.prog 112 ⟨i112, o112, r112, .inp⟩ := by
  have hE : ∀ g f, (E112  L112_0).env.fns g = some f → CallOk Go.Proofs.Tryz.prog g f := fnsL_ok trivial
  have h0 : LoopOk Go.Proofs.Tryz.prog Go.Proofs.Tryz.f112.ntmps (loopAt (bodyOf Go.Proofs.Tryz.f112) 0) (e112_0 L112_0) := lp_ok (E := E112  L112_0) rfl hE mixed (AllLoops.of_list (l := []) (by kernel_rfl) trivial) (n112_0  ) (fun _ _ _ => rfl) (fun n x y z => t112_0  L112_0 _ x y z) rfl
  exact fnM_ok (E := E112  L112_0) rfl hE mixed (by kernel_rfl) (by kernel_rfl) (AllLoops.of_list (l := [(loopAt (bodyOf Go.Proofs.Tryz.f112) 0)]) (by kernel_rfl) (.one (by kernel_rfl) h0 trivial)) (s112  L112_0)
/- loop.example/g00231/laws.markRing -/
@[reducible] def i93 : List Ty := [.a [.int .i64, .sl true .t], .v (.int .i64)]
@[reducible] def o93 : List Ty := [.v (.int .i64), .a [.int .i64, .sl true .t]]
noncomputable def m93 (c112 : PTup i112 → Option (PTup o112 × BTup i112))  (y : PTup i93) : Option (PTup o93 × BTup i93) :=
  (c112 (y.1.2.1, y.2)).bind fun r0 =>
  some ((r0.1.1, ((y.1.1, r0.1.2), ())), ())
noncomputable def E93 (c112 : PTup i112 → Option (PTup o112 × BTup i112))  : CEnv := ⟨⟨Go.Proofs.Tryz.prog, fnsL [(112, ⟨i112, o112, c112, .inp⟩)]⟩, loopsL []⟩
theorem s93 (c112 : PTup i112 → Option (PTup o112 × BTup i112))  (y) : tevM (E93 c112 ) Go.Proofs.Tryz.f93 i93 o93 y = m93 c112  y := by kernel_rfl
noncomputable def r93 : PTup i93 → Option (PTup o93 × BTup i93) := m93 r112 
theorem k93 : CallOk Go.Proofs.Tryz.prog 93 ⟨i93, o93, r93, .inp⟩ := by
  have hE : ∀ g f, (E93 r112 ).env.fns g = some f → CallOk Go.Proofs.Tryz.prog g f := fnsL_ok ⟨k112, trivial⟩
  exact fnM_ok (E := E93 r112 ) rfl hE mixed (by kernel_rfl) (by kernel_rfl) (AllLoops.of_list (l := []) (by kernel_rfl) trivial) (s93 r112 )
/- loop.example/g00231/laws.markPicture -/
@[reducible] def i50 : List Ty := [.a [.int .i64, .int .i64, .int .i64, .int .i64, .int .i64, .bool, .sl true .i, .sl true .i, .int .i64, .sl true .t, .sl true .n], .v (.int .i64)]
@[reducible] def o50 : List Ty := [.v (.int .i64), .a [.int .i64, .int .i64, .int .i64, .int .i64, .int .i64, .bool, .sl true .i, .sl true .i, .int .i64, .sl true .t, .sl true .n]]
noncomputable def m50 (c92 : PTup i92 → Option (PTup o92 × BTup i92)) (c52 : PTup i52 → Option (PTup o52 × BTup i52)) (c93 : PTup i93 → Option (PTup o93 × BTup i93))  (y : PTup i50) : Option (PTup o50 × BTup i50) :=
  (c52 ((y.1.1, (y.1.2.1, (y.1.2.2.1, (y.1.2.2.2.1, (y.1.2.2.2.2.1, (y.1.2.2.2.2.2.1, (y.1.2.2.2.2.2.2.1, (y.1.2.2.2.2.2.2.2.1, ())))))))), y.2)).bind fun r0 =>
  (c93 ((y.1.2.2.2.2.2.2.2.2.1, (y.1.2.2.2.2.2.2.2.2.2.1, ())), (r0.1.1, ()))).bind fun r1 =>
  (c92 (y.1.2.2.2.2.2.2.2.2.2.2.1, (r1.1.1, ()))).bind fun r2 =>
  some ((r2.1.1, ((y.1.1, (y.1.2.1, (y.1.2.2.1, (y.1.2.2.2.1, (y.1.2.2.2.2.1, (y.1.2.2.2.2.2.1, (r0.1.2.1.2.2.2.2.2.2.1, (r0.1.2.1.2.2.2.2.2.2.2.1, (y.1.2.2.2.2.2.2.2.2.1, (r1.1.2.1.2.1, r2.1.2)))))))))), ())), ())
noncomputable def E50 (c92 : PTup i92 → Option (PTup o92 × BTup i92)) (c52 : PTup i52 → Option (PTup o52 × BTup i52)) (c93 : PTup i93 → Option (PTup o93 × BTup i93))  : CEnv := ⟨⟨Go.Proofs.Tryz.prog, fnsL [(92, ⟨i92, o92, c92, .inp⟩), (52, ⟨i52, o52, c52, .inp⟩), (93, ⟨i93, o93, c93, .inp⟩)]⟩, loopsL []⟩
theorem s50 (c92 : PTup i92 → Option (PTup o92 × BTup i92)) (c52 : PTup i52 → Option (PTup o52 × BTup i52)) (c93 : PTup i93 → Option (PTup o93 × BTup i93))  (y) : tevM (E50 c92 c52 c93 ) Go.Proofs.Tryz.f50 i50 o50 y = m50 c92 c52 c93  y := by kernel_rfl
noncomputable def r50 : PTup i50 → Option (PTup o50 × BTup i50) := m50 r92 r52 r93 
theorem k50 : CallOk Go.Proofs.Tryz.prog 50 ⟨i50, o50, r50, .inp⟩ := by
  have hE : ∀ g f, (E50 r92 r52 r93 ).env.fns g = some f → CallOk Go.Proofs.Tryz.prog g f := fnsL_ok ⟨k92, k52, k93, trivial⟩
  exact fnM_ok (E := E50 r92 r52 r93 ) rfl hE mixed (by kernel_rfl) (by kernel_rfl) (AllLoops.of_list (l := []) (by kernel_rfl) trivial) (s50 r92 r52 r93 )
/- loop.example/g00231/laws.markSound -/
@[reducible] def i51 : List Ty := [.a [.int .i64, .int .i64, .int .i64, .int .i64, .int .i64, .bool, .bool, .int .i64, .sl true .t, .sl true .i], .v (.int .i64)]
@[reducible] def o51 : List Ty := [.v (.int .i64), .a [.int .i64, .int .i64, .int .i64, .int .i64, .int .i64, .bool, .bool, .int .i64, .sl true .t, .sl true .i]]
noncomputable def m51 (c48 : PTup i48 → Option (PTup o48 × BTup i48)) (c93 : PTup i93 → Option (PTup o93 × BTup i93))  (y : PTup i51) : Option (PTup o51 × BTup i51) :=
  (c93 ((y.1.2.2.2.2.2.2.2.1, (y.1.2.2.2.2.2.2.2.2.1, ())), y.2)).bind fun r0 =>
  (c48 (y.1.2.2.2.2.2.2.2.2.2.1, (r0.1.1, ()))).bind fun r1 =>
  some ((r1.1.1, ((y.1.1, (y.1.2.1, (y.1.2.2.1, (y.1.2.2.2.1, (y.1.2.2.2.2.1, (y.1.2.2.2.2.2.1, (y.1.2.2.2.2.2.2.1, (y.1.2.2.2.2.2.2.2.1, (r0.1.2.1.2.1, r1.1.2))))))))), ())), ())
noncomputable def E51 (c48 : PTup i48 → Option (PTup o48 × BTup i48)) (c93 : PTup i93 → Option (PTup o93 × BTup i93))  : CEnv := ⟨⟨Go.Proofs.Tryz.prog, fnsL [(48, ⟨i48, o48, c48, .inp⟩), (93, ⟨i93, o93, c93, .inp⟩)]⟩, loopsL []⟩
theorem s51 (c48 : PTup i48 → Option (PTup o48 × BTup i48)) (c93 : PTup i93 → Option (PTup o93 × BTup i93))  (y) : tevM (E51 c48 c93 ) Go.Proofs.Tryz.f51 i51 o51 y = m51 c48 c93  y := by kernel_rfl
noncomputable def r51 : PTup i51 → Option (PTup o51 × BTup i51) := m51 r48 r93 
theorem k51 : CallOk Go.Proofs.Tryz.prog 51 ⟨i51, o51, r51, .inp⟩ := by
  have hE : ∀ g f, (E51 r48 r93 ).env.fns g = some f → CallOk Go.Proofs.Tryz.prog g f := fnsL_ok ⟨k48, k93, trivial⟩
  exact fnM_ok (E := E51 r48 r93 ) rfl hE mixed (by kernel_rfl) (by kernel_rfl) (AllLoops.of_list (l := []) (by kernel_rfl) trivial) (s51 r48 r93 )
/- loop.example/g00231/laws.markSplit -/
@[reducible] def i10 : List Ty := [.a [.sl true .n, .sl true .i, .sl true .i, .int .i64, .int .i64, .int .i64, .int .i64, .int .i64, .bool, .bool, .bool, .bool, .bool, .int .i64, .int .i64, .bool, .int .i64, .bool, .int .i64, .int .i64, .sl true .i, .int .i64, .int .i64, .int .i64, .int .i64, .int .i64, .bool, .sl true .i, .sl true .i, .int .i64, .sl true .t, .sl true .n, .int .i64, .int .i64, .int .i64, .int .i64, .int .i64, .bool, .bool, .int .i64, .sl true .t, .sl true .i], .v (.int .i64)]
@[reducible] def o10 : List Ty := [.v (.int .i64), .a [.sl true .n, .sl true .i, .sl true .i, .int .i64, .int .i64, .int .i64, .int .i64, .int .i64, .bool, .bool, .bool, .bool, .bool, .int .i64, .int .i64, .bool, .int .i64, .bool, .int .i64, .int .i64, .sl true .i, .int .i64, .int .i64, .int .i64, .int .i64, .int .i64, .bool, .sl true .i, .sl true .i, .int .i64, .sl true .t, .sl true .n, .int .i64, .int .i64, .int .i64, .int .i64, .int .i64, .bool, .bool, .int .i64, .sl true .t, .sl true .i]]
noncomputable def m10 (c47 : PTup i47 → Option (PTup o47 × BTup i47)) (c48 : PTup i48 → Option (PTup o48 × BTup i48)) (c49 : PTup i49 → Option (PTup o49 × BTup i49)) (c50 : PTup i50 → Option (PTup o50 × BTup i50)) (c51 : PTup i51 → Option (PTup o51 × BTup i51))  (y : PTup i10) : Option (PTup o10 × BTup i10) :=
  (c47 ((y.1.1, ()), y.2)).bind fun r0 =>
  (c48 (y.1.2.1, (r0.1.1, ()))).bind fun r1 =>
  (c49 ((y.1.2.2.1, (y.1.2.2.2.1, ())), (r1.1.1, ()))).bind fun r2 =>
  (c48 (y.1.2.2.2.2.2.2.2.2.2.2.2.2.2.2.2.2.2.2.2.2.1, (r2.1.1, ()))).bind fun r3 =>
  (c50 ((y.1.2.2.2.2.2.2.2.2.2.2.2.2.2.2.2.2.2.2.2.2.2.1, (y.1.2.2.2.2.2.2.2.2.2.2.2.2.2.2.2.2.2.2.2.2.2.2.1, (y.1.2.2.2.2.2.2.2.2.2.2.2.2.2.2.2.2.2.2.2.2.2.2.2.1, (y.1.2.2.2.2.2.2.2.2.2.2.2.2.2.2.2.2.2.2.2.2.2.2.2.2.1, (y.1.2.2.2.2.2.2.2.2.2.2.2.2.2.2.2.2.2.2.2.2.2.2.2.2.2.1, (y.1.2.2.2.2.2.2.2.2.2.2.2.2.2.2.2.2.2.2.2.2.2.2.2.2.2.2.1, (y.1.2.2.2.2.2.2.2.2.2.2.2.2.2.2.2.2.2.2.2.2.2.2.2.2.2.2.2.1, (y.1.2.2.2.2.2.2.2.2.2.2.2.2.2.2.2.2.2.2.2.2.2.2.2.2.2.2.2.2.1, (y.1.2.2.2.2.2.2.2.2.2.2.2.2.2.2.2.2.2.2.2.2.2.2.2.2.2.2.2.2.2.1, (y.1.2.2.2.2.2.2.2.2.2.2.2.2.2.2.2.2.2.2.2.2.2.2.2.2.2.2.2.2.2.2.1, (y.1.2.2.2.2.2.2.2.2.2.2.2.2.2.2.2.2.2.2.2.2.2.2.2.2.2.2.2.2.2.2.2.1, ()))))))))))), (r3.1.1, ()))).bind fun r4 =>
  (c51 (y.1.2.2.2.2.2.2.2.2.2.2.2.2.2.2.2.2.2.2.2.2.2.2.2.2.2.2.2.2.2.2.2.2, (r4.1.1, ()))).bind fun r5 =>
  some ((r5.1.1, ((r0.1.2.1.1, (r1.1.2.1, (r2.1.2.1.1, (y.1.2.2.2.1, (y.1.2.2.2.2.1, (y.1.2.2.2.2.2.1, (y.1.2.2.2.2.2.2.1, (y.1.2.2.2.2.2.2.2.1, (y.1.2.2.2.2.2.2.2.2.1, (y.1.2.2.2.2.2.2.2.2.2.1, (y.1.2.2.2.2.2.2.2.2.2.2.1, (y.1.2.2.2.2.2.2.2.2.2.2.2.1, (y.1.2.2.2.2.2.2.2.2.2.2.2.2.1, (y.1.2.2.2.2.2.2.2.2.2.2.2.2.2.1, (y.1.2.2.2.2.2.2.2.2.2.2.2.2.2.2.1, (y.1.2.2.2.2.2.2.2.2.2.2.2.2.2.2.2.1, (y.1.2.2.2.2.2.2.2.2.2.2.2.2.2.2.2.2.1, (y.1.2.2.2.2.2.2.2.2.2.2.2.2.2.2.2.2.2.1, (y.1.2.2.2.2.2.2.2.2.2.2.2.2.2.2.2.2.2.2.1, (y.1.2.2.2.2.2.2.2.2.2.2.2.2.2.2.2.2.2.2.2.1, (r3.1.2.1, (y.1.2.2.2.2.2.2.2.2.2.2.2.2.2.2.2.2.2.2.2.2.2.1, (y.1.2.2.2.2.2.2.2.2.2.2.2.2.2.2.2.2.2.2.2.2.2.2.1, (y.1.2.2.2.2.2.2.2.2.2.2.2.2.2.2.2.2.2.2.2.2.2.2.2.1, (y.1.2.2.2.2.2.2.2.2.2.2.2.2.2.2.2.2.2.2.2.2.2.2.2.2.1, (y.1.2.2.2.2.2.2.2.2.2.2.2.2.2.2.2.2.2.2.2.2.2.2.2.2.2.1, (y.1.2.2.2.2.2.2.2.2.2.2.2.2.2.2.2.2.2.2.2.2.2.2.2.2.2.2.1, (r4.1.2.1.2.2.2.2.2.2.1, (r4.1.2.1.2.2.2.2.2.2.2.1, (y.1.2.2.2.2.2.2.2.2.2.2.2.2.2.2.2.2.2.2.2.2.2.2.2.2.2.2.2.2.2.1, (r4.1.2.1.2.2.2.2.2.2.2.2.2.1, (r4.1.2.1.2.2.2.2.2.2.2.2.2.2.1, (y.1.2.2.2.2.2.2.2.2.2.2.2.2.2.2.2.2.2.2.2.2.2.2.2.2.2.2.2.2.2.2.2.2.1, (y.1.2.2.2.2.2.2.2.2.2.2.2.2.2.2.2.2.2.2.2.2.2.2.2.2.2.2.2.2.2.2.2.2.2.1, (y.1.2.2.2.2.2.2.2.2.2.2.2.2.2.2.2.2.2.2.2.2.2.2.2.2.2.2.2.2.2.2.2.2.2.2.1, (y.1.2.2.2.2.2.2.2.2.2.2.2.2.2.2.2.2.2.2.2.2.2.2.2.2.2.2.2.2.2.2.2.2.2.2.2.1, (y.1.2.2.2.2.2.2.2.2.2.2.2.2.2.2.2.2.2.2.2.2.2.2.2.2.2.2.2.2.2.2.2.2.2.2.2.2.1, (y.1.2.2.2.2.2.2.2.2.2.2.2.2.2.2.2.2.2.2.2.2.2.2.2.2.2.2.2.2.2.2.2.2.2.2.2.2.2.1, (y.1.2.2.2.2.2.2.2.2.2.2.2.2.2.2.2.2.2.2.2.2.2.2.2.2.2.2.2.2.2.2.2.2.2.2.2.2.2.2.1, (y.1.2.2.2.2.2.2.2.2.2.2.2.2.2.2.2.2.2.2.2.2.2.2.2.2.2.2.2.2.2.2.2.2.2.2.2.2.2.2.2.1, r5.1.2.1.2.2.2.2.2.2.2.2)))))))))))))))))))))))))))))))))))))))), ())), ())
noncomputable def E10 (c47 : PTup i47 → Option (PTup o47 × BTup i47)) (c48 : PTup i48 → Option (PTup o48 × BTup i48)) (c49 : PTup i49 → Option (PTup o49 × BTup i49)) (c50 : PTup i50 → Option (PTup o50 × BTup i50)) (c51 : PTup i51 → Option (PTup o51 × BTup i51))  : CEnv := ⟨⟨Go.Proofs.Tryz.prog, fnsL [(47, ⟨i47, o47, c47, .inp⟩), (48, ⟨i48, o48, c48, .inp⟩), (49, ⟨i49, o49, c49, .inp⟩), (50, ⟨i50, o50, c50, .inp⟩), (51, ⟨i51, o51, c51, .inp⟩)]⟩, loopsL []⟩
theorem s10 (c47 : PTup i47 → Option (PTup o47 × BTup i47)) (c48 : PTup i48 → Option (PTup o48 × BTup i48)) (c49 : PTup i49 → Option (PTup o49 × BTup i49)) (c50 : PTup i50 → Option (PTup o50 × BTup i50)) (c51 : PTup i51 → Option (PTup o51 × BTup i51))  (y) : tevM (E10 c47 c48 c49 c50 c51 ) Go.Proofs.Tryz.f10 i10 o10 y = m10 c47 c48 c49 c50 c51  y := by kernel_rfl
noncomputable def r10 : PTup i10 → Option (PTup o10 × BTup i10) := m10 r47 r48 r49 r50 r51 
theorem k10 : CallOk Go.Proofs.Tryz.prog 10 ⟨i10, o10, r10, .inp⟩ := by
  have hE : ∀ g f, (E10 r47 r48 r49 r50 r51 ).env.fns g = some f → CallOk Go.Proofs.Tryz.prog g f := fnsL_ok ⟨k47, k48, k49, k50, k51, trivial⟩
  exact fnM_ok (E := E10 r47 r48 r49 r50 r51 ) rfl hE mixed (by kernel_rfl) (by kernel_rfl) (AllLoops.of_list (l := []) (by kernel_rfl) trivial) (s10 r47 r48 r49 r50 r51 )
/- loop.example/g00231/laws.markObs -/
@[reducible] def i53 : List Ty := [.a [.sl true .n, .sl true .i, .sl true .i], .v (.int .i64)]
@[reducible] def o53 : List Ty := [.v (.int .i64), .a [.sl true .n, .sl true .i, .sl true .i]]
noncomputable def m53 (c48 : PTup i48 → Option (PTup o48 × BTup i48)) (c92 : PTup i92 → Option (PTup o92 × BTup i92))  (y : PTup i53) : Option (PTup o53 × BTup i53) :=
  (c92 (y.1.1, y.2)).bind fun r0 =>
  (c48 (y.1.2.1, (r0.1.1, ()))).bind fun r1 =>
  (c48 (y.1.2.2.1, (r1.1.1, ()))).bind fun r2 =>
  some ((r2.1.1, ((r0.1.2.1, (r1.1.2.1, r2.1.2)), ())), ())
noncomputable def E53 (c48 : PTup i48 → Option (PTup o48 × BTup i48)) (c92 : PTup i92 → Option (PTup o92 × BTup i92))  : CEnv := ⟨⟨Go.Proofs.Tryz.prog, fnsL [(48, ⟨i48, o48, c48, .inp⟩), (92, ⟨i92, o92, c92, .inp⟩)]⟩, loopsL []⟩
theorem s53 (c48 : PTup i48 → Option (PTup o48 × BTup i48)) (c92 : PTup i92 → Option (PTup o92 × BTup i92))  (y) : tevM (E53 c48 c92 ) Go.Proofs.Tryz.f53 i53 o53 y = m53 c48 c92  y := by kernel_rfl
noncomputable def r53 : PTup i53 → Option (PTup o53 × BTup i53) := m53 r48 r92 
theorem k53 : CallOk Go.Proofs.Tryz.prog 53 ⟨i53, o53, r53, .inp⟩ := by
  have hE : ∀ g f, (E53 r48 r92 ).env.fns g = some f → CallOk Go.Proofs.Tryz.prog g f := fnsL_ok ⟨k48, k92, trivial⟩
  exact fnM_ok (E := E53 r48 r92 ) rfl hE mixed (by kernel_rfl) (by kernel_rfl) (AllLoops.of_list (l := []) (by kernel_rfl) trivial) (s53 r48 r92 )
/- loop.example/g00231/laws.markLock -/
@[reducible] def i11 : List Ty := [.a [.sl true .n, .sl true .i, .sl true .i, .int .i64, .int .i64, .int .i64, .int .i64, .int .i64, .bool, .bool, .bool, .bool, .int .i64, .int .i64, .int .i64, .int .i64, .int .i64, .bool, .sl true .i, .sl true .i, .int .i64, .int .i64, .int .i64, .int .i64, .int .i64, .bool, .bool, .bool, .int .i64, .bool, .int .i64, .sl true .n, .sl true .i, .sl true .i], .v (.int .i64)]
@[reducible] def o11 : List Ty := [.v (.int .i64), .a [.sl true .n, .sl true .i, .sl true .i, .int .i64, .int .i64, .int .i64, .int .i64, .int .i64, .bool, .bool, .bool, .bool, .int .i64, .int .i64, .int .i64, .int .i64, .int .i64, .bool, .sl true .i, .sl true .i, .int .i64, .int .i64, .int .i64, .int .i64, .int .i64, .bool, .bool, .bool, .int .i64, .bool, .int .i64, .sl true .n, .sl true .i, .sl true .i]]
noncomputable def m11 (c47 : PTup i47 → Option (PTup o47 × BTup i47)) (c48 : PTup i48 → Option (PTup o48 × BTup i48)) (c49 : PTup i49 → Option (PTup o49 × BTup i49)) (c53 : PTup i53 → Option (PTup o53 × BTup i53)) (c52 : PTup i52 → Option (PTup o52 × BTup i52))  (y : PTup i11) : Option (PTup o11 × BTup i11) :=
  (c47 ((y.1.1, ()), y.2)).bind fun r0 =>
  (c48 (y.1.2.1, (r0.1.1, ()))).bind fun r1 =>
  (c49 ((y.1.2.2.1, (y.1.2.2.2.1, ())), (r1.1.1, ()))).bind fun r2 =>
  (c52 ((y.1.2.2.2.2.2.2.2.2.2.2.2.2.1, (y.1.2.2.2.2.2.2.2.2.2.2.2.2.2.1, (y.1.2.2.2.2.2.2.2.2.2.2.2.2.2.2.1, (y.1.2.2.2.2.2.2.2.2.2.2.2.2.2.2.2.1, (y.1.2.2.2.2.2.2.2.2.2.2.2.2.2.2.2.2.1, (y.1.2.2.2.2.2.2.2.2.2.2.2.2.2.2.2.2.2.1, (y.1.2.2.2.2.2.2.2.2.2.2.2.2.2.2.2.2.2.2.1, (y.1.2.2.2.2.2.2.2.2.2.2.2.2.2.2.2.2.2.2.2.1, ())))))))), (r2.1.1, ()))).bind fun r3 =>
  (c53 (y.1.2.2.2.2.2.2.2.2.2.2.2.2.2.2.2.2.2.2.2.2.2.2.2.2.2.2.2.2.2.2.2, (r3.1.1, ()))).bind fun r4 =>
  some ((r4.1.1, ((r0.1.2.1.1, (r1.1.2.1, (r2.1.2.1.1, (y.1.2.2.2.1, (y.1.2.2.2.2.1, (y.1.2.2.2.2.2.1, (y.1.2.2.2.2.2.2.1, (y.1.2.2.2.2.2.2.2.1, (y.1.2.2.2.2.2.2.2.2.1, (y.1.2.2.2.2.2.2.2.2.2.1, (y.1.2.2.2.2.2.2.2.2.2.2.1, (y.1.2.2.2.2.2.2.2.2.2.2.2.1, (y.1.2.2.2.2.2.2.2.2.2.2.2.2.1, (y.1.2.2.2.2.2.2.2.2.2.2.2.2.2.1, (y.1.2.2.2.2.2.2.2.2.2.2.2.2.2.2.1, (y.1.2.2.2.2.2.2.2.2.2.2.2.2.2.2.2.1, (y.1.2.2.2.2.2.2.2.2.2.2.2.2.2.2.2.2.1, (y.1.2.2.2.2.2.2.2.2.2.2.2.2.2.2.2.2.2.1, (r3.1.2.1.2.2.2.2.2.2.1, (r3.1.2.1.2.2.2.2.2.2.2.1, (y.1.2.2.2.2.2.2.2.2.2.2.2.2.2.2.2.2.2.2.2.2.1, (y.1.2.2.2.2.2.2.2.2.2.2.2.2.2.2.2.2.2.2.2.2.2.1, (y.1.2.2.2.2.2.2.2.2.2.2.2.2.2.2.2.2.2.2.2.2.2.2.1, (y.1.2.2.2.2.2.2.2.2.2.2.2.2.2.2.2.2.2.2.2.2.2.2.2.1, (y.1.2.2.2.2.2.2.2.2.2.2.2.2.2.2.2.2.2.2.2.2.2.2.2.2.1, (y.1.2.2.2.2.2.2.2.2.2.2.2.2.2.2.2.2.2.2.2.2.2.2.2.2.2.1, (y.1.2.2.2.2.2.2.2.2.2.2.2.2.2.2.2.2.2.2.2.2.2.2.2.2.2.2.1, (y.1.2.2.2.2.2.2.2.2.2.2.2.2.2.2.2.2.2.2.2.2.2.2.2.2.2.2.2.1, (y.1.2.2.2.2.2.2.2.2.2.2.2.2.2.2.2.2.2.2.2.2.2.2.2.2.2.2.2.2.1, (y.1.2.2.2.2.2.2.2.2.2.2.2.2.2.2.2.2.2.2.2.2.2.2.2.2.2.2.2.2.2.1, (y.1.2.2.2.2.2.2.2.2.2.2.2.2.2.2.2.2.2.2.2.2.2.2.2.2.2.2.2.2.2.2.1, r4.1.2.1))))))))))))))))))))))))))))))), ())), ())
noncomputable def E11 (c47 : PTup i47 → Option (PTup o47 × BTup i47)) (c48 : PTup i48 → Option (PTup o48 × BTup i48)) (c49 : PTup i49 → Option (PTup o49 × BTup i49)) (c53 : PTup i53 → Option (PTup o53 × BTup i53)) (c52 : PTup i52 → Option (PTup o52 × BTup i52))  : CEnv := ⟨⟨Go.Proofs.Tryz.prog, fnsL [(47, ⟨i47, o47, c47, .inp⟩), (48, ⟨i48, o48, c48, .inp⟩), (49, ⟨i49, o49, c49, .inp⟩), (53, ⟨i53, o53, c53, .inp⟩), (52, ⟨i52, o52, c52, .inp⟩)]⟩, loopsL []⟩
theorem s11 (c47 : PTup i47 → Option (PTup o47 × BTup i47)) (c48 : PTup i48 → Option (PTup o48 × BTup i48)) (c49 : PTup i49 → Option (PTup o49 × BTup i49)) (c53 : PTup i53 → Option (PTup o53 × BTup i53)) (c52 : PTup i52 → Option (PTup o52 × BTup i52))  (y) : tevM (E11 c47 c48 c49 c53 c52 ) Go.Proofs.Tryz.f11 i11 o11 y = m11 c47 c48 c49 c53 c52  y := by kernel_rfl
noncomputable def r11 : PTup i11 → Option (PTup o11 × BTup i11) := m11 r47 r48 r49 r53 r52 
theorem k11 : CallOk Go.Proofs.Tryz.prog 11 ⟨i11, o11, r11, .inp⟩ := by
  have hE : ∀ g f, (E11 r47 r48 r49 r53 r52 ).env.fns g = some f → CallOk Go.Proofs.Tryz.prog g f := fnsL_ok ⟨k47, k48, k49, k53, k52, trivial⟩
  exact fnM_ok (E := E11 r47 r48 r49 r53 r52 ) rfl hE mixed (by kernel_rfl) (by kernel_rfl) (AllLoops.of_list (l := []) (by kernel_rfl) trivial) (s11 r47 r48 r49 r53 r52 )
/- loop.example/g00231/laws.heldIntS -/
@[reducible] def i55 : List Ty := [.v (.sl false .i), .v (.int .i64)]
@[reducible] def o55 : List Ty := [.v (.int .i64)]
@[reducible] def lc55_0 : List Ty := [.v (.sl false .i)]
@[reducible] def lb55_0 : List Ty := []
@[reducible] def lv55_0 : List Ty := [.v (.int .i64), .v (.int .i64)]
@[reducible] def lr55_0 : List Ty := [.v (.int .i64)]
noncomputable def w55_0   (again : PTup lb55_0 → PTup lv55_0 → Option (Sum (PTup lv55_0) (PTup lr55_0) × BTup lb55_0)) (x : PTup lc55_0) (y : PTup lb55_0) (z : PTup lv55_0) : Option (Sum (PTup lv55_0) (PTup lr55_0) × BTup lb55_0) :=
  bif (ltI z.2.1 (lenI x.1)) then (bif (leI (0 : Int) z.2.1) then (bif (ltI z.2.1 (lenI x.1)) then (bif (neI (rdE .i x.1 z.2.1) z.1) then (some ((Sum.inr ((-(1 : Int)), ())), ()))
     else again () ((wI (z.1 + (1 : Int))), ((wI (z.2.1 + (1 : Int))), ())))
    else none)
   else none)
  else some ((Sum.inl z), ())
noncomputable def e55_0 (l : PTup lc55_0 → PTup lb55_0 → PTup lv55_0 → Option (Sum (PTup lv55_0) (PTup lr55_0) × BTup lb55_0)) : LoopE := ⟨[0], lc55_0, [], lb55_0, [1, 5], lv55_0, [4], lr55_0, 0, l⟩
noncomputable def m55  (l0 : PTup lc55_0 → PTup lb55_0 → PTup lv55_0 → Option (Sum (PTup lv55_0) (PTup lr55_0) × BTup lb55_0)) (y : PTup i55) : Option (PTup o55 × BTup i55) :=
  (l0 (y.1, ()) () (y.2.1, ((0 : Int), ()))).bind fun r0 =>
  sumElim r0.1 (fun r1 => some ((r1.1, ()), ()))
  (fun r1 => some (r1, ()))
noncomputable def E55  (l0 : PTup lc55_0 → PTup lb55_0 → PTup lv55_0 → Option (Sum (PTup lv55_0) (PTup lr55_0) × BTup lb55_0)) : CEnv := ⟨⟨Go.Proofs.Tryz.prog, fnsL []⟩, loopsL [(2, e55_0 l0)]⟩
theorem t55_0  (l0 : PTup lc55_0 → PTup lb55_0 → PTup lv55_0 → Option (Sum (PTup lv55_0) (PTup lr55_0) × BTup lb55_0)) (again) (x y z) : loopRound (E55  l0) (loopAt (bodyOf Go.Proofs.Tryz.f55) 0) (e55_0 l0) Go.Proofs.Tryz.f55.ntmps again x y z = w55_0   again x y z := by kernel_rfl
noncomputable def n55_0   : Nat → PTup lc55_0 → PTup lb55_0 → PTup lv55_0 → Option (Sum (PTup lv55_0) (PTup lr55_0) × BTup lb55_0)
  | 0, _, _, _ => none
  | n + 1, x, y, z => w55_0   (fun y z => n55_0   n x y z) x y z
theorem s55  (l0 : PTup lc55_0 → PTup lb55_0 → PTup lv55_0 → Option (Sum (PTup lv55_0) (PTup lr55_0) × BTup lb55_0)) (y) : tevF (E55  l0) Go.Proofs.Tryz.f55 i55 o55 y = m55  l0 y := by kernel_rfl
noncomputable def L55_0 : PTup lc55_0 → PTup lb55_0 → PTup lv55_0 → Option (Sum (PTup lv55_0) (PTup lr55_0) × BTup lb55_0) := n55_0   fuel
noncomputable def r55 : PTup i55 → Option (PTup o55 × BTup i55) := m55  L55_0
theorem k55 : CallOk Go.Proofs.Tryz.prog 55 ⟨i55, o55, r55, .nor⟩ := by
  have hE : ∀ g f, (E55  L55_0).env.fns g = some f → CallOk Go.Proofs.Tryz.prog g f := fnsL_ok trivial
  have h0 : LoopOk Go.Proofs.Tryz.prog Go.Proofs.Tryz.f55.ntmps (loopAt (bodyOf Go.Proofs.Tryz.f55) 0) (e55_0 L55_0) := lp_ok (E := E55  L55_0) rfl hE mixed (AllLoops.of_list (l := []) (by kernel_rfl) trivial) (n55_0  ) (fun _ _ _ => rfl) (fun n x y z => t55_0  L55_0 _ x y z) rfl
  exact fn_ok (E := E55  L55_0) rfl hE mixed (by kernel_rfl) (by kernel_rfl) (AllLoops.of_list (l := [(loopAt (bodyOf Go.Proofs.Tryz.f55) 0)]) (by kernel_rfl) (.one (by kernel_rfl) h0 trivial)) (s55  L55_0)
/- loop.example/g00231/laws.heldIntSS -/
@[reducible] def i94 : List Ty := [.v (.sl false .n), .v (.int .i64)]
@[reducible] def o94 : List Ty := [.v (.int .i64)]
@[reducible] def lc94_0 : List Ty := [.v (.sl false .n)]
@[reducible] def lb94_0 : List Ty := []
@[reducible] def lv94_0 : List Ty := [.v (.int .i64), .v (.int .i64)]
@[reducible] def lr94_0 : List Ty := [.v (.int .i64)]
noncomputable def w94_0 (c55 : PTup i55 → Option (PTup o55 × BTup i55))  (again : PTup lb94_0 → PTup lv94_0 → Option (Sum (PTup lv94_0) (PTup lr94_0) × BTup lb94_0)) (x : PTup lc94_0) (y : PTup lb94_0) (z : PTup lv94_0) : Option (Sum (PTup lv94_0) (PTup lr94_0) × BTup lb94_0) :=
  bif (ltI z.2.1 (lenI x.1)) then (bif (leI (0 : Int) z.2.1) then (bif (ltI z.2.1 (lenI x.1)) then ((c55 ((rdE .n x.1 z.2.1), (z.1, ()))).bind fun r0 =>
     bif (ltI r0.1.1 (0 : Int)) then (some ((Sum.inr ((-(1 : Int)), ())), ()))
     else again () (r0.1.1, ((wI (z.2.1 + (1 : Int))), ())))
    else none)
   else none)
  else some ((Sum.inl z), ())
noncomputable def e94_0 (l : PTup lc94_0 → PTup lb94_0 → PTup lv94_0 → Option (Sum (PTup lv94_0) (PTup lr94_0) × BTup lb94_0)) : LoopE := ⟨[0], lc94_0, [], lb94_0, [1, 5], lv94_0, [4], lr94_0, 0, l⟩
noncomputable def m94 (c55 : PTup i55 → Option (PTup o55 × BTup i55)) (l0 : PTup lc94_0 → PTup lb94_0 → PTup lv94_0 → Option (Sum (PTup lv94_0) (PTup lr94_0) × BTup lb94_0)) (y : PTup i94) : Option (PTup o94 × BTup i94) :=
  (l0 (y.1, ()) () (y.2.1, ((0 : Int), ()))).bind fun r0 =>
  sumElim r0.1 (fun r1 => some ((r1.1, ()), ()))
  (fun r1 => some (r1, ()))
noncomputable def E94 (c55 : PTup i55 → Option (PTup o55 × BTup i55)) (l0 : PTup lc94_0 → PTup lb94_0 → PTup lv94_0 → Option (Sum (PTup lv94_0) (PTup lr94_0) × BTup lb94_0)) : CEnv := ⟨⟨Go.Proofs.Tryz.prog, fnsL [(55, ⟨i55, o55, c55, .nor⟩)]⟩, loopsL [(2, e94_0 l0)]⟩
theorem t94_0 (c55 : PTup i55 → Option (PTup o55 × BTup i55)) (l0 : PTup lc94_0 → PTup lb94_0 → PTup lv94_0 → Option (Sum (PTup lv94_0) (PTup lr94_0) × BTup lb94_0)) (again) (x y z) : loopRound (E94 c55 l0) (loopAt (bodyOf Go.Proofs.Tryz.f94) 0) (e94_0 l0) Go.Proofs.Tryz.f94.ntmps again x y z = w94_0 c55  again x y z := by kernel_rfl
noncomputable def n94_0 (c55 : PTup i55 → Option (PTup o55 × BTup i55))  : Nat → PTup lc94_0 → PTup lb94_0 → PTup lv94_0 → Option (Sum (PTup lv94_0) (PTup lr94_0) × BTup lb94_0)
  | 0, _, _, _ => none
  | n + 1, x, y, z => w94_0 c55  (fun y z => n94_0 c55  n x y z) x y z
theorem s94 (c55 : PTup i55 → Option (PTup o55 × BTup i55)) (l0 : PTup lc94_0 → PTup lb94_0 → PTup lv94_0 → Option (Sum (PTup lv94_0) (PTup lr94_0) × BTup lb94_0)) (y) : tevF (E94 c55 l0) Go.Proofs.Tryz.f94 i94 o94 y = m94 c55 l0 y := by kernel_rfl
noncomputable def L94_0 : PTup lc94_0 → PTup lb94_0 → PTup lv94_0 → Option (Sum (PTup lv94_0) (PTup lr94_0) × BTup lb94_0) := n94_0 r55  fuel
noncomputable def r94 : PTup i94 → Option (PTup o94 × BTup i94) := m94 r55 L94_0
theorem k94 : CallOk Go.Proofs.Tryz.prog 94 ⟨i94, o94, r94, .nor⟩ := by
  have hE : ∀ g f, (E94 r55 L94_0).env.fns g = some f → CallOk Go.Proofs.Tryz.prog g f := fnsL_ok ⟨k55, trivial⟩
  have h0 : LoopOk Go.Proofs.Tryz.prog Go.Proofs.Tryz.f94.ntmps (loopAt (bodyOf Go.Proofs.Tryz.f94) 0) (e94_0 L94_0) := lp_ok (E := E94 r55 L94_0) rfl hE mixed (AllLoops.of_list (l := []) (by kernel_rfl) trivial) (n94_0 r55 ) (fun _ _ _ => rfl) (fun n x y z => t94_0 r55 L94_0 _ x y z) rfl
  exact fn_ok (E := E94 r55 L94_0) rfl hE mixed (by kernel_rfl) (by kernel_rfl) (AllLoops.of_list (l := [(loopAt (bodyOf Go.Proofs.Tryz.f94) 0)]) (by kernel_rfl) (.one (by kernel_rfl) h0 trivial)) (s94 r55 L94_0)
/- loop.example/g00231/laws.heldImage -/
@[reducible] def i54 : List Ty := [.a [.sl false .n], .v (.int .i64)]
@[reducible] def o54 : List Ty := [.v (.int .i64)]
noncomputable def m54 (c94 : PTup i94 → Option (PTup o94 × BTup i94))  (y : PTup i54) : Option (PTup o54 × BTup i54) :=
  (c94 (y.1.1, y.2)).bind fun r0 =>
  bif (ltI r0.1.1 (0 : Int)) then (some (((-(1 : Int)), ()), ()))
  else some (r0.1, ())
noncomputable def E54 (c94 : PTup i94 → Option (PTup o94 × BTup i94))  : CEnv := ⟨⟨Go.Proofs.Tryz.prog, fnsL [(94, ⟨i94, o94, c94, .nor⟩)]⟩, loopsL []⟩
theorem s54 (c94 : PTup i94 → Option (PTup o94 × BTup i94))  (y) : tevF (E54 c94 ) Go.Proofs.Tryz.f54 i54 o54 y = m54 c94  y := by kernel_rfl
noncomputable def r54 : PTup i54 → Option (PTup o54 × BTup i54) := m54 r94 
theorem k54 : CallOk Go.Proofs.Tryz.prog 54 ⟨i54, o54, r54, .nor⟩ := by
  have hE : ∀ g f, (E54 r94 ).env.fns g = some f → CallOk Go.Proofs.Tryz.prog g f := fnsL_ok ⟨k94, trivial⟩
  exact fn_ok (E := E54 r94 ) rfl hE mixed (by kernel_rfl) (by kernel_rfl) (AllLoops.of_list (l := []) (by kernel_rfl) trivial) (s54 r94 )
/- loop.example/g00231/laws.heldMem -/
@[reducible] def i56 : List Ty := [.a [.sl false .i, .int .i64], .v (.int .i64)]
@[reducible] def o56 : List Ty := [.v (.int .i64)]
noncomputable def m56 (c55 : PTup i55 → Option (PTup o55 × BTup i55))  (y : PTup i56) : Option (PTup o56 × BTup i56) :=
  (c55 (y.1.1, y.2)).bind fun r0 =>
  bif (ltI r0.1.1 (0 : Int)) then (some (((-(1 : Int)), ()), ()))
  else some (r0.1, ())
noncomputable def E56 (c55 : PTup i55 → Option (PTup o55 × BTup i55))  : CEnv := ⟨⟨Go.Proofs.Tryz.prog, fnsL [(55, ⟨i55, o55, c55, .nor⟩)]⟩, loopsL []⟩
theorem s56 (c55 : PTup i55 → Option (PTup o55 × BTup i55))  (y) : tevF (E56 c55 ) Go.Proofs.Tryz.f56 i56 o56 y = m56 c55  y := by kernel_rfl
noncomputable def r56 : PTup i56 → Option (PTup o56 × BTup i56) := m56 r55 
theorem k56 : CallOk Go.Proofs.Tryz.prog 56 ⟨i56, o56, r56, .nor⟩ := by
  have hE : ∀ g f, (E56 r55 ).env.fns g = some f → CallOk Go.Proofs.Tryz.prog g f := fnsL_ok ⟨k55, trivial⟩
  exact fn_ok (E := E56 r55 ) rfl hE mixed (by kernel_rfl) (by kernel_rfl) (AllLoops.of_list (l := []) (by kernel_rfl) trivial) (s56 r55 )
/- loop.example/g00231/laws.heldPpu -/
@[reducible] def i57 : List Ty := [.a [.int .i64, .int .i64, .int .i64, .int .i64, .int .i64, .bool, .sl false .i, .sl false .i], .v (.int .i64)]
@[reducible] def o57 : List Ty := [.v (.int .i64)]
noncomputable def m57 (c55 : PTup i55 → Option (PTup o55 × BTup i55))  (y : PTup i57) : Option (PTup o57 × BTup i57) :=
  (c55 (y.1.2.2.2.2.2.2.1, y.2)).bind fun r0 =>
  bif (ltI r0.1.1 (0 : Int)) then (some (((-(1 : Int)), ()), ()))
  else (c55 (y.1.2.2.2.2.2.2.2.1, r0.1)).bind fun r1 =>
  bif (ltI r1.1.1 (0 : Int)) then (some (((-(1 : Int)), ()), ()))
  else some (r1.1, ())
noncomputable def E57 (c55 : PTup i55 → Option (PTup o55 × BTup i55))  : CEnv := ⟨⟨Go.Proofs.Tryz.prog, fnsL [(55, ⟨i55, o55, c55, .nor⟩)]⟩, loopsL []⟩
theorem s57 (c55 : PTup i55 → Option (PTup o55 × BTup i55))  (y) : tevF (E57 c55 ) Go.Proofs.Tryz.f57 i57 o57 y = m57 c55  y := by kernel_rfl
noncomputable def r57 : PTup i57 → Option (PTup o57 × BTup i57) := m57 r55 
theorem k57 : CallOk Go.Proofs.Tryz.prog 57 ⟨i57, o57, r57, .nor⟩ := by
  have hE : ∀ g f, (E57 r55 ).env.fns g = some f → CallOk Go.Proofs.Tryz.prog g f := fnsL_ok ⟨k55, trivial⟩
  exact fn_ok (E := E57 r55 ) rfl hE mixed (by kernel_rfl) (by kernel_rfl) (AllLoops.of_list (l := []) (by kernel_rfl) trivial) (s57 r55 )
/- loop.example/g00231/laws.heldObs -/
@[reducible] def i58 : List Ty := [.a [.sl false .n, .sl false .i, .sl false .i], .v (.int .i64)]
@[reducible] def o58 : List Ty := [.v (.int .i64)]
noncomputable def m58 (c55 : PTup i55 → Option (PTup o55 × BTup i55)) (c94 : PTup i94 → Option (PTup o94 × BTup i94))  (y : PTup i58) : Option (PTup o58 × BTup i58) :=
  (c94 (y.1.1, y.2)).bind fun r0 =>
  bif (ltI r0.1.1 (0 : Int)) then (some (((-(1 : Int)), ()), ()))
  else (c55 (y.1.2.1, r0.1)).bind fun r1 =>
  bif (ltI r1.1.1 (0 : Int)) then (some (((-(1 : Int)), ()), ()))
  else (c55 (y.1.2.2.1, r1.1)).bind fun r2 =>
  bif (ltI r2.1.1 (0 : Int)) then (some (((-(1 : Int)), ()), ()))
  else some (r2.1, ())
noncomputable def E58 (c55 : PTup i55 → Option (PTup o55 × BTup i55)) (c94 : PTup i94 → Option (PTup o94 × BTup i94))  : CEnv := ⟨⟨Go.Proofs.Tryz.prog, fnsL [(55, ⟨i55, o55, c55, .nor⟩), (94, ⟨i94, o94, c94, .nor⟩)]⟩, loopsL []⟩
theorem s58 (c55 : PTup i55 → Option (PTup o55 × BTup i55)) (c94 : PTup i94 → Option (PTup o94 × BTup i94))  (y) : tevF (E58 c55 c94 ) Go.Proofs.Tryz.f58 i58 o58 y = m58 c55 c94  y := by kernel_rfl
noncomputable def r58 : PTup i58 → Option (PTup o58 × BTup i58) := m58 r55 r94 
theorem k58 : CallOk Go.Proofs.Tryz.prog 58 ⟨i58, o58, r58, .nor⟩ := by
  have hE : ∀ g f, (E58 r55 r94 ).env.fns g = some f → CallOk Go.Proofs.Tryz.prog g f := fnsL_ok ⟨k55, k94, trivial⟩
  exact fn_ok (E := E58 r55 r94 ) rfl hE mixed (by kernel_rfl) (by kernel_rfl) (AllLoops.of_list (l := []) (by kernel_rfl) trivial) (s58 r55 r94 )
/- loop.example/g00231/laws.heldLock -/
@[reducible] def i12 : List Ty := [.a [.sl false .n, .sl false .i, .sl false .i, .int .i64, .int .i64, .int .i64, .int .i64, .int .i64, .bool, .bool, .bool, .bool, .int .i64, .int .i64, .int .i64, .int .i64, .int .i64, .bool, .sl false .i, .sl false .i, .int .i64, .int .i64, .int .i64, .int .i64, .int .i64, .bool, .bool, .bool, .int .i64, .bool, .int .i64, .sl false .n, .sl false .i, .sl false .i], .v (.int .i64)]
@[reducible] def o12 : List Ty := [.v (.int .i64)]
noncomputable def m12 (c54 : PTup i54 → Option (PTup o54 × BTup i54)) (c55 : PTup i55 → Option (PTup o55 × BTup i55)) (c56 : PTup i56 → Option (PTup o56 × BTup i56)) (c58 : PTup i58 → Option (PTup o58 × BTup i58)) (c57 : PTup i57 → Option (PTup o57 × BTup i57))  (y : PTup i12) : Option (PTup o12 × BTup i12) :=
  (c54 ((y.1.1, ()), y.2)).bind fun r0 =>
  bif (ltI r0.1.1 (0 : Int)) then (some (((-(1 : Int)), ()), ()))
  else (c55 (y.1.2.1, r0.1)).bind fun r1 =>
  bif (ltI r1.1.1 (0 : Int)) then (some (((-(1 : Int)), ()), ()))
  else (c56 ((y.1.2.2.1, (y.1.2.2.2.1, ())), r1.1)).bind fun r2 =>
  bif (ltI r2.1.1 (0 : Int)) then (some (((-(1 : Int)), ()), ()))
  else (c57 ((y.1.2.2.2.2.2.2.2.2.2.2.2.2.1, (y.1.2.2.2.2.2.2.2.2.2.2.2.2.2.1, (y.1.2.2.2.2.2.2.2.2.2.2.2.2.2.2.1, (y.1.2.2.2.2.2.2.2.2.2.2.2.2.2.2.2.1, (y.1.2.2.2.2.2.2.2.2.2.2.2.2.2.2.2.2.1, (y.1.2.2.2.2.2.2.2.2.2.2.2.2.2.2.2.2.2.1, (y.1.2.2.2.2.2.2.2.2.2.2.2.2.2.2.2.2.2.2.1, (y.1.2.2.2.2.2.2.2.2.2.2.2.2.2.2.2.2.2.2.2.1, ())))))))), r2.1)).bind fun r3 =>
  bif (ltI r3.1.1 (0 : Int)) then (some (((-(1 : Int)), ()), ()))
  else (c58 (y.1.2.2.2.2.2.2.2.2.2.2.2.2.2.2.2.2.2.2.2.2.2.2.2.2.2.2.2.2.2.2.2, r3.1)).bind fun r4 =>
  bif (ltI r4.1.1 (0 : Int)) then (some (((-(1 : Int)), ()), ()))
  else some (r4.1, ())
noncomputable def E12 (c54 : PTup i54 → Option (PTup o54 × BTup i54)) (c55 : PTup i55 → Option (PTup o55 × BTup i55)) (c56 : PTup i56 → Option (PTup o56 × BTup i56)) (c58 : PTup i58 → Option (PTup o58 × BTup i58)) (c57 : PTup i57 → Option (PTup o57 × BTup i57))  : CEnv := ⟨⟨Go.Proofs.Tryz.prog, fnsL [(54, ⟨i54, o54, c54, .nor⟩), (55, ⟨i55, o55, c55, .nor⟩), (56, ⟨i56, o56, c56, .nor⟩), (58, ⟨i58, o58, c58, .nor⟩), (57, ⟨i57, o57, c57, .nor⟩)]⟩, loopsL []⟩
theorem s12 (c54 : PTup i54 → Option (PTup o54 × BTup i54)) (c55 : PTup i55 → Option (PTup o55 × BTup i55)) (c56 : PTup i56 → Option (PTup o56 × BTup i56)) (c58 : PTup i58 → Option (PTup o58 × BTup i58)) (c57 : PTup i57 → Option (PTup o57 × BTup i57))  (y) : tevF (E12 c54 c55 c56 c58 c57 ) Go.Proofs.Tryz.f12 i12 o12 y = m12 c54 c55 c56 c58 c57  y := by kernel_rfl
noncomputable def r12 : PTup i12 → Option (PTup o12 × BTup i12) := m12 r54 r55 r56 r58 r57 
theorem k12 : CallOk Go.Proofs.Tryz.prog 12 ⟨i12, o12, r12, .nor⟩ := by
  have hE : ∀ g f, (E12 r54 r55 r56 r58 r57 ).env.fns g = some f → CallOk Go.Proofs.Tryz.prog g f := fnsL_ok ⟨k54, k55, k56, k58, k57, trivial⟩
  exact fn_ok (E := E12 r54 r55 r56 r58 r57 ) rfl hE mixed (by kernel_rfl) (by kernel_rfl) (AllLoops.of_list (l := []) (by kernel_rfl) trivial) (s12 r54 r55 r56 r58 r57 )
/- loop.example/g00231/laws.FnExactAsLock -/
@[reducible] def i3 : List Ty := [.a [.sl false .n, .sl false .i, .sl false .i, .int .i64, .int .i64, .int .i64, .int .i64, .int .i64, .bool, .bool, .bool, .bool, .bool, .int .i64, .int .i64, .bool, .int .i64, .bool, .int .i64, .int .i64, .sl false .i, .int .i64, .int .i64, .int .i64, .int .i64, .int .i64, .bool, .sl false .i, .sl false .i, .int .i64, .sl false .t, .sl false .n, .int .i64, .int .i64, .int .i64, .int .i64, .int .i64, .bool, .bool, .int .i64, .sl false .t, .sl false .i]]
@[reducible] def o3 : List Ty := [.v (.bool)]
noncomputable def m3 (c7 : PTup i7 → Option (PTup o7 × BTup i7)) (c8 : PTup i8 → Option (PTup o8 × BTup i8)) (c9 : PTup i9 → Option (PTup o9 × BTup i9)) (c12 : PTup i12 → Option (PTup o12 × BTup i12)) (c11 : PTup i11 → Option (PTup o11 × BTup i11)) (c10 : PTup i10 → Option (PTup o10 × BTup i10)) (c4 : PTup i4 → Option (PTup o4 × BTup i4)) (c6 : PTup i6 → Option (PTup o6 × BTup i6)) (c5 : PTup i5 → Option (PTup o5 × BTup i5))  (y : PTup i3) : Option (PTup o3 × BTup i3) :=
  (c4 (y.1, ((1048576 : Int), ()))).bind fun r0 =>
  bif (ltI r0.1.1 (0 : Int)) then (some ((true, ()), ()))
  else (c6 (y.1, ())).bind fun r1 =>
  (c5 (r1.1.1, ())).bind fun r2 =>
  (c6 (y.1, ())).bind fun r3 =>
  (c7 (r3.1.1, ())).bind fun r4 =>
  (c8 (r4.1.1, (r2.1.1, ()))).bind fun r5 =>
  bif (!r5.1.1) then (some ((false, ()), ()))
  else (c6 (y.1, ())).bind fun r6 =>
  (c9 (r3.1.1, (r6.1.1, ()))).bind fun r7 =>
  bif (!r7.1.1) then (some ((false, ()), ()))
  else (c10 (r3.1.1, ((1 : Int), ()))).bind fun r8 =>
  bif (ltI r8.1.1 (0 : Int)) then (some ((false, ()), ()))
  else (c8 (r4.1.1, (r2.1.1, ()))).bind fun r9 =>
  bif (!r9.1.1) then (some ((false, ()), ()))
  else (c11 (r4.1.1, ((1 : Int), ()))).bind fun r10 =>
  (c12 ((r10.1.2.1.1, (r10.1.2.1.2.1, (r10.1.2.1.2.2.1, (r4.1.1.2.2.2.1, (r4.1.1.2.2.2.2.1, (r4.1.1.2.2.2.2.2.1, (r4.1.1.2.2.2.2.2.2.1, (r4.1.1.2.2.2.2.2.2.2.1, (r4.1.1.2.2.2.2.2.2.2.2.1, (r4.1.1.2.2.2.2.2.2.2.2.2.1, (r4.1.1.2.2.2.2.2.2.2.2.2.2.1, (r4.1.1.2.2.2.2.2.2.2.2.2.2.2.1, (r4.1.1.2.2.2.2.2.2.2.2.2.2.2.2.1, (r4.1.1.2.2.2.2.2.2.2.2.2.2.2.2.2.1, (r4.1.1.2.2.2.2.2.2.2.2.2.2.2.2.2.2.1, (r4.1.1.2.2.2.2.2.2.2.2.2.2.2.2.2.2.2.1, (r4.1.1.2.2.2.2.2.2.2.2.2.2.2.2.2.2.2.2.1, (r4.1.1.2.2.2.2.2.2.2.2.2.2.2.2.2.2.2.2.2.1, (r10.1.2.1.2.2.2.2.2.2.2.2.2.2.2.2.2.2.2.2.2.2.1, (r10.1.2.1.2.2.2.2.2.2.2.2.2.2.2.2.2.2.2.2.2.2.2.1, (r4.1.1.2.2.2.2.2.2.2.2.2.2.2.2.2.2.2.2.2.2.2.2.1, (r4.1.1.2.2.2.2.2.2.2.2.2.2.2.2.2.2.2.2.2.2.2.2.2.1, (r4.1.1.2.2.2.2.2.2.2.2.2.2.2.2.2.2.2.2.2.2.2.2.2.2.1, (r4.1.1.2.2.2.2.2.2.2.2.2.2.2.2.2.2.2.2.2.2.2.2.2.2.2.1, (r4.1.1.2.2.2.2.2.2.2.2.2.2.2.2.2.2.2.2.2.2.2.2.2.2.2.2.1, (r4.1.1.2.2.2.2.2.2.2.2.2.2.2.2.2.2.2.2.2.2.2.2.2.2.2.2.2.1, (r4.1.1.2.2.2.2.2.2.2.2.2.2.2.2.2.2.2.2.2.2.2.2.2.2.2.2.2.2.1, (r4.1.1.2.2.2.2.2.2.2.2.2.2.2.2.2.2.2.2.2.2.2.2.2.2.2.2.2.2.2.1, (r4.1.1.2.2.2.2.2.2.2.2.2.2.2.2.2.2.2.2.2.2.2.2.2.2.2.2.2.2.2.2.1, (r4.1.1.2.2.2.2.2.2.2.2.2.2.2.2.2.2.2.2.2.2.2.2.2.2.2.2.2.2.2.2.2.1, (r4.1.1.2.2.2.2.2.2.2.2.2.2.2.2.2.2.2.2.2.2.2.2.2.2.2.2.2.2.2.2.2.2.1, r10.1.2.1.2.2.2.2.2.2.2.2.2.2.2.2.2.2.2.2.2.2.2.2.2.2.2.2.2.2.2.2.2.2.2))))))))))))))))))))))))))))))), ((1 : Int), ()))).bind fun r11 =>
  bif (ltI r11.1.1 (0 : Int)) then (some ((false, ()), ()))
  else bif (neI r11.1.1 r10.1.1) then (some ((false, ()), ()))
  else (c6 (y.1, ())).bind fun r12 =>
  (c7 (r12.1.1, ())).bind fun r13 =>
  (c8 (r13.1.1, (r2.1.1, ()))).bind fun r14 =>
  bif (!r14.1.1) then (some ((false, ()), ()))
  else (c12 ((r10.1.2.1.1, (r10.1.2.1.2.1, (r10.1.2.1.2.2.1, (r4.1.1.2.2.2.1, (r4.1.1.2.2.2.2.1, (r4.1.1.2.2.2.2.2.1, (r4.1.1.2.2.2.2.2.2.1, (r4.1.1.2.2.2.2.2.2.2.1, (r4.1.1.2.2.2.2.2.2.2.2.1, (r4.1.1.2.2.2.2.2.2.2.2.2.1, (r4.1.1.2.2.2.2.2.2.2.2.2.2.1, (r4.1.1.2.2.2.2.2.2.2.2.2.2.2.1, (r4.1.1.2.2.2.2.2.2.2.2.2.2.2.2.1, (r4.1.1.2.2.2.2.2.2.2.2.2.2.2.2.2.1, (r4.1.1.2.2.2.2.2.2.2.2.2.2.2.2.2.2.1, (r4.1.1.2.2.2.2.2.2.2.2.2.2.2.2.2.2.2.1, (r4.1.1.2.2.2.2.2.2.2.2.2.2.2.2.2.2.2.2.1, (r4.1.1.2.2.2.2.2.2.2.2.2.2.2.2.2.2.2.2.2.1, (r10.1.2.1.2.2.2.2.2.2.2.2.2.2.2.2.2.2.2.2.2.2.1, (r10.1.2.1.2.2.2.2.2.2.2.2.2.2.2.2.2.2.2.2.2.2.2.1, (r4.1.1.2.2.2.2.2.2.2.2.2.2.2.2.2.2.2.2.2.2.2.2.1, (r4.1.1.2.2.2.2.2.2.2.2.2.2.2.2.2.2.2.2.2.2.2.2.2.1, (r4.1.1.2.2.2.2.2.2.2.2.2.2.2.2.2.2.2.2.2.2.2.2.2.2.1, (r4.1.1.2.2.2.2.2.2.2.2.2.2.2.2.2.2.2.2.2.2.2.2.2.2.2.1, (r4.1.1.2.2.2.2.2.2.2.2.2.2.2.2.2.2.2.2.2.2.2.2.2.2.2.2.1, (r4.1.1.2.2.2.2.2.2.2.2.2.2.2.2.2.2.2.2.2.2.2.2.2.2.2.2.2.1, (r4.1.1.2.2.2.2.2.2.2.2.2.2.2.2.2.2.2.2.2.2.2.2.2.2.2.2.2.2.1, (r4.1.1.2.2.2.2.2.2.2.2.2.2.2.2.2.2.2.2.2.2.2.2.2.2.2.2.2.2.2.1, (r4.1.1.2.2.2.2.2.2.2.2.2.2.2.2.2.2.2.2.2.2.2.2.2.2.2.2.2.2.2.2.1, (r4.1.1.2.2.2.2.2.2.2.2.2.2.2.2.2.2.2.2.2.2.2.2.2.2.2.2.2.2.2.2.2.1, (r4.1.1.2.2.2.2.2.2.2.2.2.2.2.2.2.2.2.2.2.2.2.2.2.2.2.2.2.2.2.2.2.2.1, r10.1.2.1.2.2.2.2.2.2.2.2.2.2.2.2.2.2.2.2.2.2.2.2.2.2.2.2.2.2.2.2.2.2.2))))))))))))))))))))))))))))))), ((1 : Int), ()))).bind fun r15 =>
  bif (ltI r15.1.1 (0 : Int)) then (some ((false, ()), ()))
  else bif (neI r15.1.1 r10.1.1) then (some ((false, ()), ()))
  else some ((true, ()), ())
noncomputable def E3 (c7 : PTup i7 → Option (PTup o7 × BTup i7)) (c8 : PTup i8 → Option (PTup o8 × BTup i8)) (c9 : PTup i9 → Option (PTup o9 × BTup i9)) (c12 : PTup i12 → Option (PTup o12 × BTup i12)) (c11 : PTup i11 → Option (PTup o11 × BTup i11)) (c10 : PTup i10 → Option (PTup o10 × BTup i10)) (c4 : PTup i4 → Option (PTup o4 × BTup i4)) (c6 : PTup i6 → Option (PTup o6 × BTup i6)) (c5 : PTup i5 → Option (PTup o5 × BTup i5))  : CEnv := ⟨⟨Go.Proofs.Tryz.prog, fnsL [(7, ⟨i7, o7, c7, .nor⟩), (8, ⟨i8, o8, c8, .nor⟩), (9, ⟨i9, o9, c9, .nor⟩), (12, ⟨i12, o12, c12, .nor⟩), (11, ⟨i11, o11, c11, .inp⟩), (10, ⟨i10, o10, c10, .inp⟩), (4, ⟨i4, o4, c4, .nor⟩), (6, ⟨i6, o6, c6, .nor⟩), (5, ⟨i5, o5, c5, .nor⟩)]⟩, loopsL []⟩
theorem s3 (c7 : PTup i7 → Option (PTup o7 × BTup i7)) (c8 : PTup i8 → Option (PTup o8 × BTup i8)) (c9 : PTup i9 → Option (PTup o9 × BTup i9)) (c12 : PTup i12 → Option (PTup o12 × BTup i12)) (c11 : PTup i11 → Option (PTup o11 × BTup i11)) (c10 : PTup i10 → Option (PTup o10 × BTup i10)) (c4 : PTup i4 → Option (PTup o4 × BTup i4)) (c6 : PTup i6 → Option (PTup o6 × BTup i6)) (c5 : PTup i5 → Option (PTup o5 × BTup i5))  (y) : tevF (E3 c7 c8 c9 c12 c11 c10 c4 c6 c5 ) Go.Proofs.Tryz.f3 i3 o3 y = m3 c7 c8 c9 c12 c11 c10 c4 c6 c5  y := by kernel_rfl
noncomputable def r3 : PTup i3 → Option (PTup o3 × BTup i3) := m3 r7 r8 r9 r12 r11 r10 r4 r6 r5 
theorem k3 : CallOk Go.Proofs.Tryz.prog 3 ⟨i3, o3, r3, .nor⟩ := by
  have hE : ∀ g f, (E3 r7 r8 r9 r12 r11 r10 r4 r6 r5 ).env.fns g = some f → CallOk Go.Proofs.Tryz.prog g f := fnsL_ok ⟨k7, k8, k9, k12, k11, k10, k4, k6, k5, trivial⟩
  exact fn_ok (E := E3 r7 r8 r9 r12 r11 r10 r4 r6 r5 ) rfl hE mixed (by kernel_rfl) (by kernel_rfl) (AllLoops.of_list (l := []) (by kernel_rfl) trivial) (s3 r7 r8 r9 r12 r11 r10 r4 r6 r5 )
end Go.Proofs.YtfafepmjpphfeaaGreat.Plain
