/- Plain functions that the program's functions answer as; their contracts. Printed by a program of the proofs' writer. No condition. -/
import Derived.Test.YtanoofbkhddokaaGreatUf
import Derived.KernelRfl
import Derived.Test.YtanoofbkhddokaaGreatFn1
set_option linter.unusedVariables false
set_option linter.unusedSimpArgs false
set_option maxRecDepth 100000
namespace Go.Proofs.YtanoofbkhddokaaGreat.Plain
open Go Go.Tev
@[reducible] def i121 : List Ty := [.a q6]
@[reducible] def o121 : List Ty := [.v (.bool)]
abbrev R121 := Option (PTup o121 × BTup i121)
abbrev F121 := PTup i121 → R121
abbrev g121 (c : F121) : Nat × Tev.Fn := (121, ⟨i121, o121, c, .nor⟩)
noncomputable def m121 (c59 : F59)  (y : PTup i121) : Option (PTup o121 × BTup i121) :=
  (c59 (y.1, ())).bind fun r0 =>
  bif r0.1.1 then (some (((leI y.1.2.2.2.2.2.2.2.2.2.2.2.2.2.2.2.2.2.2.2.1 (3000 : Int)), ()), ()))
  else some ((false, ()), ())
noncomputable def E121 (c59 : F59) := mkE [g59 c59]
theorem s121 (c59 : F59)  (y) : tevF (E121 c59 ) Tryz.f121 i121 o121 y = m121 c59  y := by kernel_rfl
noncomputable def r121 : F121 := m121 r59 
theorem k121 : CK Tryz.prog (g121 r121) := fn0 (s121 r59) (fnsL_ok ⟨k59, trivial⟩) rfl mixed (by kernel_rfl) (by kernel_rfl) (by kernel_rfl)
@[reducible] def i228 : List Ty := [.v (.sl false .i), .v (.sl false .i)]
@[reducible] def o228 : List Ty := [.v (.bool)]
abbrev R228 := Option (PTup o228 × BTup i228)
abbrev F228 := PTup i228 → R228
abbrev g228 (c : F228) : Nat × Tev.Fn := (228, ⟨i228, o228, c, .nor⟩)
@[reducible] def lc228_0 : List Ty := [.v (.sl false .i), .v (.sl false .i)]
@[reducible] def lb228_0 : List Ty := []
@[reducible] def lv228_0 : List Ty := [.v (.int .i64)]
@[reducible] def lr228_0 : List Ty := [.v (.bool)]
abbrev R228_0 := Option (Sum (PTup lv228_0) (PTup lr228_0) × BTup lb228_0)
abbrev B228_0 := PTup lb228_0 → PTup lv228_0 → R228_0
abbrev A228_0 := PTup lc228_0 → B228_0
noncomputable def w228_0   (again : B228_0) (x : PTup lc228_0) (y : PTup lb228_0) (z : PTup lv228_0) : R228_0 :=
  bif (ltI z.1 (lenI x.1)) then (bif (ltI z.1 (lenI x.2.1)) then (bif (leI (0 : Int) z.1) then (bif (ltI z.1 (lenI x.1)) then (bif (leI (0 : Int) z.1) then (bif (ltI z.1 (lenI x.2.1)) then (bif (neI (rdE .i x.1 z.1) (rdE .i x.2.1 z.1)) then (some ((Sum.inr (false, ())), ()))
        else again () ((wI (z.1 + (1 : Int))), ()))
       else none)
      else none)
     else none)
    else none)
   else some ((Sum.inl z), ()))
  else some ((Sum.inl z), ())
noncomputable def e228_0 (l : A228_0) : LoopE := ⟨[0, 1], lc228_0, [], lb228_0, [5], lv228_0, [4], lr228_0, 0, [], l⟩
noncomputable def m228  (l0 : A228_0) (y : PTup i228) : Option (PTup o228 × BTup i228) :=
  (l0 y () ((0 : Int), ())).bind fun r0 =>
  sumElim r0.1 (fun r1 => some (((leI (lenI y.1) (lenI y.2.1)), ()), ()))
  (fun r1 => some (r1, ()))
noncomputable def E228  (l0 : A228_0) : CEnv := ⟨⟨Tryz.prog, fnsL []⟩, loopsL [(2, e228_0 l0)]⟩
theorem t228_0  (l0 : A228_0) (again) (x y z) : loopRound (E228  l0) (loopAt (bodyOf Tryz.f228) 0) (e228_0 l0) Tryz.f228.ntmps again x y z = w228_0   again x y z := by kernel_rfl
noncomputable def n228_0   : Nat → A228_0
  | 0, _, _, _ => none
  | n + 1, x, y, z => w228_0   (fun y z => n228_0   n x y z) x y z
theorem s228  (l0 : A228_0) (y) : tevF (E228  l0) Tryz.f228 i228 o228 y = m228  l0 y := by kernel_rfl
noncomputable def L228_0 : A228_0 := n228_0   fuel
noncomputable def r228 : F228 := m228  L228_0
theorem k228 : CK Tryz.prog (g228 r228) := by
  have hE : ∀ g f, (E228  L228_0).env.fns g = some f → CallOk Tryz.prog g f := fnsL_ok trivial
  have h0 : LoopOk Tryz.prog Tryz.f228.ntmps (loopAt (bodyOf Tryz.f228) 0) (e228_0 L228_0) := lp_ok (E := E228  L228_0) rfl hE mixed (AllLoops.of_list (l := []) (by kernel_rfl) trivial) (n228_0  ) (fun _ _ _ => rfl) (fun n x y z => t228_0  L228_0 _ x y z) rfl
  exact fn_ok (E := E228  L228_0) rfl hE mixed (by kernel_rfl) (by kernel_rfl) (AllLoops.of_list (l := [(loopAt (bodyOf Tryz.f228) 0)]) (by kernel_rfl) (.one (by kernel_rfl) h0 trivial)) (s228  L228_0)
@[reducible] def i219 : List Ty := [.v (.sl false .i), .v (.sl false .i)]
@[reducible] def o219 : List Ty := [.v (.bool)]
abbrev R219 := Option (PTup o219 × BTup i219)
abbrev F219 := PTup i219 → R219
abbrev g219 (c : F219) : Nat × Tev.Fn := (219, ⟨i219, o219, c, .nor⟩)
noncomputable def m219 (c228 : F228)  (y : PTup i219) : Option (PTup o219 × BTup i219) :=
  bif (eqI (lenI y.1) (lenI y.2.1)) then ((c228 y).bind fun r0 =>
   some (r0.1, ()))
  else some ((false, ()), ())
noncomputable def E219 (c228 : F228) := mkE [g228 c228]
theorem s219 (c228 : F228)  (y) : tevF (E219 c228 ) Tryz.f219 i219 o219 y = m219 c228  y := by kernel_rfl
noncomputable def r219 : F219 := m219 r228 
theorem k219 : CK Tryz.prog (g219 r219) := fn0 (s219 r228) (fnsL_ok ⟨k228, trivial⟩) rfl mixed (by kernel_rfl) (by kernel_rfl) (by kernel_rfl)
@[reducible] def i127 : List Ty := [.a q6]
@[reducible] def o127 : List Ty := [.a [.sl true .n, .sl true .i, .sl true .i]]
abbrev R127 := Option (PTup o127 × BTup i127)
abbrev F127 := PTup i127 → R127
abbrev g127 (c : F127) : Nat × Tev.Fn := (127, ⟨i127, o127, c, .nor⟩)
noncomputable def m127 (c172 : F172)  (y : PTup i127) : Option (PTup o127 × BTup i127) :=
  (c172 (y.1.2.2.2.2.2.2.2.2.2.2.2.2.2.2.2.2.2.2.2.2.2.2.2.2.2.2.2.2.2.2.2.1, ())).bind fun r0 =>
  bif (leN (0 + (List.length y.1.2.2.2.2.2.2.2.2.2.2.2.2.2.2.2.2.2.2.2.2.2.2.2.2.2.2.2.2.2.2.2.2.2.2.2.2.2.2.2.2.2.1)) (E.most .i)) then (bif (leN (0 + (List.length y.1.2.2.2.2.2.2.2.2.2.2.2.2.2.2.2.2.2.2.2.2.1)) (E.most .i)) then (some (((r0.1.1, (([] ++ y.1.2.2.2.2.2.2.2.2.2.2.2.2.2.2.2.2.2.2.2.2.2.2.2.2.2.2.2.2.2.2.2.2.2.2.2.2.2.2.2.2.2.1), (([] ++ y.1.2.2.2.2.2.2.2.2.2.2.2.2.2.2.2.2.2.2.2.2.1), ()))), ()), ()))
   else none)
  else none
noncomputable def E127 (c172 : F172) := mkE [g172 c172]
theorem s127 (c172 : F172)  (y) : tevF (E127 c172 ) Tryz.f127 i127 o127 y = m127 c172  y := by kernel_rfl
noncomputable def r127 : F127 := m127 r172 
theorem k127 : CK Tryz.prog (g127 r127) := fn0 (s127 r172) (fnsL_ok ⟨k172, trivial⟩) rfl mixed (by kernel_rfl) (by kernel_rfl) (by kernel_rfl)
@[reducible] def i126 : List Ty := [.a [.sl false .n, .sl false .i, .sl false .i], .a [.sl false .n, .sl false .i, .sl false .i]]
@[reducible] def o126 : List Ty := [.v (.bool)]
abbrev R126 := Option (PTup o126 × BTup i126)
abbrev F126 := PTup i126 → R126
abbrev g126 (c : F126) : Nat × Tev.Fn := (126, ⟨i126, o126, c, .nor⟩)
@[reducible] def lc126_0 : List Ty := []
@[reducible] def lb126_0 : List Ty := [.p [.sl false .n, .sl false .i, .sl false .i], .p [.sl false .n, .sl false .i, .sl false .i]]
@[reducible] def lv126_0 : List Ty := [.v (.int .i64)]
@[reducible] def lr126_0 : List Ty := [.v (.bool)]
abbrev R126_0 := Option (Sum (PTup lv126_0) (PTup lr126_0) × BTup lb126_0)
abbrev B126_0 := PTup lb126_0 → PTup lv126_0 → R126_0
abbrev A126_0 := PTup lc126_0 → B126_0
noncomputable def w126_0 (c228 : F228) (c219 : F219)  (again : B126_0) (x : PTup lc126_0) (y : PTup lb126_0) (z : PTup lv126_0) : R126_0 :=
  bif (ltI z.1 (lenI y.1.1)) then (bif (leI (0 : Int) z.1) then (bif (ltI z.1 (lenI y.1.1)) then (bif (leI (0 : Int) z.1) then (bif (ltI z.1 (lenI y.2.1.1)) then ((c219 ((rdE .n y.1.1 z.1), ((rdE .n y.2.1.1 z.1), ()))).bind fun r0 =>
       bif (!r0.1.1) then (some ((Sum.inr (false, ())), (y.1, (y.2.1, ()))))
       else again (y.1, (y.2.1, ())) ((wI (z.1 + (1 : Int))), ()))
      else none)
     else none)
    else none)
   else none)
  else some ((Sum.inl z), (y.1, (y.2.1, ())))
noncomputable def e126_0 (l : A126_0) : LoopE := ⟨[], lc126_0, [2, 3], lb126_0, [5], lv126_0, [4], lr126_0, 0, [], l⟩
noncomputable def m126 (c228 : F228) (c219 : F219) (l0 : A126_0) (y : PTup i126) : Option (PTup o126 × BTup i126) :=
  bif (ltI (lenI y.2.1.1) (lenI y.1.1)) then (some ((false, ()), ()))
  else (c228 (y.1.2.1, (y.2.1.2.1, ()))).bind fun r0 =>
  bif (!r0.1.1) then (some ((false, ()), ()))
  else (c228 (y.1.2.2.1, y.2.1.2.2)).bind fun r1 =>
  bif (!r1.1.1) then (some ((false, ()), ()))
  else (l0 () (y.1, (y.2.1, ())) ((0 : Int), ())).bind fun r2 =>
  sumElim r2.1 (fun r3 => some ((true, ()), ()))
  (fun r3 => some (r3, ()))
noncomputable def E126 (c228 : F228) (c219 : F219) (l0 : A126_0) : CEnv := ⟨⟨Tryz.prog, fnsL [g228 c228, g219 c219]⟩, loopsL [(4, e126_0 l0)]⟩
theorem t126_0 (c228 : F228) (c219 : F219) (l0 : A126_0) (again) (x y z) : loopRound (E126 c228 c219 l0) (loopAt (bodyOf Tryz.f126) 0) (e126_0 l0) Tryz.f126.ntmps again x y z = w126_0 c228 c219  again x y z := by kernel_rfl
noncomputable def n126_0 (c228 : F228) (c219 : F219)  : Nat → A126_0
  | 0, _, _, _ => none
  | n + 1, x, y, z => w126_0 c228 c219  (fun y z => n126_0 c228 c219  n x y z) x y z
theorem s126 (c228 : F228) (c219 : F219) (l0 : A126_0) (y) : tevF (E126 c228 c219 l0) Tryz.f126 i126 o126 y = m126 c228 c219 l0 y := by kernel_rfl
noncomputable def L126_0 : A126_0 := n126_0 r228 r219  fuel
noncomputable def r126 : F126 := m126 r228 r219 L126_0
theorem k126 : CK Tryz.prog (g126 r126) := by
  have hE : ∀ g f, (E126 r228 r219 L126_0).env.fns g = some f → CallOk Tryz.prog g f := fnsL_ok ⟨k228, k219, trivial⟩
  have h0 : LoopOk Tryz.prog Tryz.f126.ntmps (loopAt (bodyOf Tryz.f126) 0) (e126_0 L126_0) := lp_ok (E := E126 r228 r219 L126_0) rfl hE mixed (AllLoops.of_list (l := []) (by kernel_rfl) trivial) (n126_0 r228 r219 ) (fun _ _ _ => rfl) (fun n x y z => t126_0 r228 r219 L126_0 _ x y z) rfl
  exact fn_ok (E := E126 r228 r219 L126_0) rfl hE mixed (by kernel_rfl) (by kernel_rfl) (AllLoops.of_list (l := [(loopAt (bodyOf Tryz.f126) 0)]) (by kernel_rfl) (.one (by kernel_rfl) h0 trivial)) (s126 r228 r219 L126_0)
@[reducible] def i51 : List Ty := [.a q6]
@[reducible] def o51 : List Ty := [.v (.bool)]
abbrev R51 := Option (PTup o51 × BTup i51)
abbrev F51 := PTup i51 → R51
abbrev g51 (c : F51) : Nat × Tev.Fn := (51, ⟨i51, o51, c, .nor⟩)
noncomputable def m51 (c126 : F126) (c127 : F127) (c31 : F31) (c121 : F121)  (y : PTup i51) : Option (PTup o51 × BTup i51) :=
  (c121 (y.1, ())).bind fun r0 =>
  bif r0.1.1 then ((c127 (y.1, ())).bind fun r1 =>
   (c31 (y.1, ())).bind fun r2 =>
   (c126 (r1.1.1, (r2.1.1.2.2.2.2.2.2.2.2.2.2.2.2.2.2.2.2.2.2.2.2.2.2.2.2.2.2.2.2.2.2.2, ()))).bind fun r3 =>
   some (r3.1, ()))
  else some ((false, ()), ())
noncomputable def E51 (c126 : F126) (c127 : F127) (c31 : F31) (c121 : F121) := mkE [g126 c126, g127 c127, g31 c31, g121 c121]
theorem s51 (c126 : F126) (c127 : F127) (c31 : F31) (c121 : F121)  (y) : tevF (E51 c126 c127 c31 c121 ) Tryz.f51 i51 o51 y = m51 c126 c127 c31 c121  y := by kernel_rfl
noncomputable def r51 : F51 := m51 r126 r127 r31 r121 
theorem k51 : CK Tryz.prog (g51 r51) := fn0 (s51 r126 r127 r31 r121) (fnsL_ok ⟨k126, k127, k31, k121, trivial⟩) rfl mixed (by kernel_rfl) (by kernel_rfl) (by kernel_rfl)
@[reducible] def i221 : List Ty := [.v (.sl false .i), .v (.sl false .i)]
@[reducible] def o221 : List Ty := [.v (.bool)]
abbrev R221 := Option (PTup o221 × BTup i221)
abbrev F221 := PTup i221 → R221
abbrev g221 (c : F221) : Nat × Tev.Fn := (221, ⟨i221, o221, c, .nor⟩)
@[reducible] def lc221_0 : List Ty := [.v (.sl false .i), .v (.sl false .i), .v (.int .i64)]
@[reducible] def lb221_0 : List Ty := []
@[reducible] def lv221_0 : List Ty := [.v (.int .i64)]
@[reducible] def lr221_0 : List Ty := [.v (.bool)]
abbrev R221_0 := Option (Sum (PTup lv221_0) (PTup lr221_0) × BTup lb221_0)
abbrev B221_0 := PTup lb221_0 → PTup lv221_0 → R221_0
abbrev A221_0 := PTup lc221_0 → B221_0
noncomputable def w221_0   (again : B221_0) (x : PTup lc221_0) (y : PTup lb221_0) (z : PTup lv221_0) : R221_0 :=
  bif (ltI z.1 x.2.2.1) then (bif (leI (0 : Int) z.1) then (bif (ltI z.1 (lenI x.1)) then (bif (leI (0 : Int) z.1) then (bif (ltI z.1 (lenI x.2.1)) then (bif (neI (rdE .i x.1 z.1) (rdE .i x.2.1 z.1)) then (some ((Sum.inr (false, ())), ()))
       else again () ((wI (z.1 + (1 : Int))), ()))
      else none)
     else none)
    else none)
   else none)
  else some ((Sum.inl z), ())
noncomputable def e221_0 (l : A221_0) : LoopE := ⟨[0, 1, 12], lc221_0, [], lb221_0, [13], lv221_0, [4], lr221_0, 0, [], l⟩
noncomputable def m221  (l0 : A221_0) (y : PTup i221) : Option (PTup o221 × BTup i221) :=
  bif (neI (lenI y.1) (lenI y.2.1)) then (some ((false, ()), ()))
  else (l0 (y.1, (y.2.1, ((lenI y.1), ()))) () ((0 : Int), ())).bind fun r0 =>
  sumElim r0.1 (fun r1 => some ((true, ()), ()))
  (fun r1 => some (r1, ()))
noncomputable def E221  (l0 : A221_0) : CEnv := ⟨⟨Tryz.prog, fnsL []⟩, loopsL [(4, e221_0 l0)]⟩
theorem t221_0  (l0 : A221_0) (again) (x y z) : loopRound (E221  l0) (loopAt (bodyOf Tryz.f221) 0) (e221_0 l0) Tryz.f221.ntmps again x y z = w221_0   again x y z := by kernel_rfl
noncomputable def n221_0   : Nat → A221_0
  | 0, _, _, _ => none
  | n + 1, x, y, z => w221_0   (fun y z => n221_0   n x y z) x y z
theorem s221  (l0 : A221_0) (y) : tevF (E221  l0) Tryz.f221 i221 o221 y = m221  l0 y := by kernel_rfl
noncomputable def L221_0 : A221_0 := n221_0   fuel
noncomputable def r221 : F221 := m221  L221_0
theorem k221 : CK Tryz.prog (g221 r221) := by
  have hE : ∀ g f, (E221  L221_0).env.fns g = some f → CallOk Tryz.prog g f := fnsL_ok trivial
  have h0 : LoopOk Tryz.prog Tryz.f221.ntmps (loopAt (bodyOf Tryz.f221) 0) (e221_0 L221_0) := lp_ok (E := E221  L221_0) rfl hE mixed (AllLoops.of_list (l := []) (by kernel_rfl) trivial) (n221_0  ) (fun _ _ _ => rfl) (fun n x y z => t221_0  L221_0 _ x y z) rfl
  exact fn_ok (E := E221  L221_0) rfl hE mixed (by kernel_rfl) (by kernel_rfl) (AllLoops.of_list (l := [(loopAt (bodyOf Tryz.f221) 0)]) (by kernel_rfl) (.one (by kernel_rfl) h0 trivial)) (s221  L221_0)
@[reducible] def i129 : List Ty := [.a q6]
@[reducible] def o129 : List Ty := [.a [.sl true .n, .sl true .i, .sl true .i]]
abbrev R129 := Option (PTup o129 × BTup i129)
abbrev F129 := PTup i129 → R129
abbrev g129 (c : F129) : Nat × Tev.Fn := (129, ⟨i129, o129, c, .nor⟩)
noncomputable def m129 (c179 : F179) (c147 : F147)  (y : PTup i129) : Option (PTup o129 × BTup i129) :=
  (c179 (y.1.2.2.2.2.2.2.2.2.2.2.2.2.2.2.2.2.2.2.2.2.2.2.2.2.2.2.2.2.2.2.2.1, ())).bind fun r0 =>
  (c147 y.1.2.2.2.2.2.2.2.2.2.2.2.2.2.2.2.2.2.2.2.2.2.2.2.2.2.2.2.2.2.2.2.2.2.2.2.2.2.2.2.2.2).bind fun r1 =>
  (c147 (y.1.2.2.2.2.2.2.2.2.2.2.2.2.2.2.2.2.2.2.2.2.1, ())).bind fun r2 =>
  some (((r0.1.1, (r1.1.1, r2.1)), ()), ())
noncomputable def E129 (c179 : F179) (c147 : F147) := mkE [g179 c179, g147 c147]
theorem s129 (c179 : F179) (c147 : F147)  (y) : tevF (E129 c179 c147 ) Tryz.f129 i129 o129 y = m129 c179 c147  y := by kernel_rfl
noncomputable def r129 : F129 := m129 r179 r147 
theorem k129 : CK Tryz.prog (g129 r129) := fn0 (s129 r179 r147) (fnsL_ok ⟨k179, k147, trivial⟩) rfl mixed (by kernel_rfl) (by kernel_rfl) (by kernel_rfl)
@[reducible] def i288 : List Ty := [.v (.sl false .i), .v (.sl false .i)]
@[reducible] def o288 : List Ty := [.v (.bool)]
abbrev R288 := Option (PTup o288 × BTup i288)
abbrev F288 := PTup i288 → R288
abbrev g288 (c : F288) : Nat × Tev.Fn := (288, ⟨i288, o288, c, .nor⟩)
noncomputable def m288 (c221 : F221)  (y : PTup i288) : Option (PTup o288 × BTup i288) :=
  (c221 y).bind fun r0 =>
  some (r0.1, ())
noncomputable def E288 (c221 : F221) := mkE [g221 c221]
theorem s288 (c221 : F221)  (y) : tevF (E288 c221 ) Tryz.f288 i288 o288 y = m288 c221  y := by kernel_rfl
noncomputable def r288 : F288 := m288 r221 
theorem k288 : CK Tryz.prog (g288 r288) := fn0 (s288 r221) (fnsL_ok ⟨k221, trivial⟩) rfl mixed (by kernel_rfl) (by kernel_rfl) (by kernel_rfl)
@[reducible] def i287 : List Ty := [.v (.sl false .n), .v (.sl false .n), .v (.fn 288)]
@[reducible] def o287 : List Ty := [.v (.bool)]
abbrev R287 := Option (PTup o287 × BTup i287)
abbrev F287 := PTup i287 → R287
abbrev g287 (c : F287) : Nat × Tev.Fn := (287, ⟨i287, o287, c, .nor⟩)
@[reducible] def lc287_0 : List Ty := [.v (.sl false .n), .v (.fn 288), .v (.sl false .n), .v (.int .i64)]
@[reducible] def lb287_0 : List Ty := []
@[reducible] def lv287_0 : List Ty := [.v (.int .i64)]
@[reducible] def lr287_0 : List Ty := [.v (.bool)]
abbrev R287_0 := Option (Sum (PTup lv287_0) (PTup lr287_0) × BTup lb287_0)
abbrev B287_0 := PTup lb287_0 → PTup lv287_0 → R287_0
abbrev A287_0 := PTup lc287_0 → B287_0
noncomputable def w287_0 (c288 : F288)  (again : B287_0) (x : PTup lc287_0) (y : PTup lb287_0) (z : PTup lv287_0) : R287_0 :=
  bif (ltI z.1 x.2.2.2.1) then (bif (leI (0 : Int) z.1) then (bif (ltI z.1 (lenI x.2.2.1)) then (bif (leI (0 : Int) z.1) then (bif (ltI z.1 (lenI x.1)) then ((c288 ((rdE .n x.2.2.1 z.1), ((rdE .n x.1 z.1), ()))).bind fun r0 =>
       bif (!r0.1.1) then (some ((Sum.inr (false, ())), ()))
       else again () ((wI (z.1 + (1 : Int))), ()))
      else none)
     else none)
    else none)
   else none)
  else some ((Sum.inl z), ())
noncomputable def e287_0 (l : A287_0) : LoopE := ⟨[1, 2, 15, 16], lc287_0, [], lb287_0, [17], lv287_0, [6], lr287_0, 0, [], l⟩
noncomputable def m287 (c288 : F288) (l0 : A287_0) (y : PTup i287) : Option (PTup o287 × BTup i287) :=
  bif (neI (lenI y.1) (lenI y.2.1)) then (some ((false, ()), ()))
  else (l0 (y.2.1, ((), (y.1, ((lenI y.1), ())))) () ((0 : Int), ())).bind fun r0 =>
  sumElim r0.1 (fun r1 => some ((true, ()), ()))
  (fun r1 => some (r1, ()))
noncomputable def E287 (c288 : F288) (l0 : A287_0) : CEnv := ⟨⟨Tryz.prog, fnsL [g288 c288]⟩, loopsL [(4, e287_0 l0)]⟩
theorem t287_0 (c288 : F288) (l0 : A287_0) (again) (x y z) : loopRound (E287 c288 l0) (loopAt (bodyOf Tryz.f287) 0) (e287_0 l0) Tryz.f287.ntmps again x y z = w287_0 c288  again x y z := by kernel_rfl
noncomputable def n287_0 (c288 : F288)  : Nat → A287_0
  | 0, _, _, _ => none
  | n + 1, x, y, z => w287_0 c288  (fun y z => n287_0 c288  n x y z) x y z
theorem s287 (c288 : F288) (l0 : A287_0) (y) : tevF (E287 c288 l0) Tryz.f287 i287 o287 y = m287 c288 l0 y := by kernel_rfl
noncomputable def L287_0 : A287_0 := n287_0 r288  fuel
noncomputable def r287 : F287 := m287 r288 L287_0
theorem k287 : CK Tryz.prog (g287 r287) := by
  have hE : ∀ g f, (E287 r288 L287_0).env.fns g = some f → CallOk Tryz.prog g f := fnsL_ok ⟨k288, trivial⟩
  have h0 : LoopOk Tryz.prog Tryz.f287.ntmps (loopAt (bodyOf Tryz.f287) 0) (e287_0 L287_0) := lp_ok (E := E287 r288 L287_0) rfl hE mixed (AllLoops.of_list (l := []) (by kernel_rfl) trivial) (n287_0 r288 ) (fun _ _ _ => rfl) (fun n x y z => t287_0 r288 L287_0 _ x y z) rfl
  exact fn_ok (E := E287 r288 L287_0) rfl hE mixed (by kernel_rfl) (by kernel_rfl) (AllLoops.of_list (l := [(loopAt (bodyOf Tryz.f287) 0)]) (by kernel_rfl) (.one (by kernel_rfl) h0 trivial)) (s287 r288 L287_0)
@[reducible] def i225 : List Ty := [.a [.sl false .n, .sl false .i, .sl false .i], .a [.sl false .n, .sl false .i, .sl false .i]]
@[reducible] def o225 : List Ty := [.v (.bool)]
abbrev R225 := Option (PTup o225 × BTup i225)
abbrev F225 := PTup i225 → R225
abbrev g225 (c : F225) : Nat × Tev.Fn := (225, ⟨i225, o225, c, .nor⟩)
noncomputable def m225 (c287 : F287) (c221 : F221)  (y : PTup i225) : Option (PTup o225 × BTup i225) :=
  (c287 (y.1.1, (y.2.1.1, ((), ())))).bind fun r0 =>
  bif r0.1.1 then ((c221 (y.1.2.1, (y.2.1.2.1, ()))).bind fun r1 =>
   bif r1.1.1 then ((c221 (y.1.2.2.1, y.2.1.2.2)).bind fun r2 =>
    some (r2.1, ()))
   else some ((false, ()), ()))
  else some ((false, ()), ())
noncomputable def E225 (c287 : F287) (c221 : F221) := mkE [g287 c287, g221 c221]
theorem s225 (c287 : F287) (c221 : F221)  (y) : tevF (E225 c287 c221 ) Tryz.f225 i225 o225 y = m225 c287 c221  y := by kernel_rfl
noncomputable def r225 : F225 := m225 r287 r221 
theorem k225 : CK Tryz.prog (g225 r225) := fn0 (s225 r287 r221) (fnsL_ok ⟨k287, k221, trivial⟩) rfl mixed (by kernel_rfl) (by kernel_rfl) (by kernel_rfl)
@[reducible] def i128 : List Ty := [.a [.sl false .n, .sl false .i, .sl false .i], .a [.sl false .n, .sl false .i, .sl false .i]]
@[reducible] def o128 : List Ty := [.v (.bool)]
abbrev R128 := Option (PTup o128 × BTup i128)
abbrev F128 := PTup i128 → R128
abbrev g128 (c : F128) : Nat × Tev.Fn := (128, ⟨i128, o128, c, .nor⟩)
noncomputable def m128 (c225 : F225)  (y : PTup i128) : Option (PTup o128 × BTup i128) :=
  bif (ltI (lenI y.2.1.1) (lenI y.1.1)) then (some ((false, ()), ()))
  else bif (ltI (lenI y.2.1.2.1) (lenI y.1.2.1)) then (some ((false, ()), ()))
  else bif (ltI (lenI y.2.1.2.2.1) (lenI y.1.2.2.1)) then (some ((false, ()), ()))
  else bif (leI (lenI y.1.1) (lenI y.2.1.1)) then (bif (leI (lenI y.1.2.1) (lenI y.2.1.2.1)) then (bif (leI (lenI y.1.2.2.1) (lenI y.2.1.2.2.1)) then ((c225 (y.1, (((List.take (Int.toNat (lenI y.1.1)) y.2.1.1), ((List.take (Int.toNat (lenI y.1.2.1)) y.2.1.2.1), ((List.take (Int.toNat (lenI y.1.2.2.1)) y.2.1.2.2.1), ()))), ()))).bind fun r0 =>
     some (r0.1, ()))
    else none)
   else none)
  else none
noncomputable def E128 (c225 : F225) := mkE [g225 c225]
theorem s128 (c225 : F225)  (y) : tevF (E128 c225 ) Tryz.f128 i128 o128 y = m128 c225  y := by kernel_rfl
noncomputable def r128 : F128 := m128 r225 
theorem k128 : CK Tryz.prog (g128 r128) := fn0 (s128 r225) (fnsL_ok ⟨k225, trivial⟩) rfl mixed (by kernel_rfl) (by kernel_rfl) (by kernel_rfl)
@[reducible] def i52 : List Ty := [.a q6]
@[reducible] def o52 : List Ty := [.v (.bool)]
abbrev R52 := Option (PTup o52 × BTup i52)
abbrev F52 := PTup i52 → R52
abbrev g52 (c : F52) : Nat × Tev.Fn := (52, ⟨i52, o52, c, .nor⟩)
noncomputable def m52 (c128 : F128) (c129 : F129) (c32 : F32) (c109 : F109)  (y : PTup i52) : Option (PTup o52 × BTup i52) :=
  (c109 (y.1, ())).bind fun r0 =>
  bif r0.1.1 then ((c129 (y.1, ())).bind fun r1 =>
   (c32 (y.1, ())).bind fun r2 =>
   (c128 (r1.1.1, (r2.1.1.2.2.2.2.2.2.2.2.2.2.2.2.2.2.2.2.2.2.2.2.2.2.2.2.2.2.2.2.2.2.2, ()))).bind fun r3 =>
   some (r3.1, ()))
  else some ((false, ()), ())
noncomputable def E52 (c128 : F128) (c129 : F129) (c32 : F32) (c109 : F109) := mkE [g128 c128, g129 c129, g32 c32, g109 c109]
theorem s52 (c128 : F128) (c129 : F129) (c32 : F32) (c109 : F109)  (y) : tevF (E52 c128 c129 c32 c109 ) Tryz.f52 i52 o52 y = m52 c128 c129 c32 c109  y := by kernel_rfl
noncomputable def r52 : F52 := m52 r128 r129 r32 r109 
theorem k52 : CK Tryz.prog (g52 r52) := fn0 (s52 r128 r129 r32 r109) (fnsL_ok ⟨k128, k129, k32, k109, trivial⟩) rfl mixed (by kernel_rfl) (by kernel_rfl) (by kernel_rfl)
@[reducible] def i14 : List Ty := [.a q6]
@[reducible] def o14 : List Ty := [.v (.bool)]
abbrev R14 := Option (PTup o14 × BTup i14)
abbrev F14 := PTup i14 → R14
abbrev g14 (c : F14) : Nat × Tev.Fn := (14, ⟨i14, o14, c, .nor⟩)
noncomputable def m14 (c52 : F52) (c19 : F19) (c15 : F15) (c17 : F17) (c51 : F51)  (y : PTup i14) : Option (PTup o14 × BTup i14) :=
  (c15 (y.1, ((1048576 : Int), ()))).bind fun r0 =>
  bif (ltI r0.1.1 (0 : Int)) then (some ((true, ()), ()))
  else (c17 (y.1, ())).bind fun r1 =>
  (c51 (r1.1.1, ())).bind fun r2 =>
  (c17 (y.1, ())).bind fun r3 =>
  (c52 (r3.1.1, ())).bind fun r4 =>
  bif (!(r4.1.1 == r2.1.1)) then (some ((false, ()), ()))
  else (c17 (y.1, ())).bind fun r5 =>
  (c19 (r3.1.1, (r5.1.1, ()))).bind fun r6 =>
  bif (!r6.1.1) then (some ((false, ()), ()))
  else some ((true, ()), ())
noncomputable def E14 (c52 : F52) (c19 : F19) (c15 : F15) (c17 : F17) (c51 : F51) := mkE [g52 c52, g19 c19, g15 c15, g17 c17, g51 c51]
theorem s14 (c52 : F52) (c19 : F19) (c15 : F15) (c17 : F17) (c51 : F51)  (y) : tevF (E14 c52 c19 c15 c17 c51 ) Tryz.f14 i14 o14 y = m14 c52 c19 c15 c17 c51  y := by kernel_rfl
noncomputable def r14 : F14 := m14 r52 r19 r15 r17 r51 
theorem k14 : CK Tryz.prog (g14 r14) := fn0 (s14 r52 r19 r15 r17 r51) (fnsL_ok ⟨k52, k19, k15, k17, k51, trivial⟩) rfl mixed (by kernel_rfl) (by kernel_rfl) (by kernel_rfl)
end Go.Proofs.YtanoofbkhddokaaGreat.Plain
