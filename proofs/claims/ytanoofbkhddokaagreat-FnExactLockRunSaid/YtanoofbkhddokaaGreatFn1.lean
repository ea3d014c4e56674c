/- Plain functions that the program's functions answer as; their contracts. Printed by a program of the proofs' writer. No condition. -/
import Derived.Test.YtanoofbkhddokaaGreatUf
import Derived.KernelRfl
import Derived.Test.YtanoofbkhddokaaGreatFn0
set_option linter.unusedVariables false
set_option linter.unusedSimpArgs false
set_option maxRecDepth 100000
namespace Go.Proofs.YtanoofbkhddokaaGreat.Plain
open Go Go.Tev
@[reducible] def i328 : List Ty := [.v (.int .i64)]
@[reducible] def o328 : List Ty := [.v (.int .i64)]
abbrev R328 := Option (PTup o328 × BTup i328)
abbrev F328 := PTup i328 → R328
abbrev g328 (c : F328) : Nat × Tev.Fn := (328, ⟨i328, o328, c, .nor⟩)
noncomputable def m328   (y : PTup i328) : Option (PTup o328 × BTup i328) :=
  some (((wI (Int.tdiv (mxI y.1 (0 : Int)) (64 : Int))), ()), ())
noncomputable def E328  := mkE []
theorem s328   (y) : tevF (E328  ) Tryz.f328 i328 o328 y = m328   y := by kernel_rfl
noncomputable def r328 : F328 := m328  
theorem k328 : CK Tryz.prog (g328 r328) := fn0 (s328 ) (fnsL_ok trivial) rfl mixed (by kernel_rfl) (by kernel_rfl) (by kernel_rfl)
@[reducible] def i317 : List Ty := [.v (.sl false .i), .v (.int .i64)]
@[reducible] def o317 : List Ty := [.v (.int .i64)]
abbrev R317 := Option (PTup o317 × BTup i317)
abbrev F317 := PTup i317 → R317
abbrev g317 (c : F317) : Nat × Tev.Fn := (317, ⟨i317, o317, c, .nor⟩)
noncomputable def m317 (c328 : F328) (c152 : F152)  (y : PTup i317) : Option (PTup o317 × BTup i317) :=
  (c152 (y.1, ())).bind fun r0 =>
  bif (!r0.1.1) then (some (((0 : Int), ()), ()))
  else bif (eqI (lenI y.1) (0 : Int)) then (some (((0 : Int), ()), ()))
  else (c328 y.2).bind fun r1 =>
  bif (neI (lenI y.1) (0 : Int)) then (bif (leI (0 : Int) (Int.tmod r1.1.1 (lenI y.1))) then (bif (ltI (Int.tmod r1.1.1 (lenI y.1)) (lenI y.1)) then (some (((rdE .i y.1 (Int.tmod r1.1.1 (lenI y.1))), ()), ()))
    else none)
   else none)
  else none
noncomputable def E317 (c328 : F328) (c152 : F152) := mkE [g328 c328, g152 c152]
theorem s317 (c328 : F328) (c152 : F152)  (y) : tevF (E317 c328 c152 ) Tryz.f317 i317 o317 y = m317 c328 c152  y := by kernel_rfl
noncomputable def r317 : F317 := m317 r328 r152 
theorem k317 : CK Tryz.prog (g317 r317) := fn0 (s317 r328 r152) (fnsL_ok ⟨k328, k152, trivial⟩) rfl mixed (by kernel_rfl) (by kernel_rfl) (by kernel_rfl)
@[reducible] def i302 : List Ty := [.a q5, .v (.sl false .i), .v (.int .i64)]
@[reducible] def o302 : List Ty := [.a q5, .v (.int .i64)]
abbrev R302 := Option (PTup o302 × BTup i302)
abbrev F302 := PTup i302 → R302
abbrev g302 (c : F302) : Nat × Tev.Fn := (302, ⟨i302, o302, c, .nor⟩)
noncomputable def m302 (c317 : F317)  (y : PTup i302) : Option (PTup o302 × BTup i302) :=
  bif y.1.1 then ((c317 y.2).bind fun r0 =>
   some (((true, r0.1), ((bAnd Go.IntKind.i64 r0.1.1 (1 : Int)), ())), ()))
  else some (((false, ((Int.fdiv y.1.2.1 ((2 : Int) ^ (Min.min (Int.toNat (1 : Int)) (64 : Nat)))), ())), ((bAnd Go.IntKind.i64 y.1.2.1 (1 : Int)), ())), ())
noncomputable def E302 (c317 : F317) := mkE [g317 c317]
theorem s302 (c317 : F317)  (y) : tevF (E302 c317 ) Tryz.f302 i302 o302 y = m302 c317  y := by kernel_rfl
noncomputable def r302 : F302 := m302 r317 
theorem k302 : CK Tryz.prog (g302 r302) := fn0 (s302 r317) (fnsL_ok ⟨k317, trivial⟩) rfl mixed (by kernel_rfl) (by kernel_rfl) (by kernel_rfl)
@[reducible] def i252 : List Ty := [.p [.sl false .n, .sl false .i, .sl false .i, .int .i64, .int .i64, .int .i64, .int .i64, .int .i64, .bool, .bool, .bool, .bool, .int .i64, .int .i64, .int .i64, .int .i64, .int .i64, .bool, .sl false .i, .sl false .i, .int .i64, .int .i64, .int .i64, .int .i64, .int .i64, .bool, .bool, .bool, .int .i64, .bool, .int .i64, .sl false .n, .sl false .i, .sl true .i], .v (.int .i64)]
@[reducible] def o252 : List Ty := [.v (.int .i64)]
abbrev R252 := Option (PTup o252 × BTup i252)
abbrev F252 := PTup i252 → R252
abbrev g252 (c : F252) : Nat × Tev.Fn := (252, ⟨i252, o252, c, .nor⟩)
noncomputable def m252 (c300 : F300) (c301 : F301) (c302 : F302) (c277 : F277) (c247 : F247)  (y : PTup i252) : Option (PTup o252 × BTup i252) :=
  let a0 := y.1; let a1 := a0.2; let a2 := a1.2; let a3 := a2.2; let a4 := a3.2; let a5 := a4.2; let a6 := a5.2; let a7 := a6.2; let a8 := a7.2; let a9 := a8.2; let a10 := a9.2; let a11 := a10.2; let a12 := a11.2; let a13 := a12.2; let a14 := a13.2; let a15 := a14.2; let a16 := a15.2; let a17 := a16.2; let a18 := a17.2; let a19 := a18.2; let a20 := a19.2; let a21 := a20.2; let a22 := a21.2; let a23 := a22.2; let a24 := a23.2; let a25 := a24.2; let a26 := a25.2; let a27 := a26.2; let a28 := a27.2; let a29 := a28.2; let a30 := a29.2; let a31 := a30.2; let a32 := a31.2.2; (c277 y.2).bind fun r0 =>
  bif (eqI r0.1.1 (2 : Int)) then ((c300 ((a12.1, (a13.1, (a14.1, (a15.1, (a16.1, (a17.1, (a18.1, (a19.1, ())))))))), r0.1.2)).bind fun r1 =>
   bif (leN ((List.length a32.1) + (List.length (r1.1.1 :: []))) (E.most .i)) then (some (r1.1, ((a0.1, (a1.1, (a2.1, (a3.1, (a4.1, (a5.1, (a6.1, (a7.1, (a8.1, (a9.1, (a10.1, (a11.1, (r1.2.1.1, (r1.2.1.2.1, (r1.2.1.2.2.1, (r1.2.1.2.2.2.1, (r1.2.1.2.2.2.2.1, (r1.2.1.2.2.2.2.2.1, (a18.1, (a19.1, (a20.1, (a21.1, (a22.1, (a23.1, (a24.1, (a25.1, (a26.1, (a27.1, (a28.1, (a29.1, (a30.1, (a31.1, (a31.2.1, ((a32.1 ++ (r1.1.1 :: [])), ())))))))))))))))))))))))))))))))))), ())))
   else none)
  else bif (eqI r0.1.1 (3 : Int)) then ((c301 ((a20.1, (a21.1, (a22.1, (a23.1, (a24.1, (a25.1, (a26.1, ()))))))), r0.1.2)).bind fun r1 =>
   bif (leN ((List.length a32.1) + (List.length (r1.1.2.1 :: []))) (E.most .i)) then (some (r1.1.2, ((a0.1, (a1.1, (a2.1, (a3.1, (a4.1, (a5.1, (a6.1, (a7.1, (a8.1, (a9.1, (a10.1, (a11.1, (a12.1, (a13.1, (a14.1, (a15.1, (a16.1, (a17.1, (a18.1, (a19.1, (r1.1.1.1, (r1.1.1.2.1, (r1.1.1.2.2.1, (r1.1.1.2.2.2.1, (r1.1.1.2.2.2.2.1, (r1.1.1.2.2.2.2.2.1, (r1.1.1.2.2.2.2.2.2.1, (a27.1, (a28.1, (a29.1, (a30.1, (a31.1, (a31.2.1, ((a32.1 ++ (r1.1.2.1 :: [])), ())))))))))))))))))))))))))))))))))), ())))
   else none)
  else bif (eqI r0.1.1 (4 : Int)) then ((c302 ((a27.1, (a28.1, ())), (a1.1, (a12.1, ())))).bind fun r1 =>
   bif (leN ((List.length a32.1) + (List.length (r1.1.2.1 :: []))) (E.most .i)) then (some (r1.1.2, ((a0.1, (a1.1, (a2.1, (a3.1, (a4.1, (a5.1, (a6.1, (a7.1, (a8.1, (a9.1, (a10.1, (a11.1, (a12.1, (a13.1, (a14.1, (a15.1, (a16.1, (a17.1, (a18.1, (a19.1, (a20.1, (a21.1, (a22.1, (a23.1, (a24.1, (a25.1, (a26.1, (r1.1.1.1, (r1.1.1.2.1, (a29.1, (a30.1, (a31.1, (a31.2.1, ((a32.1 ++ (r1.1.2.1 :: [])), ())))))))))))))))))))))))))))))))))), ())))
   else none)
  else bif (eqI r0.1.1 (7 : Int)) then (some (((0 : Int), ()), (a0, ())))
  else (c247 ((a0.1, ()), ((a2.1, (a3.1, ())), y.2))).bind fun r1 =>
  some (r1.1, (a0, ()))
noncomputable def E252 (c300 : F300) (c301 : F301) (c302 : F302) (c277 : F277) (c247 : F247) := mkE [g300 c300, g301 c301, g302 c302, g277 c277, g247 c247]
theorem s252 (c300 : F300) (c301 : F301) (c302 : F302) (c277 : F277) (c247 : F247)  (y) : tevF (E252 c300 c301 c302 c277 c247 ) Tryz.f252 i252 o252 y = m252 c300 c301 c302 c277 c247  y := by kernel_rfl
noncomputable def r252 : F252 := m252 r300 r301 r302 r277 r247 
theorem k252 : CK Tryz.prog (g252 r252) := fn0 (s252 r300 r301 r302 r277 r247) (fnsL_ok ⟨k300, k301, k302, k277, k247, trivial⟩) rfl mixed (by kernel_rfl) (by kernel_rfl) (by kernel_rfl)
@[reducible] def i303 : List Ty := [.a q5, .v (.sl false .i), .v (.int .i64), .v (.int .i64)]
@[reducible] def o303 : List Ty := [.a q5]
abbrev R303 := Option (PTup o303 × BTup i303)
abbrev F303 := PTup i303 → R303
abbrev g303 (c : F303) : Nat × Tev.Fn := (303, ⟨i303, o303, c, .nor⟩)
noncomputable def m303 (c317 : F317)  (y : PTup i303) : Option (PTup o303 × BTup i303) :=
  bif (eqI (bAnd Go.IntKind.i64 y.2.2.2.1 (1 : Int)) (1 : Int)) then ((c317 (y.2.1, (y.2.2.1, ()))).bind fun r0 =>
   some ((((eqI (bAnd Go.IntKind.i64 y.2.2.2.1 (1 : Int)) (1 : Int)), r0.1), ()), ()))
  else bif y.1.1 then ((c317 (y.2.1, (y.2.2.1, ()))).bind fun r0 =>
   some ((((eqI (bAnd Go.IntKind.i64 y.2.2.2.1 (1 : Int)) (1 : Int)), r0.1), ()), ()))
  else some ((((eqI (bAnd Go.IntKind.i64 y.2.2.2.1 (1 : Int)) (1 : Int)), y.1.2), ()), ())
noncomputable def E303 (c317 : F317) := mkE [g317 c317]
theorem s303 (c317 : F317)  (y) : tevF (E303 c317 ) Tryz.f303 i303 o303 y = m303 c317  y := by kernel_rfl
noncomputable def r303 : F303 := m303 r317 
theorem k303 : CK Tryz.prog (g303 r303) := fn0 (s303 r317) (fnsL_ok ⟨k317, trivial⟩) rfl mixed (by kernel_rfl) (by kernel_rfl) (by kernel_rfl)
@[reducible] def i304 : List Ty := [.p q3, .a q0, .v (.int .i64), .v (.int .i64)]
@[reducible] def o304 : List Ty := []
abbrev R304 := Option (PTup o304 × BTup i304)
abbrev F304 := PTup i304 → R304
abbrev g304 (c : F304) : Nat × Tev.Fn := (304, ⟨i304, o304, c, .nor⟩)
noncomputable def m304 (c294 : F294) (c277 : F277)  (y : PTup i304) : Option (PTup o304 × BTup i304) :=
  let X0 : R304 := (c294 y.2.2.2).bind fun r1 => bif (neI (lenI y.2.1.1) (0 : Int)) then (some ((), ((y.1.1, ((Int.tmod r1.1.1 (lenI y.2.1.1)), ())), ()))) else none; (c277 (y.2.2.1, ())).bind fun r0 => bif (eqI r0.1.1 (1 : Int)) then ((c294 y.2.2.2).bind fun r1 => bif (leI (0 : Int) r0.1.2.1) then (bif (ltI r0.1.2.1 (lenI y.1.1)) then (some ((), (((List.set y.1.1 (Int.toNat r0.1.2.1) r1.1.1), y.1.2), ()))) else none) else none) else bif (eqI r0.1.1 (5 : Int)) then (bif (eqI r0.1.1 (5 : Int)) then X0 else some ((), (y.1, ()))) else bif (eqI r0.1.1 (6 : Int)) then X0 else some ((), (y.1, ()))
noncomputable def E304 (c294 : F294) (c277 : F277) := mkE [g294 c294, g277 c277]
theorem s304 (c294 : F294) (c277 : F277)  (y) : tevF (E304 c294 c277 ) Tryz.f304 i304 o304 y = m304 c294 c277  y := by kernel_rfl
noncomputable def r304 : F304 := m304 r294 r277 
theorem k304 : CK Tryz.prog (g304 r304) := fn0 (s304 r294 r277) (fnsL_ok ⟨k294, k277, trivial⟩) rfl mixed (by kernel_rfl) (by kernel_rfl) (by kernel_rfl)
@[reducible] def i253 : List Ty := [.p [.sl false .n, .sl false .i, .sl true .i, .int .i64, .int .i64, .int .i64, .int .i64, .int .i64, .bool, .bool, .bool, .bool, .int .i64, .int .i64, .int .i64, .int .i64, .int .i64, .bool, .sl true .i, .sl false .i, .int .i64, .int .i64, .int .i64, .int .i64, .int .i64, .bool, .bool, .bool, .int .i64, .bool, .int .i64, .sl false .n, .sl false .i, .sl false .i], .v (.int .i64), .v (.int .i64)]
@[reducible] def o253 : List Ty := []
abbrev R253 := Option (PTup o253 × BTup i253)
abbrev F253 := PTup i253 → R253
abbrev g253 (c : F253) : Nat × Tev.Fn := (253, ⟨i253, o253, c, .nor⟩)
noncomputable def m253 (c304 : F304) (c285 : F285) (c286 : F286) (c303 : F303) (c277 : F277)  (y : PTup i253) : Option (PTup o253 × BTup i253) :=
  let a0 := y.1; let a1 := a0.2; let a2 := a1.2; let a3 := a2.2; let a4 := a3.2; let a5 := a4.2; let a6 := a5.2; let a7 := a6.2; let a8 := a7.2; let a9 := a8.2; let a10 := a9.2; let a11 := a10.2; let a12 := a11.2; let a13 := a12.2; let a14 := a13.2; let a15 := a14.2; let a16 := a15.2; let a17 := a16.2; let a18 := a17.2; let a19 := a18.2; let a20 := a19.2; let a21 := a20.2; let a22 := a21.2; let a23 := a22.2; let a24 := a23.2; let a25 := a24.2.2; let X0 : R253 := (c304 ((a2.1, (a3.1, ())), ((a0.1, ()), y.2))).bind fun r1 => some ((), ((a0.1, (a1.1, (r1.2.1.1, (r1.2.1.2.1, a4)))), ())); (c277 (y.2.1, ())).bind fun r0 => bif (eqI r0.1.1 (2 : Int)) then ((c285 ((a12.1, (a13.1, (a14.1, (a15.1, (a16.1, (a17.1, (a18.1, (a19.1, ())))))))), (r0.1.2.1, y.2.2))).bind fun r1 => some ((), ((a0.1, (a1.1, (a2.1, (a3.1, (a4.1, (a5.1, (a6.1, (a7.1, (a8.1, (a9.1, (a10.1, (a11.1, (r1.2.1.1, (r1.2.1.2.1, (r1.2.1.2.2.1, (r1.2.1.2.2.2.1, (r1.2.1.2.2.2.2.1, (r1.2.1.2.2.2.2.2.1, (r1.2.1.2.2.2.2.2.2.1, a19))))))))))))))))))), ()))) else bif (eqI r0.1.1 (3 : Int)) then ((c286 ((a20.1, (a21.1, (a22.1, (a23.1, (a24.1, (a24.2.1, (a25.1, ()))))))), (r0.1.2.1, y.2.2))).bind fun r1 => some ((), ((a0.1, (a1.1, (a2.1, (a3.1, (a4.1, (a5.1, (a6.1, (a7.1, (a8.1, (a9.1, (a10.1, (a11.1, (a12.1, (a13.1, (a14.1, (a15.1, (a16.1, (a17.1, (a18.1, (a19.1, (r1.1.1.1, (r1.1.1.2.1, (r1.1.1.2.2.1, (r1.1.1.2.2.2.1, (r1.1.1.2.2.2.2.1, (r1.1.1.2.2.2.2.2.1, (r1.1.1.2.2.2.2.2.2.1, a25.2))))))))))))))))))))))))))), ()))) else bif (eqI r0.1.1 (4 : Int)) then ((c303 ((a25.2.1, (a25.2.2.1, ())), (a1.1, (a12.1, y.2.2)))).bind fun r1 => some ((), ((a0.1, (a1.1, (a2.1, (a3.1, (a4.1, (a5.1, (a6.1, (a7.1, (a8.1, (a9.1, (a10.1, (a11.1, (a12.1, (a13.1, (a14.1, (a15.1, (a16.1, (a17.1, (a18.1, (a19.1, (a20.1, (a21.1, (a22.1, (a23.1, (a24.1, (a24.2.1, (a25.1, (r1.1.1.1, (r1.1.1.2.1, a25.2.2.2))))))))))))))))))))))))))))), ()))) else bif (eqI r0.1.1 (1 : Int)) then (bif (eqI r0.1.1 (1 : Int)) then X0 else some ((), (a0, ()))) else bif (eqI r0.1.1 (5 : Int)) then (bif (eqI r0.1.1 (5 : Int)) then X0 else some ((), (a0, ()))) else bif (eqI r0.1.1 (6 : Int)) then X0 else some ((), (a0, ()))
noncomputable def E253 (c304 : F304) (c285 : F285) (c286 : F286) (c303 : F303) (c277 : F277) := mkE [g304 c304, g285 c285, g286 c286, g303 c303, g277 c277]
theorem s253 (c304 : F304) (c285 : F285) (c286 : F286) (c303 : F303) (c277 : F277)  (y) : tevF (E253 c304 c285 c286 c303 c277 ) Tryz.f253 i253 o253 y = m253 c304 c285 c286 c303 c277  y := by kernel_rfl
noncomputable def r253 : F253 := m253 r304 r285 r286 r303 r277 
theorem k253 : CK Tryz.prog (g253 r253) := fn0 (s253 r304 r285 r286 r303 r277) (fnsL_ok ⟨k304, k285, k286, k303, k277, trivial⟩) rfl mixed (by kernel_rfl) (by kernel_rfl) (by kernel_rfl)
@[reducible] def i321 : List Ty := [.v (.int .i64)]
@[reducible] def o321 : List Ty := [.v (.bool), .v (.bool)]
abbrev R321 := Option (PTup o321 × BTup i321)
abbrev F321 := PTup i321 → R321
abbrev g321 (c : F321) : Nat × Tev.Fn := (321, ⟨i321, o321, c, .nor⟩)
noncomputable def m321 (c294 : F294)  (y : PTup i321) : Option (PTup o321 × BTup i321) :=
  (c294 y).bind fun r0 =>
  (c294 y).bind fun r1 =>
  some (((eqI r0.1.1 (0 : Int)), ((ltI (127 : Int) r1.1.1), ())), ())
noncomputable def E321 (c294 : F294) := mkE [g294 c294]
theorem s321 (c294 : F294)  (y) : tevF (E321 c294 ) Tryz.f321 i321 o321 y = m321 c294  y := by kernel_rfl
noncomputable def r321 : F321 := m321 r294 
theorem k321 : CK Tryz.prog (g321 r321) := fn0 (s321 r294) (fnsL_ok ⟨k294, trivial⟩) rfl mixed (by kernel_rfl) (by kernel_rfl) (by kernel_rfl)
@[reducible] def i318 : List Ty := [.a q4, .v (.int .i64)]
@[reducible] def o318 : List Ty := [.a q4]
abbrev R318 := Option (PTup o318 × BTup i318)
abbrev F318 := PTup i318 → R318
abbrev g318 (c : F318) : Nat × Tev.Fn := (318, ⟨i318, o318, c, .nor⟩)
noncomputable def m318 (c294 : F294) (c321 : F321)  (y : PTup i318) : Option (PTup o318 × BTup i318) :=
  (c294 y.2).bind fun r0 =>
  (c321 y.2).bind fun r1 =>
  some (((r0.1.1, (y.1.2.1, (y.1.2.2.1, (y.1.2.2.2.1, (r1.1.1, (r1.1.2.1, y.1.2.2.2.2.2.2)))))), ()), ())
noncomputable def E318 (c294 : F294) (c321 : F321) := mkE [g294 c294, g321 c321]
theorem s318 (c294 : F294) (c321 : F321)  (y) : tevF (E318 c294 c321 ) Tryz.f318 i318 o318 y = m318 c294 c321  y := by kernel_rfl
noncomputable def r318 : F318 := m318 r294 r321 
theorem k318 : CK Tryz.prog (g318 r318) := fn0 (s318 r294 r321) (fnsL_ok ⟨k294, k321, trivial⟩) rfl mixed (by kernel_rfl) (by kernel_rfl) (by kernel_rfl)
@[reducible] def i319 : List Ty := [.v (.int .i64), .v (.int .i64), .v (.bool)]
@[reducible] def o319 : List Ty := [.v (.int .i64), .v (.bool)]
abbrev R319 := Option (PTup o319 × BTup i319)
abbrev F319 := PTup i319 → R319
abbrev g319 (c : F319) : Nat × Tev.Fn := (319, ⟨i319, o319, c, .nor⟩)
noncomputable def m319 (c294 : F294) (c115 : F115)  (y : PTup i319) : Option (PTup o319 × BTup i319) :=
  (c294 (y.1, ())).bind fun r0 =>
  (c294 (y.2.1, ())).bind fun r1 =>
  (c115 y.2.2).bind fun r2 =>
  (c294 ((wI ((wI (r0.1.1 + r1.1.1)) + r2.1.1)), ())).bind fun r3 =>
  some ((r3.1.1, ((ltI (255 : Int) (wI ((wI (r0.1.1 + r1.1.1)) + r2.1.1))), ())), ())
noncomputable def E319 (c294 : F294) (c115 : F115) := mkE [g294 c294, g115 c115]
theorem s319 (c294 : F294) (c115 : F115)  (y) : tevF (E319 c294 c115 ) Tryz.f319 i319 o319 y = m319 c294 c115  y := by kernel_rfl
noncomputable def r319 : F319 := m319 r294 r115 
theorem k319 : CK Tryz.prog (g319 r319) := fn0 (s319 r294 r115) (fnsL_ok ⟨k294, k115, trivial⟩) rfl mixed (by kernel_rfl) (by kernel_rfl) (by kernel_rfl)
@[reducible] def i320 : List Ty := [.v (.int .i64), .v (.int .i64), .v (.bool)]
@[reducible] def o320 : List Ty := [.v (.int .i64), .v (.bool)]
abbrev R320 := Option (PTup o320 × BTup i320)
abbrev F320 := PTup i320 → R320
abbrev g320 (c : F320) : Nat × Tev.Fn := (320, ⟨i320, o320, c, .nor⟩)
noncomputable def m320 (c294 : F294) (c115 : F115)  (y : PTup i320) : Option (PTup o320 × BTup i320) :=
  (c294 (y.1, ())).bind fun r0 =>
  (c294 (y.2.1, ())).bind fun r1 =>
  (c115 ((!y.2.2.1), ())).bind fun r2 =>
  (c294 ((wI ((wI (r0.1.1 - r1.1.1)) - r2.1.1)), ())).bind fun r3 =>
  some ((r3.1.1, ((leI (0 : Int) (wI ((wI (r0.1.1 - r1.1.1)) - r2.1.1))), ())), ())
noncomputable def E320 (c294 : F294) (c115 : F115) := mkE [g294 c294, g115 c115]
theorem s320 (c294 : F294) (c115 : F115)  (y) : tevF (E320 c294 c115 ) Tryz.f320 i320 o320 y = m320 c294 c115  y := by kernel_rfl
noncomputable def r320 : F320 := m320 r294 r115 
theorem k320 : CK Tryz.prog (g320 r320) := fn0 (s320 r294 r115) (fnsL_ok ⟨k294, k115, trivial⟩) rfl mixed (by kernel_rfl) (by kernel_rfl) (by kernel_rfl)
@[reducible] def i305 : List Ty := [.p q4, .a q12, .v (.int .i64)]
@[reducible] def o305 : List Ty := [.v (.bool)]
abbrev R305 := Option (PTup o305 × BTup i305)
abbrev F305 := PTup i305 → R305
abbrev g305 (c : F305) : Nat × Tev.Fn := (305, ⟨i305, o305, c, .nor⟩)
noncomputable def m305 (c319 : F319) (c318 : F318) (c321 : F321) (c320 : F320)  (y : PTup i305) : Option (PTup o305 × BTup i305) :=
  let a0 := y.1; let a1 := y.2; let a2 := a0.1; let a3 := a0.2; let a4 := a1.1; let a5 := a3.2; let a6 := a4.1; let a7 := a4.2; let a8 := a5.2; let a9 := a7.1; let a10 := a8.2.2; let a11 := a10.2.1; let X0 : R305 := bif (eqI a6 (4 : Int)) then (bif (eqI a6 (4 : Int)) then (bif (eqI a6 (29 : Int)) then ((c319 (a2, (a1.2.1, (a11, ())))).bind fun r0 => (c318 (a0, (r0.1.1, ()))).bind fun r1 => some ((true, ()), ((r1.1.1.1, (r1.1.1.2.1, (r1.1.1.2.2.1, (r1.1.1.2.2.2.1, (r1.1.1.2.2.2.2.1, (r1.1.1.2.2.2.2.2.1, (r0.1.2.1, r1.1.1.2.2.2.2.2.2.2))))))), ()))) else (c319 (a2, (a9, (a11, ())))).bind fun r0 => (c318 (a0, (r0.1.1, ()))).bind fun r1 => some ((true, ()), ((r1.1.1.1, (r1.1.1.2.1, (r1.1.1.2.2.1, (r1.1.1.2.2.2.1, (r1.1.1.2.2.2.2.1, (r1.1.1.2.2.2.2.2.1, (r0.1.2.1, r1.1.1.2.2.2.2.2.2.2))))))), ()))) else bif (eqI a6 (5 : Int)) then ((c320 (a2, (a9, (a11, ())))).bind fun r0 => (c318 (a0, (r0.1.1, ()))).bind fun r1 => some ((true, ()), ((r1.1.1.1, (r1.1.1.2.1, (r1.1.1.2.2.1, (r1.1.1.2.2.2.1, (r1.1.1.2.2.2.2.1, (r1.1.1.2.2.2.2.2.1, (r0.1.2.1, r1.1.1.2.2.2.2.2.2.2))))))), ()))) else bif (eqI a6 (6 : Int)) then ((c318 (a0, ((bAnd Go.IntKind.i64 a2 a9), ()))).bind fun r0 => some ((true, ()), (r0.1.1, ()))) else bif (eqI a6 (7 : Int)) then ((c318 (a0, ((bOr Go.IntKind.i64 a2 a9), ()))).bind fun r0 => some ((true, ()), (r0.1.1, ()))) else bif (eqI a6 (8 : Int)) then ((c318 (a0, ((bXor Go.IntKind.i64 a2 a9), ()))).bind fun r0 => some ((true, ()), (r0.1.1, ()))) else bif (eqI a6 (9 : Int)) then ((c320 (a2, (a9, (true, ())))).bind fun r0 => (c321 (r0.1.1, ())).bind fun r1 => some ((true, ()), ((a2, (a3.1, (a5.1, (a8.1, (r1.1.1, (r1.1.2.1, (r0.1.2.1, a10.2.2))))))), ()))) else some ((false, ()), (a0, ()))) else bif (eqI a6 (29 : Int)) then (bif (eqI a6 (29 : Int)) then ((c319 (a2, (a1.2.1, (a11, ())))).bind fun r0 => (c318 (a0, (r0.1.1, ()))).bind fun r1 => some ((true, ()), ((r1.1.1.1, (r1.1.1.2.1, (r1.1.1.2.2.1, (r1.1.1.2.2.2.1, (r1.1.1.2.2.2.2.1, (r1.1.1.2.2.2.2.2.1, (r0.1.2.1, r1.1.1.2.2.2.2.2.2.2))))))), ()))) else (c319 (a2, (a9, (a11, ())))).bind fun r0 => (c318 (a0, (r0.1.1, ()))).bind fun r1 => some ((true, ()), ((r1.1.1.1, (r1.1.1.2.1, (r1.1.1.2.2.1, (r1.1.1.2.2.2.1, (r1.1.1.2.2.2.2.1, (r1.1.1.2.2.2.2.2.1, (r0.1.2.1, r1.1.1.2.2.2.2.2.2.2))))))), ()))) else bif (eqI a6 (5 : Int)) then ((c320 (a2, (a9, (a11, ())))).bind fun r0 => (c318 (a0, (r0.1.1, ()))).bind fun r1 => some ((true, ()), ((r1.1.1.1, (r1.1.1.2.1, (r1.1.1.2.2.1, (r1.1.1.2.2.2.1, (r1.1.1.2.2.2.2.1, (r1.1.1.2.2.2.2.2.1, (r0.1.2.1, r1.1.1.2.2.2.2.2.2.2))))))), ()))) else bif (eqI a6 (6 : Int)) then ((c318 (a0, ((bAnd Go.IntKind.i64 a2 a9), ()))).bind fun r0 => some ((true, ()), (r0.1.1, ()))) else bif (eqI a6 (7 : Int)) then ((c318 (a0, ((bOr Go.IntKind.i64 a2 a9), ()))).bind fun r0 => some ((true, ()), (r0.1.1, ()))) else bif (eqI a6 (8 : Int)) then ((c318 (a0, ((bXor Go.IntKind.i64 a2 a9), ()))).bind fun r0 => some ((true, ()), (r0.1.1, ()))) else bif (eqI a6 (9 : Int)) then ((c320 (a2, (a9, (true, ())))).bind fun r0 => (c321 (r0.1.1, ())).bind fun r1 => some ((true, ()), ((a2, (a3.1, (a5.1, (a8.1, (r1.1.1, (r1.1.2.1, (r0.1.2.1, a10.2.2))))))), ()))) else some ((false, ()), (a0, ())); bif (eqI a6 (1 : Int)) then ((c318 (a0, a7)).bind fun r0 => some ((true, ()), (r0.1.1, ()))) else bif (eqI a6 (2 : Int)) then (bif (eqI a6 (2 : Int)) then ((c318 (a0, a1.2)).bind fun r0 => some ((true, ()), (r0.1.1, ()))) else X0) else bif (eqI a6 (14 : Int)) then ((c318 (a0, a1.2)).bind fun r0 => some ((true, ()), (r0.1.1, ()))) else X0
noncomputable def E305 (c319 : F319) (c318 : F318) (c321 : F321) (c320 : F320) := mkE [g319 c319, g318 c318, g321 c321, g320 c320]
theorem s305 (c319 : F319) (c318 : F318) (c321 : F321) (c320 : F320)  (y) : tevF (E305 c319 c318 c321 c320 ) Tryz.f305 i305 o305 y = m305 c319 c318 c321 c320  y := by kernel_rfl
noncomputable def r305 : F305 := m305 r319 r318 r321 r320 
theorem k305 : CK Tryz.prog (g305 r305) := fn0 (s305 r319 r318 r321 r320) (fnsL_ok ⟨k319, k318, k321, k320, trivial⟩) rfl mixed (by kernel_rfl) (by kernel_rfl) (by kernel_rfl)
@[reducible] def i322 : List Ty := [.a q4, .v (.int .i64)]
@[reducible] def o322 : List Ty := [.a q4]
abbrev R322 := Option (PTup o322 × BTup i322)
abbrev F322 := PTup i322 → R322
abbrev g322 (c : F322) : Nat × Tev.Fn := (322, ⟨i322, o322, c, .nor⟩)
noncomputable def m322 (c294 : F294) (c321 : F321)  (y : PTup i322) : Option (PTup o322 × BTup i322) :=
  (c294 y.2).bind fun r0 =>
  (c321 y.2).bind fun r1 =>
  some (((y.1.1, (r0.1.1, (y.1.2.2.1, (y.1.2.2.2.1, (r1.1.1, (r1.1.2.1, y.1.2.2.2.2.2.2)))))), ()), ())
noncomputable def E322 (c294 : F294) (c321 : F321) := mkE [g294 c294, g321 c321]
theorem s322 (c294 : F294) (c321 : F321)  (y) : tevF (E322 c294 c321 ) Tryz.f322 i322 o322 y = m322 c294 c321  y := by kernel_rfl
noncomputable def r322 : F322 := m322 r294 r321 
theorem k322 : CK Tryz.prog (g322 r322) := fn0 (s322 r294 r321) (fnsL_ok ⟨k294, k321, trivial⟩) rfl mixed (by kernel_rfl) (by kernel_rfl) (by kernel_rfl)
@[reducible] def i306 : List Ty := [.p q4, .a q12]
@[reducible] def o306 : List Ty := [.v (.bool)]
abbrev R306 := Option (PTup o306 × BTup i306)
abbrev F306 := PTup i306 → R306
abbrev g306 (c : F306) : Nat × Tev.Fn := (306, ⟨i306, o306, c, .nor⟩)
noncomputable def m306 (c318 : F318) (c322 : F322)  (y : PTup i306) : Option (PTup o306 × BTup i306) :=
  bif (eqI y.2.1.1 (10 : Int)) then ((c322 (y.1, (y.1.1, ()))).bind fun r0 =>
   some ((true, ()), (r0.1.1, ())))
  else bif (eqI y.2.1.1 (11 : Int)) then ((c318 (y.1, (y.1.2.1, ()))).bind fun r0 =>
   some ((true, ()), (r0.1.1, ())))
  else bif (eqI y.2.1.1 (12 : Int)) then ((c322 (y.1, ((wI (y.1.2.1 + (1 : Int))), ()))).bind fun r0 =>
   some ((true, ()), (r0.1.1, ())))
  else bif (eqI y.2.1.1 (13 : Int)) then ((c322 (y.1, ((wI (y.1.2.1 - (1 : Int))), ()))).bind fun r0 =>
   some ((true, ()), (r0.1.1, ())))
  else bif (eqI y.2.1.1 (25 : Int)) then (some ((true, ()), ((y.1.1, (y.1.2.1, (y.1.2.2.1, (y.1.2.2.2.1, (y.1.2.2.2.2.1, (y.1.2.2.2.2.2.1, (y.1.2.2.2.2.2.2.1, (true, ())))))))), ())))
  else bif (eqI y.2.1.1 (26 : Int)) then (some ((true, ()), ((y.1.1, (y.1.2.1, (y.1.2.2.1, (y.1.2.2.2.1, (y.1.2.2.2.2.1, (y.1.2.2.2.2.2.1, (y.1.2.2.2.2.2.2.1, (false, ())))))))), ())))
  else bif (eqI y.2.1.1 (27 : Int)) then (some ((true, ()), ((y.1.1, (y.1.2.1, (y.1.2.2.1, (y.1.2.2.2.1, (y.1.2.2.2.2.1, (y.1.2.2.2.2.2.1, (true, y.1.2.2.2.2.2.2.2))))))), ())))
  else bif (eqI y.2.1.1 (28 : Int)) then (some ((true, ()), ((y.1.1, (y.1.2.1, (y.1.2.2.1, (y.1.2.2.2.1, (y.1.2.2.2.2.1, (y.1.2.2.2.2.2.1, (false, y.1.2.2.2.2.2.2.2))))))), ())))
  else some ((false, ()), (y.1, ()))
noncomputable def E306 (c318 : F318) (c322 : F322) := mkE [g318 c318, g322 c322]
theorem s306 (c318 : F318) (c322 : F322)  (y) : tevF (E306 c318 c322 ) Tryz.f306 i306 o306 y = m306 c318 c322  y := by kernel_rfl
noncomputable def r306 : F306 := m306 r318 r322 
theorem k306 : CK Tryz.prog (g306 r306) := fn0 (s306 r318 r322) (fnsL_ok ⟨k318, k322, trivial⟩) rfl mixed (by kernel_rfl) (by kernel_rfl) (by kernel_rfl)
@[reducible] def i324 : List Ty := [.p q1, .p q4]
@[reducible] def o324 : List Ty := [.v (.int .i64)]
abbrev R324 := Option (PTup o324 × BTup i324)
abbrev F324 := PTup i324 → R324
abbrev g324 (c : F324) : Nat × Tev.Fn := (324, ⟨i324, o324, c, .nor⟩)
noncomputable def m324 (c294 : F294)  (y : PTup i324) : Option (PTup o324 × BTup i324) :=
  bif (neI (lenI y.1.1) (512 : Int)) then (some (((0 : Int), ()), (y.1, (y.2.1, ()))))
  else (c294 ((wI (y.2.1.2.2.1 + (1 : Int))), ())).bind fun r0 =>
  bif (leI (0 : Int) (wI ((256 : Int) + r0.1.1))) then (bif (ltI (wI ((256 : Int) + r0.1.1)) (lenI y.1.1)) then (some (((rdE .i y.1.1 (wI ((256 : Int) + r0.1.1))), ()), (y.1, ((y.2.1.1, (y.2.1.2.1, (r0.1.1, y.2.1.2.2.2))), ()))))
   else none)
  else none
noncomputable def E324 (c294 : F294) := mkE [g294 c294]
theorem s324 (c294 : F294)  (y) : tevF (E324 c294 ) Tryz.f324 i324 o324 y = m324 c294  y := by kernel_rfl
noncomputable def r324 : F324 := m324 r294 
theorem k324 : CK Tryz.prog (g324 r324) := fn0 (s324 r294) (fnsL_ok ⟨k294, trivial⟩) rfl mixed (by kernel_rfl) (by kernel_rfl) (by kernel_rfl)
@[reducible] def i323 : List Ty := [.p q1, .p q4]
@[reducible] def o323 : List Ty := []
abbrev R323 := Option (PTup o323 × BTup i323)
abbrev F323 := PTup i323 → R323
abbrev g323 (c : F323) : Nat × Tev.Fn := (323, ⟨i323, o323, c, .nor⟩)
noncomputable def m323 (c324 : F324) (c249 : F249)  (y : PTup i323) : Option (PTup o323 × BTup i323) :=
  (c324 (y.1, (y.2.1, ()))).bind fun r0 =>
  (c324 ((y.1.1, r0.2.1.2), (r0.2.2.1, ()))).bind fun r1 =>
  (c249 (r0.1.1, r1.1)).bind fun r2 =>
  some ((), ((y.1.1, r1.2.1.2), ((r1.2.2.1.1, (r1.2.2.1.2.1, (r1.2.2.1.2.2.1, (r2.1.1, r1.2.2.1.2.2.2.2)))), ())))
noncomputable def E323 (c324 : F324) (c249 : F249) := mkE [g324 c324, g249 c249]
theorem s323 (c324 : F324) (c249 : F249)  (y) : tevF (E323 c324 c249 ) Tryz.f323 i323 o323 y = m323 c324 c249  y := by kernel_rfl
noncomputable def r323 : F323 := m323 r324 r249 
theorem k323 : CK Tryz.prog (g323 r323) := fn0 (s323 r324 r249) (fnsL_ok ⟨k324, k249, trivial⟩) rfl mixed (by kernel_rfl) (by kernel_rfl) (by kernel_rfl)
@[reducible] def i325 : List Ty := [.a q4, .v (.int .i64)]
@[reducible] def o325 : List Ty := [.a q4]
abbrev R325 := Option (PTup o325 × BTup i325)
abbrev F325 := PTup i325 → R325
abbrev g325 (c : F325) : Nat × Tev.Fn := (325, ⟨i325, o325, c, .nor⟩)
noncomputable def m325   (y : PTup i325) : Option (PTup o325 × BTup i325) :=
  some (((y.1.1, (y.1.2.1, (y.1.2.2.1, (y.1.2.2.2.1, ((neI (bAnd Go.IntKind.i64 y.2.1 (2 : Int)) (0 : Int)), ((neI (bAnd Go.IntKind.i64 y.2.1 (128 : Int)) (0 : Int)), ((neI (bAnd Go.IntKind.i64 y.2.1 (1 : Int)) (0 : Int)), ((neI (bAnd Go.IntKind.i64 y.2.1 (4 : Int)) (0 : Int)), ())))))))), ()), ())
noncomputable def E325  := mkE []
theorem s325   (y) : tevF (E325  ) Tryz.f325 i325 o325 y = m325   y := by kernel_rfl
noncomputable def r325 : F325 := m325  
theorem k325 : CK Tryz.prog (g325 r325) := fn0 (s325 ) (fnsL_ok trivial) rfl mixed (by kernel_rfl) (by kernel_rfl) (by kernel_rfl)
@[reducible] def i307 : List Ty := [.p q3, .p q4, .a q12]
@[reducible] def o307 : List Ty := []
abbrev R307 := Option (PTup o307 × BTup i307)
abbrev F307 := PTup i307 → R307
abbrev g307 (c : F307) : Nat × Tev.Fn := (307, ⟨i307, o307, c, .nor⟩)
noncomputable def m307 (c323 : F323) (c324 : F324) (c296 : F296) (c295 : F295) (c299 : F299) (c318 : F318) (c325 : F325)  (y : PTup i307) : Option (PTup o307 × BTup i307) :=
  (c299 y.2.2.1.2).bind fun r0 => let X0 : R307 := some ((), (y.1, ((y.2.1.1, (y.2.1.2.1, (y.2.1.2.2.1, (r0.1.1, y.2.1.2.2.2.2)))), ()))); bif (eqI y.2.2.1.1 (16 : Int)) then (bif (!y.2.1.2.2.2.2.1) then X0 else some ((), (y.1, (y.2.1, ())))) else bif (eqI y.2.2.1.1 (17 : Int)) then (bif y.2.1.2.2.2.2.1 then X0 else some ((), (y.1, (y.2.1, ())))) else bif (eqI y.2.2.1.1 (18 : Int)) then (bif y.2.1.2.2.2.2.2.2.1 then X0 else some ((), (y.1, (y.2.1, ())))) else bif (eqI y.2.2.1.1 (19 : Int)) then X0 else bif (eqI y.2.2.1.1 (20 : Int)) then ((c295 (y.1, (y.2.1, ()))).bind fun r1 => some ((), (r1.2.1, ((r1.2.2.1.1, (r1.2.2.1.2.1, (r1.2.2.1.2.2.1, (r0.1.1, r1.2.2.1.2.2.2.2)))), ())))) else bif (eqI y.2.2.1.1 (21 : Int)) then ((c323 (y.1, (y.2.1, ()))).bind fun r1 => some ((), ((y.1.1, r1.2.1.2), (r1.2.2.1, ())))) else bif (eqI y.2.2.1.1 (22 : Int)) then ((c296 (y.1, (y.2.1, (y.2.1.1, ())))).bind fun r1 => some ((), (r1.2.1, (r1.2.2.1, ())))) else bif (eqI y.2.2.1.1 (23 : Int)) then ((c324 (y.1, (y.2.1, ()))).bind fun r1 => (c318 (r1.2.2.1, r1.1)).bind fun r2 => some ((), ((y.1.1, r1.2.1.2), (r2.1.1, ())))) else bif (eqI y.2.2.1.1 (24 : Int)) then ((c324 (y.1, (y.2.1, ()))).bind fun r1 => (c325 (r1.2.2.1, r1.1)).bind fun r2 => (c323 ((y.1.1, r1.2.1.2), (r2.1.1, ()))).bind fun r3 => some ((), ((y.1.1, r3.2.1.2), (r3.2.2.1, ())))) else some ((), (y.1, (y.2.1, ())))
noncomputable def E307 (c323 : F323) (c324 : F324) (c296 : F296) (c295 : F295) (c299 : F299) (c318 : F318) (c325 : F325) := mkE [g323 c323, g324 c324, g296 c296, g295 c295, g299 c299, g318 c318, g325 c325]
theorem s307 (c323 : F323) (c324 : F324) (c296 : F296) (c295 : F295) (c299 : F299) (c318 : F318) (c325 : F325)  (y) : tevF (E307 c323 c324 c296 c295 c299 c318 c325 ) Tryz.f307 i307 o307 y = m307 c323 c324 c296 c295 c299 c318 c325  y := by kernel_rfl
noncomputable def r307 : F307 := m307 r323 r324 r296 r295 r299 r318 r325 
theorem k307 : CK Tryz.prog (g307 r307) := fn0 (s307 r323 r324 r296 r295 r299 r318 r325) (fnsL_ok ⟨k323, k324, k296, k295, k299, k318, k325, trivial⟩) rfl mixed (by kernel_rfl) (by kernel_rfl) (by kernel_rfl)
@[reducible] def i254 : List Ty := [.p q3, .p q4, .a q12, .v (.int .i64)]
@[reducible] def o254 : List Ty := []
abbrev R254 := Option (PTup o254 × BTup i254)
abbrev F254 := PTup i254 → R254
abbrev g254 (c : F254) : Nat × Tev.Fn := (254, ⟨i254, o254, c, .nor⟩)
noncomputable def m254 (c305 : F305) (c306 : F306) (c307 : F307) (c299 : F299) (c294 : F294) (c248 : F248)  (y : PTup i254) : Option (PTup o254 × BTup i254) :=
  (c248 (y.2.2.1.1, ())).bind fun r0 =>
  (c299 ((wI (y.2.1.2.2.2.1 + r0.1.1)), ())).bind fun r1 =>
  (c294 y.2.2.2).bind fun r2 =>
  (c305 ((y.2.1.1, (y.2.1.2.1, (y.2.1.2.2.1, (r1.1.1, y.2.1.2.2.2.2)))), (y.2.2.1, r2.1))).bind fun r3 =>
  bif (!r3.1.1) then ((c306 (r3.2.1, (y.2.2.1, ()))).bind fun r4 =>
   bif (!r4.1.1) then ((c307 (y.1, (r4.2.1, (y.2.2.1, ())))).bind fun r5 =>
    some ((), (r5.2.1, (r5.2.2.1, ()))))
   else some ((), (y.1, (r4.2.1, ()))))
  else some ((), (y.1, (r3.2.1, ())))
noncomputable def E254 (c305 : F305) (c306 : F306) (c307 : F307) (c299 : F299) (c294 : F294) (c248 : F248) := mkE [g305 c305, g306 c306, g307 c307, g299 c299, g294 c294, g248 c248]
theorem s254 (c305 : F305) (c306 : F306) (c307 : F307) (c299 : F299) (c294 : F294) (c248 : F248)  (y) : tevF (E254 c305 c306 c307 c299 c294 c248 ) Tryz.f254 i254 o254 y = m254 c305 c306 c307 c299 c294 c248  y := by kernel_rfl
noncomputable def r254 : F254 := m254 r305 r306 r307 r299 r294 r248 
theorem k254 : CK Tryz.prog (g254 r254) := fn0 (s254 r305 r306 r307 r299 r294 r248) (fnsL_ok ⟨k305, k306, k307, k299, k294, k248, trivial⟩) rfl mixed (by kernel_rfl) (by kernel_rfl) (by kernel_rfl)
@[reducible] def i183 : List Ty := [.p [.sl false .n, .sl false .i, .sl true .i, .int .i64, .int .i64, .int .i64, .int .i64, .int .i64, .bool, .bool, .bool, .bool, .int .i64, .int .i64, .int .i64, .int .i64, .int .i64, .bool, .sl true .i, .sl false .i, .int .i64, .int .i64, .int .i64, .int .i64, .int .i64, .bool, .bool, .bool, .int .i64, .bool, .int .i64, .sl false .n, .sl false .i, .sl true .i], .a q12]
@[reducible] def o183 : List Ty := []
abbrev R183 := Option (PTup o183 × BTup i183)
abbrev F183 := PTup i183 → R183
abbrev g183 (c : F183) : Nat × Tev.Fn := (183, ⟨i183, o183, c, .nor⟩)
noncomputable def m183 (c252 : F252) (c253 : F253) (c254 : F254) (c251 : F251)  (y : PTup i183) : Option (PTup o183 × BTup i183) :=
  let a0 := y.1; let a1 := a0.2; let a2 := a1.2; let a3 := a2.2; let a4 := a3.2; let a5 := a4.2; let a6 := a5.2; let a7 := a6.2; let a8 := a7.2; let a9 := a8.2; let a10 := a9.2.2; let a11 := a10.2.2; let a12 := a11.2.2; let a13 := a12.2.2; let a14 := a13.2.2.2.2.2; let a15 := a14.2.2.2.2.2; (c251 (y.2.1, ((a4.1, (a5.1, (a6.1, (a7.1, (a8.1, (a9.1, (a9.2.1, (a10.1, ())))))))), ()))).bind fun r0 =>
  bif (eqI r0.1.1 (1 : Int)) then ((c252 (a0, (r0.1.2.1, ()))).bind fun r1 => let d0 := r1.2; let d1 := d0.1; let d2 := d1.2; let d3 := d2.2; let d4 := d3.2; let d5 := d4.2; let d6 := d5.2; let d7 := d6.2; let d8 := d7.2; let d9 := d8.2; let d10 := d9.2; let d11 := d10.2; let d12 := d11.2; let d13 := d12.2; let d14 := d13.2; let d15 := d14.2; let d16 := d15.2; let d17 := d16.2; let d18 := d17.2; let d19 := d18.2; let d20 := d19.2; let d21 := d20.2; let d22 := d21.2; let d23 := d22.2; let d24 := d23.2.2; let d25 := d24.2.2; (c254 ((a2.1, (d4.1, ())), ((d5.1, (d6.1, (d7.1, (d8.1, (d9.1, (d10.1, (d11.1, (d12.1, ())))))))), (y.2.1, r1.1)))).bind fun r2 =>
   some ((), ((a0.1, (a1.1, (r2.2.1.1, (r2.2.1.2.1, (r2.2.2.1.1, (r2.2.2.1.2.1, (r2.2.2.1.2.2.1, (r2.2.2.1.2.2.2.1, (r2.2.2.1.2.2.2.2.1, (r2.2.2.1.2.2.2.2.2.1, (r2.2.2.1.2.2.2.2.2.2.1, (r2.2.2.1.2.2.2.2.2.2.2.1, (d13.1, (d14.1, (d15.1, (d16.1, (d17.1, (d18.1, (a13.2.1, (a13.2.2.1, (d21.1, (d22.1, (d23.1, (d23.2.1, (d24.1, (d24.2.1, (d25.1, (d25.2.1, (d25.2.2.1, (d25.2.2.2.1, (d25.2.2.2.2.1, (a15.2.2.2.2.1, (a15.2.2.2.2.2.1, d25.2.2.2.2.2.2.2))))))))))))))))))))))))))))))))), ())))
  else bif (eqI r0.1.1 (2 : Int)) then ((c253 (a0, r0.1.2)).bind fun r1 => let d0 := r1.2; let d1 := d0.1; let d2 := d1.2; let d3 := d2.2; let d4 := d3.2; let d5 := d4.2; let d6 := d5.2; let d7 := d6.2; let d8 := d7.2; let d9 := d8.2; let d10 := d9.2; let d11 := d10.2; let d12 := d11.2; let d13 := d12.2; let d14 := d13.2; let d15 := d14.2; let d16 := d15.2; let d17 := d16.2; let d18 := d17.2; let d19 := d18.2; let d20 := d19.2; let d21 := d20.2; let d22 := d21.2; let d23 := d22.2.2; let d24 := d23.2.2; (c254 ((d3.1, (d4.1, ())), ((d5.1, (d6.1, (d7.1, (d8.1, (d9.1, (d10.1, (d11.1, (d12.1, ())))))))), (y.2.1, ((0 : Int), ()))))).bind fun r2 =>
   some ((), ((a0.1, (a1.1, (r2.2.1.1, (r2.2.1.2.1, (r2.2.2.1.1, (r2.2.2.1.2.1, (r2.2.2.1.2.2.1, (r2.2.2.1.2.2.2.1, (r2.2.2.1.2.2.2.2.1, (r2.2.2.1.2.2.2.2.2.1, (r2.2.2.1.2.2.2.2.2.2.1, (r2.2.2.1.2.2.2.2.2.2.2.1, (d13.1, (d14.1, (d15.1, (d16.1, (d17.1, (d18.1, (d19.1, (a13.2.2.1, (d21.1, (d22.1, (d22.2.1, (d23.1, (d23.2.1, (d24.1, (d24.2.1, (d24.2.2.1, (d24.2.2.2.1, (d24.2.2.2.2.1, (d24.2.2.2.2.2.1, a15.2.2.2.2))))))))))))))))))))))))))))))), ())))
  else (c254 ((a2.1, (a3.1, ())), ((a4.1, (a5.1, (a6.1, (a7.1, (a8.1, (a9.1, (a9.2.1, (a10.1, ())))))))), (y.2.1, r0.1.2.2)))).bind fun r1 =>
  some ((), ((a0.1, (a1.1, (r1.2.1.1, (r1.2.1.2.1, (r1.2.2.1.1, (r1.2.2.1.2.1, (r1.2.2.1.2.2.1, (r1.2.2.1.2.2.2.1, (r1.2.2.1.2.2.2.2.1, (r1.2.2.1.2.2.2.2.2.1, (r1.2.2.1.2.2.2.2.2.2.1, (r1.2.2.1.2.2.2.2.2.2.2.1, a10.2)))))))))))), ()))
noncomputable def E183 (c252 : F252) (c253 : F253) (c254 : F254) (c251 : F251) := mkE [g252 c252, g253 c253, g254 c254, g251 c251]
theorem s183 (c252 : F252) (c253 : F253) (c254 : F254) (c251 : F251)  (y) : tevF (E183 c252 c253 c254 c251 ) Tryz.f183 i183 o183 y = m183 c252 c253 c254 c251  y := by kernel_rfl
noncomputable def r183 : F183 := m183 r252 r253 r254 r251 
theorem k183 : CK Tryz.prog (g183 r183) := fn0 (s183 r252 r253 r254 r251) (fnsL_ok ⟨k252, k253, k254, k251, trivial⟩) rfl mixed (by kernel_rfl) (by kernel_rfl) (by kernel_rfl)
@[reducible] def i184 : List Ty := [.p q13]
@[reducible] def o184 : List Ty := []
abbrev R184 := Option (PTup o184 × BTup i184)
abbrev F184 := PTup i184 → R184
abbrev g184 (c : F184) : Nat × Tev.Fn := (184, ⟨i184, o184, c, .nor⟩)
noncomputable def m184 (c256 : F256) (c255 : F255)  (y : PTup i184) : Option (PTup o184 × BTup i184) :=
  let a0 := y.1; let a1 := a0.2; let a2 := a1.2; let a3 := a2.2; let a4 := a3.2; let a5 := a4.2; let a6 := a5.2; let a7 := a6.2; let a8 := a7.2; let a9 := a8.2; let a10 := a9.2; let a11 := a10.2; let a12 := a11.2; let a13 := a12.2; let a14 := a13.2; let a15 := a14.2; let a16 := a15.2; let a17 := a16.2; let a18 := a17.2; let a19 := a18.2; let a20 := a19.2; let a21 := a20.2; let a22 := a21.2; let a23 := a22.2; let a24 := a23.2; let a25 := a24.2; let a26 := a25.2; let a27 := a26.2; let a28 := a27.2; let a29 := a28.2; let a30 := a29.2; let a31 := a30.2; let a32 := a31.2; (c255 ((a12.1, (a13.1, (a14.1, (a15.1, (a16.1, (a17.1, (a18.1, (a19.1, ())))))))), ())).bind fun r0 => let b0 := r0.1; let b1 := r0.2; let b2 := b0.2; let b3 := b1.1; let b4 := b3.2; let b5 := b4.2; let b6 := b5.2; let b7 := b6.2; let b8 := b7.2; let b9 := b8.2.2; bif b0.1 then (bif (leN ((List.length a31.1) + (List.length (b2.1 :: []))) (E.most .n)) then (bif a29.1 then ((c256 ((a20.1, (a21.1, (a22.1, (a23.1, (a24.1, (a25.1, (a26.1, ()))))))), ())).bind fun r1 =>
     bif r1.1.2.1 then (bif (leN ((List.length a32.1) + (List.length (r1.1.1 :: []))) (E.most .i)) then (some ((), ((a0.1, (a1.1, (a2.1, (a3.1, (a4.1, (a5.1, (a6.1, (a7.1, (a8.1, (a9.1, (a10.1, (a11.1, (b3.1, (b4.1, (b5.1, (b6.1, (b7.1, (b8.1, (a18.1, (b9.1, (r1.2.1.1, (r1.2.1.2.1, (r1.2.1.2.2.1, (r1.2.1.2.2.2.1, (r1.2.1.2.2.2.2.1, (r1.2.1.2.2.2.2.2.1, (r1.2.1.2.2.2.2.2.2.1, (a27.1, (a28.1, (true, (a30.1, ((a31.1 ++ (b2.1 :: [])), ((a32.1 ++ (r1.1.1 :: [])), a32.2))))))))))))))))))))))))))))))))), ())))
      else none)
     else some ((), ((a0.1, (a1.1, (a2.1, (a3.1, (a4.1, (a5.1, (a6.1, (a7.1, (a8.1, (a9.1, (a10.1, (a11.1, (b3.1, (b4.1, (b5.1, (b6.1, (b7.1, (b8.1, (a18.1, (b9.1, (r1.2.1.1, (r1.2.1.2.1, (r1.2.1.2.2.1, (r1.2.1.2.2.2.1, (r1.2.1.2.2.2.2.1, (r1.2.1.2.2.2.2.2.1, (r1.2.1.2.2.2.2.2.2.1, (a27.1, (a28.1, (true, (a30.1, ((a31.1 ++ (b2.1 :: [])), a32)))))))))))))))))))))))))))))))), ())))
    else (c256 ((a20.1, (a21.1, (a22.1, (a23.1, (a24.1, (a25.1, (a26.1, ()))))))), ())).bind fun r1 =>
    bif r1.1.2.1 then (bif (leN ((List.length a32.1) + (List.length (r1.1.1 :: []))) (E.most .i)) then (some ((), ((a0.1, (a1.1, (a2.1, (a3.1, (a4.1, (a5.1, (a6.1, (a7.1, (a8.1, (a9.1, (a10.1, (a11.1, (b3.1, (b4.1, (b5.1, (b6.1, (b7.1, (b8.1, (a18.1, (b9.1, (r1.2.1.1, (r1.2.1.2.1, (r1.2.1.2.2.1, (r1.2.1.2.2.2.1, (r1.2.1.2.2.2.2.1, (r1.2.1.2.2.2.2.2.1, (r1.2.1.2.2.2.2.2.2.1, (a27.1, (a28.1, (b2.2.1, (a30.1, ((a31.1 ++ (b2.1 :: [])), ((a32.1 ++ (r1.1.1 :: [])), a32.2))))))))))))))))))))))))))))))))), ())))
     else none)
    else some ((), ((a0.1, (a1.1, (a2.1, (a3.1, (a4.1, (a5.1, (a6.1, (a7.1, (a8.1, (a9.1, (a10.1, (a11.1, (b3.1, (b4.1, (b5.1, (b6.1, (b7.1, (b8.1, (a18.1, (b9.1, (r1.2.1.1, (r1.2.1.2.1, (r1.2.1.2.2.1, (r1.2.1.2.2.2.1, (r1.2.1.2.2.2.2.1, (r1.2.1.2.2.2.2.2.1, (r1.2.1.2.2.2.2.2.2.1, (a27.1, (a28.1, (b2.2.1, (a30.1, ((a31.1 ++ (b2.1 :: [])), a32)))))))))))))))))))))))))))))))), ())))
   else none)
  else bif a29.1 then ((c256 ((a20.1, (a21.1, (a22.1, (a23.1, (a24.1, (a25.1, (a26.1, ()))))))), ())).bind fun r1 =>
   bif r1.1.2.1 then (bif (leN ((List.length a32.1) + (List.length (r1.1.1 :: []))) (E.most .i)) then (some ((), ((a0.1, (a1.1, (a2.1, (a3.1, (a4.1, (a5.1, (a6.1, (a7.1, (a8.1, (a9.1, (a10.1, (a11.1, (b3.1, (b4.1, (b5.1, (b6.1, (b7.1, (b8.1, (a18.1, (b9.1, (r1.2.1.1, (r1.2.1.2.1, (r1.2.1.2.2.1, (r1.2.1.2.2.2.1, (r1.2.1.2.2.2.2.1, (r1.2.1.2.2.2.2.2.1, (r1.2.1.2.2.2.2.2.2.1, (a27.1, (a28.1, (true, (a30.1, (a31.1, ((a32.1 ++ (r1.1.1 :: [])), a32.2))))))))))))))))))))))))))))))))), ())))
    else none)
   else some ((), ((a0.1, (a1.1, (a2.1, (a3.1, (a4.1, (a5.1, (a6.1, (a7.1, (a8.1, (a9.1, (a10.1, (a11.1, (b3.1, (b4.1, (b5.1, (b6.1, (b7.1, (b8.1, (a18.1, (b9.1, (r1.2.1.1, (r1.2.1.2.1, (r1.2.1.2.2.1, (r1.2.1.2.2.2.1, (r1.2.1.2.2.2.2.1, (r1.2.1.2.2.2.2.2.1, (r1.2.1.2.2.2.2.2.2.1, (a27.1, (a28.1, (true, a30)))))))))))))))))))))))))))))), ())))
  else (c256 ((a20.1, (a21.1, (a22.1, (a23.1, (a24.1, (a25.1, (a26.1, ()))))))), ())).bind fun r1 =>
  bif r1.1.2.1 then (bif (leN ((List.length a32.1) + (List.length (r1.1.1 :: []))) (E.most .i)) then (some ((), ((a0.1, (a1.1, (a2.1, (a3.1, (a4.1, (a5.1, (a6.1, (a7.1, (a8.1, (a9.1, (a10.1, (a11.1, (b3.1, (b4.1, (b5.1, (b6.1, (b7.1, (b8.1, (a18.1, (b9.1, (r1.2.1.1, (r1.2.1.2.1, (r1.2.1.2.2.1, (r1.2.1.2.2.2.1, (r1.2.1.2.2.2.2.1, (r1.2.1.2.2.2.2.2.1, (r1.2.1.2.2.2.2.2.2.1, (a27.1, (a28.1, (b2.2.1, (a30.1, (a31.1, ((a32.1 ++ (r1.1.1 :: [])), a32.2))))))))))))))))))))))))))))))))), ())))
   else none)
  else some ((), ((a0.1, (a1.1, (a2.1, (a3.1, (a4.1, (a5.1, (a6.1, (a7.1, (a8.1, (a9.1, (a10.1, (a11.1, (b3.1, (b4.1, (b5.1, (b6.1, (b7.1, (b8.1, (a18.1, (b9.1, (r1.2.1.1, (r1.2.1.2.1, (r1.2.1.2.2.1, (r1.2.1.2.2.2.1, (r1.2.1.2.2.2.2.1, (r1.2.1.2.2.2.2.2.1, (r1.2.1.2.2.2.2.2.2.1, (a27.1, (a28.1, (b2.2.1, a30)))))))))))))))))))))))))))))), ()))
noncomputable def E184 (c256 : F256) (c255 : F255) := mkE [g256 c256, g255 c255]
theorem s184 (c256 : F256) (c255 : F255)  (y) : tevF (E184 c256 c255 ) Tryz.f184 i184 o184 y = m184 c256 c255  y := by kernel_rfl
noncomputable def r184 : F184 := m184 r256 r255 
theorem k184 : CK Tryz.prog (g184 r184) := fn0 (s184 r256 r255) (fnsL_ok ⟨k256, k255, trivial⟩) rfl mixed (by kernel_rfl) (by kernel_rfl) (by kernel_rfl)
@[reducible] def i96 : List Ty := [.p q14]
@[reducible] def o96 : List Ty := [.v (.bool)]
abbrev R96 := Option (PTup o96 × BTup i96)
abbrev F96 := PTup i96 → R96
abbrev g96 (c : F96) : Nat × Tev.Fn := (96, ⟨i96, o96, c, .nor⟩)
@[reducible] def lc96_0 : List Ty := [.v (.int .i64)]
@[reducible] def lb96_0 : List Ty := [.p q13]
@[reducible] def lv96_0 : List Ty := [.v (.int .i64)]
@[reducible] def lr96_0 : List Ty := []
abbrev R96_0 := Option (Sum (PTup lv96_0) (PTup lr96_0) × BTup lb96_0)
abbrev B96_0 := PTup lb96_0 → PTup lv96_0 → R96_0
abbrev A96_0 := PTup lc96_0 → B96_0
noncomputable def w96_0 (c182 : F182) (c183 : F183) (c184 : F184) (c181 : F181) (c180 : F180)  (again : B96_0) (x : PTup lc96_0) (y : PTup lb96_0) (z : PTup lv96_0) : R96_0 :=
  bif (ltI z.1 x.1) then ((c184 (y.1, ())).bind fun r0 => let b0 := r0.2; let b1 := b0.1; let b2 := b1.2; let b3 := b2.2; let b4 := b3.2; let b5 := b4.2; let b6 := b5.2; let b7 := b6.2; let b8 := b7.2; let b9 := b8.2; let b10 := b9.2; let b11 := b10.2; let b12 := b11.2; let b13 := b12.2; let b14 := b13.2; let b15 := b14.2; let b16 := b15.2; let b17 := b16.2; let b18 := b17.2; let b19 := b18.2; let b20 := b19.2; let b21 := b20.2; let b22 := b21.2; let b23 := b22.2; let b24 := b23.2; let b25 := b24.2.2; let b26 := b25.2.2; again ((y.1.1, (y.1.2.1, (y.1.2.2.1, (b4.1, (b5.1, (b6.1, (b7.1, (b8.1, (b9.1, (b10.1, (b11.1, (b12.1, (b13.1, (b14.1, (b15.1, (b16.1, (b17.1, (b18.1, (y.1.2.2.2.2.2.2.2.2.2.2.2.2.2.2.2.2.2.2.1, (b20.1, (b21.1, (b22.1, (b23.1, (b24.1, (b24.2.1, (b25.1, (b25.2.1, (b26.1, (b26.2.1, (b26.2.2.1, (b26.2.2.2.1, (b26.2.2.2.2.1, (b26.2.2.2.2.2.1, y.1.2.2.2.2.2.2.2.2.2.2.2.2.2.2.2.2.2.2.2.2.2.2.2.2.2.2.2.2.2.2.2.2.2))))))))))))))))))))))))))))))))), ()) ((wI (z.1 + (1 : Int))), ()))
  else some ((Sum.inl z), (y.1, ()))
noncomputable def e96_0 (l : A96_0) : LoopE := ⟨[68], lc96_0, [0], lb96_0, [69], lv96_0, [], lr96_0, 1, [], l⟩
noncomputable def m96 (c182 : F182) (c183 : F183) (c184 : F184) (c181 : F181) (c180 : F180) (l0 : A96_0) (y : PTup i96) : Option (PTup o96 × BTup i96) :=
  let a0 := y.1; let a1 := a0.1; let a2 := a0.2; let a3 := a2.1; let a4 := a2.2; let a5 := a4.2; let a6 := a5.2; let a7 := a6.2; let a8 := a7.2; let a9 := a8.2; let a10 := a9.2; let a11 := a10.2; let a12 := a11.2; let a13 := a12.2; let a14 := a13.2; let a15 := a14.2; let a16 := a15.2; let a17 := a16.2; let a18 := a17.2; let a19 := a18.2; let a20 := a19.2; let a21 := a20.1; let a22 := a20.2; let a23 := a22.1; let a24 := a22.2; let a25 := a24.2; let a26 := a25.2; let a27 := a26.2; let a28 := a27.2; let a29 := a28.2; let a30 := a29.2; let a31 := a30.2; let a32 := a31.2; let a33 := a32.2; let a34 := a33.2; let a35 := a34.2; let a36 := a35.2; let a37 := a36.2; let X0 : R96 := (c182 ((a1, (a3, (a4.1, (a5.1, (a6.1, (a7.1, (a8.1, (a9.1, (a10.1, (a11.1, (a12.1, (a13.1, (a14.1, (a15.1, (a16.1, (a17.1, (a18.1, (a19.1, (a21, (a23, (a24.1, (a25.1, (a26.1, (a27.1, (a28.1, (a29.1, (a30.1, (a31.1, (a32.1, (false, a34)))))))))))))))))))))))))))))), ((65530 : Int), ()))).bind fun r2 => let f0 := r2.2; let f1 := f0.1; let f2 := f1.2; let f3 := f2.2; let f4 := f3.2; let f5 := f4.2; let f6 := f5.2; let f7 := f6.2; let f8 := f7.2; let f9 := f8.2; let f10 := f9.2; let f11 := f10.2; let f12 := f11.2; let f13 := f12.2; let f14 := f13.2; let f15 := f14.2; let f16 := f15.2; let f17 := f16.2; let f18 := f17.2; let f19 := f18.2; let f20 := f19.2; let f21 := f20.2; let f22 := f21.2; let f23 := f22.2.2; let f24 := f23.2.2; (l0 ((7 : Int), ()) ((a1, (a3, (f3.1, (f4.1, (f5.1, (f6.1, (f7.1, (f8.1, (f9.1, (f10.1, (f11.1, (f12.1, (f13.1, (f14.1, (f15.1, (f16.1, (f17.1, (f18.1, (a21, (a23, (f21.1, (f22.1, (f22.2.1, (f23.1, (f23.2.1, (f24.1, (f24.2.1, (f24.2.2.1, (f24.2.2.2.1, (f24.2.2.2.2.1, (f24.2.2.2.2.2.1, a35))))))))))))))))))))))))))))))), ()) ((0 : Int), ())).bind fun r3 => let g0 := r3.2; let g1 := g0.1; let g2 := g1.2; let g3 := g2.2; let g4 := g3.2; let g5 := g4.2; let g6 := g5.2; let g7 := g6.2; let g8 := g7.2; let g9 := g8.2; let g10 := g9.2; let g11 := g10.2; let g12 := g11.2; let g13 := g12.2; let g14 := g13.2; let g15 := g14.2; let g16 := g15.2; let g17 := g16.2; let g18 := g17.2; let g19 := g18.2; let g20 := g19.2; let g21 := g20.2; let g22 := g21.2; let g23 := g22.2; let g24 := g23.2; let g25 := g24.2; let g26 := g25.2; let g27 := g26.2; let g28 := g27.2; let g29 := g28.2; let g30 := g29.2.2; sumElim r3.1 (fun r4 => some ((true, ()), ((a1, (a3, (f3.1, (g4.1, (g5.1, (g6.1, (g7.1, (g8.1, (g9.1, (g10.1, (g11.1, (g12.1, (g13.1, (g14.1, (g15.1, (g16.1, (g17.1, (g18.1, (a21, (g20.1, (g21.1, (g22.1, (g23.1, (g24.1, (g25.1, (g26.1, (g27.1, (g28.1, (g29.1, (g29.2.1, ((wI (g30.1 + (1 : Int))), (g30.2.1, (g30.2.2.1, a37))))))))))))))))))))))))))))))))), ()))) (fun r4 => some ((false, ()), ((a1, (a3, (f3.1, (g4.1, (g5.1, (g6.1, (g7.1, (g8.1, (g9.1, (g10.1, (g11.1, (g12.1, (g13.1, (g14.1, (g15.1, (g16.1, (g17.1, (g18.1, (a21, (g20.1, (g21.1, (g22.1, (g23.1, (g24.1, (g25.1, (g26.1, (g27.1, (g28.1, (g29.1, (g29.2.1, (g30.1, (g30.2.1, (g30.2.2.1, a37))))))))))))))))))))))))))))))))), ()))); let X1 : R96 := (c182 (a0, ((65534 : Int), ()))).bind fun r2 => let f0 := r2.2; let f1 := f0.1; let f2 := f1.2; let f3 := f2.2; let f4 := f3.2; let f5 := f4.2; let f6 := f5.2; let f7 := f6.2; let f8 := f7.2; let f9 := f8.2; let f10 := f9.2; let f11 := f10.2; let f12 := f11.2; let f13 := f12.2; let f14 := f13.2; let f15 := f14.2; let f16 := f15.2; let f17 := f16.2; let f18 := f17.2; let f19 := f18.2; let f20 := f19.2; let f21 := f20.2; let f22 := f21.2; let f23 := f22.2.2; let f24 := f23.2.2; (l0 ((7 : Int), ()) ((a1, (a3, (f3.1, (f4.1, (f5.1, (f6.1, (f7.1, (f8.1, (f9.1, (f10.1, (f11.1, (f12.1, (f13.1, (f14.1, (f15.1, (f16.1, (f17.1, (f18.1, (a21, (a23, (f21.1, (f22.1, (f22.2.1, (f23.1, (f23.2.1, (f24.1, (f24.2.1, (f24.2.2.1, (f24.2.2.2.1, (f24.2.2.2.2.1, (f24.2.2.2.2.2.1, a35))))))))))))))))))))))))))))))), ()) ((0 : Int), ())).bind fun r3 => let g0 := r3.2; let g1 := g0.1; let g2 := g1.2; let g3 := g2.2; let g4 := g3.2; let g5 := g4.2; let g6 := g5.2; let g7 := g6.2; let g8 := g7.2; let g9 := g8.2; let g10 := g9.2; let g11 := g10.2; let g12 := g11.2; let g13 := g12.2; let g14 := g13.2; let g15 := g14.2; let g16 := g15.2; let g17 := g16.2; let g18 := g17.2; let g19 := g18.2; let g20 := g19.2; let g21 := g20.2; let g22 := g21.2; let g23 := g22.2; let g24 := g23.2; let g25 := g24.2; let g26 := g25.2; let g27 := g26.2; let g28 := g27.2; let g29 := g28.2; let g30 := g29.2.2; sumElim r3.1 (fun r4 => some ((true, ()), ((a1, (a3, (f3.1, (g4.1, (g5.1, (g6.1, (g7.1, (g8.1, (g9.1, (g10.1, (g11.1, (g12.1, (g13.1, (g14.1, (g15.1, (g16.1, (g17.1, (g18.1, (a21, (g20.1, (g21.1, (g22.1, (g23.1, (g24.1, (g25.1, (g26.1, (g27.1, (g28.1, (g29.1, (g29.2.1, ((wI (g30.1 + (1 : Int))), (g30.2.1, (g30.2.2.1, a37))))))))))))))))))))))))))))))))), ()))) (fun r4 => some ((false, ()), ((a1, (a3, (f3.1, (g4.1, (g5.1, (g6.1, (g7.1, (g8.1, (g9.1, (g10.1, (g11.1, (g12.1, (g13.1, (g14.1, (g15.1, (g16.1, (g17.1, (g18.1, (a21, (g20.1, (g21.1, (g22.1, (g23.1, (g24.1, (g25.1, (g26.1, (g27.1, (g28.1, (g29.1, (g29.2.1, (g30.1, (g30.2.1, (g30.2.2.1, a37))))))))))))))))))))))))))))))))), ()))); bif a33.1 then ((c180 ((a1, ()), ((a4.1, (a5.1, ())), (a9.1, ())))).bind fun r0 => (c181 (r0.1.1.1, ())).bind fun r1 => bif (ltI (20000 : Int) (wI (a14.1 + (7 : Int)))) then (some ((false, ()), (a0, ()))) else bif a33.1 then X0 else X1) else bif a30.1 then ((c180 ((a1, ()), ((a4.1, (a5.1, ())), (a9.1, ())))).bind fun r0 => (c181 (r0.1.1.1, ())).bind fun r1 => bif (!a13.1) then (bif (ltI (20000 : Int) (wI (a14.1 + (7 : Int)))) then (some ((false, ()), (a0, ()))) else bif a33.1 then X0 else bif (!a13.1) then X1 else (c183 (a0, (r0.1.1, ()))).bind fun r2 => let f0 := r2.2; let f1 := f0.1; let f2 := f1.2; let f3 := f2.2; let f4 := f3.2; let f5 := f4.2; let f6 := f5.2; let f7 := f6.2; let f8 := f7.2; let f9 := f8.2; let f10 := f9.2; let f11 := f10.2; let f12 := f11.2; let f13 := f12.2; let f14 := f13.2; let f15 := f14.2; let f16 := f15.2; let f17 := f16.2; let f18 := f17.2; let f19 := f18.2; let f20 := f19.2; let f21 := f20.2; let f22 := f21.2; let f23 := f22.2; let f24 := f23.2; let f25 := f24.2; let f26 := f25.2.2; let f27 := f26.2.2; let f28 := f27.2.2.2.2.2; (l0 ((7 : Int), ()) ((a1, (a3, (f3.1, (f4.1, (f5.1, (f6.1, (f7.1, (f8.1, (f9.1, (f10.1, (f11.1, (f12.1, (f13.1, (f14.1, (f15.1, (f16.1, (f17.1, (f18.1, (f19.1, (a23, (f21.1, (f22.1, (f23.1, (f24.1, (f25.1, (f25.2.1, (f26.1, (f26.2.1, (f27.1, (f27.2.1, (f27.2.2.1, (a35.1, (a36.1, f28))))))))))))))))))))))))))))))))), ()) ((0 : Int), ())).bind fun r3 => let g0 := r3.2; let g1 := g0.1; let g2 := g1.2; let g3 := g2.2; let g4 := g3.2; let g5 := g4.2; let g6 := g5.2; let g7 := g6.2; let g8 := g7.2; let g9 := g8.2; let g10 := g9.2; let g11 := g10.2; let g12 := g11.2; let g13 := g12.2; let g14 := g13.2; let g15 := g14.2; let g16 := g15.2; let g17 := g16.2; let g18 := g17.2; let g19 := g18.2; let g20 := g19.2; let g21 := g20.2; let g22 := g21.2; let g23 := g22.2; let g24 := g23.2; let g25 := g24.2; let g26 := g25.2; let g27 := g26.2; let g28 := g27.2; let g29 := g28.2; let g30 := g29.2.2; sumElim r3.1 (fun r4 => some ((true, ()), ((a1, (a3, (f3.1, (g4.1, (g5.1, (g6.1, (g7.1, (g8.1, (g9.1, (g10.1, (g11.1, (g12.1, (g13.1, (g14.1, (g15.1, (g16.1, (g17.1, (g18.1, (f19.1, (g20.1, (g21.1, (g22.1, (g23.1, (g24.1, (g25.1, (g26.1, (g27.1, (g28.1, (g29.1, (g29.2.1, ((wI (g30.1 + (1 : Int))), (g30.2.1, (g30.2.2.1, f28))))))))))))))))))))))))))))))))), ()))) (fun r4 => some ((false, ()), ((a1, (a3, (f3.1, (g4.1, (g5.1, (g6.1, (g7.1, (g8.1, (g9.1, (g10.1, (g11.1, (g12.1, (g13.1, (g14.1, (g15.1, (g16.1, (g17.1, (g18.1, (f19.1, (g20.1, (g21.1, (g22.1, (g23.1, (g24.1, (g25.1, (g26.1, (g27.1, (g28.1, (g29.1, (g29.2.1, (g30.1, (g30.2.1, (g30.2.2.1, f28))))))))))))))))))))))))))))))))), ())))) else bif (ltI (20000 : Int) (wI (a14.1 + r1.1.1))) then (some ((false, ()), (a0, ()))) else bif a33.1 then ((c182 ((a1, (a3, (a4.1, (a5.1, (a6.1, (a7.1, (a8.1, (a9.1, (a10.1, (a11.1, (a12.1, (a13.1, (a14.1, (a15.1, (a16.1, (a17.1, (a18.1, (a19.1, (a21, (a23, (a24.1, (a25.1, (a26.1, (a27.1, (a28.1, (a29.1, (a30.1, (a31.1, (a32.1, (false, a34)))))))))))))))))))))))))))))), ((65530 : Int), ()))).bind fun r2 => let f0 := r2.2; let f1 := f0.1; let f2 := f1.2; let f3 := f2.2; let f4 := f3.2; let f5 := f4.2; let f6 := f5.2; let f7 := f6.2; let f8 := f7.2; let f9 := f8.2; let f10 := f9.2; let f11 := f10.2; let f12 := f11.2; let f13 := f12.2; let f14 := f13.2; let f15 := f14.2; let f16 := f15.2; let f17 := f16.2; let f18 := f17.2; let f19 := f18.2; let f20 := f19.2; let f21 := f20.2; let f22 := f21.2; let f23 := f22.2.2; let f24 := f23.2.2; (l0 r1.1 ((a1, (a3, (f3.1, (f4.1, (f5.1, (f6.1, (f7.1, (f8.1, (f9.1, (f10.1, (f11.1, (f12.1, (f13.1, (f14.1, (f15.1, (f16.1, (f17.1, (f18.1, (a21, (a23, (f21.1, (f22.1, (f22.2.1, (f23.1, (f23.2.1, (f24.1, (f24.2.1, (f24.2.2.1, (f24.2.2.2.1, (f24.2.2.2.2.1, (f24.2.2.2.2.2.1, a35))))))))))))))))))))))))))))))), ()) ((0 : Int), ())).bind fun r3 => let g0 := r3.2; let g1 := g0.1; let g2 := g1.2; let g3 := g2.2; let g4 := g3.2; let g5 := g4.2; let g6 := g5.2; let g7 := g6.2; let g8 := g7.2; let g9 := g8.2; let g10 := g9.2; let g11 := g10.2; let g12 := g11.2; let g13 := g12.2; let g14 := g13.2; let g15 := g14.2; let g16 := g15.2; let g17 := g16.2; let g18 := g17.2; let g19 := g18.2; let g20 := g19.2; let g21 := g20.2; let g22 := g21.2; let g23 := g22.2; let g24 := g23.2; let g25 := g24.2; let g26 := g25.2; let g27 := g26.2; let g28 := g27.2; let g29 := g28.2; let g30 := g29.2.2; sumElim r3.1 (fun r4 => some ((true, ()), ((a1, (a3, (f3.1, (g4.1, (g5.1, (g6.1, (g7.1, (g8.1, (g9.1, (g10.1, (g11.1, (g12.1, (g13.1, (g14.1, (g15.1, (g16.1, (g17.1, (g18.1, (a21, (g20.1, (g21.1, (g22.1, (g23.1, (g24.1, (g25.1, (g26.1, (g27.1, (g28.1, (g29.1, (g29.2.1, ((wI (g30.1 + (1 : Int))), (g30.2.1, (g30.2.2.1, a37))))))))))))))))))))))))))))))))), ()))) (fun r4 => some ((false, ()), ((a1, (a3, (f3.1, (g4.1, (g5.1, (g6.1, (g7.1, (g8.1, (g9.1, (g10.1, (g11.1, (g12.1, (g13.1, (g14.1, (g15.1, (g16.1, (g17.1, (g18.1, (a21, (g20.1, (g21.1, (g22.1, (g23.1, (g24.1, (g25.1, (g26.1, (g27.1, (g28.1, (g29.1, (g29.2.1, (g30.1, (g30.2.1, (g30.2.2.1, a37))))))))))))))))))))))))))))))))), ())))) else bif (!a13.1) then ((c182 (a0, ((65534 : Int), ()))).bind fun r2 => let f0 := r2.2; let f1 := f0.1; let f2 := f1.2; let f3 := f2.2; let f4 := f3.2; let f5 := f4.2; let f6 := f5.2; let f7 := f6.2; let f8 := f7.2; let f9 := f8.2; let f10 := f9.2; let f11 := f10.2; let f12 := f11.2; let f13 := f12.2; let f14 := f13.2; let f15 := f14.2; let f16 := f15.2; let f17 := f16.2; let f18 := f17.2; let f19 := f18.2; let f20 := f19.2; let f21 := f20.2; let f22 := f21.2; let f23 := f22.2.2; let f24 := f23.2.2; (l0 r1.1 ((a1, (a3, (f3.1, (f4.1, (f5.1, (f6.1, (f7.1, (f8.1, (f9.1, (f10.1, (f11.1, (f12.1, (f13.1, (f14.1, (f15.1, (f16.1, (f17.1, (f18.1, (a21, (a23, (f21.1, (f22.1, (f22.2.1, (f23.1, (f23.2.1, (f24.1, (f24.2.1, (f24.2.2.1, (f24.2.2.2.1, (f24.2.2.2.2.1, (f24.2.2.2.2.2.1, a35))))))))))))))))))))))))))))))), ()) ((0 : Int), ())).bind fun r3 => let g0 := r3.2; let g1 := g0.1; let g2 := g1.2; let g3 := g2.2; let g4 := g3.2; let g5 := g4.2; let g6 := g5.2; let g7 := g6.2; let g8 := g7.2; let g9 := g8.2; let g10 := g9.2; let g11 := g10.2; let g12 := g11.2; let g13 := g12.2; let g14 := g13.2; let g15 := g14.2; let g16 := g15.2; let g17 := g16.2; let g18 := g17.2; let g19 := g18.2; let g20 := g19.2; let g21 := g20.2; let g22 := g21.2; let g23 := g22.2; let g24 := g23.2; let g25 := g24.2; let g26 := g25.2; let g27 := g26.2; let g28 := g27.2; let g29 := g28.2; let g30 := g29.2.2; sumElim r3.1 (fun r4 => some ((true, ()), ((a1, (a3, (f3.1, (g4.1, (g5.1, (g6.1, (g7.1, (g8.1, (g9.1, (g10.1, (g11.1, (g12.1, (g13.1, (g14.1, (g15.1, (g16.1, (g17.1, (g18.1, (a21, (g20.1, (g21.1, (g22.1, (g23.1, (g24.1, (g25.1, (g26.1, (g27.1, (g28.1, (g29.1, (g29.2.1, ((wI (g30.1 + (1 : Int))), (g30.2.1, (g30.2.2.1, a37))))))))))))))))))))))))))))))))), ()))) (fun r4 => some ((false, ()), ((a1, (a3, (f3.1, (g4.1, (g5.1, (g6.1, (g7.1, (g8.1, (g9.1, (g10.1, (g11.1, (g12.1, (g13.1, (g14.1, (g15.1, (g16.1, (g17.1, (g18.1, (a21, (g20.1, (g21.1, (g22.1, (g23.1, (g24.1, (g25.1, (g26.1, (g27.1, (g28.1, (g29.1, (g29.2.1, (g30.1, (g30.2.1, (g30.2.2.1, a37))))))))))))))))))))))))))))))))), ())))) else (c183 (a0, (r0.1.1, ()))).bind fun r2 => let f0 := r2.2; let f1 := f0.1; let f2 := f1.2; let f3 := f2.2; let f4 := f3.2; let f5 := f4.2; let f6 := f5.2; let f7 := f6.2; let f8 := f7.2; let f9 := f8.2; let f10 := f9.2; let f11 := f10.2; let f12 := f11.2; let f13 := f12.2; let f14 := f13.2; let f15 := f14.2; let f16 := f15.2; let f17 := f16.2; let f18 := f17.2; let f19 := f18.2; let f20 := f19.2; let f21 := f20.2; let f22 := f21.2; let f23 := f22.2; let f24 := f23.2; let f25 := f24.2; let f26 := f25.2.2; let f27 := f26.2.2; let f28 := f27.2.2.2.2.2; (l0 r1.1 ((a1, (a3, (f3.1, (f4.1, (f5.1, (f6.1, (f7.1, (f8.1, (f9.1, (f10.1, (f11.1, (f12.1, (f13.1, (f14.1, (f15.1, (f16.1, (f17.1, (f18.1, (f19.1, (a23, (f21.1, (f22.1, (f23.1, (f24.1, (f25.1, (f25.2.1, (f26.1, (f26.2.1, (f27.1, (f27.2.1, (f27.2.2.1, (a35.1, (a36.1, f28))))))))))))))))))))))))))))))))), ()) ((0 : Int), ())).bind fun r3 => let g0 := r3.2; let g1 := g0.1; let g2 := g1.2; let g3 := g2.2; let g4 := g3.2; let g5 := g4.2; let g6 := g5.2; let g7 := g6.2; let g8 := g7.2; let g9 := g8.2; let g10 := g9.2; let g11 := g10.2; let g12 := g11.2; let g13 := g12.2; let g14 := g13.2; let g15 := g14.2; let g16 := g15.2; let g17 := g16.2; let g18 := g17.2; let g19 := g18.2; let g20 := g19.2; let g21 := g20.2; let g22 := g21.2; let g23 := g22.2; let g24 := g23.2; let g25 := g24.2; let g26 := g25.2; let g27 := g26.2; let g28 := g27.2; let g29 := g28.2; let g30 := g29.2.2; sumElim r3.1 (fun r4 => some ((true, ()), ((a1, (a3, (f3.1, (g4.1, (g5.1, (g6.1, (g7.1, (g8.1, (g9.1, (g10.1, (g11.1, (g12.1, (g13.1, (g14.1, (g15.1, (g16.1, (g17.1, (g18.1, (f19.1, (g20.1, (g21.1, (g22.1, (g23.1, (g24.1, (g25.1, (g26.1, (g27.1, (g28.1, (g29.1, (g29.2.1, ((wI (g30.1 + (1 : Int))), (g30.2.1, (g30.2.2.1, f28))))))))))))))))))))))))))))))))), ()))) (fun r4 => some ((false, ()), ((a1, (a3, (f3.1, (g4.1, (g5.1, (g6.1, (g7.1, (g8.1, (g9.1, (g10.1, (g11.1, (g12.1, (g13.1, (g14.1, (g15.1, (g16.1, (g17.1, (g18.1, (f19.1, (g20.1, (g21.1, (g22.1, (g23.1, (g24.1, (g25.1, (g26.1, (g27.1, (g28.1, (g29.1, (g29.2.1, (g30.1, (g30.2.1, (g30.2.2.1, f28))))))))))))))))))))))))))))))))), ())))) else (c180 ((a1, ()), ((a4.1, (a5.1, ())), (a9.1, ())))).bind fun r0 => (c181 (r0.1.1.1, ())).bind fun r1 => bif (ltI (20000 : Int) (wI (a14.1 + r1.1.1))) then (some ((false, ()), (a0, ()))) else bif a33.1 then ((c182 ((a1, (a3, (a4.1, (a5.1, (a6.1, (a7.1, (a8.1, (a9.1, (a10.1, (a11.1, (a12.1, (a13.1, (a14.1, (a15.1, (a16.1, (a17.1, (a18.1, (a19.1, (a21, (a23, (a24.1, (a25.1, (a26.1, (a27.1, (a28.1, (a29.1, (a30.1, (a31.1, (a32.1, (false, a34)))))))))))))))))))))))))))))), ((65530 : Int), ()))).bind fun r2 => let f0 := r2.2; let f1 := f0.1; let f2 := f1.2; let f3 := f2.2; let f4 := f3.2; let f5 := f4.2; let f6 := f5.2; let f7 := f6.2; let f8 := f7.2; let f9 := f8.2; let f10 := f9.2; let f11 := f10.2; let f12 := f11.2; let f13 := f12.2; let f14 := f13.2; let f15 := f14.2; let f16 := f15.2; let f17 := f16.2; let f18 := f17.2; let f19 := f18.2; let f20 := f19.2; let f21 := f20.2; let f22 := f21.2; let f23 := f22.2.2; let f24 := f23.2.2; (l0 r1.1 ((a1, (a3, (f3.1, (f4.1, (f5.1, (f6.1, (f7.1, (f8.1, (f9.1, (f10.1, (f11.1, (f12.1, (f13.1, (f14.1, (f15.1, (f16.1, (f17.1, (f18.1, (a21, (a23, (f21.1, (f22.1, (f22.2.1, (f23.1, (f23.2.1, (f24.1, (f24.2.1, (f24.2.2.1, (f24.2.2.2.1, (f24.2.2.2.2.1, (f24.2.2.2.2.2.1, a35))))))))))))))))))))))))))))))), ()) ((0 : Int), ())).bind fun r3 => let g0 := r3.2; let g1 := g0.1; let g2 := g1.2; let g3 := g2.2; let g4 := g3.2; let g5 := g4.2; let g6 := g5.2; let g7 := g6.2; let g8 := g7.2; let g9 := g8.2; let g10 := g9.2; let g11 := g10.2; let g12 := g11.2; let g13 := g12.2; let g14 := g13.2; let g15 := g14.2; let g16 := g15.2; let g17 := g16.2; let g18 := g17.2; let g19 := g18.2; let g20 := g19.2; let g21 := g20.2; let g22 := g21.2; let g23 := g22.2; let g24 := g23.2; let g25 := g24.2; let g26 := g25.2; let g27 := g26.2; let g28 := g27.2; let g29 := g28.2; let g30 := g29.2.2; sumElim r3.1 (fun r4 => some ((true, ()), ((a1, (a3, (f3.1, (g4.1, (g5.1, (g6.1, (g7.1, (g8.1, (g9.1, (g10.1, (g11.1, (g12.1, (g13.1, (g14.1, (g15.1, (g16.1, (g17.1, (g18.1, (a21, (g20.1, (g21.1, (g22.1, (g23.1, (g24.1, (g25.1, (g26.1, (g27.1, (g28.1, (g29.1, (g29.2.1, ((wI (g30.1 + (1 : Int))), (g30.2.1, (g30.2.2.1, a37))))))))))))))))))))))))))))))))), ()))) (fun r4 => some ((false, ()), ((a1, (a3, (f3.1, (g4.1, (g5.1, (g6.1, (g7.1, (g8.1, (g9.1, (g10.1, (g11.1, (g12.1, (g13.1, (g14.1, (g15.1, (g16.1, (g17.1, (g18.1, (a21, (g20.1, (g21.1, (g22.1, (g23.1, (g24.1, (g25.1, (g26.1, (g27.1, (g28.1, (g29.1, (g29.2.1, (g30.1, (g30.2.1, (g30.2.2.1, a37))))))))))))))))))))))))))))))))), ())))) else (c183 (a0, (r0.1.1, ()))).bind fun r2 => let f0 := r2.2; let f1 := f0.1; let f2 := f1.2; let f3 := f2.2; let f4 := f3.2; let f5 := f4.2; let f6 := f5.2; let f7 := f6.2; let f8 := f7.2; let f9 := f8.2; let f10 := f9.2; let f11 := f10.2; let f12 := f11.2; let f13 := f12.2; let f14 := f13.2; let f15 := f14.2; let f16 := f15.2; let f17 := f16.2; let f18 := f17.2; let f19 := f18.2; let f20 := f19.2; let f21 := f20.2; let f22 := f21.2; let f23 := f22.2; let f24 := f23.2; let f25 := f24.2; let f26 := f25.2.2; let f27 := f26.2.2; let f28 := f27.2.2.2.2.2; (l0 r1.1 ((a1, (a3, (f3.1, (f4.1, (f5.1, (f6.1, (f7.1, (f8.1, (f9.1, (f10.1, (f11.1, (f12.1, (f13.1, (f14.1, (f15.1, (f16.1, (f17.1, (f18.1, (f19.1, (a23, (f21.1, (f22.1, (f23.1, (f24.1, (f25.1, (f25.2.1, (f26.1, (f26.2.1, (f27.1, (f27.2.1, (f27.2.2.1, (a35.1, (a36.1, f28))))))))))))))))))))))))))))))))), ()) ((0 : Int), ())).bind fun r3 => let g0 := r3.2; let g1 := g0.1; let g2 := g1.2; let g3 := g2.2; let g4 := g3.2; let g5 := g4.2; let g6 := g5.2; let g7 := g6.2; let g8 := g7.2; let g9 := g8.2; let g10 := g9.2; let g11 := g10.2; let g12 := g11.2; let g13 := g12.2; let g14 := g13.2; let g15 := g14.2; let g16 := g15.2; let g17 := g16.2; let g18 := g17.2; let g19 := g18.2; let g20 := g19.2; let g21 := g20.2; let g22 := g21.2; let g23 := g22.2; let g24 := g23.2; let g25 := g24.2; let g26 := g25.2; let g27 := g26.2; let g28 := g27.2; let g29 := g28.2; let g30 := g29.2.2; sumElim r3.1 (fun r4 => some ((true, ()), ((a1, (a3, (f3.1, (g4.1, (g5.1, (g6.1, (g7.1, (g8.1, (g9.1, (g10.1, (g11.1, (g12.1, (g13.1, (g14.1, (g15.1, (g16.1, (g17.1, (g18.1, (f19.1, (g20.1, (g21.1, (g22.1, (g23.1, (g24.1, (g25.1, (g26.1, (g27.1, (g28.1, (g29.1, (g29.2.1, ((wI (g30.1 + (1 : Int))), (g30.2.1, (g30.2.2.1, f28))))))))))))))))))))))))))))))))), ()))) (fun r4 => some ((false, ()), ((a1, (a3, (f3.1, (g4.1, (g5.1, (g6.1, (g7.1, (g8.1, (g9.1, (g10.1, (g11.1, (g12.1, (g13.1, (g14.1, (g15.1, (g16.1, (g17.1, (g18.1, (f19.1, (g20.1, (g21.1, (g22.1, (g23.1, (g24.1, (g25.1, (g26.1, (g27.1, (g28.1, (g29.1, (g29.2.1, (g30.1, (g30.2.1, (g30.2.2.1, f28))))))))))))))))))))))))))))))))), ())))
noncomputable def E96 (c182 : F182) (c183 : F183) (c184 : F184) (c181 : F181) (c180 : F180) (l0 : A96_0) : CEnv := ⟨⟨Tryz.prog, fnsL [g182 c182, g183 c183, g184 c184, g181 c181, g180 c180]⟩, loopsL [(15, e96_0 l0)]⟩
theorem t96_0 (c182 : F182) (c183 : F183) (c184 : F184) (c181 : F181) (c180 : F180) (l0 : A96_0) (again) (x y z) : loopRound (E96 c182 c183 c184 c181 c180 l0) (loopAt (bodyOf Tryz.f96) 0) (e96_0 l0) Tryz.f96.ntmps again x y z = w96_0 c182 c183 c184 c181 c180  again x y z := by kernel_rfl
noncomputable def n96_0 (c182 : F182) (c183 : F183) (c184 : F184) (c181 : F181) (c180 : F180)  : Nat → A96_0
  | 0, _, _, _ => none
  | n + 1, x, y, z => w96_0 c182 c183 c184 c181 c180  (fun y z => n96_0 c182 c183 c184 c181 c180  n x y z) x y z
theorem s96 (c182 : F182) (c183 : F183) (c184 : F184) (c181 : F181) (c180 : F180) (l0 : A96_0) (y) : tevF (E96 c182 c183 c184 c181 c180 l0) Tryz.f96 i96 o96 y = m96 c182 c183 c184 c181 c180 l0 y := by kernel_rfl
noncomputable def L96_0 : A96_0 := n96_0 r182 r183 r184 r181 r180  fuel
noncomputable def r96 : F96 := m96 r182 r183 r184 r181 r180 L96_0
theorem k96 : CK Tryz.prog (g96 r96) := by
  have hE : ∀ g f, (E96 r182 r183 r184 r181 r180 L96_0).env.fns g = some f → CallOk Tryz.prog g f := fnsL_ok ⟨k182, k183, k184, k181, k180, trivial⟩
  have h0 : LoopOk Tryz.prog Tryz.f96.ntmps (loopAt (bodyOf Tryz.f96) 0) (e96_0 L96_0) := lp_ok (E := E96 r182 r183 r184 r181 r180 L96_0) rfl hE mixed (AllLoops.of_list (l := []) (by kernel_rfl) trivial) (n96_0 r182 r183 r184 r181 r180 ) (fun _ _ _ => rfl) (fun n x y z => t96_0 r182 r183 r184 r181 r180 L96_0 _ x y z) rfl
  exact fn_ok (E := E96 r182 r183 r184 r181 r180 L96_0) rfl hE mixed (by kernel_rfl) (by kernel_rfl) (AllLoops.of_list (l := [(loopAt (bodyOf Tryz.f96) 0)]) (by kernel_rfl) (.one (by kernel_rfl) h0 trivial)) (s96 r182 r183 r184 r181 r180 L96_0)
@[reducible] def i25 : List Ty := [.a q9, .v (.int .i64)]
@[reducible] def o25 : List Ty := [.a q11, .v (.int .i64)]
abbrev R25 := Option (PTup o25 × BTup i25)
abbrev F25 := PTup i25 → R25
abbrev g25 (c : F25) : Nat × Tev.Fn := (25, ⟨i25, o25, c, .nor⟩)
@[reducible] def lc25_0 : List Ty := [.v (.int .i64)]
@[reducible] def lb25_0 : List Ty := [.p q14]
@[reducible] def lv25_0 : List Ty := [.v (.int .i64)]
@[reducible] def lr25_0 : List Ty := []
abbrev R25_0 := Option (Sum (PTup lv25_0) (PTup lr25_0) × BTup lb25_0)
abbrev B25_0 := PTup lb25_0 → PTup lv25_0 → R25_0
abbrev A25_0 := PTup lc25_0 → B25_0
noncomputable def w25_0 (c96 : F96) (c94 : F94) (c95 : F95)  (again : B25_0) (x : PTup lc25_0) (y : PTup lb25_0) (z : PTup lv25_0) : R25_0 :=
  bif (ltI z.1 (mnI x.1 (3000 : Int))) then ((c96 (y.1, ())).bind fun r0 =>
   bif (!r0.1.1) then (some ((Sum.inl z), ((y.1.1, (y.1.2.1, r0.2.1.2.2)), ())))
   else again ((y.1.1, (y.1.2.1, r0.2.1.2.2)), ()) ((wI (z.1 + (1 : Int))), ()))
  else some ((Sum.inl z), (y.1, ()))
noncomputable def e25_0 (l : A25_0) : LoopE := ⟨[1], lc25_0, [6], lb25_0, [7], lv25_0, [], lr25_0, 0, [], l⟩
noncomputable def m25 (c96 : F96) (c94 : F94) (c95 : F95) (l0 : A25_0) (y : PTup i25) : Option (PTup o25 × BTup i25) :=
  let X0 : R25 := some ((([], ([], ([], ((0 : Int), ((0 : Int), ((0 : Int), ((0 : Int), ((0 : Int), (false, (false, (false, (false, ((0 : Int), ((0 : Int), ((0 : Int), ((0 : Int), ((0 : Int), (false, ([], ([], ((0 : Int), ((0 : Int), ((0 : Int), ((0 : Int), ((0 : Int), (false, (false, (false, ((0 : Int), (false, ((0 : Int), ([], ([], ([], ())))))))))))))))))))))))))))))))))), ((0 : Int), ())), ()); (c94 (y.1, ())).bind fun r0 => bif (!r0.1.1) then X0 else (c95 (y.1, ())).bind fun r1 => (l0 y.2 (r1.1.1, ()) ((0 : Int), ())).bind fun r2 => sumElim r2.1 (fun r3 => some (((r1.1.1.1, (r1.1.1.2.1, r2.2.1.2.2)), r3), ())) (fun r3 => X0)
noncomputable def E25 (c96 : F96) (c94 : F94) (c95 : F95) (l0 : A25_0) : CEnv := ⟨⟨Tryz.prog, fnsL [g96 c96, g94 c94, g95 c95]⟩, loopsL [(5, e25_0 l0)]⟩
theorem t25_0 (c96 : F96) (c94 : F94) (c95 : F95) (l0 : A25_0) (again) (x y z) : loopRound (E25 c96 c94 c95 l0) (loopAt (bodyOf Tryz.f25) 0) (e25_0 l0) Tryz.f25.ntmps again x y z = w25_0 c96 c94 c95  again x y z := by kernel_rfl
noncomputable def n25_0 (c96 : F96) (c94 : F94) (c95 : F95)  : Nat → A25_0
  | 0, _, _, _ => none
  | n + 1, x, y, z => w25_0 c96 c94 c95  (fun y z => n25_0 c96 c94 c95  n x y z) x y z
theorem s25 (c96 : F96) (c94 : F94) (c95 : F95) (l0 : A25_0) (y) : tevF (E25 c96 c94 c95 l0) Tryz.f25 i25 o25 y = m25 c96 c94 c95 l0 y := by kernel_rfl
noncomputable def L25_0 : A25_0 := n25_0 r96 r94 r95  fuel
noncomputable def r25 : F25 := m25 r96 r94 r95 L25_0
theorem k25 : CK Tryz.prog (g25 r25) := by
  have hE : ∀ g f, (E25 r96 r94 r95 L25_0).env.fns g = some f → CallOk Tryz.prog g f := fnsL_ok ⟨k96, k94, k95, trivial⟩
  have h0 : LoopOk Tryz.prog Tryz.f25.ntmps (loopAt (bodyOf Tryz.f25) 0) (e25_0 L25_0) := lp_ok (E := E25 r96 r94 r95 L25_0) rfl hE mixed (AllLoops.of_list (l := []) (by kernel_rfl) trivial) (n25_0 r96 r94 r95 ) (fun _ _ _ => rfl) (fun n x y z => t25_0 r96 r94 r95 L25_0 _ x y z) rfl
  exact fn_ok (E := E25 r96 r94 r95 L25_0) rfl hE mixed (by kernel_rfl) (by kernel_rfl) (AllLoops.of_list (l := [(loopAt (bodyOf Tryz.f25) 0)]) (by kernel_rfl) (.one (by kernel_rfl) h0 trivial)) (s25 r96 r94 r95 L25_0)
@[reducible] def i99 : List Ty := [.a q8, .a q8]
@[reducible] def o99 : List Ty := [.v (.bool)]
abbrev R99 := Option (PTup o99 × BTup i99)
abbrev F99 := PTup i99 → R99
abbrev g99 (c : F99) : Nat × Tev.Fn := (99, ⟨i99, o99, c, .nor⟩)
noncomputable def m99 (c35 : F35) (c162 : F162)  (y : PTup i99) : Option (PTup o99 × BTup i99) :=
  (c162 (y.1.1, (y.2.1.1, ()))).bind fun r0 =>
  bif (!r0.1.1) then (some ((false, ()), ()))
  else (c35 (y.1.2.1, (y.2.1.2.1, ()))).bind fun r1 =>
  bif (!r1.1.1) then (some ((false, ()), ()))
  else (c35 (y.1.2.2.1, y.2.1.2.2)).bind fun r2 =>
  bif (!r2.1.1) then (some ((false, ()), ()))
  else some ((true, ()), ())
noncomputable def E99 (c35 : F35) (c162 : F162) := mkE [g35 c35, g162 c162]
theorem s99 (c35 : F35) (c162 : F162)  (y) : tevF (E99 c35 c162 ) Tryz.f99 i99 o99 y = m99 c35 c162  y := by kernel_rfl
noncomputable def r99 : F99 := m99 r35 r162 
theorem k99 : CK Tryz.prog (g99 r99) := fn0 (s99 r35 r162) (fnsL_ok ⟨k35, k162, trivial⟩) rfl mixed (by kernel_rfl) (by kernel_rfl) (by kernel_rfl)
@[reducible] def i26 : List Ty := [.a q9, .a q9]
@[reducible] def o26 : List Ty := [.v (.bool)]
abbrev R26 := Option (PTup o26 × BTup i26)
abbrev F26 := PTup i26 → R26
abbrev g26 (c : F26) : Nat × Tev.Fn := (26, ⟨i26, o26, c, .nor⟩)
noncomputable def m26 (c98 : F98) (c73 : F73) (c71 : F71) (c35 : F35) (c72 : F72) (c99 : F99) (c74 : F74) (c97 : F97)  (y : PTup i26) : Option (PTup o26 × BTup i26) :=
  let a0 := y.1; let a1 := y.2; let a2 := a0.2; let a3 := a1.1; let a4 := a2.2; let a5 := a3.2; let a6 := a4.2; let a7 := a5.2; let a8 := a6.2; let a9 := a7.2; let a10 := a8.2; let a11 := a9.2; let a12 := a10.2; let a13 := a11.2; let a14 := a12.2; let a15 := a13.2; let a16 := a14.2; let a17 := a15.2; let a18 := a16.2; let a19 := a17.2; let a20 := a18.2; let a21 := a19.2; let a22 := a20.2; let a23 := a21.2; let a24 := a22.2; let a25 := a23.2; let a26 := a24.2; let a27 := a25.2; let a28 := a26.2; let a29 := a27.2; let a30 := a28.2; let a31 := a29.2; let a32 := a30.2; let a33 := a31.2; let a34 := a32.2; let a35 := a33.2; let a36 := a34.2; let a37 := a35.2; let a38 := a36.2; let a39 := a37.2; let a40 := a38.2; let a41 := a39.2; let a42 := a40.2; let a43 := a41.2; let a44 := a42.2; let a45 := a43.2; let a46 := a45.2; let a47 := a44.2.2; let a48 := a46.2.2; let a49 := a47.2.2; let a50 := a48.2.2; (c71 ((a0.1, ()), ((a3.1, ()), ()))).bind fun r0 =>
  bif (!r0.1.1) then (some ((false, ()), ()))
  else (c35 (a2.1, (a5.1, ()))).bind fun r1 =>
  bif (!r1.1.1) then (some ((false, ()), ()))
  else (c72 ((a4.1, (a6.1, ())), ((a7.1, (a9.1, ())), ()))).bind fun r2 =>
  bif (!r2.1.1) then (some ((false, ()), ()))
  else (c73 ((a8.1, (a10.1, (a12.1, (a14.1, (a16.1, (a18.1, (a20.1, (a22.1, ())))))))), ((a11.1, (a13.1, (a15.1, (a17.1, (a19.1, (a21.1, (a23.1, (a25.1, ())))))))), ()))).bind fun r3 =>
  bif (!r3.1.1) then (some ((false, ()), ()))
  else (c97 ((a24.1, (a26.1, (a28.1, (a30.1, (a32.1, (a34.1, (a36.1, (a38.1, ())))))))), ((a27.1, (a29.1, (a31.1, (a33.1, (a35.1, (a37.1, (a39.1, (a41.1, ())))))))), ()))).bind fun r4 =>
  bif (!r4.1.1) then (some ((false, ()), ()))
  else (c98 ((a40.1, (a42.1, (a44.1, (a44.2.1, (a47.1, (a47.2.1, (a49.1, ()))))))), ((a43.1, (a45.1, (a46.1, (a46.2.1, (a48.1, (a48.2.1, (a50.1, ()))))))), ()))).bind fun r5 =>
  bif (!r5.1.1) then (some ((false, ()), ()))
  else (c74 ((a49.2.1, (a49.2.2.1, ())), ((a50.2.1, (a50.2.2.1, ())), ()))).bind fun r6 =>
  bif (!r6.1.1) then (some ((false, ()), ()))
  else bif (!(a49.2.2.2.1 == a50.2.2.2.1)) then (some ((false, ()), ()))
  else bif (neI a49.2.2.2.2.1 a50.2.2.2.2.1) then (some ((false, ()), ()))
  else (c99 (a49.2.2.2.2.2, (a50.2.2.2.2.2, ()))).bind fun r7 =>
  bif (!r7.1.1) then (some ((false, ()), ()))
  else some ((true, ()), ())
noncomputable def E26 (c98 : F98) (c73 : F73) (c71 : F71) (c35 : F35) (c72 : F72) (c99 : F99) (c74 : F74) (c97 : F97) := mkE [g98 c98, g73 c73, g71 c71, g35 c35, g72 c72, g99 c99, g74 c74, g97 c97]
theorem s26 (c98 : F98) (c73 : F73) (c71 : F71) (c35 : F35) (c72 : F72) (c99 : F99) (c74 : F74) (c97 : F97)  (y) : tevF (E26 c98 c73 c71 c35 c72 c99 c74 c97 ) Tryz.f26 i26 o26 y = m26 c98 c73 c71 c35 c72 c99 c74 c97  y := by kernel_rfl
noncomputable def r26 : F26 := m26 r98 r73 r71 r35 r72 r99 r74 r97 
theorem k26 : CK Tryz.prog (g26 r26) := fn0 (s26 r98 r73 r71 r35 r72 r99 r74 r97) (fnsL_ok ⟨k98, k73, k71, k35, k72, k99, k74, k97, trivial⟩) rfl mixed (by kernel_rfl) (by kernel_rfl) (by kernel_rfl)
@[reducible] def i101 : List Ty := [.a q10, .v (.int .i64)]
@[reducible] def o101 : List Ty := [.v (.int .i64), .a q10]
abbrev R101 := Option (PTup o101 × BTup i101)
abbrev F101 := PTup i101 → R101
abbrev g101 (c : F101) : Nat × Tev.Fn := (101, ⟨i101, o101, c, .inp⟩)
noncomputable def m101 (c36 : F36) (c164 : F164)  (y : PTup i101) : Option (PTup o101 × BTup i101) :=
  (c164 (y.1.1, y.2)).bind fun r0 =>
  (c36 (y.1.2.1, (r0.1.1, ()))).bind fun r1 =>
  (c36 (y.1.2.2.1, (r1.1.1, ()))).bind fun r2 =>
  some ((r2.1.1, ((r0.1.2.1, (r1.1.2.1, r2.1.2)), ())), ())
noncomputable def E101 (c36 : F36) (c164 : F164) := mkE [g36 c36, g164 c164]
theorem s101 (c36 : F36) (c164 : F164)  (y) : tevM (E101 c36 c164 ) Tryz.f101 i101 o101 y = m101 c36 c164  y := by kernel_rfl
noncomputable def r101 : F101 := m101 r36 r164 
theorem k101 : CK Tryz.prog (g101 r101) := by
  exact fnM_ok (E := E101 r36 r164 ) rfl (fnsL_ok ⟨k36, k164, trivial⟩) mixed (by kernel_rfl) (by kernel_rfl) (AllLoops.of_list (l := []) (by kernel_rfl) trivial) (s101 r36 r164 )
@[reducible] def i27 : List Ty := [.a q11, .v (.int .i64)]
@[reducible] def o27 : List Ty := [.v (.int .i64), .a q11]
abbrev R27 := Option (PTup o27 × BTup i27)
abbrev F27 := PTup i27 → R27
abbrev g27 (c : F27) : Nat × Tev.Fn := (27, ⟨i27, o27, c, .inp⟩)
noncomputable def m27 (c77 : F77) (c36 : F36) (c78 : F78) (c101 : F101) (c100 : F100)  (y : PTup i27) : Option (PTup o27 × BTup i27) :=
  let a0 := y.1; let a1 := a0.2; let a2 := a1.2; let a3 := a2.2; let a4 := a3.2; let a5 := a4.2; let a6 := a5.2; let a7 := a6.2; let a8 := a7.2; let a9 := a8.2; let a10 := a9.2; let a11 := a10.2; let a12 := a11.2; let a13 := a12.2; let a14 := a13.2; let a15 := a14.2; let a16 := a15.2; let a17 := a16.2; let a18 := a17.2; let a19 := a18.2; let a20 := a19.2; let a21 := a20.2; let a22 := a21.2; let a23 := a22.2.2; let a24 := a23.2.2; (c77 ((a0.1, ()), y.2)).bind fun r0 =>
  (c36 (a1.1, (r0.1.1, ()))).bind fun r1 =>
  (c78 ((a2.1, (a3.1, ())), (r1.1.1, ()))).bind fun r2 =>
  (c100 ((a12.1, (a13.1, (a14.1, (a15.1, (a16.1, (a17.1, (a18.1, (a19.1, ())))))))), (r2.1.1, ()))).bind fun r3 =>
  (c101 (a24.2.2.2.2.2, (r3.1.1, ()))).bind fun r4 =>
  some ((r4.1.1, ((r0.1.2.1.1, (r1.1.2.1, (r2.1.2.1.1, (a3.1, (a4.1, (a5.1, (a6.1, (a7.1, (a8.1, (a9.1, (a10.1, (a11.1, (a12.1, (a13.1, (a14.1, (a15.1, (a16.1, (a17.1, (r3.1.2.1.2.2.2.2.2.2.1, (r3.1.2.1.2.2.2.2.2.2.2.1, (a20.1, (a21.1, (a22.1, (a22.2.1, (a23.1, (a23.2.1, (a24.1, (a24.2.1, (a24.2.2.1, (a24.2.2.2.1, (a24.2.2.2.2.1, r4.1.2.1))))))))))))))))))))))))))))))), ())), ())
noncomputable def E27 (c77 : F77) (c36 : F36) (c78 : F78) (c101 : F101) (c100 : F100) := mkE [g77 c77, g36 c36, g78 c78, g101 c101, g100 c100]
theorem s27 (c77 : F77) (c36 : F36) (c78 : F78) (c101 : F101) (c100 : F100)  (y) : tevM (E27 c77 c36 c78 c101 c100 ) Tryz.f27 i27 o27 y = m27 c77 c36 c78 c101 c100  y := by kernel_rfl
noncomputable def r27 : F27 := m27 r77 r36 r78 r101 r100 
theorem k27 : CK Tryz.prog (g27 r27) := by
  exact fnM_ok (E := E27 r77 r36 r78 r101 r100 ) rfl (fnsL_ok ⟨k77, k36, k78, k101, k100, trivial⟩) mixed (by kernel_rfl) (by kernel_rfl) (AllLoops.of_list (l := []) (by kernel_rfl) trivial) (s27 r77 r36 r78 r101 r100 )
@[reducible] def i103 : List Ty := [.a q8, .v (.int .i64)]
@[reducible] def o103 : List Ty := [.v (.int .i64)]
abbrev R103 := Option (PTup o103 × BTup i103)
abbrev F103 := PTup i103 → R103
abbrev g103 (c : F103) : Nat × Tev.Fn := (103, ⟨i103, o103, c, .nor⟩)
noncomputable def m103 (c37 : F37) (c166 : F166)  (y : PTup i103) : Option (PTup o103 × BTup i103) :=
  (c166 (y.1.1, y.2)).bind fun r0 =>
  bif (ltI r0.1.1 (0 : Int)) then (some (((-(1 : Int)), ()), ()))
  else (c37 (y.1.2.1, r0.1)).bind fun r1 =>
  bif (ltI r1.1.1 (0 : Int)) then (some (((-(1 : Int)), ()), ()))
  else (c37 (y.1.2.2.1, r1.1)).bind fun r2 =>
  bif (ltI r2.1.1 (0 : Int)) then (some (((-(1 : Int)), ()), ()))
  else some (r2.1, ())
noncomputable def E103 (c37 : F37) (c166 : F166) := mkE [g37 c37, g166 c166]
theorem s103 (c37 : F37) (c166 : F166)  (y) : tevF (E103 c37 c166 ) Tryz.f103 i103 o103 y = m103 c37 c166  y := by kernel_rfl
noncomputable def r103 : F103 := m103 r37 r166 
theorem k103 : CK Tryz.prog (g103 r103) := fn0 (s103 r37 r166) (fnsL_ok ⟨k37, k166, trivial⟩) rfl mixed (by kernel_rfl) (by kernel_rfl) (by kernel_rfl)
@[reducible] def i28 : List Ty := [.a q9, .v (.int .i64)]
@[reducible] def o28 : List Ty := [.v (.int .i64)]
abbrev R28 := Option (PTup o28 × BTup i28)
abbrev F28 := PTup i28 → R28
abbrev g28 (c : F28) : Nat × Tev.Fn := (28, ⟨i28, o28, c, .nor⟩)
noncomputable def m28 (c81 : F81) (c37 : F37) (c82 : F82) (c103 : F103) (c102 : F102)  (y : PTup i28) : Option (PTup o28 × BTup i28) :=
  (c81 ((y.1.1, ()), y.2)).bind fun r0 =>
  bif (ltI r0.1.1 (0 : Int)) then (some (((-(1 : Int)), ()), ()))
  else (c37 (y.1.2.1, r0.1)).bind fun r1 =>
  bif (ltI r1.1.1 (0 : Int)) then (some (((-(1 : Int)), ()), ()))
  else (c82 ((y.1.2.2.1, (y.1.2.2.2.1, ())), r1.1)).bind fun r2 =>
  bif (ltI r2.1.1 (0 : Int)) then (some (((-(1 : Int)), ()), ()))
  else (c102 ((y.1.2.2.2.2.2.2.2.2.2.2.2.2.1, (y.1.2.2.2.2.2.2.2.2.2.2.2.2.2.1, (y.1.2.2.2.2.2.2.2.2.2.2.2.2.2.2.1, (y.1.2.2.2.2.2.2.2.2.2.2.2.2.2.2.2.1, (y.1.2.2.2.2.2.2.2.2.2.2.2.2.2.2.2.2.1, (y.1.2.2.2.2.2.2.2.2.2.2.2.2.2.2.2.2.2.1, (y.1.2.2.2.2.2.2.2.2.2.2.2.2.2.2.2.2.2.2.1, (y.1.2.2.2.2.2.2.2.2.2.2.2.2.2.2.2.2.2.2.2.1, ())))))))), r2.1)).bind fun r3 =>
  bif (ltI r3.1.1 (0 : Int)) then (some (((-(1 : Int)), ()), ()))
  else (c103 (y.1.2.2.2.2.2.2.2.2.2.2.2.2.2.2.2.2.2.2.2.2.2.2.2.2.2.2.2.2.2.2.2, r3.1)).bind fun r4 =>
  bif (ltI r4.1.1 (0 : Int)) then (some (((-(1 : Int)), ()), ()))
  else some (r4.1, ())
noncomputable def E28 (c81 : F81) (c37 : F37) (c82 : F82) (c103 : F103) (c102 : F102) := mkE [g81 c81, g37 c37, g82 c82, g103 c103, g102 c102]
theorem s28 (c81 : F81) (c37 : F37) (c82 : F82) (c103 : F103) (c102 : F102)  (y) : tevF (E28 c81 c37 c82 c103 c102 ) Tryz.f28 i28 o28 y = m28 c81 c37 c82 c103 c102  y := by kernel_rfl
noncomputable def r28 : F28 := m28 r81 r37 r82 r103 r102 
theorem k28 : CK Tryz.prog (g28 r28) := fn0 (s28 r81 r37 r82 r103 r102) (fnsL_ok ⟨k81, k37, k82, k103, k102, trivial⟩) rfl mixed (by kernel_rfl) (by kernel_rfl) (by kernel_rfl)
@[reducible] def i4 : List Ty := [.a q9, .v (.int .i64)]
@[reducible] def o4 : List Ty := [.v (.bool)]
abbrev R4 := Option (PTup o4 × BTup i4)
abbrev F4 := PTup i4 → R4
abbrev g4 (c : F4) : Nat × Tev.Fn := (4, ⟨i4, o4, c, .nor⟩)
noncomputable def m4 (c25 : F25) (c26 : F26) (c28 : F28) (c27 : F27) (c22 : F22) (c24 : F24) (c23 : F23)  (y : PTup i4) : Option (PTup o4 × BTup i4) :=
  (c22 (y.1, ((1048576 : Int), ()))).bind fun r0 =>
  bif (ltI r0.1.1 (0 : Int)) then (some ((true, ()), ()))
  else (c24 (y.1, ())).bind fun r1 =>
  (c23 (r1.1.1, y.2)).bind fun r2 =>
  (c24 (y.1, ())).bind fun r3 =>
  (c25 (r3.1.1, y.2)).bind fun r4 => let h0 := r4.1; let h1 := h0.1; let h2 := h1.2; let h3 := h2.2; let h4 := h3.2; let h5 := h4.2; let h6 := h5.2; let h7 := h6.2; let h8 := h7.2; let h9 := h8.2; let h10 := h9.2; let h11 := h10.2; let h12 := h11.2; let h13 := h12.2; let h14 := h13.2; let h15 := h14.2; let h16 := h15.2; let h17 := h16.2; let h18 := h17.2; let h19 := h18.2; let h20 := h19.2; let h21 := h20.2; let h22 := h21.2; let h23 := h22.2; let h24 := h23.2; let h25 := h24.2; let h26 := h25.2; let h27 := h26.2; let h28 := h27.2.2; (c26 (h1, (r2.1.1, ()))).bind fun r5 =>
  bif (!r5.1.1) then (some ((false, ()), ()))
  else bif (neI h0.2.1 r2.1.2.1) then (some ((false, ()), ()))
  else (c24 (y.1, ())).bind fun r6 =>
  (c26 (r3.1.1, (r6.1.1, ()))).bind fun r7 =>
  bif (!r7.1.1) then (some ((false, ()), ()))
  else (c27 (r3.1.1, ((1 : Int), ()))).bind fun r8 =>
  bif (ltI r8.1.1 (0 : Int)) then (some ((false, ()), ()))
  else (c26 (h1, (r2.1.1, ()))).bind fun r9 =>
  bif (!r9.1.1) then (some ((false, ()), ()))
  else bif (neI h0.2.1 r2.1.2.1) then (some ((false, ()), ()))
  else (c27 (h1, ((1 : Int), ()))).bind fun r10 =>
  (c28 ((r10.1.2.1.1, (r10.1.2.1.2.1, (r10.1.2.1.2.2.1, (h4.1, (h5.1, (h6.1, (h7.1, (h8.1, (h9.1, (h10.1, (h11.1, (h12.1, (h13.1, (h14.1, (h15.1, (h16.1, (h17.1, (h18.1, (r10.1.2.1.2.2.2.2.2.2.2.2.2.2.2.2.2.2.2.2.2.2.1, (r10.1.2.1.2.2.2.2.2.2.2.2.2.2.2.2.2.2.2.2.2.2.2.1, (h21.1, (h22.1, (h23.1, (h24.1, (h25.1, (h26.1, (h27.1, (h27.2.1, (h28.1, (h28.2.1, (h28.2.2.1, r10.1.2.1.2.2.2.2.2.2.2.2.2.2.2.2.2.2.2.2.2.2.2.2.2.2.2.2.2.2.2.2.2.2.2))))))))))))))))))))))))))))))), ((1 : Int), ()))).bind fun r11 =>
  bif (ltI r11.1.1 (0 : Int)) then (some ((false, ()), ()))
  else bif (neI r11.1.1 r10.1.1) then (some ((false, ()), ()))
  else (c24 (y.1, ())).bind fun r12 =>
  (c25 (r12.1.1, y.2)).bind fun r13 =>
  (c26 (r13.1.1, (r2.1.1, ()))).bind fun r14 =>
  bif (!r14.1.1) then (some ((false, ()), ()))
  else bif (neI r13.1.2.1 r2.1.2.1) then (some ((false, ()), ()))
  else (c28 ((r10.1.2.1.1, (r10.1.2.1.2.1, (r10.1.2.1.2.2.1, (h4.1, (h5.1, (h6.1, (h7.1, (h8.1, (h9.1, (h10.1, (h11.1, (h12.1, (h13.1, (h14.1, (h15.1, (h16.1, (h17.1, (h18.1, (r10.1.2.1.2.2.2.2.2.2.2.2.2.2.2.2.2.2.2.2.2.2.1, (r10.1.2.1.2.2.2.2.2.2.2.2.2.2.2.2.2.2.2.2.2.2.2.1, (h21.1, (h22.1, (h23.1, (h24.1, (h25.1, (h26.1, (h27.1, (h27.2.1, (h28.1, (h28.2.1, (h28.2.2.1, r10.1.2.1.2.2.2.2.2.2.2.2.2.2.2.2.2.2.2.2.2.2.2.2.2.2.2.2.2.2.2.2.2.2.2))))))))))))))))))))))))))))))), ((1 : Int), ()))).bind fun r15 =>
  bif (ltI r15.1.1 (0 : Int)) then (some ((false, ()), ()))
  else bif (neI r15.1.1 r10.1.1) then (some ((false, ()), ()))
  else some ((true, ()), ())
noncomputable def E4 (c25 : F25) (c26 : F26) (c28 : F28) (c27 : F27) (c22 : F22) (c24 : F24) (c23 : F23) := mkE [g25 c25, g26 c26, g28 c28, g27 c27, g22 c22, g24 c24, g23 c23]
theorem s4 (c25 : F25) (c26 : F26) (c28 : F28) (c27 : F27) (c22 : F22) (c24 : F24) (c23 : F23)  (y) : tevF (E4 c25 c26 c28 c27 c22 c24 c23 ) Tryz.f4 i4 o4 y = m4 c25 c26 c28 c27 c22 c24 c23  y := by kernel_rfl
noncomputable def r4 : F4 := m4 r25 r26 r28 r27 r22 r24 r23 
theorem k4 : CK Tryz.prog (g4 r4) := fn0 (s4 r25 r26 r28 r27 r22 r24 r23) (fnsL_ok ⟨k25, k26, k28, k27, k22, k24, k23, trivial⟩) rfl mixed (by kernel_rfl) (by kernel_rfl) (by kernel_rfl)
end Go.Proofs.YtanoofbkhddokaaGreat.Plain
