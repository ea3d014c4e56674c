/- An evaluator of Go functions on plain values: tables of functions and loops; a function's and a loop's contract from what is printed. No condition beyond those that each lemma states. -/
import Derived.Test.YtanoofbkhddokaaGreatUe
set_option linter.unusedSimpArgs false
set_option linter.unusedVariables false
namespace Go.Tev

def AllCalls (P : Program) : List (Nat × Fn) → Prop
  | [] => True | (k, f) :: r => CallOk P k f ∧ AllCalls P r

theorem fnsL_ok {P : Program} : ∀ {l : List (Nat × Fn)}, AllCalls P l → ∀ g f, fnsL l g = some f → CallOk P g f
  | [], _, g, f, h => by cases h
  | (k, f') :: r, hl, g, f, h => by
    simp only [fnsL] at h
    cases e : Nat.beq g k with
    | true =>
      rw [e, cond_true] at h
      obtain rfl := Nat.eq_of_beq_eq_true e
      obtain rfl := Option.some.inj h
      exact hl.1
    | false =>
      rw [e, cond_false] at h
      exact fnsL_ok hl.2 g f h

def AllLoops (P : Program) (nt : Nat) (E : CEnv) : List Code → Prop
  | [] => True | c :: r => (∀ l, E.loops (keyOf c) = some l → LoopOk P nt c l) ∧ AllLoops P nt E r

theorem AllLoops.append {P : Program} {nt : Nat} {E : CEnv} : ∀ {a b : List Code}, AllLoops P nt E (a ++ b) → AllLoops P nt E a ∧ AllLoops P nt E b
  | [], _, h => ⟨trivial, h⟩
  | _ :: _, _, h => ⟨⟨h.1, (AllLoops.append h.2).1⟩, (AllLoops.append h.2).2⟩

theorem loopsOk_of {P : Program} {nt : Nat} {E : CEnv} : ∀ {c : Code}, AllLoops P nt E (loopsOf c) → LoopsOk P nt E c := by
  intro c
  induction c with
  | seq a b iha ihb => exact fun h => ⟨iha (AllLoops.append h).1, ihb (AllLoops.append h).2⟩
  | cond x a b iha ihb => exact fun h => ⟨iha (AllLoops.append h).1, ihb (AllLoops.append h).2⟩
  | block i c ih => exact fun h => ih h
  | loop c ih => exact fun h => h.1
  | _ => intro _; trivial

theorem AllLoops.one {P : Program} {nt : Nat} {E : CEnv} {c : Code} {r : List Code} {l : LoopE} (h1 : E.loops (keyOf c) = some l) (h : LoopOk P nt c l) (hr : AllLoops P nt E r) : AllLoops P nt E (c :: r) :=
  ⟨fun l' h' => by rw [h1] at h'; obtain rfl := Option.some.inj h'; exact h, hr⟩

theorem AllLoops.of_list {P : Program} {nt : Nat} {E : CEnv} {c l : List Code} (h : c = l) (k : AllLoops P nt E l) : AllLoops P nt E c := h ▸ k

def staticOk (f : Func) (ins outs : List Ty) : Bool :=
  hasBody f && (!(f.name == "runtime.NumGoroutine") && (tysOkB ins && (tysOkB outs && (owns outs && (Nat.ble ins.length 8 && (Nat.ble outs.length 8 && Nat.ble ins.length f.ntmps))))))

/-- a function's contract -/
theorem fn_ok {E : CEnv} {P : Program} {g : FuncId} {f : Func} {ins outs : List Ty} {run : PTup ins → Option (PTup outs × BTup ins)} (hP : E.env.prog = P) (hE : ∀ g f, E.env.fns g = some f → CallOk P g f) (hm : P.follows .mixedOrders = true)
    (hg : P.funcs[g]? = some f) (hs : staticOk f ins outs = true) (hl : AllLoops P f.ntmps E (loopsOf (bodyOf f))) (hrun : ∀ y, tevF E f ins outs y = run y) : CallOk P g ⟨ins, outs, run, .nor⟩ := by
  subst hP
  simp only [staticOk, Bool.and_eq_true, Bool.not_eq_true'] at hs
  obtain ⟨h0, h1, h2, h3, h4, h5, h6, h7⟩ := hs
  cases hb : f.body with
  | none => rw [hasBody, hb] at h0; cases h0
  | some c =>
    rw [bodyOf, hb] at hl
    exact tevF_ok hE hm hg hb h1 (loopsOk_of hl) h2 h3 h4 h5 h6 h7 fun y r h => by rw [hrun, h]

def staticOkL (f : Func) (ins outs : List Ty) : Bool :=
  hasBody f && (!(f.name == "runtime.NumGoroutine") && (tysOkB ins && (tysOkB outs && (Nat.ble ins.length 8 && (Nat.ble outs.length 8 && Nat.ble ins.length f.ntmps)))))
def staticOkM (f : Func) (ins outs : List Ty) : Bool := staticOk f ins outs && Nat.ble 1 ins.length

theorem fnL_ok {E : CEnv} {P : Program} {g : FuncId} {f : Func} {ins outs : List Ty} {run : PTup ins → Option (PTup outs × BTup ins)} (hP : E.env.prog = P) (hE : ∀ g f, E.env.fns g = some f → CallOk P g f) (hm : P.follows .mixedOrders = true)
    (hg : P.funcs[g]? = some f) (hs : staticOkL f ins outs = true) (hl : AllLoops P f.ntmps E (loopsOf (bodyOf f))) (hrun : ∀ y, tevL E f ins outs y = run y) : CallOk P g ⟨ins, outs, run, .lnt⟩ := by
  subst hP
  simp only [staticOkL, Bool.and_eq_true, Bool.not_eq_true'] at hs
  obtain ⟨h0, h1, h2, h3, h5, h6, h7⟩ := hs
  cases hb : f.body with
  | none => rw [hasBody, hb] at h0; cases h0
  | some c =>
    rw [bodyOf, hb] at hl
    exact tevL_ok hE hm hg hb h1 (loopsOk_of hl) h2 h3 h5 h6 h7 fun y r h => by rw [hrun, h]

abbrev CK (P : Program) (x : Nat × Fn) : Prop := CallOk P x.1 x.2
/-- a function with no loops -/
theorem fn0 {E : CEnv} {P : Program} {g : FuncId} {f : Func} {ins outs : List Ty} {run : PTup ins → Option (PTup outs × BTup ins)} (hrun : ∀ y, tevF E f ins outs y = run y) (hE : ∀ g f, E.env.fns g = some f → CallOk P g f) (hP : E.env.prog = P) (hm : P.follows .mixedOrders = true)
    (hg : P.funcs[g]? = some f) (hs : staticOk f ins outs = true) (hl : loopsOf (bodyOf f) = []) : CallOk P g ⟨ins, outs, run, .nor⟩ := fn_ok hP hE hm hg hs (AllLoops.of_list (l := []) hl trivial) hrun

theorem fnM_ok {E : CEnv} {P : Program} {g : FuncId} {f : Func} {ins outs : List Ty} {run : PTup ins → Option (PTup outs × BTup ins)} (hP : E.env.prog = P) (hE : ∀ g f, E.env.fns g = some f → CallOk P g f) (hm : P.follows .mixedOrders = true)
    (hg : P.funcs[g]? = some f) (hs : staticOkM f ins outs = true) (hl : AllLoops P f.ntmps E (loopsOf (bodyOf f))) (hrun : ∀ y, tevM E f ins outs y = run y) : CallOk P g ⟨ins, outs, run, .inp⟩ := by
  subst hP
  simp only [staticOkM, staticOk, Bool.and_eq_true, Bool.not_eq_true'] at hs
  obtain ⟨⟨h0, h1, h2, h3, h4, h5, h6, h7⟩, h8⟩ := hs
  cases hb : f.body with
  | none => rw [hasBody, hb] at h0; cases h0
  | some c =>
    rw [bodyOf, hb] at hl
    exact tevM_ok hE hm hg hb h1 (loopsOk_of hl) h2 h3 h4 h5 h6 h7 (fun y r h => by rw [hrun, h]) h8

def staticOkY (f : Func) (ins : List Ty) (ts : List LT) : Bool :=
  hasBody f && (!(f.name == "runtime.NumGoroutine") && (tysOkB ins && (Nat.ble ts.length 63 && (allOwn ts && (Nat.ble ins.length 8 && Nat.ble ins.length f.ntmps)))))
theorem fnY_ok {E : CEnv} {P : Program} {g : FuncId} {f : Func} {ins : List Ty} {ts : List LT} {run : PTup ins → Option (PTup [.a ts, .v .bool] × BTup ins)} (hP : E.env.prog = P) (hE : ∀ g f, E.env.fns g = some f → CallOk P g f) (hm : P.follows .mixedOrders = true)
    (hg : P.funcs[g]? = some f) (hs : staticOkY f ins ts = true) (hl : AllLoops P f.ntmps E (loopsOf (bodyOf f))) (hrun : ∀ y, tevY E f ins ts y = run y) : CallOk P g ⟨ins, [.a ts, .v .bool], run, .may⟩ := by
  subst hP
  simp only [staticOkY, Bool.and_eq_true, Bool.not_eq_true'] at hs
  obtain ⟨h0, h1, h2, h3, h4, h5, h6⟩ := hs
  cases hb : f.body with
  | none => rw [hasBody, hb] at h0; cases h0
  | some c =>
    rw [bodyOf, hb] at hl
    exact tevY_ok hE hm hg hb h1 (loopsOk_of hl) h2 h3 h4 h5 h6 fun y r h => by rw [hrun, h]

/-- how many rounds a loop is let go; no proof may open it -/
@[irreducible] def fuel : Nat := 2 ^ 100
theorem fuel_big : 2 ^ 64 < fuel := by unfold fuel; decide

/-- a loop's contract -/
theorem lp_ok {E : CEnv} {P : Program} {c : Code} {l : LoopE} {nt : Nat} (hP : E.env.prog = P) (hE : ∀ g f, E.env.fns g = some f → CallOk P g f) (hm : P.follows .mixedOrders = true) (hl : AllLoops P nt E (loopsOf c))
    (nn : Nat → PTup l.cty → PTup l.bty → PTup l.vty → Option (Sum (PTup l.vty) (PTup l.rty) × BTup l.bty)) (h0 : ∀ x y z, nn 0 x y z = none) (hS : ∀ n x y z, loopRound E c l nt (fun y z => nn n x y z) x y z = nn (n + 1) x y z) (hr : l.run = nn fuel) : LoopOk P nt c l := by
  subst hP
  refine loop_ok hE hm (loopsOk_of hl) fun x y z r h => ⟨fuel, ?_⟩
  have key : ∀ n x y z, loopN E c l nt n x y z = nn n x y z := by
    intro n
    induction n with
    | zero => intro x y z; rw [h0]; rfl
    | succ n ih => intro x y z; rw [← hS]; simp only [loopN]; congr 1; funext y z; exact ih x y z
  rw [key, ← hr]; exact h

end Go.Tev
