/- An evaluator of Go functions on plain values: built-in functions and calls. No condition beyond those that each lemma states. -/
import Derived.Test.YtanoofbkhddokaaGreatTo
set_option linter.unusedSimpArgs false
set_option linter.unusedVariables false
namespace Go.Tev

theorem guardC_some {R : Type} {x : Option R} {r : R} {cs : List Bool} (h : guardC cs x = some r) : (∀ c, c ∈ cs → c = true) ∧ x = some r := by
  induction cs with
  | nil => exact ⟨(fun c hc => by cases hc), h⟩
  | cons c cs ih =>
    cases c with
    | false => simp [guardC] at h
    | true =>
      obtain ⟨h1, h2⟩ := ih h
      exact ⟨(fun c hc => by cases hc with | head => rfl | tail _ hc => exact h1 c hc), h2⟩

theorem guardC_all {R : Type} (x : Option R) {cs : List Bool} (h : ∀ c, c ∈ cs → c = true) : guardC cs x = x := by
  induction cs with
  | nil => rfl
  | cons c cs ih =>
    have := h c (by simp)
    subst this
    exact ih fun c hc => h c (by simp [hc])

/-! ### built-in functions -/

theorem minmax_ok {P : Program} {loc : Loc} {w : World} {g : Int → Int → Int} {m2 : Value → Value → Sem Value} (hm : ∀ k x y, m2 (.int k x) (.int k y) = pure (.int k (g x y))) {tvs : List TV} {vs : List Value} {f : F}
    (h : minmax g tvs = some f) (hv : TRels loc tvs vs) : ∃ x y val, vs = [x, y] ∧ (([y] : List Value).foldlM m2 x).run P w = .ok val w ∧ f.checks = [] ∧ f.us = [] ∧ TRel loc f.v val := by
  unfold minmax at h
  split at h
  · rename_i k a k' b
    cases hk : kindSame k k' with
    | false => rw [hk] at h; cases h
    | true =>
      obtain rfl := kindSame_eq hk
      rw [hk, cond_true] at h
      simp only [pureS, Option.some.injEq] at h; subst h
      match vs, hv with
      | [x, y], hv =>
        have hx : x = .int k a := hv.1
        have hy : y = .int k b := hv.2.1
        subst hx hy
        exact ⟨_, _, .int k (g a b), rfl, by simp [hm], rfl, rfl, rfl⟩
      | [], hv => exact hv.elim
      | [_], hv => exact hv.2.elim
      | _ :: _ :: _ :: _, hv => exact hv.2.2.elim
  · cases h

theorem evs_ok {loc : Loc} {st : St} {a : Act} (h : ∀ t, TRel loc (st.tmps t) (a.tmps.getD t undef)) : ∀ l : List Operand, TRels loc (evs st l) (l.map a.eval)
  | [] => trivial
  | x :: l => ⟨ev_ok h x, evs_ok h l⟩

theorem fetchB_ok {P : Program} {st : St} {loc : Loc} {w : World} {S : Fp} {L : Nat → Prop} (H : Heap st.rows loc w S L) {fresh : Nat} (hid : st.rows fresh = none) {b : Builtin} {argTypes : Array TypeId} {ty : TypeId} {cst : Array Bool} {tvs : List TV} {args : Array Value}
    (hv : TRels loc tvs args.toList) {f : F} (h : fetchB P fresh st b argTypes.toList tvs = some f) (hc : ∀ c, c ∈ f.checks → c = true) :
    ∃ val w', (builtin b argTypes ty cst args).run P w = .ok (.value val) w' ∧ Done st.rows loc w S L f.us f.v val w' := by
  obtain ⟨args⟩ := args
  obtain ⟨ats⟩ := argTypes
  simp only at hv h
  unfold fetchB at h
  split at h
  · -- len
    rename_i x t
    match args, hv with
    | [v], hv =>
      split at h
      · rename_i s hu _
        simp only [pureS, Option.some.injEq] at h; subst h
        have hx : v = .string s := hv.1
        subst hx
        refine ⟨.int .i64 s.size, w, ?_, Done.quiet H rfl⟩
        simp only [builtin]
        refine run_v ?_
        simp [Builtin.len_, run_underlying hu, goInt]
      · rename_i hu _
        obtain ⟨val, hr, _, hus, hvv⟩ := lenF_ok (ty := ty) H hv.1 h hu
        exact ⟨val, w, by simp only [builtin]; exact run_v hr, by rw [hus]; exact Done.quiet H hvv⟩
      · cases h
    | [], hv => exact hv.elim
    | _ :: _ :: _, hv => exact hv.2.elim
  · -- append
    rename_i x y t t'
    cases ht : Nat.beq t t' with
    | false => rw [ht] at h; cases h
    | true =>
      obtain rfl := Nat.eq_of_beq_eq_true ht
      rw [ht, cond_true] at h
      match args, hv with
      | [v, u], hv =>
        obtain ⟨val, w', hr, hd⟩ := appendF_ok (ty := ty) H hid hv.1 hv.2.1 h hc
        exact ⟨val, w', by simp only [builtin]; exact run_v hr, hd⟩
      | [], hv => exact hv.elim
      | [_], hv => exact hv.2.elim
      | _ :: _ :: _ :: _, hv => exact hv.2.2.elim
  · -- min
    obtain ⟨x, y, val, e, hr, _, hus, hvv⟩ := minmax_ok (P := P) (w := w) (m2 := Builtin.min2) (fun k x y => by simp [Builtin.min2, mnI]) h hv
    subst e
    exact ⟨val, w, by simp only [builtin]; exact run_v (by simpa [Builtin.min_] using hr), by rw [hus]; exact Done.quiet H hvv⟩
  · -- max
    obtain ⟨x, y, val, e, hr, _, hus, hvv⟩ := minmax_ok (P := P) (w := w) (m2 := Builtin.max2) (fun k x y => by simp [Builtin.max2, mxI]) h hv
    subst e
    exact ⟨val, w, by simp only [builtin]; exact run_v (by simpa [Builtin.max_] using hr), by rw [hus]; exact Done.quiet H hvv⟩
  · cases h

/-! ### calls -/

def packV : List Value → Value | [x] => x | xs => .tuple xs.toArray

def Enters (P : Program) (g : FuncId) : Prop := ∃ fn, P.funcs[g]? = some fn ∧ (fn.name == "runtime.NumGoroutine") = false ∧ fn.body.isNone = false

/-- what a function of its kind returns; what its results may hold lent -/
def RetK : FK → List Value → List Value → Ending → Prop
  | .inp, args, vs, e => ∃ v0 v1 as, args = v1 :: as ∧ vs = [v0, v1] ∧ e = .returned v0
  | _, _, vs, e => e = .returned (packV vs)
def LK : FK → (Nat → Prop) → Nat → Prop | .lnt, L => L | _, _ => fun _ => False

/-- the results of a function of its kind -/
def OutRel (w : World) : FK → (outs : List Ty) → PTup outs → List Value → Fp → (Nat → Prop) → Prop
  | .may, [.a ts, .v .bool], r, vs, S, L => ∃ cs : List Value, vs = [.agg cs.toArray, .bool r.2.1] ∧ cs.length = ts.length ∧ oneCells cs ∧ (r.2.1 = true → LsRel w ts r.1 cs S L)
  | .may, _, _, _, _, _ => False
  | .nor, outs, r, vs, S, L => TysRel w outs r vs S L
  | .inp, outs, r, vs, S, L => TysRel w outs r vs S L
  | .lnt, outs, r, vs, S, L => TysRel w outs r vs S L

/-- a function answers as 'run' says -/
structure CallOk (P : Program) (g : FuncId) (f : Fn) : Prop where
  nin : f.ins.length ≤ 8
  nout : f.outs.length ≤ 8
  inOk : tysOk f.ins
  outOk : tysOk f.outs
  enters : Enters P g
  calls : ∀ (w : World) (y : PTup f.ins) (args : List Value) (S : Fp) (L : Nat → Prop), TysRel w f.ins y args S L → (∀ b o, S b o → ¬ L b) → (∀ b o, S b o → b < w.heap.size) → (∀ b, L b → b < w.heap.size) →
    ∀ r, f.run y = some r → Calls P g args.toArray w fun e w' => ∃ vs SO SB, RetK f.kd args vs e ∧ OutRel w' f.kd f.outs r.1 vs SO (LK f.kd L) ∧ TysBack w w' f.ins r.2 args SB ∧ Dis SO SB ∧
      (∀ b o, SO b o ∨ SB b o → (S b o ∨ w.heap.size ≤ b) ∧ b < w'.heap.size) ∧ Frame S w w'

/-- nothing becomes stale -/
def noScrub (us : Us) : Prop := scrubs us = []
theorem noScrub.append {a b : Us} (h : noScrub a) (k : noScrub b) : noScrub (a ++ b) := by unfold noScrub at *; rw [scrubs_append, h, k]; rfl

theorem takeL_ns {rows : Rows} {t : LT} {v : SV} {x : t.D} {us : Us} {ls : List Nat} (h : takeL rows t v = some (x, us, ls)) : noScrub us := by
  unfold takeL at h
  split at h
  · rename_i k k' n
    cases hk : kindSame k k' with
    | false => rw [hk] at h; cases h
    | true => rw [hk, cond_true] at h; simp only [Option.some.injEq, Prod.mk.injEq] at h; rw [← h.2.1]; rfl
  · simp only [Option.some.injEq, Prod.mk.injEq] at h; rw [← h.2.1]; rfl
  · simp only [Option.some.injEq, Prod.mk.injEq] at h; rw [← h.2.1]; rfl
  · rename_i f f'
    cases hk : Nat.beq f f' with
    | false => rw [hk] at h; cases h
    | true => rw [hk, cond_true] at h; simp only [Option.some.injEq, Prod.mk.injEq] at h; rw [← h.2.1]; rfl
  · rename_i own e
    split at h
    · simp only [Option.some.injEq, Prod.mk.injEq] at h; rw [← h.2.1]; rfl
    · rename_i id o _
      cases own with
      | true =>
        cases o with
        | true => simp only [cond_true, Option.some.injEq, Prod.mk.injEq] at h; rw [← h.2.1]; rfl
        | false => simp at h
      | false => simp only [cond_false, Option.some.injEq, Prod.mk.injEq] at h; rw [← h.2.1]; rfl
    · cases h
  · cases h
  · rename_i e _
    split at h
    · simp only [Option.some.injEq, Prod.mk.injEq] at h; rw [← h.2.1]; rfl
    · rename_i id o _
      cases o with
      | true => simp only [cond_true, Option.some.injEq, Prod.mk.injEq] at h; rw [← h.2.1]; rfl
      | false => cases h
    · cases hk : okS v with
      | false => rw [hk] at h; cases h
      | true => rw [hk, cond_true] at h; simp only [Option.some.injEq, Prod.mk.injEq] at h; rw [← h.2.1]; rfl
  · cases h

theorem takeLs_ns : ∀ {ts : List LT} {rows : Rows} {vs : List SV} {x : Tup ts} {us : Us} {ls : List Nat}, takeLs rows ts vs = some (x, us, ls) → noScrub us
  | [], rows, [], x, us, ls, h => by simp only [takeLs, Option.some.injEq, Prod.mk.injEq] at h; rw [← h.2.1]; rfl
  | [], _, _ :: _, _, _, _, h => by simp [takeLs] at h
  | _ :: _, _, [], _, _, _, h => by simp [takeLs] at h
  | t :: ts, rows, v :: vs, x, us, ls, h => by
    simp only [takeLs] at h
    split at h
    · rename_i h1
      split at h
      · rename_i h2
        simp only [Option.some.injEq, Prod.mk.injEq] at h
        rw [← h.2.1]
        exact (takeL_ns h1).append (takeLs_ns h2)
      · cases h
    · cases h

theorem takeTy_ns {rows : Rows} {t : Ty} {tv : TV} {x : t.D} {us : Us} {ls : List Nat} (h : takeTy rows t tv = some (x, us, ls)) : noScrub us := by
  unfold takeTy at h
  split at h
  · exact takeL_ns h
  · exact takeLs_ns h
  · rename_i ts id off
    split at h
    · rename_i cs _
      cases hb : Nat.ble (off + ts.length) cs.length with
      | false => rw [hb] at h; cases h
      | true =>
        rw [hb, cond_true] at h
        split at h
        · split at h
          · rename_i h2
            simp only [Option.some.injEq, Prod.mk.injEq] at h
            rw [← h.2.1]
            exact noScrub.append (a := [(id, .box _)]) rfl (takeLs_ns h2)
          · cases h
        · cases h
    · cases h
  · rename_i ts id off
    split at h
    · rename_i cs _
      cases hb : rOk ts && Nat.ble (off + ts.length) cs.length with
      | false => rw [hb] at h; cases h
      | true =>
        rw [hb, cond_true] at h
        split at h
        · rename_i h2
          simp only [Option.some.injEq, Prod.mk.injEq] at h
          rw [← h.2.1]
          exact takeLs_ns h2
        · cases h
    · cases h
  · cases h

theorem takeTys_ns : ∀ {ts : List Ty} {rows : Rows} {vs : List TV} {x : PTup ts} {us : Us} {ls : List Nat}, takeTys rows ts vs = some (x, us, ls) → noScrub us
  | [], rows, [], x, us, ls, h => by simp only [takeTys, Option.some.injEq, Prod.mk.injEq] at h; rw [← h.2.1]; rfl
  | [], _, _ :: _, _, _, _, h => by simp [takeTys] at h
  | _ :: _, _, [], _, _, _, h => by simp [takeTys] at h
  | t :: ts, rows, v :: vs, x, us, ls, h => by
    simp only [takeTys] at h
    split at h
    · rename_i h1
      split at h
      · rename_i h2
        simp only [Option.some.injEq, Prod.mk.injEq] at h
        rw [← h.2.1]
        exact (takeTy_ns h1).append (takeTys_ns h2)
      · cases h
    · cases h

theorem takeAll_ns {rows : Rows} {ts : List Ty} {tvs : List TV} {x : PTup ts} {us : Us} (h : takeAll rows ts tvs = some (x, us)) : noScrub us := by
  unfold takeAll at h
  cases hm : noMbs ts with
  | false => rw [hm] at h; cases h
  | true =>
  rw [hm, cond_true] at h
  split at h
  · rename_i h1
    cases hb : aliveR _ (appR rows _) _ with
    | false => rw [hb] at h; cases h
    | true => rw [hb, cond_true] at h; simp only [Option.some.injEq, Prod.mk.injEq] at h; rw [← h.2]; exact takeTys_ns h1
  · cases h

theorem takeAllL_ns {rows : Rows} {ts : List Ty} {tvs : List TV} {x : PTup ts} {us : Us} (h : takeAllL rows ts tvs = some (x, us)) : noScrub us := by
  unfold takeAllL at h
  cases hm : noMbs ts with
  | false => rw [hm] at h; cases h
  | true =>
  rw [hm, cond_true] at h
  split at h
  · rename_i h1
    cases hb : aliveL (appR rows _) _ with
    | false => rw [hb] at h; cases h
    | true => rw [hb, cond_true] at h; simp only [Option.some.injEq, Prod.mk.injEq] at h; rw [← h.2]; exact takeTys_ns h1
  · cases h

theorem putL_ns (t : LT) (x : t.D) (id : Nat) : noScrub (putL t x id).2 := by
  cases t with
  | mb e => match x with | some _ => rfl | none => rfl
  | _ => rfl
theorem putLs_ns : ∀ (ts : List LT) (x : Tup ts) (id : Nat), noScrub (putLs ts x id).2
  | [], _, _ => rfl
  | t :: ts, x, id => (putL_ns t x.1 id).append (putLs_ns ts x.2 (id + 1))
theorem putTy_ns (t : Ty) (x : t.D) (id : Nat) : noScrub (putTy t x id).2 := by
  cases t with
  | v t => exact putL_ns t x id
  | a ts => exact putLs_ns ts x id
  | p ts => exact (putLs_ns ts x id).append rfl
  | r ts => exact (putLs_ns ts x id).append rfl
theorem putTys_ns : ∀ (ts : List Ty) (x : PTup ts) (id : Nat), noScrub (putTys ts x id).2
  | [], _, _ => rfl
  | t :: ts, x, id => (putTy_ns t x.1 id).append (putTys_ns ts x.2 (id + 64))
theorem putOwn_ns : ∀ (ts : List LT) (x : Tup ts) (os : List SV) (id : Nat), noScrub (putOwn ts x os id).2
  | [], _, _, _ => rfl
  | t :: ts, x, [], id => by cases t with | sl own e => cases own <;> rfl | _ => rfl
  | t :: ts, x, o :: os, id => by
    have ih := putOwn_ns ts x.2 os (id + 1)
    have d : noScrub ((putL t x.1 id).2 ++ (putOwn ts x.2 os (id + 1)).2) := (putL_ns _ _ _).append ih
    cases t with
    | sl own e =>
      cases own with
      | true => exact d
      | false => cases o with | lsl k => exact ih | _ => exact d
    | _ => exact d
theorem putBack_ns : ∀ (ts : List Ty) (x : BTup ts) (tvs : List TV) (rows : Rows) (base : Nat), noScrub (putBack ts x tvs rows base)
  | [], _, _, _, _ => by unfold putBack; rfl
  | .v _ :: r, x, [], _, _ => by unfold putBack; rfl
  | .a _ :: r, x, [], _, _ => by unfold putBack; rfl
  | .p _ :: r, x, [], _, _ => by unfold putBack; rfl
  | .r _ :: r, x, [], _, _ => by unfold putBack; rfl
  | .v _ :: r, x, _ :: vs, rows, base => by unfold putBack; exact putBack_ns r x vs rows (base + 64)
  | .a _ :: r, x, _ :: vs, rows, base => by unfold putBack; exact putBack_ns r x vs rows (base + 64)
  | .r _ :: r, x, _ :: vs, rows, base => by unfold putBack; exact putBack_ns r x vs rows (base + 64)
  | .p ts :: r, x, v :: vs, rows, base => by
    cases v with
    | tup l => rfl
    | c c =>
      cases c with
      | agg l => rfl
      | s s =>
        cases s with
        | ptr id off =>
          simp only [putBack]
          split
          · exact ((putOwn_ns _ _ _ _).append (b := [(id, .box _)]) rfl).append (putBack_ns r _ _ _ _)
          · rfl
        | _ => rfl

end Go.Tev
