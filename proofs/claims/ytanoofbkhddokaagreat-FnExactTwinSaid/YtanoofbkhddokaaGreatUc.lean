/- An evaluator of Go functions on plain values: functions. No condition beyond those that each lemma states. -/
import Derived.Test.YtanoofbkhddokaaGreatUb
set_option linter.unusedSimpArgs false
set_option linter.unusedVariables false
namespace Go.Tev

/-! ### how a piece of code begins -/

theorem usIds_append : ∀ a b : Us, usIds (a ++ b) = usIds a ++ usIds b
  | [], _ => rfl
  | (i, x) :: a, b => by simp [usIds, usIds_append a b]

theorem putL_ge (t : LT) (x : t.D) (id : Nat) : ∀ i, i ∈ usIds (putL t x id).2 → id ≤ i := by
  cases t with
  | sl o e => intro i h; simp only [putL, usIds, List.mem_singleton] at h; omega
  | mb e =>
    match x with
    | some l => intro i h; simp only [putL, usIds, List.mem_singleton] at h; omega
    | none => intro i h; cases h
  | _ => intro i h; cases h
theorem putLs_ge : ∀ (ts : List LT) (x : Tup ts) (id : Nat), ∀ i, i ∈ usIds (putLs ts x id).2 → id ≤ i
  | [], _, _, _, h => by cases h
  | t :: ts, x, id, i, h => by
    simp only [putLs, usIds_append, List.mem_append] at h
    rcases h with h | h
    · exact putL_ge t x.1 id i h
    · have := putLs_ge ts x.2 (id + 1) i h; omega
theorem putTy_ge (t : Ty) (x : t.D) (id : Nat) : ∀ i, i ∈ usIds (putTy t x id).2 → id ≤ i := by
  cases t with
  | v t => exact putL_ge t x id
  | a ts => exact putLs_ge ts x id
  | p ts =>
    intro i h
    simp only [putTy, usIds_append, List.mem_append, usIds, List.mem_singleton] at h
    rcases h with h | h
    · exact putLs_ge ts x id i h
    · omega
  | r ts =>
    intro i h
    simp only [putTy, usIds_append, List.mem_append, usIds, List.mem_singleton] at h
    rcases h with h | h
    · exact putLs_ge ts x id i h
    · omega
theorem putTys_ge : ∀ (ts : List Ty) (x : PTup ts) (id : Nat), ∀ i, i ∈ usIds (putTys ts x id).2 → id ≤ i
  | [], _, _, _, h => by cases h
  | t :: ts, x, id, i, h => by
    simp only [putTys, usIds_append, List.mem_append] at h
    rcases h with h | h
    · exact putTy_ge t x.1 id i h
    · have := putTys_ge ts x.2 (id + 64) i h; omega

/-- the structs that are received -/
def BoxRows (rows : Rows) : (ts : List Ty) → PTup ts → Nat → Prop
  | [], _, _ => True
  | .p ts :: r, x, id => rows (id + 63) = some (.box (putLs ts x.1 id).1) ∧ BoxRows rows r x.2 (id + 64)
  | .v _ :: r, x, id => BoxRows rows r x.2 (id + 64)
  | .a _ :: r, x, id => BoxRows rows r x.2 (id + 64)
  | .r _ :: r, x, id => BoxRows rows r x.2 (id + 64)

theorem boxRows_put : ∀ (ts : List Ty) (x : PTup ts) (id : Nat) (rows : Rows), BoxRows (appR rows (putTys ts x id).2) ts x id
  | [], _, _, _ => trivial
  | t :: ts, x, id, rows => by
    have ih := boxRows_put ts x.2 (id + 64) (appR rows (putTy t x.1 id).2)
    simp only [putTys]
    rw [appR_append]
    cases t with
    | v t => exact ih
    | a ts => exact ih
    | r ts => exact ih
    | p ls =>
      refine ⟨?_, ih⟩
      rw [appR_out (fun h => by have := putTys_ge ts x.2 (id + 64) _ h; omega)]
      simp only [putTy]
      rw [appR_append]
      simp only [appR]
      rw [updR_self]

theorem putLs_get : ∀ {ts : List LT} {x : Tup ts} {id j : Nat} {o : Bool} {e : E}, ts[j]? = some (.sl o e) → (putLs ts x id).1[j]? = some (.slf (id + j))
  | [], _, _, _, _, _, h => by simp at h
  | t :: ts, x, id, 0, o, e, h => by
    simp only [List.getElem?_cons_zero, Option.some.injEq] at h
    subst h
    rfl
  | t :: ts, x, id, j + 1, o, e, h => by
    simp only [List.getElem?_cons_succ] at h
    simp only [putLs, List.getElem?_cons_succ]
    rw [putLs_get h, Nat.add_assoc, Nat.add_comm 1 j]

theorem putLs_length : ∀ {ts : List LT} {x : Tup ts} {id : Nat}, (putLs ts x id).1.length = ts.length
  | [], _, _ => rfl
  | t :: ts, x, id => by simp [putLs, putLs_length (ts := ts)]

/-- cells as a list -/
theorem cells_list {w : World} {b o n : Nat} (h : ∀ j, j < n → ∃ v, w.cell? (adr (b, o + j)) = some v) : ∃ vs : List Value, vs.length = n ∧ CellsAt w b o vs := by
  refine ⟨(List.range n).map fun j => (w.cell? (adr (b, o + j))).getD undef, by simp, fun j hj => ?_⟩
  simp only [List.length_map, List.length_range] at hj
  obtain ⟨v, hv⟩ := h j hj
  simp [hv]

theorem held_of {rows : Rows} {loc : Loc} {w : World} {S : Fp} {L : Nat → Prop} (H : Heap rows loc w S L) : ∀ {ts : List Ty} {x : PTup ts} {vs : List Value} {id : Nat}, BoxRows rows ts x id → BoxesAt loc ts vs id → HeldTys loc w ts vs id
  | [], _, [], _, _, _ => trivial
  | [], _, _ :: _, _, _, h => h.elim
  | t :: _, _, [], _, _, h => by cases t <;> exact h.elim
  | .v _ :: r, x, _ :: vs, id, hb, h => held_of H (ts := r) (x := x.2) (vs := vs) hb h
  | .a _ :: r, x, _ :: vs, id, hb, h => held_of H (ts := r) (x := x.2) (vs := vs) hb h
  | .r _ :: r, x, _ :: vs, id, hb, h => held_of H (ts := r) (x := x.2) (vs := vs) hb h
  | .p ls :: r, x, v :: vs, id, hb, h => by
    obtain ⟨hrow, hb⟩ := hb
    obtain ⟨⟨b, o, rfl, el⟩, h⟩ := h
    refine ⟨?_, held_of H hb h⟩
    obtain ⟨b', o', el', hob, hcells⟩ := H.ok _ _ hrow
    rw [el] at el'
    simp only [Option.some.injEq, Pl.box.injEq] at el'
    obtain ⟨rfl, rfl, hlen⟩ := el'
    rw [putLs_length] at hob
    have hl : (putLs ls x.1 id).1.length = ls.length := putLs_length
    obtain ⟨old, hol, hoc⟩ := cells_list (w := w) (b := b) (o := o) (n := ls.length) (fun j hj => own_cell hob (by omega))
    refine ⟨b, o, old, rfl, hol, hoc, fun j e hj => ?_, b, o, _, el, by simp⟩
    have hjl : j < ls.length := (List.getElem?_eq_some_iff.1 hj).1
    refine ⟨old[j]'(by omega), by simp [hol, hjl], ?_⟩
    have hg := putLs_get (x := x.1) (id := id) hj
    have hc := hcells j (by omega)
    have : (putLs ls x.1 id).1[j]'(by omega) = .slf (id + j) := by
      rw [List.getElem?_eq_getElem (by omega)] at hg
      exact Option.some.inj hg
    rw [this] at hc
    obtain ⟨_, u, hu, hr, _⟩ := hc
    have := hoc j (by omega)
    rw [hu] at this
    rw [← Option.some.inj this]
    exact hr

/-! ### results -/

theorem resultT_ok {P : Program} {st : St} {loc : Loc} {a : Act} {w : World} {S : Fp} {L : Nat → Prop} (H : Heap st.rows loc w S L) (ht : ∀ t, TRel loc (st.tmps t) (a.tmps.getD t undef)) {x : ResultVar} {tv : TV} (h : resultT P st x = some tv) :
    ∃ v, ((match x with | .tmp t => pure (a.tmps.getD t undef) | .cell d t => do loadVar t (← asAddr (a.tmps.getD d undef))) : Sem Value).run P w = .ok v w ∧ TRel loc tv v := by
  cases x with
  | tmp t =>
    simp only [resultT, Option.some.injEq] at h
    subst h
    exact ⟨_, rfl, ht t⟩
  | cell d t =>
    simp only [resultT] at h
    split at h
    · split at h
      · rename_i f hf
        simp only [Option.some.injEq] at h
        subst h
        have hd := ht d
        obtain ⟨val, hr, _, _, hv⟩ := loadF_ok H hd hf
        refine ⟨val, ?_, hv⟩
        have hp : ∃ p, a.tmps.getD d undef = .pointer (some p) := by
          unfold loadF at hf
          split at hf
          · rename_i e; rw [e] at hd; obtain ⟨_, _, _, _, hv⟩ := hd; exact ⟨_, hv⟩
          · rename_i e; rw [e] at hd; obtain ⟨_, _, _, _, _, _, _, _, _, hv⟩ := hd; exact ⟨_, hv⟩
          · rename_i e; rw [e] at hd; obtain ⟨_, _, _, _, _, _, _, _, _, _, _, _, hv⟩ := hd; exact ⟨_, hv⟩
          · cases hf
        obtain ⟨p, hp⟩ := hp
        simp only [hp] at hr ⊢
        simpa [Instr.loadAt, Instr.sureAddr, asAddr] using hr
      · cases h
    · cases h

theorem resultTs_ok {P : Program} {st : St} {loc : Loc} {a : Act} {w : World} {S : Fp} {L : Nat → Prop} (H : Heap st.rows loc w S L) (ht : ∀ t, TRel loc (st.tmps t) (a.tmps.getD t undef)) : ∀ {xs : List ResultVar} {tvs : List TV}, resultTs P st xs = some tvs →
    ∃ vs, (xs.mapM (m := Sem) fun | .tmp t => pure (a.tmps.getD t undef) | .cell d t => do loadVar t (← asAddr (a.tmps.getD d undef))).run P w = .ok vs w ∧ TRels loc tvs vs
  | [], tvs, h => by
    simp only [resultTs, Option.some.injEq] at h
    subst h
    exact ⟨[], rfl, trivial⟩
  | x :: xs, tvs, h => by
    simp only [resultTs] at h
    split at h
    · rename_i tv tvs' h1 h2
      simp only [Option.some.injEq] at h
      subst h
      obtain ⟨v, hr, hv⟩ := resultT_ok H ht h1
      obtain ⟨vs, hrs, hvs⟩ := resultTs_ok H ht h2
      refine ⟨v :: vs, ?_, hv, hvs⟩
      rw [List.mapM_cons, Sem.run_bind, hr, Result.andThen_ok, Sem.run_bind, hrs, Result.andThen_ok]
      rfl
    · cases h

theorem results_run {P : Program} {f : Func} {tmps : Array Value} {w : World} {vs : List Value} (h : (f.results.toList.mapM (m := Sem) fun | .tmp t => pure (tmps.getD t undef) | .cell d t => do loadVar t (← asAddr (tmps.getD d undef))).run P w = .ok vs w) :
    (results f tmps).run P w = .ok (packV vs) w := by
  unfold results
  rw [Sem.run_bind, Array.mapM_eq_mapM_toList, Sem.run_map]
  erw [h]
  simp only [Result.andThen_ok, Sem.run_pure]
  congr 1
  match vs with
  | [] => rfl
  | [x] => rfl
  | _ :: _ :: _ => simp [packV]

theorem fillU_ok {loc : Loc} {n : Nat} : ∀ {tvs : List TV} {vs : List Value}, TRels loc tvs vs → ∀ t, TRel loc (fillU n tvs t) ((vs ++ List.replicate (n - vs.length) undef).getD t undef) := by
  have und : ∀ t v, TRel loc (fillU n [] t) v := fun t v => by
    unfold fillU
    cases Nat.blt t n <;> trivial
  have key : ∀ {tvs : List TV} {vs : List Value} (r : List Value), TRels loc tvs vs → ∀ t, TRel loc (fillU n tvs t) ((vs ++ r).getD t undef) := by
    intro tvs
    induction tvs with
    | nil => intro vs r _ t; exact und t _
    | cons x tvs ih =>
      intro vs r h t
      cases vs with
      | nil => exact h.elim
      | cons v vs =>
        cases t with
        | zero => exact h.1
        | succ t => exact ih r h.2 t
  intro tvs vs h t
  exact key _ h t

/-- what holds where a function's body ends -/
structure AtEnd (c : Code) (w : World) (S : Fp) (L : Nat → Prop) (ins : List Ty) (args : List Value) (st : St) (a : Act) (w' : World) (loc : Loc) (S' : Fp) : Prop where
  heap : Heap st.rows loc w' S' L
  tmps : ∀ t, TRel loc (st.tmps t) (a.tmps.getD t undef)
  defers : a.defers = []
  sub : ∀ b o, S' b o → S b o ∨ w.heap.size ≤ b
  frame : Frame S w w'
  keep : ∀ t, t ∉ dsts c → a.tmps.getD t undef = (args ++ List.replicate 0 undef).getD t (a.tmps.getD t undef) ∨ args.length ≤ t
  held : HeldTys loc w ins args 0

/-- a function's body is walked -/
theorem walkF {E : CEnv} (hE : ∀ g f, E.env.fns g = some f → CallOk E.env.prog g f) (hm : E.env.prog.follows .mixedOrders = true) {g : FuncId} {f : Func} {c : Code} {ins : List Ty} (hg : E.env.prog.funcs[g]? = some f) (hb : f.body = some c)
    (hl : LoopsOk E.env.prog f.ntmps E c) (hi' : tysOk ins) (hnt : Nat.ble ins.length f.ntmps = true) {w : World} {y : PTup ins} {args : List Value} {S : Fp} {L : Nat → Prop} (hrel : TysRel w ins y args S L) (hdl : ∀ b o, S b o → ¬ L b) (hls : ∀ b o, S b o → b < w.heap.size) (hll : ∀ b, L b → b < w.heap.size)
    {R : Type} {K : Ex → St → Option R} {r : R} (ht : tevC E c (entrySt ins y f.ntmps) K = some r) {Q : Ending → World → Prop}
    (fin : ∀ ex st a' w' loc' S', AtEnd c w S L ins args st a' w' loc' S' → K ex st = some r → (ex = .normal ∨ ex = .ret) ∧ ∃ v, (results f a'.tmps).run E.env.prog w' = .ok v w' ∧ Q (.returned v) w') : Calls E.env.prog g args.toArray w Q := by
  have H0 : Heap noRows (fun _ => none) w S L := ⟨(fun id x h => by cases h), (fun _ _ => rfl), (fun _ _ _ _ _ h => by cases h), (fun _ _ h => by cases h), (fun _ _ h => by cases h), hdl, hls, hll⟩
  have own0 : Dis (Owned noRows (fun _ => none)) S := fun b o ⟨_, _, h, _⟩ => by cases h
  obtain ⟨loc, P0, hput, hsame, hboxes, hlen1, hlen2⟩ := putTys_ok (id := 0) H0 (fun _ _ _ => rfl) hrel (fun _ _ h => h) (fun _ h => h) own0 hi'
  have hle : args.length ≤ f.ntmps := by rw [hlen2]; exact Nat.le_of_ble_eq_true hnt
  let a0 : Act := { tmps := args.toArray ++ Array.replicate (f.ntmps - args.toArray.size) undef, defers := [] }
  have hsz : a0.tmps.size = f.ntmps := by
    simp only [a0]
    simp
    omega
  let B : Base := ⟨w, S, L, a0, dsts c, fun id u => SRel loc (.slf id) u, fun id u => SRel loc (.ptr id 0) u⟩
  have ea0 : ∀ t, a0.tmps.getD t undef = (args ++ List.replicate (f.ntmps - args.length) undef).getD t undef := fun t => by
    simp only [a0, Array.getD_eq_getD_getElem?, List.getD_eq_getElem?_getD]
    congr 1
    rw [← Array.getElem?_toList]
    simp
  have G : Good B (entrySt ins y f.ntmps) a0 w := by
    refine ⟨loc, S, P0.heap, (fun t => ?_), ?_, rfl, (fun b o h => .inl h), .refl _ _, (fun _ _ => rfl), (fun _ _ h => h), (fun _ _ h => h)⟩
    · have := fillU_ok (n := f.ntmps) hput t
      rw [ea0 t]
      exact this
    · exact ⟨hsz, hsz.symm⟩
  have hheld := held_of P0.heap (boxRows_put ins y 0 noRows) hboxes
  refine calls_of_wp (fn := f) hg hb (tevC_ok hE hm (B := B) c _ _ (entrySt ins y f.ntmps) a0 w (by rw [show B.a.tmps.size = f.ntmps from hsz]; exact hl) (fun _ h => h) ht G (fun k hk => hsame k (.inr (by simpa [entrySt] using hk))) ?_)
  intro ex st a' w' G' hf' hK
  obtain ⟨loc', S', H', ht', hs', hd', hS', hfr, hk, hrw, hbx⟩ := G'
  obtain ⟨hex, v, hv, hq⟩ := fin ex st a' w' loc' S' ⟨H', ht', hd', hS', hfr, fun t htc => by
    by_cases hlt : t < args.length
    · left
      rw [hk t htc]
      show a0.tmps.getD t undef = _
      rw [ea0 t]
      simp only [List.getD_eq_getElem?_getD]
      rw [List.getElem?_append_left hlt, List.getElem?_append_left hlt, List.getElem?_eq_getElem hlt]
      rfl
    · exact .inr (by omega), hheld.mono hrw hbx⟩ hK
  rcases hex with rfl | rfl
  · exact ⟨hd', v, hv, hq⟩
  · exact ⟨hd', v, hv, hq⟩

/-- a function answers as the evaluator does -/
theorem tevF_ok {E : CEnv} (hE : ∀ g f, E.env.fns g = some f → CallOk E.env.prog g f) (hm : E.env.prog.follows .mixedOrders = true) {g : FuncId} {f : Func} {c : Code} {ins outs : List Ty} (hg : E.env.prog.funcs[g]? = some f) (hb : f.body = some c) (hn : (f.name == "runtime.NumGoroutine") = false)
    (hl : LoopsOk E.env.prog f.ntmps E c) (hi : tysOkB ins = true) (ho : tysOkB outs = true) (hown : owns outs = true) (hin : Nat.ble ins.length 8 = true) (hout : Nat.ble outs.length 8 = true) (hnt : Nat.ble ins.length f.ntmps = true) {run : PTup ins → Option (PTup outs × BTup ins)}
    (hrun : ∀ y r, run y = some r → tevF E f ins outs y = some r) : CallOk E.env.prog g ⟨ins, outs, run, .nor⟩ := by
  have hi' := tysOkB_ok hi
  refine ⟨Nat.le_of_ble_eq_true hin, Nat.le_of_ble_eq_true hout, hi', tysOkB_ok ho, ⟨f, hg, hn, by simp [hb]⟩, fun w y args S L hrel hdl hls hll r hr => ?_⟩
  have ht := hrun y r hr
  unfold tevF at ht
  rw [hb] at ht
  refine walkF hE hm hg hb hl hi' hnt hrel hdl hls hll ht ?_
  rintro ex st a' w' loc' S' ⟨H', ht', hd', hS', hfr, hk, hheld⟩ hK
  have fin : finish E.env.prog ins outs f.results.toList st = some r → ∃ v, (results f a'.tmps).run E.env.prog w' = .ok v w' ∧ ∃ vs SO SB, Ending.returned v = .returned (packV vs) ∧ TysRel w' outs r.1 vs SO (fun _ => False) ∧ TysBack w w' ins r.2 args SB ∧ Dis SO SB ∧
      (∀ b o, SO b o ∨ SB b o → (S b o ∨ w.heap.size ≤ b) ∧ b < w'.heap.size) ∧ Frame S w w' := fun h => by
    unfold finish at h
    split at h
    · rename_i tvs htvs
      split at h
      · rename_i x us ls htk
        split at h
        · rename_i yb hyb
          simp only [Option.some.injEq] at h
          subst h
          obtain ⟨vs, hres, hvs⟩ := resultTs_ok H' ht' htvs
          obtain ⟨SO, T, _, k, _⟩ := takeTys_ok H' htk hvs
          have hls := takeTys_own_ls hown htk
          subst hls
          obtain ⟨SB, hsb, hback, _⟩ := takeBoxes_ok (w0 := w) T.heap hyb hheld
          refine ⟨_, results_run hres, vs, SO, SB, rfl, (k false _ (.refl _) rfl).own hown, hback, fun b o h1 h2 => (T.apart b o (hsb b o h2)).2 h1, fun b o h => ?_, hfr⟩
          have : S' b o := by
            rcases h with h | h
            · exact Owned.mono T H' b o h
            · obtain ⟨i, z, ez, hz⟩ := (T.apart b o (hsb b o h)).1
              exact H'.inS i z ez b o hz
          exact ⟨hS' b o this, H'.ltS b o this⟩
        · cases h
      · cases h
    · cases h
  cases ex with
  | normal => exact ⟨.inl rfl, fin hK⟩
  | ret => exact ⟨.inr rfl, fin hK⟩
  | exit id => cases hK

/-- a function whose results may hold what is lent -/
theorem tevL_ok {E : CEnv} (hE : ∀ g f, E.env.fns g = some f → CallOk E.env.prog g f) (hm : E.env.prog.follows .mixedOrders = true) {g : FuncId} {f : Func} {c : Code} {ins outs : List Ty} (hg : E.env.prog.funcs[g]? = some f) (hb : f.body = some c) (hn : (f.name == "runtime.NumGoroutine") = false)
    (hl : LoopsOk E.env.prog f.ntmps E c) (hi : tysOkB ins = true) (ho : tysOkB outs = true) (hin : Nat.ble ins.length 8 = true) (hout : Nat.ble outs.length 8 = true) (hnt : Nat.ble ins.length f.ntmps = true) {run : PTup ins → Option (PTup outs × BTup ins)}
    (hrun : ∀ y r, run y = some r → tevL E f ins outs y = some r) : CallOk E.env.prog g ⟨ins, outs, run, .lnt⟩ := by
  have hi' := tysOkB_ok hi
  refine ⟨Nat.le_of_ble_eq_true hin, Nat.le_of_ble_eq_true hout, hi', tysOkB_ok ho, ⟨f, hg, hn, by simp [hb]⟩, fun w y args S L hrel hdl hls hll r hr => ?_⟩
  have ht := hrun y r hr
  unfold tevL at ht
  rw [hb] at ht
  refine walkF hE hm hg hb hl hi' hnt hrel hdl hls hll ht ?_
  rintro ex st a' w' loc' S' ⟨H', ht', hd', hS', hfr, hk, hheld⟩ hK
  have fin : (match resultTs E.env.prog st f.results.toList with
      | some vs => (match takeTys st.rows outs vs with
        | some (x, us, ls) => bif aliveL (appR st.rows us) ls then (match takeBoxes (appR st.rows us) ins 0 with
          | some y => some (x, y)
          | none => none) else none
        | none => none)
      | none => none) = some r → ∃ v, (results f a'.tmps).run E.env.prog w' = .ok v w' ∧ ∃ vs SO SB, Ending.returned v = .returned (packV vs) ∧ TysRel w' outs r.1 vs SO L ∧ TysBack w w' ins r.2 args SB ∧ Dis SO SB ∧
      (∀ b o, SO b o ∨ SB b o → (S b o ∨ w.heap.size ≤ b) ∧ b < w'.heap.size) ∧ Frame S w w' := fun h => by
    split at h
    · rename_i tvs htvs
      split at h
      · rename_i x us ls htk
        cases hal : aliveL (appR st.rows us) ls with
        | false => rw [hal] at h; cases h
        | true =>
        rw [hal, cond_true] at h
        split at h
        · rename_i yb hyb
          simp only [Option.some.injEq] at h
          subst h
          obtain ⟨vs, hres, hvs⟩ := resultTs_ok H' ht' htvs
          obtain ⟨SO, T, kL⟩ := takeTysL_ok H' htk hal hvs
          obtain ⟨SB, hsb, hback, _⟩ := takeBoxes_ok (w0 := w) T.heap hyb hheld
          refine ⟨_, results_run hres, vs, SO, SB, rfl, kL, hback, fun b o h1 h2 => (T.apart b o (hsb b o h2)).2 h1, fun b o h => ?_, hfr⟩
          have : S' b o := by
            rcases h with h | h
            · exact Owned.mono T H' b o h
            · obtain ⟨i, z, ez, hz⟩ := (T.apart b o (hsb b o h)).1
              exact H'.inS i z ez b o hz
          exact ⟨hS' b o this, H'.ltS b o this⟩
        · cases h
      · cases h
    · cases h
  cases ex with
  | normal => exact ⟨.inl rfl, fin hK⟩
  | ret => exact ⟨.inr rfl, fin hK⟩
  | exit id => cases hK

theorem LfRel.cell {w : World} {t : LT} {x : t.D} {v : Value} {S : Fp} {L : Nat → Prop} (h : LfRel w t x v S L) : v.oneCell' = true := by
  cases t with
  | int k => rw [show v = .int k x from h]; rfl
  | bool => rw [show v = .bool x from h]; rfl
  | str => rw [show v = .string x from h]; rfl
  | fn f => rw [show v = .func (.func f) #[] #[] from h]; rfl
  | mb e =>
    cases x with
    | none => exact h
    | some l => obtain ⟨a, cap, ips, e1, _⟩ := h; rw [e1]; rfl
  | sl ow e => cases ow <;> (obtain ⟨a, cap, ips, e1, _⟩ := h; rw [e1]; rfl)
theorem LsRel.cells {w : World} {L : Nat → Prop} : ∀ {ts : List LT} {x : Tup ts} {vs : List Value} {S : Fp}, LsRel w ts x vs S L → oneCells vs ∧ vs.length = ts.length
  | [], _, [], _, _ => ⟨trivial, rfl⟩
  | [], _, _ :: _, _, h => h.elim
  | _ :: _, _, [], _, h => h.elim
  | t :: ts, x, v :: vs, S, h => by
    obtain ⟨S1, S2, h1, h2, _⟩ := h
    obtain ⟨k1, k2⟩ := LsRel.cells h2
    exact ⟨⟨h1.cell, k1⟩, by simp [k2]⟩

theorem oks_one {loc : Loc} : ∀ {l : List SV} {cs : List Value}, okL l = true → Rels loc l cs → oneCells cs ∧ cs.length = l.length
  | [], [], _, _ => ⟨trivial, rfl⟩
  | [], _ :: _, _, h => h.elim
  | _ :: _, [], _, h => h.elim
  | x :: l, c :: cs, h, k => by
    simp only [okL, Bool.and_eq_true] at h
    obtain ⟨k1, k2⟩ := oks_one h.2 k.2
    exact ⟨⟨okS_one h.1 k.1, k1⟩, by simp [k2]⟩

/-- a function whose first result is junk if the second is false -/
theorem tevY_ok {E : CEnv} (hE : ∀ g f, E.env.fns g = some f → CallOk E.env.prog g f) (hm : E.env.prog.follows .mixedOrders = true) {g : FuncId} {f : Func} {c : Code} {ins : List Ty} {ts : List LT} (hg : E.env.prog.funcs[g]? = some f) (hb : f.body = some c) (hn : (f.name == "runtime.NumGoroutine") = false)
    (hl : LoopsOk E.env.prog f.ntmps E c) (hi : tysOkB ins = true) (ho : Nat.ble ts.length 63 = true) (hown : allOwn ts = true) (hin : Nat.ble ins.length 8 = true) (hnt : Nat.ble ins.length f.ntmps = true) {run : PTup ins → Option (PTup [.a ts, .v .bool] × BTup ins)}
    (hrun : ∀ y r, run y = some r → tevY E f ins ts y = some r) : CallOk E.env.prog g ⟨ins, [.a ts, .v .bool], run, .may⟩ := by
  have hi' := tysOkB_ok hi
  refine ⟨Nat.le_of_ble_eq_true hin, by simp, hi', ⟨Nat.le_of_ble_eq_true ho, trivial, trivial⟩, ⟨f, hg, hn, by simp [hb]⟩, fun w y args S L hrel hdl hls hll r hr => ?_⟩
  have ht := hrun y r hr
  unfold tevY at ht
  rw [hb] at ht
  refine walkF hE hm hg hb hl hi' hnt hrel hdl hls hll ht ?_
  rintro ex st a' w' loc' S' ⟨H', ht', hd', hS', hfr, hk, hheld⟩ hK
  have fin : finishY E.env.prog ins ts f.results.toList st = some r → ∃ v, (results f a'.tmps).run E.env.prog w' = .ok v w' ∧ ∃ vs SO SB, Ending.returned v = .returned (packV vs) ∧ OutRel w' .may [.a ts, .v .bool] r.1 vs SO (fun _ => False) ∧ TysBack w w' ins r.2 args SB ∧ Dis SO SB ∧
      (∀ b o, SO b o ∨ SB b o → (S b o ∨ w.heap.size ≤ b) ∧ b < w'.heap.size) ∧ Frame S w w' := fun h => by
    unfold finishY at h
    split at h
    · rename_i tv b htvs
      obtain ⟨vs, hres, hvs⟩ := resultTs_ok H' ht' htvs
      match vs, hvs with
      | [v0, v1], ⟨hv0, hv1, _⟩ =>
      have hv1 : v1 = .bool b := hv1
      subst hv1
      cases b with
      | true =>
        rw [cond_true] at h
        split at h
        · rename_i x us ls htk
          split at h
          · rename_i yb hyb
            simp only [Option.some.injEq] at h
            subst h
            obtain ⟨SO, T, _, k, _⟩ := takeTys_ok H' htk (vs := [v0, .bool true]) ⟨hv0, rfl, trivial⟩
            have hls := takeTys_own_ls (by simp [owns, Ty.own, LT.own, hown]) htk
            subst hls
            obtain ⟨SB, hsb, hback, _⟩ := takeBoxes_ok (w0 := w) T.heap hyb hheld
            have kr := (k false _ (.refl _) rfl).own (L' := fun _ => False) (by simp [owns, Ty.own, LT.own, hown])
            obtain ⟨Sa, Sb, ⟨cs, rfl, rcs⟩, _, _, hsa, _⟩ := kr
            have hone : oneCells cs ∧ cs.length = ts.length := by
              obtain ⟨e1, e2⟩ := rcs.cells
              exact ⟨e1, e2⟩
            refine ⟨_, results_run hres, _, SO, SB, rfl, ⟨cs, rfl, hone.2, hone.1, fun _ => rcs.mono hsa (fun _ h => h)⟩, hback, fun b o h1 h2 => (T.apart b o (hsb b o h2)).2 h1, fun b o h => ?_, hfr⟩
            have : S' b o := by
              rcases h with h | h
              · exact Owned.mono T H' b o h
              · obtain ⟨i, z, ez, hz⟩ := (T.apart b o (hsb b o h)).1
                exact H'.inS i z ez b o hz
            exact ⟨hS' b o this, H'.ltS b o this⟩
          · cases h
        · cases h
      | false =>
        rw [cond_false] at h
        split at h
        · rename_i l yb hyb
          cases hok : okL l && Nat.beq l.length ts.length with
          | false => rw [hok] at h; cases h
          | true =>
            rw [hok, cond_true] at h
            simp only [Option.some.injEq] at h
            subst h
            simp only [Bool.and_eq_true] at hok
            obtain ⟨cs, rfl, rcs⟩ := hv0
            obtain ⟨o1, o2⟩ := oks_one hok.1 rcs
            obtain ⟨SB, hsb, hback, _⟩ := takeBoxes_ok (w0 := w) H' hyb hheld
            refine ⟨_, results_run hres, _, noFp, SB, rfl, ⟨cs, rfl, by rw [o2]; exact Nat.eq_of_beq_eq_true hok.2, o1, (fun h => by cases h)⟩, hback, fun b o h1 h2 => h1.elim, fun b o h => ?_, hfr⟩
            have : S' b o := by
              rcases h with h | h
              · exact h.elim
              · obtain ⟨i, z, ez, hz⟩ := hsb b o h
                exact H'.inS i z ez b o hz
            exact ⟨hS' b o this, H'.ltS b o this⟩
        · cases h
    · cases h
  cases ex with
  | normal => exact ⟨.inl rfl, fin hK⟩
  | ret => exact ⟨.inr rfl, fin hK⟩
  | exit id => cases hK

/-- a function that turns its first argument in place -/
theorem tevM_ok {E : CEnv} (hE : ∀ g f, E.env.fns g = some f → CallOk E.env.prog g f) (hm : E.env.prog.follows .mixedOrders = true) {g : FuncId} {f : Func} {c : Code} {ins outs : List Ty} (hg : E.env.prog.funcs[g]? = some f) (hb : f.body = some c) (hn : (f.name == "runtime.NumGoroutine") = false)
    (hl : LoopsOk E.env.prog f.ntmps E c) (hi : tysOkB ins = true) (ho : tysOkB outs = true) (hown : owns outs = true) (hin : Nat.ble ins.length 8 = true) (hout : Nat.ble outs.length 8 = true) (hnt : Nat.ble ins.length f.ntmps = true) {run : PTup ins → Option (PTup outs × BTup ins)}
    (hrun : ∀ y r, run y = some r → tevM E f ins outs y = some r) (h1 : Nat.ble 1 ins.length = true) : CallOk E.env.prog g ⟨ins, outs, run, .inp⟩ := by
  have hi' := tysOkB_ok hi
  refine ⟨Nat.le_of_ble_eq_true hin, Nat.le_of_ble_eq_true hout, hi', tysOkB_ok ho, ⟨f, hg, hn, by simp [hb]⟩, fun w y args S L hrel hdl hls hll r hr => ?_⟩
  have ht := hrun y r hr
  unfold tevM at ht
  rw [hb] at ht
  simp only at ht
  cases hm0 : memN 0 (dsts c) with
  | true => rw [hm0] at ht; cases ht
  | false =>
  rw [hm0, cond_false] at ht
  refine walkF hE hm hg hb hl hi' hnt hrel hdl hls hll ht ?_
  rintro ex st a' w' loc' S' ⟨H', ht', hd', hS', hfr, hk, hheld⟩ hK
  have fin : (match resultTs E.env.prog st f.results.toList with
      | some [v] => (match takeTys st.rows outs [v, st.tmps 0] with
        | some (x, us, _) => (match takeBoxes (appR st.rows us) ins 0 with
          | some y => some (x, y)
          | none => none)
        | none => none)
      | _ => none) = some r → ∃ v, (results f a'.tmps).run E.env.prog w' = .ok v w' ∧ ∃ vs SO SB, (∃ v0 v1 as, args = v1 :: as ∧ vs = [v0, v1] ∧ Ending.returned v = .returned v0) ∧ TysRel w' outs r.1 vs SO (fun _ => False) ∧ TysBack w w' ins r.2 args SB ∧ Dis SO SB ∧
      (∀ b o, SO b o ∨ SB b o → (S b o ∨ w.heap.size ≤ b) ∧ b < w'.heap.size) ∧ Frame S w w' := fun h => by
    split at h
    · rename_i tv htvs
      split at h
      · rename_i x us ls htk
        split at h
        · rename_i yb hyb
          simp only [Option.some.injEq] at h
          subst h
          obtain ⟨vs, hres, hvs⟩ := resultTs_ok H' ht' htvs
          match vs, hvs with
          | [v0], hvs =>
            have ht0 := ht' 0
            obtain ⟨v1, as, eargs⟩ : ∃ v1 as, args = v1 :: as := by
              have hlen := hrel.len
              cases args with
              | nil => have := Nat.le_of_ble_eq_true h1; simp at hlen; omega
              | cons a as => exact ⟨a, as, rfl⟩
            subst eargs
            have e0 : a'.tmps.getD 0 undef = v1 := by
              rcases hk 0 (fun h => by rw [memN_of h] at hm0; cases hm0) with h | h
              · exact h
              · simp at h
            rw [e0] at ht0
            obtain ⟨SO, T, _, k, _⟩ := takeTys_ok H' htk (vs := [v0, v1]) ⟨hvs.1, ht0, trivial⟩
            have hls := takeTys_own_ls hown htk
            subst hls
            obtain ⟨SB, hsb, hback, _⟩ := takeBoxes_ok (w0 := w) T.heap hyb hheld
            refine ⟨_, results_run hres, [v0, v1], SO, SB, ⟨v0, v1, as, rfl, rfl, rfl⟩, (k false _ (.refl _) rfl).own hown, hback, fun b o h1 h2 => (T.apart b o (hsb b o h2)).2 h1, fun b o h => ?_, hfr⟩
            have : S' b o := by
              rcases h with h | h
              · exact Owned.mono T H' b o h
              · obtain ⟨i, z, ez, hz⟩ := (T.apart b o (hsb b o h)).1
                exact H'.inS i z ez b o hz
            exact ⟨hS' b o this, H'.ltS b o this⟩
        · cases h
      · cases h
    · cases h
  cases ex with
  | normal => exact ⟨.inl rfl, fin hK⟩
  | ret => exact ⟨.inr rfl, fin hK⟩
  | exit id => cases hK

end Go.Tev
