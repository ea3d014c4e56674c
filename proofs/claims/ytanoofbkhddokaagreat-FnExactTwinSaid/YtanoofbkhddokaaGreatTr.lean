/- An evaluator of Go functions on plain values: regions in the order of the text. No condition beyond those that each lemma states. -/
import Derived.Test.YtanoofbkhddokaaGreatTq
import Derived.Orders
set_option linter.unusedSimpArgs false
set_option linter.unusedVariables false
namespace Go.Tev

/-- where a piece of code begins: the world, what is one's own, what is lent; the tmps; which tmps it may turn; rows and structs that stay where they are -/
structure Base where
  w : World
  S : Fp
  L : Nat → Prop
  a : Act
  ts : List Nat
  rows : Nat → Value → Prop
  boxes : Nat → Value → Prop

/-- the evaluator's state reads in memory -/
def Good (B : Base) (st : St) (a : Act) (w : World) : Prop :=
  ∃ loc S, Heap st.rows loc w S B.L ∧ (∀ t, TRel loc (st.tmps t) (a.tmps.getD t undef)) ∧ (a.tmps.size = st.nt ∧ st.nt = B.a.tmps.size) ∧ a.defers = [] ∧ (∀ b o, S b o → B.S b o ∨ B.w.heap.size ≤ b) ∧ Frame B.S B.w w ∧
    (∀ t, t ∉ B.ts → a.tmps.getD t undef = B.a.tmps.getD t undef) ∧ (∀ id u, B.rows id u → SRel loc (.slf id) u) ∧ ∀ id u, B.boxes id u → SRel loc (.ptr id 0) u

theorem Rels.map {loc loc' : Loc} {g : SV → SV} (h : ∀ x u, SRel loc x u → SRel loc' (g x) u) : ∀ {xs : List SV} {vs : List Value}, Rels loc xs vs → Rels loc' (xs.map g) vs
  | [], [], _ => trivial
  | _ :: _, _ :: _, r => ⟨h _ _ r.1, Rels.map h r.2⟩
  | [], _ :: _, r => r.elim
  | _ :: _, [], r => r.elim

theorem CRel.scrub {loc loc' : Loc} {ks : List Nat} (h : ∀ x u, SRel loc x u → SRel loc' (scrubS ks x) u) {x : CV} {v : Value} (r : CRel loc x v) : CRel loc' (scrubC ks x) v := by
  cases x with
  | s x =>
    by_cases hx : x = .undef
    · subst hx; trivial
    · exact CRel_of_SRel (h x v (SRel_of_CRel r hx))
  | agg l => obtain ⟨cs, e, r⟩ := r; exact ⟨cs, e, r.map h⟩

theorem CRels.scrub {loc loc' : Loc} {ks : List Nat} (h : ∀ x u, SRel loc x u → SRel loc' (scrubS ks x) u) : ∀ {xs : List CV} {vs : List Value}, CRels loc xs vs → CRels loc' (xs.map (scrubC ks)) vs
  | [], [], _ => trivial
  | _ :: _, _ :: _, r => ⟨r.1.scrub h, CRels.scrub h r.2⟩
  | [], _ :: _, r => r.elim
  | _ :: _, [], r => r.elim

theorem TRel.scrub {loc loc' : Loc} {ks : List Nat} (h : ∀ x u, SRel loc x u → SRel loc' (scrubS ks x) u) {x : TV} {v : Value} (r : TRel loc x v) : TRel loc' (scrubT ks x) v := by
  cases x with
  | c x => exact CRel.scrub h r
  | tup l => obtain ⟨cs, e, r⟩ := r; exact ⟨cs, e, r.scrub h⟩

theorem CRel.keep {loc loc' : Loc} (h : ∀ x u, SRel loc x u → SRel loc' (scrubS [] x) u) {x : TV} {v : Value} (r : TRel loc x v) : TRel loc' x v := by
  have h' : ∀ x u, SRel loc x u → SRel loc' x u := fun x u r => by have := h x u r; rwa [scrubS_nil] at this
  cases x with
  | c x =>
    cases x with
    | s x =>
      by_cases hx : x = .undef
      · subst hx; trivial
      · exact CRel_of_SRel (h' x v (SRel_of_CRel r hx))
    | agg l => obtain ⟨cs, e, r⟩ := r; exact ⟨cs, e, by have := r.map (g := id) h'; rwa [List.map_id] at this⟩
  | tup l =>
    obtain ⟨cs, e, r⟩ := r
    refine ⟨cs, e, ?_⟩
    clear e
    induction l generalizing cs with
    | nil => cases cs <;> first | trivial | exact r.elim
    | cons x l ih =>
      cases cs with
      | nil => exact r.elim
      | cons c cs =>
        refine ⟨?_, ih cs r.2⟩
        cases x with
        | s x =>
          by_cases hx : x = .undef
          · subst hx; trivial
          · exact CRel_of_SRel (h' x _ (SRel_of_CRel r.1 hx))
        | agg l => obtain ⟨cs, e, r⟩ := r.1; exact ⟨cs, e, by have := r.map (g := id) h'; rwa [List.map_id] at this⟩

theorem scrubA_ok {loc loc' : Loc} {f : Nat → TV} {ks : List Nat} (h : ∀ x u, SRel loc x u → SRel loc' (scrubS ks x) u) {t : Nat} {v : Value} (r : TRel loc (f t) v) : TRel loc' (scrubA f ks t) v := by
  cases ks with
  | nil => exact CRel.keep h r
  | cons k ks => exact TRel.scrub h r

theorem put_size (a : Act) (dst : Option Tmp) (v : Value) : (a.put dst v).tmps.size = a.tmps.size := by cases dst <;> simp [Act.put]
theorem put_defers (a : Act) (dst : Option Tmp) (v : Value) : (a.put dst v).defers = a.defers := by cases dst <;> rfl
theorem put_self {a : Act} {d : Nat} (h : d < a.tmps.size) (v : Value) : (a.put (some d) v).tmps.getD d undef = v := by simp [Act.put, h]
theorem put_other {a : Act} {d t : Nat} (h : t ≠ d) (v : Value) : (a.put (some d) v).tmps.getD t undef = a.tmps.getD t undef := by
  simp only [Act.put, Array.getD_eq_getD_getElem?, Array.getElem?_setIfInBounds_ne (Ne.symm h)]

theorem dst_lt {st : St} {d : Nat} (h : dstOk st (some d) = true) : d < st.nt := by
  have : d + 1 ≤ st.nt := by simpa [dstOk, Nat.blt] using h
  omega

theorem app_rows (st : St) (dst : Option Nat) (v : TV) (us : Us) : (st.app dst v us).rows = appR st.rows us := by cases dst <;> rfl
theorem app_nt (st : St) (dst : Option Nat) (v : TV) (us : Us) : (st.app dst v us).nt = st.nt := by cases dst <;> rfl
theorem app_next (st : St) (dst : Option Nat) (v : TV) (us : Us) : (st.app dst v us).next = st.next := by cases dst <;> rfl

theorem Good.done {B : Base} {st : St} {a : Act} {w w' : World} {loc : Loc} {S : Fp} (ht : ∀ t, TRel loc (st.tmps t) (a.tmps.getD t undef)) (hs : a.tmps.size = st.nt ∧ st.nt = B.a.tmps.size) (hd : a.defers = [])
    (hS : ∀ b o, S b o → B.S b o ∨ B.w.heap.size ≤ b) (hf : Frame B.S B.w w) (hk : ∀ t, t ∉ B.ts → a.tmps.getD t undef = B.a.tmps.getD t undef) (hr : ∀ id u, B.rows id u → SRel loc (.slf id) u) (hb : ∀ id u, B.boxes id u → SRel loc (.ptr id 0) u)
    {dst : Option Nat} (hts : ∀ d, dst = some d → d ∈ B.ts) {v : TV} {us : Us} {val : Value} (h : Done st.rows loc w S B.L us v val w') (hdst : dstOk st dst = true) :
    Good B (st.app dst v us) (a.put dst val) w' := by
  obtain ⟨loc', S', H', hv, hsc, hS', hfr⟩ := h
  have hle := hf.size
  refine ⟨loc', S', ?_, ?_, ?_, by rw [put_defers]; exact hd, fun b o h => (hS' b o h).elim (hS b o) (fun h => .inr (by omega)), hf.trans hfr fun x o hx h => (hS x o h).resolve_right (by omega), ?_, fun id u h => hsc (.slf id) u (hr id u h), fun id u h => hsc (.ptr id 0) u (hb id u h)⟩
  · cases dst <;> exact H'
  · intro t
    cases dst with
    | none => exact scrubA_ok hsc (ht t)
    | some d =>
      by_cases e : t = d
      · subst e
        simp only [St.app, updT_self]
        rw [put_self (by rw [hs.1]; exact dst_lt hdst)]
        exact hv
      · simp only [St.app, updT_other _ _ e]
        rw [put_other e]
        exact scrubA_ok hsc (ht t)
  · rw [put_size, app_nt]; exact hs
  · intro t htt
    cases dst with
    | none => exact hk t htt
    | some d => rw [put_other (fun e => htt (by rw [e]; exact hts d rfl))]; exact hk t htt

/-! ### one operation of a region, with its guard -/

def stepO (env : Env) (all : List Oper) (o : Oper) (fresh : Nat) (st : St) : Option (TV × Us) :=
  match o.guard with
  | none => opRes env fresh o.op st
  | some (j, want) => match all[j]? with
    | some oj => match oj.dst with
      | some t => match st.tmps t with
        | .c (.s (.bool b)) => bif b == want then opRes env fresh o.op st else some (voidT, [])
        | .c (.s .void) => some (voidT, [])
        | _ => none
      | none => none
    | none => none

theorem updT_same {r : Nat → TV} {i : Nat} {x : TV} (h : r i = x) : updT r i x = r := by
  funext j
  by_cases e : j = i
  · subst e; rw [updT_self, h]
  · rw [updT_other _ _ e]

theorem tevO_some {R : Type} {env : Env} {fresh : Nat} {o : Oper} {st : St} {K : St → Option R} {r : R} (h : tevO env fresh o st K = some r) :
    dstOk st o.dst = true ∧ ∃ v us, opRes env fresh o.op st = some (v, us) ∧ usLt (fresh + 1024) us = true ∧ K (st.app o.dst v us) = some r := by
  unfold tevO at h
  cases hd : dstOk st o.dst with
  | false => rw [hd] at h; cases h
  | true =>
    rw [hd, cond_true] at h
    obtain ⟨v, us, h1, h2⟩ := tevOp_some h
    cases hu : usLt (fresh + 1024) us with
    | false => rw [hu] at h2; cases h2
    | true => rw [hu, cond_true] at h2; exact ⟨rfl, v, us, h1, hu, h2⟩

theorem skipO_some {R : Type} {o : Oper} {st : St} {K : St → Option R} {r : R} (h : skipO o st K = some r) : dstOk st o.dst = true ∧ K (st.app o.dst voidT []) = some r := by
  unfold skipO at h
  cases hd : dstOk st o.dst with
  | false => rw [hd] at h; cases h
  | true => rw [hd, cond_true] at h; exact ⟨rfl, h⟩

theorem tevOps_cons {R : Type} {env : Env} {all : List Oper} {o : Oper} {l : List Oper} {fresh : Nat} {st : St} {K : St → Option R} {r : R} (h : tevOps env all (o :: l) fresh st K = some r) :
    dstOk st o.dst = true ∧ ∃ v us, stepO env all o fresh st = some (v, us) ∧ usLt (fresh + 1024) us = true ∧ tevOps env all l (fresh + 1024) (st.app o.dst v us) K = some r := by
  simp only [tevOps] at h
  unfold stepO
  cases hg : o.guard with
  | none =>
    rw [hg] at h
    exact tevO_some h
  | some g =>
    obtain ⟨j, want⟩ := g
    rw [hg] at h
    simp only at h ⊢
    cases hj : all[j]? with
    | none => rw [hj] at h; cases h
    | some oj =>
      rw [hj] at h
      simp only at h ⊢
      cases ht : oj.dst with
      | none => rw [ht] at h; cases h
      | some t =>
        rw [ht] at h
        simp only at h ⊢
        have sk : skipO o st (fun st' => tevOps env all l (fresh + 1024) st' K) = some r → dstOk st o.dst = true ∧ ∃ v us, (some (voidT, []) : Option (TV × Us)) = some (v, us) ∧ usLt (fresh + 1024) us = true ∧ tevOps env all l (fresh + 1024) (st.app o.dst v us) K = some r := fun h =>
          ⟨(skipO_some h).1, _, _, rfl, rfl, (skipO_some h).2⟩
        split at h
        · rename_i b e
          have hs : ∀ b', b = b' → ({ st with tmps := updT st.tmps t (.c (.s (.bool b'))) } : St) = st := fun b' hb => by
            subst hb
            rw [updT_same e]
          rw [e]
          cases b with
          | true =>
            rw [hs true rfl, cond_true] at h
            cases want with
            | true => exact tevO_some (by simpa only [cond_true] using h)
            | false => exact sk (by simpa only [cond_false] using h)
          | false =>
            rw [hs false rfl, cond_false] at h
            cases want with
            | true => exact sk (by simpa only [cond_true] using h)
            | false => exact tevO_some (by simpa only [cond_false] using h)
        · rename_i e
          rw [e]
          exact sk h
        · cases h

theorem getD_some {a : Array Value} {t : Nat} {b : Bool} (h : a.getD t undef = .bool b) : a[t]? = some (.bool b) := by
  rw [Array.getD_eq_getD_getElem?] at h
  cases hx : a[t]? with
  | none => rw [hx] at h; cases h
  | some x => rw [hx] at h; simp only [Option.getD_some] at h; rw [h]

/-- one operation of a region -/
theorem step_ok {env : Env} {ops : Array Oper} {st : St} {a : Act} {w : World} {B : Base} (hE : ∀ g f, env.fns g = some f → CallOk env.prog g f) (G : Good B st a w) {i : Nat} {o : Oper} (ho : ops[i]? = some o) (hts : ∀ d, o.dst = some d → d ∈ B.ts)
    {fresh : Nat} (hid : ∀ k, fresh ≤ k → k < fresh + 1024 → st.rows k = none) {v : TV} {us : Us} (h : stepO env ops.toList o fresh st = some (v, us)) (hdst : dstOk st o.dst = true) {next : Act → World → Prop} {Q : Exit → Act → World → Prop}
    (hn : ∀ a' w', Good B (st.app o.dst v us) a' w' → next a' w') : wpOp env.prog ops Q i next a w := by
  obtain ⟨loc, S, H, ht, hs, hd, hS, hf, hk, hr, hb⟩ := G
  have run : opRes env fresh o.op st = some (v, us) → o.wp env.prog a w next Q := fun h => op_ok hE H ht hid h fun val w' hdone => hn _ _ (Good.done ht hs hd hS hf hk hr hb hts hdone hdst)
  have skip : (v, us) = (voidT, []) → next (a.put o.dst undef) w := fun h => by
    obtain ⟨rfl, rfl⟩ := Prod.mk.inj h
    exact hn _ _ (Good.done ht hs hd hS hf hk hr hb hts (Done.quiet H (v := voidT) (val := undef) rfl) hdst)
  unfold wpOp
  simp only [ho]
  unfold stepO at h
  cases hg : o.guard with
  | none =>
    rw [hg] at h
    simp only [Region.wanted, hg, if_true]
    exact .inl (run h)
  | some g =>
    obtain ⟨j, want⟩ := g
    rw [hg] at h
    simp only at h
    cases hj : ops.toList[j]? with
    | none => rw [hj] at h; cases h
    | some oj =>
      rw [hj] at h
      simp only at h
      cases hjd : oj.dst with
      | none => rw [hjd] at h; cases h
      | some t =>
        rw [hjd] at h
        simp only at h
        have hj' : ops[j]? = some oj := by simpa using hj
        have htt := ht t
        split at h
        · rename_i b e
          rw [e] at htt
          have hb : a.tmps.getD t undef = .bool b := htt
          have hy : yielded ops a.tmps j = some b := by simp [yielded, hj', hjd, getD_some hb]
          simp only [Region.wanted, hg, hy]
          by_cases hbw : b = want
          · subst hbw
            simp only [BEq.rfl, cond_true] at h ⊢
            simp only [if_true]
            exact .inl (run h)
          · have h1 : (b == want) = false := by simpa using hbw
            have h2 : ((some b : Option Bool) == some want) = false := by simpa using hbw
            rw [h1, cond_false] at h
            simp only [h2, Bool.false_eq_true, if_false]
            exact skip (Option.some.inj h).symm
        · rename_i e
          rw [e] at htt
          have hb : a.tmps.getD t undef = undef := htt
          have hy : yielded ops a.tmps j = none := by
            simp only [yielded, hj', hjd, Option.bind_some]
            cases hx : a.tmps[t]? with
            | none => rfl
            | some x =>
              rw [Array.getD_eq_getD_getElem?, hx] at hb
              simp only [Option.getD_some] at hb
              rw [hb]; rfl
          simp only [Region.wanted, hg, hy]
          have h2 : ((none : Option Bool) == some want) = false := rfl
          simp only [h2, Bool.false_eq_true, if_false]
          exact skip (Option.some.inj h).symm
        · cases h

theorem usLt_rows {rows : Rows} {n : Nat} : ∀ {us : Us}, usLt n us = true → ∀ k, n ≤ k → appR rows us k = rows k := by
  intro us
  induction us generalizing rows with
  | nil => intro _ k _; rfl
  | cons p us ih =>
    intro h k hk
    obtain ⟨i, x⟩ := p
    simp only [usLt] at h
    cases hb : Nat.blt i n with
    | false => rw [hb] at h; cases h
    | true =>
      rw [hb, cond_true] at h
      have : i + 1 ≤ n := by simpa [Nat.blt] using hb
      simp only [appR]
      rw [ih h k hk, updR_other _ _ (by omega)]


/-- a region in the order of the text -/
theorem tevOps_ok {R : Type} {env : Env} (hE : ∀ g f, env.fns g = some f → CallOk env.prog g f) {ops : Array Oper} {B : Base} (hts : ∀ o, o ∈ ops.toList → ∀ d, o.dst = some d → d ∈ B.ts) {K : St → Option R} {r : R} {Q : Exit → Act → World → Prop} :
    ∀ (l : List Oper) (i fresh : Nat) (st : St) (a : Act) (w : World), ops.toList.drop i = l → tevOps env ops.toList l fresh st K = some r → Good B st a w → (∀ k, fresh ≤ k → st.rows k = none) →
      (∀ st' a' w', Good B st' a' w' → st'.nt = st.nt → st'.next = st.next → (∀ k, fresh + 1024 * l.length ≤ k → st'.rows k = none) → K st' = some r → Q .normal a' w') → wpOps env.prog ops Q (List.range' i l.length) a w
  | [], i, fresh, st, a, w, _, h, G, hf, hq => hq st a w G rfl rfl (fun k hk => hf k (by simpa using hk)) h
  | o :: l, i, fresh, st, a, w, hl, h, G, hf, hq => by
    obtain ⟨hdst, v, us, hst, hus, hrest⟩ := tevOps_cons h
    have ho : ops[i]? = some o := by
      have : (ops.toList.drop i)[0]? = some o := by rw [hl]; rfl
      simpa using this
    have hl' : ops.toList.drop (i + 1) = l := by
      rw [← List.drop_drop, hl]; rfl
    rw [List.length_cons, List.range'_succ, wpOps_cons]
    refine step_ok hE G ho (hts o (by have := Array.mem_of_getElem? ho; simpa using this)) (fun k h1 _ => hf k h1) hst hdst fun a' w' G' => ?_
    refine tevOps_ok hE hts l (i + 1) (fresh + 1024) _ a' w' hl' hrest G' (fun k hk => by rw [app_rows, usLt_rows hus k hk]; exact hf k (by omega)) fun st' a'' w'' G'' h1 h2 h3 h4 => ?_
    exact hq st' a'' w'' G'' (by rw [h1, app_nt]) (by rw [h2, app_next]) (fun k hk => h3 k (by rw [List.length_cons] at hk; omega)) h4

end Go.Tev
