/- An evaluator of Go functions on plain values: less is known of the rows. No condition beyond those that each lemma states. -/
import Derived.KernelRfl
import Derived.Test.YtanoofbkhddokaaGreatTr
set_option linter.unusedSimpArgs false
set_option linter.unusedVariables false
namespace Go.Tev

/-- of some rows nothing is known -/
def SubD (p q : Rows) : Prop := ∀ id, p id = some .dead ∨ p id = q id

theorem SubD.upd {p q : Rows} (h : SubD p q) (i : Nat) (x : Row) : SubD (updR p i x) (updR q i x) := fun id => by
  by_cases e : id = i
  · subst e; rw [updR_self, updR_self]; exact .inr rfl
  · rw [updR_other _ _ e, updR_other _ _ e]; exact h id

theorem SubD.app {p q : Rows} (h : SubD p q) : ∀ us : Us, SubD (appR p us) (appR q us) := by
  intro us
  induction us generalizing p q with
  | nil => exact h
  | cons a us ih => exact ih (h.upd a.1 a.2)

theorem sliceOf_mono {p q : Rows} (s : SubD p q) {e : E} {sv : SV} {r : List e.C × Option (Nat × Bool)} (h : sliceOf p e sv = some r) : sliceOf q e sv = some r := by
  cases sv with
  | slf id => rcases s id with k | k <;> simp only [sliceOf, k] at h ⊢ <;> first | exact h | cases h
  | sld id o => rcases s id with k | k <;> simp only [sliceOf, k] at h ⊢ <;> first | exact h | cases h
  | slt id n => rcases s id with k | k <;> simp only [sliceOf, k] at h ⊢ <;> first | exact h | cases h
  | nslf id i => cases e <;> rcases s id with k | k <;> simp only [sliceOf, k] at h ⊢ <;> first | exact h | cases h
  | nil => exact h
  | _ => simp only [sliceOf] at h <;> cases h

theorem takeL_mono {p q : Rows} (s : SubD p q) {t : LT} {v : SV} {r : t.D × Us × List Nat} (hm : t.isMb = false) (h : takeL p t v = some r) : takeL q t v = some r := by
  cases t with
  | mb e => cases hm
  | sl own e =>
    simp only [takeL] at h ⊢
    cases hs : sliceOf p e v with
    | none => rw [hs] at h; cases h
    | some x => rw [hs] at h; rw [sliceOf_mono s hs]; exact h
  | _ => cases v <;> first | exact h | (simp only [takeL] at h <;> cases h)

theorem noMbL_cons {t : LT} {ts : List LT} (h : noMbL (t :: ts) = true) : t.isMb = false ∧ noMbL ts = true := by
  simp only [noMbL] at h
  cases hb : t.isMb with
  | true => rw [hb] at h; cases h
  | false => rw [hb] at h; exact ⟨rfl, h⟩
theorem noMbs_cons {t : Ty} {ts : List Ty} (h : noMbs (t :: ts) = true) : t.noMb = true ∧ noMbs ts = true := by
  simp only [noMbs] at h
  cases hb : t.noMb with
  | false => rw [hb] at h; cases h
  | true => rw [hb] at h; exact ⟨rfl, h⟩

theorem takeLs_mono : ∀ {ts : List LT} {p q : Rows} {vs : List SV} {r : Tup ts × Us × List Nat}, noMbL ts = true → SubD p q → takeLs p ts vs = some r → takeLs q ts vs = some r
  | [], _, _, [], _, _, _, h => h
  | [], _, _, _ :: _, _, _, _, h => by simp only [takeLs] at h; cases h
  | _ :: _, _, _, [], _, _, _, h => by simp only [takeLs] at h; cases h
  | t :: ts, p, q, v :: vs, r, hm, s, h => by
    obtain ⟨hm1, hm2⟩ := noMbL_cons hm
    simp only [takeLs] at h ⊢
    cases h1 : takeL p t v with
    | none => rw [h1] at h; cases h
    | some x =>
      obtain ⟨x, us, ls⟩ := x
      rw [h1] at h
      rw [takeL_mono s hm1 h1]
      simp only at h ⊢
      cases h2 : takeLs (appR p us) ts vs with
      | none => rw [h2] at h; cases h
      | some y => rw [h2] at h; rw [takeLs_mono hm2 (s.app us) h2]; exact h

theorem takeTy_mono {p q : Rows} (s : SubD p q) {t : Ty} {v : TV} {r : t.D × Us × List Nat} (hm : t.noMb = true) (h : takeTy p t v = some r) : takeTy q t v = some r := by
  cases t with
  | v t =>
    cases v with
    | tup l => simp only [takeTy] at h; cases h
    | c c => cases c with
      | s x => exact takeL_mono (t := t) s (by simpa [Ty.noMb] using hm) h
      | agg l => simp only [takeTy] at h; cases h
  | a ts =>
    cases v with
    | tup l => simp only [takeTy] at h; cases h
    | c c => cases c with
      | s x => simp only [takeTy] at h; cases h
      | agg l => exact takeLs_mono (ts := ts) hm s h
  | p ts =>
    cases v with
    | tup l => simp only [takeTy] at h; cases h
    | c c => cases c with
      | agg l => simp only [takeTy] at h; cases h
      | s x => cases x with
        | ptr id off =>
          rcases s id with k | k
          · simp only [takeTy, k] at h; cases h
          · simp only [takeTy, k] at h ⊢
            split at h
            · rename_i cs _
              cases hb : Nat.ble (off + ts.length) cs.length with
              | false => rw [hb] at h; cases h
              | true =>
                rw [hb, cond_true] at h
                simp only [cond_true]
                split at h
                · rename_i w hw
                  cases h2 : takeLs (updR p id (.box (setsAt cs off w))) ts ((cs.drop off).take ts.length) with
                  | none => rw [h2] at h; cases h
                  | some y => rw [h2] at h; rw [takeLs_mono hm (s.upd _ _) h2]; exact h
                · cases h
            · cases h
        | _ => simp only [takeTy] at h; cases h
  | r ts =>
    cases v with
    | tup l => simp only [takeTy] at h; cases h
    | c c => cases c with
      | agg l => simp only [takeTy] at h; cases h
      | s x => cases x with
        | ptr id off =>
          rcases s id with k | k
          · simp only [takeTy, boxC, k] at h; cases h
          · have kb : boxC q id = boxC p id := by simp only [boxC, k]
            simp only [takeTy, kb] at h ⊢
            split at h
            · rename_i cs _
              cases hb : rOk ts && Nat.ble (off + ts.length) cs.length with
              | false => rw [hb] at h; cases h
              | true =>
                rw [hb, cond_true] at h
                simp only [cond_true]
                cases h2 : takeLs p ts ((cs.drop off).take ts.length) with
                | none => rw [h2] at h; cases h
                | some y => rw [h2] at h; rw [takeLs_mono hm s h2]; exact h
            · cases h
        | _ => simp only [takeTy] at h; cases h

theorem takeTys_mono : ∀ {ts : List Ty} {p q : Rows} {vs : List TV} {r : PTup ts × Us × List Nat}, noMbs ts = true → SubD p q → takeTys p ts vs = some r → takeTys q ts vs = some r
  | [], _, _, [], _, _, _, h => h
  | [], _, _, _ :: _, _, _, _, h => by simp only [takeTys] at h; cases h
  | _ :: _, _, _, [], _, _, _, h => by simp only [takeTys] at h; cases h
  | t :: ts, p, q, v :: vs, r, hm, s, h => by
    obtain ⟨hm1, hm2⟩ := noMbs_cons hm
    simp only [takeTys] at h ⊢
    cases h1 : takeTy p t v with
    | none => rw [h1] at h; cases h
    | some x =>
      obtain ⟨x, us, ls⟩ := x
      rw [h1] at h
      rw [takeTy_mono s hm1 h1]
      simp only at h ⊢
      cases h2 : takeTys (appR p us) ts vs with
      | none => rw [h2] at h; cases h
      | some y => rw [h2] at h; rw [takeTys_mono hm2 (s.app us) h2]; exact h

theorem aliveR_mono {np : Bool} {p q : Rows} (s : SubD p q) : ∀ {ls : List Nat}, aliveR np p ls = true → aliveR np q ls = true
  | [], _ => rfl
  | id :: ls, h => by
    rcases s id with k | k <;> simp only [aliveR, k] at h ⊢
    · cases h
    · split at h
      · exact aliveR_mono s h
      · exact aliveR_mono s h
      · simp only [Bool.and_eq_true] at h ⊢; exact ⟨h.1, h.2.1, aliveR_mono s h.2.2⟩
      · cases h
theorem aliveL_mono {p q : Rows} (s : SubD p q) : ∀ {ls : List Nat}, aliveL p ls = true → aliveL q ls = true
  | [], _ => rfl
  | id :: ls, h => by
    rcases s id with k | k <;> simp only [aliveL, k] at h ⊢
    · cases h
    · split at h
      · exact aliveL_mono s h
      · exact aliveL_mono s h
      · cases h

theorem takeAll_mono {p q : Rows} (s : SubD p q) {ts : List Ty} {vs : List TV} {r : PTup ts × Us} (h : takeAll p ts vs = some r) : takeAll q ts vs = some r := by
  simp only [takeAll] at h ⊢
  cases hm : noMbs ts with
  | false => rw [hm] at h; cases h
  | true =>
  rw [hm, cond_true] at h
  rw [cond_true]
  cases h1 : takeTys p ts vs with
  | none => rw [h1] at h; cases h
  | some x =>
    obtain ⟨x, us, ls⟩ := x
    rw [h1] at h
    rw [takeTys_mono hm s h1]
    simp only at h ⊢
    cases hb : aliveR (noPs ts) (appR p us) ls with
    | false => rw [hb] at h; cases h
    | true => rw [hb] at h; rw [aliveR_mono (s.app us) hb]; exact h

theorem takeAllL_mono {p q : Rows} (s : SubD p q) {ts : List Ty} {vs : List TV} {r : PTup ts × Us} (h : takeAllL p ts vs = some r) : takeAllL q ts vs = some r := by
  simp only [takeAllL] at h ⊢
  cases hm : noMbs ts with
  | false => rw [hm] at h; cases h
  | true =>
  rw [hm, cond_true] at h
  rw [cond_true]
  cases h1 : takeTys p ts vs with
  | none => rw [h1] at h; cases h
  | some x =>
    obtain ⟨x, us, ls⟩ := x
    rw [h1] at h
    rw [takeTys_mono hm s h1]
    simp only at h ⊢
    cases hb : aliveL (appR p us) ls with
    | false => rw [hb] at h; cases h
    | true => rw [hb] at h; rw [aliveL_mono (s.app us) hb]; exact h

theorem backL_mono {p q : Rows} (s : SubD p q) {t : LT} {x : t.D} {v : SV} {b : Us} (h : backL p t x v = some b) : backL q t x v = some b := by
  cases t with
  | sl ow e =>
    cases ow with
    | true =>
      cases v with
      | slf id => rcases s id with k | k <;> simp only [backL, k] at h ⊢ <;> first | exact h | cases h
      | nil => exact h
      | _ => simp only [backL] at h <;> cases h
    | false => simp only [backL] at h; cases h
  | mb e => simp only [backL] at h; cases h
  | _ => exact h
theorem backLs_mono {p q : Rows} (s : SubD p q) : ∀ {ts : List LT} {x : Tup ts} {vs : List SV} {b : Us}, backLs p ts x vs = some b → backLs q ts x vs = some b
  | [], _, [], _, h => h
  | [], _, _ :: _, _, h => by simp only [backLs] at h; cases h
  | _ :: _, _, [], _, h => by simp only [backLs] at h; cases h
  | t :: ts, x, v :: vs, b, h => by
    simp only [backLs] at h ⊢
    cases h1 : backL p t x.1 v with
    | none => rw [h1] at h; cases h
    | some a =>
      rw [h1] at h
      rw [backL_mono s h1]
      simp only at h ⊢
      cases h2 : backLs p ts x.2 vs with
      | none => rw [h2] at h; cases h
      | some c => rw [h2] at h; rw [backLs_mono s h2]; exact h
theorem backT_mono {p q : Rows} (s : SubD p q) {t : Ty} {x : t.D} {v : TV} {b : Us} (h : backT p t x v = some b) : backT q t x v = some b := by
  cases t with
  | v t =>
    cases v with
    | tup l => simp only [backT] at h; cases h
    | c c => cases c with
      | s y => exact backL_mono s h
      | agg l => simp only [backT] at h; cases h
  | a ts =>
    cases v with
    | tup l => simp only [backT] at h; cases h
    | c c => cases c with
      | s y => simp only [backT] at h; cases h
      | agg l => exact backLs_mono s h
  | p ts => simp only [backT] at h; cases h
  | r ts => simp only [backT] at h; cases h

theorem toEl_any {p q : Rows} {e : E} {cv : CV} (h : e ≠ .n) : toEl p e cv = toEl q e cv := by
  cases e <;> first | exact absurd rfl h | kernel_rfl

theorem toEl_mono {p q : Rows} (s : SubD p q) {e : E} {cv : CV} {r : e.C × Us} (h : toEl p e cv = some r) : toEl q e cv = some r := by
  cases e with
  | n =>
    cases cv with
    | agg l => simp only [toEl] at h; cases h
    | s v =>
      simp only [toEl] at h ⊢
      cases h1 : takeL p (.sl true .i) v with
      | none => rw [h1] at h; cases h
      | some x => rw [h1] at h; rw [takeL_mono s rfl h1]; exact h
  | _ => rw [toEl_any (p := q) (q := p) (by simp)]; exact h

theorem toEls_mono {e : E} : ∀ {cvs : List CV} {p q : Rows} {r : List e.C × Us}, SubD p q → toEls p e cvs = some r → toEls q e cvs = some r
  | [], _, _, _, _, h => h
  | v :: vs, p, q, r, s, h => by
    simp only [toEls] at h ⊢
    cases h1 : toEl p e v with
    | none => rw [h1] at h; cases h
    | some x =>
      obtain ⟨x, us⟩ := x
      rw [h1] at h
      rw [toEl_mono s h1]
      simp only at h ⊢
      cases h2 : toEls (appR p us) e vs with
      | none => rw [h2] at h; cases h
      | some y => rw [h2] at h; rw [toEls_mono (s.app us) h2]; exact h

theorem loadF_mono {P : Program} {p q : Rows} (s : SubD p q) {t : TypeId} {v : TV} {f : F} (h : loadF P p t v = some f) : loadF P q t v = some f := by
  cases v with
  | tup l => simp only [loadF] at h; cases h
  | c c => cases c with
    | agg l => simp only [loadF] at h; cases h
    | s x => cases x with
      | ptr id o => rcases s id with k | k <;> simp only [loadF, boxC, k] at h ⊢ <;> first | exact h | cases h
      | eptr id i o => rcases s id with k | k <;> simp only [loadF, k] at h ⊢ <;> first | exact h | cases h
      | nptr id i j => rcases s id with k | k <;> simp only [loadF, k] at h ⊢ <;> first | exact h | cases h
      | _ => simp only [loadF] at h; cases h

theorem lenF_mono {p q : Rows} (s : SubD p q) {v : TV} {f : F} (h : lenF p v = some f) : lenF q v = some f := by
  cases v with
  | tup l => simp only [lenF] at h; cases h
  | c c => cases c with
    | agg l => simp only [lenF] at h; cases h
    | s x => cases x with
      | slf id => rcases s id with k | k <;> simp only [lenF, k] at h ⊢ <;> first | exact h | cases h
      | sld id o => rcases s id with k | k <;> simp only [lenF, k] at h ⊢ <;> first | exact h | cases h
      | slt id o => rcases s id with k | k <;> simp only [lenF, k] at h ⊢ <;> first | exact h | cases h
      | nslf id i => rcases s id with k | k <;> simp only [lenF, k] at h ⊢ <;> first | exact h | cases h
      | nil => exact h
      | _ => simp only [lenF] at h; cases h

theorem idxF_mono {p q : Rows} (s : SubD p q) {e : E} {i : Int} {v : SV} {f : F} (h : idxF p e i v = some f) : idxF q e i v = some f := by
  cases v with
  | slf id => rcases s id with k | k <;> simp only [idxF, k] at h ⊢ <;> first | exact h | cases h
  | sld id o => rcases s id with k | k <;> simp only [idxF, k] at h ⊢ <;> first | exact h | cases h
  | slt id o => rcases s id with k | k <;> simp only [idxF, k] at h ⊢ <;> first | exact h | cases h
  | nslf id j => rcases s id with k | k <;> simp only [idxF, k] at h ⊢ <;> first | exact h | cases h
  | _ => simp only [idxF] at h; cases h

theorem sliceF_mono {P : Program} {p q : Rows} (s : SubD p q) {t : TypeId} {v : TV} {lo hi : Option TV} {f : F} (h : sliceF P p t v lo hi = some f) : sliceF P q t v lo hi = some f := by
  unfold sliceF at h
  split at h
  · exact h
  · exact h
  · exact h
  · rename_i id k lo
    rcases s id with k | k <;> simp only [sliceF, k] at h ⊢ <;> first | exact h | cases h
  · rename_i id k lo
    rcases s id with k | k <;> simp only [sliceF, k] at h ⊢ <;> first | exact h | cases h
  · rename_i id i k lo
    rcases s id with k | k <;> simp only [sliceF, k] at h ⊢ <;> first | exact h | cases h
  · cases h

theorem appendF_mono {P : Program} {p q : Rows} (s : SubD p q) {fresh : Nat} {t : TypeId} {v x : TV} {f : F} (h : appendF P p fresh t v x = some f) : appendF P q fresh t v x = some f := by
  unfold appendF at h
  split at h
  · rename_i sv sx
    simp only [appendF]
    split at h
    · rename_i e he
      cases h1 : sliceOf p e sv with
      | none => rw [h1] at h; cases h
      | some y =>
        obtain ⟨l, own⟩ := y
        rw [h1] at h
        rw [sliceOf_mono s h1]
        simp only at h ⊢
        cases h2 : sliceOf (appR p (ioKill own)) e sx with
        | none => rw [h2] at h; cases h
        | some z => rw [h2] at h; rw [sliceOf_mono (s.app _) h2]; exact h
    · cases h
  · cases h

theorem convF_mono {P : Program} {p q : Rows} (s : SubD p q) {src dst : TypeId} {v : TV} {f : F} (h : convF P p src dst v = some f) : convF P q src dst v = some f := by
  cases v with
  | tup l => simp only [convF] at h; cases h
  | c c => cases c with
    | agg l => simp only [convF] at h; cases h
    | s x =>
      cases x with
      | int k n => exact h
      | _ =>
        simp only [convF] at h ⊢
        split at h
        · rename_i l o he hd hs
          rw [he, hd, sliceOf_mono s hs]
          exact h
        · cases h

theorem storeF_mono {P : Program} {p q : Rows} (s : SubD p q) {t : TypeId} {v u : TV} {f : F} (h : storeF P p t v u = some f) : storeF P q t v u = some f := by
  cases v with
  | tup l => simp only [storeF] at h; cases h
  | c c => cases c with
    | agg l => simp only [storeF] at h; cases h
    | s x => cases x with
      | ptr id off => rcases s id with k | k <;> simp only [storeF, k] at h ⊢ <;> first | exact h | cases h
      | nptr id i j =>
        cases u with
        | tup l => simp only [storeF] at h; cases h
        | c c => cases c with
          | agg l => simp only [storeF] at h; cases h
          | s y =>
            cases y with
            | int kk n => cases kk <;> rcases s id with k | k <;> simp only [storeF, k] at h ⊢ <;> first | exact h | (cases h; done) | skip
            | _ => simp only [storeF] at h <;> cases h
      | eptr id i off =>
        cases u with
        | tup l => simp only [storeF] at h; cases h
        | c v =>
          rcases s id with k | k
          · simp only [storeF, k] at h; cases h
          · simp only [storeF, k] at h ⊢
            split at h
            · rename_i e l hrow
              cases e with
              | t =>
                cases v with
                | agg l' =>
                  simp only at h ⊢
                  cases h1 : toEl p .t (.agg l') with
                  | none => rw [h1] at h; cases h
                  | some x => rw [h1] at h; rw [toEl_mono s h1]; exact h
                | s y =>
                  cases y with
                  | int k n => cases k <;> exact h
                  | _ => simp only [toEl] at h; cases h
              | n =>
                cases v with
                | agg l' => simp only [toEl] at h; cases h
                | s y =>
                  have d : (match takeL p (.sl true .i) y with
                      | some (x, us, _) => bif Nat.beq off 0 && Nat.beq (P.cellsOf t) 1 then some (⟨[], voidT, us ++ [(id, .scrub), (id, .row true .n (l.set i.toNat x))]⟩ : F) else none
                      | none => none) = some f → (match takeL q (.sl true .i) y with
                      | some (x, us, _) => bif Nat.beq off 0 && Nat.beq (P.cellsOf t) 1 then some (⟨[], voidT, us ++ [(id, .scrub), (id, .row true .n (l.set i.toNat x))]⟩ : F) else none
                      | none => none) = some f := fun h => by
                    cases h1 : takeL p (.sl true .i) y with
                    | none => rw [h1] at h; cases h
                    | some x => rw [h1] at h; rw [takeL_mono s rfl h1]; exact h
                  cases y with
                  | nsld id' i' o => exact h
                  | _ => exact d h
              | _ =>
                simp only at h ⊢
                split at h
                · rename_i h1
                  rw [toEl_mono s h1]; exact h
                · cases h
            · cases h
      | _ => simp only [storeF] at h; cases h

theorem fetch_mono {P : Program} {st st' : St} (ht : st'.tmps = st.tmps) (s : SubD st.rows st'.rows) {fresh : Nat} {op : Op} {f : F} (h : fetch P fresh st op = some f) : fetch P fresh st' op = some f := by
  have ev : ∀ x, st'.ev x = st.ev x := fun x => by cases x <;> simp [St.ev, ht]
  have pe : ∀ l, pairsEv st' l = pairsEv st l := fun l => by
    induction l with
    | nil => rfl
    | cons a l ih => obtain ⟨i, x⟩ := a; simp only [pairsEv, ev, ih]
  have oe : ∀ x, optEv st' x = optEv st x := fun x => by cases x <;> simp [optEv, ev]
  unfold fetch at h
  split at h
  · simpa only [fetch, ev] using h
  · simpa only [fetch, ev] using h
  · exact h
  · simpa only [fetch, ev] using h
  · simpa only [fetch, pe] using h
  · simp only [fetch, pe]
    split at h
    · rename_i e vs he ho
      cases hb : (Nat.beq vs.length _ && Nat.ble _ 1000) with
      | false => rw [hb] at h; cases h
      | true =>
        rw [hb, cond_true] at h
        simp only [cond_true]
        cases h1 : toEls st.rows e vs with
        | none => rw [h1] at h; cases h
        | some x => rw [h1] at h; rw [toEls_mono s h1]; exact h
    · cases h
  · simpa only [fetch, ev] using loadF_mono s h
  · simpa only [fetch, ev] using storeF_mono s h
  · simpa only [fetch, ev] using h
  · simpa only [fetch, ev] using h
  · simpa only [fetch, ev] using h
  · simpa only [fetch, ev] using convF_mono s h
  · simpa only [fetch, ev] using h
  · simpa only [fetch, ev, oe] using sliceF_mono s h
  · simpa only [fetch, ev] using h
  · simpa only [fetch, ev] using h
  · simp only [fetch, ev]
    split at h
    · exact idxF_mono s h
    · cases h
  · simpa only [fetch, ev] using h
  · simpa only [fetch, ev] using h
  · cases h

theorem fetchB_mono {P : Program} {st st' : St} (s : SubD st.rows st'.rows) {fresh : Nat} {b : Builtin} {ats : List TypeId} {args : List TV} {f : F} (h : fetchB P fresh st b ats args = some f) : fetchB P fresh st' b ats args = some f := by
  unfold fetchB at h
  split at h
  · simp only [fetchB]
    split at h
    · exact h
    · exact lenF_mono s h
    · cases h
  · simp only [fetchB]
    rename_i x y t t'
    cases hb : Nat.beq t t' with
    | false => rw [hb] at h; cases h
    | true => rw [hb, cond_true] at h; exact appendF_mono s h
  · exact h
  · exact h
  · cases h

theorem pbOk_mono : ∀ {ts : List Ty} {x : BTup ts} {vs : List TV} {p q : Rows} {base : Nat}, SubD p q → pbOk ts x vs p base = true → pbOk ts x vs q base = true ∧ putBack ts x vs q base = putBack ts x vs p base
  | [], _, _, _, _, _, _, _ => by unfold pbOk putBack; exact ⟨rfl, rfl⟩
  | .v _ :: r, x, [], _, _, _, _, h => by unfold pbOk at h; cases h
  | .a _ :: r, x, [], _, _, _, _, h => by unfold pbOk at h; cases h
  | .p _ :: r, x, [], _, _, _, _, h => by unfold pbOk at h; cases h
  | .r _ :: r, x, [], _, _, _, _, h => by unfold pbOk at h; cases h
  | .v _ :: r, x, _ :: vs, p, q, base, s, h => by unfold pbOk at h; unfold pbOk putBack; exact pbOk_mono s h
  | .a _ :: r, x, _ :: vs, p, q, base, s, h => by unfold pbOk at h; unfold pbOk putBack; exact pbOk_mono s h
  | .r _ :: r, x, _ :: vs, p, q, base, s, h => by unfold pbOk at h; unfold pbOk putBack; exact pbOk_mono s h
  | .p ts :: r, x, v :: vs, p, q, base, s, h => by
    cases v with
    | tup l => unfold pbOk at h; cases h
    | c c =>
      cases c with
      | agg l => unfold pbOk at h; cases h
      | s sv =>
        cases sv with
        | ptr id off =>
          simp only [pbOk, putBack] at h ⊢
          rcases s id with k | k
          · rw [k] at h; cases h
          · rw [k] at h
            split at h
            · rename_i cs hcs
              rw [k, hcs]
              simp only
              have ih := pbOk_mono (s.app ((putOwn ts x.1 ((cs.drop off).take ts.length) base).2 ++ [(id, .box (setsAt cs off (putOwn ts x.1 ((cs.drop off).take ts.length) base).1))])) h
              exact ⟨ih.1, by rw [ih.2]⟩
            · cases h
        | _ => unfold pbOk at h; cases h

theorem evs_same {st st' : St} (ht : st'.tmps = st.tmps) : ∀ l : List Operand, evs st' l = evs st l := by
  have ev : ∀ x, st'.ev x = st.ev x := fun x => by cases x <;> simp [St.ev, ht]
  intro l
  induction l with
  | nil => rfl
  | cons a l ih => simp only [evs, ev, ih]

theorem callX_mono {f : Fn} {fresh : Nat} {st st' : St} {args : List TV} (s : SubD st.rows st'.rows) {r : TV × Us} (h : callX f fresh st args (fun v us => some (v, us)) = some r) : callX f fresh st' args (fun v us => some (v, us)) = some r := by
  unfold callX at h ⊢
  cases hk : f.kd with
  | nor =>
    rw [hk] at h
    simp only [callF] at h ⊢
    cases h1 : takeAll st.rows f.ins args with
    | none => rw [h1] at h; cases h
    | some yu =>
      obtain ⟨y, us⟩ := yu
      rw [h1] at h
      rw [takeAll_mono s h1]
      simp only at h ⊢
      cases hr : f.run y with
      | none => rw [hr] at h; cases h
      | some z =>
        rw [hr] at h
        simp only [Option.bind_some] at h ⊢
        cases hb : pbOk f.ins z.2 args (appR st.rows us) (fresh + 512) with
        | false => rw [hb] at h; cases h
        | true =>
          rw [hb] at h
          obtain ⟨k1, k2⟩ := pbOk_mono (s.app us) hb
          rw [k1, k2]
          exact h
  | lnt =>
    rw [hk] at h
    simp only [callL] at h ⊢
    cases hn : noPs f.ins with
    | false => rw [hn] at h; cases h
    | true =>
      rw [hn, cond_true] at h
      rw [cond_true]
      cases h1 : takeAllL st.rows f.ins args with
      | none => rw [h1] at h; cases h
      | some yu => rw [h1] at h; rw [takeAllL_mono s h1]; exact h
  | may =>
    rw [hk] at h
    simp only at h ⊢
    unfold callY at h ⊢
    split at h
    · rename_i ins ts run kd
      simp only
      cases hn : noPs ins with
      | false => rw [hn] at h; cases h
      | true =>
        rw [hn, cond_true] at h
        rw [cond_true]
        cases h1 : takeAll st.rows ins args with
        | none => rw [h1] at h; cases h
        | some yu => rw [h1] at h; rw [takeAll_mono s h1]; exact h
    · cases h
  | inp =>
    rw [hk] at h
    simp only at h ⊢
    unfold callM at h ⊢
    split at h
    · rename_i run kd id i k
      rcases s id with e | e
      · simp only [e] at h; cases h
      · simp only at h ⊢
        rw [← e]
        exact h
    · rename_i t t' run kd tv k _
      cases hn : t.noP with
      | false => rw [hn] at h; cases h
      | true =>
        rw [hn, cond_true] at h
        simp only [cond_true]
        cases h1 : takeAll st.rows [t, .v (.int .i64)] [tv, .c (.s (.int .i64 k))] with
        | none => rw [h1] at h; cases h
        | some yu =>
          obtain ⟨y, us⟩ := yu
          rw [h1] at h
          rw [takeAll_mono s h1]
          simp only at h ⊢
          cases hr : run y with
          | none => rw [hr] at h; cases h
          | some z =>
            rw [hr] at h
            simp only [Option.bind_some] at h ⊢
            cases hb : backT st.rows t' z.1.2.1 tv with
            | none => rw [hb] at h; cases h
            | some b => rw [hb] at h; rw [backT_mono s hb]; exact h
    · cases h

/-- what is answered where less is known is answered -/
theorem opRes_mono {env : Env} {st st' : St} (ht : st'.tmps = st.tmps) (s : SubD st.rows st'.rows) {fresh : Nat} {op : Op} {r : TV × Us} (h : opRes env fresh op st = some r) : opRes env fresh op st' = some r := by
  have ev : ∀ x, st'.ev x = st.ev x := fun x => by cases x <;> simp [St.ev, ht]
  have d : ∀ {x y : Option F}, (∀ f, x = some f → y = some f) → fetched (fun v us => some (v, us)) x = some r → fetched (fun v us => some (v, us)) y = some r := fun {x y} hxy h => by
    obtain ⟨f, hf, _, _⟩ := fetched_some h
    rw [hf] at h
    rw [hxy f hf]
    exact h
  have D : ∀ op, opRes env fresh op st = fetched (fun v us => some (v, us)) (fetch env.prog fresh st op) → opRes env fresh op st' = fetched (fun v us => some (v, us)) (fetch env.prog fresh st' op) → opRes env fresh op st = some r → opRes env fresh op st' = some r :=
    fun op e e' h => by rw [e] at h; rw [e']; exact d (fun f hf => fetch_mono ht s hf) h
  cases op with
  | pick c a b =>
    simp only [opRes, tevOp, ev] at h ⊢
    exact h
  | call c =>
    simp only [opRes, tevOp, ev, evs_same ht] at h ⊢
    split at h
    · split at h
      · split at h
        · exact callX_mono s h
        · cases h
      · cases h
    · exact d (fun f hf => fetchB_mono s hf) h
    · cases h
  | _ => exact D _ rfl rfl h

end Go.Tev
