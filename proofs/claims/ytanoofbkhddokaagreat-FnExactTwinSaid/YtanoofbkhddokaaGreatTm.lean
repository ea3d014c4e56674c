/- An evaluator of Go functions on plain values: rows of given elements, append. Lemmas; no condition beyond those that each states. -/
import Derived.Test.YtanoofbkhddokaaGreatTl
set_option linter.unusedVariables false
set_option linter.unusedSimpArgs false
namespace Go.Tev

theorem toEl_ok {rows : Rows} {loc : Loc} {w : World} {S : Fp} {L : Nat → Prop} (H : Heap rows loc w S L) {e : E} {cv : CV} {x : e.C} {us : Us} {v : Value} (h : toEl rows e cv = some (x, us)) (hv : CRel loc cv v) :
    ∃ S1 ip, Taken rows (appR rows us) loc w S L S1 ∧ v.cells = ((List.range e.sz).map (elV e x ip)).toArray ∧ InnerAt w true none e [x] ⟨fun _ => ip, none⟩ ∧ (e = .n → ∀ b o, ip.a = some (b, o) → ∀ o', S1 b o') ∧ scrubs us = [] ∧ (∀ id, rows id = none → appR rows us id = none) := by
  by_cases hn : e = .n
  · subst hn
    cases cv with
    | agg l => simp [toEl] at h
    | s sv =>
      have h' : (match takeL rows (.sl true .i) sv with | some (x, us, _) => some (x, us) | none => none) = some (x, us) := h
      split at h'
      · rename_i x' us' ls' ht
        simp only [Option.some.injEq, Prod.mk.injEq] at h'
        obtain ⟨rfl, rfl⟩ := h'
        obtain ⟨rfl, hus⟩ := takeL_own ht
        have hsv : SRel loc sv v := SRel_of_CRel hv (by rintro rfl; simp [takeL, sliceOf] at ht)
        obtain ⟨S1, T, _, k⟩ := takeL_ok H ht hsv
        obtain ⟨a, cap, ips, rfl, hat, hb⟩ := k false _ (.refl _) rfl
        refine ⟨S1, ⟨a, cap, List.length (α := Int) x', ips.q⟩, T, rfl, ⟨fun i hi => ?_, fun _ => ⟨fun i j hi hj hij => ?_, fun i hi b o ep h => by cases h⟩⟩, fun _ b o ep o' => hb b (.inl ⟨o, ep⟩) o', ?_, T.none⟩
        · obtain rfl : i = 0 := by simpa using hi
          exact InAt_of hat
        · simp at hi hj; omega
        · rcases hus with rfl | ⟨_, _, rfl, _⟩ <;> rfl
      · cases h'
  · obtain ⟨rfl, vs, hvs, hlen, hone, hel⟩ := toEl_plain hn h hv
    refine ⟨noFp, ⟨none, 0, 0, none⟩, .refl H, ?_, ?_, fun hh => absurd hh hn, rfl, fun _ h => h⟩
    · rw [hvs]
      congr 1
      apply List.ext_getElem
      · simp [hlen]
      · intro j h1 h2
        rw [hel ⟨none, 0, 0, none⟩ j h1]
        simp
    · cases e <;> first | trivial | exact absurd rfl hn

def consIp (p : IP) (ips : Ips) : Ips := ⟨fun | 0 => p | i + 1 => ips i, ips.q⟩

theorem toEls_ok {loc : Loc} {w : World} {S : Fp} {L : Nat → Prop} {e : E} : ∀ {cvs : List CV} {rows : Rows} {l : List e.C} {us : Us} {vals : List Value} (_ : Heap rows loc w S L) (_ : toEls rows e cvs = some (l, us)) (_ : CRels loc cvs vals),
    ∃ S1 ips, Taken rows (appR rows us) loc w S L S1 ∧ l.length = vals.length ∧ (∀ k, (h : k < l.length) → (h' : k < vals.length) → vals[k].cells = ((List.range e.sz).map (elV e l[k] (ips k))).toArray) ∧ InnerAt w true none e l ips ∧
      (∀ b, (e = .n ∧ ∃ i, i < l.length ∧ ∃ o, (ips i).a = some (b, o)) → ∀ o, S1 b o) ∧ scrubs us = []
  | [], rows, l, us, vals, H, h, hr => by
    simp only [toEls, Option.some.injEq, Prod.mk.injEq] at h
    obtain ⟨rfl, rfl⟩ := h
    cases vals with
    | cons _ _ => exact hr.elim
    | nil =>
      exact ⟨noFp, ⟨fun _ => ⟨none, 0, 0, none⟩, none⟩, .refl H, rfl, (fun k h => by cases h), ip0_inner w none e 0, (fun b hb => by obtain ⟨_, i, hi, _⟩ := hb; cases hi), rfl⟩
  | cv :: cvs, rows, l, us, vals, H, h, hr => by
    simp only [toEls] at h
    split at h
    · rename_i x us1 h1
      split at h
      · rename_i xs us2 h2
        simp only [Option.some.injEq, Prod.mk.injEq] at h
        obtain ⟨rfl, rfl⟩ := h
        cases vals with
        | nil => exact hr.elim
        | cons v vals =>
          obtain ⟨Sa, ip, Ta, ca, ia, ba, sa, _⟩ := toEl_ok H h1 hr.1
          obtain ⟨Sb, ips, Tb, lb, cb, ib, bb, sb⟩ := toEls_ok Ta.heap h2 hr.2
          obtain ⟨T, hd⟩ := Ta.trans Tb
          refine ⟨orFp Sa Sb, consIp ip ips, by rw [appR_append]; exact T, by simp [lb], fun k hk hk' => ?_, ?_, ?_, by rw [scrubs_append, sa, sb]; rfl⟩
          · cases k with
            | zero => exact ca
            | succ k => exact cb k (by simpa using hk) (by simpa using hk')
          · cases e with
            | n =>
              have hbl : ∀ i, i < xs.length → ∀ b o, (ips i).a = some (b, o) → ∀ o', Sb b o' := fun i hi b o ep o' => bb b ⟨rfl, i, hi, o, ep⟩ o'
              refine ⟨fun i hi => ?_, fun _ => ⟨fun i j hi hj hij b o b' o' e1 e2 => ?_, fun i hi b o ep hh => by cases hh⟩⟩
              · cases i with
                | zero => exact ia.1 0 (by simp)
                | succ i => exact ib.1 i (by simpa using hi)
              · cases i with
                | zero =>
                  cases j with
                  | zero => exact absurd rfl hij
                  | succ j => rintro rfl; exact hd b 0 (ba rfl b o e1 0) (hbl j (by simpa using hj) b o' e2 0)
                | succ i =>
                  cases j with
                  | zero => rintro rfl; exact hd b 0 (ba rfl b o' e2 0) (hbl i (by simpa using hi) b o e1 0)
                  | succ j => exact (ib.2 rfl).1 i j (by simpa using hi) (by simpa using hj) (by omega) b o b' o' e1 e2
            | _ => trivial
          · rintro b ⟨he, i, hi, o, ep⟩ o'
            cases i with
            | zero => exact .inl (ba he b o ep o')
            | succ i => exact .inr (bb b ⟨he, i, by simpa using hi, o, ep⟩ o')
      · cases h
    · cases h

def idxFrom : Nat → List Value → List (Nat × Value) | _, [] => [] | k, v :: vs => (k, v) :: idxFrom (k + 1) vs

theorem inOrder_ok {loc : Loc} : ∀ {parts : List (Nat × TV)} {vparts : List (Nat × Value)} {k : Nat} {cvs : List CV}, inOrder k parts = some cvs → PRels loc parts vparts → ∃ vals, CRels loc cvs vals ∧ vparts = idxFrom k vals ∧ cvs.length = vals.length
  | [], [], k, cvs, h, _ => by simp only [inOrder, Option.some.injEq] at h; subst h; exact ⟨[], trivial, rfl, rfl⟩
  | [], _ :: _, _, _, _, hp => hp.elim
  | _ :: _, [], _, _, _, hp => by cases hp
  | (i, .tup l) :: r, (j, v) :: vr, k, cvs, h, hp => by simp [inOrder] at h
  | (i, .c x) :: r, (j, v) :: vr, k, cvs, h, hp => by
    obtain ⟨rfl, hx, hp⟩ := hp
    simp only [inOrder] at h
    cases hb : Nat.beq i k with
    | false => rw [hb] at h; cases h
    | true =>
      obtain rfl := Nat.eq_of_beq_eq_true hb
      rw [hb, cond_true] at h
      split at h
      · rename_i vs hvs
        simp only [Option.some.injEq] at h
        subst h
        obtain ⟨vals, h1, h2, h3⟩ := inOrder_ok hvs hp
        exact ⟨v :: vals, ⟨hx, h1⟩, by rw [h2]; rfl, by simp [h3]⟩
      · cases h

theorem fill_idx {e : E} : ∀ {vals : List Value} {l : List e.C} {ips : Ips} {k : Nat} {cells : Array Value}, l.length = vals.length →
    (∀ i, (h : i < l.length) → (h' : i < vals.length) → vals[i].cells = ((List.range e.sz).map (elV e l[i] (ips i))).toArray) → (k + vals.length) * e.sz ≤ cells.size →
    Instr.fill (fun i => some (i * e.sz, e.sz)) cells (idxFrom k vals) = some (cells.toList.take (k * e.sz) ++ flatE e l ips ++ cells.toList.drop ((k + vals.length) * e.sz)).toArray
  | [], [], ips, k, cells, _, _, _ => by simp [idxFrom, Instr.fill, flatE]
  | [], _ :: _, _, _, _, h, _, _ => by simp at h
  | _ :: _, [], _, _, _, h, _, _ => by simp at h
  | v :: vals, x :: l, ips, k, cells, hl, hc, hs => by
    have h0 := hc 0 (by simp) (by simp)
    simp only [List.getElem_cons_zero] at h0
    have hs' : (k + 1 + vals.length) * e.sz ≤ cells.size := by
      have : k + (v :: vals).length = k + 1 + vals.length := by simp; omega
      rw [this] at hs; exact hs
    have hk1 : (k + 1) * e.sz ≤ cells.size := Nat.le_trans (Nat.mul_le_mul_right _ (by omega)) hs'
    have hk2 : k * e.sz + e.sz ≤ cells.size := by rw [Nat.add_mul, Nat.one_mul] at hk1; exact hk1
    simp only [idxFrom]
    rw [fill_cons (vs := (List.range e.sz).map (elV e x (ips 0))) rfl h0 (by simp) hk2]
    rw [fill_idx (l := l) (ips := ⟨fun i => ips (i + 1), ips.q⟩) (k := k + 1) (by simpa using hl) (fun i h h' => hc (i + 1) (by simpa using h) (by simpa using h')) (by
      simp only [List.size_toArray, List.length_append, List.length_take, List.length_drop, List.length_map, List.length_range, Array.length_toList]
      omega)]
    congr 1
    have e1 : (cells.toList.take (k * e.sz)).length = k * e.sz := by simp; omega
    have e2 : (k + 1) * e.sz = k * e.sz + e.sz := by rw [Nat.add_mul, Nat.one_mul]
    have e3 : (k + 1 + vals.length) * e.sz = k * e.sz + e.sz + vals.length * e.sz := by rw [Nat.add_mul, Nat.add_mul, Nat.one_mul]
    have e4 : (k + (v :: vals).length) * e.sz = k * e.sz + e.sz + vals.length * e.sz := by simp only [List.length_cons, Nat.add_mul, Nat.one_mul]; omega
    rw [e2, e3, e4]
    simp only [flatE]
    have eM : ((List.range e.sz).map (elV e x (ips 0))).length = e.sz := by simp
    generalize (List.range e.sz).map (elV e x (ips 0)) = M at eM ⊢
    generalize hA : cells.toList.take (k * e.sz) = A at e1 ⊢
    have eAM : (A ++ M).length = k * e.sz + e.sz := by rw [List.length_append, e1, eM]
    rw [eM, List.take_left' eAM, ← List.drop_drop, List.drop_left' eAM, List.drop_drop]
    simp only [List.append_assoc]

theorem Owned.mono {rows : Rows} {loc : Loc} {w : World} {S S1 : Fp} {L : Nat → Prop} {rows' : Rows} (T : Taken rows rows' loc w S L S1) (H : Heap rows loc w S L) : Sub2 S1 S := fun b o h => by
  obtain ⟨i, x, ex, hx⟩ := T.from_ b o h
  exact H.inS i x ex b o hx

theorem buildSlice_ok {P : Program} {rows : Rows} {loc : Loc} {w : World} {S : Fp} {L : Nat → Prop} (H : Heap rows loc w S L) {fresh : Nat} (hid : rows fresh = none) {t : TypeId} {n : Nat} {e : E} (he : elemE P t = some e)
    {parts : List (Nat × TV)} {vparts : Array (Nat × Value)} {cvs : List CV} {l : List e.C} {us : Us} (ho : inOrder 0 parts = some cvs) (hp : PRels loc parts vparts.toList) (hn : cvs.length = n) (hle : n ≤ 1000) (h : toEls rows e cvs = some (l, us)) :
    ∃ val w', (Instr.buildSlice t n vparts).run P w = .ok val w' ∧ Done rows loc w S L (us ++ [(fresh, .row true e l)]) (.c (.s (.slf fresh))) val w' := by
  obtain ⟨et, i, hu, hi, hsz, hby, hz, _⟩ := elemE_some he
  obtain ⟨z, hz1, hz2⟩ := zero_cells hz
  obtain ⟨vals, hr, hv, hlen⟩ := inOrder_ok ho hp
  obtain ⟨S1, ips, T, hl, hcells, hin, hb, hsc⟩ := toEls_ok H h hr
  have hsize : (sizeOf et).run P w = .ok e.sz w := by rw [run_sizeOf hi]; simp [Program.cellsOf, hi, hsz]
  have hln : vals.length = n := by omega
  have hp3 : e.sz ≤ 3 := by cases e <;> decide
  have hcap : ¬ n * e.sz > 2 ^ 24 := by
    have := Nat.mul_le_mul hle hp3
    omega
  have hfill : ∀ cells : Array Value, cells.size = n * e.sz → Instr.fill (fun i => some (i * e.sz, e.sz)) cells vparts.toList = some (flatE e l ips).toArray := by
    intro cells hs
    rw [hv, fill_idx hl hcells (by rw [hs, hln]; simp)]
    congr 2
    have : (0 + vals.length) * e.sz = cells.toList.length := by simp [hs, hln]
    rw [this]
    simp
  have hrun : (Instr.buildSlice t n vparts).run P w = .ok (slV (some (w.heap.size, 0)) ips.q n n) (w.alloc (.cells (flatE e l ips).toArray et)) := by
    unfold Instr.buildSlice
    simp only [Sem.run_bind, run_underlying hu, Result.andThen_ok, hsize]
    rw [if_neg hcap]
    by_cases h0 : n * e.sz = 0
    · simp only [h0, if_true, Sem.run_bind, Sem.run_pure, Result.andThen_ok]
      rw [hfill _ (by simp [h0])]
      simp [newRow, slV, pt, adr]
    · simp only [h0, if_false, Sem.run_bind, zeroValue, typeInfo, hi, run_program, hz1, Sem.run_pure, Result.andThen_ok]
      rw [hfill _ (by simp)]
      simp [newRow, slV, pt, adr]
  have hln2 : l.length = n := by omega
  obtain ⟨loc', h3, h4, h5, h6⟩ := freshRow (S1 := S1) (l := l) (ips := ips) (c := (flatE e l ips).toArray) (ty := et) (cap := n) T.heap (T.none _ hid) (Frame.refl _ w) rfl (fun j u hj => by simpa using hj) (by omega) (by simp [flat_len, hln2]) hin hb
    (fun b o h => (T.apart b o h).2) (Owned.mono T H)
  refine ⟨_, _, hrun, Done.ext (loc' := loc') (S' := orFp S fun b _ => b = w.heap.size) (by rw [appR_append]; exact h3) (by rw [scrubs_append, hsc]; rfl) ?_ h4 (fun b o h => h.imp_right fun h => by omega) h6⟩
  rw [hln2] at h5
  exact CRel_of_SRel h5

/-! ### append -/

theorem firstCells_run (P : Program) {w : World} {e : E} {a : Option (Nat × Nat)} {cap : Nat} {l : List e.C} {ips : Ips} {ow : Bool} (h : RowAt w ow e a cap l ips) :
    (∀ b o, a = some (b, o) → FlatAt w b o (flatE e l ips)) ∧ (a = none → l = []) :=
  ⟨fun b o ea => row_flat (h.2.2.1 b o ea).1, fun ha => by have := h.2.1 ha; have := h.1; exact List.eq_nil_of_length_eq_zero (by omega)⟩

theorem flatAt_add {w : World} {b o : Nat} {vs : List Value} (h : FlatAt w b o vs) : ∀ j v, vs[j]? = some v → w.cell? ((adr (b, o)).add j) = some v := fun j v hj => by rw [adr_add]; exact h j v hj

/-- append, in memory -/
theorem run_append {P : Program} {w : World} {t ty et : TypeId} {i : TypeInfo} {z : Value} {e : E} (hu : P.underlying t = some (.slice et)) (hi : P.info? et = some i) (hz : i.zero = some z) (hsz : i.size = e.sz) (hby : i.bytes = e.bytes)
    {a a2 : Option (Nat × Nat)} {cap cap2 : Nat} {l l2 : List e.C} {ips ips2 : Ips} {ow ow2 : Bool} (h1 : RowAt w ow e a cap l ips) (h2 : RowAt w ow2 e a2 cap2 l2 ips2) (hmost : l.length + l2.length ≤ e.most) :
    (l.length + l2.length ≤ cap ∧ ∀ w', (∀ b o, a = some (b, o) → (storeCells (adr (b, o + l.length * e.sz)) (flatE e l2 ips2)).run P w = .ok () w') → (a = none → w' = w) →
      (Builtin.append_ #[t, t] ty #[slV a ips.q l.length cap, slV a2 ips2.q l2.length cap2]).run P w = .ok (slV a ips.q (l.length + l2.length) cap) w') ∨
    (∃ cap', l.length + l2.length ≤ cap' ∧ (Builtin.append_ #[t, t] ty #[slV a ips.q l.length cap, slV a2 ips2.q l2.length cap2]).run P w =
      .ok (slV (some (w.heap.size, 0)) ips.q (l.length + l2.length) cap') (w.drew.alloc (.cells ((flatE e l ips).toArray ++ (flatE e l2 ips2).toArray ++ Builtin.zeroCells z.cells (cap' - (l.length + l2.length))) et))) := by
  obtain ⟨f1, n1⟩ := firstCells_run P h1
  obtain ⟨f2, n2⟩ := firstCells_run P h2
  by_cases hroom : l.length + l2.length ≤ cap
  · left
    refine ⟨hroom, fun w' hst hno => ?_⟩
    have hf2 : (Builtin.firstCells e.sz l2.length (slV a2 ips2.q l2.length cap2)).run P w = .ok (flatE e l2 ips2).toArray w := by
      cases a2 with
      | none =>
        rw [n2 rfl]
        simp only [slV, pt]
        cases ips2.q with
        | none => simp [Builtin.firstCells, flatE]
        | some x => simp [Builtin.firstCells, flatE, loadCells, loadCellsFrom]
      | some p => exact run_firstCells_some (P := P) w e.sz l2.length (adr p) _ _ _ (flat_len e l2 ips2) (flatAt_add (f2 p.1 p.2 rfl))
    cases a with
    | none =>
      obtain rfl := hno rfl
      have : l = [] := n1 rfl
      subst this
      have hc0 := h1.2.1 rfl
      have : l2 = [] := List.eq_nil_of_length_eq_zero (by simp at hroom; omega)
      subst this
      simp only [slV, List.length_nil, flatE, pt] at hf2 ⊢
      cases ips.q with
      | none => simp [Builtin.append_, run_underlying hu, sizeOf, typeInfo, hi, hsz, Builtin.lenOf, hf2]
      | some x => simp [Builtin.append_, run_underlying hu, sizeOf, typeInfo, hi, hsz, Builtin.lenOf, hf2, storeCells]
    | some p =>
      have hs := hst p.1 p.2 rfl
      simp only [slV, pt] at hf2 ⊢
      have hadd : (adr p).add (l.length * e.sz) = adr (p.1, p.2 + l.length * e.sz) := adr_add p.1 p.2 _
      simp [Builtin.append_, run_underlying hu, sizeOf, typeInfo, hi, hsz, Builtin.lenOf, hroom, hf2, hadd, hs]
  · right
    have hm : 0 < l2.length := by have := h1.1; omega
    cases a2 with
    | none => rw [n2 rfl] at hm; simp at hm
    | some p2 =>
      have hb47 : (l.length + l2.length) * i.bytes ≤ 140737488355328 := by
        rw [hby]
        cases e <;> simp only [E.bytes, E.most] at hmost ⊢ <;> omega
      have h63 : ((l.length + l2.length : Nat) : Int) ≤ 9223372036854775807 := by cases e <;> simp only [E.most] at hmost <;> omega
      cases a with
      | none =>
        have hl0 : l = [] := n1 rfl
        subst hl0
        obtain ⟨hc0, _⟩ := h1.2.1 rfl
        subst hc0
        simp only [List.length_nil, Nat.zero_add] at hb47 h63 ⊢
        cases hq : ips.q with
        | some x =>
          have := run_append_grow (P := P) w t ty et i z hu hi hz x 0 0 [] (by simp) (fun j v h => by simp at h) (adr p2) l2.length cap2 (flatE e l2 ips2) (by rw [flat_len, hsz]) (flatAt_add (f2 p2.1 p2.2 rfl))
            (by omega) (by omega) (growslice_fits (by omega) (by simpa using hb47))
          refine ⟨_, grownCap_ge w _ 0 et, ?_⟩
          simp only [slV, pt, adr, flatE, Nat.zero_add, List.nil_append] at this ⊢
          exact this
        | none =>
        have := run_append_nil (P := P) w t ty et i z hu hi hz (adr p2) l2.length cap2 (flatE e l2 ips2) (by rw [flat_len, hsz]) (flatAt_add (f2 p2.1 p2.2 rfl)) hm h63 (by omega)
        exact ⟨_, grownCap_ge w l2.length 0 et, by simpa [slV, pt, adr, flatE] using this⟩
      | some p =>
        have := run_append_grow (P := P) w t ty et i z hu hi hz (adr p) l.length cap (flatE e l ips) (by rw [flat_len, hsz]) (flatAt_add (f1 p.1 p.2 rfl)) (adr p2) l2.length cap2 (flatE e l2 ips2) (by rw [flat_len, hsz]) (flatAt_add (f2 p2.1 p2.2 rfl))
          (by omega) h63 (growslice_fits (by omega) hb47)
        exact ⟨_, grownCap_ge w _ cap et, by simpa [slV, pt, adr] using this⟩

end Go.Tev
