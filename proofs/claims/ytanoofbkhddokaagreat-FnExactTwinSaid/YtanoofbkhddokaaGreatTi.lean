/- An evaluator of Go functions on plain values: loads and stores. Lemmas; no condition beyond those that each states. -/
import Derived.Test.YtanoofbkhddokaaGreatTh
set_option linter.unusedVariables false
set_option linter.unusedSimpArgs false
namespace Go.Tev

theorem elS_ok {loc : Loc} {e : E} {a : Option (Nat × Nat)} {cap len : Nat} {ips : Ips} {id off : Nat} {i : Int} (el : loc id = some (.row a cap len e ips)) (h0 : 0 ≤ i) (hi : i.toNat < len) (x : e.C) (ho : off < e.sz) :
    CRel loc (elS e x off id i) (elV e x (ips i.toNat) off) := by
  cases e with
  | t =>
    match off, ho with
    | 0, _ => rfl
    | 1, _ => rfl
    | 2, _ => rfl
    | n + 3, h => exact absurd h (by simp [E.sz])
  | n => exact ⟨a, cap, len, ips, el, h0, hi, rfl⟩
  | _ => rfl

theorem rdE_eq {e : E} {l : List e.C} {i : Int} (h : i.toNat < l.length) : rdE e l i = l[i.toNat] := by simp [rdE, h]

theorem loadAt_run (P : Program) (t : TypeId) (a : Addr) (w : World) : (Instr.loadAt t (.pointer (some a))).run P w = (loadVar t a).run P w := by
  simp [Instr.loadAt, Instr.sureAddr]

theorem boxC_ok {rows : Rows} {loc : Loc} {w : World} {S : Fp} {L : Nat → Prop} (H : Heap rows loc w S L) {id : Nat} {cs : List SV} (h : boxC rows id = some cs) :
    ∃ b o, loc id = some (.box b o cs.length) ∧ ∀ j, (h : j < cs.length) → CellOk w loc b (o + j) cs[j] := by
  unfold boxC at h
  split at h
  · rename_i e; simp only [Option.some.injEq] at h; subst h; obtain ⟨b, o, el, _, k⟩ := H.ok id _ e; exact ⟨b, o, el, k⟩
  · rename_i e; simp only [Option.some.injEq] at h; subst h; exact H.ok id _ e
  · cases h

theorem loadF_ok {P : Program} {rows : Rows} {loc : Loc} {w : World} {S : Fp} {L : Nat → Prop} (H : Heap rows loc w S L) {t : TypeId} {tv : TV} {v : Value} {f : F} (hv : TRel loc tv v) (h : loadF P rows t tv = some f) :
    ∃ val, (Instr.loadAt t v).run P w = .ok val w ∧ f.checks = [] ∧ f.us = [] ∧ TRel loc f.v val := by
  unfold loadF at h
  split at h
  · rename_i id off
    obtain ⟨b, o, n, el, rfl⟩ := hv
    split at h
    · rename_i cs hr
      obtain ⟨b', o', el', hcells⟩ := boxC_ok H hr
      rw [el] at el'
      simp only [Option.some.injEq, Pl.box.injEq] at el'
      obtain ⟨rfl, rfl, rfl⟩ := el'
      split at h
      · rename_i hk
        cases hb : (Nat.ble (off + P.cellsOf t) cs.length && okL ((cs.drop off).take (P.cellsOf t))) with
        | false => rw [hb] at h; cases h
        | true =>
          rw [hb, cond_true, Option.some.injEq] at h
          subst h
          simp only [Bool.and_eq_true] at hb
          have hle := Nat.le_of_ble_eq_true hb.1
          have hall := okL_all hb.2
          obtain ⟨vs, g1, g2, g3, _⟩ := cells_rels (w := w) (loc := loc) (b := b) (cells := (cs.drop off).take (P.cellsOf t)) (o := o + off) (fun j hj => by
            simp only [List.getElem_take, List.getElem_drop, Nat.add_assoc]
            exact hcells (off + j) (by simp at hj; omega)) (fun x hx => by
            obtain ⟨j, hj, rfl⟩ := List.getElem_of_mem hx
            exact okS_notLent (hall.get j hj))
          refine ⟨.agg vs.toArray, ?_, rfl, rfl, vs, rfl, g3⟩
          rw [loadAt_run]
          exact run_loadVar_agg hk (by rw [g1]; simp; omega) g2
      · rename_i hk
        split at h
        · rename_i x hx
          cases ho : okS x with
          | false => rw [ho] at h; cases h
          | true =>
            rw [ho, cond_true, pureS, Option.some.injEq] at h
            subst h
            obtain ⟨hj, rfl⟩ := List.getElem?_eq_some_iff.1 hx
            have hc := hcells off hj
            have hc' : ∃ v, w.cell? (adr (b, o + off)) = some v ∧ SRel loc cs[off] v ∧ v.oneCell' = true := by
              generalize cs[off] = y at hc ho
              cases y <;> first | exact hc.2 | (simp [okS] at ho)
            obtain ⟨u, e, r, _⟩ := hc'
            exact ⟨u, by rw [loadAt_run]; exact run_loadVar_one hk e, rfl, rfl, CRel_of_SRel r⟩
        · cases h
      · cases h
    · cases h
  · rename_i id i off
    obtain ⟨b, o, cap, len, e, ips, el, h0, hi, rfl⟩ := hv
    split at h
    · rename_i ow e' l hr
      obtain ⟨a', cap', ips', el', hat⟩ := H.ok id _ hr
      rw [el] at el'
      simp only [Option.some.injEq, Pl.row.injEq] at el'
      obtain ⟨rfl, rfl, rfl, rfl, rfl⟩ := el'
      have hcell := (hat.2.2.1 b o rfl).1 i.toNat hi
      split at h
      · rename_i hk
        split at h
        · rename_i l'
          cases hb : (Nat.beq off 0 && Nat.beq (P.cellsOf t) 3) with
          | false => rw [hb] at h; cases h
          | true =>
            rw [hb, cond_true, Option.some.injEq] at h
            subst h
            simp only [Bool.and_eq_true] at hb
            obtain rfl := Nat.eq_of_beq_eq_true hb.1
            have h3 := Nat.eq_of_beq_eq_true hb.2
            rw [rdE_eq hi]
            refine ⟨.agg [.int .i64 (l'[i.toNat]).1, .int .i64 (l'[i.toNat]).2.1, .int .i64 (l'[i.toNat]).2.2].toArray, ?_, rfl, rfl,
              [.int .i64 (l'[i.toNat]).1, .int .i64 (l'[i.toNat]).2.1, .int .i64 (l'[i.toNat]).2.2], rfl, rfl, rfl, rfl, trivial⟩
            rw [loadAt_run]
            refine run_loadVar_agg hk (by rw [h3]; rfl) fun j hj => ?_
            have := hcell j hj
            rw [Nat.add_zero]
            rw [this]
            match j, hj with
            | 0, _ => rfl
            | 1, _ => rfl
            | 2, _ => rfl
            | n + 3, h => exact absurd h (by simp)
        · cases h
      · rename_i hk
        cases hb : Nat.blt off e.sz with
        | false => rw [hb] at h; cases h
        | true =>
          rw [hb, cond_true, Option.some.injEq] at h
          subst h
          have hoff : off < e.sz := Nat.le_of_ble_eq_true hb
          rw [rdE_eq hi]
          refine ⟨elV e l[i.toNat] (ips i.toNat) off, ?_, rfl, rfl, elS_ok el h0 hi _ hoff⟩
          rw [loadAt_run]
          exact run_loadVar_one hk (hcell off hoff)
      · cases h
    · cases h
  · rename_i id i j
    obtain ⟨a, cap, len, ips, b, o, el, h0, hi, hb, hj0, hj, rfl⟩ := hv
    split at h
    · rename_i ow l hr
      obtain ⟨a', cap', ips', el', hat⟩ := H.ok id _ hr
      rw [el] at el'
      simp only [Option.some.injEq, Pl.row.injEq, true_and] at el'
      obtain ⟨rfl, rfl, rfl, rfl⟩ := el'
      split at h
      · rename_i hk
        rw [pureS, Option.some.injEq] at h
        subst h
        obtain ⟨g1, g2, g3, g4⟩ := hat.2.2.2.1 i.toNat hi
        have hj' : j.toNat < l[i.toNat].length := by omega
        have := (g4 b o hb).1 j.toNat hj'
        refine ⟨.int .i64 l[i.toNat][j.toNat], by rw [loadAt_run]; exact run_loadVar_one hk this, rfl, rfl, ?_⟩
        show Value.int .i64 _ = .int .i64 _
        congr 1
        rw [rdE_eq hi]
        simp [rdI, hj']
      · cases h
    · cases h
  · cases h

/-! ### an element is written -/

theorem setIps_self (ips : Ips) (i : Nat) (p : IP) : (fun k => if k = i then p else ips k) i = p := by simp
theorem getElem_set' {α : Type} (l : List α) (i : Nat) (x : α) (k : Nat) (h : k < (l.set i x).length) : (l.set i x)[k] = if k = i then x else l[k]'(by simpa using h) := by
  rw [List.getElem_set]
  split
  · rename_i h; rw [if_pos h.symm]
  · rename_i h; rw [if_neg (fun e => h e.symm)]

/-- the cells of an element are written; what holds of the inner rows is told apart -/
theorem writeEl {P : Program} {rows : Rows} {loc : Loc} {w : World} {S : Fp} {L : Nat → Prop} (H : Heap rows loc w S L) {id b o cap : Nat} {e : E} {l : List e.C} {ips : Ips} (er : rows id = some (.row true e l))
    (el : loc id = some (.row (some (b, o)) cap l.length e ips)) {i off : Nat} (hi : i < l.length) {x : e.C} {ip : IP} {vs : List Value} (hone : oneCells vs) (hoff : off + vs.length ≤ e.sz)
    (hnew : ∀ j, (h : j < vs.length) → vs[j] = elV e x ip (off + j)) (hold : ∀ j, j < e.sz → (j < off ∨ off + vs.length ≤ j) → elV e l[i] (ips i) j = elV e x ip j) :
    ∃ w', (storeCells (adr (b, o + i * e.sz + off)) vs).run P w = .ok () w' ∧ Frame (fun b' o' => b' = b) w w' ∧
      (∀ k, (hk : k < (l.set i x).length) → ∀ j, j < e.sz → w'.cell? (adr (b, o + k * e.sz + j)) = some (elV e (l.set i x)[k] (if k = i then ip else ips k) j)) ∧ OwnB w' b (o + cap * e.sz) ∧
      (∀ b1 o1, b1 = b → own loc id (.row true e l) b1 o1) ∧ l.length ≤ cap ∧ InnerAt w true (some b) e l ips := by
  obtain ⟨a', cap', ips', el', hat⟩ := H.ok id _ er
  rw [el] at el'
  simp only [Option.some.injEq, Pl.row.injEq, true_and] at el'
  obtain ⟨rfl, rfl, rfl⟩ := el'
  obtain ⟨hc, hob⟩ := hat.2.2.1 b o rfl
  have hob := hob rfl
  have hle := hat.1
  have hmul : (i + 1) * e.sz ≤ cap * e.sz := Nat.mul_le_mul_right _ (by omega)
  rw [Nat.add_mul, Nat.one_mul] at hmul
  obtain ⟨w', h1, h2, h3⟩ := run_storeCells P b (o + i * e.sz + off) (o + cap * e.sz) vs 0 w hob (by omega) hone
  simp only [Nat.add_zero] at h2 h3
  refine ⟨w', h1, h3.mono fun _ _ h => h.1, fun k hk j hj => ?_, h3.ownB hob, fun b1 o1 h => ⟨_, cap, _, e, ips, el, .inl ⟨o, by rw [h]⟩⟩, hle, hat.2.2.2⟩
  have hk' : k < l.length := by simpa using hk
  rw [getElem_set']
  by_cases hki : k = i
  · subst hki
    rw [if_pos rfl, if_pos rfl]
    by_cases hin : off ≤ j ∧ j < off + vs.length
    · have := h2 (j - off) (by omega)
      rw [show o + k * e.sz + off + (j - off) = o + k * e.sz + j by omega] at this
      rw [this, hnew (j - off) (by omega), show off + (j - off) = j by omega]
    · rw [h3.cell hob.lt (by omega), hc k hk' j hj, hold j hj (by omega)]
  · rw [if_neg hki, if_neg hki, h3.cell hob.lt ?_, hc k hk' j hj]
    rintro ⟨_, ha, hb⟩
    rcases Nat.lt_or_gt_of_ne hki with h | h
    · have := Nat.mul_le_mul_right e.sz (show k + 1 ≤ i by omega)
      rw [Nat.add_mul] at this
      omega
    · have := Nat.mul_le_mul_right e.sz (show i + 1 ≤ k by omega)
      rw [Nat.add_mul] at this
      omega

/-- an element that is no slice is written -/
theorem writePlain {P : Program} {rows : Rows} {loc : Loc} {w : World} {S : Fp} {L : Nat → Prop} (H : Heap rows loc w S L) {id b o cap : Nat} {e : E} {l : List e.C} {ips : Ips} (er : rows id = some (.row true e l))
    (el : loc id = some (.row (some (b, o)) cap l.length e ips)) {i off : Nat} (hi : i < l.length) {x : e.C} {vs : List Value} (hone : oneCells vs) (hoff : off + vs.length ≤ e.sz) (hn : e ≠ .n)
    (hnew : ∀ j, (h : j < vs.length) → vs[j] = elV e x (ips i) (off + j)) (hold : ∀ j, j < e.sz → (j < off ∨ off + vs.length ≤ j) → elV e l[i] (ips i) j = elV e x (ips i) j) :
    ∃ w', (storeCells (adr (b, o + i * e.sz + off)) vs).run P w = .ok () w' ∧ Heap (updR rows id (.row true e (l.set i x))) loc w' S L ∧ Frame S w w' := by
  obtain ⟨w', h1, h2, h3, h4, h5, h6, _⟩ := writeEl (P := P) H er el hi (ip := ips i) hone hoff hnew hold
  have hown : ∀ b1 o1, own loc id (.row true e (l.set i x)) b1 o1 → own loc id (.row true e l) b1 o1 := fun _ _ h => h
  refine ⟨w', h1, H.write er h2 h5 ⟨some (b, o), cap, ips, by simpa using el, by simpa using h6, (fun h => by cases h), fun b1 o1 e1 => ?_, ?_⟩ hown (fun _ h => h.elim), h2.mono fun b1 o1 h => H.inS id _ er b1 o1 (h5 b1 o1 h)⟩
  · simp only [Option.some.injEq, Prod.mk.injEq] at e1
    obtain ⟨rfl, rfl⟩ := e1
    refine ⟨fun k hk j hj => ?_, fun _ => h4⟩
    rw [h3 k hk j hj]
    by_cases hki : k = i
    · subst hki; rw [if_pos rfl]
    · rw [if_neg hki]
  · cases e <;> first | trivial | exact absurd rfl hn

theorem storeAt_run (P : Program) (t : TypeId) (a : Addr) (v : Value) (w : World) : (Instr.storeAt t (.pointer (some a)) v).run P w = (storeVar t a v).run P w := by
  simp [Instr.storeAt, Instr.sureAddr]

theorem cellsOf_info {P : Program} {t : TypeId} (h : P.cellsOf t ≠ 0) : ∃ i, P.info? t = some i := by
  unfold Program.cellsOf at h
  cases hi : P.info? t with
  | none => rw [hi] at h; simp at h
  | some i => exact ⟨i, rfl⟩

/-- an inner row's place, out of a slice that is handed over -/
theorem InAt_of {w : World} {a : Option (Nat × Nat)} {cap : Nat} {l : List Int} {ips : Ips} (h : RowAt w true .i a cap l ips) : InAt w true l ⟨a, cap, l.length, ips.q⟩ := by
  obtain ⟨h1, h2, h3, _⟩ := h
  refine ⟨rfl, h1, h2, fun b o ea => ⟨fun j hj => ?_, fun _ => ?_⟩⟩
  · have := (h3 b o ea).1 j hj 0 (by decide)
    simpa [E.sz, elV] using this
  · simpa [E.sz] using (h3 b o ea).2 rfl

theorem appR_scrub (rows : Rows) (us : Us) (id : Nat) (x : Row) : appR rows (us ++ [(id, .scrub), (id, x)]) = updR (appR rows us) id x := by
  rw [appR_append]
  simp only [appR]
  rw [updR_updR]

theorem scrubs_append (a b : Us) : scrubs (a ++ b) = scrubs a ++ scrubs b := by
  induction a with
  | nil => rfl
  | cons p r ih =>
    obtain ⟨i, x⟩ := p
    cases x <;> simp [scrubs, ih]

theorem memN_true {x : Nat} : ∀ {l : List Nat}, memN x l = true → x ∈ l
  | [], h => by cases h
  | y :: r, h => by
    simp only [memN] at h
    cases hb : Nat.beq x y with
    | true => rw [Nat.eq_of_beq_eq_true hb]; exact List.mem_cons_self
    | false => rw [hb] at h; exact List.mem_cons_of_mem _ (memN_true h)
theorem memN_of {x : Nat} : ∀ {l : List Nat}, x ∈ l → memN x l = true
  | y :: r, h => by
    simp only [memN]
    cases hb : Nat.beq x y with
    | true => rfl
    | false =>
      cases h with
      | head => simp at hb
      | tail _ h => exact memN_of h

/-- a row of rows whose inner places turn: what is not scrubbed reads as it did -/
theorem SRel.inner {loc loc' : Loc} {id : Nat} {a : Option (Nat × Nat)} {cap len : Nat} {ips ips' : Ips} (el : loc id = some (.row a cap len .n ips)) (el' : loc' id = some (.row a cap len .n ips')) (hq : ips'.q = ips.q)
    (ho : ∀ j, j ≠ id → loc' j = loc j) {ks : List Nat} (hk : id ∈ ks) {x : SV} {v : Value} (h : SRel loc x v) : SRel loc' (scrubS ks x) v := by
  have key : ∀ j p, loc j = some p → j = id ∨ loc' j = some p := fun j p e => by
    by_cases hj : j = id
    · exact .inl hj
    · exact .inr (by rw [ho j hj]; exact e)
  cases x <;> simp only [scrubS, SRel] at h ⊢ <;> first
    | exact h
    | (obtain ⟨b, o, n, e, hv⟩ := h
       rcases key _ _ e with rfl | e'
       · rw [el] at e; cases e
       · exact ⟨b, o, n, e', hv⟩)
    | (obtain ⟨b, o, cap1, len1, e1, ips1, e, r⟩ := h
       rcases key _ _ e with rfl | e'
       · rw [el] at e
         simp only [Option.some.injEq, Pl.row.injEq] at e
         obtain ⟨rfl, rfl, rfl, rfl, rfl⟩ := e
         exact ⟨b, o, _, _, _, _, el', r⟩
       · exact ⟨b, o, cap1, len1, e1, ips1, e', r⟩)
    | (obtain ⟨a1, cap1, len1, e1, ips1, e, r⟩ := h
       rcases key _ _ e with rfl | e'
       · rw [el] at e
         simp only [Option.some.injEq, Pl.row.injEq] at e
         obtain ⟨rfl, rfl, rfl, rfl, rfl⟩ := e
         exact ⟨_, _, _, _, _, el', by rw [hq]; exact r⟩
       · exact ⟨a1, cap1, len1, e1, ips1, e', r⟩)
    | (cases hm : memN _ ks with
       | true =>
         rw [cond_true]
         first
           | (obtain ⟨_, _, _, _, _, _, _, _, _, _, _, _, rfl⟩ := h; rfl)
           | (obtain ⟨_, _, _, _, _, _, _, rfl⟩ := h; rfl)
           | (obtain ⟨_, _, _, _, _, _, _, _, _, rfl⟩ := h; rfl)
       | false =>
         rw [cond_false]
         first
           | (obtain ⟨a1, cap1, len1, ips1, b, o, e, r⟩ := h
              rcases key _ _ e with rfl | e'
              · rw [memN_of hk] at hm; cases hm
              · exact ⟨a1, cap1, len1, ips1, b, o, e', r⟩)
           | (obtain ⟨a1, cap1, len1, ips1, e, r⟩ := h
              rcases key _ _ e with rfl | e'
              · rw [memN_of hk] at hm; cases hm
              · exact ⟨a1, cap1, len1, ips1, e', r⟩))

theorem scrubS_ok {ks : List Nat} {x : SV} (h : okS x = true) : scrubS ks x = x := by cases x <;> first | rfl | (simp [okS] at h)

/-- an inner row's place is written -/
theorem writeInner {P : Program} {rows : Rows} {loc : Loc} {w : World} {S S1 : Fp} {L : Nat → Prop} (H : Heap rows loc w S L) {id b o cap : Nat} {l : List (List Int)} {ips : Ips} (er : rows id = some (.row true .n l))
    (el : loc id = some (.row (some (b, o)) cap l.length .n ips)) {i : Nat} (hi : i < l.length) {x : List Int} {ip : IP} (hx : InAt w true x ip)
    (hb : ∀ b1 o1, ip.a = some (b1, o1) → (∃ o2, (ips i).a = some (b1, o2)) ∨ ∀ o', S1 b1 o') (hd : Dis (Owned rows loc) S1) (hS : Sub2 S1 S) :
    ∃ w', (storeCells (adr (b, o + i)) [slV ip.a ip.q ip.len ip.cap]).run P w = .ok () w' ∧ Frame S w w' ∧
      ∃ loc', Heap (updR rows id (.row true .n (l.set i x))) loc' w' S L ∧ (∀ ks, id ∈ ks → ∀ x u, SRel loc x u → SRel loc' (scrubS ks x) u) := by
  obtain ⟨w', h1, h2, h3, h4, h5, h6, h7⟩ := writeEl (P := P) H er el hi (x := x) (ip := ip) (off := 0) (vs := [slV ip.a ip.q ip.len ip.cap]) ⟨rfl, trivial⟩ (by simp [E.sz]) (fun j hj => by
    obtain rfl : j = 0 := by simpa using hj
    rfl) (fun j hj hjo => by simp [E.sz] at hj; simp at hjo; omega)
  simp only [E.sz, Nat.mul_one, Nat.add_zero] at h1 h3 h4
  let ips' : Ips := ⟨fun k => if k = i then ip else ips k, ips.q⟩
  have eset : (l.set i x).length = l.length := by simp
  have el' : updL loc id (.row (some (b, o)) cap l.length .n ips') id = some (.row (some (b, o)) cap l.length .n ips') := updL_self _ _ _
  have hmono : ∀ ks, id ∈ ks → ∀ x u, SRel loc x u → SRel (updL loc id (.row (some (b, o)) cap l.length .n ips')) (scrubS ks x) u := fun ks hk x u h =>
    SRel.inner el el' rfl (fun j hj => updL_other _ _ hj) hk h
  have hne : ∀ b1 o1, ip.a = some (b1, o1) → b1 ≠ b := by
    intro b1 o1 e1 e2
    subst e2
    rcases hb b1 o1 e1 with ⟨o2, e2⟩ | hs
    · exact (h7.2 rfl).2 i hi b1 o2 e2 rfl
    · exact hd b1 0 ⟨id, _, er, h5 b1 0 rfl⟩ (hs 0)
  have hown : ∀ b1 o1, own (updL loc id (.row (some (b, o)) cap l.length .n ips')) id (.row true .n (l.set i x)) b1 o1 → own loc id (.row true .n l) b1 o1 ∨ S1 b1 o1 := by
    rintro b1 o1 ⟨a0, c0, n0, e0, p0, e1, hp⟩
    rw [el'] at e1
    simp only [Option.some.injEq, Pl.row.injEq] at e1
    obtain ⟨rfl, rfl, rfl, rfl, rfl⟩ := e1
    rcases hp with ⟨o2, h⟩ | ⟨_, k, hk, o2, h⟩
    · simp only [Option.some.injEq, Prod.mk.injEq] at h
      exact .inl (h5 b1 o1 h.1.symm)
    · by_cases hki : k = i
      · subst hki
        simp only [ips', if_true] at h
        rcases hb b1 o2 h with ⟨o3, e3⟩ | hs
        · exact .inl ⟨_, _, _, _, ips, el, .inr ⟨rfl, k, hk, o3, e3⟩⟩
        · exact .inr (hs o1)
      · simp only [ips', if_neg hki] at h
        exact .inl ⟨_, _, _, _, ips, el, .inr ⟨rfl, k, hk, o2, h⟩⟩
  have hfr : ∀ b1, b1 ≠ b → ∀ o', ¬ (fun b' (o' : Nat) => b' = b) b1 o' := fun b1 h o' e => h e
  have H1 : Heap (updR rows id .dead) loc w' S L := (H.kill id).frame h2 (fun j z ez b1 o1 hz hs => by
      by_cases hj : j = id
      · subst hj; rw [updR_self] at ez; cases ez; exact hz.elim
      · rw [updR_other _ _ hj] at ez
        exact H.sep j id z _ hj ez er b1 o1 hz (h5 b1 o1 hs)) (fun b1 hb1 o1 hs => H.dis b1 o1 (H.inS id _ er b1 o1 (h5 b1 o1 hs)) hb1)
  refine ⟨w', h1, h2.mono fun b1 o1 h => H.inS id _ er b1 o1 (h5 b1 o1 h), _, ?_, hmono⟩
  rw [← updR_updR rows id .dead]
  refine H1.upd id _ (fun j hj => updL_other _ _ hj) (fun j z hj ez => ?_) ⟨some (b, o), cap, ips', by rw [eset]; exact el', by rw [eset]; exact h6, (fun h => by cases h), fun b1 o1 e1 => ?_, ?_⟩ (fun j z hj ez b1 o1 hz hx' => ?_) (fun _ _ h => h) (fun b1 o1 h => ?_) (fun _ h => h.elim) H1.dis H1.ltS
  · have := H1.ok j z ez
    cases z with
    | dead => trivial
    | scrub => trivial
    | box cs =>
      obtain ⟨b1, o1, e1, k1, k2⟩ := this
      refine ⟨b1, o1, by rw [updL_other _ _ hj]; exact e1, k1, fun q hq => ?_⟩
      have := k2 q hq
      generalize cs[q] = y at this ⊢
      cases y <;> first
        | trivial
        | (obtain ⟨k3, v, k4, k5, k6⟩ := this
           refine ⟨k3, v, k4, ?_, k6⟩
           have := hmono [id] (List.mem_singleton.2 rfl) _ _ k5
           rw [scrubS_ok k3] at this
           exact this)
    | rbox cs =>
      obtain ⟨b1, o1, e1, k2⟩ := this
      refine ⟨b1, o1, by rw [updL_other _ _ hj]; exact e1, fun q hq => ?_⟩
      have := k2 q hq
      generalize cs[q] = y at this ⊢
      cases y <;> first
        | trivial
        | (obtain ⟨k3, v, k4, k5, k6⟩ := this
           refine ⟨k3, v, k4, ?_, k6⟩
           have := hmono [id] (List.mem_singleton.2 rfl) _ _ k5
           rw [scrubS_ok k3] at this
           exact this)
    | row ow e l1 =>
      obtain ⟨a1, c1, p1, e1, k1⟩ := this
      exact ⟨a1, c1, p1, by rw [updL_other _ _ hj]; exact e1, k1⟩
  · simp only [Option.some.injEq, Prod.mk.injEq] at e1
    obtain ⟨rfl, rfl⟩ := e1
    refine ⟨fun k hk j hj => ?_, fun _ => by simpa [E.sz] using h4⟩
    simpa [E.sz] using h3 k hk j hj
  · refine ⟨fun k hk => ?_, fun _ => ⟨fun j k hj hk hjk b1 o1 b2 o2 e1 e2 => ?_, fun k hk b1 o1 e1 e2 => ?_⟩⟩
    · rw [getElem_set']
      by_cases hki : k = i
      · subst hki
        rw [if_pos rfl]
        show InAt w' true x (ips' k)
        simp only [ips', if_true]
        exact hx.frame h2 fun b1 o1 e1 _ => hfr b1 (hne b1 o1 e1)
      · rw [if_neg hki]
        show InAt w' true _ (ips' k)
        simp only [ips', if_neg hki]
        have hk' : k < l.length := by simpa using hk
        exact (h7.1 k hk').frame h2 fun b1 o1 e1 _ => hfr b1 (fun e => (h7.2 rfl).2 k hk' b1 o1 e1 (by rw [e]))
    · rw [eset] at hj hk
      by_cases hji : j = i
      · subst hji
        have hki : k ≠ j := fun h => hjk h.symm
        simp only [ips', if_true] at e1
        simp only [ips', if_neg hki] at e2
        rcases hb b1 o1 e1 with ⟨o3, e3⟩ | hs
        · exact (h7.2 rfl).1 j k hi hk hjk b1 o3 b2 o2 e3 e2
        · intro e; subst e
          exact hd b1 0 ⟨id, _, er, _, _, _, _, ips, el, .inr ⟨rfl, k, hk, o2, e2⟩⟩ (hs 0)
      · simp only [ips', if_neg hji] at e1
        by_cases hki : k = i
        · subst hki
          simp only [ips', if_true] at e2
          rcases hb b2 o2 e2 with ⟨o3, e3⟩ | hs
          · exact (h7.2 rfl).1 j k hj hi hjk b1 o1 b2 o3 e1 e3
          · intro e; subst e
            exact hd b1 0 ⟨id, _, er, _, _, _, _, ips, el, .inr ⟨rfl, j, hj, o1, e1⟩⟩ (hs 0)
        · simp only [ips', if_neg hki] at e2
          exact (h7.2 rfl).1 j k hj hk hjk b1 o1 b2 o2 e1 e2
    · rw [eset] at hk
      simp only [Option.map_some, Option.some.injEq] at e2
      by_cases hki : k = i
      · subst hki
        simp only [ips', if_true] at e1
        exact hne b1 o1 e1 e2.symm
      · simp only [ips', if_neg hki] at e1
        exact (h7.2 rfl).2 k hk b1 o1 e1 (by rw [e2])
  · rw [updR_other _ _ hj] at ez
    rcases hown b1 o1 hx' with h | h
    · exact H.sep j id z _ hj ez er b1 o1 hz h
    · exact hd b1 o1 ⟨j, z, ez, hz⟩ h
  · rcases hown b1 o1 h with h | h
    · exact H.inS id _ er b1 o1 h
    · exact hS b1 o1 h

theorem sliceOf_own {rows : Rows} {e : E} {sv : SV} {l : List e.C} {id : Nat} (h : sliceOf rows e sv = some (l, some (id, true))) : ∃ l', rows id = some (.row true e l') := by
  cases sv with
  | slf id' =>
    simp only [sliceOf] at h
    split at h
    · rename_i ow e' row hr
      split at h
      · rename_i l' hc
        simp only [Option.some.injEq, Prod.mk.injEq] at h
        obtain ⟨_, rfl, rfl⟩ := h
        obtain ⟨rfl, _⟩ := castC_some hc
        exact ⟨_, hr⟩
      · cases h
    · cases h
  | sld id' o =>
    simp only [sliceOf] at h
    split at h
    · rename_i ow e' row hr
      split at h
      · rename_i l' hc
        simp only [Option.some.injEq, Prod.mk.injEq] at h
        obtain ⟨_, rfl, rfl⟩ := h
        obtain ⟨rfl, _⟩ := castC_some hc
        exact ⟨_, hr⟩
      · cases h
    · cases h
  | slt id' n =>
    simp only [sliceOf] at h
    split at h
    · split at h
      · simp at h
      · cases h
    · cases h
  | nslf id' i =>
    cases e with
    | i =>
      simp only [sliceOf] at h
      split at h
      · simp at h
      · cases h
    | _ => simp [sliceOf] at h
  | nil => simp [sliceOf] at h
  | _ => simp [sliceOf] at h

/-- a slice that is given away -/
theorem takeL_own {rows : Rows} {e : E} {sv : SV} {x : (LT.sl true e).D} {us : Us} {ls : List Nat} (h : takeL rows (.sl true e) sv = some (x, us, ls)) :
    ls = [] ∧ (us = [] ∨ ∃ id l, us = [(id, .dead)] ∧ rows id = some (.row true e l)) := by
  have h' : (match sliceOf rows e sv with
      | some (l, none) => some (l, ([] : Us), ([] : List Nat))
      | some (l, some (id, o)) => bif true then (bif o then some (l, [(id, .dead)], []) else none) else some (l, [], [id])
      | none => none) = some (x, us, ls) := by
    cases sv <;> exact h
  split at h'
  · simp only [Option.some.injEq, Prod.mk.injEq] at h'
    obtain ⟨_, rfl, rfl⟩ := h'
    exact ⟨rfl, .inl rfl⟩
  · rename_i l id o hs
    cases o with
    | false => cases h'
    | true =>
      simp only [cond_true, Option.some.injEq, Prod.mk.injEq] at h'
      obtain ⟨_, rfl, rfl⟩ := h'
      obtain ⟨l', hl⟩ := sliceOf_own hs
      exact ⟨rfl, .inr ⟨id, l', rfl, hl⟩⟩
  · cases h'

theorem toEl_plain {rows : Rows} {loc : Loc} {e : E} (hn : e ≠ .n) {cv : CV} {x : e.C} {us : Us} {v : Value} (h : toEl rows e cv = some (x, us)) (hv : CRel loc cv v) :
    us = [] ∧ ∃ vs : List Value, v.cells = vs.toArray ∧ vs.length = e.sz ∧ oneCells vs ∧ ∀ (p : IP) j, (hj : j < vs.length) → vs[j] = elV e x p j := by
  cases e with
  | n => exact absurd rfl hn
  | i =>
    cases cv with
    | agg l => simp [toEl] at h
    | s y =>
      cases y <;> first | (simp [toEl] at h; done) | skip
      rename_i k n
      cases k <;> simp [toEl] at h
      obtain ⟨rfl, rfl⟩ := h
      obtain rfl := hv
      refine ⟨rfl, [.int .i64 n], rfl, rfl, ⟨rfl, trivial⟩, fun p j hj => ?_⟩
      obtain rfl : j = 0 := by simpa using hj
      rfl
  | b =>
    cases cv with
    | agg l => simp [toEl] at h
    | s y =>
      cases y <;> first | (simp [toEl] at h; done) | skip
      rename_i k n
      cases k <;> simp [toEl] at h
      obtain ⟨rfl, rfl⟩ := h
      obtain rfl := hv
      refine ⟨rfl, [.int .u8 n], rfl, rfl, ⟨rfl, trivial⟩, fun p j hj => ?_⟩
      obtain rfl : j = 0 := by simpa using hj
      rfl
  | s =>
    cases cv with
    | agg l => simp [toEl] at h
    | s y =>
      cases y <;> first | (simp [toEl] at h; done) | skip
      rename_i n
      simp [toEl] at h
      obtain ⟨rfl, rfl⟩ := h
      obtain rfl := hv
      refine ⟨rfl, [.string n], rfl, rfl, ⟨rfl, trivial⟩, fun p j hj => ?_⟩
      obtain rfl : j = 0 := by simpa using hj
      rfl
  | o =>
    cases cv with
    | agg l => simp [toEl] at h
    | s y =>
      cases y <;> first | (simp [toEl] at h; done) | skip
      rename_i n
      simp [toEl] at h
      obtain ⟨rfl, rfl⟩ := h
      obtain rfl := hv
      refine ⟨rfl, [.bool n], rfl, rfl, ⟨rfl, trivial⟩, fun p j hj => ?_⟩
      obtain rfl : j = 0 := by simpa using hj
      rfl
  | t =>
    cases cv with
    | s y => cases y <;> simp [toEl] at h
    | agg l =>
      have key : ∃ a b c, l = [.int .i64 a, .int .i64 b, .int .i64 c] ∧ x = (a, b, c) ∧ us = [] := by
        match l, h with
        | [.int .i64 a, .int .i64 b, .int .i64 c], h =>
          simp [toEl] at h
          exact ⟨a, b, c, rfl, h.1.symm, h.2⟩
      obtain ⟨a, b, c, rfl, rfl, rfl⟩ := key
      obtain ⟨cs, rfl, r⟩ := hv
      match cs, r with
      | [_, _, _], ⟨rfl, rfl, rfl, _⟩ =>
        refine ⟨rfl, _, rfl, rfl, ⟨rfl, rfl, rfl, trivial⟩, fun p j hj => ?_⟩
        match j, hj with
        | 0, _ => rfl
        | 1, _ => rfl
        | 2, _ => rfl
        | n + 3, h => exact absurd h (by simp)

theorem InAt.drop {w : World} {ow : Bool} {l : List Int} {p : IP} (h : InAt w ow l p) (k : Nat) (hk : k ≤ l.length) :
    InAt w ow (l.drop k) ⟨if p.cap = k then p.a else p.a.map fun q => (q.1, q.2 + k), p.cap - k, p.len - k, p.q⟩ := by
  obtain ⟨h1, h2, h3, h4⟩ := h
  have hl : (l.drop k).length = l.length - k := List.length_drop
  refine ⟨by simp only [hl, h1], by simp only [hl]; omega, fun hn => ?_, fun b o ea => ?_⟩
  · simp only at hn
    have : p.a = none := by
      by_cases hc : p.cap = k
      · rw [if_pos hc] at hn; exact hn
      · rw [if_neg hc] at hn; revert hn; cases p.a <;> simp
    have := h3 this
    exact ⟨by simp only; omega, this.2⟩
  · simp only at ea
    by_cases hc : p.cap = k
    · rw [if_pos hc] at ea
      obtain ⟨_, g2⟩ := h4 b o ea
      refine ⟨fun j hj => by omega, fun ho => ?_⟩
      obtain ⟨c, ty, e1, e2⟩ := g2 ho
      exact ⟨c, ty, e1, by simp only; omega⟩
    · rw [if_neg hc] at ea
      cases hp : p.a with
      | none => rw [hp] at ea; simp at ea
      | some q =>
        rw [hp] at ea
        simp only [Option.map_some, Option.some.injEq, Prod.mk.injEq] at ea
        obtain ⟨rfl, rfl⟩ := ea
        obtain ⟨g1, g2⟩ := h4 q.1 q.2 (by rw [hp])
        refine ⟨fun j hj => ?_, fun ho => ?_⟩
        · have := g1 (k + j) (by omega)
          rw [show q.2 + k + j = q.2 + (k + j) by omega, this]
          congr 2
          rw [List.getElem_drop]
        · obtain ⟨c, ty, e1, e2⟩ := g2 ho
          exact ⟨c, ty, e1, by simp only; omega⟩

theorem info_cells {P : Program} {t : TypeId} {n : Nat} (h : Nat.beq (P.cellsOf t) n = true) (hn : n ≠ 0) : ∃ i, P.info? t = some i := cellsOf_info (by rw [Nat.eq_of_beq_eq_true h]; exact hn)

theorem Done.store {rows : Rows} {loc : Loc} {w w' : World} {S : Fp} {L : Nat → Prop} {us : Us} (H : Heap (appR rows us) loc w' S L) (hs : scrubs us = []) (hf : Frame S w w') : Done rows loc w S L us voidT undef w' :=
  Done.ext H hs rfl (Ext.refl _) (fun _ _ h => .inl h) hf

theorem storeF_ok {P : Program} {rows : Rows} {loc : Loc} {w : World} {S : Fp} {L : Nat → Prop} (H : Heap rows loc w S L) {t : TypeId} {tv tu : TV} {v u : Value} {f : F} (hv : TRel loc tv v) (hu : TRel loc tu u)
    (h : storeF P rows t tv tu = some f) (hc : ∀ c, c ∈ f.checks → c = true) :
    f.v = voidT ∧ ∃ w', (Instr.storeAt t v u).run P w = .ok () w' ∧ Done rows loc w S L f.us voidT undef w' := by
  unfold storeF at h
  split at h
  · rename_i id off
    obtain ⟨b, o, n, el, rfl⟩ := hv
    split at h
    · rename_i cs vs hr hcells
      obtain ⟨us, hcu, hrel, hall⟩ := cellsOf_ok hcells hu
      cases hb : ((hasT P t && Nat.beq vs.length (P.cellsOf t)) && (Nat.ble (off + vs.length) cs.length && okL ((cs.drop off).take vs.length))) with
      | false => rw [hb] at h; cases h
      | true =>
        rw [hb, cond_true, Option.some.injEq] at h
        subst h
        simp only [Bool.and_eq_true] at hb
        obtain ⟨⟨hb1, hb2⟩, hb3, hb4⟩ := hb
        have hi : ∃ i, P.info? t = some i := by
          unfold hasT at hb1
          split at hb1
          · rename_i i hi; exact ⟨i, hi⟩
          · cases hb1
        obtain ⟨i, hi⟩ := hi
        obtain ⟨b', o', el', _⟩ := H.ok id _ hr
        rw [el] at el'
        simp only [Option.some.injEq, Pl.box.injEq] at el'
        obtain ⟨rfl, rfl, rfl⟩ := el'
        obtain ⟨w', h1, h2, h3⟩ := writeBox (P := P) H hr el (Nat.le_of_ble_eq_true hb3) hrel hall hb4
        refine ⟨rfl, w', ?_, Done.store h2 rfl h3⟩
        rw [storeAt_run]
        exact run_storeVar hi hcu (by rw [← hrel.len]; exact Nat.eq_of_beq_eq_true hb2) h1
    · cases h
  · rename_i id i off cv
    obtain ⟨b, o, cap, len, e, ips, el, h0, hi, rfl⟩ := hv
    split at h
    · rename_i e' l hr
      obtain ⟨a', cap', ips', el', hat⟩ := H.ok id _ hr
      rw [el] at el'
      simp only [Option.some.injEq, Pl.row.injEq] at el'
      obtain ⟨rfl, rfl, rfl, rfl, rfl⟩ := el'
      split at h
      · -- a slice of itself, cut
        rename_i l' id' i' k
        obtain ⟨a2, cap2, len2, ips2, el2, _, _, hk0, hk, rfl⟩ := hu
        split at h
        · rename_i _ _ hii _ hb
          subst hii
          obtain rfl := Nat.eq_of_beq_eq_true hb
          rw [el] at el2
          simp only [Option.some.injEq, Pl.row.injEq, true_and] at el2
          obtain ⟨rfl, rfl, rfl, rfl⟩ := el2
          cases hb : (Nat.beq off 0 && Nat.beq (P.cellsOf t) 1) with
          | false => rw [hb] at h; cases h
          | true =>
            rw [hb, cond_true, Option.some.injEq] at h
            subst h
            simp only [Bool.and_eq_true] at hb
            obtain rfl := Nat.eq_of_beq_eq_true hb.1
            obtain ⟨ti, hti⟩ := info_cells hb.2 (by decide)
            have hin := hat.2.2.2.1 i.toNat hi
            have hkl : k.toNat ≤ (l'[i.toNat]).length := by have := hin.1; omega
            obtain ⟨w', h1, h2, loc', h3, h4⟩ := writeInner (P := P) (S1 := noFp) H hr el hi (hin.drop k.toNat hkl) (fun b1 o1 e1 => by
              left
              simp only at e1
              by_cases hcc : (ips i.toNat).cap = k.toNat
              · rw [if_pos hcc] at e1; exact ⟨o1, e1⟩
              · rw [if_neg hcc] at e1
                cases hp : (ips i.toNat).a with
                | none => rw [hp] at e1; simp at e1
                | some q => rw [hp] at e1; simp only [Option.map_some, Option.some.injEq, Prod.mk.injEq] at e1; exact ⟨q.2, by rw [← e1.1]⟩) (fun _ _ _ h => h) (fun _ _ h => h.elim)
            refine ⟨rfl, w', ?_, loc', S, ?_, rfl, h4 _ (by simp [scrubs]), fun _ _ h => .inl h, h2⟩
            · rw [storeAt_run]
              refine run_storeVar hti (vs := [_]) rfl (by simpa using (Nat.eq_of_beq_eq_true hb.2).symm) ?_
              simpa [E.sz] using h1
            · have := appR_scrub rows [] id (.row true .n (l'.set i.toNat ((rdE .n l' i).drop k.toNat)))
              simp only [List.nil_append] at this
              rw [this, rdE_eq hi]
              exact h3
        · cases h
      · -- a number of a triple
        rename_i l' n
        obtain rfl := hu
        cases hb : (Nat.blt off 3 && Nat.beq (P.cellsOf t) 1) with
        | false => rw [hb] at h; cases h
        | true =>
          rw [hb, cond_true, Option.some.injEq] at h
          subst h
          simp only [Bool.and_eq_true] at hb
          have hoff : off < 3 := Nat.le_of_ble_eq_true hb.1
          obtain ⟨ti, hti⟩ := info_cells hb.2 (by decide)
          rw [rdE_eq hi]
          obtain ⟨w', h1, h2, h3⟩ := writePlain (P := P) H hr el hi (off := off) (x := setT l'[i.toNat] n off) (vs := [.int .i64 n]) ⟨rfl, trivial⟩ (by simp [E.sz]; omega) (by simp) (fun j hj => by
            obtain rfl : j = 0 := by simpa using hj
            match off, hoff with
            | 0, _ => rfl
            | 1, _ => rfl
            | 2, _ => rfl
            | m + 3, h => omega) (fun j hj hjo => by
            simp only [E.sz] at hj
            simp only [List.length_singleton] at hjo
            match off, hoff, j, hj, hjo with
            | 0, _, 1, _, _ => rfl
            | 0, _, 2, _, _ => rfl
            | 1, _, 0, _, _ => rfl
            | 1, _, 2, _, _ => rfl
            | 2, _, 0, _, _ => rfl
            | 2, _, 1, _, _ => rfl
            | 0, _, 0, _, h => omega
            | 1, _, 1, _, h => omega
            | 2, _, 2, _, h => omega
            | m + 3, h, _, _, _ => omega
            | _, _, m + 3, h, _ => omega)
          refine ⟨rfl, w', ?_, Done.store h2 rfl h3⟩
          rw [storeAt_run]
          exact run_storeVar hti (vs := [_]) rfl (by simpa using (Nat.eq_of_beq_eq_true hb.2).symm) h1
      · -- an inner slice
        rename_i l' sv hns
        split at h
        · rename_i x us ls htk
          cases hb : (Nat.beq off 0 && Nat.beq (P.cellsOf t) 1) with
          | false => rw [hb] at h; cases h
          | true =>
            rw [hb, cond_true, Option.some.injEq] at h
            subst h
            simp only [Bool.and_eq_true] at hb
            obtain rfl := Nat.eq_of_beq_eq_true hb.1
            obtain ⟨ti, hti⟩ := info_cells hb.2 (by decide)
            obtain ⟨rfl, hus⟩ := takeL_own htk
            have hsv : SRel loc sv u := SRel_of_CRel hu (by rintro rfl; simp [takeL, sliceOf] at htk)
            obtain ⟨S1, T, _, k⟩ := takeL_ok H htk hsv
            obtain ⟨a2, cap2, ips2, rfl, hat2, hb2⟩ := k false _ (.refl _) rfl
            have er1 : appR rows us id = some (.row true .n l') := by
              rcases hus with rfl | ⟨id2, l2, rfl, hr2⟩
              · exact hr
              · simp only [appR]
                have : id ≠ id2 := by rintro rfl; rw [hr] at hr2; cases hr2
                rw [updR_other _ _ this]; exact hr
            have hscr : scrubs us = [] := by rcases hus with rfl | ⟨id2, l2, rfl, _⟩ <;> rfl
            obtain ⟨w', h1, h2, loc', h3, h4⟩ := writeInner (P := P) (S1 := S1) T.heap er1 el hi (InAt_of hat2) (fun b1 o1 e1 => .inr fun o' => hb2 b1 (.inl ⟨o1, e1⟩) o') (fun b1 o1 h => (T.apart b1 o1 h).2)
              (fun b1 o1 h => by obtain ⟨j, y, ey, hy⟩ := T.from_ b1 o1 h; exact H.inS j y ey b1 o1 hy)
            refine ⟨rfl, w', ?_, loc', S, ?_, rfl, h4 _ (by simp [scrubs_append, scrubs]), fun _ _ h => .inl h, h2⟩
            · rw [storeAt_run]
              refine run_storeVar hti (vs := [_]) rfl (by simpa using (Nat.eq_of_beq_eq_true hb.2).symm) ?_
              simpa [E.sz] using h1
            · rw [appR_scrub]
              exact h3
        · cases h
      · -- an element that is no slice
        rename_i l' hn1 hn2 hn3
        split at h
        · rename_i x us htk
          cases hb : (Nat.beq off 0 && Nat.beq (P.cellsOf t) e.sz) with
          | false => rw [hb] at h; cases h
          | true =>
            rw [hb, cond_true, Option.some.injEq] at h
            subst h
            simp only [Bool.and_eq_true] at hb
            obtain rfl := Nat.eq_of_beq_eq_true hb.1
            obtain ⟨ti, hti⟩ := info_cells hb.2 (by have := esz_pos e; omega)
            have hne : e ≠ .n := by
              rintro rfl
              cases cv with
              | s y => exact hn3 _ y rfl HEq.rfl rfl
              | agg l => simp [toEl] at htk
            obtain ⟨rfl, vs, hvs, hlen, hone, hel⟩ := toEl_plain hne htk hu
            obtain ⟨w', h1, h2, h3⟩ := writePlain (P := P) H hr el hi (off := 0) (x := x) (vs := vs) hone (by omega) hne (fun j hj => by rw [Nat.zero_add]; exact hel _ j hj) (fun j hj hjo => by omega)
            refine ⟨rfl, w', ?_, Done.store h2 rfl h3⟩
            rw [storeAt_run]
            exact run_storeVar hti hvs (by rw [hlen]; exact (Nat.eq_of_beq_eq_true hb.2).symm) h1
        · cases h
    · cases h
  · rename_i id i j n
    obtain ⟨a, cap, len, ips, b, o, el, h0, hi, hb, hj0, hj, rfl⟩ := hv
    obtain rfl := hu
    split at h
    · rename_i l hr
      obtain ⟨a', cap', ips', el', hat⟩ := H.ok id _ hr
      rw [el] at el'
      simp only [Option.some.injEq, Pl.row.injEq, true_and] at el'
      obtain ⟨rfl, rfl, rfl, rfl⟩ := el'
      cases hb1 : Nat.beq (P.cellsOf t) 1 with
      | false => rw [hb1] at h; cases h
      | true =>
        rw [hb1, cond_true, Option.some.injEq] at h
        subst h
        obtain ⟨ti, hti⟩ := info_cells hb1 (by decide)
        obtain ⟨g1, g2, g3, g4⟩ := hat.2.2.2.1 i.toNat hi
        obtain ⟨gc, gob⟩ := g4 b o hb
        have gob := gob rfl
        have hjl : j.toNat < l[i.toNat].length := by omega
        obtain ⟨w', h1, h2, h3⟩ := run_storeCells P b (o + j.toNat) (o + (ips i.toNat).cap) [.int .i64 n] 0 w gob (by simp; omega) ⟨rfl, trivial⟩
        simp only [Nat.add_zero, List.length_singleton] at h2 h3
        rw [rdE_eq hi]
        have hdist := hat.2.2.2.2 rfl
        have hown : ∀ b1 o1, (b1 = b ∧ o + j.toNat ≤ o1 ∧ o1 < o + j.toNat + 1) → own loc id (.row true .n l) b1 o1 := by
          rintro b1 o1 ⟨rfl, _⟩
          exact ⟨a, cap, _, .n, ips, el, .inr ⟨rfl, i.toNat, hi, o, hb⟩⟩
        have eset : (l.set i.toNat (List.set l[i.toNat] j.toNat n)).length = l.length := by simp
        refine ⟨rfl, w', ?_, Done.store (H.write hr h3 hown ⟨a, cap, ips, by rw [eset]; exact el, by rw [eset]; exact hat.1, hat.2.1, fun b1 o1 e1 => ?_, ?_⟩ ?_ (fun _ h => h.elim)) rfl (h3.mono fun b1 o1 h => H.inS id _ hr b1 o1 (hown b1 o1 h))⟩
        · rw [storeAt_run]
          exact run_storeVar hti (vs := [_]) rfl (by simpa using (Nat.eq_of_beq_eq_true hb1).symm) h1
        · have hbb : b1 ≠ b := by
            rintro rfl
            exact hdist.2 i.toNat hi b1 o hb (by rw [e1]; rfl)
          refine ⟨fun k hk q hq => ?_, fun _ => h3.ownB ((hat.2.2.1 b1 o1 e1).2 rfl)⟩
          have hk' : k < l.length := by omega
          have hold := (hat.2.2.1 b1 o1 e1).1 k hk' q hq
          rw [h3.cell (cell_lt hold) (fun h => hbb h.1), hold]
          rfl
        · refine ⟨fun k hk => ?_, fun _ => ⟨fun k q hk hq => hdist.1 k q (by omega) (by omega), fun k hk => hdist.2 k (by omega)⟩⟩
          have hk' : k < l.length := by omega
          obtain ⟨q1, q2, q3, q4⟩ := hat.2.2.2.1 k hk'
          rw [getElem_set']
          by_cases hki : k = i.toNat
          · subst hki
            rw [if_pos rfl]
            refine ⟨by simp [q1], by simpa using q2, q3, fun b1 o1 e1 => ⟨fun m hm => ?_, fun _ => h3.ownB ((q4 b1 o1 e1).2 rfl)⟩⟩
            rw [hb] at e1
            simp only [Option.some.injEq, Prod.mk.injEq] at e1
            obtain ⟨rfl, rfl⟩ := e1
            have hm' : m < l[i.toNat].length := by simpa using hm
            rw [getElem_set']
            by_cases hmj : m = j.toNat
            · subst hmj
              rw [if_pos rfl]
              simpa using h2 0 (by simp)
            · rw [if_neg hmj, h3.cell gob.lt (by omega)]
              exact gc m hm'
          · rw [if_neg hki]
            refine InAt.frame h3 (fun b1 o1 e1 _ o' h => ?_) ⟨q1, q2, q3, q4⟩
            exact hdist.1 k i.toNat hk' hi hki b1 o1 b o e1 hb h.1
        · intro b1 o1 h
          exact h
    · cases h
  · cases h

end Go.Tev
