/- An evaluator of Go functions on plain values: rows that are made. Lemmas; no condition beyond those that each states. -/
import Derived.Test.YtanoofbkhddokaaGreatTk
set_option linter.unusedVariables false
set_option linter.unusedSimpArgs false
namespace Go.Tev

/-- a row's cells -/
def flatE (e : E) : List e.C → Ips → List Value
  | [], _ => [] | x :: xs, ips => (List.range e.sz).map (elV e x (ips 0)) ++ flatE e xs ⟨fun i => ips (i + 1), ips.q⟩

theorem flat_len (e : E) : ∀ (l : List e.C) (ips : Ips), (flatE e l ips).length = l.length * e.sz
  | [], _ => by simp [flatE]
  | x :: xs, ips => by simp [flatE, flat_len e xs, Nat.add_mul]; omega

theorem flat_get (e : E) : ∀ (l : List e.C) (ips : Ips) (i j : Nat) (h : i < l.length), j < e.sz → (flatE e l ips)[i * e.sz + j]? = some (elV e l[i] (ips i) j)
  | x :: xs, ips, 0, j, _, hj => by
    simp only [flatE, Nat.zero_mul, Nat.zero_add]
    rw [List.getElem?_append_left (by simpa using hj)]
    simp [hj]
  | x :: xs, ips, i + 1, j, h, hj => by
    simp only [flatE]
    rw [List.getElem?_append_right (by simp [Nat.add_mul]; omega)]
    have := flat_get e xs ⟨fun i => ips (i + 1), ips.q⟩ i j (by simpa using h) hj
    simp only [List.length_map, List.length_range, Nat.add_mul, Nat.one_mul]
    rw [show i * e.sz + e.sz + j - e.sz = i * e.sz + j by omega, this]
    simp

theorem flat_append (e : E) : ∀ (l l' : List e.C) (ips : Ips), flatE e (l ++ l') ips = flatE e l ips ++ flatE e l' ⟨fun i => ips (i + l.length), ips.q⟩
  | [], l', ips => by simp [flatE]
  | x :: xs, l', ips => by
    simp only [List.cons_append, flatE, List.append_assoc]
    rw [flat_append e xs l']
    congr 3

theorem flat_congr (e : E) : ∀ (l : List e.C) (ips ips' : Ips), (∀ i, i < l.length → ips i = ips' i) → flatE e l ips = flatE e l ips'
  | [], _, _, _ => rfl
  | x :: xs, ips, ips', h => by
    simp only [flatE]
    rw [h 0 (by simp), flat_congr e xs ⟨fun i => ips (i + 1), ips.q⟩ ⟨fun i => ips' (i + 1), ips'.q⟩ (fun i hi => h (i + 1) (by simpa using hi))]

theorem flat_one (e : E) : ∀ (l : List e.C) (ips : Ips), oneCells (flatE e l ips)
  | [], _ => trivial
  | x :: xs, ips => by
    have app : ∀ {a b : List Value}, oneCells a → oneCells b → oneCells (a ++ b) := by
      intro a
      induction a with
      | nil => intro b _ h; exact h
      | cons v a ih => intro b h h'; exact ⟨h.1, ih h.2 h'⟩
    refine app ?_ (flat_one e xs _)
    have one : ∀ (l : List Nat), oneCells (l.map (elV e x (ips 0))) := by
      intro l
      induction l with
      | nil => trivial
      | cons j l ih => exact ⟨by cases e <;> rfl, ih⟩
    exact one _

/-- cells of a row, told as a list -/
def FlatAt (w : World) (b o : Nat) (vs : List Value) : Prop := ∀ j v, vs[j]? = some v → w.cell? (adr (b, o + j)) = some v

theorem FlatAt.row {w : World} {b o : Nat} {e : E} {l : List e.C} {ips : Ips} (h : FlatAt w b o (flatE e l ips)) : ∀ i, (hi : i < l.length) → ∀ j, j < e.sz → w.cell? (adr (b, o + i * e.sz + j)) = some (elV e l[i] (ips i) j) := fun i hi j hj => by
  rw [Nat.add_assoc]
  exact h _ _ (flat_get e l ips i j hi hj)

theorem row_flat {w : World} {b o : Nat} {e : E} {l : List e.C} {ips : Ips} (h : ∀ i, (hi : i < l.length) → ∀ j, j < e.sz → w.cell? (adr (b, o + i * e.sz + j)) = some (elV e l[i] (ips i) j)) : FlatAt w b o (flatE e l ips) := by
  intro k v hk
  obtain ⟨hlt, rfl⟩ := List.getElem?_eq_some_iff.1 hk
  rw [flat_len] at hlt
  have hp := esz_pos e
  have hi : k / e.sz < l.length := (Nat.div_lt_iff_lt_mul hp).2 hlt
  have hj : k % e.sz < e.sz := Nat.mod_lt _ hp
  have hkk : k / e.sz * e.sz + k % e.sz = k := by rw [Nat.mul_comm]; exact Nat.div_add_mod k e.sz
  have h1 := flat_get e l ips (k / e.sz) (k % e.sz) hi hj
  have h2 := h (k / e.sz) hi (k % e.sz) hj
  rw [hkk] at h1
  rw [Nat.add_assoc, hkk] at h2
  rw [List.getElem?_eq_getElem (by rw [flat_len]; exact hlt)] at h1
  rw [h2]
  exact h1.symm

theorem zero_cells {e : E} {zo : Option Value} (h : zeroOk e zo = true) : ∃ z, zo = some z ∧ z.cells = ((List.range e.sz).map (elV e e.zero ⟨none, 0, 0, none⟩)).toArray := by
  cases e <;> (unfold zeroOk at h; split at h) <;> first
    | (exact ⟨_, rfl, rfl⟩)
    | (cases h; done)
    | (rename_i he _; cases he; done)
    | (rename_i he; cases he; done)


theorem ip0_inner (w : World) (out : Option Nat) (e : E) (n : Nat) : InnerAt w true out e (List.replicate n e.zero) ⟨fun _ => ⟨none, 0, 0, none⟩, none⟩ := by
  cases e with
  | n =>
    refine ⟨fun i hi => ?_, fun _ => ⟨(fun i j _ _ _ b o b' o' h => by cases h), (fun i _ b o h => by cases h)⟩⟩
    rw [List.getElem_replicate]
    exact ⟨rfl, Nat.le_refl _, fun _ => ⟨rfl, .inl rfl⟩, (fun b o h => by cases h)⟩
  | _ => trivial

theorem flat_replicate (e : E) (n : Nat) : flatE e (List.replicate n e.zero) ⟨fun _ => ⟨none, 0, 0, none⟩, none⟩ = (List.replicate n ((List.range e.sz).map (elV e e.zero ⟨none, 0, 0, none⟩))).flatten := by
  induction n with
  | zero => rfl
  | succ n ih => simp only [List.replicate_succ, flatE, List.flatten_cons]; rw [ih]

/-- a new block that holds a row -/
theorem freshRow {rows : Rows} {loc : Loc} {w w1 : World} {S S1 : Fp} {L : Nat → Prop} (H : Heap rows loc w S L) {id : Nat} (hid : rows id = none) {e : E} {l : List e.C} {ips : Ips} {c : Array Value} {ty : TypeId} {cap : Nat}
    (h1 : Frame noFp w w1) (hsz1 : w1.heap.size = w.heap.size) (hcells : ∀ (j : Nat) (v : Value), (flatE e l ips)[j]? = some v → c[j]? = some v) (hcap : l.length ≤ cap) (hsz : cap * e.sz ≤ c.size)
    (hin : InnerAt w true none e l ips) (hS1 : ∀ b, (e = .n ∧ ∃ i, i < l.length ∧ ∃ o, (ips i).a = some (b, o)) → ∀ o, S1 b o) (hd : Dis (Owned rows loc) S1) (hS : Sub2 S1 S) :
    ∃ loc', Heap (updR rows id (.row true e l)) loc' (w1.alloc (.cells c ty)) (orFp S (fun b _ => b = w.heap.size)) L ∧ Ext loc loc' ∧ SRel loc' (.slf id) (slV (some (w.heap.size, 0)) ips.q l.length cap) ∧
      Frame S w (w1.alloc (.cells c ty)) := by
  have hf : Frame noFp w (w1.alloc (.cells c ty)) := h1.trans (frame_alloc noFp w1 _) (fun _ _ _ h => h)
  have H1 : Heap rows loc (w1.alloc (.cells c ty)) S L := H.frame hf (fun _ _ _ _ _ _ h => h) (fun _ _ _ h => h)
  have hltS1 : ∀ b o, S1 b o → b < w.heap.size := fun b o h => H.ltS b o (hS b o h)
  have H2 : Heap rows loc (w1.alloc (.cells c ty)) (orFp S (orFp S1 (fun b _ => b = w.heap.size))) L :=
    H1.weaken (fun _ _ h => .inl h) (by
      rintro b o (h | h | h) hl
      · exact H.dis b o h hl
      · exact H.dis b o (hS b o h) hl
      · have := H.ltL b hl; omega) (by
      rintro b o (h | h | h)
      · exact H1.ltS b o h
      · exact H1.ltS b o (hS b o h)
      · subst h; simp [hsz1])
  have hcell : ∀ o, (w1.alloc (.cells c ty)).cell? (adr (w.heap.size, o)) = c[o]? := fun o => by rw [← hsz1]; exact alloc_cell w1 c ty o
  have hat : RowAt (w1.alloc (.cells c ty)) true e (some (w.heap.size, 0)) cap l ips := by
    refine ⟨hcap, (fun h => by cases h), fun b o ea => ?_, ?_⟩
    · simp only [Option.some.injEq, Prod.mk.injEq] at ea
      obtain ⟨rfl, rfl⟩ := ea
      refine ⟨FlatAt.row fun j v hj => ?_, fun _ => ?_⟩
      · rw [Nat.zero_add, hcell]; exact hcells j v hj
      · rw [← hsz1]; exact alloc_own w1 c ty _ (by omega)
    · have := hin.frame (S := noFp) hf (fun _ _ _ _ _ _ _ _ h => h)
      cases e with
      | n =>
        refine ⟨this.1, fun ho => ⟨(this.2 ho).1, fun i hi b o ep h => ?_⟩⟩
        have := hltS1 b o (hS1 b ⟨rfl, i, hi, o, ep⟩ o)
        simp only [Option.map_some, Option.some.injEq] at h
        omega
      | _ => trivial
  obtain ⟨loc', h3, h4, h5⟩ := newRow_ok (S1 := orFp S1 (fun b _ => b = w.heap.size)) H2 hid hat (fun b hb o => by
    rcases hb with ⟨o1, h⟩ | h
    · simp only [Option.some.injEq, Prod.mk.injEq] at h
      exact .inr h.1.symm
    · exact .inl (hS1 b h o)) (by
    rintro b o ho (h | h)
    · exact hd b o ho h
    · obtain ⟨i, x, ex, hx⟩ := ho
      have := H.own_lt ex hx
      omega)
  refine ⟨loc', h3.weaken ?_ ?_ ?_, h4, h5, hf.mono (fun _ _ h => h.elim)⟩
  · rintro b o (h | h | h)
    · exact .inl h
    · exact .inl (hS b o h)
    · exact .inr h
  · rintro b o (h | h) hl
    · exact H.dis b o h hl
    · have := H.ltL b hl; omega
  · rintro b o (h | h)
    · exact H1.ltS b o h
    · subst h; simp [hsz1]

theorem makeF_ok {P : Program} {rows : Rows} {loc : Loc} {w : World} {S : Fp} {L : Nat → Prop} (H : Heap rows loc w S L) {fresh : Nat} (hid : rows fresh = none) {t : TypeId} {tv : TV} {v : Value} {f : F} (hv : TRel loc tv v)
    (h : makeF P fresh t tv = some f) (hc : ∀ c, c ∈ f.checks → c = true) : ∃ val w', (Instr.makeSlice t v v).run P w = .ok val w' ∧ Done rows loc w S L f.us f.v val w' := by
  unfold makeF at h
  split at h
  · rename_i n
    obtain rfl := hv
    split at h
    · rename_i e he
      simp only [Option.some.injEq] at h
      subst h
      obtain ⟨et, i, hu, hi, hsz, hby, hz, _⟩ := elemE_some he
      obtain ⟨z, hz1, hz2⟩ := zero_cells hz
      have h0 := of_decide_eq_true (hc _ (List.mem_cons_self))
      have h1 := of_decide_eq_true (hc _ (List.mem_cons_of_mem _ List.mem_cons_self))
      have hb : (i.bytes : Int) * n ≤ 281474976710656 := by
        rw [hby]
        cases e <;> simp only [E.bytes, E.most] at h1 ⊢ <;> omega
      have h63 : n ≤ 9223372036854775807 := by cases e <;> simp only [E.most] at h1 <;> omega
      have hrun := run_make (P := P) w t et i z hu hi hz1 .i64 .i64 n n h0 (Int.le_refl _) hb h63
      have hzs : z.cells.size = e.sz := by rw [hz2]; simp
      have hp := esz_pos e
      obtain ⟨loc', h3, h4, h5, h6⟩ := freshRow (S1 := noFp) (l := List.replicate n.toNat e.zero) (ips := ⟨fun _ => ⟨none, 0, 0, none⟩, none⟩) (c := madeCells z.cells (n.toNat * i.size)) (ty := et) (cap := n.toNat) H hid (Frame.refl _ w) rfl (fun j u hj => by
          rw [flat_replicate] at hj
          obtain ⟨hlt, rfl⟩ := List.getElem?_eq_some_iff.1 hj
          simp at hlt
          have hlt' : j < n.toNat * e.sz := by simpa using hlt
          unfold madeCells
          rw [Array.getElem?_map, Array.getElem?_range, if_pos (by rw [hsz]; exact hlt')]
          simp only [Option.map_some, hzs]
          congr 1
          have hj2 : j % e.sz < e.sz := Nat.mod_lt _ hp
          have key : ∀ (m : Nat) (b : List Value) (q r : Nat), q < m → r < b.length → (List.replicate m b).flatten[q * b.length + r]? = b[r]? := by
            intro m
            induction m with
            | zero => intro b q r h; omega
            | succ m ih =>
              intro b q r hq hr
              rw [List.replicate_succ, List.flatten_cons]
              cases q with
              | zero => rw [Nat.zero_mul, Nat.zero_add, List.getElem?_append_left hr]
              | succ q =>
                rw [List.getElem?_append_right (by rw [Nat.add_mul]; omega), show (q + 1) * b.length + r - b.length = q * b.length + r by rw [Nat.add_mul]; omega]
                exact ih b q r (by omega) hr
          have hdiv : j / e.sz < n.toNat := (Nat.div_lt_iff_lt_mul hp).2 hlt'
          have hkk : j / e.sz * e.sz + j % e.sz = j := by rw [Nat.mul_comm]; exact Nat.div_add_mod j e.sz
          have hk := key n.toNat ((List.range e.sz).map (elV e e.zero ⟨none, 0, 0, none⟩)) (j / e.sz) (j % e.sz) hdiv (by simpa using hj2)
          simp only [List.length_map, List.length_range, hkk] at hk
          rw [List.getElem?_eq_getElem (by simpa using hlt), List.getElem?_eq_getElem (by simpa using hj2)] at hk
          rw [Option.some.inj hk]
          rw [getElem!_pos z.cells (j % e.sz) (by rw [hzs]; exact hj2)]
          simp [hz2]) (by simp) (by rw [size_madeCells, hsz]; exact Nat.le_refl _) (ip0_inner w none e n.toNat) (fun b hb => by obtain ⟨_, i, _, o, h⟩ := hb; cases h) (fun _ _ _ h => h) (fun _ _ h => h.elim)
      refine ⟨_, _, hrun, Done.ext h3 rfl ?_ h4 (fun b o h => h.imp_right fun h => by omega) h6⟩
      rw [List.length_replicate] at h5
      exact CRel_of_SRel h5
    · cases h
  · cases h

/-! ### parts of a struct, elements of a row -/

theorem foldl_sets (vs : List Value) : ∀ (n off : Nat) (cells : Array Value), off + n + vs.length ≤ cells.size →
    ((vs.zipIdx n).foldl (fun cs (p : Value × Nat) => cs.setIfInBounds (off + p.2) p.1) cells).toList = cells.toList.take (off + n) ++ vs ++ cells.toList.drop (off + n + vs.length) := by
  induction vs with
  | nil => intro n off cells h; simp
  | cons v vs ih =>
    intro n off cells h
    simp only [List.zipIdx_cons, List.foldl_cons]
    have hl : off + n < cells.size := by simp at h; omega
    rw [ih (n + 1) off _ (by simp at h ⊢; omega)]
    have hset : (cells.setIfInBounds (off + n) v).toList = cells.toList.take (off + n) ++ v :: cells.toList.drop (off + n + 1) := by
      rw [Array.toList_setIfInBounds, List.set_eq_take_append_cons_drop, if_pos (by simpa using hl)]
    have hlt : (cells.toList.take (off + n)).length = off + n := by simp; omega
    rw [hset]
    have e1 : (cells.toList.take (off + n) ++ v :: cells.toList.drop (off + n + 1)).take (off + (n + 1)) = cells.toList.take (off + n) ++ [v] := by
      rw [List.take_append, hlt, List.take_of_length_le (by omega), show off + (n + 1) - (off + n) = 1 by omega]
      rfl
    have e2 : (cells.toList.take (off + n) ++ v :: cells.toList.drop (off + n + 1)).drop (off + (n + 1) + vs.length) = cells.toList.drop (off + n + (v :: vs).length) := by
      rw [List.drop_append, hlt, List.drop_of_length_le (by omega), show off + (n + 1) + vs.length - (off + n) = vs.length + 1 by omega]
      simp only [List.nil_append, List.drop_succ_cons, List.drop_drop, List.length_cons]
      congr 1
      omega
    rw [e1, e2]
    simp

theorem fill_cons {place : Nat → Option (Nat × Nat)} {cells : Array Value} {i : Nat} {v : Value} {rest : List (Nat × Value)} {off size : Nat} {vs : List Value} (hp : place i = some (off, size)) (hv : v.cells = vs.toArray) (hl : vs.length = size) (hle : off + size ≤ cells.size) :
    Instr.fill place cells ((i, v) :: rest) = Instr.fill place (cells.toList.take off ++ vs ++ cells.toList.drop (off + vs.length)).toArray rest := by
  simp only [Instr.fill, hp, hv]
  rw [if_neg (by simp [hl]; omega)]
  congr 1
  have := foldl_sets vs 0 off cells (by omega)
  apply Array.ext'
  simp only [Nat.add_zero] at this
  rw [← this, ← Array.foldl_toList]
  simp

def PRels (loc : Loc) : List (Nat × TV) → List (Nat × Value) → Prop
  | [], [] => True | (i, x) :: xs, (j, v) :: vs => i = j ∧ TRel loc x v ∧ PRels loc xs vs | _, _ => False

theorem fillF_ok {P : Program} {loc : Loc} {fs : List Field} {place : Nat → Option (Nat × Nat)} (hplace : ∀ i f, fs[i]? = some f → place i = some (f.offset, P.cellsOf f.type)) : ∀ {parts : List (Nat × TV)} {vparts : List (Nat × Value)} {cs cs' : List SV} {vs : List Value},
    fillF P fs cs parts = some cs' → PRels loc parts vparts → Rels loc cs vs → ∃ vs', Instr.fill place vs.toArray vparts = some vs'.toArray ∧ Rels loc cs' vs'
  | [], [], cs, cs', vs, h, _, hr => by simp only [fillF, Option.some.injEq] at h; subst h; exact ⟨vs, rfl, hr⟩
  | [], _ :: _, _, _, _, _, hp, _ => hp.elim
  | _ :: _, [], _, _, _, _, hp, _ => by cases hp
  | (i, x) :: parts, (j, v) :: vparts, cs, cs', vs, h, hp, hr => by
    obtain ⟨rfl, hx, hp⟩ := hp
    simp only [fillF] at h
    split at h
    · rename_i f ws hf hw
      cases hb : (Nat.beq ws.length (P.cellsOf f.type) && Nat.ble (f.offset + ws.length) cs.length) with
      | false => rw [hb] at h; cases h
      | true =>
        rw [hb, cond_true] at h
        simp only [Bool.and_eq_true] at hb
        have hl := Nat.eq_of_beq_eq_true hb.1
        have hle := Nat.le_of_ble_eq_true hb.2
        obtain ⟨us, hu, hru, _⟩ := cellsOf_ok hw hx
        have hlu := hru.len
        have hlen := hr.len
        rw [fill_cons (hplace i f hf) hu (by omega) (by simp; omega)]
        refine fillF_ok hplace h hp ?_
        unfold setsAt
        rw [hlu]
        exact ((hr.take f.offset).append hru).append (hr.drop _)
    · cases h

theorem PRels_of {loc : Loc} {st : St} {a : Act} (h : ∀ t, TRel loc (st.tmps t) (a.tmps.getD t undef)) : ∀ (l : List (Nat × Operand)), PRels loc (pairsEv st l) (l.map fun (i, x) => (i, a.eval x))
  | [] => trivial
  | (i, x) :: r => ⟨rfl, ev_ok h x, PRels_of h r⟩

theorem fields_run {P : Program} (w : World) : ∀ (fs : List Field), fieldsOk P fs = true → (fs.mapM (m := Sem) fun f => do pure (f.offset, ← sizeOf f.type)).run P w = .ok (fs.map fun f => (f.offset, P.cellsOf f.type)) w
  | [], _ => by simp
  | f :: r, h => by
    simp only [fieldsOk, Bool.and_eq_true] at h
    have hi : ∃ i, P.info? f.type = some i := by
      have := h.1
      unfold hasT at this
      split at this
      · rename_i i hi; exact ⟨i, hi⟩
      · cases this
    obtain ⟨i, hi⟩ := hi
    simp only [List.mapM_cons, Sem.run_bind, run_sizeOf hi, Result.andThen_ok, Sem.run_pure, fields_run w r h.2, List.map_cons]

theorem build_ok {P : Program} {loc : Loc} {w : World} {t : TypeId} {fs : Array Field} {cs cs' : List SV} {parts : List (Nat × TV)} {vparts : Array (Nat × Value)} (hu : P.underlying t = some (.struct fs)) (hz : zeroCells P t = some cs)
    (h : fillF P fs.toList cs parts = some cs') (hp : PRels loc parts vparts.toList) (hT : fieldsOk P fs.toList = true) : ∃ vs, (Instr.build t vparts).run P w = .ok (.agg vs.toArray) w ∧ Rels loc cs' vs := by
  unfold zeroCells at hz
  split at hz
  · rename_i i hi
    split at hz
    · rename_i zs hzz
      cases hb : okL (zs.toList.map constS) with
      | false => rw [hb] at hz; cases hz
      | true =>
        rw [hb, cond_true, Option.some.injEq] at hz
        subst hz
        have hm : (fs.mapM (m := Sem) fun f => do pure (f.offset, ← sizeOf f.type)).run P w = .ok (fs.map fun f => (f.offset, P.cellsOf f.type)) w := by
          rw [Array.mapM_eq_mapM_toList, Sem.run_map, fields_run w fs.toList hT, Result.andThen_ok]
          congr 1
          apply Array.ext'
          simp
        obtain ⟨vs', h1, h2⟩ := fillF_ok (P := P) (loc := loc) (fs := fs.toList) (place := fun i => (fs.map fun f => (f.offset, P.cellsOf f.type))[i]?) (fun i f hf => by
          have : fs[i]? = some f := by simpa using hf
          simp [this]) h hp (constS_all loc zs.toList)
        refine ⟨vs', ?_, h2⟩
        simp only [Array.toArray_toList] at h1
        have h1' : Instr.fill (fun x => (fs.map fun f => (f.offset, P.cellsOf f.type))[x]?) zs vparts.toList = some vs'.toArray := h1
        simp only [Instr.build, Sem.run_bind, zeroValue, typeInfo, hi, run_program, Result.andThen_ok, hzz, Sem.run_pure, run_underlying hu, hm, Value.cells]
        rw [h1']
        rfl
    · cases hz
  · cases hz

end Go.Tev
