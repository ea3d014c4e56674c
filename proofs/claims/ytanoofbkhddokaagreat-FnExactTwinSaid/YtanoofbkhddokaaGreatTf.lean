/- An evaluator of Go functions on plain values: what is handed over reads as it did. Lemmas; no condition beyond those that each states. -/
import Derived.Test.YtanoofbkhddokaaGreatTe
set_option linter.unusedSimpArgs false
set_option linter.unusedVariables false
namespace Go.Tev

/-! ### what is handed over, in memory -/

/-- a leaf in memory: what is its own lies in S, what it is lent in L -/
def LfRel (w : World) : (t : LT) → t.D → Value → Fp → (Nat → Prop) → Prop
  | .int k, (n : Int), v, _, _ => v = .int k n
  | .bool, (b : Bool), v, _, _ => v = .bool b
  | .str, (s : ByteArray), v, _, _ => v = .string s
  | .fn f, _, v, _, _ => v = .func (.func f) #[] #[]
  | .mb e, x, v, S, _ => match (x : Option (List e.C)) with
    | some l => ∃ a cap ips, v = slV a ips.q (List.length (α := e.C) l) cap ∧ RowAt w true e a cap l ips ∧ ∀ b, plBlk a (List.length (α := e.C) l) e ips b → ∀ o, S b o
    | none => v.oneCell' = true
  | .sl true e, l, v, S, _ => ∃ a cap ips, v = slV a ips.q (List.length (α := e.C) l) cap ∧ RowAt w true e a cap l ips ∧ ∀ b, plBlk a (List.length (α := e.C) l) e ips b → ∀ o, S b o
  | .sl false e, l, v, _, L => ∃ a cap ips, v = slV a ips.q (List.length (α := e.C) l) cap ∧ RowAt w false e a cap l ips ∧ ∀ b, lnBlk a (List.length (α := e.C) l) e ips b → L b

def Dis (S S' : Fp) : Prop := ∀ b o, S b o → ¬ S' b o
def Sub2 (S S' : Fp) : Prop := ∀ b o, S b o → S' b o

def LsRel (w : World) : (ts : List LT) → Tup ts → List Value → Fp → (Nat → Prop) → Prop
  | [], _, [], _, _ => True
  | t :: ts, x, v :: vs, S, L => ∃ S1 S2, LfRel w t x.1 v S1 L ∧ LsRel w ts x.2 vs S2 L ∧ Dis S1 S2 ∧ Sub2 S1 S ∧ Sub2 S2 S
  | _, _, _, _, _ => False

/-- cells in memory -/
def CellsAt (w : World) (b o : Nat) (cs : List Value) : Prop := ∀ j, (h : j < cs.length) → w.cell? (adr (b, o + j)) = some cs[j]

def rng (b o n : Nat) : Fp := fun b' o' => b' = b ∧ o ≤ o' ∧ o' < o + n

def TyRel (w : World) : (t : Ty) → t.D → Value → Fp → (Nat → Prop) → Prop
  | .v t, x, v, S, L => LfRel w t x v S L
  | .a ts, x, v, S, L => ∃ cs : List Value, v = .agg cs.toArray ∧ LsRel w ts x cs S L
  | .p ts, x, v, S, L => ∃ b o cs S1, v = .pointer (some (adr (b, o))) ∧ OwnB w b (o + ts.length) ∧ cs.length = ts.length ∧ CellsAt w b o cs ∧
      LsRel w ts x cs S1 L ∧ Sub2 S1 S ∧ Sub2 (rng b o ts.length) S ∧ Dis S1 (rng b o ts.length)
  | .r ts, x, v, S, L => ∃ b o cs, v = .pointer (some (adr (b, o))) ∧ cs.length = ts.length ∧ CellsAt w b o cs ∧ LsRel w ts x cs S L ∧ L b

def TysRel (w : World) : (ts : List Ty) → PTup ts → List Value → Fp → (Nat → Prop) → Prop
  | [], _, [], _, _ => True
  | t :: ts, x, v :: vs, S, L => ∃ S1 S2, TyRel w t x.1 v S1 L ∧ TysRel w ts x.2 vs S2 L ∧ Dis S1 S2 ∧ Sub2 S1 S ∧ Sub2 S2 S
  | _, _, _, _, _ => False

/-! ### parts of rows -/

theorem InAt.lend {w : World} {ow : Bool} {l : List Int} {p : IP} (h : InAt w ow l p) : InAt w false l p :=
  ⟨h.1, h.2.1, h.2.2.1, fun b o e => ⟨(h.2.2.2 b o e).1, fun h => by cases h⟩⟩

theorem RowAt.lend {w : World} {ow : Bool} {e : E} {a : Option (Nat × Nat)} {cap : Nat} {l : List e.C} {ips : Ips} (h : RowAt w ow e a cap l ips) : RowAt w false e a cap l ips := by
  obtain ⟨h1, h2, h3, h4⟩ := h
  refine ⟨h1, h2, fun b o ea => ⟨(h3 b o ea).1, fun h => by cases h⟩, ?_⟩
  cases e with
  | n => exact ⟨fun i hi => (h4.1 i hi).lend, fun h => by cases h⟩
  | _ => trivial

theorem RowAt.take {w : World} {ow : Bool} {e : E} {a : Option (Nat × Nat)} {cap : Nat} {l : List e.C} {ips : Ips} (h : RowAt w ow e a cap l ips) (n : Nat) : RowAt w ow e a cap (l.take n) ips := by
  obtain ⟨h1, h2, h3, h4⟩ := h
  have hle : (l.take n).length ≤ l.length := by simp; omega
  refine ⟨by omega, h2, fun b o ea => ⟨fun i hi j hj => ?_, (h3 b o ea).2⟩, ?_⟩
  · rw [(h3 b o ea).1 i (by omega) j hj]
    congr 2
    simp
  · cases e with
    | n =>
      refine ⟨fun i hi => ?_, fun ho => ⟨fun i j hi hj => (h4.2 ho).1 i j (by omega) (by omega), fun i hi => (h4.2 ho).2 i (by omega)⟩⟩
      have := h4.1 i (by omega)
      rw [List.getElem_take]
      exact this
    | _ => trivial

theorem esz_pos (e : E) : 0 < e.sz := by cases e <;> decide

theorem RowAt.drop {w : World} {ow : Bool} {e : E} {a : Option (Nat × Nat)} {cap : Nat} {l : List e.C} {ips : Ips} (h : RowAt w ow e a cap l ips) (k : Nat) (hk : k ≤ l.length) :
    RowAt w ow e (if cap = k then a else a.map fun p => (p.1, p.2 + k * e.sz)) (cap - k) (l.drop k) ⟨fun i => ips (i + k), ips.q⟩ := by
  obtain ⟨h1, h2, h3, h4⟩ := h
  have hl : (l.drop k).length = l.length - k := List.length_drop
  refine ⟨by omega, ?_, ?_, ?_⟩
  · intro hn
    have : a = none := by
      by_cases hc : cap = k
      · rw [if_pos hc] at hn; exact hn
      · rw [if_neg hc] at hn; cases a <;> simp at hn; rfl
    have := h2 this
    exact ⟨by omega, this.2⟩
  · intro b o ea
    by_cases hc : cap = k
    · rw [if_pos hc] at ea
      obtain ⟨_, g2⟩ := h3 b o ea
      refine ⟨fun i hi => by omega, fun ho => ?_⟩
      obtain ⟨c, ty, e1, e2⟩ := g2 ho
      exact ⟨c, ty, e1, by rw [show cap - k = 0 by omega]; omega⟩
    · rw [if_neg hc] at ea
      cases a with
      | none => simp at ea
      | some p =>
        simp only [Option.map_some, Option.some.injEq, Prod.mk.injEq] at ea
        obtain ⟨g1, g2⟩ := h3 p.1 p.2 rfl
        obtain ⟨rfl, rfl⟩ := ea
        refine ⟨fun i hi j hj => ?_, fun ho => ?_⟩
        · have := g1 (i + k) (by omega) j hj
          rw [show p.2 + k * e.sz + i * e.sz + j = p.2 + (i + k) * e.sz + j by rw [Nat.add_mul]; omega, this]
          congr 2
          rw [List.getElem_drop]; congr 1; omega
        · obtain ⟨c, ty, e1, e2⟩ := g2 ho
          refine ⟨c, ty, e1, ?_⟩
          have : k * e.sz + (cap - k) * e.sz = cap * e.sz := by rw [← Nat.add_mul]; congr 1; omega
          omega
  · have hout : (Option.map (·.1) (if cap = k then a else a.map fun p => (p.1, p.2 + k * e.sz))) = a.map (·.1) := by
      split
      · rfl
      · cases a <;> rfl
    rw [hout]
    cases e with
    | n =>
      refine ⟨fun i hi => ?_, fun ho => ⟨fun i j hi hj hne => (h4.2 ho).1 (i + k) (j + k) (by omega) (by omega) (by omega), fun i hi => (h4.2 ho).2 (i + k) (by omega)⟩⟩
      have := h4.1 (i + k) (by omega)
      rw [List.getElem_drop]
      simpa [Nat.add_comm] using this
    | _ => trivial

theorem plBlk_drop {a : Option (Nat × Nat)} {cap len : Nat} {e : E} {ips : Ips} {k b : Nat} (hk : k ≤ len)
    (h : plBlk (if cap = k then a else a.map fun p => (p.1, p.2 + k * e.sz)) (len - k) e ⟨fun i => ips (i + k), ips.q⟩ b) : plBlk a len e ips b := by
  rcases h with ⟨o, h⟩ | ⟨he, i, hi, o, h⟩
  · left
    by_cases hc : cap = k
    · rw [if_pos hc] at h; exact ⟨o, h⟩
    · rw [if_neg hc] at h
      cases a with
      | none => simp at h
      | some p => simp only [Option.map_some, Option.some.injEq, Prod.mk.injEq] at h; exact ⟨p.2, by rw [← h.1]⟩
  · exact .inr ⟨he, i + k, by omega, o, h⟩

theorem lnBlk_drop {a : Option (Nat × Nat)} {cap len : Nat} {e : E} {ips : Ips} {k b : Nat} (hk : k ≤ len)
    (h : lnBlk (if cap = k then a else a.map fun p => (p.1, p.2 + k * e.sz)) (len - k) e ⟨fun i => ips (i + k), ips.q⟩ b) : lnBlk a len e ips b := by
  rcases h with ⟨hl, o, h⟩ | ⟨he, i, hi, hl, o, h⟩
  · left
    refine ⟨by omega, ?_⟩
    by_cases hc : cap = k
    · rw [if_pos hc] at h; exact ⟨o, h⟩
    · rw [if_neg hc] at h
      cases a with
      | none => simp at h
      | some p => simp only [Option.map_some, Option.some.injEq, Prod.mk.injEq] at h; exact ⟨p.2, by rw [← h.1]⟩
  · exact .inr ⟨he, i + k, by omega, hl, o, h⟩

theorem lnBlk_take {a : Option (Nat × Nat)} {n len : Nat} {e : E} {ips : Ips} {b : Nat} (h : lnBlk a (min n len) e ips b) : lnBlk a len e ips b := by
  rcases h with ⟨hl, h⟩ | ⟨he, i, hi, h⟩
  · exact .inl ⟨by omega, h⟩
  · exact .inr ⟨he, i, by omega, h⟩

/-! ### taking -/

/-- what some entry owns -/
def Owned (rows : Rows) (loc : Loc) : Fp := fun b o => ∃ i x, rows i = some x ∧ own loc i x b o

/-- the rows that are still there -/
def KeepX : Row → Option Row → Prop
  | .row o e l, y => y = some (.row o e l) | .rbox cs, y => y = some (.rbox cs) | .box _, y => ∃ cs, y = some (.box cs) | _, _ => True
def SubR (rows rows' : Rows) : Prop := ∀ id x, rows' id = some x → KeepX x (rows id)
theorem KeepX.refl {x : Row} {y : Option Row} (h : y = some x) : KeepX x y := by subst h; cases x <;> first | rfl | trivial | exact ⟨_, rfl⟩
theorem SubR.trans {a b c : Rows} (h : SubR a b) (k : SubR b c) : SubR a c := fun id x hh => by
  have h1 := k id x hh
  cases x with
  | row o e l => exact h id _ h1
  | rbox cs => exact h id _ h1
  | box cs => obtain ⟨cs', e⟩ := h1; exact (h id (.box cs') e : ∃ cs, _)
  | _ => trivial
theorem SubR.refl (a : Rows) : SubR a a := fun _ _ h => KeepX.refl h
/-- with a cell all of its block -/
def BlkFp (S : Fp) : Prop := ∀ b o o', S b o → S b o'

structure Taken (rows rows' : Rows) (loc : Loc) (w : World) (S : Fp) (L : Nat → Prop) (S1 : Fp) : Prop where
  heap : Heap rows' loc w S L
  from_ : Sub2 S1 (Owned rows loc)
  apart : ∀ b o, Owned rows' loc b o → Owned rows loc b o ∧ ¬ S1 b o
  sub : SubR rows rows'
  some : ∀ id, rows id ≠ none → rows' id ≠ none
  none : ∀ id, rows id = Option.none → rows' id = Option.none
  boxes : ∀ id (cs : List SV), rows id = Option.some (.box cs) → ∃ cs' : List SV, rows' id = Option.some (.box cs') ∧ cs'.length = cs.length ∧ ∀ (j : Nat) (c : SV), cs[j]? = Option.some c → ¬ notLent c → cs'[j]? = Option.some c

def noFp : Fp := fun _ _ => False
def orFp (S S' : Fp) : Fp := fun b o => S b o ∨ S' b o

theorem Taken.refl {rows : Rows} {loc : Loc} {w : World} {S : Fp} {L : Nat → Prop} (H : Heap rows loc w S L) : Taken rows rows loc w S L noFp :=
  ⟨H, fun _ _ h => h.elim, fun _ _ h => ⟨h, fun h => h⟩, .refl _, fun _ h => h, fun _ h => h, fun _ cs h => ⟨cs, h, rfl, fun _ _ h _ => h⟩⟩

theorem Taken.trans {r0 r1 r2 : Rows} {loc : Loc} {w : World} {S S1 S2 : Fp} {L : Nat → Prop} (h : Taken r0 r1 loc w S L S1) (k : Taken r1 r2 loc w S L S2) :
    Taken r0 r2 loc w S L (orFp S1 S2) ∧ Dis S1 S2 :=
  ⟨⟨k.heap, fun b o hb => hb.elim (h.from_ b o) (fun hb => (h.apart b o (k.from_ b o hb)).1),
    fun b o hb => ⟨(h.apart b o (k.apart b o hb).1).1, fun hs => hs.elim (h.apart b o (k.apart b o hb).1).2 (k.apart b o hb).2⟩,
    h.sub.trans k.sub, fun id hh => k.some id (h.some id hh), fun id hh => k.none id (h.none id hh),
    fun id cs hh => by
      obtain ⟨c1, e1, l1, g1⟩ := h.boxes id cs hh
      obtain ⟨c2, e2, l2, g2⟩ := k.boxes id c1 e1
      exact ⟨c2, e2, l2.trans l1, fun j c hc hn => g2 j c (g1 j c hc hn) hn⟩⟩,
   fun b o h1 h2 => (h.apart b o (k.from_ b o h2)).2 h1⟩

/-- what is lent, of what the caller has and keeps -/
def lentL1 (np : Bool) (L : Nat → Prop) (loc : Loc) (rowsF : Rows) (b : Nat) : Prop :=
  L b ∨ (∃ id e l, rowsF id = some (.row true e l) ∧ own loc id (.row true e l) b 0) ∨ (np = true ∧ ∃ id cs, rowsF id = some (.box cs) ∧ ∃ o, own loc id (.box cs) b o)

theorem noFp_blk : BlkFp noFp := fun _ _ _ h => h.elim
theorem orFp_blk {S S' : Fp} (h : BlkFp S) (k : BlkFp S') : BlkFp (orFp S S') := fun b o o' x => x.imp (h b o o') (k b o o')
theorem row_blk (loc : Loc) (id : Nat) (ow : Bool) (e : E) (l : List e.C) : BlkFp (own loc id (.row ow e l)) := by cases ow <;> exact fun _ _ _ h => h

theorem castC_some {e e' : E} {l : List e.C} {l' : List e'.C} (h : castC e e' l = some l') : e = e' ∧ HEq l' l := by
  cases e <;> cases e' <;> simp only [castC] at h <;> first
    | (cases h; exact ⟨rfl, HEq.rfl⟩)
    | (cases h; done)

theorem kindSame_eq {k k' : IntKind} (h : kindSame k k' = true) : k = k' := by
  cases k <;> cases k' <;> first | rfl | (simp [kindSame] at h)

/-- a slice that came to its contents -/
theorem sliceOf_ok {rows : Rows} {loc : Loc} {w : World} {S : Fp} {L : Nat → Prop} (H : Heap rows loc w S L) {e : E} {sv : SV} {l : List e.C} {io : Option (Nat × Bool)} {v : Value}
    (h : sliceOf rows e sv = some (l, io)) (hv : SRel loc sv v) :
    (io = none ∧ l = [] ∧ v = .slice none 0 0) ∨
    ∃ id o e' row ow a cap ips, io = some (id, o) ∧ rows id = some (.row ow e' row) ∧ v = slV a ips.q l.length cap ∧ RowAt w ow e a cap l ips ∧ (o = true → ow = true) ∧
      (∀ b, plBlk a l.length e ips b → ow = true → own loc id (.row ow e' row) b 0) ∧ (∀ b, lnBlk a l.length e ips b → ow = false → lentTo loc id (.row ow e' row) b) := by
  have main : ∀ id ow e' row, rows id = some (.row ow e' row) → ∃ a cap ips, loc id = some (.row a cap row.length e' ips) ∧ RowAt w ow e' a cap row ips ∧
      (∀ b, plBlk a row.length e' ips b → ow = true → own loc id (.row ow e' row) b 0) ∧ (∀ b, lnBlk a row.length e' ips b → ow = false → lentTo loc id (.row ow e' row) b) := by
    intro id ow e' row hr
    obtain ⟨a, cap, ips, el, k⟩ := H.ok id _ hr
    refine ⟨a, cap, ips, el, k, fun b hb ho => ?_, fun b hb ho => ?_⟩
    · subst ho; exact ⟨a, cap, _, e', ips, el, hb⟩
    · subst ho; exact ⟨a, cap, _, e', ips, el, hb⟩
  cases sv with
  | nil =>
    simp only [sliceOf, Option.some.injEq, Prod.mk.injEq] at h
    exact .inl ⟨h.2.symm, h.1.symm, hv⟩
  | slf id =>
    simp only [sliceOf] at h
    split at h
    · rename_i ow e' row hr
      split at h
      · rename_i l' hc
        simp only [Option.some.injEq, Prod.mk.injEq] at h
        obtain ⟨rfl, rfl⟩ := h
        obtain ⟨rfl, hl⟩ := castC_some hc
        obtain rfl := eq_of_heq hl
        obtain ⟨a, cap, ips, el, k, k1, k2⟩ := main _ _ _ _ hr
        obtain ⟨a', cap', len', e', ips', el', rfl⟩ := hv
        rw [el] at el'
        simp only [Option.some.injEq, Pl.row.injEq] at el'
        obtain ⟨rfl, rfl, rfl, rfl, rfl⟩ := el'
        exact .inr ⟨id, ow, _, _, ow, a, cap, ips, rfl, hr, rfl, k, fun h => h, k1, k2⟩
      · cases h
    · cases h
  | sld id o =>
    simp only [sliceOf] at h
    split at h
    · rename_i ow e' row hr
      split at h
      · rename_i l' hc
        simp only [Option.some.injEq, Prod.mk.injEq] at h
        obtain ⟨rfl, rfl⟩ := h
        obtain ⟨rfl, hl⟩ := castC_some hc
        obtain rfl := eq_of_heq hl
        obtain ⟨a, cap, ips, el, k, k1, k2⟩ := main _ _ _ _ hr
        obtain ⟨a', cap', len', e', ips', el', ho, hle, rfl⟩ := hv
        rw [el] at el'
        simp only [Option.some.injEq, Pl.row.injEq] at el'
        obtain ⟨rfl, rfl, rfl, rfl, rfl⟩ := el'
        refine .inr ⟨id, ow, _, _, ow, _, _, _, rfl, hr, ?_, k.drop o.toNat hle, fun h => h, fun b hb => k1 b (plBlk_drop (cap := cap) hle ?_), fun b hb => k2 b (lnBlk_drop (cap := cap) hle ?_)⟩
        · rw [List.length_drop]
        · rw [List.length_drop] at hb; exact hb
        · rw [List.length_drop] at hb; exact hb
      · cases h
    · cases h
  | slt id n =>
    simp only [sliceOf] at h
    split at h
    · rename_i ow e' row hr
      split at h
      · rename_i l' hc
        simp only [Option.some.injEq, Prod.mk.injEq] at h
        obtain ⟨rfl, rfl⟩ := h
        obtain ⟨rfl, hl⟩ := castC_some hc
        obtain rfl := eq_of_heq hl
        obtain ⟨a, cap, ips, el, k, k1, k2⟩ := main _ _ _ _ hr
        obtain ⟨a', cap', len', e', ips', el', ho, hle, rfl⟩ := hv
        rw [el] at el'
        simp only [Option.some.injEq, Pl.row.injEq] at el'
        obtain ⟨rfl, rfl, rfl, rfl, rfl⟩ := el'
        have hl : (List.take n.toNat l').length = n.toNat := by rw [List.length_take]; omega
        refine .inr ⟨id, false, _, _, ow, a, cap, ips, rfl, hr, by rw [hl], k.take n.toNat, (fun h => by cases h), fun b hb => k1 b ?_, fun b hb => k2 b (lnBlk_take (n := n.toNat) ?_)⟩
        · rcases hb with hb | ⟨he, i, hi, hb⟩
          · exact .inl hb
          · exact .inr ⟨he, i, by rw [hl] at hi; omega, hb⟩
        · rw [List.length_take] at hb; exact hb
      · cases h
    · cases h
  | nslf id i =>
    cases e with
    | i =>
      simp only [sliceOf] at h
      split at h
      · rename_i ow row hr
        simp only [Option.some.injEq, Prod.mk.injEq] at h
        obtain ⟨rfl, rfl⟩ := h
        obtain ⟨a, cap, ips, el, k, k1, k2⟩ := main _ _ _ _ hr
        obtain ⟨a', cap', len', ips', el', hi0, hi, rfl⟩ := hv
        rw [el] at el'
        simp only [Option.some.injEq, Pl.row.injEq, true_and] at el'
        obtain ⟨rfl, rfl, rfl, rfl⟩ := el'
        have hrd : rdE .n row i = row[i.toNat] := by simp [rdE, hi]
        obtain ⟨g1, g2, g3, g4⟩ := k.2.2.2.1 i.toNat hi
        refine .inr ⟨id, false, .n, row, ow, (ips i.toNat).a, (ips i.toNat).cap, ⟨fun _ => ⟨none, 0, 0, none⟩, (ips i.toNat).q⟩, rfl, hr, ?_, ⟨?_, g3, fun b o ea => ⟨fun j hj j' hj' => ?_, fun ho => ?_⟩, trivial⟩, (fun h => by cases h), fun b hb => k1 b ?_, fun b hb => k2 b ?_⟩
        · rw [hrd, g1]
        · rw [hrd]; exact g2
        · obtain rfl : j' = 0 := by simp [E.sz] at hj'; exact hj'
          have hj2 : j < row[i.toNat].length := by rw [← hrd]; exact hj
          have := (g4 b o ea).1 j hj2
          simp only [E.sz, Nat.mul_one, Nat.add_zero, elV]
          rw [this]
          congr 2
          simp [hrd]
        · simpa [E.sz] using (g4 b o ea).2 ho
        · rcases hb with ⟨o, ho⟩ | ⟨he, _⟩
          · exact .inr ⟨rfl, i.toNat, hi, o, ho⟩
          · cases he
        · rcases hb with ⟨hl, o, ho⟩ | ⟨he, _⟩
          · exact .inr ⟨rfl, i.toNat, hi, by rw [g1]; rw [hrd] at hl; exact hl, o, ho⟩
          · cases he
      · cases h
    | _ => simp [sliceOf] at h
  | _ => simp [sliceOf] at h

theorem Taken.kill {rows : Rows} {loc : Loc} {w : World} {S : Fp} {L : Nat → Prop} (H : Heap rows loc w S L) {id : Nat} {x : Row} (e : rows id = Option.some x) (hx : ∀ cs, x ≠ .box cs) :
    Taken rows (updR rows id .dead) loc w S L (own loc id x) := by
  refine ⟨H.kill id, fun b o h => ⟨id, x, e, h⟩, fun b o ⟨i, y, ey, hy⟩ => ?_, fun j y h => ?_, fun j h => ?_, fun j h => ?_, fun j cs h => ?_⟩
  · by_cases hi : i = id
    · subst hi; rw [updR_self] at ey; cases ey; exact hy.elim
    · rw [updR_other rows _ hi] at ey
      exact ⟨⟨i, y, ey, hy⟩, fun hx => H.sep i id y x hi ey e b o hy hx⟩
  · by_cases hj : j = id
    · subst hj; rw [updR_self] at h; cases h; trivial
    · rw [updR_other rows _ hj] at h; exact .refl h
  · by_cases hj : j = id
    · subst hj; rw [updR_self]; simp
    · rw [updR_other rows _ hj]; exact h
  · by_cases hj : j = id
    · subst hj; rw [h] at e; cases e
    · rw [updR_other rows _ hj]; exact h
  · by_cases hj : j = id
    · subst hj; rw [h] at e; cases e; exact absurd rfl (hx cs)
    · rw [updR_other rows _ hj]; exact ⟨cs, h, rfl, fun _ _ h _ => h⟩

theorem aliveR_mem {np : Bool} {rows : Rows} : ∀ {ls : List Nat}, aliveR np rows ls = true → ∀ id, id ∈ ls → (∃ o e l, rows id = some (.row o e l)) ∨ (∃ cs, rows id = some (.rbox cs)) ∨ ∃ cs, rows id = some (.box cs) ∧ np = true ∧ wholeB cs = true
  | [], _, _, h => by cases h
  | i :: r, h, id, hm => by
    simp only [aliveR] at h
    split at h
    · rename_i o e l hr
      cases hm with
      | head => exact .inl ⟨o, e, l, hr⟩
      | tail _ hm => exact aliveR_mem h id hm
    · rename_i cs hr
      cases hm with
      | head => exact .inr (.inl ⟨cs, hr⟩)
      | tail _ hm => exact aliveR_mem h id hm
    · rename_i cs hr
      simp only [Bool.and_eq_true] at h
      cases hm with
      | head => exact .inr (.inr ⟨cs, hr, h.1, h.2.1⟩)
      | tail _ hm => exact aliveR_mem h.2.2 id hm
    · cases h

theorem wholeB_ok {cs : List SV} (h : wholeB cs = true) : ∃ c r, cs = c :: r ∧ notLent c := by
  cases cs with
  | nil => cases h
  | cons c r => exact ⟨c, r, rfl, by cases c <;> first | trivial | (simp [wholeB] at h)⟩

theorem RowAt_nil (w : World) (ow : Bool) (e : E) : RowAt w ow e none 0 ([] : List e.C) ⟨fun _ => ⟨none, 0, 0, none⟩, none⟩ := by
  refine ⟨Nat.le_refl _, fun _ => ⟨rfl, .inl rfl⟩, (fun _ _ h => by cases h), ?_⟩
  cases e with
  | n => exact ⟨(fun i h => by cases h), fun _ => ⟨(fun i j h => by cases h), (fun i h => by cases h)⟩⟩
  | _ => trivial

theorem okS_one {loc : Loc} {x : SV} {v : Value} (hx : okS x = true) (h : SRel loc x v) : v.oneCell' = true := by
  cases x <;> simp only [SRel] at h <;> first
    | (simp [okS] at hx; done)
    | exact h
    | (subst h; rfl)
    | (obtain ⟨_, _, _, _, rfl⟩ := h; rfl)
    | (obtain ⟨_, _, _, _, _, _, _, _, _, rfl⟩ := h; rfl)
    | (obtain ⟨_, _, _, _, _, _, rfl⟩ := h; rfl)
    | (obtain ⟨_, _, _, _, _, _, _, _, rfl⟩ := h; rfl)

theorem takeL_ok {rows : Rows} {loc : Loc} {w : World} {S : Fp} {L : Nat → Prop} (H : Heap rows loc w S L) {t : LT} {sv : SV} {x : t.D} {us : Us} {ls : List Nat} {v : Value}
    (h : takeL rows t sv = some (x, us, ls)) (hv : SRel loc sv v) :
    ∃ S1, Taken rows (appR rows us) loc w S L S1 ∧ BlkFp S1 ∧ ∀ np rowsF, SubR (appR rows us) rowsF → aliveR np rowsF ls = true → LfRel w t x v S1 (lentL1 np L loc rowsF) := by
  cases t with
  | int k =>
    cases sv <;> simp only [takeL] at h <;> first | (cases h; done) | skip
    rename_i k' n
    cases hk : kindSame k k' with
    | false => rw [hk] at h; cases h
    | true =>
      rw [hk] at h
      simp only [cond_true, Option.some.injEq, Prod.mk.injEq] at h
      obtain ⟨rfl, rfl, rfl⟩ := h
      obtain rfl := kindSame_eq hk
      exact ⟨noFp, .refl H, noFp_blk, fun _ _ _ _ => hv⟩
  | bool =>
    cases sv <;> simp only [takeL] at h <;> first | (cases h; done) | skip
    simp only [Option.some.injEq, Prod.mk.injEq] at h
    obtain ⟨rfl, rfl, rfl⟩ := h
    exact ⟨noFp, .refl H, noFp_blk, fun _ _ _ _ => hv⟩
  | str =>
    cases sv <;> simp only [takeL] at h <;> first | (cases h; done) | skip
    simp only [Option.some.injEq, Prod.mk.injEq] at h
    obtain ⟨rfl, rfl, rfl⟩ := h
    exact ⟨noFp, .refl H, noFp_blk, fun _ _ _ _ => hv⟩
  | fn f =>
    cases sv <;> simp only [takeL] at h <;> first | (cases h; done) | skip
    rename_i f'
    cases hk : Nat.beq f f' with
    | false => rw [hk] at h; cases h
    | true =>
      rw [hk] at h
      simp only [cond_true, Option.some.injEq, Prod.mk.injEq] at h
      obtain ⟨_, rfl, rfl⟩ := h
      obtain rfl := Nat.eq_of_beq_eq_true hk
      exact ⟨noFp, .refl H, noFp_blk, fun _ _ _ _ => hv⟩
  | mb e =>
    have hu : sv ≠ .undef := by rintro rfl; simp [takeL] at h
    have h' : (match sliceOf rows e sv with
      | some (l, none) => some (some l, [], [])
      | some (l, some (id, o)) => bif o then some (some l, [(id, .dead)], []) else none
      | none => bif okS sv then some (none, [], []) else none) = some (x, us, ls) := by
      cases sv <;> first | exact h | exact absurd rfl hu
    clear h
    split at h'
    · rename_i l hs
      simp only [Option.some.injEq, Prod.mk.injEq] at h'
      obtain ⟨rfl, rfl, rfl⟩ := h'
      rcases sliceOf_ok H hs hv with ⟨_, rfl, rfl⟩ | ⟨id, o, e', row, ow', a, cap, ips, hio, _⟩
      · exact ⟨noFp, .refl H, noFp_blk, fun _ _ _ _ => ⟨none, 0, ⟨fun _ => ⟨none, 0, 0, none⟩, none⟩, rfl, RowAt_nil w true e, fun b hb o => by rcases hb with ⟨_, h⟩ | ⟨_, i, hi, _⟩ <;> first | cases h | cases hi⟩⟩
      · cases hio
    · rename_i l id o hs
      rcases sliceOf_ok H hs hv with ⟨hio, _, _⟩ | ⟨id', o', e', row, ow', a, cap, ips, hio, hr, rfl, hat, hown, k1, k2⟩
      · cases hio
      · simp only [Option.some.injEq, Prod.mk.injEq] at hio
        obtain ⟨rfl, rfl⟩ := hio
        cases o with
        | false => cases h'
        | true =>
          simp only [cond_true, Option.some.injEq, Prod.mk.injEq] at h'
          obtain ⟨rfl, rfl, rfl⟩ := h'
          obtain rfl := hown rfl
          exact ⟨own loc id (.row true e' row), .kill H hr (fun cs h => by cases h), row_blk _ _ _ _ _, fun _ _ _ _ => ⟨a, cap, ips, rfl, hat, fun b hb _ => k1 b hb rfl⟩⟩
    · cases hk : okS sv with
      | false => rw [hk] at h'; cases h'
      | true =>
        rw [hk, cond_true] at h'
        simp only [Option.some.injEq, Prod.mk.injEq] at h'
        obtain ⟨rfl, rfl, rfl⟩ := h'
        exact ⟨noFp, .refl H, noFp_blk, fun _ _ _ _ => okS_one hk hv⟩
  | sl ow e =>
    have h' : (match sliceOf rows e sv with
      | some (l, none) => some (l, [], [])
      | some (l, some (id, o)) => bif ow then (bif o then some (l, [(id, .dead)], []) else none) else some (l, [], [id])
      | none => none) = some (x, us, ls) := by
      cases sv <;> exact h
    clear h
    split at h'
    · rename_i l hs
      simp only [Option.some.injEq, Prod.mk.injEq] at h'
      obtain ⟨rfl, rfl, rfl⟩ := h'
      rcases sliceOf_ok H hs hv with ⟨_, rfl, rfl⟩ | ⟨id, o, e', row, ow', a, cap, ips, hio, _⟩
      · refine ⟨noFp, .refl H, noFp_blk, fun _ _ _ _ => ?_⟩
        cases ow with
        | true => exact ⟨none, 0, ⟨fun _ => ⟨none, 0, 0, none⟩, none⟩, rfl, RowAt_nil w true e, fun b hb o => by rcases hb with ⟨_, h⟩ | ⟨_, i, hi, _⟩ <;> first | cases h | cases hi⟩
        | false => exact ⟨none, 0, ⟨fun _ => ⟨none, 0, 0, none⟩, none⟩, rfl, RowAt_nil w false e, fun b hb => by rcases hb with ⟨_, _, h⟩ | ⟨_, i, hi, _⟩ <;> first | cases h | cases hi⟩
      · cases hio
    · rename_i l id o hs
      rcases sliceOf_ok H hs hv with ⟨hio, _, _⟩ | ⟨id', o', e', row, ow', a, cap, ips, hio, hr, rfl, hat, hown, k1, k2⟩
      · cases hio
      · simp only [Option.some.injEq, Prod.mk.injEq] at hio
        obtain ⟨rfl, rfl⟩ := hio
        cases ow with
        | true =>
          cases o with
          | false => cases h'
          | true =>
            simp only [cond_true, Option.some.injEq, Prod.mk.injEq] at h'
            obtain ⟨rfl, rfl, rfl⟩ := h'
            obtain rfl := hown rfl
            exact ⟨own loc id (.row true e' row), .kill H hr (fun cs h => by cases h), row_blk _ _ _ _ _, fun _ _ _ _ => ⟨a, cap, ips, rfl, hat, fun b hb _ => k1 b hb rfl⟩⟩
        | false =>
          simp only [cond_false, Option.some.injEq, Prod.mk.injEq] at h'
          obtain ⟨rfl, rfl, rfl⟩ := h'
          refine ⟨noFp, .refl H, noFp_blk, fun np rowsF hsub hal => ⟨a, cap, ips, rfl, hat.lend, fun b hb => ?_⟩⟩
          cases ow' with
          | false => exact .inl (H.inL id _ hr b (k2 b hb rfl))
          | true =>
            rcases aliveR_mem hal id (List.mem_singleton.2 rfl) with ⟨oF, eF, lF, hF⟩ | ⟨cs, hF⟩ | ⟨cs, hF, _⟩
            · have hF2 : rows id = _ := hsub id _ hF
              rw [hr] at hF2
              rw [← hF2] at hF
              exact .inr (.inl ⟨id, e', row, hF, k1 b hb.pl rfl⟩)
            · have hF2 : rows id = _ := hsub id _ hF
              rw [hr] at hF2
              cases hF2
            · obtain ⟨cs', hF2⟩ : ∃ cs', rows id = _ := hsub id _ hF
              rw [hr] at hF2
              cases hF2
    · cases h'

theorem appR_append (rows : Rows) : ∀ (us us' : Us), appR rows (us ++ us') = appR (appR rows us) us'
  | [], _ => rfl
  | (i, x) :: us, us' => appR_append (updR rows i x) us us'

theorem aliveR_append {np : Bool} {rows : Rows} : ∀ {a b : List Nat}, aliveR np rows (a ++ b) = true → aliveR np rows a = true ∧ aliveR np rows b = true
  | [], _, h => ⟨rfl, h⟩
  | i :: r, b, h => by
    simp only [List.cons_append, aliveR] at h ⊢
    split at h
    · exact aliveR_append h
    · exact aliveR_append h
    · simp only [Bool.and_eq_true] at h ⊢
      have := aliveR_append h.2.2
      exact ⟨⟨h.1, h.2.1, this.1⟩, this.2⟩
    · cases h

theorem LfRel.mono {w : World} {t : LT} {x : t.D} {v : Value} {S S' : Fp} {L L' : Nat → Prop} (h : LfRel w t x v S L) (hs : Sub2 S S') (hl : ∀ b, L b → L' b) : LfRel w t x v S' L' := by
  cases t with
  | sl ow e =>
    cases ow with
    | true => obtain ⟨a, cap, ips, h1, h2, h3⟩ := h; exact ⟨a, cap, ips, h1, h2, fun b hb o => hs b o (h3 b hb o)⟩
    | false => obtain ⟨a, cap, ips, h1, h2, h3⟩ := h; exact ⟨a, cap, ips, h1, h2, fun b hb => hl b (h3 b hb)⟩
  | mb e =>
    match x, h with
    | some l, h => obtain ⟨a, cap, ips, h1, h2, h3⟩ := h; exact ⟨a, cap, ips, h1, h2, fun b hb o => hs b o (h3 b hb o)⟩
    | none, h => exact h
  | _ => exact h

theorem LsRel.mono {w : World} {S S' : Fp} {L L' : Nat → Prop} (hs : Sub2 S S') (hl : ∀ b, L b → L' b) : ∀ {ts : List LT} {x : Tup ts} {vs : List Value}, LsRel w ts x vs S L → LsRel w ts x vs S' L'
  | [], _, [], _ => trivial
  | [], _, _ :: _, h => h.elim
  | _ :: _, _, [], h => h.elim
  | _ :: _, _, _ :: _, ⟨S1, S2, h1, h2, h3, h4, h5⟩ => ⟨S1, S2, h1.mono (fun _ _ h => h) hl, LsRel.mono (fun _ _ h => h) hl h2, h3, fun b o h => hs b o (h4 b o h), fun b o h => hs b o (h5 b o h)⟩

theorem takeLs_ok {loc : Loc} {w : World} {S : Fp} {L : Nat → Prop} : ∀ {ts : List LT} {svs : List SV} {rows : Rows} {x : Tup ts} {us : Us} {ls : List Nat} {vs : List Value} (_ : Heap rows loc w S L)
    (_ : takeLs rows ts svs = some (x, us, ls)) (_ : Rels loc svs vs),
    ∃ S1, Taken rows (appR rows us) loc w S L S1 ∧ BlkFp S1 ∧ ∀ np rowsF, SubR (appR rows us) rowsF → aliveR np rowsF ls = true → LsRel w ts x vs S1 (lentL1 np L loc rowsF)
  | [], [], rows, x, us, ls, vs, H, h, hv => by
    simp only [takeLs, Option.some.injEq, Prod.mk.injEq] at h
    obtain ⟨_, rfl, rfl⟩ := h
    cases vs with
    | nil => exact ⟨noFp, .refl H, noFp_blk, fun _ _ _ _ => trivial⟩
    | cons _ _ => exact hv.elim
  | [], _ :: _, _, _, _, _, _, _, h, _ => by simp [takeLs] at h
  | _ :: _, [], _, _, _, _, _, _, h, _ => by simp [takeLs] at h
  | t :: ts, sv :: svs, rows, x, us, ls, vs, H, h, hv => by
    simp only [takeLs] at h
    split at h
    · rename_i x1 us1 ls1 h1
      split at h
      · rename_i x2 us2 ls2 h2
        simp only [Option.some.injEq, Prod.mk.injEq] at h
        obtain ⟨rfl, rfl, rfl⟩ := h
        cases vs with
        | nil => exact hv.elim
        | cons v vs =>
          obtain ⟨S1, T1, b1, k1⟩ := takeL_ok H h1 hv.1
          obtain ⟨S2, T2, b2, k2⟩ := takeLs_ok T1.heap h2 hv.2
          obtain ⟨T, hd⟩ := T1.trans T2
          refine ⟨orFp S1 S2, by rw [appR_append]; exact T, orFp_blk b1 b2, fun np rowsF hsub hal => ?_⟩
          rw [appR_append] at hsub
          obtain ⟨ha1, ha2⟩ := aliveR_append hal
          exact ⟨S1, S2, k1 np rowsF (T2.sub.trans hsub) ha1, k2 np rowsF hsub ha2, hd, fun _ _ h => .inl h, fun _ _ h => .inr h⟩
      · cases h
    · cases h

theorem takeLs_len : ∀ {ts : List LT} {svs : List SV} {rows : Rows} {r : Tup ts × Us × List Nat}, takeLs rows ts svs = some r → svs.length = ts.length
  | [], [], _, _, _ => rfl
  | [], _ :: _, _, _, h => by simp [takeLs] at h
  | _ :: _, [], _, _, h => by simp [takeLs] at h
  | t :: ts, sv :: svs, rows, r, h => by
    simp only [takeLs] at h
    split at h
    · split at h
      · rename_i h2
        have := takeLs_len h2
        simp [this]
      · cases h
    · cases h

theorem takeL_proper {rows : Rows} {t : LT} {sv : SV} {r : t.D × Us × List Nat} (h : takeL rows t sv = some r) : notLent sv := by
  cases sv <;> first
    | trivial
    | (cases t <;> simp [takeL, sliceOf, okS] at h)

theorem takeLs_proper : ∀ {ts : List LT} {svs : List SV} {rows : Rows} {r : Tup ts × Us × List Nat}, takeLs rows ts svs = some r → ∀ x, x ∈ svs → notLent x
  | [], [], _, _, _, _, hx => by cases hx
  | [], _ :: _, _, _, h, _, _ => by simp [takeLs] at h
  | _ :: _, [], _, _, h, _, _ => by simp [takeLs] at h
  | t :: ts, sv :: svs, rows, r, h, x, hx => by
    simp only [takeLs] at h
    split at h
    · rename_i h1
      split at h
      · rename_i h2
        cases hx with
        | head => exact takeL_proper h1
        | tail _ hx => exact takeLs_proper h2 x hx
      · cases h
    · cases h

theorem lendS_len : ∀ {ts : List LT} {vs q : List SV}, lendS ts vs = some q → q.length = vs.length ∧ ∀ x, x ∈ q → ¬ notLent x
  | [], [], q, h => by simp only [lendS, Option.some.injEq] at h; subst h; exact ⟨rfl, fun _ hx => by cases hx⟩
  | [], _ :: _, q, h => by simp [lendS] at h
  | t :: ts, [], q, h => by
    exfalso
    cases t with
    | sl ow e => cases ow <;> simp [lendS] at h
    | _ => simp [lendS] at h
  | t :: ts, v :: vs, q, h => by
    have key : ∃ r y, lendS ts vs = some r ∧ q = y :: r ∧ ¬ notLent y := by
      cases t with
      | sl ow e =>
        cases ow with
        | false =>
          cases v <;> simp only [lendS] at h <;> first | (cases h; done) | skip
          split at h
          · rename_i r hr
            simp only [Option.some.injEq] at h
            exact ⟨r, _, hr, h.symm, fun h => h⟩
          · cases h
        | true =>
          simp only [lendS] at h
          split at h
          · rename_i r hr
            simp only [Option.some.injEq] at h
            exact ⟨r, _, hr, h.symm, fun h => h⟩
          · cases h
      | _ =>
        simp only [lendS] at h
        split at h
        · rename_i r hr
          simp only [Option.some.injEq] at h
          exact ⟨r, _, hr, h.symm, fun h => h⟩
        · cases h
    obtain ⟨r, y, hr, rfl, hy⟩ := key
    obtain ⟨k1, k2⟩ := lendS_len hr
    refine ⟨by simp [k1], fun x hx => ?_⟩
    cases hx with
    | head => exact hy
    | tail _ hx => exact k2 x hx

theorem setsAt_len {cs vs : List SV} {off : Nat} (h : off + vs.length ≤ cs.length) : (setsAt cs off vs).length = cs.length := by
  simp [setsAt]; omega

theorem setsAt_in {cs vs : List SV} {off j : Nat} (h : off + vs.length ≤ cs.length) (h1 : off ≤ j) (h2 : j < off + vs.length) : (setsAt cs off vs)[j]? = some (vs[j - off]'(by omega)) := by
  unfold setsAt
  rw [List.append_assoc, List.getElem?_append_right (by simp; omega), List.getElem?_append_left (by simp; omega)]
  simp [Nat.min_eq_left (show off ≤ cs.length by omega)]

theorem setsAt_out {cs vs : List SV} {off j : Nat} (h : off + vs.length ≤ cs.length) (h1 : j < off ∨ off + vs.length ≤ j) : (setsAt cs off vs)[j]? = cs[j]? := by
  unfold setsAt
  rcases h1 with h1 | h1
  · rw [List.append_assoc, List.getElem?_append_left (by simp; omega)]
    simp [h1]
  · rw [List.getElem?_append_right (by simp; omega)]
    simp only [List.getElem?_drop]
    congr 1
    simp
    omega

theorem cells_rels {w : World} {loc : Loc} {b : Nat} : ∀ {cells : List SV} {o : Nat}, (∀ j, (h : j < cells.length) → CellOk w loc b (o + j) cells[j]) → (∀ x, x ∈ cells → notLent x) →
    ∃ vs, vs.length = cells.length ∧ CellsAt w b o vs ∧ Rels loc cells vs ∧ oneCells vs
  | [], o, _, _ => ⟨[], rfl, (fun j h => by cases h), trivial, trivial⟩
  | x :: xs, o, h, hn => by
    have h0 := h 0 (by simp)
    simp only [List.getElem_cons_zero, Nat.add_zero] at h0
    have hx := hn x (by simp)
    have h0' : okS x = true ∧ ∃ v, w.cell? (adr (b, o)) = some v ∧ SRel loc x v ∧ v.oneCell' = true := by
      cases x <;> first | exact h0 | exact hx.elim
    obtain ⟨_, v, e, r, one⟩ := h0'
    obtain ⟨vs, k1, k2, k3, k4⟩ := cells_rels (cells := xs) (o := o + 1) (fun j hj => by
      have := h (j + 1) (by simpa using hj)
      rw [show o + 1 + j = o + (j + 1) by omega]
      simpa using this) (fun y hy => hn y (List.mem_cons_of_mem _ hy))
    refine ⟨v :: vs, by simp [k1], fun j hj => ?_, ⟨r, k3⟩, one, k4⟩
    cases j with
    | zero => simpa using e
    | succ j =>
      have := k2 j (by simpa using hj)
      rw [show o + (j + 1) = o + 1 + j by omega]
      simpa using this

/-- a lent struct's cells, and what lay in them -/
def LentCells (loc : Loc) : List LT → List SV → List Value → Prop
  | [], [], [] => True
  | .sl false _ :: ts, c :: cs, v :: vs => (∃ k, c = .lsl k ∧ SRel loc (.slf k) v) ∧ LentCells loc ts cs vs
  | .sl true _ :: ts, c :: cs, _ :: vs => c = .lent ∧ LentCells loc ts cs vs
  | .int _ :: ts, c :: cs, _ :: vs => c = .lent ∧ LentCells loc ts cs vs
  | .bool :: ts, c :: cs, _ :: vs => c = .lent ∧ LentCells loc ts cs vs
  | .str :: ts, c :: cs, _ :: vs => c = .lent ∧ LentCells loc ts cs vs
  | .fn _ :: ts, c :: cs, _ :: vs => c = .lent ∧ LentCells loc ts cs vs
  | .mb _ :: ts, c :: cs, _ :: vs => c = .lent ∧ LentCells loc ts cs vs
  | _, _, _ => False

theorem lendS_cells {loc : Loc} : ∀ {ts : List LT} {cells q : List SV} {old : List Value}, lendS ts cells = some q → Rels loc cells old → LentCells loc ts q old
  | [], [], q, [], h, _ => by simp only [lendS, Option.some.injEq] at h; subst h; trivial
  | _, [], _, _ :: _, _, hr => hr.elim
  | _, _ :: _, _, [], _, hr => hr.elim
  | [], _ :: _, q, _ :: _, h, _ => by simp [lendS] at h
  | t :: ts, [], q, [], h, _ => by
    exfalso
    cases t with
    | sl ow e => cases ow <;> simp [lendS] at h
    | _ => simp [lendS] at h
  | t :: ts, v :: vs, q, o :: os, h, hr => by
    cases t with
    | sl ow e =>
      cases ow with
      | false =>
        cases v <;> simp only [lendS] at h <;> first | (cases h; done) | skip
        split at h
        · rename_i r hr'
          simp only [Option.some.injEq] at h
          subst h
          exact ⟨⟨_, rfl, hr.1⟩, lendS_cells hr' hr.2⟩
        · cases h
      | true =>
        simp only [lendS] at h
        split at h
        · rename_i r hr'
          simp only [Option.some.injEq] at h
          subst h
          exact ⟨rfl, lendS_cells hr' hr.2⟩
        · cases h
    | _ =>
      simp only [lendS] at h
      split at h
      · rename_i r hr'
        simp only [Option.some.injEq] at h
        subst h
        exact ⟨rfl, lendS_cells hr' hr.2⟩
      · cases h

/-- a struct that has been lent -/
def LentAt (rows : Rows) (loc : Loc) (w : World) (id off : Nat) (ts : List LT) (v : Value) : Prop :=
  ∃ b o cs old, rows id = some (.box cs) ∧ loc id = some (.box b o cs.length) ∧ v = .pointer (some (adr (b, o + off))) ∧ off + ts.length ≤ cs.length ∧
    LentCells loc ts ((cs.drop off).take ts.length) old ∧ CellsAt w b (o + off) old

def LentTy (rows : Rows) (loc : Loc) (w : World) : Ty → TV → Value → Prop
  | .p ts, tv, v => ∃ id off, tv = .c (.s (.ptr id off)) ∧ LentAt rows loc w id off ts v
  | _, _, _ => True
def LentTys (rows : Rows) (loc : Loc) (w : World) : List Ty → List TV → List Value → Prop
  | [], [], [] => True
  | t :: ts, tv :: tvs, v :: vs => LentTy rows loc w t tv v ∧ LentTys rows loc w ts tvs vs
  | _, _, _ => False

theorem LentCells.len {loc : Loc} : ∀ {ts : List LT} {cs : List SV} {vs : List Value}, LentCells loc ts cs vs → cs.length = ts.length ∧ vs.length = ts.length ∧ ∀ x, x ∈ cs → ¬ notLent x
  | [], [], [], _ => ⟨rfl, rfl, fun _ h => by cases h⟩
  | [], [], _ :: _, h => h.elim
  | [], _ :: _, _, h => h.elim
  | t :: ts, [], _, h => by cases t with | sl ow e => cases ow <;> exact h.elim | _ => exact h.elim
  | t :: ts, _ :: _, [], h => by cases t with | sl ow e => cases ow <;> exact h.elim | _ => exact h.elim
  | t :: ts, c :: cs, v :: vs, h => by
    have key : ¬ notLent c ∧ LentCells loc ts cs vs := by
      cases t with
      | sl ow e =>
        cases ow with
        | false => obtain ⟨⟨k, rfl, _⟩, h2⟩ := h; exact ⟨fun h => h, h2⟩
        | true => obtain ⟨rfl, h2⟩ := h; exact ⟨fun h => h, h2⟩
      | _ => obtain ⟨rfl, h2⟩ := h; exact ⟨fun h => h, h2⟩
    obtain ⟨k1, k2, k3⟩ := LentCells.len key.2
    refine ⟨by simp [k1], by simp [k2], fun x hx => ?_⟩
    cases hx with
    | head => exact key.1
    | tail _ hx => exact k3 x hx

theorem LentAt.keep {rows rows' : Rows} {loc : Loc} {w : World} {id off : Nat} {ts : List LT} {v : Value}
    (h : LentAt rows loc w id off ts v) (k : ∀ id (cs : List SV), rows id = some (.box cs) → ∃ cs' : List SV, rows' id = some (.box cs') ∧ cs'.length = cs.length ∧ ∀ (j : Nat) (c : SV), cs[j]? = some c → ¬ notLent c → cs'[j]? = some c) :
    LentAt rows' loc w id off ts v := by
  obtain ⟨b, o, cs, old, e, el, hv, hle, hl, ho⟩ := h
  obtain ⟨cs', e', hlen, g⟩ := k id cs e
  refine ⟨b, o, cs', old, e', by rw [hlen]; exact el, hv, by omega, ?_, ho⟩
  have : (cs'.drop off).take ts.length = (cs.drop off).take ts.length := by
    apply List.ext_getElem?
    intro j
    by_cases hj : j < ts.length
    · rw [List.getElem?_take_of_lt hj, List.getElem?_take_of_lt hj, List.getElem?_drop, List.getElem?_drop]
      have h1 : off + j < cs.length := by omega
      have hm : cs[off + j] ∈ (cs.drop off).take ts.length := List.mem_of_getElem (i := j) (h := by simp; omega) (by simp)
      rw [List.getElem?_eq_getElem h1, g (off + j) cs[off + j] (List.getElem?_eq_getElem h1) (hl.len.2.2 _ hm)]
    · rw [List.getElem?_eq_none (by simp; omega), List.getElem?_eq_none (by simp; omega)]
  rw [this]
  exact hl

theorem takeTy_ok {rows : Rows} {loc : Loc} {w : World} {S : Fp} {L : Nat → Prop} (H : Heap rows loc w S L) {t : Ty} {tv : TV} {x : t.D} {us : Us} {ls : List Nat} {v : Value}
    (h : takeTy rows t tv = some (x, us, ls)) (hv : TRel loc tv v) :
    ∃ S1, Taken rows (appR rows us) loc w S L S1 ∧ (t.noP = true → BlkFp S1) ∧ (∀ np rowsF, SubR (appR rows us) rowsF → aliveR np rowsF ls = true → TyRel w t x v S1 (lentL1 np L loc rowsF)) ∧ LentTy (appR rows us) loc w t tv v := by
  cases t with
  | v t =>
    cases tv with
    | tup l => simp [takeTy] at h
    | c c =>
      cases c with
      | agg l => simp [takeTy] at h
      | s sv =>
        have hs : SRel loc sv v := by
          cases sv <;> first | exact hv | skip
          exfalso
          cases t <;> simp [takeTy, takeL, sliceOf] at h
        obtain ⟨S1, T, bk, k⟩ := takeL_ok H h hs
        exact ⟨S1, T, fun _ => bk, k, trivial⟩
  | a ts =>
    cases tv with
    | tup l => simp [takeTy] at h
    | c c =>
      cases c with
      | s l => simp [takeTy] at h
      | agg l =>
        obtain ⟨cs, rfl, hr⟩ := hv
        obtain ⟨S1, T, bk, k⟩ := takeLs_ok H h hr
        exact ⟨S1, T, fun _ => bk, fun np rowsF h1 h2 => ⟨cs, rfl, k np rowsF h1 h2⟩, trivial⟩
  | r ts =>
    cases tv with
    | tup l => simp [takeTy] at h
    | c c =>
      cases c with
      | agg l => simp [takeTy] at h
      | s sv =>
        cases sv with
        | ptr id off =>
          simp only [takeTy] at h
          split at h
          · rename_i cs hr
            cases hb : rOk ts && Nat.ble (off + ts.length) cs.length with
            | false => rw [hb] at h; cases h
            | true =>
              rw [hb, cond_true] at h
              simp only [Bool.and_eq_true] at hb
              have hle : off + ts.length ≤ cs.length := Nat.le_of_ble_eq_true hb.2
              have hts : 0 < ts.length := by have := hb.1; cases ts <;> first | (simp [rOk] at this; done) | simp
              split at h
              · rename_i x' us' ls' ht
                simp only [Option.some.injEq, Prod.mk.injEq] at h
                obtain ⟨rfl, rfl, rfl⟩ := h
                have hlen := takeLs_len ht
                have hprop := takeLs_proper ht
                obtain ⟨b, o, el, hcells, hlt⟩ : ∃ b o, loc id = some (.box b o cs.length) ∧ (∀ j, (h : j < cs.length) → CellOk w loc b (o + j) cs[j]) ∧ (rows id = some (.box cs) ∨ L b) := by
                  unfold boxC at hr
                  split at hr
                  · rename_i e; simp only [Option.some.injEq] at hr; subst hr; obtain ⟨b, o, el, _, k⟩ := H.ok id _ e; exact ⟨b, o, el, k, .inl e⟩
                  · rename_i e; simp only [Option.some.injEq] at hr; subst hr; obtain ⟨b, o, el, k⟩ := H.ok id _ e; exact ⟨b, o, el, k, .inr (H.inL id _ e b ⟨o, _, el⟩)⟩
                  · cases hr
                obtain ⟨b', o', n', el', rfl⟩ := hv
                rw [el] at el'
                simp only [Option.some.injEq, Pl.box.injEq] at el'
                obtain ⟨rfl, rfl, rfl⟩ := el'
                have hget : ∀ j, (hj : j < ts.length) → ((cs.drop off).take ts.length)[j]'(by omega) = cs[off + j]'(by omega) := fun j hj => by simp
                obtain ⟨vs, g1, g2, g3, _⟩ := cells_rels (w := w) (loc := loc) (b := b) (cells := (cs.drop off).take ts.length) (o := o + off) (fun j hj => by
                  rw [hget j (by omega), Nat.add_assoc]
                  exact hcells (off + j) (by omega)) hprop
                obtain ⟨S1, T, bk, k⟩ := takeLs_ok H ht g3
                refine ⟨S1, T, fun _ => bk, fun np rowsF hsub hal => ⟨b, o + off, vs, rfl, by omega, g2, k np rowsF hsub ?_, ?_⟩, trivial⟩
                · simp only [aliveR] at hal
                  split at hal
                  · exact hal
                  · exact hal
                  · simp only [Bool.and_eq_true] at hal; exact hal.2.2
                  · cases hal
                · rcases hlt with hbox | hL
                  · obtain ⟨csT, hT, _⟩ := T.boxes id cs hbox
                    rcases aliveR_mem hal id (List.mem_cons_self) with ⟨oF, eF, lF, hF⟩ | ⟨c', hF⟩ | ⟨c', hF, hnp, hw⟩
                    · have hF2 := hsub id _ hF
                      rw [hT] at hF2; cases hF2
                    · have hF2 := hsub id _ hF
                      rw [hT] at hF2; cases hF2
                    · obtain ⟨c, r, rfl, hc⟩ := wholeB_ok hw
                      exact .inr (.inr ⟨hnp, id, _, hF, o, o, _, el, 0, by simp, rfl, hc⟩)
                  · exact .inl hL
              · cases h
          · cases h
        | _ => simp [takeTy] at h
  | p ts =>
    cases tv with
    | tup l => simp [takeTy] at h
    | c c =>
      cases c with
      | agg l => simp [takeTy] at h
      | s sv =>
        cases sv with
        | ptr id off =>
          simp only [takeTy] at h
          split at h
          · rename_i cs hr
            cases hb : Nat.ble (off + ts.length) cs.length with
            | false => rw [hb] at h; cases h
            | true =>
              rw [hb, cond_true] at h
              have hle : off + ts.length ≤ cs.length := Nat.le_of_ble_eq_true hb
              split at h
              · rename_i q hq
                split at h
                · rename_i x' us' ls' ht
                  simp only [Option.some.injEq, Prod.mk.injEq] at h
                  obtain ⟨rfl, rfl, rfl⟩ := h
                  have hlen := takeLs_len ht
                  have hprop := takeLs_proper ht
                  obtain ⟨hq1, hq2⟩ := lendS_len hq
                  have hql : q.length = ts.length := hq1.trans hlen
                  have hle' : off + q.length ≤ cs.length := by omega
                  obtain ⟨b, o, el, hob, hcells⟩ := H.ok id _ hr
                  obtain ⟨b', o', n', el', rfl⟩ := hv
                  rw [el] at el'
                  simp only [Option.some.injEq, Pl.box.injEq] at el'
                  obtain ⟨rfl, rfl, rfl⟩ := el'
                  have hsl := setsAt_len hle'
                  have hget : ∀ j, (hj : j < ts.length) → ((cs.drop off).take ts.length)[j]'(by omega) = cs[off + j]'(by omega) := fun j hj => by simp
                  obtain ⟨vs, g1, g2, g3, _⟩ := cells_rels (w := w) (loc := loc) (b := b) (cells := (cs.drop off).take ts.length) (o := o + off) (fun j hj => by
                    rw [hget j (by omega), Nat.add_assoc]
                    exact hcells (off + j) (by omega)) hprop
                  have hbox : RowOk w loc id (.box (setsAt cs off q)) := by
                    refine ⟨b, o, by rw [hsl]; exact el, by rw [hsl]; exact hob, fun j hj => ?_⟩
                    rw [hsl] at hj
                    have hj' := hj
                    by_cases hin : off ≤ j ∧ j < off + q.length
                    · have hg := setsAt_in hle' hin.1 hin.2
                      have : (setsAt cs off q)[j]'(by omega) = q[j - off]'(by omega) := by
                        have := List.getElem?_eq_getElem (l := setsAt cs off q) (i := j) (by omega)
                        rw [this] at hg
                        exact Option.some.inj hg
                      rw [this]
                      have hnl := hq2 _ (List.getElem_mem (l := q) (n := j - off) (by omega))
                      generalize q[j - off]'(by omega) = y at hnl ⊢
                      cases y <;> first | trivial | exact absurd trivial hnl
                    · have hg := setsAt_out (vs := q) hle' (j := j) (by omega)
                      have : (setsAt cs off q)[j]'(by omega) = cs[j]'hj := by
                        rw [List.getElem?_eq_getElem (l := setsAt cs off q) (i := j) (by omega), List.getElem?_eq_getElem hj] at hg
                        exact Option.some.inj hg
                      rw [this]
                      exact hcells j hj
                  have hnot : ∀ b' o', own loc id (.box (setsAt cs off q)) b' o' → own loc id (.box cs) b' o' ∧ ¬ rng b (o + off) ts.length b' o' := by
                    intro b' o' ⟨o0, n0, e0, j, hj, ho', hnl⟩
                    rw [el] at e0
                    simp only [Option.some.injEq, Pl.box.injEq] at e0
                    obtain ⟨rfl, rfl, rfl⟩ := e0
                    rw [hsl] at hj
                    by_cases hin : off ≤ j ∧ j < off + q.length
                    · exfalso
                      have hg := setsAt_in hle' hin.1 hin.2
                      rw [List.getElem?_eq_getElem (l := setsAt cs off q) (i := j) (by omega)] at hg
                      rw [Option.some.inj hg] at hnl
                      exact hq2 _ (List.getElem_mem _) hnl
                    · have hg := setsAt_out (vs := q) hle' (j := j) (by omega)
                      rw [List.getElem?_eq_getElem (l := setsAt cs off q) (i := j) (by omega), List.getElem?_eq_getElem hj] at hg
                      rw [Option.some.inj hg] at hnl
                      exact ⟨⟨o, _, el, j, hj, ho', hnl⟩, fun hr => by unfold rng at hr; omega⟩
                  have T0 : Taken rows (updR rows id (.box (setsAt cs off q))) loc w S L (rng b (o + off) ts.length) := by
                    refine ⟨H.set hr hbox (fun b' o' h => (hnot b' o' h).1) (fun _ h => h.elim), ?_, ?_, ?_, ?_, ?_, ?_⟩
                    · rintro b' o' ⟨rfl, h1, h2⟩
                      refine ⟨id, _, hr, o, _, el, o' - o, by omega, by omega, ?_⟩
                      have := hprop (cs[o' - o]'(by omega)) (List.mem_of_getElem (i := o' - o - off) (h := by omega) (by rw [hget _ (by omega)]; congr 1; omega))
                      exact this
                    · rintro b' o' ⟨i, y, ey, hy⟩
                      by_cases hi : i = id
                      · subst hi
                        rw [updR_self] at ey; cases ey
                        exact ⟨⟨i, _, hr, (hnot b' o' hy).1⟩, (hnot b' o' hy).2⟩
                      · rw [updR_other rows _ hi] at ey
                        refine ⟨⟨i, y, ey, hy⟩, ?_⟩
                        rintro ⟨rfl, h1, h2⟩
                        refine H.sep i id y _ hi ey hr b' o' hy ⟨o, _, el, o' - o, by omega, by omega, ?_⟩
                        exact hprop (cs[o' - o]'(by omega)) (List.mem_of_getElem (i := o' - o - off) (h := by omega) (by rw [hget _ (by omega)]; congr 1; omega))
                    · intro j y1 h1
                      by_cases hj : j = id
                      · subst hj; rw [updR_self] at h1; cases h1; exact ⟨_, hr⟩
                      · rw [updR_other rows _ hj] at h1; exact .refl h1
                    · intro j h1
                      by_cases hj : j = id
                      · subst hj; rw [updR_self]; simp
                      · rw [updR_other rows _ hj]; exact h1
                    · intro j h1
                      by_cases hj : j = id
                      · subst hj; rw [h1] at hr; cases hr
                      · rw [updR_other rows _ hj]; exact h1
                    · intro j cs1 h1
                      by_cases hj : j = id
                      · subst hj
                        rw [hr] at h1
                        simp only [Option.some.injEq, Row.box.injEq] at h1
                        subst h1
                        refine ⟨_, updR_self _ _ _, hsl, fun i c hc hn => ?_⟩
                        by_cases hin : off ≤ i ∧ i < off + q.length
                        · exfalso
                          have hi : i < cs.length := by omega
                          rw [List.getElem?_eq_getElem hi] at hc
                          obtain rfl := Option.some.inj hc
                          exact hn (hprop _ (List.mem_of_getElem (i := i - off) (h := by omega) (by rw [hget _ (by omega)]; congr 1; omega)))
                        · rw [setsAt_out (vs := q) hle' (by omega)]; exact hc
                      · rw [updR_other rows _ hj]; exact ⟨cs1, h1, rfl, fun _ _ h _ => h⟩
                  obtain ⟨S1, T1, _, k1⟩ := takeLs_ok T0.heap ht g3
                  obtain ⟨T, hd⟩ := T0.trans T1
                  refine ⟨_, T, (fun h => by cases h), fun np rowsF hsub hal => ⟨b, o + off, vs, S1, rfl, ?_, by omega, g2, k1 np rowsF hsub hal, fun _ _ h => .inr h, fun _ _ h => .inl h, fun b' o' h1 h2 => hd b' o' h2 h1⟩, id, off, rfl, ?_⟩
                  · obtain ⟨c, ty, e1, e2⟩ := hob
                    exact ⟨c, ty, e1, by omega⟩
                  · refine LentAt.keep (rows := updR rows id (.box (setsAt cs off q))) ⟨b, o, _, vs, updR_self _ _ _, by rw [hsl]; exact el, rfl, by omega, ?_, g2⟩ T1.boxes
                    have : ((setsAt cs off q).drop off).take ts.length = q := by
                      apply List.ext_getElem?
                      intro j
                      by_cases hj : j < ts.length
                      · rw [List.getElem?_take_of_lt hj, List.getElem?_drop, setsAt_in hle' (by omega) (by omega), List.getElem?_eq_getElem (by omega)]
                        congr 2; omega
                      · rw [List.getElem?_eq_none (by simp; omega), List.getElem?_eq_none (by omega)]
                    rw [this]
                    exact lendS_cells hq g3
                · cases h
              · cases h
          · cases h
        | _ => simp [takeTy] at h

theorem takeTys_ok {loc : Loc} {w : World} {S : Fp} {L : Nat → Prop} : ∀ {ts : List Ty} {tvs : List TV} {rows : Rows} {x : PTup ts} {us : Us} {ls : List Nat} {vs : List Value} (_ : Heap rows loc w S L)
    (_ : takeTys rows ts tvs = some (x, us, ls)) (_ : TRels loc tvs vs),
    ∃ S1, Taken rows (appR rows us) loc w S L S1 ∧ (noPs ts = true → BlkFp S1) ∧ (∀ np rowsF, SubR (appR rows us) rowsF → aliveR np rowsF ls = true → TysRel w ts x vs S1 (lentL1 np L loc rowsF)) ∧ LentTys (appR rows us) loc w ts tvs vs
  | [], [], rows, x, us, ls, vs, H, h, hv => by
    simp only [takeTys, Option.some.injEq, Prod.mk.injEq] at h
    obtain ⟨_, rfl, rfl⟩ := h
    cases vs with
    | nil => exact ⟨noFp, .refl H, fun _ => noFp_blk, fun _ _ _ _ => trivial, trivial⟩
    | cons _ _ => exact hv.elim
  | [], _ :: _, _, _, _, _, _, _, h, _ => by simp [takeTys] at h
  | _ :: _, [], _, _, _, _, _, _, h, _ => by simp [takeTys] at h
  | t :: ts, tv :: tvs, rows, x, us, ls, vs, H, h, hv => by
    simp only [takeTys] at h
    split at h
    · rename_i x1 us1 ls1 h1
      split at h
      · rename_i x2 us2 ls2 h2
        simp only [Option.some.injEq, Prod.mk.injEq] at h
        obtain ⟨rfl, rfl, rfl⟩ := h
        cases vs with
        | nil => exact hv.elim
        | cons v vs =>
          obtain ⟨S1, T1, b1, k1, m1⟩ := takeTy_ok H h1 hv.1
          obtain ⟨S2, T2, b2, k2, m2⟩ := takeTys_ok T1.heap h2 hv.2
          obtain ⟨T, hd⟩ := T1.trans T2
          refine ⟨orFp S1 S2, by rw [appR_append]; exact T, fun hn => by simp only [noPs, Bool.and_eq_true] at hn; exact orFp_blk (b1 hn.1) (b2 hn.2), fun np rowsF hsub hal => ?_, ?_, by rw [appR_append]; exact m2⟩
          · rw [appR_append] at hsub
            obtain ⟨ha1, ha2⟩ := aliveR_append hal
            exact ⟨S1, S2, k1 np rowsF (T2.sub.trans hsub) ha1, k2 np rowsF hsub ha2, hd, fun _ _ h => .inl h, fun _ _ h => .inr h⟩
          · rw [appR_append]
            cases t with
            | p ts => obtain ⟨id, off, e, m⟩ := m1; exact ⟨id, off, e, m.keep T2.boxes⟩
            | _ => trivial
      · cases h
    · cases h

/-- what is handed over at a call -/
theorem takeAll_ok {rows : Rows} {loc : Loc} {w : World} {S : Fp} {L : Nat → Prop} (H : Heap rows loc w S L) {ts : List Ty} {tvs : List TV} {x : PTup ts} {us : Us} {vs : List Value}
    (h : takeAll rows ts tvs = some (x, us)) (hv : TRels loc tvs vs) :
    ∃ S1 L1, Taken rows (appR rows us) loc w S L S1 ∧ TysRel w ts x vs S1 L1 ∧ (∀ b o, S1 b o → ¬ L1 b) ∧ (∀ b o, S1 b o → b < w.heap.size) ∧ (∀ b, L1 b → b < w.heap.size) ∧ LentTys (appR rows us) loc w ts tvs vs := by
  unfold takeAll at h
  cases hm : noMbs ts with
  | false => rw [hm] at h; cases h
  | true =>
  rw [hm, cond_true] at h
  split at h
  · rename_i x' us' ls ht
    cases ha : aliveR (noPs ts) (appR rows us') ls with
    | false => rw [ha] at h; cases h
    | true =>
      rw [ha] at h
      simp only [cond_true, Option.some.injEq, Prod.mk.injEq] at h
      obtain ⟨rfl, rfl⟩ := h
      obtain ⟨S1, T, bk, k, m⟩ := takeTys_ok H ht hv
      refine ⟨S1, lentL1 (noPs ts) L loc (appR rows us'), T, k _ _ (.refl _) ha, ?_, ?_, ?_, m⟩
      · rintro b o hs (hl | ⟨id, e, l, hr, ho⟩ | ⟨hnp, id, cs, hr, o', ho⟩)
        · obtain ⟨i, y, ey, hy⟩ := T.from_ b o hs
          exact H.dis b o (H.inS i y ey b o hy) hl
        · exact (T.apart b o ⟨id, _, hr, ho⟩).2 hs
        · exact (T.apart b o' ⟨id, _, hr, ho⟩).2 (bk hnp b o o' hs)
      · intro b o hs
        obtain ⟨i, y, ey, hy⟩ := T.from_ b o hs
        exact H.ltS b o (H.inS i y ey b o hy)
      · rintro b (hl | ⟨id, e, l, hr, ho⟩ | ⟨_, id, cs, hr, o', ho⟩)
        · exact H.ltL b hl
        · exact T.heap.ltS b 0 (T.heap.inS id _ hr b 0 ho)
        · exact T.heap.ltS b o' (T.heap.inS id _ hr b o' ho)
  · cases h

theorem TyRel.mono {w : World} {t : Ty} {x : t.D} {v : Value} {S S' : Fp} {L L' : Nat → Prop} (h : TyRel w t x v S L) (hs : Sub2 S S') (hl : ∀ b, L b → L' b) : TyRel w t x v S' L' := by
  cases t with
  | v t => exact LfRel.mono h hs hl
  | a ts => obtain ⟨cs, e, r⟩ := h; exact ⟨cs, e, r.mono hs hl⟩
  | p ts => obtain ⟨b, o, cs, S1, e, q1, q2, q3, r, s1, s2, d⟩ := h; exact ⟨b, o, cs, S1, e, q1, q2, q3, r.mono (fun _ _ h => h) hl, fun b o h => hs b o (s1 b o h), fun b o h => hs b o (s2 b o h), d⟩
  | r ts => obtain ⟨b, o, cs, e, q1, q2, r, lb⟩ := h; exact ⟨b, o, cs, e, q1, q2, r.mono hs hl, hl b lb⟩
theorem TysRel.mono {w : World} {S S' : Fp} {L L' : Nat → Prop} (hs : Sub2 S S') (hl : ∀ b, L b → L' b) : ∀ {ts : List Ty} {x : PTup ts} {vs : List Value}, TysRel w ts x vs S L → TysRel w ts x vs S' L'
  | [], _, [], _ => trivial
  | [], _, _ :: _, h => h.elim
  | _ :: _, _, [], h => h.elim
  | _ :: _, _, _ :: _, ⟨S1, S2, h1, h2, h3, h4, h5⟩ => ⟨S1, S2, h1.mono (fun _ _ h => h) hl, TysRel.mono (fun _ _ h => h) hl h2, h3, fun b o h => hs b o (h4 b o h), fun b o h => hs b o (h5 b o h)⟩

theorem TysRel.len {w : World} {L : Nat → Prop} : ∀ {ts : List Ty} {x : PTup ts} {vs : List Value} {S : Fp}, TysRel w ts x vs S L → vs.length = ts.length
  | [], _, [], _, _ => rfl
  | [], _, _ :: _, _, h => h.elim
  | _ :: _, _, [], _, h => h.elim
  | _ :: _, _, _ :: _, _, ⟨_, _, _, h, _⟩ => by simp [TysRel.len h]

theorem aliveL_R {rows : Rows} : ∀ {ls : List Nat}, aliveL rows ls = true → aliveR false (fun id => match rows id with | some (.row false e l) => some (.row false e l) | some (.rbox cs) => some (.rbox cs) | _ => none) ls = true
  | [], _ => rfl
  | id :: r, h => by
    simp only [aliveL] at h
    simp only [aliveR]
    split at h
    · rename_i e; rw [e]; exact aliveL_R h
    · rename_i e; rw [e]; exact aliveL_R h
    · cases h

theorem takeTysL_ok {rows : Rows} {loc : Loc} {w : World} {S : Fp} {L : Nat → Prop} (H : Heap rows loc w S L) {ts : List Ty} {tvs : List TV} {x : PTup ts} {us : Us} {ls : List Nat} {vs : List Value}
    (ht : takeTys rows ts tvs = some (x, us, ls)) (ha : aliveL (appR rows us) ls = true) (hv : TRels loc tvs vs) : ∃ S1, Taken rows (appR rows us) loc w S L S1 ∧ TysRel w ts x vs S1 L := by
  obtain ⟨S1, T, bk, k, m⟩ := takeTys_ok H ht hv
  have hL : ∀ b, lentL1 false L loc (fun id => match appR rows us id with | some (.row false e l) => some (.row false e l) | some (.rbox cs) => some (.rbox cs) | _ => none) b → L b := by
    rintro b (h | ⟨id, e, l, hr, _⟩ | ⟨h, _⟩)
    · exact h
    · exfalso
      simp only at hr
      split at hr <;> cases hr
    · cases h
  refine ⟨S1, T, TysRel.mono (fun _ _ h => h) hL (k false _ (fun id y hy => ?_) (aliveL_R ha))⟩
  split at hy
  · rename_i e; cases hy; exact e
  · rename_i e; cases hy; exact e
  · cases hy

/-- what is handed over where it is lent to the caller itself -/
theorem takeAllL_ok {rows : Rows} {loc : Loc} {w : World} {S : Fp} {L : Nat → Prop} (H : Heap rows loc w S L) {ts : List Ty} {tvs : List TV} {x : PTup ts} {us : Us} {vs : List Value}
    (h : takeAllL rows ts tvs = some (x, us)) (hv : TRels loc tvs vs) :
    ∃ S1, Taken rows (appR rows us) loc w S L S1 ∧ TysRel w ts x vs S1 L ∧ (∀ b o, S1 b o → ¬ L b) ∧ (∀ b o, S1 b o → b < w.heap.size) := by
  unfold takeAllL at h
  cases hm : noMbs ts with
  | false => rw [hm] at h; cases h
  | true =>
  rw [hm, cond_true] at h
  split at h
  · rename_i x' us' ls ht
    cases ha : aliveL (appR rows us') ls with
    | false => rw [ha] at h; cases h
    | true =>
      rw [ha] at h
      simp only [cond_true, Option.some.injEq, Prod.mk.injEq] at h
      obtain ⟨rfl, rfl⟩ := h
      obtain ⟨S1, T, k⟩ := takeTysL_ok H ht ha hv
      refine ⟨S1, T, k, fun b o hs hl => ?_, fun b o hs => ?_⟩
      · obtain ⟨i, y, ey, hy⟩ := T.from_ b o hs
        exact H.dis b o (H.inS i y ey b o hy) hl
      · obtain ⟨i, y, ey, hy⟩ := T.from_ b o hs
        exact H.ltS b o (H.inS i y ey b o hy)
  · cases h

end Go.Tev
