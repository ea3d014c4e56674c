/- An evaluator of Go functions on plain values: loops. No condition beyond those that each lemma states. -/
import Derived.Test.YtanoofbkhddokaaGreatUc
set_option linter.unusedSimpArgs false
set_option linter.unusedVariables false
namespace Go.Tev

/-! ### what stays in a round -/

theorem LfRel.frame {w w' : World} {S : Fp} {L : Nat → Prop} {t : LT} {x : t.D} {v : Value} (hp : t.plain = true) (h : LfRel w t x v noFp L) (hf : Frame S w w') (hd : ∀ b o, S b o → ¬ L b) : LfRel w' t x v noFp L := by
  cases t with
  | sl o e =>
    cases o with
    | true => simp [LT.plain] at hp
    | false =>
      obtain ⟨a, cap, ips, ev, hr, hl⟩ := h
      exact ⟨a, cap, ips, ev, hr.frame hf fun b hb o hs => hd b o hs (hl b hb), hl⟩
  | mb e => simp [LT.plain] at hp
  | _ => exact h

theorem LfRel.bare {w : World} {S : Fp} {L : Nat → Prop} {t : LT} {x : t.D} {v : Value} (hp : t.plain = true) (h : LfRel w t x v S L) : LfRel w t x v noFp L := by
  cases t with
  | sl o e =>
    cases o with
    | true => simp [LT.plain] at hp
    | false => exact h
  | mb e => simp [LT.plain] at hp
  | _ => exact h

theorem LsRel.bare {w : World} {L : Nat → Prop} : ∀ {ts : List LT} {x : Tup ts} {vs : List Value} {S : Fp}, allPlain ts = true → LsRel w ts x vs S L → LsRel w ts x vs noFp L
  | [], _, [], _, _, _ => trivial
  | [], _, _ :: _, _, _, h => h.elim
  | _ :: _, _, [], _, _, h => h.elim
  | t :: ts, x, v :: vs, S, ho, h => by
    simp only [allPlain, Bool.and_eq_true] at ho
    obtain ⟨S1, S2, a, b, _⟩ := h
    exact ⟨noFp, noFp, a.bare ho.1, b.bare ho.2, fun _ _ h => h.elim, fun _ _ h => h, fun _ _ h => h⟩

theorem TysRel.bare {w : World} {L : Nat → Prop} : ∀ {ts : List Ty} {x : PTup ts} {vs : List Value} {S : Fp}, plains ts = true → TysRel w ts x vs S L → TysRel w ts x vs noFp L
  | [], _, [], _, _, _ => trivial
  | [], _, _ :: _, _, _, h => h.elim
  | _ :: _, _, [], _, _, h => h.elim
  | t :: ts, x, v :: vs, S, ho, h => by
    simp only [plains, Bool.and_eq_true] at ho
    obtain ⟨S1, S2, a, b, _⟩ := h
    refine ⟨noFp, noFp, ?_, b.bare ho.2, fun _ _ h => h.elim, fun _ _ h => h, fun _ _ h => h⟩
    cases t with
    | v t => exact LfRel.bare (t := t) ho.1 a
    | a ts => obtain ⟨cs, e, r⟩ := a; exact ⟨cs, e, r.bare ho.1⟩
    | r ts => obtain ⟨b, o, cs, e, q1, q2, r, q3⟩ := a; exact ⟨b, o, cs, e, q1, q2, r.bare ho.1, q3⟩
    | p ts => simp [Ty.plain] at ho

theorem LsRel.frame {w w' : World} {S : Fp} {L : Nat → Prop} (hf : Frame S w w') (hd : ∀ b o, S b o → ¬ L b) : ∀ {ts : List LT} {x : Tup ts} {vs : List Value}, allPlain ts = true → LsRel w ts x vs noFp L → LsRel w' ts x vs noFp L
  | [], _, [], _, _ => trivial
  | [], _, _ :: _, _, h => h.elim
  | _ :: _, _, [], _, h => h.elim
  | t :: ts, x, v :: vs, ho, h => by
    simp only [allPlain, Bool.and_eq_true] at ho
    obtain ⟨S1, S2, a, b, _⟩ := h
    exact ⟨noFp, noFp, (a.bare ho.1).frame ho.1 hf hd, LsRel.frame hf hd ho.2 (b.bare ho.2), fun _ _ h => h.elim, fun _ _ h => h, fun _ _ h => h⟩

theorem TysRel.frame {w w' : World} {S : Fp} {L : Nat → Prop} (hf : Frame S w w') (hd : ∀ b o, S b o → ¬ L b) : ∀ {ts : List Ty} {x : PTup ts} {vs : List Value}, plains ts = true → TysRel w ts x vs noFp L → TysRel w' ts x vs noFp L
  | [], _, [], _, _ => trivial
  | [], _, _ :: _, _, h => h.elim
  | _ :: _, _, [], _, h => h.elim
  | t :: ts, x, v :: vs, ho, h => by
    simp only [plains, Bool.and_eq_true] at ho
    obtain ⟨S1, S2, a, b, _⟩ := h
    refine ⟨noFp, noFp, ?_, TysRel.frame hf hd ho.2 (b.bare ho.2), fun _ _ h => h.elim, fun _ _ h => h, fun _ _ h => h⟩
    cases t with
    | v t => exact LfRel.frame (t := t) ho.1 (LfRel.bare (t := t) ho.1 a) hf hd
    | a ts => obtain ⟨cs, e, r⟩ := a; exact ⟨cs, e, (r.bare ho.1).frame hf hd ho.1⟩
    | r ts => obtain ⟨b, o, cs, e, q1, q2, r, q3⟩ := a; exact ⟨b, o, cs, e, q1, fun j hj => by rw [hf.cell (cell_lt (q2 j hj)) (fun h => hd b _ h q3)]; exact q2 j hj, (r.bare ho.1).frame hf hd ho.1, q3⟩
    | p ts => simp [Ty.plain] at ho

/-! ### structs from round to round -/

theorem cells_same {w : World} {b o : Nat} {x y : List Value} (hx : CellsAt w b o x) (hy : CellsAt w b o y) (h : x.length = y.length) : x = y := by
  refine List.ext_getElem h fun j h1 h2 => ?_
  have a := hx j h1
  rw [hy j h2] at a
  exact (Option.some.inj a).symm

theorem odd_adr {p : Nat × Nat} {q : Option Addr} (h : OddQ q) (e : q = some (adr p)) : False := by
  rcases h with h | ⟨s, h, hs⟩
  · rw [h] at e; cases e
  · rw [h] at e
    simp only [Option.some.injEq] at e
    subst e
    simp [adr] at hs

theorem lnBlk_same {w : World} {ow ow' : Bool} {e : E} {a : Option (Nat × Nat)} {cap : Nat} {l l' : List e.C} {ips ips' : Ips} (h : RowAt w ow e a cap l ips) (h' : RowAt w ow' e a cap l' ips') (hl : l.length = l'.length) {b : Nat} (hb : lnBlk a l'.length e ips' b) : lnBlk a l.length e ips b := by
  rcases hb with ⟨hp, o, ea⟩ | ⟨en, i, hi, hp, o, ep⟩
  · exact .inl ⟨by omega, o, ea⟩
  · subst en
    cases a with
    | none => have := h'.2.1 rfl; have := h'.1; omega
    | some p =>
      have c1 := (h.2.2.1 p.1 p.2 rfl).1 i (by omega) 0 (by decide)
      have c2 := (h'.2.2.1 p.1 p.2 rfl).1 i hi 0 (by decide)
      rw [c1] at c2
      have c3 : slV (ips i).a (ips i).q (ips i).len (ips i).cap = slV (ips' i).a (ips' i).q (ips' i).len (ips' i).cap := Option.some.inj c2
      simp only [slV, Value.slice.injEq, Int.natCast_inj] at c3
      obtain ⟨ha, hlen, hcap⟩ := c3
      refine .inr ⟨rfl, i, by omega, by omega, o, ?_⟩
      rw [ep] at ha
      cases hq : (ips i).a with
      | none =>
        have g := h.2.2.2.1 i (by omega)
        have := (g.2.2.1 hq).1
        have := g.2.1
        have := g.1
        omega
      | some q =>
        rw [hq] at ha
        simp only [pt, Option.some.injEq, adr, Addr.mk.injEq, and_true] at ha
        obtain ⟨h1, h2⟩ := ha
        obtain ⟨q1, q2⟩ := q
        simp only at h1 h2
        rw [h1, h2]

/-- what is only lent stays lent to the same -/
theorem LfRel.again {w w' : World} {S : Fp} {L : Nat → Prop} {e : E} {x y : List e.C} {v : Value} (h : LfRel w (.sl false e) x v noFp L) (h' : LfRel w' (.sl false e) y v noFp (fun _ => True)) (hf : Frame S w w') (hd : ∀ b o, S b o → ¬ L b) : LfRel w' (.sl false e) y v noFp L := by
  obtain ⟨a, cap, ips, ev, hr, hl⟩ := h
  obtain ⟨a', cap', ips', ev', hr', _⟩ := h'
  have hr2 := hr.frame hf fun b hb o hs => hd b o hs (hl b hb)
  have e3 : slV a ips.q (List.length (α := e.C) x) cap = slV a' ips'.q (List.length (α := e.C) y) cap' := by rw [← ev, ← ev']
  simp only [slV, Value.slice.injEq, Int.natCast_inj] at e3
  obtain ⟨ha, hlen, hcap⟩ := e3
  have haa : a = a' := by
    cases a with
    | none => cases a' with
      | none => rfl
      | some q => exact (odd_adr (hr.2.1 rfl).2 ha).elim
    | some p => cases a' with
      | none => exact (odd_adr (hr'.2.1 rfl).2 ha.symm).elim
      | some q =>
        simp only [pt, Option.some.injEq, adr, Addr.mk.injEq, and_true] at ha
        obtain ⟨h1, h2⟩ := ha
        obtain ⟨p1, p2⟩ := p
        obtain ⟨q1, q2⟩ := q
        simp only at h1 h2
        rw [h1, h2]
  subst haa hcap
  exact ⟨a, cap, ips', ev', hr', fun b hb => hl b (lnBlk_same hr2 hr' hlen hb)⟩

theorem LsRel.again {w w' : World} {S : Fp} {L : Nat → Prop} (hf : Frame S w w') (hd : ∀ b o, S b o → ¬ L b) : ∀ {ts : List LT} {x y : Tup ts} {old new : List Value} {S0 S1 S2 : Fp}, LsRel w ts x old S0 L → LsRel w' ts y new S1 (fun _ => True) → LsBack w' ts y old new S2 → LsRel w' ts y new S1 L
  | [], _, _, _, [], _, _, _, _, _, _ => trivial
  | [], _, _, _, _ :: _, _, _, _, _, h, _ => h.elim
  | _ :: _, _, _, [], _, _, _, _, h, _, _ => h.elim
  | _ :: _, _, _, _ :: _, [], _, _, _, _, h, _ => h.elim
  | t :: ts, x, y, o :: old, v :: new, S0, S1, S2, h, h', hb => by
    obtain ⟨A1, A2, ra, rb, da, sa, sb⟩ := h
    obtain ⟨B1, B2, pa, pb, db, qa, qb⟩ := h'
    cases t with
    | sl ow e =>
      cases ow with
      | false =>
        obtain ⟨rfl, hb⟩ := hb
        exact ⟨B1, B2, LfRel.again (S := S) (L := L) ra pa hf hd, LsRel.again hf hd rb pb hb, db, qa, qb⟩
      | true =>
        obtain ⟨C1, C2, _, hb, _⟩ := hb
        exact ⟨B1, B2, pa, LsRel.again hf hd rb pb hb, db, qa, qb⟩
    | mb e =>
      obtain ⟨C1, C2, _, hb, _⟩ := hb
      exact ⟨B1, B2, pa, LsRel.again hf hd rb pb hb, db, qa, qb⟩
    | _ => exact ⟨B1, B2, pa, LsRel.again hf hd rb pb hb.2, db, qa, qb⟩

theorem TysRel.again {w w' : World} {S : Fp} {L : Nat → Prop} (hf : Frame S w w') (hd : ∀ b o, S b o → ¬ L b) : ∀ {ts : List Ty} {x : PTup ts} {yb : BTup ts} {vs : List Value} {S0 S1 S2 : Fp}, allP ts = true → TysRel w ts x vs S0 L → TysRel w' ts (bToP ts yb) vs S1 (fun _ => True) → TysBack w w' ts yb vs S2 → TysRel w' ts (bToP ts yb) vs S1 L
  | [], _, _, [], _, _, _, _, _, _, _ => trivial
  | [], _, _, _ :: _, _, _, _, _, h, _, _ => h.elim
  | _ :: _, _, _, [], _, _, _, _, h, _, _ => h.elim
  | .v _ :: ts, _, _, _ :: _, _, _, _, h, _, _, _ => by simp [allP, Ty.isP] at h
  | .a _ :: ts, _, _, _ :: _, _, _, _, h, _, _, _ => by simp [allP, Ty.isP] at h
  | .r _ :: ts, _, _, _ :: _, _, _, _, h, _, _, _ => by simp [allP, Ty.isP] at h
  | .p ls :: ts, x, yb, v :: vs, S0, S1, S2, hall, h, h', hb => by
    simp only [allP, Bool.and_eq_true] at hall
    obtain ⟨A1, A2, ra, rb, _⟩ := h
    obtain ⟨B1, B2, pa, pb, db, qa, qb⟩ := h'
    obtain ⟨C1, C2, hbox, hrest, _⟩ := hb
    refine ⟨B1, B2, ?_, TysRel.again hf hd hall.2 rb pb hrest, db, qa, qb⟩
    obtain ⟨b, o, old, Sx, ev, hob, hol, hoc, hls, s1, s2, d⟩ := ra
    obtain ⟨b', o', new, Sy, ev', hob', hnl, hnc, hls', s1', s2', d'⟩ := pa
    obtain ⟨b2, o2, old2, new2, Sz, ev2, hol2, hoc2, hnc2, hbk, _⟩ := hbox
    rw [ev] at ev' ev2
    simp only [Value.pointer.injEq, Option.some.injEq, adr, Addr.mk.injEq, and_true] at ev' ev2
    obtain ⟨rfl, rfl⟩ := ev'
    obtain ⟨rfl, rfl⟩ := ev2
    obtain rfl := cells_same hoc hoc2 (by rw [hol, hol2])
    have hn2 : new2.length = ls.length := by
      have : ∀ {ts : List LT} {x : Tup ts} {old new : List Value} {S : Fp}, LsBack w' ts x old new S → new.length = ts.length := by
        intro ts
        induction ts with
        | nil => intro x old new S h; cases old <;> cases new <;> first | rfl | exact h.elim
        | cons t ts ih =>
          intro x old new S h
          cases old with
          | nil => cases t with | sl o e => cases o <;> exact h.elim | _ => exact h.elim
          | cons o old =>
            cases new with
            | nil => cases t with | sl o e => cases o <;> exact h.elim | _ => exact h.elim
            | cons v new =>
              cases t with
              | sl ow e =>
                cases ow with
                | false => simp [ih h.2]
                | true => obtain ⟨_, _, _, h, _⟩ := h; simp [ih h]
              | mb e => obtain ⟨_, _, _, h, _⟩ := h; simp [ih h]
              | _ => simp [ih h.2]
      exact this hbk
    obtain rfl := cells_same hnc hnc2 (by rw [hnl, hn2])
    exact ⟨b, o, new, Sy, ev, hob', hnl, hnc, LsRel.again hf hd hls hls' hbk, s1', s2', d'⟩

theorem LsBack.trans {w1 w2 : World} : ∀ {ts : List LT} {x y : Tup ts} {o m n : List Value} {S S' : Fp}, LsBack w1 ts x o m S → LsBack w2 ts y m n S' → LsBack w2 ts y o n S'
  | [], _, _, [], [], [], _, _, _, _ => trivial
  | [], _, _, [], [], _ :: _, _, _, _, h => h.elim
  | [], _, _, [], _ :: _, _, _, _, h, _ => h.elim
  | [], _, _, _ :: _, _, _, _, _, h, _ => h.elim
  | t :: _, _, _, [], _, _, _, _, h, _ => by cases t with | sl o e => cases o <;> exact h.elim | _ => exact h.elim
  | t :: _, _, _, _ :: _, [], _, _, _, h, _ => by cases t with | sl o e => cases o <;> exact h.elim | _ => exact h.elim
  | t :: _, _, _, _ :: _, _ :: _, [], _, _, _, h => by cases t with | sl o e => cases o <;> exact h.elim | _ => exact h.elim
  | t :: ts, x, y, o :: os, m :: ms, n :: ns, S, S', h, k => by
    cases t with
    | sl ow e =>
      cases ow with
      | false => exact ⟨k.1.trans h.1, LsBack.trans (ts := ts) h.2 k.2⟩
      | true =>
        obtain ⟨_, _, _, h, _⟩ := h
        obtain ⟨S1, S2, a, k, r⟩ := k
        exact ⟨S1, S2, a, LsBack.trans (ts := ts) h k, r⟩
    | mb e =>
      obtain ⟨_, _, _, h, _⟩ := h
      obtain ⟨S1, S2, a, k, r⟩ := k
      exact ⟨S1, S2, a, LsBack.trans (ts := ts) h k, r⟩
    | _ => exact ⟨k.1, LsBack.trans (ts := ts) h.2 k.2⟩

theorem LsBack_len {w : World} : ∀ {ts : List LT} {x : Tup ts} {old new : List Value} {S : Fp}, LsBack w ts x old new S → new.length = ts.length
  | [], _, [], [], _, _ => rfl
  | [], _, [], _ :: _, _, h => h.elim
  | [], _, _ :: _, _, _, h => h.elim
  | t :: _, _, [], _, _, h => by cases t with | sl o e => cases o <;> exact h.elim | _ => exact h.elim
  | t :: _, _, _ :: _, [], _, h => by cases t with | sl o e => cases o <;> exact h.elim | _ => exact h.elim
  | t :: ts, x, o :: os, n :: ns, S, h => by
    cases t with
    | sl ow e =>
      cases ow with
      | false => simp [LsBack_len (ts := ts) h.2]
      | true => obtain ⟨_, _, _, h, _⟩ := h; simp [LsBack_len (ts := ts) h]
    | mb e => obtain ⟨_, _, _, h, _⟩ := h; simp [LsBack_len (ts := ts) h]
    | _ => simp [LsBack_len (ts := ts) h.2]

theorem TysBack.trans {w0 w1 w2 : World} : ∀ {ts : List Ty} {x y : BTup ts} {vs : List Value} {S S' : Fp}, TysBack w0 w1 ts x vs S → TysBack w1 w2 ts y vs S' → TysBack w0 w2 ts y vs S'
  | [], _, _, [], _, _, _, _ => trivial
  | [], _, _, _ :: _, _, _, h, _ => h.elim
  | t :: _, _, _, [], _, _, h, _ => by cases t <;> exact h.elim
  | .v _ :: ts, x, y, _ :: vs, S, S', h, k => TysBack.trans (ts := ts) (vs := vs) h k
  | .a _ :: ts, x, y, _ :: vs, S, S', h, k => TysBack.trans (ts := ts) (vs := vs) h k
  | .r _ :: ts, x, y, _ :: vs, S, S', h, k => TysBack.trans (ts := ts) (vs := vs) h k
  | .p ls :: ts, x, y, v :: vs, S, S', h, k => by
    obtain ⟨A1, A2, ha, hr, _⟩ := h
    obtain ⟨B1, B2, ka, kr, d, s1, s2⟩ := k
    refine ⟨B1, B2, ?_, TysBack.trans hr kr, d, s1, s2⟩
    obtain ⟨b, o, old, mid, Sx, ev, hol, hoc, hmc, hbk, _⟩ := ha
    obtain ⟨b', o', old', new, Sy, ev', hol', hoc', hnc, hbk', r⟩ := ka
    rw [ev] at ev'
    simp only [Value.pointer.injEq, Option.some.injEq, adr, Addr.mk.injEq, and_true] at ev'
    obtain ⟨rfl, rfl⟩ := ev'
    obtain rfl := cells_same hmc hoc' (by rw [LsBack_len hbk, hol'])
    exact ⟨b, o, old, new, Sy, ev, hol, hoc, hnc, LsBack.trans hbk hbk', r⟩

theorem LfRel.cell' {w : World} {t : LT} {x : t.D} {v : Value} {S : Fp} {L : Nat → Prop} (h : LfRel w t x v S L) : v.oneCell' = true := h.cell

theorem LsBack.transD {w1 w2 : World} : ∀ {ts : List LT} {x : Tup ts} {y : Tup (deadL ts)} {o m n : List Value} {S S' : Fp}, LsBack w1 ts x o m S → LsBack w2 (deadL ts) y m n S' → LsBack w2 (deadL ts) y o n S'
  | [], _, _, [], [], [], _, _, _, _ => trivial
  | [], _, _, [], [], _ :: _, _, _, _, h => h.elim
  | [], _, _, [], _ :: _, _, _, _, h, _ => h.elim
  | [], _, _, _ :: _, _, _, _, _, h, _ => h.elim
  | t :: _, _, _, [], _, _, _, _, h, _ => by cases t with | sl o e => cases o <;> exact h.elim | _ => exact h.elim
  | t :: _, _, _, _ :: _, [], _, _, _, h, _ => by cases t with | sl o e => cases o <;> exact h.elim | _ => exact h.elim
  | t :: _, _, _, _ :: _, _ :: _, [], _, _, _, h => by cases t with | sl o e => cases o <;> exact h.elim | _ => exact h.elim
  | t :: ts, x, y, o :: os, m :: ms, n :: ns, S, S', h, k => by
    cases t with
    | sl ow e =>
      cases ow with
      | false => exact ⟨k.1.trans h.1, LsBack.transD (ts := ts) h.2 k.2⟩
      | true =>
        obtain ⟨_, _, _, h, _⟩ := h
        obtain ⟨S1, S2, a, k, r⟩ := k
        exact ⟨S1, S2, a, LsBack.transD (ts := ts) h k, r⟩
    | mb e =>
      obtain ⟨_, _, _, h, _⟩ := h
      obtain ⟨S1, S2, a, k, r⟩ := k
      exact ⟨S1, S2, a, LsBack.transD (ts := ts) h k, r⟩
    | _ => exact ⟨k.1, LsBack.transD (ts := ts) h.2 k.2⟩

theorem LsBack.lose {w : World} : ∀ {ts : List LT} {y : Tup (deadL ts)} {o n : List Value} {S : Fp}, LsBack w (deadL ts) y o n S → LsBack w (deadL ts) (toDL ts (fromDL ts y)) o n S
  | [], _, [], [], _, _ => trivial
  | [], _, [], _ :: _, _, h => h.elim
  | [], _, _ :: _, _, _, h => h.elim
  | t :: _, _, [], _, _, h => by cases t with | sl o e => cases o <;> exact h.elim | _ => exact h.elim
  | t :: _, _, _ :: _, [], _, h => by cases t with | sl o e => cases o <;> exact h.elim | _ => exact h.elim
  | t :: ts, y, o :: os, n :: ns, S, h => by
    cases t with
    | sl ow e =>
      cases ow with
      | false => exact ⟨h.1, LsBack.lose (ts := ts) h.2⟩
      | true =>
        obtain ⟨S1, S2, a, k, r⟩ := h
        exact ⟨S1, S2, a.cell', LsBack.lose (ts := ts) k, r⟩
    | mb e =>
      obtain ⟨S1, S2, a, k, r⟩ := h
      exact ⟨S1, S2, a, LsBack.lose (ts := ts) k, r⟩
    | _ => exact ⟨h.1, LsBack.lose (ts := ts) h.2⟩

theorem BoxBack.transD {w0 w1 w2 : World} {ls : List LT} {x : Tup ls} {y : Tup (deadL ls)} {v : Value} {S S' : Fp} (h : BoxBack w0 w1 ls x v S) (k : BoxBack w1 w2 (deadL ls) y v S') : BoxBack w0 w2 (deadL ls) y v S' := by
  obtain ⟨b, o, old, mid, Sx, ev, hol, hoc, hmc, hbk, _⟩ := h
  obtain ⟨b', o', old', new, Sy, ev', hol', hoc', hnc, hbk', r⟩ := k
  rw [ev] at ev'
  simp only [Value.pointer.injEq, Option.some.injEq, adr, Addr.mk.injEq, and_true] at ev'
  obtain ⟨rfl, rfl⟩ := ev'
  obtain rfl := cells_same hmc hoc' (by rw [LsBack_len hbk, hol', deadL_len])
  exact ⟨b, o, old, new, Sy, ev, by rw [deadL_len]; exact hol, hoc, hnc, LsBack.transD hbk hbk', r⟩
theorem BoxBack.trans {w0 w1 w2 : World} {ls : List LT} {x y : Tup ls} {v : Value} {S S' : Fp} (h : BoxBack w0 w1 ls x v S) (k : BoxBack w1 w2 ls y v S') : BoxBack w0 w2 ls y v S' := by
  obtain ⟨b, o, old, mid, Sx, ev, hol, hoc, hmc, hbk, _⟩ := h
  obtain ⟨b', o', old', new, Sy, ev', hol', hoc', hnc, hbk', r⟩ := k
  rw [ev] at ev'
  simp only [Value.pointer.injEq, Option.some.injEq, adr, Addr.mk.injEq, and_true] at ev'
  obtain ⟨rfl, rfl⟩ := ev'
  obtain rfl := cells_same hmc hoc' (by rw [LsBack_len hbk, hol'])
  exact ⟨b, o, old, new, Sy, ev, hol, hoc, hnc, LsBack.trans hbk hbk', r⟩

theorem TysBack.transD {w0 w1 w2 : World} : ∀ {ts : List Ty} {x : BTup ts} {vs : List Value} {S S' : Fp} (_ : TysBack w0 w1 ts x vs S) (d : List Bool) {y : BTup (deads d ts)}, TysBack w1 w2 (deads d ts) y vs S' → TysBack w0 w2 (deads d ts) y vs S'
  | _, _, _, _, _, h, [], _, k => h.trans k
  | [], _, [], _, _, _, _ :: _, _, _ => trivial
  | [], _, _ :: _, _, _, h, _ :: _, _, _ => h.elim
  | t :: _, _, [], _, _, h, _ :: _, _, _ => by cases t <;> exact h.elim
  | .v _ :: ts, x, _ :: vs, S, S', h, _ :: d, y, k => TysBack.transD (ts := ts) (vs := vs) h d k
  | .a _ :: ts, x, _ :: vs, S, S', h, _ :: d, y, k => TysBack.transD (ts := ts) (vs := vs) h d k
  | .r _ :: ts, x, _ :: vs, S, S', h, _ :: d, y, k => TysBack.transD (ts := ts) (vs := vs) h d k
  | .p ls :: ts, x, v :: vs, S, S', h, true :: d, y, k => by
    obtain ⟨A1, A2, ha, hr, _⟩ := h
    obtain ⟨B1, B2, ka, kr, dd, s1, s2⟩ := k
    exact ⟨B1, B2, ha.transD ka, TysBack.transD hr d kr, dd, s1, s2⟩
  | .p ls :: ts, x, v :: vs, S, S', h, false :: d, y, k => by
    obtain ⟨A1, A2, ha, hr, _⟩ := h
    obtain ⟨B1, B2, ka, kr, dd, s1, s2⟩ := k
    exact ⟨B1, B2, ha.trans ka, TysBack.transD hr d kr, dd, s1, s2⟩

theorem TysBack.lose {w0 w1 : World} : ∀ {d : List Bool} {ts : List Ty} {y : BTup (deads d ts)} {vs : List Value} {S : Fp}, TysBack w0 w1 (deads d ts) y vs S → TysBack w0 w1 (deads d ts) (toD d ts (fromD d ts y)) vs S
  | [], _, _, _, _, h => h
  | _ :: _, [], _, _, _, h => h
  | true :: d, t :: _, _, [], _, h => by cases t <;> exact h.elim
  | false :: d, t :: _, _, [], _, h => by cases t <;> exact h.elim
  | true :: d, .v _ :: ts, y, _ :: vs, S, h => TysBack.lose (d := d) (ts := ts) (vs := vs) h
  | true :: d, .a _ :: ts, y, _ :: vs, S, h => TysBack.lose (d := d) (ts := ts) (vs := vs) h
  | true :: d, .r _ :: ts, y, _ :: vs, S, h => TysBack.lose (d := d) (ts := ts) (vs := vs) h
  | false :: d, .v _ :: ts, y, _ :: vs, S, h => TysBack.lose (d := d) (ts := ts) (vs := vs) h
  | false :: d, .a _ :: ts, y, _ :: vs, S, h => TysBack.lose (d := d) (ts := ts) (vs := vs) h
  | false :: d, .r _ :: ts, y, _ :: vs, S, h => TysBack.lose (d := d) (ts := ts) (vs := vs) h
  | true :: d, .p ls :: ts, y, v :: vs, S, h => by
    obtain ⟨B1, B2, ka, kr, r⟩ := h
    refine ⟨B1, B2, ?_, TysBack.lose kr, r⟩
    obtain ⟨b, o, old, new, S1, e, h1, h2, h3, h4, h5⟩ := ka
    exact ⟨b, o, old, new, S1, e, h1, h2, h3, h4.lose, h5⟩
  | false :: d, .p ls :: ts, y, v :: vs, S, h => by
    obtain ⟨B1, B2, ka, kr, r⟩ := h
    exact ⟨B1, B2, ka, TysBack.lose kr, r⟩

theorem deadL_lent : ∀ {ts : List LT} {j : Nat} {e : E}, (deadL ts)[j]? = some (.sl false e) → ts[j]? = some (.sl false e)
  | [], _, _, h => h
  | t :: ts, 0, e, h => by
    cases t with
    | sl ow e' => cases ow with | false => exact h | true => simp [deadL] at h
    | _ => simp [deadL] at h
  | t :: ts, j + 1, e, h => by
    have h : (deadL ts)[j]? = some (.sl false e) := by
      cases t with
      | sl ow e' => cases ow <;> simpa [deadL] using h
      | _ => simpa [deadL] using h
    simpa using deadL_lent h

theorem HeldTys.dead {loc : Loc} {w0 : World} : ∀ {ts : List Ty} {vs : List Value} {b : Nat} (_ : HeldTys loc w0 ts vs b) (d : List Bool), HeldTys loc w0 (deads d ts) vs b
  | _, _, _, h, [] => h
  | [], _, _, h, _ :: _ => h
  | t :: _, [], _, h, _ :: _ => by cases t <;> exact h.elim
  | .v _ :: r, _ :: vs, b, h, _ :: d => HeldTys.dead (ts := r) (vs := vs) h d
  | .a _ :: r, _ :: vs, b, h, _ :: d => HeldTys.dead (ts := r) (vs := vs) h d
  | .r _ :: r, _ :: vs, b, h, _ :: d => HeldTys.dead (ts := r) (vs := vs) h d
  | .p ts :: r, v :: vs, b, h, true :: d => by
    obtain ⟨⟨b0, o0, old, e, hl, hc, hh, hp⟩, h⟩ := h
    exact ⟨⟨b0, o0, old, e, by rw [deadL_len]; exact hl, hc, fun j e' hj => hh j e' (deadL_lent hj), hp⟩, HeldTys.dead h d⟩
  | .p ts :: r, v :: vs, b, h, false :: d => ⟨h.1, HeldTys.dead h.2 d⟩

end Go.Tev
