/- An evaluator of Go functions on plain values: how a piece of code begins and ends. No condition beyond those that each lemma states. -/
import Derived.Test.YtanoofbkhddokaaGreatUa
set_option linter.unusedSimpArgs false
set_option linter.unusedVariables false
namespace Go.Tev

/-! ### what is one's own has nothing lent in it -/

theorem takeL_own_ls {rows : Rows} {t : LT} {v : SV} {x : t.D} {us : Us} {ls : List Nat} (ho : t.own = true) (h : takeL rows t v = some (x, us, ls)) : ls = [] := by
  unfold takeL at h
  split at h
  · rename_i k k' n
    cases hk : kindSame k k' with
    | false => rw [hk] at h; cases h
    | true => rw [hk, cond_true] at h; simp only [Option.some.injEq, Prod.mk.injEq] at h; exact h.2.2.symm
  · simp only [Option.some.injEq, Prod.mk.injEq] at h; exact h.2.2.symm
  · simp only [Option.some.injEq, Prod.mk.injEq] at h; exact h.2.2.symm
  · rename_i f f'
    cases hk : Nat.beq f f' with
    | false => rw [hk] at h; cases h
    | true => rw [hk, cond_true] at h; simp only [Option.some.injEq, Prod.mk.injEq] at h; exact h.2.2.symm
  · rename_i own e
    simp only [LT.own] at ho
    subst ho
    split at h
    · simp only [Option.some.injEq, Prod.mk.injEq] at h; exact h.2.2.symm
    · rename_i id o _
      cases o with
      | true => simp only [cond_true, Option.some.injEq, Prod.mk.injEq] at h; exact h.2.2.symm
      | false => simp at h
    · cases h
  · cases h
  · rename_i e _
    split at h
    · simp only [Option.some.injEq, Prod.mk.injEq] at h; exact h.2.2.symm
    · rename_i id o _
      cases o with
      | true => simp only [cond_true, Option.some.injEq, Prod.mk.injEq] at h; exact h.2.2.symm
      | false => cases h
    · cases hk : okS v with
      | false => rw [hk] at h; cases h
      | true => rw [hk, cond_true] at h; simp only [Option.some.injEq, Prod.mk.injEq] at h; exact h.2.2.symm
  · cases h

theorem takeLs_own_ls : ∀ {ts : List LT} {rows : Rows} {vs : List SV} {x : Tup ts} {us : Us} {ls : List Nat}, allOwn ts = true → takeLs rows ts vs = some (x, us, ls) → ls = []
  | [], rows, [], x, us, ls, _, h => by simp only [takeLs, Option.some.injEq, Prod.mk.injEq] at h; exact h.2.2.symm
  | [], _, _ :: _, _, _, _, _, h => by simp [takeLs] at h
  | _ :: _, _, [], _, _, _, _, h => by simp [takeLs] at h
  | t :: ts, rows, v :: vs, x, us, ls, ho, h => by
    simp only [allOwn, Bool.and_eq_true] at ho
    simp only [takeLs] at h
    split at h
    · rename_i h1
      split at h
      · rename_i h2
        simp only [Option.some.injEq, Prod.mk.injEq] at h
        rw [← h.2.2, takeL_own_ls ho.1 h1, takeLs_own_ls ho.2 h2]
        rfl
      · cases h
    · cases h

theorem takeTys_own_ls : ∀ {ts : List Ty} {rows : Rows} {vs : List TV} {x : PTup ts} {us : Us} {ls : List Nat}, owns ts = true → takeTys rows ts vs = some (x, us, ls) → ls = []
  | [], rows, [], x, us, ls, _, h => by simp only [takeTys, Option.some.injEq, Prod.mk.injEq] at h; exact h.2.2.symm
  | [], _, _ :: _, _, _, _, _, h => by simp [takeTys] at h
  | _ :: _, _, [], _, _, _, _, h => by simp [takeTys] at h
  | t :: ts, rows, v :: vs, x, us, ls, ho, h => by
    simp only [owns, Bool.and_eq_true] at ho
    simp only [takeTys] at h
    split at h
    · rename_i x1 us1 ls1 h1
      split at h
      · rename_i h2
        simp only [Option.some.injEq, Prod.mk.injEq] at h
        have : ls1 = [] := by
          cases t with
          | p ts =>
            cases v with
            | tup l => simp [takeTy] at h1
            | c c => cases c with
              | agg l => simp [takeTy] at h1
              | s sv => cases sv with
                | ptr id off =>
                  simp only [takeTy] at h1
                  split at h1
                  · cases hb : Nat.ble (off + ts.length) (List.length ‹List SV›) with
                    | false => rw [hb] at h1; cases h1
                    | true =>
                      rw [hb, cond_true] at h1
                      split at h1
                      · split at h1
                        · rename_i h3
                          simp only [Option.some.injEq, Prod.mk.injEq] at h1
                          rw [← h1.2.2]
                          exact takeLs_own_ls ho.1 h3
                        · cases h1
                      · cases h1
                  · cases h1
                | _ => simp [takeTy] at h1
          | v t =>
            cases v with
            | tup l => simp [takeTy] at h1
            | c c => cases c with
              | agg l => simp [takeTy] at h1
              | s s => exact takeL_own_ls ho.1 h1
          | a ts =>
            cases v with
            | tup l => simp [takeTy] at h1
            | c c => cases c with
              | s l => simp [takeTy] at h1
              | agg s => exact takeLs_own_ls ho.1 h1
          | r ts => simp [Ty.own] at ho
        rw [← h.2.2, this, takeTys_own_ls ho.2 h2]
        rfl
      · cases h
    · cases h

theorem LfRel.own {w : World} {t : LT} {x : t.D} {v : Value} {S : Fp} {L L' : Nat → Prop} (ho : t.own = true) (h : LfRel w t x v S L) : LfRel w t x v S L' := by
  cases t with
  | sl o e => simp only [LT.own] at ho; subst ho; exact h
  | _ => exact h

theorem LsRel.own {w : World} {L L' : Nat → Prop} : ∀ {ts : List LT} {x : Tup ts} {vs : List Value} {S : Fp}, allOwn ts = true → LsRel w ts x vs S L → LsRel w ts x vs S L'
  | [], _, [], _, _, _ => trivial
  | [], _, _ :: _, _, _, h => h.elim
  | _ :: _, _, [], _, _, h => h.elim
  | t :: ts, x, v :: vs, S, ho, h => by
    simp only [allOwn, Bool.and_eq_true] at ho
    obtain ⟨S1, S2, a, b, c⟩ := h
    exact ⟨S1, S2, a.own ho.1, b.own ho.2, c⟩

theorem TysRel.own {w : World} {L L' : Nat → Prop} : ∀ {ts : List Ty} {x : PTup ts} {vs : List Value} {S : Fp}, owns ts = true → TysRel w ts x vs S L → TysRel w ts x vs S L'
  | [], _, [], _, _, _ => trivial
  | [], _, _ :: _, _, _, h => h.elim
  | _ :: _, _, [], _, _, h => h.elim
  | t :: ts, x, v :: vs, S, ho, h => by
    simp only [owns, Bool.and_eq_true] at ho
    obtain ⟨S1, S2, a, b, c⟩ := h
    refine ⟨S1, S2, ?_, b.own ho.2, c⟩
    cases t with
    | v t => exact LfRel.own (t := t) ho.1 a
    | a ts => obtain ⟨cs, e, r⟩ := a; exact ⟨cs, e, r.own ho.1⟩
    | p ts => obtain ⟨b, o, cs, S1, e, q1, q2, q3, r, q4⟩ := a; exact ⟨b, o, cs, S1, e, q1, q2, q3, r.own ho.1, q4⟩
    | r ts => simp [Ty.own] at ho

/-! ### the structs that come back -/

def HeldLs (loc : Loc) (ts : List LT) (old : List Value) (b : Nat) : Prop := ∀ j e, ts[j]? = some (.sl false e) → ∃ u, old[j]? = some u ∧ SRel loc (.slf (b + j)) u

def HeldTys (loc : Loc) (w0 : World) : List Ty → List Value → Nat → Prop
  | [], [], _ => True
  | .p ts :: r, v :: vs, b => (∃ b0 o0 old, v = .pointer (some (adr (b0, o0))) ∧ old.length = ts.length ∧ CellsAt w0 b0 o0 old ∧ HeldLs loc ts old b ∧ SRel loc (.ptr (b + 63) 0) v) ∧ HeldTys loc w0 r vs (b + 64)
  | .v _ :: r, _ :: vs, b => HeldTys loc w0 r vs (b + 64)
  | .a _ :: r, _ :: vs, b => HeldTys loc w0 r vs (b + 64)
  | .r _ :: r, _ :: vs, b => HeldTys loc w0 r vs (b + 64)
  | _, _, _ => False

theorem HeldTys.mono {loc loc' : Loc} {w0 : World} (h1 : ∀ id u, SRel loc (.slf id) u → SRel loc' (.slf id) u) (h2 : ∀ id u, SRel loc (.ptr id 0) u → SRel loc' (.ptr id 0) u) : ∀ {ts : List Ty} {vs : List Value} {b : Nat}, HeldTys loc w0 ts vs b → HeldTys loc' w0 ts vs b
  | [], [], _, _ => trivial
  | [], _ :: _, _, h => h.elim
  | t :: _, [], _, h => by cases t <;> exact h.elim
  | .v _ :: r, _ :: vs, b, h => HeldTys.mono h1 h2 (ts := r) (vs := vs) h
  | .a _ :: r, _ :: vs, b, h => HeldTys.mono h1 h2 (ts := r) (vs := vs) h
  | .r _ :: r, _ :: vs, b, h => HeldTys.mono h1 h2 (ts := r) (vs := vs) h
  | .p ts :: r, v :: vs, b, h => by
    obtain ⟨⟨b0, o0, old, e, hl, hc, hh, hp⟩, h⟩ := h
    exact ⟨⟨b0, o0, old, e, hl, hc, fun j e' hj => (hh j e' hj).imp fun u hu => ⟨hu.1, h1 _ _ hu.2⟩, h2 _ _ hp⟩, HeldTys.mono h1 h2 h⟩

theorem heldOk_spec : ∀ {ts : List LT} {cs : List SV} {b : Nat}, heldOk ts cs b = true → cs.length = ts.length ∧ ∀ (j : Nat) (e : E), ts[j]? = some (.sl false e) → cs[j]? = some (.slf (b + j))
  | [], [], _, _ => ⟨rfl, fun j e h => by simp at h⟩
  | [], _ :: _, _, h => by simp [heldOk] at h
  | t :: ts, [], _, h => by cases t with | sl o e => cases o <;> simp [heldOk] at h | _ => simp [heldOk] at h
  | t :: ts, c :: cs, b, h => by
    have rest : heldOk ts cs (b + 1) = true → (∀ e, t = .sl false e → c = .slf b) → (c :: cs).length = (t :: ts).length ∧ ∀ (j : Nat) (e : E), (t :: ts)[j]? = some (.sl false e) → (c :: cs)[j]? = some (.slf (b + j)) := fun h hc => by
      obtain ⟨h1, h2⟩ := heldOk_spec h
      refine ⟨by simp [h1], fun j e hj => ?_⟩
      cases j with
      | zero =>
        simp only [List.getElem?_cons_zero, Option.some.injEq] at hj ⊢
        exact hc e hj
      | succ j =>
        simp only [List.getElem?_cons_succ] at hj ⊢
        rw [h2 j e hj, Nat.add_assoc, Nat.add_comm 1 j]
    cases t with
    | sl o e =>
      cases o with
      | true => exact rest (by simpa only [heldOk] using h) (fun e h => by cases h)
      | false =>
        cases c with
        | slf id =>
          simp only [heldOk, Bool.and_eq_true] at h
          exact rest h.2 (fun _ _ => by rw [Nat.eq_of_beq_eq_true h.1])
        | _ => simp [heldOk] at h
    | _ => exact rest (by simpa only [heldOk] using h) (fun e h => by cases h)

theorem LsBack.mono {w : World} {S S' : Fp} (hs : Sub2 S S') : ∀ {ts : List LT} {x : Tup ts} {old new : List Value}, LsBack w ts x old new S → LsBack w ts x old new S'
  | [], _, [], [], _ => trivial
  | [], _, _ :: _, _, h => h.elim
  | [], _, [], _ :: _, h => h.elim
  | t :: _, _, [], _, h => by cases t with | sl o e => cases o <;> exact h.elim | _ => exact h.elim
  | t :: _, _, _ :: _, [], h => by cases t with | sl o e => cases o <;> exact h.elim | _ => exact h.elim
  | t :: ts, x, o :: old, v :: new, h => by
    cases t with
    | sl o e =>
      cases o with
      | false => exact ⟨h.1, LsBack.mono hs (ts := ts) h.2⟩
      | true =>
        obtain ⟨Sa, Sb, ra, rb, d, sa, sb⟩ := h
        exact ⟨Sa, Sb, ra, rb, d, fun b o h => hs b o (sa b o h), fun b o h => hs b o (sb b o h)⟩
    | mb e =>
      obtain ⟨Sa, Sb, ra, rb, d, sa, sb⟩ := h
      exact ⟨Sa, Sb, ra, rb, d, fun b o h => hs b o (sa b o h), fun b o h => hs b o (sb b o h)⟩
    | _ => exact ⟨h.1, LsBack.mono hs (ts := ts) h.2⟩

theorem LsBack_of {w : World} {L : Nat → Prop} : ∀ {ts : List LT} {x : Tup ts} {old new : List Value} {S : Fp}, LsRel w ts x new S L → old.length = ts.length → (∀ (j : Nat) (e : E), ts[j]? = some (.sl false e) → new[j]? = old[j]?) → LsBack w ts x old new S
  | [], _, [], [], _, _, _, _ => trivial
  | [], _, _ :: _, _, _, _, h, _ => by simp at h
  | [], _, _, _ :: _, _, h, _, _ => h.elim
  | _ :: _, _, [], _, _, _, h, _ => by simp at h
  | _ :: _, _, _, [], _, h, _, _ => h.elim
  | t :: ts, x, o :: old, v :: new, S, h, hl, hj => by
    obtain ⟨S1, S2, r1, r2, d, s1, s2⟩ := h
    have ih := LsBack_of (ts := ts) (x := x.2) r2 (by simpa using hl) (fun j e h => by have := hj (j + 1) e (by simpa using h); simpa using this)
    have ihS : LsBack w ts x.2 old new S := ih.mono s2
    cases t with
    | sl o' e =>
      cases o' with
      | false =>
        have := hj 0 e rfl
        simp only [List.getElem?_cons_zero, Option.some.injEq] at this
        exact ⟨this, ihS⟩
      | true => exact ⟨S1, S2, r1, ih, d, s1, s2⟩
    | mb e => exact ⟨S1, S2, r1, ih, d, s1, s2⟩
    | _ => exact ⟨r1, ihS⟩

theorem slf_fun {loc : Loc} {id : Nat} {u v : Value} (h : SRel loc (.slf id) u) (k : SRel loc (.slf id) v) : u = v := by
  obtain ⟨a, cap, len, e, ips, el, rfl⟩ := h
  obtain ⟨a', cap', len', e', ips', el', rfl⟩ := k
  rw [el] at el'
  simp only [Option.some.injEq, Pl.row.injEq] at el'
  obtain ⟨rfl, rfl, rfl, rfl, rfl⟩ := el'
  rfl

theorem takeBoxes_ok {loc : Loc} {w w0 : World} {S : Fp} {L : Nat → Prop} : ∀ {ins : List Ty} {rows : Rows} {b : Nat} {y : BTup ins} {args : List Value} (_ : Heap rows loc w S L), takeBoxes rows ins b = some y → HeldTys loc w0 ins args b →
    ∃ SB, Sub2 SB (Owned rows loc) ∧ TysBack w0 w ins y args SB ∧ (allP ins = true → TysRel w ins (bToP ins y) args SB (fun _ => True))
  | [], rows, b, y, args, H, h, hh => by
    cases args with
    | nil => exact ⟨noFp, fun _ _ h => h.elim, trivial, fun _ => trivial⟩
    | cons _ _ => exact hh.elim
  | t :: _, _, _, _, [], _, _, hh => by cases t <;> exact hh.elim
  | .v t :: r, rows, b, y, _ :: args, H, h, hh => by
    obtain ⟨SB, h1, h2, _⟩ := takeBoxes_ok (ins := r) (args := args) H h hh
    exact ⟨SB, h1, h2, fun h => by simp [allP, Ty.isP] at h⟩
  | .a t :: r, rows, b, y, _ :: args, H, h, hh => by
    obtain ⟨SB, h1, h2, _⟩ := takeBoxes_ok (ins := r) (args := args) H h hh
    exact ⟨SB, h1, h2, fun h => by simp [allP, Ty.isP] at h⟩
  | .r t :: r, rows, b, y, _ :: args, H, h, hh => by
    obtain ⟨SB, h1, h2, _⟩ := takeBoxes_ok (ins := r) (args := args) H h hh
    exact ⟨SB, h1, h2, fun h => by simp [allP, Ty.isP] at h⟩
  | .p ts :: r, rows, b, y, v :: args, H, h, hh => by
    obtain ⟨⟨b0, o0, old, ev, hol, hoc, hheld, hptr⟩, hrest⟩ := hh
    simp only [takeBoxes] at h
    split at h
    · rename_i cs hrow
      cases hok : heldOk ts cs b with
      | false => rw [hok] at h; cases h
      | true =>
        rw [hok, cond_true] at h
        split at h
        · rename_i x us ls htk
          cases hal : aliveR false (appR rows us) ls with
          | false => rw [hal] at h; cases h
          | true =>
            rw [hal, cond_true] at h
            split at h
            · rename_i xs hxs
              simp only [Option.some.injEq] at h
              subst h
              obtain ⟨hlen, hget⟩ := heldOk_spec hok
              obtain ⟨S1, T, _, k, _⟩ := takeTy_ok H htk (v := v) hptr
              obtain ⟨SB, hsb, hback, hrelB⟩ := takeBoxes_ok (ins := r) T.heap hxs hrest
              obtain ⟨b1, o1, new, Sx, ev', hob, hnl, hnc, hls, s1, s2, d⟩ := k false _ (.refl _) hal
              have hpos : b1 = b0 ∧ o1 = o0 := by
                rw [ev] at ev'
                simp only [Value.pointer.injEq, Option.some.injEq, adr, Addr.mk.injEq, and_true] at ev'
                exact ⟨ev'.1.symm, ev'.2.symm⟩
              obtain ⟨rfl, rfl⟩ := hpos
              refine ⟨orFp S1 SB, fun b o h => h.elim (T.from_ b o) (fun h => (T.apart b o (hsb b o h)).1), ⟨S1, SB, ⟨b1, o1, old, new, Sx, ev, hol, hoc, hnc, LsBack_of hls hol ?_, s1, s2, d⟩, hback, fun b o h k => (T.apart b o (hsb b o k)).2 h, fun _ _ h => .inl h, fun _ _ h => .inr h⟩, ?_⟩
              rotate_left
              · exact fun hal' => by simp only [allP, Bool.and_eq_true] at hal'; exact ⟨S1, SB, ⟨b1, o1, new, Sx, ev, hob, hnl, hnc, hls.mono (fun _ _ h => h) (fun _ _ => trivial), s1, s2, d⟩, hrelB hal'.2, fun b o h k => (T.apart b o (hsb b o k)).2 h, fun _ _ h => .inl h, fun _ _ h => .inr h⟩
              intro j e hj
              obtain ⟨u, hu, hur⟩ := hheld j e hj
              rw [hu]
              have hjl : j < ts.length := (List.getElem?_eq_some_iff.1 hj).1
              obtain ⟨b2, o2, el2, _, hcells⟩ := H.ok _ _ hrow
              obtain ⟨b3, o3, n3, el3, ev3⟩ := hptr
              rw [el2] at el3
              simp only [Option.some.injEq, Pl.box.injEq] at el3
              obtain ⟨rfl, rfl, _⟩ := el3
              rw [ev] at ev3
              simp only [Value.pointer.injEq, Option.some.injEq, adr, Addr.mk.injEq, and_true, Nat.add_zero] at ev3
              obtain ⟨rfl, rfl⟩ := ev3
              have hcj := hcells j (by omega)
              have hcs := hget j e hj
              have : cs[j]'(by omega) = .slf (b + j) := by
                rw [List.getElem?_eq_getElem (by omega)] at hcs
                exact Option.some.inj hcs
              rw [this] at hcj
              obtain ⟨_, v2, hv2, hr2, _⟩ := hcj
              have hn := hnc j (by omega)
              rw [hv2] at hn
              rw [List.getElem?_eq_getElem (by omega), ← Option.some.inj hn, slf_fun hr2 hur]
            · cases h
        · cases h
    · cases h

end Go.Tev
