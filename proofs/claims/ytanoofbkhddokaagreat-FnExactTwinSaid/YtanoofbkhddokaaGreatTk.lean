/- An evaluator of Go functions on plain values: lengths, cuts, places, conversions. Lemmas; no condition beyond those that each states. -/
import Derived.Test.YtanoofbkhddokaaGreatTj
set_option linter.unusedVariables false
set_option linter.unusedSimpArgs false
namespace Go.Tev

theorem rowLoc {rows : Rows} {loc : Loc} {w : World} {S : Fp} {L : Nat → Prop} (H : Heap rows loc w S L) {id : Nat} {ow : Bool} {e : E} {l : List e.C} {a : Option (Nat × Nat)} {cap len : Nat} {e' : E} {ips : Ips}
    (hr : rows id = some (.row ow e l)) (el : loc id = some (.row a cap len e' ips)) : e' = e ∧ len = l.length ∧ RowAt w ow e a cap l ips := by
  obtain ⟨a', cap', ips', el', hat⟩ := H.ok id _ hr
  rw [el] at el'
  simp only [Option.some.injEq, Pl.row.injEq] at el'
  obtain ⟨rfl, rfl, rfl, rfl, rfl⟩ := el'
  exact ⟨rfl, rfl, hat⟩

theorem elemE_some {P : Program} {t : TypeId} {e : E} (h : elemE P t = some e) : ∃ et i, P.underlying t = some (.slice et) ∧ P.info? et = some i ∧ i.size = e.sz ∧ i.bytes = e.bytes ∧ zeroOk e i.zero = true ∧ eKind P et = some e := by
  unfold elemE at h
  split at h
  · rename_i et hu
    unfold eOf at h
    split at h
    · rename_i k i hk hi
      cases hb : (Nat.beq i.size k.sz && (Nat.beq i.bytes k.bytes && zeroOk k i.zero)) with
      | false => rw [hb] at h; cases h
      | true =>
        rw [hb, cond_true, Option.some.injEq] at h
        subst h
        simp only [Bool.and_eq_true] at hb
        exact ⟨et, i, hu, hi, Nat.eq_of_beq_eq_true hb.1, Nat.eq_of_beq_eq_true hb.2.1, hb.2.2, hk⟩
    · cases h
  · cases h

theorem lenF_ok {P : Program} {rows : Rows} {loc : Loc} {w : World} {S : Fp} {L : Nat → Prop} (H : Heap rows loc w S L) {t ty : TypeId} {tv : TV} {v : Value} {f : F} (hv : TRel loc tv v) (h : lenF rows tv = some f) {et : TypeId} (ht : P.underlying t = some (.slice et)) :
    ∃ val, (Builtin.len_ #[t] ty #[v]).run P w = .ok val w ∧ f.checks = [] ∧ f.us = [] ∧ TRel loc f.v val := by
  have hsl : ∀ a n c, v = .slice a n c → (Builtin.len_ #[t] ty #[v]).run P w = .ok (.int .i64 n) w := by
    rintro a n c rfl
    simp [Builtin.len_, run_underlying ht, goInt]
  unfold lenF at h
  split at h
  · obtain rfl := hv
    obtain rfl := pureS_some h
    exact ⟨_, hsl _ _ _ rfl, rfl, rfl, rfl⟩
  · rename_i id
    split at h
    · rename_i ow e l hr
      obtain ⟨a, cap, len, e', ips, el, rfl⟩ := hv
      obtain ⟨rfl, rfl, _⟩ := rowLoc H hr el
      obtain rfl := pureS_some h
      exact ⟨_, hsl _ _ _ rfl, rfl, rfl, rfl⟩
    · cases h
  · rename_i id o
    split at h
    · rename_i ow e l hr
      obtain ⟨a, cap, len, e', ips, el, h0, hle, rfl⟩ := hv
      obtain ⟨rfl, rfl, _⟩ := rowLoc H hr el
      obtain rfl := pureS_some h
      refine ⟨_, hsl _ _ _ rfl, rfl, rfl, ?_⟩
      show Value.int .i64 _ = .int .i64 _
      congr 1
      omega
    · cases h
  · rename_i id n
    split at h
    · rename_i ow e l hr
      obtain ⟨a, cap, len, e', ips, el, h0, hle, rfl⟩ := hv
      obtain rfl := pureS_some h
      refine ⟨_, hsl _ _ _ rfl, rfl, rfl, ?_⟩
      show Value.int .i64 _ = .int .i64 _
      congr 1
      omega
    · cases h
  · rename_i id i
    split at h
    · rename_i ow l hr
      obtain ⟨a, cap, len, ips, el, h0, hi, rfl⟩ := hv
      obtain ⟨_, rfl, hat⟩ := rowLoc H hr el
      obtain rfl := pureS_some h
      refine ⟨_, hsl _ _ _ rfl, rfl, rfl, ?_⟩
      rw [rdE_eq hi, (hat.2.2.2.1 i.toNat hi).1]
      rfl
    · cases h
  · cases h

theorem elem_of {P : Program} {t e : TypeId} (h : P.underlying t = some (.slice e)) : P.underlying t = some (.slice (P.elem t)) := by
  have : P.elem t = e := by simp [Program.elem, h]
  rw [this]; exact h

theorem sizeE {P : Program} {t : TypeId} {e : E} (h : elemE P t = some e) (w : World) : (sizeOf (P.elem t)).run P w = .ok e.sz w := by
  obtain ⟨et, i, hu, hi, hs, _⟩ := elemE_some h
  have : P.elem t = et := by simp [Program.elem, hu]
  rw [this, run_sizeOf hi]
  simp [Program.cellsOf, hi, hs]

theorem sliced_eq (a : Option (Nat × Nat)) (q : Option Addr) (l h m s : Nat) (hn : a = none → m = l) : Go.sliced (pt a q) l h m s = slV (if m = l then a else a.map fun p => (p.1, p.2 + l * s)) q (h - l) (m - l) := by
  unfold Go.sliced slV
  congr 1
  split
  · rfl
  · cases a with
    | none => exact absurd (hn rfl) (by assumption)
    | some p => simp only [pt, Option.map_some]; rw [← adr_add]

def ORel (loc : Loc) : Option TV → Option Value → Prop
  | none, none => True | some x, some y => TRel loc x y | _, _ => False

theorem same_eq {e e' : E} (h : E.same e e' = true) : e = e' := by cases e <;> cases e' <;> first | rfl | (simp [E.same] at h)

theorem isRow_some {P : Program} {t : TypeId} {e : E} (h : isRow P t e = true) : elemE P t = some e := by
  unfold isRow at h
  split at h
  · rename_i e' he; rw [he, same_eq h]
  · cases h

theorem isStr_some {P : Program} {t : TypeId} (h : isStr P t = true) : P.underlying t = some .string := by
  unfold isStr at h
  split at h
  · rename_i hu; exact hu
  · cases h

theorem sliceF_ok {P : Program} {rows : Rows} {loc : Loc} {w : World} {S : Fp} {L : Nat → Prop} (H : Heap rows loc w S L) {t : TypeId} {tv : TV} {lo hi : Option TV} {v : Value} {vlo vhi : Option Value} {f : F} (hv : TRel loc tv v)
    (hlo : ORel loc lo vlo) (hhi : ORel loc hi vhi) (h : sliceF P rows t tv lo hi = some f) (hc : ∀ c, c ∈ f.checks → c = true) :
    ∃ val, (Instr.sliceAt t v vlo vhi none).run P w = .ok val w ∧ f.us = [] ∧ TRel loc f.v val := by
  unfold sliceF at h
  split at h
  · rename_i s k hi
    obtain rfl := hv
    cases vlo with
    | some _ => exact hlo.elim
    | none =>
    cases vhi with
    | none => exact hhi.elim
    | some vhi =>
    obtain rfl := hhi
    cases hb : isStr P t with
    | false => rw [hb] at h; cases h
    | true =>
      rw [hb, cond_true, Option.some.injEq] at h
      subst h
      have hs := isStr_some hb
      have h0 := of_decide_eq_true (hc _ (List.mem_cons_self))
      have h1 := of_decide_eq_true (hc _ (List.mem_cons_of_mem _ List.mem_cons_self))
      exact ⟨.string (s.extract 0 hi.toNat), by rw [run_sliceAt_string _ _ _ _ _ _ hs, run_slice_string_h (P := P) w t s hs k hi h0 h1], rfl, rfl⟩
  · rename_i s k lo
    obtain rfl := hv
    cases vhi with
    | some _ => exact hhi.elim
    | none =>
    cases vlo with
    | none => exact hlo.elim
    | some vlo =>
    obtain rfl := hlo
    cases hb : isStr P t with
    | false => rw [hb] at h; cases h
    | true =>
      rw [hb, cond_true, Option.some.injEq] at h
      subst h
      have hs := isStr_some hb
      have h0 := of_decide_eq_true (hc _ (List.mem_cons_self))
      have h1 := of_decide_eq_true (hc _ (List.mem_cons_of_mem _ List.mem_cons_self))
      exact ⟨.string (s.extract lo.toNat s.size), by rw [run_sliceAt_string _ _ _ _ _ _ hs, run_slice_string_l (P := P) w t s hs k lo h0 h1], rfl, rfl⟩
  · rename_i s k lo k' hi
    obtain rfl := hv
    cases vhi with
    | none => exact hhi.elim
    | some vhi =>
    cases vlo with
    | none => exact hlo.elim
    | some vlo =>
    obtain rfl := hlo
    obtain rfl := hhi
    cases hb : isStr P t with
    | false => rw [hb] at h; cases h
    | true =>
      rw [hb, cond_true, Option.some.injEq] at h
      subst h
      have hs := isStr_some hb
      have h0 := of_decide_eq_true (hc _ (List.mem_cons_self))
      have h1 := of_decide_eq_true (hc _ (List.mem_cons_of_mem _ List.mem_cons_self))
      have h2 := of_decide_eq_true (hc _ (List.mem_cons_of_mem _ (List.mem_cons_of_mem _ List.mem_cons_self)))
      have h3 := of_decide_eq_true (hc _ (List.mem_cons_of_mem _ (List.mem_cons_of_mem _ (List.mem_cons_of_mem _ List.mem_cons_self))))
      refine ⟨.string (s.extract lo.toNat hi.toNat), ?_, rfl, rfl⟩
      rw [run_sliceAt_string _ _ _ _ _ _ hs]
      simp [Instr.slice, run_underlying hs, Instr.sliceBounds, Instr.sliceBound, asIntOf, h0, h1, h2, h3, Int.toNat_of_nonneg h0]
  · rename_i id k lo
    obtain ⟨a, cap, len, e, ips, el, rfl⟩ := hv
    cases vhi with
    | some _ => exact hhi.elim
    | none =>
    cases vlo with
    | none => exact hlo.elim
    | some vlo =>
    obtain rfl := hlo
    split at h
    · rename_i ow e' l hr
      obtain ⟨rfl, rfl, hat⟩ := rowLoc H hr el
      cases hb : isRow P t e with
      | false => rw [hb] at h; cases h
      | true =>
        rw [hb, cond_true, Option.some.injEq] at h
        subst h
        have he := isRow_some hb
        obtain ⟨et, i, hu, _⟩ := elemE_some he
        have h0 := of_decide_eq_true (hc _ (List.mem_cons_self))
        have h1 := of_decide_eq_true (hc _ (List.mem_cons_of_mem _ List.mem_cons_self))
        refine ⟨slV (if cap = lo.toNat then a else a.map fun p => (p.1, p.2 + lo.toNat * e.sz)) ips.q (l.length - lo.toNat) (cap - lo.toNat), ?_, rfl, a, cap, _, e, ips, el, h0, by omega, rfl⟩
        rw [run_sliceAt_slice _ _ _ _ _ _ (elem_of hu), slV, run_slice_l (P := P) w t _ _ _ (elem_of hu) k lo h0 h1, sizeE he, Result.andThen_ok, sliced_eq _ _ _ _ _ _ (fun hn => by have := (hat.2.1 hn).1; have := hat.1; omega)]
    · cases h
  · rename_i id k hi
    obtain ⟨a, cap, len, e, ips, el, rfl⟩ := hv
    cases vlo with
    | some _ => exact hlo.elim
    | none =>
    cases vhi with
    | none => exact hhi.elim
    | some vhi =>
    obtain rfl := hhi
    split at h
    · rename_i ow e' l hr
      obtain ⟨rfl, rfl, hat⟩ := rowLoc H hr el
      cases hb : isRow P t e with
      | false => rw [hb] at h; cases h
      | true =>
        rw [hb, cond_true, Option.some.injEq] at h
        subst h
        have he := isRow_some hb
        obtain ⟨et, i, hu, _⟩ := elemE_some he
        have h0 := of_decide_eq_true (hc _ (List.mem_cons_self))
        have h1 := of_decide_eq_true (hc _ (List.mem_cons_of_mem _ List.mem_cons_self))
        have hle := hat.1
        refine ⟨slV a ips.q hi.toNat cap, ?_, rfl, a, cap, _, e, ips, el, h0, by omega, rfl⟩
        rw [run_sliceAt_slice _ _ _ _ _ _ (elem_of hu), slV, run_slice_h (P := P) w t _ _ _ (elem_of hu) k hi h0 (by omega), sizeE he, Result.andThen_ok, sliced_eq _ _ _ _ _ _ (fun hn => (hat.2.1 hn).1)]
        simp only [Nat.zero_mul, Nat.add_zero, Nat.sub_zero]
        congr 2
        split
        · rfl
        · cases a <;> rfl
    · cases h
  · rename_i id i k lo
    obtain ⟨a, cap, len, ips, el, hi0, hi, rfl⟩ := hv
    cases vhi with
    | some _ => exact hhi.elim
    | none =>
    cases vlo with
    | none => exact hlo.elim
    | some vlo =>
    obtain rfl := hlo
    split at h
    · rename_i ow l hr
      obtain ⟨_, rfl, hat⟩ := rowLoc H hr el
      cases hb : isRow P t .i with
      | false => rw [hb] at h; cases h
      | true =>
        rw [hb, cond_true, Option.some.injEq] at h
        subst h
        have he := isRow_some hb
        obtain ⟨et, ti, hu, _⟩ := elemE_some he
        have h0 := of_decide_eq_true (hc _ (List.mem_cons_self))
        have h1 := of_decide_eq_true (hc _ (List.mem_cons_of_mem _ List.mem_cons_self))
        rw [rdE_eq hi] at h1
        have hin := (hat.2.2.2.1 i.toNat hi).1
        refine ⟨slV (if (ips i.toNat).cap = lo.toNat then (ips i.toNat).a else (ips i.toNat).a.map fun p => (p.1, p.2 + lo.toNat)) (ips i.toNat).q ((ips i.toNat).len - lo.toNat) ((ips i.toNat).cap - lo.toNat), ?_, rfl, a, cap, _, ips, el, hi0, hi, h0, by omega, rfl⟩
        rw [run_sliceAt_slice _ _ _ _ _ _ (elem_of hu), slV, run_slice_l (P := P) w t _ _ _ (elem_of hu) k lo h0 (by rw [hin]; exact h1), sizeE he, Result.andThen_ok, sliced_eq _ _ _ _ _ _ (fun hn => by have g := hat.2.2.2.1 i.toNat hi; have := (g.2.2.1 hn).1; have := g.2.1; omega)]
        simp only [E.sz, Nat.mul_one]
    · cases h
  · cases h

theorem idxF_ok {P : Program} {rows : Rows} {loc : Loc} {w : World} {S : Fp} {L : Nat → Prop} (H : Heap rows loc w S L) {t : TypeId} {e : E} (he : elemE P t = some e) {sv : SV} {v : Value} {k : IntKind} {i : Int} {f : F} (hv : SRel loc sv v)
    (h : idxF rows e i sv = some f) (hc : ∀ c, c ∈ f.checks → c = true) :
    ∃ val, (Instr.indexAt t v (.int k i)).run P w = .ok val w ∧ f.us = [] ∧ TRel loc f.v val := by
  obtain ⟨et, ti, hu, hti, hsz, hrest⟩ := elemE_some he
  have hsize : (sizeOf et).run P w = .ok e.sz w := by rw [run_sizeOf hti]; simp [Program.cellsOf, hti, hsz]
  have hrun : ∀ (a : Option (Nat × Nat)) (q : Option Addr) (n c : Nat) (b o : Nat), a = some (b, o) → 0 ≤ i → i.toNat < n → (Instr.indexAt t (slV a q n c) (.int k i)).run P w = .ok (.pointer (some (adr (b, o + i.toNat * e.sz)))) w := by
    rintro a q n c b o rfl h0 h1
    have h2 : i < (n : Int) := by omega
    simp [Instr.indexAt, slV, pt, asIntOf, run_underlying hu, h0, h2, hsize, adr_add]
  unfold idxF at h
  split at h
  · rename_i id
    obtain ⟨a, cap, len, e', ips, el, rfl⟩ := hv
    split at h
    · rename_i ow e2 l hr
      obtain ⟨rfl, rfl, hat⟩ := rowLoc H hr el
      cases hb : E.same e e' with
      | false => rw [hb] at h; cases h
      | true =>
        obtain rfl := same_eq hb
        rw [hb, cond_true, Option.some.injEq] at h
        subst h
        have h0 := of_decide_eq_true (hc _ (List.mem_cons_self))
        have h1 := of_decide_eq_true (hc _ (List.mem_cons_of_mem _ List.mem_cons_self))
        cases a with
        | none => have := hat.2.1 rfl; have := hat.1; omega
        | some p => exact ⟨_, hrun _ _ _ _ p.1 p.2 rfl h0 (by omega), rfl, p.1, p.2, cap, _, e, ips, el, h0, by omega, by rw [Nat.add_zero]⟩
    · cases h
  · rename_i id o
    obtain ⟨a, cap, len, e', ips, el, ho0, hol, rfl⟩ := hv
    split at h
    · rename_i ow e2 l hr
      obtain ⟨rfl, rfl, hat⟩ := rowLoc H hr el
      cases hb : E.same e e' with
      | false => rw [hb] at h; cases h
      | true =>
        obtain rfl := same_eq hb
        rw [hb, cond_true, Option.some.injEq] at h
        subst h
        have h0 := of_decide_eq_true (hc _ (List.mem_cons_self))
        have h1 := of_decide_eq_true (hc _ (List.mem_cons_of_mem _ List.mem_cons_self))
        have hle := hat.1
        cases a with
        | none => have := hat.2.1 rfl; omega
        | some p =>
          have hne : ¬ cap = o.toNat := by omega
          refine ⟨_, hrun _ _ _ _ p.1 (p.2 + o.toNat * e.sz) (by rw [if_neg hne]; rfl) h0 (by omega), rfl, p.1, p.2, cap, _, e, ips, el, by omega, by omega, ?_⟩
          rw [Nat.add_zero, show (o + i).toNat = o.toNat + i.toNat by omega, Nat.add_mul, Nat.add_assoc]
    · cases h
  · rename_i id n
    obtain ⟨a, cap, len, e', ips, el, ho0, hol, rfl⟩ := hv
    split at h
    · rename_i ow e2 l hr
      obtain ⟨rfl, rfl, hat⟩ := rowLoc H hr el
      cases hb : E.same e e' with
      | false => rw [hb] at h; cases h
      | true =>
        obtain rfl := same_eq hb
        rw [hb, cond_true, Option.some.injEq] at h
        subst h
        have h0 := of_decide_eq_true (hc _ (List.mem_cons_self))
        have h1 := of_decide_eq_true (hc _ (List.mem_cons_of_mem _ List.mem_cons_self))
        have hle := hat.1
        cases a with
        | none => have := hat.2.1 rfl; omega
        | some p => exact ⟨_, hrun _ _ _ _ p.1 p.2 rfl h0 (by omega), rfl, p.1, p.2, cap, _, e, ips, el, h0, by omega, by rw [Nat.add_zero]⟩
    · cases h
  · rename_i id q
    obtain ⟨a, cap, len, ips, el, hq0, hq, rfl⟩ := hv
    split at h
    · rename_i ow l hr
      obtain ⟨_, rfl, hat⟩ := rowLoc H hr el
      simp only [Option.some.injEq] at h
      subst h
      have h0 := of_decide_eq_true (hc _ (List.mem_cons_self))
      have h1 := of_decide_eq_true (hc _ (List.mem_cons_of_mem _ List.mem_cons_self))
      rw [rdE_eq hq] at h1
      obtain ⟨g1, g2, g3, g4⟩ := hat.2.2.2.1 q.toNat hq
      have h1' : i < ((l[q.toNat]).length : Int) := h1
      cases hp : (ips q.toNat).a with
      | none => have := g3 hp; omega
      | some p =>
        refine ⟨_, hrun _ _ _ _ p.1 p.2 rfl h0 (by omega), rfl, a, cap, _, ips, p.1, p.2, el, hq0, hq, hp, h0, by omega, ?_⟩
        simp [E.sz]
    · cases h
  · cases h

theorem fieldOff_some {P : Program} {t : TypeId} {fi o : Nat} {ft : TypeId} (h : fieldOff P t fi = some (o, ft)) :
    ∃ fs f i, P.underlying t = some (.struct fs) ∧ fs[fi]? = some f ∧ f.offset = o ∧ f.type = ft ∧ P.info? ft = some i ∧ P.cellsOf ft ≠ 0 := by
  unfold fieldOff at h
  split at h
  · rename_i fs hu
    split at h
    · rename_i f hf
      cases hb : Nat.beq (P.cellsOf f.type) 0 with
      | true => rw [hb] at h; cases h
      | false =>
        rw [hb, cond_false, Option.some.injEq, Prod.mk.injEq] at h
        obtain ⟨rfl, rfl⟩ := h
        have hne : P.cellsOf f.type ≠ 0 := by intro e; rw [e] at hb; cases hb
        obtain ⟨i, hi⟩ := cellsOf_info hne
        exact ⟨fs, f, i, hu, by simpa using hf, rfl, rfl, hi, hne⟩
    · cases h
  · cases h

theorem fieldAt_run {P : Program} {t : TypeId} {fi o : Nat} {ft : TypeId} (h : fieldOff P t fi = some (o, ft)) (b k : Nat) (w : World) : (Instr.fieldAt t (.pointer (some (adr (b, k)))) fi).run P w = .ok (.pointer (some (adr (b, k + o)))) w := by
  obtain ⟨fs, f, i, hu, hf, rfl, rfl, hi, hne⟩ := fieldOff_some h
  simp [Instr.fieldAt, run_underlying hu, hf, Instr.sureAddr, fieldPlace, run_sizeOf hi, hne, adr_add]

theorem Rels.take {loc : Loc} : ∀ {l : List SV} {vs : List Value} (n : Nat), Rels loc l vs → Rels loc (l.take n) (vs.take n)
  | _, _, 0, _ => trivial
  | [], [], _ + 1, _ => trivial
  | _ :: _, _ :: _, n + 1, r => ⟨r.1, Rels.take n r.2⟩
  | [], _ :: _, _, r => r.elim
  | _ :: _, [], _, r => r.elim
theorem Rels.drop {loc : Loc} : ∀ {l : List SV} {vs : List Value} (n : Nat), Rels loc l vs → Rels loc (l.drop n) (vs.drop n)
  | _, _, 0, r => r
  | [], [], _ + 1, _ => trivial
  | _ :: _, _ :: _, n + 1, r => Rels.drop n r.2
  | [], _ :: _, _, r => r.elim
  | _ :: _, [], _, r => r.elim
theorem Rels.append {loc : Loc} : ∀ {l l' : List SV} {vs vs' : List Value}, Rels loc l vs → Rels loc l' vs' → Rels loc (l ++ l') (vs ++ vs')
  | [], _, [], _, _, r => r
  | _ :: _, _, _ :: _, _, r, r' => ⟨r.1, Rels.append r.2 r'⟩
  | [], _, _ :: _, _, r, _ => r.elim
  | _ :: _, _, [], _, r, _ => r.elim

/-- a part of a struct -/
theorem part_ok {P : Program} {loc : Loc} {w : World} {ft : TypeId} {o : Nat} {cs : List SV} {vs : List Value} {f : F} (hr : Rels loc cs vs)
    (h : (match aggK P ft with
      | some true => bif Nat.ble (o + P.cellsOf ft) cs.length then some (⟨[], .c (.agg ((cs.drop o).take (P.cellsOf ft))), []⟩ : F) else none
      | some false => (match cs[o]? with | some v => bif okS v then pureS v else none | none => none)
      | none => none) = some f) : ∃ val, (part ft vs.toArray o).run P w = .ok val w ∧ f.checks = [] ∧ f.us = [] ∧ TRel loc f.v val := by
  have hlen := hr.len
  split at h
  · rename_i hk
    obtain ⟨i, hi⟩ := aggK_info hk
    cases hb : Nat.ble (o + P.cellsOf ft) cs.length with
    | false => rw [hb] at h; cases h
    | true =>
      rw [hb, cond_true, Option.some.injEq] at h
      subst h
      refine ⟨.agg ((vs.drop o).take (P.cellsOf ft)).toArray, ?_, rfl, rfl, _, rfl, (hr.drop o).take _⟩
      simp only [part, Sem.run_bind, aggK_some hk, Result.andThen_ok, if_true, run_sizeOf hi, Sem.run_pure]
      congr 2
      apply Array.ext'
      simp [List.extract]
  · rename_i hk
    split at h
    · rename_i x hx
      cases ho : okS x with
      | false => rw [ho] at h; cases h
      | true =>
        rw [ho, cond_true] at h
        obtain rfl := pureS_some h
        obtain ⟨hj, rfl⟩ := List.getElem?_eq_some_iff.1 hx
        obtain ⟨h', r⟩ := hr.get o hj
        refine ⟨vs[o], ?_, rfl, rfl, CRel_of_SRel r⟩
        simp [part, aggK_some hk, h']
    · cases h
  · cases h

theorem convF_ok {P : Program} {rows : Rows} {loc : Loc} {w : World} {S : Fp} {L : Nat → Prop} (H : Heap rows loc w S L) {src dst : TypeId} {tv : TV} {v : Value} {f : F} (hv : TRel loc tv v)
    (h : convF P rows src dst tv = some f) : ∃ val, (convert src dst v).run P w = .ok val w ∧ f.checks = [] ∧ f.us = [] ∧ TRel loc f.v val := by
  unfold convF at h
  split at h
  · rename_i k n
    obtain rfl := hv
    split at h
    · rename_i ks kd hs hd
      obtain rfl := pureS_some h
      exact ⟨.int kd (kd.wrap n), by simp [convert, run_underlying hs, run_underlying hd, Conv.intToInt], rfl, rfl, rfl⟩
    · cases h
  · rename_i sv hni
    split at h
    · rename_i l io he hd hs
      obtain rfl := pureS_some h
      have hsv : SRel loc sv v := SRel_of_CRel hv (by rintro rfl; simp [sliceOf] at hs)
      obtain ⟨et, ti, hu, hti, hsz, hby, hz, hkd⟩ := elemE_some he
      have hu8 : P.underlying et = some (.int .u8) := by
        unfold eKind at hkd
        split at hkd <;> first | (rename_i h; exact h) | (simp at hkd; done) | (split at hkd <;> simp at hkd; done)
      have hstr : ∀ l : List Int, l.foldl (fun r n => r.push (UInt8.ofNat n.toNat)) ByteArray.empty = strOf l := by
        have : ∀ (l : List Int) (r : ByteArray), (l.foldl (fun r n => r.push (UInt8.ofNat n.toNat)) r).data.toList = r.data.toList ++ l.map fun n => UInt8.ofNat n.toNat := by
          intro l
          induction l with
          | nil => intro r; simp
          | cons n l ih => intro r; simp only [List.foldl_cons, ih, List.map_cons]; simp [ByteArray.push]
        intro l
        have h1 := this l ByteArray.empty
        unfold strOf
        cases hx : l.foldl (fun r n => r.push (UInt8.ofNat n.toNat)) ByteArray.empty with
        | mk d =>
          rw [hx] at h1
          congr 1
          apply Array.ext'
          simpa using h1
      rcases sliceOf_ok H hs hsv with ⟨rfl, rfl, rfl⟩ | ⟨id, o, e', row, ow, a, cap, ips, rfl, hr, rfl, hat, _⟩
      · refine ⟨.string (strOf []), ?_, rfl, rfl, rfl⟩
        rw [run_convert_bytes_string w src dst et none 0 0 hu hu8 hd]
        simp [Conv.bytesToString, strOf]
        rfl
      · refine ⟨.string (strOf l), ?_, rfl, rfl, rfl⟩
        unfold slV
        rw [run_convert_bytes_string w src dst et _ _ _ hu hu8 hd]
        cases a with
        | none =>
          have h0 := hat.2.1 rfl
          have h1 := hat.1
          have : l = [] := List.eq_nil_of_length_eq_zero (by omega)
          subst this
          simp only [pt]
          cases ips.q with
          | none =>
            simp [Conv.bytesToString, strOf]
            rfl
          | some x =>
            simp [Conv.bytesToString, loadCells, loadCellsFrom, strOf]
            rfl
        | some p =>
          rw [← hstr]
          refine run_bytesToString w (adr p) l.length cap l ?_
          have := run_loadCells_list (P := P) w (adr p) (l.map (Value.int .u8)) (fun j u hj => by
            obtain ⟨hj', rfl⟩ := List.getElem?_eq_some_iff.1 hj
            have hj2 : j < l.length := by simpa using hj'
            have := (hat.2.2.1 p.1 p.2 rfl).1 j hj2 0 (by decide)
            rw [show adr p = adr (p.1, p.2) from rfl, adr_add]
            simpa [E.sz, elV] using this)
          simpa using this
    · cases h
  · cases h

end Go.Tev
