/- An evaluator of Go functions on plain values: append. No condition beyond those that each lemma states. -/
import Derived.Test.YtanoofbkhddokaaGreatTm
set_option linter.unusedSimpArgs false
set_option linter.unusedVariables false
namespace Go.Tev

def catIp (n : Nat) (p q : Ips) : Ips := ⟨fun i => if i < n then p i else q (i - n), p.q⟩

theorem flat_cat (e : E) (l l2 : List e.C) (p q : Ips) : flatE e (l ++ l2) (catIp l.length p q) = flatE e l p ++ flatE e l2 q := by
  rw [flat_append]
  congr 1
  · exact flat_congr e l _ _ fun i hi => by simp [catIp, hi]
  · exact flat_congr e l2 _ _ fun i hi => by simp [catIp, show ¬ i + l.length < l.length by omega]

/-- two rows' inner rows, one after the other -/
theorem inner_cat {w w' : World} {e : E} {l l2 : List e.C} {p q : Ips} {out : Option Nat} {o1 o2 : Option Nat} (h1 : InnerAt w true o1 e l p) (h2 : e = .n → InnerAt w true o2 e l2 q)
    (f1 : e = .n → ∀ i x, i < l.length → InAt w true x (p i) → InAt w' true x (p i)) (f2 : e = .n → ∀ i x, i < l2.length → InAt w true x (q i) → InAt w' true x (q i))
    (hd : e = .n → ∀ i j, i < l.length → j < l2.length → ∀ b o b' o', (p i).a = some (b, o) → (q j).a = some (b', o') → b ≠ b')
    (ho : e = .n → ∀ i, i < l.length → ∀ b o, (p i).a = some (b, o) → out ≠ some b) (ho2 : e = .n → ∀ i, i < l2.length → ∀ b o, (q i).a = some (b, o) → out ≠ some b) : InnerAt w' true out e (l ++ l2) (catIp l.length p q) := by
  cases e with
  | n =>
    obtain ⟨a1, a2⟩ := h1
    obtain ⟨b1, b2⟩ := h2 rfl
    refine ⟨fun i hi => ?_, fun _ => ⟨fun i j hi hj hij b o b' o' e1 e2 => ?_, fun i hi b o ep => ?_⟩⟩
    · have hi' := hi
      simp only [List.length_append] at hi'
      by_cases h : i < l.length
      · have := f1 rfl i l[i] h (a1 i h)
        rw [List.getElem_append_left h]
        simpa only [catIp, h, if_true] using this
      · have := f2 rfl (i - l.length) (l2[i - l.length]'(by omega)) (by omega) (b1 _ (by omega))
        rw [List.getElem_append_right (by omega)]
        simpa only [catIp, h, if_false] using this
    · have hi' := hi
      have hj' := hj
      simp only [List.length_append] at hi' hj'
      by_cases h : i < l.length <;> by_cases k : j < l.length <;> simp only [catIp, h, k, if_true, if_false] at e1 e2
      · exact (a2 rfl).1 i j h k hij b o b' o' e1 e2
      · exact hd rfl i _ h (by omega) b o b' o' e1 e2
      · exact fun hb => hd rfl j _ k (by omega) b' o' b o e2 e1 hb.symm
      · exact (b2 rfl).1 _ _ (by omega) (by omega) (by omega) b o b' o' e1 e2
    · have hi' := hi
      simp only [List.length_append] at hi'
      by_cases h : i < l.length <;> simp only [catIp, h, if_true, if_false] at ep
      · exact ho rfl i h b o ep
      · exact ho2 rfl _ (by omega) b o ep
  | _ => trivial

theorem inner_any {w : World} {e : E} {l : List e.C} {p : Ips} {o1 : Option Nat} (h : InnerAt w true o1 e l p) : InnerAt w true none e l p := by
  cases e with
  | n => exact ⟨h.1, fun ho => ⟨(h.2 ho).1, fun _ _ _ _ _ hh => by cases hh⟩⟩
  | _ => trivial

/-- append, once both are handed over -/
theorem appendCore {P : Program} {rows rows2 : Rows} {loc : Loc} {w : World} {S S1 : Fp} {L : Nat → Prop} (H : Heap rows loc w S L) (T : Taken rows rows2 loc w S L S1) {fresh : Nat} (hid : rows2 fresh = none) {t ty : TypeId} {e : E} (he : elemE P t = some e)
    {l l2 : List e.C} {a a2 : Option (Nat × Nat)} {cap cap2 : Nat} {ips ips2 : Ips} {ow2 : Bool} (R1 : RowAt w true e a cap l ips) (B1 : ∀ b, plBlk a l.length e ips b → ∀ o, S1 b o)
    (R2 : RowAt w ow2 e a2 cap2 l2 ips2) (I2 : e = .n → ow2 = true ∧ (∀ b, plBlk a2 l2.length e ips2 b → ∀ o, S1 b o) ∧ ∀ b, plBlk a l.length e ips b → ¬ plBlk a2 l2.length e ips2 b)
    {us : Us} (hus : appR rows us = rows2) (hsc : scrubs us = []) (hmost : l.length + l2.length ≤ e.most) :
    ∃ val w', (Builtin.append_ #[t, t] ty #[slV a ips.q l.length cap, slV a2 ips2.q l2.length cap2]).run P w = .ok val w' ∧ Done rows loc w S L (us ++ [(fresh, .row true e (l ++ l2))]) (.c (.s (.slf fresh))) val w' := by
  obtain ⟨et, i, hu, hi, hsz, hby, hz, _⟩ := elemE_some he
  obtain ⟨z, hz1, hz2⟩ := zero_cells hz
  have hS1 : Sub2 S1 S := Owned.mono T H
  have hp := esz_pos e
  have pl1 : e = .n → ∀ i, i < l.length → ∀ b o, (ips i).a = some (b, o) → plBlk a l.length e ips b := fun en i hi b o ep => .inr ⟨en, i, hi, o, ep⟩
  have pl2 : e = .n → ∀ i, i < l2.length → ∀ b o, (ips2 i).a = some (b, o) → plBlk a2 l2.length e ips2 b := fun en i hi b o ep => .inr ⟨en, i, hi, o, ep⟩
  have hi2 : e = .n → InnerAt w true (a2.map (·.1)) e l2 ips2 := fun en => by
    have := (I2 en).1
    subst this
    exact R2.2.2.2
  have hdis : e = .n → ∀ i j, i < l.length → j < l2.length → ∀ b o b' o', (ips i).a = some (b, o) → (ips2 j).a = some (b', o') → b ≠ b' := fun en i j hi hj b o b' o' e1 e2 hb => by
    subst hb
    exact (I2 en).2.2 b (pl1 en i hi b o e1) (pl2 en j hj b o' e2)
  rcases run_append (ty := ty) hu hi hz1 hsz hby R1 R2 hmost with ⟨hroom, hrun⟩ | ⟨cap', hcap', hrun⟩
  · -- in its place
    have hw : ∃ w', (∀ b o, a = some (b, o) → (storeCells (adr (b, o + l.length * e.sz)) (flatE e l2 ips2)).run P w = .ok () w' ∧ ∀ j v, (flatE e l2 ips2)[j]? = some v → w'.cell? (adr (b, o + l.length * e.sz + j)) = some v) ∧ (a = none → w' = w) ∧
        Frame (fun b' o' => ∃ o, a = some (b', o) ∧ o + l.length * e.sz ≤ o') w w' := by
      cases a with
      | none => exact ⟨w, ⟨(fun b o h => by cases h), (fun _ => rfl), Frame.refl _ _⟩⟩
      | some p =>
        obtain ⟨b, o⟩ := p
        have hob := (R1.2.2.1 b o rfl).2 rfl
        have hle : o + l.length * e.sz + 0 + (flatE e l2 ips2).length ≤ o + cap * e.sz := by
          rw [flat_len]
          have := Nat.mul_le_mul_right e.sz hroom
          rw [Nat.add_mul] at this
          omega
        obtain ⟨w', h1, h2, h3⟩ := run_storeCells P b (o + l.length * e.sz) (o + cap * e.sz) (flatE e l2 ips2) 0 w hob hle (flat_one e l2 ips2)
        refine ⟨w', fun b' o' hh => ?_, (fun h => by cases h), h3.mono fun b' o' hh => ⟨o, by rw [hh.1], by omega⟩⟩
        simp only [Option.some.injEq, Prod.mk.injEq] at hh
        obtain ⟨rfl, rfl⟩ := hh
        refine ⟨h1, fun j v hj => ?_⟩
        obtain ⟨hlt, rfl⟩ := List.getElem?_eq_some_iff.1 hj
        exact h2 j hlt
    obtain ⟨w', hst, hno, hf⟩ := hw
    refine ⟨_, w', hrun w' (fun b o h => (hst b o h).1) hno, ?_⟩
    have hblk : ∀ b' o', (∃ o, a = some (b', o) ∧ o + l.length * e.sz ≤ o') → S1 b' o' := fun b' o' ⟨o, ha, _⟩ => B1 b' (.inl ⟨o, ha⟩) o'
    have hfS : Frame S w w' := hf.mono fun b o h => hS1 b o (hblk b o h)
    have Hf : Heap rows2 loc w' S L := T.heap.frame hf (fun i x ex b o ho hh => (T.apart b o ⟨i, x, ex, ho⟩).2 (hblk b o hh)) (fun b hb o hh => H.dis b o (hS1 b o (hblk b o hh)) hb)
    have hout : e = .n → ∀ i, i < l.length → ∀ b o, (ips i).a = some (b, o) → a.map (·.1) ≠ some b := fun en => by
      have := R1.2.2.2
      cases e with
      | n => exact fun i hi b o ep => (this.2 rfl).2 i hi b o ep
      | _ => cases en
    have hat : RowAt w' true e a cap (l ++ l2) (catIp l.length ips ips2) := by
      refine ⟨by simpa using hroom, R1.2.1, fun b o ha => ⟨?_, fun _ => hf.ownB ((R1.2.2.1 b o ha).2 rfl)⟩, ?_⟩
      · have hflat : FlatAt w' b o (flatE e (l ++ l2) (catIp l.length ips ips2)) := by
          intro j v hj
          rw [flat_cat] at hj
          by_cases hlt : j < (flatE e l ips).length
          · rw [List.getElem?_append_left hlt] at hj
            rw [flat_len] at hlt
            have hc := row_flat (R1.2.2.1 b o ha).1 j v hj
            rw [hf.cell (cell_lt hc)]
            · exact hc
            · rintro ⟨o', h1, h2⟩
              rw [ha] at h1
              simp only [Option.some.injEq, Prod.mk.injEq, true_and] at h1
              omega
          · rw [List.getElem?_append_right (by omega)] at hj
            rw [flat_len] at hj hlt
            have := (hst b o ha).2 _ v hj
            rw [show o + j = o + l.length * e.sz + (j - l.length * e.sz) by omega]
            exact this
        exact hflat.row
      · refine inner_cat R1.2.2.2 hi2 (fun en i x hi hin => ?_) (fun en i x hi hin => ?_) hdis hout (fun en i hi b o ep hh => ?_)
        · refine hin.frame hf fun b o ep _ o' => ?_
          rintro ⟨o1, ha, _⟩
          exact hout en i hi b o ep (by rw [ha]; rfl)
        · refine hin.frame hf fun b o ep _ o' => ?_
          rintro ⟨o1, ha, _⟩
          exact (I2 en).2.2 b (.inl ⟨o1, ha⟩) (pl2 en i hi b o ep)
        · cases a with
          | none => cases hh
          | some p =>
            simp only [Option.map_some, Option.some.injEq] at hh
            subst hh
            exact (I2 en).2.2 p.1 (.inl ⟨p.2, rfl⟩) (pl2 en i hi _ o ep)
    have hpl : ∀ b, plBlk a (l ++ l2).length e (catIp l.length ips ips2) b → ∀ o, S1 b o := by
      rintro b (⟨o, ha⟩ | ⟨en, i, hi, o, ep⟩) o'
      · exact B1 b (.inl ⟨o, ha⟩) o'
      · simp only [List.length_append] at hi
        by_cases h : i < l.length <;> simp only [catIp, h, if_true, if_false] at ep
        · exact B1 b (pl1 en i h b o ep) o'
        · exact (I2 en).2.1 b (pl2 en _ (by omega) b o ep) o'
    have Hw : Heap rows2 loc w' (orFp S S1) L := Hf.weaken (fun _ _ h => .inl h) (fun b o h => h.elim (Hf.dis b o) fun h => Hf.dis b o (hS1 b o h)) (fun b o h => h.elim (Hf.ltS b o) fun h => Hf.ltS b o (hS1 b o h))
    obtain ⟨loc', k1, k2, k3⟩ := newRow_ok Hw hid hat hpl (fun b o h => (T.apart b o h).2)
    refine Done.ext (loc' := loc') (S' := orFp S S1) (by rw [appR_append, hus]; exact k1) (by rw [scrubs_append, hsc]; rfl) ?_ k2 (fun b o h => .inl (h.elim id (hS1 b o))) hfS
    rw [List.length_append] at k3
    exact CRel_of_SRel k3
  · -- a new block
    refine ⟨_, _, hrun, ?_⟩
    have hcells : ∀ (j : Nat) (v : Value), (flatE e (l ++ l2) (catIp l.length ips ips2))[j]? = some v → ((flatE e l ips).toArray ++ (flatE e l2 ips2).toArray ++ Builtin.zeroCells z.cells (cap' - (l.length + l2.length)))[j]? = some v := by
      intro j v hj
      rw [flat_cat] at hj
      obtain ⟨hlt, _⟩ := List.getElem?_eq_some_iff.1 hj
      rw [Array.getElem?_append_left (by simpa using hlt)]
      simpa using hj
    have hzs : (Builtin.zeroCells z.cells (cap' - (l.length + l2.length))).size = (cap' - (l.length + l2.length)) * e.sz := by
      rw [hz2]
      simp [Builtin.zeroCells]
    have hsize : cap' * e.sz ≤ ((flatE e l ips).toArray ++ (flatE e l2 ips2).toArray ++ Builtin.zeroCells z.cells (cap' - (l.length + l2.length))).size := by
      simp only [Array.size_append, List.size_toArray, flat_len, hzs, ← Nat.add_mul]
      exact Nat.mul_le_mul_right _ (by omega)
    have hin : InnerAt w true none e (l ++ l2) (catIp l.length ips ips2) := inner_cat (inner_any R1.2.2.2) (fun en => inner_any (hi2 en)) (fun _ _ _ _ h => h) (fun _ _ _ _ h => h) hdis (fun _ _ _ _ _ _ h => by cases h) (fun _ _ _ _ _ _ h => by cases h)
    obtain ⟨loc', h3, h4, h5, h6⟩ := freshRow (w1 := w.drew) (S1 := S1) (ty := et) T.heap hid (frame_drew _ w) rfl hcells (by simpa using hcap') hsize hin
      (by
        rintro b ⟨en, i, hi, o, ep⟩ o'
        simp only [List.length_append] at hi
        by_cases h : i < l.length <;> simp only [catIp, h, if_true, if_false] at ep
        · exact B1 b (pl1 en i h b o ep) o'
        · exact (I2 en).2.1 b (pl2 en _ (by omega) b o ep) o')
      (fun b o h => (T.apart b o h).2) hS1
    refine Done.ext (loc' := loc') (S' := orFp S fun b _ => b = w.heap.size) (by rw [appR_append, hus]; exact h3) (by rw [scrubs_append, hsc]; rfl) ?_ h4 (fun b o h => h.imp_right fun h => by omega) h6
    rw [List.length_append] at h5
    exact CRel_of_SRel h5

/-- append -/
theorem appendF_ok {P : Program} {rows : Rows} {loc : Loc} {w : World} {S : Fp} {L : Nat → Prop} (H : Heap rows loc w S L) {fresh : Nat} (hid : rows fresh = none) {t ty : TypeId} {tv tx : TV} {v x : Value} {f : F} (hv : TRel loc tv v) (hx : TRel loc tx x)
    (h : appendF P rows fresh t tv tx = some f) (hc : ∀ c, c ∈ f.checks → c = true) :
    ∃ val w', (Builtin.append_ #[t, t] ty #[v, x]).run P w = .ok val w' ∧ Done rows loc w S L f.us f.v val w' := by
  unfold appendF at h
  split at h
  · rename_i sv sx
    split at h
    · rename_i e he
      split at h
      · rename_i l io h1
        split at h
        · rename_i l2 io2 h2
          have nv : sv ≠ .undef := by rintro rfl; simp [sliceOf] at h1
          have nx : sx ≠ .undef := by rintro rfl; simp [sliceOf] at h2
          have rv := SRel_of_CRel hv nv
          have rx := SRel_of_CRel hx nx
          cases hb : (ioOk io && ioOkN e io2) with
          | false => rw [hb] at h; cases h
          | true =>
            rw [hb, cond_true] at h
            simp only [Option.some.injEq] at h
            subst h
            simp only [Bool.and_eq_true] at hb
            obtain ⟨ok1, ok2⟩ := hb
            have hmost : l.length + l2.length ≤ e.most := by simpa using hc _ (List.mem_singleton.2 rfl)
            have k1 : takeL rows (.sl true e) sv = some (l, ioKill io, []) := by
              simp only [takeL, h1]
              cases io with
              | none => rfl
              | some p => obtain ⟨id, o⟩ := p; cases ok1; rfl
            obtain ⟨S1, T1, _, g1⟩ := takeL_ok H k1 rv
            obtain ⟨a, cap, ips, ev, R1, B1⟩ := g1 false _ (.refl _) rfl
            by_cases hn : e = .n
            · subst hn
              have k2 : takeL (appR rows (ioKill io)) (.sl true .n) sx = some (l2, ioKill io2, []) := by
                simp only [takeL, h2]
                cases io2 with
                | none => rfl
                | some p => obtain ⟨id, o⟩ := p; cases ok2; rfl
              obtain ⟨S2, T2, _, g2⟩ := takeL_ok T1.heap k2 rx
              obtain ⟨a2, cap2, ips2, ex, R2, B2⟩ := g2 false _ (.refl _) rfl
              obtain ⟨T, hd⟩ := T1.trans T2
              rw [ev, ex]
              refine appendCore H T (T.none _ hid) he R1 (fun b hb o => .inl (B1 b hb o)) R2 (fun _ => ⟨rfl, fun b hb o => .inr (B2 b hb o), fun b hb hb2 => hd b 0 (B1 b hb 0) (B2 b hb2 0)⟩) (appR_append _ _ _) ?_ hmost
              cases io <;> cases io2 <;> rfl
            · have e2 : ioKillN e io2 = [] := by
                cases e <;> first | rfl | exact absurd rfl hn
              have hsc : scrubs (ioKill io) = [] := by cases io <;> rfl
              rw [e2, List.append_nil]
              rcases sliceOf_ok T1.heap h2 rx with ⟨_, el, ex⟩ | ⟨id, o, e', row, ow, a2, cap2, ips2, _, _, ex, R2, _⟩
              · subst el
                rw [ev, ex]
                have R2 : RowAt w true e none 0 [] ⟨fun _ => ⟨none, 0, 0, none⟩, none⟩ := ⟨Nat.le_refl _, fun _ => ⟨rfl, .inl rfl⟩, (fun b o h => by cases h), ip0_inner w none e 0⟩
                exact appendCore H T1 (T1.none _ hid) he R1 B1 R2 (fun en => absurd en hn) rfl hsc hmost
              · rw [ev, ex]
                exact appendCore H T1 (T1.none _ hid) he R1 B1 R2 (fun en => absurd en hn) rfl hsc hmost
        · cases h
      · cases h
    · cases h
  · cases h

end Go.Tev
