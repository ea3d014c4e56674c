/- An evaluator of Go functions on plain values: single operations. No condition beyond those that each lemma states. -/
import Derived.Test.YtanoofbkhddokaaGreatTn
import Derived.Calls
set_option linter.unusedSimpArgs false
set_option linter.unusedVariables false
namespace Go.Tev

/-- an operation's answer; one without a value answers 'undef' -/
def OpRun (P : Program) (a : Act) (o : Oper) (w : World) (val : Value) (w' : World) : Prop :=
  (execOp a.eval o).run P w = .ok (.value val) w' ∨ ((execOp a.eval o).run P w = .ok .skip w' ∧ val = undef)

theorem run_v {P : Program} {w w' : World} {s : Sem Value} {val : Value} (h : s.run P w = .ok val w') : (do pure (Next.value (← s)) : Sem Next).run P w = .ok (.value val) w' := by
  simp [h]

theorem run_u {P : Program} {w w' : World} {s : Sem Unit} (h : s.run P w = .ok () w') : (do s; pure Next.skip : Sem Next).run P w = .ok .skip w' := by
  simp [h]

theorem CRels.get? {loc : Loc} : ∀ {l : List CV} {vs : List Value} {k : Nat} {x : CV}, CRels loc l vs → l[k]? = some x → ∃ v, vs[k]? = some v ∧ CRel loc x v
  | [], [], k, x, _, h => by simp at h
  | _ :: _, v :: _, 0, x, r, h => by simp only [List.getElem?_cons_zero, Option.some.injEq] at h; subst h; exact ⟨v, rfl, r.1⟩
  | _ :: _, _ :: _, k + 1, x, r, h => by simp only [List.getElem?_cons_succ] at h ⊢; exact CRels.get? r.2 h
  | [], _ :: _, _, _, r, _ => r.elim
  | _ :: _, [], _, _, r, _ => r.elim

theorem bytes_get (s : ByteArray) (i : Int) (h0 : 0 ≤ i) (h1 : i < (s.size : Int)) : ∃ b : UInt8, s[i.toNat]? = some b ∧ bt s i = (b.toNat : Int) := by
  have hlt : i.toNat < s.size := by omega
  refine ⟨s[i.toNat], by simp [hlt], ?_⟩
  have hl : i.toNat < s.data.toList.length := by
    have : s.data.size = s.size := rfl
    simp only [Array.length_toList]; omega
  simp only [bt, List.getD_eq_getElem?_getD, List.getElem?_eq_getElem hl, Option.getD_some]
  rfl

theorem fetch_ok {P : Program} {st : St} {loc : Loc} {a : Act} {w : World} {S : Fp} {L : Nat → Prop} (H : Heap st.rows loc w S L) (ht : ∀ t, TRel loc (st.tmps t) (a.tmps.getD t undef)) {fresh : Nat} (hid : st.rows fresh = none)
    {o : Oper} {op : Op} (ho : o.op = op) {f : F} (h : fetch P fresh st op = some f) (hc : ∀ c, c ∈ f.checks → c = true) : ∃ val w', OpRun P a o w val w' ∧ Done st.rows loc w S L f.us f.v val w' := by
  have ev := fun x => ev_ok ht x
  have q : ∀ {s : Sem Value} {val : Value}, (execOp a.eval o) = (do pure (Next.value (← s)) : Sem Next) → s.run P w = .ok val w → f.us = [] → TRel loc f.v val → ∃ val w', OpRun P a o w val w' ∧ Done st.rows loc w S L f.us f.v val w' :=
    fun he hr hus hv => ⟨_, _, .inl (by rw [he]; exact run_v hr), by rw [hus]; exact Done.quiet H hv⟩
  have q1 : ∀ {val : Value}, (execOp a.eval o) = (pure (Next.value val) : Sem Next) → f.us = [] → TRel loc f.v val → ∃ val w', OpRun P a o w val w' ∧ Done st.rows loc w S L f.us f.v val w' :=
    fun he hus hv => ⟨_, _, .inl (by rw [he]; rfl), by rw [hus]; exact Done.quiet H hv⟩
  unfold fetch at h
  split at h
  · -- move
    rename_i x
    simp only [Option.some.injEq] at h; subst h
    exact q1 (by simp only [execOp, ho]) rfl (ev x)
  · -- assign
    rename_i x
    simp only [Option.some.injEq] at h; subst h
    exact q1 (by simp only [execOp, ho]) rfl (ev x)
  · -- alloc
    rename_i t
    split at h
    · rename_i cs hz
      simp only [Option.some.injEq] at h; subst h
      unfold zeroCells at hz
      split at hz
      · rename_i i hi
        split at hz
        · rename_i vs hzv
          cases hk : okL (vs.toList.map constS) with
          | false => rw [hk] at hz; cases hz
          | true =>
            rw [hk, cond_true] at hz
            simp only [Option.some.injEq] at hz; subst hz
            refine ⟨_, _, .inl ?_, newBox H hid (constS_all loc vs.toList) (okL_all hk) t⟩
            simp only [execOp, ho]
            refine run_v ?_
            simp [Instr.alloc, zeroValue, typeInfo, hi, hzv, newVar, newRow, Value.cells]
        · cases hz
      · cases hz
    · cases h
  · -- box
    rename_i t x
    split at h
    · rename_i cs hcs
      simp only [Option.some.injEq] at h; subst h
      obtain ⟨vs, hvs, hr, hk⟩ := cellsOf_ok hcs (ev x)
      refine ⟨_, _, .inl ?_, newBox H hid hr hk t⟩
      simp only [execOp, ho]
      refine run_v ?_
      simp [Instr.box, newVar, newRow, hvs]
    · cases h
  · -- build
    rename_i t parts
    split at h
    · rename_i fs cs hu hz
      cases hf : fieldsOk P fs.toList with
      | false => rw [hf] at h; cases h
      | true =>
        rw [hf, cond_true] at h
        split at h
        · rename_i cs' hfill
          simp only [Option.some.injEq] at h; subst h
          obtain ⟨vs, hr, hrel⟩ := build_ok (w := w) (vparts := parts.map fun (i, x) => (i, a.eval x)) hu hz hfill (by simpa using PRels_of ht parts.toList) hf
          exact q (by simp only [execOp, ho]) hr rfl ⟨vs, rfl, hrel⟩
        · cases h
    · cases h
  · -- buildSlice
    rename_i t n parts
    split at h
    · rename_i e vs he hio
      cases hb : (Nat.beq vs.length n && Nat.ble n 1000) with
      | false => rw [hb] at h; cases h
      | true =>
        rw [hb, cond_true] at h
        simp only [Bool.and_eq_true] at hb
        split at h
        · rename_i l us hel
          simp only [Option.some.injEq] at h; subst h
          obtain ⟨val, w', hr, hd⟩ := buildSlice_ok (vparts := parts.map fun (i, x) => (i, a.eval x)) H hid he hio (by simpa using PRels_of ht parts.toList) (Nat.eq_of_beq_eq_true hb.1) (Nat.le_of_ble_eq_true hb.2) hel
          exact ⟨_, _, .inl (by simp only [execOp, ho]; exact run_v hr), hd⟩
        · cases h
    · cases h
  · -- load
    rename_i t x
    obtain ⟨val, hr, _, hus, hv⟩ := loadF_ok H (ev x) h
    exact q (by simp only [execOp, ho]) hr hus hv
  · -- store
    rename_i t x y
    obtain ⟨hv, w', hr, hd⟩ := storeF_ok H (ev x) (ev y) h hc
    exact ⟨_, _, .inr ⟨by simp only [execOp, ho]; exact run_u hr, rfl⟩, by rw [hv]; exact hd⟩
  · -- nilCheck
    rename_i x
    have hx := ev x
    split at h
    · rename_i id off e
      rw [e] at hx
      simp only [pureS, Option.some.injEq] at h; subst h
      obtain ⟨b, o', n, el, hv⟩ := hx
      exact q1 (val := a.eval x) (by simp only [execOp, ho, hv]) rfl ⟨b, o', n, el, hv⟩
    · rename_i id i off e
      rw [e] at hx
      simp only [pureS, Option.some.injEq] at h; subst h
      have hx2 := hx
      obtain ⟨b, o', cap, len, e, ips, el, h1, h2, hv⟩ := hx2
      exact q1 (val := a.eval x) (by simp only [execOp, ho, hv]) rfl hx
    · cases h
  · -- binOp
    rename_i op t x y _
    obtain ⟨val, hr, hus, hv⟩ := binF_ok (w := w) (ev x) (ev y) h hc x y
    exact q (by simp only [execOp, ho]) hr hus hv
  · -- not
    rename_i x
    have hx := ev x
    split at h
    · rename_i b e
      rw [e] at hx
      simp only [pureS, Option.some.injEq] at h; subst h
      have hx : a.eval x = .bool b := hx
      exact q (s := Op.unary .not (a.eval x)) (val := .bool !b) (by simp only [execOp, ho]) (by simp [hx, Op.unary]) rfl rfl
    · cases h
  · -- convert
    rename_i src dst x
    obtain ⟨val, hr, _, hus, hv⟩ := convF_ok H (ev x) h
    exact q (by simp only [execOp, ho]) hr hus hv
  · -- makeSlice
    rename_i t l c
    cases hs : opSame l c with
    | false => rw [hs] at h; cases h
    | true =>
      rw [hs, cond_true] at h
      have hl : a.eval l = a.eval c := by
        unfold opSame at hs
        split at hs
        · rw [Nat.eq_of_beq_eq_true hs]
        · rw [Nat.eq_of_beq_eq_true hs]
        · cases hs
      obtain ⟨val, w', hr, hd⟩ := makeF_ok H hid (ev l) h hc
      exact ⟨_, _, .inl (by simp only [execOp, ho, ← hl]; exact run_v hr), hd⟩
  · -- slice
    rename_i t x lo hi
    have hO : ∀ y : Option Operand, ORel loc (optEv st y) (y.map a.eval) := fun y => by
      cases y with
      | none => trivial
      | some y => exact ev y
    obtain ⟨val, hr, hus, hv⟩ := sliceF_ok H (ev x) (hO lo) (hO hi) h hc
    exact q (by simp only [execOp, ho]; rfl) hr hus hv
  · -- fieldAddr
    rename_i t x k
    have hx := ev x
    split at h
    · rename_i o1 ft id off hf e
      rw [e] at hx
      simp only [pureS, Option.some.injEq] at h; subst h
      obtain ⟨b, o', n, el, hv⟩ := hx
      exact q (s := Instr.fieldAt t (a.eval x) k) (by simp only [execOp, ho]) (by rw [hv]; exact fieldAt_run hf b _ w) rfl ⟨b, o', n, el, by rw [Nat.add_assoc]⟩
    · rename_i o1 ft id i off hf e
      rw [e] at hx
      simp only [pureS, Option.some.injEq] at h; subst h
      obtain ⟨b, o', cap, len, e, ips, el, h1, h2, hv⟩ := hx
      exact q (s := Instr.fieldAt t (a.eval x) k) (by simp only [execOp, ho]) (by rw [hv]; exact fieldAt_run hf b _ w) rfl ⟨b, o', cap, len, e, ips, el, h1, h2, by rw [Nat.add_assoc]⟩
    · cases h
  · -- field
    rename_i t x k
    have hx := ev x
    split at h
    · rename_i o1 ft cs hf e
      rw [e] at hx
      obtain ⟨vs, hv, hrel⟩ := hx
      obtain ⟨fs, fd, i, hu, hfd, ho1, hft, hi, _⟩ := fieldOff_some hf
      obtain ⟨val, hr, _, hus, hv'⟩ := part_ok (w := w) hrel h
      refine q (s := Instr.field t (a.eval x) k) (by simp only [execOp, ho]) ?_ hus hv'
      subst ho1 hft
      simp only [Instr.field, Sem.run_bind, run_underlying hu, Result.andThen_ok, hfd, hv, asAgg, Sem.run_pure]
      exact hr
    · cases h
  · -- indexAddr
    rename_i t x ix
    have hx := ev x
    have hix := ev ix
    split at h
    · rename_i e sv k i he e1 e2
      rw [e1] at hx
      rw [e2] at hix
      have hn : sv ≠ .undef := by rintro rfl; simp [idxF] at h
      have hix : a.eval ix = .int k i := hix
      obtain ⟨val, hr, hus, hv⟩ := idxF_ok (k := k) H he (SRel_of_CRel hx hn) h hc
      exact q (s := Instr.indexAt t (a.eval x) (a.eval ix)) (by simp only [execOp, ho]) (by rw [hix]; exact hr) hus hv
    · cases h
  · -- index
    rename_i t x ix
    have hx := ev x
    have hix := ev ix
    split at h
    · rename_i s k i hu e1 e2
      rw [e1] at hx
      rw [e2] at hix
      simp only [Option.some.injEq] at h; subst h
      have hx : a.eval x = .string s := hx
      have hix : a.eval ix = .int k i := hix
      have h0 : 0 ≤ i := by simpa using hc (decide (0 ≤ i)) (by simp)
      have h1 : i < (s.size : Int) := by simpa using hc (decide (i < (s.size : Int))) (by simp)
      obtain ⟨b, hb, hbt⟩ := bytes_get s i h0 h1
      refine q (s := Instr.index t (a.eval x) (a.eval ix)) (val := .int .u8 b.toNat) (by simp only [execOp, ho]) ?_ rfl ?_
      · simp [Instr.index, hix, asIntOf, run_underlying hu, hx, h0, hb]
      · show _ = _
        rw [hbt]
    · cases h
  · -- extract
    rename_i x k
    have hx := ev x
    split at h
    · rename_i l e
      rw [e] at hx
      obtain ⟨vs, hv, hrel⟩ := hx
      split at h
      · rename_i cv hcv
        simp only [Option.some.injEq] at h; subst h
        obtain ⟨val, hval, hvr⟩ := hrel.get? hcv
        exact q (s := Instr.extract (a.eval x) k) (by simp only [execOp, ho]) (by simp [Instr.extract, hv, hval]) rfl hvr
      · cases h
    · cases h
  · cases h

end Go.Tev
