/- An evaluator of Go functions on plain values: the arguments of a law, structs and rows of structs; the law itself. No condition beyond those that each lemma states. -/
import Derived.Test.YtanoofbkhddokaaGreatUg
import Derived.SizedLaws
import Derived.ProofKit
import Derived.ChangeOld
import Derived.Carry
set_option linter.unusedVariables false
set_option linter.unusedSimpArgs false
namespace Go.Tev
open Go.ChangeShapes Go.WideShapes Go.Deep

theorem eKind_i {P : Program} {e : TypeId} (h : eKind P e = some .i) : P.underlying e = some (.int .i64) := by
  unfold eKind at h; split at h <;> first | assumption | (cases h; done) | (split at h <;> cases h)
theorem eKind_b {P : Program} {e : TypeId} (h : eKind P e = some .b) : P.underlying e = some (.int .u8) := by
  unfold eKind at h; split at h <;> first | assumption | (cases h; done) | (split at h <;> cases h)
theorem eKind_s {P : Program} {e : TypeId} (h : eKind P e = some .s) : P.underlying e = some .string := by
  unfold eKind at h; split at h <;> first | assumption | (cases h; done) | (split at h <;> cases h)
theorem eKind_n {P : Program} {e : TypeId} (h : eKind P e = some .n) : ∃ q, P.underlying e = some (.slice q) ∧ P.underlying q = some (.int .i64) := by
  unfold eKind at h
  split at h <;> first | (cases h; done) | (rename_i q hq; split at h <;> first | (cases h; done) | exact ⟨q, hq, by assumption⟩)

/-- two rows of leaves, one after the other -/
def catT : (a : List LT) → {b : List LT} → Tup a → Tup b → Tup (a ++ b)
  | [], _, _, y => y | _ :: a, _, x, y => (x.1, catT a x.2 y)

theorem LsRel.cat {w : World} {L : Nat → Prop} : ∀ {a b : List LT} {x : Tup a} {y : Tup b} {vs us : List Value}, LsRel w a x vs noFp L → LsRel w b y us noFp L → LsRel w (a ++ b) (catT a x y) (vs ++ us) noFp L
  | [], _, _, _, [], _, _, k => k
  | [], _, _, _, _ :: _, _, h, _ => h.elim
  | _ :: _, _, _, _, [], _, h, _ => h.elim
  | _ :: a, b, x, y, v :: vs, us, ⟨S1, S2, h1, h2, h3, h4, h5⟩, k =>
    ⟨noFp, noFp, h1.mono h4 (fun _ h => h), LsRel.cat (a := a) (h2.mono h5 (fun _ h => h)) k, (fun _ _ h => h.elim), (fun _ _ h => h), (fun _ _ h => h)⟩

theorem wfLs.cat : ∀ {a b : List LT} {x : Tup a} {y : Tup b}, wfLs a x → wfLs b y → wfLs (a ++ b) (catT a x y)
  | [], _, _, _, _, k => k
  | _ :: a, b, x, y, h, k => ⟨h.1, wfLs.cat (a := a) h.2 k⟩

theorem LsRel.one {w : World} {t : LT} {x : t.D} {v : Value} {L : Nat → Prop} (h : LfRel w t x v noFp L) : LsRel w [t] (x, ()) [v] noFp L :=
  ⟨noFp, noFp, h, trivial, (fun _ _ h => h.elim), (fun _ _ h => h), (fun _ _ h => h)⟩

section
variable {H : Type} {enc : TypeId × Value → H} {P : Program} {w : World} {held : Bool}

theorem open_recs {t e : TypeId} {fuel : Nat} {cs : List Value} {x : DataW H × List MemPlace} (ht : P.underlying t = some (.slice e)) (hc : P.cellsOf e = 3)
    (ih : ∀ (fuel : Nat) (cs : List Value) (x : DataW H × List MemPlace), DataW.trod enc P w 0 (fun _ => true) held fuel e cs = some x → ∃ y : Tup [.int .i64, .int .i64, .int .i64], LsRel w [.int .i64, .int .i64, .int .i64] y cs noFp (blkP x.2) ∧ wfLs [.int .i64, .int .i64, .int .i64] y)
    (h : DataW.trod enc P w 0 (fun _ => true) held fuel t cs = some x) :
    ∃ v, cs = [v] ∧ ∃ l : List (Int × Int × Int), LfRel w (.sl false .t) l v noFp (blkP x.2) ∧ wfL (.sl false .t) l := by
  rcases open_slice ht h with ⟨rfl, _⟩ | ⟨a, len, cap, m, n, D, Pl, rfl, _, hl, hm, hmm, hx, hel⟩
  · refine ⟨_, rfl, [], ⟨none, 0, ⟨fun _ => ⟨none, 0, 0, none⟩, none⟩, rfl, RowAt_nil w false .t, fun b hb => ?_⟩, Nat.zero_le _, fun _ h => by cases h⟩
    rcases hb with ⟨h, _⟩ | ⟨_, i, h, _⟩ <;> cases h
  · simp only [if_true] at hmm
    subst hmm
    rw [hc] at hel hx
    have each : ∀ i, i < m → ∃ z : Int × Int × Int, w.cell? (a.add (i * 3)) = some (.int .i64 z.1) ∧ w.cell? (a.add (i * 3 + 1)) = some (.int .i64 z.2.1) ∧ w.cell? (a.add (i * 3 + 2)) = some (.int .i64 z.2.2) ∧ wfE .t z := by
      intro i hi
      obtain ⟨cs', h1, h2⟩ := hel i hi
      obtain ⟨y, hy, hw⟩ := ih _ _ _ h2
      obtain ⟨_, hlen, hcell⟩ := World.cells?_some h1
      obtain ⟨y0, y1, y2, u⟩ := y
      match cs', hlen with
      | [c0, c1, c2], _ =>
        obtain ⟨_, _, r0, ⟨_, _, r1, ⟨_, _, r2, _⟩, _⟩, _⟩ := hy
        have r0 : c0 = .int .i64 y0 := r0
        have r1 : c1 = .int .i64 y1 := r1
        have r2 : c2 = .int .i64 y2 := r2
        subst r0 r1 r2
        have g0 := hcell 0 (by omega)
        have g1 := hcell 1 (by omega)
        have g2 := hcell 2 (by omega)
        rw [add_add] at g0 g1 g2
        exact ⟨(y0, y1, y2), g0, g1, g2, i64B_of hw.1, i64B_of hw.2.1, i64B_of hw.2.2.1⟩
    obtain ⟨Z, hZ⟩ := choose_lt each
    have hn : prOf a = none → m = 0 := fun h => cap0_of h (fun h0 => by simpa using (hZ 0 h0).1)
    have hlen : (List.map Z (List.range len)).length = len := by simp
    refine ⟨_, rfl, (List.range len).map Z, ⟨prOf a, m, ⟨fun _ => ⟨none, 0, 0, none⟩, some a⟩, ?_, ⟨by rw [hlen]; exact hl, fun h => ⟨hn h, odd_prOf h⟩, fun b o ea => ⟨fun i hi j hj => ?_, fun h => by cases h⟩, trivial⟩, fun b hb => ?_⟩, by rw [hlen]; omega, fun x hx => ?_⟩
    · simp only [slV, pt_prOf]
      rw [show (List.map Z (List.range len)).length = len from hlen]
    · have hi' : i < len := by rw [← hlen]; exact hi
      obtain ⟨g0, g1, g2, _⟩ := hZ i (by omega)
      rw [prOf_some ea, adr_add] at g0 g1 g2
      simp only [E.sz] at hj ⊢
      match j, hj with
      | 0, _ => simp only [Nat.add_zero, elV]; rw [g0]; simp
      | 1, _ => simp only [elV, Nat.add_assoc]; rw [g1]; simp
      | 2, _ => simp only [elV, Nat.add_assoc]; rw [g2]; simp
    · rcases hb with ⟨hp, o, ea⟩ | ⟨en, _⟩
      · refine ⟨.cell a.block (a.off + 0), ?_, by rw [prOf_some ea]; rfl⟩
        rw [hlen] at hp
        rw [hx]
        exact List.mem_append_left _ (mem_row (by omega))
      · cases en
    · simp only [List.mem_map, List.mem_range] at hx
      obtain ⟨i, hi, rfl⟩ := hx
      exact (hZ i (by omega)).2.2.2

theorem open_fields {g : TypeId → Option (List LT)} {t : TypeId} {n : Nat} {cs : List Value} (hl : cs.length = P.cellsOf t)
    (ih : ∀ (u : TypeId) (ts : List LT), g u = some ts → ∀ (cs : List Value) (x : DataW H × List MemPlace), DataW.trod enc P w 0 (fun _ => true) held n u cs = some x → ∃ y : Tup ts, LsRel w ts y cs noFp (blkP x.2) ∧ wfLs ts y) :
    ∀ (fl : List Field) (off : Nat) (ts : List LT) (xs : List (DataW H × List MemPlace)), fieldsT g P t fl off = some ts → xs.length = fl.length →
      (∀ (i : Nat) (f : Field), fl[i]? = some f → DataW.trod enc P w 0 (fun _ => true) held n f.type ((cs.drop f.offset).take (P.cellsOf f.type)) = xs[i]?) →
      ∃ y : Tup ts, LsRel w ts y (cs.drop off) noFp (blkP (xs.flatMap (·.2))) ∧ wfLs ts y
  | [], off, ts, xs, h, hx, _ => by
    simp only [fieldsT] at h
    cases hb : Nat.beq off (P.cellsOf t) with
    | false => rw [hb] at h; cases h
    | true =>
      rw [hb, cond_true, Option.some.injEq] at h
      subst h
      have := Nat.eq_of_beq_eq_true hb
      rw [List.drop_eq_nil_of_le (by omega)]
      exact ⟨(), trivial, trivial⟩
  | f :: fl, off, ts, xs, h, hx, hf => by
    simp only [fieldsT] at h
    cases hb : Nat.beq f.offset off with
    | false => rw [hb] at h; cases h
    | true =>
      rw [hb, cond_true] at h
      obtain rfl := Nat.eq_of_beq_eq_true hb
      split at h
      · rename_i a b ha hbb
        cases hb2 : Nat.beq a.length (P.cellsOf f.type) with
        | false => rw [hb2] at h; cases h
        | true =>
          rw [hb2, cond_true, Option.some.injEq] at h
          subst h
          cases xs with
          | nil => simp at hx
          | cons x0 xs =>
            have h0 := hf 0 f rfl
            simp only [List.getElem?_cons_zero] at h0
            obtain ⟨y1, r1, w1⟩ := ih _ _ ha _ _ h0
            obtain ⟨y2, r2, w2⟩ := open_fields hl ih fl _ _ xs hbb (by simpa using hx) (fun i f' hf' => by simpa using hf (i + 1) f' (by simpa using hf'))
            refine ⟨catT a y1 y2, ?_, wfLs.cat w1 w2⟩
            have e : cs.drop f.offset = (cs.drop f.offset).take (P.cellsOf f.type) ++ cs.drop (f.offset + P.cellsOf f.type) := by
              rw [← List.drop_drop, List.take_append_drop]
            rw [e]
            refine LsRel.cat (r1.mono (fun _ _ h => h) fun b ⟨z, hz, hb⟩ => ⟨z, by simp [hz], hb⟩) (r2.mono (fun _ _ h => h) fun b ⟨z, hz, hb⟩ => ⟨z, ?_, hb⟩)
            simp only [List.flatMap_cons, List.mem_append]
            exact .inr hz
      · cases h

theorem open_leaves : ∀ (n : Nat) (t : TypeId) (ts : List LT), leavesT P n t = some ts → ∀ (fuel : Nat) (cs : List Value) (x : DataW H × List MemPlace), DataW.trod enc P w 0 (fun _ => true) held fuel t cs = some x →
    ∃ y : Tup ts, LsRel w ts y cs noFp (blkP x.2) ∧ wfLs ts y
  | 0, _, _, h, _, _, _, _ => by cases h
  | n + 1, t, ts, h, fuel, cs, x, hx => by
    simp only [leavesT] at h
    have one : ∀ {lt : LT}, (∃ v, cs = [v] ∧ ∃ l : lt.D, LfRel w lt l v noFp (blkP x.2) ∧ wfL lt l) → ∃ y : Tup [lt], LsRel w [lt] y cs noFp (blkP x.2) ∧ wfLs [lt] y := by
      rintro lt ⟨v, rfl, l, h1, h2⟩
      exact ⟨(l, ()), LsRel.one h1, h2, trivial⟩
    split at h
    · rename_i k hu
      simp only [Option.some.injEq] at h
      subst h
      obtain ⟨m, rfl, _, hw⟩ := DataW.trod_int hu hx
      exact one ⟨_, rfl, m, rfl, hw⟩
    · rename_i hu
      simp only [Option.some.injEq] at h
      subst h
      obtain ⟨b, rfl, _⟩ := DataW.trod_bool hu hx
      exact one ⟨_, rfl, b, rfl, trivial⟩
    · rename_i hu
      simp only [Option.some.injEq] at h
      subst h
      obtain ⟨s, rfl, _, hw⟩ := DataW.trod_string hu hx
      exact one ⟨_, rfl, s, rfl, hw⟩
    · rename_i e hu
      have key : ∀ {ek : E}, elemE P t = some ek → P.cellsOf e = ek.sz ∧ eKind P e = some ek := fun {ek} he => by
        obtain ⟨et, i, h1, h2, h3, _, _, h4⟩ := elemE_some he
        rw [hu] at h1
        simp only [Option.some.injEq, TypeDesc.slice.injEq] at h1
        subst h1
        exact ⟨by simp [Program.cellsOf, h2, h3], h4⟩
      split at h
      · rename_i he
        obtain ⟨k1, k2⟩ := key he
        simp only [Option.some.injEq] at h
        subst h
        exact one (open_ints' (ek := .i) hu (eKind_i k2) k1 (.inl ⟨rfl, rfl⟩) hx)
      · rename_i he
        obtain ⟨k1, k2⟩ := key he
        simp only [Option.some.injEq] at h
        subst h
        exact one (open_ints' (ek := .b) hu (eKind_b k2) k1 (.inr ⟨rfl, rfl⟩) hx)
      · rename_i he
        obtain ⟨k1, k2⟩ := key he
        simp only [Option.some.injEq] at h
        subst h
        exact one (open_strs' hu (eKind_s k2) k1 hx)
      · rename_i he
        obtain ⟨k1, k2⟩ := key he
        obtain ⟨q, hq1, hq2⟩ := eKind_n k2
        cases hb : Nat.beq (P.cellsOf (P.elem e)) 1 with
        | false => rw [hb] at h; cases h
        | true =>
        rw [hb, cond_true, Option.some.injEq] at h
        subst h
        have kq : P.cellsOf q = 1 := by
          have : P.elem e = q := by simp [Program.elem, hq1]
          rw [this] at hb
          exact Nat.eq_of_beq_eq_true hb
        exact one (open_rows' hu hq1 hq2 k1 kq hx)
      · rename_i he
        obtain ⟨k1, k2⟩ := key he
        cases hb : recB (leavesT P n e) with
        | false => rw [hb] at h; cases h
        | true =>
          rw [hb, cond_true, Option.some.injEq] at h
          subst h
          have hr : leavesT P n e = some [.int .i64, .int .i64, .int .i64] := by
            unfold recB at hb
            split at hb
            · assumption
            · cases hb
          exact one (open_recs hu k1 (fun fuel cs x => open_leaves n e _ hr fuel cs x) hx)
      · cases h
    · rename_i fs hu
      obtain ⟨xs, m, rfl, rfl, hl, hlen, hf⟩ := DataW.trod_struct hu hx
      have := open_fields (g := leavesT P n) (n := m) hl (fun u ts hg cs x hh => open_leaves n u ts hg m cs x hh) fs.toList 0 ts xs h (by simpa using hlen) (fun i f hi => hf i f (by simpa using hi))
      simpa using this
    · cases h

theorem open_ty {r : Reach} {base : Nat} {t : TypeId} {ty : Ty} {v : Value} {d : DataW H} {ps : List MemPlace} (ht : tyT P t = some ty) (hv : Value.okWide P w r base t v) (h : DataW.Trod enc P w 0 (fun _ => true) held t v d ps) :
    ∃ y : ty.D, TyRel w ty y v noFp (blkP ps) ∧ wfT ty y := by
  obtain ⟨fuel, h⟩ := h
  unfold tyT at ht
  split at ht
  · rename_i fs hu
    split at ht
    · rename_i ts hts
      simp only [Option.some.injEq] at ht
      subst ht
      simp only [Value.okWide, hu] at hv
      obtain ⟨cs, rfl, _, _⟩ := hv
      obtain ⟨y, h1, h2⟩ := open_leaves 20 t ts hts _ _ _ h
      exact ⟨y, ⟨cs.toList, by simp, h1⟩, h2⟩
    · cases ht
  · rename_i hns
    split at ht
    · rename_i lt hts
      simp only [Option.some.injEq] at ht
      subst ht
      obtain ⟨y, h1, h2⟩ := open_leaves 20 t _ hts _ _ _ h
      have hag : ∀ cs, v ≠ .agg cs := by
        rintro cs rfl
        simp only [leavesT] at hts
        unfold Value.okWide at hv
        split at hts <;> simp_all [Cell.okWide, Cell.ok]
      have hc : v.cells = #[v] := by
        cases v <;> first | rfl | exact absurd rfl (hag _)
      rw [hc] at h1
      obtain ⟨S1, S2, h1, _, _, h3, _⟩ := h1
      exact ⟨y.1, LfRel.mono h1 h3 (fun _ h => h), h2.1⟩
    · cases ht

theorem TyRel.monoL {L L' : Nat → Prop} {t : Ty} {x : t.D} {v : Value} (hl : ∀ b, L b → L' b) (hp : t.isP = false) (h : TyRel w t x v noFp L) : TyRel w t x v noFp L' := by
  cases t with
  | v t => exact LfRel.mono h (fun _ _ h => h) hl
  | a ts => obtain ⟨cs, e, k⟩ := h; exact ⟨cs, e, k.mono (fun _ _ h => h) hl⟩
  | p ts => cases hp
  | r ts => obtain ⟨b, o, cs, e, q1, q2, k, q3⟩ := h; exact ⟨b, o, cs, e, q1, q2, k.mono (fun _ _ h => h) hl, hl b q3⟩

theorem TysRel.monoL {L L' : Nat → Prop} (hl : ∀ b, L b → L' b) : ∀ {ts : List Ty} {x : PTup ts} {vs : List Value}, plains ts = true → TysRel w ts x vs noFp L → TysRel w ts x vs noFp L'
  | [], _, [], _, _ => trivial
  | [], _, _ :: _, _, h => h.elim
  | _ :: _, _, [], _, h => h.elim
  | t :: ts, x, v :: vs, hp, ⟨S1, S2, h1, h2, h3, h4, h5⟩ => by
    simp only [plains, Bool.and_eq_true] at hp
    have n1 : S1 = noFp := by funext b o; exact propext ⟨fun h => h4 b o h, fun h => h.elim⟩
    have n2 : S2 = noFp := by funext b o; exact propext ⟨fun h => h5 b o h, fun h => h.elim⟩
    subst n1 n2
    exact ⟨noFp, noFp, h1.monoL hl (by cases t <;> first | rfl | cases hp.1), h2.monoL hl hp.2, h3, h4, h5⟩

theorem tyT_plain {t : TypeId} {ty : Ty} (h : tyT P t = some ty) (hp : plains [ty] = true) : ty.isP = false := by
  cases ty with
  | p ts => simp [plains, Ty.plain] at hp
  | _ => rfl

/-- all arguments of a law -/
theorem open_all {r : Reach} {base : Nat} : ∀ {params : List TypeId} {tys : List Ty} {args : List Value} {ds : List (DataW H)} {ps : List MemPlace}, tysT P params = some tys → plains tys = true →
    (∀ (j : Nat) t v, params[j]? = some t → args[j]? = some v → Value.okWide P w r base t v) → DataW.TrodAll enc P w 0 (fun _ => true) held params args ds ps →
    ∃ y : PTup tys, TysRel w tys y args noFp (blkP ps) ∧ wfTs tys y
  | [], tys, args, ds, ps, h, _, _, ha => by
    simp only [tysT, Option.some.injEq] at h
    subst h
    obtain ⟨rfl, rfl, rfl⟩ := trodAll_nil ha
    exact ⟨(), trivial, trivial⟩
  | t :: params, tys, args, ds, ps, h, hp, hv, ha => by
    simp only [tysT] at h
    split at h
    · rename_i a b h1 h2
      simp only [Option.some.injEq] at h
      subst h
      obtain ⟨v, vs, d, ds', p, q, rfl, rfl, rfl, k1, k2⟩ := trodAll_cons ha
      simp only [plains, Bool.and_eq_true] at hp
      obtain ⟨y1, r1, w1⟩ := open_ty h1 (hv 0 t v rfl rfl) k1
      obtain ⟨y2, r2, w2⟩ := open_all h2 hp.2 (fun j u x hj hx => hv (j + 1) u x (by simpa using hj) (by simpa using hx)) k2
      refine ⟨(y1, y2), ⟨noFp, noFp, r1.monoL (fun b ⟨z, hz, hb⟩ => ⟨z, List.mem_append_left _ hz, hb⟩) (by cases a <;> first | rfl | cases hp.1), r2.monoL (fun b ⟨z, hz, hb⟩ => ⟨z, List.mem_append_right _ hz, hb⟩) hp.2, (fun _ _ h => h.elim), (fun _ _ h => h), (fun _ _ h => h)⟩, w1, w2⟩
    · cases h

theorem trodAll_lt {base : Nat} {spare : Nat → Bool} : ∀ {params : List TypeId} {args : List Value} {ds : List (DataW H)} {ps : List MemPlace}, DataW.TrodAll enc P w base spare held params args ds ps → ∀ x, x ∈ ps → x.block < w.heap.size
  | [], args, ds, ps, h => by
    obtain ⟨rfl, rfl, rfl⟩ := trodAll_nil h
    intro x hx
    cases hx
  | t :: params, args, ds, ps, h => by
    obtain ⟨v, vs, d, ds', p, q, rfl, rfl, rfl, ⟨n, k1⟩, k2⟩ := trodAll_cons h
    intro x hx
    rcases List.mem_append.1 hx with hx | hx
    · exact DataW.trod_lt n _ _ _ k1 x hx
    · exact trodAll_lt k2 x hx

def staysB (P : Program) : List TypeId → Bool | [] => true | t :: r => P.readableRec t && (Nat.blt t P.types.size && staysB P r)

theorem trodAll_stays {w' : World} (hl : laidOutB P = true) (hb : Go.RowKit.Below w.heap.size w w') : ∀ {params : List TypeId} {args : List Value} {ds : List (DataW H)} {ps : List MemPlace}, staysB P params = true → DataW.TrodAll enc P w 0 (fun _ => true) true params args ds ps →
    DataW.TrodAll enc P w' 0 (fun b => decide (b < w.heap.size)) true params args ds ps
  | [], args, ds, ps, _, h => by
    obtain ⟨rfl, rfl, rfl⟩ := trodAll_nil h
    exact trodAll_mk0
  | t :: params, args, ds, ps, hp, h => by
    simp only [staysB, Bool.and_eq_true] at hp
    have hlt := trodAll_lt h
    obtain ⟨v, vs, d, ds', p, q, rfl, rfl, rfl, k1, k2⟩ := trodAll_cons h
    exact ⟨p, q, Go.RowKit.Below.trod hl hp.1 (Nat.le_of_ble_eq_true hp.2.1) k1 hb (fun x hx => hlt x (List.mem_append_left _ hx)), trodAll_stays hl hb hp.2.2 k2, rfl⟩

/-- a law answers true, and what was there is as it was -/
theorem law_calls {g : FuncId} {ins : List Ty} {run : PTup ins → Option (PTup [.v .bool] × BTup ins)} {args : Array Value} {ps : List MemPlace} {y : PTup ins} (hk : CallOk P g ⟨ins, [.v .bool], run, .nor⟩) (hy : TysRel w ins y args.toList noFp (blkP ps)) (hl : ∀ x, x ∈ ps → x.block < w.heap.size)
    (hr : ∃ b, run y = some ((true, ()), b)) : Calls P g args w fun e w' => e = .returned (.bool true) ∧ Go.RowKit.Below w.heap.size w w' := by
  obtain ⟨b, hr⟩ := hr
  refine (hk.calls w y args.toList noFp (blkP ps) hy (fun _ _ h => h.elim) (fun _ _ h => h.elim) (fun b ⟨x, hx, hb⟩ => hb ▸ hl x hx) _ hr).mono fun e w' h => ?_
  obtain ⟨vs, SO, SB, rfl, ho, _, _, _, hf⟩ := h
  match vs, ho with
  | [v], ⟨_, _, hv, _⟩ =>
    have hv : v = .bool true := hv
    subst hv
    exact ⟨rfl, hf.below⟩

end

end Go.Tev
