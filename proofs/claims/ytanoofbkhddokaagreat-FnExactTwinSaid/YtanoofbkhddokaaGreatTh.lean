/- An evaluator of Go functions on plain values: single operations on memory. Lemmas; no condition beyond those that each states. -/
import Derived.Test.YtanoofbkhddokaaGreatTg
import Derived.WalkKit
set_option linter.unusedVariables false
set_option linter.unusedSimpArgs false
namespace Go.Tev

/-- what an operation has done -/
def Done (rows : Rows) (loc : Loc) (w : World) (S : Fp) (L : Nat → Prop) (us : Us) (v : TV) (val : Value) (w' : World) : Prop :=
  ∃ loc' S', Heap (appR rows us) loc' w' S' L ∧ TRel loc' v val ∧ (∀ x u, SRel loc x u → SRel loc' (scrubS (scrubs us) x) u) ∧ (∀ b o, S' b o → S b o ∨ w.heap.size ≤ b) ∧ Frame S w w'

theorem scrubS_nil (x : SV) : scrubS [] x = x := by cases x <;> rfl

/-- nothing turns in memory -/
theorem Done.quiet {rows : Rows} {loc : Loc} {w : World} {S : Fp} {L : Nat → Prop} (H : Heap rows loc w S L) {v : TV} {val : Value} (h : TRel loc v val) : Done rows loc w S L [] v val w :=
  ⟨loc, S, H, h, fun x u r => by rw [show scrubs ([] : Us) = [] from rfl, scrubS_nil]; exact r, fun _ _ h => .inl h, .refl _ _⟩

theorem Done.ext {rows : Rows} {loc loc' : Loc} {w w' : World} {S S' : Fp} {L : Nat → Prop} {us : Us} {v : TV} {val : Value} (H : Heap (appR rows us) loc' w' S' L) (hs : scrubs us = []) (h : TRel loc' v val) (he : Ext loc loc')
    (hS : ∀ b o, S' b o → S b o ∨ w.heap.size ≤ b) (hf : Frame S w w') : Done rows loc w S L us v val w' :=
  ⟨loc', S', H, h, fun x u r => by rw [hs, scrubS_nil]; exact r.ext he, hS, hf⟩

theorem okL_all {l : List SV} (h : okL l = true) : allOk l := by
  induction l with
  | nil => trivial
  | cons x r ih => simp only [okL, Bool.and_eq_true] at h; exact ⟨h.1, ih h.2⟩

theorem all_okL {l : List SV} (h : allOk l) : okL l = true := by
  induction l with
  | nil => rfl
  | cons x r ih => simp only [okL, Bool.and_eq_true]; exact ⟨h.1, ih h.2⟩

theorem Rels.one {loc : Loc} : ∀ {l : List SV} {vs : List Value}, allOk l → Rels loc l vs → oneCells vs
  | [], [], _, _ => trivial
  | _ :: _, _ :: _, h, r => ⟨okS_one h.1 r.1, Rels.one h.2 r.2⟩
  | [], _ :: _, _, r => r.elim
  | _ :: _, [], _, r => r.elim

theorem Rels.len {loc : Loc} : ∀ {l : List SV} {vs : List Value}, Rels loc l vs → l.length = vs.length
  | [], [], _ => rfl
  | _ :: _, _ :: _, r => by simp [Rels.len r.2]
  | [], _ :: _, r => r.elim
  | _ :: _, [], r => r.elim

theorem cells_one {v : Value} (h : v.oneCell' = true) : v.cells = [v].toArray := by
  cases v <;> first | rfl | (simp [Value.oneCell'] at h)

theorem SRel_of_CRel {loc : Loc} {x : SV} {v : Value} (h : CRel loc (.s x) v) (hx : x ≠ .undef) : SRel loc x v := by
  cases x <;> first | exact h | exact absurd rfl hx

/-- the cells of a value -/
theorem cellsOf_ok {loc : Loc} {tv : TV} {svs : List SV} {v : Value} (h : cellsOf tv = some svs) (r : TRel loc tv v) : ∃ vs : List Value, v.cells = vs.toArray ∧ Rels loc svs vs ∧ allOk svs := by
  cases tv with
  | tup l => simp [cellsOf] at h
  | c c =>
    cases c with
    | agg l =>
      simp only [cellsOf] at h
      cases hl : okL l with
      | false => rw [hl] at h; cases h
      | true =>
        rw [hl, cond_true, Option.some.injEq] at h
        subst h
        obtain ⟨cs, rfl, r⟩ := r
        exact ⟨cs, rfl, r, okL_all hl⟩
    | s x =>
      have key : ∀ (hx : x ≠ .undef), cellsOf (.c (.s x)) = (bif okS x then some [x] else none) := by
        intro hx; cases x <;> first | rfl | exact absurd rfl hx
      by_cases hx : x = .undef
      · subst hx; simp [cellsOf] at h
      · rw [key hx] at h
        cases ho : okS x with
        | false => rw [ho] at h; cases h
        | true =>
          rw [ho, cond_true, Option.some.injEq] at h
          subst h
          have rs := SRel_of_CRel r hx
          exact ⟨[v], cells_one (okS_one ho rs), ⟨rs, trivial⟩, ho, trivial⟩

theorem constS_ok (loc : Loc) (v : Value) : SRel loc (constS v) v := by
  cases v with
  | slice a n c =>
    cases a with
    | some a => rfl
    | none =>
      cases n with
      | zero => cases c <;> rfl
      | succ n => rfl
  | _ => first | trivial | rfl

theorem constS_all (loc : Loc) : ∀ (cs : List Value), Rels loc (cs.map constS) cs
  | [] => trivial
  | c :: cs => ⟨constS_ok loc c, constS_all loc cs⟩

theorem CRel_of_SRel {loc : Loc} {x : SV} {v : Value} (h : SRel loc x v) : CRel loc (.s x) v := by
  cases x <;> first | trivial | exact h

theorem constV_eq (v : Value) (h : ∀ cs, v ≠ .agg cs) : constV v = .c (.s (constS v)) := by
  cases v <;> first | rfl | exact absurd rfl (h _)

theorem constV_ok (loc : Loc) (v : Value) : TRel loc (constV v) v := by
  by_cases h : ∃ cs, v = .agg cs
  · obtain ⟨cs, rfl⟩ := h
    exact ⟨cs.toList, by simp, constS_all loc cs.toList⟩
  · rw [constV_eq v (fun cs e => h ⟨cs, e⟩)]
    exact CRel_of_SRel (constS_ok loc v)

theorem ev_ok {loc : Loc} {st : St} {a : Act} (h : ∀ t, TRel loc (st.tmps t) (a.tmps.getD t undef)) (x : Operand) : TRel loc (st.ev x) (a.eval x) := by
  cases x with
  | tmp t => exact h t
  | const v => exact constV_ok loc v
  | global g => trivial
  | func f => rfl

/-! ### new memory -/

theorem Heap.alloc {rows : Rows} {loc : Loc} {w : World} {S : Fp} {L : Nat → Prop} (H : Heap rows loc w S L) (o : Obj) : Heap rows loc (w.alloc o) S L :=
  H.frame (frame_alloc noFp w o) (fun _ _ _ _ _ _ h => h) (fun _ _ _ h => h)

theorem Heap.widen {rows : Rows} {loc : Loc} {w : World} {S : Fp} {L : Nat → Prop} (H : Heap rows loc w S L) (N : Fp) (hN : ∀ b o, N b o → ¬ L b) (hlt : ∀ b o, N b o → b < w.heap.size) : Heap rows loc w (orFp S N) L :=
  H.weaken (fun _ _ h => .inl h) (fun b o h => h.elim (H.dis b o) (hN b o)) (fun b o h => h.elim (H.ltS b o) (hlt b o))

/-- a new struct -/
theorem newBox {rows : Rows} {loc : Loc} {w : World} {S : Fp} {L : Nat → Prop} (H : Heap rows loc w S L) {id : Nat} (hid : rows id = none) {cs : List SV} {vs : List Value} (hr : Rels loc cs vs) (hk : allOk cs) (ty : TypeId) :
    Done rows loc w S L [(id, .box cs)] (.c (.s (.ptr id 0))) (.pointer (some ⟨w.heap.size, 0, none⟩)) (w.alloc (.cells vs.toArray ty)) := by
  have H1 := (H.alloc (.cells vs.toArray ty)).widen (fun b _ => b = w.heap.size) (fun b o h hl => by have := H.ltL b hl; omega) (fun b o h => by subst h; simp)
  have hlen := hr.len
  have hone := hr.one hk
  refine Done.ext (loc' := updL loc id (.box w.heap.size 0 cs.length)) (S' := orFp S (fun b _ => b = w.heap.size)) ?_ rfl ⟨w.heap.size, 0, _, updL_self _ _ _, rfl⟩ (updL_ext _ (H.none id hid)) ?_ (frame_alloc _ _ _)
  · have hown : ∀ b o, own (updL loc id (.box w.heap.size 0 cs.length)) id (.box cs) b o → b = w.heap.size := by
      rintro b o ⟨o0, n0, e, _⟩
      rw [updL_self] at e
      simp only [Option.some.injEq, Pl.box.injEq] at e
      exact e.1.symm
    refine H1.new hid _ _ ⟨w.heap.size, 0, updL_self _ _ _, alloc_own _ _ _ _ (by simp [hlen]), fun j hj => ?_⟩ (fun j y ey b o h1 h2 => ?_) (fun _ _ h => h) (fun b o h => .inr (hown b o h)) (fun _ h => h.elim) H1.dis H1.ltS
    · obtain ⟨h', rj⟩ := hr.get j hj
      refine cellOk_of (v := vs[j]) (hk.get j hj) ?_ (rj.ext (updL_ext _ (H.none id hid))) (hone.get j h')
      rw [alloc_cell]
      simp [h']
    · have := H.own_lt ey h1
      have := hown b o h2
      omega
  · rintro b o (h | h)
    · exact .inl h
    · right; omega

/-- a new row, of which the cells are given -/
theorem newRow_ok {rows : Rows} {loc : Loc} {w' : World} {S S1 : Fp} {L : Nat → Prop} (H : Heap rows loc w' (orFp S S1) L) {id : Nat} (hid : rows id = none) {e : E} {l : List e.C} {a : Option (Nat × Nat)} {cap : Nat} {ips : Ips}
    (hat : RowAt w' true e a cap l ips) (hb : ∀ b, plBlk a l.length e ips b → ∀ o, S1 b o) (hd : Dis (Owned rows loc) S1) :
    ∃ loc', Heap (updR rows id (.row true e l)) loc' w' (orFp S S1) L ∧ Ext loc loc' ∧ SRel loc' (.slf id) (slV a ips.q l.length cap) := by
  obtain ⟨loc', P, r, _⟩ := putL_ok (t := .sl true e) (x := l) (v := slV a ips.q l.length cap) (L1 := fun _ => False) H hid ⟨a, cap, ips, rfl, hat, hb⟩ (fun b o h => .inr h) (fun _ h => h.elim) hd
  exact ⟨loc', P.heap, P.ext, r⟩

/-! ### reading and writing -/

theorem aggK_some {P : Program} {t : TypeId} {x : Bool} (h : aggK P t = some x) (w : World) : (isAgg t).run P w = .ok x w := by
  unfold aggK at h
  split at h
  · rename_i fs hu
    cases h
    simp [isAgg, run_underlying hu w]
  · rename_i n e hu
    cases h
    simp [isAgg, run_underlying hu w]
  · rename_i d h1 h2 hu
    cases h
    cases d with
    | struct fs => exact absurd rfl (h1 fs)
    | array n e => exact absurd rfl (h2 n e)
    | _ => simp [isAgg, run_underlying hu w]
  · cases h

theorem info_of_underlying {P : Program} {t : TypeId} {d : TypeDesc} (h : P.underlying t = some d) : ∃ i, P.info? t = some i := by
  unfold Program.underlying at h
  split at h
  · rename_i h'; exact ⟨_, h'⟩
  · rename_i h'; exact ⟨_, h'⟩
  · cases h

theorem run_sizeOf {P : Program} {t : TypeId} {i : TypeInfo} (h : P.info? t = some i) (w : World) : (sizeOf t).run P w = .ok (P.cellsOf t) w := by
  simp [sizeOf, typeInfo, h, Program.cellsOf]

theorem aggK_info {P : Program} {t : TypeId} {x : Bool} (h : aggK P t = some x) : ∃ i, P.info? t = some i := by
  unfold aggK at h
  split at h
  · rename_i hu; exact info_of_underlying hu
  · rename_i hu; exact info_of_underlying hu
  · rename_i hu; exact info_of_underlying hu
  · cases h

theorem run_loadVar_agg {P : Program} {t : TypeId} (h : aggK P t = some true) {w : World} {b o : Nat} {vs : List Value} (hl : vs.length = P.cellsOf t) (hc : CellsAt w b o vs) :
    (loadVar t (adr (b, o))).run P w = .ok (.agg vs.toArray) w := by
  obtain ⟨i, hi⟩ := aggK_info h
  have := run_loadCells_list (P := P) w (adr (b, o)) vs (fun j v hv => by
    rw [adr_add]
    obtain ⟨hj, rfl⟩ := List.getElem?_eq_some_iff.1 hv
    exact hc j hj)
  simp only [loadVar, Sem.run_bind, aggK_some h, Result.andThen_ok, if_true, run_sizeOf hi, ← hl, this, Sem.run_pure]

theorem run_loadVar_one {P : Program} {t : TypeId} (h : aggK P t = some false) {w : World} {b o : Nat} {v : Value} (hc : w.cell? (adr (b, o)) = some v) :
    (loadVar t (adr (b, o))).run P w = .ok v w := by
  simp only [loadVar, Sem.run_bind, aggK_some h, Result.andThen_ok, Bool.false_eq_true, if_false, run_load, hc]

theorem run_storeVar {P : Program} {t : TypeId} {i : TypeInfo} (hi : P.info? t = some i) {w w' : World} {a : Addr} {v : Value} {vs : List Value} (hv : v.cells = vs.toArray) (hl : vs.length = P.cellsOf t)
    (h : (storeCells a vs).run P w = .ok () w') : (storeVar t a v).run P w = .ok () w' := by
  simp only [storeVar, Sem.run_bind, run_sizeOf hi, Result.andThen_ok, hv]
  rw [if_neg (by simp [hl])]
  simpa using h

theorem updR_updR (r : Rows) (i : Nat) (x y : Row) : updR (updR r i x) i y = updR r i y := by
  funext j
  by_cases h : j = i
  · subst h; rw [updR_self, updR_self]
  · rw [updR_other _ _ h, updR_other _ _ h, updR_other _ _ h]

theorem Rels.get? {loc : Loc} {xs : List SV} {vs : List Value} (h : Rels loc xs vs) (j : Nat) (hj : j < vs.length) : ∃ h' : j < xs.length, SRel loc xs[j] vs[j] := by
  have hl := h.len
  obtain ⟨_, r⟩ := h.get j (by omega)
  exact ⟨by omega, r⟩

/-- one's own entry is written in place: the rest of the heap stands -/
theorem Heap.write {rows : Rows} {loc : Loc} {w w' : World} {S S1 : Fp} {L : Nat → Prop} (H : Heap rows loc w S L) {id : Nat} {x y : Row} (e : rows id = some y) (hf : Frame S1 w w') (h1 : ∀ b o, S1 b o → own loc id y b o)
    (hok : RowOk w' loc id x) (ho : ∀ b o, own loc id x b o → own loc id y b o) (hl : ∀ b, lentTo loc id x b → L b) : Heap (updR rows id x) loc w' S L := by
  have H1 : Heap (updR rows id .dead) loc w' S L := (H.kill id).frame hf (fun i z ez b o hz hs => by
      by_cases hi : i = id
      · subst hi; rw [updR_self] at ez; cases ez; exact hz.elim
      · rw [updR_other _ _ hi] at ez
        exact H.sep i id z y hi ez e b o hz (h1 b o hs)) (fun b hb o hs => H.dis b o (H.inS id y e b o (h1 b o hs)) hb)
  have H2 := H1.upd id x (fun _ _ => rfl) (fun j z hj ez => H1.ok j z ez) hok (S' := S) (fun j z hj ez b o hz hx => by
      rw [updR_other _ _ hj] at ez
      exact H.sep j id z y hj ez e b o hz (ho b o hx)) (fun _ _ h => h) (fun b o h => H.inS id y e b o (ho b o h)) hl H1.dis H1.ltS
  rw [updR_updR] at H2
  exact H2

/-- cells of a struct are written -/
theorem writeBox {P : Program} {rows : Rows} {loc : Loc} {w : World} {S : Fp} {L : Nat → Prop} (H : Heap rows loc w S L) {id b o off : Nat} {cs svs : List SV} {vs : List Value} (e : rows id = some (.box cs))
    (el : loc id = some (.box b o cs.length)) (hle : off + svs.length ≤ cs.length) (hr : Rels loc svs vs) (hk : allOk svs) (hn : okL ((cs.drop off).take svs.length) = true) :
    ∃ w', (storeCells (adr (b, o + off)) vs).run P w = .ok () w' ∧ Heap (updR rows id (.box (setsAt cs off svs))) loc w' S L ∧ Frame S w w' := by
  obtain ⟨b', o', el', hob, hcells⟩ := H.ok id _ e
  rw [el] at el'
  simp only [Option.some.injEq, Pl.box.injEq] at el'
  obtain ⟨rfl, rfl, _⟩ := el'
  have hlen := hr.len
  obtain ⟨w', h1, h2, h3⟩ := run_storeCells P b (o + off) (o + cs.length) vs 0 w hob (by omega) (hr.one hk)
  simp only [Nat.add_zero] at h2 h3
  have hsl := setsAt_len hle
  have hin : ∀ j, off ≤ j → j < off + svs.length → ∃ h : j < cs.length, notLent cs[j] := fun j ha hb' => by
    have hj : j < cs.length := by omega
    have := okS_notLent ((okL_all hn).get (j - off) (by simp; omega))
    simp only [List.getElem_take, List.getElem_drop] at this
    exact ⟨hj, by simpa [show off + (j - off) = j by omega] using this⟩
  have h1' : ∀ b1 o1, b1 = b ∧ o + off ≤ o1 ∧ o1 < o + off + vs.length → own loc id (.box cs) b1 o1 := by
    rintro b1 o1 ⟨rfl, ha, hb'⟩
    obtain ⟨hj, hnl⟩ := hin (o1 - o) (by omega) (by omega)
    exact ⟨o, _, el, o1 - o, hj, by omega, hnl⟩
  have hget : ∀ j, (hj : j < cs.length) → (hlt : j < (setsAt cs off svs).length) → (∃ hi : j - off < svs.length, off ≤ j ∧ (setsAt cs off svs)[j] = svs[j - off]) ∨ ((j < off ∨ off + svs.length ≤ j) ∧ (setsAt cs off svs)[j] = cs[j]) := by
    intro j hj hlt
    by_cases hin' : off ≤ j ∧ j < off + svs.length
    · left
      have hg := setsAt_in hle hin'.1 hin'.2
      rw [List.getElem?_eq_getElem hlt] at hg
      exact ⟨by omega, hin'.1, Option.some.inj hg⟩
    · right
      have hg := setsAt_out (vs := svs) hle (j := j) (by omega)
      rw [List.getElem?_eq_getElem hlt, List.getElem?_eq_getElem hj] at hg
      exact ⟨by omega, Option.some.inj hg⟩
  refine ⟨w', h1, H.write e h3 h1' ⟨b, o, by rw [hsl]; exact el, by rw [hsl]; exact h3.ownB hob, fun j hj => ?_⟩ ?_ (fun _ h => h.elim), h3.mono fun b1 o1 h => H.inS id _ e b1 o1 (h1' b1 o1 h)⟩
  · have hj' : j < cs.length := by omega
    rcases hget j hj' hj with ⟨hi, hoj, hg⟩ | ⟨hout, hg⟩
    · rw [hg]
      obtain ⟨h', rj⟩ := hr.get (j - off) hi
      have := h2 (j - off) h'
      rw [show o + off + (j - off) = o + j by omega] at this
      exact cellOk_of (hk.get _ hi) this rj ((hr.one hk).get _ h')
    · rw [hg]
      exact (hcells j hj').frame h3 (fun _ h => by omega)
  · rintro b1 o1 ⟨o0, n0, e0, j, hj, rfl, hnl⟩
    rw [el] at e0
    simp only [Option.some.injEq, Pl.box.injEq] at e0
    obtain ⟨rfl, rfl, rfl⟩ := e0
    have hj' : j < cs.length := by omega
    rcases hget j hj' hj with ⟨hi, hoj, hg⟩ | ⟨hout, hg⟩
    · obtain ⟨_, hn'⟩ := hin j hoj (by omega)
      exact ⟨o, _, el, j, hj', rfl, hn'⟩
    · rw [hg] at hnl
      exact ⟨o, _, el, j, hj', rfl, hnl⟩

end Go.Tev
