/- An evaluator of Go functions on plain values: how a heap of the evaluator grows and turns. Lemmas; no condition beyond those that each states. -/
import Derived.Test.YtanoofbkhddokaaGreatTd
set_option linter.unusedSimpArgs false
set_option linter.unusedVariables false
namespace Go.Tev

/-! ### more places -/

def Ext (loc loc' : Loc) : Prop := ∀ id p, loc id = some p → loc' id = some p
theorem Ext.refl (loc : Loc) : Ext loc loc := fun _ _ h => h
theorem Ext.trans {a b c : Loc} (h : Ext a b) (k : Ext b c) : Ext a c := fun id p e => k id p (h id p e)

theorem SRel.ext {loc loc' : Loc} (h : Ext loc loc') {x : SV} {v : Value} (k : SRel loc x v) : SRel loc' x v := by
  cases x <;> simp only [SRel] at k ⊢ <;> first
    | exact k
    | (obtain ⟨b, o, n, e, hv⟩ := k; exact ⟨b, o, n, h _ _ e, hv⟩)
    | (obtain ⟨b, o, cap, len, e, ips, el, r⟩ := k; exact ⟨b, o, cap, len, e, ips, h _ _ el, r⟩)
    | (obtain ⟨a, cap, len, ips, b, o, el, r⟩ := k; exact ⟨a, cap, len, ips, b, o, h _ _ el, r⟩)
    | (obtain ⟨a, cap, len, e, ips, el, r⟩ := k; exact ⟨a, cap, len, e, ips, h _ _ el, r⟩)
    | (obtain ⟨a, cap, len, ips, el, r⟩ := k; exact ⟨a, cap, len, ips, h _ _ el, r⟩)

theorem Rels.ext {loc loc' : Loc} (h : Ext loc loc') : ∀ {xs : List SV} {vs : List Value}, Rels loc xs vs → Rels loc' xs vs
  | [], [], _ => trivial
  | _ :: _, _ :: _, k => ⟨k.1.ext h, Rels.ext h k.2⟩
  | [], _ :: _, k => k.elim
  | _ :: _, [], k => k.elim

theorem CRel.ext {loc loc' : Loc} (h : Ext loc loc') {x : CV} {v : Value} (k : CRel loc x v) : CRel loc' x v := by
  cases x with
  | s x => cases x <;> simp only [CRel] at k ⊢ <;> first | exact SRel.ext h k | trivial
  | agg l => obtain ⟨cs, e, r⟩ := k; exact ⟨cs, e, r.ext h⟩

theorem CRels.ext {loc loc' : Loc} (h : Ext loc loc') : ∀ {xs : List CV} {vs : List Value}, CRels loc xs vs → CRels loc' xs vs
  | [], [], _ => trivial
  | _ :: _, _ :: _, k => ⟨k.1.ext h, CRels.ext h k.2⟩
  | [], _ :: _, k => k.elim
  | _ :: _, [], k => k.elim

theorem TRel.ext {loc loc' : Loc} (h : Ext loc loc') {x : TV} {v : Value} (k : TRel loc x v) : TRel loc' x v := by
  cases x with
  | c x => exact CRel.ext h k
  | tup l => obtain ⟨cs, e, r⟩ := k; exact ⟨cs, e, r.ext h⟩

theorem TRels.ext {loc loc' : Loc} (h : Ext loc loc') : ∀ {xs : List TV} {vs : List Value}, TRels loc xs vs → TRels loc' xs vs
  | [], [], _ => trivial
  | _ :: _, _ :: _, k => ⟨k.1.ext h, TRels.ext h k.2⟩
  | [], _ :: _, k => k.elim
  | _ :: _, [], k => k.elim

theorem CellOk.ext {loc loc' : Loc} (h : Ext loc loc') {w : World} {b o : Nat} {x : SV} (k : CellOk w loc b o x) : CellOk w loc' b o x := by
  cases x <;> first
    | trivial
    | (obtain ⟨k1, v, k2, k3, k4⟩ := k; exact ⟨k1, v, k2, k3.ext h, k4⟩)

theorem RowOk.ext {loc loc' : Loc} (h : Ext loc loc') {w : World} {id : Nat} {x : Row} (k : RowOk w loc id x) : RowOk w loc' id x := by
  cases x with
  | dead => trivial
  | scrub => trivial
  | box cs => obtain ⟨b, o, e, k1, k2⟩ := k; exact ⟨b, o, h _ _ e, k1, fun j hj => (k2 j hj).ext h⟩
  | rbox cs => obtain ⟨b, o, e, k2⟩ := k; exact ⟨b, o, h _ _ e, fun j hj => (k2 j hj).ext h⟩
  | row ow e l => obtain ⟨a, cap, ips, el, k⟩ := k; exact ⟨a, cap, ips, h _ _ el, k⟩

theorem own_congr {loc loc' : Loc} {id : Nat} (h : loc' id = loc id) (x : Row) : own loc' id x = own loc id x := by
  cases x with
  | dead => rfl
  | scrub => rfl
  | box cs => funext b o; simp only [own, h]
  | rbox cs => rfl
  | row ow e l => cases ow <;> (funext b o; simp only [own, h])

theorem lentTo_congr {loc loc' : Loc} {id : Nat} (h : loc' id = loc id) (x : Row) : lentTo loc' id x = lentTo loc id x := by
  cases x with
  | row ow e l => cases ow <;> (funext b; simp only [lentTo, h])
  | rbox cs => funext b; simp only [lentTo, h]
  | _ => rfl

def updL (loc : Loc) (id : Nat) (p : Pl) : Loc := fun j => if j = id then some p else loc j
theorem updL_self (loc : Loc) (id : Nat) (p : Pl) : updL loc id p id = some p := by simp [updL]
theorem updL_other (loc : Loc) {id j : Nat} (p : Pl) (h : j ≠ id) : updL loc id p j = loc j := by simp [updL, h]
theorem updL_ext {loc : Loc} {id : Nat} (p : Pl) (h : loc id = none) : Ext loc (updL loc id p) := fun j q e => by
  by_cases hj : j = id
  · subst hj; rw [h] at e; cases e
  · rw [updL_other loc p hj]; exact e

theorem updR_self (r : Rows) (i : Nat) (x : Row) : updR r i x i = some x := by simp [updR]
theorem updR_other (r : Rows) {i j : Nat} (x : Row) (h : j ≠ i) : updR r i x j = r j := by
  have : Nat.beq j i = false := by
    cases hb : Nat.beq j i with
    | false => rfl
    | true => exact absurd (Nat.eq_of_beq_eq_true hb) h
  simp [updR, this]
theorem updT_self (r : Nat → TV) (i : Nat) (x : TV) : updT r i x i = x := by simp [updT]
theorem updT_other (r : Nat → TV) {i j : Nat} (x : TV) (h : j ≠ i) : updT r i x j = r j := by
  have : Nat.beq j i = false := by
    cases hb : Nat.beq j i with
    | false => rfl
    | true => exact absurd (Nat.eq_of_beq_eq_true hb) h
  simp [updT, this]

/-- one entry of a heap turns, or is new -/
theorem Heap.upd {rows : Rows} {loc loc' : Loc} {w : World} {S S' : Fp} {L : Nat → Prop} (H : Heap rows loc w S L) (id : Nat) (x : Row)
    (hj : ∀ j, j ≠ id → loc' j = loc j) (hrest : ∀ j y, j ≠ id → rows j = some y → RowOk w loc' j y) (hok : RowOk w loc' id x)
    (hsep : ∀ j y, j ≠ id → rows j = some y → ∀ b o, own loc j y b o → ¬ own loc' id x b o) (hS : ∀ b o, S b o → S' b o)
    (hin : ∀ b o, own loc' id x b o → S' b o) (hl : ∀ b, lentTo loc' id x b → L b) (hd : ∀ b o, S' b o → ¬ L b) (hlt : ∀ b o, S' b o → b < w.heap.size) :
    Heap (updR rows id x) loc' w S' L := by
  have other : ∀ j, j ≠ id → updR rows id x j = rows j := fun j h => updR_other rows x h
  refine ⟨?_, ?_, ?_, ?_, ?_, hd, hlt, H.ltL⟩
  · intro j y e
    by_cases h : j = id
    · subst h; rw [updR_self] at e; cases e; exact hok
    · rw [other j h] at e; exact hrest j y h e
  · intro j e
    by_cases h : j = id
    · subst h; rw [updR_self] at e; cases e
    · rw [other j h] at e; rw [hj j h]; exact H.none j e
  · intro i j y z hij ei ej b o hi hjo
    by_cases h1 : i = id
    · subst h1
      rw [updR_self] at ei; cases ei
      rw [other j (Ne.symm hij)] at ej
      rw [own_congr (hj j (Ne.symm hij))] at hjo
      exact hsep j z (Ne.symm hij) ej b o hjo hi
    · rw [other i h1] at ei
      rw [own_congr (hj i h1)] at hi
      by_cases h2 : j = id
      · subst h2
        rw [updR_self] at ej; cases ej
        exact hsep i y h1 ei b o hi hjo
      · rw [other j h2] at ej
        rw [own_congr (hj j h2)] at hjo
        exact H.sep i j y z hij ei ej b o hi hjo
  · intro j y e b o h
    by_cases h1 : j = id
    · subst h1; rw [updR_self] at e; cases e; exact hin b o h
    · rw [other j h1] at e; rw [own_congr (hj j h1)] at h; exact hS b o (H.inS j y e b o h)
  · intro j y e b h
    by_cases h1 : j = id
    · subst h1; rw [updR_self] at e; cases e; exact hl b h
    · rw [other j h1] at e; rw [lentTo_congr (hj j h1)] at h; exact H.inL j y e b h

/-- an entry is given up -/
theorem Heap.kill {rows : Rows} {loc : Loc} {w : World} {S : Fp} {L : Nat → Prop} (H : Heap rows loc w S L) (id : Nat) : Heap (updR rows id .dead) loc w S L :=
  H.upd id .dead (fun _ _ => rfl) (fun j y _ e => H.ok j y e) trivial (fun _ _ _ _ _ _ _ h => h) (fun _ _ h => h) (fun _ _ h => h.elim) (fun _ h => h.elim) H.dis H.ltS

theorem Heap.scrub {rows : Rows} {loc : Loc} {w : World} {S : Fp} {L : Nat → Prop} (H : Heap rows loc w S L) (id : Nat) : Heap (updR rows id .scrub) loc w S L :=
  H.upd id .scrub (fun _ _ => rfl) (fun j y _ e => H.ok j y e) trivial (fun _ _ _ _ _ _ _ h => h) (fun _ _ h => h) (fun _ _ h => h.elim) (fun _ h => h.elim) H.dis H.ltS

/-- an entry turns at its place -/
theorem Heap.set {rows : Rows} {loc : Loc} {w : World} {S : Fp} {L : Nat → Prop} (H : Heap rows loc w S L) {id : Nat} {x y : Row} (e : rows id = some y)
    (hok : RowOk w loc id x) (ho : ∀ b o, own loc id x b o → own loc id y b o) (hl : ∀ b, lentTo loc id x b → L b) : Heap (updR rows id x) loc w S L :=
  H.upd id x (fun _ _ => rfl) (fun j y _ e => H.ok j y e) hok (fun j z hj ez b o h1 h2 => H.sep j id z y hj ez e b o h1 (ho b o h2)) (fun _ _ h => h)
    (fun b o h => H.inS id y e b o (ho b o h)) hl H.dis H.ltS

/-- a new entry -/
theorem Heap.new {rows : Rows} {loc : Loc} {w : World} {S S' : Fp} {L : Nat → Prop} (H : Heap rows loc w S L) {id : Nat} (hid : rows id = Option.none) (p : Pl) (x : Row)
    (hok : RowOk w (updL loc id p) id x) (hsep : ∀ j y, rows j = some y → ∀ b o, own loc j y b o → ¬ own (updL loc id p) id x b o) (hS : ∀ b o, S b o → S' b o)
    (hin : ∀ b o, own (updL loc id p) id x b o → S' b o) (hl : ∀ b, lentTo (updL loc id p) id x b → L b) (hd : ∀ b o, S' b o → ¬ L b) (hlt : ∀ b o, S' b o → b < w.heap.size) :
    Heap (updR rows id x) (updL loc id p) w S' L :=
  H.upd id x (fun j h => updL_other loc p h) (fun j y _ e => (H.ok j y e).ext (updL_ext p (H.none id hid))) hok (fun j y _ e => hsep j y e) hS hin hl hd hlt

/-- no entry has a block that isn't there yet -/
theorem Heap.own_lt {rows : Rows} {loc : Loc} {w : World} {S : Fp} {L : Nat → Prop} (H : Heap rows loc w S L) {i : Nat} {x : Row} (e : rows i = some x) {b o : Nat} (h : own loc i x b o) : b < w.heap.size :=
  H.ltS b o (H.inS i x e b o h)

theorem Heap.weaken {rows : Rows} {loc : Loc} {w : World} {S S' : Fp} {L : Nat → Prop} (H : Heap rows loc w S L) (hS : ∀ b o, S b o → S' b o) (hd : ∀ b o, S' b o → ¬ L b) (hlt : ∀ b o, S' b o → b < w.heap.size) : Heap rows loc w S' L :=
  ⟨H.ok, H.none, H.sep, fun i x e b o h => hS b o (H.inS i x e b o h), H.inL, hd, hlt, H.ltL⟩

/-! ### memory -/

theorem frame_alloc (S : Fp) (w : World) (o : Obj) : Frame S w (w.alloc o) :=
  ⟨rfl, rfl, rfl, by simp, fun b hb => .inl (by
    show w.heap[b]? = (w.heap.push o)[b]?
    rw [Array.getElem?_push, if_neg (by omega)])⟩

theorem frame_drew (S : Fp) (w : World) : Frame S w w.drew := ⟨rfl, rfl, rfl, Nat.le_refl _, fun _ _ => .refl _ _⟩

theorem alloc_own (w : World) (c : Array Value) (ty : TypeId) (n : Nat) (h : n ≤ c.size) : OwnB (w.alloc (.cells c ty)) w.heap.size n :=
  ⟨c, ty, by show (w.heap.push _)[w.heap.size]? = _; simp, h⟩

theorem alloc_cell (w : World) (c : Array Value) (ty : TypeId) (o : Nat) : (w.alloc (.cells c ty)).cell? (adr (w.heap.size, o)) = c[o]? := World.cell?_alloc_new w c ty o

theorem cell_setCell_eq {w : World} {b n o : Nat} (h : OwnB w b n) (ho : o < n) (v : Value) : (w.setCell (adr (b, o)) v).cell? (adr (b, o)) = some v := by
  obtain ⟨c, ty, e, hn⟩ := h
  refine World.cell?_setCell_same w _ _ (u := c[o]'(by omega)) ?_
  rw [cell_eq, e]
  simp

theorem adr_ne {b o b' o' : Nat} (h : b ≠ b' ∨ o ≠ o') : adr (b, o) ≠ adr (b', o') := by
  intro e
  simp only [adr, Addr.mk.injEq, and_true] at e
  omega

theorem frame_setCell (S : Fp) {w : World} {b n o : Nat} (h : OwnB w b n) (v : Value) (hs : S b o) : Frame S w (w.setCell (adr (b, o)) v) := by
  obtain ⟨c, ty, e, hn⟩ := h
  refine ⟨rfl, rfl, rfl, by simp [World.setCell], fun x hx => ?_⟩
  by_cases hb : x = b
  · subst hb
    refine .inr ⟨c, c.setIfInBounds o v, ty, (0, 0), e, ?_, by simp, fun o' ho' => ?_⟩
    · simp only [World.setCell, adr, Array.getElem?_modify, if_true, e, Option.map_some, Option.isSome_none, Bool.false_eq_true, if_false]
    · by_cases h : o = o'
      · subst h; exact absurd hs ho'
      · simp [Array.getElem?_setIfInBounds_ne h]
  · refine .inl ?_
    simp only [World.setCell, adr, Array.getElem?_modify]
    rw [if_neg (fun h => hb h.symm)]

theorem frozen_own {w : World} {b n : Nat} (h : OwnB w b n) (o : Nat) : w.frozen? (adr (b, o)) = false := by
  obtain ⟨c, ty, e, _⟩ := h
  have : w.heap[(adr (b, o)).block]? = some (.cells c ty (0, 0)) := e
  simp [World.frozen?, this]

theorem own_cell {w : World} {b n o : Nat} (h : OwnB w b n) (ho : o < n) : ∃ v, w.cell? (adr (b, o)) = some v := by
  obtain ⟨c, ty, e, hn⟩ := h
  rw [cell_eq, e]
  exact ⟨c[o]'(by omega), by simp⟩

def oneCells : List Value → Prop | [] => True | v :: vs => v.oneCell' = true ∧ oneCells vs

/-- several cells are written -/
theorem run_storeCells (P : Program) (b o n : Nat) : ∀ (vs : List Value) (i : Nat) (w : World), OwnB w b n → o + i + vs.length ≤ n → oneCells vs →
    ∃ w', (storeCells (adr (b, o)) vs i).run P w = .ok () w' ∧ (∀ j, (h : j < vs.length) → w'.cell? (adr (b, o + i + j)) = some vs[j]) ∧
      Frame (fun b' o' => b' = b ∧ o + i ≤ o' ∧ o' < o + i + vs.length) w w'
  | [], i, w, _, _, _ => ⟨w, rfl, fun j h => absurd h (by simp), .refl _ _⟩
  | v :: vs, i, w, hw, hn, hv => by
    have hlen : (v :: vs).length = vs.length + 1 := rfl
    have hlt : o + i < n := by omega
    obtain ⟨u, hu⟩ := own_cell hw hlt
    have hrun : (store ((adr (b, o)).add i) v).run P w = .ok () (w.setCell (adr (b, o + i)) v) := by
      rw [adr_add, run_store P w _ v .plain hv.1, hu, frozen_own hw]
      rfl
    have fr := frame_setCell (fun b' o' => b' = b ∧ o' = o + i) hw v ⟨rfl, rfl⟩
    obtain ⟨w', h1, h2, h3⟩ := run_storeCells P b o n vs (i + 1) _ (fr.ownB hw) (by omega) hv.2
    refine ⟨w', ?_, ?_, ?_⟩
    · simp only [storeCells, Sem.run_bind, hrun, Result.andThen_ok, h1]
    · intro j hj
      cases j with
      | zero =>
        rw [Nat.add_zero, h3.cell (by have := hw.lt; simp [World.setCell]; exact this) (by omega)]
        exact cell_setCell_eq hw hlt v
      | succ j =>
        have := h2 j (by omega)
        rw [show o + i + (j + 1) = o + (i + 1) + j by omega]
        simpa using this
    · exact (fr.mono (fun x y h => ⟨h.1, by omega, by omega⟩)).trans (h3.mono (fun x y h => ⟨h.1, by omega, by omega⟩)) (fun _ _ _ h => h)

end Go.Tev
