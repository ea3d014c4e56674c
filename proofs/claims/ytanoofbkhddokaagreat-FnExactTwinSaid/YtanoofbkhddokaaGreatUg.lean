/- An evaluator of Go functions on plain values: the arguments of a law read as plain values. No condition beyond those that each lemma states. -/
import Derived.Test.YtanoofbkhddokaaGreatUf
import Derived.Deep.Matrix
import Derived.Deep.Strs
import Derived.ChangeSlices
set_option linter.unusedSimpArgs false
set_option linter.unusedVariables false
namespace Go.Tev
open Go.ChangeShapes Go.WideShapes Go.Deep

/-! ### what is known of plain values that come from outside -/

def i64B (n : Int) : Prop := -9223372036854775808 ≤ n ∧ n ≤ 9223372036854775807
def wfE : (e : E) → e.C → Prop
  | .i, (n : Int) => i64B n
  | .b, (n : Int) => 0 ≤ n ∧ n ≤ 255
  | .s, (s : ByteArray) => s.size ≤ maxLen
  | .o, _ => True
  | .t, (x : Int × Int × Int) => i64B x.1 ∧ i64B x.2.1 ∧ i64B x.2.2
  | .n, (l : List Int) => l.length ≤ maxLen ∧ ∀ n, n ∈ l → i64B n
def wfL : (t : LT) → t.D → Prop
  | .int k, (n : Int) => (Lit.int k n).wf = true
  | .bool, _ => True
  | .str, (s : ByteArray) => s.size ≤ maxLen
  | .fn _, _ => True
  | .mb _, _ => True
  | .sl _ e, (l : List e.C) => l.length ≤ maxLen ∧ ∀ x, x ∈ l → wfE e x
def wfLs : (ts : List LT) → Tup ts → Prop
  | [], _ => True | t :: ts, x => wfL t x.1 ∧ wfLs ts x.2
def wfT : (t : Ty) → t.D → Prop
  | .v t, x => wfL t x | .a ts, x => wfLs ts x | .p ts, x => wfLs ts x | .r ts, x => wfLs ts x
def wfTs : (ts : List Ty) → PTup ts → Prop
  | [], _ => True | t :: ts, x => wfT t x.1 ∧ wfTs ts x.2

theorem i64B_of {n : Int} (h : (Lit.int .i64 n).wf = true) : i64B n := by
  have : (decide (IntKind.i64.min ≤ n) && decide (n ≤ IntKind.i64.max)) = true := h
  simp only [Bool.and_eq_true, decide_eq_true_eq] at this
  exact this
theorem u8B_of {n : Int} (h : (Lit.int .u8 n).wf = true) : 0 ≤ n ∧ n ≤ 255 := by
  have : (decide (IntKind.u8.min ≤ n) && decide (n ≤ IntKind.u8.max)) = true := h
  simp only [Bool.and_eq_true, decide_eq_true_eq] at this
  exact this

/-! ### types -/

def fieldsT (g : TypeId → Option (List LT)) (P : Program) (t : TypeId) : List Field → Nat → Option (List LT)
  | [], off => bif Nat.beq off (P.cellsOf t) then some [] else none
  | f :: r, off => bif Nat.beq f.offset off then (match g f.type, fieldsT g P t r (off + P.cellsOf f.type) with
    | some a, some b => bif Nat.beq a.length (P.cellsOf f.type) then some (a ++ b) else none
    | _, _ => none) else none

def recB : Option (List LT) → Bool | some [.int .i64, .int .i64, .int .i64] => true | _ => false

def leavesT (P : Program) : Nat → TypeId → Option (List LT)
  | 0, _ => none
  | n + 1, t => match P.underlying t with
    | some (.int k) => some [.int k]
    | some .bool => some [.bool]
    | some .string => some [.str]
    | some (.slice e) => (match elemE P t with
      | some .i => some [.sl false .i]
      | some .b => some [.sl false .b]
      | some .s => some [.sl false .s]
      | some .n => bif Nat.beq (P.cellsOf (P.elem e)) 1 then some [.sl false .n] else none
      | some .t => bif recB (leavesT P n e) then some [.sl false .t] else none
      | _ => none)
    | some (.struct fs) => fieldsT (leavesT P n) P t fs.toList 0
    | _ => none

def tyT (P : Program) (t : TypeId) : Option Ty :=
  match P.underlying t with
  | some (.struct _) => (match leavesT P 20 t with | some ts => some (.a ts) | none => none)
  | _ => (match leavesT P 20 t with | some [t] => some (.v t) | _ => none)
def tysT (P : Program) : List TypeId → Option (List Ty)
  | [] => some [] | t :: r => match tyT P t, tysT P r with | some a, some b => some (a :: b) | _, _ => none

/-! ### opening -/

def blkP (ps : List MemPlace) (b : Nat) : Prop := ∃ x, x ∈ ps ∧ x.block = b

/-- a pointer of a slice as the relation wants it -/
def prOf (a : Addr) : Option (Nat × Nat) := match a.spot with | none => some (a.block, a.off) | some _ => none
theorem pt_prOf (a : Addr) : pt (prOf a) (some a) = some a := by
  unfold prOf
  cases h : a.spot with
  | none => simp only [pt, adr]; congr 1; cases a; simp_all
  | some s => rfl
theorem prOf_some {a : Addr} {b o : Nat} (h : prOf a = some (b, o)) : a = adr (b, o) := by
  unfold prOf at h
  cases hs : a.spot with
  | none => rw [hs] at h; cases h; cases a; simp_all [adr]
  | some s => rw [hs] at h; cases h
theorem odd_prOf {a : Addr} (h : prOf a = none) : OddQ (some a) := by
  unfold prOf at h
  cases hs : a.spot with
  | none => rw [hs] at h; cases h
  | some s => exact .inr ⟨a, rfl, by rw [hs]; rfl⟩
theorem cap0_of {w : World} {a : Addr} {cap : Nat} {v : Value} (h : prOf a = none) (hc : 0 < cap → w.cell? (a.add 0) = some v) : cap = 0 := by
  rcases Nat.eq_zero_or_pos cap with h0 | h0
  · exact h0
  · have := hc h0
    unfold prOf at h
    cases hs : a.spot with
    | none => rw [hs] at h; cases h
    | some s =>
      unfold World.cell? at this
      simp only [Addr.add, if_true, hs, Option.isSome_some] at this
      split at this <;> cases this

theorem mem_row {a : Addr} {n i : Nat} (h : i < n) : (.cell a.block (a.off + i)) ∈ MemPlace.row a n := by
  simp only [MemPlace.row, List.mem_map, List.mem_range]
  exact ⟨i, h, rfl⟩

section
variable {H : Type} {enc : TypeId × Value → H} {P : Program} {w : World} {held : Bool}

theorem open_ints' {t e : TypeId} {k : IntKind} {ek : E} {fuel : Nat} {cs : List Value} {x : DataW H × List MemPlace} (ht : P.underlying t = some (.slice e)) (he : P.underlying e = some (.int k)) (hc : P.cellsOf e = 1)
    (hk : (ek = .i ∧ k = .i64) ∨ (ek = .b ∧ k = .u8)) (h : DataW.trod enc P w 0 (fun _ => true) held fuel t cs = some x) :
    ∃ v, cs = [v] ∧ ∃ l : List ek.C, LfRel w (.sl false ek) l v noFp (blkP x.2) ∧ wfL (.sl false ek) l := by
  rcases open_ints ht he hc h with ⟨rfl, _⟩ | ⟨a, len, cap, zs, rfl, _, hl, hm, hz, hx, hcell, hw⟩
  · refine ⟨_, rfl, [], ⟨none, 0, ⟨fun _ => ⟨none, 0, 0, none⟩, none⟩, rfl, RowAt_nil w false ek, fun b hb => ?_⟩, Nat.zero_le _, fun _ h => by cases h⟩
    rcases hb with ⟨h, _⟩ | ⟨_, i, h, _⟩ <;> cases h
  · simp only [if_true] at hz
    have hlt : (zs.take len).length = len := by rw [List.length_take]; omega
    have hn : prOf a = none → cap = 0 := fun h => cap0_of h (fun h0 => hcell 0 (by omega))
    have key : ∃ l : List ek.C, l.length = len ∧ (∀ i, (h : i < l.length) → ∀ j, j < ek.sz → w.cell? (a.add (i * ek.sz + j)) = some (elV ek l[i] ⟨none, 0, 0, none⟩ j)) ∧ ek.sz = 1 ∧ ek ≠ .n ∧ ∀ x, x ∈ l → wfE ek x := by
      rcases hk with ⟨rfl, rfl⟩ | ⟨rfl, rfl⟩
      · refine ⟨zs.take len, hlt, fun i hi j hj => ?_, rfl, (by simp), fun x hx => i64B_of (hw x (List.mem_of_mem_take hx))⟩
        obtain rfl : j = 0 := by simp [E.sz] at hj; exact hj
        have hi' : i < len := by rw [← hlt]; exact hi
        have := hcell i (by omega)
        simp only [E.sz, Nat.mul_one, Nat.add_zero, elV]
        rw [this]
        simp [List.getD, show i < zs.length by omega]
      · refine ⟨zs.take len, hlt, fun i hi j hj => ?_, rfl, (by simp), fun x hx => u8B_of (hw x (List.mem_of_mem_take hx))⟩
        obtain rfl : j = 0 := by simp [E.sz] at hj; exact hj
        have hi' : i < len := by rw [← hlt]; exact hi
        have := hcell i (by omega)
        simp only [E.sz, Nat.mul_one, Nat.add_zero, elV]
        rw [this]
        simp [List.getD, show i < zs.length by omega]
    obtain ⟨l, h1, h2, h3, h4, h5⟩ := key
    refine ⟨_, rfl, l, ⟨prOf a, cap, ⟨fun _ => ⟨none, 0, 0, none⟩, some a⟩, ?_, ⟨by omega, fun h => ⟨hn h, odd_prOf h⟩, fun b o ea => ⟨fun i hi j hj => ?_, fun h => by cases h⟩, ?_⟩, fun b hb => ?_⟩, by rw [h1]; omega, h5⟩
    · simp only [slV, pt_prOf, h1]
    · have := h2 i hi j hj
      rw [prOf_some ea, adr_add] at this
      rw [Nat.add_assoc]
      exact this
    · cases ek <;> first | trivial | exact absurd rfl h4
    · rcases hb with ⟨hp, o, ea⟩ | ⟨en, _⟩
      · refine ⟨.cell a.block (a.off + 0), ?_, by rw [prOf_some ea]; rfl⟩
        rw [hx]
        exact mem_row (by omega)
      · exact absurd en h4

theorem open_strs' {t e : TypeId} {fuel : Nat} {cs : List Value} {x : DataW H × List MemPlace} (ht : P.underlying t = some (.slice e)) (he : P.underlying e = some .string) (hc : P.cellsOf e = 1)
    (h : DataW.trod enc P w 0 (fun _ => true) held fuel t cs = some x) :
    ∃ v, cs = [v] ∧ ∃ l : List ByteArray, LfRel w (.sl false .s) l v noFp (blkP x.2) ∧ wfL (.sl false .s) l := by
  rcases open_strs ht he hc h with ⟨rfl, _⟩ | ⟨a, len, cap, m, Sx, rfl, _, hl, hm, hmm, hx, hcell⟩
  · refine ⟨_, rfl, [], ⟨none, 0, ⟨fun _ => ⟨none, 0, 0, none⟩, none⟩, rfl, RowAt_nil w false .s, fun b hb => ?_⟩, Nat.zero_le _, fun _ h => by cases h⟩
    rcases hb with ⟨h, _⟩ | ⟨_, i, h, _⟩ <;> cases h
  · simp only [if_true] at hmm
    subst hmm
    have hn : prOf a = none → m = 0 := fun h => cap0_of h (fun h0 => (hcell 0 h0).1)
    have hlen : (List.map Sx (List.range len)).length = len := by simp
    refine ⟨_, rfl, (List.range len).map Sx, ⟨prOf a, m, ⟨fun _ => ⟨none, 0, 0, none⟩, some a⟩, ?_, ⟨by rw [hlen]; exact hl, fun h => ⟨hn h, odd_prOf h⟩, fun b o ea => ⟨fun i hi j hj => ?_, fun h => by cases h⟩, trivial⟩, fun b hb => ?_⟩, by rw [hlen]; omega, fun x hx => ?_⟩
    · simp only [slV, pt_prOf]
      rw [show (List.map Sx (List.range len)).length = len from hlen]
    · obtain rfl : j = 0 := by simp [E.sz] at hj; exact hj
      have hi' : i < len := by rw [← hlen]; exact hi
      have := (hcell i (by omega)).1
      rw [prOf_some ea, adr_add] at this
      simp only [E.sz, Nat.mul_one, Nat.add_zero, elV]
      rw [this]
      simp
    · rcases hb with ⟨hp, o, ea⟩ | ⟨en, _⟩
      · refine ⟨.cell a.block (a.off + 0), ?_, by rw [prOf_some ea]; rfl⟩
        rw [hx]
        rw [hlen] at hp
        exact mem_row (by omega)
      · cases en
    · simp only [List.mem_map, List.mem_range] at hx
      obtain ⟨i, hi, rfl⟩ := hx
      exact (hcell i (by omega)).2

theorem open_rows' {t e q : TypeId} {fuel : Nat} {cs : List Value} {x : DataW H × List MemPlace} (ht : P.underlying t = some (.slice e)) (he : P.underlying e = some (.slice q)) (hq : P.underlying q = some (.int .i64))
    (ce : P.cellsOf e = 1) (cq : P.cellsOf q = 1) (h : DataW.trod enc P w 0 (fun _ => true) held fuel t cs = some x) :
    ∃ v, cs = [v] ∧ ∃ l : List (List Int), LfRel w (.sl false .n) l v noFp (blkP x.2) ∧ wfL (.sl false .n) l := by
  rcases open_int_rows ht he hq ce cq h with ⟨rfl, _⟩ | ⟨a, len, cap, A, Ln, C, Z, rfl, _, hl, hm, hx, hr⟩
  · refine ⟨_, rfl, [], ⟨none, 0, ⟨fun _ => ⟨none, 0, 0, none⟩, none⟩, rfl, RowAt_nil w false .n, fun b hb => ?_⟩, Nat.zero_le _, fun _ h => by cases h⟩
    rcases hb with ⟨h, _⟩ | ⟨_, i, h, _⟩ <;> cases h
  · have hn : prOf a = none → cap = 0 := fun h => cap0_of h (fun h0 => (hr 0 h0).1)
    have hlen : (List.map (fun r => (Z r).take (Ln r)) (List.range len)).length = len := by simp
    have hzl : ∀ r, r < cap → ((Z r).take (Ln r)).length = Ln r := fun r h => by
      obtain ⟨_, h1, _, h2, _⟩ := hr r h
      rw [List.length_take]; omega
    let ip : Nat → IP := fun r => ⟨(A r).bind prOf, C r, Ln r, A r⟩
    have hptq : ∀ r, pt ((A r).bind prOf) (A r) = A r := fun r => by
      cases hA : A r with
      | none => rfl
      | some a' => exact pt_prOf a'
    have hA' : ∀ r b o, (A r).bind prOf = some (b, o) → A r = some (adr (b, o)) := fun r b o h => by
      cases hA : A r with
      | none => rw [hA] at h; cases h
      | some a' => rw [hA] at h; rw [prOf_some h]
    have hnr : ∀ r, r < cap → (A r).bind prOf = none → C r = 0 ∧ OddQ (A r) := fun r hrc h => by
      obtain ⟨_, _, _, h2, _, h3, h4⟩ := hr r hrc
      cases hA : A r with
      | none => exact ⟨h3 hA, .inl rfl⟩
      | some a' =>
        rw [hA] at h
        exact ⟨cap0_of h fun h0 => (h4 a' hA).2 0 h0, odd_prOf h⟩
    refine ⟨_, rfl, (List.range len).map fun r => (Z r).take (Ln r), ⟨prOf a, cap, ⟨ip, some a⟩, ?_, ⟨by rw [hlen]; exact hl, fun h => ⟨hn h, odd_prOf h⟩, fun b o ea => ⟨fun i hi j hj => ?_, fun h => by cases h⟩, ?_⟩, fun b hb => ?_⟩, by rw [hlen]; omega, fun x hx => ?_⟩
    · simp only [slV, pt_prOf]
      rw [show (List.map (fun r => (Z r).take (Ln r)) (List.range len)).length = len from hlen]
    · obtain rfl : j = 0 := by simp [E.sz] at hj; exact hj
      have hi' : i < len := by rw [← hlen]; exact hi
      have := (hr i (by omega)).1
      rw [prOf_some ea, adr_add] at this
      simp only [E.sz, Nat.mul_one, Nat.add_zero, elV, slV]
      rw [this]
      show _ = some (Value.slice (pt ((A i).bind prOf) (A i)) (Ln i) (C i))
      rw [hptq]
    · refine ⟨fun i hi => ?_, fun h => by cases h⟩
      have hi' : i < len := by rw [← hlen]; exact hi
      obtain ⟨_, h1, h2, h3, h4, h5, h6⟩ := hr i (by omega)
      have hz := hzl i (by omega)
      refine ⟨?_, ?_, fun h => hnr i (by omega) h, fun b o ea => ⟨fun j hj => ?_, fun h => by cases h⟩⟩
      · simp only [List.getElem_map, List.getElem_range]; exact hz.symm
      · simp only [List.getElem_map, List.getElem_range, hz]; exact h1
      have ha := hA' i b o ea
      have hj' : j < Ln i := by rw [← hz]; simpa using hj
      have := (h6 _ ha).2 j (by omega)
      rw [adr_add] at this
      rw [this]
      simp [List.getD, show j < (Z i).length by omega]
    · rw [hx]
      rcases hb with ⟨hp, o, ea⟩ | ⟨_, i, hi, hp, o, ea⟩
      · refine ⟨.cell a.block (a.off + 0), ?_, by rw [prOf_some ea]; rfl⟩
        rw [hlen] at hp
        exact List.mem_append_left _ (mem_row (by omega))
      · have hi' : i < len := by rw [← hlen]; exact hi
        have ha := hA' i b o ea
        obtain ⟨_, h1, h2, h3, h4, h5, h6⟩ := hr i (by omega)
        have hp : 0 < Ln i := hp
        refine ⟨.cell b (o + 0), List.mem_append_right _ (List.mem_flatMap.2 ⟨i, List.mem_range.2 (by omega), ?_⟩), rfl⟩
        simp only [intRowPlaces, ha]
        exact mem_row (a := adr (b, o)) (by omega)
    · simp only [List.mem_map, List.mem_range] at hx
      obtain ⟨i, hi, rfl⟩ := hx
      obtain ⟨_, h1, h2, h3, h4, _⟩ := hr i (by omega)
      exact ⟨by rw [hzl i (by omega)]; omega, fun n hn => i64B_of (h4 n (List.mem_of_mem_take hn))⟩

end

end Go.Tev
