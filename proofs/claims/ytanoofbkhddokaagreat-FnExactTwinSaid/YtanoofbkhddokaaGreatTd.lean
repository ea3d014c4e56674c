/- An evaluator of Go functions on plain values: how its states read in memory. Lemmas on memory; no condition beyond those that each states. -/
import Derived.Test.YtanoofbkhddokaaGreatTc
import Derived.RowKit3
import Derived.Below
set_option linter.unusedSimpArgs false
set_option linter.unusedVariables false
namespace Go.Tev

abbrev Fp := Nat → Nat → Prop

/-- where an inner slice lies -/
structure IP where
  a : Option (Nat × Nat)
  cap : Nat
  len : Nat
  q : Option Addr

/-- where the inner slices of a row lie; the pointer of the row itself, if it has no room -/
structure Ips where
  f : Nat → IP
  q : Option Addr
instance : CoeFun Ips (fun _ => Nat → IP) := ⟨Ips.f⟩

/-- where a struct or a row lies -/
inductive Pl where
  | box (b o n : Nat)
  | row (a : Option (Nat × Nat)) (cap len : Nat) (e : E) (ips : Ips)

abbrev Loc := Nat → Option Pl

def adr (p : Nat × Nat) : Addr := ⟨p.1, p.2, none⟩
/-- a slice's pointer: where there is no room it may be odd -/
def pt (a : Option (Nat × Nat)) (q : Option Addr) : Option Addr := match a with | some p => some (adr p) | none => q
def slV (a : Option (Nat × Nat)) (q : Option Addr) (len cap : Nat) : Value := .slice (pt a q) len cap
def OddQ (q : Option Addr) : Prop := q = none ∨ ∃ s, q = some s ∧ s.spot.isSome = true

theorem adr_add (b o k : Nat) : (adr (b, o)).add k = adr (b, o + k) := by
  unfold adr Addr.add; split <;> simp_all

/-- a scalar of the evaluator and a value -/
def SRel (loc : Loc) : SV → Value → Prop
  | .undef, v => v.oneCell' = true
  | .void, v => v = undef
  | .int k n, v => v = .int k n
  | .bool b, v => v = .bool b
  | .str s, v => v = .string s
  | .fn f, v => v = .func (.func f) #[] #[]
  | .nil, v => v = .slice none 0 0
  | .ptr id off, v => ∃ b o n, loc id = some (.box b o n) ∧ v = .pointer (some (adr (b, o + off)))
  | .eptr id i off, v => ∃ b o cap len e ips, loc id = some (.row (some (b, o)) cap len e ips) ∧ 0 ≤ i ∧ i.toNat < len ∧ v = .pointer (some (adr (b, o + i.toNat * e.sz + off)))
  | .nptr id i j, v => ∃ a cap len ips b o, loc id = some (.row a cap len .n ips) ∧ 0 ≤ i ∧ i.toNat < len ∧ (ips i.toNat).a = some (b, o) ∧ 0 ≤ j ∧ j.toNat < (ips i.toNat).len ∧ v = .pointer (some (adr (b, o + j.toNat)))
  | .slf id, v => ∃ a cap len e ips, loc id = some (.row a cap len e ips) ∧ v = slV a ips.q len cap
  | .sld id k, v => ∃ a cap len e ips, loc id = some (.row a cap len e ips) ∧ 0 ≤ k ∧ k.toNat ≤ len ∧ v = slV (if cap = k.toNat then a else a.map fun p => (p.1, p.2 + k.toNat * e.sz)) ips.q (len - k.toNat) (cap - k.toNat)
  | .slt id n, v => ∃ a cap len e ips, loc id = some (.row a cap len e ips) ∧ 0 ≤ n ∧ n.toNat ≤ len ∧ v = slV a ips.q n.toNat cap
  | .nslf id i, v => ∃ a cap len ips, loc id = some (.row a cap len .n ips) ∧ 0 ≤ i ∧ i.toNat < len ∧ v = slV (ips i.toNat).a (ips i.toNat).q (ips i.toNat).len (ips i.toNat).cap
  | .nsld id i k, v => ∃ a cap len ips, loc id = some (.row a cap len .n ips) ∧ 0 ≤ i ∧ i.toNat < len ∧ 0 ≤ k ∧ k.toNat ≤ (ips i.toNat).len ∧
      v = slV (if (ips i.toNat).cap = k.toNat then (ips i.toNat).a else (ips i.toNat).a.map fun p => (p.1, p.2 + k.toNat)) (ips i.toNat).q ((ips i.toNat).len - k.toNat) ((ips i.toNat).cap - k.toNat)
  | .lent, _ => True
  | .lsl _, _ => True

def Rels (loc : Loc) : List SV → List Value → Prop
  | [], [] => True | x :: xs, v :: vs => SRel loc x v ∧ Rels loc xs vs | _, _ => False

def CRel (loc : Loc) : CV → Value → Prop
  | .s .undef, _ => True
  | .s x, v => SRel loc x v
  | .agg l, v => ∃ cs : List Value, v = .agg cs.toArray ∧ Rels loc l cs
def CRels (loc : Loc) : List CV → List Value → Prop
  | [], [] => True | x :: xs, v :: vs => CRel loc x v ∧ CRels loc xs vs | _, _ => False
def TRel (loc : Loc) : TV → Value → Prop
  | .c x, v => CRel loc x v
  | .tup l, v => ∃ vs : List Value, v = .tuple vs.toArray ∧ CRels loc l vs
def TRels (loc : Loc) : List TV → List Value → Prop
  | [], [] => True | x :: xs, v :: vs => TRel loc x v ∧ TRels loc xs vs | _, _ => False

/-- a block of one's own: not shared with a string, and so long -/
def OwnB (w : World) (b n : Nat) : Prop := ∃ c ty, w.heap[b]? = some (.cells c ty (0, 0)) ∧ n ≤ c.size

def ints (w : World) (b o : Nat) (l : List Int) : Prop := ∀ j, (h : j < l.length) → w.cell? (adr (b, o + j)) = some (.int .i64 l[j])

/-- an inner slice as it lies -/
def InAt (w : World) (own : Bool) (l : List Int) (p : IP) : Prop :=
  p.len = l.length ∧ l.length ≤ p.cap ∧ (p.a = none → p.cap = 0 ∧ OddQ p.q) ∧ ∀ b o, p.a = some (b, o) → ints w b o l ∧ (own = true → OwnB w b (o + p.cap))

def elV : (e : E) → e.C → IP → Nat → Value
  | .i, (n : Int), _, _ => .int .i64 n
  | .b, (n : Int), _, _ => .int .u8 n
  | .s, (s : ByteArray), _, _ => .string s
  | .o, (b : Bool), _, _ => .bool b
  | .t, (x : Int × Int × Int), _, j => .int .i64 (match j with | 0 => x.1 | 1 => x.2.1 | _ => x.2.2)
  | .n, _, p, _ => slV p.a p.q p.len p.cap

/-- of a row of rows: the inner rows -/
def InnerAt (w : World) (own : Bool) (out : Option Nat) : (e : E) → List e.C → Ips → Prop
  | .n, (l : List (List Int)), ips => (∀ i, (h : i < l.length) → InAt w own l[i] (ips i)) ∧
      (own = true → (∀ i j, i < l.length → j < l.length → i ≠ j → ∀ b o b' o', (ips i).a = some (b, o) → (ips j).a = some (b', o') → b ≠ b') ∧ ∀ i, i < l.length → ∀ b o, (ips i).a = some (b, o) → out ≠ some b)
  | _, _, _ => True

def RowAt (w : World) (own : Bool) (e : E) (a : Option (Nat × Nat)) (cap : Nat) (l : List e.C) (ips : Ips) : Prop :=
  l.length ≤ cap ∧ (a = none → cap = 0 ∧ OddQ ips.q) ∧
  (∀ b o, a = some (b, o) →
    (∀ i, (h : i < l.length) → ∀ j, j < e.sz → w.cell? (adr (b, o + i * e.sz + j)) = some (elV e l[i] (ips i) j)) ∧
    (own = true → OwnB w b (o + cap * e.sz))) ∧
  InnerAt w own (a.map (·.1)) e l ips

/-- one cell of a struct in memory -/
def CellOk (w : World) (loc : Loc) (b o : Nat) : SV → Prop
  | .lent => True
  | .lsl _ => True
  | x => okS x = true ∧ ∃ v, w.cell? (adr (b, o)) = some v ∧ SRel loc x v ∧ v.oneCell' = true

def RowOk (w : World) (loc : Loc) (id : Nat) : Row → Prop
  | .dead => True
  | .scrub => True
  | .box cs => ∃ b o, loc id = some (.box b o cs.length) ∧ OwnB w b (o + cs.length) ∧ ∀ j, (h : j < cs.length) → CellOk w loc b (o + j) cs[j]
  | .rbox cs => ∃ b o, loc id = some (.box b o cs.length) ∧ ∀ j, (h : j < cs.length) → CellOk w loc b (o + j) cs[j]
  | .row own e l => ∃ a cap ips, loc id = some (.row a cap l.length e ips) ∧ RowAt w own e a cap l ips

/-- the blocks of a row -/
def plBlk (a : Option (Nat × Nat)) (len : Nat) (e : E) (ips : Ips) (b : Nat) : Prop :=
  (∃ o, a = some (b, o)) ∨ (e = .n ∧ ∃ i, i < len ∧ ∃ o, (ips i).a = some (b, o))
/-- those of them that hold something -/
def lnBlk (a : Option (Nat × Nat)) (len : Nat) (e : E) (ips : Ips) (b : Nat) : Prop :=
  (0 < len ∧ ∃ o, a = some (b, o)) ∨ (e = .n ∧ ∃ i, i < len ∧ 0 < (ips i).len ∧ ∃ o, (ips i).a = some (b, o))

def notLent : SV → Prop | .lent => False | .lsl _ => False | _ => True

/-- what is a row's own -/
def own (loc : Loc) (id : Nat) : Row → Fp
  | .box cs, b, o => ∃ o0 n, loc id = some (.box b o0 n) ∧ ∃ j, ∃ h : j < cs.length, o = o0 + j ∧ notLent cs[j]
  | .row true _ _, b, _ => ∃ a cap len e ips, loc id = some (.row a cap len e ips) ∧ plBlk a len e ips b
  | _, _, _ => False

/-- what is lent to a row -/
def lentTo (loc : Loc) (id : Nat) : Row → Nat → Prop
  | .row false _ _, b => ∃ a cap len e ips, loc id = some (.row a cap len e ips) ∧ lnBlk a len e ips b
  | .rbox _, b => ∃ o n, loc id = some (.box b o n)
  | _, _ => False

/-- one object as it was, but for some cells -/
def SameBut (p : Nat → Prop) (x y : Option Obj) : Prop :=
  x = y ∨ ∃ c c' ty fz, x = some (.cells c ty fz) ∧ y = some (.cells c' ty fz) ∧ c'.size = c.size ∧ ∀ o, ¬ p o → c'[o]? = c[o]?

structure Frame (S : Fp) (w w' : World) : Prop where
  os : w'.os = w.os
  tape : w'.tape = w.tape
  output : w'.output = w.output
  size : w.heap.size ≤ w'.heap.size
  obj : ∀ b, b < w.heap.size → SameBut (S b) w.heap[b]? w'.heap[b]?

structure Heap (rows : Rows) (loc : Loc) (w : World) (S : Fp) (L : Nat → Prop) : Prop where
  ok : ∀ id x, rows id = some x → RowOk w loc id x
  none : ∀ id, rows id = none → loc id = none
  sep : ∀ i j x y, i ≠ j → rows i = some x → rows j = some y → ∀ b o, own loc i x b o → ¬ own loc j y b o
  inS : ∀ i x, rows i = some x → ∀ b o, own loc i x b o → S b o
  inL : ∀ i x, rows i = some x → ∀ b, lentTo loc i x b → L b
  dis : ∀ b o, S b o → ¬ L b
  ltS : ∀ b o, S b o → b < w.heap.size
  ltL : ∀ b, L b → b < w.heap.size

/-! ### frames -/

theorem SameBut.refl (p : Nat → Prop) (x : Option Obj) : SameBut p x x := .inl rfl
theorem SameBut.trans {p : Nat → Prop} {x y z : Option Obj} (h : SameBut p x y) (k : SameBut p y z) : SameBut p x z := by
  rcases h with rfl | ⟨c, c', ty, fz, rfl, rfl, hs, hc⟩
  · exact k
  · rcases k with rfl | ⟨d, d', ty', fz', hd, rfl, hs', hc'⟩
    · exact .inr ⟨c, c', ty, fz, rfl, rfl, hs, hc⟩
    · simp only [Option.some.injEq, Obj.cells.injEq] at hd
      obtain ⟨rfl, rfl, rfl⟩ := hd
      exact .inr ⟨c, d', ty, fz, rfl, rfl, by omega, fun o ho => (hc' o ho).trans (hc o ho)⟩
theorem SameBut.mono {p q : Nat → Prop} {x y : Option Obj} (h : SameBut p x y) (hq : ∀ o, p o → q o) : SameBut q x y := by
  rcases h with rfl | ⟨c, c', ty, fz, rfl, rfl, hs, hc⟩
  · exact .inl rfl
  · exact .inr ⟨c, c', ty, fz, rfl, rfl, hs, fun o ho => hc o (fun hp => ho (hq o hp))⟩

theorem Frame.refl (S : Fp) (w : World) : Frame S w w := ⟨rfl, rfl, rfl, Nat.le_refl _, fun _ _ => .refl _ _⟩

theorem Frame.trans {S S' : Fp} {a b c : World} (h : Frame S a b) (k : Frame S' b c) (hs : ∀ x o, x < a.heap.size → S' x o → S x o) : Frame S a c :=
  ⟨k.os.trans h.os, k.tape.trans h.tape, k.output.trans h.output, Nat.le_trans h.size k.size,
   fun x hx => (h.obj x hx).trans ((k.obj x (Nat.lt_of_lt_of_le hx h.size)).mono fun o => hs x o hx)⟩

theorem Frame.mono {S S' : Fp} {a b : World} (h : Frame S a b) (hs : ∀ x o, S x o → S' x o) : Frame S' a b :=
  ⟨h.os, h.tape, h.output, h.size, fun x hx => (h.obj x hx).mono fun o => hs x o⟩

theorem cell_eq (w : World) (b o : Nat) : w.cell? (adr (b, o)) = match w.heap[b]? with | some (.cells c _ _) => c[o]? | _ => none := by
  unfold World.cell? adr
  simp only [Option.isSome_none, Bool.false_eq_true, if_false]
  rfl

theorem Frame.cell {S : Fp} {w w' : World} (h : Frame S w w') {b o : Nat} (hb : b < w.heap.size) (hs : ¬ S b o) : w'.cell? (adr (b, o)) = w.cell? (adr (b, o)) := by
  rw [cell_eq, cell_eq]
  rcases h.obj b hb with e | ⟨c, c', ty, fz, e, e', _, hc⟩
  · rw [e]
  · rw [e, e']; exact hc o hs

theorem Frame.ownB {S : Fp} {w w' : World} (h : Frame S w w') {b n : Nat} (k : OwnB w b n) : OwnB w' b n := by
  obtain ⟨c, ty, e, hn⟩ := k
  have hb : b < w.heap.size := by
    rcases Nat.lt_or_ge b w.heap.size with h | h
    · exact h
    · simp [Array.getElem?_eq_none h] at e
  rcases h.obj b hb with e1 | ⟨c1, c', ty1, fz, e1, e', hs, _⟩
  · exact ⟨c, ty, by rw [← e1]; exact e, hn⟩
  · rw [e1] at e
    simp only [Option.some.injEq, Obj.cells.injEq] at e
    obtain ⟨rfl, rfl, rfl⟩ := e
    exact ⟨c', ty1, e', by omega⟩

theorem OwnB.lt {w : World} {b n : Nat} (h : OwnB w b n) : b < w.heap.size := by
  obtain ⟨c, ty, e, _⟩ := h
  rcases Nat.lt_or_ge b w.heap.size with h | h
  · exact h
  · simp [Array.getElem?_eq_none h] at e

theorem cell_lt {w : World} {b o : Nat} {v : Value} (h : w.cell? (adr (b, o)) = some v) : b < w.heap.size := World.block_lt_of_cell? (a := adr (b, o)) w h

theorem Frame.below {w w' : World} (h : Frame (fun _ _ => False) w w') : Go.RowKit.Below w.heap.size w w' :=
  ⟨h.os, h.tape, h.output, h.size, fun b hb => by
    rcases h.obj b hb with e | ⟨c, c', ty, fz, e, e', hs, hc⟩
    · exact e.symm
    · rw [e, e']
      have : c' = c := by
        apply Array.ext_getElem?
        intro i
        exact hc i (fun h => h)
      rw [this]⟩

/-! ### rows in another world -/

theorem ints_frame {S : Fp} {w w' : World} (h : Frame S w w') {b o : Nat} {l : List Int} (hs : ∀ j, j < l.length → ¬ S b (o + j)) (k : ints w b o l) : ints w' b o l := by
  intro j hj
  rw [h.cell (cell_lt (k j hj)) (hs j hj)]
  exact k j hj

theorem InAt.frame {S : Fp} {w w' : World} (h : Frame S w w') {ow : Bool} {l : List Int} {p : IP} (hs : ∀ b o, p.a = some (b, o) → 0 < l.length → ∀ o', ¬ S b o') (k : InAt w ow l p) : InAt w' ow l p := by
  obtain ⟨k1, k2, k3, k4⟩ := k
  refine ⟨k1, k2, k3, fun b o e => ?_⟩
  obtain ⟨a1, a2⟩ := k4 b o e
  exact ⟨ints_frame h (fun j hj => hs b o e (by omega) _) a1, fun ho => h.ownB (a2 ho)⟩

theorem InnerAt.frame {S : Fp} {w w' : World} (h : Frame S w w') {ow : Bool} {out : Option Nat} {e : E} {l : List e.C} {ips : Ips}
    (hs : e = .n → ∀ i, i < l.length → 0 < (ips i).len → ∀ b o, (ips i).a = some (b, o) → ∀ o', ¬ S b o') (k : InnerAt w ow out e l ips) : InnerAt w' ow out e l ips := by
  cases e with
  | n =>
    obtain ⟨k1, k2⟩ := k
    exact ⟨fun i hi => (k1 i hi).frame h (fun b o e hl => hs rfl i hi (by rw [(k1 i hi).1]; exact hl) b o e), k2⟩
  | _ => trivial

theorem RowAt.frame {S : Fp} {w w' : World} (h : Frame S w w') {ow : Bool} {e : E} {a : Option (Nat × Nat)} {cap : Nat} {l : List e.C} {ips : Ips}
    (hs : ∀ b, lnBlk a l.length e ips b → ∀ o, ¬ S b o) (k : RowAt w ow e a cap l ips) : RowAt w' ow e a cap l ips := by
  obtain ⟨k1, k2, k3, k4⟩ := k
  refine ⟨k1, k2, fun b o ea => ?_, k4.frame h (fun en i hi hl b o ep => hs b (.inr ⟨en, i, hi, hl, o, ep⟩))⟩
  obtain ⟨a1, a2⟩ := k3 b o ea
  refine ⟨fun i hi j hj => ?_, fun ho => h.ownB (a2 ho)⟩
  rw [h.cell (cell_lt (a1 i hi j hj)) (hs b (.inl ⟨by omega, o, ea⟩) _)]
  exact a1 i hi j hj

theorem lnBlk.pl {a : Option (Nat × Nat)} {len : Nat} {e : E} {ips : Ips} {b : Nat} (h : lnBlk a len e ips b) : plBlk a len e ips b := by
  rcases h with ⟨_, h⟩ | ⟨he, i, hi, _, h⟩
  · exact .inl h
  · exact .inr ⟨he, i, hi, h⟩

theorem CellOk.frame {S : Fp} {w w' : World} (h : Frame S w w') {loc : Loc} {b o : Nat} {x : SV} (hs : notLent x → ¬ S b o) (k : CellOk w loc b o x) : CellOk w' loc b o x := by
  cases x <;> first
    | trivial
    | (obtain ⟨k1, v, k2, k3⟩ := k
       exact ⟨k1, v, by rw [h.cell (cell_lt k2) (hs trivial)]; exact k2, k3⟩)

theorem RowOk.frame {S : Fp} {w w' : World} (h : Frame S w w') {loc : Loc} {id : Nat} {x : Row}
    (ho : ∀ b o, own loc id x b o → ¬ S b o) (hl : ∀ b, lentTo loc id x b → ∀ o, ¬ S b o) (k : RowOk w loc id x) : RowOk w' loc id x := by
  cases x with
  | dead => trivial
  | scrub => trivial
  | box cs =>
    obtain ⟨b, o, e, k1, k2⟩ := k
    exact ⟨b, o, e, h.ownB k1, fun j hj => (k2 j hj).frame h fun hn => ho b _ ⟨o, _, e, j, hj, rfl, hn⟩⟩
  | rbox cs =>
    obtain ⟨b, o, e, k2⟩ := k
    exact ⟨b, o, e, fun j hj => (k2 j hj).frame h fun _ => hl b ⟨o, _, e⟩ _⟩
  | row ow e l =>
    obtain ⟨a, cap, ips, el, k⟩ := k
    refine ⟨a, cap, ips, el, k.frame h fun b hb => ?_⟩
    cases ow with
    | true => exact fun o => ho b o ⟨a, cap, _, e, ips, el, hb.pl⟩
    | false => exact hl b ⟨a, cap, _, e, ips, el, hb⟩

/-- a heap stands where another's cells are written -/
theorem Heap.frame {rows : Rows} {loc : Loc} {w w' : World} {S S1 : Fp} {L : Nat → Prop} (H : Heap rows loc w S L) (h : Frame S1 w w')
    (ho : ∀ i x, rows i = some x → ∀ b o, own loc i x b o → ¬ S1 b o) (hl : ∀ b, L b → ∀ o, ¬ S1 b o) : Heap rows loc w' S L :=
  ⟨fun id x e => (H.ok id x e).frame h (ho id x e) (fun b hb => hl b (H.inL id x e b hb)), H.none, H.sep, H.inS, H.inL, H.dis,
   fun b o hb => Nat.lt_of_lt_of_le (H.ltS b o hb) h.size, fun b hb => Nat.lt_of_lt_of_le (H.ltL b hb) h.size⟩

end Go.Tev
