/- An evaluator of Go functions on plain values: what is received reads as it did. Lemmas; no condition beyond those that each states. -/
import Derived.Test.YtanoofbkhddokaaGreatTf
set_option linter.unusedSimpArgs false
set_option linter.unusedVariables false
namespace Go.Tev

structure PutR (rows rows' : Rows) (loc loc' : Loc) (w : World) (S : Fp) (L : Nat → Prop) (S1 : Fp) : Prop where
  heap : Heap rows' loc' w S L
  ext : Ext loc loc'
  owned : ∀ b o, Owned rows' loc' b o → Owned rows loc b o ∨ S1 b o

theorem PutR.refl {rows : Rows} {loc : Loc} {w : World} {S : Fp} {L : Nat → Prop} (H : Heap rows loc w S L) (S1 : Fp) : PutR rows rows loc loc w S L S1 :=
  ⟨H, .refl _, fun _ _ h => .inl h⟩

theorem PutR.trans {r0 r1 r2 : Rows} {l0 l1 l2 : Loc} {w : World} {S S1 S2 S3 : Fp} {L : Nat → Prop} (h : PutR r0 r1 l0 l1 w S L S1) (k : PutR r1 r2 l1 l2 w S L S2)
    (h1 : Sub2 S1 S3) (h2 : Sub2 S2 S3) : PutR r0 r2 l0 l2 w S L S3 :=
  ⟨k.heap, h.ext.trans k.ext, fun b o hb => (k.owned b o hb).elim (fun hb => (h.owned b o hb).imp_right (h1 b o)) (fun hb => .inr (h2 b o hb))⟩

theorem putL_ok {rows : Rows} {loc : Loc} {w : World} {S S1 : Fp} {L L1 : Nat → Prop} (H : Heap rows loc w S L) {t : LT} {x : t.D} {v : Value} {id : Nat} (hid : rows id = none)
    (hr : LfRel w t x v S1 L1) (hS : Sub2 S1 S) (hL : ∀ b, L1 b → L b) (hd : Dis (Owned rows loc) S1) :
    ∃ loc', PutR rows (appR rows (putL t x id).2) loc loc' w S L S1 ∧ SRel loc' (putL t x id).1 v ∧ (∀ j, j ≠ id → appR rows (putL t x id).2 j = rows j) ∧
      okS (putL t x id).1 = true ∧ v.oneCell' = true := by
  cases t with
  | int k => obtain rfl := hr; exact ⟨loc, .refl H _, rfl, fun _ _ => rfl, rfl, rfl⟩
  | bool => obtain rfl := hr; exact ⟨loc, .refl H _, rfl, fun _ _ => rfl, rfl, rfl⟩
  | str => obtain rfl := hr; exact ⟨loc, .refl H _, rfl, fun _ _ => rfl, rfl, rfl⟩
  | fn f => obtain rfl := hr; exact ⟨loc, .refl H _, rfl, fun _ _ => rfl, rfl, rfl⟩
  | mb e =>
    match x, hr with
    | none, hr => exact ⟨loc, .refl H _, hr, fun _ _ => rfl, rfl, hr⟩
    | some x, hr =>
      obtain ⟨a, cap, ips, rfl, hat, hb⟩ := hr
      have hown : ∀ b o, own (updL loc id (.row a cap (List.length (α := e.C) x) e ips)) id (.row true e x) b o → S1 b o := by
        rintro b o ⟨a', cap', len', e', ips', el, hp⟩
        rw [updL_self] at el
        simp only [Option.some.injEq, Pl.row.injEq] at el
        obtain ⟨rfl, rfl, rfl, rfl, rfl⟩ := el
        exact hb b hp o
      refine ⟨updL loc id (.row a cap (List.length (α := e.C) x) e ips), ⟨H.new hid _ _ ⟨a, cap, ips, updL_self _ _ _, hat⟩ (fun j y ey b o h1 h2 => hd b o ⟨j, y, ey, h1⟩ (hown b o h2)) (fun _ _ h => h)
        (fun b o h => hS b o (hown b o h)) (fun _ h => h.elim) H.dis H.ltS, updL_ext _ (H.none id hid), ?_⟩, ⟨a, cap, _, e, ips, updL_self _ _ _, rfl⟩, fun j hj => updR_other rows _ hj, rfl, rfl⟩
      rintro b o ⟨i, y, ey, hy⟩
      by_cases hi : i = id
      · subst hi
        simp only [putL, appR] at ey
        rw [updR_self] at ey; cases ey
        exact .inr (hown b o hy)
      · simp only [putL, appR] at ey
        rw [updR_other rows _ hi] at ey
        rw [own_congr (updL_other loc _ hi)] at hy
        exact .inl ⟨i, y, ey, hy⟩
  | sl ow e =>
    cases ow with
    | true =>
      obtain ⟨a, cap, ips, rfl, hat, hb⟩ := hr
      have hown : ∀ b o, own (updL loc id (.row a cap (List.length (α := e.C) x) e ips)) id (.row true e x) b o → S1 b o := by
        rintro b o ⟨a', cap', len', e', ips', el, hp⟩
        rw [updL_self] at el
        simp only [Option.some.injEq, Pl.row.injEq] at el
        obtain ⟨rfl, rfl, rfl, rfl, rfl⟩ := el
        exact hb b hp o
      refine ⟨updL loc id (.row a cap (List.length (α := e.C) x) e ips), ⟨H.new hid _ _ ⟨a, cap, ips, updL_self _ _ _, hat⟩ (fun j y ey b o h1 h2 => hd b o ⟨j, y, ey, h1⟩ (hown b o h2)) (fun _ _ h => h)
        (fun b o h => hS b o (hown b o h)) (fun _ h => h.elim) H.dis H.ltS, updL_ext _ (H.none id hid), ?_⟩, ⟨a, cap, _, e, ips, updL_self _ _ _, rfl⟩, fun j hj => updR_other rows _ hj, rfl, rfl⟩
      rintro b o ⟨i, y, ey, hy⟩
      by_cases hi : i = id
      · subst hi
        simp only [putL, appR] at ey
        rw [updR_self] at ey; cases ey
        exact .inr (hown b o hy)
      · simp only [putL, appR] at ey
        rw [updR_other rows _ hi] at ey
        rw [own_congr (updL_other loc _ hi)] at hy
        exact .inl ⟨i, y, ey, hy⟩
    | false =>
      obtain ⟨a, cap, ips, rfl, hat, hb⟩ := hr
      refine ⟨updL loc id (.row a cap (List.length (α := e.C) x) e ips), ⟨H.new hid _ _ ⟨a, cap, ips, updL_self _ _ _, hat⟩ (fun j y ey b o h1 h2 => h2.elim) (fun _ _ h => h)
        (fun b o h => h.elim) ?_ H.dis H.ltS, updL_ext _ (H.none id hid), ?_⟩, ⟨a, cap, _, e, ips, updL_self _ _ _, rfl⟩, fun j hj => updR_other rows _ hj, rfl, rfl⟩
      · rintro b ⟨a', cap', len', e', ips', el, hp⟩
        rw [updL_self] at el
        simp only [Option.some.injEq, Pl.row.injEq] at el
        obtain ⟨rfl, rfl, rfl, rfl, rfl⟩ := el
        exact hL b (hb b hp)
      · rintro b o ⟨i, y, ey, hy⟩
        by_cases hi : i = id
        · subst hi
          simp only [putL, appR] at ey
          rw [updR_self] at ey; cases ey
          exact hy.elim
        · simp only [putL, appR] at ey
          rw [updR_other rows _ hi] at ey
          rw [own_congr (updL_other loc _ hi)] at hy
          exact .inl ⟨i, y, ey, hy⟩

theorem PutR.dis {rows rows' : Rows} {loc loc' : Loc} {w : World} {S S1 S2 : Fp} {L : Nat → Prop} (h : PutR rows rows' loc loc' w S L S1) (hd : Dis (Owned rows loc) S2) (h12 : Dis S1 S2) : Dis (Owned rows' loc') S2 :=
  fun b o hb => (h.owned b o hb).elim (hd b o) (h12 b o)

def allOk : List SV → Prop | [] => True | x :: r => okS x = true ∧ allOk r

theorem putLs_ok {w : World} {S : Fp} {L : Nat → Prop} : ∀ {ts : List LT} {rows : Rows} {loc : Loc} {S1 : Fp} {L1 : Nat → Prop} {x : Tup ts} {vs : List Value} {id : Nat} (_ : Heap rows loc w S L)
    (_ : ∀ k, id ≤ k → k < id + ts.length → rows k = none) (_ : LsRel w ts x vs S1 L1) (_ : Sub2 S1 S) (_ : ∀ b, L1 b → L b) (_ : Dis (Owned rows loc) S1),
    ∃ loc', PutR rows (appR rows (putLs ts x id).2) loc loc' w S L S1 ∧ Rels loc' (putLs ts x id).1 vs ∧ (∀ j, j < id ∨ id + ts.length ≤ j → appR rows (putLs ts x id).2 j = rows j) ∧
      allOk (putLs ts x id).1 ∧ oneCells vs ∧ (putLs ts x id).1.length = ts.length ∧ vs.length = ts.length
  | [], rows, loc, S1, L1, x, [], id, H, _, _, _, _, _ => ⟨loc, .refl H _, trivial, fun _ _ => rfl, trivial, trivial, rfl, rfl⟩
  | [], _, _, _, _, _, _ :: _, _, _, _, h, _, _, _ => h.elim
  | _ :: _, _, _, _, _, _, [], _, _, _, h, _, _, _ => h.elim
  | t :: ts, rows, loc, S1, L1, x, v :: vs, id, H, hf, hr, hS, hL, hd => by
    obtain ⟨Sa, Sb, r1, r2, dab, sa, sb⟩ := hr
    obtain ⟨l1, P1, k1, o1, ok1, one1⟩ := putL_ok H (hf id (Nat.le_refl _) (by simp)) r1 (fun b o h => hS b o (sa b o h)) hL (fun b o h h' => hd b o h (sa b o h'))
    obtain ⟨l2, P2, k2, o2, ok2, one2, len2, vl2⟩ := putLs_ok (id := id + 1) P1.heap (fun k h1 h2 => by rw [o1 k (by omega)]; exact hf k (by omega) (by simp; omega)) r2 (fun b o h => hS b o (sb b o h)) hL
      (P1.dis (fun b o h h' => hd b o h (sb b o h')) dab)
    refine ⟨l2, ?_, ⟨k1.ext P2.ext, k2⟩, ?_, ⟨ok1, ok2⟩, ⟨one1, one2⟩, by simp [putLs, len2], by simp [vl2]⟩
    · simp only [putLs, appR_append]
      exact P1.trans P2 sa sb
    · intro j hj
      simp only [putLs, appR_append]
      rw [o2 j (by simp at hj; omega), o1 j (by simp at hj; omega)]

/-- a struct's cells, out of what lies in them -/
theorem cellOk_of {w : World} {loc : Loc} {b o : Nat} {x : SV} {v : Value} (hx : okS x = true) (e : w.cell? (adr (b, o)) = some v) (r : SRel loc x v) (one : v.oneCell' = true) : CellOk w loc b o x := by
  cases x <;> first
    | trivial
    | exact ⟨hx, v, e, r, one⟩

theorem Rels.get {loc : Loc} : ∀ {xs : List SV} {vs : List Value} (_ : Rels loc xs vs) (j : Nat) (h : j < xs.length), ∃ h' : j < vs.length, SRel loc xs[j] vs[j]
  | _ :: _, _ :: _, r, 0, _ => ⟨by simp, r.1⟩
  | _ :: _, _ :: _, r, j + 1, h => by
    obtain ⟨h', k⟩ := r.2.get j (by simpa using h)
    exact ⟨by simpa using h', by simpa using k⟩
  | [], [], _, _, h => by simp at h
  | [], _ :: _, r, _, _ => r.elim
  | _ :: _, [], r, _, _ => r.elim

theorem allOk.get : ∀ {xs : List SV} (_ : allOk xs) (j : Nat) (h : j < xs.length), okS xs[j] = true
  | _ :: _, r, 0, _ => r.1
  | _ :: _, r, j + 1, h => by simpa using r.2.get j (by simpa using h)

theorem oneCells.get : ∀ {xs : List Value} (_ : oneCells xs) (j : Nat) (h : j < xs.length), xs[j].oneCell' = true
  | _ :: _, r, 0, _ => r.1
  | _ :: _, r, j + 1, h => by simpa using r.2.get j (by simpa using h)

theorem okS_notLent {x : SV} (h : okS x = true) : notLent x := by cases x <;> first | trivial | (simp [okS] at h)

def tyOk : Ty → Prop | .v _ => True | .a ts => ts.length ≤ 63 | .p ts => ts.length ≤ 63 | .r ts => ts.length ≤ 63

theorem putTy_ok {rows : Rows} {loc : Loc} {w : World} {S S1 : Fp} {L L1 : Nat → Prop} (H : Heap rows loc w S L) {t : Ty} {x : t.D} {v : Value} {id : Nat} (hf : ∀ k, id ≤ k → k < id + 64 → rows k = none)
    (hr : TyRel w t x v S1 L1) (hS : Sub2 S1 S) (hL : ∀ b, L1 b → L b) (hd : Dis (Owned rows loc) S1) (hlen : tyOk t) :
    ∃ loc', PutR rows (appR rows (putTy t x id).2) loc loc' w S L S1 ∧ TRel loc' (putTy t x id).1 v ∧ (∀ j, j < id ∨ id + 64 ≤ j → appR rows (putTy t x id).2 j = rows j) ∧
      (∀ ts, t = .p ts → ∃ b o, v = .pointer (some (adr (b, o))) ∧ loc' (id + 63) = some (.box b o ts.length)) := by
  cases t with
  | v t =>
    obtain ⟨l1, P1, k1, o1, ok1, _⟩ := putL_ok H (hf id (Nat.le_refl _) (by omega)) hr hS hL hd
    refine ⟨l1, P1, ?_, fun j hj => o1 j (by omega), fun ts h => by cases h⟩
    show CRel l1 (.s _) v
    generalize (putL t x id).1 = y at k1 ⊢
    cases y <;> first | trivial | exact k1
  | a ts =>
    obtain ⟨cs, rfl, r⟩ := hr
    obtain ⟨l1, P1, k1, o1, _⟩ := putLs_ok (id := id) H (fun k h1 h2 => hf k h1 (by simp only [tyOk] at hlen; omega)) r hS hL hd
    exact ⟨l1, P1, ⟨cs, rfl, k1⟩, fun j hj => o1 j (by simp only [tyOk] at hlen; omega), fun ts h => by cases h⟩
  | p ts =>
    obtain ⟨b, o, cs, Sa, rfl, hob, hcl, hcs, r, sa, sr, dar⟩ := hr
    simp only [tyOk] at hlen
    obtain ⟨l1, P1, k1, o1, ok1, one1, len1, _⟩ := putLs_ok (id := id) H (fun k h1 h2 => hf k h1 (by omega)) r (fun b o h => hS b o (sa b o h)) hL (fun b o h h' => hd b o h (sa b o h'))
    have hfree : appR rows (putLs ts x id).2 (id + 63) = none := by rw [o1 _ (by omega)]; exact hf _ (by omega) (by omega)
    have hown : ∀ b' o', own (updL l1 (id + 63) (.box b o ts.length)) (id + 63) (.box (putLs ts x id).1) b' o' → rng b o ts.length b' o' := by
      rintro b' o' ⟨o0, n0, e0, j, hj, rfl, _⟩
      rw [updL_self] at e0
      simp only [Option.some.injEq, Pl.box.injEq] at e0
      obtain ⟨rfl, rfl, rfl⟩ := e0
      exact ⟨rfl, by omega, by omega⟩
    have hd2 : Dis (Owned (appR rows (putLs ts x id).2) l1) (rng b o ts.length) := P1.dis (fun b o h h' => hd b o h (sr b o h')) dar
    have hnew : Heap (updR (appR rows (putLs ts x id).2) (id + 63) (.box (putLs ts x id).1)) (updL l1 (id + 63) (.box b o ts.length)) w S L := by
      refine P1.heap.new hfree _ _ ⟨b, o, by rw [updL_self, len1], by rw [len1]; exact hob, fun j hj => ?_⟩ (fun j y ey b o h1 h2 => hd2 b o ⟨j, y, ey, h1⟩ (hown b o h2)) (fun _ _ h => h)
        (fun b o h => hS b o (sr b o (hown b o h))) (fun _ h => h.elim) P1.heap.dis P1.heap.ltS
      obtain ⟨h', rj⟩ := k1.get j hj
      exact cellOk_of (ok1.get j hj) (hcs j h') (rj.ext (updL_ext _ (P1.heap.none _ hfree))) (one1.get j h')
    refine ⟨updL l1 (id + 63) (.box b o ts.length), ⟨?_, P1.ext.trans (updL_ext _ (P1.heap.none _ hfree)), ?_⟩, ⟨b, o, _, updL_self _ _ _, by rw [Nat.add_zero]⟩, ?_, ?_⟩
    · simp only [putTy, appR_append, appR]
      exact hnew
    · rintro b' o' ⟨i, y, ey, hy⟩
      simp only [putTy, appR_append, appR] at ey
      by_cases hi : i = id + 63
      · subst hi
        rw [updR_self] at ey; cases ey
        exact .inr (sr b' o' (hown b' o' hy))
      · rw [updR_other _ _ hi] at ey
        rw [own_congr (updL_other l1 _ hi)] at hy
        exact (P1.owned b' o' ⟨i, y, ey, hy⟩).imp_right (sa b' o')
    · intro j hj
      simp only [putTy, appR_append, appR]
      rw [updR_other _ _ (by omega), o1 j (by omega)]
    · intro ts' h
      cases h
      exact ⟨b, o, rfl, updL_self _ _ _⟩
  | r ts =>
    obtain ⟨b, o, cs, rfl, hcl, hcs, r, lb⟩ := hr
    simp only [tyOk] at hlen
    obtain ⟨l1, P1, k1, o1, ok1, one1, len1, _⟩ := putLs_ok (id := id) H (fun k h1 h2 => hf k h1 (by omega)) r hS hL hd
    have hfree : appR rows (putLs ts x id).2 (id + 63) = none := by rw [o1 _ (by omega)]; exact hf _ (by omega) (by omega)
    have hnew : Heap (updR (appR rows (putLs ts x id).2) (id + 63) (.rbox (putLs ts x id).1)) (updL l1 (id + 63) (.box b o ts.length)) w S L := by
      refine P1.heap.new hfree _ _ ⟨b, o, by rw [updL_self, len1], fun j hj => ?_⟩ (fun j y ey b o h1 h2 => h2.elim) (fun _ _ h => h)
        (fun b o h => h.elim) ?_ P1.heap.dis P1.heap.ltS
      · obtain ⟨h', rj⟩ := k1.get j hj
        exact cellOk_of (ok1.get j hj) (hcs j h') (rj.ext (updL_ext _ (P1.heap.none _ hfree))) (one1.get j h')
      · rintro b' ⟨o', n', e'⟩
        rw [updL_self] at e'
        simp only [Option.some.injEq, Pl.box.injEq] at e'
        obtain ⟨rfl, _, _⟩ := e'
        exact hL b lb
    refine ⟨updL l1 (id + 63) (.box b o ts.length), ⟨?_, P1.ext.trans (updL_ext _ (P1.heap.none _ hfree)), ?_⟩, ⟨b, o, _, updL_self _ _ _, by rw [Nat.add_zero]⟩, ?_, fun ts' h => by cases h⟩
    · simp only [putTy, appR_append, appR]
      exact hnew
    · rintro b' o' ⟨i, y, ey, hy⟩
      simp only [putTy, appR_append, appR] at ey
      by_cases hi : i = id + 63
      · subst hi
        rw [updR_self] at ey; cases ey
        exact hy.elim
      · rw [updR_other _ _ hi] at ey
        rw [own_congr (updL_other l1 _ hi)] at hy
        exact P1.owned b' o' ⟨i, y, ey, hy⟩
    · intro j hj
      simp only [putTy, appR_append, appR]
      rw [updR_other _ _ (by omega), o1 j (by omega)]

def tysOk : List Ty → Prop | [] => True | t :: ts => tyOk t ∧ tysOk ts

/-- the structs among what is received -/
def BoxesAt (loc : Loc) : List Ty → List Value → Nat → Prop
  | [], [], _ => True
  | .p ts :: r, v :: vs, id => (∃ b o, v = .pointer (some (adr (b, o))) ∧ loc (id + 63) = some (.box b o ts.length)) ∧ BoxesAt loc r vs (id + 64)
  | .v _ :: r, _ :: vs, id => BoxesAt loc r vs (id + 64)
  | .a _ :: r, _ :: vs, id => BoxesAt loc r vs (id + 64)
  | .r _ :: r, _ :: vs, id => BoxesAt loc r vs (id + 64)
  | _, _, _ => False

theorem BoxesAt.ext {loc loc' : Loc} (h : Ext loc loc') : ∀ {ts : List Ty} {vs : List Value} {id : Nat}, BoxesAt loc ts vs id → BoxesAt loc' ts vs id
  | [], [], _, _ => trivial
  | [], _ :: _, _, k => k.elim
  | t :: _, [], _, k => by cases t <;> exact k.elim
  | t :: r, v :: vs, id, k => by
    cases t with
    | p ts => obtain ⟨⟨b, o, e, el⟩, k2⟩ := k; exact ⟨⟨b, o, e, h _ _ el⟩, k2.ext h⟩
    | v _ => exact BoxesAt.ext (ts := r) h k
    | a _ => exact BoxesAt.ext (ts := r) h k
    | r _ => exact BoxesAt.ext (ts := r) h k

theorem putTys_ok {w : World} {S : Fp} {L : Nat → Prop} : ∀ {ts : List Ty} {rows : Rows} {loc : Loc} {S1 : Fp} {L1 : Nat → Prop} {x : PTup ts} {vs : List Value} {id : Nat} (_ : Heap rows loc w S L)
    (_ : ∀ k, id ≤ k → k < id + 64 * ts.length → rows k = none) (_ : TysRel w ts x vs S1 L1) (_ : Sub2 S1 S) (_ : ∀ b, L1 b → L b) (_ : Dis (Owned rows loc) S1) (_ : tysOk ts),
    ∃ loc', PutR rows (appR rows (putTys ts x id).2) loc loc' w S L S1 ∧ TRels loc' (putTys ts x id).1 vs ∧ (∀ j, j < id ∨ id + 64 * ts.length ≤ j → appR rows (putTys ts x id).2 j = rows j) ∧
      BoxesAt loc' ts vs id ∧ (putTys ts x id).1.length = ts.length ∧ vs.length = ts.length
  | [], rows, loc, S1, L1, x, [], id, H, _, _, _, _, _, _ => ⟨loc, .refl H _, trivial, fun _ _ => rfl, trivial, rfl, rfl⟩
  | [], _, _, _, _, _, _ :: _, _, _, _, h, _, _, _, _ => h.elim
  | _ :: _, _, _, _, _, _, [], _, _, _, h, _, _, _, _ => h.elim
  | t :: ts, rows, loc, S1, L1, x, v :: vs, id, H, hf, hr, hS, hL, hd, ht => by
    obtain ⟨Sa, Sb, r1, r2, dab, sa, sb⟩ := hr
    obtain ⟨l1, P1, k1, o1, b1⟩ := putTy_ok (id := id) H (fun k h1 h2 => hf k h1 (by simp; omega)) r1 (fun b o h => hS b o (sa b o h)) hL (fun b o h h' => hd b o h (sa b o h')) ht.1
    obtain ⟨l2, P2, k2, o2, b2, len2, vl2⟩ := putTys_ok (id := id + 64) P1.heap (fun k h1 h2 => by rw [o1 k (by omega)]; exact hf k (by omega) (by simp; omega)) r2 (fun b o h => hS b o (sb b o h)) hL
      (P1.dis (fun b o h h' => hd b o h (sb b o h')) dab) ht.2
    refine ⟨l2, ?_, ⟨k1.ext P2.ext, k2⟩, ?_, ?_, by simp [putTys, len2], by simp [vl2]⟩
    · simp only [putTys, appR_append]
      exact P1.trans P2 sa sb
    · intro j hj
      simp only [putTys, appR_append]
      rw [o2 j (by simp at hj; omega), o1 j (by simp at hj; omega)]
    · cases t with
      | p ts' =>
        obtain ⟨b, o, e, el⟩ := b1 ts' rfl
        exact ⟨⟨b, o, e, P2.ext _ _ el⟩, b2⟩
      | v _ => exact b2
      | a _ => exact b2
      | r _ => exact b2

/-! ### lent structs come back -/

/-- the cells of a lent struct behind the call: what it owns; what was only lent is as it was -/
def LsBack (w : World) : (ts : List LT) → Tup ts → List Value → List Value → Fp → Prop
  | [], _, [], [], _ => True
  | .sl false _ :: ts, x, o :: os, v :: vs, S => v = o ∧ LsBack w ts x.2 os vs S
  | .sl true e :: ts, x, _ :: os, v :: vs, S => ∃ S1 S2, LfRel w (.sl true e) x.1 v S1 (fun _ => False) ∧ LsBack w ts x.2 os vs S2 ∧ Dis S1 S2 ∧ Sub2 S1 S ∧ Sub2 S2 S
  | .int k :: ts, x, _ :: os, v :: vs, S => LfRel w (.int k) x.1 v S (fun _ => False) ∧ LsBack w ts x.2 os vs S
  | .bool :: ts, x, _ :: os, v :: vs, S => LfRel w .bool x.1 v S (fun _ => False) ∧ LsBack w ts x.2 os vs S
  | .str :: ts, x, _ :: os, v :: vs, S => LfRel w .str x.1 v S (fun _ => False) ∧ LsBack w ts x.2 os vs S
  | .fn f :: ts, x, _ :: os, v :: vs, S => LfRel w (.fn f) x.1 v S (fun _ => False) ∧ LsBack w ts x.2 os vs S
  | .mb e :: ts, x, _ :: os, v :: vs, S => ∃ S1 S2, LfRel w (.mb e) x.1 v S1 (fun _ => False) ∧ LsBack w ts x.2 os vs S2 ∧ Dis S1 S2 ∧ Sub2 S1 S ∧ Sub2 S2 S
  | _, _, _, _, _ => False

/-- one lent struct behind the call -/
def BoxBack (w w' : World) (ts : List LT) (x : Tup ts) (v : Value) (S : Fp) : Prop :=
  ∃ b o old new S1, v = .pointer (some (adr (b, o))) ∧ old.length = ts.length ∧ CellsAt w b o old ∧ CellsAt w' b o new ∧ LsBack w' ts x old new S1 ∧
    Sub2 S1 S ∧ Sub2 (rng b o ts.length) S ∧ Dis S1 (rng b o ts.length)

def TysBack (w w' : World) : (ts : List Ty) → BTup ts → List Value → Fp → Prop
  | [], _, [], _ => True
  | .p ts :: r, x, v :: vs, S => ∃ S1 S2, BoxBack w w' ts x.1 v S1 ∧ TysBack w w' r x.2 vs S2 ∧ Dis S1 S2 ∧ Sub2 S1 S ∧ Sub2 S2 S
  | .v _ :: r, x, _ :: vs, S => TysBack w w' r x vs S
  | .a _ :: r, x, _ :: vs, S => TysBack w w' r x vs S
  | .r _ :: r, x, _ :: vs, S => TysBack w w' r x vs S
  | _, _, _, _ => False

theorem putOwn_ok {w : World} {S : Fp} {L : Nat → Prop} : ∀ {ts : List LT} {rows : Rows} {loc : Loc} {S1 : Fp} {x : Tup ts} {os : List SV} {old new : List Value} {id : Nat} (_ : Heap rows loc w S L)
    (_ : ∀ k, id ≤ k → k < id + ts.length → rows k = none) (_ : LsBack w ts x old new S1) (_ : LentCells loc ts os old) (_ : Sub2 S1 S) (_ : Dis (Owned rows loc) S1),
    ∃ loc', PutR rows (appR rows (putOwn ts x os id).2) loc loc' w S L S1 ∧ Rels loc' (putOwn ts x os id).1 new ∧ (∀ j, j < id ∨ id + ts.length ≤ j → appR rows (putOwn ts x os id).2 j = rows j) ∧
      allOk (putOwn ts x os id).1 ∧ oneCells new ∧ (putOwn ts x os id).1.length = ts.length ∧ new.length = ts.length
  | [], rows, loc, S1, x, os, old, new, id, H, _, hb, hl, _, _ => by
    cases old with
    | nil =>
      cases new with
      | nil => exact ⟨loc, .refl H _, trivial, fun _ _ => rfl, trivial, trivial, rfl, rfl⟩
      | cons _ _ => exact hb.elim
    | cons _ _ => cases new <;> exact hb.elim
  | t :: ts, rows, loc, S1, x, os, old, new, id, H, hf, hb, hl, hS, hd => by
    cases os with
    | nil => cases old <;> (cases t with | sl ow e => cases ow <;> exact hl.elim | _ => exact hl.elim)
    | cons c os =>
    cases old with
    | nil => cases t with | sl ow e => cases ow <;> exact hl.elim | _ => exact hl.elim
    | cons o old =>
    cases new with
    | nil => cases t with | sl ow e => cases ow <;> exact hb.elim | _ => exact hb.elim
    | cons v new =>
    by_cases hsh : ∃ e, t = .sl false e
    · obtain ⟨e, rfl⟩ := hsh
      obtain ⟨⟨k, rfl, hk⟩, hl2⟩ := hl
      obtain ⟨rfl, hb2⟩ := hb
      obtain ⟨l2, P2, k2, o2, ok2, one2, len2, vl2⟩ := putOwn_ok (id := id + 1) H (fun k h1 h2 => hf k (by omega) (by simp; omega)) hb2 hl2 hS hd
      refine ⟨l2, P2, ⟨hk.ext P2.ext, k2⟩, fun j hj => o2 j (by simp at hj; omega), ⟨rfl, ok2⟩, ⟨?_, one2⟩, by simp [putOwn, len2], by simp [vl2]⟩
      obtain ⟨a, cap, len, e, ips, _, rfl⟩ := hk
      rfl
    · have key : ∃ Sa Sb, LfRel w t x.1 v Sa (fun _ => False) ∧ LsBack w ts x.2 old new Sb ∧ Dis Sa Sb ∧ Sub2 Sa S1 ∧ Sub2 Sb S1 ∧ LentCells loc ts os old ∧
          (putOwn (t :: ts) x (c :: os) id) = ((putL t x.1 id).1 :: (putOwn ts x.2 os (id + 1)).1, (putL t x.1 id).2 ++ (putOwn ts x.2 os (id + 1)).2) := by
        cases t with
        | sl ow e =>
          cases ow with
          | false => exact absurd ⟨e, rfl⟩ hsh
          | true => obtain ⟨Sa, Sb, h1, h2, h3, h4, h5⟩ := hb; exact ⟨Sa, Sb, h1, h2, h3, h4, h5, hl.2, rfl⟩
        | int k => exact ⟨noFp, S1, hb.1, hb.2, fun _ _ h => h.elim, fun _ _ h => h.elim, fun _ _ h => h, hl.2, rfl⟩
        | bool => exact ⟨noFp, S1, hb.1, hb.2, fun _ _ h => h.elim, fun _ _ h => h.elim, fun _ _ h => h, hl.2, rfl⟩
        | str => exact ⟨noFp, S1, hb.1, hb.2, fun _ _ h => h.elim, fun _ _ h => h.elim, fun _ _ h => h, hl.2, rfl⟩
        | fn f => exact ⟨noFp, S1, hb.1, hb.2, fun _ _ h => h.elim, fun _ _ h => h.elim, fun _ _ h => h, hl.2, rfl⟩
        | mb e => obtain ⟨Sa, Sb, h1, h2, h3, h4, h5⟩ := hb; exact ⟨Sa, Sb, h1, h2, h3, h4, h5, hl.2, rfl⟩
      obtain ⟨Sa, Sb, r1, r2, dab, sa, sb, hl2, e⟩ := key
      obtain ⟨l1, P1, k1, o1, ok1, one1⟩ := putL_ok H (hf id (Nat.le_refl _) (by simp)) r1 (fun b o h => hS b o (sa b o h)) (fun _ h => h.elim) (fun b o h h' => hd b o h (sa b o h'))
      have hl3 : LentCells l1 ts os old := by
        have : ∀ {ts : List LT} {os : List SV} {old : List Value}, LentCells loc ts os old → LentCells l1 ts os old := by
          intro ts
          induction ts with
          | nil => intro os old h; cases os <;> cases old <;> first | trivial | exact h.elim
          | cons t ts ih =>
            intro os old h
            cases os with
            | nil => cases old <;> (cases t with | sl ow e => cases ow <;> exact h.elim | _ => exact h.elim)
            | cons c os =>
              cases old with
              | nil => cases t with | sl ow e => cases ow <;> exact h.elim | _ => exact h.elim
              | cons o old =>
                cases t with
                | sl ow e =>
                  cases ow with
                  | false => obtain ⟨⟨k, hk, hr⟩, h2⟩ := h; exact ⟨⟨k, hk, hr.ext P1.ext⟩, ih h2⟩
                  | true => exact ⟨h.1, ih h.2⟩
                | _ => exact ⟨h.1, ih h.2⟩
        exact this hl2
      obtain ⟨l2, P2, k2, o2, ok2, one2, len2, vl2⟩ := putOwn_ok (id := id + 1) P1.heap (fun k h1 h2 => by rw [o1 k (by omega)]; exact hf k (by omega) (by simp; omega)) r2 hl3 (fun b o h => hS b o (sb b o h))
        (P1.dis (fun b o h h' => hd b o h (sb b o h')) dab)
      rw [e]
      refine ⟨l2, ?_, ⟨k1.ext P2.ext, k2⟩, ?_, ⟨ok1, ok2⟩, ⟨one1, one2⟩, by simp [len2], by simp [vl2]⟩
      · simp only [appR_append]
        exact P1.trans P2 sa sb
      · intro j hj
        simp only [appR_append]
        rw [o2 j (by simp at hj; omega), o1 j (by simp at hj; omega)]

/-- one lent struct comes back -/
theorem backBox_ok {w w' : World} {S S1 : Fp} {L : Nat → Prop} {ts : List LT} {rows : Rows} {loc : Loc} {x : Tup ts} {v : Value} {id off base : Nat} (H : Heap rows loc w' S L)
    (hf : ∀ k, base ≤ k → k < base + ts.length → rows k = none) (hb : BoxBack w w' ts x v S1) (hl : LentAt rows loc w id off ts v) (hS : Sub2 S1 S) (hd : Dis (Owned rows loc) S1) :
    ∃ cs loc', rows id = some (.box cs) ∧ PutR rows (appR rows ((putOwn ts x ((cs.drop off).take ts.length) base).2 ++ [(id, .box (setsAt cs off (putOwn ts x ((cs.drop off).take ts.length) base).1))])) loc loc' w' S L S1 ∧
      (∀ j, (j < base ∨ base + ts.length ≤ j) → j ≠ id → appR rows ((putOwn ts x ((cs.drop off).take ts.length) base).2 ++ [(id, .box (setsAt cs off (putOwn ts x ((cs.drop off).take ts.length) base).1))]) j = rows j) ∧
      (∀ id' (cs' : List SV), rows id' = some (.box cs') → ∃ cs2 : List SV, appR rows ((putOwn ts x ((cs.drop off).take ts.length) base).2 ++ [(id, .box (setsAt cs off (putOwn ts x ((cs.drop off).take ts.length) base).1))]) id' = some (.box cs2) ∧
        cs2.length = cs'.length ∧ ∀ (j : Nat) (c : SV), cs'[j]? = some c → (id' = id → j < off ∨ off + ts.length ≤ j) → cs2[j]? = some c) := by
  obtain ⟨b, o, cs, old, er, el, rfl, hle, hlc, hold⟩ := hl
  obtain ⟨b', o', old', new, Sa, ev, hol, hold', hnew, hls, sa, sr, dar⟩ := hb
  simp only [Value.pointer.injEq, Option.some.injEq, adr, Addr.mk.injEq, and_true] at ev
  obtain ⟨rfl, rfl⟩ := ev
  have hoo : old' = old := by
    apply List.ext_getElem
    · rw [hol, hlc.len.2.1]
    · intro j h1 h2
      have e1 := hold' j h1
      have e2 := hold j h2
      rw [e1] at e2
      exact Option.some.inj e2
  subst hoo
  have hid : ¬ (base ≤ id ∧ id < base + ts.length) := fun h => by rw [hf id h.1 h.2] at er; cases er
  obtain ⟨l1, P1, k1, o1, ok1, one1, len1, nl1⟩ := putOwn_ok (id := base) H hf hls hlc (fun b o h => hS b o (sa b o h)) (fun b o h h' => hd b o h (sa b o h'))
  generalize hq : putOwn ts x ((cs.drop off).take ts.length) base = q at *
  have er1 : appR rows q.2 id = some (.box cs) := by rw [o1 id (by omega)]; exact er
  have hle' : off + q.1.length ≤ cs.length := by omega
  have hsl := setsAt_len hle'
  obtain ⟨b2, o2, el2, hob, hcells⟩ := P1.heap.ok id _ er1
  have el1 := P1.ext _ _ el
  rw [el1] at el2
  simp only [Option.some.injEq, Pl.box.injEq] at el2
  obtain ⟨rfl, rfl, _⟩ := el2
  have hown : ∀ b1 o1, own l1 id (.box (setsAt cs off q.1)) b1 o1 → own l1 id (.box cs) b1 o1 ∨ rng b (o + off) ts.length b1 o1 := by
    rintro b1 o1 ⟨o0, n0, e0, j, hj, rfl, hnl⟩
    rw [el1] at e0
    simp only [Option.some.injEq, Pl.box.injEq] at e0
    obtain ⟨rfl, rfl, rfl⟩ := e0
    rw [hsl] at hj
    by_cases hin : off ≤ j ∧ j < off + q.1.length
    · exact .inr ⟨rfl, by omega, by omega⟩
    · left
      have hg := setsAt_out (vs := q.1) hle' (j := j) (by omega)
      rw [List.getElem?_eq_getElem (l := setsAt cs off q.1) (i := j) (by omega), List.getElem?_eq_getElem hj] at hg
      rw [Option.some.inj hg] at hnl
      exact ⟨o, _, el1, j, hj, rfl, hnl⟩
  have hd2 : Dis (Owned (appR rows q.2) l1) (rng b (o + off) ts.length) := P1.dis (fun b o h h' => hd b o h (sr b o h')) dar
  have hbox : RowOk w' l1 id (.box (setsAt cs off q.1)) := by
    refine ⟨b, o, by rw [hsl]; exact el1, by rw [hsl]; exact hob, fun j hj => ?_⟩
    rw [hsl] at hj
    by_cases hin : off ≤ j ∧ j < off + q.1.length
    · have hg := setsAt_in hle' hin.1 hin.2
      rw [List.getElem?_eq_getElem (l := setsAt cs off q.1) (i := j) (by omega)] at hg
      rw [Option.some.inj hg]
      obtain ⟨h', rj⟩ := k1.get (j - off) (by omega)
      have := hnew (j - off) h'
      rw [show o + off + (j - off) = o + j by omega] at this
      exact cellOk_of (ok1.get (j - off) (by omega)) this rj (one1.get (j - off) h')
    · have hg := setsAt_out (vs := q.1) hle' (j := j) (by omega)
      rw [List.getElem?_eq_getElem (l := setsAt cs off q.1) (i := j) (by omega), List.getElem?_eq_getElem hj] at hg
      rw [Option.some.inj hg]
      exact hcells j hj
  refine ⟨cs, l1, er, ?_⟩
  rw [hq]
  refine ⟨⟨?_, P1.ext, ?_⟩, ?_, ?_⟩
  · rw [appR_append]
    refine P1.heap.upd id _ (fun _ _ => rfl) (fun j y _ e => P1.heap.ok j y e) hbox ?_ (fun _ _ h => h) ?_ (fun _ h => h.elim) P1.heap.dis P1.heap.ltS
    · intro j y hj ey b1 o1 h1 h2
      rcases hown b1 o1 h2 with h2 | h2
      · exact P1.heap.sep j id y _ hj ey er1 b1 o1 h1 h2
      · exact hd2 b1 o1 ⟨j, y, ey, h1⟩ h2
    · intro b1 o1 h
      rcases hown b1 o1 h with h | h
      · exact P1.heap.inS id _ er1 b1 o1 h
      · exact hS b1 o1 (sr b1 o1 h)
  · rintro b1 o1 ⟨i, y, ey, hy⟩
    rw [appR_append] at ey
    simp only [appR] at ey
    by_cases hi : i = id
    · subst hi
      rw [updR_self] at ey; cases ey
      rcases hown b1 o1 hy with h | h
      · exact (P1.owned b1 o1 ⟨i, _, er1, h⟩).imp_right (sa b1 o1)
      · exact .inr (sr b1 o1 h)
    · rw [updR_other _ _ hi] at ey
      exact (P1.owned b1 o1 ⟨i, y, ey, hy⟩).imp_right (sa b1 o1)
  · intro j hj hji
    rw [appR_append]
    simp only [appR]
    rw [updR_other _ _ hji, o1 j hj]
  · intro id' cs' e'
    rw [appR_append]
    simp only [appR]
    by_cases hi : id' = id
    · subst hi
      rw [er] at e'
      simp only [Option.some.injEq, Row.box.injEq] at e'
      subst e'
      refine ⟨_, updR_self _ _ _, hsl, fun j c hc hn => ?_⟩
      rw [setsAt_out (vs := q.1) hle' (by have := hn rfl; omega)]
      exact hc
    · refine ⟨cs', ?_, rfl, fun _ _ h _ => h⟩
      rw [updR_other _ _ hi, o1 id' ?_]
      · exact e'
      · by_cases h : id' < base ∨ base + ts.length ≤ id'
        · exact h
        · have := hf id' (by omega) (by omega)
          rw [this] at e'; cases e'

theorem LentCells.ext {loc loc' : Loc} (he : Ext loc loc') : ∀ {ts : List LT} {os : List SV} {old : List Value}, LentCells loc ts os old → LentCells loc' ts os old := by
  intro ts
  induction ts with
  | nil => intro os old h; cases os <;> cases old <;> first | trivial | exact h.elim
  | cons t ts ih =>
    intro os old h
    cases os with
    | nil => cases old <;> (cases t with | sl ow e => cases ow <;> exact h.elim | _ => exact h.elim)
    | cons c os =>
      cases old with
      | nil => cases t with | sl ow e => cases ow <;> exact h.elim | _ => exact h.elim
      | cons o old =>
        cases t with
        | sl ow e =>
          cases ow with
          | false => obtain ⟨⟨k, hk, hr⟩, h2⟩ := h; exact ⟨⟨k, hk, hr.ext he⟩, ih h2⟩
          | true => exact ⟨h.1, ih h.2⟩
        | _ => exact ⟨h.1, ih h.2⟩

theorem LentAt.pos {rows : Rows} {loc : Loc} {w : World} {id off : Nat} {ts : List LT} {v : Value} (h : LentAt rows loc w id off ts v) :
    ∃ b o n, loc id = some (.box b o n) ∧ v = .pointer (some (adr (b, o + off))) := by
  obtain ⟨b, o, cs, old, _, el, hv, _⟩ := h
  exact ⟨b, o, _, el, hv⟩

/-- a struct that is still lent, while another one comes back -/
theorem LentAt.beside {rows rows' : Rows} {loc loc' : Loc} {w : World} {id off id' off' : Nat} {ts ts' : List LT} {v v' : Value} (he : Ext loc loc')
    (h : LentAt rows loc w id' off' ts' v') (h0 : LentAt rows loc w id off ts v)
    (k : ∀ id' (cs' : List SV), rows id' = some (.box cs') → ∃ cs2 : List SV, rows' id' = some (.box cs2) ∧ cs2.length = cs'.length ∧ ∀ (j : Nat) (c : SV), cs'[j]? = some c → (id' = id → j < off ∨ off + ts.length ≤ j) → cs2[j]? = some c)
    (hd : ∀ b o b' o', v = .pointer (some (adr (b, o))) → v' = .pointer (some (adr (b', o'))) → Dis (rng b o ts.length) (rng b' o' ts'.length)) :
    LentAt rows' loc' w id' off' ts' v' := by
  obtain ⟨b0, o0, n0, el0, rfl⟩ := h0.pos
  obtain ⟨b, o, cs, old, e, el, rfl, hle, hl, ho⟩ := h
  obtain ⟨cs', e', hlen, g⟩ := k id' cs e
  refine ⟨b, o, cs', old, e', by rw [hlen]; exact he _ _ el, rfl, by omega, ?_, ho⟩
  have : (cs'.drop off').take ts'.length = (cs.drop off').take ts'.length := by
    apply List.ext_getElem?
    intro j
    by_cases hj : j < ts'.length
    · rw [List.getElem?_take_of_lt hj, List.getElem?_take_of_lt hj, List.getElem?_drop, List.getElem?_drop]
      have h1 : off' + j < cs.length := by omega
      rw [List.getElem?_eq_getElem h1]
      refine g (off' + j) cs[off' + j] (List.getElem?_eq_getElem h1) fun hid => ?_
      subst hid
      rw [el] at el0
      simp only [Option.some.injEq, Pl.box.injEq] at el0
      obtain ⟨rfl, rfl, rfl⟩ := el0
      have := hd b (o + off) b (o + off') rfl rfl b (o + off' + j)
      unfold rng at this
      by_cases hin : off ≤ off' + j ∧ off' + j < off + ts.length
      · exact absurd ⟨rfl, by omega, by omega⟩ (this ⟨rfl, by omega, by omega⟩)
      · omega
    · rw [List.getElem?_eq_none (by simp; omega), List.getElem?_eq_none (by simp; omega)]
  rw [this]
  exact hl.ext he

theorem LentTys.beside {rows rows' : Rows} {loc loc' : Loc} {w w' : World} {id off : Nat} {ts : List LT} {v : Value} {S1 : Fp} (he : Ext loc loc') (h0 : LentAt rows loc w id off ts v)
    (k : ∀ id' (cs' : List SV), rows id' = some (.box cs') → ∃ cs2 : List SV, rows' id' = some (.box cs2) ∧ cs2.length = cs'.length ∧ ∀ (j : Nat) (c : SV), cs'[j]? = some c → (id' = id → j < off ∨ off + ts.length ≤ j) → cs2[j]? = some c)
    (h1 : ∀ b o, v = .pointer (some (adr (b, o))) → Sub2 (rng b o ts.length) S1) : ∀ {ins : List Ty} {x : BTup ins} {tvs : List TV} {vs : List Value} {S2 : Fp}, LentTys rows loc w ins tvs vs → TysBack w w' ins x vs S2 → Dis S1 S2 → LentTys rows' loc' w ins tvs vs := by
  intro ins
  induction ins with
  | nil => intro x tvs vs S2 h _ _; cases tvs <;> cases vs <;> first | trivial | exact h.elim
  | cons t r ih =>
    intro x tvs vs S2 h hb hd
    cases tvs with
    | nil => cases vs <;> exact h.elim
    | cons tv tvs =>
      cases vs with
      | nil => exact h.elim
      | cons u vs =>
        cases t with
        | v _ => exact ⟨trivial, ih (x := x) h.2 hb hd⟩
        | a _ => exact ⟨trivial, ih (x := x) h.2 hb hd⟩
        | r _ => exact ⟨trivial, ih (x := x) h.2 hb hd⟩
        | p ts' =>
          obtain ⟨Sa, Sb, hbox, hrest, hab, sa, sb⟩ := hb
          refine ⟨?_, ih h.2 hrest (fun b o h h' => hd b o h (sb b o h'))⟩
          obtain ⟨id', off', e, hl⟩ := h.1
          refine ⟨id', off', e, hl.beside he h0 k fun b o b' o' ev ev' => ?_⟩
          obtain ⟨b2, o2, _, _, _, e2, _, _, _, _, _, sr, _⟩ := hbox
          rw [ev'] at e2
          simp only [Value.pointer.injEq, Option.some.injEq, adr, Addr.mk.injEq, and_true] at e2
          obtain ⟨rfl, rfl⟩ := e2
          exact fun b3 o3 h3 h4 => hd b3 o3 (h1 b o ev b3 o3 h3) (sa b3 o3 (sr b3 o3 h4))

theorem putBack_ok {w w' : World} {S : Fp} {L : Nat → Prop} : ∀ {ins : List Ty} {rows : Rows} {loc : Loc} {S1 : Fp} {x : BTup ins} {tvs : List TV} {vs : List Value} {base : Nat} (_ : Heap rows loc w' S L)
    (_ : ∀ k, base ≤ k → k < base + 64 * ins.length → rows k = none) (_ : TysBack w w' ins x vs S1) (_ : LentTys rows loc w ins tvs vs) (_ : Sub2 S1 S) (_ : Dis (Owned rows loc) S1) (_ : tysOk ins),
    ∃ loc', PutR rows (appR rows (putBack ins x tvs rows base)) loc loc' w' S L S1 ∧ (∀ j, rows j = none → (j < base ∨ base + 64 * ins.length ≤ j) → appR rows (putBack ins x tvs rows base) j = none)
  | [], rows, loc, S1, x, tvs, vs, base, H, _, _, _, _, _, _ => by
    cases tvs <;> exact ⟨loc, .refl H _, fun j h _ => h⟩
  | t :: r, rows, loc, S1, x, tvs, vs, base, H, hf, hb, hl, hS, hd, ht => by
    cases tvs with
    | nil => cases vs <;> exact hl.elim
    | cons tv tvs =>
    cases vs with
    | nil => exact hl.elim
    | cons v vs =>
    cases t with
    | v t' =>
      have e : putBack (.v t' :: r) x (tv :: tvs) rows base = putBack r x tvs rows (base + 64) := by cases tv <;> rfl
      rw [e]
      obtain ⟨l1, P1, o1⟩ := putBack_ok (ins := r) (base := base + 64) H (fun k h1 h2 => hf k (by omega) (by simp; omega)) hb hl.2 hS hd ht.2
      exact ⟨l1, P1, fun j hj hr => o1 j hj (by simp at hr; omega)⟩
    | a t' =>
      have e : putBack (.a t' :: r) x (tv :: tvs) rows base = putBack r x tvs rows (base + 64) := by cases tv <;> rfl
      rw [e]
      obtain ⟨l1, P1, o1⟩ := putBack_ok (ins := r) (base := base + 64) H (fun k h1 h2 => hf k (by omega) (by simp; omega)) hb hl.2 hS hd ht.2
      exact ⟨l1, P1, fun j hj hr => o1 j hj (by simp at hr; omega)⟩
    | r t' =>
      have e : putBack (.r t' :: r) x (tv :: tvs) rows base = putBack r x tvs rows (base + 64) := by cases tv <;> rfl
      rw [e]
      obtain ⟨l1, P1, o1⟩ := putBack_ok (ins := r) (base := base + 64) H (fun k h1 h2 => hf k (by omega) (by simp; omega)) hb hl.2 hS hd ht.2
      exact ⟨l1, P1, fun j hj hr => o1 j hj (by simp at hr; omega)⟩
    | p ts =>
      obtain ⟨id, off, rfl, hla⟩ := hl.1
      obtain ⟨Sa, Sb, hbox, hrest, hab, sa, sb⟩ := hb
      have hlen : ts.length ≤ 63 := ht.1
      obtain ⟨cs, l1, er, P1, o1, bx⟩ := backBox_ok (base := base) H (fun k h1 h2 => hf k h1 (by simp; omega)) hbox hla (fun b o h => hS b o (sa b o h)) (fun b o h h' => hd b o h (sa b o h'))
      have e : putBack (.p ts :: r) x (.c (.s (.ptr id off)) :: tvs) rows base =
          ((putOwn ts x.1 ((cs.drop off).take ts.length) base).2 ++ [(id, .box (setsAt cs off (putOwn ts x.1 ((cs.drop off).take ts.length) base).1))]) ++
            putBack r x.2 tvs (appR rows ((putOwn ts x.1 ((cs.drop off).take ts.length) base).2 ++ [(id, .box (setsAt cs off (putOwn ts x.1 ((cs.drop off).take ts.length) base).1))])) (base + 64) := by
        simp only [putBack, er]
      rw [e]
      generalize hus : (putOwn ts x.1 ((cs.drop off).take ts.length) base).2 ++ [(id, .box (setsAt cs off (putOwn ts x.1 ((cs.drop off).take ts.length) base).1))] = us at *
      have hne : ∀ j, rows j = none → j ≠ id := fun j hj h => by subst h; rw [er] at hj; cases hj
      have hl2 : LentTys (appR rows us) l1 w r tvs vs := by
        refine LentTys.beside (S1 := Sa) P1.ext hla bx (fun b o ev => ?_) hl.2 hrest hab
        obtain ⟨b2, o2, _, _, _, e2, _, _, _, _, _, sr, _⟩ := hbox
        rw [ev] at e2
        simp only [Value.pointer.injEq, Option.some.injEq, adr, Addr.mk.injEq, and_true] at e2
        obtain ⟨rfl, rfl⟩ := e2
        exact sr
      obtain ⟨l2, P2, o2⟩ := putBack_ok (ins := r) (base := base + 64) P1.heap (fun k h1 h2 => by
          have := hf k (by omega) (by simp; omega)
          rw [o1 k (by omega) (hne k this)]; exact this) hrest hl2 (fun b o h => hS b o (sb b o h)) (P1.dis (fun b o h h' => hd b o h (sb b o h')) hab) ht.2
      refine ⟨l2, ?_, fun j hj hr => ?_⟩
      · rw [appR_append]
        exact P1.trans P2 sa sb
      · rw [appR_append]
        refine o2 j ?_ (by simp at hr; omega)
        rw [o1 j (by simp at hr; omega) (hne j hj)]
        exact hj

end Go.Tev
