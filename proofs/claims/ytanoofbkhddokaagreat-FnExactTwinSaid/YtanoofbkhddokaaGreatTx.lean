/- An evaluator of Go functions on plain values: regions whose order is drawn. No condition beyond those that each lemma states. -/
import Derived.Test.YtanoofbkhddokaaGreatTw
set_option linter.unusedSimpArgs false
set_option linter.unusedVariables false
namespace Go.Tev

theorem disN_not {x : Nat} : ∀ {a b : List Nat}, disN a b = true → x ∈ a → ¬ x ∈ b
  | [], _, _, h => by cases h
  | y :: a, b, h, hx => by
    simp only [disN] at h
    cases hb : memN y b with
    | true => rw [hb] at h; cases h
    | false =>
      rw [hb, cond_false] at h
      cases hx with
      | head => exact fun hc => by rw [memN_iff.2 hc] at hb; cases hb
      | tail _ hx => exact disN_not h hx

theorem outR_not {fresh x : Nat} : ∀ {a : List Nat}, outR fresh a = true → x ∈ a → ¬ inR fresh x
  | [], _, h => by cases h
  | y :: a, h, hx => by
    simp only [outR] at h
    cases hb : (Nat.ble fresh y && Nat.blt y (fresh + 1024)) with
    | true => rw [hb] at h; cases h
    | false =>
      rw [hb, cond_false] at h
      cases hx with
      | head => exact fun hc => by rw [rangeB.2 hc] at hb; cases hb
      | tail _ hx => exact outR_not h hx

structure Apart (a b : Tr) : Prop where
  ab : ∀ x, a.dst = some x → x ∉ b.uses
  ba : ∀ x, b.dst = some x → x ∉ a.uses
  dd : ∀ x, a.dst = some x → b.dst ≠ some x
  wr : ∀ x, x ∈ a.wr → x ∉ b.rd
  rw_ : ∀ x, x ∈ b.wr → x ∉ a.rd
  ww : ∀ x, x ∈ a.wr → x ∉ b.wr
  fr : ∀ x, x ∈ b.wr → ¬ inR a.fresh x

theorem apart_spec {a b : Tr} (h : apart a b = true) : Apart a b := by
  simp only [apart, Bool.and_eq_true, Bool.not_eq_true'] at h
  obtain ⟨h1, h2, h3, h4, h5, h6, h7⟩ := h
  refine ⟨fun x e hx => ?_, fun x e hx => ?_, fun x e e' => ?_, fun x hx => disN_not h4 hx, fun x hx => disN_not h5 hx, fun x hx => disN_not h6 hx, fun x hx => outR_not h7 hx⟩
  · rw [e] at h1; simp only [memO] at h1; rw [memN_iff.2 hx] at h1; cases h1
  · rw [e] at h2; simp only [memO] at h2; rw [memN_iff.2 hx] at h2; cases h2
  · rw [e, e'] at h3; simp [sameO] at h3

theorem appR_out {r : Rows} : ∀ {us : Us} {id : Nat}, id ∉ usIds us → appR r us id = r id := by
  intro us
  induction us generalizing r with
  | nil => intro id _; rfl
  | cons p us ih =>
    intro id h
    obtain ⟨i, x⟩ := p
    simp only [usIds, List.mem_cons, not_or] at h
    simp only [appR]
    rw [ih h.2, updR_other _ _ h.1]

theorem appR_in {r r' : Rows} : ∀ {us : Us} {id : Nat}, id ∈ usIds us → appR r us id = appR r' us id := by
  intro us
  induction us generalizing r r' with
  | nil => intro id h; cases h
  | cons p us ih =>
    intro id h
    obtain ⟨i, x⟩ := p
    simp only [appR]
    by_cases hu : id ∈ usIds us
    · exact ih hu
    · simp only [usIds, List.mem_cons] at h
      have := h.resolve_right hu
      subst this
      rw [appR_out hu, appR_out hu, updR_self, updR_self]

theorem usLt_ids {n : Nat} : ∀ {us : Us}, usLt n us = true → ∀ x, x ∈ usIds us → x < n := by
  intro us
  induction us with
  | nil => intro _ x h; cases h
  | cons p us ih =>
    intro h x hx
    obtain ⟨i, y⟩ := p
    simp only [usLt] at h
    cases hb : Nat.blt i n with
    | false => rw [hb] at h; cases h
    | true =>
      rw [hb, cond_true] at h
      have h2 : i + 1 ≤ n := by simpa [Nat.blt] using hb
      simp only [usIds, List.mem_cons] at hx
      rcases hx with rfl | hx
      · omega
      · exact ih h x hx

theorem mask_spec {ms : List Nat} {j : Nat} : ∀ {es : List Edge}, Nat.testBit (maskE ms es) j = true → ∃ e, e ∈ es ∧ bindsAny e = true ∧ (e.on = j ∨ Nat.testBit (ms.getD e.on 0) j = true)
  | [], h => by simp [maskE] at h
  | e :: es, h => by
    simp only [maskE] at h
    cases hb : bindsAny e with
    | false =>
      rw [hb, cond_false] at h
      obtain ⟨e', he, h⟩ := mask_spec h
      exact ⟨e', by simp [he], h⟩
    | true =>
      rw [hb, cond_true] at h
      have h : ((2 ^ e.on ||| ms.getD e.on 0) ||| maskE ms es).testBit j = true := h
      rw [Nat.testBit_or, Nat.testBit_or, Bool.or_eq_true, Bool.or_eq_true] at h
      rcases h with (h | h) | h
      · rw [Nat.testBit_two_pow] at h
        exact ⟨e, by simp, hb, .inl (by simpa using h)⟩
      · exact ⟨e, by simp, hb, .inr h⟩
      · obtain ⟨e', he, h⟩ := mask_spec h
        exact ⟨e', by simp [he], h⟩

theorem back_spec {i : Nat} : ∀ {es : List Edge}, edgesLt i es = true → ∀ e, e ∈ es → bindsAny e = true → e.on < i
  | [], _, _, h, _ => by cases h
  | e :: es, h, e', he, hb => by
    simp only [edgesLt] at h
    cases hbe : bindsAny e with
    | false =>
      rw [hbe, cond_false] at h
      cases he with
      | head => rw [hbe] at hb; cases hb
      | tail _ he => exact back_spec h e' he hb
    | true =>
      rw [hbe, cond_true] at h
      cases hl : Nat.blt e.on i with
      | false => rw [hl] at h; cases h
      | true =>
        rw [hl, cond_true] at h
        cases he with
        | head =>
          have : e.on + 1 ≤ i := by simpa [Nat.blt] using hl
          omega
        | tail _ he => exact back_spec h e' he hb

theorem binds_any (e : Edge) : Region.binds .any e = bindsAny e := by
  unfold Region.binds bindsAny
  cases e.ground <;> rfl

/-- two states of a run agree at a tmp that is not turned between them -/
theorem run_tmp {s : Nat → St} {n x : Nat} {P : Nat → Prop} (hs : ∀ i, i < n → ¬ P i → (s (i + 1)).tmps x = (s i).tmps x) : ∀ d k, k + d ≤ n → (∀ j, k ≤ j → j < k + d → ¬ P j) → (s (k + d)).tmps x = (s k).tmps x
  | 0, _, _, _ => rfl
  | d + 1, k, hk, h => by
    have := hs (k + d) (by omega) (h (k + d) (by omega) (by omega))
    rw [show k + (d + 1) = k + d + 1 by omega, this]
    exact run_tmp hs d k (by omega) (fun j h1 h2 => h j h1 (by omega))

theorem run_row {s : Nat → St} {n x : Nat} {P : Nat → Prop} (hs : ∀ i, i < n → ¬ P i → (s (i + 1)).rows x = (s i).rows x) : ∀ d k, k + d ≤ n → (∀ j, k ≤ j → j < k + d → ¬ P j) → (s (k + d)).rows x = (s k).rows x
  | 0, _, _, _ => rfl
  | d + 1, k, hk, h => by
    have := hs (k + d) (by omega) (h (k + d) (by omega) (by omega))
    rw [show k + (d + 1) = k + d + 1 by omega, this]
    exact run_row hs d k (by omega) (fun j h1 h2 => h j h1 (by omega))

theorem between {P : Nat → Prop} {f : Nat → Nat → Prop} (hf : ∀ d k, (∀ j, k ≤ j → j < k + d → ¬ P j) → f (k + d) k) (sym : ∀ a b, f a b → f b a) {k k' : Nat} (h : ∀ j, P j → (j < k ↔ j < k')) : f k k' := by
  rcases Nat.le_total k k' with hle | hle
  · obtain ⟨d, rfl⟩ := Nat.exists_eq_add_of_le hle
    exact sym _ _ (hf d k fun j h1 h2 hp => by have := h j hp; omega)
  · obtain ⟨d, rfl⟩ := Nat.exists_eq_add_of_le hle
    exact hf d k' fun j h1 h2 hp => by have := h j hp; omega

end Go.Tev
