/- An evaluator of Go functions on plain values: a run in the order of the text of a drawn region. No condition beyond those that each lemma states. -/
import Derived.Test.YtanoofbkhddokaaGreatTv
set_option linter.unusedSimpArgs false
set_option linter.unusedVariables false
namespace Go.Tev

/-- the run in the order of the text -/
structure Fact (env : Env) (all : List Oper) (fresh : Nat) (s : Nat → St) (v : Nat → TV) (u : Nat → Us) (t : Nat → Tr) (m : Nat → Nat) (o : Oper) (i : Nat) : Prop where
  dst : dstOk (s i) o.dst = true
  ans : ∃ uses vis, AnsD env all o fresh (s i) uses vis (v i) (u i) ∧ t i = ⟨i, o.dst, uses, vis, usIds (u i), fresh⟩
  next : s (i + 1) = (s i).app o.dst (v i) (u i)
  lt : usLt (fresh + 1024) (u i) = true
  ns : scrubs (u i) = []
  back : edgesLt i o.after.toList = true
  mask : m i = maskE ((List.range i).map m) o.after.toList
  apart : ∀ j, j < i → Nat.testBit (m i) j = false → apart (t j) (t i) = true

theorem okTrs_all {m : Nat} {tr : Tr} : ∀ {l : List Tr}, okTrs m tr l = true → ∀ x, x ∈ l → Nat.testBit m x.idx = false → apart x tr = true
  | [], _, _, h, _ => by cases h
  | y :: l, h, x, hx, hb => by
    simp only [okTrs] at h
    cases hy : Nat.testBit m y.idx with
    | true =>
      rw [hy, cond_true] at h
      cases hx with
      | head => rw [hy] at hb; cases hb
      | tail _ hx => exact okTrs_all h x hx hb
    | false =>
      rw [hy, cond_false] at h
      cases ha : Tev.apart y tr with
      | false => rw [ha] at h; cases h
      | true =>
        rw [ha, cond_true] at h
        cases hx with
        | head => exact ha
        | tail _ hx => exact okTrs_all h x hx hb

theorem drEnd_some {R : Type} {fresh idx : Nat} {uses vis masks : List Nat} {trs : List Tr} {o : Oper} {st : St} {K : List Nat → List Tr → St → Option R} {v : TV} {us : Us} {r : R} (h : drEnd fresh idx uses vis masks trs o st K v us = some r) :
    edgesLt idx o.after.toList = true ∧ usLt (fresh + 1024) us = true ∧ scrubs us = [] ∧ okTrs (maskE masks o.after.toList) ⟨idx, o.dst, uses, vis, usIds us, fresh⟩ trs = true ∧
      K (masks ++ [maskE masks o.after.toList]) (⟨idx, o.dst, uses, vis, usIds us, fresh⟩ :: trs) (st.app o.dst v us) = some r := by
  unfold drEnd at h
  cases hb : (edgesLt idx o.after.toList && (usLt (fresh + 1024) us && (noScrubB us && okTrs (maskE masks o.after.toList) ⟨idx, o.dst, uses, vis, usIds us, fresh⟩ trs))) with
  | false => rw [hb] at h; cases h
  | true =>
    rw [hb, cond_true] at h
    simp only [Bool.and_eq_true] at hb
    refine ⟨hb.1, hb.2.1, ?_, hb.2.2.2, h⟩
    have := hb.2.2.1
    unfold noScrubB at this
    split at this
    · assumption
    · cases this

theorem tevDr_cons {R : Type} {env : Env} {all : List Oper} {o : Oper} {l : List Oper} {fresh idx : Nat} {masks : List Nat} {trs : List Tr} {st : St} {K : St → Option R} {r : R} (h : tevDr env all (o :: l) fresh idx masks trs st K = some r) :
    dstOk st o.dst = true ∧ ∃ v us uses vis, AnsD env all o fresh st uses vis v us ∧ edgesLt idx o.after.toList = true ∧ usLt (fresh + 1024) us = true ∧ scrubs us = [] ∧
      okTrs (maskE masks o.after.toList) ⟨idx, o.dst, uses, vis, usIds us, fresh⟩ trs = true ∧
      tevDr env all l (fresh + 1024) (idx + 1) (masks ++ [maskE masks o.after.toList]) (⟨idx, o.dst, uses, vis, usIds us, fresh⟩ :: trs) (st.app o.dst v us) K = some r := by
  have dr : ∀ {g : List Nat}, drO env fresh idx g masks trs o st (fun ms ts st' => tevDr env all l (fresh + 1024) (idx + 1) ms ts st' K) = some r → dstOk st o.dst = true ∧ ∃ v us vis, opRes env fresh o.op (restr st (opTmps o.op) vis fresh) = some (v, us) ∧
      edgesLt idx o.after.toList = true ∧ usLt (fresh + 1024) us = true ∧ scrubs us = [] ∧ okTrs (maskE masks o.after.toList) ⟨idx, o.dst, g ++ opTmps o.op, vis, usIds us, fresh⟩ trs = true ∧
      tevDr env all l (fresh + 1024) (idx + 1) (masks ++ [maskE masks o.after.toList]) (⟨idx, o.dst, g ++ opTmps o.op, vis, usIds us, fresh⟩ :: trs) (st.app o.dst v us) K = some r := fun {g} h => by
    unfold drO at h
    cases hd : dstOk st o.dst with
    | false => rw [hd] at h; cases h
    | true =>
      rw [hd, cond_true] at h
      obtain ⟨v, us, h1, h2⟩ := tevOp_some h
      exact ⟨rfl, v, us, _, h1, drEnd_some h2⟩
  have sk : ∀ {g : List Nat}, drSkip fresh idx g masks trs o st (fun ms ts st' => tevDr env all l (fresh + 1024) (idx + 1) ms ts st' K) = some r → dstOk st o.dst = true ∧
      edgesLt idx o.after.toList = true ∧ usLt (fresh + 1024) [] = true ∧ scrubs [] = [] ∧ okTrs (maskE masks o.after.toList) ⟨idx, o.dst, g, [], usIds [], fresh⟩ trs = true ∧
      tevDr env all l (fresh + 1024) (idx + 1) (masks ++ [maskE masks o.after.toList]) (⟨idx, o.dst, g, [], usIds [], fresh⟩ :: trs) (st.app o.dst voidT []) K = some r := fun {g} h => by
    unfold drSkip at h
    cases hd : dstOk st o.dst with
    | false => rw [hd] at h; cases h
    | true =>
      rw [hd, cond_true] at h
      exact ⟨rfl, drEnd_some h⟩
  simp only [tevDr] at h
  cases hg : o.guard with
  | none =>
    rw [hg] at h
    obtain ⟨hd, v, us, vis, h1, h2⟩ := dr h
    exact ⟨hd, v, us, _, vis, by unfold AnsD; rw [hg]; exact ⟨rfl, h1⟩, h2⟩
  | some g =>
    obtain ⟨j, want⟩ := g
    rw [hg] at h
    simp only at h
    cases hj : all[j]? with
    | none => rw [hj] at h; cases h
    | some oj =>
      rw [hj] at h
      simp only at h
      cases ht : oj.dst with
      | none => rw [ht] at h; cases h
      | some t =>
        rw [ht] at h
        simp only at h
        split at h
        · rename_i b e
          have hs : ∀ b', b = b' → ({ st with tmps := updT st.tmps t (.c (.s (.bool b'))) } : St) = st := fun b' hb => by
            subst hb
            rw [updT_same e]
          have yes : b = want → drO env fresh idx [t] masks trs o st (fun ms ts st' => tevDr env all l (fresh + 1024) (idx + 1) ms ts st' K) = some r → dstOk st o.dst = true ∧ ∃ v us uses vis, AnsD env all o fresh st uses vis v us ∧ edgesLt idx o.after.toList = true ∧ usLt (fresh + 1024) us = true ∧ scrubs us = [] ∧
              okTrs (maskE masks o.after.toList) ⟨idx, o.dst, uses, vis, usIds us, fresh⟩ trs = true ∧
              tevDr env all l (fresh + 1024) (idx + 1) (masks ++ [maskE masks o.after.toList]) (⟨idx, o.dst, uses, vis, usIds us, fresh⟩ :: trs) (st.app o.dst v us) K = some r := fun hb h => by
            obtain ⟨hd, v, us, vis, h1, h2⟩ := dr h
            exact ⟨hd, v, us, _, vis, by unfold AnsD; rw [hg]; exact ⟨oj, t, hj, ht, .inl ⟨b, e, .inl ⟨hb, rfl, h1⟩⟩⟩, h2⟩
          have no : b ≠ want → drSkip fresh idx [t] masks trs o st (fun ms ts st' => tevDr env all l (fresh + 1024) (idx + 1) ms ts st' K) = some r → dstOk st o.dst = true ∧ ∃ v us uses vis, AnsD env all o fresh st uses vis v us ∧ edgesLt idx o.after.toList = true ∧ usLt (fresh + 1024) us = true ∧ scrubs us = [] ∧
              okTrs (maskE masks o.after.toList) ⟨idx, o.dst, uses, vis, usIds us, fresh⟩ trs = true ∧
              tevDr env all l (fresh + 1024) (idx + 1) (masks ++ [maskE masks o.after.toList]) (⟨idx, o.dst, uses, vis, usIds us, fresh⟩ :: trs) (st.app o.dst v us) K = some r := fun hb h => by
            obtain ⟨hd, h2⟩ := sk h
            exact ⟨hd, voidT, [], _, [], by unfold AnsD; rw [hg]; exact ⟨oj, t, hj, ht, .inl ⟨b, e, .inr ⟨hb, rfl, rfl, rfl⟩⟩⟩, h2⟩
          cases b with
          | true =>
            rw [hs true rfl, cond_true] at h
            cases want with
            | true => exact yes rfl (by simpa only [cond_true] using h)
            | false => exact no (by simp) (by simpa only [cond_false] using h)
          | false =>
            rw [hs false rfl, cond_false] at h
            cases want with
            | true => exact no (by simp) (by simpa only [cond_true] using h)
            | false => exact yes rfl (by simpa only [cond_false] using h)
        · rename_i e
          obtain ⟨hd, h2⟩ := sk h
          exact ⟨hd, voidT, [], _, [], by unfold AnsD; rw [hg]; exact ⟨oj, t, hj, ht, .inr ⟨e, rfl, rfl, rfl⟩⟩, h2⟩
        · cases h

theorem tevDr_run {R : Type} {env : Env} {all : List Oper} {f0 : Nat} {K : St → Option R} {r : R} : ∀ (l : List Oper) (idx : Nat) (masks : List Nat) (trs : List Tr) (st : St), masks.length = idx → trs.length = idx → (∀ (k : Nat) (x : Tr), trs.reverse[k]? = some x → x.idx = k) →
    tevDr env all l (f0 + 1024 * idx) idx masks trs st K = some r →
    ∃ (s : Nat → St) (v : Nat → TV) (u : Nat → Us) (t : Nat → Tr) (m : Nat → Nat), (List.range idx).map m = masks ∧ ((List.range idx).map t).reverse = trs ∧ s idx = st ∧ K (s (idx + l.length)) = some r ∧
      ∀ k o, l[k]? = some o → Fact env all (f0 + 1024 * (idx + k)) s v u t m o (idx + k)
  | [], idx, masks, trs, st, hm, ht, _, h => by
    refine ⟨fun _ => st, fun _ => voidT, fun _ => [], fun k => (trs.reverse[k]?).getD ⟨0, none, [], [], [], 0⟩, fun k => masks.getD k 0, ?_, ?_, rfl, h, fun k o hk => by simp at hk⟩
    · apply List.ext_getElem
      · simp [hm]
      · intro i h1 h2; simp [List.getD, h2]
    · have : (List.range idx).map (fun k => (trs.reverse[k]?).getD ⟨0, none, [], [], [], 0⟩) = trs.reverse := by
        apply List.ext_getElem
        · simp [ht]
        · intro i h1 h2; simp at h2; simp [h2]
      rw [this, List.reverse_reverse]
  | o :: l, idx, masks, trs, st, hm, ht, hx, h => by
    obtain ⟨hd, v0, us0, uses, vis, hans, hback, hlt, hns, hok, hrest⟩ := tevDr_cons h
    have hfr : f0 + 1024 * idx + 1024 = f0 + 1024 * (idx + 1) := by omega
    rw [hfr] at hrest
    obtain ⟨s, v, u, t, m, hm', ht', hs, hK, hF⟩ := tevDr_run l (idx + 1) _ _ _ (by simp [hm]) (by simp [ht]) (fun k x hk => by
      rw [List.reverse_cons] at hk
      by_cases hlt : k < trs.reverse.length
      · rw [List.getElem?_append_left hlt] at hk; exact hx k x hk
      · rw [List.getElem?_append_right (by omega)] at hk
        have : k - trs.reverse.length = 0 := by
          rcases Nat.eq_zero_or_pos (k - trs.reverse.length) with h | h
          · exact h
          · rw [List.getElem?_eq_none (by simp; simp at h; omega)] at hk; cases hk
        rw [this] at hk
        simp only [List.getElem?_cons_zero, Option.some.injEq] at hk
        subst hk
        simp at this hlt
        show idx = k
        omega) hrest
    rw [List.range_succ, List.map_append, List.map_singleton] at hm' ht'
    obtain ⟨hm1, hm2⟩ := List.append_inj' hm' rfl
    rw [List.reverse_append, List.reverse_singleton, List.singleton_append] at ht'
    obtain ⟨ht1, ht2⟩ := List.cons.inj ht'
    simp only [List.cons.injEq, and_true] at hm2
    have ne : ∀ k, idx + 1 ≤ k → k ≠ idx := fun k hk => by omega
    refine ⟨fun k => if k = idx then st else s k, fun k => if k = idx then v0 else v k, fun k => if k = idx then us0 else u k, t, m, hm1, ht2, by simp, ?_, ?_⟩
    · have : idx + (o :: l).length = idx + 1 + l.length := by simp; omega
      rw [this]
      simp only [ne (idx + 1 + l.length) (by omega), if_false]
      exact hK
    · intro k o' hk
      cases k with
      | zero =>
        simp only [List.getElem?_cons_zero, Option.some.injEq] at hk
        subst hk
        simp only [Nat.add_zero]
        refine ⟨by simpa using hd, ⟨uses, vis, by simpa using hans, by simpa using ht1⟩, ?_, by simpa using hlt, by simpa using hns, hback, by rw [hm1]; exact hm2, fun j hj hb => ?_⟩
        · simp only [ne (idx + 1) (by omega), if_false, if_true]; exact hs
        · rw [hm2] at hb
          rw [ht1]
          refine okTrs_all hok (t j) ?_ ?_
          · rw [← ht2]
            simp only [List.mem_reverse, List.mem_map, List.mem_range]
            exact ⟨j, hj, rfl⟩
          · have hjx : (t j).idx = j := hx j (t j) (by rw [← ht2]; simp [hj])
            rw [hjx]; exact hb
      | succ k =>
        simp only [List.getElem?_cons_succ] at hk
        have F := hF k o' hk
        have hi : idx + (k + 1) = idx + 1 + k := by omega
        rw [hi]
        have e1 : idx + 1 + k ≠ idx := by omega
        have e2 : idx + 1 + k + 1 ≠ idx := by omega
        exact ⟨by simpa [e1] using F.dst, by simpa [e1] using F.ans, by simpa [e1, e2] using F.next, by simpa [e1] using F.lt, by simpa [e1] using F.ns, F.back, F.mask, F.apart⟩

end Go.Tev
