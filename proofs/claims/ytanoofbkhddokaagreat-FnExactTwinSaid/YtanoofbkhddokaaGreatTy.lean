/- An evaluator of Go functions on plain values: regions whose order is drawn answer as in the order of the text. No condition beyond those that each lemma states. -/
import Derived.Test.YtanoofbkhddokaaGreatTx
set_option linter.unusedSimpArgs false
set_option linter.unusedVariables false
namespace Go.Tev

structure Runs (env : Env) (ops : Array Oper) (f0 : Nat) (s : Nat → St) (v : Nat → TV) (u : Nat → Us) (t : Nat → Tr) (m : Nat → Nat) : Prop where
  fact : ∀ k o, ops[k]? = some o → Fact env ops.toList (f0 + 1024 * k) s v u t m o k
  fresh : ∀ k, f0 ≤ k → (s 0).rows k = none

abbrev Lst (listed : Array Bool) (j : Nat) : Prop := listed.getD j false = true

structure Inv (ops : Array Oper) (s : Nat → St) (t : Nat → Tr) (listed : Array Bool) (st : St) : Prop where
  size : listed.size = ops.size
  down : ∀ j o, Lst listed j → ops[j]? = some o → ∀ e, e ∈ o.after.toList → bindsAny e = true → Lst listed e.on
  tmp : ∀ x, ∃ k, k ≤ ops.size ∧ (∀ j, j < ops.size → (t j).dst = some x → (Lst listed j ↔ j < k)) ∧ st.tmps x = (s k).tmps x
  row : ∀ x, ∃ k, k ≤ ops.size ∧ (∀ j, j < ops.size → x ∈ (t j).wr → (Lst listed j ↔ j < k)) ∧ st.rows x = (s k).rows x
  nt : st.nt = (s 0).nt
  next : st.next = (s 0).next

section
variable {env : Env} {ops : Array Oper} {f0 : Nat} {s : Nat → St} {v : Nat → TV} {u : Nat → Us} {t : Nat → Tr} {m : Nat → Nat}

theorem app_tmps (st : St) (dst : Option Nat) (v : TV) {us : Us} (h : scrubs us = []) : (st.app dst v us).tmps = match dst with | some d => updT st.tmps d v | none => st.tmps := by
  cases dst <;> simp only [St.app, h, scrubA]

theorem Runs.at (R : Runs env ops f0 s v u t m) {i : Nat} (hi : i < ops.size) : ∃ o, ops[i]? = some o ∧ Fact env ops.toList (f0 + 1024 * i) s v u t m o i :=
  ⟨ops[i], by simp [hi], R.fact i _ (by simp [hi])⟩

theorem Fact.trDst {all : List Oper} {f : Nat} {o : Oper} {i : Nat} (F : Fact env all f s v u t m o i) : (t i).dst = o.dst := by
  obtain ⟨_, _, _, e⟩ := F.ans; rw [e]
theorem Fact.trWr {all : List Oper} {f : Nat} {o : Oper} {i : Nat} (F : Fact env all f s v u t m o i) : (t i).wr = usIds (u i) := by
  obtain ⟨_, _, _, e⟩ := F.ans; rw [e]
theorem Fact.trFr {all : List Oper} {f : Nat} {o : Oper} {i : Nat} (F : Fact env all f s v u t m o i) : (t i).fresh = f := by
  obtain ⟨_, _, _, e⟩ := F.ans; rw [e]

theorem Runs.tmpStep (R : Runs env ops f0 s v u t m) {i x : Nat} (hi : i < ops.size) (h : ¬ (t i).dst = some x) : (s (i + 1)).tmps x = (s i).tmps x := by
  obtain ⟨o, ho, F⟩ := R.at hi
  rw [F.trDst] at h
  rw [F.next, app_tmps _ _ _ F.ns]
  cases hd : o.dst with
  | none => rfl
  | some d => exact updT_other _ _ (fun e => h (by rw [hd, e]))

theorem Runs.rowStep (R : Runs env ops f0 s v u t m) {i x : Nat} (hi : i < ops.size) (h : ¬ x ∈ (t i).wr) : (s (i + 1)).rows x = (s i).rows x := by
  obtain ⟨o, ho, F⟩ := R.at hi
  rw [F.trWr] at h
  rw [F.next, app_rows, appR_out h]

theorem Runs.tmpSame (R : Runs env ops f0 s v u t m) {x k k' : Nat} (hk : k ≤ ops.size) (hk' : k' ≤ ops.size) (h : ∀ j, j < ops.size → (t j).dst = some x → (j < k ↔ j < k')) : (s k).tmps x = (s k').tmps x :=
  between (P := fun j => j < ops.size ∧ (t j).dst = some x) (f := fun a b => a ≤ ops.size → b ≤ ops.size → (s a).tmps x = (s b).tmps x)
    (fun d k h ha _ => run_tmp (n := ops.size) (P := fun j => j < ops.size ∧ (t j).dst = some x) (fun i hi hp => R.tmpStep hi fun e => hp ⟨hi, e⟩) d k ha h) (fun a b h hb ha => (h ha hb).symm) (fun j hj => h j hj.1 hj.2) hk hk'

theorem Runs.rowSame (R : Runs env ops f0 s v u t m) {x k k' : Nat} (hk : k ≤ ops.size) (hk' : k' ≤ ops.size) (h : ∀ j, j < ops.size → x ∈ (t j).wr → (j < k ↔ j < k')) : (s k).rows x = (s k').rows x :=
  between (P := fun j => j < ops.size ∧ x ∈ (t j).wr) (f := fun a b => a ≤ ops.size → b ≤ ops.size → (s a).rows x = (s b).rows x)
    (fun d k h ha _ => run_row (n := ops.size) (P := fun j => j < ops.size ∧ x ∈ (t j).wr) (fun i hi hp => R.rowStep hi fun e => hp ⟨hi, e⟩) d k ha h) (fun a b h hb ha => (h ha hb).symm) (fun j hj => h j hj.1 hj.2) hk hk'

theorem Runs.ntAt (R : Runs env ops f0 s v u t m) : ∀ i, i ≤ ops.size → (s i).nt = (s 0).nt ∧ (s i).next = (s 0).next
  | 0, _ => ⟨rfl, rfl⟩
  | i + 1, h => by
    obtain ⟨o, ho, F⟩ := R.at (i := i) (by omega)
    have := R.ntAt i (by omega)
    rw [F.next, app_nt, app_next]
    exact this

theorem Runs.noneAt (R : Runs env ops f0 s v u t m) : ∀ i, i ≤ ops.size → ∀ k, f0 + 1024 * i ≤ k → (s i).rows k = none
  | 0, _, k, hk => R.fresh k (by omega)
  | i + 1, h, k, hk => by
    obtain ⟨o, ho, F⟩ := R.at (i := i) (by omega)
    have hk2 : f0 + 1024 * i + 1024 ≤ k := by
      clear F ho
      rw [Nat.mul_succ, ← Nat.add_assoc] at hk
      exact hk
    have e := usLt_rows (rows := (s i).rows) F.lt k hk2
    rw [F.next, app_rows, e]
    exact R.noneAt i (by omega) k (by omega)

/-- what is before something that is listed is listed -/
theorem Runs.anc (R : Runs env ops f0 s v u t m) {listed : Array Bool} {st : St} (I : Inv ops s t listed st) : ∀ p, p < ops.size → Lst listed p → ∀ j, Nat.testBit (m p) j = true → Lst listed j := by
  intro p
  induction p using Nat.strongRecOn with
  | _ p ih =>
    intro hp hl j hj
    obtain ⟨o, ho, F⟩ := R.at hp
    rw [F.mask] at hj
    obtain ⟨e, he, hb, h⟩ := mask_spec hj
    have hlt := back_spec F.back e he hb
    have hle := I.down p o hl ho e he hb
    rcases h with h | h
    · rw [← h]; exact hle
    · have hm : ((List.range p).map m).getD e.on 0 = m e.on := by simp [List.getD, hlt]
      rw [hm] at h
      exact ih e.on hlt (by omega) hle j h

theorem Runs.ancReady (R : Runs env ops f0 s v u t m) {listed : Array Bool} {st : St} (I : Inv ops s t listed st) {i : Nat} {o : Oper} (ho : ops[i]? = some o) (hall : ∀ e, e ∈ o.after.toList → bindsAny e = true → Lst listed e.on) {j : Nat} (hj : Nat.testBit (m i) j = true) : Lst listed j := by
  have F := R.fact i o ho
  have hi : i < ops.size := (Array.getElem?_eq_some_iff.1 ho).1
  rw [F.mask] at hj
  obtain ⟨e, he, hb, h⟩ := mask_spec hj
  have hlt := back_spec F.back e he hb
  have hle := hall e he hb
  rcases h with h | h
  · rw [← h]; exact hle
  · have hm : ((List.range i).map m).getD e.on 0 = m e.on := by simp [List.getD, hlt]
    rw [hm] at h
    exact R.anc I e.on (by omega) hle j h

theorem lst_set {listed : Array Bool} {i j : Nat} (h : j ≠ i) : Lst (listed.setIfInBounds i true) j ↔ Lst listed j := by
  unfold Lst
  rw [getD_set_ne false (Ne.symm h)]

theorem lst_self {listed : Array Bool} {i : Nat} (h : i < listed.size) : Lst (listed.setIfInBounds i true) i := by
  simp [Lst, h]

/-- one operation that is ready -/
theorem Runs.ready (R : Runs env ops f0 s v u t m) {listed : Array Bool} {st : St} (I : Inv ops s t listed st) {i : Nat} {o : Oper} (ho : ops[i]? = some o) (hun : ¬ Lst listed i) (hall : ∀ e, e ∈ o.after.toList → bindsAny e = true → Lst listed e.on) :
    stepO env ops.toList o (f0 + 1024 * i) st = some (v i, u i) ∧ dstOk st o.dst = true ∧ (∀ k, f0 + 1024 * i ≤ k → k < f0 + 1024 * i + 1024 → st.rows k = none) ∧ Inv ops s t (listed.setIfInBounds i true) (st.app o.dst (v i) (u i)) := by
  have F := R.fact i o ho
  have hi : i < ops.size := (Array.getElem?_eq_some_iff.1 ho).1
  obtain ⟨uses, vis, hans, htr⟩ := F.ans
  have hnt := R.ntAt i (by omega)
  -- those that are out of order are apart
  have before : ∀ j, j < i → ¬ Lst listed j → Apart (t j) (t i) := fun j hj hl => apart_spec (F.apart j hj (by
    cases hb : Nat.testBit (m i) j with
    | false => rfl
    | true => exact absurd (R.ancReady I ho hall hb) hl))
  have behind : ∀ j, j < ops.size → i < j → Lst listed j → Apart (t i) (t j) := fun j hjn hj hl => by
    obtain ⟨oj, hoj, Fj⟩ := R.at hjn
    exact apart_spec (Fj.apart i hj (by
      cases hb : Nat.testBit (m j) i with
      | false => rfl
      | true => exact absurd (R.anc I j hjn hl i hb) hun))
  have eqT : ∀ x, (∀ j, j < ops.size → (t j).dst = some x → (Lst listed j ↔ j < i)) → st.tmps x = (s i).tmps x := fun x h => by
    obtain ⟨k, hk, hw, e⟩ := I.tmp x
    rw [e]
    exact R.tmpSame hk (by omega) fun j hj hd => (hw j hj hd).symm.trans (h j hj hd)
  have eqR : ∀ x, (∀ j, j < ops.size → x ∈ (t j).wr → (Lst listed j ↔ j < i)) → st.rows x = (s i).rows x := fun x h => by
    obtain ⟨k, hk, hw, e⟩ := I.row x
    rw [e]
    exact R.rowSame hk (by omega) fun j hj hd => (hw j hj hd).symm.trans (h j hj hd)
  have hT : ∀ x, x ∈ uses → st.tmps x = (s i).tmps x := fun x hx => eqT x fun j hj hd => by
    constructor
    · intro hl
      rcases Nat.lt_trichotomy j i with h | h | h
      · exact h
      · subst h; exact absurd hl hun
      · exact absurd (by rw [htr]; exact hx) ((behind j hj h hl).ba x hd)
    · intro hlt
      by_cases hl : Lst listed j
      · exact hl
      · exact absurd (by rw [htr]; exact hx) ((before j hlt hl).ab x hd)
  have hV : ∀ x, x ∈ vis → st.rows x = (s i).rows x := fun x hx => eqR x fun j hj hd => by
    constructor
    · intro hl
      rcases Nat.lt_trichotomy j i with h | h | h
      · exact h
      · subst h; exact absurd hl hun
      · exact absurd (by rw [htr]; exact hx) ((behind j hj h hl).rw_ x hd)
    · intro hlt
      by_cases hl : Lst listed j
      · exact hl
      · exact absurd (by rw [htr]; exact hx) ((before j hlt hl).wr x hd)
  have hN : ∀ k, inR (f0 + 1024 * i) k → st.rows k = none := fun k hk => by
    rw [eqR k fun j hj hd => ?_]
    · exact R.noneAt i (by omega) k hk.1
    · obtain ⟨oj, hoj, Fj⟩ := R.at hj
      constructor
      · intro hl
        rcases Nat.lt_trichotomy j i with h | h | h
        · exact h
        · subst h; exact absurd hl hun
        · have := (behind j hj h hl).fr k hd
          rw [F.trFr] at this
          exact absurd hk this
      · intro hlt
        rw [Fj.trWr] at hd
        have := usLt_ids Fj.lt k hd
        have := hk.1
        omega
  refine ⟨hans.step hT hV hN (by rw [I.nt, hnt.1]) (by rw [I.next, hnt.2]), ?_, fun k h1 h2 => hN k ⟨h1, h2⟩, ?_⟩
  · have := F.dst
    unfold dstOk at this ⊢
    rw [I.nt]
    rw [hnt.1] at this
    exact this
  · have hsz : i < listed.size := by rw [I.size]; exact hi
    refine ⟨by simp [I.size], ?_, ?_, ?_, by rw [app_nt, I.nt], by rw [app_next, I.next]⟩
    · intro j oj hl hoj e he hb
      by_cases hji : j = i
      · subst hji
        rw [ho] at hoj; cases hoj
        exact getD_set_true (hall e he hb)
      · exact getD_set_true (I.down j oj ((lst_set hji).1 hl) hoj e he hb)
    · intro x
      by_cases hx : o.dst = some x
      · refine ⟨i + 1, by omega, fun j hj hd => ?_, ?_⟩
        · by_cases hji : j = i
          · subst hji; exact ⟨fun _ => by omega, fun _ => lst_self hsz⟩
          · rw [lst_set hji]
            constructor
            · intro hl
              rcases Nat.lt_trichotomy j i with h | h | h
              · omega
              · exact absurd h hji
              · exact absurd hd ((behind j hj h hl).dd x (by rw [htr]; exact hx))
            · intro hlt
              by_cases hl : Lst listed j
              · exact hl
              · exact absurd (by rw [htr]; exact hx) ((before j (by omega) hl).dd x hd)
        · rw [F.next, app_tmps _ _ _ F.ns, app_tmps _ _ _ F.ns, hx]
          simp only [updT_self]
      · obtain ⟨k, hk, hw, e⟩ := I.tmp x
        refine ⟨k, hk, fun j hj hd => ?_, ?_⟩
        · have hji : j ≠ i := fun h => by subst h; rw [F.trDst] at hd; exact hx hd
          rw [lst_set hji]; exact hw j hj hd
        · rw [← e, app_tmps _ _ _ F.ns]
          cases hd : o.dst with
          | none => rfl
          | some d => exact updT_other _ _ (fun h => hx (by rw [hd, h]))
    · intro x
      by_cases hx : x ∈ usIds (u i)
      · refine ⟨i + 1, by omega, fun j hj hd => ?_, ?_⟩
        · by_cases hji : j = i
          · subst hji; exact ⟨fun _ => by omega, fun _ => lst_self hsz⟩
          · rw [lst_set hji]
            constructor
            · intro hl
              rcases Nat.lt_trichotomy j i with h | h | h
              · omega
              · exact absurd h hji
              · exact absurd hd ((behind j hj h hl).ww x (by rw [F.trWr]; exact hx))
            · intro hlt
              by_cases hl : Lst listed j
              · exact hl
              · exact absurd (by rw [F.trWr]; exact hx) ((before j (by omega) hl).ww x hd)
        · rw [F.next, app_rows, app_rows]
          exact appR_in hx
      · obtain ⟨k, hk, hw, e⟩ := I.row x
        refine ⟨k, hk, fun j hj hd => ?_, ?_⟩
        · have hji : j ≠ i := fun h => by subst h; rw [F.trWr] at hd; exact hx hd
          rw [lst_set hji]; exact hw j hj hd
        · rw [← e, app_rows, appR_out hx]

theorem Runs.all (R : Runs env ops f0 s v u t m) {listed : Array Bool} {st : St} (I : Inv ops s t listed st) (h : Region.ready .any ops listed = []) : ∀ j, j < ops.size → Lst listed j := by
  intro j
  induction j using Nat.strongRecOn with
  | _ j ih =>
    intro hj
    cases hl : listed.getD j false with
    | true => exact hl
    | false =>
      obtain ⟨o, ho, F⟩ := R.at hj
      have hm : j ∈ Region.ready .any ops listed := mem_ready.2 ⟨by
        have : j < listed.size := by rw [I.size]; exact hj
        simp only [Array.getD_eq_getD_getElem?, Array.getElem?_eq_getElem this, Option.getD_some] at hl ⊢
        exact hl, o, ho, fun e he hb => by
        rw [binds_any] at hb
        have := back_spec F.back e (by simpa using he) hb
        exact ih e.on this (by omega)⟩
      rw [h] at hm
      cases hm

theorem Runs.done (R : Runs env ops f0 s v u t m) {listed : Array Bool} {st : St} (I : Inv ops s t listed st) (h : ∀ j, j < ops.size → Lst listed j) : st = s ops.size := by
  have hT : st.tmps = (s ops.size).tmps := by
    funext x
    obtain ⟨k, hk, hw, e⟩ := I.tmp x
    rw [e]
    exact R.tmpSame hk (Nat.le_refl _) fun j hj hd => ⟨fun _ => hj, fun _ => (hw j hj hd).1 (h j hj)⟩
  have hR : st.rows = (s ops.size).rows := by
    funext x
    obtain ⟨k, hk, hw, e⟩ := I.row x
    rw [e]
    exact R.rowSame hk (Nat.le_refl _) fun j hj hd => ⟨fun _ => hj, fun _ => (hw j hj hd).1 (h j hj)⟩
  have hnt := R.ntAt ops.size (Nat.le_refl _)
  have h1 := I.nt
  have h2 := I.next
  generalize s ops.size = z at *
  cases st; cases z
  simp only at hT hR hnt h1 h2
  rw [hT, hR, h1, h2, hnt.1, hnt.2]

theorem Runs.any (R : Runs env ops f0 s v u t m) (hE : ∀ g f, env.fns g = some f → CallOk env.prog g f) {B : Base} (hts : ∀ o, o ∈ ops.toList → ∀ d, o.dst = some d → d ∈ B.ts) {Q : Exit → Act → World → Prop} (hq : ∀ a w, Good B (s ops.size) a w → Q .normal a w) :
    ∀ (fuel : Nat) (rest : List Nat) (listed : Array Bool) (st : St) (a : Act) (w : World), rest.length ≤ fuel → (∀ j, j < ops.size → ¬ Lst listed j → j ∈ rest) → Inv ops s t listed st → Good B st a w → wpAny env.prog .any ops Q fuel listed a w
  | 0, rest, listed, st, a, w, hf, hr, I, G => by
    have hnil : rest = [] := List.eq_nil_of_length_eq_zero (by omega)
    have hall : ∀ j, j < ops.size → Lst listed j := fun j hj => by
      cases hl : listed.getD j false with
      | true => exact hl
      | false => have := hr j hj (fun hc => Bool.false_ne_true (hl.symm.trans hc)); rw [hnil] at this; cases this
    refine ⟨?_, ?_⟩
    · cases hrd : Region.ready .any ops listed with
      | nil => rfl
      | cons j js =>
        have hm : j ∈ Region.ready .any ops listed := by rw [hrd]; simp
        obtain ⟨h1, o, ho, _⟩ := mem_ready.1 hm
        have hj : j < ops.size := (Array.getElem?_eq_some_iff.1 ho).1
        have h2 := hall j hj
        have : j < listed.size := by rw [I.size]; exact hj
        simp only [Lst, Array.getD_eq_getD_getElem?, Array.getElem?_eq_getElem this, Option.getD_some] at h1 h2
        rw [h1] at h2; cases h2
    · exact hq a w (by rw [← R.done I hall]; exact G)
  | fuel + 1, rest, listed, st, a, w, hf, hr, I, G => by
    refine ⟨fun h => hq a w (by rw [← R.done I (R.all I h)]; exact G), fun i hi => ?_⟩
    obtain ⟨h1, o, ho, hall⟩ := mem_ready.1 hi
    have hin : i < ops.size := (Array.getElem?_eq_some_iff.1 ho).1
    have hun : ¬ Lst listed i := by
      have : i < listed.size := by rw [I.size]; exact hin
      simp only [Lst, Array.getD_eq_getD_getElem?, Array.getElem?_eq_getElem this, Option.getD_some] at h1 ⊢
      rw [h1]; simp
    obtain ⟨k1, k2, k3, k4⟩ := R.ready I ho hun (fun e he hb => hall e (by simpa using he) (by rw [binds_any]; exact hb))
    refine step_ok hE G ho (hts o (by have := Array.mem_of_getElem? ho; simpa using this)) k3 k1 k2 fun a' w' G' => ?_
    have hmem := hr i hin hun
    refine R.any hE hts hq fuel (rest.erase i) _ _ a' w' (by rw [List.length_erase_of_mem hmem]; omega) (fun j hj hl => ?_) k4 G'
    have hji : j ≠ i := fun h => by subst h; exact hl (lst_self (by rw [I.size]; exact hin))
    exact (List.mem_erase_of_ne hji).2 (hr j hj fun h => hl ((lst_set hji).2 h))

end

/-- a region whose order is drawn -/
theorem tevDr_ok {R : Type} {env : Env} (hE : ∀ g f, env.fns g = some f → CallOk env.prog g f) {ops : Array Oper} {B : Base} (hts : ∀ o, o ∈ ops.toList → ∀ d, o.dst = some d → d ∈ B.ts) {K : St → Option R} {r : R} {Q : Exit → Act → World → Prop} {st : St} {a : Act} {w : World}
    (h : tevDr env ops.toList ops.toList st.next 0 [] [] st K = some r) (G : Good B st a w) (hf : ∀ k, st.next ≤ k → st.rows k = none)
    (hq : ∀ st' a' w', Good B st' a' w' → st'.nt = st.nt → st'.next = st.next → (∀ k, st.next + 1024 * ops.toList.length ≤ k → st'.rows k = none) → K st' = some r → Q .normal a' w') :
    wpAny env.prog .any ops Q ops.size (Array.replicate ops.size false) a w := by
  obtain ⟨s, v, u, t, m, _, _, hs, hK, hF⟩ := tevDr_run (f0 := st.next) ops.toList 0 [] [] st rfl rfl (fun k x h => by simp at h) (by simpa using h)
  subst hs
  have RR : Runs env ops (s 0).next s v u t m := ⟨fun k o ho => by have := hF k o (by simpa using ho); simpa using this, hf⟩
  have hnt := RR.ntAt ops.size (Nat.le_refl _)
  simp only [Nat.zero_add, Array.length_toList] at hK
  refine RR.any hE hts (fun a' w' G' => hq _ a' w' G' hnt.1 hnt.2 (fun k hk => RR.noneAt ops.size (Nat.le_refl _) k (by simpa using hk)) hK) ops.size (List.range ops.size) _ (s 0) a w (by simp) (fun j hj _ => by simpa using hj) ?_ G
  have no : ∀ j, ¬ Lst (Array.replicate ops.size false) j := fun j h => by
    unfold Lst at h
    rw [Array.getD_eq_getD_getElem?] at h
    by_cases hj : j < ops.size
    · simp [hj] at h
    · simp [Array.getElem?_eq_none (show (Array.replicate ops.size false).size ≤ j by simp; omega)] at h
  exact ⟨by simp, fun j o h => absurd h (no j), fun x => ⟨0, by omega, fun j _ _ => ⟨fun h => absurd h (no j), fun h => by omega⟩, rfl⟩, fun x => ⟨0, by omega, fun j _ _ => ⟨fun h => absurd h (no j), fun h => by omega⟩, rfl⟩, rfl, rfl⟩

end Go.Tev
