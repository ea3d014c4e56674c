/- An evaluator of Go functions on plain values: what an operation of a drawn region looks at. No condition beyond those that each lemma states. -/
import Derived.Test.YtanoofbkhddokaaGreatTu
set_option linter.unusedSimpArgs false
set_option linter.unusedVariables false
namespace Go.Tev

theorem pairsEv_congr {st st' : St} : ∀ {l : List (Nat × Operand)}, (∀ x, x ∈ l.map (·.2) → st'.ev x = st.ev x) → pairsEv st' l = pairsEv st l
  | [], _ => rfl
  | (i, x) :: l, h => by
    simp only [pairsEv]
    rw [h x (by simp), pairsEv_congr (l := l) fun y hy => h y (by simp only [List.map_cons, List.mem_cons]; exact .inr hy)]

theorem evs_congr {st st' : St} : ∀ {l : List Operand}, (∀ x, x ∈ l → st'.ev x = st.ev x) → evs st' l = evs st l
  | [], _ => rfl
  | x :: l, h => by
    simp only [evs]
    rw [h x (by simp), evs_congr (l := l) fun y hy => h y (by simp [hy])]

theorem callX_congr {R : Type} {st st' : St} (hr : st'.rows = st.rows) (f : Fn) (fresh : Nat) (args : List TV) (K : TV → Us → Option R) : callX f fresh st' args K = callX f fresh st args K := by
  unfold callX callF callL callM callY
  rw [hr]

theorem opRes_congr {env : Env} {st st' : St} (hr : st'.rows = st.rows) {fresh : Nat} {op : Op} (h : ∀ x, x ∈ op.operands.toList → st'.ev x = st.ev x) : opRes env fresh op st' = opRes env fresh op st := by
  cases op <;> simp only [Op.operands] at h
  case move x => simp only [opRes, tevOp, fetch, h x (by simp)]
  case assign x => simp only [opRes, tevOp, fetch, h x (by simp)]
  case box t x => simp only [opRes, tevOp, fetch, h x (by simp)]
  case pick c a b => simp only [opRes, tevOp, h c (by simp), h a (by simp), h b (by simp)]
  case build t ps => simp only [opRes, tevOp, fetch, pairsEv_congr (l := ps.toList) (fun x hx => h x (by simpa using hx))]
  case buildSlice t n ps => simp only [opRes, tevOp, fetch, pairsEv_congr (l := ps.toList) (fun x hx => h x (by simpa using hx)), hr]
  case load t x => simp only [opRes, tevOp, fetch, h x (by simp), hr]
  case store t x y => simp only [opRes, tevOp, fetch, h x (by simp), h y (by simp), hr]
  case nilCheck x => simp only [opRes, tevOp, fetch, h x (by simp)]
  case binOp o t x y b => simp only [opRes, tevOp, fetch, h x (by simp), h y (by simp)]
  case unOp o t x => cases o <;> simp only [opRes, tevOp, fetch, h x (by simp)]
  case convert s d x => simp only [opRes, tevOp, fetch, h x (by simp), hr]
  case makeSlice t l c => simp only [opRes, tevOp, fetch, h l (by simp)]
  case slice t x lo hi mx =>
    cases mx with
    | some m => rfl
    | none =>
      have hlo : optEv st' lo = optEv st lo := by cases lo with | none => rfl | some y => simp only [optEv]; rw [h y (by simp)]
      have hhi : optEv st' hi = optEv st hi := by cases hi with | none => rfl | some y => simp only [optEv]; rw [h y (by simp)]
      simp only [opRes, tevOp, fetch, h x (by simp), hlo, hhi, hr]
  case fieldAddr t x k => simp only [opRes, tevOp, fetch, h x (by simp)]
  case field t x k => simp only [opRes, tevOp, fetch, h x (by simp)]
  case indexAddr t x i => simp only [opRes, tevOp, fetch, h x (by simp), h i (by simp), hr]
  case index t x i => simp only [opRes, tevOp, fetch, h x (by simp), h i (by simp)]
  case extract x k => simp only [opRes, tevOp, fetch, h x (by simp)]
  case call c =>
    have ha : evs st' c.args.toList = evs st c.args.toList := evs_congr fun x hx => h x (by simp only [Call.operands, Array.toList_append, List.mem_append]; exact .inr hx)
    simp only [opRes, tevOp, ha]
    cases hc : c.callee with
    | value f =>
      have hf : st'.ev f = st.ev f := h f (by simp [Call.operands, hc])
      simp only [hf, callX_congr hr]
    | builtin b =>
      simp only
      have : fetchB env.prog fresh st' b c.argTypes.toList (evs st c.args.toList) = fetchB env.prog fresh st b c.argTypes.toList (evs st c.args.toList) := by
        simp only [fetchB, hr]
      rw [this]
    | invoke r m => rfl
  all_goals first | rfl | (simp only [opRes, tevOp, fetch]; done)

theorem memN_iff {x : Nat} : ∀ {l : List Nat}, memN x l = true ↔ x ∈ l
  | [] => by simp [memN]
  | y :: r => by
    simp only [memN, List.mem_cons]
    cases hb : Nat.beq x y with
    | true => simp [Nat.eq_of_beq_eq_true hb]
    | false =>
      have : x ≠ y := fun e => by subst e; simp at hb
      simp only [cond_false, this, false_or]
      exact memN_iff

theorem tmpsOf_mem {t : Nat} : ∀ {l : List Operand}, Operand.tmp t ∈ l → t ∈ tmpsOf l
  | .tmp t' :: r, h => by
    simp only [tmpsOf]
    cases h with
    | head => simp
    | tail _ h => simp [tmpsOf_mem h]
  | .const _ :: r, h => by cases h with | tail _ h => exact tmpsOf_mem (l := r) h
  | .func _ :: r, h => by cases h with | tail _ h => exact tmpsOf_mem (l := r) h
  | .global _ :: r, h => by cases h with | tail _ h => exact tmpsOf_mem (l := r) h

def inR (fresh k : Nat) : Prop := fresh ≤ k ∧ k < fresh + 1024

theorem rangeB {fresh k : Nat} : (Nat.ble fresh k && Nat.blt k (fresh + 1024)) = true ↔ inR fresh k := by
  simp only [Bool.and_eq_true, Nat.ble_eq, Nat.blt_eq, inR]

/-- what is answered in a restricted view is answered -/
theorem opRes_restr {env : Env} {st : St} {fresh : Nat} {op : Op} {vis : List Nat} {r : TV × Us} (hn : ∀ k, inR fresh k → st.rows k = none) (h : opRes env fresh op (restr st (opTmps op) vis fresh) = some r) : opRes env fresh op st = some r := by
  have h1 : opRes env fresh op ⟨(restr st (opTmps op) vis fresh).tmps, st.rows, st.nt, st.next⟩ = some r := opRes_mono (st := restr st (opTmps op) vis fresh) (st' := ⟨(restr st (opTmps op) vis fresh).tmps, st.rows, st.nt, st.next⟩) rfl (fun id => by
    show (bif memN id vis then st.rows id else (bif Nat.ble fresh id && Nat.blt id (fresh + 1024) then none else some .dead)) = _ ∨ (bif memN id vis then st.rows id else (bif Nat.ble fresh id && Nat.blt id (fresh + 1024) then none else some .dead)) = st.rows id
    cases memN id vis with
    | true => exact .inr rfl
    | false =>
      cases hb : (Nat.ble fresh id && Nat.blt id (fresh + 1024)) with
      | true => rw [cond_false, cond_true]; exact .inr (hn id (rangeB.1 hb)).symm
      | false => exact .inl rfl) h
  rw [← h1]
  symm
  refine opRes_congr (st := st) (st' := ⟨(restr st (opTmps op) vis fresh).tmps, st.rows, st.nt, st.next⟩) rfl fun x hx => ?_
  cases x with
  | tmp t =>
    show (bif memN t (opTmps op) then st.tmps t else undefT) = st.tmps t
    rw [show memN t (opTmps op) = true from memN_iff.2 (tmpsOf_mem hx), cond_true]
  | _ => rfl

theorem restr_congr {st st' : St} {ts vis : List Nat} {fresh : Nat} (ht : ∀ x, x ∈ ts → st'.tmps x = st.tmps x) (hv : ∀ id, id ∈ vis → st'.rows id = st.rows id) (hnt : st'.nt = st.nt) (hne : st'.next = st.next) :
    restr st' ts vis fresh = restr st ts vis fresh := by
  unfold restr
  have h1 : (fun t => bif memN t ts then st'.tmps t else undefT) = fun t => bif memN t ts then st.tmps t else undefT := by
    funext t
    cases hb : memN t ts with
    | true => simp only [cond_true]; exact ht t (memN_iff.1 hb)
    | false => rfl
  have h2 : (fun id => bif memN id vis then st'.rows id else (bif Nat.ble fresh id && Nat.blt id (fresh + 1024) then none else some Row.dead)) = fun id => bif memN id vis then st.rows id else (bif Nat.ble fresh id && Nat.blt id (fresh + 1024) then none else some Row.dead) := by
    funext id
    cases hb : memN id vis with
    | true => simp only [cond_true]; exact hv id (memN_iff.1 hb)
    | false => rfl
  rw [h1, h2, hnt, hne]

/-- what an operation of a drawn region answers, with what it looks at -/
def AnsD (env : Env) (all : List Oper) (o : Oper) (fresh : Nat) (st : St) (uses vis : List Nat) (v : TV) (us : Us) : Prop :=
  match o.guard with
  | none => uses = [] ++ opTmps o.op ∧ opRes env fresh o.op (restr st (opTmps o.op) vis fresh) = some (v, us)
  | some (j, want) => ∃ oj t, all[j]? = some oj ∧ oj.dst = some t ∧
      ((∃ b, st.tmps t = .c (.s (.bool b)) ∧ ((b = want ∧ uses = [t] ++ opTmps o.op ∧ opRes env fresh o.op (restr st (opTmps o.op) vis fresh) = some (v, us)) ∨ (b ≠ want ∧ uses = [t] ∧ v = voidT ∧ us = []))) ∨
       (st.tmps t = .c (.s .void) ∧ uses = [t] ∧ v = voidT ∧ us = []))

theorem AnsD.step {env : Env} {all : List Oper} {o : Oper} {fresh : Nat} {st st' : St} {uses vis : List Nat} {v : TV} {us : Us} (h : AnsD env all o fresh st uses vis v us) (ht : ∀ x, x ∈ uses → st'.tmps x = st.tmps x)
    (hv : ∀ id, id ∈ vis → st'.rows id = st.rows id) (hn : ∀ k, inR fresh k → st'.rows k = none) (hnt : st'.nt = st.nt) (hne : st'.next = st.next) : stepO env all o fresh st' = some (v, us) := by
  have run : (∀ x, x ∈ opTmps o.op → x ∈ uses) → opRes env fresh o.op (restr st (opTmps o.op) vis fresh) = some (v, us) → opRes env fresh o.op st' = some (v, us) := fun hs h => by
    refine opRes_restr hn (vis := vis) ?_
    rw [restr_congr (fun x hx => ht x (hs x hx)) hv hnt hne]
    exact h
  unfold AnsD at h
  unfold stepO
  cases hg : o.guard with
  | none =>
    rw [hg] at h
    obtain ⟨hu, h⟩ := h
    exact run (fun x hx => by rw [hu]; exact hx) h
  | some g =>
    obtain ⟨j, want⟩ := g
    rw [hg] at h
    obtain ⟨oj, t, hj, hjd, h⟩ := h
    simp only [hj, hjd]
    rcases h with ⟨b, hb, h⟩ | ⟨hb, hu, rfl, rfl⟩
    · rcases h with ⟨rfl, hu, h⟩ | ⟨hne', hu, rfl, rfl⟩
      · rw [ht t (by rw [hu]; simp), hb]
        simp only [BEq.rfl, cond_true]
        exact run (fun x hx => by rw [hu]; simp [hx]) h
      · rw [ht t (by rw [hu]; simp), hb]
        have : (b == want) = false := by simpa using hne'
        simp only [this, cond_false]
    · rw [ht t (by rw [hu]; simp), hb]

end Go.Tev
