/- An evaluator of Go functions on plain values: operations that read. Lemmas; no condition beyond those that each states. -/
import Derived.Test.YtanoofbkhddokaaGreatTi
set_option linter.unusedVariables false
set_option linter.unusedSimpArgs false
namespace Go.Tev

theorem pureS_some {x : SV} {f : F} (h : pureS x = some f) : f = ⟨[], .c (.s x), []⟩ := (Option.some.inj h).symm

theorem i64max : IntKind.i64.max = 9223372036854775807 := by decide

theorem wrapB (k : IntKind) (n : Nat) (r : BitVec k.bits) : (Value.int k (k.wrap r.toNat)) = .int k (k.wrap r.toNat) := rfl

theorem eqGuard_int (P : Program) (op : BinOp) (t : TypeId) (x y : Operand) (k k' : IntKind) (a b : Int) (w : World) : (eqGuard op t x y (.int k a) (.int k' b)).run P w = .ok () w := by
  cases op <;> simp [eqGuard]
theorem eqGuard_str (P : Program) (op : BinOp) (t : TypeId) (x y : Operand) (a b : ByteArray) (w : World) : (eqGuard op t x y (.string a) (.string b)).run P w = .ok () w := by
  cases op <;> simp [eqGuard]
theorem eqGuard_bool (P : Program) (op : BinOp) (t : TypeId) (x y : Operand) (a b : Bool) (w : World) : (eqGuard op t x y (.bool a) (.bool b)).run P w = .ok () w := by
  cases op <;> simp [eqGuard]

theorem flatFields_run {P : Program} (w : World) (d : Nat) : ∀ (fs : List Field) (k : Nat) (l l' : List SV) (pre pre' vs vs' : List Value) (loc : Loc) (r : Bool), flatFields P k fs l = true → eqCells l l' = some r → Rels loc l vs → Rels loc l' vs' →
    pre.length = k → pre'.length = k →
    (Op.eqFields (d + 1) (pre ++ vs).toArray (pre' ++ vs').toArray fs).run P w = .ok r w
  | [], k, l, l', pre, pre', vs, vs', loc, r, hf, he, hr, hr', hp, hp' => by
    cases l with
    | cons _ _ => simp [flatFields] at hf
    | nil =>
      cases l' with
      | nil => simp only [eqCells, Option.some.injEq] at he; subst he; simp [Op.eqFields]
      | cons _ _ => simp [eqCells] at he
  | f :: fs, k, l, l', pre, pre', vs, vs', loc, r, hf, he, hr, hr', hp, hp' => by
    cases l with
    | nil => simp [flatFields] at hf
    | cons x l =>
      simp only [flatFields, Bool.and_eq_true] at hf
      obtain ⟨hf1, hf2, hf3, hf4⟩ := hf
      have hoff := Nat.eq_of_beq_eq_true hf1
      have hname : f.name ≠ "_" := by simpa using hf2
      have hag : (isAgg f.type).run P w = .ok false w := by
        unfold isAgg
        cases x <;> simp only [fieldOk] at hf3 <;> first | (cases hf3; done) | skip
        · split at hf3
          · rename_i hu; simp [run_underlying hu w]
          · cases hf3
        · split at hf3
          · rename_i hu; simp [run_underlying hu w]
          · cases hf3
      cases l' with
      | nil => cases x <;> simp [eqCells] at he
      | cons x' l' =>
        cases vs with
        | nil => exact hr.elim
        | cons v vs =>
          cases vs' with
          | nil => exact hr'.elim
          | cons v' vs' =>
            have pv : (part f.type (pre ++ v :: vs).toArray f.offset).run P w = .ok v w := by
              unfold part
              simp [hag, hoff, ← hp]
            have pv' : (part f.type (pre' ++ v' :: vs').toArray f.offset).run P w = .ok v' w := by
              unfold part
              simp [hag, hoff, ← hp']
            have step : ∃ c r', eqCells l l' = some r' ∧ r = (c && r') ∧ (Op.equalIn (d + 1) f.type v v').run P w = .ok c w := by
              cases x <;> cases x' <;> simp only [eqCells] at he <;> first | (cases he; done) | skip
              · rename_i k1 a k2 b
                split at he
                · rename_i r' hr1
                  cases hk : kindSame k1 k2 with
                  | false => rw [hk] at he; cases he
                  | true =>
                    rw [hk, cond_true, Option.some.injEq] at he
                    obtain rfl := kindSame_eq hk
                    obtain rfl := hr.1
                    obtain rfl := hr'.1
                    simp only [fieldOk] at hf3
                    split at hf3
                    · rename_i hu
                      exact ⟨a == b, r', hr1, he.symm, run_equalIn_int w d f.type k1 _ a b hu⟩
                    · cases hf3
                · cases he
              · rename_i a b
                split at he
                · rename_i r' hr1
                  rw [Option.some.injEq] at he
                  obtain rfl := hr.1
                  obtain rfl := hr'.1
                  simp only [fieldOk] at hf3
                  split at hf3
                  · rename_i hu
                    exact ⟨a == b, r', hr1, he.symm, run_equalIn_bool' w d f.type a b hu⟩
                  · cases hf3
                · cases he
            obtain ⟨c, r', e1, rfl, e2⟩ := step
            have ih := flatFields_run w d fs (k + 1) l l' (pre ++ [v]) (pre' ++ [v']) vs vs' loc r' hf4 e1 hr.2 hr'.2 (by simp [hp]) (by simp [hp'])
            simp only [List.append_assoc, List.singleton_append] at ih
            simp only [Op.eqFields, hname, ne_eq, not_false_eq_true, if_true, Sem.run_bind, pv, pv', Result.andThen_ok, e2]
            cases c with
            | true => simpa using ih
            | false => simp

theorem binF_ok {P : Program} {loc : Loc} {w : World} {op : BinOp} {t : TypeId} {tv tu : TV} {v u : Value} {f : F} (hv : TRel loc tv v) (hu : TRel loc tu u) (h : binF P op t tv tu = some f) (hc : ∀ c, c ∈ f.checks → c = true) (x y : Operand) :
    ∃ val, ((eqGuard op t x y v u >>= fun _ => binOp op t v u) : Sem Value).run P w = .ok val w ∧ f.us = [] ∧ TRel loc f.v val := by
  unfold binF at h
  split at h
  · rename_i k a k' b
    obtain rfl := hv
    obtain rfl := hu
    simp only [Sem.run_bind, eqGuard_int, Result.andThen_ok]
    split at h
    · simp only [Option.some.injEq] at h
      subst h
      have := hc _ (List.mem_singleton.2 rfl)
      have hb : 0 ≤ b := of_decide_eq_true this
      refine ⟨_, ?_, rfl, rfl⟩
      simp [binOp, Op.shift, show ¬ b < 0 by omega]
    · simp only [Option.some.injEq] at h
      subst h
      have := hc _ (List.mem_singleton.2 rfl)
      have hb : 0 ≤ b := of_decide_eq_true this
      refine ⟨_, ?_, rfl, rfl⟩
      simp [binOp, Op.shift, show ¬ b < 0 by omega]
    · rename_i h1 h2
      cases hk : kindSame k k' with
      | false => rw [hk] at h; cases h
      | true =>
        rw [hk, cond_true] at h
        obtain rfl := kindSame_eq hk
        split at h <;> first
          | (obtain rfl := pureS_some h; exact ⟨_, by simp [binOp, Op.intArith, Op.intBits, Op.intCmp, bAnd, bOr, bXor], rfl, rfl⟩)
          | (simp only [Option.some.injEq] at h
             subst h
             have := hc _ (List.mem_singleton.2 rfl)
             have hb : b ≠ 0 := by simpa using this
             exact ⟨_, by simp [binOp, Op.intDiv, hb], rfl, rfl⟩)
          | (cases h; done)
  · rename_i a b
    obtain rfl := hv
    obtain rfl := hu
    simp only [Sem.run_bind, eqGuard_str, Result.andThen_ok]
    split at h
    · simp only [Option.some.injEq] at h
      subst h
      have := of_decide_eq_true (hc _ (List.mem_singleton.2 rfl))
      refine ⟨.string (a ++ b), ?_, rfl, rfl⟩
      have hn : ¬ (9223372036854775807 < (a.size : Int) + (b.size : Int)) := by omega
      simp [binOp, Op.stringOp, i64max, hn]
    · obtain rfl := pureS_some h
      exact ⟨_, by simp [binOp, Op.stringOp], rfl, rfl⟩
    · obtain rfl := pureS_some h
      exact ⟨_, by simp [binOp, Op.stringOp], rfl, rfl⟩
    · cases h
  · rename_i a b
    obtain rfl := hv
    obtain rfl := hu
    simp only [Sem.run_bind, eqGuard_bool, Result.andThen_ok]
    split at h
    · rename_i ht
      split at h
      · obtain rfl := pureS_some h
        exact ⟨.bool (a == b), by simp [binOp, Op.equal, Op.maxDepth, run_equalIn_bool' w 9999 t a b ht], rfl, rfl⟩
      · obtain rfl := pureS_some h
        exact ⟨.bool (!(a == b)), by simp [binOp, Op.equal, Op.maxDepth, run_equalIn_bool' w 9999 t a b ht], rfl, rfl⟩
      · cases h
    · cases h
  · rename_i l l'
    obtain ⟨cs, rfl, hr⟩ := hv
    obtain ⟨cs', rfl, hr'⟩ := hu
    split at h
    · rename_i r he hok
      unfold structEqOk at hok
      split at hok
      · rename_i fs hfs
        simp only [Bool.and_eq_true, Bool.not_eq_true'] at hok
        obtain ⟨hflat, hst, hg⟩ := hok
        have hfo : P.fieldsOf t = fs := by simp [Program.fieldsOf, hfs]
        have ht : P.underlying t = some (.struct (P.fieldsOf t)) := by rw [hfo]; exact hfs
        have hrun : (Op.equalIn 10000 t (.agg cs.toArray) (.agg cs'.toArray)).run P w = .ok r w := by
          rw [run_equalIn_agg w 9999 t _ _ ht hst, hfo]
          simpa using flatFields_run w 9998 fs.toList 0 l l' [] [] cs cs' loc r hflat he hr hr' rfl rfl
        simp only [Sem.run_bind, run_eqGuard_agg (P := P) w op t x y _ _ hg, Result.andThen_ok]
        split at h
        · obtain rfl := pureS_some h
          exact ⟨.bool r, by rw [run_eql_struct, hrun]; rfl, rfl, rfl⟩
        · obtain rfl := pureS_some h
          exact ⟨.bool (!r), by rw [run_neq_struct, hrun]; rfl, rfl, rfl⟩
        · cases h
      · cases hok
    · cases h
  · cases h

end Go.Tev
