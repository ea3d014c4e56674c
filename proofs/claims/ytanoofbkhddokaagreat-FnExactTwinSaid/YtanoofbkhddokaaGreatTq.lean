/- An evaluator of Go functions on plain values: any operation. No condition beyond those that each lemma states. -/
import Derived.Test.YtanoofbkhddokaaGreatTqa
set_option linter.unusedSimpArgs false
set_option linter.unusedVariables false
namespace Go.Tev

theorem fetched_some {R : Type} {K : TV → Us → Option R} {x : Option F} {r : R} (h : fetched K x = some r) : ∃ f, x = some f ∧ (∀ c, c ∈ f.checks → c = true) ∧ K f.v f.us = some r := by
  cases x with
  | none => simp [fetched] at h
  | some f => exact ⟨f, rfl, (guardC_some h).1, (guardC_some h).2⟩

theorem fetched_of {f : F} (hc : ∀ c, c ∈ f.checks → c = true) : fetched (fun v us => some (v, us)) (some f) = some (f.v, f.us) := guardC_all _ hc

/-- what an operation answers, apart from what follows -/
abbrev opRes (env : Env) (fresh : Nat) (op : Op) (st : St) : Option (TV × Us) := tevOp env fresh op st fun v us => some (v, us)

theorem callX_some {R : Type} {f : Fn} {fresh : Nat} {st : St} {args : List TV} {K : TV → Us → Option R} {r : R} (h : callX f fresh st args K = some r) :
    ∃ v us, callX f fresh st args (fun v us => some (v, us)) = some (v, us) ∧ K v us = some r := by
  unfold callX at h ⊢
  cases hk : f.kd with
  | nor =>
    rw [hk] at h
    simp only [callF] at h ⊢
    split at h
    · rename_i y us ht
      cases hr : f.run y with
      | none => rw [hr] at h; cases h
      | some r =>
        rw [hr] at h
        simp only [Option.bind_some] at h ⊢
        cases hb : pbOk f.ins r.2 args (appR st.rows us) (fresh + 512) with
        | false => rw [hb] at h; cases h
        | true => rw [hb] at h; exact ⟨_, _, rfl, h⟩
    · cases h
  | lnt =>
    rw [hk] at h
    simp only [callL] at h ⊢
    cases hn : noPs f.ins with
    | false => rw [hn] at h; cases h
    | true =>
      rw [hn, cond_true] at h
      rw [cond_true]
      split at h
      · rename_i y us ht
        cases hr : f.run y with
        | none => rw [hr] at h; cases h
        | some r => rw [hr] at h; exact ⟨_, _, rfl, h⟩
      · cases h
  | may =>
    rw [hk] at h
    simp only at h ⊢
    unfold callY at h ⊢
    split at h
    · rename_i ins ts run kd
      simp only
      cases hn : noPs ins with
      | false => rw [hn] at h; cases h
      | true =>
        rw [hn, cond_true] at h
        rw [cond_true]
        split at h
        · rename_i y us ht
          cases hz : run y with
          | none => rw [hz] at h; cases h
          | some z =>
            rw [hz] at h
            simp only [Option.bind_some] at h ⊢
            cases hb : z.1.2.1 with
            | true => rw [hb] at h; exact ⟨_, _, rfl, h⟩
            | false => rw [hb] at h; exact ⟨_, _, rfl, h⟩
        · cases h
    · cases h
  | inp =>
    rw [hk] at h
    simp only at h ⊢
    unfold callM at h ⊢
    split at h
    · rename_i run kd id i k
      split at h
      · rename_i l hr
        cases hz : run (rdE .n l i, (k, ())) with
        | none => rw [hz] at h; cases h
        | some z => rw [hz] at h; exact ⟨_, _, rfl, h⟩
      · cases h
    · rename_i t t' run kd tv k _
      cases hn : t.noP with
      | false => rw [hn] at h; cases h
      | true =>
        rw [hn, cond_true] at h
        rw [cond_true]
        split at h
        · rename_i y us ht
          cases hz : run y with
          | none => rw [hz] at h; cases h
          | some z =>
            rw [hz] at h
            simp only [Option.bind_some] at h ⊢
            split at h
            · exact ⟨_, _, rfl, h⟩
            · cases h
        · cases h
    · cases h

theorem tevOp_some {R : Type} {env : Env} {fresh : Nat} {op : Op} {st : St} {K : TV → Us → Option R} {r : R} (h : tevOp env fresh op st K = some r) :
    ∃ v us, opRes env fresh op st = some (v, us) ∧ K v us = some r := by
  have d : fetched K (fetch env.prog fresh st op) = some r → (opRes env fresh op st = fetched (fun v us => some (v, us)) (fetch env.prog fresh st op)) → ∃ v us, opRes env fresh op st = some (v, us) ∧ K v us = some r := fun h e => by
    obtain ⟨f, hf, hc, hk⟩ := fetched_some h
    exact ⟨f.v, f.us, by rw [e, hf]; exact fetched_of hc, hk⟩
  cases op with
  | pick c a b =>
    simp only [opRes, tevOp] at h ⊢
    split at h
    · rename_i x e
      cases x with
      | true => exact ⟨_, _, rfl, h⟩
      | false => exact ⟨_, _, rfl, h⟩
    · cases h
  | call c =>
    simp only [opRes, tevOp] at h ⊢
    split at h
    · rename_i f hcal
      split at h
      · rename_i g e
        split at h
        · exact callX_some h
        · cases h
      · cases h
    · rename_i b hcal
      obtain ⟨f, hf, hc, hk⟩ := fetched_some h
      exact ⟨f.v, f.us, by rw [hf]; exact fetched_of hc, hk⟩
    · cases h
  | _ => exact d h rfl

theorem appR_none {rows : Rows} : ∀ {us : Us}, (∀ p, p ∈ us → rows p.1 ≠ none) → ∀ id, rows id = none → appR rows us id = none := by
  intro us
  induction us generalizing rows with
  | nil => intro _ id h; exact h
  | cons p us ih =>
    intro h id hid
    obtain ⟨i, x⟩ := p
    have hi : rows i ≠ none := h (i, x) (by simp)
    have hne : id ≠ i := fun e => hi (e ▸ hid)
    simp only [appR]
    refine ih (fun q hq => ?_) id (by rw [updR_other _ _ hne]; exact hid)
    by_cases e : q.1 = i
    · rw [e, updR_self]; simp
    · rw [updR_other _ _ e]; exact h q (by simp [hq])

theorem putTy_c (t : Ty) (x : t.D) (id : Nat) : ∃ c, (putTy t x id).1 = .c c := by cases t <;> exact ⟨_, rfl⟩

theorem cvs_ok {loc : Loc} : ∀ {ts : List Ty} {x : PTup ts} {id : Nat} {vs : List Value}, TRels loc (putTys ts x id).1 vs → CRels loc (cvs (putTys ts x id).1) vs
  | [], _, _, [], _ => trivial
  | [], _, _, _ :: _, h => h.elim
  | _ :: _, _, _, [], h => h.elim
  | t :: ts, x, id, v :: vs, h => by
    obtain ⟨c, e⟩ := putTy_c t x.1 id
    have h1 : TRel loc (putTy t x.1 id).1 v := h.1
    have h2 := cvs_ok h.2
    simp only [putTys, e, cvs]
    rw [e] at h1
    exact ⟨h1, h2⟩

theorem pack_ok {loc : Loc} : ∀ {ts : List Ty} {x : PTup ts} {id : Nat} {vs : List Value}, TRels loc (putTys ts x id).1 vs → TRel loc (packT (putTys ts x id).1) (packV vs)
  | [], _, _, [], _ => ⟨[], rfl, trivial⟩
  | [], _, _, _ :: _, h => h.elim
  | _ :: _, _, _, [], h => h.elim
  | [t], x, id, [v], h => h.1
  | [t], x, id, _ :: _ :: _, h => h.2.elim
  | _ :: _ :: _, x, id, [_], h => h.2.elim
  | _ :: _ :: _, x, id, v :: v' :: vs, h => ⟨v :: v' :: vs, rfl, cvs_ok h⟩

/-- a call -/
theorem callF_ok' {P : Program} {st : St} {loc : Loc} {w : World} {S : Fp} {L : Nat → Prop} (H : Heap st.rows loc w S L) {fresh : Nat} (hid : ∀ k, fresh ≤ k → k < fresh + 1024 → st.rows k = none) {g : FuncId} {f : Fn} (hf : CallOk P g f) (hkd : f.kd = .nor)
    {tvs : List TV} {args : List Value} (hv : TRels loc tvs args) {v : TV} {us : Us} (h : callF f fresh st tvs (fun v us => some (v, us)) = some (v, us)) :
    Calls P g args.toArray w fun e w' => ∃ val, e = .returned val ∧ Done st.rows loc w S L us v val w' := by
  unfold callF at h
  split at h
  · rename_i y us1 ht
    cases hr : f.run y with
    | none => rw [hr] at h; cases h
    | some r =>
      rw [hr] at h
      simp only [Option.bind_some] at h
      cases hpb : pbOk f.ins r.2 tvs (appR st.rows us1) (fresh + 512) with
      | false => rw [hpb] at h; cases h
      | true =>
      rw [hpb] at h
      simp only [cond_true, Option.some.injEq, Prod.mk.injEq] at h
      obtain ⟨rfl, rfl⟩ := h
      obtain ⟨S1, L1, T, hrel, hdl, hls, hll, hlent⟩ := takeAll_ok H ht hv
      refine Calls.mono (hf.calls w y args S1 L1 hrel hdl hls hll r hr) ?_
      rintro e w' ⟨vs, SO, SB, hret, ho, hb, hdis, hsub, hfr⟩
      rw [hkd] at hret ho
      refine ⟨_, hret, ?_⟩
      have hS1 : Sub2 S1 S := Owned.mono T H
      have Hf : Heap (appR st.rows us1) loc w' S L := T.heap.frame hfr (fun i x ex b o ho hh => (T.apart b o ⟨i, x, ex, ho⟩).2 hh) (fun b hb o hh => H.dis b o (hS1 b o hh) hb)
      have new : ∀ b o, SO b o ∨ SB b o → S b o ∨ w.heap.size ≤ b := fun b o h => (hsub b o h).1.imp_left (hS1 b o)
      have H2 : Heap (appR st.rows us1) loc w' (orFp S (orFp SO SB)) L := Hf.widen (orFp SO SB) (fun b o h hl => (new b o h).elim (fun h => H.dis b o h hl) (fun h => by have := H.ltL b hl; omega)) (fun b o h => (hsub b o h).2)
      have hown : Dis (Owned (appR st.rows us1) loc) (orFp SO SB) := fun b o h hh => (hsub b o hh).1.elim (fun hh => (T.apart b o h).2 hh) (fun hh => by
        obtain ⟨i, x, ex, hx⟩ := h
        have := T.heap.own_lt ex hx
        omega)
      have free : ∀ k, fresh ≤ k → k < fresh + 1024 → appR st.rows us1 k = none := fun k h1 h2 => T.none k (hid k h1 h2)
      obtain ⟨loc2, P2, n2⟩ := putBack_ok (base := fresh + 512) H2 (fun k h1 h2 => free k (by omega) (by have := hf.nin; omega)) hb hlent (fun b o h => .inr (.inr h)) (fun b o h hh => hown b o h (.inr hh)) hf.inOk
      have d3 : Dis (Owned (appR (appR st.rows us1) (putBack f.ins r.2 tvs (appR st.rows us1) (fresh + 512))) loc2) SO := fun b o h hh => (P2.owned b o h).elim (fun h => hown b o h (.inl hh)) (fun h => hdis b o hh h)
      obtain ⟨loc3, P3, k3, _, _, _, _⟩ := putTys_ok (id := fresh) P2.heap (fun k h1 h2 => n2 k (free k h1 (by have := hf.nout; omega)) (.inl (by have := hf.nout; omega))) ho (fun b o h => .inr (.inl h)) (fun b h => h.elim) d3 hf.outOk
      refine Done.ext (loc' := loc3) (S' := orFp S (orFp SO SB)) ?_ ?_ (pack_ok k3) (P2.ext.trans P3.ext) (fun b o h => h.elim .inl (new b o)) (hfr.mono hS1)
      · rw [appR_append, appR_append]; exact P3.heap
      · exact noScrub.append (takeAll_ns ht) (noScrub.append (putBack_ns _ _ _ _ _) (putTys_ns _ _ _))
  · cases h

theorem callL_ok {P : Program} {st : St} {loc : Loc} {w : World} {S : Fp} {L : Nat → Prop} (H : Heap st.rows loc w S L) {fresh : Nat} (hid : ∀ k, fresh ≤ k → k < fresh + 1024 → st.rows k = none) {g : FuncId} {f : Fn} (hf : CallOk P g f) (hkd : f.kd = .lnt)
    {tvs : List TV} {args : List Value} (hv : TRels loc tvs args) {v : TV} {us : Us} (h : callL f fresh st tvs (fun v us => some (v, us)) = some (v, us)) :
    Calls P g args.toArray w fun e w' => ∃ val, e = .returned val ∧ Done st.rows loc w S L us v val w' := by
  unfold callL at h
  cases hn : noPs f.ins with
  | false => rw [hn] at h; cases h
  | true =>
  rw [hn, cond_true] at h
  split at h
  · rename_i y us1 ht
    cases hr : f.run y with
    | none => rw [hr] at h; cases h
    | some r =>
      rw [hr] at h
      simp only [Option.bind_some, Option.some.injEq, Prod.mk.injEq] at h
      obtain ⟨rfl, rfl⟩ := h
      obtain ⟨S1, T, hrel, hdl, hls⟩ := takeAllL_ok H ht hv
      refine Calls.mono (hf.calls w y args S1 L hrel hdl hls H.ltL r hr) ?_
      rintro e w' ⟨vs, SO, SB, hret, ho, hb, hdis, hsub, hfr⟩
      rw [hkd] at hret ho
      refine ⟨_, hret, ?_⟩
      have hS1 : Sub2 S1 S := Owned.mono T H
      have Hf : Heap (appR st.rows us1) loc w' S L := T.heap.frame hfr (fun i x ex b o ho hh => (T.apart b o ⟨i, x, ex, ho⟩).2 hh) (fun b hb o hh => H.dis b o (hS1 b o hh) hb)
      have new : ∀ b o, SO b o → S b o ∨ w.heap.size ≤ b := fun b o h => (hsub b o (.inl h)).1.imp_left (hS1 b o)
      have H2 : Heap (appR st.rows us1) loc w' (orFp S SO) L := Hf.widen SO (fun b o h hl => (new b o h).elim (fun h => H.dis b o h hl) (fun h => by have := H.ltL b hl; omega)) (fun b o h => (hsub b o (.inl h)).2)
      have hown : Dis (Owned (appR st.rows us1) loc) SO := fun b o h hh => (hsub b o (.inl hh)).1.elim (fun hh => (T.apart b o h).2 hh) (fun hh => by
        obtain ⟨i, x, ex, hx⟩ := h
        have := T.heap.own_lt ex hx
        omega)
      have free : ∀ k, fresh ≤ k → k < fresh + 1024 → appR st.rows us1 k = none := fun k h1 h2 => T.none k (hid k h1 h2)
      obtain ⟨loc3, P3, k3, _, _, _, _⟩ := putTys_ok (id := fresh) H2 (fun k h1 h2 => free k h1 (by have := hf.nout; omega)) ho (fun b o h => .inr h) (fun b h => h) hown hf.outOk
      refine Done.ext (loc' := loc3) (S' := orFp S SO) ?_ ?_ (pack_ok k3) P3.ext (fun b o h => h.elim .inl (new b o)) (hfr.mono hS1)
      · rw [appR_append]; exact P3.heap
      · exact noScrub.append (takeAllL_ns ht) (putTys_ns _ _ _)
  · cases h

theorem callM_ok {P : Program} {st : St} {loc : Loc} {w : World} {S : Fp} {L : Nat → Prop} (H : Heap st.rows loc w S L) {g : FuncId} {f : Fn} (hf : CallOk P g f) (hkd : f.kd = .inp)
    {tvs : List TV} {args : List Value} (hv : TRels loc tvs args) {v : TV} {us : Us} (h : callM f st tvs (fun v us => some (v, us)) = some (v, us)) :
    Calls P g args.toArray w fun e w' => ∃ val, e = .returned val ∧ Done st.rows loc w S L us v val w' := by
  unfold callM at h
  split at h
  · rename_i run kd id i k
    simp only at hkd
    subst hkd
    split at h
    · rename_i l hrow
      cases hz : run (rdE .n l i, (k, ())) with
      | none => rw [hz] at h; cases h
      | some z =>
        rw [hz] at h
        simp only [Option.bind_some, Option.some.injEq, Prod.mk.injEq] at h
        obtain ⟨rfl, rfl⟩ := h
        match args, hv with
        | [v1, v2], hv =>
          obtain ⟨h1, h2, _⟩ := hv
          obtain ⟨a, cap, len, ips, el, hi0, hi, rfl⟩ := h1
          have h2 : v2 = .int .i64 k := h2
          subst h2
          obtain ⟨a', cap', ips', el', R⟩ := H.ok id _ hrow
          rw [el] at el'
          simp only [Option.some.injEq, Pl.row.injEq, true_and] at el'
          obtain ⟨rfl, rfl, rfl, rfl⟩ := el'
          have hrd : rdE .n l i = l[i.toNat] := by simp [rdE, hi]
          have hin : InAt w true l[i.toNat] (ips i.toNat) := R.2.2.2.1 i.toNat hi
          let S1 : Fp := fun b _ => ∃ o, (ips i.toNat).a = some (b, o)
          have hS1 : Sub2 S1 S := fun b o ⟨o', e⟩ => H.inS id _ hrow b o ⟨_, _, _, _, ips, el, .inr ⟨rfl, i.toNat, hi, o', e⟩⟩
          refine Calls.mono (hf.calls w (rdE .n l i, (k, ())) [slV (ips i.toNat).a (ips i.toNat).q (ips i.toNat).len (ips i.toNat).cap, .int .i64 k] S1 (fun _ => False) ⟨S1, noFp, ⟨(ips i.toNat).a, (ips i.toNat).cap, ⟨fun _ => ⟨none, 0, 0, none⟩, (ips i.toNat).q⟩, by rw [hrd, ← hin.1], by rw [hrd]; exact hin.row, fun b hb o => ?_⟩, ⟨noFp, noFp, rfl, trivial, fun _ _ h => h.elim, fun _ _ h => h, fun _ _ h => h⟩, fun _ _ _ h => h, fun _ _ h => h, fun _ _ h => h.elim⟩ (fun _ _ _ h => h) (fun b o h => H.ltS b o (hS1 b o h)) (fun _ h => h.elim) z hz) ?_
          · rcases hb with ⟨o, h⟩ | ⟨h, _⟩
            · exact ⟨o, h⟩
            · cases h
          · rintro e w' ⟨vs, SO, SB, ⟨v0, v1, as, hargs, rfl, rfl⟩, ho, hb, hdis, hsub, hfr⟩
            simp only [List.cons.injEq] at hargs
            obtain ⟨rfl, rfl⟩ := hargs
            obtain ⟨Sa, Sb, hn, ⟨Sc, Sd, hl, _⟩, _⟩ := ho
            have hn : v0 = .int .i64 z.1.1 := hn
            subst hn
            obtain ⟨a2, cap2, ips2, ev, R2, _⟩ := hl
            obtain ⟨e1, e2, e3⟩ := slV_inj ev (fun h => (hin.2.2.1 h).2) (fun h => (R2.2.1 h).2)
            have i2 := InAt_of R2
            refine ⟨_, rfl, loc, S, ?_, rfl, fun x u h => h.scrub, fun _ _ h => .inl h, hfr.mono hS1⟩
            simp only [appR]
            refine inner_ok (S1 := S1) H hrow el hi ?_ (fun _ _ h => h) hfr
            obtain ⟨j1, j2, j3, j4⟩ := i2
            exact ⟨e2.symm, by rw [← e3]; exact j2, hin.2.2.1, fun b o e => by rw [← e1] at e; rw [← e3]; exact j4 b o e⟩
    · cases h
  · rename_i t t' run kd tv k _
    simp only at hkd
    subst hkd
    cases hn : t.noP with
    | false => rw [hn] at h; cases h
    | true =>
      rw [hn, cond_true] at h
      split at h
      · rename_i y us1 ht
        cases hz : run y with
        | none => rw [hz] at h; cases h
        | some z =>
          rw [hz] at h
          simp only [Option.bind_some] at h
          split at h
          · rename_i b hb
            simp only [Option.some.injEq, Prod.mk.injEq] at h
            obtain ⟨rfl, rfl⟩ := h
            obtain ⟨S1, L1, T, hrel, hdl, hls, hll, hlent⟩ := takeAll_ok H ht hv
            refine Calls.mono (hf.calls w y args S1 L1 hrel hdl hls hll z hz) ?_
            rintro e w' ⟨vs, SO, SB, ⟨v0, v1, as, rfl, rfl, rfl⟩, ho, hbk, hdis, hsub, hfr⟩
            obtain ⟨Sa, Sb, hn, ⟨Sc, Sd, hl, _, _, hsc, _⟩, _, _, hsb⟩ := ho
            have hn : v0 = .int .i64 z.1.1 := hn
            subst hn
            have hS1 : Sub2 S1 S := Owned.mono T H
            have Hf : Heap (appR st.rows us1) loc w' S L := T.heap.frame hfr (fun i x ex b o ho hh => (T.apart b o ⟨i, x, ex, ho⟩).2 hh) (fun b hb o hh => H.dis b o (hS1 b o hh) hb)
            have new : ∀ b o, SO b o → S b o ∨ w.heap.size ≤ b := fun b o h => (hsub b o (.inl h)).1.imp_left (hS1 b o)
            have H2 : Heap (appR st.rows us1) loc w' (orFp S SO) L := Hf.widen SO (fun b o h hl => (new b o h).elim (fun h => H.dis b o h hl) (fun h => by have := H.ltL b hl; omega)) (fun b o h => (hsub b o (.inl h)).2)
            have hown : Dis (Owned (appR st.rows us1) loc) SO := fun b o h hh => (hsub b o (.inl hh)).1.elim (fun hh => (T.apart b o h).2 hh) (fun hh => by
              obtain ⟨i, x, ex, hx⟩ := h
              have := T.heap.own_lt ex hx
              omega)
            obtain ⟨loc2, T2⟩ := backT_ok H (.refl loc) H2 hb hv.1 hl (fun b o h => .inr (hsb b o (hsc b o h))) (fun b o h k => hown b o h (hsb b o (hsc b o k)))
            refine ⟨_, rfl, loc2, orFp S SO, ?_, rfl, ?_, fun b o h => h.elim .inl (new b o), hfr.mono hS1⟩
            · rw [appR_append]; exact T2.heap
            · refine T2.keep _ fun i hi => ?_
              rw [scrubs_append]
              exact List.mem_append_right _ hi
          · cases h
      · cases h
  · cases h

theorem undefs_rels {loc : Loc} : ∀ {ts : List LT} {cs : List Value}, cs.length = ts.length → oneCells cs → Rels loc (undefs ts) cs
  | [], [], _, _ => trivial
  | [], _ :: _, h, _ => by simp at h
  | _ :: _, [], h, _ => by simp at h
  | _ :: ts, c :: cs, h, k => ⟨k.1, undefs_rels (by simpa using h) k.2⟩

theorem callY_ok {P : Program} {st : St} {loc : Loc} {w : World} {S : Fp} {L : Nat → Prop} (H : Heap st.rows loc w S L) {fresh : Nat} (hid : ∀ k, fresh ≤ k → k < fresh + 1024 → st.rows k = none) {g : FuncId} {f : Fn} (hf : CallOk P g f) (hkd : f.kd = .may)
    {tvs : List TV} {args : List Value} (hv : TRels loc tvs args) {v : TV} {us : Us} (h : callY f fresh st tvs (fun v us => some (v, us)) = some (v, us)) :
    Calls P g args.toArray w fun e w' => ∃ val, e = .returned val ∧ Done st.rows loc w S L us v val w' := by
  unfold callY at h
  split at h
  · rename_i ins ts run kd
    simp only at hkd
    subst hkd
    cases hn : noPs ins with
    | false => rw [hn] at h; cases h
    | true =>
    rw [hn, cond_true] at h
    split at h
    · rename_i y us1 ht
      cases hr : run y with
      | none => rw [hr] at h; cases h
      | some r =>
        rw [hr] at h
        simp only [Option.bind_some] at h
        obtain ⟨S1, L1, T, hrel, hdl, hls, hll, hlent⟩ := takeAll_ok H ht hv
        refine Calls.mono (hf.calls w y args S1 L1 hrel hdl hls hll r hr) ?_
        rintro e w' ⟨vs, SO, SB, hret, ⟨cs, rfl, hlen, hone, hls2⟩, hb, hdis, hsub, hfr⟩
        refine ⟨_, hret, ?_⟩
        have hS1 : Sub2 S1 S := Owned.mono T H
        have Hf : Heap (appR st.rows us1) loc w' S L := T.heap.frame hfr (fun i x ex b o ho hh => (T.apart b o ⟨i, x, ex, ho⟩).2 hh) (fun b hb o hh => H.dis b o (hS1 b o hh) hb)
        cases hbool : r.1.2.1 with
        | false =>
          rw [hbool] at h
          simp only [cond_false, Option.some.injEq, Prod.mk.injEq] at h
          obtain ⟨rfl, rfl⟩ := h
          refine Done.ext (loc' := loc) (S' := S) Hf (takeAll_ns ht) ?_ (.refl _) (fun b o h => .inl h) (hfr.mono hS1)
          exact ⟨[.agg cs.toArray, .bool false], rfl, ⟨cs, rfl, undefs_rels hlen hone⟩, rfl, trivial⟩
        | true =>
          rw [hbool] at h
          simp only [cond_true, Option.some.injEq, Prod.mk.injEq] at h
          obtain ⟨rfl, rfl⟩ := h
          have hls3 := hls2 hbool
          have new : ∀ b o, SO b o → S b o ∨ w.heap.size ≤ b := fun b o h => (hsub b o (.inl h)).1.imp_left (hS1 b o)
          have H2 : Heap (appR st.rows us1) loc w' (orFp S SO) L := Hf.widen SO (fun b o h hl => (new b o h).elim (fun h => H.dis b o h hl) (fun h => by have := H.ltL b hl; omega)) (fun b o h => (hsub b o (.inl h)).2)
          have hown : Dis (Owned (appR st.rows us1) loc) SO := fun b o h hh => (hsub b o (.inl hh)).1.elim (fun hh => (T.apart b o h).2 hh) (fun hh => by
            obtain ⟨i, x, ex, hx⟩ := h
            have := T.heap.own_lt ex hx
            omega)
          have hts : ts.length ≤ 63 := hf.outOk.1
          have free : ∀ k, fresh ≤ k → k < fresh + 1024 → appR st.rows us1 k = none := fun k h1 h2 => T.none k (hid k h1 h2)
          obtain ⟨loc3, P3, k3, _, _, _, _, _⟩ := putLs_ok (id := fresh) H2 (fun k h1 h2 => free k h1 (by omega)) hls3 (fun b o h => .inr h) (fun b h => h.elim) hown
          refine Done.ext (loc' := loc3) (S' := orFp S SO) ?_ ?_ ?_ P3.ext (fun b o h => h.elim .inl (new b o)) (hfr.mono hS1)
          · rw [appR_append]; exact P3.heap
          · exact noScrub.append (takeAll_ns ht) (putLs_ns _ _ _)
          · exact ⟨[.agg cs.toArray, .bool true], rfl, ⟨cs, rfl, k3⟩, rfl, trivial⟩
    · cases h
  · cases h

theorem callF_ok {P : Program} {st : St} {loc : Loc} {w : World} {S : Fp} {L : Nat → Prop} (H : Heap st.rows loc w S L) {fresh : Nat} (hid : ∀ k, fresh ≤ k → k < fresh + 1024 → st.rows k = none) {g : FuncId} {f : Fn} (hf : CallOk P g f)
    {tvs : List TV} {args : List Value} (hv : TRels loc tvs args) {v : TV} {us : Us} (h : callX f fresh st tvs (fun v us => some (v, us)) = some (v, us)) :
    Calls P g args.toArray w fun e w' => ∃ val, e = .returned val ∧ Done st.rows loc w S L us v val w' := by
  unfold callX at h
  cases hk : f.kd with
  | nor => rw [hk] at h; exact callF_ok' H hid hf hk hv h
  | inp => rw [hk] at h; exact callM_ok H hf hk hv h
  | lnt => rw [hk] at h; exact callL_ok H hid hf hk hv h
  | may => rw [hk] at h; exact callY_ok H hid hf hk hv h

/-- any operation -/
theorem op_ok {env : Env} {st : St} {loc : Loc} {a : Act} {w : World} {S : Fp} {L : Nat → Prop} (hE : ∀ g f, env.fns g = some f → CallOk env.prog g f) (H : Heap st.rows loc w S L) (ht : ∀ t, TRel loc (st.tmps t) (a.tmps.getD t undef))
    {fresh : Nat} (hid : ∀ k, fresh ≤ k → k < fresh + 1024 → st.rows k = none) {o : Oper} {v : TV} {us : Us} (h : opRes env fresh o.op st = some (v, us)) {next : Act → World → Prop} {Q : Exit → Act → World → Prop}
    (hn : ∀ val w', Done st.rows loc w S L us v val w' → next (a.put o.dst val) w') : o.wp env.prog a w next Q := by
  have ev := fun x => ev_ok ht x
  have hid0 : st.rows fresh = none := hid fresh (Nat.le_refl _) (by omega)
  have fin : (∃ val w', OpRun env.prog a o w val w' ∧ Done st.rows loc w S L us v val w') → o.wp env.prog a w next Q := by
    rintro ⟨val, w', hr | ⟨hr, rfl⟩, hd⟩
    · unfold Oper.wp; rw [hr]; exact hn val w' hd
    · unfold Oper.wp; rw [hr]; exact hn undef w' hd
  have d : ∀ {op : Op}, o.op = op → opRes env fresh op st = fetched (fun v us => some (v, us)) (fetch env.prog fresh st op) → opRes env fresh op st = some (v, us) → o.wp env.prog a w next Q := fun {op} ho e h => by
    rw [e] at h
    obtain ⟨f, hf, hc, hk⟩ := fetched_some h
    simp only [Option.some.injEq, Prod.mk.injEq] at hk
    obtain ⟨rfl, rfl⟩ := hk
    exact fin (fetch_ok H ht hid0 ho hf hc)
  cases hop : o.op with
  | pick c x y =>
    rw [hop] at h
    simp only [opRes, tevOp] at h
    split at h
    · rename_i b e
      have hc := ev c
      rw [e] at hc
      have hc : a.eval c = .bool b := hc
      refine fin ⟨if b then a.eval x else a.eval y, w, .inl ?_, ?_⟩
      · simp only [execOp, hop, hc]
        simp [asBool]
      · cases b with
        | true => simp only [cond_true, Option.some.injEq, Prod.mk.injEq] at h; obtain ⟨rfl, rfl⟩ := h; exact Done.quiet H (ev x)
        | false => simp only [cond_false, Option.some.injEq, Prod.mk.injEq] at h; obtain ⟨rfl, rfl⟩ := h; exact Done.quiet H (ev y)
    · cases h
  | call c =>
    rw [hop] at h
    simp only [opRes, tevOp] at h
    have hargs : TRels loc (evs st c.args.toList) (c.args.toList.map a.eval) := evs_ok ht _
    split at h
    · rename_i x hcal
      split at h
      · rename_i g e
        split at h
        · rename_i f hf
          have hx := ev x
          rw [e] at hx
          have hx : a.eval x = .func (.func g) #[] #[] := hx
          have hok := hE g f hf
          obtain ⟨fn, h1, h2, h3⟩ := hok.enters
          have hrun : (execOp a.eval o).run env.prog w = .ok (.enter g (c.args.map a.eval)) w := by
            simp only [execOp, hop, resolve, hcal, hx, Deferred.ofValue, Sem.run_bind, Sem.run_pure, Result.andThen_ok, invoke, callFunc, run_program, h1]
            simp [h2, h3]
          unfold Oper.wp
          rw [hrun, Oper.upon_enter]
          have := callF_ok H hid hok hargs h
          have he : (c.args.toList.map a.eval).toArray = c.args.map a.eval := by apply Array.ext'; simp
          rw [he] at this
          refine Calls.mono this ?_
          rintro e w' ⟨val, rfl, hd⟩
          exact hn val w' hd
        · cases h
      · cases h
    · rename_i b hcal
      obtain ⟨f, hf, hc, hk⟩ := fetched_some h
      simp only [Option.some.injEq, Prod.mk.injEq] at hk
      obtain ⟨rfl, rfl⟩ := hk
      obtain ⟨val, w', hr, hd⟩ := fetchB_ok (ty := o.type) (cst := c.args.map fun | .const _ => true | _ => false) (args := c.args.map a.eval) H hid0 (by simpa using hargs) hf hc
      refine fin ⟨val, w', .inl ?_, hd⟩
      simp only [execOp, hop, resolve, hcal, Sem.run_bind, Sem.run_pure, Result.andThen_ok, invoke]
      exact hr
    · cases h
  | _ => rw [hop] at h; exact d hop rfl h

end Go.Tev
