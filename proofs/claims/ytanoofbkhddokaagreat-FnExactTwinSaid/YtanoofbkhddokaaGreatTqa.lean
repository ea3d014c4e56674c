/- An evaluator of Go functions on plain values: arguments that are turned in place. No condition beyond those that each lemma states. -/
import Derived.Test.YtanoofbkhddokaaGreatTp
set_option linter.unusedSimpArgs false
set_option linter.unusedVariables false
namespace Go.Tev

theorem SRel.scrub {loc : Loc} {ks : List Nat} {x : SV} {v : Value} (h : SRel loc x v) : SRel loc (scrubS ks x) v := by
  cases x <;> simp only [scrubS] <;> first
    | exact h
    | (cases hm : memN _ ks with
       | true =>
         rw [cond_true]
         simp only [SRel] at h ⊢
         first
           | (obtain ⟨_, _, _, _, _, _, _, _, _, _, _, _, rfl⟩ := h; rfl)
           | (obtain ⟨_, _, _, _, _, _, _, rfl⟩ := h; rfl)
           | (obtain ⟨_, _, _, _, _, _, _, _, _, rfl⟩ := h; rfl)
       | false => rw [cond_false]; exact h)

theorem scrubS_idem (ks : List Nat) (x : SV) : scrubS ks (scrubS ks x) = scrubS ks x := by
  cases x <;> simp only [scrubS] <;> first
    | rfl
    | (cases hm : memN _ ks with
       | true => rw [cond_true]
       | false => rw [cond_false]; simp only [scrubS, hm, cond_false])

theorem slV_inj {a a' : Option (Nat × Nat)} {q q' : Option Addr} {n n' c c' : Nat} (h : slV a q n c = slV a' q' n' c') (ho : a = none → OddQ q) (ho' : a' = none → OddQ q') : a' = a ∧ n' = n ∧ c' = c := by
  simp only [slV, Value.slice.injEq] at h
  refine ⟨?_, h.2.1.symm, h.2.2.symm⟩
  have h1 := h.1
  cases a with
  | none =>
    cases a' with
    | none => rfl
    | some p =>
      simp only [pt] at h1
      rcases ho rfl with e | ⟨s, e, hs⟩
      · rw [e] at h1; cases h1
      · rw [e] at h1; simp only [Option.some.injEq] at h1; subst h1; cases hs
  | some p =>
    cases a' with
    | none =>
      simp only [pt] at h1
      rcases ho' rfl with e | ⟨s, e, hs⟩
      · rw [e] at h1; cases h1
      · rw [e] at h1; simp only [Option.some.injEq] at h1; subst h1; cases hs
    | some p' =>
      simp only [pt, Option.some.injEq, adr, Addr.mk.injEq, and_true] at h1
      obtain ⟨b, o⟩ := p
      obtain ⟨b', o'⟩ := p'
      obtain ⟨rfl, rfl⟩ := h1
      rfl

/-- a row reads alike at another's places, if it has no inner ones -/
theorem RowAt.ips {w : World} {ow : Bool} {e : E} {a : Option (Nat × Nat)} {cap : Nat} {l : List e.C} {ips ips2 : Ips} (h : RowAt w ow e a cap l ips) (he : e ≠ .n) (hq : a = none → OddQ ips2.q) : RowAt w ow e a cap l ips2 := by
  obtain ⟨h1, h2, h3, h4⟩ := h
  refine ⟨h1, fun hn => ⟨(h2 hn).1, hq hn⟩, fun b o ea => ⟨fun i hi j hj => ?_, (h3 b o ea).2⟩, ?_⟩
  · rw [(h3 b o ea).1 i hi j hj]
    cases e <;> first | rfl | exact absurd rfl he
  · cases e <;> first | trivial | exact absurd rfl he

theorem RowAt.q {w : World} {ow : Bool} {e : E} {a : Option (Nat × Nat)} {cap : Nat} {l : List e.C} {ips : Ips} {q : Option Addr} (h : RowAt w ow e a cap l ips) (hq : a = none → OddQ q) : RowAt w ow e a cap l ⟨ips.f, q⟩ := by
  obtain ⟨h1, h2, h3, h4⟩ := h
  refine ⟨h1, fun hn => ⟨(h2 hn).1, hq hn⟩, h3, ?_⟩
  cases e <;> exact h4

/-- what a row reads under other places -/
theorem RowOk.turn {loc loc' : Loc} {w : World} {j : Nat} {z : Row} (hm : ∀ x u, okS x = true → SRel loc x u → SRel loc' x u) (hl : loc' j = loc j) (h : RowOk w loc j z) : RowOk w loc' j z := by
  have cell : ∀ b o y, CellOk w loc b o y → CellOk w loc' b o y := fun b o y h => by
    cases y <;> first
      | trivial
      | (obtain ⟨k3, v, k4, k5, k6⟩ := h; exact ⟨k3, v, k4, hm _ _ k3 k5, k6⟩)
  cases z with
  | dead => trivial
  | scrub => trivial
  | box cs => obtain ⟨b, o, e, k1, k2⟩ := h; exact ⟨b, o, by rw [hl]; exact e, k1, fun q hq => cell _ _ _ (k2 q hq)⟩
  | rbox cs => obtain ⟨b, o, e, k2⟩ := h; exact ⟨b, o, by rw [hl]; exact e, fun q hq => cell _ _ _ (k2 q hq)⟩
  | row ow e l => obtain ⟨a, c, p, e, k⟩ := h; exact ⟨a, c, p, by rw [hl]; exact e, k⟩

/-- places that differ in inner rows alone -/
def Like (loc0 loc : Loc) : Prop := ∀ id a cap len e ips, loc0 id = some (.row a cap len e ips) → ∃ ips', loc id = some (.row a cap len e ips') ∧ ips'.q = ips.q ∧ (e ≠ .n → ips' = ips)

theorem Like.refl (loc : Loc) : Like loc loc := fun id a cap len e ips h => ⟨ips, h, rfl, fun _ => rfl⟩
theorem Like.trans {a b c : Loc} (h : Like a b) (k : Like b c) : Like a c := fun id x cap len e ips hh => by
  obtain ⟨ips1, e1, q1, n1⟩ := h id x cap len e ips hh
  obtain ⟨ips2, e2, q2, n2⟩ := k id x cap len e ips1 e1
  exact ⟨ips2, e2, q2.trans q1, fun hn => (n2 hn).trans (n1 hn)⟩

structure Turned (rows : Rows) (us : Us) (loc loc' : Loc) (w : World) (S : Fp) (L : Nat → Prop) (S1 : Fp) : Prop where
  heap : Heap (appR rows us) loc' w S L
  like : Like loc loc'
  keep : ∀ ks, (∀ i, i ∈ scrubs us → i ∈ ks) → ∀ x u, SRel loc x u → SRel loc' (scrubS ks x) u
  owned : ∀ b o, Owned (appR rows us) loc' b o → Owned rows loc b o ∨ S1 b o

theorem Turned.refl {rows : Rows} {loc : Loc} {w : World} {S : Fp} {L : Nat → Prop} (H : Heap rows loc w S L) (S1 : Fp) : Turned rows [] loc loc w S L S1 :=
  ⟨H, .refl _, fun _ _ _ _ h => h.scrub, fun _ _ h => .inl h⟩

theorem backL_ok {rows0 rows : Rows} {loc0 loc : Loc} {w0 w : World} {S0 S S1 : Fp} {L0 L : Nat → Prop} (H0 : Heap rows0 loc0 w0 S0 L0) (K : Like loc0 loc) (H : Heap rows loc w S L) {t : LT} {x : t.D} {sv : SV} {v : Value} {us : Us}
    (h : backL rows0 t x sv = some us) (hv : SRel loc0 sv v) (hr : LfRel w t x v S1 (fun _ => False)) (hS : Sub2 S1 S) (hd : Dis (Owned rows loc) S1) : ∃ loc', Turned rows us loc loc' w S L S1 := by
  cases t with
  | sl ow e =>
    cases ow with
    | false => simp only [backL] at h; cases h
    | true =>
      cases sv <;> simp only [backL] at h <;> first | (cases h; done) | skip
      · simp only [Option.some.injEq] at h; subst h; exact ⟨loc, .refl H _⟩
      · rename_i id
        split at h
        · rename_i e' l0 hrow
          cases hs : E.same e e' with
          | false => rw [hs] at h; cases h
          | true =>
            rw [hs, cond_true] at h
            have he : e = e' := by cases e <;> cases e' <;> first | rfl | (simp [E.same] at hs)
            subst he
            simp only [Option.some.injEq] at h
            subst h
            obtain ⟨a, cap, ips, el, R0⟩ := H0.ok id _ hrow
            obtain ⟨a1, cap1, len1, e1, ips1, el1, rfl⟩ := hv
            rw [el] at el1
            simp only [Option.some.injEq, Pl.row.injEq] at el1
            obtain ⟨rfl, rfl, rfl, rfl, rfl⟩ := el1
            obtain ⟨a', cap', ips', ev, R, B⟩ := hr
            obtain ⟨rfl, hlen, rfl⟩ := slV_inj ev (fun h => (R0.2.1 h).2) (fun h => (R.2.1 h).2)
            obtain ⟨ips2, el2, hq2, hn2⟩ := K id _ _ _ _ _ el
            have hodd : a' = none → OddQ ips.q := fun h => (R0.2.1 h).2
            by_cases hn : e = .n
            · subst hn
              have e0 : appR rows (scr .n id ++ [(id, .row true .n x)]) = updR rows id (.row true .n x) := appR_scrub rows [] id (.row true .n x)
              let ips3 : Ips := ⟨ips'.f, ips2.q⟩
              have el3 : updL loc id (.row a' cap' l0.length .n ips3) id = some (.row a' cap' l0.length .n ips3) := updL_self _ _ _
              have hkeep : ∀ ks, id ∈ ks → ∀ x u, SRel loc x u → SRel (updL loc id (.row a' cap' l0.length .n ips3)) (scrubS ks x) u := fun ks hk x u h =>
                SRel.inner el2 el3 rfl (fun j hj => updL_other _ _ hj) hk h
              have hown : ∀ b o, own (updL loc id (.row a' cap' l0.length .n ips3)) id (.row true .n x) b o → S1 b o := by
                rintro b o ⟨a0, c0, n0, e0, p0, e1, hp⟩
                rw [el3] at e1
                simp only [Option.some.injEq, Pl.row.injEq] at e1
                obtain ⟨rfl, rfl, rfl, rfl, rfl⟩ := e1
                refine B b ?_ o
                rw [hlen]
                exact hp
              refine ⟨updL loc id (.row a' cap' l0.length .n ips3), ?_, fun j a cap len e ips hj => ?_, fun ks hk => hkeep ks (hk id (by simp [scrubs_append, scr, scrubs])), ?_⟩
              · rw [e0]
                refine H.upd id _ (fun j hj => updL_other _ _ hj) (fun j z hj ez => (H.ok j z ez).turn (fun y u hy hr => ?_) (updL_other _ _ hj)) ⟨a', cap', ips3, by rw [hlen]; exact el3, RowAt.q R (by rw [hq2]; exact hodd)⟩ (fun j z hj ez b o h1 h2 => hd b o ⟨j, z, ez, h1⟩ (hown b o h2)) (fun _ _ h => h)
                  (fun b o h => hS b o (hown b o h)) (fun _ h => h.elim) H.dis H.ltS
                have := hkeep [id] (List.mem_singleton.2 rfl) y u hr
                rwa [scrubS_ok hy] at this
              · by_cases hji : j = id
                · subst hji
                  rw [el2] at hj
                  simp only [Option.some.injEq, Pl.row.injEq] at hj
                  obtain ⟨rfl, rfl, rfl, rfl, rfl⟩ := hj
                  exact ⟨ips3, el3, rfl, fun h => absurd rfl h⟩
                · exact ⟨ips, by rw [updL_other _ _ hji]; exact hj, rfl, fun _ => rfl⟩
              · rintro b o ⟨j, z, ez, hz⟩
                rw [e0] at ez
                by_cases hji : j = id
                · subst hji; rw [updR_self] at ez; cases ez; exact .inr (hown b o hz)
                · rw [updR_other _ _ hji] at ez
                  rw [own_congr (updL_other loc _ hji)] at hz
                  exact .inl ⟨j, z, ez, hz⟩
            · have e0 : scr e id ++ [(id, .row true e x)] = [(id, .row true e x)] := by cases e <;> first | rfl | exact absurd rfl hn
              have hi := hn2 hn
              subst hi
              have hown : ∀ b o, own loc id (.row true e x) b o → S1 b o := by
                rintro b o ⟨a0, c0, n0, e0, p0, e1, hp⟩
                rw [el2] at e1
                simp only [Option.some.injEq, Pl.row.injEq] at e1
                obtain ⟨rfl, rfl, rfl, rfl, rfl⟩ := e1
                refine B b ?_ o
                rcases hp with hp | ⟨he, _⟩
                · exact .inl hp
                · exact absurd he hn
              rw [e0]
              refine ⟨loc, ?_, .refl _, fun ks _ y u h => h.scrub, ?_⟩
              · simp only [appR]
                exact H.upd id _ (fun _ _ => rfl) (fun j y _ e => H.ok j y e) ⟨a', cap', ips2, by rw [hlen]; exact el2, RowAt.ips R hn hodd⟩ (fun j z hj ez b o h1 h2 => hd b o ⟨j, z, ez, h1⟩ (hown b o h2)) (fun _ _ h => h)
                  (fun b o h => hS b o (hown b o h)) (fun _ h => h.elim) H.dis H.ltS
              · rintro b o ⟨j, z, ez, hz⟩
                simp only [appR] at ez
                by_cases hji : j = id
                · subst hji; rw [updR_self] at ez; cases ez; exact .inr (hown b o hz)
                · rw [updR_other _ _ hji] at ez
                  exact .inl ⟨j, z, ez, hz⟩
        · cases h
  | mb e => simp only [backL] at h; cases h
  | _ => simp only [backL, Option.some.injEq] at h; subst h; exact ⟨loc, .refl H _⟩

theorem Turned.trans {rows : Rows} {us us' : Us} {l0 l1 l2 : Loc} {w : World} {S S1 S2 S3 : Fp} {L : Nat → Prop} (h : Turned rows us l0 l1 w S L S1) (k : Turned (appR rows us) us' l1 l2 w S L S2) (h1 : Sub2 S1 S3) (h2 : Sub2 S2 S3) : Turned rows (us ++ us') l0 l2 w S L S3 := by
  refine ⟨by rw [appR_append]; exact k.heap, h.like.trans k.like, fun ks hk x u hr => ?_, fun b o hb => ?_⟩
  · rw [scrubs_append] at hk
    have := k.keep ks (fun i hi => hk i (List.mem_append_right _ hi)) _ _ (h.keep ks (fun i hi => hk i (List.mem_append_left _ hi)) x u hr)
    rwa [scrubS_idem] at this
  · rw [appR_append] at hb
    exact (k.owned b o hb).elim (fun hb => (h.owned b o hb).imp_right (h1 b o)) (fun hb => .inr (h2 b o hb))

theorem backLs_ok {rows0 : Rows} {loc0 : Loc} {w0 w : World} {S0 S : Fp} {L0 L : Nat → Prop} (H0 : Heap rows0 loc0 w0 S0 L0) : ∀ {ts : List LT} {x : Tup ts} {svs : List SV} {vs : List Value} {us : Us} {rows : Rows} {loc : Loc} {S1 : Fp} (_ : Like loc0 loc) (_ : Heap rows loc w S L)
    (_ : backLs rows0 ts x svs = some us) (_ : Rels loc0 svs vs) (_ : LsRel w ts x vs S1 (fun _ => False)) (_ : Sub2 S1 S) (_ : Dis (Owned rows loc) S1), ∃ loc', Turned rows us loc loc' w S L S1
  | [], _, [], vs, us, rows, loc, S1, _, H, h, _, _, _, _ => by simp only [backLs, Option.some.injEq] at h; subst h; exact ⟨loc, .refl H _⟩
  | [], _, _ :: _, _, _, _, _, _, _, _, h, _, _, _, _ => by simp only [backLs] at h; cases h
  | _ :: _, _, [], _, _, _, _, _, _, _, h, _, _, _, _ => by simp only [backLs] at h; cases h
  | _ :: _, _, _ :: _, [], _, _, _, _, _, _, _, hv, _, _, _ => hv.elim
  | t :: ts, x, sv :: svs, v :: vs, us, rows, loc, S1, K, H, h, hv, hr, hS, hd => by
    simp only [backLs] at h
    split at h
    · rename_i a ha
      split at h
      · rename_i b hb
        simp only [Option.some.injEq] at h
        subst h
        obtain ⟨Sa, Sb, r1, r2, dab, sa, sb⟩ := hr
        obtain ⟨l1, T1⟩ := backL_ok H0 K H ha hv.1 r1 (fun b o h => hS b o (sa b o h)) (fun b o h k => hd b o h (sa b o k))
        obtain ⟨l2, T2⟩ := backLs_ok H0 (K.trans T1.like) T1.heap hb hv.2 r2 (fun b o h => hS b o (sb b o h)) (fun b o h k => (T1.owned b o h).elim (fun h => hd b o h (sb b o k)) (fun h => dab b o h k))
        exact ⟨l2, T1.trans T2 sa sb⟩
      · cases h
    · cases h

theorem backT_ok {rows0 : Rows} {loc0 : Loc} {w0 w : World} {S0 S S1 : Fp} {L0 L : Nat → Prop} (H0 : Heap rows0 loc0 w0 S0 L0) {t : Ty} {x : t.D} {tv : TV} {v : Value} {us : Us} {rows : Rows} {loc : Loc} (K : Like loc0 loc) (H : Heap rows loc w S L)
    (h : backT rows0 t x tv = some us) (hv : TRel loc0 tv v) (hr : TyRel w t x v S1 (fun _ => False)) (hS : Sub2 S1 S) (hd : Dis (Owned rows loc) S1) : ∃ loc', Turned rows us loc loc' w S L S1 := by
  cases t with
  | v t =>
    cases tv with
    | tup l => simp only [backT] at h; cases h
    | c c => cases c with
      | agg l => simp only [backT] at h; cases h
      | s sv =>
        by_cases hu : sv = .undef
        · subst hu
          cases t with
          | sl ow e => cases ow <;> (simp only [backT, backL] at h; cases h)
          | mb e => simp only [backT, backL] at h; cases h
          | _ => simp only [backT, backL, Option.some.injEq] at h; subst h; exact ⟨loc, .refl H _⟩
        · exact backL_ok H0 K H h (by cases sv <;> first | exact hv | exact absurd rfl hu) hr hS hd
  | a ts =>
    cases tv with
    | tup l => simp only [backT] at h; cases h
    | c c => cases c with
      | s y => simp only [backT] at h; cases h
      | agg l =>
        obtain ⟨cs, rfl, hrel⟩ := hv
        obtain ⟨cs', e, r⟩ := hr
        have : cs' = cs := by
          simp only [Value.agg.injEq] at e
          have := congrArg Array.toList e
          simpa using this.symm
        subst this
        exact backLs_ok H0 K H h hrel r hS hd
  | p ts => simp only [backT] at h; cases h
  | r ts => simp only [backT] at h; cases h

/-- an inner slice as a row of its own -/
theorem InAt.row {w : World} {l : List Int} {p : IP} (h : InAt w true l p) : RowAt w true .i p.a p.cap l ⟨fun _ => ⟨none, 0, 0, none⟩, p.q⟩ := by
  obtain ⟨g1, g2, g3, g4⟩ := h
  refine ⟨g2, g3, fun b o ea => ⟨fun j hj j' hj' => ?_, fun ho => by simpa [E.sz] using (g4 b o ea).2 ho⟩, trivial⟩
  obtain rfl : j' = 0 := by simp [E.sz] at hj'; exact hj'
  have := (g4 b o ea).1 j hj
  simpa only [E.sz, Nat.mul_one, Nat.add_zero, elV] using this

/-- an inner slice was turned in place -/
theorem inner_ok {rows : Rows} {loc : Loc} {w w' : World} {S S1 : Fp} {L : Nat → Prop} (H : Heap rows loc w S L) {id : Nat} {l : List (List Int)} (hr : rows id = some (.row true .n l)) {a : Option (Nat × Nat)} {cap : Nat} {ips : Ips} (el : loc id = some (.row a cap l.length .n ips))
    {i : Nat} (hi : i < l.length) {l' : List Int} (hin : InAt w' true l' (ips i)) (hs : ∀ b o, S1 b o → ∃ o', (ips i).a = some (b, o')) (hf : Frame S1 w w') : Heap (updR rows id (.row true .n (l.set i l'))) loc w' S L := by
  obtain ⟨a', cap', ips', el', R⟩ := H.ok id _ hr
  rw [el] at el'
  simp only [Option.some.injEq, Pl.row.injEq, true_and] at el'
  obtain ⟨rfl, rfl, rfl⟩ := el'
  obtain ⟨r1, r2, r3, r4, r5⟩ := R
  have r5 := r5 rfl
  have hsub : ∀ b o, S1 b o → own loc id (.row true .n l) b o := fun b o h => by
    obtain ⟨o', e⟩ := hs b o h
    exact ⟨_, _, _, _, ips, el, .inr ⟨rfl, i, hi, o', e⟩⟩
  have H1 : Heap (updR rows id .dead) loc w' S L := (H.kill id).frame hf (fun j z ez b o hz h => by
    by_cases hj : j = id
    · subst hj; rw [updR_self] at ez; cases ez; exact hz.elim
    · rw [updR_other _ _ hj] at ez
      exact H.sep j id z _ hj ez hr b o hz (hsub b o h)) (fun b hb o h => H.dis b o (H.inS id _ hr b o (hsub b o h)) hb)
  have eset : (l.set i l').length = l.length := by simp
  have hown : ∀ b o, own loc id (.row true .n (l.set i l')) b o → own loc id (.row true .n l) b o := fun b o h => h
  have hout : ∀ b o, a = some (b, o) → ∀ o', ¬ S1 b o' := fun b o ea o' h => by
    obtain ⟨o2, e⟩ := hs b o' h
    exact r5.2 i hi b o2 e (by rw [ea]; rfl)
  rw [show updR rows id (.row true .n (l.set i l')) = updR (updR rows id .dead) id (.row true .n (l.set i l')) from (updR_updR rows id .dead _).symm]
  refine H1.upd id _ (fun _ _ => rfl) (fun j y _ e => H1.ok j y e) ⟨a, cap, ips, by rw [eset]; exact el, by rw [eset]; exact r1, r2, fun b o ea => ⟨fun k hk j hj => ?_, fun ho => hf.ownB ((r3 b o ea).2 ho)⟩, ?_, fun _ => ⟨?_, ?_⟩⟩ (fun j z hj ez b o h1 h2 => ?_) (fun _ _ h => h)
    (fun b o h => H.inS id _ hr b o (hown b o h)) (fun _ h => h.elim) H.dis H1.ltS
  · have hk' : k < l.length := by simpa using hk
    rw [hf.cell (cell_lt ((r3 b o ea).1 k hk' j hj)) (hout b o ea _)]
    exact (r3 b o ea).1 k hk' j hj
  · intro k hk
    have hk' : k < l.length := by simpa using hk
    by_cases hki : k = i
    · subst hki
      rw [List.getElem_set_self]
      exact hin
    · rw [List.getElem_set_ne (Ne.symm hki)]
      refine (r4 k hk').frame hf fun b o ea _ o' h => ?_
      obtain ⟨o2, e⟩ := hs b o' h
      exact r5.1 k i hk' hi hki b o b o2 ea e rfl
  · intro p q hp hq
    exact r5.1 p q (by simpa using hp) (by simpa using hq)
  · intro p hp
    exact r5.2 p (by simpa using hp)
  · rw [updR_other _ _ hj] at ez
    exact H.sep j id z _ hj ez hr b o h1 (hown b o h2)

end Go.Tev
