/- An evaluator of Go functions on plain values: loops answer as the evaluator does. No condition beyond those that each lemma states. -/
import Derived.Test.YtanoofbkhddokaaGreatUd
set_option linter.unusedSimpArgs false
set_option linter.unusedVariables false
namespace Go.Tev

def loopN (E : CEnv) (c : Code) (l : LoopE) (nt : Nat) : Nat → PTup l.cty → PTup l.bty → PTup l.vty → Option (Sum (PTup l.vty) (PTup l.rty) × BTup l.bty)
  | 0, _, _, _ => none
  | n + 1, x, y, z => loopRound E c l nt (fun y z => loopN E c l nt n x y z) x y z

theorem BoxRows.congr {rows rows' : Rows} : ∀ {ts : List Ty} {x : PTup ts} {id : Nat}, (∀ k, id ≤ k → k < id + 64 * ts.length → rows' k = rows k) → BoxRows rows ts x id → BoxRows rows' ts x id
  | [], _, _, _, _ => trivial
  | .v _ :: ts, x, id, h, k => BoxRows.congr (ts := ts) (x := x.2) (fun k h1 h2 => h k (by omega) (by simp; omega)) k
  | .a _ :: ts, x, id, h, k => BoxRows.congr (ts := ts) (x := x.2) (fun k h1 h2 => h k (by omega) (by simp; omega)) k
  | .r _ :: ts, x, id, h, k => BoxRows.congr (ts := ts) (x := x.2) (fun k h1 h2 => h k (by omega) (by simp; omega)) k
  | .p _ :: ts, x, id, h, k => ⟨by rw [h _ (by omega) (by simp; omega)]; exact k.1, BoxRows.congr (ts := ts) (x := x.2) (fun k h1 h2 => h k (by omega) (by simp; omega)) k.2⟩

theorem slots_keep {a a' : Act} {ds : List Nat} (h : ∀ t, t ∉ ds → a'.tmps.getD t undef = a.tmps.getD t undef) : ∀ {ss : List Nat}, (∀ s, s ∈ ss → s ∉ ds) → slots a' ss = slots a ss
  | [], _ => rfl
  | s :: ss, hs => by
    simp only [slots, List.map_cons]
    rw [h s (hs s (by simp))]
    congr 1
    exact slots_keep h fun t ht => hs t (by simp [ht])

section
variable {E : CEnv} {c : Code} {l : LoopE} {nt : Nat}

/-- behind a loop -/
def After (l : LoopE) (c : Code) (r : Sum (PTup l.vty) (PTup l.rty) × BTup l.bty) (S : Fp) (a0 : Act) (w0 : World) (e : Exit) (a' : Act) (w' : World) : Prop :=
  a'.tmps.size = a0.tmps.size ∧ a'.defers = [] ∧ (∀ t, t ∉ dsts c → a'.tmps.getD t undef = a0.tmps.getD t undef) ∧
      ∃ SB SO, Dis SO SB ∧ (∀ b o, SO b o ∨ SB b o → (S b o ∨ w0.heap.size ≤ b) ∧ b < w'.heap.size) ∧ Frame S w0 w' ∧
        ((e = .exit l.ex ∧ TysBack w0 w' l.bty r.2 (slots a0 l.bs) SB ∧ ∃ o, r.1 = .inl o ∧ TysRel w' l.vty o (slots a' l.vs) SO (fun _ => False)) ∨
          (e = .ret ∧ TysBack w0 w' (deads l.dd l.bty) (toD l.dd l.bty r.2) (slots a0 l.bs) SB ∧ ∃ o, r.1 = .inr o ∧ TysRel w' l.rty o (slots a' l.rs) SO (fun _ => False)))

theorem loopN_ok (hE : ∀ g f, E.env.fns g = some f → CallOk E.env.prog g f) (hm : E.env.prog.follows .mixedOrders = true) (hl : LoopsOk E.env.prog nt E c) (hok : loopOk l c = true) {x : PTup l.cty} {r : Sum (PTup l.vty) (PTup l.rty) × BTup l.bty}
    {S : Fp} {L : Nat → Prop} {a0 : Act} {w0 : World} (hnt : a0.tmps.size = nt) (hSL : ∀ b o, S b o → ¬ L b) (hLw : ∀ b, L b → b < w0.heap.size) :
    ∀ (n : Nat) (y : PTup l.bty) (z : PTup l.vty) (a : Act) (w : World) (S1 S2 : Fp), loopN E c l nt n x y z = some r → a.tmps.size = nt → a.defers = [] → (∀ t, t ∉ dsts c → a.tmps.getD t undef = a0.tmps.getD t undef) → Frame S w0 w →
      TysRel w l.cty x (slots a l.cs) noFp L → TysRel w l.bty y (slots a l.bs) S1 L → TysRel w l.vty z (slots a l.vs) S2 L → Dis S1 S2 → (∀ b o, S1 b o ∨ S2 b o → (S b o ∨ w0.heap.size ≤ b) ∧ b < w.heap.size) →
      (∀ (d : List Bool) (y' : BTup (deads d l.bty)) (SB : Fp) (w' : World), TysBack w w' (deads d l.bty) y' (slots a l.bs) SB → TysBack w0 w' (deads d l.bty) y' (slots a0 l.bs) SB) → Code.rounds E.env.prog c (After l c r S a0 w0) n a w
  | 0, y, z, a, w, S1, S2, h, _, _, _, _, _, _, _, _, _, _ => by cases h
  | n + 1, y, z, a, w, S1, S2, h, hsz, hdf, hkp, hfr, rc, rb, rv, hd12, hbd, hprev => by
    have F := loopOk_spec hok
    have hdb : ∀ s, s ∈ l.bs → s ∉ dsts c := fun s hs => disN_not F.dis (List.mem_append.2 (.inr hs))
    have hdc : ∀ s, s ∈ l.cs → s ∉ dsts c := fun s hs => disN_not F.dis (List.mem_append.2 (.inl hs))
    have hS' : ∀ b o, orFp S1 S2 b o → ¬ L b := fun b o h hL => (hbd b o h).1.elim (fun h => hSL b o h hL) (fun h => by have := hLw b hL; omega)
    have H0 : Heap noRows (fun _ => none) w (orFp S1 S2) L := ⟨(fun id x h => by cases h), (fun _ _ => rfl), (fun _ _ _ _ _ h => by cases h), (fun _ _ h => by cases h), (fun _ _ h => by cases h), hS', (fun b o h => (hbd b o h).2), (fun b h => Nat.lt_of_lt_of_le (hLw b h) hfr.size)⟩
    have mC := F.mC
    have mB := F.mB
    have mV := F.mV
    obtain ⟨loc1, P1, t1, s1, _, _, _⟩ := putTys_ok (id := 0) H0 (fun _ _ _ => rfl) rc (fun _ _ h => h.elim) (fun _ h => h) (fun b o ⟨_, _, h, _⟩ => by cases h) F.okC
    obtain ⟨loc2, P2, t2, s2, b2, _, _⟩ := putTys_ok (id := 2048) P1.heap (fun k h1 h2 => by rw [s1 k (.inr (by omega))]; rfl) rb (fun _ _ h => .inl h) (fun _ h => h) (fun b o h => (P1.owned b o h).elim (fun ⟨_, _, h, _⟩ => by cases h) (fun h => h.elim)) F.okB
    obtain ⟨loc3, P3, t3, s3, _, _, _⟩ := putTys_ok (id := 4096) P2.heap (fun k h1 h2 => by rw [s2 k (.inr (by omega)), s1 k (.inr (by omega))]; rfl) rv (fun _ _ h => .inr h) (fun _ h => h) (fun b o h h' => (P2.owned b o h).elim (fun h => (P1.owned b o h).elim (fun ⟨_, _, h, _⟩ => by cases h) (fun h => h.elim)) (fun h => hd12 b o h h')) F.okV
    let B : Base := ⟨w, orFp S1 S2, L, a, dsts c, fun id u => SRel loc3 (.slf id) u, fun id u => SRel loc3 (.ptr id 0) u⟩
    have G : Good B (roundSt l x y z nt) a w := by
      refine ⟨loc3, orFp S1 S2, P3.heap, ?_, ⟨hsz, hsz.symm⟩, hdf, (fun b o h => .inl h), .refl _ _, (fun _ _ => rfl), (fun _ _ h => h), (fun _ _ h => h)⟩
      exact setSl_ok t3 (setSl_ok (t2.ext P3.ext) (setSl_ok (t1.ext (P2.ext.trans P3.ext)) (fun _ => trivial)))
    have hheld : HeldTys loc3 w l.bty (slots a l.bs) 2048 := held_of P3.heap ((boxRows_put l.bty y 2048 _).congr fun k h1 h2 => s3 k (.inl (by omega))) (b2.ext P3.ext)
    refine tevC_ok hE hm (B := B) c _ _ (roundSt l x y z nt) a w (by rw [show B.a.tmps.size = nt from hsz]; exact hl) (fun _ h => h) h G (fun k hk => ?_) ?_
    · have hk : 6144 ≤ k := hk
      show appR (appR (appR noRows (putTys l.cty x 0).2) (putTys l.bty y 2048).2) (putTys l.vty z 4096).2 k = none
      rw [s3 k (.inr (by omega)), s2 k (.inr (by omega)), s1 k (.inr (by omega))]
      rfl
    · intro ex st a' w' G' hf' hK
      obtain ⟨loc', S', H', ht', hs', hd', hSS, hfr', hk, hrw, hbx⟩ := G'
      have hk : ∀ t, t ∉ dsts c → a'.tmps.getD t undef = a.tmps.getD t undef := hk
      have hfr' : Frame (orFp S1 S2) w w' := hfr'
      have hsz' : a'.tmps.size = nt := by rw [hs'.1, hs'.2]; exact hsz
      have eB : slots a' l.bs = slots a l.bs := slots_keep hk hdb
      have eC : slots a' l.cs = slots a l.cs := slots_keep hk hdc
      have hkp' : ∀ t, t ∉ dsts c → a'.tmps.getD t undef = a0.tmps.getD t undef := fun t h => (hk t h).trans (hkp t h)
      have hfr2 : Frame S w0 w' := hfr.trans hfr' fun b o hb h => (hbd b o h).1.resolve_right (by omega)
      -- what comes back
      have back : ∀ {ts : List Ty} {o : PTup ts} {us : Us} {ls : List Nat} {ss : List Nat} {y' : BTup l.bty}, owns ts = true → takeTys st.rows ts (tvsAt st ss) = some (o, us, ls) → takeBoxes (appR st.rows us) l.bty 2048 = some y' →
          ∃ SO SB, (∀ L', TysRel w' ts o (slots a' ss) SO L') ∧ TysBack w w' l.bty y' (slots a l.bs) SB ∧ TysRel w' l.bty (bToP l.bty y') (slots a l.bs) SB L ∧ Dis SO SB ∧ ∀ b o, SO b o ∨ SB b o → (S b o ∨ w0.heap.size ≤ b) ∧ b < w'.heap.size := fun {ts o us ls ss y'} hown htk hyb => by
        obtain ⟨SO, T, _, k, _⟩ := takeTys_ok H' htk (tvsAt_ok ht' ss)
        have hls := takeTys_own_ls hown htk
        subst hls
        obtain ⟨SB, hsb, hback, hrel⟩ := takeBoxes_ok (w0 := w) T.heap hyb (hheld.mono hrw hbx)
        refine ⟨SO, SB, fun L' => (k false _ (.refl _) rfl).own hown, hback, TysRel.again hfr' hS' F.allP rb (hrel F.allP) hback, fun b o h1 h2 => (T.apart b o (hsb b o h2)).2 h1, fun b o h => ?_⟩
        have hin : S' b o := by
          rcases h with h | h
          · exact Owned.mono T H' b o h
          · obtain ⟨i, q, eq, hq⟩ := (T.apart b o (hsb b o h)).1
            exact H'.inS i q eq b o hq
        refine ⟨?_, H'.ltS b o hin⟩
        rcases hSS b o hin with h | h
        · exact (hbd b o h).1
        · have h : w.heap.size ≤ b := h
          have := hfr.size
          exact .inr (by omega)
      cases ex with
      | normal =>
        simp only at hK
        split at hK
        · rename_i z' us ls htk
          split at hK
          · rename_i y' hyb
            obtain ⟨SO, SB, k1, k2, k3, k4, k5⟩ := back F.ownV htk hyb
            refine loopN_ok hE hm hl hok hnt hSL hLw n (bToP l.bty y') z' a' w' SB SO hK hsz' hd' hkp' hfr2 ?_ ?_ (k1 L) (fun b o h h' => k4 b o h' h) (fun b o h => k5 b o h.symm) ?_
            · rw [eC]; exact rc.frame hfr' hS' F.plainC
            · rw [eB]; exact k3
            · intro d y2 SB2 w2 h2
              rw [eB] at h2
              exact hprev d y2 SB2 w2 (k2.transD d h2)
          · cases hK
        · cases hK
      | exit id =>
        simp only at hK
        cases hid : Nat.beq id l.ex with
        | false => rw [hid] at hK; cases hK
        | true =>
          rw [hid, cond_true] at hK
          obtain rfl := Nat.eq_of_beq_eq_true hid
          split at hK
          · rename_i z' us ls htk
            split at hK
            · rename_i y' hyb
              simp only [Option.some.injEq] at hK
              subst hK
              obtain ⟨SO, SB, k1, k2, k3, k4, k5⟩ := back F.ownV htk hyb
              exact ⟨by rw [hsz', hnt], hd', hkp', SB, SO, k4, k5, hfr2, .inl ⟨rfl, hprev [] _ _ _ k2, z', rfl, k1 _⟩⟩
            · cases hK
          · cases hK
      | ret =>
        simp only at hK
        split at hK
        · rename_i z' us ls htk
          split at hK
          · rename_i y' hyb
            simp only [Option.some.injEq] at hK
            subst hK
            obtain ⟨SO, T, _, k, _⟩ := takeTys_ok H' htk (tvsAt_ok ht' l.rs)
            have hls := takeTys_own_ls F.ownR htk
            subst hls
            obtain ⟨SB, hsb, hback, _⟩ := takeBoxes_ok (w0 := w) T.heap hyb ((hheld.mono hrw hbx).dead l.dd)
            refine ⟨by rw [hsz', hnt], hd', hkp', SB, SO, fun b o h1 h2 => (T.apart b o (hsb b o h2)).2 h1, fun b o h => ?_, hfr2, .inr ⟨rfl, hprev l.dd _ _ _ hback.lose, z', rfl, (k false _ (.refl _) rfl).own F.ownR⟩⟩
            have hin : S' b o := by
              rcases h with h | h
              · exact Owned.mono T H' b o h
              · obtain ⟨i, q, eq, hq⟩ := (T.apart b o (hsb b o h)).1
                exact H'.inS i q eq b o hq
            refine ⟨?_, H'.ltS b o hin⟩
            rcases hSS b o hin with h | h
            · exact (hbd b o h).1
            · have h : w.heap.size ≤ b := h
              have := hfr.size
              exact .inr (by omega)
          · cases hK
        · cases hK

/-- a loop -/
theorem loop_ok (hE : ∀ g f, E.env.fns g = some f → CallOk E.env.prog g f) (hm : E.env.prog.follows .mixedOrders = true) (hl : LoopsOk E.env.prog nt E c) (hrun : ∀ x y z r, l.run x y z = some r → ∃ n, loopN E c l nt n x y z = some r) : LoopOk E.env.prog nt c l :=
  ⟨fun a w x y z S S0 S1 S2 L hsz hd rc rb rv _ _ d12 _ s1 s2 hSL hSw hLw hok r hr => by
    obtain ⟨n, hn⟩ := hrun x y z r hr
    have F := loopOk_spec hok
    exact wp_loop_rounds n (loopN_ok hE hm hl hok hsz hSL hLw n y z a w S1 S2 hn hsz hd (fun _ _ => rfl) (.refl _ _) (rc.bare F.plainC) rb rv d12 (fun b o h => h.elim (fun h => ⟨.inl (s1 b o h), hSw b o (s1 b o h)⟩) (fun h => ⟨.inl (s2 b o h), hSw b o (s2 b o h)⟩)) (fun _ _ _ _ h => h))⟩

end

end Go.Tev
