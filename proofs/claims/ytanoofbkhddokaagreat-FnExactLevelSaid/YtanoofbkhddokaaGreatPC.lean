/- Plain laws of the printed functions: UnitI, ExecI, TimeI, WaitI. No condition beyond those that each lemma states. -/
import Derived.Test.YtanoofbkhddokaaGreatPB
set_option linter.unusedVariables false
set_option linter.unusedSimpArgs false
namespace Go.Proofs.YtanoofbkhddokaaGreat.Plain
open Go Go.Tev

theorem tdiv_nn {a b : Int} (h : 0 ≤ a) : Int.tdiv a b = a / b := Int.tdiv_eq_ediv_of_nonneg h

/-! ### the picture unit -/

theorem dotI {s at' : Int} (ha : 0 ≤ at' ∧ at' ≤ 48) (hs : 0 ≤ s ∧ s ≤ 255) : Int.tmod (wI ((wI ((Int.tmod at' 8) + s)) + (wI (Int.tdiv at' 8)))) 16 = (at' % 8 + s + at' / 8) % 16 := by
  rw [tmod_nn ha.1, tdiv_nn ha.1, wI_id (x := at' % 8 + s) (by omega) (by omega), wI_id (x := at' / 8) (by omega) (by omega), wI_id (by omega) (by omega), tmod_nn (by omega)]

theorem l8Dot_ok (p : PpuM) (h : PpuP p) (a : Int) (ha : 0 ≤ a ∧ a ≤ 48) : r283 (p.t, (a, ())) = some ((dotN p a, ()), ()) := by
  have h1 := h.len
  unfold r283 m283 dotN
  simp only [lenI_def, PpuM.t]
  rw [dotI ha h.scroll, leI_t (by omega), ltI_t (by omega)]
  rfl

theorem dot_ok (p : PpuM) (hs : 0 ≤ p.scroll ∧ p.scroll ≤ 255) (h1 : p.table.length = 16) (a : Int) (ha : 0 ≤ a ∧ a ≤ 48) : r308 (p.t, (a, ())) = some ((dotN p a, ()), ()) := by
  unfold r308 m308 dotN
  simp only [lenI_def, PpuM.t]
  rw [dotI ha hs, leI_t (by omega), ltI_t (by omega)]
  rfl

theorem dots_len {p : PpuM} (h : PpuP p) : p.dots.length ≤ 48 := by
  have h2 := h.dots
  split at h2 <;> omega

theorem tickP_1 {p : PpuM} (c : p.T % 64 < 48) : tickP p = { p with T := p.T + 1, dots := p.dots ++ [dotN p (p.T % 64)] } ∧ frameP p = [] ∧ asksP p = false ∧ toldP p = false := by
  unfold tickP frameP asksP toldP
  rw [if_pos c, if_neg (by omega), decide_eq_false (by omega)]
  exact ⟨rfl, rfl, rfl, rfl⟩
theorem tickP_2 {p : PpuM} (c : p.T % 64 = 48) : tickP p = { p with T := p.T + 1, blank := true, dots := [] } ∧ frameP p = p.dots ∧ asksP p = ltI 127 p.ctrl ∧ toldP p = true := by
  unfold tickP frameP asksP toldP
  rw [if_neg (by omega), if_pos c, if_pos c, decide_eq_true c]
  exact ⟨rfl, rfl, rfl, rfl⟩
theorem tickP_3 {p : PpuM} (c : p.T % 64 = 63) : tickP p = { p with T := p.T + 1, blank := false } ∧ frameP p = [] ∧ asksP p = false ∧ toldP p = false := by
  unfold tickP frameP asksP toldP
  rw [if_neg (by omega), if_neg (by omega), if_pos c, if_neg (by omega), decide_eq_false (by omega)]
  exact ⟨rfl, rfl, rfl, rfl⟩
theorem tickP_4 {p : PpuM} (c : ¬ p.T % 64 < 48) (c2 : p.T % 64 ≠ 48) (c3 : p.T % 64 ≠ 63) : tickP p = { p with T := p.T + 1 } ∧ frameP p = [] ∧ asksP p = false ∧ toldP p = false := by
  unfold tickP frameP asksP toldP
  rw [if_neg c, if_neg c2, if_neg c3, if_neg c2, decide_eq_false c2]
  exact ⟨rfl, rfl, rfl, rfl⟩

theorem l8Tick_ok (p : PpuM) (h : PpuP p) (ht : p.T < 20000) : r214 (p.t, ()) = some (((tickP p).t, (frameP p, (asksP p, ()))), ()) := by
  have h1 := h.t
  have hd := dots_len h
  unfold r214 m214
  refine bind_step (l8Copy_ok p.t h.s) ?_
  show (bif eqI p.T 20000 then _ else bif ltI (Int.tmod p.T 64) 48 then _ else bif eqI (Int.tmod p.T 64) 48 then _ else bif eqI (Int.tmod p.T 64) 63 then _ else _) = _
  have hm : Int.tmod p.T 64 = p.T % 64 := tmod_nn h1.1
  have hw : wI (p.T + 1) = p.T + 1 := wI_id (by omega) (by omega)
  rw [eqI_f (show p.T ≠ 20000 by omega), cond_false, hm]
  by_cases c1 : p.T % 64 < 48
  · obtain ⟨e1, e2, e3, _⟩ := tickP_1 c1
    rw [ltI_t c1, cond_true, e1, e2, e3]
    refine bind_step (l8Dot_ok p h (Int.tmod p.T 64) (by omega)) ?_
    show (bif leN (p.dots.length + 1) (E.most .i) then some ((((wI (p.T + 1)), _), _), _) else none) = _
    rw [leN_t (by simp only [E.most]; omega), hw, hm]
    rfl
  rw [ltI_f c1, cond_false]
  by_cases c2 : p.T % 64 = 48
  · obtain ⟨e1, e2, e3, _⟩ := tickP_2 c2
    rw [eqI_t c2, cond_true, e1, e2, e3]
    show (bif leN (0 + p.dots.length) (E.most .i) then some ((((wI (p.T + 1)), _), _), _) else none) = _
    rw [leN_t (by simp only [E.most]; omega), hw]
    rfl
  rw [eqI_f c2, cond_false]
  by_cases c3 : p.T % 64 = 63
  · obtain ⟨e1, e2, e3, _⟩ := tickP_3 c3
    rw [eqI_t c3, cond_true, e1, e2, e3]
    show some ((((wI (p.T + 1)), _), _), _) = _
    rw [hw]; rfl
  · obtain ⟨e1, e2, e3, _⟩ := tickP_4 c1 c2 c3
    rw [eqI_f c3, cond_false, e1, e2, e3]
    show some ((((wI (p.T + 1)), _), _), _) = _
    rw [hw]; rfl

theorem tick_ok (p : PpuM) (h : PpuP p) (ht : p.T < 20000) : r255 (p.t, ()) = some ((toldP p, (frameP p, (asksP p, ()))), ((tickP p).t, ())) := by
  have h1 := h.t
  have hd := dots_len h
  have hm : Int.tmod p.T 64 = p.T % 64 := tmod_nn h1.1
  have hw : wI (p.T + 1) = p.T + 1 := wI_id (by omega) (by omega)
  unfold r255 m255
  show (bif ltI (Int.tmod p.T 64) 48 then _ else bif eqI (Int.tmod p.T 64) 48 then _ else bif eqI (Int.tmod p.T 64) 63 then _ else _) = _
  rw [hm]
  by_cases c1 : p.T % 64 < 48
  · obtain ⟨e1, e2, e3, e4⟩ := tickP_1 c1
    rw [ltI_t c1, cond_true, e1, e2, e3, e4]
    have hdt := dot_ok { p with T := p.T + 1 } h.scroll h.len (p.T % 64) (by omega)
    rw [← hw, ← hm] at hdt
    refine bind_step hdt ?_
    show (bif leN (p.dots.length + 1) (E.most .i) then some (_, (((wI (p.T + 1)), _), _)) else none) = _
    rw [leN_t (by simp only [E.most]; omega), hw, hm]
    rfl
  rw [ltI_f c1, cond_false]
  by_cases c2 : p.T % 64 = 48
  · obtain ⟨e1, e2, e3, e4⟩ := tickP_2 c2
    rw [eqI_t c2, cond_true, e1, e2, e3, e4]
    show some (_, (((wI (p.T + 1)), _), _)) = _
    rw [hw]; rfl
  rw [eqI_f c2, cond_false]
  by_cases c3 : p.T % 64 = 63
  · obtain ⟨e1, e2, e3, e4⟩ := tickP_3 c3
    rw [eqI_t c3, cond_true, e1, e2, e3, e4]
    show some (_, (((wI (p.T + 1)), _), _)) = _
    rw [hw]; rfl
  · obtain ⟨e1, e2, e3, e4⟩ := tickP_4 c1 c2 c3
    rw [eqI_f c3, cond_false, e1, e2, e3, e4]
    show some (_, (((wI (p.T + 1)), _), _)) = _
    rw [hw]; rfl

theorem specPpuWrite_ok (p : PpuM) (h : PpuP p) (reg v : Int) : r213 (p.t, (reg, (v, ()))) = some (((writeP p reg v).t, ()), ()) := by
  have ha := h.addr
  have hl := h.len
  unfold r213 m213 writeP
  refine bind_step (l8Copy_ok p.t h.s) (bind_step (by rw [specPpuOk_ok p.t h.s, ppuOk_iff.2 h]) ?_)
  simp only [Bool.not_true, cond_false, specByte_ok, Option.bind_some, lenI_def, PpuM.t]
  rw [tmod_nn (show 0 ≤ v % 256 by omega), tmod_nn (show 0 ≤ v % 256 by omega), wI_id (x := p.addr + 1) (by omega) (by omega), tmod_nn (show 0 ≤ p.addr + 1 by omega), leI_t ha.1, ltI_t (by omega)]
  by_cases c : reg = 0
  · rw [eqI_t c, if_pos c]; rfl
  rw [eqI_f c, if_neg c, cond_false]
  by_cases c : reg = 1
  · rw [eqI_t c, if_pos c]; rfl
  rw [eqI_f c, if_neg c, cond_false]
  by_cases c : reg = 3
  · rw [eqI_t c, if_pos c]; rfl
  rw [eqI_f c, if_neg c, cond_false]
  by_cases c : reg = 4
  · rw [eqI_t c, if_pos c]; rfl
  rw [eqI_f c, if_neg c, cond_false]
  by_cases c : reg = 5
  · rw [eqI_t c, if_pos c]; rfl
  rw [eqI_f c, if_neg c, cond_false]

theorem write_ok (p : PpuM) (h : PpuP p) (reg v : Int) : r285 (p.t, (reg, (v, ()))) = some ((), ((writeP p reg v).t, ())) := by
  have ha := h.addr
  have hl := h.len
  unfold r285 m285 writeP r316 m316
  simp only [implByte_ok, Option.bind_some, lenI_def, PpuM.t]
  rw [tmod_nn (show 0 ≤ v % 256 by omega), tmod_nn (show 0 ≤ v % 256 by omega), wI_id (x := p.addr + 1) (by omega) (by omega), tmod_nn (show 0 ≤ p.addr + 1 by omega), leI_t ha.1, ltI_t (by omega)]
  by_cases c : reg = 0
  · rw [eqI_t c, if_pos c]; rfl
  rw [eqI_f c, if_neg c, cond_false]
  by_cases c : reg = 1
  · rw [eqI_t c, if_pos c]; rfl
  rw [eqI_f c, if_neg c, cond_false]
  by_cases c : reg = 3
  · rw [eqI_t c, if_pos c]; rfl
  rw [eqI_f c, if_neg c, cond_false]
  by_cases c : reg = 4
  · rw [eqI_t c, if_pos c]; rfl
  rw [eqI_f c, if_neg c, cond_false]
  by_cases c : reg = 5
  · rw [eqI_t c, if_pos c]; rfl
  rw [eqI_f c, if_neg c, cond_false]

/-! ### the sound unit -/

theorem l10Tick_ok (a : ApuM) (h : ApuP a) (ht : a.T < 20000) : r216 (a.t, ()) = some (((tickA a).t, (sampleA a, (toldA a, ()))), ()) := by
  obtain ⟨t, p, c, b, l, asks, irq⟩ := a
  have ht : t < 20000 := ht
  obtain ⟨h1, h2, h3, h4, h5⟩ := h
  have h1 : 0 ≤ t ∧ t ≤ 20000 := h1
  have h3 : 0 ≤ c ∧ c ≤ 255 := h3
  have h4 : 0 ≤ b ∧ b ≤ 1 := h4
  have h5 : 0 ≤ l ∧ l ≤ 31 := h5
  unfold r216 m216 tickA sampleA toldA beatA countA ApuM.t
  simp only
  rw [eqI_f (show t ≠ 20000 by omega), cond_false, tmod_nn h1.1, tmod_nn h1.1, wI_id (x := t + 1) (by omega) (by omega), wI_id (x := 1 - b) (by omega) (by omega), wI_id (x := l - 1) (by omega) (by omega), wI_id (x := c - 1) (by omega) (by omega), wI_id (x := 8 * (1 - b)) (by omega) (by omega), wI_id (x := 8 * b) (by omega) (by omega)]
  by_cases c0 : c = 0
  · rw [eqI_t c0, if_pos c0]
    by_cases l0 : 0 < l
    · rw [ltI_t l0, if_pos l0]
      by_cases t32 : t % 32 = 0
      · rw [eqI_t t32, eqI_f (show t % 16 ≠ 15 by omega)]
        simp only [cond_true, cond_false, t32, l0, true_and, if_true, show ¬ t % 16 = 15 by omega, false_and, if_false]
        cases irq <;> cases eqI (l - 1) 0 <;> rfl
      · rw [eqI_f t32]
        simp only [cond_true, cond_false, t32, false_and, if_false]
        by_cases t16 : t % 16 = 15
        · rw [eqI_t t16]
          simp only [cond_true, t16, true_and, ne_eq, show ¬ l = 0 by omega, not_false_eq_true, if_true]
        · rw [eqI_f t16]
          simp only [cond_false, t16, false_and, if_false]
    · rw [ltI_f l0, if_neg l0]
      have l0' : l = 0 := by omega
      subst l0'
      by_cases t32 : t % 32 = 0
      · rw [eqI_t t32, eqI_f (show t % 16 ≠ 15 by omega)]
        simp only [cond_true, cond_false, t32, true_and, show ¬ t % 16 = 15 by omega, false_and, if_false, Int.lt_irrefl]
      · rw [eqI_f t32]
        by_cases t16 : t % 16 = 15
        · rw [eqI_t t16]
          simp only [cond_true, cond_false, t32, t16, true_and, ne_eq, not_true_eq_false, false_and, and_false, if_false]
        · rw [eqI_f t16]
          simp only [cond_true, cond_false, t32, t16, false_and, if_false]
  · rw [eqI_f c0, if_neg c0]
    by_cases l0 : 0 < l
    · rw [ltI_t l0]
      by_cases t32 : t % 32 = 0
      · rw [eqI_t t32, eqI_f (show t % 16 ≠ 15 by omega)]
        simp only [cond_true, cond_false, t32, l0, true_and, if_true, show ¬ t % 16 = 15 by omega, false_and, if_false]
        cases irq <;> cases eqI (l - 1) 0 <;> rfl
      · rw [eqI_f t32]
        simp only [cond_true, cond_false, t32, false_and, if_false]
        by_cases t16 : t % 16 = 15
        · rw [eqI_t t16]
          simp only [cond_true, t16, true_and, ne_eq, show ¬ l = 0 by omega, not_false_eq_true, if_true]
        · rw [eqI_f t16]
          simp only [cond_false, t16, false_and, if_false]
    · rw [ltI_f l0]
      have l0' : l = 0 := by omega
      subst l0'
      by_cases t32 : t % 32 = 0
      · rw [eqI_t t32, eqI_f (show t % 16 ≠ 15 by omega)]
        simp only [cond_true, cond_false, t32, true_and, show ¬ t % 16 = 15 by omega, false_and, if_false, Int.lt_irrefl]
      · rw [eqI_f t32]
        by_cases t16 : t % 16 = 15
        · rw [eqI_t t16]
          simp only [cond_true, cond_false, t32, t16, true_and, ne_eq, not_true_eq_false, false_and, and_false, if_false]
        · rw [eqI_f t16]
          simp only [cond_true, cond_false, t32, t16, false_and, if_false]

theorem apuTick_ok (a : ApuM) (h : ApuP a) (ht : a.T < 20000) : r256 (a.t, ()) = some ((sampleA a, (toldA a, ())), ((tickA a).t, ())) := by
  obtain ⟨t, p, c, b, l, asks, irq⟩ := a
  have ht : t < 20000 := ht
  obtain ⟨h1, h2, h3, h4, h5⟩ := h
  have h1 : 0 ≤ t ∧ t ≤ 20000 := h1
  have h3 : 0 ≤ c ∧ c ≤ 255 := h3
  have h4 : 0 ≤ b ∧ b ≤ 1 := h4
  have h5 : 0 ≤ l ∧ l ≤ 31 := h5
  unfold r256 m256 tickA sampleA toldA beatA countA ApuM.t
  simp only
  rw [tmod_nn h1.1, tmod_nn h1.1, wI_id (x := t + 1) (by omega) (by omega), wI_id (x := 1 - b) (by omega) (by omega), wI_id (x := l - 1) (by omega) (by omega), wI_id (x := c - 1) (by omega) (by omega), wI_id (x := 8 * (1 - b)) (by omega) (by omega), wI_id (x := 8 * b) (by omega) (by omega)]
  by_cases c0 : c = 0
  · rw [eqI_t c0, if_pos c0]
    by_cases l0 : 0 < l
    · rw [ltI_t l0, if_pos l0]
      by_cases t32 : t % 32 = 0
      · rw [eqI_t t32, eqI_f (show t % 16 ≠ 15 by omega)]
        simp only [cond_true, cond_false, t32, l0, true_and, if_true, show ¬ t % 16 = 15 by omega, false_and, if_false, Bool.not_false]
        cases irq <;> cases eqI (l - 1) 0 <;> rfl
      · rw [eqI_f t32]
        simp only [cond_true, cond_false, t32, false_and, if_false]
        by_cases t16 : t % 16 = 15
        · rw [eqI_t t16, eqI_f (show l ≠ 0 by omega)]
          simp only [cond_true, cond_false, Bool.not_true, t16, true_and, ne_eq, show ¬ l = 0 by omega, not_false_eq_true, if_true]
        · rw [eqI_f t16]
          simp only [cond_true, cond_false, Bool.not_false, t16, false_and, if_false]
    · rw [ltI_f l0, if_neg l0]
      have l0' : l = 0 := by omega
      subst l0'
      by_cases t32 : t % 32 = 0
      · rw [eqI_t t32, eqI_f (show t % 16 ≠ 15 by omega)]
        simp only [cond_true, cond_false, Bool.not_false, t32, true_and, show ¬ t % 16 = 15 by omega, false_and, if_false, Int.lt_irrefl]
      · rw [eqI_f t32]
        by_cases t16 : t % 16 = 15
        · rw [eqI_t t16, eqI_t (show (0 : Int) = 0 from rfl)]
          simp only [cond_true, cond_false, Bool.not_true, t32, t16, true_and, ne_eq, not_true_eq_false, false_and, and_false, if_false]
        · rw [eqI_f t16]
          simp only [cond_true, cond_false, Bool.not_false, t32, t16, false_and, if_false]
  · rw [eqI_f c0, if_neg c0]
    by_cases l0 : 0 < l
    · rw [ltI_t l0]
      by_cases t32 : t % 32 = 0
      · rw [eqI_t t32, eqI_f (show t % 16 ≠ 15 by omega)]
        simp only [cond_true, cond_false, t32, l0, true_and, if_true, show ¬ t % 16 = 15 by omega, false_and, if_false, Bool.not_false]
        cases irq <;> cases eqI (l - 1) 0 <;> rfl
      · rw [eqI_f t32]
        simp only [cond_true, cond_false, t32, false_and, if_false]
        by_cases t16 : t % 16 = 15
        · rw [eqI_t t16, eqI_f (show l ≠ 0 by omega)]
          simp only [cond_true, cond_false, Bool.not_true, t16, true_and, ne_eq, show ¬ l = 0 by omega, not_false_eq_true, if_true]
        · rw [eqI_f t16]
          simp only [cond_true, cond_false, Bool.not_false, t16, false_and, if_false]
    · rw [ltI_f l0]
      have l0' : l = 0 := by omega
      subst l0'
      by_cases t32 : t % 32 = 0
      · rw [eqI_t t32, eqI_f (show t % 16 ≠ 15 by omega)]
        simp only [cond_true, cond_false, Bool.not_false, t32, true_and, show ¬ t % 16 = 15 by omega, false_and, if_false, Int.lt_irrefl]
      · rw [eqI_f t32]
        by_cases t16 : t % 16 = 15
        · rw [eqI_t t16, eqI_t (show (0 : Int) = 0 from rfl)]
          simp only [cond_true, cond_false, Bool.not_true, t32, t16, true_and, ne_eq, not_true_eq_false, false_and, and_false, if_false]
        · rw [eqI_f t16]
          simp only [cond_true, cond_false, Bool.not_false, t32, t16, false_and, if_false]

theorem specApuWrite_ok (a : ApuM) (h : ApuP a) (reg v : Int) : r215 (a.t, (reg, (v, ()))) = some (((writeA a reg v).t, ()), ()) := by
  unfold r215 m215 writeA
  refine bind_step (by rw [specApuOk_ok a.t, apuOk_iff.2 h]) ?_
  simp only [Bool.not_true, cond_false, specByte_ok, Option.bind_some, ApuM.t]
  rw [tmod_nn (show 0 ≤ v % 256 by omega), tmod_nn (show 0 ≤ v % 256 by omega)]
  by_cases c : reg = 0
  · rw [eqI_t c, if_pos c]; rfl
  rw [eqI_f c, if_neg c, cond_false]
  by_cases c : reg = 1
  · rw [eqI_t c, if_pos c]; rfl
  rw [eqI_f c, if_neg c, cond_false]
  by_cases c : reg = 2
  · rw [eqI_t c, if_pos c]
    cases a.irq <;> rfl
  rw [eqI_f c, if_neg c, cond_false]
  by_cases c : reg = 3
  · rw [eqI_t c, if_pos c]; rfl
  rw [eqI_f c, if_neg c, cond_false]

theorem implApuWrite_ok (a : ApuM) (h : ApuP a) (reg v : Int) : r286 (a.t, (reg, (v, ()))) = some (((writeA a reg v).t, ()), ()) := by
  unfold r286 m286 writeA
  refine bind_step (by rw [implApuOk_ok a.t, apuOk_iff.2 h]) ?_
  simp only [Bool.not_true, cond_false, implByte_ok, Option.bind_some, ApuM.t]
  rw [tmod_nn (show 0 ≤ v % 256 by omega), tmod_nn (show 0 ≤ v % 256 by omega)]
  by_cases c : reg = 0
  · rw [eqI_t c, if_pos c]; rfl
  rw [eqI_f c, if_neg c, cond_false]
  by_cases c : reg = 1
  · rw [eqI_t c, if_pos c]; rfl
  rw [eqI_f c, if_neg c, cond_false]
  by_cases c : reg = 2
  · rw [eqI_t c, if_pos c]
    cases a.irq <;> rfl
  rw [eqI_f c, if_neg c, cond_false]
  by_cases c : reg = 3
  · rw [eqI_t c, if_pos c]; rfl
  rw [eqI_f c, if_neg c, cond_false]

/-! ### the reference -/

/-! ### entering -/

/-! ### what is fetched and accessed -/

/-! ### the pad -/

/-! ### stretches of time -/

/-! ### the units that come after -/

theorem due_len {l : List Rc} {t : Int} (h : due l t = true) : 0 < l.length := by
  obtain ⟨e, _⟩ := due_cons h
  rw [e]; simp

theorem next_due (cap t : Int) (l : List Rc) (h : due l t = true) : r284 ((cap, (l, ())), (t, ())) = some ((((headR l).1, ((headR l).2.1, ((headR l).2.2, ()))), (true, ())), ((cap, (l.tail, ())), ())) := by
  obtain ⟨e, e1⟩ := due_cons h
  have hl := due_len h
  unfold r284 m284
  have hd : rdE .t l (0 : Int) = headR l := by rw [e]; rfl
  have ht : List.drop (Int.toNat (1 : Int)) l = l.tail := by rw [e]; rfl
  show (bif eqI (l.length : Int) 0 then _ else bif ltI 0 (l.length : Int) then (bif neI (rdE .t l (0 : Int)).1 t then _ else bif ltI 0 (l.length : Int) then (bif leI 1 (l.length : Int) then some ((((rdE .t l (0 : Int)).1, ((rdE .t l (0 : Int)).2.1, ((rdE .t l (0 : Int)).2.2, ()))), (true, ())), ((cap, (List.drop (Int.toNat (1 : Int)) l, ())), ())) else none) else none) else none) = _
  rw [eqI_f (by omega), ltI_t (by omega), leI_t (by omega), hd, ht, neI_f e1]
  rfl

theorem next_not (cap t : Int) (l : List Rc) (h : due l t = false) : r284 ((cap, (l, ())), (t, ())) = some ((((0 : Int), ((0 : Int), ((0 : Int), ()))), (false, ())), ((cap, (l, ())), ())) := by
  unfold r284 m284
  cases l with
  | nil => rfl
  | cons x l =>
    have h : x.1 ≠ t := by simpa [due] using h
    show (bif eqI ((x :: l).length : Int) 0 then _ else bif ltI 0 ((x :: l).length : Int) then (bif neI x.1 t then _ else _) else none) = _
    rw [eqI_f (by simp only [List.length_cons]; omega), ltI_t (by simp only [List.length_cons]; omega), neI_t h]
    rfl

theorem stop_iff {t mark : Int} : leI (mnI mark 20000) t = !decide (t < mark ∧ t < 20000) := by
  unfold mnI
  split
  · by_cases h : t < mark ∧ t < 20000
    · rw [leI_f (by omega), decide_eq_true h]; rfl
    · rw [leI_t (by omega), decide_eq_false h]; rfl
  · by_cases h : t < mark ∧ t < 20000
    · rw [leI_f (by omega), decide_eq_true h]; rfl
    · rw [leI_t (by omega), decide_eq_false h]; rfl

theorem frames_small {w : PicM} (h : PicP w) : w.frames.length ≤ 1000 := by
  have h1 := h.ppu.t
  have h2 := h.frn
  unfold framesN at h2
  omega
theorem samples_small {w : SndM} (h : SndP w) : w.samples.length ≤ 2000 := by
  have h1 := h.apu.t
  have h2 := h.sam
  omega

theorem writeP_dots (p : PpuM) (reg v : Int) : (writeP p reg v).dots = p.dots := by
  unfold writeP
  repeat' split
  all_goals rfl
theorem tickP_table (p : PpuM) : (tickP p).table = p.table := by
  unfold tickP
  repeat' split
  all_goals rfl
theorem readP_rows (p : PpuM) (reg : Int) : (readP p reg).table = p.table ∧ (readP p reg).dots = p.dots := by
  unfold readP
  repeat' split
  all_goals exact ⟨rfl, rfl⟩

theorem picStep_ok (w : PicM) (mark : Int) (h : PicP w) : r217 (w.t, (mark, ())) = some (((stepPic w mark).isSome, ()), (((stepPic w mark).getD w).t, ())) := by
  have hf := frames_small h
  unfold r217 m217 stepPic
  cases hd : due w.list w.ppu.T with
  | true =>
    rw [if_pos rfl]
    refine bind_step (next_due w.cap w.ppu.T w.list hd) (bind_step (write_ok w.ppu h.ppu (headR w.list).2.1 (headR w.list).2.2) ?_)
    have e := writeP_dots w.ppu (headR w.list).2.1 (headR w.list).2.2
    generalize writeP w.ppu (headR w.list).2.1 (headR w.list).2.2 = q at e ⊢
    obtain ⟨T, c, s, ad, pal, bl, tb, ds⟩ := q
    have e : ds = w.ppu.dots := e
    subst e
    rfl
  | false =>
    rw [if_neg (by simp)]
    refine bind_step (next_not w.cap w.ppu.T w.list hd) ?_
    show (bif leI (mnI mark 20000) w.ppu.T then _ else _) = _
    rw [stop_iff]
    by_cases hm : w.ppu.T < mark ∧ w.ppu.T < 20000
    · rw [decide_eq_true hm, if_pos hm]
      refine bind_step (tick_ok w.ppu h.ppu hm.2) ?_
      have e := tickP_table w.ppu
      generalize tickP w.ppu = q at e ⊢
      obtain ⟨T, c, s, ad, pal, bl, tb, ds⟩ := q
      have e : tb = w.ppu.table := e
      subst e
      cases ht : toldP w.ppu with
      | true =>
        show (bif leN (w.frames.length + 1) (E.most .n) then _ else none) = _
        rw [leN_t (by simp only [E.most]; omega)]
        rfl
      | false => rfl
    · rw [decide_eq_false hm, if_neg hm]
      rfl

theorem sndStep_ok (w : SndM) (mark : Int) (h : SndP w) : r218 (w.t, (mark, ())) = some (((stepSnd w mark).isSome, ()), (((stepSnd w mark).getD w).t, ())) := by
  have hf := samples_small h
  unfold r218 m218 stepSnd
  cases hd : due w.list w.apu.T with
  | true =>
    rw [if_pos rfl]
    exact bind_step (next_due w.cap w.apu.T w.list hd) (bind_step (implApuWrite_ok w.apu h.apu (headR w.list).2.1 (headR w.list).2.2) rfl)
  | false =>
    rw [if_neg (by simp)]
    refine bind_step (next_not w.cap w.apu.T w.list hd) ?_
    show (bif leI (mnI mark 20000) w.apu.T then _ else _) = _
    rw [stop_iff]
    by_cases hm : w.apu.T < mark ∧ w.apu.T < 20000
    · rw [decide_eq_true hm, if_pos hm]
      refine bind_step (apuTick_ok w.apu h.apu hm.2) ?_
      cases ht : toldA w.apu with
      | true =>
        show (bif leN (w.samples.length + 1) (E.most .i) then _ else none) = _
        rw [leN_t (by simp only [E.most]; omega)]
        rfl
      | false => rfl
    · rw [decide_eq_false hm, if_neg hm]
      rfl

theorem told_tmod {t : Int} (h : 0 ≤ t) : eqI (Int.tmod t 64) 48 = decide (t % 64 = 48) := by rw [tmod_nn h, eqI_d]

theorem l14Pic_tick (w : PicM) (mark : Int) (h : PicP w) (hd : due w.list w.ppu.T = false) : (bif leI mark w.ppu.T then some ((w.t, (false, ())), ()) else bif eqI w.ppu.T 20000 then some ((w.t, (false, ())), ()) else (r214 (w.ppu.t, ())).bind fun r0 =>
    bif (eqI (Int.tmod w.ppu.T (64 : Int)) (48 : Int)) then (bif (leN (w.frames.length + 1) (E.most .n)) then (some (((r0.1.1.1, (r0.1.1.2.1, (r0.1.1.2.2.1, (r0.1.1.2.2.2.1, (r0.1.1.2.2.2.2.1, (r0.1.1.2.2.2.2.2.1, (r0.1.1.2.2.2.2.2.2.1, (r0.1.1.2.2.2.2.2.2.2.1, (w.cap, (w.list, ((w.frames ++ [r0.1.2.1]), ()))))))))))), (true, ())), ()))
     else none)
    else some (((r0.1.1.1, (r0.1.1.2.1, (r0.1.1.2.2.1, (r0.1.1.2.2.2.1, (r0.1.1.2.2.2.2.1, (r0.1.1.2.2.2.2.2.1, (r0.1.1.2.2.2.2.2.2.1, (r0.1.1.2.2.2.2.2.2.2.1, (w.cap, (w.list, (w.frames, ()))))))))))), (true, ())), ())) = some (((((stepPic w mark).getD w).t), ((stepPic w mark).isSome, ())), ()) := by
  have hf := frames_small h
  have ht := h.ppu.t
  unfold stepPic
  rw [hd, if_neg (by simp)]
  by_cases hm : w.ppu.T < mark ∧ w.ppu.T < 20000
  · rw [if_pos hm, leI_f (by omega), eqI_f (by omega), cond_false, cond_false]
    refine bind_step (l8Tick_ok w.ppu h.ppu hm.2) ?_
    rw [told_tmod ht.1]
    cases hto : toldP w.ppu with
    | true =>
      rw [show decide (w.ppu.T % 64 = 48) = true from hto, leN_t (by simp only [E.most]; omega)]
      rfl
    | false =>
      rw [show decide (w.ppu.T % 64 = 48) = false from hto]
      rfl
  · rw [if_neg hm]
    by_cases h1 : mark ≤ w.ppu.T
    · rw [leI_t h1]; rfl
    · rw [leI_f h1, eqI_t (by omega)]; rfl

theorem l14Pic_ok (w : PicM) (mark : Int) (h : PicP w) : r111 (w.t, (mark, ())) = some ((((stepPic w mark).getD w).t, ((stepPic w mark).isSome, ())), ()) := by
  have hl := h.ring.len
  have hc := h.ring.c1
  unfold r111 m111
  show (bif ltI 0 (w.list.length : Int) then (bif ltI 0 (w.list.length : Int) then (bif eqI (rdE .t w.list (0 : Int)).1 w.ppu.T then _ else _) else none) else _) = _
  by_cases h0 : w.list.length = 0
  · rw [ltI_f (by omega), cond_false]
    refine l14Pic_tick w mark h ?_
    rw [List.eq_nil_of_length_eq_zero h0]; rfl
  rw [ltI_t (by omega), cond_true, cond_true]
  cases hd : due w.list w.ppu.T with
  | true =>
    obtain ⟨e, e1⟩ := due_cons hd
    have hd0 : rdE .t w.list (0 : Int) = headR w.list := by rw [e]; rfl
    have htl : List.drop (Int.toNat (1 : Int)) w.list = w.list.tail := by rw [e]; rfl
    rw [hd0, eqI_t e1, cond_true]
    show (bif ltI 0 (w.list.length : Int) then (bif leI 1 (w.list.length : Int) then (bif leN (0 + (List.drop (Int.toNat (1 : Int)) w.list).length) (E.most .t) then _ else none) else none) else none) = _
    rw [ltI_t (by omega), leI_t (by omega), htl, leN_t (by simp only [E.most, List.length_tail]; omega)]
    rw [cond_true, cond_true, cond_true]
    have hw := specPpuWrite_ok w.ppu h.ppu (headR w.list).2.1 (headR w.list).2.2
    rw [← hd0] at hw
    refine bind_step hw ?_
    unfold stepPic
    rw [hd, if_pos rfl, hd0]
    show some (((_, (_, (_, (_, (_, (_, (_, (_, (w.cap, (([] ++ List.drop (Int.toNat (1 : Int)) w.list), _)))))))))), (true, ())), ()) = _
    rw [htl]
    rfl
  | false =>
    have hne : (rdE .t w.list (0 : Int)).1 ≠ w.ppu.T := by
      obtain ⟨x, l, e⟩ : ∃ x l, w.list = x :: l := by
        cases hw : w.list with
        | nil => rw [hw] at h0; exact absurd rfl h0
        | cons x l => exact ⟨x, l, rfl⟩
      rw [e] at hd ⊢
      have hd : ¬ x.1 = w.ppu.T := by simpa [due] using hd
      exact hd
    rw [eqI_f hne, cond_false]
    exact l14Pic_tick w mark h hd

theorem l14Snd_tick (w : SndM) (mark : Int) (h : SndP w) (hd : due w.list w.apu.T = false) : (bif leI mark w.apu.T then some ((w.t, (false, ())), ()) else bif eqI w.apu.T 20000 then some ((w.t, (false, ())), ()) else (r216 (w.apu.t, ())).bind fun r0 =>
    bif r0.1.2.2.1 then (bif (leN (w.samples.length + 1) (E.most .i)) then (some (((r0.1.1.1, (r0.1.1.2.1, (r0.1.1.2.2.1, (r0.1.1.2.2.2.1, (r0.1.1.2.2.2.2.1, (r0.1.1.2.2.2.2.2.1, (r0.1.1.2.2.2.2.2.2.1, (w.cap, (w.list, ((w.samples ++ [r0.1.2.1]), ())))))))))), (true, ())), ()))
     else none)
    else some (((r0.1.1.1, (r0.1.1.2.1, (r0.1.1.2.2.1, (r0.1.1.2.2.2.1, (r0.1.1.2.2.2.2.1, (r0.1.1.2.2.2.2.2.1, (r0.1.1.2.2.2.2.2.2.1, (w.cap, (w.list, (w.samples, ())))))))))), (true, ())), ())) = some (((((stepSnd w mark).getD w).t), ((stepSnd w mark).isSome, ())), ()) := by
  have hf := samples_small h
  have ht := h.apu.t
  unfold stepSnd
  rw [hd, if_neg (by simp)]
  by_cases hm : w.apu.T < mark ∧ w.apu.T < 20000
  · rw [if_pos hm, leI_f (by omega), eqI_f (by omega), cond_false, cond_false]
    refine bind_step (l10Tick_ok w.apu h.apu hm.2) ?_
    cases hto : toldA w.apu with
    | true =>
      rw [leN_t (by simp only [E.most]; omega)]
      rfl
    | false => rfl
  · rw [if_neg hm]
    by_cases h1 : mark ≤ w.apu.T
    · rw [leI_t h1]; rfl
    · rw [leI_f h1, eqI_t (by omega)]; rfl

theorem l14Snd_ok (w : SndM) (mark : Int) (h : SndP w) : r112 (w.t, (mark, ())) = some ((((stepSnd w mark).getD w).t, ((stepSnd w mark).isSome, ())), ()) := by
  have hl := h.ring.len
  have hc := h.ring.c1
  unfold r112 m112
  show (bif ltI 0 (w.list.length : Int) then (bif ltI 0 (w.list.length : Int) then (bif eqI (rdE .t w.list (0 : Int)).1 w.apu.T then _ else _) else none) else _) = _
  by_cases h0 : w.list.length = 0
  · rw [ltI_f (by omega), cond_false]
    refine l14Snd_tick w mark h ?_
    rw [List.eq_nil_of_length_eq_zero h0]; rfl
  rw [ltI_t (by omega), cond_true, cond_true]
  cases hd : due w.list w.apu.T with
  | true =>
    obtain ⟨e, e1⟩ := due_cons hd
    have hd0 : rdE .t w.list (0 : Int) = headR w.list := by rw [e]; rfl
    have htl : List.drop (Int.toNat (1 : Int)) w.list = w.list.tail := by rw [e]; rfl
    rw [hd0, eqI_t e1, cond_true]
    show (bif ltI 0 (w.list.length : Int) then (bif leI 1 (w.list.length : Int) then (bif leN (0 + (List.drop (Int.toNat (1 : Int)) w.list).length) (E.most .t) then _ else none) else none) else none) = _
    rw [ltI_t (by omega), leI_t (by omega), htl, leN_t (by simp only [E.most, List.length_tail]; omega)]
    rw [cond_true, cond_true, cond_true]
    have hw := specApuWrite_ok w.apu h.apu (headR w.list).2.1 (headR w.list).2.2
    rw [← hd0] at hw
    refine bind_step hw ?_
    unfold stepSnd
    rw [hd, if_pos rfl, hd0]
    show some (((_, (_, (_, (_, (_, (_, (_, (w.cap, (([] ++ List.drop (Int.toNat (1 : Int)) w.list), _))))))))), (true, ())), ()) = _
    rw [htl]
    rfl
  | false =>
    have hne : (rdE .t w.list (0 : Int)).1 ≠ w.apu.T := by
      obtain ⟨x, l, e⟩ : ∃ x l, w.list = x :: l := by
        cases hw : w.list with
        | nil => rw [hw] at h0; exact absurd rfl h0
        | cons x l => exact ⟨x, l, rfl⟩
      rw [e] at hd ⊢
      have hd : ¬ x.1 = w.apu.T := by simpa [due] using hd
      exact hd
    rw [eqI_f hne, cond_false]
    exact l14Snd_tick w mark h hd

/-! ### caught up -/

theorem picCatch_loop (mark : Int) : ∀ (k : Nat) (w : PicM), PicP w → leftPic w < k → n160_0 r217 k (mark, ()) (w.t, ()) () = some (Sum.inl (), ((caughtPic w mark).t, ()))
  | 0, _, _, h => absurd h (by omega)
  | k + 1, w, h, hk => by
    show (r217 (w.t, (mark, ()))).bind _ = _
    refine bind_step (picStep_ok w mark h) ?_
    cases hs : stepPic w mark with
    | none => rw [caughtPic_none hs]; rfl
    | some v =>
      rw [caughtPic_some h hs]
      exact picCatch_loop mark k v (stepPic_P h hs).1 (by have := leftPic_lt h hs; omega)

theorem sndCatch_loop (mark : Int) : ∀ (k : Nat) (w : SndM), SndP w → leftSnd w < k → n161_0 r218 k (mark, ()) (w.t, ()) () = some (Sum.inl (), ((caughtSnd w mark).t, ()))
  | 0, _, _, h => absurd h (by omega)
  | k + 1, w, h, hk => by
    show (r218 (w.t, (mark, ()))).bind _ = _
    refine bind_step (sndStep_ok w mark h) ?_
    cases hs : stepSnd w mark with
    | none => rw [caughtSnd_none hs]; rfl
    | some v =>
      rw [caughtSnd_some h hs]
      exact sndCatch_loop mark k v (stepSnd_P h hs).1 (by have := leftSnd_lt h hs; omega)

theorem leftPic_fuel {w : PicM} (h : PicP w) : leftPic w < fuel := by
  have := fuel_big
  have h1 := h.ppu.t
  have h2 := h.ring.len
  have h3 := h.ring.c1
  unfold leftPic
  omega
theorem leftSnd_fuel {w : SndM} (h : SndP w) : leftSnd w < fuel := by
  have := fuel_big
  have h1 := h.apu.t
  have h2 := h.ring.len
  have h3 := h.ring.c1
  unfold leftSnd
  omega

theorem picCatch_ok (w : PicM) (mark : Int) (h : PicP w) : r160 (w.t, (mark, ())) = some ((), ((caughtPic w mark).t, ())) := by
  unfold r160 m160 L160_0
  exact bind_step (picCatch_loop mark fuel w h (leftPic_fuel h)) rfl

theorem sndCatch_ok (w : SndM) (mark : Int) (h : SndP w) : r161 (w.t, (mark, ())) = some ((), ((caughtSnd w mark).t, ())) := by
  unfold r161 m161 L161_0
  exact bind_step (sndCatch_loop mark fuel w h (leftSnd_fuel h)) rfl

theorem specPicCatch_loop (mark : Int) : ∀ (k : Nat) (w : PicM), PicP w → leftPic w + 1 < k → n60_0 r139 r111 r134 k (mark, ()) (w.t, ()) (true, ()) = some (Sum.inl (false, ()), ((caughtPic w mark).t, ()))
  | 0, _, _, h => absurd h (by omega)
  | k + 1, w, h, hk => by
    show (r111 (w.t, (mark, ()))).bind _ = _
    refine bind_step (l14Pic_ok w mark h) ?_
    cases hs : stepPic w mark with
    | none =>
      rw [caughtPic_none hs]
      obtain ⟨j, rfl⟩ : ∃ j, k = j + 1 := ⟨k - 1, by omega⟩
      rfl
    | some v =>
      rw [caughtPic_some h hs]
      exact specPicCatch_loop mark k v (stepPic_P h hs).1 (by have := leftPic_lt h hs; omega)

theorem specSndCatch_loop (mark : Int) : ∀ (k : Nat) (w : SndM), SndP w → leftSnd w + 1 < k → n61_0 r140 r112 r135 k (mark, ()) (w.t, ()) (true, ()) = some (Sum.inl (false, ()), ((caughtSnd w mark).t, ()))
  | 0, _, _, h => absurd h (by omega)
  | k + 1, w, h, hk => by
    show (r112 (w.t, (mark, ()))).bind _ = _
    refine bind_step (l14Snd_ok w mark h) ?_
    cases hs : stepSnd w mark with
    | none =>
      rw [caughtSnd_none hs]
      obtain ⟨j, rfl⟩ : ∃ j, k = j + 1 := ⟨k - 1, by omega⟩
      rfl
    | some v =>
      rw [caughtSnd_some h hs]
      exact specSndCatch_loop mark k v (stepSnd_P h hs).1 (by have := leftSnd_lt h hs; omega)

theorem l14Picture_ok (w : PicM) (h : PicP w) : r134 (w.t, ()) = some ((w.t, ()), ()) := by
  have hs := h.s
  unfold r134 m134
  exact bind_step (l8Copy_ok w.ppu.t h.ppu.s) (bind_step (l13Copy_ok (w.cap, (w.list, ())) hs.2.1) (bind_step (l12List_ok w.frames hs.2.2) rfl))

theorem l14Sound_ok (w : SndM) (h : SndP w) : r135 (w.t, ()) = some ((w.t, ()), ()) := by
  have hs := h.s
  have hl : w.samples.length ≤ 4398046511104 := hs.2
  unfold r135 m135
  refine bind_step (l13Copy_ok (w.cap, (w.list, ())) hs.1) ?_
  show (bif leN (0 + w.samples.length) (E.most .i) then _ else none) = _
  rw [leN_t (by simp only [E.most]; omega)]
  rfl

theorem specPictureCatch_ok (w : PicM) (mark : Int) (h : PicP w) : r60 (w.t, (mark, ())) = some (((caughtPic w mark).t, ()), ()) := by
  unfold r60 m60 L60_0
  have hf := fuel_big
  have hok : r139 (w.t, ()) = some ((true, ()), ()) := by rw [specPictureOk_ok w.t h.s, picOk_iff.2 h]
  refine bind_step hok (bind_step (l14Picture_ok w h) (bind_step (specPicCatch_loop mark fuel w h (by have := leftPic_fuel h; have h1 := h.ppu.t; have h2 := h.ring.len; have h3 := h.ring.c1; unfold leftPic; omega)) rfl))

theorem specSoundCatch_ok (w : SndM) (mark : Int) (h : SndP w) : r61 (w.t, (mark, ())) = some (((caughtSnd w mark).t, ()), ()) := by
  unfold r61 m61 L61_0
  have hf := fuel_big
  have hok : r140 (w.t, ()) = some ((true, ()), ()) := by rw [specSoundOk_ok w.t h.s, sndOk_iff.2 h]
  refine bind_step hok (bind_step (l14Sound_ok w h) (bind_step (specSndCatch_loop mark fuel w h (by have h1 := h.apu.t; have h2 := h.ring.len; have h3 := h.ring.c1; unfold leftSnd; omega)) rfl))


/-! ### what it waits for -/
end Go.Proofs.YtanoofbkhddokaaGreat.Plain
