/- A law answers true. No condition. -/
import Derived.Test.YtanoofbkhddokaaGreatPF
set_option linter.unusedVariables false
set_option linter.unusedSimpArgs false
namespace Go.Proofs.YtanoofbkhddokaaGreat.Plain
open Go Go.Tev

theorem plain9 : ∀ y : PTup i9, wfTs i9 y → ∃ b, r9 y = some ((true, ()), b) := by
  rintro ⟨s, (l : List Int), _⟩ ⟨ws, wl, _⟩
  refine ⟨(), ?_⟩
  unfold r9 m9
  show (bif ltI 1048576 (l.length : Int) then _ else _) = _
  by_cases hbig : 1048576 < l.length
  · rw [ltI_t (by omega)]; rfl
  rw [ltI_f (by omega), cond_false]
  have hl : l.length ≤ 4398046511104 := by omega
  obtain ⟨m, e1, h1, k1⟩ := szSplit_ok s 1048576 (by omega) (by omega) ws
  refine bind_step e1 ?_
  by_cases hm : m < 0
  · rw [ltI_t hm]; rfl
  rw [ltI_f hm, cond_false]
  obtain ⟨os, hr⟩ := k1 (by omega)
  have hr : (spM s).reads.length ≤ 1048576 := hr
  have hs : splitOkS (spM s).t := os
  have hroom := room_of hr
  have hb0 := enSplit_b os
  have o1 := playA_S hs hr l
  have kS := specPlay_a (spM s) l hs hr hl
  have kI := implPlay_a (spM s) l hs hr hl
  generalize playA (spM s) l = g at o1 kS kI
  obtain ⟨g, c⟩ := g
  have o1 : splitOkS g := o1
  have hb1 := (spB o1).b6
  refine bind_step (toSplit_ok s os) (bind_step (toIntS_ok l hl) (bind_step kS (bind_step (toSplit_ok s os) (bind_step (toIntS_ok l hl) (bind_step kI (bind_step (eqSplit_self g o1) ?_))))))
  rw [Bool.not_true, cond_false, neI_self, cond_false]
  refine bind_step (toSplit_ok s os) (bind_step (eqSplit_self s os) ?_)
  refine bind_step (toIntS_ok l hl) (bind_step (eqI_ok1 l hl) ?_)
  refine bind_step (markSplit_k s os) (bind_step (markIntS_ok l (enSplit s 1) (by omega) (by omega)) ?_)
  have hb2 : 0 ≤ enSplit s 1 + (l.length : Int) := by omega
  rw [ltI_f (show ¬ enSplit s 1 + (l.length : Int) < 0 by omega), cond_false]
  refine bind_step (eqSplit_self g o1) ?_
  rw [Bool.not_true, cond_false, cond_false]
  refine bind_step (markSplit_k g o1) (bind_step (heldSplit_ok g o1) ?_)
  rw [ltI_f (show ¬ enSplit g 1 < 0 by omega), cond_false, neI_self, cond_false]
  refine bind_step (toSplit_ok s os) (bind_step (toIntS_ok l hl) (bind_step kI (bind_step (eqSplit_self g o1) ?_)))
  rw [Bool.not_true, cond_false, neI_self, cond_false]
  refine bind_step (heldSplit_ok g o1) ?_
  rw [ltI_f (show ¬ enSplit g 1 < 0 by omega), cond_false, neI_self, cond_false]


end Go.Proofs.YtanoofbkhddokaaGreat.Plain
