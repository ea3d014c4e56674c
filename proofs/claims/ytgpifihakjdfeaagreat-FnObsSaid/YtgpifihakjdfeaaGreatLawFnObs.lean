/- The law FnObs answers true whatever its arguments, and leaves them as they were. No condition. -/
import Derived.Test.YtgpifihakjdfeaaGreatRows
import Derived.Test.YtgpifihakjdfeaaGreatW5
import Derived.Test.YtgpifihakjdfeaaGreatPLawFnObs
import Derived.ProofKit
import Derived.OpenShut
import Derived.ChangeOld
import Derived.Below
import Derived.SizedLaws
set_option linter.unusedVariables false
namespace Go.Proofs.YtgpifihakjdfeaaGreat.fnObs
open Go.ChangeShapes Go.WideShapes Go.ChangeAt Go.RowKit Go.Tev Plain
theorem own : ownKnob Tryz.prog.godebug = none := by kernel_rfl
theorem laidOut : laidOutB Tryz.prog = true := by kernel_rfl
set_option maxRecDepth 100000 in
theorem lifted (os : Os) (started : os.Started) (H : Type) (enc : TypeId × Value → H) :
    ReturnsInHanded {} Tryz.checked os 5 .any (Rows.fnObsSpec.pre6 enc Tryz.prog Tryz.f5 Rows.fnObsRow.domain false) (Rows.fnObsSpec.post enc Tryz.prog Tryz.f5 false true false false) := by
  refine returnsInHanded_of_change_sized (C := Tryz.checked) own started (by kernel_rfl) Tryz.func5
    (ChangeSpec.witness6 (enc := enc) (C := Tryz.checked) false ⟨#[], #[.slice none 0 0], []⟩ 12 (by kernel_rfl) (by kernel_rfl) (by kernel_rfl) (by kernel_rfl)) ?_
  intro W base args ds gs before hval hW _ _ _
  have hW' := hW
  obtain ⟨p, q, hA, hV, rfl, _, _⟩ := hW
  obtain ⟨rfl, rfl⟩ := trodVars_none hV
  have hT : tysT Tryz.prog Tryz.f5.params.toList = some i5 := by kernel_rfl
  have hP : plains i5 = true := by kernel_rfl
  have hS : staysB Tryz.prog Tryz.f5.params.toList = true := by kernel_rfl
  obtain ⟨y, hy, hw⟩ := open_all hT hP (fun j t v h1 h2 => hval j t v (by simpa using h1) (by simpa using h2)) hA
  refine (law_calls k5 hy (trodAll_lt hA) (fun _ (h : False) => h.elim) trivial (plain5 y hw)).mono fun e W' ⟨he, bel⟩ => ?_
  subst he
  have hB := trodAll_stays laidOut bel hS hA
  have hA2 := hA
  obtain ⟨v0, vs0, d0, ds0, p0, q0, hargs0, rfl, rfl, h0, r0⟩ := trodAll_cons hA2
  obtain ⟨_, rfl, rfl⟩ := trodAll_nil r0
  exact ⟨_, rfl, _, _, _, [], _, [], hW', trodAll_mk1 (shut_bool (by kernel_rfl) _), hB, rfl, bel.frame _, fun h => by cases h⟩
/-- The facts of the row, in five parts: each is asked of the kernel for itself, so that its memory comes back. -/
theorem closed_of {P : Program} {f : FuncId} {fn : Func} {s : ChangeSpec} {c : OpenClaim} 
    (h0 : (c.wf (OpenSpec.ofChange s) && laidOutB P && mapsRowed P && fn.params.all (P.readableRec ·) && namedTie P c.named s.vars && (c.stops == []) && (P.stops == []) && (c.knobs == []) && (P.stopKnobs == [])) = true)
    (h1 : ((c.inPlace == P.inPlace f) && (c.unfollowed == P.unfollowed f) && (c.recurses == P.recurses f) && (c.named == P.varsNamed f)) = true)
    (h2 : ((c.maps == (fn.params.toList ++ s.plain.varTypes P).any (P.mapsRec ·)) && (c.ifaces == (fn.params.toList ++ s.plain.varTypes P).any (P.ifacesRec ·)) && (c.mapsOut == P.mapsAmong fn.resultTypes.toList) && (c.loops == (fn.params.toList ++ s.plain.varTypes P).any (P.loopsFrom ·)) && (c.wideKeys == (fn.params.toList ++ s.plain.varTypes P ++ fn.resultTypes.toList).any (P.wideKeysFrom ·)) && s.vars.all (P.varReadable ·) && fn.resultTypes.all (fun t => P.readableRec t && decide (t < P.types.size)) && (c.ifacesOut == fn.resultTypes.toList.any (P.ifacesRec ·)) && (c.loopsOut == fn.resultTypes.toList.any (P.loopsFrom ·)) && (c.plainKeys == P.plainKeys) && c.shortTexts.isNone && P.stopsHeard) = true)
    (h3 : (P.mayEnter && (c.lifted == P.liftsFinal) && (P.make == some c.make)) = true)
    (h4 : ((c.kinds == (if c.domain.isEmpty then [] else fn.params.toList.map fun t => match P.underlying t with | some (.int k) => some k | _ => none)) && (c.pinned == c.pinnedBy) && (c.veiled == (fn.params.toList ++ s.plain.varTypes P ++ fn.resultTypes.toList).any (P.veiledRec ·)) && c.veiledFits P fn.params.toList (fn.params.toList ++ s.plain.varTypes P ++ fn.resultTypes.toList)) = true) : joinedFacts P f fn s c = true := by
  unfold joinedFacts
  simp only [Bool.and_eq_true] at h0 h1 h2 h3 h4 ⊢
  obtain ⟨⟨⟨⟨⟨⟨⟨⟨a0, a1⟩, a2⟩, a3⟩, a4⟩, a5⟩, a6⟩, a7⟩, a8⟩ := h0
  obtain ⟨⟨⟨b0, b1⟩, b2⟩, b3⟩ := h1
  obtain ⟨⟨⟨⟨⟨⟨⟨⟨⟨⟨⟨c0, c1⟩, c2⟩, c3⟩, c4⟩, c5⟩, c6⟩, c7⟩, c8⟩, c9⟩, c10⟩, c11⟩ := h2
  obtain ⟨⟨d0, d1⟩, d2⟩ := h3
  obtain ⟨⟨⟨e0, e1⟩, e2⟩, e3⟩ := h4
  exact ⟨⟨⟨⟨⟨⟨⟨⟨⟨⟨⟨⟨⟨⟨⟨⟨⟨⟨⟨⟨⟨⟨⟨⟨⟨⟨⟨⟨⟨⟨⟨a0, a1⟩, a2⟩, a3⟩, a4⟩, a5⟩, a6⟩, a7⟩, a8⟩, b0⟩, b1⟩, b2⟩, b3⟩, c0⟩, c1⟩, c2⟩, c3⟩, c4⟩, c5⟩, c6⟩, c7⟩, c8⟩, c9⟩, c10⟩, c11⟩, d0⟩, d1⟩, d2⟩, e0⟩, e1⟩, e2⟩, e3⟩
theorem closed0 : (Rows.fnObsRow.wf (OpenSpec.ofChange Rows.fnObsSpec) && laidOutB Tryz.pinned.checked.prog && mapsRowed Tryz.pinned.checked.prog && Tryz.f5.params.all (Tryz.pinned.checked.prog.readableRec ·) && namedTie Tryz.pinned.checked.prog Rows.fnObsRow.named Rows.fnObsSpec.vars && (Rows.fnObsRow.stops == []) && (Tryz.pinned.checked.prog.stops == []) && (Rows.fnObsRow.knobs == []) && (Tryz.pinned.checked.prog.stopKnobs == [])) = true := by kernel_rfl
theorem closed1 : ((Rows.fnObsRow.inPlace == Tryz.pinned.checked.prog.inPlace 5) && (Rows.fnObsRow.unfollowed == Tryz.pinned.checked.prog.unfollowed 5) && (Rows.fnObsRow.recurses == Tryz.pinned.checked.prog.recurses 5) && (Rows.fnObsRow.named == Tryz.pinned.checked.prog.varsNamed 5)) = true := by kernel_rfl
theorem closed2 : ((Rows.fnObsRow.maps == (Tryz.f5.params.toList ++ Rows.fnObsSpec.plain.varTypes Tryz.pinned.checked.prog).any (Tryz.pinned.checked.prog.mapsRec ·)) && (Rows.fnObsRow.ifaces == (Tryz.f5.params.toList ++ Rows.fnObsSpec.plain.varTypes Tryz.pinned.checked.prog).any (Tryz.pinned.checked.prog.ifacesRec ·)) && (Rows.fnObsRow.mapsOut == Tryz.pinned.checked.prog.mapsAmong Tryz.f5.resultTypes.toList) && (Rows.fnObsRow.loops == (Tryz.f5.params.toList ++ Rows.fnObsSpec.plain.varTypes Tryz.pinned.checked.prog).any (Tryz.pinned.checked.prog.loopsFrom ·)) && (Rows.fnObsRow.wideKeys == (Tryz.f5.params.toList ++ Rows.fnObsSpec.plain.varTypes Tryz.pinned.checked.prog ++ Tryz.f5.resultTypes.toList).any (Tryz.pinned.checked.prog.wideKeysFrom ·)) && Rows.fnObsSpec.vars.all (Tryz.pinned.checked.prog.varReadable ·) && Tryz.f5.resultTypes.all (fun t => Tryz.pinned.checked.prog.readableRec t && decide (t < Tryz.pinned.checked.prog.types.size)) && (Rows.fnObsRow.ifacesOut == Tryz.f5.resultTypes.toList.any (Tryz.pinned.checked.prog.ifacesRec ·)) && (Rows.fnObsRow.loopsOut == Tryz.f5.resultTypes.toList.any (Tryz.pinned.checked.prog.loopsFrom ·)) && (Rows.fnObsRow.plainKeys == Tryz.pinned.checked.prog.plainKeys) && Rows.fnObsRow.shortTexts.isNone && Tryz.pinned.checked.prog.stopsHeard) = true := by kernel_rfl
theorem closed3 : (Tryz.pinned.checked.prog.mayEnter && (Rows.fnObsRow.lifted == Tryz.pinned.checked.prog.liftsFinal) && (Tryz.pinned.checked.prog.make == some Rows.fnObsRow.make)) = true := by kernel_rfl
theorem closed4 : ((Rows.fnObsRow.kinds == (if Rows.fnObsRow.domain.isEmpty then [] else Tryz.f5.params.toList.map fun t => match Tryz.pinned.checked.prog.underlying t with | some (.int k) => some k | _ => none)) && (Rows.fnObsRow.pinned == Rows.fnObsRow.pinnedBy) && (Rows.fnObsRow.veiled == (Tryz.f5.params.toList ++ Rows.fnObsSpec.plain.varTypes Tryz.pinned.checked.prog ++ Tryz.f5.resultTypes.toList).any (Tryz.pinned.checked.prog.veiledRec ·)) && Rows.fnObsRow.veiledFits Tryz.pinned.checked.prog Tryz.f5.params.toList (Tryz.f5.params.toList ++ Rows.fnObsSpec.plain.varTypes Tryz.pinned.checked.prog ++ Tryz.f5.resultTypes.toList)) = true := by kernel_rfl
theorem closed : joinedFacts Tryz.pinned.checked.prog 5 Tryz.f5 Rows.fnObsSpec Rows.fnObsRow = true := closed_of closed0 closed1 closed2 closed3 closed4
theorem over : Rows.fnObsRow.holds Tryz.pinned (OpenSpec.ofChange Rows.fnObsSpec) :=
  OpenClaim.holds_of_wide 5 Tryz.f5 rfl rfl rfl rfl rfl rfl rfl ⟨rfl, rfl, rfl, rfl, rfl⟩ rfl rfl rfl rfl rfl (by kernel_rfl) Tryz.func5 closed
    (of_decide_eq_true (by kernel_rfl)) (by unfold Func.isWrapper; first | (rw [if_pos (by decide +kernel)]; kernel_rfl) | (rw [if_neg (by decide +kernel)]; exact ⟨rfl, rfl⟩))
    (fun os started H enc _ => lifted os started H enc)
end Go.Proofs.YtgpifihakjdfeaaGreat.fnObs
namespace Go.Proofs.YtgpifihakjdfeaaGreat
/-- The row, under a short name, for the claim. -/
theorem fnObs_holds : Rows.FnObsSaid := fnObs.over
#print axioms fnObs_holds
end Go.Proofs.YtgpifihakjdfeaaGreat
