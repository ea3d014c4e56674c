/- The law FnShown answers true whatever its arguments, and leaves them as they were; the package variables that its row lists are tied to the program's text. No other condition. -/
import Derived.Test.YtjagjoolnoodaaaDoorRows
import Derived.Test.YtjagjoolnoodaaaDoorCards
import Derived.Test.YtjagjoolnoodaaaDoorTie
import Derived.Test.YtjagjoolnoodaaaDoorX
import Derived.Test.YtjagjoolnoodaaaDoorPLawFnShown
import Derived.ProofKit
import Derived.OpenShut
import Derived.ChangeOld
import Derived.Below
import Derived.SizedLaws
import Derived.HandedShaped
import Derived.Lay
import Derived.SevenTiedAt
import Derived.MakeChecks
set_option linter.unusedVariables false
namespace Go.Proofs.YtjagjoolnoodaaaDoor.fnShown
open Go.ChangeShapes Go.WideShapes Go.ChangeAt Go.RowKit Go.Tev Plain
theorem own : ownKnob Tryd.prog.godebug = Option.none := by kernel_rfl
theorem laidOut : laidOutB Tryd.prog = true := by kernel_rfl
def laid : List (String × DataW Unit) := Rows.fnShownRow.laid
theorem plainH (w : World) : laidMetH Tryd.prog laid w = laidMet Tryd.prog laid w := MakeChecks.laidMetH_plain _ _ _ (by kernel_rfl)
set_option maxRecDepth 100000 in
theorem lifted (os : Os) (started : os.Started) (H : Type) (enc : TypeId × Value → H) :
    ReturnsInHanded {} Tryd.checked os 4 .any (fun w args => (Rows.fnShownSpec.pre enc Tryd.prog Tryd.f4 [] false w args ∧ laidMetH Tryd.prog laid w) ∧ sizedMet enc Tryd.prog Tryd.f4 (OpenSpec.ofChange Rows.fnShownSpec) false w args)
      (Rows.fnShownSpec.post enc Tryd.prog Tryd.f4 false true false false) := by
  refine returnsInHanded_of_calls (C := Tryd.checked) own started (by kernel_rfl)
    (ChangeSpec.witness_shaped (enc := enc) (C := Tryd.checked) (os := os) (conds := []) (X := fun w _ => laidMetH Tryd.prog laid w) false (World.laidAll Tryd.prog os laid) #[.slice none 0 0] 12 (World.laidAll_os _ _ _)
      (World.shaped_of_ZipB (by kernel_rfl) (by kernel_rfl)) (by kernel_rfl) (by kernel_rfl) (by kernel_rfl)
      (by rw [plainH]; exact laidMet_laidAll _ (by kernel_rfl) (by kernel_rfl))) ?_
  intro w tape i _ hsh _ hok hpre _
  obtain ⟨_, _, _, fn', hfn', _, _, _, _, hval⟩ := hok
  have e : fn' = Tryd.f4 := Option.some.inj (hfn'.symm.trans Tryd.func4)
  subst e
  obtain ⟨⟨⟨ds, gs, before, hw0, _⟩, hx⟩, _⟩ := hpre
  have hW := DataW.Whole.of_heap (w' := w.forCall tape i) (by rfl) hw0
  have hx : laidMetH Tryd.prog laid (w.forCall tape i) := hx.of_heap (by rfl)
  rw [plainH] at hx
  have hf : Glb.fact (w.forCall tape i) := fact_of hsh hx
  have hb := blk_lt hf
  generalize hZ : w.forCall tape i = W at hW hf hsh hval
  generalize hargs : i.args = args at hW hval
  generalize w.heap.size = base at hval
  clear hx hw0 hfn' hsh
  have hW' := hW
  obtain ⟨p, q, hA, hV, rfl, _, _⟩ := hW
  obtain ⟨rfl, rfl⟩ := trodVars_none hV
  have hT : tysT Tryd.prog Tryd.f4.params.toList = some i4 := by kernel_rfl
  have hP : plains i4 = true := by kernel_rfl
  have hS : staysB Tryd.prog Tryd.f4.params.toList = true := by kernel_rfl
  obtain ⟨y, hy, hw⟩ := open_all hT hP (fun j t v h1 h2 => hval j t v (by simpa using h1) (by simpa using h2)) hA
  refine (law_calls k4 hy (trodAll_lt hA) (hZ ▸ hb) hf (plain4 y hw)).mono fun e W' ⟨he, bel⟩ => ?_
  subst he
  have hB := trodAll_stays laidOut bel hS hA
  have hA2 := hA
  obtain ⟨v0, vs0, d0, ds0, p0, q0, hargs0, rfl, rfl, h0, r0⟩ := trodAll_cons hA2
  obtain ⟨_, rfl, rfl⟩ := trodAll_nil r0
  exact ChangeSpec.post_blind ⟨_, _, _, [], _, [], hW', trodAll_mk1 (shut_bool (by kernel_rfl) _), hB, rfl, bel.frame _, fun h => by cases h⟩
/-- The facts of the row, in five parts: each is asked of the kernel for itself, so that its memory comes back. -/
theorem closed_of {P : Program} {f : FuncId} {fn : Func} {s : ChangeSpec} {c : OpenClaim} 
    (h0 : (c.wf (OpenSpec.ofChange s) && laidOutB P && mapsRowed P && fn.params.all (P.readableRec ·) && namedTie P c.named s.vars && (c.stops == []) && (P.stops == []) && (c.knobs == []) && (P.stopKnobs == [])) = true)
    (h1 : ((c.inPlace == P.inPlace f) && (c.unfollowed == P.unfollowed f) && (c.recurses == P.recurses f) && (c.named == P.varsNamed f)) = true)
    (h2 : ((c.maps == (fn.params.toList ++ s.plain.varTypes P).any (P.mapsRec ·)) && (c.ifaces == (fn.params.toList ++ s.plain.varTypes P).any (P.ifacesRec ·)) && (c.mapsOut == P.mapsAmong fn.resultTypes.toList) && (c.loops == (fn.params.toList ++ s.plain.varTypes P).any (P.loopsFrom ·)) && (c.wideKeys == (fn.params.toList ++ s.plain.varTypes P ++ fn.resultTypes.toList).any (P.wideKeysFrom ·)) && s.vars.all (P.varReadable ·) && fn.resultTypes.all (fun t => P.readableRec t && decide (t < P.types.size)) && (c.ifacesOut == fn.resultTypes.toList.any (P.ifacesRec ·)) && (c.loopsOut == fn.resultTypes.toList.any (P.loopsFrom ·)) && (c.plainKeys == P.plainKeys) && c.shortTexts.isNone && P.stopsHeard) = true)
    (h3 : (P.mayEnter && (c.lifted == P.liftsFinal) && (P.make == some c.make)) = true)
    (h4 : ((c.kinds == (if c.domain.isEmpty then [] else fn.params.toList.map fun t => match P.underlying t with | some (.int k) => some k | _ => none)) && (c.pinned == c.pinnedBy) && (c.veiled == (fn.params.toList ++ s.plain.varTypes P ++ fn.resultTypes.toList).any (P.veiledRec ·)) && c.veiledFits P fn.params.toList (fn.params.toList ++ s.plain.varTypes P ++ fn.resultTypes.toList)) = true) : joinedFacts P f fn s c = true := by
  unfold joinedFacts
  simp only [Bool.and_eq_true] at h0 h1 h2 h3 h4 ⊢
  obtain ⟨⟨⟨⟨⟨⟨⟨⟨a0, a1⟩, a2⟩, a3⟩, a4⟩, a5⟩, a6⟩, a7⟩, a8⟩ := h0
  obtain ⟨⟨⟨b0, b1⟩, b2⟩, b3⟩ := h1
  obtain ⟨⟨⟨⟨⟨⟨⟨⟨⟨⟨⟨c0, c1⟩, c2⟩, c3⟩, c4⟩, c5⟩, c6⟩, c7⟩, c8⟩, c9⟩, c10⟩, c11⟩ := h2
  obtain ⟨⟨d0, d1⟩, d2⟩ := h3
  obtain ⟨⟨⟨e0, e1⟩, e2⟩, e3⟩ := h4
  exact ⟨⟨⟨⟨⟨⟨⟨⟨⟨⟨⟨⟨⟨⟨⟨⟨⟨⟨⟨⟨⟨⟨⟨⟨⟨⟨⟨⟨⟨⟨⟨a0, a1⟩, a2⟩, a3⟩, a4⟩, a5⟩, a6⟩, a7⟩, a8⟩, b0⟩, b1⟩, b2⟩, b3⟩, c0⟩, c1⟩, c2⟩, c3⟩, c4⟩, c5⟩, c6⟩, c7⟩, c8⟩, c9⟩, c10⟩, c11⟩, d0⟩, d1⟩, d2⟩, e0⟩, e1⟩, e2⟩, e3⟩
theorem closed0 : (Rows.fnShownRow.wf (OpenSpec.ofChange Rows.fnShownSpec) && laidOutB Tryd.pinned.checked.prog && mapsRowed Tryd.pinned.checked.prog && Tryd.f4.params.all (Tryd.pinned.checked.prog.readableRec ·) && namedTie Tryd.pinned.checked.prog Rows.fnShownRow.named Rows.fnShownSpec.vars && (Rows.fnShownRow.stops == []) && (Tryd.pinned.checked.prog.stops == []) && (Rows.fnShownRow.knobs == []) && (Tryd.pinned.checked.prog.stopKnobs == [])) = true := by kernel_rfl
theorem closed1 : ((Rows.fnShownRow.inPlace == Tryd.pinned.checked.prog.inPlace 4) && (Rows.fnShownRow.unfollowed == Tryd.pinned.checked.prog.unfollowed 4) && (Rows.fnShownRow.recurses == Tryd.pinned.checked.prog.recurses 4) && (Rows.fnShownRow.named == Tryd.pinned.checked.prog.varsNamed 4)) = true := by kernel_rfl
theorem closed2 : ((Rows.fnShownRow.maps == (Tryd.f4.params.toList ++ Rows.fnShownSpec.plain.varTypes Tryd.pinned.checked.prog).any (Tryd.pinned.checked.prog.mapsRec ·)) && (Rows.fnShownRow.ifaces == (Tryd.f4.params.toList ++ Rows.fnShownSpec.plain.varTypes Tryd.pinned.checked.prog).any (Tryd.pinned.checked.prog.ifacesRec ·)) && (Rows.fnShownRow.mapsOut == Tryd.pinned.checked.prog.mapsAmong Tryd.f4.resultTypes.toList) && (Rows.fnShownRow.loops == (Tryd.f4.params.toList ++ Rows.fnShownSpec.plain.varTypes Tryd.pinned.checked.prog).any (Tryd.pinned.checked.prog.loopsFrom ·)) && (Rows.fnShownRow.wideKeys == (Tryd.f4.params.toList ++ Rows.fnShownSpec.plain.varTypes Tryd.pinned.checked.prog ++ Tryd.f4.resultTypes.toList).any (Tryd.pinned.checked.prog.wideKeysFrom ·)) && Rows.fnShownSpec.vars.all (Tryd.pinned.checked.prog.varReadable ·) && Tryd.f4.resultTypes.all (fun t => Tryd.pinned.checked.prog.readableRec t && decide (t < Tryd.pinned.checked.prog.types.size)) && (Rows.fnShownRow.ifacesOut == Tryd.f4.resultTypes.toList.any (Tryd.pinned.checked.prog.ifacesRec ·)) && (Rows.fnShownRow.loopsOut == Tryd.f4.resultTypes.toList.any (Tryd.pinned.checked.prog.loopsFrom ·)) && (Rows.fnShownRow.plainKeys == Tryd.pinned.checked.prog.plainKeys) && Rows.fnShownRow.shortTexts.isNone && Tryd.pinned.checked.prog.stopsHeard) = true := by kernel_rfl
theorem closed3 : (Tryd.pinned.checked.prog.mayEnter && (Rows.fnShownRow.lifted == Tryd.pinned.checked.prog.liftsFinal) && (Tryd.pinned.checked.prog.make == some Rows.fnShownRow.make)) = true := by kernel_rfl
theorem closed4 : ((Rows.fnShownRow.kinds == (if Rows.fnShownRow.domain.isEmpty then [] else Tryd.f4.params.toList.map fun t => match Tryd.pinned.checked.prog.underlying t with | some (.int k) => some k | _ => none)) && (Rows.fnShownRow.pinned == Rows.fnShownRow.pinnedBy) && (Rows.fnShownRow.veiled == (Tryd.f4.params.toList ++ Rows.fnShownSpec.plain.varTypes Tryd.pinned.checked.prog ++ Tryd.f4.resultTypes.toList).any (Tryd.pinned.checked.prog.veiledRec ·)) && Rows.fnShownRow.veiledFits Tryd.pinned.checked.prog Tryd.f4.params.toList (Tryd.f4.params.toList ++ Rows.fnShownSpec.plain.varTypes Tryd.pinned.checked.prog ++ Tryd.f4.resultTypes.toList)) = true := by kernel_rfl
theorem closed : joinedFacts Tryd.pinned.checked.prog 4 Tryd.f4 Rows.fnShownSpec Rows.fnShownRow = true := closed_of closed0 closed1 closed2 closed3 closed4
theorem over : Rows.fnShownRow.holds Tryd.pinned (OpenSpec.ofChange Rows.fnShownSpec) :=
  OpenClaim.holds_of_wide 4 Tryd.f4 rfl rfl rfl rfl rfl rfl rfl ⟨rfl, rfl, rfl, rfl, rfl⟩ rfl rfl rfl rfl rfl (by kernel_rfl) Tryd.func4 closed
    (of_decide_eq_true (by kernel_rfl)) (by unfold Func.isWrapper; first | (rw [if_pos (by decide +kernel)]; kernel_rfl) | (rw [if_neg (by decide +kernel)]; exact ⟨rfl, rfl⟩))
    (fun os started H enc _ => lifted os started H enc)
theorem card : Claim7.holds Tryd.pinned (.plain (OpenSpec.ofChange Rows.fnShownSpec)) Rows.fnShownCard :=
  Claim7.holds_tied_plain_at .later [] [.data, .data, .data] true (true, "d0e98a31b1187d753b37ae843bef61eb402001e361097f7283ab19a0513a7539") false over (fun _ h => by cases h) (by kernel_rfl) (fun _ h => by cases h) fnShown_row_tie rfl ⟨rfl, rfl⟩ (by kernel_rfl) rfl
    (fun f fn hf hfn => by
      obtain rfl : f = 4 := Option.some.inj ((show Tryd.prog.funcNamed Rows.fnShownRow.func = some 4 by kernel_rfl).symm.trans hf) |>.symm
      obtain rfl : fn = Tryd.f4 := (Option.some.inj (Tryd.func4.symm.trans hfn)).symm
      exact ⟨by kernel_rfl, fun j t ht => by
        have hm : t ∈ Tryd.f4.params.toList := by simpa using Array.mem_of_getElem? ht
        have hall : (Tryd.f4.params.toList.all fun u => !Tryd.prog.wantsStandIn u) = true := by kernel_rfl
        exact (show Tryd.prog.wantsStandIn t = false by simpa using List.all_eq_true.1 hall t hm)⟩)
    (by kernel_rfl)
end Go.Proofs.YtjagjoolnoodaaaDoor.fnShown
namespace Go.Proofs.YtjagjoolnoodaaaDoor
/-- The card, under a short name, for the claim. -/
theorem fnShown_holds : Rows.FnShownCardSaid := fnShown.card
#print axioms fnShown_holds
end Go.Proofs.YtjagjoolnoodaaaDoor
