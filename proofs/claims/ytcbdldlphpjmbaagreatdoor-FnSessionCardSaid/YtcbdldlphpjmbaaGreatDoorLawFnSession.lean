/- The law FnSession answers true whatever its arguments, and leaves them as they were; the package variables that its row lists are tied to the program's text. No other condition. -/
import Derived.Test.YtcbdldlphpjmbaaGreatDoorRows
import Derived.Test.YtcbdldlphpjmbaaGreatDoorCards
import Derived.Test.YtcbdldlphpjmbaaGreatDoorTie
import Derived.Test.YtcbdldlphpjmbaaGreatDoorX
import Derived.Test.YtcbdldlphpjmbaaGreatDoorPLawFnSession
import Derived.ProofKit
import Derived.OpenShut
import Derived.ChangeOld
import Derived.Below
import Derived.SizedLaws
import Derived.HandedShaped
import Derived.Lay
import Derived.SevenTiedAt
import Derived.MakeChecks
set_option linter.unusedVariables false
namespace Go.Proofs.YtcbdldlphpjmbaaGreatDoor.fnSession
open Go.ChangeShapes Go.WideShapes Go.ChangeAt Go.RowKit Go.Tev Plain
theorem own : ownKnob Tryz.prog.godebug = Option.none := by kernel_rfl
theorem ZqR : laidOutB Tryz.prog = true := by kernel_rfl
def laid : List (String × DataW Unit) := Rows.fnSessionRow.laid
theorem plainH (w : World) : laidMetH Tryz.prog laid w = laidMet Tryz.prog laid w := MakeChecks.laidMetH_plain _ _ _ (by kernel_rfl)
set_option maxRecDepth 100000 in
theorem lifted (os : Os) (started : os.Started) (H : Type) (enc : TypeId × Value → H) :
    ReturnsInHanded {} Tryz.checked os 4 .any (fun w args => (Rows.fnSessionSpec.pre enc Tryz.prog Tryz.f4 [] false w args ∧ laidMetH Tryz.prog laid w) ∧ sizedMet enc Tryz.prog Tryz.f4 (OpenSpec.ofChange Rows.fnSessionSpec) false w args)
      (Rows.fnSessionSpec.post enc Tryz.prog Tryz.f4 false true false false) := by
  refine returnsInHanded_of_calls (C := Tryz.checked) own started (by kernel_rfl)
    (ChangeSpec.witness_shaped (enc := enc) (C := Tryz.checked) (os := os) (conds := []) (X := fun w _ => laidMetH Tryz.prog laid w) false (World.laidAll Tryz.prog os laid) #[.slice none 0 0] 12 (World.laidAll_os _ _ _)
      (World.shaped_of_ZipB (by kernel_rfl) (by kernel_rfl)) (by kernel_rfl) (by kernel_rfl) (by kernel_rfl)
      (by rw [plainH]; exact laidMet_laidAll _ (by kernel_rfl) (by kernel_rfl))) ?_
  intro w tape i _ hsh _ hok hpre _;obtain ⟨_, _, _, fn', hfn', _, _, _, _, hval⟩ := hok;have e : fn' = Tryz.f4 := Option.some.inj (hfn'.symm.trans Tryz.func4);subst e;obtain ⟨⟨⟨ds, gs, before, hw0, _⟩, hx⟩, _⟩ := hpre;have hW := DataW.Whole.of_heap (w' := w.forCall tape i) (by rfl) hw0;have hx : laidMetH Tryz.prog laid (w.forCall tape i) := hx.of_heap (by rfl);rw [plainH] at hx;have hf : Glb.fact (w.forCall tape i) := ZqF hsh hx;have hb := Zrq hf;generalize hZ : w.forCall tape i = W at hW hf hsh hval;generalize hargs : i.args = args at hW hval;generalize w.heap.size = base at hval;clear hx hw0 hfn' hsh;have hW' := hW;obtain ⟨p, q, hA, hV, rfl, _, _⟩ := hW;obtain ⟨rfl, rfl⟩ := trodVars_none hV;have hT : ZrY Tryz.prog Tryz.f4.params.toList = some i4 := by kernel_rfl
  have hP : plains i4 = true := by kernel_rfl
  have hS : ZlO Tryz.prog Tryz.f4.params.toList = true := by kernel_rfl
  obtain ⟨y, hy, hw⟩ := ZlA hT hP (fun j t v h1 h2 => hval j t v (by simpa using h1) (by simpa using h2)) hA;refine (ZnJ k4 hy (ZeA hA) (hZ ▸ hb) hf (plain4 y hw)).mono fun e W' ⟨he, bel⟩ => ?_;subst he;have hB := ZdY ZqR bel hS hA;have hA2 := hA;obtain ⟨v0, vs0, d0, ds0, p0, q0, hargs0, rfl, rfl, h0, r0⟩ := trodAll_cons hA2;obtain ⟨_, rfl, rfl⟩ := trodAll_nil r0;exact ChangeSpec.post_blind ⟨_, _, _, [], _, [], hW', trodAll_mk1 (shut_bool (by kernel_rfl) _), hB, rfl, bel.frame _, fun h => by cases h⟩
/-- The facts of the row, in five parts: each is asked of the kernel for itself, so that its memory comes back. -/
theorem Znh {P : Program} {f : FuncId} {fn : Func} {s : ChangeSpec} {c : OpenClaim} 
    (h0 : (c.wf (OpenSpec.ofChange s) && laidOutB P && mapsRowed P && fn.params.all (P.readableRec ·) && namedTie P c.named s.vars && (c.stops == []) && (P.stops == []) && (c.knobs == []) && (P.stopKnobs == [])) = true)
    (h1 : ((c.inPlace == P.inPlace f) && (c.unfollowed == P.unfollowed f) && (c.recurses == P.recurses f) && (c.named == P.varsNamed f)) = true)
    (h2 : ((c.maps == (fn.params.toList ++ s.plain.varTypes P).any (P.mapsRec ·)) && (c.ifaces == (fn.params.toList ++ s.plain.varTypes P).any (P.ifacesRec ·)) && (c.mapsOut == P.mapsAmong fn.resultTypes.toList) && (c.loops == (fn.params.toList ++ s.plain.varTypes P).any (P.loopsFrom ·)) && (c.wideKeys == (fn.params.toList ++ s.plain.varTypes P ++ fn.resultTypes.toList).any (P.wideKeysFrom ·)) && s.vars.all (P.varReadable ·) && fn.resultTypes.all (fun t => P.readableRec t && decide (t < P.types.size)) && (c.ifacesOut == fn.resultTypes.toList.any (P.ifacesRec ·)) && (c.loopsOut == fn.resultTypes.toList.any (P.loopsFrom ·)) && (c.plainKeys == P.plainKeys) && c.shortTexts.isNone && P.stopsHeard) = true)
    (h3 : (P.mayEnter && (c.lifted == P.liftsFinal) && (P.make == some c.make)) = true)
    (h4 : ((c.kinds == (if c.domain.isEmpty then [] else fn.params.toList.map fun t => match P.underlying t with | some (.int k) => some k | _ => none)) && (c.pinned == c.pinnedBy) && (c.veiled == (fn.params.toList ++ s.plain.varTypes P ++ fn.resultTypes.toList).any (P.veiledRec ·)) && c.veiledFits P fn.params.toList (fn.params.toList ++ s.plain.varTypes P ++ fn.resultTypes.toList)) = true) : joinedFacts P f fn s c = true := by
  unfold joinedFacts;simp only [Bool.and_eq_true] at h0 h1 h2 h3 h4 ⊢;obtain ⟨⟨⟨⟨⟨⟨⟨⟨a0, a1⟩, a2⟩, a3⟩, a4⟩, a5⟩, a6⟩, a7⟩, a8⟩ := h0;obtain ⟨⟨⟨b0, b1⟩, b2⟩, b3⟩ := h1;obtain ⟨⟨⟨⟨⟨⟨⟨⟨⟨⟨⟨c0, c1⟩, c2⟩, c3⟩, c4⟩, c5⟩, c6⟩, c7⟩, c8⟩, c9⟩, c10⟩, c11⟩ := h2;obtain ⟨⟨d0, d1⟩, d2⟩ := h3;obtain ⟨⟨⟨e0, e1⟩, e2⟩, e3⟩ := h4;exact ⟨⟨⟨⟨⟨⟨⟨⟨⟨⟨⟨⟨⟨⟨⟨⟨⟨⟨⟨⟨⟨⟨⟨⟨⟨⟨⟨⟨⟨⟨⟨a0, a1⟩, a2⟩, a3⟩, a4⟩, a5⟩, a6⟩, a7⟩, a8⟩, b0⟩, b1⟩, b2⟩, b3⟩, c0⟩, c1⟩, c2⟩, c3⟩, c4⟩, c5⟩, c6⟩, c7⟩, c8⟩, c9⟩, c10⟩, c11⟩, d0⟩, d1⟩, d2⟩, e0⟩, e1⟩, e2⟩, e3⟩
theorem Zqq : (Rows.fnSessionRow.wf (OpenSpec.ofChange Rows.fnSessionSpec) && laidOutB Tryz.pinned.checked.prog && mapsRowed Tryz.pinned.checked.prog && Tryz.f4.params.all (Tryz.pinned.checked.prog.readableRec ·) && namedTie Tryz.pinned.checked.prog Rows.fnSessionRow.named Rows.fnSessionSpec.vars && (Rows.fnSessionRow.stops == []) && (Tryz.pinned.checked.prog.stops == []) && (Rows.fnSessionRow.knobs == []) && (Tryz.pinned.checked.prog.stopKnobs == [])) = true := by kernel_rfl
theorem Zqr : ((Rows.fnSessionRow.inPlace == Tryz.pinned.checked.prog.inPlace 4) && (Rows.fnSessionRow.unfollowed == Tryz.pinned.checked.prog.unfollowed 4) && (Rows.fnSessionRow.recurses == Tryz.pinned.checked.prog.recurses 4) && (Rows.fnSessionRow.named == Tryz.pinned.checked.prog.varsNamed 4)) = true := by kernel_rfl
theorem Zqs : ((Rows.fnSessionRow.maps == (Tryz.f4.params.toList ++ Rows.fnSessionSpec.plain.varTypes Tryz.pinned.checked.prog).any (Tryz.pinned.checked.prog.mapsRec ·)) && (Rows.fnSessionRow.ifaces == (Tryz.f4.params.toList ++ Rows.fnSessionSpec.plain.varTypes Tryz.pinned.checked.prog).any (Tryz.pinned.checked.prog.ifacesRec ·)) && (Rows.fnSessionRow.mapsOut == Tryz.pinned.checked.prog.mapsAmong Tryz.f4.resultTypes.toList) && (Rows.fnSessionRow.loops == (Tryz.f4.params.toList ++ Rows.fnSessionSpec.plain.varTypes Tryz.pinned.checked.prog).any (Tryz.pinned.checked.prog.loopsFrom ·)) && (Rows.fnSessionRow.wideKeys == (Tryz.f4.params.toList ++ Rows.fnSessionSpec.plain.varTypes Tryz.pinned.checked.prog ++ Tryz.f4.resultTypes.toList).any (Tryz.pinned.checked.prog.wideKeysFrom ·)) && Rows.fnSessionSpec.vars.all (Tryz.pinned.checked.prog.varReadable ·) && Tryz.f4.resultTypes.all (fun t => Tryz.pinned.checked.prog.readableRec t && decide (t < Tryz.pinned.checked.prog.types.size)) && (Rows.fnSessionRow.ifacesOut == Tryz.f4.resultTypes.toList.any (Tryz.pinned.checked.prog.ifacesRec ·)) && (Rows.fnSessionRow.loopsOut == Tryz.f4.resultTypes.toList.any (Tryz.pinned.checked.prog.loopsFrom ·)) && (Rows.fnSessionRow.plainKeys == Tryz.pinned.checked.prog.plainKeys) && Rows.fnSessionRow.shortTexts.isNone && Tryz.pinned.checked.prog.stopsHeard) = true := by kernel_rfl
theorem Zqt : (Tryz.pinned.checked.prog.mayEnter && (Rows.fnSessionRow.lifted == Tryz.pinned.checked.prog.liftsFinal) && (Tryz.pinned.checked.prog.make == some Rows.fnSessionRow.make)) = true := by kernel_rfl
theorem Zqu : ((Rows.fnSessionRow.kinds == (if Rows.fnSessionRow.domain.isEmpty then [] else Tryz.f4.params.toList.map fun t => match Tryz.pinned.checked.prog.underlying t with | some (.int k) => some k | _ => none)) && (Rows.fnSessionRow.pinned == Rows.fnSessionRow.pinnedBy) && (Rows.fnSessionRow.veiled == (Tryz.f4.params.toList ++ Rows.fnSessionSpec.plain.varTypes Tryz.pinned.checked.prog ++ Tryz.f4.resultTypes.toList).any (Tryz.pinned.checked.prog.veiledRec ·)) && Rows.fnSessionRow.veiledFits Tryz.pinned.checked.prog Tryz.f4.params.toList (Tryz.f4.params.toList ++ Rows.fnSessionSpec.plain.varTypes Tryz.pinned.checked.prog ++ Tryz.f4.resultTypes.toList)) = true := by kernel_rfl
theorem Zrr : joinedFacts Tryz.pinned.checked.prog 4 Tryz.f4 Rows.fnSessionSpec Rows.fnSessionRow = true := Znh Zqq Zqr Zqs Zqt Zqu
theorem ZsU : Rows.fnSessionRow.holds Tryz.pinned (OpenSpec.ofChange Rows.fnSessionSpec) :=
  OpenClaim.holds_of_wide 4 Tryz.f4 rfl rfl rfl rfl rfl rfl rfl ⟨rfl, rfl, rfl, rfl, rfl⟩ rfl rfl rfl rfl rfl (by kernel_rfl) Tryz.func4 Zrr
    (of_decide_eq_true (by kernel_rfl)) (by unfold Func.isWrapper; first | (rw [Ze (by decide +kernel)]; kernel_rfl) | (rw [Zc (by decide +kernel)]; exact ⟨rfl, rfl⟩))
    (fun os started H enc _ => lifted os started H enc)
theorem Zny {P : Program} {c : OpenClaim} (hs : c.start = .entering) (h : P.funcs.any Func.goes = false) : false = c.goesBy P := by
  unfold OpenClaim.goesBy Program.goesAt Program.goesFrom;rw [hs];cases P.funcNamed c.func with
  | none => rfl
  | some f =>
    have e : P.goes f = false := by
      unfold Program.goes;rw [h, Bool.and_false, Bool.or_false, List.any_eq_false];intro g _;cases hg : P.funcs[g]? with
      | none => simp
      | some fn =>
        rw [Array.any_eq_false'] at h;simpa using h fn (Array.mem_of_getElem? hg)
    simp [e]
theorem ZqW : Tryz.pinned.checked.prog.funcs.any Func.goes = false := by kernel_rfl
theorem card : Claim7.holds Tryz.pinned (.plain (OpenSpec.ofChange Rows.fnSessionSpec)) Rows.fnSessionCard :=
  Claim7.holds_tied_plain_at .later [] [.data, .data, .data, .data, .sentinel, .sentinel, .pinned] true (true, "69e0317e266bc2c2442f65a8d9ec577e9a58d54c56b46faeaae3c3b28b2d74a8") true ZsU (fun _ h => by cases h) (by kernel_rfl) (fun _ h => by cases h) fnSession_row_tie rfl ⟨rfl, rfl⟩ (by kernel_rfl) rfl
    (fun f fn hf hfn => by
      obtain rfl : f = 4 := Option.some.inj ((show Tryz.prog.funcNamed Rows.fnSessionRow.func = some 4 by kernel_rfl).symm.trans hf) |>.symm;obtain rfl : fn = Tryz.f4 := (Option.some.inj (Tryz.func4.symm.trans hfn)).symm;exact ⟨by kernel_rfl, fun j t ht => by
        have hm : t ∈ Tryz.f4.params.toList := by simpa using Array.mem_of_getElem? ht
        have hall : (Tryz.f4.params.toList.all fun u => !Tryz.prog.wantsStandIn u) = true := by kernel_rfl
        exact (show Tryz.prog.wantsStandIn t = false by simpa using List.all_eq_true.1 hall t hm)⟩)
    (Zny rfl ZqW)
end Go.Proofs.YtcbdldlphpjmbaaGreatDoor.fnSession
namespace Go.Proofs.YtcbdldlphpjmbaaGreatDoor
/-- The card, under a short name, for the claim. -/
theorem fnSession_holds : Rows.FnSessionCardSaid := fnSession.card
#print axioms fnSession_holds
end Go.Proofs.YtcbdldlphpjmbaaGreatDoor
