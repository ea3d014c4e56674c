/- The law FnExactSession answers true whatever its arguments, and leaves them as they were; the package variables that its row lists are tied to the program's text. No other condition. -/
import Derived.Test.YtcbdldlphpjmbaaGreatDoorRows
import Derived.Test.YtcbdldlphpjmbaaGreatDoorCards
import Derived.Test.YtcbdldlphpjmbaaGreatDoorTie
import Derived.Test.YtcbdldlphpjmbaaGreatDoorX
import Derived.Test.YtcbdldlphpjmbaaGreatDoorPLawSession
import Derived.ProofKit
import Derived.OpenShut
import Derived.ChangeOld
import Derived.Below
import Derived.SizedLaws
import Derived.HandedShaped
import Derived.Lay
import Derived.SevenTiedAt
import Derived.MakeChecks
set_option linter.unusedVariables false
namespace Go.Proofs.YtcbdldlphpjmbaaGreatDoor.fnExactSession
open Go.ChangeShapes Go.WideShapes Go.ChangeAt Go.RowKit Go.Tev Plain
theorem own : ownKnob Tryz.prog.godebug = Option.none := by kernel_rfl
theorem ZqE : laidOutB Tryz.prog = true := by kernel_rfl
def laid : List (String × DataW Unit) := Rows.fnExactSessionRow.laid
theorem plainH (w : World) : laidMetH Tryz.prog laid w = laidMet Tryz.prog laid w := MakeChecks.laidMetH_plain _ _ _ (by kernel_rfl)
set_option maxRecDepth 100000 in
theorem lifted (os : Os) (started : os.Started) (H : Type) (enc : TypeId × Value → H) :
    ReturnsInHanded {} Tryz.checked os 3 .any (fun w args => (Rows.fnExactSessionSpec.pre enc Tryz.prog Tryz.f3 [] false w args ∧ laidMetH Tryz.prog laid w) ∧ sizedMet enc Tryz.prog Tryz.f3 (OpenSpec.ofChange Rows.fnExactSessionSpec) false w args)
      (Rows.fnExactSessionSpec.post enc Tryz.prog Tryz.f3 false true false false) := by
  refine returnsInHanded_of_calls (C := Tryz.checked) own started (by kernel_rfl)
    (ChangeSpec.witness_shaped (enc := enc) (C := Tryz.checked) (os := os) (conds := []) (X := fun w _ => laidMetH Tryz.prog laid w) false (World.laidAll Tryz.prog os laid) #[.string ByteArray.empty, .slice none 0 0, .int .i64 0, .string ByteArray.empty] 12 (World.laidAll_os _ _ _)
      (World.shaped_of_ZipB (by kernel_rfl) (by kernel_rfl)) (by kernel_rfl) (by kernel_rfl) (by kernel_rfl)
      (by rw [plainH]; exact laidMet_laidAll _ (by kernel_rfl) (by kernel_rfl))) ?_
  intro w tape i _ hsh _ hok hpre _;obtain ⟨_, _, _, fn', hfn', _, _, _, _, hval⟩ := hok;have e : fn' = Tryz.f3 := Option.some.inj (hfn'.symm.trans Tryz.func3);subst e;obtain ⟨⟨⟨ds, gs, before, hw0, _⟩, hx⟩, _⟩ := hpre;have hW := DataW.Whole.of_heap (w' := w.forCall tape i) (by rfl) hw0;have hx : laidMetH Tryz.prog laid (w.forCall tape i) := hx.of_heap (by rfl);rw [plainH] at hx;have hf : Glb.fact (w.forCall tape i) := Zqs hsh hx;have hb := Zq9 hf;generalize hZ : w.forCall tape i = W at hW hf hsh hval;generalize hargs : i.args = args at hW hval;generalize w.heap.size = base at hval;clear hx hw0 hfn' hsh;have hW' := hW;obtain ⟨p, q, hA, hV, rfl, _, _⟩ := hW;obtain ⟨rfl, rfl⟩ := trodVars_none hV;have hT : ZrF Tryz.prog Tryz.f3.params.toList = some i3 := by kernel_rfl
  have hP : plains i3 = true := by kernel_rfl
  have hS : ZlA Tryz.prog Tryz.f3.params.toList = true := by kernel_rfl
  obtain ⟨y, hy, hw⟩ := Zll hT hP (fun j t v h1 h2 => hval j t v (by simpa using h1) (by simpa using h2)) hA;refine (Znv k3 hy (Zev hA) (hZ ▸ hb) hf (plain3 y hw)).mono fun e W' ⟨he, bel⟩ => ?_;subst he;have hB := ZdS ZqE bel hS hA;have hA2 := hA;obtain ⟨v0, vs0, d0, ds0, p0, q0, hargs0, rfl, rfl, h0, r0⟩ := trodAll_cons hA2;obtain ⟨v1, vs1, d1, ds1, p1, q1, hargs1, rfl, rfl, h1, r1⟩ := trodAll_cons r0;obtain ⟨v2, vs2, d2, ds2, p2, q2, hargs2, rfl, rfl, h2, r2⟩ := trodAll_cons r1;obtain ⟨v3, vs3, d3, ds3, p3, q3, hargs3, rfl, rfl, h3, r3⟩ := trodAll_cons r2;obtain ⟨_, rfl, rfl⟩ := trodAll_nil r3;exact ChangeSpec.post_blind ⟨_, _, _, [], _, [], hW', trodAll_mk1 (shut_bool (by kernel_rfl) _), hB, rfl, bel.frame _, fun h => by cases h⟩
/-- The facts of the row, in five parts: each is asked of the kernel for itself, so that its memory comes back. -/
theorem Zm2 {P : Program} {f : FuncId} {fn : Func} {s : ChangeSpec} {c : OpenClaim} 
    (h0 : (c.wf (OpenSpec.ofChange s) && laidOutB P && mapsRowed P && fn.params.all (P.readableRec ·) && namedTie P c.named s.vars && (c.stops == []) && (P.stops == []) && (c.knobs == []) && (P.stopKnobs == [])) = true)
    (h1 : ((c.inPlace == P.inPlace f) && (c.unfollowed == P.unfollowed f) && (c.recurses == P.recurses f) && (c.named == P.varsNamed f)) = true)
    (h2 : ((c.maps == (fn.params.toList ++ s.plain.varTypes P).any (P.mapsRec ·)) && (c.ifaces == (fn.params.toList ++ s.plain.varTypes P).any (P.ifacesRec ·)) && (c.mapsOut == P.mapsAmong fn.resultTypes.toList) && (c.loops == (fn.params.toList ++ s.plain.varTypes P).any (P.loopsFrom ·)) && (c.wideKeys == (fn.params.toList ++ s.plain.varTypes P ++ fn.resultTypes.toList).any (P.wideKeysFrom ·)) && s.vars.all (P.varReadable ·) && fn.resultTypes.all (fun t => P.readableRec t && decide (t < P.types.size)) && (c.ifacesOut == fn.resultTypes.toList.any (P.ifacesRec ·)) && (c.loopsOut == fn.resultTypes.toList.any (P.loopsFrom ·)) && (c.plainKeys == P.plainKeys) && c.shortTexts.isNone && P.stopsHeard) = true)
    (h3 : (P.mayEnter && (c.lifted == P.liftsFinal) && (P.make == some c.make)) = true)
    (h4 : ((c.kinds == (if c.domain.isEmpty then [] else fn.params.toList.map fun t => match P.underlying t with | some (.int k) => some k | _ => none)) && (c.pinned == c.pinnedBy) && (c.veiled == (fn.params.toList ++ s.plain.varTypes P ++ fn.resultTypes.toList).any (P.veiledRec ·)) && c.veiledFits P fn.params.toList (fn.params.toList ++ s.plain.varTypes P ++ fn.resultTypes.toList)) = true) : joinedFacts P f fn s c = true := by
  unfold joinedFacts;simp only [Bool.and_eq_true] at h0 h1 h2 h3 h4 ⊢;obtain ⟨⟨⟨⟨⟨⟨⟨⟨a0, a1⟩, a2⟩, a3⟩, a4⟩, a5⟩, a6⟩, a7⟩, a8⟩ := h0;obtain ⟨⟨⟨b0, b1⟩, b2⟩, b3⟩ := h1;obtain ⟨⟨⟨⟨⟨⟨⟨⟨⟨⟨⟨c0, c1⟩, c2⟩, c3⟩, c4⟩, c5⟩, c6⟩, c7⟩, c8⟩, c9⟩, c10⟩, c11⟩ := h2;obtain ⟨⟨d0, d1⟩, d2⟩ := h3;obtain ⟨⟨⟨e0, e1⟩, e2⟩, e3⟩ := h4;exact ⟨⟨⟨⟨⟨⟨⟨⟨⟨⟨⟨⟨⟨⟨⟨⟨⟨⟨⟨⟨⟨⟨⟨⟨⟨⟨⟨⟨⟨⟨⟨a0, a1⟩, a2⟩, a3⟩, a4⟩, a5⟩, a6⟩, a7⟩, a8⟩, b0⟩, b1⟩, b2⟩, b3⟩, c0⟩, c1⟩, c2⟩, c3⟩, c4⟩, c5⟩, c6⟩, c7⟩, c8⟩, c9⟩, c10⟩, c11⟩, d0⟩, d1⟩, d2⟩, e0⟩, e1⟩, e2⟩, e3⟩
theorem Zqc : (Rows.fnExactSessionRow.wf (OpenSpec.ofChange Rows.fnExactSessionSpec) && laidOutB Tryz.pinned.checked.prog && mapsRowed Tryz.pinned.checked.prog && Tryz.f3.params.all (Tryz.pinned.checked.prog.readableRec ·) && namedTie Tryz.pinned.checked.prog Rows.fnExactSessionRow.named Rows.fnExactSessionSpec.vars && (Rows.fnExactSessionRow.stops == []) && (Tryz.pinned.checked.prog.stops == []) && (Rows.fnExactSessionRow.knobs == []) && (Tryz.pinned.checked.prog.stopKnobs == [])) = true := by kernel_rfl
theorem Zqd : ((Rows.fnExactSessionRow.inPlace == Tryz.pinned.checked.prog.inPlace 3) && (Rows.fnExactSessionRow.unfollowed == Tryz.pinned.checked.prog.unfollowed 3) && (Rows.fnExactSessionRow.recurses == Tryz.pinned.checked.prog.recurses 3) && (Rows.fnExactSessionRow.named == Tryz.pinned.checked.prog.varsNamed 3)) = true := by kernel_rfl
theorem Zqe : ((Rows.fnExactSessionRow.maps == (Tryz.f3.params.toList ++ Rows.fnExactSessionSpec.plain.varTypes Tryz.pinned.checked.prog).any (Tryz.pinned.checked.prog.mapsRec ·)) && (Rows.fnExactSessionRow.ifaces == (Tryz.f3.params.toList ++ Rows.fnExactSessionSpec.plain.varTypes Tryz.pinned.checked.prog).any (Tryz.pinned.checked.prog.ifacesRec ·)) && (Rows.fnExactSessionRow.mapsOut == Tryz.pinned.checked.prog.mapsAmong Tryz.f3.resultTypes.toList) && (Rows.fnExactSessionRow.loops == (Tryz.f3.params.toList ++ Rows.fnExactSessionSpec.plain.varTypes Tryz.pinned.checked.prog).any (Tryz.pinned.checked.prog.loopsFrom ·)) && (Rows.fnExactSessionRow.wideKeys == (Tryz.f3.params.toList ++ Rows.fnExactSessionSpec.plain.varTypes Tryz.pinned.checked.prog ++ Tryz.f3.resultTypes.toList).any (Tryz.pinned.checked.prog.wideKeysFrom ·)) && Rows.fnExactSessionSpec.vars.all (Tryz.pinned.checked.prog.varReadable ·) && Tryz.f3.resultTypes.all (fun t => Tryz.pinned.checked.prog.readableRec t && decide (t < Tryz.pinned.checked.prog.types.size)) && (Rows.fnExactSessionRow.ifacesOut == Tryz.f3.resultTypes.toList.any (Tryz.pinned.checked.prog.ifacesRec ·)) && (Rows.fnExactSessionRow.loopsOut == Tryz.f3.resultTypes.toList.any (Tryz.pinned.checked.prog.loopsFrom ·)) && (Rows.fnExactSessionRow.plainKeys == Tryz.pinned.checked.prog.plainKeys) && Rows.fnExactSessionRow.shortTexts.isNone && Tryz.pinned.checked.prog.stopsHeard) = true := by kernel_rfl
theorem Zqf : (Tryz.pinned.checked.prog.mayEnter && (Rows.fnExactSessionRow.lifted == Tryz.pinned.checked.prog.liftsFinal) && (Tryz.pinned.checked.prog.make == some Rows.fnExactSessionRow.make)) = true := by kernel_rfl
theorem Zqg : ((Rows.fnExactSessionRow.kinds == (if Rows.fnExactSessionRow.domain.isEmpty then [] else Tryz.f3.params.toList.map fun t => match Tryz.pinned.checked.prog.underlying t with | some (.int k) => some k | _ => none)) && (Rows.fnExactSessionRow.pinned == Rows.fnExactSessionRow.pinnedBy) && (Rows.fnExactSessionRow.veiled == (Tryz.f3.params.toList ++ Rows.fnExactSessionSpec.plain.varTypes Tryz.pinned.checked.prog ++ Tryz.f3.resultTypes.toList).any (Tryz.pinned.checked.prog.veiledRec ·)) && Rows.fnExactSessionRow.veiledFits Tryz.pinned.checked.prog Tryz.f3.params.toList (Tryz.f3.params.toList ++ Rows.fnExactSessionSpec.plain.varTypes Tryz.pinned.checked.prog ++ Tryz.f3.resultTypes.toList)) = true := by kernel_rfl
theorem Zra : joinedFacts Tryz.pinned.checked.prog 3 Tryz.f3 Rows.fnExactSessionSpec Rows.fnExactSessionRow = true := Zm2 Zqc Zqd Zqe Zqf Zqg
theorem ZsB : Rows.fnExactSessionRow.holds Tryz.pinned (OpenSpec.ofChange Rows.fnExactSessionSpec) :=
  OpenClaim.holds_of_wide 3 Tryz.f3 rfl rfl rfl rfl rfl rfl rfl ⟨rfl, rfl, rfl, rfl, rfl⟩ rfl rfl rfl rfl rfl (by kernel_rfl) Tryz.func3 Zra
    (of_decide_eq_true (by kernel_rfl)) (by unfold Func.isWrapper; first | (rw [Ze (by decide +kernel)]; kernel_rfl) | (rw [Zc (by decide +kernel)]; exact ⟨rfl, rfl⟩))
    (fun os started H enc _ => lifted os started H enc)
theorem Znk {P : Program} {c : OpenClaim} (hs : c.start = .entering) (h : P.funcs.any Func.goes = false) : false = c.goesBy P := by
  unfold OpenClaim.goesBy Program.goesAt Program.goesFrom;rw [hs];cases P.funcNamed c.func with
  | none => rfl
  | some f =>
    have e : P.goes f = false := by
      unfold Program.goes;rw [h, Bool.and_false, Bool.or_false, List.any_eq_false];intro g _;cases hg : P.funcs[g]? with
      | none => simp
      | some fn =>
        rw [Array.any_eq_false'] at h;simpa using h fn (Array.mem_of_getElem? hg)
    simp [e]
theorem ZqI : Tryz.pinned.checked.prog.funcs.any Func.goes = false := by kernel_rfl
theorem card : Claim7.holds Tryz.pinned (.plain (OpenSpec.ofChange Rows.fnExactSessionSpec)) Rows.fnExactSessionCard :=
  Claim7.holds_tied_plain_at .later [] [.data, .data, .data, .data, .sentinel, .sentinel, .pinned] true (true, "69e0317e266bc2c2442f65a8d9ec577e9a58d54c56b46faeaae3c3b28b2d74a8") true ZsB (fun _ h => by cases h) (by kernel_rfl) (fun _ h => by cases h) fnExactSession_row_tie rfl ⟨rfl, rfl⟩ (by kernel_rfl) rfl
    (fun f fn hf hfn => by
      obtain rfl : f = 3 := Option.some.inj ((show Tryz.prog.funcNamed Rows.fnExactSessionRow.func = some 3 by kernel_rfl).symm.trans hf) |>.symm;obtain rfl : fn = Tryz.f3 := (Option.some.inj (Tryz.func3.symm.trans hfn)).symm;exact ⟨by kernel_rfl, fun j t ht => by
        have hm : t ∈ Tryz.f3.params.toList := by simpa using Array.mem_of_getElem? ht
        have hall : (Tryz.f3.params.toList.all fun u => !Tryz.prog.wantsStandIn u) = true := by kernel_rfl
        exact (show Tryz.prog.wantsStandIn t = false by simpa using List.all_eq_true.1 hall t hm)⟩)
    (Znk rfl ZqI)
end Go.Proofs.YtcbdldlphpjmbaaGreatDoor.fnExactSession
namespace Go.Proofs.YtcbdldlphpjmbaaGreatDoor
/-- The card, under a short name, for the claim. -/
theorem fnExactSession_holds : Rows.FnExactSessionCardSaid := fnExactSession.card
#print axioms fnExactSession_holds
end Go.Proofs.YtcbdldlphpjmbaaGreatDoor
