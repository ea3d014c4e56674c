/-
  No cell of these rows narrows 'for every input' (looked for: loops, veiled, ifaces, maps, wideKeys, modest, calm, conditions, laid).
  DERIVED. THE GIVEN ROWS OF THIS SEAT. 9 by the template 'for every input the law returns true; each argument reads behind the call as it read before'; 0 by the template 'total and deterministic' (their statements: YtgpifihakjdfeaaGreatTotals.lean).
  GIVEN WITH THE SEED: the statements are not yours to turn. If you find one false, say at which input.
  Laid BY PROGRAM, IN A SANDBOX (cutbox-rows.mjs): the forced cells as the released guide's own fill.sh prints them over the translation 82366a8a66600404… (all of the seat's roots in one cut). By AI agents, Wed Nov 11 2026. No macro, syntax, notation, axiom, sorry.
-/
import Derived.Test.YtgpifihakjdfeaaGreatChecked
import GoSem.Claim
import GoSem.ClaimJoined
import GoSem.ClaimMapViews
import Derived.JoinedTies
import Derived.KernelRfl
namespace Go.Proofs.YtgpifihakjdfeaaGreat
/- THE CELL 'sum', in the pinned program and in every row, IS THE sha256 OF THE DUMP (.gsa) THAT YtgpifihakjdfeaaGreatProg.lean LOADS. Nothing in Lean hashes anything: it is a label: what it is worth is what the hold of that sum in a sandbox is worth. -/
noncomputable def Tryz.pinned : Pinned := { name := "ytgpifihakjdfeaagreat", sum := "82366a8a66600404474ec0b2fce9d8fa4df5c3b639b53d07709edc0f9c1ce435", checked := Tryz.checked }
namespace Rows
def none {H : Type} : Left H := { results := [], args := [] }

/-- 'laws.FnApart': WHATEVER THE INPUT: true; the input reads as it did. -/
def fnApartSpec : ChangeSpec := { name := "fnApart", fn := fun _ => fun
  | [d] => { results := [.lit (.bool true)], args := [d] }
  | _ => none }
def fnApartRow : OpenClaim := { program := "ytgpifihakjdfeaagreat", sum := "82366a8a66600404474ec0b2fce9d8fa4df5c3b639b53d07709edc0f9c1ce435", func := "loop.example/g00231/laws.FnApart", spec := "fnApart", unfollowed := true, recurses := true, apart := false }
def FnApartSaid : Prop := fnApartRow.holds Tryz.pinned (OpenSpec.ofChange fnApartSpec)

/-- ITS FALSE NEIGHBOUR: 'it returns false'. Refute it at one input. -/
def fnApartWrong : ChangeSpec := { name := "fnApart", fn := fun _ => fun
  | [d] => { results := [.lit (.bool false)], args := [d] }
  | _ => none }
def FnApartWrongFalsely : Prop := fnApartRow.holds Tryz.pinned (OpenSpec.ofChange fnApartWrong)

/-- 'laws.FnLevelled': WHATEVER THE INPUT: true; the input reads as it did. -/
def fnLevelledSpec : ChangeSpec := { name := "fnLevelled", fn := fun _ => fun
  | [d] => { results := [.lit (.bool true)], args := [d] }
  | _ => none }
def fnLevelledRow : OpenClaim := { program := "ytgpifihakjdfeaagreat", sum := "82366a8a66600404474ec0b2fce9d8fa4df5c3b639b53d07709edc0f9c1ce435", func := "loop.example/g00231/laws.FnLevelled", spec := "fnLevelled", unfollowed := true, recurses := true, apart := false }
def FnLevelledSaid : Prop := fnLevelledRow.holds Tryz.pinned (OpenSpec.ofChange fnLevelledSpec)

/-- ITS FALSE NEIGHBOUR: 'it returns false'. Refute it at one input. -/
def fnLevelledWrong : ChangeSpec := { name := "fnLevelled", fn := fun _ => fun
  | [d] => { results := [.lit (.bool false)], args := [d] }
  | _ => none }
def FnLevelledWrongFalsely : Prop := fnLevelledRow.holds Tryz.pinned (OpenSpec.ofChange fnLevelledWrong)

/-- 'laws.FnObs': WHATEVER THE INPUT: true; the input reads as it did. -/
def fnObsSpec : ChangeSpec := { name := "fnObs", fn := fun _ => fun
  | [d] => { results := [.lit (.bool true)], args := [d] }
  | _ => none }
def fnObsRow : OpenClaim := { program := "ytgpifihakjdfeaagreat", sum := "82366a8a66600404474ec0b2fce9d8fa4df5c3b639b53d07709edc0f9c1ce435", func := "loop.example/g00231/laws.FnObs", spec := "fnObs", unfollowed := true, recurses := true, apart := false }
def FnObsSaid : Prop := fnObsRow.holds Tryz.pinned (OpenSpec.ofChange fnObsSpec)

/-- ITS FALSE NEIGHBOUR: 'it returns false'. Refute it at one input. -/
def fnObsWrong : ChangeSpec := { name := "fnObs", fn := fun _ => fun
  | [d] => { results := [.lit (.bool false)], args := [d] }
  | _ => none }
def FnObsWrongFalsely : Prop := fnObsRow.holds Tryz.pinned (OpenSpec.ofChange fnObsWrong)

/-- 'laws.FnCaps': WHATEVER THE INPUT: true; the input reads as it did. -/
def fnCapsSpec : ChangeSpec := { name := "fnCaps", fn := fun _ => fun
  | [d] => { results := [.lit (.bool true)], args := [d] }
  | _ => none }
def fnCapsRow : OpenClaim := { program := "ytgpifihakjdfeaagreat", sum := "82366a8a66600404474ec0b2fce9d8fa4df5c3b639b53d07709edc0f9c1ce435", func := "loop.example/g00231/laws.FnCaps", spec := "fnCaps", unfollowed := true, recurses := true, apart := false }
def FnCapsSaid : Prop := fnCapsRow.holds Tryz.pinned (OpenSpec.ofChange fnCapsSpec)

/-- ITS FALSE NEIGHBOUR: 'it returns false'. Refute it at one input. -/
def fnCapsWrong : ChangeSpec := { name := "fnCaps", fn := fun _ => fun
  | [d] => { results := [.lit (.bool false)], args := [d] }
  | _ => none }
def FnCapsWrongFalsely : Prop := fnCapsRow.holds Tryz.pinned (OpenSpec.ofChange fnCapsWrong)

/-- 'laws.FnAccess': WHATEVER THE INPUT: true; the input reads as it did. -/
def fnAccessSpec : ChangeSpec := { name := "fnAccess", fn := fun _ => fun
  | [d] => { results := [.lit (.bool true)], args := [d] }
  | _ => none }
def fnAccessRow : OpenClaim := { program := "ytgpifihakjdfeaagreat", sum := "82366a8a66600404474ec0b2fce9d8fa4df5c3b639b53d07709edc0f9c1ce435", func := "loop.example/g00231/laws.FnAccess", spec := "fnAccess", unfollowed := true, recurses := true, apart := false }
def FnAccessSaid : Prop := fnAccessRow.holds Tryz.pinned (OpenSpec.ofChange fnAccessSpec)

/-- ITS FALSE NEIGHBOUR: 'it returns false'. Refute it at one input. -/
def fnAccessWrong : ChangeSpec := { name := "fnAccess", fn := fun _ => fun
  | [d] => { results := [.lit (.bool false)], args := [d] }
  | _ => none }
def FnAccessWrongFalsely : Prop := fnAccessRow.holds Tryz.pinned (OpenSpec.ofChange fnAccessWrong)

/-- 'laws.FnTwoRows': WHATEVER THE INPUT: true; the input reads as it did. -/
def fnTwoRowsSpec : ChangeSpec := { name := "fnTwoRows", fn := fun _ => fun
  | [d] => { results := [.lit (.bool true)], args := [d] }
  | _ => none }
def fnTwoRowsRow : OpenClaim := { program := "ytgpifihakjdfeaagreat", sum := "82366a8a66600404474ec0b2fce9d8fa4df5c3b639b53d07709edc0f9c1ce435", func := "loop.example/g00231/laws.FnTwoRows", spec := "fnTwoRows", unfollowed := true, recurses := true, apart := false }
def FnTwoRowsSaid : Prop := fnTwoRowsRow.holds Tryz.pinned (OpenSpec.ofChange fnTwoRowsSpec)

/-- ITS FALSE NEIGHBOUR: 'it returns false'. Refute it at one input. -/
def fnTwoRowsWrong : ChangeSpec := { name := "fnTwoRows", fn := fun _ => fun
  | [d] => { results := [.lit (.bool false)], args := [d] }
  | _ => none }
def FnTwoRowsWrongFalsely : Prop := fnTwoRowsRow.holds Tryz.pinned (OpenSpec.ofChange fnTwoRowsWrong)

/-- 'laws.FnNewSplit': WHATEVER THE INPUT: true; the input reads as it did. -/
def fnNewSplitSpec : ChangeSpec := { name := "fnNewSplit", fn := fun _ => fun
  | [d] => { results := [.lit (.bool true)], args := [d] }
  | _ => none }
def fnNewSplitRow : OpenClaim := { program := "ytgpifihakjdfeaagreat", sum := "82366a8a66600404474ec0b2fce9d8fa4df5c3b639b53d07709edc0f9c1ce435", func := "loop.example/g00231/laws.FnNewSplit", spec := "fnNewSplit", unfollowed := true, recurses := true, apart := false }
def FnNewSplitSaid : Prop := fnNewSplitRow.holds Tryz.pinned (OpenSpec.ofChange fnNewSplitSpec)

/-- ITS FALSE NEIGHBOUR: 'it returns false'. Refute it at one input. -/
def fnNewSplitWrong : ChangeSpec := { name := "fnNewSplit", fn := fun _ => fun
  | [d] => { results := [.lit (.bool false)], args := [d] }
  | _ => none }
def FnNewSplitWrongFalsely : Prop := fnNewSplitRow.holds Tryz.pinned (OpenSpec.ofChange fnNewSplitWrong)

/-- 'laws.FnTimes': WHATEVER THE INPUT: true; the input reads as it did. -/
def fnTimesSpec : ChangeSpec := { name := "fnTimes", fn := fun _ => fun
  | [d] => { results := [.lit (.bool true)], args := [d] }
  | _ => none }
def fnTimesRow : OpenClaim := { program := "ytgpifihakjdfeaagreat", sum := "82366a8a66600404474ec0b2fce9d8fa4df5c3b639b53d07709edc0f9c1ce435", func := "loop.example/g00231/laws.FnTimes", spec := "fnTimes", apart := false }
def FnTimesSaid : Prop := fnTimesRow.holds Tryz.pinned (OpenSpec.ofChange fnTimesSpec)

/-- ITS FALSE NEIGHBOUR: 'it returns false'. Refute it at one input. -/
def fnTimesWrong : ChangeSpec := { name := "fnTimes", fn := fun _ => fun
  | [d] => { results := [.lit (.bool false)], args := [d] }
  | _ => none }
def FnTimesWrongFalsely : Prop := fnTimesRow.holds Tryz.pinned (OpenSpec.ofChange fnTimesWrong)

/-- 'laws.FnAlive': WHATEVER THE INPUT: true; the input reads as it did. -/
def fnAliveSpec : ChangeSpec := { name := "fnAlive", fn := fun _ => fun
  | [d] => { results := [.lit (.bool true)], args := [d] }
  | _ => none }
def fnAliveRow : OpenClaim := { program := "ytgpifihakjdfeaagreat", sum := "82366a8a66600404474ec0b2fce9d8fa4df5c3b639b53d07709edc0f9c1ce435", func := "loop.example/g00231/laws.FnAlive", spec := "fnAlive", apart := false }
def FnAliveSaid : Prop := fnAliveRow.holds Tryz.pinned (OpenSpec.ofChange fnAliveSpec)

/-- ITS FALSE NEIGHBOUR: 'it returns false'. Refute it at one input. -/
def fnAliveWrong : ChangeSpec := { name := "fnAlive", fn := fun _ => fun
  | [d] => { results := [.lit (.bool false)], args := [d] }
  | _ => none }
def FnAliveWrongFalsely : Prop := fnAliveRow.holds Tryz.pinned (OpenSpec.ofChange fnAliveWrong)

/- THE SECOND FORM. 'bulk': how many values and letters a reading holds, each counted each time it is reached (what is shared counts as often as it is met; a slice's spare places count too). A statement '..UptoSaid' is the law's where the arguments, and the package variables that the reading takes, are together of bulk at most 1048576: NARROWER than '..Said'. Prove '..Said' where nothing that the law and all that it calls make is longer than what came in: it says more and counts as full. Else prove '..UptoSaid'. A law counts once. -/
mutual
def uptoBulk {H : Type} : DataW H → Nat
  | .lit (.string bytes) => bytes.length + 1
  | .lit _ => 1
  | .nil => 1
  | .ptr d => uptoBulk d + 1
  | .slice elems spare => uptoBulkAll elems + uptoBulkAll spare + 1
  | .agg parts => uptoBulkAll parts + 1
  | .iface _ d => uptoBulk d + 1
  | .map entries => uptoBulkEntries entries + 1
  | .held _ => 1
def uptoBulkAll {H : Type} : List (DataW H) → Nat
  | [] => 0
  | d :: r => uptoBulk d + uptoBulkAll r
def uptoBulkEntries {H : Type} : List (Lit × DataW H) → Nat
  | [] => 0
  | x :: r => uptoBulkEntry x + uptoBulkEntries r
def uptoBulkEntry {H : Type} : Lit × DataW H → Nat
  | (.string bytes, d) => bytes.length + uptoBulk d + 1
  | (_, d) => uptoBulk d + 1
 end
def uptoSmall : (H : Type) → List (DataW H) → Bool := fun _ ds => decide (uptoBulkAll ds ≤ 1048576)
def OpenSpec.upto (s : _root_.Go.ChangeSpec) : _root_.Go.OpenSpec := { _root_.Go.OpenSpec.ofChange s with cond := some uptoSmall }

/-- 'laws.FnApart', WHERE WHAT IT READS IS OF BULK AT MOST 1048576: true; the input reads as it did. -/
def fnApartUptoRow : OpenClaim := { program := "ytgpifihakjdfeaagreat", sum := "82366a8a66600404474ec0b2fce9d8fa4df5c3b639b53d07709edc0f9c1ce435", func := "loop.example/g00231/laws.FnApart", spec := "fnApart", unfollowed := true, recurses := true, apart := false, narrowed := true }
def FnApartUptoSaid : Prop := fnApartUptoRow.holds Tryz.pinned (OpenSpec.upto fnApartSpec)

/-- 'laws.FnLevelled', WHERE WHAT IT READS IS OF BULK AT MOST 1048576: true; the input reads as it did. -/
def fnLevelledUptoRow : OpenClaim := { program := "ytgpifihakjdfeaagreat", sum := "82366a8a66600404474ec0b2fce9d8fa4df5c3b639b53d07709edc0f9c1ce435", func := "loop.example/g00231/laws.FnLevelled", spec := "fnLevelled", unfollowed := true, recurses := true, apart := false, narrowed := true }
def FnLevelledUptoSaid : Prop := fnLevelledUptoRow.holds Tryz.pinned (OpenSpec.upto fnLevelledSpec)

/-- 'laws.FnObs', WHERE WHAT IT READS IS OF BULK AT MOST 1048576: true; the input reads as it did. -/
def fnObsUptoRow : OpenClaim := { program := "ytgpifihakjdfeaagreat", sum := "82366a8a66600404474ec0b2fce9d8fa4df5c3b639b53d07709edc0f9c1ce435", func := "loop.example/g00231/laws.FnObs", spec := "fnObs", unfollowed := true, recurses := true, apart := false, narrowed := true }
def FnObsUptoSaid : Prop := fnObsUptoRow.holds Tryz.pinned (OpenSpec.upto fnObsSpec)

/-- 'laws.FnCaps', WHERE WHAT IT READS IS OF BULK AT MOST 1048576: true; the input reads as it did. -/
def fnCapsUptoRow : OpenClaim := { program := "ytgpifihakjdfeaagreat", sum := "82366a8a66600404474ec0b2fce9d8fa4df5c3b639b53d07709edc0f9c1ce435", func := "loop.example/g00231/laws.FnCaps", spec := "fnCaps", unfollowed := true, recurses := true, apart := false, narrowed := true }
def FnCapsUptoSaid : Prop := fnCapsUptoRow.holds Tryz.pinned (OpenSpec.upto fnCapsSpec)

/-- 'laws.FnAccess', WHERE WHAT IT READS IS OF BULK AT MOST 1048576: true; the input reads as it did. -/
def fnAccessUptoRow : OpenClaim := { program := "ytgpifihakjdfeaagreat", sum := "82366a8a66600404474ec0b2fce9d8fa4df5c3b639b53d07709edc0f9c1ce435", func := "loop.example/g00231/laws.FnAccess", spec := "fnAccess", unfollowed := true, recurses := true, apart := false, narrowed := true }
def FnAccessUptoSaid : Prop := fnAccessUptoRow.holds Tryz.pinned (OpenSpec.upto fnAccessSpec)

/-- 'laws.FnTwoRows', WHERE WHAT IT READS IS OF BULK AT MOST 1048576: true; the input reads as it did. -/
def fnTwoRowsUptoRow : OpenClaim := { program := "ytgpifihakjdfeaagreat", sum := "82366a8a66600404474ec0b2fce9d8fa4df5c3b639b53d07709edc0f9c1ce435", func := "loop.example/g00231/laws.FnTwoRows", spec := "fnTwoRows", unfollowed := true, recurses := true, apart := false, narrowed := true }
def FnTwoRowsUptoSaid : Prop := fnTwoRowsUptoRow.holds Tryz.pinned (OpenSpec.upto fnTwoRowsSpec)

/-- 'laws.FnNewSplit', WHERE WHAT IT READS IS OF BULK AT MOST 1048576: true; the input reads as it did. -/
def fnNewSplitUptoRow : OpenClaim := { program := "ytgpifihakjdfeaagreat", sum := "82366a8a66600404474ec0b2fce9d8fa4df5c3b639b53d07709edc0f9c1ce435", func := "loop.example/g00231/laws.FnNewSplit", spec := "fnNewSplit", unfollowed := true, recurses := true, apart := false, narrowed := true }
def FnNewSplitUptoSaid : Prop := fnNewSplitUptoRow.holds Tryz.pinned (OpenSpec.upto fnNewSplitSpec)

/-- 'laws.FnTimes', WHERE WHAT IT READS IS OF BULK AT MOST 1048576: true; the input reads as it did. -/
def fnTimesUptoRow : OpenClaim := { program := "ytgpifihakjdfeaagreat", sum := "82366a8a66600404474ec0b2fce9d8fa4df5c3b639b53d07709edc0f9c1ce435", func := "loop.example/g00231/laws.FnTimes", spec := "fnTimes", apart := false, narrowed := true }
def FnTimesUptoSaid : Prop := fnTimesUptoRow.holds Tryz.pinned (OpenSpec.upto fnTimesSpec)

/-- 'laws.FnAlive', WHERE WHAT IT READS IS OF BULK AT MOST 1048576: true; the input reads as it did. -/
def fnAliveUptoRow : OpenClaim := { program := "ytgpifihakjdfeaagreat", sum := "82366a8a66600404474ec0b2fce9d8fa4df5c3b639b53d07709edc0f9c1ce435", func := "loop.example/g00231/laws.FnAlive", spec := "fnAlive", apart := false, narrowed := true }
def FnAliveUptoSaid : Prop := fnAliveUptoRow.holds Tryz.pinned (OpenSpec.upto fnAliveSpec)

end Rows
end Go.Proofs.YtgpifihakjdfeaaGreat
