/-
  No cell of these rows narrows 'for every input' (looked for: loops, veiled, ifaces, maps, wideKeys, modest, calm, conditions, laid).
  DERIVED. THE GIVEN ROWS OF THIS SEAT. 5 by the template 'for every input the law returns true; each argument reads behind the call as it read before'; 0 by the template 'total and deterministic' (their statements: YtmgdknbellgpnaaTotals.lean).
  GIVEN WITH THE SEED: the statements are not yours to turn. If you find one false, say at which input.
  Laid BY PROGRAM, IN A SANDBOX (cutbox-rows.mjs): the forced cells as the released guide's own fill.sh prints them over the translation fd0981f9cda2b377… (all of the seat's roots in one cut). By AI agents, Wed Nov 11 2026. No macro, syntax, notation, axiom, sorry.
-/
import Derived.Test.YtmgdknbellgpnaaChecked
import GoSem.Claim
import GoSem.ClaimJoined
import GoSem.ClaimMapViews
import Derived.JoinedTies
import Derived.KernelRfl
namespace Go.Proofs.Ytmgdknbellgpnaa
/- THE CELL 'sum', in the pinned program and in every row, IS THE sha256 OF THE DUMP (.gsa) THAT YtmgdknbellgpnaaProg.lean LOADS. Nothing in Lean hashes anything: it is a label: what it is worth is what the hold of that sum in a sandbox is worth. -/
noncomputable def Try.pinned : Pinned := { name := "ytmgdknbellgpnaa", sum := "fd0981f9cda2b3772a6fb1331cd9c1b91cd39464903be00feba29460d75ef3da", checked := Try.checked }
namespace Rows
def none {H : Type} : Left H := { results := [], args := [] }

/-- 'laws.FnExactToneText': WHATEVER THE INPUT: true; the input reads as it did. -/
def fnExactToneTextSpec : ChangeSpec := { name := "fnExactToneText", fn := fun _ => fun
  | [d] => { results := [.lit (.bool true)], args := [d] }
  | _ => none }
def fnExactToneTextRow : OpenClaim := { program := "ytmgdknbellgpnaa", sum := "fd0981f9cda2b3772a6fb1331cd9c1b91cd39464903be00feba29460d75ef3da", func := "loop.example/g00231/laws.FnExactToneText", spec := "fnExactToneText", apart := false }
def FnExactToneTextSaid : Prop := fnExactToneTextRow.holds Try.pinned (OpenSpec.ofChange fnExactToneTextSpec)

/-- ITS FALSE NEIGHBOUR: 'it returns false'. Refute it at one input. -/
def fnExactToneTextWrong : ChangeSpec := { name := "fnExactToneText", fn := fun _ => fun
  | [d] => { results := [.lit (.bool false)], args := [d] }
  | _ => none }
def FnExactToneTextWrongFalsely : Prop := fnExactToneTextRow.holds Try.pinned (OpenSpec.ofChange fnExactToneTextWrong)

/-- 'laws.FnExactFrameText': WHATEVER THE INPUT: true; the input reads as it did. -/
def fnExactFrameTextSpec : ChangeSpec := { name := "fnExactFrameText", fn := fun _ => fun
  | [d] => { results := [.lit (.bool true)], args := [d] }
  | _ => none }
def fnExactFrameTextRow : OpenClaim := { program := "ytmgdknbellgpnaa", sum := "fd0981f9cda2b3772a6fb1331cd9c1b91cd39464903be00feba29460d75ef3da", func := "loop.example/g00231/laws.FnExactFrameText", spec := "fnExactFrameText", apart := false }
def FnExactFrameTextSaid : Prop := fnExactFrameTextRow.holds Try.pinned (OpenSpec.ofChange fnExactFrameTextSpec)

/-- ITS FALSE NEIGHBOUR: 'it returns false'. Refute it at one input. -/
def fnExactFrameTextWrong : ChangeSpec := { name := "fnExactFrameText", fn := fun _ => fun
  | [d] => { results := [.lit (.bool false)], args := [d] }
  | _ => none }
def FnExactFrameTextWrongFalsely : Prop := fnExactFrameTextRow.holds Try.pinned (OpenSpec.ofChange fnExactFrameTextWrong)

/-- 'laws.FnExactFrameRead': WHATEVER THE INPUT: true; the input reads as it did. -/
def fnExactFrameReadSpec : ChangeSpec := { name := "fnExactFrameRead", fn := fun _ => fun
  | [d] => { results := [.lit (.bool true)], args := [d] }
  | _ => none }
def fnExactFrameReadRow : OpenClaim := { program := "ytmgdknbellgpnaa", sum := "fd0981f9cda2b3772a6fb1331cd9c1b91cd39464903be00feba29460d75ef3da", func := "loop.example/g00231/laws.FnExactFrameRead", spec := "fnExactFrameRead", apart := false }
def FnExactFrameReadSaid : Prop := fnExactFrameReadRow.holds Try.pinned (OpenSpec.ofChange fnExactFrameReadSpec)

/-- ITS FALSE NEIGHBOUR: 'it returns false'. Refute it at one input. -/
def fnExactFrameReadWrong : ChangeSpec := { name := "fnExactFrameRead", fn := fun _ => fun
  | [d] => { results := [.lit (.bool false)], args := [d] }
  | _ => none }
def FnExactFrameReadWrongFalsely : Prop := fnExactFrameReadRow.holds Try.pinned (OpenSpec.ofChange fnExactFrameReadWrong)

/-- 'laws.FnExactObsSame': WHATEVER THE INPUT: true; the input reads as it did. -/
def fnExactObsSameSpec : ChangeSpec := { name := "fnExactObsSame", fn := fun _ => fun
  | [d1, d2] => { results := [.lit (.bool true)], args := [d1, d2] }
  | _ => none }
def fnExactObsSameRow : OpenClaim := { program := "ytmgdknbellgpnaa", sum := "fd0981f9cda2b3772a6fb1331cd9c1b91cd39464903be00feba29460d75ef3da", func := "loop.example/g00231/laws.FnExactObsSame", spec := "fnExactObsSame", unfollowed := true, recurses := true, apart := false }
def FnExactObsSameSaid : Prop := fnExactObsSameRow.holds Try.pinned (OpenSpec.ofChange fnExactObsSameSpec)

/-- ITS FALSE NEIGHBOUR: 'it returns false'. Refute it at one input. -/
def fnExactObsSameWrong : ChangeSpec := { name := "fnExactObsSame", fn := fun _ => fun
  | [d1, d2] => { results := [.lit (.bool false)], args := [d1, d2] }
  | _ => none }
def FnExactObsSameWrongFalsely : Prop := fnExactObsSameRow.holds Try.pinned (OpenSpec.ofChange fnExactObsSameWrong)

/-- 'laws.FnExactObsBegins': WHATEVER THE INPUT: true; the input reads as it did. -/
def fnExactObsBeginsSpec : ChangeSpec := { name := "fnExactObsBegins", fn := fun _ => fun
  | [d1, d2] => { results := [.lit (.bool true)], args := [d1, d2] }
  | _ => none }
def fnExactObsBeginsRow : OpenClaim := { program := "ytmgdknbellgpnaa", sum := "fd0981f9cda2b3772a6fb1331cd9c1b91cd39464903be00feba29460d75ef3da", func := "loop.example/g00231/laws.FnExactObsBegins", spec := "fnExactObsBegins", unfollowed := true, recurses := true, apart := false }
def FnExactObsBeginsSaid : Prop := fnExactObsBeginsRow.holds Try.pinned (OpenSpec.ofChange fnExactObsBeginsSpec)

/-- ITS FALSE NEIGHBOUR: 'it returns false'. Refute it at one input. -/
def fnExactObsBeginsWrong : ChangeSpec := { name := "fnExactObsBegins", fn := fun _ => fun
  | [d1, d2] => { results := [.lit (.bool false)], args := [d1, d2] }
  | _ => none }
def FnExactObsBeginsWrongFalsely : Prop := fnExactObsBeginsRow.holds Try.pinned (OpenSpec.ofChange fnExactObsBeginsWrong)

/- THE SECOND FORM. 'bulk': how many values and letters a reading holds, each counted each time it is reached (what is shared counts as often as it is met; a slice's spare places count too). A statement '..UptoSaid' is the law's where the arguments, and the package variables that the reading takes, are together of bulk at most 1048576: NARROWER than '..Said'. Prove '..Said' where nothing that the law and all that it calls make is longer than what came in: it says more and counts as full. Else prove '..UptoSaid'. A law counts once. -/
mutual
def uptoBulk {H : Type} : DataW H → Nat
  | .lit (.string bytes) => bytes.length + 1
  | .lit _ => 1
  | .nil => 1
  | .ptr d => uptoBulk d + 1
  | .slice elems spare => uptoBulkAll elems + uptoBulkAll spare + 1
  | .agg parts => uptoBulkAll parts + 1
  | .iface _ d => uptoBulk d + 1
  | .map entries => uptoBulkEntries entries + 1
  | .held _ => 1
def uptoBulkAll {H : Type} : List (DataW H) → Nat
  | [] => 0
  | d :: r => uptoBulk d + uptoBulkAll r
def uptoBulkEntries {H : Type} : List (Lit × DataW H) → Nat
  | [] => 0
  | x :: r => uptoBulkEntry x + uptoBulkEntries r
def uptoBulkEntry {H : Type} : Lit × DataW H → Nat
  | (.string bytes, d) => bytes.length + uptoBulk d + 1
  | (_, d) => uptoBulk d + 1
 end
def uptoSmall : (H : Type) → List (DataW H) → Bool := fun _ ds => decide (uptoBulkAll ds ≤ 1048576)
def OpenSpec.upto (s : _root_.Go.ChangeSpec) : _root_.Go.OpenSpec := { _root_.Go.OpenSpec.ofChange s with cond := some uptoSmall }

/-- 'laws.FnExactToneText', WHERE WHAT IT READS IS OF BULK AT MOST 1048576: true; the input reads as it did. -/
def fnExactToneTextUptoRow : OpenClaim := { program := "ytmgdknbellgpnaa", sum := "fd0981f9cda2b3772a6fb1331cd9c1b91cd39464903be00feba29460d75ef3da", func := "loop.example/g00231/laws.FnExactToneText", spec := "fnExactToneText", apart := false, narrowed := true }
def FnExactToneTextUptoSaid : Prop := fnExactToneTextUptoRow.holds Try.pinned (OpenSpec.upto fnExactToneTextSpec)

/-- 'laws.FnExactFrameText', WHERE WHAT IT READS IS OF BULK AT MOST 1048576: true; the input reads as it did. -/
def fnExactFrameTextUptoRow : OpenClaim := { program := "ytmgdknbellgpnaa", sum := "fd0981f9cda2b3772a6fb1331cd9c1b91cd39464903be00feba29460d75ef3da", func := "loop.example/g00231/laws.FnExactFrameText", spec := "fnExactFrameText", apart := false, narrowed := true }
def FnExactFrameTextUptoSaid : Prop := fnExactFrameTextUptoRow.holds Try.pinned (OpenSpec.upto fnExactFrameTextSpec)

/-- 'laws.FnExactFrameRead', WHERE WHAT IT READS IS OF BULK AT MOST 1048576: true; the input reads as it did. -/
def fnExactFrameReadUptoRow : OpenClaim := { program := "ytmgdknbellgpnaa", sum := "fd0981f9cda2b3772a6fb1331cd9c1b91cd39464903be00feba29460d75ef3da", func := "loop.example/g00231/laws.FnExactFrameRead", spec := "fnExactFrameRead", apart := false, narrowed := true }
def FnExactFrameReadUptoSaid : Prop := fnExactFrameReadUptoRow.holds Try.pinned (OpenSpec.upto fnExactFrameReadSpec)

/-- 'laws.FnExactObsSame', WHERE WHAT IT READS IS OF BULK AT MOST 1048576: true; the input reads as it did. -/
def fnExactObsSameUptoRow : OpenClaim := { program := "ytmgdknbellgpnaa", sum := "fd0981f9cda2b3772a6fb1331cd9c1b91cd39464903be00feba29460d75ef3da", func := "loop.example/g00231/laws.FnExactObsSame", spec := "fnExactObsSame", unfollowed := true, recurses := true, apart := false, narrowed := true }
def FnExactObsSameUptoSaid : Prop := fnExactObsSameUptoRow.holds Try.pinned (OpenSpec.upto fnExactObsSameSpec)

/-- 'laws.FnExactObsBegins', WHERE WHAT IT READS IS OF BULK AT MOST 1048576: true; the input reads as it did. -/
def fnExactObsBeginsUptoRow : OpenClaim := { program := "ytmgdknbellgpnaa", sum := "fd0981f9cda2b3772a6fb1331cd9c1b91cd39464903be00feba29460d75ef3da", func := "loop.example/g00231/laws.FnExactObsBegins", spec := "fnExactObsBegins", unfollowed := true, recurses := true, apart := false, narrowed := true }
def FnExactObsBeginsUptoSaid : Prop := fnExactObsBeginsUptoRow.holds Try.pinned (OpenSpec.upto fnExactObsBeginsSpec)

end Rows
end Go.Proofs.Ytmgdknbellgpnaa
