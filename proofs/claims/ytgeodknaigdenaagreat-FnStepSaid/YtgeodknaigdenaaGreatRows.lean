/-
  No cell of these rows narrows 'for every input' (looked for: loops, veiled, ifaces, maps, wideKeys, modest, calm, conditions, laid).
  DERIVED. THE GIVEN ROWS OF THIS SEAT. 12 by the template 'for every input the law returns true; each argument reads behind the call as it read before'; 0 by the template 'total and deterministic' (their statements: YtgeodknaigdenaaGreatTotals.lean).
  GIVEN WITH THE SEED: the statements are not yours to turn. If you find one false, say at which input.
  Laid BY PROGRAM, IN A SANDBOX (cutbox-rows.mjs): the forced cells as the released guide's own fill.sh prints them over the translation f21ae9fcf3a45b83… (all of the seat's roots in one cut). By AI agents, Wed Nov 11 2026. No macro, syntax, notation, axiom, sorry.
-/
import Derived.Test.YtgeodknaigdenaaGreatChecked
import GoSem.Claim
import GoSem.ClaimJoined
import GoSem.ClaimMapViews
import Derived.JoinedTies
import Derived.KernelRfl
namespace Go.Proofs.YtgeodknaigdenaaGreat
/- THE CELL 'sum', in the pinned program and in every row, IS THE sha256 OF THE DUMP (.gsa) THAT YtgeodknaigdenaaGreatProg.lean LOADS. Nothing in Lean hashes anything: it is a label: what it is worth is what the hold of that sum in a sandbox is worth. -/
noncomputable def Tryz.pinned : Pinned := { name := "ytgeodknaigdenaagreat", sum := "f21ae9fcf3a45b8389f566e4f519f01c15358094b4d6e617dcc60294d18dffa5", checked := Tryz.checked }
namespace Rows
def none {H : Type} : Left H := { results := [], args := [] }

/-- 'laws.FnExactJudgeCpu': WHATEVER THE INPUT: true; the input reads as it did. -/
def fnExactJudgeCpuSpec : ChangeSpec := { name := "fnExactJudgeCpu", fn := fun _ => fun
  | [d] => { results := [.lit (.bool true)], args := [d] }
  | _ => none }
def fnExactJudgeCpuRow : OpenClaim := { program := "ytgeodknaigdenaagreat", sum := "f21ae9fcf3a45b8389f566e4f519f01c15358094b4d6e617dcc60294d18dffa5", func := "loop.example/g00231/laws.FnExactJudgeCpu", spec := "fnExactJudgeCpu", apart := false }
def FnExactJudgeCpuSaid : Prop := fnExactJudgeCpuRow.holds Tryz.pinned (OpenSpec.ofChange fnExactJudgeCpuSpec)

/-- ITS FALSE NEIGHBOUR: 'it returns false'. Refute it at one input. -/
def fnExactJudgeCpuWrong : ChangeSpec := { name := "fnExactJudgeCpu", fn := fun _ => fun
  | [d] => { results := [.lit (.bool false)], args := [d] }
  | _ => none }
def FnExactJudgeCpuWrongFalsely : Prop := fnExactJudgeCpuRow.holds Tryz.pinned (OpenSpec.ofChange fnExactJudgeCpuWrong)

/-- 'laws.FnAsLock': WHATEVER THE INPUT: true; the input reads as it did. -/
def fnAsLockSpec : ChangeSpec := { name := "fnAsLock", fn := fun _ => fun
  | [d] => { results := [.lit (.bool true)], args := [d] }
  | _ => none }
def fnAsLockRow : OpenClaim := { program := "ytgeodknaigdenaagreat", sum := "f21ae9fcf3a45b8389f566e4f519f01c15358094b4d6e617dcc60294d18dffa5", func := "loop.example/g00231/laws.FnAsLock", spec := "fnAsLock", unfollowed := true, recurses := true, apart := false }
def FnAsLockSaid : Prop := fnAsLockRow.holds Tryz.pinned (OpenSpec.ofChange fnAsLockSpec)

/-- ITS FALSE NEIGHBOUR: 'it returns false'. Refute it at one input. -/
def fnAsLockWrong : ChangeSpec := { name := "fnAsLock", fn := fun _ => fun
  | [d] => { results := [.lit (.bool false)], args := [d] }
  | _ => none }
def FnAsLockWrongFalsely : Prop := fnAsLockRow.holds Tryz.pinned (OpenSpec.ofChange fnAsLockWrong)

/-- 'laws.FnLevel': WHATEVER THE INPUT: true; the input reads as it did. -/
def fnLevelSpec : ChangeSpec := { name := "fnLevel", fn := fun _ => fun
  | [d] => { results := [.lit (.bool true)], args := [d] }
  | _ => none }
def fnLevelRow : OpenClaim := { program := "ytgeodknaigdenaagreat", sum := "f21ae9fcf3a45b8389f566e4f519f01c15358094b4d6e617dcc60294d18dffa5", func := "loop.example/g00231/laws.FnLevel", spec := "fnLevel", apart := false }
def FnLevelSaid : Prop := fnLevelRow.holds Tryz.pinned (OpenSpec.ofChange fnLevelSpec)

/-- ITS FALSE NEIGHBOUR: 'it returns false'. Refute it at one input. -/
def fnLevelWrong : ChangeSpec := { name := "fnLevel", fn := fun _ => fun
  | [d] => { results := [.lit (.bool false)], args := [d] }
  | _ => none }
def FnLevelWrongFalsely : Prop := fnLevelRow.holds Tryz.pinned (OpenSpec.ofChange fnLevelWrong)

/-- 'laws.FnLevelWait': WHATEVER THE INPUT: true; the input reads as it did. -/
def fnLevelWaitSpec : ChangeSpec := { name := "fnLevelWait", fn := fun _ => fun
  | [d] => { results := [.lit (.bool true)], args := [d] }
  | _ => none }
def fnLevelWaitRow : OpenClaim := { program := "ytgeodknaigdenaagreat", sum := "f21ae9fcf3a45b8389f566e4f519f01c15358094b4d6e617dcc60294d18dffa5", func := "loop.example/g00231/laws.FnLevelWait", spec := "fnLevelWait", apart := false }
def FnLevelWaitSaid : Prop := fnLevelWaitRow.holds Tryz.pinned (OpenSpec.ofChange fnLevelWaitSpec)

/-- ITS FALSE NEIGHBOUR: 'it returns false'. Refute it at one input. -/
def fnLevelWaitWrong : ChangeSpec := { name := "fnLevelWait", fn := fun _ => fun
  | [d] => { results := [.lit (.bool false)], args := [d] }
  | _ => none }
def FnLevelWaitWrongFalsely : Prop := fnLevelWaitRow.holds Tryz.pinned (OpenSpec.ofChange fnLevelWaitWrong)

/-- 'laws.FnStep': WHATEVER THE INPUT: true; the input reads as it did. -/
def fnStepSpec : ChangeSpec := { name := "fnStep", fn := fun _ => fun
  | [d] => { results := [.lit (.bool true)], args := [d] }
  | _ => none }
def fnStepRow : OpenClaim := { program := "ytgeodknaigdenaagreat", sum := "f21ae9fcf3a45b8389f566e4f519f01c15358094b4d6e617dcc60294d18dffa5", func := "loop.example/g00231/laws.FnStep", spec := "fnStep", unfollowed := true, recurses := true, apart := false }
def FnStepSaid : Prop := fnStepRow.holds Tryz.pinned (OpenSpec.ofChange fnStepSpec)

/-- ITS FALSE NEIGHBOUR: 'it returns false'. Refute it at one input. -/
def fnStepWrong : ChangeSpec := { name := "fnStep", fn := fun _ => fun
  | [d] => { results := [.lit (.bool false)], args := [d] }
  | _ => none }
def FnStepWrongFalsely : Prop := fnStepRow.holds Tryz.pinned (OpenSpec.ofChange fnStepWrong)

/-- 'laws.FnRun': WHATEVER THE INPUT: true; the input reads as it did. -/
def fnRunSpec : ChangeSpec := { name := "fnRun", fn := fun _ => fun
  | [d] => { results := [.lit (.bool true)], args := [d] }
  | _ => none }
def fnRunRow : OpenClaim := { program := "ytgeodknaigdenaagreat", sum := "f21ae9fcf3a45b8389f566e4f519f01c15358094b4d6e617dcc60294d18dffa5", func := "loop.example/g00231/laws.FnRun", spec := "fnRun", unfollowed := true, recurses := true, apart := false }
def FnRunSaid : Prop := fnRunRow.holds Tryz.pinned (OpenSpec.ofChange fnRunSpec)

/-- ITS FALSE NEIGHBOUR: 'it returns false'. Refute it at one input. -/
def fnRunWrong : ChangeSpec := { name := "fnRun", fn := fun _ => fun
  | [d] => { results := [.lit (.bool false)], args := [d] }
  | _ => none }
def FnRunWrongFalsely : Prop := fnRunRow.holds Tryz.pinned (OpenSpec.ofChange fnRunWrong)

/-- 'laws.FnWait': WHATEVER THE INPUT: true; the input reads as it did. -/
def fnWaitSpec : ChangeSpec := { name := "fnWait", fn := fun _ => fun
  | [d] => { results := [.lit (.bool true)], args := [d] }
  | _ => none }
def fnWaitRow : OpenClaim := { program := "ytgeodknaigdenaagreat", sum := "f21ae9fcf3a45b8389f566e4f519f01c15358094b4d6e617dcc60294d18dffa5", func := "loop.example/g00231/laws.FnWait", spec := "fnWait", apart := false }
def FnWaitSaid : Prop := fnWaitRow.holds Tryz.pinned (OpenSpec.ofChange fnWaitSpec)

/-- ITS FALSE NEIGHBOUR: 'it returns false'. Refute it at one input. -/
def fnWaitWrong : ChangeSpec := { name := "fnWait", fn := fun _ => fun
  | [d] => { results := [.lit (.bool false)], args := [d] }
  | _ => none }
def FnWaitWrongFalsely : Prop := fnWaitRow.holds Tryz.pinned (OpenSpec.ofChange fnWaitWrong)

/-- 'laws.FnAble': WHATEVER THE INPUT: true; the input reads as it did. -/
def fnAbleSpec : ChangeSpec := { name := "fnAble", fn := fun _ => fun
  | [d] => { results := [.lit (.bool true)], args := [d] }
  | _ => none }
def fnAbleRow : OpenClaim := { program := "ytgeodknaigdenaagreat", sum := "f21ae9fcf3a45b8389f566e4f519f01c15358094b4d6e617dcc60294d18dffa5", func := "loop.example/g00231/laws.FnAble", spec := "fnAble", apart := false }
def FnAbleSaid : Prop := fnAbleRow.holds Tryz.pinned (OpenSpec.ofChange fnAbleSpec)

/-- ITS FALSE NEIGHBOUR: 'it returns false'. Refute it at one input. -/
def fnAbleWrong : ChangeSpec := { name := "fnAble", fn := fun _ => fun
  | [d] => { results := [.lit (.bool false)], args := [d] }
  | _ => none }
def FnAbleWrongFalsely : Prop := fnAbleRow.holds Tryz.pinned (OpenSpec.ofChange fnAbleWrong)

/-- 'laws.FnPick': WHATEVER THE INPUT: true; the input reads as it did. -/
def fnPickSpec : ChangeSpec := { name := "fnPick", fn := fun _ => fun
  | [d] => { results := [.lit (.bool true)], args := [d] }
  | _ => none }
def fnPickRow : OpenClaim := { program := "ytgeodknaigdenaagreat", sum := "f21ae9fcf3a45b8389f566e4f519f01c15358094b4d6e617dcc60294d18dffa5", func := "loop.example/g00231/laws.FnPick", spec := "fnPick", apart := false }
def FnPickSaid : Prop := fnPickRow.holds Tryz.pinned (OpenSpec.ofChange fnPickSpec)

/-- ITS FALSE NEIGHBOUR: 'it returns false'. Refute it at one input. -/
def fnPickWrong : ChangeSpec := { name := "fnPick", fn := fun _ => fun
  | [d] => { results := [.lit (.bool false)], args := [d] }
  | _ => none }
def FnPickWrongFalsely : Prop := fnPickRow.holds Tryz.pinned (OpenSpec.ofChange fnPickWrong)

/-- 'laws.FnPlayed': WHATEVER THE INPUT: true; the input reads as it did. -/
def fnPlayedSpec : ChangeSpec := { name := "fnPlayed", fn := fun _ => fun
  | [d] => { results := [.lit (.bool true)], args := [d] }
  | _ => none }
def fnPlayedRow : OpenClaim := { program := "ytgeodknaigdenaagreat", sum := "f21ae9fcf3a45b8389f566e4f519f01c15358094b4d6e617dcc60294d18dffa5", func := "loop.example/g00231/laws.FnPlayed", spec := "fnPlayed", apart := false }
def FnPlayedSaid : Prop := fnPlayedRow.holds Tryz.pinned (OpenSpec.ofChange fnPlayedSpec)

/-- ITS FALSE NEIGHBOUR: 'it returns false'. Refute it at one input. -/
def fnPlayedWrong : ChangeSpec := { name := "fnPlayed", fn := fun _ => fun
  | [d] => { results := [.lit (.bool false)], args := [d] }
  | _ => none }
def FnPlayedWrongFalsely : Prop := fnPlayedRow.holds Tryz.pinned (OpenSpec.ofChange fnPlayedWrong)

/-- 'laws.FnFair': WHATEVER THE INPUT: true; the input reads as it did. -/
def fnFairSpec : ChangeSpec := { name := "fnFair", fn := fun _ => fun
  | [d] => { results := [.lit (.bool true)], args := [d] }
  | _ => none }
def fnFairRow : OpenClaim := { program := "ytgeodknaigdenaagreat", sum := "f21ae9fcf3a45b8389f566e4f519f01c15358094b4d6e617dcc60294d18dffa5", func := "loop.example/g00231/laws.FnFair", spec := "fnFair", apart := false }
def FnFairSaid : Prop := fnFairRow.holds Tryz.pinned (OpenSpec.ofChange fnFairSpec)

/-- ITS FALSE NEIGHBOUR: 'it returns false'. Refute it at one input. -/
def fnFairWrong : ChangeSpec := { name := "fnFair", fn := fun _ => fun
  | [d] => { results := [.lit (.bool false)], args := [d] }
  | _ => none }
def FnFairWrongFalsely : Prop := fnFairRow.holds Tryz.pinned (OpenSpec.ofChange fnFairWrong)

/-- 'laws.FnJudges': WHATEVER THE INPUT: true; the input reads as it did. -/
def fnJudgesSpec : ChangeSpec := { name := "fnJudges", fn := fun _ => fun
  | [d] => { results := [.lit (.bool true)], args := [d] }
  | _ => none }
def fnJudgesRow : OpenClaim := { program := "ytgeodknaigdenaagreat", sum := "f21ae9fcf3a45b8389f566e4f519f01c15358094b4d6e617dcc60294d18dffa5", func := "loop.example/g00231/laws.FnJudges", spec := "fnJudges", unfollowed := true, recurses := true, apart := false }
def FnJudgesSaid : Prop := fnJudgesRow.holds Tryz.pinned (OpenSpec.ofChange fnJudgesSpec)

/-- ITS FALSE NEIGHBOUR: 'it returns false'. Refute it at one input. -/
def fnJudgesWrong : ChangeSpec := { name := "fnJudges", fn := fun _ => fun
  | [d] => { results := [.lit (.bool false)], args := [d] }
  | _ => none }
def FnJudgesWrongFalsely : Prop := fnJudgesRow.holds Tryz.pinned (OpenSpec.ofChange fnJudgesWrong)

/- THE SECOND FORM. 'bulk': how many values and letters a reading holds, each counted each time it is reached (what is shared counts as often as it is met; a slice's spare places count too). A statement '..UptoSaid' is the law's where the arguments, and the package variables that the reading takes, are together of bulk at most 1048576: NARROWER than '..Said'. Prove '..Said' where nothing that the law and all that it calls make is longer than what came in: it says more and counts as full. Else prove '..UptoSaid'. A law counts once. -/
mutual
def uptoBulk {H : Type} : DataW H → Nat
  | .lit (.string bytes) => bytes.length + 1
  | .lit _ => 1
  | .nil => 1
  | .ptr d => uptoBulk d + 1
  | .slice elems spare => uptoBulkAll elems + uptoBulkAll spare + 1
  | .agg parts => uptoBulkAll parts + 1
  | .iface _ d => uptoBulk d + 1
  | .map entries => uptoBulkEntries entries + 1
  | .held _ => 1
def uptoBulkAll {H : Type} : List (DataW H) → Nat
  | [] => 0
  | d :: r => uptoBulk d + uptoBulkAll r
def uptoBulkEntries {H : Type} : List (Lit × DataW H) → Nat
  | [] => 0
  | x :: r => uptoBulkEntry x + uptoBulkEntries r
def uptoBulkEntry {H : Type} : Lit × DataW H → Nat
  | (.string bytes, d) => bytes.length + uptoBulk d + 1
  | (_, d) => uptoBulk d + 1
 end
def uptoSmall : (H : Type) → List (DataW H) → Bool := fun _ ds => decide (uptoBulkAll ds ≤ 1048576)
def OpenSpec.upto (s : _root_.Go.ChangeSpec) : _root_.Go.OpenSpec := { _root_.Go.OpenSpec.ofChange s with cond := some uptoSmall }

/-- 'laws.FnExactJudgeCpu', WHERE WHAT IT READS IS OF BULK AT MOST 1048576: true; the input reads as it did. -/
def fnExactJudgeCpuUptoRow : OpenClaim := { program := "ytgeodknaigdenaagreat", sum := "f21ae9fcf3a45b8389f566e4f519f01c15358094b4d6e617dcc60294d18dffa5", func := "loop.example/g00231/laws.FnExactJudgeCpu", spec := "fnExactJudgeCpu", apart := false, narrowed := true }
def FnExactJudgeCpuUptoSaid : Prop := fnExactJudgeCpuUptoRow.holds Tryz.pinned (OpenSpec.upto fnExactJudgeCpuSpec)

/-- 'laws.FnAsLock', WHERE WHAT IT READS IS OF BULK AT MOST 1048576: true; the input reads as it did. -/
def fnAsLockUptoRow : OpenClaim := { program := "ytgeodknaigdenaagreat", sum := "f21ae9fcf3a45b8389f566e4f519f01c15358094b4d6e617dcc60294d18dffa5", func := "loop.example/g00231/laws.FnAsLock", spec := "fnAsLock", unfollowed := true, recurses := true, apart := false, narrowed := true }
def FnAsLockUptoSaid : Prop := fnAsLockUptoRow.holds Tryz.pinned (OpenSpec.upto fnAsLockSpec)

/-- 'laws.FnLevel', WHERE WHAT IT READS IS OF BULK AT MOST 1048576: true; the input reads as it did. -/
def fnLevelUptoRow : OpenClaim := { program := "ytgeodknaigdenaagreat", sum := "f21ae9fcf3a45b8389f566e4f519f01c15358094b4d6e617dcc60294d18dffa5", func := "loop.example/g00231/laws.FnLevel", spec := "fnLevel", apart := false, narrowed := true }
def FnLevelUptoSaid : Prop := fnLevelUptoRow.holds Tryz.pinned (OpenSpec.upto fnLevelSpec)

/-- 'laws.FnLevelWait', WHERE WHAT IT READS IS OF BULK AT MOST 1048576: true; the input reads as it did. -/
def fnLevelWaitUptoRow : OpenClaim := { program := "ytgeodknaigdenaagreat", sum := "f21ae9fcf3a45b8389f566e4f519f01c15358094b4d6e617dcc60294d18dffa5", func := "loop.example/g00231/laws.FnLevelWait", spec := "fnLevelWait", apart := false, narrowed := true }
def FnLevelWaitUptoSaid : Prop := fnLevelWaitUptoRow.holds Tryz.pinned (OpenSpec.upto fnLevelWaitSpec)

/-- 'laws.FnStep', WHERE WHAT IT READS IS OF BULK AT MOST 1048576: true; the input reads as it did. -/
def fnStepUptoRow : OpenClaim := { program := "ytgeodknaigdenaagreat", sum := "f21ae9fcf3a45b8389f566e4f519f01c15358094b4d6e617dcc60294d18dffa5", func := "loop.example/g00231/laws.FnStep", spec := "fnStep", unfollowed := true, recurses := true, apart := false, narrowed := true }
def FnStepUptoSaid : Prop := fnStepUptoRow.holds Tryz.pinned (OpenSpec.upto fnStepSpec)

/-- 'laws.FnRun', WHERE WHAT IT READS IS OF BULK AT MOST 1048576: true; the input reads as it did. -/
def fnRunUptoRow : OpenClaim := { program := "ytgeodknaigdenaagreat", sum := "f21ae9fcf3a45b8389f566e4f519f01c15358094b4d6e617dcc60294d18dffa5", func := "loop.example/g00231/laws.FnRun", spec := "fnRun", unfollowed := true, recurses := true, apart := false, narrowed := true }
def FnRunUptoSaid : Prop := fnRunUptoRow.holds Tryz.pinned (OpenSpec.upto fnRunSpec)

/-- 'laws.FnWait', WHERE WHAT IT READS IS OF BULK AT MOST 1048576: true; the input reads as it did. -/
def fnWaitUptoRow : OpenClaim := { program := "ytgeodknaigdenaagreat", sum := "f21ae9fcf3a45b8389f566e4f519f01c15358094b4d6e617dcc60294d18dffa5", func := "loop.example/g00231/laws.FnWait", spec := "fnWait", apart := false, narrowed := true }
def FnWaitUptoSaid : Prop := fnWaitUptoRow.holds Tryz.pinned (OpenSpec.upto fnWaitSpec)

/-- 'laws.FnAble', WHERE WHAT IT READS IS OF BULK AT MOST 1048576: true; the input reads as it did. -/
def fnAbleUptoRow : OpenClaim := { program := "ytgeodknaigdenaagreat", sum := "f21ae9fcf3a45b8389f566e4f519f01c15358094b4d6e617dcc60294d18dffa5", func := "loop.example/g00231/laws.FnAble", spec := "fnAble", apart := false, narrowed := true }
def FnAbleUptoSaid : Prop := fnAbleUptoRow.holds Tryz.pinned (OpenSpec.upto fnAbleSpec)

/-- 'laws.FnPick', WHERE WHAT IT READS IS OF BULK AT MOST 1048576: true; the input reads as it did. -/
def fnPickUptoRow : OpenClaim := { program := "ytgeodknaigdenaagreat", sum := "f21ae9fcf3a45b8389f566e4f519f01c15358094b4d6e617dcc60294d18dffa5", func := "loop.example/g00231/laws.FnPick", spec := "fnPick", apart := false, narrowed := true }
def FnPickUptoSaid : Prop := fnPickUptoRow.holds Tryz.pinned (OpenSpec.upto fnPickSpec)

/-- 'laws.FnPlayed', WHERE WHAT IT READS IS OF BULK AT MOST 1048576: true; the input reads as it did. -/
def fnPlayedUptoRow : OpenClaim := { program := "ytgeodknaigdenaagreat", sum := "f21ae9fcf3a45b8389f566e4f519f01c15358094b4d6e617dcc60294d18dffa5", func := "loop.example/g00231/laws.FnPlayed", spec := "fnPlayed", apart := false, narrowed := true }
def FnPlayedUptoSaid : Prop := fnPlayedUptoRow.holds Tryz.pinned (OpenSpec.upto fnPlayedSpec)

/-- 'laws.FnFair', WHERE WHAT IT READS IS OF BULK AT MOST 1048576: true; the input reads as it did. -/
def fnFairUptoRow : OpenClaim := { program := "ytgeodknaigdenaagreat", sum := "f21ae9fcf3a45b8389f566e4f519f01c15358094b4d6e617dcc60294d18dffa5", func := "loop.example/g00231/laws.FnFair", spec := "fnFair", apart := false, narrowed := true }
def FnFairUptoSaid : Prop := fnFairUptoRow.holds Tryz.pinned (OpenSpec.upto fnFairSpec)

/-- 'laws.FnJudges', WHERE WHAT IT READS IS OF BULK AT MOST 1048576: true; the input reads as it did. -/
def fnJudgesUptoRow : OpenClaim := { program := "ytgeodknaigdenaagreat", sum := "f21ae9fcf3a45b8389f566e4f519f01c15358094b4d6e617dcc60294d18dffa5", func := "loop.example/g00231/laws.FnJudges", spec := "fnJudges", unfollowed := true, recurses := true, apart := false, narrowed := true }
def FnJudgesUptoSaid : Prop := fnJudgesUptoRow.holds Tryz.pinned (OpenSpec.upto fnJudgesSpec)

end Rows
end Go.Proofs.YtgeodknaigdenaaGreat
