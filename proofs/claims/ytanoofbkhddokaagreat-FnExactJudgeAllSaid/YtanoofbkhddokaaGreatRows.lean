/-
  No cell of these rows narrows 'for every input' (looked for: loops, veiled, ifaces, maps, wideKeys, modest, calm, conditions, laid).
  DERIVED. THE GIVEN ROWS OF THIS SEAT. 12 by the template 'for every input the law returns true; each argument reads behind the call as it read before'; 0 by the template 'total and deterministic' (their statements: YtanoofbkhddokaaGreatTotals.lean).
  GIVEN WITH THE SEED: the statements are not yours to turn. If you find one false, say at which input.
  Laid BY PROGRAM, IN A SANDBOX (cutbox-rows.mjs): the forced cells as the released guide's own fill.sh prints them over the translation eb4fa27bcb6dedd7… (all of the seat's roots in one cut). By AI agents, Wed Nov 11 2026. No macro, syntax, notation, axiom, sorry.
-/
import Derived.Test.YtanoofbkhddokaaGreatChecked
import GoSem.Claim
import GoSem.ClaimJoined
import GoSem.ClaimMapViews
import Derived.JoinedTies
import Derived.KernelRfl
namespace Go.Proofs.YtanoofbkhddokaaGreat
/- THE CELL 'sum', in the pinned program and in every row, IS THE sha256 OF THE DUMP (.gsa) THAT YtanoofbkhddokaaGreatProg.lean LOADS. Nothing in Lean hashes anything: it is a label: what it is worth is what the hold of that sum in a sandbox is worth. -/
noncomputable def Tryz.pinned : Pinned := { name := "ytanoofbkhddokaagreat", sum := "eb4fa27bcb6dedd70ccb7e4d8b8865ee92c8994fc05493920dc6ef84e06fcfc2", checked := Tryz.checked }
namespace Rows
def none {H : Type} : Left H := { results := [], args := [] }

/-- 'laws.FnExactLevel': WHATEVER THE INPUT: true; the input reads as it did. -/
def fnExactLevelSpec : ChangeSpec := { name := "fnExactLevel", fn := fun _ => fun
  | [d] => { results := [.lit (.bool true)], args := [d] }
  | _ => none }
def fnExactLevelRow : OpenClaim := { program := "ytanoofbkhddokaagreat", sum := "eb4fa27bcb6dedd70ccb7e4d8b8865ee92c8994fc05493920dc6ef84e06fcfc2", func := "loop.example/g00231/laws.FnExactLevel", spec := "fnExactLevel", apart := false }
def FnExactLevelSaid : Prop := fnExactLevelRow.holds Tryz.pinned (OpenSpec.ofChange fnExactLevelSpec)

/-- ITS FALSE NEIGHBOUR: 'it returns false'. Refute it at one input. -/
def fnExactLevelWrong : ChangeSpec := { name := "fnExactLevel", fn := fun _ => fun
  | [d] => { results := [.lit (.bool false)], args := [d] }
  | _ => none }
def FnExactLevelWrongFalsely : Prop := fnExactLevelRow.holds Tryz.pinned (OpenSpec.ofChange fnExactLevelWrong)

/-- 'laws.FnExactLockRun': WHATEVER THE INPUT: true; the input reads as it did. -/
def fnExactLockRunSpec : ChangeSpec := { name := "fnExactLockRun", fn := fun _ => fun
  | [d1, d2] => { results := [.lit (.bool true)], args := [d1, d2] }
  | _ => none }
def fnExactLockRunRow : OpenClaim := { program := "ytanoofbkhddokaagreat", sum := "eb4fa27bcb6dedd70ccb7e4d8b8865ee92c8994fc05493920dc6ef84e06fcfc2", func := "loop.example/g00231/laws.FnExactLockRun", spec := "fnExactLockRun", apart := false }
def FnExactLockRunSaid : Prop := fnExactLockRunRow.holds Tryz.pinned (OpenSpec.ofChange fnExactLockRunSpec)

/-- ITS FALSE NEIGHBOUR: 'it returns false'. Refute it at one input. -/
def fnExactLockRunWrong : ChangeSpec := { name := "fnExactLockRun", fn := fun _ => fun
  | [d1, d2] => { results := [.lit (.bool false)], args := [d1, d2] }
  | _ => none }
def FnExactLockRunWrongFalsely : Prop := fnExactLockRunRow.holds Tryz.pinned (OpenSpec.ofChange fnExactLockRunWrong)

/-- 'laws.FnExactCpuStep': WHATEVER THE INPUT: true; the input reads as it did. -/
def fnExactCpuStepSpec : ChangeSpec := { name := "fnExactCpuStep", fn := fun _ => fun
  | [d] => { results := [.lit (.bool true)], args := [d] }
  | _ => none }
def fnExactCpuStepRow : OpenClaim := { program := "ytanoofbkhddokaagreat", sum := "eb4fa27bcb6dedd70ccb7e4d8b8865ee92c8994fc05493920dc6ef84e06fcfc2", func := "loop.example/g00231/laws.FnExactCpuStep", spec := "fnExactCpuStep", apart := false }
def FnExactCpuStepSaid : Prop := fnExactCpuStepRow.holds Tryz.pinned (OpenSpec.ofChange fnExactCpuStepSpec)

/-- ITS FALSE NEIGHBOUR: 'it returns false'. Refute it at one input. -/
def fnExactCpuStepWrong : ChangeSpec := { name := "fnExactCpuStep", fn := fun _ => fun
  | [d] => { results := [.lit (.bool false)], args := [d] }
  | _ => none }
def FnExactCpuStepWrongFalsely : Prop := fnExactCpuStepRow.holds Tryz.pinned (OpenSpec.ofChange fnExactCpuStepWrong)

/-- 'laws.FnExactTwin': WHATEVER THE INPUT: true; the input reads as it did. -/
def fnExactTwinSpec : ChangeSpec := { name := "fnExactTwin", fn := fun _ => fun
  | [d] => { results := [.lit (.bool true)], args := [d] }
  | _ => none }
def fnExactTwinRow : OpenClaim := { program := "ytanoofbkhddokaagreat", sum := "eb4fa27bcb6dedd70ccb7e4d8b8865ee92c8994fc05493920dc6ef84e06fcfc2", func := "loop.example/g00231/laws.FnExactTwin", spec := "fnExactTwin", apart := false }
def FnExactTwinSaid : Prop := fnExactTwinRow.holds Tryz.pinned (OpenSpec.ofChange fnExactTwinSpec)

/-- ITS FALSE NEIGHBOUR: 'it returns false'. Refute it at one input. -/
def fnExactTwinWrong : ChangeSpec := { name := "fnExactTwin", fn := fun _ => fun
  | [d] => { results := [.lit (.bool false)], args := [d] }
  | _ => none }
def FnExactTwinWrongFalsely : Prop := fnExactTwinRow.holds Tryz.pinned (OpenSpec.ofChange fnExactTwinWrong)

/-- 'laws.FnExactAble': WHATEVER THE INPUT: true; the input reads as it did. -/
def fnExactAbleSpec : ChangeSpec := { name := "fnExactAble", fn := fun _ => fun
  | [d] => { results := [.lit (.bool true)], args := [d] }
  | _ => none }
def fnExactAbleRow : OpenClaim := { program := "ytanoofbkhddokaagreat", sum := "eb4fa27bcb6dedd70ccb7e4d8b8865ee92c8994fc05493920dc6ef84e06fcfc2", func := "loop.example/g00231/laws.FnExactAble", spec := "fnExactAble", apart := false }
def FnExactAbleSaid : Prop := fnExactAbleRow.holds Tryz.pinned (OpenSpec.ofChange fnExactAbleSpec)

/-- ITS FALSE NEIGHBOUR: 'it returns false'. Refute it at one input. -/
def fnExactAbleWrong : ChangeSpec := { name := "fnExactAble", fn := fun _ => fun
  | [d] => { results := [.lit (.bool false)], args := [d] }
  | _ => none }
def FnExactAbleWrongFalsely : Prop := fnExactAbleRow.holds Tryz.pinned (OpenSpec.ofChange fnExactAbleWrong)

/-- 'laws.FnExactPick': WHATEVER THE INPUT: true; the input reads as it did. -/
def fnExactPickSpec : ChangeSpec := { name := "fnExactPick", fn := fun _ => fun
  | [d1, d2] => { results := [.lit (.bool true)], args := [d1, d2] }
  | _ => none }
def fnExactPickRow : OpenClaim := { program := "ytanoofbkhddokaagreat", sum := "eb4fa27bcb6dedd70ccb7e4d8b8865ee92c8994fc05493920dc6ef84e06fcfc2", func := "loop.example/g00231/laws.FnExactPick", spec := "fnExactPick", apart := false }
def FnExactPickSaid : Prop := fnExactPickRow.holds Tryz.pinned (OpenSpec.ofChange fnExactPickSpec)

/-- ITS FALSE NEIGHBOUR: 'it returns false'. Refute it at one input. -/
def fnExactPickWrong : ChangeSpec := { name := "fnExactPick", fn := fun _ => fun
  | [d1, d2] => { results := [.lit (.bool false)], args := [d1, d2] }
  | _ => none }
def FnExactPickWrongFalsely : Prop := fnExactPickRow.holds Tryz.pinned (OpenSpec.ofChange fnExactPickWrong)

/-- 'laws.FnExactPlay': WHATEVER THE INPUT: true; the input reads as it did. -/
def fnExactPlaySpec : ChangeSpec := { name := "fnExactPlay", fn := fun _ => fun
  | [d1, d2] => { results := [.lit (.bool true)], args := [d1, d2] }
  | _ => none }
def fnExactPlayRow : OpenClaim := { program := "ytanoofbkhddokaagreat", sum := "eb4fa27bcb6dedd70ccb7e4d8b8865ee92c8994fc05493920dc6ef84e06fcfc2", func := "loop.example/g00231/laws.FnExactPlay", spec := "fnExactPlay", apart := false }
def FnExactPlaySaid : Prop := fnExactPlayRow.holds Tryz.pinned (OpenSpec.ofChange fnExactPlaySpec)

/-- ITS FALSE NEIGHBOUR: 'it returns false'. Refute it at one input. -/
def fnExactPlayWrong : ChangeSpec := { name := "fnExactPlay", fn := fun _ => fun
  | [d1, d2] => { results := [.lit (.bool false)], args := [d1, d2] }
  | _ => none }
def FnExactPlayWrongFalsely : Prop := fnExactPlayRow.holds Tryz.pinned (OpenSpec.ofChange fnExactPlayWrong)

/-- 'laws.FnExactFair': WHATEVER THE INPUT: true; the input reads as it did. -/
def fnExactFairSpec : ChangeSpec := { name := "fnExactFair", fn := fun _ => fun
  | [d1, d2] => { results := [.lit (.bool true)], args := [d1, d2] }
  | _ => none }
def fnExactFairRow : OpenClaim := { program := "ytanoofbkhddokaagreat", sum := "eb4fa27bcb6dedd70ccb7e4d8b8865ee92c8994fc05493920dc6ef84e06fcfc2", func := "loop.example/g00231/laws.FnExactFair", spec := "fnExactFair", apart := false }
def FnExactFairSaid : Prop := fnExactFairRow.holds Tryz.pinned (OpenSpec.ofChange fnExactFairSpec)

/-- ITS FALSE NEIGHBOUR: 'it returns false'. Refute it at one input. -/
def fnExactFairWrong : ChangeSpec := { name := "fnExactFair", fn := fun _ => fun
  | [d1, d2] => { results := [.lit (.bool false)], args := [d1, d2] }
  | _ => none }
def FnExactFairWrongFalsely : Prop := fnExactFairRow.holds Tryz.pinned (OpenSpec.ofChange fnExactFairWrong)

/-- 'laws.FnExactJudgeAll': WHATEVER THE INPUT: true; the input reads as it did. -/
def fnExactJudgeAllSpec : ChangeSpec := { name := "fnExactJudgeAll", fn := fun _ => fun
  | [d] => { results := [.lit (.bool true)], args := [d] }
  | _ => none }
def fnExactJudgeAllRow : OpenClaim := { program := "ytanoofbkhddokaagreat", sum := "eb4fa27bcb6dedd70ccb7e4d8b8865ee92c8994fc05493920dc6ef84e06fcfc2", func := "loop.example/g00231/laws.FnExactJudgeAll", spec := "fnExactJudgeAll", unfollowed := true, recurses := true, apart := false }
def FnExactJudgeAllSaid : Prop := fnExactJudgeAllRow.holds Tryz.pinned (OpenSpec.ofChange fnExactJudgeAllSpec)

/-- ITS FALSE NEIGHBOUR: 'it returns false'. Refute it at one input. -/
def fnExactJudgeAllWrong : ChangeSpec := { name := "fnExactJudgeAll", fn := fun _ => fun
  | [d] => { results := [.lit (.bool false)], args := [d] }
  | _ => none }
def FnExactJudgeAllWrongFalsely : Prop := fnExactJudgeAllRow.holds Tryz.pinned (OpenSpec.ofChange fnExactJudgeAllWrong)

/-- 'laws.FnExactJudgeAlive': WHATEVER THE INPUT: true; the input reads as it did. -/
def fnExactJudgeAliveSpec : ChangeSpec := { name := "fnExactJudgeAlive", fn := fun _ => fun
  | [d] => { results := [.lit (.bool true)], args := [d] }
  | _ => none }
def fnExactJudgeAliveRow : OpenClaim := { program := "ytanoofbkhddokaagreat", sum := "eb4fa27bcb6dedd70ccb7e4d8b8865ee92c8994fc05493920dc6ef84e06fcfc2", func := "loop.example/g00231/laws.FnExactJudgeAlive", spec := "fnExactJudgeAlive", apart := false }
def FnExactJudgeAliveSaid : Prop := fnExactJudgeAliveRow.holds Tryz.pinned (OpenSpec.ofChange fnExactJudgeAliveSpec)

/-- ITS FALSE NEIGHBOUR: 'it returns false'. Refute it at one input. -/
def fnExactJudgeAliveWrong : ChangeSpec := { name := "fnExactJudgeAlive", fn := fun _ => fun
  | [d] => { results := [.lit (.bool false)], args := [d] }
  | _ => none }
def FnExactJudgeAliveWrongFalsely : Prop := fnExactJudgeAliveRow.holds Tryz.pinned (OpenSpec.ofChange fnExactJudgeAliveWrong)

/-- 'laws.FnExactJudgeLevel': WHATEVER THE INPUT: true; the input reads as it did. -/
def fnExactJudgeLevelSpec : ChangeSpec := { name := "fnExactJudgeLevel", fn := fun _ => fun
  | [d] => { results := [.lit (.bool true)], args := [d] }
  | _ => none }
def fnExactJudgeLevelRow : OpenClaim := { program := "ytanoofbkhddokaagreat", sum := "eb4fa27bcb6dedd70ccb7e4d8b8865ee92c8994fc05493920dc6ef84e06fcfc2", func := "loop.example/g00231/laws.FnExactJudgeLevel", spec := "fnExactJudgeLevel", unfollowed := true, recurses := true, apart := false }
def FnExactJudgeLevelSaid : Prop := fnExactJudgeLevelRow.holds Tryz.pinned (OpenSpec.ofChange fnExactJudgeLevelSpec)

/-- ITS FALSE NEIGHBOUR: 'it returns false'. Refute it at one input. -/
def fnExactJudgeLevelWrong : ChangeSpec := { name := "fnExactJudgeLevel", fn := fun _ => fun
  | [d] => { results := [.lit (.bool false)], args := [d] }
  | _ => none }
def FnExactJudgeLevelWrongFalsely : Prop := fnExactJudgeLevelRow.holds Tryz.pinned (OpenSpec.ofChange fnExactJudgeLevelWrong)

/-- 'laws.FnExactJudgeSeen': WHATEVER THE INPUT: true; the input reads as it did. -/
def fnExactJudgeSeenSpec : ChangeSpec := { name := "fnExactJudgeSeen", fn := fun _ => fun
  | [d] => { results := [.lit (.bool true)], args := [d] }
  | _ => none }
def fnExactJudgeSeenRow : OpenClaim := { program := "ytanoofbkhddokaagreat", sum := "eb4fa27bcb6dedd70ccb7e4d8b8865ee92c8994fc05493920dc6ef84e06fcfc2", func := "loop.example/g00231/laws.FnExactJudgeSeen", spec := "fnExactJudgeSeen", unfollowed := true, recurses := true, apart := false }
def FnExactJudgeSeenSaid : Prop := fnExactJudgeSeenRow.holds Tryz.pinned (OpenSpec.ofChange fnExactJudgeSeenSpec)

/-- ITS FALSE NEIGHBOUR: 'it returns false'. Refute it at one input. -/
def fnExactJudgeSeenWrong : ChangeSpec := { name := "fnExactJudgeSeen", fn := fun _ => fun
  | [d] => { results := [.lit (.bool false)], args := [d] }
  | _ => none }
def FnExactJudgeSeenWrongFalsely : Prop := fnExactJudgeSeenRow.holds Tryz.pinned (OpenSpec.ofChange fnExactJudgeSeenWrong)

/- THE SECOND FORM. 'bulk': how many values and letters a reading holds, each counted each time it is reached (what is shared counts as often as it is met; a slice's spare places count too). A statement '..UptoSaid' is the law's where the arguments, and the package variables that the reading takes, are together of bulk at most 1048576: NARROWER than '..Said'. Prove '..Said' where nothing that the law and all that it calls make is longer than what came in: it says more and counts as full. Else prove '..UptoSaid'. A law counts once. -/
mutual
def uptoBulk {H : Type} : DataW H → Nat
  | .lit (.string bytes) => bytes.length + 1
  | .lit _ => 1
  | .nil => 1
  | .ptr d => uptoBulk d + 1
  | .slice elems spare => uptoBulkAll elems + uptoBulkAll spare + 1
  | .agg parts => uptoBulkAll parts + 1
  | .iface _ d => uptoBulk d + 1
  | .map entries => uptoBulkEntries entries + 1
  | .held _ => 1
def uptoBulkAll {H : Type} : List (DataW H) → Nat
  | [] => 0
  | d :: r => uptoBulk d + uptoBulkAll r
def uptoBulkEntries {H : Type} : List (Lit × DataW H) → Nat
  | [] => 0
  | x :: r => uptoBulkEntry x + uptoBulkEntries r
def uptoBulkEntry {H : Type} : Lit × DataW H → Nat
  | (.string bytes, d) => bytes.length + uptoBulk d + 1
  | (_, d) => uptoBulk d + 1
 end
def uptoSmall : (H : Type) → List (DataW H) → Bool := fun _ ds => decide (uptoBulkAll ds ≤ 1048576)
def OpenSpec.upto (s : _root_.Go.ChangeSpec) : _root_.Go.OpenSpec := { _root_.Go.OpenSpec.ofChange s with cond := some uptoSmall }

/-- 'laws.FnExactLevel', WHERE WHAT IT READS IS OF BULK AT MOST 1048576: true; the input reads as it did. -/
def fnExactLevelUptoRow : OpenClaim := { program := "ytanoofbkhddokaagreat", sum := "eb4fa27bcb6dedd70ccb7e4d8b8865ee92c8994fc05493920dc6ef84e06fcfc2", func := "loop.example/g00231/laws.FnExactLevel", spec := "fnExactLevel", apart := false, narrowed := true }
def FnExactLevelUptoSaid : Prop := fnExactLevelUptoRow.holds Tryz.pinned (OpenSpec.upto fnExactLevelSpec)

/-- 'laws.FnExactLockRun', WHERE WHAT IT READS IS OF BULK AT MOST 1048576: true; the input reads as it did. -/
def fnExactLockRunUptoRow : OpenClaim := { program := "ytanoofbkhddokaagreat", sum := "eb4fa27bcb6dedd70ccb7e4d8b8865ee92c8994fc05493920dc6ef84e06fcfc2", func := "loop.example/g00231/laws.FnExactLockRun", spec := "fnExactLockRun", apart := false, narrowed := true }
def FnExactLockRunUptoSaid : Prop := fnExactLockRunUptoRow.holds Tryz.pinned (OpenSpec.upto fnExactLockRunSpec)

/-- 'laws.FnExactCpuStep', WHERE WHAT IT READS IS OF BULK AT MOST 1048576: true; the input reads as it did. -/
def fnExactCpuStepUptoRow : OpenClaim := { program := "ytanoofbkhddokaagreat", sum := "eb4fa27bcb6dedd70ccb7e4d8b8865ee92c8994fc05493920dc6ef84e06fcfc2", func := "loop.example/g00231/laws.FnExactCpuStep", spec := "fnExactCpuStep", apart := false, narrowed := true }
def FnExactCpuStepUptoSaid : Prop := fnExactCpuStepUptoRow.holds Tryz.pinned (OpenSpec.upto fnExactCpuStepSpec)

/-- 'laws.FnExactTwin', WHERE WHAT IT READS IS OF BULK AT MOST 1048576: true; the input reads as it did. -/
def fnExactTwinUptoRow : OpenClaim := { program := "ytanoofbkhddokaagreat", sum := "eb4fa27bcb6dedd70ccb7e4d8b8865ee92c8994fc05493920dc6ef84e06fcfc2", func := "loop.example/g00231/laws.FnExactTwin", spec := "fnExactTwin", apart := false, narrowed := true }
def FnExactTwinUptoSaid : Prop := fnExactTwinUptoRow.holds Tryz.pinned (OpenSpec.upto fnExactTwinSpec)

/-- 'laws.FnExactAble', WHERE WHAT IT READS IS OF BULK AT MOST 1048576: true; the input reads as it did. -/
def fnExactAbleUptoRow : OpenClaim := { program := "ytanoofbkhddokaagreat", sum := "eb4fa27bcb6dedd70ccb7e4d8b8865ee92c8994fc05493920dc6ef84e06fcfc2", func := "loop.example/g00231/laws.FnExactAble", spec := "fnExactAble", apart := false, narrowed := true }
def FnExactAbleUptoSaid : Prop := fnExactAbleUptoRow.holds Tryz.pinned (OpenSpec.upto fnExactAbleSpec)

/-- 'laws.FnExactPick', WHERE WHAT IT READS IS OF BULK AT MOST 1048576: true; the input reads as it did. -/
def fnExactPickUptoRow : OpenClaim := { program := "ytanoofbkhddokaagreat", sum := "eb4fa27bcb6dedd70ccb7e4d8b8865ee92c8994fc05493920dc6ef84e06fcfc2", func := "loop.example/g00231/laws.FnExactPick", spec := "fnExactPick", apart := false, narrowed := true }
def FnExactPickUptoSaid : Prop := fnExactPickUptoRow.holds Tryz.pinned (OpenSpec.upto fnExactPickSpec)

/-- 'laws.FnExactPlay', WHERE WHAT IT READS IS OF BULK AT MOST 1048576: true; the input reads as it did. -/
def fnExactPlayUptoRow : OpenClaim := { program := "ytanoofbkhddokaagreat", sum := "eb4fa27bcb6dedd70ccb7e4d8b8865ee92c8994fc05493920dc6ef84e06fcfc2", func := "loop.example/g00231/laws.FnExactPlay", spec := "fnExactPlay", apart := false, narrowed := true }
def FnExactPlayUptoSaid : Prop := fnExactPlayUptoRow.holds Tryz.pinned (OpenSpec.upto fnExactPlaySpec)

/-- 'laws.FnExactFair', WHERE WHAT IT READS IS OF BULK AT MOST 1048576: true; the input reads as it did. -/
def fnExactFairUptoRow : OpenClaim := { program := "ytanoofbkhddokaagreat", sum := "eb4fa27bcb6dedd70ccb7e4d8b8865ee92c8994fc05493920dc6ef84e06fcfc2", func := "loop.example/g00231/laws.FnExactFair", spec := "fnExactFair", apart := false, narrowed := true }
def FnExactFairUptoSaid : Prop := fnExactFairUptoRow.holds Tryz.pinned (OpenSpec.upto fnExactFairSpec)

/-- 'laws.FnExactJudgeAll', WHERE WHAT IT READS IS OF BULK AT MOST 1048576: true; the input reads as it did. -/
def fnExactJudgeAllUptoRow : OpenClaim := { program := "ytanoofbkhddokaagreat", sum := "eb4fa27bcb6dedd70ccb7e4d8b8865ee92c8994fc05493920dc6ef84e06fcfc2", func := "loop.example/g00231/laws.FnExactJudgeAll", spec := "fnExactJudgeAll", unfollowed := true, recurses := true, apart := false, narrowed := true }
def FnExactJudgeAllUptoSaid : Prop := fnExactJudgeAllUptoRow.holds Tryz.pinned (OpenSpec.upto fnExactJudgeAllSpec)

/-- 'laws.FnExactJudgeAlive', WHERE WHAT IT READS IS OF BULK AT MOST 1048576: true; the input reads as it did. -/
def fnExactJudgeAliveUptoRow : OpenClaim := { program := "ytanoofbkhddokaagreat", sum := "eb4fa27bcb6dedd70ccb7e4d8b8865ee92c8994fc05493920dc6ef84e06fcfc2", func := "loop.example/g00231/laws.FnExactJudgeAlive", spec := "fnExactJudgeAlive", apart := false, narrowed := true }
def FnExactJudgeAliveUptoSaid : Prop := fnExactJudgeAliveUptoRow.holds Tryz.pinned (OpenSpec.upto fnExactJudgeAliveSpec)

/-- 'laws.FnExactJudgeLevel', WHERE WHAT IT READS IS OF BULK AT MOST 1048576: true; the input reads as it did. -/
def fnExactJudgeLevelUptoRow : OpenClaim := { program := "ytanoofbkhddokaagreat", sum := "eb4fa27bcb6dedd70ccb7e4d8b8865ee92c8994fc05493920dc6ef84e06fcfc2", func := "loop.example/g00231/laws.FnExactJudgeLevel", spec := "fnExactJudgeLevel", unfollowed := true, recurses := true, apart := false, narrowed := true }
def FnExactJudgeLevelUptoSaid : Prop := fnExactJudgeLevelUptoRow.holds Tryz.pinned (OpenSpec.upto fnExactJudgeLevelSpec)

/-- 'laws.FnExactJudgeSeen', WHERE WHAT IT READS IS OF BULK AT MOST 1048576: true; the input reads as it did. -/
def fnExactJudgeSeenUptoRow : OpenClaim := { program := "ytanoofbkhddokaagreat", sum := "eb4fa27bcb6dedd70ccb7e4d8b8865ee92c8994fc05493920dc6ef84e06fcfc2", func := "loop.example/g00231/laws.FnExactJudgeSeen", spec := "fnExactJudgeSeen", unfollowed := true, recurses := true, apart := false, narrowed := true }
def FnExactJudgeSeenUptoSaid : Prop := fnExactJudgeSeenUptoRow.holds Tryz.pinned (OpenSpec.upto fnExactJudgeSeenSpec)

end Rows
end Go.Proofs.YtanoofbkhddokaaGreat
