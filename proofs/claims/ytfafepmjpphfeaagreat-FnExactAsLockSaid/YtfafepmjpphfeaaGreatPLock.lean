/- Consoles in step are compared alike by the program and by the reference. No condition beyond those that each lemma states. -/
import Derived.Test.YtfafepmjpphfeaaGreatPObs
set_option linter.unusedVariables false
set_option linter.unusedSimpArgs false
namespace Go.Proofs.YtfafepmjpphfeaaGreat.Plain
open Go Go.Tev

abbrev memL : List LT := [.sl false .i, .int .i64]
abbrev cpuL : List LT := [.int .i64, .int .i64, .int .i64, .int .i64, .bool, .bool, .bool, .bool]
abbrev ppuL : List LT := [.int .i64, .int .i64, .int .i64, .int .i64, .int .i64, .bool, .sl false .i, .sl false .i]
abbrev apuL : List LT := [.int .i64, .int .i64, .int .i64, .int .i64, .int .i64, .bool, .bool]
abbrev padL : List LT := [.bool, .int .i64]
abbrev lockL : List LT := .sl false .n :: .sl false .i :: (memL ++ (cpuL ++ (ppuL ++ (apuL ++ (padL ++ (.bool :: .int .i64 :: obsL))))))

def ppuOkS (a : Tup ppuL) : Prop := a.2.2.2.2.2.2.1.length ≤ 4398046511104 ∧ a.2.2.2.2.2.2.2.1.length ≤ 4398046511104

/-! ### the parts of a console in step -/
section
variable (a : Tup lockL)
abbrev lkImg : List (List Int) := a.1
abbrev lkPads : List Int := a.2.1
abbrev lkMem : Tup memL := (a.2.2.1, (a.2.2.2.1, ()))
abbrev lkCpu : Tup cpuL := (a.2.2.2.2.1, (a.2.2.2.2.2.1, (a.2.2.2.2.2.2.1, (a.2.2.2.2.2.2.2.1, (a.2.2.2.2.2.2.2.2.1, (a.2.2.2.2.2.2.2.2.2.1, (a.2.2.2.2.2.2.2.2.2.2.1, (a.2.2.2.2.2.2.2.2.2.2.2.1, ()))))))))
abbrev lkPpu : Tup ppuL := (a.2.2.2.2.2.2.2.2.2.2.2.2.1, (a.2.2.2.2.2.2.2.2.2.2.2.2.2.1, (a.2.2.2.2.2.2.2.2.2.2.2.2.2.2.1, (a.2.2.2.2.2.2.2.2.2.2.2.2.2.2.2.1, (a.2.2.2.2.2.2.2.2.2.2.2.2.2.2.2.2.1, (a.2.2.2.2.2.2.2.2.2.2.2.2.2.2.2.2.2.1, (a.2.2.2.2.2.2.2.2.2.2.2.2.2.2.2.2.2.2.1, (a.2.2.2.2.2.2.2.2.2.2.2.2.2.2.2.2.2.2.2.1, ()))))))))
abbrev lkApu : Tup apuL := (a.2.2.2.2.2.2.2.2.2.2.2.2.2.2.2.2.2.2.2.2.1, (a.2.2.2.2.2.2.2.2.2.2.2.2.2.2.2.2.2.2.2.2.2.1, (a.2.2.2.2.2.2.2.2.2.2.2.2.2.2.2.2.2.2.2.2.2.2.1, (a.2.2.2.2.2.2.2.2.2.2.2.2.2.2.2.2.2.2.2.2.2.2.2.1, (a.2.2.2.2.2.2.2.2.2.2.2.2.2.2.2.2.2.2.2.2.2.2.2.2.1, (a.2.2.2.2.2.2.2.2.2.2.2.2.2.2.2.2.2.2.2.2.2.2.2.2.2.1, (a.2.2.2.2.2.2.2.2.2.2.2.2.2.2.2.2.2.2.2.2.2.2.2.2.2.2.1, ())))))))
abbrev lkPad : Tup padL := (a.2.2.2.2.2.2.2.2.2.2.2.2.2.2.2.2.2.2.2.2.2.2.2.2.2.2.2.1, (a.2.2.2.2.2.2.2.2.2.2.2.2.2.2.2.2.2.2.2.2.2.2.2.2.2.2.2.2.1, ()))
abbrev lkObs : Tup obsL := a.2.2.2.2.2.2.2.2.2.2.2.2.2.2.2.2.2.2.2.2.2.2.2.2.2.2.2.2.2.2.2
end

def cpuEq (a b : Tup cpuL) : Bool := eqI a.1 b.1 && (eqI a.2.1 b.2.1 && (eqI a.2.2.1 b.2.2.1 && (eqI a.2.2.2.1 b.2.2.2.1 && ((a.2.2.2.2.1 == b.2.2.2.2.1) && ((a.2.2.2.2.2.1 == b.2.2.2.2.2.1) && ((a.2.2.2.2.2.2.1 == b.2.2.2.2.2.2.1) && ((a.2.2.2.2.2.2.2.1 == b.2.2.2.2.2.2.2.1) && true)))))))
def apuEq (a b : Tup apuL) : Bool := eqI a.1 b.1 && (eqI a.2.1 b.2.1 && (eqI a.2.2.1 b.2.2.1 && (eqI a.2.2.2.1 b.2.2.2.1 && (eqI a.2.2.2.2.1 b.2.2.2.2.1 && ((a.2.2.2.2.2.1 == b.2.2.2.2.2.1) && ((a.2.2.2.2.2.2.1 == b.2.2.2.2.2.2.1) && true))))))
def padEq (a b : Tup padL) : Bool := (a.1 == b.1) && (eqI a.2.1 b.2.1 && true)
def memEq (a b : Tup memL) : Bool := eqI a.2.1 b.2.1 && decide (a.1 = b.1)
def ppuEq (a b : Tup ppuL) : Bool := eqI a.1 b.1 && (eqI a.2.1 b.2.1 && (eqI a.2.2.1 b.2.2.1 && (eqI a.2.2.2.1 b.2.2.2.1 && (eqI a.2.2.2.2.1 b.2.2.2.2.1 && ((a.2.2.2.2.2.1 == b.2.2.2.2.2.1) && (decide (a.2.2.2.2.2.2.1 = b.2.2.2.2.2.2.1) && decide (a.2.2.2.2.2.2.2.1 = b.2.2.2.2.2.2.2.1)))))))

/-- of a size that is read -/
def lockOkS (a : Tup lockL) : Prop := small a.1 ∧ a.2.1.length ≤ 4398046511104 ∧ a.2.2.1.length ≤ 4398046511104 ∧ ppuOkS (lkPpu a) ∧ obsOk (lkObs a)

/-- alike, as the program asks it -/
def lockEq (a b : Tup lockL) : Bool :=
  cpuEq (lkCpu a) (lkCpu b) && (apuEq (lkApu a) (lkApu b) && (padEq (lkPad a) (lkPad b) && ((a.2.2.2.2.2.2.2.2.2.2.2.2.2.2.2.2.2.2.2.2.2.2.2.2.2.2.2.2.2.1 == b.2.2.2.2.2.2.2.2.2.2.2.2.2.2.2.2.2.2.2.2.2.2.2.2.2.2.2.2.2.1) &&
    (eqI a.2.2.2.2.2.2.2.2.2.2.2.2.2.2.2.2.2.2.2.2.2.2.2.2.2.2.2.2.2.2.1 b.2.2.2.2.2.2.2.2.2.2.2.2.2.2.2.2.2.2.2.2.2.2.2.2.2.2.2.2.2.2.1 && (memEq (lkMem a) (lkMem b) && (ppuEq (lkPpu a) (lkPpu b) && obsEq (lkObs a) (lkObs b)))))))

end Go.Proofs.YtfafepmjpphfeaaGreat.Plain
