/- Whether bytes, images, memory, pads and a processor are right: the program and the reference ask the same. No condition beyond those that each lemma states. -/
import Derived.Test.YtfafepmjpphfeaaPLock
set_option linter.unusedVariables false
set_option linter.unusedSimpArgs false
namespace Go.Proofs.Ytfafepmjpphfeaa.Plain
open Go Go.Tev

/-! ### ranges -/

def inR (lo hi n : Int) : Bool := leI lo n && leI n hi
def allR (lo hi : Int) (l : List Int) : Bool := l.all (inR lo hi)
theorem inR_iff {lo hi n : Int} : inR lo hi n = true ↔ lo ≤ n ∧ n ≤ hi := by simp [inR, leI]

/-! ### pads -/

def padsOk (l : List Int) : Bool := leI (l.length : Int) 20 && allR 0 255 l

/-! ### images -/

def bankOk (l : List Int) : Bool := eqI (l.length : Int) 256 && allR 0 255 l
def imageOk (f : List (List Int)) : Bool := f.all bankOk && inR 1 8 (f.length : Int)

/-! ### memory -/

def memOk (f : List (List Int)) (x : Tup memL) : Bool := imageOk f && (eqI (x.1.length : Int) 512 && (allR 0 255 x.1 && inR 0 ((f.length : Int) - 1) x.2.1))

/-! ### a processor, a sound unit -/

def cpuOk (c : Tup cpuL) : Bool := inR 0 255 c.1 && (inR 0 255 c.2.1 && (inR 0 255 c.2.2.1 && inR 0 65535 c.2.2.2.1))

def apuOk (a : Tup apuL) : Bool := inR 0 20000 a.1 && (inR 0 255 a.2.1 && (inR 0 255 a.2.2.1 && (inR 0 1 a.2.2.2.1 && inR 0 31 a.2.2.2.2.1)))

end Go.Proofs.Ytfafepmjpphfeaa.Plain
