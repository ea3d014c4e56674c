/- Plain laws of the printed functions: Draw, Draw2. No condition beyond those that each lemma states. -/
import Derived.Test.YtcbdldlphpjmbaaGreatDoorPH
set_option linter.unusedVariables false
set_option linter.unusedSimpArgs false
namespace Go.Proofs.YtcbdldlphpjmbaaGreatDoor.Plain
open Go Go.Tev
def Ans {R:Type} (x:Option R) (P:R→Prop):Prop:= ∃r,x=some r∧P r
theorem Ans.bind {A B:Type} {x:Option A} {P:A→Prop} {f:A→Option B} {Q:B→Prop} (h:Ans x P) (k: ∀a,P a→Ans (f a) Q):Ans (x.bind f) Q:=by
 obtain ⟨a,rfl,ha⟩:=h;exact k a ha
theorem Ans.ret {R:Type} {r:R} {P:R→Prop} (h:P r):Ans (some r) P:=⟨r,rfl,h⟩
theorem Ans.of {R:Type} {x:Option R} {r:R} (h:x=some r):Ans x fun a=>a=r:=⟨r,h,rfl⟩
theorem ZrE {a n:Int} (ha:0≤a) (hn:0<n):0≤Int.tmod a n∧Int.tmod a n<n:=by
 rw[Qw ha];exact ⟨Int.emod_nonneg _ (by omega),Int.emod_lt_of_pos _ hn⟩
theorem Uh:J7 []:=fun n hn=>by cases hn
theorem Ug {a:Int} {l:List Int} (ha:0≤a∧a≤255) (h:J7 l):J7 (a::l):=fun n hn=>by
 cases hn with
 |head=>exact ha
 |tail _ hn=>exact h n hn
theorem ZmY {l:List Int} (h:J7 l) (i:Nat) {v:Int} (hv:0≤v∧v≤255):J7 (l.set i v):=fun n hn=>by
 rcases List.mem_or_eq_of_mem_set hn with h1|h1
 ·exact h n h1
 ·rw[h1];exact hv
theorem Zff (n:Nat):J7 (List.replicate n 0):=fun x hx=>by rw[(List.mem_replicate.1 hx).2];decide
theorem Zon (s:Zh):ZX s.t↔(small s.img∧s.pads.length≤4398046511104∧s.mem.ram.length≤4398046511104∧s.reads.length≤4398046511104∧(VC s.pic.ppu.t∧s.pic.list.length≤4398046511104∧small s.pic.frames)∧s.snd.list.length≤4398046511104∧s.snd.samples.length≤4398046511104):=Iff.rfl

end Go.Proofs.YtcbdldlphpjmbaaGreatDoor.Plain
