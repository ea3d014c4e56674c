/- Plain laws of the printed functions: Draw, Draw2. No condition beyond those that each lemma states. -/
import Derived.Test.YtmlahgmhbdpkjaaGreatDoorPH
set_option linter.unusedVariables false
set_option linter.unusedSimpArgs false
namespace Go.Proofs.YtmlahgmhbdpkjaaGreatDoor.Plain
open Go Go.Tev
def Ans {R:Type} (x:Option R) (P:R→Prop):Prop:= ∃r,x=some r∧P r
theorem Ans.bind {A B:Type} {x:Option A} {P:A→Prop} {f:A→Option B} {Q:B→Prop} (h:Ans x P) (k: ∀a,P a→Ans (f a) Q):Ans (x.bind f) Q:=by
 obtain ⟨a,rfl,ha⟩:=h
 exact k a ha
theorem Ans.ret {R:Type} {r:R} {P:R→Prop} (h:P r):Ans (some r) P:=⟨r,rfl,h⟩
theorem Ans.of {R:Type} {x:Option R} {r:R} (h:x=some r):Ans x fun a=>a=r:=⟨r,h,rfl⟩
theorem Zpw {a n:Int} (ha:0≤a) (hn:0<n):0≤Int.tmod a n∧Int.tmod a n<n:=by
 rw[ZcJ ha]
 exact ⟨Int.emod_nonneg _ (by omega),Int.emod_lt_of_pos _ hn⟩
theorem ZcB:Zby []:=fun n hn=>by cases hn
theorem Zb1 {a:Int} {l:List Int} (ha:0≤a∧a≤255) (h:Zby l):Zby (a::l):=fun n hn=>by
 cases hn with
 |head=>exact ha
 |tail _ hn=>exact h n hn
theorem ZmB {l:List Int} (h:Zby l) (i:Nat) {v:Int} (hv:0≤v∧v≤255):Zby (l.set i v):=fun n hn=>by
 rcases List.mem_or_eq_of_mem_set hn with h1|h1
 ·exact h n h1
 ·rw[h1];exact hv
theorem ZgF (n:Nat):Zby (List.replicate n 0):=fun x hx=>by rw[(List.mem_replicate.1 hx).2];decide
theorem Zo5 (s:ZdP):Zbt s.t↔(small s.img∧s.pads.length≤4398046511104∧s.mem.ram.length≤4398046511104∧s.reads.length≤4398046511104∧(ZeA s.pic.ppu.t∧s.pic.list.length≤4398046511104∧small s.pic.frames)∧s.snd.list.length≤4398046511104∧s.snd.samples.length≤4398046511104):=Iff.rfl

end Go.Proofs.YtmlahgmhbdpkjaaGreatDoor.Plain
