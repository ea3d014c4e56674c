/- Contracts of library functions at this program, as the evaluator wants them; what is known of package variables. No condition beyond those that each lemma states. -/
import Derived.Test.YtjagjoolnoodaaaDoorW5
import Derived.Test.YtjagjoolnoodaaaDoorRows
import Derived.Lib.LaidTab
import Derived.HandedShaped
import Derived.KernelRfl
import Derived.Shelf.Strconv.Itoa3
import Derived.WalkSmall
import Derived.Shelf.Strings.OnBuilder
set_option linter.unusedVariables false
set_option linter.unusedSimpArgs false
set_option maxRecDepth 100000
namespace Go.Proofs
open Go.Shelf
def Tryd.laysM171_ren : Go.Shelf.Ren := ⟨fun | 171 => 39 | 243 => 45 | 246 => 50 | 283 => 51 | 284 => 52 | 285 => 53 | 286 => 54 | 129 => 56 | 317 => 55 | 318 => 57 | 319 => 58 | 320 => 59 | 337 => 60 | 338 => 61 | n => n, fun | 3 => 3 | 9 => 9 | 2 => 2 | 4 => 4 | 171 => 73 | 0 => 0 | 53 => 74 | 37 => 28 | 5 => 5 | 173 => 77 | 212 => 81 | 51 => 82 | 20 => 20 | 213 => 83 | 46 => 66 | 232 => 86 | 233 => 87 | n => n, fun | 17 => 1 | 18 => 2 | 19 => 3 | n => n⟩

theorem Tryd.laysM171 : Go.Proofs.LaysM.n171 Tryd.prog Tryd.laysM171_ren := {
  mixed := by kernel_rfl
  f129 := Tryd.func56.trans (congrArg some (by kernel_rfl))
  f171 := Tryd.func39.trans (congrArg some (by kernel_rfl))
  f243 := Tryd.func45.trans (congrArg some (by kernel_rfl))
  f246 := Tryd.func50.trans (congrArg some (by kernel_rfl))
  f283 := Tryd.func51.trans (congrArg some (by kernel_rfl))
  f284 := Tryd.func52.trans (congrArg some (by kernel_rfl))
  f285 := Tryd.func53.trans (congrArg some (by kernel_rfl))
  f286 := Tryd.func54.trans (congrArg some (by kernel_rfl))
  f317 := Tryd.func55.trans (congrArg some (by kernel_rfl))
  f318 := Tryd.func57.trans (congrArg some (by kernel_rfl))
  f319 := Tryd.func58.trans (congrArg some (by kernel_rfl))
  f320 := Tryd.func59.trans (congrArg some (by kernel_rfl))
  f337 := Tryd.func60.trans (congrArg some (by kernel_rfl))
  f338 := Tryd.func61.trans (congrArg some (by kernel_rfl))
  t0 := Tryd.underlying0
  a0 := Tryd.isAgg0
  z0 := Tryd.sizeOf0
  v0 := Tryd.zeroValue0
  t2 := Tryd.underlying2
  a2 := Tryd.isAgg2
  z2 := Tryd.sizeOf2
  v2 := Tryd.zeroValue2
  t3 := Tryd.underlying3
  a3 := Tryd.isAgg3
  z3 := Tryd.sizeOf3
  v3 := Tryd.zeroValue3
  t4 := Tryd.underlying4
  a4 := Tryd.isAgg4
  z4 := Tryd.sizeOf4
  v4 := Tryd.zeroValue4
  t5 := Tryd.underlying5
  a5 := Tryd.isAgg5
  z5 := Tryd.sizeOf5
  v5 := Tryd.zeroValue5
  t9 := Tryd.underlying9
  a9 := Tryd.isAgg9
  z9 := Tryd.sizeOf9
  v9 := Tryd.zeroValue9
  t20 := Tryd.underlying20
  a20 := Tryd.isAgg20
  z20 := Tryd.sizeOf20
  v20 := Tryd.zeroValue20
  t37 := Tryd.underlying28
  a37 := Tryd.isAgg28
  z37 := Tryd.sizeOf28
  v37 := Tryd.zeroValue28
  t46 := Tryd.underlying66
  a46 := Tryd.isAgg66
  z46 := Tryd.sizeOf66
  v46 := Tryd.zeroValue66
  t51 := Tryd.underlying82
  a51 := Tryd.isAgg82
  z51 := Tryd.sizeOf82
  v51 := Tryd.zeroValue82
  t53 := Tryd.underlying74
  a53 := Tryd.isAgg74
  z53 := Tryd.sizeOf74
  v53 := Tryd.zeroValue74
  t171 := Tryd.underlying73
  a171 := Tryd.isAgg73
  z171 := Tryd.sizeOf73
  v171 := Tryd.zeroValue73
  t173 := Tryd.underlying77
  a173 := Tryd.isAgg77
  z173 := Tryd.sizeOf77
  v173 := Tryd.zeroValue77
  t212 := Tryd.underlying81
  a212 := Tryd.isAgg81
  z212 := Tryd.sizeOf81
  v212 := Tryd.zeroValue81
  t213 := Tryd.underlying83
  a213 := Tryd.isAgg83
  z213 := Tryd.sizeOf83
  t232 := Tryd.underlying86
  a232 := Tryd.isAgg86
  z232 := Tryd.sizeOf86
  v232 := Tryd.zeroValue86
  t233 := Tryd.underlying87
  a233 := Tryd.isAgg87
  z233 := Tryd.sizeOf87
  v233 := Tryd.zeroValue87
  g17 := by kernel_rfl
  g18 := by kernel_rfl
  g19 := by kernel_rfl
  i0 := by kernel_rfl
  i2 := by kernel_rfl
  i3 := by kernel_rfl
  i4 := by kernel_rfl
  i5 := by kernel_rfl
  i9 := by kernel_rfl
  i20 := by kernel_rfl
  i37 := by kernel_rfl
  i46 := by kernel_rfl
  i51 := by kernel_rfl
  i53 := by kernel_rfl
  i171 := by kernel_rfl
  i173 := by kernel_rfl
  i212 := by kernel_rfl
  i232 := by kernel_rfl
  i233 := by kernel_rfl
  m17 := by kernel_rfl
  m18 := by kernel_rfl
  m19 := by kernel_rfl }

def Tryd.lays156_ren : Go.Shelf.Ren := ⟨fun | 156 => 23 | 165 => 36 | 166 => 37 | 169 => 38 | 240 => 43 | 241 => 44 | 276 => 48 | 277 => 49 | n => n, fun | 31 => 42 | 9 => 9 | 3 => 3 | 4 => 4 | 0 => 0 | 20 => 20 | 72 => 55 | 76 => 59 | 70 => 53 | 37 => 28 | 75 => 58 | 127 => 65 | 164 => 69 | 5 => 5 | 80 => 61 | n => n, fun | n => n⟩

theorem Tryd.lays156 : Go.Proofs.Lays.n156 Tryd.prog Tryd.lays156_ren := {
  mixed := by kernel_rfl
  f156 := Tryd.func23.trans (congrArg some (by kernel_rfl))
  f165 := Tryd.func36.trans (congrArg some (by kernel_rfl))
  f166 := Tryd.func37.trans (congrArg some (by kernel_rfl))
  f169 := Tryd.func38.trans (congrArg some (by kernel_rfl))
  f240 := Tryd.func43.trans (congrArg some (by kernel_rfl))
  f241 := Tryd.func44.trans (congrArg some (by kernel_rfl))
  f276 := Tryd.func48.trans (congrArg some (by kernel_rfl))
  f277 := Tryd.func49.trans (congrArg some (by kernel_rfl))
  t0 := Tryd.underlying0
  a0 := Tryd.isAgg0
  z0 := Tryd.sizeOf0
  v0 := Tryd.zeroValue0
  t3 := Tryd.underlying3
  a3 := Tryd.isAgg3
  z3 := Tryd.sizeOf3
  v3 := Tryd.zeroValue3
  t4 := Tryd.underlying4
  a4 := Tryd.isAgg4
  z4 := Tryd.sizeOf4
  v4 := Tryd.zeroValue4
  t9 := Tryd.underlying9
  a9 := Tryd.isAgg9
  z9 := Tryd.sizeOf9
  v9 := Tryd.zeroValue9
  t20 := Tryd.underlying20
  a20 := Tryd.isAgg20
  z20 := Tryd.sizeOf20
  v20 := Tryd.zeroValue20
  t31 := Tryd.underlying42
  a31 := Tryd.isAgg42
  z31 := Tryd.sizeOf42
  v31 := Tryd.zeroValue42
  t37 := Tryd.underlying28
  a37 := Tryd.isAgg28
  z37 := Tryd.sizeOf28
  v37 := Tryd.zeroValue28
  t70 := Tryd.underlying53
  a70 := Tryd.isAgg53
  z70 := Tryd.sizeOf53
  v70 := Tryd.zeroValue53
  t72 := Tryd.underlying55
  a72 := Tryd.isAgg55
  z72 := Tryd.sizeOf55
  v72 := Tryd.zeroValue55
  t75 := Tryd.underlying58
  a75 := Tryd.isAgg58
  z75 := Tryd.sizeOf58
  v75 := Tryd.zeroValue58
  t76 := Tryd.underlying59
  a76 := Tryd.isAgg59
  z76 := Tryd.sizeOf59
  v76 := Tryd.zeroValue59
  t127 := Tryd.underlying65
  a127 := Tryd.isAgg65
  z127 := Tryd.sizeOf65
  v127 := Tryd.zeroValue65
  t164 := Tryd.underlying69
  a164 := Tryd.isAgg69
  z164 := Tryd.sizeOf69
  v164 := Tryd.zeroValue69 }

theorem Tryd.Builder_Extra_156 : Builder.Extra Tryd.prog Tryd.lays156_ren := {
  sizeBuilder := by kernel_rfl
  liesBuilder := by kernel_rfl
  t5 := Tryd.underlying5
  a5 := Tryd.isAgg5
  z5 := Tryd.sizeOf5
  v5 := Tryd.zeroValue5
  infoByte := by kernel_rfl
  cellsByte := by kernel_rfl
  sizeByte := by kernel_rfl
  neB5 := by decide }
end Go.Proofs
namespace Go.Tev
section
open Go Go.RowKit Go.Proofs Go.Shelf
variable {P : Program} {ρ : Ren}
theorem frame_var {P : Program} {S : Fp} {w w' : World} {n : String} {g : Nat} {cs : Array Value} (h : Frame S w w') (hg : P.globalNamed n = some g) (hs : ∀ o, ¬ S g o) (hv : w.var? P n = some cs) : w'.var? P n = some cs := by
  unfold World.var? at hv ⊢
  rw [hg] at hv ⊢
  simp only [Option.bind_some] at hv ⊢
  have hlt : g < w.heap.size := by
    rcases Nat.lt_or_ge g w.heap.size with e | e
    · exact e
    · rw [Array.getElem?_eq_none e] at hv; cases hv
  rcases h.obj g hlt with e | ⟨c, c', ty, fz, e, e', hsz, hc⟩
  · rw [← e]; exact hv
  · rw [e] at hv
    rw [e']
    simp only [Option.some.injEq] at hv ⊢
    subst hv
    exact Array.ext_getElem? fun o => hc o (hs o)

theorem frame_cell {S : Fp} {w w' : World} {g : Nat} {v : Value} (h : Frame S w w') (hs : ∀ o, ¬ S g o) (hv : w.cell? ⟨g, 0, none⟩ = some v) : w'.cell? ⟨g, 0, none⟩ = some v := by
  have hv' : w.cell? (adr (g, 0)) = some v := hv
  rw [cell_eq] at hv'
  have hlt : g < w.heap.size := by
    rcases Nat.lt_or_ge g w.heap.size with e | e
    · exact e
    · rw [Array.getElem?_eq_none e] at hv'; cases hv'
  show w'.cell? (adr (g, 0)) = some v
  rw [cell_eq]
  rcases h.obj g hlt with e | ⟨c, c', ty, fz, e, e', hsz, hc⟩
  · rw [← e]; exact hv'
  · rw [e] at hv'
    rw [e']
    exact (hc 0 (hs 0)).trans hv'

theorem gvar_lt {P : Program} {w : World} {n : String} {g : Nat} {cs : Array Value} (hg : P.globalNamed n = some g) (hv : w.var? P n = some cs) : g < w.heap.size := by
  unfold World.var? at hv
  rw [hg] at hv
  simp only [Option.bind_some] at hv
  rcases Nat.lt_or_ge g w.heap.size with e | e
  · exact e
  · rw [Array.getElem?_eq_none e] at hv; cases hv

theorem gcell_lt {w : World} {g : Nat} {v : Value} (hv : w.cell? ⟨g, 0, none⟩ = some v) : g < w.heap.size := by
  have hv' : w.cell? (adr (g, 0)) = some v := hv
  rw [cell_eq] at hv'
  rcases Nat.lt_or_ge g w.heap.size with e | e
  · exact e
  · rw [Array.getElem?_eq_none e] at hv'; cases hv'

theorem laid_tail {P : Program} {x : String × DataW Unit} {r : List (String × DataW Unit)} {w : World} (h : laidMet P (x :: r) w) : laidMet P r w := by
  obtain ⟨ps, hv, hnd, hrows⟩ := h
  obtain ⟨n, d⟩ := x
  obtain ⟨g, t, cs, fuel, p, q, _, _, _, _, hq, rfl⟩ := hv
  exact ⟨q, hq, List.Nodup.sublist (List.sublist_append_right _ _) hnd, fun b off hm => hrows b off (List.mem_append_right _ hm)⟩

theorem laid_iface {P : Program} {n nm : String} {d : DataW Unit} {r : List (String × DataW Unit)} {W : World} {g : Nat} {ti : TypeId} {ms : Array (String × TypeId)}
    (h : laidMet P ((n, .iface nm d) :: r) W) (hg : P.globalNamed n = some g) (ht : (P.globals[g]?).map (·.type) = some ti) (hi : P.underlying ti = some (.interface ms)) : ∃ u v, W.cell? ⟨g, 0, Option.none⟩ = some (.iface u v) := by
  obtain ⟨ps, ⟨g0, t0, cs0, f0, p0, q0, hg0, ht0, hv0, hd0, _, e0⟩, _, _⟩ := h
  obtain rfl := Option.some.inj (hg.symm.trans hg0)
  obtain rfl := Option.some.inj (ht.symm.trans ht0)
  obtain ⟨l0⟩ := cs0
  obtain ⟨f1, u, v, e, hn, h1⟩ := iface_of_trod hi hd0
  have e : l0 = [.iface u v] := e
  subst e
  exact ⟨u, v, by simpa using World.var?_cell hg0 hv0 0⟩

theorem frame_below {S : Fp} {w w' : World} (h : Below w.heap.size w w') : Frame S w w' := ⟨h.os, h.tape, h.output, h.size, fun b hb => .inl (h.block b hb).symm⟩

def noF : Fp := fun _ _ => False

theorem arg_1 {w : World} {t : LT} {y : PTup [.v t]} {args : List Value} {S : Fp} {L : Nat → Prop} (h : TysRel w [.v t] y args S L) : ∃ v S1, args = [v] ∧ LfRel w t y.1 v S1 L := by
  match args, h with
  | [v], ⟨S1, S2, a, b, _⟩ => exact ⟨v, S1, rfl, a⟩
  | _ :: _ :: _, ⟨_, _, _, b, _⟩ => exact b.elim

theorem arg_2 {w : World} {t u : LT} {y : PTup [.v t, .v u]} {args : List Value} {S : Fp} {L : Nat → Prop} (h : TysRel w [.v t, .v u] y args S L) : ∃ v x S1 S2, args = [v, x] ∧ LfRel w t y.1 v S1 L ∧ LfRel w u y.2.1 x S2 L := by
  match args, h with
  | v :: r, ⟨S1, S2, a, b, _⟩ =>
    obtain ⟨x, S3, rfl, c⟩ := arg_1 (y := y.2) b
    exact ⟨v, x, S1, S3, rfl, a, c⟩

theorem out_1 {w : World} {t : LT} {x : t.D} {v : Value} {L : Nat → Prop} (h : LfRel w t x v noF L) : TysRel w [.v t] (x, ()) [v] noF L :=
  ⟨noF, noF, h, trivial, fun _ _ h => h.elim, fun _ _ h => h.elim, fun _ _ h => h.elim⟩

theorem out_s {w : World} {t : LT} {ts : List Ty} {x : t.D} {xs : PTup ts} {v : Value} {vs : List Value} {L : Nat → Prop} (h : LfRel w t x v noF L) (k : TysRel w ts xs vs noF L) : TysRel w (.v t :: ts) (x, xs) (v :: vs) noF L :=
  ⟨noF, noF, h, k, fun _ _ h => h.elim, fun _ _ h => h.elim, fun _ _ h => h.elim⟩

theorem leaf_end {w w' : World} {ins outs : List Ty} {r : PTup outs × BTup ins} {vs args : List Value} {e : Ending} {S : Fp} {L : Nat → Prop} (he : e = .returned (packV vs)) (ho : TysRel w' outs r.1 vs noF fun _ => False)
    (hb : TysBack w w' ins r.2 args noF) (hF : Frame S w w') :
    ∃ vs SO SB, RetK .nor args vs e ∧ OutRel w' .nor outs r.1 vs SO (LK .nor L) ∧ TysBack w w' ins r.2 args SB ∧ Dis SO SB ∧ (∀ b o, SO b o ∨ SB b o → (S b o ∨ w.heap.size ≤ b) ∧ b < w'.heap.size) ∧ Frame S w w' :=
  ⟨vs, noF, noF, he, ho, hb, fun _ _ h => h.elim, fun _ _ h => (h.elim id id).elim, hF⟩



def itoaF : Fn := ⟨[.v (.int .i64)], [.v .str], fun y => bif decide (-9223372036854775808 ≤ (y.1 : Int)) && decide ((y.1 : Int) ≤ 9223372036854775807) then some (((⟨(Lib.itoa y.1).toArray⟩ : ByteArray), ()), ()) else none, .nor⟩

theorem itoa_ok [Glb] (L : LaysM.n171 P ρ) (hE : Enters P (ρ.f 171)) (hf : ∀ w, Glb.fact w → Lib.TabIs P w "internal/strconv.uint64pow10" .u64 Lib.pow10Tab) : CallOk P (ρ.f 171) itoaF where
  nin := by decide
  nout := by decide
  inOk := by simp [itoaF, tysOk, tyOk]
  outOk := by simp [itoaF, tysOk, tyOk]
  enters := hE
  calls := fun w y args S L0 hy hd hs hl hg hgf r hr => by
    obtain ⟨n, _⟩ := y
    obtain ⟨v, S1, rfl, hv⟩ := arg_1 (y := ((n : Int), ())) hy
    obtain rfl : v = .int .i64 n := hv
    have hr : (bif decide (-9223372036854775808 ≤ (n : Int)) && decide ((n : Int) ≤ 9223372036854775807) then some (((⟨(Lib.itoa n).toArray⟩ : ByteArray), ()), ()) else none) = some r := hr
    cases hc : decide (-9223372036854775808 ≤ (n : Int)) && decide ((n : Int) ≤ 9223372036854775807) with
    | false => rw [hc] at hr; cases hr
    | true =>
      rw [hc] at hr
      injection hr with hr
      subst hr
      rw [Bool.and_eq_true, decide_eq_true_iff, decide_eq_true_iff] at hc
      refine (Any.strconv_Itoa L n hc.1 hc.2 w (hf w hgf)).mono ?_
      rintro e w' ⟨rfl, k, os, rfl⟩
      have hB : Below w.heap.size w (Sort.grow (w.drewN k) os) := (below_drewN (Below.refl _ _) k).trans ⟨rfl, rfl, rfl, by simp [Sort.grow], fun b hb => Sort.heap_grow_old _ _ hb⟩
      exact leaf_end (ins := [.v (.int .i64)]) (outs := [.v .str]) (vs := [.string _]) rfl (out_1 rfl) trivial (frame_below hB)



def joinF : Fn := ⟨[.v (.sl false .s), .v .str], [.v .str], fun y => bif Nat.ble (List.length (α := ByteArray) y.1) 140737488355328 && Nat.ble (Lib.join ((y.1 : List ByteArray).map (·.data.toList)) (ByteArray.data y.2.1).toList).length 140737488355328 then some (((⟨(Lib.join ((y.1 : List ByteArray).map (·.data.toList)) (ByteArray.data y.2.1).toList).toArray⟩ : ByteArray), ()), ()) else none, .nor⟩

theorem join_ok [Glb] (L : Lays.n156 P ρ) (X : Builder.Extra P ρ) (hE : Enters P (ρ.f 156)) : CallOk P (ρ.f 156) joinF where
  nin := by decide
  nout := by decide
  inOk := by simp [joinF, tysOk, tyOk]
  outOk := by simp [joinF, tysOk, tyOk]
  enters := hE
  calls := fun w y args S L0 hy hd hs hl hg hgf r hr => by
    obtain ⟨xs, p, _⟩ := y
    obtain ⟨v, x, S1, S2, rfl, hv, hx⟩ := arg_2 (t := .sl false .s) (y := (xs, (p, ()))) hy
    obtain rfl : x = .string p := hx
    obtain ⟨a, cap, ips, rfl, hrow, hin⟩ := hv
    have hr : (bif Nat.ble (List.length (α := ByteArray) xs) 140737488355328 && Nat.ble (Lib.join ((xs : List ByteArray).map (·.data.toList)) (ByteArray.data p).toList).length 140737488355328 then _ else none) = some r := hr
    cases hc : Nat.ble (List.length (α := ByteArray) xs) 140737488355328 && Nat.ble (Lib.join ((xs : List ByteArray).map (·.data.toList)) (ByteArray.data p).toList).length 140737488355328 with
    | false => rw [hc] at hr; cases hr
    | true =>
      rw [hc] at hr
      injection hr with hr
      subst hr
      rw [Bool.and_eq_true, Nat.ble_eq, Nat.ble_eq] at hc
      have key : Calls P (ρ.f 156) #[slV a ips.q (List.length (α := ByteArray) xs) cap, .string p] w fun e w' => e = .returned (.string ⟨(Lib.join ((xs : List ByteArray).map (·.data.toList)) p.data.toList).toArray⟩) ∧ Below w.heap.size w w' := by
        by_cases h0 : List.length (α := ByteArray) xs = 0
        · obtain rfl : (xs : List ByteArray) = [] := List.length_eq_zero_iff.1 h0
          exact (Any.strings_Join_none L X (pt a ips.q) cap p w).mono fun e w' ⟨he, hw⟩ => ⟨by rw [he]; rfl, hw ▸ Below.refl _ _⟩
        · cases a with
          | none =>
            have h1 : List.length (α := ByteArray) xs ≤ cap := hrow.1
            have h2 := (hrow.2.1 rfl).1
            omega
          | some q =>
            obtain ⟨b, o⟩ := q
            have hb : b < w.heap.size := hl b (hin b (.inl ⟨(show 0 < List.length (α := ByteArray) xs by omega), o, rfl⟩))
            refine Any.strings_Join L X b o cap xs p w (fun j x hx => ?_) hb hc.1 hrow.1 hc.2
            obtain ⟨hj, rfl⟩ := List.getElem?_eq_some_iff.1 hx
            have := (hrow.2.2.1 b o rfl).1 j hj 0 (by decide)
            simpa [adr, E.sz, elV] using this
      refine key.mono ?_
      rintro e w' ⟨rfl, hB⟩
      exact leaf_end (ins := [.v (.sl false .s), .v .str]) (outs := [.v .str]) (vs := [.string _]) rfl (out_1 rfl) trivial (frame_below hB)

end
end Go.Tev
namespace Go.Proofs.YtjagjoolnoodaaaDoor.Plain
open Go Go.Tev Go.RowKit Go.Proofs Go.Shelf
theorem gPow : Tryd.prog.globalNamed "internal/strconv.uint64pow10" = some 1 := by kernel_rfl
def blks : List Nat := [1]
/-- what is known of the package variables -/
def factV (w : World) : Prop := Go.Lib.TabIs Tryd.prog w "internal/strconv.uint64pow10" .u64 Go.Lib.pow10Tab
instance glbV : Glb := ⟨fun b => b ∈ blks, factV, fun S w w' hF hs h => by
  have h0 := h
  exact frame_var hF gPow (fun o => hs _ o (by unfold blks; simp)) h0⟩
theorem blk_lt {w : World} (h : Glb.fact w) : ∀ b, Glb.blk b → b < w.heap.size := by
  intro b hb
  have h : factV w := h
  have h0 := h
  have hb : b ∈ blks := hb
  unfold blks at hb
  simp only [List.mem_cons, List.mem_nil_iff, or_false] at hb
  subst hb
  exact gvar_lt gPow h0
theorem fact_of {W : World} (hsh : W.ShapedOpen Tryd.prog) (h : laidMet Tryd.prog [("math/bits.deBruijn32tab", Go.Proofs.YtjagjoolnoodaaaDoor.Rows.laid_math_bits_deBruijn32tab), ("math/bits.deBruijn64tab", Go.Proofs.YtjagjoolnoodaaaDoor.Rows.laid_math_bits_deBruijn64tab), ("internal/strconv.uint64pow10", Go.Proofs.YtjagjoolnoodaaaDoor.Rows.laid_internal_strconv_uint64pow10)] W) : Glb.fact W := by
  have e : (Go.Proofs.YtjagjoolnoodaaaDoor.Rows.laid_internal_strconv_uint64pow10 : DataW Unit) = Go.Lib.tabData .u64 Go.Lib.pow10Tab := by kernel_rfl
  have h0 := (laid_tail (laid_tail h))
  rw [e] at h0
  have a0 := Go.Lib.tabIs_of_head (t := 81) (e := 74) (n := 20) gPow (by kernel_rfl) (by kernel_rfl) (by kernel_rfl) (by kernel_rfl) (by kernel_rfl) h0
  exact a0
theorem itoaK : CallOk Tryd.prog 39 itoaF := itoa_ok Tryd.laysM171 ⟨Tryd.f39, Tryd.func39, by kernel_rfl, by kernel_rfl⟩ (fun w h => h)

theorem joinK : CallOk Tryd.prog 23 joinF := join_ok Tryd.lays156 Tryd.Builder_Extra_156 ⟨Tryd.f23, Tryd.func23, by kernel_rfl, by kernel_rfl⟩
end Go.Proofs.YtjagjoolnoodaaaDoor.Plain
