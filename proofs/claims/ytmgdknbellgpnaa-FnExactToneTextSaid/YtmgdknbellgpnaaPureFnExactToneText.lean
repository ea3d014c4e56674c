/- FnExactToneText answers true for every list of whole numbers: the program's ToneText and the reference's tell the same text. No condition beyond the row's own. -/
import Derived.Test.YtmgdknbellgpnaaPFnExactToneTextx1
import Derived.Test.YtmgdknbellgpnaaWSized
namespace Go.Proofs.Ytmgdknbellgpnaa.PrintWords
open Go.ChangeShapes Go.WideShapes
/-- The printed row asks for this name. -/
theorem sized_ints {H : Type} {enc : TypeId × Value → H} {P : Program} {W : World} {base : Nat} {spare : Nat → Bool} {held : Bool} {t e : TypeId} {k : IntKind} {a : Option Addr} {len cap : Nat} {d : DataW H} {ps : List MemPlace} {ts : List TypeId} {ds : List (DataW H)} {j : Nat}
    (hsz : (DataW.weightsEach P ts ds).all (· ≤ reachBytes) = true) (ht : ts[j]? = some t) (hd : ds[j]? = some d) (hu : P.underlying t = some (.slice e)) (he : P.underlying e = some (.int k)) (hc : P.cellsOf e = 1) {B : Nat} (hB : P.bytesOf e = B)
    (h : DataW.Trod enc P W base spare held t (.slice a len cap) d ps) : len * B ≤ 140737488351232 :=
  Go.Proofs.YtmgdknbellgpnaaW.PrintWords.sized_ints hsz ht hd hu he hc hB h
end Go.Proofs.Ytmgdknbellgpnaa.PrintWords
namespace Go.Proofs.Ytmgdknbellgpnaa.Pure
open Go.RowKit Go.Proofs.Ytmgdknbellgpnaa.PFnExactToneText Go.Proofs.YtmgdknbellgpnaaW.PrintWords Go.Proofs.YtmgdknbellgpnaaW.PrintLast

theorem wrap_up {i : Int} {n : Nat} (h0 : 0 ≤ i) (h : i < (n : Int)) (hn : n ≤ 1048576) : wrap64 (i + 1) = i + 1 := by
  unfold wrap64; omega

def toneSign (n : Int) : Int := if n = 0 then 45 else if n = 8 then 94 else 63

theorem rd_nat (l : List Int) (i : Nat) (h : i < l.length) : rd l (i : Int) = l[i] := by
  simp [rd, h]

theorem take_rd (l : List Int) (i : Nat) (h : i < l.length) : l.take (i + 1) = l.take i ++ [rd l (i : Int)] := by
  rw [rd_nat l i h, List.take_succ_eq_append_getElem h]

theorem spec_tone (l : List Int) (hl : l.length ≤ 1048576) (d : Nat) : ∀ (k i : Nat), i + d = l.length → d < k →
    spec_ToneText.l0 k l ((l.take i).map toneSign) (i : Int) = some (strOfNums (l.map toneSign)) := by
  induction d with
  | zero =>
    intro k i hi hk
    obtain ⟨k, rfl⟩ : ∃ m, k = m + 1 := ⟨k - 1, by omega⟩
    have e : l.take i = l := List.take_of_length_le (by omega)
    simp only [spec_ToneText.l0]
    rw [if_neg (by omega), e]
  | succ d ih =>
    intro k i hi hk
    obtain ⟨k, rfl⟩ : ∃ m, k = m + 1 := ⟨k - 1, by omega⟩
    have hlt : i < l.length := by omega
    have h := ih k (i + 1) (by omega) (by omega)
    rw [take_rd l i hlt, List.map_append, List.map_cons, List.map_nil, Int.natCast_add, Int.natCast_one] at h
    have hlen : ((l.take i).map toneSign).length < 140737488355328 := by simp; omega
    simp only [spec_ToneText.l0]
    rw [if_pos (by omega), if_pos (by omega), wrap_up (n := l.length) (by omega) (by omega) hl]
    by_cases h0 : rd l (i : Int) = 0
    · rw [show toneSign (rd l (i : Int)) = 45 by simp [toneSign, h0]] at h
      rw [if_pos h0, if_pos hlen]
      exact h
    · rw [if_neg h0]
      by_cases h8 : rd l (i : Int) = 8
      · rw [show toneSign (rd l (i : Int)) = 94 by simp [toneSign, h8]] at h
        rw [if_pos h8, if_pos hlen]
        exact h
      · rw [show toneSign (rd l (i : Int)) = 63 by simp [toneSign, h0, h8]] at h
        rw [if_neg h8, if_pos hlen]
        exact h

theorem impl_tone (l : List Int) (hl : l.length ≤ 1048576) (d : Nat) : ∀ (k i : Nat), i + d = l.length → d < k →
    impl_ToneText.l0 k ((l.take i).map toneSign) l (l.length : Int) (i : Int) = some (strOfNums (l.map toneSign)) := by
  induction d with
  | zero =>
    intro k i hi hk
    obtain ⟨k, rfl⟩ : ∃ m, k = m + 1 := ⟨k - 1, by omega⟩
    have e : l.take i = l := List.take_of_length_le (by omega)
    simp only [impl_ToneText.l0]
    rw [if_neg (by omega), e]
  | succ d ih =>
    intro k i hi hk
    obtain ⟨k, rfl⟩ : ∃ m, k = m + 1 := ⟨k - 1, by omega⟩
    have hlt : i < l.length := by omega
    have h := ih k (i + 1) (by omega) (by omega)
    rw [take_rd l i hlt, List.map_append, List.map_cons, List.map_nil, Int.natCast_add, Int.natCast_one] at h
    have hlen : ((l.take i).map toneSign).length < 140737488355328 := by simp; omega
    simp only [impl_ToneText.l0]
    rw [if_pos (by omega), if_pos (by omega), if_pos (by omega), wrap_up (n := l.length) (by omega) (by omega) hl]
    by_cases h0 : rd l (i : Int) = 0
    · rw [show toneSign (rd l (i : Int)) = 45 by simp [toneSign, h0]] at h
      rw [if_pos h0, if_pos hlen]
      exact h
    · rw [if_neg h0]
      by_cases h8 : rd l (i : Int) = 8
      · rw [show toneSign (rd l (i : Int)) = 94 by simp [toneSign, h8]] at h
        rw [if_pos h8, if_pos hlen]
        exact h
      · rw [show toneSign (rd l (i : Int)) = 63 by simp [toneSign, h0, h8]] at h
        rw [if_neg h8, if_pos hlen]
        exact h

theorem set_take (l : List Int) (i : Nat) (h : i < l.length) :
    (l.take i ++ List.replicate (l.length - i) 0).set i l[i] = l.take (i + 1) ++ List.replicate (l.length - (i + 1)) 0 := by
  have e : l.length - i = (l.length - (i + 1)) + 1 := by omega
  have e2 : l.take (i + 1) = l.take i ++ [l[i]] := List.take_succ_eq_append_getElem h
  rw [e, List.replicate_succ, List.set_append_right _ _ (by simp; omega), e2]
  rw [List.append_assoc, List.length_take, Nat.min_eq_left (Nat.le_of_lt h), Nat.sub_self]
  rfl

theorem to_ints (l : List Int) (hl : l.length ≤ 1048576) (d : Nat) : ∀ (k i : Nat), i + d = l.length → d < k →
    laws_toIntS.l0 k l (l.take i ++ List.replicate (l.length - i) 0) (i : Int) = some l := by
  induction d with
  | zero =>
    intro k i hi hk
    obtain ⟨k, rfl⟩ : ∃ m, k = m + 1 := ⟨k - 1, by omega⟩
    have e : l.take i ++ List.replicate (l.length - i) 0 = l := by
      rw [List.take_of_length_le (by omega), show l.length - i = 0 from by omega]; simp
    simp only [laws_toIntS.l0]
    rw [if_neg (by omega), e]
  | succ d ih =>
    intro k i hi hk
    obtain ⟨k, rfl⟩ : ∃ m, k = m + 1 := ⟨k - 1, by omega⟩
    have hlt : i < l.length := by omega
    have h := ih k (i + 1) (by omega) (by omega)
    rw [← set_take l i hlt, Int.natCast_add, Int.natCast_one] at h
    simp only [laws_toIntS.l0]
    rw [if_pos (by omega), if_pos (by omega), if_pos (by simp; omega), wrap_up (n := l.length) (by omega) (by omega) hl, rd_nat l i hlt]
    exact h

theorem to_ints_f (l : List Int) (hl : l.length ≤ 1048576) (k : Nat) (hk : l.length < k) : laws_toIntS.f k l = some l := by
  have h := to_ints l hl l.length k 0 (by omega) hk
  unfold laws_toIntS.f
  rw [if_pos (by omega), if_pos (by simp; omega)]
  simpa using h

theorem eq_ints (l : List Int) (hl : l.length ≤ 1048576) (d : Nat) : ∀ (k i : Nat), i + d = l.length → d < k →
    laws_eqIntS.l0 k l l (i : Int) = some true := by
  induction d with
  | zero =>
    intro k i hi hk
    obtain ⟨k, rfl⟩ : ∃ m, k = m + 1 := ⟨k - 1, by omega⟩
    simp only [laws_eqIntS.l0]
    rw [if_neg (by omega)]
  | succ d ih =>
    intro k i hi hk
    obtain ⟨k, rfl⟩ : ∃ m, k = m + 1 := ⟨k - 1, by omega⟩
    have h := ih k (i + 1) (by omega) (by omega)
    rw [Int.natCast_add, Int.natCast_one] at h
    simp only [laws_eqIntS.l0]
    rw [if_pos (by omega), if_pos (by omega), if_pos (by omega), wrap_up (n := l.length) (by omega) (by omega) hl]
    simpa using h

theorem FnExactToneText : laws_FnExactToneText.Pure := by
  intro l _ _ _
  by_cases h : (l.length : Int) > 1048576
  · exact ⟨0, by unfold laws_FnExactToneText.f; rw [if_pos h]⟩
  · have hl : l.length ≤ 1048576 := by omega
    refine ⟨l.length + 1, ?_⟩
    have h1 := to_ints_f l hl (l.length + 1) (by omega)
    have h2 : spec_ToneText.f (l.length + 1) l = some (strOfNums (l.map toneSign)) := by
      have := spec_tone l hl l.length (l.length + 1) 0 (by omega) (by omega)
      simpa [spec_ToneText.f] using this
    have h3 : impl_ToneText.f (l.length + 1) l = some (strOfNums (l.map toneSign)) := by
      have := impl_tone l hl l.length (l.length + 1) 0 (by omega) (by omega)
      simpa [impl_ToneText.f] using this
    have h4 : laws_eqIntS.f (l.length + 1) l l = some true := by
      have := eq_ints l hl l.length (l.length + 1) 0 (by omega) (by omega)
      simpa [laws_eqIntS.f] using this
    unfold laws_FnExactToneText.f
    rw [if_neg h, h1]
    simp only [Option.bind_some]
    rw [h2]; simp only [Option.bind_some]
    rw [h3]; simp only [Option.bind_some]
    rw [h4]; simp

end Go.Proofs.Ytmgdknbellgpnaa.Pure
