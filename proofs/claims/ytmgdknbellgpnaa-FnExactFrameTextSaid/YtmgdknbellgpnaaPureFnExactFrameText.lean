/- FnExactFrameText answers true for every list of whole numbers: the program's FrameText and the reference's tell the same text. No condition beyond the row's own. -/
import Derived.Test.YtmgdknbellgpnaaPFnExactFrameTextx2
import Derived.Test.YtmgdknbellgpnaaWSized
namespace Go.Proofs.Ytmgdknbellgpnaa.PrintWords
open Go.ChangeShapes Go.WideShapes
/-- The printed row asks for this name. -/
theorem sized_ints {H : Type} {enc : TypeId × Value → H} {P : Program} {W : World} {base : Nat} {spare : Nat → Bool} {held : Bool} {t e : TypeId} {k : IntKind} {a : Option Addr} {len cap : Nat} {d : DataW H} {ps : List MemPlace} {ts : List TypeId} {ds : List (DataW H)} {j : Nat}
    (hsz : (DataW.weightsEach P ts ds).all (· ≤ reachBytes) = true) (ht : ts[j]? = some t) (hd : ds[j]? = some d) (hu : P.underlying t = some (.slice e)) (he : P.underlying e = some (.int k)) (hc : P.cellsOf e = 1) {B : Nat} (hB : P.bytesOf e = B)
    (h : DataW.Trod enc P W base spare held t (.slice a len cap) d ps) : len * B ≤ 140737488351232 :=
  Go.Proofs.YtmgdknbellgpnaaW.PrintWords.sized_ints hsz ht hd hu he hc hB h
end Go.Proofs.Ytmgdknbellgpnaa.PrintWords
namespace Go.Proofs.Ytmgdknbellgpnaa.Pure
open Go.RowKit Go.Proofs.Ytmgdknbellgpnaa.PFnExactFrameText Go.Proofs.YtmgdknbellgpnaaW.PrintWords Go.Proofs.YtmgdknbellgpnaaW.PrintLast

theorem wrap_up {i : Int} {n : Nat} (h0 : 0 ≤ i) (h : i < (n : Int)) (hn : n ≤ 1048576) : wrap64 (i + 1) = i + 1 := by
  unfold wrap64; omega

theorem rd_nat (l : List Int) (i : Nat) (h : i < l.length) : rd l (i : Int) = l[i] := by
  simp [rd, h]


def frGood (x : Int) : Bool := decide (0 ≤ x) && decide (x ≤ 63)
def frAdd (i : Nat) (x : Int) (acc : List Int) : List Int := if Int.tmod (i : Int) 8 = 7 then (acc ++ [(wrap64 (48 + x)) % 256]) ++ [10] else acc ++ [(wrap64 (48 + x)) % 256]
def frAll : List Int → Nat → List Int → List Int | [], _, acc => acc | x :: xs, i, acc => frAll xs (i + 1) (frAdd i x acc)

theorem frAdd_len (i : Nat) (x : Int) (acc : List Int) (h : acc.length ≤ 2 * i) : (frAdd i x acc).length ≤ 2 * (i + 1) := by
  unfold frAdd; split <;> simp <;> omega

theorem drop_rd (l : List Int) (i : Nat) (h : i < l.length) : l.drop i = rd l (i : Int) :: l.drop (i + 1) := by
  rw [rd_nat l i h]; exact List.drop_eq_getElem_cons h

theorem in_good (x : Int) : spec_l1In.f x 0 63 = some (frGood x) := by
  unfold spec_l1In.f frGood
  by_cases h : x ≥ 0
  · rw [if_pos h]; simp; omega
  · rw [if_neg h]; simp; omega
theorem within_good (x : Int) : impl_within.f x 0 63 = some (frGood x) := by
  unfold impl_within.f frGood
  by_cases h : x ≥ 0
  · rw [if_pos h]; simp; omega
  · rw [if_neg h]; simp; omega

theorem spec_frame (l : List Int) (hl : l.length ≤ 1048576) (d : Nat) : ∀ (k i : Nat) (acc : List Int), i + d = l.length → d < k → acc.length ≤ 2 * i →
    spec_FrameText.l0 k l acc (i : Int) = some (if (l.drop i).all frGood = true then strOfNums (frAll (l.drop i) i acc) else (⟨#[]⟩ : ByteArray)) := by
  induction d with
  | zero =>
    intro k i acc hi hk _
    obtain ⟨k, rfl⟩ : ∃ m, k = m + 1 := ⟨k - 1, by omega⟩
    simp only [spec_FrameText.l0]
    rw [if_neg (by omega), List.drop_of_length_le (by omega)]
    simp [frAll]
  | succ d ih =>
    intro k i acc hi hk ha
    obtain ⟨k, rfl⟩ : ∃ m, k = m + 1 := ⟨k - 1, by omega⟩
    have hlt : i < l.length := by omega
    simp only [spec_FrameText.l0]
    rw [if_pos (by omega), if_pos (by omega), in_good, Option.bind_some, wrap_up (n := l.length) (by omega) (by omega) hl, drop_rd l i hlt]
    cases hg : frGood (rd l (i : Int)) with
    | false => simp [hg]
    | true =>
      have h := ih k (i + 1) (frAdd i (rd l (i : Int)) acc) (by omega) (by omega) (frAdd_len i _ acc ha)
      rw [Int.natCast_add, Int.natCast_one] at h
      simp only [if_true, List.all_cons, hg, Bool.true_and, frAll, Option.bind_some]
      rw [← h, if_pos (by omega)]
      unfold frAdd
      by_cases h7 : Int.tmod (i : Int) 8 = 7
      · rw [if_pos h7, if_pos h7, if_pos (by simp; omega)]
      · rw [if_neg h7, if_neg h7]

theorem impl_frame (l : List Int) (hl : l.length ≤ 1048576) (d : Nat) : ∀ (k i : Nat) (acc : List Int), i + d = l.length → d < k → acc.length ≤ 2 * i →
    impl_FrameText.l0 k acc l (l.length : Int) (i : Int) = some (strOfNums (frAll (l.drop i) i acc)) := by
  induction d with
  | zero =>
    intro k i acc hi hk _
    obtain ⟨k, rfl⟩ : ∃ m, k = m + 1 := ⟨k - 1, by omega⟩
    simp only [impl_FrameText.l0]
    rw [if_neg (by omega), List.drop_of_length_le (by omega)]
    simp [frAll]
  | succ d ih =>
    intro k i acc hi hk ha
    obtain ⟨k, rfl⟩ : ∃ m, k = m + 1 := ⟨k - 1, by omega⟩
    have hlt : i < l.length := by omega
    have h := ih k (i + 1) (frAdd i (rd l (i : Int)) acc) (by omega) (by omega) (frAdd_len i _ acc ha)
    rw [Int.natCast_add, Int.natCast_one] at h
    simp only [impl_FrameText.l0]
    rw [if_pos (by omega), if_pos (by omega), if_pos (by omega), if_pos (by omega), wrap_up (n := l.length) (by omega) (by omega) hl, drop_rd l i hlt]
    simp only [frAll, Option.bind_some]
    rw [← h]
    unfold frAdd
    by_cases h7 : Int.tmod (i : Int) 8 = 7
    · rw [if_pos h7, if_pos h7, if_pos (by simp; omega)]
    · rw [if_neg h7, if_neg h7]

theorem impl_colors (l : List Int) (hl : l.length ≤ 1048576) (d : Nat) : ∀ (k i : Nat), i + d = l.length → d < k →
    impl_colorsOk.l0 k l (l.length : Int) (i : Int) = some ((l.drop i).all frGood) := by
  induction d with
  | zero =>
    intro k i hi hk
    obtain ⟨k, rfl⟩ : ∃ m, k = m + 1 := ⟨k - 1, by omega⟩
    simp only [impl_colorsOk.l0]
    rw [if_neg (by omega), List.drop_of_length_le (by omega)]
    rfl
  | succ d ih =>
    intro k i hi hk
    obtain ⟨k, rfl⟩ : ∃ m, k = m + 1 := ⟨k - 1, by omega⟩
    have hlt : i < l.length := by omega
    have h := ih k (i + 1) (by omega) (by omega)
    rw [Int.natCast_add, Int.natCast_one] at h
    simp only [impl_colorsOk.l0]
    rw [if_pos (by omega), if_pos (by omega), if_pos (by omega), within_good, Option.bind_some, wrap_up (n := l.length) (by omega) (by omega) hl, drop_rd l i hlt]
    cases hg : frGood (rd l (i : Int)) with
    | false => simp [hg]
    | true => simp only [if_true, List.all_cons, hg, Bool.true_and]; exact h

theorem set_take (l : List Int) (i : Nat) (h : i < l.length) :
    (l.take i ++ List.replicate (l.length - i) 0).set i l[i] = l.take (i + 1) ++ List.replicate (l.length - (i + 1)) 0 := by
  have e : l.length - i = (l.length - (i + 1)) + 1 := by omega
  have e2 : l.take (i + 1) = l.take i ++ [l[i]] := List.take_succ_eq_append_getElem h
  rw [e, List.replicate_succ, List.set_append_right _ _ (by simp; omega), e2]
  rw [List.append_assoc, List.length_take, Nat.min_eq_left (Nat.le_of_lt h), Nat.sub_self]
  rfl

theorem to_ints (l : List Int) (hl : l.length ≤ 1048576) (d : Nat) : ∀ (k i : Nat), i + d = l.length → d < k →
    laws_toIntS.l0 k l (l.take i ++ List.replicate (l.length - i) 0) (i : Int) = some l := by
  induction d with
  | zero =>
    intro k i hi hk
    obtain ⟨k, rfl⟩ : ∃ m, k = m + 1 := ⟨k - 1, by omega⟩
    have e : l.take i ++ List.replicate (l.length - i) 0 = l := by
      rw [List.take_of_length_le (by omega), show l.length - i = 0 from by omega]; simp
    simp only [laws_toIntS.l0]
    rw [if_neg (by omega), e]
  | succ d ih =>
    intro k i hi hk
    obtain ⟨k, rfl⟩ : ∃ m, k = m + 1 := ⟨k - 1, by omega⟩
    have hlt : i < l.length := by omega
    have h := ih k (i + 1) (by omega) (by omega)
    rw [← set_take l i hlt, Int.natCast_add, Int.natCast_one] at h
    simp only [laws_toIntS.l0]
    rw [if_pos (by omega), if_pos (by omega), if_pos (by simp; omega), wrap_up (n := l.length) (by omega) (by omega) hl, rd_nat l i hlt]
    exact h

theorem to_ints_f (l : List Int) (hl : l.length ≤ 1048576) (k : Nat) (hk : l.length < k) : laws_toIntS.f k l = some l := by
  have h := to_ints l hl l.length k 0 (by omega) hk
  unfold laws_toIntS.f
  rw [if_pos (by omega), if_pos (by simp; omega)]
  simpa using h

theorem eq_ints (l : List Int) (hl : l.length ≤ 1048576) (d : Nat) : ∀ (k i : Nat), i + d = l.length → d < k →
    laws_eqIntS.l0 k l l (i : Int) = some true := by
  induction d with
  | zero =>
    intro k i hi hk
    obtain ⟨k, rfl⟩ : ∃ m, k = m + 1 := ⟨k - 1, by omega⟩
    simp only [laws_eqIntS.l0]
    rw [if_neg (by omega)]
  | succ d ih =>
    intro k i hi hk
    obtain ⟨k, rfl⟩ : ∃ m, k = m + 1 := ⟨k - 1, by omega⟩
    have h := ih k (i + 1) (by omega) (by omega)
    rw [Int.natCast_add, Int.natCast_one] at h
    simp only [laws_eqIntS.l0]
    rw [if_pos (by omega), if_pos (by omega), if_pos (by omega), wrap_up (n := l.length) (by omega) (by omega) hl]
    simpa using h

theorem FnExactFrameText : laws_FnExactFrameText.Pure := by
  intro l _ _ _
  by_cases h : (l.length : Int) > 1048576
  · exact ⟨0, by unfold laws_FnExactFrameText.f; rw [if_pos h]⟩
  · have hl : l.length ≤ 1048576 := by omega
    refine ⟨l.length + 2, ?_⟩
    have h1 := to_ints_f l hl (l.length + 2) (by omega)
    have h4 : laws_eqIntS.f (l.length + 2) l l = some true := by
      have := eq_ints l hl l.length (l.length + 2) 0 (by omega) (by omega)
      unfold laws_eqIntS.f
      rw [if_pos rfl]
      simpa using this
    obtain ⟨t, h2, h3⟩ : ∃ t, spec_FrameText.f (l.length + 2) l = some t ∧ impl_FrameText.f (l.length + 2) l = some t := by
      by_cases h48 : (l.length : Int) = 48
      · refine ⟨if l.all frGood = true then strOfNums (frAll l 0 []) else (⟨#[]⟩ : ByteArray), ?_, ?_⟩
        · have := spec_frame l hl l.length (l.length + 2) 0 [] (by omega) (by omega) (by simp)
          unfold spec_FrameText.f
          rw [if_pos h48]
          simpa using this
        · have hc := impl_colors l hl l.length (l.length + 2) 0 (by omega) (by omega)
          have hi := impl_frame l hl l.length (l.length + 1) 0 [] (by omega) (by omega) (by simp)
          unfold impl_FrameText.f impl_colorsOk.f
          rw [if_pos h48]
          simp only [List.drop_zero] at hc hi
          rw [show (0 : Int) = ((0 : Nat) : Int) from rfl, hc, Option.bind_some]
          unfold impl_FrameText.j0
          cases hg : l.all frGood with
          | false => simp
          | true => simpa using hi
      · refine ⟨(⟨#[]⟩ : ByteArray), ?_, ?_⟩
        · unfold spec_FrameText.f; rw [if_neg h48]
        · unfold impl_FrameText.f; rw [if_neg h48]
          unfold impl_FrameText.j0
          simp
    unfold laws_FnExactFrameText.f
    rw [if_neg h, h1, Option.bind_some, h2, Option.bind_some, Option.bind_some, h3, Option.bind_some, if_pos rfl, Option.bind_some, h4, Option.bind_some, if_pos rfl]

end Go.Proofs.Ytmgdknbellgpnaa.Pure
