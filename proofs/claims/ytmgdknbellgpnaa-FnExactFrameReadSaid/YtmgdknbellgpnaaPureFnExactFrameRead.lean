/- FnExactFrameRead answers true for every text: the program's FrameRead and the reference's read the same. No condition beyond the row's own. -/
import Derived.Test.YtmgdknbellgpnaaPFnExactFrameReadx3
import Derived.Test.YtmgdknbellgpnaaWSized
namespace Go.Proofs.Ytmgdknbellgpnaa.Pure
open Go.RowKit Go.Proofs.Ytmgdknbellgpnaa.PFnExactFrameRead Go.Proofs.YtmgdknbellgpnaaW.PrintWords Go.Proofs.YtmgdknbellgpnaaW.PrintLast

theorem wrap_up {i : Int} {n : Nat} (h0 : 0 ≤ i) (h : i < (n : Int)) (hn : n ≤ 1048576) : wrap64 (i + 1) = i + 1 := by
  unfold wrap64; omega

theorem rd_nat (l : List Int) (i : Nat) (h : i < l.length) : rd l (i : Int) = l[i] := by
  simp [rd, h]

/-- a text's bytes as numbers -/
def nums (s : ByteArray) : List Int := s.data.toList.map fun b => (b.toNat : Int)

theorem nums_len (s : ByteArray) : (nums s).length = s.size := by simp only [nums, List.length_map, Array.length_toList]; rfl
theorem bt_nums (s : ByteArray) (i : Nat) (h : i < s.size) : bt s (i : Int) = (nums s)[i]'(by rw [nums_len]; exact h) := by
  simp only [bt, Int.toNat_natCast, h, dif_pos, nums, List.getElem_map]
  rfl
theorem nums_drop (s : ByteArray) (i : Nat) (h : i < s.size) : (nums s).drop i = bt s (i : Int) :: (nums s).drop (i + 1) := by
  rw [bt_nums s i h]; exact List.drop_eq_getElem_cons (by rw [nums_len]; exact h)

/-- what the reference reads: all that is no end of a line -/
def readS : List Int → List Int | [] => [] | b :: r => if b = 10 then readS r else wrap64 (wrap64 b - 48) :: readS r
/-- what the program reads: all but each ninth -/
def readI : List Int → Nat → List Int | [], _ => [] | b :: r, i => if i % 9 = 8 then readI r (i + 1) else wrap64 (wrap64 b - 48) :: readI r (i + 1)

theorem spec_read (s : ByteArray) (hs : s.size ≤ 1048576) (d : Nat) : ∀ (k i : Nat) (acc : List Int), i + d = s.size → acc.length ≤ i →
    spec_FrameRead.l0 (k + 1 + d) s acc (i : Int) = (if s.toList = ([] : List UInt8) then (some ((([] : List Int)), false)) else ((spec_FrameText.f k (acc ++ readS ((nums s).drop i))).bind fun t124 => (if t124.toList = s.toList then (some (acc ++ readS ((nums s).drop i), true)) else (some ((([] : List Int)), false))))) := by
  induction d with
  | zero =>
    intro k i acc hi _
    have e : (nums s).drop i = [] := List.drop_of_length_le (by rw [nums_len]; omega)
    rw [e]
    simp only [spec_FrameRead.l0, readS, List.append_nil]
    rw [if_neg (by omega)]
  | succ d ih =>
    intro k i acc hi ha
    have hlt : i < s.size := by omega
    have e : k + 1 + (d + 1) = (k + 1 + d) + 1 := by omega
    rw [e]
    conv => lhs; simp only [spec_FrameRead.l0]
    rw [if_pos (by omega), if_pos (by omega), wrap_up (n := s.size) (by omega) (by omega) hs, nums_drop s i hlt]
    simp only [readS]
    by_cases h10 : bt s (i : Int) = 10
    · have h := ih k (i + 1) acc (by omega) (by omega)
      rw [Int.natCast_add, Int.natCast_one] at h
      rw [if_pos h10, if_pos h10]
      exact h
    · have h := ih k (i + 1) (acc ++ [wrap64 (wrap64 (bt s (i : Int)) - 48)]) (by omega) (by simp; omega)
      rw [Int.natCast_add, Int.natCast_one, List.append_assoc, List.singleton_append] at h
      rw [if_neg h10, if_neg h10, if_pos (by omega)]
      exact h

theorem impl_read (s : ByteArray) (hs : s.size ≤ 1048576) (d : Nat) : ∀ (k i : Nat) (acc : List Int), i + d = s.size → acc.length ≤ i →
    impl_FrameRead.l0 (k + 1 + d) s acc (s.size : Int) (i : Int) = ((impl_FrameText.f k (acc ++ readI ((nums s).drop i) i)).bind fun t147 => (if t147.toList = ([] : List UInt8) then (some (([] : List Int), false)) else (if t147.toList = s.toList then (some (acc ++ readI ((nums s).drop i) i, true)) else (some (([] : List Int), false))))) := by
  induction d with
  | zero =>
    intro k i acc hi _
    have e : (nums s).drop i = [] := List.drop_of_length_le (by rw [nums_len]; omega)
    rw [e]
    simp only [impl_FrameRead.l0, readI, List.append_nil]
    rw [if_neg (by omega)]
  | succ d ih =>
    intro k i acc hi ha
    have hlt : i < s.size := by omega
    have e : k + 1 + (d + 1) = (k + 1 + d) + 1 := by omega
    rw [e]
    conv => lhs; simp only [impl_FrameRead.l0]
    rw [if_pos (by omega), wrap_up (n := s.size) (by omega) (by omega) hs, nums_drop s i hlt]
    simp only [readI]
    have hm : Int.tmod (i : Int) 9 = 8 ↔ i % 9 = 8 := by
      rw [show (9 : Int) = ((9 : Nat) : Int) from rfl, ← Int.ofNat_tmod]; omega
    by_cases h8 : i % 9 = 8
    · have h := ih k (i + 1) acc (by omega) (by omega)
      rw [Int.natCast_add, Int.natCast_one] at h
      rw [if_pos (hm.2 h8), if_pos h8]
      exact h
    · have h := ih k (i + 1) (acc ++ [wrap64 (wrap64 (bt s (i : Int)) - 48)]) (by omega) (by simp; omega)
      rw [Int.natCast_add, Int.natCast_one, List.append_assoc, List.singleton_append] at h
      rw [if_neg (fun h => h8 (hm.1 h)), if_neg h8, if_pos (by omega), if_pos (by omega), if_pos (by omega)]
      exact h

def frGood (x : Int) : Bool := decide (0 ≤ x) && decide (x ≤ 63)
def frAdd (i : Nat) (x : Int) (acc : List Int) : List Int := if Int.tmod (i : Int) 8 = 7 then (acc ++ [(wrap64 (48 + x)) % 256]) ++ [10] else acc ++ [(wrap64 (48 + x)) % 256]
def frAll : List Int → Nat → List Int → List Int | [], _, acc => acc | x :: xs, i, acc => frAll xs (i + 1) (frAdd i x acc)

theorem frAdd_len (i : Nat) (x : Int) (acc : List Int) (h : acc.length ≤ 2 * i) : (frAdd i x acc).length ≤ 2 * (i + 1) := by
  unfold frAdd; split <;> simp <;> omega

theorem drop_rd (l : List Int) (i : Nat) (h : i < l.length) : l.drop i = rd l (i : Int) :: l.drop (i + 1) := by
  rw [rd_nat l i h]; exact List.drop_eq_getElem_cons h

theorem in_good (x : Int) : spec_l1In.f x 0 63 = some (frGood x) := by
  unfold spec_l1In.f frGood
  by_cases h : x ≥ 0
  · rw [if_pos h]; simp; omega
  · rw [if_neg h]; simp; omega
theorem within_good (x : Int) : impl_within.f x 0 63 = some (frGood x) := by
  unfold impl_within.f frGood
  by_cases h : x ≥ 0
  · rw [if_pos h]; simp; omega
  · rw [if_neg h]; simp; omega

theorem spec_frame (l : List Int) (hl : l.length ≤ 1048576) (d : Nat) : ∀ (k i : Nat) (acc : List Int), i + d = l.length → d < k → acc.length ≤ 2 * i →
    spec_FrameText.l0 k l acc (i : Int) = some (if (l.drop i).all frGood = true then strOfNums (frAll (l.drop i) i acc) else (⟨#[]⟩ : ByteArray)) := by
  induction d with
  | zero =>
    intro k i acc hi hk _
    obtain ⟨k, rfl⟩ : ∃ m, k = m + 1 := ⟨k - 1, by omega⟩
    simp only [spec_FrameText.l0]
    rw [if_neg (by omega), List.drop_of_length_le (by omega)]
    simp [frAll]
  | succ d ih =>
    intro k i acc hi hk ha
    obtain ⟨k, rfl⟩ : ∃ m, k = m + 1 := ⟨k - 1, by omega⟩
    have hlt : i < l.length := by omega
    simp only [spec_FrameText.l0]
    rw [if_pos (by omega), if_pos (by omega), in_good, Option.bind_some, wrap_up (n := l.length) (by omega) (by omega) hl, drop_rd l i hlt]
    cases hg : frGood (rd l (i : Int)) with
    | false => simp [hg]
    | true =>
      have h := ih k (i + 1) (frAdd i (rd l (i : Int)) acc) (by omega) (by omega) (frAdd_len i _ acc ha)
      rw [Int.natCast_add, Int.natCast_one] at h
      simp only [if_true, List.all_cons, hg, Bool.true_and, frAll, Option.bind_some]
      rw [← h, if_pos (by omega)]
      unfold frAdd
      by_cases h7 : Int.tmod (i : Int) 8 = 7
      · rw [if_pos h7, if_pos h7, if_pos (by simp; omega)]
      · rw [if_neg h7, if_neg h7]

theorem impl_frame (l : List Int) (hl : l.length ≤ 1048576) (d : Nat) : ∀ (k i : Nat) (acc : List Int), i + d = l.length → d < k → acc.length ≤ 2 * i →
    impl_FrameText.l0 k acc l (l.length : Int) (i : Int) = some (strOfNums (frAll (l.drop i) i acc)) := by
  induction d with
  | zero =>
    intro k i acc hi hk _
    obtain ⟨k, rfl⟩ : ∃ m, k = m + 1 := ⟨k - 1, by omega⟩
    simp only [impl_FrameText.l0]
    rw [if_neg (by omega), List.drop_of_length_le (by omega)]
    simp [frAll]
  | succ d ih =>
    intro k i acc hi hk ha
    obtain ⟨k, rfl⟩ : ∃ m, k = m + 1 := ⟨k - 1, by omega⟩
    have hlt : i < l.length := by omega
    have h := ih k (i + 1) (frAdd i (rd l (i : Int)) acc) (by omega) (by omega) (frAdd_len i _ acc ha)
    rw [Int.natCast_add, Int.natCast_one] at h
    simp only [impl_FrameText.l0]
    rw [if_pos (by omega), if_pos (by omega), if_pos (by omega), if_pos (by omega), wrap_up (n := l.length) (by omega) (by omega) hl, drop_rd l i hlt]
    simp only [frAll, Option.bind_some]
    rw [← h]
    unfold frAdd
    by_cases h7 : Int.tmod (i : Int) 8 = 7
    · rw [if_pos h7, if_pos h7, if_pos (by simp; omega)]
    · rw [if_neg h7, if_neg h7]

theorem impl_colors (l : List Int) (hl : l.length ≤ 1048576) (d : Nat) : ∀ (k i : Nat), i + d = l.length → d < k →
    impl_colorsOk.l0 k l (l.length : Int) (i : Int) = some ((l.drop i).all frGood) := by
  induction d with
  | zero =>
    intro k i hi hk
    obtain ⟨k, rfl⟩ : ∃ m, k = m + 1 := ⟨k - 1, by omega⟩
    simp only [impl_colorsOk.l0]
    rw [if_neg (by omega), List.drop_of_length_le (by omega)]
    rfl
  | succ d ih =>
    intro k i hi hk
    obtain ⟨k, rfl⟩ : ∃ m, k = m + 1 := ⟨k - 1, by omega⟩
    have hlt : i < l.length := by omega
    have h := ih k (i + 1) (by omega) (by omega)
    rw [Int.natCast_add, Int.natCast_one] at h
    simp only [impl_colorsOk.l0]
    rw [if_pos (by omega), if_pos (by omega), if_pos (by omega), within_good, Option.bind_some, wrap_up (n := l.length) (by omega) (by omega) hl, drop_rd l i hlt]
    cases hg : frGood (rd l (i : Int)) with
    | false => simp [hg]
    | true => simp only [if_true, List.all_cons, hg, Bool.true_and]; exact h

theorem eq_ints (l : List Int) (hl : l.length ≤ 1048576) (d : Nat) : ∀ (k i : Nat), i + d = l.length → d < k →
    laws_eqIntS.l0 k l l (i : Int) = some true := by
  induction d with
  | zero =>
    intro k i hi hk
    obtain ⟨k, rfl⟩ : ∃ m, k = m + 1 := ⟨k - 1, by omega⟩
    simp only [laws_eqIntS.l0]
    rw [if_neg (by omega)]
  | succ d ih =>
    intro k i hi hk
    obtain ⟨k, rfl⟩ : ∃ m, k = m + 1 := ⟨k - 1, by omega⟩
    have h := ih k (i + 1) (by omega) (by omega)
    rw [Int.natCast_add, Int.natCast_one] at h
    simp only [laws_eqIntS.l0]
    rw [if_pos (by omega), if_pos (by omega), if_pos (by omega), wrap_up (n := l.length) (by omega) (by omega) hl]
    simpa using h


def frT (l : List Int) : ByteArray := if l.length = 48 ∧ l.all frGood = true then strOfNums (frAll l 0 []) else ⟨#[]⟩

theorem spec_text (l : List Int) (hl : l.length ≤ 1048576) (k : Nat) (hk : l.length < k) : spec_FrameText.f k l = some (frT l) := by
  unfold spec_FrameText.f frT
  by_cases h48 : (l.length : Int) = 48
  · have := spec_frame l hl l.length k 0 [] (by omega) hk (by simp)
    rw [if_pos h48]
    have h' : l.length = 48 := by omega
    simpa [h'] using this
  · have h' : ¬ l.length = 48 := by omega
    rw [if_neg h48]
    simp [h']

theorem impl_text (l : List Int) (hl : l.length ≤ 1048576) (k : Nat) (hk : l.length + 1 < k) : impl_FrameText.f k l = some (frT l) := by
  obtain ⟨k, rfl⟩ : ∃ m, k = m + 1 := ⟨k - 1, by omega⟩
  unfold impl_FrameText.f frT
  by_cases h48 : (l.length : Int) = 48
  · have hc := impl_colors l hl l.length (k + 1) 0 (by omega) (by omega)
    have hi := impl_frame l hl l.length k 0 [] (by omega) (by omega) (by simp)
    unfold impl_colorsOk.f
    rw [if_pos h48]
    simp only [List.drop_zero] at hc hi
    rw [show (0 : Int) = ((0 : Nat) : Int) from rfl, hc, Option.bind_some]
    unfold impl_FrameText.j0
    have h' : l.length = 48 := by omega
    cases hg : l.all frGood with
    | false => simp
    | true => simpa [h'] using hi
  · have h' : ¬ l.length = 48 := by omega
    rw [if_neg h48]
    unfold impl_FrameText.j0
    simp [h']

def frOut : List Int → Nat → List Int | [], _ => [] | x :: xs, i => (if i % 8 = 7 then [48 + x, 10] else [48 + x]) ++ frOut xs (i + 1)

theorem good_range {x : Int} (h : frGood x = true) : 0 ≤ x ∧ x ≤ 63 := by
  simpa [frGood] using h

theorem tmod8 (i : Nat) : Int.tmod (i : Int) 8 = 7 ↔ i % 8 = 7 := by
  rw [show (8 : Int) = ((8 : Nat) : Int) from rfl, ← Int.ofNat_tmod]; omega

theorem all_out : ∀ (l : List Int) (i : Nat) (acc : List Int), l.all frGood = true → frAll l i acc = acc ++ frOut l i
  | [], i, acc, _ => by simp [frAll, frOut]
  | x :: xs, i, acc, h => by
    simp only [List.all_cons, Bool.and_eq_true] at h
    obtain ⟨h0, h1⟩ := good_range h.1
    have hx : wrap64 (48 + x) % 256 = 48 + x := by unfold wrap64; omega
    simp only [frAll, frOut]
    rw [all_out xs (i + 1) _ h.2]
    unfold frAdd
    by_cases h7 : i % 8 = 7
    · rw [if_pos ((tmod8 i).2 h7), if_pos h7, hx]; simp
    · rw [if_neg (fun h => h7 ((tmod8 i).1 h)), if_neg h7, hx]; simp

theorem readS_out : ∀ (l : List Int) (i : Nat), l.all frGood = true → readS (frOut l i) = l
  | [], _, _ => rfl
  | x :: xs, i, h => by
    simp only [List.all_cons, Bool.and_eq_true] at h
    obtain ⟨h0, h1⟩ := good_range h.1
    have ih := readS_out xs (i + 1) h.2
    have hx : wrap64 (wrap64 (48 + x) - 48) = x := by unfold wrap64; omega
    have hn : ¬ (48 + x) = 10 := by omega
    simp only [frOut]
    by_cases h7 : i % 8 = 7
    · rw [if_pos h7]; simp only [List.cons_append, List.nil_append, readS]; rw [if_neg hn, if_true, ih, hx]
    · rw [if_neg h7]; simp only [List.cons_append, List.nil_append, readS]; rw [if_neg hn, ih, hx]

theorem readI_out : ∀ (l : List Int) (i : Nat), l.all frGood = true → readI (frOut l i) (i + i / 8) = l
  | [], _, _ => rfl
  | x :: xs, i, h => by
    simp only [List.all_cons, Bool.and_eq_true] at h
    obtain ⟨h0, h1⟩ := good_range h.1
    have ih := readI_out xs (i + 1) h.2
    have hx : wrap64 (wrap64 (48 + x) - 48) = x := by unfold wrap64; omega
    have hn : ¬ (i + i / 8) % 9 = 8 := by omega
    simp only [frOut]
    by_cases h7 : i % 8 = 7
    · have e : i + i / 8 + 1 + 1 = i + 1 + (i + 1) / 8 := by omega
      have hp : (i + i / 8 + 1) % 9 = 8 := by omega
      rw [if_pos h7]; simp only [List.cons_append, List.nil_append, readI]; rw [if_neg hn, if_pos hp, e, ih, hx]
    · have e : i + i / 8 + 1 = i + 1 + (i + 1) / 8 := by omega
      rw [if_neg h7]; simp only [List.cons_append, List.nil_append, readI]; rw [if_neg hn, e, ih, hx]

theorem out_range : ∀ (l : List Int) (i : Nat), l.all frGood = true → ∀ x, x ∈ frOut l i → 0 ≤ x ∧ x ≤ 255
  | [], _, _, _, h => by cases h
  | y :: ys, i, h, x, hx => by
    simp only [List.all_cons, Bool.and_eq_true] at h
    obtain ⟨h0, h1⟩ := good_range h.1
    simp only [frOut, List.mem_append] at hx
    rcases hx with hx | hx
    · split at hx <;> simp at hx <;> omega
    · exact out_range ys (i + 1) h.2 x hx

/-- a text that is that of a picture -/
theorem text_of {l : List Int} {s : ByteArray} (h : (frT l).toList = s.toList) (hne : s.toList ≠ []) : l.all frGood = true ∧ nums s = frOut l 0 := by
  unfold frT at h
  split at h
  · rename_i hv
    refine ⟨hv.2, ?_⟩
    rw [ByteArray.toList_eq, ByteArray.toList_eq, strOfNums_data, all_out l 0 [] hv.2, List.nil_append] at h
    unfold nums
    rw [← h, List.map_map]
    have : ∀ x, x ∈ frOut l 0 → ((fun b : UInt8 => (b.toNat : Int)) ∘ fun n : Int => UInt8.ofNat n.toNat) x = x := fun x hx => by
      obtain ⟨h0, h1⟩ := out_range l 0 hv.2 x hx
      simp only [Function.comp, UInt8.toNat_ofNat']
      omega
    rw [List.map_congr_left this, List.map_id']
  · rw [ByteArray.toList_eq] at h
    exact absurd h.symm hne

theorem readS_len : ∀ l : List Int, (readS l).length ≤ l.length
  | [] => Nat.le_refl _
  | b :: r => by have := readS_len r; simp only [readS]; split <;> simp <;> omega
theorem readI_len : ∀ (l : List Int) (i : Nat), (readI l i).length ≤ l.length
  | [], _ => Nat.le_refl _
  | b :: r, i => by have := readI_len r (i + 1); simp only [readI]; split <;> simp <;> omega

/-- what is read -/
def frR (s : ByteArray) : List Int × Bool := if s.toList = ([] : List UInt8) then ([], false) else if (frT (readS (nums s))).toList = s.toList then (readS (nums s), true) else ([], false)

theorem spec_all (s : ByteArray) (hs : s.size ≤ 1048576) (K : Nat) (hK : 2 * s.size + 3 ≤ K) : spec_FrameRead.f K s = some (frR s) := by
  obtain ⟨k, rfl⟩ : ∃ m, K = m + 1 + s.size := ⟨K - 1 - s.size, by omega⟩
  have h := spec_read s hs s.size k 0 [] (by omega) (by simp)
  unfold spec_FrameRead.f
  rw [show (0 : Int) = ((0 : Nat) : Int) from rfl, h]
  simp only [List.drop_zero, List.nil_append]
  have hl := readS_len (nums s)
  rw [nums_len] at hl
  rw [spec_text (readS (nums s)) (by omega) k (by omega), Option.bind_some]
  unfold frR
  split
  · rfl
  · split <;> rfl

theorem impl_all (s : ByteArray) (hs : s.size ≤ 1048576) (K : Nat) (hK : 2 * s.size + 3 ≤ K) : impl_FrameRead.f K s = some (frR s) := by
  obtain ⟨k, rfl⟩ : ∃ m, K = m + 1 + s.size := ⟨K - 1 - s.size, by omega⟩
  have h := impl_read s hs s.size k 0 [] (by omega) (by simp)
  unfold impl_FrameRead.f
  rw [show (0 : Int) = ((0 : Nat) : Int) from rfl, h]
  simp only [List.drop_zero, List.nil_append]
  have hl := readI_len (nums s) 0
  rw [nums_len] at hl
  rw [impl_text (readI (nums s) 0) (by omega) k (by omega), Option.bind_some]
  unfold frR
  by_cases he : s.toList = ([] : List UInt8)
  · rw [if_pos he]
    by_cases h1 : (frT (readI (nums s) 0)).toList = ([] : List UInt8)
    · rw [if_pos h1]
    · rw [if_neg h1, if_neg (fun h => h1 (h.trans he))]
  · rw [if_neg he]
    by_cases h2 : (frT (readS (nums s))).toList = s.toList
    · obtain ⟨hg, hn⟩ := text_of h2 he
      have e : readI (nums s) 0 = readS (nums s) := by
        have := readI_out (readS (nums s)) 0 hg
        rw [← hn] at this
        simpa using this
      rw [if_pos h2, e, if_neg (fun h => he (h2.symm.trans h)), if_pos h2]
    · rw [if_neg h2]
      by_cases h1 : (frT (readI (nums s) 0)).toList = ([] : List UInt8)
      · rw [if_pos h1]
      · rw [if_neg h1]
        by_cases h3 : (frT (readI (nums s) 0)).toList = s.toList
        · obtain ⟨hg, hn⟩ := text_of h3 he
          have e : readS (nums s) = readI (nums s) 0 := by
            have := readS_out (readI (nums s) 0) 0 hg
            rw [← hn] at this
            exact this
          exact absurd (e ▸ h3) h2
        · rw [if_neg h3]

def frMk (n : Nat) : List Int := (List.range n).map fun (j : Nat) => (1 : Int) + (j : Int)

theorem mk_succ (n : Nat) : frMk (n + 1) = frMk n ++ [1 + (n : Int)] := by simp [frMk, List.range_succ]
theorem mk_len (n : Nat) : (frMk n).length = n := by simp [frMk]

theorem mark_all (l : List Int) (hl : l.length ≤ 1048576) (d : Nat) : ∀ (k i : Nat), i + d = l.length → d < k →
    laws_markIntS.l0 k (frMk i ++ l.drop i) (1 + (i : Int)) (i : Int) = some (1 + (l.length : Int), frMk l.length) := by
  induction d with
  | zero =>
    intro k i hi hk
    obtain ⟨k, rfl⟩ : ∃ m, k = m + 1 := ⟨k - 1, by omega⟩
    have e : l.drop i = [] := List.drop_of_length_le (by omega)
    have : i = l.length := by omega
    subst this
    simp only [laws_markIntS.l0]
    rw [e, List.append_nil, mk_len, if_neg (by omega)]
  | succ d ih =>
    intro k i hi hk
    obtain ⟨k, rfl⟩ : ∃ m, k = m + 1 := ⟨k - 1, by omega⟩
    have hlt : i < l.length := by omega
    have h := ih k (i + 1) (by omega) (by omega)
    have hlen : (frMk i ++ l.drop i).length = l.length := by simp [mk_len]; omega
    simp only [laws_markIntS.l0]
    rw [if_pos (by omega), if_pos (by omega)]
    have e1 : wrap64 (1 + (i : Int) + 1) = 1 + ((i + 1 : Nat) : Int) := by unfold wrap64; omega
    have e2 : wrap64 ((i : Int) + 1) = ((i + 1 : Nat) : Int) := by unfold wrap64; omega
    have e3 : (frMk i ++ l.drop i).set (i : Int).toNat (1 + (i : Int)) = frMk (i + 1) ++ l.drop (i + 1) := by
      rw [Int.toNat_natCast, List.drop_eq_getElem_cons hlt, mk_succ, List.set_append_right _ _ (by rw [mk_len]; omega), mk_len, Nat.sub_self, List.set_cons_zero, List.append_assoc, List.singleton_append]
    rw [e1, e2, e3]
    exact h

theorem held_all (n : Nat) (hn : n ≤ 1048576) (d : Nat) : ∀ (k i : Nat), i + d = n → d < k → laws_heldIntS.l0 k (frMk n) (1 + (i : Int)) (i : Int) = some (1 + (n : Int)) := by
  induction d with
  | zero =>
    intro k i hi hk
    obtain ⟨k, rfl⟩ : ∃ m, k = m + 1 := ⟨k - 1, by omega⟩
    have : i = n := by omega
    subst this
    simp only [laws_heldIntS.l0]
    rw [mk_len, if_neg (by omega)]
  | succ d ih =>
    intro k i hi hk
    obtain ⟨k, rfl⟩ : ∃ m, k = m + 1 := ⟨k - 1, by omega⟩
    have h := ih k (i + 1) (by omega) (by omega)
    have e1 : wrap64 (1 + (i : Int) + 1) = 1 + ((i + 1 : Nat) : Int) := by unfold wrap64; omega
    have e2 : wrap64 ((i : Int) + 1) = ((i + 1 : Nat) : Int) := by unfold wrap64; omega
    have e3 : rd (frMk n) (i : Int) = 1 + (i : Int) := by
      rw [rd_nat _ i (by rw [mk_len]; omega)]
      simp [frMk]
    simp only [laws_heldIntS.l0]
    rw [mk_len, if_pos (by omega), if_pos (by omega), if_pos e3, e1, e2]
    exact h

theorem FnExactFrameRead : laws_FnExactFrameRead.Pure := by
  intro s _
  by_cases h : (s.size : Int) > 1048576
  · exact ⟨0, by unfold laws_FnExactFrameRead.f; rw [if_pos h]⟩
  · have hs : s.size ≤ 1048576 := by omega
    have hl : (frR s).1.length ≤ s.size := by
      have := readS_len (nums s)
      rw [nums_len] at this
      unfold frR
      split
      · simp
      · split
        · exact this
        · simp
    generalize hp : frR s = p at hl
    obtain ⟨l, b⟩ := p
    simp only at hl
    refine ⟨2 * s.size + 5, ?_⟩
    have eq : ∀ K, s.size < K → laws_eqIntS.f K l l = some true := fun K hK => by
      have := eq_ints l (by omega) l.length K 0 (by omega) (by omega)
      unfold laws_eqIntS.f
      rw [if_pos rfl]
      simpa using this
    have mark : ∀ K, s.size < K → laws_markIntS.f K l 1 = some (1 + (l.length : Int), frMk l.length) := fun K hK => by
      have := mark_all l (by omega) l.length K 0 (by omega) (by omega)
      unfold laws_markIntS.f
      simpa [frMk] using this
    have held : ∀ K, s.size < K → laws_heldIntS.f K (frMk l.length) 1 = some (1 + (l.length : Int)) := fun K hK => by
      have := held_all l.length (by omega) l.length K 0 (by omega) (by omega)
      unfold laws_heldIntS.f
      simpa using this
    have hb : (b != b) = false := by cases b <;> rfl
    unfold laws_FnExactFrameRead.f
    rw [if_neg h, spec_all s hs _ (by omega), impl_all s hs _ (by omega), hp]
    simp only [Option.bind_some]
    rw [eq _ (by omega)]
    simp only [Option.bind_some, if_true, hb]
    show laws_FnExactFrameRead.j0 ((2 * s.size + 4) + 1) s l b l false = some true
    simp only [laws_FnExactFrameRead.j0]
    rw [if_neg (by simp), mark _ (by omega)]
    simp only [Option.bind_some]
    rw [held _ (by omega)]
    simp only [Option.bind_some]
    rw [if_neg (by omega), if_true, impl_all s hs _ (by omega), hp]
    simp only [Option.bind_some]
    rw [eq _ (by omega)]
    simp only [Option.bind_some, if_true, hb]
    show laws_FnExactFrameRead.j1 ((2 * s.size + 3) + 1) (frMk l.length) (1 + (l.length : Int)) false = some true
    simp only [laws_FnExactFrameRead.j1]
    rw [if_neg (by simp), held _ (by omega)]
    simp only [Option.bind_some]
    rw [if_neg (by omega), if_true]

end Go.Proofs.Ytmgdknbellgpnaa.Pure
