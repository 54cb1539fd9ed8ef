-- What the reference's tests of one text come to: the plain lexer's own tests.
import Derived.Test.YtbnelajjadhcgaaDoorGx3
import Derived.Test.YtbnelajjadhcgaaDoorLxn
namespace Go.Proofs.YtbnelajjadhcgaaDoor.G
set_option linter.unusedVariables false
set_option linter.unusedSimpArgs false
open Go.RowKit Go.Proofs.YtbnelajjadhcgaaDoorW.PrintWords Go.Proofs.YtbnelajjadhcgaaDoorW.PrintLast Go.Proofs.YtbnelajjadhcgaaDoorW.PrintMore

theorem letter_f (c : Int) : chalklineref05_letter.f c = some (isL c) := by
  unfold chalklineref05_letter.f isL
  by_cases h : c ≥ 97
  · rw [if_pos h, decide_eq_true (show (97 : Int) ≤ c from h), Bool.true_and]
  · rw [if_neg h, decide_eq_false (show ¬ (97 : Int) ≤ c from h), Bool.false_and]
theorem digit_f (c : Int) : chalklineref05_digit.f c = some (isD c) := by
  unfold chalklineref05_digit.f isD
  by_cases h : c ≥ 48
  · rw [if_pos h, decide_eq_true (show (48 : Int) ≤ c from h), Bool.true_and]
  · rw [if_neg h, decide_eq_false (show ¬ (48 : Int) ≤ c from h), Bool.false_and]
theorem inner_f (c : Int) : chalklineref05_inner.f c = some (isI c) := by
  unfold chalklineref05_inner.f isI
  rw [letter_f, digit_f]
  simp only [Option.bind_some]
  cases isL c with
  | true => rfl
  | false =>
    cases isD c with
    | true => rfl
    | false => rfl

theorem drop_bt (s : ByteArray) (i : Nat) (h : i < s.size) : (bytesOf s).drop i = bt s (i : Int) :: (bytesOf s).drop (i + 1) := by
  rw [List.drop_eq_getElem_cons (by rw [bytesOf_length]; exact h), ← rd_bytesOf]
  simp [rd, bytesOf_length, h]

theorem word_l0 (s : ByteArray) (hs : s.size ≤ 281474976710656) : ∀ (d i k : Nat), i + d = s.size → d + 1 ≤ k →
    chalklineref05_Word.l0 k s (s.size : Int) (i : Int) = some (((bytesOf s).drop i).all isI && (decide (1 ≤ s.size) && (decide (s.size ≤ 64) && isL ((bytesOf s).headD 0))))
  | 0, i, k, hd, hk => by
    obtain ⟨k, rfl⟩ : ∃ m, k = m + 1 := ⟨k - 1, by omega⟩
    have e : (bytesOf s).drop i = [] := List.drop_of_length_le (by rw [bytesOf_length]; omega)
    simp only [chalklineref05_Word.l0]
    rw [if_neg (by omega), e, List.all_nil, Bool.true_and]
    by_cases h1 : 1 ≤ s.size
    · rw [if_pos (by omega), decide_eq_true h1, Bool.true_and]
      by_cases h2 : s.size ≤ 64
      · rw [if_pos (by omega), if_pos (by omega), letter_f, decide_eq_true h2, Bool.true_and]
        have := drop_bt s 0 (by omega)
        rw [List.drop_zero] at this
        rw [this]
        rfl
      · rw [if_neg (by omega), decide_eq_false h2, Bool.false_and]
    · rw [if_neg (by omega), decide_eq_false h1, Bool.false_and]
  | d + 1, i, k, hd, hk => by
    obtain ⟨k, rfl⟩ : ∃ m, k = m + 1 := ⟨k - 1, by omega⟩
    have e1 : wrap64 ((i : Int) + 1) = ((i + 1 : Nat) : Int) := by unfold wrap64; omega
    have ih := word_l0 s hs d (i + 1) k (by omega) (by omega)
    simp only [chalklineref05_Word.l0]
    rw [if_pos (by omega), if_pos (by omega), if_pos (by omega), inner_f, drop_bt s i (by omega), e1, List.all_cons]
    simp only [Option.bind_some]
    cases h : isI (bt s (i : Int)) with
    | true => rw [if_pos rfl, ih, Bool.true_and]
    | false => rw [if_neg (by decide), Bool.false_and, Bool.false_and]
theorem Word_f (s : ByteArray) (hs : s.size ≤ 281474976710656) (k : Nat) (hk : s.size + 1 ≤ k) : chalklineref05_Word.f k s = some (wordB (bytesOf s)) := by
  have := word_l0 s hs s.size 0 k (by omega) hk
  rw [List.drop_zero] at this
  unfold chalklineref05_Word.f
  rw [show ((0 : Nat) : Int) = 0 from rfl] at this
  rw [this]
  congr 1
  unfold wordB
  have hl := bytesOf_length s
  rw [hl]
  generalize (bytesOf s).all isI = a
  generalize isL ((bytesOf s).headD 0) = b
  have he : (!(bytesOf s).isEmpty) = decide (1 ≤ s.size) := by
    rw [← hl]
    cases bytesOf s with
    | nil => rfl
    | cons _ _ => simp
  rw [he]
  cases a <;> cases b <;> cases decide (1 ≤ s.size) <;> cases decide (s.size ≤ 64) <;> rfl

theorem valOf_nonneg : ∀ l : List Int, l.all isD = true → 0 ≤ valOf l
  | [], _ => Int.le_refl _
  | c :: r, h => by
    simp only [List.all_cons, Bool.and_eq_true] at h
    obtain ⟨h48, _⟩ := digit_of h.1
    have ih := valOf_nonneg r h.2
    have e := valOf_from r (10 * 0 + (c - 48))
    have e2 : valOf (c :: r) = (10 * 0 + (c - 48)) * 10 ^ r.length + valOf r := e
    rw [e2]
    have h1 : 0 ≤ (10 * 0 + (c - 48)) * (10 : Int) ^ r.length := Int.mul_nonneg (by omega) (Int.pow_nonneg (by decide))
    omega
theorem pow_ge : ∀ n : Nat, 13 ≤ n → (10000000000000 : Int) ≤ 10 ^ n
  | 0, h => by omega
  | n + 1, h => by
    by_cases h13 : n + 1 = 13
    · rw [h13]; decide
    · have := pow_ge n (by omega)
      rw [Int.pow_succ]
      omega
/-- A long numeral without a leading zero is too great. -/
theorem valOf_long (l : List Int) (h : l.all isD = true) (h0 : l.headD 0 ≠ 48) (hl : 13 < l.length) : 1099511627776 < valOf l := by
  cases l with
  | nil => simp at hl
  | cons c r =>
    simp only [List.all_cons, Bool.and_eq_true] at h
    obtain ⟨h48, _⟩ := digit_of h.1
    have hc : c ≠ 48 := h0
    have ih := valOf_nonneg r h.2
    have e2 : valOf (c :: r) = (10 * 0 + (c - 48)) * 10 ^ r.length + valOf r := valOf_from r (10 * 0 + (c - 48))
    rw [e2]
    rw [List.length_cons] at hl
    have hp := pow_ge r.length (by omega)
    have h1 : (10 : Int) ^ r.length ≤ (10 * 0 + (c - 48)) * 10 ^ r.length := by
      have : 1 * (10 : Int) ^ r.length ≤ (10 * 0 + (c - 48)) * 10 ^ r.length := Int.mul_le_mul_of_nonneg_right (by omega) (Int.pow_nonneg (by decide))
      omega
    omega

theorem numeral_l0 (s : ByteArray) (hs : s.size ≤ 13) : ∀ (d i k : Nat) (acc : Int), i + d = s.size → d + 1 ≤ k → 0 ≤ acc → acc * 10 ^ d ≤ 10000000000000 - 10 ^ d →
    chalklineref05_Numeral.l0 k s acc (s.size : Int) (i : Int) = some (((bytesOf s).drop i).all isD && decide (((bytesOf s).drop i).foldl (fun n c => 10 * n + (c - 48)) acc ≤ 1099511627776))
  | 0, i, k, acc, hd, hk, h0, h1 => by
    obtain ⟨k, rfl⟩ : ∃ m, k = m + 1 := ⟨k - 1, by omega⟩
    have e : (bytesOf s).drop i = [] := List.drop_of_length_le (by rw [bytesOf_length]; omega)
    simp only [chalklineref05_Numeral.l0]
    rw [if_neg (by omega), e]
    rfl
  | d + 1, i, k, acc, hd, hk, h0, h1 => by
    obtain ⟨k, rfl⟩ : ∃ m, k = m + 1 := ⟨k - 1, by omega⟩
    have e1 : wrap64 ((i : Int) + 1) = ((i + 1 : Nat) : Int) := by unfold wrap64; omega
    simp only [chalklineref05_Numeral.l0]
    rw [if_pos (by omega), if_pos (by omega), if_pos (by omega), digit_f, drop_bt s i (by omega), e1, List.all_cons, List.foldl_cons]
    simp only [Option.bind_some]
    generalize bt s (i : Int) = c
    cases h : isD c with
    | false => rw [if_neg (by decide), Bool.false_and, Bool.false_and]
    | true =>
      obtain ⟨h48, h57⟩ := digit_of h
      have hp : (0 : Int) < 10 ^ d := Int.pow_pos (by decide)
      rw [Int.pow_succ] at h1
      have hb : acc * 10 * 10 ^ d ≤ 10000000000000 - 10 * 10 ^ d := by
        have a1 : acc * (10 ^ d * 10) = acc * 10 * 10 ^ d := by rw [Int.mul_comm (10 ^ d) 10, Int.mul_assoc]
        have a2 : (10 : Int) ^ d * 10 = 10 * 10 ^ d := Int.mul_comm _ _
        rw [a1, a2] at h1
        exact h1
      have hsmall : acc * 10 ≤ 10000000000000 := by
        have : acc * 10 * 1 ≤ acc * 10 * 10 ^ d := Int.mul_le_mul_of_nonneg_left (by omega) (by omega)
        omega
      have e2 : wrap64 ((wrap64 (10 * acc)) + ((c - 48) % 256)) = 10 * acc + (c - 48) := by
        have a : wrap64 (10 * acc) = 10 * acc := by unfold wrap64; omega
        rw [a]
        unfold wrap64
        omega
      rw [if_pos rfl, e2, Bool.true_and]
      refine numeral_l0 s hs d (i + 1) k _ (by omega) (by omega) (by omega) ?_
      have a3 : (10 * acc + (c - 48)) * 10 ^ d = acc * 10 * 10 ^ d + (c - 48) * 10 ^ d := by rw [Int.add_mul, Int.mul_comm 10 acc]
      have a4 : (c - 48) * (10 : Int) ^ d ≤ 9 * 10 ^ d := Int.mul_le_mul_of_nonneg_right (by omega) (by omega)
      omega
theorem Numeral_f (s : ByteArray) (hs : s.size ≤ 281474976710656) (k : Nat) (hk : s.size + 2 ≤ k) : chalklineref05_Numeral.f k s = some (numB (bytesOf s)) := by
  obtain ⟨k, rfl⟩ : ∃ m, k = m + 1 := ⟨k - 1, by omega⟩
  have hl := bytesOf_length s
  unfold chalklineref05_Numeral.f
  by_cases h1 : (s.size : Int) < 1
  · rw [if_pos h1]
    have : bytesOf s = [] := List.eq_nil_of_length_eq_zero (by rw [hl]; omega)
    rw [this]
    rfl
  · rw [if_neg h1]
    have hne : (bytesOf s).isEmpty = false := by
      cases hb : bytesOf s with
      | nil => rw [hb] at hl; simp at hl; omega
      | cons _ _ => rfl
    have hh := drop_bt s 0 (by omega)
    rw [List.drop_zero] at hh
    have hhd : (bytesOf s).headD 0 = bt s 0 := by rw [hh]; rfl
    by_cases h2 : (s.size : Int) > 13
    · rw [if_pos h2]
      have e : numB (bytesOf s) = false := by
        cases hn : numB (bytesOf s) with
        | false => rfl
        | true =>
          unfold numB at hn
          simp only [Bool.and_eq_true, Bool.not_eq_true', decide_eq_true_eq] at hn
          obtain ⟨_, ha, hz, hv⟩ := hn
          have h0 : (bytesOf s).headD 0 ≠ 48 := by
            intro e
            rw [e, decide_eq_true (by omega)] at hz
            exact absurd hz (by decide)
          have := valOf_long _ ha h0 (by omega)
          omega
      rw [e]
      rfl
    · rw [if_neg h2]
      have main : ∀ b : Bool, b = false → (decide (1 < (bytesOf s).length) && (bytesOf s).headD 0 == 48) = b → chalklineref05_Numeral.j0 (k + 1) s b = some (numB (bytesOf s)) := by
        intro b hb hz
        subst hb
        simp only [chalklineref05_Numeral.j0]
        rw [if_neg (by decide)]
        have hd10 : ∀ n : Nat, n ≤ 13 → (10 : Int) ^ n ≤ 10000000000000 := by
          intro n hn
          have : n = 0 ∨ n = 1 ∨ n = 2 ∨ n = 3 ∨ n = 4 ∨ n = 5 ∨ n = 6 ∨ n = 7 ∨ n = 8 ∨ n = 9 ∨ n = 10 ∨ n = 11 ∨ n = 12 ∨ n = 13 := by omega
          rcases this with h | h | h | h | h | h | h | h | h | h | h | h | h | h <;> subst h <;> decide
        have := numeral_l0 s (by omega) s.size 0 k 0 (by omega) (by omega) (by omega) (by have := hd10 s.size (by omega); omega)
        rw [List.drop_zero] at this
        rw [show ((0 : Nat) : Int) = 0 from rfl] at this
        rw [this]
        congr 1
        unfold numB
        rw [hz, hne]
        rfl
      by_cases h3 : (s.size : Int) > 1
      · rw [if_pos h3, if_pos (by omega)]
        cases hz : (bt s 0 == 48) with
        | true =>
          have e : numB (bytesOf s) = false := numB_zero _ (by omega) (by rw [hhd]; simpa using hz)
          rw [e]
          rfl
        | false =>
          exact main false rfl (by rw [hhd, hz, Bool.and_false])
      · rw [if_neg h3]
        exact main false rfl (by rw [decide_eq_false (by omega), Bool.false_and])

/-- The reference's signs. -/
def signsA : List ByteArray := signs.map strOfNums
theorem Signs_f : chalklineref05_Signs.f = some signsA := by
  unfold chalklineref05_Signs.f signsA signs
  rfl
end Go.Proofs.YtbnelajjadhcgaaDoor.G
