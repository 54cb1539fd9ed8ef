import Derived.Test.YtbnelajjadhcgaaDoorGx0
import Derived.Test.YtbnelajjadhcgaaDoorRun
import Derived.Lib.AtoiAll
namespace Go.Proofs.YtbnelajjadhcgaaDoor.G
set_option linter.unusedVariables false
set_option linter.unusedSimpArgs false
open Go.RowKit Go.Proofs.YtbnelajjadhcgaaDoorW.PrintWords Go.Proofs.YtbnelajjadhcgaaDoorW.PrintLast Go.Proofs.YtbnelajjadhcgaaDoorW.PrintMore

/-! The lexer as a plain function on lists of bytes. -/
abbrev Tok := S34
def isI (c : Int) : Bool := isL c || (isD c || c == 95)
def isW (c : Int) : Bool := c == 32 || (c == 9 || c == 10)
def isB (c : Int) : Bool := decide (0 ≤ c) && decide (c ≤ 255)

def valOf (t : List Int) : Int := t.foldl (fun n c => 10 * n + (c - 48)) 0
def wordB (t : List Int) : Bool := !t.isEmpty && (isL (t.headD 0) && (t.all isI && decide (t.length ≤ 64)))
def numB (t : List Int) : Bool := !t.isEmpty && (t.all isD && (!(decide (1 < t.length) && t.headD 0 == 48) && decide (valOf t ≤ 1099511627776)))

def signs : List (List Int) := [[33, 61], [60, 61], [62, 61], [45, 62], [40], [41], [123], [125], [44], [58], [59], [46], [61], [60], [62], [38], [124], [33]]
def sgn (t : List Int) : Option (List Int) := signs.find? fun s => s.isPrefixOf t

def oneT (t : List Int) : Option (Int × List Int) :=
  if isL (t.headD 0) then (if wordB (t.takeWhile isI) then some (1, t.takeWhile isI) else none)
  else if isD (t.headD 0) then (if numB (t.takeWhile isD) then some (2, t.takeWhile isD) else none)
  else (sgn t).map fun s => (3, s)

/-- The tokens of t, whose first byte lies at a; or the offset of what is no token. -/
def lx : Nat → List Int → Int → Except Int (List Tok)
  | 0, _, a => .error a
  | _ + 1, [], a => .ok [⟨4, ⟨#[]⟩, a⟩]
  | k + 1, c :: r, a =>
    if isW c then lx k r (a + 1)
    else if c == 35 then lx k ((c :: r).dropWhile (· != 10)) (a + ((c :: r).takeWhile (· != 10)).length)
    else match oneT (c :: r) with
      | none => .error a
      | some x =>
        match lx k ((c :: r).drop x.2.length) (a + x.2.length) with
        | .error e => .error e
        | .ok l => .ok (⟨x.1, strOfNums x.2, a⟩ :: l)

/-! Digits, and what strconv.Atoi makes of them. -/
theorem outK_fig (c : Int) : outK 2 c = !isD c := by
  unfold outK ofK
  by_cases h1 : isL c = true
  · have h2 : isD c = false := by
      unfold isL at h1; unfold isD
      simp only [Bool.and_eq_true, decide_eq_true_eq] at h1
      have : ¬ c ≤ 57 := by omega
      simp [this]
    rw [if_pos h1, h2]; decide +kernel
  · rw [if_neg h1]
    by_cases h2 : isD c = true
    · rw [if_pos h2, h2]; decide +kernel
    · rw [if_neg h2, Bool.eq_false_iff.mpr h2]
      by_cases h3 : (c == 95) = true
      · rw [if_pos h3]; decide +kernel
      · rw [if_neg h3]; decide +kernel
theorem outK_word (c : Int) : outK 7 c = !isI c := by
  unfold outK ofK isI
  by_cases h1 : isL c = true
  · rw [if_pos h1, h1, Bool.true_or]; decide +kernel
  · rw [if_neg h1, Bool.eq_false_iff.mpr h1]
    by_cases h2 : isD c = true
    · rw [if_pos h2, h2, Bool.true_or, Bool.or_true]; decide +kernel
    · rw [if_neg h2, Bool.eq_false_iff.mpr h2]
      by_cases h3 : (c == 95) = true
      · rw [if_pos h3, h3]; decide +kernel
      · rw [if_neg h3, Bool.eq_false_iff.mpr h3]; decide +kernel
theorem runL_fig (l : List Int) : runL 2 l = (l.takeWhile isD).length := by
  unfold runL; congr 1; congr 1; funext c; rw [outK_fig]; simp
theorem runL_word (l : List Int) : runL 7 l = (l.takeWhile isI).length := by
  unfold runL; congr 1; congr 1; funext c; rw [outK_word]; simp
theorem takeWhile_all {p : Int → Bool} : ∀ (l : List Int), (l.takeWhile p).length = l.length ↔ l.all p = true
  | [] => by simp
  | c :: r => by
    cases hc : p c with
    | false => simp [hc]
    | true =>
      have ih := takeWhile_all (p := p) r
      simp [hc, ← ih]

theorem valOf_from (l : List Int) : ∀ (n : Int), l.foldl (fun n c => 10 * n + (c - 48)) n = n * 10 ^ l.length + valOf l := by
  unfold valOf
  induction l with
  | nil => intro n; simp
  | cons c r ih =>
    intro n
    rw [List.foldl_cons, List.foldl_cons, ih, ih (10 * 0 + (c - 48)), List.length_cons, Int.pow_succ]
    have : (10 * n + (c - 48)) * 10 ^ r.length = n * (10 ^ r.length * 10) + (c - 48) * 10 ^ r.length := by
      rw [Int.add_mul]
      congr 1
      rw [Int.mul_comm 10 n, Int.mul_assoc, Int.mul_comm 10]
    have h2 : (10 * 0 + (c - 48)) * (10 : Int) ^ r.length = (c - 48) * 10 ^ r.length := by simp
    rw [this, h2]
    omega
theorem digit_of {c : Int} (h : isD c = true) : 48 ≤ c ∧ c ≤ 57 := by simpa [isD] using h

theorem parse_digits : ∀ (l : List Int) (acc : Nat), l.all isD = true →
    (l.foldl (fun n c => 10 * n + (c - 48)) (acc : Int) < 18446744073709551616 → Lib.parseUint10 acc (l.map fun n => UInt8.ofNat n.toNat) = .ok (l.foldl (fun n c => 10 * n + (c - 48)) (acc : Int)).toNat ∧ (acc : Int) ≤ l.foldl (fun n c => 10 * n + (c - 48)) (acc : Int)) ∧
    (18446744073709551616 ≤ l.foldl (fun n c => 10 * n + (c - 48)) (acc : Int) → acc < 18446744073709551616 → Lib.parseUint10 acc (l.map fun n => UInt8.ofNat n.toNat) = .range)
  | [], acc, _ => by
    constructor
    · intro _; simp [Lib.parseUint10]
    · intro h h2; simp at h; omega
  | c :: r, acc, h => by
    simp only [List.all_cons, Bool.and_eq_true] at h
    obtain ⟨hc, hr⟩ := h
    obtain ⟨h48, h57⟩ := digit_of hc
    have hb : (UInt8.ofNat c.toNat).toNat = c.toNat := by rw [UInt8.toNat_ofNat']; omega
    have hcast : (10 * (acc : Int) + (c - 48)) = ((acc * 10 + (c.toNat - 48) : Nat) : Int) := by omega
    have ih := parse_digits r (acc * 10 + (c.toNat - 48)) hr
    simp only [List.map_cons, List.foldl_cons, Lib.parseUint10, hb]
    rw [if_pos (by omega), hcast]
    constructor
    · intro hlt
      obtain ⟨e, hle⟩ := ih.1 hlt
      have hle2 : ((acc * 10 + (c.toNat - 48) : Nat) : Int) < 18446744073709551616 := Int.lt_of_le_of_lt hle hlt
      have a1 : ¬ 1844674407370955162 ≤ acc := by omega
      have a2 : ¬ 18446744073709551616 ≤ acc * 10 + (c.toNat - 48) := by omega
      rw [if_neg a1, if_neg a2]
      exact ⟨e, by omega⟩
    · intro hge hacc
      by_cases a1 : 1844674407370955162 ≤ acc
      · rw [if_pos a1]
      · rw [if_neg a1]
        by_cases a2 : 18446744073709551616 ≤ acc * 10 + (c.toNat - 48)
        · rw [if_pos a2]
        · rw [if_neg a2]
          exact ih.2 hge (by omega)

/-- strconv.Atoi at digits: their value, or out of range. -/
theorem atoi_digits (l : List Int) (hne : l ≠ []) (h : l.all isD = true) :
    (valOf l ≤ 9223372036854775807 → Lib.atoiAll (strOfNums l).data.toList = .ok (valOf l)) ∧ (9223372036854775807 < valOf l → Lib.atoiAll (strOfNums l).data.toList = .range) := by
  rw [strOfNums_data]
  cases l with
  | nil => exact absurd rfl hne
  | cons c r =>
    have hc : isD c = true := by simp only [List.all_cons, Bool.and_eq_true] at h; exact h.1
    obtain ⟨h48, h57⟩ := digit_of hc
    have hb : (UInt8.ofNat c.toNat).toNat = c.toNat := by rw [UInt8.toNat_ofNat']; omega
    have hp := parse_digits (c :: r) 0 h
    have hv : (c :: r).foldl (fun n c => 10 * n + (c - 48)) ((0 : Nat) : Int) = valOf (c :: r) := rfl
    rw [hv] at hp
    have hm : ∀ R, Lib.parseUint10 0 ((c :: r).map fun n => UInt8.ofNat n.toNat) = R → (∀ u, R = .ok u → Lib.atoiAll ((c :: r).map fun n => UInt8.ofNat n.toNat) = if 9223372036854775808 ≤ u then .range else .ok (u : Int)) ∧ (R = .range → Lib.atoiAll ((c :: r).map fun n => UInt8.ofNat n.toNat) = .range) := by
      intro R hR
      simp only [List.map_cons] at hR
      simp only [List.map_cons, Lib.atoiAll, hb]
      rw [if_neg (by omega), Lib.parseMag, if_neg (by simp), hR]
      have a : ¬ c.toNat = 45 := by omega
      refine ⟨fun u e => ?_, fun e => ?_⟩
      · subst e; simp [a]
      · subst e; rfl
    constructor
    · intro hle
      obtain ⟨e, h0⟩ := hp.1 (by omega)
      rw [(hm _ e).1 _ rfl, if_neg (by omega)]
      congr 1
      omega
    · intro hgt
      by_cases hlt : valOf (c :: r) < 18446744073709551616
      · obtain ⟨e, h0⟩ := hp.1 hlt
        rw [(hm _ e).1 _ rfl, if_pos (by omega)]
      · exact (hm _ (hp.2 (by omega) (by omega))).2 rfl

/-- A numeral by its parts. -/
theorem numB_nil : numB [] = false := rfl
theorem numB_not (l : List Int) (h : runL 2 l ≠ l.length) : numB l = false := by
  rw [runL_fig] at h
  have : l.all isD = false := by
    cases ha : l.all isD with
    | false => rfl
    | true => exact absurd ((takeWhile_all l).2 ha) h
  simp [numB, this]
theorem numB_zero (l : List Int) (h1 : 1 < l.length) (h : l.headD 0 = 48) : numB l = false := by
  unfold numB
  rw [h, decide_eq_true h1]
  simp
theorem numB_val (l : List Int) (hne : l ≠ []) (h : runL 2 l = l.length) (h1 : ¬ (1 < l.length ∧ l.headD 0 = 48)) : numB l = decide (valOf l ≤ 1099511627776) ∧ l.all isD = true := by
  rw [runL_fig] at h
  have ha := (takeWhile_all l).1 h
  have hz : (decide (1 < l.length) && l.headD 0 == 48) = false := by
    cases hd : decide (1 < l.length) with
    | false => rfl
    | true =>
      simp only [Bool.true_and, beq_eq_false_iff_ne]
      intro hh
      exact h1 ⟨by simpa using hd, hh⟩
  have he : l.isEmpty = false := by simpa using hne
  refine ⟨?_, ha⟩
  unfold numB
  rw [he, ha, hz]
  rfl
end Go.Proofs.YtbnelajjadhcgaaDoor.G
