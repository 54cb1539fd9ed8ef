-- The law's own test of white space, by value.
import Derived.Test.YtbnelajjadhcgaaDoorGx8
import Derived.Test.YtbnelajjadhcgaaDoorGood
namespace Go.Proofs.YtbnelajjadhcgaaDoor.G
set_option linter.unusedVariables false
set_option linter.unusedSimpArgs false
open Go.RowKit Go.Proofs.YtbnelajjadhcgaaDoorW.PrintWords Go.Proofs.YtbnelajjadhcgaaDoorW.PrintLast Go.Proofs.YtbnelajjadhcgaaDoorW.PrintMore

theorem nothing_l0 (g : List Int) (hn : g.length ≤ 4294967296) : ∀ (d i k : Nat) (rem : Bool), i + d = g.length → 2 * d + 1 ≤ k → noth rem (g.drop i) = true → chalklinelaw05_nothing.l0 k rem g (g.length : Int) (i : Int) = some true
  | 0, i, k, rem, hd, hk, h => by
    obtain ⟨k, rfl⟩ : ∃ m, k = m + 1 := ⟨k - 1, by omega⟩
    simp only [chalklinelaw05_nothing.l0]
    rw [if_neg (by omega)]
  | d + 1, i, k, rem, hd, hk, h => by
    obtain ⟨k, rfl⟩ : ∃ m, k = m + 2 := ⟨k - 2, by omega⟩
    have hi : i < g.length := by omega
    have e1 : wrap64 ((i : Int) + 1) = ((i + 1 : Nat) : Int) := by unfold wrap64; omega
    have er : g.drop i = rd g (i : Int) :: g.drop (i + 1) := by
      rw [List.drop_eq_getElem_cons hi]
      simp [rd, List.getElem?_eq_getElem hi]
    rw [er, noth] at h
    rw [show k + 2 = (k + 1) + 1 from rfl]
    simp only [chalklinelaw05_nothing.l0, chalklinelaw05_nothing.j1]
    rw [if_pos (by omega), if_pos (by omega), if_pos (by omega), e1]
    have ih := fun rem h => nothing_l0 g hn d (i + 1) k rem (by omega) (by omega) h
    generalize rd g (i : Int) = c at h
    simp only [Bool.and_eq_true] at h
    obtain ⟨h1, h2⟩ := h
    by_cases h10 : c = 10
    · subst h10
      rw [if_pos rfl] at h2
      have := ih _ h2
      simpa using this
    · rw [if_neg h10] at h1 h2
      by_cases h35 : c = 35
      · subst h35
        have := ih _ h2
        have h3 : (rem || (35 : Int) == 35) = true := by simp
        rw [h3] at this
        simpa using this
      · have h3 : (rem || c == 35) = rem := by
          rw [beq_eq_false_iff_ne.2 h35, Bool.or_false]
        rw [h3] at h1 h2
        have h4 := ih _ h2
        rw [if_neg h35, if_neg h10]
        cases rem with
        | true => rw [if_pos rfl]; exact h4
        | false =>
          rw [if_neg (by decide)]
          rw [Bool.false_or] at h1
          unfold isW at h1
          simp only [Bool.or_eq_true, beq_iff_eq] at h1
          by_cases h32 : c = 32
          · rw [if_pos h32]; exact h4
          · rw [if_neg h32]
            have : c = 9 := by omega
            rw [if_pos this]; exact h4
theorem nothing_f (g : List Int) (hn : g.length ≤ 4294967296) (k : Nat) (hk : 2 * g.length + 1 ≤ k) (h : noth false g = true) : chalklinelaw05_nothing.f k g = some true :=
  nothing_l0 g hn g.length 0 k false (by omega) hk h
end Go.Proofs.YtbnelajjadhcgaaDoor.G
