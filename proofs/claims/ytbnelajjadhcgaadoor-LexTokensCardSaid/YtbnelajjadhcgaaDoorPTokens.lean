-- LexTokens, the plain law.
import Derived.Test.YtbnelajjadhcgaaDoorGx5
import Derived.Test.YtbnelajjadhcgaaDoorRefT
import Derived.Test.YtbnelajjadhcgaaDoorLxr
namespace Go.Proofs.YtbnelajjadhcgaaDoor.G
set_option linter.unusedVariables false
set_option linter.unusedSimpArgs false
open Go.RowKit Go.Proofs.YtbnelajjadhcgaaDoorW.PrintWords Go.Proofs.YtbnelajjadhcgaaDoorW.PrintLast Go.Proofs.YtbnelajjadhcgaaDoorW.PrintMore

theorem lexTokens_pure (l0 : List Int) (hB : l0.all isB = true) : ∃ k, chalklinelaw05_LexTokens.f k l0 = some true := by
  have hl : chalklinelaw05_live.f = some true := rfl
  refine ⟨240010, ?_⟩
  unfold chalklinelaw05_LexTokens.f
  have jt : chalklinelaw05_LexTokens.j0 240010 l0 true = some true := by
    rw [show 240010 = 240009 + 1 from rfl]
    simp only [chalklinelaw05_LexTokens.j0]
    rfl
  simp only [hl, Option.bind_some, ↓reduceIte]
  have main : l0.length ≤ 40000 → ∀ b : Bool, b = false → chalklinelaw05_LexTokens.j0 240010 l0 b = some true := by
    intro hm b hb
    subst hb
    rw [show 240010 = 240009 + 1 from rfl]
    simp only [chalklinelaw05_LexTokens.j0]
    rw [if_neg (by decide), refTokens_f l0 hB hm 240009 (by omega)]
    have ht : ∃ r, lex_Tokens.f l0 = some r ∧ r.1.length ≤ 40001 := by
      unfold lex_Tokens.f
      by_cases hs : l0.length > 16384
      · rw [if_pos hs]; exact ⟨_, rfl, by simp⟩
      · rw [if_neg hs, if_pos hB]
        refine ⟨_, rfl, ?_⟩
        cases hr : lx (l0.length + 1) l0 0 with
        | error a => simp [resOf]
        | ok l => have := lx_len _ _ _ _ hr; simp only [resOf]; omega
    obtain ⟨r, hr, hlen⟩ := ht
    rw [hr]
    simp only [Option.bind_some]
    rw [same_f r.1 (by omega) 240009 (by omega)]
    simp
  by_cases h1 : (l0.length : Int) > 4000
  · rw [if_pos h1]
    by_cases h2 : (l0.length : Int) ≤ 16384
    · rw [if_pos h2]; exact jt
    · rw [if_neg h2]
      by_cases h3 : (l0.length : Int) > 40000
      · rw [decide_eq_true h3]; exact jt
      · exact main (by omega) _ (decide_eq_false h3)
  · rw [if_neg h1]
    exact main (by omega) _ (decide_eq_false (by omega))

theorem lexTokens_walk (A0 : Option Addr) (c0 : Nat) (l0 : List Int) (w : World) (hG : Laid w) (hr0 : Kd.C (Kd.int .u8) w A0 l0.length l0) (hc0 : l0.length ≤ c0) (hB : l0.all isB = true) :
    Calls Tryd.prog 3 #[.slice A0 l0.length c0] w fun e w' => e = .returned (.bool true) ∧ Below w.heap.size w w' := by
  obtain ⟨k, h⟩ := lexTokens_pure l0 hB
  exact chalklinelaw05_LexTokens.calls k _ _ l0 true w hG hr0 hc0 h
end Go.Proofs.YtbnelajjadhcgaaDoor.G
