-- LexRuns, the plain law: what its walk computes is true for every source.
import Derived.Test.YtbnelajjadhcgaaDoorGx11
import Derived.Test.YtbnelajjadhcgaaDoorLxr
namespace Go.Proofs.YtbnelajjadhcgaaDoor.G
set_option linter.unusedVariables false
set_option linter.unusedSimpArgs false
open Go.RowKit Go.Proofs.YtbnelajjadhcgaaDoorW.PrintWords Go.Proofs.YtbnelajjadhcgaaDoorW.PrintLast Go.Proofs.YtbnelajjadhcgaaDoorW.PrintMore

theorem chain_at : ∀ (l : List Tok) (i : Nat), chainOk l → i + 1 < l.length → nextOk (rd_T34 l (i : Int)) (rd_T34 l ((i + 1 : Nat) : Int))
  | [], i, h, _ => h.elim
  | [t], i, _, hi => by simp at hi
  | a :: c :: r, 0, h, _ => h.1
  | a :: c :: r, i + 1, h, hi => by
    have := chain_at (c :: r) i h.2 (by simpa using hi)
    exact this
theorem chain_end : ∀ (l : List Tok), chainOk l → (rd_T34 l ((l.length - 1 : Nat) : Int)).f0 = 4
  | [], h => h.elim
  | [t], h => h.1
  | a :: c :: r, h => by
    have := chain_end (c :: r) h.2
    exact this
theorem in_at (l : List Tok) (lo hi : Int) (h : allIn lo hi l) (i : Nat) (hl : i < l.length) : lo ≤ (rd_T34 l (i : Int)).f2 ∧ (rd_T34 l (i : Int)).f2 + ((rd_T34 l (i : Int)).f1.size : Int) ≤ hi := by
  refine h _ ?_
  show l.getD _ _ ∈ l
  rw [Int.toNat_natCast, List.getD_eq_getElem?_getD, List.getElem?_eq_getElem hl]
  exact List.getElem_mem hl

theorem wrap_small {x : Int} (h0 : -9223372036854775808 ≤ x) (h1 : x ≤ 9223372036854775807) : wrap64 x = x := by unfold wrap64; omega

theorem runs_j2 (k : Nat) (l : List Tok) (i : Int) (b : Bool) (hb : b = false) (f0 : Int) (f1 : ByteArray) (f2 : Int) (h0 : f0 ≠ 4) (h1 : f1.toList ≠ []) :
    chalklinelaw05_LexRuns.j2 (k + 1) l i b f0 f1 f2 = chalklinelaw05_LexRuns.l0 k l (wrap64 (i + 1)) := by
  subst hb
  simp only [chalklinelaw05_LexRuns.j2]
  rw [if_neg (by decide), if_neg h0, if_neg h1]

theorem runs_l0 (l : List Tok) (hc : chainOk l) (ha : allIn 0 2000 l) (hn : l.length ≤ 4294967296) : ∀ (d i k : Nat), 1 ≤ i → i + d = l.length → 2 * d + 1 ≤ k → chalklinelaw05_LexRuns.l0 k l (i : Int) = some true
  | 0, i, k, h1, hd, hk => by
    obtain ⟨k, rfl⟩ : ∃ m, k = m + 1 := ⟨k - 1, by omega⟩
    simp only [chalklinelaw05_LexRuns.l0]
    have e : wrap64 ((l.length : Int) - 1) = ((l.length - 1 : Nat) : Int) := by rw [wrap_small (by omega) (by omega)]; omega
    rw [if_neg (by omega), e, if_pos (by omega), if_pos (by omega), chain_end l hc]
    rfl
  | d + 1, i, k, h1, hd, hk => by
    obtain ⟨k, rfl⟩ : ∃ m, k = m + 2 := ⟨k - 2, by omega⟩
    obtain ⟨i, rfl⟩ : ∃ m, i = m + 1 := ⟨i - 1, by omega⟩
    have ih := runs_l0 l hc ha hn d (i + 2) k (by omega) (by omega) (by omega)
    have hx := chain_at l i hc (by omega)
    have hi1 := in_at l 0 2000 ha i (by omega)
    have e1 : wrap64 (((i + 1 : Nat) : Int) - 1) = (i : Int) := by rw [wrap_small (by omega) (by omega)]; omega
    have e2 : wrap64 (((i + 1 : Nat) : Int) + 1) = ((i + 2 : Nat) : Int) := by rw [wrap_small (by omega) (by omega)]; omega
    rw [show k + 2 = (k + 1) + 1 from rfl]
    simp only [chalklinelaw05_LexRuns.l0]
    rw [e1]
    generalize rd_T34 l (i : Int) = a at hx hi1
    generalize rd_T34 l ((i + 1 : Nat) : Int) = c at hx
    have e3 : wrap64 (a.f2 + (a.f1.size : Int)) = a.f2 + (a.f1.size : Int) := wrap_small (by omega) (by omega)
    obtain ⟨n1, n2, n3, n4⟩ := hx
    have go : ∀ b : Bool, b = false → chalklinelaw05_LexRuns.j2 (k + 1) l ((i + 1 : Nat) : Int) b a.f0 a.f1 a.f2 = some true := by
      intro b hb
      rw [runs_j2 k l _ b hb _ _ _ n1 n2, e2]
      exact ih
    rw [if_pos (by omega), if_pos (by omega), if_pos (by omega), if_pos (by omega), e3]
    by_cases hs : a.f2 + (a.f1.size : Int) = c.f2
    · obtain ⟨m1, m2⟩ := n4 hs
      rw [if_pos hs]
      by_cases k1 : a.f0 = 1
      · rw [if_pos k1]
        have k2 : ¬ a.f0 = 2 := by omega
        by_cases c3 : c.f0 = 3
        · rw [if_pos c3, if_neg k2]; exact go _ rfl
        · have c4 : c.f0 = 4 := by rcases m1 k1 with h | h; exact absurd h c3; exact h
          rw [if_neg c3, if_pos c4, if_neg k2]; exact go _ rfl
      · rw [if_neg k1]
        by_cases k2 : a.f0 = 2
        · rw [if_pos k2]; exact go _ (beq_eq_false_iff_ne.2 (m2 k2))
        · rw [if_neg k2]; exact go _ rfl
    · rw [if_neg hs]; exact go _ rfl

theorem lexRuns_pure (l0 : List Int) (hB : l0.all isB = true) : ∃ k, chalklinelaw05_LexRuns.f k l0 = some true := by
  unfold chalklinelaw05_LexRuns.f
  have hl : chalklinelaw05_live.f = some true := rfl
  by_cases hs : (l0.length : Int) > 2000
  · refine ⟨0, ?_⟩
    simp only [hl, Option.bind_some, ↓reduceIte]
    rw [if_pos hs]
  · have ht : lex_Tokens.f l0 = some (resOf (lx (l0.length + 1) l0 0)) := by
      unfold lex_Tokens.f
      rw [if_neg (by omega), if_pos hB]
    cases hr : lx (l0.length + 1) l0 0 with
    | error a =>
      refine ⟨1, ?_⟩
      simp only [hl, Option.bind_some, ↓reduceIte]
      rw [if_neg hs, ht, hr]
      rfl
    | ok l =>
      obtain ⟨g1, g2, _⟩ := lx_ok _ _ _ _ hr
      have hne : l.length ≠ 0 := by
        intro e
        rw [List.length_eq_zero_iff] at e
        rw [e] at g1
        exact g1
      refine ⟨2 * l.length + 2, ?_⟩
      simp only [hl, Option.bind_some, ↓reduceIte]
      rw [if_neg hs, ht, hr]
      simp only [resOf, Option.bind_some, ↓reduceIte]
      rw [show 2 * l.length + 2 = (2 * l.length + 1) + 1 from rfl]
      simp only [chalklinelaw05_LexRuns.j0]
      have e : ((l.length : Int) == 0) = false := beq_eq_false_iff_ne.2 (by omega)
      rw [e, if_neg (by decide)]
      have hlen := lx_len _ _ _ _ hr
      have g2' : allIn 0 2000 l := fun t h => ⟨(g2 t h).1, by have := (g2 t h).2; omega⟩
      exact runs_l0 l g1 g2' (by omega) (l.length - 1) 1 _ (Nat.le_refl _) (by omega) (by omega)
theorem lexRuns_walk (A0 : Option Addr) (c0 : Nat) (l0 : List Int) (w : World) (hG : Laid w) (hr0 : Kd.C (Kd.int .u8) w A0 l0.length l0) (hc0 : l0.length ≤ c0) (hB : l0.all isB = true) :
    Calls Tryd.prog 8 #[.slice A0 l0.length c0] w fun e w' => e = .returned (.bool true) ∧ Below w.heap.size w w' := by
  obtain ⟨k, h⟩ := lexRuns_pure l0 hB
  exact chalklinelaw05_LexRuns.calls k _ _ l0 true w hG hr0 hc0 h
end Go.Proofs.YtbnelajjadhcgaaDoor.G
