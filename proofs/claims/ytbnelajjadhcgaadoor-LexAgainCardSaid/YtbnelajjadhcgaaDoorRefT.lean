-- The reference's Tokens is the plain lexer.
import Derived.Test.YtbnelajjadhcgaaDoorGx4
import Derived.Test.YtbnelajjadhcgaaDoorTkn
namespace Go.Proofs.YtbnelajjadhcgaaDoor.G
set_option linter.unusedVariables false
set_option linter.unusedSimpArgs false
open Go.RowKit Go.Proofs.YtbnelajjadhcgaaDoorW.PrintWords Go.Proofs.YtbnelajjadhcgaaDoorW.PrintLast Go.Proofs.YtbnelajjadhcgaaDoorW.PrintMore

theorem oneR_some {t : List Int} {x : Int × List Int} (a : Int) (h : oneT t = some x) : oneR t a = (x.1, strOfNums x.2, a, true) := by
  unfold oneT at h
  unfold oneR
  by_cases hL : isL (t.headD 0) = true
  · rw [if_pos hL] at h ⊢
    cases hw : wordB (t.takeWhile isI) with
    | true => rw [hw] at h; simp at h; rw [← h]
    | false => rw [hw] at h; simp at h
  · rw [if_neg hL] at h ⊢
    by_cases hD : isD (t.headD 0) = true
    · rw [if_pos hD] at h ⊢
      cases hw : numB (t.takeWhile isD) with
      | true => rw [hw] at h; simp at h; rw [← h]
      | false => rw [hw] at h; simp at h
    · rw [if_neg hD] at h ⊢
      cases hs : sgn t with
      | none => rw [hs] at h; simp at h
      | some s => rw [hs] at h; simp at h; rw [← h]
theorem oneR_none {t : List Int} (a : Int) (h : oneT t = none) : (oneR t a).2.2.2 = false := by
  unfold oneT at h
  unfold oneR
  by_cases hL : isL (t.headD 0) = true
  · rw [if_pos hL] at h ⊢
    cases hw : wordB (t.takeWhile isI) with
    | true => rw [hw] at h; simp at h
    | false => rfl
  · rw [if_neg hL] at h ⊢
    by_cases hD : isD (t.headD 0) = true
    · rw [if_pos hD] at h ⊢
      cases hw : numB (t.takeWhile isD) with
      | true => rw [hw] at h; simp at h
      | false => rfl
    · rw [if_neg hD] at h ⊢
      cases hs : sgn t with
      | none => rfl
      | some s => rw [hs] at h; simp at h

theorem pass_l1 (l0 : List Int) (hn : l0.length ≤ 4294967296) (a : Nat) : ∀ (d q k : Nat), a ≤ q → q + d = a + remL (l0.drop a) → q ≤ l0.length → d + 1 ≤ k → chalklineref05_pass.l1 k l0 (q : Int) = chalklineref05_pass.l0 (k - (d + 1)) l0 ((a + remL (l0.drop a) : Nat) : Int)
  | 0, q, k, h1, h2, h3, hk => by
    obtain ⟨k, rfl⟩ : ∃ m, k = m + 1 := ⟨k - 1, by omega⟩
    simp only [chalklineref05_pass.l1]
    have e : q = a + remL (l0.drop a) := by omega
    by_cases hend : q < l0.length
    · have h10 : rd l0 (q : Int) = 10 := by
        have hr := rem_at (l0.drop a) (q - a) (by omega) (by rw [List.length_drop]; omega)
        have er : rd (l0.drop a) ((q - a : Nat) : Int) = rd l0 (q : Int) := by
          unfold rd
          rw [Int.toNat_natCast, Int.toNat_natCast]
          simp only [List.getD_eq_getElem?_getD, List.getElem?_drop]
          rw [show a + (q - a) = q by omega]
        rw [er] at hr
        by_cases hx : 10 = rd l0 (q : Int)
        · exact hx.symm
        · have := hr.1 hx
          omega
      rw [if_pos (by omega), if_pos (by omega), if_pos h10, ← e]
      congr 1
    · rw [if_neg (by omega), ← e]
      congr 1
  | d + 1, q, k, h1, h2, h3, hk => by
    obtain ⟨k, rfl⟩ : ∃ m, k = m + 1 := ⟨k - 1, by omega⟩
    have hle : remL (l0.drop a) ≤ (l0.drop a).length := (List.takeWhile_sublist _).length_le
    rw [List.length_drop] at hle
    have hend : q < l0.length := by omega
    have e1 : wrap64 ((q : Int) + 1) = ((q + 1 : Nat) : Int) := by unfold wrap64; omega
    have hr := rem_at (l0.drop a) (q - a) (by omega) (by rw [List.length_drop]; omega)
    have er : rd (l0.drop a) ((q - a : Nat) : Int) = rd l0 (q : Int) := by
      unfold rd
      rw [Int.toNat_natCast, Int.toNat_natCast]
      simp only [List.getD_eq_getElem?_getD, List.getElem?_drop]
      rw [show a + (q - a) = q by omega]
    rw [er] at hr
    have h10 : ¬ rd l0 (q : Int) = 10 := fun e => by have := hr.2 e.symm; omega
    have ih := pass_l1 l0 hn a d (q + 1) k (by omega) (by omega) (by omega) (by omega)
    simp only [chalklineref05_pass.l1]
    rw [if_pos (by omega), if_pos (by omega), if_neg h10, e1, ih]
    congr 1
    omega

/-- Where the reference's pass stops. -/
theorem pass_at (l0 : List Int) (hn : l0.length ≤ 4294967296) : ∀ (d a : Nat), a + d = l0.length → ∃ p : Nat, a ≤ p ∧ p ≤ l0.length ∧ (p < l0.length → isW (rd l0 (p : Int)) = false ∧ ¬ rd l0 (p : Int) = 35) ∧
    (∀ k, 4 * d + 3 ≤ k → chalklineref05_pass.l0 k l0 (a : Int) = some (p : Int)) ∧ ∀ R l, TokAt l0 R a l → TokAt l0 R p l := by
  intro d
  induction d using Nat.strongRecOn with
  | _ d ih =>
    intro a hd
    by_cases hend : a < l0.length
    · by_cases hw : isW (rd l0 (a : Int)) = true
      · obtain ⟨p, h1, h2, h3, h4, h5⟩ := ih (d - 1) (by omega) (a + 1) (by omega)
        refine ⟨p, by omega, h2, h3, fun k hk => ?_, fun R l h => h5 R l (h.blank hend hw)⟩
        obtain ⟨k, rfl⟩ : ∃ m, k = (m + 1) + 1 := ⟨k - 2, by omega⟩
        have e1 : wrap64 ((a : Int) + 1) = ((a + 1 : Nat) : Int) := by unfold wrap64; omega
        have h6 := h4 k (by omega)
        have j : ∀ b : Bool, b = true → chalklineref05_pass.j1 (k + 1) l0 (a : Int) b = some (p : Int) := by
          intro b hb
          subst hb
          simp only [chalklineref05_pass.j1]
          rw [if_pos trivial, e1, h6]
        simp only [chalklineref05_pass.l0]
        rw [if_pos (by omega), if_pos (by omega)]
        generalize rd l0 (a : Int) = c at hw
        unfold isW at hw
        simp only [Bool.or_eq_true, beq_iff_eq] at hw
        by_cases c1 : c = 32
        · rw [if_pos c1]; exact j _ rfl
        · rw [if_neg c1]
          by_cases c2 : c = 9
          · rw [if_pos c2]; exact j _ rfl
          · rw [if_neg c2]
            refine j _ ?_
            rw [beq_iff_eq]
            rcases hw with h | h | h
            · exact absurd h c1
            · exact absurd h c2
            · exact h
      · have hwf : isW (rd l0 (a : Int)) = false := Bool.eq_false_iff.2 hw
        have jf : ∀ (k : Nat) (x : Option Int), (∀ b : Bool, b = false → chalklineref05_pass.j1 (k + 1) l0 (a : Int) b = x) → chalklineref05_pass.l0 (k + 1 + 1) l0 (a : Int) = x := by
          intro k x j
          simp only [chalklineref05_pass.l0]
          rw [if_pos (by omega), if_pos (by omega)]
          generalize rd l0 (a : Int) = c at hwf
          unfold isW at hwf
          simp only [Bool.or_eq_false_iff] at hwf
          obtain ⟨c1, c2, c3⟩ := hwf
          rw [if_neg (by simpa using c1), if_neg (by simpa using c2)]
          exact j _ c3
        by_cases h35 : rd l0 (a : Int) = 35
        · obtain ⟨_, hpos⟩ : True ∧ 0 < remL (l0.drop a) := by
            refine ⟨trivial, ?_⟩
            rw [drop_cons l0 a hend, h35]; simp [remL]
          have hle : remL (l0.drop a) ≤ (l0.drop a).length := (List.takeWhile_sublist _).length_le
          rw [List.length_drop] at hle
          obtain ⟨p, h1, h2, h3, h4, h5⟩ := ih (d - remL (l0.drop a)) (by omega) (a + remL (l0.drop a)) (by omega)
          refine ⟨p, by omega, h2, h3, fun k hk => ?_, fun R l h => h5 R l (h.remark hend hwf h35).1⟩
          obtain ⟨k, rfl⟩ : ∃ m, k = (m + 1) + 1 := ⟨k - 2, by omega⟩
          refine jf k _ fun b hb => ?_
          subst hb
          simp only [chalklineref05_pass.j1]
          rw [if_neg (by decide), if_pos (by omega), if_pos (by omega), if_pos h35]
          rw [pass_l1 l0 hn a (remL (l0.drop a)) a k (Nat.le_refl _) rfl (by omega) (by omega)]
          exact h4 _ (by omega)
        · refine ⟨a, Nat.le_refl _, by omega, fun _ => ⟨hwf, h35⟩, fun k hk => ?_, fun R l h => h⟩
          obtain ⟨k, rfl⟩ : ∃ m, k = (m + 1) + 1 := ⟨k - 2, by omega⟩
          refine jf k _ fun b hb => ?_
          subst hb
          simp only [chalklineref05_pass.j1]
          rw [if_neg (by decide), if_pos (by omega), if_pos (by omega), if_neg h35]
    · refine ⟨a, Nat.le_refl _, by omega, fun h => absurd h hend, fun k hk => ?_, fun R l h => h⟩
      obtain ⟨k, rfl⟩ : ∃ m, k = m + 1 := ⟨k - 1, by omega⟩
      simp only [chalklineref05_pass.l0]
      rw [if_neg (by omega)]

theorem refTokens_l0 (l0 : List Int) (hs : l0.length ≤ 16384) (hB : l0.all isB = true) (R : Except Int (List Tok)) : ∀ (d a : Nat) (l : List Tok), a + d = l0.length → TokAt l0 R a l → l.length ≤ a → (a < l0.length → isW (rd l0 (a : Int)) = false ∧ ¬ rd l0 (a : Int) = 35) →
    ∀ k, 4 * l0.length + 4 + d ≤ k → chalklineref05_Tokens.l0 k l0 l (a : Int) = some (resOf R) := by
  intro d
  induction d using Nat.strongRecOn with
  | _ d ih =>
    intro a l hd hT hl hw k hk
    obtain ⟨k, rfl⟩ : ∃ m, k = m + 1 := ⟨k - 1, by omega⟩
    simp only [chalklineref05_Tokens.l0]
    by_cases hend : a < l0.length
    · obtain ⟨hwf, h35⟩ := hw hend
      obtain ⟨g1, g2⟩ := hT.word hend hwf h35
      have ho : chalklineref05_one.f l0 (a : Int) = some (oneR (l0.drop a) (a : Int)) := by
        unfold chalklineref05_one.f
        rw [if_pos ⟨by omega, by omega, hs, hB⟩, Int.toNat_natCast]
      rw [if_pos (by omega), ho]
      simp only [Option.bind_some]
      cases hone : oneT (l0.drop a) with
      | none =>
        rw [oneR_none _ hone, if_neg (by decide), g1 hone]
        rfl
      | some x =>
        obtain ⟨t1, t2, t3⟩ := g2 x hone
        rw [oneR_some _ hone]
        simp only [if_true]
        have e1 : wrap64 ((a : Int) + ((strOfNums x.2).size : Int)) = ((a + x.2.length : Nat) : Int) := by rw [strOfNums_size]; unfold wrap64; omega
        obtain ⟨p, p1, p2, p3, p4, p5⟩ := pass_at l0 (by omega) (l0.length - (a + x.2.length)) (a + x.2.length) (by omega)
        have hp : chalklineref05_pass.f k l0 (wrap64 ((a : Int) + ((strOfNums x.2).size : Int))) = some (p : Int) := by
          rw [e1]
          exact p4 k (by omega)
        rw [if_pos (by omega), hp]
        simp only [Option.bind_some]
        exact ih (l0.length - p) (by omega) p _ (by omega) (p5 _ _ t1) (by rw [List.length_append]; simp; omega) p3 k (by omega)
    · have : a = l0.length := by omega
      subst this
      rw [if_neg (by omega), if_pos (by omega), hT.done]
      rfl
theorem refTokens_f (l0 : List Int) (hB : l0.all isB = true) (hm : l0.length ≤ 40000) (k : Nat) (hk : 5 * l0.length + 5 ≤ k) : chalklineref05_Tokens.f k l0 = lex_Tokens.f l0 := by
  unfold chalklineref05_Tokens.f lex_Tokens.f
  by_cases hs : (l0.length : Int) > 16384
  · rw [if_pos hs, if_pos (by omega)]
  · rw [if_neg hs, if_neg (by omega), if_pos hB]
    obtain ⟨p, p1, p2, p3, p4, p5⟩ := pass_at l0 (by omega) l0.length 0 (by omega)
    have hp : chalklineref05_pass.f k l0 0 = some (p : Int) := p4 k (by omega)
    rw [hp]
    simp only [Option.bind_some]
    have h0 : TokAt l0 (lx (l0.length + 1) l0 0) 0 [] := ⟨l0.length + 1, by omega, by rw [preL_nil]; rfl⟩
    exact refTokens_l0 l0 (by omega) hB _ (l0.length - p) p [] (by omega) (p5 _ _ h0) (by simp) p3 k (by omega)

theorem same_l0 (l : List Tok) (hn : l.length ≤ 4294967296) : ∀ (d i k : Nat), i + d = l.length → d + 1 ≤ k → chalklineref05_Same.l0 k l l (l.length : Int) (i : Int) = some true
  | 0, i, k, hd, hk => by
    obtain ⟨k, rfl⟩ : ∃ m, k = m + 1 := ⟨k - 1, by omega⟩
    simp only [chalklineref05_Same.l0]
    rw [if_neg (by omega)]
  | d + 1, i, k, hd, hk => by
    obtain ⟨k, rfl⟩ : ∃ m, k = m + 1 := ⟨k - 1, by omega⟩
    have e1 : wrap64 ((i : Int) + 1) = ((i + 1 : Nat) : Int) := by unfold wrap64; omega
    have ih := same_l0 l hn d (i + 1) k (by omega) (by omega)
    simp only [chalklineref05_Same.l0]
    rw [if_pos (by omega), if_pos (by omega), if_pos (by omega), if_pos (by omega), e1, ih]
    simp
theorem same_f (l : List Tok) (hn : l.length ≤ 4294967296) (k : Nat) (hk : l.length + 1 ≤ k) : chalklineref05_Same.f k l l = some true := by
  unfold chalklineref05_Same.f
  rw [if_pos rfl]
  exact same_l0 l hn l.length 0 k (by omega) hk
end Go.Proofs.YtbnelajjadhcgaaDoor.G
