-- What the lexer's list looks like: places, kinds of neighbours, the end.
import Derived.Test.YtbnelajjadhcgaaDoorLxn
namespace Go.Proofs.YtbnelajjadhcgaaDoor.G
set_option linter.unusedVariables false
set_option linter.unusedSimpArgs false
open Go.RowKit Go.Proofs.YtbnelajjadhcgaaDoorW.PrintWords Go.Proofs.YtbnelajjadhcgaaDoorW.PrintLast Go.Proofs.YtbnelajjadhcgaaDoorW.PrintMore

theorem strOfNums_size (l : List Int) : (strOfNums l).size = l.length := by
  have h := congrArg List.length (strOfNums_toList l)
  rw [List.length_map, Lib.toList_data] at h
  exact h
/-- Two neighbours of the list. -/
def nextOk (a c : Tok) : Prop :=
  a.f0 ≠ 4 ∧ a.f1.toList ≠ [] ∧ a.f2 + (a.f1.size : Int) ≤ c.f2 ∧ (a.f2 + (a.f1.size : Int) = c.f2 → (a.f0 = 1 → c.f0 = 3 ∨ c.f0 = 4) ∧ (a.f0 = 2 → c.f0 ≠ 2))
def chainOk : List Tok → Prop
  | [] => False
  | [t] => t.f0 = 4 ∧ t.f1 = ⟨#[]⟩
  | a :: c :: r => nextOk a c ∧ chainOk (c :: r)
def allIn (lo hi : Int) (l : List Tok) : Prop := ∀ t ∈ l, lo ≤ t.f2 ∧ t.f2 + (t.f1.size : Int) ≤ hi
/-- The first token, where it stands at the place itself. -/
def headAt (t : List Int) (a : Int) : List Tok → Prop
  | [] => False
  | h :: _ => h.f2 = a → (t = [] ∧ h.f0 = 4) ∨ ∃ x, oneT t = some x ∧ h.f0 = x.1

theorem oneT_nil : oneT [] = none := by decide +kernel
theorem oneT_kind (t : List Int) (x : Int × List Int) (h : oneT t = some x) :
    (isL (t.headD 0) = true ∧ x.1 = 1 ∧ x.2 = t.takeWhile isI) ∨ (isL (t.headD 0) = false ∧ isD (t.headD 0) = true ∧ x.1 = 2 ∧ x.2 = t.takeWhile isD) ∨ (isL (t.headD 0) = false ∧ isD (t.headD 0) = false ∧ x.1 = 3) := by
  unfold oneT at h
  by_cases h1 : isL (t.headD 0) = true
  · rw [if_pos h1] at h
    split at h
    · cases h; exact .inl ⟨h1, rfl, rfl⟩
    · exact absurd h (by simp)
  · rw [if_neg h1] at h
    by_cases h2 : isD (t.headD 0) = true
    · rw [if_pos h2] at h
      split at h
      · cases h; exact .inr (.inl ⟨Bool.eq_false_iff.2 h1, h2, rfl, rfl⟩)
      · exact absurd h (by simp)
    · rw [if_neg h2] at h
      obtain ⟨s, _, rfl⟩ := Option.map_eq_some_iff.1 h
      exact .inr (.inr ⟨Bool.eq_false_iff.2 h1, Bool.eq_false_iff.2 h2, rfl⟩)
theorem head_after (p : Int → Bool) : ∀ (t : List Int), t.drop (t.takeWhile p).length = [] ∨ p ((t.drop (t.takeWhile p).length).headD 0) = false
  | [] => .inl rfl
  | c :: r => by
    by_cases h : p c = true
    · rw [List.takeWhile_cons_of_pos h, List.length_cons, List.drop_succ_cons]
      exact head_after p r
    · rw [List.takeWhile_cons_of_neg (by simpa using h)]
      exact .inr (by simpa using h)
theorem takeWhile_len (p : Int → Bool) (t : List Int) : (t.takeWhile p).length ≤ t.length := (List.takeWhile_sublist p).length_le

theorem lx_ok : ∀ (k : Nat) (t : List Int) (a : Int) (l : List Tok), lx k t a = .ok l → chainOk l ∧ allIn a (a + t.length) l ∧ headAt t a l
  | 0, _, _, _, h => by simp [lx] at h
  | k + 1, [], a, l, h => by
    simp only [lx, Except.ok.injEq] at h
    subst h
    refine ⟨⟨rfl, rfl⟩, ?_, fun _ => .inl ⟨rfl, rfl⟩⟩
    intro t ht
    rw [List.mem_singleton] at ht
    subst ht
    exact ⟨Int.le_refl _, by show a + ((0 : Nat) : Int) ≤ _; simp⟩
  | k + 1, c :: r, a, l, h => by
    simp only [lx] at h
    have wid : ∀ (t2 : List Int) (a2 : Int), a < a2 → a2 + t2.length ≤ a + (c :: r).length → lx k t2 a2 = .ok l → chainOk l ∧ allIn a (a + (c :: r).length) l ∧ headAt (c :: r) a l := by
      intro t2 a2 h1 h2 h3
      obtain ⟨g1, g2, g3⟩ := lx_ok k t2 a2 l h3
      refine ⟨g1, fun t ht => ⟨by have := (g2 t ht).1; omega, by have := (g2 t ht).2; omega⟩, ?_⟩
      cases l with
      | nil => exact g1.elim
      | cons y ys => exact fun e => by have := (g2 y (List.mem_cons_self ..)).1; omega
    by_cases hw : isW c = true
    · rw [if_pos hw] at h
      exact wid r (a + 1) (by omega) (by rw [List.length_cons]; omega) h
    · rw [if_neg hw] at h
      by_cases hc : (c == 35) = true
      · rw [if_pos hc] at h
        have e : c = 35 := by simpa using hc
        have hl : ((c :: r).takeWhile (· != 10)).length + ((c :: r).dropWhile (· != 10)).length = (c :: r).length := by
          rw [← List.length_append, List.takeWhile_append_dropWhile]
        have hp : 0 < ((c :: r).takeWhile (· != 10)).length := by
          rw [List.takeWhile_cons_of_pos (by rw [e]; rfl)]; simp
        exact wid _ _ (by omega) (by omega) h
      · rw [if_neg hc] at h
        cases ho : oneT (c :: r) with
        | none => rw [ho] at h; exact absurd h (by simp)
        | some x =>
          rw [ho] at h
          simp only at h
          cases hr : lx k ((c :: r).drop x.2.length) (a + x.2.length) with
          | error e => rw [hr] at h; exact absurd h (by simp)
          | ok l2 =>
            rw [hr] at h
            simp only [Except.ok.injEq] at h
            subst h
            obtain ⟨g1, g2, g3⟩ := lx_ok k _ _ l2 hr
            obtain ⟨hne, hpre⟩ := oneT_prefix _ x ho
            have hlen : x.2.length ≤ (c :: r).length := hpre.length_le
            have hpos : 0 < x.2.length := List.length_pos_iff.2 hne
            have hdl : ((c :: r).drop x.2.length).length = (c :: r).length - x.2.length := List.length_drop
            have hsz : (strOfNums x.2).size = x.2.length := strOfNums_size _
            have hk := oneT_kind _ x ho
            refine ⟨?_, ?_, fun _ => .inr ⟨x, ho, rfl⟩⟩
            · cases l2 with
              | nil => exact g1.elim
              | cons y ys =>
                refine ⟨⟨?_, ?_, ?_, ?_⟩, g1⟩
                · show x.1 ≠ 4
                  rcases hk with ⟨_, e, _⟩ | ⟨_, _, e, _⟩ | ⟨_, _, e⟩ <;> rw [e] <;> decide
                · show (strOfNums x.2).toList ≠ []
                  rw [strOfNums_toList]
                  intro e
                  exact hne (List.map_eq_nil_iff.1 e)
                · show a + ((strOfNums x.2).size : Int) ≤ y.f2
                  have := (g2 y (List.mem_cons_self ..)).1
                  omega
                · intro e
                  have e : a + ((strOfNums x.2).size : Int) = y.f2 := e
                  rcases g3 (by omega) with ⟨_, e4⟩ | ⟨x2, hx2, e2⟩
                  · exact ⟨fun _ => .inr e4, fun _ => by rw [e4]; decide⟩
                  · have hk2 := oneT_kind _ x2 hx2
                    rw [e2]
                    refine ⟨fun e1 => ?_, fun e1 => ?_⟩
                    · have e1 : x.1 = 1 := e1
                      rcases hk with ⟨_, _, ew⟩ | ⟨_, _, e', _⟩ | ⟨_, _, e'⟩
                      · rw [ew] at hk2
                        rcases head_after isI (c :: r) with hn | hn
                        · rw [ew, hn] at hx2; exact absurd (oneT_nil.symm.trans hx2) (by simp)
                        · have n1 : isL (((c :: r).drop ((c :: r).takeWhile isI).length).headD 0) = false := by
                            unfold isI at hn; simp only [Bool.or_eq_false_iff] at hn; exact hn.1
                          have n2 : isD (((c :: r).drop ((c :: r).takeWhile isI).length).headD 0) = false := by
                            unfold isI at hn; simp only [Bool.or_eq_false_iff] at hn; exact hn.2.1
                          rcases hk2 with ⟨q, _⟩ | ⟨_, q, _⟩ | ⟨_, _, q⟩
                          · rw [n1] at q; exact absurd q (by simp)
                          · rw [n2] at q; exact absurd q (by simp)
                          · exact .inl q
                      · rw [e1] at e'; exact absurd e' (by decide)
                      · rw [e1] at e'; exact absurd e' (by decide)
                    · have e1 : x.1 = 2 := e1
                      rcases hk with ⟨_, e', _⟩ | ⟨_, _, _, ew⟩ | ⟨_, _, e'⟩
                      · rw [e1] at e'; exact absurd e' (by decide)
                      · rw [ew] at hk2
                        rcases head_after isD (c :: r) with hn | hn
                        · rw [ew, hn] at hx2; exact absurd (oneT_nil.symm.trans hx2) (by simp)
                        · rcases hk2 with ⟨_, q, _⟩ | ⟨_, q, _⟩ | ⟨_, _, q⟩
                          · rw [q]; decide
                          · rw [hn] at q; exact absurd q (by simp)
                          · rw [q]; decide
                      · rw [e1] at e'; exact absurd e' (by decide)
            · intro t ht
              rcases List.mem_cons.1 ht with e | e
              · subst e
                exact ⟨Int.le_refl _, by show a + ((strOfNums x.2).size : Int) ≤ _; omega⟩
              · have := g2 t e
                exact ⟨by omega, by omega⟩
theorem lx_len : ∀ (k : Nat) (t : List Int) (a : Int) (l : List Tok), lx k t a = .ok l → l.length ≤ t.length + 1
  | 0, _, _, _, h => by simp [lx] at h
  | k + 1, [], a, l, h => by
    simp only [lx, Except.ok.injEq] at h
    subst h
    exact Nat.le_refl _
  | k + 1, c :: r, a, l, h => by
    simp only [lx] at h
    by_cases hw : isW c = true
    · rw [if_pos hw] at h
      have := lx_len k _ _ l h
      rw [List.length_cons]; omega
    · rw [if_neg hw] at h
      by_cases hc : (c == 35) = true
      · rw [if_pos hc] at h
        have := lx_len k _ _ l h
        have h2 := (List.dropWhile_sublist (l := c :: r) (· != 10)).length_le
        omega
      · rw [if_neg hc] at h
        cases ho : oneT (c :: r) with
        | none => rw [ho] at h; exact absurd h (by simp)
        | some x =>
          rw [ho] at h
          simp only at h
          cases hr : lx k ((c :: r).drop x.2.length) (a + x.2.length) with
          | error e => rw [hr] at h; exact absurd h (by simp)
          | ok l2 =>
            rw [hr] at h
            simp only [Except.ok.injEq] at h
            subst h
            have := lx_len k _ _ l2 hr
            have hpos : 0 < x.2.length := List.length_pos_iff.2 (oneT_prefix _ x ho).1
            have hdl : ((c :: r).drop x.2.length).length = (c :: r).length - x.2.length := List.length_drop
            rw [List.length_cons] at hdl ⊢
            rw [List.length_cons]
            omega
end Go.Proofs.YtbnelajjadhcgaaDoor.G
