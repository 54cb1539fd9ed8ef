-- Where the tokens of a source stand: the pieces between them are white space.
import Derived.Test.YtbnelajjadhcgaaDoorLxr
namespace Go.Proofs.YtbnelajjadhcgaaDoor.G
set_option linter.unusedVariables false
set_option linter.unusedSimpArgs false
open Go.RowKit Go.Proofs.YtbnelajjadhcgaaDoorW.PrintWords Go.Proofs.YtbnelajjadhcgaaDoorW.PrintLast Go.Proofs.YtbnelajjadhcgaaDoorW.PrintMore

/-- White space, as the law reads it; rem: in a remark. -/
def noth : Bool → List Int → Bool
  | _, [] => true
  | rem, c :: r => (if c = 10 then true else (rem || c == 35) || isW c) && noth (if c = 10 then false else (rem || c == 35)) r
/-- The list of tokens l of the source t, which begins at place a. -/
def good : List Tok → List Int → Int → Prop
  | [], _, _ => False
  | h :: r, t, a => ∃ g s u : List Int, t = g ++ (s ++ u) ∧ noth false g = true ∧ h.f2 = a + g.length ∧ h.f1 = strOfNums s ∧ (r = [] → s = [] ∧ u = []) ∧ (r ≠ [] → good r u (a + g.length + s.length))

theorem noth_rem : ∀ (p g : List Int), p.all (· != 10) = true → noth true (p ++ g) = noth true g
  | [], g, _ => rfl
  | c :: r, g, h => by
    simp only [List.all_cons, Bool.and_eq_true, bne_iff_ne] at h
    rw [List.cons_append, noth, if_neg h.1, if_neg h.1, Bool.true_or, Bool.true_or, Bool.true_and]
    exact noth_rem r g h.2
theorem noth_new (g : List Int) (h : g = [] ∨ g.headD 0 = 10) : noth true g = noth false g := by
  cases g with
  | nil => rfl
  | cons c r =>
    have : c = 10 := by rcases h with h | h <;> simp at h; exact h
    subst this
    rfl
theorem noth_white (c : Int) (g : List Int) (h : isW c = true) (hg : noth false g = true) : noth false (c :: g) = true := by
  have h35 : (c == 35) = false := by
    cases e : (c == 35) with
    | false => rfl
    | true => rw [beq_iff_eq] at e; subst e; exact absurd h (by decide)
  rw [noth, h, h35]
  by_cases h10 : c = 10
  · rw [if_pos h10, if_pos h10, Bool.true_and]; exact hg
  · rw [if_neg h10, if_neg h10]; exact hg
theorem takeWhile_all' (p : Int → Bool) : ∀ l : List Int, (l.takeWhile p).all p = true
  | [] => rfl
  | c :: r => by
    cases h : p c with
    | true => rw [List.takeWhile_cons_of_pos h, List.all_cons, h, Bool.true_and]; exact takeWhile_all' p r
    | false => rw [List.takeWhile_cons_of_neg (by rw [h]; decide)]; rfl
theorem dropWhile_head (p : Int → Bool) : ∀ l : List Int, l.dropWhile p = [] ∨ p ((l.dropWhile p).headD 0) = false
  | [] => .inl rfl
  | c :: r => by
    cases h : p c with
    | true => rw [List.dropWhile_cons_of_pos h]; exact dropWhile_head p r
    | false => rw [List.dropWhile_cons_of_neg (by rw [h]; decide)]; exact .inr h

theorem good_pre {l : List Tok} {t p : List Int} {a : Int} (h : good l t a) (hp : ∀ g u, t = g ++ u → noth false g = true → noth false (p ++ g) = true) (hne : True) : ∀ a0, a = a0 + p.length → good l (p ++ t) a0 := by
  intro a0 ha
  cases l with
  | nil => exact h.elim
  | cons x r =>
    obtain ⟨g, s, u, h1, h2, h3, h4, h5, h6⟩ := h
    have e : a0 + ((p ++ g).length : Int) = a + g.length := by rw [List.length_append]; omega
    refine ⟨p ++ g, s, u, by rw [h1, List.append_assoc], hp g _ h1 h2, by rw [e]; exact h3, h4, h5, fun hr => ?_⟩
    rw [e]
    exact h6 hr

theorem lx_good : ∀ (k : Nat) (t : List Int) (a : Int) (l : List Tok), lx k t a = .ok l → good l t a
  | 0, _, _, _, h => by simp [lx] at h
  | k + 1, [], a, l, h => by
    simp only [lx, Except.ok.injEq] at h
    subst h
    exact ⟨[], [], [], rfl, rfl, by simp, rfl, fun _ => ⟨rfl, rfl⟩, fun h => absurd rfl h⟩
  | k + 1, c :: r, a, l, h => by
    simp only [lx] at h
    by_cases hw : isW c = true
    · rw [if_pos hw] at h
      have ih := lx_good k r (a + 1) l h
      exact good_pre (p := [c]) ih (fun g u _ hg => noth_white c g hw hg) trivial a (by simp)
    · rw [if_neg hw] at h
      by_cases hc : (c == 35) = true
      · rw [if_pos hc] at h
        have ih := lx_good k _ _ l h
        have e : (c :: r).takeWhile (· != 10) ++ (c :: r).dropWhile (· != 10) = c :: r := List.takeWhile_append_dropWhile
        rw [← e]
        refine good_pre ih (fun g u hg hn => ?_) trivial a rfl
        have hc : c = 35 := by simpa using hc
        subst hc
        rw [List.takeWhile_cons_of_pos (by decide), List.cons_append]
        show noth true (r.takeWhile (· != 10) ++ g) = true
        rw [noth_rem _ _ (takeWhile_all' _ r), noth_new g, hn]
        cases g with
        | nil => exact .inl rfl
        | cons x y =>
          right
          rcases dropWhile_head (· != 10) (35 :: r) with hd | hd
          · rw [hd] at hg; cases hg
          · rw [hg] at hd
            simpa using hd
      · rw [if_neg hc] at h
        cases ho : oneT (c :: r) with
        | none => rw [ho] at h; exact absurd h (by simp)
        | some x =>
          rw [ho] at h
          simp only at h
          cases hr : lx k ((c :: r).drop x.2.length) (a + x.2.length) with
          | error e => rw [hr] at h; exact absurd h (by simp)
          | ok l2 =>
            rw [hr] at h
            simp only [Except.ok.injEq] at h
            subst h
            obtain ⟨hne, hpre⟩ := oneT_prefix _ x ho
            obtain ⟨u, hu⟩ := hpre
            have hd : (c :: r).drop x.2.length = u := by rw [← hu]; exact List.drop_left
            rw [hd] at hr
            have ih := lx_good k _ _ l2 hr
            refine ⟨[], x.2, u, hu.symm, rfl, by simp, rfl, fun e => ?_, fun _ => by simpa using ih⟩
            subst e
            exact ih.elim
/-- Where there is no token: a place in the source. -/
theorem lx_err : ∀ (k : Nat) (t : List Int) (a e : Int), t.length < k → lx k t a = .error e → a ≤ e ∧ e < a + t.length
  | 0, t, _, _, hk, _ => by omega
  | k + 1, [], a, e, _, h => by simp [lx] at h
  | k + 1, c :: r, a, e, hk, h => by
    simp only [lx] at h
    rw [List.length_cons] at hk ⊢
    by_cases hw : isW c = true
    · rw [if_pos hw] at h
      have := lx_err k r (a + 1) e (by omega) h
      omega
    · rw [if_neg hw] at h
      by_cases hc : (c == 35) = true
      · rw [if_pos hc] at h
        have el : ((c :: r).takeWhile (· != 10)).length + ((c :: r).dropWhile (· != 10)).length = (c :: r).length := by
          rw [← List.length_append, List.takeWhile_append_dropWhile]
        have hc : c = 35 := by simpa using hc
        have hp : 0 < ((c :: r).takeWhile (· != 10)).length := by
          rw [List.takeWhile_cons_of_pos (by rw [hc]; rfl)]; simp
        rw [List.length_cons] at el
        have := lx_err k _ _ e (by omega) h
        omega
      · rw [if_neg hc] at h
        cases ho : oneT (c :: r) with
        | none =>
          rw [ho] at h
          simp only [Except.error.injEq] at h
          omega
        | some x =>
          rw [ho] at h
          simp only at h
          obtain ⟨hne, hpre⟩ := oneT_prefix _ x ho
          have hpos : 0 < x.2.length := List.length_pos_iff.2 hne
          have hle := hpre.length_le
          have hdl : ((c :: r).drop x.2.length).length = (c :: r).length - x.2.length := List.length_drop
          rw [List.length_cons] at hdl hle
          cases hr : lx k ((c :: r).drop x.2.length) (a + x.2.length) with
          | ok l => rw [hr] at h; exact absurd h (by simp)
          | error e2 =>
            rw [hr] at h
            simp only [Except.error.injEq] at h
            subst h
            have := lx_err k _ _ e2 (by omega) hr
            omega
/-- What the law's loop knows at token i: e is the end of the token before. -/
def PlAt (l : List Tok) (x0 : List Int) (i e : Nat) : Prop := e ≤ x0.length ∧ (i = l.length → e = x0.length) ∧ (i < l.length → good (l.drop i) (x0.drop e) (e : Int))
theorem drop_rd (l : List Tok) (i : Nat) (h : i < l.length) : l.drop i = rd_T34 l (i : Int) :: l.drop (i + 1) := by
  rw [List.drop_eq_getElem_cons h]
  simp [rd_T34, List.getD_eq_getElem?_getD, List.getElem?_eq_getElem h]
theorem PlAt.step {l : List Tok} {x0 : List Int} {i e : Nat} (h : PlAt l x0 i e) (hi : i < l.length) :
    ∃ (kd : Int) (g s : List Int), rd_T34 l (i : Int) = ⟨kd, strOfNums s, ((e + g.length : Nat) : Int)⟩ ∧ (x0.take (e + g.length + s.length)).drop (e + g.length) = s ∧ (x0.take (e + g.length)).drop e = g ∧
      noth false g = true ∧ e + g.length + s.length ≤ x0.length ∧ PlAt l x0 (i + 1) (e + g.length + s.length) := by
  obtain ⟨he, _, hg⟩ := h
  have hg := hg hi
  rw [drop_rd l i hi] at hg
  obtain ⟨g, s, u, h1, h2, h3, h4, h5, h6⟩ := hg
  have hlen := congrArg List.length h1
  rw [List.length_drop, List.length_append, List.length_append] at hlen
  have this : x0 = x0.take e ++ (g ++ (s ++ u)) := by rw [← h1, List.take_append_drop]
  have hte : (x0.take e).length = e := by rw [List.length_take]; omega
  refine ⟨(rd_T34 l (i : Int)).f0, g, s, ?_, ?_, ?_, h2, by omega, by omega, fun hz => ?_, fun hz => ?_⟩
  · generalize rd_T34 l (i : Int) = y at h3 h4
    obtain ⟨y0, y1, y2⟩ := y
    simp only at h3 h4
    subst h3 h4
    rw [Int.natCast_add]
  · rw [this, ← List.append_assoc, ← List.append_assoc]
    rw [List.take_append_of_le_length (by simp only [List.length_append, hte]; omega)]
    rw [List.take_of_length_le (by simp only [List.length_append, hte]; omega)]
    rw [List.drop_append_of_le_length (by simp only [List.length_append, hte]; omega)]
    rw [List.drop_of_length_le (by simp only [List.length_append, hte]; omega), List.nil_append]
  · rw [this, ← List.append_assoc]
    rw [List.take_append_of_le_length (by simp only [List.length_append, hte]; omega)]
    rw [List.take_of_length_le (by simp only [List.length_append, hte]; omega)]
    rw [List.drop_append_of_le_length (by simp only [List.length_append, hte]; omega)]
    rw [List.drop_of_length_le (by simp only [List.length_append, hte]; omega), List.nil_append]
  · have hr : l.drop (i + 1) = [] := List.drop_of_length_le (by omega)
    obtain ⟨q1, q2⟩ := h5 hr
    rw [q1, q2] at hlen
    rw [q1]
    simp at hlen ⊢
    omega
  · have hr : l.drop (i + 1) ≠ [] := by
      intro hr
      have := congrArg List.length hr
      rw [List.length_drop] at this
      simp at this
      omega
    have h7 := h6 hr
    have hu : x0.drop (e + g.length + s.length) = u := by
      have h7 : x0.drop (e + g.length + s.length) = (x0.drop e).drop (g.length + s.length) := by rw [List.drop_drop, Nat.add_assoc]
      rw [h7, h1, ← List.append_assoc, List.drop_append_of_le_length (by simp), List.drop_of_length_le (by simp), List.nil_append]
    rw [hu]
    have he2 : ((e + g.length + s.length : Nat) : Int) = (e : Int) + g.length + s.length := by omega
    rw [he2]
    exact h7
end Go.Proofs.YtbnelajjadhcgaaDoor.G
