-- White space and a remark around a source do not change the kinds and texts of its tokens.
import Derived.Test.YtbnelajjadhcgaaDoorLxr
namespace Go.Proofs.YtbnelajjadhcgaaDoor.G
set_option linter.unusedVariables false
set_option linter.unusedSimpArgs false
open Go.RowKit Go.Proofs.YtbnelajjadhcgaaDoorW.PrintWords Go.Proofs.YtbnelajjadhcgaaDoorW.PrintLast Go.Proofs.YtbnelajjadhcgaaDoorW.PrintMore

/-- What does not tell offsets. -/
def view : Except Int (List Tok) → Option (List (Int × ByteArray))
  | .ok l => some (l.map fun t => (t.f0, t.f1))
  | .error _ => none
theorem lx_white (k : Nat) : ∀ (p t : List Int) (a : Int), p.all isW = true → lx (k + p.length) (p ++ t) a = lx k t (a + p.length)
  | [], t, a, _ => by simp
  | c :: r, t, a, h => by
    simp only [List.all_cons, Bool.and_eq_true] at h
    rw [List.length_cons, show k + (r.length + 1) = (k + r.length) + 1 from rfl, List.cons_append, lx, if_pos h.1, lx_white k r t (a + 1) h.2]
    congr 1
    omega
/-- What may stand behind a source: no newline, its head a tab or a remark's sign, and nothing but white space. -/
structure TailW (s : List Int) : Prop where
  nl : s.all (· != 10) = true
  hd : ∃ c r, s = c :: r ∧ (c = 9 ∨ c = 35)
  lx : ∀ k a, s.length < k → ∃ e, lx k s a = .ok [⟨4, ⟨#[]⟩, e⟩]
theorem takeW_tail (p : Int → Bool) {s : List Int} (hs : TailW s) (h9 : p 9 = false) (h35 : p 35 = false) : ∀ t : List Int, (t ++ s).takeWhile p = t.takeWhile p
  | [] => by
    obtain ⟨c, r, rfl, hc⟩ := hs.hd
    have : p c = false := by rcases hc with h | h <;> rw [h] <;> assumption
    rw [List.nil_append, List.takeWhile_cons_of_neg (by rw [this]; decide)]
    rfl
  | c :: r => by
    cases h : p c with
    | true => rw [List.cons_append, List.takeWhile_cons_of_pos h, List.takeWhile_cons_of_pos h, takeW_tail p hs h9 h35 r]
    | false => rw [List.cons_append, List.takeWhile_cons_of_neg (by rw [h]; decide), List.takeWhile_cons_of_neg (by rw [h]; decide)]
theorem head_app2 (s r : List Int) (hs : s ≠ []) : (s ++ r).headD 0 = s.headD 0 := by
  cases s with
  | nil => exact absurd rfl hs
  | cons _ _ => rfl
theorem signs_tail : ∀ s ∈ signs, ∀ c, c = 9 ∨ c = 35 → s.length = 2 → (s.getD 1 0 == c) = false := by
  have h9 : ∀ s ∈ signs, s.length = 2 → (s.getD 1 0 == 9) = false := by decide +kernel
  have h35 : ∀ s ∈ signs, s.length = 2 → (s.getD 1 0 == 35) = false := by decide +kernel
  intro s hs c hc hl
  rcases hc with h | h <;> subst h
  · exact h9 s hs hl
  · exact h35 s hs hl
theorem sgn_tail {s : List Int} (hs : TailW s) (t : List Int) (ht : t ≠ []) : sgn (t ++ s) = sgn t := by
  unfold sgn
  refine find_congr signs fun x hx => ?_
  obtain ⟨h2, _⟩ := signs_small x hx
  have hne := signs_some x hx
  obtain ⟨c, r, hsr, hc⟩ := hs.hd
  match t, ht with
  | [d], _ =>
    match x, hne, h2 with
    | [y], _, _ => simp [List.isPrefixOf]
    | [y, z], _, _ =>
      have hz : (z == c) = false := signs_tail [y, z] hx c hc rfl
      rw [hsr]
      simp [List.isPrefixOf, hz]
  | d :: e :: q, _ =>
    match x, hne, h2 with
    | [y], _, _ => simp [List.isPrefixOf]
    | [y, z], _, _ => simp [List.isPrefixOf]
theorem oneT_tail {s : List Int} (hs : TailW s) (t : List Int) (ht : t ≠ []) : oneT (t ++ s) = oneT t := by
  unfold oneT
  rw [head_app2 t s ht, takeW_tail isI hs (by decide) (by decide) t, takeW_tail isD hs (by decide) (by decide) t, sgn_tail hs t ht]
theorem dropW_pos (c : Int) (r : List Int) (h : (c != 10) = true) : (c :: r).dropWhile (· != 10) = r.dropWhile (· != 10) := by
  simp only [List.dropWhile_cons, h, if_true]
theorem dropW_neg (c : Int) (r : List Int) (h : (c != 10) = false) : (c :: r).dropWhile (· != 10) = c :: r := by
  simp only [List.dropWhile_cons, h, Bool.false_eq_true, if_false]
theorem dropW_tail {s : List Int} (hs : s.all (· != 10) = true) : ∀ t : List Int, (t ++ s).dropWhile (· != 10) = t.dropWhile (· != 10) ++ s ∨ ((t ++ s).dropWhile (· != 10) = [] ∧ t.dropWhile (· != 10) = [])
  | [] => by
    right
    refine ⟨?_, rfl⟩
    rw [List.nil_append]
    induction s with
    | nil => rfl
    | cons c r ih =>
      simp only [List.all_cons, Bool.and_eq_true] at hs
      rw [dropW_pos c r hs.1]
      exact ih hs.2
  | c :: r => by
    cases h : (c != 10) with
    | true => rw [List.cons_append, dropW_pos _ _ h, dropW_pos _ _ h]; exact dropW_tail hs r
    | false => left; rw [List.cons_append, dropW_neg _ _ h, dropW_neg _ _ h]; rfl
/-- A tail of white space behind a source. s = []: offsets and rounds alone. -/
theorem lx_tail (s : List Int) (hs : s = [] ∨ TailW s) : ∀ (n : Nat) (t : List Int) (k k2 : Nat) (a a2 : Int), t.length ≤ n → (t ++ s).length < k → t.length < k2 → view (lx k (t ++ s) a) = view (lx k2 t a2) := by
  intro n
  induction n with
  | zero =>
    intro t k k2 a a2 hn hk hk2
    have : t = [] := List.eq_nil_of_length_eq_zero (by omega)
    subst this
    obtain ⟨k, rfl⟩ : ∃ m, k = m + 1 := ⟨k - 1, by omega⟩
    obtain ⟨k2, rfl⟩ : ∃ m, k2 = m + 1 := ⟨k2 - 1, by omega⟩
    rcases hs with rfl | hs
    · rfl
    · obtain ⟨e, he⟩ := hs.lx (k + 1) a hk
      rw [List.nil_append, he]
      rfl
  | succ n ih =>
    intro t k k2 a a2 hn hk hk2
    match t with
    | [] => exact ih [] k k2 a a2 (by simp) hk hk2
    | c :: r =>
      obtain ⟨k, rfl⟩ : ∃ m, k = m + 1 := ⟨k - 1, by omega⟩
      obtain ⟨k2, rfl⟩ : ∃ m, k2 = m + 1 := ⟨k2 - 1, by omega⟩
      rw [List.length_cons] at hn hk2
      rw [List.length_append, List.length_cons] at hk
      rw [List.cons_append, lx, lx]
      by_cases hw : isW c = true
      · rw [if_pos hw, if_pos hw]
        exact ih r k k2 _ _ (by omega) (by rw [List.length_append]; omega) (by omega)
      · rw [if_neg hw, if_neg hw]
        by_cases hc : (c == 35) = true
        · rw [if_pos hc, if_pos hc, ← List.cons_append]
          have hc0 : c = 35 := by simpa using hc
          have hdl : ((c :: r).dropWhile (· != 10)).length ≤ r.length := by
            rw [hc0, dropW_pos _ _ (by decide)]
            exact (List.dropWhile_sublist _).length_le
          have hall : s.all (· != 10) = true := by
            rcases hs with rfl | hs
            · rfl
            · exact hs.nl
          rcases dropW_tail hall (c :: r) with h | ⟨h1, h2⟩
          · rw [h]
            exact ih _ k k2 _ _ (by omega) (by rw [List.length_append]; omega) (by omega)
          · rw [h1, h2]
            obtain ⟨k, rfl⟩ : ∃ m, k = m + 1 := ⟨k - 1, by omega⟩
            obtain ⟨k2, rfl⟩ : ∃ m, k2 = m + 1 := ⟨k2 - 1, by rcases Nat.eq_zero_or_pos k2 with h | h; exact absurd hk2 (by omega); omega⟩
            rfl
        · rw [if_neg hc, if_neg hc, ← List.cons_append]
          have ho : oneT ((c :: r) ++ s) = oneT (c :: r) := by
            rcases hs with rfl | hs
            · rw [List.append_nil]
            · exact oneT_tail hs _ (by simp)
          rw [ho]
          cases hone : oneT (c :: r) with
          | none => rfl
          | some x =>
            simp only
            obtain ⟨hne, hpre⟩ := oneT_prefix _ x hone
            have hpos : 0 < x.2.length := List.length_pos_iff.2 hne
            have hle := hpre.length_le
            rw [List.length_cons] at hle
            have hdr : ((c :: r) ++ s).drop x.2.length = (c :: r).drop x.2.length ++ s := List.drop_append_of_le_length (by rw [List.length_cons]; omega)
            have hdl : ((c :: r).drop x.2.length).length = (c :: r).length - x.2.length := List.length_drop
            rw [List.length_cons] at hdl
            rw [hdr]
            have h := ih ((c :: r).drop x.2.length) k k2 (a + x.2.length) (a2 + x.2.length) (by omega) (by rw [List.length_append]; omega) (by omega)
            generalize lx k ((c :: r).drop x.2.length ++ s) (a + x.2.length) = r1 at h ⊢
            generalize lx k2 ((c :: r).drop x.2.length) (a2 + x.2.length) = r2 at h ⊢
            cases r1 with
            | error e =>
              cases r2 with
              | error e2 => rfl
              | ok l => simp [view] at h
            | ok l =>
              cases r2 with
              | error e2 => simp [view] at h
              | ok l2 =>
                have h : l.map (fun t => (t.f0, t.f1)) = l2.map (fun t => (t.f0, t.f1)) := Option.some.inj h
                simp [view, h]

/-! The law's own source. -/
def cN (b : List Int) : Nat → List Int
  | 0 => b
  | n + 1 => [32, 9, 10] ++ (cN b n ++ [9, 32])
def preN : Nat → List Int
  | 0 => []
  | n + 1 => [32, 9, 10] ++ preN n
def sufN : Nat → List Int
  | 0 => []
  | n + 1 => sufN n ++ [9, 32]
theorem cN_eq (b : List Int) : ∀ n, cN b n = preN n ++ (b ++ sufN n)
  | 0 => by simp [cN, preN, sufN]
  | n + 1 => by rw [cN, cN_eq b n, preN, sufN]; simp only [List.append_assoc]
theorem preN_white : ∀ n, (preN n).all isW = true
  | 0 => rfl
  | n + 1 => by rw [preN, List.all_append, preN_white n]; rfl
theorem preN_len : ∀ n, (preN n).length = 3 * n
  | 0 => rfl
  | n + 1 => by rw [preN, List.length_append, preN_len n]; simp; omega
theorem sufN_len : ∀ n, (sufN n).length = 2 * n
  | 0 => rfl
  | n + 1 => by rw [sufN, List.length_append, sufN_len n]; simp; omega
theorem sufN_white : ∀ n, (sufN n).all isW = true
  | 0 => rfl
  | n + 1 => by rw [sufN, List.all_append, sufN_white n]; rfl
theorem sufN_nl : ∀ n, (sufN n).all (· != 10) = true
  | 0 => rfl
  | n + 1 => by rw [sufN, List.all_append, sufN_nl n]; rfl
theorem sufN_head : ∀ n, sufN (n + 1) = 9 :: (sufN (n + 1)).tail
  | 0 => rfl
  | n + 1 => by
    have := sufN_head n
    rw [sufN, this]
    rfl
theorem all_bytes (b : List Int) (hb : b.all isB = true) : ∀ n, (cN b n).all isB = true
  | 0 => hb
  | n + 1 => by rw [cN, List.all_append, List.all_append, all_bytes b hb n]; rfl
theorem cN_len (b : List Int) (n : Nat) : (cN b n).length = b.length + 5 * n := by rw [cN_eq, List.length_append, List.length_append, preN_len, sufN_len]; omega
theorem tailW_of (n : Nat) (q : List Int) (hq : q.all (· != 10) = true) : TailW (sufN n ++ 35 :: q) := by
  have hnl : (sufN n ++ 35 :: q).all (· != 10) = true := by rw [List.all_append, sufN_nl, List.all_cons, hq]; rfl
  refine ⟨hnl, ?_, fun k a hk => ?_⟩
  · cases n with
    | zero => exact ⟨35, q, rfl, .inr rfl⟩
    | succ n => rw [sufN_head n]; exact ⟨9, _, rfl, .inl rfl⟩
  · rw [List.length_append, List.length_cons] at hk
    obtain ⟨k, rfl⟩ : ∃ m, k = (m + 2) + (sufN n).length := ⟨k - 2 - (sufN n).length, by omega⟩
    have hd : (35 :: q).dropWhile (· != 10) = [] := by
      have h1 : ∀ l : List Int, l.all (· != 10) = true → l.dropWhile (· != 10) = [] := by
        intro l
        induction l with
        | nil => intro _; rfl
        | cons c r ih => intro h; simp only [List.all_cons, Bool.and_eq_true] at h; rw [dropW_pos c r h.1]; exact ih h.2
      exact h1 _ (by rw [List.all_cons, hq]; rfl)
    rw [lx_white (k + 2) (sufN n) (35 :: q) a (sufN_white n), lx, if_neg (by decide), if_pos (by decide), hd, lx]
    exact ⟨_, rfl⟩
/-- The law. -/
theorem remarks_view (b q : List Int) (n : Nat) (hq : q.all (· != 10) = true) : view (lx ((cN b n ++ 35 :: q).length + 1) (cN b n ++ 35 :: q) 0) = view (lx (b.length + 1) b 0) := by
  have e : cN b n ++ 35 :: q = preN n ++ (b ++ (sufN n ++ 35 :: q)) := by rw [cN_eq]; simp only [List.append_assoc]
  rw [e]
  have hl : (preN n ++ (b ++ (sufN n ++ 35 :: q))).length + 1 = ((b ++ (sufN n ++ 35 :: q)).length + 1) + (preN n).length := by rw [List.length_append]; omega
  rw [hl, lx_white _ (preN n) _ 0 (preN_white n)]
  exact lx_tail _ (.inr (tailW_of n q hq)) b.length b _ _ _ _ (Nat.le_refl _) (by omega) (by omega)
theorem view_alike (l m : List Tok) (h : l.map (fun t => (t.f0, t.f1)) = m.map (fun t => (t.f0, t.f1))) : l.length = m.length ∧ ∀ i : Nat, i < l.length → (rd_T34 l (i : Int)).f0 = (rd_T34 m (i : Int)).f0 ∧ (rd_T34 l (i : Int)).f1 = (rd_T34 m (i : Int)).f1 := by
  have hl : l.length = m.length := by simpa using congrArg List.length h
  refine ⟨hl, fun i hi => ?_⟩
  have h2 := congrArg (fun x => x[i]?) h
  simp only [List.getElem?_map] at h2
  rw [List.getElem?_eq_getElem hi, List.getElem?_eq_getElem (by omega)] at h2
  simp only [Option.map_some, Option.some.injEq, Prod.mk.injEq] at h2
  have e1 : rd_T34 l (i : Int) = l[i] := by simp [rd_T34, List.getD_eq_getElem?_getD, List.getElem?_eq_getElem hi]
  have e2 : rd_T34 m (i : Int) = m[i]'(by omega) := by simp [rd_T34, List.getD_eq_getElem?_getD, List.getElem?_eq_getElem (show i < m.length by omega)]
  rw [e1, e2]
  exact h2
end Go.Proofs.YtbnelajjadhcgaaDoor.G
