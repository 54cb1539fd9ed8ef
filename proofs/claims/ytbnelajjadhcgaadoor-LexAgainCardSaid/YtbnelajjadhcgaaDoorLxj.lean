-- Tokens joined and scanned again: the same kinds and texts.
import Derived.Test.YtbnelajjadhcgaaDoorRefJ
import Derived.Test.YtbnelajjadhcgaaDoorLxr
namespace Go.Proofs.YtbnelajjadhcgaaDoor.G
set_option linter.unusedVariables false
set_option linter.unusedSimpArgs false
open Go.RowKit Go.Proofs.YtbnelajjadhcgaaDoorW.PrintWords Go.Proofs.YtbnelajjadhcgaaDoorW.PrintLast Go.Proofs.YtbnelajjadhcgaaDoorW.PrintMore

/-- A token by its kind and text. -/
def tokOf (x : Int × List Int) : Prop := x.2.all isB = true ∧ ((x.1 = 1 ∧ wordB x.2 = true) ∨ (x.1 = 2 ∧ numB x.2 = true) ∨ (x.1 = 3 ∧ x.2 ∈ signs))
theorem oneT_tok (t : List Int) (hB : t.all isB = true) (x : Int × List Int) (h : oneT t = some x) : tokOf x := by
  unfold oneT at h
  by_cases h1 : isL (t.headD 0) = true
  · rw [if_pos h1] at h
    split at h
    · rename_i hw
      cases h
      exact ⟨takeW_all _ _ _ hB, .inl ⟨rfl, hw⟩⟩
    · exact absurd h (by simp)
  · rw [if_neg h1] at h
    by_cases h2 : isD (t.headD 0) = true
    · rw [if_pos h2] at h
      split at h
      · rename_i hw
        cases h
        exact ⟨takeW_all _ _ _ hB, .inr (.inl ⟨rfl, hw⟩)⟩
      · exact absurd h (by simp)
    · rw [if_neg h2] at h
      obtain ⟨s, hs, rfl⟩ := Option.map_eq_some_iff.1 h
      have hm : s ∈ signs := List.mem_of_find?_eq_some hs
      exact ⟨(signs_small s hm).2, .inr (.inr ⟨rfl, hm⟩)⟩

/-- The list of tokens l has the kinds and texts xs, and its end token behind. -/
def shape : List Tok → List (Int × List Int) → Prop
  | [], _ => False
  | [t], xs => xs = [] ∧ t.f0 = 4 ∧ t.f1 = ⟨#[]⟩
  | _ :: _ :: _, [] => False
  | t :: u :: r, x :: xs => t.f0 = x.1 ∧ t.f1 = strOfNums x.2 ∧ tokOf x ∧ shape (u :: r) xs
theorem shape_cons {t : Tok} {l : List Tok} {x : Int × List Int} {xs : List (Int × List Int)} (h0 : t.f0 = x.1) (h1 : t.f1 = strOfNums x.2) (h2 : tokOf x) (h : shape l xs) : shape (t :: l) (x :: xs) := by
  cases l with
  | nil => exact h.elim
  | cons u r => exact ⟨h0, h1, h2, h⟩
theorem lx_shape : ∀ (k : Nat) (t : List Int) (a : Int) (l : List Tok), t.all isB = true → lx k t a = .ok l → ∃ xs, shape l xs
  | 0, _, _, _, _, h => by simp [lx] at h
  | k + 1, [], a, l, _, h => by
    simp only [lx, Except.ok.injEq] at h
    subst h
    exact ⟨[], rfl, rfl, rfl⟩
  | k + 1, c :: r, a, l, hB, h => by
    simp only [lx] at h
    by_cases hw : isW c = true
    · rw [if_pos hw] at h
      simp only [List.all_cons, Bool.and_eq_true] at hB
      exact lx_shape k _ _ l hB.2 h
    · rw [if_neg hw] at h
      by_cases hc : (c == 35) = true
      · rw [if_pos hc] at h
        refine lx_shape k _ _ l ?_ h
        rw [List.all_eq_true] at hB ⊢
        exact fun x hx => hB x ((List.dropWhile_sublist _).subset hx)
      · rw [if_neg hc] at h
        cases ho : oneT (c :: r) with
        | none => rw [ho] at h; exact absurd h (by simp)
        | some x =>
          rw [ho] at h
          simp only at h
          cases hr : lx k ((c :: r).drop x.2.length) (a + x.2.length) with
          | error e => rw [hr] at h; exact absurd h (by simp)
          | ok l2 =>
            rw [hr] at h
            simp only [Except.ok.injEq] at h
            subst h
            obtain ⟨xs, hs⟩ := lx_shape k _ _ l2 (all_drop _ _ hB) hr
            exact ⟨x :: xs, shape_cons rfl rfl (oneT_tok _ hB x ho) hs⟩

/-- The texts, joined by spaces. -/
def joinC : List (Int × List Int) → List Int
  | [] => []
  | [x] => x.2
  | x :: y :: r => x.2 ++ 32 :: joinC (y :: r)
theorem shape_len : ∀ (l : List Tok) (xs : List (Int × List Int)), shape l xs → l.length = xs.length + 1
  | [], _, h => h.elim
  | [t], xs, h => by rw [h.1]; rfl
  | _ :: _ :: _, [], h => h.elim
  | t :: u :: r, x :: xs, h => by rw [List.length_cons, shape_len (u :: r) xs h.2.2.2, List.length_cons]
theorem shape_join : ∀ (l : List Tok) (xs : List (Int × List Int)), shape l xs → joinI (l.take xs.length) = joinC xs
  | [], _, h => h.elim
  | [t], xs, h => by rw [h.1]; rfl
  | _ :: _ :: _, [], h => h.elim
  | [t, u], x :: xs, h => by
    obtain ⟨h0, h1, h2, h3⟩ := h
    rw [h3.1]
    show joinI [t] = x.2
    rw [show [t] = [] ++ [t] from rfl, joinI_snoc, if_pos rfl, h1, bytesOf_str _ h2.1]
  | t :: u :: v :: r, x :: [], h => h.2.2.2.elim
  | t :: u :: v :: r, x :: y :: xs, h => by
    obtain ⟨h0, h1, h2, h3⟩ := h
    have ih := shape_join (u :: v :: r) (y :: xs) h3
    show joinI (t :: u :: (v :: r).take xs.length) = x.2 ++ 32 :: joinC (y :: xs)
    rw [← ih]
    have hb : bytesOf t.f1 = x.2 := by rw [h1, bytesOf_str _ h2.1]
    rw [← hb]
    unfold joinI joinU textsOf Lib.join bytesOf
    simp [List.intercalate, List.intersperse]
theorem shape_bad : ∀ (l : List Tok) (xs : List (Int × List Int)), shape l xs → (l.take xs.length).any badT = false ∧ (rd_T34 l (xs.length : Int)).f0 = 4 ∧ (rd_T34 l (xs.length : Int)).f1 = ⟨#[]⟩
  | [], _, h => h.elim
  | [t], xs, h => by
    obtain ⟨rfl, h4, h5⟩ := h
    exact ⟨rfl, h4, h5⟩
  | _ :: _ :: _, [], h => h.elim
  | t :: u :: r, x :: xs, h => by
    obtain ⟨h0, h1, h2, h3⟩ := h
    obtain ⟨i1, i2, i3⟩ := shape_bad (u :: r) xs h3
    refine ⟨?_, i2, i3⟩
    rw [List.length_cons, List.take_succ_cons, List.any_cons, i1, Bool.or_false]
    unfold badT
    rw [h0, h1]
    rcases h2 with ⟨hB, ⟨e, hw⟩ | ⟨e, hw⟩ | ⟨e, hw⟩⟩
    · rw [e]; unfold rightB; rw [if_pos rfl, bytesOf_str _ hB, hw]; rfl
    · rw [e]; unfold rightB; rw [if_neg (by decide), if_pos rfl, bytesOf_str _ hB, hw]; rfl
    · rw [e, right_sign, bytesOf_str _ hB, List.contains_iff_mem.2 hw]; rfl
/-- lex.Join of such a list. -/
theorem shape_joinR (l : List Tok) (xs : List (Int × List Int)) (h : shape l xs) (hn : l.length ≤ 20000) (hs : ∀ t ∈ l, t.f1.size ≤ 20000) : lex_Join.f l = some (if 16384 < (joinC xs).length then ([], 2) else (joinC xs, 0)) := by
  obtain ⟨b1, b2, b3⟩ := shape_bad l xs h
  have hl := shape_len l xs h
  have hj := shape_join l xs h
  have hju : (joinU (l.take xs.length)).length = (joinI (l.take xs.length)).length := by unfold joinI; rw [List.length_map]
  have hlen : ∀ (y : List Tok), (∀ t ∈ y, t.f1.size ≤ 20000) → ∀ i : Nat, i ≤ y.length → (joinI (y.take i)).length ≤ i * 20001 := by
    intro y hs i
    induction i with
    | zero => intro _; simp [joinI_nil]
    | succ i ih =>
      intro hi
      have ih := ih (by omega)
      have hli : i < y.length := by omega
      have hm : (rd_T34 y (i : Int)).f1.size ≤ 20000 := by
        refine hs _ ?_
        simp [rd_T34, List.getD_eq_getElem?_getD, List.getElem?_eq_getElem hli]
      rw [take_snoc' y i hli, joinI_snoc]
      by_cases h0 : y.take i = []
      · rw [if_pos h0, bytesOf_length]; omega
      · rw [if_neg h0, List.length_append, List.length_append, bytesOf_length, List.length_singleton]; omega
  have hb := hlen l hs xs.length (by omega)
  unfold lex_Join.f
  rw [if_neg (by omega), hl, Nat.add_sub_cancel, if_pos ⟨List.all_eq_true.2 fun t ht => decide_eq_true (by have := hs t ht; omega), by rw [hju]; omega, by omega⟩]
  unfold joinR
  have hc : ¬ ((rd_T34 l (xs.length : Int)).f0 ≠ 4 ∨ (rd_T34 l (xs.length : Int)).f1.toList ≠ [] ∨ (l.take xs.length).any badT = true) := by
    rintro (h | h | h)
    · exact h b2
    · apply h
      rw [b3, Lib.toList_data]
    · rw [b1] at h; exact absurd h (by decide)
  rw [if_neg hc, hju, hj, ← hj]
  rfl

theorem sgn_end (s : List Int) (h : s ∈ signs) (r : List Int) (hr : r = [] ∨ r.headD 0 = 32) : sgn (s ++ r) = some s := by
  have h2 : r = [] ∨ ∃ q, r = 32 :: q := by
    rcases hr with h | h
    · exact .inl h
    · cases r with
      | nil => exact .inl rfl
      | cons c q => right; exact ⟨q, by simpa using h⟩
  rcases h2 with rfl | ⟨q, rfl⟩
  · rw [List.append_nil]; exact sgn_self s h
  · simp only [signs, List.mem_cons, List.not_mem_nil, or_false] at h
    rcases h with h | h | h | h | h | h | h | h | h | h | h | h | h | h | h | h | h | h <;> subst h <;> rfl
theorem takeW_end (p : Int → Bool) (hp : p 32 = false) (s r : List Int) (hs : s.all p = true) (hr : r = [] ∨ r.headD 0 = 32) : (s ++ r).takeWhile p = s := by
  rw [List.takeWhile_append_of_pos (fun x hx => List.all_eq_true.1 hs x hx)]
  have : r.takeWhile p = [] := by
    cases r with
    | nil => rfl
    | cons c q =>
      have : c = 32 := by rcases hr with h | h <;> simp at h; exact h
      subst this
      rw [List.takeWhile_cons_of_neg (by rw [hp]; decide)]
  rw [this, List.append_nil]
theorem head_app (s r : List Int) (hs : s ≠ []) : (s ++ r).headD 0 = s.headD 0 := by
  cases s with
  | nil => exact absurd rfl hs
  | cons _ _ => rfl
theorem signs_head : ∀ s ∈ signs, isL (s.headD 0) = false ∧ isD (s.headD 0) = false ∧ isW (s.headD 0) = false ∧ (s.headD 0 == 35) = false := by decide +kernel
theorem word_parts {t : List Int} (h : wordB t = true) : t ≠ [] ∧ isL (t.headD 0) = true ∧ t.all isI = true := by
  unfold wordB at h
  simp only [Bool.and_eq_true, Bool.not_eq_true'] at h
  exact ⟨by intro e; rw [e] at h; exact absurd h.1 (by decide), h.2.1, h.2.2.1⟩
theorem num_parts {t : List Int} (h : numB t = true) : t ≠ [] ∧ t.all isD = true ∧ isD (t.headD 0) = true := by
  unfold numB at h
  simp only [Bool.and_eq_true, Bool.not_eq_true'] at h
  have hne : t ≠ [] := by intro e; rw [e] at h; exact absurd h.1 (by decide)
  refine ⟨hne, h.2.1, ?_⟩
  cases t with
  | nil => exact absurd rfl hne
  | cons c r => have := h.2.1; simp only [List.all_cons, Bool.and_eq_true] at this; exact this.1
theorem LD {c : Int} (h : isD c = true) : isL c = false := by
  unfold isD at h; unfold isL
  simp only [Bool.and_eq_true, decide_eq_true_eq] at h
  rw [decide_eq_false (by omega), Bool.false_and]
theorem LW {c : Int} (h : isL c = true) : isW c = false ∧ (c == 35) = false := by
  unfold isL at h
  simp only [Bool.and_eq_true, decide_eq_true_eq] at h
  unfold isW
  refine ⟨?_, beq_eq_false_iff_ne.2 (by omega)⟩
  rw [beq_eq_false_iff_ne.2 (show c ≠ 32 by omega), beq_eq_false_iff_ne.2 (show c ≠ 9 by omega), beq_eq_false_iff_ne.2 (show c ≠ 10 by omega)]
  rfl
theorem DW {c : Int} (h : isD c = true) : isW c = false ∧ (c == 35) = false := by
  unfold isD at h
  simp only [Bool.and_eq_true, decide_eq_true_eq] at h
  unfold isW
  refine ⟨?_, beq_eq_false_iff_ne.2 (by omega)⟩
  rw [beq_eq_false_iff_ne.2 (show c ≠ 32 by omega), beq_eq_false_iff_ne.2 (show c ≠ 9 by omega), beq_eq_false_iff_ne.2 (show c ≠ 10 by omega)]
  rfl
/-- A token at the head of what follows a space or nothing. -/
theorem oneT_app (x : Int × List Int) (hx : tokOf x) (r : List Int) (hr : r = [] ∨ r.headD 0 = 32) : x.2 ≠ [] ∧ oneT (x.2 ++ r) = some x ∧ isW (x.2.headD 0) = false ∧ (x.2.headD 0 == 35) = false := by
  obtain ⟨x1, s⟩ := x
  obtain ⟨hB, h⟩ := hx
  simp only at hB h ⊢
  rcases h with ⟨rfl, hw⟩ | ⟨rfl, hw⟩ | ⟨rfl, hm⟩
  · obtain ⟨hne, hL, hI⟩ := word_parts hw
    refine ⟨hne, ?_, LW hL⟩
    unfold oneT
    rw [head_app s r hne, if_pos hL, takeW_end isI (by decide) s r hI hr, if_pos hw]
  · obtain ⟨hne, hI, hD⟩ := num_parts hw
    refine ⟨hne, ?_, DW hD⟩
    unfold oneT
    rw [head_app s r hne, if_neg (by rw [LD hD]; decide), if_pos hD, takeW_end isD (by decide) s r hI hr, if_pos hw]
  · have hne := signs_some s hm
    obtain ⟨a1, a2, a3, a4⟩ := signs_head s hm
    refine ⟨hne, ?_, a3, a4⟩
    unfold oneT
    rw [head_app s r hne, if_neg (by rw [a1]; decide), if_neg (by rw [a2]; decide), sgn_end s hm r hr]
    rfl
theorem lx_tok (k : Nat) (x : Int × List Int) (hx : tokOf x) (r : List Int) (hr : r = [] ∨ r.headD 0 = 32) (a : Int) : lx (k + 1) (x.2 ++ r) a = match lx k r (a + x.2.length) with
    | .error e => .error e
    | .ok l => .ok (⟨x.1, strOfNums x.2, a⟩ :: l) := by
  obtain ⟨hne, h1, h2, h3⟩ := oneT_app x hx r hr
  obtain ⟨x1, s⟩ := x
  cases s with
  | nil => exact absurd rfl hne
  | cons c q =>
    simp only [List.cons_append] at h1 ⊢
    have h2 : isW c = false := h2
    have h3 : (c == 35) = false := h3
    rw [lx, if_neg (by rw [h2]; decide), if_neg (by rw [h3]; decide), h1]
    simp only
    have : (c :: (q ++ r)).drop (c :: q).length = r := by rw [List.length_cons, List.drop_succ_cons, List.drop_left]
    rw [this]
    cases lx k r (a + ((c :: q).length : Int)) <;> rfl
theorem lx_joinC : ∀ (xs : List (Int × List Int)) (k : Nat) (a : Int), (∀ x ∈ xs, tokOf x) → (joinC xs).length < k → ∃ m, lx k (joinC xs) a = .ok m ∧ shape m xs
  | [], k, a, _, hk => by
    obtain ⟨k, rfl⟩ : ∃ m, k = m + 1 := ⟨k - 1, by omega⟩
    exact ⟨_, rfl, rfl, rfl, rfl⟩
  | [x], k, a, hx, hk => by
    obtain ⟨k, rfl⟩ : ∃ m, k = m + 1 := ⟨k - 1, by omega⟩
    have hx0 := hx x (List.mem_cons_self ..)
    have hne := (oneT_app x hx0 [] (.inl rfl)).1
    have h := lx_tok k x hx0 [] (.inl rfl) a
    rw [List.append_nil] at h
    have hpos : 0 < x.2.length := List.length_pos_iff.2 hne
    have hk2 : x.2.length < k + 1 := hk
    obtain ⟨k, rfl⟩ : ∃ m, k = m + 1 := ⟨k - 1, by omega⟩
    refine ⟨_, h, ?_⟩
    exact ⟨rfl, rfl, hx0, rfl, rfl, rfl⟩
  | x :: y :: r, k, a, hx, hk => by
    obtain ⟨k, rfl⟩ : ∃ m, k = m + 1 := ⟨k - 1, by omega⟩
    have hx0 := hx x (List.mem_cons_self ..)
    have hne := (oneT_app x hx0 [] (.inl rfl)).1
    have hpos : 0 < x.2.length := List.length_pos_iff.2 hne
    have hk2 : (x.2 ++ 32 :: joinC (y :: r)).length < k + 1 := hk
    rw [List.length_append, List.length_cons] at hk2
    obtain ⟨k, rfl⟩ : ∃ m, k = m + 1 := ⟨k - 1, by omega⟩
    obtain ⟨m, hm, hs⟩ := lx_joinC (y :: r) k (a + x.2.length + 1) (fun z hz => hx z (List.mem_cons_of_mem _ hz)) (by omega)
    have h := lx_tok (k + 1) x hx0 (32 :: joinC (y :: r)) (.inr rfl) a
    have h32 : lx (k + 1) (32 :: joinC (y :: r)) (a + x.2.length) = lx k (joinC (y :: r)) (a + x.2.length + 1) := by rw [lx, if_pos (by decide)]
    rw [h32, hm] at h
    exact ⟨_, h, shape_cons rfl rfl hx0 hs⟩
theorem shape_toks : ∀ (l : List Tok) (xs : List (Int × List Int)), shape l xs → ∀ x ∈ xs, tokOf x
  | [], _, h => h.elim
  | [t], xs, h => by rw [h.1]; intro x hx; cases hx
  | _ :: _ :: _, [], h => h.elim
  | t :: u :: r, x :: xs, h => by
    intro y hy
    rcases List.mem_cons.1 hy with e | e
    · rw [e]; exact h.2.2.1
    · exact shape_toks (u :: r) xs h.2.2.2 y e
theorem shape_at : ∀ (l : List Tok) (xs : List (Int × List Int)) (i : Nat), shape l xs → i < l.length → (rd_T34 l (i : Int)).f0 = ((xs.getD i (4, [])).1) ∧ (rd_T34 l (i : Int)).f1 = strOfNums ((xs.getD i (4, [])).2)
  | [], _, _, h, _ => h.elim
  | [t], xs, i, h, hi => by
    have : i = 0 := by simpa using hi
    subst this
    obtain ⟨rfl, h4, h5⟩ := h
    exact ⟨h4, h5⟩
  | _ :: _ :: _, [], _, h, _ => h.elim
  | t :: u :: r, x :: xs, 0, h, _ => ⟨h.1, h.2.1⟩
  | t :: u :: r, x :: xs, i + 1, h, hi => shape_at (u :: r) xs i h.2.2.2 (by simpa using hi)
theorem shape_size (l : List Tok) (xs : List (Int × List Int)) (h : shape l xs) (B : Nat) (hB : ∀ x ∈ xs, x.2.length ≤ B) : ∀ t ∈ l, t.f1.size ≤ B := by
  intro t ht
  obtain ⟨i, hi, rfl⟩ := List.getElem_of_mem ht
  have := (shape_at l xs i h hi).2
  have e : rd_T34 l (i : Int) = l[i] := by simp [rd_T34, List.getD_eq_getElem?_getD, List.getElem?_eq_getElem hi]
  rw [e] at this
  rw [this, strOfNums_size]
  by_cases hx : i < xs.length
  · rw [List.getD_eq_getElem?_getD, List.getElem?_eq_getElem hx]
    exact hB _ (List.getElem_mem hx)
  · rw [List.getD_eq_getElem?_getD, List.getElem?_eq_none (by omega)]
    exact Nat.zero_le _
theorem joinC_part : ∀ (xs : List (Int × List Int)), ∀ x ∈ xs, x.2.length ≤ (joinC xs).length
  | [], x, h => by cases h
  | [y], x, h => by
    rw [List.mem_singleton] at h
    rw [h]
    exact Nat.le_refl _
  | y :: z :: r, x, h => by
    show _ ≤ (y.2 ++ 32 :: joinC (z :: r)).length
    rw [List.length_append, List.length_cons]
    rcases List.mem_cons.1 h with e | e
    · rw [e]; omega
    · have := joinC_part (z :: r) x e; omega
theorem joinC_bytes : ∀ (xs : List (Int × List Int)), (∀ x ∈ xs, tokOf x) → (joinC xs).all isB = true
  | [], _ => rfl
  | [x], h => (h x (List.mem_cons_self ..)).1
  | x :: y :: r, h => by
    show (x.2 ++ 32 :: joinC (y :: r)).all isB = true
    rw [List.all_append, (h x (List.mem_cons_self ..)).1, List.all_cons, joinC_bytes (y :: r) (fun z hz => h z (List.mem_cons_of_mem _ hz))]
    rfl
end Go.Proofs.YtbnelajjadhcgaaDoor.G
