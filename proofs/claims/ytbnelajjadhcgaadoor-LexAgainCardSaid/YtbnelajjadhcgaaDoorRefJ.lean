-- The reference's Join is the program's, on a list that is small enough.
import Derived.Test.YtbnelajjadhcgaaDoorGx6
import Derived.Test.YtbnelajjadhcgaaDoorRefT
namespace Go.Proofs.YtbnelajjadhcgaaDoor.G
set_option linter.unusedVariables false
set_option linter.unusedSimpArgs false
open Go.RowKit Go.Proofs.YtbnelajjadhcgaaDoorW.PrintWords Go.Proofs.YtbnelajjadhcgaaDoorW.PrintLast Go.Proofs.YtbnelajjadhcgaaDoorW.PrintMore

theorem few_l0 (l : List Tok) : ∀ (d i k : Nat), i + d = l.length → i ≤ 201 → (∀ j : Nat, j < i → j < l.length → (rd_T34 l (j : Int)).f1.size ≤ 200) → 2 * d + 2 ≤ k →
    ∃ b, chalklineref05_Few.l0 k l (i : Int) = some b ∧ (b = true → l.length ≤ 200 ∧ ∀ j : Nat, j < l.length → (rd_T34 l (j : Int)).f1.size ≤ 200)
  | 0, i, k, hd, hi, hp, hk => by
    obtain ⟨k, rfl⟩ : ∃ m, k = (m + 1) + 1 := ⟨k - 2, by omega⟩
    refine ⟨decide ((l.length : Int) ≤ 200), ?_, fun h => ⟨by have := of_decide_eq_true h; omega, fun j hj => hp j (by omega) hj⟩⟩
    simp only [chalklineref05_Few.l0, chalklineref05_Few.j1]
    rw [if_neg (by omega), if_neg (by decide)]
  | d + 1, i, k, hd, hi, hp, hk => by
    obtain ⟨k, rfl⟩ : ∃ m, k = (m + 1) + 1 := ⟨k - 2, by omega⟩
    simp only [chalklineref05_Few.l0]
    rw [if_pos (by omega)]
    by_cases h2 : i ≤ 200
    · have e1 : wrap64 ((i : Int) + 1) = ((i + 1 : Nat) : Int) := by unfold wrap64; omega
      have j : ∀ b : Bool, b = true → chalklineref05_Few.j1 (k + 1) l (i : Int) b = if ((rd_T34 l (i : Int)).f1.size : Int) > 200 then some false else chalklineref05_Few.l0 k l ((i + 1 : Nat) : Int) := by
        intro b hb
        subst hb
        simp only [chalklineref05_Few.j1]
        rw [if_pos trivial, if_pos (by omega), if_pos (by omega), e1]
      rw [j _ (decide_eq_true (by omega))]
      by_cases h3 : ((rd_T34 l (i : Int)).f1.size : Int) > 200
      · exact ⟨false, if_pos h3, fun h => absurd h (by decide)⟩
      · rw [if_neg h3]
        exact few_l0 l d (i + 1) k (by omega) (by omega) (fun q hq hql => by
          by_cases e : q = i
          · subst e; omega
          · exact hp q (by omega) hql) (by omega)
    · have j : ∀ b : Bool, b = false → chalklineref05_Few.j1 (k + 1) l (i : Int) b = some (decide ((l.length : Int) ≤ 200)) := by
        intro b hb
        subst hb
        simp only [chalklineref05_Few.j1]
        rw [if_neg (by decide)]
      rw [j _ (decide_eq_false (by omega))]
      exact ⟨_, rfl, fun h => by have := of_decide_eq_true h; omega⟩
theorem few_f (l : List Tok) : ∃ k b, chalklineref05_Few.f k l = some b ∧ (b = true → l.length ≤ 200 ∧ ∀ t ∈ l, t.f1.size ≤ 200) := by
  obtain ⟨b, h1, h2⟩ := few_l0 l l.length 0 (2 * l.length + 2) (by omega) (by omega) (fun j h => by omega) (Nat.le_refl _)
  refine ⟨_, b, h1, fun hb => ⟨(h2 hb).1, fun t ht => ?_⟩⟩
  obtain ⟨j, hj, rfl⟩ := List.getElem_of_mem ht
  have := (h2 hb).2 j hj
  simpa [rd_T34, List.getD_eq_getElem?_getD, List.getElem?_eq_getElem hj] using this

/-! Is a token right? The two answers are one. -/
theorem bytesOf_isB (s : ByteArray) : (bytesOf s).all isB = true := by
  rw [List.all_eq_true]
  intro x hx
  unfold bytesOf at hx
  obtain ⟨b, _, rfl⟩ := List.mem_map.1 hx
  rw [isB_iff]
  have := b.toNat_lt
  omega
theorem str_bytesOf (s : ByteArray) : strOfNums (bytesOf s) = s := by
  have h : (strOfNums (bytesOf s)).data = s.data := by
    rw [← Array.toList_inj, strOfNums_data]
    unfold bytesOf
    rw [List.map_map]
    have : ∀ x ∈ s.data.toList, ((fun n : Int => UInt8.ofNat n.toNat) ∘ fun b : UInt8 => (b.toNat : Int)) x = x := fun x _ => by simp
    rw [List.map_congr_left this, List.map_id']
  cases s
  cases hq : strOfNums (bytesOf _)
  rw [hq] at h
  simp only at h
  rw [h]
theorem sgn_self : ∀ s ∈ signs, sgn s = some s := by decide +kernel
theorem toList_eq_iff (s x : ByteArray) : s.toList = x.toList ↔ s = x := by
  constructor
  · intro h
    rw [Lib.toList_data, Lib.toList_data] at h
    cases s; cases x
    simp only at h
    rw [Array.toList_inj.1 h]
  · intro h; rw [h]
theorem signR_str (t : List Int) (h : t.all isB = true) : signR (strOfNums t) = ((sgn t).map strOfNums).getD ⟨#[]⟩ := by
  unfold signR
  rw [bytesOf_str t h, signOf_sgn t h]
theorem right_sign (s : ByteArray) : rightB 3 s = signs.contains (bytesOf s) := by
  obtain ⟨t, ht, rfl⟩ : ∃ t, t.all isB = true ∧ s = strOfNums t := ⟨bytesOf s, bytesOf_isB s, (str_bytesOf s).symm⟩
  rw [bytesOf_str t ht]
  unfold rightB
  rw [if_neg (by decide), if_neg (by decide), if_pos rfl, signR_str t ht]
  rw [Bool.eq_iff_iff, List.contains_iff_mem, Bool.and_eq_true, beq_iff_eq, toList_eq_iff]
  constructor
  · rintro ⟨h1, h2⟩
    cases hs : sgn t with
    | none =>
      rw [hs] at h2
      have : (strOfNums t).toList = [] := by
        rw [← h2]
        show (⟨#[]⟩ : ByteArray).toList = []
        rw [Lib.toList_data]
      rw [this] at h1
      exact absurd h1 (by decide)
    | some x =>
      rw [hs] at h2
      have hm : x ∈ signs := List.mem_of_find?_eq_some hs
      have e : x = t := by
        rw [← bytesOf_str x (signs_small x hm).2, ← bytesOf_str t ht]
        exact congrArg bytesOf h2
      rw [← e]
      exact hm
  · intro hm
    rw [sgn_self t hm]
    refine ⟨?_, rfl⟩
    rw [strOfNums_toList]
    cases t with
    | nil => exact absurd rfl (signs_some [] hm)
    | cons _ _ => rfl
theorem sign_l0 (s : ByteArray) : ∀ (d i k : Nat), i + d = 18 → d + 1 ≤ k → chalklineref05_Sign.l0 k s signsA ((18 : Nat) : Int) (i : Int) = some ((signs.drop i).contains (bytesOf s))
  | 0, i, k, hd, hk => by
    obtain ⟨k, rfl⟩ : ∃ m, k = m + 1 := ⟨k - 1, by omega⟩
    have : i = 18 := by omega
    subst this
    simp only [chalklineref05_Sign.l0]
    rw [if_neg (by omega)]
    rfl
  | d + 1, i, k, hd, hk => by
    obtain ⟨k, rfl⟩ : ∃ m, k = m + 1 := ⟨k - 1, by omega⟩
    have e1 : wrap64 ((i : Int) + 1) = ((i + 1 : Nat) : Int) := by unfold wrap64; omega
    have hl : i < signs.length := by rw [signs_len]; omega
    have ih := sign_l0 s d (i + 1) k (by omega) (by omega)
    have hr : rdOf ByteArray.empty signsA (i : Int) = strOfNums signs[i] := by
      unfold rdOf signsA
      rw [Int.toNat_natCast]
      simp [List.getD_eq_getElem?_getD, hl]
    have hb := (signs_small _ (List.getElem_mem hl)).2
    simp only [chalklineref05_Sign.l0]
    rw [if_pos (by omega), if_pos (by omega), if_pos (by rw [signsA_len]; omega), hr, e1, List.drop_eq_getElem_cons hl]
    by_cases he : bytesOf s = signs[i]
    · have h2 : (strOfNums signs[i]).toList = s.toList := by rw [← he, str_bytesOf]
      rw [if_pos h2, List.contains_cons, he, beq_self_eq_true, Bool.true_or]
    · have h2 : ¬ (strOfNums signs[i]).toList = s.toList := by
        intro h
        apply he
        rw [← (toList_eq_iff _ _).1 h, bytesOf_str _ hb]
      have h3 : (bytesOf s == signs[i]) = false := beq_eq_false_iff_ne.2 he
      rw [if_neg h2, ih, List.contains_cons, h3, Bool.false_or]
theorem Sign_f (s : ByteArray) (k : Nat) (hk : 19 ≤ k) : chalklineref05_Sign.f k s = some (rightB 3 s) := by
  unfold chalklineref05_Sign.f
  rw [Signs_f]
  simp only [Option.bind_some]
  rw [signsA_len, right_sign]
  exact sign_l0 s 18 0 k (by omega) (by omega)
theorem may_f (t : Tok) (hs : t.f1.size ≤ 281474976710656) (k : Nat) (hk : t.f1.size + 20 ≤ k) : chalklineref05_may.f k t.f0 t.f1 t.f2 = some (!badT t) := by
  unfold chalklineref05_may.f badT
  rw [Bool.not_not]
  by_cases h1 : t.f0 = 1
  · rw [if_pos h1, Word_f t.f1 hs k (by omega)]
    unfold rightB
    rw [if_pos h1]
    rfl
  · rw [if_neg h1]
    by_cases h2 : t.f0 = 2
    · rw [if_pos h2, Numeral_f t.f1 hs k (by omega)]
      unfold rightB
      rw [if_neg h1, if_pos h2]
      rfl
    · rw [if_neg h2]
      by_cases h3 : t.f0 = 3
      · rw [if_pos h3, Sign_f t.f1 k (by omega), h3]
        rfl
      · rw [if_neg h3]
        unfold rightB
        rw [if_neg h1, if_neg h2, if_neg h3]

/-! The join, built from the left. -/
theorem interc_snoc (sep x : List UInt8) : ∀ (l : List (List UInt8)), l ≠ [] → sep.intercalate (l ++ [x]) = sep.intercalate l ++ sep ++ x
  | [], h => absurd rfl h
  | [a], _ => by simp [List.intercalate]
  | a :: b :: r, _ => by
    have ih := interc_snoc sep x (b :: r) (by simp)
    have e1 : sep.intercalate ((a :: b :: r) ++ [x]) = a ++ sep ++ sep.intercalate ((b :: r) ++ [x]) := by
      simp [List.intercalate, List.intersperse]
    have e2 : sep.intercalate (a :: b :: r) = a ++ sep ++ sep.intercalate (b :: r) := by
      simp [List.intercalate, List.intersperse]
    rw [e1, ih, e2]
    simp only [List.append_assoc]
def joinI (l : List Tok) : List Int := (joinU l).map fun b => (b.toNat : Int)
theorem joinI_nil : joinI [] = [] := rfl
theorem joinI_snoc (l : List Tok) (x : Tok) : joinI (l ++ [x]) = if l = [] then bytesOf x.f1 else joinI l ++ [32] ++ bytesOf x.f1 := by
  by_cases h : l = []
  · rw [if_pos h, h]
    unfold joinI joinU textsOf bytesOf Lib.join
    simp [List.intercalate]
  · rw [if_neg h]
    unfold joinI joinU textsOf Lib.join
    rw [List.map_append, List.map_append]
    have := interc_snoc [32] x.f1.data.toList ((l.map (·.f1)).map (·.data.toList)) (by simpa using h)
    rw [show List.map (fun x => x.data.toList) (List.map (fun x => x.f1) [x]) = [x.f1.data.toList] from rfl, this]
    simp only [List.map_append]
    rfl
theorem take_snoc' (y : List Tok) (i : Nat) (h : i < y.length) : y.take (i + 1) = y.take i ++ [rd_T34 y (i : Int)] := by
  rw [List.take_succ_eq_append_getElem h]
  congr 2
  simp [rd_T34, List.getD_eq_getElem?_getD, List.getElem?_eq_getElem h]
theorem joinI_len (y : List Tok) (hs : ∀ t ∈ y, t.f1.size ≤ 200) : ∀ i : Nat, i ≤ y.length → (joinI (y.take i)).length ≤ i * 201
  | 0, _ => by simp [joinI_nil]
  | i + 1, h => by
    have ih := joinI_len y hs i (by omega)
    have hl : i < y.length := by omega
    have hm : (rd_T34 y (i : Int)).f1.size ≤ 200 := by
      refine hs _ ?_
      simp [rd_T34, List.getD_eq_getElem?_getD, List.getElem?_eq_getElem hl]
    rw [take_snoc' y i hl, joinI_snoc]
    by_cases h0 : y.take i = []
    · rw [if_pos h0, bytesOf_length]; omega
    · rw [if_neg h0, List.length_append, List.length_append, bytesOf_length, List.length_singleton]; omega
theorem refJoin_l1 (y : List Tok) (hn : y.length ≤ 200) (hs : ∀ t ∈ y, t.f1.size ≤ 200) : ∀ (d i k : Nat), i + d = y.length → d + 1 ≤ k →
    chalklineref05_Join.l1 k (joinI (y.take i)) y (y.length : Int) (i : Int) = some (if 16384 < (joinI y).length then ([], 2) else (joinI y, 0))
  | 0, i, k, hd, hk => by
    obtain ⟨k, rfl⟩ : ∃ m, k = m + 1 := ⟨k - 1, by omega⟩
    simp only [chalklineref05_Join.l1]
    rw [if_neg (by omega), List.take_of_length_le (by omega)]
    by_cases h : (joinI y).length > 16384
    · rw [if_pos (by omega), if_pos h]
    · rw [if_neg (by omega), if_neg h]
  | d + 1, i, k, hd, hk => by
    obtain ⟨k, rfl⟩ : ∃ m, k = m + 1 := ⟨k - 1, by omega⟩
    have e1 : wrap64 ((i : Int) + 1) = ((i + 1 : Nat) : Int) := by unfold wrap64; omega
    have hl : i < y.length := by omega
    have ih := refJoin_l1 y hn hs d (i + 1) k (by omega) (by omega)
    have hle := joinI_len y hs i (by omega)
    have hm : (rd_T34 y (i : Int)).f1.size ≤ 200 := by
      refine hs _ ?_
      simp [rd_T34, List.getD_eq_getElem?_getD, List.getElem?_eq_getElem hl]
    rw [take_snoc' y i hl, joinI_snoc] at ih
    simp only [chalklineref05_Join.l1]
    rw [if_pos (by omega), if_pos (by omega), if_pos (by omega), e1]
    have c2 : (joinI (y.take i)).length < 140737488355328 := by omega
    by_cases h0 : i = 0
    · have ht : y.take i = [] := by rw [h0]; rfl
      have c3 : (joinI (y.take i)).length + (rd_T34 y (i : Int)).f1.size < 140737488355328 := by omega
      rw [if_neg (show ¬ (i : Int) > 0 by omega), if_pos c3]
      rw [ht, if_pos rfl] at ih
      rw [ht, joinI_nil, List.nil_append]
      exact ih
    · have hne : y.take i ≠ [] := by
        intro e
        have := congrArg List.length e
        rw [List.length_take, List.length_nil] at this
        omega
      rw [if_neg hne] at ih
      rw [if_pos (show (i : Int) > 0 by omega), if_pos c2]
      simp only [Option.bind_some]
      have c3 : (joinI (y.take i) ++ [32]).length + (rd_T34 y (i : Int)).f1.size < 140737488355328 := by rw [List.length_append, List.length_singleton]; omega
      rw [if_pos c3]
      exact ih
theorem refJoin_l0 (l0 y : List Tok) (n : Nat) (hl : l0.length = n + 1) (hy : y = l0.take n) (hn : y.length ≤ 200) (hs : ∀ t ∈ y, t.f1.size ≤ 200) : ∀ (d i k : Nat), i + d = y.length → d + 2 * y.length + 300 ≤ k →
    chalklineref05_Join.l0 k l0 y (y.length : Int) (i : Int) = some (if (y.drop i).any badT = true then ([], 1) else if 16384 < (joinI y).length then ([], 2) else (joinI y, 0))
  | 0, i, k, hd, hk => by
    obtain ⟨k, rfl⟩ : ∃ m, k = m + 1 := ⟨k - 1, by omega⟩
    have e2 : wrap64 ((l0.length : Int) - 1) = (n : Int) := by
      have : n ≤ 200 := by rw [hy, List.length_take, hl] at hn; omega
      unfold wrap64; omega
    have := refJoin_l1 y hn hs y.length 0 k (by omega) (by omega)
    simp only [chalklineref05_Join.l0]
    rw [if_neg (by omega), e2, if_pos (by omega), if_pos (by omega), Int.toNat_natCast, ← hy]
    simp only [Option.bind_some]
    rw [List.drop_of_length_le (by omega), if_neg (by decide)]
    exact this
  | d + 1, i, k, hd, hk => by
    obtain ⟨k, rfl⟩ : ∃ m, k = m + 1 := ⟨k - 1, by omega⟩
    have e1 : wrap64 ((i : Int) + 1) = ((i + 1 : Nat) : Int) := by unfold wrap64; omega
    have hli : i < y.length := by omega
    have ih := refJoin_l0 l0 y n hl hy hn hs d (i + 1) k (by omega) (by omega)
    have hm : (rd_T34 y (i : Int)).f1.size ≤ 200 := by
      refine hs _ ?_
      simp [rd_T34, List.getD_eq_getElem?_getD, List.getElem?_eq_getElem hli]
    have hdr : y.drop i = rd_T34 y (i : Int) :: y.drop (i + 1) := by
      rw [List.drop_eq_getElem_cons hli]
      simp [rd_T34, List.getD_eq_getElem?_getD, List.getElem?_eq_getElem hli]
    simp only [chalklineref05_Join.l0]
    rw [if_pos (by omega), if_pos (by omega), if_pos (by omega), may_f _ (by omega) k (by omega), e1, hdr, List.any_cons]
    simp only [Option.bind_some]
    cases hb : badT (rd_T34 y (i : Int)) with
    | true => simp
    | false => rw [Bool.false_or, ← ih]; simp
theorem refJoin_f (l : List Tok) (hn : l.length ≤ 200) (hs : ∀ t ∈ l, t.f1.size ≤ 200) : ∃ r, lex_Join.f l = some r ∧ chalklineref05_Join.f 1000 l = some r := by
  by_cases h0 : l.length = 0
  · refine ⟨([], 1), ?_, ?_⟩
    · unfold lex_Join.f
      rw [if_pos h0]
    · unfold chalklineref05_Join.f
      rw [if_pos (by omega)]
      rfl
  · obtain ⟨n, hl⟩ : ∃ n, l.length = n + 1 := ⟨l.length - 1, by omega⟩
    have hy : (l.take n).length = n := by rw [List.length_take]; omega
    have hsy : ∀ t ∈ l.take n, t.f1.size ≤ 200 := fun t ht => hs t (List.mem_of_mem_take ht)
    have hjl := joinI_len (l.take n) hsy n (by omega)
    rw [List.take_of_length_le (by omega)] at hjl
    have hju : (joinU (l.take n)).length = (joinI (l.take n)).length := by unfold joinI; rw [List.length_map]
    have e2 : wrap64 ((l.length : Int) - 1) = (n : Int) := by unfold wrap64; omega
    refine ⟨joinR l n, ?_, ?_⟩
    · unfold lex_Join.f
      rw [if_neg h0, if_pos ⟨List.all_eq_true.2 fun t ht => decide_eq_true (by have := hs t ht; omega), by rw [hl, Nat.add_sub_cancel]; omega, by omega⟩, hl, Nat.add_sub_cancel]
    · unfold chalklineref05_Join.f joinR
      rw [if_neg (by omega), e2, if_pos (by omega), if_pos (by omega)]
      have jt : chalklineref05_Join.j0 1000 l true = some ([], 1) := by
        rw [show 1000 = 999 + 1 from rfl]
        simp only [chalklineref05_Join.j0]
        rfl
      by_cases h4 : (rd_T34 l (n : Int)).f0 = 4
      · rw [if_pos h4]
        by_cases h5 : (rd_T34 l (n : Int)).f1.toList = []
        · have hb : ((rd_T34 l (n : Int)).f1.toList != ([] : List UInt8)) = false := bne_eq_false_iff_eq.2 h5
          rw [hb, show 1000 = 999 + 1 from rfl]
          simp only [chalklineref05_Join.j0]
          have hm := refJoin_l0 l (l.take n) n hl rfl (by omega) hsy (l.take n).length 0 999 (by omega) (by omega)
          rw [List.drop_zero] at hm
          rw [if_neg (by decide), e2, if_pos (by omega), if_pos (by omega), Int.toNat_natCast]
          simp only [Option.bind_some]
          refine hm.trans ?_
          congr 1
          by_cases hb : (l.take n).any badT = true
          · rw [if_pos hb, if_pos (.inr (.inr hb))]
          · have hc : ¬ ((rd_T34 l (n : Int)).f0 ≠ 4 ∨ (rd_T34 l (n : Int)).f1.toList ≠ [] ∨ (l.take n).any badT = true) := by
              rintro (h | h | h)
              · exact h h4
              · exact h h5
              · exact hb h
            rw [if_neg hb, if_neg hc, hju]
            rfl
        · have hb : ((rd_T34 l (n : Int)).f1.toList != ([] : List UInt8)) = true := bne_iff_ne.2 h5
          rw [hb, jt, if_pos (.inr (.inl h5))]
      · rw [if_neg h4, jt, if_pos (.inl h4)]
end Go.Proofs.YtbnelajjadhcgaaDoor.G
