import Derived.Test.YtbnelajjadhcgaaDoorNext
namespace Go.Proofs.YtbnelajjadhcgaaDoor.G
open Go.RowKit Go.Proofs.YtbnelajjadhcgaaDoorW.PrintWords Go.Proofs.YtbnelajjadhcgaaDoorW.PrintLast Go.Proofs.YtbnelajjadhcgaaDoorW.PrintMore
set_option linter.unusedVariables false
set_option linter.unusedSimpArgs false

/-! Plain facts: lex.next's answer by the plain lexer. -/
def u8 (n : Int) : UInt8 := UInt8.ofNat n.toNat
theorem isB_iff {c : Int} : isB c = true ↔ 0 ≤ c ∧ c ≤ 255 := by simp [isB]
theorem u8_toNat {c : Int} (h : isB c = true) : ((u8 c).toNat : Int) = c := by
  have := isB_iff.1 h
  unfold u8
  rw [UInt8.toNat_ofNat']
  omega
theorem u8_inj {c d : Int} (hc : isB c = true) (hd : isB d = true) : (u8 c == u8 d) = (c == d) := by
  rw [Bool.eq_iff_iff, beq_iff_eq, beq_iff_eq]
  constructor
  · intro h
    rw [← u8_toNat hc, ← u8_toNat hd, h]
  · intro h; rw [h]
theorem prefix_map : ∀ (s t : List Int), s.all isB = true → t.all isB = true → (s.map u8).isPrefixOf (t.map u8) = s.isPrefixOf t
  | [], t, _, _ => by simp
  | a :: s, [], _, _ => by simp
  | a :: s, b :: t, hs, ht => by
    simp only [List.all_cons, Bool.and_eq_true] at hs ht
    simp only [List.map_cons, List.isPrefixOf]
    rw [u8_inj hs.1 ht.1, prefix_map s t hs.2 ht.2]
theorem prefix_take : ∀ (s t : List Int) (n : Nat), s.length ≤ n → s.isPrefixOf (t.take n) = s.isPrefixOf t
  | [], t, n, _ => by simp
  | a :: s, [], n, _ => by simp
  | a :: s, b :: t, 0, h => by simp at h
  | a :: s, b :: t, n + 1, h => by
    simp only [List.take_succ_cons, List.isPrefixOf]
    rw [prefix_take s t n (by simpa using h)]
theorem all_take {p : Int → Bool} (l : List Int) (n : Nat) (h : l.all p = true) : (l.take n).all p = true := by
  rw [List.all_eq_true] at h ⊢
  exact fun x hx => h x (List.mem_of_mem_take hx)
theorem all_drop {p : Int → Bool} (l : List Int) (n : Nat) (h : l.all p = true) : (l.drop n).all p = true := by
  rw [List.all_eq_true] at h ⊢
  exact fun x hx => h x (List.mem_of_mem_drop hx)
theorem find_congr {α : Type} {p q : α → Bool} : ∀ (l : List α), (∀ x ∈ l, p x = q x) → l.find? p = l.find? q
  | [], _ => rfl
  | a :: l, h => by
    have h1 := h a (by simp)
    have h2 := find_congr l (fun x hx => h x (by simp [hx]))
    rw [List.find?_cons, List.find?_cons, h1, h2]
theorem signs_small : ∀ s ∈ signs, s.length ≤ 2 ∧ s.all isB = true := by decide +kernel
theorem signs_some : ∀ s ∈ signs, s ≠ [] := by decide +kernel
theorem signOf_sgn (t : List Int) (h : t.all isB = true) : signOf ((t.take 2).map fun n => UInt8.ofNat n.toNat) = (sgn t).map strOfNums := by
  unfold signOf signB sgn
  rw [List.find?_map]
  congr 1
  apply find_congr
  intro s hs
  obtain ⟨h2, hb⟩ := signs_small s hs
  show Lib.hasPrefix ((t.take 2).map u8) (strOfNums s).data.toList = _
  rw [strOfNums_data]
  show (s.map u8).isPrefixOf ((t.take 2).map u8) = _
  rw [prefix_map s _ hb (all_take t 2 h), prefix_take s t 2 h2]
theorem strOfNums_toList (l : List Int) : (strOfNums l).toList = l.map u8 := by
  rw [Lib.toList_data]
  rfl

/-- lex.next's answer, by the plain lexer. -/
theorem nextR_none (t : List Int) (hb : t.all isB = true) (h : oneT t = none) : (nextR t).2.2 = false := by
  unfold oneT at h
  unfold nextR
  by_cases hL : isL (t.headD 0) = true
  · rw [if_pos hL] at h ⊢
    cases hw : wordB (t.takeWhile isI) with
    | true => rw [hw] at h; simp at h
    | false => rfl
  · rw [if_neg hL] at h ⊢
    by_cases hD : isD (t.headD 0) = true
    · rw [if_pos hD] at h ⊢
      cases hw : numB (t.takeWhile isD) with
      | true => rw [hw] at h; simp at h
      | false => rfl
    · rw [if_neg hD] at h ⊢
      rw [signOf_sgn t hb]
      cases hs : sgn t with
      | none => simp
      | some s => rw [hs] at h; simp at h
theorem nextR_some (t : List Int) (hb : t.all isB = true) (x : Int × List Int) (h : oneT t = some x) : nextR t = (x.1, strOfNums x.2, true) := by
  unfold oneT at h
  unfold nextR
  by_cases hL : isL (t.headD 0) = true
  · rw [if_pos hL] at h ⊢
    cases hw : wordB (t.takeWhile isI) with
    | true => rw [hw] at h; simp at h; rw [← h]
    | false => rw [hw] at h; simp at h
  · rw [if_neg hL] at h ⊢
    by_cases hD : isD (t.headD 0) = true
    · rw [if_pos hD] at h ⊢
      cases hw : numB (t.takeWhile isD) with
      | true => rw [hw] at h; simp at h; rw [← h]
      | false => rw [hw] at h; simp at h
    · rw [if_neg hD] at h ⊢
      rw [signOf_sgn t hb]
      cases hs : sgn t with
      | none => rw [hs] at h; simp at h
      | some s =>
        rw [hs] at h
        simp at h
        subst h
        have hm : s ∈ signs := List.mem_of_find?_eq_some hs
        have hne := signs_some s hm
        simp only [Option.map_some, Option.getD_some, strOfNums_toList]
        congr 2
        cases s with
        | nil => exact absurd rfl hne
        | cons a b => rfl
/-- A token's text is not empty, and it is a prefix. -/
theorem oneT_prefix (t : List Int) (x : Int × List Int) (h : oneT t = some x) : x.2 ≠ [] ∧ x.2 <+: t := by
  unfold oneT at h
  by_cases hL : isL (t.headD 0) = true
  · rw [if_pos hL] at h
    cases hw : wordB (t.takeWhile isI) with
    | true =>
      rw [hw] at h; simp at h; subst h
      refine ⟨?_, List.takeWhile_prefix _⟩
      intro he
      have he : t.takeWhile isI = [] := he
      rw [he] at hw
      simp [wordB] at hw
    | false => rw [hw] at h; simp at h
  · rw [if_neg hL] at h
    by_cases hD : isD (t.headD 0) = true
    · rw [if_pos hD] at h
      cases hw : numB (t.takeWhile isD) with
      | true =>
        rw [hw] at h; simp at h; subst h
        refine ⟨?_, List.takeWhile_prefix _⟩
        intro he
        have he : t.takeWhile isD = [] := he
        rw [he] at hw
        simp [numB] at hw
      | false => rw [hw] at h; simp at h
    · rw [if_neg hD] at h
      cases hs : sgn t with
      | none => rw [hs] at h; simp at h
      | some s =>
        rw [hs] at h; simp at h; subst h
        exact ⟨signs_some s (List.mem_of_find?_eq_some hs), by have h1 : s.isPrefixOf t = true := List.find?_some (p := fun s : List Int => s.isPrefixOf t) (l := signs) hs; exact List.isPrefixOf_iff_prefix.1 h1⟩
end Go.Proofs.YtbnelajjadhcgaaDoor.G
