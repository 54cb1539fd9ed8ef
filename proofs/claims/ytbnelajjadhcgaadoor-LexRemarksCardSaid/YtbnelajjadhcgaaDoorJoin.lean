import Derived.Test.YtbnelajjadhcgaaDoorHas
namespace Go.Proofs.YtbnelajjadhcgaaDoor.G
open Go.Shelf Go.RowKit Go.Proofs.YtbnelajjadhcgaaDoorW.PrintWords Go.Proofs.YtbnelajjadhcgaaDoorW.PrintLast Go.Proofs.YtbnelajjadhcgaaDoorW.PrintMore
set_option linter.unusedVariables false
set_option linter.unusedSimpArgs false

def textsOf (l : List Tok) : List ByteArray := l.map (·.f1)
/-- What strings.Join makes of the texts. -/
def joinU (l : List Tok) : List UInt8 := Lib.join ((textsOf l).map (·.data.toList)) [32]
def joinR (l0 : List Tok) (n : Nat) : List Int × Int :=
  if (rd_T34 l0 n).f0 ≠ 4 ∨ (rd_T34 l0 n).f1.toList ≠ [] ∨ (l0.take n).any badT = true then ([], 1)
  else if 16384 < (joinU (l0.take n)).length then ([], 2)
  else ((joinU (l0.take n)).map fun b => (b.toNat : Int), 0)

def JoinPost (r : List Int × Int) (w : World) (e : Ending) (w' : World) : Prop :=
  ∃ v0 : Value, e = .returned (.tuple #[v0, .int .i64 r.2]) ∧ Kd.V (Kd.int .u8) 5 w' w.heap.size (fun _ => True) v0 r.1 ∧ Below w.heap.size w w'
theorem JoinPost.mk {r : List Int × Int} {w w' : World} {v0 : Value} (h1 : Kd.V (Kd.int .u8) 5 w' w.heap.size (fun _ => True) v0 r.1) (h2 : Below w.heap.size w w') : JoinPost r w (.returned (.tuple #[v0, .int .i64 r.2])) w' := ⟨v0, rfl, h1, h2⟩
theorem V_bytes (w0 W : World) (s : ByteArray) (hs : s.size ≤ 9223372036854775807) : Kd.V (Kd.int .u8) 5 (Lib.bytesWorld W 5 s) w0.heap.size (fun _ => True) (.slice (some ⟨W.heap.size, 0, none⟩) s.size (grownCap W s.size 0 5)) (bytesOf s) := by
  refine ⟨some ⟨W.heap.size, 0, none⟩, grownCap W s.size 0 5, by rw [bytesOf_length], by rw [bytesOf_length]; exact grownCap_ge _ _ _ _, ?_⟩
  exact Kd.F_mono (Kd.C_F (Kd.heap_int .u8) (bytes_C W s hs)) (fun _ _ => trivial)

/-- The call of strings.Join, on a row of the call's own. -/
theorem join_calls (xs : List ByteArray) (v : Value) (base : Nat) (hL : (Lib.join (xs.map (·.data.toList)) [32]).length ≤ 140737488355328) (hN : xs.length ≤ 140737488355328) (w : World) (h : Kd.R Kd.string 9 w base (fun _ => True) v xs) :
    Calls Tryd.prog 25 #[v, .string ⟨#[32]⟩] w fun e w' => e = .returned (.string ⟨(Lib.join (xs.map (·.data.toList)) [32]).toArray⟩) ∧ Below w.heap.size w w' := by
  cases xs with
  | nil =>
    obtain ⟨A, c, rfl⟩ := Kd.R_slice h
    exact (Tryd.strings_Join_none A c ⟨#[32]⟩ w).mono fun e w' ⟨he, hw⟩ => ⟨he, hw ▸ Below.refl _ _⟩
  | cons x r =>
    obtain ⟨inner, ho⟩ := Kd.R_own h
    obtain ⟨_, c2, hv, hle, hC⟩ := Kd.R_reads h
    obtain ⟨g, cap, hvg, hg1, hg2⟩ := ho.form (by simp)
    rw [hvg] at hv
    injection hv with e1 e2 e3
    rw [hvg]
    subst e3
    rw [← e1] at hC
    refine Tryd.strings_Join g 0 cap (x :: r) ⟨#[32]⟩ w (fun j y hj => ?_) hg2 hN hle hL
    have hjl : j < (x :: r).length := (List.getElem?_eq_some_iff.1 hj).1
    obtain ⟨ad, ea, hx⟩ := Kd.at_string hC (j : Int) (by omega) (by omega)
    injection ea with ea
    subst ea
    rw [Int.toNat_natCast] at hx
    have hy : rdOf ByteArray.empty (x :: r) (j : Int) = y := by
      simp only [rdOf, Int.toNat_natCast, List.getD_eq_getElem?_getD, hj, Option.getD_some]
    rw [hy] at hx
    rw [add_plain] at hx
    simpa using hx

theorem joinR_bad {l0 : List Tok} {n : Nat} (h : (rd_T34 l0 n).f0 ≠ 4 ∨ (rd_T34 l0 n).f1.toList ≠ [] ∨ (l0.take n).any badT = true) : joinR l0 n = ([], 1) := if_pos h
theorem joinR_good {l0 : List Tok} {n : Nat} (h1 : (rd_T34 l0 n).f0 = 4) (h2 : (rd_T34 l0 n).f1.toList = []) (h3 : (l0.take n).any badT = false) :
    joinR l0 n = if 16384 < (joinU (l0.take n)).length then ([], 2) else ((joinU (l0.take n)).map fun b => (b.toNat : Int), 0) := by
  unfold joinR
  rw [if_neg (by rw [h3]; simp [h1, h2])]

theorem take_next (l0 : List Tok) (n i : Nat) (h : i < n) (h2 : n ≤ l0.length) : (textsOf (l0.take n)).take (i + 1) = (textsOf (l0.take n)).take i ++ [(rd_T34 (l0.take n) (i : Int)).f1] := by
  have hl : i < (l0.take n).length := by rw [List.length_take]; omega
  have hl2 : i < (textsOf (l0.take n)).length := by rw [textsOf, List.length_map]; exact hl
  rw [List.take_succ_eq_append_getElem hl2]
  congr 2
  show (textsOf (l0.take n))[i] = ((l0.take n).getD _ _).f1
  rw [Int.toNat_natCast, List.getD_eq_getElem?_getD, List.getElem?_eq_getElem hl]
  simp [textsOf]

theorem size_ofList (l : List UInt8) : (⟨l.toArray⟩ : ByteArray).size = l.length := rfl
theorem bytesOf_ofList (l : List UInt8) : bytesOf (⟨l.toArray⟩ : ByteArray) = l.map fun b => (b.toNat : Int) := rfl
theorem len_ok (i : Nat) (l : List ByteArray) (n : Nat) (h : i ≤ n) (hn : n ≤ 4398046511104) : ((l.take i).length + 1) * 16 ≤ 140737488355328 := by
  have := List.length_take_le i l
  omega

set_option maxHeartbeats 8000000 in
set_option maxRecDepth 100000 in
theorem lexJoin_calls (A0 : Option Addr) (c0 n : Nat) (l0 : List Tok) (hn : l0.length = n + 1) (hS : ∀ t ∈ l0, t.f1.size ≤ 281474976710656) (hL : (joinU (l0.take n)).length ≤ 140737488355328) (hN : n ≤ 4398046511104) (w : World) (hG : Laid w) (hr0 : Kd.C k34 w A0 (n + 1) l0) (hc0 : n + 1 ≤ c0) :
    Calls Tryd.prog 14 #[.slice A0 (n + 1) c0] w (JoinPost (joinR l0 n) w) := by
  have hcap : ¬ ((c0 : Int) < (n : Int)) := by omega
  have hns : ((n : Int) < 0) = False := eq_false (by omega)
  obtain ⟨ad, e, h0, h1, h2⟩ := at_T34 hr0 (n : Int) (by omega) (by omega)
  cases e
  rw [Int.toNat_natCast] at h0 h1 h2
  have HR := Lib.hid hr0
  have HS := Lib.hid hS
  have HL := Lib.hid hL
  have HG := Lib.hid hG
  have HN := Lib.hid hn
  have hrt : Kd.C k34 w (some ad) (l0.take n).length (l0.take n) := Kd.C_take (by rw [hn]; exact hr0) (by omega)
  have hlt : (l0.take n).length = n := by rw [List.length_take]; omega
  rw [hlt] at hrt
  have HRT := Lib.hid hrt
  have HLT := Lib.hid hlt
  clear hr0 hS hL hG hn hrt hlt h2
  have HJB := Lib.hid (@joinR_bad l0 n)
  have HJG := Lib.hid (@joinR_good l0 n)
  generalize rd_T34 l0 (n : Int) = last at h0 h1 HJB HJG
  by_cases k1 : last.f0 = 4
  case neg =>
    have HE := Lib.hid (HJB.out (.inl k1))
    have z1 : (last.f0 == 4) = false := beq_eq_false_iff_ne.2 k1
    have z2 : (last.f0 != 4) = true := bne_iff_ne.2 k1
    clear k1
    rw [HE.out]
    go_enter Tryd.func14, Tryd.ntmps14
    go_wp2
    go_ret2
    exact JoinPost.mk (r := ([], 1)) (Kd.V_nil _ _ _ _ _) (Below.refl _ _)
  by_cases k2 : last.f1.toList = []
  case neg =>
    have HE := Lib.hid (HJB.out (.inr (.inl k2)))
    have z1 : (last.f0 == 4) = true := beq_iff_eq.2 k1
    have z2 : (last.f0 != 4) = false := bne_eq_false_iff_eq.2 k1
    have z3 : last.f1.toList.isEmpty = false := by simpa using k2
    clear k1
    rw [HE.out]
    go_enter Tryd.func14, Tryd.ntmps14
    go_wp2
    go_ret2
    exact JoinPost.mk (r := ([], 1)) (Kd.V_nil _ _ _ _ _) (Below.refl _ _)
  have z1 : (last.f0 == 4) = true := beq_iff_eq.2 k1
  have z2 : (last.f0 != 4) = false := bne_eq_false_iff_eq.2 k1
  have z3 : last.f1.toList.isEmpty = true := by simpa using k2
  have HCC := Lib.hid (anyBad_calls (some ad) c0 (l0.take n) (fun t ht => HS.out t (List.mem_of_mem_take ht)) w HG.out (by rw [HLT.out]; exact HRT.out))
  cases k3 : (l0.take n).any badT with
  | true =>
    have HE := Lib.hid (HJB.out (.inr (.inr k3)))
    have HC2 := HCC.out
    rw [k3, HLT.out] at HC2
    have HC3 := Lib.hid HC2; clear HC2
    clear k1 k2 k3
    rw [HE.out]
    go_enter Tryd.func14, Tryd.ntmps14
    go_wp2_with (go_at_call 22; refine HC3.out.mono ?_; rintro e w1 ⟨rfl, hb⟩)
    go_ret2
    exact JoinPost.mk (r := ([], 1)) (Kd.V_nil _ _ _ _ _) hb
  | false =>
    have HE := Lib.hid (HJG.out k1 k2 k3)
    have HC2 := HCC.out
    rw [k3, HLT.out] at HC2
    have HC3 := Lib.hid HC2; clear HC2
    clear k1 k2 k3
    have HTX := Lib.hid (show (textsOf (l0.take n)).length = n by rw [textsOf, List.length_map, HLT.out])
    go_enter Tryd.func14, Tryd.ntmps14
    go_wp2_with (go_at_call 22; refine HC3.out.mono ?_; rintro e w1 ⟨rfl, hb⟩)
    clear h0 h1 z1 z2 z3 HCC HC3 HJB HJG
    have HB0 := Lib.hid hb; clear hb
    go_loopg [5, 40] n (fun kq v5 v40 wr => ∃ i : Nat, i ≤ n ∧ kq = n - i ∧ v40 = .int .i64 (i : Int) ∧ Hid (Kd.R Kd.string 9 wr w.heap.size (fun _ => True) v5 ((textsOf (l0.take n)).take i)) ∧ Hid (Below w.heap.size w wr))
    case atStart => exact ⟨0, Nat.zero_le _, by omega, rfl, Lib.hid (Kd.R_nil _ _ _ _ _), HB0⟩
    case round =>
      clear HB0
      obtain ⟨i, hi, hgk, rfl, HO, HB⟩ := hrel
      by_cases hlt : i < n
      · have hltz : (i : Int) < (n : Int) := by omega
        obtain ⟨ad2, e, h0, h1, h2⟩ := at_T34 (Kd.C_below HRT.out HB.out) (i : Int) (by omega) hltz
        cases e
        rw [Int.toNat_natCast] at h0 h1 h2
        have HN1 := Lib.hid (take_next l0 n i hlt (by rw [HN.out]; omega))
        generalize rd_T34 (l0.take n) (i : Int) = x at h0 h1 h2 HN1
        have hcap : ((n : Int) < (i : Int)) = False := eq_false (by omega)
        have hneg : ((i : Int) < 0) = False := eq_false (by omega)
        go_wp2_with (first | ((with_reducible refine gate_dst (N := 7) rfl ?_); (try (refine gate_guard (by rfl) ?_; dsimp only)); refine box_event ?hg (N := 7) ?hd (cs := #[.int .i64 0, .string (⟨#[]⟩ : ByteArray), .int .i64 0]) (t := 34) ?hr ?_; (case hd => rfl); (case hg => rfl); (case hr => first | (go_simp; done) | (go_simp; rfl)); intro gb hg w3 hbox hb; have hcz0 : w3.cell? ⟨gb, 0, none⟩ = some (.int .i64 0) := (blk_cell hbox 0).trans rfl; have hcz1 : w3.cell? ⟨gb, 1, none⟩ = some (.string (⟨#[]⟩ : ByteArray)) := (blk_cell hbox 1).trans rfl; have hcz2 : w3.cell? ⟨gb, 2, none⟩ = some (.int .i64 0) := (blk_cell hbox 2).trans rfl; have hfz0 := blk_frozen hbox 0; have hfz1 := blk_frozen hbox 1; have hfz2 := blk_frozen hbox 2; have GW := Lib.hid hg; have BX := Lib.hid hbox; have HB3 := Lib.hid (below_step HB.out hb); have GE := Lib.hid (show w.heap.size ≤ gb by rw [hg]; exact below_size HB.out); have HO3 := Lib.hid (Kd.R_below (Kd.R_elderB HO.out gb (Nat.le_of_eq hg.symm)) hb); clear hg hbox hb) | (at_builtin; refine Kd.R_append Kd.string (w0 := w) w.heap.size rfl (.tmp 44) (.tmp 47) 43 9 (.string ⟨#[]⟩) 16 rfl Tryd.underlying43 info9 rfl (by decide) (by omega) u5 ((textsOf (l0.take n)).take i) x.f1 [.string x.f1] (fun _ => True) (fun _ => False) rfl (by first | (go_simp; done) | (go_simp; rfl)) ?aP (fun _ hk => hk.elim) ?aF ?aO ?aB ?aS ?aL ?_; (case aP => exact rfl); (case aF => exact (fun _ _ => trivial)); (case aO => exact Kd.R_mono (Kd.R_far (p := ⟨gb, 2, none⟩) (Kd.R_far (p := ⟨gb, 1, none⟩) (Kd.R_far (p := ⟨gb, 0, none⟩) HO3.out (fun _ hk => hk.2) _) (fun _ hk => hk.2) _) (fun _ hk => hk.2) _) (fun _ _ => trivial)); (case aB => exact below_set (below_set (below_set HB3.out GE.out) GE.out) GE.out); (case aS => exact below_size (below_set (below_set (below_set HB3.out GE.out) GE.out) GE.out)); (case aL => exact len_ok i _ n hi hN); intro v1 w4 ho hb hgr hat; have HO1 := Lib.hid ho; have HB1 := Lib.hid hb; clear ho hb hgr hat))
        have hval : IntKind.i64.wrap ((i : Int) + 1) = ((i + 1 : Nat) : Int) := by rw [i64_w]; unfold wrap64; omega
        go_wp2
        go_roundg (n - (i + 1))
        case measure => omega
        case rel => exact ⟨i + 1, by omega, rfl, by go_num, Lib.hid (by rw [HN1.out]; exact HO1.out), HB1⟩
      · have hltz : ¬ (i : Int) < (n : Int) := by omega
        have : i = n := by omega
        have HOF := Lib.hid (show Kd.R Kd.string 9 wr w.heap.size (fun _ => True) u5 (textsOf (l0.take n)) by have := HO.out; rw [‹i = n›, List.take_of_length_le (by rw [HTX.out]; exact Nat.le_refl _)] at this; exact this)
        have HCL := Lib.hid (join_calls (textsOf (l0.take n)) u5 w.heap.size HL.out (by rw [HTX.out]; omega) wr HOF.out)
        subst this
        have HSZ := Lib.hid (size_ofList (joinU (l0.take i)))
        have HBY := Lib.hid (bytesOf_ofList (joinU (l0.take i)))
        have HCLs := Lib.hid (show Calls Tryd.prog 25 #[u5, .string ⟨#[32]⟩] wr fun e w' => e = .returned (.string ⟨(joinU (l0.take i)).toArray⟩) ∧ Below wr.heap.size wr w' from HCL.out)
        clear HCL HO
        generalize (⟨(joinU (l0.take i)).toArray⟩ : ByteArray) = s at HSZ HBY HCLs
        by_cases hbig : 16384 < (joinU (l0.take i)).length
        · have z1 : decide (16384 < (s.size : Int)) = true := decide_eq_true (by have := HSZ.out; omega)
          have z2 : decide (16384 < s.size) = true := decide_eq_true (by have := HSZ.out; omega)
          have HE2 := Lib.hid (HE.out.trans (if_pos hbig))
          clear hbig
          go_wp2_with (go_at_call 25; refine HCLs.out.mono ?_; rintro e w4 ⟨rfl, hb⟩)
          go_ret2
          rw [HE2.out]
          exact JoinPost.mk (r := ([], 2)) (Kd.V_nil _ _ _ _ _) (below_step HB.out hb)
        · have z1 : decide (16384 < (s.size : Int)) = false := decide_eq_false (by have := HSZ.out; omega)
          have z2 : decide (16384 < s.size) = false := decide_eq_false (by have := HSZ.out; omega)
          have hsm := Lib.hid (show s.size ≤ 9223372036854775807 by have := HSZ.out; omega)
          have HE2 := Lib.hid (HE.out.trans (if_neg hbig))
          clear hbig
          have hcv := fun W => print_bytes (P := Tryd.prog) 9 22 5 Tryd.underlying9 Tryd.underlying22 Tryd.underlying5 s W
          go_wp2_with (go_at_call 25; refine HCLs.out.mono ?_; rintro e w4 ⟨rfl, hb⟩; have HB4 := Lib.hid (below_step HB.out hb); clear hb)
          go_ret2
          rw [HE2.out]
          refine JoinPost.mk (r := (_, 0)) ?_ (bytes_below HB4.out (below_size HB4.out) _ _)
          rw [← HBY.out]
          exact V_bytes w _ s hsm.out

/-- lex.Join of an empty list. -/
theorem lexJoin_nil (A0 : Option Addr) (c0 : Nat) (w : World) :
    Calls Tryd.prog 14 #[.slice A0 0 c0] w (JoinPost ([], 1) w) := by
  go_enter Tryd.func14, Tryd.ntmps14
  go_wp2
  go_ret2
  exact JoinPost.mk (r := ([], 1)) (Kd.V_nil _ _ _ _ _) (Below.refl _ _)

/-- lex.Join, by value. -/
def lex_Join.f (l0 : List Tok) : Option (List Int × Int) :=
  if l0.length = 0 then some ([], 1)
  else if (l0.all fun t => decide (t.f1.size ≤ 281474976710656)) = true ∧ (joinU (l0.take (l0.length - 1))).length ≤ 140737488355328 ∧ l0.length ≤ 4398046511104 then some (joinR l0 (l0.length - 1))
  else none
theorem lex_Join.calls (A0 : Option Addr) (c0 : Nat) (l0 : List Tok) (r1 : List Int) (r2 : Int) (w : World) (hG : Laid w) (hr0 : Kd.C k34 w A0 l0.length l0) (hc0 : l0.length ≤ c0) (h : lex_Join.f l0 = some (r1, r2)) :
    Calls Tryd.prog 14 #[.slice A0 l0.length c0] w fun e w' => ∃ v0_ : Value, e = .returned (.tuple #[v0_, .int .i64 r2]) ∧ Kd.V (Kd.int .u8) 5 w' w.heap.size (fun _ => True) v0_ r1 ∧ Below w.heap.size w w' := by
  unfold lex_Join.f at h
  by_cases h0 : l0.length = 0
  · rw [if_pos h0] at h
    simp only [Option.some.injEq, Prod.mk.injEq] at h
    obtain ⟨rfl, rfl⟩ := h
    rw [h0]
    exact lexJoin_nil A0 c0 w
  · rw [if_neg h0] at h
    by_cases hc : (l0.all fun t => decide (t.f1.size ≤ 281474976710656)) = true ∧ (joinU (l0.take (l0.length - 1))).length ≤ 140737488355328 ∧ l0.length ≤ 4398046511104
    · rw [if_pos hc] at h
      obtain ⟨n, hn⟩ : ∃ n, l0.length = n + 1 := ⟨l0.length - 1, by omega⟩
      rw [hn] at hr0 hc0 ⊢ h hc
      have hS : ∀ t ∈ l0, t.f1.size ≤ 281474976710656 := by
        have := List.all_eq_true.1 hc.1
        intro t ht
        exact of_decide_eq_true (this t ht)
      have := lexJoin_calls A0 c0 n l0 hn hS hc.2.1 (by omega) w hG hr0 hc0
      simp only [Option.some.injEq] at h
      rw [show n + 1 - 1 = n from rfl] at h
      rw [h] at this
      exact this
    · rw [if_neg hc] at h
      exact absurd h (by simp)
end Go.Proofs.YtbnelajjadhcgaaDoor.G
