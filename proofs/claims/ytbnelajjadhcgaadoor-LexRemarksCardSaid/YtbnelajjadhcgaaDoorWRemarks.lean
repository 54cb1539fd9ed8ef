-- The walk of LexRemarks: true for every source, every remark and every number.
import Derived.Test.YtbnelajjadhcgaaDoorLive
import Derived.Test.YtbnelajjadhcgaaDoorLxm
import Derived.Test.YtbnelajjadhcgaaDoorGxAlike
namespace Go.Proofs.YtbnelajjadhcgaaDoor.G
set_option linter.unusedVariables false
set_option linter.unusedSimpArgs false
open Go.RowKit Go.Proofs.YtbnelajjadhcgaaDoorW.PrintWords Go.Proofs.YtbnelajjadhcgaaDoorW.PrintLast Go.Proofs.YtbnelajjadhcgaaDoorW.PrintMore

theorem alike_view (l m : List Tok) (h : l.map (fun t => (t.f0, t.f1)) = m.map (fun t => (t.f0, t.f1))) (hn : l.length ≤ 4294967296) : ∀ (d i k : Nat), i + d = l.length → d + 1 ≤ k → chalklineref05_Alike.l0 k l m (l.length : Int) (i : Int) = some true
  | 0, i, k, hd, hk => by
    obtain ⟨k, rfl⟩ : ∃ m, k = m + 1 := ⟨k - 1, by omega⟩
    simp only [chalklineref05_Alike.l0]
    rw [if_neg (by omega)]
  | d + 1, i, k, hd, hk => by
    obtain ⟨k, rfl⟩ : ∃ m, k = m + 1 := ⟨k - 1, by omega⟩
    have e1 : wrap64 ((i : Int) + 1) = ((i + 1 : Nat) : Int) := by unfold wrap64; omega
    have ih := alike_view l m h hn d (i + 1) k (by omega) (by omega)
    obtain ⟨hl, ha⟩ := view_alike l m h
    obtain ⟨a1, a2⟩ := ha i (by omega)
    simp only [chalklineref05_Alike.l0]
    rw [if_pos (by omega), if_pos (by omega), if_pos (by omega), if_pos (by omega), if_pos a1, if_pos (by rw [a2]), e1]
    exact ih
theorem alike_view_f (l m : List Tok) (h : l.map (fun t => (t.f0, t.f1)) = m.map (fun t => (t.f0, t.f1))) (hn : l.length ≤ 4294967296) : chalklineref05_Alike.f (l.length + 1) l m = some true := by
  unfold chalklineref05_Alike.f
  rw [if_pos (by rw [(view_alike l m h).1])]
  exact alike_view l m h hn l.length 0 _ (by omega) (by omega)

/-- The remark without its newlines, up to byte j. -/
def noNl (q : List Int) (j : Nat) : List Int := (q.take j).filter (· != 10)
theorem noNl_step (q : List Int) (j : Nat) (h : j < q.length) : noNl q (j + 1) = if rd q (j : Int) = 10 then noNl q j else noNl q j ++ [rd q (j : Int)] := by
  unfold noNl
  rw [List.take_succ_eq_append_getElem h, List.filter_append]
  have e : rd q (j : Int) = q[j] := by simp [rd, List.getElem?_eq_getElem h]
  rw [e]
  by_cases h10 : q[j] = 10
  · rw [if_pos h10, h10]; simp
  · rw [if_neg h10]
    have : (q[j] != 10) = true := bne_iff_ne.2 h10
    simp [List.filter_cons, this]
theorem noNl_len (q : List Int) (j : Nat) : (noNl q j).length ≤ q.length := by
  unfold noNl
  have h1 := (List.filter_sublist (p := (· != (10 : Int))) (l := q.take j)).length_le
  have h2 : (q.take j).length ≤ q.length := by rw [List.length_take]; omega
  omega
theorem noNl_all (q : List Int) (j : Nat) : (noNl q j).all (· != 10) = true := by
  unfold noNl
  rw [List.all_eq_true]
  intro x hx
  exact (List.mem_filter.1 hx).2
theorem noNl_bytes (q : List Int) (j : Nat) (h : q.all isB = true) : (noNl q j).all isB = true := by
  unfold noNl
  rw [List.all_eq_true] at h ⊢
  intro x hx
  exact h x (List.mem_of_mem_take (List.mem_filter.1 hx).1)

set_option maxHeartbeats 4000000 in
set_option maxRecDepth 100000 in
theorem remarks_big (A0 A1 : Option Addr) (c0 c1 : Nat) (b q : List Int) (n : Int) (w : World) (hG : Laid w) (hb : b.length ≤ 9223372036854775807) (hq : q.length ≤ 9223372036854775807)
    (h : 1500 < b.length ∨ 1500 < q.length ∨ n < 0 ∨ 5 < n) :
    Calls Tryd.prog 7 #[.slice A0 b.length c0, .slice A1 q.length c1, .int .i64 n] w fun e w' => e = .returned (.bool true) ∧ Below w.heap.size w w' := by
  have HG := Lib.hid hG; clear hG
  by_cases h1 : 1500 < b.length
  · have z0 : decide (1500 < (b.length : Int)) = true := decide_eq_true (by omega)
    have z1 : decide (1500 < b.length) = true := decide_eq_true h1
    clear h h1 hb hq
    go_enter Tryd.func7, Tryd.ntmps7
    go_wp2_with (first
      | (go_at_call 9; refine (live_calls w HG.out).mono ?_; rintro e w1 ⟨rfl, hb⟩; have HB1 := Lib.hid hb; clear hb))
    go_ret
    exact ⟨rfl, HB1.out⟩
  · have z0 : decide (1500 < (b.length : Int)) = false := decide_eq_false (by omega)
    have z1 : decide (1500 < b.length) = false := decide_eq_false h1
    by_cases h2 : 1500 < q.length
    · have z2 : decide (1500 < (q.length : Int)) = true := decide_eq_true (by omega)
      have z3 : decide (1500 < q.length) = true := decide_eq_true h2
      clear h h1 h2 hb hq
      go_enter Tryd.func7, Tryd.ntmps7
      go_wp2_with (first
        | (go_at_call 9; refine (live_calls w HG.out).mono ?_; rintro e w1 ⟨rfl, hb⟩; have HB1 := Lib.hid hb; clear hb))
      go_ret
      exact ⟨rfl, HB1.out⟩
    · have z2 : decide (1500 < (q.length : Int)) = false := decide_eq_false (by omega)
      have z3 : decide (1500 < q.length) = false := decide_eq_false h2
      by_cases h3 : n < 0
      · have z4 : decide (n < 0) = true := decide_eq_true h3
        clear h h1 h2 hb hq
        go_enter Tryd.func7, Tryd.ntmps7
        go_wp2_with (first
          | (go_at_call 9; refine (live_calls w HG.out).mono ?_; rintro e w1 ⟨rfl, hb⟩; have HB1 := Lib.hid hb; clear hb))
        go_ret
        exact ⟨rfl, HB1.out⟩
      · have h4 : 5 < n := by omega
        have z4 : decide (n < 0) = false := decide_eq_false h3
        have z5 : decide (5 < n) = true := decide_eq_true h4
        clear h h1 h2 h3 h4 hb hq
        go_enter Tryd.func7, Tryd.ntmps7
        go_wp2_with (first
          | (go_at_call 9; refine (live_calls w HG.out).mono ?_; rintro e w1 ⟨rfl, hb⟩; have HB1 := Lib.hid hb; clear hb))
        go_ret
        exact ⟨rfl, HB1.out⟩

set_option maxHeartbeats 8000000 in
set_option maxRecDepth 100000 in
theorem remarks_few (A0 A1 : Option Addr) (c0 c1 : Nat) (b q : List Int) (n : Nat) (w : World) (hG : Laid w) (hrb : Kd.C (Kd.int .u8) w A0 b.length b) (hcb : b.length ≤ c0) (hrq : Kd.C (Kd.int .u8) w A1 q.length q)
    (h1 : b.length ≤ 1500) (h2 : q.length ≤ 1500) (h3 : n ≤ 5) (l m : List Tok) (a a2 e : Int) (k : Nat)
    (hT : lex_Tokens.f b = some (l, a, e)) (hT2 : lex_Tokens.f (cN b n ++ 35 :: noNl q q.length) = some (m, a2, e)) (hA : chalklineref05_Alike.f k l m = some true) :
    Calls Tryd.prog 7 #[.slice A0 b.length c0, .slice A1 q.length c1, .int .i64 (n : Int)] w fun e w' => e = .returned (.bool true) ∧ Below w.heap.size w w' := by
  have HG := Lib.hid hG; clear hG
  have HR := Lib.hid hrb; clear hrb
  have HQR := Lib.hid hrq; clear hrq
  have HC := Lib.hid hcb; clear hcb
  have HT := Lib.hid hT; clear hT
  have HT2 := Lib.hid hT2; clear hT2
  have HA := Lib.hid hA; clear hA
  have HBL := Lib.hid h1
  have z0 : decide (1500 < (b.length : Int)) = false := decide_eq_false (by omega)
  have z1 : decide (1500 < b.length) = false := decide_eq_false (by omega)
  have z2 : decide (1500 < (q.length : Int)) = false := decide_eq_false (by omega)
  have z3 : decide (1500 < q.length) = false := decide_eq_false (by omega)
  have z4 : decide ((n : Int) < 0) = false := decide_eq_false (by omega)
  have z5 : decide (5 < (n : Int)) = false := decide_eq_false (by omega)
  have z6 : decide (5 < n) = false := decide_eq_false (by omega)
  go_enter Tryd.func7, Tryd.ntmps7
  go_wp2_with (first
    | (go_at_call 9; refine (live_calls w HG.out).mono ?_; rintro e w1 ⟨rfl, hb⟩; have HB1 := Lib.hid hb; clear hb)
    | (go_at_call 10; have HQ := HT; clear HT; refine (lex_Tokens.calls A0 c0 b l a e w1 (Laid.below HG.out HB1.out) (Kd.C_below HR.out HB1.out) HC.out HQ.out).mono ?_; rintro e w2 ⟨v2, rfl, ho, hb⟩; have HB2 := Lib.hid (below_step HB1.out hb); obtain ⟨A2, c2, e2⟩ := Kd.R_slice ho; subst e2; have HL := Lib.hid (show l.length ≤ c2 ∧ Kd.C k34 w2 A2 l.length l from (Kd.R_reads' ho).2); clear ho hb HQ)
    | ((with_reducible refine gate_dst (N := 42) rfl ?_); refine Kd.R_append_row (Value.int .u8) (0 : Int) (h1 := fun _ => rfl) (w0 := w2) w2.heap.size rfl (.const (.slice none 0 0)) (.tmp 41) 22 5 (.int .u8 0) 1 rfl Tryd.underlying22 info5 rfl (by decide) (.slice none 0 0) [] b A0 b.length c0 (fun _ => True) rfl rfl (fun _ _ => trivial) (Kd.R_nil _ _ _ _ _) (Kd.C_below HR.out HB2.out) (Below.refl _ _) (Nat.le_refl _) (by have := HBL.out; simp; omega) ?_; intro v3 w3 ho hb _ _; have HO := Lib.hid ho; have HB3 := Lib.hid hb; clear ho hb))
  have HO3 := Lib.hid (show Kd.R (Kd.int .u8) 5 w3 w2.heap.size (fun _ => True) v3 (cN b 0) from HO.out)
  clear HO
  go_loopg [10, 44] n (fun kq v10 v44 wr => ∃ i : Nat, i ≤ n ∧ kq = n - i ∧ v44 = .int .i64 (i : Int) ∧ Hid (Kd.R (Kd.int .u8) 5 wr w2.heap.size (fun _ => True) v10 (cN b i)) ∧ Hid (Below w2.heap.size w2 wr))
  case atStart => exact ⟨0, Nat.zero_le _, by omega, rfl, HO3, HB3⟩
  case round =>
    clear HO3 HB3
    obtain ⟨i, hi, hgk, rfl, HO, HB⟩ := hrel
    by_cases hlt : i < n
    · have hltz : decide ((i : Int) < (n : Int)) = true := decide_eq_true (by omega)
      have hltn : decide (i < n) = true := decide_eq_true hlt
      have hnext : ∀ [Inhabited Nat], IntKind.i64.wrap ((i : Int) + 1) = ((i + 1 : Nat) : Int) := by intro _; rw [i64_w]; unfold wrap64; omega
      go_wp2_with (first | ((with_reducible refine gate_dst (N := 47) rfl ?_); refine Kd.R_lit (Kd.int .u8) _ 5 ?hg (N := 47) ?hd (xs := ([9, 32] : List Int)) (inner := [.int .u8 9, .int .u8 32]) (ok := fun _ => True) (okp := fun _ => True) ?hr ?hp (fun _ hk => hk) trivial (Below.refl _ _) (Nat.le_refl _) (by simp) ?_; (case hd => rfl); (case hg => rfl); (case hr => first | (go_simp; done) | (go_simp; rfl)); (case hp => exact reps_u8 _ _ _ [9, 32]); intro v4 w4 ho hb _ _; obtain ⟨A4, c4, e_⟩ := Kd.R_slice ho; subst e_; have HL4 := Lib.hid (show Kd.C (Kd.int .u8) w4 A4 2 [9, 32] from (Kd.R_reads' ho).2.2); have HO4 := Lib.hid (Kd.R_below HO.out hb); have HB4 := Lib.hid (below_step HB.out hb); clear ho hb) | ((with_reducible refine gate_dst (N := 48) rfl ?_); refine Kd.R_append_row (Value.int .u8) (0 : Int) (h1 := fun _ => rfl) (w0 := w2) w2.heap.size rfl (.tmp 46) (.tmp 47) 22 5 (.int .u8 0) 1 rfl Tryd.underlying22 info5 rfl (by decide) u10 (cN b i) [9, 32] A4 2 c4 (fun _ => True) rfl rfl (fun _ _ => trivial) HO4.out HL4.out HB4.out (below_size HB4.out) (by have := HBL.out; rw [cN_len]; omega) ?_; intro v5 w5 ho hb _ _; obtain ⟨y5, hy5⟩ : ∃ y, y = cN b i ++ [9, 32] := ⟨_, rfl⟩; have HY5 := Lib.hid hy5; rw [← hy5] at ho; clear hy5; obtain ⟨A5, c5, e_⟩ := Kd.R_slice ho; subst e_; have HO5 := Lib.hid ho; have HB5 := Lib.hid hb; clear ho hb) | ((with_reducible refine gate_dst (N := 49) rfl ?_); refine Kd.R_lit (Kd.int .u8) _ 5 ?hg (N := 49) ?hd (xs := ([32, 9, 10] : List Int)) (inner := [.int .u8 32, .int .u8 9, .int .u8 10]) (ok := fun _ => True) (okp := fun _ => True) ?hr ?hp (fun _ hk => hk) trivial (Below.refl _ _) (Nat.le_refl _) (by simp) ?_; (case hd => rfl); (case hg => rfl); (case hr => first | (go_simp; done) | (go_simp; rfl)); (case hp => exact reps_u8 _ _ _ [32, 9, 10]); intro v6 w6 ho hb _ _; have HO6 := Lib.hid (Kd.R_lower ho (below_size HB5.out)); have HO7 := Lib.hid (Kd.C_below (Kd.R_reads' HO5.out).2.2 hb); have HB6 := Lib.hid (below_step HB5.out hb); clear ho hb) | ((with_reducible refine gate_dst (N := 52) rfl ?_); refine Kd.R_append_row (Value.int .u8) (0 : Int) (h1 := fun _ => rfl) (w0 := w2) w2.heap.size rfl (.tmp 50) (.tmp 51) 22 5 (.int .u8 0) 1 rfl Tryd.underlying22 info5 rfl (by decide) v6 [32, 9, 10] y5 A5 y5.length c5 (fun _ => True) rfl rfl (fun _ _ => trivial) HO6.out HO7.out HB6.out (below_size HB6.out) (by have := HBL.out; rw [HY5.out, List.length_append, cN_len]; simp; omega) ?_; intro v7 w7 ho hb _ _; have HO8 := Lib.hid (show Kd.R (Kd.int .u8) 5 w7 w2.heap.size (fun _ => True) v7 (cN b (i + 1)) from by rw [HY5.out] at ho; exact ho); have HB8 := Lib.hid hb; clear ho hb))
      go_roundg (n - (i + 1))
      case measure => omega
      case rel => exact ⟨i + 1, by omega, rfl, by first | rfl | (rw [hnext]) | (go_num; done), HO8, HB8⟩
    · have hin : i = n := by omega
      subst hin
      have hltz : decide ((i : Int) < (i : Int)) = false := decide_eq_false (by omega)
      go_wp2_with (first | ((with_reducible refine gate_dst (N := 56) rfl ?_); refine Kd.R_lit (Kd.int .u8) _ 5 ?hg (N := 56) ?hd (xs := ([35] : List Int)) (inner := [.int .u8 35]) (ok := fun _ => True) (okp := fun _ => True) ?hr ?hp (fun _ hk => hk) trivial (Below.refl _ _) (Nat.le_refl _) (by simp) ?_; (case hd => rfl); (case hg => rfl); (case hr => first | (go_simp; done) | (go_simp; rfl)); (case hp => exact reps_u8 _ _ _ [35]); intro v4 w4 ho hb _ _; obtain ⟨A4, c4, e_⟩ := Kd.R_slice ho; subst e_; have HL4 := Lib.hid (show Kd.C (Kd.int .u8) w4 A4 1 [35] from (Kd.R_reads' ho).2.2); have HO4 := Lib.hid (Kd.R_below HO.out hb); have HB4 := Lib.hid (below_step HB.out hb); clear ho hb) | ((with_reducible refine gate_dst (N := 57) rfl ?_); refine Kd.R_append_row (Value.int .u8) (0 : Int) (h1 := fun _ => rfl) (w0 := w2) w2.heap.size rfl (.tmp 55) (.tmp 56) 22 5 (.int .u8 0) 1 rfl Tryd.underlying22 info5 rfl (by decide) u10 (cN b i) [35] A4 1 c4 (fun _ => True) rfl rfl (fun _ _ => trivial) HO4.out HL4.out HB4.out (below_size HB4.out) (by have := HBL.out; rw [cN_len]; omega) ?_; intro v5 w5 ho hb _ _; have HO5 := Lib.hid ho; have HB5 := Lib.hid hb; clear ho hb))
      have HO9 := Lib.hid (show Kd.R (Kd.int .u8) 5 w5 w2.heap.size (fun _ => True) v5 (cN b i ++ 35 :: noNl q 0) from HO5.out)
      clear HO HB HO5 HO4 HL4 HB4
      go_loopg [10, 60] q.length (fun kq v10 v60 wr => ∃ j : Nat, j ≤ q.length ∧ kq = q.length - j ∧ v60 = .int .i64 (j : Int) ∧ Hid (Kd.R (Kd.int .u8) 5 wr w2.heap.size (fun _ => True) v10 (cN b i ++ 35 :: noNl q j)) ∧ Hid (Below w2.heap.size w2 wr))
      case atStart => exact ⟨0, Nat.zero_le _, by omega, rfl, HO9, HB5⟩
      case round =>
        clear HO9 HB5
        obtain ⟨j, hj, hgk, rfl, HO, HB⟩ := hrel
        by_cases hlj : j < q.length
        · have hljz : (j : Int) < (q.length : Int) := by omega
          obtain ⟨ad, e1, hx⟩ := Kd.at_int (Kd.C_below HQR.out (below_step HB2.out HB.out)) (j : Int) (by omega) hljz
          subst e1
          rw [Int.toNat_natCast] at hx
          have HS := Lib.hid (noNl_step q j hlj)
          have hnext : ∀ [Inhabited Nat], IntKind.i64.wrap ((j : Int) + 1) = ((j + 1 : Nat) : Int) := by intro _; rw [i64_w]; unfold wrap64; omega
          generalize rd q (j : Int) = x at hx HS
          by_cases h10 : x = 10
          · have HS2 := Lib.hid (HS.out.trans (if_pos h10))
            subst h10
            go_wp2
            go_roundg (q.length - (j + 1))
            case measure => omega
            case rel => exact ⟨j + 1, hlj, rfl, by first | rfl | (rw [hnext]) | (go_num; done), Lib.hid (by rw [HS2.out]; exact HO.out), HB⟩
          · have HS2 := Lib.hid (HS.out.trans (if_neg h10))
            have t1 : (x == 10) = false := beq_eq_false_iff_ne.2 h10
            have t2 : (x != 10) = true := bne_iff_ne.2 h10
            clear h10
            go_wp2_with (first | ((with_reducible refine gate_dst (N := 68) rfl ?_); refine Kd.R_lit (Kd.int .u8) _ 5 ?hg (N := 68) ?hd (xs := ([x] : List Int)) (inner := [.int .u8 x]) (ok := fun _ => True) (okp := fun _ => True) ?hr ?hp (fun _ hk => hk) trivial (Below.refl _ _) (Nat.le_refl _) (by simp) ?_; (case hd => rfl); (case hg => rfl); (case hr => first | (go_simp; done) | (go_simp; rfl)); (case hp => exact reps_u8 _ _ _ [x]); intro v6 w6 ho hb _ _; obtain ⟨A6, c6, e_⟩ := Kd.R_slice ho; subst e_; have HL6 := Lib.hid (show Kd.C (Kd.int .u8) w6 A6 1 [x] from (Kd.R_reads' ho).2.2); have HO6 := Lib.hid (Kd.R_below HO.out hb); have HB6 := Lib.hid (below_step HB.out hb); clear ho hb) | ((with_reducible refine gate_dst (N := 69) rfl ?_); refine Kd.R_append_row (Value.int .u8) (0 : Int) (h1 := fun _ => rfl) (w0 := w2) w2.heap.size rfl (.tmp 66) (.tmp 68) 22 5 (.int .u8 0) 1 rfl Tryd.underlying22 info5 rfl (by decide) u10 (cN b i ++ 35 :: noNl q j) [x] A6 1 c6 (fun _ => True) rfl rfl (fun _ _ => trivial) HO6.out HL6.out HB6.out (below_size HB6.out) (by have := HBL.out; have := noNl_len q j; rw [List.length_append, List.length_cons, cN_len]; omega) ?_; intro v7 w7 ho hb _ _; have HO7 := Lib.hid ho; have HB7 := Lib.hid hb; clear ho hb))
            go_roundg (q.length - (j + 1))
            case measure => omega
            case rel => exact ⟨j + 1, hlj, rfl, by first | rfl | (rw [hnext]) | (go_num; done), Lib.hid (by rw [HS2.out, ← List.cons_append, ← List.append_assoc]; exact HO7.out), HB7⟩
        · have hjq : j = q.length := by omega
          subst hjq
          have hljz : decide ((q.length : Int) < (q.length : Int)) = false := decide_eq_false (by omega)
          obtain ⟨y9, hy9⟩ : ∃ y, y = cN b i ++ 35 :: noNl q q.length := ⟨_, rfl⟩
          rw [← hy9] at HO HT2
          clear hy9
          obtain ⟨A9, c9, e9⟩ := Kd.R_slice HO.out
          subst e9
          have HC9 := Lib.hid (Kd.R_reads' HO.out).2
          go_wp2_with (first | (go_at_call 10; have HQ := HT2; clear HT2; refine (lex_Tokens.calls A9 c9 y9 m a2 e _ (Laid.below HG.out (below_step HB2.out HB.out)) HC9.out.2 HC9.out.1 HQ.out).mono ?_; rintro e w10 ⟨v10, rfl, ho, hb⟩; have HB10 := Lib.hid (below_step (below_step HB2.out HB.out) hb); obtain ⟨A10, c10, e2⟩ := Kd.R_slice ho; subst e2; have HM := Lib.hid (show m.length ≤ c10 ∧ Kd.C k34 w10 A10 m.length m from (Kd.R_reads' ho).2); have HL10 := Lib.hid (Kd.C_below HL.out.2 (below_step HB.out hb)); clear ho hb HQ) | (go_at_call 16; refine (chalklineref05_Alike.calls k A2 c2 l A10 c10 m true w10 HL10.out HL.out.1 HM.out.2 HM.out.1 HA.out).mono ?_; rintro e w11 ⟨rfl, hd⟩; have HB11 := Lib.hid (below_step HB10.out hd.below); clear hd))
          go_ret
          exact ⟨rfl, HB11.out⟩
theorem lexRemarks_walk (A0 A1 : Option Addr) (c0 c1 : Nat) (b q : List Int) (n : Int) (w : World) (hG : Laid w) (hrb : Kd.C (Kd.int .u8) w A0 b.length b) (hcb : b.length ≤ c0) (hrq : Kd.C (Kd.int .u8) w A1 q.length q) (hB : b.all isB = true) (hQ : q.all isB = true) :
    Calls Tryd.prog 7 #[.slice A0 b.length c0, .slice A1 q.length c1, .int .i64 n] w fun e w' => e = .returned (.bool true) ∧ Below w.heap.size w w' := by
  by_cases h : 1500 < b.length ∨ 1500 < q.length ∨ n < 0 ∨ 5 < n
  · exact remarks_big A0 A1 c0 c1 b q n w hG hrb.2.1 hrq.2.1 h
  · have h1 : b.length ≤ 1500 := by omega
    have h2 : q.length ≤ 1500 := by omega
    obtain ⟨N, rfl⟩ : ∃ N : Nat, n = (N : Int) := ⟨n.toNat, by omega⟩
    have h3 : N ≤ 5 := by omega
    have hql := noNl_len q q.length
    have hlen : (cN b N ++ 35 :: noNl q q.length).length ≤ 16384 := by rw [List.length_append, List.length_cons, cN_len]; omega
    have hbytes : (cN b N ++ 35 :: noNl q q.length).all isB = true := by rw [List.all_append, all_bytes b hB N, List.all_cons, noNl_bytes q _ hQ]; rfl
    have ht : lex_Tokens.f b = some (resOf (lx (b.length + 1) b 0)) := by unfold lex_Tokens.f; rw [if_neg (by omega), if_pos hB]
    have ht2 : lex_Tokens.f (cN b N ++ 35 :: noNl q q.length) = some (resOf (lx ((cN b N ++ 35 :: noNl q q.length).length + 1) (cN b N ++ 35 :: noNl q q.length) 0)) := by unfold lex_Tokens.f; rw [if_neg (by omega), if_pos hbytes]
    have hv := remarks_view b (noNl q q.length) N (noNl_all q q.length)
    cases hr : lx (b.length + 1) b 0 with
    | error a =>
      cases hr2 : lx ((cN b N ++ 35 :: noNl q q.length).length + 1) (cN b N ++ 35 :: noNl q q.length) 0 with
      | error a2 =>
        rw [hr] at ht
        rw [hr2] at ht2
        exact remarks_few A0 A1 c0 c1 b q N w hG hrb hcb hrq h1 h2 h3 [] [] a a2 50 1 ht ht2 rfl
      | ok m => rw [hr, hr2] at hv; simp [view] at hv
    | ok l =>
      cases hr2 : lx ((cN b N ++ 35 :: noNl q q.length).length + 1) (cN b N ++ 35 :: noNl q q.length) 0 with
      | error a2 => rw [hr, hr2] at hv; simp [view] at hv
      | ok m =>
        rw [hr, hr2] at hv
        have hv : m.map (fun t => (t.f0, t.f1)) = l.map (fun t => (t.f0, t.f1)) := Option.some.inj hv
        rw [hr] at ht
        rw [hr2] at ht2
        have hlen := lx_len _ _ _ _ hr
        exact remarks_few A0 A1 c0 c1 b q N w hG hrb hcb hrq h1 h2 h3 l m 0 0 0 _ ht ht2 (alike_view_f l m hv.symm (by omega))
end Go.Proofs.YtbnelajjadhcgaaDoor.G
