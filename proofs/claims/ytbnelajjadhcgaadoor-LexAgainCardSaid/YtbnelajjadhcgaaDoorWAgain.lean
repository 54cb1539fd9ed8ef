-- The walk of LexAgain: true for every source.
import Derived.Test.YtbnelajjadhcgaaDoorLive
import Derived.Test.YtbnelajjadhcgaaDoorLxj
import Derived.Test.YtbnelajjadhcgaaDoorGxAlike
namespace Go.Proofs.YtbnelajjadhcgaaDoor.G
set_option linter.unusedVariables false
set_option linter.unusedSimpArgs false
open Go.RowKit Go.Proofs.YtbnelajjadhcgaaDoorW.PrintWords Go.Proofs.YtbnelajjadhcgaaDoorW.PrintLast Go.Proofs.YtbnelajjadhcgaaDoorW.PrintMore

set_option maxHeartbeats 4000000 in
set_option maxRecDepth 100000 in
theorem again_big (A0 : Option Addr) (c0 : Nat) (l0 : List Int) (w : World) (hG : Laid w) (hm : l0.length ≤ 9223372036854775807) (hle : 2000 < l0.length) :
    Calls Tryd.prog 5 #[.slice A0 l0.length c0] w fun e w' => e = .returned (.bool true) ∧ Below w.heap.size w w' := by
  have HG := Lib.hid hG; clear hG
  have z0 : decide (2000 < (l0.length : Int)) = true := decide_eq_true (by omega)
  have z1 : decide (2000 < l0.length) = true := decide_eq_true (by omega)
  clear hle
  go_enter Tryd.func5, Tryd.ntmps5
  go_wp2_with (first
    | (go_at_call 9; refine (live_calls w HG.out).mono ?_; rintro e w1 ⟨rfl, hb⟩; have HB1 := Lib.hid hb; clear hb))
  go_ret
  exact ⟨rfl, HB1.out⟩

set_option maxHeartbeats 4000000 in
set_option maxRecDepth 100000 in
theorem again_err (A0 : Option Addr) (c0 : Nat) (l0 : List Int) (w : World) (hG : Laid w) (hr0 : Kd.C (Kd.int .u8) w A0 l0.length l0) (hc0 : l0.length ≤ c0) (hle : l0.length ≤ 2000) (a : Int)
    (hT : lex_Tokens.f l0 = some ([], a, 50)) :
    Calls Tryd.prog 5 #[.slice A0 l0.length c0] w fun e w' => e = .returned (.bool true) ∧ Below w.heap.size w w' := by
  have HG := Lib.hid hG; clear hG
  have HR := Lib.hid hr0; clear hr0
  have HC := Lib.hid hc0; clear hc0
  have HT := Lib.hid hT; clear hT
  have z0 : decide (2000 < (l0.length : Int)) = false := decide_eq_false (by omega)
  have z1 : decide (2000 < l0.length) = false := decide_eq_false (by omega)
  go_enter Tryd.func5, Tryd.ntmps5
  go_wp2_with (first
    | (go_at_call 9; refine (live_calls w HG.out).mono ?_; rintro e w1 ⟨rfl, hb⟩; have HB1 := Lib.hid hb; clear hb)
    | (go_at_call 10; refine (lex_Tokens.calls A0 c0 l0 [] a 50 w1 (Laid.below HG.out HB1.out) (Kd.C_below HR.out HB1.out) HC.out HT.out).mono ?_; rintro e w2 ⟨v2, rfl, ho, hb⟩; have HB2 := Lib.hid (below_step HB1.out hb); obtain ⟨A2, c2, e2⟩ := Kd.R_slice ho; subst e2; clear ho hb))
  go_ret
  exact ⟨rfl, HB2.out⟩

set_option maxHeartbeats 4000000 in
set_option maxRecDepth 100000 in
theorem again_long (A0 : Option Addr) (c0 : Nat) (l0 : List Int) (w : World) (hG : Laid w) (hr0 : Kd.C (Kd.int .u8) w A0 l0.length l0) (hc0 : l0.length ≤ c0) (hle : l0.length ≤ 2000) (l : List Tok)
    (hT : lex_Tokens.f l0 = some (l, 0, 0)) (hJ : lex_Join.f l = some ([], 2)) (hl : 1 < l.length) :
    Calls Tryd.prog 5 #[.slice A0 l0.length c0] w fun e w' => e = .returned (.bool true) ∧ Below w.heap.size w w' := by
  have HG := Lib.hid hG; clear hG
  have HR := Lib.hid hr0; clear hr0
  have HC := Lib.hid hc0; clear hc0
  have HT := Lib.hid hT; clear hT
  have HJ := Lib.hid hJ; clear hJ
  have z0 : decide (2000 < (l0.length : Int)) = false := decide_eq_false (by omega)
  have z1 : decide (2000 < l0.length) = false := decide_eq_false (by omega)
  have z2 : decide (1 < (l.length : Int)) = true := decide_eq_true (by omega)
  have z3 : decide (1 < l.length) = true := decide_eq_true hl
  go_enter Tryd.func5, Tryd.ntmps5
  go_wp2_with (first
    | (go_at_call 9; refine (live_calls w HG.out).mono ?_; rintro e w1 ⟨rfl, hb⟩; have HB1 := Lib.hid hb; clear hb)
    | (go_at_call 10; refine (lex_Tokens.calls A0 c0 l0 l 0 0 w1 (Laid.below HG.out HB1.out) (Kd.C_below HR.out HB1.out) HC.out HT.out).mono ?_; rintro e w2 ⟨v2, rfl, ho, hb⟩; have HB2 := Lib.hid (below_step HB1.out hb); obtain ⟨A2, c2, e2⟩ := Kd.R_slice ho; subst e2; have HL := Lib.hid (show l.length ≤ c2 ∧ Kd.C k34 w2 A2 l.length l from (Kd.R_reads' ho).2); clear ho hb)
    | (go_at_call 14; refine (lex_Join.calls A2 c2 l [] 2 w2 (Laid.below HG.out HB2.out) HL.out.2 HL.out.1 HJ.out).mono ?_; rintro e w3 ⟨v3, rfl, ho, hb⟩; have HB3 := Lib.hid (below_step HB2.out hb); clear ho hb))
  go_ret
  exact ⟨rfl, HB3.out⟩

set_option maxHeartbeats 4000000 in
set_option maxRecDepth 100000 in
theorem again_ok (A0 : Option Addr) (c0 : Nat) (l0 : List Int) (w : World) (hG : Laid w) (hr0 : Kd.C (Kd.int .u8) w A0 l0.length l0) (hc0 : l0.length ≤ c0) (hle : l0.length ≤ 2000) (l m : List Tok) (x : List Int) (k : Nat)
    (hT : lex_Tokens.f l0 = some (l, 0, 0)) (hJ : lex_Join.f l = some (x, 0)) (hT2 : lex_Tokens.f x = some (m, 0, 0)) (hJ2 : lex_Join.f m = some (x, 0)) (hA : chalklineref05_Alike.f k l m = some true) :
    Calls Tryd.prog 5 #[.slice A0 l0.length c0] w fun e w' => e = .returned (.bool true) ∧ Below w.heap.size w w' := by
  have HG := Lib.hid hG; clear hG
  have HR := Lib.hid hr0; clear hr0
  have HC := Lib.hid hc0; clear hc0
  have HT := Lib.hid hT; clear hT
  have HJ := Lib.hid hJ; clear hJ
  have HT2 := Lib.hid hT2; clear hT2
  have HJ2 := Lib.hid hJ2; clear hJ2
  have HA := Lib.hid hA; clear hA
  have z0 : decide (2000 < (l0.length : Int)) = false := decide_eq_false (by omega)
  have z1 : decide (2000 < l0.length) = false := decide_eq_false (by omega)
  go_enter Tryd.func5, Tryd.ntmps5
  go_wp2_with (first
    | (go_at_call 9; refine (live_calls w HG.out).mono ?_; rintro e w1 ⟨rfl, hb⟩; have HB1 := Lib.hid hb; clear hb)
    | (go_at_call 10; have HQ := HT; clear HT; refine (lex_Tokens.calls A0 c0 l0 l 0 0 w1 (Laid.below HG.out HB1.out) (Kd.C_below HR.out HB1.out) HC.out HQ.out).mono ?_; rintro e w2 ⟨v2, rfl, ho, hb⟩; have HB2 := Lib.hid (below_step HB1.out hb); obtain ⟨A2, c2, e2⟩ := Kd.R_slice ho; subst e2; have HL := Lib.hid (show l.length ≤ c2 ∧ Kd.C k34 w2 A2 l.length l from (Kd.R_reads' ho).2); clear ho hb HQ)
    | (go_at_call 14; have HQ := HJ; clear HJ; refine (lex_Join.calls A2 c2 l x 0 w2 (Laid.below HG.out HB2.out) HL.out.2 HL.out.1 HQ.out).mono ?_; rintro e w3 ⟨v3, rfl, ho, hb⟩; have HB3 := Lib.hid (below_step HB2.out hb); obtain ⟨A3, c3, e3⟩ := Kd.V_slice ho; subst e3; have HX := Lib.hid (Kd.V_reads' ho).2; have HL3 := Lib.hid (Kd.C_below HL.out.2 hb); clear ho hb HQ)
    | (go_at_call 10; have HQ := HT2; clear HT2; refine (lex_Tokens.calls A3 c3 x m 0 0 w3 (Laid.below HG.out HB3.out) HX.out.2 HX.out.1 HQ.out).mono ?_; rintro e w4 ⟨v4, rfl, ho, hb⟩; have HB4 := Lib.hid (below_step HB3.out hb); obtain ⟨A4, c4, e4⟩ := Kd.R_slice ho; subst e4; have HM := Lib.hid (show m.length ≤ c4 ∧ Kd.C k34 w4 A4 m.length m from (Kd.R_reads' ho).2); have HL4 := Lib.hid (Kd.C_below HL3.out hb); have HX4 := Lib.hid (Kd.C_below HX.out.2 hb); clear ho hb HQ)
    | (go_at_call 14; have HQ := HJ2; clear HJ2; refine (lex_Join.calls A4 c4 m x 0 w4 (Laid.below HG.out HB4.out) HM.out.2 HM.out.1 HQ.out).mono ?_; rintro e w5 ⟨v5, rfl, ho, hb⟩; have HB5 := Lib.hid (below_step HB4.out hb); obtain ⟨A5, c5, e5⟩ := Kd.V_slice ho; subst e5; have HY := Lib.hid (Kd.V_reads' ho).2; have HL5 := Lib.hid (Kd.C_below HL4.out hb); have HX5 := Lib.hid (Kd.C_below HX4.out hb); have HM5 := Lib.hid (Kd.C_below HM.out.2 hb); clear ho hb HQ)
    | (go_at_call 16; refine (chalklineref05_Alike.calls k A2 c2 l A4 c4 m true w5 HL5.out HL.out.1 HM5.out HM.out.1 HA.out).mono ?_; rintro e w6 ⟨rfl, hd⟩; have hb := hd.below; have HB6 := Lib.hid (below_step HB5.out hb); have hs3 := Kd.C_string (P := Tryd.prog) (w := w6) (c := c3) Tryd.underlying22 Tryd.underlying5 Tryd.underlying9 (Kd.C_below HX5.out hb); have hs4 := Kd.C_string (P := Tryd.prog) (w := w6) (c := c5) Tryd.underlying22 Tryd.underlying5 Tryd.underlying9 (Kd.C_below HY.out.2 hb); clear hd hb))
  go_ret
  exact ⟨rfl, HB6.out⟩

theorem alike_l0 (l m : List Tok) (xs : List (Int × List Int)) (hl : shape l xs) (hm : shape m xs) (hn : l.length ≤ 4294967296) : ∀ (d i k : Nat), i + d = l.length → d + 1 ≤ k → chalklineref05_Alike.l0 k l m (l.length : Int) (i : Int) = some true
  | 0, i, k, hd, hk => by
    obtain ⟨k, rfl⟩ : ∃ m, k = m + 1 := ⟨k - 1, by omega⟩
    simp only [chalklineref05_Alike.l0]
    rw [if_neg (by omega)]
  | d + 1, i, k, hd, hk => by
    obtain ⟨k, rfl⟩ : ∃ m, k = m + 1 := ⟨k - 1, by omega⟩
    have e1 : wrap64 ((i : Int) + 1) = ((i + 1 : Nat) : Int) := by unfold wrap64; omega
    have ih := alike_l0 l m xs hl hm hn d (i + 1) k (by omega) (by omega)
    have h1 := shape_len l xs hl
    have h2 := shape_len m xs hm
    obtain ⟨a1, a2⟩ := shape_at l xs i hl (by omega)
    obtain ⟨b1, b2⟩ := shape_at m xs i hm (by omega)
    simp only [chalklineref05_Alike.l0]
    rw [if_pos (by omega), if_pos (by omega), if_pos (by omega), if_pos (by omega), a1, a2, b1, b2, if_pos rfl, if_pos rfl, e1]
    exact ih

theorem lexAgain_walk (A0 : Option Addr) (c0 : Nat) (l0 : List Int) (w : World) (hG : Laid w) (hr0 : Kd.C (Kd.int .u8) w A0 l0.length l0) (hc0 : l0.length ≤ c0) (hB : l0.all isB = true) :
    Calls Tryd.prog 5 #[.slice A0 l0.length c0] w fun e w' => e = .returned (.bool true) ∧ Below w.heap.size w w' := by
  have hm := hr0.2.1
  by_cases hs : 2000 < l0.length
  · exact again_big A0 c0 l0 w hG hm hs
  · have ht : lex_Tokens.f l0 = some (resOf (lx (l0.length + 1) l0 0)) := by
      unfold lex_Tokens.f
      rw [if_neg (by omega), if_pos hB]
    cases hr : lx (l0.length + 1) l0 0 with
    | error a =>
      rw [hr] at ht
      exact again_err A0 c0 l0 w hG hr0 hc0 (by omega) a ht
    | ok l =>
      rw [hr] at ht
      have hlen := lx_len _ _ _ _ hr
      obtain ⟨_, hin, _⟩ := lx_ok _ _ _ _ hr
      obtain ⟨xs, hsh⟩ := lx_shape _ _ _ _ hB hr
      have hsl := shape_len l xs hsh
      have hj := shape_joinR l xs hsh (by omega) (fun t ht => by have := hin t ht; omega)
      by_cases hbig : 16384 < (joinC xs).length
      · rw [if_pos hbig] at hj
        refine again_long A0 c0 l0 w hG hr0 hc0 (by omega) l ht hj ?_
        cases xs with
        | nil => exact absurd hbig (by decide)
        | cons x r => rw [List.length_cons] at hsl; omega
      · rw [if_neg hbig] at hj
        have htk := shape_toks l xs hsh
        obtain ⟨m, hm2, hms⟩ := lx_joinC xs ((joinC xs).length + 1) 0 htk (by omega)
        have ht2 : lex_Tokens.f (joinC xs) = some (m, 0, 0) := by
          unfold lex_Tokens.f
          rw [if_neg (by omega), if_pos (joinC_bytes xs htk), hm2]
          rfl
        have hml := shape_len m xs hms
        have hj2 := shape_joinR m xs hms (by omega) (shape_size m xs hms 20000 (fun x hx => by have := joinC_part xs x hx; omega))
        rw [if_neg hbig] at hj2
        refine again_ok A0 c0 l0 w hG hr0 hc0 (by omega) l m _ (l.length + 1) ht hj ht2 hj2 ?_
        unfold chalklineref05_Alike.f
        rw [if_pos (by omega)]
        exact alike_l0 l m xs hsh hms (by omega) l.length 0 _ (by omega) (by omega)
end Go.Proofs.YtbnelajjadhcgaaDoor.G
