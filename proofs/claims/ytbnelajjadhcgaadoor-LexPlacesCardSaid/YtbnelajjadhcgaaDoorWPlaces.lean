-- The walk of LexPlaces: true for every source.
import Derived.Test.YtbnelajjadhcgaaDoorLive
import Derived.Test.YtbnelajjadhcgaaDoorNoth
import Derived.Test.YtbnelajjadhcgaaDoorLxr
namespace Go.Proofs.YtbnelajjadhcgaaDoor.G
set_option linter.unusedVariables false
set_option linter.unusedSimpArgs false
open Go.RowKit Go.Proofs.YtbnelajjadhcgaaDoorW.PrintWords Go.Proofs.YtbnelajjadhcgaaDoorW.PrintLast Go.Proofs.YtbnelajjadhcgaaDoorW.PrintMore

theorem tokens_le (l0 : List Int) (hle : l0.length ≤ 2000) (hB : l0.all isB = true) : lex_Tokens.f l0 = some (resOf (lx (l0.length + 1) l0 0)) := by
  unfold lex_Tokens.f
  rw [if_neg (by omega), if_pos hB]

/-- b[a:b], read. -/
theorem cut_mid {A : Option Addr} {c : Nat} {l : List Int} (hc : l.length ≤ c) (a b : Nat) (ha : a ≤ b) (hb : b ≤ l.length) :
    ∃ A1 : Option Addr, (∀ W : World, (Instr.slice 22 (.slice A l.length c) (some (.int .i64 (a : Int))) (some (.int .i64 (b : Int))) none).run Tryd.prog W = .ok (.slice A1 ((l.take b).drop a).length (c - a)) W) ∧
      (∀ W : World, Kd.C (Kd.int .u8) W A l.length l → Kd.C (Kd.int .u8) W A1 ((l.take b).drop a).length ((l.take b).drop a)) ∧ ((l.take b).drop a).length ≤ c - a := by
  obtain ⟨i0, hi, _, hsz, _⟩ := info_parts info5
  obtain ⟨A1, h1, h2, h3⟩ := print_mid_of (P := Tryd.prog) (Value.int .u8) 0 22 5 .i64 .i64 Tryd.underlying22 hi hsz A c l (a : Int) (b : Int) (by omega) (by omega) (by omega) hc
  rw [Int.toNat_natCast] at h1 h2 h3
  try rw [Int.toNat_natCast] at h1
  try rw [Int.toNat_natCast] at h2
  try rw [Int.toNat_natCast] at h3
  have hlen : ((l.take b).drop a).length = b - a := by rw [List.length_drop, List.length_take]; omega
  refine ⟨A1, fun W => ?_, fun W h => Kd.C_of_reads (h1 := fun _ => rfl) (h2 W (Kd.reads_of_C h)), ?_⟩
  · exact h1 W
  · exact h3

set_option maxHeartbeats 8000000 in
set_option maxRecDepth 100000 in
theorem places_ok (A0 : Option Addr) (c0 : Nat) (l0 : List Int) (w : World) (hG : Laid w) (hr0 : Kd.C (Kd.int .u8) w A0 l0.length l0) (hc0 : l0.length ≤ c0) (hle : l0.length ≤ 2000) (l : List Tok)
    (hT : lex_Tokens.f l0 = some (l, 0, 0)) (hg : good l l0 0) (hl : l.length ≤ 2001) :
    Calls Tryd.prog 6 #[.slice A0 l0.length c0] w fun e w' => e = .returned (.bool true) ∧ Below w.heap.size w w' := by
  have HG := Lib.hid hG; clear hG
  have HR := Lib.hid hr0; clear hr0
  have HC := Lib.hid hc0; clear hc0
  have HT := Lib.hid hT; clear hT
  have hpos : 0 < l.length := by
    cases l with
    | nil => exact hg.elim
    | cons _ _ => simp
  have H0 := Lib.hid (show PlAt l l0 0 0 from ⟨Nat.zero_le _, fun e => by omega, fun _ => by simpa using hg⟩)
  clear hg
  have z0 : decide (2000 < (l0.length : Int)) = false := decide_eq_false (by omega)
  have z1 : decide (2000 < l0.length) = false := decide_eq_false (by omega)
  go_enter Tryd.func6, Tryd.ntmps6
  go_wp2_with (first
    | (go_at_call 9; refine (live_calls w HG.out).mono ?_; rintro e w1 ⟨rfl, hb⟩; have HB1 := Lib.hid hb; clear hb)
    | (go_at_call 10; refine (lex_Tokens.calls A0 c0 l0 l 0 0 w1 (Laid.below HG.out HB1.out) (Kd.C_below HR.out HB1.out) HC.out HT.out).mono ?_; rintro e w2 ⟨v2, rfl, ho, hb⟩; have HB2 := Lib.hid (below_step HB1.out hb); have HO := Lib.hid ho; clear ho hb; obtain ⟨A2, c2, e2⟩ := Kd.R_slice HO.out; subst e2))
  have HL := Lib.hid (show l.length ≤ c2 ∧ Kd.C k34 w2 A2 l.length l from (Kd.R_reads' HO.out).2)
  clear HB1 HO HT
  go_loopg [6, 36] l.length (fun kq v6 v36 wr => ∃ i e : Nat, i ≤ l.length ∧ kq = l.length - i ∧ v6 = .int .i64 (e : Int) ∧ v36 = .int .i64 (i : Int) ∧ Hid (PlAt l l0 i e) ∧ Hid (Below w2.heap.size w2 wr))
  case atStart => exact ⟨0, 0, Nat.zero_le _, by omega, rfl, rfl, H0, Lib.hid (Below.refl _ _)⟩
  case round =>
    clear H0 z0 z1
    obtain ⟨i, e, hi, hgk, rfl, rfl, HP, HB⟩ := hrel
    have hee : e ≤ l0.length := HP.out.1
    by_cases hlt : i < l.length
    · have hltz : (i : Int) < (l.length : Int) := by omega
      obtain ⟨ad2, e3, h0, h1, h2⟩ := at_T34 (Kd.C_below HL.out.2 HB.out) (i : Int) (by omega) hltz
      rw [Int.toNat_natCast] at h0 h1 h2
      subst e3
      obtain ⟨kd, g, s, hrd, hs1, hs2, hs3, hs4, hs5⟩ := HP.out.step hlt
      rw [hrd] at h0 h1 h2
      simp only at h0 h1 h2
      obtain ⟨A5, hcA, hcB, hcC⟩ := cut_mid (A := A0) HC.out (e + g.length) (e + g.length + s.length) (by omega) hs4
      obtain ⟨A6, hdA, hdB, hdC⟩ := cut_mid (A := A0) HC.out e (e + g.length) (by omega) (by omega)
      rw [hs1] at hcA hcB hcC
      rw [hs2] at hdA hdB hdC
      have HP1 := Lib.hid hs5
      have HNF := Lib.hid (nothing_f g (by omega) (2 * g.length + 1) (Nat.le_refl _) hs3)
      have hsz : (strOfNums s).size = s.length := strOfNums_size s
      have HDC := Lib.hid hdC
      have HDB := Lib.hid hdB
      have HCS := Lib.hid (fun (W : World) (h : Kd.C (Kd.int .u8) W A0 l0.length l0) => Kd.C_string (P := Tryd.prog) (c := c0 - (e + g.length)) Tryd.underlying22 Tryd.underlying5 Tryd.underlying9 (hcB W h))
      clear hs1 hs2 hs3 hs5 hrd hcB hcC hdB hdC
      generalize strOfNums s = tx at h1 HCS hsz
      have t1 : decide (((e + g.length : Nat) : Int) < (e : Int)) = false := decide_eq_false (by omega)
      have t2 : decide (e + g.length < e) = false := decide_eq_false (by omega)
      have t3 : decide ((l0.length : Int) < ((e + g.length + s.length : Nat) : Int)) = false := decide_eq_false (by omega)
      have t4 : decide (l0.length < e + g.length + s.length) = false := decide_eq_false (by omega)
      have v1 : ∀ [Inhabited Nat], IntKind.i64.wrap (((e + g.length : Nat) : Int) + (tx.size : Int)) = ((e + g.length + s.length : Nat) : Int) := by intro _; rw [hsz, i64_w]; unfold wrap64; omega
      have v2 : ∀ [Inhabited Nat], wrap64 (((e + g.length : Nat) : Int) + (tx.size : Int)) = ((e + g.length + s.length : Nat) : Int) := by intro _; rw [hsz]; unfold wrap64; omega
      have v3 : ∀ [Inhabited Nat], ((e + g.length : Nat) : Int) + (tx.size : Int) = ((e + g.length + s.length : Nat) : Int) := by intro _; rw [hsz]; omega
      have w1v : ∀ [Inhabited Nat], IntKind.i64.wrap ((i : Int) + 1) = ((i + 1 : Nat) : Int) := by intro _; rw [i64_w]; unfold wrap64; omega
      have HSZ := Lib.hid hsz; clear hsz
      generalize hp : e + g.length = p at *
      generalize hq : p + s.length = q at *
      go_wp2_with (first | ((with_reducible refine gate_dst (N := 8) rfl ?_); (try (refine gate_guard (by rfl) ?_; dsimp only)); refine box_event ?hg (N := 8) ?hd (cs := #[.int .i64 0, .string (⟨#[]⟩ : ByteArray), .int .i64 0]) (t := 34) ?hr ?_; (case hd => rfl); (case hg => rfl); (case hr => first | (go_simp; done) | (go_simp; rfl)); intro gb hg w3 hbox hb; have hcz0 : w3.cell? ⟨gb, 0, none⟩ = some (.int .i64 0) := (blk_cell hbox 0).trans rfl; have hcz1 : w3.cell? ⟨gb, 1, none⟩ = some (.string (⟨#[]⟩ : ByteArray)) := (blk_cell hbox 1).trans rfl; have hcz2 : w3.cell? ⟨gb, 2, none⟩ = some (.int .i64 0) := (blk_cell hbox 2).trans rfl; have hfz0 := blk_frozen hbox 0; have hfz1 := blk_frozen hbox 1; have hfz2 := blk_frozen hbox 2; have HB3 := Lib.hid (below_step HB.out hb); have GE := Lib.hid (show w2.heap.size ≤ gb by rw [hg]; exact below_size HB.out); clear hg hbox hb))
      have q0 := congrFun (congrArg World.cell? (rfl : (((w3.setCell ⟨gb, 0, none⟩ (.int .i64 kd)).setCell ⟨gb, 1, none⟩ (.string tx)).setCell ⟨gb, 2, none⟩ (.int .i64 (p : Int))) = _))
      have hb4 := Lib.hid (below_set (j := 2) (v := .int .i64 (p : Int)) (below_set (j := 1) (v := .string tx) (below_set (j := 0) (v := .int .i64 kd) HB3.out GE.out) GE.out) GE.out)
      have s0 : (((w3.setCell ⟨gb, 0, none⟩ (.int .i64 kd)).setCell ⟨gb, 1, none⟩ (.string tx)).setCell ⟨gb, 2, none⟩ (.int .i64 (p : Int))).cell? ⟨gb, 1, none⟩ = some (.string tx) := by go_simp
      have s1 : (((w3.setCell ⟨gb, 0, none⟩ (.int .i64 kd)).setCell ⟨gb, 1, none⟩ (.string tx)).setCell ⟨gb, 2, none⟩ (.int .i64 (p : Int))).cell? ⟨gb, 2, none⟩ = some (.int .i64 (p : Int)) := by go_simp
      clear q0 h0 h1 h2 hcz0 hcz1 hcz2 hfz0 hfz1 hfz2 HB3
      generalize (((w3.setCell ⟨gb, 0, none⟩ (.int .i64 kd)).setCell ⟨gb, 1, none⟩ (.string tx)).setCell ⟨gb, 2, none⟩ (.int .i64 (p : Int))) = w4 at hb4 s0 s1 ⊢
      have HR4 := Lib.hid (Kd.C_below HR.out (below_step HB2.out hb4.out))
      have hcs : ∀ n, (convert 22 9 (.slice A5 s.length (c0 - p))).run Tryd.prog (w4.drewN n) = .ok (.string tx) (w4.drewN n) := fun n => HCS.out _ (Kd.C_drewN HR4.out n)
      go_quiet ((go_at_call 17; exact Calls.quiet_of (v := .bool true) ((chalklinelaw05_nothing.calls (2 * g.length + 1) A6 (c0 - e) g true _ (HDB.out _ (Kd.C_drewN HR4.out _)) HDC.out HNF.out).mono fun _ _ h => ⟨h.1, h.2.out⟩)))
      have HB5 := Lib.hid (pw_below_drewN hb4.out nq)
      clear hcs
      go_wp2
      go_roundg (l.length - (i + 1))
      case measure => omega
      case rel => exact ⟨i + 1, q, by omega, rfl, by first | rfl | (rw [v1]) | (rw [v3]), by go_num, HP1, HB5⟩
    · have hltz : ¬ (i : Int) < (l.length : Int) := by omega
      have hil : i = l.length := by omega
      have hel := HP.out.2.1 hil
      subst hil hel
      have e1 : ((l0.length : Int) == (l0.length : Int)) = true := beq_self_eq_true _
      have e3 : decide (0 < (l.length : Int)) = true := decide_eq_true (by omega)
      have e4 : decide (0 < l.length) = true := decide_eq_true (by omega)
      have HBe := Lib.hid (below_step HB2.out HB.out)
      go_wp2
      go_ret
      exact ⟨rfl, HBe.out⟩
set_option maxHeartbeats 4000000 in
set_option maxRecDepth 100000 in
theorem places_big (A0 : Option Addr) (c0 : Nat) (l0 : List Int) (w : World) (hG : Laid w) (hm : l0.length ≤ 9223372036854775807) (hle : 2000 < l0.length) :
    Calls Tryd.prog 6 #[.slice A0 l0.length c0] w fun e w' => e = .returned (.bool true) ∧ Below w.heap.size w w' := by
  have HG := Lib.hid hG; clear hG
  have z0 : decide (2000 < (l0.length : Int)) = true := decide_eq_true (by omega)
  have z1 : decide (2000 < l0.length) = true := decide_eq_true (by omega)
  clear hle
  go_enter Tryd.func6, Tryd.ntmps6
  go_wp2_with (first
    | (go_at_call 9; refine (live_calls w HG.out).mono ?_; rintro e w1 ⟨rfl, hb⟩; have HB1 := Lib.hid hb; clear hb))
  go_ret
  exact ⟨rfl, HB1.out⟩

set_option maxHeartbeats 4000000 in
set_option maxRecDepth 100000 in
theorem places_err (A0 : Option Addr) (c0 : Nat) (l0 : List Int) (w : World) (hG : Laid w) (hr0 : Kd.C (Kd.int .u8) w A0 l0.length l0) (hc0 : l0.length ≤ c0) (hle : l0.length ≤ 2000) (a : Int)
    (hT : lex_Tokens.f l0 = some ([], a, 50)) (h0 : 0 ≤ a) (h1 : a < l0.length) :
    Calls Tryd.prog 6 #[.slice A0 l0.length c0] w fun e w' => e = .returned (.bool true) ∧ Below w.heap.size w w' := by
  have HG := Lib.hid hG; clear hG
  have HR := Lib.hid hr0; clear hr0
  have HC := Lib.hid hc0; clear hc0
  have HT := Lib.hid hT; clear hT
  have z0 : decide (2000 < (l0.length : Int)) = false := decide_eq_false (by omega)
  have z1 : decide (2000 < l0.length) = false := decide_eq_false (by omega)
  have z2 : decide (0 ≤ a) = true := decide_eq_true h0
  have z3 : decide (a < (l0.length : Int)) = true := decide_eq_true h1
  clear h0 h1
  go_enter Tryd.func6, Tryd.ntmps6
  go_wp2_with (first
    | (go_at_call 9; refine (live_calls w HG.out).mono ?_; rintro e w1 ⟨rfl, hb⟩; have HB1 := Lib.hid hb; clear hb)
    | (go_at_call 10; refine (lex_Tokens.calls A0 c0 l0 [] a 50 w1 (Laid.below HG.out HB1.out) (Kd.C_below HR.out HB1.out) HC.out HT.out).mono ?_; rintro e w2 ⟨v2, rfl, ho, hb⟩; have HB2 := Lib.hid (below_step HB1.out hb); clear ho hb))
  go_ret
  exact ⟨rfl, HB2.out⟩

theorem lexPlaces_walk (A0 : Option Addr) (c0 : Nat) (l0 : List Int) (w : World) (hG : Laid w) (hr0 : Kd.C (Kd.int .u8) w A0 l0.length l0) (hc0 : l0.length ≤ c0) (hB : l0.all isB = true) :
    Calls Tryd.prog 6 #[.slice A0 l0.length c0] w fun e w' => e = .returned (.bool true) ∧ Below w.heap.size w w' := by
  have hm := hr0.2.1
  by_cases hs : 2000 < l0.length
  · exact places_big A0 c0 l0 w hG hm hs
  · have ht := tokens_le l0 (by omega) hB
    cases hr : lx (l0.length + 1) l0 0 with
    | error a =>
      have := lx_err _ _ _ _ (by omega) hr
      rw [hr] at ht
      exact places_err A0 c0 l0 w hG hr0 hc0 (by omega) a ht (by omega) (by omega)
    | ok l =>
      rw [hr] at ht
      have hlen := lx_len _ _ _ _ hr
      exact places_ok A0 c0 l0 w hG hr0 hc0 (by omega) l ht (lx_good _ _ _ _ hr) (by omega)
end Go.Proofs.YtbnelajjadhcgaaDoor.G
