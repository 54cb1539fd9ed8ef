-- WRITTEN BY gprint.py, a program of this seat: not trusted: Lean checks it.
import Derived.Test.YtbnelajjadhcgaaDoorGx0
import Derived.Test.YtbnelajjadhcgaaDoorGx5
namespace Go.Proofs.YtbnelajjadhcgaaDoor.G
open Go.RowKit Go.Proofs.YtbnelajjadhcgaaDoorW.PrintWords Go.Proofs.YtbnelajjadhcgaaDoorW.PrintLast Go.Proofs.YtbnelajjadhcgaaDoorW.PrintMore
attribute [local go_sem] max2_int min2_int max_two min_two max_three min_three max_four min_four   -- for this text's walks alone
set_option linter.unusedVariables false
set_option linter.unusedSimpArgs false

/-! ### chalklineref05_Join: function 15 -/
mutual
def chalklineref05_Join.j0 : Nat → List (S34) → Bool → Option (List Int × Int)
  | 0, _, _ => none
  | k + 1, x0, x31 => if x31 = true then (some (([] : List Int), 1)) else (if 0 ≤ (wrap64 ((x0.length : Int) - 1)) then (if (wrap64 ((x0.length : Int) - 1)) ≤ (x0.length : Int) then ((some (x0.take ((wrap64 ((x0.length : Int) - 1)) : Int).toNat : List (S34))).bind fun y156 => (chalklineref05_Join.l0 k x0 y156 (y156.length : Int) 0)) else (none)) else (none))
def chalklineref05_Join.l0 : Nat → List (S34) → List (S34) → Int → Int → Option (List Int × Int)
  | 0, _, _, _, _ => none
  | k + 1, x0, x36, x37, x38 => if x38 < x37 then (if 0 ≤ x38 then (if x38 < (x36.length : Int) then ((chalklineref05_may.f k ((rd_T34 x36 x38).f0) ((rd_T34 x36 x38).f1) ((rd_T34 x36 x38).f2)).bind fun t162 => (if t162 = true then (chalklineref05_Join.l0 k x0 x36 x37 (wrap64 (x38 + 1))) else (some (([] : List Int), 1)))) else (none)) else (none)) else (if 0 ≤ (wrap64 ((x0.length : Int) - 1)) then (if (wrap64 ((x0.length : Int) - 1)) ≤ (x0.length : Int) then ((some (x0.take ((wrap64 ((x0.length : Int) - 1)) : Int).toNat : List (S34))).bind fun y163 => (chalklineref05_Join.l1 k ([] : List Int) y163 (y163.length : Int) 0)) else (none)) else (none))
def chalklineref05_Join.l1 : Nat → List Int → List (S34) → Int → Int → Option (List Int × Int)
  | 0, _, _, _, _ => none
  | k + 1, x6, x50, x51, x52 => if x52 < x51 then (if 0 ≤ x52 then (if x52 < (x50.length : Int) then (if x52 > 0 then (if x6.length < 140737488355328 then ((some (x6 ++ [32] : List Int)).bind fun y169 => (if y169.length + ((rd_T34 x50 x52).f1).size < 140737488355328 then (chalklineref05_Join.l1 k (y169 ++ bytesOf ((rd_T34 x50 x52).f1)) x50 x51 (wrap64 (x52 + 1))) else (none))) else (none)) else (if x6.length + ((rd_T34 x50 x52).f1).size < 140737488355328 then (chalklineref05_Join.l1 k (x6 ++ bytesOf ((rd_T34 x50 x52).f1)) x50 x51 (wrap64 (x52 + 1))) else (none))) else (none)) else (none)) else (if (x6.length : Int) > 16384 then (some (([] : List Int), 2)) else (some (x6, 0)))
end
def chalklineref05_Join.f (k : Nat) (l0 : List (S34)) : Option (List Int × Int) := if (l0.length : Int) = 0 then (chalklineref05_Join.j0 k l0 true) else (if 0 ≤ (wrap64 ((l0.length : Int) - 1)) then (if (wrap64 ((l0.length : Int) - 1)) < (l0.length : Int) then (if ((rd_T34 l0 (wrap64 ((l0.length : Int) - 1))).f0) = 4 then (chalklineref05_Join.j0 k l0 (((rd_T34 l0 (wrap64 ((l0.length : Int) - 1))).f1).toList != ([] : List UInt8))) else (chalklineref05_Join.j0 k l0 true)) else (none)) else (none))
theorem chalklineref05_Join.mono_l : ∀ k, (∀ y0 y1, LeO (chalklineref05_Join.j0 k y0 y1) (chalklineref05_Join.j0 (k + 1) y0 y1)) ∧ (∀ y0 y1 y2 y3, LeO (chalklineref05_Join.l0 k y0 y1 y2 y3) (chalklineref05_Join.l0 (k + 1) y0 y1 y2 y3)) ∧ (∀ y0 y1 y2 y3, LeO (chalklineref05_Join.l1 k y0 y1 y2 y3) (chalklineref05_Join.l1 (k + 1) y0 y1 y2 y3))
  | 0 => ⟨fun _ _ r h => by simp [chalklineref05_Join.j0] at h, fun _ _ _ _ r h => by simp [chalklineref05_Join.l0] at h, fun _ _ _ _ r h => by simp [chalklineref05_Join.l1] at h⟩
  | k + 1 => by
    obtain ⟨ih0, ih1, ih2⟩ := chalklineref05_Join.mono_l k
    refine ⟨?_, ?_, ?_⟩
    · intro y0 y1
      unfold chalklineref05_Join.j0
      repeat' first
      | (with_reducible exact ih0 _ _)
      | (with_reducible exact ih1 _ _ _ _)
      | (with_reducible exact ih2 _ _ _ _)
      | (with_reducible exact chalklineref05_may.mono _ _ _ _)
      | (with_reducible exact LeO.refl _)
      | (with_reducible exact LeO.none _)
      | (with_reducible refine LeO.ite ?_ ?_)
      | (with_reducible refine LeO.bind ?_ (fun _ => ?_))
      | exact ih0 _ _
      | exact ih1 _ _ _ _
      | exact ih2 _ _ _ _
      | exact chalklineref05_may.mono _ _ _ _
      | exact LeO.none _
      | refine LeO.ite ?_ ?_
      | refine LeO.bind ?_ (fun _ => ?_)
    · intro y0 y1 y2 y3
      unfold chalklineref05_Join.l0
      repeat' first
      | (with_reducible exact ih0 _ _)
      | (with_reducible exact ih1 _ _ _ _)
      | (with_reducible exact ih2 _ _ _ _)
      | (with_reducible exact chalklineref05_may.mono _ _ _ _)
      | (with_reducible exact LeO.refl _)
      | (with_reducible exact LeO.none _)
      | (with_reducible refine LeO.ite ?_ ?_)
      | (with_reducible refine LeO.bind ?_ (fun _ => ?_))
      | exact ih0 _ _
      | exact ih1 _ _ _ _
      | exact ih2 _ _ _ _
      | exact chalklineref05_may.mono _ _ _ _
      | exact LeO.none _
      | refine LeO.ite ?_ ?_
      | refine LeO.bind ?_ (fun _ => ?_)
    · intro y0 y1 y2 y3
      unfold chalklineref05_Join.l1
      repeat' first
      | (with_reducible exact ih0 _ _)
      | (with_reducible exact ih1 _ _ _ _)
      | (with_reducible exact ih2 _ _ _ _)
      | (with_reducible exact chalklineref05_may.mono _ _ _ _)
      | (with_reducible exact LeO.refl _)
      | (with_reducible exact LeO.none _)
      | (with_reducible refine LeO.ite ?_ ?_)
      | (with_reducible refine LeO.bind ?_ (fun _ => ?_))
      | exact ih0 _ _
      | exact ih1 _ _ _ _
      | exact ih2 _ _ _ _
      | exact chalklineref05_may.mono _ _ _ _
      | exact LeO.none _
      | refine LeO.ite ?_ ?_
      | refine LeO.bind ?_ (fun _ => ?_)
theorem chalklineref05_Join.mono : ∀ a0 k, LeO (chalklineref05_Join.f k a0) (chalklineref05_Join.f (k + 1) a0) := by
  intro a0 k
  obtain ⟨ih0, ih1, ih2⟩ := chalklineref05_Join.mono_l k
  unfold chalklineref05_Join.f
  repeat' first
      | (with_reducible exact ih0 _ _)
      | (with_reducible exact ih1 _ _ _ _)
      | (with_reducible exact ih2 _ _ _ _)
      | (with_reducible exact chalklineref05_may.mono _ _ _ _)
      | (with_reducible exact LeO.refl _)
      | (with_reducible exact LeO.none _)
      | (with_reducible refine LeO.ite ?_ ?_)
      | (with_reducible refine LeO.bind ?_ (fun _ => ?_))
      | exact ih0 _ _
      | exact ih1 _ _ _ _
      | exact ih2 _ _ _ _
      | exact chalklineref05_may.mono _ _ _ _
      | exact LeO.none _
      | refine LeO.ite ?_ ?_
      | refine LeO.bind ?_ (fun _ => ?_)
set_option maxHeartbeats 8000000 in
set_option maxRecDepth 100000 in
theorem chalklineref05_Join.calls (k : Nat) (A0 : Option Addr) (c0 : Nat) (l0 : List (S34)) (r1 : List Int) (r2 : Int) (w : World) (hr0 : Kd.C k34 w A0 l0.length l0) (hc0 : l0.length ≤ c0) (h : chalklineref05_Join.f k l0 = some (r1, r2)) :
    Calls Tryd.prog 15 #[.slice A0 l0.length c0] w fun e w' => ∃ v0_ : Value, e = .returned (.tuple #[v0_, .int .i64 r2]) ∧ Kd.R (Kd.int .u8) 5 w' w.heap.size (fun _ => True) v0_ r1 ∧ Below w.heap.size w w' := by
  have hu34 := Tryd.underlying34
  have HR0 := Aside0.mk hr0
  have HC0 := Aside0.mk hc0
  clear hr0 hc0
  have HB := Aside0.mk (Below.refl w.heap.size w)
  have H : (if (l0.length : Int) = 0 then (chalklineref05_Join.j0 k l0 true) else (if 0 ≤ (wrap64 ((l0.length : Int) - 1)) then (if (wrap64 ((l0.length : Int) - 1)) < (l0.length : Int) then (if ((rd_T34 l0 (wrap64 ((l0.length : Int) - 1))).f0) = 4 then (chalklineref05_Join.j0 k l0 (((rd_T34 l0 (wrap64 ((l0.length : Int) - 1))).f1).toList != ([] : List UInt8))) else (chalklineref05_Join.j0 k l0 true)) else (none)) else (none))) = some (r1, r2) := h
  clear h
  have HC2 := Aside0.mk H
  clear H
  go_enter Tryd.func15, Tryd.ntmps15
  go_upto_region 1 with (fail)
  go_cut [31] (fun v31 wc => ∃ (kq : Nat) (x31_1 : Bool), v31 = .bool x31_1 ∧ Aside0 (chalklineref05_Join.j0 kq l0 x31_1 = some (r1, r2)) ∧ Aside0 (kq ≤ k) ∧ Aside0 (Below w.heap.size w wc))
  case first =>
    have H := HC2.out
    clear HC2
    by_cases c3 : (l0.length : Int) = 0
    · rw [if_pos c3] at H
      have c3b0 : ((l0.length : Int) == 0) = true := beq_iff_eq.mpr c3
      have c3b1 : ((l0.length : Int) != 0) = false := bne_eq_false_iff_eq.mpr c3
      clear c3
      (first | rw [c3b0] | (simp only [i64_w, i32_w]; rw [c3b0]) | skip)
      have H' := Aside0.mk H
      clear H
      go_wp2
      go_meet
      case rel => exact ⟨_, (true), (by first | rfl | (simp; done) | (simp [*]; done)), H', ⟨by first | omega | exact Nat.le_refl _⟩, ⟨by repeat (first | (with_reducible first | exact HB.out | apply below_alloc | apply pw_below_drewN | apply below_drew1) | exact HB.out)⟩⟩
    · rw [if_neg c3] at H
      have c3b0 : ((l0.length : Int) == 0) = false := beq_eq_false_iff_ne.mpr c3
      have c3b1 : ((l0.length : Int) != 0) = true := bne_iff_ne.mpr c3
      have c3b2 : ¬ (l0 = []) := fun h_ => c3 (by rw [h_]; rfl)
      (first | rw [c3b0] | (simp only [i64_w, i32_w]; rw [c3b0]) | skip)
      obtain ⟨ji4, hji4⟩ : ∃ j_ : Int, (wrap64 ((l0.length : Int) - 1)) = j_ := ⟨_, rfl⟩
      replace H : (if 0 ≤ (ji4) then (if (ji4) < (l0.length : Int) then (if ((rd_T34 l0 (ji4)).f0) = 4 then (chalklineref05_Join.j0 k l0 (((rd_T34 l0 (ji4)).f1).toList != ([] : List UInt8))) else (chalklineref05_Join.j0 k l0 true)) else (none)) else (none)) = some (r1, r2) := by first | (rw [hji4] at H; exact H) | (simp only [hji4] at H ⊢; exact H)
      have hji4w : (IntKind.i64.wrap ((l0.length : Int) - 1)) = ji4 := (i64_w _).trans hji4
      by_cases c5 : 0 ≤ (ji4)
      · rw [if_pos c5] at H
        have c5b0 : decide (0 ≤ (ji4)) = true := decide_eq_true c5
        clear c5
        by_cases c6 : (ji4) < (l0.length : Int)
        · rw [if_pos c6] at H
          have c6b0 : decide ((ji4) < (l0.length : Int)) = true := decide_eq_true c6
          clear c6
          by_cases c7 : ((rd_T34 l0 (ji4)).f0) = 4
          · rw [if_pos c7] at H
            have c7b0 : (((rd_T34 l0 (ji4)).f0) == 4) = true := beq_iff_eq.mpr c7
            have c7b1 : (((rd_T34 l0 (ji4)).f0) != 4) = false := bne_eq_false_iff_eq.mpr c7
            clear c7
            have H' := Aside0.mk H
            clear H
            have p154 : 0 ≤ ((ji4) : Int) := of_decide_eq_true (by first | (with_reducible assumption) | assumption)
            have q154 : (ji4) < (l0.length : Int) := of_decide_eq_true (by first | (with_reducible assumption) | assumption)
            obtain ⟨ad154, e154, hx154_0, hx154_1, hx154_2⟩ := at_T34 HR0.out (ji4) p154 q154
            cases e154
            replace hx154_0 := (HB.out.cell (World.block_lt_of_cell? w _ hx154_0)).trans hx154_0
            replace hx154_1 := (HB.out.cell (World.block_lt_of_cell? w _ hx154_1)).trans hx154_1
            replace hx154_2 := (HB.out.cell (World.block_lt_of_cell? w _ hx154_2)).trans hx154_2
            replace p154 := eq_true p154
            replace q154 := eq_true q154
            have p155 : 0 ≤ ((ji4) : Int) := of_decide_eq_true (by first | (with_reducible assumption) | assumption)
            have q155 : (ji4) < (l0.length : Int) := of_decide_eq_true (by first | (with_reducible assumption) | assumption)
            obtain ⟨ad155, e155, hx155_0, hx155_1, hx155_2⟩ := at_T34 HR0.out (ji4) p155 q155
            obtain rfl : ad154 = ad155 := (by injection e155)
            replace hx155_0 := (HB.out.cell (World.block_lt_of_cell? w _ hx155_0)).trans hx155_0
            replace hx155_1 := (HB.out.cell (World.block_lt_of_cell? w _ hx155_1)).trans hx155_1
            replace hx155_2 := (HB.out.cell (World.block_lt_of_cell? w _ hx155_2)).trans hx155_2
            replace p155 := eq_true p155
            replace q155 := eq_true q155
            go_wp2
            go_meet
            case rel => exact ⟨_, ((((rd_T34 l0 (ji4)).f1).toList != ([] : List UInt8))), (by first | rfl | (simp; done) | (have hq : ∀ l : List UInt8, l.isEmpty = !(l != []) := (fun l => by cases l <;> rfl); simp [hq]; done) | (simp only [← hji4] <;> (first | rfl | simp)) | (simp [*]; done)), H', ⟨by first | omega | exact Nat.le_refl _⟩, ⟨by repeat (first | (with_reducible first | exact HB.out | apply below_alloc | apply pw_below_drewN | apply below_drew1) | exact HB.out)⟩⟩
          · rw [if_neg c7] at H
            have c7b0 : (((rd_T34 l0 (ji4)).f0) == 4) = false := beq_eq_false_iff_ne.mpr c7
            have c7b1 : (((rd_T34 l0 (ji4)).f0) != 4) = true := bne_iff_ne.mpr c7
            have H' := Aside0.mk H
            clear H
            have p154 : 0 ≤ ((ji4) : Int) := of_decide_eq_true (by first | (with_reducible assumption) | assumption)
            have q154 : (ji4) < (l0.length : Int) := of_decide_eq_true (by first | (with_reducible assumption) | assumption)
            obtain ⟨ad154, e154, hx154_0, hx154_1, hx154_2⟩ := at_T34 HR0.out (ji4) p154 q154
            cases e154
            replace hx154_0 := (HB.out.cell (World.block_lt_of_cell? w _ hx154_0)).trans hx154_0
            replace hx154_1 := (HB.out.cell (World.block_lt_of_cell? w _ hx154_1)).trans hx154_1
            replace hx154_2 := (HB.out.cell (World.block_lt_of_cell? w _ hx154_2)).trans hx154_2
            replace p154 := eq_true p154
            replace q154 := eq_true q154
            go_wp2
            go_meet
            case rel => exact ⟨_, (true), (by first | rfl | (simp; done) | (simp [*]; done)), H', ⟨by first | omega | exact Nat.le_refl _⟩, ⟨by repeat (first | (with_reducible first | exact HB.out | apply below_alloc | apply pw_below_drewN | apply below_drew1) | exact HB.out)⟩⟩
        · rw [if_neg c6] at H
          exact absurd H (by simp)
      · rw [if_neg c5] at H
        exact absurd H (by simp)
  case rest =>
    clear HC2
    try clear c1
    try clear p1
    try clear q1
    try clear hx1
    try clear p2
    try clear c3
    try clear c3b0
    try clear c3b1
    try clear c3b2
    try clear c5
    try clear c5b0
    try clear c6
    try clear c6b0
    try clear p6
    try clear c7
    try clear c7b0
    try clear c7b1
    try clear hx154_0
    try clear hx154_1
    try clear hx154_2
    try clear hx155_0
    try clear hx155_1
    try clear hx155_2
    try clear p154
    try clear p155
    try clear q154
    try clear q155
    obtain ⟨kq, x31_1, rfl, HA, HJ1, HB⟩ := hcut
    cases kq with
    | zero => exact absurd HA.out (by simp [chalklineref05_Join.j0])
    | succ kj1 =>
      have H := HA.out
      clear HA
      simp only [chalklineref05_Join.j0] at H
      by_cases c8 : x31_1 = true
      · subst c8
        have H1 : (some (([] : List Int), 1)) = some (r1, r2) := by rw [if_pos rfl] at H; exact H
        clear H
        have H := H1
        clear H1
        simp only [Option.some.injEq, Prod.mk.injEq] at H
        obtain ⟨rfl, rfl⟩ := H
        go_wp2
        go_ret2
        exact ⟨_, by first | rfl | (simp [errW_none, errW_some] <;> rfl) | (simp [*, errW_none, errW_some] <;> rfl), by first | exact Kd.R_nil _ _ _ _ _ | exact Kd.N_nil _ _ _ _ _ | exact Kd.V_nil _ _ _ _ _ | exact Kd.Q_nil _ _ _ _ _ | exact Kd.S_nil _ _ _ _ _, by repeat (first | (with_reducible first | exact HB.out | apply below_alloc | apply pw_below_drewN | apply below_drew1) | exact HB.out)⟩
      · replace c8 := Bool.eq_false_iff.mpr c8
        subst c8
        have H1 : (if 0 ≤ (wrap64 ((l0.length : Int) - 1)) then (if (wrap64 ((l0.length : Int) - 1)) ≤ (l0.length : Int) then ((some (l0.take ((wrap64 ((l0.length : Int) - 1)) : Int).toNat : List (S34))).bind fun y156 => (chalklineref05_Join.l0 kj1 l0 y156 (y156.length : Int) 0)) else (none)) else (none)) = some (r1, r2) := by rw [if_neg (show ¬ (false = true) by decide)] at H; exact H
        clear H
        have H := H1
        clear H1
        obtain ⟨ji9, hji9⟩ : ∃ j_ : Int, (wrap64 ((l0.length : Int) - 1)) = j_ := ⟨_, rfl⟩
        replace H : (if 0 ≤ (ji9) then (if (ji9) ≤ (l0.length : Int) then ((some (l0.take ((ji9) : Int).toNat : List (S34))).bind fun y156 => (chalklineref05_Join.l0 kj1 l0 y156 (y156.length : Int) 0)) else (none)) else (none)) = some (r1, r2) := by first | (rw [hji9] at H; exact H) | (simp only [hji9] at H ⊢; exact H)
        have hji9w : (IntKind.i64.wrap ((l0.length : Int) - 1)) = ji9 := (i64_w _).trans hji9
        by_cases c10 : 0 ≤ (ji9)
        · rw [if_pos c10] at H
          have c10b0 := eq_true c10
          have c10b1 : decide (0 ≤ (ji9)) = true := decide_eq_true c10
          clear c10
          by_cases c11 : (ji9) ≤ (l0.length : Int)
          · rw [if_pos c11] at H
            have c11b0 := eq_true c11
            have c11b1 : decide ((ji9) ≤ (l0.length : Int)) = true := decide_eq_true c11
            clear c11
            obtain ⟨y156, hy156⟩ : ∃ y_ : List (S34), y_ = (l0.take ((ji9) : Int).toNat) := ⟨_, rfl⟩
            replace H : (chalklineref05_Join.l0 kj1 l0 y156 (y156.length : Int) 0) = some (r1, r2) := by first | (rw [hy156]; with_reducible exact H) | (have H2_ := (Option.bind_some _ _).symm.trans H; rw [hy156]; with_reducible exact H2_) | (have H2_ := (Option.bind_some _ _).symm.trans H; with_reducible exact H2_) | with_reducible exact H | (rw [hy156]; exact H) | exact H
            have Ny156 := Aside0.mk hy156
            clear hy156
            have H' := Aside0.mk H
            clear H
            have q12 : ((ji9) : Int) ≤ ((l0.length : Int) : Int) := of_decide_eq_true (by first | (with_reducible assumption) | assumption)
            obtain ⟨i012, hi012, _, hsz12, _⟩ := info_parts info34
            have hroom12 : l0.length ≤ c0 := HC0.out
            have hC12 : Kd.C k34 _ A0 l0.length l0 := HR0.out
            have hcut12 := Go.Proofs.YtbnelajjadhcgaaDoorW.PrintWords.cut_to (P := Tryd.prog) 24 34 .i64 Tryd.underlying24 hi012 A0 l0.length c0 (ji9) (of_decide_eq_true (by first | (with_reducible assumption) | assumption)) q12 hroom12
            have hr12 := Kd.C_take (m := ((ji9) : Int).toNat) hC12 (by omega)
            have hy12 : y156.length = ((ji9) : Int).toNat := (by rw [Ny156.out, List.length_take]; omega)
            rw [← Ny156.out] at hr12
            rw [← hy12] at hcut12
            have HR159 := Aside0.mk hr12
            have HC159 := Aside0.mk (show y156.length ≤ c0 from by omega)
            clear hr12 hC12 hroom12 hi012 hsz12
            have KY12 := Aside0.mk hy12
            clear hy12
            replace q12 := eq_true q12
            go_wp2
            go_loopg [38] kj1 (fun kq v38 w' => ∃ (x38_2 : Int), v38 = .int .i64 x38_2 ∧ Aside0 (chalklineref05_Join.l0 kq l0 y156 (y156.length : Int) x38_2 = some (r1, r2)) ∧ Aside0 (kq ≤ kj1) ∧ Aside0 (Below w.heap.size w w'))
            case atStart => exact ⟨(0), (by first | rfl | (simp; done) | (simp [*]; done)), H', ⟨Nat.le_refl _⟩, ⟨by repeat (first | (with_reducible first | exact HB.out | apply below_alloc | apply pw_below_drewN | apply below_drew1) | exact HB.out)⟩⟩
            case round =>
              clear H'
              try clear c1
              try clear p1
              try clear q1
              try clear hx1
              try clear p2
              try clear c3
              try clear c3b0
              try clear c3b1
              try clear c3b2
              try clear c5
              try clear c5b0
              try clear c6
              try clear c6b0
              try clear p6
              try clear c7
              try clear c7b0
              try clear c7b1
              try clear c8
              try clear c10
              try clear c10b0
              try clear c10b1
              try clear c11
              try clear c11b0
              try clear c11b1
              try clear q12
              try clear hx154_0
              try clear hx154_1
              try clear hx154_2
              try clear hx155_0
              try clear hx155_1
              try clear hx155_2
              try clear p1
              try clear p154
              try clear p155
              try clear p2
              try clear p6
              try clear q1
              try clear q12
              try clear q154
              try clear q155
              obtain ⟨x38_2, rfl, HA, HK2, HB⟩ := hrel
              cases gk with
              | zero => exact absurd HA.out (by simp [chalklineref05_Join.l0])
              | succ k2 =>
                have H := HA.out
                clear HA
                simp only [chalklineref05_Join.l0] at H
                by_cases c13 : x38_2 < (y156.length : Int)
                · rw [if_pos c13] at H
                  have c13b0 : decide (x38_2 < (y156.length : Int)) = true := decide_eq_true c13
                  clear c13
                  by_cases c14 : 0 ≤ x38_2
                  · rw [if_pos c14] at H
                    have c14b0 : decide (0 ≤ x38_2) = true := decide_eq_true c14
                    clear c14
                    by_cases c15 : x38_2 < (y156.length : Int)
                    · rw [if_pos c15] at H
                      have c15b0 : decide (x38_2 < (y156.length : Int)) = true := decide_eq_true c15
                      clear c15
                      replace H := Option.bind_eq_some_iff.mp H
                      obtain ⟨t162, A160, H⟩ := H
                      replace H : (if t162 = true then (chalklineref05_Join.l0 k2 l0 y156 (y156.length : Int) (wrap64 (x38_2 + 1))) else (some (([] : List Int), 1))) = some (r1, r2) := H
                      have A16 := Aside0.mk A160
                      clear A160
                      by_cases c17 : t162 = true
                      · subst c17
                        have H1 : (chalklineref05_Join.l0 k2 l0 y156 (y156.length : Int) (wrap64 (x38_2 + 1))) = some (r1, r2) := by rw [if_pos rfl] at H; exact H
                        clear H
                        have H := H1
                        clear H1
                        have H' := Aside0.mk H
                        clear H
                        have p160 : 0 ≤ (x38_2 : Int) := of_decide_eq_true (by first | (with_reducible assumption) | assumption)
                        have q160 : x38_2 < (y156.length : Int) := of_decide_eq_true (by first | (with_reducible assumption) | assumption)
                        obtain ⟨ad160, e160, hx160_0, hx160_1, hx160_2⟩ := at_T34 HR159.out x38_2 p160 q160
                        cases e160
                        replace hx160_0 := (HB.out.cell (World.block_lt_of_cell? w _ hx160_0)).trans hx160_0
                        replace hx160_1 := (HB.out.cell (World.block_lt_of_cell? w _ hx160_1)).trans hx160_1
                        replace hx160_2 := (HB.out.cell (World.block_lt_of_cell? w _ hx160_2)).trans hx160_2
                        replace p160 := eq_true p160
                        replace q160 := eq_true q160
                        go_wp2_with (first | ((with_reducible refine gate_dst (N := 5) rfl ?_); (try (refine gate_guard (by rfl) ?_; dsimp only)); refine box_event ?hg (N := 5) ?hd (cs := #[.int .i64 0, .string (⟨#[]⟩ : ByteArray), .int .i64 0]) (t := 34) ?hr ?_; (case hd => rfl); (case hg => rfl); (case hr => first | (go_simp; done) | (go_simp; rfl)); intro gb161 hg w18 hbox hb; have n0_ := Aside0.mk (below_step (by repeat (first | (with_reducible first | exact HB.out | apply below_alloc | apply pw_below_drewN | apply below_drew1) | exact HB.out)) hb); have n1_ := Aside0.mk (hbox); have n2_ := Aside0.mk ((by rw [hg]; exact (below_size (by repeat (first | (with_reducible first | exact HB.out | apply below_alloc | apply pw_below_drewN | apply below_drew1) | exact HB.out))) : w.heap.size ≤ gb161)); have n3_ := Aside0.mk ((by rw [hg]; exact (below_size (by repeat (first | (with_reducible first | exact HB.out | apply below_alloc | apply pw_below_drewN | apply below_drew1) | exact HB.out))) : w.heap.size ≤ gb161)); clear HB; have HB := n0_; have BK161 := n1_; have GW161 := n2_; have GE161 := n3_; clear n0_ n1_ n2_ n3_; clear hb hbox hg; have hcz19_0 : w18.cell? ⟨gb161, 0, none⟩ = some (.int .i64 0) := (blk_cell BK161.out 0).trans rfl; have hcz19_1 : w18.cell? ⟨gb161, 1, none⟩ = some (.string (⟨#[]⟩ : ByteArray)) := (blk_cell BK161.out 1).trans rfl; have hcz19_2 : w18.cell? ⟨gb161, 2, none⟩ = some (.int .i64 0) := (blk_cell BK161.out 2).trans rfl; have hfz19_0 := blk_frozen BK161.out 0; have hfz19_1 := blk_frozen BK161.out 1; have hfz19_2 := blk_frozen BK161.out 2) | ((with_reducible refine gate_callee (f := 26) rfl ?_); refine goesL_ (some 43) rfl rfl Tryd.func26 (by kernel_rfl) rfl #[.agg #[.int .i64 ((rd_T34 y156 x38_2).f0), .string ((rd_T34 y156 x38_2).f1), .int .i64 ((rd_T34 y156 x38_2).f2)]] rfl (by (try simp only [List.map_toArray, List.map_cons, List.map_nil]); first | done | rfl | (simp only [List.length_drop, List.length_take]; rfl)) ?_; (with_reducible refine (chalklineref05_may.calls k2 ((rd_T34 y156 x38_2).f0) ((rd_T34 y156 x38_2).f1) ((rd_T34 y156 x38_2).f2) true _ A16.out).mono ?_); rintro e w20 ⟨rfl, hb⟩; refine ⟨_, rfl, ?_⟩; have n0_ := Aside0.mk (blk_below (g := gb161) (o := .cells #[.int .i64 ((rd_T34 y156 x38_2).f0), .string ((rd_T34 y156 x38_2).f1), .int .i64 ((rd_T34 y156 x38_2).f2)] 34 (0, 0)) (by (with_reducible repeat (first | refine blk_drewN ?_ _ | refine blk_drew ?_ | refine blk_alloc ?_ _)); refine blk_put (cs := #[.int .i64 ((rd_T34 y156 x38_2).f0), .string ((rd_T34 y156 x38_2).f1), .int .i64 0]) ?_ 2 _ rfl; (with_reducible repeat (first | refine blk_drewN ?_ _ | refine blk_drew ?_ | refine blk_alloc ?_ _)); refine blk_put (cs := #[.int .i64 ((rd_T34 y156 x38_2).f0), .string (⟨#[]⟩ : ByteArray), .int .i64 0]) ?_ 1 _ rfl; (with_reducible repeat (first | refine blk_drewN ?_ _ | refine blk_drew ?_ | refine blk_alloc ?_ _)); refine blk_put (cs := #[.int .i64 0, .string (⟨#[]⟩ : ByteArray), .int .i64 0]) ?_ 0 _ rfl; (with_reducible repeat (first | refine blk_drewN ?_ _ | refine blk_drew ?_ | refine blk_alloc ?_ _)); exact BK161.out) hb); have n1_ := Aside0.mk (below_step (by repeat (first | (with_reducible first | exact HB.out | apply below_alloc | apply pw_below_drewN | apply below_drew1 | refine below_set ?_ GE161.out) | exact HB.out)) hb); clear BK161; clear HB; have BK161 := n0_; have HB := n1_; clear n0_ n1_; (try clear hb); (try clear hb2); (try clear hk); (try clear hi)))
                        go_roundg k2
                        case measure => have := HJ1.out; have := HK2.out; omega
                        case rel => exact ⟨(wrap64 (x38_2 + 1)), (by first | rfl | (simp; done) | (simp [*]; done)), H', ⟨by have := HJ1.out; have := HK2.out; omega⟩, ⟨by repeat (first | (with_reducible first | exact HB.out | apply below_alloc | apply pw_below_drewN | apply below_drew1 | refine below_set ?_ GE161.out) | exact HB.out)⟩⟩
                      · replace c17 := Bool.eq_false_iff.mpr c17
                        subst c17
                        have H1 : (some (([] : List Int), 1)) = some (r1, r2) := by rw [if_neg (show ¬ (false = true) by decide)] at H; exact H
                        clear H
                        have H := H1
                        clear H1
                        simp only [Option.some.injEq, Prod.mk.injEq] at H
                        obtain ⟨rfl, rfl⟩ := H
                        have p160 : 0 ≤ (x38_2 : Int) := of_decide_eq_true (by first | (with_reducible assumption) | assumption)
                        have q160 : x38_2 < (y156.length : Int) := of_decide_eq_true (by first | (with_reducible assumption) | assumption)
                        obtain ⟨ad160, e160, hx160_0, hx160_1, hx160_2⟩ := at_T34 HR159.out x38_2 p160 q160
                        cases e160
                        replace hx160_0 := (HB.out.cell (World.block_lt_of_cell? w _ hx160_0)).trans hx160_0
                        replace hx160_1 := (HB.out.cell (World.block_lt_of_cell? w _ hx160_1)).trans hx160_1
                        replace hx160_2 := (HB.out.cell (World.block_lt_of_cell? w _ hx160_2)).trans hx160_2
                        replace p160 := eq_true p160
                        replace q160 := eq_true q160
                        go_wp2_with (first | ((with_reducible refine gate_dst (N := 5) rfl ?_); (try (refine gate_guard (by rfl) ?_; dsimp only)); refine box_event ?hg (N := 5) ?hd (cs := #[.int .i64 0, .string (⟨#[]⟩ : ByteArray), .int .i64 0]) (t := 34) ?hr ?_; (case hd => rfl); (case hg => rfl); (case hr => first | (go_simp; done) | (go_simp; rfl)); intro gb161 hg w21 hbox hb; have n0_ := Aside0.mk (below_step (by repeat (first | (with_reducible first | exact HB.out | apply below_alloc | apply pw_below_drewN | apply below_drew1) | exact HB.out)) hb); have n1_ := Aside0.mk (hbox); have n2_ := Aside0.mk ((by rw [hg]; exact (below_size (by repeat (first | (with_reducible first | exact HB.out | apply below_alloc | apply pw_below_drewN | apply below_drew1) | exact HB.out))) : w.heap.size ≤ gb161)); have n3_ := Aside0.mk ((by rw [hg]; exact (below_size (by repeat (first | (with_reducible first | exact HB.out | apply below_alloc | apply pw_below_drewN | apply below_drew1) | exact HB.out))) : w.heap.size ≤ gb161)); clear HB; have HB := n0_; have BK161 := n1_; have GW161 := n2_; have GE161 := n3_; clear n0_ n1_ n2_ n3_; clear hb hbox hg; have hcz22_0 : w21.cell? ⟨gb161, 0, none⟩ = some (.int .i64 0) := (blk_cell BK161.out 0).trans rfl; have hcz22_1 : w21.cell? ⟨gb161, 1, none⟩ = some (.string (⟨#[]⟩ : ByteArray)) := (blk_cell BK161.out 1).trans rfl; have hcz22_2 : w21.cell? ⟨gb161, 2, none⟩ = some (.int .i64 0) := (blk_cell BK161.out 2).trans rfl; have hfz22_0 := blk_frozen BK161.out 0; have hfz22_1 := blk_frozen BK161.out 1; have hfz22_2 := blk_frozen BK161.out 2) | ((with_reducible refine gate_callee (f := 26) rfl ?_); refine goesL_ (some 43) rfl rfl Tryd.func26 (by kernel_rfl) rfl #[.agg #[.int .i64 ((rd_T34 y156 x38_2).f0), .string ((rd_T34 y156 x38_2).f1), .int .i64 ((rd_T34 y156 x38_2).f2)]] rfl (by (try simp only [List.map_toArray, List.map_cons, List.map_nil]); first | done | rfl | (simp only [List.length_drop, List.length_take]; rfl)) ?_; (with_reducible refine (chalklineref05_may.calls k2 ((rd_T34 y156 x38_2).f0) ((rd_T34 y156 x38_2).f1) ((rd_T34 y156 x38_2).f2) false _ A16.out).mono ?_); rintro e w23 ⟨rfl, hb⟩; refine ⟨_, rfl, ?_⟩; have n0_ := Aside0.mk (blk_below (g := gb161) (o := .cells #[.int .i64 ((rd_T34 y156 x38_2).f0), .string ((rd_T34 y156 x38_2).f1), .int .i64 ((rd_T34 y156 x38_2).f2)] 34 (0, 0)) (by (with_reducible repeat (first | refine blk_drewN ?_ _ | refine blk_drew ?_ | refine blk_alloc ?_ _)); refine blk_put (cs := #[.int .i64 ((rd_T34 y156 x38_2).f0), .string ((rd_T34 y156 x38_2).f1), .int .i64 0]) ?_ 2 _ rfl; (with_reducible repeat (first | refine blk_drewN ?_ _ | refine blk_drew ?_ | refine blk_alloc ?_ _)); refine blk_put (cs := #[.int .i64 ((rd_T34 y156 x38_2).f0), .string (⟨#[]⟩ : ByteArray), .int .i64 0]) ?_ 1 _ rfl; (with_reducible repeat (first | refine blk_drewN ?_ _ | refine blk_drew ?_ | refine blk_alloc ?_ _)); refine blk_put (cs := #[.int .i64 0, .string (⟨#[]⟩ : ByteArray), .int .i64 0]) ?_ 0 _ rfl; (with_reducible repeat (first | refine blk_drewN ?_ _ | refine blk_drew ?_ | refine blk_alloc ?_ _)); exact BK161.out) hb); have n1_ := Aside0.mk (below_step (by repeat (first | (with_reducible first | exact HB.out | apply below_alloc | apply pw_below_drewN | apply below_drew1 | refine below_set ?_ GE161.out) | exact HB.out)) hb); clear BK161; clear HB; have BK161 := n0_; have HB := n1_; clear n0_ n1_; (try clear hb); (try clear hb2); (try clear hk); (try clear hi)))
                        go_ret2
                        exact ⟨_, by first | rfl | (simp [errW_none, errW_some] <;> rfl) | (simp only [← hji9]; first | rfl | (simp [errW_none, errW_some] <;> rfl)) | (simp [*, errW_none, errW_some] <;> rfl), by first | exact Kd.R_nil _ _ _ _ _ | exact Kd.N_nil _ _ _ _ _ | exact Kd.V_nil _ _ _ _ _ | exact Kd.Q_nil _ _ _ _ _ | exact Kd.S_nil _ _ _ _ _, by repeat (first | (with_reducible first | exact HB.out | apply below_alloc | apply pw_below_drewN | apply below_drew1 | refine below_set ?_ GE161.out) | exact HB.out)⟩
                    · rw [if_neg c15] at H
                      exact absurd H (by simp)
                  · rw [if_neg c14] at H
                    exact absurd H (by simp)
                · rw [if_neg c13] at H
                  have c13b0 : decide (x38_2 < (y156.length : Int)) = false := decide_eq_false c13
                  clear c13
                  obtain ⟨ji24, hji24⟩ : ∃ j_ : Int, (wrap64 ((l0.length : Int) - 1)) = j_ := ⟨_, rfl⟩
                  replace H : (if 0 ≤ (ji24) then (if (ji24) ≤ (l0.length : Int) then ((some (l0.take ((ji24) : Int).toNat : List (S34))).bind fun y163 => (chalklineref05_Join.l1 k2 ([] : List Int) y163 (y163.length : Int) 0)) else (none)) else (none)) = some (r1, r2) := by first | (rw [hji24] at H; exact H) | (simp only [hji24] at H ⊢; exact H)
                  have hji24w : (IntKind.i64.wrap ((l0.length : Int) - 1)) = ji24 := (i64_w _).trans hji24
                  by_cases c25 : 0 ≤ (ji24)
                  · rw [if_pos c25] at H
                    have c25b0 := eq_true c25
                    have c25b1 : decide (0 ≤ (ji24)) = true := decide_eq_true c25
                    clear c25
                    by_cases c26 : (ji24) ≤ (l0.length : Int)
                    · rw [if_pos c26] at H
                      have c26b0 := eq_true c26
                      have c26b1 : decide ((ji24) ≤ (l0.length : Int)) = true := decide_eq_true c26
                      clear c26
                      obtain ⟨y163, hy163⟩ : ∃ y_ : List (S34), y_ = (l0.take ((ji24) : Int).toNat) := ⟨_, rfl⟩
                      replace H : (chalklineref05_Join.l1 k2 ([] : List Int) y163 (y163.length : Int) 0) = some (r1, r2) := by first | (rw [hy163]; with_reducible exact H) | (have H2_ := (Option.bind_some _ _).symm.trans H; rw [hy163]; with_reducible exact H2_) | (have H2_ := (Option.bind_some _ _).symm.trans H; with_reducible exact H2_) | with_reducible exact H | (rw [hy163]; exact H) | exact H
                      have Ny163 := Aside0.mk hy163
                      have hjj_ : ji24 = ji9 := hji24.symm.trans hji9
                      have hyy_ : y163 = y156 := by rw [Ny163.out, Ny156.out, hjj_]
                      clear hjj_
                      subst hyy_
                      clear hy163
                      have H' := Aside0.mk H
                      clear H
                      have q27 : ((ji24) : Int) ≤ ((l0.length : Int) : Int) := of_decide_eq_true (by first | (with_reducible assumption) | assumption)
                      obtain ⟨i027, hi027, _, hsz27, _⟩ := info_parts info34
                      have hroom27 : l0.length ≤ c0 := HC0.out
                      have hC27 : Kd.C k34 _ A0 l0.length l0 := HR0.out
                      have hcut27 := Go.Proofs.YtbnelajjadhcgaaDoorW.PrintWords.cut_to (P := Tryd.prog) 24 34 .i64 Tryd.underlying24 hi027 A0 l0.length c0 (ji24) (of_decide_eq_true (by first | (with_reducible assumption) | assumption)) q27 hroom27
                      have hr27 := Kd.C_take (m := ((ji24) : Int).toNat) hC27 (by omega)
                      have hy27 : y163.length = ((ji24) : Int).toNat := (by rw [Ny163.out, List.length_take]; omega)
                      rw [← Ny163.out] at hr27
                      rw [← hy27] at hcut27
                      have HR166 := Aside0.mk hr27
                      have HC166 := Aside0.mk (show y163.length ≤ c0 from by omega)
                      clear hr27 hC27 hroom27 hi027 hsz27
                      have KY27 := Aside0.mk hy27
                      clear hy27
                      replace q27 := eq_true q27
                      go_wp2
                      go_loopg [6, 52] k2 (fun kq v6 v52 w' => ∃ (x6_3 : List Int) (x52_3 : Int), v52 = .int .i64 x52_3 ∧ Aside0 (chalklineref05_Join.l1 kq x6_3 y163 (y163.length : Int) x52_3 = some (r1, r2)) ∧ Aside0 (kq ≤ k2) ∧ Aside0 (Kd.R (Kd.int .u8) 5 w' w.heap.size (fun _ => True) v6 x6_3) ∧ Aside0 (Below w.heap.size w w'))
                      case atStart => exact ⟨(([] : List Int)), (0), (by first | rfl | (simp; done) | (simp [*]; done)), H', ⟨Nat.le_refl _⟩, ⟨by first | exact Kd.R_nil _ _ _ _ _ | exact Kd.N_nil _ _ _ _ _ | exact Kd.V_nil _ _ _ _ _ | exact Kd.Q_nil _ _ _ _ _ | exact Kd.S_nil _ _ _ _ _⟩, ⟨by repeat (first | (with_reducible first | exact HB.out | apply below_alloc | apply pw_below_drewN | apply below_drew1) | exact HB.out)⟩⟩
                      case round =>
                        clear H'
                        try clear c1
                        try clear p1
                        try clear q1
                        try clear hx1
                        try clear c2
                        try clear p2
                        try clear q2
                        try clear c3
                        try clear c3b0
                        try clear c3b1
                        try clear c3b2
                        try clear c5
                        try clear c5b0
                        try clear c6
                        try clear c6b0
                        try clear p6
                        try clear c7
                        try clear c7b0
                        try clear c7b1
                        try clear c8
                        try clear c10
                        try clear c10b0
                        try clear c10b1
                        try clear c11
                        try clear c11b0
                        try clear c11b1
                        try clear q12
                        try clear c13
                        try clear c13b0
                        try clear c14
                        try clear c14b0
                        try clear c15
                        try clear c15b0
                        try clear p15
                        try clear q15
                        try clear hx15
                        try clear p16
                        try clear q16
                        try clear hx16
                        try clear c17
                        try clear c25
                        try clear c25b0
                        try clear c25b1
                        try clear c26
                        try clear c26b0
                        try clear c26b1
                        try clear q27
                        try clear hcz19_0
                        try clear hcz19_1
                        try clear hcz19_2
                        try clear hcz22_0
                        try clear hcz22_1
                        try clear hcz22_2
                        try clear hfz19_0
                        try clear hfz19_1
                        try clear hfz19_2
                        try clear hfz22_0
                        try clear hfz22_1
                        try clear hfz22_2
                        try clear hx154_0
                        try clear hx154_1
                        try clear hx154_2
                        try clear hx155_0
                        try clear hx155_1
                        try clear hx155_2
                        try clear hx160_0
                        try clear hx160_1
                        try clear hx160_2
                        try clear p1
                        try clear p154
                        try clear p155
                        try clear p160
                        try clear p2
                        try clear p6
                        try clear q1
                        try clear q12
                        try clear q154
                        try clear q155
                        try clear q160
                        try clear q27
                        obtain ⟨x6_3, x52_3, rfl, HA, HK3, HO_6, HB⟩ := hrel
                        cases gk with
                        | zero => exact absurd HA.out (by simp [chalklineref05_Join.l1])
                        | succ k3 =>
                          have H := HA.out
                          clear HA
                          simp only [chalklineref05_Join.l1] at H
                          by_cases c28 : x52_3 < (y163.length : Int)
                          · rw [if_pos c28] at H
                            have c28b0 : decide (x52_3 < (y163.length : Int)) = true := decide_eq_true c28
                            clear c28
                            by_cases c29 : 0 ≤ x52_3
                            · rw [if_pos c29] at H
                              have c29b0 : decide (0 ≤ x52_3) = true := decide_eq_true c29
                              clear c29
                              by_cases c30 : x52_3 < (y163.length : Int)
                              · rw [if_pos c30] at H
                                have c30b0 : decide (x52_3 < (y163.length : Int)) = true := decide_eq_true c30
                                clear c30
                                by_cases c31 : x52_3 > 0
                                · rw [if_pos c31] at H
                                  have c31b0 : decide (0 < x52_3) = true := decide_eq_true c31
                                  clear c31
                                  by_cases c32 : x6_3.length < 140737488355328
                                  · rw [if_pos c32] at H
                                    have LMc32 := Aside0.mk c32
                                    clear c32
                                    obtain ⟨y169, hy169⟩ : ∃ y_ : List Int, y_ = (x6_3 ++ [32]) := ⟨_, rfl⟩
                                    replace H : (if y169.length + ((rd_T34 y163 x52_3).f1).size < 140737488355328 then (chalklineref05_Join.l1 k3 (y169 ++ bytesOf ((rd_T34 y163 x52_3).f1)) y163 (y163.length : Int) (wrap64 (x52_3 + 1))) else (none)) = some (r1, r2) := by first | (rw [hy169]; with_reducible exact H) | (have H2_ := (Option.bind_some _ _).symm.trans H; rw [hy169]; with_reducible exact H2_) | (have H2_ := (Option.bind_some _ _).symm.trans H; with_reducible exact H2_) | with_reducible exact H | (rw [hy169]; exact H) | exact H
                                    have Ny169 := Aside0.mk hy169
                                    clear hy169
                                    by_cases c33 : y169.length + ((rd_T34 y163 x52_3).f1).size < 140737488355328
                                    · rw [if_pos c33] at H
                                      have LMc33 := Aside0.mk c33
                                      clear c33
                                      obtain ⟨y172, hy172⟩ : ∃ y_ : List Int, y_ = (y169 ++ bytesOf ((rd_T34 y163 x52_3).f1)) := ⟨_, rfl⟩
                                      replace H : (chalklineref05_Join.l1 k3 y172 y163 (y163.length : Int) (wrap64 (x52_3 + 1))) = some (r1, r2) := by first | (rw [hy172]; with_reducible exact H) | (have H2_ := (Option.bind_some _ _).symm.trans H; rw [hy172]; with_reducible exact H2_) | (have H2_ := (Option.bind_some _ _).symm.trans H; with_reducible exact H2_) | with_reducible exact H | (rw [hy172]; exact H) | exact H
                                      have Ny172 := Aside0.mk hy172
                                      clear hy172
                                      have H' := Aside0.mk H
                                      clear H
                                      have p167 : 0 ≤ (x52_3 : Int) := of_decide_eq_true (by first | (with_reducible assumption) | assumption)
                                      have q167 : x52_3 < (y163.length : Int) := of_decide_eq_true (by first | (with_reducible assumption) | assumption)
                                      obtain ⟨ad167, e167, hx167_0, hx167_1, hx167_2⟩ := at_T34 HR166.out x52_3 p167 q167
                                      cases e167
                                      replace hx167_0 := (HB.out.cell (World.block_lt_of_cell? w _ hx167_0)).trans hx167_0
                                      replace hx167_1 := (HB.out.cell (World.block_lt_of_cell? w _ hx167_1)).trans hx167_1
                                      replace hx167_2 := (HB.out.cell (World.block_lt_of_cell? w _ hx167_2)).trans hx167_2
                                      replace p167 := eq_true p167
                                      replace q167 := eq_true q167
                                      go_wp2_with (first | ((with_reducible refine gate_dst (N := 8) rfl ?_); (try (refine gate_guard (by rfl) ?_; dsimp only)); refine box_event ?hg (N := 8) ?hd (cs := #[.int .i64 0, .string (⟨#[]⟩ : ByteArray), .int .i64 0]) (t := 34) ?hr ?_; (case hd => rfl); (case hg => rfl); (case hr => first | (go_simp; done) | (go_simp; rfl)); intro gb168 hg w34 hbox hb; have n0_ := Aside0.mk (Kd.R_below (by (with_reducible repeat (first | apply Kd.R_alloc | apply Kd.R_drewN | apply Kd.R_drew)); exact HO_6.out) hb); have n1_ := Aside0.mk (below_step (by repeat (first | (with_reducible first | exact HB.out | apply below_alloc | apply pw_below_drewN | apply below_drew1) | exact HB.out)) hb); have n2_ := Aside0.mk (hbox); have n3_ := Aside0.mk ((by rw [hg]; exact (below_size (by repeat (first | (with_reducible first | exact HB.out | apply below_alloc | apply pw_below_drewN | apply below_drew1) | exact HB.out))) : w.heap.size ≤ gb168)); have n4_ := Aside0.mk ((by rw [hg]; exact (below_size (by repeat (first | (with_reducible first | exact HB.out | apply below_alloc | apply pw_below_drewN | apply below_drew1) | exact HB.out))) : w.heap.size ≤ gb168)); clear HO_6; clear HB; have HO_6 := n0_; have HB := n1_; have BK168 := n2_; have GW168 := n3_; have GE168 := n4_; clear n0_ n1_ n2_ n3_ n4_; clear hb hbox hg; have hcz35_0 : w34.cell? ⟨gb168, 0, none⟩ = some (.int .i64 0) := (blk_cell BK168.out 0).trans rfl; have hcz35_1 : w34.cell? ⟨gb168, 1, none⟩ = some (.string (⟨#[]⟩ : ByteArray)) := (blk_cell BK168.out 1).trans rfl; have hcz35_2 : w34.cell? ⟨gb168, 2, none⟩ = some (.int .i64 0) := (blk_cell BK168.out 2).trans rfl; have hfz35_0 := blk_frozen BK168.out 0; have hfz35_1 := blk_frozen BK168.out 1; have hfz35_2 := blk_frozen BK168.out 2) | ((with_reducible refine gate_builtin (b := .append) (xs := #[.tmp 59, .tmp 60]) rfl ?_); (try (refine gate_guard (by rfl) ?_; dsimp only)); at_builtin; refine Kd.R_append (Kd.int .u8) (w0 := w) w.heap.size rfl (.tmp 59) (.tmp 60) 22 5 (.int .u8 0) 1 rfl Tryd.underlying22 info5 rfl (by decide) (by omega) u6 x6_3 32 [.int .u8 32] (fun _ => True) (fun _ => False) rfl (by first | (go_simp; done) | (go_simp; rfl)) ?aP (fun _ hk => hk.elim) ?aF ?aO ?aB ?aS ?aL ?_; (case aP => exact rfl); (case aB => exact (by repeat (first | (with_reducible first | exact HB.out | apply below_alloc | apply pw_below_drewN | apply below_drew1 | refine below_set ?_ GE168.out) | exact HB.out))); (case aF => exact (fun _ _ => trivial)); (case aO => exact (by (with_reducible repeat (first | apply Kd.R_alloc | apply Kd.R_drewN | apply Kd.R_drew)); exact Kd.R_mono (Kd.R_far (p := ⟨gb168, 2, none⟩) (Kd.R_far (p := ⟨gb168, 1, none⟩) (Kd.R_far (p := ⟨gb168, 0, none⟩) (Kd.R_types HO_6.out BK168.out (by decide)) (fun _ hk => hk.2) (.int .i64 ((rd_T34 y163 x52_3).f0))) (fun _ hk => hk.2) (.string ((rd_T34 y163 x52_3).f1))) (fun _ hk => hk.2) (.int .i64 ((rd_T34 y163 x52_3).f2))) (fun _ hk => trivial))); (case aS => exact (below_size (by repeat (first | (with_reducible first | exact HB.out | apply below_alloc | apply pw_below_drewN | apply below_drew1 | refine below_set ?_ GE168.out) | exact HB.out)))); (case aL => have := LMc32.out; omega); intro v170 w36 ho hb hg hat; rw [← Ny169.out] at ho; have n0_ := Aside0.mk (blk_grown (g := gb168) (o := .cells #[.int .i64 ((rd_T34 y163 x52_3).f0), .string ((rd_T34 y163 x52_3).f1), .int .i64 ((rd_T34 y163 x52_3).f2)] 34 (0, 0)) (by (with_reducible repeat (first | refine blk_drewN ?_ _ | refine blk_drew ?_ | refine blk_alloc ?_ _)); refine blk_put (cs := #[.int .i64 ((rd_T34 y163 x52_3).f0), .string ((rd_T34 y163 x52_3).f1), .int .i64 0]) ?_ 2 _ rfl; (with_reducible repeat (first | refine blk_drewN ?_ _ | refine blk_drew ?_ | refine blk_alloc ?_ _)); refine blk_put (cs := #[.int .i64 ((rd_T34 y163 x52_3).f0), .string (⟨#[]⟩ : ByteArray), .int .i64 0]) ?_ 1 _ rfl; (with_reducible repeat (first | refine blk_drewN ?_ _ | refine blk_drew ?_ | refine blk_alloc ?_ _)); refine blk_put (cs := #[.int .i64 0, .string (⟨#[]⟩ : ByteArray), .int .i64 0]) ?_ 0 _ rfl; (with_reducible repeat (first | refine blk_drewN ?_ _ | refine blk_drew ?_ | refine blk_alloc ?_ _)); exact BK168.out) hg (Kd.R_ne HO_6.out BK168.out (by decide))); have n1_ := Aside0.mk (hb); have n2_ := Aside0.mk (ho); clear BK168; clear HB; clear HO_6; have BK168 := n0_; have HB := n1_; have HO171 := n2_; clear n0_ n1_ n2_; clear ho hb hg hat; have hcz37_0 : w36.cell? ⟨gb168, 0, none⟩ = some (.int .i64 ((rd_T34 y163 x52_3).f0)) := (blk_cell BK168.out 0).trans rfl; have hcz37_1 : w36.cell? ⟨gb168, 1, none⟩ = some (.string ((rd_T34 y163 x52_3).f1)) := (blk_cell BK168.out 1).trans rfl; have hcz37_2 : w36.cell? ⟨gb168, 2, none⟩ = some (.int .i64 ((rd_T34 y163 x52_3).f2)) := (blk_cell BK168.out 2).trans rfl; have hfz37_0 := blk_frozen BK168.out 0; have hfz37_1 := blk_frozen BK168.out 1; have hfz37_2 := blk_frozen BK168.out 2) | (at_builtin; refine print_append_str (w0 := w) w.heap.size rfl (.tmp 62) _ 22 9 5 rfl Tryd.underlying22 Tryd.underlying9 info5 v170 y169 ((rd_T34 y163 x52_3).f1) rfl rfl ?aO ?aB ?aS ?aL ?_; (case aB => exact (by repeat (first | (with_reducible first | exact HB.out | apply below_alloc | apply pw_below_drewN | apply below_drew1 | refine below_set ?_ GE168.out) | exact HB.out))); (case aO => exact (Kd.own_of_R (by (with_reducible repeat (first | apply Kd.R_alloc | apply Kd.R_drewN | apply Kd.R_drew)); exact HO171.out))); (case aS => exact (below_size (by repeat (first | (with_reducible first | exact HB.out | apply below_alloc | apply pw_below_drewN | apply below_drew1 | refine below_set ?_ GE168.out) | exact HB.out)))); (case aL => have := LMc33.out; omega); intro v173 w38 ho0 hb hg; have ho := Kd.R_of_own (h1 := fun _ => rfl) (ok := fun _ => True) ho0 (fun _ _ => trivial); clear ho0; have hat := True.intro; rw [← Ny172.out] at ho; change Kd.R (Kd.int .u8) 5 w38 w.heap.size (fun _ => True) v173 y172 at ho; have n0_ := Aside0.mk (blk_grown (g := gb168) (o := .cells #[.int .i64 ((rd_T34 y163 x52_3).f0), .string ((rd_T34 y163 x52_3).f1), .int .i64 ((rd_T34 y163 x52_3).f2)] 34 (0, 0)) (by (with_reducible repeat (first | refine blk_drewN ?_ _ | refine blk_drew ?_ | refine blk_alloc ?_ _)); exact BK168.out) hg (Kd.R_ne HO171.out BK168.out (by decide))); have n1_ := Aside0.mk (hb); have n2_ := Aside0.mk (ho); clear BK168; clear HB; clear HO171; have BK168 := n0_; have HB := n1_; have HO174 := n2_; clear n0_ n1_ n2_; clear ho hb hg hat))
                                      go_roundg k3
                                      case measure => have := HJ1.out; have := HK2.out; have := HK3.out; omega
                                      case rel => exact ⟨(y172), (wrap64 (x52_3 + 1)), (by first | rfl | (simp; done) | (simp [*]; done)), H', ⟨by have := HJ1.out; have := HK2.out; have := HK3.out; omega⟩, ⟨by (with_reducible repeat (first | apply Kd.R_alloc | apply Kd.R_drewN | apply Kd.R_drew)); exact HO174.out⟩, ⟨by repeat (first | (with_reducible first | exact HB.out | apply below_alloc | apply pw_below_drewN | apply below_drew1 | refine below_set ?_ GE168.out) | exact HB.out)⟩⟩
                                    · rw [if_neg c33] at H
                                      exact absurd H (by simp)
                                  · rw [if_neg c32] at H
                                    exact absurd H (by simp)
                                · rw [if_neg c31] at H
                                  have c31b0 : decide (0 < x52_3) = false := decide_eq_false c31
                                  clear c31
                                  by_cases c39 : x6_3.length + ((rd_T34 y163 x52_3).f1).size < 140737488355328
                                  · rw [if_pos c39] at H
                                    have LMc39 := Aside0.mk c39
                                    clear c39
                                    obtain ⟨y175, hy175⟩ : ∃ y_ : List Int, y_ = (x6_3 ++ bytesOf ((rd_T34 y163 x52_3).f1)) := ⟨_, rfl⟩
                                    replace H : (chalklineref05_Join.l1 k3 y175 y163 (y163.length : Int) (wrap64 (x52_3 + 1))) = some (r1, r2) := by first | (rw [hy175]; with_reducible exact H) | (have H2_ := (Option.bind_some _ _).symm.trans H; rw [hy175]; with_reducible exact H2_) | (have H2_ := (Option.bind_some _ _).symm.trans H; with_reducible exact H2_) | with_reducible exact H | (rw [hy175]; exact H) | exact H
                                    have Ny175 := Aside0.mk hy175
                                    clear hy175
                                    have H' := Aside0.mk H
                                    clear H
                                    have p167 : 0 ≤ (x52_3 : Int) := of_decide_eq_true (by first | (with_reducible assumption) | assumption)
                                    have q167 : x52_3 < (y163.length : Int) := of_decide_eq_true (by first | (with_reducible assumption) | assumption)
                                    obtain ⟨ad167, e167, hx167_0, hx167_1, hx167_2⟩ := at_T34 HR166.out x52_3 p167 q167
                                    cases e167
                                    replace hx167_0 := (HB.out.cell (World.block_lt_of_cell? w _ hx167_0)).trans hx167_0
                                    replace hx167_1 := (HB.out.cell (World.block_lt_of_cell? w _ hx167_1)).trans hx167_1
                                    replace hx167_2 := (HB.out.cell (World.block_lt_of_cell? w _ hx167_2)).trans hx167_2
                                    replace p167 := eq_true p167
                                    replace q167 := eq_true q167
                                    go_wp2_with (first | ((with_reducible refine gate_dst (N := 8) rfl ?_); (try (refine gate_guard (by rfl) ?_; dsimp only)); refine box_event ?hg (N := 8) ?hd (cs := #[.int .i64 0, .string (⟨#[]⟩ : ByteArray), .int .i64 0]) (t := 34) ?hr ?_; (case hd => rfl); (case hg => rfl); (case hr => first | (go_simp; done) | (go_simp; rfl)); intro gb168 hg w40 hbox hb; have n0_ := Aside0.mk (Kd.R_below (by (with_reducible repeat (first | apply Kd.R_alloc | apply Kd.R_drewN | apply Kd.R_drew)); exact HO_6.out) hb); have n1_ := Aside0.mk (below_step (by repeat (first | (with_reducible first | exact HB.out | apply below_alloc | apply pw_below_drewN | apply below_drew1) | exact HB.out)) hb); have n2_ := Aside0.mk (hbox); have n3_ := Aside0.mk ((by rw [hg]; exact (below_size (by repeat (first | (with_reducible first | exact HB.out | apply below_alloc | apply pw_below_drewN | apply below_drew1) | exact HB.out))) : w.heap.size ≤ gb168)); have n4_ := Aside0.mk ((by rw [hg]; exact (below_size (by repeat (first | (with_reducible first | exact HB.out | apply below_alloc | apply pw_below_drewN | apply below_drew1) | exact HB.out))) : w.heap.size ≤ gb168)); clear HO_6; clear HB; have HO_6 := n0_; have HB := n1_; have BK168 := n2_; have GW168 := n3_; have GE168 := n4_; clear n0_ n1_ n2_ n3_ n4_; clear hb hbox hg; have hcz41_0 : w40.cell? ⟨gb168, 0, none⟩ = some (.int .i64 0) := (blk_cell BK168.out 0).trans rfl; have hcz41_1 : w40.cell? ⟨gb168, 1, none⟩ = some (.string (⟨#[]⟩ : ByteArray)) := (blk_cell BK168.out 1).trans rfl; have hcz41_2 : w40.cell? ⟨gb168, 2, none⟩ = some (.int .i64 0) := (blk_cell BK168.out 2).trans rfl; have hfz41_0 := blk_frozen BK168.out 0; have hfz41_1 := blk_frozen BK168.out 1; have hfz41_2 := blk_frozen BK168.out 2) | (at_builtin; refine print_append_str (w0 := w) w.heap.size rfl (.tmp 62) _ 22 9 5 rfl Tryd.underlying22 Tryd.underlying9 info5 u6 x6_3 ((rd_T34 y163 x52_3).f1) rfl rfl ?aO ?aB ?aS ?aL ?_; (case aB => exact (by repeat (first | (with_reducible first | exact HB.out | apply below_alloc | apply pw_below_drewN | apply below_drew1 | refine below_set ?_ GE168.out) | exact HB.out))); (case aO => exact (Kd.own_of_R (by (with_reducible repeat (first | apply Kd.R_alloc | apply Kd.R_drewN | apply Kd.R_drew)); exact Kd.R_mono (Kd.R_far (p := ⟨gb168, 2, none⟩) (Kd.R_far (p := ⟨gb168, 1, none⟩) (Kd.R_far (p := ⟨gb168, 0, none⟩) (Kd.R_types HO_6.out BK168.out (by decide)) (fun _ hk => hk.2) (.int .i64 ((rd_T34 y163 x52_3).f0))) (fun _ hk => hk.2) (.string ((rd_T34 y163 x52_3).f1))) (fun _ hk => hk.2) (.int .i64 ((rd_T34 y163 x52_3).f2))) (fun _ hk => trivial)))); (case aS => exact (below_size (by repeat (first | (with_reducible first | exact HB.out | apply below_alloc | apply pw_below_drewN | apply below_drew1 | refine below_set ?_ GE168.out) | exact HB.out)))); (case aL => have := LMc39.out; omega); intro v176 w42 ho0 hb hg; have ho := Kd.R_of_own (h1 := fun _ => rfl) (ok := fun _ => True) ho0 (fun _ _ => trivial); clear ho0; have hat := True.intro; rw [← Ny175.out] at ho; change Kd.R (Kd.int .u8) 5 w42 w.heap.size (fun _ => True) v176 y175 at ho; have n0_ := Aside0.mk (blk_grown (g := gb168) (o := .cells #[.int .i64 ((rd_T34 y163 x52_3).f0), .string ((rd_T34 y163 x52_3).f1), .int .i64 ((rd_T34 y163 x52_3).f2)] 34 (0, 0)) (by (with_reducible repeat (first | refine blk_drewN ?_ _ | refine blk_drew ?_ | refine blk_alloc ?_ _)); refine blk_put (cs := #[.int .i64 ((rd_T34 y163 x52_3).f0), .string ((rd_T34 y163 x52_3).f1), .int .i64 0]) ?_ 2 _ rfl; (with_reducible repeat (first | refine blk_drewN ?_ _ | refine blk_drew ?_ | refine blk_alloc ?_ _)); refine blk_put (cs := #[.int .i64 ((rd_T34 y163 x52_3).f0), .string (⟨#[]⟩ : ByteArray), .int .i64 0]) ?_ 1 _ rfl; (with_reducible repeat (first | refine blk_drewN ?_ _ | refine blk_drew ?_ | refine blk_alloc ?_ _)); refine blk_put (cs := #[.int .i64 0, .string (⟨#[]⟩ : ByteArray), .int .i64 0]) ?_ 0 _ rfl; (with_reducible repeat (first | refine blk_drewN ?_ _ | refine blk_drew ?_ | refine blk_alloc ?_ _)); exact BK168.out) hg (Kd.R_ne HO_6.out BK168.out (by decide))); have n1_ := Aside0.mk (hb); have n2_ := Aside0.mk (ho); clear BK168; clear HB; clear HO_6; have BK168 := n0_; have HB := n1_; have HO177 := n2_; clear n0_ n1_ n2_; clear ho hb hg hat))
                                    go_roundg k3
                                    case measure => have := HJ1.out; have := HK2.out; have := HK3.out; omega
                                    case rel => exact ⟨(y175), (wrap64 (x52_3 + 1)), (by first | rfl | (simp; done) | (simp [*]; done)), H', ⟨by have := HJ1.out; have := HK2.out; have := HK3.out; omega⟩, ⟨by (with_reducible repeat (first | apply Kd.R_alloc | apply Kd.R_drewN | apply Kd.R_drew)); exact HO177.out⟩, ⟨by repeat (first | (with_reducible first | exact HB.out | apply below_alloc | apply pw_below_drewN | apply below_drew1 | refine below_set ?_ GE168.out) | exact HB.out)⟩⟩
                                  · rw [if_neg c39] at H
                                    exact absurd H (by simp)
                              · rw [if_neg c30] at H
                                exact absurd H (by simp)
                            · rw [if_neg c29] at H
                              exact absurd H (by simp)
                          · rw [if_neg c28] at H
                            have c28b0 : decide (x52_3 < (y163.length : Int)) = false := decide_eq_false c28
                            clear c28
                            by_cases c43 : (x6_3.length : Int) > 16384
                            · rw [if_pos c43] at H
                              have c43b0 : decide (16384 < (x6_3.length : Int)) = true := decide_eq_true c43
                              have c43b1 : decide (16384 < x6_3.length) = true := decide_eq_true (by omega)
                              clear c43
                              simp only [Option.some.injEq, Prod.mk.injEq] at H
                              obtain ⟨rfl, rfl⟩ := H
                              obtain ⟨Ao44, co44, eo44⟩ := Kd.R_slice HO_6.out
                              subst eo44
                              go_wp2
                              go_ret2
                              exact ⟨_, by first | rfl | (simp [errW_none, errW_some] <;> rfl) | (simp only [← hji9, ← hji24]; first | rfl | (simp [errW_none, errW_some] <;> rfl)) | (simp [*, errW_none, errW_some] <;> rfl), by first | exact Kd.R_nil _ _ _ _ _ | exact Kd.N_nil _ _ _ _ _ | exact Kd.V_nil _ _ _ _ _ | exact Kd.Q_nil _ _ _ _ _ | exact Kd.S_nil _ _ _ _ _, by repeat (first | (with_reducible first | exact HB.out | apply below_alloc | apply pw_below_drewN | apply below_drew1) | exact HB.out)⟩
                            · rw [if_neg c43] at H
                              have c43b0 : decide (16384 < (x6_3.length : Int)) = false := decide_eq_false c43
                              have c43b1 : decide (16384 < x6_3.length) = false := decide_eq_false (by omega)
                              clear c43
                              simp only [Option.some.injEq, Prod.mk.injEq] at H
                              obtain ⟨rfl, rfl⟩ := H
                              obtain ⟨Ao45, co45, eo45⟩ := Kd.R_slice HO_6.out
                              subst eo45
                              go_wp2
                              go_ret2
                              exact ⟨_, by first | rfl | (simp [errW_none, errW_some] <;> rfl) | (simp only [← hji9, ← hji24]; first | rfl | (simp [errW_none, errW_some] <;> rfl)) | (simp [*, errW_none, errW_some] <;> rfl), by (with_reducible repeat (first | apply Kd.R_alloc | apply Kd.R_drewN | apply Kd.R_drew)); exact HO_6.out, by repeat (first | (with_reducible first | exact HB.out | apply below_alloc | apply pw_below_drewN | apply below_drew1) | exact HB.out)⟩
                    · rw [if_neg c26] at H
                      exact absurd H (by simp)
                  · rw [if_neg c25] at H
                    exact absurd H (by simp)
          · rw [if_neg c11] at H
            exact absurd H (by simp)
        · rw [if_neg c10] at H
          exact absurd H (by simp)

end Go.Proofs.YtbnelajjadhcgaaDoor.G
