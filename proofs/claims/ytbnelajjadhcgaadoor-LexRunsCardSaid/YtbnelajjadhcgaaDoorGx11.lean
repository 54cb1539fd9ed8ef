-- WRITTEN BY gprint.py, a program of this seat: not trusted: Lean checks it.
import Derived.Test.YtbnelajjadhcgaaDoorLive
import Derived.Test.YtbnelajjadhcgaaDoorTkn
import Derived.Test.YtbnelajjadhcgaaDoorLaid
import Derived.Test.YtbnelajjadhcgaaDoorGx0
namespace Go.Proofs.YtbnelajjadhcgaaDoor.G
open Go.RowKit Go.Proofs.YtbnelajjadhcgaaDoorW.PrintWords Go.Proofs.YtbnelajjadhcgaaDoorW.PrintLast Go.Proofs.YtbnelajjadhcgaaDoorW.PrintMore
attribute [local go_sem] max2_int min2_int max_two min_two max_three min_three max_four min_four   -- for this text's walks alone
set_option linter.unusedVariables false
set_option linter.unusedSimpArgs false

/-! ### chalklinelaw05_LexRuns: function 8 -/
mutual
def chalklinelaw05_LexRuns.j0 : Nat → List (S34) → Int → Bool → Option (Bool)
  | 0, _, _, _ => none
  | k + 1, x3, x5, x27 => if x27 = true then (if x5 = 0 then (some false) else (some ((x3.length : Int) == 0))) else (chalklinelaw05_LexRuns.l0 k x3 1)
def chalklinelaw05_LexRuns.l0 : Nat → List (S34) → Int → Option (Bool)
  | 0, _, _ => none
  | k + 1, x3, x6 => if x6 < (x3.length : Int) then (if 0 ≤ (wrap64 (x6 - 1)) then (if (wrap64 (x6 - 1)) < (x3.length : Int) then (if 0 ≤ x6 then (if (wrap64 (((rd_T34 x3 (wrap64 (x6 - 1))).f2) + (((rd_T34 x3 (wrap64 (x6 - 1))).f1).size : Int))) = ((rd_T34 x3 x6).f2) then (if ((rd_T34 x3 (wrap64 (x6 - 1))).f0) = 1 then (if ((rd_T34 x3 x6).f0) = 3 then (if ((rd_T34 x3 (wrap64 (x6 - 1))).f0) = 2 then (chalklinelaw05_LexRuns.j2 k x3 x6 (((rd_T34 x3 x6).f0) == 2) ((rd_T34 x3 (wrap64 (x6 - 1))).f0) ((rd_T34 x3 (wrap64 (x6 - 1))).f1) ((rd_T34 x3 (wrap64 (x6 - 1))).f2)) else (chalklinelaw05_LexRuns.j2 k x3 x6 false ((rd_T34 x3 (wrap64 (x6 - 1))).f0) ((rd_T34 x3 (wrap64 (x6 - 1))).f1) ((rd_T34 x3 (wrap64 (x6 - 1))).f2))) else (if ((rd_T34 x3 x6).f0) = 4 then (if ((rd_T34 x3 (wrap64 (x6 - 1))).f0) = 2 then (chalklinelaw05_LexRuns.j2 k x3 x6 (((rd_T34 x3 x6).f0) == 2) ((rd_T34 x3 (wrap64 (x6 - 1))).f0) ((rd_T34 x3 (wrap64 (x6 - 1))).f1) ((rd_T34 x3 (wrap64 (x6 - 1))).f2)) else (chalklinelaw05_LexRuns.j2 k x3 x6 false ((rd_T34 x3 (wrap64 (x6 - 1))).f0) ((rd_T34 x3 (wrap64 (x6 - 1))).f1) ((rd_T34 x3 (wrap64 (x6 - 1))).f2))) else (chalklinelaw05_LexRuns.j2 k x3 x6 true ((rd_T34 x3 (wrap64 (x6 - 1))).f0) ((rd_T34 x3 (wrap64 (x6 - 1))).f1) ((rd_T34 x3 (wrap64 (x6 - 1))).f2)))) else (if ((rd_T34 x3 (wrap64 (x6 - 1))).f0) = 2 then (chalklinelaw05_LexRuns.j2 k x3 x6 (((rd_T34 x3 x6).f0) == 2) ((rd_T34 x3 (wrap64 (x6 - 1))).f0) ((rd_T34 x3 (wrap64 (x6 - 1))).f1) ((rd_T34 x3 (wrap64 (x6 - 1))).f2)) else (chalklinelaw05_LexRuns.j2 k x3 x6 false ((rd_T34 x3 (wrap64 (x6 - 1))).f0) ((rd_T34 x3 (wrap64 (x6 - 1))).f1) ((rd_T34 x3 (wrap64 (x6 - 1))).f2)))) else (chalklinelaw05_LexRuns.j2 k x3 x6 false ((rd_T34 x3 (wrap64 (x6 - 1))).f0) ((rd_T34 x3 (wrap64 (x6 - 1))).f1) ((rd_T34 x3 (wrap64 (x6 - 1))).f2))) else (none)) else (none)) else (none)) else (if 0 ≤ (wrap64 ((x3.length : Int) - 1)) then (if (wrap64 ((x3.length : Int) - 1)) < (x3.length : Int) then (some (((rd_T34 x3 (wrap64 ((x3.length : Int) - 1))).f0) == 4)) else (none)) else (none))
def chalklinelaw05_LexRuns.j2 : Nat → List (S34) → Int → Bool → Int → ByteArray → Int → Option (Bool)
  | 0, _, _, _, _, _, _ => none
  | k + 1, x3, x6, x87, x240000, x240001, x240002 => if x87 = true then (some false) else (if x240000 = 4 then (some false) else (if x240001.toList = ([] : List UInt8) then (some false) else (chalklinelaw05_LexRuns.l0 k x3 (wrap64 (x6 + 1)))))
end
def chalklinelaw05_LexRuns.f (k : Nat) (l0 : List Int) : Option (Bool) := (chalklinelaw05_live.f).bind fun t230 => (if t230 = true then (if (l0.length : Int) > 2000 then (some true) else ((lex_Tokens.f l0).bind fun bt231 => (if bt231.2.2 = 0 then (chalklinelaw05_LexRuns.j0 k bt231.1 bt231.2.2 ((bt231.1.length : Int) == 0)) else (chalklinelaw05_LexRuns.j0 k bt231.1 bt231.2.2 true)))) else (some false))
theorem chalklinelaw05_LexRuns.mono_l : ∀ k, (∀ y0 y1 y2, LeO (chalklinelaw05_LexRuns.j0 k y0 y1 y2) (chalklinelaw05_LexRuns.j0 (k + 1) y0 y1 y2)) ∧ (∀ y0 y1, LeO (chalklinelaw05_LexRuns.l0 k y0 y1) (chalklinelaw05_LexRuns.l0 (k + 1) y0 y1)) ∧ (∀ y0 y1 y2 y3 y4 y5, LeO (chalklinelaw05_LexRuns.j2 k y0 y1 y2 y3 y4 y5) (chalklinelaw05_LexRuns.j2 (k + 1) y0 y1 y2 y3 y4 y5))
  | 0 => ⟨fun _ _ _ r h => by simp [chalklinelaw05_LexRuns.j0] at h, fun _ _ r h => by simp [chalklinelaw05_LexRuns.l0] at h, fun _ _ _ _ _ _ r h => by simp [chalklinelaw05_LexRuns.j2] at h⟩
  | k + 1 => by
    obtain ⟨ih0, ih1, ih2⟩ := chalklinelaw05_LexRuns.mono_l k
    refine ⟨?_, ?_, ?_⟩
    · intro y0 y1 y2
      unfold chalklinelaw05_LexRuns.j0
      repeat' first
      | (with_reducible exact ih0 _ _ _)
      | (with_reducible exact ih1 _ _)
      | (with_reducible exact ih2 _ _ _ _ _ _)
      | (with_reducible exact LeO.refl _)
      | (with_reducible exact LeO.none _)
      | (with_reducible refine LeO.ite ?_ ?_)
      | (with_reducible refine LeO.bind ?_ (fun _ => ?_))
      | exact ih0 _ _ _
      | exact ih1 _ _
      | exact ih2 _ _ _ _ _ _
      | exact LeO.none _
      | refine LeO.ite ?_ ?_
      | refine LeO.bind ?_ (fun _ => ?_)
    · intro y0 y1
      unfold chalklinelaw05_LexRuns.l0
      repeat' first
      | (with_reducible exact ih0 _ _ _)
      | (with_reducible exact ih1 _ _)
      | (with_reducible exact ih2 _ _ _ _ _ _)
      | (with_reducible exact LeO.refl _)
      | (with_reducible exact LeO.none _)
      | (with_reducible refine LeO.ite ?_ ?_)
      | (with_reducible refine LeO.bind ?_ (fun _ => ?_))
      | exact ih0 _ _ _
      | exact ih1 _ _
      | exact ih2 _ _ _ _ _ _
      | exact LeO.none _
      | refine LeO.ite ?_ ?_
      | refine LeO.bind ?_ (fun _ => ?_)
    · intro y0 y1 y2 y3 y4 y5
      unfold chalklinelaw05_LexRuns.j2
      repeat' first
      | (with_reducible exact ih0 _ _ _)
      | (with_reducible exact ih1 _ _)
      | (with_reducible exact ih2 _ _ _ _ _ _)
      | (with_reducible exact LeO.refl _)
      | (with_reducible exact LeO.none _)
      | (with_reducible refine LeO.ite ?_ ?_)
      | (with_reducible refine LeO.bind ?_ (fun _ => ?_))
      | exact ih0 _ _ _
      | exact ih1 _ _
      | exact ih2 _ _ _ _ _ _
      | exact LeO.none _
      | refine LeO.ite ?_ ?_
      | refine LeO.bind ?_ (fun _ => ?_)
theorem chalklinelaw05_LexRuns.mono : ∀ a0 k, LeO (chalklinelaw05_LexRuns.f k a0) (chalklinelaw05_LexRuns.f (k + 1) a0) := by
  intro a0 k
  obtain ⟨ih0, ih1, ih2⟩ := chalklinelaw05_LexRuns.mono_l k
  unfold chalklinelaw05_LexRuns.f
  repeat' first
      | (with_reducible exact ih0 _ _ _)
      | (with_reducible exact ih1 _ _)
      | (with_reducible exact ih2 _ _ _ _ _ _)
      | (with_reducible exact LeO.refl _)
      | (with_reducible exact LeO.none _)
      | (with_reducible refine LeO.ite ?_ ?_)
      | (with_reducible refine LeO.bind ?_ (fun _ => ?_))
      | exact ih0 _ _ _
      | exact ih1 _ _
      | exact ih2 _ _ _ _ _ _
      | exact LeO.none _
      | refine LeO.ite ?_ ?_
      | refine LeO.bind ?_ (fun _ => ?_)
def chalklinelaw05_LexRuns.T11 : Bool × List (List Nat × List Nat) := (true, [([], []), ([], []), ([1], [1]), ([0, 2], [0, 2]), ([3], [3]), ([], []), ([], []), ([5, 6], [5, 6]), ([7], [7]), ([], []), ([], []), ([9, 4, 0, 1, 2, 3, 4, 9, 10], [4, 9]), ([10, 8, 11, 0, 1, 2, 3, 4, 5, 6, 7, 8, 9, 10, 11], [8, 10])])
def chalklinelaw05_LexRuns.B11 : List Nat := [0, 0, 2, 7, 15, 0, 0, 96, 224, 0, 0, 1567, 4095]
theorem chalklinelaw05_LexRuns.tab11 : rtab .any (opsOf Tryd.f8 11) = chalklinelaw05_LexRuns.T11 := by kernel_rfl
theorem chalklinelaw05_LexRuns.bits11 : waitsOk chalklinelaw05_LexRuns.T11.2 chalklinelaw05_LexRuns.B11 = true := by kernel_rfl
set_option maxHeartbeats 8000000 in
set_option maxRecDepth 100000 in
theorem chalklinelaw05_LexRuns.calls (k : Nat) (A0 : Option Addr) (c0 : Nat) (l0 : List Int) (r : Bool) (w : World) (hG : Laid w) (hr0 : Kd.C (Kd.int .u8) w A0 l0.length l0) (hc0 : l0.length ≤ c0) (h : chalklinelaw05_LexRuns.f k l0 = some r) :
    Calls Tryd.prog 8 #[.slice A0 l0.length c0] w fun e w' => e = .returned (.bool r) ∧ Below w.heap.size w w' := by
  have HG := Aside0.mk hG
  clear hG
  have hu34 := Tryd.underlying34
  have HR0 := Aside0.mk hr0
  have HC0 := Aside0.mk hc0
  clear hr0 hc0
  have HB := Aside0.mk (Below.refl w.heap.size w)
  have H : ((chalklinelaw05_live.f).bind fun t230 => (if t230 = true then (if (l0.length : Int) > 2000 then (some true) else ((lex_Tokens.f l0).bind fun bt231 => (if bt231.2.2 = 0 then (chalklinelaw05_LexRuns.j0 k bt231.1 bt231.2.2 ((bt231.1.length : Int) == 0)) else (chalklinelaw05_LexRuns.j0 k bt231.1 bt231.2.2 true)))) else (some false))) = some r := h
  clear h
  replace H := Option.bind_eq_some_iff.mp H
  obtain ⟨t230, A20, H⟩ := H
  replace H : (if t230 = true then (if (l0.length : Int) > 2000 then (some true) else ((lex_Tokens.f l0).bind fun bt231 => (if bt231.2.2 = 0 then (chalklinelaw05_LexRuns.j0 k bt231.1 bt231.2.2 ((bt231.1.length : Int) == 0)) else (chalklinelaw05_LexRuns.j0 k bt231.1 bt231.2.2 true)))) else (some false)) = some r := H
  have A2 := Aside0.mk A20
  clear A20
  by_cases c3 : t230 = true
  · subst c3
    have H1 : (if (l0.length : Int) > 2000 then (some true) else ((lex_Tokens.f l0).bind fun bt231 => (if bt231.2.2 = 0 then (chalklinelaw05_LexRuns.j0 k bt231.1 bt231.2.2 ((bt231.1.length : Int) == 0)) else (chalklinelaw05_LexRuns.j0 k bt231.1 bt231.2.2 true)))) = some r := by rw [if_pos rfl] at H; exact H
    clear H
    have H := H1
    clear H1
    by_cases c4 : (l0.length : Int) > 2000
    · rw [if_pos c4] at H
      have c4b0 : decide (2000 < (l0.length : Int)) = true := decide_eq_true c4
      have c4b1 : decide (2000 < l0.length) = true := decide_eq_true (by omega)
      clear c4
      obtain rfl := Option.some.inj H
      go_enter Tryd.func8, Tryd.ntmps8
      go_wp2_with (first | ((with_reducible refine gate_callee (f := 9) rfl ?_); refine goesL_ (some 10) rfl rfl Tryd.func9 (by kernel_rfl) rfl #[] rfl (by (try simp only [List.map_toArray, List.map_cons, List.map_nil]); first | done | rfl | (simp only [List.length_drop, List.length_take]; rfl)) ?_; (with_reducible refine (chalklinelaw05_live.calls (hG := ?sideG)  true _ A2.out).mono ?_); (case sideG => repeat (first | exact HG.out | exact (Laid.below HG.out HB.out) | (with_reducible refine Laid.alloc ?_ _) | (with_reducible refine Laid.drewN ?_ _) | (with_reducible refine Laid.drew ?_))); rintro e w5 ⟨rfl, hb⟩; refine ⟨_, rfl, ?_⟩; have n0_ := Aside0.mk (below_step (by repeat (first | (with_reducible first | exact HB.out | apply below_alloc | apply pw_below_drewN | apply below_drew1) | exact HB.out)) hb); clear HB; have HB := n0_; clear n0_; (try clear hb); (try clear hb2); (try clear hk); (try clear hi)))
      go_ret
      exact ⟨by first | rfl | (simp [errW_none, errW_some] <;> rfl) | (simp [*, errW_none, errW_some] <;> rfl), by repeat (first | (with_reducible first | exact HB.out | apply below_alloc | apply pw_below_drewN | apply below_drew1) | exact HB.out)⟩
    · rw [if_neg c4] at H
      have c4b0 : decide (2000 < (l0.length : Int)) = false := decide_eq_false c4
      have c4b1 : decide (2000 < l0.length) = false := decide_eq_false (by omega)
      clear c4
      replace H := Option.bind_eq_some_iff.mp H
      obtain ⟨⟨t231, t232, t233⟩, A60, H⟩ := H
      replace H : (if t233 = 0 then (chalklinelaw05_LexRuns.j0 k t231 t233 ((t231.length : Int) == 0)) else (chalklinelaw05_LexRuns.j0 k t231 t233 true)) = some r := H
      have A6 := Aside0.mk A60
      clear A60
      have HC7 := Aside0.mk H
      clear H
      go_enter Tryd.func8, Tryd.ntmps8
      go_upto_region 6 with (first | ((with_reducible refine gate_callee (f := 9) rfl ?_); refine goesL_ (some 10) rfl rfl Tryd.func9 (by kernel_rfl) rfl #[] rfl (by (try simp only [List.map_toArray, List.map_cons, List.map_nil]); first | done | rfl | (simp only [List.length_drop, List.length_take]; rfl)) ?_; (with_reducible refine (chalklinelaw05_live.calls (hG := ?sideG)  true _ A2.out).mono ?_); (case sideG => repeat (first | exact HG.out | exact (Laid.below HG.out HB.out) | (with_reducible refine Laid.alloc ?_ _) | (with_reducible refine Laid.drewN ?_ _) | (with_reducible refine Laid.drew ?_))); rintro e w8 ⟨rfl, hb⟩; refine ⟨_, rfl, ?_⟩; have n0_ := Aside0.mk (below_step (by repeat (first | (with_reducible first | exact HB.out | apply below_alloc | apply pw_below_drewN | apply below_drew1) | exact HB.out)) hb); clear HB; have HB := n0_; clear n0_; (try clear hb); (try clear hb2); (try clear hk); (try clear hi)) | ((with_reducible refine gate_callee (f := 10) rfl ?_); refine goesL_ (some 17) rfl rfl Tryd.func10 (by kernel_rfl) rfl #[.slice A0 l0.length c0] rfl (by (try simp only [List.map_toArray, List.map_cons, List.map_nil]); first | done | rfl | (simp only [List.length_drop, List.length_take]; rfl)) ?_; (with_reducible refine (lex_Tokens.calls (hG := ?sideG) _ _ l0 t231 t232 t233 _ ?side1 ?side2 A6.out).mono ?_); (case sideG => repeat (first | exact HG.out | exact (Laid.below HG.out HB.out) | (with_reducible refine Laid.alloc ?_ _) | (with_reducible refine Laid.drewN ?_ _) | (with_reducible refine Laid.drew ?_))); (case side1 => repeat (first | exact (Kd.C_below HR0.out HB.out) | (with_reducible refine Kd.C_alloc ?_ _) | (with_reducible refine Kd.C_drewN ?_ _) | (with_reducible refine Kd.C_drew ?_))); (case side2 => exact HC0.out); rintro e w9 ⟨v234, rfl, ho0, hb⟩; refine ⟨_, rfl, ?_⟩; have n0_ := Aside0.mk (Kd.R_lower ho0 (below_size (by repeat (first | (with_reducible first | exact HB.out | apply below_alloc | apply pw_below_drewN | apply below_drew1) | exact HB.out)))); have n1_ := Aside0.mk (below_step (by repeat (first | (with_reducible first | exact HB.out | apply below_alloc | apply pw_below_drewN | apply below_drew1) | exact HB.out)) hb); clear HB; have HO235 := n0_; have HB := n1_; clear n0_ n1_; (try clear hb); (try clear hb2); (try clear hk); (try clear hi); (try clear ho0)))
      (try simp only [Act.put, List.setIfInBounds_toArray, List.set_cons_zero, List.set_cons_succ])
      go_cut [27] (fun v27 wc => ∃ (kq : Nat) (x27_6 : Bool), v27 = .bool x27_6 ∧ Aside0 (chalklinelaw05_LexRuns.j0 kq t231 t233 x27_6 = some r) ∧ Aside0 (kq ≤ k) ∧ Aside0 (Kd.R k34 34 wc w.heap.size (fun _ => True) v234 t231) ∧ Aside0 (Below w.heap.size w wc))
      case first =>
        have H := HC7.out
        clear HC7
        by_cases c10 : t233 = 0
        · rw [if_pos c10] at H
          have c10b0 : (t233 == 0) = true := beq_iff_eq.mpr c10
          have c10b1 : (t233 != 0) = false := bne_eq_false_iff_eq.mpr c10
          clear c10
          (first | rw [c10b0] | (simp only [i64_w, i32_w]; rw [c10b0]) | skip)
          have H' := Aside0.mk H
          clear H
          obtain ⟨Ao11, co11, eo11⟩ := Kd.R_slice HO235.out
          subst eo11
          go_wp2
          go_meet
          case rel => exact ⟨_, (((t231.length : Int) == 0)), (by first | rfl | (simp; done) | (simp [*]; done)), H', ⟨by first | omega | exact Nat.le_refl _⟩, ⟨by (with_reducible repeat (first | apply Kd.R_alloc | apply Kd.R_drewN | apply Kd.R_drew)); exact HO235.out⟩, ⟨by repeat (first | (with_reducible first | exact HB.out | apply below_alloc | apply pw_below_drewN | apply below_drew1) | exact HB.out)⟩⟩
        · rw [if_neg c10] at H
          have c10b0 : (t233 == 0) = false := beq_eq_false_iff_ne.mpr c10
          have c10b1 : (t233 != 0) = true := bne_iff_ne.mpr c10
          (first | rw [c10b0] | (simp only [i64_w, i32_w]; rw [c10b0]) | skip)
          have H' := Aside0.mk H
          clear H
          go_wp2
          go_meet
          case rel => exact ⟨_, (true), (by first | rfl | (simp; done) | (simp [*]; done)), H', ⟨by first | omega | exact Nat.le_refl _⟩, ⟨by (with_reducible repeat (first | apply Kd.R_alloc | apply Kd.R_drewN | apply Kd.R_drew)); exact HO235.out⟩, ⟨by repeat (first | (with_reducible first | exact HB.out | apply below_alloc | apply pw_below_drewN | apply below_drew1) | exact HB.out)⟩⟩
      case rest =>
        clear HC7
        try clear c1
        try clear p2
        try clear c3
        try clear c4
        try clear c4b0
        try clear c4b1
        try clear c8
        try clear c9
        try clear c10
        try clear c10b0
        try clear c10b1
        obtain ⟨kq, x27_6, rfl, HA, HJ6, HO_3, HB⟩ := hcut
        cases kq with
        | zero => exact absurd HA.out (by simp [chalklinelaw05_LexRuns.j0])
        | succ kj6 =>
          have H := HA.out
          clear HA
          simp only [chalklinelaw05_LexRuns.j0] at H
          by_cases c12 : x27_6 = true
          · subst c12
            have H1 : (if t233 = 0 then (some false) else (some ((t231.length : Int) == 0))) = some r := by rw [if_pos rfl] at H; exact H
            clear H
            have H := H1
            clear H1
            by_cases c13 : t233 = 0
            · rw [if_pos c13] at H
              have c13b0 : (t233 == 0) = true := beq_iff_eq.mpr c13
              have c13b1 : (t233 != 0) = false := bne_eq_false_iff_eq.mpr c13
              clear c13
              obtain rfl := Option.some.inj H
              go_wp2
              go_ret
              exact ⟨by first | rfl | (simp [errW_none, errW_some] <;> rfl) | (simp [*, errW_none, errW_some] <;> rfl), by repeat (first | (with_reducible first | exact HB.out | apply below_alloc | apply pw_below_drewN | apply below_drew1) | exact HB.out)⟩
            · rw [if_neg c13] at H
              have c13b0 : (t233 == 0) = false := beq_eq_false_iff_ne.mpr c13
              have c13b1 : (t233 != 0) = true := bne_iff_ne.mpr c13
              obtain rfl := Option.some.inj H
              obtain ⟨Ao14, co14, eo14⟩ := Kd.R_slice HO_3.out
              subst eo14
              go_wp2
              go_ret
              exact ⟨by first | rfl | (simp [errW_none, errW_some] <;> rfl) | (simp [*, errW_none, errW_some] <;> rfl), by repeat (first | (with_reducible first | exact HB.out | apply below_alloc | apply pw_below_drewN | apply below_drew1) | exact HB.out)⟩
          · replace c12 := Bool.eq_false_iff.mpr c12
            subst c12
            have H1 : (chalklinelaw05_LexRuns.l0 kj6 t231 1) = some r := by rw [if_neg (show ¬ (false = true) by decide)] at H; exact H
            clear H
            have H := H1
            clear H1
            have H' := Aside0.mk H
            clear H
            go_wp2
            go_loopg [6] kj6 (fun kq v6 w' => ∃ (x6_2 : Int), v6 = .int .i64 x6_2 ∧ Aside0 (chalklinelaw05_LexRuns.l0 kq t231 x6_2 = some r) ∧ Aside0 (kq ≤ kj6) ∧ Aside0 (Kd.R k34 34 w' w.heap.size (fun _ => True) v234 t231) ∧ Aside0 (Below w.heap.size w w'))
            case atStart => exact ⟨(1), (by first | rfl | (simp; done) | (simp [*]; done)), H', ⟨Nat.le_refl _⟩, ⟨by (with_reducible repeat (first | apply Kd.R_alloc | apply Kd.R_drewN | apply Kd.R_drew)); exact HO_3.out⟩, ⟨by repeat (first | (with_reducible first | exact HB.out | apply below_alloc | apply pw_below_drewN | apply below_drew1) | exact HB.out)⟩⟩
            case round =>
              clear H'
              try clear c1
              try clear p2
              try clear c3
              try clear c4
              try clear c4b0
              try clear c4b1
              try clear c8
              try clear c9
              try clear c10
              try clear c10b0
              try clear c10b1
              try clear c12
              try clear c13
              try clear c13b0
              try clear c13b1
              try clear p2
              obtain ⟨x6_2, rfl, HA, HK2, HO_3, HB⟩ := hrel
              cases gk with
              | zero => exact absurd HA.out (by simp [chalklinelaw05_LexRuns.l0])
              | succ k2 =>
                have H := HA.out
                clear HA
                simp only [chalklinelaw05_LexRuns.l0] at H
                by_cases c15 : x6_2 < (t231.length : Int)
                · rw [if_pos c15] at H
                  have c15b0 : decide (x6_2 < (t231.length : Int)) = true := decide_eq_true c15
                  clear c15
                  obtain ⟨ji16, hji16⟩ : ∃ j_ : Int, (wrap64 (x6_2 - 1)) = j_ := ⟨_, rfl⟩
                  replace H : (if 0 ≤ (ji16) then (if (ji16) < (t231.length : Int) then (if 0 ≤ x6_2 then (if (wrap64 (((rd_T34 t231 (ji16)).f2) + (((rd_T34 t231 (ji16)).f1).size : Int))) = ((rd_T34 t231 x6_2).f2) then (if ((rd_T34 t231 (ji16)).f0) = 1 then (if ((rd_T34 t231 x6_2).f0) = 3 then (if ((rd_T34 t231 (ji16)).f0) = 2 then (chalklinelaw05_LexRuns.j2 k2 t231 x6_2 (((rd_T34 t231 x6_2).f0) == 2) ((rd_T34 t231 (ji16)).f0) ((rd_T34 t231 (ji16)).f1) ((rd_T34 t231 (ji16)).f2)) else (chalklinelaw05_LexRuns.j2 k2 t231 x6_2 false ((rd_T34 t231 (ji16)).f0) ((rd_T34 t231 (ji16)).f1) ((rd_T34 t231 (ji16)).f2))) else (if ((rd_T34 t231 x6_2).f0) = 4 then (if ((rd_T34 t231 (ji16)).f0) = 2 then (chalklinelaw05_LexRuns.j2 k2 t231 x6_2 (((rd_T34 t231 x6_2).f0) == 2) ((rd_T34 t231 (ji16)).f0) ((rd_T34 t231 (ji16)).f1) ((rd_T34 t231 (ji16)).f2)) else (chalklinelaw05_LexRuns.j2 k2 t231 x6_2 false ((rd_T34 t231 (ji16)).f0) ((rd_T34 t231 (ji16)).f1) ((rd_T34 t231 (ji16)).f2))) else (chalklinelaw05_LexRuns.j2 k2 t231 x6_2 true ((rd_T34 t231 (ji16)).f0) ((rd_T34 t231 (ji16)).f1) ((rd_T34 t231 (ji16)).f2)))) else (if ((rd_T34 t231 (ji16)).f0) = 2 then (chalklinelaw05_LexRuns.j2 k2 t231 x6_2 (((rd_T34 t231 x6_2).f0) == 2) ((rd_T34 t231 (ji16)).f0) ((rd_T34 t231 (ji16)).f1) ((rd_T34 t231 (ji16)).f2)) else (chalklinelaw05_LexRuns.j2 k2 t231 x6_2 false ((rd_T34 t231 (ji16)).f0) ((rd_T34 t231 (ji16)).f1) ((rd_T34 t231 (ji16)).f2)))) else (chalklinelaw05_LexRuns.j2 k2 t231 x6_2 false ((rd_T34 t231 (ji16)).f0) ((rd_T34 t231 (ji16)).f1) ((rd_T34 t231 (ji16)).f2))) else (none)) else (none)) else (none)) = some r := by first | (rw [hji16] at H; exact H) | (simp only [hji16] at H ⊢; exact H)
                  have hji16w : (IntKind.i64.wrap (x6_2 - 1)) = ji16 := (i64_w _).trans hji16
                  by_cases c17 : 0 ≤ (ji16)
                  · rw [if_pos c17] at H
                    have c17b0 : decide (0 ≤ (ji16)) = true := decide_eq_true c17
                    clear c17
                    by_cases c18 : (ji16) < (t231.length : Int)
                    · rw [if_pos c18] at H
                      have c18b0 : decide ((ji16) < (t231.length : Int)) = true := decide_eq_true c18
                      clear c18
                      by_cases c19 : 0 ≤ x6_2
                      · rw [if_pos c19] at H
                        have c19b0 : decide (0 ≤ x6_2) = true := decide_eq_true c19
                        clear c19
                        have HC20 := Aside0.mk H
                        clear H
                        obtain ⟨Ao21, co21, eo21⟩ := Kd.R_slice HO_3.out
                        subst eo21
                        try go_wp2
                        have n0_ := Aside0.mk (Kd.R_drew HO_3.out)
                        have n1_ := Aside0.mk (below_drew1 HB.out)
                        clear HO_3
                        clear HB
                        have HO_3 := n0_
                        have HB := n1_
                        clear n0_ n1_
                        have p237 : 0 ≤ ((ji16) : Int) := of_decide_eq_true (by first | (with_reducible assumption) | assumption)
                        have q237 : (ji16) < (t231.length : Int) := of_decide_eq_true (by first | (with_reducible assumption) | assumption)
                        obtain ⟨ad237, e237, hx237_0, hx237_1, hx237_2⟩ := at_T34 (Kd.R_reads' HO_3.out).2.2 (ji16) p237 q237
                        cases e237
                        replace p237 := eq_true p237
                        replace q237 := eq_true q237
                        have p238 : 0 ≤ (x6_2 : Int) := of_decide_eq_true (by first | (with_reducible assumption) | assumption)
                        have q238 : x6_2 < (t231.length : Int) := of_decide_eq_true (by first | (with_reducible assumption) | assumption)
                        obtain ⟨ad238, e238, hx238_0, hx238_1, hx238_2⟩ := at_T34 (Kd.R_reads' HO_3.out).2.2 x6_2 p238 q238
                        obtain rfl : ad237 = ad238 := (by injection e238)
                        replace p238 := eq_true p238
                        replace q238 := eq_true q238
                        refine start_ (n := 13) (S := fun w' => w'.cell? (ad237.add (((ji16)).toNat * 3)) = some (.int .i64 ((rd_T34 t231 (ji16)).f0)) ∧ w'.cell? ⟨(ad237.add (((ji16)).toNat * 3)).block, (ad237.add (((ji16)).toNat * 3)).off + 1, none⟩ = some (.string ((rd_T34 t231 (ji16)).f1)) ∧ w'.cell? ⟨(ad237.add (((ji16)).toNat * 3)).block, (ad237.add (((ji16)).toNat * 3)).off + 2, none⟩ = some (.int .i64 ((rd_T34 t231 (ji16)).f2)) ∧ w'.cell? (ad237.add ((x6_2).toNat * 3)) = some (.int .i64 ((rd_T34 t231 x6_2).f0)) ∧ w'.cell? ⟨(ad237.add ((x6_2).toNat * 3)).block, (ad237.add ((x6_2).toNat * 3)).off + 1, none⟩ = some (.string ((rd_T34 t231 x6_2).f1)) ∧ w'.cell? ⟨(ad237.add ((x6_2).toNat * 3)).block, (ad237.add ((x6_2).toNat * 3)).off + 2, none⟩ = some (.int .i64 ((rd_T34 t231 x6_2).f2))) (ds := []) #[false, false, false, false, false, false, false, false, false, false, false, false, false] (by kernel_rfl) rfl rfl ⟨hx237_0, hx237_1, hx237_2, hx238_0, hx238_1, hx238_2⟩ (fun hHeld => ?_); refine with_tabW chalklinelaw05_LexRuns.tab11 chalklinelaw05_LexRuns.bits11 (fun HT_ HW_ => ?_)
                        generalize wr.drew = w22 at HO_3 HB hx237_0 hx237_1 hx237_2 hx238_0 hx238_1 hx238_2 hHeld ⊢
                        refine pure_ (i := 0) (N := some 41) (v := ?_) (a' := ?_) #[true, false, false, false, false, false, false, false, false, false, false, false, false] rfl rfl (any_of HT_.out (by kernel_rfl)) (fun _ _ _ h => h) (Or.inl ⟨by rfl, ?_⟩) ?_ ?_
                        rotate_left
                        · intro w'
                          go_simp
                          with_reducible rfl
                        rotate_left
                        · simp only [Act.put, List.setIfInBounds_toArray, List.set_cons_zero, List.set_cons_succ, i64_w, i32_w]
                          rfl
                        refine pure_ (i := 1) (N := some 42) (v := ?_) (a' := ?_) #[true, true, false, false, false, false, false, false, false, false, false, false, false] rfl rfl (any_of HT_.out (by kernel_rfl)) (fun _ _ _ h => h) (Or.inl ⟨by rfl, ?_⟩) ?_ ?_
                        rotate_left
                        · intro w'
                          go_simp
                          with_reducible rfl
                        rotate_left
                        · simp only [Act.put, List.setIfInBounds_toArray, List.set_cons_zero, List.set_cons_succ, i64_w, i32_w]
                          rfl
                        refine pure_ (i := 2) (N := some 43) (v := ?_) (a' := ?_) #[true, true, true, false, false, false, false, false, false, false, false, false, false] rfl rfl (any_of HT_.out (by kernel_rfl)) (fun _ _ _ h => h) (Or.inl ⟨by rfl, ?_⟩) ?_ ?_
                        rotate_left
                        · intro w'
                          go_simp
                          with_reducible rfl
                        rotate_left
                        · simp only [Act.put, List.setIfInBounds_toArray, List.set_cons_zero, List.set_cons_succ, i64_w, i32_w]
                          rfl
                        refine pure_ (i := 3) (N := some 44) (v := ?_) (a' := ?_) #[true, true, true, true, false, false, false, false, false, false, false, false, false] rfl rfl (any_of HT_.out (by kernel_rfl)) (fun _ _ _ h => h) (Or.inl ⟨by rfl, ?_⟩) ?_ ?_
                        rotate_left
                        · intro w'
                          go_simp
                          with_reducible rfl
                        rotate_left
                        · simp only [Act.put, List.setIfInBounds_toArray, List.set_cons_zero, List.set_cons_succ, i64_w, i32_w]
                          rfl
                        refine pure_ (i := 5) (N := some 46) (v := ?_) (a' := ?_) #[true, true, true, true, false, true, false, false, false, false, false, false, false] rfl rfl (any_of HT_.out (by kernel_rfl)) (fun _ _ _ h => h) (Or.inl ⟨by rfl, ?_⟩) ?_ ?_
                        rotate_left
                        · intro w'
                          go_simp
                          with_reducible rfl
                        rotate_left
                        · simp only [Act.put, List.setIfInBounds_toArray, List.set_cons_zero, List.set_cons_succ, i64_w, i32_w]
                          rfl
                        refine pure_ (i := 6) (N := some 47) (v := ?_) (a' := ?_) #[true, true, true, true, false, true, true, false, false, false, false, false, false] rfl rfl (any_of HT_.out (by kernel_rfl)) (fun _ _ _ h => h) (Or.inl ⟨by rfl, ?_⟩) ?_ ?_
                        rotate_left
                        · intro w'
                          go_simp
                          with_reducible rfl
                        rotate_left
                        · simp only [Act.put, List.setIfInBounds_toArray, List.set_cons_zero, List.set_cons_succ, i64_w, i32_w]
                          rfl
                        refine pure_ (i := 7) (N := some 48) (v := ?_) (a' := ?_) #[true, true, true, true, false, true, true, true, false, false, false, false, false] rfl rfl (any_of HT_.out (by kernel_rfl)) (fun _ _ _ h => h) (Or.inl ⟨by rfl, ?_⟩) ?_ ?_
                        rotate_left
                        · intro w'
                          go_simp
                          with_reducible rfl
                        rotate_left
                        · simp only [Act.put, List.setIfInBounds_toArray, List.set_cons_zero, List.set_cons_succ, i64_w, i32_w]
                          rfl
                        refine take_ (i := 4) (N := some 45) (v := ?_) (a' := ?_) #[true, true, true, true, true, true, true, true, false, false, false, false, false] rfl rfl (take_ofW HT_.out HW_.out (by kernel_rfl)) (fun _ _ _ h => h) (Or.inl ⟨by rfl, ?_⟩) hHeld ?_ ?_
                        rotate_left
                        · rintro w' ⟨s0, s1, s2, s3, s4, s5⟩
                          go_simp
                          with_reducible rfl
                        rotate_left
                        · simp only [Act.put, List.setIfInBounds_toArray, List.set_cons_zero, List.set_cons_succ, i64_w, i32_w]
                          rfl
                        refine take_ (i := 8) (N := some 49) (v := ?_) (a' := ?_) #[true, true, true, true, true, true, true, true, true, false, false, false, false] rfl rfl (take_ofW HT_.out HW_.out (by kernel_rfl)) (fun _ _ _ h => h) (Or.inl ⟨by rfl, ?_⟩) hHeld ?_ ?_
                        rotate_left
                        · rintro w' ⟨s0, s1, s2, s3, s4, s5⟩
                          go_simp
                          with_reducible rfl
                        rotate_left
                        · simp only [Act.put, List.setIfInBounds_toArray, List.set_cons_zero, List.set_cons_succ, i64_w, i32_w]
                          rfl
                        refine join_ (σ := Nat × Nat) 2 #[true, true, true, true, true, true, true, true, true, true, true, false, false] (fun s_ => [(7, .pointer (some ⟨s_.1, 0, none⟩)), (8, .pointer (some ⟨s_.2, 0, none⟩))]) (fun s_ w' => (w'.cell? (ad237.add (((ji16)).toNat * 3)) = some (.int .i64 ((rd_T34 t231 (ji16)).f0)) ∧ w'.cell? ⟨(ad237.add (((ji16)).toNat * 3)).block, (ad237.add (((ji16)).toNat * 3)).off + 1, none⟩ = some (.string ((rd_T34 t231 (ji16)).f1)) ∧ w'.cell? ⟨(ad237.add (((ji16)).toNat * 3)).block, (ad237.add (((ji16)).toNat * 3)).off + 2, none⟩ = some (.int .i64 ((rd_T34 t231 (ji16)).f2)) ∧ w'.cell? (ad237.add ((x6_2).toNat * 3)) = some (.int .i64 ((rd_T34 t231 x6_2).f0)) ∧ w'.cell? ⟨(ad237.add ((x6_2).toNat * 3)).block, (ad237.add ((x6_2).toNat * 3)).off + 1, none⟩ = some (.string ((rd_T34 t231 x6_2).f1)) ∧ w'.cell? ⟨(ad237.add ((x6_2).toNat * 3)).block, (ad237.add ((x6_2).toNat * 3)).off + 2, none⟩ = some (.int .i64 ((rd_T34 t231 x6_2).f2))) ∧ (Kd.R k34 34 w' w.heap.size (fun k_ => k_ ≠ s_.1 ∧ k_ ≠ s_.2) (.slice (some ad237) t231.length co21) t231) ∧ (w'.heap[s_.1]? = some (.cells #[.int .i64 0, .string (⟨#[]⟩ : ByteArray), .int .i64 0] 34 (0, 0))) ∧ (w'.heap[s_.2]? = some (.cells #[.int .i64 0, .string (⟨#[]⟩ : ByteArray), .int .i64 0] 34 (0, 0))) ∧ (w.heap.size ≤ s_.1) ∧ (w.heap.size ≤ s_.1) ∧ (s_.2 ≠ s_.1) ∧ (s_.1 ≠ s_.2) ∧ (w.heap.size ≤ s_.2) ∧ (w.heap.size ≤ s_.2) ∧ (Below w.heap.size w w')) ?_ ?_
                        rotate_left
                        · intro hCont
                          refine two_ (i := 9) (j := 10) (Ni := some 7) (Nj := some 8) #[true, true, true, true, true, true, true, true, true, true, false, false, false] #[true, true, true, true, true, true, true, true, true, false, true, false, false] rfl rfl rfl rfl (two_of HT_.out (by kernel_rfl)) (by decide) (by decide) (fun K hK => ?_) (fun K hK => ?_)
                          · skip
                            refine box_step ?hg (N := 7) ?hd (cs := #[.int .i64 0, .string (⟨#[]⟩ : ByteArray), .int .i64 0]) (t := 34) ?hr ?_; (case hd => rfl); (case hg => rfl); (case hr => first | (go_simp; done) | (go_simp; rfl))
                            intro gb239 hg w23 hbox hb
                            have HS0_ := (hb.cell (World.block_lt_of_cell? _ _ (hHeld.1))).trans (hHeld.1)
                            have HS1_ := (hb.cell (World.block_lt_of_cell? _ _ (hHeld.2.1))).trans (hHeld.2.1)
                            have HS2_ := (hb.cell (World.block_lt_of_cell? _ _ (hHeld.2.2.1))).trans (hHeld.2.2.1)
                            have HS3_ := (hb.cell (World.block_lt_of_cell? _ _ (hHeld.2.2.2.1))).trans (hHeld.2.2.2.1)
                            have HS4_ := (hb.cell (World.block_lt_of_cell? _ _ (hHeld.2.2.2.2.1))).trans (hHeld.2.2.2.2.1)
                            have HS5_ := (hb.cell (World.block_lt_of_cell? _ _ (hHeld.2.2.2.2.2))).trans (hHeld.2.2.2.2.2)
                            have n0_ := Aside0.mk (Kd.R_below (Kd.R_elderB (by (with_reducible repeat (first | apply Kd.R_alloc | apply Kd.R_drewN | apply Kd.R_drew)); exact HO_3.out) gb239 (Nat.le_of_eq hg.symm)) hb)
                            have n1_ := Aside0.mk (below_step (by repeat (first | (with_reducible first | exact HB.out | apply below_alloc | apply pw_below_drewN | apply below_drew1) | exact HB.out)) hb)
                            have n2_ := Aside0.mk (hbox)
                            have n3_ := Aside0.mk ((by rw [hg]; exact (below_size (by repeat (first | (with_reducible first | exact HB.out | apply below_alloc | apply pw_below_drewN | apply below_drew1) | exact HB.out))) : w.heap.size ≤ gb239))
                            have n4_ := Aside0.mk ((by rw [hg]; exact (below_size (by repeat (first | (with_reducible first | exact HB.out | apply below_alloc | apply pw_below_drewN | apply below_drew1) | exact HB.out))) : w.heap.size ≤ gb239))
                            clear HO_3
                            clear HB
                            have HO_3 := n0_
                            have HB := n1_
                            have BK239 := n2_
                            have GW239 := n3_
                            have GE239 := n4_
                            clear n0_ n1_ n2_ n3_ n4_
                            clear hb hbox hg
                            refine hK.out _ _ ⟨HS0_, HS1_, HS2_, HS3_, HS4_, HS5_⟩ (fun hHeld => ?_)
                            clear hK K
                            refine norm_ (a' := ?_) ?_ ?_
                            rotate_left
                            · show Act.put _ (some 7) _ = _
                              simp only [Act.put, List.setIfInBounds_toArray, List.set_cons_zero, List.set_cons_succ, i64_w, i32_w]
                              rfl
                            refine one_ (i := 10) (N := some 8) #[true, true, true, true, true, true, true, true, true, true, true, false, false] rfl rfl (one_of HT_.out (by kernel_rfl)) (by decide) (fun K hK => ?_)
                            refine box_step ?hg (N := 8) ?hd (cs := #[.int .i64 0, .string (⟨#[]⟩ : ByteArray), .int .i64 0]) (t := 34) ?hr ?_; (case hd => rfl); (case hg => rfl); (case hr => first | (go_simp; done) | (go_simp; rfl))
                            intro gb240 hg w24 hbox hb
                            have HS0_ := (hb.cell (World.block_lt_of_cell? _ _ (hHeld.1))).trans (hHeld.1)
                            have HS1_ := (hb.cell (World.block_lt_of_cell? _ _ (hHeld.2.1))).trans (hHeld.2.1)
                            have HS2_ := (hb.cell (World.block_lt_of_cell? _ _ (hHeld.2.2.1))).trans (hHeld.2.2.1)
                            have HS3_ := (hb.cell (World.block_lt_of_cell? _ _ (hHeld.2.2.2.1))).trans (hHeld.2.2.2.1)
                            have HS4_ := (hb.cell (World.block_lt_of_cell? _ _ (hHeld.2.2.2.2.1))).trans (hHeld.2.2.2.2.1)
                            have HS5_ := (hb.cell (World.block_lt_of_cell? _ _ (hHeld.2.2.2.2.2))).trans (hHeld.2.2.2.2.2)
                            have n0_ := Aside0.mk (Kd.R_below (Kd.R_elderB (by (with_reducible repeat (first | apply Kd.R_alloc | apply Kd.R_drewN | apply Kd.R_drew)); exact HO_3.out) gb240 (Nat.le_of_eq hg.symm)) hb)
                            have n1_ := Aside0.mk (blk_below (g := gb239) (o := .cells #[.int .i64 0, .string (⟨#[]⟩ : ByteArray), .int .i64 0] 34 (0, 0)) (by (with_reducible repeat (first | refine blk_drewN ?_ _ | refine blk_drew ?_ | refine blk_alloc ?_ _)); exact BK239.out) hb)
                            have n2_ := Aside0.mk (below_step (by repeat (first | (with_reducible first | exact HB.out | apply below_alloc | apply pw_below_drewN | apply below_drew1 | refine below_set ?_ GE239.out) | exact HB.out)) hb)
                            have n3_ := Aside0.mk (hbox)
                            have n4_ := Aside0.mk ((by rw [hg]; exact (below_size (by repeat (first | (with_reducible first | exact HB.out | apply below_alloc | apply pw_below_drewN | apply below_drew1 | refine below_set ?_ GE239.out) | exact HB.out))) : w.heap.size ≤ gb240))
                            have n5_ := Aside0.mk ((by rw [hg]; exact (below_size (by repeat (first | (with_reducible first | exact HB.out | apply below_alloc | apply pw_below_drewN | apply below_drew1 | refine below_set ?_ GE239.out) | exact HB.out))) : w.heap.size ≤ gb240))
                            have n6_ := Aside0.mk ((by rw [hg]; exact Nat.ne_of_lt (blk_lt (g := gb239) (o := .cells #[.int .i64 0, .string (⟨#[]⟩ : ByteArray), .int .i64 0] 34 (0, 0)) (by (with_reducible repeat (first | refine blk_drewN ?_ _ | refine blk_drew ?_ | refine blk_alloc ?_ _)); exact BK239.out)) : gb239 ≠ gb240))
                            have n7_ := Aside0.mk ((by rw [hg]; exact Nat.ne_of_gt (blk_lt (g := gb239) (o := .cells #[.int .i64 0, .string (⟨#[]⟩ : ByteArray), .int .i64 0] 34 (0, 0)) (by (with_reducible repeat (first | refine blk_drewN ?_ _ | refine blk_drew ?_ | refine blk_alloc ?_ _)); exact BK239.out)) : gb240 ≠ gb239))
                            clear HO_3
                            clear BK239
                            clear HB
                            have HO_3 := n0_
                            have BK239 := n1_
                            have HB := n2_
                            have BK240 := n3_
                            have GW240 := n4_
                            have GE240 := n5_
                            have NB239_240 := n6_
                            have NB240_239 := n7_
                            clear n0_ n1_ n2_ n3_ n4_ n5_ n6_ n7_
                            clear hb hbox hg
                            refine hK.out _ _ ⟨HS0_, HS1_, HS2_, HS3_, HS4_, HS5_⟩ (fun hHeld => ?_)
                            clear hK K
                            refine norm_ (a' := ?_) ?_ ?_
                            rotate_left
                            · show Act.put _ (some 8) _ = _
                              simp only [Act.put, List.setIfInBounds_toArray, List.set_cons_zero, List.set_cons_succ, i64_w, i32_w]
                              rfl
                            exact norm_ (by simp only [putAll, Act.put, List.setIfInBounds_toArray, List.set_cons_zero, List.set_cons_succ]) (hCont (gb239, gb240) _ ⟨hHeld, (by (with_reducible repeat (first | apply Kd.R_alloc | apply Kd.R_drewN | apply Kd.R_drew)); exact Kd.R_mono HO_3.out (fun _ hk => ⟨hk.1.2, hk.2⟩)), (by (with_reducible repeat (first | refine blk_drewN ?_ _ | refine blk_drew ?_ | refine blk_alloc ?_ _)); exact BK239.out), (by (with_reducible repeat (first | refine blk_drewN ?_ _ | refine blk_drew ?_ | refine blk_alloc ?_ _)); exact BK240.out), GW239.out, GE239.out, NB240_239.out, NB239_240.out, GW240.out, GE240.out, (by repeat (first | (with_reducible first | exact HB.out | apply below_alloc | apply pw_below_drewN | apply below_drew1 | refine below_set ?_ GE239.out | refine below_set ?_ GE240.out) | exact HB.out))⟩)
                          · skip
                            refine box_step ?hg (N := 8) ?hd (cs := #[.int .i64 0, .string (⟨#[]⟩ : ByteArray), .int .i64 0]) (t := 34) ?hr ?_; (case hd => rfl); (case hg => rfl); (case hr => first | (go_simp; done) | (go_simp; rfl))
                            intro gb240 hg w23 hbox hb
                            have HS0_ := (hb.cell (World.block_lt_of_cell? _ _ (hHeld.1))).trans (hHeld.1)
                            have HS1_ := (hb.cell (World.block_lt_of_cell? _ _ (hHeld.2.1))).trans (hHeld.2.1)
                            have HS2_ := (hb.cell (World.block_lt_of_cell? _ _ (hHeld.2.2.1))).trans (hHeld.2.2.1)
                            have HS3_ := (hb.cell (World.block_lt_of_cell? _ _ (hHeld.2.2.2.1))).trans (hHeld.2.2.2.1)
                            have HS4_ := (hb.cell (World.block_lt_of_cell? _ _ (hHeld.2.2.2.2.1))).trans (hHeld.2.2.2.2.1)
                            have HS5_ := (hb.cell (World.block_lt_of_cell? _ _ (hHeld.2.2.2.2.2))).trans (hHeld.2.2.2.2.2)
                            have n0_ := Aside0.mk (Kd.R_below (Kd.R_elderB (by (with_reducible repeat (first | apply Kd.R_alloc | apply Kd.R_drewN | apply Kd.R_drew)); exact HO_3.out) gb240 (Nat.le_of_eq hg.symm)) hb)
                            have n1_ := Aside0.mk (below_step (by repeat (first | (with_reducible first | exact HB.out | apply below_alloc | apply pw_below_drewN | apply below_drew1) | exact HB.out)) hb)
                            have n2_ := Aside0.mk (hbox)
                            have n3_ := Aside0.mk ((by rw [hg]; exact (below_size (by repeat (first | (with_reducible first | exact HB.out | apply below_alloc | apply pw_below_drewN | apply below_drew1) | exact HB.out))) : w.heap.size ≤ gb240))
                            have n4_ := Aside0.mk ((by rw [hg]; exact (below_size (by repeat (first | (with_reducible first | exact HB.out | apply below_alloc | apply pw_below_drewN | apply below_drew1) | exact HB.out))) : w.heap.size ≤ gb240))
                            clear HO_3
                            clear HB
                            have HO_3 := n0_
                            have HB := n1_
                            have BK240 := n2_
                            have GW240 := n3_
                            have GE240 := n4_
                            clear n0_ n1_ n2_ n3_ n4_
                            clear hb hbox hg
                            refine hK.out _ _ ⟨HS0_, HS1_, HS2_, HS3_, HS4_, HS5_⟩ (fun hHeld => ?_)
                            clear hK K
                            refine norm_ (a' := ?_) ?_ ?_
                            rotate_left
                            · show Act.put _ (some 8) _ = _
                              simp only [Act.put, List.setIfInBounds_toArray, List.set_cons_zero, List.set_cons_succ, i64_w, i32_w]
                              rfl
                            refine one_ (i := 9) (N := some 7) #[true, true, true, true, true, true, true, true, true, true, true, false, false] rfl rfl (one_of HT_.out (by kernel_rfl)) (by decide) (fun K hK => ?_)
                            refine box_step ?hg (N := 7) ?hd (cs := #[.int .i64 0, .string (⟨#[]⟩ : ByteArray), .int .i64 0]) (t := 34) ?hr ?_; (case hd => rfl); (case hg => rfl); (case hr => first | (go_simp; done) | (go_simp; rfl))
                            intro gb239 hg w24 hbox hb
                            have HS0_ := (hb.cell (World.block_lt_of_cell? _ _ (hHeld.1))).trans (hHeld.1)
                            have HS1_ := (hb.cell (World.block_lt_of_cell? _ _ (hHeld.2.1))).trans (hHeld.2.1)
                            have HS2_ := (hb.cell (World.block_lt_of_cell? _ _ (hHeld.2.2.1))).trans (hHeld.2.2.1)
                            have HS3_ := (hb.cell (World.block_lt_of_cell? _ _ (hHeld.2.2.2.1))).trans (hHeld.2.2.2.1)
                            have HS4_ := (hb.cell (World.block_lt_of_cell? _ _ (hHeld.2.2.2.2.1))).trans (hHeld.2.2.2.2.1)
                            have HS5_ := (hb.cell (World.block_lt_of_cell? _ _ (hHeld.2.2.2.2.2))).trans (hHeld.2.2.2.2.2)
                            have n0_ := Aside0.mk (Kd.R_below (Kd.R_elderB (by (with_reducible repeat (first | apply Kd.R_alloc | apply Kd.R_drewN | apply Kd.R_drew)); exact HO_3.out) gb239 (Nat.le_of_eq hg.symm)) hb)
                            have n1_ := Aside0.mk (blk_below (g := gb240) (o := .cells #[.int .i64 0, .string (⟨#[]⟩ : ByteArray), .int .i64 0] 34 (0, 0)) (by (with_reducible repeat (first | refine blk_drewN ?_ _ | refine blk_drew ?_ | refine blk_alloc ?_ _)); exact BK240.out) hb)
                            have n2_ := Aside0.mk (below_step (by repeat (first | (with_reducible first | exact HB.out | apply below_alloc | apply pw_below_drewN | apply below_drew1 | refine below_set ?_ GE240.out) | exact HB.out)) hb)
                            have n3_ := Aside0.mk (hbox)
                            have n4_ := Aside0.mk ((by rw [hg]; exact (below_size (by repeat (first | (with_reducible first | exact HB.out | apply below_alloc | apply pw_below_drewN | apply below_drew1 | refine below_set ?_ GE240.out) | exact HB.out))) : w.heap.size ≤ gb239))
                            have n5_ := Aside0.mk ((by rw [hg]; exact (below_size (by repeat (first | (with_reducible first | exact HB.out | apply below_alloc | apply pw_below_drewN | apply below_drew1 | refine below_set ?_ GE240.out) | exact HB.out))) : w.heap.size ≤ gb239))
                            have n6_ := Aside0.mk ((by rw [hg]; exact Nat.ne_of_lt (blk_lt (g := gb240) (o := .cells #[.int .i64 0, .string (⟨#[]⟩ : ByteArray), .int .i64 0] 34 (0, 0)) (by (with_reducible repeat (first | refine blk_drewN ?_ _ | refine blk_drew ?_ | refine blk_alloc ?_ _)); exact BK240.out)) : gb240 ≠ gb239))
                            have n7_ := Aside0.mk ((by rw [hg]; exact Nat.ne_of_gt (blk_lt (g := gb240) (o := .cells #[.int .i64 0, .string (⟨#[]⟩ : ByteArray), .int .i64 0] 34 (0, 0)) (by (with_reducible repeat (first | refine blk_drewN ?_ _ | refine blk_drew ?_ | refine blk_alloc ?_ _)); exact BK240.out)) : gb239 ≠ gb240))
                            clear HO_3
                            clear BK240
                            clear HB
                            have HO_3 := n0_
                            have BK240 := n1_
                            have HB := n2_
                            have BK239 := n3_
                            have GW239 := n4_
                            have GE239 := n5_
                            have NB240_239 := n6_
                            have NB239_240 := n7_
                            clear n0_ n1_ n2_ n3_ n4_ n5_ n6_ n7_
                            clear hb hbox hg
                            refine hK.out _ _ ⟨HS0_, HS1_, HS2_, HS3_, HS4_, HS5_⟩ (fun hHeld => ?_)
                            clear hK K
                            refine norm_ (a' := ?_) ?_ ?_
                            rotate_left
                            · show Act.put _ (some 7) _ = _
                              simp only [Act.put, List.setIfInBounds_toArray, List.set_cons_zero, List.set_cons_succ, i64_w, i32_w]
                              rfl
                            exact norm_ (by simp only [putAll, Act.put, List.setIfInBounds_toArray, List.set_cons_zero, List.set_cons_succ]) (hCont (gb239, gb240) _ ⟨hHeld, (by (with_reducible repeat (first | apply Kd.R_alloc | apply Kd.R_drewN | apply Kd.R_drew)); exact Kd.R_mono HO_3.out (fun _ hk => ⟨hk.2, hk.1.2⟩)), (by (with_reducible repeat (first | refine blk_drewN ?_ _ | refine blk_drew ?_ | refine blk_alloc ?_ _)); exact BK239.out), (by (with_reducible repeat (first | refine blk_drewN ?_ _ | refine blk_drew ?_ | refine blk_alloc ?_ _)); exact BK240.out), GW239.out, GE239.out, NB240_239.out, NB239_240.out, GW240.out, GE240.out, (by repeat (first | (with_reducible first | exact HB.out | apply below_alloc | apply pw_below_drewN | apply below_drew1 | refine below_set ?_ GE240.out | refine below_set ?_ GE239.out) | exact HB.out))⟩)
                        rintro ⟨gb239, gb240⟩ w25 ⟨hS_, h0_, h1_, h2_, h3_, h4_, h5_, h6_, h7_, h8_, h9_⟩
                        have n0_ : Aside0 (Kd.R k34 34 w25 w.heap.size (fun k_ => k_ ≠ gb239 ∧ k_ ≠ gb240) (.slice (some ad237) t231.length co21) t231) := ⟨h0_⟩
                        have n1_ : Aside0 (w25.heap[gb239]? = some (.cells #[.int .i64 0, .string (⟨#[]⟩ : ByteArray), .int .i64 0] 34 (0, 0))) := ⟨h1_⟩
                        have n2_ : Aside0 (w25.heap[gb240]? = some (.cells #[.int .i64 0, .string (⟨#[]⟩ : ByteArray), .int .i64 0] 34 (0, 0))) := ⟨h2_⟩
                        have n3_ : Aside0 (w.heap.size ≤ gb239) := ⟨h3_⟩
                        have n4_ : Aside0 (w.heap.size ≤ gb239) := ⟨h4_⟩
                        have n5_ : Aside0 (gb240 ≠ gb239) := ⟨h5_⟩
                        have n6_ : Aside0 (gb239 ≠ gb240) := ⟨h6_⟩
                        have n7_ : Aside0 (w.heap.size ≤ gb240) := ⟨h7_⟩
                        have n8_ : Aside0 (w.heap.size ≤ gb240) := ⟨h8_⟩
                        have n9_ : Aside0 (Below w.heap.size w w25) := ⟨h9_⟩
                        clear HO_3
                        clear HB
                        clear h0_ h1_ h2_ h3_ h4_ h5_ h6_ h7_ h8_ h9_
                        have HO_3 := n0_
                        have BK239 := n1_
                        have BK240 := n2_
                        have GW239 := n3_
                        have GE239 := n4_
                        have NB240_239 := n5_
                        have NB239_240 := n6_
                        have GW240 := n7_
                        have GE240 := n8_
                        have HB := n9_
                        clear n0_ n1_ n2_ n3_ n4_ n5_ n6_ n7_ n8_ n9_
                        have hHeld : w25.cell? (ad237.add (((ji16)).toNat * 3)) = some (.int .i64 ((rd_T34 t231 (ji16)).f0)) ∧ w25.cell? ⟨(ad237.add (((ji16)).toNat * 3)).block, (ad237.add (((ji16)).toNat * 3)).off + 1, none⟩ = some (.string ((rd_T34 t231 (ji16)).f1)) ∧ w25.cell? ⟨(ad237.add (((ji16)).toNat * 3)).block, (ad237.add (((ji16)).toNat * 3)).off + 2, none⟩ = some (.int .i64 ((rd_T34 t231 (ji16)).f2)) ∧ w25.cell? (ad237.add ((x6_2).toNat * 3)) = some (.int .i64 ((rd_T34 t231 x6_2).f0)) ∧ w25.cell? ⟨(ad237.add ((x6_2).toNat * 3)).block, (ad237.add ((x6_2).toNat * 3)).off + 1, none⟩ = some (.string ((rd_T34 t231 x6_2).f1)) ∧ w25.cell? ⟨(ad237.add ((x6_2).toNat * 3)).block, (ad237.add ((x6_2).toNat * 3)).off + 2, none⟩ = some (.int .i64 ((rd_T34 t231 x6_2).f2)) := hS_
                        refine norm_ (a' := ?_) ?_ ?_
                        rotate_left
                        · simp only [putAll, Act.put, List.setIfInBounds_toArray, List.set_cons_zero, List.set_cons_succ]
                          rfl
                        refine one_ (i := 11) (N := none) #[true, true, true, true, true, true, true, true, true, true, true, true, false] rfl rfl (one_of HT_.out (by kernel_rfl)) (by decide) (fun K hK => ?_)
                        have hs26 : w25.cell? ⟨gb239, 0, none⟩ = some (.int .i64 0) := (blk_cell BK239.out 0).trans rfl
                        have hfs26 := blk_frozen BK239.out 0
                        have hns26_1 := NB240_239.out
                        have hms26_1 := NB239_240.out
                        have hs27 : w25.cell? ⟨gb239, 1, none⟩ = some (.string (⟨#[]⟩ : ByteArray)) := (blk_cell BK239.out 1).trans rfl
                        have hfs27 := blk_frozen BK239.out 1
                        have hns27_1 := NB240_239.out
                        have hms27_1 := NB239_240.out
                        have hs28 : w25.cell? ⟨gb239, 2, none⟩ = some (.int .i64 0) := (blk_cell BK239.out 2).trans rfl
                        have hfs28 := blk_frozen BK239.out 2
                        have hns28_1 := NB240_239.out
                        have hms28_1 := NB239_240.out
                        refine skip_ (w1 := ?_) (by rfl) rfl ?_ ?_
                        rotate_left
                        · go_simp
                          rfl
                        refine hK.out _ _ ⟨((cell_far (p := ⟨gb239, _, none⟩) (by first | exact Kd.own_blk (Kd.R_away HO_3.out (fun _ hk => hk.1)) | (rw [add_block]; exact Kd.own_blk (Kd.R_away HO_3.out (fun _ hk => hk.1))) | (show (Addr.add _ _).block ≠ _; rw [add_block]; exact Kd.own_blk (Kd.R_away HO_3.out (fun _ hk => hk.1))) | (dsimp only; exact Kd.own_blk (Kd.R_away HO_3.out (fun _ hk => hk.1)))) _).trans (((cell_far (p := ⟨gb239, _, none⟩) (by first | exact Kd.own_blk (Kd.R_away HO_3.out (fun _ hk => hk.1)) | (rw [add_block]; exact Kd.own_blk (Kd.R_away HO_3.out (fun _ hk => hk.1))) | (show (Addr.add _ _).block ≠ _; rw [add_block]; exact Kd.own_blk (Kd.R_away HO_3.out (fun _ hk => hk.1))) | (dsimp only; exact Kd.own_blk (Kd.R_away HO_3.out (fun _ hk => hk.1)))) _).trans (((cell_far (p := ⟨gb239, _, none⟩) (by first | exact Kd.own_blk (Kd.R_away HO_3.out (fun _ hk => hk.1)) | (rw [add_block]; exact Kd.own_blk (Kd.R_away HO_3.out (fun _ hk => hk.1))) | (show (Addr.add _ _).block ≠ _; rw [add_block]; exact Kd.own_blk (Kd.R_away HO_3.out (fun _ hk => hk.1))) | (dsimp only; exact Kd.own_blk (Kd.R_away HO_3.out (fun _ hk => hk.1)))) _).trans (hHeld.1)))))), ((cell_far (p := ⟨gb239, _, none⟩) (by first | exact Kd.own_blk (Kd.R_away HO_3.out (fun _ hk => hk.1)) | (rw [add_block]; exact Kd.own_blk (Kd.R_away HO_3.out (fun _ hk => hk.1))) | (show (Addr.add _ _).block ≠ _; rw [add_block]; exact Kd.own_blk (Kd.R_away HO_3.out (fun _ hk => hk.1))) | (dsimp only; exact Kd.own_blk (Kd.R_away HO_3.out (fun _ hk => hk.1)))) _).trans (((cell_far (p := ⟨gb239, _, none⟩) (by first | exact Kd.own_blk (Kd.R_away HO_3.out (fun _ hk => hk.1)) | (rw [add_block]; exact Kd.own_blk (Kd.R_away HO_3.out (fun _ hk => hk.1))) | (show (Addr.add _ _).block ≠ _; rw [add_block]; exact Kd.own_blk (Kd.R_away HO_3.out (fun _ hk => hk.1))) | (dsimp only; exact Kd.own_blk (Kd.R_away HO_3.out (fun _ hk => hk.1)))) _).trans (((cell_far (p := ⟨gb239, _, none⟩) (by first | exact Kd.own_blk (Kd.R_away HO_3.out (fun _ hk => hk.1)) | (rw [add_block]; exact Kd.own_blk (Kd.R_away HO_3.out (fun _ hk => hk.1))) | (show (Addr.add _ _).block ≠ _; rw [add_block]; exact Kd.own_blk (Kd.R_away HO_3.out (fun _ hk => hk.1))) | (dsimp only; exact Kd.own_blk (Kd.R_away HO_3.out (fun _ hk => hk.1)))) _).trans (hHeld.2.1)))))), ((cell_far (p := ⟨gb239, _, none⟩) (by first | exact Kd.own_blk (Kd.R_away HO_3.out (fun _ hk => hk.1)) | (rw [add_block]; exact Kd.own_blk (Kd.R_away HO_3.out (fun _ hk => hk.1))) | (show (Addr.add _ _).block ≠ _; rw [add_block]; exact Kd.own_blk (Kd.R_away HO_3.out (fun _ hk => hk.1))) | (dsimp only; exact Kd.own_blk (Kd.R_away HO_3.out (fun _ hk => hk.1)))) _).trans (((cell_far (p := ⟨gb239, _, none⟩) (by first | exact Kd.own_blk (Kd.R_away HO_3.out (fun _ hk => hk.1)) | (rw [add_block]; exact Kd.own_blk (Kd.R_away HO_3.out (fun _ hk => hk.1))) | (show (Addr.add _ _).block ≠ _; rw [add_block]; exact Kd.own_blk (Kd.R_away HO_3.out (fun _ hk => hk.1))) | (dsimp only; exact Kd.own_blk (Kd.R_away HO_3.out (fun _ hk => hk.1)))) _).trans (((cell_far (p := ⟨gb239, _, none⟩) (by first | exact Kd.own_blk (Kd.R_away HO_3.out (fun _ hk => hk.1)) | (rw [add_block]; exact Kd.own_blk (Kd.R_away HO_3.out (fun _ hk => hk.1))) | (show (Addr.add _ _).block ≠ _; rw [add_block]; exact Kd.own_blk (Kd.R_away HO_3.out (fun _ hk => hk.1))) | (dsimp only; exact Kd.own_blk (Kd.R_away HO_3.out (fun _ hk => hk.1)))) _).trans (hHeld.2.2.1)))))), ((cell_far (p := ⟨gb239, _, none⟩) (by first | exact Kd.own_blk (Kd.R_away HO_3.out (fun _ hk => hk.1)) | (rw [add_block]; exact Kd.own_blk (Kd.R_away HO_3.out (fun _ hk => hk.1))) | (show (Addr.add _ _).block ≠ _; rw [add_block]; exact Kd.own_blk (Kd.R_away HO_3.out (fun _ hk => hk.1))) | (dsimp only; exact Kd.own_blk (Kd.R_away HO_3.out (fun _ hk => hk.1)))) _).trans (((cell_far (p := ⟨gb239, _, none⟩) (by first | exact Kd.own_blk (Kd.R_away HO_3.out (fun _ hk => hk.1)) | (rw [add_block]; exact Kd.own_blk (Kd.R_away HO_3.out (fun _ hk => hk.1))) | (show (Addr.add _ _).block ≠ _; rw [add_block]; exact Kd.own_blk (Kd.R_away HO_3.out (fun _ hk => hk.1))) | (dsimp only; exact Kd.own_blk (Kd.R_away HO_3.out (fun _ hk => hk.1)))) _).trans (((cell_far (p := ⟨gb239, _, none⟩) (by first | exact Kd.own_blk (Kd.R_away HO_3.out (fun _ hk => hk.1)) | (rw [add_block]; exact Kd.own_blk (Kd.R_away HO_3.out (fun _ hk => hk.1))) | (show (Addr.add _ _).block ≠ _; rw [add_block]; exact Kd.own_blk (Kd.R_away HO_3.out (fun _ hk => hk.1))) | (dsimp only; exact Kd.own_blk (Kd.R_away HO_3.out (fun _ hk => hk.1)))) _).trans (hHeld.2.2.2.1)))))), ((cell_far (p := ⟨gb239, _, none⟩) (by first | exact Kd.own_blk (Kd.R_away HO_3.out (fun _ hk => hk.1)) | (rw [add_block]; exact Kd.own_blk (Kd.R_away HO_3.out (fun _ hk => hk.1))) | (show (Addr.add _ _).block ≠ _; rw [add_block]; exact Kd.own_blk (Kd.R_away HO_3.out (fun _ hk => hk.1))) | (dsimp only; exact Kd.own_blk (Kd.R_away HO_3.out (fun _ hk => hk.1)))) _).trans (((cell_far (p := ⟨gb239, _, none⟩) (by first | exact Kd.own_blk (Kd.R_away HO_3.out (fun _ hk => hk.1)) | (rw [add_block]; exact Kd.own_blk (Kd.R_away HO_3.out (fun _ hk => hk.1))) | (show (Addr.add _ _).block ≠ _; rw [add_block]; exact Kd.own_blk (Kd.R_away HO_3.out (fun _ hk => hk.1))) | (dsimp only; exact Kd.own_blk (Kd.R_away HO_3.out (fun _ hk => hk.1)))) _).trans (((cell_far (p := ⟨gb239, _, none⟩) (by first | exact Kd.own_blk (Kd.R_away HO_3.out (fun _ hk => hk.1)) | (rw [add_block]; exact Kd.own_blk (Kd.R_away HO_3.out (fun _ hk => hk.1))) | (show (Addr.add _ _).block ≠ _; rw [add_block]; exact Kd.own_blk (Kd.R_away HO_3.out (fun _ hk => hk.1))) | (dsimp only; exact Kd.own_blk (Kd.R_away HO_3.out (fun _ hk => hk.1)))) _).trans (hHeld.2.2.2.2.1)))))), ((cell_far (p := ⟨gb239, _, none⟩) (by first | exact Kd.own_blk (Kd.R_away HO_3.out (fun _ hk => hk.1)) | (rw [add_block]; exact Kd.own_blk (Kd.R_away HO_3.out (fun _ hk => hk.1))) | (show (Addr.add _ _).block ≠ _; rw [add_block]; exact Kd.own_blk (Kd.R_away HO_3.out (fun _ hk => hk.1))) | (dsimp only; exact Kd.own_blk (Kd.R_away HO_3.out (fun _ hk => hk.1)))) _).trans (((cell_far (p := ⟨gb239, _, none⟩) (by first | exact Kd.own_blk (Kd.R_away HO_3.out (fun _ hk => hk.1)) | (rw [add_block]; exact Kd.own_blk (Kd.R_away HO_3.out (fun _ hk => hk.1))) | (show (Addr.add _ _).block ≠ _; rw [add_block]; exact Kd.own_blk (Kd.R_away HO_3.out (fun _ hk => hk.1))) | (dsimp only; exact Kd.own_blk (Kd.R_away HO_3.out (fun _ hk => hk.1)))) _).trans (((cell_far (p := ⟨gb239, _, none⟩) (by first | exact Kd.own_blk (Kd.R_away HO_3.out (fun _ hk => hk.1)) | (rw [add_block]; exact Kd.own_blk (Kd.R_away HO_3.out (fun _ hk => hk.1))) | (show (Addr.add _ _).block ≠ _; rw [add_block]; exact Kd.own_blk (Kd.R_away HO_3.out (fun _ hk => hk.1))) | (dsimp only; exact Kd.own_blk (Kd.R_away HO_3.out (fun _ hk => hk.1)))) _).trans (hHeld.2.2.2.2.2))))))⟩ (fun hHeld => ?_)
                        clear hK K
                        refine one_ (i := 12) (N := none) #[true, true, true, true, true, true, true, true, true, true, true, true, true] rfl rfl (one_of HT_.out (by kernel_rfl)) (by decide) (fun K hK => ?_)
                        have hs29 : w25.cell? ⟨gb240, 0, none⟩ = some (.int .i64 0) := (blk_cell BK240.out 0).trans rfl
                        have hfs29 := blk_frozen BK240.out 0
                        have hns29_0 := NB239_240.out
                        have hms29_0 := NB240_239.out
                        have hs30 : w25.cell? ⟨gb240, 1, none⟩ = some (.string (⟨#[]⟩ : ByteArray)) := (blk_cell BK240.out 1).trans rfl
                        have hfs30 := blk_frozen BK240.out 1
                        have hns30_0 := NB239_240.out
                        have hms30_0 := NB240_239.out
                        have hs31 : w25.cell? ⟨gb240, 2, none⟩ = some (.int .i64 0) := (blk_cell BK240.out 2).trans rfl
                        have hfs31 := blk_frozen BK240.out 2
                        have hns31_0 := NB239_240.out
                        have hms31_0 := NB240_239.out
                        refine skip_ (w1 := ?_) (by rfl) rfl ?_ ?_
                        rotate_left
                        · go_simp
                          rfl
                        refine hK.out _ _ ⟨((cell_far (p := ⟨gb240, _, none⟩) (by first | exact Kd.own_blk (Kd.R_away HO_3.out (fun _ hk => hk.2)) | (rw [add_block]; exact Kd.own_blk (Kd.R_away HO_3.out (fun _ hk => hk.2))) | (show (Addr.add _ _).block ≠ _; rw [add_block]; exact Kd.own_blk (Kd.R_away HO_3.out (fun _ hk => hk.2))) | (dsimp only; exact Kd.own_blk (Kd.R_away HO_3.out (fun _ hk => hk.2)))) _).trans (((cell_far (p := ⟨gb240, _, none⟩) (by first | exact Kd.own_blk (Kd.R_away HO_3.out (fun _ hk => hk.2)) | (rw [add_block]; exact Kd.own_blk (Kd.R_away HO_3.out (fun _ hk => hk.2))) | (show (Addr.add _ _).block ≠ _; rw [add_block]; exact Kd.own_blk (Kd.R_away HO_3.out (fun _ hk => hk.2))) | (dsimp only; exact Kd.own_blk (Kd.R_away HO_3.out (fun _ hk => hk.2)))) _).trans (((cell_far (p := ⟨gb240, _, none⟩) (by first | exact Kd.own_blk (Kd.R_away HO_3.out (fun _ hk => hk.2)) | (rw [add_block]; exact Kd.own_blk (Kd.R_away HO_3.out (fun _ hk => hk.2))) | (show (Addr.add _ _).block ≠ _; rw [add_block]; exact Kd.own_blk (Kd.R_away HO_3.out (fun _ hk => hk.2))) | (dsimp only; exact Kd.own_blk (Kd.R_away HO_3.out (fun _ hk => hk.2)))) _).trans (hHeld.1)))))), ((cell_far (p := ⟨gb240, _, none⟩) (by first | exact Kd.own_blk (Kd.R_away HO_3.out (fun _ hk => hk.2)) | (rw [add_block]; exact Kd.own_blk (Kd.R_away HO_3.out (fun _ hk => hk.2))) | (show (Addr.add _ _).block ≠ _; rw [add_block]; exact Kd.own_blk (Kd.R_away HO_3.out (fun _ hk => hk.2))) | (dsimp only; exact Kd.own_blk (Kd.R_away HO_3.out (fun _ hk => hk.2)))) _).trans (((cell_far (p := ⟨gb240, _, none⟩) (by first | exact Kd.own_blk (Kd.R_away HO_3.out (fun _ hk => hk.2)) | (rw [add_block]; exact Kd.own_blk (Kd.R_away HO_3.out (fun _ hk => hk.2))) | (show (Addr.add _ _).block ≠ _; rw [add_block]; exact Kd.own_blk (Kd.R_away HO_3.out (fun _ hk => hk.2))) | (dsimp only; exact Kd.own_blk (Kd.R_away HO_3.out (fun _ hk => hk.2)))) _).trans (((cell_far (p := ⟨gb240, _, none⟩) (by first | exact Kd.own_blk (Kd.R_away HO_3.out (fun _ hk => hk.2)) | (rw [add_block]; exact Kd.own_blk (Kd.R_away HO_3.out (fun _ hk => hk.2))) | (show (Addr.add _ _).block ≠ _; rw [add_block]; exact Kd.own_blk (Kd.R_away HO_3.out (fun _ hk => hk.2))) | (dsimp only; exact Kd.own_blk (Kd.R_away HO_3.out (fun _ hk => hk.2)))) _).trans (hHeld.2.1)))))), ((cell_far (p := ⟨gb240, _, none⟩) (by first | exact Kd.own_blk (Kd.R_away HO_3.out (fun _ hk => hk.2)) | (rw [add_block]; exact Kd.own_blk (Kd.R_away HO_3.out (fun _ hk => hk.2))) | (show (Addr.add _ _).block ≠ _; rw [add_block]; exact Kd.own_blk (Kd.R_away HO_3.out (fun _ hk => hk.2))) | (dsimp only; exact Kd.own_blk (Kd.R_away HO_3.out (fun _ hk => hk.2)))) _).trans (((cell_far (p := ⟨gb240, _, none⟩) (by first | exact Kd.own_blk (Kd.R_away HO_3.out (fun _ hk => hk.2)) | (rw [add_block]; exact Kd.own_blk (Kd.R_away HO_3.out (fun _ hk => hk.2))) | (show (Addr.add _ _).block ≠ _; rw [add_block]; exact Kd.own_blk (Kd.R_away HO_3.out (fun _ hk => hk.2))) | (dsimp only; exact Kd.own_blk (Kd.R_away HO_3.out (fun _ hk => hk.2)))) _).trans (((cell_far (p := ⟨gb240, _, none⟩) (by first | exact Kd.own_blk (Kd.R_away HO_3.out (fun _ hk => hk.2)) | (rw [add_block]; exact Kd.own_blk (Kd.R_away HO_3.out (fun _ hk => hk.2))) | (show (Addr.add _ _).block ≠ _; rw [add_block]; exact Kd.own_blk (Kd.R_away HO_3.out (fun _ hk => hk.2))) | (dsimp only; exact Kd.own_blk (Kd.R_away HO_3.out (fun _ hk => hk.2)))) _).trans (hHeld.2.2.1)))))), ((cell_far (p := ⟨gb240, _, none⟩) (by first | exact Kd.own_blk (Kd.R_away HO_3.out (fun _ hk => hk.2)) | (rw [add_block]; exact Kd.own_blk (Kd.R_away HO_3.out (fun _ hk => hk.2))) | (show (Addr.add _ _).block ≠ _; rw [add_block]; exact Kd.own_blk (Kd.R_away HO_3.out (fun _ hk => hk.2))) | (dsimp only; exact Kd.own_blk (Kd.R_away HO_3.out (fun _ hk => hk.2)))) _).trans (((cell_far (p := ⟨gb240, _, none⟩) (by first | exact Kd.own_blk (Kd.R_away HO_3.out (fun _ hk => hk.2)) | (rw [add_block]; exact Kd.own_blk (Kd.R_away HO_3.out (fun _ hk => hk.2))) | (show (Addr.add _ _).block ≠ _; rw [add_block]; exact Kd.own_blk (Kd.R_away HO_3.out (fun _ hk => hk.2))) | (dsimp only; exact Kd.own_blk (Kd.R_away HO_3.out (fun _ hk => hk.2)))) _).trans (((cell_far (p := ⟨gb240, _, none⟩) (by first | exact Kd.own_blk (Kd.R_away HO_3.out (fun _ hk => hk.2)) | (rw [add_block]; exact Kd.own_blk (Kd.R_away HO_3.out (fun _ hk => hk.2))) | (show (Addr.add _ _).block ≠ _; rw [add_block]; exact Kd.own_blk (Kd.R_away HO_3.out (fun _ hk => hk.2))) | (dsimp only; exact Kd.own_blk (Kd.R_away HO_3.out (fun _ hk => hk.2)))) _).trans (hHeld.2.2.2.1)))))), ((cell_far (p := ⟨gb240, _, none⟩) (by first | exact Kd.own_blk (Kd.R_away HO_3.out (fun _ hk => hk.2)) | (rw [add_block]; exact Kd.own_blk (Kd.R_away HO_3.out (fun _ hk => hk.2))) | (show (Addr.add _ _).block ≠ _; rw [add_block]; exact Kd.own_blk (Kd.R_away HO_3.out (fun _ hk => hk.2))) | (dsimp only; exact Kd.own_blk (Kd.R_away HO_3.out (fun _ hk => hk.2)))) _).trans (((cell_far (p := ⟨gb240, _, none⟩) (by first | exact Kd.own_blk (Kd.R_away HO_3.out (fun _ hk => hk.2)) | (rw [add_block]; exact Kd.own_blk (Kd.R_away HO_3.out (fun _ hk => hk.2))) | (show (Addr.add _ _).block ≠ _; rw [add_block]; exact Kd.own_blk (Kd.R_away HO_3.out (fun _ hk => hk.2))) | (dsimp only; exact Kd.own_blk (Kd.R_away HO_3.out (fun _ hk => hk.2)))) _).trans (((cell_far (p := ⟨gb240, _, none⟩) (by first | exact Kd.own_blk (Kd.R_away HO_3.out (fun _ hk => hk.2)) | (rw [add_block]; exact Kd.own_blk (Kd.R_away HO_3.out (fun _ hk => hk.2))) | (show (Addr.add _ _).block ≠ _; rw [add_block]; exact Kd.own_blk (Kd.R_away HO_3.out (fun _ hk => hk.2))) | (dsimp only; exact Kd.own_blk (Kd.R_away HO_3.out (fun _ hk => hk.2)))) _).trans (hHeld.2.2.2.2.1)))))), ((cell_far (p := ⟨gb240, _, none⟩) (by first | exact Kd.own_blk (Kd.R_away HO_3.out (fun _ hk => hk.2)) | (rw [add_block]; exact Kd.own_blk (Kd.R_away HO_3.out (fun _ hk => hk.2))) | (show (Addr.add _ _).block ≠ _; rw [add_block]; exact Kd.own_blk (Kd.R_away HO_3.out (fun _ hk => hk.2))) | (dsimp only; exact Kd.own_blk (Kd.R_away HO_3.out (fun _ hk => hk.2)))) _).trans (((cell_far (p := ⟨gb240, _, none⟩) (by first | exact Kd.own_blk (Kd.R_away HO_3.out (fun _ hk => hk.2)) | (rw [add_block]; exact Kd.own_blk (Kd.R_away HO_3.out (fun _ hk => hk.2))) | (show (Addr.add _ _).block ≠ _; rw [add_block]; exact Kd.own_blk (Kd.R_away HO_3.out (fun _ hk => hk.2))) | (dsimp only; exact Kd.own_blk (Kd.R_away HO_3.out (fun _ hk => hk.2)))) _).trans (((cell_far (p := ⟨gb240, _, none⟩) (by first | exact Kd.own_blk (Kd.R_away HO_3.out (fun _ hk => hk.2)) | (rw [add_block]; exact Kd.own_blk (Kd.R_away HO_3.out (fun _ hk => hk.2))) | (show (Addr.add _ _).block ≠ _; rw [add_block]; exact Kd.own_blk (Kd.R_away HO_3.out (fun _ hk => hk.2))) | (dsimp only; exact Kd.own_blk (Kd.R_away HO_3.out (fun _ hk => hk.2)))) _).trans (hHeld.2.2.2.2.2))))))⟩ (fun hHeld => ?_)
                        clear hK K
                        refine done_ (done_of HT_.out (by kernel_rfl)) ?_
                        have hnb32 := NB239_240.out
                        have hnc32 := NB240_239.out
                        have hcz33_0 : w25.cell? ⟨gb239, 0, none⟩ = some (.int .i64 0) := (blk_cell BK239.out 0).trans rfl
                        have hcz33_1 : w25.cell? ⟨gb239, 1, none⟩ = some (.string (⟨#[]⟩ : ByteArray)) := (blk_cell BK239.out 1).trans rfl
                        have hcz33_2 : w25.cell? ⟨gb239, 2, none⟩ = some (.int .i64 0) := (blk_cell BK239.out 2).trans rfl
                        have hfz33_0 := blk_frozen BK239.out 0
                        have hfz33_1 := blk_frozen BK239.out 1
                        have hfz33_2 := blk_frozen BK239.out 2
                        have hcz34_0 : w25.cell? ⟨gb240, 0, none⟩ = some (.int .i64 0) := (blk_cell BK240.out 0).trans rfl
                        have hcz34_1 : w25.cell? ⟨gb240, 1, none⟩ = some (.string (⟨#[]⟩ : ByteArray)) := (blk_cell BK240.out 1).trans rfl
                        have hcz34_2 : w25.cell? ⟨gb240, 2, none⟩ = some (.int .i64 0) := (blk_cell BK240.out 2).trans rfl
                        have hfz34_0 := blk_frozen BK240.out 0
                        have hfz34_1 := blk_frozen BK240.out 1
                        have hfz34_2 := blk_frozen BK240.out 2
                        go_upto_region 13 with (fail)
                        go_cut [9, 87] (fun v9 v87 wc => ∃ (kq : Nat) (x87_19 : Bool), v87 = .bool x87_19 ∧ Aside0 (chalklinelaw05_LexRuns.j2 kq t231 x6_2 x87_19 ((rd_T34 t231 (ji16)).f0) ((rd_T34 t231 (ji16)).f1) ((rd_T34 t231 (ji16)).f2) = some r) ∧ Aside0 (kq ≤ k2) ∧ Aside0 (Kd.R k34 34 wc w.heap.size (fun k_ => k_ ≠ gb239 ∧ k_ ≠ gb240) (.slice (some ad237) t231.length co21) t231) ∧ Aside0 (wc.heap[gb239]? = some (.cells #[.int .i64 ((rd_T34 t231 (ji16)).f0), .string ((rd_T34 t231 (ji16)).f1), .int .i64 ((rd_T34 t231 (ji16)).f2)] 34 (0, 0))) ∧ Aside0 (wc.heap[gb240]? = some (.cells #[.int .i64 ((rd_T34 t231 x6_2).f0), .string ((rd_T34 t231 x6_2).f1), .int .i64 ((rd_T34 t231 x6_2).f2)] 34 (0, 0))) ∧ Aside0 (Below w.heap.size w wc))
                        case first =>
                          have H := HC20.out
                          clear HC20
                          by_cases c35 : (wrap64 (((rd_T34 t231 (ji16)).f2) + (((rd_T34 t231 (ji16)).f1).size : Int))) = ((rd_T34 t231 x6_2).f2)
                          · rw [if_pos c35] at H
                            have c35b0 : ((wrap64 (((rd_T34 t231 (ji16)).f2) + (((rd_T34 t231 (ji16)).f1).size : Int))) == ((rd_T34 t231 x6_2).f2)) = true := beq_iff_eq.mpr c35
                            have c35b1 : ((wrap64 (((rd_T34 t231 (ji16)).f2) + (((rd_T34 t231 (ji16)).f1).size : Int))) != ((rd_T34 t231 x6_2).f2)) = false := bne_eq_false_iff_eq.mpr c35
                            clear c35
                            (first | rw [c35b0] | (simp only [i64_w, i32_w]; rw [c35b0]) | skip)
                            by_cases c36 : ((rd_T34 t231 (ji16)).f0) = 1
                            · rw [if_pos c36] at H
                              have c36b0 : (((rd_T34 t231 (ji16)).f0) == 1) = true := beq_iff_eq.mpr c36
                              have c36b1 : (((rd_T34 t231 (ji16)).f0) != 1) = false := bne_eq_false_iff_eq.mpr c36
                              clear c36
                              by_cases c37 : ((rd_T34 t231 x6_2).f0) = 3
                              · rw [if_pos c37] at H
                                have c37b0 : (((rd_T34 t231 x6_2).f0) == 3) = true := beq_iff_eq.mpr c37
                                have c37b1 : (((rd_T34 t231 x6_2).f0) != 3) = false := bne_eq_false_iff_eq.mpr c37
                                clear c37
                                by_cases c38 : ((rd_T34 t231 (ji16)).f0) = 2
                                · rw [if_pos c38] at H
                                  have c38b0 : (((rd_T34 t231 (ji16)).f0) == 2) = true := beq_iff_eq.mpr c38
                                  have c38b1 : (((rd_T34 t231 (ji16)).f0) != 2) = false := bne_eq_false_iff_eq.mpr c38
                                  clear c38
                                  have H' := Aside0.mk H
                                  clear H
                                  have hnb39 := NB239_240.out
                                  have hnc39 := NB240_239.out
                                  have hcz40_0 : w25.cell? ⟨gb239, 0, none⟩ = some (.int .i64 0) := (blk_cell BK239.out 0).trans rfl
                                  have hcz40_1 : w25.cell? ⟨gb239, 1, none⟩ = some (.string (⟨#[]⟩ : ByteArray)) := (blk_cell BK239.out 1).trans rfl
                                  have hcz40_2 : w25.cell? ⟨gb239, 2, none⟩ = some (.int .i64 0) := (blk_cell BK239.out 2).trans rfl
                                  have hfz40_0 := blk_frozen BK239.out 0
                                  have hfz40_1 := blk_frozen BK239.out 1
                                  have hfz40_2 := blk_frozen BK239.out 2
                                  have hcz41_0 : w25.cell? ⟨gb240, 0, none⟩ = some (.int .i64 0) := (blk_cell BK240.out 0).trans rfl
                                  have hcz41_1 : w25.cell? ⟨gb240, 1, none⟩ = some (.string (⟨#[]⟩ : ByteArray)) := (blk_cell BK240.out 1).trans rfl
                                  have hcz41_2 : w25.cell? ⟨gb240, 2, none⟩ = some (.int .i64 0) := (blk_cell BK240.out 2).trans rfl
                                  have hfz41_0 := blk_frozen BK240.out 0
                                  have hfz41_1 := blk_frozen BK240.out 1
                                  have hfz41_2 := blk_frozen BK240.out 2
                                  go_wp2
                                  go_meet
                                  case rel => exact ⟨_, ((((rd_T34 t231 x6_2).f0) == 2)), (by first | rfl | (simp; done) | (simp [*]; done)), H', ⟨by have := HJ6.out; have := HK2.out; first | omega | exact Nat.le_refl _⟩, ⟨by (with_reducible repeat (first | apply Kd.R_alloc | apply Kd.R_drewN | apply Kd.R_drew)); exact Kd.R_mono (Kd.R_far (p := ⟨gb240, 2, none⟩) (Kd.R_far (p := ⟨gb240, 1, none⟩) (Kd.R_far (p := ⟨gb240, 0, none⟩) (Kd.R_far (p := ⟨gb239, 2, none⟩) (Kd.R_far (p := ⟨gb239, 1, none⟩) (Kd.R_far (p := ⟨gb239, 0, none⟩) (Kd.R_mono (Kd.R_mono HO_3.out (fun k_ hk => (⟨hk, hk.1⟩ : _ ∧ k_ ≠ gb239))) (fun k_ hk => (⟨hk, hk.1.2⟩ : _ ∧ k_ ≠ gb240))) (fun _ hk => hk.1.2) (.int .i64 ((rd_T34 t231 (ji16)).f0))) (fun _ hk => hk.1.2) (.string ((rd_T34 t231 (ji16)).f1))) (fun _ hk => hk.1.2) (.int .i64 ((rd_T34 t231 (ji16)).f2))) (fun _ hk => hk.2) (.int .i64 ((rd_T34 t231 x6_2).f0))) (fun _ hk => hk.2) (.string ((rd_T34 t231 x6_2).f1))) (fun _ hk => hk.2) (.int .i64 ((rd_T34 t231 x6_2).f2))) (fun _ hk => ⟨hk.1.1.1, hk.1.1.2⟩)⟩, ⟨by (with_reducible repeat (first | refine blk_drewN ?_ _ | refine blk_drew ?_ | refine blk_alloc ?_ _)); refine blk_far ?_ NB239_240.out _; (with_reducible repeat (first | refine blk_drewN ?_ _ | refine blk_drew ?_ | refine blk_alloc ?_ _)); refine blk_far ?_ NB239_240.out _; (with_reducible repeat (first | refine blk_drewN ?_ _ | refine blk_drew ?_ | refine blk_alloc ?_ _)); refine blk_far ?_ NB239_240.out _; (with_reducible repeat (first | refine blk_drewN ?_ _ | refine blk_drew ?_ | refine blk_alloc ?_ _)); refine blk_put (cs := #[.int .i64 ((rd_T34 t231 (ji16)).f0), .string ((rd_T34 t231 (ji16)).f1), .int .i64 0]) ?_ 2 _ rfl; (with_reducible repeat (first | refine blk_drewN ?_ _ | refine blk_drew ?_ | refine blk_alloc ?_ _)); refine blk_put (cs := #[.int .i64 ((rd_T34 t231 (ji16)).f0), .string (⟨#[]⟩ : ByteArray), .int .i64 0]) ?_ 1 _ rfl; (with_reducible repeat (first | refine blk_drewN ?_ _ | refine blk_drew ?_ | refine blk_alloc ?_ _)); refine blk_put (cs := #[.int .i64 0, .string (⟨#[]⟩ : ByteArray), .int .i64 0]) ?_ 0 _ rfl; (with_reducible repeat (first | refine blk_drewN ?_ _ | refine blk_drew ?_ | refine blk_alloc ?_ _)); exact BK239.out⟩, ⟨by (with_reducible repeat (first | refine blk_drewN ?_ _ | refine blk_drew ?_ | refine blk_alloc ?_ _)); refine blk_put (cs := #[.int .i64 ((rd_T34 t231 x6_2).f0), .string ((rd_T34 t231 x6_2).f1), .int .i64 0]) ?_ 2 _ rfl; (with_reducible repeat (first | refine blk_drewN ?_ _ | refine blk_drew ?_ | refine blk_alloc ?_ _)); refine blk_put (cs := #[.int .i64 ((rd_T34 t231 x6_2).f0), .string (⟨#[]⟩ : ByteArray), .int .i64 0]) ?_ 1 _ rfl; (with_reducible repeat (first | refine blk_drewN ?_ _ | refine blk_drew ?_ | refine blk_alloc ?_ _)); refine blk_put (cs := #[.int .i64 0, .string (⟨#[]⟩ : ByteArray), .int .i64 0]) ?_ 0 _ rfl; (with_reducible repeat (first | refine blk_drewN ?_ _ | refine blk_drew ?_ | refine blk_alloc ?_ _)); refine blk_far ?_ NB240_239.out _; (with_reducible repeat (first | refine blk_drewN ?_ _ | refine blk_drew ?_ | refine blk_alloc ?_ _)); refine blk_far ?_ NB240_239.out _; (with_reducible repeat (first | refine blk_drewN ?_ _ | refine blk_drew ?_ | refine blk_alloc ?_ _)); refine blk_far ?_ NB240_239.out _; (with_reducible repeat (first | refine blk_drewN ?_ _ | refine blk_drew ?_ | refine blk_alloc ?_ _)); exact BK240.out⟩, ⟨by repeat (first | (with_reducible first | exact HB.out | apply below_alloc | apply pw_below_drewN | apply below_drew1 | refine below_set ?_ GE239.out | refine below_set ?_ GE240.out) | exact HB.out)⟩⟩
                                · rw [if_neg c38] at H
                                  have c38b0 : (((rd_T34 t231 (ji16)).f0) == 2) = false := beq_eq_false_iff_ne.mpr c38
                                  have c38b1 : (((rd_T34 t231 (ji16)).f0) != 2) = true := bne_iff_ne.mpr c38
                                  have H' := Aside0.mk H
                                  clear H
                                  have hnb42 := NB239_240.out
                                  have hnc42 := NB240_239.out
                                  have hcz43_0 : w25.cell? ⟨gb239, 0, none⟩ = some (.int .i64 0) := (blk_cell BK239.out 0).trans rfl
                                  have hcz43_1 : w25.cell? ⟨gb239, 1, none⟩ = some (.string (⟨#[]⟩ : ByteArray)) := (blk_cell BK239.out 1).trans rfl
                                  have hcz43_2 : w25.cell? ⟨gb239, 2, none⟩ = some (.int .i64 0) := (blk_cell BK239.out 2).trans rfl
                                  have hfz43_0 := blk_frozen BK239.out 0
                                  have hfz43_1 := blk_frozen BK239.out 1
                                  have hfz43_2 := blk_frozen BK239.out 2
                                  have hcz44_0 : w25.cell? ⟨gb240, 0, none⟩ = some (.int .i64 0) := (blk_cell BK240.out 0).trans rfl
                                  have hcz44_1 : w25.cell? ⟨gb240, 1, none⟩ = some (.string (⟨#[]⟩ : ByteArray)) := (blk_cell BK240.out 1).trans rfl
                                  have hcz44_2 : w25.cell? ⟨gb240, 2, none⟩ = some (.int .i64 0) := (blk_cell BK240.out 2).trans rfl
                                  have hfz44_0 := blk_frozen BK240.out 0
                                  have hfz44_1 := blk_frozen BK240.out 1
                                  have hfz44_2 := blk_frozen BK240.out 2
                                  go_wp2
                                  go_meet
                                  case rel => exact ⟨_, (false), (by first | rfl | (simp; done) | (simp [*]; done)), H', ⟨by have := HJ6.out; have := HK2.out; first | omega | exact Nat.le_refl _⟩, ⟨by (with_reducible repeat (first | apply Kd.R_alloc | apply Kd.R_drewN | apply Kd.R_drew)); exact Kd.R_mono (Kd.R_far (p := ⟨gb240, 2, none⟩) (Kd.R_far (p := ⟨gb240, 1, none⟩) (Kd.R_far (p := ⟨gb240, 0, none⟩) (Kd.R_far (p := ⟨gb239, 2, none⟩) (Kd.R_far (p := ⟨gb239, 1, none⟩) (Kd.R_far (p := ⟨gb239, 0, none⟩) (Kd.R_mono (Kd.R_mono HO_3.out (fun k_ hk => (⟨hk, hk.1⟩ : _ ∧ k_ ≠ gb239))) (fun k_ hk => (⟨hk, hk.1.2⟩ : _ ∧ k_ ≠ gb240))) (fun _ hk => hk.1.2) (.int .i64 ((rd_T34 t231 (ji16)).f0))) (fun _ hk => hk.1.2) (.string ((rd_T34 t231 (ji16)).f1))) (fun _ hk => hk.1.2) (.int .i64 ((rd_T34 t231 (ji16)).f2))) (fun _ hk => hk.2) (.int .i64 ((rd_T34 t231 x6_2).f0))) (fun _ hk => hk.2) (.string ((rd_T34 t231 x6_2).f1))) (fun _ hk => hk.2) (.int .i64 ((rd_T34 t231 x6_2).f2))) (fun _ hk => ⟨hk.1.1.1, hk.1.1.2⟩)⟩, ⟨by (with_reducible repeat (first | refine blk_drewN ?_ _ | refine blk_drew ?_ | refine blk_alloc ?_ _)); refine blk_far ?_ NB239_240.out _; (with_reducible repeat (first | refine blk_drewN ?_ _ | refine blk_drew ?_ | refine blk_alloc ?_ _)); refine blk_far ?_ NB239_240.out _; (with_reducible repeat (first | refine blk_drewN ?_ _ | refine blk_drew ?_ | refine blk_alloc ?_ _)); refine blk_far ?_ NB239_240.out _; (with_reducible repeat (first | refine blk_drewN ?_ _ | refine blk_drew ?_ | refine blk_alloc ?_ _)); refine blk_put (cs := #[.int .i64 ((rd_T34 t231 (ji16)).f0), .string ((rd_T34 t231 (ji16)).f1), .int .i64 0]) ?_ 2 _ rfl; (with_reducible repeat (first | refine blk_drewN ?_ _ | refine blk_drew ?_ | refine blk_alloc ?_ _)); refine blk_put (cs := #[.int .i64 ((rd_T34 t231 (ji16)).f0), .string (⟨#[]⟩ : ByteArray), .int .i64 0]) ?_ 1 _ rfl; (with_reducible repeat (first | refine blk_drewN ?_ _ | refine blk_drew ?_ | refine blk_alloc ?_ _)); refine blk_put (cs := #[.int .i64 0, .string (⟨#[]⟩ : ByteArray), .int .i64 0]) ?_ 0 _ rfl; (with_reducible repeat (first | refine blk_drewN ?_ _ | refine blk_drew ?_ | refine blk_alloc ?_ _)); exact BK239.out⟩, ⟨by (with_reducible repeat (first | refine blk_drewN ?_ _ | refine blk_drew ?_ | refine blk_alloc ?_ _)); refine blk_put (cs := #[.int .i64 ((rd_T34 t231 x6_2).f0), .string ((rd_T34 t231 x6_2).f1), .int .i64 0]) ?_ 2 _ rfl; (with_reducible repeat (first | refine blk_drewN ?_ _ | refine blk_drew ?_ | refine blk_alloc ?_ _)); refine blk_put (cs := #[.int .i64 ((rd_T34 t231 x6_2).f0), .string (⟨#[]⟩ : ByteArray), .int .i64 0]) ?_ 1 _ rfl; (with_reducible repeat (first | refine blk_drewN ?_ _ | refine blk_drew ?_ | refine blk_alloc ?_ _)); refine blk_put (cs := #[.int .i64 0, .string (⟨#[]⟩ : ByteArray), .int .i64 0]) ?_ 0 _ rfl; (with_reducible repeat (first | refine blk_drewN ?_ _ | refine blk_drew ?_ | refine blk_alloc ?_ _)); refine blk_far ?_ NB240_239.out _; (with_reducible repeat (first | refine blk_drewN ?_ _ | refine blk_drew ?_ | refine blk_alloc ?_ _)); refine blk_far ?_ NB240_239.out _; (with_reducible repeat (first | refine blk_drewN ?_ _ | refine blk_drew ?_ | refine blk_alloc ?_ _)); refine blk_far ?_ NB240_239.out _; (with_reducible repeat (first | refine blk_drewN ?_ _ | refine blk_drew ?_ | refine blk_alloc ?_ _)); exact BK240.out⟩, ⟨by repeat (first | (with_reducible first | exact HB.out | apply below_alloc | apply pw_below_drewN | apply below_drew1 | refine below_set ?_ GE239.out | refine below_set ?_ GE240.out) | exact HB.out)⟩⟩
                              · rw [if_neg c37] at H
                                have c37b0 : (((rd_T34 t231 x6_2).f0) == 3) = false := beq_eq_false_iff_ne.mpr c37
                                have c37b1 : (((rd_T34 t231 x6_2).f0) != 3) = true := bne_iff_ne.mpr c37
                                by_cases c45 : ((rd_T34 t231 x6_2).f0) = 4
                                · rw [if_pos c45] at H
                                  have c45b0 : (((rd_T34 t231 x6_2).f0) == 4) = true := beq_iff_eq.mpr c45
                                  have c45b1 : (((rd_T34 t231 x6_2).f0) != 4) = false := bne_eq_false_iff_eq.mpr c45
                                  clear c45
                                  by_cases c46 : ((rd_T34 t231 (ji16)).f0) = 2
                                  · rw [if_pos c46] at H
                                    have c46b0 : (((rd_T34 t231 (ji16)).f0) == 2) = true := beq_iff_eq.mpr c46
                                    have c46b1 : (((rd_T34 t231 (ji16)).f0) != 2) = false := bne_eq_false_iff_eq.mpr c46
                                    clear c46
                                    have H' := Aside0.mk H
                                    clear H
                                    have hnb47 := NB239_240.out
                                    have hnc47 := NB240_239.out
                                    have hcz48_0 : w25.cell? ⟨gb239, 0, none⟩ = some (.int .i64 0) := (blk_cell BK239.out 0).trans rfl
                                    have hcz48_1 : w25.cell? ⟨gb239, 1, none⟩ = some (.string (⟨#[]⟩ : ByteArray)) := (blk_cell BK239.out 1).trans rfl
                                    have hcz48_2 : w25.cell? ⟨gb239, 2, none⟩ = some (.int .i64 0) := (blk_cell BK239.out 2).trans rfl
                                    have hfz48_0 := blk_frozen BK239.out 0
                                    have hfz48_1 := blk_frozen BK239.out 1
                                    have hfz48_2 := blk_frozen BK239.out 2
                                    have hcz49_0 : w25.cell? ⟨gb240, 0, none⟩ = some (.int .i64 0) := (blk_cell BK240.out 0).trans rfl
                                    have hcz49_1 : w25.cell? ⟨gb240, 1, none⟩ = some (.string (⟨#[]⟩ : ByteArray)) := (blk_cell BK240.out 1).trans rfl
                                    have hcz49_2 : w25.cell? ⟨gb240, 2, none⟩ = some (.int .i64 0) := (blk_cell BK240.out 2).trans rfl
                                    have hfz49_0 := blk_frozen BK240.out 0
                                    have hfz49_1 := blk_frozen BK240.out 1
                                    have hfz49_2 := blk_frozen BK240.out 2
                                    go_wp2
                                    go_meet
                                    case rel => exact ⟨_, ((((rd_T34 t231 x6_2).f0) == 2)), (by first | rfl | (simp; done) | (simp [*]; done)), H', ⟨by have := HJ6.out; have := HK2.out; first | omega | exact Nat.le_refl _⟩, ⟨by (with_reducible repeat (first | apply Kd.R_alloc | apply Kd.R_drewN | apply Kd.R_drew)); exact Kd.R_mono (Kd.R_far (p := ⟨gb240, 2, none⟩) (Kd.R_far (p := ⟨gb240, 1, none⟩) (Kd.R_far (p := ⟨gb240, 0, none⟩) (Kd.R_far (p := ⟨gb239, 2, none⟩) (Kd.R_far (p := ⟨gb239, 1, none⟩) (Kd.R_far (p := ⟨gb239, 0, none⟩) (Kd.R_mono (Kd.R_mono HO_3.out (fun k_ hk => (⟨hk, hk.1⟩ : _ ∧ k_ ≠ gb239))) (fun k_ hk => (⟨hk, hk.1.2⟩ : _ ∧ k_ ≠ gb240))) (fun _ hk => hk.1.2) (.int .i64 ((rd_T34 t231 (ji16)).f0))) (fun _ hk => hk.1.2) (.string ((rd_T34 t231 (ji16)).f1))) (fun _ hk => hk.1.2) (.int .i64 ((rd_T34 t231 (ji16)).f2))) (fun _ hk => hk.2) (.int .i64 ((rd_T34 t231 x6_2).f0))) (fun _ hk => hk.2) (.string ((rd_T34 t231 x6_2).f1))) (fun _ hk => hk.2) (.int .i64 ((rd_T34 t231 x6_2).f2))) (fun _ hk => ⟨hk.1.1.1, hk.1.1.2⟩)⟩, ⟨by (with_reducible repeat (first | refine blk_drewN ?_ _ | refine blk_drew ?_ | refine blk_alloc ?_ _)); refine blk_far ?_ NB239_240.out _; (with_reducible repeat (first | refine blk_drewN ?_ _ | refine blk_drew ?_ | refine blk_alloc ?_ _)); refine blk_far ?_ NB239_240.out _; (with_reducible repeat (first | refine blk_drewN ?_ _ | refine blk_drew ?_ | refine blk_alloc ?_ _)); refine blk_far ?_ NB239_240.out _; (with_reducible repeat (first | refine blk_drewN ?_ _ | refine blk_drew ?_ | refine blk_alloc ?_ _)); refine blk_put (cs := #[.int .i64 ((rd_T34 t231 (ji16)).f0), .string ((rd_T34 t231 (ji16)).f1), .int .i64 0]) ?_ 2 _ rfl; (with_reducible repeat (first | refine blk_drewN ?_ _ | refine blk_drew ?_ | refine blk_alloc ?_ _)); refine blk_put (cs := #[.int .i64 ((rd_T34 t231 (ji16)).f0), .string (⟨#[]⟩ : ByteArray), .int .i64 0]) ?_ 1 _ rfl; (with_reducible repeat (first | refine blk_drewN ?_ _ | refine blk_drew ?_ | refine blk_alloc ?_ _)); refine blk_put (cs := #[.int .i64 0, .string (⟨#[]⟩ : ByteArray), .int .i64 0]) ?_ 0 _ rfl; (with_reducible repeat (first | refine blk_drewN ?_ _ | refine blk_drew ?_ | refine blk_alloc ?_ _)); exact BK239.out⟩, ⟨by (with_reducible repeat (first | refine blk_drewN ?_ _ | refine blk_drew ?_ | refine blk_alloc ?_ _)); refine blk_put (cs := #[.int .i64 ((rd_T34 t231 x6_2).f0), .string ((rd_T34 t231 x6_2).f1), .int .i64 0]) ?_ 2 _ rfl; (with_reducible repeat (first | refine blk_drewN ?_ _ | refine blk_drew ?_ | refine blk_alloc ?_ _)); refine blk_put (cs := #[.int .i64 ((rd_T34 t231 x6_2).f0), .string (⟨#[]⟩ : ByteArray), .int .i64 0]) ?_ 1 _ rfl; (with_reducible repeat (first | refine blk_drewN ?_ _ | refine blk_drew ?_ | refine blk_alloc ?_ _)); refine blk_put (cs := #[.int .i64 0, .string (⟨#[]⟩ : ByteArray), .int .i64 0]) ?_ 0 _ rfl; (with_reducible repeat (first | refine blk_drewN ?_ _ | refine blk_drew ?_ | refine blk_alloc ?_ _)); refine blk_far ?_ NB240_239.out _; (with_reducible repeat (first | refine blk_drewN ?_ _ | refine blk_drew ?_ | refine blk_alloc ?_ _)); refine blk_far ?_ NB240_239.out _; (with_reducible repeat (first | refine blk_drewN ?_ _ | refine blk_drew ?_ | refine blk_alloc ?_ _)); refine blk_far ?_ NB240_239.out _; (with_reducible repeat (first | refine blk_drewN ?_ _ | refine blk_drew ?_ | refine blk_alloc ?_ _)); exact BK240.out⟩, ⟨by repeat (first | (with_reducible first | exact HB.out | apply below_alloc | apply pw_below_drewN | apply below_drew1 | refine below_set ?_ GE239.out | refine below_set ?_ GE240.out) | exact HB.out)⟩⟩
                                  · rw [if_neg c46] at H
                                    have c46b0 : (((rd_T34 t231 (ji16)).f0) == 2) = false := beq_eq_false_iff_ne.mpr c46
                                    have c46b1 : (((rd_T34 t231 (ji16)).f0) != 2) = true := bne_iff_ne.mpr c46
                                    have H' := Aside0.mk H
                                    clear H
                                    have hnb50 := NB239_240.out
                                    have hnc50 := NB240_239.out
                                    have hcz51_0 : w25.cell? ⟨gb239, 0, none⟩ = some (.int .i64 0) := (blk_cell BK239.out 0).trans rfl
                                    have hcz51_1 : w25.cell? ⟨gb239, 1, none⟩ = some (.string (⟨#[]⟩ : ByteArray)) := (blk_cell BK239.out 1).trans rfl
                                    have hcz51_2 : w25.cell? ⟨gb239, 2, none⟩ = some (.int .i64 0) := (blk_cell BK239.out 2).trans rfl
                                    have hfz51_0 := blk_frozen BK239.out 0
                                    have hfz51_1 := blk_frozen BK239.out 1
                                    have hfz51_2 := blk_frozen BK239.out 2
                                    have hcz52_0 : w25.cell? ⟨gb240, 0, none⟩ = some (.int .i64 0) := (blk_cell BK240.out 0).trans rfl
                                    have hcz52_1 : w25.cell? ⟨gb240, 1, none⟩ = some (.string (⟨#[]⟩ : ByteArray)) := (blk_cell BK240.out 1).trans rfl
                                    have hcz52_2 : w25.cell? ⟨gb240, 2, none⟩ = some (.int .i64 0) := (blk_cell BK240.out 2).trans rfl
                                    have hfz52_0 := blk_frozen BK240.out 0
                                    have hfz52_1 := blk_frozen BK240.out 1
                                    have hfz52_2 := blk_frozen BK240.out 2
                                    go_wp2
                                    go_meet
                                    case rel => exact ⟨_, (false), (by first | rfl | (simp; done) | (simp [*]; done)), H', ⟨by have := HJ6.out; have := HK2.out; first | omega | exact Nat.le_refl _⟩, ⟨by (with_reducible repeat (first | apply Kd.R_alloc | apply Kd.R_drewN | apply Kd.R_drew)); exact Kd.R_mono (Kd.R_far (p := ⟨gb240, 2, none⟩) (Kd.R_far (p := ⟨gb240, 1, none⟩) (Kd.R_far (p := ⟨gb240, 0, none⟩) (Kd.R_far (p := ⟨gb239, 2, none⟩) (Kd.R_far (p := ⟨gb239, 1, none⟩) (Kd.R_far (p := ⟨gb239, 0, none⟩) (Kd.R_mono (Kd.R_mono HO_3.out (fun k_ hk => (⟨hk, hk.1⟩ : _ ∧ k_ ≠ gb239))) (fun k_ hk => (⟨hk, hk.1.2⟩ : _ ∧ k_ ≠ gb240))) (fun _ hk => hk.1.2) (.int .i64 ((rd_T34 t231 (ji16)).f0))) (fun _ hk => hk.1.2) (.string ((rd_T34 t231 (ji16)).f1))) (fun _ hk => hk.1.2) (.int .i64 ((rd_T34 t231 (ji16)).f2))) (fun _ hk => hk.2) (.int .i64 ((rd_T34 t231 x6_2).f0))) (fun _ hk => hk.2) (.string ((rd_T34 t231 x6_2).f1))) (fun _ hk => hk.2) (.int .i64 ((rd_T34 t231 x6_2).f2))) (fun _ hk => ⟨hk.1.1.1, hk.1.1.2⟩)⟩, ⟨by (with_reducible repeat (first | refine blk_drewN ?_ _ | refine blk_drew ?_ | refine blk_alloc ?_ _)); refine blk_far ?_ NB239_240.out _; (with_reducible repeat (first | refine blk_drewN ?_ _ | refine blk_drew ?_ | refine blk_alloc ?_ _)); refine blk_far ?_ NB239_240.out _; (with_reducible repeat (first | refine blk_drewN ?_ _ | refine blk_drew ?_ | refine blk_alloc ?_ _)); refine blk_far ?_ NB239_240.out _; (with_reducible repeat (first | refine blk_drewN ?_ _ | refine blk_drew ?_ | refine blk_alloc ?_ _)); refine blk_put (cs := #[.int .i64 ((rd_T34 t231 (ji16)).f0), .string ((rd_T34 t231 (ji16)).f1), .int .i64 0]) ?_ 2 _ rfl; (with_reducible repeat (first | refine blk_drewN ?_ _ | refine blk_drew ?_ | refine blk_alloc ?_ _)); refine blk_put (cs := #[.int .i64 ((rd_T34 t231 (ji16)).f0), .string (⟨#[]⟩ : ByteArray), .int .i64 0]) ?_ 1 _ rfl; (with_reducible repeat (first | refine blk_drewN ?_ _ | refine blk_drew ?_ | refine blk_alloc ?_ _)); refine blk_put (cs := #[.int .i64 0, .string (⟨#[]⟩ : ByteArray), .int .i64 0]) ?_ 0 _ rfl; (with_reducible repeat (first | refine blk_drewN ?_ _ | refine blk_drew ?_ | refine blk_alloc ?_ _)); exact BK239.out⟩, ⟨by (with_reducible repeat (first | refine blk_drewN ?_ _ | refine blk_drew ?_ | refine blk_alloc ?_ _)); refine blk_put (cs := #[.int .i64 ((rd_T34 t231 x6_2).f0), .string ((rd_T34 t231 x6_2).f1), .int .i64 0]) ?_ 2 _ rfl; (with_reducible repeat (first | refine blk_drewN ?_ _ | refine blk_drew ?_ | refine blk_alloc ?_ _)); refine blk_put (cs := #[.int .i64 ((rd_T34 t231 x6_2).f0), .string (⟨#[]⟩ : ByteArray), .int .i64 0]) ?_ 1 _ rfl; (with_reducible repeat (first | refine blk_drewN ?_ _ | refine blk_drew ?_ | refine blk_alloc ?_ _)); refine blk_put (cs := #[.int .i64 0, .string (⟨#[]⟩ : ByteArray), .int .i64 0]) ?_ 0 _ rfl; (with_reducible repeat (first | refine blk_drewN ?_ _ | refine blk_drew ?_ | refine blk_alloc ?_ _)); refine blk_far ?_ NB240_239.out _; (with_reducible repeat (first | refine blk_drewN ?_ _ | refine blk_drew ?_ | refine blk_alloc ?_ _)); refine blk_far ?_ NB240_239.out _; (with_reducible repeat (first | refine blk_drewN ?_ _ | refine blk_drew ?_ | refine blk_alloc ?_ _)); refine blk_far ?_ NB240_239.out _; (with_reducible repeat (first | refine blk_drewN ?_ _ | refine blk_drew ?_ | refine blk_alloc ?_ _)); exact BK240.out⟩, ⟨by repeat (first | (with_reducible first | exact HB.out | apply below_alloc | apply pw_below_drewN | apply below_drew1 | refine below_set ?_ GE239.out | refine below_set ?_ GE240.out) | exact HB.out)⟩⟩
                                · rw [if_neg c45] at H
                                  have c45b0 : (((rd_T34 t231 x6_2).f0) == 4) = false := beq_eq_false_iff_ne.mpr c45
                                  have c45b1 : (((rd_T34 t231 x6_2).f0) != 4) = true := bne_iff_ne.mpr c45
                                  have H' := Aside0.mk H
                                  clear H
                                  have hnb53 := NB239_240.out
                                  have hnc53 := NB240_239.out
                                  have hcz54_0 : w25.cell? ⟨gb239, 0, none⟩ = some (.int .i64 0) := (blk_cell BK239.out 0).trans rfl
                                  have hcz54_1 : w25.cell? ⟨gb239, 1, none⟩ = some (.string (⟨#[]⟩ : ByteArray)) := (blk_cell BK239.out 1).trans rfl
                                  have hcz54_2 : w25.cell? ⟨gb239, 2, none⟩ = some (.int .i64 0) := (blk_cell BK239.out 2).trans rfl
                                  have hfz54_0 := blk_frozen BK239.out 0
                                  have hfz54_1 := blk_frozen BK239.out 1
                                  have hfz54_2 := blk_frozen BK239.out 2
                                  have hcz55_0 : w25.cell? ⟨gb240, 0, none⟩ = some (.int .i64 0) := (blk_cell BK240.out 0).trans rfl
                                  have hcz55_1 : w25.cell? ⟨gb240, 1, none⟩ = some (.string (⟨#[]⟩ : ByteArray)) := (blk_cell BK240.out 1).trans rfl
                                  have hcz55_2 : w25.cell? ⟨gb240, 2, none⟩ = some (.int .i64 0) := (blk_cell BK240.out 2).trans rfl
                                  have hfz55_0 := blk_frozen BK240.out 0
                                  have hfz55_1 := blk_frozen BK240.out 1
                                  have hfz55_2 := blk_frozen BK240.out 2
                                  go_wp2
                                  go_meet
                                  case rel => exact ⟨_, (true), (by first | rfl | (simp; done) | (simp [*]; done)), H', ⟨by have := HJ6.out; have := HK2.out; first | omega | exact Nat.le_refl _⟩, ⟨by (with_reducible repeat (first | apply Kd.R_alloc | apply Kd.R_drewN | apply Kd.R_drew)); exact Kd.R_mono (Kd.R_far (p := ⟨gb240, 2, none⟩) (Kd.R_far (p := ⟨gb240, 1, none⟩) (Kd.R_far (p := ⟨gb240, 0, none⟩) (Kd.R_far (p := ⟨gb239, 2, none⟩) (Kd.R_far (p := ⟨gb239, 1, none⟩) (Kd.R_far (p := ⟨gb239, 0, none⟩) (Kd.R_mono (Kd.R_mono HO_3.out (fun k_ hk => (⟨hk, hk.1⟩ : _ ∧ k_ ≠ gb239))) (fun k_ hk => (⟨hk, hk.1.2⟩ : _ ∧ k_ ≠ gb240))) (fun _ hk => hk.1.2) (.int .i64 ((rd_T34 t231 (ji16)).f0))) (fun _ hk => hk.1.2) (.string ((rd_T34 t231 (ji16)).f1))) (fun _ hk => hk.1.2) (.int .i64 ((rd_T34 t231 (ji16)).f2))) (fun _ hk => hk.2) (.int .i64 ((rd_T34 t231 x6_2).f0))) (fun _ hk => hk.2) (.string ((rd_T34 t231 x6_2).f1))) (fun _ hk => hk.2) (.int .i64 ((rd_T34 t231 x6_2).f2))) (fun _ hk => ⟨hk.1.1.1, hk.1.1.2⟩)⟩, ⟨by (with_reducible repeat (first | refine blk_drewN ?_ _ | refine blk_drew ?_ | refine blk_alloc ?_ _)); refine blk_far ?_ NB239_240.out _; (with_reducible repeat (first | refine blk_drewN ?_ _ | refine blk_drew ?_ | refine blk_alloc ?_ _)); refine blk_far ?_ NB239_240.out _; (with_reducible repeat (first | refine blk_drewN ?_ _ | refine blk_drew ?_ | refine blk_alloc ?_ _)); refine blk_far ?_ NB239_240.out _; (with_reducible repeat (first | refine blk_drewN ?_ _ | refine blk_drew ?_ | refine blk_alloc ?_ _)); refine blk_put (cs := #[.int .i64 ((rd_T34 t231 (ji16)).f0), .string ((rd_T34 t231 (ji16)).f1), .int .i64 0]) ?_ 2 _ rfl; (with_reducible repeat (first | refine blk_drewN ?_ _ | refine blk_drew ?_ | refine blk_alloc ?_ _)); refine blk_put (cs := #[.int .i64 ((rd_T34 t231 (ji16)).f0), .string (⟨#[]⟩ : ByteArray), .int .i64 0]) ?_ 1 _ rfl; (with_reducible repeat (first | refine blk_drewN ?_ _ | refine blk_drew ?_ | refine blk_alloc ?_ _)); refine blk_put (cs := #[.int .i64 0, .string (⟨#[]⟩ : ByteArray), .int .i64 0]) ?_ 0 _ rfl; (with_reducible repeat (first | refine blk_drewN ?_ _ | refine blk_drew ?_ | refine blk_alloc ?_ _)); exact BK239.out⟩, ⟨by (with_reducible repeat (first | refine blk_drewN ?_ _ | refine blk_drew ?_ | refine blk_alloc ?_ _)); refine blk_put (cs := #[.int .i64 ((rd_T34 t231 x6_2).f0), .string ((rd_T34 t231 x6_2).f1), .int .i64 0]) ?_ 2 _ rfl; (with_reducible repeat (first | refine blk_drewN ?_ _ | refine blk_drew ?_ | refine blk_alloc ?_ _)); refine blk_put (cs := #[.int .i64 ((rd_T34 t231 x6_2).f0), .string (⟨#[]⟩ : ByteArray), .int .i64 0]) ?_ 1 _ rfl; (with_reducible repeat (first | refine blk_drewN ?_ _ | refine blk_drew ?_ | refine blk_alloc ?_ _)); refine blk_put (cs := #[.int .i64 0, .string (⟨#[]⟩ : ByteArray), .int .i64 0]) ?_ 0 _ rfl; (with_reducible repeat (first | refine blk_drewN ?_ _ | refine blk_drew ?_ | refine blk_alloc ?_ _)); refine blk_far ?_ NB240_239.out _; (with_reducible repeat (first | refine blk_drewN ?_ _ | refine blk_drew ?_ | refine blk_alloc ?_ _)); refine blk_far ?_ NB240_239.out _; (with_reducible repeat (first | refine blk_drewN ?_ _ | refine blk_drew ?_ | refine blk_alloc ?_ _)); refine blk_far ?_ NB240_239.out _; (with_reducible repeat (first | refine blk_drewN ?_ _ | refine blk_drew ?_ | refine blk_alloc ?_ _)); exact BK240.out⟩, ⟨by repeat (first | (with_reducible first | exact HB.out | apply below_alloc | apply pw_below_drewN | apply below_drew1 | refine below_set ?_ GE239.out | refine below_set ?_ GE240.out) | exact HB.out)⟩⟩
                            · rw [if_neg c36] at H
                              have c36b0 : (((rd_T34 t231 (ji16)).f0) == 1) = false := beq_eq_false_iff_ne.mpr c36
                              have c36b1 : (((rd_T34 t231 (ji16)).f0) != 1) = true := bne_iff_ne.mpr c36
                              by_cases c56 : ((rd_T34 t231 (ji16)).f0) = 2
                              · rw [if_pos c56] at H
                                have c56b0 : (((rd_T34 t231 (ji16)).f0) == 2) = true := beq_iff_eq.mpr c56
                                have c56b1 : (((rd_T34 t231 (ji16)).f0) != 2) = false := bne_eq_false_iff_eq.mpr c56
                                clear c56
                                have H' := Aside0.mk H
                                clear H
                                have hnb57 := NB239_240.out
                                have hnc57 := NB240_239.out
                                have hcz58_0 : w25.cell? ⟨gb239, 0, none⟩ = some (.int .i64 0) := (blk_cell BK239.out 0).trans rfl
                                have hcz58_1 : w25.cell? ⟨gb239, 1, none⟩ = some (.string (⟨#[]⟩ : ByteArray)) := (blk_cell BK239.out 1).trans rfl
                                have hcz58_2 : w25.cell? ⟨gb239, 2, none⟩ = some (.int .i64 0) := (blk_cell BK239.out 2).trans rfl
                                have hfz58_0 := blk_frozen BK239.out 0
                                have hfz58_1 := blk_frozen BK239.out 1
                                have hfz58_2 := blk_frozen BK239.out 2
                                have hcz59_0 : w25.cell? ⟨gb240, 0, none⟩ = some (.int .i64 0) := (blk_cell BK240.out 0).trans rfl
                                have hcz59_1 : w25.cell? ⟨gb240, 1, none⟩ = some (.string (⟨#[]⟩ : ByteArray)) := (blk_cell BK240.out 1).trans rfl
                                have hcz59_2 : w25.cell? ⟨gb240, 2, none⟩ = some (.int .i64 0) := (blk_cell BK240.out 2).trans rfl
                                have hfz59_0 := blk_frozen BK240.out 0
                                have hfz59_1 := blk_frozen BK240.out 1
                                have hfz59_2 := blk_frozen BK240.out 2
                                go_wp2
                                go_meet
                                case rel => exact ⟨_, ((((rd_T34 t231 x6_2).f0) == 2)), (by first | rfl | (simp; done) | (simp [*]; done)), H', ⟨by have := HJ6.out; have := HK2.out; first | omega | exact Nat.le_refl _⟩, ⟨by (with_reducible repeat (first | apply Kd.R_alloc | apply Kd.R_drewN | apply Kd.R_drew)); exact Kd.R_mono (Kd.R_far (p := ⟨gb240, 2, none⟩) (Kd.R_far (p := ⟨gb240, 1, none⟩) (Kd.R_far (p := ⟨gb240, 0, none⟩) (Kd.R_far (p := ⟨gb239, 2, none⟩) (Kd.R_far (p := ⟨gb239, 1, none⟩) (Kd.R_far (p := ⟨gb239, 0, none⟩) (Kd.R_mono (Kd.R_mono HO_3.out (fun k_ hk => (⟨hk, hk.1⟩ : _ ∧ k_ ≠ gb239))) (fun k_ hk => (⟨hk, hk.1.2⟩ : _ ∧ k_ ≠ gb240))) (fun _ hk => hk.1.2) (.int .i64 ((rd_T34 t231 (ji16)).f0))) (fun _ hk => hk.1.2) (.string ((rd_T34 t231 (ji16)).f1))) (fun _ hk => hk.1.2) (.int .i64 ((rd_T34 t231 (ji16)).f2))) (fun _ hk => hk.2) (.int .i64 ((rd_T34 t231 x6_2).f0))) (fun _ hk => hk.2) (.string ((rd_T34 t231 x6_2).f1))) (fun _ hk => hk.2) (.int .i64 ((rd_T34 t231 x6_2).f2))) (fun _ hk => ⟨hk.1.1.1, hk.1.1.2⟩)⟩, ⟨by (with_reducible repeat (first | refine blk_drewN ?_ _ | refine blk_drew ?_ | refine blk_alloc ?_ _)); refine blk_far ?_ NB239_240.out _; (with_reducible repeat (first | refine blk_drewN ?_ _ | refine blk_drew ?_ | refine blk_alloc ?_ _)); refine blk_far ?_ NB239_240.out _; (with_reducible repeat (first | refine blk_drewN ?_ _ | refine blk_drew ?_ | refine blk_alloc ?_ _)); refine blk_far ?_ NB239_240.out _; (with_reducible repeat (first | refine blk_drewN ?_ _ | refine blk_drew ?_ | refine blk_alloc ?_ _)); refine blk_put (cs := #[.int .i64 ((rd_T34 t231 (ji16)).f0), .string ((rd_T34 t231 (ji16)).f1), .int .i64 0]) ?_ 2 _ rfl; (with_reducible repeat (first | refine blk_drewN ?_ _ | refine blk_drew ?_ | refine blk_alloc ?_ _)); refine blk_put (cs := #[.int .i64 ((rd_T34 t231 (ji16)).f0), .string (⟨#[]⟩ : ByteArray), .int .i64 0]) ?_ 1 _ rfl; (with_reducible repeat (first | refine blk_drewN ?_ _ | refine blk_drew ?_ | refine blk_alloc ?_ _)); refine blk_put (cs := #[.int .i64 0, .string (⟨#[]⟩ : ByteArray), .int .i64 0]) ?_ 0 _ rfl; (with_reducible repeat (first | refine blk_drewN ?_ _ | refine blk_drew ?_ | refine blk_alloc ?_ _)); exact BK239.out⟩, ⟨by (with_reducible repeat (first | refine blk_drewN ?_ _ | refine blk_drew ?_ | refine blk_alloc ?_ _)); refine blk_put (cs := #[.int .i64 ((rd_T34 t231 x6_2).f0), .string ((rd_T34 t231 x6_2).f1), .int .i64 0]) ?_ 2 _ rfl; (with_reducible repeat (first | refine blk_drewN ?_ _ | refine blk_drew ?_ | refine blk_alloc ?_ _)); refine blk_put (cs := #[.int .i64 ((rd_T34 t231 x6_2).f0), .string (⟨#[]⟩ : ByteArray), .int .i64 0]) ?_ 1 _ rfl; (with_reducible repeat (first | refine blk_drewN ?_ _ | refine blk_drew ?_ | refine blk_alloc ?_ _)); refine blk_put (cs := #[.int .i64 0, .string (⟨#[]⟩ : ByteArray), .int .i64 0]) ?_ 0 _ rfl; (with_reducible repeat (first | refine blk_drewN ?_ _ | refine blk_drew ?_ | refine blk_alloc ?_ _)); refine blk_far ?_ NB240_239.out _; (with_reducible repeat (first | refine blk_drewN ?_ _ | refine blk_drew ?_ | refine blk_alloc ?_ _)); refine blk_far ?_ NB240_239.out _; (with_reducible repeat (first | refine blk_drewN ?_ _ | refine blk_drew ?_ | refine blk_alloc ?_ _)); refine blk_far ?_ NB240_239.out _; (with_reducible repeat (first | refine blk_drewN ?_ _ | refine blk_drew ?_ | refine blk_alloc ?_ _)); exact BK240.out⟩, ⟨by repeat (first | (with_reducible first | exact HB.out | apply below_alloc | apply pw_below_drewN | apply below_drew1 | refine below_set ?_ GE239.out | refine below_set ?_ GE240.out) | exact HB.out)⟩⟩
                              · rw [if_neg c56] at H
                                have c56b0 : (((rd_T34 t231 (ji16)).f0) == 2) = false := beq_eq_false_iff_ne.mpr c56
                                have c56b1 : (((rd_T34 t231 (ji16)).f0) != 2) = true := bne_iff_ne.mpr c56
                                have H' := Aside0.mk H
                                clear H
                                have hnb60 := NB239_240.out
                                have hnc60 := NB240_239.out
                                have hcz61_0 : w25.cell? ⟨gb239, 0, none⟩ = some (.int .i64 0) := (blk_cell BK239.out 0).trans rfl
                                have hcz61_1 : w25.cell? ⟨gb239, 1, none⟩ = some (.string (⟨#[]⟩ : ByteArray)) := (blk_cell BK239.out 1).trans rfl
                                have hcz61_2 : w25.cell? ⟨gb239, 2, none⟩ = some (.int .i64 0) := (blk_cell BK239.out 2).trans rfl
                                have hfz61_0 := blk_frozen BK239.out 0
                                have hfz61_1 := blk_frozen BK239.out 1
                                have hfz61_2 := blk_frozen BK239.out 2
                                go_wp2
                                go_meet
                                case rel => exact ⟨_, (false), (by first | rfl | (simp; done) | (simp [*]; done)), H', ⟨by have := HJ6.out; have := HK2.out; first | omega | exact Nat.le_refl _⟩, ⟨by (with_reducible repeat (first | apply Kd.R_alloc | apply Kd.R_drewN | apply Kd.R_drew)); exact Kd.R_mono (Kd.R_far (p := ⟨gb240, 2, none⟩) (Kd.R_far (p := ⟨gb240, 1, none⟩) (Kd.R_far (p := ⟨gb240, 0, none⟩) (Kd.R_far (p := ⟨gb239, 2, none⟩) (Kd.R_far (p := ⟨gb239, 1, none⟩) (Kd.R_far (p := ⟨gb239, 0, none⟩) (Kd.R_mono (Kd.R_mono HO_3.out (fun k_ hk => (⟨hk, hk.1⟩ : _ ∧ k_ ≠ gb239))) (fun k_ hk => (⟨hk, hk.1.2⟩ : _ ∧ k_ ≠ gb240))) (fun _ hk => hk.1.2) (.int .i64 ((rd_T34 t231 (ji16)).f0))) (fun _ hk => hk.1.2) (.string ((rd_T34 t231 (ji16)).f1))) (fun _ hk => hk.1.2) (.int .i64 ((rd_T34 t231 (ji16)).f2))) (fun _ hk => hk.2) (.int .i64 ((rd_T34 t231 x6_2).f0))) (fun _ hk => hk.2) (.string ((rd_T34 t231 x6_2).f1))) (fun _ hk => hk.2) (.int .i64 ((rd_T34 t231 x6_2).f2))) (fun _ hk => ⟨hk.1.1.1, hk.1.1.2⟩)⟩, ⟨by (with_reducible repeat (first | refine blk_drewN ?_ _ | refine blk_drew ?_ | refine blk_alloc ?_ _)); refine blk_far ?_ NB239_240.out _; (with_reducible repeat (first | refine blk_drewN ?_ _ | refine blk_drew ?_ | refine blk_alloc ?_ _)); refine blk_far ?_ NB239_240.out _; (with_reducible repeat (first | refine blk_drewN ?_ _ | refine blk_drew ?_ | refine blk_alloc ?_ _)); refine blk_far ?_ NB239_240.out _; (with_reducible repeat (first | refine blk_drewN ?_ _ | refine blk_drew ?_ | refine blk_alloc ?_ _)); refine blk_put (cs := #[.int .i64 ((rd_T34 t231 (ji16)).f0), .string ((rd_T34 t231 (ji16)).f1), .int .i64 0]) ?_ 2 _ rfl; (with_reducible repeat (first | refine blk_drewN ?_ _ | refine blk_drew ?_ | refine blk_alloc ?_ _)); refine blk_put (cs := #[.int .i64 ((rd_T34 t231 (ji16)).f0), .string (⟨#[]⟩ : ByteArray), .int .i64 0]) ?_ 1 _ rfl; (with_reducible repeat (first | refine blk_drewN ?_ _ | refine blk_drew ?_ | refine blk_alloc ?_ _)); refine blk_put (cs := #[.int .i64 0, .string (⟨#[]⟩ : ByteArray), .int .i64 0]) ?_ 0 _ rfl; (with_reducible repeat (first | refine blk_drewN ?_ _ | refine blk_drew ?_ | refine blk_alloc ?_ _)); exact BK239.out⟩, ⟨by (with_reducible repeat (first | refine blk_drewN ?_ _ | refine blk_drew ?_ | refine blk_alloc ?_ _)); refine blk_put (cs := #[.int .i64 ((rd_T34 t231 x6_2).f0), .string ((rd_T34 t231 x6_2).f1), .int .i64 0]) ?_ 2 _ rfl; (with_reducible repeat (first | refine blk_drewN ?_ _ | refine blk_drew ?_ | refine blk_alloc ?_ _)); refine blk_put (cs := #[.int .i64 ((rd_T34 t231 x6_2).f0), .string (⟨#[]⟩ : ByteArray), .int .i64 0]) ?_ 1 _ rfl; (with_reducible repeat (first | refine blk_drewN ?_ _ | refine blk_drew ?_ | refine blk_alloc ?_ _)); refine blk_put (cs := #[.int .i64 0, .string (⟨#[]⟩ : ByteArray), .int .i64 0]) ?_ 0 _ rfl; (with_reducible repeat (first | refine blk_drewN ?_ _ | refine blk_drew ?_ | refine blk_alloc ?_ _)); refine blk_far ?_ NB240_239.out _; (with_reducible repeat (first | refine blk_drewN ?_ _ | refine blk_drew ?_ | refine blk_alloc ?_ _)); refine blk_far ?_ NB240_239.out _; (with_reducible repeat (first | refine blk_drewN ?_ _ | refine blk_drew ?_ | refine blk_alloc ?_ _)); refine blk_far ?_ NB240_239.out _; (with_reducible repeat (first | refine blk_drewN ?_ _ | refine blk_drew ?_ | refine blk_alloc ?_ _)); exact BK240.out⟩, ⟨by repeat (first | (with_reducible first | exact HB.out | apply below_alloc | apply pw_below_drewN | apply below_drew1 | refine below_set ?_ GE239.out | refine below_set ?_ GE240.out) | exact HB.out)⟩⟩
                          · rw [if_neg c35] at H
                            have c35b0 : ((wrap64 (((rd_T34 t231 (ji16)).f2) + (((rd_T34 t231 (ji16)).f1).size : Int))) == ((rd_T34 t231 x6_2).f2)) = false := beq_eq_false_iff_ne.mpr c35
                            have c35b1 : ((wrap64 (((rd_T34 t231 (ji16)).f2) + (((rd_T34 t231 (ji16)).f1).size : Int))) != ((rd_T34 t231 x6_2).f2)) = true := bne_iff_ne.mpr c35
                            (first | rw [c35b0] | (simp only [i64_w, i32_w]; rw [c35b0]) | skip)
                            have H' := Aside0.mk H
                            clear H
                            go_wp2
                            go_meet
                            case rel => exact ⟨_, (false), (by first | rfl | (simp; done) | (simp [*]; done)), H', ⟨by have := HJ6.out; have := HK2.out; first | omega | exact Nat.le_refl _⟩, ⟨by (with_reducible repeat (first | apply Kd.R_alloc | apply Kd.R_drewN | apply Kd.R_drew)); exact Kd.R_mono (Kd.R_far (p := ⟨gb240, 2, none⟩) (Kd.R_far (p := ⟨gb240, 1, none⟩) (Kd.R_far (p := ⟨gb240, 0, none⟩) (Kd.R_far (p := ⟨gb239, 2, none⟩) (Kd.R_far (p := ⟨gb239, 1, none⟩) (Kd.R_far (p := ⟨gb239, 0, none⟩) (Kd.R_mono (Kd.R_mono HO_3.out (fun k_ hk => (⟨hk, hk.1⟩ : _ ∧ k_ ≠ gb239))) (fun k_ hk => (⟨hk, hk.1.2⟩ : _ ∧ k_ ≠ gb240))) (fun _ hk => hk.1.2) (.int .i64 ((rd_T34 t231 (ji16)).f0))) (fun _ hk => hk.1.2) (.string ((rd_T34 t231 (ji16)).f1))) (fun _ hk => hk.1.2) (.int .i64 ((rd_T34 t231 (ji16)).f2))) (fun _ hk => hk.2) (.int .i64 ((rd_T34 t231 x6_2).f0))) (fun _ hk => hk.2) (.string ((rd_T34 t231 x6_2).f1))) (fun _ hk => hk.2) (.int .i64 ((rd_T34 t231 x6_2).f2))) (fun _ hk => ⟨hk.1.1.1, hk.1.1.2⟩)⟩, ⟨by (with_reducible repeat (first | refine blk_drewN ?_ _ | refine blk_drew ?_ | refine blk_alloc ?_ _)); refine blk_far ?_ NB239_240.out _; (with_reducible repeat (first | refine blk_drewN ?_ _ | refine blk_drew ?_ | refine blk_alloc ?_ _)); refine blk_far ?_ NB239_240.out _; (with_reducible repeat (first | refine blk_drewN ?_ _ | refine blk_drew ?_ | refine blk_alloc ?_ _)); refine blk_far ?_ NB239_240.out _; (with_reducible repeat (first | refine blk_drewN ?_ _ | refine blk_drew ?_ | refine blk_alloc ?_ _)); refine blk_put (cs := #[.int .i64 ((rd_T34 t231 (ji16)).f0), .string ((rd_T34 t231 (ji16)).f1), .int .i64 0]) ?_ 2 _ rfl; (with_reducible repeat (first | refine blk_drewN ?_ _ | refine blk_drew ?_ | refine blk_alloc ?_ _)); refine blk_put (cs := #[.int .i64 ((rd_T34 t231 (ji16)).f0), .string (⟨#[]⟩ : ByteArray), .int .i64 0]) ?_ 1 _ rfl; (with_reducible repeat (first | refine blk_drewN ?_ _ | refine blk_drew ?_ | refine blk_alloc ?_ _)); refine blk_put (cs := #[.int .i64 0, .string (⟨#[]⟩ : ByteArray), .int .i64 0]) ?_ 0 _ rfl; (with_reducible repeat (first | refine blk_drewN ?_ _ | refine blk_drew ?_ | refine blk_alloc ?_ _)); exact BK239.out⟩, ⟨by (with_reducible repeat (first | refine blk_drewN ?_ _ | refine blk_drew ?_ | refine blk_alloc ?_ _)); refine blk_put (cs := #[.int .i64 ((rd_T34 t231 x6_2).f0), .string ((rd_T34 t231 x6_2).f1), .int .i64 0]) ?_ 2 _ rfl; (with_reducible repeat (first | refine blk_drewN ?_ _ | refine blk_drew ?_ | refine blk_alloc ?_ _)); refine blk_put (cs := #[.int .i64 ((rd_T34 t231 x6_2).f0), .string (⟨#[]⟩ : ByteArray), .int .i64 0]) ?_ 1 _ rfl; (with_reducible repeat (first | refine blk_drewN ?_ _ | refine blk_drew ?_ | refine blk_alloc ?_ _)); refine blk_put (cs := #[.int .i64 0, .string (⟨#[]⟩ : ByteArray), .int .i64 0]) ?_ 0 _ rfl; (with_reducible repeat (first | refine blk_drewN ?_ _ | refine blk_drew ?_ | refine blk_alloc ?_ _)); refine blk_far ?_ NB240_239.out _; (with_reducible repeat (first | refine blk_drewN ?_ _ | refine blk_drew ?_ | refine blk_alloc ?_ _)); refine blk_far ?_ NB240_239.out _; (with_reducible repeat (first | refine blk_drewN ?_ _ | refine blk_drew ?_ | refine blk_alloc ?_ _)); refine blk_far ?_ NB240_239.out _; (with_reducible repeat (first | refine blk_drewN ?_ _ | refine blk_drew ?_ | refine blk_alloc ?_ _)); exact BK240.out⟩, ⟨by repeat (first | (with_reducible first | exact HB.out | apply below_alloc | apply pw_below_drewN | apply below_drew1 | refine below_set ?_ GE239.out | refine below_set ?_ GE240.out) | exact HB.out)⟩⟩
                        case rest =>
                          clear HC20
                          try clear c1
                          try clear p2
                          try clear q2
                          try clear hx2
                          try clear c3
                          try clear c4
                          try clear c4b0
                          try clear c4b1
                          try clear c5
                          try clear c6
                          try clear p6
                          try clear c8
                          try clear c9
                          try clear c10
                          try clear c10b0
                          try clear c10b1
                          try clear c12
                          try clear c13
                          try clear c13b0
                          try clear c13b1
                          try clear c15
                          try clear c15b0
                          try clear c17
                          try clear c17b0
                          try clear c18
                          try clear c18b0
                          try clear c19
                          try clear c19b0
                          try clear p23
                          try clear q23
                          try clear hx23
                          try clear c32
                          try clear c35
                          try clear c35b0
                          try clear c35b1
                          try clear c36
                          try clear c36b0
                          try clear c36b1
                          try clear c37
                          try clear c37b0
                          try clear c37b1
                          try clear c38
                          try clear c38b0
                          try clear c38b1
                          try clear c39
                          try clear c42
                          try clear c45
                          try clear c45b0
                          try clear c45b1
                          try clear c46
                          try clear c46b0
                          try clear c46b1
                          try clear c47
                          try clear c50
                          try clear c53
                          try clear c56
                          try clear c56b0
                          try clear c56b1
                          try clear c57
                          try clear c60
                          try clear hcz33_0
                          try clear hcz33_1
                          try clear hcz33_2
                          try clear hcz34_0
                          try clear hcz34_1
                          try clear hcz34_2
                          try clear hcz40_0
                          try clear hcz40_1
                          try clear hcz40_2
                          try clear hcz41_0
                          try clear hcz41_1
                          try clear hcz41_2
                          try clear hcz43_0
                          try clear hcz43_1
                          try clear hcz43_2
                          try clear hcz44_0
                          try clear hcz44_1
                          try clear hcz44_2
                          try clear hcz48_0
                          try clear hcz48_1
                          try clear hcz48_2
                          try clear hcz49_0
                          try clear hcz49_1
                          try clear hcz49_2
                          try clear hcz51_0
                          try clear hcz51_1
                          try clear hcz51_2
                          try clear hcz52_0
                          try clear hcz52_1
                          try clear hcz52_2
                          try clear hcz54_0
                          try clear hcz54_1
                          try clear hcz54_2
                          try clear hcz55_0
                          try clear hcz55_1
                          try clear hcz55_2
                          try clear hcz58_0
                          try clear hcz58_1
                          try clear hcz58_2
                          try clear hcz59_0
                          try clear hcz59_1
                          try clear hcz59_2
                          try clear hcz61_0
                          try clear hcz61_1
                          try clear hcz61_2
                          try clear hfz33_0
                          try clear hfz33_1
                          try clear hfz33_2
                          try clear hfz34_0
                          try clear hfz34_1
                          try clear hfz34_2
                          try clear hfz40_0
                          try clear hfz40_1
                          try clear hfz40_2
                          try clear hfz41_0
                          try clear hfz41_1
                          try clear hfz41_2
                          try clear hfz43_0
                          try clear hfz43_1
                          try clear hfz43_2
                          try clear hfz44_0
                          try clear hfz44_1
                          try clear hfz44_2
                          try clear hfz48_0
                          try clear hfz48_1
                          try clear hfz48_2
                          try clear hfz49_0
                          try clear hfz49_1
                          try clear hfz49_2
                          try clear hfz51_0
                          try clear hfz51_1
                          try clear hfz51_2
                          try clear hfz52_0
                          try clear hfz52_1
                          try clear hfz52_2
                          try clear hfz54_0
                          try clear hfz54_1
                          try clear hfz54_2
                          try clear hfz55_0
                          try clear hfz55_1
                          try clear hfz55_2
                          try clear hfz58_0
                          try clear hfz58_1
                          try clear hfz58_2
                          try clear hfz59_0
                          try clear hfz59_1
                          try clear hfz59_2
                          try clear hfz61_0
                          try clear hfz61_1
                          try clear hfz61_2
                          try clear hx237_0
                          try clear hx237_1
                          try clear hx237_2
                          try clear hx238_0
                          try clear hx238_1
                          try clear hx238_2
                          try clear p2
                          try clear p237
                          try clear p238
                          try clear q237
                          try clear q238
                          obtain ⟨kq, x87_19, rfl, HA, HJ19, HO_3, BK239, BK240, HB⟩ := hcut
                          cases kq with
                          | zero => exact absurd HA.out (by simp [chalklinelaw05_LexRuns.j2])
                          | succ kj19 =>
                            have H := HA.out
                            clear HA
                            simp only [chalklinelaw05_LexRuns.j2] at H
                            by_cases c62 : x87_19 = true
                            · subst c62
                              have H1 : (some false) = some r := by rw [if_pos rfl] at H; exact H
                              clear H
                              have H := H1
                              clear H1
                              obtain rfl := Option.some.inj H
                              go_wp2
                              go_ret
                              exact ⟨by first | rfl | (simp [errW_none, errW_some] <;> rfl) | (simp only [← hji16]; first | rfl | (simp [errW_none, errW_some] <;> rfl)) | (simp [*, errW_none, errW_some] <;> rfl), by repeat (first | (with_reducible first | exact HB.out | apply below_alloc | apply pw_below_drewN | apply below_drew1 | refine below_set ?_ GE239.out | refine below_set ?_ GE240.out) | exact HB.out)⟩
                            · replace c62 := Bool.eq_false_iff.mpr c62
                              subst c62
                              have H1 : (if ((rd_T34 t231 (ji16)).f0) = 4 then (some false) else (if ((rd_T34 t231 (ji16)).f1).toList = ([] : List UInt8) then (some false) else (chalklinelaw05_LexRuns.l0 kj19 t231 (wrap64 (x6_2 + 1))))) = some r := by rw [if_neg (show ¬ (false = true) by decide)] at H; exact H
                              clear H
                              have H := H1
                              clear H1
                              by_cases c63 : ((rd_T34 t231 (ji16)).f0) = 4
                              · rw [if_pos c63] at H
                                have c63b0 : (((rd_T34 t231 (ji16)).f0) == 4) = true := beq_iff_eq.mpr c63
                                have c63b1 : (((rd_T34 t231 (ji16)).f0) != 4) = false := bne_eq_false_iff_eq.mpr c63
                                clear c63
                                obtain rfl := Option.some.inj H
                                have hnb64 := NB239_240.out
                                have hnc64 := NB240_239.out
                                have hcz65_0 : wc.cell? ⟨gb239, 0, none⟩ = some (.int .i64 ((rd_T34 t231 (ji16)).f0)) := (blk_cell BK239.out 0).trans rfl
                                have hcz65_1 : wc.cell? ⟨gb239, 1, none⟩ = some (.string ((rd_T34 t231 (ji16)).f1)) := (blk_cell BK239.out 1).trans rfl
                                have hcz65_2 : wc.cell? ⟨gb239, 2, none⟩ = some (.int .i64 ((rd_T34 t231 (ji16)).f2)) := (blk_cell BK239.out 2).trans rfl
                                have hfz65_0 := blk_frozen BK239.out 0
                                have hfz65_1 := blk_frozen BK239.out 1
                                have hfz65_2 := blk_frozen BK239.out 2
                                go_wp2
                                go_ret
                                exact ⟨by first | rfl | (simp [errW_none, errW_some] <;> rfl) | (simp only [← hji16]; first | rfl | (simp [errW_none, errW_some] <;> rfl)) | (simp [*, errW_none, errW_some] <;> rfl), by repeat (first | (with_reducible first | exact HB.out | apply below_alloc | apply pw_below_drewN | apply below_drew1 | refine below_set ?_ GE239.out | refine below_set ?_ GE240.out) | exact HB.out)⟩
                              · rw [if_neg c63] at H
                                have c63b0 : (((rd_T34 t231 (ji16)).f0) == 4) = false := beq_eq_false_iff_ne.mpr c63
                                have c63b1 : (((rd_T34 t231 (ji16)).f0) != 4) = true := bne_iff_ne.mpr c63
                                by_cases c66 : ((rd_T34 t231 (ji16)).f1).toList = ([] : List UInt8)
                                · rw [if_pos c66] at H
                                  have c66b0 : (((rd_T34 t231 (ji16)).f1).toList == ([] : List UInt8)) = true := beq_iff_eq.mpr c66
                                  have c66b1 : (((rd_T34 t231 (ji16)).f1).toList != ([] : List UInt8)) = false := bne_eq_false_iff_eq.mpr c66
                                  clear c66
                                  obtain rfl := Option.some.inj H
                                  have hnb67 := NB239_240.out
                                  have hnc67 := NB240_239.out
                                  have hcz68_0 : wc.cell? ⟨gb239, 0, none⟩ = some (.int .i64 ((rd_T34 t231 (ji16)).f0)) := (blk_cell BK239.out 0).trans rfl
                                  have hcz68_1 : wc.cell? ⟨gb239, 1, none⟩ = some (.string ((rd_T34 t231 (ji16)).f1)) := (blk_cell BK239.out 1).trans rfl
                                  have hcz68_2 : wc.cell? ⟨gb239, 2, none⟩ = some (.int .i64 ((rd_T34 t231 (ji16)).f2)) := (blk_cell BK239.out 2).trans rfl
                                  have hfz68_0 := blk_frozen BK239.out 0
                                  have hfz68_1 := blk_frozen BK239.out 1
                                  have hfz68_2 := blk_frozen BK239.out 2
                                  go_wp2
                                  go_ret
                                  exact ⟨by first | rfl | (simp [errW_none, errW_some] <;> rfl) | (simp only [← hji16]; first | rfl | (simp [errW_none, errW_some] <;> rfl)) | (simp [*, errW_none, errW_some] <;> rfl), by repeat (first | (with_reducible first | exact HB.out | apply below_alloc | apply pw_below_drewN | apply below_drew1 | refine below_set ?_ GE239.out | refine below_set ?_ GE240.out) | exact HB.out)⟩
                                · rw [if_neg c66] at H
                                  have c66b0 : (((rd_T34 t231 (ji16)).f1).toList == ([] : List UInt8)) = false := beq_eq_false_iff_ne.mpr c66
                                  have c66b1 : (((rd_T34 t231 (ji16)).f1).toList != ([] : List UInt8)) = true := bne_iff_ne.mpr c66
                                  have H' := Aside0.mk H
                                  clear H
                                  have hnb69 := NB239_240.out
                                  have hnc69 := NB240_239.out
                                  have hcz70_0 : wc.cell? ⟨gb239, 0, none⟩ = some (.int .i64 ((rd_T34 t231 (ji16)).f0)) := (blk_cell BK239.out 0).trans rfl
                                  have hcz70_1 : wc.cell? ⟨gb239, 1, none⟩ = some (.string ((rd_T34 t231 (ji16)).f1)) := (blk_cell BK239.out 1).trans rfl
                                  have hcz70_2 : wc.cell? ⟨gb239, 2, none⟩ = some (.int .i64 ((rd_T34 t231 (ji16)).f2)) := (blk_cell BK239.out 2).trans rfl
                                  have hfz70_0 := blk_frozen BK239.out 0
                                  have hfz70_1 := blk_frozen BK239.out 1
                                  have hfz70_2 := blk_frozen BK239.out 2
                                  go_wp2
                                  go_roundg kj19
                                  case measure => have := HJ6.out; have := HK2.out; have := HJ19.out; omega
                                  case rel => exact ⟨(wrap64 (x6_2 + 1)), (by first | rfl | (simp; done) | (simp [*]; done)), H', ⟨by have := HJ6.out; have := HK2.out; have := HJ19.out; omega⟩, ⟨by (with_reducible repeat (first | apply Kd.R_alloc | apply Kd.R_drewN | apply Kd.R_drew)); exact Kd.R_mono HO_3.out (fun _ hk => trivial)⟩, ⟨by repeat (first | (with_reducible first | exact HB.out | apply below_alloc | apply pw_below_drewN | apply below_drew1 | refine below_set ?_ GE239.out | refine below_set ?_ GE240.out) | exact HB.out)⟩⟩
                      · rw [if_neg c19] at H
                        exact absurd H (by simp)
                    · rw [if_neg c18] at H
                      exact absurd H (by simp)
                  · rw [if_neg c17] at H
                    exact absurd H (by simp)
                · rw [if_neg c15] at H
                  have c15b0 : decide (x6_2 < (t231.length : Int)) = false := decide_eq_false c15
                  clear c15
                  obtain ⟨ji71, hji71⟩ : ∃ j_ : Int, (wrap64 ((t231.length : Int) - 1)) = j_ := ⟨_, rfl⟩
                  replace H : (if 0 ≤ (ji71) then (if (ji71) < (t231.length : Int) then (some (((rd_T34 t231 (ji71)).f0) == 4)) else (none)) else (none)) = some r := by first | (rw [hji71] at H; exact H) | (simp only [hji71] at H ⊢; exact H)
                  have hji71w : (IntKind.i64.wrap ((t231.length : Int) - 1)) = ji71 := (i64_w _).trans hji71
                  by_cases c72 : 0 ≤ (ji71)
                  · rw [if_pos c72] at H
                    have c72b0 : decide (0 ≤ (ji71)) = true := decide_eq_true c72
                    clear c72
                    by_cases c73 : (ji71) < (t231.length : Int)
                    · rw [if_pos c73] at H
                      have c73b0 : decide ((ji71) < (t231.length : Int)) = true := decide_eq_true c73
                      clear c73
                      obtain rfl := Option.some.inj H
                      obtain ⟨Ao74, co74, eo74⟩ := Kd.R_slice HO_3.out
                      subst eo74
                      have p236 : 0 ≤ ((ji71) : Int) := of_decide_eq_true (by first | (with_reducible assumption) | assumption)
                      have q236 : (ji71) < (t231.length : Int) := of_decide_eq_true (by first | (with_reducible assumption) | assumption)
                      obtain ⟨ad236, e236, hx236_0, hx236_1, hx236_2⟩ := at_T34 (Kd.R_reads' HO_3.out).2.2 (ji71) p236 q236
                      cases e236
                      replace p236 := eq_true p236
                      replace q236 := eq_true q236
                      go_wp2
                      go_ret
                      exact ⟨by first | rfl | (simp [errW_none, errW_some] <;> rfl) | (simp only [← hji71]; first | rfl | (simp [errW_none, errW_some] <;> rfl)) | (simp [*, errW_none, errW_some] <;> rfl), by repeat (first | (with_reducible first | exact HB.out | apply below_alloc | apply pw_below_drewN | apply below_drew1) | exact HB.out)⟩
                    · rw [if_neg c73] at H
                      exact absurd H (by simp)
                  · rw [if_neg c72] at H
                    exact absurd H (by simp)
  · replace c3 := Bool.eq_false_iff.mpr c3
    subst c3
    have H1 : (some false) = some r := by rw [if_neg (show ¬ (false = true) by decide)] at H; exact H
    clear H
    have H := H1
    clear H1
    obtain rfl := Option.some.inj H
    go_enter Tryd.func8, Tryd.ntmps8
    go_wp2_with (first | ((with_reducible refine gate_callee (f := 9) rfl ?_); refine goesL_ (some 10) rfl rfl Tryd.func9 (by kernel_rfl) rfl #[] rfl (by (try simp only [List.map_toArray, List.map_cons, List.map_nil]); first | done | rfl | (simp only [List.length_drop, List.length_take]; rfl)) ?_; (with_reducible refine (chalklinelaw05_live.calls (hG := ?sideG)  false _ A2.out).mono ?_); (case sideG => repeat (first | exact HG.out | exact (Laid.below HG.out HB.out) | (with_reducible refine Laid.alloc ?_ _) | (with_reducible refine Laid.drewN ?_ _) | (with_reducible refine Laid.drew ?_))); rintro e w75 ⟨rfl, hb⟩; refine ⟨_, rfl, ?_⟩; have n0_ := Aside0.mk (below_step (by repeat (first | (with_reducible first | exact HB.out | apply below_alloc | apply pw_below_drewN | apply below_drew1) | exact HB.out)) hb); clear HB; have HB := n0_; clear n0_; (try clear hb); (try clear hb2); (try clear hk); (try clear hi)))
    go_ret
    exact ⟨by first | rfl | (simp [errW_none, errW_some] <;> rfl) | (simp [*, errW_none, errW_some] <;> rfl), by repeat (first | (with_reducible first | exact HB.out | apply below_alloc | apply pw_below_drewN | apply below_drew1) | exact HB.out)⟩

end Go.Proofs.YtbnelajjadhcgaaDoor.G
