import Derived.Test.YtbnelajjadhcgaaDoorLx
import Derived.Test.YtbnelajjadhcgaaDoorLaid
import Derived.Test.YtbnelajjadhcgaaDoorShelf
namespace Go.Proofs.YtbnelajjadhcgaaDoor.G
open Go.RowKit Go.Proofs.YtbnelajjadhcgaaDoorW.PrintWords Go.Proofs.YtbnelajjadhcgaaDoorW.PrintLast Go.Proofs.YtbnelajjadhcgaaDoorW.PrintMore
set_option linter.unusedVariables false
set_option linter.unusedSimpArgs false

/-- The first byte of a slice that is read. -/
theorem head_cell {w : World} {A : Option Addr} {l : List Int} (h : Kd.C (Kd.int .u8) w A l.length l) (hp : 0 < l.length) : ∃ ad, A = some ad ∧ w.cell? ad = some (.int .u8 (l.headD 0)) := by
  obtain ⟨ad, e, hx⟩ := Kd.at_int h 0 (by omega) (by omega)
  refine ⟨ad, e, ?_⟩
  have : rd l 0 = l.headD 0 := by cases l <;> rfl
  rw [this] at hx
  have h0 : ad.add (0 : Int).toNat = ad := by cases ad; simp [Addr.add]
  rwa [h0] at hx

theorem atoi_ok (l : List Int) (hne : l ≠ []) (ha : l.all isD = true) (hv : valOf l ≤ 9223372036854775807) (hl : l.length ≤ 281474976710656) (w : World) :
    Calls Tryd.prog 45 #[.string (strOfNums l)] w fun e w' => e = .returned (.tuple #[.int .i64 (valOf l), .nilIface]) ∧ Below w.heap.size w w' :=
  (Tryd.strconv_Atoi_ok (strOfNums l) (by rw [strOfNums_size]; omega) _ ((atoi_digits l hne ha).1 hv) w).mono fun e w' ⟨he, hw⟩ => by
    refine ⟨he, ?_⟩
    rcases hw with rfl | ⟨t, rfl⟩
    · exact Below.refl _ _
    · exact bytes_below (Below.refl _ _) (Nat.le_refl _) _ _
theorem atoi_range (l : List Int) (hne : l ≠ []) (ha : l.all isD = true) (hv : 9223372036854775807 < valOf l) (hl : l.length ≤ 281474976710656) (w : World) (hG : Laid w) :
    Calls Tryd.prog 45 #[.string (strOfNums l)] w fun e w' => ∃ N, e = .returned (.tuple #[.int .i64 9223372036854775807, .iface 76 (.pointer (some ⟨N, 0, none⟩))]) ∧ Below w.heap.size w w' := by
  obtain ⟨te, pe, hr⟩ := hG.rg
  have hs : Lib.atoiSat (strOfNums l).data.toList = 9223372036854775807 := by
    rw [strOfNums_data]
    cases l with
    | nil => rfl
    | cons c r =>
      have hc : isD c = true := by simp only [List.all_cons, Bool.and_eq_true] at ha; exact ha.1
      obtain ⟨h48, h57⟩ := digit_of hc
      have hb : (UInt8.ofNat c.toNat).toNat = c.toNat := by rw [UInt8.toNat_ofNat']; omega
      simp only [Lib.atoiSat, List.map_cons, List.head?_cons, Option.map_some, hb]
      rw [if_neg (by intro h; injection h with h; omega)]
  have hC := Tryd.strconv_Atoi_range (strOfNums l) (by rw [strOfNums_size]; omega) ((atoi_digits l hne ha).2 hv) _ w hr (.inr ⟨te, pe, rfl⟩)
  rw [hs] at hC
  exact hC.mono fun e w' ⟨N, he, _, _, hb⟩ => ⟨N, he, hb⟩

def lex_numeral.f (l0 : List Int) : Option Bool := if l0.length ≤ 281474976710656 then some (numB l0) else none
set_option maxHeartbeats 2000000 in
set_option maxRecDepth 100000 in
theorem lex_numeral.calls (A0 : Option Addr) (c0 : Nat) (l0 : List Int) (r : Bool) (w : World) (hG : Laid w) (hr0 : Kd.C (Kd.int .u8) w A0 l0.length l0) (hc0 : l0.length ≤ c0) (h : lex_numeral.f l0 = some r) :
    Calls Tryd.prog 30 #[.slice A0 l0.length c0] w fun e w' => e = .returned (.bool r) ∧ Below w.heap.size w w' := by
  unfold lex_numeral.f at h
  by_cases hbig : l0.length ≤ 281474976710656
  case neg => rw [if_neg hbig] at h; cases h
  rw [if_pos hbig] at h
  obtain rfl := Option.some.inj h
  clear h
  have hm : l0.length ≤ 9223372036854775807 := hr0.2.1
  by_cases hne : l0 = []
  · subst hne
    clear hr0 hc0 hG
    go_enter Tryd.func30, Tryd.ntmps30
    go_wp2
    go_ret
    exact ⟨rfl, by repeat (first | exact Below.refl _ _ | apply below_alloc | apply pw_below_drewN)⟩
  · have hpos : 0 < l0.length := by cases l0 with | nil => exact absurd rfl hne | cons _ _ => simp
    have z1 : ((l0.length : Int) == 0) = false := beq_eq_false_iff_ne.2 (by omega)
    have HR := Lib.hid hr0; clear hr0
    have HC := Lib.hid hc0; clear hc0
    have HG := Lib.hid hG; clear hG
    by_cases hrun : runL 2 l0 = l0.length
    · have HN := Lib.hid hne; clear hne
      have HU := Lib.hid hrun
      have n1 : ((runL 2 l0 : Int) != (l0.length : Int)) = false := bne_eq_false_iff_eq.2 (by omega)
      have n2 : (runL 2 l0 != l0.length) = false := bne_eq_false_iff_eq.2 hrun
      clear hrun
      by_cases hz : 1 < l0.length ∧ l0.headD 0 = 48
      · obtain ⟨hz1, hz2⟩ := hz
        have HE := Lib.hid (numB_zero l0 hz1 hz2)
        obtain ⟨ad, e, hx⟩ := head_cell HR.out hpos
        cases e
        rw [hz2] at hx
        have z2 : decide (1 < (l0.length : Int)) = true := decide_eq_true (by omega)
        clear hz2
        rw [HE.out]
        go_enter Tryd.func30, Tryd.ntmps30
        go_wp2_with (go_at_call 28; refine (lex_run.calls _ _ l0 2 _ _ HR.out HC.out rfl).mono ?_; rintro e w1 ⟨rfl, hb⟩; have hx1 := pw_cell_below hb hx)
        go_ret
        exact ⟨rfl, hb⟩
      · obtain ⟨he, ha⟩ := numB_val l0 HN.out HU.out hz
        have HE := Lib.hid he; clear he
        have HA := Lib.hid ha; clear ha
        have hs := fun (W : World) (h : Kd.C (Kd.int .u8) W A0 l0.length l0) => Kd.C_string (P := Tryd.prog) (w := W) (c := c0) Tryd.underlying22 Tryd.underlying5 Tryd.underlying9 h
        have HS := Lib.hid hs; clear hs
        obtain ⟨ad, e, hx⟩ := head_cell HR.out hpos
        cases e
        have HX := Lib.hid hx; clear hx
        rw [HE.out]
        by_cases hv : valOf l0 ≤ 9223372036854775807
        · have HV := Lib.hid (atoi_ok l0 HN.out HA.out hv hbig)
          by_cases hl : 1 < l0.length
          · have z2 : decide (1 < (l0.length : Int)) = true := decide_eq_true (by omega)
            have z3 : (l0.headD 0 == 48) = false := beq_eq_false_iff_ne.2 (fun h => hz ⟨hl, h⟩)
            clear hz
            generalize l0.headD 0 = c at HX z3
            go_enter Tryd.func30, Tryd.ntmps30
            go_wp2_with (first | (go_at_call 28; refine (lex_run.calls _ _ l0 2 _ _ HR.out HC.out rfl).mono ?_; rintro e w1 ⟨rfl, hb⟩; have hx1 := pw_cell_below hb HX.out; have hs1 := HS.out w1 (Kd.C_below HR.out hb)) | (go_at_call 45; refine (HV.out _).mono ?_; rintro e w2 ⟨rfl, hb2⟩))
            go_ret
            exact ⟨rfl, below_step hb hb2⟩
          · have z2 : decide (1 < (l0.length : Int)) = false := decide_eq_false (by omega)
            clear hz
            go_enter Tryd.func30, Tryd.ntmps30
            go_wp2_with (first | (go_at_call 28; refine (lex_run.calls _ _ l0 2 _ _ HR.out HC.out rfl).mono ?_; rintro e w1 ⟨rfl, hb⟩; have hs1 := HS.out w1 (Kd.C_below HR.out hb)) | (go_at_call 45; refine (HV.out _).mono ?_; rintro e w2 ⟨rfl, hb2⟩))
            go_ret
            exact ⟨rfl, below_step hb hb2⟩
        · have HV := Lib.hid (fun W => atoi_range l0 HN.out HA.out (by omega) hbig W)
          rw [decide_eq_false (by omega)]
          by_cases hl : 1 < l0.length
          · have z2 : decide (1 < (l0.length : Int)) = true := decide_eq_true (by omega)
            have z3 : (l0.headD 0 == 48) = false := beq_eq_false_iff_ne.2 (fun h => hz ⟨hl, h⟩)
            clear hz
            generalize l0.headD 0 = c at HX z3
            go_enter Tryd.func30, Tryd.ntmps30
            go_wp2_with (first | (go_at_call 28; refine (lex_run.calls _ _ l0 2 _ _ HR.out HC.out rfl).mono ?_; rintro e w1 ⟨rfl, hb⟩; have hx1 := pw_cell_below hb HX.out; have hs1 := HS.out w1 (Kd.C_below HR.out hb); have hG1 := Lib.hid (Laid.below HG.out hb)) | (go_at_call 45; refine (HV.out _ hG1.out).mono ?_; rintro e w2 ⟨N, rfl, hb2⟩))
            go_ret
            exact ⟨rfl, below_step hb hb2⟩
          · have z2 : decide (1 < (l0.length : Int)) = false := decide_eq_false (by omega)
            clear hz
            go_enter Tryd.func30, Tryd.ntmps30
            go_wp2_with (first | (go_at_call 28; refine (lex_run.calls _ _ l0 2 _ _ HR.out HC.out rfl).mono ?_; rintro e w1 ⟨rfl, hb⟩; have hs1 := HS.out w1 (Kd.C_below HR.out hb); have hG1 := Lib.hid (Laid.below HG.out hb)) | (go_at_call 45; refine (HV.out _ hG1.out).mono ?_; rintro e w2 ⟨N, rfl, hb2⟩))
            go_ret
            exact ⟨rfl, below_step hb hb2⟩
    · have HE := Lib.hid (numB_not l0 hrun)
      have n1 : ((runL 2 l0 : Int) != (l0.length : Int)) = true := bne_iff_ne.2 (by omega)
      have n2 : (runL 2 l0 != l0.length) = true := bne_iff_ne.2 hrun
      clear hrun hne
      rw [HE.out]
      go_enter Tryd.func30, Tryd.ntmps30
      go_wp2_with (go_at_call 28; refine (lex_run.calls _ _ l0 2 _ _ HR.out HC.out rfl).mono ?_; rintro e w1 ⟨rfl, hb⟩)
      go_ret
      exact ⟨rfl, hb⟩
end Go.Proofs.YtbnelajjadhcgaaDoor.G
