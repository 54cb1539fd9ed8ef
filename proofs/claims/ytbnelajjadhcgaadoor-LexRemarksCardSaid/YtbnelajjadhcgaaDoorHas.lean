import Derived.Test.YtbnelajjadhcgaaDoorRight
namespace Go.Proofs.YtbnelajjadhcgaaDoor.G
open Go.Shelf Go.RowKit Go.Proofs.YtbnelajjadhcgaaDoorW.PrintWords Go.Proofs.YtbnelajjadhcgaaDoorW.PrintLast Go.Proofs.YtbnelajjadhcgaaDoorW.PrintMore
set_option linter.unusedVariables false
set_option linter.unusedSimpArgs false

/-- How many tokens are right, from the first on. -/
def goodL (l : List Tok) : Nat := (l.takeWhile fun t => !badT t).length
def badX (l : List Tok) : Int := if goodL l = l.length then -1 else (goodL l : Int)
theorem takeT_at {p : Tok → Bool} (z : Tok) : ∀ (l : List Tok) (j : Nat), j ≤ (l.takeWhile p).length → j < l.length → (p (l.getD j z) = true → j + 1 ≤ (l.takeWhile p).length) ∧ (p (l.getD j z) = false → (l.takeWhile p).length = j)
  | [], j, _, h => by simp at h
  | c :: r, 0, _, _ => by
    constructor
    · intro h; have h : p c = true := by simpa using h
      simp [List.takeWhile_cons, h]
    · intro h; have h : p c = false := by simpa using h
      simp [List.takeWhile_cons, h]
  | c :: r, j + 1, h1, h2 => by
    cases hc : p c with
    | false => simp [List.takeWhile_cons, hc] at h1
    | true =>
      have ih := takeT_at (p := p) z r j (by simpa [List.takeWhile_cons, hc] using h1) (by simpa using h2)
      simpa [List.takeWhile_cons, hc] using ih
theorem goodL_at (l : List Tok) (j : Nat) (h : j ≤ goodL l) (hj : j < l.length) : (badT (rd_T34 l j) = false → j + 1 ≤ goodL l) ∧ (badT (rd_T34 l j) = true → goodL l = j) := by
  have := takeT_at (p := fun t => !badT t) z34 l j h hj
  have e : rd_T34 l j = l.getD j z34 := rfl
  rw [e]
  simpa [goodL] using this
theorem goodL_le (l : List Tok) : goodL l ≤ l.length := (List.takeWhile_sublist _).length_le
theorem badX_iff (l : List Tok) : decide (0 ≤ badX l) = l.any badT := by
  unfold badX goodL
  induction l with
  | nil => rfl
  | cons t r ih =>
    cases h : badT t with
    | true => simp [List.takeWhile_cons, h]
    | false =>
      have hle : (r.takeWhile fun t => !badT t).length ≤ r.length := (List.takeWhile_sublist _).length_le
      simp only [List.takeWhile_cons, h, Bool.not_false, if_true, List.length_cons, List.any_cons, Bool.false_or, ← ih]
      by_cases he : (r.takeWhile fun t => !badT t).length = r.length
      · rw [if_pos (by omega), if_pos he]
      · rw [if_neg (by omega), if_neg he]
        rw [decide_eq_true (by omega), decide_eq_true (by omega)]

set_option maxHeartbeats 4000000 in
set_option maxRecDepth 100000 in
/-- slices.IndexFunc with lex.Join's closure. -/
theorem indexBad_calls (A0 : Option Addr) (c0 : Nat) (l0 : List Tok) (hS : ∀ t ∈ l0, t.f1.size ≤ 281474976710656) (w : World) (hG : Laid w) (hr0 : Kd.C k34 w A0 l0.length l0) :
    Calls Tryd.prog 38 #[.slice A0 l0.length c0, .func (.func 23) #[] #[]] w
      fun e w' => e = .returned (.int .i64 (badX l0)) ∧ Below w.heap.size w w' := by
  have HR := Lib.hid hr0; clear hr0
  have HS := Lib.hid hS; clear hS
  have HG := Lib.hid hG; clear hG
  have HF := Lib.hid (goodL_le l0)
  have e23 : ∀ args w, (callFunc 23 args).run Tryd.prog w = .ok (.enter 23 args) w := enters_of Tryd.func23 (by kernel_rfl) rfl
  have hm : l0.length ≤ 9223372036854775807 := HR.out.2.1
  go_enter Tryd.func38, Tryd.ntmps38
  go_wp2
  go_loopg [5, 8] l0.length (fun gg _ s8 wr => ∃ kk : Nat, kk ≤ l0.length ∧ l0.length - kk ≤ gg ∧ s8 = .int .i64 kk ∧ Hid (Below w.heap.size w wr) ∧ Hid (kk ≤ goodL l0))
  case atStart => exact ⟨0, Nat.zero_le _, by omega, rfl, Lib.hid (Below.refl _ _), Lib.hid (Nat.zero_le _)⟩
  case round =>
    obtain ⟨kk, hkk, hg, rfl, HB, A⟩ := hrel
    by_cases hlt : kk < l0.length
    · have hltz : (kk : Int) < (l0.length : Int) := by omega
      obtain ⟨ad, e, h0, h1, h2⟩ := at_T34 (Kd.C_below HR.out HB.out) (kk : Int) (by omega) hltz
      cases e
      rw [Int.toNat_natCast] at h0 h1 h2
      have HA := Lib.hid (goodL_at l0 kk A.out hlt)
      have hmem : (rd_T34 l0 (kk : Int)).f1.size ≤ 281474976710656 := by
        refine HS.out _ ?_
        show l0.getD _ _ ∈ l0
        rw [Int.toNat_natCast, List.getD_eq_getElem?_getD, List.getElem?_eq_getElem hlt]
        exact List.getElem_mem hlt
      have HM := Lib.hid hmem; clear hmem
      generalize rd_T34 l0 (kk : Int) = x at h0 h1 h2 HA HM
      have HGW := Lib.hid (Laid.below HG.out HB.out)
      have HCC := Lib.hid (bad_calls x HM.out wr HGW.out)
      cases hq : badT x with
      | true =>
        have HE := Lib.hid ((HA.out).2 hq)
        have HCC2 := Lib.hid (by have := HCC.out; rw [hq] at this; exact this)
        go_wp2_with (go_at_call 23; refine HCC2.out.mono ?_; rintro e w' ⟨rfl, hb⟩)
        go_ret
        exact ⟨by unfold badX; rw [HE.out, if_neg (by omega)]; rfl, below_step HB.out hb⟩
      | false =>
        have HE := Lib.hid ((HA.out).1 hq)
        have HCC2 := Lib.hid (by have := HCC.out; rw [hq] at this; exact this)
        go_wp2_with (go_at_call 23; refine HCC2.out.mono ?_; rintro e w' ⟨rfl, hb⟩)
        go_roundg (l0.length - (kk + 1))
        case measure => omega
        case rel => exact ⟨kk + 1, by omega, by omega, by go_num, Lib.hid (below_step HB.out hb), HE⟩
    · have hltz : ¬ (kk : Int) < (l0.length : Int) := by omega
      have : kk = l0.length := by omega
      subst this
      go_wp2
      go_ret
      exact ⟨by unfold badX; rw [if_pos (Nat.le_antisymm HF.out A.out)]; rfl, HB.out⟩

set_option maxHeartbeats 1000000 in
theorem anyBad_calls (A0 : Option Addr) (c0 : Nat) (l0 : List Tok) (hS : ∀ t ∈ l0, t.f1.size ≤ 281474976710656) (w : World) (hG : Laid w) (hr0 : Kd.C k34 w A0 l0.length l0) :
    Calls Tryd.prog 22 #[.slice A0 l0.length c0, .func (.func 23) #[] #[]] w
      fun e w' => e = .returned (.bool (l0.any badT)) ∧ Below w.heap.size w w' := by
  have HC := Lib.hid (indexBad_calls A0 c0 l0 hS w hG hr0)
  have HE := Lib.hid (badX_iff l0)
  rw [← HE.out]
  clear hS hr0 hG
  generalize badX l0 = x at HC HE
  go_enter Tryd.func22, Tryd.ntmps22
  go_wp2_with (go_at_call 38; refine HC.out.mono ?_; rintro e w1 ⟨rfl, hb⟩)
  go_ret
  exact ⟨rfl, hb⟩
end Go.Proofs.YtbnelajjadhcgaaDoor.G
