import Derived.Test.YtbnelajjadhcgaaDoorGx0
import Derived.Lib.Hide
import Derived.Outline
import Derived.Shelf.Abstract
import Derived.Deep.QuietTactic
import Derived.BigQuiet
import Derived.Deep.LoopGhost
namespace Go.Proofs.YtbnelajjadhcgaaDoor.G
open Go.Shelf Go.RowKit Go.Proofs.YtbnelajjadhcgaaDoorW.PrintWords Go.Proofs.YtbnelajjadhcgaaDoorW.PrintLast Go.Proofs.YtbnelajjadhcgaaDoorW.PrintMore
set_option linter.unusedVariables false
set_option linter.unusedSimpArgs false

def isL (c : Int) : Bool := decide (97 ≤ c) && decide (c ≤ 122)
def isD (c : Int) : Bool := decide (48 ≤ c) && decide (c ≤ 57)
def ofK (c : Int) : Int := if isL c then 1 else if isD c then 2 else if c == 95 then 4 else 0
/-- lex.run's test: is c of none of the classes k? -/
def outK (k c : Int) : Bool := Go.bits .and .u8 (ofK c) k == 0
/-- lex.run. -/
def runL (k : Int) (l : List Int) : Nat := (l.takeWhile fun c => !outK k c).length

def idxL (k : Int) (l : List Int) : Int := if runL k l = l.length then -1 else (runL k l : Int)

theorem of_calls (c : Int) (w : World) : Calls Tryd.prog 27 #[.int .u8 c] w fun e w' => e = .returned (.int .u8 (ofK c)) ∧ w = w' := by
  by_cases h1 : 97 ≤ c
  · by_cases h2 : c ≤ 122
    · have e : ofK c = 1 := by simp [ofK, isL, h1, h2]
      rw [e]; clear e
      go_enter Tryd.func27, Tryd.ntmps27
      go_wp2
      go_ret
      exact ⟨rfl, rfl⟩
    · have e : ofK c = 0 := by
        have a : ¬ c ≤ 57 := by omega
        have b : ¬ c = 95 := by omega
        simp [ofK, isL, isD, h1, h2, a, b]
      rw [e]; clear e
      have a : ¬ c ≤ 57 := by omega
      have a' : 48 ≤ c := by omega
      have b : (c == 95) = false := beq_eq_false_iff_ne.2 (by omega)
      go_enter Tryd.func27, Tryd.ntmps27
      go_wp2
      go_ret
      exact ⟨rfl, rfl⟩
  · by_cases h3 : 48 ≤ c
    · by_cases h4 : c ≤ 57
      · have e : ofK c = 2 := by simp [ofK, isL, isD, h1, h3, h4]
        rw [e]; clear e
        go_enter Tryd.func27, Tryd.ntmps27
        go_wp2
        go_ret
        exact ⟨rfl, rfl⟩
      · by_cases h5 : c = 95
        · subst h5
          go_enter Tryd.func27, Tryd.ntmps27
          go_wp2
          go_ret
          exact ⟨rfl, rfl⟩
        · have e : ofK c = 0 := by simp [ofK, isL, isD, h1, h3, h4, h5]
          rw [e]; clear e
          have b : (c == 95) = false := beq_eq_false_iff_ne.2 h5
          clear h5
          go_enter Tryd.func27, Tryd.ntmps27
          go_wp2
          go_ret
          exact ⟨rfl, rfl⟩
    · have e : ofK c = 0 := by
        have a : ¬ c = 95 := by omega
        simp [ofK, isL, isD, h1, h3, a]
      rw [e]; clear e
      have b : (c == 95) = false := beq_eq_false_iff_ne.2 (by omega)
      go_enter Tryd.func27, Tryd.ntmps27
      go_wp2
      go_ret
      exact ⟨rfl, rfl⟩

/-- The closure of lex.run: its captured class in block B. -/
theorem run1_calls (c k : Int) (B : Nat) (w : World) (hk : w.cell? ⟨B, 0, none⟩ = some (.int .u8 k)) :
    Calls Tryd.prog 44 #[.int .u8 c, .pointer (some ⟨B, 0, none⟩)] w fun e w' => e = .returned (.bool (outK k c)) ∧ Drawn0 w w' := by
  have HO := Lib.hid (show outK k c = (Go.bits .and .u8 (ofK c) k == 0) from rfl)
  go_enter Tryd.func44, Tryd.ntmps44
  go_wp2_with fail
  go_quiet ((go_at_call 27; exact Calls.quiet_of_same ((of_calls _ _).mono fun _ _ ⟨a, b⟩ => ⟨a, b.symm⟩)))
  go_wp2
  go_ret
  exact ⟨by rw [HO.out]; rfl, by repeat (first | exact Drawn0.refl _ | apply Drawn0.step)⟩

theorem takeWhile_at {p : Int → Bool} : ∀ (l : List Int) (j : Nat), j ≤ (l.takeWhile p).length → j < l.length → (p (l.getD j 0) = true → j + 1 ≤ (l.takeWhile p).length) ∧ (p (l.getD j 0) = false → (l.takeWhile p).length = j)
  | [], j, _, h => by simp at h
  | c :: r, 0, _, _ => by
    constructor
    · intro h; have h : p c = true := by simpa using h
      simp [List.takeWhile_cons, h]
    · intro h; have h : p c = false := by simpa using h
      simp [List.takeWhile_cons, h]
  | c :: r, j + 1, h1, h2 => by
    cases hc : p c with
    | false => simp [List.takeWhile_cons, hc] at h1
    | true =>
      have ih := takeWhile_at (p := p) r j (by simpa [List.takeWhile_cons, hc] using h1) (by simpa using h2)
      simpa [List.takeWhile_cons, hc] using ih

theorem runL_at (k : Int) (l : List Int) (j : Nat) (h : j ≤ runL k l) (hj : j < l.length) : (outK k (rd l j) = false → j + 1 ≤ runL k l) ∧ (outK k (rd l j) = true → runL k l = j) := by
  have := takeWhile_at (p := fun c => !outK k c) l j h hj
  simpa [rd, runL] using this

set_option maxHeartbeats 1000000 in
/-- slices.IndexFunc with lex.run's closure: the place of the first byte that is of none of the classes, or -1. -/
theorem indexFunc_calls (k : Int) (B : Nat) (A0 : Option Addr) (c0 : Nat) (l0 : List Int) (w : World) (hk : w.cell? ⟨B, 0, none⟩ = some (.int .u8 k)) (hr0 : Kd.C (Kd.int .u8) w A0 l0.length l0) :
    Calls Tryd.prog 43 #[.slice A0 l0.length c0, .func (.func 44) #[] #[.pointer (some ⟨B, 0, none⟩)]] w
      fun e w' => e = .returned (.int .i64 (idxL k l0)) ∧ Drawn0 w w' := by
  have HR := Lib.hid hr0; clear hr0
  have HK := Lib.hid hk; clear hk
  have HF := Lib.hid (show runL k l0 ≤ l0.length from (List.takeWhile_sublist _).length_le)
  have e44 : ∀ args w, (callFunc 44 args).run Tryd.prog w = .ok (.enter 44 args) w := enters_of Tryd.func44 (by kernel_rfl) rfl
  have hm : l0.length ≤ 9223372036854775807 := HR.out.2.1
  go_enter Tryd.func43, Tryd.ntmps43
  go_wp2
  go_loopg [5, 8] l0.length (fun gg _ s8 wr => ∃ kk q : Nat, kk ≤ l0.length ∧ l0.length - kk ≤ gg ∧ s8 = .int .i64 kk ∧ wr = w.drewN q ∧ Hid (kk ≤ runL k l0))
  case atStart => exact ⟨0, 0, Nat.zero_le _, by omega, rfl, rfl, Lib.hid (Nat.zero_le _)⟩
  case round =>
    obtain ⟨kk, q, hkk, hg, rfl, rfl, A⟩ := hrel
    by_cases hlt : kk < l0.length
    · have hltz : (kk : Int) < (l0.length : Int) := by omega
      obtain ⟨ad, e, hx⟩ := Kd.at_int HR.out (kk : Int) (by omega) hltz
      cases e
      rw [Int.toNat_natCast] at hx
      have HA := Lib.hid (runL_at k l0 kk A.out hlt)
      generalize rd l0 (kk : Int) = x at hx HA
      cases hq : outK k x with
      | true =>
        have HE := Lib.hid ((HA.out).2 hq)
        go_wp2_with (go_at_call 44; refine (run1_calls x k B _ (by simpa using HK.out)).mono ?_; rw [hq]; rintro e w' ⟨rfl, ⟨n, rfl⟩⟩)
        go_ret
        exact ⟨by unfold idxL; rw [HE.out, if_neg (by omega)]; rfl, by repeat (first | exact Drawn0.refl _ | apply Drawn0.step)⟩
      | false =>
        have HE := Lib.hid ((HA.out).1 hq)
        go_wp2_with (go_at_call 44; refine (run1_calls x k B _ (by simpa using HK.out)).mono ?_; rw [hq]; rintro e w' ⟨rfl, ⟨n, rfl⟩⟩)
        go_roundg (l0.length - (kk + 1))
        case measure => omega
        case rel => exact ⟨kk + 1, _, by omega, by omega, by go_num, rfl, HE⟩
    · have hltz : ¬ (kk : Int) < (l0.length : Int) := by omega
      have : kk = l0.length := by omega
      subst this
      go_wp2
      go_ret
      exact ⟨by unfold idxL; rw [if_pos (Nat.le_antisymm HF.out A.out)]; rfl, by repeat (first | exact Drawn0.refl _ | apply Drawn0.step)⟩

theorem idxL_neg {k : Int} {l : List Int} (h : runL k l = l.length) : idxL k l = -1 := if_pos h
theorem idxL_pos {k : Int} {l : List Int} (h : ¬ runL k l = l.length) : idxL k l = (runL k l : Int) := if_neg h

def lex_run.f (l0 : List Int) (a1 : Int) : Option Int := some (runL a1 l0 : Int)
set_option maxHeartbeats 1000000 in
theorem lex_run.calls (A0 : Option Addr) (c0 : Nat) (l0 : List Int) (a1 : Int) (r : Int) (w : World) (hr0 : Kd.C (Kd.int .u8) w A0 l0.length l0) (hc0 : l0.length ≤ c0) (h : lex_run.f l0 a1 = some r) :
    Calls Tryd.prog 28 #[.slice A0 l0.length c0, .int .u8 a1] w fun e w' => e = .returned (.int .i64 r) ∧ Below w.heap.size w w' := by
  obtain rfl := Option.some.inj h
  have HC := Lib.hid (indexFunc_calls a1 w.heap.size A0 c0 l0 (w.alloc (.cells #[.int .u8 a1] 45)) (by simp) (Kd.C_alloc hr0 _))
  have hm : l0.length ≤ 9223372036854775807 := hr0.2.1
  clear h hr0 hc0
  by_cases he : runL a1 l0 = l0.length
  · have HI := Lib.hid (idxL_neg he)
    have HE := Lib.hid he
    clear he
    go_enter Tryd.func28, Tryd.ntmps28
    go_wp2_with (go_at_call 43; refine HC.out.mono ?_; rw [HI.out]; rintro e w' ⟨rfl, ⟨n, rfl⟩⟩)
    go_ret
    exact ⟨by rw [HE.out]; rfl, by repeat (first | exact Below.refl _ _ | apply below_alloc | apply pw_below_drewN)⟩
  · have HI := Lib.hid (idxL_pos he)
    clear he
    go_enter Tryd.func28, Tryd.ntmps28
    go_wp2_with (go_at_call 43; refine HC.out.mono ?_; rw [HI.out]; rintro e w' ⟨rfl, ⟨n, rfl⟩⟩)
    go_ret
    exact ⟨rfl, by repeat (first | exact Below.refl _ _ | apply below_alloc | apply pw_below_drewN)⟩
end Go.Proofs.YtbnelajjadhcgaaDoor.G
