import Derived.Test.YtbnelajjadhcgaaDoorLx
import Derived.Test.YtbnelajjadhcgaaDoorLaid
import Derived.Test.YtbnelajjadhcgaaDoorShelf
import Derived.Deep.LoopGhost
import Derived.WalkMore
namespace Go.Proofs.YtbnelajjadhcgaaDoor.G
open Go.RowKit Go.Proofs.YtbnelajjadhcgaaDoorW.PrintWords Go.Proofs.YtbnelajjadhcgaaDoorW.PrintLast Go.Proofs.YtbnelajjadhcgaaDoorW.PrintMore
set_option linter.unusedVariables false
set_option linter.unusedSimpArgs false

/-- The constant that lex.sign cuts at its blanks, and what comes of it. -/
def signsC : ByteArray := ⟨#[33, 61, 32, 60, 61, 32, 62, 61, 32, 45, 62, 32, 40, 32, 41, 32, 123, 32, 125, 32, 44, 32, 58, 32, 59, 32, 46, 32, 61, 32, 60, 32, 62, 32, 38, 32, 124, 32, 33]⟩
def signB : List ByteArray := signs.map strOfNums
theorem signB_length : signB.length = 18 := rfl
theorem fields_signs : (Lib.fields signsC.data.toList).map (fun l => (⟨l.toArray⟩ : ByteArray)) = signB := by decide +kernel

theorem fields_calls (w : World) (hG : Laid w) : Calls Tryd.prog 46 #[.string ⟨#[33, 61, 32, 60, 61, 32, 62, 61, 32, 45, 62, 32, 40, 32, 41, 32, 123, 32, 125, 32, 44, 32, 58, 32, 59, 32, 46, 32, 61, 32, 60, 32, 62, 32, 38, 32, 124, 32, 33]⟩] w fun e w' =>
    e = .returned (.slice (some ⟨w.heap.size, 0, none⟩) 18 18) ∧ w.alloc (.cells (signB.map Value.string).toArray 9) = w' := by
  have h := Any.strings_Fields_core { Tryd.laysM157 with } Tryd.laysM157.i9 signsC w (by decide) (fun j b hb => by
    have : ∀ b ∈ signsC.data.toList, b.toNat < 128 := by decide +kernel
    exact this b (List.mem_of_getElem? hb)) hG.sp
  have e1 : (Lib.fields signsC.data.toList).length = 18 := by decide +kernel
  have e2 : ((Lib.fields signsC.data.toList).map fun l => Value.string ⟨l.toArray⟩) = signB.map Value.string := by rw [← fields_signs, List.map_map]; rfl
  rw [e1, e2] at h
  exact h.mono fun e w' ⟨a, b⟩ => ⟨a, b.symm⟩

/-- The first of the signs that rest begins with. -/
def signOf (rest : List UInt8) : Option ByteArray := signB.find? fun p => Lib.hasPrefix rest p.data.toList

/-- b[:m], read and turned into a string. -/
theorem cut_to {w : World} {A : Option Addr} {c : Nat} {l : List Int} (h : Kd.C (Kd.int .u8) w A l.length l) (hc : l.length ≤ c) (m : Nat) (hm : m ≤ l.length) :
    (∀ W : World, (Instr.slice 22 (.slice A l.length c) none (some (.int .i64 (m : Int))) none).run Tryd.prog W = .ok (.slice A m c) W) ∧ Kd.C (Kd.int .u8) w A m (l.take m) := by
  have hl : (l.take m).length = m := by rw [List.length_take]; omega
  obtain ⟨i0, hi, _, hsz, _⟩ := info_parts info5
  obtain ⟨h1, h2, h3⟩ := print_take_of (P := Tryd.prog) (Value.int .u8) 0 22 5 .i64 Tryd.underlying22 hi hsz A c l (m : Int) (by omega) (by omega) hc
  rw [Int.toNat_natCast, hl] at h1
  have h4 := h2 w (Kd.reads_of_C h)
  rw [Int.toNat_natCast, hl] at h4
  exact ⟨h1, Kd.C_of_reads (h1 := fun _ => rfl) h4⟩

def lex_sign.f (l0 : List Int) : Option ByteArray := some ((signOf ((l0.take 2).map fun n => UInt8.ofNat n.toNat)).getD ⟨#[]⟩)
attribute [local go_sem] max2_int min2_int max_two min_two
theorem drop_find {p : ByteArray → Bool} (l : List ByteArray) (j : Nat) (h : j < l.length) : (p (l.getD j ⟨#[]⟩) = true → (l.drop j).find? p = some (l.getD j ⟨#[]⟩)) ∧ (p (l.getD j ⟨#[]⟩) = false → (l.drop j).find? p = (l.drop (j + 1)).find? p) := by
  rw [List.drop_eq_getElem_cons h, List.getD_eq_getElem?_getD, List.getElem?_eq_getElem h]
  constructor
  · intro hp; simp only [Option.getD_some] at hp ⊢; rw [List.find?_cons, hp]
  · intro hp; simp only [Option.getD_some] at hp ⊢; rw [List.find?_cons, hp]
theorem signOf_at (rest : List UInt8) (j : Nat) (h : j < 18) (H : (signB.drop j).find? (fun p => Lib.hasPrefix rest p.data.toList) = signOf rest) :
    (Lib.hasPrefix rest (signB.getD j ⟨#[]⟩).data.toList = true → (signOf rest).getD ⟨#[]⟩ = signB.getD j ⟨#[]⟩) ∧ (Lib.hasPrefix rest (signB.getD j ⟨#[]⟩).data.toList = false → (signB.drop (j + 1)).find? (fun p => Lib.hasPrefix rest p.data.toList) = signOf rest) := by
  obtain ⟨h1, h2⟩ := drop_find (p := fun p => Lib.hasPrefix rest p.data.toList) signB j h
  exact ⟨fun hp => by rw [← H, h1 hp]; rfl, fun hp => by rw [← h2 hp]; exact H⟩
theorem sign_cell (w : World) (j : Nat) (h : j < 18) : (w.alloc (.cells (signB.map Value.string).toArray 9)).cell? ⟨w.heap.size, j, none⟩ = some (.string (signB.getD j ⟨#[]⟩)) := by
  have hl : j < signB.length := h
  simp [List.getElem?_eq_getElem hl, List.getD_eq_getElem?_getD]

set_option maxHeartbeats 2000000 in
set_option maxRecDepth 100000 in
theorem sign_calls (A0 : Option Addr) (c0 : Nat) (l0 : List Int) (m : Nat) (hm : m ≤ l0.length) (w : World) (hG : Laid w) (hr0 : Kd.C (Kd.int .u8) w A0 l0.length l0) (hc0 : l0.length ≤ c0) (hmin : (m = 2 ∧ 2 ≤ l0.length) ∨ (m = l0.length ∧ l0.length < 2)) (RS : List UInt8) (hRS : (l0.take m).map (fun n => UInt8.ofNat n.toNat) = RS) (r : ByteArray) (hr : (signOf RS).getD ⟨#[]⟩ = r) :
    Calls Tryd.prog 31 #[.slice A0 l0.length c0] w fun e w' => e = .returned (.string r) ∧ Below w.heap.size w w' := by
  obtain ⟨_, hr1⟩ := cut_to hr0 hc0 m hm
  have hs1 := Kd.C_string (P := Tryd.prog) (w := w) (c := c0) Tryd.underlying22 Tryd.underlying5 Tryd.underlying9 hr1
  have HG := Lib.hid hG
  have hlen := hr0.2.1
  have HD := Lib.hid ((strOfNums_data (l0.take m)).trans hRS)
  generalize strOfNums (l0.take m) = S at HD hs1
  have HRR := Lib.hid hr
  clear hr1 hr0 hG hRS hr
  have hpre : ∀ (p : ByteArray) (W : World), Calls Tryd.prog 47 #[.string S, .string p] W fun e w' => e = .returned (.bool (Lib.hasPrefix RS p.data.toList)) ∧ W = w' := fun p W => by
    rw [← HD.out]
    exact (Tryd.strings_HasPrefix S p W).mono fun _ _ ⟨a, b⟩ => ⟨a, b.symm⟩
  have HP := Lib.hid hpre
  clear hpre HD
  rcases hmin with ⟨rfl, h2⟩ | ⟨rfl, h2⟩
  · have c1 : ¬ ((l0.length : Int) < 2) := by omega
    have c2 : ¬ ((c0 : Int) < 2) := by omega
    go_enter Tryd.func31, Tryd.ntmps31
    go_wp2
    go_step3
    go_wp2_with (go_at_call 46; refine (fields_calls _ HG.out).mono ?_; rintro e w1 ⟨rfl, rfl⟩)
    go_step3
    go_wp2
    go_loopg [16] 18 (fun gg s16 wr => ∃ j : Nat, j ≤ 18 ∧ 18 - j ≤ gg ∧ s16 = .int .i64 j ∧ wr = w.alloc (.cells (signB.map Value.string).toArray 9) ∧ Hid ((signB.drop j).find? (fun p => Lib.hasPrefix RS p.data.toList) = signOf RS))
    case atStart => exact ⟨0, by omega, by omega, rfl, rfl, Lib.hid rfl⟩
    case round =>
      obtain ⟨j, hj, hg, rfl, rfl, HJ⟩ := hrel
      by_cases hlt : j < 18
      · have hltz : (j : Int) < 18 := by omega
        have hx := sign_cell w j hlt
        have HX := Lib.hid (signOf_at RS j hlt HJ.out)
        generalize signB.getD j ⟨#[]⟩ = x at hx HX
        cases hq : Lib.hasPrefix RS x.data.toList with
        | true =>
          have HE := Lib.hid ((HX.out.1 hq).symm.trans HRR.out)
          go_wp2_with (go_at_call 47; refine (HP.out _ _).mono ?_; rw [hq]; rintro e w2 ⟨rfl, rfl⟩)
          rw [Exit.noGoto_ret]
          go_ret
          exact ⟨by rw [← HE.out]; rfl, (Below.refl _ _).alloc (Nat.le_refl _) _⟩
        | false =>
          have HE := Lib.hid (HX.out.2 hq)
          go_wp2_with (go_at_call 47; refine (HP.out _ _).mono ?_; rw [hq]; rintro e w2 ⟨rfl, rfl⟩)
          go_roundg (18 - (j + 1))
          case measure => omega
          case rel => exact ⟨j + 1, by omega, by omega, by go_num, rfl, HE⟩
      · have hltz : ¬ (j : Int) < 18 := by omega
        obtain rfl : j = 18 := by omega
        have HE := Lib.hid (HJ.out.symm)
        go_wp2
        go_ret
        exact ⟨by rw [← HRR.out, HE.out]; rfl, (Below.refl _ _).alloc (Nat.le_refl _) _⟩
  · have c1 : (l0.length : Int) < 2 := by omega
    have c2 : ¬ ((c0 : Int) < (l0.length : Int)) := by omega
    go_enter Tryd.func31, Tryd.ntmps31
    go_wp2
    go_step3
    go_wp2_with (go_at_call 46; refine (fields_calls _ HG.out).mono ?_; rintro e w1 ⟨rfl, rfl⟩)
    go_step3
    go_wp2
    go_loopg [16] 18 (fun gg s16 wr => ∃ j : Nat, j ≤ 18 ∧ 18 - j ≤ gg ∧ s16 = .int .i64 j ∧ wr = w.alloc (.cells (signB.map Value.string).toArray 9) ∧ Hid ((signB.drop j).find? (fun p => Lib.hasPrefix RS p.data.toList) = signOf RS))
    case atStart => exact ⟨0, by omega, by omega, rfl, rfl, Lib.hid rfl⟩
    case round =>
      obtain ⟨j, hj, hg, rfl, rfl, HJ⟩ := hrel
      by_cases hlt : j < 18
      · have hltz : (j : Int) < 18 := by omega
        have hx := sign_cell w j hlt
        have HX := Lib.hid (signOf_at RS j hlt HJ.out)
        generalize signB.getD j ⟨#[]⟩ = x at hx HX
        cases hq : Lib.hasPrefix RS x.data.toList with
        | true =>
          have HE := Lib.hid ((HX.out.1 hq).symm.trans HRR.out)
          go_wp2_with (go_at_call 47; refine (HP.out _ _).mono ?_; rw [hq]; rintro e w2 ⟨rfl, rfl⟩)
          rw [Exit.noGoto_ret]
          go_ret
          exact ⟨by rw [← HE.out]; rfl, (Below.refl _ _).alloc (Nat.le_refl _) _⟩
        | false =>
          have HE := Lib.hid (HX.out.2 hq)
          go_wp2_with (go_at_call 47; refine (HP.out _ _).mono ?_; rw [hq]; rintro e w2 ⟨rfl, rfl⟩)
          go_roundg (18 - (j + 1))
          case measure => omega
          case rel => exact ⟨j + 1, by omega, by omega, by go_num, rfl, HE⟩
      · have hltz : ¬ (j : Int) < 18 := by omega
        obtain rfl : j = 18 := by omega
        have HE := Lib.hid (HJ.out.symm)
        go_wp2
        go_ret
        exact ⟨by rw [← HRR.out, HE.out]; rfl, (Below.refl _ _).alloc (Nat.le_refl _) _⟩
theorem lex_sign.calls (A0 : Option Addr) (c0 : Nat) (l0 : List Int) (r : ByteArray) (w : World) (hG : Laid w) (hr0 : Kd.C (Kd.int .u8) w A0 l0.length l0) (hc0 : l0.length ≤ c0) (h : lex_sign.f l0 = some r) :
    Calls Tryd.prog 31 #[.slice A0 l0.length c0] w fun e w' => e = .returned (.string r) ∧ Below w.heap.size w w' := by
  have hr := Option.some.inj h
  by_cases h2 : 2 ≤ l0.length
  · exact sign_calls A0 c0 l0 2 h2 w hG hr0 hc0 (.inl ⟨rfl, h2⟩) _ rfl r hr
  · refine sign_calls A0 c0 l0 l0.length (Nat.le_refl _) w hG hr0 hc0 (.inr ⟨rfl, by omega⟩) _ rfl r ?_
    rw [List.take_of_length_le (Nat.le_refl _)]
    rwa [List.take_of_length_le (by omega)] at hr
end Go.Proofs.YtbnelajjadhcgaaDoor.G
