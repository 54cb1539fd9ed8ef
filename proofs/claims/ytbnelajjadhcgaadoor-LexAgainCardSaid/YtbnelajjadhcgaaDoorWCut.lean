-- b[a:b], read.
import Derived.Test.YtbnelajjadhcgaaDoorGx0
namespace Go.Proofs.YtbnelajjadhcgaaDoor.G
set_option linter.unusedVariables false
set_option linter.unusedSimpArgs false
open Go.RowKit Go.Proofs.YtbnelajjadhcgaaDoorW.PrintWords Go.Proofs.YtbnelajjadhcgaaDoorW.PrintLast Go.Proofs.YtbnelajjadhcgaaDoorW.PrintMore

/-- b[a:b], read. -/
theorem cut_mid {A : Option Addr} {c : Nat} {l : List Int} (hc : l.length ≤ c) (a b : Nat) (ha : a ≤ b) (hb : b ≤ l.length) :
    ∃ A1 : Option Addr, (∀ W : World, (Instr.slice 22 (.slice A l.length c) (some (.int .i64 (a : Int))) (some (.int .i64 (b : Int))) none).run Tryd.prog W = .ok (.slice A1 ((l.take b).drop a).length (c - a)) W) ∧
      (∀ W : World, Kd.C (Kd.int .u8) W A l.length l → Kd.C (Kd.int .u8) W A1 ((l.take b).drop a).length ((l.take b).drop a)) ∧ ((l.take b).drop a).length ≤ c - a := by
  obtain ⟨i0, hi, _, hsz, _⟩ := info_parts info5
  obtain ⟨A1, h1, h2, h3⟩ := print_mid_of (P := Tryd.prog) (Value.int .u8) 0 22 5 .i64 .i64 Tryd.underlying22 hi hsz A c l (a : Int) (b : Int) (by omega) (by omega) (by omega) hc
  rw [Int.toNat_natCast] at h1 h2 h3
  try rw [Int.toNat_natCast] at h1
  try rw [Int.toNat_natCast] at h2
  try rw [Int.toNat_natCast] at h3
  have hlen : ((l.take b).drop a).length = b - a := by rw [List.length_drop, List.length_take]; omega
  refine ⟨A1, fun W => ?_, fun W h => Kd.C_of_reads (h1 := fun _ => rfl) (h2 W (Kd.reads_of_C h)), ?_⟩
  · exact h1 W
  · exact h3

end Go.Proofs.YtbnelajjadhcgaaDoor.G
