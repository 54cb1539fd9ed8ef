import Derived.Test.YtbnelajjadhcgaaDoorGx0
import Derived.Lib.Space
namespace Go.Proofs.YtbnelajjadhcgaaDoor.G
open Go.RowKit Go.Proofs.YtbnelajjadhcgaaDoorW.PrintWords Go.Proofs.YtbnelajjadhcgaaDoorW.PrintLast Go.Proofs.YtbnelajjadhcgaaDoorW.PrintMore

/-- What the walks ask of the package-level variables: strings' table of spaces, strconv's error variable. -/
structure Laid (w : World) : Prop where
  sp : ∀ c : Nat, c < 256 → w.cell? ⟨0, c, none⟩ = some (.int .u8 (if Lib.isSp (UInt8.ofNat c) then 1 else 0))
  rg : ∃ te pe, w.cell? ⟨4, 0, none⟩ = some (.iface te pe)
theorem Laid.below {w w1 : World} (h : Laid w) (hb : Below w.heap.size w w1) : Laid w1 := by
  obtain ⟨te, pe, hr⟩ := h.rg
  exact ⟨fun c hc => pw_cell_below hb (h.sp c hc), te, pe, pw_cell_below hb hr⟩
theorem Laid.alloc {w : World} (h : Laid w) (o : Obj) : Laid (w.alloc o) := h.below ((Below.refl _ _).alloc (Nat.le_refl _) o)
theorem Laid.drewN {w : World} (h : Laid w) (n : Nat) : Laid (w.drewN n) := h.below (pw_below_drewN (Below.refl _ _) n)
theorem Laid.drew {w : World} (h : Laid w) : Laid w.drew := h.below (below_drew (Below.refl _ _))
end Go.Proofs.YtbnelajjadhcgaaDoor.G
