-- What the row's listed package-level variables give the walks of the lex laws.
import Derived.Test.YtbnelajjadhcgaaDoorRows
import Derived.Test.YtbnelajjadhcgaaDoorLaid
import Derived.Lib.LaidTab
import Derived.Lib.LaidU8
import Derived.LaidSub
import Derived.Stop.LaidErr
import Derived.MakeChecks
import Derived.ChangeAt
namespace Go.Proofs.YtbnelajjadhcgaaDoor.G
open Go.ChangeShapes Go.WideShapes Go.ChangeAt Go.RowKit

theorem gSp : Tryd.prog.globalNamed "strings.asciiSpace" = some 0 := by kernel_rfl
theorem gSpType : (Tryd.prog.globals[0]?).map (·.type) = some 67 := by kernel_rfl
theorem gSpCells : Tryd.prog.cellsOf 67 = 256 := by kernel_rfl
theorem gU8Cells : Tryd.prog.cellsOf 5 = 1 := by kernel_rfl
theorem gRg : Tryd.prog.globalNamed "strconv.ErrRange" = some 4 := by kernel_rfl
theorem gRgType : (Tryd.prog.globals[4]?).map (·.type) = some 58 := by kernel_rfl
theorem gErrCells : Tryd.prog.cellsOf 108 = 1 := by kernel_rfl
theorem gStrCells : Tryd.prog.cellsOf 9 = 1 := by kernel_rfl
theorem errStar : "*" ++ "errors.errorString" = "*errors.errorString" := by decide
theorem errRow (u : TypeId) (h : Tryd.prog.typeName? 3 u = some "*errors.errorString") : u = 106 :=
  typeName_ptr_named (nm := "errors.errorString") (by rw [errStar]; kernel_rfl) (by kernel_rfl) (by decide) u (by rw [errStar]; exact h)
def spaces : List Int := (List.range 256).map fun c => if Lib.isSp (UInt8.ofNat c) then 1 else 0
theorem spaces_row : Rows.laid_strings_asciiSpace (H := Unit) = Lib.tabData .u8 spaces := by kernel_rfl
theorem spaces_at (c : Nat) (h : c < 256) : spaces.getD c 0 = if Lib.isSp (UInt8.ofNat c) then 1 else 0 := by
  simp [spaces, List.getD_eq_getElem?_getD, h]
/-- The list of the lex rows. -/
abbrev lexLaid : List (String × DataW Unit) := Rows.lexRunsRow.laid
theorem laid_of {W : World} (h0 : laidMetH Tryd.prog lexLaid W) : Laid W := by
  have h : laidMet Tryd.prog lexLaid W := by
    rw [MakeChecks.laidMetH_plain _ _ _ (by kernel_rfl)] at h0
    exact h0
  refine ⟨fun c hc => ?_, ?_⟩
  · have h2 : laidMet Tryd.prog [("strings.asciiSpace", Lib.tabData .u8 spaces)] W := by
      have := h.tail.tail.tail.tail.tail.tail
      rw [← spaces_row]
      exact this
    have h3 := Lib.tabIs_of_head (rest := []) gSp gSpType Tryd.underlying67 Tryd.underlying5 gU8Cells gSpCells h2
    have := h3.cell gSp c (by show c < spaces.length; simp [spaces]; exact hc)
    rw [this, spaces_at c hc]
  · obtain ⟨a, s, hv, _, _, _⟩ := laid_sentinel (te := 108) h.tail.tail.tail gRg gRgType Tryd.underlying58 errRow Tryd.underlying106 Tryd.underlying108 rfl rfl Tryd.underlying9 gErrCells gStrCells
    exact ⟨_, _, by simpa using World.var?_cell gRg hv 0⟩
end Go.Proofs.YtbnelajjadhcgaaDoor.G
