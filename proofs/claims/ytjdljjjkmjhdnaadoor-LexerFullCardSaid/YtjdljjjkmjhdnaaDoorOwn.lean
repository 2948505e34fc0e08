/- What all rows of this seat share: the heap that the program's own start leaves meets the listed variables, and what they give a walk. -/
import Derived.Test.YtjdljjjkmjhdnaaDoorRows
import Derived.Test.YtjdljjjkmjhdnaaDoorLaid
import Derived.ProofKit
import Derived.LaidMore
import Derived.Stop.Joined
import Derived.Stop.LaidErr
namespace Go.Proofs.YtjdljjjkmjhdnaaDoor
open Go.ChangeShapes Go.WideShapes Go.ChangeAt Go.RowKit
theorem own : ownKnob Tryd.prog.godebug = none := by kernel_rfl
theorem spaceType : (Tryd.prog.globals[0]?).map (·.type) = some 67 := by kernel_rfl
theorem spaceTab : (Rows.laid_strings_asciiSpace : DataW Unit) = Lib.tabData .u8 Lib.asciiSpaceTab := by kernel_rfl
abbrev laidList : List (String × DataW Unit) := [("unicode.White_Space", Rows.laid_unicode_White_Space), ("strings.asciiSpace", Rows.laid_strings_asciiSpace)]
theorem door_met (os : Os) (args : Array Value) : laidMetH Tryd.prog laidList ((World.doorLaid Tryd.prog 400 os).forCall (fun _ _ => 0) ⟨#[], args, []⟩).memory :=
  laidMetH_of_parts3 (fuel := 8) (laidMet_of_run' 8 (by kernel_rfl) (by kernel_rfl)) (by kernel_rfl) (by kernel_rfl)
theorem laid_of {W : World} (h : laidMetH Tryd.prog laidList W) : Laid W := by
  rw [MakeChecks.laidMetH_plain _ _ _ (by kernel_rfl)] at h
  have h1 := laidMet.tail (h)
  rw [spaceTab] at h1
  exact ⟨Lib.tabIs_of_head asciiSpace_global spaceType Tryd.underlying67 Tryd.underlying5 (by kernel_rfl) (by kernel_rfl) h1⟩
end Go.Proofs.YtjdljjjkmjhdnaaDoor
