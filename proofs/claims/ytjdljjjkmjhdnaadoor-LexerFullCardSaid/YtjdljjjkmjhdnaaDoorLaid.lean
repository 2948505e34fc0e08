/- What the calls read of the library's variables: the table of white space bytes, as its initialiser lays it. -/
import Derived.Test.YtjdljjjkmjhdnaaDoorProg
import Derived.Test.YtjdljjjkmjhdnaaDoorWWords
import Derived.Lib.FieldsLaws
import Derived.Lib.LaidTab
import Derived.Shelf.Strings.Fields
import Derived.WalkSmall
namespace Go.Proofs.YtjdljjjkmjhdnaaDoor
open Go.RowKit
set_option linter.unusedVariables false
set_option linter.unusedSimpArgs false

/-- The library's table of white space is laid in w. -/
structure Laid (w : World) : Prop where mk :: (tab : Lib.TabIs Tryd.prog w "strings.asciiSpace" .u8 Lib.asciiSpaceTab)

theorem asciiSpace_global : Tryd.prog.globalNamed "strings.asciiSpace" = some 0 := by kernel_rfl

theorem Laid.at_ {w : World} (h : Laid w) (c : Nat) (hc : c < 256) : w.cell? ⟨0, c, none⟩ = some (.int .u8 (if Lib.isSp (UInt8.ofNat c) then 1 else 0)) := by
  rw [h.tab.cell asciiSpace_global c (by rw [Lib.asciiSpaceTab_length]; exact hc), Lib.asciiSpaceTab_at c hc]

theorem Laid.block {w : World} (h : Laid w) : 0 < w.heap.size := World.block_lt_of_cell? _ _ (h.at_ 0 (by decide))

theorem Laid.below {w W : World} (h : Laid w) (hb : Below w.heap.size w W) : Laid W := ⟨var?_below hb asciiSpace_global h.block h.tab⟩

end Go.Proofs.YtjdljjjkmjhdnaaDoor
