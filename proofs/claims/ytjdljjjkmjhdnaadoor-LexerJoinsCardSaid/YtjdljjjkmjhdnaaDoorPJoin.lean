/- What Join comes to on the plain lexer's tokens. -/
import Derived.Test.YtjdljjjkmjhdnaaDoorGJoin
import Derived.Test.YtjdljjjkmjhdnaaDoorPLex
namespace Go.Proofs.YtjdljjjkmjhdnaaDoor.Pure
open Go.RowKit Go.Proofs.YtjdljjjkmjhdnaaDoor Go.Proofs.YtjdljjjkmjhdnaaDoor.P Go.Proofs.YtjdljjjkmjhdnaaDoorW.PrintWords Go.Proofs.YtjdljjjkmjhdnaaDoorW.PrintLast
set_option linter.unusedVariables false
set_option linter.unusedSimpArgs false

theorem joinB_toS (L : List Lx.Tok) : joinB (L.map toS) = Lx.join L := by
  unfold joinB Lx.join
  rw [List.map_map]
  congr 1
theorem Join_f (L : List Lx.Tok) (h : (Lx.join L).length ≤ 140737488355328) : lexer_Join.f (L.map toS) = some ⟨(Lx.join L).toArray⟩ := by
  unfold lexer_Join.f
  rw [joinB_toS, if_pos h]

end Go.Proofs.YtjdljjjkmjhdnaaDoor.Pure
