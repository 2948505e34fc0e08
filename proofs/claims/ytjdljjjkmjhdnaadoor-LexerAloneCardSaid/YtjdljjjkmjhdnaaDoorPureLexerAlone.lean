/- The plain statement of LexerAlone: the text of a token consists of that token alone. -/
import Derived.Test.YtjdljjjkmjhdnaaDoorPx7
import Derived.Test.YtjdljjjkmjhdnaaDoorPLex
namespace Go.Proofs.YtjdljjjkmjhdnaaDoor.Pure
open Go.RowKit Go.Proofs.YtjdljjjkmjhdnaaDoor Go.Proofs.YtjdljjjkmjhdnaaDoor.P Go.Proofs.YtjdljjjkmjhdnaaDoorW.PrintWords Go.Proofs.YtjdljjjkmjhdnaaDoorW.PrintLast
set_option linter.unusedVariables false
set_option linter.unusedSimpArgs false

theorem alone_awake (k : Nat) (hk : 20 < k) (a1 : Int) (l : List S33) : ontimelaw11_LexerAlone.j0 k a1 l true = some true := by
  obtain ⟨k, rfl⟩ : ∃ m, k = m + 1 := ⟨k - 1, by omega⟩
  simp only [ontimelaw11_LexerAlone.j0]
  rw [if_pos trivial, awake_f k (by omega)]
  rfl

theorem LexerAlone : ontimelaw11_LexerAlone.Pure := by
  intro s a1 hs ha
  have hr := u8_range ha
  refine ⟨100000, ?_⟩
  unfold ontimelaw11_LexerAlone.f
  by_cases h0 : 65536 < s.size
  · rw [Lex_long s h0]
    simp only [Option.bind_some]
    rw [awake_f _ (by decide)]
    simp only [Option.bind_some, if_true]
    rw [if_pos (by omega)]
    exact alone_awake 100000 (by decide) _ _
  · rw [Lex_f s (by omega) _ (by omega)]
    simp only [Option.bind_some]
    rw [awake_f _ (by decide)]
    simp only [Option.bind_some, if_true]
    by_cases h1 : s.size ≤ 600
    · rw [if_neg (by omega)]
      cases hl : Lx.lex s.data.toList with
      | error e =>
        rw [res_err]
        exact alone_awake 100000 (by decide) _ _
      | ok l =>
        rw [res_ok]
        simp only [resS, List.nil_append]
        cases l with
        | nil => exact alone_awake 100000 (by decide) _ _
        | cons t0 l0 =>
          generalize hL : t0 :: l0 = L at *
          have hpos : 0 < (L.map toS).length := by rw [← hL]; simp
          rw [show (((L.map toS).length : Int) == 0) = false from beq_eq_false_iff_ne.2 (by omega)]
          simp only [ontimelaw11_LexerAlone.j0]
          rw [if_neg (by decide), if_neg (by omega)]
          rw [show wrap64 a1 = a1 by unfold wrap64; omega]
          obtain ⟨i, hi, e⟩ := tmod_nat a1 hr.1 _ hpos
          rw [e, if_pos (by omega), if_pos (by omega), rd_at _ i hi]
          have hi' : i < L.length := by simpa using hi
          have hm : L[i] ∈ L := List.getElem_mem hi'
          have ha := Lx.lexp_alone _ _ _ hl _ hm
          have hsz : L[i].text.length ≤ 600 := by
            have hj := Lx.lexp_join _ _ _ hl
            have := text_le_join L _ hm
            rw [hj, size_list] at this
            omega
          simp only [List.getElem_map, toS]
          rw [Lex_f _ (by rw [size_mk]; omega) _ (by rw [size_mk]; omega)]
          simp only [Option.bind_some]
          have ha2 : Lx.lex L[i].text = .ok [{ L[i] with pos := 0 }] := ha
          rw [ha2]
          simp [resS, toS, rd_T33]
    · rw [if_pos (by omega)]
      exact alone_awake 100000 (by decide) _ _

end Go.Proofs.YtjdljjjkmjhdnaaDoor.Pure
