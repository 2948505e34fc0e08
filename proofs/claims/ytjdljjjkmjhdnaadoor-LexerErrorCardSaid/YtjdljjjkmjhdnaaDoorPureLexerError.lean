/- The plain statement of LexerError: the bytes before the offset of an error are tokens, and no token starts there. -/
import Derived.Test.YtjdljjjkmjhdnaaDoorPx14
import Derived.Test.YtjdljjjkmjhdnaaDoorPJoin
import Derived.Test.YtjdljjjkmjhdnaaDoorPLex
namespace Go.Proofs.YtjdljjjkmjhdnaaDoor.Pure
open Go.RowKit Go.Proofs.YtjdljjjkmjhdnaaDoor Go.Proofs.YtjdljjjkmjhdnaaDoor.P Go.Proofs.YtjdljjjkmjhdnaaDoorW.PrintWords Go.Proofs.YtjdljjjkmjhdnaaDoorW.PrintLast
set_option linter.unusedVariables false
set_option linter.unusedSimpArgs false

theorem error_awake (k : Nat) (hk : 20 < k) (s : ByteArray) (x4 x5 : Int) : ontimelaw11_LexerError.j0 k s x4 x5 true = some true := by
  obtain ⟨k, rfl⟩ : ∃ m, k = m + 1 := ⟨k - 1, by omega⟩
  simp only [ontimelaw11_LexerError.j0]
  rw [if_pos trivial, awake_f k (by omega)]
  rfl

theorem LexerError : ontimelaw11_LexerError.Pure := by
  intro s hs
  refine ⟨100000, ?_⟩
  unfold ontimelaw11_LexerError.f
  by_cases h0 : 65536 < s.size
  · rw [Lex_long s h0]
    simp only [Option.bind_some]
    rw [awake_f _ (by decide)]
    simp only [Option.bind_some, if_true]
    rw [if_pos (by omega)]
    exact error_awake 100000 (by decide) _ _ _
  · rw [Lex_f s (by omega) _ (by omega)]
    simp only [Option.bind_some]
    rw [awake_f _ (by decide)]
    simp only [Option.bind_some, if_true]
    by_cases h1 : s.size ≤ 600
    · rw [if_neg (by omega)]
      cases hl : Lx.lex s.data.toList with
      | ok l => exact error_awake 100000 (by decide) _ _ _
      | error e =>
        obtain ⟨d, rfl, hd, h4, hne, l, hok⟩ := Lx.lexp_bad _ _ _ hl
        rw [size_list] at hd
        have h2 : (resS [] (.error (0 + d))).2.2 = 3 := rfl
        have h3 : (resS [] (.error (0 + d))).2.1 = (d : Int) := by simp [resS]
        rw [h2, h3]
        simp only [ontimelaw11_LexerError.j0]
        rw [if_neg (by decide), if_pos (by trivial), if_neg (by omega), decide_eq_false (by omega)]
        simp only [ontimelaw11_LexerError.j1]
        rw [if_neg (by decide), if_pos (by omega), if_pos (by omega)]
        simp only [Int.toNat_natCast]
        have e1 : (s.extract 0 d).data.toList = s.data.toList.take d := by rw [Lib.extract_data]; simp
        have e2 : (s.extract d s.size).data.toList = s.data.toList.drop d := Lib.extract_to_end s d
        have z1 : (s.extract 0 d).size ≤ 600 := by rw [Lib.size_eq, e1, List.length_take]; omega
        have z2 : (s.extract d s.size).size ≤ 600 := by rw [Lib.size_eq, e2, List.length_drop, size_list]; omega
        rw [Lex_f _ (by omega) _ (by omega), Lex_f _ (by omega) _ (by omega), e1, e2]
        have q1 : Lx.lex (s.data.toList.take d) = .ok l := hok
        have q2 : Lx.lex (s.data.toList.drop d) = .error 0 := Lx.lexp_error _ 0 hne h4
        rw [q1, q2]
        simp only [Option.bind_some]
        rw [res_ok]
        have hj := Lx.lexp_join _ _ _ hok
        have q3 : (resS [] (.ok l)).1 = l.map toS := by simp [resS]
        rw [q3, Join_f l (by rw [hj, List.length_take]; omega)]
        simp only [Option.bind_some]
        rw [if_pos (by rw [hj, Lib.toList_data, Lib.toList_data, e1])]
        rfl
    · rw [if_pos (by omega)]
      exact error_awake 100000 (by decide) _ _ _

end Go.Proofs.YtjdljjjkmjhdnaaDoor.Pure
