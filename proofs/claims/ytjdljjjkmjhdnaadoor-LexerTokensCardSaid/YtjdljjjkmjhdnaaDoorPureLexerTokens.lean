/- The plain statement of LexerTokens: the tokens of any text, or the offset and the error, are those of the reference. -/
import Derived.Test.YtjdljjjkmjhdnaaDoorPx6
import Derived.Test.YtjdljjjkmjhdnaaDoorPRef11
namespace Go.Proofs.YtjdljjjkmjhdnaaDoor.Pure
open Go.RowKit Go.Proofs.YtjdljjjkmjhdnaaDoor Go.Proofs.YtjdljjjkmjhdnaaDoor.P Go.Proofs.YtjdljjjkmjhdnaaDoorW.PrintWords Go.Proofs.YtjdljjjkmjhdnaaDoorW.PrintLast
set_option linter.unusedVariables false
set_option linter.unusedSimpArgs false

theorem same_l0 (L : List Lx.Tok) (hL : L.length ≤ 70000) (d : Nat) : ∀ (k i : Nat), i + d = L.length → d < k →
    ontimelaw11_same.l0 k (L.map toS) (L.map toR) ((L.map toS).length : Int) (i : Int) = some true := by
  induction d with
  | zero =>
    intro k i hi hk
    obtain ⟨k, rfl⟩ : ∃ m, k = m + 1 := ⟨k - 1, by omega⟩
    simp only [ontimelaw11_same.l0]
    rw [if_neg (by simp; omega)]
  | succ d ih =>
    intro k i hi hk
    obtain ⟨k, rfl⟩ : ∃ m, k = m + 1 := ⟨k - 1, by omega⟩
    have hlt : i < L.length := by omega
    have l1 : (L.map toS).length = L.length := by simp
    have l2 : (L.map toR).length = L.length := by simp
    have r1 : rd_T33 (L.map toS) (i : Int) = toS L[i] := by rw [rd_at _ i (by rw [l1]; exact hlt), List.getElem_map]
    have r2 : rd_T48 (L.map toR) (i : Int) = toR L[i] := by
      simp [rd_T48, List.getD_eq_getElem?_getD, List.getElem?_eq_getElem hlt]
    have c1 : (i : Int) < ((L.map toS).length : Int) := by rw [l1]; omega
    have c2 : (0 : Int) ≤ (i : Int) := by omega
    have c3 : (i : Int) < ((L.map toR).length : Int) := by rw [l2]; omega
    have hih := ih k (i + 1) (by omega) (by omega)
    simp only [ontimelaw11_same.l0]
    rw [if_pos c1, if_pos c2, if_pos c1, if_pos c3, r1, r2]
    rw [if_pos (show (toS L[i]).f0 = (toR L[i]).f0 from rfl), if_pos (show (toS L[i]).f1.toList = (toR L[i]).f1.toList from rfl), if_pos (show (toS L[i]).f2 = (toR L[i]).f2 from rfl)]
    rw [show wrap64 ((i : Int) + 1) = ((i + 1 : Nat) : Int) by unfold wrap64; omega]
    exact hih

theorem same_f (L : List Lx.Tok) (hL : L.length ≤ 70000) (k : Nat) (hk : L.length < k) : ontimelaw11_same.f k (L.map toS) (L.map toR) = some true := by
  unfold ontimelaw11_same.f
  rw [if_pos (by simp)]
  have := same_l0 L hL L.length k 0 (by omega) hk
  rw [Int.natCast_zero] at this
  exact this

theorem LexerTokens : ontimelaw11_LexerTokens.Pure := by
  intro s hs
  refine ⟨1000000, ?_⟩
  unfold ontimelaw11_LexerTokens.f
  rw [awake_f _ (by decide)]
  simp only [Option.bind_some, if_true]
  by_cases h1 : s.size ≤ 150
  · rw [decide_eq_false (show ¬ ((s.size : Int) > 150) by omega)]
    simp only [ontimelaw11_LexerTokens.j0]
    rw [if_neg (by decide), Lex_f s (by omega) _ (by omega), ref_Lex_f s (by omega) _ (by omega)]
    simp only [Option.bind_some]
    cases hl : Lx.lex s.data.toList with
    | error e =>
      rw [if_pos (show (resS [] (.error e)).2.2 = (resR [] (.error e)).2.2 from rfl), if_pos (show (resS [] (.error e)).2.1 = (resR [] (.error e)).2.1 from rfl)]
      have e1 : (resS [] (.error e)).1 = ([] : List Lx.Tok).map toS := rfl
      have e2 : (resR [] (.error e)).1 = ([] : List Lx.Tok).map toR := rfl
      rw [e1, e2, same_f [] (by decide) 999999 (by decide)]
      rfl
    | ok L =>
      rw [if_pos (show (resS [] (.ok L)).2.2 = (resR [] (.ok L)).2.2 from rfl), if_pos (show (resS [] (.ok L)).2.1 = (resR [] (.ok L)).2.1 from rfl)]
      have e1 : (resS [] (.ok L)).1 = L.map toS := by simp [resS]
      have e2 : (resR [] (.ok L)).1 = L.map toR := by simp [resR]
      have hll : L.length ≤ 700 := by
        have h7 : ∀ (l : List Lx.Tok) (p : Nat), Lx.chain p l → l.length ≤ (Lx.join l).length := by
          intro l
          induction l with
          | nil => intro p _; simp
          | cons a l ih =>
            intro p h
            have h1 := ih _ h.2.2
            have hpos : 0 < a.text.length := List.length_pos_iff.2 h.2.1
            have e : Lx.join (a :: l) = a.text ++ Lx.join l := by simp [Lx.join]
            rw [e, List.length_append, List.length_cons]
            omega
        have := h7 L 0 (Lx.lexp_chain _ _ _ hl)
        rw [Lx.lexp_join _ _ _ hl, size_list] at this
        omega
      rw [e1, e2]
      rw [same_f L (by omega) 999999 (by omega)]
      rfl
  · rw [decide_eq_true (show ((s.size : Int) > 150) by omega)]
    simp only [ontimelaw11_LexerTokens.j0]
    rw [if_pos trivial, awake_f _ (by decide)]
    rfl

end Go.Proofs.YtjdljjjkmjhdnaaDoor.Pure
