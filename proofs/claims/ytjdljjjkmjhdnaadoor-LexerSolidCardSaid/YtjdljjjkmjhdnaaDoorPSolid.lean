/- What the printed Solid comes to: the plain filter. -/
import Derived.Test.YtjdljjjkmjhdnaaDoorPx9
import Derived.Test.YtjdljjjkmjhdnaaDoorPLex
namespace Go.Proofs.YtjdljjjkmjhdnaaDoor.Pure
open Go.RowKit Go.Proofs.YtjdljjjkmjhdnaaDoor Go.Proofs.YtjdljjjkmjhdnaaDoor.P Go.Proofs.YtjdljjjkmjhdnaaDoorW.PrintWords Go.Proofs.YtjdljjjkmjhdnaaDoorW.PrintLast
set_option linter.unusedVariables false
set_option linter.unusedSimpArgs false

def solidS (x : S33) : Bool := decide (x.f0 ≠ 4) && decide (x.f0 ≠ 5)

theorem Solid_l0 (l : List S33) (hl : l.length ≤ 100000) (d : Nat) : ∀ (k i : Nat) (acc : List S33), i + d = l.length → d < k → acc.length ≤ i →
    lexer_Solid.l0 k acc l (l.length : Int) (i : Int) = some (acc ++ (l.drop i).filter solidS) := by
  induction d with
  | zero =>
    intro k i acc hi hk ha
    obtain ⟨k, rfl⟩ : ∃ m, k = m + 1 := ⟨k - 1, by omega⟩
    simp only [lexer_Solid.l0]
    rw [if_neg (by omega), List.drop_of_length_le (by omega)]
    simp
  | succ d ih =>
    intro k i acc hi hk ha
    obtain ⟨k, rfl⟩ : ∃ m, k = m + 1 := ⟨k - 1, by omega⟩
    have hlt : i < l.length := by omega
    simp only [lexer_Solid.l0]
    rw [if_pos (by omega), if_pos (by omega), if_pos (by omega), rd_at _ i hlt]
    rw [show wrap64 ((i : Int) + 1) = ((i + 1 : Nat) : Int) by unfold wrap64; omega]
    rw [List.drop_eq_getElem_cons hlt, List.filter_cons]
    by_cases h4 : l[i].f0 = 4
    · rw [if_pos h4, ih k (i + 1) acc (by omega) (by omega) (by omega), if_neg (by simp [solidS, h4])]
    · rw [if_neg h4]
      by_cases h5 : l[i].f0 = 5
      · rw [if_pos h5, ih k (i + 1) acc (by omega) (by omega) (by omega), if_neg (by simp [solidS, h5])]
      · rw [if_neg h5, if_pos (by omega), ih k (i + 1) _ (by omega) (by omega) (by simp; omega), if_pos (by simp [solidS, h4, h5])]
        simp

theorem solidS_toS (t : Lx.Tok) : solidS (toS t) = Lx.solidT t := by
  have h4 : ((toS t).f0 ≠ 4) ↔ t.kind ≠ 4 := by simp only [toS]; omega
  have h5 : ((toS t).f0 ≠ 5) ↔ t.kind ≠ 5 := by simp only [toS]; omega
  show (decide _ && decide _) = (decide _ && decide _)
  rw [decide_eq_decide.2 h4, decide_eq_decide.2 h5]

theorem Solid_any (l : List S33) (hl : l.length ≤ 100000) (k : Nat) (hk : l.length < k) : lexer_Solid.f k l = some (l.filter solidS) := by
  unfold lexer_Solid.f
  have := Solid_l0 l hl l.length k 0 [] (by omega) hk (by simp)
  rw [List.drop_zero] at this
  exact this

theorem Solid_f (L : List Lx.Tok) (hl : L.length ≤ 100000) (k : Nat) (hk : L.length < k) : lexer_Solid.f k (L.map toS) = some ((Lx.solid L).map toS) := by
  rw [Solid_any _ (by rw [List.length_map]; exact hl) k (by rw [List.length_map]; exact hk), List.filter_map]
  congr 2
  unfold Lx.solid
  congr 1
  funext t
  exact solidS_toS t

theorem chain_len : ∀ (l : List Lx.Tok) (p : Nat), Lx.chain p l → l.length ≤ (Lx.join l).length := by
  intro l
  induction l with
  | nil => intro p _; simp
  | cons a l ih =>
    intro p h
    have h1 := ih _ h.2.2
    have hpos : 0 < a.text.length := List.length_pos_iff.2 h.2.1
    have e : Lx.join (a :: l) = a.text ++ Lx.join l := by simp [Lx.join]
    rw [e, List.length_append, List.length_cons]
    omega
theorem lex_len (s : List UInt8) (L : List Lx.Tok) (h : Lx.lex s = .ok L) : L.length ≤ s.length := by
  have := chain_len L 0 (Lx.lexp_chain _ _ _ h)
  rwa [Lx.lexp_join _ _ _ h] at this

end Go.Proofs.YtjdljjjkmjhdnaaDoor.Pure
