/- The plain statement of LexerJoins: joining the tokens of a text yields the text; each starts where the one before it ends, and is not empty. -/
import Derived.Test.YtjdljjjkmjhdnaaDoorPx13
import Derived.Test.YtjdljjjkmjhdnaaDoorPJoin
import Derived.Test.YtjdljjjkmjhdnaaDoorPLex
namespace Go.Proofs.YtjdljjjkmjhdnaaDoor.Pure
open Go.RowKit Go.Proofs.YtjdljjjkmjhdnaaDoor Go.Proofs.YtjdljjjkmjhdnaaDoor.P Go.Proofs.YtjdljjjkmjhdnaaDoorW.PrintWords Go.Proofs.YtjdljjjkmjhdnaaDoorW.PrintLast
set_option linter.unusedVariables false
set_option linter.unusedSimpArgs false

theorem joins_awake (k : Nat) (hk : 20 < k) (s : ByteArray) : ontimelaw11_LexerJoins.j0 k s true = some true := by
  obtain ⟨k, rfl⟩ : ∃ m, k = m + 1 := ⟨k - 1, by omega⟩
  simp only [ontimelaw11_LexerJoins.j0]
  rw [if_pos trivial, awake_f k (by omega)]
  rfl

theorem length_le_join (l : List Lx.Tok) : ∀ p, Lx.chain p l → l.length ≤ (Lx.join l).length := by
  induction l with
  | nil => intro p _; simp
  | cons a l ih =>
    intro p h
    have h1 := ih _ h.2.2
    have hpos : 0 < a.text.length := List.length_pos_iff.2 h.2.1
    have e : Lx.join (a :: l) = a.text ++ Lx.join l := by simp [Lx.join]
    rw [e, List.length_append, List.length_cons]
    omega

theorem joins_l0 (s : ByteArray) (hs : s.size ≤ 600) (L : List Lx.Tok) (hj : Lx.join L = s.data.toList) (hl : L.length ≤ 600) (d : Nat) : ∀ (k i e : Nat), i + d = L.length → d < k → Lx.chain e (L.drop i) → e + (Lx.join (L.drop i)).length ≤ 600 →
    ontimelaw11_LexerJoins.l0 k s (L.map toS) 0 (e : Int) (L.map toS) ((L.map toS).length : Int) (i : Int) = some true := by
  induction d with
  | zero =>
    intro k i e hi hk hc he
    obtain ⟨k, rfl⟩ : ∃ m, k = m + 1 := ⟨k - 1, by omega⟩
    simp only [ontimelaw11_LexerJoins.l0]
    rw [if_neg (by simp; omega), if_pos trivial, Join_f L (by rw [hj, size_list]; omega)]
    simp only [Option.bind_some]
    rw [hj, Lib.toList_data]
    simp [Lib.toList_data]
  | succ d ih =>
    intro k i e hi hk hc he
    obtain ⟨k, rfl⟩ : ∃ m, k = m + 1 := ⟨k - 1, by omega⟩
    have hlt : i < L.length := by omega
    have hdrop : L.drop i = L[i] :: L.drop (i + 1) := List.drop_eq_getElem_cons hlt
    rw [hdrop] at hc he
    obtain ⟨hp, hne, hc'⟩ := hc
    have hjl : Lx.join (L[i] :: L.drop (i + 1)) = L[i].text ++ Lx.join (L.drop (i + 1)) := rfl
    rw [hjl, List.length_append] at he
    have hlen : (L.map toS).length = L.length := by simp
    have hr : rd_T33 (L.map toS) (i : Int) = toS L[i] := by rw [rd_at _ i (by rw [hlen]; exact hlt)]; simp
    simp only [ontimelaw11_LexerJoins.l0]
    rw [if_pos (by rw [hlen]; omega), if_pos (by omega), if_pos (by rw [hlen]; omega), hr]
    rw [if_pos (show (toS L[i]).f2 = (e : Int) by simp [toS, hp])]
    rw [if_neg (show ¬ (toS L[i]).f1.toList = [] by simp [toS, Lib.toList_data]; exact hne)]
    rw [show wrap64 ((e : Int) + ((toS L[i]).f1.size : Int)) = ((e + L[i].text.length : Nat) : Int) by
      rw [show (toS L[i]).f1.size = L[i].text.length from size_mk _]; unfold wrap64; omega]
    rw [show wrap64 ((i : Int) + 1) = ((i + 1 : Nat) : Int) by unfold wrap64; omega]
    exact ih k (i + 1) (e + L[i].text.length) (by omega) (by omega) hc' (by omega)

theorem LexerJoins : ontimelaw11_LexerJoins.Pure := by
  intro s hs
  refine ⟨100000, ?_⟩
  unfold ontimelaw11_LexerJoins.f
  rw [awake_f _ (by decide)]
  simp only [Option.bind_some, if_true]
  by_cases h1 : s.size ≤ 600
  · rw [show decide ((s.size : Int) > 600) = false from decide_eq_false (by omega)]
    simp only [ontimelaw11_LexerJoins.j0]
    rw [if_neg (by decide), Lex_f s (by omega) _ (by omega)]
    simp only [Option.bind_some]
    cases hl : Lx.lex s.data.toList with
    | error e =>
      rw [res_err]
      obtain ⟨d, rfl, hd, _⟩ := Lx.lexp_bad _ _ _ hl
      rw [size_list] at hd
      have h2 : ((resS [] (.error (0 + d))).1.length : Int) = 0 := rfl
      have h3 : (resS [] (.error (0 + d))).2.1 = (d : Int) := by simp [resS]
      rw [if_pos h2, h3, if_pos (by omega), decide_eq_true (by omega)]
    | ok L =>
      rw [res_ok]
      have hj := Lx.lexp_join _ _ _ hl
      have hc := Lx.lexp_chain _ _ _ hl
      have hlen := length_le_join L 0 hc
      rw [hj, size_list] at hlen
      have := joins_l0 s h1 L hj (by omega) L.length 99999 0 0 (by omega) (by omega) hc (by rw [List.drop_zero, hj, size_list]; omega)
      simpa [resS] using this
  · rw [show decide ((s.size : Int) > 600) = true from decide_eq_true (by omega)]
    exact joins_awake 100000 (by decide) s

end Go.Proofs.YtjdljjjkmjhdnaaDoor.Pure
