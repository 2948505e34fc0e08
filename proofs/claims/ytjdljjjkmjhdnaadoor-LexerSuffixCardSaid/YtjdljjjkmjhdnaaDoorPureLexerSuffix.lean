/- The plain statement of LexerSuffix: the text from the start of a token on has the remaining tokens. -/
import Derived.Test.YtjdljjjkmjhdnaaDoorPx8
import Derived.Test.YtjdljjjkmjhdnaaDoorPLex
namespace Go.Proofs.YtjdljjjkmjhdnaaDoor.Pure
open Go.RowKit Go.Proofs.YtjdljjjkmjhdnaaDoor Go.Proofs.YtjdljjjkmjhdnaaDoor.P Go.Proofs.YtjdljjjkmjhdnaaDoorW.PrintWords Go.Proofs.YtjdljjjkmjhdnaaDoorW.PrintLast
set_option linter.unusedVariables false
set_option linter.unusedSimpArgs false

theorem suffix_awake (k : Nat) (hk : 20 < k) (s : ByteArray) (a1 : Int) (l : List S33) : ontimelaw11_LexerSuffix.j0 k s a1 l true = some true := by
  obtain ⟨k, rfl⟩ : ∃ m, k = m + 1 := ⟨k - 1, by omega⟩
  simp only [ontimelaw11_LexerSuffix.j0]
  rw [if_pos trivial, awake_f k (by omega)]
  rfl

/-- The tokens of the rest, told from its own beginning, are those of the whole from there on. -/
def back (q : Nat) (t : Lx.Tok) : Lx.Tok := { t with pos := t.pos - q }

theorem suffix_l0 (L M : List Lx.Tok) (i q : Nat) (hq : q ≤ 70000) (hi : i ≤ L.length) (hL : L.length ≤ 70000) (hM : M.length + i = L.length) (h : ∀ j, (hj : j < M.length) → (hij : i + j < L.length) → L[i + j].kind = M[j].kind ∧ L[i + j].text = M[j].text ∧ L[i + j].pos = M[j].pos + q ∧ M[j].pos ≤ 70000) (d : Nat) :
    ∀ (k j : Nat), j + d = M.length → d < k → ontimelaw11_LexerSuffix.l0 k (L.map toS) (i : Int) (q : Int) (M.map toS) ((M.map toS).length : Int) (j : Int) = some true := by
  induction d with
  | zero =>
    intro k j hj hk
    obtain ⟨k, rfl⟩ : ∃ m, k = m + 1 := ⟨k - 1, by omega⟩
    simp only [ontimelaw11_LexerSuffix.l0]
    rw [if_neg (by simp; omega)]
  | succ d ih =>
    intro k j hj hk
    obtain ⟨k, rfl⟩ : ∃ m, k = m + 1 := ⟨k - 1, by omega⟩
    have hlt : j < M.length := by omega
    have hij : i + j < L.length := by omega
    obtain ⟨h1, h2, h3, h4⟩ := h j hlt hij
    have hl1 : (L.map toS).length = L.length := by simp
    have hl2 : (M.map toS).length = M.length := by simp
    have r1 : rd_T33 (M.map toS) (j : Int) = toS M[j] := by rw [rd_at _ j (by rw [hl2]; exact hlt), List.getElem_map]
    have r2 : rd_T33 (L.map toS) ((i + j : Nat) : Int) = toS L[i + j] := by rw [rd_at _ (i + j) (by rw [hl1]; exact hij), List.getElem_map]
    simp only [ontimelaw11_LexerSuffix.l0]
    have c1 : (j : Int) < ((M.map toS).length : Int) := by rw [hl2]; omega
    have c2 : (0 : Int) ≤ (j : Int) := by omega
    have c3 : (0 : Int) ≤ ((i + j : Nat) : Int) := by omega
    have c4 : ((i + j : Nat) : Int) < ((L.map toS).length : Int) := by rw [hl1]; omega
    rw [if_pos c1]
    rw [if_pos c2]
    rw [if_pos c1]
    rw [show wrap64 ((i : Int) + (j : Int)) = ((i + j : Nat) : Int) by unfold wrap64; omega]
    rw [if_pos c3]
    rw [if_pos c4]
    rw [r1]
    rw [r2]
    rw [if_pos (show (toS M[j]).f0 = (toS L[i + j]).f0 by simp [toS, h1]), if_pos (show (toS M[j]).f1.toList = (toS L[i + j]).f1.toList by simp [toS, h2])]
    rw [if_pos (show (toS M[j]).f2 = wrap64 ((toS L[i + j]).f2 - (q : Int)) by
      simp only [toS]; rw [h3]; unfold wrap64; omega)]
    rw [show wrap64 ((j : Int) + 1) = ((j + 1 : Nat) : Int) by unfold wrap64; omega]
    exact ih k (j + 1) (by omega) (by omega)

theorem LexerSuffix : ontimelaw11_LexerSuffix.Pure := by
  intro s a1 hs ha
  have hr := u8_range ha
  refine ⟨100000, ?_⟩
  unfold ontimelaw11_LexerSuffix.f
  by_cases h0 : 65536 < s.size
  · rw [Lex_long s h0]
    simp only [Option.bind_some]
    rw [awake_f _ (by decide)]
    simp only [Option.bind_some, if_true]
    rw [if_pos (by omega)]
    exact suffix_awake 100000 (by decide) _ _ _
  · rw [Lex_f s (by omega) _ (by omega)]
    simp only [Option.bind_some]
    rw [awake_f _ (by decide)]
    simp only [Option.bind_some, if_true]
    by_cases h1 : s.size ≤ 600
    · rw [if_neg (by omega)]
      cases hl : Lx.lex s.data.toList with
      | error e => rw [res_err]; exact suffix_awake 100000 (by decide) _ _ _
      | ok L =>
        rw [res_ok]
        simp only [resS, List.nil_append]
        by_cases hnil : L = []
        · subst hnil
          rw [show (((([] : List Lx.Tok).map toS).length : Int) == 0) = true from rfl]
          exact suffix_awake 100000 (by decide) _ _ _
        have hpos : 0 < L.length := List.length_pos_iff.2 hnil
        have hl1 : (L.map toS).length = L.length := by simp
        rw [show (((L.map toS).length : Int) == 0) = false from beq_eq_false_iff_ne.2 (by omega)]
        simp only [ontimelaw11_LexerSuffix.j0]
        rw [if_neg (by decide), if_neg (by omega)]
        rw [show wrap64 a1 = a1 by unfold wrap64; omega]
        obtain ⟨i, hi, e⟩ := tmod_nat a1 hr.1 (L.map toS).length (by omega)
        rw [hl1] at hi
        have r2 : rd_T33 (L.map toS) (i : Int) = toS L[i] := by rw [rd_at _ i (by rw [hl1]; exact hi)]; simp
        rw [e, if_pos (by omega), if_pos (by omega), r2]
        obtain ⟨g1, g2, g3⟩ := Lx.lexp_suffix _ _ _ hl i L[i] (List.getElem?_eq_getElem hi)
        rw [size_list] at g2
        simp only [Nat.zero_add, Nat.sub_zero] at g2 g3
        have f2 : (toS L[i]).f2 = (L[i].pos : Int) := rfl
        rw [f2, if_neg (by omega), decide_eq_false (by omega)]
        simp only [ontimelaw11_LexerSuffix.j1]
        rw [if_neg (by decide), if_pos (by omega), if_pos (by omega)]
        simp only [Int.toNat_natCast]
        have e2 : (s.extract L[i].pos s.size).data.toList = s.data.toList.drop L[i].pos := Lib.extract_to_end s _
        have z2 : (s.extract L[i].pos s.size).size ≤ 600 := by rw [Lib.size_eq, e2, List.length_drop, size_list]; omega
        rw [Lex_f _ (by omega) _ (by omega), e2]
        simp only [Option.bind_some]
        have hsh := Lx.lexp_shift (s.data.toList.drop L[i].pos) 0 L[i].pos
        rw [Nat.zero_add, g3] at hsh
        have hq : Lx.lex (s.data.toList.drop L[i].pos) = Lx.lexp (s.data.toList.drop L[i].pos) 0 := rfl
        cases hm : Lx.lexp (s.data.toList.drop L[i].pos) 0 with
        | error e => rw [hm] at hsh; cases hsh
        | ok M =>
          rw [hm] at hsh
          have hsh : L.drop i = M.map (fun t => { t with pos := t.pos + L[i].pos }) := by injection hsh
          rw [hq, hm, res_ok]
          simp only [resS, List.nil_append]
          have hlen : M.length + i = L.length := by
            have := congrArg List.length hsh
            rw [List.length_drop, List.length_map] at this
            omega
          have hll : L.length ≤ 600 := by
            have h7 : ∀ (l : List Lx.Tok) (p : Nat), Lx.chain p l → l.length ≤ (Lx.join l).length := by
              intro l
              induction l with
              | nil => intro p _; simp
              | cons a l ih =>
                intro p h
                have h1 := ih _ h.2.2
                have hpos : 0 < a.text.length := List.length_pos_iff.2 h.2.1
                have e : Lx.join (a :: l) = a.text ++ Lx.join l := by simp [Lx.join]
                rw [e, List.length_append, List.length_cons]
                omega
            have := h7 L 0 (Lx.lexp_chain _ _ _ hl)
            rw [Lx.lexp_join _ _ _ hl, size_list] at this
            omega
          have hne : (((M.map toS).length : Int) != wrap64 (((L.map toS).length : Int) - (i : Int))) = false := by
            rw [bne_eq_false_iff_eq, hl1, List.length_map]; unfold wrap64; omega
          rw [hne]
          simp only [ontimelaw11_LexerSuffix.j2]
          rw [if_neg (by decide)]
          have h9 := suffix_l0 L M i L[i].pos (by omega) (by omega) (by omega) hlen (fun j hj hjd => ?_) M.length 99997 0 (by omega) (by omega)
          · rw [Int.natCast_zero] at h9
            exact h9
          have h5 : (L.drop i)[j]'(by rw [List.length_drop]; omega) = L[i + j] := List.getElem_drop
          have h6 : (L.drop i)[j]'(by rw [List.length_drop]; omega) = { M[j] with pos := M[j].pos + L[i].pos } := by
            simp only [hsh, List.getElem_map]
          rw [h5] at h6
          obtain ⟨p1, p2, p3⟩ := Lx.lexp_suffix _ _ _ hl (i + j) L[i + j] (List.getElem?_eq_getElem hjd)
          rw [size_list] at p2
          have h8 : L[i + j].pos = M[j].pos + L[i].pos := by rw [h6]
          exact ⟨by rw [h6], by rw [h6], h8, by omega⟩
    · rw [if_pos (by omega)]
      exact suffix_awake 100000 (by decide) _ _ _

end Go.Proofs.YtjdljjjkmjhdnaaDoor.Pure
