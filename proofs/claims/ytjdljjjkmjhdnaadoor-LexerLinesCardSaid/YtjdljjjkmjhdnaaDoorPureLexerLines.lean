/- The plain statement of LexerLines: over two lines the solid tokens are those of each. -/
import Derived.Test.YtjdljjjkmjhdnaaDoorPx10
import Derived.Test.YtjdljjjkmjhdnaaDoorPSolid
namespace Go.Proofs.YtjdljjjkmjhdnaaDoor.Pure
open Go.RowKit Go.Proofs.YtjdljjjkmjhdnaaDoor Go.Proofs.YtjdljjjkmjhdnaaDoor.P Go.Proofs.YtjdljjjkmjhdnaaDoorW.PrintWords Go.Proofs.YtjdljjjkmjhdnaaDoorW.PrintLast
set_option linter.unusedVariables false
set_option linter.unusedSimpArgs false

theorem lines_awake (k : Nat) (hk : 20 < k) (a b : ByteArray) : ontimelaw11_LexerLines.j0 k a b true = some true := by
  obtain ⟨k, rfl⟩ : ∃ m, k = m + 1 := ⟨k - 1, by omega⟩
  simp only [ontimelaw11_LexerLines.j0]
  rw [if_pos trivial, awake_f k (by omega)]
  rfl

def up (q : Nat) (t : Lx.Tok) : Lx.Tok := { t with pos := t.pos + q }

theorem lines_l0 (a : ByteArray) (ha : a.size ≤ 600) (X Y : List Lx.Tok) (hX : X.length ≤ 70000) (hY : Y.length ≤ 70000) (hp : ∀ t ∈ Y, t.pos ≤ 70000) (d : Nat) :
    ∀ (k i : Nat), i + d = X.length + Y.length → d < k →
      ontimelaw11_LexerLines.l0 k a (X.map toS) (Y.map toS) ((X ++ Y.map (up (a.size + 1))).map toS) (((X ++ Y.map (up (a.size + 1))).map toS).length : Int) (i : Int) = some true := by
  have hl1 : (X.map toS).length = X.length := by simp
  have hl2 : (Y.map toS).length = Y.length := by simp
  have hl3 : ((X ++ Y.map (up (a.size + 1))).map toS).length = X.length + Y.length := by simp
  induction d with
  | zero =>
    intro k i hi hk
    obtain ⟨k, rfl⟩ : ∃ m, k = m + 1 := ⟨k - 1, by omega⟩
    simp only [ontimelaw11_LexerLines.l0]
    rw [if_neg (by omega)]
  | succ d ih =>
    intro k i hi hk
    obtain ⟨k, rfl⟩ : ∃ m, k = m + 1 := ⟨k - 1, by omega⟩
    have hlt : i < ((X ++ Y.map (up (a.size + 1))).map toS).length := by omega
    simp only [ontimelaw11_LexerLines.l0]
    have hn := ih k (i + 1) (by omega) (by omega)
    rw [if_pos (by omega), if_pos (by omega), if_pos (by omega), rd_at _ i hlt]
    rw [show wrap64 ((i : Int) + 1) = ((i + 1 : Nat) : Int) by unfold wrap64; omega]
    by_cases hx : i < X.length
    · rw [if_pos (by omega), rd_at _ i (by omega)]
      have e : ((X ++ Y.map (up (a.size + 1))).map toS)[i] = (X.map toS)[i] := by
        simp only [List.getElem_map]
        rw [List.getElem_append_left hx]
      rw [e, if_neg (by simp)]
      exact hn
    · rw [if_neg (by omega)]
      have hy : i - X.length < Y.length := by omega
      rw [show wrap64 ((i : Int) - ((X.map toS).length : Int)) = ((i - X.length : Nat) : Int) by rw [hl1]; unfold wrap64; omega]
      rw [if_pos (by omega), if_pos (by omega), rd_at _ (i - X.length) (by omega)]
      have e : ((X ++ Y.map (up (a.size + 1))).map toS)[i] = toS (up (a.size + 1) Y[i - X.length]) := by
        simp only [List.getElem_map]
        rw [List.getElem_append_right (by omega)]
        simp
      have hq := hp _ (List.getElem_mem hy)
      rw [e, List.getElem_map]
      have e3 : wrap64 ((toS Y[i - X.length]).f2 + wrap64 ((a.size : Int) + 1)) = (toS (up (a.size + 1) Y[i - X.length])).f2 := by
        rw [show wrap64 ((a.size : Int) + 1) = ((a.size + 1 : Nat) : Int) by unfold wrap64; omega]
        simp only [toS, up]
        generalize Y[i - X.length].pos = q at hq
        clear e hn ih hl1 hl2 hl3 hlt
        unfold wrap64; omega
      rw [e3, if_neg (by simp [toS, up])]
      exact hn

theorem LexerLines : ontimelaw11_LexerLines.Pure := by
  intro a b ha hb
  suffices h : ∀ k, 90000 ≤ k → ontimelaw11_LexerLines.f (k + 5) a b = some true from ⟨90000 + 5, h 90000 (Nat.le_refl _)⟩
  intro k hk
  unfold ontimelaw11_LexerLines.f
  rw [awake_f _ (by omega)]
  simp only [Option.bind_some, if_true]
  by_cases h1 : a.size ≤ 600
  · rw [if_neg (by omega)]
    by_cases h2 : b.size ≤ 600
    · rw [decide_eq_false (by omega)]
      simp only [ontimelaw11_LexerLines.j0]
      rw [if_neg (by decide), Lex_f a (by omega) _ (by omega), Lex_f b (by omega) _ (by omega)]
      simp only [Option.bind_some]
      have z1 : (a ++ (⟨#[10]⟩ : ByteArray)).size = a.size + 1 := by rw [ByteArray.size_append]; rfl
      have z2 : ((a ++ (⟨#[10]⟩ : ByteArray)) ++ b).size = a.size + 1 + b.size := by rw [ByteArray.size_append, z1]
      have z3 : ((a ++ (⟨#[10]⟩ : ByteArray)) ++ b).data.toList = a.data.toList ++ 10 :: b.data.toList := by simp [ByteArray.data_append]
      rw [if_pos (by omega), if_pos (by omega), Lex_f _ (by omega) _ (by omega), z3]
      simp only [Option.bind_some]
      have hS := Lx.solids_lines a.data.toList b.data.toList 0
      have hB := Lx.solids_shift b.data.toList 0 (a.size + 1)
      rw [size_list] at hS
      rw [show 0 + a.size + 1 = 0 + (a.size + 1) from by omega, hB] at hS
      unfold Lx.solids at hS
      have hA : Lx.lexp a.data.toList 0 = Lx.lex a.data.toList := rfl
      have hB : Lx.lexp b.data.toList 0 = Lx.lex b.data.toList := rfl
      have hC : Lx.lexp (a.data.toList ++ 10 :: b.data.toList) 0 = Lx.lex (a.data.toList ++ 10 :: b.data.toList) := rfl
      rw [hA, hB, hC] at hS
      cases hl : Lx.lex a.data.toList with
      | error e =>
        rw [res_err]
        rw [hl] at hS
        cases hn : Lx.lex (a.data.toList ++ 10 :: b.data.toList) with
        | ok N => rw [hn] at hS; cases hS
        | error e' =>
          rw [hn] at hS
          obtain rfl : e' = e := by injection hS
          simp [resS]
      | ok L =>
        rw [res_ok]
        rw [hl] at hS
        cases hm : Lx.lex b.data.toList with
        | error e =>
          rw [res_err]
          rw [hm] at hS
          cases hn : Lx.lex (a.data.toList ++ 10 :: b.data.toList) with
          | ok N => rw [hn] at hS; cases hS
          | error e' =>
            rw [hn] at hS
            obtain rfl : e' = e + (a.size + 1) := by injection hS
            obtain ⟨d, rfl, he, -⟩ := Lx.lexp_bad _ _ _ hm
            rw [size_list] at he
            simp only [resS]
            have e0 : wrap64 (((0 + d : Nat) : Int) + (a.size : Int)) = ((d + a.size : Nat) : Int) := by clear hS; unfold wrap64; omega
            have e1 : wrap64 (((d + a.size : Nat) : Int) + 1) = ((0 + d + (a.size + 1) : Nat) : Int) := by clear hS; unfold wrap64; omega
            have e2 : wrap64 (wrap64 (((0 + d : Nat) : Int) + (a.size : Int)) + 1) = ((0 + d + (a.size + 1) : Nat) : Int) := (congrArg (fun z => wrap64 (z + 1)) e0).trans e1
            rw [if_pos trivial]
            exact (if_pos e2.symm).trans rfl
        | ok M =>
          rw [res_ok]
          rw [hm] at hS
          cases hn : Lx.lex (a.data.toList ++ 10 :: b.data.toList) with
          | error e => rw [hn] at hS; cases hS
          | ok N =>
            rw [hn] at hS
            have hS : Lx.solid N = Lx.solid L ++ (Lx.solid M).map (up (a.size + 1)) := by injection hS
            have l1 := lex_len _ _ hl
            have l2 := lex_len _ _ hm
            have l3 := lex_len _ _ hn
            rw [size_list] at l1 l2
            rw [List.length_append, List.length_cons, size_list, size_list] at l3
            simp only [resS, List.nil_append]
            rw [Solid_f L (by omega) _ (by omega), Option.bind_some, Solid_f M (by omega) _ (by omega), Option.bind_some, Solid_f N (by omega) _ (by omega), Option.bind_some]
            rw [hS, if_pos trivial]
            have f1 : (Lx.solid L).length ≤ L.length := List.length_filter_le _ _
            have f2 : (Lx.solid M).length ≤ M.length := List.length_filter_le _ _
            rw [show ((((Lx.solid L ++ (Lx.solid M).map (up (a.size + 1))).map toS).length : Int) != wrap64 ((((Lx.solid L).map toS).length : Int) + (((Lx.solid M).map toS).length : Int))) = false from by
              rw [bne_eq_false_iff_eq]; simp only [List.length_map, List.length_append]; unfold wrap64; omega]
            simp only [ontimelaw11_LexerLines.j1]
            rw [if_neg (by decide)]
            have h9 := lines_l0 a h1 (Lx.solid L) (Lx.solid M) (by omega) (by omega) (fun t ht => ?_) ((Lx.solid L).length + (Lx.solid M).length) (k + 3) 0 (by omega) (by omega)
            · rw [Int.natCast_zero] at h9
              exact h9
            have ht := (List.mem_filter.1 ht).1
            obtain ⟨i, hi, rfl⟩ := List.getElem_of_mem ht
            obtain ⟨p1, p2, p3⟩ := Lx.lexp_suffix _ _ _ hm i M[i] (List.getElem?_eq_getElem hi)
            rw [size_list] at p2
            omega
    · rw [decide_eq_true (by omega)]
      exact lines_awake (k + 5) (by omega) _ _
  · rw [if_pos (by omega)]
    exact lines_awake (k + 5) (by omega) _ _

end Go.Proofs.YtjdljjjkmjhdnaaDoor.Pure
