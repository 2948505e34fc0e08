/- The plain statement of LexerSolid: Solid keeps the tokens that are no spaces and no comments, in order, in new memory; Join is what the loop makes. -/
import Derived.Test.YtjdljjjkmjhdnaaDoorPx16
import Derived.Test.YtjdljjjkmjhdnaaDoorPSolid
import Derived.Test.YtjdljjjkmjhdnaaDoorGJoin
import Derived.Test.YtjdljjjkmjhdnaaDoorOpenTok
namespace Go.Proofs.YtjdljjjkmjhdnaaDoor.Pure
open Go.RowKit Go.Proofs.YtjdljjjkmjhdnaaDoor Go.Proofs.YtjdljjjkmjhdnaaDoor.P Go.Proofs.YtjdljjjkmjhdnaaDoorW.PrintWords Go.Proofs.YtjdljjjkmjhdnaaDoorW.PrintLast
set_option linter.unusedVariables false
set_option linter.unusedSimpArgs false

abbrev TK := S33

theorem solid_awake (k : Nat) (hk : 20 < k) (l : List TK) : ontimelaw11_LexerSolid.j0 k l true = some true := by
  obtain ⟨k, rfl⟩ : ∃ m, k = m + 1 := ⟨k - 1, by omega⟩
  simp only [ontimelaw11_LexerSolid.j0]
  rw [if_pos trivial, awake_f k (by omega)]
  rfl

def asked (x : TK) : TK := ⟨x.f0, (⟨#[63]⟩ : ByteArray), x.f2⟩
def cur (l : List TK) (i : Nat) : List TK := ((l.take i).filter solidS).map asked ++ (l.drop i).filter solidS

theorem cur_skip (l : List TK) (i : Nat) (h : i < l.length) (hs : solidS l[i] = false) : cur l (i + 1) = cur l i ∧ ((l.take (i + 1)).filter solidS).length = ((l.take i).filter solidS).length := by
  unfold cur
  rw [List.take_succ_eq_append_getElem h, List.drop_eq_getElem_cons h, List.filter_append, List.filter_cons, List.filter_cons]
  simp [hs]
theorem cur_keep (l : List TK) (i : Nat) (h : i < l.length) (hs : solidS l[i] = true) :
    ((l.take (i + 1)).filter solidS).length = ((l.take i).filter solidS).length + 1 ∧ ((l.take i).filter solidS).length < (cur l i).length ∧ (cur l i)[((l.take i).filter solidS).length]? = some l[i] ∧ (cur l i).set ((l.take i).filter solidS).length (asked l[i]) = cur l (i + 1) := by
  unfold cur
  rw [List.take_succ_eq_append_getElem h, List.drop_eq_getElem_cons h, List.filter_append, List.filter_cons, List.filter_cons]
  simp only [hs, if_true, List.filter_nil, List.length_append, List.length_map, List.length_cons, List.length_nil, List.map_append, List.map_cons, List.map_nil]
  refine ⟨trivial, by omega, ?_, ?_⟩
  · rw [List.getElem?_append_right (by simp)]
    simp
  · rw [List.set_append]
    simp

theorem tk_eta (x : TK) (b : ByteArray) : (⟨x.f0, b, x.f2⟩ : TK) = ⟨x.f0, b, x.f2⟩ := rfl

theorem join_f (l : List TK) (h : (joinB l).length ≤ 140737488355328) : lexer_Join.f l = some ⟨(joinB l).toArray⟩ := by unfold lexer_Join.f; rw [if_pos h]

theorem solid_l1 (l : List TK) (hl : l.length ≤ 60) (hj : (joinB l).length ≤ 140737488355328) (s : ByteArray) (hs : s = ⟨(joinB l).toArray⟩) (d : Nat) : ∀ (k i : Nat), i + d = l.length → 2 * d + 2 < k →
    ontimelaw11_LexerSolid.l1 k l s (cur l i) (((l.take i).filter solidS).length : Int) l (l.length : Int) (i : Int) = some true := by
  induction d with
  | zero =>
    intro k i hi hk
    obtain ⟨k, rfl⟩ : ∃ m, k = m + 1 := ⟨k - 1, by omega⟩
    simp only [ontimelaw11_LexerSolid.l1]
    have hc : (cur l i).length = ((l.take i).filter solidS).length := by
      unfold cur
      rw [List.drop_of_length_le (by omega)]
      simp
    rw [if_neg (by omega), hc, if_pos rfl, join_f l hj, hs]
    simp
  | succ d ih =>
    intro k i hi hk
    obtain ⟨k, rfl⟩ : ∃ m, k = m + 2 := ⟨k - 2, by omega⟩
    have hlt : i < l.length := by omega
    have hn := ih k (i + 1) (by omega) (by omega)
    simp only [ontimelaw11_LexerSolid.l1]
    rw [if_pos (by omega), if_pos (by omega), if_pos (by omega), rd_at _ i hlt]
    have hw : wrap64 ((i : Int) + 1) = ((i + 1 : Nat) : Int) := by clear hn ih; unfold wrap64; omega
    by_cases h4 : l[i].f0 = 4
    · have hsol : solidS l[i] = false := by simp [solidS, h4]
      obtain ⟨e1, e2⟩ := cur_skip l i hlt hsol
      rw [if_pos h4]
      simp only [ontimelaw11_LexerSolid.j3]
      rw [if_pos trivial, hw]
      rw [e1, e2] at hn
      exact hn
    rw [if_neg h4]
    by_cases h5 : l[i].f0 = 5
    · have hsol : solidS l[i] = false := by simp [solidS, h5]
      obtain ⟨e1, e2⟩ := cur_skip l i hlt hsol
      rw [h5, show ((5 : Int) == 5) = true from rfl]
      simp only [ontimelaw11_LexerSolid.j3]
      rw [if_pos trivial, hw]
      rw [e1, e2] at hn
      exact hn
    · have hsol : solidS l[i] = true := by simp [solidS, h4, h5]
      obtain ⟨e1, e2, e3, e4⟩ := cur_keep l i hlt hsol
      rw [show (l[i].f0 == 5) = false from beq_eq_false_iff_ne.2 h5]
      simp only [ontimelaw11_LexerSolid.j3]
      have hg : (cur l i)[((l.take i).filter solidS).length]'e2 = l[i] := by
        rw [List.getElem?_eq_getElem e2] at e3
        exact Option.some.inj e3
      rw [if_neg (by decide), if_neg (by omega), if_pos (by omega), if_pos (by omega), rd_at _ _ e2, hg, hw]
      have hle : ((l.take i).filter solidS).length ≤ 60 := Nat.le_trans (List.length_filter_le _ _) (by rw [List.length_take]; omega)
      rw [show wrap64 ((((l.take i).filter solidS).length : Int) + 1) = ((((l.take i).filter solidS).length + 1 : Nat) : Int) by clear hn ih; unfold wrap64; omega]
      rw [if_neg (by simp)]
      rw [e1, ← e4] at hn
      exact hn

theorem solid_l0 (l : List TK) (hl : l.length ≤ 60) (d : Nat) : ∀ (k i : Nat) (acc : ByteArray), i + d = l.length → acc = ⟨(joinB (l.take i)).toArray⟩ → (joinB (l.take i)).length ≤ 60 * i → d + 400 < k →
    ontimelaw11_LexerSolid.l0 k l acc l (l.length : Int) (i : Int) = some true := by
  induction d with
  | zero =>
    intro k i acc hi ha hb hk
    obtain ⟨k, rfl⟩ : ∃ m, k = m + 1 := ⟨k - 1, by omega⟩
    simp only [ontimelaw11_LexerSolid.l0]
    have ht : l.take i = l := List.take_of_length_le (by omega)
    rw [ht] at ha hb
    have hj : (joinB l).length ≤ 140737488355328 := by omega
    rw [if_neg (by omega), join_f l hj]
    simp only [Option.bind_some]
    rw [ha, if_pos rfl, Solid_any l (by omega) k (by omega)]
    simp only [Option.bind_some]
    have h9 := solid_l1 l hl hj ⟨(joinB l).toArray⟩ rfl l.length k 0 (by omega) (by omega)
    have hc : cur l 0 = l.filter solidS := by simp [cur]
    rw [hc, List.take_zero, List.filter_nil, List.length_nil, Int.natCast_zero] at h9
    exact h9
  | succ d ih =>
    intro k i acc hi ha hb hk
    obtain ⟨k, rfl⟩ : ∃ m, k = m + 1 := ⟨k - 1, by omega⟩
    have hlt : i < l.length := by omega
    simp only [ontimelaw11_LexerSolid.l0]
    rw [if_pos (by omega), if_pos (by omega), if_pos (by omega), rd_at _ i hlt]
    by_cases h6 : ((l[i].f1.size : Nat) : Int) > 60
    · rw [if_pos h6]
    · have hs := joinB_snoc l i hlt
      rw [rd_at _ i hlt] at hs
      have hz : acc.size = (joinB (l.take i)).length := by rw [ha, size_mk]
      have hsz : l[i].f1.data.toList.length = l[i].f1.size := size_list _
      rw [if_neg h6, if_pos (by omega)]
      rw [show wrap64 ((i : Int) + 1) = ((i + 1 : Nat) : Int) by clear ih; unfold wrap64; omega]
      refine ih k (i + 1) _ (by omega) ?_ (by rw [hs, List.length_append, hsz]; omega) (by omega)
      rw [hs, ha]
      exact bytes_ext (by simp [ByteArray.data_append])

theorem LexerSolid (l : List TK) : ∃ k, ontimelaw11_LexerSolid.f k l = some true := by
  suffices h : ∀ k, 1000 ≤ k → ontimelaw11_LexerSolid.f (k + 3) l = some true from ⟨1000 + 3, h 1000 (Nat.le_refl _)⟩
  intro k hk
  unfold ontimelaw11_LexerSolid.f
  rw [awake_f _ (by omega)]
  simp only [Option.bind_some, if_true]
  by_cases h : l.length ≤ 60
  · rw [decide_eq_false (by omega)]
    simp only [ontimelaw11_LexerSolid.j0]
    rw [if_neg (by decide)]
    have h9 := solid_l0 l h l.length (k + 2) 0 ⟨#[]⟩ (by omega) rfl (by simp [joinB]) (by omega)
    rw [Int.natCast_zero] at h9
    exact h9
  · rw [decide_eq_true (by omega)]
    exact solid_awake (k + 3) (by omega) _

theorem LexerSolid_walk (A : Option Addr) (l : List TK) (c : Nat) (w : World) (e : l.length ≤ c) (r : Kd.C k33 w A l.length l) (ok : ∀ x ∈ l, Op.okTok x) (hL : Laid w) :
    Calls Tryd.prog 10 #[.slice A l.length c] w fun e w' => e = .returned (.bool true) ∧ Below w.heap.size w w' := by
  obtain ⟨k, h⟩ := LexerSolid l
  exact ontimelaw11_LexerSolid.calls k A c l true w r e hL h

end Go.Proofs.YtjdljjjkmjhdnaaDoor.Pure
