/- The plain statement of LexerNames: names and keywords are those of the reference; no keyword is a name, and both are single words. -/
import Derived.Test.YtjdljjjkmjhdnaaDoorPx12
import Derived.Test.YtjdljjjkmjhdnaaDoorPName
import Derived.Test.YtjdljjjkmjhdnaaDoorPRef11
namespace Go.Proofs.YtjdljjjkmjhdnaaDoor.Pure
open Go.RowKit Go.Proofs.YtjdljjjkmjhdnaaDoor Go.Proofs.YtjdljjjkmjhdnaaDoor.P Go.Proofs.YtjdljjjkmjhdnaaDoorW.PrintWords Go.Proofs.YtjdljjjkmjhdnaaDoorW.PrintLast
set_option linter.unusedVariables false
set_option linter.unusedSimpArgs false

theorem Keywords_f : ontimeref11_Keywords.f = some (Lx.keywords.map fun x => (⟨x.toArray⟩ : ByteArray)) := rfl
theorem inKeys_f (s : ByteArray) (k : Nat) (hk : 20 ≤ k) : ontimeref11_In.f k (Lx.keywords.map fun x => (⟨x.toArray⟩ : ByteArray)) s = some (Lx.keyword s.data.toList) := In_f Lx.keywords s k (by show 13 < k; omega) (by decide)
theorem rkind_name (s : List UInt8) : (decide (Lx.rkind s = 1) && decide (s.length ≤ 12) && !(Lx.keyword s)) = Lx.name s := by
  cases s with
  | nil => rfl
  | cons c t =>
    have h0 : Lx.rkind (c :: t) = 1 ↔ (Lx.isL c && (c :: t).all Lx.isW) = true := by
      simp only [Lx.rkind]
      by_cases e : (Lx.isL c && (c :: t).all Lx.isW) = true
      · rw [if_pos e]; exact ⟨fun _ => e, fun _ => rfl⟩
      · rw [if_neg e]
        refine ⟨fun h => ?_, fun h => absurd h e⟩
        split at h; · cases h
        split at h; · cases h
        split at h; · cases h
        split at h <;> cases h
    have h1 : decide (Lx.rkind (c :: t) = 1) = (Lx.isL c && (c :: t).all Lx.isW) := by
      rw [Bool.eq_iff_iff, decide_eq_true_eq]; exact h0
    rw [h1]
    unfold Lx.name
    simp only [ne_eq, reduceCtorEq, not_false_eq_true, decide_true, Bool.true_and]
    generalize decide ((c :: t).length ≤ 12) = A
    generalize Lx.isL c = B
    generalize (c :: t).all Lx.isW = C
    generalize Lx.keyword (c :: t) = D
    cases A <;> cases B <;> cases C <;> cases D <;> rfl
theorem rName_f (s : ByteArray) (hs : s.size ≤ 700) (k : Nat) (hk : 1000 ≤ k) : ontimeref11_Name.f k s = some (Lx.name s.data.toList) := by
  unfold ontimeref11_Name.f
  rw [kind_f s (by omega) k (by omega), ← rkind_name]
  simp only [Option.bind_some]
  by_cases h1 : Lx.rkind s.data.toList = 1
  · rw [if_pos (by omega), decide_eq_true h1]
    by_cases h2 : s.size ≤ 12
    · rw [if_pos (by omega), Keywords_f, decide_eq_true (by rw [size_list]; exact h2)]
      simp only [Option.bind_some]
      rw [inKeys_f s k (by omega)]
      rfl
    · rw [if_neg (by omega), decide_eq_false (by rw [size_list]; exact h2)]
      rfl
  · rw [if_neg (by omega), decide_eq_false h1]
    rfl
theorem word_lex (s : List UInt8) (h : Lx.name s = true ∨ Lx.keyword s = true) : Lx.lex s = .ok [⟨1, s, 0⟩] := by
  cases s with
  | nil => rcases h with h | h <;> exact absurd h (by decide)
  | cons c t =>
    have h2 : Lx.isL c = true ∧ (c :: t).all Lx.isW = true := by
      rcases h with h | h
      · unfold Lx.name at h
        simp only [Bool.and_eq_true] at h
        exact ⟨h.1.1.2, h.2⟩
      · unfold Lx.keyword at h
        exact Lx.keyword_word (c :: t) (of_decide_eq_true h)
    exact Lx.lex_word c t h2.1 h2.2 0

theorem LexerNames : ontimelaw11_LexerNames.Pure := by
  intro s hs
  refine ⟨100000, ?_⟩
  unfold ontimelaw11_LexerNames.f
  rw [awake_f _ (by decide)]
  simp only [Option.bind_some, if_true]
  by_cases h1 : s.size ≤ 60
  · rw [decide_eq_false (show ¬ ((s.size : Int) > 60) by omega)]
    simp only [ontimelaw11_LexerNames.j0]
    rw [if_neg (by decide), Name_f, rName_f s (by omega) _ (by omega), Keywords_f, Lex_f s (by omega) _ (by omega)]
    unfold lexer_Keyword.f
    simp only [Option.bind_some]
    rw [inKeys_f s _ (by decide)]
    simp only [Option.bind_some]
    have hnk : Lx.name s.data.toList = true → Lx.keyword s.data.toList = false := by
      intro h
      unfold Lx.name at h
      simp only [Bool.and_eq_true, Bool.not_eq_true'] at h
      exact h.1.2
    cases hn : Lx.name s.data.toList with
    | true =>
      have hk := hnk hn
      rw [hk, word_lex _ (.inl hn)]
      simp [resS, toS, rd_T33]
    | false =>
      cases hk : Lx.keyword s.data.toList with
      | true =>
        rw [word_lex _ (.inr hk)]
        simp [resS, toS, rd_T33]
      | false => simp
  · rw [decide_eq_true (show ((s.size : Int) > 60) by omega)]
    simp only [ontimelaw11_LexerNames.j0]
    rw [if_pos trivial, awake_f _ (by decide)]
    rfl

end Go.Proofs.YtjdljjjkmjhdnaaDoor.Pure
