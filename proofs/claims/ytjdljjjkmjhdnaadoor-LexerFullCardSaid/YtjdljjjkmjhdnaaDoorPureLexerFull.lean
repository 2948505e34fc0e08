/- The plain statement of LexerFull: 65536 spaces are one token; one byte more is too many. -/
import Derived.Test.YtjdljjjkmjhdnaaDoorPx15
import Derived.Test.YtjdljjjkmjhdnaaDoorPLex
import Derived.Test.YtjdljjjkmjhdnaaDoorGRep
namespace Go.Proofs.YtjdljjjkmjhdnaaDoor.Pure
open Go.RowKit Go.Proofs.YtjdljjjkmjhdnaaDoor Go.Proofs.YtjdljjjkmjhdnaaDoor.P Go.Proofs.YtjdljjjkmjhdnaaDoorW.PrintWords Go.Proofs.YtjdljjjkmjhdnaaDoorW.PrintLast
set_option linter.unusedVariables false
set_option linter.unusedSimpArgs false

theorem run_spaces (n : Nat) : Lx.run Lx.isS (List.replicate n 32) = n := by
  induction n with
  | zero => rfl
  | succ n ih => rw [List.replicate_succ, Lx.run_cons, if_pos (by decide), ih]
theorem lex_spaces (n : Nat) (h : 0 < n) : Lx.lex (List.replicate n 32) = .ok [⟨4, List.replicate n 32, 0⟩] := by
  obtain ⟨n, rfl⟩ : ∃ m, n = m + 1 := ⟨n - 1, by omega⟩
  have ht : Lx.token (List.replicate (n + 1) 32) = (4, n + 1) := by
    have := run_spaces (n + 1)
    rw [List.replicate_succ] at this ⊢
    rw [Lx.token_space 32 _ (by decide), this]
  show Lx.lexp (List.replicate (n + 1) 32) 0 = _
  rw [Lx.lexp_cons _ 0 (by simp) (by rw [ht]; exact (by decide : (4 : Nat) ≠ 0)), ht]
  simp only [List.drop_replicate, Nat.sub_self, List.replicate_zero, Lx.lexp_nil, List.take_replicate, Nat.min_self]

theorem repeat_spaces (n : Nat) (h : 8192 < n) (h2 : n ≤ 140737488355328) : strings_Repeat.f (⟨#[32]⟩ : ByteArray) (n : Int) = some ⟨(List.replicate n 32).toArray⟩ := by
  unfold strings_Repeat.f
  rw [if_neg (by omega), if_neg (by omega), if_pos ⟨by omega, by omega, rfl, .inl ⟨rfl, by omega⟩⟩]
  simp
theorem repeat_marks (n : Nat) (h : n ≤ 8192) : ∃ t, strings_Repeat.f (⟨#[63]⟩ : ByteArray) (n : Int) = some t ∧ t.size ≤ 8192 := by
  unfold strings_Repeat.f
  by_cases h0 : (n : Int) = 0
  · exact ⟨_, if_pos h0, by decide⟩
  rw [if_neg h0]
  by_cases h1 : (n : Int) = 1
  · exact ⟨_, if_pos h1, by decide⟩
  rw [if_neg h1, if_pos ⟨by omega, by omega, rfl, .inr ⟨rfl, by omega⟩⟩]
  exact ⟨_, rfl, by rw [size_mk]; simp; omega⟩

theorem LexerFull : ontimelaw11_LexerFull.Pure := by
  intro a0 a1 w0 w1
  have hr := u8_range w1
  suffices h : ∀ (N k : Nat), N = 65536 → 70000 ≤ k → ontimelaw11_LexerFull.f k a0 a1 = some true from ⟨70000, h 65536 70000 rfl (Nat.le_refl _)⟩
  intro N k hN hk
  have hR : strings_Repeat.f (⟨#[32]⟩ : ByteArray) 65536 = some ⟨(List.replicate N 32).toArray⟩ := by
    have := repeat_spaces N (by omega) (by omega)
    rw [hN] at this ⊢
    exact this
  obtain ⟨n, rfl⟩ : ∃ n : Nat, a1 = (n : Int) := ⟨a1.toNat, by omega⟩
  obtain ⟨t, ht, hts⟩ := repeat_marks n (by omega)
  unfold ontimelaw11_LexerFull.f
  rw [awake_f _ (by omega)]
  simp only [Option.bind_some, if_true]
  rw [hR]
  clear hR
  have hz : (⟨(List.replicate N (32 : UInt8)).toArray⟩ : ByteArray).size = N := by rw [size_mk, List.length_replicate]
  have hl : Lx.lex (List.replicate N 32) = .ok [⟨4, List.replicate N 32, 0⟩] := lex_spaces N (by omega)
  have hL := Lex_f (⟨(List.replicate N (32 : UInt8)).toArray⟩ : ByteArray) (by omega) k (by omega)
  rw [show (⟨(List.replicate N (32 : UInt8)).toArray⟩ : ByteArray).data.toList = List.replicate N 32 from rfl, hl] at hL
  generalize (⟨(List.replicate N (32 : UInt8)).toArray⟩ : ByteArray) = sp at hz hL
  simp only [Option.bind_some]
  rw [hL]
  have h1 : (strOfNums [a0]).size = 1 := rfl
  simp only [Option.bind_some]
  rw [show wrap64 (n : Int) = (n : Int) by unfold wrap64; omega, if_pos (by omega), ht]
  simp only [Option.bind_some]
  rw [if_pos (by rw [ByteArray.size_append]; omega), Lex_long _ (by rw [ByteArray.size_append, ByteArray.size_append]; omega)]
  simp [resS]

end Go.Proofs.YtjdljjjkmjhdnaaDoor.Pure
