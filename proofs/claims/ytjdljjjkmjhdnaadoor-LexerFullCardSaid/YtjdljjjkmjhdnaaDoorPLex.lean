/- What the printed lexer comes to: the plain lexer's tokens; the chapter's examples hold. -/
import Derived.Test.YtjdljjjkmjhdnaaDoorPx2
import Derived.Test.YtjdljjjkmjhdnaaDoorGLex
import Derived.OpenShut
namespace Go.Proofs.YtjdljjjkmjhdnaaDoor.Pure
open Go.RowKit Go.Proofs.YtjdljjjkmjhdnaaDoor Go.Proofs.YtjdljjjkmjhdnaaDoor.P Go.Proofs.YtjdljjjkmjhdnaaDoorW.PrintWords Go.Proofs.YtjdljjjkmjhdnaaDoorW.PrintLast
set_option linter.unusedVariables false
set_option linter.unusedSimpArgs false

def toS (t : Lx.Tok) : S33 := ⟨(t.kind : Int), ⟨t.text.toArray⟩, (t.pos : Int)⟩
/-- The answer of Lex, out of the plain lexer's. -/
def resS (acc : List S33) : Except Nat (List Lx.Tok) → List S33 × Int × Int
  | .ok l => (acc ++ l.map toS, 0, 0)
  | .error e => ([], (e : Int), 3)

theorem res_err {α : Type} (acc : List S33) (e : Nat) (a b : α) : (if (resS acc (.error e)).2.2 = 0 then a else b) = b := if_neg (show ¬ ((3 : Int) = 0) by decide)
theorem res_ok {α : Type} (acc : List S33) (l : List Lx.Tok) (a b : α) : (if (resS acc (.ok l)).2.2 = 0 then a else b) = a := if_pos (show ((0 : Int) = 0) from rfl)
theorem bytes_ext {a b : ByteArray} (h : a.data.toList = b.data.toList) : a = b := by
  obtain ⟨⟨a⟩⟩ := a; obtain ⟨⟨b⟩⟩ := b
  simp only at h; rw [h]
theorem extract_mk (s : ByteArray) (a b : Nat) : s.extract a b = ⟨((s.data.toList.drop a).take (b - a)).toArray⟩ := bytes_ext (by rw [Lib.extract_data])
theorem size_list (s : ByteArray) : s.data.toList.length = s.size := (Lib.size_eq s).symm
theorem size_mk (l : List UInt8) : (⟨l.toArray⟩ : ByteArray).size = l.length := by rw [Lib.size_eq]

theorem token_f (s : ByteArray) (h0 : 0 < s.size) (hs : s.size ≤ 140737488351232) : lexer_token.f s = some (((Lx.token s.data.toList).1 : Int), ((Lx.token s.data.toList).2 : Int)) := by
  unfold lexer_token.f
  rw [if_neg (by omega), if_pos hs]

theorem Lex_l0 (s : ByteArray) (hs : s.size ≤ 100000) (d : Nat) : ∀ (k p : Nat) (acc : List S33), p + d = s.size → d < k → acc.length + d ≤ 100000 →
    lexer_Lex.l0 k s acc (p : Int) = some (resS acc (Lx.lexp (s.data.toList.drop p) p)) := by
  induction d using Nat.strongRecOn with
  | _ d ih =>
  intro k p acc hp hk hacc
  obtain ⟨k, rfl⟩ : ∃ m, k = m + 1 := ⟨k - 1, by omega⟩
  simp only [lexer_Lex.l0]
  by_cases hd : d = 0
  · subst hd
    rw [if_neg (by omega), List.drop_of_length_le (by rw [size_list]; omega), Lx.lexp_nil]
    simp [resS]
  · have hlen : (s.data.toList.drop p).length = d := by rw [List.length_drop, size_list]; omega
    have hne : s.data.toList.drop p ≠ [] := by intro h; rw [h] at hlen; simp at hlen; omega
    rw [if_pos (by omega), if_pos (by omega), if_pos (by omega)]
    simp only [Int.toNat_natCast]
    have hex : (s.extract p s.size).data.toList = s.data.toList.drop p := Lib.extract_to_end s p
    have hsz : (s.extract p s.size).size = d := by rw [Lib.size_eq, hex, hlen]
    rw [token_f _ (by omega) (by omega), hex]
    simp only [Option.bind_some]
    by_cases h0 : (Lx.token (s.data.toList.drop p)).1 = 0
    · rw [if_pos (by omega), Lx.lexp_error _ _ hne h0]
      rfl
    · have hpos := Lx.token_pos _ h0
      have hle := Lx.token_le (s.data.toList.drop p)
      rw [hlen] at hle
      generalize hn : (Lx.token (s.data.toList.drop p)).2 = n at *
      have hw : wrap64 ((p : Int) + (n : Int)) = ((p + n : Nat) : Int) := by unfold wrap64; omega
      rw [hw, if_neg (by omega), if_pos (by omega), if_pos (by omega), if_pos (by omega)]
      rw [ih (d - n) (by omega) k (p + n) _ (by omega) (by omega) (by simp; omega)]
      rw [Lx.lexp_cons _ p hne h0, hn, List.drop_drop]
      simp only [Int.toNat_natCast]
      rw [extract_mk, Nat.add_sub_cancel_left]
      cases Lx.lexp (s.data.toList.drop (p + n)) (p + n) with
      | error e => rfl
      | ok l => simp [resS, toS]

theorem Lex_f (s : ByteArray) (hs : s.size ≤ 65536) (k : Nat) (hk : s.size < k) : lexer_Lex.f k s = some (resS [] (Lx.lex s.data.toList)) := by
  unfold lexer_Lex.f
  rw [if_neg (by omega)]
  have := Lex_l0 s (by omega) s.size k 0 [] (by omega) hk (by simp; omega)
  rw [List.drop_zero] at this
  exact this

theorem awake_20 : ontimelaw11_awake.f 20 = some true := by
  have h1 : Lx.lex [120, 49, 60, 60, 61, 50, 35, 99] = .ok [⟨1, [120, 49], 0⟩, ⟨3, [60, 60], 2⟩, ⟨3, [61], 4⟩, ⟨2, [50], 5⟩, ⟨5, [35, 99], 6⟩] := by rfl
  have h2 : Lx.lex [97, 66] = .error 1 := by rfl
  unfold ontimelaw11_awake.f
  rw [Lex_f _ (by decide) 20 (by decide), Lex_f _ (by decide) 20 (by decide)]
  rw [show (⟨#[120, 49, 60, 60, 61, 50, 35, 99]⟩ : ByteArray).data.toList = [120, 49, 60, 60, 61, 50, 35, 99] from rfl, h1, show (⟨#[97, 66]⟩ : ByteArray).data.toList = [97, 66] from rfl, h2]
  simp [resS, toS, rd_T33, Lib.toList_data]
theorem awake_f (k : Nat) (hk : 20 ≤ k) : ontimelaw11_awake.f k = some true := at_rounds ontimelaw11_awake.mono hk awake_20

theorem rd_at (l : List S33) (i : Nat) (h : i < l.length) : rd_T33 l (i : Int) = l[i] := by
  simp [rd_T33, List.getD_eq_getElem?_getD, List.getElem?_eq_getElem h]

theorem tmod_nat (x : Int) (h0 : 0 ≤ x) (n : Nat) (h : 0 < n) : ∃ i : Nat, i < n ∧ Int.tmod x (n : Int) = (i : Int) := by
  refine ⟨(x % n).toNat, ?_, ?_⟩
  · have := Int.emod_lt_of_pos x (show (0 : Int) < n by omega)
    have := Int.emod_nonneg x (show (n : Int) ≠ 0 by omega)
    omega
  · rw [Int.tmod_eq_emod_of_nonneg h0]
    have := Int.emod_nonneg x (show (n : Int) ≠ 0 by omega)
    omega

/-- Texts that are longer than any text are refused. -/
theorem Lex_long (s : ByteArray) (hs : 65536 < s.size) (k : Nat) : lexer_Lex.f k s = some ([], 0, 5) := by
  unfold lexer_Lex.f
  rw [if_pos (by omega)]

theorem u8_range {a : Int} (h : (Lit.int .u8 a).wf = true) : 0 ≤ a ∧ a ≤ 255 := by
  exact Go.bounds_u8 h

theorem text_le_join (L : List Lx.Tok) (t : Lx.Tok) (h : t ∈ L) : t.text.length ≤ (Lx.join L).length := by
  induction L with
  | nil => cases h
  | cons a L ih =>
    have e : Lx.join (a :: L) = a.text ++ Lx.join L := by simp [Lx.join]
    rw [e, List.length_append]
    rcases List.mem_cons.1 h with rfl | h
    · omega
    · have := ih h; omega

end Go.Proofs.YtjdljjjkmjhdnaaDoor.Pure
