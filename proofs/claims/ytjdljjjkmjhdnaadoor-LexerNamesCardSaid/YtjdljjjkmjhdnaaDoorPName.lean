/- What the printed Name comes to. -/
import Derived.Test.YtjdljjjkmjhdnaaDoorPx11
import Derived.Test.YtjdljjjkmjhdnaaDoorPLex
namespace Go.Proofs.YtjdljjjkmjhdnaaDoor.Pure
open Go.RowKit Go.Proofs.YtjdljjjkmjhdnaaDoor Go.Proofs.YtjdljjjkmjhdnaaDoor.P Go.Proofs.YtjdljjjkmjhdnaaDoorW.PrintWords Go.Proofs.YtjdljjjkmjhdnaaDoorW.PrintLast
set_option linter.unusedVariables false
set_option linter.unusedSimpArgs false

theorem lletter_f (c : UInt8) : lexer_letter.f (c.toNat : Int) = some (Lx.isL c) := by
  unfold lexer_letter.f Lx.isL
  by_cases h : (c.toNat : Int) ≥ 97
  · rw [if_pos h, decide_eq_true (by omega : 97 ≤ c.toNat), Bool.true_and]
    congr 1
    exact decide_eq_decide.2 (by omega)
  · rw [if_neg h, decide_eq_false (by omega : ¬ 97 ≤ c.toNat), Bool.false_and]
theorem bt_zero (s : ByteArray) (c : UInt8) (t : List UInt8) (h : s.data.toList = c :: t) : bt s 0 = (c.toNat : Int) := by
  have hsz : 0 < s.size := by rw [← size_list, h]; simp
  unfold bt
  rw [dif_pos (by simpa using hsz)]
  have e : s[(0 : Int).toNat]'(by simpa using hsz) = c := by
    have h1 : s.data.toList[0]'(by rw [h]; simp) = c := by simp only [h, List.getElem_cons_zero]
    exact h1
  rw [e]

theorem Name_f (s : ByteArray) : lexer_Name.f s = some (Lx.name s.data.toList) := by
  unfold lexer_Name.f
  rw [Lib.toList_data]
  cases h : s.data.toList with
  | nil => rw [if_pos rfl]; rfl
  | cons c t =>
    have hsz : s.size = (c :: t).length := by rw [← size_list, h]
    have hpos : 0 < s.size := by rw [hsz]; simp
    rw [if_neg (by simp)]
    by_cases h12 : s.size ≤ 12
    · rw [if_neg (by omega), if_pos (by omega), bt_zero s c t h, lletter_f]
      simp only [Option.bind_some]
      have hl : decide ((c :: t).length ≤ 12) = true := decide_eq_true (by omega)
      cases hc : Lx.isL c with
      | false =>
        rw [if_neg (by decide)]
        simp [Lx.name, hc]
      | true =>
        rw [if_pos rfl]
        unfold lexer_Keyword.f
        rw [h]
        simp only [Option.bind_some]
        cases hk : Lx.keyword (c :: t) with
        | true =>
          rw [if_pos rfl]
          simp [Lx.name, hk]
        | false =>
          rw [if_neg (by decide), token_f s hpos (by omega), h]
          simp only [Option.bind_some]
          have ht : Lx.token (c :: t) = (1, Lx.run Lx.isW (c :: t)) := by simp only [Lx.token]; rw [if_pos hc]
          rw [ht, if_pos (show (((1 : Nat) : Int)) = 1 from rfl)]
          congr 1
          have hr := Lx.run_full Lx.isW (c :: t)
          unfold Lx.name
          show ((((Lx.run Lx.isW (c :: t) : Nat) : Int)) == (s.size : Int)) = (decide (c :: t ≠ []) && decide ((c :: t).length ≤ 12) && Lx.isL c && !Lx.keyword (c :: t) && (c :: t).all Lx.isW)
          rw [hl, hk, hc, decide_eq_true (show c :: t ≠ [] by simp)]
          show _ = (c :: t).all Lx.isW
          rw [Bool.eq_iff_iff, beq_iff_eq, ← hr, hsz]
          omega
    · rw [if_pos (by omega)]
      have hl : decide ((c :: t).length ≤ 12) = false := decide_eq_false (by omega)
      unfold Lx.name
      rw [hl]
      simp

end Go.Proofs.YtjdljjjkmjhdnaaDoor.Pure
