/- The lexer's functions that hold closures or call the library, walked: token, and what it calls. -/
import Derived.Test.YtjdljjjkmjhdnaaDoorLexModel
import Derived.Test.YtjdljjjkmjhdnaaDoorLaid
import Derived.Test.YtjdljjjkmjhdnaaDoorPx0
import Derived.Test.YtjdljjjkmjhdnaaDoorShelf
import Derived.Lib.Hide
import Derived.Lib.IndexBytes
namespace Go.Proofs.YtjdljjjkmjhdnaaDoor.P
open Go.RowKit Go.Proofs.YtjdljjjkmjhdnaaDoor
set_option linter.unusedVariables false
set_option linter.unusedSimpArgs false

set_option maxHeartbeats 1000000 in
theorem letter_any (c : UInt8) (w : World) : Calls Tryd.prog 26 #[.int .u8 (c.toNat : Int)] w fun e w' => e = .returned (.bool (Lx.isL c)) ∧ w = w' := by
  by_cases h1 : 97 ≤ (c.toNat : Int) <;> by_cases h2 : (c.toNat : Int) ≤ 122
  all_goals
    go_enter Tryd.func26, Tryd.ntmps26
    go_wp2
    go_ret
    refine ⟨?_, rfl⟩
    simp [Lx.isL]
    omega

set_option maxHeartbeats 1000000 in
theorem digit_any (c : UInt8) (w : World) : Calls Tryd.prog 37 #[.int .u8 (c.toNat : Int)] w fun e w' => e = .returned (.bool (Lx.isD c)) ∧ w = w' := by
  by_cases h1 : 48 ≤ (c.toNat : Int) <;> by_cases h2 : (c.toNat : Int) ≤ 57
  all_goals
    go_enter Tryd.func37, Tryd.ntmps37
    go_wp2
    go_ret
    refine ⟨?_, rfl⟩
    simp [Lx.isD]
    omega

theorem byte_true {c : UInt8} {d : UInt8} {n : Int} (hn : (d.toNat : Int) = n) (h : c = d) : ((c.toNat : Int) == n) = true := by rw [beq_iff_eq, h]; exact hn
theorem byte_false {c : UInt8} {d : UInt8} {n : Int} (hn : (d.toNat : Int) = n) (h : ¬ c = d) : ((c.toNat : Int) == n) = false := by
  rw [beq_eq_false_iff_ne]
  intro e
  exact h (UInt8.toNat_inj.1 (by omega))

set_option maxHeartbeats 1000000 in
theorem space_any (c : UInt8) (w : World) : Calls Tryd.prog 38 #[.int .u8 (c.toNat : Int)] w fun e w' => e = .returned (.bool (Lx.isS c)) ∧ w = w' := by
  by_cases b1 : c = 32
  · have HR := Lib.hid (show Lx.isS c = true by rw [b1]; decide)
    have h1 := byte_true (n := 32) rfl b1
    clear b1
    go_enter Tryd.func38, Tryd.ntmps38
    go_wp2
    go_ret
    exact ⟨by rw [HR.out]; rfl, rfl⟩
  have h1 := byte_false (n := 32) rfl b1
  by_cases b2 : c = 9
  · have HR := Lib.hid (show Lx.isS c = true by rw [b2]; decide)
    have h2 := byte_true (n := 9) rfl b2
    clear b1 b2
    go_enter Tryd.func38, Tryd.ntmps38
    go_wp2
    go_ret
    exact ⟨by rw [HR.out]; rfl, rfl⟩
  have h2 := byte_false (n := 9) rfl b2
  by_cases b3 : c = 13
  · have HR := Lib.hid (show Lx.isS c = true by rw [b3]; decide)
    have h3 := byte_true (n := 13) rfl b3
    clear b1 b2 b3
    go_enter Tryd.func38, Tryd.ntmps38
    go_wp2
    go_ret
    exact ⟨by rw [HR.out]; rfl, rfl⟩
  have h3 := byte_false (n := 13) rfl b3
  by_cases b4 : c = 10
  · have HR := Lib.hid (show Lx.isS c = true by rw [b4]; decide)
    have h4 := byte_true (n := 10) rfl b4
    clear b1 b2 b3 b4
    go_enter Tryd.func38, Tryd.ntmps38
    go_wp2
    go_ret
    exact ⟨by rw [HR.out]; rfl, rfl⟩
  · have HR := Lib.hid (show Lx.isS c = false by simp [Lx.isS, b1, b2, b3, b4])
    have h4 := byte_false (n := 10) rfl b4
    clear b1 b2 b3 b4
    go_enter Tryd.func38, Tryd.ntmps38
    go_wp2
    go_ret
    exact ⟨by rw [HR.out]; rfl, rfl⟩

set_option maxHeartbeats 1000000 in
theorem word_any (c : UInt8) (w : World) : Calls Tryd.prog 36 #[.int .u8 (c.toNat : Int)] w fun e w' => e = .returned (.bool (Lx.isW c)) ∧ w = w' := by
  cases h : Lx.isL c
  all_goals
    have H := Lib.hid h
    clear h
    go_enter Tryd.func36, Tryd.ntmps36
    go_wp2_with (first | (go_at_call 26; refine (letter_any c _).mono ?_; rintro e w' ⟨rfl, rfl⟩; rw [H.out]) | (go_at_call 37; refine (digit_any c _).mono ?_; rintro e w' ⟨rfl, rfl⟩))
    go_ret
    exact ⟨by simp [Lx.isW, H.out], rfl⟩

set_option maxHeartbeats 1000000 in
theorem comment_any (c : UInt8) (w : World) : Calls Tryd.prog 39 #[.int .u8 (c.toNat : Int)] w fun e w' => e = .returned (.bool (Lx.isC c)) ∧ w = w' := by
  by_cases b4 : c = 10
  · have HR := Lib.hid (show Lx.isC c = false by rw [b4]; decide)
    have h4 := byte_true (n := 10) rfl b4
    have h5 : ((c.toNat : Int) != 10) = false := by rw [bne, h4]; rfl
    clear b4
    go_enter Tryd.func39, Tryd.ntmps39
    go_wp2
    go_ret
    exact ⟨by rw [HR.out]; rfl, rfl⟩
  · have HR := Lib.hid (show Lx.isC c = true by simp [Lx.isC, b4])
    have h4 := byte_false (n := 10) rfl b4
    have h5 : ((c.toNat : Int) != 10) = true := by rw [bne, h4]; rfl
    clear b4
    go_enter Tryd.func39, Tryd.ntmps39
    go_wp2
    go_ret
    exact ⟨by rw [HR.out]; rfl, rfl⟩

/-- A run of bytes of a kind, counted by the closure. -/
theorem run_at (p : UInt8 → Bool) (s : ByteArray) (k : Nat) (hk : k < s.size) : p s[k] = true → k ≤ Lx.run p s.data.toList → k + 1 ≤ Lx.run p s.data.toList := by
  intro hp h
  rcases Nat.lt_or_ge k (Lx.run p s.data.toList) with h1 | h1
  · exact h1
  · have e : Lx.run p s.data.toList = k := by omega
    have hd : s.data.toList.drop k = s[k] :: s.data.toList.drop (k + 1) := by
      have hl : k < s.data.toList.length := by rw [← Lib.size_eq]; exact hk
      rw [List.drop_eq_getElem_cons hl]
      rfl
    have := Lx.run_stop p s.data.toList s[k] (s.data.toList.drop (k + 1)) (by rw [e]; exact hd)
    rw [hp] at this
    exact absurd this (by decide)
theorem run_end (p : UInt8 → Bool) (s : ByteArray) (k : Nat) (hk : k < s.size) (hp : p s[k] = false) (h : k ≤ Lx.run p s.data.toList) : Lx.run p s.data.toList = k := by
  rcases Nat.lt_or_ge k (Lx.run p s.data.toList) with h1 | h1
  · have hl : k < s.data.toList.length := by rw [← Lib.size_eq]; exact hk
    have hm : s[k] ∈ s.data.toList.take (Lx.run p s.data.toList) := by
      rw [List.mem_iff_getElem]
      refine ⟨k, by rw [List.length_take]; omega, ?_⟩
      rw [List.getElem_take]
      rfl
    have := Lx.run_all p _ _ hm
    rw [hp] at this
    exact absurd this (by decide)
  · omega

set_option maxHeartbeats 2000000 in
theorem run_word (s : ByteArray) (B : Nat) (w : World) (hs : s.size ≤ 140737488351232) (hc : w.cell? ⟨B, 0, none⟩ = some (.string s)) :
    Calls Tryd.prog 35 #[.func (.func 36) #[] #[], .pointer (some ⟨B, 0, none⟩)] w fun e w' => e = .returned (.int .i64 (Lx.run Lx.isW s.data.toList)) ∧ w = w' := by
  go_enter Tryd.func35, Tryd.ntmps35
  go_wp2
  go_loop [4] (fun t => ∃ k : Nat, k ≤ s.size ∧ k ≤ Lx.run Lx.isW s.data.toList ∧ t = .int .i64 k) (fun t => s.size - (intOf t).toNat)
  case atStart => exact ⟨0, Nat.zero_le _, Nat.zero_le _, rfl⟩
  case round =>
    obtain ⟨k, hk, hr, rfl⟩ := hrel
    by_cases hlt : k < s.size
    · cases hpk : Lx.isW s[k] with
      | true =>
        have H1 := Lib.hid (run_at Lx.isW s k hlt hpk hr)
        have H2 := Lib.hid hpk
        clear hpk
        go_wp2_with (go_at_call 36; refine (word_any _ _).mono ?_; rintro e w' ⟨rfl, rfl⟩; rw [H2.out])
        go_round
        case rel => exact ⟨k + 1, by omega, H1.out, by go_num⟩
        case measure => simp [intOf]; omega
      | false =>
        have H1 := Lib.hid (run_end Lx.isW s k hlt hpk hr)
        have H2 := Lib.hid hpk
        clear hpk
        go_wp2_with (go_at_call 36; refine (word_any _ _).mono ?_; rintro e w' ⟨rfl, rfl⟩; rw [H2.out])
        go_ret
        exact ⟨by rw [H1.out]; rfl, rfl⟩
    · have hle := Lx.run_le Lx.isW s.data.toList
      have H1 := Lib.hid (show Lx.run Lx.isW s.data.toList = k by rw [← Lib.size_eq] at hle; omega)
      go_wp2
      go_ret
      exact ⟨by rw [H1.out]; rfl, rfl⟩

set_option maxHeartbeats 2000000 in
theorem run_digit (s : ByteArray) (B : Nat) (w : World) (hs : s.size ≤ 140737488351232) (hc : w.cell? ⟨B, 0, none⟩ = some (.string s)) :
    Calls Tryd.prog 35 #[.func (.func 37) #[] #[], .pointer (some ⟨B, 0, none⟩)] w fun e w' => e = .returned (.int .i64 (Lx.run Lx.isD s.data.toList)) ∧ w = w' := by
  go_enter Tryd.func35, Tryd.ntmps35
  go_wp2
  go_loop [4] (fun t => ∃ k : Nat, k ≤ s.size ∧ k ≤ Lx.run Lx.isD s.data.toList ∧ t = .int .i64 k) (fun t => s.size - (intOf t).toNat)
  case atStart => exact ⟨0, Nat.zero_le _, Nat.zero_le _, rfl⟩
  case round =>
    obtain ⟨k, hk, hr, rfl⟩ := hrel
    by_cases hlt : k < s.size
    · cases hpk : Lx.isD s[k] with
      | true =>
        have H1 := Lib.hid (run_at Lx.isD s k hlt hpk hr)
        have H2 := Lib.hid hpk
        clear hpk
        go_wp2_with (go_at_call 37; refine (digit_any _ _).mono ?_; rintro e w' ⟨rfl, rfl⟩; rw [H2.out])
        go_round
        case rel => exact ⟨k + 1, by omega, H1.out, by go_num⟩
        case measure => simp [intOf]; omega
      | false =>
        have H1 := Lib.hid (run_end Lx.isD s k hlt hpk hr)
        have H2 := Lib.hid hpk
        clear hpk
        go_wp2_with (go_at_call 37; refine (digit_any _ _).mono ?_; rintro e w' ⟨rfl, rfl⟩; rw [H2.out])
        go_ret
        exact ⟨by rw [H1.out]; rfl, rfl⟩
    · have hle := Lx.run_le Lx.isD s.data.toList
      have H1 := Lib.hid (show Lx.run Lx.isD s.data.toList = k by rw [← Lib.size_eq] at hle; omega)
      go_wp2
      go_ret
      exact ⟨by rw [H1.out]; rfl, rfl⟩

set_option maxHeartbeats 2000000 in
theorem run_space (s : ByteArray) (B : Nat) (w : World) (hs : s.size ≤ 140737488351232) (hc : w.cell? ⟨B, 0, none⟩ = some (.string s)) :
    Calls Tryd.prog 35 #[.func (.func 38) #[] #[], .pointer (some ⟨B, 0, none⟩)] w fun e w' => e = .returned (.int .i64 (Lx.run Lx.isS s.data.toList)) ∧ w = w' := by
  go_enter Tryd.func35, Tryd.ntmps35
  go_wp2
  go_loop [4] (fun t => ∃ k : Nat, k ≤ s.size ∧ k ≤ Lx.run Lx.isS s.data.toList ∧ t = .int .i64 k) (fun t => s.size - (intOf t).toNat)
  case atStart => exact ⟨0, Nat.zero_le _, Nat.zero_le _, rfl⟩
  case round =>
    obtain ⟨k, hk, hr, rfl⟩ := hrel
    by_cases hlt : k < s.size
    · cases hpk : Lx.isS s[k] with
      | true =>
        have H1 := Lib.hid (run_at Lx.isS s k hlt hpk hr)
        have H2 := Lib.hid hpk
        clear hpk
        go_wp2_with (go_at_call 38; refine (space_any _ _).mono ?_; rintro e w' ⟨rfl, rfl⟩; rw [H2.out])
        go_round
        case rel => exact ⟨k + 1, by omega, H1.out, by go_num⟩
        case measure => simp [intOf]; omega
      | false =>
        have H1 := Lib.hid (run_end Lx.isS s k hlt hpk hr)
        have H2 := Lib.hid hpk
        clear hpk
        go_wp2_with (go_at_call 38; refine (space_any _ _).mono ?_; rintro e w' ⟨rfl, rfl⟩; rw [H2.out])
        go_ret
        exact ⟨by rw [H1.out]; rfl, rfl⟩
    · have hle := Lx.run_le Lx.isS s.data.toList
      have H1 := Lib.hid (show Lx.run Lx.isS s.data.toList = k by rw [← Lib.size_eq] at hle; omega)
      go_wp2
      go_ret
      exact ⟨by rw [H1.out]; rfl, rfl⟩

set_option maxHeartbeats 2000000 in
theorem run_comment (s : ByteArray) (B : Nat) (w : World) (hs : s.size ≤ 140737488351232) (hc : w.cell? ⟨B, 0, none⟩ = some (.string s)) :
    Calls Tryd.prog 35 #[.func (.func 39) #[] #[], .pointer (some ⟨B, 0, none⟩)] w fun e w' => e = .returned (.int .i64 (Lx.run Lx.isC s.data.toList)) ∧ w = w' := by
  go_enter Tryd.func35, Tryd.ntmps35
  go_wp2
  go_loop [4] (fun t => ∃ k : Nat, k ≤ s.size ∧ k ≤ Lx.run Lx.isC s.data.toList ∧ t = .int .i64 k) (fun t => s.size - (intOf t).toNat)
  case atStart => exact ⟨0, Nat.zero_le _, Nat.zero_le _, rfl⟩
  case round =>
    obtain ⟨k, hk, hr, rfl⟩ := hrel
    by_cases hlt : k < s.size
    · cases hpk : Lx.isC s[k] with
      | true =>
        have H1 := Lib.hid (run_at Lx.isC s k hlt hpk hr)
        have H2 := Lib.hid hpk
        clear hpk
        go_wp2_with (go_at_call 39; refine (comment_any _ _).mono ?_; rintro e w' ⟨rfl, rfl⟩; rw [H2.out])
        go_round
        case rel => exact ⟨k + 1, by omega, H1.out, by go_num⟩
        case measure => simp [intOf]; omega
      | false =>
        have H1 := Lib.hid (run_end Lx.isC s k hlt hpk hr)
        have H2 := Lib.hid hpk
        clear hpk
        go_wp2_with (go_at_call 39; refine (comment_any _ _).mono ?_; rintro e w' ⟨rfl, rfl⟩; rw [H2.out])
        go_ret
        exact ⟨by rw [H1.out]; rfl, rfl⟩
    · have hle := Lx.run_le Lx.isC s.data.toList
      have H1 := Lib.hid (show Lx.run Lx.isC s.data.toList = k by rw [← Lib.size_eq] at hle; omega)
      go_wp2
      go_ret
      exact ⟨by rw [H1.out]; rfl, rfl⟩

/-! ### the words of the two constants -/
def signText : ByteArray := ⟨#[60, 60, 32, 62, 62, 32, 60, 61, 32, 62, 61, 32, 61, 61, 32, 33, 61, 32, 38, 38, 32, 124, 124, 32, 43, 32, 45, 32, 42, 32, 47, 32, 37, 32, 38, 32, 124, 32, 94, 32, 60, 32, 62, 32, 33, 32, 61, 32, 91, 32, 93, 32, 123, 32, 125, 32, 40, 32, 41, 32, 59, 32, 44]⟩
def keyText : ByteArray := ⟨#[97, 114, 114, 97, 121, 32, 98, 111, 117, 110, 100, 32, 101, 108, 115, 101, 32, 102, 111, 114, 32, 105, 102, 32, 105, 110, 32, 108, 111, 99, 107, 32, 111, 117, 116, 32, 112, 101, 114, 105, 111, 100, 32, 115, 104, 97, 114, 101, 100, 32, 116, 97, 115, 107, 32, 118, 97, 114, 32, 119, 104, 105, 108, 101]⟩
theorem fields_signs : Lib.fields signText.data.toList = Lx.signs := by decide
theorem fields_keys : Lib.fields keyText.data.toList = Lx.keywords := by decide
theorem ascii_signs : ∀ (j : Nat) b, signText.data.toList[j]? = some b → b.toNat < 128 := by
  have h : ∀ b ∈ signText.data.toList, b.toNat < 128 := by decide
  exact fun j b hb => h b (List.mem_of_getElem? hb)
theorem ascii_keys : ∀ (j : Nat) b, keyText.data.toList[j]? = some b → b.toNat < 128 := by
  have h : ∀ b ∈ keyText.data.toList, b.toNat < 128 := by decide
  exact fun j b hb => h b (List.mem_of_getElem? hb)
def sg (j : Nat) : ByteArray := ⟨(Lx.signs.getD j []).toArray⟩
def kw (j : Nat) : ByteArray := ⟨(Lx.keywords.getD j []).toArray⟩
theorem words_cell (l : List (List UInt8)) (w : World) (j : Nat) (hj : j < l.length) : (w.alloc (.cells (l.map fun x => Value.string ⟨x.toArray⟩).toArray 9)).cell? ⟨w.heap.size, j, none⟩ = some (.string ⟨(l.getD j []).toArray⟩) := by
  rw [World.cell?_alloc_at _ _ _ _ rfl]
  simp [List.getElem?_eq_getElem hj, List.getD_eq_getElem?_getD]
theorem sign_fields (w : World) (hL : Laid w) : Calls Tryd.prog 28 #[.string signText] w fun e w' => e = .returned (.slice (some ⟨w.heap.size, 0, none⟩) 28 28) ∧ (∀ j, j < 28 → w'.cell? ⟨w.heap.size, j, none⟩ = some (.string (sg j))) ∧ Below w.heap.size w w' := by
  refine (Tryd.strings_Fields signText w (by decide) ascii_signs hL.tab).mono ?_
  rintro e w' ⟨rfl, rfl⟩
  rw [fields_signs]
  exact ⟨rfl, fun j hj => words_cell Lx.signs w j hj, (Below.refl _ _).alloc (Nat.le_refl _) _⟩
theorem key_fields (w : World) (hL : Laid w) : Calls Tryd.prog 28 #[.string keyText] w fun e w' => e = .returned (.slice (some ⟨w.heap.size, 0, none⟩) 13 13) ∧ (∀ j, j < 13 → w'.cell? ⟨w.heap.size, j, none⟩ = some (.string (kw j))) ∧ Below w.heap.size w w' := by
  refine (Tryd.strings_Fields keyText w (by decide) ascii_keys hL.tab).mono ?_
  rintro e w' ⟨rfl, rfl⟩
  rw [fields_keys]
  exact ⟨rfl, fun j hj => words_cell Lx.keywords w j hj, (Below.refl _ _).alloc (Nat.le_refl _) _⟩

theorem sign_found (s : List UInt8) (k : Nat) (hk : k < 28) (h : ∀ j, j < k → (Lx.signs.getD j []).isPrefixOf s = false) (hp : (Lx.signs.getD k []).isPrefixOf s = true) : Lx.sign s = Lx.signs.getD k [] := by
  have key : ∀ (l : List (List UInt8)) (k : Nat), k < l.length → (∀ j, j < k → (l.getD j []).isPrefixOf s = false) → (l.getD k []).isPrefixOf s = true → l.find? (fun x => x.isPrefixOf s) = some (l.getD k []) := by
    intro l
    induction l with
    | nil => intro k hk; simp at hk
    | cons a l ih =>
      intro k hk h hp
      cases k with
      | zero => simp only [List.getD_cons_zero] at *; rw [List.find?_cons, hp]
      | succ k =>
        have h0 := h 0 (by omega)
        simp only [List.getD_cons_zero] at h0
        rw [List.find?_cons, h0]
        simp only [List.getD_cons_succ] at *
        exact ih k (by simpa using hk) (fun j hj => by have := h (j + 1) (by omega); simpa using this) hp
  unfold Lx.sign
  rw [key Lx.signs k hk h hp]
  rfl
theorem sign_none (s : List UInt8) (h : ∀ j, j < 28 → (Lx.signs.getD j []).isPrefixOf s = false) : Lx.sign s = [] := by
  rw [Lx.sign_nil]
  intro x hx
  obtain ⟨j, hj, rfl⟩ := List.mem_iff_getElem.1 hx
  have := h j hj
  rwa [List.getD_eq_getElem?_getD, List.getElem?_eq_getElem hj] at this

set_option maxHeartbeats 2000000 in
theorem sign_any (s : ByteArray) (w : World) (hL : Laid w) : Calls Tryd.prog 40 #[.string s] w fun e w' => e = .returned (.string ⟨(Lx.sign s.data.toList).toArray⟩) ∧ Below w.heap.size w w' := by
  go_enter Tryd.func40, Tryd.ntmps40
  go_wp2_with fail
  refine (sign_fields w hL).mono ?_
  rintro e w1 ⟨rfl, hcells, hb⟩
  have HC := Lib.hid hcells
  clear hcells
  go_wp2_with fail
  go_loop [7] (fun t => ∃ k : Nat, k ≤ 28 ∧ t = .int .i64 k ∧ Hid (∀ j, j < k → (Lx.signs.getD j []).isPrefixOf s.data.toList = false)) (fun t => 28 - (intOf t).toNat)
  case atStart => exact ⟨0, Nat.zero_le _, rfl, fun j hj => absurd hj (Nat.not_lt_zero _)⟩
  case round =>
    obtain ⟨k, hk, rfl, HN⟩ := hrel
    by_cases hlt : k < 28
    · have hcell := HC.out k hlt
      cases hp : Lib.hasPrefix s.data.toList (sg k).data.toList with
      | true =>
        have HF := Lib.hid (sign_found s.data.toList k hlt HN.out hp)
        have HP := Lib.hid hp
        clear hp
        go_wp2_with (go_at_call 32; refine (Tryd.strings_HasPrefix _ _ _).mono ?_; rintro e w' ⟨rfl, rfl⟩; rw [HP.out])
        go_ret
        exact ⟨by rw [HF.out]; rfl, hb⟩
      | false =>
        have HS := Lib.hid (show ∀ j, j < k + 1 → (Lx.signs.getD j []).isPrefixOf s.data.toList = false by
          intro j hj
          rcases Nat.lt_or_ge j k with h | h
          · exact HN.out j h
          · obtain rfl : j = k := by omega
            exact hp)
        have HP := Lib.hid hp
        clear hp HN
        go_wp2_with (go_at_call 32; refine (Tryd.strings_HasPrefix _ _ _).mono ?_; rintro e w' ⟨rfl, rfl⟩; rw [HP.out])
        go_round
        case rel => exact ⟨k + 1, by omega, by go_num, HS⟩
        case measure => simp [intOf]; omega
    · obtain rfl : k = 28 := by omega
      have HF := Lib.hid (sign_none s.data.toList HN.out)
      go_wp2
      go_ret
      exact ⟨by rw [HF.out]; rfl, hb⟩

theorem take_kw (x : ByteArray) : Lib.containsS ((List.range 13).map kw) x = Lx.keyword x.data.toList := by
  have hk : (List.range 13).map kw = Lx.keywords.map (fun l => (⟨l.toArray⟩ : ByteArray)) := by decide
  rw [hk]
  rw [Bool.eq_iff_iff, Lib.containsS_iff]
  unfold Lx.keyword
  simp only [List.mem_map, decide_eq_true_eq]
  constructor
  · rintro ⟨l, hl, rfl⟩; simpa using hl
  · intro h; exact ⟨_, h, by simp⟩

set_option maxHeartbeats 2000000 in
theorem keyword_any (s : ByteArray) (w : World) (hL : Laid w) : Calls Tryd.prog 18 #[.string s] w fun e w' => e = .returned (.bool (Lx.keyword s.data.toList)) ∧ Below w.heap.size w w' := by
  go_enter Tryd.func18, Tryd.ntmps18
  go_wp2_with fail
  refine (key_fields w hL).mono ?_
  rintro e w1 ⟨rfl, hcells, hb⟩
  have HC := Lib.hid hcells
  clear hcells
  go_wp2_with fail
  refine (Tryd.slices_Contains_string w.heap.size 0 13 13 ((List.range 13).map kw) s w1 (by simp) (by decide) ?_).mono ?_
  · intro j hj
    have hj' : j < 13 := by simpa using hj
    rw [Nat.zero_add, HC.out j hj']
    simp [List.getD_eq_getElem?_getD, hj']
  rintro e w2 ⟨rfl, rfl⟩
  rw [List.take_of_length_le (by simp), take_kw]
  go_wp2_with fail
  go_ret
  exact ⟨rfl, hb⟩

/-! ### token -/
theorem token_at (s : ByteArray) (h : 0 < s.size) : ∃ t, s.data.toList = s[0] :: t := by
  have hl : 0 < s.data.toList.length := by rw [← Lib.size_eq]; exact h
  refine ⟨s.data.toList.drop 1, ?_⟩
  have := List.drop_eq_getElem_cons hl
  rw [List.drop_zero] at this
  exact this

set_option maxHeartbeats 4000000 in
theorem token_any (s : ByteArray) (w : World) (hs : s.size ≤ 140737488351232) (h0 : 0 < s.size) (hL : Laid w) : Calls Tryd.prog 24 #[.string s] w fun e w' =>
    e = .returned (.tuple #[.int .u8 (Lx.token s.data.toList).1, .int .i64 (Lx.token s.data.toList).2]) ∧ Below w.heap.size w w' := by
  have hmf : ∀ (fn : Fn) (first cap : Array Value) (w : World), (Instr.makeFunc fn first cap).run Tryd.prog w = .ok (.func fn first cap) w := fun _ _ _ _ => rfl
  have hb : Below w.heap.size w (w.alloc (.cells #[.string s] 9)) := (Below.refl _ _).alloc (Nat.le_refl _) _
  have hL1 : Laid (w.alloc (.cells #[.string s] 9)) := hL.below hb
  have hc : (w.alloc (.cells #[.string s] 9)).cell? ⟨w.heap.size, 0, none⟩ = some (.string s) := by rw [World.cell?_alloc_at _ _ _ _ rfl]; rfl
  obtain ⟨t, ht⟩ := token_at s h0
  have HT := Lib.hid ht
  by_cases h1 : Lx.isL s[0] = true
  · have HR := Lib.hid (show Lx.token s.data.toList = (1, Lx.run Lx.isW s.data.toList) by rw [ht]; simp only [Lx.token]; rw [if_pos h1])
    have H1 := Lib.hid h1
    clear ht h1 HT
    go_enter Tryd.func24, Tryd.ntmps24
    go_wp2_with (first | (go_at_call 26; refine (letter_any _ _).mono ?_; rintro e w' ⟨rfl, rfl⟩; rw [H1.out]) | (go_at_call 35; refine (run_word s _ _ hs hc).mono ?_; rintro e w' ⟨rfl, rfl⟩))
    go_ret2
    exact ⟨by rw [HR.out]; rfl, hb⟩
  have h1' : Lx.isL s[0] = false := by simpa using h1
  by_cases h2 : Lx.isD s[0] = true
  · have HR := Lib.hid (show Lx.token s.data.toList = (2, Lx.run Lx.isD s.data.toList) by rw [ht]; simp only [Lx.token]; rw [if_neg h1, if_pos h2])
    have H1 := Lib.hid h1'
    have H2 := Lib.hid h2
    clear ht h1 h1' h2 HT
    go_enter Tryd.func24, Tryd.ntmps24
    go_wp2_with (first | (go_at_call 26; refine (letter_any _ _).mono ?_; rintro e w' ⟨rfl, rfl⟩; rw [H1.out]) | (go_at_call 37; refine (digit_any _ _).mono ?_; rintro e w' ⟨rfl, rfl⟩; rw [H2.out]) | (go_at_call 35; refine (run_digit s _ _ hs hc).mono ?_; rintro e w' ⟨rfl, rfl⟩))
    go_ret2
    exact ⟨by rw [HR.out]; rfl, hb⟩
  have h2' : Lx.isD s[0] = false := by simpa using h2
  by_cases h3 : Lx.isS s[0] = true
  · have HR := Lib.hid (show Lx.token s.data.toList = (4, Lx.run Lx.isS s.data.toList) by rw [ht]; simp only [Lx.token]; rw [if_neg h1, if_neg h2, if_pos h3])
    have H1 := Lib.hid h1'
    have H2 := Lib.hid h2'
    have H3 := Lib.hid h3
    clear ht h1 h1' h2 h2' h3 HT
    go_enter Tryd.func24, Tryd.ntmps24
    go_wp2_with (first | (go_at_call 26; refine (letter_any _ _).mono ?_; rintro e w' ⟨rfl, rfl⟩; rw [H1.out]) | (go_at_call 37; refine (digit_any _ _).mono ?_; rintro e w' ⟨rfl, rfl⟩; rw [H2.out]) | (go_at_call 38; refine (space_any _ _).mono ?_; rintro e w' ⟨rfl, rfl⟩; rw [H3.out]) | (go_at_call 35; refine (run_space s _ _ hs hc).mono ?_; rintro e w' ⟨rfl, rfl⟩))
    go_ret2
    exact ⟨by rw [HR.out]; rfl, hb⟩
  have h3' : Lx.isS s[0] = false := by simpa using h3
  by_cases h4 : s[0] = 35
  · have HR := Lib.hid (show Lx.token s.data.toList = (5, Lx.run Lx.isC s.data.toList) by rw [ht]; simp only [Lx.token]; rw [if_neg h1, if_neg h2, if_neg h3, if_pos h4])
    have H1 := Lib.hid h1'
    have H2 := Lib.hid h2'
    have H3 := Lib.hid h3'
    have h5 := byte_true (n := 35) rfl h4
    clear ht h1 h1' h2 h2' h3 h3' h4 HT
    go_enter Tryd.func24, Tryd.ntmps24
    go_wp2_with (first | (go_at_call 26; refine (letter_any _ _).mono ?_; rintro e w' ⟨rfl, rfl⟩; rw [H1.out]) | (go_at_call 37; refine (digit_any _ _).mono ?_; rintro e w' ⟨rfl, rfl⟩; rw [H2.out]) | (go_at_call 38; refine (space_any _ _).mono ?_; rintro e w' ⟨rfl, rfl⟩; rw [H3.out]) | (go_at_call 35; refine (run_comment s _ _ hs hc).mono ?_; rintro e w' ⟨rfl, rfl⟩))
    go_ret2
    exact ⟨by rw [HR.out]; rfl, hb⟩
  have HR := Lib.hid (show Lx.token s.data.toList = if Lx.sign s.data.toList = [] then (0, 0) else (3, (Lx.sign s.data.toList).length) by
    rw [ht]; simp only [Lx.token]; rw [if_neg h1, if_neg h2, if_neg h3, if_neg h4])
  have H1 := Lib.hid h1'
  have H2 := Lib.hid h2'
  have H3 := Lib.hid h3'
  have h5 := byte_false (n := 35) rfl h4
  clear ht h1 h1' h2 h2' h3 h3' h4 HT
  by_cases h6 : Lx.sign s.data.toList = []
  · have HS := Lib.hid h6
    clear h6
    go_enter Tryd.func24, Tryd.ntmps24
    go_wp2_with (first | (go_at_call 26; refine (letter_any _ _).mono ?_; rintro e w' ⟨rfl, rfl⟩; rw [H1.out]) | (go_at_call 37; refine (digit_any _ _).mono ?_; rintro e w' ⟨rfl, rfl⟩; rw [H2.out]) | (go_at_call 38; refine (space_any _ _).mono ?_; rintro e w' ⟨rfl, rfl⟩; rw [H3.out]) | (go_at_call 40; refine (sign_any s _ hL1).mono ?_; rintro e w2 ⟨rfl, hb2⟩; rw [HS.out]))
    go_ret2
    exact ⟨by rw [HR.out, if_pos HS.out]; rfl, hb.trans (hb2.mono (by simp))⟩
  · obtain ⟨c, r, hcr⟩ : ∃ c r, Lx.sign s.data.toList = c :: r := by
      cases h7 : Lx.sign s.data.toList with
      | nil => exact absurd h7 h6
      | cons c r => exact ⟨c, r, rfl⟩
    have HS := Lib.hid hcr
    have hlen : r.length ≤ 10 := by
      have hm := (Lx.sign_mem _ h6).1
      rw [hcr] at hm
      have : ∀ x ∈ Lx.signs, x.length ≤ 2 := by decide
      have := this _ hm
      simp at this; omega
    clear h6 hcr
    go_enter Tryd.func24, Tryd.ntmps24
    go_wp2_with (first | (go_at_call 26; refine (letter_any _ _).mono ?_; rintro e w' ⟨rfl, rfl⟩; rw [H1.out]) | (go_at_call 37; refine (digit_any _ _).mono ?_; rintro e w' ⟨rfl, rfl⟩; rw [H2.out]) | (go_at_call 38; refine (space_any _ _).mono ?_; rintro e w' ⟨rfl, rfl⟩; rw [H3.out]) | (go_at_call 40; refine (sign_any s _ hL1).mono ?_; rintro e w2 ⟨rfl, hb2⟩; rw [HS.out]))
    go_ret2
    exact ⟨by rw [HR.out, if_neg (by rw [HS.out]; simp), HS.out]; rfl, hb.trans (hb2.mono (by simp))⟩

/-! ### the contracts in the print's form -/
def lexer_token.f (a0 : ByteArray) : Option (Int × Int) := if a0.size = 0 then none else if a0.size ≤ 140737488351232 then some (((Lx.token a0.data.toList).1 : Int), ((Lx.token a0.data.toList).2 : Int)) else none
theorem lexer_token.calls (a0 : ByteArray) (r1 : Int) (r2 : Int) (w : World) (hL : Laid w) (h : lexer_token.f a0 = some (r1, r2)) :
    Calls Tryd.prog 24 #[.string a0] w fun e w' => e = .returned (.tuple #[.int .u8 r1, .int .i64 r2]) ∧ Below w.heap.size w w' := by
  unfold lexer_token.f at h
  by_cases h0 : a0.size = 0
  · rw [if_pos h0] at h; cases h
  · by_cases h1 : a0.size ≤ 140737488351232
    · rw [if_neg h0, if_pos h1] at h
      cases h
      exact token_any a0 w h1 (by omega) hL
    · rw [if_neg h0, if_neg h1] at h; cases h
def lexer_Keyword.f (a0 : ByteArray) : Option Bool := some (Lx.keyword a0.data.toList)
theorem lexer_Keyword.calls (a0 : ByteArray) (r : Bool) (w : World) (hL : Laid w) (h : lexer_Keyword.f a0 = some r) :
    Calls Tryd.prog 18 #[.string a0] w fun e w' => e = .returned (.bool r) ∧ Below w.heap.size w w' := by
  cases h
  exact keyword_any a0 w hL

end Go.Proofs.YtjdljjjkmjhdnaaDoor.P
