/- Part 6 of the texts that the laws of this seat share, joined. -/
import Derived.Test.YtlmmobfebjideaaDoorS5
import Derived.Test.YtlmmobfebjideaaDoorS4
import Derived.Lib.Hide
import Derived.Lib.IndexBytes
import Derived.MapKept

/- The lexer's functions that hold closures or call the library, walked: token, and what it calls. -/
namespace Go.Proofs.YtlmmobfebjideaaDoor.P
open Go.RowKit Go.Proofs.YtlmmobfebjideaaDoor
set_option linter.unusedVariables false
set_option linter.unusedSimpArgs false

set_option maxHeartbeats 1000000 in
theorem letter_any (c : UInt8) (w : World) : Calls Tryd.prog 47 #[.int .u8 (c.toNat : Int)] w fun e w' => e = .returned (.bool (Lx.isL c)) ∧ w = w' := by
  by_cases h1 : 97 ≤ (c.toNat : Int) <;> by_cases h2 : (c.toNat : Int) ≤ 122
  all_goals
    go_enter Tryd.func47, Tryd.ntmps47
    go_wp2
    go_ret
    refine ⟨?_, rfl⟩
    simp [Lx.isL]
    omega

set_option maxHeartbeats 1000000 in
theorem digit_any (c : UInt8) (w : World) : Calls Tryd.prog 57 #[.int .u8 (c.toNat : Int)] w fun e w' => e = .returned (.bool (Lx.isD c)) ∧ w = w' := by
  by_cases h1 : 48 ≤ (c.toNat : Int) <;> by_cases h2 : (c.toNat : Int) ≤ 57
  all_goals
    go_enter Tryd.func57, Tryd.ntmps57
    go_wp2
    go_ret
    refine ⟨?_, rfl⟩
    simp [Lx.isD]
    omega

theorem byte_true {c : UInt8} {d : UInt8} {n : Int} (hn : (d.toNat : Int) = n) (h : c = d) : ((c.toNat : Int) == n) = true := by rw [beq_iff_eq, h]; exact hn
theorem byte_false {c : UInt8} {d : UInt8} {n : Int} (hn : (d.toNat : Int) = n) (h : ¬ c = d) : ((c.toNat : Int) == n) = false := by
  rw [beq_eq_false_iff_ne]
  intro e
  exact h (UInt8.toNat_inj.1 (by omega))

set_option maxHeartbeats 1000000 in
theorem space_any (c : UInt8) (w : World) : Calls Tryd.prog 58 #[.int .u8 (c.toNat : Int)] w fun e w' => e = .returned (.bool (Lx.isS c)) ∧ w = w' := by
  by_cases b1 : c = 32
  · have HR := Lib.hid (show Lx.isS c = true by rw [b1]; decide)
    have h1 := byte_true (n := 32) rfl b1
    clear b1
    go_enter Tryd.func58, Tryd.ntmps58
    go_wp2
    go_ret
    exact ⟨by rw [HR.out]; rfl, rfl⟩
  have h1 := byte_false (n := 32) rfl b1
  by_cases b2 : c = 9
  · have HR := Lib.hid (show Lx.isS c = true by rw [b2]; decide)
    have h2 := byte_true (n := 9) rfl b2
    clear b1 b2
    go_enter Tryd.func58, Tryd.ntmps58
    go_wp2
    go_ret
    exact ⟨by rw [HR.out]; rfl, rfl⟩
  have h2 := byte_false (n := 9) rfl b2
  by_cases b3 : c = 13
  · have HR := Lib.hid (show Lx.isS c = true by rw [b3]; decide)
    have h3 := byte_true (n := 13) rfl b3
    clear b1 b2 b3
    go_enter Tryd.func58, Tryd.ntmps58
    go_wp2
    go_ret
    exact ⟨by rw [HR.out]; rfl, rfl⟩
  have h3 := byte_false (n := 13) rfl b3
  by_cases b4 : c = 10
  · have HR := Lib.hid (show Lx.isS c = true by rw [b4]; decide)
    have h4 := byte_true (n := 10) rfl b4
    clear b1 b2 b3 b4
    go_enter Tryd.func58, Tryd.ntmps58
    go_wp2
    go_ret
    exact ⟨by rw [HR.out]; rfl, rfl⟩
  · have HR := Lib.hid (show Lx.isS c = false by simp [Lx.isS, b1, b2, b3, b4])
    have h4 := byte_false (n := 10) rfl b4
    clear b1 b2 b3 b4
    go_enter Tryd.func58, Tryd.ntmps58
    go_wp2
    go_ret
    exact ⟨by rw [HR.out]; rfl, rfl⟩

set_option maxHeartbeats 1000000 in
theorem word_any (c : UInt8) (w : World) : Calls Tryd.prog 56 #[.int .u8 (c.toNat : Int)] w fun e w' => e = .returned (.bool (Lx.isW c)) ∧ w = w' := by
  cases h : Lx.isL c
  all_goals
    have H := Lib.hid h
    clear h
    go_enter Tryd.func56, Tryd.ntmps56
    go_wp2_with (first | (go_at_call 47; refine (letter_any c _).mono ?_; rintro e w' ⟨rfl, rfl⟩; rw [H.out]) | (go_at_call 57; refine (digit_any c _).mono ?_; rintro e w' ⟨rfl, rfl⟩))
    go_ret
    exact ⟨by simp [Lx.isW, H.out], rfl⟩

set_option maxHeartbeats 1000000 in
theorem comment_any (c : UInt8) (w : World) : Calls Tryd.prog 59 #[.int .u8 (c.toNat : Int)] w fun e w' => e = .returned (.bool (Lx.isC c)) ∧ w = w' := by
  by_cases b4 : c = 10
  · have HR := Lib.hid (show Lx.isC c = false by rw [b4]; decide)
    have h4 := byte_true (n := 10) rfl b4
    have h5 : ((c.toNat : Int) != 10) = false := by rw [bne, h4]; rfl
    clear b4
    go_enter Tryd.func59, Tryd.ntmps59
    go_wp2
    go_ret
    exact ⟨by rw [HR.out]; rfl, rfl⟩
  · have HR := Lib.hid (show Lx.isC c = true by simp [Lx.isC, b4])
    have h4 := byte_false (n := 10) rfl b4
    have h5 : ((c.toNat : Int) != 10) = true := by rw [bne, h4]; rfl
    clear b4
    go_enter Tryd.func59, Tryd.ntmps59
    go_wp2
    go_ret
    exact ⟨by rw [HR.out]; rfl, rfl⟩

/-- A run of bytes of a kind, counted by the closure. -/
theorem run_at (p : UInt8 → Bool) (s : ByteArray) (k : Nat) (hk : k < s.size) : p s[k] = true → k ≤ Lx.run p s.data.toList → k + 1 ≤ Lx.run p s.data.toList := by
  intro hp h
  rcases Nat.lt_or_ge k (Lx.run p s.data.toList) with h1 | h1
  · exact h1
  · have e : Lx.run p s.data.toList = k := by omega
    have hd : s.data.toList.drop k = s[k] :: s.data.toList.drop (k + 1) := by
      have hl : k < s.data.toList.length := by rw [← Lib.size_eq]; exact hk
      rw [List.drop_eq_getElem_cons hl]
      rfl
    have := Lx.run_stop p s.data.toList s[k] (s.data.toList.drop (k + 1)) (by rw [e]; exact hd)
    rw [hp] at this
    exact absurd this (by decide)
theorem run_end (p : UInt8 → Bool) (s : ByteArray) (k : Nat) (hk : k < s.size) (hp : p s[k] = false) (h : k ≤ Lx.run p s.data.toList) : Lx.run p s.data.toList = k := by
  rcases Nat.lt_or_ge k (Lx.run p s.data.toList) with h1 | h1
  · have hl : k < s.data.toList.length := by rw [← Lib.size_eq]; exact hk
    have hm : s[k] ∈ s.data.toList.take (Lx.run p s.data.toList) := by
      rw [List.mem_iff_getElem]
      refine ⟨k, by rw [List.length_take]; omega, ?_⟩
      rw [List.getElem_take]
      rfl
    have := Lx.run_all p _ _ hm
    rw [hp] at this
    exact absurd this (by decide)
  · omega

set_option maxHeartbeats 2000000 in
theorem run_word (s : ByteArray) (B : Nat) (w : World) (hs : s.size ≤ 140737488351232) (hc : w.cell? ⟨B, 0, none⟩ = some (.string s)) :
    Calls Tryd.prog 55 #[.func (.func 56) #[] #[], .pointer (some ⟨B, 0, none⟩)] w fun e w' => e = .returned (.int .i64 (Lx.run Lx.isW s.data.toList)) ∧ w = w' := by
  go_enter Tryd.func55, Tryd.ntmps55
  go_wp2
  go_loop [4] (fun t => ∃ k : Nat, k ≤ s.size ∧ k ≤ Lx.run Lx.isW s.data.toList ∧ t = .int .i64 k) (fun t => s.size - (intOf t).toNat)
  case atStart => exact ⟨0, Nat.zero_le _, Nat.zero_le _, rfl⟩
  case round =>
    obtain ⟨k, hk, hr, rfl⟩ := hrel
    by_cases hlt : k < s.size
    · cases hpk : Lx.isW s[k] with
      | true =>
        have H1 := Lib.hid (run_at Lx.isW s k hlt hpk hr)
        have H2 := Lib.hid hpk
        clear hpk
        go_wp2_with (go_at_call 56; refine (word_any _ _).mono ?_; rintro e w' ⟨rfl, rfl⟩; rw [H2.out])
        go_round
        case rel => exact ⟨k + 1, by omega, H1.out, by go_num⟩
        case measure => simp [intOf]; omega
      | false =>
        have H1 := Lib.hid (run_end Lx.isW s k hlt hpk hr)
        have H2 := Lib.hid hpk
        clear hpk
        go_wp2_with (go_at_call 56; refine (word_any _ _).mono ?_; rintro e w' ⟨rfl, rfl⟩; rw [H2.out])
        go_ret
        exact ⟨by rw [H1.out]; rfl, rfl⟩
    · have hle := Lx.run_le Lx.isW s.data.toList
      have H1 := Lib.hid (show Lx.run Lx.isW s.data.toList = k by rw [← Lib.size_eq] at hle; omega)
      go_wp2
      go_ret
      exact ⟨by rw [H1.out]; rfl, rfl⟩

set_option maxHeartbeats 2000000 in
theorem run_digit (s : ByteArray) (B : Nat) (w : World) (hs : s.size ≤ 140737488351232) (hc : w.cell? ⟨B, 0, none⟩ = some (.string s)) :
    Calls Tryd.prog 55 #[.func (.func 57) #[] #[], .pointer (some ⟨B, 0, none⟩)] w fun e w' => e = .returned (.int .i64 (Lx.run Lx.isD s.data.toList)) ∧ w = w' := by
  go_enter Tryd.func55, Tryd.ntmps55
  go_wp2
  go_loop [4] (fun t => ∃ k : Nat, k ≤ s.size ∧ k ≤ Lx.run Lx.isD s.data.toList ∧ t = .int .i64 k) (fun t => s.size - (intOf t).toNat)
  case atStart => exact ⟨0, Nat.zero_le _, Nat.zero_le _, rfl⟩
  case round =>
    obtain ⟨k, hk, hr, rfl⟩ := hrel
    by_cases hlt : k < s.size
    · cases hpk : Lx.isD s[k] with
      | true =>
        have H1 := Lib.hid (run_at Lx.isD s k hlt hpk hr)
        have H2 := Lib.hid hpk
        clear hpk
        go_wp2_with (go_at_call 57; refine (digit_any _ _).mono ?_; rintro e w' ⟨rfl, rfl⟩; rw [H2.out])
        go_round
        case rel => exact ⟨k + 1, by omega, H1.out, by go_num⟩
        case measure => simp [intOf]; omega
      | false =>
        have H1 := Lib.hid (run_end Lx.isD s k hlt hpk hr)
        have H2 := Lib.hid hpk
        clear hpk
        go_wp2_with (go_at_call 57; refine (digit_any _ _).mono ?_; rintro e w' ⟨rfl, rfl⟩; rw [H2.out])
        go_ret
        exact ⟨by rw [H1.out]; rfl, rfl⟩
    · have hle := Lx.run_le Lx.isD s.data.toList
      have H1 := Lib.hid (show Lx.run Lx.isD s.data.toList = k by rw [← Lib.size_eq] at hle; omega)
      go_wp2
      go_ret
      exact ⟨by rw [H1.out]; rfl, rfl⟩

set_option maxHeartbeats 2000000 in
theorem run_space (s : ByteArray) (B : Nat) (w : World) (hs : s.size ≤ 140737488351232) (hc : w.cell? ⟨B, 0, none⟩ = some (.string s)) :
    Calls Tryd.prog 55 #[.func (.func 58) #[] #[], .pointer (some ⟨B, 0, none⟩)] w fun e w' => e = .returned (.int .i64 (Lx.run Lx.isS s.data.toList)) ∧ w = w' := by
  go_enter Tryd.func55, Tryd.ntmps55
  go_wp2
  go_loop [4] (fun t => ∃ k : Nat, k ≤ s.size ∧ k ≤ Lx.run Lx.isS s.data.toList ∧ t = .int .i64 k) (fun t => s.size - (intOf t).toNat)
  case atStart => exact ⟨0, Nat.zero_le _, Nat.zero_le _, rfl⟩
  case round =>
    obtain ⟨k, hk, hr, rfl⟩ := hrel
    by_cases hlt : k < s.size
    · cases hpk : Lx.isS s[k] with
      | true =>
        have H1 := Lib.hid (run_at Lx.isS s k hlt hpk hr)
        have H2 := Lib.hid hpk
        clear hpk
        go_wp2_with (go_at_call 58; refine (space_any _ _).mono ?_; rintro e w' ⟨rfl, rfl⟩; rw [H2.out])
        go_round
        case rel => exact ⟨k + 1, by omega, H1.out, by go_num⟩
        case measure => simp [intOf]; omega
      | false =>
        have H1 := Lib.hid (run_end Lx.isS s k hlt hpk hr)
        have H2 := Lib.hid hpk
        clear hpk
        go_wp2_with (go_at_call 58; refine (space_any _ _).mono ?_; rintro e w' ⟨rfl, rfl⟩; rw [H2.out])
        go_ret
        exact ⟨by rw [H1.out]; rfl, rfl⟩
    · have hle := Lx.run_le Lx.isS s.data.toList
      have H1 := Lib.hid (show Lx.run Lx.isS s.data.toList = k by rw [← Lib.size_eq] at hle; omega)
      go_wp2
      go_ret
      exact ⟨by rw [H1.out]; rfl, rfl⟩

set_option maxHeartbeats 2000000 in
theorem run_comment (s : ByteArray) (B : Nat) (w : World) (hs : s.size ≤ 140737488351232) (hc : w.cell? ⟨B, 0, none⟩ = some (.string s)) :
    Calls Tryd.prog 55 #[.func (.func 59) #[] #[], .pointer (some ⟨B, 0, none⟩)] w fun e w' => e = .returned (.int .i64 (Lx.run Lx.isC s.data.toList)) ∧ w = w' := by
  go_enter Tryd.func55, Tryd.ntmps55
  go_wp2
  go_loop [4] (fun t => ∃ k : Nat, k ≤ s.size ∧ k ≤ Lx.run Lx.isC s.data.toList ∧ t = .int .i64 k) (fun t => s.size - (intOf t).toNat)
  case atStart => exact ⟨0, Nat.zero_le _, Nat.zero_le _, rfl⟩
  case round =>
    obtain ⟨k, hk, hr, rfl⟩ := hrel
    by_cases hlt : k < s.size
    · cases hpk : Lx.isC s[k] with
      | true =>
        have H1 := Lib.hid (run_at Lx.isC s k hlt hpk hr)
        have H2 := Lib.hid hpk
        clear hpk
        go_wp2_with (go_at_call 59; refine (comment_any _ _).mono ?_; rintro e w' ⟨rfl, rfl⟩; rw [H2.out])
        go_round
        case rel => exact ⟨k + 1, by omega, H1.out, by go_num⟩
        case measure => simp [intOf]; omega
      | false =>
        have H1 := Lib.hid (run_end Lx.isC s k hlt hpk hr)
        have H2 := Lib.hid hpk
        clear hpk
        go_wp2_with (go_at_call 59; refine (comment_any _ _).mono ?_; rintro e w' ⟨rfl, rfl⟩; rw [H2.out])
        go_ret
        exact ⟨by rw [H1.out]; rfl, rfl⟩
    · have hle := Lx.run_le Lx.isC s.data.toList
      have H1 := Lib.hid (show Lx.run Lx.isC s.data.toList = k by rw [← Lib.size_eq] at hle; omega)
      go_wp2
      go_ret
      exact ⟨by rw [H1.out]; rfl, rfl⟩

/-! ### the words of the two constants -/
def signText : ByteArray := ⟨#[60, 60, 32, 62, 62, 32, 60, 61, 32, 62, 61, 32, 61, 61, 32, 33, 61, 32, 38, 38, 32, 124, 124, 32, 43, 32, 45, 32, 42, 32, 47, 32, 37, 32, 38, 32, 124, 32, 94, 32, 60, 32, 62, 32, 33, 32, 61, 32, 91, 32, 93, 32, 123, 32, 125, 32, 40, 32, 41, 32, 59, 32, 44]⟩
def keyText : ByteArray := ⟨#[97, 114, 114, 97, 121, 32, 98, 111, 117, 110, 100, 32, 101, 108, 115, 101, 32, 102, 111, 114, 32, 105, 102, 32, 105, 110, 32, 108, 111, 99, 107, 32, 111, 117, 116, 32, 112, 101, 114, 105, 111, 100, 32, 115, 104, 97, 114, 101, 100, 32, 116, 97, 115, 107, 32, 118, 97, 114, 32, 119, 104, 105, 108, 101]⟩
theorem fields_signs : Lib.fields signText.data.toList = Lx.signs := by decide
theorem fields_keys : Lib.fields keyText.data.toList = Lx.keywords := by decide
theorem ascii_signs : ∀ (j : Nat) b, signText.data.toList[j]? = some b → b.toNat < 128 := by
  have h : ∀ b ∈ signText.data.toList, b.toNat < 128 := by decide
  exact fun j b hb => h b (List.mem_of_getElem? hb)
theorem ascii_keys : ∀ (j : Nat) b, keyText.data.toList[j]? = some b → b.toNat < 128 := by
  have h : ∀ b ∈ keyText.data.toList, b.toNat < 128 := by decide
  exact fun j b hb => h b (List.mem_of_getElem? hb)
def sg (j : Nat) : ByteArray := ⟨(Lx.signs.getD j []).toArray⟩
def kw (j : Nat) : ByteArray := ⟨(Lx.keywords.getD j []).toArray⟩
theorem words_cell (l : List (List UInt8)) (w : World) (j : Nat) (hj : j < l.length) : (w.alloc (.cells (l.map fun x => Value.string ⟨x.toArray⟩).toArray 9)).cell? ⟨w.heap.size, j, none⟩ = some (.string ⟨(l.getD j []).toArray⟩) := by
  rw [World.cell?_alloc_at _ _ _ _ rfl]
  simp [List.getElem?_eq_getElem hj, List.getD_eq_getElem?_getD]
theorem sign_fields (w : World) (hL : Laid w) : Calls Tryd.prog 54 #[.string signText] w fun e w' => e = .returned (.slice (some ⟨w.heap.size, 0, none⟩) 28 28) ∧ (∀ j, j < 28 → w'.cell? ⟨w.heap.size, j, none⟩ = some (.string (sg j))) ∧ Below w.heap.size w w' := by
  refine (Tryd.strings_Fields signText w (by decide) ascii_signs hL.tab).mono ?_
  rintro e w' ⟨rfl, rfl⟩
  rw [fields_signs]
  exact ⟨rfl, fun j hj => words_cell Lx.signs w j hj, (Below.refl _ _).alloc (Nat.le_refl _) _⟩
theorem key_fields (w : World) (hL : Laid w) : Calls Tryd.prog 54 #[.string keyText] w fun e w' => e = .returned (.slice (some ⟨w.heap.size, 0, none⟩) 13 13) ∧ (∀ j, j < 13 → w'.cell? ⟨w.heap.size, j, none⟩ = some (.string (kw j))) ∧ Below w.heap.size w w' := by
  refine (Tryd.strings_Fields keyText w (by decide) ascii_keys hL.tab).mono ?_
  rintro e w' ⟨rfl, rfl⟩
  rw [fields_keys]
  exact ⟨rfl, fun j hj => words_cell Lx.keywords w j hj, (Below.refl _ _).alloc (Nat.le_refl _) _⟩

theorem sign_found (s : List UInt8) (k : Nat) (hk : k < 28) (h : ∀ j, j < k → (Lx.signs.getD j []).isPrefixOf s = false) (hp : (Lx.signs.getD k []).isPrefixOf s = true) : Lx.sign s = Lx.signs.getD k [] := by
  have key : ∀ (l : List (List UInt8)) (k : Nat), k < l.length → (∀ j, j < k → (l.getD j []).isPrefixOf s = false) → (l.getD k []).isPrefixOf s = true → l.find? (fun x => x.isPrefixOf s) = some (l.getD k []) := by
    intro l
    induction l with
    | nil => intro k hk; simp at hk
    | cons a l ih =>
      intro k hk h hp
      cases k with
      | zero => simp only [List.getD_cons_zero] at *; rw [List.find?_cons, hp]
      | succ k =>
        have h0 := h 0 (by omega)
        simp only [List.getD_cons_zero] at h0
        rw [List.find?_cons, h0]
        simp only [List.getD_cons_succ] at *
        exact ih k (by simpa using hk) (fun j hj => by have := h (j + 1) (by omega); simpa using this) hp
  unfold Lx.sign
  rw [key Lx.signs k hk h hp]
  rfl
theorem sign_none (s : List UInt8) (h : ∀ j, j < 28 → (Lx.signs.getD j []).isPrefixOf s = false) : Lx.sign s = [] := by
  rw [Lx.sign_nil]
  intro x hx
  obtain ⟨j, hj, rfl⟩ := List.mem_iff_getElem.1 hx
  have := h j hj
  rwa [List.getD_eq_getElem?_getD, List.getElem?_eq_getElem hj] at this

set_option maxHeartbeats 2000000 in
theorem sign_any (s : ByteArray) (w : World) (hL : Laid w) : Calls Tryd.prog 60 #[.string s] w fun e w' => e = .returned (.string ⟨(Lx.sign s.data.toList).toArray⟩) ∧ Below w.heap.size w w' := by
  go_enter Tryd.func60, Tryd.ntmps60
  go_wp2_with fail
  refine (sign_fields w hL).mono ?_
  rintro e w1 ⟨rfl, hcells, hb⟩
  have HC := Lib.hid hcells
  clear hcells
  go_wp2_with fail
  go_loop [7] (fun t => ∃ k : Nat, k ≤ 28 ∧ t = .int .i64 k ∧ Hid (∀ j, j < k → (Lx.signs.getD j []).isPrefixOf s.data.toList = false)) (fun t => 28 - (intOf t).toNat)
  case atStart => exact ⟨0, Nat.zero_le _, rfl, fun j hj => absurd hj (Nat.not_lt_zero _)⟩
  case round =>
    obtain ⟨k, hk, rfl, HN⟩ := hrel
    by_cases hlt : k < 28
    · have hcell := HC.out k hlt
      cases hp : Lib.hasPrefix s.data.toList (sg k).data.toList with
      | true =>
        have HF := Lib.hid (sign_found s.data.toList k hlt HN.out hp)
        have HP := Lib.hid hp
        clear hp
        go_wp2_with (go_at_call 71; refine (Tryd.strings_HasPrefix _ _ _).mono ?_; rintro e w' ⟨rfl, rfl⟩; rw [HP.out])
        go_ret
        exact ⟨by rw [HF.out]; rfl, hb⟩
      | false =>
        have HS := Lib.hid (show ∀ j, j < k + 1 → (Lx.signs.getD j []).isPrefixOf s.data.toList = false by
          intro j hj
          rcases Nat.lt_or_ge j k with h | h
          · exact HN.out j h
          · obtain rfl : j = k := by omega
            exact hp)
        have HP := Lib.hid hp
        clear hp HN
        go_wp2_with (go_at_call 71; refine (Tryd.strings_HasPrefix _ _ _).mono ?_; rintro e w' ⟨rfl, rfl⟩; rw [HP.out])
        go_round
        case rel => exact ⟨k + 1, by omega, by go_num, HS⟩
        case measure => simp [intOf]; omega
    · obtain rfl : k = 28 := by omega
      have HF := Lib.hid (sign_none s.data.toList HN.out)
      go_wp2
      go_ret
      exact ⟨by rw [HF.out]; rfl, hb⟩

theorem take_kw (x : ByteArray) : Lib.containsS ((List.range 13).map kw) x = Lx.keyword x.data.toList := by
  have hk : (List.range 13).map kw = Lx.keywords.map (fun l => (⟨l.toArray⟩ : ByteArray)) := by decide
  rw [hk]
  rw [Bool.eq_iff_iff, Lib.containsS_iff]
  unfold Lx.keyword
  simp only [List.mem_map, decide_eq_true_eq]
  constructor
  · rintro ⟨l, hl, rfl⟩; simpa using hl
  · intro h; exact ⟨_, h, by simp⟩

set_option maxHeartbeats 2000000 in
theorem keyword_any (s : ByteArray) (w : World) (hL : Laid w) : Calls Tryd.prog 48 #[.string s] w fun e w' => e = .returned (.bool (Lx.keyword s.data.toList)) ∧ Below w.heap.size w w' := by
  go_enter Tryd.func48, Tryd.ntmps48
  go_wp2_with fail
  refine (key_fields w hL).mono ?_
  rintro e w1 ⟨rfl, hcells, hb⟩
  have HC := Lib.hid hcells
  clear hcells
  go_wp2_with fail
  refine (Tryd.slices_Contains_string w.heap.size 0 13 13 ((List.range 13).map kw) s w1 (by simp) (by decide) ?_).mono ?_
  · intro j hj
    have hj' : j < 13 := by simpa using hj
    rw [Nat.zero_add, HC.out j hj']
    simp [List.getD_eq_getElem?_getD, hj']
  rintro e w2 ⟨rfl, rfl⟩
  rw [List.take_of_length_le (by simp), take_kw]
  go_wp2_with fail
  go_ret
  exact ⟨rfl, hb⟩

/-! ### token -/
theorem token_at (s : ByteArray) (h : 0 < s.size) : ∃ t, s.data.toList = s[0] :: t := by
  have hl : 0 < s.data.toList.length := by rw [← Lib.size_eq]; exact h
  refine ⟨s.data.toList.drop 1, ?_⟩
  have := List.drop_eq_getElem_cons hl
  rw [List.drop_zero] at this
  exact this

set_option maxHeartbeats 4000000 in
theorem token_any (s : ByteArray) (w : World) (hs : s.size ≤ 140737488351232) (h0 : 0 < s.size) (hL : Laid w) : Calls Tryd.prog 49 #[.string s] w fun e w' =>
    e = .returned (.tuple #[.int .u8 (Lx.token s.data.toList).1, .int .i64 (Lx.token s.data.toList).2]) ∧ Below w.heap.size w w' := by
  have hmf : ∀ (fn : Fn) (first cap : Array Value) (w : World), (Instr.makeFunc fn first cap).run Tryd.prog w = .ok (.func fn first cap) w := fun _ _ _ _ => rfl
  have hb : Below w.heap.size w (w.alloc (.cells #[.string s] 9)) := (Below.refl _ _).alloc (Nat.le_refl _) _
  have hL1 : Laid (w.alloc (.cells #[.string s] 9)) := hL.below hb
  have hc : (w.alloc (.cells #[.string s] 9)).cell? ⟨w.heap.size, 0, none⟩ = some (.string s) := by rw [World.cell?_alloc_at _ _ _ _ rfl]; rfl
  obtain ⟨t, ht⟩ := token_at s h0
  have HT := Lib.hid ht
  by_cases h1 : Lx.isL s[0] = true
  · have HR := Lib.hid (show Lx.token s.data.toList = (1, Lx.run Lx.isW s.data.toList) by rw [ht]; simp only [Lx.token]; rw [if_pos h1])
    have H1 := Lib.hid h1
    clear ht h1 HT
    go_enter Tryd.func49, Tryd.ntmps49
    go_wp2_with (first | (go_at_call 47; refine (letter_any _ _).mono ?_; rintro e w' ⟨rfl, rfl⟩; rw [H1.out]) | (go_at_call 55; refine (run_word s _ _ hs hc).mono ?_; rintro e w' ⟨rfl, rfl⟩))
    go_ret2
    exact ⟨by rw [HR.out]; rfl, hb⟩
  have h1' : Lx.isL s[0] = false := by simpa using h1
  by_cases h2 : Lx.isD s[0] = true
  · have HR := Lib.hid (show Lx.token s.data.toList = (2, Lx.run Lx.isD s.data.toList) by rw [ht]; simp only [Lx.token]; rw [if_neg h1, if_pos h2])
    have H1 := Lib.hid h1'
    have H2 := Lib.hid h2
    clear ht h1 h1' h2 HT
    go_enter Tryd.func49, Tryd.ntmps49
    go_wp2_with (first | (go_at_call 47; refine (letter_any _ _).mono ?_; rintro e w' ⟨rfl, rfl⟩; rw [H1.out]) | (go_at_call 57; refine (digit_any _ _).mono ?_; rintro e w' ⟨rfl, rfl⟩; rw [H2.out]) | (go_at_call 55; refine (run_digit s _ _ hs hc).mono ?_; rintro e w' ⟨rfl, rfl⟩))
    go_ret2
    exact ⟨by rw [HR.out]; rfl, hb⟩
  have h2' : Lx.isD s[0] = false := by simpa using h2
  by_cases h3 : Lx.isS s[0] = true
  · have HR := Lib.hid (show Lx.token s.data.toList = (4, Lx.run Lx.isS s.data.toList) by rw [ht]; simp only [Lx.token]; rw [if_neg h1, if_neg h2, if_pos h3])
    have H1 := Lib.hid h1'
    have H2 := Lib.hid h2'
    have H3 := Lib.hid h3
    clear ht h1 h1' h2 h2' h3 HT
    go_enter Tryd.func49, Tryd.ntmps49
    go_wp2_with (first | (go_at_call 47; refine (letter_any _ _).mono ?_; rintro e w' ⟨rfl, rfl⟩; rw [H1.out]) | (go_at_call 57; refine (digit_any _ _).mono ?_; rintro e w' ⟨rfl, rfl⟩; rw [H2.out]) | (go_at_call 58; refine (space_any _ _).mono ?_; rintro e w' ⟨rfl, rfl⟩; rw [H3.out]) | (go_at_call 55; refine (run_space s _ _ hs hc).mono ?_; rintro e w' ⟨rfl, rfl⟩))
    go_ret2
    exact ⟨by rw [HR.out]; rfl, hb⟩
  have h3' : Lx.isS s[0] = false := by simpa using h3
  by_cases h4 : s[0] = 35
  · have HR := Lib.hid (show Lx.token s.data.toList = (5, Lx.run Lx.isC s.data.toList) by rw [ht]; simp only [Lx.token]; rw [if_neg h1, if_neg h2, if_neg h3, if_pos h4])
    have H1 := Lib.hid h1'
    have H2 := Lib.hid h2'
    have H3 := Lib.hid h3'
    have h5 := byte_true (n := 35) rfl h4
    clear ht h1 h1' h2 h2' h3 h3' h4 HT
    go_enter Tryd.func49, Tryd.ntmps49
    go_wp2_with (first | (go_at_call 47; refine (letter_any _ _).mono ?_; rintro e w' ⟨rfl, rfl⟩; rw [H1.out]) | (go_at_call 57; refine (digit_any _ _).mono ?_; rintro e w' ⟨rfl, rfl⟩; rw [H2.out]) | (go_at_call 58; refine (space_any _ _).mono ?_; rintro e w' ⟨rfl, rfl⟩; rw [H3.out]) | (go_at_call 55; refine (run_comment s _ _ hs hc).mono ?_; rintro e w' ⟨rfl, rfl⟩))
    go_ret2
    exact ⟨by rw [HR.out]; rfl, hb⟩
  have HR := Lib.hid (show Lx.token s.data.toList = if Lx.sign s.data.toList = [] then (0, 0) else (3, (Lx.sign s.data.toList).length) by
    rw [ht]; simp only [Lx.token]; rw [if_neg h1, if_neg h2, if_neg h3, if_neg h4])
  have H1 := Lib.hid h1'
  have H2 := Lib.hid h2'
  have H3 := Lib.hid h3'
  have h5 := byte_false (n := 35) rfl h4
  clear ht h1 h1' h2 h2' h3 h3' h4 HT
  by_cases h6 : Lx.sign s.data.toList = []
  · have HS := Lib.hid h6
    clear h6
    go_enter Tryd.func49, Tryd.ntmps49
    go_wp2_with (first | (go_at_call 47; refine (letter_any _ _).mono ?_; rintro e w' ⟨rfl, rfl⟩; rw [H1.out]) | (go_at_call 57; refine (digit_any _ _).mono ?_; rintro e w' ⟨rfl, rfl⟩; rw [H2.out]) | (go_at_call 58; refine (space_any _ _).mono ?_; rintro e w' ⟨rfl, rfl⟩; rw [H3.out]) | (go_at_call 60; refine (sign_any s _ hL1).mono ?_; rintro e w2 ⟨rfl, hb2⟩; rw [HS.out]))
    go_ret2
    exact ⟨by rw [HR.out, if_pos HS.out]; rfl, hb.trans (hb2.mono (by simp))⟩
  · obtain ⟨c, r, hcr⟩ : ∃ c r, Lx.sign s.data.toList = c :: r := by
      cases h7 : Lx.sign s.data.toList with
      | nil => exact absurd h7 h6
      | cons c r => exact ⟨c, r, rfl⟩
    have HS := Lib.hid hcr
    have hlen : r.length ≤ 10 := by
      have hm := (Lx.sign_mem _ h6).1
      rw [hcr] at hm
      have : ∀ x ∈ Lx.signs, x.length ≤ 2 := by decide
      have := this _ hm
      simp at this; omega
    clear h6 hcr
    go_enter Tryd.func49, Tryd.ntmps49
    go_wp2_with (first | (go_at_call 47; refine (letter_any _ _).mono ?_; rintro e w' ⟨rfl, rfl⟩; rw [H1.out]) | (go_at_call 57; refine (digit_any _ _).mono ?_; rintro e w' ⟨rfl, rfl⟩; rw [H2.out]) | (go_at_call 58; refine (space_any _ _).mono ?_; rintro e w' ⟨rfl, rfl⟩; rw [H3.out]) | (go_at_call 60; refine (sign_any s _ hL1).mono ?_; rintro e w2 ⟨rfl, hb2⟩; rw [HS.out]))
    go_ret2
    exact ⟨by rw [HR.out, if_neg (by rw [HS.out]; simp), HS.out]; rfl, hb.trans (hb2.mono (by simp))⟩

/-! ### the contracts in the print's form -/
def lexer_token.f (a0 : ByteArray) : Option (Int × Int) := if a0.size = 0 then none else if a0.size ≤ 140737488351232 then some (((Lx.token a0.data.toList).1 : Int), ((Lx.token a0.data.toList).2 : Int)) else none
theorem lexer_token.calls (a0 : ByteArray) (r1 : Int) (r2 : Int) (w : World) (hL : Laid w) (h : lexer_token.f a0 = some (r1, r2)) :
    Calls Tryd.prog 49 #[.string a0] w fun e w' => e = .returned (.tuple #[.int .u8 r1, .int .i64 r2]) ∧ Below w.heap.size w w' := by
  unfold lexer_token.f at h
  by_cases h0 : a0.size = 0
  · rw [if_pos h0] at h; cases h
  · by_cases h1 : a0.size ≤ 140737488351232
    · rw [if_neg h0, if_pos h1] at h
      cases h
      exact token_any a0 w h1 (by omega) hL
    · rw [if_neg h0, if_neg h1] at h; cases h
def lexer_Keyword.f (a0 : ByteArray) : Option Bool := some (Lx.keyword a0.data.toList)
theorem lexer_Keyword.calls (a0 : ByteArray) (r : Bool) (w : World) (hL : Laid w) (h : lexer_Keyword.f a0 = some r) :
    Calls Tryd.prog 48 #[.string a0] w fun e w' => e = .returned (.bool r) ∧ Below w.heap.size w w' := by
  cases h
  exact keyword_any a0 w hL

end Go.Proofs.YtlmmobfebjideaaDoor.P

/- lexer.Name, walked. -/
namespace Go.Proofs.YtlmmobfebjideaaDoor.P
open Go.RowKit Go.Proofs.YtlmmobfebjideaaDoor
set_option linter.unusedVariables false
set_option linter.unusedSimpArgs false

set_option maxHeartbeats 4000000 in
theorem name_any (s : ByteArray) (w : World) (hL : Laid w) : Calls Tryd.prog 37 #[.string s] w fun e w' => e = .returned (.bool (Lx.name s.data.toList)) ∧ Below w.heap.size w w' := by
  have hlen : s.size = s.data.toList.length := Lib.size_eq s
  by_cases h0 : s.size = 0
  · have hs : s = ⟨#[]⟩ := by
      obtain ⟨⟨l⟩⟩ := s
      have : l.length = 0 := h0
      rw [List.eq_nil_of_length_eq_zero this]
    subst hs
    clear hlen h0
    go_enter Tryd.func37, Tryd.ntmps37
    go_wp2
    go_ret
    exact ⟨rfl, Below.refl _ _⟩
  have hp : 0 < s.size := by omega
  have g0 : s.toList.isEmpty = false := by
    obtain ⟨t, ht⟩ := token_at s hp
    rw [Lib.toList_data, ht]; rfl
  obtain ⟨t, ht⟩ := token_at s hp
  have hne : s.data.toList ≠ [] := by rw [ht]; simp
  by_cases h1 : 12 < s.size
  · have HR := Lib.hid (show Lx.name s.data.toList = false by
      unfold Lx.name
      rw [decide_eq_false (by omega : ¬ s.data.toList.length ≤ 12)]; simp)
    clear ht hne hlen
    go_enter Tryd.func37, Tryd.ntmps37
    go_wp2
    go_ret
    exact ⟨by rw [HR.out]; rfl, Below.refl _ _⟩
  have h1i : ¬ (12 : Int) < (s.size : Int) := by omega
  by_cases h2 : Lx.isL s[0] = true
  · have HL2 := Lib.hid h2
    cases h3 : Lx.keyword s.data.toList with
    | true =>
      have HR := Lib.hid (show Lx.name s.data.toList = false by unfold Lx.name; rw [h3]; simp)
      have H3 := Lib.hid h3
      clear ht hne hlen h2 h3
      go_enter Tryd.func37, Tryd.ntmps37
      go_wp2_with (first | (go_at_call 47; refine (letter_any _ _).mono ?_; rintro e w' ⟨rfl, rfl⟩; rw [HL2.out]) | (go_at_call 48; refine (keyword_any s _ hL).mono ?_; rintro e w' ⟨rfl, hb⟩; rw [H3.out]))
      go_ret
      exact ⟨by rw [HR.out]; rfl, hb⟩
    | false =>
      have H3 := Lib.hid h3
      have HT := Lib.hid (show Lx.token s.data.toList = (1, Lx.run Lx.isW s.data.toList) by rw [ht]; simp only [Lx.token]; rw [if_pos h2])
      have hrun : Lx.run Lx.isW s.data.toList ≤ s.size := by rw [hlen]; exact Lx.run_le _ _
      have HR := Lib.hid (show Lx.name s.data.toList = decide (Lx.run Lx.isW s.data.toList = s.size) by
        have hall := Lx.run_full Lx.isW s.data.toList
        unfold Lx.name
        rw [h3, decide_eq_true hne, decide_eq_true (by omega : s.data.toList.length ≤ 12), hlen]
        rw [ht]
        simp only [h2]
        rw [← ht]
        cases ha : s.data.toList.all Lx.isW with
        | true => rw [decide_eq_true (hall.2 ha)]; rfl
        | false => rw [decide_eq_false (fun h => by rw [hall.1 h] at ha; cases ha)]; rfl)
      have hL9 : ∀ W, Below w.heap.size w W → Laid W := fun W hb => hL.below hb
      have HL9 := Lib.hid hL9
      clear ht hne hlen h2 h3 hL9
      go_enter Tryd.func37, Tryd.ntmps37
      go_wp2_with (first
        | (go_at_call 47; refine (letter_any _ _).mono ?_; rintro e w' ⟨rfl, rfl⟩; rw [HL2.out])
        | (go_at_call 48; refine (keyword_any s _ hL).mono ?_; rintro e w' ⟨rfl, hb⟩; rw [H3.out])
        | (go_at_call 49; refine (token_any s _ (by omega) hp (HL9.out _ hb)).mono ?_; rintro e w2 ⟨rfl, hb2⟩; rw [HT.out]))
      go_ret
      refine ⟨?_, hb.trans (hb2.mono hb.size)⟩
      rw [HR.out]
      show Ending.returned (Value.bool (((Lx.run Lx.isW s.data.toList : Nat) : Int) == (s.size : Int))) = _
      congr 2
      rw [Bool.eq_iff_iff, beq_iff_eq, decide_eq_true_eq]
      omega
  · have h2' : Lx.isL s[0] = false := by simpa using h2
    have HR := Lib.hid (show Lx.name s.data.toList = false by unfold Lx.name; rw [ht]; simp [h2'])
    have HL2 := Lib.hid h2'
    clear ht hne hlen h2 h2'
    go_enter Tryd.func37, Tryd.ntmps37
    go_wp2_with (first | (go_at_call 47; refine (letter_any _ _).mono ?_; rintro e w' ⟨rfl, rfl⟩; rw [HL2.out]))
    go_ret
    exact ⟨by rw [HR.out]; rfl, Below.refl _ _⟩

end Go.Proofs.YtlmmobfebjideaaDoor.P

/- ast.IsExpr, ast.IsBlock, walked. -/
namespace Go.Proofs.YtlmmobfebjideaaDoor.P
open Go.RowKit Go.Proofs.YtlmmobfebjideaaDoor Go.Proofs.YtlmmobfebjideaaDoor.M Go.Proofs.YtlmmobfebjideaaDoorW.PrintWords
set_option linter.unusedVariables false
set_option linter.unusedSimpArgs false
attribute [local go_sem ↓] Go.wp_at_zero Go.wp_at_succ

def Cat (c : Nat) : Prop := c = 1 ∨ c = 2 ∨ c = 4 ∨ c = 8
/-- What is comes to, at a tree. -/
def IsC (n : Nd) : Prop := ∀ (c : Nat), Cat c → ∀ (r : Nat) (A : Option Addr) (cap : Nat) (w : World), n.f3.length ≤ cap → Kd.C kNd w A n.f3.length n.f3 → Laid w → MapF w r M.form →
  Calls Tryd.prog 19 #[.map (some r), nodeV n A cap, .int .u8 c] w fun e w' => e = .returned (.bool (isN c n)) ∧ Below w.heap.size w w'

set_option maxHeartbeats 4000000 in
set_option maxRecDepth 100000 in
theorem is1_any (n : Nd) (hi : IsC n) (r : Nat) (A : Option Addr) (cap : Nat) (p : Addr) (w : World) (hc : n.f3.length ≤ cap) (hr : Kd.C kNd w A n.f3.length n.f3) (hL : Laid w) (hM : MapF w r M.form) (hp : w.cell? p = some (.map (some r))) :
    Calls Tryd.prog 36 #[nodeV n A cap, .pointer (some p)] w fun e w' => e = .returned (.bool (!isN 4 n)) ∧ Below w.heap.size w w' := by
  have hb : Below w.heap.size w (boxed n A cap w) := (Below.refl _ _).alloc (Nat.le_refl _) _
  have HI := Lib.hid (hi 4 (.inr (.inr (.inl rfl))) r A cap (boxed n A cap w) hc (Kd.C_below hr hb) (hL.below hb) (hM.below hb))
  have HB := Lib.hid hb
  have hp1 : (boxed n A cap w).cell? p = some (.map (some r)) := (hb.cell (World.block_lt_of_cell? w _ hp)).trans hp
  clear hb hr hL hM hi hc
  go_enter Tryd.func36, Tryd.ntmps36
  go_wp2_with fail
  refine HI.out.mono ?_
  rintro e w1 ⟨rfl, hb1⟩
  have HB1 := Lib.hid (HB.out.trans (hb1.mono HB.out.size))
  clear hb1 HI
  go_wp2_with fail
  go_ret
  exact ⟨rfl, HB1.out⟩

/-- The index of the first child that is no statement, or -1. -/
theorem isAll_take (c : Nat) : ∀ (l : List Nd) (k : Nat), k < l.length → isAll c (l.take (k + 1)) = (isAll c (l.take k) && isN c (rd_T24 l (k : Int)))
  | [], k, h => by simp at h
  | a :: l, 0, h => by
    have e : rd_T24 (a :: l) ((0 : Nat) : Int) = a := rfl
    rw [e]; simp [isAll]
  | a :: l, k + 1, h => by
    have e : rd_T24 (a :: l) ((k + 1 : Nat) : Int) = rd_T24 l (k : Int) := by simp [rd_T24]
    have ih := isAll_take c l k (by simpa using h)
    rw [e, List.take_succ_cons, List.take_succ_cons, isAll, isAll, ih, Bool.and_assoc]
theorem isAll_false (c : Nat) : ∀ (l : List Nd) (k : Nat), isAll c (l.take k) = false → isAll c l = false
  | [], k, h => by cases k <;> simp [isAll] at h
  | a :: l, 0, h => by simp [isAll] at h
  | a :: l, k + 1, h => by
    rw [List.take_succ_cons, isAll] at h
    rw [isAll]
    cases h1 : isN c a with
    | false => rfl
    | true =>
      rw [h1, Bool.true_and] at h
      rw [isAll_false c l k h]; rfl

set_option maxHeartbeats 4000000 in
set_option maxRecDepth 100000 in
theorem index_any (l : List Nd) (hi : ∀ x ∈ l, IsC x) (r : Nat) (A : Option Addr) (cap : Nat) (p : Addr) (w : World) (hc : l.length ≤ cap) (hr : Kd.C kNd w A l.length l) (hL : Laid w) (hM : MapF w r M.form) (hp : w.cell? p = some (.map (some r))) :
    Calls Tryd.prog 46 #[.slice A l.length cap, .func (.func 36) #[] #[.pointer (some p)]] w fun e w' => (∃ i : Int, e = .returned (.int .i64 i) ∧ decide (0 ≤ i) = !isAll 4 l) ∧ Below w.heap.size w w' := by
  have hmax : l.length ≤ 9223372036854775807 := hr.2.1
  have HC := Aside0.mk hr
  have HL := Aside0.mk hL
  have HM := Aside0.mk hM
  have HI := Aside0.mk hi
  clear hr hL hM hi
  go_enter Tryd.func46, Tryd.ntmps46
  go_wp2
  go_loopw [8] (fun v8 wr => ∃ k : Nat, k ≤ l.length ∧ v8 = .int .i64 k ∧ Aside0 (isAll 4 (l.take k) = true) ∧ Aside0 (Below w.heap.size w wr)) (fun v8 _ => l.length - (intOf v8).toNat)
  case atStart => exact ⟨0, Nat.zero_le _, rfl, ⟨by simp [isAll]⟩, ⟨Below.refl _ _⟩⟩
  case round =>
    obtain ⟨k, hk, rfl, HT, HB⟩ := hrel
    by_cases hlt : k < l.length
    · obtain ⟨ad, B, d, e, hx0, hx1, hx2, hx3, hd, hC⟩ := at_T24 HC.out (k : Int) (by omega) (by omega)
      cases e
      replace hx0 := (HB.out.cell (World.block_lt_of_cell? w _ hx0)).trans hx0
      replace hx1 := (HB.out.cell (World.block_lt_of_cell? w _ hx1)).trans hx1
      replace hx2 := (HB.out.cell (World.block_lt_of_cell? w _ hx2)).trans hx2
      replace hx3 := (HB.out.cell (World.block_lt_of_cell? w _ hx3)).trans hx3
      have hp1 := (HB.out.cell (World.block_lt_of_cell? w _ hp)).trans hp
      simp only [Int.toNat_natCast] at hx0 hx1 hx2 hx3
      have hmem : rd_T24 l (k : Int) ∈ l := by
        unfold rd_T24
        rw [Int.toNat_natCast, List.getD_eq_getElem?_getD, List.getElem?_eq_getElem hlt]
        exact List.getElem_mem hlt
      have HN := Lib.hid (is1_any _ (HI.out _ hmem) r B d p wr hd (Kd.C_below hC HB.out) (HL.out.below HB.out) (HM.out.below HB.out) hp1)
      have HS := Lib.hid (isAll_take 4 l k hlt)
      clear hC hmem
      generalize rd_T24 l (k : Int) = n at *
      cases hn : isN 4 n with
      | false =>
        have HF := Lib.hid (show isAll 4 l = false from isAll_false 4 l (k + 1) (by rw [HS.out, hn, Bool.and_false]))
        have H1 := Lib.hid hn
        clear hn
        go_wp2_with fail
        refine HN.out.mono ?_
        rintro e w2 ⟨rfl, hb2⟩
        rw [H1.out]
        have HB2 := Lib.hid (HB.out.trans (hb2.mono HB.out.size))
        clear hb2
        go_wp2_with fail
        go_ret
        exact ⟨⟨k, rfl, by rw [HF.out]; simp⟩, HB2.out⟩
      | true =>
        have HF := Lib.hid (show isAll 4 (l.take (k + 1)) = true by rw [HS.out, hn, HT.out]; rfl)
        have H1 := Lib.hid hn
        clear hn
        go_wp2_with fail
        refine HN.out.mono ?_
        rintro e w2 ⟨rfl, hb2⟩
        rw [H1.out]
        have HB2 := Lib.hid (HB.out.trans (hb2.mono HB.out.size))
        clear hb2
        go_wp2_with fail
        go_roundw
        case rel => exact ⟨k + 1, by omega, by go_num, ⟨HF.out⟩, ⟨HB2.out⟩⟩
        case measure => simp [intOf]; omega
    · obtain rfl : k = l.length := by omega
      have HF := Lib.hid (show isAll 4 l = true by have := HT.out; rwa [List.take_length] at this)
      clear HT
      go_wp2_with fail
      go_ret
      exact ⟨⟨-1, rfl, by rw [HF.out]; rfl⟩, HB.out⟩

set_option maxHeartbeats 4000000 in
set_option maxRecDepth 100000 in
theorem contains_any (l : List Nd) (hi : ∀ x ∈ l, IsC x) (r : Nat) (A : Option Addr) (cap : Nat) (p : Addr) (w : World) (hc : l.length ≤ cap) (hr : Kd.C kNd w A l.length l) (hL : Laid w) (hM : MapF w r M.form) (hp : w.cell? p = some (.map (some r))) :
    Calls Tryd.prog 35 #[.slice A l.length cap, .func (.func 36) #[] #[.pointer (some p)]] w fun e w' => e = .returned (.bool (!isAll 4 l)) ∧ Below w.heap.size w w' := by
  have HN := Lib.hid (index_any l hi r A cap p w hc hr hL hM hp)
  clear hi hr hL hM hp
  go_enter Tryd.func35, Tryd.ntmps35
  go_wp2_with fail
  refine HN.out.mono ?_
  rintro e w2 ⟨⟨i, rfl, hd⟩, hb2⟩
  have HD := Lib.hid hd
  clear hd
  go_wp2_with fail
  go_ret
  refine ⟨?_, hb2⟩
  rw [← HD.out]
  rfl

theorem isZip_len : ∀ (ks : List Nat) (l : List Nd), isZip ks l = true → ks.length = l.length
  | [], [], _ => rfl
  | [], a :: l, h => by simp [isZip] at h
  | c :: ks, [], h => by simp [isZip] at h
  | c :: ks, a :: l, h => by
    rw [isZip, Bool.and_eq_true] at h
    rw [List.length_cons, List.length_cons, isZip_len ks l h.2]
theorem isZip_take : ∀ (ks : List Nat) (l : List Nd) (k : Nat), k < ks.length → k < l.length → isZip (ks.take (k + 1)) (l.take (k + 1)) = (isZip (ks.take k) (l.take k) && isN (ks.getD k 0) (rd_T24 l (k : Int)))
  | [], l, k, h, _ => by simp at h
  | c :: ks, [], k, _, h => by simp at h
  | c :: ks, a :: l, 0, _, _ => by
    have e : rd_T24 (a :: l) ((0 : Nat) : Int) = a := rfl
    rw [e]; simp [isZip]
  | c :: ks, a :: l, k + 1, h, h2 => by
    have e : rd_T24 (a :: l) ((k + 1 : Nat) : Int) = rd_T24 l (k : Int) := by simp [rd_T24]
    have ih := isZip_take ks l k (by simpa using h) (by simpa using h2)
    rw [e, List.take_succ_cons, List.take_succ_cons, List.take_succ_cons, List.take_succ_cons, isZip, isZip, ih, Bool.and_assoc]
    simp
theorem isZip_false : ∀ (ks : List Nat) (l : List Nd) (k : Nat), isZip (ks.take k) (l.take k) = false → isZip ks l = false
  | [], [], k, h => by cases k <;> simp [isZip] at h
  | [], a :: l, k, h => by simp [isZip]
  | c :: ks, [], k, h => by simp [isZip]
  | c :: ks, a :: l, 0, h => by simp [isZip] at h
  | c :: ks, a :: l, k + 1, h => by
    rw [List.take_succ_cons, List.take_succ_cons, isZip] at h
    rw [isZip]
    cases h1 : isN c a with
    | false => rfl
    | true =>
      rw [h1, Bool.true_and] at h
      rw [isZip_false ks l k h]; rfl
theorem kids_cell {W : World} {r : Nat} {A : Option Addr} {ks : List Nat} (h : KidsAt W r A ks) (k : Nat) (hk : k < ks.length) : ∃ b, A = some ⟨b, 0, none⟩ ∧ W.cell? ⟨b, k, none⟩ = some (.int .u8 (ks.getD k 0 : Nat)) := by
  rcases h with rfl | ⟨b, e, _, hh⟩
  · simp at hk
  · refine ⟨b, e, (blk_cell hh k).trans ?_⟩
    simp [hk, List.getD_eq_getElem?_getD]

set_option maxHeartbeats 4000000 in
set_option maxRecDepth 100000 in
theorem equal_any (l : List Nd) (ks : List Nat) (hi : ∀ x ∈ l, IsC x) (hks : ∀ x ∈ ks, Cat x) (r : Nat) (A A2 : Option Addr) (cap cap2 : Nat) (w : World) (hr : Kd.C kNd w A l.length l) (hK : KidsAt w r A2 ks) (hL : Laid w) (hM : MapF w r M.form) (hks2 : ks.length ≤ 9) :
    Calls Tryd.prog 38 #[.slice A l.length cap, .slice A2 ks.length cap2, .func (.func 19) #[.map (some r)] #[]] w fun e w' => e = .returned (.bool (isZip ks l)) ∧ Below w.heap.size w w' := by
  have hmax : l.length ≤ 9223372036854775807 := hr.2.1
  by_cases hne : l.length = ks.length
  · rw [← hne]
    have HNE := Aside0.mk hne
    clear hne
    have HC := Aside0.mk hr
    have HL := Aside0.mk hL
    have HM := Aside0.mk hM
    have HI := Aside0.mk hi
    have HK := Aside0.mk hK
    have HKS := Aside0.mk hks
    clear hr hL hM hi hK hks
    go_enter Tryd.func38, Tryd.ntmps38
    go_wp2
    go_loopw [17] (fun v wr => ∃ k : Nat, k ≤ l.length ∧ v = .int .i64 k ∧ Aside0 (isZip (ks.take k) (l.take k) = true) ∧ Aside0 (Below w.heap.size w wr)) (fun v _ => l.length - (intOf v).toNat)
    case atStart => exact ⟨0, Nat.zero_le _, rfl, ⟨by simp [isZip]⟩, ⟨Below.refl _ _⟩⟩
    case round =>
      obtain ⟨k, hk, rfl, HT, HB⟩ := hrel
      by_cases hlt : k < l.length
      · obtain ⟨ad, B, d, e, hx0, hx1, hx2, hx3, hd, hC⟩ := at_T24 HC.out (k : Int) (by omega) (by omega)
        cases e
        obtain ⟨b, e, hy⟩ := kids_cell HK.out k (HNE.out ▸ hlt)
        cases e
        replace hx0 := (HB.out.cell (World.block_lt_of_cell? w _ hx0)).trans hx0
        replace hx1 := (HB.out.cell (World.block_lt_of_cell? w _ hx1)).trans hx1
        replace hx2 := (HB.out.cell (World.block_lt_of_cell? w _ hx2)).trans hx2
        replace hx3 := (HB.out.cell (World.block_lt_of_cell? w _ hx3)).trans hx3
        simp only [Int.toNat_natCast] at hx0 hx1 hx2 hx3
        have hmem : rd_T24 l (k : Int) ∈ l := by
          unfold rd_T24
          rw [Int.toNat_natCast, List.getD_eq_getElem?_getD, List.getElem?_eq_getElem (by omega)]
          exact List.getElem_mem _
        have hcat : Cat (ks.getD k 0) := by
          refine HKS.out _ ?_
          rw [List.getD_eq_getElem?_getD, List.getElem?_eq_getElem (HNE.out ▸ hlt)]
          exact List.getElem_mem _
        have HS := Lib.hid (isZip_take ks l k (HNE.out ▸ hlt) hlt)
        have HI0 := Lib.hid (HI.out _ hmem)
        clear hmem
        generalize rd_T24 l (k : Int) = n at *
        generalize ks.getD k 0 = c at *
        have hb1 : Below wr.heap.size wr (wr.alloc (.cells #[.int .u8 n.f0, .int .i64 n.f1, .string n.f2, .slice B n.f3.length d] 24)) := (Below.refl _ _).alloc (Nat.le_refl _) _
        have hy1 : (wr.alloc (.cells #[.int .u8 n.f0, .int .i64 n.f1, .string n.f2, .slice B n.f3.length d] 24)).cell? ⟨b, k, none⟩ = some (.int .u8 (c : Nat)) := by
          have hy2 := (HB.out.cell (World.block_lt_of_cell? w _ hy)).trans hy
          exact (hb1.cell (World.block_lt_of_cell? wr _ hy2)).trans hy2
        have hB2 := HB.out.trans (hb1.mono HB.out.size)
        have HN := Lib.hid (HI0.out c hcat r B d _ hd (Kd.C_below hC hB2) (HL.out.below hB2) (HM.out.below hB2))
        have HB2 := Lib.hid hB2
        clear hC hb1 hB2 hcat hy
        cases hn : isN c n with
        | false =>
          have HF := Lib.hid (show isZip ks l = false from isZip_false ks l (k + 1) (by rw [HS.out, hn, Bool.and_false]))
          have H1 := Lib.hid hn
          clear hn
          go_wp2_with fail
          refine HN.out.mono ?_
          rintro e w2 ⟨rfl, hb2⟩
          rw [H1.out]
          have HB3 := Lib.hid (HB2.out.trans (hb2.mono HB2.out.size))
          clear hb2
          go_wp2_with fail
          go_ret
          exact ⟨by rw [HF.out]; rfl, HB3.out⟩
        | true =>
          have HF := Lib.hid (show isZip (ks.take (k + 1)) (l.take (k + 1)) = true by rw [HS.out, hn, HT.out]; rfl)
          have H1 := Lib.hid hn
          clear hn
          go_wp2_with fail
          refine HN.out.mono ?_
          rintro e w2 ⟨rfl, hb2⟩
          rw [H1.out]
          have HB3 := Lib.hid (HB2.out.trans (hb2.mono HB2.out.size))
          clear hb2
          go_wp2_with fail
          go_roundw
          case rel => exact ⟨k + 1, by omega, by go_num, ⟨HF.out⟩, ⟨HB3.out⟩⟩
          case measure => simp [intOf]; omega
      · obtain rfl : k = l.length := by omega
        have HF := Lib.hid (show isZip ks l = true by have := HT.out; rwa [List.take_length, HNE.out, List.take_length] at this)
        clear HT
        go_wp2_with fail
        go_ret
        exact ⟨by rw [HF.out]; rfl, HB.out⟩
  · have HF := Lib.hid (show isZip ks l = false by
      cases h : isZip ks l with
      | false => rfl
      | true => exact absurd (isZip_len ks l h).symm hne)
    have hne2 : ((l.length : Int) == (ks.length : Int)) = false := beq_eq_false_iff_ne.2 (by omega)
    clear hr hL hM hi hK hks
    go_enter Tryd.func38, Tryd.ntmps38
    go_wp2
    go_ret
    exact ⟨by rw [HF.out]; rfl, Below.refl _ _⟩

theorem form_info : (Tryd.prog.info? 64).map (fun i => (i.zero, i.size, i.bytes)) = some (some (.agg #[.int .u8 0, .bool false, .int .i64 0, .int .i64 0, .slice none 0 0]), 5, 48) := by kernel_rfl
theorem lookup_none {W : World} {r : Nat} (hM : MapF W r M.form) (k : Int) (h : M.form k = none) :
    (Instr.lookup 40 (.map (some r)) (.int .u8 k) true).run Tryd.prog W = .ok (.tuple #[.agg #[.int .u8 0, .bool false, .int .i64 0, .int .i64 0, .slice none 0 0], .bool false]) W := by
  obtain ⟨es, clock, h1, h2⟩ := hM
  have hn : Instr.findNow keyD (.int .u8 k) es.toList 0 = some none := by have := h2 k; rw [h] at this; exact this
  have hu : Tryd.prog.underlying 40 = some (.map 5 64) := Tryd.underlying40
  have hu8 : Tryd.prog.underlying 5 = some (.int .u8) := Tryd.underlying5
  have hkey : MapKept.IsKey keyD (.int .u8 k) := rfl
  have hrun : (Instr.findKey 5 (.int .u8 k) es.toList).run Tryd.prog W = .ok none W := MapKept.run_findKey hu8 hn
  obtain ⟨i, hi, hz⟩ := Option.map_eq_some_iff.1 form_info
  have hz1 : i.zero = some (.agg #[.int .u8 0, .bool false, .int .i64 0, .int .i64 0, .slice none 0 0]) := by injection hz
  simp [Instr.lookup, run_underlying hu, MapKept.run_getObj_map h1, MapKept.run_checkKey hu8 hkey, hrun, Result.andThen, zeroValue, typeInfo, hi, hz1]
theorem lookup_some {W : World} {r : Nat} (hM : MapF W r M.form) (k : Int) (f : M.Form) (h : M.form k = some f) : ∃ A c, f.kids.length ≤ c ∧ KidsAt W r A f.kids ∧
    (Instr.lookup 40 (.map (some r)) (.int .u8 k) true).run Tryd.prog W = .ok (.tuple #[.agg #[.int .u8 (mask f), .bool f.name, .int .i64 f.low, .int .i64 f.high, .slice A f.kids.length c], .bool true]) W := by
  obtain ⟨es, clock, h1, h2⟩ := hM
  have h3 := h2 k
  rw [h] at h3
  obtain ⟨i, A, c, hn, hc, hK⟩ := h3
  refine ⟨A, c, hc, hK, ?_⟩
  have hu : Tryd.prog.underlying 40 = some (.map 5 64) := Tryd.underlying40
  have hu8 : Tryd.prog.underlying 5 = some (.int .u8) := Tryd.underlying5
  have hkey : MapKept.IsKey keyD (.int .u8 k) := rfl
  have hrun : (Instr.findKey 5 (.int .u8 k) es.toList).run Tryd.prog W = .ok (some (i, formV f A c)) W := MapKept.run_findKey hu8 hn
  simp [Instr.lookup, run_underlying hu, MapKept.run_getObj_map h1, MapKept.run_checkKey hu8 hkey, hrun, Result.andThen, formV]

/-- What a form can be. -/
theorem form_cases (k : Int) (f : M.Form) (h : M.form k = some f) : (f.is = [1] ∨ f.is = [1, 2] ∨ f.is = [4]) ∧ (∀ x ∈ f.kids, Cat x) ∧ f.kids.length ≤ 9 := by
  unfold M.form at h
  by_cases g : 6 ≤ k ∧ k ≤ 23
  · rw [if_pos g] at h; injection h with h; subst h; exact ⟨by decide, by intro x hx; simp at hx <;> unfold Cat <;> omega, by decide⟩
  rw [if_neg g] at h
  clear g
  by_cases g : k = 1
  · rw [if_pos g] at h; injection h with h; subst h; exact ⟨by decide, by intro x hx; simp at hx <;> unfold Cat <;> omega, by decide⟩
  rw [if_neg g] at h
  clear g
  by_cases g : k = 2
  · rw [if_pos g] at h; injection h with h; subst h; exact ⟨by decide, by intro x hx; simp at hx <;> unfold Cat <;> omega, by decide⟩
  rw [if_neg g] at h
  clear g
  by_cases g : k = 3
  · rw [if_pos g] at h; injection h with h; subst h; exact ⟨by decide, by intro x hx; simp at hx <;> unfold Cat <;> omega, by decide⟩
  rw [if_neg g] at h
  clear g
  by_cases g : k = 4 ∨ k = 5
  · rw [if_pos g] at h; injection h with h; subst h; exact ⟨by decide, by intro x hx; simp at hx <;> unfold Cat <;> omega, by decide⟩
  rw [if_neg g] at h
  clear g
  by_cases g : k = 40
  · rw [if_pos g] at h; injection h with h; subst h; exact ⟨by decide, by intro x hx; simp at hx <;> unfold Cat <;> omega, by decide⟩
  rw [if_neg g] at h
  clear g
  by_cases g : k = 41
  · rw [if_pos g] at h; injection h with h; subst h; exact ⟨by decide, by intro x hx; simp at hx <;> unfold Cat <;> omega, by decide⟩
  rw [if_neg g] at h
  clear g
  by_cases g : k = 42
  · rw [if_pos g] at h; injection h with h; subst h; exact ⟨by decide, by intro x hx; simp at hx <;> unfold Cat <;> omega, by decide⟩
  rw [if_neg g] at h
  clear g
  by_cases g : k = 43
  · rw [if_pos g] at h; injection h with h; subst h; exact ⟨by decide, by intro x hx; simp at hx <;> unfold Cat <;> omega, by decide⟩
  rw [if_neg g] at h
  clear g
  by_cases g : k = 44
  · rw [if_pos g] at h; injection h with h; subst h; exact ⟨by decide, by intro x hx; simp at hx <;> unfold Cat <;> omega, by decide⟩
  rw [if_neg g] at h
  clear g
  by_cases g : k = 45
  · rw [if_pos g] at h; injection h with h; subst h; exact ⟨by decide, by intro x hx; simp at hx <;> unfold Cat <;> omega, by decide⟩
  rw [if_neg g] at h
  clear g
  by_cases g : k = 46
  · rw [if_pos g] at h; injection h with h; subst h; exact ⟨by decide, by intro x hx; simp at hx <;> unfold Cat <;> omega, by decide⟩
  rw [if_neg g] at h
  clear g
  cases h
theorem mask_and (f : M.Form) (c : Nat) (hf : f.is = [1] ∨ f.is = [1, 2] ∨ f.is = [4]) (hc : Cat c) : (bits BinOp.and IntKind.u8 (mask f) c == 0) = !f.is.contains c := by
  unfold mask
  rcases hf with h | h | h <;> rw [h] <;> rcases hc with rfl | rfl | rfl | rfl <;> decide

theorem isN_47 (c : Nat) (n : Nd) (hk : n.f0 = 47) : isN c n = (decide (c = 8) && decide (n.f1 = 0) && decide (n.f2.data.toList = []) && isAll 4 n.f3) := by
  obtain ⟨k, m, s, l⟩ := n
  simp only at hk
  subst hk
  rw [isN, if_pos rfl]
theorem isN_none (c : Nat) (n : Nd) (hk : n.f0 ≠ 47) (h : M.form n.f0 = none) : isN c n = false := by
  obtain ⟨k, m, s, l⟩ := n
  simp only at hk h
  rw [isN, if_neg hk, h]
theorem isN_some (c : Nat) (n : Nd) (hk : n.f0 ≠ 47) (f : M.Form) (h : M.form n.f0 = some f) : isN c n = (f.is.contains c && decide (f.low ≤ n.f1) && decide (n.f1 ≤ f.high) && (if f.name = true then Lx.name n.f2.data.toList else decide (n.f2.data.toList = [])) && isZip f.kids n.f3) := by
  obtain ⟨k, m, s, l⟩ := n
  simp only at hk h
  rw [isN, if_neg hk, h]
theorem empty_iff (s : ByteArray) : s.toList.isEmpty = decide (s.data.toList = []) := by
  rw [Lib.toList_data]
  cases s.data.toList <;> simp

abbrev boxed2 (n : Nd) (A : Option Addr) (cap r : Nat) (w : World) : World := (w.alloc (.cells #[.map (some r)] 40)).alloc (.cells #[.int .u8 n.f0, .int .i64 n.f1, .string n.f2, .slice A n.f3.length cap] 24)
theorem boxed2_below (n : Nd) (A : Option Addr) (cap r : Nat) (w : World) : Below w.heap.size w (boxed2 n A cap r w) :=
  ((Below.refl w.heap.size w).alloc (Nat.le_refl _) _).alloc (by simp) _

set_option maxHeartbeats 8000000 in
set_option maxRecDepth 100000 in
theorem is_block (n : Nd) (hk : n.f0 = 47) (hi : ∀ x ∈ n.f3, IsC x) : IsC n := by
  intro c hcat r A cap w hc hr hL hM
  have hb := boxed2_below n A cap r w
  have HE := Lib.hid (isN_47 c n hk)
  have g1 : (n.f0 == 47) = true := by rw [hk]; rfl
  have HB := Lib.hid hb
  by_cases h8 : c = 8
  · subst h8
    have b8 : (bits BinOp.and IntKind.u8 ((8 : Nat) : Int) 8 != 0) = true := by decide
    by_cases hm : n.f1 = 0
    · by_cases hs : n.f2.data.toList = []
      · have g3 : n.f2.toList.isEmpty = true := by rw [empty_iff, decide_eq_true hs]
        have g2 : (n.f1 == 0) = true := by rw [hm]; rfl
        have HN := Lib.hid (contains_any n.f3 hi r A cap ⟨w.heap.size, 0, none⟩ (boxed2 n A cap r w) hc (Kd.C_below hr hb) (hL.below hb) (hM.below hb) (by
          have h1 : (w.alloc (.cells #[.map (some r)] 40)).cell? ⟨w.heap.size, 0, none⟩ = some (.map (some r)) := by rw [World.cell?_alloc_at _ _ _ _ rfl]; rfl
          exact (((Below.refl _ _).alloc (Nat.le_refl _) _).cell (World.block_lt_of_cell? _ _ h1)).trans h1))
        have HR := Lib.hid (show isN 8 n = isAll 4 n.f3 by rw [HE.out, decide_eq_true hm, decide_eq_true hs]; rfl)
        clear hs hm hk hr hL hM hi hb
        go_enter Tryd.func19, Tryd.ntmps19
        go_wp2_with fail
        refine HN.out.mono ?_
        rintro e w2 ⟨rfl, hb2⟩
        have HB2 := Lib.hid (HB.out.trans (hb2.mono HB.out.size))
        clear hb2
        go_wp2_with fail
        go_ret
        refine ⟨?_, HB2.out⟩
        rw [HR.out]
        cases isAll 4 n.f3 <;> rfl
      · have g3 : n.f2.toList.isEmpty = false := by rw [empty_iff, decide_eq_false hs]
        have g2 : (n.f1 == 0) = true := by rw [hm]; rfl
        have HR := Lib.hid (show isN 8 n = false by rw [HE.out, decide_eq_false hs]; simp)
        clear hs hm hk hr hL hM hi hb
        go_enter Tryd.func19, Tryd.ntmps19
        go_wp2
        go_ret
        exact ⟨by rw [HR.out]; rfl, HB.out⟩
    · have g2 : (n.f1 == 0) = false := beq_eq_false_iff_ne.2 hm
      have HR := Lib.hid (show isN 8 n = false by rw [HE.out, decide_eq_false hm]; simp)
      clear hm hk hr hL hM hi hb
      go_enter Tryd.func19, Tryd.ntmps19
      go_wp2
      go_ret
      exact ⟨by rw [HR.out]; rfl, HB.out⟩
  · have b8 : (bits BinOp.and IntKind.u8 (c : Int) 8 != 0) = false := by
      rcases hcat with rfl | rfl | rfl | rfl
      · decide
      · decide
      · decide
      · exact absurd rfl h8
    have HR := Lib.hid (show isN c n = false by rw [HE.out, decide_eq_false h8]; simp)
    clear hk hr hL hM hi hb
    go_enter Tryd.func19, Tryd.ntmps19
    go_wp2
    go_ret
    exact ⟨by rw [HR.out]; rfl, HB.out⟩


set_option maxHeartbeats 16000000 in
set_option maxRecDepth 100000 in
theorem is_other (n : Nd) (hk : n.f0 ≠ 47) (hi : ∀ x ∈ n.f3, IsC x) : IsC n := by
  intro c hcat r A cap w hc hr hL hM
  have hb := boxed2_below n A cap r w
  have g1 : (n.f0 == 47) = false := beq_eq_false_iff_ne.2 hk
  have HB := Lib.hid hb
  cases hf : M.form n.f0 with
  | none =>
    have hlk := lookup_none (hM.below hb) n.f0 hf
    have HR := Lib.hid (isN_none c n hk hf)
    clear hf hk hr hL hM hi hb
    go_enter Tryd.func19, Tryd.ntmps19
    go_wp2
    go_ret
    exact ⟨by rw [HR.out]; rfl, HB.out.alloc HB.out.size _⟩
  | some f =>
    obtain ⟨A2, c2, hc2, hK, hlk⟩ := lookup_some (hM.below hb) n.f0 f hf
    obtain ⟨hfi, hfk, hfl⟩ := form_cases _ _ hf
    have HE := Lib.hid (isN_some c n hk f hf)
    have hma := mask_and f c hfi hcat
    have hL1 := hL.below hb
    have hb3 : ∀ cs, Below w.heap.size w ((boxed2 n A cap r w).alloc (.cells cs 64)) := fun cs => hb.alloc hb.size _
    have hb4 : ∀ cs, Below (boxed2 n A cap r w).heap.size (boxed2 n A cap r w) ((boxed2 n A cap r w).alloc (.cells cs 64)) := fun cs => (Below.refl _ _).alloc (Nat.le_refl _) _
    -- the two steps that may come behind: lexer.Name and EqualFunc
    have hname : ∀ cs, Calls Tryd.prog 37 #[.string n.f2] ((boxed2 n A cap r w).alloc (.cells cs 64)) fun e w' => e = .returned (.bool (Lx.name n.f2.data.toList)) ∧ Below ((boxed2 n A cap r w).alloc (.cells cs 64)).heap.size ((boxed2 n A cap r w).alloc (.cells cs 64)) w' := fun cs => name_any _ _ (hL1.below (hb4 cs))
    have hequal : ∀ cs W, Below ((boxed2 n A cap r w).alloc (.cells cs 64)).heap.size ((boxed2 n A cap r w).alloc (.cells cs 64)) W → Calls Tryd.prog 38 #[.slice A n.f3.length cap, .slice A2 f.kids.length c2, .func (.func 19) #[.map (some r)] #[]] W fun e w' => e = .returned (.bool (isZip f.kids n.f3)) ∧ Below W.heap.size W w' := fun cs W h => by
      have h2 : Below (boxed2 n A cap r w).heap.size (boxed2 n A cap r w) W := (hb4 cs).trans (h.mono (hb4 cs).size)
      exact equal_any n.f3 f.kids hi hfk r A A2 cap c2 W (Kd.C_below (Kd.C_below hr hb) h2) (hK.kept (.of h2)) (hL1.below h2) ((hM.below hb).below h2) hfl
    have HN := Lib.hid hname
    have HQ := Lib.hid hequal
    have HB3 := Lib.hid hb3
    have hmask : ∃ mk, mk = mask f := ⟨_, rfl⟩
    obtain ⟨mk, hmk⟩ := hmask
    rw [← hmk] at hma hlk
    obtain ⟨nm, hnm⟩ : ∃ x, x = f.name := ⟨_, rfl⟩
    obtain ⟨lo, hlo⟩ : ∃ x, x = f.low := ⟨_, rfl⟩
    obtain ⟨hi2, hhi2⟩ : ∃ x, x = f.high := ⟨_, rfl⟩
    obtain ⟨kl, hkl⟩ : ∃ x, x = f.kids.length := ⟨_, rfl⟩
    rw [← hnm, ← hlo, ← hhi2, ← hkl] at hlk
    rw [← hnm, ← hlo, ← hhi2] at HE
    rw [← hkl] at HQ
    clear hf hk hr hL hM hi hb hc2 hK hfi hfk hfl hL1 hb3 hb4 hname hequal hmk hnm hlo hhi2 hkl hcat hc
    cases h0 : f.is.contains c with
    | false =>
      rw [h0] at hma
      have HR := Lib.hid (show isN c n = false by rw [HE.out, h0]; simp)
      clear h0
      simp only [Bool.not_false] at hma
      go_enter Tryd.func19, Tryd.ntmps19
      go_wp2
      go_ret
      exact ⟨by rw [HR.out]; rfl, HB3.out _⟩
    | true =>
      rw [h0] at hma
      simp only [Bool.not_true] at hma
      have HE0 := Lib.hid h0
      clear h0
      by_cases h1 : n.f1 < lo
      · have HR := Lib.hid (show isN c n = false by rw [HE.out, decide_eq_false (by omega : ¬ lo ≤ n.f1)]; simp)
        go_enter Tryd.func19, Tryd.ntmps19
        go_wp2
        go_ret
        exact ⟨by rw [HR.out]; rfl, HB3.out _⟩
      by_cases h2 : hi2 < n.f1
      · have HR := Lib.hid (show isN c n = false by rw [HE.out, decide_eq_false (by omega : ¬ n.f1 ≤ hi2)]; simp)
        go_enter Tryd.func19, Tryd.ntmps19
        go_wp2
        go_ret
        exact ⟨by rw [HR.out]; rfl, HB3.out _⟩
      have HE1 := Lib.hid (show isN c n = ((if nm = true then Lx.name n.f2.data.toList else decide (n.f2.data.toList = [])) && isZip f.kids n.f3) by
        rw [HE.out, HE0.out, decide_eq_true (by omega : lo ≤ n.f1), decide_eq_true (by omega : n.f1 ≤ hi2)]; rfl)
      cases nm with
      | true =>
        cases h3 : Lx.name n.f2.data.toList with
        | false =>
          have HR := Lib.hid (show isN c n = false by rw [HE1.out, h3]; rfl)
          have H3 := Lib.hid h3
          clear h3
          go_enter Tryd.func19, Tryd.ntmps19
          go_wp2_with fail
          refine (HN.out _).mono ?_
          rintro e w2 ⟨rfl, hb2⟩
          rw [H3.out]
          have HB5 := Lib.hid ((HB3.out _).trans (hb2.mono (HB3.out _).size))
          clear hb2
          go_wp2_with fail
          go_ret
          exact ⟨by rw [HR.out]; rfl, HB5.out⟩
        | true =>
          have HR := Lib.hid (show isN c n = isZip f.kids n.f3 by rw [HE1.out, h3]; rfl)
          have H3 := Lib.hid h3
          clear h3
          go_enter Tryd.func19, Tryd.ntmps19
          go_wp2_with fail
          refine (HN.out _).mono ?_
          rintro e w2 ⟨rfl, hb2⟩
          rw [H3.out]
          have hB2 : Below (boxed2 n A cap r w).heap.size (boxed2 n A cap r w) w2 := ((Below.refl _ _).alloc (Nat.le_refl _) _).trans (hb2.mono (by simp))
          have k2 : w2.heap[w.heap.size + 2]? = some (.cells #[.int .u8 mk, .bool true, .int .i64 lo, .int .i64 hi2, .slice A2 kl c2] 64 (0, 0)) := by
            have := hb2.block (w.heap.size + 2) (by simp)
            rw [this]
            have e : (boxed2 n A cap r w).heap.size = w.heap.size + 2 := by simp
            rw [← e]
            exact heap_alloc_new _ _
          have k1 : w2.heap[w.heap.size + 1]? = some (.cells #[.int .u8 n.f0, .int .i64 n.f1, .string n.f2, .slice A n.f3.length cap] 24 (0, 0)) := by
            rw [hB2.block (w.heap.size + 1) (by simp)]
            have e : (w.alloc (.cells #[.map (some r)] 40)).heap.size = w.heap.size + 1 := by simp
            rw [← e]
            exact heap_alloc_new _ _
          have k0 : w2.heap[w.heap.size]? = some (.cells #[.map (some r)] 40 (0, 0)) := by
            rw [hB2.block (w.heap.size) (by simp <;> omega)]
            have h1 := ((Below.refl _ _).alloc (Nat.le_refl _) (.cells #[.int .u8 n.f0, .int .i64 n.f1, .string n.f2, .slice A n.f3.length cap] 24) : Below (w.alloc (.cells #[.map (some r)] 40)).heap.size (w.alloc (.cells #[.map (some r)] 40)) (boxed2 n A cap r w))
            rw [h1.block _ (by simp)]
            exact heap_alloc_new _ _
          have z0 : w2.cell? ⟨w.heap.size, 0, none⟩ = some (.map (some r)) := (blk_cell k0 0).trans rfl
          have z1 : w2.cell? ⟨w.heap.size + 1, 3, none⟩ = some (.slice A n.f3.length cap) := (blk_cell k1 3).trans rfl
          have z2 : w2.cell? ⟨w.heap.size + 2, 1, none⟩ = some (.bool true) := (blk_cell k2 1).trans rfl
          have z3 : w2.cell? ⟨w.heap.size + 2, 4, none⟩ = some (.slice A2 kl c2) := (blk_cell k2 4).trans rfl
          have HB4 := Lib.hid hb2
          have HB5 := Lib.hid ((HB3.out _).trans (hb2.mono (HB3.out _).size))
          clear hb2 hB2 k0 k1 k2
          go_wp2_with fail
          refine (HQ.out _ _ HB4.out).mono ?_
          rintro e w3 ⟨rfl, hb3⟩
          have HB6 := Lib.hid (HB5.out.trans (hb3.mono HB5.out.size))
          clear hb3
          go_wp2_with fail
          go_ret
          exact ⟨by rw [HR.out]; rfl, HB6.out⟩
      | false =>
        cases h3 : decide (n.f2.data.toList = []) with
        | false =>
          have g3 : n.f2.toList.isEmpty = false := by rw [empty_iff, h3]
          have HR := Lib.hid (show isN c n = false by rw [HE1.out, h3]; rfl)
          clear h3
          go_enter Tryd.func19, Tryd.ntmps19
          go_wp2
          go_ret
          exact ⟨by rw [HR.out]; rfl, HB3.out _⟩
        | true =>
          have g3 : n.f2.toList.isEmpty = true := by rw [empty_iff, h3]
          have HR := Lib.hid (show isN c n = isZip f.kids n.f3 by rw [HE1.out, h3]; rfl)
          clear h3
          go_enter Tryd.func19, Tryd.ntmps19
          go_wp2_with fail
          refine (HQ.out _ _ (Below.refl _ _)).mono ?_
          rintro e w2 ⟨rfl, hb2⟩
          have HB5 := Lib.hid ((HB3.out _).trans (hb2.mono (HB3.out _).size))
          clear hb2
          go_wp2_with fail
          go_ret
          exact ⟨by rw [HR.out]; rfl, HB5.out⟩

theorem is_any (n : Nd) : IsC n := by
  refine nd_ind (C := IsC) ?_ n
  intro k m s l ih
  by_cases hk : k = 47
  · exact is_block _ hk ih
  · exact is_other _ hk ih

end Go.Proofs.YtlmmobfebjideaaDoor.P

/- The printer's expressions with two operands, walked. -/
namespace Go.Proofs.YtlmmobfebjideaaDoor.P
open Go.RowKit Go.Proofs.YtlmmobfebjideaaDoor Go.Proofs.YtlmmobfebjideaaDoor.M Go.Proofs.YtlmmobfebjideaaDoorW.PrintWords
set_option linter.unusedVariables false
set_option linter.unusedSimpArgs false
attribute [local go_sem ↓] Go.wp_at_zero Go.wp_at_succ

set_option maxHeartbeats 16000000 in
set_option maxRecDepth 100000 in
theorem expr_bin (n a b : Nd) (hk : 6 ≤ n.f0 ∧ n.f0 ≤ 23) (e : n.f3 = [a, b]) (ha : isN 1 a = true) (hb0 : isN 1 b = true) (he : ExprC a) (he2 : ExprC b) (hlen : (pE n).length ≤ 4611686018427387904) : ExprC n := by
  intro A c w hc hr hL
  have hn : n.f3.length = 2 := by rw [e]; rfl
  have hE : ∀ A, boxed n A c w = w.alloc (.cells #[.int .u8 n.f0, .int .i64 n.f1, .string n.f2, .slice A 2 c] 24) := fun A => by show World.alloc _ _ = _; rw [hn]
  have hb : Below w.heap.size w (boxed n A c w) := (Below.refl _ _).alloc (Nat.le_refl _) _
  have HR := Lib.hid (show pE n = paren (wants a (levOf n.f0)) (pE a) ++ [32] ++ symOf n.f0 ++ [32] ++ paren (wants b (levOf n.f0 + 1)) (pE b) by
    obtain ⟨k, m, s, l⟩ := n
    simp only at hk e
    subst e
    simp only [pE]
    rw [if_neg (by omega), if_neg (by omega), if_neg (by omega), if_pos (by omega)]
    simp only [pE2, pEu])
  obtain ⟨ad, B, d, B2, d2, rfl, ⟨c0, c1, c2, c3, hl, hC⟩, ⟨x0, x1, x2, x3, hl2, hC2⟩⟩ := kid_two (Kd.C_below hr hb) e
  have hla := paren_le (wants a (levOf n.f0)) (pE a)
  have hlb := paren_le (wants b (levOf n.f0 + 1)) (pE b)
  have hlen2 : (paren (wants a (levOf n.f0)) (pE a)).length + 1 + (symOf n.f0).length + 1 + (paren (wants b (levOf n.f0 + 1)) (pE b)).length ≤ 4611686018427387904 := by
    have := HR.out
    rw [this] at hlen
    simpa only [List.length_append, List.length_cons, List.length_nil] using hlen
  have kL : 0 ≤ levOf n.f0 ∧ levOf n.f0 ≤ 100 := by
    have key : ∀ x ∈ opLevels, x ≤ 100 := by decide
    unfold levOf
    split
    · constructor
      · omega
      · have : opLevels.getD (n.f0 - 4).toNat 0 ≤ 100 := by
          rw [List.getD_eq_getElem?_getD]
          cases h9 : opLevels[(n.f0 - 4).toNat]? with
          | none => simp
          | some x => exact key x (List.mem_of_getElem? h9)
        omega
    · omega
  obtain ⟨S, hS⟩ : ∃ S : ByteArray, S = ⟨(paren (wants a (levOf n.f0)) (pE a)).toArray⟩ := ⟨_, rfl⟩
  obtain ⟨T, hT⟩ : ∃ T : ByteArray, T = ⟨(paren (wants b (levOf n.f0 + 1)) (pE b)).toArray⟩ := ⟨_, rfl⟩
  obtain ⟨Y, hY⟩ : ∃ Y : ByteArray, Y = ⟨(symOf n.f0).toArray⟩ := ⟨_, rfl⟩
  have z9 : S.size = (paren (wants a (levOf n.f0)) (pE a)).length ∧ T.size = (paren (wants b (levOf n.f0 + 1)) (pE b)).length ∧ Y.size = (symOf n.f0).length := by
    rw [hS, hT, hY, Lib.size_eq, Lib.size_eq, Lib.size_eq]; exact ⟨rfl, rfl, rfl⟩
  have q1 : S.size + 1 ≤ 9223372036854775807 := by omega
  have q1f : (9223372036854775807 < S.size + 1) = False := eq_false (by omega)
  have q2 : S.size + 1 + Y.size ≤ 9223372036854775807 := by omega
  have q2f : (9223372036854775807 < S.size + 1 + Y.size) = False := eq_false (by omega)
  have q3 : S.size + 1 + Y.size + 1 ≤ 9223372036854775807 := by omega
  have q3f : (9223372036854775807 < S.size + 1 + Y.size + 1) = False := eq_false (by omega)
  have q4 : S.size + 1 + Y.size + 1 + T.size ≤ 9223372036854775807 := by omega
  have q4f : (9223372036854775807 < S.size + 1 + Y.size + 1 + T.size) = False := eq_false (by omega)
  obtain ⟨lv, hlv0⟩ : ∃ lv : Int, lv = levOf n.f0 := ⟨_, rfl⟩
  have g1 : (n.f0 == 1) = false := beq_eq_false_iff_ne.2 (by omega)
  have g2 : (n.f0 == 2) = false := beq_eq_false_iff_ne.2 (by omega)
  have g3 : (n.f0 == 3) = false := beq_eq_false_iff_ne.2 (by omega)
  have hbin : M.binary n = true := by
    unfold M.binary
    rw [decide_eq_true hk.1, decide_eq_true hk.2]; rfl
  have bk : (boxed n (some ad) c w).heap[w.heap.size]? = _ := heap_alloc_new w _
  have z0 : (boxed n (some ad) c w).cell? ⟨w.heap.size, 0, none⟩ = some (.int .u8 n.f0) := (blk_cell bk 0).trans rfl
  have z3 : (boxed n (some ad) c w).cell? ⟨w.heap.size, 3, none⟩ = some (.slice (some ad) 2 c) := by rw [← hn]; exact (blk_cell bk 3).trans rfl
  have hL0 := hL.below hb
  rw [hE] at c0 c1 c2 c3 x0 x1 x2 x3 z0 z3 hC hC2 hb hL0
  have hbinc : ∀ W, Calls Tryd.prog 31 #[.agg #[.int .u8 n.f0, .int .i64 n.f1, .string n.f2, .slice (some ad) 2 c]] W fun e w' => e = .returned (.bool true) ∧ Below W.heap.size W w' := fun W => by
    have := binary_any n (some ad) c W
    unfold nodeV at this
    rw [hn, hbin] at this
    exact this
  obtain ⟨X, hX⟩ : ∃ X, X = w.alloc (.cells #[.int .u8 n.f0, .int .i64 n.f1, .string n.f2, .slice (some ad) 2 c] 24) := ⟨_, rfl⟩
  rw [← hX] at hC hC2 hL0 c0 c1 c2 c3 x0 x1 x2 x3 z0 z3 hb
  have hlv : ∀ W, Below X.heap.size X W → Calls Tryd.prog 32 #[.int .u8 n.f0] W fun e w' => e = .returned (.int .i64 lv) ∧ Below X.heap.size X w' := fun W h =>
    (level_any n.f0 (by omega) (by omega) W (hL0.below h)).mono (by rintro e w' ⟨rfl, h2⟩; exact ⟨by rw [hlv0], h.trans (h2.mono h.size)⟩)
  have hop : ∀ W, Below X.heap.size X W → Calls Tryd.prog 33 #[nodeV a B d, .int .i64 lv] W fun e w' => e = .returned (.string S) ∧ Below X.heap.size X w' := fun W h =>
    (operand_any a he (expr_kind a ha).1 (expr_kind a ha).2 (by omega) _ B d W hl (Kd.C_below hC h) (hL0.below h)).mono (by rintro e w' ⟨rfl, h2⟩; exact ⟨by rw [hS, hlv0], h.trans (h2.mono h.size)⟩)
  have hop2 : ∀ W, Below X.heap.size X W → Calls Tryd.prog 33 #[nodeV b B2 d2, .int .i64 (lv + 1)] W fun e w' => e = .returned (.string T) ∧ Below X.heap.size X w' := fun W h =>
    (operand_any b he2 (expr_kind b hb0).1 (expr_kind b hb0).2 (by omega) _ B2 d2 W hl2 (Kd.C_below hC2 h) (hL0.below h)).mono (by rintro e w' ⟨rfl, h2⟩; exact ⟨by rw [hT, hlv0], h.trans (h2.mono h.size)⟩)
  have hsy : ∀ W, Below X.heap.size X W → Calls Tryd.prog 34 #[.int .u8 n.f0] W fun e w' => e = .returned (.string Y) ∧ Below X.heap.size X w' := fun W h =>
    (symbol_any n.f0 (by omega) (by omega) W (hL0.below h)).mono (by rintro e w' ⟨rfl, h2⟩; exact ⟨by rw [hY], h.trans (h2.mono h.size)⟩)
  unfold nodeV at hop hop2
  clear hC hC2 hl hl2 hL0
  have hw64 : wrap64 (lv + 1) = lv + 1 := by unfold wrap64; omega
  rw [← hw64] at hop2
  clear hw64
  have HS := Lib.hid (And.intro hS (And.intro hT (And.intro hY hlv0)))
  clear hS hT hY hlv0 he he2 ha hb0 hla hlb hlen2 kL hlen hr hL
  rw [hX] at hop hop2 hlv hsy c0 c1 c2 c3 x0 x1 x2 x3 z0 z3 hb
  have HB := Lib.hid hb
  have HOP := Lib.hid hop
  have HOP2 := Lib.hid hop2
  have HOP3 := Lib.hid (show ∀ W, Below (w.alloc (.cells #[.int .u8 n.f0, .int .i64 n.f1, .string n.f2, .slice (some ad) 2 c] 24)).heap.size (w.alloc (.cells #[.int .u8 n.f0, .int .i64 n.f1, .string n.f2, .slice (some ad) 2 c] 24)) W → Calls Tryd.prog 33 #[.agg #[.int .u8 b.f0, .int .i64 b.f1, .string b.f2, .slice B2 b.f3.length d2], .int .i64 (IntKind.i64.wrap (lv + 1))] W fun e w' => e = .returned (.string T) ∧ Below (w.alloc (.cells #[.int .u8 n.f0, .int .i64 n.f1, .string n.f2, .slice (some ad) 2 c] 24)).heap.size (w.alloc (.cells #[.int .u8 n.f0, .int .i64 n.f1, .string n.f2, .slice (some ad) 2 c] 24)) w' by
    rw [Go.Proofs.YtlmmobfebjideaaDoorW.PrintLast.i64_w]; exact hop2)
  have HSY := Lib.hid hsy
  have HLV := Lib.hid hlv
  have HN := Lib.hid hbinc
  obtain ⟨m0, m1, m2, m3⟩ : ((∃ x, x = a.f0) ∧ (∃ x, x = a.f1) ∧ (∃ x, x = a.f2) ∧ (∃ x, x = a.f3.length)) := ⟨⟨_, rfl⟩, ⟨_, rfl⟩, ⟨_, rfl⟩, ⟨_, rfl⟩⟩
  obtain ⟨a0, m0⟩ := m0
  obtain ⟨a1, m1⟩ := m1
  obtain ⟨a2, m2⟩ := m2
  obtain ⟨a3, m3⟩ := m3
  rw [← m0] at c0 HOP
  rw [← m1] at c1 HOP
  rw [← m2] at c2 HOP
  rw [← m3] at c3 HOP
  clear m0 m1 m2 m3
  obtain ⟨m0, m1, m2, m3⟩ : ((∃ x, x = b.f0) ∧ (∃ x, x = b.f1) ∧ (∃ x, x = b.f2) ∧ (∃ x, x = b.f3.length)) := ⟨⟨_, rfl⟩, ⟨_, rfl⟩, ⟨_, rfl⟩, ⟨_, rfl⟩⟩
  obtain ⟨b0, m0⟩ := m0
  obtain ⟨b1, m1⟩ := m1
  obtain ⟨b2, m2⟩ := m2
  obtain ⟨b3, m3⟩ := m3
  rw [← m0] at x0 HOP2 HOP3
  rw [← m1] at x1 HOP2 HOP3
  rw [← m2] at x2 HOP2 HOP3
  rw [← m3] at x3 HOP2 HOP3
  clear m0 m1 m2 m3
  clear hop hop2 hsy hlv hX hb bk z9 hbin hbinc hE
  unfold nodeV
  rw [hn]
  clear hn e hc
  go_enter Tryd.func17, Tryd.ntmps17
  go_wp2_with fail
  generalize (w.alloc (.cells #[.int .u8 n.f0, .int .i64 n.f1, .string n.f2, .slice (some ad) 2 c] 24)) = W0 at *
  refine (HN.out W0).mono ?_
  rintro e W1 ⟨rfl, hb1⟩
  have k0 := fun (W : World) (h : Below W0.heap.size W0 W) {p : Addr} {v : Value} (z : W0.cell? p = some v) => (h.cell (World.block_lt_of_cell? W0 _ z)).trans z
  have y0 := k0 W1 hb1 z0
  have y3 := k0 W1 hb1 z3
  go_wp2_with fail
  refine (HLV.out W1 hb1).mono ?_
  rintro e W2 ⟨rfl, hb2⟩
  clear y0 y3
  have allS : ∀ W, Below W0.heap.size W0 W → (Below W0.heap.size W0 W ∧ W.cell? ⟨w.heap.size, 0, none⟩ = some (.int .u8 n.f0) ∧ W.cell? ⟨w.heap.size, 3, none⟩ = some (.slice (some ad) 2 c) ∧
      W.cell? ad = some (.int .u8 a0) ∧ W.cell? ⟨ad.block, ad.off + 1, none⟩ = some (.int .i64 a1) ∧ W.cell? ⟨ad.block, ad.off + 2, none⟩ = some (.string a2) ∧ W.cell? ⟨ad.block, ad.off + 3, none⟩ = some (.slice B a3 d) ∧
      W.cell? ⟨ad.block, ad.off + 4, none⟩ = some (.int .u8 b0) ∧ W.cell? ⟨ad.block, ad.off + 4 + 1, none⟩ = some (.int .i64 b1) ∧ W.cell? ⟨ad.block, ad.off + 4 + 2, none⟩ = some (.string b2) ∧ W.cell? ⟨ad.block, ad.off + 4 + 3, none⟩ = some (.slice B2 b3 d2)) := fun W h =>
    have k := fun {p : Addr} {v : Value} (z : W0.cell? p = some v) => (h.cell (World.block_lt_of_cell? W0 _ z)).trans z
    ⟨h, k z0, k z3, k c0, k c1, k c2, k c3, k x0, k x1, k x2, k x3⟩
  obtain ⟨y0, y1, y2, y3, y4, y5, y6, y7, y8, y9, y10⟩ := allS W2 hb2
  clear k0
  go_wp2_with fail
  go_region_held3 (fun W => Below W0.heap.size W0 W ∧ W.cell? ⟨w.heap.size, 0, none⟩ = some (.int .u8 n.f0) ∧ W.cell? ⟨w.heap.size, 3, none⟩ = some (.slice (some ad) 2 c) ∧
      W.cell? ad = some (.int .u8 a0) ∧ W.cell? ⟨ad.block, ad.off + 1, none⟩ = some (.int .i64 a1) ∧ W.cell? ⟨ad.block, ad.off + 2, none⟩ = some (.string a2) ∧ W.cell? ⟨ad.block, ad.off + 3, none⟩ = some (.slice B a3 d) ∧
      W.cell? ⟨ad.block, ad.off + 4, none⟩ = some (.int .u8 b0) ∧ W.cell? ⟨ad.block, ad.off + 4 + 1, none⟩ = some (.int .i64 b1) ∧ W.cell? ⟨ad.block, ad.off + 4 + 2, none⟩ = some (.string b2) ∧ W.cell? ⟨ad.block, ad.off + 4 + 3, none⟩ = some (.slice B2 b3 d2))
    (first | exact allS _ (by assumption) | exact allS _ (below_drew1 (by assumption)))
    (first
      | (go_at_call 34; (with_reducible refine (HSY.out _ ?hbb).mono ?_); (case hbb => first | assumption | exact below_drew1 (by assumption)); rintro e w' ⟨rfl, hbw⟩)
      | (go_at_call 33; (with_reducible refine (HOP.out _ ?hbb).mono ?_); (case hbb => first | assumption | exact below_drew1 (by assumption)); rintro e w' ⟨rfl, hbw⟩)
      | (go_at_call 33; (with_reducible refine (HOP2.out _ ?hbb).mono ?_); (case hbb => first | assumption | exact below_drew1 (by assumption)); rintro e w' ⟨rfl, hbw⟩)
      | (go_at_call 33; (with_reducible refine (HOP3.out _ ?hbb).mono ?_); (case hbb => first | assumption | exact below_drew1 (by assumption)); rintro e w' ⟨rfl, hbw⟩))
  all_goals
    go_wp2
    go_ret
    refine ⟨?_, HB.out.trans (Below.mono (by assumption) HB.out.size)⟩
    rw [HR.out]
    show Ending.returned (Value.string _) = _
    congr 2
    all_goals exact bytes_eq (by rw [HS.out.1, HS.out.2.1, HS.out.2.2.1]; simp [ByteArray.data_append])

theorem pE_eq (n : Nd) : pE n = if n.f0 = 1 then Lib.itoa n.f1 else if n.f0 = 2 then n.f2.data.toList else if n.f0 = 3 then n.f2.data.toList ++ [91] ++ pE1 n.f3 ++ [93] else if 6 ≤ n.f0 ∧ n.f0 ≤ 23 then pE2 n.f0 n.f3 else symOf n.f0 ++ pEu (levOf n.f0) n.f3 := by
  obtain ⟨k, m, s, l⟩ := n
  rw [pE]

theorem expr_any : ∀ (n : Nd), isN 1 n = true → (pE n).length ≤ 4611686018427387904 → ExprC n := by
  intro n
  refine nd_ind (C := fun n => isN 1 n = true → (pE n).length ≤ 4611686018427387904 → ExprC n) ?_ n
  intro k m s l ih hv hlen
  have hE := pE_eq ⟨k, m, s, l⟩
  rcases expr_cases _ hv with ⟨h, h0, h1⟩ | h | ⟨h, a, e, ha⟩ | ⟨h, a, e, ha⟩ | ⟨h, a, b, e, ha, hb⟩
  · exact expr_num _ h h0 h1
  · exact expr_var _ h
  · simp only at h e
    subst e
    refine expr_item _ a h rfl (ih a (by simp) ha ?_) hlen
    rw [hE, if_neg (by simp only; omega), if_neg (by simp only; omega), if_pos h] at hlen
    simp only [pE1, List.length_append] at hlen
    omega
  · simp only at h e
    subst e
    refine expr_unary _ a h rfl ha (ih a (by simp) ha ?_) hlen
    rw [hE, if_neg (by simp only; omega), if_neg (by simp only; omega), if_neg (by simp only; omega), if_neg (by simp only; omega)] at hlen
    have := paren_le (wants a (levOf k)) (pE a)
    simp only [pEu, List.length_append] at hlen
    omega
  · simp only at h e
    subst e
    have h1 := paren_le (wants a (levOf k)) (pE a)
    have h2 := paren_le (wants b (levOf k + 1)) (pE b)
    have hlen2 := hlen
    rw [hE, if_neg (by simp only; omega), if_neg (by simp only; omega), if_neg (by simp only; omega), if_pos h] at hlen2
    simp only [pE2, pEu, List.length_append] at hlen2
    exact expr_bin _ a b h rfl ha hb (ih a (by simp) ha (by omega)) (ih b (by simp) hb (by omega)) hlen

end Go.Proofs.YtlmmobfebjideaaDoor.P

/- ast.IsExpr, ast.IsBlock, printer.Expr. -/
namespace Go.Proofs.YtlmmobfebjideaaDoor.P
open Go.RowKit Go.Proofs.YtlmmobfebjideaaDoor Go.Proofs.YtlmmobfebjideaaDoor.M Go.Proofs.YtlmmobfebjideaaDoorW.PrintWords
set_option linter.unusedVariables false
set_option linter.unusedSimpArgs false
attribute [local go_sem ↓] Go.wp_at_zero Go.wp_at_succ

theorem MapF.drew {W : World} {r : Nat} {F : Int → Option M.Form} (h : MapF W r F) : MapF W.drew r F := h.below (Below.refl _ _).drew

set_option maxHeartbeats 8000000 in
set_option maxRecDepth 100000 in
theorem isExpr_any (n : Nd) (A : Option Addr) (cap : Nat) (w : World) (hc : n.f3.length ≤ cap) (hr : Kd.C kNd w A n.f3.length n.f3) (hL : Laid w) :
    Calls Tryd.prog 8 #[nodeV n A cap] w fun e w' => e = .returned (.bool (isN 1 n)) ∧ Below w.heap.size w w' := by
  have hb : Below w.heap.size w (boxed n A cap w) := (Below.refl _ _).alloc (Nat.le_refl _) _
  have bk : (boxed n A cap w).heap[w.heap.size]? = _ := heap_alloc_new w _
  have c0 : (boxed n A cap w).cell? ⟨w.heap.size, 0, none⟩ = some (.int .u8 n.f0) := (blk_cell bk 0).trans rfl
  have c1 : (boxed n A cap w).cell? ⟨w.heap.size, 1, none⟩ = some (.int .i64 n.f1) := (blk_cell bk 1).trans rfl
  have c2 : (boxed n A cap w).cell? ⟨w.heap.size, 2, none⟩ = some (.string n.f2) := (blk_cell bk 2).trans rfl
  have c3 : (boxed n A cap w).cell? ⟨w.heap.size, 3, none⟩ = some (.slice A n.f3.length cap) := (blk_cell bk 3).trans rfl
  have HI := Lib.hid (show ∀ W r, Below (boxed n A cap w).heap.size (boxed n A cap w) W → MapF W r M.form → Calls Tryd.prog 19 #[.map (some r), nodeV n A cap, .int .u8 1] W fun e w' => e = .returned (.bool (isN 1 n)) ∧ Below (boxed n A cap w).heap.size (boxed n A cap w) w' from fun W r h hM =>
    (is_any n 1 (.inl rfl) r A cap W hc (Kd.C_below (Kd.C_below hr hb) h) ((hL.below hb).below h) hM).mono (by rintro e w' ⟨rfl, h2⟩; exact ⟨rfl, h.trans (h2.mono h.size)⟩))
  have HF := Lib.hid (show ∀ W, Below (boxed n A cap w).heap.size (boxed n A cap w) W → Calls Tryd.prog 18 #[] W fun e w' => e = .returned (.map (some W.heap.size)) ∧ MapF w' W.heap.size M.form ∧ Below (boxed n A cap w).heap.size (boxed n A cap w) w' from fun W h =>
    (forms_any W).mono (by rintro e w' ⟨rfl, hM, h2⟩; exact ⟨rfl, hM, h.trans (h2.mono h.size)⟩))
  have HB := Lib.hid hb
  clear hb bk hr hL hc
  unfold nodeV boxed at HI
  unfold boxed at HF HB c0 c1 c2 c3
  go_enter Tryd.func8, Tryd.ntmps8
  go_wp2_with fail
  generalize (w.alloc (.cells #[.int .u8 n.f0, .int .i64 n.f1, .string n.f2, .slice A n.f3.length cap] 24)) = W0 at *
  have hrefl : Below W0.heap.size W0 W0 := Below.refl _ _
  have allS : ∀ W, Below W0.heap.size W0 W → (Below W0.heap.size W0 W ∧ W.cell? ⟨w.heap.size, 0, none⟩ = some (.int .u8 n.f0) ∧ W.cell? ⟨w.heap.size, 1, none⟩ = some (.int .i64 n.f1) ∧ W.cell? ⟨w.heap.size, 2, none⟩ = some (.string n.f2) ∧ W.cell? ⟨w.heap.size, 3, none⟩ = some (.slice A n.f3.length cap)) := fun W h =>
    have k := fun {p : Addr} {v : Value} (z : W0.cell? p = some v) => (h.cell (World.block_lt_of_cell? W0 _ z)).trans z
    ⟨h, k c0, k c1, k c2, k c3⟩
  go_region_held3 (fun W => Below W0.heap.size W0 W ∧ W.cell? ⟨w.heap.size, 0, none⟩ = some (.int .u8 n.f0) ∧ W.cell? ⟨w.heap.size, 1, none⟩ = some (.int .i64 n.f1) ∧ W.cell? ⟨w.heap.size, 2, none⟩ = some (.string n.f2) ∧ W.cell? ⟨w.heap.size, 3, none⟩ = some (.slice A n.f3.length cap))
    (first | exact allS _ (by assumption) | exact allS _ (below_drew1 (by assumption)))
    (first
      | (go_at_call 18; (with_reducible refine (HF.out _ ?hbb).mono ?_); (case hbb => first | assumption | exact below_drew1 (by assumption)); rintro e w' ⟨rfl, hmm, hbw⟩)
      | (go_at_call 19; (with_reducible refine (HI.out _ _ ?hbb ?hmb).mono ?_); (case hbb => first | assumption | exact below_drew1 (by assumption)); (case hmb => first | assumption | exact MapF.drew (by assumption)); rintro e w' ⟨rfl, hbw⟩))
  all_goals
    go_wp2
    go_ret
    exact ⟨rfl, HB.out.trans (Below.mono (by assumption) HB.out.size)⟩

set_option maxHeartbeats 8000000 in
set_option maxRecDepth 100000 in
theorem isBlock_any (n : Nd) (A : Option Addr) (cap : Nat) (w : World) (hc : n.f3.length ≤ cap) (hr : Kd.C kNd w A n.f3.length n.f3) (hL : Laid w) :
    Calls Tryd.prog 11 #[nodeV n A cap] w fun e w' => e = .returned (.bool (isN 8 n)) ∧ Below w.heap.size w w' := by
  have hb : Below w.heap.size w (boxed n A cap w) := (Below.refl _ _).alloc (Nat.le_refl _) _
  have bk : (boxed n A cap w).heap[w.heap.size]? = _ := heap_alloc_new w _
  have c0 : (boxed n A cap w).cell? ⟨w.heap.size, 0, none⟩ = some (.int .u8 n.f0) := (blk_cell bk 0).trans rfl
  have c1 : (boxed n A cap w).cell? ⟨w.heap.size, 1, none⟩ = some (.int .i64 n.f1) := (blk_cell bk 1).trans rfl
  have c2 : (boxed n A cap w).cell? ⟨w.heap.size, 2, none⟩ = some (.string n.f2) := (blk_cell bk 2).trans rfl
  have c3 : (boxed n A cap w).cell? ⟨w.heap.size, 3, none⟩ = some (.slice A n.f3.length cap) := (blk_cell bk 3).trans rfl
  have HI := Lib.hid (show ∀ W r, Below (boxed n A cap w).heap.size (boxed n A cap w) W → MapF W r M.form → Calls Tryd.prog 19 #[.map (some r), nodeV n A cap, .int .u8 8] W fun e w' => e = .returned (.bool (isN 8 n)) ∧ Below (boxed n A cap w).heap.size (boxed n A cap w) w' from fun W r h hM =>
    (is_any n 8 (.inr (.inr (.inr rfl))) r A cap W hc (Kd.C_below (Kd.C_below hr hb) h) ((hL.below hb).below h) hM).mono (by rintro e w' ⟨rfl, h2⟩; exact ⟨rfl, h.trans (h2.mono h.size)⟩))
  have HF := Lib.hid (show ∀ W, Below (boxed n A cap w).heap.size (boxed n A cap w) W → Calls Tryd.prog 18 #[] W fun e w' => e = .returned (.map (some W.heap.size)) ∧ MapF w' W.heap.size M.form ∧ Below (boxed n A cap w).heap.size (boxed n A cap w) w' from fun W h =>
    (forms_any W).mono (by rintro e w' ⟨rfl, hM, h2⟩; exact ⟨rfl, hM, h.trans (h2.mono h.size)⟩))
  have HB := Lib.hid hb
  clear hb bk hr hL hc
  unfold nodeV boxed at HI
  unfold boxed at HF HB c0 c1 c2 c3
  go_enter Tryd.func11, Tryd.ntmps11
  go_wp2_with fail
  generalize (w.alloc (.cells #[.int .u8 n.f0, .int .i64 n.f1, .string n.f2, .slice A n.f3.length cap] 24)) = W0 at *
  have hrefl : Below W0.heap.size W0 W0 := Below.refl _ _
  have allS : ∀ W, Below W0.heap.size W0 W → (Below W0.heap.size W0 W ∧ W.cell? ⟨w.heap.size, 0, none⟩ = some (.int .u8 n.f0) ∧ W.cell? ⟨w.heap.size, 1, none⟩ = some (.int .i64 n.f1) ∧ W.cell? ⟨w.heap.size, 2, none⟩ = some (.string n.f2) ∧ W.cell? ⟨w.heap.size, 3, none⟩ = some (.slice A n.f3.length cap)) := fun W h =>
    have k := fun {p : Addr} {v : Value} (z : W0.cell? p = some v) => (h.cell (World.block_lt_of_cell? W0 _ z)).trans z
    ⟨h, k c0, k c1, k c2, k c3⟩
  go_region_held3 (fun W => Below W0.heap.size W0 W ∧ W.cell? ⟨w.heap.size, 0, none⟩ = some (.int .u8 n.f0) ∧ W.cell? ⟨w.heap.size, 1, none⟩ = some (.int .i64 n.f1) ∧ W.cell? ⟨w.heap.size, 2, none⟩ = some (.string n.f2) ∧ W.cell? ⟨w.heap.size, 3, none⟩ = some (.slice A n.f3.length cap))
    (first | exact allS _ (by assumption) | exact allS _ (below_drew1 (by assumption)))
    (first
      | (go_at_call 18; (with_reducible refine (HF.out _ ?hbb).mono ?_); (case hbb => first | assumption | exact below_drew1 (by assumption)); rintro e w' ⟨rfl, hmm, hbw⟩)
      | (go_at_call 19; (with_reducible refine (HI.out _ _ ?hbb ?hmb).mono ?_); (case hbb => first | assumption | exact below_drew1 (by assumption)); (case hmb => first | assumption | exact MapF.drew (by assumption)); rintro e w' ⟨rfl, hbw⟩))
  all_goals
    go_wp2
    go_ret
    exact ⟨rfl, HB.out.trans (Below.mono (by assumption) HB.out.size)⟩


set_option maxHeartbeats 8000000 in
set_option maxRecDepth 100000 in
theorem printExpr_any (n : Nd) (A : Option Addr) (cap : Nat) (w : World) (hc : n.f3.length ≤ cap) (hr : Kd.C kNd w A n.f3.length n.f3) (hL : Laid w) (hlen : isN 1 n = true → (pE n).length ≤ 4611686018427387904) :
    Calls Tryd.prog 7 #[nodeV n A cap] w fun e w' => e = .returned (if isN 1 n = true then .tuple #[.string ⟨(pE n).toArray⟩, .int .i64 0] else .tuple #[.string ⟨#[]⟩, .int .i64 3]) ∧ Below w.heap.size w w' := by
  have hb : Below w.heap.size w (boxed n A cap w) := (Below.refl _ _).alloc (Nat.le_refl _) _
  have HI := Lib.hid (isExpr_any n A cap (boxed n A cap w) hc (Kd.C_below hr hb) (hL.below hb))
  have HB := Lib.hid hb
  cases hn : isN 1 n with
  | false =>
    have HR := Lib.hid hn
    clear hn hb hr hL hc hlen
    go_enter Tryd.func7, Tryd.ntmps7
    go_wp2_with fail
    refine HI.out.mono ?_
    rintro e w1 ⟨rfl, hb1⟩
    rw [HR.out]
    have HB1 := Lib.hid (HB.out.trans (hb1.mono HB.out.size))
    clear hb1
    go_wp2_with fail
    go_ret2
    exact ⟨by rfl, HB1.out⟩
  | true =>
    have HR := Lib.hid hn
    have HE := Lib.hid (show ∀ W, Below w.heap.size w W → Calls Tryd.prog 17 #[nodeV n A cap] W fun e w' => e = .returned (.string ⟨(pE n).toArray⟩) ∧ Below W.heap.size W w' from fun W h => expr_any n hn (hlen hn) A cap W hc (Kd.C_below hr h) (hL.below h))
    clear hn hb hr hL hc hlen
    go_enter Tryd.func7, Tryd.ntmps7
    go_wp2_with fail
    refine HI.out.mono ?_
    rintro e w1 ⟨rfl, hb1⟩
    rw [HR.out]
    have bk := box_block w _ _ hb1
    have z0 : w1.cell? ⟨w.heap.size, 0, none⟩ = some (.int .u8 n.f0) := (blk_cell bk 0).trans rfl
    have z1 : w1.cell? ⟨w.heap.size, 1, none⟩ = some (.int .i64 n.f1) := (blk_cell bk 1).trans rfl
    have z2 : w1.cell? ⟨w.heap.size, 2, none⟩ = some (.string n.f2) := (blk_cell bk 2).trans rfl
    have z3 : w1.cell? ⟨w.heap.size, 3, none⟩ = some (.slice A n.f3.length cap) := (blk_cell bk 3).trans rfl
    have HB1 := Lib.hid (HB.out.trans (hb1.mono HB.out.size))
    clear hb1 bk
    go_wp2_with fail
    refine (HE.out _ HB1.out).mono ?_
    rintro e w2 ⟨rfl, hb2⟩
    have HB2 := Lib.hid (HB1.out.trans (hb2.mono HB1.out.size))
    clear hb2
    go_wp2_with fail
    go_ret2
    exact ⟨by rfl, HB2.out⟩

end Go.Proofs.YtlmmobfebjideaaDoor.P

/- printer.out: nested, block and stmt, walked. -/
namespace Go.Proofs.YtlmmobfebjideaaDoor.P
open Go.RowKit Go.Proofs.YtlmmobfebjideaaDoor Go.Proofs.YtlmmobfebjideaaDoor.M Go.Proofs.YtlmmobfebjideaaDoorW.PrintWords
set_option linter.unusedVariables false
set_option linter.unusedSimpArgs false
attribute [local go_sem ↓] Go.wp_at_zero Go.wp_at_succ

theorem at_setd {B b : Nat} {w0 W : World} {bs : List Value} {d : Int} (h : At B b w0 bs d W) (x : Int) : At B b w0 bs x (W.setCell ⟨b, 2, none⟩ (.int .i64 x)) :=
  ⟨h.1.elim (fun y => .inl (y.depth x)) (fun y => .inr (y.depth x)), h.2.1.setCell (p := ⟨b, 2, none⟩) h.1.le _, h.2.2.trans (os_set _ _)⟩
/-- What block comes to. -/
def BlC (n : Nd) : Prop := ∀ (w0 : World) (A : Option Addr) (c : Nat), n.f3.length ≤ c → Kd.C kNd w0 A n.f3.length n.f3 → Laid w0 → ∀ (b : Nat) (bs : List UInt8) (d : Nat) (W : World), At w0.heap.size b w0 (Lib.byteCells bs) d W →
  bs.length + (pB d n).length ≤ 70368744177664 → d + depth n ≤ 50 → Calls Tryd.prog 25 #[.pointer (some ⟨b, 0, none⟩), nodeV n A c] W fun e w' => e = .returned (.tuple #[]) ∧ At w0.heap.size b W (Lib.byteCells (bs ++ pB d n)) d w'
def StC (n : Nd) : Prop := ∀ (w0 : World) (A : Option Addr) (c : Nat), n.f3.length ≤ c → Kd.C kNd w0 A n.f3.length n.f3 → Laid w0 → ∀ (b : Nat) (bs : List UInt8) (d : Nat) (W : World), At w0.heap.size b w0 (Lib.byteCells bs) d W →
  bs.length + (pS d n).length ≤ 70368744177664 → d + depth n ≤ 50 → Calls Tryd.prog 40 #[.pointer (some ⟨b, 0, none⟩), nodeV n A c] W fun e w' => e = .returned (.tuple #[]) ∧ At w0.heap.size b W (Lib.byteCells (bs ++ pS d n)) d w'

set_option maxHeartbeats 8000000 in
set_option maxRecDepth 100000 in
theorem nested_any (n : Nd) (hB : BlC n) (s : ByteArray) (w0 : World) (A : Option Addr) (c : Nat) (hc : n.f3.length ≤ c) (hr : Kd.C kNd w0 A n.f3.length n.f3) (hL : Laid w0) (b : Nat) (bs : List UInt8) (d : Nat) (W : World) (hA : At w0.heap.size b w0 (Lib.byteCells bs) d W)
    (hlen : bs.length + (pB (d + 1) n ++ tabs d ++ s.data.toList ++ [10]).length ≤ 70368744177664) (hd : d + 1 + depth n ≤ 50) :
    Calls Tryd.prog 51 #[.pointer (some ⟨b, 0, none⟩), nodeV n A c, .string s] W fun e w' => e = .returned (.tuple #[]) ∧ At w0.heap.size b W (Lib.byteCells (bs ++ (pB (d + 1) n ++ tabs d ++ s.data.toList ++ [10]))) d w' := by
  simp only [List.length_append, List.length_cons, List.length_nil] at hlen
  have hW : Below W.heap.size W (boxed n A c W) := (Below.refl _ _).alloc (Nat.le_refl _) _
  have hB0 : w0.heap.size ≤ W.heap.size := hA.2.1.size
  have hA1 : At w0.heap.size b w0 (Lib.byteCells bs) d (boxed n A c W) := hA.below hW hB0
  have hA2 : At w0.heap.size b W (Lib.byteCells bs) d (boxed n A c W) := (At.refl hA.1).below hW hB0
  have hbk : (boxed n A c W).heap[W.heap.size]? = some (.cells #[.int .u8 n.f0, .int .i64 n.f1, .string n.f2, .slice A n.f3.length c] 24 (0, 0)) := heap_alloc_new W _
  have hlt : b < W.heap.size := hA.1.lt
  have c2 : (boxed n A c W).cell? ⟨b, 2, none⟩ = some (.int .i64 d) := hA1.cell2
  have f2 : (boxed n A c W).frozen? ⟨b, 2, none⟩ = false := hA1.frozen2
  have hY : ((boxed n A c W).setCell ⟨b, 2, none⟩ (.int .i64 ((d : Int) + 1))).heap[W.heap.size]? = some (.cells #[.int .u8 n.f0, .int .i64 n.f1, .string n.f2, .slice A n.f3.length c] 24 (0, 0)) := (os_set (b := b) 2 _).box (by decide) (by omega) hbk
  have z0 : ((boxed n A c W).setCell ⟨b, 2, none⟩ (.int .i64 ((d : Int) + 1))).cell? ⟨W.heap.size, 0, none⟩ = some (.int .u8 n.f0) := (blk_cell hY 0).trans rfl
  have z1 : ((boxed n A c W).setCell ⟨b, 2, none⟩ (.int .i64 ((d : Int) + 1))).cell? ⟨W.heap.size, 1, none⟩ = some (.int .i64 n.f1) := (blk_cell hY 1).trans rfl
  have z2 : ((boxed n A c W).setCell ⟨b, 2, none⟩ (.int .i64 ((d : Int) + 1))).cell? ⟨W.heap.size, 2, none⟩ = some (.string n.f2) := (blk_cell hY 2).trans rfl
  have z3 : ((boxed n A c W).setCell ⟨b, 2, none⟩ (.int .i64 ((d : Int) + 1))).cell? ⟨W.heap.size, 3, none⟩ = some (.slice A n.f3.length c) := (blk_cell hY 3).trans rfl
  have ed : ((d : Int) + 1) = ((d + 1 : Nat) : Int) := by omega
  have HB := Lib.hid (show Calls Tryd.prog 25 #[.pointer (some ⟨b, 0, none⟩), nodeV n A c] ((boxed n A c W).setCell ⟨b, 2, none⟩ (.int .i64 ((d : Int) + 1))) fun e w' => e = .returned (.tuple #[]) ∧ At w0.heap.size b W (Lib.byteCells (bs ++ pB (d + 1) n)) (d + 1 : Nat) w' from by
    refine (hB w0 A c hc hr hL b bs (d + 1) _ ?_ (by omega) hd).mono ?_
    · have := at_setd hA1 ((d : Int) + 1)
      rwa [ed] at this ⊢
    · rintro e w' ⟨rfl, h2⟩
      have := at_setd hA2 ((d : Int) + 1)
      exact ⟨rfl, this.trans h2⟩)
  have HLT := Lib.hid (And.intro hlt hB0)
  have HLINE := Lib.hid (show ∀ (W2 : World) (xs : List UInt8), At w0.heap.size b W (Lib.byteCells xs) d W2 → xs.length + d + s.size + 1 ≤ 140737488355328 → Calls Tryd.prog 50 #[.pointer (some ⟨b, 0, none⟩), .slice (some ⟨W2.heap.size, 0, none⟩) 1 1] (W2.alloc (.cells #[.string s] 9)) fun e w' => e = .returned (.tuple #[]) ∧ At w0.heap.size b W (Lib.byteCells (xs ++ (tabs d ++ s.data.toList ++ [10]))) d w' from fun W2 xs h2 hl => by
    have h3 := h2.below (W' := W2.alloc (.cells #[.string s] 9)) ((Below.refl _ _).alloc (Nat.le_refl _) _) (h2.hB hB0)
    refine (line_any w0.heap.size b xs d W2.heap.size [s] _ h3.1 (by omega) (heap_alloc_new W2 _) (by have := h2.1.lt; omega) (h3.hB hB0) ?_ (by simp)).mono ?_
    · simp only [flat, List.map_cons, List.map_nil, List.flatten_cons, List.flatten_nil, List.length_append, List.length_replicate, List.length_cons, List.length_nil]
      rw [← Lib.size_eq]
      omega
    · rintro e w' ⟨rfl, h4⟩
      refine ⟨rfl, ?_⟩
      have h5 := h3.trans h4
      simpa [flat, tabs] using h5)
  have htl : (tabs d).length = d := by simp [tabs]
  have hsz : s.size = s.data.toList.length := Lib.size_eq s
  have HLEN := Lib.hid (And.intro htl (And.intro hsz hlen))
  have hd9 : d ≤ 49 := by omega
  clear hbk hA hA1 hA2 hB hr hL hc hW hlt hB0 hY htl hsz hlen hd ed
  unfold boxed at c2 f2 HB z0 z1 z2 z3
  go_enter Tryd.func51, Tryd.ntmps51
  go_wp2_with fail
  refine HB.out.mono ?_
  rintro e w2 ⟨rfl, h2⟩
  have c3 := h2.cell2
  have f3 := h2.frozen2
  have H2 := Lib.hid (show At w0.heap.size b W (Lib.byteCells (bs ++ pB (d + 1) n)) d (w2.setCell ⟨b, 2, none⟩ (.int .i64 d)) from at_setd h2 d)
  clear h2 z0 z1 z2 z3 c2 f2 HB
  go_wp2_with fail
  have hl := HLINE.out _ _ H2.out (by
    obtain ⟨h1, h2, h3⟩ := HLEN.out
    rw [List.length_append]
    omega)
  have e : (w2.setCell ⟨b, 2, none⟩ (.int .i64 (d : Int))).heap.size = w2.heap.size := by simp [World.setCell]
  rw [e] at hl
  refine hl.mono ?_
  rintro e w3 ⟨rfl, h3⟩
  have H3 := Lib.hid h3
  clear h3 hl H2 HLINE e
  go_wp2_with fail
  go_end0
  refine ⟨rfl, ?_⟩
  have := H3.out
  simpa [List.append_assoc] using this

theorem pSs_append (d : Nat) : ∀ (x y : List Nd), pSs d (x ++ y) = pSs d x ++ pSs d y
  | [], y => by simp [pSs]
  | a :: x, y => by rw [List.cons_append, pSs, pSs, pSs_append d x y, List.append_assoc]
theorem rd_split (l : List Nd) (k : Nat) (h : k < l.length) : l.take (k + 1) = l.take k ++ [rd_T24 l (k : Int)] := by
  unfold rd_T24
  rw [List.take_add_one, Int.toNat_natCast, List.getD_eq_getElem?_getD, List.getElem?_eq_getElem h]
  simp
theorem pSs_take (d : Nat) (l : List Nd) (k : Nat) (h : k < l.length) : pSs d (l.take (k + 1)) = pSs d (l.take k) ++ pS d (rd_T24 l (k : Int)) := by
  rw [rd_split l k h, pSs_append]
  simp [pSs]
theorem pSs_le (d : Nat) (l : List Nd) (k : Nat) : (pSs d (l.take k)).length ≤ (pSs d l).length := by
  have h : pSs d l = pSs d (l.take k) ++ pSs d (l.drop k) := by rw [← pSs_append, List.take_append_drop]
  rw [h, List.length_append]; omega
theorem depth_mem : ∀ (l : List Nd) (x : Nd), x ∈ l → depth x ≤ depths l
  | a :: l, x, h => by
    rw [depths]
    rcases List.mem_cons.1 h with rfl | h
    · omega
    · have := depth_mem l x h; omega
theorem rd_mem (l : List Nd) (k : Nat) (h : k < l.length) : rd_T24 l (k : Int) ∈ l := by
  unfold rd_T24
  rw [Int.toNat_natCast, List.getD_eq_getElem?_getD, List.getElem?_eq_getElem h]
  exact List.getElem_mem h

set_option maxHeartbeats 8000000 in
set_option maxRecDepth 100000 in
theorem block_any (n : Nd) (hS : ∀ x ∈ n.f3, StC x) : BlC n := by
  intro w0 A c hc hr hL b bs d W hA hlen hd
  have hmax : n.f3.length ≤ 9223372036854775807 := hr.2.1
  have hW : Below W.heap.size W (boxed n A c W) := (Below.refl _ _).alloc (Nat.le_refl _) _
  have hB0 : w0.heap.size ≤ W.heap.size := hA.2.1.size
  have hA1 : At w0.heap.size b W (Lib.byteCells bs) d (boxed n A c W) := (At.refl hA.1).below hW hB0
  obtain ⟨k0, m0, s0, l⟩ := n
  simp only at hc hr hmax hS hlen hd
  have hpB : pB d ⟨k0, m0, s0, l⟩ = pSs d l := by rw [pB]
  rw [hpB] at hlen ⊢
  have HS := Aside0.mk hS
  have HC := Aside0.mk hr
  have HL := Aside0.mk hL
  have HA0 := Aside0.mk hA
  have HA1 := Aside0.mk hA1
  have HB0 := Aside0.mk hB0
  have HD := Aside0.mk hd
  have HLEN := Aside0.mk hlen
  have h3 : (boxed ⟨k0, m0, s0, l⟩ A c W).cell? ⟨W.heap.size, 3, none⟩ = some (.slice A l.length c) := (blk_cell (heap_alloc_new W _) 3).trans rfl
  unfold boxed at h3 HA1
  clear hA hA1 hS hr hL hW hB0 hd hlen hc hpB
  go_enter Tryd.func25, Tryd.ntmps25
  go_wp2
  go_loopw [9] (fun v wr => ∃ k : Nat, k ≤ l.length ∧ v = .int .i64 k ∧ Aside0 (At w0.heap.size b W (Lib.byteCells (bs ++ pSs d (l.take k))) d wr)) (fun v _ => l.length - (intOf v).toNat)
  case atStart =>
    refine ⟨0, Nat.zero_le _, rfl, ⟨?_⟩⟩
    have := HA1.out
    simpa [pSs] using this
  case round =>
    obtain ⟨k, hk, rfl, HK⟩ := hrel
    by_cases hlt : k < l.length
    · obtain ⟨ad, B, e, he, hx0, hx1, hx2, hx3, hd3, hC⟩ := at_T24 HC.out (k : Int) (by omega) (by omega)
      cases he
      have hA2 := HA0.out.trans HK.out
      replace hx0 := (hA2.2.1.cell (World.block_lt_of_cell? w0 _ hx0)).trans hx0
      replace hx1 := (hA2.2.1.cell (World.block_lt_of_cell? w0 _ hx1)).trans hx1
      replace hx2 := (hA2.2.1.cell (World.block_lt_of_cell? w0 _ hx2)).trans hx2
      replace hx3 := (hA2.2.1.cell (World.block_lt_of_cell? w0 _ hx3)).trans hx3
      simp only [Int.toNat_natCast] at hx0 hx1 hx2 hx3
      have HP := Lib.hid (And.intro (pSs_take d l k hlt) (pSs_le d l (k + 1)))
      have HST := Lib.hid (HS.out _ (rd_mem l k hlt) w0 B e hd3 hC HL.out b (bs ++ pSs d (l.take k)) d)
      have hdep := depth_mem l _ (rd_mem l k hlt)
      have HDX := Lib.hid (show d + depth (rd_T24 l (k : Int)) ≤ 50 by have := HD.out; rw [depth] at this; omega)
      clear hC hdep
      generalize rd_T24 l (k : Int) = x at *
      have hw : Below wr.heap.size wr (wr.alloc (.cells #[.int .u8 x.f0, .int .i64 x.f1, .string x.f2, .slice B x.f3.length e] 24)) := (Below.refl _ _).alloc (Nat.le_refl _) _
      have hB1 : w0.heap.size ≤ wr.heap.size := hA2.2.1.size
      have HA3 := Lib.hid (And.intro (hA2.below hw hB1) (HK.out.below hw hB1))
      clear hA2 hw hB1
      go_wp2_with fail
      refine (HST.out _ HA3.out.1 ?len HDX.out).mono ?_
      case len =>
        have h1 := HP.out.1
        have h2 := HP.out.2
        have h3 := HLEN.out
        rw [h1] at h2
        rw [List.length_append] at h2 ⊢
        omega
      rintro e w2 ⟨rfl, h2⟩
      have H2 := Lib.hid (HA3.out.2.trans h2)
      clear h2
      go_wp2_with fail
      go_roundw
      case rel =>
        refine ⟨k + 1, by omega, by go_num, ⟨?_⟩⟩
        have := H2.out
        rw [HP.out.1]
        simpa [List.append_assoc] using this
      case measure => simp [intOf]; omega
    · obtain rfl : k = l.length := by omega
      go_wp2_with fail
      go_end0
      refine ⟨rfl, ?_⟩
      have := HK.out
      rwa [List.take_length] at this

end Go.Proofs.YtlmmobfebjideaaDoor.P
