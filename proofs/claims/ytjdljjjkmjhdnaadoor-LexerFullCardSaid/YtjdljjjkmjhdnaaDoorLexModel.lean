/- The plain lexer: tokens of a list of bytes, and what follows from its rules alone. It imports nothing of the program. -/
namespace Go.Proofs.YtjdljjjkmjhdnaaDoor.Lx
set_option linter.unusedVariables false
set_option linter.unusedSimpArgs false

abbrev Bytes := List UInt8

def isL (c : UInt8) : Bool := decide (97 ≤ c.toNat) && decide (c.toNat ≤ 122)
def isD (c : UInt8) : Bool := decide (48 ≤ c.toNat) && decide (c.toNat ≤ 57)
def isW (c : UInt8) : Bool := isL c || isD c
def isS (c : UInt8) : Bool := c == 32 || c == 9 || c == 13 || c == 10
def isC (c : UInt8) : Bool := c != 10

/-- The signs, the longer ones first. -/
def signs : List Bytes := [[60, 60], [62, 62], [60, 61], [62, 61], [61, 61], [33, 61], [38, 38], [124, 124], [43], [45], [42], [47], [37], [38], [124], [94], [60], [62], [33], [61], [91], [93], [123], [125], [40], [41], [59], [44]]
def sign (s : Bytes) : Bytes := (signs.find? fun x => x.isPrefixOf s).getD []
def run (p : UInt8 → Bool) (s : Bytes) : Nat := (s.takeWhile p).length

/-- Kind and length of the token at the beginning of a text; kind 0: there is none. -/
def token (s : Bytes) : Nat × Nat :=
  match s with
  | [] => (0, 0)
  | c :: _ =>
    if isL c = true then (1, run isW s)
    else if isD c = true then (2, run isD s)
    else if isS c = true then (4, run isS s)
    else if c = 35 then (5, run isC s)
    else if sign s = [] then (0, 0) else (3, (sign s).length)

structure Tok where
  kind : Nat
  text : Bytes
  pos : Nat
deriving DecidableEq

/-- The tokens of s, whose first byte has the offset p; or the offset of the first byte at which none starts. -/
def lexGo : Nat → Bytes → Nat → Except Nat (List Tok)
  | 0, s, p => if s = [] then .ok [] else .error p
  | n + 1, s, p =>
    if s = [] then .ok [] else
    if (token s).1 = 0 then .error p else
    match lexGo n (s.drop (token s).2) (p + (token s).2) with
    | .ok l => .ok (⟨(token s).1, s.take (token s).2, p⟩ :: l)
    | .error e => .error e

def lexp (s : Bytes) (p : Nat) : Except Nat (List Tok) := lexGo s.length s p
def lex (s : Bytes) : Except Nat (List Tok) := lexp s 0

def solidT (t : Tok) : Bool := decide (t.kind ≠ 4) && decide (t.kind ≠ 5)
def solid (l : List Tok) : List Tok := l.filter solidT
def join (l : List Tok) : Bytes := (l.map Tok.text).flatten

/-! ### runs -/
theorem run_le (p : UInt8 → Bool) (s : Bytes) : run p s ≤ s.length := by
  unfold run
  induction s with
  | nil => simp
  | cons c s ih => simp only [List.takeWhile_cons]; split <;> simp <;> omega
theorem run_cons (p : UInt8 → Bool) (c : UInt8) (s : Bytes) : run p (c :: s) = if p c = true then run p s + 1 else 0 := by
  unfold run; simp only [List.takeWhile_cons]; split <;> simp
theorem run_nil (p : UInt8 → Bool) : run p [] = 0 := rfl
theorem run_take (p : UInt8 → Bool) (s : Bytes) : run p (s.take (run p s)) = run p s := by
  induction s with
  | nil => rfl
  | cons c s ih =>
    rw [run_cons]
    split
    · rename_i h
      rw [List.take_succ_cons, run_cons, if_pos h, ih]
    · rfl
theorem run_all (p : UInt8 → Bool) (s : Bytes) : ∀ c ∈ s.take (run p s), p c = true := by
  induction s with
  | nil => intro c hc; simp [run_nil] at hc
  | cons d s ih =>
    intro c hc
    rw [run_cons] at hc
    split at hc
    · rename_i h
      rw [List.take_succ_cons] at hc
      rcases List.mem_cons.1 hc with rfl | hc
      · exact h
      · exact ih c hc
    · simp at hc
/-- Behind a run that does not reach the end stands a byte that is not of it. -/
theorem run_stop (p : UInt8 → Bool) (s : Bytes) : ∀ c t, s.drop (run p s) = c :: t → p c = false := by
  induction s with
  | nil => intro c t h; simp [run_nil] at h
  | cons d s ih =>
    intro c t h
    rw [run_cons] at h
    split at h
    · rw [List.drop_succ_cons] at h; exact ih c t h
    · rename_i hn
      simp only [List.drop_zero, List.cons.injEq] at h
      obtain ⟨rfl, rfl⟩ := h
      simpa using hn
/-- A text behind: the run goes no further if it had stopped, or if what follows is not of it. -/
theorem run_append (p : UInt8 → Bool) (s t : Bytes) : run p (s ++ t) = if run p s = s.length then s.length + run p t else run p s := by
  induction s with
  | nil => simp [run_nil]
  | cons c s ih =>
    rw [List.cons_append, run_cons, run_cons]
    by_cases h : p c = true
    · rw [if_pos h, if_pos h, ih, List.length_cons]
      by_cases h2 : run p s = s.length
      · rw [if_pos h2, if_pos (by omega)]; omega
      · rw [if_neg h2, if_neg (by omega)]
    · rw [if_neg h, if_neg h, List.length_cons, if_neg (by omega)]
theorem run_append_stop (p : UInt8 → Bool) (s t : Bytes) (h : run p t = 0) : run p (s ++ t) = run p s := by
  rw [run_append]; split <;> omega
theorem run_pos (p : UInt8 → Bool) (c : UInt8) (s : Bytes) (h : p c = true) : 0 < run p (c :: s) := by
  rw [run_cons, if_pos h]; omega
theorem run_drop (p : UInt8 → Bool) (s : Bytes) : s.drop (run p s) = s.dropWhile p := by
  induction s with
  | nil => rfl
  | cons c s ih =>
    rw [run_cons, List.dropWhile_cons]
    split
    · rw [List.drop_succ_cons, ih]
    · rfl

/-! ### signs -/
theorem sign_mem (s : Bytes) (h : sign s ≠ []) : sign s ∈ signs ∧ (sign s).isPrefixOf s = true := by
  unfold sign at *
  cases h2 : signs.find? (fun x => x.isPrefixOf s) with
  | none => rw [h2] at h; exact absurd rfl h
  | some x =>
    have := List.find?_some h2
    exact ⟨List.mem_of_find?_eq_some h2, this⟩
theorem signs_ne (x : Bytes) (h : x ∈ signs) : x ≠ [] := by
  have : ∀ x ∈ signs, x ≠ [] := by decide
  exact this x h
theorem sign_nil (s : Bytes) : sign s = [] ↔ ∀ x ∈ signs, x.isPrefixOf s = false := by
  unfold sign
  constructor
  · intro h
    cases h2 : signs.find? (fun x => x.isPrefixOf s) with
    | none => intro x hx; exact Bool.eq_false_iff.2 (List.find?_eq_none.1 h2 x hx)
    | some x => rw [h2] at h; exact absurd h (signs_ne x (List.mem_of_find?_eq_some h2))
  · intro h
    have : signs.find? (fun x => x.isPrefixOf s) = none := List.find?_eq_none.2 (fun x hx => by rw [h x hx]; decide)
    rw [this]; rfl

theorem find_congr {α : Type} {p q : α → Bool} {l : List α} {x : α} (h : l.find? p = some x) (hq : ∀ y, q y = true → p y = true) (hx : q x = true) : l.find? q = some x := by
  induction l with
  | nil => simp at h
  | cons a l ih =>
    rw [List.find?_cons] at h ⊢
    cases hp : p a with
    | true =>
      rw [hp] at h
      simp only [Option.some.injEq] at h
      subst h
      rw [hx]
    | false =>
      rw [hp] at h
      have : q a = false := by
        cases hqa : q a with
        | false => rfl
        | true => rw [hq a hqa] at hp; exact absurd hp (by decide)
      rw [this]
      exact ih h
theorem prefix_take {x s : Bytes} {r : Nat} (h : x.isPrefixOf (s.take r) = true) : x.isPrefixOf s = true := by
  rw [List.isPrefixOf_iff_prefix] at *
  exact h.trans (List.take_prefix r s)
theorem prefix_take_of {x s : Bytes} {r : Nat} (h : x.isPrefixOf s = true) (hr : x.length ≤ r) : x.isPrefixOf (s.take r) = true := by
  rw [List.isPrefixOf_iff_prefix] at *
  obtain ⟨t, rfl⟩ := h
  rw [List.take_append, List.take_of_length_le hr]
  exact List.prefix_append _ _
theorem sign_take (s : Bytes) (r : Nat) (h : (sign s).length ≤ r) : sign (s.take r) = sign s := by
  by_cases h0 : sign s = []
  · rw [h0]
    rw [sign_nil] at h0 ⊢
    intro x hx
    cases h1 : x.isPrefixOf (s.take r) with
    | false => rfl
    | true => have h2 := h0 x hx; rw [prefix_take h1] at h2; exact absurd h2 (by decide)
  · unfold sign at *
    cases h2 : signs.find? (fun x => x.isPrefixOf s) with
    | none => rw [h2] at h0; exact absurd rfl h0
    | some x =>
      rw [h2] at h
      have hx := List.find?_some h2
      rw [find_congr h2 (fun y hy => prefix_take hy) (prefix_take_of hx h)]
theorem prefix_append_ten {x s b : Bytes} (h : 10 ∉ x) : x.isPrefixOf (s ++ 10 :: b) = x.isPrefixOf s := by
  induction x generalizing s with
  | nil => simp
  | cons c x ih =>
    cases s with
    | nil =>
      simp only [List.nil_append, List.isPrefixOf]
      have : (c == 10) = false := by
        rw [beq_eq_false_iff_ne]
        rintro rfl
        exact h (List.mem_cons_self ..)
      rw [this]; rfl
    | cons d s =>
      simp only [List.cons_append, List.isPrefixOf]
      rw [ih (fun hm => h (List.mem_cons_of_mem _ hm))]
theorem signs_ten (x : Bytes) (h : x ∈ signs) : 10 ∉ x := by
  have : ∀ x ∈ signs, (10 : UInt8) ∉ x := by decide
  exact this x h
theorem find_same {α : Type} {p q : α → Bool} {l : List α} (h : ∀ x ∈ l, p x = q x) : l.find? p = l.find? q := by
  induction l with
  | nil => rfl
  | cons a l ih =>
    rw [List.find?_cons, List.find?_cons, h a (List.mem_cons_self ..), ih (fun x hx => h x (List.mem_cons_of_mem _ hx))]
theorem sign_ten (s b : Bytes) : sign (s ++ 10 :: b) = sign s := by
  unfold sign
  rw [find_same (fun x hx => prefix_append_ten (signs_ten x hx))]
theorem sign_self (x : Bytes) (h : x ∈ signs) : sign x = x := by
  have : ∀ x ∈ signs, sign x = x := by decide
  exact this x h

/-! ### tokens -/
theorem token_le (s : Bytes) : (token s).2 ≤ s.length := by
  cases s with
  | nil => simp [token]
  | cons c t =>
    simp only [token]
    split; · exact run_le _ _
    split; · exact run_le _ _
    split; · exact run_le _ _
    split; · exact run_le _ _
    split; · simp
    · rename_i h
      have := (sign_mem _ h).2
      rw [List.isPrefixOf_iff_prefix] at this
      exact this.length_le
theorem token_pos (s : Bytes) (h : (token s).1 ≠ 0) : 0 < (token s).2 := by
  cases s with
  | nil => simp [token] at h
  | cons c t =>
    simp only [token] at *
    by_cases h1 : isL c = true
    · rw [if_pos h1]; exact run_pos _ _ _ (by simp [isW, h1])
    rw [if_neg h1] at *
    by_cases h2 : isD c = true
    · rw [if_pos h2]; exact run_pos _ _ _ h2
    rw [if_neg h2] at *
    by_cases h3 : isS c = true
    · rw [if_pos h3]; exact run_pos _ _ _ h3
    rw [if_neg h3] at *
    by_cases h4 : c = 35
    · rw [if_pos h4]; exact run_pos _ _ _ (by simp [isC, h4])
    rw [if_neg h4] at *
    by_cases h5 : sign (c :: t) = []
    · rw [if_pos h5] at h; exact absurd rfl h
    · rw [if_neg h5]; exact List.length_pos_iff.2 h5
theorem token_zero (s : Bytes) (h : (token s).1 = 0) : token s = (0, 0) := by
  cases s with
  | nil => rfl
  | cons c t =>
    simp only [token] at *
    by_cases h1 : isL c = true
    · rw [if_pos h1] at h; simp at h
    rw [if_neg h1] at *
    by_cases h2 : isD c = true
    · rw [if_pos h2] at h; simp at h
    rw [if_neg h2] at *
    by_cases h3 : isS c = true
    · rw [if_pos h3] at h; simp at h
    rw [if_neg h3] at *
    by_cases h4 : c = 35
    · rw [if_pos h4] at h; simp at h
    rw [if_neg h4] at *
    by_cases h5 : sign (c :: t) = []
    · rw [if_pos h5]
    · rw [if_neg h5] at h; simp at h
theorem run_take_ge (p : UInt8 → Bool) (s : Bytes) (r : Nat) (h : run p s ≤ r) : run p (s.take r) = run p s := by
  induction s generalizing r with
  | nil => simp [run_nil]
  | cons c s ih =>
    cases r with
    | zero => rw [List.take_zero, run_nil]; omega
    | succ r =>
      rw [List.take_succ_cons, run_cons, run_cons]
      rw [run_cons] at h
      split
      · rename_i hp
        rw [if_pos hp] at h
        rw [ih r (by omega)]
      · rfl
theorem token_take (s : Bytes) (r : Nat) (h : (token s).2 ≤ r) : token (s.take r) = token s := by
  cases s with
  | nil => simp
  | cons c t =>
    cases r with
    | zero =>
      have h0 : (token (c :: t)).1 = 0 := by
        rcases Nat.eq_zero_or_pos (token (c :: t)).1 with h1 | h1
        · exact h1
        · have := token_pos _ (Nat.pos_iff_ne_zero.1 h1); omega
      rw [token_zero _ h0]; rfl
    | succ r =>
      rw [List.take_succ_cons]
      have e : c :: t.take r = (c :: t).take (r + 1) := rfl
      simp only [token] at *
      by_cases h1 : isL c = true
      · rw [if_pos h1] at h ⊢; rw [if_pos h1, e, run_take_ge _ _ _ h]
      rw [if_neg h1] at h ⊢; rw [if_neg h1]
      by_cases h2 : isD c = true
      · rw [if_pos h2] at h ⊢; rw [if_pos h2, e, run_take_ge _ _ _ h]
      rw [if_neg h2] at h ⊢; rw [if_neg h2]
      by_cases h3 : isS c = true
      · rw [if_pos h3] at h ⊢; rw [if_pos h3, e, run_take_ge _ _ _ h]
      rw [if_neg h3] at h ⊢; rw [if_neg h3]
      by_cases h4 : c = 35
      · rw [if_pos h4] at h ⊢; rw [if_pos h4, e, run_take_ge _ _ _ h]
      rw [if_neg h4] at h ⊢; rw [if_neg h4]
      rw [e, sign_take]
      by_cases h5 : sign (c :: t) = []
      · rw [h5]; simp
      · rw [if_neg h5] at h; exact h
theorem token_alone (s : Bytes) : token (s.take (token s).2) = token s := token_take s _ (Nat.le_refl _)
/-- A line feed behind a token that is no space, or that does not reach the end, changes nothing. -/
theorem token_ten (s b : Bytes) (h : s ≠ []) (h4 : (token s).1 ≠ 4 ∨ (token s).2 < s.length) : token (s ++ 10 :: b) = token s := by
  cases s with
  | nil => exact absurd rfl h
  | cons c t =>
    rw [List.cons_append]
    have e : c :: (t ++ 10 :: b) = (c :: t) ++ 10 :: b := rfl
    simp only [token] at *
    by_cases h1 : isL c = true
    · rw [if_pos h1, if_pos h1, e, run_append_stop _ _ _ (by rw [run_cons]; rfl)]
    rw [if_neg h1, if_neg h1]; rw [if_neg h1] at h4
    by_cases h2 : isD c = true
    · rw [if_pos h2, if_pos h2, e, run_append_stop _ _ _ (by rw [run_cons]; rfl)]
    rw [if_neg h2, if_neg h2]; rw [if_neg h2] at h4
    by_cases h3 : isS c = true
    · rw [if_pos h3] at h4 ⊢; rw [if_pos h3, e, run_append]
      rcases h4 with h4 | h4
      · simp at h4
      · rw [if_neg (by dsimp only at h4; omega)]
    rw [if_neg h3, if_neg h3]
    by_cases h5 : c = 35
    · rw [if_pos h5, if_pos h5, e, run_append_stop _ _ _ (by rw [run_cons]; rfl)]
    rw [if_neg h5, if_neg h5, e, sign_ten]
/-- A space that reaches the end goes on over the line feed and the spaces behind it. -/
theorem token_ten_space (s b : Bytes) (h4 : (token s).1 = 4) (he : (token s).2 = s.length) : token (s ++ 10 :: b) = (4, s.length + 1 + run isS b) := by
  cases s with
  | nil => simp [token] at h4
  | cons c t =>
    rw [List.cons_append]
    have e : c :: (t ++ 10 :: b) = (c :: t) ++ 10 :: b := rfl
    simp only [token] at *
    by_cases h1 : isL c = true
    · rw [if_pos h1] at h4; simp at h4
    rw [if_neg h1] at *
    by_cases h2 : isD c = true
    · rw [if_pos h2] at h4; simp at h4
    rw [if_neg h2] at *
    by_cases h3 : isS c = true
    · rw [if_pos h3] at he ⊢
      dsimp only at he
      rw [e, run_append, if_pos he, run_cons, if_pos (by decide)]
      simp; omega
    rw [if_neg h3] at *
    by_cases h5 : c = 35
    · rw [if_pos h5] at h4; simp at h4
    rw [if_neg h5] at h4
    split at h4 <;> simp at h4
theorem token_space (c : UInt8) (s : Bytes) (h : isS c = true) : token (c :: s) = (4, run isS (c :: s)) := by
  have h1 : isL c = false := by
    simp only [isS, Bool.or_eq_true, beq_iff_eq] at h
    rcases h with ((rfl | rfl) | rfl) | rfl <;> decide
  have h2 : isD c = false := by
    simp only [isS, Bool.or_eq_true, beq_iff_eq] at h
    rcases h with ((rfl | rfl) | rfl) | rfl <;> decide
  simp only [token, h1, h2, h]
  simp

/-! ### the tokens of a text -/
theorem lexGo_fuel (n : Nat) : ∀ (m : Nat) (s : Bytes) (p : Nat), s.length ≤ n → s.length ≤ m → lexGo n s p = lexGo m s p := by
  induction n with
  | zero =>
    intro m s p hn hm
    obtain rfl : s = [] := List.eq_nil_of_length_eq_zero (by omega)
    cases m <;> simp [lexGo]
  | succ n ih =>
    intro m s p hn hm
    by_cases h : s = []
    · subst h; cases m <;> simp [lexGo]
    · have hpos : 0 < s.length := List.length_pos_iff.2 h
      obtain ⟨m, rfl⟩ : ∃ k, m = k + 1 := ⟨m - 1, by omega⟩
      simp only [lexGo]
      rw [if_neg h, if_neg h]
      by_cases h0 : (token s).1 = 0
      · rw [if_pos h0, if_pos h0]
      · rw [if_neg h0, if_neg h0]
        have := token_pos s h0
        rw [ih m _ _ (by simp; omega) (by simp; omega)]
theorem lexp_nil (p : Nat) : lexp [] p = .ok [] := rfl
theorem lexp_step (s : Bytes) (p : Nat) (h : s ≠ []) : lexp s p = if (token s).1 = 0 then .error p else
    match lexp (s.drop (token s).2) (p + (token s).2) with
    | .ok l => .ok (⟨(token s).1, s.take (token s).2, p⟩ :: l)
    | .error e => .error e := by
  have hpos : 0 < s.length := List.length_pos_iff.2 h
  unfold lexp
  obtain ⟨n, hn⟩ : ∃ n, s.length = n + 1 := ⟨s.length - 1, by omega⟩
  rw [hn]
  simp only [lexGo]
  rw [if_neg h]
  by_cases h0 : (token s).1 = 0
  · rw [if_pos h0, if_pos h0]
  · rw [if_neg h0, if_neg h0]
    have := token_pos s h0
    rw [lexGo_fuel n (s.drop (token s).2).length _ _ (by simp; omega) (Nat.le_refl _)]
theorem lexp_error (s : Bytes) (p : Nat) (h : s ≠ []) (h0 : (token s).1 = 0) : lexp s p = .error p := by rw [lexp_step s p h, if_pos h0]
theorem lexp_cons (s : Bytes) (p : Nat) (h : s ≠ []) (h0 : (token s).1 ≠ 0) : lexp s p = match lexp (s.drop (token s).2) (p + (token s).2) with
    | .ok l => .ok (⟨(token s).1, s.take (token s).2, p⟩ :: l)
    | .error e => .error e := by rw [lexp_step s p h, if_neg h0]
/-- Induction over the tokens of a text. -/
theorem lex_ind {C : Bytes → Prop} (nil : C []) (err : ∀ s, s ≠ [] → (token s).1 = 0 → C s) (cons : ∀ s, s ≠ [] → (token s).1 ≠ 0 → C (s.drop (token s).2) → C s) (s : Bytes) : C s := by
  have key : ∀ n (s : Bytes), s.length ≤ n → C s := by
    intro n
    induction n with
    | zero => intro s hs; obtain rfl : s = [] := List.eq_nil_of_length_eq_zero (by omega); exact nil
    | succ n ih =>
      intro s hs
      by_cases h : s = []
      · subst h; exact nil
      · by_cases h0 : (token s).1 = 0
        · exact err s h h0
        · refine cons s h h0 (ih _ ?_)
          have := token_pos s h0
          have : 0 < s.length := List.length_pos_iff.2 h
          simp; omega
  exact key s.length s (Nat.le_refl _)
theorem lexp_join (s : Bytes) : ∀ p l, lexp s p = .ok l → join l = s := by
  induction s using lex_ind with
  | nil => intro p l h; rw [lexp_nil] at h; cases h; rfl
  | err s hs h0 => intro p l h; rw [lexp_error s p hs h0] at h; cases h
  | cons s hs h0 ih =>
    intro p l h
    rw [lexp_cons s p hs h0] at h
    cases h1 : lexp (s.drop (token s).2) (p + (token s).2) with
    | error e => rw [h1] at h; cases h
    | ok l' =>
      rw [h1] at h
      cases h
      have := ih _ _ h1
      simp only [join, List.map_cons, List.flatten_cons] at *
      rw [this, List.take_append_drop]
theorem lexp_shift (s : Bytes) : ∀ p q, lexp s (p + q) = match lexp s p with
    | .ok l => .ok (l.map fun t => { t with pos := t.pos + q })
    | .error e => .error (e + q) := by
  induction s using lex_ind with
  | nil => intro p q; rfl
  | err s hs h0 => intro p q; rw [lexp_error s _ hs h0, lexp_error s _ hs h0]
  | cons s hs h0 ih =>
    intro p q
    rw [lexp_cons s _ hs h0, lexp_cons s _ hs h0]
    have := ih (p + (token s).2) q
    rw [show p + q + (token s).2 = p + (token s).2 + q from by omega, this]
    cases h1 : lexp (s.drop (token s).2) (p + (token s).2) with
    | error e => rfl
    | ok l' => rfl
/-- The end of a text's tokens. -/
def tokEnd : Nat → List Tok → Nat
  | p, [] => p
  | _, t :: l => tokEnd (t.pos + t.text.length) l
/-- Tokens one behind the other from p on, none of them empty. -/
def chain : Nat → List Tok → Prop
  | _, [] => True
  | p, t :: l => t.pos = p ∧ t.text ≠ [] ∧ chain (p + t.text.length) l
theorem take_token_length (s : Bytes) : (s.take (token s).2).length = (token s).2 := by
  rw [List.length_take, Nat.min_eq_left (token_le s)]
theorem lexp_chain (s : Bytes) : ∀ p l, lexp s p = .ok l → chain p l := by
  induction s using lex_ind with
  | nil => intro p l h; rw [lexp_nil] at h; cases h; trivial
  | err s hs h0 => intro p l h; rw [lexp_error s p hs h0] at h; cases h
  | cons s hs h0 ih =>
    intro p l h
    rw [lexp_cons s p hs h0] at h
    cases h1 : lexp (s.drop (token s).2) (p + (token s).2) with
    | error e => rw [h1] at h; cases h
    | ok l' =>
      rw [h1] at h
      cases h
      refine ⟨rfl, ?_, ?_⟩
      · have h2 := token_pos s h0
        have h3 := take_token_length s
        intro h4
        have h5 : s.take (token s).2 = [] := h4
        rw [h5] at h3
        simp at h3; omega
      · show chain (p + (s.take (token s).2).length) l'
        rw [take_token_length]
        exact ih _ _ h1
/-- Where no token starts: the bytes before are tokens, and none starts there. -/
theorem lexp_bad (s : Bytes) : ∀ p e, lexp s p = .error e → ∃ d, e = p + d ∧ d < s.length ∧ (token (s.drop d)).1 = 0 ∧ s.drop d ≠ [] ∧ ∃ l, lexp (s.take d) p = .ok l := by
  induction s using lex_ind with
  | nil => intro p e h; rw [lexp_nil] at h; cases h
  | err s hs h0 =>
    intro p e h
    rw [lexp_error s p hs h0] at h
    cases h
    exact ⟨0, rfl, List.length_pos_iff.2 hs, h0, hs, [], rfl⟩
  | cons s hs h0 ih =>
    intro p e h
    rw [lexp_cons s p hs h0] at h
    cases h1 : lexp (s.drop (token s).2) (p + (token s).2) with
    | ok l' => rw [h1] at h; cases h
    | error e' =>
      rw [h1] at h
      cases h
      obtain ⟨d, rfl, hd, hk, hne, l, hl⟩ := ih _ _ h1
      have hle := token_le s
      have hp := token_pos s h0
      rw [List.length_drop] at hd
      refine ⟨(token s).2 + d, by omega, by omega, by rw [← List.drop_drop]; exact hk, by rw [← List.drop_drop]; exact hne, ?_⟩
      have hne2 : s.take ((token s).2 + d) ≠ [] := by
        intro h4
        have h5 := congrArg List.length h4
        rw [List.length_take, List.length_nil] at h5
        omega
      have ht := token_take s ((token s).2 + d) (by omega)
      refine ⟨⟨(token s).1, (s.take ((token s).2 + d)).take (token s).2, p⟩ :: l, ?_⟩
      rw [lexp_cons _ p hne2 (by rw [ht]; exact h0), ht, List.drop_take, Nat.add_sub_cancel_left, hl]
theorem lexp_alone (s : Bytes) : ∀ p l, lexp s p = .ok l → ∀ t ∈ l, lexp t.text 0 = .ok [{ t with pos := 0 }] := by
  induction s using lex_ind with
  | nil => intro p l h; rw [lexp_nil] at h; cases h; intro t ht; cases ht
  | err s hs h0 => intro p l h; rw [lexp_error s p hs h0] at h; cases h
  | cons s hs h0 ih =>
    intro p l h
    rw [lexp_cons s p hs h0] at h
    cases h1 : lexp (s.drop (token s).2) (p + (token s).2) with
    | error e => rw [h1] at h; cases h
    | ok l' =>
      rw [h1] at h
      cases h
      intro t ht
      rcases List.mem_cons.1 ht with rfl | ht
      · have h2 := token_pos s h0
        have h3 := take_token_length s
        have hne : s.take (token s).2 ≠ [] := by
          intro h4
          rw [h4] at h3
          simp at h3; omega
        show lexp (s.take (token s).2) 0 = _
        rw [lexp_cons _ 0 hne (by rw [token_alone]; exact h0), token_alone, List.drop_of_length_le (by rw [h3]; exact Nat.le_refl _), lexp_nil]
        simp [List.take_take]
      · exact ih _ _ h1 t ht
/-- The text from the start of a token on has the remaining tokens. -/
theorem lexp_suffix (s : Bytes) : ∀ p l, lexp s p = .ok l → ∀ i t, l[i]? = some t → p ≤ t.pos ∧ t.pos ≤ p + s.length ∧ lexp (s.drop (t.pos - p)) t.pos = .ok (l.drop i) := by
  induction s using lex_ind with
  | nil => intro p l h; rw [lexp_nil] at h; cases h; intro i t ht; simp at ht
  | err s hs h0 => intro p l h; rw [lexp_error s p hs h0] at h; cases h
  | cons s hs h0 ih =>
    intro p l h
    have hh := h
    rw [lexp_cons s p hs h0] at h
    cases h1 : lexp (s.drop (token s).2) (p + (token s).2) with
    | error e => rw [h1] at h; cases h
    | ok l' =>
      rw [h1] at h
      cases h
      intro i t ht
      cases i with
      | zero =>
        simp only [List.getElem?_cons_zero, Option.some.injEq] at ht
        subst ht
        refine ⟨Nat.le_refl _, Nat.le_add_right _ _, ?_⟩
        simp only [Nat.sub_self, List.drop_zero]
        exact hh
      | succ i =>
        rw [List.getElem?_cons_succ] at ht
        obtain ⟨h2, h3, h4⟩ := ih _ _ h1 i t ht
        have hle := token_le s
        rw [List.length_drop] at h3
        refine ⟨by omega, by omega, ?_⟩
        rw [List.drop_succ_cons, ← h4, List.drop_drop]
        congr 2
        omega

/-! ### two texts with a line feed between them -/
theorem solid_nil : solid [] = [] := rfl
theorem solid_cons (t : Tok) (l : List Tok) : solid (t :: l) = if solidT t = true then t :: solid l else solid l := by
  unfold solid; rw [List.filter_cons]
/-- The solid tokens of a text, or the error's offset. -/
def solids (s : Bytes) (p : Nat) : Except Nat (List Tok) := match lexp s p with
  | .ok l => .ok (solid l)
  | .error e => .error e
theorem solids_nil (p : Nat) : solids [] p = .ok [] := rfl
theorem solids_step (s : Bytes) (p : Nat) (h : s ≠ []) : solids s p = if (token s).1 = 0 then .error p else
    match solids (s.drop (token s).2) (p + (token s).2) with
    | .ok l => .ok (if (token s).1 ≠ 4 ∧ (token s).1 ≠ 5 then ⟨(token s).1, s.take (token s).2, p⟩ :: l else l)
    | .error e => .error e := by
  unfold solids
  rw [lexp_step s p h]
  by_cases h0 : (token s).1 = 0
  · rw [if_pos h0, if_pos h0]
  · rw [if_neg h0, if_neg h0]
    cases lexp (s.drop (token s).2) (p + (token s).2) with
    | error e => rfl
    | ok l =>
      simp only [solid_cons, solidT, Bool.and_eq_true, decide_eq_true_eq]
/-- Spaces at the beginning are passed over. -/
theorem solids_spaces (s : Bytes) (p : Nat) : solids (s.drop (run isS s)) (p + run isS s) = solids s p := by
  cases s with
  | nil => rfl
  | cons c t =>
    by_cases hc : isS c = true
    · rw [solids_step (c :: t) p (by simp), token_space c t hc]
      simp only [show ¬ ((4 : Nat) = 0) from by decide, if_false]
      cases solids ((c :: t).drop (run isS (c :: t))) (p + run isS (c :: t)) with
      | error e => rfl
      | ok l => simp
    · rw [run_cons, if_neg hc]; rfl
theorem solids_lines (a b : Bytes) : ∀ p, solids (a ++ 10 :: b) p = match solids a p, solids b (p + a.length + 1) with
    | .ok l, .ok m => .ok (l ++ m)
    | .ok _, .error e => .error e
    | .error e, _ => .error e := by
  induction a using lex_ind with
  | nil =>
    intro p
    rw [List.nil_append, solids_nil, ← solids_spaces (10 :: b) p, run_cons, if_pos (by decide), List.drop_succ_cons]
    rw [show p + (run isS b + 1) = (p + 1) + run isS b from by omega, solids_spaces]
    simp only [List.length_nil, Nat.add_zero]
    cases solids b (p + 1) <;> rfl
  | err s hs h0 =>
    intro p
    have h1 : token (s ++ 10 :: b) = token s := token_ten s b hs (.inl (by omega))
    rw [solids_step _ p (by simp), h1, if_pos h0, solids_step s p hs, if_pos h0]
  | cons s hs h0 ih =>
    intro p
    have hle := token_le s
    by_cases h4 : (token s).1 = 4 ∧ (token s).2 = s.length
    · obtain ⟨h4, h5⟩ := h4
      rw [solids_step _ p (by simp), token_ten_space s b h4 h5, solids_step s p hs, if_neg h0, h5, List.drop_length, solids_nil]
      simp only [show ¬ ((4 : Nat) = 0) from by decide, if_false]
      rw [show (s ++ 10 :: b).drop (s.length + 1 + run isS b) = b.drop (run isS b) from by
        rw [List.drop_append, List.drop_of_length_le (by omega), List.nil_append, show s.length + 1 + run isS b - s.length = run isS b + 1 from by omega, List.drop_succ_cons]]
      rw [show p + (s.length + 1 + run isS b) = (p + s.length + 1) + run isS b from by omega, solids_spaces]
      cases solids b (p + s.length + 1) with
      | error e => rfl
      | ok m => simp [h4]
    · have h1 : token (s ++ 10 :: b) = token s := token_ten s b hs (by omega)
      rw [solids_step _ p (by simp), h1, if_neg h0, solids_step s p hs, if_neg h0, List.drop_append, List.take_append]
      rw [show (token s).2 - s.length = 0 from by omega, List.drop_zero, List.take_zero, List.append_nil, ih]
      rw [List.length_drop, show p + (token s).2 + (s.length - (token s).2) + 1 = p + s.length + 1 from by omega]
      cases solids (s.drop (token s).2) (p + (token s).2) with
      | error e => rfl
      | ok l =>
        cases solids b (p + s.length + 1) with
        | error e => rfl
        | ok m =>
          simp only
          split <;> rfl
theorem solids_shift (s : Bytes) (p q : Nat) : solids s (p + q) = match solids s p with
    | .ok l => .ok (l.map fun t => { t with pos := t.pos + q })
    | .error e => .error (e + q) := by
  unfold solids
  rw [lexp_shift]
  cases lexp s p with
  | error e => rfl
  | ok l =>
    simp only [solid, List.filter_map]
    congr 1

/-! ### names -/
def keywords : List Bytes := [[97, 114, 114, 97, 121], [98, 111, 117, 110, 100], [101, 108, 115, 101], [102, 111, 114], [105, 102], [105, 110], [108, 111, 99, 107], [111, 117, 116], [112, 101, 114, 105, 111, 100], [115, 104, 97, 114, 101, 100], [116, 97, 115, 107], [118, 97, 114], [119, 104, 105, 108, 101]]
def keyword (s : Bytes) : Bool := decide (s ∈ keywords)
def name (s : Bytes) : Bool := decide (s ≠ []) && decide (s.length ≤ 12) && (match s with | [] => false | c :: _ => isL c) && !keyword s && s.all isW
theorem run_full (p : UInt8 → Bool) (s : Bytes) : run p s = s.length ↔ s.all p = true := by
  induction s with
  | nil => simp [run_nil]
  | cons c s ih =>
    rw [run_cons, List.all_cons]
    by_cases h : p c = true
    · rw [if_pos h, h, List.length_cons]; simp only [Bool.true_and]; rw [← ih]; omega
    · rw [if_neg h, List.length_cons]
      have : p c = false := by simpa using h
      rw [this]; simp
/-- A word is one token. -/
theorem lex_word (c : UInt8) (s : Bytes) (h : isL c = true) (ha : (c :: s).all isW = true) (p : Nat) : lexp (c :: s) p = .ok [⟨1, c :: s, p⟩] := by
  have ht : token (c :: s) = (1, (c :: s).length) := by
    simp only [token]
    rw [if_pos h, (run_full _ _).2 ha]
  rw [lexp_cons _ _ (by simp) (by rw [ht]; exact Nat.one_ne_zero), ht, List.drop_length, lexp_nil, List.take_length]
theorem keyword_word : ∀ s ∈ keywords, (match s with | [] => false | c :: _ => isL c) = true ∧ s.all isW = true := by decide

/-! ### the reference's way: the longest prefix that is a token -/
def rkind (s : Bytes) : Nat :=
  match s with
  | [] => 0
  | c :: _ =>
    if (isL c && s.all isW) = true then 1
    else if s.all isD = true then 2
    else if s ∈ signs then 3
    else if s.all isS = true then 4
    else if (decide (c = 35) && s.all isC) = true then 5
    else 0
theorem signs_head (c : UInt8) (t : Bytes) (h : c :: t ∈ signs) : isL c = false ∧ isD c = false ∧ isS c = false ∧ c ≠ 35 := by
  have : ∀ x ∈ signs, ∀ c ∈ x.head?, isL c = false ∧ isD c = false ∧ isS c = false ∧ c ≠ 35 := by decide
  exact this _ h c rfl
theorem head_excl (c : UInt8) : (isL c = true → isD c = false ∧ isS c = false ∧ c ≠ 35) ∧ (isD c = true → isS c = false ∧ c ≠ 35) ∧ (isS c = true → c ≠ 35) := by
  have hS : isS c = true → c = 32 ∨ c = 9 ∨ c = 13 ∨ c = 10 := by
    intro h
    simp only [isS, Bool.or_eq_true, beq_iff_eq] at h
    rcases h with ((h | h) | h) | h <;> simp [h]
  have hSf : ¬ (c = 32 ∨ c = 9 ∨ c = 13 ∨ c = 10) → isS c = false := by
    intro h
    cases h1 : isS c with
    | false => rfl
    | true => exact absurd (hS h1) h
  refine ⟨fun h => ?_, fun h => ?_, fun h => ?_⟩
  · simp only [isL, Bool.and_eq_true, decide_eq_true_eq] at h
    refine ⟨?_, hSf ?_, ?_⟩
    · simp only [isD, Bool.and_eq_false_iff, decide_eq_false_iff_not]; omega
    · rintro (rfl | rfl | rfl | rfl) <;> simp at h
    · rintro rfl; simp at h
  · simp only [isD, Bool.and_eq_true, decide_eq_true_eq] at h
    refine ⟨hSf ?_, ?_⟩
    · rintro (rfl | rfl | rfl | rfl) <;> simp at h
    · rintro rfl; simp at h
  · rcases hS h with rfl | rfl | rfl | rfl <;> decide
theorem run_lt_not_all (p : UInt8 → Bool) (s : Bytes) (m : Nat) (h : run p s < m) (hm : m ≤ s.length) : (s.take m).all p = false := by
  cases h1 : (s.take m).all p with
  | false => rfl
  | true =>
    have h2 := (run_full p (s.take m)).2 h1
    rw [List.length_take, Nat.min_eq_left hm] at h2
    have h3 : run p (s.take m) ≤ run p s := by
      have := run_append p (s.take m) (s.drop m)
      rw [List.take_append_drop] at this
      rw [this]
      split <;> omega
    omega
theorem signs_parts : signs = signs.take 8 ++ signs.drop 8 := (List.take_append_drop 8 signs).symm
theorem sign_longest (s x : Bytes) (h : x ∈ signs) (hp : x.isPrefixOf s = true) : x.length ≤ (sign s).length := by
  have hne : sign s ≠ [] := by
    intro h0
    rw [sign_nil] at h0
    rw [h0 x h] at hp
    exact absurd hp (by decide)
  have h1 : ∀ y ∈ signs.take 8, y.length = 2 := by decide
  have h2 : ∀ y ∈ signs.drop 8, y.length = 1 := by decide
  rw [signs_parts] at h
  rcases List.mem_append.1 h with hx | hx
  · rw [h1 x hx]
    unfold sign
    rw [signs_parts, List.find?_append]
    cases h3 : (signs.take 8).find? (fun x => x.isPrefixOf s) with
    | none => exact absurd hp (List.find?_eq_none.1 h3 x hx)
    | some y =>
      have := h1 y (List.mem_of_find?_eq_some h3)
      simp only [Option.some_or, Option.getD_some]
      omega
  · rw [h2 x hx]
    exact List.length_pos_iff.2 hne
theorem all_take_run (p : UInt8 → Bool) (s : Bytes) : (s.take (run p s)).all p = true := by
  rw [List.all_eq_true]; exact run_all p s
theorem all_head {p : UInt8 → Bool} {c : UInt8} {t : Bytes} (h : p c = false) : (c :: t).all p = false := by rw [List.all_cons, h]; rfl
theorem rkind_token (s : Bytes) (h0 : (token s).1 ≠ 0) : rkind (s.take (token s).2) = (token s).1 := by
  cases s with
  | nil => simp [token] at h0
  | cons c t =>
    have hp := token_pos _ h0
    obtain ⟨n, hn⟩ : ∃ n, (token (c :: t)).2 = n + 1 := ⟨(token (c :: t)).2 - 1, by omega⟩
    have e : (c :: t).take (token (c :: t)).2 = c :: t.take n := by rw [hn, List.take_succ_cons]
    have e2 : c :: t.take n = (c :: t).take (token (c :: t)).2 := e.symm
    obtain ⟨xL, xD, xS⟩ := head_excl c
    by_cases h1 : isL c = true
    · have ht : token (c :: t) = (1, run isW (c :: t)) := by simp only [token]; rw [if_pos h1]
      rw [e]
      simp only [rkind]
      rw [e2, ht]
      simp only []
      rw [all_take_run, h1]; rfl
    have h1' : isL c = false := by simpa using h1
    by_cases h2 : isD c = true
    · have ht : token (c :: t) = (2, run isD (c :: t)) := by simp only [token]; rw [if_neg h1, if_pos h2]
      rw [e]
      simp only [rkind]
      rw [e2, ht, h1']
      simp only []
      rw [all_take_run]; rfl
    have h2' : isD c = false := by simpa using h2
    by_cases h3 : isS c = true
    · have ht : token (c :: t) = (4, run isS (c :: t)) := by simp only [token]; rw [if_neg h1, if_neg h2, if_pos h3]
      rw [e]
      simp only [rkind]
      rw [h1', all_head h2', if_neg (show ¬ (c :: t.take n ∈ signs) from fun hm => by have := (signs_head _ _ hm).2.2.1; rw [h3] at this; exact absurd this (by decide))]
      rw [e2, ht]
      simp only []
      rw [all_take_run]; rfl
    have h3' : isS c = false := by simpa using h3
    by_cases h4 : c = 35
    · have ht : token (c :: t) = (5, run isC (c :: t)) := by simp only [token]; rw [if_neg h1, if_neg h2, if_neg h3, if_pos h4]
      rw [e]
      simp only [rkind]
      rw [h1', all_head h2', if_neg (show ¬ (c :: t.take n ∈ signs) from fun hm => (signs_head _ _ hm).2.2.2 h4), all_head h3']
      rw [e2, ht]
      simp only []
      rw [all_take_run, decide_eq_true h4]; rfl
    · by_cases h5 : sign (c :: t) = []
      · have ht : token (c :: t) = (0, 0) := by simp only [token]; rw [if_neg h1, if_neg h2, if_neg h3, if_neg h4, if_pos h5]
        rw [ht] at h0; exact absurd rfl h0
      · have ht : token (c :: t) = (3, (sign (c :: t)).length) := by simp only [token]; rw [if_neg h1, if_neg h2, if_neg h3, if_neg h4, if_neg h5]
        obtain ⟨hm, hpre⟩ := sign_mem _ h5
        have hs : (c :: t).take (token (c :: t)).2 = sign (c :: t) := by
          rw [ht]
          rw [List.isPrefixOf_iff_prefix] at hpre
          exact (List.prefix_iff_eq_take.1 hpre).symm
        rw [e]
        simp only [rkind]
        rw [h1', all_head h2', if_pos (show c :: t.take n ∈ signs by rw [e2, hs]; exact hm), ht]; rfl
theorem rkind_longer (s : Bytes) (m : Nat) (h : (token s).2 < m) (hm : m ≤ s.length) : rkind (s.take m) = 0 := by
  cases s with
  | nil => simp at hm; omega
  | cons c t =>
    obtain ⟨n, rfl⟩ : ∃ n, m = n + 1 := ⟨m - 1, by omega⟩
    have e : (c :: t).take (n + 1) = c :: t.take n := List.take_succ_cons
    obtain ⟨xL, xD, xS⟩ := head_excl c
    have nosign : ∀ (hh : isL c = true ∨ isD c = true ∨ isS c = true ∨ c = 35), ¬ (c :: t.take n ∈ signs) := by
      intro hh hm
      obtain ⟨q1, q2, q3, q4⟩ := signs_head _ _ hm
      rcases hh with hh | hh | hh | hh
      · rw [q1] at hh; exact absurd hh (by decide)
      · rw [q2] at hh; exact absurd hh (by decide)
      · rw [q3] at hh; exact absurd hh (by decide)
      · exact q4 hh
    by_cases h1 : isL c = true
    · have ht : token (c :: t) = (1, run isW (c :: t)) := by simp only [token]; rw [if_pos h1]
      rw [ht] at h
      obtain ⟨y1, y2, y3⟩ := xL h1
      rw [e]
      simp only [rkind]
      rw [← e, run_lt_not_all isW _ _ h hm, h1, e, all_head y1, if_neg (nosign (.inl h1)), all_head y2, decide_eq_false y3]; rfl
    have h1' : isL c = false := by simpa using h1
    by_cases h2 : isD c = true
    · have ht : token (c :: t) = (2, run isD (c :: t)) := by simp only [token]; rw [if_neg h1, if_pos h2]
      rw [ht] at h
      obtain ⟨y2, y3⟩ := xD h2
      rw [e]
      simp only [rkind]
      rw [h1', ← e, run_lt_not_all isD _ _ h hm, e, if_neg (nosign (.inr (.inl h2))), all_head y2, decide_eq_false y3]; rfl
    have h2' : isD c = false := by simpa using h2
    by_cases h3 : isS c = true
    · have ht : token (c :: t) = (4, run isS (c :: t)) := by simp only [token]; rw [if_neg h1, if_neg h2, if_pos h3]
      rw [ht] at h
      have y3 := xS h3
      rw [e]
      simp only [rkind]
      rw [h1', all_head h2', if_neg (nosign (.inr (.inr (.inl h3)))), ← e, run_lt_not_all isS _ _ h hm, decide_eq_false y3]; rfl
    have h3' : isS c = false := by simpa using h3
    by_cases h4 : c = 35
    · have ht : token (c :: t) = (5, run isC (c :: t)) := by simp only [token]; rw [if_neg h1, if_neg h2, if_neg h3, if_pos h4]
      rw [ht] at h
      rw [e]
      simp only [rkind]
      rw [h1', all_head h2', if_neg (nosign (.inr (.inr (.inr h4)))), all_head h3', ← e, run_lt_not_all isC _ _ h hm]
      simp
    · have hns : ¬ (c :: t.take n ∈ signs) := by
        intro hx
        have hl : (c :: t.take n).length = n + 1 := by
          rw [← e, List.length_take, Nat.min_eq_left hm]
        have := sign_longest (c :: t) _ hx (by
          rw [List.isPrefixOf_iff_prefix, ← e]; exact List.take_prefix _ _)
        rw [hl] at this
        have ht : (token (c :: t)).2 = (sign (c :: t)).length := by
          simp only [token]; rw [if_neg h1, if_neg h2, if_neg h3, if_neg h4]
          split
          · rename_i h5; rw [h5]; rfl
          · rfl
        omega
      rw [e]
      simp only [rkind]
      rw [h1', all_head h2', if_neg hns, all_head h3', decide_eq_false h4]; rfl

end Go.Proofs.YtjdljjjkmjhdnaaDoor.Lx
