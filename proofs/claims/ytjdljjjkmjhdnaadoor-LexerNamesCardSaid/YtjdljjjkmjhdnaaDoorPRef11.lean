/- What the printed reference lexer comes to: the longest prefix that is a token, which is the plain lexer's. -/
import Derived.Test.YtjdljjjkmjhdnaaDoorPx6
import Derived.Test.YtjdljjjkmjhdnaaDoorPLex
namespace Go.Proofs.YtjdljjjkmjhdnaaDoor.Pure
open Go.RowKit Go.Proofs.YtjdljjjkmjhdnaaDoor Go.Proofs.YtjdljjjkmjhdnaaDoor.P Go.Proofs.YtjdljjjkmjhdnaaDoorW.PrintWords Go.Proofs.YtjdljjjkmjhdnaaDoorW.PrintLast
set_option linter.unusedVariables false
set_option linter.unusedSimpArgs false

theorem rletter_f (c : UInt8) : ontimeref11_letter.f (c.toNat : Int) = some (Lx.isL c) := by
  unfold ontimeref11_letter.f Lx.isL
  by_cases h : (c.toNat : Int) ≥ 97
  · rw [if_pos h, decide_eq_true (by omega : 97 ≤ c.toNat), Bool.true_and]
    congr 1
    exact decide_eq_decide.2 (by omega)
  · rw [if_neg h, decide_eq_false (by omega : ¬ 97 ≤ c.toNat), Bool.false_and]
theorem rdigit_f (c : UInt8) : ontimeref11_digit.f (c.toNat : Int) = some (Lx.isD c) := by
  unfold ontimeref11_digit.f Lx.isD
  by_cases h : (c.toNat : Int) ≥ 48
  · rw [if_pos h, decide_eq_true (by omega : 48 ≤ c.toNat), Bool.true_and]
    congr 1
    exact decide_eq_decide.2 (by omega)
  · rw [if_neg h, decide_eq_false (by omega : ¬ 48 ≤ c.toNat), Bool.false_and]
theorem byte_int (c d : UInt8) (n : Int) (hn : (d.toNat : Int) = n) : (c.toNat : Int) = n ↔ c = d := by
  constructor
  · intro h; exact UInt8.toNat_inj.1 (by omega)
  · rintro rfl; exact hn
theorem rspace_f (c : UInt8) : ontimeref11_space.f (c.toNat : Int) = some (Lx.isS c) := by
  unfold ontimeref11_space.f Lx.isS
  have e1 := byte_int c 32 32 rfl
  have e2 := byte_int c 9 9 rfl
  have e3 := byte_int c 10 10 rfl
  have e4 := byte_int c 13 13 rfl
  by_cases h1 : c = 32
  · rw [if_pos (e1.2 h1), h1]; rfl
  rw [if_neg (fun h => h1 (e1.1 h))]
  by_cases h2 : c = 9
  · rw [if_pos (e2.2 h2), h2]; rfl
  rw [if_neg (fun h => h2 (e2.1 h))]
  by_cases h3 : c = 10
  · rw [if_pos (e3.2 h3), h3]; rfl
  rw [if_neg (fun h => h3 (e3.1 h))]
  congr 1
  rw [Bool.eq_iff_iff, beq_iff_eq, e4]
  simp [h1, h2, h3]
theorem bt_nat (s : ByteArray) (i : Nat) (h : i < s.size) : bt s (i : Int) = (((s.data.toList[i]'(by rw [size_list]; exact h)).toNat : Nat) : Int) := by
  unfold bt
  rw [dif_pos (by simpa using h)]
  rfl

theorem In_l0 (L : List (List UInt8)) (s : ByteArray) (d : Nat) : ∀ (k i : Nat), i + d = L.length → d < k → L.length ≤ 1000 →
    ontimeref11_In.l0 k (L.map fun x => (⟨x.toArray⟩ : ByteArray)) s (i : Int) = some (decide (s.data.toList ∈ L.drop i)) := by
  induction d with
  | zero =>
    intro k i hi hk hL
    obtain ⟨k, rfl⟩ : ∃ m, k = m + 1 := ⟨k - 1, by omega⟩
    simp only [ontimeref11_In.l0]
    rw [if_neg (by rw [List.length_map]; omega), List.drop_of_length_le (by omega)]
    simp
  | succ d ih =>
    intro k i hi hk hL
    obtain ⟨k, rfl⟩ : ∃ m, k = m + 1 := ⟨k - 1, by omega⟩
    have hlt : i < L.length := by omega
    have hr : rdOf ByteArray.empty (L.map fun x => (⟨x.toArray⟩ : ByteArray)) (i : Int) = ⟨L[i].toArray⟩ := by
      simp [rdOf, List.getD_eq_getElem?_getD, List.getElem?_eq_getElem hlt]
    have hd : L.drop i = L[i] :: L.drop (i + 1) := List.drop_eq_getElem_cons hlt
    simp only [ontimeref11_In.l0]
    rw [if_pos (by rw [List.length_map]; omega), if_pos (by omega), hr, Lib.toList_data, Lib.toList_data, hd]
    by_cases e : L[i] = s.data.toList
    · rw [if_pos e, decide_eq_true (by rw [e]; exact List.mem_cons_self ..)]
    · rw [if_neg e, show wrap64 ((i : Int) + 1) = ((i + 1 : Nat) : Int) by unfold wrap64; omega, ih k (i + 1) (by omega) (by omega) hL]
      congr 1
      rw [decide_eq_decide, List.mem_cons]
      constructor
      · exact .inr
      · rintro (h | h)
        · exact absurd h.symm e
        · exact h
theorem In_f (L : List (List UInt8)) (s : ByteArray) (k : Nat) (hk : L.length < k) (hL : L.length ≤ 1000) : ontimeref11_In.f k (L.map fun x => (⟨x.toArray⟩ : ByteArray)) s = some (decide (s.data.toList ∈ L)) := by
  unfold ontimeref11_In.f
  have := In_l0 L s L.length k 0 (by omega) hk hL
  rw [List.drop_zero] at this
  exact this
theorem Signs_f : ontimeref11_Signs.f = some (Lx.signs.map fun x => (⟨x.toArray⟩ : ByteArray)) := rfl

/-- The kinds that are still open, and the answer. -/
def kindOf (s : List UInt8) (w n b c : Bool) : Int := if w = true then 1 else if n = true then 2 else if s ∈ Lx.signs then 3 else if b = true then 4 else if c = true then 5 else 0

theorem kind_l0 (s : ByteArray) (hs : s.size ≤ 70000) (d : Nat) : ∀ (k i : Nat) (w n b c : Bool), i + d = s.size → d + 40 < k →
    ontimeref11_kind.l0 k s w n b c (i : Int) = some (kindOf s.data.toList (w && (s.data.toList.drop i).all Lx.isW) (n && (s.data.toList.drop i).all Lx.isD) (b && (s.data.toList.drop i).all Lx.isS) (c && (s.data.toList.drop i).all Lx.isC)) := by
  induction d with
  | zero =>
    intro k i w n b c hi hk
    obtain ⟨k, rfl⟩ : ∃ m, k = m + 1 := ⟨k - 1, by omega⟩
    simp only [ontimeref11_kind.l0]
    rw [if_neg (by omega), List.drop_of_length_le (by rw [size_list]; omega), Signs_f]
    simp only [Option.bind_some]
    rw [In_f Lx.signs s k (by show 28 < k; omega) (by decide)]
    simp only [Option.bind_some, List.all_nil, Bool.and_true, kindOf, decide_eq_true_eq]
    cases w <;> cases n <;> cases b <;> cases c <;> simp <;> split <;> rfl
  | succ d ih =>
    intro k i w n b c hi hk
    obtain ⟨k, rfl⟩ : ∃ m, k = m + 1 := ⟨k - 1, by omega⟩
    have hlt : i < s.data.toList.length := by rw [size_list]; omega
    have hd : s.data.toList.drop i = s.data.toList[i] :: s.data.toList.drop (i + 1) := List.drop_eq_getElem_cons hlt
    have hne : ((s.data.toList[i].toNat : Int) != 10) = Lx.isC s.data.toList[i] := by
      unfold Lx.isC
      rw [Bool.eq_iff_iff, bne_iff_ne, bne_iff_ne]
      exact not_congr (byte_int _ 10 10 rfl)
    have i1 : ∀ w n b c, ontimeref11_kind.l0 k s w n b c ((i + 1 : Nat) : Int) = _ := fun w n b c => ih k (i + 1) w n b c (by omega) (by omega)
    have p1 : (i : Int) < (s.size : Int) := by omega
    have p2 : (0 : Int) ≤ (i : Int) := by omega
    have hw : wrap64 ((i : Int) + 1) = ((i + 1 : Nat) : Int) := by unfold wrap64; omega
    simp only [ontimeref11_kind.l0]
    rw [if_pos p1, bt_nat s i (by rw [← size_list]; exact hlt), hw, rletter_f, rdigit_f, rspace_f, hne, hd]
    simp only [Option.bind_some, i1, List.all_cons, if_pos p2]
    generalize (s.data.toList.drop (i + 1)).all Lx.isW = W
    generalize (s.data.toList.drop (i + 1)).all Lx.isD = D
    generalize (s.data.toList.drop (i + 1)).all Lx.isS = S
    generalize (s.data.toList.drop (i + 1)).all Lx.isC = C
    have hW : Lx.isW s.data.toList[i] = (Lx.isL s.data.toList[i] || Lx.isD s.data.toList[i]) := rfl
    rw [hW]
    generalize Lx.isL s.data.toList[i] = cl
    generalize Lx.isD s.data.toList[i] = cd
    generalize Lx.isS s.data.toList[i] = cs
    generalize Lx.isC s.data.toList[i] = cc
    cases w <;> cases n <;> cases b <;> cases c <;> cases cl <;> rfl

theorem kind_f (s : ByteArray) (hs : s.size ≤ 70000) (k : Nat) (hk : s.size + 40 < k) : ontimeref11_kind.f k s = some ((Lx.rkind s.data.toList : Nat) : Int) := by
  unfold ontimeref11_kind.f
  cases hd : s.data.toList with
  | nil =>
    have : s.size = 0 := by rw [← size_list, hd]; rfl
    rw [if_pos (by omega)]; rfl
  | cons c t =>
    have hsz : 0 < s.size := by rw [← size_list, hd]; simp
    rw [if_neg (by omega), if_pos (by omega)]
    have hb : bt s 0 = (c.toNat : Int) := by
      have := bt_nat s 0 hsz
      simp only [hd] at this
      exact this
    rw [hb, rletter_f]
    simp only [Option.bind_some]
    have := kind_l0 s hs s.size k 0 (Lx.isL c) true true ((c.toNat : Int) == 35) (by omega) hk
    rw [List.drop_zero] at this
    rw [show ((0 : Nat) : Int) = 0 from rfl] at this
    rw [this, hd]
    simp only [Lx.rkind, kindOf, Bool.true_and]
    have e35 : ((c.toNat : Int) == 35) = decide (c = 35) := by
      rw [Bool.eq_iff_iff, beq_iff_eq, decide_eq_true_eq]; exact byte_int c 35 35 rfl
    rw [e35]
    congr 1
    split; · rfl
    split; · rfl
    split; · rfl
    split; · rfl
    split <;> rfl

def toR (t : Lx.Tok) : S48 := ⟨(t.kind : Int), ⟨t.text.toArray⟩, (t.pos : Int)⟩
def resR (acc : List S48) : Except Nat (List Lx.Tok) → List S48 × Int × Int
  | .ok l => (acc ++ l.map toR, 0, 0)
  | .error e => ([], (e : Int), 3)

theorem rkind_nil : Lx.rkind [] = 0 := rfl
theorem kind_cut (s : ByteArray) (hs : s.size ≤ 700) (p m k : Nat) (hp : p + m ≤ s.size) (hk : 800 < k) : ontimeref11_kind.f k (s.extract p (p + m)) = some ((Lx.rkind ((s.data.toList.drop p).take m) : Nat) : Int) := by
  have e : (s.extract p (p + m)).data.toList = (s.data.toList.drop p).take m := by rw [Lib.extract_data, Nat.add_sub_cancel_left]
  have hz : (s.extract p (p + m)).size ≤ 700 := by rw [Lib.size_eq, e, List.length_take, List.length_drop, size_list]; omega
  rw [kind_f _ (by omega) k (by omega), e]

/-- From a greater end down to the token's own. -/
theorem ref_l1 (s : ByteArray) (hs : s.size ≤ 700) (p : Nat) (hp : p < s.size) (acc : List S48) (j : Nat) : ∀ (k m : Nat), m = (Lx.token (s.data.toList.drop p)).2 + j → p + m ≤ s.size → 900 + j < k →
    ontimeref11_Lex.l1 k s acc (p : Int) ((p + m : Nat) : Int) = ontimeref11_Lex.l1 (k - j) s acc (p : Int) ((p + (Lx.token (s.data.toList.drop p)).2 : Nat) : Int) := by
  induction j with
  | zero => intro k m hm hle hk; rw [hm]; rfl
  | succ j ih =>
    intro k m hm hle hk
    obtain ⟨k, rfl⟩ : ∃ q, k = q + 1 := ⟨k - 1, by omega⟩
    have c1 : ((p + m : Nat) : Int) > (p : Int) := by omega
    have c2 : (0 : Int) ≤ (p : Int) := by omega
    have c3 : (p : Int) ≤ ((p + m : Nat) : Int) := by omega
    have c4 : ((p + m : Nat) : Int) ≤ (s.size : Int) := by omega
    have hz := Lx.rkind_longer (s.data.toList.drop p) m (by omega) (by rw [List.length_drop, size_list]; omega)
    have hih := ih k (m - 1) (by omega) (by omega) (by omega)
    simp only [ontimeref11_Lex.l1]
    rw [if_pos c1, if_pos c2, if_pos c3, if_pos c4]
    simp only [Int.toNat_natCast]
    rw [kind_cut s hs p m k hle (by omega), hz]
    simp only [Option.bind_some, if_pos (show ((0 : Nat) : Int) = 0 from rfl)]
    rw [show wrap64 (((p + m : Nat) : Int) - 1) = ((p + (m - 1) : Nat) : Int) by unfold wrap64; omega, hih]
    rw [show k + 1 - (j + 1) = k - j from by omega]

theorem ref_l0 (s : ByteArray) (hs : s.size ≤ 700) (d : Nat) : ∀ (k p : Nat) (acc : List S48), p + d = s.size → 900 * d + 2000 < k → acc.length + d ≤ 1000 →
    ontimeref11_Lex.l0 k s acc (p : Int) = some (resR acc (Lx.lexp (s.data.toList.drop p) p)) := by
  induction d using Nat.strongRecOn with
  | _ d ih =>
  intro k p acc hp hk hacc
  obtain ⟨k, rfl⟩ : ∃ q, k = q + 1 := ⟨k - 1, by omega⟩
  simp only [ontimeref11_Lex.l0]
  by_cases hd : d = 0
  · subst hd
    rw [if_neg (by omega), List.drop_of_length_le (by rw [size_list]; omega), Lx.lexp_nil]
    simp [resR]
  · have hlen : (s.data.toList.drop p).length = d := by rw [List.length_drop, size_list]; omega
    have hne : s.data.toList.drop p ≠ [] := by intro h; rw [h] at hlen; simp at hlen; omega
    have hle := Lx.token_le (s.data.toList.drop p)
    rw [hlen] at hle
    rw [if_pos (by omega)]
    have h1 := ref_l1 s hs p (by omega) acc (d - (Lx.token (s.data.toList.drop p)).2) k d (by omega) (by omega) (by omega)
    rw [show ((s.size : Nat) : Int) = ((p + d : Nat) : Int) by rw [hp], h1]
    generalize hK : k - (d - (Lx.token (s.data.toList.drop p)).2) = K
    have hK2 : 900 * d + 1200 < K := by omega
    clear h1 hK
    obtain ⟨K, rfl⟩ : ∃ q, K = q + 1 := ⟨K - 1, by omega⟩
    by_cases h0 : (Lx.token (s.data.toList.drop p)).1 = 0
    · rw [Lx.token_zero _ h0, Lx.lexp_error _ _ hne h0]
      simp only [ontimeref11_Lex.l1, Nat.add_zero]
      rw [if_neg (by omega), if_pos trivial]
      rfl
    · have hpos := Lx.token_pos _ h0
      have hkd := Lx.rkind_token _ h0
      rw [Lx.lexp_cons _ p hne h0]
      generalize hn : (Lx.token (s.data.toList.drop p)).2 = n at *
      generalize hkk : (Lx.token (s.data.toList.drop p)).1 = kd at *
      have c1 : ((p + n : Nat) : Int) > (p : Int) := by omega
      have c2 : (0 : Int) ≤ (p : Int) := by omega
      have c3 : (p : Int) ≤ ((p + n : Nat) : Int) := by omega
      have c4 : ((p + n : Nat) : Int) ≤ (s.size : Int) := by omega
      have c5 : ¬ ((kd : Int) = 0) := by omega
      have c6 : ¬ (((p + n : Nat) : Int) = (p : Int)) := by omega
      have hih := ih (d - n) (by omega) K (p + n) (acc ++ [(⟨(kd : Int), s.extract p (p + n), (p : Int)⟩ : S48)]) (by omega) (by omega) (by simp; omega)
      simp only [ontimeref11_Lex.l1]
      rw [if_pos c1, if_pos c2, if_pos c3, if_pos c4]
      simp only [Int.toNat_natCast]
      rw [kind_cut s hs p n K (by omega) (by omega), hkd]
      simp only [Option.bind_some, if_neg c5, if_neg c6]
      rw [if_pos (by omega), hih, List.drop_drop, extract_mk, Nat.add_sub_cancel_left]
      cases Lx.lexp (s.data.toList.drop (p + n)) (p + n) with
      | error e => rfl
      | ok l => simp [resR, toR]
theorem ref_Lex_f (s : ByteArray) (hs : s.size ≤ 700) (k : Nat) (hk : 700000 ≤ k) : ontimeref11_Lex.f k s = some (resR [] (Lx.lex s.data.toList)) := by
  unfold ontimeref11_Lex.f
  rw [if_neg (by omega)]
  have := ref_l0 s hs s.size k 0 [] (by omega) (by omega) (by simp; omega)
  rw [List.drop_zero] at this
  exact this

end Go.Proofs.YtjdljjjkmjhdnaaDoor.Pure
