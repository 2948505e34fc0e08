/- Part 9 of the texts that the laws of this seat share, joined. -/
import Derived.Test.YtlmmobfebjideaaDoorS4
import Derived.Test.YtlmmobfebjideaaDoorS8
import Derived.Test.YtlmmobfebjideaaDoorS7
import Derived.Lib.ItoaLen

-- WRITTEN by myprint.py (a program of this session's over the kit's print); Lean checks it.
namespace Go.Proofs.YtlmmobfebjideaaDoor.P
open Go.RowKit Go.Proofs.YtlmmobfebjideaaDoorW.PrintWords Go.Proofs.YtlmmobfebjideaaDoorW.PrintLast Go.Proofs.YtlmmobfebjideaaDoorW.PrintMore
attribute [local go_sem] max2_int min2_int max_two min_two max_three min_three max_four min_four   -- for this text's walks alone
set_option linter.unusedVariables false
set_option linter.unusedSimpArgs false

/-! ### ontimeref14_tabs: function 42 -/
def ontimeref14_tabs.l0 : Nat → Int → ByteArray → Int → Option (ByteArray)
  | 0, _, _, _ => none
  | k + 1, x0, x3, x4 => if x4 < x0 then (if x3.size + 1 ≤ 9223372036854775807 then (ontimeref14_tabs.l0 k x0 (x3 ++ (⟨#[9]⟩ : ByteArray)) (wrap64 (x4 + 1))) else (none)) else (some x3)
def ontimeref14_tabs.f (k : Nat) (a0 : Int) : Option (ByteArray) := ontimeref14_tabs.l0 k a0 (⟨#[]⟩ : ByteArray) 0
theorem ontimeref14_tabs.mono_l : ∀ k, (∀ y0 y1 y2, LeO (ontimeref14_tabs.l0 k y0 y1 y2) (ontimeref14_tabs.l0 (k + 1) y0 y1 y2))
  | 0 => fun _ _ _ r h => by simp [ontimeref14_tabs.l0] at h
  | k + 1 => by
    have ih0 := ontimeref14_tabs.mono_l k
    · intro y0 y1 y2
      unfold ontimeref14_tabs.l0
      repeat' first
      | (with_reducible exact ih0 _ _ _)
      | (with_reducible exact LeO.refl _)
      | (with_reducible exact LeO.none _)
      | (with_reducible refine LeO.ite ?_ ?_)
      | (with_reducible refine LeO.bind ?_ (fun _ => ?_))
      | exact ih0 _ _ _
      | exact LeO.none _
      | refine LeO.ite ?_ ?_
      | refine LeO.bind ?_ (fun _ => ?_)
theorem ontimeref14_tabs.mono : ∀ a0 k, LeO (ontimeref14_tabs.f k a0) (ontimeref14_tabs.f (k + 1) a0) := by
  intro a0 k
  have ih0 := ontimeref14_tabs.mono_l k
  unfold ontimeref14_tabs.f
  repeat' first
      | (with_reducible exact ih0 _ _ _)
      | (with_reducible exact LeO.refl _)
      | (with_reducible exact LeO.none _)
      | (with_reducible refine LeO.ite ?_ ?_)
      | (with_reducible refine LeO.bind ?_ (fun _ => ?_))
      | exact ih0 _ _ _
      | exact LeO.none _
      | refine LeO.ite ?_ ?_
      | refine LeO.bind ?_ (fun _ => ?_)
set_option maxHeartbeats 8000000 in
set_option maxRecDepth 100000 in
theorem ontimeref14_tabs.calls (k : Nat) (a0 : Int) (r : ByteArray) (w : World) (h : ontimeref14_tabs.f k a0 = some r) :
    Calls Tryd.prog 42 #[.int .i64 a0] w fun e w' => e = .returned (.string r) ∧ Drawn0 w w' := by
  have H : (ontimeref14_tabs.l0 k a0 (⟨#[]⟩ : ByteArray) 0) = some r := h
  clear h
  have H' := Aside0.mk H
  clear H
  go_enter Tryd.func42, Tryd.ntmps42
  go_wp2
  go_loopg [3, 4] k (fun kq v3 v4 w' => ∃ (x3_1 : ByteArray) (x4_1 : Int), v3 = .string x3_1 ∧ v4 = .int .i64 x4_1 ∧ Aside0 (ontimeref14_tabs.l0 kq a0 x3_1 x4_1 = some r) ∧ Aside0 (kq ≤ k) ∧ Drawn0 w w')
  case atStart => exact ⟨((⟨#[]⟩ : ByteArray)), (0), (by first | rfl | (simp; done) | (simp [*]; done)), (by first | rfl | (simp; done) | (simp [*]; done)), H', ⟨Nat.le_refl _⟩, by repeat (first | exact Drawn0.refl _ | apply Drawn0.step)⟩
  case round =>
    clear H'
    obtain ⟨x3_1, x4_1, rfl, rfl, HA, HK1, ⟨m1, rfl⟩⟩ := hrel
    cases gk with
    | zero => exact absurd HA.out (by simp [ontimeref14_tabs.l0])
    | succ k1 =>
      have H := HA.out
      clear HA
      simp only [ontimeref14_tabs.l0] at H
      by_cases c2 : x4_1 < a0
      · rw [if_pos c2] at H
        have c2b0 : decide (x4_1 < a0) = true := decide_eq_true c2
        clear c2
        by_cases c3 : x3_1.size + 1 ≤ 9223372036854775807
        · rw [if_pos c3] at H
          have c3b0 := eq_true c3
          have c3b1 : decide (x3_1.size + 1 ≤ 9223372036854775807) = true := decide_eq_true c3
          try have c3b2 : (9223372036854775807 < x3_1.size + 1) = False := eq_false (Nat.not_lt.2 c3)
          have H' := Aside0.mk H
          clear H
          go_wp2
          go_roundg k1
          case measure => have := HK1.out; omega
          case rel => exact ⟨(x3_1 ++ (⟨#[9]⟩ : ByteArray)), (wrap64 (x4_1 + 1)), (by first | rfl | (simp; done) | (simp [*]; done)), (by first | rfl | (simp; done) | (simp [*]; done)), H', ⟨by have := HK1.out; omega⟩, by repeat (first | exact Drawn0.refl _ | apply Drawn0.step)⟩
        · rw [if_neg c3] at H
          exact absurd H (by simp)
      · rw [if_neg c2] at H
        have c2b0 : decide (x4_1 < a0) = false := decide_eq_false c2
        clear c2
        obtain rfl := Option.some.inj H
        go_wp2
        go_ret
        exact ⟨by first | rfl | (simp; done) | (simp [*]; done), by repeat (first | exact Drawn0.refl _ | apply Drawn0.step)⟩

end Go.Proofs.YtlmmobfebjideaaDoor.P

/- The reference's Expr at any expression; tabs, braces; Lines out of Stmt. -/
namespace Go.Proofs.YtlmmobfebjideaaDoor.P
open Go.RowKit Go.Proofs.YtlmmobfebjideaaDoor Go.Proofs.YtlmmobfebjideaaDoor.M Go.Proofs.YtlmmobfebjideaaDoorW.PrintWords Go.Proofs.YtlmmobfebjideaaDoorW.PrintLast
set_option linter.unusedVariables false
set_option linter.unusedSimpArgs false
attribute [local go_sem ↓] Go.wp_at_zero Go.wp_at_succ

theorem rexpr_any : ∀ (n : Nd), isN 1 n = true → (pE n).length ≤ 4611686018427387904 → RExC n := by
  intro n
  refine nd_ind (C := fun n => isN 1 n = true → (pE n).length ≤ 4611686018427387904 → RExC n) ?_ n
  intro k m s l ih hv hlen
  have hE := pE_eq ⟨k, m, s, l⟩
  rcases expr_cases _ hv with ⟨h, h0, h1⟩ | h | ⟨h, a, e, ha⟩ | ⟨h, a, e, ha⟩ | ⟨h, a, b, e, ha, hb⟩
  · exact rexpr_num _ h h0 h1
  · exact rexpr_var _ h
  · simp only at h e
    subst e
    refine rexpr_item _ a h rfl (ih a (by simp) ha ?_) hlen
    rw [hE, if_neg (by simp only; omega), if_neg (by simp only; omega), if_pos h] at hlen
    simp only [pE1, List.length_append] at hlen
    omega
  · simp only at h e
    subst e
    refine rexpr_unary _ a h rfl (ih a (by simp) ha ?_) hlen
    rw [hE, if_neg (by simp only; omega), if_neg (by simp only; omega), if_neg (by simp only; omega), if_neg (by simp only; omega)] at hlen
    have := paren_le (wants a (levOf k)) (pE a)
    simp only [pEu, List.length_append] at hlen
    omega
  · simp only at h e
    subst e
    have h1 := paren_le (wants a (levOf k)) (pE a)
    have h2 := paren_le (wants b (levOf k + 1)) (pE b)
    have hlen2 := hlen
    rw [hE, if_neg (by simp only; omega), if_neg (by simp only; omega), if_neg (by simp only; omega), if_pos h] at hlen2
    simp only [pE2, pEu, List.length_append] at hlen2
    exact rexpr_bin _ a b h rfl ha hb (ih a (by simp) ha (by omega)) (ih b (by simp) hb (by omega)) hlen

theorem rtabs_f (d : Nat) : ∀ (j k : Nat), j ≤ d → d ≤ 100 → k = d - j → ontimeref14_tabs.l0 (k + 1) (d : Int) ⟨(List.replicate j 9).toArray⟩ (j : Int) = some ⟨(tabs d).toArray⟩ := by
  intro j k
  induction k generalizing j with
  | zero =>
    intro hj hd he
    obtain rfl : j = d := by omega
    rw [ontimeref14_tabs.l0, if_neg (by omega)]
    rfl
  | succ k ih =>
    intro hj hd he
    have e1 : wrap64 ((j : Int) + 1) = ((j + 1 : Nat) : Int) := by unfold wrap64; omega
    have e2 : (⟨(List.replicate j 9).toArray⟩ : ByteArray).size = j := by rw [Lib.size_eq]; simp
    have e3 : (⟨(List.replicate j 9).toArray⟩ : ByteArray) ++ ⟨#[9]⟩ = ⟨(List.replicate (j + 1) 9).toArray⟩ := bytes_eq (by simp [ByteArray.data_append, List.replicate_succ'])
    rw [ontimeref14_tabs.l0, if_pos (by omega), if_pos (by omega), e1, e3]
    exact ih (j + 1) (by omega) hd (by omega)
theorem rtabs_any (d : Nat) (hd : d ≤ 100) (w : World) :
    Calls Tryd.prog 42 #[.int .i64 d] w fun e w' => e = .returned (.string ⟨(tabs d).toArray⟩) ∧ Below w.heap.size w w' := by
  have h := rtabs_f d 0 d (Nat.zero_le _) hd (by omega)
  exact (ontimeref14_tabs.calls (d + 1) d _ w h).mono (by rintro e w' ⟨rfl, h2⟩; first | exact ⟨rfl, h2⟩ | exact ⟨rfl, h2.below⟩)

def RBlC (n : Nd) : Prop := ∀ (d : Nat) (A : Option Addr) (c : Nat) (w : World), n.f3.length ≤ c → Kd.C kNd w A n.f3.length n.f3 → (pB d n).length ≤ 70368744177664 → d + depth n ≤ 60 →
  Calls Tryd.prog 12 #[nodeV n A c, .int .i64 d] w fun e w' => e = .returned (.string ⟨(pB d n).toArray⟩) ∧ Below w.heap.size w w'
def RStC (n : Nd) : Prop := ∀ (d : Nat) (A : Option Addr) (c : Nat) (w : World), n.f3.length ≤ c → Kd.C kNd w A n.f3.length n.f3 → (pS d n).length ≤ 70368744177664 → d + depth n ≤ 60 →
  Calls Tryd.prog 27 #[nodeV n A c, .int .i64 d] w fun e w' => e = .returned (.string ⟨(pS d n).toArray⟩) ∧ Below w.heap.size w w'

set_option maxHeartbeats 8000000 in
set_option maxRecDepth 100000 in
theorem braces_any (n : Nd) (hB : RBlC n) (d : Nat) (A : Option Addr) (c : Nat) (w : World) (hc : n.f3.length ≤ c) (hr : Kd.C kNd w A n.f3.length n.f3) (hlen : (pB (d + 1) n).length + (tabs d).length ≤ 70368744177664) (hd : d + 1 + depth n ≤ 60) :
    Calls Tryd.prog 41 #[nodeV n A c, .int .i64 d] w fun e w' => e = .returned (.string ⟨([123, 10] ++ pB (d + 1) n ++ tabs d ++ [125]).toArray⟩) ∧ Below w.heap.size w w' := by
  have hb : Below w.heap.size w (boxed n A c w) := (Below.refl _ _).alloc (Nat.le_refl _) _
  obtain ⟨S, hS⟩ : ∃ S : ByteArray, S = ⟨(pB (d + 1) n).toArray⟩ := ⟨_, rfl⟩
  obtain ⟨TB, hTB⟩ : ∃ S : ByteArray, S = ⟨(tabs d).toArray⟩ := ⟨_, rfl⟩
  have qS : S.data.toList = pB (d + 1) n := by rw [hS]
  have qT : TB.data.toList = tabs d := by rw [hTB]
  have zS : S.size = (pB (d + 1) n).length := by rw [hS, Lib.size_eq]
  have zT : TB.size = (tabs d).length := by rw [hTB, Lib.size_eq]
  have f1 : (9223372036854775807 < 2 + S.size) = False := eq_false (by omega)
  have f2 : (9223372036854775807 < 2 + S.size + TB.size) = False := eq_false (by omega)
  have f3 : (9223372036854775807 < 2 + S.size + TB.size + 1) = False := eq_false (by omega)
  have HL := Lib.hid (show Calls Tryd.prog 12 #[nodeV n A c, .int .i64 ((d : Int) + 1)] (boxed n A c w) fun e w' => e = .returned (.string S) ∧ Below w.heap.size w w' from by
    have h := hB (d + 1) A c (boxed n A c w) hc (Kd.C_below hr hb) (by omega) hd
    rw [show (((d + 1 : Nat) : Int)) = (d : Int) + 1 by omega] at h
    exact h.mono (by rintro e w' ⟨rfl, h2⟩; exact ⟨by rw [hS], hb.trans (h2.mono hb.size)⟩))
  have HT := Lib.hid (show ∀ W, Below w.heap.size w W → Calls Tryd.prog 42 #[.int .i64 d] W fun e w' => e = .returned (.string TB) ∧ Below w.heap.size w w' from fun W h =>
    (rtabs_any d (by omega) W).mono (by rintro e w' ⟨rfl, h2⟩; exact ⟨by rw [hTB], h.trans (h2.mono h.size)⟩))
  have HQ := Lib.hid (And.intro qS qT)
  have hd9 : d ≤ 60 := by omega
  clear hb hr hc hB hlen hd hS hTB qS qT zS zT
  go_enter Tryd.func41, Tryd.ntmps41
  go_wp2_with fail
  refine HL.out.mono ?_
  rintro e w1 ⟨rfl, h1⟩
  have H1 := Lib.hid h1
  clear h1
  go_wp2_with fail
  refine (HT.out _ H1.out).mono ?_
  rintro e w2 ⟨rfl, h2⟩
  have H2 := Lib.hid h2
  clear h2
  go_wp2_with fail
  go_ret
  refine ⟨?_, H2.out⟩
  show Ending.returned (Value.string _) = _
  congr 2
  all_goals exact bytes_eq (by obtain ⟨qS, qT⟩ := HQ.out; simp [ByteArray.data_append, qS, qT])

set_option maxHeartbeats 8000000 in
set_option maxRecDepth 100000 in
theorem rlines_any (n : Nd) (hS : ∀ x ∈ n.f3, RStC x) : RBlC n := by
  intro d A c w hc hr hlen hd
  have hmax : n.f3.length ≤ 9223372036854775807 := hr.2.1
  obtain ⟨k0, m0, s0, l⟩ := n
  simp only at hc hr hmax hS hlen hd
  have hb : Below w.heap.size w (boxed ⟨k0, m0, s0, l⟩ A c w) := (Below.refl _ _).alloc (Nat.le_refl _) _
  have hpB : pB d ⟨k0, m0, s0, l⟩ = pSs d l := by rw [pB]
  rw [hpB] at hlen ⊢
  have h3 : (boxed ⟨k0, m0, s0, l⟩ A c w).cell? ⟨w.heap.size, 3, none⟩ = some (.slice A l.length c) := (blk_cell (heap_alloc_new w _) 3).trans rfl
  have HS := Aside0.mk hS
  have HC := Aside0.mk (Kd.C_below hr hb)
  have HB := Aside0.mk hb
  have HD := Aside0.mk hd
  have HLEN := Aside0.mk hlen
  unfold boxed at h3 HC HB
  clear hb hr hc hS hlen hd hpB
  go_enter Tryd.func12, Tryd.ntmps12
  go_wp2
  generalize (w.alloc (.cells #[.int .u8 k0, .int .i64 m0, .string s0, .slice A l.length c] 24)) = X at *
  go_loopw [5, 6] (fun v5 v6 wr => ∃ k : Nat, k ≤ l.length ∧ v6 = .int .i64 k ∧ (∃ S : ByteArray, v5 = .string S ∧ Aside0 (S.data.toList = pSs d (l.take k))) ∧ Aside0 (Below X.heap.size X wr)) (fun _ v6 _ => l.length - (intOf v6).toNat)
  case atStart => exact ⟨0, Nat.zero_le _, rfl, ⟨_, rfl, ⟨by simp [pSs]⟩⟩, ⟨Below.refl _ _⟩⟩
  case round =>
    obtain ⟨k, hk, rfl, ⟨S, rfl, HT⟩, HBx⟩ := hrel
    have h3r := (HBx.out.cell (World.block_lt_of_cell? X _ h3)).trans h3
    by_cases hlt : k < l.length
    · obtain ⟨ad, B, e, he, hx0, hx1, hx2, hx3, hd3, hC⟩ := at_T24 HC.out (k : Int) (by omega) (by omega)
      cases he
      replace hx0 := (HBx.out.cell (World.block_lt_of_cell? X _ hx0)).trans hx0
      replace hx1 := (HBx.out.cell (World.block_lt_of_cell? X _ hx1)).trans hx1
      replace hx2 := (HBx.out.cell (World.block_lt_of_cell? X _ hx2)).trans hx2
      replace hx3 := (HBx.out.cell (World.block_lt_of_cell? X _ hx3)).trans hx3
      simp only [Int.toNat_natCast] at hx0 hx1 hx2 hx3
      have hp1 := pSs_take d l k hlt
      have hp2 := pSs_le d l (k + 1)
      have hdep := depth_mem l _ (rd_mem l k hlt)
      have hd2 := HD.out
      rw [depth] at hd2
      have hl2 := HLEN.out
      have hSt := HS.out _ (rd_mem l k hlt) d B e wr hd3 (Kd.C_below hC HBx.out) (by rw [hp1, List.length_append] at hp2; omega) (by omega)
      generalize rd_T24 l (k : Int) = x at *
      have hsz : S.size = (pSs d (l.take k)).length := by rw [Lib.size_eq, HT.out]
      obtain ⟨S2, hS2⟩ : ∃ S2 : ByteArray, S2 = ⟨(pS d x).toArray⟩ := ⟨_, rfl⟩
      rw [← hS2] at hSt
      have hsz2 : S2.size = (pS d x).length := by rw [hS2, Lib.size_eq]
      have f1 : (9223372036854775807 < S.size + S2.size) = False := eq_false (by rw [hp1, List.length_append] at hp2; omega)
      have HSt := Lib.hid hSt
      have HP := Lib.hid (And.intro hp1 hS2)
      clear hC hp1 hp2 hdep hd2 hl2 hSt hsz hS2 hsz2
      go_wp2_with fail
      refine HSt.out.mono ?_
      rintro e w2 ⟨rfl, h2⟩
      have H2 := Lib.hid (HBx.out.trans (h2.mono HBx.out.size))
      clear h2
      go_wp2_with fail
      go_roundw
      case rel =>
        refine ⟨k + 1, by omega, by go_num, ⟨_, rfl, ⟨?_⟩⟩, ⟨H2.out⟩⟩
        rw [HP.out.1, HP.out.2, ← HT.out]
        simp [ByteArray.data_append]
      case measure => simp [intOf]; omega
    · obtain rfl : k = l.length := by omega
      have HF := Lib.hid (show S.data.toList = pSs d l by have := HT.out; rwa [List.take_length] at this)
      clear HT
      go_wp2_with fail
      go_ret
      exact ⟨congrArg (fun x => Ending.returned (Value.string x)) (bytes_eq HF.out), HB.out.trans (HBx.out.mono HB.out.size)⟩

end Go.Proofs.YtlmmobfebjideaaDoor.P

/- ontimeref14.Stmt, walked: one way for each kind of statement. WRITTEN BY wip/tools/gen_ref.py. -/
namespace Go.Proofs.YtlmmobfebjideaaDoor.P
open Go.RowKit Go.Proofs.YtlmmobfebjideaaDoor Go.Proofs.YtlmmobfebjideaaDoor.M Go.Proofs.YtlmmobfebjideaaDoorW.PrintWords
set_option linter.unusedVariables false
set_option linter.unusedSimpArgs false
attribute [local go_sem ↓] Go.wp_at_zero Go.wp_at_succ

theorem rS_40 (d : Nat) (m : Int) (s : ByteArray) (a b : Nd) : pS d ⟨40, m, s, [a, b]⟩ = tabs d ++ (pE a ++ [32, 61, 32] ++ pE b ++ [59]) ++ [10] := by
  rw [pS.eq_def]; simp [pE1]

set_option maxHeartbeats 32000000 in
set_option maxRecDepth 100000 in
theorem rstmt_40 (m : Int) (s : ByteArray) (a b : Nd) (hm : 0 ≤ m ∧ m ≤ 1000) (ha : isN 2 a = true) (hb : isN 1 b = true)  : RStC ⟨40, m, s, [a, b]⟩ := by
  intro d A cp w hc hr hlen hd
  rw [rS_40] at hlen ⊢
  simp only [List.length_append, List.length_cons, List.length_nil] at hlen
  rw [show (⟨40, m, s, [a, b]⟩ : Nd).f3.length = 2 from rfl] at hc
  have hX : Below w.heap.size w (w.alloc (.cells #[.int .u8 40, .int .i64 m, .string s, .slice A 2 cp] 24)) := (Below.refl _ _).alloc (Nat.le_refl _) _
  have hbk : (w.alloc (.cells #[.int .u8 40, .int .i64 m, .string s, .slice A 2 cp] 24)).heap[w.heap.size]? = some (.cells #[.int .u8 40, .int .i64 m, .string s, .slice A 2 cp] 24 (0, 0)) := heap_alloc_new w _
  obtain ⟨X, hXe⟩ : ∃ X, X = (w.alloc (.cells #[.int .u8 40, .int .i64 m, .string s, .slice A 2 cp] 24)) := ⟨_, rfl⟩
  rw [← hXe] at hX hbk
  have hkids := kid_2 (Kd.C_below hr hX)
  obtain ⟨ad, Ba, da, Bb, db, rfl, ⟨a0, a1, a2, a3, hla, hCa⟩, ⟨b0, b1, b2, b3, hlb, hCb⟩⟩ := hkids
  obtain ⟨Sa, hSa⟩ : ∃ S : ByteArray, S = ⟨(pE a).toArray⟩ := ⟨_, rfl⟩
  have qa : Sa.data.toList = pE a := by rw [hSa]
  have zSa : Sa.size = (pE a).length := by rw [hSa, Lib.size_eq]
  obtain ⟨Sb, hSb⟩ : ∃ S : ByteArray, S = ⟨(pE b).toArray⟩ := ⟨_, rfl⟩
  have qb : Sb.data.toList = pE b := by rw [hSb]
  have zSb : Sb.size = (pE b).length := by rw [hSb, Lib.size_eq]
  obtain ⟨NUM, hNUM⟩ : ∃ S : ByteArray, S = ⟨(Lib.itoa m).toArray⟩ := ⟨_, rfl⟩
  have qN : NUM.data.toList = Lib.itoa m := by rw [hNUM]
  have zN : NUM.size = (Lib.itoa m).length := by rw [hNUM, Lib.size_eq]
  have zs : s.size = s.data.toList.length := Lib.size_eq s
  obtain ⟨TB, hTB⟩ : ∃ S : ByteArray, S = ⟨(tabs d).toArray⟩ := ⟨_, rfl⟩
  have qT : TB.data.toList = tabs d := by rw [hTB]
  have zT : TB.size = (tabs d).length := by rw [hTB, Lib.size_eq]
  have HQ := Lib.hid (And.intro qa (And.intro qb (And.intro qN qT)))
  have f1_ : (9223372036854775807 < Sa.size + 3) = False := eq_false (by omega)
  have f2_ : (9223372036854775807 < Sa.size + 3 + Sb.size) = False := eq_false (by omega)
  have f3_ : (9223372036854775807 < Sa.size + 3 + Sb.size + 1) = False := eq_false (by omega)
  have f4_ : (9223372036854775807 < TB.size + (Sa.size + 3 + Sb.size + 1)) = False := eq_false (by omega)
  have f5_ : (9223372036854775807 < TB.size + (Sa.size + 3 + Sb.size + 1) + 1) = False := eq_false (by omega)
  have HEa := Lib.hid (show ∀ W, Below X.heap.size X W → Calls Tryd.prog 9 #[.agg #[.int .u8 a.f0, .int .i64 a.f1, .string a.f2, .slice Ba a.f3.length da]] W fun e w' => e = .returned (.string Sa) ∧ Below X.heap.size X w' from fun W h =>
    (rexpr_any a (place_expr _ ha) (by omega) Ba da W hla (Kd.C_below hCa h)).mono (by rintro e w' ⟨rfl, h2⟩; exact ⟨by rw [hSa], h.trans (h2.mono h.size)⟩))
  have HEb := Lib.hid (show ∀ W, Below X.heap.size X W → Calls Tryd.prog 9 #[.agg #[.int .u8 b.f0, .int .i64 b.f1, .string b.f2, .slice Bb b.f3.length db]] W fun e w' => e = .returned (.string Sb) ∧ Below X.heap.size X w' from fun W h =>
    (rexpr_any b (hb) (by omega) Bb db W hlb (Kd.C_below hCb h)).mono (by rintro e w' ⟨rfl, h2⟩; exact ⟨by rw [hSb], h.trans (h2.mono h.size)⟩))
  have HD := Lib.hid (show ∀ W, Below X.heap.size X W → Calls Tryd.prog 20 #[.int .i64 m] W fun e w' => e = .returned (.string NUM) ∧ Below X.heap.size X w' from fun W h =>
    (decimal_any m (by omega) (by omega) W).mono (by rintro e w' ⟨rfl, h2⟩; exact ⟨by rw [hNUM], h.trans (h2.mono h.size)⟩))
  have HT := Lib.hid (show ∀ W, Below X.heap.size X W → Calls Tryd.prog 42 #[.int .i64 d] W fun e w' => e = .returned (.string TB) ∧ Below X.heap.size X w' from fun W h =>
    (rtabs_any d (by omega) W).mono (by rintro e w' ⟨rfl, h2⟩; exact ⟨by rw [hTB], h.trans (h2.mono h.size)⟩))
  have z0 : X.cell? ⟨w.heap.size, 0, none⟩ = some (.int .u8 40) := (blk_cell hbk 0).trans rfl
  have z1 : X.cell? ⟨w.heap.size, 1, none⟩ = some (.int .i64 m) := (blk_cell hbk 1).trans rfl
  have z2 : X.cell? ⟨w.heap.size, 2, none⟩ = some (.string s) := (blk_cell hbk 2).trans rfl
  have z3 : X.cell? ⟨w.heap.size, 3, none⟩ = some (.slice (some ad) 2 cp) := (blk_cell hbk 3).trans rfl
  have HS := Lib.hid (show ∀ Wk, Below X.heap.size X Wk → (Wk.cell? ⟨w.heap.size, 0, none⟩ = some (.int .u8 40) ∧ Wk.cell? ⟨w.heap.size, 1, none⟩ = some (.int .i64 m) ∧ Wk.cell? ⟨w.heap.size, 2, none⟩ = some (.string s) ∧ Wk.cell? ⟨w.heap.size, 3, none⟩ = some (.slice (some ad) 2 cp) ∧ Wk.cell? ad = some (.int .u8 a.f0) ∧ Wk.cell? ⟨ad.block, ad.off + 1, none⟩ = some (.int .i64 a.f1) ∧ Wk.cell? ⟨ad.block, ad.off + 2, none⟩ = some (.string a.f2) ∧ Wk.cell? ⟨ad.block, ad.off + 3, none⟩ = some (.slice Ba a.f3.length da) ∧ Wk.cell? ⟨ad.block, ad.off + 4, none⟩ = some (.int .u8 b.f0) ∧ Wk.cell? ⟨ad.block, ad.off + 4 + 1, none⟩ = some (.int .i64 b.f1) ∧ Wk.cell? ⟨ad.block, ad.off + 4 + 2, none⟩ = some (.string b.f2) ∧ Wk.cell? ⟨ad.block, ad.off + 4 + 3, none⟩ = some (.slice Bb b.f3.length db)) from fun Wk h =>
    have kk := fun {p : Addr} {v : Value} (z : X.cell? p = some v) => (h.cell (World.block_lt_of_cell? X _ z)).trans z
    ⟨kk z0, kk z1, kk z2, kk z3, kk a0, kk a1, kk a2, kk a3, kk b0, kk b1, kk b2, kk b3⟩)
  have HX := Lib.hid hX
  rw [hXe] at HX HEa HEb HD HT HS
  clear hX hbk hXe hr hc hlen hd hm qN hNUM zN zs hTB qT zT z0 z1 z2 z3 qa hSa zSa qb hSb zSb  ha hb a0 a1 a2 a3 hla hCa b0 b1 b2 b3 hlb hCb
  generalize a.f0 = a0 at *
  generalize a.f1 = a1 at *
  generalize a.f2 = a2 at *
  generalize a.f3.length = a3 at *
  generalize b.f0 = b0 at *
  generalize b.f1 = b1 at *
  generalize b.f2 = b2 at *
  generalize b.f3.length = b3 at *
  unfold nodeV
  simp only [List.length_cons, List.length_nil]
  go_enter Tryd.func27, Tryd.ntmps27
  go_wp2_with fail
  generalize (w.alloc (.cells #[.int .u8 40, .int .i64 m, .string s, .slice (some ad) 2 cp] 24)) = W0 at *
  have hrefl : Below W0.heap.size W0 W0 := Below.refl _ _
  have allS := HS.out
  go_region_held3 (fun W => W.cell? ⟨w.heap.size, 0, none⟩ = some (.int .u8 40) ∧ W.cell? ⟨w.heap.size, 1, none⟩ = some (.int .i64 m) ∧ W.cell? ⟨w.heap.size, 2, none⟩ = some (.string s) ∧ W.cell? ⟨w.heap.size, 3, none⟩ = some (.slice (some ad) 2 cp) ∧ W.cell? ad = some (.int .u8 a0) ∧ W.cell? ⟨ad.block, ad.off + 1, none⟩ = some (.int .i64 a1) ∧ W.cell? ⟨ad.block, ad.off + 2, none⟩ = some (.string a2) ∧ W.cell? ⟨ad.block, ad.off + 3, none⟩ = some (.slice Ba a3 da) ∧ W.cell? ⟨ad.block, ad.off + 4, none⟩ = some (.int .u8 b0) ∧ W.cell? ⟨ad.block, ad.off + 4 + 1, none⟩ = some (.int .i64 b1) ∧ W.cell? ⟨ad.block, ad.off + 4 + 2, none⟩ = some (.string b2) ∧ W.cell? ⟨ad.block, ad.off + 4 + 3, none⟩ = some (.slice Bb b3 db))
    (first | exact allS _ (by assumption) | exact allS _ (below_drew1 (by assumption)))
    (first
      | (go_at_call 9; (with_reducible refine (HEa.out _ ?hbb).mono ?_); (case hbb => first | assumption | exact below_drew1 (by assumption)); rintro e w' ⟨rfl, hbw⟩)
      | (go_at_call 9; (with_reducible refine (HEb.out _ ?hbb).mono ?_); (case hbb => first | assumption | exact below_drew1 (by assumption)); rintro e w' ⟨rfl, hbw⟩)
      | (go_at_call 20; (with_reducible refine (HD.out _ ?hbb).mono ?_); (case hbb => first | assumption | exact below_drew1 (by assumption)); rintro e w' ⟨rfl, hbw⟩))
  all_goals
    have HW := Lib.hid hbw
    clear hbw
    go_wp2_with fail
    refine (HT.out _ HW.out).mono ?_
    rintro e w5 ⟨rfl, h5⟩
    have H5 := Lib.hid h5
    clear h5
    go_wp2_with fail
    go_ret
    refine ⟨?_, HX.out.trans (H5.out.mono HX.out.size)⟩
    show Ending.returned (Value.string _) = _
    congr 2
    all_goals exact bytes_eq (by obtain ⟨qa, qb, qN, qT⟩ := HQ.out; simp [ByteArray.data_append, qa, qb, qN, qT])

theorem rS_41 (d : Nat) (m : Int) (s : ByteArray) (a b c : Nd) : pS d ⟨41, m, s, [a, b, c]⟩ = tabs d ++ ([105, 102, 32] ++ pE a ++ [32] ++ ([123, 10] ++ pB (d + 1) b ++ tabs d ++ [125]) ++ [32, 101, 108, 115, 101, 32] ++ ([123, 10] ++ pB (d + 1) c ++ tabs d ++ [125])) ++ [10] := by
  rw [pS.eq_def]; simp [pE1]

set_option maxHeartbeats 32000000 in
set_option maxRecDepth 100000 in
theorem rstmt_41 (m : Int) (s : ByteArray) (a b c : Nd) (hm : 0 ≤ m ∧ m ≤ 1000) (ha : isN 1 a = true) (hBb : RBlC b) (hBc : RBlC c) : RStC ⟨41, m, s, [a, b, c]⟩ := by
  intro d A cp w hc hr hlen hd
  rw [rS_41] at hlen ⊢
  simp only [List.length_append, List.length_cons, List.length_nil] at hlen
  rw [show (⟨41, m, s, [a, b, c]⟩ : Nd).f3.length = 3 from rfl] at hc
  have hX : Below w.heap.size w (w.alloc (.cells #[.int .u8 41, .int .i64 m, .string s, .slice A 3 cp] 24)) := (Below.refl _ _).alloc (Nat.le_refl _) _
  have hbk : (w.alloc (.cells #[.int .u8 41, .int .i64 m, .string s, .slice A 3 cp] 24)).heap[w.heap.size]? = some (.cells #[.int .u8 41, .int .i64 m, .string s, .slice A 3 cp] 24 (0, 0)) := heap_alloc_new w _
  obtain ⟨X, hXe⟩ : ∃ X, X = (w.alloc (.cells #[.int .u8 41, .int .i64 m, .string s, .slice A 3 cp] 24)) := ⟨_, rfl⟩
  rw [← hXe] at hX hbk
  have hkids := kid_3 (Kd.C_below hr hX)
  obtain ⟨ad, Ba, da, Bb, db, Bc, dc, rfl, ⟨a0, a1, a2, a3, hla, hCa⟩, ⟨b0, b1, b2, b3, hlb, hCb⟩, ⟨c0, c1, c2, c3, hlc, hCc⟩⟩ := hkids
  obtain ⟨Sa, hSa⟩ : ∃ S : ByteArray, S = ⟨(pE a).toArray⟩ := ⟨_, rfl⟩
  have qa : Sa.data.toList = pE a := by rw [hSa]
  have zSa : Sa.size = (pE a).length := by rw [hSa, Lib.size_eq]
  obtain ⟨Gb, hGb⟩ : ∃ S : ByteArray, S = ⟨([123, 10] ++ pB (d + 1) b ++ tabs d ++ [125]).toArray⟩ := ⟨_, rfl⟩
  have pb : Gb.data.toList = ([123, 10] ++ pB (d + 1) b ++ tabs d ++ [125]) := by rw [hGb]
  have zGb : Gb.size = 2 + (pB (d + 1) b).length + (tabs d).length + 1 := by rw [hGb, Lib.size_eq]; simp only [List.length_append, List.length_cons, List.length_nil]
  obtain ⟨Gc, hGc⟩ : ∃ S : ByteArray, S = ⟨([123, 10] ++ pB (d + 1) c ++ tabs d ++ [125]).toArray⟩ := ⟨_, rfl⟩
  have pc : Gc.data.toList = ([123, 10] ++ pB (d + 1) c ++ tabs d ++ [125]) := by rw [hGc]
  have zGc : Gc.size = 2 + (pB (d + 1) c).length + (tabs d).length + 1 := by rw [hGc, Lib.size_eq]; simp only [List.length_append, List.length_cons, List.length_nil]
  obtain ⟨NUM, hNUM⟩ : ∃ S : ByteArray, S = ⟨(Lib.itoa m).toArray⟩ := ⟨_, rfl⟩
  have qN : NUM.data.toList = Lib.itoa m := by rw [hNUM]
  have zN : NUM.size = (Lib.itoa m).length := by rw [hNUM, Lib.size_eq]
  have zs : s.size = s.data.toList.length := Lib.size_eq s
  obtain ⟨TB, hTB⟩ : ∃ S : ByteArray, S = ⟨(tabs d).toArray⟩ := ⟨_, rfl⟩
  have qT : TB.data.toList = tabs d := by rw [hTB]
  have zT : TB.size = (tabs d).length := by rw [hTB, Lib.size_eq]
  have HQ := Lib.hid (And.intro qa (And.intro pb (And.intro pc (And.intro qN qT))))
  have f1_ : (9223372036854775807 < 3 + Sa.size) = False := eq_false (by omega)
  have f2_ : (9223372036854775807 < 3 + Sa.size + 1) = False := eq_false (by omega)
  have f3_ : (9223372036854775807 < 3 + Sa.size + 1 + Gb.size) = False := eq_false (by omega)
  have f4_ : (9223372036854775807 < 3 + Sa.size + 1 + Gb.size + 6) = False := eq_false (by omega)
  have f5_ : (9223372036854775807 < 3 + Sa.size + 1 + Gb.size + 6 + Gc.size) = False := eq_false (by omega)
  have f6_ : (9223372036854775807 < TB.size + (3 + Sa.size + 1 + Gb.size + 6 + Gc.size)) = False := eq_false (by omega)
  have f7_ : (9223372036854775807 < TB.size + (3 + Sa.size + 1 + Gb.size + 6 + Gc.size) + 1) = False := eq_false (by omega)
  have HEa := Lib.hid (show ∀ W, Below X.heap.size X W → Calls Tryd.prog 9 #[.agg #[.int .u8 a.f0, .int .i64 a.f1, .string a.f2, .slice Ba a.f3.length da]] W fun e w' => e = .returned (.string Sa) ∧ Below X.heap.size X w' from fun W h =>
    (rexpr_any a (ha) (by omega) Ba da W hla (Kd.C_below hCa h)).mono (by rintro e w' ⟨rfl, h2⟩; exact ⟨by rw [hSa], h.trans (h2.mono h.size)⟩))
  have HGb := Lib.hid (show ∀ W, Below X.heap.size X W → Calls Tryd.prog 41 #[.agg #[.int .u8 b.f0, .int .i64 b.f1, .string b.f2, .slice Bb b.f3.length db], .int .i64 d] W fun e w' => e = .returned (.string Gb) ∧ Below X.heap.size X w' from fun W h =>
    (braces_any b hBb d Bb db W hlb (Kd.C_below hCb h) (by omega) (by have hd2 := hd; rw [depth] at hd2; simp only [depths] at hd2; omega)).mono (by rintro e w' ⟨rfl, h2⟩; exact ⟨by rw [hGb], h.trans (h2.mono h.size)⟩))
  have HGc := Lib.hid (show ∀ W, Below X.heap.size X W → Calls Tryd.prog 41 #[.agg #[.int .u8 c.f0, .int .i64 c.f1, .string c.f2, .slice Bc c.f3.length dc], .int .i64 d] W fun e w' => e = .returned (.string Gc) ∧ Below X.heap.size X w' from fun W h =>
    (braces_any c hBc d Bc dc W hlc (Kd.C_below hCc h) (by omega) (by have hd2 := hd; rw [depth] at hd2; simp only [depths] at hd2; omega)).mono (by rintro e w' ⟨rfl, h2⟩; exact ⟨by rw [hGc], h.trans (h2.mono h.size)⟩))
  have HD := Lib.hid (show ∀ W, Below X.heap.size X W → Calls Tryd.prog 20 #[.int .i64 m] W fun e w' => e = .returned (.string NUM) ∧ Below X.heap.size X w' from fun W h =>
    (decimal_any m (by omega) (by omega) W).mono (by rintro e w' ⟨rfl, h2⟩; exact ⟨by rw [hNUM], h.trans (h2.mono h.size)⟩))
  have HT := Lib.hid (show ∀ W, Below X.heap.size X W → Calls Tryd.prog 42 #[.int .i64 d] W fun e w' => e = .returned (.string TB) ∧ Below X.heap.size X w' from fun W h =>
    (rtabs_any d (by omega) W).mono (by rintro e w' ⟨rfl, h2⟩; exact ⟨by rw [hTB], h.trans (h2.mono h.size)⟩))
  have z0 : X.cell? ⟨w.heap.size, 0, none⟩ = some (.int .u8 41) := (blk_cell hbk 0).trans rfl
  have z1 : X.cell? ⟨w.heap.size, 1, none⟩ = some (.int .i64 m) := (blk_cell hbk 1).trans rfl
  have z2 : X.cell? ⟨w.heap.size, 2, none⟩ = some (.string s) := (blk_cell hbk 2).trans rfl
  have z3 : X.cell? ⟨w.heap.size, 3, none⟩ = some (.slice (some ad) 3 cp) := (blk_cell hbk 3).trans rfl
  have HS := Lib.hid (show ∀ Wk, Below X.heap.size X Wk → (Wk.cell? ⟨w.heap.size, 0, none⟩ = some (.int .u8 41) ∧ Wk.cell? ⟨w.heap.size, 1, none⟩ = some (.int .i64 m) ∧ Wk.cell? ⟨w.heap.size, 2, none⟩ = some (.string s) ∧ Wk.cell? ⟨w.heap.size, 3, none⟩ = some (.slice (some ad) 3 cp) ∧ Wk.cell? ad = some (.int .u8 a.f0) ∧ Wk.cell? ⟨ad.block, ad.off + 1, none⟩ = some (.int .i64 a.f1) ∧ Wk.cell? ⟨ad.block, ad.off + 2, none⟩ = some (.string a.f2) ∧ Wk.cell? ⟨ad.block, ad.off + 3, none⟩ = some (.slice Ba a.f3.length da) ∧ Wk.cell? ⟨ad.block, ad.off + 4, none⟩ = some (.int .u8 b.f0) ∧ Wk.cell? ⟨ad.block, ad.off + 4 + 1, none⟩ = some (.int .i64 b.f1) ∧ Wk.cell? ⟨ad.block, ad.off + 4 + 2, none⟩ = some (.string b.f2) ∧ Wk.cell? ⟨ad.block, ad.off + 4 + 3, none⟩ = some (.slice Bb b.f3.length db) ∧ Wk.cell? ⟨ad.block, ad.off + 8, none⟩ = some (.int .u8 c.f0) ∧ Wk.cell? ⟨ad.block, ad.off + 8 + 1, none⟩ = some (.int .i64 c.f1) ∧ Wk.cell? ⟨ad.block, ad.off + 8 + 2, none⟩ = some (.string c.f2) ∧ Wk.cell? ⟨ad.block, ad.off + 8 + 3, none⟩ = some (.slice Bc c.f3.length dc)) from fun Wk h =>
    have kk := fun {p : Addr} {v : Value} (z : X.cell? p = some v) => (h.cell (World.block_lt_of_cell? X _ z)).trans z
    ⟨kk z0, kk z1, kk z2, kk z3, kk a0, kk a1, kk a2, kk a3, kk b0, kk b1, kk b2, kk b3, kk c0, kk c1, kk c2, kk c3⟩)
  have HX := Lib.hid hX
  rw [hXe] at HX HEa HGb HGc HD HT HS
  clear hX hbk hXe hr hc hlen hd hm qN hNUM zN zs hTB qT zT z0 z1 z2 z3 qa hSa zSa pb hGb zGb hBb pc hGc zGc hBc ha a0 a1 a2 a3 hla hCa b0 b1 b2 b3 hlb hCb c0 c1 c2 c3 hlc hCc
  generalize a.f0 = a0 at *
  generalize a.f1 = a1 at *
  generalize a.f2 = a2 at *
  generalize a.f3.length = a3 at *
  generalize b.f0 = b0 at *
  generalize b.f1 = b1 at *
  generalize b.f2 = b2 at *
  generalize b.f3.length = b3 at *
  generalize c.f0 = c0 at *
  generalize c.f1 = c1 at *
  generalize c.f2 = c2 at *
  generalize c.f3.length = c3 at *
  unfold nodeV
  simp only [List.length_cons, List.length_nil]
  go_enter Tryd.func27, Tryd.ntmps27
  go_wp2_with fail
  generalize (w.alloc (.cells #[.int .u8 41, .int .i64 m, .string s, .slice (some ad) 3 cp] 24)) = W0 at *
  have hrefl : Below W0.heap.size W0 W0 := Below.refl _ _
  have allS := HS.out
  go_region_held3 (fun W => W.cell? ⟨w.heap.size, 0, none⟩ = some (.int .u8 41) ∧ W.cell? ⟨w.heap.size, 1, none⟩ = some (.int .i64 m) ∧ W.cell? ⟨w.heap.size, 2, none⟩ = some (.string s) ∧ W.cell? ⟨w.heap.size, 3, none⟩ = some (.slice (some ad) 3 cp) ∧ W.cell? ad = some (.int .u8 a0) ∧ W.cell? ⟨ad.block, ad.off + 1, none⟩ = some (.int .i64 a1) ∧ W.cell? ⟨ad.block, ad.off + 2, none⟩ = some (.string a2) ∧ W.cell? ⟨ad.block, ad.off + 3, none⟩ = some (.slice Ba a3 da) ∧ W.cell? ⟨ad.block, ad.off + 4, none⟩ = some (.int .u8 b0) ∧ W.cell? ⟨ad.block, ad.off + 4 + 1, none⟩ = some (.int .i64 b1) ∧ W.cell? ⟨ad.block, ad.off + 4 + 2, none⟩ = some (.string b2) ∧ W.cell? ⟨ad.block, ad.off + 4 + 3, none⟩ = some (.slice Bb b3 db) ∧ W.cell? ⟨ad.block, ad.off + 8, none⟩ = some (.int .u8 c0) ∧ W.cell? ⟨ad.block, ad.off + 8 + 1, none⟩ = some (.int .i64 c1) ∧ W.cell? ⟨ad.block, ad.off + 8 + 2, none⟩ = some (.string c2) ∧ W.cell? ⟨ad.block, ad.off + 8 + 3, none⟩ = some (.slice Bc c3 dc))
    (first | exact allS _ (by assumption) | exact allS _ (below_drew1 (by assumption)))
    (first
      | (go_at_call 9; (with_reducible refine (HEa.out _ ?hbb).mono ?_); (case hbb => first | assumption | exact below_drew1 (by assumption)); rintro e w' ⟨rfl, hbw⟩)
      | (go_at_call 41; (with_reducible refine (HGb.out _ ?hbb).mono ?_); (case hbb => first | assumption | exact below_drew1 (by assumption)); rintro e w' ⟨rfl, hbw⟩)
      | (go_at_call 41; (with_reducible refine (HGc.out _ ?hbb).mono ?_); (case hbb => first | assumption | exact below_drew1 (by assumption)); rintro e w' ⟨rfl, hbw⟩)
      | (go_at_call 20; (with_reducible refine (HD.out _ ?hbb).mono ?_); (case hbb => first | assumption | exact below_drew1 (by assumption)); rintro e w' ⟨rfl, hbw⟩))
  all_goals
    have HW := Lib.hid hbw
    clear hbw
    go_wp2_with fail
    refine (HT.out _ HW.out).mono ?_
    rintro e w5 ⟨rfl, h5⟩
    have H5 := Lib.hid h5
    clear h5
    go_wp2_with fail
    go_ret
    refine ⟨?_, HX.out.trans (H5.out.mono HX.out.size)⟩
    show Ending.returned (Value.string _) = _
    congr 2
    all_goals exact bytes_eq (by obtain ⟨qa, pb, pc, qN, qT⟩ := HQ.out; simp [ByteArray.data_append, qa, pb, pc, qN, qT])

theorem rS_42 (d : Nat) (m : Int) (s : ByteArray) (a : Nd) : pS d ⟨42, m, s, [a]⟩ = tabs d ++ ([102, 111, 114, 32] ++ s.data.toList ++ [32, 60, 32] ++ Lib.itoa m ++ [32] ++ ([123, 10] ++ pB (d + 1) a ++ tabs d ++ [125])) ++ [10] := by
  rw [pS.eq_def]; simp [pE1]

set_option maxHeartbeats 32000000 in
set_option maxRecDepth 100000 in
theorem rstmt_42 (m : Int) (s : ByteArray) (a : Nd) (hm : 0 ≤ m ∧ m ≤ 1000)  (hBa : RBlC a) : RStC ⟨42, m, s, [a]⟩ := by
  intro d A cp w hc hr hlen hd
  rw [rS_42] at hlen ⊢
  simp only [List.length_append, List.length_cons, List.length_nil] at hlen
  rw [show (⟨42, m, s, [a]⟩ : Nd).f3.length = 1 from rfl] at hc
  have hX : Below w.heap.size w (w.alloc (.cells #[.int .u8 42, .int .i64 m, .string s, .slice A 1 cp] 24)) := (Below.refl _ _).alloc (Nat.le_refl _) _
  have hbk : (w.alloc (.cells #[.int .u8 42, .int .i64 m, .string s, .slice A 1 cp] 24)).heap[w.heap.size]? = some (.cells #[.int .u8 42, .int .i64 m, .string s, .slice A 1 cp] 24 (0, 0)) := heap_alloc_new w _
  obtain ⟨X, hXe⟩ : ∃ X, X = (w.alloc (.cells #[.int .u8 42, .int .i64 m, .string s, .slice A 1 cp] 24)) := ⟨_, rfl⟩
  rw [← hXe] at hX hbk
  have hkids := kid_1 (Kd.C_below hr hX)
  obtain ⟨ad, Ba, da, rfl, ⟨a0, a1, a2, a3, hla, hCa⟩⟩ := hkids
  obtain ⟨Ga, hGa⟩ : ∃ S : ByteArray, S = ⟨([123, 10] ++ pB (d + 1) a ++ tabs d ++ [125]).toArray⟩ := ⟨_, rfl⟩
  have pa : Ga.data.toList = ([123, 10] ++ pB (d + 1) a ++ tabs d ++ [125]) := by rw [hGa]
  have zGa : Ga.size = 2 + (pB (d + 1) a).length + (tabs d).length + 1 := by rw [hGa, Lib.size_eq]; simp only [List.length_append, List.length_cons, List.length_nil]
  obtain ⟨NUM, hNUM⟩ : ∃ S : ByteArray, S = ⟨(Lib.itoa m).toArray⟩ := ⟨_, rfl⟩
  have qN : NUM.data.toList = Lib.itoa m := by rw [hNUM]
  have zN : NUM.size = (Lib.itoa m).length := by rw [hNUM, Lib.size_eq]
  have zs : s.size = s.data.toList.length := Lib.size_eq s
  obtain ⟨TB, hTB⟩ : ∃ S : ByteArray, S = ⟨(tabs d).toArray⟩ := ⟨_, rfl⟩
  have qT : TB.data.toList = tabs d := by rw [hTB]
  have zT : TB.size = (tabs d).length := by rw [hTB, Lib.size_eq]
  have HQ := Lib.hid (And.intro pa (And.intro qN qT))
  have f1_ : (9223372036854775807 < 4 + s.size) = False := eq_false (by omega)
  have f2_ : (9223372036854775807 < 4 + s.size + 3) = False := eq_false (by omega)
  have f3_ : (9223372036854775807 < 4 + s.size + 3 + NUM.size) = False := eq_false (by omega)
  have f4_ : (9223372036854775807 < 4 + s.size + 3 + NUM.size + 1) = False := eq_false (by omega)
  have f5_ : (9223372036854775807 < 4 + s.size + 3 + NUM.size + 1 + Ga.size) = False := eq_false (by omega)
  have f6_ : (9223372036854775807 < TB.size + (4 + s.size + 3 + NUM.size + 1 + Ga.size)) = False := eq_false (by omega)
  have f7_ : (9223372036854775807 < TB.size + (4 + s.size + 3 + NUM.size + 1 + Ga.size) + 1) = False := eq_false (by omega)
  have HGa := Lib.hid (show ∀ W, Below X.heap.size X W → Calls Tryd.prog 41 #[.agg #[.int .u8 a.f0, .int .i64 a.f1, .string a.f2, .slice Ba a.f3.length da], .int .i64 d] W fun e w' => e = .returned (.string Ga) ∧ Below X.heap.size X w' from fun W h =>
    (braces_any a hBa d Ba da W hla (Kd.C_below hCa h) (by omega) (by have hd2 := hd; rw [depth] at hd2; simp only [depths] at hd2; omega)).mono (by rintro e w' ⟨rfl, h2⟩; exact ⟨by rw [hGa], h.trans (h2.mono h.size)⟩))
  have HD := Lib.hid (show ∀ W, Below X.heap.size X W → Calls Tryd.prog 20 #[.int .i64 m] W fun e w' => e = .returned (.string NUM) ∧ Below X.heap.size X w' from fun W h =>
    (decimal_any m (by omega) (by omega) W).mono (by rintro e w' ⟨rfl, h2⟩; exact ⟨by rw [hNUM], h.trans (h2.mono h.size)⟩))
  have HT := Lib.hid (show ∀ W, Below X.heap.size X W → Calls Tryd.prog 42 #[.int .i64 d] W fun e w' => e = .returned (.string TB) ∧ Below X.heap.size X w' from fun W h =>
    (rtabs_any d (by omega) W).mono (by rintro e w' ⟨rfl, h2⟩; exact ⟨by rw [hTB], h.trans (h2.mono h.size)⟩))
  have z0 : X.cell? ⟨w.heap.size, 0, none⟩ = some (.int .u8 42) := (blk_cell hbk 0).trans rfl
  have z1 : X.cell? ⟨w.heap.size, 1, none⟩ = some (.int .i64 m) := (blk_cell hbk 1).trans rfl
  have z2 : X.cell? ⟨w.heap.size, 2, none⟩ = some (.string s) := (blk_cell hbk 2).trans rfl
  have z3 : X.cell? ⟨w.heap.size, 3, none⟩ = some (.slice (some ad) 1 cp) := (blk_cell hbk 3).trans rfl
  have HS := Lib.hid (show ∀ Wk, Below X.heap.size X Wk → (Wk.cell? ⟨w.heap.size, 0, none⟩ = some (.int .u8 42) ∧ Wk.cell? ⟨w.heap.size, 1, none⟩ = some (.int .i64 m) ∧ Wk.cell? ⟨w.heap.size, 2, none⟩ = some (.string s) ∧ Wk.cell? ⟨w.heap.size, 3, none⟩ = some (.slice (some ad) 1 cp) ∧ Wk.cell? ad = some (.int .u8 a.f0) ∧ Wk.cell? ⟨ad.block, ad.off + 1, none⟩ = some (.int .i64 a.f1) ∧ Wk.cell? ⟨ad.block, ad.off + 2, none⟩ = some (.string a.f2) ∧ Wk.cell? ⟨ad.block, ad.off + 3, none⟩ = some (.slice Ba a.f3.length da)) from fun Wk h =>
    have kk := fun {p : Addr} {v : Value} (z : X.cell? p = some v) => (h.cell (World.block_lt_of_cell? X _ z)).trans z
    ⟨kk z0, kk z1, kk z2, kk z3, kk a0, kk a1, kk a2, kk a3⟩)
  have HX := Lib.hid hX
  rw [hXe] at HX HGa HD HT HS
  clear hX hbk hXe hr hc hlen hd hm qN hNUM zN zs hTB qT zT z0 z1 z2 z3  pa hGa zGa hBa  a0 a1 a2 a3 hla hCa
  generalize a.f0 = a0 at *
  generalize a.f1 = a1 at *
  generalize a.f2 = a2 at *
  generalize a.f3.length = a3 at *
  unfold nodeV
  simp only [List.length_cons, List.length_nil]
  go_enter Tryd.func27, Tryd.ntmps27
  go_wp2_with fail
  generalize (w.alloc (.cells #[.int .u8 42, .int .i64 m, .string s, .slice (some ad) 1 cp] 24)) = W0 at *
  have hrefl : Below W0.heap.size W0 W0 := Below.refl _ _
  have allS := HS.out
  go_region_held3 (fun W => W.cell? ⟨w.heap.size, 0, none⟩ = some (.int .u8 42) ∧ W.cell? ⟨w.heap.size, 1, none⟩ = some (.int .i64 m) ∧ W.cell? ⟨w.heap.size, 2, none⟩ = some (.string s) ∧ W.cell? ⟨w.heap.size, 3, none⟩ = some (.slice (some ad) 1 cp) ∧ W.cell? ad = some (.int .u8 a0) ∧ W.cell? ⟨ad.block, ad.off + 1, none⟩ = some (.int .i64 a1) ∧ W.cell? ⟨ad.block, ad.off + 2, none⟩ = some (.string a2) ∧ W.cell? ⟨ad.block, ad.off + 3, none⟩ = some (.slice Ba a3 da))
    (first | exact allS _ (by assumption) | exact allS _ (below_drew1 (by assumption)))
    (first
      | (go_at_call 41; (with_reducible refine (HGa.out _ ?hbb).mono ?_); (case hbb => first | assumption | exact below_drew1 (by assumption)); rintro e w' ⟨rfl, hbw⟩)
      | (go_at_call 20; (with_reducible refine (HD.out _ ?hbb).mono ?_); (case hbb => first | assumption | exact below_drew1 (by assumption)); rintro e w' ⟨rfl, hbw⟩))
  all_goals
    have HW := Lib.hid hbw
    clear hbw
    go_wp2_with fail
    refine (HT.out _ HW.out).mono ?_
    rintro e w5 ⟨rfl, h5⟩
    have H5 := Lib.hid h5
    clear h5
    go_wp2_with fail
    go_ret
    refine ⟨?_, HX.out.trans (H5.out.mono HX.out.size)⟩
    show Ending.returned (Value.string _) = _
    congr 2
    all_goals exact bytes_eq (by obtain ⟨pa, qN, qT⟩ := HQ.out; simp [ByteArray.data_append, pa, qN, qT])

theorem rS_43 (d : Nat) (m : Int) (s : ByteArray) (a b : Nd) : pS d ⟨43, m, s, [a, b]⟩ = tabs d ++ ([119, 104, 105, 108, 101, 32] ++ pE a ++ [32, 98, 111, 117, 110, 100, 32] ++ Lib.itoa m ++ [32] ++ ([123, 10] ++ pB (d + 1) b ++ tabs d ++ [125])) ++ [10] := by
  rw [pS.eq_def]; simp [pE1]

set_option maxHeartbeats 32000000 in
set_option maxRecDepth 100000 in
theorem rstmt_43 (m : Int) (s : ByteArray) (a b : Nd) (hm : 0 ≤ m ∧ m ≤ 1000) (ha : isN 1 a = true) (hBb : RBlC b) : RStC ⟨43, m, s, [a, b]⟩ := by
  intro d A cp w hc hr hlen hd
  rw [rS_43] at hlen ⊢
  simp only [List.length_append, List.length_cons, List.length_nil] at hlen
  rw [show (⟨43, m, s, [a, b]⟩ : Nd).f3.length = 2 from rfl] at hc
  have hX : Below w.heap.size w (w.alloc (.cells #[.int .u8 43, .int .i64 m, .string s, .slice A 2 cp] 24)) := (Below.refl _ _).alloc (Nat.le_refl _) _
  have hbk : (w.alloc (.cells #[.int .u8 43, .int .i64 m, .string s, .slice A 2 cp] 24)).heap[w.heap.size]? = some (.cells #[.int .u8 43, .int .i64 m, .string s, .slice A 2 cp] 24 (0, 0)) := heap_alloc_new w _
  obtain ⟨X, hXe⟩ : ∃ X, X = (w.alloc (.cells #[.int .u8 43, .int .i64 m, .string s, .slice A 2 cp] 24)) := ⟨_, rfl⟩
  rw [← hXe] at hX hbk
  have hkids := kid_2 (Kd.C_below hr hX)
  obtain ⟨ad, Ba, da, Bb, db, rfl, ⟨a0, a1, a2, a3, hla, hCa⟩, ⟨b0, b1, b2, b3, hlb, hCb⟩⟩ := hkids
  obtain ⟨Sa, hSa⟩ : ∃ S : ByteArray, S = ⟨(pE a).toArray⟩ := ⟨_, rfl⟩
  have qa : Sa.data.toList = pE a := by rw [hSa]
  have zSa : Sa.size = (pE a).length := by rw [hSa, Lib.size_eq]
  obtain ⟨Gb, hGb⟩ : ∃ S : ByteArray, S = ⟨([123, 10] ++ pB (d + 1) b ++ tabs d ++ [125]).toArray⟩ := ⟨_, rfl⟩
  have pb : Gb.data.toList = ([123, 10] ++ pB (d + 1) b ++ tabs d ++ [125]) := by rw [hGb]
  have zGb : Gb.size = 2 + (pB (d + 1) b).length + (tabs d).length + 1 := by rw [hGb, Lib.size_eq]; simp only [List.length_append, List.length_cons, List.length_nil]
  obtain ⟨NUM, hNUM⟩ : ∃ S : ByteArray, S = ⟨(Lib.itoa m).toArray⟩ := ⟨_, rfl⟩
  have qN : NUM.data.toList = Lib.itoa m := by rw [hNUM]
  have zN : NUM.size = (Lib.itoa m).length := by rw [hNUM, Lib.size_eq]
  have zs : s.size = s.data.toList.length := Lib.size_eq s
  obtain ⟨TB, hTB⟩ : ∃ S : ByteArray, S = ⟨(tabs d).toArray⟩ := ⟨_, rfl⟩
  have qT : TB.data.toList = tabs d := by rw [hTB]
  have zT : TB.size = (tabs d).length := by rw [hTB, Lib.size_eq]
  have HQ := Lib.hid (And.intro qa (And.intro pb (And.intro qN qT)))
  have f1_ : (9223372036854775807 < 6 + Sa.size) = False := eq_false (by omega)
  have f2_ : (9223372036854775807 < 6 + Sa.size + 7) = False := eq_false (by omega)
  have f3_ : (9223372036854775807 < 6 + Sa.size + 7 + NUM.size) = False := eq_false (by omega)
  have f4_ : (9223372036854775807 < 6 + Sa.size + 7 + NUM.size + 1) = False := eq_false (by omega)
  have f5_ : (9223372036854775807 < 6 + Sa.size + 7 + NUM.size + 1 + Gb.size) = False := eq_false (by omega)
  have f6_ : (9223372036854775807 < TB.size + (6 + Sa.size + 7 + NUM.size + 1 + Gb.size)) = False := eq_false (by omega)
  have f7_ : (9223372036854775807 < TB.size + (6 + Sa.size + 7 + NUM.size + 1 + Gb.size) + 1) = False := eq_false (by omega)
  have HEa := Lib.hid (show ∀ W, Below X.heap.size X W → Calls Tryd.prog 9 #[.agg #[.int .u8 a.f0, .int .i64 a.f1, .string a.f2, .slice Ba a.f3.length da]] W fun e w' => e = .returned (.string Sa) ∧ Below X.heap.size X w' from fun W h =>
    (rexpr_any a (ha) (by omega) Ba da W hla (Kd.C_below hCa h)).mono (by rintro e w' ⟨rfl, h2⟩; exact ⟨by rw [hSa], h.trans (h2.mono h.size)⟩))
  have HGb := Lib.hid (show ∀ W, Below X.heap.size X W → Calls Tryd.prog 41 #[.agg #[.int .u8 b.f0, .int .i64 b.f1, .string b.f2, .slice Bb b.f3.length db], .int .i64 d] W fun e w' => e = .returned (.string Gb) ∧ Below X.heap.size X w' from fun W h =>
    (braces_any b hBb d Bb db W hlb (Kd.C_below hCb h) (by omega) (by have hd2 := hd; rw [depth] at hd2; simp only [depths] at hd2; omega)).mono (by rintro e w' ⟨rfl, h2⟩; exact ⟨by rw [hGb], h.trans (h2.mono h.size)⟩))
  have HD := Lib.hid (show ∀ W, Below X.heap.size X W → Calls Tryd.prog 20 #[.int .i64 m] W fun e w' => e = .returned (.string NUM) ∧ Below X.heap.size X w' from fun W h =>
    (decimal_any m (by omega) (by omega) W).mono (by rintro e w' ⟨rfl, h2⟩; exact ⟨by rw [hNUM], h.trans (h2.mono h.size)⟩))
  have HT := Lib.hid (show ∀ W, Below X.heap.size X W → Calls Tryd.prog 42 #[.int .i64 d] W fun e w' => e = .returned (.string TB) ∧ Below X.heap.size X w' from fun W h =>
    (rtabs_any d (by omega) W).mono (by rintro e w' ⟨rfl, h2⟩; exact ⟨by rw [hTB], h.trans (h2.mono h.size)⟩))
  have z0 : X.cell? ⟨w.heap.size, 0, none⟩ = some (.int .u8 43) := (blk_cell hbk 0).trans rfl
  have z1 : X.cell? ⟨w.heap.size, 1, none⟩ = some (.int .i64 m) := (blk_cell hbk 1).trans rfl
  have z2 : X.cell? ⟨w.heap.size, 2, none⟩ = some (.string s) := (blk_cell hbk 2).trans rfl
  have z3 : X.cell? ⟨w.heap.size, 3, none⟩ = some (.slice (some ad) 2 cp) := (blk_cell hbk 3).trans rfl
  have HS := Lib.hid (show ∀ Wk, Below X.heap.size X Wk → (Wk.cell? ⟨w.heap.size, 0, none⟩ = some (.int .u8 43) ∧ Wk.cell? ⟨w.heap.size, 1, none⟩ = some (.int .i64 m) ∧ Wk.cell? ⟨w.heap.size, 2, none⟩ = some (.string s) ∧ Wk.cell? ⟨w.heap.size, 3, none⟩ = some (.slice (some ad) 2 cp) ∧ Wk.cell? ad = some (.int .u8 a.f0) ∧ Wk.cell? ⟨ad.block, ad.off + 1, none⟩ = some (.int .i64 a.f1) ∧ Wk.cell? ⟨ad.block, ad.off + 2, none⟩ = some (.string a.f2) ∧ Wk.cell? ⟨ad.block, ad.off + 3, none⟩ = some (.slice Ba a.f3.length da) ∧ Wk.cell? ⟨ad.block, ad.off + 4, none⟩ = some (.int .u8 b.f0) ∧ Wk.cell? ⟨ad.block, ad.off + 4 + 1, none⟩ = some (.int .i64 b.f1) ∧ Wk.cell? ⟨ad.block, ad.off + 4 + 2, none⟩ = some (.string b.f2) ∧ Wk.cell? ⟨ad.block, ad.off + 4 + 3, none⟩ = some (.slice Bb b.f3.length db)) from fun Wk h =>
    have kk := fun {p : Addr} {v : Value} (z : X.cell? p = some v) => (h.cell (World.block_lt_of_cell? X _ z)).trans z
    ⟨kk z0, kk z1, kk z2, kk z3, kk a0, kk a1, kk a2, kk a3, kk b0, kk b1, kk b2, kk b3⟩)
  have HX := Lib.hid hX
  rw [hXe] at HX HEa HGb HD HT HS
  clear hX hbk hXe hr hc hlen hd hm qN hNUM zN zs hTB qT zT z0 z1 z2 z3 qa hSa zSa pb hGb zGb hBb ha a0 a1 a2 a3 hla hCa b0 b1 b2 b3 hlb hCb
  generalize a.f0 = a0 at *
  generalize a.f1 = a1 at *
  generalize a.f2 = a2 at *
  generalize a.f3.length = a3 at *
  generalize b.f0 = b0 at *
  generalize b.f1 = b1 at *
  generalize b.f2 = b2 at *
  generalize b.f3.length = b3 at *
  unfold nodeV
  simp only [List.length_cons, List.length_nil]
  go_enter Tryd.func27, Tryd.ntmps27
  go_wp2_with fail
  generalize (w.alloc (.cells #[.int .u8 43, .int .i64 m, .string s, .slice (some ad) 2 cp] 24)) = W0 at *
  have hrefl : Below W0.heap.size W0 W0 := Below.refl _ _
  have allS := HS.out
  go_region_held3 (fun W => W.cell? ⟨w.heap.size, 0, none⟩ = some (.int .u8 43) ∧ W.cell? ⟨w.heap.size, 1, none⟩ = some (.int .i64 m) ∧ W.cell? ⟨w.heap.size, 2, none⟩ = some (.string s) ∧ W.cell? ⟨w.heap.size, 3, none⟩ = some (.slice (some ad) 2 cp) ∧ W.cell? ad = some (.int .u8 a0) ∧ W.cell? ⟨ad.block, ad.off + 1, none⟩ = some (.int .i64 a1) ∧ W.cell? ⟨ad.block, ad.off + 2, none⟩ = some (.string a2) ∧ W.cell? ⟨ad.block, ad.off + 3, none⟩ = some (.slice Ba a3 da) ∧ W.cell? ⟨ad.block, ad.off + 4, none⟩ = some (.int .u8 b0) ∧ W.cell? ⟨ad.block, ad.off + 4 + 1, none⟩ = some (.int .i64 b1) ∧ W.cell? ⟨ad.block, ad.off + 4 + 2, none⟩ = some (.string b2) ∧ W.cell? ⟨ad.block, ad.off + 4 + 3, none⟩ = some (.slice Bb b3 db))
    (first | exact allS _ (by assumption) | exact allS _ (below_drew1 (by assumption)))
    (first
      | (go_at_call 9; (with_reducible refine (HEa.out _ ?hbb).mono ?_); (case hbb => first | assumption | exact below_drew1 (by assumption)); rintro e w' ⟨rfl, hbw⟩)
      | (go_at_call 41; (with_reducible refine (HGb.out _ ?hbb).mono ?_); (case hbb => first | assumption | exact below_drew1 (by assumption)); rintro e w' ⟨rfl, hbw⟩)
      | (go_at_call 20; (with_reducible refine (HD.out _ ?hbb).mono ?_); (case hbb => first | assumption | exact below_drew1 (by assumption)); rintro e w' ⟨rfl, hbw⟩))
  all_goals
    have HW := Lib.hid hbw
    clear hbw
    go_wp2_with fail
    refine (HT.out _ HW.out).mono ?_
    rintro e w5 ⟨rfl, h5⟩
    have H5 := Lib.hid h5
    clear h5
    go_wp2_with fail
    go_ret
    refine ⟨?_, HX.out.trans (H5.out.mono HX.out.size)⟩
    show Ending.returned (Value.string _) = _
    congr 2
    all_goals exact bytes_eq (by obtain ⟨qa, pb, qN, qT⟩ := HQ.out; simp [ByteArray.data_append, qa, pb, qN, qT])

theorem rS_44 (d : Nat) (m : Int) (s : ByteArray) (a : Nd) : pS d ⟨44, m, s, [a]⟩ = tabs d ++ ([105, 110, 32] ++ pE a ++ [44, 32] ++ Lib.itoa m ++ [59]) ++ [10] := by
  rw [pS.eq_def]; simp [pE1]

set_option maxHeartbeats 32000000 in
set_option maxRecDepth 100000 in
theorem rstmt_44 (m : Int) (s : ByteArray) (a : Nd) (hm : 0 ≤ m ∧ m ≤ 1000) (ha : isN 2 a = true)  : RStC ⟨44, m, s, [a]⟩ := by
  intro d A cp w hc hr hlen hd
  rw [rS_44] at hlen ⊢
  simp only [List.length_append, List.length_cons, List.length_nil] at hlen
  rw [show (⟨44, m, s, [a]⟩ : Nd).f3.length = 1 from rfl] at hc
  have hX : Below w.heap.size w (w.alloc (.cells #[.int .u8 44, .int .i64 m, .string s, .slice A 1 cp] 24)) := (Below.refl _ _).alloc (Nat.le_refl _) _
  have hbk : (w.alloc (.cells #[.int .u8 44, .int .i64 m, .string s, .slice A 1 cp] 24)).heap[w.heap.size]? = some (.cells #[.int .u8 44, .int .i64 m, .string s, .slice A 1 cp] 24 (0, 0)) := heap_alloc_new w _
  obtain ⟨X, hXe⟩ : ∃ X, X = (w.alloc (.cells #[.int .u8 44, .int .i64 m, .string s, .slice A 1 cp] 24)) := ⟨_, rfl⟩
  rw [← hXe] at hX hbk
  have hkids := kid_1 (Kd.C_below hr hX)
  obtain ⟨ad, Ba, da, rfl, ⟨a0, a1, a2, a3, hla, hCa⟩⟩ := hkids
  obtain ⟨Sa, hSa⟩ : ∃ S : ByteArray, S = ⟨(pE a).toArray⟩ := ⟨_, rfl⟩
  have qa : Sa.data.toList = pE a := by rw [hSa]
  have zSa : Sa.size = (pE a).length := by rw [hSa, Lib.size_eq]
  obtain ⟨NUM, hNUM⟩ : ∃ S : ByteArray, S = ⟨(Lib.itoa m).toArray⟩ := ⟨_, rfl⟩
  have qN : NUM.data.toList = Lib.itoa m := by rw [hNUM]
  have zN : NUM.size = (Lib.itoa m).length := by rw [hNUM, Lib.size_eq]
  have zs : s.size = s.data.toList.length := Lib.size_eq s
  obtain ⟨TB, hTB⟩ : ∃ S : ByteArray, S = ⟨(tabs d).toArray⟩ := ⟨_, rfl⟩
  have qT : TB.data.toList = tabs d := by rw [hTB]
  have zT : TB.size = (tabs d).length := by rw [hTB, Lib.size_eq]
  have HQ := Lib.hid (And.intro qa (And.intro qN qT))
  have f1_ : (9223372036854775807 < 3 + Sa.size) = False := eq_false (by omega)
  have f2_ : (9223372036854775807 < 3 + Sa.size + 2) = False := eq_false (by omega)
  have f3_ : (9223372036854775807 < 3 + Sa.size + 2 + NUM.size) = False := eq_false (by omega)
  have f4_ : (9223372036854775807 < 3 + Sa.size + 2 + NUM.size + 1) = False := eq_false (by omega)
  have f5_ : (9223372036854775807 < TB.size + (3 + Sa.size + 2 + NUM.size + 1)) = False := eq_false (by omega)
  have f6_ : (9223372036854775807 < TB.size + (3 + Sa.size + 2 + NUM.size + 1) + 1) = False := eq_false (by omega)
  have HEa := Lib.hid (show ∀ W, Below X.heap.size X W → Calls Tryd.prog 9 #[.agg #[.int .u8 a.f0, .int .i64 a.f1, .string a.f2, .slice Ba a.f3.length da]] W fun e w' => e = .returned (.string Sa) ∧ Below X.heap.size X w' from fun W h =>
    (rexpr_any a (place_expr _ ha) (by omega) Ba da W hla (Kd.C_below hCa h)).mono (by rintro e w' ⟨rfl, h2⟩; exact ⟨by rw [hSa], h.trans (h2.mono h.size)⟩))
  have HD := Lib.hid (show ∀ W, Below X.heap.size X W → Calls Tryd.prog 20 #[.int .i64 m] W fun e w' => e = .returned (.string NUM) ∧ Below X.heap.size X w' from fun W h =>
    (decimal_any m (by omega) (by omega) W).mono (by rintro e w' ⟨rfl, h2⟩; exact ⟨by rw [hNUM], h.trans (h2.mono h.size)⟩))
  have HT := Lib.hid (show ∀ W, Below X.heap.size X W → Calls Tryd.prog 42 #[.int .i64 d] W fun e w' => e = .returned (.string TB) ∧ Below X.heap.size X w' from fun W h =>
    (rtabs_any d (by omega) W).mono (by rintro e w' ⟨rfl, h2⟩; exact ⟨by rw [hTB], h.trans (h2.mono h.size)⟩))
  have z0 : X.cell? ⟨w.heap.size, 0, none⟩ = some (.int .u8 44) := (blk_cell hbk 0).trans rfl
  have z1 : X.cell? ⟨w.heap.size, 1, none⟩ = some (.int .i64 m) := (blk_cell hbk 1).trans rfl
  have z2 : X.cell? ⟨w.heap.size, 2, none⟩ = some (.string s) := (blk_cell hbk 2).trans rfl
  have z3 : X.cell? ⟨w.heap.size, 3, none⟩ = some (.slice (some ad) 1 cp) := (blk_cell hbk 3).trans rfl
  have HS := Lib.hid (show ∀ Wk, Below X.heap.size X Wk → (Wk.cell? ⟨w.heap.size, 0, none⟩ = some (.int .u8 44) ∧ Wk.cell? ⟨w.heap.size, 1, none⟩ = some (.int .i64 m) ∧ Wk.cell? ⟨w.heap.size, 2, none⟩ = some (.string s) ∧ Wk.cell? ⟨w.heap.size, 3, none⟩ = some (.slice (some ad) 1 cp) ∧ Wk.cell? ad = some (.int .u8 a.f0) ∧ Wk.cell? ⟨ad.block, ad.off + 1, none⟩ = some (.int .i64 a.f1) ∧ Wk.cell? ⟨ad.block, ad.off + 2, none⟩ = some (.string a.f2) ∧ Wk.cell? ⟨ad.block, ad.off + 3, none⟩ = some (.slice Ba a.f3.length da)) from fun Wk h =>
    have kk := fun {p : Addr} {v : Value} (z : X.cell? p = some v) => (h.cell (World.block_lt_of_cell? X _ z)).trans z
    ⟨kk z0, kk z1, kk z2, kk z3, kk a0, kk a1, kk a2, kk a3⟩)
  have HX := Lib.hid hX
  rw [hXe] at HX HEa HD HT HS
  clear hX hbk hXe hr hc hlen hd hm qN hNUM zN zs hTB qT zT z0 z1 z2 z3 qa hSa zSa  ha a0 a1 a2 a3 hla hCa
  generalize a.f0 = a0 at *
  generalize a.f1 = a1 at *
  generalize a.f2 = a2 at *
  generalize a.f3.length = a3 at *
  unfold nodeV
  simp only [List.length_cons, List.length_nil]
  go_enter Tryd.func27, Tryd.ntmps27
  go_wp2_with fail
  generalize (w.alloc (.cells #[.int .u8 44, .int .i64 m, .string s, .slice (some ad) 1 cp] 24)) = W0 at *
  have hrefl : Below W0.heap.size W0 W0 := Below.refl _ _
  have allS := HS.out
  go_region_held3 (fun W => W.cell? ⟨w.heap.size, 0, none⟩ = some (.int .u8 44) ∧ W.cell? ⟨w.heap.size, 1, none⟩ = some (.int .i64 m) ∧ W.cell? ⟨w.heap.size, 2, none⟩ = some (.string s) ∧ W.cell? ⟨w.heap.size, 3, none⟩ = some (.slice (some ad) 1 cp) ∧ W.cell? ad = some (.int .u8 a0) ∧ W.cell? ⟨ad.block, ad.off + 1, none⟩ = some (.int .i64 a1) ∧ W.cell? ⟨ad.block, ad.off + 2, none⟩ = some (.string a2) ∧ W.cell? ⟨ad.block, ad.off + 3, none⟩ = some (.slice Ba a3 da))
    (first | exact allS _ (by assumption) | exact allS _ (below_drew1 (by assumption)))
    (first
      | (go_at_call 9; (with_reducible refine (HEa.out _ ?hbb).mono ?_); (case hbb => first | assumption | exact below_drew1 (by assumption)); rintro e w' ⟨rfl, hbw⟩)
      | (go_at_call 20; (with_reducible refine (HD.out _ ?hbb).mono ?_); (case hbb => first | assumption | exact below_drew1 (by assumption)); rintro e w' ⟨rfl, hbw⟩))
  all_goals
    have HW := Lib.hid hbw
    clear hbw
    go_wp2_with fail
    refine (HT.out _ HW.out).mono ?_
    rintro e w5 ⟨rfl, h5⟩
    have H5 := Lib.hid h5
    clear h5
    go_wp2_with fail
    go_ret
    refine ⟨?_, HX.out.trans (H5.out.mono HX.out.size)⟩
    show Ending.returned (Value.string _) = _
    congr 2
    all_goals exact bytes_eq (by obtain ⟨qa, qN, qT⟩ := HQ.out; simp [ByteArray.data_append, qa, qN, qT])

theorem rS_45 (d : Nat) (m : Int) (s : ByteArray) (a : Nd) : pS d ⟨45, m, s, [a]⟩ = tabs d ++ ([111, 117, 116, 32] ++ pE a ++ [44, 32] ++ Lib.itoa m ++ [59]) ++ [10] := by
  rw [pS.eq_def]; simp [pE1]

set_option maxHeartbeats 32000000 in
set_option maxRecDepth 100000 in
theorem rstmt_45 (m : Int) (s : ByteArray) (a : Nd) (hm : 0 ≤ m ∧ m ≤ 1000) (ha : isN 1 a = true)  : RStC ⟨45, m, s, [a]⟩ := by
  intro d A cp w hc hr hlen hd
  rw [rS_45] at hlen ⊢
  simp only [List.length_append, List.length_cons, List.length_nil] at hlen
  rw [show (⟨45, m, s, [a]⟩ : Nd).f3.length = 1 from rfl] at hc
  have hX : Below w.heap.size w (w.alloc (.cells #[.int .u8 45, .int .i64 m, .string s, .slice A 1 cp] 24)) := (Below.refl _ _).alloc (Nat.le_refl _) _
  have hbk : (w.alloc (.cells #[.int .u8 45, .int .i64 m, .string s, .slice A 1 cp] 24)).heap[w.heap.size]? = some (.cells #[.int .u8 45, .int .i64 m, .string s, .slice A 1 cp] 24 (0, 0)) := heap_alloc_new w _
  obtain ⟨X, hXe⟩ : ∃ X, X = (w.alloc (.cells #[.int .u8 45, .int .i64 m, .string s, .slice A 1 cp] 24)) := ⟨_, rfl⟩
  rw [← hXe] at hX hbk
  have hkids := kid_1 (Kd.C_below hr hX)
  obtain ⟨ad, Ba, da, rfl, ⟨a0, a1, a2, a3, hla, hCa⟩⟩ := hkids
  obtain ⟨Sa, hSa⟩ : ∃ S : ByteArray, S = ⟨(pE a).toArray⟩ := ⟨_, rfl⟩
  have qa : Sa.data.toList = pE a := by rw [hSa]
  have zSa : Sa.size = (pE a).length := by rw [hSa, Lib.size_eq]
  obtain ⟨NUM, hNUM⟩ : ∃ S : ByteArray, S = ⟨(Lib.itoa m).toArray⟩ := ⟨_, rfl⟩
  have qN : NUM.data.toList = Lib.itoa m := by rw [hNUM]
  have zN : NUM.size = (Lib.itoa m).length := by rw [hNUM, Lib.size_eq]
  have zs : s.size = s.data.toList.length := Lib.size_eq s
  obtain ⟨TB, hTB⟩ : ∃ S : ByteArray, S = ⟨(tabs d).toArray⟩ := ⟨_, rfl⟩
  have qT : TB.data.toList = tabs d := by rw [hTB]
  have zT : TB.size = (tabs d).length := by rw [hTB, Lib.size_eq]
  have HQ := Lib.hid (And.intro qa (And.intro qN qT))
  have f1_ : (9223372036854775807 < 4 + Sa.size) = False := eq_false (by omega)
  have f2_ : (9223372036854775807 < 4 + Sa.size + 2) = False := eq_false (by omega)
  have f3_ : (9223372036854775807 < 4 + Sa.size + 2 + NUM.size) = False := eq_false (by omega)
  have f4_ : (9223372036854775807 < 4 + Sa.size + 2 + NUM.size + 1) = False := eq_false (by omega)
  have f5_ : (9223372036854775807 < TB.size + (4 + Sa.size + 2 + NUM.size + 1)) = False := eq_false (by omega)
  have f6_ : (9223372036854775807 < TB.size + (4 + Sa.size + 2 + NUM.size + 1) + 1) = False := eq_false (by omega)
  have HEa := Lib.hid (show ∀ W, Below X.heap.size X W → Calls Tryd.prog 9 #[.agg #[.int .u8 a.f0, .int .i64 a.f1, .string a.f2, .slice Ba a.f3.length da]] W fun e w' => e = .returned (.string Sa) ∧ Below X.heap.size X w' from fun W h =>
    (rexpr_any a (ha) (by omega) Ba da W hla (Kd.C_below hCa h)).mono (by rintro e w' ⟨rfl, h2⟩; exact ⟨by rw [hSa], h.trans (h2.mono h.size)⟩))
  have HD := Lib.hid (show ∀ W, Below X.heap.size X W → Calls Tryd.prog 20 #[.int .i64 m] W fun e w' => e = .returned (.string NUM) ∧ Below X.heap.size X w' from fun W h =>
    (decimal_any m (by omega) (by omega) W).mono (by rintro e w' ⟨rfl, h2⟩; exact ⟨by rw [hNUM], h.trans (h2.mono h.size)⟩))
  have HT := Lib.hid (show ∀ W, Below X.heap.size X W → Calls Tryd.prog 42 #[.int .i64 d] W fun e w' => e = .returned (.string TB) ∧ Below X.heap.size X w' from fun W h =>
    (rtabs_any d (by omega) W).mono (by rintro e w' ⟨rfl, h2⟩; exact ⟨by rw [hTB], h.trans (h2.mono h.size)⟩))
  have z0 : X.cell? ⟨w.heap.size, 0, none⟩ = some (.int .u8 45) := (blk_cell hbk 0).trans rfl
  have z1 : X.cell? ⟨w.heap.size, 1, none⟩ = some (.int .i64 m) := (blk_cell hbk 1).trans rfl
  have z2 : X.cell? ⟨w.heap.size, 2, none⟩ = some (.string s) := (blk_cell hbk 2).trans rfl
  have z3 : X.cell? ⟨w.heap.size, 3, none⟩ = some (.slice (some ad) 1 cp) := (blk_cell hbk 3).trans rfl
  have HS := Lib.hid (show ∀ Wk, Below X.heap.size X Wk → (Wk.cell? ⟨w.heap.size, 0, none⟩ = some (.int .u8 45) ∧ Wk.cell? ⟨w.heap.size, 1, none⟩ = some (.int .i64 m) ∧ Wk.cell? ⟨w.heap.size, 2, none⟩ = some (.string s) ∧ Wk.cell? ⟨w.heap.size, 3, none⟩ = some (.slice (some ad) 1 cp) ∧ Wk.cell? ad = some (.int .u8 a.f0) ∧ Wk.cell? ⟨ad.block, ad.off + 1, none⟩ = some (.int .i64 a.f1) ∧ Wk.cell? ⟨ad.block, ad.off + 2, none⟩ = some (.string a.f2) ∧ Wk.cell? ⟨ad.block, ad.off + 3, none⟩ = some (.slice Ba a.f3.length da)) from fun Wk h =>
    have kk := fun {p : Addr} {v : Value} (z : X.cell? p = some v) => (h.cell (World.block_lt_of_cell? X _ z)).trans z
    ⟨kk z0, kk z1, kk z2, kk z3, kk a0, kk a1, kk a2, kk a3⟩)
  have HX := Lib.hid hX
  rw [hXe] at HX HEa HD HT HS
  clear hX hbk hXe hr hc hlen hd hm qN hNUM zN zs hTB qT zT z0 z1 z2 z3 qa hSa zSa  ha a0 a1 a2 a3 hla hCa
  generalize a.f0 = a0 at *
  generalize a.f1 = a1 at *
  generalize a.f2 = a2 at *
  generalize a.f3.length = a3 at *
  unfold nodeV
  simp only [List.length_cons, List.length_nil]
  go_enter Tryd.func27, Tryd.ntmps27
  go_wp2_with fail
  generalize (w.alloc (.cells #[.int .u8 45, .int .i64 m, .string s, .slice (some ad) 1 cp] 24)) = W0 at *
  have hrefl : Below W0.heap.size W0 W0 := Below.refl _ _
  have allS := HS.out
  go_region_held3 (fun W => W.cell? ⟨w.heap.size, 0, none⟩ = some (.int .u8 45) ∧ W.cell? ⟨w.heap.size, 1, none⟩ = some (.int .i64 m) ∧ W.cell? ⟨w.heap.size, 2, none⟩ = some (.string s) ∧ W.cell? ⟨w.heap.size, 3, none⟩ = some (.slice (some ad) 1 cp) ∧ W.cell? ad = some (.int .u8 a0) ∧ W.cell? ⟨ad.block, ad.off + 1, none⟩ = some (.int .i64 a1) ∧ W.cell? ⟨ad.block, ad.off + 2, none⟩ = some (.string a2) ∧ W.cell? ⟨ad.block, ad.off + 3, none⟩ = some (.slice Ba a3 da))
    (first | exact allS _ (by assumption) | exact allS _ (below_drew1 (by assumption)))
    (first
      | (go_at_call 9; (with_reducible refine (HEa.out _ ?hbb).mono ?_); (case hbb => first | assumption | exact below_drew1 (by assumption)); rintro e w' ⟨rfl, hbw⟩)
      | (go_at_call 20; (with_reducible refine (HD.out _ ?hbb).mono ?_); (case hbb => first | assumption | exact below_drew1 (by assumption)); rintro e w' ⟨rfl, hbw⟩))
  all_goals
    have HW := Lib.hid hbw
    clear hbw
    go_wp2_with fail
    refine (HT.out _ HW.out).mono ?_
    rintro e w5 ⟨rfl, h5⟩
    have H5 := Lib.hid h5
    clear h5
    go_wp2_with fail
    go_ret
    refine ⟨?_, HX.out.trans (H5.out.mono HX.out.size)⟩
    show Ending.returned (Value.string _) = _
    congr 2
    all_goals exact bytes_eq (by obtain ⟨qa, qN, qT⟩ := HQ.out; simp [ByteArray.data_append, qa, qN, qT])

theorem rS_46 (d : Nat) (m : Int) (s : ByteArray) (a : Nd) : pS d ⟨46, m, s, [a]⟩ = tabs d ++ ([108, 111, 99, 107, 32] ++ s.data.toList ++ [32] ++ ([123, 10] ++ pB (d + 1) a ++ tabs d ++ [125])) ++ [10] := by
  rw [pS.eq_def]; simp [pE1]

set_option maxHeartbeats 32000000 in
set_option maxRecDepth 100000 in
theorem rstmt_46 (m : Int) (s : ByteArray) (a : Nd) (hm : 0 ≤ m ∧ m ≤ 1000)  (hBa : RBlC a) : RStC ⟨46, m, s, [a]⟩ := by
  intro d A cp w hc hr hlen hd
  rw [rS_46] at hlen ⊢
  simp only [List.length_append, List.length_cons, List.length_nil] at hlen
  rw [show (⟨46, m, s, [a]⟩ : Nd).f3.length = 1 from rfl] at hc
  have hX : Below w.heap.size w (w.alloc (.cells #[.int .u8 46, .int .i64 m, .string s, .slice A 1 cp] 24)) := (Below.refl _ _).alloc (Nat.le_refl _) _
  have hbk : (w.alloc (.cells #[.int .u8 46, .int .i64 m, .string s, .slice A 1 cp] 24)).heap[w.heap.size]? = some (.cells #[.int .u8 46, .int .i64 m, .string s, .slice A 1 cp] 24 (0, 0)) := heap_alloc_new w _
  obtain ⟨X, hXe⟩ : ∃ X, X = (w.alloc (.cells #[.int .u8 46, .int .i64 m, .string s, .slice A 1 cp] 24)) := ⟨_, rfl⟩
  rw [← hXe] at hX hbk
  have hkids := kid_1 (Kd.C_below hr hX)
  obtain ⟨ad, Ba, da, rfl, ⟨a0, a1, a2, a3, hla, hCa⟩⟩ := hkids
  obtain ⟨Ga, hGa⟩ : ∃ S : ByteArray, S = ⟨([123, 10] ++ pB (d + 1) a ++ tabs d ++ [125]).toArray⟩ := ⟨_, rfl⟩
  have pa : Ga.data.toList = ([123, 10] ++ pB (d + 1) a ++ tabs d ++ [125]) := by rw [hGa]
  have zGa : Ga.size = 2 + (pB (d + 1) a).length + (tabs d).length + 1 := by rw [hGa, Lib.size_eq]; simp only [List.length_append, List.length_cons, List.length_nil]
  obtain ⟨NUM, hNUM⟩ : ∃ S : ByteArray, S = ⟨(Lib.itoa m).toArray⟩ := ⟨_, rfl⟩
  have qN : NUM.data.toList = Lib.itoa m := by rw [hNUM]
  have zN : NUM.size = (Lib.itoa m).length := by rw [hNUM, Lib.size_eq]
  have zs : s.size = s.data.toList.length := Lib.size_eq s
  obtain ⟨TB, hTB⟩ : ∃ S : ByteArray, S = ⟨(tabs d).toArray⟩ := ⟨_, rfl⟩
  have qT : TB.data.toList = tabs d := by rw [hTB]
  have zT : TB.size = (tabs d).length := by rw [hTB, Lib.size_eq]
  have HQ := Lib.hid (And.intro pa (And.intro qN qT))
  have f1_ : (9223372036854775807 < 5 + s.size) = False := eq_false (by omega)
  have f2_ : (9223372036854775807 < 5 + s.size + 1) = False := eq_false (by omega)
  have f3_ : (9223372036854775807 < 5 + s.size + 1 + Ga.size) = False := eq_false (by omega)
  have f4_ : (9223372036854775807 < TB.size + (5 + s.size + 1 + Ga.size)) = False := eq_false (by omega)
  have f5_ : (9223372036854775807 < TB.size + (5 + s.size + 1 + Ga.size) + 1) = False := eq_false (by omega)
  have HGa := Lib.hid (show ∀ W, Below X.heap.size X W → Calls Tryd.prog 41 #[.agg #[.int .u8 a.f0, .int .i64 a.f1, .string a.f2, .slice Ba a.f3.length da], .int .i64 d] W fun e w' => e = .returned (.string Ga) ∧ Below X.heap.size X w' from fun W h =>
    (braces_any a hBa d Ba da W hla (Kd.C_below hCa h) (by omega) (by have hd2 := hd; rw [depth] at hd2; simp only [depths] at hd2; omega)).mono (by rintro e w' ⟨rfl, h2⟩; exact ⟨by rw [hGa], h.trans (h2.mono h.size)⟩))
  have HD := Lib.hid (show ∀ W, Below X.heap.size X W → Calls Tryd.prog 20 #[.int .i64 m] W fun e w' => e = .returned (.string NUM) ∧ Below X.heap.size X w' from fun W h =>
    (decimal_any m (by omega) (by omega) W).mono (by rintro e w' ⟨rfl, h2⟩; exact ⟨by rw [hNUM], h.trans (h2.mono h.size)⟩))
  have HT := Lib.hid (show ∀ W, Below X.heap.size X W → Calls Tryd.prog 42 #[.int .i64 d] W fun e w' => e = .returned (.string TB) ∧ Below X.heap.size X w' from fun W h =>
    (rtabs_any d (by omega) W).mono (by rintro e w' ⟨rfl, h2⟩; exact ⟨by rw [hTB], h.trans (h2.mono h.size)⟩))
  have z0 : X.cell? ⟨w.heap.size, 0, none⟩ = some (.int .u8 46) := (blk_cell hbk 0).trans rfl
  have z1 : X.cell? ⟨w.heap.size, 1, none⟩ = some (.int .i64 m) := (blk_cell hbk 1).trans rfl
  have z2 : X.cell? ⟨w.heap.size, 2, none⟩ = some (.string s) := (blk_cell hbk 2).trans rfl
  have z3 : X.cell? ⟨w.heap.size, 3, none⟩ = some (.slice (some ad) 1 cp) := (blk_cell hbk 3).trans rfl
  have HS := Lib.hid (show ∀ Wk, Below X.heap.size X Wk → (Wk.cell? ⟨w.heap.size, 0, none⟩ = some (.int .u8 46) ∧ Wk.cell? ⟨w.heap.size, 1, none⟩ = some (.int .i64 m) ∧ Wk.cell? ⟨w.heap.size, 2, none⟩ = some (.string s) ∧ Wk.cell? ⟨w.heap.size, 3, none⟩ = some (.slice (some ad) 1 cp) ∧ Wk.cell? ad = some (.int .u8 a.f0) ∧ Wk.cell? ⟨ad.block, ad.off + 1, none⟩ = some (.int .i64 a.f1) ∧ Wk.cell? ⟨ad.block, ad.off + 2, none⟩ = some (.string a.f2) ∧ Wk.cell? ⟨ad.block, ad.off + 3, none⟩ = some (.slice Ba a.f3.length da)) from fun Wk h =>
    have kk := fun {p : Addr} {v : Value} (z : X.cell? p = some v) => (h.cell (World.block_lt_of_cell? X _ z)).trans z
    ⟨kk z0, kk z1, kk z2, kk z3, kk a0, kk a1, kk a2, kk a3⟩)
  have HX := Lib.hid hX
  rw [hXe] at HX HGa HD HT HS
  clear hX hbk hXe hr hc hlen hd hm qN hNUM zN zs hTB qT zT z0 z1 z2 z3  pa hGa zGa hBa  a0 a1 a2 a3 hla hCa
  generalize a.f0 = a0 at *
  generalize a.f1 = a1 at *
  generalize a.f2 = a2 at *
  generalize a.f3.length = a3 at *
  unfold nodeV
  simp only [List.length_cons, List.length_nil]
  go_enter Tryd.func27, Tryd.ntmps27
  go_wp2_with fail
  generalize (w.alloc (.cells #[.int .u8 46, .int .i64 m, .string s, .slice (some ad) 1 cp] 24)) = W0 at *
  have hrefl : Below W0.heap.size W0 W0 := Below.refl _ _
  have allS := HS.out
  go_region_held3 (fun W => W.cell? ⟨w.heap.size, 0, none⟩ = some (.int .u8 46) ∧ W.cell? ⟨w.heap.size, 1, none⟩ = some (.int .i64 m) ∧ W.cell? ⟨w.heap.size, 2, none⟩ = some (.string s) ∧ W.cell? ⟨w.heap.size, 3, none⟩ = some (.slice (some ad) 1 cp) ∧ W.cell? ad = some (.int .u8 a0) ∧ W.cell? ⟨ad.block, ad.off + 1, none⟩ = some (.int .i64 a1) ∧ W.cell? ⟨ad.block, ad.off + 2, none⟩ = some (.string a2) ∧ W.cell? ⟨ad.block, ad.off + 3, none⟩ = some (.slice Ba a3 da))
    (first | exact allS _ (by assumption) | exact allS _ (below_drew1 (by assumption)))
    (first
      | (go_at_call 41; (with_reducible refine (HGa.out _ ?hbb).mono ?_); (case hbb => first | assumption | exact below_drew1 (by assumption)); rintro e w' ⟨rfl, hbw⟩)
      | (go_at_call 20; (with_reducible refine (HD.out _ ?hbb).mono ?_); (case hbb => first | assumption | exact below_drew1 (by assumption)); rintro e w' ⟨rfl, hbw⟩))
  all_goals
    have HW := Lib.hid hbw
    clear hbw
    go_wp2_with fail
    refine (HT.out _ HW.out).mono ?_
    rintro e w5 ⟨rfl, h5⟩
    have H5 := Lib.hid h5
    clear h5
    go_wp2_with fail
    go_ret
    refine ⟨?_, HX.out.trans (H5.out.mono HX.out.size)⟩
    show Ending.returned (Value.string _) = _
    congr 2
    all_goals exact bytes_eq (by obtain ⟨pa, qN, qT⟩ := HQ.out; simp [ByteArray.data_append, pa, qN, qT])

end Go.Proofs.YtlmmobfebjideaaDoor.P

/- The reference's Lines at any block, and its contract in the print's own form. -/
namespace Go.Proofs.YtlmmobfebjideaaDoor.P
open Go.RowKit Go.Proofs.YtlmmobfebjideaaDoor Go.Proofs.YtlmmobfebjideaaDoor.M Go.Proofs.YtlmmobfebjideaaDoorW.PrintWords
set_option linter.unusedVariables false

theorem rout_any : ∀ n : Nd, (isN 4 n = true → RStC n) ∧ (isN 8 n = true → RBlC n) := by
  intro n
  refine nd_ind (C := fun n => (isN 4 n = true → RStC n) ∧ (isN 8 n = true → RBlC n)) ?_ n
  intro k m s l ih
  constructor
  · intro h
    obtain ⟨m2, s2, hm, h⟩ := stmt_cases _ h
    rcases h with ⟨a, b, e, ha, hb⟩ | ⟨a, b, c, e, ha, hb, hc⟩ | ⟨a, e, ha, _⟩ | ⟨a, b, e, ha, hb, _⟩ | ⟨a, e, ha, _⟩ | ⟨a, e, ha, _⟩ | ⟨a, e, ha, _⟩
    all_goals
      injection e with e1 e2 e3 e4
      subst e1 e2 e3 e4
    · exact rstmt_40 _ _ a b hm ha hb
    · exact rstmt_41 _ _ a b c hm ha ((ih b (by simp)).2 hb) ((ih c (by simp)).2 hc)
    · exact rstmt_42 _ _ a hm ((ih a (by simp)).2 ha)
    · exact rstmt_43 _ _ a b hm ha ((ih b (by simp)).2 hb)
    · exact rstmt_44 _ _ a hm ha
    · exact rstmt_45 _ _ a hm ha
    · exact rstmt_46 _ _ a hm ((ih a (by simp)).2 ha)
  · intro h
    refine rlines_any _ ?_
    intro x hx
    refine (ih x hx).1 ?_
    by_cases hk : k = 47
    · rw [isN_47 8 _ hk] at h
      simp only [Bool.and_eq_true] at h
      exact isAll_mem 4 l x h.2 hx
    · exfalso
      cases hf : M.form k with
      | none => rw [isN_none 8 _ hk hf] at h; cases h
      | some f =>
        rw [isN_some 8 _ hk f hf] at h
        have hc := (form_cases _ _ hf).1
        simp only [Bool.and_eq_true] at h
        have h1 := h.1.1.1.1
        rcases hc with hc | hc | hc <;> rw [hc] at h1 <;> cases h1

def ontimeref14_Lines.f (a0_0 : Int) (a0_1 : Int) (a0_2 : ByteArray) (l0_3 : List S24) (a1 : Int) : Option ByteArray :=
  if isN 8 ⟨a0_0, a0_1, a0_2, l0_3⟩ = true ∧ 0 ≤ a1 ∧ (pB a1.toNat ⟨a0_0, a0_1, a0_2, l0_3⟩).length ≤ 70368744177664 ∧ a1.toNat + depth ⟨a0_0, a0_1, a0_2, l0_3⟩ ≤ 60 then some ⟨(pB a1.toNat ⟨a0_0, a0_1, a0_2, l0_3⟩).toArray⟩ else none
theorem ontimeref14_Lines.calls (a0_0 : Int) (a0_1 : Int) (a0_2 : ByteArray) (A0_3 : Option Addr) (c0_3 : Nat) (l0_3 : List S24) (a1 : Int) (r : ByteArray) (w : World) (hr0_3 : Kd.C k24 w A0_3 l0_3.length l0_3) (hc0_3 : l0_3.length ≤ c0_3) (h : ontimeref14_Lines.f a0_0 a0_1 a0_2 l0_3 a1 = some r) :
    Calls Tryd.prog 12 #[.agg #[.int .u8 a0_0, .int .i64 a0_1, .string a0_2, .slice A0_3 l0_3.length c0_3], .int .i64 a1] w fun e w' => e = .returned (.string r) ∧ Below w.heap.size w w' := by
  unfold ontimeref14_Lines.f at h
  split at h
  · rename_i hc
    cases h
    obtain ⟨h1, h2, h3, h4⟩ := hc
    obtain ⟨d, rfl⟩ : ∃ d : Nat, a1 = (d : Int) := ⟨a1.toNat, by omega⟩
    rw [Int.toNat_natCast] at h3 h4 ⊢
    exact (rout_any ⟨a0_0, a0_1, a0_2, l0_3⟩).2 h1 d A0_3 c0_3 w hc0_3 hr0_3 h3 h4
  · cases h

end Go.Proofs.YtlmmobfebjideaaDoor.P

/- The contract of ontimeref14.Expr in the print's own form. -/
namespace Go.Proofs.YtlmmobfebjideaaDoor.P
open Go.RowKit Go.Proofs.YtlmmobfebjideaaDoor Go.Proofs.YtlmmobfebjideaaDoor.M Go.Proofs.YtlmmobfebjideaaDoorW.PrintWords
set_option linter.unusedVariables false

def ontimeref14_Expr.f (a0_0 : Int) (a0_1 : Int) (a0_2 : ByteArray) (l0_3 : List S24) : Option ByteArray :=
  if isN 1 ⟨a0_0, a0_1, a0_2, l0_3⟩ = true ∧ (pE ⟨a0_0, a0_1, a0_2, l0_3⟩).length ≤ 4611686018427387904 then some ⟨(pE ⟨a0_0, a0_1, a0_2, l0_3⟩).toArray⟩ else none
theorem ontimeref14_Expr.calls (a0_0 : Int) (a0_1 : Int) (a0_2 : ByteArray) (A0_3 : Option Addr) (c0_3 : Nat) (l0_3 : List S24) (r : ByteArray) (w : World) (hr0_3 : Kd.C k24 w A0_3 l0_3.length l0_3) (hc0_3 : l0_3.length ≤ c0_3) (h : ontimeref14_Expr.f a0_0 a0_1 a0_2 l0_3 = some r) :
    Calls Tryd.prog 9 #[.agg #[.int .u8 a0_0, .int .i64 a0_1, .string a0_2, .slice A0_3 l0_3.length c0_3]] w fun e w' => e = .returned (.string r) ∧ Below w.heap.size w w' := by
  unfold ontimeref14_Expr.f at h
  split at h
  · rename_i hc
    cases h
    exact rexpr_any ⟨a0_0, a0_1, a0_2, l0_3⟩ hc.1 hc.2 A0_3 c0_3 w hc0_3 hr0_3
  · cases h

end Go.Proofs.YtlmmobfebjideaaDoor.P

-- WRITTEN by myprint.py (a program of this session's over the kit's print); Lean checks it.
namespace Go.Proofs.YtlmmobfebjideaaDoor.P
open Go.RowKit Go.Proofs.YtlmmobfebjideaaDoorW.PrintWords Go.Proofs.YtlmmobfebjideaaDoorW.PrintLast Go.Proofs.YtlmmobfebjideaaDoorW.PrintMore
attribute [local go_sem] max2_int min2_int max_two min_two max_three min_three max_four min_four   -- for this text's walks alone
set_option linter.unusedVariables false
set_option linter.unusedSimpArgs false

/-! ### ontimelaw14_PrinterParts: function 3 -/
def ontimelaw14_PrinterParts.j0 : Nat → Int → Int → ByteArray → List (S24) → Option (Bool)
  | 0, _, _, _, _ => none
  | k + 1, x109000, x109001, x109002, x109003 => (printer_Block.f x109000 x109001 x109002 x109003).bind fun bt115 => ((ast_IsBlock.f x109000 x109001 x109002 x109003).bind fun t117 => (if t117 = true then (if bt115.2 = 0 then ((ontimeref14_Lines.f x109000 x109001 x109002 x109003 0).bind fun t118 => (some (bt115.1.toList == t118.toList))) else (some false)) else (if bt115.2 = 3 then (some (bt115.1.toList == ([] : List UInt8))) else (some false))))
def ontimelaw14_PrinterParts.f (k : Nat) (a0_0 : Int) (a0_1 : Int) (a0_2 : ByteArray) (l0_3 : List (S24)) : Option (Bool) := (ontimelaw14_awake.f).bind fun t109 => (if t109 = true then ((ontimeref14_Small.f k a0_0 a0_1 a0_2 l0_3).bind fun t110 => (if t110 = true then ((printer_Expr.f a0_0 a0_1 a0_2 l0_3).bind fun bt111 => ((ast_IsExpr.f a0_0 a0_1 a0_2 l0_3).bind fun t113 => (if t113 = true then (if bt111.2 = 0 then ((ontimeref14_Expr.f a0_0 a0_1 a0_2 l0_3).bind fun t114 => (if bt111.1.toList = t114.toList then (ontimelaw14_PrinterParts.j0 k a0_0 a0_1 a0_2 l0_3) else (some false))) else (some false)) else (if bt111.2 = 3 then (if bt111.1.toList = ([] : List UInt8) then (ontimelaw14_PrinterParts.j0 k a0_0 a0_1 a0_2 l0_3) else (some false)) else (some false))))) else (some true))) else (some false))
theorem ontimelaw14_PrinterParts.mono_l : ∀ k, (∀ y0 y1 y2 y3, LeO (ontimelaw14_PrinterParts.j0 k y0 y1 y2 y3) (ontimelaw14_PrinterParts.j0 (k + 1) y0 y1 y2 y3))
  | 0 => fun _ _ _ _ r h => by simp [ontimelaw14_PrinterParts.j0] at h
  | k + 1 => by
    have ih0 := ontimelaw14_PrinterParts.mono_l k
    · intro y0 y1 y2 y3
      unfold ontimelaw14_PrinterParts.j0
      repeat' first
      | (with_reducible exact ih0 _ _ _ _)
      | (with_reducible exact ontimeref14_Small.mono _ _ _ _ _)
      | (with_reducible exact LeO.refl _)
      | (with_reducible exact LeO.none _)
      | (with_reducible refine LeO.ite ?_ ?_)
      | (with_reducible refine LeO.bind ?_ (fun _ => ?_))
      | exact ih0 _ _ _ _
      | exact ontimeref14_Small.mono _ _ _ _ _
      | exact LeO.none _
      | refine LeO.ite ?_ ?_
      | refine LeO.bind ?_ (fun _ => ?_)
theorem ontimelaw14_PrinterParts.mono : ∀ a0 a1 a2 a3 k, LeO (ontimelaw14_PrinterParts.f k a0 a1 a2 a3) (ontimelaw14_PrinterParts.f (k + 1) a0 a1 a2 a3) := by
  intro a0 a1 a2 a3 k
  have ih0 := ontimelaw14_PrinterParts.mono_l k
  unfold ontimelaw14_PrinterParts.f
  repeat' first
      | (with_reducible exact ih0 _ _ _ _)
      | (with_reducible exact ontimeref14_Small.mono _ _ _ _ _)
      | (with_reducible exact LeO.refl _)
      | (with_reducible exact LeO.none _)
      | (with_reducible refine LeO.ite ?_ ?_)
      | (with_reducible refine LeO.bind ?_ (fun _ => ?_))
      | exact ih0 _ _ _ _
      | exact ontimeref14_Small.mono _ _ _ _ _
      | exact LeO.none _
      | refine LeO.ite ?_ ?_
      | refine LeO.bind ?_ (fun _ => ?_)
set_option maxHeartbeats 8000000 in
set_option maxRecDepth 100000 in
theorem ontimelaw14_PrinterParts.calls (k : Nat) (a0_0 : Int) (a0_1 : Int) (a0_2 : ByteArray) (A0_3 : Option Addr) (c0_3 : Nat) (l0_3 : List (S24)) (r : Bool) (w : World) (hr0_3 : Kd.C k24 w A0_3 l0_3.length l0_3) (hc0_3 : l0_3.length ≤ c0_3) (hL : Laid w) (h : ontimelaw14_PrinterParts.f k a0_0 a0_1 a0_2 l0_3 = some r) :
    Calls Tryd.prog 3 #[.agg #[.int .u8 a0_0, .int .i64 a0_1, .string a0_2, .slice A0_3 l0_3.length c0_3]] w fun e w' => e = .returned (.bool r) ∧ Below w.heap.size w w' := by
  have hu24 := Tryd.underlying24
  have HR0_3 := Aside0.mk hr0_3
  have HC0_3 := Aside0.mk hc0_3
  clear hr0_3 hc0_3
  have HB := Aside0.mk (Below.refl w.heap.size w)
  have H : ((ontimelaw14_awake.f).bind fun t109 => (if t109 = true then ((ontimeref14_Small.f k a0_0 a0_1 a0_2 l0_3).bind fun t110 => (if t110 = true then ((printer_Expr.f a0_0 a0_1 a0_2 l0_3).bind fun bt111 => ((ast_IsExpr.f a0_0 a0_1 a0_2 l0_3).bind fun t113 => (if t113 = true then (if bt111.2 = 0 then ((ontimeref14_Expr.f a0_0 a0_1 a0_2 l0_3).bind fun t114 => (if bt111.1.toList = t114.toList then (ontimelaw14_PrinterParts.j0 k a0_0 a0_1 a0_2 l0_3) else (some false))) else (some false)) else (if bt111.2 = 3 then (if bt111.1.toList = ([] : List UInt8) then (ontimelaw14_PrinterParts.j0 k a0_0 a0_1 a0_2 l0_3) else (some false)) else (some false))))) else (some true))) else (some false))) = some r := h
  clear h
  replace H := Option.bind_eq_some_iff.mp H
  obtain ⟨t109, A20, H⟩ := H
  replace H : (if t109 = true then ((ontimeref14_Small.f k a0_0 a0_1 a0_2 l0_3).bind fun t110 => (if t110 = true then ((printer_Expr.f a0_0 a0_1 a0_2 l0_3).bind fun bt111 => ((ast_IsExpr.f a0_0 a0_1 a0_2 l0_3).bind fun t113 => (if t113 = true then (if bt111.2 = 0 then ((ontimeref14_Expr.f a0_0 a0_1 a0_2 l0_3).bind fun t114 => (if bt111.1.toList = t114.toList then (ontimelaw14_PrinterParts.j0 k a0_0 a0_1 a0_2 l0_3) else (some false))) else (some false)) else (if bt111.2 = 3 then (if bt111.1.toList = ([] : List UInt8) then (ontimelaw14_PrinterParts.j0 k a0_0 a0_1 a0_2 l0_3) else (some false)) else (some false))))) else (some true))) else (some false)) = some r := H
  have A2 := Aside0.mk A20
  clear A20
  by_cases c3 : t109 = true
  · subst c3
    have H1 : ((ontimeref14_Small.f k a0_0 a0_1 a0_2 l0_3).bind fun t110 => (if t110 = true then ((printer_Expr.f a0_0 a0_1 a0_2 l0_3).bind fun bt111 => ((ast_IsExpr.f a0_0 a0_1 a0_2 l0_3).bind fun t113 => (if t113 = true then (if bt111.2 = 0 then ((ontimeref14_Expr.f a0_0 a0_1 a0_2 l0_3).bind fun t114 => (if bt111.1.toList = t114.toList then (ontimelaw14_PrinterParts.j0 k a0_0 a0_1 a0_2 l0_3) else (some false))) else (some false)) else (if bt111.2 = 3 then (if bt111.1.toList = ([] : List UInt8) then (ontimelaw14_PrinterParts.j0 k a0_0 a0_1 a0_2 l0_3) else (some false)) else (some false))))) else (some true))) = some r := by rw [if_pos rfl] at H; exact H
    clear H
    have H := H1
    clear H1
    replace H := Option.bind_eq_some_iff.mp H
    obtain ⟨t110, A40, H⟩ := H
    replace H : (if t110 = true then ((printer_Expr.f a0_0 a0_1 a0_2 l0_3).bind fun bt111 => ((ast_IsExpr.f a0_0 a0_1 a0_2 l0_3).bind fun t113 => (if t113 = true then (if bt111.2 = 0 then ((ontimeref14_Expr.f a0_0 a0_1 a0_2 l0_3).bind fun t114 => (if bt111.1.toList = t114.toList then (ontimelaw14_PrinterParts.j0 k a0_0 a0_1 a0_2 l0_3) else (some false))) else (some false)) else (if bt111.2 = 3 then (if bt111.1.toList = ([] : List UInt8) then (ontimelaw14_PrinterParts.j0 k a0_0 a0_1 a0_2 l0_3) else (some false)) else (some false))))) else (some true)) = some r := H
    have A4 := Aside0.mk A40
    clear A40
    by_cases c5 : t110 = true
    · subst c5
      have H1 : ((printer_Expr.f a0_0 a0_1 a0_2 l0_3).bind fun bt111 => ((ast_IsExpr.f a0_0 a0_1 a0_2 l0_3).bind fun t113 => (if t113 = true then (if bt111.2 = 0 then ((ontimeref14_Expr.f a0_0 a0_1 a0_2 l0_3).bind fun t114 => (if bt111.1.toList = t114.toList then (ontimelaw14_PrinterParts.j0 k a0_0 a0_1 a0_2 l0_3) else (some false))) else (some false)) else (if bt111.2 = 3 then (if bt111.1.toList = ([] : List UInt8) then (ontimelaw14_PrinterParts.j0 k a0_0 a0_1 a0_2 l0_3) else (some false)) else (some false))))) = some r := by rw [if_pos rfl] at H; exact H
      clear H
      have H := H1
      clear H1
      replace H := Option.bind_eq_some_iff.mp H
      obtain ⟨⟨t111, t112⟩, A60, H⟩ := H
      replace H : ((ast_IsExpr.f a0_0 a0_1 a0_2 l0_3).bind fun t113 => (if t113 = true then (if t112 = 0 then ((ontimeref14_Expr.f a0_0 a0_1 a0_2 l0_3).bind fun t114 => (if t111.toList = t114.toList then (ontimelaw14_PrinterParts.j0 k a0_0 a0_1 a0_2 l0_3) else (some false))) else (some false)) else (if t112 = 3 then (if t111.toList = ([] : List UInt8) then (ontimelaw14_PrinterParts.j0 k a0_0 a0_1 a0_2 l0_3) else (some false)) else (some false)))) = some r := H
      have A6 := Aside0.mk A60
      clear A60
      replace H := Option.bind_eq_some_iff.mp H
      obtain ⟨t113, A70, H⟩ := H
      replace H : (if t113 = true then (if t112 = 0 then ((ontimeref14_Expr.f a0_0 a0_1 a0_2 l0_3).bind fun t114 => (if t111.toList = t114.toList then (ontimelaw14_PrinterParts.j0 k a0_0 a0_1 a0_2 l0_3) else (some false))) else (some false)) else (if t112 = 3 then (if t111.toList = ([] : List UInt8) then (ontimelaw14_PrinterParts.j0 k a0_0 a0_1 a0_2 l0_3) else (some false)) else (some false))) = some r := H
      have A7 := Aside0.mk A70
      clear A70
      have HC8 := Aside0.mk H
      clear H
      go_enter Tryd.func3, Tryd.ntmps3
      go_upto_if 18 with (first | ((with_reducible refine gate_dst (N := 1) rfl ?_); refine box_event ?hg (N := 1) ?hd (cs := #[.int .u8 a0_0, .int .i64 a0_1, .string a0_2, .slice A0_3 l0_3.length c0_3]) (t := 24) ?hr ?_; (case hd => rfl); (case hg => rfl); (case hr => first | (go_simp; done) | (go_simp; rfl)); intro gb108 hg w9 hbox hb; have n0_ := Aside0.mk (below_step (by repeat (first | (with_reducible first | exact HB.out | apply below_alloc | apply pw_below_drewN | apply below_drew1) | exact HB.out)) hb); have n1_ := Aside0.mk (hbox); have n2_ := Aside0.mk ((by rw [hg]; exact (below_size (by repeat (first | (with_reducible first | exact HB.out | apply below_alloc | apply pw_below_drewN | apply below_drew1) | exact HB.out))) : w.heap.size ≤ gb108)); have n3_ := Aside0.mk ((by rw [hg]; exact (below_size (by repeat (first | (with_reducible first | exact HB.out | apply below_alloc | apply pw_below_drewN | apply below_drew1) | exact HB.out))) : w.heap.size ≤ gb108)); clear HB; have HB := n0_; have BK108 := n1_; have GW108 := n2_; have GE108 := n3_; clear n0_ n1_ n2_ n3_; clear hb hbox hg) | ((with_reducible refine gate_callee (f := 5) rfl ?_); refine goesL_ (some 7) rfl rfl Tryd.func5 (by kernel_rfl) rfl #[] rfl (by (try simp only [List.map_toArray, List.map_cons, List.map_nil]); first | done | rfl | (simp only [List.length_drop, List.length_take]; rfl)) ?_; (with_reducible refine (ontimelaw14_awake.calls  true _ ?side1 A2.out).mono ?_); (case side1 => exact Laid.below hL (by repeat (first | (with_reducible first | exact HB.out | apply below_alloc | apply pw_below_drewN | apply below_drew1 | refine below_set ?_ GE108.out) | exact HB.out))); rintro e w10 ⟨rfl, hb⟩; refine ⟨_, rfl, ?_⟩; have n0_ := Aside0.mk (blk_below (g := gb108) (o := .cells #[.int .u8 a0_0, .int .i64 a0_1, .string a0_2, .slice A0_3 l0_3.length c0_3] 24 (0, 0)) (by (with_reducible repeat (first | refine blk_drewN ?_ _ | refine blk_drew ?_ | refine blk_alloc ?_ _)); exact BK108.out) hb); have n1_ := Aside0.mk (below_step (by repeat (first | (with_reducible first | exact HB.out | apply below_alloc | apply pw_below_drewN | apply below_drew1 | refine below_set ?_ GE108.out) | exact HB.out)) hb); clear BK108; clear HB; have BK108 := n0_; have HB := n1_; clear n0_ n1_; (try clear hb); (try clear hb2); (try clear hk); (try clear hi); have hcz11_0 : w10.cell? ⟨gb108, 0, none⟩ = some (.int .u8 a0_0) := (blk_cell BK108.out 0).trans rfl; have hcz11_1 : w10.cell? ⟨gb108, 1, none⟩ = some (.int .i64 a0_1) := (blk_cell BK108.out 1).trans rfl; have hcz11_2 : w10.cell? ⟨gb108, 2, none⟩ = some (.string a0_2) := (blk_cell BK108.out 2).trans rfl; have hcz11_3 : w10.cell? ⟨gb108, 3, none⟩ = some (.slice A0_3 l0_3.length c0_3) := (blk_cell BK108.out 3).trans rfl; have hfz11_0 := blk_frozen BK108.out 0; have hfz11_1 := blk_frozen BK108.out 1; have hfz11_2 := blk_frozen BK108.out 2; have hfz11_3 := blk_frozen BK108.out 3) | ((with_reducible refine gate_callee (f := 6) rfl ?_); refine goesL_ (some 10) rfl rfl Tryd.func6 (by kernel_rfl) rfl #[.agg #[.int .u8 a0_0, .int .i64 a0_1, .string a0_2, .slice A0_3 l0_3.length c0_3]] rfl (by (try simp only [List.map_toArray, List.map_cons, List.map_nil]); first | done | rfl | (simp only [List.length_drop, List.length_take]; rfl)) ?_; (with_reducible refine (ontimeref14_Small.calls k a0_0 a0_1 a0_2 _ _ l0_3 true _ ?side1 ?side2 A4.out).mono ?_); (case side1 => repeat (first | exact (Kd.C_below HR0_3.out HB.out) | (with_reducible refine Kd.C_alloc ?_ _) | (with_reducible refine Kd.C_drewN ?_ _) | (with_reducible refine Kd.C_drew ?_))); (case side2 => exact HC0_3.out); rintro e w12 ⟨rfl, hb⟩; refine ⟨_, rfl, ?_⟩; have n0_ := Aside0.mk (blk_below (g := gb108) (o := .cells #[.int .u8 a0_0, .int .i64 a0_1, .string a0_2, .slice A0_3 l0_3.length c0_3] 24 (0, 0)) (by (with_reducible repeat (first | refine blk_drewN ?_ _ | refine blk_drew ?_ | refine blk_alloc ?_ _)); exact BK108.out) hb); have n1_ := Aside0.mk (below_step (by repeat (first | (with_reducible first | exact HB.out | apply below_alloc | apply pw_below_drewN | apply below_drew1 | refine below_set ?_ GE108.out) | exact HB.out)) hb); clear BK108; clear HB; have BK108 := n0_; have HB := n1_; clear n0_ n1_; (try clear hb); (try clear hb2); (try clear hk); (try clear hi); have hcz13_0 : w12.cell? ⟨gb108, 0, none⟩ = some (.int .u8 a0_0) := (blk_cell BK108.out 0).trans rfl; have hcz13_1 : w12.cell? ⟨gb108, 1, none⟩ = some (.int .i64 a0_1) := (blk_cell BK108.out 1).trans rfl; have hcz13_2 : w12.cell? ⟨gb108, 2, none⟩ = some (.string a0_2) := (blk_cell BK108.out 2).trans rfl; have hcz13_3 : w12.cell? ⟨gb108, 3, none⟩ = some (.slice A0_3 l0_3.length c0_3) := (blk_cell BK108.out 3).trans rfl; have hfz13_0 := blk_frozen BK108.out 0; have hfz13_1 := blk_frozen BK108.out 1; have hfz13_2 := blk_frozen BK108.out 2; have hfz13_3 := blk_frozen BK108.out 3) | ((with_reducible refine gate_callee (f := 7) rfl ?_); refine goesL_ (some 14) rfl rfl Tryd.func7 (by kernel_rfl) rfl #[.agg #[.int .u8 a0_0, .int .i64 a0_1, .string a0_2, .slice A0_3 l0_3.length c0_3]] rfl (by (try simp only [List.map_toArray, List.map_cons, List.map_nil]); first | done | rfl | (simp only [List.length_drop, List.length_take]; rfl)) ?_; (with_reducible refine (printer_Expr.calls a0_0 a0_1 a0_2 _ _ l0_3 t111 t112 _ ?side1 ?side2 ?side3 A6.out).mono ?_); (case side1 => repeat (first | exact (Kd.C_below HR0_3.out HB.out) | (with_reducible refine Kd.C_alloc ?_ _) | (with_reducible refine Kd.C_drewN ?_ _) | (with_reducible refine Kd.C_drew ?_))); (case side2 => exact HC0_3.out); (case side3 => exact Laid.below hL (by repeat (first | (with_reducible first | exact HB.out | apply below_alloc | apply pw_below_drewN | apply below_drew1 | refine below_set ?_ GE108.out) | exact HB.out))); rintro e w14 ⟨rfl, hb⟩; refine ⟨_, rfl, ?_⟩; have n0_ := Aside0.mk (blk_below (g := gb108) (o := .cells #[.int .u8 a0_0, .int .i64 a0_1, .string a0_2, .slice A0_3 l0_3.length c0_3] 24 (0, 0)) (by (with_reducible repeat (first | refine blk_drewN ?_ _ | refine blk_drew ?_ | refine blk_alloc ?_ _)); exact BK108.out) hb); have n1_ := Aside0.mk (below_step (by repeat (first | (with_reducible first | exact HB.out | apply below_alloc | apply pw_below_drewN | apply below_drew1 | refine below_set ?_ GE108.out) | exact HB.out)) hb); clear BK108; clear HB; have BK108 := n0_; have HB := n1_; clear n0_ n1_; (try clear hb); (try clear hb2); (try clear hk); (try clear hi); have hcz15_0 : w14.cell? ⟨gb108, 0, none⟩ = some (.int .u8 a0_0) := (blk_cell BK108.out 0).trans rfl; have hcz15_1 : w14.cell? ⟨gb108, 1, none⟩ = some (.int .i64 a0_1) := (blk_cell BK108.out 1).trans rfl; have hcz15_2 : w14.cell? ⟨gb108, 2, none⟩ = some (.string a0_2) := (blk_cell BK108.out 2).trans rfl; have hcz15_3 : w14.cell? ⟨gb108, 3, none⟩ = some (.slice A0_3 l0_3.length c0_3) := (blk_cell BK108.out 3).trans rfl; have hfz15_0 := blk_frozen BK108.out 0; have hfz15_1 := blk_frozen BK108.out 1; have hfz15_2 := blk_frozen BK108.out 2; have hfz15_3 := blk_frozen BK108.out 3) | ((with_reducible refine gate_callee (f := 8) rfl ?_); refine goesL_ (some 18) rfl rfl Tryd.func8 (by kernel_rfl) rfl #[.agg #[.int .u8 a0_0, .int .i64 a0_1, .string a0_2, .slice A0_3 l0_3.length c0_3]] rfl (by (try simp only [List.map_toArray, List.map_cons, List.map_nil]); first | done | rfl | (simp only [List.length_drop, List.length_take]; rfl)) ?_; (with_reducible refine (ast_IsExpr.calls a0_0 a0_1 a0_2 _ _ l0_3 t113 _ ?side1 ?side2 ?side3 A7.out).mono ?_); (case side1 => repeat (first | exact (Kd.C_below HR0_3.out HB.out) | (with_reducible refine Kd.C_alloc ?_ _) | (with_reducible refine Kd.C_drewN ?_ _) | (with_reducible refine Kd.C_drew ?_))); (case side2 => exact HC0_3.out); (case side3 => exact Laid.below hL (by repeat (first | (with_reducible first | exact HB.out | apply below_alloc | apply pw_below_drewN | apply below_drew1 | refine below_set ?_ GE108.out) | exact HB.out))); rintro e w16 ⟨rfl, hb⟩; refine ⟨_, rfl, ?_⟩; have n0_ := Aside0.mk (blk_below (g := gb108) (o := .cells #[.int .u8 a0_0, .int .i64 a0_1, .string a0_2, .slice A0_3 l0_3.length c0_3] 24 (0, 0)) (by (with_reducible repeat (first | refine blk_drewN ?_ _ | refine blk_drew ?_ | refine blk_alloc ?_ _)); exact BK108.out) hb); have n1_ := Aside0.mk (below_step (by repeat (first | (with_reducible first | exact HB.out | apply below_alloc | apply pw_below_drewN | apply below_drew1 | refine below_set ?_ GE108.out) | exact HB.out)) hb); clear BK108; clear HB; have BK108 := n0_; have HB := n1_; clear n0_ n1_; (try clear hb); (try clear hb2); (try clear hk); (try clear hi)))
      (try simp only [Act.put, List.setIfInBounds_toArray, List.set_cons_zero, List.set_cons_succ])
      go_cut [] (fun wc => ∃ (kq : Nat), Aside0 (ontimelaw14_PrinterParts.j0 kq a0_0 a0_1 a0_2 l0_3 = some r) ∧ Aside0 (kq ≤ k) ∧ Aside0 (wc.heap[gb108]? = some (.cells #[.int .u8 a0_0, .int .i64 a0_1, .string a0_2, (.slice A0_3 l0_3.length c0_3)] 24 (0, 0))) ∧ Aside0 (Below w.heap.size w wc))
      case first =>
        have H := HC8.out
        clear HC8
        by_cases c17 : t113 = true
        · subst c17
          have H1 : (if t112 = 0 then ((ontimeref14_Expr.f a0_0 a0_1 a0_2 l0_3).bind fun t114 => (if t111.toList = t114.toList then (ontimelaw14_PrinterParts.j0 k a0_0 a0_1 a0_2 l0_3) else (some false))) else (some false)) = some r := by rw [if_pos rfl] at H; exact H
          clear H
          have H := H1
          clear H1
          by_cases c18 : t112 = 0
          · rw [if_pos c18] at H
            have c18b0 : (t112 == 0) = true := beq_iff_eq.mpr c18
            have c18b1 : (t112 != 0) = false := bne_eq_false_iff_eq.mpr c18
            clear c18
            (first | rw [c18b0] | (simp only [i64_w, i32_w]; rw [c18b0]) | skip)
            replace H := Option.bind_eq_some_iff.mp H
            obtain ⟨t114, A190, H⟩ := H
            replace H : (if t111.toList = t114.toList then (ontimelaw14_PrinterParts.j0 k a0_0 a0_1 a0_2 l0_3) else (some false)) = some r := H
            have A19 := Aside0.mk A190
            clear A190
            by_cases c20 : t111.toList = t114.toList
            · rw [if_pos c20] at H
              have c20b0 : (t111.toList == t114.toList) = true := beq_iff_eq.mpr c20
              have c20b1 : (t111.toList != t114.toList) = false := bne_eq_false_iff_eq.mpr c20
              clear c20
              have H' := Aside0.mk H
              clear H
              have hcz21_0 : w16.cell? ⟨gb108, 0, none⟩ = some (.int .u8 a0_0) := (blk_cell BK108.out 0).trans rfl
              have hcz21_1 : w16.cell? ⟨gb108, 1, none⟩ = some (.int .i64 a0_1) := (blk_cell BK108.out 1).trans rfl
              have hcz21_2 : w16.cell? ⟨gb108, 2, none⟩ = some (.string a0_2) := (blk_cell BK108.out 2).trans rfl
              have hcz21_3 : w16.cell? ⟨gb108, 3, none⟩ = some (.slice A0_3 l0_3.length c0_3) := (blk_cell BK108.out 3).trans rfl
              have hfz21_0 := blk_frozen BK108.out 0
              have hfz21_1 := blk_frozen BK108.out 1
              have hfz21_2 := blk_frozen BK108.out 2
              have hfz21_3 := blk_frozen BK108.out 3
              go_wp2_with (first | (go_at_call 9; (with_reducible refine (ontimeref14_Expr.calls a0_0 a0_1 a0_2 _ _ l0_3 t114 _ ?side1 ?side2 A19.out).mono ?_); (case side1 => repeat (first | exact (Kd.C_below HR0_3.out HB.out) | (with_reducible refine Kd.C_alloc ?_ _) | (with_reducible refine Kd.C_drewN ?_ _) | (with_reducible refine Kd.C_drew ?_))); (case side2 => exact HC0_3.out); rintro e w22 ⟨rfl, hb⟩; have n0_ := Aside0.mk (blk_below (g := gb108) (o := .cells #[.int .u8 a0_0, .int .i64 a0_1, .string a0_2, .slice A0_3 l0_3.length c0_3] 24 (0, 0)) (by (with_reducible repeat (first | refine blk_drewN ?_ _ | refine blk_drew ?_ | refine blk_alloc ?_ _)); exact BK108.out) hb); have n1_ := Aside0.mk (below_step (by repeat (first | (with_reducible first | exact HB.out | apply below_alloc | apply pw_below_drewN | apply below_drew1 | refine below_set ?_ GE108.out) | exact HB.out)) hb); clear BK108; clear HB; have BK108 := n0_; have HB := n1_; clear n0_ n1_; (try clear hb); (try clear hb2); (try clear hk); (try clear hi)))
              go_meet
              case rel => exact ⟨_, H', ⟨by first | omega | exact Nat.le_refl _⟩, ⟨by (with_reducible repeat (first | refine blk_drewN ?_ _ | refine blk_drew ?_ | refine blk_alloc ?_ _)); exact BK108.out⟩, ⟨by repeat (first | (with_reducible first | exact HB.out | apply below_alloc | apply pw_below_drewN | apply below_drew1 | refine below_set ?_ GE108.out) | exact HB.out)⟩⟩
            · rw [if_neg c20] at H
              have c20b0 : (t111.toList == t114.toList) = false := beq_eq_false_iff_ne.mpr c20
              have c20b1 : (t111.toList != t114.toList) = true := bne_iff_ne.mpr c20
              obtain rfl := Option.some.inj H
              have hcz23_0 : w16.cell? ⟨gb108, 0, none⟩ = some (.int .u8 a0_0) := (blk_cell BK108.out 0).trans rfl
              have hcz23_1 : w16.cell? ⟨gb108, 1, none⟩ = some (.int .i64 a0_1) := (blk_cell BK108.out 1).trans rfl
              have hcz23_2 : w16.cell? ⟨gb108, 2, none⟩ = some (.string a0_2) := (blk_cell BK108.out 2).trans rfl
              have hcz23_3 : w16.cell? ⟨gb108, 3, none⟩ = some (.slice A0_3 l0_3.length c0_3) := (blk_cell BK108.out 3).trans rfl
              have hfz23_0 := blk_frozen BK108.out 0
              have hfz23_1 := blk_frozen BK108.out 1
              have hfz23_2 := blk_frozen BK108.out 2
              have hfz23_3 := blk_frozen BK108.out 3
              go_wp2_with (first | (go_at_call 9; (with_reducible refine (ontimeref14_Expr.calls a0_0 a0_1 a0_2 _ _ l0_3 t114 _ ?side1 ?side2 A19.out).mono ?_); (case side1 => repeat (first | exact (Kd.C_below HR0_3.out HB.out) | (with_reducible refine Kd.C_alloc ?_ _) | (with_reducible refine Kd.C_drewN ?_ _) | (with_reducible refine Kd.C_drew ?_))); (case side2 => exact HC0_3.out); rintro e w24 ⟨rfl, hb⟩; have n0_ := Aside0.mk (blk_below (g := gb108) (o := .cells #[.int .u8 a0_0, .int .i64 a0_1, .string a0_2, .slice A0_3 l0_3.length c0_3] 24 (0, 0)) (by (with_reducible repeat (first | refine blk_drewN ?_ _ | refine blk_drew ?_ | refine blk_alloc ?_ _)); exact BK108.out) hb); have n1_ := Aside0.mk (below_step (by repeat (first | (with_reducible first | exact HB.out | apply below_alloc | apply pw_below_drewN | apply below_drew1 | refine below_set ?_ GE108.out) | exact HB.out)) hb); clear BK108; clear HB; have BK108 := n0_; have HB := n1_; clear n0_ n1_; (try clear hb); (try clear hb2); (try clear hk); (try clear hi)))
              go_ret
              exact ⟨by first | rfl | (simp [errW_none, errW_some] <;> rfl) | (simp [*, errW_none, errW_some] <;> rfl), by repeat (first | (with_reducible first | exact HB.out | apply below_alloc | apply pw_below_drewN | apply below_drew1 | refine below_set ?_ GE108.out) | exact HB.out)⟩
          · rw [if_neg c18] at H
            have c18b0 : (t112 == 0) = false := beq_eq_false_iff_ne.mpr c18
            have c18b1 : (t112 != 0) = true := bne_iff_ne.mpr c18
            (first | rw [c18b0] | (simp only [i64_w, i32_w]; rw [c18b0]) | skip)
            obtain rfl := Option.some.inj H
            go_wp2
            go_ret
            exact ⟨by first | rfl | (simp [errW_none, errW_some] <;> rfl) | (simp [*, errW_none, errW_some] <;> rfl), by repeat (first | (with_reducible first | exact HB.out | apply below_alloc | apply pw_below_drewN | apply below_drew1 | refine below_set ?_ GE108.out) | exact HB.out)⟩
        · replace c17 := Bool.eq_false_iff.mpr c17
          subst c17
          have H1 : (if t112 = 3 then (if t111.toList = ([] : List UInt8) then (ontimelaw14_PrinterParts.j0 k a0_0 a0_1 a0_2 l0_3) else (some false)) else (some false)) = some r := by rw [if_neg (show ¬ (false = true) by decide)] at H; exact H
          clear H
          have H := H1
          clear H1
          by_cases c25 : t112 = 3
          · rw [if_pos c25] at H
            have c25b0 : (t112 == 3) = true := beq_iff_eq.mpr c25
            have c25b1 : (t112 != 3) = false := bne_eq_false_iff_eq.mpr c25
            clear c25
            by_cases c26 : t111.toList = ([] : List UInt8)
            · rw [if_pos c26] at H
              have c26b0 : (t111.toList == ([] : List UInt8)) = true := beq_iff_eq.mpr c26
              have c26b1 : (t111.toList != ([] : List UInt8)) = false := bne_eq_false_iff_eq.mpr c26
              clear c26
              have H' := Aside0.mk H
              clear H
              go_wp2
              go_meet
              case rel => exact ⟨_, H', ⟨by first | omega | exact Nat.le_refl _⟩, ⟨by (with_reducible repeat (first | refine blk_drewN ?_ _ | refine blk_drew ?_ | refine blk_alloc ?_ _)); exact BK108.out⟩, ⟨by repeat (first | (with_reducible first | exact HB.out | apply below_alloc | apply pw_below_drewN | apply below_drew1 | refine below_set ?_ GE108.out) | exact HB.out)⟩⟩
            · rw [if_neg c26] at H
              have c26b0 : (t111.toList == ([] : List UInt8)) = false := beq_eq_false_iff_ne.mpr c26
              have c26b1 : (t111.toList != ([] : List UInt8)) = true := bne_iff_ne.mpr c26
              obtain rfl := Option.some.inj H
              go_wp2
              go_ret
              exact ⟨by first | rfl | (simp [errW_none, errW_some] <;> rfl) | (simp [*, errW_none, errW_some] <;> rfl), by repeat (first | (with_reducible first | exact HB.out | apply below_alloc | apply pw_below_drewN | apply below_drew1 | refine below_set ?_ GE108.out) | exact HB.out)⟩
          · rw [if_neg c25] at H
            have c25b0 : (t112 == 3) = false := beq_eq_false_iff_ne.mpr c25
            have c25b1 : (t112 != 3) = true := bne_iff_ne.mpr c25
            obtain rfl := Option.some.inj H
            go_wp2
            go_ret
            exact ⟨by first | rfl | (simp [errW_none, errW_some] <;> rfl) | (simp [*, errW_none, errW_some] <;> rfl), by repeat (first | (with_reducible first | exact HB.out | apply below_alloc | apply pw_below_drewN | apply below_drew1 | refine below_set ?_ GE108.out) | exact HB.out)⟩
      case rest =>
        clear HC8
        try clear c1
        try clear c2
        try clear p2
        try clear c3
        try clear c5
        try clear c6
        try clear c7
        try clear c8
        try clear c17
        try clear c18
        try clear c18b0
        try clear c18b1
        try clear c20
        try clear c20b0
        try clear c20b1
        try clear c25
        try clear c25b0
        try clear c25b1
        try clear c26
        try clear c26b0
        try clear c26b1
        try clear hcz11_0
        try clear hcz11_1
        try clear hcz11_2
        try clear hcz11_3
        try clear hcz13_0
        try clear hcz13_1
        try clear hcz13_2
        try clear hcz13_3
        try clear hcz15_0
        try clear hcz15_1
        try clear hcz15_2
        try clear hcz15_3
        try clear hcz21_0
        try clear hcz21_1
        try clear hcz21_2
        try clear hcz21_3
        try clear hcz23_0
        try clear hcz23_1
        try clear hcz23_2
        try clear hcz23_3
        try clear hfz11_0
        try clear hfz11_1
        try clear hfz11_2
        try clear hfz11_3
        try clear hfz13_0
        try clear hfz13_1
        try clear hfz13_2
        try clear hfz13_3
        try clear hfz15_0
        try clear hfz15_1
        try clear hfz15_2
        try clear hfz15_3
        try clear hfz21_0
        try clear hfz21_1
        try clear hfz21_2
        try clear hfz21_3
        try clear hfz23_0
        try clear hfz23_1
        try clear hfz23_2
        try clear hfz23_3
        obtain ⟨kq, HA, HJ7, BK108, HB⟩ := hcut
        cases kq with
        | zero => exact absurd HA.out (by simp [ontimelaw14_PrinterParts.j0])
        | succ kj7 =>
          have H := HA.out
          clear HA
          simp only [ontimelaw14_PrinterParts.j0] at H
          replace H := Option.bind_eq_some_iff.mp H
          obtain ⟨⟨t115, t116⟩, A270, H⟩ := H
          replace H : ((ast_IsBlock.f a0_0 a0_1 a0_2 l0_3).bind fun t117 => (if t117 = true then (if t116 = 0 then ((ontimeref14_Lines.f a0_0 a0_1 a0_2 l0_3 0).bind fun t118 => (some (t115.toList == t118.toList))) else (some false)) else (if t116 = 3 then (some (t115.toList == ([] : List UInt8))) else (some false)))) = some r := H
          have A27 := Aside0.mk A270
          clear A270
          replace H := Option.bind_eq_some_iff.mp H
          obtain ⟨t117, A280, H⟩ := H
          replace H : (if t117 = true then (if t116 = 0 then ((ontimeref14_Lines.f a0_0 a0_1 a0_2 l0_3 0).bind fun t118 => (some (t115.toList == t118.toList))) else (some false)) else (if t116 = 3 then (some (t115.toList == ([] : List UInt8))) else (some false))) = some r := H
          have A28 := Aside0.mk A280
          clear A280
          by_cases c29 : t117 = true
          · subst c29
            have H1 : (if t116 = 0 then ((ontimeref14_Lines.f a0_0 a0_1 a0_2 l0_3 0).bind fun t118 => (some (t115.toList == t118.toList))) else (some false)) = some r := by rw [if_pos rfl] at H; exact H
            clear H
            have H := H1
            clear H1
            by_cases c30 : t116 = 0
            · rw [if_pos c30] at H
              have c30b0 : (t116 == 0) = true := beq_iff_eq.mpr c30
              have c30b1 : (t116 != 0) = false := bne_eq_false_iff_eq.mpr c30
              clear c30
              replace H := Option.bind_eq_some_iff.mp H
              obtain ⟨t118, A310, H⟩ := H
              replace H : (some (t115.toList == t118.toList)) = some r := H
              have A31 := Aside0.mk A310
              clear A310
              obtain rfl := Option.some.inj H
              have hcz32_0 : wc.cell? ⟨gb108, 0, none⟩ = some (.int .u8 a0_0) := (blk_cell BK108.out 0).trans rfl
              have hcz32_1 : wc.cell? ⟨gb108, 1, none⟩ = some (.int .i64 a0_1) := (blk_cell BK108.out 1).trans rfl
              have hcz32_2 : wc.cell? ⟨gb108, 2, none⟩ = some (.string a0_2) := (blk_cell BK108.out 2).trans rfl
              have hcz32_3 : wc.cell? ⟨gb108, 3, none⟩ = some (.slice A0_3 l0_3.length c0_3) := (blk_cell BK108.out 3).trans rfl
              have hfz32_0 := blk_frozen BK108.out 0
              have hfz32_1 := blk_frozen BK108.out 1
              have hfz32_2 := blk_frozen BK108.out 2
              have hfz32_3 := blk_frozen BK108.out 3
              go_wp2_with (first | ((with_reducible refine gate_callee (f := 10) rfl ?_); refine goesL_ (some 35) rfl rfl Tryd.func10 (by kernel_rfl) rfl #[.agg #[.int .u8 a0_0, .int .i64 a0_1, .string a0_2, .slice A0_3 l0_3.length c0_3]] rfl (by (try simp only [List.map_toArray, List.map_cons, List.map_nil]); first | done | rfl | (simp only [List.length_drop, List.length_take]; rfl)) ?_; (with_reducible refine (printer_Block.calls a0_0 a0_1 a0_2 _ _ l0_3 t115 t116 _ ?side1 ?side2 ?side3 A27.out).mono ?_); (case side1 => repeat (first | exact (Kd.C_below HR0_3.out HB.out) | (with_reducible refine Kd.C_alloc ?_ _) | (with_reducible refine Kd.C_drewN ?_ _) | (with_reducible refine Kd.C_drew ?_))); (case side2 => exact HC0_3.out); (case side3 => exact Laid.below hL (by repeat (first | (with_reducible first | exact HB.out | apply below_alloc | apply pw_below_drewN | apply below_drew1 | refine below_set ?_ GE108.out) | exact HB.out))); rintro e w33 ⟨rfl, hb⟩; refine ⟨_, rfl, ?_⟩; have n0_ := Aside0.mk (blk_below (g := gb108) (o := .cells #[.int .u8 a0_0, .int .i64 a0_1, .string a0_2, .slice A0_3 l0_3.length c0_3] 24 (0, 0)) (by (with_reducible repeat (first | refine blk_drewN ?_ _ | refine blk_drew ?_ | refine blk_alloc ?_ _)); exact BK108.out) hb); have n1_ := Aside0.mk (below_step (by repeat (first | (with_reducible first | exact HB.out | apply below_alloc | apply pw_below_drewN | apply below_drew1 | refine below_set ?_ GE108.out) | exact HB.out)) hb); clear BK108; clear HB; have BK108 := n0_; have HB := n1_; clear n0_ n1_; (try clear hb); (try clear hb2); (try clear hk); (try clear hi); have hcz34_0 : w33.cell? ⟨gb108, 0, none⟩ = some (.int .u8 a0_0) := (blk_cell BK108.out 0).trans rfl; have hcz34_1 : w33.cell? ⟨gb108, 1, none⟩ = some (.int .i64 a0_1) := (blk_cell BK108.out 1).trans rfl; have hcz34_2 : w33.cell? ⟨gb108, 2, none⟩ = some (.string a0_2) := (blk_cell BK108.out 2).trans rfl; have hcz34_3 : w33.cell? ⟨gb108, 3, none⟩ = some (.slice A0_3 l0_3.length c0_3) := (blk_cell BK108.out 3).trans rfl; have hfz34_0 := blk_frozen BK108.out 0; have hfz34_1 := blk_frozen BK108.out 1; have hfz34_2 := blk_frozen BK108.out 2; have hfz34_3 := blk_frozen BK108.out 3) | ((with_reducible refine gate_callee (f := 11) rfl ?_); refine goesL_ (some 39) rfl rfl Tryd.func11 (by kernel_rfl) rfl #[.agg #[.int .u8 a0_0, .int .i64 a0_1, .string a0_2, .slice A0_3 l0_3.length c0_3]] rfl (by (try simp only [List.map_toArray, List.map_cons, List.map_nil]); first | done | rfl | (simp only [List.length_drop, List.length_take]; rfl)) ?_; (with_reducible refine (ast_IsBlock.calls a0_0 a0_1 a0_2 _ _ l0_3 true _ ?side1 ?side2 ?side3 A28.out).mono ?_); (case side1 => repeat (first | exact (Kd.C_below HR0_3.out HB.out) | (with_reducible refine Kd.C_alloc ?_ _) | (with_reducible refine Kd.C_drewN ?_ _) | (with_reducible refine Kd.C_drew ?_))); (case side2 => exact HC0_3.out); (case side3 => exact Laid.below hL (by repeat (first | (with_reducible first | exact HB.out | apply below_alloc | apply pw_below_drewN | apply below_drew1 | refine below_set ?_ GE108.out) | exact HB.out))); rintro e w35 ⟨rfl, hb⟩; refine ⟨_, rfl, ?_⟩; have n0_ := Aside0.mk (blk_below (g := gb108) (o := .cells #[.int .u8 a0_0, .int .i64 a0_1, .string a0_2, .slice A0_3 l0_3.length c0_3] 24 (0, 0)) (by (with_reducible repeat (first | refine blk_drewN ?_ _ | refine blk_drew ?_ | refine blk_alloc ?_ _)); exact BK108.out) hb); have n1_ := Aside0.mk (below_step (by repeat (first | (with_reducible first | exact HB.out | apply below_alloc | apply pw_below_drewN | apply below_drew1 | refine below_set ?_ GE108.out) | exact HB.out)) hb); clear BK108; clear HB; have BK108 := n0_; have HB := n1_; clear n0_ n1_; (try clear hb); (try clear hb2); (try clear hk); (try clear hi); have hcz36_0 : w35.cell? ⟨gb108, 0, none⟩ = some (.int .u8 a0_0) := (blk_cell BK108.out 0).trans rfl; have hcz36_1 : w35.cell? ⟨gb108, 1, none⟩ = some (.int .i64 a0_1) := (blk_cell BK108.out 1).trans rfl; have hcz36_2 : w35.cell? ⟨gb108, 2, none⟩ = some (.string a0_2) := (blk_cell BK108.out 2).trans rfl; have hcz36_3 : w35.cell? ⟨gb108, 3, none⟩ = some (.slice A0_3 l0_3.length c0_3) := (blk_cell BK108.out 3).trans rfl; have hfz36_0 := blk_frozen BK108.out 0; have hfz36_1 := blk_frozen BK108.out 1; have hfz36_2 := blk_frozen BK108.out 2; have hfz36_3 := blk_frozen BK108.out 3) | (go_at_call 12; (with_reducible refine (ontimeref14_Lines.calls a0_0 a0_1 a0_2 _ _ l0_3 0 t118 _ ?side1 ?side2 A31.out).mono ?_); (case side1 => repeat (first | exact (Kd.C_below HR0_3.out HB.out) | (with_reducible refine Kd.C_alloc ?_ _) | (with_reducible refine Kd.C_drewN ?_ _) | (with_reducible refine Kd.C_drew ?_))); (case side2 => exact HC0_3.out); rintro e w37 ⟨rfl, hb⟩; have n0_ := Aside0.mk (blk_below (g := gb108) (o := .cells #[.int .u8 a0_0, .int .i64 a0_1, .string a0_2, .slice A0_3 l0_3.length c0_3] 24 (0, 0)) (by (with_reducible repeat (first | refine blk_drewN ?_ _ | refine blk_drew ?_ | refine blk_alloc ?_ _)); exact BK108.out) hb); have n1_ := Aside0.mk (below_step (by repeat (first | (with_reducible first | exact HB.out | apply below_alloc | apply pw_below_drewN | apply below_drew1 | refine below_set ?_ GE108.out) | exact HB.out)) hb); clear BK108; clear HB; have BK108 := n0_; have HB := n1_; clear n0_ n1_; (try clear hb); (try clear hb2); (try clear hk); (try clear hi)))
              go_ret
              exact ⟨by first | rfl | (simp [errW_none, errW_some] <;> rfl) | (simp [*, errW_none, errW_some] <;> rfl), by repeat (first | (with_reducible first | exact HB.out | apply below_alloc | apply pw_below_drewN | apply below_drew1 | refine below_set ?_ GE108.out) | exact HB.out)⟩
            · rw [if_neg c30] at H
              have c30b0 : (t116 == 0) = false := beq_eq_false_iff_ne.mpr c30
              have c30b1 : (t116 != 0) = true := bne_iff_ne.mpr c30
              obtain rfl := Option.some.inj H
              have hcz38_0 : wc.cell? ⟨gb108, 0, none⟩ = some (.int .u8 a0_0) := (blk_cell BK108.out 0).trans rfl
              have hcz38_1 : wc.cell? ⟨gb108, 1, none⟩ = some (.int .i64 a0_1) := (blk_cell BK108.out 1).trans rfl
              have hcz38_2 : wc.cell? ⟨gb108, 2, none⟩ = some (.string a0_2) := (blk_cell BK108.out 2).trans rfl
              have hcz38_3 : wc.cell? ⟨gb108, 3, none⟩ = some (.slice A0_3 l0_3.length c0_3) := (blk_cell BK108.out 3).trans rfl
              have hfz38_0 := blk_frozen BK108.out 0
              have hfz38_1 := blk_frozen BK108.out 1
              have hfz38_2 := blk_frozen BK108.out 2
              have hfz38_3 := blk_frozen BK108.out 3
              go_wp2_with (first | ((with_reducible refine gate_callee (f := 10) rfl ?_); refine goesL_ (some 35) rfl rfl Tryd.func10 (by kernel_rfl) rfl #[.agg #[.int .u8 a0_0, .int .i64 a0_1, .string a0_2, .slice A0_3 l0_3.length c0_3]] rfl (by (try simp only [List.map_toArray, List.map_cons, List.map_nil]); first | done | rfl | (simp only [List.length_drop, List.length_take]; rfl)) ?_; (with_reducible refine (printer_Block.calls a0_0 a0_1 a0_2 _ _ l0_3 t115 t116 _ ?side1 ?side2 ?side3 A27.out).mono ?_); (case side1 => repeat (first | exact (Kd.C_below HR0_3.out HB.out) | (with_reducible refine Kd.C_alloc ?_ _) | (with_reducible refine Kd.C_drewN ?_ _) | (with_reducible refine Kd.C_drew ?_))); (case side2 => exact HC0_3.out); (case side3 => exact Laid.below hL (by repeat (first | (with_reducible first | exact HB.out | apply below_alloc | apply pw_below_drewN | apply below_drew1 | refine below_set ?_ GE108.out) | exact HB.out))); rintro e w39 ⟨rfl, hb⟩; refine ⟨_, rfl, ?_⟩; have n0_ := Aside0.mk (blk_below (g := gb108) (o := .cells #[.int .u8 a0_0, .int .i64 a0_1, .string a0_2, .slice A0_3 l0_3.length c0_3] 24 (0, 0)) (by (with_reducible repeat (first | refine blk_drewN ?_ _ | refine blk_drew ?_ | refine blk_alloc ?_ _)); exact BK108.out) hb); have n1_ := Aside0.mk (below_step (by repeat (first | (with_reducible first | exact HB.out | apply below_alloc | apply pw_below_drewN | apply below_drew1 | refine below_set ?_ GE108.out) | exact HB.out)) hb); clear BK108; clear HB; have BK108 := n0_; have HB := n1_; clear n0_ n1_; (try clear hb); (try clear hb2); (try clear hk); (try clear hi); have hcz40_0 : w39.cell? ⟨gb108, 0, none⟩ = some (.int .u8 a0_0) := (blk_cell BK108.out 0).trans rfl; have hcz40_1 : w39.cell? ⟨gb108, 1, none⟩ = some (.int .i64 a0_1) := (blk_cell BK108.out 1).trans rfl; have hcz40_2 : w39.cell? ⟨gb108, 2, none⟩ = some (.string a0_2) := (blk_cell BK108.out 2).trans rfl; have hcz40_3 : w39.cell? ⟨gb108, 3, none⟩ = some (.slice A0_3 l0_3.length c0_3) := (blk_cell BK108.out 3).trans rfl; have hfz40_0 := blk_frozen BK108.out 0; have hfz40_1 := blk_frozen BK108.out 1; have hfz40_2 := blk_frozen BK108.out 2; have hfz40_3 := blk_frozen BK108.out 3) | ((with_reducible refine gate_callee (f := 11) rfl ?_); refine goesL_ (some 39) rfl rfl Tryd.func11 (by kernel_rfl) rfl #[.agg #[.int .u8 a0_0, .int .i64 a0_1, .string a0_2, .slice A0_3 l0_3.length c0_3]] rfl (by (try simp only [List.map_toArray, List.map_cons, List.map_nil]); first | done | rfl | (simp only [List.length_drop, List.length_take]; rfl)) ?_; (with_reducible refine (ast_IsBlock.calls a0_0 a0_1 a0_2 _ _ l0_3 true _ ?side1 ?side2 ?side3 A28.out).mono ?_); (case side1 => repeat (first | exact (Kd.C_below HR0_3.out HB.out) | (with_reducible refine Kd.C_alloc ?_ _) | (with_reducible refine Kd.C_drewN ?_ _) | (with_reducible refine Kd.C_drew ?_))); (case side2 => exact HC0_3.out); (case side3 => exact Laid.below hL (by repeat (first | (with_reducible first | exact HB.out | apply below_alloc | apply pw_below_drewN | apply below_drew1 | refine below_set ?_ GE108.out) | exact HB.out))); rintro e w41 ⟨rfl, hb⟩; refine ⟨_, rfl, ?_⟩; have n0_ := Aside0.mk (blk_below (g := gb108) (o := .cells #[.int .u8 a0_0, .int .i64 a0_1, .string a0_2, .slice A0_3 l0_3.length c0_3] 24 (0, 0)) (by (with_reducible repeat (first | refine blk_drewN ?_ _ | refine blk_drew ?_ | refine blk_alloc ?_ _)); exact BK108.out) hb); have n1_ := Aside0.mk (below_step (by repeat (first | (with_reducible first | exact HB.out | apply below_alloc | apply pw_below_drewN | apply below_drew1 | refine below_set ?_ GE108.out) | exact HB.out)) hb); clear BK108; clear HB; have BK108 := n0_; have HB := n1_; clear n0_ n1_; (try clear hb); (try clear hb2); (try clear hk); (try clear hi)))
              go_ret
              exact ⟨by first | rfl | (simp [errW_none, errW_some] <;> rfl) | (simp [*, errW_none, errW_some] <;> rfl), by repeat (first | (with_reducible first | exact HB.out | apply below_alloc | apply pw_below_drewN | apply below_drew1 | refine below_set ?_ GE108.out) | exact HB.out)⟩
          · replace c29 := Bool.eq_false_iff.mpr c29
            subst c29
            have H1 : (if t116 = 3 then (some (t115.toList == ([] : List UInt8))) else (some false)) = some r := by rw [if_neg (show ¬ (false = true) by decide)] at H; exact H
            clear H
            have H := H1
            clear H1
            by_cases c42 : t116 = 3
            · rw [if_pos c42] at H
              have c42b0 : (t116 == 3) = true := beq_iff_eq.mpr c42
              have c42b1 : (t116 != 3) = false := bne_eq_false_iff_eq.mpr c42
              clear c42
              obtain rfl := Option.some.inj H
              have hcz43_0 : wc.cell? ⟨gb108, 0, none⟩ = some (.int .u8 a0_0) := (blk_cell BK108.out 0).trans rfl
              have hcz43_1 : wc.cell? ⟨gb108, 1, none⟩ = some (.int .i64 a0_1) := (blk_cell BK108.out 1).trans rfl
              have hcz43_2 : wc.cell? ⟨gb108, 2, none⟩ = some (.string a0_2) := (blk_cell BK108.out 2).trans rfl
              have hcz43_3 : wc.cell? ⟨gb108, 3, none⟩ = some (.slice A0_3 l0_3.length c0_3) := (blk_cell BK108.out 3).trans rfl
              have hfz43_0 := blk_frozen BK108.out 0
              have hfz43_1 := blk_frozen BK108.out 1
              have hfz43_2 := blk_frozen BK108.out 2
              have hfz43_3 := blk_frozen BK108.out 3
              go_wp2_with (first | ((with_reducible refine gate_callee (f := 10) rfl ?_); refine goesL_ (some 35) rfl rfl Tryd.func10 (by kernel_rfl) rfl #[.agg #[.int .u8 a0_0, .int .i64 a0_1, .string a0_2, .slice A0_3 l0_3.length c0_3]] rfl (by (try simp only [List.map_toArray, List.map_cons, List.map_nil]); first | done | rfl | (simp only [List.length_drop, List.length_take]; rfl)) ?_; (with_reducible refine (printer_Block.calls a0_0 a0_1 a0_2 _ _ l0_3 t115 t116 _ ?side1 ?side2 ?side3 A27.out).mono ?_); (case side1 => repeat (first | exact (Kd.C_below HR0_3.out HB.out) | (with_reducible refine Kd.C_alloc ?_ _) | (with_reducible refine Kd.C_drewN ?_ _) | (with_reducible refine Kd.C_drew ?_))); (case side2 => exact HC0_3.out); (case side3 => exact Laid.below hL (by repeat (first | (with_reducible first | exact HB.out | apply below_alloc | apply pw_below_drewN | apply below_drew1 | refine below_set ?_ GE108.out) | exact HB.out))); rintro e w44 ⟨rfl, hb⟩; refine ⟨_, rfl, ?_⟩; have n0_ := Aside0.mk (blk_below (g := gb108) (o := .cells #[.int .u8 a0_0, .int .i64 a0_1, .string a0_2, .slice A0_3 l0_3.length c0_3] 24 (0, 0)) (by (with_reducible repeat (first | refine blk_drewN ?_ _ | refine blk_drew ?_ | refine blk_alloc ?_ _)); exact BK108.out) hb); have n1_ := Aside0.mk (below_step (by repeat (first | (with_reducible first | exact HB.out | apply below_alloc | apply pw_below_drewN | apply below_drew1 | refine below_set ?_ GE108.out) | exact HB.out)) hb); clear BK108; clear HB; have BK108 := n0_; have HB := n1_; clear n0_ n1_; (try clear hb); (try clear hb2); (try clear hk); (try clear hi); have hcz45_0 : w44.cell? ⟨gb108, 0, none⟩ = some (.int .u8 a0_0) := (blk_cell BK108.out 0).trans rfl; have hcz45_1 : w44.cell? ⟨gb108, 1, none⟩ = some (.int .i64 a0_1) := (blk_cell BK108.out 1).trans rfl; have hcz45_2 : w44.cell? ⟨gb108, 2, none⟩ = some (.string a0_2) := (blk_cell BK108.out 2).trans rfl; have hcz45_3 : w44.cell? ⟨gb108, 3, none⟩ = some (.slice A0_3 l0_3.length c0_3) := (blk_cell BK108.out 3).trans rfl; have hfz45_0 := blk_frozen BK108.out 0; have hfz45_1 := blk_frozen BK108.out 1; have hfz45_2 := blk_frozen BK108.out 2; have hfz45_3 := blk_frozen BK108.out 3) | ((with_reducible refine gate_callee (f := 11) rfl ?_); refine goesL_ (some 39) rfl rfl Tryd.func11 (by kernel_rfl) rfl #[.agg #[.int .u8 a0_0, .int .i64 a0_1, .string a0_2, .slice A0_3 l0_3.length c0_3]] rfl (by (try simp only [List.map_toArray, List.map_cons, List.map_nil]); first | done | rfl | (simp only [List.length_drop, List.length_take]; rfl)) ?_; (with_reducible refine (ast_IsBlock.calls a0_0 a0_1 a0_2 _ _ l0_3 false _ ?side1 ?side2 ?side3 A28.out).mono ?_); (case side1 => repeat (first | exact (Kd.C_below HR0_3.out HB.out) | (with_reducible refine Kd.C_alloc ?_ _) | (with_reducible refine Kd.C_drewN ?_ _) | (with_reducible refine Kd.C_drew ?_))); (case side2 => exact HC0_3.out); (case side3 => exact Laid.below hL (by repeat (first | (with_reducible first | exact HB.out | apply below_alloc | apply pw_below_drewN | apply below_drew1 | refine below_set ?_ GE108.out) | exact HB.out))); rintro e w46 ⟨rfl, hb⟩; refine ⟨_, rfl, ?_⟩; have n0_ := Aside0.mk (blk_below (g := gb108) (o := .cells #[.int .u8 a0_0, .int .i64 a0_1, .string a0_2, .slice A0_3 l0_3.length c0_3] 24 (0, 0)) (by (with_reducible repeat (first | refine blk_drewN ?_ _ | refine blk_drew ?_ | refine blk_alloc ?_ _)); exact BK108.out) hb); have n1_ := Aside0.mk (below_step (by repeat (first | (with_reducible first | exact HB.out | apply below_alloc | apply pw_below_drewN | apply below_drew1 | refine below_set ?_ GE108.out) | exact HB.out)) hb); clear BK108; clear HB; have BK108 := n0_; have HB := n1_; clear n0_ n1_; (try clear hb); (try clear hb2); (try clear hk); (try clear hi)))
              go_ret
              exact ⟨by first | rfl | (simp [errW_none, errW_some] <;> rfl) | (simp [*, errW_none, errW_some] <;> rfl), by repeat (first | (with_reducible first | exact HB.out | apply below_alloc | apply pw_below_drewN | apply below_drew1 | refine below_set ?_ GE108.out) | exact HB.out)⟩
            · rw [if_neg c42] at H
              have c42b0 : (t116 == 3) = false := beq_eq_false_iff_ne.mpr c42
              have c42b1 : (t116 != 3) = true := bne_iff_ne.mpr c42
              obtain rfl := Option.some.inj H
              have hcz47_0 : wc.cell? ⟨gb108, 0, none⟩ = some (.int .u8 a0_0) := (blk_cell BK108.out 0).trans rfl
              have hcz47_1 : wc.cell? ⟨gb108, 1, none⟩ = some (.int .i64 a0_1) := (blk_cell BK108.out 1).trans rfl
              have hcz47_2 : wc.cell? ⟨gb108, 2, none⟩ = some (.string a0_2) := (blk_cell BK108.out 2).trans rfl
              have hcz47_3 : wc.cell? ⟨gb108, 3, none⟩ = some (.slice A0_3 l0_3.length c0_3) := (blk_cell BK108.out 3).trans rfl
              have hfz47_0 := blk_frozen BK108.out 0
              have hfz47_1 := blk_frozen BK108.out 1
              have hfz47_2 := blk_frozen BK108.out 2
              have hfz47_3 := blk_frozen BK108.out 3
              go_wp2_with (first | ((with_reducible refine gate_callee (f := 10) rfl ?_); refine goesL_ (some 35) rfl rfl Tryd.func10 (by kernel_rfl) rfl #[.agg #[.int .u8 a0_0, .int .i64 a0_1, .string a0_2, .slice A0_3 l0_3.length c0_3]] rfl (by (try simp only [List.map_toArray, List.map_cons, List.map_nil]); first | done | rfl | (simp only [List.length_drop, List.length_take]; rfl)) ?_; (with_reducible refine (printer_Block.calls a0_0 a0_1 a0_2 _ _ l0_3 t115 t116 _ ?side1 ?side2 ?side3 A27.out).mono ?_); (case side1 => repeat (first | exact (Kd.C_below HR0_3.out HB.out) | (with_reducible refine Kd.C_alloc ?_ _) | (with_reducible refine Kd.C_drewN ?_ _) | (with_reducible refine Kd.C_drew ?_))); (case side2 => exact HC0_3.out); (case side3 => exact Laid.below hL (by repeat (first | (with_reducible first | exact HB.out | apply below_alloc | apply pw_below_drewN | apply below_drew1 | refine below_set ?_ GE108.out) | exact HB.out))); rintro e w48 ⟨rfl, hb⟩; refine ⟨_, rfl, ?_⟩; have n0_ := Aside0.mk (blk_below (g := gb108) (o := .cells #[.int .u8 a0_0, .int .i64 a0_1, .string a0_2, .slice A0_3 l0_3.length c0_3] 24 (0, 0)) (by (with_reducible repeat (first | refine blk_drewN ?_ _ | refine blk_drew ?_ | refine blk_alloc ?_ _)); exact BK108.out) hb); have n1_ := Aside0.mk (below_step (by repeat (first | (with_reducible first | exact HB.out | apply below_alloc | apply pw_below_drewN | apply below_drew1 | refine below_set ?_ GE108.out) | exact HB.out)) hb); clear BK108; clear HB; have BK108 := n0_; have HB := n1_; clear n0_ n1_; (try clear hb); (try clear hb2); (try clear hk); (try clear hi); have hcz49_0 : w48.cell? ⟨gb108, 0, none⟩ = some (.int .u8 a0_0) := (blk_cell BK108.out 0).trans rfl; have hcz49_1 : w48.cell? ⟨gb108, 1, none⟩ = some (.int .i64 a0_1) := (blk_cell BK108.out 1).trans rfl; have hcz49_2 : w48.cell? ⟨gb108, 2, none⟩ = some (.string a0_2) := (blk_cell BK108.out 2).trans rfl; have hcz49_3 : w48.cell? ⟨gb108, 3, none⟩ = some (.slice A0_3 l0_3.length c0_3) := (blk_cell BK108.out 3).trans rfl; have hfz49_0 := blk_frozen BK108.out 0; have hfz49_1 := blk_frozen BK108.out 1; have hfz49_2 := blk_frozen BK108.out 2; have hfz49_3 := blk_frozen BK108.out 3) | ((with_reducible refine gate_callee (f := 11) rfl ?_); refine goesL_ (some 39) rfl rfl Tryd.func11 (by kernel_rfl) rfl #[.agg #[.int .u8 a0_0, .int .i64 a0_1, .string a0_2, .slice A0_3 l0_3.length c0_3]] rfl (by (try simp only [List.map_toArray, List.map_cons, List.map_nil]); first | done | rfl | (simp only [List.length_drop, List.length_take]; rfl)) ?_; (with_reducible refine (ast_IsBlock.calls a0_0 a0_1 a0_2 _ _ l0_3 false _ ?side1 ?side2 ?side3 A28.out).mono ?_); (case side1 => repeat (first | exact (Kd.C_below HR0_3.out HB.out) | (with_reducible refine Kd.C_alloc ?_ _) | (with_reducible refine Kd.C_drewN ?_ _) | (with_reducible refine Kd.C_drew ?_))); (case side2 => exact HC0_3.out); (case side3 => exact Laid.below hL (by repeat (first | (with_reducible first | exact HB.out | apply below_alloc | apply pw_below_drewN | apply below_drew1 | refine below_set ?_ GE108.out) | exact HB.out))); rintro e w50 ⟨rfl, hb⟩; refine ⟨_, rfl, ?_⟩; have n0_ := Aside0.mk (blk_below (g := gb108) (o := .cells #[.int .u8 a0_0, .int .i64 a0_1, .string a0_2, .slice A0_3 l0_3.length c0_3] 24 (0, 0)) (by (with_reducible repeat (first | refine blk_drewN ?_ _ | refine blk_drew ?_ | refine blk_alloc ?_ _)); exact BK108.out) hb); have n1_ := Aside0.mk (below_step (by repeat (first | (with_reducible first | exact HB.out | apply below_alloc | apply pw_below_drewN | apply below_drew1 | refine below_set ?_ GE108.out) | exact HB.out)) hb); clear BK108; clear HB; have BK108 := n0_; have HB := n1_; clear n0_ n1_; (try clear hb); (try clear hb2); (try clear hk); (try clear hi)))
              go_ret
              exact ⟨by first | rfl | (simp [errW_none, errW_some] <;> rfl) | (simp [*, errW_none, errW_some] <;> rfl), by repeat (first | (with_reducible first | exact HB.out | apply below_alloc | apply pw_below_drewN | apply below_drew1 | refine below_set ?_ GE108.out) | exact HB.out)⟩
    · replace c5 := Bool.eq_false_iff.mpr c5
      subst c5
      have H1 : (some true) = some r := by rw [if_neg (show ¬ (false = true) by decide)] at H; exact H
      clear H
      have H := H1
      clear H1
      obtain rfl := Option.some.inj H
      go_enter Tryd.func3, Tryd.ntmps3
      go_wp2_with (first | ((with_reducible refine gate_dst (N := 1) rfl ?_); refine box_event ?hg (N := 1) ?hd (cs := #[.int .u8 a0_0, .int .i64 a0_1, .string a0_2, .slice A0_3 l0_3.length c0_3]) (t := 24) ?hr ?_; (case hd => rfl); (case hg => rfl); (case hr => first | (go_simp; done) | (go_simp; rfl)); intro gb108 hg w51 hbox hb; have n0_ := Aside0.mk (below_step (by repeat (first | (with_reducible first | exact HB.out | apply below_alloc | apply pw_below_drewN | apply below_drew1) | exact HB.out)) hb); have n1_ := Aside0.mk (hbox); have n2_ := Aside0.mk ((by rw [hg]; exact (below_size (by repeat (first | (with_reducible first | exact HB.out | apply below_alloc | apply pw_below_drewN | apply below_drew1) | exact HB.out))) : w.heap.size ≤ gb108)); have n3_ := Aside0.mk ((by rw [hg]; exact (below_size (by repeat (first | (with_reducible first | exact HB.out | apply below_alloc | apply pw_below_drewN | apply below_drew1) | exact HB.out))) : w.heap.size ≤ gb108)); clear HB; have HB := n0_; have BK108 := n1_; have GW108 := n2_; have GE108 := n3_; clear n0_ n1_ n2_ n3_; clear hb hbox hg) | ((with_reducible refine gate_callee (f := 5) rfl ?_); refine goesL_ (some 7) rfl rfl Tryd.func5 (by kernel_rfl) rfl #[] rfl (by (try simp only [List.map_toArray, List.map_cons, List.map_nil]); first | done | rfl | (simp only [List.length_drop, List.length_take]; rfl)) ?_; (with_reducible refine (ontimelaw14_awake.calls  true _ ?side1 A2.out).mono ?_); (case side1 => exact Laid.below hL (by repeat (first | (with_reducible first | exact HB.out | apply below_alloc | apply pw_below_drewN | apply below_drew1 | refine below_set ?_ GE108.out) | exact HB.out))); rintro e w52 ⟨rfl, hb⟩; refine ⟨_, rfl, ?_⟩; have n0_ := Aside0.mk (blk_below (g := gb108) (o := .cells #[.int .u8 a0_0, .int .i64 a0_1, .string a0_2, .slice A0_3 l0_3.length c0_3] 24 (0, 0)) (by (with_reducible repeat (first | refine blk_drewN ?_ _ | refine blk_drew ?_ | refine blk_alloc ?_ _)); exact BK108.out) hb); have n1_ := Aside0.mk (below_step (by repeat (first | (with_reducible first | exact HB.out | apply below_alloc | apply pw_below_drewN | apply below_drew1 | refine below_set ?_ GE108.out) | exact HB.out)) hb); clear BK108; clear HB; have BK108 := n0_; have HB := n1_; clear n0_ n1_; (try clear hb); (try clear hb2); (try clear hk); (try clear hi); have hcz53_0 : w52.cell? ⟨gb108, 0, none⟩ = some (.int .u8 a0_0) := (blk_cell BK108.out 0).trans rfl; have hcz53_1 : w52.cell? ⟨gb108, 1, none⟩ = some (.int .i64 a0_1) := (blk_cell BK108.out 1).trans rfl; have hcz53_2 : w52.cell? ⟨gb108, 2, none⟩ = some (.string a0_2) := (blk_cell BK108.out 2).trans rfl; have hcz53_3 : w52.cell? ⟨gb108, 3, none⟩ = some (.slice A0_3 l0_3.length c0_3) := (blk_cell BK108.out 3).trans rfl; have hfz53_0 := blk_frozen BK108.out 0; have hfz53_1 := blk_frozen BK108.out 1; have hfz53_2 := blk_frozen BK108.out 2; have hfz53_3 := blk_frozen BK108.out 3) | ((with_reducible refine gate_callee (f := 6) rfl ?_); refine goesL_ (some 10) rfl rfl Tryd.func6 (by kernel_rfl) rfl #[.agg #[.int .u8 a0_0, .int .i64 a0_1, .string a0_2, .slice A0_3 l0_3.length c0_3]] rfl (by (try simp only [List.map_toArray, List.map_cons, List.map_nil]); first | done | rfl | (simp only [List.length_drop, List.length_take]; rfl)) ?_; (with_reducible refine (ontimeref14_Small.calls k a0_0 a0_1 a0_2 _ _ l0_3 false _ ?side1 ?side2 A4.out).mono ?_); (case side1 => repeat (first | exact (Kd.C_below HR0_3.out HB.out) | (with_reducible refine Kd.C_alloc ?_ _) | (with_reducible refine Kd.C_drewN ?_ _) | (with_reducible refine Kd.C_drew ?_))); (case side2 => exact HC0_3.out); rintro e w54 ⟨rfl, hb⟩; refine ⟨_, rfl, ?_⟩; have n0_ := Aside0.mk (blk_below (g := gb108) (o := .cells #[.int .u8 a0_0, .int .i64 a0_1, .string a0_2, .slice A0_3 l0_3.length c0_3] 24 (0, 0)) (by (with_reducible repeat (first | refine blk_drewN ?_ _ | refine blk_drew ?_ | refine blk_alloc ?_ _)); exact BK108.out) hb); have n1_ := Aside0.mk (below_step (by repeat (first | (with_reducible first | exact HB.out | apply below_alloc | apply pw_below_drewN | apply below_drew1 | refine below_set ?_ GE108.out) | exact HB.out)) hb); clear BK108; clear HB; have BK108 := n0_; have HB := n1_; clear n0_ n1_; (try clear hb); (try clear hb2); (try clear hk); (try clear hi)))
      go_ret
      exact ⟨by first | rfl | (simp [errW_none, errW_some] <;> rfl) | (simp [*, errW_none, errW_some] <;> rfl), by repeat (first | (with_reducible first | exact HB.out | apply below_alloc | apply pw_below_drewN | apply below_drew1 | refine below_set ?_ GE108.out) | exact HB.out)⟩
  · replace c3 := Bool.eq_false_iff.mpr c3
    subst c3
    have H1 : (some false) = some r := by rw [if_neg (show ¬ (false = true) by decide)] at H; exact H
    clear H
    have H := H1
    clear H1
    obtain rfl := Option.some.inj H
    go_enter Tryd.func3, Tryd.ntmps3
    go_wp2_with (first | ((with_reducible refine gate_dst (N := 1) rfl ?_); refine box_event ?hg (N := 1) ?hd (cs := #[.int .u8 a0_0, .int .i64 a0_1, .string a0_2, .slice A0_3 l0_3.length c0_3]) (t := 24) ?hr ?_; (case hd => rfl); (case hg => rfl); (case hr => first | (go_simp; done) | (go_simp; rfl)); intro gb108 hg w55 hbox hb; have n0_ := Aside0.mk (below_step (by repeat (first | (with_reducible first | exact HB.out | apply below_alloc | apply pw_below_drewN | apply below_drew1) | exact HB.out)) hb); have n1_ := Aside0.mk (hbox); have n2_ := Aside0.mk ((by rw [hg]; exact (below_size (by repeat (first | (with_reducible first | exact HB.out | apply below_alloc | apply pw_below_drewN | apply below_drew1) | exact HB.out))) : w.heap.size ≤ gb108)); have n3_ := Aside0.mk ((by rw [hg]; exact (below_size (by repeat (first | (with_reducible first | exact HB.out | apply below_alloc | apply pw_below_drewN | apply below_drew1) | exact HB.out))) : w.heap.size ≤ gb108)); clear HB; have HB := n0_; have BK108 := n1_; have GW108 := n2_; have GE108 := n3_; clear n0_ n1_ n2_ n3_; clear hb hbox hg) | ((with_reducible refine gate_callee (f := 5) rfl ?_); refine goesL_ (some 7) rfl rfl Tryd.func5 (by kernel_rfl) rfl #[] rfl (by (try simp only [List.map_toArray, List.map_cons, List.map_nil]); first | done | rfl | (simp only [List.length_drop, List.length_take]; rfl)) ?_; (with_reducible refine (ontimelaw14_awake.calls  false _ ?side1 A2.out).mono ?_); (case side1 => exact Laid.below hL (by repeat (first | (with_reducible first | exact HB.out | apply below_alloc | apply pw_below_drewN | apply below_drew1 | refine below_set ?_ GE108.out) | exact HB.out))); rintro e w56 ⟨rfl, hb⟩; refine ⟨_, rfl, ?_⟩; have n0_ := Aside0.mk (blk_below (g := gb108) (o := .cells #[.int .u8 a0_0, .int .i64 a0_1, .string a0_2, .slice A0_3 l0_3.length c0_3] 24 (0, 0)) (by (with_reducible repeat (first | refine blk_drewN ?_ _ | refine blk_drew ?_ | refine blk_alloc ?_ _)); exact BK108.out) hb); have n1_ := Aside0.mk (below_step (by repeat (first | (with_reducible first | exact HB.out | apply below_alloc | apply pw_below_drewN | apply below_drew1 | refine below_set ?_ GE108.out) | exact HB.out)) hb); clear BK108; clear HB; have BK108 := n0_; have HB := n1_; clear n0_ n1_; (try clear hb); (try clear hb2); (try clear hk); (try clear hi)))
    go_ret
    exact ⟨by first | rfl | (simp [errW_none, errW_some] <;> rfl) | (simp [*, errW_none, errW_some] <;> rfl), by repeat (first | (with_reducible first | exact HB.out | apply below_alloc | apply pw_below_drewN | apply below_drew1 | refine below_set ?_ GE108.out) | exact HB.out)⟩

end Go.Proofs.YtlmmobfebjideaaDoor.P

/- What the printed Small comes to; how long the texts of small trees are. -/
namespace Go.Proofs.YtlmmobfebjideaaDoor.Pure
open Go.RowKit Go.Proofs.YtlmmobfebjideaaDoor Go.Proofs.YtlmmobfebjideaaDoor.P Go.Proofs.YtlmmobfebjideaaDoor.M Go.Proofs.YtlmmobfebjideaaDoorW.PrintWords Go.Proofs.YtlmmobfebjideaaDoorW.PrintLast
set_option linter.unusedVariables false
set_option linter.unusedSimpArgs false

theorem cf_le {a0 a1 : Int} {s : ByteArray} {l : List S24} {d r : Int} {k k' : Nat} (hk : k ≤ k') (h : ontimeref14_count.f k a0 a1 s l d = some r) : ontimeref14_count.f k' a0 a1 s l d = some r := by
  induction hk with
  | refl => exact h
  | step _ ih => exact (ontimeref14_count.mono_l _).1 _ _ _ _ _ _ ih
theorem cl_le {x1 x5 x6 a0 a1 : Int} {s : ByteArray} {l : List S24} {r : Int} {k k' : Nat} (hk : k ≤ k') (h : ontimeref14_count.l0 k x1 x5 x6 a0 a1 s l = some r) : ontimeref14_count.l0 k' x1 x5 x6 a0 a1 s l = some r := by
  induction hk with
  | refl => exact h
  | step _ ih => exact (ontimeref14_count.mono_l _).2.2 _ _ _ _ _ _ _ _ ih

/-- What count says of a tree: a number that is small only where the tree is. -/
def CntC (n : Nd) : Prop := ∀ d : Nat, d ≤ 20 → ∃ (k : Nat) (c : Int), ontimeref14_count.f k n.f0 n.f1 n.f2 n.f3 (d : Int) = some c ∧ 1 ≤ c ∧ c ≤ 1000 * (d + 1) ∧ (c ≤ 500 → depth n ≤ d ∧ (size n : Int) ≤ c)

theorem sizes_drop (l : List Nd) (i : Nat) (h : i < l.length) : sizes (l.drop i) = size (rd_T24 l (i : Int)) + sizes (l.drop (i + 1)) ∧ depths (l.drop i) = max (depth (rd_T24 l (i : Int))) (depths (l.drop (i + 1))) := by
  have e : rd_T24 l (i : Int) = l[i] := by
    unfold rd_T24
    rw [Int.toNat_natCast, List.getD_eq_getElem?_getD, List.getElem?_eq_getElem h]; rfl
  rw [List.drop_eq_getElem_cons h, sizes, depths, e]
  exact ⟨rfl, rfl⟩

theorem cnt_loop (a0 a1 : Int) (s : ByteArray) (l : List Nd) (hl : ∀ x ∈ l, CntC x) (d : Nat) (hd : d < 20) : ∀ (m i : Nat) (t : Int), m = l.length - i → i ≤ l.length → (i : Int) + 1 ≤ t → t ≤ 999 + 1000 * (d + 1) →
    ∃ (k : Nat) (c : Int), ontimeref14_count.l0 k (((d + 1 : Nat) : Int)) t (i : Int) a0 a1 s l = some c ∧ t ≤ c ∧ c ≤ 999 + 1000 * (d + 1) ∧ (c ≤ 500 → depths (l.drop i) ≤ d ∧ t + (sizes (l.drop i) : Int) ≤ c) := by
  intro m
  induction m with
  | zero =>
    intro i t hm hi h1 h2
    obtain rfl : i = l.length := by omega
    refine ⟨1, t, ?_, Int.le_refl _, h2, fun _ => ?_⟩
    · rw [ontimeref14_count.l0, if_neg (by omega)]
    · rw [List.drop_length]; simp [depths, sizes]
  | succ m ih =>
    intro i t hm hi h1 h2
    have hlt : i < l.length := by omega
    by_cases ht : t < 1000
    · obtain ⟨k1, c1, e1, g1, g2, g3⟩ := hl _ (rd_mem l i hlt) d (by omega)
      have ew : wrap64 (t + c1) = t + c1 := by unfold wrap64; omega
      have ei : wrap64 ((i : Int) + 1) = ((i + 1 : Nat) : Int) := by unfold wrap64; omega
      have ed : wrap64 (((d + 1 : Nat) : Int) - 1) = (d : Int) := by unfold wrap64; omega
      obtain ⟨k2, c2, e2, j1, j2, j3⟩ := ih (i + 1) (t + c1) (by omega) (by omega) (by omega) (by omega)
      refine ⟨max k1 k2 + 1, c2, ?_, by omega, j2, fun h => ?_⟩
      · rw [ontimeref14_count.l0, if_pos (by omega), if_pos ht, if_pos (by omega), ed, cf_le (Nat.le_max_left k1 k2) e1]
        simp only [Option.bind_some]
        rw [ew, ei]
        exact cl_le (Nat.le_max_right k1 k2) e2
      · obtain ⟨x1, x2⟩ := j3 h
        obtain ⟨y1, y2⟩ := g3 (by omega)
        obtain ⟨z1, z2⟩ := sizes_drop l i hlt
        rw [z1, z2]
        constructor
        · omega
        · omega
    · refine ⟨1, t, ?_, Int.le_refl _, h2, fun h => by omega⟩
      rw [ontimeref14_count.l0, if_pos (by omega), if_neg ht]

theorem count_any (n : Nd) : CntC n := by
  refine nd_ind (C := CntC) ?_ n
  intro k m s l ih d hd
  by_cases h0 : d = 0
  · subst h0
    refine ⟨2, 1000, ?_, by omega, by omega, fun h => by omega⟩
    rw [ontimeref14_count.f, if_pos (by rfl), ontimeref14_count.j0, if_pos rfl]
  by_cases h40 : (s.size : Int) > 40
  · refine ⟨2, 1000, ?_, by omega, by omega, fun h => by omega⟩
    rw [ontimeref14_count.f, if_neg (by omega), decide_eq_true h40, ontimeref14_count.j0, if_pos rfl]
  · obtain ⟨d, rfl⟩ : ∃ e, d = e + 1 := ⟨d - 1, by omega⟩
    obtain ⟨k2, c, e, g1, g2, g3⟩ := cnt_loop k m s l ih d (by omega) l.length 0 1 (by omega) (by omega) (by omega) (by omega)
    refine ⟨k2 + 2, c, ?_, g1, by omega, fun h => ?_⟩
    · rw [ontimeref14_count.f, if_neg (by omega), decide_eq_false h40, ontimeref14_count.j0, if_neg (by decide)]
      exact e
    · obtain ⟨x1, x2⟩ := g3 h
      rw [List.drop_zero] at x1 x2
      rw [depth, size]
      constructor
      · omega
      · omega

theorem small_f (n : Nd) : ∃ k, ∃ b : Bool, (∀ k', k ≤ k' → ontimeref14_Small.f k' n.f0 n.f1 n.f2 n.f3 = some b) ∧ (b = true → depth n ≤ 20 ∧ size n ≤ 500) := by
  obtain ⟨k, c, e, g1, g2, g3⟩ := count_any n 20 (by omega)
  refine ⟨k, decide (c ≤ 500), fun k' hk => ?_, fun h => ?_⟩
  · unfold ontimeref14_Small.f
    have e2 := cf_le hk e
    have e3 : (((20 : Nat) : Int)) = 20 := rfl
    rw [e3] at e2
    rw [e2]; rfl
  · have hc : c ≤ 500 := by simpa using h
    obtain ⟨x, y⟩ := g3 hc
    exact ⟨x, by omega⟩

/-! ### lengths -/
theorem name_le (c : Nat) (n : Nd) (h : isN c n = true) : n.f2.data.toList.length ≤ 12 := by
  by_cases hk : n.f0 = 47
  · rw [isN_47 c n hk] at h
    simp only [Bool.and_eq_true, decide_eq_true_eq] at h
    rw [h.1.2]; simp
  cases hf : M.form n.f0 with
  | none => rw [isN_none c n hk hf] at h; cases h
  | some f =>
    rw [isN_some c n hk f hf] at h
    simp only [Bool.and_eq_true] at h
    have h1 := h.1.2
    split at h1
    · unfold Lx.name at h1
      simp only [Bool.and_eq_true, decide_eq_true_eq] at h1
      exact h1.1.1.1.2
    · rw [of_decide_eq_true h1]; simp
theorem sym_le (k : Int) : (symOf k).length ≤ 2 := by
  unfold symOf
  have key : ∀ x ∈ opSymbols, x.length ≤ 2 := by decide
  split
  · rw [List.getD_eq_getElem?_getD]
    cases h9 : opSymbols[(k - 4).toNat]? with
    | none => simp
    | some x => exact key x (List.mem_of_getElem? h9)
  · simp
theorem paren_le2 (b : Bool) (s : List UInt8) : (paren b s).length ≤ s.length + 2 := by
  unfold paren
  split
  · simp only [List.length_append, List.length_cons, List.length_nil]; omega
  · omega
theorem pE_len : ∀ n : Nd, isN 1 n = true → (pE n).length ≤ 60 * size n := by
  intro n
  refine nd_ind (C := fun n => isN 1 n = true → (pE n).length ≤ 60 * size n) ?_ n
  intro k m s l ih hv
  have hE := pE_eq ⟨k, m, s, l⟩
  have hnm := name_le 1 _ hv
  simp only at hnm
  rcases expr_cases _ hv with ⟨h, h0, h1⟩ | h | ⟨h, a, e, ha⟩ | ⟨h, a, e, ha⟩ | ⟨h, a, b, e, ha, hb⟩
  · rw [hE, if_pos h, size]
    have := Lib.itoa_length_le m (by simp only at h0; omega) (by simp only at h1; omega)
    simp only
    omega
  · rw [hE, if_neg (by simp only at h ⊢; omega), if_pos h, size]
    simp only
    omega
  · simp only at h e
    subst e
    have := ih a (by simp) ha
    rw [hE, if_neg (by simp only; omega), if_neg (by simp only; omega), if_pos h, size]
    simp only [pE1, sizes, List.length_append, List.length_cons, List.length_nil]
    omega
  · simp only at h e
    subst e
    have := ih a (by simp) ha
    have h2 := sym_le k
    have h3 := paren_le2 (wants a (levOf k)) (pE a)
    rw [hE, if_neg (by simp only; omega), if_neg (by simp only; omega), if_neg (by simp only; omega), if_neg (by simp only; omega), size]
    simp only [pEu, sizes, List.length_append]
    omega
  · simp only at h e
    subst e
    have i1 := ih a (by simp) ha
    have i2 := ih b (by simp) hb
    have h2 := sym_le k
    have h3 := paren_le2 (wants a (levOf k)) (pE a)
    have h4 := paren_le2 (wants b (levOf k + 1)) (pE b)
    rw [hE, if_neg (by simp only; omega), if_neg (by simp only; omega), if_neg (by simp only; omega), if_pos h, size]
    simp only [pE2, pEu, sizes, List.length_append, List.length_cons, List.length_nil]
    omega
theorem pSs_len (d : Nat) : ∀ l : List Nd, (∀ x ∈ l, (pS d x).length ≤ 1000 * size x) → (pSs d l).length ≤ 1000 * sizes l
  | [], _ => by simp [pSs]
  | a :: l, h => by
    have h1 := h a (by simp)
    have h2 := pSs_len d l (fun x hx => h x (List.mem_cons_of_mem _ hx))
    rw [pSs, sizes, List.length_append]
    omega
theorem out_len : ∀ n : Nd, (isN 4 n = true → ∀ d, d + depth n ≤ 60 → (pS d n).length ≤ 1000 * size n) ∧ (isN 8 n = true → ∀ d, d + depth n ≤ 60 → (pB d n).length ≤ 1000 * size n) := by
  intro n
  refine nd_ind (C := fun n => (isN 4 n = true → ∀ d, d + depth n ≤ 60 → (pS d n).length ≤ 1000 * size n) ∧ (isN 8 n = true → ∀ d, d + depth n ≤ 60 → (pB d n).length ≤ 1000 * size n)) ?_ n
  intro k m s l ih
  constructor
  · intro h d hd
    have hnm := name_le 4 _ h
    simp only at hnm
    obtain ⟨m2, s2, hm, h⟩ := stmt_cases _ h
    have ht : (tabs d).length = d := by simp [tabs]
    have hi := Lib.itoa_length_le m2 (by omega) (by omega)
    rw [depth] at hd
    rcases h with ⟨a, b, e, ha, hb⟩ | ⟨a, b, c, e, ha, hb, hc⟩ | ⟨a, e, ha, _⟩ | ⟨a, b, e, ha, hb, _⟩ | ⟨a, e, ha, _⟩ | ⟨a, e, ha, _⟩ | ⟨a, e, ha, _⟩
    all_goals
      injection e with e1 e2 e3 e4
      subst e1 e2 e3 e4
      simp only [depths] at hd
      rw [size]
      simp only [sizes]
    · have := pE_len a (place_expr _ ha); have := pE_len b hb
      rw [pS_40]; simp only [List.length_append, List.length_cons, List.length_nil]; omega
    · have := pE_len a ha; have := (ih b (by simp)).2 hb (d + 1) (by omega); have := (ih c (by simp)).2 hc (d + 1) (by omega)
      rw [pS_41]; simp only [List.length_append, List.length_cons, List.length_nil]; omega
    · have := (ih a (by simp)).2 ha (d + 1) (by omega)
      rw [pS_42]; simp only [List.length_append, List.length_cons, List.length_nil]; omega
    · have := pE_len a ha; have := (ih b (by simp)).2 hb (d + 1) (by omega)
      rw [pS_43]; simp only [List.length_append, List.length_cons, List.length_nil]; omega
    · have := pE_len a (place_expr _ ha)
      rw [pS_44]; simp only [List.length_append, List.length_cons, List.length_nil]; omega
    · have := pE_len a ha
      rw [pS_45]; simp only [List.length_append, List.length_cons, List.length_nil]; omega
    · have := (ih a (by simp)).2 ha (d + 1) (by omega)
      rw [pS_46]; simp only [List.length_append, List.length_cons, List.length_nil]; omega
  · intro h d hd
    rw [depth] at hd
    have hall : isAll 4 l = true := by
      by_cases hk : k = 47
      · rw [isN_47 8 _ hk] at h
        simp only [Bool.and_eq_true] at h
        exact h.2
      · exfalso
        cases hf : M.form k with
        | none => rw [isN_none 8 _ hk hf] at h; cases h
        | some f =>
          rw [isN_some 8 _ hk f hf] at h
          have hc := (form_cases _ _ hf).1
          simp only [Bool.and_eq_true] at h
          have h1 := h.1.1.1.1
          rcases hc with hc | hc | hc <;> rw [hc] at h1 <;> cases h1
    rw [pB, size]
    have := pSs_len d l (fun x hx => (ih x hx).1 (isAll_mem 4 l x hall hx) d (by have := depth_mem l x hx; omega))
    omega

end Go.Proofs.YtlmmobfebjideaaDoor.Pure
