-- WRITTEN by myprint.py (a program of this session's over the kit's print); Lean checks it.
import Derived.Test.YtjdljjjkmjhdnaaDoorPx0
import Derived.Test.YtjdljjjkmjhdnaaDoorPx2
import Derived.Test.YtjdljjjkmjhdnaaDoorPx3
namespace Go.Proofs.YtjdljjjkmjhdnaaDoor.P
open Go.RowKit Go.Proofs.YtjdljjjkmjhdnaaDoorW.PrintWords Go.Proofs.YtjdljjjkmjhdnaaDoorW.PrintLast Go.Proofs.YtjdljjjkmjhdnaaDoorW.PrintMore
attribute [local go_sem] max2_int min2_int max_two min_two max_three min_three max_four min_four   -- for this text's walks alone
set_option linter.unusedVariables false
set_option linter.unusedSimpArgs false

/-! ### ontimeref11_kind: function 25 -/
def ontimeref11_kind.l0 : Nat → ByteArray → Bool → Bool → Bool → Bool → Int → Option (Int)
  | 0, _, _, _, _, _, _ => none
  | k + 1, x0, x3, x4, x5, x6, x7 => if x7 < (x0.size : Int) then (if x3 = true then (if 0 ≤ x7 then ((ontimeref11_letter.f (bt x0 x7)).bind fun t127 => (if t127 = true then (if x4 = true then ((ontimeref11_digit.f (bt x0 x7)).bind fun t128 => (if x5 = true then ((ontimeref11_space.f (bt x0 x7)).bind fun t129 => (if x6 = true then (ontimeref11_kind.l0 k x0 true t128 t129 ((bt x0 x7) != 10) (wrap64 (x7 + 1))) else (ontimeref11_kind.l0 k x0 true t128 t129 false (wrap64 (x7 + 1))))) else (if x6 = true then (ontimeref11_kind.l0 k x0 true t128 false ((bt x0 x7) != 10) (wrap64 (x7 + 1))) else (ontimeref11_kind.l0 k x0 true t128 false false (wrap64 (x7 + 1)))))) else (if x5 = true then ((ontimeref11_space.f (bt x0 x7)).bind fun t130 => (if x6 = true then (ontimeref11_kind.l0 k x0 true false t130 ((bt x0 x7) != 10) (wrap64 (x7 + 1))) else (ontimeref11_kind.l0 k x0 true false t130 false (wrap64 (x7 + 1))))) else (if x6 = true then (ontimeref11_kind.l0 k x0 true false false ((bt x0 x7) != 10) (wrap64 (x7 + 1))) else (ontimeref11_kind.l0 k x0 true false false false (wrap64 (x7 + 1)))))) else ((ontimeref11_digit.f (bt x0 x7)).bind fun t131 => (if x4 = true then (if x5 = true then ((ontimeref11_space.f (bt x0 x7)).bind fun t132 => (if x6 = true then (ontimeref11_kind.l0 k x0 t131 t131 t132 ((bt x0 x7) != 10) (wrap64 (x7 + 1))) else (ontimeref11_kind.l0 k x0 t131 t131 t132 false (wrap64 (x7 + 1))))) else (if x6 = true then (ontimeref11_kind.l0 k x0 t131 t131 false ((bt x0 x7) != 10) (wrap64 (x7 + 1))) else (ontimeref11_kind.l0 k x0 t131 t131 false false (wrap64 (x7 + 1))))) else (if x5 = true then ((ontimeref11_space.f (bt x0 x7)).bind fun t133 => (if x6 = true then (ontimeref11_kind.l0 k x0 t131 false t133 ((bt x0 x7) != 10) (wrap64 (x7 + 1))) else (ontimeref11_kind.l0 k x0 t131 false t133 false (wrap64 (x7 + 1))))) else (if x6 = true then (ontimeref11_kind.l0 k x0 t131 false false ((bt x0 x7) != 10) (wrap64 (x7 + 1))) else (ontimeref11_kind.l0 k x0 t131 false false false (wrap64 (x7 + 1))))))))) else (none)) else (if x4 = true then (if 0 ≤ x7 then ((ontimeref11_digit.f (bt x0 x7)).bind fun t134 => (if x5 = true then ((ontimeref11_space.f (bt x0 x7)).bind fun t135 => (if x6 = true then (ontimeref11_kind.l0 k x0 false t134 t135 ((bt x0 x7) != 10) (wrap64 (x7 + 1))) else (ontimeref11_kind.l0 k x0 false t134 t135 false (wrap64 (x7 + 1))))) else (if x6 = true then (ontimeref11_kind.l0 k x0 false t134 false ((bt x0 x7) != 10) (wrap64 (x7 + 1))) else (ontimeref11_kind.l0 k x0 false t134 false false (wrap64 (x7 + 1)))))) else (none)) else (if x5 = true then (if 0 ≤ x7 then ((ontimeref11_space.f (bt x0 x7)).bind fun t136 => (if x6 = true then (ontimeref11_kind.l0 k x0 false false t136 ((bt x0 x7) != 10) (wrap64 (x7 + 1))) else (ontimeref11_kind.l0 k x0 false false t136 false (wrap64 (x7 + 1))))) else (none)) else (if x6 = true then (if 0 ≤ x7 then (ontimeref11_kind.l0 k x0 false false false ((bt x0 x7) != 10) (wrap64 (x7 + 1))) else (none)) else (ontimeref11_kind.l0 k x0 false false false false (wrap64 (x7 + 1))))))) else (if x3 = true then (some 1) else (if x4 = true then (some 2) else ((ontimeref11_Signs.f).bind fun t137 => ((ontimeref11_In.f k t137 x0).bind fun t140 => (if t140 = true then (some 3) else (if x5 = true then (some 4) else (if x6 = true then (some 5) else (some 0))))))))
def ontimeref11_kind.f (k : Nat) (a0 : ByteArray) : Option (Int) := if (a0.size : Int) = 0 then (some 0) else (if 0 < (a0.size : Int) then ((ontimeref11_letter.f (bt a0 0)).bind fun t126 => (ontimeref11_kind.l0 k a0 t126 true true ((bt a0 0) == 35) 0)) else (none))
theorem ontimeref11_kind.mono_l : ∀ k, (∀ y0 y1 y2 y3 y4 y5, LeO (ontimeref11_kind.l0 k y0 y1 y2 y3 y4 y5) (ontimeref11_kind.l0 (k + 1) y0 y1 y2 y3 y4 y5))
  | 0 => fun _ _ _ _ _ _ r h => by simp [ontimeref11_kind.l0] at h
  | k + 1 => by
    have ih0 := ontimeref11_kind.mono_l k
    · intro y0 y1 y2 y3 y4 y5
      unfold ontimeref11_kind.l0
      repeat' first
      | (with_reducible exact ih0 _ _ _ _ _ _)
      | (with_reducible exact ontimeref11_In.mono _ _ _)
      | (with_reducible exact LeO.refl _)
      | (with_reducible exact LeO.none _)
      | (with_reducible refine LeO.ite ?_ ?_)
      | (with_reducible refine LeO.bind ?_ (fun _ => ?_))
      | exact ih0 _ _ _ _ _ _
      | exact ontimeref11_In.mono _ _ _
      | exact LeO.none _
      | refine LeO.ite ?_ ?_
      | refine LeO.bind ?_ (fun _ => ?_)
theorem ontimeref11_kind.mono : ∀ a0 k, LeO (ontimeref11_kind.f k a0) (ontimeref11_kind.f (k + 1) a0) := by
  intro a0 k
  have ih0 := ontimeref11_kind.mono_l k
  unfold ontimeref11_kind.f
  repeat' first
      | (with_reducible exact ih0 _ _ _ _ _ _)
      | (with_reducible exact ontimeref11_In.mono _ _ _)
      | (with_reducible exact LeO.refl _)
      | (with_reducible exact LeO.none _)
      | (with_reducible refine LeO.ite ?_ ?_)
      | (with_reducible refine LeO.bind ?_ (fun _ => ?_))
      | exact ih0 _ _ _ _ _ _
      | exact ontimeref11_In.mono _ _ _
      | exact LeO.none _
      | refine LeO.ite ?_ ?_
      | refine LeO.bind ?_ (fun _ => ?_)
set_option maxHeartbeats 8000000 in
set_option maxRecDepth 100000 in
theorem ontimeref11_kind.calls (k : Nat) (a0 : ByteArray) (r : Int) (w : World) (h : ontimeref11_kind.f k a0 = some r) :
    Calls Tryd.prog 25 #[.string a0] w fun e w' => e = .returned (.int .u8 r) ∧ Below w.heap.size w w' := by
  have HB := Aside0.mk (Below.refl w.heap.size w)
  have H : (if (a0.size : Int) = 0 then (some 0) else (if 0 < (a0.size : Int) then ((ontimeref11_letter.f (bt a0 0)).bind fun t126 => (ontimeref11_kind.l0 k a0 t126 true true ((bt a0 0) == 35) 0)) else (none))) = some r := h
  clear h
  by_cases c2 : (a0.size : Int) = 0
  · rw [if_pos c2] at H
    have c2b0 : ((a0.size : Int) == 0) = true := beq_iff_eq.mpr c2
    have c2b1 : ((a0.size : Int) != 0) = false := bne_eq_false_iff_eq.mpr c2
    clear c2
    obtain rfl := Option.some.inj H
    go_enter Tryd.func25, Tryd.ntmps25
    go_wp2
    repeat (go_quiet (fail); try go_wp2)
    go_ret
    exact ⟨by first | rfl | (simp [errW_none, errW_some] <;> rfl) | (simp [*, errW_none, errW_some] <;> rfl), by repeat (first | (with_reducible first | exact HB.out | apply below_alloc | apply pw_below_drewN | apply below_drew1) | exact HB.out)⟩
  · rw [if_neg c2] at H
    have c2b0 : ((a0.size : Int) == 0) = false := beq_eq_false_iff_ne.mpr c2
    have c2b1 : ((a0.size : Int) != 0) = true := bne_iff_ne.mpr c2
    by_cases c3 : 0 < (a0.size : Int)
    · rw [if_pos c3] at H
      have c3b0 : decide (0 < (a0.size : Int)) = true := decide_eq_true c3
      have c3b1 : decide (0 < a0.size) = true := decide_eq_true (by omega)
      clear c3
      replace H := Option.bind_eq_some_iff.mp H
      obtain ⟨t126, A50, H⟩ := H
      replace H : (ontimeref11_kind.l0 k a0 t126 true true ((bt a0 0) == 35) 0) = some r := H
      have A5 := Aside0.mk A50
      clear A50
      have H' := Aside0.mk H
      clear H
      have p4 : 0 ≤ (0 : Int) := (by omega)
      have q4 : 0 < a0.size := (by have : (0 : Int) < (a0.size : Int) := of_decide_eq_true (by first | (with_reducible assumption) | assumption); omega)
      have hx4 : ∀ h : 0 < a0.size, ((a0[0]'h).toNat : Int) = bt a0 0 := bt_at a0 0
      clear p4
      have qi4 : (0 < (a0.size : Int)) = True := eq_true (of_decide_eq_true (by first | (with_reducible assumption) | assumption))
      replace q4 := eq_true q4
      go_enter Tryd.func25, Tryd.ntmps25
      go_wp2_with (first | (go_at_call 41; (with_reducible refine (ontimeref11_letter.calls (bt a0 0) t126 _ A5.out).mono ?_); rintro e w' ⟨rfl, ⟨nd, rfl⟩⟩; (try first | exact ⟨rfl, _, World.drewN_drewN _ _ _⟩ | exact ⟨rfl, _, Eq.trans (World.drewN_drewN _ _ _) (congrArg (World.drewN _) (Nat.add_assoc _ _ _))⟩); have p6 : 0 ≤ (0 : Int) := (by omega); have q6 : 0 < a0.size := (by have : (0 : Int) < (a0.size : Int) := of_decide_eq_true (by first | (with_reducible assumption) | assumption); omega); have hx6 : ∀ h : 0 < a0.size, ((a0[0]'h).toNat : Int) = bt a0 0 := bt_at a0 0; clear p6; have qi6 : (0 < (a0.size : Int)) = True := eq_true (of_decide_eq_true (by first | (with_reducible assumption) | assumption)); replace q6 := eq_true q6))
      repeat (go_quiet (first | (go_at_call 41; (with_reducible refine (ontimeref11_letter.calls (bt a0 0) t126 _ A5.out).mono ?_); rintro e w' ⟨rfl, ⟨nd, rfl⟩⟩; (try first | exact ⟨rfl, _, World.drewN_drewN _ _ _⟩ | exact ⟨rfl, _, Eq.trans (World.drewN_drewN _ _ _) (congrArg (World.drewN _) (Nat.add_assoc _ _ _))⟩); have p6 : 0 ≤ (0 : Int) := (by omega); have q6 : 0 < a0.size := (by have : (0 : Int) < (a0.size : Int) := of_decide_eq_true (by first | (with_reducible assumption) | assumption); omega); have hx6 : ∀ h : 0 < a0.size, ((a0[0]'h).toNat : Int) = bt a0 0 := bt_at a0 0; clear p6; have qi6 : (0 < (a0.size : Int)) = True := eq_true (of_decide_eq_true (by first | (with_reducible assumption) | assumption)); replace q6 := eq_true q6)); try go_wp2_with (first | (go_at_call 41; (with_reducible refine (ontimeref11_letter.calls (bt a0 0) t126 _ A5.out).mono ?_); rintro e w' ⟨rfl, ⟨nd, rfl⟩⟩; (try first | exact ⟨rfl, _, World.drewN_drewN _ _ _⟩ | exact ⟨rfl, _, Eq.trans (World.drewN_drewN _ _ _) (congrArg (World.drewN _) (Nat.add_assoc _ _ _))⟩); have p6 : 0 ≤ (0 : Int) := (by omega); have q6 : 0 < a0.size := (by have : (0 : Int) < (a0.size : Int) := of_decide_eq_true (by first | (with_reducible assumption) | assumption); omega); have hx6 : ∀ h : 0 < a0.size, ((a0[0]'h).toNat : Int) = bt a0 0 := bt_at a0 0; clear p6; have qi6 : (0 < (a0.size : Int)) = True := eq_true (of_decide_eq_true (by first | (with_reducible assumption) | assumption)); replace q6 := eq_true q6)))
      go_loopg [3, 4, 5, 6, 7] k (fun kq v3 v4 v5 v6 v7 w' => ∃ (x3_1 : Bool) (x4_1 : Bool) (x5_1 : Bool) (x6_1 : Bool) (x7_1 : Int), v3 = .bool x3_1 ∧ v4 = .bool x4_1 ∧ v5 = .bool x5_1 ∧ v6 = .bool x6_1 ∧ v7 = .int .i64 x7_1 ∧ Aside0 (ontimeref11_kind.l0 kq a0 x3_1 x4_1 x5_1 x6_1 x7_1 = some r) ∧ Aside0 (kq ≤ k) ∧ Aside0 (Below w.heap.size w w'))
      case atStart => exact ⟨(t126), (true), (true), (((bt a0 0) == 35)), (0), (by first | rfl | (simp; done) | (simp [*]; done)), (by first | rfl | (simp; done) | (simp [*]; done)), (by first | rfl | (simp; done) | (simp [*]; done)), (by first | rfl | (simp; done) | (simp [*]; done)), (by first | rfl | (simp; done) | (simp [*]; done)), H', ⟨Nat.le_refl _⟩, ⟨by repeat (first | (with_reducible first | exact HB.out | apply below_alloc | apply pw_below_drewN | apply below_drew1) | exact HB.out)⟩⟩
      case round =>
        clear H'
        try clear c2
        try clear c2b0
        try clear c2b1
        try clear p2
        try clear c3
        try clear c3b0
        try clear c3b1
        try clear p4
        try clear q4
        try clear hx4
        try clear qi4
        try clear p6
        try clear q6
        try clear hx6
        try clear qi6
        try clear p4
        try clear p6
        try clear q4
        try clear q6
        obtain ⟨x3_1, x4_1, x5_1, x6_1, x7_1, rfl, rfl, rfl, rfl, rfl, HA, HK1, HB⟩ := hrel
        cases gk with
        | zero => exact absurd HA.out (by simp [ontimeref11_kind.l0])
        | succ k1 =>
          have H := HA.out
          clear HA
          simp only [ontimeref11_kind.l0] at H
          by_cases c7 : x7_1 < (a0.size : Int)
          · rw [if_pos c7] at H
            have c7b0 : decide (x7_1 < (a0.size : Int)) = true := decide_eq_true c7
            clear c7
            by_cases c8 : x3_1 = true
            · subst c8
              have H1 : (if 0 ≤ x7_1 then ((ontimeref11_letter.f (bt a0 x7_1)).bind fun t127 => (if t127 = true then (if x4_1 = true then ((ontimeref11_digit.f (bt a0 x7_1)).bind fun t128 => (if x5_1 = true then ((ontimeref11_space.f (bt a0 x7_1)).bind fun t129 => (if x6_1 = true then (ontimeref11_kind.l0 k1 a0 true t128 t129 ((bt a0 x7_1) != 10) (wrap64 (x7_1 + 1))) else (ontimeref11_kind.l0 k1 a0 true t128 t129 false (wrap64 (x7_1 + 1))))) else (if x6_1 = true then (ontimeref11_kind.l0 k1 a0 true t128 false ((bt a0 x7_1) != 10) (wrap64 (x7_1 + 1))) else (ontimeref11_kind.l0 k1 a0 true t128 false false (wrap64 (x7_1 + 1)))))) else (if x5_1 = true then ((ontimeref11_space.f (bt a0 x7_1)).bind fun t130 => (if x6_1 = true then (ontimeref11_kind.l0 k1 a0 true false t130 ((bt a0 x7_1) != 10) (wrap64 (x7_1 + 1))) else (ontimeref11_kind.l0 k1 a0 true false t130 false (wrap64 (x7_1 + 1))))) else (if x6_1 = true then (ontimeref11_kind.l0 k1 a0 true false false ((bt a0 x7_1) != 10) (wrap64 (x7_1 + 1))) else (ontimeref11_kind.l0 k1 a0 true false false false (wrap64 (x7_1 + 1)))))) else ((ontimeref11_digit.f (bt a0 x7_1)).bind fun t131 => (if x4_1 = true then (if x5_1 = true then ((ontimeref11_space.f (bt a0 x7_1)).bind fun t132 => (if x6_1 = true then (ontimeref11_kind.l0 k1 a0 t131 t131 t132 ((bt a0 x7_1) != 10) (wrap64 (x7_1 + 1))) else (ontimeref11_kind.l0 k1 a0 t131 t131 t132 false (wrap64 (x7_1 + 1))))) else (if x6_1 = true then (ontimeref11_kind.l0 k1 a0 t131 t131 false ((bt a0 x7_1) != 10) (wrap64 (x7_1 + 1))) else (ontimeref11_kind.l0 k1 a0 t131 t131 false false (wrap64 (x7_1 + 1))))) else (if x5_1 = true then ((ontimeref11_space.f (bt a0 x7_1)).bind fun t133 => (if x6_1 = true then (ontimeref11_kind.l0 k1 a0 t131 false t133 ((bt a0 x7_1) != 10) (wrap64 (x7_1 + 1))) else (ontimeref11_kind.l0 k1 a0 t131 false t133 false (wrap64 (x7_1 + 1))))) else (if x6_1 = true then (ontimeref11_kind.l0 k1 a0 t131 false false ((bt a0 x7_1) != 10) (wrap64 (x7_1 + 1))) else (ontimeref11_kind.l0 k1 a0 t131 false false false (wrap64 (x7_1 + 1))))))))) else (none)) = some r := by rw [if_pos rfl] at H; exact H
              clear H
              have H := H1
              clear H1
              by_cases c9 : 0 ≤ x7_1
              · rw [if_pos c9] at H
                have c9b0 : decide (0 ≤ x7_1) = true := decide_eq_true c9
                clear c9
                replace H := Option.bind_eq_some_iff.mp H
                obtain ⟨t127, A110, H⟩ := H
                replace H : (if t127 = true then (if x4_1 = true then ((ontimeref11_digit.f (bt a0 x7_1)).bind fun t128 => (if x5_1 = true then ((ontimeref11_space.f (bt a0 x7_1)).bind fun t129 => (if x6_1 = true then (ontimeref11_kind.l0 k1 a0 true t128 t129 ((bt a0 x7_1) != 10) (wrap64 (x7_1 + 1))) else (ontimeref11_kind.l0 k1 a0 true t128 t129 false (wrap64 (x7_1 + 1))))) else (if x6_1 = true then (ontimeref11_kind.l0 k1 a0 true t128 false ((bt a0 x7_1) != 10) (wrap64 (x7_1 + 1))) else (ontimeref11_kind.l0 k1 a0 true t128 false false (wrap64 (x7_1 + 1)))))) else (if x5_1 = true then ((ontimeref11_space.f (bt a0 x7_1)).bind fun t130 => (if x6_1 = true then (ontimeref11_kind.l0 k1 a0 true false t130 ((bt a0 x7_1) != 10) (wrap64 (x7_1 + 1))) else (ontimeref11_kind.l0 k1 a0 true false t130 false (wrap64 (x7_1 + 1))))) else (if x6_1 = true then (ontimeref11_kind.l0 k1 a0 true false false ((bt a0 x7_1) != 10) (wrap64 (x7_1 + 1))) else (ontimeref11_kind.l0 k1 a0 true false false false (wrap64 (x7_1 + 1)))))) else ((ontimeref11_digit.f (bt a0 x7_1)).bind fun t131 => (if x4_1 = true then (if x5_1 = true then ((ontimeref11_space.f (bt a0 x7_1)).bind fun t132 => (if x6_1 = true then (ontimeref11_kind.l0 k1 a0 t131 t131 t132 ((bt a0 x7_1) != 10) (wrap64 (x7_1 + 1))) else (ontimeref11_kind.l0 k1 a0 t131 t131 t132 false (wrap64 (x7_1 + 1))))) else (if x6_1 = true then (ontimeref11_kind.l0 k1 a0 t131 t131 false ((bt a0 x7_1) != 10) (wrap64 (x7_1 + 1))) else (ontimeref11_kind.l0 k1 a0 t131 t131 false false (wrap64 (x7_1 + 1))))) else (if x5_1 = true then ((ontimeref11_space.f (bt a0 x7_1)).bind fun t133 => (if x6_1 = true then (ontimeref11_kind.l0 k1 a0 t131 false t133 ((bt a0 x7_1) != 10) (wrap64 (x7_1 + 1))) else (ontimeref11_kind.l0 k1 a0 t131 false t133 false (wrap64 (x7_1 + 1))))) else (if x6_1 = true then (ontimeref11_kind.l0 k1 a0 t131 false false ((bt a0 x7_1) != 10) (wrap64 (x7_1 + 1))) else (ontimeref11_kind.l0 k1 a0 t131 false false false (wrap64 (x7_1 + 1)))))))) = some r := H
                have A11 := Aside0.mk A110
                clear A110
                by_cases c12 : t127 = true
                · subst c12
                  have H1 : (if x4_1 = true then ((ontimeref11_digit.f (bt a0 x7_1)).bind fun t128 => (if x5_1 = true then ((ontimeref11_space.f (bt a0 x7_1)).bind fun t129 => (if x6_1 = true then (ontimeref11_kind.l0 k1 a0 true t128 t129 ((bt a0 x7_1) != 10) (wrap64 (x7_1 + 1))) else (ontimeref11_kind.l0 k1 a0 true t128 t129 false (wrap64 (x7_1 + 1))))) else (if x6_1 = true then (ontimeref11_kind.l0 k1 a0 true t128 false ((bt a0 x7_1) != 10) (wrap64 (x7_1 + 1))) else (ontimeref11_kind.l0 k1 a0 true t128 false false (wrap64 (x7_1 + 1)))))) else (if x5_1 = true then ((ontimeref11_space.f (bt a0 x7_1)).bind fun t130 => (if x6_1 = true then (ontimeref11_kind.l0 k1 a0 true false t130 ((bt a0 x7_1) != 10) (wrap64 (x7_1 + 1))) else (ontimeref11_kind.l0 k1 a0 true false t130 false (wrap64 (x7_1 + 1))))) else (if x6_1 = true then (ontimeref11_kind.l0 k1 a0 true false false ((bt a0 x7_1) != 10) (wrap64 (x7_1 + 1))) else (ontimeref11_kind.l0 k1 a0 true false false false (wrap64 (x7_1 + 1)))))) = some r := by rw [if_pos rfl] at H; exact H
                  clear H
                  have H := H1
                  clear H1
                  by_cases c13 : x4_1 = true
                  · subst c13
                    have H1 : ((ontimeref11_digit.f (bt a0 x7_1)).bind fun t128 => (if x5_1 = true then ((ontimeref11_space.f (bt a0 x7_1)).bind fun t129 => (if x6_1 = true then (ontimeref11_kind.l0 k1 a0 true t128 t129 ((bt a0 x7_1) != 10) (wrap64 (x7_1 + 1))) else (ontimeref11_kind.l0 k1 a0 true t128 t129 false (wrap64 (x7_1 + 1))))) else (if x6_1 = true then (ontimeref11_kind.l0 k1 a0 true t128 false ((bt a0 x7_1) != 10) (wrap64 (x7_1 + 1))) else (ontimeref11_kind.l0 k1 a0 true t128 false false (wrap64 (x7_1 + 1)))))) = some r := by rw [if_pos rfl] at H; exact H
                    clear H
                    have H := H1
                    clear H1
                    replace H := Option.bind_eq_some_iff.mp H
                    obtain ⟨t128, A150, H⟩ := H
                    replace H : (if x5_1 = true then ((ontimeref11_space.f (bt a0 x7_1)).bind fun t129 => (if x6_1 = true then (ontimeref11_kind.l0 k1 a0 true t128 t129 ((bt a0 x7_1) != 10) (wrap64 (x7_1 + 1))) else (ontimeref11_kind.l0 k1 a0 true t128 t129 false (wrap64 (x7_1 + 1))))) else (if x6_1 = true then (ontimeref11_kind.l0 k1 a0 true t128 false ((bt a0 x7_1) != 10) (wrap64 (x7_1 + 1))) else (ontimeref11_kind.l0 k1 a0 true t128 false false (wrap64 (x7_1 + 1))))) = some r := H
                    have A15 := Aside0.mk A150
                    clear A150
                    by_cases c16 : x5_1 = true
                    · subst c16
                      have H1 : ((ontimeref11_space.f (bt a0 x7_1)).bind fun t129 => (if x6_1 = true then (ontimeref11_kind.l0 k1 a0 true t128 t129 ((bt a0 x7_1) != 10) (wrap64 (x7_1 + 1))) else (ontimeref11_kind.l0 k1 a0 true t128 t129 false (wrap64 (x7_1 + 1))))) = some r := by rw [if_pos rfl] at H; exact H
                      clear H
                      have H := H1
                      clear H1
                      replace H := Option.bind_eq_some_iff.mp H
                      obtain ⟨t129, A180, H⟩ := H
                      replace H : (if x6_1 = true then (ontimeref11_kind.l0 k1 a0 true t128 t129 ((bt a0 x7_1) != 10) (wrap64 (x7_1 + 1))) else (ontimeref11_kind.l0 k1 a0 true t128 t129 false (wrap64 (x7_1 + 1)))) = some r := H
                      have A18 := Aside0.mk A180
                      clear A180
                      by_cases c19 : x6_1 = true
                      · subst c19
                        have H1 : (ontimeref11_kind.l0 k1 a0 true t128 t129 ((bt a0 x7_1) != 10) (wrap64 (x7_1 + 1))) = some r := by rw [if_pos rfl] at H; exact H
                        clear H
                        have H := H1
                        clear H1
                        have H' := Aside0.mk H
                        clear H
                        have p10 : 0 ≤ (x7_1 : Int) := of_decide_eq_true (by first | (with_reducible assumption) | assumption)
                        have q10 : x7_1 < (a0.size : Int) := of_decide_eq_true (by first | (with_reducible assumption) | assumption)
                        have hx10 := bt_at a0 x7_1
                        replace p10 := eq_true p10
                        replace q10 := eq_true q10
                        go_wp2_with (first | (go_at_call 41; (with_reducible refine (ontimeref11_letter.calls (bt a0 x7_1) true _ A11.out).mono ?_); rintro e w' ⟨rfl, ⟨nd, rfl⟩⟩; (try first | exact ⟨rfl, _, World.drewN_drewN _ _ _⟩ | exact ⟨rfl, _, Eq.trans (World.drewN_drewN _ _ _) (congrArg (World.drewN _) (Nat.add_assoc _ _ _))⟩); have p14 : 0 ≤ (x7_1 : Int) := of_decide_eq_true (by first | (with_reducible assumption) | assumption); have q14 : x7_1 < (a0.size : Int) := of_decide_eq_true (by first | (with_reducible assumption) | assumption); have hx14 := bt_at a0 x7_1; replace p14 := eq_true p14; replace q14 := eq_true q14) | (go_at_call 42; (with_reducible refine (ontimeref11_digit.calls (bt a0 x7_1) t128 _ A15.out).mono ?_); rintro e w' ⟨rfl, ⟨nd, rfl⟩⟩; (try first | exact ⟨rfl, _, World.drewN_drewN _ _ _⟩ | exact ⟨rfl, _, Eq.trans (World.drewN_drewN _ _ _) (congrArg (World.drewN _) (Nat.add_assoc _ _ _))⟩); have p17 : 0 ≤ (x7_1 : Int) := of_decide_eq_true (by first | (with_reducible assumption) | assumption); have q17 : x7_1 < (a0.size : Int) := of_decide_eq_true (by first | (with_reducible assumption) | assumption); have hx17 := bt_at a0 x7_1; replace p17 := eq_true p17; replace q17 := eq_true q17) | (go_at_call 43; (with_reducible refine (ontimeref11_space.calls (bt a0 x7_1) t129 _ A18.out).mono ?_); rintro e w' ⟨rfl, ⟨nd, rfl⟩⟩; (try first | exact ⟨rfl, _, World.drewN_drewN _ _ _⟩ | exact ⟨rfl, _, Eq.trans (World.drewN_drewN _ _ _) (congrArg (World.drewN _) (Nat.add_assoc _ _ _))⟩); have p20 : 0 ≤ (x7_1 : Int) := of_decide_eq_true (by first | (with_reducible assumption) | assumption); have q20 : x7_1 < (a0.size : Int) := of_decide_eq_true (by first | (with_reducible assumption) | assumption); have hx20 := bt_at a0 x7_1; replace p20 := eq_true p20; replace q20 := eq_true q20))
                        repeat (go_quiet (first | (go_at_call 41; (with_reducible refine (ontimeref11_letter.calls (bt a0 x7_1) true _ A11.out).mono ?_); rintro e w' ⟨rfl, ⟨nd, rfl⟩⟩; (try first | exact ⟨rfl, _, World.drewN_drewN _ _ _⟩ | exact ⟨rfl, _, Eq.trans (World.drewN_drewN _ _ _) (congrArg (World.drewN _) (Nat.add_assoc _ _ _))⟩); have p14 : 0 ≤ (x7_1 : Int) := of_decide_eq_true (by first | (with_reducible assumption) | assumption); have q14 : x7_1 < (a0.size : Int) := of_decide_eq_true (by first | (with_reducible assumption) | assumption); have hx14 := bt_at a0 x7_1; replace p14 := eq_true p14; replace q14 := eq_true q14) | (go_at_call 42; (with_reducible refine (ontimeref11_digit.calls (bt a0 x7_1) t128 _ A15.out).mono ?_); rintro e w' ⟨rfl, ⟨nd, rfl⟩⟩; (try first | exact ⟨rfl, _, World.drewN_drewN _ _ _⟩ | exact ⟨rfl, _, Eq.trans (World.drewN_drewN _ _ _) (congrArg (World.drewN _) (Nat.add_assoc _ _ _))⟩); have p17 : 0 ≤ (x7_1 : Int) := of_decide_eq_true (by first | (with_reducible assumption) | assumption); have q17 : x7_1 < (a0.size : Int) := of_decide_eq_true (by first | (with_reducible assumption) | assumption); have hx17 := bt_at a0 x7_1; replace p17 := eq_true p17; replace q17 := eq_true q17) | (go_at_call 43; (with_reducible refine (ontimeref11_space.calls (bt a0 x7_1) t129 _ A18.out).mono ?_); rintro e w' ⟨rfl, ⟨nd, rfl⟩⟩; (try first | exact ⟨rfl, _, World.drewN_drewN _ _ _⟩ | exact ⟨rfl, _, Eq.trans (World.drewN_drewN _ _ _) (congrArg (World.drewN _) (Nat.add_assoc _ _ _))⟩); have p20 : 0 ≤ (x7_1 : Int) := of_decide_eq_true (by first | (with_reducible assumption) | assumption); have q20 : x7_1 < (a0.size : Int) := of_decide_eq_true (by first | (with_reducible assumption) | assumption); have hx20 := bt_at a0 x7_1; replace p20 := eq_true p20; replace q20 := eq_true q20)); try go_wp2_with (first | (go_at_call 41; (with_reducible refine (ontimeref11_letter.calls (bt a0 x7_1) true _ A11.out).mono ?_); rintro e w' ⟨rfl, ⟨nd, rfl⟩⟩; (try first | exact ⟨rfl, _, World.drewN_drewN _ _ _⟩ | exact ⟨rfl, _, Eq.trans (World.drewN_drewN _ _ _) (congrArg (World.drewN _) (Nat.add_assoc _ _ _))⟩); have p14 : 0 ≤ (x7_1 : Int) := of_decide_eq_true (by first | (with_reducible assumption) | assumption); have q14 : x7_1 < (a0.size : Int) := of_decide_eq_true (by first | (with_reducible assumption) | assumption); have hx14 := bt_at a0 x7_1; replace p14 := eq_true p14; replace q14 := eq_true q14) | (go_at_call 42; (with_reducible refine (ontimeref11_digit.calls (bt a0 x7_1) t128 _ A15.out).mono ?_); rintro e w' ⟨rfl, ⟨nd, rfl⟩⟩; (try first | exact ⟨rfl, _, World.drewN_drewN _ _ _⟩ | exact ⟨rfl, _, Eq.trans (World.drewN_drewN _ _ _) (congrArg (World.drewN _) (Nat.add_assoc _ _ _))⟩); have p17 : 0 ≤ (x7_1 : Int) := of_decide_eq_true (by first | (with_reducible assumption) | assumption); have q17 : x7_1 < (a0.size : Int) := of_decide_eq_true (by first | (with_reducible assumption) | assumption); have hx17 := bt_at a0 x7_1; replace p17 := eq_true p17; replace q17 := eq_true q17) | (go_at_call 43; (with_reducible refine (ontimeref11_space.calls (bt a0 x7_1) t129 _ A18.out).mono ?_); rintro e w' ⟨rfl, ⟨nd, rfl⟩⟩; (try first | exact ⟨rfl, _, World.drewN_drewN _ _ _⟩ | exact ⟨rfl, _, Eq.trans (World.drewN_drewN _ _ _) (congrArg (World.drewN _) (Nat.add_assoc _ _ _))⟩); have p20 : 0 ≤ (x7_1 : Int) := of_decide_eq_true (by first | (with_reducible assumption) | assumption); have q20 : x7_1 < (a0.size : Int) := of_decide_eq_true (by first | (with_reducible assumption) | assumption); have hx20 := bt_at a0 x7_1; replace p20 := eq_true p20; replace q20 := eq_true q20)))
                        go_roundg k1
                        case measure => have := HK1.out; omega
                        case rel => exact ⟨(true), (t128), (t129), (((bt a0 x7_1) != 10)), (wrap64 (x7_1 + 1)), (by first | rfl | (simp; done) | (simp [*]; done)), (by first | rfl | (simp; done) | (simp [*]; done)), (by first | rfl | (simp; done) | (simp [*]; done)), (by first | rfl | (simp; done) | (simp [*]; done)), (by first | rfl | (simp; done) | (simp [*]; done)), H', ⟨by have := HK1.out; omega⟩, ⟨by repeat (first | (with_reducible first | exact HB.out | apply below_alloc | apply pw_below_drewN | apply below_drew1) | exact HB.out)⟩⟩
                      · replace c19 := Bool.eq_false_iff.mpr c19
                        subst c19
                        have H1 : (ontimeref11_kind.l0 k1 a0 true t128 t129 false (wrap64 (x7_1 + 1))) = some r := by rw [if_neg (show ¬ (false = true) by decide)] at H; exact H
                        clear H
                        have H := H1
                        clear H1
                        have H' := Aside0.mk H
                        clear H
                        have p10 : 0 ≤ (x7_1 : Int) := of_decide_eq_true (by first | (with_reducible assumption) | assumption)
                        have q10 : x7_1 < (a0.size : Int) := of_decide_eq_true (by first | (with_reducible assumption) | assumption)
                        have hx10 := bt_at a0 x7_1
                        replace p10 := eq_true p10
                        replace q10 := eq_true q10
                        go_wp2_with (first | (go_at_call 41; (with_reducible refine (ontimeref11_letter.calls (bt a0 x7_1) true _ A11.out).mono ?_); rintro e w' ⟨rfl, ⟨nd, rfl⟩⟩; (try first | exact ⟨rfl, _, World.drewN_drewN _ _ _⟩ | exact ⟨rfl, _, Eq.trans (World.drewN_drewN _ _ _) (congrArg (World.drewN _) (Nat.add_assoc _ _ _))⟩); have p14 : 0 ≤ (x7_1 : Int) := of_decide_eq_true (by first | (with_reducible assumption) | assumption); have q14 : x7_1 < (a0.size : Int) := of_decide_eq_true (by first | (with_reducible assumption) | assumption); have hx14 := bt_at a0 x7_1; replace p14 := eq_true p14; replace q14 := eq_true q14) | (go_at_call 42; (with_reducible refine (ontimeref11_digit.calls (bt a0 x7_1) t128 _ A15.out).mono ?_); rintro e w' ⟨rfl, ⟨nd, rfl⟩⟩; (try first | exact ⟨rfl, _, World.drewN_drewN _ _ _⟩ | exact ⟨rfl, _, Eq.trans (World.drewN_drewN _ _ _) (congrArg (World.drewN _) (Nat.add_assoc _ _ _))⟩); have p17 : 0 ≤ (x7_1 : Int) := of_decide_eq_true (by first | (with_reducible assumption) | assumption); have q17 : x7_1 < (a0.size : Int) := of_decide_eq_true (by first | (with_reducible assumption) | assumption); have hx17 := bt_at a0 x7_1; replace p17 := eq_true p17; replace q17 := eq_true q17) | (go_at_call 43; (with_reducible refine (ontimeref11_space.calls (bt a0 x7_1) t129 _ A18.out).mono ?_); rintro e w' ⟨rfl, ⟨nd, rfl⟩⟩; (try first | exact ⟨rfl, _, World.drewN_drewN _ _ _⟩ | exact ⟨rfl, _, Eq.trans (World.drewN_drewN _ _ _) (congrArg (World.drewN _) (Nat.add_assoc _ _ _))⟩)))
                        repeat (go_quiet (first | (go_at_call 41; (with_reducible refine (ontimeref11_letter.calls (bt a0 x7_1) true _ A11.out).mono ?_); rintro e w' ⟨rfl, ⟨nd, rfl⟩⟩; (try first | exact ⟨rfl, _, World.drewN_drewN _ _ _⟩ | exact ⟨rfl, _, Eq.trans (World.drewN_drewN _ _ _) (congrArg (World.drewN _) (Nat.add_assoc _ _ _))⟩); have p14 : 0 ≤ (x7_1 : Int) := of_decide_eq_true (by first | (with_reducible assumption) | assumption); have q14 : x7_1 < (a0.size : Int) := of_decide_eq_true (by first | (with_reducible assumption) | assumption); have hx14 := bt_at a0 x7_1; replace p14 := eq_true p14; replace q14 := eq_true q14) | (go_at_call 42; (with_reducible refine (ontimeref11_digit.calls (bt a0 x7_1) t128 _ A15.out).mono ?_); rintro e w' ⟨rfl, ⟨nd, rfl⟩⟩; (try first | exact ⟨rfl, _, World.drewN_drewN _ _ _⟩ | exact ⟨rfl, _, Eq.trans (World.drewN_drewN _ _ _) (congrArg (World.drewN _) (Nat.add_assoc _ _ _))⟩); have p17 : 0 ≤ (x7_1 : Int) := of_decide_eq_true (by first | (with_reducible assumption) | assumption); have q17 : x7_1 < (a0.size : Int) := of_decide_eq_true (by first | (with_reducible assumption) | assumption); have hx17 := bt_at a0 x7_1; replace p17 := eq_true p17; replace q17 := eq_true q17) | (go_at_call 43; (with_reducible refine (ontimeref11_space.calls (bt a0 x7_1) t129 _ A18.out).mono ?_); rintro e w' ⟨rfl, ⟨nd, rfl⟩⟩; (try first | exact ⟨rfl, _, World.drewN_drewN _ _ _⟩ | exact ⟨rfl, _, Eq.trans (World.drewN_drewN _ _ _) (congrArg (World.drewN _) (Nat.add_assoc _ _ _))⟩))); try go_wp2_with (first | (go_at_call 41; (with_reducible refine (ontimeref11_letter.calls (bt a0 x7_1) true _ A11.out).mono ?_); rintro e w' ⟨rfl, ⟨nd, rfl⟩⟩; (try first | exact ⟨rfl, _, World.drewN_drewN _ _ _⟩ | exact ⟨rfl, _, Eq.trans (World.drewN_drewN _ _ _) (congrArg (World.drewN _) (Nat.add_assoc _ _ _))⟩); have p14 : 0 ≤ (x7_1 : Int) := of_decide_eq_true (by first | (with_reducible assumption) | assumption); have q14 : x7_1 < (a0.size : Int) := of_decide_eq_true (by first | (with_reducible assumption) | assumption); have hx14 := bt_at a0 x7_1; replace p14 := eq_true p14; replace q14 := eq_true q14) | (go_at_call 42; (with_reducible refine (ontimeref11_digit.calls (bt a0 x7_1) t128 _ A15.out).mono ?_); rintro e w' ⟨rfl, ⟨nd, rfl⟩⟩; (try first | exact ⟨rfl, _, World.drewN_drewN _ _ _⟩ | exact ⟨rfl, _, Eq.trans (World.drewN_drewN _ _ _) (congrArg (World.drewN _) (Nat.add_assoc _ _ _))⟩); have p17 : 0 ≤ (x7_1 : Int) := of_decide_eq_true (by first | (with_reducible assumption) | assumption); have q17 : x7_1 < (a0.size : Int) := of_decide_eq_true (by first | (with_reducible assumption) | assumption); have hx17 := bt_at a0 x7_1; replace p17 := eq_true p17; replace q17 := eq_true q17) | (go_at_call 43; (with_reducible refine (ontimeref11_space.calls (bt a0 x7_1) t129 _ A18.out).mono ?_); rintro e w' ⟨rfl, ⟨nd, rfl⟩⟩; (try first | exact ⟨rfl, _, World.drewN_drewN _ _ _⟩ | exact ⟨rfl, _, Eq.trans (World.drewN_drewN _ _ _) (congrArg (World.drewN _) (Nat.add_assoc _ _ _))⟩))))
                        go_roundg k1
                        case measure => have := HK1.out; omega
                        case rel => exact ⟨(true), (t128), (t129), (false), (wrap64 (x7_1 + 1)), (by first | rfl | (simp; done) | (simp [*]; done)), (by first | rfl | (simp; done) | (simp [*]; done)), (by first | rfl | (simp; done) | (simp [*]; done)), (by first | rfl | (simp; done) | (simp [*]; done)), (by first | rfl | (simp; done) | (simp [*]; done)), H', ⟨by have := HK1.out; omega⟩, ⟨by repeat (first | (with_reducible first | exact HB.out | apply below_alloc | apply pw_below_drewN | apply below_drew1) | exact HB.out)⟩⟩
                    · replace c16 := Bool.eq_false_iff.mpr c16
                      subst c16
                      have H1 : (if x6_1 = true then (ontimeref11_kind.l0 k1 a0 true t128 false ((bt a0 x7_1) != 10) (wrap64 (x7_1 + 1))) else (ontimeref11_kind.l0 k1 a0 true t128 false false (wrap64 (x7_1 + 1)))) = some r := by rw [if_neg (show ¬ (false = true) by decide)] at H; exact H
                      clear H
                      have H := H1
                      clear H1
                      by_cases c21 : x6_1 = true
                      · subst c21
                        have H1 : (ontimeref11_kind.l0 k1 a0 true t128 false ((bt a0 x7_1) != 10) (wrap64 (x7_1 + 1))) = some r := by rw [if_pos rfl] at H; exact H
                        clear H
                        have H := H1
                        clear H1
                        have H' := Aside0.mk H
                        clear H
                        have p10 : 0 ≤ (x7_1 : Int) := of_decide_eq_true (by first | (with_reducible assumption) | assumption)
                        have q10 : x7_1 < (a0.size : Int) := of_decide_eq_true (by first | (with_reducible assumption) | assumption)
                        have hx10 := bt_at a0 x7_1
                        replace p10 := eq_true p10
                        replace q10 := eq_true q10
                        go_wp2_with (first | (go_at_call 41; (with_reducible refine (ontimeref11_letter.calls (bt a0 x7_1) true _ A11.out).mono ?_); rintro e w' ⟨rfl, ⟨nd, rfl⟩⟩; (try first | exact ⟨rfl, _, World.drewN_drewN _ _ _⟩ | exact ⟨rfl, _, Eq.trans (World.drewN_drewN _ _ _) (congrArg (World.drewN _) (Nat.add_assoc _ _ _))⟩); have p14 : 0 ≤ (x7_1 : Int) := of_decide_eq_true (by first | (with_reducible assumption) | assumption); have q14 : x7_1 < (a0.size : Int) := of_decide_eq_true (by first | (with_reducible assumption) | assumption); have hx14 := bt_at a0 x7_1; replace p14 := eq_true p14; replace q14 := eq_true q14) | (go_at_call 42; (with_reducible refine (ontimeref11_digit.calls (bt a0 x7_1) t128 _ A15.out).mono ?_); rintro e w' ⟨rfl, ⟨nd, rfl⟩⟩; (try first | exact ⟨rfl, _, World.drewN_drewN _ _ _⟩ | exact ⟨rfl, _, Eq.trans (World.drewN_drewN _ _ _) (congrArg (World.drewN _) (Nat.add_assoc _ _ _))⟩); have p22 : 0 ≤ (x7_1 : Int) := of_decide_eq_true (by first | (with_reducible assumption) | assumption); have q22 : x7_1 < (a0.size : Int) := of_decide_eq_true (by first | (with_reducible assumption) | assumption); have hx22 := bt_at a0 x7_1; replace p22 := eq_true p22; replace q22 := eq_true q22))
                        repeat (go_quiet (first | (go_at_call 41; (with_reducible refine (ontimeref11_letter.calls (bt a0 x7_1) true _ A11.out).mono ?_); rintro e w' ⟨rfl, ⟨nd, rfl⟩⟩; (try first | exact ⟨rfl, _, World.drewN_drewN _ _ _⟩ | exact ⟨rfl, _, Eq.trans (World.drewN_drewN _ _ _) (congrArg (World.drewN _) (Nat.add_assoc _ _ _))⟩); have p14 : 0 ≤ (x7_1 : Int) := of_decide_eq_true (by first | (with_reducible assumption) | assumption); have q14 : x7_1 < (a0.size : Int) := of_decide_eq_true (by first | (with_reducible assumption) | assumption); have hx14 := bt_at a0 x7_1; replace p14 := eq_true p14; replace q14 := eq_true q14) | (go_at_call 42; (with_reducible refine (ontimeref11_digit.calls (bt a0 x7_1) t128 _ A15.out).mono ?_); rintro e w' ⟨rfl, ⟨nd, rfl⟩⟩; (try first | exact ⟨rfl, _, World.drewN_drewN _ _ _⟩ | exact ⟨rfl, _, Eq.trans (World.drewN_drewN _ _ _) (congrArg (World.drewN _) (Nat.add_assoc _ _ _))⟩); have p22 : 0 ≤ (x7_1 : Int) := of_decide_eq_true (by first | (with_reducible assumption) | assumption); have q22 : x7_1 < (a0.size : Int) := of_decide_eq_true (by first | (with_reducible assumption) | assumption); have hx22 := bt_at a0 x7_1; replace p22 := eq_true p22; replace q22 := eq_true q22)); try go_wp2_with (first | (go_at_call 41; (with_reducible refine (ontimeref11_letter.calls (bt a0 x7_1) true _ A11.out).mono ?_); rintro e w' ⟨rfl, ⟨nd, rfl⟩⟩; (try first | exact ⟨rfl, _, World.drewN_drewN _ _ _⟩ | exact ⟨rfl, _, Eq.trans (World.drewN_drewN _ _ _) (congrArg (World.drewN _) (Nat.add_assoc _ _ _))⟩); have p14 : 0 ≤ (x7_1 : Int) := of_decide_eq_true (by first | (with_reducible assumption) | assumption); have q14 : x7_1 < (a0.size : Int) := of_decide_eq_true (by first | (with_reducible assumption) | assumption); have hx14 := bt_at a0 x7_1; replace p14 := eq_true p14; replace q14 := eq_true q14) | (go_at_call 42; (with_reducible refine (ontimeref11_digit.calls (bt a0 x7_1) t128 _ A15.out).mono ?_); rintro e w' ⟨rfl, ⟨nd, rfl⟩⟩; (try first | exact ⟨rfl, _, World.drewN_drewN _ _ _⟩ | exact ⟨rfl, _, Eq.trans (World.drewN_drewN _ _ _) (congrArg (World.drewN _) (Nat.add_assoc _ _ _))⟩); have p22 : 0 ≤ (x7_1 : Int) := of_decide_eq_true (by first | (with_reducible assumption) | assumption); have q22 : x7_1 < (a0.size : Int) := of_decide_eq_true (by first | (with_reducible assumption) | assumption); have hx22 := bt_at a0 x7_1; replace p22 := eq_true p22; replace q22 := eq_true q22)))
                        go_roundg k1
                        case measure => have := HK1.out; omega
                        case rel => exact ⟨(true), (t128), (false), (((bt a0 x7_1) != 10)), (wrap64 (x7_1 + 1)), (by first | rfl | (simp; done) | (simp [*]; done)), (by first | rfl | (simp; done) | (simp [*]; done)), (by first | rfl | (simp; done) | (simp [*]; done)), (by first | rfl | (simp; done) | (simp [*]; done)), (by first | rfl | (simp; done) | (simp [*]; done)), H', ⟨by have := HK1.out; omega⟩, ⟨by repeat (first | (with_reducible first | exact HB.out | apply below_alloc | apply pw_below_drewN | apply below_drew1) | exact HB.out)⟩⟩
                      · replace c21 := Bool.eq_false_iff.mpr c21
                        subst c21
                        have H1 : (ontimeref11_kind.l0 k1 a0 true t128 false false (wrap64 (x7_1 + 1))) = some r := by rw [if_neg (show ¬ (false = true) by decide)] at H; exact H
                        clear H
                        have H := H1
                        clear H1
                        have H' := Aside0.mk H
                        clear H
                        have p10 : 0 ≤ (x7_1 : Int) := of_decide_eq_true (by first | (with_reducible assumption) | assumption)
                        have q10 : x7_1 < (a0.size : Int) := of_decide_eq_true (by first | (with_reducible assumption) | assumption)
                        have hx10 := bt_at a0 x7_1
                        replace p10 := eq_true p10
                        replace q10 := eq_true q10
                        go_wp2_with (first | (go_at_call 41; (with_reducible refine (ontimeref11_letter.calls (bt a0 x7_1) true _ A11.out).mono ?_); rintro e w' ⟨rfl, ⟨nd, rfl⟩⟩; (try first | exact ⟨rfl, _, World.drewN_drewN _ _ _⟩ | exact ⟨rfl, _, Eq.trans (World.drewN_drewN _ _ _) (congrArg (World.drewN _) (Nat.add_assoc _ _ _))⟩); have p14 : 0 ≤ (x7_1 : Int) := of_decide_eq_true (by first | (with_reducible assumption) | assumption); have q14 : x7_1 < (a0.size : Int) := of_decide_eq_true (by first | (with_reducible assumption) | assumption); have hx14 := bt_at a0 x7_1; replace p14 := eq_true p14; replace q14 := eq_true q14) | (go_at_call 42; (with_reducible refine (ontimeref11_digit.calls (bt a0 x7_1) t128 _ A15.out).mono ?_); rintro e w' ⟨rfl, ⟨nd, rfl⟩⟩; (try first | exact ⟨rfl, _, World.drewN_drewN _ _ _⟩ | exact ⟨rfl, _, Eq.trans (World.drewN_drewN _ _ _) (congrArg (World.drewN _) (Nat.add_assoc _ _ _))⟩)))
                        repeat (go_quiet (first | (go_at_call 41; (with_reducible refine (ontimeref11_letter.calls (bt a0 x7_1) true _ A11.out).mono ?_); rintro e w' ⟨rfl, ⟨nd, rfl⟩⟩; (try first | exact ⟨rfl, _, World.drewN_drewN _ _ _⟩ | exact ⟨rfl, _, Eq.trans (World.drewN_drewN _ _ _) (congrArg (World.drewN _) (Nat.add_assoc _ _ _))⟩); have p14 : 0 ≤ (x7_1 : Int) := of_decide_eq_true (by first | (with_reducible assumption) | assumption); have q14 : x7_1 < (a0.size : Int) := of_decide_eq_true (by first | (with_reducible assumption) | assumption); have hx14 := bt_at a0 x7_1; replace p14 := eq_true p14; replace q14 := eq_true q14) | (go_at_call 42; (with_reducible refine (ontimeref11_digit.calls (bt a0 x7_1) t128 _ A15.out).mono ?_); rintro e w' ⟨rfl, ⟨nd, rfl⟩⟩; (try first | exact ⟨rfl, _, World.drewN_drewN _ _ _⟩ | exact ⟨rfl, _, Eq.trans (World.drewN_drewN _ _ _) (congrArg (World.drewN _) (Nat.add_assoc _ _ _))⟩))); try go_wp2_with (first | (go_at_call 41; (with_reducible refine (ontimeref11_letter.calls (bt a0 x7_1) true _ A11.out).mono ?_); rintro e w' ⟨rfl, ⟨nd, rfl⟩⟩; (try first | exact ⟨rfl, _, World.drewN_drewN _ _ _⟩ | exact ⟨rfl, _, Eq.trans (World.drewN_drewN _ _ _) (congrArg (World.drewN _) (Nat.add_assoc _ _ _))⟩); have p14 : 0 ≤ (x7_1 : Int) := of_decide_eq_true (by first | (with_reducible assumption) | assumption); have q14 : x7_1 < (a0.size : Int) := of_decide_eq_true (by first | (with_reducible assumption) | assumption); have hx14 := bt_at a0 x7_1; replace p14 := eq_true p14; replace q14 := eq_true q14) | (go_at_call 42; (with_reducible refine (ontimeref11_digit.calls (bt a0 x7_1) t128 _ A15.out).mono ?_); rintro e w' ⟨rfl, ⟨nd, rfl⟩⟩; (try first | exact ⟨rfl, _, World.drewN_drewN _ _ _⟩ | exact ⟨rfl, _, Eq.trans (World.drewN_drewN _ _ _) (congrArg (World.drewN _) (Nat.add_assoc _ _ _))⟩))))
                        go_roundg k1
                        case measure => have := HK1.out; omega
                        case rel => exact ⟨(true), (t128), (false), (false), (wrap64 (x7_1 + 1)), (by first | rfl | (simp; done) | (simp [*]; done)), (by first | rfl | (simp; done) | (simp [*]; done)), (by first | rfl | (simp; done) | (simp [*]; done)), (by first | rfl | (simp; done) | (simp [*]; done)), (by first | rfl | (simp; done) | (simp [*]; done)), H', ⟨by have := HK1.out; omega⟩, ⟨by repeat (first | (with_reducible first | exact HB.out | apply below_alloc | apply pw_below_drewN | apply below_drew1) | exact HB.out)⟩⟩
                  · replace c13 := Bool.eq_false_iff.mpr c13
                    subst c13
                    have H1 : (if x5_1 = true then ((ontimeref11_space.f (bt a0 x7_1)).bind fun t130 => (if x6_1 = true then (ontimeref11_kind.l0 k1 a0 true false t130 ((bt a0 x7_1) != 10) (wrap64 (x7_1 + 1))) else (ontimeref11_kind.l0 k1 a0 true false t130 false (wrap64 (x7_1 + 1))))) else (if x6_1 = true then (ontimeref11_kind.l0 k1 a0 true false false ((bt a0 x7_1) != 10) (wrap64 (x7_1 + 1))) else (ontimeref11_kind.l0 k1 a0 true false false false (wrap64 (x7_1 + 1))))) = some r := by rw [if_neg (show ¬ (false = true) by decide)] at H; exact H
                    clear H
                    have H := H1
                    clear H1
                    by_cases c23 : x5_1 = true
                    · subst c23
                      have H1 : ((ontimeref11_space.f (bt a0 x7_1)).bind fun t130 => (if x6_1 = true then (ontimeref11_kind.l0 k1 a0 true false t130 ((bt a0 x7_1) != 10) (wrap64 (x7_1 + 1))) else (ontimeref11_kind.l0 k1 a0 true false t130 false (wrap64 (x7_1 + 1))))) = some r := by rw [if_pos rfl] at H; exact H
                      clear H
                      have H := H1
                      clear H1
                      replace H := Option.bind_eq_some_iff.mp H
                      obtain ⟨t130, A250, H⟩ := H
                      replace H : (if x6_1 = true then (ontimeref11_kind.l0 k1 a0 true false t130 ((bt a0 x7_1) != 10) (wrap64 (x7_1 + 1))) else (ontimeref11_kind.l0 k1 a0 true false t130 false (wrap64 (x7_1 + 1)))) = some r := H
                      have A25 := Aside0.mk A250
                      clear A250
                      by_cases c26 : x6_1 = true
                      · subst c26
                        have H1 : (ontimeref11_kind.l0 k1 a0 true false t130 ((bt a0 x7_1) != 10) (wrap64 (x7_1 + 1))) = some r := by rw [if_pos rfl] at H; exact H
                        clear H
                        have H := H1
                        clear H1
                        have H' := Aside0.mk H
                        clear H
                        have p10 : 0 ≤ (x7_1 : Int) := of_decide_eq_true (by first | (with_reducible assumption) | assumption)
                        have q10 : x7_1 < (a0.size : Int) := of_decide_eq_true (by first | (with_reducible assumption) | assumption)
                        have hx10 := bt_at a0 x7_1
                        replace p10 := eq_true p10
                        replace q10 := eq_true q10
                        go_wp2_with (first | (go_at_call 41; (with_reducible refine (ontimeref11_letter.calls (bt a0 x7_1) true _ A11.out).mono ?_); rintro e w' ⟨rfl, ⟨nd, rfl⟩⟩; (try first | exact ⟨rfl, _, World.drewN_drewN _ _ _⟩ | exact ⟨rfl, _, Eq.trans (World.drewN_drewN _ _ _) (congrArg (World.drewN _) (Nat.add_assoc _ _ _))⟩); have p24 : 0 ≤ (x7_1 : Int) := of_decide_eq_true (by first | (with_reducible assumption) | assumption); have q24 : x7_1 < (a0.size : Int) := of_decide_eq_true (by first | (with_reducible assumption) | assumption); have hx24 := bt_at a0 x7_1; replace p24 := eq_true p24; replace q24 := eq_true q24) | (go_at_call 43; (with_reducible refine (ontimeref11_space.calls (bt a0 x7_1) t130 _ A25.out).mono ?_); rintro e w' ⟨rfl, ⟨nd, rfl⟩⟩; (try first | exact ⟨rfl, _, World.drewN_drewN _ _ _⟩ | exact ⟨rfl, _, Eq.trans (World.drewN_drewN _ _ _) (congrArg (World.drewN _) (Nat.add_assoc _ _ _))⟩); have p27 : 0 ≤ (x7_1 : Int) := of_decide_eq_true (by first | (with_reducible assumption) | assumption); have q27 : x7_1 < (a0.size : Int) := of_decide_eq_true (by first | (with_reducible assumption) | assumption); have hx27 := bt_at a0 x7_1; replace p27 := eq_true p27; replace q27 := eq_true q27))
                        repeat (go_quiet (first | (go_at_call 41; (with_reducible refine (ontimeref11_letter.calls (bt a0 x7_1) true _ A11.out).mono ?_); rintro e w' ⟨rfl, ⟨nd, rfl⟩⟩; (try first | exact ⟨rfl, _, World.drewN_drewN _ _ _⟩ | exact ⟨rfl, _, Eq.trans (World.drewN_drewN _ _ _) (congrArg (World.drewN _) (Nat.add_assoc _ _ _))⟩); have p24 : 0 ≤ (x7_1 : Int) := of_decide_eq_true (by first | (with_reducible assumption) | assumption); have q24 : x7_1 < (a0.size : Int) := of_decide_eq_true (by first | (with_reducible assumption) | assumption); have hx24 := bt_at a0 x7_1; replace p24 := eq_true p24; replace q24 := eq_true q24) | (go_at_call 43; (with_reducible refine (ontimeref11_space.calls (bt a0 x7_1) t130 _ A25.out).mono ?_); rintro e w' ⟨rfl, ⟨nd, rfl⟩⟩; (try first | exact ⟨rfl, _, World.drewN_drewN _ _ _⟩ | exact ⟨rfl, _, Eq.trans (World.drewN_drewN _ _ _) (congrArg (World.drewN _) (Nat.add_assoc _ _ _))⟩); have p27 : 0 ≤ (x7_1 : Int) := of_decide_eq_true (by first | (with_reducible assumption) | assumption); have q27 : x7_1 < (a0.size : Int) := of_decide_eq_true (by first | (with_reducible assumption) | assumption); have hx27 := bt_at a0 x7_1; replace p27 := eq_true p27; replace q27 := eq_true q27)); try go_wp2_with (first | (go_at_call 41; (with_reducible refine (ontimeref11_letter.calls (bt a0 x7_1) true _ A11.out).mono ?_); rintro e w' ⟨rfl, ⟨nd, rfl⟩⟩; (try first | exact ⟨rfl, _, World.drewN_drewN _ _ _⟩ | exact ⟨rfl, _, Eq.trans (World.drewN_drewN _ _ _) (congrArg (World.drewN _) (Nat.add_assoc _ _ _))⟩); have p24 : 0 ≤ (x7_1 : Int) := of_decide_eq_true (by first | (with_reducible assumption) | assumption); have q24 : x7_1 < (a0.size : Int) := of_decide_eq_true (by first | (with_reducible assumption) | assumption); have hx24 := bt_at a0 x7_1; replace p24 := eq_true p24; replace q24 := eq_true q24) | (go_at_call 43; (with_reducible refine (ontimeref11_space.calls (bt a0 x7_1) t130 _ A25.out).mono ?_); rintro e w' ⟨rfl, ⟨nd, rfl⟩⟩; (try first | exact ⟨rfl, _, World.drewN_drewN _ _ _⟩ | exact ⟨rfl, _, Eq.trans (World.drewN_drewN _ _ _) (congrArg (World.drewN _) (Nat.add_assoc _ _ _))⟩); have p27 : 0 ≤ (x7_1 : Int) := of_decide_eq_true (by first | (with_reducible assumption) | assumption); have q27 : x7_1 < (a0.size : Int) := of_decide_eq_true (by first | (with_reducible assumption) | assumption); have hx27 := bt_at a0 x7_1; replace p27 := eq_true p27; replace q27 := eq_true q27)))
                        go_roundg k1
                        case measure => have := HK1.out; omega
                        case rel => exact ⟨(true), (false), (t130), (((bt a0 x7_1) != 10)), (wrap64 (x7_1 + 1)), (by first | rfl | (simp; done) | (simp [*]; done)), (by first | rfl | (simp; done) | (simp [*]; done)), (by first | rfl | (simp; done) | (simp [*]; done)), (by first | rfl | (simp; done) | (simp [*]; done)), (by first | rfl | (simp; done) | (simp [*]; done)), H', ⟨by have := HK1.out; omega⟩, ⟨by repeat (first | (with_reducible first | exact HB.out | apply below_alloc | apply pw_below_drewN | apply below_drew1) | exact HB.out)⟩⟩
                      · replace c26 := Bool.eq_false_iff.mpr c26
                        subst c26
                        have H1 : (ontimeref11_kind.l0 k1 a0 true false t130 false (wrap64 (x7_1 + 1))) = some r := by rw [if_neg (show ¬ (false = true) by decide)] at H; exact H
                        clear H
                        have H := H1
                        clear H1
                        have H' := Aside0.mk H
                        clear H
                        have p10 : 0 ≤ (x7_1 : Int) := of_decide_eq_true (by first | (with_reducible assumption) | assumption)
                        have q10 : x7_1 < (a0.size : Int) := of_decide_eq_true (by first | (with_reducible assumption) | assumption)
                        have hx10 := bt_at a0 x7_1
                        replace p10 := eq_true p10
                        replace q10 := eq_true q10
                        go_wp2_with (first | (go_at_call 41; (with_reducible refine (ontimeref11_letter.calls (bt a0 x7_1) true _ A11.out).mono ?_); rintro e w' ⟨rfl, ⟨nd, rfl⟩⟩; (try first | exact ⟨rfl, _, World.drewN_drewN _ _ _⟩ | exact ⟨rfl, _, Eq.trans (World.drewN_drewN _ _ _) (congrArg (World.drewN _) (Nat.add_assoc _ _ _))⟩); have p24 : 0 ≤ (x7_1 : Int) := of_decide_eq_true (by first | (with_reducible assumption) | assumption); have q24 : x7_1 < (a0.size : Int) := of_decide_eq_true (by first | (with_reducible assumption) | assumption); have hx24 := bt_at a0 x7_1; replace p24 := eq_true p24; replace q24 := eq_true q24) | (go_at_call 43; (with_reducible refine (ontimeref11_space.calls (bt a0 x7_1) t130 _ A25.out).mono ?_); rintro e w' ⟨rfl, ⟨nd, rfl⟩⟩; (try first | exact ⟨rfl, _, World.drewN_drewN _ _ _⟩ | exact ⟨rfl, _, Eq.trans (World.drewN_drewN _ _ _) (congrArg (World.drewN _) (Nat.add_assoc _ _ _))⟩)))
                        repeat (go_quiet (first | (go_at_call 41; (with_reducible refine (ontimeref11_letter.calls (bt a0 x7_1) true _ A11.out).mono ?_); rintro e w' ⟨rfl, ⟨nd, rfl⟩⟩; (try first | exact ⟨rfl, _, World.drewN_drewN _ _ _⟩ | exact ⟨rfl, _, Eq.trans (World.drewN_drewN _ _ _) (congrArg (World.drewN _) (Nat.add_assoc _ _ _))⟩); have p24 : 0 ≤ (x7_1 : Int) := of_decide_eq_true (by first | (with_reducible assumption) | assumption); have q24 : x7_1 < (a0.size : Int) := of_decide_eq_true (by first | (with_reducible assumption) | assumption); have hx24 := bt_at a0 x7_1; replace p24 := eq_true p24; replace q24 := eq_true q24) | (go_at_call 43; (with_reducible refine (ontimeref11_space.calls (bt a0 x7_1) t130 _ A25.out).mono ?_); rintro e w' ⟨rfl, ⟨nd, rfl⟩⟩; (try first | exact ⟨rfl, _, World.drewN_drewN _ _ _⟩ | exact ⟨rfl, _, Eq.trans (World.drewN_drewN _ _ _) (congrArg (World.drewN _) (Nat.add_assoc _ _ _))⟩))); try go_wp2_with (first | (go_at_call 41; (with_reducible refine (ontimeref11_letter.calls (bt a0 x7_1) true _ A11.out).mono ?_); rintro e w' ⟨rfl, ⟨nd, rfl⟩⟩; (try first | exact ⟨rfl, _, World.drewN_drewN _ _ _⟩ | exact ⟨rfl, _, Eq.trans (World.drewN_drewN _ _ _) (congrArg (World.drewN _) (Nat.add_assoc _ _ _))⟩); have p24 : 0 ≤ (x7_1 : Int) := of_decide_eq_true (by first | (with_reducible assumption) | assumption); have q24 : x7_1 < (a0.size : Int) := of_decide_eq_true (by first | (with_reducible assumption) | assumption); have hx24 := bt_at a0 x7_1; replace p24 := eq_true p24; replace q24 := eq_true q24) | (go_at_call 43; (with_reducible refine (ontimeref11_space.calls (bt a0 x7_1) t130 _ A25.out).mono ?_); rintro e w' ⟨rfl, ⟨nd, rfl⟩⟩; (try first | exact ⟨rfl, _, World.drewN_drewN _ _ _⟩ | exact ⟨rfl, _, Eq.trans (World.drewN_drewN _ _ _) (congrArg (World.drewN _) (Nat.add_assoc _ _ _))⟩))))
                        go_roundg k1
                        case measure => have := HK1.out; omega
                        case rel => exact ⟨(true), (false), (t130), (false), (wrap64 (x7_1 + 1)), (by first | rfl | (simp; done) | (simp [*]; done)), (by first | rfl | (simp; done) | (simp [*]; done)), (by first | rfl | (simp; done) | (simp [*]; done)), (by first | rfl | (simp; done) | (simp [*]; done)), (by first | rfl | (simp; done) | (simp [*]; done)), H', ⟨by have := HK1.out; omega⟩, ⟨by repeat (first | (with_reducible first | exact HB.out | apply below_alloc | apply pw_below_drewN | apply below_drew1) | exact HB.out)⟩⟩
                    · replace c23 := Bool.eq_false_iff.mpr c23
                      subst c23
                      have H1 : (if x6_1 = true then (ontimeref11_kind.l0 k1 a0 true false false ((bt a0 x7_1) != 10) (wrap64 (x7_1 + 1))) else (ontimeref11_kind.l0 k1 a0 true false false false (wrap64 (x7_1 + 1)))) = some r := by rw [if_neg (show ¬ (false = true) by decide)] at H; exact H
                      clear H
                      have H := H1
                      clear H1
                      by_cases c28 : x6_1 = true
                      · subst c28
                        have H1 : (ontimeref11_kind.l0 k1 a0 true false false ((bt a0 x7_1) != 10) (wrap64 (x7_1 + 1))) = some r := by rw [if_pos rfl] at H; exact H
                        clear H
                        have H := H1
                        clear H1
                        have H' := Aside0.mk H
                        clear H
                        have p10 : 0 ≤ (x7_1 : Int) := of_decide_eq_true (by first | (with_reducible assumption) | assumption)
                        have q10 : x7_1 < (a0.size : Int) := of_decide_eq_true (by first | (with_reducible assumption) | assumption)
                        have hx10 := bt_at a0 x7_1
                        replace p10 := eq_true p10
                        replace q10 := eq_true q10
                        go_wp2_with (first | (go_at_call 41; (with_reducible refine (ontimeref11_letter.calls (bt a0 x7_1) true _ A11.out).mono ?_); rintro e w' ⟨rfl, ⟨nd, rfl⟩⟩; (try first | exact ⟨rfl, _, World.drewN_drewN _ _ _⟩ | exact ⟨rfl, _, Eq.trans (World.drewN_drewN _ _ _) (congrArg (World.drewN _) (Nat.add_assoc _ _ _))⟩); have p29 : 0 ≤ (x7_1 : Int) := of_decide_eq_true (by first | (with_reducible assumption) | assumption); have q29 : x7_1 < (a0.size : Int) := of_decide_eq_true (by first | (with_reducible assumption) | assumption); have hx29 := bt_at a0 x7_1; replace p29 := eq_true p29; replace q29 := eq_true q29))
                        repeat (go_quiet (first | (go_at_call 41; (with_reducible refine (ontimeref11_letter.calls (bt a0 x7_1) true _ A11.out).mono ?_); rintro e w' ⟨rfl, ⟨nd, rfl⟩⟩; (try first | exact ⟨rfl, _, World.drewN_drewN _ _ _⟩ | exact ⟨rfl, _, Eq.trans (World.drewN_drewN _ _ _) (congrArg (World.drewN _) (Nat.add_assoc _ _ _))⟩); have p29 : 0 ≤ (x7_1 : Int) := of_decide_eq_true (by first | (with_reducible assumption) | assumption); have q29 : x7_1 < (a0.size : Int) := of_decide_eq_true (by first | (with_reducible assumption) | assumption); have hx29 := bt_at a0 x7_1; replace p29 := eq_true p29; replace q29 := eq_true q29)); try go_wp2_with (first | (go_at_call 41; (with_reducible refine (ontimeref11_letter.calls (bt a0 x7_1) true _ A11.out).mono ?_); rintro e w' ⟨rfl, ⟨nd, rfl⟩⟩; (try first | exact ⟨rfl, _, World.drewN_drewN _ _ _⟩ | exact ⟨rfl, _, Eq.trans (World.drewN_drewN _ _ _) (congrArg (World.drewN _) (Nat.add_assoc _ _ _))⟩); have p29 : 0 ≤ (x7_1 : Int) := of_decide_eq_true (by first | (with_reducible assumption) | assumption); have q29 : x7_1 < (a0.size : Int) := of_decide_eq_true (by first | (with_reducible assumption) | assumption); have hx29 := bt_at a0 x7_1; replace p29 := eq_true p29; replace q29 := eq_true q29)))
                        go_roundg k1
                        case measure => have := HK1.out; omega
                        case rel => exact ⟨(true), (false), (false), (((bt a0 x7_1) != 10)), (wrap64 (x7_1 + 1)), (by first | rfl | (simp; done) | (simp [*]; done)), (by first | rfl | (simp; done) | (simp [*]; done)), (by first | rfl | (simp; done) | (simp [*]; done)), (by first | rfl | (simp; done) | (simp [*]; done)), (by first | rfl | (simp; done) | (simp [*]; done)), H', ⟨by have := HK1.out; omega⟩, ⟨by repeat (first | (with_reducible first | exact HB.out | apply below_alloc | apply pw_below_drewN | apply below_drew1) | exact HB.out)⟩⟩
                      · replace c28 := Bool.eq_false_iff.mpr c28
                        subst c28
                        have H1 : (ontimeref11_kind.l0 k1 a0 true false false false (wrap64 (x7_1 + 1))) = some r := by rw [if_neg (show ¬ (false = true) by decide)] at H; exact H
                        clear H
                        have H := H1
                        clear H1
                        have H' := Aside0.mk H
                        clear H
                        have p10 : 0 ≤ (x7_1 : Int) := of_decide_eq_true (by first | (with_reducible assumption) | assumption)
                        have q10 : x7_1 < (a0.size : Int) := of_decide_eq_true (by first | (with_reducible assumption) | assumption)
                        have hx10 := bt_at a0 x7_1
                        replace p10 := eq_true p10
                        replace q10 := eq_true q10
                        go_wp2_with (first | (go_at_call 41; (with_reducible refine (ontimeref11_letter.calls (bt a0 x7_1) true _ A11.out).mono ?_); rintro e w' ⟨rfl, ⟨nd, rfl⟩⟩; (try first | exact ⟨rfl, _, World.drewN_drewN _ _ _⟩ | exact ⟨rfl, _, Eq.trans (World.drewN_drewN _ _ _) (congrArg (World.drewN _) (Nat.add_assoc _ _ _))⟩)))
                        repeat (go_quiet (first | (go_at_call 41; (with_reducible refine (ontimeref11_letter.calls (bt a0 x7_1) true _ A11.out).mono ?_); rintro e w' ⟨rfl, ⟨nd, rfl⟩⟩; (try first | exact ⟨rfl, _, World.drewN_drewN _ _ _⟩ | exact ⟨rfl, _, Eq.trans (World.drewN_drewN _ _ _) (congrArg (World.drewN _) (Nat.add_assoc _ _ _))⟩))); try go_wp2_with (first | (go_at_call 41; (with_reducible refine (ontimeref11_letter.calls (bt a0 x7_1) true _ A11.out).mono ?_); rintro e w' ⟨rfl, ⟨nd, rfl⟩⟩; (try first | exact ⟨rfl, _, World.drewN_drewN _ _ _⟩ | exact ⟨rfl, _, Eq.trans (World.drewN_drewN _ _ _) (congrArg (World.drewN _) (Nat.add_assoc _ _ _))⟩))))
                        go_roundg k1
                        case measure => have := HK1.out; omega
                        case rel => exact ⟨(true), (false), (false), (false), (wrap64 (x7_1 + 1)), (by first | rfl | (simp; done) | (simp [*]; done)), (by first | rfl | (simp; done) | (simp [*]; done)), (by first | rfl | (simp; done) | (simp [*]; done)), (by first | rfl | (simp; done) | (simp [*]; done)), (by first | rfl | (simp; done) | (simp [*]; done)), H', ⟨by have := HK1.out; omega⟩, ⟨by repeat (first | (with_reducible first | exact HB.out | apply below_alloc | apply pw_below_drewN | apply below_drew1) | exact HB.out)⟩⟩
                · replace c12 := Bool.eq_false_iff.mpr c12
                  subst c12
                  have H1 : ((ontimeref11_digit.f (bt a0 x7_1)).bind fun t131 => (if x4_1 = true then (if x5_1 = true then ((ontimeref11_space.f (bt a0 x7_1)).bind fun t132 => (if x6_1 = true then (ontimeref11_kind.l0 k1 a0 t131 t131 t132 ((bt a0 x7_1) != 10) (wrap64 (x7_1 + 1))) else (ontimeref11_kind.l0 k1 a0 t131 t131 t132 false (wrap64 (x7_1 + 1))))) else (if x6_1 = true then (ontimeref11_kind.l0 k1 a0 t131 t131 false ((bt a0 x7_1) != 10) (wrap64 (x7_1 + 1))) else (ontimeref11_kind.l0 k1 a0 t131 t131 false false (wrap64 (x7_1 + 1))))) else (if x5_1 = true then ((ontimeref11_space.f (bt a0 x7_1)).bind fun t133 => (if x6_1 = true then (ontimeref11_kind.l0 k1 a0 t131 false t133 ((bt a0 x7_1) != 10) (wrap64 (x7_1 + 1))) else (ontimeref11_kind.l0 k1 a0 t131 false t133 false (wrap64 (x7_1 + 1))))) else (if x6_1 = true then (ontimeref11_kind.l0 k1 a0 t131 false false ((bt a0 x7_1) != 10) (wrap64 (x7_1 + 1))) else (ontimeref11_kind.l0 k1 a0 t131 false false false (wrap64 (x7_1 + 1))))))) = some r := by rw [if_neg (show ¬ (false = true) by decide)] at H; exact H
                  clear H
                  have H := H1
                  clear H1
                  replace H := Option.bind_eq_some_iff.mp H
                  obtain ⟨t131, A310, H⟩ := H
                  replace H : (if x4_1 = true then (if x5_1 = true then ((ontimeref11_space.f (bt a0 x7_1)).bind fun t132 => (if x6_1 = true then (ontimeref11_kind.l0 k1 a0 t131 t131 t132 ((bt a0 x7_1) != 10) (wrap64 (x7_1 + 1))) else (ontimeref11_kind.l0 k1 a0 t131 t131 t132 false (wrap64 (x7_1 + 1))))) else (if x6_1 = true then (ontimeref11_kind.l0 k1 a0 t131 t131 false ((bt a0 x7_1) != 10) (wrap64 (x7_1 + 1))) else (ontimeref11_kind.l0 k1 a0 t131 t131 false false (wrap64 (x7_1 + 1))))) else (if x5_1 = true then ((ontimeref11_space.f (bt a0 x7_1)).bind fun t133 => (if x6_1 = true then (ontimeref11_kind.l0 k1 a0 t131 false t133 ((bt a0 x7_1) != 10) (wrap64 (x7_1 + 1))) else (ontimeref11_kind.l0 k1 a0 t131 false t133 false (wrap64 (x7_1 + 1))))) else (if x6_1 = true then (ontimeref11_kind.l0 k1 a0 t131 false false ((bt a0 x7_1) != 10) (wrap64 (x7_1 + 1))) else (ontimeref11_kind.l0 k1 a0 t131 false false false (wrap64 (x7_1 + 1)))))) = some r := H
                  have A31 := Aside0.mk A310
                  clear A310
                  by_cases c32 : x4_1 = true
                  · subst c32
                    have H1 : (if x5_1 = true then ((ontimeref11_space.f (bt a0 x7_1)).bind fun t132 => (if x6_1 = true then (ontimeref11_kind.l0 k1 a0 t131 t131 t132 ((bt a0 x7_1) != 10) (wrap64 (x7_1 + 1))) else (ontimeref11_kind.l0 k1 a0 t131 t131 t132 false (wrap64 (x7_1 + 1))))) else (if x6_1 = true then (ontimeref11_kind.l0 k1 a0 t131 t131 false ((bt a0 x7_1) != 10) (wrap64 (x7_1 + 1))) else (ontimeref11_kind.l0 k1 a0 t131 t131 false false (wrap64 (x7_1 + 1))))) = some r := by rw [if_pos rfl] at H; exact H
                    clear H
                    have H := H1
                    clear H1
                    by_cases c34 : x5_1 = true
                    · subst c34
                      have H1 : ((ontimeref11_space.f (bt a0 x7_1)).bind fun t132 => (if x6_1 = true then (ontimeref11_kind.l0 k1 a0 t131 t131 t132 ((bt a0 x7_1) != 10) (wrap64 (x7_1 + 1))) else (ontimeref11_kind.l0 k1 a0 t131 t131 t132 false (wrap64 (x7_1 + 1))))) = some r := by rw [if_pos rfl] at H; exact H
                      clear H
                      have H := H1
                      clear H1
                      replace H := Option.bind_eq_some_iff.mp H
                      obtain ⟨t132, A360, H⟩ := H
                      replace H : (if x6_1 = true then (ontimeref11_kind.l0 k1 a0 t131 t131 t132 ((bt a0 x7_1) != 10) (wrap64 (x7_1 + 1))) else (ontimeref11_kind.l0 k1 a0 t131 t131 t132 false (wrap64 (x7_1 + 1)))) = some r := H
                      have A36 := Aside0.mk A360
                      clear A360
                      by_cases c37 : x6_1 = true
                      · subst c37
                        have H1 : (ontimeref11_kind.l0 k1 a0 t131 t131 t132 ((bt a0 x7_1) != 10) (wrap64 (x7_1 + 1))) = some r := by rw [if_pos rfl] at H; exact H
                        clear H
                        have H := H1
                        clear H1
                        have H' := Aside0.mk H
                        clear H
                        have p10 : 0 ≤ (x7_1 : Int) := of_decide_eq_true (by first | (with_reducible assumption) | assumption)
                        have q10 : x7_1 < (a0.size : Int) := of_decide_eq_true (by first | (with_reducible assumption) | assumption)
                        have hx10 := bt_at a0 x7_1
                        replace p10 := eq_true p10
                        replace q10 := eq_true q10
                        go_wp2_with (first | (go_at_call 41; (with_reducible refine (ontimeref11_letter.calls (bt a0 x7_1) false _ A11.out).mono ?_); rintro e w' ⟨rfl, ⟨nd, rfl⟩⟩; (try first | exact ⟨rfl, _, World.drewN_drewN _ _ _⟩ | exact ⟨rfl, _, Eq.trans (World.drewN_drewN _ _ _) (congrArg (World.drewN _) (Nat.add_assoc _ _ _))⟩); have p30 : 0 ≤ (x7_1 : Int) := of_decide_eq_true (by first | (with_reducible assumption) | assumption); have q30 : x7_1 < (a0.size : Int) := of_decide_eq_true (by first | (with_reducible assumption) | assumption); have hx30 := bt_at a0 x7_1; replace p30 := eq_true p30; replace q30 := eq_true q30) | (go_at_call 42; (with_reducible refine (ontimeref11_digit.calls (bt a0 x7_1) t131 _ A31.out).mono ?_); rintro e w' ⟨rfl, ⟨nd, rfl⟩⟩; (try first | exact ⟨rfl, _, World.drewN_drewN _ _ _⟩ | exact ⟨rfl, _, Eq.trans (World.drewN_drewN _ _ _) (congrArg (World.drewN _) (Nat.add_assoc _ _ _))⟩); have p33 : 0 ≤ (x7_1 : Int) := of_decide_eq_true (by first | (with_reducible assumption) | assumption); have q33 : x7_1 < (a0.size : Int) := of_decide_eq_true (by first | (with_reducible assumption) | assumption); have hx33 := bt_at a0 x7_1; replace p33 := eq_true p33; replace q33 := eq_true q33; have p35 : 0 ≤ (x7_1 : Int) := of_decide_eq_true (by first | (with_reducible assumption) | assumption); have q35 : x7_1 < (a0.size : Int) := of_decide_eq_true (by first | (with_reducible assumption) | assumption); have hx35 := bt_at a0 x7_1; replace p35 := eq_true p35; replace q35 := eq_true q35) | (go_at_call 43; (with_reducible refine (ontimeref11_space.calls (bt a0 x7_1) t132 _ A36.out).mono ?_); rintro e w' ⟨rfl, ⟨nd, rfl⟩⟩; (try first | exact ⟨rfl, _, World.drewN_drewN _ _ _⟩ | exact ⟨rfl, _, Eq.trans (World.drewN_drewN _ _ _) (congrArg (World.drewN _) (Nat.add_assoc _ _ _))⟩); have p38 : 0 ≤ (x7_1 : Int) := of_decide_eq_true (by first | (with_reducible assumption) | assumption); have q38 : x7_1 < (a0.size : Int) := of_decide_eq_true (by first | (with_reducible assumption) | assumption); have hx38 := bt_at a0 x7_1; replace p38 := eq_true p38; replace q38 := eq_true q38))
                        repeat (go_quiet (first | (go_at_call 41; (with_reducible refine (ontimeref11_letter.calls (bt a0 x7_1) false _ A11.out).mono ?_); rintro e w' ⟨rfl, ⟨nd, rfl⟩⟩; (try first | exact ⟨rfl, _, World.drewN_drewN _ _ _⟩ | exact ⟨rfl, _, Eq.trans (World.drewN_drewN _ _ _) (congrArg (World.drewN _) (Nat.add_assoc _ _ _))⟩); have p30 : 0 ≤ (x7_1 : Int) := of_decide_eq_true (by first | (with_reducible assumption) | assumption); have q30 : x7_1 < (a0.size : Int) := of_decide_eq_true (by first | (with_reducible assumption) | assumption); have hx30 := bt_at a0 x7_1; replace p30 := eq_true p30; replace q30 := eq_true q30) | (go_at_call 42; (with_reducible refine (ontimeref11_digit.calls (bt a0 x7_1) t131 _ A31.out).mono ?_); rintro e w' ⟨rfl, ⟨nd, rfl⟩⟩; (try first | exact ⟨rfl, _, World.drewN_drewN _ _ _⟩ | exact ⟨rfl, _, Eq.trans (World.drewN_drewN _ _ _) (congrArg (World.drewN _) (Nat.add_assoc _ _ _))⟩); have p33 : 0 ≤ (x7_1 : Int) := of_decide_eq_true (by first | (with_reducible assumption) | assumption); have q33 : x7_1 < (a0.size : Int) := of_decide_eq_true (by first | (with_reducible assumption) | assumption); have hx33 := bt_at a0 x7_1; replace p33 := eq_true p33; replace q33 := eq_true q33; have p35 : 0 ≤ (x7_1 : Int) := of_decide_eq_true (by first | (with_reducible assumption) | assumption); have q35 : x7_1 < (a0.size : Int) := of_decide_eq_true (by first | (with_reducible assumption) | assumption); have hx35 := bt_at a0 x7_1; replace p35 := eq_true p35; replace q35 := eq_true q35) | (go_at_call 43; (with_reducible refine (ontimeref11_space.calls (bt a0 x7_1) t132 _ A36.out).mono ?_); rintro e w' ⟨rfl, ⟨nd, rfl⟩⟩; (try first | exact ⟨rfl, _, World.drewN_drewN _ _ _⟩ | exact ⟨rfl, _, Eq.trans (World.drewN_drewN _ _ _) (congrArg (World.drewN _) (Nat.add_assoc _ _ _))⟩); have p38 : 0 ≤ (x7_1 : Int) := of_decide_eq_true (by first | (with_reducible assumption) | assumption); have q38 : x7_1 < (a0.size : Int) := of_decide_eq_true (by first | (with_reducible assumption) | assumption); have hx38 := bt_at a0 x7_1; replace p38 := eq_true p38; replace q38 := eq_true q38)); try go_wp2_with (first | (go_at_call 41; (with_reducible refine (ontimeref11_letter.calls (bt a0 x7_1) false _ A11.out).mono ?_); rintro e w' ⟨rfl, ⟨nd, rfl⟩⟩; (try first | exact ⟨rfl, _, World.drewN_drewN _ _ _⟩ | exact ⟨rfl, _, Eq.trans (World.drewN_drewN _ _ _) (congrArg (World.drewN _) (Nat.add_assoc _ _ _))⟩); have p30 : 0 ≤ (x7_1 : Int) := of_decide_eq_true (by first | (with_reducible assumption) | assumption); have q30 : x7_1 < (a0.size : Int) := of_decide_eq_true (by first | (with_reducible assumption) | assumption); have hx30 := bt_at a0 x7_1; replace p30 := eq_true p30; replace q30 := eq_true q30) | (go_at_call 42; (with_reducible refine (ontimeref11_digit.calls (bt a0 x7_1) t131 _ A31.out).mono ?_); rintro e w' ⟨rfl, ⟨nd, rfl⟩⟩; (try first | exact ⟨rfl, _, World.drewN_drewN _ _ _⟩ | exact ⟨rfl, _, Eq.trans (World.drewN_drewN _ _ _) (congrArg (World.drewN _) (Nat.add_assoc _ _ _))⟩); have p33 : 0 ≤ (x7_1 : Int) := of_decide_eq_true (by first | (with_reducible assumption) | assumption); have q33 : x7_1 < (a0.size : Int) := of_decide_eq_true (by first | (with_reducible assumption) | assumption); have hx33 := bt_at a0 x7_1; replace p33 := eq_true p33; replace q33 := eq_true q33; have p35 : 0 ≤ (x7_1 : Int) := of_decide_eq_true (by first | (with_reducible assumption) | assumption); have q35 : x7_1 < (a0.size : Int) := of_decide_eq_true (by first | (with_reducible assumption) | assumption); have hx35 := bt_at a0 x7_1; replace p35 := eq_true p35; replace q35 := eq_true q35) | (go_at_call 43; (with_reducible refine (ontimeref11_space.calls (bt a0 x7_1) t132 _ A36.out).mono ?_); rintro e w' ⟨rfl, ⟨nd, rfl⟩⟩; (try first | exact ⟨rfl, _, World.drewN_drewN _ _ _⟩ | exact ⟨rfl, _, Eq.trans (World.drewN_drewN _ _ _) (congrArg (World.drewN _) (Nat.add_assoc _ _ _))⟩); have p38 : 0 ≤ (x7_1 : Int) := of_decide_eq_true (by first | (with_reducible assumption) | assumption); have q38 : x7_1 < (a0.size : Int) := of_decide_eq_true (by first | (with_reducible assumption) | assumption); have hx38 := bt_at a0 x7_1; replace p38 := eq_true p38; replace q38 := eq_true q38)))
                        go_roundg k1
                        case measure => have := HK1.out; omega
                        case rel => exact ⟨(t131), (t131), (t132), (((bt a0 x7_1) != 10)), (wrap64 (x7_1 + 1)), (by first | rfl | (simp; done) | (simp [*]; done)), (by first | rfl | (simp; done) | (simp [*]; done)), (by first | rfl | (simp; done) | (simp [*]; done)), (by first | rfl | (simp; done) | (simp [*]; done)), (by first | rfl | (simp; done) | (simp [*]; done)), H', ⟨by have := HK1.out; omega⟩, ⟨by repeat (first | (with_reducible first | exact HB.out | apply below_alloc | apply pw_below_drewN | apply below_drew1) | exact HB.out)⟩⟩
                      · replace c37 := Bool.eq_false_iff.mpr c37
                        subst c37
                        have H1 : (ontimeref11_kind.l0 k1 a0 t131 t131 t132 false (wrap64 (x7_1 + 1))) = some r := by rw [if_neg (show ¬ (false = true) by decide)] at H; exact H
                        clear H
                        have H := H1
                        clear H1
                        have H' := Aside0.mk H
                        clear H
                        have p10 : 0 ≤ (x7_1 : Int) := of_decide_eq_true (by first | (with_reducible assumption) | assumption)
                        have q10 : x7_1 < (a0.size : Int) := of_decide_eq_true (by first | (with_reducible assumption) | assumption)
                        have hx10 := bt_at a0 x7_1
                        replace p10 := eq_true p10
                        replace q10 := eq_true q10
                        go_wp2_with (first | (go_at_call 41; (with_reducible refine (ontimeref11_letter.calls (bt a0 x7_1) false _ A11.out).mono ?_); rintro e w' ⟨rfl, ⟨nd, rfl⟩⟩; (try first | exact ⟨rfl, _, World.drewN_drewN _ _ _⟩ | exact ⟨rfl, _, Eq.trans (World.drewN_drewN _ _ _) (congrArg (World.drewN _) (Nat.add_assoc _ _ _))⟩); have p30 : 0 ≤ (x7_1 : Int) := of_decide_eq_true (by first | (with_reducible assumption) | assumption); have q30 : x7_1 < (a0.size : Int) := of_decide_eq_true (by first | (with_reducible assumption) | assumption); have hx30 := bt_at a0 x7_1; replace p30 := eq_true p30; replace q30 := eq_true q30) | (go_at_call 42; (with_reducible refine (ontimeref11_digit.calls (bt a0 x7_1) t131 _ A31.out).mono ?_); rintro e w' ⟨rfl, ⟨nd, rfl⟩⟩; (try first | exact ⟨rfl, _, World.drewN_drewN _ _ _⟩ | exact ⟨rfl, _, Eq.trans (World.drewN_drewN _ _ _) (congrArg (World.drewN _) (Nat.add_assoc _ _ _))⟩); have p33 : 0 ≤ (x7_1 : Int) := of_decide_eq_true (by first | (with_reducible assumption) | assumption); have q33 : x7_1 < (a0.size : Int) := of_decide_eq_true (by first | (with_reducible assumption) | assumption); have hx33 := bt_at a0 x7_1; replace p33 := eq_true p33; replace q33 := eq_true q33; have p35 : 0 ≤ (x7_1 : Int) := of_decide_eq_true (by first | (with_reducible assumption) | assumption); have q35 : x7_1 < (a0.size : Int) := of_decide_eq_true (by first | (with_reducible assumption) | assumption); have hx35 := bt_at a0 x7_1; replace p35 := eq_true p35; replace q35 := eq_true q35) | (go_at_call 43; (with_reducible refine (ontimeref11_space.calls (bt a0 x7_1) t132 _ A36.out).mono ?_); rintro e w' ⟨rfl, ⟨nd, rfl⟩⟩; (try first | exact ⟨rfl, _, World.drewN_drewN _ _ _⟩ | exact ⟨rfl, _, Eq.trans (World.drewN_drewN _ _ _) (congrArg (World.drewN _) (Nat.add_assoc _ _ _))⟩)))
                        repeat (go_quiet (first | (go_at_call 41; (with_reducible refine (ontimeref11_letter.calls (bt a0 x7_1) false _ A11.out).mono ?_); rintro e w' ⟨rfl, ⟨nd, rfl⟩⟩; (try first | exact ⟨rfl, _, World.drewN_drewN _ _ _⟩ | exact ⟨rfl, _, Eq.trans (World.drewN_drewN _ _ _) (congrArg (World.drewN _) (Nat.add_assoc _ _ _))⟩); have p30 : 0 ≤ (x7_1 : Int) := of_decide_eq_true (by first | (with_reducible assumption) | assumption); have q30 : x7_1 < (a0.size : Int) := of_decide_eq_true (by first | (with_reducible assumption) | assumption); have hx30 := bt_at a0 x7_1; replace p30 := eq_true p30; replace q30 := eq_true q30) | (go_at_call 42; (with_reducible refine (ontimeref11_digit.calls (bt a0 x7_1) t131 _ A31.out).mono ?_); rintro e w' ⟨rfl, ⟨nd, rfl⟩⟩; (try first | exact ⟨rfl, _, World.drewN_drewN _ _ _⟩ | exact ⟨rfl, _, Eq.trans (World.drewN_drewN _ _ _) (congrArg (World.drewN _) (Nat.add_assoc _ _ _))⟩); have p33 : 0 ≤ (x7_1 : Int) := of_decide_eq_true (by first | (with_reducible assumption) | assumption); have q33 : x7_1 < (a0.size : Int) := of_decide_eq_true (by first | (with_reducible assumption) | assumption); have hx33 := bt_at a0 x7_1; replace p33 := eq_true p33; replace q33 := eq_true q33; have p35 : 0 ≤ (x7_1 : Int) := of_decide_eq_true (by first | (with_reducible assumption) | assumption); have q35 : x7_1 < (a0.size : Int) := of_decide_eq_true (by first | (with_reducible assumption) | assumption); have hx35 := bt_at a0 x7_1; replace p35 := eq_true p35; replace q35 := eq_true q35) | (go_at_call 43; (with_reducible refine (ontimeref11_space.calls (bt a0 x7_1) t132 _ A36.out).mono ?_); rintro e w' ⟨rfl, ⟨nd, rfl⟩⟩; (try first | exact ⟨rfl, _, World.drewN_drewN _ _ _⟩ | exact ⟨rfl, _, Eq.trans (World.drewN_drewN _ _ _) (congrArg (World.drewN _) (Nat.add_assoc _ _ _))⟩))); try go_wp2_with (first | (go_at_call 41; (with_reducible refine (ontimeref11_letter.calls (bt a0 x7_1) false _ A11.out).mono ?_); rintro e w' ⟨rfl, ⟨nd, rfl⟩⟩; (try first | exact ⟨rfl, _, World.drewN_drewN _ _ _⟩ | exact ⟨rfl, _, Eq.trans (World.drewN_drewN _ _ _) (congrArg (World.drewN _) (Nat.add_assoc _ _ _))⟩); have p30 : 0 ≤ (x7_1 : Int) := of_decide_eq_true (by first | (with_reducible assumption) | assumption); have q30 : x7_1 < (a0.size : Int) := of_decide_eq_true (by first | (with_reducible assumption) | assumption); have hx30 := bt_at a0 x7_1; replace p30 := eq_true p30; replace q30 := eq_true q30) | (go_at_call 42; (with_reducible refine (ontimeref11_digit.calls (bt a0 x7_1) t131 _ A31.out).mono ?_); rintro e w' ⟨rfl, ⟨nd, rfl⟩⟩; (try first | exact ⟨rfl, _, World.drewN_drewN _ _ _⟩ | exact ⟨rfl, _, Eq.trans (World.drewN_drewN _ _ _) (congrArg (World.drewN _) (Nat.add_assoc _ _ _))⟩); have p33 : 0 ≤ (x7_1 : Int) := of_decide_eq_true (by first | (with_reducible assumption) | assumption); have q33 : x7_1 < (a0.size : Int) := of_decide_eq_true (by first | (with_reducible assumption) | assumption); have hx33 := bt_at a0 x7_1; replace p33 := eq_true p33; replace q33 := eq_true q33; have p35 : 0 ≤ (x7_1 : Int) := of_decide_eq_true (by first | (with_reducible assumption) | assumption); have q35 : x7_1 < (a0.size : Int) := of_decide_eq_true (by first | (with_reducible assumption) | assumption); have hx35 := bt_at a0 x7_1; replace p35 := eq_true p35; replace q35 := eq_true q35) | (go_at_call 43; (with_reducible refine (ontimeref11_space.calls (bt a0 x7_1) t132 _ A36.out).mono ?_); rintro e w' ⟨rfl, ⟨nd, rfl⟩⟩; (try first | exact ⟨rfl, _, World.drewN_drewN _ _ _⟩ | exact ⟨rfl, _, Eq.trans (World.drewN_drewN _ _ _) (congrArg (World.drewN _) (Nat.add_assoc _ _ _))⟩))))
                        go_roundg k1
                        case measure => have := HK1.out; omega
                        case rel => exact ⟨(t131), (t131), (t132), (false), (wrap64 (x7_1 + 1)), (by first | rfl | (simp; done) | (simp [*]; done)), (by first | rfl | (simp; done) | (simp [*]; done)), (by first | rfl | (simp; done) | (simp [*]; done)), (by first | rfl | (simp; done) | (simp [*]; done)), (by first | rfl | (simp; done) | (simp [*]; done)), H', ⟨by have := HK1.out; omega⟩, ⟨by repeat (first | (with_reducible first | exact HB.out | apply below_alloc | apply pw_below_drewN | apply below_drew1) | exact HB.out)⟩⟩
                    · replace c34 := Bool.eq_false_iff.mpr c34
                      subst c34
                      have H1 : (if x6_1 = true then (ontimeref11_kind.l0 k1 a0 t131 t131 false ((bt a0 x7_1) != 10) (wrap64 (x7_1 + 1))) else (ontimeref11_kind.l0 k1 a0 t131 t131 false false (wrap64 (x7_1 + 1)))) = some r := by rw [if_neg (show ¬ (false = true) by decide)] at H; exact H
                      clear H
                      have H := H1
                      clear H1
                      by_cases c39 : x6_1 = true
                      · subst c39
                        have H1 : (ontimeref11_kind.l0 k1 a0 t131 t131 false ((bt a0 x7_1) != 10) (wrap64 (x7_1 + 1))) = some r := by rw [if_pos rfl] at H; exact H
                        clear H
                        have H := H1
                        clear H1
                        have H' := Aside0.mk H
                        clear H
                        have p10 : 0 ≤ (x7_1 : Int) := of_decide_eq_true (by first | (with_reducible assumption) | assumption)
                        have q10 : x7_1 < (a0.size : Int) := of_decide_eq_true (by first | (with_reducible assumption) | assumption)
                        have hx10 := bt_at a0 x7_1
                        replace p10 := eq_true p10
                        replace q10 := eq_true q10
                        go_wp2_with (first | (go_at_call 41; (with_reducible refine (ontimeref11_letter.calls (bt a0 x7_1) false _ A11.out).mono ?_); rintro e w' ⟨rfl, ⟨nd, rfl⟩⟩; (try first | exact ⟨rfl, _, World.drewN_drewN _ _ _⟩ | exact ⟨rfl, _, Eq.trans (World.drewN_drewN _ _ _) (congrArg (World.drewN _) (Nat.add_assoc _ _ _))⟩); have p30 : 0 ≤ (x7_1 : Int) := of_decide_eq_true (by first | (with_reducible assumption) | assumption); have q30 : x7_1 < (a0.size : Int) := of_decide_eq_true (by first | (with_reducible assumption) | assumption); have hx30 := bt_at a0 x7_1; replace p30 := eq_true p30; replace q30 := eq_true q30) | (go_at_call 42; (with_reducible refine (ontimeref11_digit.calls (bt a0 x7_1) t131 _ A31.out).mono ?_); rintro e w' ⟨rfl, ⟨nd, rfl⟩⟩; (try first | exact ⟨rfl, _, World.drewN_drewN _ _ _⟩ | exact ⟨rfl, _, Eq.trans (World.drewN_drewN _ _ _) (congrArg (World.drewN _) (Nat.add_assoc _ _ _))⟩); have p33 : 0 ≤ (x7_1 : Int) := of_decide_eq_true (by first | (with_reducible assumption) | assumption); have q33 : x7_1 < (a0.size : Int) := of_decide_eq_true (by first | (with_reducible assumption) | assumption); have hx33 := bt_at a0 x7_1; replace p33 := eq_true p33; replace q33 := eq_true q33; have p40 : 0 ≤ (x7_1 : Int) := of_decide_eq_true (by first | (with_reducible assumption) | assumption); have q40 : x7_1 < (a0.size : Int) := of_decide_eq_true (by first | (with_reducible assumption) | assumption); have hx40 := bt_at a0 x7_1; replace p40 := eq_true p40; replace q40 := eq_true q40))
                        repeat (go_quiet (first | (go_at_call 41; (with_reducible refine (ontimeref11_letter.calls (bt a0 x7_1) false _ A11.out).mono ?_); rintro e w' ⟨rfl, ⟨nd, rfl⟩⟩; (try first | exact ⟨rfl, _, World.drewN_drewN _ _ _⟩ | exact ⟨rfl, _, Eq.trans (World.drewN_drewN _ _ _) (congrArg (World.drewN _) (Nat.add_assoc _ _ _))⟩); have p30 : 0 ≤ (x7_1 : Int) := of_decide_eq_true (by first | (with_reducible assumption) | assumption); have q30 : x7_1 < (a0.size : Int) := of_decide_eq_true (by first | (with_reducible assumption) | assumption); have hx30 := bt_at a0 x7_1; replace p30 := eq_true p30; replace q30 := eq_true q30) | (go_at_call 42; (with_reducible refine (ontimeref11_digit.calls (bt a0 x7_1) t131 _ A31.out).mono ?_); rintro e w' ⟨rfl, ⟨nd, rfl⟩⟩; (try first | exact ⟨rfl, _, World.drewN_drewN _ _ _⟩ | exact ⟨rfl, _, Eq.trans (World.drewN_drewN _ _ _) (congrArg (World.drewN _) (Nat.add_assoc _ _ _))⟩); have p33 : 0 ≤ (x7_1 : Int) := of_decide_eq_true (by first | (with_reducible assumption) | assumption); have q33 : x7_1 < (a0.size : Int) := of_decide_eq_true (by first | (with_reducible assumption) | assumption); have hx33 := bt_at a0 x7_1; replace p33 := eq_true p33; replace q33 := eq_true q33; have p40 : 0 ≤ (x7_1 : Int) := of_decide_eq_true (by first | (with_reducible assumption) | assumption); have q40 : x7_1 < (a0.size : Int) := of_decide_eq_true (by first | (with_reducible assumption) | assumption); have hx40 := bt_at a0 x7_1; replace p40 := eq_true p40; replace q40 := eq_true q40)); try go_wp2_with (first | (go_at_call 41; (with_reducible refine (ontimeref11_letter.calls (bt a0 x7_1) false _ A11.out).mono ?_); rintro e w' ⟨rfl, ⟨nd, rfl⟩⟩; (try first | exact ⟨rfl, _, World.drewN_drewN _ _ _⟩ | exact ⟨rfl, _, Eq.trans (World.drewN_drewN _ _ _) (congrArg (World.drewN _) (Nat.add_assoc _ _ _))⟩); have p30 : 0 ≤ (x7_1 : Int) := of_decide_eq_true (by first | (with_reducible assumption) | assumption); have q30 : x7_1 < (a0.size : Int) := of_decide_eq_true (by first | (with_reducible assumption) | assumption); have hx30 := bt_at a0 x7_1; replace p30 := eq_true p30; replace q30 := eq_true q30) | (go_at_call 42; (with_reducible refine (ontimeref11_digit.calls (bt a0 x7_1) t131 _ A31.out).mono ?_); rintro e w' ⟨rfl, ⟨nd, rfl⟩⟩; (try first | exact ⟨rfl, _, World.drewN_drewN _ _ _⟩ | exact ⟨rfl, _, Eq.trans (World.drewN_drewN _ _ _) (congrArg (World.drewN _) (Nat.add_assoc _ _ _))⟩); have p33 : 0 ≤ (x7_1 : Int) := of_decide_eq_true (by first | (with_reducible assumption) | assumption); have q33 : x7_1 < (a0.size : Int) := of_decide_eq_true (by first | (with_reducible assumption) | assumption); have hx33 := bt_at a0 x7_1; replace p33 := eq_true p33; replace q33 := eq_true q33; have p40 : 0 ≤ (x7_1 : Int) := of_decide_eq_true (by first | (with_reducible assumption) | assumption); have q40 : x7_1 < (a0.size : Int) := of_decide_eq_true (by first | (with_reducible assumption) | assumption); have hx40 := bt_at a0 x7_1; replace p40 := eq_true p40; replace q40 := eq_true q40)))
                        go_roundg k1
                        case measure => have := HK1.out; omega
                        case rel => exact ⟨(t131), (t131), (false), (((bt a0 x7_1) != 10)), (wrap64 (x7_1 + 1)), (by first | rfl | (simp; done) | (simp [*]; done)), (by first | rfl | (simp; done) | (simp [*]; done)), (by first | rfl | (simp; done) | (simp [*]; done)), (by first | rfl | (simp; done) | (simp [*]; done)), (by first | rfl | (simp; done) | (simp [*]; done)), H', ⟨by have := HK1.out; omega⟩, ⟨by repeat (first | (with_reducible first | exact HB.out | apply below_alloc | apply pw_below_drewN | apply below_drew1) | exact HB.out)⟩⟩
                      · replace c39 := Bool.eq_false_iff.mpr c39
                        subst c39
                        have H1 : (ontimeref11_kind.l0 k1 a0 t131 t131 false false (wrap64 (x7_1 + 1))) = some r := by rw [if_neg (show ¬ (false = true) by decide)] at H; exact H
                        clear H
                        have H := H1
                        clear H1
                        have H' := Aside0.mk H
                        clear H
                        have p10 : 0 ≤ (x7_1 : Int) := of_decide_eq_true (by first | (with_reducible assumption) | assumption)
                        have q10 : x7_1 < (a0.size : Int) := of_decide_eq_true (by first | (with_reducible assumption) | assumption)
                        have hx10 := bt_at a0 x7_1
                        replace p10 := eq_true p10
                        replace q10 := eq_true q10
                        go_wp2_with (first | (go_at_call 41; (with_reducible refine (ontimeref11_letter.calls (bt a0 x7_1) false _ A11.out).mono ?_); rintro e w' ⟨rfl, ⟨nd, rfl⟩⟩; (try first | exact ⟨rfl, _, World.drewN_drewN _ _ _⟩ | exact ⟨rfl, _, Eq.trans (World.drewN_drewN _ _ _) (congrArg (World.drewN _) (Nat.add_assoc _ _ _))⟩); have p30 : 0 ≤ (x7_1 : Int) := of_decide_eq_true (by first | (with_reducible assumption) | assumption); have q30 : x7_1 < (a0.size : Int) := of_decide_eq_true (by first | (with_reducible assumption) | assumption); have hx30 := bt_at a0 x7_1; replace p30 := eq_true p30; replace q30 := eq_true q30) | (go_at_call 42; (with_reducible refine (ontimeref11_digit.calls (bt a0 x7_1) t131 _ A31.out).mono ?_); rintro e w' ⟨rfl, ⟨nd, rfl⟩⟩; (try first | exact ⟨rfl, _, World.drewN_drewN _ _ _⟩ | exact ⟨rfl, _, Eq.trans (World.drewN_drewN _ _ _) (congrArg (World.drewN _) (Nat.add_assoc _ _ _))⟩); have p33 : 0 ≤ (x7_1 : Int) := of_decide_eq_true (by first | (with_reducible assumption) | assumption); have q33 : x7_1 < (a0.size : Int) := of_decide_eq_true (by first | (with_reducible assumption) | assumption); have hx33 := bt_at a0 x7_1; replace p33 := eq_true p33; replace q33 := eq_true q33))
                        repeat (go_quiet (first | (go_at_call 41; (with_reducible refine (ontimeref11_letter.calls (bt a0 x7_1) false _ A11.out).mono ?_); rintro e w' ⟨rfl, ⟨nd, rfl⟩⟩; (try first | exact ⟨rfl, _, World.drewN_drewN _ _ _⟩ | exact ⟨rfl, _, Eq.trans (World.drewN_drewN _ _ _) (congrArg (World.drewN _) (Nat.add_assoc _ _ _))⟩); have p30 : 0 ≤ (x7_1 : Int) := of_decide_eq_true (by first | (with_reducible assumption) | assumption); have q30 : x7_1 < (a0.size : Int) := of_decide_eq_true (by first | (with_reducible assumption) | assumption); have hx30 := bt_at a0 x7_1; replace p30 := eq_true p30; replace q30 := eq_true q30) | (go_at_call 42; (with_reducible refine (ontimeref11_digit.calls (bt a0 x7_1) t131 _ A31.out).mono ?_); rintro e w' ⟨rfl, ⟨nd, rfl⟩⟩; (try first | exact ⟨rfl, _, World.drewN_drewN _ _ _⟩ | exact ⟨rfl, _, Eq.trans (World.drewN_drewN _ _ _) (congrArg (World.drewN _) (Nat.add_assoc _ _ _))⟩); have p33 : 0 ≤ (x7_1 : Int) := of_decide_eq_true (by first | (with_reducible assumption) | assumption); have q33 : x7_1 < (a0.size : Int) := of_decide_eq_true (by first | (with_reducible assumption) | assumption); have hx33 := bt_at a0 x7_1; replace p33 := eq_true p33; replace q33 := eq_true q33)); try go_wp2_with (first | (go_at_call 41; (with_reducible refine (ontimeref11_letter.calls (bt a0 x7_1) false _ A11.out).mono ?_); rintro e w' ⟨rfl, ⟨nd, rfl⟩⟩; (try first | exact ⟨rfl, _, World.drewN_drewN _ _ _⟩ | exact ⟨rfl, _, Eq.trans (World.drewN_drewN _ _ _) (congrArg (World.drewN _) (Nat.add_assoc _ _ _))⟩); have p30 : 0 ≤ (x7_1 : Int) := of_decide_eq_true (by first | (with_reducible assumption) | assumption); have q30 : x7_1 < (a0.size : Int) := of_decide_eq_true (by first | (with_reducible assumption) | assumption); have hx30 := bt_at a0 x7_1; replace p30 := eq_true p30; replace q30 := eq_true q30) | (go_at_call 42; (with_reducible refine (ontimeref11_digit.calls (bt a0 x7_1) t131 _ A31.out).mono ?_); rintro e w' ⟨rfl, ⟨nd, rfl⟩⟩; (try first | exact ⟨rfl, _, World.drewN_drewN _ _ _⟩ | exact ⟨rfl, _, Eq.trans (World.drewN_drewN _ _ _) (congrArg (World.drewN _) (Nat.add_assoc _ _ _))⟩); have p33 : 0 ≤ (x7_1 : Int) := of_decide_eq_true (by first | (with_reducible assumption) | assumption); have q33 : x7_1 < (a0.size : Int) := of_decide_eq_true (by first | (with_reducible assumption) | assumption); have hx33 := bt_at a0 x7_1; replace p33 := eq_true p33; replace q33 := eq_true q33)))
                        go_roundg k1
                        case measure => have := HK1.out; omega
                        case rel => exact ⟨(t131), (t131), (false), (false), (wrap64 (x7_1 + 1)), (by first | rfl | (simp; done) | (simp [*]; done)), (by first | rfl | (simp; done) | (simp [*]; done)), (by first | rfl | (simp; done) | (simp [*]; done)), (by first | rfl | (simp; done) | (simp [*]; done)), (by first | rfl | (simp; done) | (simp [*]; done)), H', ⟨by have := HK1.out; omega⟩, ⟨by repeat (first | (with_reducible first | exact HB.out | apply below_alloc | apply pw_below_drewN | apply below_drew1) | exact HB.out)⟩⟩
                  · replace c32 := Bool.eq_false_iff.mpr c32
                    subst c32
                    have H1 : (if x5_1 = true then ((ontimeref11_space.f (bt a0 x7_1)).bind fun t133 => (if x6_1 = true then (ontimeref11_kind.l0 k1 a0 t131 false t133 ((bt a0 x7_1) != 10) (wrap64 (x7_1 + 1))) else (ontimeref11_kind.l0 k1 a0 t131 false t133 false (wrap64 (x7_1 + 1))))) else (if x6_1 = true then (ontimeref11_kind.l0 k1 a0 t131 false false ((bt a0 x7_1) != 10) (wrap64 (x7_1 + 1))) else (ontimeref11_kind.l0 k1 a0 t131 false false false (wrap64 (x7_1 + 1))))) = some r := by rw [if_neg (show ¬ (false = true) by decide)] at H; exact H
                    clear H
                    have H := H1
                    clear H1
                    by_cases c41 : x5_1 = true
                    · subst c41
                      have H1 : ((ontimeref11_space.f (bt a0 x7_1)).bind fun t133 => (if x6_1 = true then (ontimeref11_kind.l0 k1 a0 t131 false t133 ((bt a0 x7_1) != 10) (wrap64 (x7_1 + 1))) else (ontimeref11_kind.l0 k1 a0 t131 false t133 false (wrap64 (x7_1 + 1))))) = some r := by rw [if_pos rfl] at H; exact H
                      clear H
                      have H := H1
                      clear H1
                      replace H := Option.bind_eq_some_iff.mp H
                      obtain ⟨t133, A430, H⟩ := H
                      replace H : (if x6_1 = true then (ontimeref11_kind.l0 k1 a0 t131 false t133 ((bt a0 x7_1) != 10) (wrap64 (x7_1 + 1))) else (ontimeref11_kind.l0 k1 a0 t131 false t133 false (wrap64 (x7_1 + 1)))) = some r := H
                      have A43 := Aside0.mk A430
                      clear A430
                      by_cases c44 : x6_1 = true
                      · subst c44
                        have H1 : (ontimeref11_kind.l0 k1 a0 t131 false t133 ((bt a0 x7_1) != 10) (wrap64 (x7_1 + 1))) = some r := by rw [if_pos rfl] at H; exact H
                        clear H
                        have H := H1
                        clear H1
                        have H' := Aside0.mk H
                        clear H
                        have p10 : 0 ≤ (x7_1 : Int) := of_decide_eq_true (by first | (with_reducible assumption) | assumption)
                        have q10 : x7_1 < (a0.size : Int) := of_decide_eq_true (by first | (with_reducible assumption) | assumption)
                        have hx10 := bt_at a0 x7_1
                        replace p10 := eq_true p10
                        replace q10 := eq_true q10
                        go_wp2_with (first | (go_at_call 41; (with_reducible refine (ontimeref11_letter.calls (bt a0 x7_1) false _ A11.out).mono ?_); rintro e w' ⟨rfl, ⟨nd, rfl⟩⟩; (try first | exact ⟨rfl, _, World.drewN_drewN _ _ _⟩ | exact ⟨rfl, _, Eq.trans (World.drewN_drewN _ _ _) (congrArg (World.drewN _) (Nat.add_assoc _ _ _))⟩); have p30 : 0 ≤ (x7_1 : Int) := of_decide_eq_true (by first | (with_reducible assumption) | assumption); have q30 : x7_1 < (a0.size : Int) := of_decide_eq_true (by first | (with_reducible assumption) | assumption); have hx30 := bt_at a0 x7_1; replace p30 := eq_true p30; replace q30 := eq_true q30) | (go_at_call 42; (with_reducible refine (ontimeref11_digit.calls (bt a0 x7_1) t131 _ A31.out).mono ?_); rintro e w' ⟨rfl, ⟨nd, rfl⟩⟩; (try first | exact ⟨rfl, _, World.drewN_drewN _ _ _⟩ | exact ⟨rfl, _, Eq.trans (World.drewN_drewN _ _ _) (congrArg (World.drewN _) (Nat.add_assoc _ _ _))⟩); have p42 : 0 ≤ (x7_1 : Int) := of_decide_eq_true (by first | (with_reducible assumption) | assumption); have q42 : x7_1 < (a0.size : Int) := of_decide_eq_true (by first | (with_reducible assumption) | assumption); have hx42 := bt_at a0 x7_1; replace p42 := eq_true p42; replace q42 := eq_true q42) | (go_at_call 43; (with_reducible refine (ontimeref11_space.calls (bt a0 x7_1) t133 _ A43.out).mono ?_); rintro e w' ⟨rfl, ⟨nd, rfl⟩⟩; (try first | exact ⟨rfl, _, World.drewN_drewN _ _ _⟩ | exact ⟨rfl, _, Eq.trans (World.drewN_drewN _ _ _) (congrArg (World.drewN _) (Nat.add_assoc _ _ _))⟩); have p45 : 0 ≤ (x7_1 : Int) := of_decide_eq_true (by first | (with_reducible assumption) | assumption); have q45 : x7_1 < (a0.size : Int) := of_decide_eq_true (by first | (with_reducible assumption) | assumption); have hx45 := bt_at a0 x7_1; replace p45 := eq_true p45; replace q45 := eq_true q45))
                        repeat (go_quiet (first | (go_at_call 41; (with_reducible refine (ontimeref11_letter.calls (bt a0 x7_1) false _ A11.out).mono ?_); rintro e w' ⟨rfl, ⟨nd, rfl⟩⟩; (try first | exact ⟨rfl, _, World.drewN_drewN _ _ _⟩ | exact ⟨rfl, _, Eq.trans (World.drewN_drewN _ _ _) (congrArg (World.drewN _) (Nat.add_assoc _ _ _))⟩); have p30 : 0 ≤ (x7_1 : Int) := of_decide_eq_true (by first | (with_reducible assumption) | assumption); have q30 : x7_1 < (a0.size : Int) := of_decide_eq_true (by first | (with_reducible assumption) | assumption); have hx30 := bt_at a0 x7_1; replace p30 := eq_true p30; replace q30 := eq_true q30) | (go_at_call 42; (with_reducible refine (ontimeref11_digit.calls (bt a0 x7_1) t131 _ A31.out).mono ?_); rintro e w' ⟨rfl, ⟨nd, rfl⟩⟩; (try first | exact ⟨rfl, _, World.drewN_drewN _ _ _⟩ | exact ⟨rfl, _, Eq.trans (World.drewN_drewN _ _ _) (congrArg (World.drewN _) (Nat.add_assoc _ _ _))⟩); have p42 : 0 ≤ (x7_1 : Int) := of_decide_eq_true (by first | (with_reducible assumption) | assumption); have q42 : x7_1 < (a0.size : Int) := of_decide_eq_true (by first | (with_reducible assumption) | assumption); have hx42 := bt_at a0 x7_1; replace p42 := eq_true p42; replace q42 := eq_true q42) | (go_at_call 43; (with_reducible refine (ontimeref11_space.calls (bt a0 x7_1) t133 _ A43.out).mono ?_); rintro e w' ⟨rfl, ⟨nd, rfl⟩⟩; (try first | exact ⟨rfl, _, World.drewN_drewN _ _ _⟩ | exact ⟨rfl, _, Eq.trans (World.drewN_drewN _ _ _) (congrArg (World.drewN _) (Nat.add_assoc _ _ _))⟩); have p45 : 0 ≤ (x7_1 : Int) := of_decide_eq_true (by first | (with_reducible assumption) | assumption); have q45 : x7_1 < (a0.size : Int) := of_decide_eq_true (by first | (with_reducible assumption) | assumption); have hx45 := bt_at a0 x7_1; replace p45 := eq_true p45; replace q45 := eq_true q45)); try go_wp2_with (first | (go_at_call 41; (with_reducible refine (ontimeref11_letter.calls (bt a0 x7_1) false _ A11.out).mono ?_); rintro e w' ⟨rfl, ⟨nd, rfl⟩⟩; (try first | exact ⟨rfl, _, World.drewN_drewN _ _ _⟩ | exact ⟨rfl, _, Eq.trans (World.drewN_drewN _ _ _) (congrArg (World.drewN _) (Nat.add_assoc _ _ _))⟩); have p30 : 0 ≤ (x7_1 : Int) := of_decide_eq_true (by first | (with_reducible assumption) | assumption); have q30 : x7_1 < (a0.size : Int) := of_decide_eq_true (by first | (with_reducible assumption) | assumption); have hx30 := bt_at a0 x7_1; replace p30 := eq_true p30; replace q30 := eq_true q30) | (go_at_call 42; (with_reducible refine (ontimeref11_digit.calls (bt a0 x7_1) t131 _ A31.out).mono ?_); rintro e w' ⟨rfl, ⟨nd, rfl⟩⟩; (try first | exact ⟨rfl, _, World.drewN_drewN _ _ _⟩ | exact ⟨rfl, _, Eq.trans (World.drewN_drewN _ _ _) (congrArg (World.drewN _) (Nat.add_assoc _ _ _))⟩); have p42 : 0 ≤ (x7_1 : Int) := of_decide_eq_true (by first | (with_reducible assumption) | assumption); have q42 : x7_1 < (a0.size : Int) := of_decide_eq_true (by first | (with_reducible assumption) | assumption); have hx42 := bt_at a0 x7_1; replace p42 := eq_true p42; replace q42 := eq_true q42) | (go_at_call 43; (with_reducible refine (ontimeref11_space.calls (bt a0 x7_1) t133 _ A43.out).mono ?_); rintro e w' ⟨rfl, ⟨nd, rfl⟩⟩; (try first | exact ⟨rfl, _, World.drewN_drewN _ _ _⟩ | exact ⟨rfl, _, Eq.trans (World.drewN_drewN _ _ _) (congrArg (World.drewN _) (Nat.add_assoc _ _ _))⟩); have p45 : 0 ≤ (x7_1 : Int) := of_decide_eq_true (by first | (with_reducible assumption) | assumption); have q45 : x7_1 < (a0.size : Int) := of_decide_eq_true (by first | (with_reducible assumption) | assumption); have hx45 := bt_at a0 x7_1; replace p45 := eq_true p45; replace q45 := eq_true q45)))
                        go_roundg k1
                        case measure => have := HK1.out; omega
                        case rel => exact ⟨(t131), (false), (t133), (((bt a0 x7_1) != 10)), (wrap64 (x7_1 + 1)), (by first | rfl | (simp; done) | (simp [*]; done)), (by first | rfl | (simp; done) | (simp [*]; done)), (by first | rfl | (simp; done) | (simp [*]; done)), (by first | rfl | (simp; done) | (simp [*]; done)), (by first | rfl | (simp; done) | (simp [*]; done)), H', ⟨by have := HK1.out; omega⟩, ⟨by repeat (first | (with_reducible first | exact HB.out | apply below_alloc | apply pw_below_drewN | apply below_drew1) | exact HB.out)⟩⟩
                      · replace c44 := Bool.eq_false_iff.mpr c44
                        subst c44
                        have H1 : (ontimeref11_kind.l0 k1 a0 t131 false t133 false (wrap64 (x7_1 + 1))) = some r := by rw [if_neg (show ¬ (false = true) by decide)] at H; exact H
                        clear H
                        have H := H1
                        clear H1
                        have H' := Aside0.mk H
                        clear H
                        have p10 : 0 ≤ (x7_1 : Int) := of_decide_eq_true (by first | (with_reducible assumption) | assumption)
                        have q10 : x7_1 < (a0.size : Int) := of_decide_eq_true (by first | (with_reducible assumption) | assumption)
                        have hx10 := bt_at a0 x7_1
                        replace p10 := eq_true p10
                        replace q10 := eq_true q10
                        go_wp2_with (first | (go_at_call 41; (with_reducible refine (ontimeref11_letter.calls (bt a0 x7_1) false _ A11.out).mono ?_); rintro e w' ⟨rfl, ⟨nd, rfl⟩⟩; (try first | exact ⟨rfl, _, World.drewN_drewN _ _ _⟩ | exact ⟨rfl, _, Eq.trans (World.drewN_drewN _ _ _) (congrArg (World.drewN _) (Nat.add_assoc _ _ _))⟩); have p30 : 0 ≤ (x7_1 : Int) := of_decide_eq_true (by first | (with_reducible assumption) | assumption); have q30 : x7_1 < (a0.size : Int) := of_decide_eq_true (by first | (with_reducible assumption) | assumption); have hx30 := bt_at a0 x7_1; replace p30 := eq_true p30; replace q30 := eq_true q30) | (go_at_call 42; (with_reducible refine (ontimeref11_digit.calls (bt a0 x7_1) t131 _ A31.out).mono ?_); rintro e w' ⟨rfl, ⟨nd, rfl⟩⟩; (try first | exact ⟨rfl, _, World.drewN_drewN _ _ _⟩ | exact ⟨rfl, _, Eq.trans (World.drewN_drewN _ _ _) (congrArg (World.drewN _) (Nat.add_assoc _ _ _))⟩); have p42 : 0 ≤ (x7_1 : Int) := of_decide_eq_true (by first | (with_reducible assumption) | assumption); have q42 : x7_1 < (a0.size : Int) := of_decide_eq_true (by first | (with_reducible assumption) | assumption); have hx42 := bt_at a0 x7_1; replace p42 := eq_true p42; replace q42 := eq_true q42) | (go_at_call 43; (with_reducible refine (ontimeref11_space.calls (bt a0 x7_1) t133 _ A43.out).mono ?_); rintro e w' ⟨rfl, ⟨nd, rfl⟩⟩; (try first | exact ⟨rfl, _, World.drewN_drewN _ _ _⟩ | exact ⟨rfl, _, Eq.trans (World.drewN_drewN _ _ _) (congrArg (World.drewN _) (Nat.add_assoc _ _ _))⟩)))
                        repeat (go_quiet (first | (go_at_call 41; (with_reducible refine (ontimeref11_letter.calls (bt a0 x7_1) false _ A11.out).mono ?_); rintro e w' ⟨rfl, ⟨nd, rfl⟩⟩; (try first | exact ⟨rfl, _, World.drewN_drewN _ _ _⟩ | exact ⟨rfl, _, Eq.trans (World.drewN_drewN _ _ _) (congrArg (World.drewN _) (Nat.add_assoc _ _ _))⟩); have p30 : 0 ≤ (x7_1 : Int) := of_decide_eq_true (by first | (with_reducible assumption) | assumption); have q30 : x7_1 < (a0.size : Int) := of_decide_eq_true (by first | (with_reducible assumption) | assumption); have hx30 := bt_at a0 x7_1; replace p30 := eq_true p30; replace q30 := eq_true q30) | (go_at_call 42; (with_reducible refine (ontimeref11_digit.calls (bt a0 x7_1) t131 _ A31.out).mono ?_); rintro e w' ⟨rfl, ⟨nd, rfl⟩⟩; (try first | exact ⟨rfl, _, World.drewN_drewN _ _ _⟩ | exact ⟨rfl, _, Eq.trans (World.drewN_drewN _ _ _) (congrArg (World.drewN _) (Nat.add_assoc _ _ _))⟩); have p42 : 0 ≤ (x7_1 : Int) := of_decide_eq_true (by first | (with_reducible assumption) | assumption); have q42 : x7_1 < (a0.size : Int) := of_decide_eq_true (by first | (with_reducible assumption) | assumption); have hx42 := bt_at a0 x7_1; replace p42 := eq_true p42; replace q42 := eq_true q42) | (go_at_call 43; (with_reducible refine (ontimeref11_space.calls (bt a0 x7_1) t133 _ A43.out).mono ?_); rintro e w' ⟨rfl, ⟨nd, rfl⟩⟩; (try first | exact ⟨rfl, _, World.drewN_drewN _ _ _⟩ | exact ⟨rfl, _, Eq.trans (World.drewN_drewN _ _ _) (congrArg (World.drewN _) (Nat.add_assoc _ _ _))⟩))); try go_wp2_with (first | (go_at_call 41; (with_reducible refine (ontimeref11_letter.calls (bt a0 x7_1) false _ A11.out).mono ?_); rintro e w' ⟨rfl, ⟨nd, rfl⟩⟩; (try first | exact ⟨rfl, _, World.drewN_drewN _ _ _⟩ | exact ⟨rfl, _, Eq.trans (World.drewN_drewN _ _ _) (congrArg (World.drewN _) (Nat.add_assoc _ _ _))⟩); have p30 : 0 ≤ (x7_1 : Int) := of_decide_eq_true (by first | (with_reducible assumption) | assumption); have q30 : x7_1 < (a0.size : Int) := of_decide_eq_true (by first | (with_reducible assumption) | assumption); have hx30 := bt_at a0 x7_1; replace p30 := eq_true p30; replace q30 := eq_true q30) | (go_at_call 42; (with_reducible refine (ontimeref11_digit.calls (bt a0 x7_1) t131 _ A31.out).mono ?_); rintro e w' ⟨rfl, ⟨nd, rfl⟩⟩; (try first | exact ⟨rfl, _, World.drewN_drewN _ _ _⟩ | exact ⟨rfl, _, Eq.trans (World.drewN_drewN _ _ _) (congrArg (World.drewN _) (Nat.add_assoc _ _ _))⟩); have p42 : 0 ≤ (x7_1 : Int) := of_decide_eq_true (by first | (with_reducible assumption) | assumption); have q42 : x7_1 < (a0.size : Int) := of_decide_eq_true (by first | (with_reducible assumption) | assumption); have hx42 := bt_at a0 x7_1; replace p42 := eq_true p42; replace q42 := eq_true q42) | (go_at_call 43; (with_reducible refine (ontimeref11_space.calls (bt a0 x7_1) t133 _ A43.out).mono ?_); rintro e w' ⟨rfl, ⟨nd, rfl⟩⟩; (try first | exact ⟨rfl, _, World.drewN_drewN _ _ _⟩ | exact ⟨rfl, _, Eq.trans (World.drewN_drewN _ _ _) (congrArg (World.drewN _) (Nat.add_assoc _ _ _))⟩))))
                        go_roundg k1
                        case measure => have := HK1.out; omega
                        case rel => exact ⟨(t131), (false), (t133), (false), (wrap64 (x7_1 + 1)), (by first | rfl | (simp; done) | (simp [*]; done)), (by first | rfl | (simp; done) | (simp [*]; done)), (by first | rfl | (simp; done) | (simp [*]; done)), (by first | rfl | (simp; done) | (simp [*]; done)), (by first | rfl | (simp; done) | (simp [*]; done)), H', ⟨by have := HK1.out; omega⟩, ⟨by repeat (first | (with_reducible first | exact HB.out | apply below_alloc | apply pw_below_drewN | apply below_drew1) | exact HB.out)⟩⟩
                    · replace c41 := Bool.eq_false_iff.mpr c41
                      subst c41
                      have H1 : (if x6_1 = true then (ontimeref11_kind.l0 k1 a0 t131 false false ((bt a0 x7_1) != 10) (wrap64 (x7_1 + 1))) else (ontimeref11_kind.l0 k1 a0 t131 false false false (wrap64 (x7_1 + 1)))) = some r := by rw [if_neg (show ¬ (false = true) by decide)] at H; exact H
                      clear H
                      have H := H1
                      clear H1
                      by_cases c46 : x6_1 = true
                      · subst c46
                        have H1 : (ontimeref11_kind.l0 k1 a0 t131 false false ((bt a0 x7_1) != 10) (wrap64 (x7_1 + 1))) = some r := by rw [if_pos rfl] at H; exact H
                        clear H
                        have H := H1
                        clear H1
                        have H' := Aside0.mk H
                        clear H
                        have p10 : 0 ≤ (x7_1 : Int) := of_decide_eq_true (by first | (with_reducible assumption) | assumption)
                        have q10 : x7_1 < (a0.size : Int) := of_decide_eq_true (by first | (with_reducible assumption) | assumption)
                        have hx10 := bt_at a0 x7_1
                        replace p10 := eq_true p10
                        replace q10 := eq_true q10
                        go_wp2_with (first | (go_at_call 41; (with_reducible refine (ontimeref11_letter.calls (bt a0 x7_1) false _ A11.out).mono ?_); rintro e w' ⟨rfl, ⟨nd, rfl⟩⟩; (try first | exact ⟨rfl, _, World.drewN_drewN _ _ _⟩ | exact ⟨rfl, _, Eq.trans (World.drewN_drewN _ _ _) (congrArg (World.drewN _) (Nat.add_assoc _ _ _))⟩); have p30 : 0 ≤ (x7_1 : Int) := of_decide_eq_true (by first | (with_reducible assumption) | assumption); have q30 : x7_1 < (a0.size : Int) := of_decide_eq_true (by first | (with_reducible assumption) | assumption); have hx30 := bt_at a0 x7_1; replace p30 := eq_true p30; replace q30 := eq_true q30) | (go_at_call 42; (with_reducible refine (ontimeref11_digit.calls (bt a0 x7_1) t131 _ A31.out).mono ?_); rintro e w' ⟨rfl, ⟨nd, rfl⟩⟩; (try first | exact ⟨rfl, _, World.drewN_drewN _ _ _⟩ | exact ⟨rfl, _, Eq.trans (World.drewN_drewN _ _ _) (congrArg (World.drewN _) (Nat.add_assoc _ _ _))⟩); have p47 : 0 ≤ (x7_1 : Int) := of_decide_eq_true (by first | (with_reducible assumption) | assumption); have q47 : x7_1 < (a0.size : Int) := of_decide_eq_true (by first | (with_reducible assumption) | assumption); have hx47 := bt_at a0 x7_1; replace p47 := eq_true p47; replace q47 := eq_true q47))
                        repeat (go_quiet (first | (go_at_call 41; (with_reducible refine (ontimeref11_letter.calls (bt a0 x7_1) false _ A11.out).mono ?_); rintro e w' ⟨rfl, ⟨nd, rfl⟩⟩; (try first | exact ⟨rfl, _, World.drewN_drewN _ _ _⟩ | exact ⟨rfl, _, Eq.trans (World.drewN_drewN _ _ _) (congrArg (World.drewN _) (Nat.add_assoc _ _ _))⟩); have p30 : 0 ≤ (x7_1 : Int) := of_decide_eq_true (by first | (with_reducible assumption) | assumption); have q30 : x7_1 < (a0.size : Int) := of_decide_eq_true (by first | (with_reducible assumption) | assumption); have hx30 := bt_at a0 x7_1; replace p30 := eq_true p30; replace q30 := eq_true q30) | (go_at_call 42; (with_reducible refine (ontimeref11_digit.calls (bt a0 x7_1) t131 _ A31.out).mono ?_); rintro e w' ⟨rfl, ⟨nd, rfl⟩⟩; (try first | exact ⟨rfl, _, World.drewN_drewN _ _ _⟩ | exact ⟨rfl, _, Eq.trans (World.drewN_drewN _ _ _) (congrArg (World.drewN _) (Nat.add_assoc _ _ _))⟩); have p47 : 0 ≤ (x7_1 : Int) := of_decide_eq_true (by first | (with_reducible assumption) | assumption); have q47 : x7_1 < (a0.size : Int) := of_decide_eq_true (by first | (with_reducible assumption) | assumption); have hx47 := bt_at a0 x7_1; replace p47 := eq_true p47; replace q47 := eq_true q47)); try go_wp2_with (first | (go_at_call 41; (with_reducible refine (ontimeref11_letter.calls (bt a0 x7_1) false _ A11.out).mono ?_); rintro e w' ⟨rfl, ⟨nd, rfl⟩⟩; (try first | exact ⟨rfl, _, World.drewN_drewN _ _ _⟩ | exact ⟨rfl, _, Eq.trans (World.drewN_drewN _ _ _) (congrArg (World.drewN _) (Nat.add_assoc _ _ _))⟩); have p30 : 0 ≤ (x7_1 : Int) := of_decide_eq_true (by first | (with_reducible assumption) | assumption); have q30 : x7_1 < (a0.size : Int) := of_decide_eq_true (by first | (with_reducible assumption) | assumption); have hx30 := bt_at a0 x7_1; replace p30 := eq_true p30; replace q30 := eq_true q30) | (go_at_call 42; (with_reducible refine (ontimeref11_digit.calls (bt a0 x7_1) t131 _ A31.out).mono ?_); rintro e w' ⟨rfl, ⟨nd, rfl⟩⟩; (try first | exact ⟨rfl, _, World.drewN_drewN _ _ _⟩ | exact ⟨rfl, _, Eq.trans (World.drewN_drewN _ _ _) (congrArg (World.drewN _) (Nat.add_assoc _ _ _))⟩); have p47 : 0 ≤ (x7_1 : Int) := of_decide_eq_true (by first | (with_reducible assumption) | assumption); have q47 : x7_1 < (a0.size : Int) := of_decide_eq_true (by first | (with_reducible assumption) | assumption); have hx47 := bt_at a0 x7_1; replace p47 := eq_true p47; replace q47 := eq_true q47)))
                        go_roundg k1
                        case measure => have := HK1.out; omega
                        case rel => exact ⟨(t131), (false), (false), (((bt a0 x7_1) != 10)), (wrap64 (x7_1 + 1)), (by first | rfl | (simp; done) | (simp [*]; done)), (by first | rfl | (simp; done) | (simp [*]; done)), (by first | rfl | (simp; done) | (simp [*]; done)), (by first | rfl | (simp; done) | (simp [*]; done)), (by first | rfl | (simp; done) | (simp [*]; done)), H', ⟨by have := HK1.out; omega⟩, ⟨by repeat (first | (with_reducible first | exact HB.out | apply below_alloc | apply pw_below_drewN | apply below_drew1) | exact HB.out)⟩⟩
                      · replace c46 := Bool.eq_false_iff.mpr c46
                        subst c46
                        have H1 : (ontimeref11_kind.l0 k1 a0 t131 false false false (wrap64 (x7_1 + 1))) = some r := by rw [if_neg (show ¬ (false = true) by decide)] at H; exact H
                        clear H
                        have H := H1
                        clear H1
                        have H' := Aside0.mk H
                        clear H
                        have p10 : 0 ≤ (x7_1 : Int) := of_decide_eq_true (by first | (with_reducible assumption) | assumption)
                        have q10 : x7_1 < (a0.size : Int) := of_decide_eq_true (by first | (with_reducible assumption) | assumption)
                        have hx10 := bt_at a0 x7_1
                        replace p10 := eq_true p10
                        replace q10 := eq_true q10
                        go_wp2_with (first | (go_at_call 41; (with_reducible refine (ontimeref11_letter.calls (bt a0 x7_1) false _ A11.out).mono ?_); rintro e w' ⟨rfl, ⟨nd, rfl⟩⟩; (try first | exact ⟨rfl, _, World.drewN_drewN _ _ _⟩ | exact ⟨rfl, _, Eq.trans (World.drewN_drewN _ _ _) (congrArg (World.drewN _) (Nat.add_assoc _ _ _))⟩); have p30 : 0 ≤ (x7_1 : Int) := of_decide_eq_true (by first | (with_reducible assumption) | assumption); have q30 : x7_1 < (a0.size : Int) := of_decide_eq_true (by first | (with_reducible assumption) | assumption); have hx30 := bt_at a0 x7_1; replace p30 := eq_true p30; replace q30 := eq_true q30) | (go_at_call 42; (with_reducible refine (ontimeref11_digit.calls (bt a0 x7_1) t131 _ A31.out).mono ?_); rintro e w' ⟨rfl, ⟨nd, rfl⟩⟩; (try first | exact ⟨rfl, _, World.drewN_drewN _ _ _⟩ | exact ⟨rfl, _, Eq.trans (World.drewN_drewN _ _ _) (congrArg (World.drewN _) (Nat.add_assoc _ _ _))⟩)))
                        repeat (go_quiet (first | (go_at_call 41; (with_reducible refine (ontimeref11_letter.calls (bt a0 x7_1) false _ A11.out).mono ?_); rintro e w' ⟨rfl, ⟨nd, rfl⟩⟩; (try first | exact ⟨rfl, _, World.drewN_drewN _ _ _⟩ | exact ⟨rfl, _, Eq.trans (World.drewN_drewN _ _ _) (congrArg (World.drewN _) (Nat.add_assoc _ _ _))⟩); have p30 : 0 ≤ (x7_1 : Int) := of_decide_eq_true (by first | (with_reducible assumption) | assumption); have q30 : x7_1 < (a0.size : Int) := of_decide_eq_true (by first | (with_reducible assumption) | assumption); have hx30 := bt_at a0 x7_1; replace p30 := eq_true p30; replace q30 := eq_true q30) | (go_at_call 42; (with_reducible refine (ontimeref11_digit.calls (bt a0 x7_1) t131 _ A31.out).mono ?_); rintro e w' ⟨rfl, ⟨nd, rfl⟩⟩; (try first | exact ⟨rfl, _, World.drewN_drewN _ _ _⟩ | exact ⟨rfl, _, Eq.trans (World.drewN_drewN _ _ _) (congrArg (World.drewN _) (Nat.add_assoc _ _ _))⟩))); try go_wp2_with (first | (go_at_call 41; (with_reducible refine (ontimeref11_letter.calls (bt a0 x7_1) false _ A11.out).mono ?_); rintro e w' ⟨rfl, ⟨nd, rfl⟩⟩; (try first | exact ⟨rfl, _, World.drewN_drewN _ _ _⟩ | exact ⟨rfl, _, Eq.trans (World.drewN_drewN _ _ _) (congrArg (World.drewN _) (Nat.add_assoc _ _ _))⟩); have p30 : 0 ≤ (x7_1 : Int) := of_decide_eq_true (by first | (with_reducible assumption) | assumption); have q30 : x7_1 < (a0.size : Int) := of_decide_eq_true (by first | (with_reducible assumption) | assumption); have hx30 := bt_at a0 x7_1; replace p30 := eq_true p30; replace q30 := eq_true q30) | (go_at_call 42; (with_reducible refine (ontimeref11_digit.calls (bt a0 x7_1) t131 _ A31.out).mono ?_); rintro e w' ⟨rfl, ⟨nd, rfl⟩⟩; (try first | exact ⟨rfl, _, World.drewN_drewN _ _ _⟩ | exact ⟨rfl, _, Eq.trans (World.drewN_drewN _ _ _) (congrArg (World.drewN _) (Nat.add_assoc _ _ _))⟩))))
                        go_roundg k1
                        case measure => have := HK1.out; omega
                        case rel => exact ⟨(t131), (false), (false), (false), (wrap64 (x7_1 + 1)), (by first | rfl | (simp; done) | (simp [*]; done)), (by first | rfl | (simp; done) | (simp [*]; done)), (by first | rfl | (simp; done) | (simp [*]; done)), (by first | rfl | (simp; done) | (simp [*]; done)), (by first | rfl | (simp; done) | (simp [*]; done)), H', ⟨by have := HK1.out; omega⟩, ⟨by repeat (first | (with_reducible first | exact HB.out | apply below_alloc | apply pw_below_drewN | apply below_drew1) | exact HB.out)⟩⟩
              · rw [if_neg c9] at H
                exact absurd H (by simp)
            · replace c8 := Bool.eq_false_iff.mpr c8
              subst c8
              have H1 : (if x4_1 = true then (if 0 ≤ x7_1 then ((ontimeref11_digit.f (bt a0 x7_1)).bind fun t134 => (if x5_1 = true then ((ontimeref11_space.f (bt a0 x7_1)).bind fun t135 => (if x6_1 = true then (ontimeref11_kind.l0 k1 a0 false t134 t135 ((bt a0 x7_1) != 10) (wrap64 (x7_1 + 1))) else (ontimeref11_kind.l0 k1 a0 false t134 t135 false (wrap64 (x7_1 + 1))))) else (if x6_1 = true then (ontimeref11_kind.l0 k1 a0 false t134 false ((bt a0 x7_1) != 10) (wrap64 (x7_1 + 1))) else (ontimeref11_kind.l0 k1 a0 false t134 false false (wrap64 (x7_1 + 1)))))) else (none)) else (if x5_1 = true then (if 0 ≤ x7_1 then ((ontimeref11_space.f (bt a0 x7_1)).bind fun t136 => (if x6_1 = true then (ontimeref11_kind.l0 k1 a0 false false t136 ((bt a0 x7_1) != 10) (wrap64 (x7_1 + 1))) else (ontimeref11_kind.l0 k1 a0 false false t136 false (wrap64 (x7_1 + 1))))) else (none)) else (if x6_1 = true then (if 0 ≤ x7_1 then (ontimeref11_kind.l0 k1 a0 false false false ((bt a0 x7_1) != 10) (wrap64 (x7_1 + 1))) else (none)) else (ontimeref11_kind.l0 k1 a0 false false false false (wrap64 (x7_1 + 1)))))) = some r := by rw [if_neg (show ¬ (false = true) by decide)] at H; exact H
              clear H
              have H := H1
              clear H1
              by_cases c48 : x4_1 = true
              · subst c48
                have H1 : (if 0 ≤ x7_1 then ((ontimeref11_digit.f (bt a0 x7_1)).bind fun t134 => (if x5_1 = true then ((ontimeref11_space.f (bt a0 x7_1)).bind fun t135 => (if x6_1 = true then (ontimeref11_kind.l0 k1 a0 false t134 t135 ((bt a0 x7_1) != 10) (wrap64 (x7_1 + 1))) else (ontimeref11_kind.l0 k1 a0 false t134 t135 false (wrap64 (x7_1 + 1))))) else (if x6_1 = true then (ontimeref11_kind.l0 k1 a0 false t134 false ((bt a0 x7_1) != 10) (wrap64 (x7_1 + 1))) else (ontimeref11_kind.l0 k1 a0 false t134 false false (wrap64 (x7_1 + 1)))))) else (none)) = some r := by rw [if_pos rfl] at H; exact H
                clear H
                have H := H1
                clear H1
                by_cases c49 : 0 ≤ x7_1
                · rw [if_pos c49] at H
                  have c49b0 : decide (0 ≤ x7_1) = true := decide_eq_true c49
                  clear c49
                  replace H := Option.bind_eq_some_iff.mp H
                  obtain ⟨t134, A510, H⟩ := H
                  replace H : (if x5_1 = true then ((ontimeref11_space.f (bt a0 x7_1)).bind fun t135 => (if x6_1 = true then (ontimeref11_kind.l0 k1 a0 false t134 t135 ((bt a0 x7_1) != 10) (wrap64 (x7_1 + 1))) else (ontimeref11_kind.l0 k1 a0 false t134 t135 false (wrap64 (x7_1 + 1))))) else (if x6_1 = true then (ontimeref11_kind.l0 k1 a0 false t134 false ((bt a0 x7_1) != 10) (wrap64 (x7_1 + 1))) else (ontimeref11_kind.l0 k1 a0 false t134 false false (wrap64 (x7_1 + 1))))) = some r := H
                  have A51 := Aside0.mk A510
                  clear A510
                  by_cases c52 : x5_1 = true
                  · subst c52
                    have H1 : ((ontimeref11_space.f (bt a0 x7_1)).bind fun t135 => (if x6_1 = true then (ontimeref11_kind.l0 k1 a0 false t134 t135 ((bt a0 x7_1) != 10) (wrap64 (x7_1 + 1))) else (ontimeref11_kind.l0 k1 a0 false t134 t135 false (wrap64 (x7_1 + 1))))) = some r := by rw [if_pos rfl] at H; exact H
                    clear H
                    have H := H1
                    clear H1
                    replace H := Option.bind_eq_some_iff.mp H
                    obtain ⟨t135, A540, H⟩ := H
                    replace H : (if x6_1 = true then (ontimeref11_kind.l0 k1 a0 false t134 t135 ((bt a0 x7_1) != 10) (wrap64 (x7_1 + 1))) else (ontimeref11_kind.l0 k1 a0 false t134 t135 false (wrap64 (x7_1 + 1)))) = some r := H
                    have A54 := Aside0.mk A540
                    clear A540
                    by_cases c55 : x6_1 = true
                    · subst c55
                      have H1 : (ontimeref11_kind.l0 k1 a0 false t134 t135 ((bt a0 x7_1) != 10) (wrap64 (x7_1 + 1))) = some r := by rw [if_pos rfl] at H; exact H
                      clear H
                      have H := H1
                      clear H1
                      have H' := Aside0.mk H
                      clear H
                      have p50 : 0 ≤ (x7_1 : Int) := of_decide_eq_true (by first | (with_reducible assumption) | assumption)
                      have q50 : x7_1 < (a0.size : Int) := of_decide_eq_true (by first | (with_reducible assumption) | assumption)
                      have hx50 := bt_at a0 x7_1
                      replace p50 := eq_true p50
                      replace q50 := eq_true q50
                      go_wp2_with (first | (go_at_call 42; (with_reducible refine (ontimeref11_digit.calls (bt a0 x7_1) t134 _ A51.out).mono ?_); rintro e w' ⟨rfl, ⟨nd, rfl⟩⟩; (try first | exact ⟨rfl, _, World.drewN_drewN _ _ _⟩ | exact ⟨rfl, _, Eq.trans (World.drewN_drewN _ _ _) (congrArg (World.drewN _) (Nat.add_assoc _ _ _))⟩); have p53 : 0 ≤ (x7_1 : Int) := of_decide_eq_true (by first | (with_reducible assumption) | assumption); have q53 : x7_1 < (a0.size : Int) := of_decide_eq_true (by first | (with_reducible assumption) | assumption); have hx53 := bt_at a0 x7_1; replace p53 := eq_true p53; replace q53 := eq_true q53) | (go_at_call 43; (with_reducible refine (ontimeref11_space.calls (bt a0 x7_1) t135 _ A54.out).mono ?_); rintro e w' ⟨rfl, ⟨nd, rfl⟩⟩; (try first | exact ⟨rfl, _, World.drewN_drewN _ _ _⟩ | exact ⟨rfl, _, Eq.trans (World.drewN_drewN _ _ _) (congrArg (World.drewN _) (Nat.add_assoc _ _ _))⟩); have p56 : 0 ≤ (x7_1 : Int) := of_decide_eq_true (by first | (with_reducible assumption) | assumption); have q56 : x7_1 < (a0.size : Int) := of_decide_eq_true (by first | (with_reducible assumption) | assumption); have hx56 := bt_at a0 x7_1; replace p56 := eq_true p56; replace q56 := eq_true q56))
                      repeat (go_quiet (first | (go_at_call 42; (with_reducible refine (ontimeref11_digit.calls (bt a0 x7_1) t134 _ A51.out).mono ?_); rintro e w' ⟨rfl, ⟨nd, rfl⟩⟩; (try first | exact ⟨rfl, _, World.drewN_drewN _ _ _⟩ | exact ⟨rfl, _, Eq.trans (World.drewN_drewN _ _ _) (congrArg (World.drewN _) (Nat.add_assoc _ _ _))⟩); have p53 : 0 ≤ (x7_1 : Int) := of_decide_eq_true (by first | (with_reducible assumption) | assumption); have q53 : x7_1 < (a0.size : Int) := of_decide_eq_true (by first | (with_reducible assumption) | assumption); have hx53 := bt_at a0 x7_1; replace p53 := eq_true p53; replace q53 := eq_true q53) | (go_at_call 43; (with_reducible refine (ontimeref11_space.calls (bt a0 x7_1) t135 _ A54.out).mono ?_); rintro e w' ⟨rfl, ⟨nd, rfl⟩⟩; (try first | exact ⟨rfl, _, World.drewN_drewN _ _ _⟩ | exact ⟨rfl, _, Eq.trans (World.drewN_drewN _ _ _) (congrArg (World.drewN _) (Nat.add_assoc _ _ _))⟩); have p56 : 0 ≤ (x7_1 : Int) := of_decide_eq_true (by first | (with_reducible assumption) | assumption); have q56 : x7_1 < (a0.size : Int) := of_decide_eq_true (by first | (with_reducible assumption) | assumption); have hx56 := bt_at a0 x7_1; replace p56 := eq_true p56; replace q56 := eq_true q56)); try go_wp2_with (first | (go_at_call 42; (with_reducible refine (ontimeref11_digit.calls (bt a0 x7_1) t134 _ A51.out).mono ?_); rintro e w' ⟨rfl, ⟨nd, rfl⟩⟩; (try first | exact ⟨rfl, _, World.drewN_drewN _ _ _⟩ | exact ⟨rfl, _, Eq.trans (World.drewN_drewN _ _ _) (congrArg (World.drewN _) (Nat.add_assoc _ _ _))⟩); have p53 : 0 ≤ (x7_1 : Int) := of_decide_eq_true (by first | (with_reducible assumption) | assumption); have q53 : x7_1 < (a0.size : Int) := of_decide_eq_true (by first | (with_reducible assumption) | assumption); have hx53 := bt_at a0 x7_1; replace p53 := eq_true p53; replace q53 := eq_true q53) | (go_at_call 43; (with_reducible refine (ontimeref11_space.calls (bt a0 x7_1) t135 _ A54.out).mono ?_); rintro e w' ⟨rfl, ⟨nd, rfl⟩⟩; (try first | exact ⟨rfl, _, World.drewN_drewN _ _ _⟩ | exact ⟨rfl, _, Eq.trans (World.drewN_drewN _ _ _) (congrArg (World.drewN _) (Nat.add_assoc _ _ _))⟩); have p56 : 0 ≤ (x7_1 : Int) := of_decide_eq_true (by first | (with_reducible assumption) | assumption); have q56 : x7_1 < (a0.size : Int) := of_decide_eq_true (by first | (with_reducible assumption) | assumption); have hx56 := bt_at a0 x7_1; replace p56 := eq_true p56; replace q56 := eq_true q56)))
                      go_roundg k1
                      case measure => have := HK1.out; omega
                      case rel => exact ⟨(false), (t134), (t135), (((bt a0 x7_1) != 10)), (wrap64 (x7_1 + 1)), (by first | rfl | (simp; done) | (simp [*]; done)), (by first | rfl | (simp; done) | (simp [*]; done)), (by first | rfl | (simp; done) | (simp [*]; done)), (by first | rfl | (simp; done) | (simp [*]; done)), (by first | rfl | (simp; done) | (simp [*]; done)), H', ⟨by have := HK1.out; omega⟩, ⟨by repeat (first | (with_reducible first | exact HB.out | apply below_alloc | apply pw_below_drewN | apply below_drew1) | exact HB.out)⟩⟩
                    · replace c55 := Bool.eq_false_iff.mpr c55
                      subst c55
                      have H1 : (ontimeref11_kind.l0 k1 a0 false t134 t135 false (wrap64 (x7_1 + 1))) = some r := by rw [if_neg (show ¬ (false = true) by decide)] at H; exact H
                      clear H
                      have H := H1
                      clear H1
                      have H' := Aside0.mk H
                      clear H
                      have p50 : 0 ≤ (x7_1 : Int) := of_decide_eq_true (by first | (with_reducible assumption) | assumption)
                      have q50 : x7_1 < (a0.size : Int) := of_decide_eq_true (by first | (with_reducible assumption) | assumption)
                      have hx50 := bt_at a0 x7_1
                      replace p50 := eq_true p50
                      replace q50 := eq_true q50
                      go_wp2_with (first | (go_at_call 42; (with_reducible refine (ontimeref11_digit.calls (bt a0 x7_1) t134 _ A51.out).mono ?_); rintro e w' ⟨rfl, ⟨nd, rfl⟩⟩; (try first | exact ⟨rfl, _, World.drewN_drewN _ _ _⟩ | exact ⟨rfl, _, Eq.trans (World.drewN_drewN _ _ _) (congrArg (World.drewN _) (Nat.add_assoc _ _ _))⟩); have p53 : 0 ≤ (x7_1 : Int) := of_decide_eq_true (by first | (with_reducible assumption) | assumption); have q53 : x7_1 < (a0.size : Int) := of_decide_eq_true (by first | (with_reducible assumption) | assumption); have hx53 := bt_at a0 x7_1; replace p53 := eq_true p53; replace q53 := eq_true q53) | (go_at_call 43; (with_reducible refine (ontimeref11_space.calls (bt a0 x7_1) t135 _ A54.out).mono ?_); rintro e w' ⟨rfl, ⟨nd, rfl⟩⟩; (try first | exact ⟨rfl, _, World.drewN_drewN _ _ _⟩ | exact ⟨rfl, _, Eq.trans (World.drewN_drewN _ _ _) (congrArg (World.drewN _) (Nat.add_assoc _ _ _))⟩)))
                      repeat (go_quiet (first | (go_at_call 42; (with_reducible refine (ontimeref11_digit.calls (bt a0 x7_1) t134 _ A51.out).mono ?_); rintro e w' ⟨rfl, ⟨nd, rfl⟩⟩; (try first | exact ⟨rfl, _, World.drewN_drewN _ _ _⟩ | exact ⟨rfl, _, Eq.trans (World.drewN_drewN _ _ _) (congrArg (World.drewN _) (Nat.add_assoc _ _ _))⟩); have p53 : 0 ≤ (x7_1 : Int) := of_decide_eq_true (by first | (with_reducible assumption) | assumption); have q53 : x7_1 < (a0.size : Int) := of_decide_eq_true (by first | (with_reducible assumption) | assumption); have hx53 := bt_at a0 x7_1; replace p53 := eq_true p53; replace q53 := eq_true q53) | (go_at_call 43; (with_reducible refine (ontimeref11_space.calls (bt a0 x7_1) t135 _ A54.out).mono ?_); rintro e w' ⟨rfl, ⟨nd, rfl⟩⟩; (try first | exact ⟨rfl, _, World.drewN_drewN _ _ _⟩ | exact ⟨rfl, _, Eq.trans (World.drewN_drewN _ _ _) (congrArg (World.drewN _) (Nat.add_assoc _ _ _))⟩))); try go_wp2_with (first | (go_at_call 42; (with_reducible refine (ontimeref11_digit.calls (bt a0 x7_1) t134 _ A51.out).mono ?_); rintro e w' ⟨rfl, ⟨nd, rfl⟩⟩; (try first | exact ⟨rfl, _, World.drewN_drewN _ _ _⟩ | exact ⟨rfl, _, Eq.trans (World.drewN_drewN _ _ _) (congrArg (World.drewN _) (Nat.add_assoc _ _ _))⟩); have p53 : 0 ≤ (x7_1 : Int) := of_decide_eq_true (by first | (with_reducible assumption) | assumption); have q53 : x7_1 < (a0.size : Int) := of_decide_eq_true (by first | (with_reducible assumption) | assumption); have hx53 := bt_at a0 x7_1; replace p53 := eq_true p53; replace q53 := eq_true q53) | (go_at_call 43; (with_reducible refine (ontimeref11_space.calls (bt a0 x7_1) t135 _ A54.out).mono ?_); rintro e w' ⟨rfl, ⟨nd, rfl⟩⟩; (try first | exact ⟨rfl, _, World.drewN_drewN _ _ _⟩ | exact ⟨rfl, _, Eq.trans (World.drewN_drewN _ _ _) (congrArg (World.drewN _) (Nat.add_assoc _ _ _))⟩))))
                      go_roundg k1
                      case measure => have := HK1.out; omega
                      case rel => exact ⟨(false), (t134), (t135), (false), (wrap64 (x7_1 + 1)), (by first | rfl | (simp; done) | (simp [*]; done)), (by first | rfl | (simp; done) | (simp [*]; done)), (by first | rfl | (simp; done) | (simp [*]; done)), (by first | rfl | (simp; done) | (simp [*]; done)), (by first | rfl | (simp; done) | (simp [*]; done)), H', ⟨by have := HK1.out; omega⟩, ⟨by repeat (first | (with_reducible first | exact HB.out | apply below_alloc | apply pw_below_drewN | apply below_drew1) | exact HB.out)⟩⟩
                  · replace c52 := Bool.eq_false_iff.mpr c52
                    subst c52
                    have H1 : (if x6_1 = true then (ontimeref11_kind.l0 k1 a0 false t134 false ((bt a0 x7_1) != 10) (wrap64 (x7_1 + 1))) else (ontimeref11_kind.l0 k1 a0 false t134 false false (wrap64 (x7_1 + 1)))) = some r := by rw [if_neg (show ¬ (false = true) by decide)] at H; exact H
                    clear H
                    have H := H1
                    clear H1
                    by_cases c57 : x6_1 = true
                    · subst c57
                      have H1 : (ontimeref11_kind.l0 k1 a0 false t134 false ((bt a0 x7_1) != 10) (wrap64 (x7_1 + 1))) = some r := by rw [if_pos rfl] at H; exact H
                      clear H
                      have H := H1
                      clear H1
                      have H' := Aside0.mk H
                      clear H
                      have p50 : 0 ≤ (x7_1 : Int) := of_decide_eq_true (by first | (with_reducible assumption) | assumption)
                      have q50 : x7_1 < (a0.size : Int) := of_decide_eq_true (by first | (with_reducible assumption) | assumption)
                      have hx50 := bt_at a0 x7_1
                      replace p50 := eq_true p50
                      replace q50 := eq_true q50
                      go_wp2_with (first | (go_at_call 42; (with_reducible refine (ontimeref11_digit.calls (bt a0 x7_1) t134 _ A51.out).mono ?_); rintro e w' ⟨rfl, ⟨nd, rfl⟩⟩; (try first | exact ⟨rfl, _, World.drewN_drewN _ _ _⟩ | exact ⟨rfl, _, Eq.trans (World.drewN_drewN _ _ _) (congrArg (World.drewN _) (Nat.add_assoc _ _ _))⟩); have p58 : 0 ≤ (x7_1 : Int) := of_decide_eq_true (by first | (with_reducible assumption) | assumption); have q58 : x7_1 < (a0.size : Int) := of_decide_eq_true (by first | (with_reducible assumption) | assumption); have hx58 := bt_at a0 x7_1; replace p58 := eq_true p58; replace q58 := eq_true q58))
                      repeat (go_quiet (first | (go_at_call 42; (with_reducible refine (ontimeref11_digit.calls (bt a0 x7_1) t134 _ A51.out).mono ?_); rintro e w' ⟨rfl, ⟨nd, rfl⟩⟩; (try first | exact ⟨rfl, _, World.drewN_drewN _ _ _⟩ | exact ⟨rfl, _, Eq.trans (World.drewN_drewN _ _ _) (congrArg (World.drewN _) (Nat.add_assoc _ _ _))⟩); have p58 : 0 ≤ (x7_1 : Int) := of_decide_eq_true (by first | (with_reducible assumption) | assumption); have q58 : x7_1 < (a0.size : Int) := of_decide_eq_true (by first | (with_reducible assumption) | assumption); have hx58 := bt_at a0 x7_1; replace p58 := eq_true p58; replace q58 := eq_true q58)); try go_wp2_with (first | (go_at_call 42; (with_reducible refine (ontimeref11_digit.calls (bt a0 x7_1) t134 _ A51.out).mono ?_); rintro e w' ⟨rfl, ⟨nd, rfl⟩⟩; (try first | exact ⟨rfl, _, World.drewN_drewN _ _ _⟩ | exact ⟨rfl, _, Eq.trans (World.drewN_drewN _ _ _) (congrArg (World.drewN _) (Nat.add_assoc _ _ _))⟩); have p58 : 0 ≤ (x7_1 : Int) := of_decide_eq_true (by first | (with_reducible assumption) | assumption); have q58 : x7_1 < (a0.size : Int) := of_decide_eq_true (by first | (with_reducible assumption) | assumption); have hx58 := bt_at a0 x7_1; replace p58 := eq_true p58; replace q58 := eq_true q58)))
                      go_roundg k1
                      case measure => have := HK1.out; omega
                      case rel => exact ⟨(false), (t134), (false), (((bt a0 x7_1) != 10)), (wrap64 (x7_1 + 1)), (by first | rfl | (simp; done) | (simp [*]; done)), (by first | rfl | (simp; done) | (simp [*]; done)), (by first | rfl | (simp; done) | (simp [*]; done)), (by first | rfl | (simp; done) | (simp [*]; done)), (by first | rfl | (simp; done) | (simp [*]; done)), H', ⟨by have := HK1.out; omega⟩, ⟨by repeat (first | (with_reducible first | exact HB.out | apply below_alloc | apply pw_below_drewN | apply below_drew1) | exact HB.out)⟩⟩
                    · replace c57 := Bool.eq_false_iff.mpr c57
                      subst c57
                      have H1 : (ontimeref11_kind.l0 k1 a0 false t134 false false (wrap64 (x7_1 + 1))) = some r := by rw [if_neg (show ¬ (false = true) by decide)] at H; exact H
                      clear H
                      have H := H1
                      clear H1
                      have H' := Aside0.mk H
                      clear H
                      have p50 : 0 ≤ (x7_1 : Int) := of_decide_eq_true (by first | (with_reducible assumption) | assumption)
                      have q50 : x7_1 < (a0.size : Int) := of_decide_eq_true (by first | (with_reducible assumption) | assumption)
                      have hx50 := bt_at a0 x7_1
                      replace p50 := eq_true p50
                      replace q50 := eq_true q50
                      go_wp2_with (first | (go_at_call 42; (with_reducible refine (ontimeref11_digit.calls (bt a0 x7_1) t134 _ A51.out).mono ?_); rintro e w' ⟨rfl, ⟨nd, rfl⟩⟩; (try first | exact ⟨rfl, _, World.drewN_drewN _ _ _⟩ | exact ⟨rfl, _, Eq.trans (World.drewN_drewN _ _ _) (congrArg (World.drewN _) (Nat.add_assoc _ _ _))⟩)))
                      repeat (go_quiet (first | (go_at_call 42; (with_reducible refine (ontimeref11_digit.calls (bt a0 x7_1) t134 _ A51.out).mono ?_); rintro e w' ⟨rfl, ⟨nd, rfl⟩⟩; (try first | exact ⟨rfl, _, World.drewN_drewN _ _ _⟩ | exact ⟨rfl, _, Eq.trans (World.drewN_drewN _ _ _) (congrArg (World.drewN _) (Nat.add_assoc _ _ _))⟩))); try go_wp2_with (first | (go_at_call 42; (with_reducible refine (ontimeref11_digit.calls (bt a0 x7_1) t134 _ A51.out).mono ?_); rintro e w' ⟨rfl, ⟨nd, rfl⟩⟩; (try first | exact ⟨rfl, _, World.drewN_drewN _ _ _⟩ | exact ⟨rfl, _, Eq.trans (World.drewN_drewN _ _ _) (congrArg (World.drewN _) (Nat.add_assoc _ _ _))⟩))))
                      go_roundg k1
                      case measure => have := HK1.out; omega
                      case rel => exact ⟨(false), (t134), (false), (false), (wrap64 (x7_1 + 1)), (by first | rfl | (simp; done) | (simp [*]; done)), (by first | rfl | (simp; done) | (simp [*]; done)), (by first | rfl | (simp; done) | (simp [*]; done)), (by first | rfl | (simp; done) | (simp [*]; done)), (by first | rfl | (simp; done) | (simp [*]; done)), H', ⟨by have := HK1.out; omega⟩, ⟨by repeat (first | (with_reducible first | exact HB.out | apply below_alloc | apply pw_below_drewN | apply below_drew1) | exact HB.out)⟩⟩
                · rw [if_neg c49] at H
                  exact absurd H (by simp)
              · replace c48 := Bool.eq_false_iff.mpr c48
                subst c48
                have H1 : (if x5_1 = true then (if 0 ≤ x7_1 then ((ontimeref11_space.f (bt a0 x7_1)).bind fun t136 => (if x6_1 = true then (ontimeref11_kind.l0 k1 a0 false false t136 ((bt a0 x7_1) != 10) (wrap64 (x7_1 + 1))) else (ontimeref11_kind.l0 k1 a0 false false t136 false (wrap64 (x7_1 + 1))))) else (none)) else (if x6_1 = true then (if 0 ≤ x7_1 then (ontimeref11_kind.l0 k1 a0 false false false ((bt a0 x7_1) != 10) (wrap64 (x7_1 + 1))) else (none)) else (ontimeref11_kind.l0 k1 a0 false false false false (wrap64 (x7_1 + 1))))) = some r := by rw [if_neg (show ¬ (false = true) by decide)] at H; exact H
                clear H
                have H := H1
                clear H1
                by_cases c59 : x5_1 = true
                · subst c59
                  have H1 : (if 0 ≤ x7_1 then ((ontimeref11_space.f (bt a0 x7_1)).bind fun t136 => (if x6_1 = true then (ontimeref11_kind.l0 k1 a0 false false t136 ((bt a0 x7_1) != 10) (wrap64 (x7_1 + 1))) else (ontimeref11_kind.l0 k1 a0 false false t136 false (wrap64 (x7_1 + 1))))) else (none)) = some r := by rw [if_pos rfl] at H; exact H
                  clear H
                  have H := H1
                  clear H1
                  by_cases c60 : 0 ≤ x7_1
                  · rw [if_pos c60] at H
                    have c60b0 : decide (0 ≤ x7_1) = true := decide_eq_true c60
                    clear c60
                    replace H := Option.bind_eq_some_iff.mp H
                    obtain ⟨t136, A620, H⟩ := H
                    replace H : (if x6_1 = true then (ontimeref11_kind.l0 k1 a0 false false t136 ((bt a0 x7_1) != 10) (wrap64 (x7_1 + 1))) else (ontimeref11_kind.l0 k1 a0 false false t136 false (wrap64 (x7_1 + 1)))) = some r := H
                    have A62 := Aside0.mk A620
                    clear A620
                    by_cases c63 : x6_1 = true
                    · subst c63
                      have H1 : (ontimeref11_kind.l0 k1 a0 false false t136 ((bt a0 x7_1) != 10) (wrap64 (x7_1 + 1))) = some r := by rw [if_pos rfl] at H; exact H
                      clear H
                      have H := H1
                      clear H1
                      have H' := Aside0.mk H
                      clear H
                      have p61 : 0 ≤ (x7_1 : Int) := of_decide_eq_true (by first | (with_reducible assumption) | assumption)
                      have q61 : x7_1 < (a0.size : Int) := of_decide_eq_true (by first | (with_reducible assumption) | assumption)
                      have hx61 := bt_at a0 x7_1
                      replace p61 := eq_true p61
                      replace q61 := eq_true q61
                      go_wp2_with (first | (go_at_call 43; (with_reducible refine (ontimeref11_space.calls (bt a0 x7_1) t136 _ A62.out).mono ?_); rintro e w' ⟨rfl, ⟨nd, rfl⟩⟩; (try first | exact ⟨rfl, _, World.drewN_drewN _ _ _⟩ | exact ⟨rfl, _, Eq.trans (World.drewN_drewN _ _ _) (congrArg (World.drewN _) (Nat.add_assoc _ _ _))⟩); have p64 : 0 ≤ (x7_1 : Int) := of_decide_eq_true (by first | (with_reducible assumption) | assumption); have q64 : x7_1 < (a0.size : Int) := of_decide_eq_true (by first | (with_reducible assumption) | assumption); have hx64 := bt_at a0 x7_1; replace p64 := eq_true p64; replace q64 := eq_true q64))
                      repeat (go_quiet (first | (go_at_call 43; (with_reducible refine (ontimeref11_space.calls (bt a0 x7_1) t136 _ A62.out).mono ?_); rintro e w' ⟨rfl, ⟨nd, rfl⟩⟩; (try first | exact ⟨rfl, _, World.drewN_drewN _ _ _⟩ | exact ⟨rfl, _, Eq.trans (World.drewN_drewN _ _ _) (congrArg (World.drewN _) (Nat.add_assoc _ _ _))⟩); have p64 : 0 ≤ (x7_1 : Int) := of_decide_eq_true (by first | (with_reducible assumption) | assumption); have q64 : x7_1 < (a0.size : Int) := of_decide_eq_true (by first | (with_reducible assumption) | assumption); have hx64 := bt_at a0 x7_1; replace p64 := eq_true p64; replace q64 := eq_true q64)); try go_wp2_with (first | (go_at_call 43; (with_reducible refine (ontimeref11_space.calls (bt a0 x7_1) t136 _ A62.out).mono ?_); rintro e w' ⟨rfl, ⟨nd, rfl⟩⟩; (try first | exact ⟨rfl, _, World.drewN_drewN _ _ _⟩ | exact ⟨rfl, _, Eq.trans (World.drewN_drewN _ _ _) (congrArg (World.drewN _) (Nat.add_assoc _ _ _))⟩); have p64 : 0 ≤ (x7_1 : Int) := of_decide_eq_true (by first | (with_reducible assumption) | assumption); have q64 : x7_1 < (a0.size : Int) := of_decide_eq_true (by first | (with_reducible assumption) | assumption); have hx64 := bt_at a0 x7_1; replace p64 := eq_true p64; replace q64 := eq_true q64)))
                      go_roundg k1
                      case measure => have := HK1.out; omega
                      case rel => exact ⟨(false), (false), (t136), (((bt a0 x7_1) != 10)), (wrap64 (x7_1 + 1)), (by first | rfl | (simp; done) | (simp [*]; done)), (by first | rfl | (simp; done) | (simp [*]; done)), (by first | rfl | (simp; done) | (simp [*]; done)), (by first | rfl | (simp; done) | (simp [*]; done)), (by first | rfl | (simp; done) | (simp [*]; done)), H', ⟨by have := HK1.out; omega⟩, ⟨by repeat (first | (with_reducible first | exact HB.out | apply below_alloc | apply pw_below_drewN | apply below_drew1) | exact HB.out)⟩⟩
                    · replace c63 := Bool.eq_false_iff.mpr c63
                      subst c63
                      have H1 : (ontimeref11_kind.l0 k1 a0 false false t136 false (wrap64 (x7_1 + 1))) = some r := by rw [if_neg (show ¬ (false = true) by decide)] at H; exact H
                      clear H
                      have H := H1
                      clear H1
                      have H' := Aside0.mk H
                      clear H
                      have p61 : 0 ≤ (x7_1 : Int) := of_decide_eq_true (by first | (with_reducible assumption) | assumption)
                      have q61 : x7_1 < (a0.size : Int) := of_decide_eq_true (by first | (with_reducible assumption) | assumption)
                      have hx61 := bt_at a0 x7_1
                      replace p61 := eq_true p61
                      replace q61 := eq_true q61
                      go_wp2_with (first | (go_at_call 43; (with_reducible refine (ontimeref11_space.calls (bt a0 x7_1) t136 _ A62.out).mono ?_); rintro e w' ⟨rfl, ⟨nd, rfl⟩⟩; (try first | exact ⟨rfl, _, World.drewN_drewN _ _ _⟩ | exact ⟨rfl, _, Eq.trans (World.drewN_drewN _ _ _) (congrArg (World.drewN _) (Nat.add_assoc _ _ _))⟩)))
                      repeat (go_quiet (first | (go_at_call 43; (with_reducible refine (ontimeref11_space.calls (bt a0 x7_1) t136 _ A62.out).mono ?_); rintro e w' ⟨rfl, ⟨nd, rfl⟩⟩; (try first | exact ⟨rfl, _, World.drewN_drewN _ _ _⟩ | exact ⟨rfl, _, Eq.trans (World.drewN_drewN _ _ _) (congrArg (World.drewN _) (Nat.add_assoc _ _ _))⟩))); try go_wp2_with (first | (go_at_call 43; (with_reducible refine (ontimeref11_space.calls (bt a0 x7_1) t136 _ A62.out).mono ?_); rintro e w' ⟨rfl, ⟨nd, rfl⟩⟩; (try first | exact ⟨rfl, _, World.drewN_drewN _ _ _⟩ | exact ⟨rfl, _, Eq.trans (World.drewN_drewN _ _ _) (congrArg (World.drewN _) (Nat.add_assoc _ _ _))⟩))))
                      go_roundg k1
                      case measure => have := HK1.out; omega
                      case rel => exact ⟨(false), (false), (t136), (false), (wrap64 (x7_1 + 1)), (by first | rfl | (simp; done) | (simp [*]; done)), (by first | rfl | (simp; done) | (simp [*]; done)), (by first | rfl | (simp; done) | (simp [*]; done)), (by first | rfl | (simp; done) | (simp [*]; done)), (by first | rfl | (simp; done) | (simp [*]; done)), H', ⟨by have := HK1.out; omega⟩, ⟨by repeat (first | (with_reducible first | exact HB.out | apply below_alloc | apply pw_below_drewN | apply below_drew1) | exact HB.out)⟩⟩
                  · rw [if_neg c60] at H
                    exact absurd H (by simp)
                · replace c59 := Bool.eq_false_iff.mpr c59
                  subst c59
                  have H1 : (if x6_1 = true then (if 0 ≤ x7_1 then (ontimeref11_kind.l0 k1 a0 false false false ((bt a0 x7_1) != 10) (wrap64 (x7_1 + 1))) else (none)) else (ontimeref11_kind.l0 k1 a0 false false false false (wrap64 (x7_1 + 1)))) = some r := by rw [if_neg (show ¬ (false = true) by decide)] at H; exact H
                  clear H
                  have H := H1
                  clear H1
                  by_cases c65 : x6_1 = true
                  · subst c65
                    have H1 : (if 0 ≤ x7_1 then (ontimeref11_kind.l0 k1 a0 false false false ((bt a0 x7_1) != 10) (wrap64 (x7_1 + 1))) else (none)) = some r := by rw [if_pos rfl] at H; exact H
                    clear H
                    have H := H1
                    clear H1
                    by_cases c66 : 0 ≤ x7_1
                    · rw [if_pos c66] at H
                      have c66b0 : decide (0 ≤ x7_1) = true := decide_eq_true c66
                      clear c66
                      have H' := Aside0.mk H
                      clear H
                      have p67 : 0 ≤ (x7_1 : Int) := of_decide_eq_true (by first | (with_reducible assumption) | assumption)
                      have q67 : x7_1 < (a0.size : Int) := of_decide_eq_true (by first | (with_reducible assumption) | assumption)
                      have hx67 := bt_at a0 x7_1
                      replace p67 := eq_true p67
                      replace q67 := eq_true q67
                      go_wp2
                      repeat (go_quiet (fail); try go_wp2)
                      go_roundg k1
                      case measure => have := HK1.out; omega
                      case rel => exact ⟨(false), (false), (false), (((bt a0 x7_1) != 10)), (wrap64 (x7_1 + 1)), (by first | rfl | (simp; done) | (simp [*]; done)), (by first | rfl | (simp; done) | (simp [*]; done)), (by first | rfl | (simp; done) | (simp [*]; done)), (by first | rfl | (simp; done) | (simp [*]; done)), (by first | rfl | (simp; done) | (simp [*]; done)), H', ⟨by have := HK1.out; omega⟩, ⟨by repeat (first | (with_reducible first | exact HB.out | apply below_alloc | apply pw_below_drewN | apply below_drew1) | exact HB.out)⟩⟩
                    · rw [if_neg c66] at H
                      exact absurd H (by simp)
                  · replace c65 := Bool.eq_false_iff.mpr c65
                    subst c65
                    have H1 : (ontimeref11_kind.l0 k1 a0 false false false false (wrap64 (x7_1 + 1))) = some r := by rw [if_neg (show ¬ (false = true) by decide)] at H; exact H
                    clear H
                    have H := H1
                    clear H1
                    have H' := Aside0.mk H
                    clear H
                    go_wp2
                    repeat (go_quiet (fail); try go_wp2)
                    go_roundg k1
                    case measure => have := HK1.out; omega
                    case rel => exact ⟨(false), (false), (false), (false), (wrap64 (x7_1 + 1)), (by first | rfl | (simp; done) | (simp [*]; done)), (by first | rfl | (simp; done) | (simp [*]; done)), (by first | rfl | (simp; done) | (simp [*]; done)), (by first | rfl | (simp; done) | (simp [*]; done)), (by first | rfl | (simp; done) | (simp [*]; done)), H', ⟨by have := HK1.out; omega⟩, ⟨by repeat (first | (with_reducible first | exact HB.out | apply below_alloc | apply pw_below_drewN | apply below_drew1) | exact HB.out)⟩⟩
          · rw [if_neg c7] at H
            have c7b0 : decide (x7_1 < (a0.size : Int)) = false := decide_eq_false c7
            clear c7
            by_cases c68 : x3_1 = true
            · subst c68
              have H1 : (some 1) = some r := by rw [if_pos rfl] at H; exact H
              clear H
              have H := H1
              clear H1
              obtain rfl := Option.some.inj H
              go_wp2
              repeat (go_quiet (fail); try go_wp2)
              go_ret
              exact ⟨by first | rfl | (simp [errW_none, errW_some] <;> rfl) | (simp [*, errW_none, errW_some] <;> rfl), by repeat (first | (with_reducible first | exact HB.out | apply below_alloc | apply pw_below_drewN | apply below_drew1) | exact HB.out)⟩
            · replace c68 := Bool.eq_false_iff.mpr c68
              subst c68
              have H1 : (if x4_1 = true then (some 2) else ((ontimeref11_Signs.f).bind fun t137 => ((ontimeref11_In.f k1 t137 a0).bind fun t140 => (if t140 = true then (some 3) else (if x5_1 = true then (some 4) else (if x6_1 = true then (some 5) else (some 0))))))) = some r := by rw [if_neg (show ¬ (false = true) by decide)] at H; exact H
              clear H
              have H := H1
              clear H1
              by_cases c69 : x4_1 = true
              · subst c69
                have H1 : (some 2) = some r := by rw [if_pos rfl] at H; exact H
                clear H
                have H := H1
                clear H1
                obtain rfl := Option.some.inj H
                go_wp2
                repeat (go_quiet (fail); try go_wp2)
                go_ret
                exact ⟨by first | rfl | (simp [errW_none, errW_some] <;> rfl) | (simp [*, errW_none, errW_some] <;> rfl), by repeat (first | (with_reducible first | exact HB.out | apply below_alloc | apply pw_below_drewN | apply below_drew1) | exact HB.out)⟩
              · replace c69 := Bool.eq_false_iff.mpr c69
                subst c69
                have H1 : ((ontimeref11_Signs.f).bind fun t137 => ((ontimeref11_In.f k1 t137 a0).bind fun t140 => (if t140 = true then (some 3) else (if x5_1 = true then (some 4) else (if x6_1 = true then (some 5) else (some 0)))))) = some r := by rw [if_neg (show ¬ (false = true) by decide)] at H; exact H
                clear H
                have H := H1
                clear H1
                replace H := Option.bind_eq_some_iff.mp H
                obtain ⟨t137, A700, H⟩ := H
                replace H : ((ontimeref11_In.f k1 t137 a0).bind fun t140 => (if t140 = true then (some 3) else (if x5_1 = true then (some 4) else (if x6_1 = true then (some 5) else (some 0))))) = some r := H
                have A70 := Aside0.mk A700
                clear A700
                replace H := Option.bind_eq_some_iff.mp H
                obtain ⟨t140, A710, H⟩ := H
                replace H : (if t140 = true then (some 3) else (if x5_1 = true then (some 4) else (if x6_1 = true then (some 5) else (some 0)))) = some r := H
                have A71 := Aside0.mk A710
                clear A710
                by_cases c72 : t140 = true
                · subst c72
                  have H1 : (some 3) = some r := by rw [if_pos rfl] at H; exact H
                  clear H
                  have H := H1
                  clear H1
                  obtain rfl := Option.some.inj H
                  go_wp2_with (first | (go_at_call 44; (with_reducible refine (ontimeref11_Signs.calls  t137 _ A70.out).mono ?_); rintro e w73 ⟨v138, rfl, ho0, hb⟩; have n0_ := Aside0.mk (Kd.R_lower ho0 (below_size (by repeat (first | (with_reducible first | exact HB.out | apply below_alloc | apply pw_below_drewN | apply below_drew1) | exact HB.out)))); have n1_ := Aside0.mk (below_step (by repeat (first | (with_reducible first | exact HB.out | apply below_alloc | apply pw_below_drewN | apply below_drew1) | exact HB.out)) hb); clear HB; have HO139 := n0_; have HB := n1_; clear n0_ n1_; (try clear hb); (try clear hb2); (try clear hk); (try clear hi); (try clear ho0); obtain ⟨Ao74, co74, eo74⟩ := Kd.R_slice HO139.out; subst eo74) | (go_at_call 20; (with_reducible refine (ontimeref11_In.calls k1 _ _ t137 a0 true _ ?side1 ?side2 A71.out).mono ?_); (case side1 => repeat (first | exact (Kd.R_reads' HO139.out).2.2 | (with_reducible refine Kd.C_alloc ?_ _) | (with_reducible refine Kd.C_drewN ?_ _) | (with_reducible refine Kd.C_drew ?_))); (case side2 => exact (Kd.R_reads' HO139.out).2.1); rintro e w' ⟨rfl, ⟨nd, rfl⟩⟩; (try first | exact ⟨rfl, _, World.drewN_drewN _ _ _⟩ | exact ⟨rfl, _, Eq.trans (World.drewN_drewN _ _ _) (congrArg (World.drewN _) (Nat.add_assoc _ _ _))⟩)))
                  repeat (go_quiet (first | (go_at_call 44; (with_reducible refine (ontimeref11_Signs.calls  t137 _ A70.out).mono ?_); rintro e w73 ⟨v138, rfl, ho0, hb⟩; have n0_ := Aside0.mk (Kd.R_lower ho0 (below_size (by repeat (first | (with_reducible first | exact HB.out | apply below_alloc | apply pw_below_drewN | apply below_drew1) | exact HB.out)))); have n1_ := Aside0.mk (below_step (by repeat (first | (with_reducible first | exact HB.out | apply below_alloc | apply pw_below_drewN | apply below_drew1) | exact HB.out)) hb); clear HB; have HO139 := n0_; have HB := n1_; clear n0_ n1_; (try clear hb); (try clear hb2); (try clear hk); (try clear hi); (try clear ho0); obtain ⟨Ao74, co74, eo74⟩ := Kd.R_slice HO139.out; subst eo74) | (go_at_call 20; (with_reducible refine (ontimeref11_In.calls k1 _ _ t137 a0 true _ ?side1 ?side2 A71.out).mono ?_); (case side1 => repeat (first | exact (Kd.R_reads' HO139.out).2.2 | (with_reducible refine Kd.C_alloc ?_ _) | (with_reducible refine Kd.C_drewN ?_ _) | (with_reducible refine Kd.C_drew ?_))); (case side2 => exact (Kd.R_reads' HO139.out).2.1); rintro e w' ⟨rfl, ⟨nd, rfl⟩⟩; (try first | exact ⟨rfl, _, World.drewN_drewN _ _ _⟩ | exact ⟨rfl, _, Eq.trans (World.drewN_drewN _ _ _) (congrArg (World.drewN _) (Nat.add_assoc _ _ _))⟩))); try go_wp2_with (first | (go_at_call 44; (with_reducible refine (ontimeref11_Signs.calls  t137 _ A70.out).mono ?_); rintro e w73 ⟨v138, rfl, ho0, hb⟩; have n0_ := Aside0.mk (Kd.R_lower ho0 (below_size (by repeat (first | (with_reducible first | exact HB.out | apply below_alloc | apply pw_below_drewN | apply below_drew1) | exact HB.out)))); have n1_ := Aside0.mk (below_step (by repeat (first | (with_reducible first | exact HB.out | apply below_alloc | apply pw_below_drewN | apply below_drew1) | exact HB.out)) hb); clear HB; have HO139 := n0_; have HB := n1_; clear n0_ n1_; (try clear hb); (try clear hb2); (try clear hk); (try clear hi); (try clear ho0); obtain ⟨Ao74, co74, eo74⟩ := Kd.R_slice HO139.out; subst eo74) | (go_at_call 20; (with_reducible refine (ontimeref11_In.calls k1 _ _ t137 a0 true _ ?side1 ?side2 A71.out).mono ?_); (case side1 => repeat (first | exact (Kd.R_reads' HO139.out).2.2 | (with_reducible refine Kd.C_alloc ?_ _) | (with_reducible refine Kd.C_drewN ?_ _) | (with_reducible refine Kd.C_drew ?_))); (case side2 => exact (Kd.R_reads' HO139.out).2.1); rintro e w' ⟨rfl, ⟨nd, rfl⟩⟩; (try first | exact ⟨rfl, _, World.drewN_drewN _ _ _⟩ | exact ⟨rfl, _, Eq.trans (World.drewN_drewN _ _ _) (congrArg (World.drewN _) (Nat.add_assoc _ _ _))⟩))))
                  go_ret
                  exact ⟨by first | rfl | (simp [errW_none, errW_some] <;> rfl) | (simp [*, errW_none, errW_some] <;> rfl), by repeat (first | (with_reducible first | exact HB.out | apply below_alloc | apply pw_below_drewN | apply below_drew1) | exact HB.out)⟩
                · replace c72 := Bool.eq_false_iff.mpr c72
                  subst c72
                  have H1 : (if x5_1 = true then (some 4) else (if x6_1 = true then (some 5) else (some 0))) = some r := by rw [if_neg (show ¬ (false = true) by decide)] at H; exact H
                  clear H
                  have H := H1
                  clear H1
                  by_cases c75 : x5_1 = true
                  · subst c75
                    have H1 : (some 4) = some r := by rw [if_pos rfl] at H; exact H
                    clear H
                    have H := H1
                    clear H1
                    obtain rfl := Option.some.inj H
                    go_wp2_with (first | (go_at_call 44; (with_reducible refine (ontimeref11_Signs.calls  t137 _ A70.out).mono ?_); rintro e w76 ⟨v138, rfl, ho0, hb⟩; have n0_ := Aside0.mk (Kd.R_lower ho0 (below_size (by repeat (first | (with_reducible first | exact HB.out | apply below_alloc | apply pw_below_drewN | apply below_drew1) | exact HB.out)))); have n1_ := Aside0.mk (below_step (by repeat (first | (with_reducible first | exact HB.out | apply below_alloc | apply pw_below_drewN | apply below_drew1) | exact HB.out)) hb); clear HB; have HO139 := n0_; have HB := n1_; clear n0_ n1_; (try clear hb); (try clear hb2); (try clear hk); (try clear hi); (try clear ho0); obtain ⟨Ao77, co77, eo77⟩ := Kd.R_slice HO139.out; subst eo77) | (go_at_call 20; (with_reducible refine (ontimeref11_In.calls k1 _ _ t137 a0 false _ ?side1 ?side2 A71.out).mono ?_); (case side1 => repeat (first | exact (Kd.R_reads' HO139.out).2.2 | (with_reducible refine Kd.C_alloc ?_ _) | (with_reducible refine Kd.C_drewN ?_ _) | (with_reducible refine Kd.C_drew ?_))); (case side2 => exact (Kd.R_reads' HO139.out).2.1); rintro e w' ⟨rfl, ⟨nd, rfl⟩⟩; (try first | exact ⟨rfl, _, World.drewN_drewN _ _ _⟩ | exact ⟨rfl, _, Eq.trans (World.drewN_drewN _ _ _) (congrArg (World.drewN _) (Nat.add_assoc _ _ _))⟩)))
                    repeat (go_quiet (first | (go_at_call 44; (with_reducible refine (ontimeref11_Signs.calls  t137 _ A70.out).mono ?_); rintro e w76 ⟨v138, rfl, ho0, hb⟩; have n0_ := Aside0.mk (Kd.R_lower ho0 (below_size (by repeat (first | (with_reducible first | exact HB.out | apply below_alloc | apply pw_below_drewN | apply below_drew1) | exact HB.out)))); have n1_ := Aside0.mk (below_step (by repeat (first | (with_reducible first | exact HB.out | apply below_alloc | apply pw_below_drewN | apply below_drew1) | exact HB.out)) hb); clear HB; have HO139 := n0_; have HB := n1_; clear n0_ n1_; (try clear hb); (try clear hb2); (try clear hk); (try clear hi); (try clear ho0); obtain ⟨Ao77, co77, eo77⟩ := Kd.R_slice HO139.out; subst eo77) | (go_at_call 20; (with_reducible refine (ontimeref11_In.calls k1 _ _ t137 a0 false _ ?side1 ?side2 A71.out).mono ?_); (case side1 => repeat (first | exact (Kd.R_reads' HO139.out).2.2 | (with_reducible refine Kd.C_alloc ?_ _) | (with_reducible refine Kd.C_drewN ?_ _) | (with_reducible refine Kd.C_drew ?_))); (case side2 => exact (Kd.R_reads' HO139.out).2.1); rintro e w' ⟨rfl, ⟨nd, rfl⟩⟩; (try first | exact ⟨rfl, _, World.drewN_drewN _ _ _⟩ | exact ⟨rfl, _, Eq.trans (World.drewN_drewN _ _ _) (congrArg (World.drewN _) (Nat.add_assoc _ _ _))⟩))); try go_wp2_with (first | (go_at_call 44; (with_reducible refine (ontimeref11_Signs.calls  t137 _ A70.out).mono ?_); rintro e w76 ⟨v138, rfl, ho0, hb⟩; have n0_ := Aside0.mk (Kd.R_lower ho0 (below_size (by repeat (first | (with_reducible first | exact HB.out | apply below_alloc | apply pw_below_drewN | apply below_drew1) | exact HB.out)))); have n1_ := Aside0.mk (below_step (by repeat (first | (with_reducible first | exact HB.out | apply below_alloc | apply pw_below_drewN | apply below_drew1) | exact HB.out)) hb); clear HB; have HO139 := n0_; have HB := n1_; clear n0_ n1_; (try clear hb); (try clear hb2); (try clear hk); (try clear hi); (try clear ho0); obtain ⟨Ao77, co77, eo77⟩ := Kd.R_slice HO139.out; subst eo77) | (go_at_call 20; (with_reducible refine (ontimeref11_In.calls k1 _ _ t137 a0 false _ ?side1 ?side2 A71.out).mono ?_); (case side1 => repeat (first | exact (Kd.R_reads' HO139.out).2.2 | (with_reducible refine Kd.C_alloc ?_ _) | (with_reducible refine Kd.C_drewN ?_ _) | (with_reducible refine Kd.C_drew ?_))); (case side2 => exact (Kd.R_reads' HO139.out).2.1); rintro e w' ⟨rfl, ⟨nd, rfl⟩⟩; (try first | exact ⟨rfl, _, World.drewN_drewN _ _ _⟩ | exact ⟨rfl, _, Eq.trans (World.drewN_drewN _ _ _) (congrArg (World.drewN _) (Nat.add_assoc _ _ _))⟩))))
                    go_ret
                    exact ⟨by first | rfl | (simp [errW_none, errW_some] <;> rfl) | (simp [*, errW_none, errW_some] <;> rfl), by repeat (first | (with_reducible first | exact HB.out | apply below_alloc | apply pw_below_drewN | apply below_drew1) | exact HB.out)⟩
                  · replace c75 := Bool.eq_false_iff.mpr c75
                    subst c75
                    have H1 : (if x6_1 = true then (some 5) else (some 0)) = some r := by rw [if_neg (show ¬ (false = true) by decide)] at H; exact H
                    clear H
                    have H := H1
                    clear H1
                    by_cases c78 : x6_1 = true
                    · subst c78
                      have H1 : (some 5) = some r := by rw [if_pos rfl] at H; exact H
                      clear H
                      have H := H1
                      clear H1
                      obtain rfl := Option.some.inj H
                      go_wp2_with (first | (go_at_call 44; (with_reducible refine (ontimeref11_Signs.calls  t137 _ A70.out).mono ?_); rintro e w79 ⟨v138, rfl, ho0, hb⟩; have n0_ := Aside0.mk (Kd.R_lower ho0 (below_size (by repeat (first | (with_reducible first | exact HB.out | apply below_alloc | apply pw_below_drewN | apply below_drew1) | exact HB.out)))); have n1_ := Aside0.mk (below_step (by repeat (first | (with_reducible first | exact HB.out | apply below_alloc | apply pw_below_drewN | apply below_drew1) | exact HB.out)) hb); clear HB; have HO139 := n0_; have HB := n1_; clear n0_ n1_; (try clear hb); (try clear hb2); (try clear hk); (try clear hi); (try clear ho0); obtain ⟨Ao80, co80, eo80⟩ := Kd.R_slice HO139.out; subst eo80) | (go_at_call 20; (with_reducible refine (ontimeref11_In.calls k1 _ _ t137 a0 false _ ?side1 ?side2 A71.out).mono ?_); (case side1 => repeat (first | exact (Kd.R_reads' HO139.out).2.2 | (with_reducible refine Kd.C_alloc ?_ _) | (with_reducible refine Kd.C_drewN ?_ _) | (with_reducible refine Kd.C_drew ?_))); (case side2 => exact (Kd.R_reads' HO139.out).2.1); rintro e w' ⟨rfl, ⟨nd, rfl⟩⟩; (try first | exact ⟨rfl, _, World.drewN_drewN _ _ _⟩ | exact ⟨rfl, _, Eq.trans (World.drewN_drewN _ _ _) (congrArg (World.drewN _) (Nat.add_assoc _ _ _))⟩)))
                      repeat (go_quiet (first | (go_at_call 44; (with_reducible refine (ontimeref11_Signs.calls  t137 _ A70.out).mono ?_); rintro e w79 ⟨v138, rfl, ho0, hb⟩; have n0_ := Aside0.mk (Kd.R_lower ho0 (below_size (by repeat (first | (with_reducible first | exact HB.out | apply below_alloc | apply pw_below_drewN | apply below_drew1) | exact HB.out)))); have n1_ := Aside0.mk (below_step (by repeat (first | (with_reducible first | exact HB.out | apply below_alloc | apply pw_below_drewN | apply below_drew1) | exact HB.out)) hb); clear HB; have HO139 := n0_; have HB := n1_; clear n0_ n1_; (try clear hb); (try clear hb2); (try clear hk); (try clear hi); (try clear ho0); obtain ⟨Ao80, co80, eo80⟩ := Kd.R_slice HO139.out; subst eo80) | (go_at_call 20; (with_reducible refine (ontimeref11_In.calls k1 _ _ t137 a0 false _ ?side1 ?side2 A71.out).mono ?_); (case side1 => repeat (first | exact (Kd.R_reads' HO139.out).2.2 | (with_reducible refine Kd.C_alloc ?_ _) | (with_reducible refine Kd.C_drewN ?_ _) | (with_reducible refine Kd.C_drew ?_))); (case side2 => exact (Kd.R_reads' HO139.out).2.1); rintro e w' ⟨rfl, ⟨nd, rfl⟩⟩; (try first | exact ⟨rfl, _, World.drewN_drewN _ _ _⟩ | exact ⟨rfl, _, Eq.trans (World.drewN_drewN _ _ _) (congrArg (World.drewN _) (Nat.add_assoc _ _ _))⟩))); try go_wp2_with (first | (go_at_call 44; (with_reducible refine (ontimeref11_Signs.calls  t137 _ A70.out).mono ?_); rintro e w79 ⟨v138, rfl, ho0, hb⟩; have n0_ := Aside0.mk (Kd.R_lower ho0 (below_size (by repeat (first | (with_reducible first | exact HB.out | apply below_alloc | apply pw_below_drewN | apply below_drew1) | exact HB.out)))); have n1_ := Aside0.mk (below_step (by repeat (first | (with_reducible first | exact HB.out | apply below_alloc | apply pw_below_drewN | apply below_drew1) | exact HB.out)) hb); clear HB; have HO139 := n0_; have HB := n1_; clear n0_ n1_; (try clear hb); (try clear hb2); (try clear hk); (try clear hi); (try clear ho0); obtain ⟨Ao80, co80, eo80⟩ := Kd.R_slice HO139.out; subst eo80) | (go_at_call 20; (with_reducible refine (ontimeref11_In.calls k1 _ _ t137 a0 false _ ?side1 ?side2 A71.out).mono ?_); (case side1 => repeat (first | exact (Kd.R_reads' HO139.out).2.2 | (with_reducible refine Kd.C_alloc ?_ _) | (with_reducible refine Kd.C_drewN ?_ _) | (with_reducible refine Kd.C_drew ?_))); (case side2 => exact (Kd.R_reads' HO139.out).2.1); rintro e w' ⟨rfl, ⟨nd, rfl⟩⟩; (try first | exact ⟨rfl, _, World.drewN_drewN _ _ _⟩ | exact ⟨rfl, _, Eq.trans (World.drewN_drewN _ _ _) (congrArg (World.drewN _) (Nat.add_assoc _ _ _))⟩))))
                      go_ret
                      exact ⟨by first | rfl | (simp [errW_none, errW_some] <;> rfl) | (simp [*, errW_none, errW_some] <;> rfl), by repeat (first | (with_reducible first | exact HB.out | apply below_alloc | apply pw_below_drewN | apply below_drew1) | exact HB.out)⟩
                    · replace c78 := Bool.eq_false_iff.mpr c78
                      subst c78
                      have H1 : (some 0) = some r := by rw [if_neg (show ¬ (false = true) by decide)] at H; exact H
                      clear H
                      have H := H1
                      clear H1
                      obtain rfl := Option.some.inj H
                      go_wp2_with (first | (go_at_call 44; (with_reducible refine (ontimeref11_Signs.calls  t137 _ A70.out).mono ?_); rintro e w81 ⟨v138, rfl, ho0, hb⟩; have n0_ := Aside0.mk (Kd.R_lower ho0 (below_size (by repeat (first | (with_reducible first | exact HB.out | apply below_alloc | apply pw_below_drewN | apply below_drew1) | exact HB.out)))); have n1_ := Aside0.mk (below_step (by repeat (first | (with_reducible first | exact HB.out | apply below_alloc | apply pw_below_drewN | apply below_drew1) | exact HB.out)) hb); clear HB; have HO139 := n0_; have HB := n1_; clear n0_ n1_; (try clear hb); (try clear hb2); (try clear hk); (try clear hi); (try clear ho0); obtain ⟨Ao82, co82, eo82⟩ := Kd.R_slice HO139.out; subst eo82) | (go_at_call 20; (with_reducible refine (ontimeref11_In.calls k1 _ _ t137 a0 false _ ?side1 ?side2 A71.out).mono ?_); (case side1 => repeat (first | exact (Kd.R_reads' HO139.out).2.2 | (with_reducible refine Kd.C_alloc ?_ _) | (with_reducible refine Kd.C_drewN ?_ _) | (with_reducible refine Kd.C_drew ?_))); (case side2 => exact (Kd.R_reads' HO139.out).2.1); rintro e w' ⟨rfl, ⟨nd, rfl⟩⟩; (try first | exact ⟨rfl, _, World.drewN_drewN _ _ _⟩ | exact ⟨rfl, _, Eq.trans (World.drewN_drewN _ _ _) (congrArg (World.drewN _) (Nat.add_assoc _ _ _))⟩)))
                      repeat (go_quiet (first | (go_at_call 44; (with_reducible refine (ontimeref11_Signs.calls  t137 _ A70.out).mono ?_); rintro e w81 ⟨v138, rfl, ho0, hb⟩; have n0_ := Aside0.mk (Kd.R_lower ho0 (below_size (by repeat (first | (with_reducible first | exact HB.out | apply below_alloc | apply pw_below_drewN | apply below_drew1) | exact HB.out)))); have n1_ := Aside0.mk (below_step (by repeat (first | (with_reducible first | exact HB.out | apply below_alloc | apply pw_below_drewN | apply below_drew1) | exact HB.out)) hb); clear HB; have HO139 := n0_; have HB := n1_; clear n0_ n1_; (try clear hb); (try clear hb2); (try clear hk); (try clear hi); (try clear ho0); obtain ⟨Ao82, co82, eo82⟩ := Kd.R_slice HO139.out; subst eo82) | (go_at_call 20; (with_reducible refine (ontimeref11_In.calls k1 _ _ t137 a0 false _ ?side1 ?side2 A71.out).mono ?_); (case side1 => repeat (first | exact (Kd.R_reads' HO139.out).2.2 | (with_reducible refine Kd.C_alloc ?_ _) | (with_reducible refine Kd.C_drewN ?_ _) | (with_reducible refine Kd.C_drew ?_))); (case side2 => exact (Kd.R_reads' HO139.out).2.1); rintro e w' ⟨rfl, ⟨nd, rfl⟩⟩; (try first | exact ⟨rfl, _, World.drewN_drewN _ _ _⟩ | exact ⟨rfl, _, Eq.trans (World.drewN_drewN _ _ _) (congrArg (World.drewN _) (Nat.add_assoc _ _ _))⟩))); try go_wp2_with (first | (go_at_call 44; (with_reducible refine (ontimeref11_Signs.calls  t137 _ A70.out).mono ?_); rintro e w81 ⟨v138, rfl, ho0, hb⟩; have n0_ := Aside0.mk (Kd.R_lower ho0 (below_size (by repeat (first | (with_reducible first | exact HB.out | apply below_alloc | apply pw_below_drewN | apply below_drew1) | exact HB.out)))); have n1_ := Aside0.mk (below_step (by repeat (first | (with_reducible first | exact HB.out | apply below_alloc | apply pw_below_drewN | apply below_drew1) | exact HB.out)) hb); clear HB; have HO139 := n0_; have HB := n1_; clear n0_ n1_; (try clear hb); (try clear hb2); (try clear hk); (try clear hi); (try clear ho0); obtain ⟨Ao82, co82, eo82⟩ := Kd.R_slice HO139.out; subst eo82) | (go_at_call 20; (with_reducible refine (ontimeref11_In.calls k1 _ _ t137 a0 false _ ?side1 ?side2 A71.out).mono ?_); (case side1 => repeat (first | exact (Kd.R_reads' HO139.out).2.2 | (with_reducible refine Kd.C_alloc ?_ _) | (with_reducible refine Kd.C_drewN ?_ _) | (with_reducible refine Kd.C_drew ?_))); (case side2 => exact (Kd.R_reads' HO139.out).2.1); rintro e w' ⟨rfl, ⟨nd, rfl⟩⟩; (try first | exact ⟨rfl, _, World.drewN_drewN _ _ _⟩ | exact ⟨rfl, _, Eq.trans (World.drewN_drewN _ _ _) (congrArg (World.drewN _) (Nat.add_assoc _ _ _))⟩))))
                      go_ret
                      exact ⟨by first | rfl | (simp [errW_none, errW_some] <;> rfl) | (simp [*, errW_none, errW_some] <;> rfl), by repeat (first | (with_reducible first | exact HB.out | apply below_alloc | apply pw_below_drewN | apply below_drew1) | exact HB.out)⟩
    · rw [if_neg c3] at H
      exact absurd H (by simp)

end Go.Proofs.YtjdljjjkmjhdnaaDoor.P
