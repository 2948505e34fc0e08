-- WRITTEN by myprint.py (a program of this session's over the kit's print); Lean checks it.
import Derived.Test.YtjdljjjkmjhdnaaDoorPx0
import Derived.Test.YtjdljjjkmjhdnaaDoorPx2
import Derived.Test.YtjdljjjkmjhdnaaDoorLaid
namespace Go.Proofs.YtjdljjjkmjhdnaaDoor.P
open Go.RowKit Go.Proofs.YtjdljjjkmjhdnaaDoorW.PrintWords Go.Proofs.YtjdljjjkmjhdnaaDoorW.PrintLast Go.Proofs.YtjdljjjkmjhdnaaDoorW.PrintMore
attribute [local go_sem] max2_int min2_int max_two min_two max_three min_three max_four min_four   -- for this text's walks alone
set_option linter.unusedVariables false
set_option linter.unusedSimpArgs false

/-! ### ontimelaw11_LexerSuffix: function 5 -/
mutual
def ontimelaw11_LexerSuffix.j0 : Nat → ByteArray → Int → List (S33) → Bool → Option (Bool)
  | 0, _, _, _, _ => none
  | k + 1, x0, x1, x5, x37 => if x37 = true then ((ontimelaw11_awake.f k).bind fun t190 => (some t190)) else (if (x5.length : Int) = 0 then (none) else (if 0 ≤ (Int.tmod (wrap64 (x1)) (x5.length : Int)) then (if (Int.tmod (wrap64 (x1)) (x5.length : Int)) < (x5.length : Int) then (if ((rd_T33 x5 (Int.tmod (wrap64 (x1)) (x5.length : Int))).f2) < 0 then (ontimelaw11_LexerSuffix.j1 k x0 x5 (Int.tmod (wrap64 (x1)) (x5.length : Int)) ((rd_T33 x5 (Int.tmod (wrap64 (x1)) (x5.length : Int))).f2) true) else (ontimelaw11_LexerSuffix.j1 k x0 x5 (Int.tmod (wrap64 (x1)) (x5.length : Int)) ((rd_T33 x5 (Int.tmod (wrap64 (x1)) (x5.length : Int))).f2) (decide (((rd_T33 x5 (Int.tmod (wrap64 (x1)) (x5.length : Int))).f2) > (x0.size : Int))))) else (none)) else (none)))
def ontimelaw11_LexerSuffix.j1 : Nat → ByteArray → List (S33) → Int → Int → Bool → Option (Bool)
  | 0, _, _, _, _, _ => none
  | k + 1, x0, x5, x8, x9, x56 => if x56 = true then (some false) else (if 0 ≤ x9 then (if x9 ≤ (x0.size : Int) then ((lexer_Lex.f k (x0.extract (x9 : Int).toNat x0.size)).bind fun bt192 => (if bt192.2.2 = 0 then (ontimelaw11_LexerSuffix.j2 k x5 x8 x9 bt192.1 ((bt192.1.length : Int) != (wrap64 ((x5.length : Int) - x8)))) else (ontimelaw11_LexerSuffix.j2 k x5 x8 x9 bt192.1 true))) else (none)) else (none))
def ontimelaw11_LexerSuffix.j2 : Nat → List (S33) → Int → Int → List (S33) → Bool → Option (Bool)
  | 0, _, _, _, _, _ => none
  | k + 1, x5, x8, x9, x10, x75 => if x75 = true then (some false) else (ontimelaw11_LexerSuffix.l0 k x5 x8 x9 x10 (x10.length : Int) 0)
def ontimelaw11_LexerSuffix.l0 : Nat → List (S33) → Int → Int → List (S33) → Int → Int → Option (Bool)
  | 0, _, _, _, _, _, _ => none
  | k + 1, x5, x8, x9, x76, x77, x78 => if x78 < x77 then (if 0 ≤ x78 then (if x78 < (x76.length : Int) then (if 0 ≤ (wrap64 (x8 + x78)) then (if (wrap64 (x8 + x78)) < (x5.length : Int) then (if ((rd_T33 x76 x78).f0) = ((rd_T33 x5 (wrap64 (x8 + x78))).f0) then (if ((rd_T33 x76 x78).f1).toList = ((rd_T33 x5 (wrap64 (x8 + x78))).f1).toList then (if ((rd_T33 x76 x78).f2) = (wrap64 (((rd_T33 x5 (wrap64 (x8 + x78))).f2) - x9)) then (ontimelaw11_LexerSuffix.l0 k x5 x8 x9 x76 x77 (wrap64 (x78 + 1))) else (some false)) else (some false)) else (some false)) else (none)) else (none)) else (none)) else (none)) else (some true)
end
def ontimelaw11_LexerSuffix.f (k : Nat) (a0 : ByteArray) (a1 : Int) : Option (Bool) := (lexer_Lex.f k a0).bind fun bt184 => ((ontimelaw11_awake.f k).bind fun t189 => (if t189 = true then (if (a0.size : Int) > 600 then (ontimelaw11_LexerSuffix.j0 k a0 a1 bt184.1 true) else (if bt184.2.2 = 0 then (ontimelaw11_LexerSuffix.j0 k a0 a1 bt184.1 ((bt184.1.length : Int) == 0)) else (ontimelaw11_LexerSuffix.j0 k a0 a1 bt184.1 true))) else (ontimelaw11_LexerSuffix.j0 k a0 a1 bt184.1 true)))
theorem ontimelaw11_LexerSuffix.mono_l : ∀ k, (∀ y0 y1 y2 y3, LeO (ontimelaw11_LexerSuffix.j0 k y0 y1 y2 y3) (ontimelaw11_LexerSuffix.j0 (k + 1) y0 y1 y2 y3)) ∧ (∀ y0 y1 y2 y3 y4, LeO (ontimelaw11_LexerSuffix.j1 k y0 y1 y2 y3 y4) (ontimelaw11_LexerSuffix.j1 (k + 1) y0 y1 y2 y3 y4)) ∧ (∀ y0 y1 y2 y3 y4, LeO (ontimelaw11_LexerSuffix.j2 k y0 y1 y2 y3 y4) (ontimelaw11_LexerSuffix.j2 (k + 1) y0 y1 y2 y3 y4)) ∧ (∀ y0 y1 y2 y3 y4 y5, LeO (ontimelaw11_LexerSuffix.l0 k y0 y1 y2 y3 y4 y5) (ontimelaw11_LexerSuffix.l0 (k + 1) y0 y1 y2 y3 y4 y5))
  | 0 => ⟨fun _ _ _ _ r h => by simp [ontimelaw11_LexerSuffix.j0] at h, fun _ _ _ _ _ r h => by simp [ontimelaw11_LexerSuffix.j1] at h, fun _ _ _ _ _ r h => by simp [ontimelaw11_LexerSuffix.j2] at h, fun _ _ _ _ _ _ r h => by simp [ontimelaw11_LexerSuffix.l0] at h⟩
  | k + 1 => by
    obtain ⟨ih0, ih1, ih2, ih3⟩ := ontimelaw11_LexerSuffix.mono_l k
    refine ⟨?_, ?_, ?_, ?_⟩
    · intro y0 y1 y2 y3
      unfold ontimelaw11_LexerSuffix.j0
      repeat' first
      | (with_reducible exact ih0 _ _ _ _)
      | (with_reducible exact ih1 _ _ _ _ _)
      | (with_reducible exact ih2 _ _ _ _ _)
      | (with_reducible exact ih3 _ _ _ _ _ _)
      | (with_reducible exact lexer_Lex.mono _ _)
      | (with_reducible exact ontimelaw11_awake.mono _)
      | (with_reducible exact LeO.refl _)
      | (with_reducible exact LeO.none _)
      | (with_reducible refine LeO.ite ?_ ?_)
      | (with_reducible refine LeO.bind ?_ (fun _ => ?_))
      | exact ih0 _ _ _ _
      | exact ih1 _ _ _ _ _
      | exact ih2 _ _ _ _ _
      | exact ih3 _ _ _ _ _ _
      | exact lexer_Lex.mono _ _
      | exact ontimelaw11_awake.mono _
      | exact LeO.none _
      | refine LeO.ite ?_ ?_
      | refine LeO.bind ?_ (fun _ => ?_)
    · intro y0 y1 y2 y3 y4
      unfold ontimelaw11_LexerSuffix.j1
      repeat' first
      | (with_reducible exact ih0 _ _ _ _)
      | (with_reducible exact ih1 _ _ _ _ _)
      | (with_reducible exact ih2 _ _ _ _ _)
      | (with_reducible exact ih3 _ _ _ _ _ _)
      | (with_reducible exact lexer_Lex.mono _ _)
      | (with_reducible exact ontimelaw11_awake.mono _)
      | (with_reducible exact LeO.refl _)
      | (with_reducible exact LeO.none _)
      | (with_reducible refine LeO.ite ?_ ?_)
      | (with_reducible refine LeO.bind ?_ (fun _ => ?_))
      | exact ih0 _ _ _ _
      | exact ih1 _ _ _ _ _
      | exact ih2 _ _ _ _ _
      | exact ih3 _ _ _ _ _ _
      | exact lexer_Lex.mono _ _
      | exact ontimelaw11_awake.mono _
      | exact LeO.none _
      | refine LeO.ite ?_ ?_
      | refine LeO.bind ?_ (fun _ => ?_)
    · intro y0 y1 y2 y3 y4
      unfold ontimelaw11_LexerSuffix.j2
      repeat' first
      | (with_reducible exact ih0 _ _ _ _)
      | (with_reducible exact ih1 _ _ _ _ _)
      | (with_reducible exact ih2 _ _ _ _ _)
      | (with_reducible exact ih3 _ _ _ _ _ _)
      | (with_reducible exact lexer_Lex.mono _ _)
      | (with_reducible exact ontimelaw11_awake.mono _)
      | (with_reducible exact LeO.refl _)
      | (with_reducible exact LeO.none _)
      | (with_reducible refine LeO.ite ?_ ?_)
      | (with_reducible refine LeO.bind ?_ (fun _ => ?_))
      | exact ih0 _ _ _ _
      | exact ih1 _ _ _ _ _
      | exact ih2 _ _ _ _ _
      | exact ih3 _ _ _ _ _ _
      | exact lexer_Lex.mono _ _
      | exact ontimelaw11_awake.mono _
      | exact LeO.none _
      | refine LeO.ite ?_ ?_
      | refine LeO.bind ?_ (fun _ => ?_)
    · intro y0 y1 y2 y3 y4 y5
      unfold ontimelaw11_LexerSuffix.l0
      repeat' first
      | (with_reducible exact ih0 _ _ _ _)
      | (with_reducible exact ih1 _ _ _ _ _)
      | (with_reducible exact ih2 _ _ _ _ _)
      | (with_reducible exact ih3 _ _ _ _ _ _)
      | (with_reducible exact lexer_Lex.mono _ _)
      | (with_reducible exact ontimelaw11_awake.mono _)
      | (with_reducible exact LeO.refl _)
      | (with_reducible exact LeO.none _)
      | (with_reducible refine LeO.ite ?_ ?_)
      | (with_reducible refine LeO.bind ?_ (fun _ => ?_))
      | exact ih0 _ _ _ _
      | exact ih1 _ _ _ _ _
      | exact ih2 _ _ _ _ _
      | exact ih3 _ _ _ _ _ _
      | exact lexer_Lex.mono _ _
      | exact ontimelaw11_awake.mono _
      | exact LeO.none _
      | refine LeO.ite ?_ ?_
      | refine LeO.bind ?_ (fun _ => ?_)
theorem ontimelaw11_LexerSuffix.mono : ∀ a0 a1 k, LeO (ontimelaw11_LexerSuffix.f k a0 a1) (ontimelaw11_LexerSuffix.f (k + 1) a0 a1) := by
  intro a0 a1 k
  obtain ⟨ih0, ih1, ih2, ih3⟩ := ontimelaw11_LexerSuffix.mono_l k
  unfold ontimelaw11_LexerSuffix.f
  repeat' first
      | (with_reducible exact ih0 _ _ _ _)
      | (with_reducible exact ih1 _ _ _ _ _)
      | (with_reducible exact ih2 _ _ _ _ _)
      | (with_reducible exact ih3 _ _ _ _ _ _)
      | (with_reducible exact lexer_Lex.mono _ _)
      | (with_reducible exact ontimelaw11_awake.mono _)
      | (with_reducible exact LeO.refl _)
      | (with_reducible exact LeO.none _)
      | (with_reducible refine LeO.ite ?_ ?_)
      | (with_reducible refine LeO.bind ?_ (fun _ => ?_))
      | exact ih0 _ _ _ _
      | exact ih1 _ _ _ _ _
      | exact ih2 _ _ _ _ _
      | exact ih3 _ _ _ _ _ _
      | exact lexer_Lex.mono _ _
      | exact ontimelaw11_awake.mono _
      | exact LeO.none _
      | refine LeO.ite ?_ ?_
      | refine LeO.bind ?_ (fun _ => ?_)
set_option maxHeartbeats 8000000 in
set_option maxRecDepth 100000 in
theorem ontimelaw11_LexerSuffix.calls (k : Nat) (a0 : ByteArray) (a1 : Int) (r : Bool) (w : World) (hL : Laid w) (h : ontimelaw11_LexerSuffix.f k a0 a1 = some r) :
    Calls Tryd.prog 5 #[.string a0, .int .u8 a1] w fun e w' => e = .returned (.bool r) ∧ Below w.heap.size w w' := by
  have hu33 := Tryd.underlying33
  have HB := Aside0.mk (Below.refl w.heap.size w)
  have H : ((lexer_Lex.f k a0).bind fun bt184 => ((ontimelaw11_awake.f k).bind fun t189 => (if t189 = true then (if (a0.size : Int) > 600 then (ontimelaw11_LexerSuffix.j0 k a0 a1 bt184.1 true) else (if bt184.2.2 = 0 then (ontimelaw11_LexerSuffix.j0 k a0 a1 bt184.1 ((bt184.1.length : Int) == 0)) else (ontimelaw11_LexerSuffix.j0 k a0 a1 bt184.1 true))) else (ontimelaw11_LexerSuffix.j0 k a0 a1 bt184.1 true)))) = some r := h
  clear h
  replace H := Option.bind_eq_some_iff.mp H
  obtain ⟨⟨t184, t185, t186⟩, A30, H⟩ := H
  replace H : ((ontimelaw11_awake.f k).bind fun t189 => (if t189 = true then (if (a0.size : Int) > 600 then (ontimelaw11_LexerSuffix.j0 k a0 a1 t184 true) else (if t186 = 0 then (ontimelaw11_LexerSuffix.j0 k a0 a1 t184 ((t184.length : Int) == 0)) else (ontimelaw11_LexerSuffix.j0 k a0 a1 t184 true))) else (ontimelaw11_LexerSuffix.j0 k a0 a1 t184 true))) = some r := H
  have A3 := Aside0.mk A30
  clear A30
  have HC4 := Aside0.mk H
  clear H
  go_enter Tryd.func5, Tryd.ntmps5
  go_upto_region 2 with (first | ((with_reducible refine gate_callee (f := 13) rfl ?_); refine goesL_ (some 18) rfl rfl Tryd.func13 (by kernel_rfl) rfl #[.string a0] rfl (by (try simp only [List.map_toArray, List.map_cons, List.map_nil]); first | done | rfl | (simp only [List.length_drop, List.length_take]; rfl)) ?_; (with_reducible refine (lexer_Lex.calls k a0 t184 t185 t186 _ ?side1 A3.out).mono ?_); (case side1 => exact Laid.below hL (by repeat (first | (with_reducible first | exact HB.out | apply below_alloc | apply pw_below_drewN | apply below_drew1) | exact HB.out))); rintro e w5 ⟨v187, rfl, ho0, hb⟩; refine ⟨_, rfl, ?_⟩; have n0_ := Aside0.mk (Kd.R_lower ho0 (below_size (by repeat (first | (with_reducible first | exact HB.out | apply below_alloc | apply pw_below_drewN | apply below_drew1) | exact HB.out)))); have n1_ := Aside0.mk (below_step (by repeat (first | (with_reducible first | exact HB.out | apply below_alloc | apply pw_below_drewN | apply below_drew1) | exact HB.out)) hb); clear HB; have HO188 := n0_; have HB := n1_; clear n0_ n1_; (try clear hb); (try clear hb2); (try clear hk); (try clear hi); (try clear ho0)))
  (try simp only [Act.put, List.setIfInBounds_toArray, List.set_cons_zero, List.set_cons_succ])
  go_cut [37] (fun v37 wc => ∃ (kq : Nat) (x37_3 : Bool), v37 = .bool x37_3 ∧ Aside0 (ontimelaw11_LexerSuffix.j0 kq a0 a1 t184 x37_3 = some r) ∧ Aside0 (kq ≤ k) ∧ Aside0 (Kd.R k33 33 wc w.heap.size (fun _ => True) v187 t184) ∧ Aside0 (Below w.heap.size w wc))
  case first =>
    have H := HC4.out
    clear HC4
    replace H := Option.bind_eq_some_iff.mp H
    obtain ⟨t189, A60, H⟩ := H
    replace H : (if t189 = true then (if (a0.size : Int) > 600 then (ontimelaw11_LexerSuffix.j0 k a0 a1 t184 true) else (if t186 = 0 then (ontimelaw11_LexerSuffix.j0 k a0 a1 t184 ((t184.length : Int) == 0)) else (ontimelaw11_LexerSuffix.j0 k a0 a1 t184 true))) else (ontimelaw11_LexerSuffix.j0 k a0 a1 t184 true)) = some r := H
    have A6 := Aside0.mk A60
    clear A60
    by_cases c7 : t189 = true
    · subst c7
      have H1 : (if (a0.size : Int) > 600 then (ontimelaw11_LexerSuffix.j0 k a0 a1 t184 true) else (if t186 = 0 then (ontimelaw11_LexerSuffix.j0 k a0 a1 t184 ((t184.length : Int) == 0)) else (ontimelaw11_LexerSuffix.j0 k a0 a1 t184 true))) = some r := by rw [if_pos rfl] at H; exact H
      clear H
      have H := H1
      clear H1
      by_cases c8 : (a0.size : Int) > 600
      · rw [if_pos c8] at H
        have c8b0 : decide (600 < (a0.size : Int)) = true := decide_eq_true c8
        have c8b1 : decide (600 < a0.size) = true := decide_eq_true (by omega)
        clear c8
        (first | rw [c8b0] | (simp only [i64_w, i32_w]; rw [c8b0]) | skip)
        have H' := Aside0.mk H
        clear H
        go_wp2_with (first | ((with_reducible refine gate_callee (f := 12) rfl ?_); refine goesL_ (some 22) rfl rfl Tryd.func12 (by kernel_rfl) rfl #[] rfl (by (try simp only [List.map_toArray, List.map_cons, List.map_nil]); first | done | rfl | (simp only [List.length_drop, List.length_take]; rfl)) ?_; (with_reducible refine (ontimelaw11_awake.calls k  true _ ?side1 A6.out).mono ?_); (case side1 => exact Laid.below hL (by repeat (first | (with_reducible first | exact HB.out | apply below_alloc | apply pw_below_drewN | apply below_drew1) | exact HB.out))); rintro e w9 ⟨rfl, hb⟩; refine ⟨_, rfl, ?_⟩; have n0_ := Aside0.mk (Kd.R_below (by (with_reducible repeat (first | apply Kd.R_alloc | apply Kd.R_drewN | apply Kd.R_drew)); exact HO188.out) hb); have n1_ := Aside0.mk (below_step (by repeat (first | (with_reducible first | exact HB.out | apply below_alloc | apply pw_below_drewN | apply below_drew1) | exact HB.out)) hb); clear HO188; clear HB; have HO188 := n0_; have HB := n1_; clear n0_ n1_; (try clear hb); (try clear hb2); (try clear hk); (try clear hi)))
        go_meet
        case rel => exact ⟨_, (true), (by first | rfl | (simp; done) | (simp [*]; done)), H', ⟨by first | omega | exact Nat.le_refl _⟩, ⟨by (with_reducible repeat (first | apply Kd.R_alloc | apply Kd.R_drewN | apply Kd.R_drew)); exact HO188.out⟩, ⟨by repeat (first | (with_reducible first | exact HB.out | apply below_alloc | apply pw_below_drewN | apply below_drew1) | exact HB.out)⟩⟩
      · rw [if_neg c8] at H
        have c8b0 : decide (600 < (a0.size : Int)) = false := decide_eq_false c8
        have c8b1 : decide (600 < a0.size) = false := decide_eq_false (by omega)
        clear c8
        (first | rw [c8b0] | (simp only [i64_w, i32_w]; rw [c8b0]) | skip)
        by_cases c10 : t186 = 0
        · rw [if_pos c10] at H
          have c10b0 : (t186 == 0) = true := beq_iff_eq.mpr c10
          have c10b1 : (t186 != 0) = false := bne_eq_false_iff_eq.mpr c10
          clear c10
          have H' := Aside0.mk H
          clear H
          go_wp2_with (first | ((with_reducible refine gate_callee (f := 12) rfl ?_); refine goesL_ (some 22) rfl rfl Tryd.func12 (by kernel_rfl) rfl #[] rfl (by (try simp only [List.map_toArray, List.map_cons, List.map_nil]); first | done | rfl | (simp only [List.length_drop, List.length_take]; rfl)) ?_; (with_reducible refine (ontimelaw11_awake.calls k  true _ ?side1 A6.out).mono ?_); (case side1 => exact Laid.below hL (by repeat (first | (with_reducible first | exact HB.out | apply below_alloc | apply pw_below_drewN | apply below_drew1) | exact HB.out))); rintro e w11 ⟨rfl, hb⟩; refine ⟨_, rfl, ?_⟩; have n0_ := Aside0.mk (Kd.R_below (by (with_reducible repeat (first | apply Kd.R_alloc | apply Kd.R_drewN | apply Kd.R_drew)); exact HO188.out) hb); have n1_ := Aside0.mk (below_step (by repeat (first | (with_reducible first | exact HB.out | apply below_alloc | apply pw_below_drewN | apply below_drew1) | exact HB.out)) hb); clear HO188; clear HB; have HO188 := n0_; have HB := n1_; clear n0_ n1_; (try clear hb); (try clear hb2); (try clear hk); (try clear hi); obtain ⟨Ao12, co12, eo12⟩ := Kd.R_slice HO188.out; subst eo12))
          go_meet
          case rel => exact ⟨_, (((t184.length : Int) == 0)), (by first | rfl | (simp; done) | (simp [*]; done)), H', ⟨by first | omega | exact Nat.le_refl _⟩, ⟨by (with_reducible repeat (first | apply Kd.R_alloc | apply Kd.R_drewN | apply Kd.R_drew)); exact HO188.out⟩, ⟨by repeat (first | (with_reducible first | exact HB.out | apply below_alloc | apply pw_below_drewN | apply below_drew1) | exact HB.out)⟩⟩
        · rw [if_neg c10] at H
          have c10b0 : (t186 == 0) = false := beq_eq_false_iff_ne.mpr c10
          have c10b1 : (t186 != 0) = true := bne_iff_ne.mpr c10
          have H' := Aside0.mk H
          clear H
          go_wp2_with (first | ((with_reducible refine gate_callee (f := 12) rfl ?_); refine goesL_ (some 22) rfl rfl Tryd.func12 (by kernel_rfl) rfl #[] rfl (by (try simp only [List.map_toArray, List.map_cons, List.map_nil]); first | done | rfl | (simp only [List.length_drop, List.length_take]; rfl)) ?_; (with_reducible refine (ontimelaw11_awake.calls k  true _ ?side1 A6.out).mono ?_); (case side1 => exact Laid.below hL (by repeat (first | (with_reducible first | exact HB.out | apply below_alloc | apply pw_below_drewN | apply below_drew1) | exact HB.out))); rintro e w13 ⟨rfl, hb⟩; refine ⟨_, rfl, ?_⟩; have n0_ := Aside0.mk (Kd.R_below (by (with_reducible repeat (first | apply Kd.R_alloc | apply Kd.R_drewN | apply Kd.R_drew)); exact HO188.out) hb); have n1_ := Aside0.mk (below_step (by repeat (first | (with_reducible first | exact HB.out | apply below_alloc | apply pw_below_drewN | apply below_drew1) | exact HB.out)) hb); clear HO188; clear HB; have HO188 := n0_; have HB := n1_; clear n0_ n1_; (try clear hb); (try clear hb2); (try clear hk); (try clear hi)))
          go_meet
          case rel => exact ⟨_, (true), (by first | rfl | (simp; done) | (simp [*]; done)), H', ⟨by first | omega | exact Nat.le_refl _⟩, ⟨by (with_reducible repeat (first | apply Kd.R_alloc | apply Kd.R_drewN | apply Kd.R_drew)); exact HO188.out⟩, ⟨by repeat (first | (with_reducible first | exact HB.out | apply below_alloc | apply pw_below_drewN | apply below_drew1) | exact HB.out)⟩⟩
    · replace c7 := Bool.eq_false_iff.mpr c7
      subst c7
      have H1 : (ontimelaw11_LexerSuffix.j0 k a0 a1 t184 true) = some r := by rw [if_neg (show ¬ (false = true) by decide)] at H; exact H
      clear H
      have H := H1
      clear H1
      have H' := Aside0.mk H
      clear H
      go_wp2_with (first | ((with_reducible refine gate_callee (f := 12) rfl ?_); refine goesL_ (some 22) rfl rfl Tryd.func12 (by kernel_rfl) rfl #[] rfl (by (try simp only [List.map_toArray, List.map_cons, List.map_nil]); first | done | rfl | (simp only [List.length_drop, List.length_take]; rfl)) ?_; (with_reducible refine (ontimelaw11_awake.calls k  false _ ?side1 A6.out).mono ?_); (case side1 => exact Laid.below hL (by repeat (first | (with_reducible first | exact HB.out | apply below_alloc | apply pw_below_drewN | apply below_drew1) | exact HB.out))); rintro e w14 ⟨rfl, hb⟩; refine ⟨_, rfl, ?_⟩; have n0_ := Aside0.mk (Kd.R_below (by (with_reducible repeat (first | apply Kd.R_alloc | apply Kd.R_drewN | apply Kd.R_drew)); exact HO188.out) hb); have n1_ := Aside0.mk (below_step (by repeat (first | (with_reducible first | exact HB.out | apply below_alloc | apply pw_below_drewN | apply below_drew1) | exact HB.out)) hb); clear HO188; clear HB; have HO188 := n0_; have HB := n1_; clear n0_ n1_; (try clear hb); (try clear hb2); (try clear hk); (try clear hi)))
      go_meet
      case rel => exact ⟨_, (true), (by first | rfl | (simp; done) | (simp [*]; done)), H', ⟨by first | omega | exact Nat.le_refl _⟩, ⟨by (with_reducible repeat (first | apply Kd.R_alloc | apply Kd.R_drewN | apply Kd.R_drew)); exact HO188.out⟩, ⟨by repeat (first | (with_reducible first | exact HB.out | apply below_alloc | apply pw_below_drewN | apply below_drew1) | exact HB.out)⟩⟩
  case rest =>
    clear HC4
    try clear c1
    try clear p2
    try clear c5
    try clear c7
    try clear c8
    try clear c8b0
    try clear c8b1
    try clear c10
    try clear c10b0
    try clear c10b1
    try clear c12
    try clear c13
    obtain ⟨kq, x37_3, rfl, HA, HJ3, HO_5, HB⟩ := hcut
    cases kq with
    | zero => exact absurd HA.out (by simp [ontimelaw11_LexerSuffix.j0])
    | succ kj3 =>
      have H := HA.out
      clear HA
      simp only [ontimelaw11_LexerSuffix.j0] at H
      by_cases c15 : x37_3 = true
      · subst c15
        have H1 : ((ontimelaw11_awake.f kj3).bind fun t190 => (some t190)) = some r := by rw [if_pos rfl] at H; exact H
        clear H
        have H := H1
        clear H1
        replace H := Option.bind_eq_some_iff.mp H
        obtain ⟨t190, A160, H⟩ := H
        replace H : (some t190) = some r := H
        have A16 := Aside0.mk A160
        clear A160
        obtain rfl := Option.some.inj H
        go_wp2_with (first | ((with_reducible refine gate_callee (f := 12) rfl ?_); refine goesL_ (some 38) rfl rfl Tryd.func12 (by kernel_rfl) rfl #[] rfl (by (try simp only [List.map_toArray, List.map_cons, List.map_nil]); first | done | rfl | (simp only [List.length_drop, List.length_take]; rfl)) ?_; (with_reducible refine (ontimelaw11_awake.calls kj3  t190 _ ?side1 A16.out).mono ?_); (case side1 => exact Laid.below hL (by repeat (first | (with_reducible first | exact HB.out | apply below_alloc | apply pw_below_drewN | apply below_drew1) | exact HB.out))); rintro e w17 ⟨rfl, hb⟩; refine ⟨_, rfl, ?_⟩; have n0_ := Aside0.mk (Kd.R_below (by (with_reducible repeat (first | apply Kd.R_alloc | apply Kd.R_drewN | apply Kd.R_drew)); exact HO_5.out) hb); have n1_ := Aside0.mk (below_step (by repeat (first | (with_reducible first | exact HB.out | apply below_alloc | apply pw_below_drewN | apply below_drew1) | exact HB.out)) hb); clear HO_5; clear HB; have HO_5 := n0_; have HB := n1_; clear n0_ n1_; (try clear hb); (try clear hb2); (try clear hk); (try clear hi)))
        go_ret
        exact ⟨by first | rfl | (simp [errW_none, errW_some] <;> rfl) | (simp [*, errW_none, errW_some] <;> rfl), by repeat (first | (with_reducible first | exact HB.out | apply below_alloc | apply pw_below_drewN | apply below_drew1) | exact HB.out)⟩
      · replace c15 := Bool.eq_false_iff.mpr c15
        subst c15
        have H1 : (if (t184.length : Int) = 0 then (none) else (if 0 ≤ (Int.tmod (wrap64 (a1)) (t184.length : Int)) then (if (Int.tmod (wrap64 (a1)) (t184.length : Int)) < (t184.length : Int) then (if ((rd_T33 t184 (Int.tmod (wrap64 (a1)) (t184.length : Int))).f2) < 0 then (ontimelaw11_LexerSuffix.j1 kj3 a0 t184 (Int.tmod (wrap64 (a1)) (t184.length : Int)) ((rd_T33 t184 (Int.tmod (wrap64 (a1)) (t184.length : Int))).f2) true) else (ontimelaw11_LexerSuffix.j1 kj3 a0 t184 (Int.tmod (wrap64 (a1)) (t184.length : Int)) ((rd_T33 t184 (Int.tmod (wrap64 (a1)) (t184.length : Int))).f2) (decide (((rd_T33 t184 (Int.tmod (wrap64 (a1)) (t184.length : Int))).f2) > (a0.size : Int))))) else (none)) else (none))) = some r := by rw [if_neg (show ¬ (false = true) by decide)] at H; exact H
        clear H
        have H := H1
        clear H1
        by_cases c18 : (t184.length : Int) = 0
        · rw [if_pos c18] at H
          exact absurd H (by simp)
        · rw [if_neg c18] at H
          have c18b0 : ((t184.length : Int) == 0) = false := beq_eq_false_iff_ne.mpr c18
          have c18b1 : ((t184.length : Int) != 0) = true := bne_iff_ne.mpr c18
          have c18b2 : ¬ (t184 = []) := fun h_ => c18 (by rw [h_]; rfl)
          obtain ⟨ji19, hji19⟩ : ∃ j_ : Int, (Int.tmod (wrap64 (a1)) (t184.length : Int)) = j_ := ⟨_, rfl⟩
          replace H : (if 0 ≤ (ji19) then (if (ji19) < (t184.length : Int) then (if ((rd_T33 t184 (ji19)).f2) < 0 then (ontimelaw11_LexerSuffix.j1 kj3 a0 t184 ji19 ((rd_T33 t184 (ji19)).f2) true) else (ontimelaw11_LexerSuffix.j1 kj3 a0 t184 ji19 ((rd_T33 t184 (ji19)).f2) (decide (((rd_T33 t184 (ji19)).f2) > (a0.size : Int))))) else (none)) else (none)) = some r := by first | (rw [hji19] at H; exact H) | (simp only [hji19] at H ⊢; exact H)
          by_cases c20 : 0 ≤ (ji19)
          · rw [if_pos c20] at H
            have c20b0 : decide (0 ≤ (ji19)) = true := decide_eq_true c20
            clear c20
            by_cases c21 : (ji19) < (t184.length : Int)
            · rw [if_pos c21] at H
              have c21b0 : decide ((ji19) < (t184.length : Int)) = true := decide_eq_true c21
              clear c21
              have HC22 := Aside0.mk H
              clear H
              obtain ⟨Ao23, co23, eo23⟩ := Kd.R_slice HO_5.out
              subst eo23
              have p191 : 0 ≤ ((ji19) : Int) := of_decide_eq_true (by first | (with_reducible assumption) | assumption)
              have q191 : (ji19) < (t184.length : Int) := of_decide_eq_true (by first | (with_reducible assumption) | assumption)
              obtain ⟨ad191, e191, hx191_0, hx191_1, hx191_2⟩ := at_T33 (Kd.R_reads' HO_5.out).2.2 (ji19) p191 q191
              cases e191
              replace p191 := eq_true p191
              replace q191 := eq_true q191
              go_upto_region 6 with (fail)
              go_cut [56] (fun v56 wc => ∃ (kq : Nat) (x56_21 : Bool), v56 = .bool x56_21 ∧ Aside0 (ontimelaw11_LexerSuffix.j1 kq a0 t184 ji19 ((rd_T33 t184 (ji19)).f2) x56_21 = some r) ∧ Aside0 (kq ≤ kj3) ∧ Aside0 (Kd.R k33 33 wc w.heap.size (fun _ => True) (.slice (some ad191) t184.length co23) t184) ∧ Aside0 (Below w.heap.size w wc))
              case first =>
                have H := HC22.out
                clear HC22
                by_cases c24 : ((rd_T33 t184 (ji19)).f2) < 0
                · rw [if_pos c24] at H
                  have c24b0 : decide (((rd_T33 t184 (ji19)).f2) < 0) = true := decide_eq_true c24
                  clear c24
                  (first | rw [c24b0] | (simp only [i64_w, i32_w]; rw [c24b0]) | skip)
                  have H' := Aside0.mk H
                  clear H
                  go_wp2
                  go_meet
                  case rel => exact ⟨_, (true), (by first | rfl | (simp; done) | (simp [*]; done)), H', ⟨by have := HJ3.out; first | omega | exact Nat.le_refl _⟩, ⟨by (with_reducible repeat (first | apply Kd.R_alloc | apply Kd.R_drewN | apply Kd.R_drew)); exact HO_5.out⟩, ⟨by repeat (first | (with_reducible first | exact HB.out | apply below_alloc | apply pw_below_drewN | apply below_drew1) | exact HB.out)⟩⟩
                · rw [if_neg c24] at H
                  have c24b0 : decide (((rd_T33 t184 (ji19)).f2) < 0) = false := decide_eq_false c24
                  clear c24
                  (first | rw [c24b0] | (simp only [i64_w, i32_w]; rw [c24b0]) | skip)
                  have H' := Aside0.mk H
                  clear H
                  go_wp2
                  go_meet
                  case rel => exact ⟨_, (decide (((rd_T33 t184 (ji19)).f2) > (a0.size : Int))), (by first | rfl | (simp; done) | (simp only [← hji19] <;> (first | rfl | simp)) | (simp [*]; done)), H', ⟨by have := HJ3.out; first | omega | exact Nat.le_refl _⟩, ⟨by (with_reducible repeat (first | apply Kd.R_alloc | apply Kd.R_drewN | apply Kd.R_drew)); exact HO_5.out⟩, ⟨by repeat (first | (with_reducible first | exact HB.out | apply below_alloc | apply pw_below_drewN | apply below_drew1) | exact HB.out)⟩⟩
              case rest =>
                clear HC22
                try clear c1
                try clear p1
                try clear q1
                try clear hx1
                try clear c2
                try clear p2
                try clear c5
                try clear p6
                try clear c7
                try clear c8
                try clear c8b0
                try clear c8b1
                try clear c10
                try clear c10b0
                try clear c10b1
                try clear c12
                try clear c13
                try clear c15
                try clear c18
                try clear c18b0
                try clear c18b1
                try clear c18b2
                try clear p19
                try clear q19
                try clear hx19
                try clear c20
                try clear c20b0
                try clear c21
                try clear c21b0
                try clear c24
                try clear c24b0
                try clear hx191_0
                try clear hx191_1
                try clear hx191_2
                try clear p191
                try clear p2
                try clear q191
                obtain ⟨kq, x56_21, rfl, HA, HJ21, HO_5, HB⟩ := hcut
                cases kq with
                | zero => exact absurd HA.out (by simp [ontimelaw11_LexerSuffix.j1])
                | succ kj21 =>
                  have H := HA.out
                  clear HA
                  simp only [ontimelaw11_LexerSuffix.j1] at H
                  by_cases c25 : x56_21 = true
                  · subst c25
                    have H1 : (some false) = some r := by rw [if_pos rfl] at H; exact H
                    clear H
                    have H := H1
                    clear H1
                    obtain rfl := Option.some.inj H
                    go_wp2
                    go_ret
                    exact ⟨by first | rfl | (simp [errW_none, errW_some] <;> rfl) | (simp only [← hji19]; first | rfl | (simp [errW_none, errW_some] <;> rfl)) | (simp [*, errW_none, errW_some] <;> rfl), by repeat (first | (with_reducible first | exact HB.out | apply below_alloc | apply pw_below_drewN | apply below_drew1) | exact HB.out)⟩
                  · replace c25 := Bool.eq_false_iff.mpr c25
                    subst c25
                    have H1 : (if 0 ≤ ((rd_T33 t184 (ji19)).f2) then (if ((rd_T33 t184 (ji19)).f2) ≤ (a0.size : Int) then ((lexer_Lex.f kj21 (a0.extract (((rd_T33 t184 (ji19)).f2) : Int).toNat a0.size)).bind fun bt192 => (if bt192.2.2 = 0 then (ontimelaw11_LexerSuffix.j2 kj21 t184 ji19 ((rd_T33 t184 (ji19)).f2) bt192.1 ((bt192.1.length : Int) != (wrap64 ((t184.length : Int) - ji19)))) else (ontimelaw11_LexerSuffix.j2 kj21 t184 ji19 ((rd_T33 t184 (ji19)).f2) bt192.1 true))) else (none)) else (none)) = some r := by rw [if_neg (show ¬ (false = true) by decide)] at H; exact H
                    clear H
                    have H := H1
                    clear H1
                    by_cases c26 : 0 ≤ ((rd_T33 t184 (ji19)).f2)
                    · rw [if_pos c26] at H
                      have c26b0 := eq_true c26
                      have c26b1 : decide (0 ≤ ((rd_T33 t184 (ji19)).f2)) = true := decide_eq_true c26
                      clear c26
                      by_cases c27 : ((rd_T33 t184 (ji19)).f2) ≤ (a0.size : Int)
                      · rw [if_pos c27] at H
                        have c27b0 := eq_true c27
                        have c27b1 : decide (((rd_T33 t184 (ji19)).f2) ≤ (a0.size : Int)) = true := decide_eq_true c27
                        clear c27
                        replace H := Option.bind_eq_some_iff.mp H
                        obtain ⟨⟨t192, t193, t194⟩, A280, H⟩ := H
                        replace H : (if t194 = 0 then (ontimelaw11_LexerSuffix.j2 kj21 t184 ji19 ((rd_T33 t184 (ji19)).f2) t192 ((t192.length : Int) != (wrap64 ((t184.length : Int) - ji19)))) else (ontimelaw11_LexerSuffix.j2 kj21 t184 ji19 ((rd_T33 t184 (ji19)).f2) t192 true)) = some r := H
                        have A28 := Aside0.mk A280
                        clear A280
                        have HC29 := Aside0.mk H
                        clear H
                        go_upto_region 9 with (first | ((with_reducible refine gate_callee (f := 13) rfl ?_); refine goesL_ (some 61) rfl rfl Tryd.func13 (by kernel_rfl) rfl #[.string (a0.extract (((rd_T33 t184 (ji19)).f2) : Int).toNat a0.size)] rfl (by (try simp only [List.map_toArray, List.map_cons, List.map_nil]); first | done | (simp only [hji19]; rfl) | rfl | (simp only [List.length_drop, List.length_take]; rfl)) ?_; (with_reducible refine (lexer_Lex.calls kj21 (a0.extract (((rd_T33 t184 (ji19)).f2) : Int).toNat a0.size) t192 t193 t194 _ ?side1 A28.out).mono ?_); (case side1 => exact Laid.below hL (by repeat (first | (with_reducible first | exact HB.out | apply below_alloc | apply pw_below_drewN | apply below_drew1) | exact HB.out))); rintro e w30 ⟨v195, rfl, ho0, hb⟩; refine ⟨_, rfl, ?_⟩; have n0_ := Aside0.mk (Kd.R_elder' (by (with_reducible repeat (first | apply Kd.R_alloc | apply Kd.R_drewN | apply Kd.R_drew)); exact HO_5.out) (Kd.R_base ho0) hb); have n1_ := Aside0.mk (Kd.R_lower (Kd.R_new' ho0 (Kd.R_lt (by (with_reducible repeat (first | apply Kd.R_alloc | apply Kd.R_drewN | apply Kd.R_drew)); exact HO_5.out))) (below_size (by repeat (first | (with_reducible first | exact HB.out | apply below_alloc | apply pw_below_drewN | apply below_drew1) | exact HB.out)))); have n2_ := Aside0.mk (below_step (by repeat (first | (with_reducible first | exact HB.out | apply below_alloc | apply pw_below_drewN | apply below_drew1) | exact HB.out)) hb); clear HO_5; clear HB; have HO_5 := n0_; have HO196 := n1_; have HB := n2_; clear n0_ n1_ n2_; (try clear hb); (try clear hb2); (try clear hk); (try clear hi); (try clear ho0)))
                        (try simp only [Act.put, List.setIfInBounds_toArray, List.set_cons_zero, List.set_cons_succ])
                        go_cut [75] (fun v75 wc => ∃ (kq : Nat) (x75_28 : Bool), v75 = .bool x75_28 ∧ Aside0 (ontimelaw11_LexerSuffix.j2 kq t184 ji19 ((rd_T33 t184 (ji19)).f2) t192 x75_28 = some r) ∧ Aside0 (kq ≤ kj21) ∧ Aside0 (Kd.R k33 33 wc w.heap.size (fun k_ => some k_ ≠ (v195 : Value).ownBlock) (.slice (some ad191) t184.length co23) t184) ∧ Aside0 (Kd.R k33 33 wc w.heap.size (fun k_ => some k_ ≠ ((.slice (some ad191) t184.length co23) : Value).ownBlock) v195 t192) ∧ Aside0 (Below w.heap.size w wc))
                        case first =>
                          have H := HC29.out
                          clear HC29
                          by_cases c31 : t194 = 0
                          · rw [if_pos c31] at H
                            have c31b0 : (t194 == 0) = true := beq_iff_eq.mpr c31
                            have c31b1 : (t194 != 0) = false := bne_eq_false_iff_eq.mpr c31
                            clear c31
                            (first | rw [c31b0] | (simp only [i64_w, i32_w]; rw [c31b0]) | skip)
                            have H' := Aside0.mk H
                            clear H
                            obtain ⟨Ao32, co32, eo32⟩ := Kd.R_slice HO196.out
                            subst eo32
                            go_wp2
                            go_meet
                            case rel => exact ⟨_, (((t192.length : Int) != (wrap64 ((t184.length : Int) - ji19)))), (by first | rfl | (simp; done) | (simp only [← hji19] <;> (first | rfl | simp)) | (simp [*]; done)), H', ⟨by have := HJ3.out; have := HJ21.out; first | omega | exact Nat.le_refl _⟩, ⟨by (with_reducible repeat (first | apply Kd.R_alloc | apply Kd.R_drewN | apply Kd.R_drew)); exact Kd.R_mono HO_5.out (fun _ hk => hk.2)⟩, ⟨by (with_reducible repeat (first | apply Kd.R_alloc | apply Kd.R_drewN | apply Kd.R_drew)); exact Kd.R_mono HO196.out (fun _ hk => hk.2)⟩, ⟨by repeat (first | (with_reducible first | exact HB.out | apply below_alloc | apply pw_below_drewN | apply below_drew1) | exact HB.out)⟩⟩
                          · rw [if_neg c31] at H
                            have c31b0 : (t194 == 0) = false := beq_eq_false_iff_ne.mpr c31
                            have c31b1 : (t194 != 0) = true := bne_iff_ne.mpr c31
                            (first | rw [c31b0] | (simp only [i64_w, i32_w]; rw [c31b0]) | skip)
                            have H' := Aside0.mk H
                            clear H
                            go_wp2
                            go_meet
                            case rel => exact ⟨_, (true), (by first | rfl | (simp; done) | (simp [*]; done)), H', ⟨by have := HJ3.out; have := HJ21.out; first | omega | exact Nat.le_refl _⟩, ⟨by (with_reducible repeat (first | apply Kd.R_alloc | apply Kd.R_drewN | apply Kd.R_drew)); exact Kd.R_mono HO_5.out (fun _ hk => hk.2)⟩, ⟨by (with_reducible repeat (first | apply Kd.R_alloc | apply Kd.R_drewN | apply Kd.R_drew)); exact Kd.R_mono HO196.out (fun _ hk => hk.2)⟩, ⟨by repeat (first | (with_reducible first | exact HB.out | apply below_alloc | apply pw_below_drewN | apply below_drew1) | exact HB.out)⟩⟩
                        case rest =>
                          clear HC29
                          try clear c1
                          try clear p1
                          try clear q1
                          try clear hx1
                          try clear c2
                          try clear p2
                          try clear c3
                          try clear c5
                          try clear p6
                          try clear c7
                          try clear c8
                          try clear c8b0
                          try clear c8b1
                          try clear c10
                          try clear c10b0
                          try clear c10b1
                          try clear c12
                          try clear c13
                          try clear c15
                          try clear c18
                          try clear c18b0
                          try clear c18b1
                          try clear c18b2
                          try clear p19
                          try clear q19
                          try clear hx19
                          try clear c20
                          try clear c20b0
                          try clear c21
                          try clear c21b0
                          try clear c24
                          try clear c24b0
                          try clear c25
                          try clear c26
                          try clear c26b0
                          try clear c26b1
                          try clear c27
                          try clear c27b0
                          try clear c27b1
                          try clear c31
                          try clear c31b0
                          try clear c31b1
                          try clear hx191_0
                          try clear hx191_1
                          try clear hx191_2
                          try clear p1
                          try clear p19
                          try clear p191
                          try clear p2
                          try clear p6
                          try clear q1
                          try clear q19
                          try clear q191
                          obtain ⟨kq, x75_28, rfl, HA, HJ28, HO_5, HO_10, HB⟩ := hcut
                          cases kq with
                          | zero => exact absurd HA.out (by simp [ontimelaw11_LexerSuffix.j2])
                          | succ kj28 =>
                            have H := HA.out
                            clear HA
                            simp only [ontimelaw11_LexerSuffix.j2] at H
                            by_cases c33 : x75_28 = true
                            · subst c33
                              have H1 : (some false) = some r := by rw [if_pos rfl] at H; exact H
                              clear H
                              have H := H1
                              clear H1
                              obtain rfl := Option.some.inj H
                              go_wp2
                              go_ret
                              exact ⟨by first | rfl | (simp [errW_none, errW_some] <;> rfl) | (simp only [← hji19]; first | rfl | (simp [errW_none, errW_some] <;> rfl)) | (simp [*, errW_none, errW_some] <;> rfl), by repeat (first | (with_reducible first | exact HB.out | apply below_alloc | apply pw_below_drewN | apply below_drew1) | exact HB.out)⟩
                            · replace c33 := Bool.eq_false_iff.mpr c33
                              subst c33
                              have H1 : (ontimelaw11_LexerSuffix.l0 kj28 t184 ji19 ((rd_T33 t184 (ji19)).f2) t192 (t192.length : Int) 0) = some r := by rw [if_neg (show ¬ (false = true) by decide)] at H; exact H
                              clear H
                              have H := H1
                              clear H1
                              have H' := Aside0.mk H
                              clear H
                              obtain ⟨Ao34, co34, eo34⟩ := Kd.R_slice HO_10.out
                              subst eo34
                              go_wp2
                              go_loopg [78] kj28 (fun kq v78 w' => ∃ (x78_4 : Int), v78 = .int .i64 x78_4 ∧ Aside0 (ontimelaw11_LexerSuffix.l0 kq t184 ji19 ((rd_T33 t184 (ji19)).f2) t192 (t192.length : Int) x78_4 = some r) ∧ Aside0 (kq ≤ kj28) ∧ Aside0 (Kd.R k33 33 w' w.heap.size (fun k_ => some k_ ≠ ((.slice Ao34 t192.length co34) : Value).ownBlock) (.slice (some ad191) t184.length co23) t184) ∧ Aside0 (Kd.R k33 33 w' w.heap.size (fun k_ => some k_ ≠ ((.slice (some ad191) t184.length co23) : Value).ownBlock) (.slice Ao34 t192.length co34) t192) ∧ Aside0 (Below w.heap.size w w'))
                              case atStart => exact ⟨(0), (by first | rfl | (simp; done) | (simp [*]; done)), H', ⟨Nat.le_refl _⟩, ⟨by (with_reducible repeat (first | apply Kd.R_alloc | apply Kd.R_drewN | apply Kd.R_drew)); exact HO_5.out⟩, ⟨by (with_reducible repeat (first | apply Kd.R_alloc | apply Kd.R_drewN | apply Kd.R_drew)); exact HO_10.out⟩, ⟨by repeat (first | (with_reducible first | exact HB.out | apply below_alloc | apply pw_below_drewN | apply below_drew1) | exact HB.out)⟩⟩
                              case round =>
                                clear H'
                                try clear c1
                                try clear p1
                                try clear q1
                                try clear hx1
                                try clear c2
                                try clear p2
                                try clear c3
                                try clear c5
                                try clear p6
                                try clear c7
                                try clear c8
                                try clear c8b0
                                try clear c8b1
                                try clear c10
                                try clear c10b0
                                try clear c10b1
                                try clear c12
                                try clear c13
                                try clear c15
                                try clear c18
                                try clear c18b0
                                try clear c18b1
                                try clear c18b2
                                try clear p19
                                try clear q19
                                try clear hx19
                                try clear c20
                                try clear c20b0
                                try clear c21
                                try clear c21b0
                                try clear c24
                                try clear c24b0
                                try clear c25
                                try clear c26
                                try clear c26b0
                                try clear c26b1
                                try clear c27
                                try clear c27b0
                                try clear c27b1
                                try clear c31
                                try clear c31b0
                                try clear c31b1
                                try clear c33
                                try clear hx191_0
                                try clear hx191_1
                                try clear hx191_2
                                try clear p1
                                try clear p19
                                try clear p191
                                try clear p2
                                try clear p6
                                try clear q1
                                try clear q19
                                try clear q191
                                obtain ⟨x78_4, rfl, HA, HK4, HO_5, HO_76, HB⟩ := hrel
                                cases gk with
                                | zero => exact absurd HA.out (by simp [ontimelaw11_LexerSuffix.l0])
                                | succ k4 =>
                                  have H := HA.out
                                  clear HA
                                  simp only [ontimelaw11_LexerSuffix.l0] at H
                                  by_cases c35 : x78_4 < (t192.length : Int)
                                  · rw [if_pos c35] at H
                                    have c35b0 : decide (x78_4 < (t192.length : Int)) = true := decide_eq_true c35
                                    clear c35
                                    by_cases c36 : 0 ≤ x78_4
                                    · rw [if_pos c36] at H
                                      have c36b0 : decide (0 ≤ x78_4) = true := decide_eq_true c36
                                      clear c36
                                      by_cases c37 : x78_4 < (t192.length : Int)
                                      · rw [if_pos c37] at H
                                        have c37b0 : decide (x78_4 < (t192.length : Int)) = true := decide_eq_true c37
                                        clear c37
                                        obtain ⟨ji38, hji38⟩ : ∃ j_ : Int, (wrap64 (ji19 + x78_4)) = j_ := ⟨_, rfl⟩
                                        replace H : (if 0 ≤ (ji38) then (if (ji38) < (t184.length : Int) then (if ((rd_T33 t192 x78_4).f0) = ((rd_T33 t184 (ji38)).f0) then (if ((rd_T33 t192 x78_4).f1).toList = ((rd_T33 t184 (ji38)).f1).toList then (if ((rd_T33 t192 x78_4).f2) = (wrap64 (((rd_T33 t184 (ji38)).f2) - ((rd_T33 t184 (ji19)).f2))) then (ontimelaw11_LexerSuffix.l0 k4 t184 ji19 ((rd_T33 t184 (ji19)).f2) t192 (t192.length : Int) (wrap64 (x78_4 + 1))) else (some false)) else (some false)) else (some false)) else (none)) else (none)) = some r := by first | (rw [hji38] at H; exact H) | (simp only [hji38] at H ⊢; exact H)
                                        have hji38w : (IntKind.i64.wrap (ji19 + x78_4)) = ji38 := (i64_w _).trans hji38
                                        by_cases c39 : 0 ≤ (ji38)
                                        · rw [if_pos c39] at H
                                          have c39b0 : decide (0 ≤ (ji38)) = true := decide_eq_true c39
                                          clear c39
                                          by_cases c40 : (ji38) < (t184.length : Int)
                                          · rw [if_pos c40] at H
                                            have c40b0 : decide ((ji38) < (t184.length : Int)) = true := decide_eq_true c40
                                            clear c40
                                            by_cases c41 : ((rd_T33 t192 x78_4).f0) = ((rd_T33 t184 (ji38)).f0)
                                            · rw [if_pos c41] at H
                                              have c41b0 : (((rd_T33 t192 x78_4).f0) == ((rd_T33 t184 (ji38)).f0)) = true := beq_iff_eq.mpr c41
                                              have c41b1 : (((rd_T33 t192 x78_4).f0) != ((rd_T33 t184 (ji38)).f0)) = false := bne_eq_false_iff_eq.mpr c41
                                              clear c41
                                              by_cases c42 : ((rd_T33 t192 x78_4).f1).toList = ((rd_T33 t184 (ji38)).f1).toList
                                              · rw [if_pos c42] at H
                                                have c42b0 : (((rd_T33 t192 x78_4).f1).toList == ((rd_T33 t184 (ji38)).f1).toList) = true := beq_iff_eq.mpr c42
                                                have c42b1 : (((rd_T33 t192 x78_4).f1).toList != ((rd_T33 t184 (ji38)).f1).toList) = false := bne_eq_false_iff_eq.mpr c42
                                                clear c42
                                                by_cases c43 : ((rd_T33 t192 x78_4).f2) = (wrap64 (((rd_T33 t184 (ji38)).f2) - ((rd_T33 t184 (ji19)).f2)))
                                                · rw [if_pos c43] at H
                                                  have c43b0 : (((rd_T33 t192 x78_4).f2) == (wrap64 (((rd_T33 t184 (ji38)).f2) - ((rd_T33 t184 (ji19)).f2)))) = true := beq_iff_eq.mpr c43
                                                  have c43b1 : (((rd_T33 t192 x78_4).f2) != (wrap64 (((rd_T33 t184 (ji38)).f2) - ((rd_T33 t184 (ji19)).f2)))) = false := bne_eq_false_iff_eq.mpr c43
                                                  clear c43
                                                  have H' := Aside0.mk H
                                                  clear H
                                                  have p197 : 0 ≤ (x78_4 : Int) := of_decide_eq_true (by first | (with_reducible assumption) | assumption)
                                                  have q197 : x78_4 < (t192.length : Int) := of_decide_eq_true (by first | (with_reducible assumption) | assumption)
                                                  obtain ⟨ad197, e197, hx197_0, hx197_1, hx197_2⟩ := at_T33 (Kd.R_reads' HO_76.out).2.2 x78_4 p197 q197
                                                  cases e197
                                                  replace p197 := eq_true p197
                                                  replace q197 := eq_true q197
                                                  go_wp2_with (first | ((with_reducible refine gate_dst (N := 14) rfl ?_); (try (refine gate_guard (by rfl) ?_; dsimp only)); refine box_event ?hg (N := 14) ?hd (cs := #[.int .u8 0, .string (⟨#[]⟩ : ByteArray), .int .i64 0]) (t := 33) ?hr ?_; (case hd => rfl); (case hg => rfl); (case hr => first | (go_simp; done) | (go_simp; rfl)); intro gb198 hg w44 hbox hb; have n0_ := Aside0.mk (Kd.R_below (Kd.R_elderB (by (with_reducible repeat (first | apply Kd.R_alloc | apply Kd.R_drewN | apply Kd.R_drew)); exact HO_5.out) gb198 (Nat.le_of_eq hg.symm)) hb); have n1_ := Aside0.mk (Kd.R_below (Kd.R_elderB (by (with_reducible repeat (first | apply Kd.R_alloc | apply Kd.R_drewN | apply Kd.R_drew)); exact HO_76.out) gb198 (Nat.le_of_eq hg.symm)) hb); have n2_ := Aside0.mk (below_step (by repeat (first | (with_reducible first | exact HB.out | apply below_alloc | apply pw_below_drewN | apply below_drew1) | exact HB.out)) hb); have n3_ := Aside0.mk (hbox); have n4_ := Aside0.mk ((by rw [hg]; exact (below_size (by repeat (first | (with_reducible first | exact HB.out | apply below_alloc | apply pw_below_drewN | apply below_drew1) | exact HB.out))) : w.heap.size ≤ gb198)); have n5_ := Aside0.mk ((by rw [hg]; exact (below_size (by repeat (first | (with_reducible first | exact HB.out | apply below_alloc | apply pw_below_drewN | apply below_drew1) | exact HB.out))) : w.heap.size ≤ gb198)); clear HO_5; clear HO_76; clear HB; have HO_5 := n0_; have HO_76 := n1_; have HB := n2_; have BK198 := n3_; have GW198 := n4_; have GE198 := n5_; clear n0_ n1_ n2_ n3_ n4_ n5_; clear hb hbox hg; have hcz45_0 : w44.cell? ⟨gb198, 0, none⟩ = some (.int .u8 0) := (blk_cell BK198.out 0).trans rfl; have hcz45_1 : w44.cell? ⟨gb198, 1, none⟩ = some (.string (⟨#[]⟩ : ByteArray)) := (blk_cell BK198.out 1).trans rfl; have hcz45_2 : w44.cell? ⟨gb198, 2, none⟩ = some (.int .i64 0) := (blk_cell BK198.out 2).trans rfl; have hfz45_0 := blk_frozen BK198.out 0; have hfz45_1 := blk_frozen BK198.out 1; have hfz45_2 := blk_frozen BK198.out 2; have p199 : 0 ≤ ((ji38) : Int) := of_decide_eq_true (by first | (with_reducible assumption) | assumption); have q199 : (ji38) < (t184.length : Int) := of_decide_eq_true (by first | (with_reducible assumption) | assumption); obtain ⟨ad199, e199, hx199_0, hx199_1, hx199_2⟩ := at_T33 (Kd.R_reads' HO_5.out).2.2 (ji38) p199 q199; obtain rfl : ad191 = ad199 := (by injection e199); have hn199_0 : ad191.block ≠ gb198 := Kd.own_blk (Kd.R_away HO_5.out (fun _ hk => hk.2)); have hn199_1 : ad191.block ≠ gb198 := Kd.own_blk (Kd.R_away HO_5.out (fun _ hk => hk.2)); have hn199_2 : ad191.block ≠ gb198 := Kd.own_blk (Kd.R_away HO_5.out (fun _ hk => hk.2)); replace hx199_0 := (cell_far (p := ⟨gb198, 0, none⟩) (by first | (rw [add_block]; exact hn199_0) | (show (Addr.add _ _).block ≠ _; rw [add_block]; exact hn199_0) | exact hn199_0) (.int .u8 ((rd_T33 t192 x78_4).f0))).trans hx199_0; replace hx199_1 := (cell_far (p := ⟨gb198, 0, none⟩) (by first | (rw [add_block]; exact hn199_0) | (show (Addr.add _ _).block ≠ _; rw [add_block]; exact hn199_0) | exact hn199_0) (.int .u8 ((rd_T33 t192 x78_4).f0))).trans hx199_1; replace hx199_2 := (cell_far (p := ⟨gb198, 0, none⟩) (by first | (rw [add_block]; exact hn199_0) | (show (Addr.add _ _).block ≠ _; rw [add_block]; exact hn199_0) | exact hn199_0) (.int .u8 ((rd_T33 t192 x78_4).f0))).trans hx199_2; replace hx199_0 := (cell_far (p := ⟨gb198, 1, none⟩) (by first | (rw [add_block]; exact hn199_1) | (show (Addr.add _ _).block ≠ _; rw [add_block]; exact hn199_1) | exact hn199_1) (.string ((rd_T33 t192 x78_4).f1))).trans hx199_0; replace hx199_1 := (cell_far (p := ⟨gb198, 1, none⟩) (by first | (rw [add_block]; exact hn199_1) | (show (Addr.add _ _).block ≠ _; rw [add_block]; exact hn199_1) | exact hn199_1) (.string ((rd_T33 t192 x78_4).f1))).trans hx199_1; replace hx199_2 := (cell_far (p := ⟨gb198, 1, none⟩) (by first | (rw [add_block]; exact hn199_1) | (show (Addr.add _ _).block ≠ _; rw [add_block]; exact hn199_1) | exact hn199_1) (.string ((rd_T33 t192 x78_4).f1))).trans hx199_2; replace hx199_0 := (cell_far (p := ⟨gb198, 2, none⟩) (by first | (rw [add_block]; exact hn199_2) | (show (Addr.add _ _).block ≠ _; rw [add_block]; exact hn199_2) | exact hn199_2) (.int .i64 ((rd_T33 t192 x78_4).f2))).trans hx199_0; replace hx199_1 := (cell_far (p := ⟨gb198, 2, none⟩) (by first | (rw [add_block]; exact hn199_2) | (show (Addr.add _ _).block ≠ _; rw [add_block]; exact hn199_2) | exact hn199_2) (.int .i64 ((rd_T33 t192 x78_4).f2))).trans hx199_1; replace hx199_2 := (cell_far (p := ⟨gb198, 2, none⟩) (by first | (rw [add_block]; exact hn199_2) | (show (Addr.add _ _).block ≠ _; rw [add_block]; exact hn199_2) | exact hn199_2) (.int .i64 ((rd_T33 t192 x78_4).f2))).trans hx199_2; clear hn199_0; clear hn199_1; clear hn199_2; replace p199 := eq_true p199; replace q199 := eq_true q199) | ((with_reducible refine gate_dst (N := 15) rfl ?_); (try (refine gate_guard (by rfl) ?_; dsimp only)); refine box_event ?hg (N := 15) ?hd (cs := #[.int .u8 0, .string (⟨#[]⟩ : ByteArray), .int .i64 0]) (t := 33) ?hr ?_; (case hd => rfl); (case hg => rfl); (case hr => first | (go_simp; done) | (go_simp; rfl)); intro gb200 hg w46 hbox hb; have n0_ := Aside0.mk (Kd.R_below (Kd.R_elderB (by (with_reducible repeat (first | apply Kd.R_alloc | apply Kd.R_drewN | apply Kd.R_drew)); exact (Kd.R_mono (Kd.R_far (p := ⟨gb198, 2, none⟩) (Kd.R_far (p := ⟨gb198, 1, none⟩) (Kd.R_far (p := ⟨gb198, 0, none⟩) (Kd.R_mono HO_5.out (fun k_ hk => (⟨hk, hk.2⟩ : _ ∧ k_ ≠ gb198))) (fun _ hk => hk.2) (.int .u8 ((rd_T33 t192 x78_4).f0))) (fun _ hk => hk.2) (.string ((rd_T33 t192 x78_4).f1))) (fun _ hk => hk.2) (.int .i64 ((rd_T33 t192 x78_4).f2))) (fun _ h_ => h_.1))) gb200 (Nat.le_of_eq hg.symm)) hb); have n1_ := Aside0.mk (Kd.R_below (Kd.R_elderB (by (with_reducible repeat (first | apply Kd.R_alloc | apply Kd.R_drewN | apply Kd.R_drew)); exact (Kd.R_mono (Kd.R_far (p := ⟨gb198, 2, none⟩) (Kd.R_far (p := ⟨gb198, 1, none⟩) (Kd.R_far (p := ⟨gb198, 0, none⟩) (Kd.R_mono HO_76.out (fun k_ hk => (⟨hk, hk.2⟩ : _ ∧ k_ ≠ gb198))) (fun _ hk => hk.2) (.int .u8 ((rd_T33 t192 x78_4).f0))) (fun _ hk => hk.2) (.string ((rd_T33 t192 x78_4).f1))) (fun _ hk => hk.2) (.int .i64 ((rd_T33 t192 x78_4).f2))) (fun _ h_ => h_.1))) gb200 (Nat.le_of_eq hg.symm)) hb); have n2_ := Aside0.mk (blk_below (g := gb198) (o := .cells #[.int .u8 ((rd_T33 t192 x78_4).f0), .string ((rd_T33 t192 x78_4).f1), .int .i64 ((rd_T33 t192 x78_4).f2)] 33 (0, 0)) (by (with_reducible repeat (first | refine blk_drewN ?_ _ | refine blk_drew ?_ | refine blk_alloc ?_ _)); refine blk_put (cs := #[.int .u8 ((rd_T33 t192 x78_4).f0), .string ((rd_T33 t192 x78_4).f1), .int .i64 0]) ?_ 2 _ rfl; (with_reducible repeat (first | refine blk_drewN ?_ _ | refine blk_drew ?_ | refine blk_alloc ?_ _)); refine blk_put (cs := #[.int .u8 ((rd_T33 t192 x78_4).f0), .string (⟨#[]⟩ : ByteArray), .int .i64 0]) ?_ 1 _ rfl; (with_reducible repeat (first | refine blk_drewN ?_ _ | refine blk_drew ?_ | refine blk_alloc ?_ _)); refine blk_put (cs := #[.int .u8 0, .string (⟨#[]⟩ : ByteArray), .int .i64 0]) ?_ 0 _ rfl; (with_reducible repeat (first | refine blk_drewN ?_ _ | refine blk_drew ?_ | refine blk_alloc ?_ _)); exact BK198.out) hb); have n3_ := Aside0.mk (below_step (by repeat (first | (with_reducible first | exact HB.out | apply below_alloc | apply pw_below_drewN | apply below_drew1 | refine below_set ?_ GE198.out) | exact HB.out)) hb); have n4_ := Aside0.mk (hbox); have n5_ := Aside0.mk ((by rw [hg]; exact (below_size (by repeat (first | (with_reducible first | exact HB.out | apply below_alloc | apply pw_below_drewN | apply below_drew1 | refine below_set ?_ GE198.out) | exact HB.out))) : w.heap.size ≤ gb200)); have n6_ := Aside0.mk ((by rw [hg]; exact (below_size (by repeat (first | (with_reducible first | exact HB.out | apply below_alloc | apply pw_below_drewN | apply below_drew1 | refine below_set ?_ GE198.out) | exact HB.out))) : w.heap.size ≤ gb200)); have n7_ := Aside0.mk ((by rw [hg]; exact Nat.ne_of_lt (blk_lt (g := gb198) (o := .cells #[.int .u8 ((rd_T33 t192 x78_4).f0), .string ((rd_T33 t192 x78_4).f1), .int .i64 ((rd_T33 t192 x78_4).f2)] 33 (0, 0)) (by (with_reducible repeat (first | refine blk_drewN ?_ _ | refine blk_drew ?_ | refine blk_alloc ?_ _)); refine blk_put (cs := #[.int .u8 ((rd_T33 t192 x78_4).f0), .string ((rd_T33 t192 x78_4).f1), .int .i64 0]) ?_ 2 _ rfl; (with_reducible repeat (first | refine blk_drewN ?_ _ | refine blk_drew ?_ | refine blk_alloc ?_ _)); refine blk_put (cs := #[.int .u8 ((rd_T33 t192 x78_4).f0), .string (⟨#[]⟩ : ByteArray), .int .i64 0]) ?_ 1 _ rfl; (with_reducible repeat (first | refine blk_drewN ?_ _ | refine blk_drew ?_ | refine blk_alloc ?_ _)); refine blk_put (cs := #[.int .u8 0, .string (⟨#[]⟩ : ByteArray), .int .i64 0]) ?_ 0 _ rfl; (with_reducible repeat (first | refine blk_drewN ?_ _ | refine blk_drew ?_ | refine blk_alloc ?_ _)); exact BK198.out)) : gb198 ≠ gb200)); have n8_ := Aside0.mk ((by rw [hg]; exact Nat.ne_of_gt (blk_lt (g := gb198) (o := .cells #[.int .u8 ((rd_T33 t192 x78_4).f0), .string ((rd_T33 t192 x78_4).f1), .int .i64 ((rd_T33 t192 x78_4).f2)] 33 (0, 0)) (by (with_reducible repeat (first | refine blk_drewN ?_ _ | refine blk_drew ?_ | refine blk_alloc ?_ _)); refine blk_put (cs := #[.int .u8 ((rd_T33 t192 x78_4).f0), .string ((rd_T33 t192 x78_4).f1), .int .i64 0]) ?_ 2 _ rfl; (with_reducible repeat (first | refine blk_drewN ?_ _ | refine blk_drew ?_ | refine blk_alloc ?_ _)); refine blk_put (cs := #[.int .u8 ((rd_T33 t192 x78_4).f0), .string (⟨#[]⟩ : ByteArray), .int .i64 0]) ?_ 1 _ rfl; (with_reducible repeat (first | refine blk_drewN ?_ _ | refine blk_drew ?_ | refine blk_alloc ?_ _)); refine blk_put (cs := #[.int .u8 0, .string (⟨#[]⟩ : ByteArray), .int .i64 0]) ?_ 0 _ rfl; (with_reducible repeat (first | refine blk_drewN ?_ _ | refine blk_drew ?_ | refine blk_alloc ?_ _)); exact BK198.out)) : gb200 ≠ gb198)); clear HO_5; clear HO_76; clear BK198; clear HB; have HO_5 := n0_; have HO_76 := n1_; have BK198 := n2_; have HB := n3_; have BK200 := n4_; have GW200 := n5_; have GE200 := n6_; have NB198_200 := n7_; have NB200_198 := n8_; clear n0_ n1_ n2_ n3_ n4_ n5_ n6_ n7_ n8_; clear hb hbox hg; have hnb47 := NB200_198.out; have hnc47 := NB198_200.out; have hcz48_0 : w46.cell? ⟨gb200, 0, none⟩ = some (.int .u8 0) := (blk_cell BK200.out 0).trans rfl; have hcz48_1 : w46.cell? ⟨gb200, 1, none⟩ = some (.string (⟨#[]⟩ : ByteArray)) := (blk_cell BK200.out 1).trans rfl; have hcz48_2 : w46.cell? ⟨gb200, 2, none⟩ = some (.int .i64 0) := (blk_cell BK200.out 2).trans rfl; have hfz48_0 := blk_frozen BK200.out 0; have hfz48_1 := blk_frozen BK200.out 1; have hfz48_2 := blk_frozen BK200.out 2; have hcz49_0 : w46.cell? ⟨gb198, 0, none⟩ = some (.int .u8 ((rd_T33 t192 x78_4).f0)) := (blk_cell BK198.out 0).trans rfl; have hcz49_1 : w46.cell? ⟨gb198, 1, none⟩ = some (.string ((rd_T33 t192 x78_4).f1)) := (blk_cell BK198.out 1).trans rfl; have hcz49_2 : w46.cell? ⟨gb198, 2, none⟩ = some (.int .i64 ((rd_T33 t192 x78_4).f2)) := (blk_cell BK198.out 2).trans rfl; have hfz49_0 := blk_frozen BK198.out 0; have hfz49_1 := blk_frozen BK198.out 1; have hfz49_2 := blk_frozen BK198.out 2))
                                                  go_roundg k4
                                                  case measure => have := HJ3.out; have := HJ21.out; have := HJ28.out; have := HK4.out; omega
                                                  case rel => exact ⟨(wrap64 (x78_4 + 1)), (by first | rfl | (simp; done) | (simp [*]; done)), H', ⟨by have := HJ3.out; have := HJ21.out; have := HJ28.out; have := HK4.out; omega⟩, ⟨by (with_reducible repeat (first | apply Kd.R_alloc | apply Kd.R_drewN | apply Kd.R_drew)); exact Kd.R_mono (Kd.R_far (p := ⟨gb200, 2, none⟩) (Kd.R_far (p := ⟨gb200, 1, none⟩) (Kd.R_far (p := ⟨gb200, 0, none⟩) (Kd.R_mono HO_5.out (fun k_ hk => (⟨hk, hk.2⟩ : _ ∧ k_ ≠ gb200))) (fun _ hk => hk.2) (.int .u8 ((rd_T33 t184 (ji38)).f0))) (fun _ hk => hk.2) (.string ((rd_T33 t184 (ji38)).f1))) (fun _ hk => hk.2) (.int .i64 ((rd_T33 t184 (ji38)).f2))) (fun _ hk => hk.1.1.1)⟩, ⟨by (with_reducible repeat (first | apply Kd.R_alloc | apply Kd.R_drewN | apply Kd.R_drew)); exact Kd.R_mono (Kd.R_far (p := ⟨gb200, 2, none⟩) (Kd.R_far (p := ⟨gb200, 1, none⟩) (Kd.R_far (p := ⟨gb200, 0, none⟩) (Kd.R_mono HO_76.out (fun k_ hk => (⟨hk, hk.2⟩ : _ ∧ k_ ≠ gb200))) (fun _ hk => hk.2) (.int .u8 ((rd_T33 t184 (ji38)).f0))) (fun _ hk => hk.2) (.string ((rd_T33 t184 (ji38)).f1))) (fun _ hk => hk.2) (.int .i64 ((rd_T33 t184 (ji38)).f2))) (fun _ hk => hk.1.1.1)⟩, ⟨by repeat (first | (with_reducible first | exact HB.out | apply below_alloc | apply pw_below_drewN | apply below_drew1 | refine below_set ?_ GE198.out | refine below_set ?_ GE200.out) | exact HB.out)⟩⟩
                                                · rw [if_neg c43] at H
                                                  have c43b0 : (((rd_T33 t192 x78_4).f2) == (wrap64 (((rd_T33 t184 (ji38)).f2) - ((rd_T33 t184 (ji19)).f2)))) = false := beq_eq_false_iff_ne.mpr c43
                                                  have c43b1 : (((rd_T33 t192 x78_4).f2) != (wrap64 (((rd_T33 t184 (ji38)).f2) - ((rd_T33 t184 (ji19)).f2)))) = true := bne_iff_ne.mpr c43
                                                  obtain rfl := Option.some.inj H
                                                  have p197 : 0 ≤ (x78_4 : Int) := of_decide_eq_true (by first | (with_reducible assumption) | assumption)
                                                  have q197 : x78_4 < (t192.length : Int) := of_decide_eq_true (by first | (with_reducible assumption) | assumption)
                                                  obtain ⟨ad197, e197, hx197_0, hx197_1, hx197_2⟩ := at_T33 (Kd.R_reads' HO_76.out).2.2 x78_4 p197 q197
                                                  cases e197
                                                  replace p197 := eq_true p197
                                                  replace q197 := eq_true q197
                                                  go_wp2_with (first | ((with_reducible refine gate_dst (N := 14) rfl ?_); (try (refine gate_guard (by rfl) ?_; dsimp only)); refine box_event ?hg (N := 14) ?hd (cs := #[.int .u8 0, .string (⟨#[]⟩ : ByteArray), .int .i64 0]) (t := 33) ?hr ?_; (case hd => rfl); (case hg => rfl); (case hr => first | (go_simp; done) | (go_simp; rfl)); intro gb198 hg w50 hbox hb; have n0_ := Aside0.mk (Kd.R_below (Kd.R_elderB (by (with_reducible repeat (first | apply Kd.R_alloc | apply Kd.R_drewN | apply Kd.R_drew)); exact HO_5.out) gb198 (Nat.le_of_eq hg.symm)) hb); have n1_ := Aside0.mk (Kd.R_below (Kd.R_elderB (by (with_reducible repeat (first | apply Kd.R_alloc | apply Kd.R_drewN | apply Kd.R_drew)); exact HO_76.out) gb198 (Nat.le_of_eq hg.symm)) hb); have n2_ := Aside0.mk (below_step (by repeat (first | (with_reducible first | exact HB.out | apply below_alloc | apply pw_below_drewN | apply below_drew1) | exact HB.out)) hb); have n3_ := Aside0.mk (hbox); have n4_ := Aside0.mk ((by rw [hg]; exact (below_size (by repeat (first | (with_reducible first | exact HB.out | apply below_alloc | apply pw_below_drewN | apply below_drew1) | exact HB.out))) : w.heap.size ≤ gb198)); have n5_ := Aside0.mk ((by rw [hg]; exact (below_size (by repeat (first | (with_reducible first | exact HB.out | apply below_alloc | apply pw_below_drewN | apply below_drew1) | exact HB.out))) : w.heap.size ≤ gb198)); clear HO_5; clear HO_76; clear HB; have HO_5 := n0_; have HO_76 := n1_; have HB := n2_; have BK198 := n3_; have GW198 := n4_; have GE198 := n5_; clear n0_ n1_ n2_ n3_ n4_ n5_; clear hb hbox hg; have hcz51_0 : w50.cell? ⟨gb198, 0, none⟩ = some (.int .u8 0) := (blk_cell BK198.out 0).trans rfl; have hcz51_1 : w50.cell? ⟨gb198, 1, none⟩ = some (.string (⟨#[]⟩ : ByteArray)) := (blk_cell BK198.out 1).trans rfl; have hcz51_2 : w50.cell? ⟨gb198, 2, none⟩ = some (.int .i64 0) := (blk_cell BK198.out 2).trans rfl; have hfz51_0 := blk_frozen BK198.out 0; have hfz51_1 := blk_frozen BK198.out 1; have hfz51_2 := blk_frozen BK198.out 2; have p199 : 0 ≤ ((ji38) : Int) := of_decide_eq_true (by first | (with_reducible assumption) | assumption); have q199 : (ji38) < (t184.length : Int) := of_decide_eq_true (by first | (with_reducible assumption) | assumption); obtain ⟨ad199, e199, hx199_0, hx199_1, hx199_2⟩ := at_T33 (Kd.R_reads' HO_5.out).2.2 (ji38) p199 q199; obtain rfl : ad191 = ad199 := (by injection e199); have hn199_0 : ad191.block ≠ gb198 := Kd.own_blk (Kd.R_away HO_5.out (fun _ hk => hk.2)); have hn199_1 : ad191.block ≠ gb198 := Kd.own_blk (Kd.R_away HO_5.out (fun _ hk => hk.2)); have hn199_2 : ad191.block ≠ gb198 := Kd.own_blk (Kd.R_away HO_5.out (fun _ hk => hk.2)); replace hx199_0 := (cell_far (p := ⟨gb198, 0, none⟩) (by first | (rw [add_block]; exact hn199_0) | (show (Addr.add _ _).block ≠ _; rw [add_block]; exact hn199_0) | exact hn199_0) (.int .u8 ((rd_T33 t192 x78_4).f0))).trans hx199_0; replace hx199_1 := (cell_far (p := ⟨gb198, 0, none⟩) (by first | (rw [add_block]; exact hn199_0) | (show (Addr.add _ _).block ≠ _; rw [add_block]; exact hn199_0) | exact hn199_0) (.int .u8 ((rd_T33 t192 x78_4).f0))).trans hx199_1; replace hx199_2 := (cell_far (p := ⟨gb198, 0, none⟩) (by first | (rw [add_block]; exact hn199_0) | (show (Addr.add _ _).block ≠ _; rw [add_block]; exact hn199_0) | exact hn199_0) (.int .u8 ((rd_T33 t192 x78_4).f0))).trans hx199_2; replace hx199_0 := (cell_far (p := ⟨gb198, 1, none⟩) (by first | (rw [add_block]; exact hn199_1) | (show (Addr.add _ _).block ≠ _; rw [add_block]; exact hn199_1) | exact hn199_1) (.string ((rd_T33 t192 x78_4).f1))).trans hx199_0; replace hx199_1 := (cell_far (p := ⟨gb198, 1, none⟩) (by first | (rw [add_block]; exact hn199_1) | (show (Addr.add _ _).block ≠ _; rw [add_block]; exact hn199_1) | exact hn199_1) (.string ((rd_T33 t192 x78_4).f1))).trans hx199_1; replace hx199_2 := (cell_far (p := ⟨gb198, 1, none⟩) (by first | (rw [add_block]; exact hn199_1) | (show (Addr.add _ _).block ≠ _; rw [add_block]; exact hn199_1) | exact hn199_1) (.string ((rd_T33 t192 x78_4).f1))).trans hx199_2; replace hx199_0 := (cell_far (p := ⟨gb198, 2, none⟩) (by first | (rw [add_block]; exact hn199_2) | (show (Addr.add _ _).block ≠ _; rw [add_block]; exact hn199_2) | exact hn199_2) (.int .i64 ((rd_T33 t192 x78_4).f2))).trans hx199_0; replace hx199_1 := (cell_far (p := ⟨gb198, 2, none⟩) (by first | (rw [add_block]; exact hn199_2) | (show (Addr.add _ _).block ≠ _; rw [add_block]; exact hn199_2) | exact hn199_2) (.int .i64 ((rd_T33 t192 x78_4).f2))).trans hx199_1; replace hx199_2 := (cell_far (p := ⟨gb198, 2, none⟩) (by first | (rw [add_block]; exact hn199_2) | (show (Addr.add _ _).block ≠ _; rw [add_block]; exact hn199_2) | exact hn199_2) (.int .i64 ((rd_T33 t192 x78_4).f2))).trans hx199_2; clear hn199_0; clear hn199_1; clear hn199_2; replace p199 := eq_true p199; replace q199 := eq_true q199) | ((with_reducible refine gate_dst (N := 15) rfl ?_); (try (refine gate_guard (by rfl) ?_; dsimp only)); refine box_event ?hg (N := 15) ?hd (cs := #[.int .u8 0, .string (⟨#[]⟩ : ByteArray), .int .i64 0]) (t := 33) ?hr ?_; (case hd => rfl); (case hg => rfl); (case hr => first | (go_simp; done) | (go_simp; rfl)); intro gb200 hg w52 hbox hb; have n0_ := Aside0.mk (Kd.R_below (Kd.R_elderB (by (with_reducible repeat (first | apply Kd.R_alloc | apply Kd.R_drewN | apply Kd.R_drew)); exact (Kd.R_mono (Kd.R_far (p := ⟨gb198, 2, none⟩) (Kd.R_far (p := ⟨gb198, 1, none⟩) (Kd.R_far (p := ⟨gb198, 0, none⟩) (Kd.R_mono HO_5.out (fun k_ hk => (⟨hk, hk.2⟩ : _ ∧ k_ ≠ gb198))) (fun _ hk => hk.2) (.int .u8 ((rd_T33 t192 x78_4).f0))) (fun _ hk => hk.2) (.string ((rd_T33 t192 x78_4).f1))) (fun _ hk => hk.2) (.int .i64 ((rd_T33 t192 x78_4).f2))) (fun _ h_ => h_.1))) gb200 (Nat.le_of_eq hg.symm)) hb); have n1_ := Aside0.mk (Kd.R_below (Kd.R_elderB (by (with_reducible repeat (first | apply Kd.R_alloc | apply Kd.R_drewN | apply Kd.R_drew)); exact (Kd.R_mono (Kd.R_far (p := ⟨gb198, 2, none⟩) (Kd.R_far (p := ⟨gb198, 1, none⟩) (Kd.R_far (p := ⟨gb198, 0, none⟩) (Kd.R_mono HO_76.out (fun k_ hk => (⟨hk, hk.2⟩ : _ ∧ k_ ≠ gb198))) (fun _ hk => hk.2) (.int .u8 ((rd_T33 t192 x78_4).f0))) (fun _ hk => hk.2) (.string ((rd_T33 t192 x78_4).f1))) (fun _ hk => hk.2) (.int .i64 ((rd_T33 t192 x78_4).f2))) (fun _ h_ => h_.1))) gb200 (Nat.le_of_eq hg.symm)) hb); have n2_ := Aside0.mk (blk_below (g := gb198) (o := .cells #[.int .u8 ((rd_T33 t192 x78_4).f0), .string ((rd_T33 t192 x78_4).f1), .int .i64 ((rd_T33 t192 x78_4).f2)] 33 (0, 0)) (by (with_reducible repeat (first | refine blk_drewN ?_ _ | refine blk_drew ?_ | refine blk_alloc ?_ _)); refine blk_put (cs := #[.int .u8 ((rd_T33 t192 x78_4).f0), .string ((rd_T33 t192 x78_4).f1), .int .i64 0]) ?_ 2 _ rfl; (with_reducible repeat (first | refine blk_drewN ?_ _ | refine blk_drew ?_ | refine blk_alloc ?_ _)); refine blk_put (cs := #[.int .u8 ((rd_T33 t192 x78_4).f0), .string (⟨#[]⟩ : ByteArray), .int .i64 0]) ?_ 1 _ rfl; (with_reducible repeat (first | refine blk_drewN ?_ _ | refine blk_drew ?_ | refine blk_alloc ?_ _)); refine blk_put (cs := #[.int .u8 0, .string (⟨#[]⟩ : ByteArray), .int .i64 0]) ?_ 0 _ rfl; (with_reducible repeat (first | refine blk_drewN ?_ _ | refine blk_drew ?_ | refine blk_alloc ?_ _)); exact BK198.out) hb); have n3_ := Aside0.mk (below_step (by repeat (first | (with_reducible first | exact HB.out | apply below_alloc | apply pw_below_drewN | apply below_drew1 | refine below_set ?_ GE198.out) | exact HB.out)) hb); have n4_ := Aside0.mk (hbox); have n5_ := Aside0.mk ((by rw [hg]; exact (below_size (by repeat (first | (with_reducible first | exact HB.out | apply below_alloc | apply pw_below_drewN | apply below_drew1 | refine below_set ?_ GE198.out) | exact HB.out))) : w.heap.size ≤ gb200)); have n6_ := Aside0.mk ((by rw [hg]; exact (below_size (by repeat (first | (with_reducible first | exact HB.out | apply below_alloc | apply pw_below_drewN | apply below_drew1 | refine below_set ?_ GE198.out) | exact HB.out))) : w.heap.size ≤ gb200)); have n7_ := Aside0.mk ((by rw [hg]; exact Nat.ne_of_lt (blk_lt (g := gb198) (o := .cells #[.int .u8 ((rd_T33 t192 x78_4).f0), .string ((rd_T33 t192 x78_4).f1), .int .i64 ((rd_T33 t192 x78_4).f2)] 33 (0, 0)) (by (with_reducible repeat (first | refine blk_drewN ?_ _ | refine blk_drew ?_ | refine blk_alloc ?_ _)); refine blk_put (cs := #[.int .u8 ((rd_T33 t192 x78_4).f0), .string ((rd_T33 t192 x78_4).f1), .int .i64 0]) ?_ 2 _ rfl; (with_reducible repeat (first | refine blk_drewN ?_ _ | refine blk_drew ?_ | refine blk_alloc ?_ _)); refine blk_put (cs := #[.int .u8 ((rd_T33 t192 x78_4).f0), .string (⟨#[]⟩ : ByteArray), .int .i64 0]) ?_ 1 _ rfl; (with_reducible repeat (first | refine blk_drewN ?_ _ | refine blk_drew ?_ | refine blk_alloc ?_ _)); refine blk_put (cs := #[.int .u8 0, .string (⟨#[]⟩ : ByteArray), .int .i64 0]) ?_ 0 _ rfl; (with_reducible repeat (first | refine blk_drewN ?_ _ | refine blk_drew ?_ | refine blk_alloc ?_ _)); exact BK198.out)) : gb198 ≠ gb200)); have n8_ := Aside0.mk ((by rw [hg]; exact Nat.ne_of_gt (blk_lt (g := gb198) (o := .cells #[.int .u8 ((rd_T33 t192 x78_4).f0), .string ((rd_T33 t192 x78_4).f1), .int .i64 ((rd_T33 t192 x78_4).f2)] 33 (0, 0)) (by (with_reducible repeat (first | refine blk_drewN ?_ _ | refine blk_drew ?_ | refine blk_alloc ?_ _)); refine blk_put (cs := #[.int .u8 ((rd_T33 t192 x78_4).f0), .string ((rd_T33 t192 x78_4).f1), .int .i64 0]) ?_ 2 _ rfl; (with_reducible repeat (first | refine blk_drewN ?_ _ | refine blk_drew ?_ | refine blk_alloc ?_ _)); refine blk_put (cs := #[.int .u8 ((rd_T33 t192 x78_4).f0), .string (⟨#[]⟩ : ByteArray), .int .i64 0]) ?_ 1 _ rfl; (with_reducible repeat (first | refine blk_drewN ?_ _ | refine blk_drew ?_ | refine blk_alloc ?_ _)); refine blk_put (cs := #[.int .u8 0, .string (⟨#[]⟩ : ByteArray), .int .i64 0]) ?_ 0 _ rfl; (with_reducible repeat (first | refine blk_drewN ?_ _ | refine blk_drew ?_ | refine blk_alloc ?_ _)); exact BK198.out)) : gb200 ≠ gb198)); clear HO_5; clear HO_76; clear BK198; clear HB; have HO_5 := n0_; have HO_76 := n1_; have BK198 := n2_; have HB := n3_; have BK200 := n4_; have GW200 := n5_; have GE200 := n6_; have NB198_200 := n7_; have NB200_198 := n8_; clear n0_ n1_ n2_ n3_ n4_ n5_ n6_ n7_ n8_; clear hb hbox hg; have hnb53 := NB200_198.out; have hnc53 := NB198_200.out; have hcz54_0 : w52.cell? ⟨gb200, 0, none⟩ = some (.int .u8 0) := (blk_cell BK200.out 0).trans rfl; have hcz54_1 : w52.cell? ⟨gb200, 1, none⟩ = some (.string (⟨#[]⟩ : ByteArray)) := (blk_cell BK200.out 1).trans rfl; have hcz54_2 : w52.cell? ⟨gb200, 2, none⟩ = some (.int .i64 0) := (blk_cell BK200.out 2).trans rfl; have hfz54_0 := blk_frozen BK200.out 0; have hfz54_1 := blk_frozen BK200.out 1; have hfz54_2 := blk_frozen BK200.out 2; have hcz55_0 : w52.cell? ⟨gb198, 0, none⟩ = some (.int .u8 ((rd_T33 t192 x78_4).f0)) := (blk_cell BK198.out 0).trans rfl; have hcz55_1 : w52.cell? ⟨gb198, 1, none⟩ = some (.string ((rd_T33 t192 x78_4).f1)) := (blk_cell BK198.out 1).trans rfl; have hcz55_2 : w52.cell? ⟨gb198, 2, none⟩ = some (.int .i64 ((rd_T33 t192 x78_4).f2)) := (blk_cell BK198.out 2).trans rfl; have hfz55_0 := blk_frozen BK198.out 0; have hfz55_1 := blk_frozen BK198.out 1; have hfz55_2 := blk_frozen BK198.out 2))
                                                  go_ret
                                                  exact ⟨by first | rfl | (simp [errW_none, errW_some] <;> rfl) | (simp only [← hji19, ← hji38]; first | rfl | (simp [errW_none, errW_some] <;> rfl)) | (simp [*, errW_none, errW_some] <;> rfl), by repeat (first | (with_reducible first | exact HB.out | apply below_alloc | apply pw_below_drewN | apply below_drew1 | refine below_set ?_ GE198.out | refine below_set ?_ GE200.out) | exact HB.out)⟩
                                              · rw [if_neg c42] at H
                                                have c42b0 : (((rd_T33 t192 x78_4).f1).toList == ((rd_T33 t184 (ji38)).f1).toList) = false := beq_eq_false_iff_ne.mpr c42
                                                have c42b1 : (((rd_T33 t192 x78_4).f1).toList != ((rd_T33 t184 (ji38)).f1).toList) = true := bne_iff_ne.mpr c42
                                                obtain rfl := Option.some.inj H
                                                have p197 : 0 ≤ (x78_4 : Int) := of_decide_eq_true (by first | (with_reducible assumption) | assumption)
                                                have q197 : x78_4 < (t192.length : Int) := of_decide_eq_true (by first | (with_reducible assumption) | assumption)
                                                obtain ⟨ad197, e197, hx197_0, hx197_1, hx197_2⟩ := at_T33 (Kd.R_reads' HO_76.out).2.2 x78_4 p197 q197
                                                cases e197
                                                replace p197 := eq_true p197
                                                replace q197 := eq_true q197
                                                go_wp2_with (first | ((with_reducible refine gate_dst (N := 14) rfl ?_); (try (refine gate_guard (by rfl) ?_; dsimp only)); refine box_event ?hg (N := 14) ?hd (cs := #[.int .u8 0, .string (⟨#[]⟩ : ByteArray), .int .i64 0]) (t := 33) ?hr ?_; (case hd => rfl); (case hg => rfl); (case hr => first | (go_simp; done) | (go_simp; rfl)); intro gb198 hg w56 hbox hb; have n0_ := Aside0.mk (Kd.R_below (Kd.R_elderB (by (with_reducible repeat (first | apply Kd.R_alloc | apply Kd.R_drewN | apply Kd.R_drew)); exact HO_5.out) gb198 (Nat.le_of_eq hg.symm)) hb); have n1_ := Aside0.mk (Kd.R_below (Kd.R_elderB (by (with_reducible repeat (first | apply Kd.R_alloc | apply Kd.R_drewN | apply Kd.R_drew)); exact HO_76.out) gb198 (Nat.le_of_eq hg.symm)) hb); have n2_ := Aside0.mk (below_step (by repeat (first | (with_reducible first | exact HB.out | apply below_alloc | apply pw_below_drewN | apply below_drew1) | exact HB.out)) hb); have n3_ := Aside0.mk (hbox); have n4_ := Aside0.mk ((by rw [hg]; exact (below_size (by repeat (first | (with_reducible first | exact HB.out | apply below_alloc | apply pw_below_drewN | apply below_drew1) | exact HB.out))) : w.heap.size ≤ gb198)); have n5_ := Aside0.mk ((by rw [hg]; exact (below_size (by repeat (first | (with_reducible first | exact HB.out | apply below_alloc | apply pw_below_drewN | apply below_drew1) | exact HB.out))) : w.heap.size ≤ gb198)); clear HO_5; clear HO_76; clear HB; have HO_5 := n0_; have HO_76 := n1_; have HB := n2_; have BK198 := n3_; have GW198 := n4_; have GE198 := n5_; clear n0_ n1_ n2_ n3_ n4_ n5_; clear hb hbox hg; have hcz57_0 : w56.cell? ⟨gb198, 0, none⟩ = some (.int .u8 0) := (blk_cell BK198.out 0).trans rfl; have hcz57_1 : w56.cell? ⟨gb198, 1, none⟩ = some (.string (⟨#[]⟩ : ByteArray)) := (blk_cell BK198.out 1).trans rfl; have hcz57_2 : w56.cell? ⟨gb198, 2, none⟩ = some (.int .i64 0) := (blk_cell BK198.out 2).trans rfl; have hfz57_0 := blk_frozen BK198.out 0; have hfz57_1 := blk_frozen BK198.out 1; have hfz57_2 := blk_frozen BK198.out 2; have p199 : 0 ≤ ((ji38) : Int) := of_decide_eq_true (by first | (with_reducible assumption) | assumption); have q199 : (ji38) < (t184.length : Int) := of_decide_eq_true (by first | (with_reducible assumption) | assumption); obtain ⟨ad199, e199, hx199_0, hx199_1, hx199_2⟩ := at_T33 (Kd.R_reads' HO_5.out).2.2 (ji38) p199 q199; obtain rfl : ad191 = ad199 := (by injection e199); have hn199_0 : ad191.block ≠ gb198 := Kd.own_blk (Kd.R_away HO_5.out (fun _ hk => hk.2)); have hn199_1 : ad191.block ≠ gb198 := Kd.own_blk (Kd.R_away HO_5.out (fun _ hk => hk.2)); have hn199_2 : ad191.block ≠ gb198 := Kd.own_blk (Kd.R_away HO_5.out (fun _ hk => hk.2)); replace hx199_0 := (cell_far (p := ⟨gb198, 0, none⟩) (by first | (rw [add_block]; exact hn199_0) | (show (Addr.add _ _).block ≠ _; rw [add_block]; exact hn199_0) | exact hn199_0) (.int .u8 ((rd_T33 t192 x78_4).f0))).trans hx199_0; replace hx199_1 := (cell_far (p := ⟨gb198, 0, none⟩) (by first | (rw [add_block]; exact hn199_0) | (show (Addr.add _ _).block ≠ _; rw [add_block]; exact hn199_0) | exact hn199_0) (.int .u8 ((rd_T33 t192 x78_4).f0))).trans hx199_1; replace hx199_2 := (cell_far (p := ⟨gb198, 0, none⟩) (by first | (rw [add_block]; exact hn199_0) | (show (Addr.add _ _).block ≠ _; rw [add_block]; exact hn199_0) | exact hn199_0) (.int .u8 ((rd_T33 t192 x78_4).f0))).trans hx199_2; replace hx199_0 := (cell_far (p := ⟨gb198, 1, none⟩) (by first | (rw [add_block]; exact hn199_1) | (show (Addr.add _ _).block ≠ _; rw [add_block]; exact hn199_1) | exact hn199_1) (.string ((rd_T33 t192 x78_4).f1))).trans hx199_0; replace hx199_1 := (cell_far (p := ⟨gb198, 1, none⟩) (by first | (rw [add_block]; exact hn199_1) | (show (Addr.add _ _).block ≠ _; rw [add_block]; exact hn199_1) | exact hn199_1) (.string ((rd_T33 t192 x78_4).f1))).trans hx199_1; replace hx199_2 := (cell_far (p := ⟨gb198, 1, none⟩) (by first | (rw [add_block]; exact hn199_1) | (show (Addr.add _ _).block ≠ _; rw [add_block]; exact hn199_1) | exact hn199_1) (.string ((rd_T33 t192 x78_4).f1))).trans hx199_2; replace hx199_0 := (cell_far (p := ⟨gb198, 2, none⟩) (by first | (rw [add_block]; exact hn199_2) | (show (Addr.add _ _).block ≠ _; rw [add_block]; exact hn199_2) | exact hn199_2) (.int .i64 ((rd_T33 t192 x78_4).f2))).trans hx199_0; replace hx199_1 := (cell_far (p := ⟨gb198, 2, none⟩) (by first | (rw [add_block]; exact hn199_2) | (show (Addr.add _ _).block ≠ _; rw [add_block]; exact hn199_2) | exact hn199_2) (.int .i64 ((rd_T33 t192 x78_4).f2))).trans hx199_1; replace hx199_2 := (cell_far (p := ⟨gb198, 2, none⟩) (by first | (rw [add_block]; exact hn199_2) | (show (Addr.add _ _).block ≠ _; rw [add_block]; exact hn199_2) | exact hn199_2) (.int .i64 ((rd_T33 t192 x78_4).f2))).trans hx199_2; clear hn199_0; clear hn199_1; clear hn199_2; replace p199 := eq_true p199; replace q199 := eq_true q199) | ((with_reducible refine gate_dst (N := 15) rfl ?_); (try (refine gate_guard (by rfl) ?_; dsimp only)); refine box_event ?hg (N := 15) ?hd (cs := #[.int .u8 0, .string (⟨#[]⟩ : ByteArray), .int .i64 0]) (t := 33) ?hr ?_; (case hd => rfl); (case hg => rfl); (case hr => first | (go_simp; done) | (go_simp; rfl)); intro gb200 hg w58 hbox hb; have n0_ := Aside0.mk (Kd.R_below (Kd.R_elderB (by (with_reducible repeat (first | apply Kd.R_alloc | apply Kd.R_drewN | apply Kd.R_drew)); exact (Kd.R_mono (Kd.R_far (p := ⟨gb198, 2, none⟩) (Kd.R_far (p := ⟨gb198, 1, none⟩) (Kd.R_far (p := ⟨gb198, 0, none⟩) (Kd.R_mono HO_5.out (fun k_ hk => (⟨hk, hk.2⟩ : _ ∧ k_ ≠ gb198))) (fun _ hk => hk.2) (.int .u8 ((rd_T33 t192 x78_4).f0))) (fun _ hk => hk.2) (.string ((rd_T33 t192 x78_4).f1))) (fun _ hk => hk.2) (.int .i64 ((rd_T33 t192 x78_4).f2))) (fun _ h_ => h_.1))) gb200 (Nat.le_of_eq hg.symm)) hb); have n1_ := Aside0.mk (Kd.R_below (Kd.R_elderB (by (with_reducible repeat (first | apply Kd.R_alloc | apply Kd.R_drewN | apply Kd.R_drew)); exact (Kd.R_mono (Kd.R_far (p := ⟨gb198, 2, none⟩) (Kd.R_far (p := ⟨gb198, 1, none⟩) (Kd.R_far (p := ⟨gb198, 0, none⟩) (Kd.R_mono HO_76.out (fun k_ hk => (⟨hk, hk.2⟩ : _ ∧ k_ ≠ gb198))) (fun _ hk => hk.2) (.int .u8 ((rd_T33 t192 x78_4).f0))) (fun _ hk => hk.2) (.string ((rd_T33 t192 x78_4).f1))) (fun _ hk => hk.2) (.int .i64 ((rd_T33 t192 x78_4).f2))) (fun _ h_ => h_.1))) gb200 (Nat.le_of_eq hg.symm)) hb); have n2_ := Aside0.mk (blk_below (g := gb198) (o := .cells #[.int .u8 ((rd_T33 t192 x78_4).f0), .string ((rd_T33 t192 x78_4).f1), .int .i64 ((rd_T33 t192 x78_4).f2)] 33 (0, 0)) (by (with_reducible repeat (first | refine blk_drewN ?_ _ | refine blk_drew ?_ | refine blk_alloc ?_ _)); refine blk_put (cs := #[.int .u8 ((rd_T33 t192 x78_4).f0), .string ((rd_T33 t192 x78_4).f1), .int .i64 0]) ?_ 2 _ rfl; (with_reducible repeat (first | refine blk_drewN ?_ _ | refine blk_drew ?_ | refine blk_alloc ?_ _)); refine blk_put (cs := #[.int .u8 ((rd_T33 t192 x78_4).f0), .string (⟨#[]⟩ : ByteArray), .int .i64 0]) ?_ 1 _ rfl; (with_reducible repeat (first | refine blk_drewN ?_ _ | refine blk_drew ?_ | refine blk_alloc ?_ _)); refine blk_put (cs := #[.int .u8 0, .string (⟨#[]⟩ : ByteArray), .int .i64 0]) ?_ 0 _ rfl; (with_reducible repeat (first | refine blk_drewN ?_ _ | refine blk_drew ?_ | refine blk_alloc ?_ _)); exact BK198.out) hb); have n3_ := Aside0.mk (below_step (by repeat (first | (with_reducible first | exact HB.out | apply below_alloc | apply pw_below_drewN | apply below_drew1 | refine below_set ?_ GE198.out) | exact HB.out)) hb); have n4_ := Aside0.mk (hbox); have n5_ := Aside0.mk ((by rw [hg]; exact (below_size (by repeat (first | (with_reducible first | exact HB.out | apply below_alloc | apply pw_below_drewN | apply below_drew1 | refine below_set ?_ GE198.out) | exact HB.out))) : w.heap.size ≤ gb200)); have n6_ := Aside0.mk ((by rw [hg]; exact (below_size (by repeat (first | (with_reducible first | exact HB.out | apply below_alloc | apply pw_below_drewN | apply below_drew1 | refine below_set ?_ GE198.out) | exact HB.out))) : w.heap.size ≤ gb200)); have n7_ := Aside0.mk ((by rw [hg]; exact Nat.ne_of_lt (blk_lt (g := gb198) (o := .cells #[.int .u8 ((rd_T33 t192 x78_4).f0), .string ((rd_T33 t192 x78_4).f1), .int .i64 ((rd_T33 t192 x78_4).f2)] 33 (0, 0)) (by (with_reducible repeat (first | refine blk_drewN ?_ _ | refine blk_drew ?_ | refine blk_alloc ?_ _)); refine blk_put (cs := #[.int .u8 ((rd_T33 t192 x78_4).f0), .string ((rd_T33 t192 x78_4).f1), .int .i64 0]) ?_ 2 _ rfl; (with_reducible repeat (first | refine blk_drewN ?_ _ | refine blk_drew ?_ | refine blk_alloc ?_ _)); refine blk_put (cs := #[.int .u8 ((rd_T33 t192 x78_4).f0), .string (⟨#[]⟩ : ByteArray), .int .i64 0]) ?_ 1 _ rfl; (with_reducible repeat (first | refine blk_drewN ?_ _ | refine blk_drew ?_ | refine blk_alloc ?_ _)); refine blk_put (cs := #[.int .u8 0, .string (⟨#[]⟩ : ByteArray), .int .i64 0]) ?_ 0 _ rfl; (with_reducible repeat (first | refine blk_drewN ?_ _ | refine blk_drew ?_ | refine blk_alloc ?_ _)); exact BK198.out)) : gb198 ≠ gb200)); have n8_ := Aside0.mk ((by rw [hg]; exact Nat.ne_of_gt (blk_lt (g := gb198) (o := .cells #[.int .u8 ((rd_T33 t192 x78_4).f0), .string ((rd_T33 t192 x78_4).f1), .int .i64 ((rd_T33 t192 x78_4).f2)] 33 (0, 0)) (by (with_reducible repeat (first | refine blk_drewN ?_ _ | refine blk_drew ?_ | refine blk_alloc ?_ _)); refine blk_put (cs := #[.int .u8 ((rd_T33 t192 x78_4).f0), .string ((rd_T33 t192 x78_4).f1), .int .i64 0]) ?_ 2 _ rfl; (with_reducible repeat (first | refine blk_drewN ?_ _ | refine blk_drew ?_ | refine blk_alloc ?_ _)); refine blk_put (cs := #[.int .u8 ((rd_T33 t192 x78_4).f0), .string (⟨#[]⟩ : ByteArray), .int .i64 0]) ?_ 1 _ rfl; (with_reducible repeat (first | refine blk_drewN ?_ _ | refine blk_drew ?_ | refine blk_alloc ?_ _)); refine blk_put (cs := #[.int .u8 0, .string (⟨#[]⟩ : ByteArray), .int .i64 0]) ?_ 0 _ rfl; (with_reducible repeat (first | refine blk_drewN ?_ _ | refine blk_drew ?_ | refine blk_alloc ?_ _)); exact BK198.out)) : gb200 ≠ gb198)); clear HO_5; clear HO_76; clear BK198; clear HB; have HO_5 := n0_; have HO_76 := n1_; have BK198 := n2_; have HB := n3_; have BK200 := n4_; have GW200 := n5_; have GE200 := n6_; have NB198_200 := n7_; have NB200_198 := n8_; clear n0_ n1_ n2_ n3_ n4_ n5_ n6_ n7_ n8_; clear hb hbox hg; have hnb59 := NB200_198.out; have hnc59 := NB198_200.out; have hcz60_0 : w58.cell? ⟨gb200, 0, none⟩ = some (.int .u8 0) := (blk_cell BK200.out 0).trans rfl; have hcz60_1 : w58.cell? ⟨gb200, 1, none⟩ = some (.string (⟨#[]⟩ : ByteArray)) := (blk_cell BK200.out 1).trans rfl; have hcz60_2 : w58.cell? ⟨gb200, 2, none⟩ = some (.int .i64 0) := (blk_cell BK200.out 2).trans rfl; have hfz60_0 := blk_frozen BK200.out 0; have hfz60_1 := blk_frozen BK200.out 1; have hfz60_2 := blk_frozen BK200.out 2; have hcz61_0 : w58.cell? ⟨gb198, 0, none⟩ = some (.int .u8 ((rd_T33 t192 x78_4).f0)) := (blk_cell BK198.out 0).trans rfl; have hcz61_1 : w58.cell? ⟨gb198, 1, none⟩ = some (.string ((rd_T33 t192 x78_4).f1)) := (blk_cell BK198.out 1).trans rfl; have hcz61_2 : w58.cell? ⟨gb198, 2, none⟩ = some (.int .i64 ((rd_T33 t192 x78_4).f2)) := (blk_cell BK198.out 2).trans rfl; have hfz61_0 := blk_frozen BK198.out 0; have hfz61_1 := blk_frozen BK198.out 1; have hfz61_2 := blk_frozen BK198.out 2))
                                                go_ret
                                                exact ⟨by first | rfl | (simp [errW_none, errW_some] <;> rfl) | (simp only [← hji19, ← hji38]; first | rfl | (simp [errW_none, errW_some] <;> rfl)) | (simp [*, errW_none, errW_some] <;> rfl), by repeat (first | (with_reducible first | exact HB.out | apply below_alloc | apply pw_below_drewN | apply below_drew1 | refine below_set ?_ GE198.out | refine below_set ?_ GE200.out) | exact HB.out)⟩
                                            · rw [if_neg c41] at H
                                              have c41b0 : (((rd_T33 t192 x78_4).f0) == ((rd_T33 t184 (ji38)).f0)) = false := beq_eq_false_iff_ne.mpr c41
                                              have c41b1 : (((rd_T33 t192 x78_4).f0) != ((rd_T33 t184 (ji38)).f0)) = true := bne_iff_ne.mpr c41
                                              obtain rfl := Option.some.inj H
                                              have p197 : 0 ≤ (x78_4 : Int) := of_decide_eq_true (by first | (with_reducible assumption) | assumption)
                                              have q197 : x78_4 < (t192.length : Int) := of_decide_eq_true (by first | (with_reducible assumption) | assumption)
                                              obtain ⟨ad197, e197, hx197_0, hx197_1, hx197_2⟩ := at_T33 (Kd.R_reads' HO_76.out).2.2 x78_4 p197 q197
                                              cases e197
                                              replace p197 := eq_true p197
                                              replace q197 := eq_true q197
                                              go_wp2_with (first | ((with_reducible refine gate_dst (N := 14) rfl ?_); (try (refine gate_guard (by rfl) ?_; dsimp only)); refine box_event ?hg (N := 14) ?hd (cs := #[.int .u8 0, .string (⟨#[]⟩ : ByteArray), .int .i64 0]) (t := 33) ?hr ?_; (case hd => rfl); (case hg => rfl); (case hr => first | (go_simp; done) | (go_simp; rfl)); intro gb198 hg w62 hbox hb; have n0_ := Aside0.mk (Kd.R_below (Kd.R_elderB (by (with_reducible repeat (first | apply Kd.R_alloc | apply Kd.R_drewN | apply Kd.R_drew)); exact HO_5.out) gb198 (Nat.le_of_eq hg.symm)) hb); have n1_ := Aside0.mk (Kd.R_below (Kd.R_elderB (by (with_reducible repeat (first | apply Kd.R_alloc | apply Kd.R_drewN | apply Kd.R_drew)); exact HO_76.out) gb198 (Nat.le_of_eq hg.symm)) hb); have n2_ := Aside0.mk (below_step (by repeat (first | (with_reducible first | exact HB.out | apply below_alloc | apply pw_below_drewN | apply below_drew1) | exact HB.out)) hb); have n3_ := Aside0.mk (hbox); have n4_ := Aside0.mk ((by rw [hg]; exact (below_size (by repeat (first | (with_reducible first | exact HB.out | apply below_alloc | apply pw_below_drewN | apply below_drew1) | exact HB.out))) : w.heap.size ≤ gb198)); have n5_ := Aside0.mk ((by rw [hg]; exact (below_size (by repeat (first | (with_reducible first | exact HB.out | apply below_alloc | apply pw_below_drewN | apply below_drew1) | exact HB.out))) : w.heap.size ≤ gb198)); clear HO_5; clear HO_76; clear HB; have HO_5 := n0_; have HO_76 := n1_; have HB := n2_; have BK198 := n3_; have GW198 := n4_; have GE198 := n5_; clear n0_ n1_ n2_ n3_ n4_ n5_; clear hb hbox hg; have hcz63_0 : w62.cell? ⟨gb198, 0, none⟩ = some (.int .u8 0) := (blk_cell BK198.out 0).trans rfl; have hcz63_1 : w62.cell? ⟨gb198, 1, none⟩ = some (.string (⟨#[]⟩ : ByteArray)) := (blk_cell BK198.out 1).trans rfl; have hcz63_2 : w62.cell? ⟨gb198, 2, none⟩ = some (.int .i64 0) := (blk_cell BK198.out 2).trans rfl; have hfz63_0 := blk_frozen BK198.out 0; have hfz63_1 := blk_frozen BK198.out 1; have hfz63_2 := blk_frozen BK198.out 2; have p199 : 0 ≤ ((ji38) : Int) := of_decide_eq_true (by first | (with_reducible assumption) | assumption); have q199 : (ji38) < (t184.length : Int) := of_decide_eq_true (by first | (with_reducible assumption) | assumption); obtain ⟨ad199, e199, hx199_0, hx199_1, hx199_2⟩ := at_T33 (Kd.R_reads' HO_5.out).2.2 (ji38) p199 q199; obtain rfl : ad191 = ad199 := (by injection e199); have hn199_0 : ad191.block ≠ gb198 := Kd.own_blk (Kd.R_away HO_5.out (fun _ hk => hk.2)); have hn199_1 : ad191.block ≠ gb198 := Kd.own_blk (Kd.R_away HO_5.out (fun _ hk => hk.2)); have hn199_2 : ad191.block ≠ gb198 := Kd.own_blk (Kd.R_away HO_5.out (fun _ hk => hk.2)); replace hx199_0 := (cell_far (p := ⟨gb198, 0, none⟩) (by first | (rw [add_block]; exact hn199_0) | (show (Addr.add _ _).block ≠ _; rw [add_block]; exact hn199_0) | exact hn199_0) (.int .u8 ((rd_T33 t192 x78_4).f0))).trans hx199_0; replace hx199_1 := (cell_far (p := ⟨gb198, 0, none⟩) (by first | (rw [add_block]; exact hn199_0) | (show (Addr.add _ _).block ≠ _; rw [add_block]; exact hn199_0) | exact hn199_0) (.int .u8 ((rd_T33 t192 x78_4).f0))).trans hx199_1; replace hx199_2 := (cell_far (p := ⟨gb198, 0, none⟩) (by first | (rw [add_block]; exact hn199_0) | (show (Addr.add _ _).block ≠ _; rw [add_block]; exact hn199_0) | exact hn199_0) (.int .u8 ((rd_T33 t192 x78_4).f0))).trans hx199_2; replace hx199_0 := (cell_far (p := ⟨gb198, 1, none⟩) (by first | (rw [add_block]; exact hn199_1) | (show (Addr.add _ _).block ≠ _; rw [add_block]; exact hn199_1) | exact hn199_1) (.string ((rd_T33 t192 x78_4).f1))).trans hx199_0; replace hx199_1 := (cell_far (p := ⟨gb198, 1, none⟩) (by first | (rw [add_block]; exact hn199_1) | (show (Addr.add _ _).block ≠ _; rw [add_block]; exact hn199_1) | exact hn199_1) (.string ((rd_T33 t192 x78_4).f1))).trans hx199_1; replace hx199_2 := (cell_far (p := ⟨gb198, 1, none⟩) (by first | (rw [add_block]; exact hn199_1) | (show (Addr.add _ _).block ≠ _; rw [add_block]; exact hn199_1) | exact hn199_1) (.string ((rd_T33 t192 x78_4).f1))).trans hx199_2; replace hx199_0 := (cell_far (p := ⟨gb198, 2, none⟩) (by first | (rw [add_block]; exact hn199_2) | (show (Addr.add _ _).block ≠ _; rw [add_block]; exact hn199_2) | exact hn199_2) (.int .i64 ((rd_T33 t192 x78_4).f2))).trans hx199_0; replace hx199_1 := (cell_far (p := ⟨gb198, 2, none⟩) (by first | (rw [add_block]; exact hn199_2) | (show (Addr.add _ _).block ≠ _; rw [add_block]; exact hn199_2) | exact hn199_2) (.int .i64 ((rd_T33 t192 x78_4).f2))).trans hx199_1; replace hx199_2 := (cell_far (p := ⟨gb198, 2, none⟩) (by first | (rw [add_block]; exact hn199_2) | (show (Addr.add _ _).block ≠ _; rw [add_block]; exact hn199_2) | exact hn199_2) (.int .i64 ((rd_T33 t192 x78_4).f2))).trans hx199_2; clear hn199_0; clear hn199_1; clear hn199_2; replace p199 := eq_true p199; replace q199 := eq_true q199) | ((with_reducible refine gate_dst (N := 15) rfl ?_); (try (refine gate_guard (by rfl) ?_; dsimp only)); refine box_event ?hg (N := 15) ?hd (cs := #[.int .u8 0, .string (⟨#[]⟩ : ByteArray), .int .i64 0]) (t := 33) ?hr ?_; (case hd => rfl); (case hg => rfl); (case hr => first | (go_simp; done) | (go_simp; rfl)); intro gb200 hg w64 hbox hb; have n0_ := Aside0.mk (Kd.R_below (Kd.R_elderB (by (with_reducible repeat (first | apply Kd.R_alloc | apply Kd.R_drewN | apply Kd.R_drew)); exact (Kd.R_mono (Kd.R_far (p := ⟨gb198, 2, none⟩) (Kd.R_far (p := ⟨gb198, 1, none⟩) (Kd.R_far (p := ⟨gb198, 0, none⟩) (Kd.R_mono HO_5.out (fun k_ hk => (⟨hk, hk.2⟩ : _ ∧ k_ ≠ gb198))) (fun _ hk => hk.2) (.int .u8 ((rd_T33 t192 x78_4).f0))) (fun _ hk => hk.2) (.string ((rd_T33 t192 x78_4).f1))) (fun _ hk => hk.2) (.int .i64 ((rd_T33 t192 x78_4).f2))) (fun _ h_ => h_.1))) gb200 (Nat.le_of_eq hg.symm)) hb); have n1_ := Aside0.mk (Kd.R_below (Kd.R_elderB (by (with_reducible repeat (first | apply Kd.R_alloc | apply Kd.R_drewN | apply Kd.R_drew)); exact (Kd.R_mono (Kd.R_far (p := ⟨gb198, 2, none⟩) (Kd.R_far (p := ⟨gb198, 1, none⟩) (Kd.R_far (p := ⟨gb198, 0, none⟩) (Kd.R_mono HO_76.out (fun k_ hk => (⟨hk, hk.2⟩ : _ ∧ k_ ≠ gb198))) (fun _ hk => hk.2) (.int .u8 ((rd_T33 t192 x78_4).f0))) (fun _ hk => hk.2) (.string ((rd_T33 t192 x78_4).f1))) (fun _ hk => hk.2) (.int .i64 ((rd_T33 t192 x78_4).f2))) (fun _ h_ => h_.1))) gb200 (Nat.le_of_eq hg.symm)) hb); have n2_ := Aside0.mk (blk_below (g := gb198) (o := .cells #[.int .u8 ((rd_T33 t192 x78_4).f0), .string ((rd_T33 t192 x78_4).f1), .int .i64 ((rd_T33 t192 x78_4).f2)] 33 (0, 0)) (by (with_reducible repeat (first | refine blk_drewN ?_ _ | refine blk_drew ?_ | refine blk_alloc ?_ _)); refine blk_put (cs := #[.int .u8 ((rd_T33 t192 x78_4).f0), .string ((rd_T33 t192 x78_4).f1), .int .i64 0]) ?_ 2 _ rfl; (with_reducible repeat (first | refine blk_drewN ?_ _ | refine blk_drew ?_ | refine blk_alloc ?_ _)); refine blk_put (cs := #[.int .u8 ((rd_T33 t192 x78_4).f0), .string (⟨#[]⟩ : ByteArray), .int .i64 0]) ?_ 1 _ rfl; (with_reducible repeat (first | refine blk_drewN ?_ _ | refine blk_drew ?_ | refine blk_alloc ?_ _)); refine blk_put (cs := #[.int .u8 0, .string (⟨#[]⟩ : ByteArray), .int .i64 0]) ?_ 0 _ rfl; (with_reducible repeat (first | refine blk_drewN ?_ _ | refine blk_drew ?_ | refine blk_alloc ?_ _)); exact BK198.out) hb); have n3_ := Aside0.mk (below_step (by repeat (first | (with_reducible first | exact HB.out | apply below_alloc | apply pw_below_drewN | apply below_drew1 | refine below_set ?_ GE198.out) | exact HB.out)) hb); have n4_ := Aside0.mk (hbox); have n5_ := Aside0.mk ((by rw [hg]; exact (below_size (by repeat (first | (with_reducible first | exact HB.out | apply below_alloc | apply pw_below_drewN | apply below_drew1 | refine below_set ?_ GE198.out) | exact HB.out))) : w.heap.size ≤ gb200)); have n6_ := Aside0.mk ((by rw [hg]; exact (below_size (by repeat (first | (with_reducible first | exact HB.out | apply below_alloc | apply pw_below_drewN | apply below_drew1 | refine below_set ?_ GE198.out) | exact HB.out))) : w.heap.size ≤ gb200)); have n7_ := Aside0.mk ((by rw [hg]; exact Nat.ne_of_lt (blk_lt (g := gb198) (o := .cells #[.int .u8 ((rd_T33 t192 x78_4).f0), .string ((rd_T33 t192 x78_4).f1), .int .i64 ((rd_T33 t192 x78_4).f2)] 33 (0, 0)) (by (with_reducible repeat (first | refine blk_drewN ?_ _ | refine blk_drew ?_ | refine blk_alloc ?_ _)); refine blk_put (cs := #[.int .u8 ((rd_T33 t192 x78_4).f0), .string ((rd_T33 t192 x78_4).f1), .int .i64 0]) ?_ 2 _ rfl; (with_reducible repeat (first | refine blk_drewN ?_ _ | refine blk_drew ?_ | refine blk_alloc ?_ _)); refine blk_put (cs := #[.int .u8 ((rd_T33 t192 x78_4).f0), .string (⟨#[]⟩ : ByteArray), .int .i64 0]) ?_ 1 _ rfl; (with_reducible repeat (first | refine blk_drewN ?_ _ | refine blk_drew ?_ | refine blk_alloc ?_ _)); refine blk_put (cs := #[.int .u8 0, .string (⟨#[]⟩ : ByteArray), .int .i64 0]) ?_ 0 _ rfl; (with_reducible repeat (first | refine blk_drewN ?_ _ | refine blk_drew ?_ | refine blk_alloc ?_ _)); exact BK198.out)) : gb198 ≠ gb200)); have n8_ := Aside0.mk ((by rw [hg]; exact Nat.ne_of_gt (blk_lt (g := gb198) (o := .cells #[.int .u8 ((rd_T33 t192 x78_4).f0), .string ((rd_T33 t192 x78_4).f1), .int .i64 ((rd_T33 t192 x78_4).f2)] 33 (0, 0)) (by (with_reducible repeat (first | refine blk_drewN ?_ _ | refine blk_drew ?_ | refine blk_alloc ?_ _)); refine blk_put (cs := #[.int .u8 ((rd_T33 t192 x78_4).f0), .string ((rd_T33 t192 x78_4).f1), .int .i64 0]) ?_ 2 _ rfl; (with_reducible repeat (first | refine blk_drewN ?_ _ | refine blk_drew ?_ | refine blk_alloc ?_ _)); refine blk_put (cs := #[.int .u8 ((rd_T33 t192 x78_4).f0), .string (⟨#[]⟩ : ByteArray), .int .i64 0]) ?_ 1 _ rfl; (with_reducible repeat (first | refine blk_drewN ?_ _ | refine blk_drew ?_ | refine blk_alloc ?_ _)); refine blk_put (cs := #[.int .u8 0, .string (⟨#[]⟩ : ByteArray), .int .i64 0]) ?_ 0 _ rfl; (with_reducible repeat (first | refine blk_drewN ?_ _ | refine blk_drew ?_ | refine blk_alloc ?_ _)); exact BK198.out)) : gb200 ≠ gb198)); clear HO_5; clear HO_76; clear BK198; clear HB; have HO_5 := n0_; have HO_76 := n1_; have BK198 := n2_; have HB := n3_; have BK200 := n4_; have GW200 := n5_; have GE200 := n6_; have NB198_200 := n7_; have NB200_198 := n8_; clear n0_ n1_ n2_ n3_ n4_ n5_ n6_ n7_ n8_; clear hb hbox hg; have hnb65 := NB200_198.out; have hnc65 := NB198_200.out; have hcz66_0 : w64.cell? ⟨gb200, 0, none⟩ = some (.int .u8 0) := (blk_cell BK200.out 0).trans rfl; have hcz66_1 : w64.cell? ⟨gb200, 1, none⟩ = some (.string (⟨#[]⟩ : ByteArray)) := (blk_cell BK200.out 1).trans rfl; have hcz66_2 : w64.cell? ⟨gb200, 2, none⟩ = some (.int .i64 0) := (blk_cell BK200.out 2).trans rfl; have hfz66_0 := blk_frozen BK200.out 0; have hfz66_1 := blk_frozen BK200.out 1; have hfz66_2 := blk_frozen BK200.out 2; have hcz67_0 : w64.cell? ⟨gb198, 0, none⟩ = some (.int .u8 ((rd_T33 t192 x78_4).f0)) := (blk_cell BK198.out 0).trans rfl; have hcz67_1 : w64.cell? ⟨gb198, 1, none⟩ = some (.string ((rd_T33 t192 x78_4).f1)) := (blk_cell BK198.out 1).trans rfl; have hcz67_2 : w64.cell? ⟨gb198, 2, none⟩ = some (.int .i64 ((rd_T33 t192 x78_4).f2)) := (blk_cell BK198.out 2).trans rfl; have hfz67_0 := blk_frozen BK198.out 0; have hfz67_1 := blk_frozen BK198.out 1; have hfz67_2 := blk_frozen BK198.out 2))
                                              go_ret
                                              exact ⟨by first | rfl | (simp [errW_none, errW_some] <;> rfl) | (simp only [← hji19, ← hji38]; first | rfl | (simp [errW_none, errW_some] <;> rfl)) | (simp [*, errW_none, errW_some] <;> rfl), by repeat (first | (with_reducible first | exact HB.out | apply below_alloc | apply pw_below_drewN | apply below_drew1 | refine below_set ?_ GE198.out | refine below_set ?_ GE200.out) | exact HB.out)⟩
                                          · rw [if_neg c40] at H
                                            exact absurd H (by simp)
                                        · rw [if_neg c39] at H
                                          exact absurd H (by simp)
                                      · rw [if_neg c37] at H
                                        exact absurd H (by simp)
                                    · rw [if_neg c36] at H
                                      exact absurd H (by simp)
                                  · rw [if_neg c35] at H
                                    have c35b0 : decide (x78_4 < (t192.length : Int)) = false := decide_eq_false c35
                                    clear c35
                                    obtain rfl := Option.some.inj H
                                    go_wp2
                                    go_ret
                                    exact ⟨by first | rfl | (simp [errW_none, errW_some] <;> rfl) | (simp only [← hji19]; first | rfl | (simp [errW_none, errW_some] <;> rfl)) | (simp [*, errW_none, errW_some] <;> rfl), by repeat (first | (with_reducible first | exact HB.out | apply below_alloc | apply pw_below_drewN | apply below_drew1) | exact HB.out)⟩
                      · rw [if_neg c27] at H
                        exact absurd H (by simp)
                    · rw [if_neg c26] at H
                      exact absurd H (by simp)
            · rw [if_neg c21] at H
              exact absurd H (by simp)
          · rw [if_neg c20] at H
            exact absurd H (by simp)

/-- THE ONE PURE STATEMENT of ontimelaw11_LexerSuffix: yours. -/
def ontimelaw11_LexerSuffix.Pure : Prop := ∀ (a0 : ByteArray) (a1 : Int), a0.size ≤ 140737488351232 → (Lit.int .u8 a1).wf = true → ∃ k, ontimelaw11_LexerSuffix.f k a0 a1 = some true
theorem ontimelaw11_LexerSuffix.walk (P : ontimelaw11_LexerSuffix.Pure) (a0 : ByteArray) (a1 : Int) (w : World) (w0 : a0.size ≤ 140737488351232) (w1 : (Lit.int .u8 a1).wf = true) (hL : Laid w) :
    Calls Tryd.prog 5 #[.string a0, .int .u8 a1] w fun e w' => e = .returned (.bool true) ∧ Below w.heap.size w w' := by
  obtain ⟨k, h⟩ := P a0 a1 w0 w1
  refine (ontimelaw11_LexerSuffix.calls k a0 a1 true w hL h).mono ?_
  rintro e w' ⟨rfl, hd⟩
  exact ⟨rfl, hd⟩

end Go.Proofs.YtjdljjjkmjhdnaaDoor.P
