-- WRITTEN by myprint.py (a program of this session's over the kit's print); Lean checks it.
import Derived.Test.YtjdljjjkmjhdnaaDoorPx0
import Derived.Test.YtjdljjjkmjhdnaaDoorPx1
import Derived.Test.YtjdljjjkmjhdnaaDoorPx2
import Derived.Test.YtjdljjjkmjhdnaaDoorPx9
import Derived.Test.YtjdljjjkmjhdnaaDoorGJoin
import Derived.Test.YtjdljjjkmjhdnaaDoorLaid
namespace Go.Proofs.YtjdljjjkmjhdnaaDoor.P
open Go.RowKit Go.Proofs.YtjdljjjkmjhdnaaDoorW.PrintWords Go.Proofs.YtjdljjjkmjhdnaaDoorW.PrintLast Go.Proofs.YtjdljjjkmjhdnaaDoorW.PrintMore
attribute [local go_sem] max2_int min2_int max_two min_two max_three min_three max_four min_four   -- for this text's walks alone
set_option linter.unusedVariables false
set_option linter.unusedSimpArgs false

/-- A cell that is set twice. -/
@[local go_sem] theorem cell_set_twice (w : World) (a : Addr) (v v_ : Value) (h : (w.cell? a).isSome = true) : ((w.setCell a v).setCell a v_).cell? a = some v_ := World.cell?_setCell_same' _ _ _ (by rw [World.cell?_setCell_same' _ _ _ h]; rfl)
attribute [local go_sem high] eqA33
/-! ### ontimelaw11_LexerSolid: function 10 -/
mutual
def ontimelaw11_LexerSolid.j0 : Nat → List (S33) → Bool → Option (Bool)
  | 0, _, _ => none
  | k + 1, x0, x16 => if x16 = true then ((ontimelaw11_awake.f k).bind fun t315 => (some t315)) else (ontimelaw11_LexerSolid.l0 k x0 (⟨#[]⟩ : ByteArray) x0 (x0.length : Int) 0)
def ontimelaw11_LexerSolid.l0 : Nat → List (S33) → ByteArray → List (S33) → Int → Int → Option (Bool)
  | 0, _, _, _, _, _ => none
  | k + 1, x0, x3, x18, x19, x20 => if x20 < x19 then (if 0 ≤ x20 then (if x20 < (x18.length : Int) then (if (((rd_T33 x18 x20).f1).size : Int) > 60 then (some true) else (if x3.size + ((rd_T33 x18 x20).f1).size ≤ 9223372036854775807 then (ontimelaw11_LexerSolid.l0 k x0 (x3 ++ ((rd_T33 x18 x20).f1)) x18 x19 (wrap64 (x20 + 1))) else (none))) else (none)) else (none)) else ((lexer_Join.f x0).bind fun t318 => (if t318.toList = x3.toList then ((lexer_Solid.f k x0).bind fun t319 => (ontimelaw11_LexerSolid.l1 k x0 x3 t319 0 x0 (x0.length : Int) 0)) else (some false)))
def ontimelaw11_LexerSolid.l1 : Nat → List (S33) → ByteArray → List (S33) → Int → List (S33) → Int → Int → Option (Bool)
  | 0, _, _, _, _, _, _, _ => none
  | k + 1, x0, x3, x6, x7, x39, x40, x41 => if x41 < x40 then (if 0 ≤ x41 then (if x41 < (x39.length : Int) then (if ((rd_T33 x39 x41).f0) = 4 then (ontimelaw11_LexerSolid.j3 k x0 x3 x6 x7 x39 x40 x41 true ((rd_T33 x39 x41).f0) ((rd_T33 x39 x41).f1) ((rd_T33 x39 x41).f2)) else (ontimelaw11_LexerSolid.j3 k x0 x3 x6 x7 x39 x40 x41 (((rd_T33 x39 x41).f0) == 5) ((rd_T33 x39 x41).f0) ((rd_T33 x39 x41).f1) ((rd_T33 x39 x41).f2))) else (none)) else (none)) else (if x7 = (x6.length : Int) then ((lexer_Join.f x0).bind fun t322 => (some (t322.toList == x3.toList))) else (some false))
def ontimelaw11_LexerSolid.j3 : Nat → List (S33) → ByteArray → List (S33) → Int → List (S33) → Int → Int → Bool → Int → ByteArray → Int → Option (Bool)
  | 0, _, _, _, _, _, _, _, _, _, _, _ => none
  | k + 1, x0, x3, x6, x7, x39, x40, x41, x52, x325000, x325001, x325002 => if x52 = true then (ontimelaw11_LexerSolid.l1 k x0 x3 x6 x7 x39 x40 (wrap64 (x41 + 1))) else (if x7 ≥ (x6.length : Int) then (some false) else (if 0 ≤ x7 then (if x7 < (x6.length : Int) then (if (!(((rd_T33 x6 x7).f0) == x325000) || (!((((rd_T33 x6 x7).f1).toList) == x325001.toList) || (!(((rd_T33 x6 x7).f2) == x325002)))) = true then (some false) else (ontimelaw11_LexerSolid.l1 k x0 x3 (x6.set (x7 : Int).toNat (⟨(rd_T33 x6 x7).f0, (⟨#[63]⟩ : ByteArray), (rd_T33 x6 x7).f2⟩ : S33)) (wrap64 (x7 + 1)) x39 x40 (wrap64 (x41 + 1)))) else (none)) else (none)))
end
def ontimelaw11_LexerSolid.f (k : Nat) (l0 : List (S33)) : Option (Bool) := (ontimelaw11_awake.f k).bind fun t314 => (if t314 = true then (ontimelaw11_LexerSolid.j0 k l0 (decide ((l0.length : Int) > 60))) else (ontimelaw11_LexerSolid.j0 k l0 true))
theorem ontimelaw11_LexerSolid.mono_l : ∀ k, (∀ y0 y1, LeO (ontimelaw11_LexerSolid.j0 k y0 y1) (ontimelaw11_LexerSolid.j0 (k + 1) y0 y1)) ∧ (∀ y0 y1 y2 y3 y4, LeO (ontimelaw11_LexerSolid.l0 k y0 y1 y2 y3 y4) (ontimelaw11_LexerSolid.l0 (k + 1) y0 y1 y2 y3 y4)) ∧ (∀ y0 y1 y2 y3 y4 y5 y6, LeO (ontimelaw11_LexerSolid.l1 k y0 y1 y2 y3 y4 y5 y6) (ontimelaw11_LexerSolid.l1 (k + 1) y0 y1 y2 y3 y4 y5 y6)) ∧ (∀ y0 y1 y2 y3 y4 y5 y6 y7 y8 y9 y10, LeO (ontimelaw11_LexerSolid.j3 k y0 y1 y2 y3 y4 y5 y6 y7 y8 y9 y10) (ontimelaw11_LexerSolid.j3 (k + 1) y0 y1 y2 y3 y4 y5 y6 y7 y8 y9 y10))
  | 0 => ⟨fun _ _ r h => by simp [ontimelaw11_LexerSolid.j0] at h, fun _ _ _ _ _ r h => by simp [ontimelaw11_LexerSolid.l0] at h, fun _ _ _ _ _ _ _ r h => by simp [ontimelaw11_LexerSolid.l1] at h, fun _ _ _ _ _ _ _ _ _ _ _ r h => by simp [ontimelaw11_LexerSolid.j3] at h⟩
  | k + 1 => by
    obtain ⟨ih0, ih1, ih2, ih3⟩ := ontimelaw11_LexerSolid.mono_l k
    refine ⟨?_, ?_, ?_, ?_⟩
    · intro y0 y1
      unfold ontimelaw11_LexerSolid.j0
      repeat' first
      | (with_reducible exact ih0 _ _)
      | (with_reducible exact ih1 _ _ _ _ _)
      | (with_reducible exact ih2 _ _ _ _ _ _ _)
      | (with_reducible exact ih3 _ _ _ _ _ _ _ _ _ _ _)
      | (with_reducible exact lexer_Solid.mono _ _)
      | (with_reducible exact ontimelaw11_awake.mono _)
      | (with_reducible exact LeO.refl _)
      | (with_reducible exact LeO.none _)
      | (with_reducible refine LeO.ite ?_ ?_)
      | (with_reducible refine LeO.bind ?_ (fun _ => ?_))
      | exact ih0 _ _
      | exact ih1 _ _ _ _ _
      | exact ih2 _ _ _ _ _ _ _
      | exact ih3 _ _ _ _ _ _ _ _ _ _ _
      | exact lexer_Solid.mono _ _
      | exact ontimelaw11_awake.mono _
      | exact LeO.none _
      | refine LeO.ite ?_ ?_
      | refine LeO.bind ?_ (fun _ => ?_)
    · intro y0 y1 y2 y3 y4
      unfold ontimelaw11_LexerSolid.l0
      repeat' first
      | (with_reducible exact ih0 _ _)
      | (with_reducible exact ih1 _ _ _ _ _)
      | (with_reducible exact ih2 _ _ _ _ _ _ _)
      | (with_reducible exact ih3 _ _ _ _ _ _ _ _ _ _ _)
      | (with_reducible exact lexer_Solid.mono _ _)
      | (with_reducible exact ontimelaw11_awake.mono _)
      | (with_reducible exact LeO.refl _)
      | (with_reducible exact LeO.none _)
      | (with_reducible refine LeO.ite ?_ ?_)
      | (with_reducible refine LeO.bind ?_ (fun _ => ?_))
      | exact ih0 _ _
      | exact ih1 _ _ _ _ _
      | exact ih2 _ _ _ _ _ _ _
      | exact ih3 _ _ _ _ _ _ _ _ _ _ _
      | exact lexer_Solid.mono _ _
      | exact ontimelaw11_awake.mono _
      | exact LeO.none _
      | refine LeO.ite ?_ ?_
      | refine LeO.bind ?_ (fun _ => ?_)
    · intro y0 y1 y2 y3 y4 y5 y6
      unfold ontimelaw11_LexerSolid.l1
      repeat' first
      | (with_reducible exact ih0 _ _)
      | (with_reducible exact ih1 _ _ _ _ _)
      | (with_reducible exact ih2 _ _ _ _ _ _ _)
      | (with_reducible exact ih3 _ _ _ _ _ _ _ _ _ _ _)
      | (with_reducible exact lexer_Solid.mono _ _)
      | (with_reducible exact ontimelaw11_awake.mono _)
      | (with_reducible exact LeO.refl _)
      | (with_reducible exact LeO.none _)
      | (with_reducible refine LeO.ite ?_ ?_)
      | (with_reducible refine LeO.bind ?_ (fun _ => ?_))
      | exact ih0 _ _
      | exact ih1 _ _ _ _ _
      | exact ih2 _ _ _ _ _ _ _
      | exact ih3 _ _ _ _ _ _ _ _ _ _ _
      | exact lexer_Solid.mono _ _
      | exact ontimelaw11_awake.mono _
      | exact LeO.none _
      | refine LeO.ite ?_ ?_
      | refine LeO.bind ?_ (fun _ => ?_)
    · intro y0 y1 y2 y3 y4 y5 y6 y7 y8 y9 y10
      unfold ontimelaw11_LexerSolid.j3
      repeat' first
      | (with_reducible exact ih0 _ _)
      | (with_reducible exact ih1 _ _ _ _ _)
      | (with_reducible exact ih2 _ _ _ _ _ _ _)
      | (with_reducible exact ih3 _ _ _ _ _ _ _ _ _ _ _)
      | (with_reducible exact lexer_Solid.mono _ _)
      | (with_reducible exact ontimelaw11_awake.mono _)
      | (with_reducible exact LeO.refl _)
      | (with_reducible exact LeO.none _)
      | (with_reducible refine LeO.ite ?_ ?_)
      | (with_reducible refine LeO.bind ?_ (fun _ => ?_))
      | exact ih0 _ _
      | exact ih1 _ _ _ _ _
      | exact ih2 _ _ _ _ _ _ _
      | exact ih3 _ _ _ _ _ _ _ _ _ _ _
      | exact lexer_Solid.mono _ _
      | exact ontimelaw11_awake.mono _
      | exact LeO.none _
      | refine LeO.ite ?_ ?_
      | refine LeO.bind ?_ (fun _ => ?_)
theorem ontimelaw11_LexerSolid.mono : ∀ a0 k, LeO (ontimelaw11_LexerSolid.f k a0) (ontimelaw11_LexerSolid.f (k + 1) a0) := by
  intro a0 k
  obtain ⟨ih0, ih1, ih2, ih3⟩ := ontimelaw11_LexerSolid.mono_l k
  unfold ontimelaw11_LexerSolid.f
  repeat' first
      | (with_reducible exact ih0 _ _)
      | (with_reducible exact ih1 _ _ _ _ _)
      | (with_reducible exact ih2 _ _ _ _ _ _ _)
      | (with_reducible exact ih3 _ _ _ _ _ _ _ _ _ _ _)
      | (with_reducible exact lexer_Solid.mono _ _)
      | (with_reducible exact ontimelaw11_awake.mono _)
      | (with_reducible exact LeO.refl _)
      | (with_reducible exact LeO.none _)
      | (with_reducible refine LeO.ite ?_ ?_)
      | (with_reducible refine LeO.bind ?_ (fun _ => ?_))
      | exact ih0 _ _
      | exact ih1 _ _ _ _ _
      | exact ih2 _ _ _ _ _ _ _
      | exact ih3 _ _ _ _ _ _ _ _ _ _ _
      | exact lexer_Solid.mono _ _
      | exact ontimelaw11_awake.mono _
      | exact LeO.none _
      | refine LeO.ite ?_ ?_
      | refine LeO.bind ?_ (fun _ => ?_)
set_option maxHeartbeats 8000000 in
set_option maxRecDepth 100000 in
theorem ontimelaw11_LexerSolid.calls (k : Nat) (A0 : Option Addr) (c0 : Nat) (l0 : List (S33)) (r : Bool) (w : World) (hr0 : Kd.C k33 w A0 l0.length l0) (hc0 : l0.length ≤ c0) (hL : Laid w) (h : ontimelaw11_LexerSolid.f k l0 = some r) :
    Calls Tryd.prog 10 #[.slice A0 l0.length c0] w fun e w' => e = .returned (.bool r) ∧ Below w.heap.size w w' := by
  have hu33 := Tryd.underlying33
  have HR0 := Aside0.mk hr0
  have HC0 := Aside0.mk hc0
  clear hr0 hc0
  have HB := Aside0.mk (Below.refl w.heap.size w)
  have H : ((ontimelaw11_awake.f k).bind fun t314 => (if t314 = true then (ontimelaw11_LexerSolid.j0 k l0 (decide ((l0.length : Int) > 60))) else (ontimelaw11_LexerSolid.j0 k l0 true))) = some r := h
  clear h
  have HC2 := Aside0.mk H
  clear H
  go_enter Tryd.func10, Tryd.ntmps10
  go_upto_region 1 with (fail)
  repeat (go_quiet (fail); go_upto_region 1 with (fail))
  go_cut [16] (fun v16 wc => ∃ (kq : Nat) (x16_1 : Bool), v16 = .bool x16_1 ∧ Aside0 (ontimelaw11_LexerSolid.j0 kq l0 x16_1 = some r) ∧ Aside0 (kq ≤ k) ∧ Aside0 (Below w.heap.size w wc))
  case first =>
    have H := HC2.out
    clear HC2
    replace H := Option.bind_eq_some_iff.mp H
    obtain ⟨t314, A30, H⟩ := H
    replace H : (if t314 = true then (ontimelaw11_LexerSolid.j0 k l0 (decide ((l0.length : Int) > 60))) else (ontimelaw11_LexerSolid.j0 k l0 true)) = some r := H
    have A3 := Aside0.mk A30
    clear A30
    by_cases c4 : t314 = true
    · subst c4
      have H1 : (ontimelaw11_LexerSolid.j0 k l0 (decide ((l0.length : Int) > 60))) = some r := by rw [if_pos rfl] at H; exact H
      clear H
      have H := H1
      clear H1
      have H' := Aside0.mk H
      clear H
      go_wp2_with (first | (go_at_call 12; (with_reducible refine (ontimelaw11_awake.calls k  true _ ?side1 A3.out).mono ?_); (case side1 => exact Laid.below hL (by repeat (first | (with_reducible first | exact HB.out | apply below_alloc | apply pw_below_drewN | apply below_drew1) | exact HB.out))); rintro e w5 ⟨rfl, hb⟩; have n0_ := Aside0.mk (below_step (by repeat (first | (with_reducible first | exact HB.out | apply below_alloc | apply pw_below_drewN | apply below_drew1) | exact HB.out)) hb); clear HB; have HB := n0_; clear n0_; (try clear hb); (try clear hb2); (try clear hk); (try clear hi)))
      repeat (go_quiet (first | (go_at_call 12; (with_reducible refine (ontimelaw11_awake.calls k  true _ ?side1 A3.out).mono ?_); (case side1 => exact Laid.below hL (by repeat (first | (with_reducible first | exact HB.out | apply below_alloc | apply pw_below_drewN | apply below_drew1) | exact HB.out))); rintro e w5 ⟨rfl, hb⟩; have n0_ := Aside0.mk (below_step (by repeat (first | (with_reducible first | exact HB.out | apply below_alloc | apply pw_below_drewN | apply below_drew1) | exact HB.out)) hb); clear HB; have HB := n0_; clear n0_; (try clear hb); (try clear hb2); (try clear hk); (try clear hi))); try go_wp2_with (first | (go_at_call 12; (with_reducible refine (ontimelaw11_awake.calls k  true _ ?side1 A3.out).mono ?_); (case side1 => exact Laid.below hL (by repeat (first | (with_reducible first | exact HB.out | apply below_alloc | apply pw_below_drewN | apply below_drew1) | exact HB.out))); rintro e w5 ⟨rfl, hb⟩; have n0_ := Aside0.mk (below_step (by repeat (first | (with_reducible first | exact HB.out | apply below_alloc | apply pw_below_drewN | apply below_drew1) | exact HB.out)) hb); clear HB; have HB := n0_; clear n0_; (try clear hb); (try clear hb2); (try clear hk); (try clear hi))))
      go_meet
      case rel => exact ⟨_, (decide ((l0.length : Int) > 60)), (by first | rfl | (simp; done) | (simp [*]; done)), H', ⟨by first | omega | exact Nat.le_refl _⟩, ⟨by repeat (first | (with_reducible first | exact HB.out | apply below_alloc | apply pw_below_drewN | apply below_drew1) | exact HB.out)⟩⟩
    · replace c4 := Bool.eq_false_iff.mpr c4
      subst c4
      have H1 : (ontimelaw11_LexerSolid.j0 k l0 true) = some r := by rw [if_neg (show ¬ (false = true) by decide)] at H; exact H
      clear H
      have H := H1
      clear H1
      have H' := Aside0.mk H
      clear H
      go_wp2_with (first | (go_at_call 12; (with_reducible refine (ontimelaw11_awake.calls k  false _ ?side1 A3.out).mono ?_); (case side1 => exact Laid.below hL (by repeat (first | (with_reducible first | exact HB.out | apply below_alloc | apply pw_below_drewN | apply below_drew1) | exact HB.out))); rintro e w6 ⟨rfl, hb⟩; have n0_ := Aside0.mk (below_step (by repeat (first | (with_reducible first | exact HB.out | apply below_alloc | apply pw_below_drewN | apply below_drew1) | exact HB.out)) hb); clear HB; have HB := n0_; clear n0_; (try clear hb); (try clear hb2); (try clear hk); (try clear hi)))
      repeat (go_quiet (first | (go_at_call 12; (with_reducible refine (ontimelaw11_awake.calls k  false _ ?side1 A3.out).mono ?_); (case side1 => exact Laid.below hL (by repeat (first | (with_reducible first | exact HB.out | apply below_alloc | apply pw_below_drewN | apply below_drew1) | exact HB.out))); rintro e w6 ⟨rfl, hb⟩; have n0_ := Aside0.mk (below_step (by repeat (first | (with_reducible first | exact HB.out | apply below_alloc | apply pw_below_drewN | apply below_drew1) | exact HB.out)) hb); clear HB; have HB := n0_; clear n0_; (try clear hb); (try clear hb2); (try clear hk); (try clear hi))); try go_wp2_with (first | (go_at_call 12; (with_reducible refine (ontimelaw11_awake.calls k  false _ ?side1 A3.out).mono ?_); (case side1 => exact Laid.below hL (by repeat (first | (with_reducible first | exact HB.out | apply below_alloc | apply pw_below_drewN | apply below_drew1) | exact HB.out))); rintro e w6 ⟨rfl, hb⟩; have n0_ := Aside0.mk (below_step (by repeat (first | (with_reducible first | exact HB.out | apply below_alloc | apply pw_below_drewN | apply below_drew1) | exact HB.out)) hb); clear HB; have HB := n0_; clear n0_; (try clear hb); (try clear hb2); (try clear hk); (try clear hi))))
      go_meet
      case rel => exact ⟨_, (true), (by first | rfl | (simp; done) | (simp [*]; done)), H', ⟨by first | omega | exact Nat.le_refl _⟩, ⟨by repeat (first | (with_reducible first | exact HB.out | apply below_alloc | apply pw_below_drewN | apply below_drew1) | exact HB.out)⟩⟩
  case rest =>
    clear HC2
    try clear c1
    try clear p2
    try clear c4
    obtain ⟨kq, x16_1, rfl, HA, HJ1, HB⟩ := hcut
    cases kq with
    | zero => exact absurd HA.out (by simp [ontimelaw11_LexerSolid.j0])
    | succ kj1 =>
      have H := HA.out
      clear HA
      simp only [ontimelaw11_LexerSolid.j0] at H
      by_cases c7 : x16_1 = true
      · subst c7
        have H1 : ((ontimelaw11_awake.f kj1).bind fun t315 => (some t315)) = some r := by rw [if_pos rfl] at H; exact H
        clear H
        have H := H1
        clear H1
        replace H := Option.bind_eq_some_iff.mp H
        obtain ⟨t315, A80, H⟩ := H
        replace H : (some t315) = some r := H
        have A8 := Aside0.mk A80
        clear A80
        obtain rfl := Option.some.inj H
        go_wp2_with (first | (go_at_call 12; (with_reducible refine (ontimelaw11_awake.calls kj1  t315 _ ?side1 A8.out).mono ?_); (case side1 => exact Laid.below hL (by repeat (first | (with_reducible first | exact HB.out | apply below_alloc | apply pw_below_drewN | apply below_drew1) | exact HB.out))); rintro e w9 ⟨rfl, hb⟩; have n0_ := Aside0.mk (below_step (by repeat (first | (with_reducible first | exact HB.out | apply below_alloc | apply pw_below_drewN | apply below_drew1) | exact HB.out)) hb); clear HB; have HB := n0_; clear n0_; (try clear hb); (try clear hb2); (try clear hk); (try clear hi)))
        repeat (go_quiet (first | (go_at_call 12; (with_reducible refine (ontimelaw11_awake.calls kj1  t315 _ ?side1 A8.out).mono ?_); (case side1 => exact Laid.below hL (by repeat (first | (with_reducible first | exact HB.out | apply below_alloc | apply pw_below_drewN | apply below_drew1) | exact HB.out))); rintro e w9 ⟨rfl, hb⟩; have n0_ := Aside0.mk (below_step (by repeat (first | (with_reducible first | exact HB.out | apply below_alloc | apply pw_below_drewN | apply below_drew1) | exact HB.out)) hb); clear HB; have HB := n0_; clear n0_; (try clear hb); (try clear hb2); (try clear hk); (try clear hi))); try go_wp2_with (first | (go_at_call 12; (with_reducible refine (ontimelaw11_awake.calls kj1  t315 _ ?side1 A8.out).mono ?_); (case side1 => exact Laid.below hL (by repeat (first | (with_reducible first | exact HB.out | apply below_alloc | apply pw_below_drewN | apply below_drew1) | exact HB.out))); rintro e w9 ⟨rfl, hb⟩; have n0_ := Aside0.mk (below_step (by repeat (first | (with_reducible first | exact HB.out | apply below_alloc | apply pw_below_drewN | apply below_drew1) | exact HB.out)) hb); clear HB; have HB := n0_; clear n0_; (try clear hb); (try clear hb2); (try clear hk); (try clear hi))))
        go_ret
        exact ⟨by first | rfl | (simp [errW_none, errW_some] <;> rfl) | (simp [*, errW_none, errW_some] <;> rfl), by repeat (first | (with_reducible first | exact HB.out | apply below_alloc | apply pw_below_drewN | apply below_drew1) | exact HB.out)⟩
      · replace c7 := Bool.eq_false_iff.mpr c7
        subst c7
        have H1 : (ontimelaw11_LexerSolid.l0 kj1 l0 (⟨#[]⟩ : ByteArray) l0 (l0.length : Int) 0) = some r := by rw [if_neg (show ¬ (false = true) by decide)] at H; exact H
        clear H
        have H := H1
        clear H1
        have H' := Aside0.mk H
        clear H
        go_wp2
        repeat (go_quiet (fail); try go_wp2)
        go_loopg [3, 20] kj1 (fun kq v3 v20 w' => ∃ (x3_2 : ByteArray) (x20_2 : Int), v3 = .string x3_2 ∧ v20 = .int .i64 x20_2 ∧ Aside0 (ontimelaw11_LexerSolid.l0 kq l0 x3_2 l0 (l0.length : Int) x20_2 = some r) ∧ Aside0 (kq ≤ kj1) ∧ Aside0 (Below w.heap.size w w'))
        case atStart => exact ⟨((⟨#[]⟩ : ByteArray)), (0), (by first | rfl | (simp; done) | (simp [*]; done)), (by first | rfl | (simp; done) | (simp [*]; done)), H', ⟨Nat.le_refl _⟩, ⟨by repeat (first | (with_reducible first | exact HB.out | apply below_alloc | apply pw_below_drewN | apply below_drew1) | exact HB.out)⟩⟩
        case round =>
          clear H'
          try clear c1
          try clear p2
          try clear c4
          try clear c7
          try clear p2
          obtain ⟨x3_2, x20_2, rfl, rfl, HA, HK2, HB⟩ := hrel
          cases gk with
          | zero => exact absurd HA.out (by simp [ontimelaw11_LexerSolid.l0])
          | succ k2 =>
            have H := HA.out
            clear HA
            simp only [ontimelaw11_LexerSolid.l0] at H
            by_cases c10 : x20_2 < (l0.length : Int)
            · rw [if_pos c10] at H
              have c10b0 : decide (x20_2 < (l0.length : Int)) = true := decide_eq_true c10
              clear c10
              by_cases c11 : 0 ≤ x20_2
              · rw [if_pos c11] at H
                have c11b0 : decide (0 ≤ x20_2) = true := decide_eq_true c11
                clear c11
                by_cases c12 : x20_2 < (l0.length : Int)
                · rw [if_pos c12] at H
                  have c12b0 : decide (x20_2 < (l0.length : Int)) = true := decide_eq_true c12
                  clear c12
                  by_cases c13 : (((rd_T33 l0 x20_2).f1).size : Int) > 60
                  · rw [if_pos c13] at H
                    have c13b0 : decide (60 < (((rd_T33 l0 x20_2).f1).size : Int)) = true := decide_eq_true c13
                    have c13b1 : decide (60 < ((rd_T33 l0 x20_2).f1).size) = true := decide_eq_true (by omega)
                    clear c13
                    obtain rfl := Option.some.inj H
                    have p316 : 0 ≤ (x20_2 : Int) := of_decide_eq_true (by first | (with_reducible assumption) | assumption)
                    have q316 : x20_2 < (l0.length : Int) := of_decide_eq_true (by first | (with_reducible assumption) | assumption)
                    obtain ⟨ad316, e316, hx316_0, hx316_1, hx316_2⟩ := at_T33 HR0.out x20_2 p316 q316
                    cases e316
                    replace hx316_0 := (HB.out.cell (World.block_lt_of_cell? w _ hx316_0)).trans hx316_0
                    replace hx316_1 := (HB.out.cell (World.block_lt_of_cell? w _ hx316_1)).trans hx316_1
                    replace hx316_2 := (HB.out.cell (World.block_lt_of_cell? w _ hx316_2)).trans hx316_2
                    replace p316 := eq_true p316
                    replace q316 := eq_true q316
                    go_wp2_with (first | ((with_reducible refine gate_dst (N := 5) rfl ?_); (try (refine gate_guard (by rfl) ?_; dsimp only)); refine box_event ?hg (N := 5) ?hd (cs := #[.int .u8 0, .string (⟨#[]⟩ : ByteArray), .int .i64 0]) (t := 33) ?hr ?_; (case hd => rfl); (case hg => rfl); (case hr => first | (go_simp; done) | (go_simp; rfl)); intro gb317 hg w14 hbox hb; have n0_ := Aside0.mk (below_step (by repeat (first | (with_reducible first | exact HB.out | apply below_alloc | apply pw_below_drewN | apply below_drew1) | exact HB.out)) hb); have n1_ := Aside0.mk (hbox); have n2_ := Aside0.mk ((by rw [hg]; exact (below_size (by repeat (first | (with_reducible first | exact HB.out | apply below_alloc | apply pw_below_drewN | apply below_drew1) | exact HB.out))) : w.heap.size ≤ gb317)); have n3_ := Aside0.mk ((by rw [hg]; exact (below_size (by repeat (first | (with_reducible first | exact HB.out | apply below_alloc | apply pw_below_drewN | apply below_drew1) | exact HB.out))) : w.heap.size ≤ gb317)); clear HB; have HB := n0_; have BK317 := n1_; have GW317 := n2_; have GE317 := n3_; clear n0_ n1_ n2_ n3_; clear hb hbox hg; have hcz15_0 : w14.cell? ⟨gb317, 0, none⟩ = some (.int .u8 0) := (blk_cell BK317.out 0).trans rfl; have hcz15_1 : w14.cell? ⟨gb317, 1, none⟩ = some (.string (⟨#[]⟩ : ByteArray)) := (blk_cell BK317.out 1).trans rfl; have hcz15_2 : w14.cell? ⟨gb317, 2, none⟩ = some (.int .i64 0) := (blk_cell BK317.out 2).trans rfl; have hfz15_0 := blk_frozen BK317.out 0; have hfz15_1 := blk_frozen BK317.out 1; have hfz15_2 := blk_frozen BK317.out 2))
                    repeat (go_quiet (first | ((with_reducible refine gate_dst (N := 5) rfl ?_); (try (refine gate_guard (by rfl) ?_; dsimp only)); refine box_event ?hg (N := 5) ?hd (cs := #[.int .u8 0, .string (⟨#[]⟩ : ByteArray), .int .i64 0]) (t := 33) ?hr ?_; (case hd => rfl); (case hg => rfl); (case hr => first | (go_simp; done) | (go_simp; rfl)); intro gb317 hg w14 hbox hb; have n0_ := Aside0.mk (below_step (by repeat (first | (with_reducible first | exact HB.out | apply below_alloc | apply pw_below_drewN | apply below_drew1) | exact HB.out)) hb); have n1_ := Aside0.mk (hbox); have n2_ := Aside0.mk ((by rw [hg]; exact (below_size (by repeat (first | (with_reducible first | exact HB.out | apply below_alloc | apply pw_below_drewN | apply below_drew1) | exact HB.out))) : w.heap.size ≤ gb317)); have n3_ := Aside0.mk ((by rw [hg]; exact (below_size (by repeat (first | (with_reducible first | exact HB.out | apply below_alloc | apply pw_below_drewN | apply below_drew1) | exact HB.out))) : w.heap.size ≤ gb317)); clear HB; have HB := n0_; have BK317 := n1_; have GW317 := n2_; have GE317 := n3_; clear n0_ n1_ n2_ n3_; clear hb hbox hg; have hcz15_0 : w14.cell? ⟨gb317, 0, none⟩ = some (.int .u8 0) := (blk_cell BK317.out 0).trans rfl; have hcz15_1 : w14.cell? ⟨gb317, 1, none⟩ = some (.string (⟨#[]⟩ : ByteArray)) := (blk_cell BK317.out 1).trans rfl; have hcz15_2 : w14.cell? ⟨gb317, 2, none⟩ = some (.int .i64 0) := (blk_cell BK317.out 2).trans rfl; have hfz15_0 := blk_frozen BK317.out 0; have hfz15_1 := blk_frozen BK317.out 1; have hfz15_2 := blk_frozen BK317.out 2)); try go_wp2_with (first | ((with_reducible refine gate_dst (N := 5) rfl ?_); (try (refine gate_guard (by rfl) ?_; dsimp only)); refine box_event ?hg (N := 5) ?hd (cs := #[.int .u8 0, .string (⟨#[]⟩ : ByteArray), .int .i64 0]) (t := 33) ?hr ?_; (case hd => rfl); (case hg => rfl); (case hr => first | (go_simp; done) | (go_simp; rfl)); intro gb317 hg w14 hbox hb; have n0_ := Aside0.mk (below_step (by repeat (first | (with_reducible first | exact HB.out | apply below_alloc | apply pw_below_drewN | apply below_drew1) | exact HB.out)) hb); have n1_ := Aside0.mk (hbox); have n2_ := Aside0.mk ((by rw [hg]; exact (below_size (by repeat (first | (with_reducible first | exact HB.out | apply below_alloc | apply pw_below_drewN | apply below_drew1) | exact HB.out))) : w.heap.size ≤ gb317)); have n3_ := Aside0.mk ((by rw [hg]; exact (below_size (by repeat (first | (with_reducible first | exact HB.out | apply below_alloc | apply pw_below_drewN | apply below_drew1) | exact HB.out))) : w.heap.size ≤ gb317)); clear HB; have HB := n0_; have BK317 := n1_; have GW317 := n2_; have GE317 := n3_; clear n0_ n1_ n2_ n3_; clear hb hbox hg; have hcz15_0 : w14.cell? ⟨gb317, 0, none⟩ = some (.int .u8 0) := (blk_cell BK317.out 0).trans rfl; have hcz15_1 : w14.cell? ⟨gb317, 1, none⟩ = some (.string (⟨#[]⟩ : ByteArray)) := (blk_cell BK317.out 1).trans rfl; have hcz15_2 : w14.cell? ⟨gb317, 2, none⟩ = some (.int .i64 0) := (blk_cell BK317.out 2).trans rfl; have hfz15_0 := blk_frozen BK317.out 0; have hfz15_1 := blk_frozen BK317.out 1; have hfz15_2 := blk_frozen BK317.out 2)))
                    go_ret
                    exact ⟨by first | rfl | (simp [errW_none, errW_some] <;> rfl) | (simp [*, errW_none, errW_some] <;> rfl), by repeat (first | (with_reducible first | exact HB.out | apply below_alloc | apply pw_below_drewN | apply below_drew1 | refine below_set ?_ GE317.out) | exact HB.out)⟩
                  · rw [if_neg c13] at H
                    have c13b0 : decide (60 < (((rd_T33 l0 x20_2).f1).size : Int)) = false := decide_eq_false c13
                    have c13b1 : decide (60 < ((rd_T33 l0 x20_2).f1).size) = false := decide_eq_false (by omega)
                    clear c13
                    by_cases c16 : x3_2.size + ((rd_T33 l0 x20_2).f1).size ≤ 9223372036854775807
                    · rw [if_pos c16] at H
                      have c16b0 := eq_true c16
                      have c16b1 : decide (x3_2.size + ((rd_T33 l0 x20_2).f1).size ≤ 9223372036854775807) = true := decide_eq_true c16
                      try have c16b2 : (9223372036854775807 < x3_2.size + ((rd_T33 l0 x20_2).f1).size) = False := eq_false (Nat.not_lt.2 c16)
                      have H' := Aside0.mk H
                      clear H
                      have p316 : 0 ≤ (x20_2 : Int) := of_decide_eq_true (by first | (with_reducible assumption) | assumption)
                      have q316 : x20_2 < (l0.length : Int) := of_decide_eq_true (by first | (with_reducible assumption) | assumption)
                      obtain ⟨ad316, e316, hx316_0, hx316_1, hx316_2⟩ := at_T33 HR0.out x20_2 p316 q316
                      cases e316
                      replace hx316_0 := (HB.out.cell (World.block_lt_of_cell? w _ hx316_0)).trans hx316_0
                      replace hx316_1 := (HB.out.cell (World.block_lt_of_cell? w _ hx316_1)).trans hx316_1
                      replace hx316_2 := (HB.out.cell (World.block_lt_of_cell? w _ hx316_2)).trans hx316_2
                      replace p316 := eq_true p316
                      replace q316 := eq_true q316
                      go_wp2_with (first | ((with_reducible refine gate_dst (N := 5) rfl ?_); (try (refine gate_guard (by rfl) ?_; dsimp only)); refine box_event ?hg (N := 5) ?hd (cs := #[.int .u8 0, .string (⟨#[]⟩ : ByteArray), .int .i64 0]) (t := 33) ?hr ?_; (case hd => rfl); (case hg => rfl); (case hr => first | (go_simp; done) | (go_simp; rfl)); intro gb317 hg w17 hbox hb; have n0_ := Aside0.mk (below_step (by repeat (first | (with_reducible first | exact HB.out | apply below_alloc | apply pw_below_drewN | apply below_drew1) | exact HB.out)) hb); have n1_ := Aside0.mk (hbox); have n2_ := Aside0.mk ((by rw [hg]; exact (below_size (by repeat (first | (with_reducible first | exact HB.out | apply below_alloc | apply pw_below_drewN | apply below_drew1) | exact HB.out))) : w.heap.size ≤ gb317)); have n3_ := Aside0.mk ((by rw [hg]; exact (below_size (by repeat (first | (with_reducible first | exact HB.out | apply below_alloc | apply pw_below_drewN | apply below_drew1) | exact HB.out))) : w.heap.size ≤ gb317)); clear HB; have HB := n0_; have BK317 := n1_; have GW317 := n2_; have GE317 := n3_; clear n0_ n1_ n2_ n3_; clear hb hbox hg; have hcz18_0 : w17.cell? ⟨gb317, 0, none⟩ = some (.int .u8 0) := (blk_cell BK317.out 0).trans rfl; have hcz18_1 : w17.cell? ⟨gb317, 1, none⟩ = some (.string (⟨#[]⟩ : ByteArray)) := (blk_cell BK317.out 1).trans rfl; have hcz18_2 : w17.cell? ⟨gb317, 2, none⟩ = some (.int .i64 0) := (blk_cell BK317.out 2).trans rfl; have hfz18_0 := blk_frozen BK317.out 0; have hfz18_1 := blk_frozen BK317.out 1; have hfz18_2 := blk_frozen BK317.out 2))
                      repeat (go_quiet (first | ((with_reducible refine gate_dst (N := 5) rfl ?_); (try (refine gate_guard (by rfl) ?_; dsimp only)); refine box_event ?hg (N := 5) ?hd (cs := #[.int .u8 0, .string (⟨#[]⟩ : ByteArray), .int .i64 0]) (t := 33) ?hr ?_; (case hd => rfl); (case hg => rfl); (case hr => first | (go_simp; done) | (go_simp; rfl)); intro gb317 hg w17 hbox hb; have n0_ := Aside0.mk (below_step (by repeat (first | (with_reducible first | exact HB.out | apply below_alloc | apply pw_below_drewN | apply below_drew1) | exact HB.out)) hb); have n1_ := Aside0.mk (hbox); have n2_ := Aside0.mk ((by rw [hg]; exact (below_size (by repeat (first | (with_reducible first | exact HB.out | apply below_alloc | apply pw_below_drewN | apply below_drew1) | exact HB.out))) : w.heap.size ≤ gb317)); have n3_ := Aside0.mk ((by rw [hg]; exact (below_size (by repeat (first | (with_reducible first | exact HB.out | apply below_alloc | apply pw_below_drewN | apply below_drew1) | exact HB.out))) : w.heap.size ≤ gb317)); clear HB; have HB := n0_; have BK317 := n1_; have GW317 := n2_; have GE317 := n3_; clear n0_ n1_ n2_ n3_; clear hb hbox hg; have hcz18_0 : w17.cell? ⟨gb317, 0, none⟩ = some (.int .u8 0) := (blk_cell BK317.out 0).trans rfl; have hcz18_1 : w17.cell? ⟨gb317, 1, none⟩ = some (.string (⟨#[]⟩ : ByteArray)) := (blk_cell BK317.out 1).trans rfl; have hcz18_2 : w17.cell? ⟨gb317, 2, none⟩ = some (.int .i64 0) := (blk_cell BK317.out 2).trans rfl; have hfz18_0 := blk_frozen BK317.out 0; have hfz18_1 := blk_frozen BK317.out 1; have hfz18_2 := blk_frozen BK317.out 2)); try go_wp2_with (first | ((with_reducible refine gate_dst (N := 5) rfl ?_); (try (refine gate_guard (by rfl) ?_; dsimp only)); refine box_event ?hg (N := 5) ?hd (cs := #[.int .u8 0, .string (⟨#[]⟩ : ByteArray), .int .i64 0]) (t := 33) ?hr ?_; (case hd => rfl); (case hg => rfl); (case hr => first | (go_simp; done) | (go_simp; rfl)); intro gb317 hg w17 hbox hb; have n0_ := Aside0.mk (below_step (by repeat (first | (with_reducible first | exact HB.out | apply below_alloc | apply pw_below_drewN | apply below_drew1) | exact HB.out)) hb); have n1_ := Aside0.mk (hbox); have n2_ := Aside0.mk ((by rw [hg]; exact (below_size (by repeat (first | (with_reducible first | exact HB.out | apply below_alloc | apply pw_below_drewN | apply below_drew1) | exact HB.out))) : w.heap.size ≤ gb317)); have n3_ := Aside0.mk ((by rw [hg]; exact (below_size (by repeat (first | (with_reducible first | exact HB.out | apply below_alloc | apply pw_below_drewN | apply below_drew1) | exact HB.out))) : w.heap.size ≤ gb317)); clear HB; have HB := n0_; have BK317 := n1_; have GW317 := n2_; have GE317 := n3_; clear n0_ n1_ n2_ n3_; clear hb hbox hg; have hcz18_0 : w17.cell? ⟨gb317, 0, none⟩ = some (.int .u8 0) := (blk_cell BK317.out 0).trans rfl; have hcz18_1 : w17.cell? ⟨gb317, 1, none⟩ = some (.string (⟨#[]⟩ : ByteArray)) := (blk_cell BK317.out 1).trans rfl; have hcz18_2 : w17.cell? ⟨gb317, 2, none⟩ = some (.int .i64 0) := (blk_cell BK317.out 2).trans rfl; have hfz18_0 := blk_frozen BK317.out 0; have hfz18_1 := blk_frozen BK317.out 1; have hfz18_2 := blk_frozen BK317.out 2)))
                      go_roundg k2
                      case measure => have := HJ1.out; have := HK2.out; omega
                      case rel => exact ⟨(x3_2 ++ ((rd_T33 l0 x20_2).f1)), (wrap64 (x20_2 + 1)), (by first | rfl | (simp; done) | (simp [*]; done)), (by first | rfl | (simp; done) | (simp [*]; done)), H', ⟨by have := HJ1.out; have := HK2.out; omega⟩, ⟨by repeat (first | (with_reducible first | exact HB.out | apply below_alloc | apply pw_below_drewN | apply below_drew1 | refine below_set ?_ GE317.out) | exact HB.out)⟩⟩
                    · rw [if_neg c16] at H
                      exact absurd H (by simp)
                · rw [if_neg c12] at H
                  exact absurd H (by simp)
              · rw [if_neg c11] at H
                exact absurd H (by simp)
            · rw [if_neg c10] at H
              have c10b0 : decide (x20_2 < (l0.length : Int)) = false := decide_eq_false c10
              clear c10
              replace H := Option.bind_eq_some_iff.mp H
              obtain ⟨t318, A190, H⟩ := H
              replace H : (if t318.toList = x3_2.toList then ((lexer_Solid.f k2 l0).bind fun t319 => (ontimelaw11_LexerSolid.l1 k2 l0 x3_2 t319 0 l0 (l0.length : Int) 0)) else (some false)) = some r := H
              have A19 := Aside0.mk A190
              clear A190
              by_cases c20 : t318.toList = x3_2.toList
              · rw [if_pos c20] at H
                have c20b0 : (t318.toList == x3_2.toList) = true := beq_iff_eq.mpr c20
                have c20b1 : (t318.toList != x3_2.toList) = false := bne_eq_false_iff_eq.mpr c20
                clear c20
                replace H := Option.bind_eq_some_iff.mp H
                obtain ⟨t319, A210, H⟩ := H
                replace H : (ontimelaw11_LexerSolid.l1 k2 l0 x3_2 t319 0 l0 (l0.length : Int) 0) = some r := H
                have A21 := Aside0.mk A210
                clear A210
                have H' := Aside0.mk H
                clear H
                go_wp2_with (first | (go_at_call 22; (with_reducible refine (lexer_Join.calls _ _ l0 t318 _ ?side1 ?side2 A19.out).mono ?_); (case side1 => repeat (first | exact (Kd.C_below HR0.out HB.out) | (with_reducible refine Kd.C_alloc ?_ _) | (with_reducible refine Kd.C_drewN ?_ _) | (with_reducible refine Kd.C_drew ?_))); (case side2 => exact HC0.out); rintro e w22 ⟨rfl, hb⟩; have n0_ := Aside0.mk (below_step (by repeat (first | (with_reducible first | exact HB.out | apply below_alloc | apply pw_below_drewN | apply below_drew1) | exact HB.out)) hb); clear HB; have HB := n0_; clear n0_; (try clear hb); (try clear hb2); (try clear hk); (try clear hi)) | (go_at_call 16; (with_reducible refine (lexer_Solid.calls k2 _ _ l0 t319 _ ?side1 ?side2 A21.out).mono ?_); (case side1 => repeat (first | exact (Kd.C_below HR0.out HB.out) | (with_reducible refine Kd.C_alloc ?_ _) | (with_reducible refine Kd.C_drewN ?_ _) | (with_reducible refine Kd.C_drew ?_))); (case side2 => exact HC0.out); rintro e w23 ⟨v320, rfl, ho0, hb⟩; have n0_ := Aside0.mk (Kd.R_lower ho0 (below_size (by repeat (first | (with_reducible first | exact HB.out | apply below_alloc | apply pw_below_drewN | apply below_drew1) | exact HB.out)))); have n1_ := Aside0.mk (below_step (by repeat (first | (with_reducible first | exact HB.out | apply below_alloc | apply pw_below_drewN | apply below_drew1) | exact HB.out)) hb); clear HB; have HO321 := n0_; have HB := n1_; clear n0_ n1_; (try clear hb); (try clear hb2); (try clear hk); (try clear hi); (try clear ho0)))
                repeat (go_quiet (first | (go_at_call 22; (with_reducible refine (lexer_Join.calls _ _ l0 t318 _ ?side1 ?side2 A19.out).mono ?_); (case side1 => repeat (first | exact (Kd.C_below HR0.out HB.out) | (with_reducible refine Kd.C_alloc ?_ _) | (with_reducible refine Kd.C_drewN ?_ _) | (with_reducible refine Kd.C_drew ?_))); (case side2 => exact HC0.out); rintro e w22 ⟨rfl, hb⟩; have n0_ := Aside0.mk (below_step (by repeat (first | (with_reducible first | exact HB.out | apply below_alloc | apply pw_below_drewN | apply below_drew1) | exact HB.out)) hb); clear HB; have HB := n0_; clear n0_; (try clear hb); (try clear hb2); (try clear hk); (try clear hi)) | (go_at_call 16; (with_reducible refine (lexer_Solid.calls k2 _ _ l0 t319 _ ?side1 ?side2 A21.out).mono ?_); (case side1 => repeat (first | exact (Kd.C_below HR0.out HB.out) | (with_reducible refine Kd.C_alloc ?_ _) | (with_reducible refine Kd.C_drewN ?_ _) | (with_reducible refine Kd.C_drew ?_))); (case side2 => exact HC0.out); rintro e w23 ⟨v320, rfl, ho0, hb⟩; have n0_ := Aside0.mk (Kd.R_lower ho0 (below_size (by repeat (first | (with_reducible first | exact HB.out | apply below_alloc | apply pw_below_drewN | apply below_drew1) | exact HB.out)))); have n1_ := Aside0.mk (below_step (by repeat (first | (with_reducible first | exact HB.out | apply below_alloc | apply pw_below_drewN | apply below_drew1) | exact HB.out)) hb); clear HB; have HO321 := n0_; have HB := n1_; clear n0_ n1_; (try clear hb); (try clear hb2); (try clear hk); (try clear hi); (try clear ho0))); try go_wp2_with (first | (go_at_call 22; (with_reducible refine (lexer_Join.calls _ _ l0 t318 _ ?side1 ?side2 A19.out).mono ?_); (case side1 => repeat (first | exact (Kd.C_below HR0.out HB.out) | (with_reducible refine Kd.C_alloc ?_ _) | (with_reducible refine Kd.C_drewN ?_ _) | (with_reducible refine Kd.C_drew ?_))); (case side2 => exact HC0.out); rintro e w22 ⟨rfl, hb⟩; have n0_ := Aside0.mk (below_step (by repeat (first | (with_reducible first | exact HB.out | apply below_alloc | apply pw_below_drewN | apply below_drew1) | exact HB.out)) hb); clear HB; have HB := n0_; clear n0_; (try clear hb); (try clear hb2); (try clear hk); (try clear hi)) | (go_at_call 16; (with_reducible refine (lexer_Solid.calls k2 _ _ l0 t319 _ ?side1 ?side2 A21.out).mono ?_); (case side1 => repeat (first | exact (Kd.C_below HR0.out HB.out) | (with_reducible refine Kd.C_alloc ?_ _) | (with_reducible refine Kd.C_drewN ?_ _) | (with_reducible refine Kd.C_drew ?_))); (case side2 => exact HC0.out); rintro e w23 ⟨v320, rfl, ho0, hb⟩; have n0_ := Aside0.mk (Kd.R_lower ho0 (below_size (by repeat (first | (with_reducible first | exact HB.out | apply below_alloc | apply pw_below_drewN | apply below_drew1) | exact HB.out)))); have n1_ := Aside0.mk (below_step (by repeat (first | (with_reducible first | exact HB.out | apply below_alloc | apply pw_below_drewN | apply below_drew1) | exact HB.out)) hb); clear HB; have HO321 := n0_; have HB := n1_; clear n0_ n1_; (try clear hb); (try clear hb2); (try clear hk); (try clear hi); (try clear ho0))))
                go_loopg [7, 41] k2 (fun kq v7 v41 w' => ∃ (x6_3 : List (S33)) (x7_3 : Int) (x41_3 : Int), v7 = .int .i64 x7_3 ∧ v41 = .int .i64 x41_3 ∧ Aside0 (ontimelaw11_LexerSolid.l1 kq l0 x3_2 x6_3 x7_3 l0 (l0.length : Int) x41_3 = some r) ∧ Aside0 (kq ≤ k2) ∧ Aside0 (Kd.R k33 33 w' w.heap.size (fun _ => True) v320 x6_3) ∧ Aside0 (Below w.heap.size w w'))
                case atStart => exact ⟨(t319), (0), (0), (by first | rfl | (simp; done) | (simp [*]; done)), (by first | rfl | (simp; done) | (simp [*]; done)), H', ⟨Nat.le_refl _⟩, ⟨by (with_reducible repeat (first | apply Kd.R_alloc | apply Kd.R_drewN | apply Kd.R_drew)); exact HO321.out⟩, ⟨by repeat (first | (with_reducible first | exact HB.out | apply below_alloc | apply pw_below_drewN | apply below_drew1) | exact HB.out)⟩⟩
                case round =>
                  clear H'
                  try clear c1
                  try clear c2
                  try clear p2
                  try clear p3
                  try clear q3
                  try clear hx3
                  try clear c4
                  try clear p6
                  try clear c7
                  try clear c10
                  try clear c10b0
                  try clear c11
                  try clear c11b0
                  try clear c12
                  try clear c12b0
                  try clear c13
                  try clear c13b0
                  try clear c13b1
                  try clear c16
                  try clear c16b0
                  try clear c16b1
                  try clear c16b2
                  try clear c20
                  try clear c20b0
                  try clear c20b1
                  try clear hcz15_0
                  try clear hcz15_1
                  try clear hcz15_2
                  try clear hcz18_0
                  try clear hcz18_1
                  try clear hcz18_2
                  try clear hfz15_0
                  try clear hfz15_1
                  try clear hfz15_2
                  try clear hfz18_0
                  try clear hfz18_1
                  try clear hfz18_2
                  try clear hx316_0
                  try clear hx316_1
                  try clear hx316_2
                  try clear p2
                  try clear p316
                  try clear q316
                  obtain ⟨x6_3, x7_3, x41_3, rfl, rfl, HA, HK3, HO_6, HB⟩ := hrel
                  cases gk with
                  | zero => exact absurd HA.out (by simp [ontimelaw11_LexerSolid.l1])
                  | succ k3 =>
                    have H := HA.out
                    clear HA
                    simp only [ontimelaw11_LexerSolid.l1] at H
                    by_cases c24 : x41_3 < (l0.length : Int)
                    · rw [if_pos c24] at H
                      have c24b0 : decide (x41_3 < (l0.length : Int)) = true := decide_eq_true c24
                      clear c24
                      by_cases c25 : 0 ≤ x41_3
                      · rw [if_pos c25] at H
                        have c25b0 : decide (0 ≤ x41_3) = true := decide_eq_true c25
                        clear c25
                        by_cases c26 : x41_3 < (l0.length : Int)
                        · rw [if_pos c26] at H
                          have c26b0 : decide (x41_3 < (l0.length : Int)) = true := decide_eq_true c26
                          clear c26
                          have HC27 := Aside0.mk H
                          clear H
                          have p323 : 0 ≤ (x41_3 : Int) := of_decide_eq_true (by first | (with_reducible assumption) | assumption)
                          have q323 : x41_3 < (l0.length : Int) := of_decide_eq_true (by first | (with_reducible assumption) | assumption)
                          obtain ⟨ad323, e323, hx323_0, hx323_1, hx323_2⟩ := at_T33 HR0.out x41_3 p323 q323
                          cases e323
                          replace hx323_0 := (HB.out.cell (World.block_lt_of_cell? w _ hx323_0)).trans hx323_0
                          replace hx323_1 := (HB.out.cell (World.block_lt_of_cell? w _ hx323_1)).trans hx323_1
                          replace hx323_2 := (HB.out.cell (World.block_lt_of_cell? w _ hx323_2)).trans hx323_2
                          replace p323 := eq_true p323
                          replace q323 := eq_true q323
                          go_upto_region 18 with (first | ((with_reducible refine gate_dst (N := 9) rfl ?_); (try (refine gate_guard (by rfl) ?_; dsimp only)); refine box_event ?hg (N := 9) ?hd (cs := #[.int .u8 0, .string (⟨#[]⟩ : ByteArray), .int .i64 0]) (t := 33) ?hr ?_; (case hd => rfl); (case hg => rfl); (case hr => first | (go_simp; done) | (go_simp; rfl)); intro gb324 hg w28 hbox hb; have n0_ := Aside0.mk (Kd.R_below (Kd.R_elderB (by (with_reducible repeat (first | apply Kd.R_alloc | apply Kd.R_drewN | apply Kd.R_drew)); exact HO_6.out) gb324 (Nat.le_of_eq hg.symm)) hb); have n1_ := Aside0.mk (below_step (by repeat (first | (with_reducible first | exact HB.out | apply below_alloc | apply pw_below_drewN | apply below_drew1) | exact HB.out)) hb); have n2_ := Aside0.mk (hbox); have n3_ := Aside0.mk ((by rw [hg]; exact (below_size (by repeat (first | (with_reducible first | exact HB.out | apply below_alloc | apply pw_below_drewN | apply below_drew1) | exact HB.out))) : w.heap.size ≤ gb324)); have n4_ := Aside0.mk ((by rw [hg]; exact (below_size (by repeat (first | (with_reducible first | exact HB.out | apply below_alloc | apply pw_below_drewN | apply below_drew1) | exact HB.out))) : w.heap.size ≤ gb324)); clear HO_6; clear HB; have HO_6 := n0_; have HB := n1_; have BK324 := n2_; have GW324 := n3_; have GE324 := n4_; clear n0_ n1_ n2_ n3_ n4_; clear hb hbox hg; have hcz29_0 : w28.cell? ⟨gb324, 0, none⟩ = some (.int .u8 0) := (blk_cell BK324.out 0).trans rfl; have hcz29_1 : w28.cell? ⟨gb324, 1, none⟩ = some (.string (⟨#[]⟩ : ByteArray)) := (blk_cell BK324.out 1).trans rfl; have hcz29_2 : w28.cell? ⟨gb324, 2, none⟩ = some (.int .i64 0) := (blk_cell BK324.out 2).trans rfl; have hfz29_0 := blk_frozen BK324.out 0; have hfz29_1 := blk_frozen BK324.out 1; have hfz29_2 := blk_frozen BK324.out 2))
                          repeat (go_quiet (first | ((with_reducible refine gate_dst (N := 9) rfl ?_); (try (refine gate_guard (by rfl) ?_; dsimp only)); refine box_event ?hg (N := 9) ?hd (cs := #[.int .u8 0, .string (⟨#[]⟩ : ByteArray), .int .i64 0]) (t := 33) ?hr ?_; (case hd => rfl); (case hg => rfl); (case hr => first | (go_simp; done) | (go_simp; rfl)); intro gb324 hg w28 hbox hb; have n0_ := Aside0.mk (Kd.R_below (Kd.R_elderB (by (with_reducible repeat (first | apply Kd.R_alloc | apply Kd.R_drewN | apply Kd.R_drew)); exact HO_6.out) gb324 (Nat.le_of_eq hg.symm)) hb); have n1_ := Aside0.mk (below_step (by repeat (first | (with_reducible first | exact HB.out | apply below_alloc | apply pw_below_drewN | apply below_drew1) | exact HB.out)) hb); have n2_ := Aside0.mk (hbox); have n3_ := Aside0.mk ((by rw [hg]; exact (below_size (by repeat (first | (with_reducible first | exact HB.out | apply below_alloc | apply pw_below_drewN | apply below_drew1) | exact HB.out))) : w.heap.size ≤ gb324)); have n4_ := Aside0.mk ((by rw [hg]; exact (below_size (by repeat (first | (with_reducible first | exact HB.out | apply below_alloc | apply pw_below_drewN | apply below_drew1) | exact HB.out))) : w.heap.size ≤ gb324)); clear HO_6; clear HB; have HO_6 := n0_; have HB := n1_; have BK324 := n2_; have GW324 := n3_; have GE324 := n4_; clear n0_ n1_ n2_ n3_ n4_; clear hb hbox hg; have hcz29_0 : w28.cell? ⟨gb324, 0, none⟩ = some (.int .u8 0) := (blk_cell BK324.out 0).trans rfl; have hcz29_1 : w28.cell? ⟨gb324, 1, none⟩ = some (.string (⟨#[]⟩ : ByteArray)) := (blk_cell BK324.out 1).trans rfl; have hcz29_2 : w28.cell? ⟨gb324, 2, none⟩ = some (.int .i64 0) := (blk_cell BK324.out 2).trans rfl; have hfz29_0 := blk_frozen BK324.out 0; have hfz29_1 := blk_frozen BK324.out 1; have hfz29_2 := blk_frozen BK324.out 2)); go_upto_region 18 with (first | ((with_reducible refine gate_dst (N := 9) rfl ?_); (try (refine gate_guard (by rfl) ?_; dsimp only)); refine box_event ?hg (N := 9) ?hd (cs := #[.int .u8 0, .string (⟨#[]⟩ : ByteArray), .int .i64 0]) (t := 33) ?hr ?_; (case hd => rfl); (case hg => rfl); (case hr => first | (go_simp; done) | (go_simp; rfl)); intro gb324 hg w28 hbox hb; have n0_ := Aside0.mk (Kd.R_below (Kd.R_elderB (by (with_reducible repeat (first | apply Kd.R_alloc | apply Kd.R_drewN | apply Kd.R_drew)); exact HO_6.out) gb324 (Nat.le_of_eq hg.symm)) hb); have n1_ := Aside0.mk (below_step (by repeat (first | (with_reducible first | exact HB.out | apply below_alloc | apply pw_below_drewN | apply below_drew1) | exact HB.out)) hb); have n2_ := Aside0.mk (hbox); have n3_ := Aside0.mk ((by rw [hg]; exact (below_size (by repeat (first | (with_reducible first | exact HB.out | apply below_alloc | apply pw_below_drewN | apply below_drew1) | exact HB.out))) : w.heap.size ≤ gb324)); have n4_ := Aside0.mk ((by rw [hg]; exact (below_size (by repeat (first | (with_reducible first | exact HB.out | apply below_alloc | apply pw_below_drewN | apply below_drew1) | exact HB.out))) : w.heap.size ≤ gb324)); clear HO_6; clear HB; have HO_6 := n0_; have HB := n1_; have BK324 := n2_; have GW324 := n3_; have GE324 := n4_; clear n0_ n1_ n2_ n3_ n4_; clear hb hbox hg; have hcz29_0 : w28.cell? ⟨gb324, 0, none⟩ = some (.int .u8 0) := (blk_cell BK324.out 0).trans rfl; have hcz29_1 : w28.cell? ⟨gb324, 1, none⟩ = some (.string (⟨#[]⟩ : ByteArray)) := (blk_cell BK324.out 1).trans rfl; have hcz29_2 : w28.cell? ⟨gb324, 2, none⟩ = some (.int .i64 0) := (blk_cell BK324.out 2).trans rfl; have hfz29_0 := blk_frozen BK324.out 0; have hfz29_1 := blk_frozen BK324.out 1; have hfz29_2 := blk_frozen BK324.out 2)))
                          (try simp only [Act.put, List.setIfInBounds_toArray, List.set_cons_zero, List.set_cons_succ])
                          go_cut [52] (fun v52 wc => ∃ (kq : Nat) (x52_26 : Bool), v52 = .bool x52_26 ∧ Aside0 (ontimelaw11_LexerSolid.j3 kq l0 x3_2 x6_3 x7_3 l0 (l0.length : Int) x41_3 x52_26 ((rd_T33 l0 x41_3).f0) ((rd_T33 l0 x41_3).f1) ((rd_T33 l0 x41_3).f2) = some r) ∧ Aside0 (kq ≤ k3) ∧ Aside0 (Kd.R k33 33 wc w.heap.size (fun k_ => k_ ≠ gb324) v320 x6_3) ∧ Aside0 (wc.heap[gb324]? = some (.cells #[.int .u8 ((rd_T33 l0 x41_3).f0), .string ((rd_T33 l0 x41_3).f1), .int .i64 ((rd_T33 l0 x41_3).f2)] 33 (0, 0))) ∧ Aside0 (Below w.heap.size w wc))
                          case first =>
                            have H := HC27.out
                            clear HC27
                            by_cases c30 : ((rd_T33 l0 x41_3).f0) = 4
                            · rw [if_pos c30] at H
                              have c30b0 : (((rd_T33 l0 x41_3).f0) == 4) = true := beq_iff_eq.mpr c30
                              have c30b1 : (((rd_T33 l0 x41_3).f0) != 4) = false := bne_eq_false_iff_eq.mpr c30
                              clear c30
                              (first | rw [c30b0] | (simp only [i64_w, i32_w]; rw [c30b0]) | skip)
                              have H' := Aside0.mk H
                              clear H
                              have hcz31_0 : w28.cell? ⟨gb324, 0, none⟩ = some (.int .u8 0) := (blk_cell BK324.out 0).trans rfl
                              have hcz31_1 : w28.cell? ⟨gb324, 1, none⟩ = some (.string (⟨#[]⟩ : ByteArray)) := (blk_cell BK324.out 1).trans rfl
                              have hcz31_2 : w28.cell? ⟨gb324, 2, none⟩ = some (.int .i64 0) := (blk_cell BK324.out 2).trans rfl
                              have hfz31_0 := blk_frozen BK324.out 0
                              have hfz31_1 := blk_frozen BK324.out 1
                              have hfz31_2 := blk_frozen BK324.out 2
                              go_wp2
                              repeat (go_quiet (fail); try go_wp2)
                              go_meet
                              case rel => exact ⟨_, (true), (by first | rfl | (simp; done) | (simp [*]; done)), H', ⟨by have := HJ1.out; have := HK2.out; have := HK3.out; first | omega | exact Nat.le_refl _⟩, ⟨by (with_reducible repeat (first | apply Kd.R_alloc | apply Kd.R_drewN | apply Kd.R_drew)); exact Kd.R_mono (Kd.R_far (p := ⟨gb324, 2, none⟩) (Kd.R_far (p := ⟨gb324, 1, none⟩) (Kd.R_far (p := ⟨gb324, 0, none⟩) (Kd.R_mono HO_6.out (fun k_ hk => (⟨hk, hk.2⟩ : _ ∧ k_ ≠ gb324))) (fun _ hk => hk.2) (.int .u8 ((rd_T33 l0 x41_3).f0))) (fun _ hk => hk.2) (.string ((rd_T33 l0 x41_3).f1))) (fun _ hk => hk.2) (.int .i64 ((rd_T33 l0 x41_3).f2))) (fun _ hk => hk.1.2)⟩, ⟨by (with_reducible repeat (first | refine blk_drewN ?_ _ | refine blk_drew ?_ | refine blk_alloc ?_ _)); refine blk_put (cs := #[.int .u8 ((rd_T33 l0 x41_3).f0), .string ((rd_T33 l0 x41_3).f1), .int .i64 0]) ?_ 2 _ rfl; (with_reducible repeat (first | refine blk_drewN ?_ _ | refine blk_drew ?_ | refine blk_alloc ?_ _)); refine blk_put (cs := #[.int .u8 ((rd_T33 l0 x41_3).f0), .string (⟨#[]⟩ : ByteArray), .int .i64 0]) ?_ 1 _ rfl; (with_reducible repeat (first | refine blk_drewN ?_ _ | refine blk_drew ?_ | refine blk_alloc ?_ _)); refine blk_put (cs := #[.int .u8 0, .string (⟨#[]⟩ : ByteArray), .int .i64 0]) ?_ 0 _ rfl; (with_reducible repeat (first | refine blk_drewN ?_ _ | refine blk_drew ?_ | refine blk_alloc ?_ _)); exact BK324.out⟩, ⟨by repeat (first | (with_reducible first | exact HB.out | apply below_alloc | apply pw_below_drewN | apply below_drew1 | refine below_set ?_ GE324.out) | exact HB.out)⟩⟩
                            · rw [if_neg c30] at H
                              have c30b0 : (((rd_T33 l0 x41_3).f0) == 4) = false := beq_eq_false_iff_ne.mpr c30
                              have c30b1 : (((rd_T33 l0 x41_3).f0) != 4) = true := bne_iff_ne.mpr c30
                              (first | rw [c30b0] | (simp only [i64_w, i32_w]; rw [c30b0]) | skip)
                              have H' := Aside0.mk H
                              clear H
                              have hcz32_0 : w28.cell? ⟨gb324, 0, none⟩ = some (.int .u8 0) := (blk_cell BK324.out 0).trans rfl
                              have hcz32_1 : w28.cell? ⟨gb324, 1, none⟩ = some (.string (⟨#[]⟩ : ByteArray)) := (blk_cell BK324.out 1).trans rfl
                              have hcz32_2 : w28.cell? ⟨gb324, 2, none⟩ = some (.int .i64 0) := (blk_cell BK324.out 2).trans rfl
                              have hfz32_0 := blk_frozen BK324.out 0
                              have hfz32_1 := blk_frozen BK324.out 1
                              have hfz32_2 := blk_frozen BK324.out 2
                              go_wp2
                              repeat (go_quiet (fail); try go_wp2)
                              go_meet
                              case rel => exact ⟨_, ((((rd_T33 l0 x41_3).f0) == 5)), (by first | rfl | (simp; done) | (simp [*]; done)), H', ⟨by have := HJ1.out; have := HK2.out; have := HK3.out; first | omega | exact Nat.le_refl _⟩, ⟨by (with_reducible repeat (first | apply Kd.R_alloc | apply Kd.R_drewN | apply Kd.R_drew)); exact Kd.R_mono (Kd.R_far (p := ⟨gb324, 2, none⟩) (Kd.R_far (p := ⟨gb324, 1, none⟩) (Kd.R_far (p := ⟨gb324, 0, none⟩) (Kd.R_mono HO_6.out (fun k_ hk => (⟨hk, hk.2⟩ : _ ∧ k_ ≠ gb324))) (fun _ hk => hk.2) (.int .u8 ((rd_T33 l0 x41_3).f0))) (fun _ hk => hk.2) (.string ((rd_T33 l0 x41_3).f1))) (fun _ hk => hk.2) (.int .i64 ((rd_T33 l0 x41_3).f2))) (fun _ hk => hk.1.2)⟩, ⟨by (with_reducible repeat (first | refine blk_drewN ?_ _ | refine blk_drew ?_ | refine blk_alloc ?_ _)); refine blk_put (cs := #[.int .u8 ((rd_T33 l0 x41_3).f0), .string ((rd_T33 l0 x41_3).f1), .int .i64 0]) ?_ 2 _ rfl; (with_reducible repeat (first | refine blk_drewN ?_ _ | refine blk_drew ?_ | refine blk_alloc ?_ _)); refine blk_put (cs := #[.int .u8 ((rd_T33 l0 x41_3).f0), .string (⟨#[]⟩ : ByteArray), .int .i64 0]) ?_ 1 _ rfl; (with_reducible repeat (first | refine blk_drewN ?_ _ | refine blk_drew ?_ | refine blk_alloc ?_ _)); refine blk_put (cs := #[.int .u8 0, .string (⟨#[]⟩ : ByteArray), .int .i64 0]) ?_ 0 _ rfl; (with_reducible repeat (first | refine blk_drewN ?_ _ | refine blk_drew ?_ | refine blk_alloc ?_ _)); exact BK324.out⟩, ⟨by repeat (first | (with_reducible first | exact HB.out | apply below_alloc | apply pw_below_drewN | apply below_drew1 | refine below_set ?_ GE324.out) | exact HB.out)⟩⟩
                          case rest =>
                            clear HC27
                            try clear c1
                            try clear c2
                            try clear p2
                            try clear c3
                            try clear p3
                            try clear q3
                            try clear hx3
                            try clear c4
                            try clear p6
                            try clear c7
                            try clear c10
                            try clear c10b0
                            try clear c11
                            try clear c11b0
                            try clear c12
                            try clear c12b0
                            try clear c13
                            try clear c13b0
                            try clear c13b1
                            try clear c16
                            try clear c16b0
                            try clear c16b1
                            try clear c16b2
                            try clear c20
                            try clear c20b0
                            try clear c20b1
                            try clear c24
                            try clear c24b0
                            try clear c25
                            try clear c25b0
                            try clear c26
                            try clear c26b0
                            try clear c30
                            try clear c30b0
                            try clear c30b1
                            try clear p31
                            try clear q31
                            try clear hx31
                            try clear p32
                            try clear q32
                            try clear hx32
                            try clear hcz15_0
                            try clear hcz15_1
                            try clear hcz15_2
                            try clear hcz18_0
                            try clear hcz18_1
                            try clear hcz18_2
                            try clear hcz29_0
                            try clear hcz29_1
                            try clear hcz29_2
                            try clear hcz31_0
                            try clear hcz31_1
                            try clear hcz31_2
                            try clear hcz32_0
                            try clear hcz32_1
                            try clear hcz32_2
                            try clear hfz15_0
                            try clear hfz15_1
                            try clear hfz15_2
                            try clear hfz18_0
                            try clear hfz18_1
                            try clear hfz18_2
                            try clear hfz29_0
                            try clear hfz29_1
                            try clear hfz29_2
                            try clear hfz31_0
                            try clear hfz31_1
                            try clear hfz31_2
                            try clear hfz32_0
                            try clear hfz32_1
                            try clear hfz32_2
                            try clear hx316_0
                            try clear hx316_1
                            try clear hx316_2
                            try clear hx323_0
                            try clear hx323_1
                            try clear hx323_2
                            try clear p2
                            try clear p3
                            try clear p316
                            try clear p323
                            try clear p6
                            try clear q3
                            try clear q316
                            try clear q323
                            obtain ⟨kq, x52_26, rfl, HA, HJ26, HO_6, BK324, HB⟩ := hcut
                            cases kq with
                            | zero => exact absurd HA.out (by simp [ontimelaw11_LexerSolid.j3])
                            | succ kj26 =>
                              have H := HA.out
                              clear HA
                              simp only [ontimelaw11_LexerSolid.j3] at H
                              by_cases c33 : x52_26 = true
                              · subst c33
                                have H1 : (ontimelaw11_LexerSolid.l1 kj26 l0 x3_2 x6_3 x7_3 l0 (l0.length : Int) (wrap64 (x41_3 + 1))) = some r := by rw [if_pos rfl] at H; exact H
                                clear H
                                have H := H1
                                clear H1
                                have H' := Aside0.mk H
                                clear H
                                go_wp2
                                repeat (go_quiet (fail); try go_wp2)
                                go_roundg kj26
                                case measure => have := HJ1.out; have := HK2.out; have := HK3.out; have := HJ26.out; omega
                                case rel => exact ⟨(x6_3), (x7_3), (wrap64 (x41_3 + 1)), (by first | rfl | (simp; done) | (simp [*]; done)), (by first | rfl | (simp; done) | (simp [*]; done)), H', ⟨by have := HJ1.out; have := HK2.out; have := HK3.out; have := HJ26.out; omega⟩, ⟨by (with_reducible repeat (first | apply Kd.R_alloc | apply Kd.R_drewN | apply Kd.R_drew)); exact Kd.R_mono HO_6.out (fun _ hk => trivial)⟩, ⟨by repeat (first | (with_reducible first | exact HB.out | apply below_alloc | apply pw_below_drewN | apply below_drew1 | refine below_set ?_ GE324.out) | exact HB.out)⟩⟩
                              · replace c33 := Bool.eq_false_iff.mpr c33
                                subst c33
                                have H1 : (if x7_3 ≥ (x6_3.length : Int) then (some false) else (if 0 ≤ x7_3 then (if x7_3 < (x6_3.length : Int) then (if (!(((rd_T33 x6_3 x7_3).f0) == ((rd_T33 l0 x41_3).f0)) || (!((((rd_T33 x6_3 x7_3).f1).toList) == ((rd_T33 l0 x41_3).f1).toList) || (!(((rd_T33 x6_3 x7_3).f2) == ((rd_T33 l0 x41_3).f2))))) = true then (some false) else (ontimelaw11_LexerSolid.l1 kj26 l0 x3_2 (x6_3.set (x7_3 : Int).toNat (⟨(rd_T33 x6_3 x7_3).f0, (⟨#[63]⟩ : ByteArray), (rd_T33 x6_3 x7_3).f2⟩ : S33)) (wrap64 (x7_3 + 1)) l0 (l0.length : Int) (wrap64 (x41_3 + 1)))) else (none)) else (none))) = some r := by rw [if_neg (show ¬ (false = true) by decide)] at H; exact H
                                clear H
                                have H := H1
                                clear H1
                                by_cases c34 : x7_3 ≥ (x6_3.length : Int)
                                · rw [if_pos c34] at H
                                  have c34b0 : decide ((x6_3.length : Int) ≤ x7_3) = true := decide_eq_true c34
                                  clear c34
                                  obtain rfl := Option.some.inj H
                                  obtain ⟨Ao35, co35, eo35⟩ := Kd.R_slice HO_6.out
                                  subst eo35
                                  go_wp2
                                  repeat (go_quiet (fail); try go_wp2)
                                  go_ret
                                  exact ⟨by first | rfl | (simp [errW_none, errW_some] <;> rfl) | (simp [*, errW_none, errW_some] <;> rfl), by repeat (first | (with_reducible first | exact HB.out | apply below_alloc | apply pw_below_drewN | apply below_drew1 | refine below_set ?_ GE324.out) | exact HB.out)⟩
                                · rw [if_neg c34] at H
                                  have c34b0 : decide ((x6_3.length : Int) ≤ x7_3) = false := decide_eq_false c34
                                  clear c34
                                  by_cases c36 : 0 ≤ x7_3
                                  · rw [if_pos c36] at H
                                    have c36b0 : decide (0 ≤ x7_3) = true := decide_eq_true c36
                                    clear c36
                                    by_cases c37 : x7_3 < (x6_3.length : Int)
                                    · rw [if_pos c37] at H
                                      have c37b0 : decide (x7_3 < (x6_3.length : Int)) = true := decide_eq_true c37
                                      clear c37
                                      by_cases c38 : (!(((rd_T33 x6_3 x7_3).f0) == ((rd_T33 l0 x41_3).f0)) || (!((((rd_T33 x6_3 x7_3).f1).toList) == ((rd_T33 l0 x41_3).f1).toList) || (!(((rd_T33 x6_3 x7_3).f2) == ((rd_T33 l0 x41_3).f2))))) = true
                                      · rw [if_pos c38] at H
                                        have c38b0 : (!(((rd_T33 x6_3 x7_3).f0) == ((rd_T33 l0 x41_3).f0)) || (!((((rd_T33 x6_3 x7_3).f1).toList) == ((rd_T33 l0 x41_3).f1).toList) || (!(((rd_T33 x6_3 x7_3).f2) == ((rd_T33 l0 x41_3).f2))))) = true := c38
                                        clear c38
                                        obtain rfl := Option.some.inj H
                                        obtain ⟨Ao39, co39, eo39⟩ := Kd.R_slice HO_6.out
                                        subst eo39
                                        have p325 : 0 ≤ (x7_3 : Int) := of_decide_eq_true (by first | (with_reducible assumption) | assumption)
                                        have q325 : x7_3 < (x6_3.length : Int) := of_decide_eq_true (by first | (with_reducible assumption) | assumption)
                                        obtain ⟨ad325, e325, hx325_0, hx325_1, hx325_2⟩ := at_T33 (Kd.R_reads' HO_6.out).2.2 x7_3 p325 q325
                                        cases e325
                                        replace p325 := eq_true p325
                                        replace q325 := eq_true q325
                                        have hcz40_0 : wc.cell? ⟨gb324, 0, none⟩ = some (.int .u8 ((rd_T33 l0 x41_3).f0)) := (blk_cell BK324.out 0).trans rfl
                                        have hcz40_1 : wc.cell? ⟨gb324, 1, none⟩ = some (.string ((rd_T33 l0 x41_3).f1)) := (blk_cell BK324.out 1).trans rfl
                                        have hcz40_2 : wc.cell? ⟨gb324, 2, none⟩ = some (.int .i64 ((rd_T33 l0 x41_3).f2)) := (blk_cell BK324.out 2).trans rfl
                                        have hfz40_0 := blk_frozen BK324.out 0
                                        have hfz40_1 := blk_frozen BK324.out 1
                                        have hfz40_2 := blk_frozen BK324.out 2
                                        go_wp2
                                        repeat (go_quiet (fail); try go_wp2)
                                        go_ret
                                        exact ⟨by first | rfl | (simp [errW_none, errW_some] <;> rfl) | (simp [*, errW_none, errW_some] <;> rfl), by repeat (first | (with_reducible first | exact HB.out | apply below_alloc | apply pw_below_drewN | apply below_drew1 | refine below_set ?_ GE324.out) | exact HB.out)⟩
                                      · rw [if_neg c38] at H
                                        have c38b0 : (!(((rd_T33 x6_3 x7_3).f0) == ((rd_T33 l0 x41_3).f0)) || (!((((rd_T33 x6_3 x7_3).f1).toList) == ((rd_T33 l0 x41_3).f1).toList) || (!(((rd_T33 x6_3 x7_3).f2) == ((rd_T33 l0 x41_3).f2))))) = false := by simpa using c38
                                        clear c38
                                        obtain ⟨y326, hy326⟩ : ∃ y_ : List (S33), y_ = (x6_3.set (x7_3 : Int).toNat (⟨(rd_T33 x6_3 x7_3).f0, (⟨#[63]⟩ : ByteArray), (rd_T33 x6_3 x7_3).f2⟩ : S33)) := ⟨_, rfl⟩
                                        replace H : (ontimelaw11_LexerSolid.l1 kj26 l0 x3_2 y326 (wrap64 (x7_3 + 1)) l0 (l0.length : Int) (wrap64 (x41_3 + 1))) = some r := by first | (rw [hy326]; with_reducible exact H) | (have H2_ := (Option.bind_some _ _).symm.trans H; rw [hy326]; with_reducible exact H2_) | (have H2_ := (Option.bind_some _ _).symm.trans H; with_reducible exact H2_) | with_reducible exact H | (rw [hy326]; exact H) | exact H
                                        have Ny326 := Aside0.mk hy326
                                        clear hy326
                                        have H' := Aside0.mk H
                                        clear H
                                        obtain ⟨Ao42, co42, eo42⟩ := Kd.R_slice HO_6.out
                                        subst eo42
                                        have p325 : 0 ≤ (x7_3 : Int) := of_decide_eq_true (by first | (with_reducible assumption) | assumption)
                                        have q325 : x7_3 < (x6_3.length : Int) := of_decide_eq_true (by first | (with_reducible assumption) | assumption)
                                        obtain ⟨ad325, e325, hx325_0, hx325_1, hx325_2⟩ := at_T33 (Kd.R_reads' HO_6.out).2.2 x7_3 p325 q325
                                        cases e325
                                        replace p325 := eq_true p325
                                        replace q325 := eq_true q325
                                        have hcz43_0 : wc.cell? ⟨gb324, 0, none⟩ = some (.int .u8 ((rd_T33 l0 x41_3).f0)) := (blk_cell BK324.out 0).trans rfl
                                        have hcz43_1 : wc.cell? ⟨gb324, 1, none⟩ = some (.string ((rd_T33 l0 x41_3).f1)) := (blk_cell BK324.out 1).trans rfl
                                        have hcz43_2 : wc.cell? ⟨gb324, 2, none⟩ = some (.int .i64 ((rd_T33 l0 x41_3).f2)) := (blk_cell BK324.out 2).trans rfl
                                        have hfz43_0 := blk_frozen BK324.out 0
                                        have hfz43_1 := blk_frozen BK324.out 1
                                        have hfz43_2 := blk_frozen BK324.out 2
                                        have p41 : 0 ≤ (x7_3 : Int) := of_decide_eq_true (by first | (with_reducible assumption) | assumption)
                                        have q41 : (x7_3 : Int) < ((x6_3.length : Int) : Int) := of_decide_eq_true (by first | (with_reducible assumption) | assumption)
                                        obtain ⟨go41, co41, eo41, gb41, gl41, cl41, HG41⟩ := Kd.R_form HO_6.out (by omega)
                                        (first | cases eo41 | (injection eo41 with ea_ en_ ec_; (first | subst ea_ | (injection ea_ with ea_; subst ea_)); subst ec_; clear en_))
                                        have GB41 := Aside0.mk gb41
                                        have GG41 := Aside0.mk HG41
                                        clear gb41 gl41 HG41
                                        (first | simp only [add_plain] at hx325_0 | skip)
                                        (first | simp only [add_plain] at hx325_1 | skip)
                                        (first | simp only [add_plain] at hx325_2 | skip)
                                        obtain ⟨ce41, hcl41, hM41, hcc41, hfr41⟩ := Kd.R_elem HO_6.out z33 (x7_3 : Int) p41 q41
                                        obtain rfl := k33_openM hM41
                                        have hx41_0 : wc.cell? ⟨go41, (x7_3 : Int).toNat * 3, none⟩ = some (.int .u8 ((rd_T33 x6_3 x7_3).f0)) := hcc41 0 _ rfl
                                        have hx41_1 : wc.cell? ⟨go41, (x7_3 : Int).toNat * 3 + 1, none⟩ = some (.string ((rd_T33 x6_3 x7_3).f1)) := hcc41 1 _ rfl
                                        have hx41_2 : wc.cell? ⟨go41, (x7_3 : Int).toNat * 3 + 2, none⟩ = some (.int .i64 ((rd_T33 x6_3 x7_3).f2)) := hcc41 2 _ rfl
                                        have hf41_0 : wc.frozen? ⟨go41, (x7_3 : Int).toNat * 3, none⟩ = false := hfr41 0
                                        have hf41_1 : wc.frozen? ⟨go41, (x7_3 : Int).toNat * 3 + 1, none⟩ = false := hfr41 1
                                        have hf41_2 : wc.frozen? ⟨go41, (x7_3 : Int).toNat * 3 + 2, none⟩ = false := hfr41 2
                                        clear hcl41 hcc41 hfr41 hM41
                                        replace p41 := eq_true p41
                                        replace q41 := eq_true q41
                                        have HX44 := Aside0.mk (show Kd.R k33 33 wc w.heap.size (fun k_ => k_ ≠ gb324) (.slice (some ⟨go41, 0, none⟩) x6_3.length co42) x6_3 from (by (with_reducible repeat (first | apply Kd.R_alloc | apply Kd.R_drewN | apply Kd.R_drew)); exact HO_6.out))
                                        obtain ⟨ce44, hcl44, hM44, hcc44, hfr44⟩ := Kd.R_elem HX44.out z33 (x7_3 : Int) (of_decide_eq_true (by first | (with_reducible assumption) | assumption)) (by have h_ : (x7_3 : Int) < ((x6_3.length : Int) : Int) := of_decide_eq_true (by first | (with_reducible assumption) | assumption); first | exact h_ | (have e_ := (Kd.R_reads' HO_6.out).1; omega) | simpa using h_)
                                        obtain rfl := k33_openM hM44
                                        have HP44 := Kd.R_seg HX44.out (x7_3 : Int) (of_decide_eq_true (by first | (with_reducible assumption) | assumption)) (by have h_ : (x7_3 : Int) < ((x6_3.length : Int) : Int) := of_decide_eq_true (by first | (with_reducible assumption) | assumption); first | exact h_ | (have e_ := (Kd.R_reads' HO_6.out).1; omega) | simpa using h_) (seg := [.string (⟨#[63]⟩ : ByteArray)]) (j := 1) hcl44 hcc44 (show 2 ≤ 3 from by decide) (x' := (⟨(rd_T33 x6_3 x7_3).f0, (⟨#[63]⟩ : ByteArray), (rd_T33 x6_3 x7_3).f2⟩ : S33)) (k33_mkM _ _ _ (⟨(rd_T33 x6_3 x7_3).f0, (⟨#[63]⟩ : ByteArray), (rd_T33 x6_3 x7_3).f2⟩ : S33) ) (fun _ hk => hk)
                                        have hx44_1 := hcc44 1 _ rfl
                                        (try simp only [show (k33).sz = 3 from rfl, Nat.mul_one, Nat.add_zero] at hx44_1)
                                        have hf44_1 := hfr44 1
                                        (try simp only [show (k33).sz = 3 from rfl, Nat.mul_one, Nat.add_zero] at hf44_1)
                                        clear hcl44 hcc44 hfr44 hM44
                                        go_wp2_with (first | ((with_reducible refine gate_store (t := 9) (p := 68) rfl ?_); (try (rw [drewN_self wc]; generalize hq_ : World.drewN wc _ = wc; have n0_ := Aside0.mk (Kd.R_at hq_ HO_6.out); have n1_ := Aside0.mk (blk_at hq_ BK324.out); have n2_ := Aside0.mk (below_at hq_ HB.out); clear hq_ HO_6 BK324 HB; have HO_6 := n0_; have BK324 := n1_; have HB := n2_; clear n0_ n1_ n2_; (try (have HX44 := Aside0.mk (show Kd.R k33 33 wc w.heap.size (fun k_ => k_ ≠ gb324) (.slice (some ⟨go41, 0, none⟩) x6_3.length co42) x6_3 from (by (with_reducible repeat (first | apply Kd.R_alloc | apply Kd.R_drewN | apply Kd.R_drew)); exact HO_6.out)))); (try (obtain ⟨ce44, hcl44, hM44, hcc44, hfr44⟩ := Kd.R_elem HX44.out z33 (x7_3 : Int) (of_decide_eq_true (by first | (with_reducible assumption) | assumption)) (by have h_ : (x7_3 : Int) < ((x6_3.length : Int) : Int) := of_decide_eq_true (by first | (with_reducible assumption) | assumption); first | exact h_ | (have e_ := (Kd.R_reads' HO_6.out).1; omega) | simpa using h_))); (try (obtain rfl := k33_openM hM44)); (try (have HP44 := Kd.R_seg HX44.out (x7_3 : Int) (of_decide_eq_true (by first | (with_reducible assumption) | assumption)) (by have h_ : (x7_3 : Int) < ((x6_3.length : Int) : Int) := of_decide_eq_true (by first | (with_reducible assumption) | assumption); first | exact h_ | (have e_ := (Kd.R_reads' HO_6.out).1; omega) | simpa using h_) (seg := [.string (⟨#[63]⟩ : ByteArray)]) (j := 1) hcl44 hcc44 (show 2 ≤ 3 from by decide) (x' := (⟨(rd_T33 x6_3 x7_3).f0, (⟨#[63]⟩ : ByteArray), (rd_T33 x6_3 x7_3).f2⟩ : S33)) (k33_mkM _ _ _ (⟨(rd_T33 x6_3 x7_3).f0, (⟨#[63]⟩ : ByteArray), (rd_T33 x6_3 x7_3).f2⟩ : S33) ) (fun _ hk => hk))); (try (have hx44_1 := hcc44 1 _ rfl)); (try (try simp only [show (k33).sz = 3 from rfl, Nat.mul_one, Nat.add_zero] at hx44_1)); (try (have hf44_1 := hfr44 1)); (try (try simp only [show (k33).sz = 3 from rfl, Nat.mul_one, Nat.add_zero] at hf44_1)); (try (clear hcl44 hcc44 hfr44 hM44)))); refine store_event (t := 9) (p := 68) (v := ?vo_w45) (w1 := (wc.setCell ⟨go41, (x7_3 : Int).toNat * 3 + 1, none⟩ (.string (⟨#[63]⟩ : ByteArray)))) ?hg ?ho ?hn ?hr ?_; (case ho => rfl); (case hg => rfl); (case hn => rfl); (case hr => first | (go_simp; done) | (go_simp; rfl)); intro w45 hw; have hg : wc.grownBy w45 (some go41) := (by rw [hw]; exact HP44.2); have hp_ : Kd.R k33 33 w45 w.heap.size (fun k_ => k_ ≠ gb324) (.slice (some ⟨go41, 0, none⟩) x6_3.length co42) y326 := (by rw [hw, Ny326.out]; exact HP44.1); clear HP44; have n0_ := Aside0.mk (hp_); have n1_ := Aside0.mk (blk_grown (g := gb324) (o := .cells #[.int .u8 ((rd_T33 l0 x41_3).f0), .string ((rd_T33 l0 x41_3).f1), .int .i64 ((rd_T33 l0 x41_3).f2)] 33 (0, 0)) (by (with_reducible repeat (first | refine blk_drewN ?_ _ | refine blk_drew ?_ | refine blk_alloc ?_ _)); exact BK324.out) hg (Kd.R_away HO_6.out (fun _ hk => hk))); have n2_ := Aside0.mk ((by rw [hw]; exact below_set (HB.out) GB41.out : Below w.heap.size w w45)); clear HO_6; clear BK324; clear HB; have HO_6 := n0_; have BK324 := n1_; have HB := n2_; clear n0_ n1_ n2_; clear hg hw hp_))
                                        repeat (go_quiet (first | ((with_reducible refine gate_store (t := 9) (p := 68) rfl ?_); (try (rw [drewN_self wc]; generalize hq_ : World.drewN wc _ = wc; have n0_ := Aside0.mk (Kd.R_at hq_ HO_6.out); have n1_ := Aside0.mk (blk_at hq_ BK324.out); have n2_ := Aside0.mk (below_at hq_ HB.out); clear hq_ HO_6 BK324 HB; have HO_6 := n0_; have BK324 := n1_; have HB := n2_; clear n0_ n1_ n2_; (try (have HX44 := Aside0.mk (show Kd.R k33 33 wc w.heap.size (fun k_ => k_ ≠ gb324) (.slice (some ⟨go41, 0, none⟩) x6_3.length co42) x6_3 from (by (with_reducible repeat (first | apply Kd.R_alloc | apply Kd.R_drewN | apply Kd.R_drew)); exact HO_6.out)))); (try (obtain ⟨ce44, hcl44, hM44, hcc44, hfr44⟩ := Kd.R_elem HX44.out z33 (x7_3 : Int) (of_decide_eq_true (by first | (with_reducible assumption) | assumption)) (by have h_ : (x7_3 : Int) < ((x6_3.length : Int) : Int) := of_decide_eq_true (by first | (with_reducible assumption) | assumption); first | exact h_ | (have e_ := (Kd.R_reads' HO_6.out).1; omega) | simpa using h_))); (try (obtain rfl := k33_openM hM44)); (try (have HP44 := Kd.R_seg HX44.out (x7_3 : Int) (of_decide_eq_true (by first | (with_reducible assumption) | assumption)) (by have h_ : (x7_3 : Int) < ((x6_3.length : Int) : Int) := of_decide_eq_true (by first | (with_reducible assumption) | assumption); first | exact h_ | (have e_ := (Kd.R_reads' HO_6.out).1; omega) | simpa using h_) (seg := [.string (⟨#[63]⟩ : ByteArray)]) (j := 1) hcl44 hcc44 (show 2 ≤ 3 from by decide) (x' := (⟨(rd_T33 x6_3 x7_3).f0, (⟨#[63]⟩ : ByteArray), (rd_T33 x6_3 x7_3).f2⟩ : S33)) (k33_mkM _ _ _ (⟨(rd_T33 x6_3 x7_3).f0, (⟨#[63]⟩ : ByteArray), (rd_T33 x6_3 x7_3).f2⟩ : S33) ) (fun _ hk => hk))); (try (have hx44_1 := hcc44 1 _ rfl)); (try (try simp only [show (k33).sz = 3 from rfl, Nat.mul_one, Nat.add_zero] at hx44_1)); (try (have hf44_1 := hfr44 1)); (try (try simp only [show (k33).sz = 3 from rfl, Nat.mul_one, Nat.add_zero] at hf44_1)); (try (clear hcl44 hcc44 hfr44 hM44)))); refine store_event (t := 9) (p := 68) (v := ?vo_w45) (w1 := (wc.setCell ⟨go41, (x7_3 : Int).toNat * 3 + 1, none⟩ (.string (⟨#[63]⟩ : ByteArray)))) ?hg ?ho ?hn ?hr ?_; (case ho => rfl); (case hg => rfl); (case hn => rfl); (case hr => first | (go_simp; done) | (go_simp; rfl)); intro w45 hw; have hg : wc.grownBy w45 (some go41) := (by rw [hw]; exact HP44.2); have hp_ : Kd.R k33 33 w45 w.heap.size (fun k_ => k_ ≠ gb324) (.slice (some ⟨go41, 0, none⟩) x6_3.length co42) y326 := (by rw [hw, Ny326.out]; exact HP44.1); clear HP44; have n0_ := Aside0.mk (hp_); have n1_ := Aside0.mk (blk_grown (g := gb324) (o := .cells #[.int .u8 ((rd_T33 l0 x41_3).f0), .string ((rd_T33 l0 x41_3).f1), .int .i64 ((rd_T33 l0 x41_3).f2)] 33 (0, 0)) (by (with_reducible repeat (first | refine blk_drewN ?_ _ | refine blk_drew ?_ | refine blk_alloc ?_ _)); exact BK324.out) hg (Kd.R_away HO_6.out (fun _ hk => hk))); have n2_ := Aside0.mk ((by rw [hw]; exact below_set (HB.out) GB41.out : Below w.heap.size w w45)); clear HO_6; clear BK324; clear HB; have HO_6 := n0_; have BK324 := n1_; have HB := n2_; clear n0_ n1_ n2_; clear hg hw hp_)); try go_wp2_with (first | ((with_reducible refine gate_store (t := 9) (p := 68) rfl ?_); (try (rw [drewN_self wc]; generalize hq_ : World.drewN wc _ = wc; have n0_ := Aside0.mk (Kd.R_at hq_ HO_6.out); have n1_ := Aside0.mk (blk_at hq_ BK324.out); have n2_ := Aside0.mk (below_at hq_ HB.out); clear hq_ HO_6 BK324 HB; have HO_6 := n0_; have BK324 := n1_; have HB := n2_; clear n0_ n1_ n2_; (try (have HX44 := Aside0.mk (show Kd.R k33 33 wc w.heap.size (fun k_ => k_ ≠ gb324) (.slice (some ⟨go41, 0, none⟩) x6_3.length co42) x6_3 from (by (with_reducible repeat (first | apply Kd.R_alloc | apply Kd.R_drewN | apply Kd.R_drew)); exact HO_6.out)))); (try (obtain ⟨ce44, hcl44, hM44, hcc44, hfr44⟩ := Kd.R_elem HX44.out z33 (x7_3 : Int) (of_decide_eq_true (by first | (with_reducible assumption) | assumption)) (by have h_ : (x7_3 : Int) < ((x6_3.length : Int) : Int) := of_decide_eq_true (by first | (with_reducible assumption) | assumption); first | exact h_ | (have e_ := (Kd.R_reads' HO_6.out).1; omega) | simpa using h_))); (try (obtain rfl := k33_openM hM44)); (try (have HP44 := Kd.R_seg HX44.out (x7_3 : Int) (of_decide_eq_true (by first | (with_reducible assumption) | assumption)) (by have h_ : (x7_3 : Int) < ((x6_3.length : Int) : Int) := of_decide_eq_true (by first | (with_reducible assumption) | assumption); first | exact h_ | (have e_ := (Kd.R_reads' HO_6.out).1; omega) | simpa using h_) (seg := [.string (⟨#[63]⟩ : ByteArray)]) (j := 1) hcl44 hcc44 (show 2 ≤ 3 from by decide) (x' := (⟨(rd_T33 x6_3 x7_3).f0, (⟨#[63]⟩ : ByteArray), (rd_T33 x6_3 x7_3).f2⟩ : S33)) (k33_mkM _ _ _ (⟨(rd_T33 x6_3 x7_3).f0, (⟨#[63]⟩ : ByteArray), (rd_T33 x6_3 x7_3).f2⟩ : S33) ) (fun _ hk => hk))); (try (have hx44_1 := hcc44 1 _ rfl)); (try (try simp only [show (k33).sz = 3 from rfl, Nat.mul_one, Nat.add_zero] at hx44_1)); (try (have hf44_1 := hfr44 1)); (try (try simp only [show (k33).sz = 3 from rfl, Nat.mul_one, Nat.add_zero] at hf44_1)); (try (clear hcl44 hcc44 hfr44 hM44)))); refine store_event (t := 9) (p := 68) (v := ?vo_w45) (w1 := (wc.setCell ⟨go41, (x7_3 : Int).toNat * 3 + 1, none⟩ (.string (⟨#[63]⟩ : ByteArray)))) ?hg ?ho ?hn ?hr ?_; (case ho => rfl); (case hg => rfl); (case hn => rfl); (case hr => first | (go_simp; done) | (go_simp; rfl)); intro w45 hw; have hg : wc.grownBy w45 (some go41) := (by rw [hw]; exact HP44.2); have hp_ : Kd.R k33 33 w45 w.heap.size (fun k_ => k_ ≠ gb324) (.slice (some ⟨go41, 0, none⟩) x6_3.length co42) y326 := (by rw [hw, Ny326.out]; exact HP44.1); clear HP44; have n0_ := Aside0.mk (hp_); have n1_ := Aside0.mk (blk_grown (g := gb324) (o := .cells #[.int .u8 ((rd_T33 l0 x41_3).f0), .string ((rd_T33 l0 x41_3).f1), .int .i64 ((rd_T33 l0 x41_3).f2)] 33 (0, 0)) (by (with_reducible repeat (first | refine blk_drewN ?_ _ | refine blk_drew ?_ | refine blk_alloc ?_ _)); exact BK324.out) hg (Kd.R_away HO_6.out (fun _ hk => hk))); have n2_ := Aside0.mk ((by rw [hw]; exact below_set (HB.out) GB41.out : Below w.heap.size w w45)); clear HO_6; clear BK324; clear HB; have HO_6 := n0_; have BK324 := n1_; have HB := n2_; clear n0_ n1_ n2_; clear hg hw hp_)))
                                        go_roundg kj26
                                        case measure => have := HJ1.out; have := HK2.out; have := HK3.out; have := HJ26.out; omega
                                        case rel => exact ⟨(y326), (wrap64 (x7_3 + 1)), (wrap64 (x41_3 + 1)), (by first | rfl | (simp; done) | (simp [*]; done)), (by first | rfl | (simp; done) | (simp [*]; done)), H', ⟨by have := HJ1.out; have := HK2.out; have := HK3.out; have := HJ26.out; omega⟩, ⟨by (with_reducible repeat (first | apply Kd.R_alloc | apply Kd.R_drewN | apply Kd.R_drew)); exact Kd.R_mono HO_6.out (fun _ hk => trivial)⟩, ⟨by repeat (first | (with_reducible first | exact HB.out | apply below_alloc | apply pw_below_drewN | apply below_drew1 | refine below_set ?_ GE324.out) | exact HB.out)⟩⟩
                                    · rw [if_neg c37] at H
                                      exact absurd H (by simp)
                                  · rw [if_neg c36] at H
                                    exact absurd H (by simp)
                        · rw [if_neg c26] at H
                          exact absurd H (by simp)
                      · rw [if_neg c25] at H
                        exact absurd H (by simp)
                    · rw [if_neg c24] at H
                      have c24b0 : decide (x41_3 < (l0.length : Int)) = false := decide_eq_false c24
                      clear c24
                      by_cases c46 : x7_3 = (x6_3.length : Int)
                      · rw [if_pos c46] at H
                        have c46b0 : (x7_3 == (x6_3.length : Int)) = true := beq_iff_eq.mpr c46
                        have c46b1 : (x7_3 != (x6_3.length : Int)) = false := bne_eq_false_iff_eq.mpr c46
                        clear c46
                        replace H := Option.bind_eq_some_iff.mp H
                        obtain ⟨t322, A470, H⟩ := H
                        replace H : (some (t322.toList == x3_2.toList)) = some r := H
                        have A47 := Aside0.mk A470
                        clear A470
                        obtain rfl := Option.some.inj H
                        obtain ⟨Ao48, co48, eo48⟩ := Kd.R_slice HO_6.out
                        subst eo48
                        go_wp2_with (first | (go_at_call 22; (with_reducible refine (lexer_Join.calls _ _ l0 t322 _ ?side1 ?side2 A47.out).mono ?_); (case side1 => repeat (first | exact (Kd.C_below HR0.out HB.out) | (with_reducible refine Kd.C_alloc ?_ _) | (with_reducible refine Kd.C_drewN ?_ _) | (with_reducible refine Kd.C_drew ?_))); (case side2 => exact HC0.out); rintro e w49 ⟨rfl, hb⟩; have n0_ := Aside0.mk (Kd.R_below (by (with_reducible repeat (first | apply Kd.R_alloc | apply Kd.R_drewN | apply Kd.R_drew)); exact HO_6.out) hb); have n1_ := Aside0.mk (below_step (by repeat (first | (with_reducible first | exact HB.out | apply below_alloc | apply pw_below_drewN | apply below_drew1) | exact HB.out)) hb); clear HO_6; clear HB; have HO_6 := n0_; have HB := n1_; clear n0_ n1_; (try clear hb); (try clear hb2); (try clear hk); (try clear hi)))
                        repeat (go_quiet (first | (go_at_call 22; (with_reducible refine (lexer_Join.calls _ _ l0 t322 _ ?side1 ?side2 A47.out).mono ?_); (case side1 => repeat (first | exact (Kd.C_below HR0.out HB.out) | (with_reducible refine Kd.C_alloc ?_ _) | (with_reducible refine Kd.C_drewN ?_ _) | (with_reducible refine Kd.C_drew ?_))); (case side2 => exact HC0.out); rintro e w49 ⟨rfl, hb⟩; have n0_ := Aside0.mk (Kd.R_below (by (with_reducible repeat (first | apply Kd.R_alloc | apply Kd.R_drewN | apply Kd.R_drew)); exact HO_6.out) hb); have n1_ := Aside0.mk (below_step (by repeat (first | (with_reducible first | exact HB.out | apply below_alloc | apply pw_below_drewN | apply below_drew1) | exact HB.out)) hb); clear HO_6; clear HB; have HO_6 := n0_; have HB := n1_; clear n0_ n1_; (try clear hb); (try clear hb2); (try clear hk); (try clear hi))); try go_wp2_with (first | (go_at_call 22; (with_reducible refine (lexer_Join.calls _ _ l0 t322 _ ?side1 ?side2 A47.out).mono ?_); (case side1 => repeat (first | exact (Kd.C_below HR0.out HB.out) | (with_reducible refine Kd.C_alloc ?_ _) | (with_reducible refine Kd.C_drewN ?_ _) | (with_reducible refine Kd.C_drew ?_))); (case side2 => exact HC0.out); rintro e w49 ⟨rfl, hb⟩; have n0_ := Aside0.mk (Kd.R_below (by (with_reducible repeat (first | apply Kd.R_alloc | apply Kd.R_drewN | apply Kd.R_drew)); exact HO_6.out) hb); have n1_ := Aside0.mk (below_step (by repeat (first | (with_reducible first | exact HB.out | apply below_alloc | apply pw_below_drewN | apply below_drew1) | exact HB.out)) hb); clear HO_6; clear HB; have HO_6 := n0_; have HB := n1_; clear n0_ n1_; (try clear hb); (try clear hb2); (try clear hk); (try clear hi))))
                        go_ret
                        exact ⟨by first | rfl | (simp [errW_none, errW_some] <;> rfl) | (simp [*, errW_none, errW_some] <;> rfl), by repeat (first | (with_reducible first | exact HB.out | apply below_alloc | apply pw_below_drewN | apply below_drew1) | exact HB.out)⟩
                      · rw [if_neg c46] at H
                        have c46b0 : (x7_3 == (x6_3.length : Int)) = false := beq_eq_false_iff_ne.mpr c46
                        have c46b1 : (x7_3 != (x6_3.length : Int)) = true := bne_iff_ne.mpr c46
                        obtain rfl := Option.some.inj H
                        obtain ⟨Ao50, co50, eo50⟩ := Kd.R_slice HO_6.out
                        subst eo50
                        go_wp2
                        repeat (go_quiet (fail); try go_wp2)
                        go_ret
                        exact ⟨by first | rfl | (simp [errW_none, errW_some] <;> rfl) | (simp [*, errW_none, errW_some] <;> rfl), by repeat (first | (with_reducible first | exact HB.out | apply below_alloc | apply pw_below_drewN | apply below_drew1) | exact HB.out)⟩
              · rw [if_neg c20] at H
                have c20b0 : (t318.toList == x3_2.toList) = false := beq_eq_false_iff_ne.mpr c20
                have c20b1 : (t318.toList != x3_2.toList) = true := bne_iff_ne.mpr c20
                obtain rfl := Option.some.inj H
                go_wp2_with (first | (go_at_call 22; (with_reducible refine (lexer_Join.calls _ _ l0 t318 _ ?side1 ?side2 A19.out).mono ?_); (case side1 => repeat (first | exact (Kd.C_below HR0.out HB.out) | (with_reducible refine Kd.C_alloc ?_ _) | (with_reducible refine Kd.C_drewN ?_ _) | (with_reducible refine Kd.C_drew ?_))); (case side2 => exact HC0.out); rintro e w51 ⟨rfl, hb⟩; have n0_ := Aside0.mk (below_step (by repeat (first | (with_reducible first | exact HB.out | apply below_alloc | apply pw_below_drewN | apply below_drew1) | exact HB.out)) hb); clear HB; have HB := n0_; clear n0_; (try clear hb); (try clear hb2); (try clear hk); (try clear hi)))
                repeat (go_quiet (first | (go_at_call 22; (with_reducible refine (lexer_Join.calls _ _ l0 t318 _ ?side1 ?side2 A19.out).mono ?_); (case side1 => repeat (first | exact (Kd.C_below HR0.out HB.out) | (with_reducible refine Kd.C_alloc ?_ _) | (with_reducible refine Kd.C_drewN ?_ _) | (with_reducible refine Kd.C_drew ?_))); (case side2 => exact HC0.out); rintro e w51 ⟨rfl, hb⟩; have n0_ := Aside0.mk (below_step (by repeat (first | (with_reducible first | exact HB.out | apply below_alloc | apply pw_below_drewN | apply below_drew1) | exact HB.out)) hb); clear HB; have HB := n0_; clear n0_; (try clear hb); (try clear hb2); (try clear hk); (try clear hi))); try go_wp2_with (first | (go_at_call 22; (with_reducible refine (lexer_Join.calls _ _ l0 t318 _ ?side1 ?side2 A19.out).mono ?_); (case side1 => repeat (first | exact (Kd.C_below HR0.out HB.out) | (with_reducible refine Kd.C_alloc ?_ _) | (with_reducible refine Kd.C_drewN ?_ _) | (with_reducible refine Kd.C_drew ?_))); (case side2 => exact HC0.out); rintro e w51 ⟨rfl, hb⟩; have n0_ := Aside0.mk (below_step (by repeat (first | (with_reducible first | exact HB.out | apply below_alloc | apply pw_below_drewN | apply below_drew1) | exact HB.out)) hb); clear HB; have HB := n0_; clear n0_; (try clear hb); (try clear hb2); (try clear hk); (try clear hi))))
                go_ret
                exact ⟨by first | rfl | (simp [errW_none, errW_some] <;> rfl) | (simp [*, errW_none, errW_some] <;> rfl), by repeat (first | (with_reducible first | exact HB.out | apply below_alloc | apply pw_below_drewN | apply below_drew1) | exact HB.out)⟩

end Go.Proofs.YtjdljjjkmjhdnaaDoor.P
