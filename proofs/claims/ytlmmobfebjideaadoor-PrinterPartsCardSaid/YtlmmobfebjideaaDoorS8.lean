/- Part 8 of the texts that the laws of this seat share, joined. -/
import Derived.Test.YtlmmobfebjideaaDoorS7

/- The reference's Expr at a binary operator, walked. -/
namespace Go.Proofs.YtlmmobfebjideaaDoor.P
open Go.RowKit Go.Proofs.YtlmmobfebjideaaDoor Go.Proofs.YtlmmobfebjideaaDoor.M Go.Proofs.YtlmmobfebjideaaDoorW.PrintWords
set_option linter.unusedVariables false
set_option linter.unusedSimpArgs false
attribute [local go_sem ↓] Go.wp_at_zero Go.wp_at_succ

set_option maxHeartbeats 32000000 in
set_option maxRecDepth 100000 in
theorem rexpr_bin (n a b : Nd) (hk : 6 ≤ n.f0 ∧ n.f0 ≤ 23) (e : n.f3 = [a, b]) (ha : isN 1 a = true) (hb0 : isN 1 b = true) (he : RExC a) (he2 : RExC b) (hlen : (pE n).length ≤ 4611686018427387904) : RExC n := by
  intro A c w hc hr
  have hn : n.f3.length = 2 := by rw [e]; rfl
  have hb : Below w.heap.size w (boxed n A c w) := (Below.refl _ _).alloc (Nat.le_refl _) _
  have hpE : pE n = paren (wants a (levOf n.f0)) (pE a) ++ [32] ++ symOf n.f0 ++ [32] ++ paren (wants b (levOf n.f0 + 1)) (pE b) := by
    rw [pE_eq, if_neg (by omega), if_neg (by omega), if_neg (by omega), if_pos hk, e]; rfl
  have HR := Lib.hid hpE
  obtain ⟨ad, B, d, B2, d2, rfl, ⟨c0, c1, c2, c3, hl, hC⟩, ⟨x0, x1, x2, x3, hl2, hC2⟩⟩ := kid_two (Kd.C_below hr hb) e
  have hpl := paren_le (wants a (levOf n.f0)) (pE a)
  have hpl2 := paren_le (wants b (levOf n.f0 + 1)) (pE b)
  rw [hpE] at hlen
  simp only [List.length_append, List.length_cons, List.length_nil] at hlen
  obtain ⟨S, hS⟩ : ∃ S : ByteArray, S = ⟨(pE a).toArray⟩ := ⟨_, rfl⟩
  obtain ⟨S2, hS2⟩ : ∃ S : ByteArray, S = ⟨(pE b).toArray⟩ := ⟨_, rfl⟩
  obtain ⟨T, hT⟩ : ∃ T : ByteArray, T = ⟨(paren (wants a (levOf n.f0)) (pE a)).toArray⟩ := ⟨_, rfl⟩
  obtain ⟨T2, hT2⟩ : ∃ T : ByteArray, T = ⟨(paren (wants b (levOf n.f0 + 1)) (pE b)).toArray⟩ := ⟨_, rfl⟩
  have z9 : T.size = (paren (wants a (levOf n.f0)) (pE a)).length := by rw [hT, Lib.size_eq]
  have z92 : T2.size = (paren (wants b (levOf n.f0 + 1)) (pE b)).length := by rw [hT2, Lib.size_eq]
  have z8 : S.size = (pE a).length := by rw [hS, Lib.size_eq]
  have z82 : S2.size = (pE b).length := by rw [hS2, Lib.size_eq]
  have g1 : (n.f0 == 1) = false := beq_eq_false_iff_ne.2 (by omega)
  have g2 : (n.f0 == 2) = false := beq_eq_false_iff_ne.2 (by omega)
  have g3 : (n.f0 == 3) = false := beq_eq_false_iff_ne.2 (by omega)
  have bk : (boxed n (some ad) c w).heap[w.heap.size]? = _ := heap_alloc_new w _
  have z0 : (boxed n (some ad) c w).cell? ⟨w.heap.size, 0, none⟩ = some (.int .u8 n.f0) := (blk_cell bk 0).trans rfl
  have z1 : (boxed n (some ad) c w).cell? ⟨w.heap.size, 1, none⟩ = some (.int .i64 n.f1) := (blk_cell bk 1).trans rfl
  have z2 : (boxed n (some ad) c w).cell? ⟨w.heap.size, 2, none⟩ = some (.string n.f2) := (blk_cell bk 2).trans rfl
  have z3 : (boxed n (some ad) c w).cell? ⟨w.heap.size, 3, none⟩ = some (.slice (some ad) 2 c) := by rw [← hn]; exact (blk_cell bk 3).trans rfl
  have hE : boxed n (some ad) c w = w.alloc (.cells #[.int .u8 n.f0, .int .i64 n.f1, .string n.f2, .slice (some ad) 2 c] 24) := by show World.alloc _ _ = _; rw [hn]
  have hC0 := Kd.C_below hr hb
  obtain ⟨X, hX⟩ : ∃ X, X = boxed n (some ad) c w := ⟨_, rfl⟩
  rw [← hX] at hC hC2 hC0 c0 c1 c2 c3 x0 x1 x2 x3 z0 z1 z2 z3 hb
  obtain ⟨la, hla⟩ : ∃ x : Int, x = levOf a.f0 := ⟨_, rfl⟩
  obtain ⟨lb, hlb⟩ : ∃ x : Int, x = levOf b.f0 := ⟨_, rfl⟩
  obtain ⟨lv, hlv⟩ : ∃ x : Int, x = levOf n.f0 := ⟨_, rfl⟩
  have wa : wants a (levOf n.f0) = (M.binary a && decide (la < lv)) := by unfold wants; rw [hla, hlv]
  have wb : wants b (levOf n.f0 + 1) = (M.binary b && decide (lb ≤ lv)) := by
    unfold wants; rw [hlb, hlv]
    congr 1
    exact decide_eq_decide.2 (by omega)
  have HEX := Lib.hid (show ∀ W, Below X.heap.size X W → Calls Tryd.prog 9 #[nodeV a B d] W fun e w' => e = .returned (.string S) ∧ Below W.heap.size W w' from fun W h =>
    (he B d W hl (Kd.C_below hC h)).mono (by rintro e w' ⟨rfl, h2⟩; exact ⟨by rw [hS], h2⟩))
  have HEY := Lib.hid (show ∀ W, Below X.heap.size X W → Calls Tryd.prog 9 #[nodeV b B2 d2] W fun e w' => e = .returned (.string S2) ∧ Below W.heap.size W w' from fun W h =>
    (he2 B2 d2 W hl2 (Kd.C_below hC2 h)).mono (by rintro e w' ⟨rfl, h2⟩; exact ⟨by rw [hS2], h2⟩))
  have HBX := Lib.hid (show ∀ W, Below X.heap.size X W → Calls Tryd.prog 22 #[nodeV a B d] W fun e w' => e = .returned (.bool (M.binary a)) ∧ Below W.heap.size W w' from fun W h =>
    (refBinary_any a B d W hl (Kd.C_below hC h)).mono (by rintro e w' ⟨rfl, h2⟩; exact ⟨rfl, h2⟩))
  have HBY := Lib.hid (show ∀ W, Below X.heap.size X W → Calls Tryd.prog 22 #[nodeV b B2 d2] W fun e w' => e = .returned (.bool (M.binary b)) ∧ Below W.heap.size W w' from fun W h =>
    (refBinary_any b B2 d2 W hl2 (Kd.C_below hC2 h)).mono (by rintro e w' ⟨rfl, h2⟩; exact ⟨rfl, h2⟩))
  have HBN := Lib.hid (show ∀ W, Below X.heap.size X W → Calls Tryd.prog 22 #[nodeV n (some ad) c] W fun e w' => e = .returned (.bool true) ∧ Below W.heap.size W w' from fun W h =>
    (refBinary_any n (some ad) c W hc (Kd.C_below hC0 h)).mono (by rintro e w' ⟨rfl, h2⟩; exact ⟨by unfold M.binary; rw [decide_eq_true hk.1, decide_eq_true hk.2]; rfl, h2⟩))
  have HLN := Lib.hid (show ∀ W, Below X.heap.size X W → Calls Tryd.prog 24 #[nodeV n (some ad) c] W fun e w' => e = .returned (.int .i64 lv) ∧ Below W.heap.size W w' from fun W h =>
    (refLevel_any n (by omega) (by omega) (some ad) c W).mono (by rintro e w' ⟨rfl, h2⟩; exact ⟨by rw [hlv], h2⟩))
  have hbk : ∀ x : Nd, M.binary x = true → 6 ≤ x.f0 ∧ x.f0 ≤ 23 := fun x h => by
    unfold M.binary at h
    simpa only [Bool.and_eq_true, decide_eq_true_eq] using h
  have HLX := Lib.hid (show M.binary a = true → ∀ W, Below X.heap.size X W → Calls Tryd.prog 24 #[nodeV a B d] W fun e w' => e = .returned (.int .i64 la) ∧ Below W.heap.size W w' from fun hh W h =>
    (refLevel_any a (by have := hbk a hh; omega) (by have := hbk a hh; omega) B d W).mono (by rintro e w' ⟨rfl, h2⟩; exact ⟨by rw [hla], h2⟩))
  have HLY := Lib.hid (show M.binary b = true → ∀ W, Below X.heap.size X W → Calls Tryd.prog 24 #[nodeV b B2 d2] W fun e w' => e = .returned (.int .i64 lb) ∧ Below W.heap.size W w' from fun hh W h =>
    (refLevel_any b (by have := hbk b hh; omega) (by have := hbk b hh; omega) B2 d2 W).mono (by rintro e w' ⟨rfl, h2⟩; exact ⟨by rw [hlb], h2⟩))
  have HWX := Lib.hid (show ∀ W, Below X.heap.size X W → Calls Tryd.prog 23 #[.string S, .bool (M.binary a && decide (la < lv))] W fun e w' => e = .returned (.string T) ∧ Below W.heap.size W w' from fun W h =>
    (wrap_any S (M.binary a && decide (la < lv)) (by omega) W).mono (by rintro e w' ⟨rfl, h2⟩; exact ⟨by rw [hT, hS, wa], h2⟩))
  have HWY := Lib.hid (show ∀ W, Below X.heap.size X W → Calls Tryd.prog 23 #[.string S2, .bool (M.binary b && decide (lb ≤ lv))] W fun e w' => e = .returned (.string T2) ∧ Below W.heap.size W w' from fun W h =>
    (wrap_any S2 (M.binary b && decide (lb ≤ lv)) (by omega) W).mono (by rintro e w' ⟨rfl, h2⟩; exact ⟨by rw [hT2, hS2, wb], h2⟩))
  obtain ⟨j, hj⟩ : ∃ j : Nat, n.f0 - 4 = (j : Int) := ⟨(n.f0 - 4).toNat, by omega⟩
  have hj20 : (j : Int) < 20 := by omega
  have hw : IntKind.u8.wrap (n.f0 - 4) = (j : Int) := by
    rw [hj]
    have e : IntKind.u8.wrap (j : Int) = (j : Int) % 256 := by first | rfl | (unfold IntKind.wrap; simp [IntKind.bits, IntKind.signed])
    rw [e]; omega
  obtain ⟨Y, hY⟩ : ∃ Y : ByteArray, Y = ⟨(symOf n.f0).toArray⟩ := ⟨_, rfl⟩
  have hYs : Y.size ≤ 2 := by
    rw [hY, Lib.size_eq]
    show (symOf n.f0).length ≤ 2
    unfold symOf
    have key : ∀ x ∈ opSymbols, x.length ≤ 2 := by decide
    split
    · rw [List.getD_eq_getElem?_getD]
      cases h9 : opSymbols[(n.f0 - 4).toNat]? with
      | none => simp
      | some x => exact key x (List.mem_of_getElem? h9)
    · simp
  have HSY := Lib.hid (show ∀ W : World, Below X.heap.size X W → W.heap.size = X.heap.size → Calls Tryd.prog 21 #[] W fun e w' => e = .returned (.slice (some ⟨X.heap.size, 0, none⟩) 20 20) ∧ w'.cell? ⟨X.heap.size, j, none⟩ = some (.string Y) ∧ Below X.heap.size X w' from fun W h hz =>
    (symbols_any W).mono (by
      rintro e w' ⟨rfl, h2, h3⟩
      rw [hz] at h2
      refine ⟨by rw [hz], ?_, h.trans (h3.mono h.size)⟩
      rw [Lib.cell_of_heap h2, hY]
      unfold symOf
      rw [if_pos (by omega), hj, Int.toNat_natCast]
      have : j < opSymbols.length := by simp [opSymbols]; omega
      simp [this, List.getD_eq_getElem?_getD]))
  have q1f : (9223372036854775807 < T.size + 1) = False := eq_false (by omega)
  have q2f : (9223372036854775807 < T.size + 1 + Y.size) = False := eq_false (by omega)
  have q3f : (9223372036854775807 < T.size + 1 + Y.size + 1) = False := eq_false (by omega)
  have q4f : (9223372036854775807 < T.size + 1 + Y.size + 1 + T2.size) = False := eq_false (by omega)
  have HS := Lib.hid (And.intro hT (And.intro hT2 hY))
  unfold nodeV at HEX HEY HBX HBY HBN HLX HLY HLN
  rw [hn] at HBN HLN
  rw [hX, hE] at HEX HEY HBX HBY HBN HLX HLY HLN HWX HWY HSY c0 c1 c2 c3 x0 x1 x2 x3 z0 z1 z2 z3 hb
  have HB := Lib.hid hb
  generalize M.binary a = ba at *
  generalize M.binary b = bb at *
  clear hb hr hC hC2 hC0 hk he he2 hlen hS hS2 hT hT2 hY z9 z92 z8 z82 hX bk hE hpE hpl hpl2 hYs hj hla hlb hlv wa wb hbk ha hb0 hl hl2
  unfold nodeV
  rw [hn]
  clear hn e hc
  generalize a.f0 = a0 at *
  generalize a.f1 = a1 at *
  generalize a.f2 = a2 at *
  generalize a.f3.length = a3 at *
  generalize b.f0 = b0 at *
  generalize b.f1 = b1 at *
  generalize b.f2 = b2 at *
  generalize b.f3.length = b3 at *
  go_enter Tryd.func9, Tryd.ntmps9
  go_wp2_with fail
  generalize (w.alloc (.cells #[.int .u8 n.f0, .int .i64 n.f1, .string n.f2, .slice (some ad) 2 c] 24)) = W0 at *
  have hrefl : Below W0.heap.size W0 W0 := Below.refl _ _
  have all0 : ∀ W, Below W0.heap.size W0 W → W.cell? ⟨w.heap.size, 0, none⟩ = some (.int .u8 n.f0) := fun W h => (h.cell (World.block_lt_of_cell? W0 _ z0)).trans z0
  have allS : ∀ W, Below W0.heap.size W0 W → (W.cell? ⟨w.heap.size, 0, none⟩ = some (.int .u8 n.f0) ∧ W.cell? ⟨w.heap.size, 1, none⟩ = some (.int .i64 n.f1) ∧ W.cell? ⟨w.heap.size, 2, none⟩ = some (.string n.f2) ∧ W.cell? ⟨w.heap.size, 3, none⟩ = some (.slice (some ad) 2 c) ∧ W.cell? ad = some (.int .u8 a0) ∧ W.cell? ⟨ad.block, ad.off + 1, none⟩ = some (.int .i64 a1) ∧ W.cell? ⟨ad.block, ad.off + 2, none⟩ = some (.string a2) ∧ W.cell? ⟨ad.block, ad.off + 3, none⟩ = some (.slice B a3 d) ∧ W.cell? ⟨ad.block, ad.off + 4, none⟩ = some (.int .u8 b0) ∧ W.cell? ⟨ad.block, ad.off + 4 + 1, none⟩ = some (.int .i64 b1) ∧ W.cell? ⟨ad.block, ad.off + 4 + 2, none⟩ = some (.string b2) ∧ W.cell? ⟨ad.block, ad.off + 4 + 3, none⟩ = some (.slice B2 b3 d2)) := fun W h =>
    have k := fun {p : Addr} {v : Value} (z : W0.cell? p = some v) => (h.cell (World.block_lt_of_cell? W0 _ z)).trans z
    ⟨k z0, k z1, k z2, k z3, k c0, k c1, k c2, k c3, k x0, k x1, k x2, k x3⟩
  refine wp_region_held_drew (S := fun W => W.cell? ⟨w.heap.size, 0, none⟩ = some (.int .u8 n.f0)) (by kernel_rfl) (all0 _ (below_drew1 hrefl)) (fun hHeld => ?_)
  refine wpAnyH_take (i := 1) (v := ?v1) rfl (by kernel_rfl) (by kernel_rfl) (by kernel_rfl) (fun _ _ _ h => h) (Or.inl ⟨by rfl, ?hy1⟩) hHeld ?rest1
  case hy1 => (intro w hSw; (try dsimp only at hSw); go_simp; try with_reducible rfl)
  try simp only [List.getElem_toArray, List.getElem_cons_succ, List.getElem_cons_zero, Act.put, List.setIfInBounds_toArray, List.set_cons_zero, List.set_cons_succ]
  refine wpAnyH_take (i := 2) (v := ?v2) rfl (by kernel_rfl) (by kernel_rfl) (by kernel_rfl) (fun _ _ _ h => h) (Or.inl ⟨by rfl, ?hy2⟩) hHeld ?rest2
  case hy2 => (intro w hSw; (try dsimp only at hSw); go_simp; try with_reducible rfl)
  try simp only [List.getElem_toArray, List.getElem_cons_succ, List.getElem_cons_zero, Act.put, List.setIfInBounds_toArray, List.set_cons_zero, List.set_cons_succ]
  refine wpAnyH_take (i := 3) (v := ?v3) rfl (by kernel_rfl) (by kernel_rfl) (by kernel_rfl) (fun _ _ _ h => h) (Or.inl ⟨by rfl, ?hy3⟩) hHeld ?rest3
  case hy3 => (intro w hSw; (try dsimp only at hSw); go_simp; try with_reducible rfl)
  try simp only [List.getElem_toArray, List.getElem_cons_succ, List.getElem_cons_zero, Act.put, List.setIfInBounds_toArray, List.set_cons_zero, List.set_cons_succ]
  refine wpAnyH_ready (rs := [0]) (by kernel_rfl) (by simp) ?_
  refine AllReadyH.cons rfl (fun K hK => ?_) AllReadyH.nil
  go_simp
  go_at_call 21
  refine (HSY.out _ (below_drew1 hrefl) rfl).mono ?_
  rintro e W1 ⟨rfl, hcl, hb1⟩
  refine hK.out _ _ (all0 _ hb1) (fun hH2 => ?_)
  clear hK K
  try simp only [List.getElem_toArray, List.getElem_cons_succ, List.getElem_cons_zero, Act.put, List.setIfInBounds_toArray, List.set_cons_zero, List.set_cons_succ]
  refine wpAnyH_take (i := 4) (v := ?v4) rfl (by kernel_rfl) (by kernel_rfl) (by kernel_rfl) (fun _ _ _ h => h) (Or.inl ⟨by rfl, ?hy4⟩) hH2 ?rest4
  case hy4 => (intro w hSw; (try dsimp only at hSw); go_simp; try with_reducible rfl)
  try simp only [List.getElem_toArray, List.getElem_cons_succ, List.getElem_cons_zero, Act.put, List.setIfInBounds_toArray, List.set_cons_zero, List.set_cons_succ]
  refine wpAnyH_ready (rs := [5]) (by kernel_rfl) (by simp) ?_
  refine AllReadyH.cons rfl (fun K hK => ?_) AllReadyH.nil
  go_simp
  refine hK.out _ _ (all0 _ hb1) (fun hH3 => ?_)
  clear hK K
  try simp only [List.getElem_toArray, List.getElem_cons_succ, List.getElem_cons_zero, Act.put, List.setIfInBounds_toArray, List.set_cons_zero, List.set_cons_succ]
  refine wpAnyH_take (i := 6) (v := ?v5) rfl (by kernel_rfl) (by kernel_rfl) (by kernel_rfl) (fun _ _ _ h => h) (Or.inl ⟨by rfl, ?hy5⟩) hH3 ?rest5
  case hy5 => (intro w hSw; (try dsimp only at hSw); go_simp; try with_reducible rfl)
  try simp only [List.getElem_toArray, List.getElem_cons_succ, List.getElem_cons_zero, Act.put, List.setIfInBounds_toArray, List.set_cons_zero, List.set_cons_succ]
  refine wpAnyH_done (by kernel_rfl) ?_ _
  clear hHeld hH2 hH3 hcl
  have H1 := Lib.hid hb1
  have HAS := Lib.hid allS
  clear hb1 all0 hrefl z0 z1 z2 z3 c0 c1 c2 c3 x0 x1 x2 x3 allS hw hj20
  obtain ⟨y0, y1, y2, y3, y4, y5, y6, y7, y8, y9, y10, y11⟩ := HAS.out _ H1.out
  go_wp2_with fail
  refine (HBN.out _ H1.out).mono ?_
  rintro e W2 ⟨rfl, hb2⟩
  have HB2 := Lib.hid (H1.out.trans (hb2.mono H1.out.size))
  clear hb2
  have hb2 := HB2.out
  clear y0 y1 y2 y3 y4 y5 y6 y7 y8 y9 y10 y11
  go_wp2_with fail
  have allS := HAS.out
  have at_al : ∀ {W : World} (o : Obj), Below W0.heap.size W0 W → Below W0.heap.size W0 (W.alloc o) := fun o h => h.alloc h.size _
  have at_set : ∀ {W : World} {p : Addr} {v : Value}, Below W0.heap.size W0 W → W0.heap.size ≤ p.block → Below W0.heap.size W0 (W.setCell p v) := fun h hp => h.setCell hp _
  go_region_held3 (fun W => W.cell? ⟨w.heap.size, 0, none⟩ = some (.int .u8 n.f0) ∧ W.cell? ⟨w.heap.size, 1, none⟩ = some (.int .i64 n.f1) ∧ W.cell? ⟨w.heap.size, 2, none⟩ = some (.string n.f2) ∧ W.cell? ⟨w.heap.size, 3, none⟩ = some (.slice (some ad) 2 c) ∧ W.cell? ad = some (.int .u8 a0) ∧ W.cell? ⟨ad.block, ad.off + 1, none⟩ = some (.int .i64 a1) ∧ W.cell? ⟨ad.block, ad.off + 2, none⟩ = some (.string a2) ∧ W.cell? ⟨ad.block, ad.off + 3, none⟩ = some (.slice B a3 d) ∧ W.cell? ⟨ad.block, ad.off + 4, none⟩ = some (.int .u8 b0) ∧ W.cell? ⟨ad.block, ad.off + 4 + 1, none⟩ = some (.int .i64 b1) ∧ W.cell? ⟨ad.block, ad.off + 4 + 2, none⟩ = some (.string b2) ∧ W.cell? ⟨ad.block, ad.off + 4 + 3, none⟩ = some (.slice B2 b3 d2))
    (first | exact allS _ (by assumption) | exact allS _ (below_drew1 (by assumption)) | exact allS _ (at_al _ (by assumption)) | exact allS _ (at_al _ (below_drew1 (by assumption))) | exact allS _ (at_al _ (at_al _ (by assumption))) | exact allS _ (at_al _ (at_al _ (below_drew1 (by assumption)))))
    (fail)
  · obtain ⟨W3, hW3⟩ : ∃ W3, W3 = ((W2.alloc (.cells #[.int .u8 a0, .int .i64 a1, .string a2, .slice B a3 d] 24)).alloc (.cells #[.int .u8 b0, .int .i64 b1, .string b2, .slice B2 b3 d2] 24)).drew := ⟨_, rfl⟩
    rw [← hW3]
    have hb3 : Below W0.heap.size W0 W3 := by rw [hW3]; exact (at_al _ (at_al _ HB2.out)).drew
    have k1 : W3.heap[W2.heap.size]? = some (.cells #[.int .u8 a0, .int .i64 a1, .string a2, .slice B a3 d] 24 (0, 0)) := by
      rw [hW3]
      show (World.alloc _ _).heap[W2.heap.size]? = _
      rw [Below.heap_alloc _ _ _ (by simp)]
      exact heap_alloc_new _ _
    have k2 : W3.heap[W2.heap.size + 1]? = some (.cells #[.int .u8 b0, .int .i64 b1, .string b2, .slice B2 b3 d2] 24 (0, 0)) := by
      rw [hW3]
      show (World.alloc _ _).heap[W2.heap.size + 1]? = _
      have e : (W2.alloc (.cells #[.int .u8 a0, .int .i64 a1, .string a2, .slice B a3 d] 24)).heap.size = W2.heap.size + 1 := by simp
      rw [← e]; exact heap_alloc_new _ _
    clear hW3
    obtain ⟨o0, o1, o2, o3, -, -, -, -, -, -, -, -⟩ := HAS.out _ hb3
    have p0 : W3.cell? ⟨W2.heap.size, 0, none⟩ = some (.int .u8 a0) := (blk_cell k1 0).trans rfl
    have p1 : W3.cell? ⟨W2.heap.size, 1, none⟩ = some (.int .i64 a1) := (blk_cell k1 1).trans rfl
    have p2 : W3.cell? ⟨W2.heap.size, 2, none⟩ = some (.string a2) := (blk_cell k1 2).trans rfl
    have p3 : W3.cell? ⟨W2.heap.size, 3, none⟩ = some (.slice B a3 d) := (blk_cell k1 3).trans rfl
    have q0 : W3.cell? ⟨W2.heap.size + 1, 0, none⟩ = some (.int .u8 b0) := (blk_cell k2 0).trans rfl
    have q1 : W3.cell? ⟨W2.heap.size + 1, 1, none⟩ = some (.int .i64 b1) := (blk_cell k2 1).trans rfl
    have q2 : W3.cell? ⟨W2.heap.size + 1, 2, none⟩ = some (.string b2) := (blk_cell k2 2).trans rfl
    have q3 : W3.cell? ⟨W2.heap.size + 1, 3, none⟩ = some (.slice B2 b3 d2) := (blk_cell k2 3).trans rfl
    clear k1 k2
    have allT : ∀ W, Below W3.heap.size W3 W → (W.cell? ⟨w.heap.size, 0, none⟩ = some (.int .u8 n.f0) ∧ W.cell? ⟨w.heap.size, 1, none⟩ = some (.int .i64 n.f1) ∧ W.cell? ⟨w.heap.size, 2, none⟩ = some (.string n.f2) ∧ W.cell? ⟨w.heap.size, 3, none⟩ = some (.slice (some ad) 2 c) ∧ W.cell? ⟨W2.heap.size, 0, none⟩ = some (.int .u8 a0) ∧ W.cell? ⟨W2.heap.size, 1, none⟩ = some (.int .i64 a1) ∧ W.cell? ⟨W2.heap.size, 2, none⟩ = some (.string a2) ∧ W.cell? ⟨W2.heap.size, 3, none⟩ = some (.slice B a3 d) ∧ W.cell? ⟨W2.heap.size + 1, 0, none⟩ = some (.int .u8 b0) ∧ W.cell? ⟨W2.heap.size + 1, 1, none⟩ = some (.int .i64 b1) ∧ W.cell? ⟨W2.heap.size + 1, 2, none⟩ = some (.string b2) ∧ W.cell? ⟨W2.heap.size + 1, 3, none⟩ = some (.slice B2 b3 d2)) := fun W h =>
      have k := fun {p : Addr} {v : Value} (z : W3.cell? p = some v) => (h.cell (World.block_lt_of_cell? W3 _ z)).trans z
      ⟨k o0, k o1, k o2, k o3, k p0, k p1, k p2, k p3, k q0, k q1, k q2, k q3⟩
    have HEX3 := Lib.hid (show ∀ W, Below W3.heap.size W3 W → Calls Tryd.prog 9 #[.agg #[.int .u8 a0, .int .i64 a1, .string a2, .slice B a3 d]] W fun e w' => e = .returned (.string S) ∧ Below W3.heap.size W3 w' from fun W h => (HEX.out W (hb3.trans (h.mono hb3.size))).mono (by rintro e w' ⟨rfl, h2⟩; exact ⟨rfl, h.trans (h2.mono h.size)⟩))
    have HEY3 := Lib.hid (show ∀ W, Below W3.heap.size W3 W → Calls Tryd.prog 9 #[.agg #[.int .u8 b0, .int .i64 b1, .string b2, .slice B2 b3 d2]] W fun e w' => e = .returned (.string S2) ∧ Below W3.heap.size W3 w' from fun W h => (HEY.out W (hb3.trans (h.mono hb3.size))).mono (by rintro e w' ⟨rfl, h2⟩; exact ⟨rfl, h.trans (h2.mono h.size)⟩))
    have HBX3 := Lib.hid (show ∀ W, Below W3.heap.size W3 W → Calls Tryd.prog 22 #[.agg #[.int .u8 a0, .int .i64 a1, .string a2, .slice B a3 d]] W fun e w' => e = .returned (.bool ba) ∧ Below W3.heap.size W3 w' from fun W h => (HBX.out W (hb3.trans (h.mono hb3.size))).mono (by rintro e w' ⟨rfl, h2⟩; exact ⟨rfl, h.trans (h2.mono h.size)⟩))
    have HBY3 := Lib.hid (show ∀ W, Below W3.heap.size W3 W → Calls Tryd.prog 22 #[.agg #[.int .u8 b0, .int .i64 b1, .string b2, .slice B2 b3 d2]] W fun e w' => e = .returned (.bool bb) ∧ Below W3.heap.size W3 w' from fun W h => (HBY.out W (hb3.trans (h.mono hb3.size))).mono (by rintro e w' ⟨rfl, h2⟩; exact ⟨rfl, h.trans (h2.mono h.size)⟩))
    have HLN3 := Lib.hid (show ∀ W, Below W3.heap.size W3 W → Calls Tryd.prog 24 #[.agg #[.int .u8 n.f0, .int .i64 n.f1, .string n.f2, .slice (some ad) 2 c]] W fun e w' => e = .returned (.int .i64 lv) ∧ Below W3.heap.size W3 w' from fun W h => (HLN.out W (hb3.trans (h.mono hb3.size))).mono (by rintro e w' ⟨rfl, h2⟩; exact ⟨rfl, h.trans (h2.mono h.size)⟩))
    have HLX3 := Lib.hid (show ba = true → ∀ W, Below W3.heap.size W3 W → Calls Tryd.prog 24 #[.agg #[.int .u8 a0, .int .i64 a1, .string a2, .slice B a3 d]] W fun e w' => e = .returned (.int .i64 la) ∧ Below W3.heap.size W3 w' from fun hh => fun W h => (HLX.out hh W (hb3.trans (h.mono hb3.size))).mono (by rintro e w' ⟨rfl, h2⟩; exact ⟨rfl, h.trans (h2.mono h.size)⟩))
    have HLY3 := Lib.hid (show bb = true → ∀ W, Below W3.heap.size W3 W → Calls Tryd.prog 24 #[.agg #[.int .u8 b0, .int .i64 b1, .string b2, .slice B2 b3 d2]] W fun e w' => e = .returned (.int .i64 lb) ∧ Below W3.heap.size W3 w' from fun hh => fun W h => (HLY.out hh W (hb3.trans (h.mono hb3.size))).mono (by rintro e w' ⟨rfl, h2⟩; exact ⟨rfl, h.trans (h2.mono h.size)⟩))
    have HWX3 := Lib.hid (show ∀ W, Below W3.heap.size W3 W → Calls Tryd.prog 23 #[.string S, .bool (ba && decide (la < lv))] W fun e w' => e = .returned (.string T) ∧ Below W3.heap.size W3 w' from fun W h => (HWX.out W (hb3.trans (h.mono hb3.size))).mono (by rintro e w' ⟨rfl, h2⟩; exact ⟨rfl, h.trans (h2.mono h.size)⟩))
    have HWY3 := Lib.hid (show ∀ W, Below W3.heap.size W3 W → Calls Tryd.prog 23 #[.string S2, .bool (bb && decide (lb ≤ lv))] W fun e w' => e = .returned (.string T2) ∧ Below W3.heap.size W3 w' from fun W h => (HWY.out W (hb3.trans (h.mono hb3.size))).mono (by rintro e w' ⟨rfl, h2⟩; exact ⟨rfl, h.trans (h2.mono h.size)⟩))
    have HB3 := Lib.hid hb3
    have HAT := Lib.hid allT
    clear HEX HEY HBX HBY HLN HLX HLY HWX HWY HBN HSY HAS at_al at_set hb3 allT allS hb2
    obtain ⟨zz, hzz⟩ : ∃ z, z = W2.heap.size := ⟨_, rfl⟩
    rw [← hzz] at p0 p1 p2 p3 q0 q1 q2 q3 HAT ⊢
    clear hzz
    cases ba <;> cases bb
    · have HWX4 := Lib.hid (show ∀ W, Below W3.heap.size W3 W → Calls Tryd.prog 23 #[.string S, .bool (false)] W fun e w' => e = .returned (.string T) ∧ Below W3.heap.size W3 w' from HWX3.out)
      have HWY4 := Lib.hid (show ∀ W, Below W3.heap.size W3 W → Calls Tryd.prog 23 #[.string S2, .bool (false)] W fun e w' => e = .returned (.string T2) ∧ Below W3.heap.size W3 w' from HWY3.out)
      clear HWX3 HWY3
      go_wp2_with fail
      have allT := HAT.out
      have hrefl : Below W3.heap.size W3 W3 := Below.refl _ _
      refine wp_region_held_drew (S := fun W => W.cell? ⟨w.heap.size, 0, none⟩ = some (.int .u8 n.f0) ∧ W.cell? ⟨w.heap.size, 1, none⟩ = some (.int .i64 n.f1) ∧ W.cell? ⟨w.heap.size, 2, none⟩ = some (.string n.f2) ∧ W.cell? ⟨w.heap.size, 3, none⟩ = some (.slice (some ad) 2 c) ∧ W.cell? ⟨zz, 0, none⟩ = some (.int .u8 a0) ∧ W.cell? ⟨zz, 1, none⟩ = some (.int .i64 a1) ∧ W.cell? ⟨zz, 2, none⟩ = some (.string a2) ∧ W.cell? ⟨zz, 3, none⟩ = some (.slice B a3 d) ∧ W.cell? ⟨zz + 1, 0, none⟩ = some (.int .u8 b0) ∧ W.cell? ⟨zz + 1, 1, none⟩ = some (.int .i64 b1) ∧ W.cell? ⟨zz + 1, 2, none⟩ = some (.string b2) ∧ W.cell? ⟨zz + 1, 3, none⟩ = some (.slice B2 b3 d2)) (by kernel_rfl) (allT _ (below_drew1 hrefl)) (fun hH => ?_)
      have hcur := below_drew1 hrefl
      refine wpAnyH_take (i := 0) (v := ?v101) rfl (by kernel_rfl) (by kernel_rfl) (by kernel_rfl) (fun _ _ _ h => h) (Or.inl ⟨by rfl, ?hy101⟩) hH ?rest101
      case hy101 => (intro w hSw; (try dsimp only at hSw); go_simp; try with_reducible rfl)
      try simp only [List.getElem_toArray, List.getElem_cons_succ, List.getElem_cons_zero, Act.put, List.setIfInBounds_toArray, List.set_cons_zero, List.set_cons_succ]
      refine wpAnyH_take (i := 2) (v := ?v102) rfl (by kernel_rfl) (by kernel_rfl) (by kernel_rfl) (fun _ _ _ h => h) (Or.inl ⟨by rfl, ?hy102⟩) hH ?rest102
      case hy102 => (intro w hSw; (try dsimp only at hSw); go_simp; try with_reducible rfl)
      try simp only [List.getElem_toArray, List.getElem_cons_succ, List.getElem_cons_zero, Act.put, List.setIfInBounds_toArray, List.set_cons_zero, List.set_cons_succ]
      refine wpAnyH_take (i := 13) (v := ?v103) rfl (by kernel_rfl) (by kernel_rfl) (by kernel_rfl) (fun _ _ _ h => h) (Or.inl ⟨by rfl, ?hy103⟩) hH ?rest103
      case hy103 => (intro w hSw; (try dsimp only at hSw); go_simp; try with_reducible rfl)
      try simp only [List.getElem_toArray, List.getElem_cons_succ, List.getElem_cons_zero, Act.put, List.setIfInBounds_toArray, List.set_cons_zero, List.set_cons_succ]
      refine wpAnyH_take (i := 16) (v := ?v104) rfl (by kernel_rfl) (by kernel_rfl) (by kernel_rfl) (fun _ _ _ h => h) (Or.inl ⟨by rfl, ?hy104⟩) hH ?rest104
      case hy104 => (intro w hSw; (try dsimp only at hSw); go_simp; try with_reducible rfl)
      try simp only [List.getElem_toArray, List.getElem_cons_succ, List.getElem_cons_zero, Act.put, List.setIfInBounds_toArray, List.set_cons_zero, List.set_cons_succ]
      refine wpAnyH_take (i := 18) (v := ?v105) rfl (by kernel_rfl) (by kernel_rfl) (by kernel_rfl) (fun _ _ _ h => h) (Or.inl ⟨by rfl, ?hy105⟩) hH ?rest105
      case hy105 => (intro w hSw; (try dsimp only at hSw); go_simp; try with_reducible rfl)
      try simp only [List.getElem_toArray, List.getElem_cons_succ, List.getElem_cons_zero, Act.put, List.setIfInBounds_toArray, List.set_cons_zero, List.set_cons_succ]
      refine wpAnyH_ready (rs := [1]) (by kernel_rfl) (by simp) ?_
      refine AllReadyH.cons rfl (fun K hK => ?_) AllReadyH.nil
      go_simp
      go_at_call 9
      (with_reducible refine (HEX3.out _ hcur).mono ?_)
      clear hcur hH
      rintro e w' ⟨rfl, hcur⟩
      have hH := allT _ hcur
      refine hK.out _ _ hH (fun _ => ?_)
      clear hK K
      try simp only [List.getElem_toArray, List.getElem_cons_succ, List.getElem_cons_zero, Act.put, List.setIfInBounds_toArray, List.set_cons_zero, List.set_cons_succ]
      refine wpAnyH_ready (rs := [3]) (by kernel_rfl) (by simp) ?_
      refine AllReadyH.cons rfl (fun K hK => ?_) AllReadyH.nil
      go_simp
      go_at_call 22
      (with_reducible refine (HBX3.out _ hcur).mono ?_)
      clear hcur hH
      rintro e w' ⟨rfl, hcur⟩
      have hH := allT _ hcur
      refine hK.out _ _ hH (fun _ => ?_)
      clear hK K
      try simp only [List.getElem_toArray, List.getElem_cons_succ, List.getElem_cons_zero, Act.put, List.setIfInBounds_toArray, List.set_cons_zero, List.set_cons_succ]
      refine wpAnyH_take (i := 4) (v := ?v106) rfl (by kernel_rfl) (by kernel_rfl) (by kernel_rfl) (fun _ _ _ h => h) (Or.inl ⟨by rfl, ?hy106⟩) hH ?rest106
      case hy106 => (intro w hSw; (try dsimp only at hSw); go_simp; try with_reducible rfl)
      try simp only [List.getElem_toArray, List.getElem_cons_succ, List.getElem_cons_zero, Act.put, List.setIfInBounds_toArray, List.set_cons_zero, List.set_cons_succ]
      refine wpAnyH_take (i := 5) (v := undef) rfl (by kernel_rfl) (by kernel_rfl) (by kernel_rfl) (fun _ _ _ h => h) (Or.inr ⟨by rfl, rfl⟩) hH ?rest107
      try simp only [List.getElem_toArray, List.getElem_cons_succ, List.getElem_cons_zero, Act.put, List.setIfInBounds_toArray, List.set_cons_zero, List.set_cons_succ]
      refine wpAnyH_take (i := 7) (v := undef) rfl (by kernel_rfl) (by kernel_rfl) (by kernel_rfl) (fun _ _ _ h => h) (Or.inr ⟨by rfl, rfl⟩) hH ?rest108
      try simp only [List.getElem_toArray, List.getElem_cons_succ, List.getElem_cons_zero, Act.put, List.setIfInBounds_toArray, List.set_cons_zero, List.set_cons_succ]
      refine wpAnyH_ready (rs := [6]) (by kernel_rfl) (by simp) ?_
      refine AllReadyH.cons rfl (fun K hK => ?_) AllReadyH.nil
      go_simp
      refine hK.out _ _ hH (fun _ => ?_)
      clear hK K
      try simp only [List.getElem_toArray, List.getElem_cons_succ, List.getElem_cons_zero, Act.put, List.setIfInBounds_toArray, List.set_cons_zero, List.set_cons_succ]
      refine wpAnyH_ready (rs := [8]) (by kernel_rfl) (by simp) ?_
      refine AllReadyH.cons rfl (fun K hK => ?_) AllReadyH.nil
      go_simp
      refine hK.out _ _ hH (fun _ => ?_)
      clear hK K
      try simp only [List.getElem_toArray, List.getElem_cons_succ, List.getElem_cons_zero, Act.put, List.setIfInBounds_toArray, List.set_cons_zero, List.set_cons_succ]
      refine wpAnyH_take (i := 9) (v := undef) rfl (by kernel_rfl) (by kernel_rfl) (by kernel_rfl) (fun _ _ _ h => h) (Or.inr ⟨by rfl, rfl⟩) hH ?rest109
      try simp only [List.getElem_toArray, List.getElem_cons_succ, List.getElem_cons_zero, Act.put, List.setIfInBounds_toArray, List.set_cons_zero, List.set_cons_succ]
      refine wpAnyH_take (i := 10) (v := ?v110) rfl (by kernel_rfl) (by kernel_rfl) (by kernel_rfl) (fun _ _ _ h => h) (Or.inl ⟨by rfl, ?hy110⟩) hH ?rest110
      case hy110 => (intro w hSw; (try dsimp only at hSw); go_simp; try with_reducible rfl)
      try simp only [List.getElem_toArray, List.getElem_cons_succ, List.getElem_cons_zero, Act.put, List.setIfInBounds_toArray, List.set_cons_zero, List.set_cons_succ]
      refine wpAnyH_ready (rs := [11]) (by kernel_rfl) (by simp) ?_
      refine AllReadyH.cons rfl (fun K hK => ?_) AllReadyH.nil
      go_simp
      go_at_call 23
      (with_reducible refine (HWX4.out _ hcur).mono ?_)
      clear hcur hH
      rintro e w' ⟨rfl, hcur⟩
      have hH := allT _ hcur
      refine hK.out _ _ hH (fun _ => ?_)
      clear hK K
      try simp only [List.getElem_toArray, List.getElem_cons_succ, List.getElem_cons_zero, Act.put, List.setIfInBounds_toArray, List.set_cons_zero, List.set_cons_succ]
      refine wpAnyH_take (i := 12) (v := ?v111) rfl (by kernel_rfl) (by kernel_rfl) (by kernel_rfl) (fun _ _ _ h => h) (Or.inl ⟨by rfl, ?hy111⟩) hH ?rest111
      case hy111 => (intro w hSw; (try dsimp only at hSw); go_simp; try with_reducible rfl)
      try simp only [List.getElem_toArray, List.getElem_cons_succ, List.getElem_cons_zero, Act.put, List.setIfInBounds_toArray, List.set_cons_zero, List.set_cons_succ]
      refine wpAnyH_take (i := 14) (v := ?v112) rfl (by kernel_rfl) (by kernel_rfl) (by kernel_rfl) (fun _ _ _ h => h) (Or.inl ⟨by rfl, ?hy112⟩) hH ?rest112
      case hy112 => (intro w hSw; (try dsimp only at hSw); go_simp; try with_reducible rfl)
      try simp only [List.getElem_toArray, List.getElem_cons_succ, List.getElem_cons_zero, Act.put, List.setIfInBounds_toArray, List.set_cons_zero, List.set_cons_succ]
      refine wpAnyH_take (i := 15) (v := ?v113) rfl (by kernel_rfl) (by kernel_rfl) (by kernel_rfl) (fun _ _ _ h => h) (Or.inl ⟨by rfl, ?hy113⟩) hH ?rest113
      case hy113 => (intro w hSw; (try dsimp only at hSw); go_simp; try with_reducible rfl)
      try simp only [List.getElem_toArray, List.getElem_cons_succ, List.getElem_cons_zero, Act.put, List.setIfInBounds_toArray, List.set_cons_zero, List.set_cons_succ]
      refine wpAnyH_ready (rs := [17]) (by kernel_rfl) (by simp) ?_
      refine AllReadyH.cons rfl (fun K hK => ?_) AllReadyH.nil
      go_simp
      go_at_call 9
      (with_reducible refine (HEY3.out _ hcur).mono ?_)
      clear hcur hH
      rintro e w' ⟨rfl, hcur⟩
      have hH := allT _ hcur
      refine hK.out _ _ hH (fun _ => ?_)
      clear hK K
      try simp only [List.getElem_toArray, List.getElem_cons_succ, List.getElem_cons_zero, Act.put, List.setIfInBounds_toArray, List.set_cons_zero, List.set_cons_succ]
      refine wpAnyH_ready (rs := [19]) (by kernel_rfl) (by simp) ?_
      refine AllReadyH.cons rfl (fun K hK => ?_) AllReadyH.nil
      go_simp
      go_at_call 22
      (with_reducible refine (HBY3.out _ hcur).mono ?_)
      clear hcur hH
      rintro e w' ⟨rfl, hcur⟩
      have hH := allT _ hcur
      refine hK.out _ _ hH (fun _ => ?_)
      clear hK K
      try simp only [List.getElem_toArray, List.getElem_cons_succ, List.getElem_cons_zero, Act.put, List.setIfInBounds_toArray, List.set_cons_zero, List.set_cons_succ]
      refine wpAnyH_take (i := 20) (v := ?v114) rfl (by kernel_rfl) (by kernel_rfl) (by kernel_rfl) (fun _ _ _ h => h) (Or.inl ⟨by rfl, ?hy114⟩) hH ?rest114
      case hy114 => (intro w hSw; (try dsimp only at hSw); go_simp; try with_reducible rfl)
      try simp only [List.getElem_toArray, List.getElem_cons_succ, List.getElem_cons_zero, Act.put, List.setIfInBounds_toArray, List.set_cons_zero, List.set_cons_succ]
      refine wpAnyH_take (i := 21) (v := undef) rfl (by kernel_rfl) (by kernel_rfl) (by kernel_rfl) (fun _ _ _ h => h) (Or.inr ⟨by rfl, rfl⟩) hH ?rest115
      try simp only [List.getElem_toArray, List.getElem_cons_succ, List.getElem_cons_zero, Act.put, List.setIfInBounds_toArray, List.set_cons_zero, List.set_cons_succ]
      refine wpAnyH_take (i := 23) (v := undef) rfl (by kernel_rfl) (by kernel_rfl) (by kernel_rfl) (fun _ _ _ h => h) (Or.inr ⟨by rfl, rfl⟩) hH ?rest116
      try simp only [List.getElem_toArray, List.getElem_cons_succ, List.getElem_cons_zero, Act.put, List.setIfInBounds_toArray, List.set_cons_zero, List.set_cons_succ]
      refine wpAnyH_ready (rs := [22]) (by kernel_rfl) (by simp) ?_
      refine AllReadyH.cons rfl (fun K hK => ?_) AllReadyH.nil
      go_simp
      refine hK.out _ _ hH (fun _ => ?_)
      clear hK K
      try simp only [List.getElem_toArray, List.getElem_cons_succ, List.getElem_cons_zero, Act.put, List.setIfInBounds_toArray, List.set_cons_zero, List.set_cons_succ]
      refine wpAnyH_ready (rs := [24]) (by kernel_rfl) (by simp) ?_
      refine AllReadyH.cons rfl (fun K hK => ?_) AllReadyH.nil
      go_simp
      refine hK.out _ _ hH (fun _ => ?_)
      clear hK K
      try simp only [List.getElem_toArray, List.getElem_cons_succ, List.getElem_cons_zero, Act.put, List.setIfInBounds_toArray, List.set_cons_zero, List.set_cons_succ]
      refine wpAnyH_take (i := 25) (v := undef) rfl (by kernel_rfl) (by kernel_rfl) (by kernel_rfl) (fun _ _ _ h => h) (Or.inr ⟨by rfl, rfl⟩) hH ?rest117
      try simp only [List.getElem_toArray, List.getElem_cons_succ, List.getElem_cons_zero, Act.put, List.setIfInBounds_toArray, List.set_cons_zero, List.set_cons_succ]
      refine wpAnyH_take (i := 26) (v := ?v118) rfl (by kernel_rfl) (by kernel_rfl) (by kernel_rfl) (fun _ _ _ h => h) (Or.inl ⟨by rfl, ?hy118⟩) hH ?rest118
      case hy118 => (intro w hSw; (try dsimp only at hSw); go_simp; try with_reducible rfl)
      try simp only [List.getElem_toArray, List.getElem_cons_succ, List.getElem_cons_zero, Act.put, List.setIfInBounds_toArray, List.set_cons_zero, List.set_cons_succ]
      refine wpAnyH_ready (rs := [27]) (by kernel_rfl) (by simp) ?_
      refine AllReadyH.cons rfl (fun K hK => ?_) AllReadyH.nil
      go_simp
      go_at_call 23
      (with_reducible refine (HWY4.out _ hcur).mono ?_)
      clear hcur hH
      rintro e w' ⟨rfl, hcur⟩
      have hH := allT _ hcur
      refine hK.out _ _ hH (fun _ => ?_)
      clear hK K
      try simp only [List.getElem_toArray, List.getElem_cons_succ, List.getElem_cons_zero, Act.put, List.setIfInBounds_toArray, List.set_cons_zero, List.set_cons_succ]
      refine wpAnyH_take (i := 28) (v := ?v119) rfl (by kernel_rfl) (by kernel_rfl) (by kernel_rfl) (fun _ _ _ h => h) (Or.inl ⟨by rfl, ?hy119⟩) hH ?rest119
      case hy119 => (intro w hSw; (try dsimp only at hSw); go_simp; try with_reducible rfl)
      try simp only [List.getElem_toArray, List.getElem_cons_succ, List.getElem_cons_zero, Act.put, List.setIfInBounds_toArray, List.set_cons_zero, List.set_cons_succ]
      refine wpAnyH_take (i := 29) (v := ?v120) rfl (by kernel_rfl) (by kernel_rfl) (by kernel_rfl) (fun _ _ _ h => h) (Or.inl ⟨by rfl, ?hy120⟩) hH ?rest120
      case hy120 => (intro w hSw; (try dsimp only at hSw); go_simp; try with_reducible rfl)
      try simp only [List.getElem_toArray, List.getElem_cons_succ, List.getElem_cons_zero, Act.put, List.setIfInBounds_toArray, List.set_cons_zero, List.set_cons_succ]
      refine wpAnyH_done (by kernel_rfl) ?_ _
      go_wp2
      go_ret
      refine ⟨?_, HB.out.trans ((HB3.out.trans (Below.mono hcur HB3.out.size)).mono HB.out.size)⟩
      rw [HR.out]
      show Ending.returned (Value.string _) = _
      congr 2
      all_goals exact bytes_eq (by rw [HS.out.1, HS.out.2.1, HS.out.2.2]; simp [ByteArray.data_append])
    · have HWX4 := Lib.hid (show ∀ W, Below W3.heap.size W3 W → Calls Tryd.prog 23 #[.string S, .bool (false)] W fun e w' => e = .returned (.string T) ∧ Below W3.heap.size W3 w' from HWX3.out)
      have HWY4 := Lib.hid (show ∀ W, Below W3.heap.size W3 W → Calls Tryd.prog 23 #[.string S2, .bool (decide (lb ≤ lv))] W fun e w' => e = .returned (.string T2) ∧ Below W3.heap.size W3 w' from HWY3.out)
      clear HWX3 HWY3
      go_wp2_with fail
      have allT := HAT.out
      have hrefl : Below W3.heap.size W3 W3 := Below.refl _ _
      refine wp_region_held_drew (S := fun W => W.cell? ⟨w.heap.size, 0, none⟩ = some (.int .u8 n.f0) ∧ W.cell? ⟨w.heap.size, 1, none⟩ = some (.int .i64 n.f1) ∧ W.cell? ⟨w.heap.size, 2, none⟩ = some (.string n.f2) ∧ W.cell? ⟨w.heap.size, 3, none⟩ = some (.slice (some ad) 2 c) ∧ W.cell? ⟨zz, 0, none⟩ = some (.int .u8 a0) ∧ W.cell? ⟨zz, 1, none⟩ = some (.int .i64 a1) ∧ W.cell? ⟨zz, 2, none⟩ = some (.string a2) ∧ W.cell? ⟨zz, 3, none⟩ = some (.slice B a3 d) ∧ W.cell? ⟨zz + 1, 0, none⟩ = some (.int .u8 b0) ∧ W.cell? ⟨zz + 1, 1, none⟩ = some (.int .i64 b1) ∧ W.cell? ⟨zz + 1, 2, none⟩ = some (.string b2) ∧ W.cell? ⟨zz + 1, 3, none⟩ = some (.slice B2 b3 d2)) (by kernel_rfl) (allT _ (below_drew1 hrefl)) (fun hH => ?_)
      have hcur := below_drew1 hrefl
      refine wpAnyH_take (i := 0) (v := ?v121) rfl (by kernel_rfl) (by kernel_rfl) (by kernel_rfl) (fun _ _ _ h => h) (Or.inl ⟨by rfl, ?hy121⟩) hH ?rest121
      case hy121 => (intro w hSw; (try dsimp only at hSw); go_simp; try with_reducible rfl)
      try simp only [List.getElem_toArray, List.getElem_cons_succ, List.getElem_cons_zero, Act.put, List.setIfInBounds_toArray, List.set_cons_zero, List.set_cons_succ]
      refine wpAnyH_take (i := 2) (v := ?v122) rfl (by kernel_rfl) (by kernel_rfl) (by kernel_rfl) (fun _ _ _ h => h) (Or.inl ⟨by rfl, ?hy122⟩) hH ?rest122
      case hy122 => (intro w hSw; (try dsimp only at hSw); go_simp; try with_reducible rfl)
      try simp only [List.getElem_toArray, List.getElem_cons_succ, List.getElem_cons_zero, Act.put, List.setIfInBounds_toArray, List.set_cons_zero, List.set_cons_succ]
      refine wpAnyH_take (i := 13) (v := ?v123) rfl (by kernel_rfl) (by kernel_rfl) (by kernel_rfl) (fun _ _ _ h => h) (Or.inl ⟨by rfl, ?hy123⟩) hH ?rest123
      case hy123 => (intro w hSw; (try dsimp only at hSw); go_simp; try with_reducible rfl)
      try simp only [List.getElem_toArray, List.getElem_cons_succ, List.getElem_cons_zero, Act.put, List.setIfInBounds_toArray, List.set_cons_zero, List.set_cons_succ]
      refine wpAnyH_take (i := 16) (v := ?v124) rfl (by kernel_rfl) (by kernel_rfl) (by kernel_rfl) (fun _ _ _ h => h) (Or.inl ⟨by rfl, ?hy124⟩) hH ?rest124
      case hy124 => (intro w hSw; (try dsimp only at hSw); go_simp; try with_reducible rfl)
      try simp only [List.getElem_toArray, List.getElem_cons_succ, List.getElem_cons_zero, Act.put, List.setIfInBounds_toArray, List.set_cons_zero, List.set_cons_succ]
      refine wpAnyH_take (i := 18) (v := ?v125) rfl (by kernel_rfl) (by kernel_rfl) (by kernel_rfl) (fun _ _ _ h => h) (Or.inl ⟨by rfl, ?hy125⟩) hH ?rest125
      case hy125 => (intro w hSw; (try dsimp only at hSw); go_simp; try with_reducible rfl)
      try simp only [List.getElem_toArray, List.getElem_cons_succ, List.getElem_cons_zero, Act.put, List.setIfInBounds_toArray, List.set_cons_zero, List.set_cons_succ]
      refine wpAnyH_ready (rs := [1]) (by kernel_rfl) (by simp) ?_
      refine AllReadyH.cons rfl (fun K hK => ?_) AllReadyH.nil
      go_simp
      go_at_call 9
      (with_reducible refine (HEX3.out _ hcur).mono ?_)
      clear hcur hH
      rintro e w' ⟨rfl, hcur⟩
      have hH := allT _ hcur
      refine hK.out _ _ hH (fun _ => ?_)
      clear hK K
      try simp only [List.getElem_toArray, List.getElem_cons_succ, List.getElem_cons_zero, Act.put, List.setIfInBounds_toArray, List.set_cons_zero, List.set_cons_succ]
      refine wpAnyH_ready (rs := [3]) (by kernel_rfl) (by simp) ?_
      refine AllReadyH.cons rfl (fun K hK => ?_) AllReadyH.nil
      go_simp
      go_at_call 22
      (with_reducible refine (HBX3.out _ hcur).mono ?_)
      clear hcur hH
      rintro e w' ⟨rfl, hcur⟩
      have hH := allT _ hcur
      refine hK.out _ _ hH (fun _ => ?_)
      clear hK K
      try simp only [List.getElem_toArray, List.getElem_cons_succ, List.getElem_cons_zero, Act.put, List.setIfInBounds_toArray, List.set_cons_zero, List.set_cons_succ]
      refine wpAnyH_take (i := 4) (v := ?v126) rfl (by kernel_rfl) (by kernel_rfl) (by kernel_rfl) (fun _ _ _ h => h) (Or.inl ⟨by rfl, ?hy126⟩) hH ?rest126
      case hy126 => (intro w hSw; (try dsimp only at hSw); go_simp; try with_reducible rfl)
      try simp only [List.getElem_toArray, List.getElem_cons_succ, List.getElem_cons_zero, Act.put, List.setIfInBounds_toArray, List.set_cons_zero, List.set_cons_succ]
      refine wpAnyH_take (i := 5) (v := undef) rfl (by kernel_rfl) (by kernel_rfl) (by kernel_rfl) (fun _ _ _ h => h) (Or.inr ⟨by rfl, rfl⟩) hH ?rest127
      try simp only [List.getElem_toArray, List.getElem_cons_succ, List.getElem_cons_zero, Act.put, List.setIfInBounds_toArray, List.set_cons_zero, List.set_cons_succ]
      refine wpAnyH_take (i := 7) (v := undef) rfl (by kernel_rfl) (by kernel_rfl) (by kernel_rfl) (fun _ _ _ h => h) (Or.inr ⟨by rfl, rfl⟩) hH ?rest128
      try simp only [List.getElem_toArray, List.getElem_cons_succ, List.getElem_cons_zero, Act.put, List.setIfInBounds_toArray, List.set_cons_zero, List.set_cons_succ]
      refine wpAnyH_ready (rs := [6]) (by kernel_rfl) (by simp) ?_
      refine AllReadyH.cons rfl (fun K hK => ?_) AllReadyH.nil
      go_simp
      refine hK.out _ _ hH (fun _ => ?_)
      clear hK K
      try simp only [List.getElem_toArray, List.getElem_cons_succ, List.getElem_cons_zero, Act.put, List.setIfInBounds_toArray, List.set_cons_zero, List.set_cons_succ]
      refine wpAnyH_ready (rs := [8]) (by kernel_rfl) (by simp) ?_
      refine AllReadyH.cons rfl (fun K hK => ?_) AllReadyH.nil
      go_simp
      refine hK.out _ _ hH (fun _ => ?_)
      clear hK K
      try simp only [List.getElem_toArray, List.getElem_cons_succ, List.getElem_cons_zero, Act.put, List.setIfInBounds_toArray, List.set_cons_zero, List.set_cons_succ]
      refine wpAnyH_take (i := 9) (v := undef) rfl (by kernel_rfl) (by kernel_rfl) (by kernel_rfl) (fun _ _ _ h => h) (Or.inr ⟨by rfl, rfl⟩) hH ?rest129
      try simp only [List.getElem_toArray, List.getElem_cons_succ, List.getElem_cons_zero, Act.put, List.setIfInBounds_toArray, List.set_cons_zero, List.set_cons_succ]
      refine wpAnyH_take (i := 10) (v := ?v130) rfl (by kernel_rfl) (by kernel_rfl) (by kernel_rfl) (fun _ _ _ h => h) (Or.inl ⟨by rfl, ?hy130⟩) hH ?rest130
      case hy130 => (intro w hSw; (try dsimp only at hSw); go_simp; try with_reducible rfl)
      try simp only [List.getElem_toArray, List.getElem_cons_succ, List.getElem_cons_zero, Act.put, List.setIfInBounds_toArray, List.set_cons_zero, List.set_cons_succ]
      refine wpAnyH_ready (rs := [11]) (by kernel_rfl) (by simp) ?_
      refine AllReadyH.cons rfl (fun K hK => ?_) AllReadyH.nil
      go_simp
      go_at_call 23
      (with_reducible refine (HWX4.out _ hcur).mono ?_)
      clear hcur hH
      rintro e w' ⟨rfl, hcur⟩
      have hH := allT _ hcur
      refine hK.out _ _ hH (fun _ => ?_)
      clear hK K
      try simp only [List.getElem_toArray, List.getElem_cons_succ, List.getElem_cons_zero, Act.put, List.setIfInBounds_toArray, List.set_cons_zero, List.set_cons_succ]
      refine wpAnyH_take (i := 12) (v := ?v131) rfl (by kernel_rfl) (by kernel_rfl) (by kernel_rfl) (fun _ _ _ h => h) (Or.inl ⟨by rfl, ?hy131⟩) hH ?rest131
      case hy131 => (intro w hSw; (try dsimp only at hSw); go_simp; try with_reducible rfl)
      try simp only [List.getElem_toArray, List.getElem_cons_succ, List.getElem_cons_zero, Act.put, List.setIfInBounds_toArray, List.set_cons_zero, List.set_cons_succ]
      refine wpAnyH_take (i := 14) (v := ?v132) rfl (by kernel_rfl) (by kernel_rfl) (by kernel_rfl) (fun _ _ _ h => h) (Or.inl ⟨by rfl, ?hy132⟩) hH ?rest132
      case hy132 => (intro w hSw; (try dsimp only at hSw); go_simp; try with_reducible rfl)
      try simp only [List.getElem_toArray, List.getElem_cons_succ, List.getElem_cons_zero, Act.put, List.setIfInBounds_toArray, List.set_cons_zero, List.set_cons_succ]
      refine wpAnyH_take (i := 15) (v := ?v133) rfl (by kernel_rfl) (by kernel_rfl) (by kernel_rfl) (fun _ _ _ h => h) (Or.inl ⟨by rfl, ?hy133⟩) hH ?rest133
      case hy133 => (intro w hSw; (try dsimp only at hSw); go_simp; try with_reducible rfl)
      try simp only [List.getElem_toArray, List.getElem_cons_succ, List.getElem_cons_zero, Act.put, List.setIfInBounds_toArray, List.set_cons_zero, List.set_cons_succ]
      refine wpAnyH_ready (rs := [17]) (by kernel_rfl) (by simp) ?_
      refine AllReadyH.cons rfl (fun K hK => ?_) AllReadyH.nil
      go_simp
      go_at_call 9
      (with_reducible refine (HEY3.out _ hcur).mono ?_)
      clear hcur hH
      rintro e w' ⟨rfl, hcur⟩
      have hH := allT _ hcur
      refine hK.out _ _ hH (fun _ => ?_)
      clear hK K
      try simp only [List.getElem_toArray, List.getElem_cons_succ, List.getElem_cons_zero, Act.put, List.setIfInBounds_toArray, List.set_cons_zero, List.set_cons_succ]
      refine wpAnyH_ready (rs := [19]) (by kernel_rfl) (by simp) ?_
      refine AllReadyH.cons rfl (fun K hK => ?_) AllReadyH.nil
      go_simp
      go_at_call 22
      (with_reducible refine (HBY3.out _ hcur).mono ?_)
      clear hcur hH
      rintro e w' ⟨rfl, hcur⟩
      have hH := allT _ hcur
      refine hK.out _ _ hH (fun _ => ?_)
      clear hK K
      try simp only [List.getElem_toArray, List.getElem_cons_succ, List.getElem_cons_zero, Act.put, List.setIfInBounds_toArray, List.set_cons_zero, List.set_cons_succ]
      refine wpAnyH_take (i := 20) (v := ?v134) rfl (by kernel_rfl) (by kernel_rfl) (by kernel_rfl) (fun _ _ _ h => h) (Or.inl ⟨by rfl, ?hy134⟩) hH ?rest134
      case hy134 => (intro w hSw; (try dsimp only at hSw); go_simp; try with_reducible rfl)
      try simp only [List.getElem_toArray, List.getElem_cons_succ, List.getElem_cons_zero, Act.put, List.setIfInBounds_toArray, List.set_cons_zero, List.set_cons_succ]
      refine wpAnyH_take (i := 21) (v := ?v135) rfl (by kernel_rfl) (by kernel_rfl) (by kernel_rfl) (fun _ _ _ h => h) (Or.inl ⟨by rfl, ?hy135⟩) hH ?rest135
      case hy135 => (intro w hSw; (try dsimp only at hSw); go_simp; try with_reducible rfl)
      try simp only [List.getElem_toArray, List.getElem_cons_succ, List.getElem_cons_zero, Act.put, List.setIfInBounds_toArray, List.set_cons_zero, List.set_cons_succ]
      refine wpAnyH_take (i := 23) (v := ?v136) rfl (by kernel_rfl) (by kernel_rfl) (by kernel_rfl) (fun _ _ _ h => h) (Or.inl ⟨by rfl, ?hy136⟩) hH ?rest136
      case hy136 => (intro w hSw; (try dsimp only at hSw); go_simp; try with_reducible rfl)
      try simp only [List.getElem_toArray, List.getElem_cons_succ, List.getElem_cons_zero, Act.put, List.setIfInBounds_toArray, List.set_cons_zero, List.set_cons_succ]
      refine wpAnyH_ready (rs := [22]) (by kernel_rfl) (by simp) ?_
      refine AllReadyH.cons rfl (fun K hK => ?_) AllReadyH.nil
      go_simp
      go_at_call 24
      (with_reducible refine (HLY3.out (by first | trivial | rfl) _ hcur).mono ?_)
      clear hcur hH
      rintro e w' ⟨rfl, hcur⟩
      have hH := allT _ hcur
      refine hK.out _ _ hH (fun _ => ?_)
      clear hK K
      try simp only [List.getElem_toArray, List.getElem_cons_succ, List.getElem_cons_zero, Act.put, List.setIfInBounds_toArray, List.set_cons_zero, List.set_cons_succ]
      refine wpAnyH_ready (rs := [24]) (by kernel_rfl) (by simp) ?_
      refine AllReadyH.cons rfl (fun K hK => ?_) AllReadyH.nil
      go_simp
      go_at_call 24
      (with_reducible refine (HLN3.out _ hcur).mono ?_)
      clear hcur hH
      rintro e w' ⟨rfl, hcur⟩
      have hH := allT _ hcur
      refine hK.out _ _ hH (fun _ => ?_)
      clear hK K
      try simp only [List.getElem_toArray, List.getElem_cons_succ, List.getElem_cons_zero, Act.put, List.setIfInBounds_toArray, List.set_cons_zero, List.set_cons_succ]
      refine wpAnyH_take (i := 25) (v := ?v137) rfl (by kernel_rfl) (by kernel_rfl) (by kernel_rfl) (fun _ _ _ h => h) (Or.inl ⟨by rfl, ?hy137⟩) hH ?rest137
      case hy137 => (intro w hSw; (try dsimp only at hSw); go_simp; try with_reducible rfl)
      try simp only [List.getElem_toArray, List.getElem_cons_succ, List.getElem_cons_zero, Act.put, List.setIfInBounds_toArray, List.set_cons_zero, List.set_cons_succ]
      refine wpAnyH_take (i := 26) (v := ?v138) rfl (by kernel_rfl) (by kernel_rfl) (by kernel_rfl) (fun _ _ _ h => h) (Or.inl ⟨by rfl, ?hy138⟩) hH ?rest138
      case hy138 => (intro w hSw; (try dsimp only at hSw); go_simp; try with_reducible rfl)
      try simp only [List.getElem_toArray, List.getElem_cons_succ, List.getElem_cons_zero, Act.put, List.setIfInBounds_toArray, List.set_cons_zero, List.set_cons_succ]
      refine wpAnyH_ready (rs := [27]) (by kernel_rfl) (by simp) ?_
      refine AllReadyH.cons rfl (fun K hK => ?_) AllReadyH.nil
      go_simp
      go_at_call 23
      (with_reducible refine (HWY4.out _ hcur).mono ?_)
      clear hcur hH
      rintro e w' ⟨rfl, hcur⟩
      have hH := allT _ hcur
      refine hK.out _ _ hH (fun _ => ?_)
      clear hK K
      try simp only [List.getElem_toArray, List.getElem_cons_succ, List.getElem_cons_zero, Act.put, List.setIfInBounds_toArray, List.set_cons_zero, List.set_cons_succ]
      refine wpAnyH_take (i := 28) (v := ?v139) rfl (by kernel_rfl) (by kernel_rfl) (by kernel_rfl) (fun _ _ _ h => h) (Or.inl ⟨by rfl, ?hy139⟩) hH ?rest139
      case hy139 => (intro w hSw; (try dsimp only at hSw); go_simp; try with_reducible rfl)
      try simp only [List.getElem_toArray, List.getElem_cons_succ, List.getElem_cons_zero, Act.put, List.setIfInBounds_toArray, List.set_cons_zero, List.set_cons_succ]
      refine wpAnyH_take (i := 29) (v := ?v140) rfl (by kernel_rfl) (by kernel_rfl) (by kernel_rfl) (fun _ _ _ h => h) (Or.inl ⟨by rfl, ?hy140⟩) hH ?rest140
      case hy140 => (intro w hSw; (try dsimp only at hSw); go_simp; try with_reducible rfl)
      try simp only [List.getElem_toArray, List.getElem_cons_succ, List.getElem_cons_zero, Act.put, List.setIfInBounds_toArray, List.set_cons_zero, List.set_cons_succ]
      refine wpAnyH_done (by kernel_rfl) ?_ _
      go_wp2
      go_ret
      refine ⟨?_, HB.out.trans ((HB3.out.trans (Below.mono hcur HB3.out.size)).mono HB.out.size)⟩
      rw [HR.out]
      show Ending.returned (Value.string _) = _
      congr 2
      all_goals exact bytes_eq (by rw [HS.out.1, HS.out.2.1, HS.out.2.2]; simp [ByteArray.data_append])
    · have HWX4 := Lib.hid (show ∀ W, Below W3.heap.size W3 W → Calls Tryd.prog 23 #[.string S, .bool (decide (la < lv))] W fun e w' => e = .returned (.string T) ∧ Below W3.heap.size W3 w' from HWX3.out)
      have HWY4 := Lib.hid (show ∀ W, Below W3.heap.size W3 W → Calls Tryd.prog 23 #[.string S2, .bool (false)] W fun e w' => e = .returned (.string T2) ∧ Below W3.heap.size W3 w' from HWY3.out)
      clear HWX3 HWY3
      go_wp2_with fail
      have allT := HAT.out
      have hrefl : Below W3.heap.size W3 W3 := Below.refl _ _
      refine wp_region_held_drew (S := fun W => W.cell? ⟨w.heap.size, 0, none⟩ = some (.int .u8 n.f0) ∧ W.cell? ⟨w.heap.size, 1, none⟩ = some (.int .i64 n.f1) ∧ W.cell? ⟨w.heap.size, 2, none⟩ = some (.string n.f2) ∧ W.cell? ⟨w.heap.size, 3, none⟩ = some (.slice (some ad) 2 c) ∧ W.cell? ⟨zz, 0, none⟩ = some (.int .u8 a0) ∧ W.cell? ⟨zz, 1, none⟩ = some (.int .i64 a1) ∧ W.cell? ⟨zz, 2, none⟩ = some (.string a2) ∧ W.cell? ⟨zz, 3, none⟩ = some (.slice B a3 d) ∧ W.cell? ⟨zz + 1, 0, none⟩ = some (.int .u8 b0) ∧ W.cell? ⟨zz + 1, 1, none⟩ = some (.int .i64 b1) ∧ W.cell? ⟨zz + 1, 2, none⟩ = some (.string b2) ∧ W.cell? ⟨zz + 1, 3, none⟩ = some (.slice B2 b3 d2)) (by kernel_rfl) (allT _ (below_drew1 hrefl)) (fun hH => ?_)
      have hcur := below_drew1 hrefl
      refine wpAnyH_take (i := 0) (v := ?v141) rfl (by kernel_rfl) (by kernel_rfl) (by kernel_rfl) (fun _ _ _ h => h) (Or.inl ⟨by rfl, ?hy141⟩) hH ?rest141
      case hy141 => (intro w hSw; (try dsimp only at hSw); go_simp; try with_reducible rfl)
      try simp only [List.getElem_toArray, List.getElem_cons_succ, List.getElem_cons_zero, Act.put, List.setIfInBounds_toArray, List.set_cons_zero, List.set_cons_succ]
      refine wpAnyH_take (i := 2) (v := ?v142) rfl (by kernel_rfl) (by kernel_rfl) (by kernel_rfl) (fun _ _ _ h => h) (Or.inl ⟨by rfl, ?hy142⟩) hH ?rest142
      case hy142 => (intro w hSw; (try dsimp only at hSw); go_simp; try with_reducible rfl)
      try simp only [List.getElem_toArray, List.getElem_cons_succ, List.getElem_cons_zero, Act.put, List.setIfInBounds_toArray, List.set_cons_zero, List.set_cons_succ]
      refine wpAnyH_take (i := 13) (v := ?v143) rfl (by kernel_rfl) (by kernel_rfl) (by kernel_rfl) (fun _ _ _ h => h) (Or.inl ⟨by rfl, ?hy143⟩) hH ?rest143
      case hy143 => (intro w hSw; (try dsimp only at hSw); go_simp; try with_reducible rfl)
      try simp only [List.getElem_toArray, List.getElem_cons_succ, List.getElem_cons_zero, Act.put, List.setIfInBounds_toArray, List.set_cons_zero, List.set_cons_succ]
      refine wpAnyH_take (i := 16) (v := ?v144) rfl (by kernel_rfl) (by kernel_rfl) (by kernel_rfl) (fun _ _ _ h => h) (Or.inl ⟨by rfl, ?hy144⟩) hH ?rest144
      case hy144 => (intro w hSw; (try dsimp only at hSw); go_simp; try with_reducible rfl)
      try simp only [List.getElem_toArray, List.getElem_cons_succ, List.getElem_cons_zero, Act.put, List.setIfInBounds_toArray, List.set_cons_zero, List.set_cons_succ]
      refine wpAnyH_take (i := 18) (v := ?v145) rfl (by kernel_rfl) (by kernel_rfl) (by kernel_rfl) (fun _ _ _ h => h) (Or.inl ⟨by rfl, ?hy145⟩) hH ?rest145
      case hy145 => (intro w hSw; (try dsimp only at hSw); go_simp; try with_reducible rfl)
      try simp only [List.getElem_toArray, List.getElem_cons_succ, List.getElem_cons_zero, Act.put, List.setIfInBounds_toArray, List.set_cons_zero, List.set_cons_succ]
      refine wpAnyH_ready (rs := [1]) (by kernel_rfl) (by simp) ?_
      refine AllReadyH.cons rfl (fun K hK => ?_) AllReadyH.nil
      go_simp
      go_at_call 9
      (with_reducible refine (HEX3.out _ hcur).mono ?_)
      clear hcur hH
      rintro e w' ⟨rfl, hcur⟩
      have hH := allT _ hcur
      refine hK.out _ _ hH (fun _ => ?_)
      clear hK K
      try simp only [List.getElem_toArray, List.getElem_cons_succ, List.getElem_cons_zero, Act.put, List.setIfInBounds_toArray, List.set_cons_zero, List.set_cons_succ]
      refine wpAnyH_ready (rs := [3]) (by kernel_rfl) (by simp) ?_
      refine AllReadyH.cons rfl (fun K hK => ?_) AllReadyH.nil
      go_simp
      go_at_call 22
      (with_reducible refine (HBX3.out _ hcur).mono ?_)
      clear hcur hH
      rintro e w' ⟨rfl, hcur⟩
      have hH := allT _ hcur
      refine hK.out _ _ hH (fun _ => ?_)
      clear hK K
      try simp only [List.getElem_toArray, List.getElem_cons_succ, List.getElem_cons_zero, Act.put, List.setIfInBounds_toArray, List.set_cons_zero, List.set_cons_succ]
      refine wpAnyH_take (i := 4) (v := ?v146) rfl (by kernel_rfl) (by kernel_rfl) (by kernel_rfl) (fun _ _ _ h => h) (Or.inl ⟨by rfl, ?hy146⟩) hH ?rest146
      case hy146 => (intro w hSw; (try dsimp only at hSw); go_simp; try with_reducible rfl)
      try simp only [List.getElem_toArray, List.getElem_cons_succ, List.getElem_cons_zero, Act.put, List.setIfInBounds_toArray, List.set_cons_zero, List.set_cons_succ]
      refine wpAnyH_take (i := 5) (v := ?v147) rfl (by kernel_rfl) (by kernel_rfl) (by kernel_rfl) (fun _ _ _ h => h) (Or.inl ⟨by rfl, ?hy147⟩) hH ?rest147
      case hy147 => (intro w hSw; (try dsimp only at hSw); go_simp; try with_reducible rfl)
      try simp only [List.getElem_toArray, List.getElem_cons_succ, List.getElem_cons_zero, Act.put, List.setIfInBounds_toArray, List.set_cons_zero, List.set_cons_succ]
      refine wpAnyH_take (i := 7) (v := ?v148) rfl (by kernel_rfl) (by kernel_rfl) (by kernel_rfl) (fun _ _ _ h => h) (Or.inl ⟨by rfl, ?hy148⟩) hH ?rest148
      case hy148 => (intro w hSw; (try dsimp only at hSw); go_simp; try with_reducible rfl)
      try simp only [List.getElem_toArray, List.getElem_cons_succ, List.getElem_cons_zero, Act.put, List.setIfInBounds_toArray, List.set_cons_zero, List.set_cons_succ]
      refine wpAnyH_ready (rs := [6]) (by kernel_rfl) (by simp) ?_
      refine AllReadyH.cons rfl (fun K hK => ?_) AllReadyH.nil
      go_simp
      go_at_call 24
      (with_reducible refine (HLX3.out (by first | trivial | rfl) _ hcur).mono ?_)
      clear hcur hH
      rintro e w' ⟨rfl, hcur⟩
      have hH := allT _ hcur
      refine hK.out _ _ hH (fun _ => ?_)
      clear hK K
      try simp only [List.getElem_toArray, List.getElem_cons_succ, List.getElem_cons_zero, Act.put, List.setIfInBounds_toArray, List.set_cons_zero, List.set_cons_succ]
      refine wpAnyH_ready (rs := [8]) (by kernel_rfl) (by simp) ?_
      refine AllReadyH.cons rfl (fun K hK => ?_) AllReadyH.nil
      go_simp
      go_at_call 24
      (with_reducible refine (HLN3.out _ hcur).mono ?_)
      clear hcur hH
      rintro e w' ⟨rfl, hcur⟩
      have hH := allT _ hcur
      refine hK.out _ _ hH (fun _ => ?_)
      clear hK K
      try simp only [List.getElem_toArray, List.getElem_cons_succ, List.getElem_cons_zero, Act.put, List.setIfInBounds_toArray, List.set_cons_zero, List.set_cons_succ]
      refine wpAnyH_take (i := 9) (v := ?v149) rfl (by kernel_rfl) (by kernel_rfl) (by kernel_rfl) (fun _ _ _ h => h) (Or.inl ⟨by rfl, ?hy149⟩) hH ?rest149
      case hy149 => (intro w hSw; (try dsimp only at hSw); go_simp; try with_reducible rfl)
      try simp only [List.getElem_toArray, List.getElem_cons_succ, List.getElem_cons_zero, Act.put, List.setIfInBounds_toArray, List.set_cons_zero, List.set_cons_succ]
      refine wpAnyH_take (i := 10) (v := ?v150) rfl (by kernel_rfl) (by kernel_rfl) (by kernel_rfl) (fun _ _ _ h => h) (Or.inl ⟨by rfl, ?hy150⟩) hH ?rest150
      case hy150 => (intro w hSw; (try dsimp only at hSw); go_simp; try with_reducible rfl)
      try simp only [List.getElem_toArray, List.getElem_cons_succ, List.getElem_cons_zero, Act.put, List.setIfInBounds_toArray, List.set_cons_zero, List.set_cons_succ]
      refine wpAnyH_ready (rs := [11]) (by kernel_rfl) (by simp) ?_
      refine AllReadyH.cons rfl (fun K hK => ?_) AllReadyH.nil
      go_simp
      go_at_call 23
      (with_reducible refine (HWX4.out _ hcur).mono ?_)
      clear hcur hH
      rintro e w' ⟨rfl, hcur⟩
      have hH := allT _ hcur
      refine hK.out _ _ hH (fun _ => ?_)
      clear hK K
      try simp only [List.getElem_toArray, List.getElem_cons_succ, List.getElem_cons_zero, Act.put, List.setIfInBounds_toArray, List.set_cons_zero, List.set_cons_succ]
      refine wpAnyH_take (i := 12) (v := ?v151) rfl (by kernel_rfl) (by kernel_rfl) (by kernel_rfl) (fun _ _ _ h => h) (Or.inl ⟨by rfl, ?hy151⟩) hH ?rest151
      case hy151 => (intro w hSw; (try dsimp only at hSw); go_simp; try with_reducible rfl)
      try simp only [List.getElem_toArray, List.getElem_cons_succ, List.getElem_cons_zero, Act.put, List.setIfInBounds_toArray, List.set_cons_zero, List.set_cons_succ]
      refine wpAnyH_take (i := 14) (v := ?v152) rfl (by kernel_rfl) (by kernel_rfl) (by kernel_rfl) (fun _ _ _ h => h) (Or.inl ⟨by rfl, ?hy152⟩) hH ?rest152
      case hy152 => (intro w hSw; (try dsimp only at hSw); go_simp; try with_reducible rfl)
      try simp only [List.getElem_toArray, List.getElem_cons_succ, List.getElem_cons_zero, Act.put, List.setIfInBounds_toArray, List.set_cons_zero, List.set_cons_succ]
      refine wpAnyH_take (i := 15) (v := ?v153) rfl (by kernel_rfl) (by kernel_rfl) (by kernel_rfl) (fun _ _ _ h => h) (Or.inl ⟨by rfl, ?hy153⟩) hH ?rest153
      case hy153 => (intro w hSw; (try dsimp only at hSw); go_simp; try with_reducible rfl)
      try simp only [List.getElem_toArray, List.getElem_cons_succ, List.getElem_cons_zero, Act.put, List.setIfInBounds_toArray, List.set_cons_zero, List.set_cons_succ]
      refine wpAnyH_ready (rs := [17]) (by kernel_rfl) (by simp) ?_
      refine AllReadyH.cons rfl (fun K hK => ?_) AllReadyH.nil
      go_simp
      go_at_call 9
      (with_reducible refine (HEY3.out _ hcur).mono ?_)
      clear hcur hH
      rintro e w' ⟨rfl, hcur⟩
      have hH := allT _ hcur
      refine hK.out _ _ hH (fun _ => ?_)
      clear hK K
      try simp only [List.getElem_toArray, List.getElem_cons_succ, List.getElem_cons_zero, Act.put, List.setIfInBounds_toArray, List.set_cons_zero, List.set_cons_succ]
      refine wpAnyH_ready (rs := [19]) (by kernel_rfl) (by simp) ?_
      refine AllReadyH.cons rfl (fun K hK => ?_) AllReadyH.nil
      go_simp
      go_at_call 22
      (with_reducible refine (HBY3.out _ hcur).mono ?_)
      clear hcur hH
      rintro e w' ⟨rfl, hcur⟩
      have hH := allT _ hcur
      refine hK.out _ _ hH (fun _ => ?_)
      clear hK K
      try simp only [List.getElem_toArray, List.getElem_cons_succ, List.getElem_cons_zero, Act.put, List.setIfInBounds_toArray, List.set_cons_zero, List.set_cons_succ]
      refine wpAnyH_take (i := 20) (v := ?v154) rfl (by kernel_rfl) (by kernel_rfl) (by kernel_rfl) (fun _ _ _ h => h) (Or.inl ⟨by rfl, ?hy154⟩) hH ?rest154
      case hy154 => (intro w hSw; (try dsimp only at hSw); go_simp; try with_reducible rfl)
      try simp only [List.getElem_toArray, List.getElem_cons_succ, List.getElem_cons_zero, Act.put, List.setIfInBounds_toArray, List.set_cons_zero, List.set_cons_succ]
      refine wpAnyH_take (i := 21) (v := undef) rfl (by kernel_rfl) (by kernel_rfl) (by kernel_rfl) (fun _ _ _ h => h) (Or.inr ⟨by rfl, rfl⟩) hH ?rest155
      try simp only [List.getElem_toArray, List.getElem_cons_succ, List.getElem_cons_zero, Act.put, List.setIfInBounds_toArray, List.set_cons_zero, List.set_cons_succ]
      refine wpAnyH_take (i := 23) (v := undef) rfl (by kernel_rfl) (by kernel_rfl) (by kernel_rfl) (fun _ _ _ h => h) (Or.inr ⟨by rfl, rfl⟩) hH ?rest156
      try simp only [List.getElem_toArray, List.getElem_cons_succ, List.getElem_cons_zero, Act.put, List.setIfInBounds_toArray, List.set_cons_zero, List.set_cons_succ]
      refine wpAnyH_ready (rs := [22]) (by kernel_rfl) (by simp) ?_
      refine AllReadyH.cons rfl (fun K hK => ?_) AllReadyH.nil
      go_simp
      refine hK.out _ _ hH (fun _ => ?_)
      clear hK K
      try simp only [List.getElem_toArray, List.getElem_cons_succ, List.getElem_cons_zero, Act.put, List.setIfInBounds_toArray, List.set_cons_zero, List.set_cons_succ]
      refine wpAnyH_ready (rs := [24]) (by kernel_rfl) (by simp) ?_
      refine AllReadyH.cons rfl (fun K hK => ?_) AllReadyH.nil
      go_simp
      refine hK.out _ _ hH (fun _ => ?_)
      clear hK K
      try simp only [List.getElem_toArray, List.getElem_cons_succ, List.getElem_cons_zero, Act.put, List.setIfInBounds_toArray, List.set_cons_zero, List.set_cons_succ]
      refine wpAnyH_take (i := 25) (v := undef) rfl (by kernel_rfl) (by kernel_rfl) (by kernel_rfl) (fun _ _ _ h => h) (Or.inr ⟨by rfl, rfl⟩) hH ?rest157
      try simp only [List.getElem_toArray, List.getElem_cons_succ, List.getElem_cons_zero, Act.put, List.setIfInBounds_toArray, List.set_cons_zero, List.set_cons_succ]
      refine wpAnyH_take (i := 26) (v := ?v158) rfl (by kernel_rfl) (by kernel_rfl) (by kernel_rfl) (fun _ _ _ h => h) (Or.inl ⟨by rfl, ?hy158⟩) hH ?rest158
      case hy158 => (intro w hSw; (try dsimp only at hSw); go_simp; try with_reducible rfl)
      try simp only [List.getElem_toArray, List.getElem_cons_succ, List.getElem_cons_zero, Act.put, List.setIfInBounds_toArray, List.set_cons_zero, List.set_cons_succ]
      refine wpAnyH_ready (rs := [27]) (by kernel_rfl) (by simp) ?_
      refine AllReadyH.cons rfl (fun K hK => ?_) AllReadyH.nil
      go_simp
      go_at_call 23
      (with_reducible refine (HWY4.out _ hcur).mono ?_)
      clear hcur hH
      rintro e w' ⟨rfl, hcur⟩
      have hH := allT _ hcur
      refine hK.out _ _ hH (fun _ => ?_)
      clear hK K
      try simp only [List.getElem_toArray, List.getElem_cons_succ, List.getElem_cons_zero, Act.put, List.setIfInBounds_toArray, List.set_cons_zero, List.set_cons_succ]
      refine wpAnyH_take (i := 28) (v := ?v159) rfl (by kernel_rfl) (by kernel_rfl) (by kernel_rfl) (fun _ _ _ h => h) (Or.inl ⟨by rfl, ?hy159⟩) hH ?rest159
      case hy159 => (intro w hSw; (try dsimp only at hSw); go_simp; try with_reducible rfl)
      try simp only [List.getElem_toArray, List.getElem_cons_succ, List.getElem_cons_zero, Act.put, List.setIfInBounds_toArray, List.set_cons_zero, List.set_cons_succ]
      refine wpAnyH_take (i := 29) (v := ?v160) rfl (by kernel_rfl) (by kernel_rfl) (by kernel_rfl) (fun _ _ _ h => h) (Or.inl ⟨by rfl, ?hy160⟩) hH ?rest160
      case hy160 => (intro w hSw; (try dsimp only at hSw); go_simp; try with_reducible rfl)
      try simp only [List.getElem_toArray, List.getElem_cons_succ, List.getElem_cons_zero, Act.put, List.setIfInBounds_toArray, List.set_cons_zero, List.set_cons_succ]
      refine wpAnyH_done (by kernel_rfl) ?_ _
      go_wp2
      go_ret
      refine ⟨?_, HB.out.trans ((HB3.out.trans (Below.mono hcur HB3.out.size)).mono HB.out.size)⟩
      rw [HR.out]
      show Ending.returned (Value.string _) = _
      congr 2
      all_goals exact bytes_eq (by rw [HS.out.1, HS.out.2.1, HS.out.2.2]; simp [ByteArray.data_append])
    · have HWX4 := Lib.hid (show ∀ W, Below W3.heap.size W3 W → Calls Tryd.prog 23 #[.string S, .bool (decide (la < lv))] W fun e w' => e = .returned (.string T) ∧ Below W3.heap.size W3 w' from HWX3.out)
      have HWY4 := Lib.hid (show ∀ W, Below W3.heap.size W3 W → Calls Tryd.prog 23 #[.string S2, .bool (decide (lb ≤ lv))] W fun e w' => e = .returned (.string T2) ∧ Below W3.heap.size W3 w' from HWY3.out)
      clear HWX3 HWY3
      go_wp2_with fail
      have allT := HAT.out
      have hrefl : Below W3.heap.size W3 W3 := Below.refl _ _
      refine wp_region_held_drew (S := fun W => W.cell? ⟨w.heap.size, 0, none⟩ = some (.int .u8 n.f0) ∧ W.cell? ⟨w.heap.size, 1, none⟩ = some (.int .i64 n.f1) ∧ W.cell? ⟨w.heap.size, 2, none⟩ = some (.string n.f2) ∧ W.cell? ⟨w.heap.size, 3, none⟩ = some (.slice (some ad) 2 c) ∧ W.cell? ⟨zz, 0, none⟩ = some (.int .u8 a0) ∧ W.cell? ⟨zz, 1, none⟩ = some (.int .i64 a1) ∧ W.cell? ⟨zz, 2, none⟩ = some (.string a2) ∧ W.cell? ⟨zz, 3, none⟩ = some (.slice B a3 d) ∧ W.cell? ⟨zz + 1, 0, none⟩ = some (.int .u8 b0) ∧ W.cell? ⟨zz + 1, 1, none⟩ = some (.int .i64 b1) ∧ W.cell? ⟨zz + 1, 2, none⟩ = some (.string b2) ∧ W.cell? ⟨zz + 1, 3, none⟩ = some (.slice B2 b3 d2)) (by kernel_rfl) (allT _ (below_drew1 hrefl)) (fun hH => ?_)
      have hcur := below_drew1 hrefl
      refine wpAnyH_take (i := 0) (v := ?v161) rfl (by kernel_rfl) (by kernel_rfl) (by kernel_rfl) (fun _ _ _ h => h) (Or.inl ⟨by rfl, ?hy161⟩) hH ?rest161
      case hy161 => (intro w hSw; (try dsimp only at hSw); go_simp; try with_reducible rfl)
      try simp only [List.getElem_toArray, List.getElem_cons_succ, List.getElem_cons_zero, Act.put, List.setIfInBounds_toArray, List.set_cons_zero, List.set_cons_succ]
      refine wpAnyH_take (i := 2) (v := ?v162) rfl (by kernel_rfl) (by kernel_rfl) (by kernel_rfl) (fun _ _ _ h => h) (Or.inl ⟨by rfl, ?hy162⟩) hH ?rest162
      case hy162 => (intro w hSw; (try dsimp only at hSw); go_simp; try with_reducible rfl)
      try simp only [List.getElem_toArray, List.getElem_cons_succ, List.getElem_cons_zero, Act.put, List.setIfInBounds_toArray, List.set_cons_zero, List.set_cons_succ]
      refine wpAnyH_take (i := 13) (v := ?v163) rfl (by kernel_rfl) (by kernel_rfl) (by kernel_rfl) (fun _ _ _ h => h) (Or.inl ⟨by rfl, ?hy163⟩) hH ?rest163
      case hy163 => (intro w hSw; (try dsimp only at hSw); go_simp; try with_reducible rfl)
      try simp only [List.getElem_toArray, List.getElem_cons_succ, List.getElem_cons_zero, Act.put, List.setIfInBounds_toArray, List.set_cons_zero, List.set_cons_succ]
      refine wpAnyH_take (i := 16) (v := ?v164) rfl (by kernel_rfl) (by kernel_rfl) (by kernel_rfl) (fun _ _ _ h => h) (Or.inl ⟨by rfl, ?hy164⟩) hH ?rest164
      case hy164 => (intro w hSw; (try dsimp only at hSw); go_simp; try with_reducible rfl)
      try simp only [List.getElem_toArray, List.getElem_cons_succ, List.getElem_cons_zero, Act.put, List.setIfInBounds_toArray, List.set_cons_zero, List.set_cons_succ]
      refine wpAnyH_take (i := 18) (v := ?v165) rfl (by kernel_rfl) (by kernel_rfl) (by kernel_rfl) (fun _ _ _ h => h) (Or.inl ⟨by rfl, ?hy165⟩) hH ?rest165
      case hy165 => (intro w hSw; (try dsimp only at hSw); go_simp; try with_reducible rfl)
      try simp only [List.getElem_toArray, List.getElem_cons_succ, List.getElem_cons_zero, Act.put, List.setIfInBounds_toArray, List.set_cons_zero, List.set_cons_succ]
      refine wpAnyH_ready (rs := [1]) (by kernel_rfl) (by simp) ?_
      refine AllReadyH.cons rfl (fun K hK => ?_) AllReadyH.nil
      go_simp
      go_at_call 9
      (with_reducible refine (HEX3.out _ hcur).mono ?_)
      clear hcur hH
      rintro e w' ⟨rfl, hcur⟩
      have hH := allT _ hcur
      refine hK.out _ _ hH (fun _ => ?_)
      clear hK K
      try simp only [List.getElem_toArray, List.getElem_cons_succ, List.getElem_cons_zero, Act.put, List.setIfInBounds_toArray, List.set_cons_zero, List.set_cons_succ]
      refine wpAnyH_ready (rs := [3]) (by kernel_rfl) (by simp) ?_
      refine AllReadyH.cons rfl (fun K hK => ?_) AllReadyH.nil
      go_simp
      go_at_call 22
      (with_reducible refine (HBX3.out _ hcur).mono ?_)
      clear hcur hH
      rintro e w' ⟨rfl, hcur⟩
      have hH := allT _ hcur
      refine hK.out _ _ hH (fun _ => ?_)
      clear hK K
      try simp only [List.getElem_toArray, List.getElem_cons_succ, List.getElem_cons_zero, Act.put, List.setIfInBounds_toArray, List.set_cons_zero, List.set_cons_succ]
      refine wpAnyH_take (i := 4) (v := ?v166) rfl (by kernel_rfl) (by kernel_rfl) (by kernel_rfl) (fun _ _ _ h => h) (Or.inl ⟨by rfl, ?hy166⟩) hH ?rest166
      case hy166 => (intro w hSw; (try dsimp only at hSw); go_simp; try with_reducible rfl)
      try simp only [List.getElem_toArray, List.getElem_cons_succ, List.getElem_cons_zero, Act.put, List.setIfInBounds_toArray, List.set_cons_zero, List.set_cons_succ]
      refine wpAnyH_take (i := 5) (v := ?v167) rfl (by kernel_rfl) (by kernel_rfl) (by kernel_rfl) (fun _ _ _ h => h) (Or.inl ⟨by rfl, ?hy167⟩) hH ?rest167
      case hy167 => (intro w hSw; (try dsimp only at hSw); go_simp; try with_reducible rfl)
      try simp only [List.getElem_toArray, List.getElem_cons_succ, List.getElem_cons_zero, Act.put, List.setIfInBounds_toArray, List.set_cons_zero, List.set_cons_succ]
      refine wpAnyH_take (i := 7) (v := ?v168) rfl (by kernel_rfl) (by kernel_rfl) (by kernel_rfl) (fun _ _ _ h => h) (Or.inl ⟨by rfl, ?hy168⟩) hH ?rest168
      case hy168 => (intro w hSw; (try dsimp only at hSw); go_simp; try with_reducible rfl)
      try simp only [List.getElem_toArray, List.getElem_cons_succ, List.getElem_cons_zero, Act.put, List.setIfInBounds_toArray, List.set_cons_zero, List.set_cons_succ]
      refine wpAnyH_ready (rs := [6]) (by kernel_rfl) (by simp) ?_
      refine AllReadyH.cons rfl (fun K hK => ?_) AllReadyH.nil
      go_simp
      go_at_call 24
      (with_reducible refine (HLX3.out (by first | trivial | rfl) _ hcur).mono ?_)
      clear hcur hH
      rintro e w' ⟨rfl, hcur⟩
      have hH := allT _ hcur
      refine hK.out _ _ hH (fun _ => ?_)
      clear hK K
      try simp only [List.getElem_toArray, List.getElem_cons_succ, List.getElem_cons_zero, Act.put, List.setIfInBounds_toArray, List.set_cons_zero, List.set_cons_succ]
      refine wpAnyH_ready (rs := [8]) (by kernel_rfl) (by simp) ?_
      refine AllReadyH.cons rfl (fun K hK => ?_) AllReadyH.nil
      go_simp
      go_at_call 24
      (with_reducible refine (HLN3.out _ hcur).mono ?_)
      clear hcur hH
      rintro e w' ⟨rfl, hcur⟩
      have hH := allT _ hcur
      refine hK.out _ _ hH (fun _ => ?_)
      clear hK K
      try simp only [List.getElem_toArray, List.getElem_cons_succ, List.getElem_cons_zero, Act.put, List.setIfInBounds_toArray, List.set_cons_zero, List.set_cons_succ]
      refine wpAnyH_take (i := 9) (v := ?v169) rfl (by kernel_rfl) (by kernel_rfl) (by kernel_rfl) (fun _ _ _ h => h) (Or.inl ⟨by rfl, ?hy169⟩) hH ?rest169
      case hy169 => (intro w hSw; (try dsimp only at hSw); go_simp; try with_reducible rfl)
      try simp only [List.getElem_toArray, List.getElem_cons_succ, List.getElem_cons_zero, Act.put, List.setIfInBounds_toArray, List.set_cons_zero, List.set_cons_succ]
      refine wpAnyH_take (i := 10) (v := ?v170) rfl (by kernel_rfl) (by kernel_rfl) (by kernel_rfl) (fun _ _ _ h => h) (Or.inl ⟨by rfl, ?hy170⟩) hH ?rest170
      case hy170 => (intro w hSw; (try dsimp only at hSw); go_simp; try with_reducible rfl)
      try simp only [List.getElem_toArray, List.getElem_cons_succ, List.getElem_cons_zero, Act.put, List.setIfInBounds_toArray, List.set_cons_zero, List.set_cons_succ]
      refine wpAnyH_ready (rs := [11]) (by kernel_rfl) (by simp) ?_
      refine AllReadyH.cons rfl (fun K hK => ?_) AllReadyH.nil
      go_simp
      go_at_call 23
      (with_reducible refine (HWX4.out _ hcur).mono ?_)
      clear hcur hH
      rintro e w' ⟨rfl, hcur⟩
      have hH := allT _ hcur
      refine hK.out _ _ hH (fun _ => ?_)
      clear hK K
      try simp only [List.getElem_toArray, List.getElem_cons_succ, List.getElem_cons_zero, Act.put, List.setIfInBounds_toArray, List.set_cons_zero, List.set_cons_succ]
      refine wpAnyH_take (i := 12) (v := ?v171) rfl (by kernel_rfl) (by kernel_rfl) (by kernel_rfl) (fun _ _ _ h => h) (Or.inl ⟨by rfl, ?hy171⟩) hH ?rest171
      case hy171 => (intro w hSw; (try dsimp only at hSw); go_simp; try with_reducible rfl)
      try simp only [List.getElem_toArray, List.getElem_cons_succ, List.getElem_cons_zero, Act.put, List.setIfInBounds_toArray, List.set_cons_zero, List.set_cons_succ]
      refine wpAnyH_take (i := 14) (v := ?v172) rfl (by kernel_rfl) (by kernel_rfl) (by kernel_rfl) (fun _ _ _ h => h) (Or.inl ⟨by rfl, ?hy172⟩) hH ?rest172
      case hy172 => (intro w hSw; (try dsimp only at hSw); go_simp; try with_reducible rfl)
      try simp only [List.getElem_toArray, List.getElem_cons_succ, List.getElem_cons_zero, Act.put, List.setIfInBounds_toArray, List.set_cons_zero, List.set_cons_succ]
      refine wpAnyH_take (i := 15) (v := ?v173) rfl (by kernel_rfl) (by kernel_rfl) (by kernel_rfl) (fun _ _ _ h => h) (Or.inl ⟨by rfl, ?hy173⟩) hH ?rest173
      case hy173 => (intro w hSw; (try dsimp only at hSw); go_simp; try with_reducible rfl)
      try simp only [List.getElem_toArray, List.getElem_cons_succ, List.getElem_cons_zero, Act.put, List.setIfInBounds_toArray, List.set_cons_zero, List.set_cons_succ]
      refine wpAnyH_ready (rs := [17]) (by kernel_rfl) (by simp) ?_
      refine AllReadyH.cons rfl (fun K hK => ?_) AllReadyH.nil
      go_simp
      go_at_call 9
      (with_reducible refine (HEY3.out _ hcur).mono ?_)
      clear hcur hH
      rintro e w' ⟨rfl, hcur⟩
      have hH := allT _ hcur
      refine hK.out _ _ hH (fun _ => ?_)
      clear hK K
      try simp only [List.getElem_toArray, List.getElem_cons_succ, List.getElem_cons_zero, Act.put, List.setIfInBounds_toArray, List.set_cons_zero, List.set_cons_succ]
      refine wpAnyH_ready (rs := [19]) (by kernel_rfl) (by simp) ?_
      refine AllReadyH.cons rfl (fun K hK => ?_) AllReadyH.nil
      go_simp
      go_at_call 22
      (with_reducible refine (HBY3.out _ hcur).mono ?_)
      clear hcur hH
      rintro e w' ⟨rfl, hcur⟩
      have hH := allT _ hcur
      refine hK.out _ _ hH (fun _ => ?_)
      clear hK K
      try simp only [List.getElem_toArray, List.getElem_cons_succ, List.getElem_cons_zero, Act.put, List.setIfInBounds_toArray, List.set_cons_zero, List.set_cons_succ]
      refine wpAnyH_take (i := 20) (v := ?v174) rfl (by kernel_rfl) (by kernel_rfl) (by kernel_rfl) (fun _ _ _ h => h) (Or.inl ⟨by rfl, ?hy174⟩) hH ?rest174
      case hy174 => (intro w hSw; (try dsimp only at hSw); go_simp; try with_reducible rfl)
      try simp only [List.getElem_toArray, List.getElem_cons_succ, List.getElem_cons_zero, Act.put, List.setIfInBounds_toArray, List.set_cons_zero, List.set_cons_succ]
      refine wpAnyH_take (i := 21) (v := ?v175) rfl (by kernel_rfl) (by kernel_rfl) (by kernel_rfl) (fun _ _ _ h => h) (Or.inl ⟨by rfl, ?hy175⟩) hH ?rest175
      case hy175 => (intro w hSw; (try dsimp only at hSw); go_simp; try with_reducible rfl)
      try simp only [List.getElem_toArray, List.getElem_cons_succ, List.getElem_cons_zero, Act.put, List.setIfInBounds_toArray, List.set_cons_zero, List.set_cons_succ]
      refine wpAnyH_take (i := 23) (v := ?v176) rfl (by kernel_rfl) (by kernel_rfl) (by kernel_rfl) (fun _ _ _ h => h) (Or.inl ⟨by rfl, ?hy176⟩) hH ?rest176
      case hy176 => (intro w hSw; (try dsimp only at hSw); go_simp; try with_reducible rfl)
      try simp only [List.getElem_toArray, List.getElem_cons_succ, List.getElem_cons_zero, Act.put, List.setIfInBounds_toArray, List.set_cons_zero, List.set_cons_succ]
      refine wpAnyH_ready (rs := [22]) (by kernel_rfl) (by simp) ?_
      refine AllReadyH.cons rfl (fun K hK => ?_) AllReadyH.nil
      go_simp
      go_at_call 24
      (with_reducible refine (HLY3.out (by first | trivial | rfl) _ hcur).mono ?_)
      clear hcur hH
      rintro e w' ⟨rfl, hcur⟩
      have hH := allT _ hcur
      refine hK.out _ _ hH (fun _ => ?_)
      clear hK K
      try simp only [List.getElem_toArray, List.getElem_cons_succ, List.getElem_cons_zero, Act.put, List.setIfInBounds_toArray, List.set_cons_zero, List.set_cons_succ]
      refine wpAnyH_ready (rs := [24]) (by kernel_rfl) (by simp) ?_
      refine AllReadyH.cons rfl (fun K hK => ?_) AllReadyH.nil
      go_simp
      go_at_call 24
      (with_reducible refine (HLN3.out _ hcur).mono ?_)
      clear hcur hH
      rintro e w' ⟨rfl, hcur⟩
      have hH := allT _ hcur
      refine hK.out _ _ hH (fun _ => ?_)
      clear hK K
      try simp only [List.getElem_toArray, List.getElem_cons_succ, List.getElem_cons_zero, Act.put, List.setIfInBounds_toArray, List.set_cons_zero, List.set_cons_succ]
      refine wpAnyH_take (i := 25) (v := ?v177) rfl (by kernel_rfl) (by kernel_rfl) (by kernel_rfl) (fun _ _ _ h => h) (Or.inl ⟨by rfl, ?hy177⟩) hH ?rest177
      case hy177 => (intro w hSw; (try dsimp only at hSw); go_simp; try with_reducible rfl)
      try simp only [List.getElem_toArray, List.getElem_cons_succ, List.getElem_cons_zero, Act.put, List.setIfInBounds_toArray, List.set_cons_zero, List.set_cons_succ]
      refine wpAnyH_take (i := 26) (v := ?v178) rfl (by kernel_rfl) (by kernel_rfl) (by kernel_rfl) (fun _ _ _ h => h) (Or.inl ⟨by rfl, ?hy178⟩) hH ?rest178
      case hy178 => (intro w hSw; (try dsimp only at hSw); go_simp; try with_reducible rfl)
      try simp only [List.getElem_toArray, List.getElem_cons_succ, List.getElem_cons_zero, Act.put, List.setIfInBounds_toArray, List.set_cons_zero, List.set_cons_succ]
      refine wpAnyH_ready (rs := [27]) (by kernel_rfl) (by simp) ?_
      refine AllReadyH.cons rfl (fun K hK => ?_) AllReadyH.nil
      go_simp
      go_at_call 23
      (with_reducible refine (HWY4.out _ hcur).mono ?_)
      clear hcur hH
      rintro e w' ⟨rfl, hcur⟩
      have hH := allT _ hcur
      refine hK.out _ _ hH (fun _ => ?_)
      clear hK K
      try simp only [List.getElem_toArray, List.getElem_cons_succ, List.getElem_cons_zero, Act.put, List.setIfInBounds_toArray, List.set_cons_zero, List.set_cons_succ]
      refine wpAnyH_take (i := 28) (v := ?v179) rfl (by kernel_rfl) (by kernel_rfl) (by kernel_rfl) (fun _ _ _ h => h) (Or.inl ⟨by rfl, ?hy179⟩) hH ?rest179
      case hy179 => (intro w hSw; (try dsimp only at hSw); go_simp; try with_reducible rfl)
      try simp only [List.getElem_toArray, List.getElem_cons_succ, List.getElem_cons_zero, Act.put, List.setIfInBounds_toArray, List.set_cons_zero, List.set_cons_succ]
      refine wpAnyH_take (i := 29) (v := ?v180) rfl (by kernel_rfl) (by kernel_rfl) (by kernel_rfl) (fun _ _ _ h => h) (Or.inl ⟨by rfl, ?hy180⟩) hH ?rest180
      case hy180 => (intro w hSw; (try dsimp only at hSw); go_simp; try with_reducible rfl)
      try simp only [List.getElem_toArray, List.getElem_cons_succ, List.getElem_cons_zero, Act.put, List.setIfInBounds_toArray, List.set_cons_zero, List.set_cons_succ]
      refine wpAnyH_done (by kernel_rfl) ?_ _
      go_wp2
      go_ret
      refine ⟨?_, HB.out.trans ((HB3.out.trans (Below.mono hcur HB3.out.size)).mono HB.out.size)⟩
      rw [HR.out]
      show Ending.returned (Value.string _) = _
      congr 2
      all_goals exact bytes_eq (by rw [HS.out.1, HS.out.2.1, HS.out.2.2]; simp [ByteArray.data_append])
  · obtain ⟨W3, hW3⟩ : ∃ W3, W3 = ((W2.alloc (.cells #[.int .u8 b0, .int .i64 b1, .string b2, .slice B2 b3 d2] 24)).alloc (.cells #[.int .u8 a0, .int .i64 a1, .string a2, .slice B a3 d] 24)).drew := ⟨_, rfl⟩
    rw [← hW3]
    have hb3 : Below W0.heap.size W0 W3 := by rw [hW3]; exact (at_al _ (at_al _ HB2.out)).drew
    have k1 : W3.heap[W2.heap.size]? = some (.cells #[.int .u8 b0, .int .i64 b1, .string b2, .slice B2 b3 d2] 24 (0, 0)) := by
      rw [hW3]
      show (World.alloc _ _).heap[W2.heap.size]? = _
      rw [Below.heap_alloc _ _ _ (by simp)]
      exact heap_alloc_new _ _
    have k2 : W3.heap[W2.heap.size + 1]? = some (.cells #[.int .u8 a0, .int .i64 a1, .string a2, .slice B a3 d] 24 (0, 0)) := by
      rw [hW3]
      show (World.alloc _ _).heap[W2.heap.size + 1]? = _
      have e : (W2.alloc (.cells #[.int .u8 b0, .int .i64 b1, .string b2, .slice B2 b3 d2] 24)).heap.size = W2.heap.size + 1 := by simp
      rw [← e]; exact heap_alloc_new _ _
    clear hW3
    obtain ⟨o0, o1, o2, o3, -, -, -, -, -, -, -, -⟩ := HAS.out _ hb3
    have p0 : W3.cell? ⟨W2.heap.size + 1, 0, none⟩ = some (.int .u8 a0) := (blk_cell k2 0).trans rfl
    have p1 : W3.cell? ⟨W2.heap.size + 1, 1, none⟩ = some (.int .i64 a1) := (blk_cell k2 1).trans rfl
    have p2 : W3.cell? ⟨W2.heap.size + 1, 2, none⟩ = some (.string a2) := (blk_cell k2 2).trans rfl
    have p3 : W3.cell? ⟨W2.heap.size + 1, 3, none⟩ = some (.slice B a3 d) := (blk_cell k2 3).trans rfl
    have q0 : W3.cell? ⟨W2.heap.size, 0, none⟩ = some (.int .u8 b0) := (blk_cell k1 0).trans rfl
    have q1 : W3.cell? ⟨W2.heap.size, 1, none⟩ = some (.int .i64 b1) := (blk_cell k1 1).trans rfl
    have q2 : W3.cell? ⟨W2.heap.size, 2, none⟩ = some (.string b2) := (blk_cell k1 2).trans rfl
    have q3 : W3.cell? ⟨W2.heap.size, 3, none⟩ = some (.slice B2 b3 d2) := (blk_cell k1 3).trans rfl
    clear k1 k2
    have allT : ∀ W, Below W3.heap.size W3 W → (W.cell? ⟨w.heap.size, 0, none⟩ = some (.int .u8 n.f0) ∧ W.cell? ⟨w.heap.size, 1, none⟩ = some (.int .i64 n.f1) ∧ W.cell? ⟨w.heap.size, 2, none⟩ = some (.string n.f2) ∧ W.cell? ⟨w.heap.size, 3, none⟩ = some (.slice (some ad) 2 c) ∧ W.cell? ⟨W2.heap.size + 1, 0, none⟩ = some (.int .u8 a0) ∧ W.cell? ⟨W2.heap.size + 1, 1, none⟩ = some (.int .i64 a1) ∧ W.cell? ⟨W2.heap.size + 1, 2, none⟩ = some (.string a2) ∧ W.cell? ⟨W2.heap.size + 1, 3, none⟩ = some (.slice B a3 d) ∧ W.cell? ⟨W2.heap.size, 0, none⟩ = some (.int .u8 b0) ∧ W.cell? ⟨W2.heap.size, 1, none⟩ = some (.int .i64 b1) ∧ W.cell? ⟨W2.heap.size, 2, none⟩ = some (.string b2) ∧ W.cell? ⟨W2.heap.size, 3, none⟩ = some (.slice B2 b3 d2)) := fun W h =>
      have k := fun {p : Addr} {v : Value} (z : W3.cell? p = some v) => (h.cell (World.block_lt_of_cell? W3 _ z)).trans z
      ⟨k o0, k o1, k o2, k o3, k p0, k p1, k p2, k p3, k q0, k q1, k q2, k q3⟩
    have HEX3 := Lib.hid (show ∀ W, Below W3.heap.size W3 W → Calls Tryd.prog 9 #[.agg #[.int .u8 a0, .int .i64 a1, .string a2, .slice B a3 d]] W fun e w' => e = .returned (.string S) ∧ Below W3.heap.size W3 w' from fun W h => (HEX.out W (hb3.trans (h.mono hb3.size))).mono (by rintro e w' ⟨rfl, h2⟩; exact ⟨rfl, h.trans (h2.mono h.size)⟩))
    have HEY3 := Lib.hid (show ∀ W, Below W3.heap.size W3 W → Calls Tryd.prog 9 #[.agg #[.int .u8 b0, .int .i64 b1, .string b2, .slice B2 b3 d2]] W fun e w' => e = .returned (.string S2) ∧ Below W3.heap.size W3 w' from fun W h => (HEY.out W (hb3.trans (h.mono hb3.size))).mono (by rintro e w' ⟨rfl, h2⟩; exact ⟨rfl, h.trans (h2.mono h.size)⟩))
    have HBX3 := Lib.hid (show ∀ W, Below W3.heap.size W3 W → Calls Tryd.prog 22 #[.agg #[.int .u8 a0, .int .i64 a1, .string a2, .slice B a3 d]] W fun e w' => e = .returned (.bool ba) ∧ Below W3.heap.size W3 w' from fun W h => (HBX.out W (hb3.trans (h.mono hb3.size))).mono (by rintro e w' ⟨rfl, h2⟩; exact ⟨rfl, h.trans (h2.mono h.size)⟩))
    have HBY3 := Lib.hid (show ∀ W, Below W3.heap.size W3 W → Calls Tryd.prog 22 #[.agg #[.int .u8 b0, .int .i64 b1, .string b2, .slice B2 b3 d2]] W fun e w' => e = .returned (.bool bb) ∧ Below W3.heap.size W3 w' from fun W h => (HBY.out W (hb3.trans (h.mono hb3.size))).mono (by rintro e w' ⟨rfl, h2⟩; exact ⟨rfl, h.trans (h2.mono h.size)⟩))
    have HLN3 := Lib.hid (show ∀ W, Below W3.heap.size W3 W → Calls Tryd.prog 24 #[.agg #[.int .u8 n.f0, .int .i64 n.f1, .string n.f2, .slice (some ad) 2 c]] W fun e w' => e = .returned (.int .i64 lv) ∧ Below W3.heap.size W3 w' from fun W h => (HLN.out W (hb3.trans (h.mono hb3.size))).mono (by rintro e w' ⟨rfl, h2⟩; exact ⟨rfl, h.trans (h2.mono h.size)⟩))
    have HLX3 := Lib.hid (show ba = true → ∀ W, Below W3.heap.size W3 W → Calls Tryd.prog 24 #[.agg #[.int .u8 a0, .int .i64 a1, .string a2, .slice B a3 d]] W fun e w' => e = .returned (.int .i64 la) ∧ Below W3.heap.size W3 w' from fun hh => fun W h => (HLX.out hh W (hb3.trans (h.mono hb3.size))).mono (by rintro e w' ⟨rfl, h2⟩; exact ⟨rfl, h.trans (h2.mono h.size)⟩))
    have HLY3 := Lib.hid (show bb = true → ∀ W, Below W3.heap.size W3 W → Calls Tryd.prog 24 #[.agg #[.int .u8 b0, .int .i64 b1, .string b2, .slice B2 b3 d2]] W fun e w' => e = .returned (.int .i64 lb) ∧ Below W3.heap.size W3 w' from fun hh => fun W h => (HLY.out hh W (hb3.trans (h.mono hb3.size))).mono (by rintro e w' ⟨rfl, h2⟩; exact ⟨rfl, h.trans (h2.mono h.size)⟩))
    have HWX3 := Lib.hid (show ∀ W, Below W3.heap.size W3 W → Calls Tryd.prog 23 #[.string S, .bool (ba && decide (la < lv))] W fun e w' => e = .returned (.string T) ∧ Below W3.heap.size W3 w' from fun W h => (HWX.out W (hb3.trans (h.mono hb3.size))).mono (by rintro e w' ⟨rfl, h2⟩; exact ⟨rfl, h.trans (h2.mono h.size)⟩))
    have HWY3 := Lib.hid (show ∀ W, Below W3.heap.size W3 W → Calls Tryd.prog 23 #[.string S2, .bool (bb && decide (lb ≤ lv))] W fun e w' => e = .returned (.string T2) ∧ Below W3.heap.size W3 w' from fun W h => (HWY.out W (hb3.trans (h.mono hb3.size))).mono (by rintro e w' ⟨rfl, h2⟩; exact ⟨rfl, h.trans (h2.mono h.size)⟩))
    have HB3 := Lib.hid hb3
    have HAT := Lib.hid allT
    clear HEX HEY HBX HBY HLN HLX HLY HWX HWY HBN HSY HAS at_al at_set hb3 allT allS hb2
    obtain ⟨zz, hzz⟩ : ∃ z, z = W2.heap.size := ⟨_, rfl⟩
    rw [← hzz] at p0 p1 p2 p3 q0 q1 q2 q3 HAT ⊢
    clear hzz
    cases ba <;> cases bb
    · have HWX4 := Lib.hid (show ∀ W, Below W3.heap.size W3 W → Calls Tryd.prog 23 #[.string S, .bool (false)] W fun e w' => e = .returned (.string T) ∧ Below W3.heap.size W3 w' from HWX3.out)
      have HWY4 := Lib.hid (show ∀ W, Below W3.heap.size W3 W → Calls Tryd.prog 23 #[.string S2, .bool (false)] W fun e w' => e = .returned (.string T2) ∧ Below W3.heap.size W3 w' from HWY3.out)
      clear HWX3 HWY3
      go_wp2_with fail
      have allT := HAT.out
      have hrefl : Below W3.heap.size W3 W3 := Below.refl _ _
      refine wp_region_held_drew (S := fun W => W.cell? ⟨w.heap.size, 0, none⟩ = some (.int .u8 n.f0) ∧ W.cell? ⟨w.heap.size, 1, none⟩ = some (.int .i64 n.f1) ∧ W.cell? ⟨w.heap.size, 2, none⟩ = some (.string n.f2) ∧ W.cell? ⟨w.heap.size, 3, none⟩ = some (.slice (some ad) 2 c) ∧ W.cell? ⟨zz + 1, 0, none⟩ = some (.int .u8 a0) ∧ W.cell? ⟨zz + 1, 1, none⟩ = some (.int .i64 a1) ∧ W.cell? ⟨zz + 1, 2, none⟩ = some (.string a2) ∧ W.cell? ⟨zz + 1, 3, none⟩ = some (.slice B a3 d) ∧ W.cell? ⟨zz, 0, none⟩ = some (.int .u8 b0) ∧ W.cell? ⟨zz, 1, none⟩ = some (.int .i64 b1) ∧ W.cell? ⟨zz, 2, none⟩ = some (.string b2) ∧ W.cell? ⟨zz, 3, none⟩ = some (.slice B2 b3 d2)) (by kernel_rfl) (allT _ (below_drew1 hrefl)) (fun hH => ?_)
      have hcur := below_drew1 hrefl
      refine wpAnyH_take (i := 0) (v := ?v181) rfl (by kernel_rfl) (by kernel_rfl) (by kernel_rfl) (fun _ _ _ h => h) (Or.inl ⟨by rfl, ?hy181⟩) hH ?rest181
      case hy181 => (intro w hSw; (try dsimp only at hSw); go_simp; try with_reducible rfl)
      try simp only [List.getElem_toArray, List.getElem_cons_succ, List.getElem_cons_zero, Act.put, List.setIfInBounds_toArray, List.set_cons_zero, List.set_cons_succ]
      refine wpAnyH_take (i := 2) (v := ?v182) rfl (by kernel_rfl) (by kernel_rfl) (by kernel_rfl) (fun _ _ _ h => h) (Or.inl ⟨by rfl, ?hy182⟩) hH ?rest182
      case hy182 => (intro w hSw; (try dsimp only at hSw); go_simp; try with_reducible rfl)
      try simp only [List.getElem_toArray, List.getElem_cons_succ, List.getElem_cons_zero, Act.put, List.setIfInBounds_toArray, List.set_cons_zero, List.set_cons_succ]
      refine wpAnyH_take (i := 13) (v := ?v183) rfl (by kernel_rfl) (by kernel_rfl) (by kernel_rfl) (fun _ _ _ h => h) (Or.inl ⟨by rfl, ?hy183⟩) hH ?rest183
      case hy183 => (intro w hSw; (try dsimp only at hSw); go_simp; try with_reducible rfl)
      try simp only [List.getElem_toArray, List.getElem_cons_succ, List.getElem_cons_zero, Act.put, List.setIfInBounds_toArray, List.set_cons_zero, List.set_cons_succ]
      refine wpAnyH_take (i := 16) (v := ?v184) rfl (by kernel_rfl) (by kernel_rfl) (by kernel_rfl) (fun _ _ _ h => h) (Or.inl ⟨by rfl, ?hy184⟩) hH ?rest184
      case hy184 => (intro w hSw; (try dsimp only at hSw); go_simp; try with_reducible rfl)
      try simp only [List.getElem_toArray, List.getElem_cons_succ, List.getElem_cons_zero, Act.put, List.setIfInBounds_toArray, List.set_cons_zero, List.set_cons_succ]
      refine wpAnyH_take (i := 18) (v := ?v185) rfl (by kernel_rfl) (by kernel_rfl) (by kernel_rfl) (fun _ _ _ h => h) (Or.inl ⟨by rfl, ?hy185⟩) hH ?rest185
      case hy185 => (intro w hSw; (try dsimp only at hSw); go_simp; try with_reducible rfl)
      try simp only [List.getElem_toArray, List.getElem_cons_succ, List.getElem_cons_zero, Act.put, List.setIfInBounds_toArray, List.set_cons_zero, List.set_cons_succ]
      refine wpAnyH_ready (rs := [1]) (by kernel_rfl) (by simp) ?_
      refine AllReadyH.cons rfl (fun K hK => ?_) AllReadyH.nil
      go_simp
      go_at_call 9
      (with_reducible refine (HEX3.out _ hcur).mono ?_)
      clear hcur hH
      rintro e w' ⟨rfl, hcur⟩
      have hH := allT _ hcur
      refine hK.out _ _ hH (fun _ => ?_)
      clear hK K
      try simp only [List.getElem_toArray, List.getElem_cons_succ, List.getElem_cons_zero, Act.put, List.setIfInBounds_toArray, List.set_cons_zero, List.set_cons_succ]
      refine wpAnyH_ready (rs := [3]) (by kernel_rfl) (by simp) ?_
      refine AllReadyH.cons rfl (fun K hK => ?_) AllReadyH.nil
      go_simp
      go_at_call 22
      (with_reducible refine (HBX3.out _ hcur).mono ?_)
      clear hcur hH
      rintro e w' ⟨rfl, hcur⟩
      have hH := allT _ hcur
      refine hK.out _ _ hH (fun _ => ?_)
      clear hK K
      try simp only [List.getElem_toArray, List.getElem_cons_succ, List.getElem_cons_zero, Act.put, List.setIfInBounds_toArray, List.set_cons_zero, List.set_cons_succ]
      refine wpAnyH_take (i := 4) (v := ?v186) rfl (by kernel_rfl) (by kernel_rfl) (by kernel_rfl) (fun _ _ _ h => h) (Or.inl ⟨by rfl, ?hy186⟩) hH ?rest186
      case hy186 => (intro w hSw; (try dsimp only at hSw); go_simp; try with_reducible rfl)
      try simp only [List.getElem_toArray, List.getElem_cons_succ, List.getElem_cons_zero, Act.put, List.setIfInBounds_toArray, List.set_cons_zero, List.set_cons_succ]
      refine wpAnyH_take (i := 5) (v := undef) rfl (by kernel_rfl) (by kernel_rfl) (by kernel_rfl) (fun _ _ _ h => h) (Or.inr ⟨by rfl, rfl⟩) hH ?rest187
      try simp only [List.getElem_toArray, List.getElem_cons_succ, List.getElem_cons_zero, Act.put, List.setIfInBounds_toArray, List.set_cons_zero, List.set_cons_succ]
      refine wpAnyH_take (i := 7) (v := undef) rfl (by kernel_rfl) (by kernel_rfl) (by kernel_rfl) (fun _ _ _ h => h) (Or.inr ⟨by rfl, rfl⟩) hH ?rest188
      try simp only [List.getElem_toArray, List.getElem_cons_succ, List.getElem_cons_zero, Act.put, List.setIfInBounds_toArray, List.set_cons_zero, List.set_cons_succ]
      refine wpAnyH_ready (rs := [6]) (by kernel_rfl) (by simp) ?_
      refine AllReadyH.cons rfl (fun K hK => ?_) AllReadyH.nil
      go_simp
      refine hK.out _ _ hH (fun _ => ?_)
      clear hK K
      try simp only [List.getElem_toArray, List.getElem_cons_succ, List.getElem_cons_zero, Act.put, List.setIfInBounds_toArray, List.set_cons_zero, List.set_cons_succ]
      refine wpAnyH_ready (rs := [8]) (by kernel_rfl) (by simp) ?_
      refine AllReadyH.cons rfl (fun K hK => ?_) AllReadyH.nil
      go_simp
      refine hK.out _ _ hH (fun _ => ?_)
      clear hK K
      try simp only [List.getElem_toArray, List.getElem_cons_succ, List.getElem_cons_zero, Act.put, List.setIfInBounds_toArray, List.set_cons_zero, List.set_cons_succ]
      refine wpAnyH_take (i := 9) (v := undef) rfl (by kernel_rfl) (by kernel_rfl) (by kernel_rfl) (fun _ _ _ h => h) (Or.inr ⟨by rfl, rfl⟩) hH ?rest189
      try simp only [List.getElem_toArray, List.getElem_cons_succ, List.getElem_cons_zero, Act.put, List.setIfInBounds_toArray, List.set_cons_zero, List.set_cons_succ]
      refine wpAnyH_take (i := 10) (v := ?v190) rfl (by kernel_rfl) (by kernel_rfl) (by kernel_rfl) (fun _ _ _ h => h) (Or.inl ⟨by rfl, ?hy190⟩) hH ?rest190
      case hy190 => (intro w hSw; (try dsimp only at hSw); go_simp; try with_reducible rfl)
      try simp only [List.getElem_toArray, List.getElem_cons_succ, List.getElem_cons_zero, Act.put, List.setIfInBounds_toArray, List.set_cons_zero, List.set_cons_succ]
      refine wpAnyH_ready (rs := [11]) (by kernel_rfl) (by simp) ?_
      refine AllReadyH.cons rfl (fun K hK => ?_) AllReadyH.nil
      go_simp
      go_at_call 23
      (with_reducible refine (HWX4.out _ hcur).mono ?_)
      clear hcur hH
      rintro e w' ⟨rfl, hcur⟩
      have hH := allT _ hcur
      refine hK.out _ _ hH (fun _ => ?_)
      clear hK K
      try simp only [List.getElem_toArray, List.getElem_cons_succ, List.getElem_cons_zero, Act.put, List.setIfInBounds_toArray, List.set_cons_zero, List.set_cons_succ]
      refine wpAnyH_take (i := 12) (v := ?v191) rfl (by kernel_rfl) (by kernel_rfl) (by kernel_rfl) (fun _ _ _ h => h) (Or.inl ⟨by rfl, ?hy191⟩) hH ?rest191
      case hy191 => (intro w hSw; (try dsimp only at hSw); go_simp; try with_reducible rfl)
      try simp only [List.getElem_toArray, List.getElem_cons_succ, List.getElem_cons_zero, Act.put, List.setIfInBounds_toArray, List.set_cons_zero, List.set_cons_succ]
      refine wpAnyH_take (i := 14) (v := ?v192) rfl (by kernel_rfl) (by kernel_rfl) (by kernel_rfl) (fun _ _ _ h => h) (Or.inl ⟨by rfl, ?hy192⟩) hH ?rest192
      case hy192 => (intro w hSw; (try dsimp only at hSw); go_simp; try with_reducible rfl)
      try simp only [List.getElem_toArray, List.getElem_cons_succ, List.getElem_cons_zero, Act.put, List.setIfInBounds_toArray, List.set_cons_zero, List.set_cons_succ]
      refine wpAnyH_take (i := 15) (v := ?v193) rfl (by kernel_rfl) (by kernel_rfl) (by kernel_rfl) (fun _ _ _ h => h) (Or.inl ⟨by rfl, ?hy193⟩) hH ?rest193
      case hy193 => (intro w hSw; (try dsimp only at hSw); go_simp; try with_reducible rfl)
      try simp only [List.getElem_toArray, List.getElem_cons_succ, List.getElem_cons_zero, Act.put, List.setIfInBounds_toArray, List.set_cons_zero, List.set_cons_succ]
      refine wpAnyH_ready (rs := [17]) (by kernel_rfl) (by simp) ?_
      refine AllReadyH.cons rfl (fun K hK => ?_) AllReadyH.nil
      go_simp
      go_at_call 9
      (with_reducible refine (HEY3.out _ hcur).mono ?_)
      clear hcur hH
      rintro e w' ⟨rfl, hcur⟩
      have hH := allT _ hcur
      refine hK.out _ _ hH (fun _ => ?_)
      clear hK K
      try simp only [List.getElem_toArray, List.getElem_cons_succ, List.getElem_cons_zero, Act.put, List.setIfInBounds_toArray, List.set_cons_zero, List.set_cons_succ]
      refine wpAnyH_ready (rs := [19]) (by kernel_rfl) (by simp) ?_
      refine AllReadyH.cons rfl (fun K hK => ?_) AllReadyH.nil
      go_simp
      go_at_call 22
      (with_reducible refine (HBY3.out _ hcur).mono ?_)
      clear hcur hH
      rintro e w' ⟨rfl, hcur⟩
      have hH := allT _ hcur
      refine hK.out _ _ hH (fun _ => ?_)
      clear hK K
      try simp only [List.getElem_toArray, List.getElem_cons_succ, List.getElem_cons_zero, Act.put, List.setIfInBounds_toArray, List.set_cons_zero, List.set_cons_succ]
      refine wpAnyH_take (i := 20) (v := ?v194) rfl (by kernel_rfl) (by kernel_rfl) (by kernel_rfl) (fun _ _ _ h => h) (Or.inl ⟨by rfl, ?hy194⟩) hH ?rest194
      case hy194 => (intro w hSw; (try dsimp only at hSw); go_simp; try with_reducible rfl)
      try simp only [List.getElem_toArray, List.getElem_cons_succ, List.getElem_cons_zero, Act.put, List.setIfInBounds_toArray, List.set_cons_zero, List.set_cons_succ]
      refine wpAnyH_take (i := 21) (v := undef) rfl (by kernel_rfl) (by kernel_rfl) (by kernel_rfl) (fun _ _ _ h => h) (Or.inr ⟨by rfl, rfl⟩) hH ?rest195
      try simp only [List.getElem_toArray, List.getElem_cons_succ, List.getElem_cons_zero, Act.put, List.setIfInBounds_toArray, List.set_cons_zero, List.set_cons_succ]
      refine wpAnyH_take (i := 23) (v := undef) rfl (by kernel_rfl) (by kernel_rfl) (by kernel_rfl) (fun _ _ _ h => h) (Or.inr ⟨by rfl, rfl⟩) hH ?rest196
      try simp only [List.getElem_toArray, List.getElem_cons_succ, List.getElem_cons_zero, Act.put, List.setIfInBounds_toArray, List.set_cons_zero, List.set_cons_succ]
      refine wpAnyH_ready (rs := [22]) (by kernel_rfl) (by simp) ?_
      refine AllReadyH.cons rfl (fun K hK => ?_) AllReadyH.nil
      go_simp
      refine hK.out _ _ hH (fun _ => ?_)
      clear hK K
      try simp only [List.getElem_toArray, List.getElem_cons_succ, List.getElem_cons_zero, Act.put, List.setIfInBounds_toArray, List.set_cons_zero, List.set_cons_succ]
      refine wpAnyH_ready (rs := [24]) (by kernel_rfl) (by simp) ?_
      refine AllReadyH.cons rfl (fun K hK => ?_) AllReadyH.nil
      go_simp
      refine hK.out _ _ hH (fun _ => ?_)
      clear hK K
      try simp only [List.getElem_toArray, List.getElem_cons_succ, List.getElem_cons_zero, Act.put, List.setIfInBounds_toArray, List.set_cons_zero, List.set_cons_succ]
      refine wpAnyH_take (i := 25) (v := undef) rfl (by kernel_rfl) (by kernel_rfl) (by kernel_rfl) (fun _ _ _ h => h) (Or.inr ⟨by rfl, rfl⟩) hH ?rest197
      try simp only [List.getElem_toArray, List.getElem_cons_succ, List.getElem_cons_zero, Act.put, List.setIfInBounds_toArray, List.set_cons_zero, List.set_cons_succ]
      refine wpAnyH_take (i := 26) (v := ?v198) rfl (by kernel_rfl) (by kernel_rfl) (by kernel_rfl) (fun _ _ _ h => h) (Or.inl ⟨by rfl, ?hy198⟩) hH ?rest198
      case hy198 => (intro w hSw; (try dsimp only at hSw); go_simp; try with_reducible rfl)
      try simp only [List.getElem_toArray, List.getElem_cons_succ, List.getElem_cons_zero, Act.put, List.setIfInBounds_toArray, List.set_cons_zero, List.set_cons_succ]
      refine wpAnyH_ready (rs := [27]) (by kernel_rfl) (by simp) ?_
      refine AllReadyH.cons rfl (fun K hK => ?_) AllReadyH.nil
      go_simp
      go_at_call 23
      (with_reducible refine (HWY4.out _ hcur).mono ?_)
      clear hcur hH
      rintro e w' ⟨rfl, hcur⟩
      have hH := allT _ hcur
      refine hK.out _ _ hH (fun _ => ?_)
      clear hK K
      try simp only [List.getElem_toArray, List.getElem_cons_succ, List.getElem_cons_zero, Act.put, List.setIfInBounds_toArray, List.set_cons_zero, List.set_cons_succ]
      refine wpAnyH_take (i := 28) (v := ?v199) rfl (by kernel_rfl) (by kernel_rfl) (by kernel_rfl) (fun _ _ _ h => h) (Or.inl ⟨by rfl, ?hy199⟩) hH ?rest199
      case hy199 => (intro w hSw; (try dsimp only at hSw); go_simp; try with_reducible rfl)
      try simp only [List.getElem_toArray, List.getElem_cons_succ, List.getElem_cons_zero, Act.put, List.setIfInBounds_toArray, List.set_cons_zero, List.set_cons_succ]
      refine wpAnyH_take (i := 29) (v := ?v200) rfl (by kernel_rfl) (by kernel_rfl) (by kernel_rfl) (fun _ _ _ h => h) (Or.inl ⟨by rfl, ?hy200⟩) hH ?rest200
      case hy200 => (intro w hSw; (try dsimp only at hSw); go_simp; try with_reducible rfl)
      try simp only [List.getElem_toArray, List.getElem_cons_succ, List.getElem_cons_zero, Act.put, List.setIfInBounds_toArray, List.set_cons_zero, List.set_cons_succ]
      refine wpAnyH_done (by kernel_rfl) ?_ _
      go_wp2
      go_ret
      refine ⟨?_, HB.out.trans ((HB3.out.trans (Below.mono hcur HB3.out.size)).mono HB.out.size)⟩
      rw [HR.out]
      show Ending.returned (Value.string _) = _
      congr 2
      all_goals exact bytes_eq (by rw [HS.out.1, HS.out.2.1, HS.out.2.2]; simp [ByteArray.data_append])
    · have HWX4 := Lib.hid (show ∀ W, Below W3.heap.size W3 W → Calls Tryd.prog 23 #[.string S, .bool (false)] W fun e w' => e = .returned (.string T) ∧ Below W3.heap.size W3 w' from HWX3.out)
      have HWY4 := Lib.hid (show ∀ W, Below W3.heap.size W3 W → Calls Tryd.prog 23 #[.string S2, .bool (decide (lb ≤ lv))] W fun e w' => e = .returned (.string T2) ∧ Below W3.heap.size W3 w' from HWY3.out)
      clear HWX3 HWY3
      go_wp2_with fail
      have allT := HAT.out
      have hrefl : Below W3.heap.size W3 W3 := Below.refl _ _
      refine wp_region_held_drew (S := fun W => W.cell? ⟨w.heap.size, 0, none⟩ = some (.int .u8 n.f0) ∧ W.cell? ⟨w.heap.size, 1, none⟩ = some (.int .i64 n.f1) ∧ W.cell? ⟨w.heap.size, 2, none⟩ = some (.string n.f2) ∧ W.cell? ⟨w.heap.size, 3, none⟩ = some (.slice (some ad) 2 c) ∧ W.cell? ⟨zz + 1, 0, none⟩ = some (.int .u8 a0) ∧ W.cell? ⟨zz + 1, 1, none⟩ = some (.int .i64 a1) ∧ W.cell? ⟨zz + 1, 2, none⟩ = some (.string a2) ∧ W.cell? ⟨zz + 1, 3, none⟩ = some (.slice B a3 d) ∧ W.cell? ⟨zz, 0, none⟩ = some (.int .u8 b0) ∧ W.cell? ⟨zz, 1, none⟩ = some (.int .i64 b1) ∧ W.cell? ⟨zz, 2, none⟩ = some (.string b2) ∧ W.cell? ⟨zz, 3, none⟩ = some (.slice B2 b3 d2)) (by kernel_rfl) (allT _ (below_drew1 hrefl)) (fun hH => ?_)
      have hcur := below_drew1 hrefl
      refine wpAnyH_take (i := 0) (v := ?v201) rfl (by kernel_rfl) (by kernel_rfl) (by kernel_rfl) (fun _ _ _ h => h) (Or.inl ⟨by rfl, ?hy201⟩) hH ?rest201
      case hy201 => (intro w hSw; (try dsimp only at hSw); go_simp; try with_reducible rfl)
      try simp only [List.getElem_toArray, List.getElem_cons_succ, List.getElem_cons_zero, Act.put, List.setIfInBounds_toArray, List.set_cons_zero, List.set_cons_succ]
      refine wpAnyH_take (i := 2) (v := ?v202) rfl (by kernel_rfl) (by kernel_rfl) (by kernel_rfl) (fun _ _ _ h => h) (Or.inl ⟨by rfl, ?hy202⟩) hH ?rest202
      case hy202 => (intro w hSw; (try dsimp only at hSw); go_simp; try with_reducible rfl)
      try simp only [List.getElem_toArray, List.getElem_cons_succ, List.getElem_cons_zero, Act.put, List.setIfInBounds_toArray, List.set_cons_zero, List.set_cons_succ]
      refine wpAnyH_take (i := 13) (v := ?v203) rfl (by kernel_rfl) (by kernel_rfl) (by kernel_rfl) (fun _ _ _ h => h) (Or.inl ⟨by rfl, ?hy203⟩) hH ?rest203
      case hy203 => (intro w hSw; (try dsimp only at hSw); go_simp; try with_reducible rfl)
      try simp only [List.getElem_toArray, List.getElem_cons_succ, List.getElem_cons_zero, Act.put, List.setIfInBounds_toArray, List.set_cons_zero, List.set_cons_succ]
      refine wpAnyH_take (i := 16) (v := ?v204) rfl (by kernel_rfl) (by kernel_rfl) (by kernel_rfl) (fun _ _ _ h => h) (Or.inl ⟨by rfl, ?hy204⟩) hH ?rest204
      case hy204 => (intro w hSw; (try dsimp only at hSw); go_simp; try with_reducible rfl)
      try simp only [List.getElem_toArray, List.getElem_cons_succ, List.getElem_cons_zero, Act.put, List.setIfInBounds_toArray, List.set_cons_zero, List.set_cons_succ]
      refine wpAnyH_take (i := 18) (v := ?v205) rfl (by kernel_rfl) (by kernel_rfl) (by kernel_rfl) (fun _ _ _ h => h) (Or.inl ⟨by rfl, ?hy205⟩) hH ?rest205
      case hy205 => (intro w hSw; (try dsimp only at hSw); go_simp; try with_reducible rfl)
      try simp only [List.getElem_toArray, List.getElem_cons_succ, List.getElem_cons_zero, Act.put, List.setIfInBounds_toArray, List.set_cons_zero, List.set_cons_succ]
      refine wpAnyH_ready (rs := [1]) (by kernel_rfl) (by simp) ?_
      refine AllReadyH.cons rfl (fun K hK => ?_) AllReadyH.nil
      go_simp
      go_at_call 9
      (with_reducible refine (HEX3.out _ hcur).mono ?_)
      clear hcur hH
      rintro e w' ⟨rfl, hcur⟩
      have hH := allT _ hcur
      refine hK.out _ _ hH (fun _ => ?_)
      clear hK K
      try simp only [List.getElem_toArray, List.getElem_cons_succ, List.getElem_cons_zero, Act.put, List.setIfInBounds_toArray, List.set_cons_zero, List.set_cons_succ]
      refine wpAnyH_ready (rs := [3]) (by kernel_rfl) (by simp) ?_
      refine AllReadyH.cons rfl (fun K hK => ?_) AllReadyH.nil
      go_simp
      go_at_call 22
      (with_reducible refine (HBX3.out _ hcur).mono ?_)
      clear hcur hH
      rintro e w' ⟨rfl, hcur⟩
      have hH := allT _ hcur
      refine hK.out _ _ hH (fun _ => ?_)
      clear hK K
      try simp only [List.getElem_toArray, List.getElem_cons_succ, List.getElem_cons_zero, Act.put, List.setIfInBounds_toArray, List.set_cons_zero, List.set_cons_succ]
      refine wpAnyH_take (i := 4) (v := ?v206) rfl (by kernel_rfl) (by kernel_rfl) (by kernel_rfl) (fun _ _ _ h => h) (Or.inl ⟨by rfl, ?hy206⟩) hH ?rest206
      case hy206 => (intro w hSw; (try dsimp only at hSw); go_simp; try with_reducible rfl)
      try simp only [List.getElem_toArray, List.getElem_cons_succ, List.getElem_cons_zero, Act.put, List.setIfInBounds_toArray, List.set_cons_zero, List.set_cons_succ]
      refine wpAnyH_take (i := 5) (v := undef) rfl (by kernel_rfl) (by kernel_rfl) (by kernel_rfl) (fun _ _ _ h => h) (Or.inr ⟨by rfl, rfl⟩) hH ?rest207
      try simp only [List.getElem_toArray, List.getElem_cons_succ, List.getElem_cons_zero, Act.put, List.setIfInBounds_toArray, List.set_cons_zero, List.set_cons_succ]
      refine wpAnyH_take (i := 7) (v := undef) rfl (by kernel_rfl) (by kernel_rfl) (by kernel_rfl) (fun _ _ _ h => h) (Or.inr ⟨by rfl, rfl⟩) hH ?rest208
      try simp only [List.getElem_toArray, List.getElem_cons_succ, List.getElem_cons_zero, Act.put, List.setIfInBounds_toArray, List.set_cons_zero, List.set_cons_succ]
      refine wpAnyH_ready (rs := [6]) (by kernel_rfl) (by simp) ?_
      refine AllReadyH.cons rfl (fun K hK => ?_) AllReadyH.nil
      go_simp
      refine hK.out _ _ hH (fun _ => ?_)
      clear hK K
      try simp only [List.getElem_toArray, List.getElem_cons_succ, List.getElem_cons_zero, Act.put, List.setIfInBounds_toArray, List.set_cons_zero, List.set_cons_succ]
      refine wpAnyH_ready (rs := [8]) (by kernel_rfl) (by simp) ?_
      refine AllReadyH.cons rfl (fun K hK => ?_) AllReadyH.nil
      go_simp
      refine hK.out _ _ hH (fun _ => ?_)
      clear hK K
      try simp only [List.getElem_toArray, List.getElem_cons_succ, List.getElem_cons_zero, Act.put, List.setIfInBounds_toArray, List.set_cons_zero, List.set_cons_succ]
      refine wpAnyH_take (i := 9) (v := undef) rfl (by kernel_rfl) (by kernel_rfl) (by kernel_rfl) (fun _ _ _ h => h) (Or.inr ⟨by rfl, rfl⟩) hH ?rest209
      try simp only [List.getElem_toArray, List.getElem_cons_succ, List.getElem_cons_zero, Act.put, List.setIfInBounds_toArray, List.set_cons_zero, List.set_cons_succ]
      refine wpAnyH_take (i := 10) (v := ?v210) rfl (by kernel_rfl) (by kernel_rfl) (by kernel_rfl) (fun _ _ _ h => h) (Or.inl ⟨by rfl, ?hy210⟩) hH ?rest210
      case hy210 => (intro w hSw; (try dsimp only at hSw); go_simp; try with_reducible rfl)
      try simp only [List.getElem_toArray, List.getElem_cons_succ, List.getElem_cons_zero, Act.put, List.setIfInBounds_toArray, List.set_cons_zero, List.set_cons_succ]
      refine wpAnyH_ready (rs := [11]) (by kernel_rfl) (by simp) ?_
      refine AllReadyH.cons rfl (fun K hK => ?_) AllReadyH.nil
      go_simp
      go_at_call 23
      (with_reducible refine (HWX4.out _ hcur).mono ?_)
      clear hcur hH
      rintro e w' ⟨rfl, hcur⟩
      have hH := allT _ hcur
      refine hK.out _ _ hH (fun _ => ?_)
      clear hK K
      try simp only [List.getElem_toArray, List.getElem_cons_succ, List.getElem_cons_zero, Act.put, List.setIfInBounds_toArray, List.set_cons_zero, List.set_cons_succ]
      refine wpAnyH_take (i := 12) (v := ?v211) rfl (by kernel_rfl) (by kernel_rfl) (by kernel_rfl) (fun _ _ _ h => h) (Or.inl ⟨by rfl, ?hy211⟩) hH ?rest211
      case hy211 => (intro w hSw; (try dsimp only at hSw); go_simp; try with_reducible rfl)
      try simp only [List.getElem_toArray, List.getElem_cons_succ, List.getElem_cons_zero, Act.put, List.setIfInBounds_toArray, List.set_cons_zero, List.set_cons_succ]
      refine wpAnyH_take (i := 14) (v := ?v212) rfl (by kernel_rfl) (by kernel_rfl) (by kernel_rfl) (fun _ _ _ h => h) (Or.inl ⟨by rfl, ?hy212⟩) hH ?rest212
      case hy212 => (intro w hSw; (try dsimp only at hSw); go_simp; try with_reducible rfl)
      try simp only [List.getElem_toArray, List.getElem_cons_succ, List.getElem_cons_zero, Act.put, List.setIfInBounds_toArray, List.set_cons_zero, List.set_cons_succ]
      refine wpAnyH_take (i := 15) (v := ?v213) rfl (by kernel_rfl) (by kernel_rfl) (by kernel_rfl) (fun _ _ _ h => h) (Or.inl ⟨by rfl, ?hy213⟩) hH ?rest213
      case hy213 => (intro w hSw; (try dsimp only at hSw); go_simp; try with_reducible rfl)
      try simp only [List.getElem_toArray, List.getElem_cons_succ, List.getElem_cons_zero, Act.put, List.setIfInBounds_toArray, List.set_cons_zero, List.set_cons_succ]
      refine wpAnyH_ready (rs := [17]) (by kernel_rfl) (by simp) ?_
      refine AllReadyH.cons rfl (fun K hK => ?_) AllReadyH.nil
      go_simp
      go_at_call 9
      (with_reducible refine (HEY3.out _ hcur).mono ?_)
      clear hcur hH
      rintro e w' ⟨rfl, hcur⟩
      have hH := allT _ hcur
      refine hK.out _ _ hH (fun _ => ?_)
      clear hK K
      try simp only [List.getElem_toArray, List.getElem_cons_succ, List.getElem_cons_zero, Act.put, List.setIfInBounds_toArray, List.set_cons_zero, List.set_cons_succ]
      refine wpAnyH_ready (rs := [19]) (by kernel_rfl) (by simp) ?_
      refine AllReadyH.cons rfl (fun K hK => ?_) AllReadyH.nil
      go_simp
      go_at_call 22
      (with_reducible refine (HBY3.out _ hcur).mono ?_)
      clear hcur hH
      rintro e w' ⟨rfl, hcur⟩
      have hH := allT _ hcur
      refine hK.out _ _ hH (fun _ => ?_)
      clear hK K
      try simp only [List.getElem_toArray, List.getElem_cons_succ, List.getElem_cons_zero, Act.put, List.setIfInBounds_toArray, List.set_cons_zero, List.set_cons_succ]
      refine wpAnyH_take (i := 20) (v := ?v214) rfl (by kernel_rfl) (by kernel_rfl) (by kernel_rfl) (fun _ _ _ h => h) (Or.inl ⟨by rfl, ?hy214⟩) hH ?rest214
      case hy214 => (intro w hSw; (try dsimp only at hSw); go_simp; try with_reducible rfl)
      try simp only [List.getElem_toArray, List.getElem_cons_succ, List.getElem_cons_zero, Act.put, List.setIfInBounds_toArray, List.set_cons_zero, List.set_cons_succ]
      refine wpAnyH_take (i := 21) (v := ?v215) rfl (by kernel_rfl) (by kernel_rfl) (by kernel_rfl) (fun _ _ _ h => h) (Or.inl ⟨by rfl, ?hy215⟩) hH ?rest215
      case hy215 => (intro w hSw; (try dsimp only at hSw); go_simp; try with_reducible rfl)
      try simp only [List.getElem_toArray, List.getElem_cons_succ, List.getElem_cons_zero, Act.put, List.setIfInBounds_toArray, List.set_cons_zero, List.set_cons_succ]
      refine wpAnyH_take (i := 23) (v := ?v216) rfl (by kernel_rfl) (by kernel_rfl) (by kernel_rfl) (fun _ _ _ h => h) (Or.inl ⟨by rfl, ?hy216⟩) hH ?rest216
      case hy216 => (intro w hSw; (try dsimp only at hSw); go_simp; try with_reducible rfl)
      try simp only [List.getElem_toArray, List.getElem_cons_succ, List.getElem_cons_zero, Act.put, List.setIfInBounds_toArray, List.set_cons_zero, List.set_cons_succ]
      refine wpAnyH_ready (rs := [22]) (by kernel_rfl) (by simp) ?_
      refine AllReadyH.cons rfl (fun K hK => ?_) AllReadyH.nil
      go_simp
      go_at_call 24
      (with_reducible refine (HLY3.out (by first | trivial | rfl) _ hcur).mono ?_)
      clear hcur hH
      rintro e w' ⟨rfl, hcur⟩
      have hH := allT _ hcur
      refine hK.out _ _ hH (fun _ => ?_)
      clear hK K
      try simp only [List.getElem_toArray, List.getElem_cons_succ, List.getElem_cons_zero, Act.put, List.setIfInBounds_toArray, List.set_cons_zero, List.set_cons_succ]
      refine wpAnyH_ready (rs := [24]) (by kernel_rfl) (by simp) ?_
      refine AllReadyH.cons rfl (fun K hK => ?_) AllReadyH.nil
      go_simp
      go_at_call 24
      (with_reducible refine (HLN3.out _ hcur).mono ?_)
      clear hcur hH
      rintro e w' ⟨rfl, hcur⟩
      have hH := allT _ hcur
      refine hK.out _ _ hH (fun _ => ?_)
      clear hK K
      try simp only [List.getElem_toArray, List.getElem_cons_succ, List.getElem_cons_zero, Act.put, List.setIfInBounds_toArray, List.set_cons_zero, List.set_cons_succ]
      refine wpAnyH_take (i := 25) (v := ?v217) rfl (by kernel_rfl) (by kernel_rfl) (by kernel_rfl) (fun _ _ _ h => h) (Or.inl ⟨by rfl, ?hy217⟩) hH ?rest217
      case hy217 => (intro w hSw; (try dsimp only at hSw); go_simp; try with_reducible rfl)
      try simp only [List.getElem_toArray, List.getElem_cons_succ, List.getElem_cons_zero, Act.put, List.setIfInBounds_toArray, List.set_cons_zero, List.set_cons_succ]
      refine wpAnyH_take (i := 26) (v := ?v218) rfl (by kernel_rfl) (by kernel_rfl) (by kernel_rfl) (fun _ _ _ h => h) (Or.inl ⟨by rfl, ?hy218⟩) hH ?rest218
      case hy218 => (intro w hSw; (try dsimp only at hSw); go_simp; try with_reducible rfl)
      try simp only [List.getElem_toArray, List.getElem_cons_succ, List.getElem_cons_zero, Act.put, List.setIfInBounds_toArray, List.set_cons_zero, List.set_cons_succ]
      refine wpAnyH_ready (rs := [27]) (by kernel_rfl) (by simp) ?_
      refine AllReadyH.cons rfl (fun K hK => ?_) AllReadyH.nil
      go_simp
      go_at_call 23
      (with_reducible refine (HWY4.out _ hcur).mono ?_)
      clear hcur hH
      rintro e w' ⟨rfl, hcur⟩
      have hH := allT _ hcur
      refine hK.out _ _ hH (fun _ => ?_)
      clear hK K
      try simp only [List.getElem_toArray, List.getElem_cons_succ, List.getElem_cons_zero, Act.put, List.setIfInBounds_toArray, List.set_cons_zero, List.set_cons_succ]
      refine wpAnyH_take (i := 28) (v := ?v219) rfl (by kernel_rfl) (by kernel_rfl) (by kernel_rfl) (fun _ _ _ h => h) (Or.inl ⟨by rfl, ?hy219⟩) hH ?rest219
      case hy219 => (intro w hSw; (try dsimp only at hSw); go_simp; try with_reducible rfl)
      try simp only [List.getElem_toArray, List.getElem_cons_succ, List.getElem_cons_zero, Act.put, List.setIfInBounds_toArray, List.set_cons_zero, List.set_cons_succ]
      refine wpAnyH_take (i := 29) (v := ?v220) rfl (by kernel_rfl) (by kernel_rfl) (by kernel_rfl) (fun _ _ _ h => h) (Or.inl ⟨by rfl, ?hy220⟩) hH ?rest220
      case hy220 => (intro w hSw; (try dsimp only at hSw); go_simp; try with_reducible rfl)
      try simp only [List.getElem_toArray, List.getElem_cons_succ, List.getElem_cons_zero, Act.put, List.setIfInBounds_toArray, List.set_cons_zero, List.set_cons_succ]
      refine wpAnyH_done (by kernel_rfl) ?_ _
      go_wp2
      go_ret
      refine ⟨?_, HB.out.trans ((HB3.out.trans (Below.mono hcur HB3.out.size)).mono HB.out.size)⟩
      rw [HR.out]
      show Ending.returned (Value.string _) = _
      congr 2
      all_goals exact bytes_eq (by rw [HS.out.1, HS.out.2.1, HS.out.2.2]; simp [ByteArray.data_append])
    · have HWX4 := Lib.hid (show ∀ W, Below W3.heap.size W3 W → Calls Tryd.prog 23 #[.string S, .bool (decide (la < lv))] W fun e w' => e = .returned (.string T) ∧ Below W3.heap.size W3 w' from HWX3.out)
      have HWY4 := Lib.hid (show ∀ W, Below W3.heap.size W3 W → Calls Tryd.prog 23 #[.string S2, .bool (false)] W fun e w' => e = .returned (.string T2) ∧ Below W3.heap.size W3 w' from HWY3.out)
      clear HWX3 HWY3
      go_wp2_with fail
      have allT := HAT.out
      have hrefl : Below W3.heap.size W3 W3 := Below.refl _ _
      refine wp_region_held_drew (S := fun W => W.cell? ⟨w.heap.size, 0, none⟩ = some (.int .u8 n.f0) ∧ W.cell? ⟨w.heap.size, 1, none⟩ = some (.int .i64 n.f1) ∧ W.cell? ⟨w.heap.size, 2, none⟩ = some (.string n.f2) ∧ W.cell? ⟨w.heap.size, 3, none⟩ = some (.slice (some ad) 2 c) ∧ W.cell? ⟨zz + 1, 0, none⟩ = some (.int .u8 a0) ∧ W.cell? ⟨zz + 1, 1, none⟩ = some (.int .i64 a1) ∧ W.cell? ⟨zz + 1, 2, none⟩ = some (.string a2) ∧ W.cell? ⟨zz + 1, 3, none⟩ = some (.slice B a3 d) ∧ W.cell? ⟨zz, 0, none⟩ = some (.int .u8 b0) ∧ W.cell? ⟨zz, 1, none⟩ = some (.int .i64 b1) ∧ W.cell? ⟨zz, 2, none⟩ = some (.string b2) ∧ W.cell? ⟨zz, 3, none⟩ = some (.slice B2 b3 d2)) (by kernel_rfl) (allT _ (below_drew1 hrefl)) (fun hH => ?_)
      have hcur := below_drew1 hrefl
      refine wpAnyH_take (i := 0) (v := ?v221) rfl (by kernel_rfl) (by kernel_rfl) (by kernel_rfl) (fun _ _ _ h => h) (Or.inl ⟨by rfl, ?hy221⟩) hH ?rest221
      case hy221 => (intro w hSw; (try dsimp only at hSw); go_simp; try with_reducible rfl)
      try simp only [List.getElem_toArray, List.getElem_cons_succ, List.getElem_cons_zero, Act.put, List.setIfInBounds_toArray, List.set_cons_zero, List.set_cons_succ]
      refine wpAnyH_take (i := 2) (v := ?v222) rfl (by kernel_rfl) (by kernel_rfl) (by kernel_rfl) (fun _ _ _ h => h) (Or.inl ⟨by rfl, ?hy222⟩) hH ?rest222
      case hy222 => (intro w hSw; (try dsimp only at hSw); go_simp; try with_reducible rfl)
      try simp only [List.getElem_toArray, List.getElem_cons_succ, List.getElem_cons_zero, Act.put, List.setIfInBounds_toArray, List.set_cons_zero, List.set_cons_succ]
      refine wpAnyH_take (i := 13) (v := ?v223) rfl (by kernel_rfl) (by kernel_rfl) (by kernel_rfl) (fun _ _ _ h => h) (Or.inl ⟨by rfl, ?hy223⟩) hH ?rest223
      case hy223 => (intro w hSw; (try dsimp only at hSw); go_simp; try with_reducible rfl)
      try simp only [List.getElem_toArray, List.getElem_cons_succ, List.getElem_cons_zero, Act.put, List.setIfInBounds_toArray, List.set_cons_zero, List.set_cons_succ]
      refine wpAnyH_take (i := 16) (v := ?v224) rfl (by kernel_rfl) (by kernel_rfl) (by kernel_rfl) (fun _ _ _ h => h) (Or.inl ⟨by rfl, ?hy224⟩) hH ?rest224
      case hy224 => (intro w hSw; (try dsimp only at hSw); go_simp; try with_reducible rfl)
      try simp only [List.getElem_toArray, List.getElem_cons_succ, List.getElem_cons_zero, Act.put, List.setIfInBounds_toArray, List.set_cons_zero, List.set_cons_succ]
      refine wpAnyH_take (i := 18) (v := ?v225) rfl (by kernel_rfl) (by kernel_rfl) (by kernel_rfl) (fun _ _ _ h => h) (Or.inl ⟨by rfl, ?hy225⟩) hH ?rest225
      case hy225 => (intro w hSw; (try dsimp only at hSw); go_simp; try with_reducible rfl)
      try simp only [List.getElem_toArray, List.getElem_cons_succ, List.getElem_cons_zero, Act.put, List.setIfInBounds_toArray, List.set_cons_zero, List.set_cons_succ]
      refine wpAnyH_ready (rs := [1]) (by kernel_rfl) (by simp) ?_
      refine AllReadyH.cons rfl (fun K hK => ?_) AllReadyH.nil
      go_simp
      go_at_call 9
      (with_reducible refine (HEX3.out _ hcur).mono ?_)
      clear hcur hH
      rintro e w' ⟨rfl, hcur⟩
      have hH := allT _ hcur
      refine hK.out _ _ hH (fun _ => ?_)
      clear hK K
      try simp only [List.getElem_toArray, List.getElem_cons_succ, List.getElem_cons_zero, Act.put, List.setIfInBounds_toArray, List.set_cons_zero, List.set_cons_succ]
      refine wpAnyH_ready (rs := [3]) (by kernel_rfl) (by simp) ?_
      refine AllReadyH.cons rfl (fun K hK => ?_) AllReadyH.nil
      go_simp
      go_at_call 22
      (with_reducible refine (HBX3.out _ hcur).mono ?_)
      clear hcur hH
      rintro e w' ⟨rfl, hcur⟩
      have hH := allT _ hcur
      refine hK.out _ _ hH (fun _ => ?_)
      clear hK K
      try simp only [List.getElem_toArray, List.getElem_cons_succ, List.getElem_cons_zero, Act.put, List.setIfInBounds_toArray, List.set_cons_zero, List.set_cons_succ]
      refine wpAnyH_take (i := 4) (v := ?v226) rfl (by kernel_rfl) (by kernel_rfl) (by kernel_rfl) (fun _ _ _ h => h) (Or.inl ⟨by rfl, ?hy226⟩) hH ?rest226
      case hy226 => (intro w hSw; (try dsimp only at hSw); go_simp; try with_reducible rfl)
      try simp only [List.getElem_toArray, List.getElem_cons_succ, List.getElem_cons_zero, Act.put, List.setIfInBounds_toArray, List.set_cons_zero, List.set_cons_succ]
      refine wpAnyH_take (i := 5) (v := ?v227) rfl (by kernel_rfl) (by kernel_rfl) (by kernel_rfl) (fun _ _ _ h => h) (Or.inl ⟨by rfl, ?hy227⟩) hH ?rest227
      case hy227 => (intro w hSw; (try dsimp only at hSw); go_simp; try with_reducible rfl)
      try simp only [List.getElem_toArray, List.getElem_cons_succ, List.getElem_cons_zero, Act.put, List.setIfInBounds_toArray, List.set_cons_zero, List.set_cons_succ]
      refine wpAnyH_take (i := 7) (v := ?v228) rfl (by kernel_rfl) (by kernel_rfl) (by kernel_rfl) (fun _ _ _ h => h) (Or.inl ⟨by rfl, ?hy228⟩) hH ?rest228
      case hy228 => (intro w hSw; (try dsimp only at hSw); go_simp; try with_reducible rfl)
      try simp only [List.getElem_toArray, List.getElem_cons_succ, List.getElem_cons_zero, Act.put, List.setIfInBounds_toArray, List.set_cons_zero, List.set_cons_succ]
      refine wpAnyH_ready (rs := [6]) (by kernel_rfl) (by simp) ?_
      refine AllReadyH.cons rfl (fun K hK => ?_) AllReadyH.nil
      go_simp
      go_at_call 24
      (with_reducible refine (HLX3.out (by first | trivial | rfl) _ hcur).mono ?_)
      clear hcur hH
      rintro e w' ⟨rfl, hcur⟩
      have hH := allT _ hcur
      refine hK.out _ _ hH (fun _ => ?_)
      clear hK K
      try simp only [List.getElem_toArray, List.getElem_cons_succ, List.getElem_cons_zero, Act.put, List.setIfInBounds_toArray, List.set_cons_zero, List.set_cons_succ]
      refine wpAnyH_ready (rs := [8]) (by kernel_rfl) (by simp) ?_
      refine AllReadyH.cons rfl (fun K hK => ?_) AllReadyH.nil
      go_simp
      go_at_call 24
      (with_reducible refine (HLN3.out _ hcur).mono ?_)
      clear hcur hH
      rintro e w' ⟨rfl, hcur⟩
      have hH := allT _ hcur
      refine hK.out _ _ hH (fun _ => ?_)
      clear hK K
      try simp only [List.getElem_toArray, List.getElem_cons_succ, List.getElem_cons_zero, Act.put, List.setIfInBounds_toArray, List.set_cons_zero, List.set_cons_succ]
      refine wpAnyH_take (i := 9) (v := ?v229) rfl (by kernel_rfl) (by kernel_rfl) (by kernel_rfl) (fun _ _ _ h => h) (Or.inl ⟨by rfl, ?hy229⟩) hH ?rest229
      case hy229 => (intro w hSw; (try dsimp only at hSw); go_simp; try with_reducible rfl)
      try simp only [List.getElem_toArray, List.getElem_cons_succ, List.getElem_cons_zero, Act.put, List.setIfInBounds_toArray, List.set_cons_zero, List.set_cons_succ]
      refine wpAnyH_take (i := 10) (v := ?v230) rfl (by kernel_rfl) (by kernel_rfl) (by kernel_rfl) (fun _ _ _ h => h) (Or.inl ⟨by rfl, ?hy230⟩) hH ?rest230
      case hy230 => (intro w hSw; (try dsimp only at hSw); go_simp; try with_reducible rfl)
      try simp only [List.getElem_toArray, List.getElem_cons_succ, List.getElem_cons_zero, Act.put, List.setIfInBounds_toArray, List.set_cons_zero, List.set_cons_succ]
      refine wpAnyH_ready (rs := [11]) (by kernel_rfl) (by simp) ?_
      refine AllReadyH.cons rfl (fun K hK => ?_) AllReadyH.nil
      go_simp
      go_at_call 23
      (with_reducible refine (HWX4.out _ hcur).mono ?_)
      clear hcur hH
      rintro e w' ⟨rfl, hcur⟩
      have hH := allT _ hcur
      refine hK.out _ _ hH (fun _ => ?_)
      clear hK K
      try simp only [List.getElem_toArray, List.getElem_cons_succ, List.getElem_cons_zero, Act.put, List.setIfInBounds_toArray, List.set_cons_zero, List.set_cons_succ]
      refine wpAnyH_take (i := 12) (v := ?v231) rfl (by kernel_rfl) (by kernel_rfl) (by kernel_rfl) (fun _ _ _ h => h) (Or.inl ⟨by rfl, ?hy231⟩) hH ?rest231
      case hy231 => (intro w hSw; (try dsimp only at hSw); go_simp; try with_reducible rfl)
      try simp only [List.getElem_toArray, List.getElem_cons_succ, List.getElem_cons_zero, Act.put, List.setIfInBounds_toArray, List.set_cons_zero, List.set_cons_succ]
      refine wpAnyH_take (i := 14) (v := ?v232) rfl (by kernel_rfl) (by kernel_rfl) (by kernel_rfl) (fun _ _ _ h => h) (Or.inl ⟨by rfl, ?hy232⟩) hH ?rest232
      case hy232 => (intro w hSw; (try dsimp only at hSw); go_simp; try with_reducible rfl)
      try simp only [List.getElem_toArray, List.getElem_cons_succ, List.getElem_cons_zero, Act.put, List.setIfInBounds_toArray, List.set_cons_zero, List.set_cons_succ]
      refine wpAnyH_take (i := 15) (v := ?v233) rfl (by kernel_rfl) (by kernel_rfl) (by kernel_rfl) (fun _ _ _ h => h) (Or.inl ⟨by rfl, ?hy233⟩) hH ?rest233
      case hy233 => (intro w hSw; (try dsimp only at hSw); go_simp; try with_reducible rfl)
      try simp only [List.getElem_toArray, List.getElem_cons_succ, List.getElem_cons_zero, Act.put, List.setIfInBounds_toArray, List.set_cons_zero, List.set_cons_succ]
      refine wpAnyH_ready (rs := [17]) (by kernel_rfl) (by simp) ?_
      refine AllReadyH.cons rfl (fun K hK => ?_) AllReadyH.nil
      go_simp
      go_at_call 9
      (with_reducible refine (HEY3.out _ hcur).mono ?_)
      clear hcur hH
      rintro e w' ⟨rfl, hcur⟩
      have hH := allT _ hcur
      refine hK.out _ _ hH (fun _ => ?_)
      clear hK K
      try simp only [List.getElem_toArray, List.getElem_cons_succ, List.getElem_cons_zero, Act.put, List.setIfInBounds_toArray, List.set_cons_zero, List.set_cons_succ]
      refine wpAnyH_ready (rs := [19]) (by kernel_rfl) (by simp) ?_
      refine AllReadyH.cons rfl (fun K hK => ?_) AllReadyH.nil
      go_simp
      go_at_call 22
      (with_reducible refine (HBY3.out _ hcur).mono ?_)
      clear hcur hH
      rintro e w' ⟨rfl, hcur⟩
      have hH := allT _ hcur
      refine hK.out _ _ hH (fun _ => ?_)
      clear hK K
      try simp only [List.getElem_toArray, List.getElem_cons_succ, List.getElem_cons_zero, Act.put, List.setIfInBounds_toArray, List.set_cons_zero, List.set_cons_succ]
      refine wpAnyH_take (i := 20) (v := ?v234) rfl (by kernel_rfl) (by kernel_rfl) (by kernel_rfl) (fun _ _ _ h => h) (Or.inl ⟨by rfl, ?hy234⟩) hH ?rest234
      case hy234 => (intro w hSw; (try dsimp only at hSw); go_simp; try with_reducible rfl)
      try simp only [List.getElem_toArray, List.getElem_cons_succ, List.getElem_cons_zero, Act.put, List.setIfInBounds_toArray, List.set_cons_zero, List.set_cons_succ]
      refine wpAnyH_take (i := 21) (v := undef) rfl (by kernel_rfl) (by kernel_rfl) (by kernel_rfl) (fun _ _ _ h => h) (Or.inr ⟨by rfl, rfl⟩) hH ?rest235
      try simp only [List.getElem_toArray, List.getElem_cons_succ, List.getElem_cons_zero, Act.put, List.setIfInBounds_toArray, List.set_cons_zero, List.set_cons_succ]
      refine wpAnyH_take (i := 23) (v := undef) rfl (by kernel_rfl) (by kernel_rfl) (by kernel_rfl) (fun _ _ _ h => h) (Or.inr ⟨by rfl, rfl⟩) hH ?rest236
      try simp only [List.getElem_toArray, List.getElem_cons_succ, List.getElem_cons_zero, Act.put, List.setIfInBounds_toArray, List.set_cons_zero, List.set_cons_succ]
      refine wpAnyH_ready (rs := [22]) (by kernel_rfl) (by simp) ?_
      refine AllReadyH.cons rfl (fun K hK => ?_) AllReadyH.nil
      go_simp
      refine hK.out _ _ hH (fun _ => ?_)
      clear hK K
      try simp only [List.getElem_toArray, List.getElem_cons_succ, List.getElem_cons_zero, Act.put, List.setIfInBounds_toArray, List.set_cons_zero, List.set_cons_succ]
      refine wpAnyH_ready (rs := [24]) (by kernel_rfl) (by simp) ?_
      refine AllReadyH.cons rfl (fun K hK => ?_) AllReadyH.nil
      go_simp
      refine hK.out _ _ hH (fun _ => ?_)
      clear hK K
      try simp only [List.getElem_toArray, List.getElem_cons_succ, List.getElem_cons_zero, Act.put, List.setIfInBounds_toArray, List.set_cons_zero, List.set_cons_succ]
      refine wpAnyH_take (i := 25) (v := undef) rfl (by kernel_rfl) (by kernel_rfl) (by kernel_rfl) (fun _ _ _ h => h) (Or.inr ⟨by rfl, rfl⟩) hH ?rest237
      try simp only [List.getElem_toArray, List.getElem_cons_succ, List.getElem_cons_zero, Act.put, List.setIfInBounds_toArray, List.set_cons_zero, List.set_cons_succ]
      refine wpAnyH_take (i := 26) (v := ?v238) rfl (by kernel_rfl) (by kernel_rfl) (by kernel_rfl) (fun _ _ _ h => h) (Or.inl ⟨by rfl, ?hy238⟩) hH ?rest238
      case hy238 => (intro w hSw; (try dsimp only at hSw); go_simp; try with_reducible rfl)
      try simp only [List.getElem_toArray, List.getElem_cons_succ, List.getElem_cons_zero, Act.put, List.setIfInBounds_toArray, List.set_cons_zero, List.set_cons_succ]
      refine wpAnyH_ready (rs := [27]) (by kernel_rfl) (by simp) ?_
      refine AllReadyH.cons rfl (fun K hK => ?_) AllReadyH.nil
      go_simp
      go_at_call 23
      (with_reducible refine (HWY4.out _ hcur).mono ?_)
      clear hcur hH
      rintro e w' ⟨rfl, hcur⟩
      have hH := allT _ hcur
      refine hK.out _ _ hH (fun _ => ?_)
      clear hK K
      try simp only [List.getElem_toArray, List.getElem_cons_succ, List.getElem_cons_zero, Act.put, List.setIfInBounds_toArray, List.set_cons_zero, List.set_cons_succ]
      refine wpAnyH_take (i := 28) (v := ?v239) rfl (by kernel_rfl) (by kernel_rfl) (by kernel_rfl) (fun _ _ _ h => h) (Or.inl ⟨by rfl, ?hy239⟩) hH ?rest239
      case hy239 => (intro w hSw; (try dsimp only at hSw); go_simp; try with_reducible rfl)
      try simp only [List.getElem_toArray, List.getElem_cons_succ, List.getElem_cons_zero, Act.put, List.setIfInBounds_toArray, List.set_cons_zero, List.set_cons_succ]
      refine wpAnyH_take (i := 29) (v := ?v240) rfl (by kernel_rfl) (by kernel_rfl) (by kernel_rfl) (fun _ _ _ h => h) (Or.inl ⟨by rfl, ?hy240⟩) hH ?rest240
      case hy240 => (intro w hSw; (try dsimp only at hSw); go_simp; try with_reducible rfl)
      try simp only [List.getElem_toArray, List.getElem_cons_succ, List.getElem_cons_zero, Act.put, List.setIfInBounds_toArray, List.set_cons_zero, List.set_cons_succ]
      refine wpAnyH_done (by kernel_rfl) ?_ _
      go_wp2
      go_ret
      refine ⟨?_, HB.out.trans ((HB3.out.trans (Below.mono hcur HB3.out.size)).mono HB.out.size)⟩
      rw [HR.out]
      show Ending.returned (Value.string _) = _
      congr 2
      all_goals exact bytes_eq (by rw [HS.out.1, HS.out.2.1, HS.out.2.2]; simp [ByteArray.data_append])
    · have HWX4 := Lib.hid (show ∀ W, Below W3.heap.size W3 W → Calls Tryd.prog 23 #[.string S, .bool (decide (la < lv))] W fun e w' => e = .returned (.string T) ∧ Below W3.heap.size W3 w' from HWX3.out)
      have HWY4 := Lib.hid (show ∀ W, Below W3.heap.size W3 W → Calls Tryd.prog 23 #[.string S2, .bool (decide (lb ≤ lv))] W fun e w' => e = .returned (.string T2) ∧ Below W3.heap.size W3 w' from HWY3.out)
      clear HWX3 HWY3
      go_wp2_with fail
      have allT := HAT.out
      have hrefl : Below W3.heap.size W3 W3 := Below.refl _ _
      refine wp_region_held_drew (S := fun W => W.cell? ⟨w.heap.size, 0, none⟩ = some (.int .u8 n.f0) ∧ W.cell? ⟨w.heap.size, 1, none⟩ = some (.int .i64 n.f1) ∧ W.cell? ⟨w.heap.size, 2, none⟩ = some (.string n.f2) ∧ W.cell? ⟨w.heap.size, 3, none⟩ = some (.slice (some ad) 2 c) ∧ W.cell? ⟨zz + 1, 0, none⟩ = some (.int .u8 a0) ∧ W.cell? ⟨zz + 1, 1, none⟩ = some (.int .i64 a1) ∧ W.cell? ⟨zz + 1, 2, none⟩ = some (.string a2) ∧ W.cell? ⟨zz + 1, 3, none⟩ = some (.slice B a3 d) ∧ W.cell? ⟨zz, 0, none⟩ = some (.int .u8 b0) ∧ W.cell? ⟨zz, 1, none⟩ = some (.int .i64 b1) ∧ W.cell? ⟨zz, 2, none⟩ = some (.string b2) ∧ W.cell? ⟨zz, 3, none⟩ = some (.slice B2 b3 d2)) (by kernel_rfl) (allT _ (below_drew1 hrefl)) (fun hH => ?_)
      have hcur := below_drew1 hrefl
      refine wpAnyH_take (i := 0) (v := ?v241) rfl (by kernel_rfl) (by kernel_rfl) (by kernel_rfl) (fun _ _ _ h => h) (Or.inl ⟨by rfl, ?hy241⟩) hH ?rest241
      case hy241 => (intro w hSw; (try dsimp only at hSw); go_simp; try with_reducible rfl)
      try simp only [List.getElem_toArray, List.getElem_cons_succ, List.getElem_cons_zero, Act.put, List.setIfInBounds_toArray, List.set_cons_zero, List.set_cons_succ]
      refine wpAnyH_take (i := 2) (v := ?v242) rfl (by kernel_rfl) (by kernel_rfl) (by kernel_rfl) (fun _ _ _ h => h) (Or.inl ⟨by rfl, ?hy242⟩) hH ?rest242
      case hy242 => (intro w hSw; (try dsimp only at hSw); go_simp; try with_reducible rfl)
      try simp only [List.getElem_toArray, List.getElem_cons_succ, List.getElem_cons_zero, Act.put, List.setIfInBounds_toArray, List.set_cons_zero, List.set_cons_succ]
      refine wpAnyH_take (i := 13) (v := ?v243) rfl (by kernel_rfl) (by kernel_rfl) (by kernel_rfl) (fun _ _ _ h => h) (Or.inl ⟨by rfl, ?hy243⟩) hH ?rest243
      case hy243 => (intro w hSw; (try dsimp only at hSw); go_simp; try with_reducible rfl)
      try simp only [List.getElem_toArray, List.getElem_cons_succ, List.getElem_cons_zero, Act.put, List.setIfInBounds_toArray, List.set_cons_zero, List.set_cons_succ]
      refine wpAnyH_take (i := 16) (v := ?v244) rfl (by kernel_rfl) (by kernel_rfl) (by kernel_rfl) (fun _ _ _ h => h) (Or.inl ⟨by rfl, ?hy244⟩) hH ?rest244
      case hy244 => (intro w hSw; (try dsimp only at hSw); go_simp; try with_reducible rfl)
      try simp only [List.getElem_toArray, List.getElem_cons_succ, List.getElem_cons_zero, Act.put, List.setIfInBounds_toArray, List.set_cons_zero, List.set_cons_succ]
      refine wpAnyH_take (i := 18) (v := ?v245) rfl (by kernel_rfl) (by kernel_rfl) (by kernel_rfl) (fun _ _ _ h => h) (Or.inl ⟨by rfl, ?hy245⟩) hH ?rest245
      case hy245 => (intro w hSw; (try dsimp only at hSw); go_simp; try with_reducible rfl)
      try simp only [List.getElem_toArray, List.getElem_cons_succ, List.getElem_cons_zero, Act.put, List.setIfInBounds_toArray, List.set_cons_zero, List.set_cons_succ]
      refine wpAnyH_ready (rs := [1]) (by kernel_rfl) (by simp) ?_
      refine AllReadyH.cons rfl (fun K hK => ?_) AllReadyH.nil
      go_simp
      go_at_call 9
      (with_reducible refine (HEX3.out _ hcur).mono ?_)
      clear hcur hH
      rintro e w' ⟨rfl, hcur⟩
      have hH := allT _ hcur
      refine hK.out _ _ hH (fun _ => ?_)
      clear hK K
      try simp only [List.getElem_toArray, List.getElem_cons_succ, List.getElem_cons_zero, Act.put, List.setIfInBounds_toArray, List.set_cons_zero, List.set_cons_succ]
      refine wpAnyH_ready (rs := [3]) (by kernel_rfl) (by simp) ?_
      refine AllReadyH.cons rfl (fun K hK => ?_) AllReadyH.nil
      go_simp
      go_at_call 22
      (with_reducible refine (HBX3.out _ hcur).mono ?_)
      clear hcur hH
      rintro e w' ⟨rfl, hcur⟩
      have hH := allT _ hcur
      refine hK.out _ _ hH (fun _ => ?_)
      clear hK K
      try simp only [List.getElem_toArray, List.getElem_cons_succ, List.getElem_cons_zero, Act.put, List.setIfInBounds_toArray, List.set_cons_zero, List.set_cons_succ]
      refine wpAnyH_take (i := 4) (v := ?v246) rfl (by kernel_rfl) (by kernel_rfl) (by kernel_rfl) (fun _ _ _ h => h) (Or.inl ⟨by rfl, ?hy246⟩) hH ?rest246
      case hy246 => (intro w hSw; (try dsimp only at hSw); go_simp; try with_reducible rfl)
      try simp only [List.getElem_toArray, List.getElem_cons_succ, List.getElem_cons_zero, Act.put, List.setIfInBounds_toArray, List.set_cons_zero, List.set_cons_succ]
      refine wpAnyH_take (i := 5) (v := ?v247) rfl (by kernel_rfl) (by kernel_rfl) (by kernel_rfl) (fun _ _ _ h => h) (Or.inl ⟨by rfl, ?hy247⟩) hH ?rest247
      case hy247 => (intro w hSw; (try dsimp only at hSw); go_simp; try with_reducible rfl)
      try simp only [List.getElem_toArray, List.getElem_cons_succ, List.getElem_cons_zero, Act.put, List.setIfInBounds_toArray, List.set_cons_zero, List.set_cons_succ]
      refine wpAnyH_take (i := 7) (v := ?v248) rfl (by kernel_rfl) (by kernel_rfl) (by kernel_rfl) (fun _ _ _ h => h) (Or.inl ⟨by rfl, ?hy248⟩) hH ?rest248
      case hy248 => (intro w hSw; (try dsimp only at hSw); go_simp; try with_reducible rfl)
      try simp only [List.getElem_toArray, List.getElem_cons_succ, List.getElem_cons_zero, Act.put, List.setIfInBounds_toArray, List.set_cons_zero, List.set_cons_succ]
      refine wpAnyH_ready (rs := [6]) (by kernel_rfl) (by simp) ?_
      refine AllReadyH.cons rfl (fun K hK => ?_) AllReadyH.nil
      go_simp
      go_at_call 24
      (with_reducible refine (HLX3.out (by first | trivial | rfl) _ hcur).mono ?_)
      clear hcur hH
      rintro e w' ⟨rfl, hcur⟩
      have hH := allT _ hcur
      refine hK.out _ _ hH (fun _ => ?_)
      clear hK K
      try simp only [List.getElem_toArray, List.getElem_cons_succ, List.getElem_cons_zero, Act.put, List.setIfInBounds_toArray, List.set_cons_zero, List.set_cons_succ]
      refine wpAnyH_ready (rs := [8]) (by kernel_rfl) (by simp) ?_
      refine AllReadyH.cons rfl (fun K hK => ?_) AllReadyH.nil
      go_simp
      go_at_call 24
      (with_reducible refine (HLN3.out _ hcur).mono ?_)
      clear hcur hH
      rintro e w' ⟨rfl, hcur⟩
      have hH := allT _ hcur
      refine hK.out _ _ hH (fun _ => ?_)
      clear hK K
      try simp only [List.getElem_toArray, List.getElem_cons_succ, List.getElem_cons_zero, Act.put, List.setIfInBounds_toArray, List.set_cons_zero, List.set_cons_succ]
      refine wpAnyH_take (i := 9) (v := ?v249) rfl (by kernel_rfl) (by kernel_rfl) (by kernel_rfl) (fun _ _ _ h => h) (Or.inl ⟨by rfl, ?hy249⟩) hH ?rest249
      case hy249 => (intro w hSw; (try dsimp only at hSw); go_simp; try with_reducible rfl)
      try simp only [List.getElem_toArray, List.getElem_cons_succ, List.getElem_cons_zero, Act.put, List.setIfInBounds_toArray, List.set_cons_zero, List.set_cons_succ]
      refine wpAnyH_take (i := 10) (v := ?v250) rfl (by kernel_rfl) (by kernel_rfl) (by kernel_rfl) (fun _ _ _ h => h) (Or.inl ⟨by rfl, ?hy250⟩) hH ?rest250
      case hy250 => (intro w hSw; (try dsimp only at hSw); go_simp; try with_reducible rfl)
      try simp only [List.getElem_toArray, List.getElem_cons_succ, List.getElem_cons_zero, Act.put, List.setIfInBounds_toArray, List.set_cons_zero, List.set_cons_succ]
      refine wpAnyH_ready (rs := [11]) (by kernel_rfl) (by simp) ?_
      refine AllReadyH.cons rfl (fun K hK => ?_) AllReadyH.nil
      go_simp
      go_at_call 23
      (with_reducible refine (HWX4.out _ hcur).mono ?_)
      clear hcur hH
      rintro e w' ⟨rfl, hcur⟩
      have hH := allT _ hcur
      refine hK.out _ _ hH (fun _ => ?_)
      clear hK K
      try simp only [List.getElem_toArray, List.getElem_cons_succ, List.getElem_cons_zero, Act.put, List.setIfInBounds_toArray, List.set_cons_zero, List.set_cons_succ]
      refine wpAnyH_take (i := 12) (v := ?v251) rfl (by kernel_rfl) (by kernel_rfl) (by kernel_rfl) (fun _ _ _ h => h) (Or.inl ⟨by rfl, ?hy251⟩) hH ?rest251
      case hy251 => (intro w hSw; (try dsimp only at hSw); go_simp; try with_reducible rfl)
      try simp only [List.getElem_toArray, List.getElem_cons_succ, List.getElem_cons_zero, Act.put, List.setIfInBounds_toArray, List.set_cons_zero, List.set_cons_succ]
      refine wpAnyH_take (i := 14) (v := ?v252) rfl (by kernel_rfl) (by kernel_rfl) (by kernel_rfl) (fun _ _ _ h => h) (Or.inl ⟨by rfl, ?hy252⟩) hH ?rest252
      case hy252 => (intro w hSw; (try dsimp only at hSw); go_simp; try with_reducible rfl)
      try simp only [List.getElem_toArray, List.getElem_cons_succ, List.getElem_cons_zero, Act.put, List.setIfInBounds_toArray, List.set_cons_zero, List.set_cons_succ]
      refine wpAnyH_take (i := 15) (v := ?v253) rfl (by kernel_rfl) (by kernel_rfl) (by kernel_rfl) (fun _ _ _ h => h) (Or.inl ⟨by rfl, ?hy253⟩) hH ?rest253
      case hy253 => (intro w hSw; (try dsimp only at hSw); go_simp; try with_reducible rfl)
      try simp only [List.getElem_toArray, List.getElem_cons_succ, List.getElem_cons_zero, Act.put, List.setIfInBounds_toArray, List.set_cons_zero, List.set_cons_succ]
      refine wpAnyH_ready (rs := [17]) (by kernel_rfl) (by simp) ?_
      refine AllReadyH.cons rfl (fun K hK => ?_) AllReadyH.nil
      go_simp
      go_at_call 9
      (with_reducible refine (HEY3.out _ hcur).mono ?_)
      clear hcur hH
      rintro e w' ⟨rfl, hcur⟩
      have hH := allT _ hcur
      refine hK.out _ _ hH (fun _ => ?_)
      clear hK K
      try simp only [List.getElem_toArray, List.getElem_cons_succ, List.getElem_cons_zero, Act.put, List.setIfInBounds_toArray, List.set_cons_zero, List.set_cons_succ]
      refine wpAnyH_ready (rs := [19]) (by kernel_rfl) (by simp) ?_
      refine AllReadyH.cons rfl (fun K hK => ?_) AllReadyH.nil
      go_simp
      go_at_call 22
      (with_reducible refine (HBY3.out _ hcur).mono ?_)
      clear hcur hH
      rintro e w' ⟨rfl, hcur⟩
      have hH := allT _ hcur
      refine hK.out _ _ hH (fun _ => ?_)
      clear hK K
      try simp only [List.getElem_toArray, List.getElem_cons_succ, List.getElem_cons_zero, Act.put, List.setIfInBounds_toArray, List.set_cons_zero, List.set_cons_succ]
      refine wpAnyH_take (i := 20) (v := ?v254) rfl (by kernel_rfl) (by kernel_rfl) (by kernel_rfl) (fun _ _ _ h => h) (Or.inl ⟨by rfl, ?hy254⟩) hH ?rest254
      case hy254 => (intro w hSw; (try dsimp only at hSw); go_simp; try with_reducible rfl)
      try simp only [List.getElem_toArray, List.getElem_cons_succ, List.getElem_cons_zero, Act.put, List.setIfInBounds_toArray, List.set_cons_zero, List.set_cons_succ]
      refine wpAnyH_take (i := 21) (v := ?v255) rfl (by kernel_rfl) (by kernel_rfl) (by kernel_rfl) (fun _ _ _ h => h) (Or.inl ⟨by rfl, ?hy255⟩) hH ?rest255
      case hy255 => (intro w hSw; (try dsimp only at hSw); go_simp; try with_reducible rfl)
      try simp only [List.getElem_toArray, List.getElem_cons_succ, List.getElem_cons_zero, Act.put, List.setIfInBounds_toArray, List.set_cons_zero, List.set_cons_succ]
      refine wpAnyH_take (i := 23) (v := ?v256) rfl (by kernel_rfl) (by kernel_rfl) (by kernel_rfl) (fun _ _ _ h => h) (Or.inl ⟨by rfl, ?hy256⟩) hH ?rest256
      case hy256 => (intro w hSw; (try dsimp only at hSw); go_simp; try with_reducible rfl)
      try simp only [List.getElem_toArray, List.getElem_cons_succ, List.getElem_cons_zero, Act.put, List.setIfInBounds_toArray, List.set_cons_zero, List.set_cons_succ]
      refine wpAnyH_ready (rs := [22]) (by kernel_rfl) (by simp) ?_
      refine AllReadyH.cons rfl (fun K hK => ?_) AllReadyH.nil
      go_simp
      go_at_call 24
      (with_reducible refine (HLY3.out (by first | trivial | rfl) _ hcur).mono ?_)
      clear hcur hH
      rintro e w' ⟨rfl, hcur⟩
      have hH := allT _ hcur
      refine hK.out _ _ hH (fun _ => ?_)
      clear hK K
      try simp only [List.getElem_toArray, List.getElem_cons_succ, List.getElem_cons_zero, Act.put, List.setIfInBounds_toArray, List.set_cons_zero, List.set_cons_succ]
      refine wpAnyH_ready (rs := [24]) (by kernel_rfl) (by simp) ?_
      refine AllReadyH.cons rfl (fun K hK => ?_) AllReadyH.nil
      go_simp
      go_at_call 24
      (with_reducible refine (HLN3.out _ hcur).mono ?_)
      clear hcur hH
      rintro e w' ⟨rfl, hcur⟩
      have hH := allT _ hcur
      refine hK.out _ _ hH (fun _ => ?_)
      clear hK K
      try simp only [List.getElem_toArray, List.getElem_cons_succ, List.getElem_cons_zero, Act.put, List.setIfInBounds_toArray, List.set_cons_zero, List.set_cons_succ]
      refine wpAnyH_take (i := 25) (v := ?v257) rfl (by kernel_rfl) (by kernel_rfl) (by kernel_rfl) (fun _ _ _ h => h) (Or.inl ⟨by rfl, ?hy257⟩) hH ?rest257
      case hy257 => (intro w hSw; (try dsimp only at hSw); go_simp; try with_reducible rfl)
      try simp only [List.getElem_toArray, List.getElem_cons_succ, List.getElem_cons_zero, Act.put, List.setIfInBounds_toArray, List.set_cons_zero, List.set_cons_succ]
      refine wpAnyH_take (i := 26) (v := ?v258) rfl (by kernel_rfl) (by kernel_rfl) (by kernel_rfl) (fun _ _ _ h => h) (Or.inl ⟨by rfl, ?hy258⟩) hH ?rest258
      case hy258 => (intro w hSw; (try dsimp only at hSw); go_simp; try with_reducible rfl)
      try simp only [List.getElem_toArray, List.getElem_cons_succ, List.getElem_cons_zero, Act.put, List.setIfInBounds_toArray, List.set_cons_zero, List.set_cons_succ]
      refine wpAnyH_ready (rs := [27]) (by kernel_rfl) (by simp) ?_
      refine AllReadyH.cons rfl (fun K hK => ?_) AllReadyH.nil
      go_simp
      go_at_call 23
      (with_reducible refine (HWY4.out _ hcur).mono ?_)
      clear hcur hH
      rintro e w' ⟨rfl, hcur⟩
      have hH := allT _ hcur
      refine hK.out _ _ hH (fun _ => ?_)
      clear hK K
      try simp only [List.getElem_toArray, List.getElem_cons_succ, List.getElem_cons_zero, Act.put, List.setIfInBounds_toArray, List.set_cons_zero, List.set_cons_succ]
      refine wpAnyH_take (i := 28) (v := ?v259) rfl (by kernel_rfl) (by kernel_rfl) (by kernel_rfl) (fun _ _ _ h => h) (Or.inl ⟨by rfl, ?hy259⟩) hH ?rest259
      case hy259 => (intro w hSw; (try dsimp only at hSw); go_simp; try with_reducible rfl)
      try simp only [List.getElem_toArray, List.getElem_cons_succ, List.getElem_cons_zero, Act.put, List.setIfInBounds_toArray, List.set_cons_zero, List.set_cons_succ]
      refine wpAnyH_take (i := 29) (v := ?v260) rfl (by kernel_rfl) (by kernel_rfl) (by kernel_rfl) (fun _ _ _ h => h) (Or.inl ⟨by rfl, ?hy260⟩) hH ?rest260
      case hy260 => (intro w hSw; (try dsimp only at hSw); go_simp; try with_reducible rfl)
      try simp only [List.getElem_toArray, List.getElem_cons_succ, List.getElem_cons_zero, Act.put, List.setIfInBounds_toArray, List.set_cons_zero, List.set_cons_succ]
      refine wpAnyH_done (by kernel_rfl) ?_ _
      go_wp2
      go_ret
      refine ⟨?_, HB.out.trans ((HB3.out.trans (Below.mono hcur HB3.out.size)).mono HB.out.size)⟩
      rw [HR.out]
      show Ending.returned (Value.string _) = _
      congr 2
      all_goals exact bytes_eq (by rw [HS.out.1, HS.out.2.1, HS.out.2.2]; simp [ByteArray.data_append])

end Go.Proofs.YtlmmobfebjideaaDoor.P
