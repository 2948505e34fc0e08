/- Part 7 of the texts that the laws of this seat share, joined. -/
import Derived.Test.YtlmmobfebjideaaDoorS6
import Derived.Test.YtlmmobfebjideaaDoorS4
import Derived.Test.YtlmmobfebjideaaDoorS5
import Derived.Lib.ItoaMem

/- printer.out.stmt, walked: one way for each kind of statement. WRITTEN BY wip/tools/gen_stmt.py. -/
namespace Go.Proofs.YtlmmobfebjideaaDoor.P
open Go.RowKit Go.Proofs.YtlmmobfebjideaaDoor Go.Proofs.YtlmmobfebjideaaDoor.M Go.Proofs.YtlmmobfebjideaaDoorW.PrintWords
set_option linter.unusedVariables false
set_option linter.unusedSimpArgs false
attribute [local go_sem ↓] Go.wp_at_zero Go.wp_at_succ

theorem kid_1 {w : World} {A : Option Addr} {a : Nd} {k m : Int} {s : ByteArray} (h : Kd.C kNd w A (⟨k, m, s, [a]⟩ : Nd).f3.length (⟨k, m, s, [a]⟩ : Nd).f3) : ∃ (ad : Addr) (B : Option Addr) (d : Nat), A = some ad ∧
    (w.cell? ad = some (.int .u8 a.f0) ∧ w.cell? ⟨ad.block, ad.off + 1, none⟩ = some (.int .i64 a.f1) ∧ w.cell? ⟨ad.block, ad.off + 2, none⟩ = some (.string a.f2) ∧ w.cell? ⟨ad.block, ad.off + 3, none⟩ = some (.slice B a.f3.length d) ∧ a.f3.length ≤ d ∧ Kd.C kNd w B a.f3.length a.f3) := by
  obtain ⟨ad, B, d, e, c0, c1, c2, c3, hl, hC⟩ := at_T24 h 0 (by omega) (by simp)
  have e0 : rd_T24 [a] 0 = a := rfl
  simp only [e0, Int.toNat_zero, Nat.zero_mul] at c0 c1 c2 c3 hl hC
  have h0 : ad.add 0 = ad := by simp [Addr.add]
  rw [h0] at c0 c1 c2 c3
  exact ⟨ad, B, d, e, c0, c1, c2, c3, hl, hC⟩
theorem kid_2 {w : World} {A : Option Addr} {a b : Nd} {k m : Int} {s : ByteArray} (h : Kd.C kNd w A (⟨k, m, s, [a, b]⟩ : Nd).f3.length (⟨k, m, s, [a, b]⟩ : Nd).f3) : ∃ (ad : Addr) (B : Option Addr) (d : Nat) (B2 : Option Addr) (d2 : Nat), A = some ad ∧
    (w.cell? ad = some (.int .u8 a.f0) ∧ w.cell? ⟨ad.block, ad.off + 1, none⟩ = some (.int .i64 a.f1) ∧ w.cell? ⟨ad.block, ad.off + 2, none⟩ = some (.string a.f2) ∧ w.cell? ⟨ad.block, ad.off + 3, none⟩ = some (.slice B a.f3.length d) ∧ a.f3.length ≤ d ∧ Kd.C kNd w B a.f3.length a.f3) ∧
    (w.cell? ⟨ad.block, ad.off + 4, none⟩ = some (.int .u8 b.f0) ∧ w.cell? ⟨ad.block, ad.off + 4 + 1, none⟩ = some (.int .i64 b.f1) ∧ w.cell? ⟨ad.block, ad.off + 4 + 2, none⟩ = some (.string b.f2) ∧ w.cell? ⟨ad.block, ad.off + 4 + 3, none⟩ = some (.slice B2 b.f3.length d2) ∧ b.f3.length ≤ d2 ∧ Kd.C kNd w B2 b.f3.length b.f3) :=
  kid_two h rfl
theorem kid_3 {w : World} {A : Option Addr} {a b c : Nd} {k m : Int} {s : ByteArray} (h : Kd.C kNd w A (⟨k, m, s, [a, b, c]⟩ : Nd).f3.length (⟨k, m, s, [a, b, c]⟩ : Nd).f3) : ∃ (ad : Addr) (B : Option Addr) (d : Nat) (B2 : Option Addr) (d2 : Nat) (B3 : Option Addr) (d3 : Nat), A = some ad ∧
    (w.cell? ad = some (.int .u8 a.f0) ∧ w.cell? ⟨ad.block, ad.off + 1, none⟩ = some (.int .i64 a.f1) ∧ w.cell? ⟨ad.block, ad.off + 2, none⟩ = some (.string a.f2) ∧ w.cell? ⟨ad.block, ad.off + 3, none⟩ = some (.slice B a.f3.length d) ∧ a.f3.length ≤ d ∧ Kd.C kNd w B a.f3.length a.f3) ∧
    (w.cell? ⟨ad.block, ad.off + 4, none⟩ = some (.int .u8 b.f0) ∧ w.cell? ⟨ad.block, ad.off + 4 + 1, none⟩ = some (.int .i64 b.f1) ∧ w.cell? ⟨ad.block, ad.off + 4 + 2, none⟩ = some (.string b.f2) ∧ w.cell? ⟨ad.block, ad.off + 4 + 3, none⟩ = some (.slice B2 b.f3.length d2) ∧ b.f3.length ≤ d2 ∧ Kd.C kNd w B2 b.f3.length b.f3) ∧
    (w.cell? ⟨ad.block, ad.off + 8, none⟩ = some (.int .u8 c.f0) ∧ w.cell? ⟨ad.block, ad.off + 8 + 1, none⟩ = some (.int .i64 c.f1) ∧ w.cell? ⟨ad.block, ad.off + 8 + 2, none⟩ = some (.string c.f2) ∧ w.cell? ⟨ad.block, ad.off + 8 + 3, none⟩ = some (.slice B3 c.f3.length d3) ∧ c.f3.length ≤ d3 ∧ Kd.C kNd w B3 c.f3.length c.f3) := by
  obtain ⟨ad, B, d, e, c0, c1, c2, c3, hl, hC⟩ := at_T24 h 0 (by omega) (by simp)
  obtain ⟨ad2, B2, d2, e2, x0, x1, x2, x3, hl2, hC2⟩ := at_T24 h 1 (by omega) (by simp)
  obtain ⟨ad3, B3, d3, e3, z0, z1, z2, z3, hl3, hC3⟩ := at_T24 h 2 (by omega) (by simp)
  obtain rfl : ad = ad2 := Option.some.inj (e.symm.trans e2)
  obtain rfl : ad = ad3 := Option.some.inj (e.symm.trans e3)
  have e0 : rd_T24 [a, b, c] 0 = a := rfl
  have e1 : rd_T24 [a, b, c] 1 = b := rfl
  have e2 : rd_T24 [a, b, c] 2 = c := rfl
  simp only [e0, Int.toNat_zero, Nat.zero_mul] at c0 c1 c2 c3 hl hC
  simp only [e1, Int.toNat_one, Nat.one_mul] at x0 x1 x2 x3 hl2 hC2
  simp only [e2, show (2 : Int).toNat * 4 = 8 from rfl] at z0 z1 z2 z3 hl3 hC3
  have h0 : ad.add 0 = ad := by simp [Addr.add]
  have h4 : ad.add 4 = ⟨ad.block, ad.off + 4, none⟩ := by simp [Addr.add]
  have h8 : ad.add 8 = ⟨ad.block, ad.off + 8, none⟩ := by simp [Addr.add]
  rw [h0] at c0 c1 c2 c3
  rw [h4] at x0 x1 x2 x3
  rw [h8] at z0 z1 z2 z3
  exact ⟨ad, B, d, B2, d2, B3, d3, e, ⟨c0, c1, c2, c3, hl, hC⟩, ⟨x0, x1, x2, x3, hl2, hC2⟩, ⟨z0, z1, z2, z3, hl3, hC3⟩⟩

/-- A place is an expression. -/
theorem place_expr (n : Nd) (h : isN 2 n = true) : isN 1 n = true := by
  by_cases hk : n.f0 = 47
  · rw [isN_47 2 n hk] at h; simp at h
  cases hf : M.form n.f0 with
  | none => rw [isN_none 2 n hk hf] at h; cases h
  | some f =>
    rw [isN_some 2 n hk f hf] at h
    rw [isN_some 1 n hk f hf]
    have hc := (form_cases _ _ hf).1
    simp only [Bool.and_eq_true] at h ⊢
    obtain ⟨⟨⟨⟨h1, h2⟩, h3⟩, h4⟩, h5⟩ := h
    refine ⟨⟨⟨⟨?_, h2⟩, h3⟩, h4⟩, h5⟩
    rcases hc with hc | hc | hc <;> rw [hc] at h1 ⊢ <;> revert h1 <;> decide

theorem pS_40 (d : Nat) (m : Int) (s : ByteArray) (a b : Nd) : pS d ⟨40, m, s, [a, b]⟩ = (tabs d ++ pE a ++ [32, 61, 32] ++ pE b ++ [59] ++ [10]) := by
  rw [pS.eq_def]; simp [pE1]

set_option maxHeartbeats 16000000 in
set_option maxRecDepth 100000 in
theorem stmt_40 (m : Int) (s : ByteArray) (a b : Nd) (hm : 0 ≤ m ∧ m ≤ 1000) (ha : isN 2 a = true) (hb : isN 1 b = true)  : StC ⟨40, m, s, [a, b]⟩ := by
  intro w0 A cp hc hr hL ob_ bs d W hA hlen hd
  have hB0 : w0.heap.size ≤ W.heap.size := hA.2.1.size
  rw [pS_40] at hlen
  have hln : ([a, b] : List Nd).length = 2 := rfl
  rw [show (⟨40, m, s, [a, b]⟩ : Nd).f3.length = 2 from rfl] at hc
  have hX : Below W.heap.size W (W.alloc (.cells #[.int .u8 40, .int .i64 m, .string s, .slice A 2 cp] 24)) := (Below.refl _ _).alloc (Nat.le_refl _) _
  have hbk : (W.alloc (.cells #[.int .u8 40, .int .i64 m, .string s, .slice A 2 cp] 24)).heap[W.heap.size]? = some (.cells #[.int .u8 40, .int .i64 m, .string s, .slice A 2 cp] 24 (0, 0)) := heap_alloc_new W _
  obtain ⟨X, hXe⟩ : ∃ X, X = W.alloc (.cells #[.int .u8 40, .int .i64 m, .string s, .slice A 2 cp] 24) := ⟨_, rfl⟩
  rw [← hXe] at hX hbk
  have hAX : At w0.heap.size ob_ W (Lib.byteCells bs) d X := (At.refl hA.1).below hX hB0
  have hA0 : At w0.heap.size ob_ w0 (Lib.byteCells bs) d X := hA.below hX hB0
  have hBX : w0.heap.size ≤ X.heap.size := hA0.2.1.size
  have hlt : ob_ < W.heap.size := hA.1.lt
  have hkids := kid_2 hr
  obtain ⟨ad, Ba, da, Bb, db, rfl, ⟨a0, a1, a2, a3, hla, hCa⟩, ⟨b0, b1, b2, b3, hlb, hCb⟩⟩ := hkids
  obtain ⟨Sa, hSa⟩ : ∃ S : ByteArray, S = ⟨(pE a).toArray⟩ := ⟨_, rfl⟩
  have qa : Sa.data.toList = pE a := by rw [hSa]
  obtain ⟨Sb, hSb⟩ : ∃ S : ByteArray, S = ⟨(pE b).toArray⟩ := ⟨_, rfl⟩
  have qb : Sb.data.toList = pE b := by rw [hSb]
  obtain ⟨NUM, hNUM⟩ : ∃ S : ByteArray, S = ⟨(Lib.itoa m).toArray⟩ := ⟨_, rfl⟩
  have qN : NUM.data.toList = Lib.itoa m := by rw [hNUM]
  have HQ := Lib.hid (And.intro qN (And.intro qa ( And.intro qb (True.intro))))
  have HI := Lib.hid (show ∀ W1 xs, At w0.heap.size ob_ X xs d W1 → Calls Tryd.prog 30 #[.int .i64 m] W1 fun e w' => e = .returned (.string NUM) ∧ At w0.heap.size ob_ X xs d w' from fun W1 xs h =>
    (itoa_any m (by omega) (by omega) W1 (hL.below (hA0.2.1.trans h.2.1))).mono (by rintro e w' ⟨rfl, h2⟩; exact ⟨by rw [hNUM], h.below h2 (h.hB hBX)⟩))
  have HEa := Lib.hid (show ∀ W1 xs, At w0.heap.size ob_ X xs d W1 → Calls Tryd.prog 17 #[.agg #[.int .u8 a.f0, .int .i64 a.f1, .string a.f2, .slice Ba a.f3.length da]] W1 fun e w' => e = .returned (.string Sa) ∧ At w0.heap.size ob_ X xs d w' from fun W1 xs h =>
    (expr_any a (place_expr _ ha) (by simp only [List.length_append] at hlen; omega) Ba da W1 hla (Kd.C_below hCa (hA0.2.1.trans h.2.1)) (hL.below (hA0.2.1.trans h.2.1))).mono (by rintro e w' ⟨rfl, h2⟩; exact ⟨by rw [hSa], h.below h2 (h.hB hBX)⟩))
  have HEb := Lib.hid (show ∀ W1 xs, At w0.heap.size ob_ X xs d W1 → Calls Tryd.prog 17 #[.agg #[.int .u8 b.f0, .int .i64 b.f1, .string b.f2, .slice Bb b.f3.length db]] W1 fun e w' => e = .returned (.string Sb) ∧ At w0.heap.size ob_ X xs d w' from fun W1 xs h =>
    (expr_any b (hb) (by simp only [List.length_append] at hlen; omega) Bb db W1 hlb (Kd.C_below hCb (hA0.2.1.trans h.2.1)) (hL.below (hA0.2.1.trans h.2.1))).mono (by rintro e w' ⟨rfl, h2⟩; exact ⟨by rw [hSb], h.below h2 (h.hB hBX)⟩))
  have HLN := Lib.hid (show ∀ (W1 : World) (z : Nat), At w0.heap.size ob_ X (Lib.byteCells bs) d W1 → W1.heap.size = z → Calls Tryd.prog 50 #[.pointer (some ⟨ob_, 0, none⟩), .slice (some ⟨z, 0, none⟩) 4 4] (W1.alloc (.cells #[.string Sa, .string (⟨#[32, 61, 32]⟩ : ByteArray), .string Sb, .string (⟨#[59]⟩ : ByteArray)] 9)) fun e w' => e = .returned (.tuple #[]) ∧ At w0.heap.size ob_ X (Lib.byteCells (bs ++ (tabs d ++ pE a ++ [32, 61, 32] ++ pE b ++ [59] ++ [10]))) d w' from fun W1 z h hz => by
    subst hz
    have h3 := h.below (W' := W1.alloc (.cells #[.string Sa, .string (⟨#[32, 61, 32]⟩ : ByteArray), .string Sb, .string (⟨#[59]⟩ : ByteArray)] 9)) ((Below.refl _ _).alloc (Nat.le_refl _) _) (h.hB hBX)
    have hfl : List.replicate d 9 ++ flat [Sa, (⟨#[32, 61, 32]⟩ : ByteArray), Sb, (⟨#[59]⟩ : ByteArray)] ++ [10] = tabs d ++ pE a ++ [32, 61, 32] ++ pE b ++ [59] ++ [10] := by simp [flat, tabs, qN, qa, qb]
    refine (line_any w0.heap.size ob_ bs d W1.heap.size [Sa, (⟨#[32, 61, 32]⟩ : ByteArray), Sb, (⟨#[59]⟩ : ByteArray)] _ h3.1 (by omega) (heap_alloc_new W1 _) (by have := h.1.lt; omega) (h3.hB hBX) ?_ (by simp)).mono ?_
    · rw [hfl]; simp only [List.length_append] at hlen ⊢; omega
    · rintro e w' ⟨rfl, h4⟩
      rw [hfl] at h4
      exact ⟨rfl, h3.trans h4⟩)
  have HS := Lib.hid (show ∀ Wk xs, At w0.heap.size ob_ X xs d Wk → (Wk.cell? ⟨W.heap.size, 0, none⟩ = some (.int .u8 40) ∧ Wk.cell? ⟨W.heap.size, 1, none⟩ = some (.int .i64 m) ∧ Wk.cell? ⟨W.heap.size, 3, none⟩ = some (.slice (some ad) 2 cp) ∧ Wk.cell? ad = some (.int .u8 a.f0) ∧ Wk.cell? ⟨ad.block, ad.off + 1, none⟩ = some (.int .i64 a.f1) ∧ Wk.cell? ⟨ad.block, ad.off + 2, none⟩ = some (.string a.f2) ∧ Wk.cell? ⟨ad.block, ad.off + 3, none⟩ = some (.slice Ba a.f3.length da) ∧ Wk.cell? ⟨ad.block, ad.off + 4, none⟩ = some (.int .u8 b.f0) ∧ Wk.cell? ⟨ad.block, ad.off + 4 + 1, none⟩ = some (.int .i64 b.f1) ∧ Wk.cell? ⟨ad.block, ad.off + 4 + 2, none⟩ = some (.string b.f2) ∧ Wk.cell? ⟨ad.block, ad.off + 4 + 3, none⟩ = some (.slice Bb b.f3.length db)) from fun Wk xs h =>
    have kk := fun {p : Addr} {v : Value} (z : w0.cell? p = some v) => ((hA0.2.1.trans h.2.1).cell (World.block_lt_of_cell? w0 _ z)).trans z
    ⟨(blk_cell (h.2.2.box (by decide) (by omega) hbk) 0).trans rfl, (blk_cell (h.2.2.box (by decide) (by omega) hbk) 1).trans rfl, (blk_cell (h.2.2.box (by decide) (by omega) hbk) 3).trans rfl, kk a0, kk a1, kk a2, kk a3, kk b0, kk b1, kk b2, kk b3⟩)
  have HAX := Lib.hid (And.intro (At.refl hAX.1) hAX)
  have HBX := Lib.hid hBX
  rw [hXe] at HAX HBX HS HI HLN HEa HEb 
  rw [pS_40]
  clear hA hAX hA0 hBX hB0 hX hbk hXe hr hL hc hlen hd hln hm hlt qN hNUM qa hSa qb hSb  a0 a1 a2 a3 hla hCa b0 b1 b2 b3 hlb hCb
  obtain ⟨y0, y1, y2, y3, y4, y5, y6, y7, y8, y9, y10⟩ := HS.out _ _ HAX.out.1
  unfold nodeV
  simp only [List.length_cons, List.length_nil]
  go_enter Tryd.func40, Tryd.ntmps40
  go_wp2_with fail
  generalize (W.alloc (.cells #[.int .u8 40, .int .i64 m, .string s, .slice (some ad) 2 cp] 24)) = X0 at *
  refine (HI.out _ _ HAX.out.1).mono ?_
  rintro e w1 ⟨rfl, h1⟩
  have H1 := Lib.hid h1
  clear y0 y1 y2 y3 y4 y5 y6 y7 y8 y9 y10
  clear h1
  obtain ⟨y0, y1, y2, y3, y4, y5, y6, y7, y8, y9, y10⟩ := HS.out _ _ H1.out
  go_wp2_with fail
  have allS := HS.out
  have hz := H1.out
  have at_al : ∀ {W2 : World} {xs : List Value} (o : Obj), At w0.heap.size ob_ X0 xs d W2 → At w0.heap.size ob_ X0 xs d (W2.alloc o) := fun o h => h.below ((Below.refl _ _).alloc (Nat.le_refl _) o) (h.hB HBX.out)
  go_region_held3 (fun W2 => W2.cell? ⟨W.heap.size, 0, none⟩ = some (.int .u8 40) ∧ W2.cell? ⟨W.heap.size, 1, none⟩ = some (.int .i64 m) ∧ W2.cell? ⟨W.heap.size, 3, none⟩ = some (.slice (some ad) 2 cp) ∧ W2.cell? ad = some (.int .u8 a.f0) ∧ W2.cell? ⟨ad.block, ad.off + 1, none⟩ = some (.int .i64 a.f1) ∧ W2.cell? ⟨ad.block, ad.off + 2, none⟩ = some (.string a.f2) ∧ W2.cell? ⟨ad.block, ad.off + 3, none⟩ = some (.slice Ba a.f3.length da) ∧ W2.cell? ⟨ad.block, ad.off + 4, none⟩ = some (.int .u8 b.f0) ∧ W2.cell? ⟨ad.block, ad.off + 4 + 1, none⟩ = some (.int .i64 b.f1) ∧ W2.cell? ⟨ad.block, ad.off + 4 + 2, none⟩ = some (.string b.f2) ∧ W2.cell? ⟨ad.block, ad.off + 4 + 3, none⟩ = some (.slice Bb b.f3.length db))
    (first | exact allS _ _ (by assumption) | exact allS _ _ (At.drew (by assumption)) | exact allS _ _ (at_al _ (by assumption)) | exact allS _ _ (at_al _ (At.drew (by assumption))) | exact allS _ _ (At.drew (at_al _ (by assumption))))
    (first
      | (go_at_call 17; (with_reducible refine (HEa.out _ (Lib.byteCells bs) ?hbb).mono ?_); (case hbb => first | assumption | exact At.drew (by assumption)); rintro e w' ⟨rfl, hbw⟩)
      | (go_at_call 17; (with_reducible refine (HEb.out _ (Lib.byteCells bs) ?hbb).mono ?_); (case hbb => first | assumption | exact At.drew (by assumption)); rintro e w' ⟨rfl, hbw⟩)
      | (go_at_call 50; (with_reducible refine (HLN.out _ _ ?hbb ?hzz).mono ?_); (case hbb => first | assumption | exact At.drew (by assumption)); (case hzz => rfl); rintro e w' ⟨rfl, hbw⟩))
  all_goals
    go_wp2
    go_end0
    exact ⟨rfl, HAX.out.2.trans (by assumption)⟩

theorem pS_41 (d : Nat) (m : Int) (s : ByteArray) (a b c : Nd) : pS d ⟨41, m, s, [a, b, c]⟩ = (tabs d ++ [105, 102, 32] ++ pE a ++ [32, 123] ++ [10]) ++ (pB (d + 1) b ++ tabs d ++ [125, 32, 101, 108, 115, 101, 32, 123] ++ [10]) ++ (pB (d + 1) c ++ tabs d ++ [125] ++ [10]) := by
  rw [pS.eq_def]; simp [pE1]

set_option maxHeartbeats 16000000 in
set_option maxRecDepth 100000 in
theorem stmt_41 (m : Int) (s : ByteArray) (a b c : Nd) (hm : 0 ≤ m ∧ m ≤ 1000) (ha : isN 1 a = true) (hBb : BlC b) (hBc : BlC c) : StC ⟨41, m, s, [a, b, c]⟩ := by
  intro w0 A cp hc hr hL ob_ bs d W hA hlen hd
  have hB0 : w0.heap.size ≤ W.heap.size := hA.2.1.size
  rw [pS_41] at hlen
  have hln : ([a, b, c] : List Nd).length = 3 := rfl
  rw [show (⟨41, m, s, [a, b, c]⟩ : Nd).f3.length = 3 from rfl] at hc
  have hX : Below W.heap.size W (W.alloc (.cells #[.int .u8 41, .int .i64 m, .string s, .slice A 3 cp] 24)) := (Below.refl _ _).alloc (Nat.le_refl _) _
  have hbk : (W.alloc (.cells #[.int .u8 41, .int .i64 m, .string s, .slice A 3 cp] 24)).heap[W.heap.size]? = some (.cells #[.int .u8 41, .int .i64 m, .string s, .slice A 3 cp] 24 (0, 0)) := heap_alloc_new W _
  obtain ⟨X, hXe⟩ : ∃ X, X = W.alloc (.cells #[.int .u8 41, .int .i64 m, .string s, .slice A 3 cp] 24) := ⟨_, rfl⟩
  rw [← hXe] at hX hbk
  have hAX : At w0.heap.size ob_ W (Lib.byteCells bs) d X := (At.refl hA.1).below hX hB0
  have hA0 : At w0.heap.size ob_ w0 (Lib.byteCells bs) d X := hA.below hX hB0
  have hBX : w0.heap.size ≤ X.heap.size := hA0.2.1.size
  have hlt : ob_ < W.heap.size := hA.1.lt
  have hkids := kid_3 hr
  obtain ⟨ad, Ba, da, Bb, db, Bc, dc, rfl, ⟨a0, a1, a2, a3, hla, hCa⟩, ⟨b0, b1, b2, b3, hlb, hCb⟩, ⟨c0, c1, c2, c3, hlc, hCc⟩⟩ := hkids
  obtain ⟨Sa, hSa⟩ : ∃ S : ByteArray, S = ⟨(pE a).toArray⟩ := ⟨_, rfl⟩
  have qa : Sa.data.toList = pE a := by rw [hSa]
  obtain ⟨NUM, hNUM⟩ : ∃ S : ByteArray, S = ⟨(Lib.itoa m).toArray⟩ := ⟨_, rfl⟩
  have qN : NUM.data.toList = Lib.itoa m := by rw [hNUM]
  have HQ := Lib.hid (And.intro qN (And.intro qa (True.intro)))
  have HI := Lib.hid (show ∀ W1 xs, At w0.heap.size ob_ X xs d W1 → Calls Tryd.prog 30 #[.int .i64 m] W1 fun e w' => e = .returned (.string NUM) ∧ At w0.heap.size ob_ X xs d w' from fun W1 xs h =>
    (itoa_any m (by omega) (by omega) W1 (hL.below (hA0.2.1.trans h.2.1))).mono (by rintro e w' ⟨rfl, h2⟩; exact ⟨by rw [hNUM], h.below h2 (h.hB hBX)⟩))
  have HEa := Lib.hid (show ∀ W1 xs, At w0.heap.size ob_ X xs d W1 → Calls Tryd.prog 17 #[.agg #[.int .u8 a.f0, .int .i64 a.f1, .string a.f2, .slice Ba a.f3.length da]] W1 fun e w' => e = .returned (.string Sa) ∧ At w0.heap.size ob_ X xs d w' from fun W1 xs h =>
    (expr_any a (ha) (by simp only [List.length_append] at hlen; omega) Ba da W1 hla (Kd.C_below hCa (hA0.2.1.trans h.2.1)) (hL.below (hA0.2.1.trans h.2.1))).mono (by rintro e w' ⟨rfl, h2⟩; exact ⟨by rw [hSa], h.below h2 (h.hB hBX)⟩))
  have HLN := Lib.hid (show ∀ (W1 : World) (z : Nat), At w0.heap.size ob_ X (Lib.byteCells bs) d W1 → W1.heap.size = z → Calls Tryd.prog 50 #[.pointer (some ⟨ob_, 0, none⟩), .slice (some ⟨z, 0, none⟩) 3 3] (W1.alloc (.cells #[.string (⟨#[105, 102, 32]⟩ : ByteArray), .string Sa, .string (⟨#[32, 123]⟩ : ByteArray)] 9)) fun e w' => e = .returned (.tuple #[]) ∧ At w0.heap.size ob_ X (Lib.byteCells (bs ++ (tabs d ++ [105, 102, 32] ++ pE a ++ [32, 123] ++ [10]))) d w' from fun W1 z h hz => by
    subst hz
    have h3 := h.below (W' := W1.alloc (.cells #[.string (⟨#[105, 102, 32]⟩ : ByteArray), .string Sa, .string (⟨#[32, 123]⟩ : ByteArray)] 9)) ((Below.refl _ _).alloc (Nat.le_refl _) _) (h.hB hBX)
    have hfl : List.replicate d 9 ++ flat [(⟨#[105, 102, 32]⟩ : ByteArray), Sa, (⟨#[32, 123]⟩ : ByteArray)] ++ [10] = tabs d ++ [105, 102, 32] ++ pE a ++ [32, 123] ++ [10] := by simp [flat, tabs, qN, qa]
    refine (line_any w0.heap.size ob_ bs d W1.heap.size [(⟨#[105, 102, 32]⟩ : ByteArray), Sa, (⟨#[32, 123]⟩ : ByteArray)] _ h3.1 (by omega) (heap_alloc_new W1 _) (by have := h.1.lt; omega) (h3.hB hBX) ?_ (by simp)).mono ?_
    · rw [hfl]; simp only [List.length_append] at hlen ⊢; omega
    · rintro e w' ⟨rfl, h4⟩
      rw [hfl] at h4
      exact ⟨rfl, h3.trans h4⟩)
  have HNb := Lib.hid (show ∀ (W1 : World), At w0.heap.size ob_ X (Lib.byteCells (bs ++ (tabs d ++ [105, 102, 32] ++ pE a ++ [32, 123] ++ [10]))) d W1 → Calls Tryd.prog 51 #[.pointer (some ⟨ob_, 0, none⟩), .agg #[.int .u8 b.f0, .int .i64 b.f1, .string b.f2, .slice Bb b.f3.length db], .string ⟨#[125, 32, 101, 108, 115, 101, 32, 123]⟩] W1 fun e w' => e = .returned (.tuple #[]) ∧ At w0.heap.size ob_ X (Lib.byteCells (bs ++ (tabs d ++ [105, 102, 32] ++ pE a ++ [32, 123] ++ [10]) ++ (pB (d + 1) b ++ tabs d ++ [125, 32, 101, 108, 115, 101, 32, 123] ++ [10]))) d w' from fun W1 h => by
    refine (nested_any b hBb ⟨#[125, 32, 101, 108, 115, 101, 32, 123]⟩ w0 Bb db hlb hCb hL ob_ (bs ++ (tabs d ++ [105, 102, 32] ++ pE a ++ [32, 123] ++ [10])) d W1 (hA0.trans h) ?_ ?_).mono ?_
    · simp only [List.length_append, List.length_cons, List.length_nil] at hlen ⊢; omega
    · have hd2 := hd; rw [depth] at hd2; simp only [depths] at hd2; omega
    · rintro e w' ⟨rfl, h4⟩; exact ⟨rfl, h.trans h4⟩)
  have HNc := Lib.hid (show ∀ (W1 : World), At w0.heap.size ob_ X (Lib.byteCells (bs ++ (tabs d ++ [105, 102, 32] ++ pE a ++ [32, 123] ++ [10]) ++ (pB (d + 1) b ++ tabs d ++ [125, 32, 101, 108, 115, 101, 32, 123] ++ [10]))) d W1 → Calls Tryd.prog 51 #[.pointer (some ⟨ob_, 0, none⟩), .agg #[.int .u8 c.f0, .int .i64 c.f1, .string c.f2, .slice Bc c.f3.length dc], .string ⟨#[125]⟩] W1 fun e w' => e = .returned (.tuple #[]) ∧ At w0.heap.size ob_ X (Lib.byteCells (bs ++ (tabs d ++ [105, 102, 32] ++ pE a ++ [32, 123] ++ [10]) ++ (pB (d + 1) b ++ tabs d ++ [125, 32, 101, 108, 115, 101, 32, 123] ++ [10]) ++ (pB (d + 1) c ++ tabs d ++ [125] ++ [10]))) d w' from fun W1 h => by
    refine (nested_any c hBc ⟨#[125]⟩ w0 Bc dc hlc hCc hL ob_ (bs ++ (tabs d ++ [105, 102, 32] ++ pE a ++ [32, 123] ++ [10]) ++ (pB (d + 1) b ++ tabs d ++ [125, 32, 101, 108, 115, 101, 32, 123] ++ [10])) d W1 (hA0.trans h) ?_ ?_).mono ?_
    · simp only [List.length_append, List.length_cons, List.length_nil] at hlen ⊢; omega
    · have hd2 := hd; rw [depth] at hd2; simp only [depths] at hd2; omega
    · rintro e w' ⟨rfl, h4⟩; exact ⟨rfl, h.trans h4⟩)
  have HS := Lib.hid (show ∀ Wk xs, At w0.heap.size ob_ X xs d Wk → (Wk.cell? ⟨W.heap.size, 0, none⟩ = some (.int .u8 41) ∧ Wk.cell? ⟨W.heap.size, 1, none⟩ = some (.int .i64 m) ∧ Wk.cell? ⟨W.heap.size, 3, none⟩ = some (.slice (some ad) 3 cp) ∧ Wk.cell? ad = some (.int .u8 a.f0) ∧ Wk.cell? ⟨ad.block, ad.off + 1, none⟩ = some (.int .i64 a.f1) ∧ Wk.cell? ⟨ad.block, ad.off + 2, none⟩ = some (.string a.f2) ∧ Wk.cell? ⟨ad.block, ad.off + 3, none⟩ = some (.slice Ba a.f3.length da) ∧ Wk.cell? ⟨ad.block, ad.off + 4, none⟩ = some (.int .u8 b.f0) ∧ Wk.cell? ⟨ad.block, ad.off + 4 + 1, none⟩ = some (.int .i64 b.f1) ∧ Wk.cell? ⟨ad.block, ad.off + 4 + 2, none⟩ = some (.string b.f2) ∧ Wk.cell? ⟨ad.block, ad.off + 4 + 3, none⟩ = some (.slice Bb b.f3.length db) ∧ Wk.cell? ⟨ad.block, ad.off + 8, none⟩ = some (.int .u8 c.f0) ∧ Wk.cell? ⟨ad.block, ad.off + 8 + 1, none⟩ = some (.int .i64 c.f1) ∧ Wk.cell? ⟨ad.block, ad.off + 8 + 2, none⟩ = some (.string c.f2) ∧ Wk.cell? ⟨ad.block, ad.off + 8 + 3, none⟩ = some (.slice Bc c.f3.length dc)) from fun Wk xs h =>
    have kk := fun {p : Addr} {v : Value} (z : w0.cell? p = some v) => ((hA0.2.1.trans h.2.1).cell (World.block_lt_of_cell? w0 _ z)).trans z
    ⟨(blk_cell (h.2.2.box (by decide) (by omega) hbk) 0).trans rfl, (blk_cell (h.2.2.box (by decide) (by omega) hbk) 1).trans rfl, (blk_cell (h.2.2.box (by decide) (by omega) hbk) 3).trans rfl, kk a0, kk a1, kk a2, kk a3, kk b0, kk b1, kk b2, kk b3, kk c0, kk c1, kk c2, kk c3⟩)
  have HAX := Lib.hid (And.intro (At.refl hAX.1) hAX)
  rw [hXe] at HAX HS HI HLN HEa HNb HNc
  rw [pS_41]
  clear hA hAX hA0 hBX hB0 hX hbk hXe hr hL hc hlen hd hln hm hlt qN hNUM qa hSa hBb hBc a0 a1 a2 a3 hla hCa b0 b1 b2 b3 hlb hCb c0 c1 c2 c3 hlc hCc
  obtain ⟨y0, y1, y2, y3, y4, y5, y6, y7, y8, y9, y10, y11, y12, y13, y14⟩ := HS.out _ _ HAX.out.1
  unfold nodeV
  simp only [List.length_cons, List.length_nil]
  go_enter Tryd.func40, Tryd.ntmps40
  go_wp2_with fail
  generalize (W.alloc (.cells #[.int .u8 41, .int .i64 m, .string s, .slice (some ad) 3 cp] 24)) = X0 at *
  refine (HI.out _ _ HAX.out.1).mono ?_
  rintro e w1 ⟨rfl, h1⟩
  have H1 := Lib.hid h1
  clear y0 y1 y2 y3 y4 y5 y6 y7 y8 y9 y10 y11 y12 y13 y14
  clear h1
  obtain ⟨y0, y1, y2, y3, y4, y5, y6, y7, y8, y9, y10, y11, y12, y13, y14⟩ := HS.out _ _ H1.out
  go_wp2_with fail
  refine (HEa.out _ _ H1.out).mono ?_
  rintro e w2 ⟨rfl, h2⟩
  have H2 := Lib.hid h2
  clear y0 y1 y2 y3 y4 y5 y6 y7 y8 y9 y10 y11 y12 y13 y14
  clear h2
  obtain ⟨y0, y1, y2, y3, y4, y5, y6, y7, y8, y9, y10, y11, y12, y13, y14⟩ := HS.out _ _ H2.out
  go_wp2_with fail
  refine (HLN.out _ _ H2.out rfl).mono ?_
  rintro e w3 ⟨rfl, h3⟩
  have H3 := Lib.hid h3
  clear y0 y1 y2 y3 y4 y5 y6 y7 y8 y9 y10 y11 y12 y13 y14
  clear h3
  obtain ⟨y0, y1, y2, y3, y4, y5, y6, y7, y8, y9, y10, y11, y12, y13, y14⟩ := HS.out _ _ H3.out
  go_wp2_with fail
  refine (HNb.out _ H3.out).mono ?_
  rintro e w4 ⟨rfl, h4⟩
  have H4 := Lib.hid h4
  clear y0 y1 y2 y3 y4 y5 y6 y7 y8 y9 y10 y11 y12 y13 y14
  clear h4
  obtain ⟨y0, y1, y2, y3, y4, y5, y6, y7, y8, y9, y10, y11, y12, y13, y14⟩ := HS.out _ _ H4.out
  go_wp2_with fail
  refine (HNc.out _ H4.out).mono ?_
  rintro e w5 ⟨rfl, h5⟩
  have H5 := Lib.hid h5
  clear y0 y1 y2 y3 y4 y5 y6 y7 y8 y9 y10 y11 y12 y13 y14
  clear h5
  obtain ⟨y0, y1, y2, y3, y4, y5, y6, y7, y8, y9, y10, y11, y12, y13, y14⟩ := HS.out _ _ H5.out
  go_wp2_with fail
  go_end0
  refine ⟨rfl, ?_⟩
  have := HAX.out.2.trans H5.out
  simpa only [List.append_assoc] using this

theorem pS_42 (d : Nat) (m : Int) (s : ByteArray) (a : Nd) : pS d ⟨42, m, s, [a]⟩ = (tabs d ++ [102, 111, 114, 32] ++ s.data.toList ++ [32, 60, 32] ++ Lib.itoa m ++ [32, 123] ++ [10]) ++ (pB (d + 1) a ++ tabs d ++ [125] ++ [10]) := by
  rw [pS.eq_def]; simp [pE1]

set_option maxHeartbeats 16000000 in
set_option maxRecDepth 100000 in
theorem stmt_42 (m : Int) (s : ByteArray) (a : Nd) (hm : 0 ≤ m ∧ m ≤ 1000)  (hBa : BlC a) : StC ⟨42, m, s, [a]⟩ := by
  intro w0 A cp hc hr hL ob_ bs d W hA hlen hd
  have hB0 : w0.heap.size ≤ W.heap.size := hA.2.1.size
  rw [pS_42] at hlen
  have hln : ([a] : List Nd).length = 1 := rfl
  rw [show (⟨42, m, s, [a]⟩ : Nd).f3.length = 1 from rfl] at hc
  have hX : Below W.heap.size W (W.alloc (.cells #[.int .u8 42, .int .i64 m, .string s, .slice A 1 cp] 24)) := (Below.refl _ _).alloc (Nat.le_refl _) _
  have hbk : (W.alloc (.cells #[.int .u8 42, .int .i64 m, .string s, .slice A 1 cp] 24)).heap[W.heap.size]? = some (.cells #[.int .u8 42, .int .i64 m, .string s, .slice A 1 cp] 24 (0, 0)) := heap_alloc_new W _
  obtain ⟨X, hXe⟩ : ∃ X, X = W.alloc (.cells #[.int .u8 42, .int .i64 m, .string s, .slice A 1 cp] 24) := ⟨_, rfl⟩
  rw [← hXe] at hX hbk
  have hAX : At w0.heap.size ob_ W (Lib.byteCells bs) d X := (At.refl hA.1).below hX hB0
  have hA0 : At w0.heap.size ob_ w0 (Lib.byteCells bs) d X := hA.below hX hB0
  have hBX : w0.heap.size ≤ X.heap.size := hA0.2.1.size
  have hlt : ob_ < W.heap.size := hA.1.lt
  have hkids := kid_1 hr
  obtain ⟨ad, Ba, da, rfl, ⟨a0, a1, a2, a3, hla, hCa⟩⟩ := hkids
  obtain ⟨NUM, hNUM⟩ : ∃ S : ByteArray, S = ⟨(Lib.itoa m).toArray⟩ := ⟨_, rfl⟩
  have qN : NUM.data.toList = Lib.itoa m := by rw [hNUM]
  have HQ := Lib.hid (And.intro qN (True.intro))
  have HI := Lib.hid (show ∀ W1 xs, At w0.heap.size ob_ X xs d W1 → Calls Tryd.prog 30 #[.int .i64 m] W1 fun e w' => e = .returned (.string NUM) ∧ At w0.heap.size ob_ X xs d w' from fun W1 xs h =>
    (itoa_any m (by omega) (by omega) W1 (hL.below (hA0.2.1.trans h.2.1))).mono (by rintro e w' ⟨rfl, h2⟩; exact ⟨by rw [hNUM], h.below h2 (h.hB hBX)⟩))
  have HLN := Lib.hid (show ∀ (W1 : World) (z : Nat), At w0.heap.size ob_ X (Lib.byteCells bs) d W1 → W1.heap.size = z → Calls Tryd.prog 50 #[.pointer (some ⟨ob_, 0, none⟩), .slice (some ⟨z, 0, none⟩) 5 5] (W1.alloc (.cells #[.string (⟨#[102, 111, 114, 32]⟩ : ByteArray), .string s, .string (⟨#[32, 60, 32]⟩ : ByteArray), .string NUM, .string (⟨#[32, 123]⟩ : ByteArray)] 9)) fun e w' => e = .returned (.tuple #[]) ∧ At w0.heap.size ob_ X (Lib.byteCells (bs ++ (tabs d ++ [102, 111, 114, 32] ++ s.data.toList ++ [32, 60, 32] ++ Lib.itoa m ++ [32, 123] ++ [10]))) d w' from fun W1 z h hz => by
    subst hz
    have h3 := h.below (W' := W1.alloc (.cells #[.string (⟨#[102, 111, 114, 32]⟩ : ByteArray), .string s, .string (⟨#[32, 60, 32]⟩ : ByteArray), .string NUM, .string (⟨#[32, 123]⟩ : ByteArray)] 9)) ((Below.refl _ _).alloc (Nat.le_refl _) _) (h.hB hBX)
    have hfl : List.replicate d 9 ++ flat [(⟨#[102, 111, 114, 32]⟩ : ByteArray), s, (⟨#[32, 60, 32]⟩ : ByteArray), NUM, (⟨#[32, 123]⟩ : ByteArray)] ++ [10] = tabs d ++ [102, 111, 114, 32] ++ s.data.toList ++ [32, 60, 32] ++ Lib.itoa m ++ [32, 123] ++ [10] := by simp [flat, tabs, qN]
    refine (line_any w0.heap.size ob_ bs d W1.heap.size [(⟨#[102, 111, 114, 32]⟩ : ByteArray), s, (⟨#[32, 60, 32]⟩ : ByteArray), NUM, (⟨#[32, 123]⟩ : ByteArray)] _ h3.1 (by omega) (heap_alloc_new W1 _) (by have := h.1.lt; omega) (h3.hB hBX) ?_ (by simp)).mono ?_
    · rw [hfl]; simp only [List.length_append] at hlen ⊢; omega
    · rintro e w' ⟨rfl, h4⟩
      rw [hfl] at h4
      exact ⟨rfl, h3.trans h4⟩)
  have HNa := Lib.hid (show ∀ (W1 : World), At w0.heap.size ob_ X (Lib.byteCells (bs ++ (tabs d ++ [102, 111, 114, 32] ++ s.data.toList ++ [32, 60, 32] ++ Lib.itoa m ++ [32, 123] ++ [10]))) d W1 → Calls Tryd.prog 51 #[.pointer (some ⟨ob_, 0, none⟩), .agg #[.int .u8 a.f0, .int .i64 a.f1, .string a.f2, .slice Ba a.f3.length da], .string ⟨#[125]⟩] W1 fun e w' => e = .returned (.tuple #[]) ∧ At w0.heap.size ob_ X (Lib.byteCells (bs ++ (tabs d ++ [102, 111, 114, 32] ++ s.data.toList ++ [32, 60, 32] ++ Lib.itoa m ++ [32, 123] ++ [10]) ++ (pB (d + 1) a ++ tabs d ++ [125] ++ [10]))) d w' from fun W1 h => by
    refine (nested_any a hBa ⟨#[125]⟩ w0 Ba da hla hCa hL ob_ (bs ++ (tabs d ++ [102, 111, 114, 32] ++ s.data.toList ++ [32, 60, 32] ++ Lib.itoa m ++ [32, 123] ++ [10])) d W1 (hA0.trans h) ?_ ?_).mono ?_
    · simp only [List.length_append, List.length_cons, List.length_nil] at hlen ⊢; omega
    · have hd2 := hd; rw [depth] at hd2; simp only [depths] at hd2; omega
    · rintro e w' ⟨rfl, h4⟩; exact ⟨rfl, h.trans h4⟩)
  have HS := Lib.hid (show ∀ Wk xs, At w0.heap.size ob_ X xs d Wk → (Wk.cell? ⟨W.heap.size, 0, none⟩ = some (.int .u8 42) ∧ Wk.cell? ⟨W.heap.size, 1, none⟩ = some (.int .i64 m) ∧ Wk.cell? ⟨W.heap.size, 2, none⟩ = some (.string s) ∧ Wk.cell? ⟨W.heap.size, 3, none⟩ = some (.slice (some ad) 1 cp) ∧ Wk.cell? ad = some (.int .u8 a.f0) ∧ Wk.cell? ⟨ad.block, ad.off + 1, none⟩ = some (.int .i64 a.f1) ∧ Wk.cell? ⟨ad.block, ad.off + 2, none⟩ = some (.string a.f2) ∧ Wk.cell? ⟨ad.block, ad.off + 3, none⟩ = some (.slice Ba a.f3.length da)) from fun Wk xs h =>
    have kk := fun {p : Addr} {v : Value} (z : w0.cell? p = some v) => ((hA0.2.1.trans h.2.1).cell (World.block_lt_of_cell? w0 _ z)).trans z
    ⟨(blk_cell (h.2.2.box (by decide) (by omega) hbk) 0).trans rfl, (blk_cell (h.2.2.box (by decide) (by omega) hbk) 1).trans rfl, (blk_cell (h.2.2.box (by decide) (by omega) hbk) 2).trans rfl, (blk_cell (h.2.2.box (by decide) (by omega) hbk) 3).trans rfl, kk a0, kk a1, kk a2, kk a3⟩)
  have HAX := Lib.hid (And.intro (At.refl hAX.1) hAX)
  rw [hXe] at HAX HS HI HLN  HNa
  rw [pS_42]
  clear hA hAX hA0 hBX hB0 hX hbk hXe hr hL hc hlen hd hln hm hlt qN hNUM  hBa a0 a1 a2 a3 hla hCa
  obtain ⟨y0, y1, y2, y3, y4, y5, y6, y7⟩ := HS.out _ _ HAX.out.1
  unfold nodeV
  simp only [List.length_cons, List.length_nil]
  go_enter Tryd.func40, Tryd.ntmps40
  go_wp2_with fail
  generalize (W.alloc (.cells #[.int .u8 42, .int .i64 m, .string s, .slice (some ad) 1 cp] 24)) = X0 at *
  refine (HI.out _ _ HAX.out.1).mono ?_
  rintro e w1 ⟨rfl, h1⟩
  have H1 := Lib.hid h1
  clear y0 y1 y2 y3 y4 y5 y6 y7
  clear h1
  obtain ⟨y0, y1, y2, y3, y4, y5, y6, y7⟩ := HS.out _ _ H1.out
  go_wp2_with fail
  refine (HLN.out _ _ H1.out rfl).mono ?_
  rintro e w3 ⟨rfl, h3⟩
  have H3 := Lib.hid h3
  clear y0 y1 y2 y3 y4 y5 y6 y7
  clear h3
  obtain ⟨y0, y1, y2, y3, y4, y5, y6, y7⟩ := HS.out _ _ H3.out
  go_wp2_with fail
  refine (HNa.out _ H3.out).mono ?_
  rintro e w4 ⟨rfl, h4⟩
  have H4 := Lib.hid h4
  clear y0 y1 y2 y3 y4 y5 y6 y7
  clear h4
  obtain ⟨y0, y1, y2, y3, y4, y5, y6, y7⟩ := HS.out _ _ H4.out
  go_wp2_with fail
  go_end0
  refine ⟨rfl, ?_⟩
  have := HAX.out.2.trans H4.out
  simpa only [List.append_assoc] using this

theorem pS_43 (d : Nat) (m : Int) (s : ByteArray) (a b : Nd) : pS d ⟨43, m, s, [a, b]⟩ = (tabs d ++ [119, 104, 105, 108, 101, 32] ++ pE a ++ [32, 98, 111, 117, 110, 100, 32] ++ Lib.itoa m ++ [32, 123] ++ [10]) ++ (pB (d + 1) b ++ tabs d ++ [125] ++ [10]) := by
  rw [pS.eq_def]; simp [pE1]

set_option maxHeartbeats 16000000 in
set_option maxRecDepth 100000 in
theorem stmt_43 (m : Int) (s : ByteArray) (a b : Nd) (hm : 0 ≤ m ∧ m ≤ 1000) (ha : isN 1 a = true) (hBb : BlC b) : StC ⟨43, m, s, [a, b]⟩ := by
  intro w0 A cp hc hr hL ob_ bs d W hA hlen hd
  have hB0 : w0.heap.size ≤ W.heap.size := hA.2.1.size
  rw [pS_43] at hlen
  have hln : ([a, b] : List Nd).length = 2 := rfl
  rw [show (⟨43, m, s, [a, b]⟩ : Nd).f3.length = 2 from rfl] at hc
  have hX : Below W.heap.size W (W.alloc (.cells #[.int .u8 43, .int .i64 m, .string s, .slice A 2 cp] 24)) := (Below.refl _ _).alloc (Nat.le_refl _) _
  have hbk : (W.alloc (.cells #[.int .u8 43, .int .i64 m, .string s, .slice A 2 cp] 24)).heap[W.heap.size]? = some (.cells #[.int .u8 43, .int .i64 m, .string s, .slice A 2 cp] 24 (0, 0)) := heap_alloc_new W _
  obtain ⟨X, hXe⟩ : ∃ X, X = W.alloc (.cells #[.int .u8 43, .int .i64 m, .string s, .slice A 2 cp] 24) := ⟨_, rfl⟩
  rw [← hXe] at hX hbk
  have hAX : At w0.heap.size ob_ W (Lib.byteCells bs) d X := (At.refl hA.1).below hX hB0
  have hA0 : At w0.heap.size ob_ w0 (Lib.byteCells bs) d X := hA.below hX hB0
  have hBX : w0.heap.size ≤ X.heap.size := hA0.2.1.size
  have hlt : ob_ < W.heap.size := hA.1.lt
  have hkids := kid_2 hr
  obtain ⟨ad, Ba, da, Bb, db, rfl, ⟨a0, a1, a2, a3, hla, hCa⟩, ⟨b0, b1, b2, b3, hlb, hCb⟩⟩ := hkids
  obtain ⟨Sa, hSa⟩ : ∃ S : ByteArray, S = ⟨(pE a).toArray⟩ := ⟨_, rfl⟩
  have qa : Sa.data.toList = pE a := by rw [hSa]
  obtain ⟨NUM, hNUM⟩ : ∃ S : ByteArray, S = ⟨(Lib.itoa m).toArray⟩ := ⟨_, rfl⟩
  have qN : NUM.data.toList = Lib.itoa m := by rw [hNUM]
  have HQ := Lib.hid (And.intro qN (And.intro qa (True.intro)))
  have HI := Lib.hid (show ∀ W1 xs, At w0.heap.size ob_ X xs d W1 → Calls Tryd.prog 30 #[.int .i64 m] W1 fun e w' => e = .returned (.string NUM) ∧ At w0.heap.size ob_ X xs d w' from fun W1 xs h =>
    (itoa_any m (by omega) (by omega) W1 (hL.below (hA0.2.1.trans h.2.1))).mono (by rintro e w' ⟨rfl, h2⟩; exact ⟨by rw [hNUM], h.below h2 (h.hB hBX)⟩))
  have HEa := Lib.hid (show ∀ W1 xs, At w0.heap.size ob_ X xs d W1 → Calls Tryd.prog 17 #[.agg #[.int .u8 a.f0, .int .i64 a.f1, .string a.f2, .slice Ba a.f3.length da]] W1 fun e w' => e = .returned (.string Sa) ∧ At w0.heap.size ob_ X xs d w' from fun W1 xs h =>
    (expr_any a (ha) (by simp only [List.length_append] at hlen; omega) Ba da W1 hla (Kd.C_below hCa (hA0.2.1.trans h.2.1)) (hL.below (hA0.2.1.trans h.2.1))).mono (by rintro e w' ⟨rfl, h2⟩; exact ⟨by rw [hSa], h.below h2 (h.hB hBX)⟩))
  have HLN := Lib.hid (show ∀ (W1 : World) (z : Nat), At w0.heap.size ob_ X (Lib.byteCells bs) d W1 → W1.heap.size = z → Calls Tryd.prog 50 #[.pointer (some ⟨ob_, 0, none⟩), .slice (some ⟨z, 0, none⟩) 5 5] (W1.alloc (.cells #[.string (⟨#[119, 104, 105, 108, 101, 32]⟩ : ByteArray), .string Sa, .string (⟨#[32, 98, 111, 117, 110, 100, 32]⟩ : ByteArray), .string NUM, .string (⟨#[32, 123]⟩ : ByteArray)] 9)) fun e w' => e = .returned (.tuple #[]) ∧ At w0.heap.size ob_ X (Lib.byteCells (bs ++ (tabs d ++ [119, 104, 105, 108, 101, 32] ++ pE a ++ [32, 98, 111, 117, 110, 100, 32] ++ Lib.itoa m ++ [32, 123] ++ [10]))) d w' from fun W1 z h hz => by
    subst hz
    have h3 := h.below (W' := W1.alloc (.cells #[.string (⟨#[119, 104, 105, 108, 101, 32]⟩ : ByteArray), .string Sa, .string (⟨#[32, 98, 111, 117, 110, 100, 32]⟩ : ByteArray), .string NUM, .string (⟨#[32, 123]⟩ : ByteArray)] 9)) ((Below.refl _ _).alloc (Nat.le_refl _) _) (h.hB hBX)
    have hfl : List.replicate d 9 ++ flat [(⟨#[119, 104, 105, 108, 101, 32]⟩ : ByteArray), Sa, (⟨#[32, 98, 111, 117, 110, 100, 32]⟩ : ByteArray), NUM, (⟨#[32, 123]⟩ : ByteArray)] ++ [10] = tabs d ++ [119, 104, 105, 108, 101, 32] ++ pE a ++ [32, 98, 111, 117, 110, 100, 32] ++ Lib.itoa m ++ [32, 123] ++ [10] := by simp [flat, tabs, qN, qa]
    refine (line_any w0.heap.size ob_ bs d W1.heap.size [(⟨#[119, 104, 105, 108, 101, 32]⟩ : ByteArray), Sa, (⟨#[32, 98, 111, 117, 110, 100, 32]⟩ : ByteArray), NUM, (⟨#[32, 123]⟩ : ByteArray)] _ h3.1 (by omega) (heap_alloc_new W1 _) (by have := h.1.lt; omega) (h3.hB hBX) ?_ (by simp)).mono ?_
    · rw [hfl]; simp only [List.length_append] at hlen ⊢; omega
    · rintro e w' ⟨rfl, h4⟩
      rw [hfl] at h4
      exact ⟨rfl, h3.trans h4⟩)
  have HNb := Lib.hid (show ∀ (W1 : World), At w0.heap.size ob_ X (Lib.byteCells (bs ++ (tabs d ++ [119, 104, 105, 108, 101, 32] ++ pE a ++ [32, 98, 111, 117, 110, 100, 32] ++ Lib.itoa m ++ [32, 123] ++ [10]))) d W1 → Calls Tryd.prog 51 #[.pointer (some ⟨ob_, 0, none⟩), .agg #[.int .u8 b.f0, .int .i64 b.f1, .string b.f2, .slice Bb b.f3.length db], .string ⟨#[125]⟩] W1 fun e w' => e = .returned (.tuple #[]) ∧ At w0.heap.size ob_ X (Lib.byteCells (bs ++ (tabs d ++ [119, 104, 105, 108, 101, 32] ++ pE a ++ [32, 98, 111, 117, 110, 100, 32] ++ Lib.itoa m ++ [32, 123] ++ [10]) ++ (pB (d + 1) b ++ tabs d ++ [125] ++ [10]))) d w' from fun W1 h => by
    refine (nested_any b hBb ⟨#[125]⟩ w0 Bb db hlb hCb hL ob_ (bs ++ (tabs d ++ [119, 104, 105, 108, 101, 32] ++ pE a ++ [32, 98, 111, 117, 110, 100, 32] ++ Lib.itoa m ++ [32, 123] ++ [10])) d W1 (hA0.trans h) ?_ ?_).mono ?_
    · simp only [List.length_append, List.length_cons, List.length_nil] at hlen ⊢; omega
    · have hd2 := hd; rw [depth] at hd2; simp only [depths] at hd2; omega
    · rintro e w' ⟨rfl, h4⟩; exact ⟨rfl, h.trans h4⟩)
  have HS := Lib.hid (show ∀ Wk xs, At w0.heap.size ob_ X xs d Wk → (Wk.cell? ⟨W.heap.size, 0, none⟩ = some (.int .u8 43) ∧ Wk.cell? ⟨W.heap.size, 1, none⟩ = some (.int .i64 m) ∧ Wk.cell? ⟨W.heap.size, 3, none⟩ = some (.slice (some ad) 2 cp) ∧ Wk.cell? ad = some (.int .u8 a.f0) ∧ Wk.cell? ⟨ad.block, ad.off + 1, none⟩ = some (.int .i64 a.f1) ∧ Wk.cell? ⟨ad.block, ad.off + 2, none⟩ = some (.string a.f2) ∧ Wk.cell? ⟨ad.block, ad.off + 3, none⟩ = some (.slice Ba a.f3.length da) ∧ Wk.cell? ⟨ad.block, ad.off + 4, none⟩ = some (.int .u8 b.f0) ∧ Wk.cell? ⟨ad.block, ad.off + 4 + 1, none⟩ = some (.int .i64 b.f1) ∧ Wk.cell? ⟨ad.block, ad.off + 4 + 2, none⟩ = some (.string b.f2) ∧ Wk.cell? ⟨ad.block, ad.off + 4 + 3, none⟩ = some (.slice Bb b.f3.length db)) from fun Wk xs h =>
    have kk := fun {p : Addr} {v : Value} (z : w0.cell? p = some v) => ((hA0.2.1.trans h.2.1).cell (World.block_lt_of_cell? w0 _ z)).trans z
    ⟨(blk_cell (h.2.2.box (by decide) (by omega) hbk) 0).trans rfl, (blk_cell (h.2.2.box (by decide) (by omega) hbk) 1).trans rfl, (blk_cell (h.2.2.box (by decide) (by omega) hbk) 3).trans rfl, kk a0, kk a1, kk a2, kk a3, kk b0, kk b1, kk b2, kk b3⟩)
  have HAX := Lib.hid (And.intro (At.refl hAX.1) hAX)
  rw [hXe] at HAX HS HI HLN HEa HNb
  rw [pS_43]
  clear hA hAX hA0 hBX hB0 hX hbk hXe hr hL hc hlen hd hln hm hlt qN hNUM qa hSa hBb a0 a1 a2 a3 hla hCa b0 b1 b2 b3 hlb hCb
  obtain ⟨y0, y1, y2, y3, y4, y5, y6, y7, y8, y9, y10⟩ := HS.out _ _ HAX.out.1
  unfold nodeV
  simp only [List.length_cons, List.length_nil]
  go_enter Tryd.func40, Tryd.ntmps40
  go_wp2_with fail
  generalize (W.alloc (.cells #[.int .u8 43, .int .i64 m, .string s, .slice (some ad) 2 cp] 24)) = X0 at *
  refine (HI.out _ _ HAX.out.1).mono ?_
  rintro e w1 ⟨rfl, h1⟩
  have H1 := Lib.hid h1
  clear y0 y1 y2 y3 y4 y5 y6 y7 y8 y9 y10
  clear h1
  obtain ⟨y0, y1, y2, y3, y4, y5, y6, y7, y8, y9, y10⟩ := HS.out _ _ H1.out
  go_wp2_with fail
  refine (HEa.out _ _ H1.out).mono ?_
  rintro e w2 ⟨rfl, h2⟩
  have H2 := Lib.hid h2
  clear y0 y1 y2 y3 y4 y5 y6 y7 y8 y9 y10
  clear h2
  obtain ⟨y0, y1, y2, y3, y4, y5, y6, y7, y8, y9, y10⟩ := HS.out _ _ H2.out
  go_wp2_with fail
  refine (HLN.out _ _ H2.out rfl).mono ?_
  rintro e w3 ⟨rfl, h3⟩
  have H3 := Lib.hid h3
  clear y0 y1 y2 y3 y4 y5 y6 y7 y8 y9 y10
  clear h3
  obtain ⟨y0, y1, y2, y3, y4, y5, y6, y7, y8, y9, y10⟩ := HS.out _ _ H3.out
  go_wp2_with fail
  refine (HNb.out _ H3.out).mono ?_
  rintro e w4 ⟨rfl, h4⟩
  have H4 := Lib.hid h4
  clear y0 y1 y2 y3 y4 y5 y6 y7 y8 y9 y10
  clear h4
  obtain ⟨y0, y1, y2, y3, y4, y5, y6, y7, y8, y9, y10⟩ := HS.out _ _ H4.out
  go_wp2_with fail
  go_end0
  refine ⟨rfl, ?_⟩
  have := HAX.out.2.trans H4.out
  simpa only [List.append_assoc] using this

theorem pS_44 (d : Nat) (m : Int) (s : ByteArray) (a : Nd) : pS d ⟨44, m, s, [a]⟩ = (tabs d ++ [105, 110, 32] ++ pE a ++ [44, 32] ++ Lib.itoa m ++ [59] ++ [10]) := by
  rw [pS.eq_def]; simp [pE1]

set_option maxHeartbeats 16000000 in
set_option maxRecDepth 100000 in
theorem stmt_44 (m : Int) (s : ByteArray) (a : Nd) (hm : 0 ≤ m ∧ m ≤ 1000) (ha : isN 2 a = true)  : StC ⟨44, m, s, [a]⟩ := by
  intro w0 A cp hc hr hL ob_ bs d W hA hlen hd
  have hB0 : w0.heap.size ≤ W.heap.size := hA.2.1.size
  rw [pS_44] at hlen
  have hln : ([a] : List Nd).length = 1 := rfl
  rw [show (⟨44, m, s, [a]⟩ : Nd).f3.length = 1 from rfl] at hc
  have hX : Below W.heap.size W (W.alloc (.cells #[.int .u8 44, .int .i64 m, .string s, .slice A 1 cp] 24)) := (Below.refl _ _).alloc (Nat.le_refl _) _
  have hbk : (W.alloc (.cells #[.int .u8 44, .int .i64 m, .string s, .slice A 1 cp] 24)).heap[W.heap.size]? = some (.cells #[.int .u8 44, .int .i64 m, .string s, .slice A 1 cp] 24 (0, 0)) := heap_alloc_new W _
  obtain ⟨X, hXe⟩ : ∃ X, X = W.alloc (.cells #[.int .u8 44, .int .i64 m, .string s, .slice A 1 cp] 24) := ⟨_, rfl⟩
  rw [← hXe] at hX hbk
  have hAX : At w0.heap.size ob_ W (Lib.byteCells bs) d X := (At.refl hA.1).below hX hB0
  have hA0 : At w0.heap.size ob_ w0 (Lib.byteCells bs) d X := hA.below hX hB0
  have hBX : w0.heap.size ≤ X.heap.size := hA0.2.1.size
  have hlt : ob_ < W.heap.size := hA.1.lt
  have hkids := kid_1 hr
  obtain ⟨ad, Ba, da, rfl, ⟨a0, a1, a2, a3, hla, hCa⟩⟩ := hkids
  obtain ⟨Sa, hSa⟩ : ∃ S : ByteArray, S = ⟨(pE a).toArray⟩ := ⟨_, rfl⟩
  have qa : Sa.data.toList = pE a := by rw [hSa]
  obtain ⟨NUM, hNUM⟩ : ∃ S : ByteArray, S = ⟨(Lib.itoa m).toArray⟩ := ⟨_, rfl⟩
  have qN : NUM.data.toList = Lib.itoa m := by rw [hNUM]
  have HQ := Lib.hid (And.intro qN (And.intro qa (True.intro)))
  have HI := Lib.hid (show ∀ W1 xs, At w0.heap.size ob_ X xs d W1 → Calls Tryd.prog 30 #[.int .i64 m] W1 fun e w' => e = .returned (.string NUM) ∧ At w0.heap.size ob_ X xs d w' from fun W1 xs h =>
    (itoa_any m (by omega) (by omega) W1 (hL.below (hA0.2.1.trans h.2.1))).mono (by rintro e w' ⟨rfl, h2⟩; exact ⟨by rw [hNUM], h.below h2 (h.hB hBX)⟩))
  have HEa := Lib.hid (show ∀ W1 xs, At w0.heap.size ob_ X xs d W1 → Calls Tryd.prog 17 #[.agg #[.int .u8 a.f0, .int .i64 a.f1, .string a.f2, .slice Ba a.f3.length da]] W1 fun e w' => e = .returned (.string Sa) ∧ At w0.heap.size ob_ X xs d w' from fun W1 xs h =>
    (expr_any a (place_expr _ ha) (by simp only [List.length_append] at hlen; omega) Ba da W1 hla (Kd.C_below hCa (hA0.2.1.trans h.2.1)) (hL.below (hA0.2.1.trans h.2.1))).mono (by rintro e w' ⟨rfl, h2⟩; exact ⟨by rw [hSa], h.below h2 (h.hB hBX)⟩))
  have HLN := Lib.hid (show ∀ (W1 : World) (z : Nat), At w0.heap.size ob_ X (Lib.byteCells bs) d W1 → W1.heap.size = z → Calls Tryd.prog 50 #[.pointer (some ⟨ob_, 0, none⟩), .slice (some ⟨z, 0, none⟩) 5 5] (W1.alloc (.cells #[.string (⟨#[105, 110, 32]⟩ : ByteArray), .string Sa, .string (⟨#[44, 32]⟩ : ByteArray), .string NUM, .string (⟨#[59]⟩ : ByteArray)] 9)) fun e w' => e = .returned (.tuple #[]) ∧ At w0.heap.size ob_ X (Lib.byteCells (bs ++ (tabs d ++ [105, 110, 32] ++ pE a ++ [44, 32] ++ Lib.itoa m ++ [59] ++ [10]))) d w' from fun W1 z h hz => by
    subst hz
    have h3 := h.below (W' := W1.alloc (.cells #[.string (⟨#[105, 110, 32]⟩ : ByteArray), .string Sa, .string (⟨#[44, 32]⟩ : ByteArray), .string NUM, .string (⟨#[59]⟩ : ByteArray)] 9)) ((Below.refl _ _).alloc (Nat.le_refl _) _) (h.hB hBX)
    have hfl : List.replicate d 9 ++ flat [(⟨#[105, 110, 32]⟩ : ByteArray), Sa, (⟨#[44, 32]⟩ : ByteArray), NUM, (⟨#[59]⟩ : ByteArray)] ++ [10] = tabs d ++ [105, 110, 32] ++ pE a ++ [44, 32] ++ Lib.itoa m ++ [59] ++ [10] := by simp [flat, tabs, qN, qa]
    refine (line_any w0.heap.size ob_ bs d W1.heap.size [(⟨#[105, 110, 32]⟩ : ByteArray), Sa, (⟨#[44, 32]⟩ : ByteArray), NUM, (⟨#[59]⟩ : ByteArray)] _ h3.1 (by omega) (heap_alloc_new W1 _) (by have := h.1.lt; omega) (h3.hB hBX) ?_ (by simp)).mono ?_
    · rw [hfl]; simp only [List.length_append] at hlen ⊢; omega
    · rintro e w' ⟨rfl, h4⟩
      rw [hfl] at h4
      exact ⟨rfl, h3.trans h4⟩)
  have HS := Lib.hid (show ∀ Wk xs, At w0.heap.size ob_ X xs d Wk → (Wk.cell? ⟨W.heap.size, 0, none⟩ = some (.int .u8 44) ∧ Wk.cell? ⟨W.heap.size, 1, none⟩ = some (.int .i64 m) ∧ Wk.cell? ⟨W.heap.size, 3, none⟩ = some (.slice (some ad) 1 cp) ∧ Wk.cell? ad = some (.int .u8 a.f0) ∧ Wk.cell? ⟨ad.block, ad.off + 1, none⟩ = some (.int .i64 a.f1) ∧ Wk.cell? ⟨ad.block, ad.off + 2, none⟩ = some (.string a.f2) ∧ Wk.cell? ⟨ad.block, ad.off + 3, none⟩ = some (.slice Ba a.f3.length da)) from fun Wk xs h =>
    have kk := fun {p : Addr} {v : Value} (z : w0.cell? p = some v) => ((hA0.2.1.trans h.2.1).cell (World.block_lt_of_cell? w0 _ z)).trans z
    ⟨(blk_cell (h.2.2.box (by decide) (by omega) hbk) 0).trans rfl, (blk_cell (h.2.2.box (by decide) (by omega) hbk) 1).trans rfl, (blk_cell (h.2.2.box (by decide) (by omega) hbk) 3).trans rfl, kk a0, kk a1, kk a2, kk a3⟩)
  have HAX := Lib.hid (And.intro (At.refl hAX.1) hAX)
  rw [hXe] at HAX HS HI HLN HEa 
  rw [pS_44]
  clear hA hAX hA0 hBX hB0 hX hbk hXe hr hL hc hlen hd hln hm hlt qN hNUM qa hSa  a0 a1 a2 a3 hla hCa
  obtain ⟨y0, y1, y2, y3, y4, y5, y6⟩ := HS.out _ _ HAX.out.1
  unfold nodeV
  simp only [List.length_cons, List.length_nil]
  go_enter Tryd.func40, Tryd.ntmps40
  go_wp2_with fail
  generalize (W.alloc (.cells #[.int .u8 44, .int .i64 m, .string s, .slice (some ad) 1 cp] 24)) = X0 at *
  refine (HI.out _ _ HAX.out.1).mono ?_
  rintro e w1 ⟨rfl, h1⟩
  have H1 := Lib.hid h1
  clear y0 y1 y2 y3 y4 y5 y6
  clear h1
  obtain ⟨y0, y1, y2, y3, y4, y5, y6⟩ := HS.out _ _ H1.out
  go_wp2_with fail
  refine (HEa.out _ _ H1.out).mono ?_
  rintro e w2 ⟨rfl, h2⟩
  have H2 := Lib.hid h2
  clear y0 y1 y2 y3 y4 y5 y6
  clear h2
  obtain ⟨y0, y1, y2, y3, y4, y5, y6⟩ := HS.out _ _ H2.out
  go_wp2_with fail
  refine (HLN.out _ _ H2.out rfl).mono ?_
  rintro e w3 ⟨rfl, h3⟩
  have H3 := Lib.hid h3
  clear y0 y1 y2 y3 y4 y5 y6
  clear h3
  obtain ⟨y0, y1, y2, y3, y4, y5, y6⟩ := HS.out _ _ H3.out
  go_wp2_with fail
  go_end0
  refine ⟨rfl, ?_⟩
  have := HAX.out.2.trans H3.out
  simpa only [List.append_assoc] using this

theorem pS_45 (d : Nat) (m : Int) (s : ByteArray) (a : Nd) : pS d ⟨45, m, s, [a]⟩ = (tabs d ++ [111, 117, 116, 32] ++ pE a ++ [44, 32] ++ Lib.itoa m ++ [59] ++ [10]) := by
  rw [pS.eq_def]; simp [pE1]

set_option maxHeartbeats 16000000 in
set_option maxRecDepth 100000 in
theorem stmt_45 (m : Int) (s : ByteArray) (a : Nd) (hm : 0 ≤ m ∧ m ≤ 1000) (ha : isN 1 a = true)  : StC ⟨45, m, s, [a]⟩ := by
  intro w0 A cp hc hr hL ob_ bs d W hA hlen hd
  have hB0 : w0.heap.size ≤ W.heap.size := hA.2.1.size
  rw [pS_45] at hlen
  have hln : ([a] : List Nd).length = 1 := rfl
  rw [show (⟨45, m, s, [a]⟩ : Nd).f3.length = 1 from rfl] at hc
  have hX : Below W.heap.size W (W.alloc (.cells #[.int .u8 45, .int .i64 m, .string s, .slice A 1 cp] 24)) := (Below.refl _ _).alloc (Nat.le_refl _) _
  have hbk : (W.alloc (.cells #[.int .u8 45, .int .i64 m, .string s, .slice A 1 cp] 24)).heap[W.heap.size]? = some (.cells #[.int .u8 45, .int .i64 m, .string s, .slice A 1 cp] 24 (0, 0)) := heap_alloc_new W _
  obtain ⟨X, hXe⟩ : ∃ X, X = W.alloc (.cells #[.int .u8 45, .int .i64 m, .string s, .slice A 1 cp] 24) := ⟨_, rfl⟩
  rw [← hXe] at hX hbk
  have hAX : At w0.heap.size ob_ W (Lib.byteCells bs) d X := (At.refl hA.1).below hX hB0
  have hA0 : At w0.heap.size ob_ w0 (Lib.byteCells bs) d X := hA.below hX hB0
  have hBX : w0.heap.size ≤ X.heap.size := hA0.2.1.size
  have hlt : ob_ < W.heap.size := hA.1.lt
  have hkids := kid_1 hr
  obtain ⟨ad, Ba, da, rfl, ⟨a0, a1, a2, a3, hla, hCa⟩⟩ := hkids
  obtain ⟨Sa, hSa⟩ : ∃ S : ByteArray, S = ⟨(pE a).toArray⟩ := ⟨_, rfl⟩
  have qa : Sa.data.toList = pE a := by rw [hSa]
  obtain ⟨NUM, hNUM⟩ : ∃ S : ByteArray, S = ⟨(Lib.itoa m).toArray⟩ := ⟨_, rfl⟩
  have qN : NUM.data.toList = Lib.itoa m := by rw [hNUM]
  have HQ := Lib.hid (And.intro qN (And.intro qa (True.intro)))
  have HI := Lib.hid (show ∀ W1 xs, At w0.heap.size ob_ X xs d W1 → Calls Tryd.prog 30 #[.int .i64 m] W1 fun e w' => e = .returned (.string NUM) ∧ At w0.heap.size ob_ X xs d w' from fun W1 xs h =>
    (itoa_any m (by omega) (by omega) W1 (hL.below (hA0.2.1.trans h.2.1))).mono (by rintro e w' ⟨rfl, h2⟩; exact ⟨by rw [hNUM], h.below h2 (h.hB hBX)⟩))
  have HEa := Lib.hid (show ∀ W1 xs, At w0.heap.size ob_ X xs d W1 → Calls Tryd.prog 17 #[.agg #[.int .u8 a.f0, .int .i64 a.f1, .string a.f2, .slice Ba a.f3.length da]] W1 fun e w' => e = .returned (.string Sa) ∧ At w0.heap.size ob_ X xs d w' from fun W1 xs h =>
    (expr_any a (ha) (by simp only [List.length_append] at hlen; omega) Ba da W1 hla (Kd.C_below hCa (hA0.2.1.trans h.2.1)) (hL.below (hA0.2.1.trans h.2.1))).mono (by rintro e w' ⟨rfl, h2⟩; exact ⟨by rw [hSa], h.below h2 (h.hB hBX)⟩))
  have HLN := Lib.hid (show ∀ (W1 : World) (z : Nat), At w0.heap.size ob_ X (Lib.byteCells bs) d W1 → W1.heap.size = z → Calls Tryd.prog 50 #[.pointer (some ⟨ob_, 0, none⟩), .slice (some ⟨z, 0, none⟩) 5 5] (W1.alloc (.cells #[.string (⟨#[111, 117, 116, 32]⟩ : ByteArray), .string Sa, .string (⟨#[44, 32]⟩ : ByteArray), .string NUM, .string (⟨#[59]⟩ : ByteArray)] 9)) fun e w' => e = .returned (.tuple #[]) ∧ At w0.heap.size ob_ X (Lib.byteCells (bs ++ (tabs d ++ [111, 117, 116, 32] ++ pE a ++ [44, 32] ++ Lib.itoa m ++ [59] ++ [10]))) d w' from fun W1 z h hz => by
    subst hz
    have h3 := h.below (W' := W1.alloc (.cells #[.string (⟨#[111, 117, 116, 32]⟩ : ByteArray), .string Sa, .string (⟨#[44, 32]⟩ : ByteArray), .string NUM, .string (⟨#[59]⟩ : ByteArray)] 9)) ((Below.refl _ _).alloc (Nat.le_refl _) _) (h.hB hBX)
    have hfl : List.replicate d 9 ++ flat [(⟨#[111, 117, 116, 32]⟩ : ByteArray), Sa, (⟨#[44, 32]⟩ : ByteArray), NUM, (⟨#[59]⟩ : ByteArray)] ++ [10] = tabs d ++ [111, 117, 116, 32] ++ pE a ++ [44, 32] ++ Lib.itoa m ++ [59] ++ [10] := by simp [flat, tabs, qN, qa]
    refine (line_any w0.heap.size ob_ bs d W1.heap.size [(⟨#[111, 117, 116, 32]⟩ : ByteArray), Sa, (⟨#[44, 32]⟩ : ByteArray), NUM, (⟨#[59]⟩ : ByteArray)] _ h3.1 (by omega) (heap_alloc_new W1 _) (by have := h.1.lt; omega) (h3.hB hBX) ?_ (by simp)).mono ?_
    · rw [hfl]; simp only [List.length_append] at hlen ⊢; omega
    · rintro e w' ⟨rfl, h4⟩
      rw [hfl] at h4
      exact ⟨rfl, h3.trans h4⟩)
  have HS := Lib.hid (show ∀ Wk xs, At w0.heap.size ob_ X xs d Wk → (Wk.cell? ⟨W.heap.size, 0, none⟩ = some (.int .u8 45) ∧ Wk.cell? ⟨W.heap.size, 1, none⟩ = some (.int .i64 m) ∧ Wk.cell? ⟨W.heap.size, 3, none⟩ = some (.slice (some ad) 1 cp) ∧ Wk.cell? ad = some (.int .u8 a.f0) ∧ Wk.cell? ⟨ad.block, ad.off + 1, none⟩ = some (.int .i64 a.f1) ∧ Wk.cell? ⟨ad.block, ad.off + 2, none⟩ = some (.string a.f2) ∧ Wk.cell? ⟨ad.block, ad.off + 3, none⟩ = some (.slice Ba a.f3.length da)) from fun Wk xs h =>
    have kk := fun {p : Addr} {v : Value} (z : w0.cell? p = some v) => ((hA0.2.1.trans h.2.1).cell (World.block_lt_of_cell? w0 _ z)).trans z
    ⟨(blk_cell (h.2.2.box (by decide) (by omega) hbk) 0).trans rfl, (blk_cell (h.2.2.box (by decide) (by omega) hbk) 1).trans rfl, (blk_cell (h.2.2.box (by decide) (by omega) hbk) 3).trans rfl, kk a0, kk a1, kk a2, kk a3⟩)
  have HAX := Lib.hid (And.intro (At.refl hAX.1) hAX)
  rw [hXe] at HAX HS HI HLN HEa 
  rw [pS_45]
  clear hA hAX hA0 hBX hB0 hX hbk hXe hr hL hc hlen hd hln hm hlt qN hNUM qa hSa  a0 a1 a2 a3 hla hCa
  obtain ⟨y0, y1, y2, y3, y4, y5, y6⟩ := HS.out _ _ HAX.out.1
  unfold nodeV
  simp only [List.length_cons, List.length_nil]
  go_enter Tryd.func40, Tryd.ntmps40
  go_wp2_with fail
  generalize (W.alloc (.cells #[.int .u8 45, .int .i64 m, .string s, .slice (some ad) 1 cp] 24)) = X0 at *
  refine (HI.out _ _ HAX.out.1).mono ?_
  rintro e w1 ⟨rfl, h1⟩
  have H1 := Lib.hid h1
  clear y0 y1 y2 y3 y4 y5 y6
  clear h1
  obtain ⟨y0, y1, y2, y3, y4, y5, y6⟩ := HS.out _ _ H1.out
  go_wp2_with fail
  refine (HEa.out _ _ H1.out).mono ?_
  rintro e w2 ⟨rfl, h2⟩
  have H2 := Lib.hid h2
  clear y0 y1 y2 y3 y4 y5 y6
  clear h2
  obtain ⟨y0, y1, y2, y3, y4, y5, y6⟩ := HS.out _ _ H2.out
  go_wp2_with fail
  refine (HLN.out _ _ H2.out rfl).mono ?_
  rintro e w3 ⟨rfl, h3⟩
  have H3 := Lib.hid h3
  clear y0 y1 y2 y3 y4 y5 y6
  clear h3
  obtain ⟨y0, y1, y2, y3, y4, y5, y6⟩ := HS.out _ _ H3.out
  go_wp2_with fail
  go_end0
  refine ⟨rfl, ?_⟩
  have := HAX.out.2.trans H3.out
  simpa only [List.append_assoc] using this

theorem pS_46 (d : Nat) (m : Int) (s : ByteArray) (a : Nd) : pS d ⟨46, m, s, [a]⟩ = (tabs d ++ [108, 111, 99, 107, 32] ++ s.data.toList ++ [32, 123] ++ [10]) ++ (pB (d + 1) a ++ tabs d ++ [125] ++ [10]) := by
  rw [pS.eq_def]; simp [pE1]

set_option maxHeartbeats 16000000 in
set_option maxRecDepth 100000 in
theorem stmt_46 (m : Int) (s : ByteArray) (a : Nd) (hm : 0 ≤ m ∧ m ≤ 1000)  (hBa : BlC a) : StC ⟨46, m, s, [a]⟩ := by
  intro w0 A cp hc hr hL ob_ bs d W hA hlen hd
  have hB0 : w0.heap.size ≤ W.heap.size := hA.2.1.size
  rw [pS_46] at hlen
  have hln : ([a] : List Nd).length = 1 := rfl
  rw [show (⟨46, m, s, [a]⟩ : Nd).f3.length = 1 from rfl] at hc
  have hX : Below W.heap.size W (W.alloc (.cells #[.int .u8 46, .int .i64 m, .string s, .slice A 1 cp] 24)) := (Below.refl _ _).alloc (Nat.le_refl _) _
  have hbk : (W.alloc (.cells #[.int .u8 46, .int .i64 m, .string s, .slice A 1 cp] 24)).heap[W.heap.size]? = some (.cells #[.int .u8 46, .int .i64 m, .string s, .slice A 1 cp] 24 (0, 0)) := heap_alloc_new W _
  obtain ⟨X, hXe⟩ : ∃ X, X = W.alloc (.cells #[.int .u8 46, .int .i64 m, .string s, .slice A 1 cp] 24) := ⟨_, rfl⟩
  rw [← hXe] at hX hbk
  have hAX : At w0.heap.size ob_ W (Lib.byteCells bs) d X := (At.refl hA.1).below hX hB0
  have hA0 : At w0.heap.size ob_ w0 (Lib.byteCells bs) d X := hA.below hX hB0
  have hBX : w0.heap.size ≤ X.heap.size := hA0.2.1.size
  have hlt : ob_ < W.heap.size := hA.1.lt
  have hkids := kid_1 hr
  obtain ⟨ad, Ba, da, rfl, ⟨a0, a1, a2, a3, hla, hCa⟩⟩ := hkids
  obtain ⟨NUM, hNUM⟩ : ∃ S : ByteArray, S = ⟨(Lib.itoa m).toArray⟩ := ⟨_, rfl⟩
  have qN : NUM.data.toList = Lib.itoa m := by rw [hNUM]
  have HQ := Lib.hid (And.intro qN (True.intro))
  have HI := Lib.hid (show ∀ W1 xs, At w0.heap.size ob_ X xs d W1 → Calls Tryd.prog 30 #[.int .i64 m] W1 fun e w' => e = .returned (.string NUM) ∧ At w0.heap.size ob_ X xs d w' from fun W1 xs h =>
    (itoa_any m (by omega) (by omega) W1 (hL.below (hA0.2.1.trans h.2.1))).mono (by rintro e w' ⟨rfl, h2⟩; exact ⟨by rw [hNUM], h.below h2 (h.hB hBX)⟩))
  have HLN := Lib.hid (show ∀ (W1 : World) (z : Nat), At w0.heap.size ob_ X (Lib.byteCells bs) d W1 → W1.heap.size = z → Calls Tryd.prog 50 #[.pointer (some ⟨ob_, 0, none⟩), .slice (some ⟨z, 0, none⟩) 3 3] (W1.alloc (.cells #[.string (⟨#[108, 111, 99, 107, 32]⟩ : ByteArray), .string s, .string (⟨#[32, 123]⟩ : ByteArray)] 9)) fun e w' => e = .returned (.tuple #[]) ∧ At w0.heap.size ob_ X (Lib.byteCells (bs ++ (tabs d ++ [108, 111, 99, 107, 32] ++ s.data.toList ++ [32, 123] ++ [10]))) d w' from fun W1 z h hz => by
    subst hz
    have h3 := h.below (W' := W1.alloc (.cells #[.string (⟨#[108, 111, 99, 107, 32]⟩ : ByteArray), .string s, .string (⟨#[32, 123]⟩ : ByteArray)] 9)) ((Below.refl _ _).alloc (Nat.le_refl _) _) (h.hB hBX)
    have hfl : List.replicate d 9 ++ flat [(⟨#[108, 111, 99, 107, 32]⟩ : ByteArray), s, (⟨#[32, 123]⟩ : ByteArray)] ++ [10] = tabs d ++ [108, 111, 99, 107, 32] ++ s.data.toList ++ [32, 123] ++ [10] := by simp [flat, tabs, qN]
    refine (line_any w0.heap.size ob_ bs d W1.heap.size [(⟨#[108, 111, 99, 107, 32]⟩ : ByteArray), s, (⟨#[32, 123]⟩ : ByteArray)] _ h3.1 (by omega) (heap_alloc_new W1 _) (by have := h.1.lt; omega) (h3.hB hBX) ?_ (by simp)).mono ?_
    · rw [hfl]; simp only [List.length_append] at hlen ⊢; omega
    · rintro e w' ⟨rfl, h4⟩
      rw [hfl] at h4
      exact ⟨rfl, h3.trans h4⟩)
  have HNa := Lib.hid (show ∀ (W1 : World), At w0.heap.size ob_ X (Lib.byteCells (bs ++ (tabs d ++ [108, 111, 99, 107, 32] ++ s.data.toList ++ [32, 123] ++ [10]))) d W1 → Calls Tryd.prog 51 #[.pointer (some ⟨ob_, 0, none⟩), .agg #[.int .u8 a.f0, .int .i64 a.f1, .string a.f2, .slice Ba a.f3.length da], .string ⟨#[125]⟩] W1 fun e w' => e = .returned (.tuple #[]) ∧ At w0.heap.size ob_ X (Lib.byteCells (bs ++ (tabs d ++ [108, 111, 99, 107, 32] ++ s.data.toList ++ [32, 123] ++ [10]) ++ (pB (d + 1) a ++ tabs d ++ [125] ++ [10]))) d w' from fun W1 h => by
    refine (nested_any a hBa ⟨#[125]⟩ w0 Ba da hla hCa hL ob_ (bs ++ (tabs d ++ [108, 111, 99, 107, 32] ++ s.data.toList ++ [32, 123] ++ [10])) d W1 (hA0.trans h) ?_ ?_).mono ?_
    · simp only [List.length_append, List.length_cons, List.length_nil] at hlen ⊢; omega
    · have hd2 := hd; rw [depth] at hd2; simp only [depths] at hd2; omega
    · rintro e w' ⟨rfl, h4⟩; exact ⟨rfl, h.trans h4⟩)
  have HS := Lib.hid (show ∀ Wk xs, At w0.heap.size ob_ X xs d Wk → (Wk.cell? ⟨W.heap.size, 0, none⟩ = some (.int .u8 46) ∧ Wk.cell? ⟨W.heap.size, 1, none⟩ = some (.int .i64 m) ∧ Wk.cell? ⟨W.heap.size, 2, none⟩ = some (.string s) ∧ Wk.cell? ⟨W.heap.size, 3, none⟩ = some (.slice (some ad) 1 cp) ∧ Wk.cell? ad = some (.int .u8 a.f0) ∧ Wk.cell? ⟨ad.block, ad.off + 1, none⟩ = some (.int .i64 a.f1) ∧ Wk.cell? ⟨ad.block, ad.off + 2, none⟩ = some (.string a.f2) ∧ Wk.cell? ⟨ad.block, ad.off + 3, none⟩ = some (.slice Ba a.f3.length da)) from fun Wk xs h =>
    have kk := fun {p : Addr} {v : Value} (z : w0.cell? p = some v) => ((hA0.2.1.trans h.2.1).cell (World.block_lt_of_cell? w0 _ z)).trans z
    ⟨(blk_cell (h.2.2.box (by decide) (by omega) hbk) 0).trans rfl, (blk_cell (h.2.2.box (by decide) (by omega) hbk) 1).trans rfl, (blk_cell (h.2.2.box (by decide) (by omega) hbk) 2).trans rfl, (blk_cell (h.2.2.box (by decide) (by omega) hbk) 3).trans rfl, kk a0, kk a1, kk a2, kk a3⟩)
  have HAX := Lib.hid (And.intro (At.refl hAX.1) hAX)
  rw [hXe] at HAX HS HI HLN  HNa
  rw [pS_46]
  clear hA hAX hA0 hBX hB0 hX hbk hXe hr hL hc hlen hd hln hm hlt qN hNUM  hBa a0 a1 a2 a3 hla hCa
  obtain ⟨y0, y1, y2, y3, y4, y5, y6, y7⟩ := HS.out _ _ HAX.out.1
  unfold nodeV
  simp only [List.length_cons, List.length_nil]
  go_enter Tryd.func40, Tryd.ntmps40
  go_wp2_with fail
  generalize (W.alloc (.cells #[.int .u8 46, .int .i64 m, .string s, .slice (some ad) 1 cp] 24)) = X0 at *
  refine (HI.out _ _ HAX.out.1).mono ?_
  rintro e w1 ⟨rfl, h1⟩
  have H1 := Lib.hid h1
  clear y0 y1 y2 y3 y4 y5 y6 y7
  clear h1
  obtain ⟨y0, y1, y2, y3, y4, y5, y6, y7⟩ := HS.out _ _ H1.out
  go_wp2_with fail
  refine (HLN.out _ _ H1.out rfl).mono ?_
  rintro e w3 ⟨rfl, h3⟩
  have H3 := Lib.hid h3
  clear y0 y1 y2 y3 y4 y5 y6 y7
  clear h3
  obtain ⟨y0, y1, y2, y3, y4, y5, y6, y7⟩ := HS.out _ _ H3.out
  go_wp2_with fail
  refine (HNa.out _ H3.out).mono ?_
  rintro e w4 ⟨rfl, h4⟩
  have H4 := Lib.hid h4
  clear y0 y1 y2 y3 y4 y5 y6 y7
  clear h4
  obtain ⟨y0, y1, y2, y3, y4, y5, y6, y7⟩ := HS.out _ _ H4.out
  go_wp2_with fail
  go_end0
  refine ⟨rfl, ?_⟩
  have := HAX.out.2.trans H4.out
  simpa only [List.append_assoc] using this

end Go.Proofs.YtlmmobfebjideaaDoor.P

/- printer.out.stmt at any statement, printer.Block. -/
namespace Go.Proofs.YtlmmobfebjideaaDoor.P
open Go.RowKit Go.Proofs.YtlmmobfebjideaaDoor Go.Proofs.YtlmmobfebjideaaDoor.M Go.Proofs.YtlmmobfebjideaaDoorW.PrintWords
set_option linter.unusedVariables false
set_option linter.unusedSimpArgs false
attribute [local go_sem ↓] Go.wp_at_zero Go.wp_at_succ

theorem form_four (k : Int) (f : M.Form) (h : M.form k = some f) (h4 : f.is.contains 4 = true) : k = 40 ∨ k = 41 ∨ k = 42 ∨ k = 43 ∨ k = 44 ∨ k = 45 ∨ k = 46 := by
  unfold M.form at h
  by_cases g : 6 ≤ k ∧ k ≤ 23
  · rw [if_pos g] at h; injection h with h; subst h; cases h4
  rw [if_neg g] at h
  clear g
  by_cases g : k = 1
  · rw [if_pos g] at h; injection h with h; subst h; cases h4
  rw [if_neg g] at h
  clear g
  by_cases g : k = 2
  · rw [if_pos g] at h; injection h with h; subst h; cases h4
  rw [if_neg g] at h
  clear g
  by_cases g : k = 3
  · rw [if_pos g] at h; injection h with h; subst h; cases h4
  rw [if_neg g] at h
  clear g
  by_cases g : k = 4 ∨ k = 5
  · rw [if_pos g] at h; injection h with h; subst h; cases h4
  rw [if_neg g] at h
  clear g
  by_cases g : k = 40
  · omega
  rw [if_neg g] at h
  by_cases g1 : k = 41
  · omega
  rw [if_neg g1] at h
  by_cases g2 : k = 42
  · omega
  rw [if_neg g2] at h
  by_cases g3 : k = 43
  · omega
  rw [if_neg g3] at h
  by_cases g4 : k = 44
  · omega
  rw [if_neg g4] at h
  by_cases g5 : k = 45
  · omega
  rw [if_neg g5] at h
  by_cases g6 : k = 46
  · omega
  rw [if_neg g6] at h
  cases h
theorem zip1 {c : Nat} {l : List Nd} (h : isZip [c] l = true) : ∃ a, l = [a] ∧ isN c a = true := by
  match l, h with
  | [a], h => exact ⟨a, rfl, by simpa [isZip] using h⟩
  | [], h => simp [isZip] at h
  | a :: b :: l, h => simp [isZip] at h
theorem zip2 {c d : Nat} {l : List Nd} (h : isZip [c, d] l = true) : ∃ a b, l = [a, b] ∧ isN c a = true ∧ isN d b = true := by
  match l, h with
  | [a, b], h => exact ⟨a, b, rfl, by simpa [isZip] using h⟩
  | [], h => simp [isZip] at h
  | [a], h => simp [isZip] at h
  | a :: b :: c :: l, h => simp [isZip] at h
theorem zip3 {c d e : Nat} {l : List Nd} (h : isZip [c, d, e] l = true) : ∃ a b x, l = [a, b, x] ∧ isN c a = true ∧ isN d b = true ∧ isN e x = true := by
  match l, h with
  | [a, b, x], h => exact ⟨a, b, x, rfl, by simpa [isZip] using h⟩
  | [], h => simp [isZip] at h
  | [a], h => simp [isZip] at h
  | [a, b], h => simp [isZip] at h
  | a :: b :: c :: d :: l, h => simp [isZip] at h
/-- What a valid statement is made of. -/
theorem stmt_cases (n : Nd) (h : isN 4 n = true) : ∃ m s, (0 ≤ m ∧ m ≤ 1000) ∧
    ((∃ a b, n = ⟨40, m, s, [a, b]⟩ ∧ isN 2 a = true ∧ isN 1 b = true) ∨ (∃ a b c, n = ⟨41, m, s, [a, b, c]⟩ ∧ isN 1 a = true ∧ isN 8 b = true ∧ isN 8 c = true) ∨ (∃ a, n = ⟨42, m, s, [a]⟩ ∧ isN 8 a = true ∧ 1 ≤ m ∧ Lx.name s.data.toList = true) ∨
     (∃ a b, n = ⟨43, m, s, [a, b]⟩ ∧ isN 1 a = true ∧ isN 8 b = true ∧ 1 ≤ m) ∨ (∃ a, n = ⟨44, m, s, [a]⟩ ∧ isN 2 a = true ∧ m ≤ 7) ∨ (∃ a, n = ⟨45, m, s, [a]⟩ ∧ isN 1 a = true ∧ m ≤ 7) ∨ (∃ a, n = ⟨46, m, s, [a]⟩ ∧ isN 8 a = true ∧ Lx.name s.data.toList = true)) := by
  by_cases hk : n.f0 = 47
  · rw [isN_47 4 n hk] at h; simp at h
  cases hf : M.form n.f0 with
  | none => rw [isN_none 4 n hk hf] at h; cases h
  | some f =>
    rw [isN_some 4 n hk f hf] at h
    simp only [Bool.and_eq_true, decide_eq_true_eq] at h
    obtain ⟨⟨⟨⟨h1, h2⟩, h3⟩, h4⟩, h5⟩ := h
    obtain ⟨k, m, s, l⟩ := n
    simp only at hf h2 h3 h4 h5
    refine ⟨m, s, ?_⟩
    rcases form_four _ _ hf h1 with rfl | rfl | rfl | rfl | rfl | rfl | rfl
    · obtain rfl := Option.some.inj hf
      obtain ⟨a, b, rfl, ha, hb⟩ := zip2 h5
      exact ⟨by simp only at h2 h3; omega, .inl ⟨a, b, rfl, ha, hb⟩⟩
    · obtain rfl := Option.some.inj hf
      obtain ⟨a, b, x, rfl, ha, hb, hx⟩ := zip3 h5
      exact ⟨by simp only at h2 h3; omega, .inr (.inl ⟨a, b, x, rfl, ha, hb, hx⟩)⟩
    · obtain rfl := Option.some.inj hf
      obtain ⟨a, rfl, ha⟩ := zip1 h5
      exact ⟨by simp only at h2 h3; omega, .inr (.inr (.inl ⟨a, rfl, ha, h2, by simpa using h4⟩))⟩
    · obtain rfl := Option.some.inj hf
      obtain ⟨a, b, rfl, ha, hb⟩ := zip2 h5
      exact ⟨by simp only at h2 h3; omega, .inr (.inr (.inr (.inl ⟨a, b, rfl, ha, hb, h2⟩)))⟩
    · obtain rfl := Option.some.inj hf
      obtain ⟨a, rfl, ha⟩ := zip1 h5
      exact ⟨by simp only at h2 h3; omega, .inr (.inr (.inr (.inr (.inl ⟨a, rfl, ha, h3⟩))))⟩
    · obtain rfl := Option.some.inj hf
      obtain ⟨a, rfl, ha⟩ := zip1 h5
      exact ⟨by simp only at h2 h3; omega, .inr (.inr (.inr (.inr (.inr (.inl ⟨a, rfl, ha, h3⟩)))))⟩
    · obtain rfl := Option.some.inj hf
      obtain ⟨a, rfl, ha⟩ := zip1 h5
      exact ⟨by simp only at h2 h3; omega, .inr (.inr (.inr (.inr (.inr (.inr ⟨a, rfl, ha, by simpa using h4⟩)))))⟩

theorem isAll_mem (c : Nat) : ∀ (l : List Nd) (x : Nd), isAll c l = true → x ∈ l → isN c x = true
  | a :: l, x, h, hx => by
    rw [isAll, Bool.and_eq_true] at h
    rcases List.mem_cons.1 hx with rfl | hx
    · exact h.1
    · exact isAll_mem c l x h.2 hx
theorem out_any : ∀ n : Nd, (isN 4 n = true → StC n) ∧ (isN 8 n = true → BlC n) := by
  intro n
  refine nd_ind (C := fun n => (isN 4 n = true → StC n) ∧ (isN 8 n = true → BlC n)) ?_ n
  intro k m s l ih
  constructor
  · intro h
    obtain ⟨m2, s2, hm, h⟩ := stmt_cases _ h
    rcases h with ⟨a, b, e, ha, hb⟩ | ⟨a, b, c, e, ha, hb, hc⟩ | ⟨a, e, ha, _⟩ | ⟨a, b, e, ha, hb, _⟩ | ⟨a, e, ha, _⟩ | ⟨a, e, ha, _⟩ | ⟨a, e, ha, _⟩
    all_goals
      injection e with e1 e2 e3 e4
      subst e1 e2 e3 e4
    · exact stmt_40 _ _ a b hm ha hb
    · exact stmt_41 _ _ a b c hm ha ((ih b (by simp)).2 hb) ((ih c (by simp)).2 hc)
    · exact stmt_42 _ _ a hm ((ih a (by simp)).2 ha)
    · exact stmt_43 _ _ a b hm ha ((ih b (by simp)).2 hb)
    · exact stmt_44 _ _ a hm ha
    · exact stmt_45 _ _ a hm ha
    · exact stmt_46 _ _ a hm ((ih a (by simp)).2 ha)
  · intro h
    refine block_any _ ?_
    intro x hx
    refine (ih x hx).1 ?_
    by_cases hk : k = 47
    · rw [isN_47 8 _ hk] at h
      simp only [Bool.and_eq_true] at h
      exact isAll_mem 4 l x h.2 hx
    · exfalso
      cases hf : M.form k with
      | none => rw [isN_none 8 _ hk hf] at h; cases h
      | some f =>
        rw [isN_some 8 _ hk f hf] at h
        have hc := (form_cases _ _ hf).1
        simp only [Bool.and_eq_true] at h
        have h1 := h.1.1.1.1
        rcases hc with hc | hc | hc <;> rw [hc] at h1 <;> cases h1

theorem fresh_out (w : World) : IsOut w.heap.size w.heap.size [] 0 (w.alloc (.cells #[.pointer none, .slice none 0 0, .int .i64 0] 55)) :=
  .inl ⟨Nat.le_refl _, .slice none 0 0, heap_alloc_new w _, ⟨by simp, .inl ⟨rfl, rfl⟩⟩, by simp [Value.ownBlock], by simp⟩

set_option maxHeartbeats 8000000 in
set_option maxRecDepth 100000 in
theorem printBlock_any (n : Nd) (A : Option Addr) (cap : Nat) (w : World) (hc : n.f3.length ≤ cap) (hr : Kd.C kNd w A n.f3.length n.f3) (hL : Laid w) (hlen : isN 8 n = true → (pB 0 n).length ≤ 70368744177664 ∧ depth n ≤ 50) :
    Calls Tryd.prog 10 #[nodeV n A cap] w fun e w' => e = .returned (if isN 8 n = true then .tuple #[.string ⟨(pB 0 n).toArray⟩, .int .i64 0] else .tuple #[.string ⟨#[]⟩, .int .i64 3]) ∧ Below w.heap.size w w' := by
  have hb : Below w.heap.size w (boxed n A cap w) := (Below.refl _ _).alloc (Nat.le_refl _) _
  have HI := Lib.hid (isBlock_any n A cap (boxed n A cap w) hc (Kd.C_below hr hb) (hL.below hb))
  have HB := Lib.hid hb
  cases hn : isN 8 n with
  | false =>
    have HR := Lib.hid hn
    clear hn hb hr hL hc hlen
    go_enter Tryd.func10, Tryd.ntmps10
    go_wp2_with fail
    refine HI.out.mono ?_
    rintro e w1 ⟨rfl, hb1⟩
    rw [HR.out]
    have HB1 := Lib.hid (HB.out.trans (hb1.mono HB.out.size))
    clear hb1
    go_wp2_with fail
    go_ret2
    exact ⟨by rfl, HB1.out⟩
  | true =>
    have HR := Lib.hid hn
    obtain ⟨hl1, hl2⟩ := hlen hn
    have HE := Lib.hid (show ∀ W0, Below w.heap.size w W0 → Calls Tryd.prog 25 #[.pointer (some ⟨W0.heap.size, 0, none⟩), nodeV n A cap] (W0.alloc (.cells #[.pointer none, .slice none 0 0, .int .i64 0] 55)) fun e w' => e = .returned (.tuple #[]) ∧ At W0.heap.size W0.heap.size W0 (Lib.byteCells (pB 0 n)) 0 w' from fun W0 h => by
      have h2 : At W0.heap.size W0.heap.size W0 (Lib.byteCells []) ((0 : Nat) : Int) (W0.alloc (.cells #[.pointer none, .slice none 0 0, .int .i64 0] 55)) := ⟨fresh_out W0, (Below.refl _ _).alloc (Nat.le_refl _) _, OS.of ((Below.refl _ _).alloc (Nat.le_refl _) _)⟩
      refine ((out_any n).2 hn W0 A cap hc (Kd.C_below hr h) (hL.below h) _ [] 0 _ h2 (by simpa using hl1) (by omega)).mono ?_
      rintro e w' ⟨rfl, h3⟩
      have := h2.trans h3
      exact ⟨rfl, by simpa using this⟩)
    clear hn hb hr hL hc hlen hl1 hl2
    go_enter Tryd.func10, Tryd.ntmps10
    go_wp2_with fail
    refine HI.out.mono ?_
    rintro e w1 ⟨rfl, hb1⟩
    rw [HR.out]
    have bk := box_block w _ _ hb1
    have bk2 : (w1.alloc (.cells #[.pointer none, .slice none 0 0, .int .i64 0] 55)).heap[w.heap.size]? = some (.cells #[.int .u8 n.f0, .int .i64 n.f1, .string n.f2, .slice A n.f3.length cap] 24 (0, 0)) := by
      rw [Below.heap_alloc _ _ _ (Array.getElem?_eq_some_iff.1 bk).1]; exact bk
    have z0 : (w1.alloc (.cells #[.pointer none, .slice none 0 0, .int .i64 0] 55)).cell? ⟨w.heap.size, 0, none⟩ = some (.int .u8 n.f0) := (blk_cell bk2 0).trans rfl
    have z1 : (w1.alloc (.cells #[.pointer none, .slice none 0 0, .int .i64 0] 55)).cell? ⟨w.heap.size, 1, none⟩ = some (.int .i64 n.f1) := (blk_cell bk2 1).trans rfl
    have z2 : (w1.alloc (.cells #[.pointer none, .slice none 0 0, .int .i64 0] 55)).cell? ⟨w.heap.size, 2, none⟩ = some (.string n.f2) := (blk_cell bk2 2).trans rfl
    have z3 : (w1.alloc (.cells #[.pointer none, .slice none 0 0, .int .i64 0] 55)).cell? ⟨w.heap.size, 3, none⟩ = some (.slice A n.f3.length cap) := (blk_cell bk2 3).trans rfl
    have HB1 := Lib.hid (HB.out.trans (hb1.mono HB.out.size))
    clear hb1 bk bk2
    go_wp2_with fail
    refine (HE.out w1 HB1.out).mono ?_
    rintro e w2 ⟨rfl, h2⟩
    have H2 := Lib.hid h2
    clear h2
    go_wp2_with fail
    refine (string_o w1.heap.size w1.heap.size (pB 0 n) 0 w2 H2.out.1).mono ?_
    rintro e w3 ⟨rfl, hb3⟩
    have HB3 := Lib.hid (HB1.out.trans ((H2.out.2.1.trans hb3).mono HB1.out.size))
    clear hb3
    go_wp2_with fail
    go_ret2
    exact ⟨by rfl, HB3.out⟩

end Go.Proofs.YtlmmobfebjideaaDoor.P

/- The examples of chapter 14, walked: ontimelaw14.awake. -/
namespace Go.Proofs.YtlmmobfebjideaaDoor.P
open Go.RowKit Go.Proofs.YtlmmobfebjideaaDoor Go.Proofs.YtlmmobfebjideaaDoor.M Go.Proofs.YtlmmobfebjideaaDoorW.PrintWords
set_option linter.unusedVariables false
set_option linter.unusedSimpArgs false
attribute [local go_sem ↓] Go.wp_at_zero Go.wp_at_succ

set_option maxHeartbeats 1000000 in
theorem name14_any (s : ByteArray) (w : World) : Calls Tryd.prog 14 #[.string s] w fun e w' => e = .returned (.agg #[.int .u8 2, .int .i64 0, .string s, .slice none 0 0]) ∧ Below w.heap.size w w' := by
  have hb : ∀ cs, Below w.heap.size w (w.alloc (.cells cs 24)) := fun cs => (Below.refl _ _).alloc (Nat.le_refl _) _
  go_enter Tryd.func14, Tryd.ntmps14
  go_wp2
  refine bodyPost_ret (results_cell_row rfl _ _ w.heap.size 24 #[.int .u8 2, .int .i64 0, .string s, .slice none 0 0] (0, 0) _ rfl (heap_alloc_new w _) Tryd.underlying24 rfl (by kernel_rfl)) rfl ?_
  exact ⟨rfl, hb _⟩
set_option maxHeartbeats 1000000 in
theorem op14_any (k : Int) (A : Option Addr) (n c : Nat) (w : World) : Calls Tryd.prog 15 #[.int .u8 k, .slice A n c] w fun e w' => e = .returned (.agg #[.int .u8 k, .int .i64 0, .string ⟨#[]⟩, .slice A n c]) ∧ Below w.heap.size w w' := by
  have hb : ∀ cs, Below w.heap.size w (w.alloc (.cells cs 24)) := fun cs => (Below.refl _ _).alloc (Nat.le_refl _) _
  go_enter Tryd.func15, Tryd.ntmps15
  go_wp2
  refine bodyPost_ret (results_cell_row rfl _ _ w.heap.size 24 #[.int .u8 k, .int .i64 0, .string ⟨#[]⟩, .slice A n c] (0, 0) _ rfl (heap_alloc_new w _) Tryd.underlying24 rfl (by kernel_rfl)) rfl ?_
  exact ⟨rfl, hb _⟩

theorem K_node (w : World) (x : Nd) {A : Option Addr} {c : Nat} (hl : x.f3.length ≤ c) (hC : Kd.C kNd w A x.f3.length x.f3) : kNd.K w x [.int .u8 x.f0, .int .i64 x.f1, .string x.f2, .slice A x.f3.length c] := k24_mk w x hl hC
/-- One child, newly laid. -/
theorem kids_one (W : World) (x : Nd) (A : Option Addr) (c : Nat) (hl : x.f3.length ≤ c) (hC : Kd.C kNd W A x.f3.length x.f3) :
    Kd.C kNd (W.alloc (.cells #[.int .u8 x.f0, .int .i64 x.f1, .string x.f2, .slice A x.f3.length c] 24)) (some ⟨W.heap.size, 0, none⟩) 1 [x] := by
  have hb : Below W.heap.size W (W.alloc (.cells #[.int .u8 x.f0, .int .i64 x.f1, .string x.f2, .slice A x.f3.length c] 24)) := (Below.refl _ _).alloc (Nat.le_refl _) _
  refine ⟨rfl, by omega, fun _ => ⟨_, rfl, ?_⟩⟩
  intro j p hj
  match j, hj with
  | 0, hj =>
    obtain rfl : x = p := by simpa using hj
    refine ⟨_, rfl, K_node _ x hl (Kd.C_below hC hb), ?_⟩
    intro i u hu
    have hk : (W.alloc (.cells #[.int .u8 x.f0, .int .i64 x.f1, .string x.f2, .slice A x.f3.length c] 24)).heap[W.heap.size]? = _ := heap_alloc_new W _
    have e : ((⟨W.heap.size, 0, none⟩ : Addr).add (0 * kNd.sz + i)) = ⟨W.heap.size, i, none⟩ := by rw [show 0 * kNd.sz + i = i by omega]; unfold Addr.add; by_cases hi : i = 0 <;> simp [hi]
    rw [e]
    refine (blk_cell hk i).trans ?_
    match i, hu with
    | 0, hu => exact hu
    | 1, hu => exact hu
    | 2, hu => exact hu
    | 3, hu => exact hu
    | i + 4, hu => simp at hu
  | j + 1, hj => simp at hj
theorem kids_two (W : World) (x y : Nd) (A A2 : Option Addr) (c c2 : Nat) (hl : x.f3.length ≤ c) (hC : Kd.C kNd W A x.f3.length x.f3) (hl2 : y.f3.length ≤ c2) (hC2 : Kd.C kNd W A2 y.f3.length y.f3) :
    Kd.C kNd (W.alloc (.cells #[.int .u8 x.f0, .int .i64 x.f1, .string x.f2, .slice A x.f3.length c, .int .u8 y.f0, .int .i64 y.f1, .string y.f2, .slice A2 y.f3.length c2] 24)) (some ⟨W.heap.size, 0, none⟩) 2 [x, y] := by
  have hb : Below W.heap.size W (W.alloc (.cells #[.int .u8 x.f0, .int .i64 x.f1, .string x.f2, .slice A x.f3.length c, .int .u8 y.f0, .int .i64 y.f1, .string y.f2, .slice A2 y.f3.length c2] 24)) := (Below.refl _ _).alloc (Nat.le_refl _) _
  have hk : (W.alloc (.cells #[.int .u8 x.f0, .int .i64 x.f1, .string x.f2, .slice A x.f3.length c, .int .u8 y.f0, .int .i64 y.f1, .string y.f2, .slice A2 y.f3.length c2] 24)).heap[W.heap.size]? = _ := heap_alloc_new W _
  refine ⟨rfl, by omega, fun _ => ⟨_, rfl, ?_⟩⟩
  intro j p hj
  match j, hj with
  | 0, hj =>
    obtain rfl : x = p := by simpa using hj
    refine ⟨_, rfl, K_node _ x hl (Kd.C_below hC hb), ?_⟩
    intro i u hu
    have e : ((⟨W.heap.size, 0, none⟩ : Addr).add (0 * kNd.sz + i)) = ⟨W.heap.size, i, none⟩ := by rw [show 0 * kNd.sz + i = i by omega]; unfold Addr.add; by_cases hi : i = 0 <;> simp [hi]
    rw [e]
    refine (blk_cell hk i).trans ?_
    match i, hu with
    | 0, hu => exact hu
    | 1, hu => exact hu
    | 2, hu => exact hu
    | 3, hu => exact hu
    | i + 4, hu => simp at hu
  | 1, hj =>
    obtain rfl : y = p := by simpa using hj
    refine ⟨_, rfl, K_node _ y hl2 (Kd.C_below hC2 hb), ?_⟩
    intro i u hu
    have e : ((⟨W.heap.size, 0, none⟩ : Addr).add (1 * kNd.sz + i)) = ⟨W.heap.size, 4 + i, none⟩ := by
      rw [show 1 * kNd.sz + i = 4 + i by rw [show kNd.sz = 4 from rfl]]; unfold Addr.add; rw [if_neg (by omega)]; simp
    rw [e]
    refine (blk_cell hk (4 + i)).trans ?_
    match i, hu with
    | 0, hu => exact hu
    | 1, hu => exact hu
    | 2, hu => exact hu
    | 3, hu => exact hu
    | i + 4, hu => simp at hu

def vx : Nd := ⟨2, 0, ⟨#[120]⟩, []⟩
def vy : Nd := ⟨2, 0, ⟨#[121]⟩, []⟩
def vz : Nd := ⟨2, 0, ⟨#[122]⟩, []⟩
def v1 : Nd := ⟨1, 1, ⟨#[]⟩, []⟩
theorem op2_any (X : World) (k : Int) (x y : Nd) (Wa W1 : World) (A A2 : Option Addr) (c c2 : Nat) (hl : x.f3.length ≤ c) (hC : Kd.C kNd Wa A x.f3.length x.f3) (hl2 : y.f3.length ≤ c2) (hC2 : Kd.C kNd Wa A2 y.f3.length y.f3) (hg : Below X.heap.size X Wa) (hw : W1 = (Wa.alloc (.cells #[.int .u8 x.f0, .int .i64 x.f1, .string x.f2, .slice A x.f3.length c, .int .u8 y.f0, .int .i64 y.f1, .string y.f2, .slice A2 y.f3.length c2] 24)) ∨ W1 = (Wa.alloc (.cells #[.int .u8 x.f0, .int .i64 x.f1, .string x.f2, .slice A x.f3.length c, .int .u8 y.f0, .int .i64 y.f1, .string y.f2, .slice A2 y.f3.length c2] 24)).drew) :
    Calls Tryd.prog 15 #[.int .u8 k, .slice (some ⟨Wa.heap.size, 0, none⟩) 2 2] W1 fun e w' =>
      e = .returned (.agg #[.int .u8 k, .int .i64 0, .string ⟨#[]⟩, .slice (some ⟨Wa.heap.size, 0, none⟩) 2 2]) ∧ Below X.heap.size X w' ∧ Kd.C kNd w' (some ⟨Wa.heap.size, 0, none⟩) 2 [x, y] := by
  have hb0 : Below (Wa.alloc (.cells #[.int .u8 x.f0, .int .i64 x.f1, .string x.f2, .slice A x.f3.length c, .int .u8 y.f0, .int .i64 y.f1, .string y.f2, .slice A2 y.f3.length c2] 24)).heap.size (Wa.alloc (.cells #[.int .u8 x.f0, .int .i64 x.f1, .string x.f2, .slice A x.f3.length c, .int .u8 y.f0, .int .i64 y.f1, .string y.f2, .slice A2 y.f3.length c2] 24)) W1 := by
    rcases hw with rfl | rfl
    · exact Below.refl _ _
    · exact (Below.refl _ _).drew
  refine (op14_any k _ 2 2 _).mono ?_
  rintro e w' ⟨rfl, hb⟩
  have hb1 := hb0.trans (hb.mono hb0.size)
  exact ⟨rfl, (hg.alloc hg.size _).trans (hb1.mono (Nat.le_trans hg.size (by simp))), Kd.C_below (kids_two Wa x y A A2 c c2 hl hC hl2 hC2) hb1⟩
theorem op1_any (X : World) (k : Int) (x : Nd) (Wa W1 : World) (A : Option Addr) (c : Nat) (hl : x.f3.length ≤ c) (hC : Kd.C kNd Wa A x.f3.length x.f3) (hg : Below X.heap.size X Wa) (hw : W1 = (Wa.alloc (.cells #[.int .u8 x.f0, .int .i64 x.f1, .string x.f2, .slice A x.f3.length c] 24)) ∨ W1 = (Wa.alloc (.cells #[.int .u8 x.f0, .int .i64 x.f1, .string x.f2, .slice A x.f3.length c] 24)).drew) :
    Calls Tryd.prog 15 #[.int .u8 k, .slice (some ⟨Wa.heap.size, 0, none⟩) 1 1] W1 fun e w' =>
      e = .returned (.agg #[.int .u8 k, .int .i64 0, .string ⟨#[]⟩, .slice (some ⟨Wa.heap.size, 0, none⟩) 1 1]) ∧ Below X.heap.size X w' ∧ Kd.C kNd w' (some ⟨Wa.heap.size, 0, none⟩) 1 [x] := by
  have hb0 : Below (Wa.alloc (.cells #[.int .u8 x.f0, .int .i64 x.f1, .string x.f2, .slice A x.f3.length c] 24)).heap.size (Wa.alloc (.cells #[.int .u8 x.f0, .int .i64 x.f1, .string x.f2, .slice A x.f3.length c] 24)) W1 := by
    rcases hw with rfl | rfl
    · exact Below.refl _ _
    · exact (Below.refl _ _).drew
  refine (op14_any k _ 1 1 _).mono ?_
  rintro e w' ⟨rfl, hb⟩
  have hb1 := hb0.trans (hb.mono hb0.size)
  exact ⟨rfl, (hg.alloc hg.size _).trans (hb1.mono (Nat.le_trans hg.size (by simp))), Kd.C_below (kids_one Wa x A c hl hC) hb1⟩
theorem nilC (W : World) (x : Nd) (h : x.f3 = []) : Kd.C kNd W none x.f3.length x.f3 := by rw [h]; exact Kd.C_nil _ _

set_option maxHeartbeats 16000000 in
set_option maxRecDepth 100000 in
theorem awake14_any (w : World) (hL : Laid w) : Calls Tryd.prog 5 #[] w fun e w' => e = .returned (.bool true) ∧ Below w.heap.size w w' := by
  have HN := Lib.hid name14_any
  have HL := Lib.hid hL
  clear hL
  go_enter Tryd.func5, Tryd.ntmps5
  go_wp2_with fail
  refine (HN.out _ _).mono ?_
  rintro e w1 ⟨rfl, h1⟩
  have H1 := Lib.hid h1
  clear h1
  go_wp2_with fail
  refine (HN.out _ _).mono ?_
  rintro e w2 ⟨rfl, h2⟩
  have H2 := Lib.hid (H1.out.trans (h2.mono H1.out.size))
  clear h2
  go_wp2_with fail
  refine (HN.out _ _).mono ?_
  rintro e w3 ⟨rfl, h3⟩
  have H3 := Lib.hid (H2.out.trans (h3.mono H2.out.size))
  clear h3 H1 H2
  go_wp2_with fail
  obtain ⟨X, hXe⟩ : ∃ X, X = (((w3.alloc (.cells #[.int .u8 2, .int .i64 0, .string ⟨#[120]⟩, .slice none 0 0] 24)).alloc (.cells #[.int .u8 2, .int .i64 0, .string ⟨#[121]⟩, .slice none 0 0] 24)).alloc (.cells #[.int .u8 2, .int .i64 0, .string ⟨#[122]⟩, .slice none 0 0] 24)) := ⟨_, rfl⟩
  have hb3 : Below w.heap.size w X := by rw [hXe]; exact ((H3.out.alloc H3.out.size _).alloc (Nat.le_trans H3.out.size (by simp)) _).alloc (Nat.le_trans H3.out.size (by simp <;> omega)) _
  have HB := Lib.hid hb3
  have HLX := Lib.hid (HL.out.below hb3)
  have bz : X.heap[w3.heap.size + 1 + 1]? = some (.cells #[.int .u8 2, .int .i64 0, .string ⟨#[122]⟩, .slice none 0 0] 24 (0, 0)) := by
    rw [hXe]
    have e : ((w3.alloc (.cells #[.int .u8 2, .int .i64 0, .string ⟨#[120]⟩, .slice none 0 0] 24)).alloc (.cells #[.int .u8 2, .int .i64 0, .string ⟨#[121]⟩, .slice none 0 0] 24)).heap.size = w3.heap.size + 1 + 1 := by simp
    rw [← e]; exact heap_alloc_new _ _
  have by_ : X.heap[w3.heap.size + 1]? = some (.cells #[.int .u8 2, .int .i64 0, .string ⟨#[121]⟩, .slice none 0 0] 24 (0, 0)) := by
    rw [hXe, Below.heap_alloc _ _ _ (by simp)]
    have e : (w3.alloc (.cells #[.int .u8 2, .int .i64 0, .string ⟨#[120]⟩, .slice none 0 0] 24)).heap.size = w3.heap.size + 1 := by simp
    rw [← e]; exact heap_alloc_new _ _
  have bx : X.heap[w3.heap.size]? = some (.cells #[.int .u8 2, .int .i64 0, .string ⟨#[120]⟩, .slice none 0 0] 24 (0, 0)) := by
    rw [hXe, Below.heap_alloc _ _ _ (by simp <;> omega), Below.heap_alloc _ _ _ (by simp)]
    exact heap_alloc_new _ _
  rw [← hXe]
  clear hXe hb3
  have c00 : X.cell? ⟨w3.heap.size, 0, none⟩ = some (.int .u8 2) := (blk_cell bx 0).trans rfl
  have c01 : X.cell? ⟨w3.heap.size, 1, none⟩ = some (.int .i64 0) := (blk_cell bx 1).trans rfl
  have c02 : X.cell? ⟨w3.heap.size, 2, none⟩ = some (.string ⟨#[120]⟩) := (blk_cell bx 2).trans rfl
  have c03 : X.cell? ⟨w3.heap.size, 3, none⟩ = some (.slice none 0 0) := (blk_cell bx 3).trans rfl
  have c10 : X.cell? ⟨w3.heap.size + 1, 0, none⟩ = some (.int .u8 2) := (blk_cell by_ 0).trans rfl
  have c11 : X.cell? ⟨w3.heap.size + 1, 1, none⟩ = some (.int .i64 0) := (blk_cell by_ 1).trans rfl
  have c12 : X.cell? ⟨w3.heap.size + 1, 2, none⟩ = some (.string ⟨#[121]⟩) := (blk_cell by_ 2).trans rfl
  have c13 : X.cell? ⟨w3.heap.size + 1, 3, none⟩ = some (.slice none 0 0) := (blk_cell by_ 3).trans rfl
  have c20 : X.cell? ⟨w3.heap.size + 1 + 1, 0, none⟩ = some (.int .u8 2) := (blk_cell bz 0).trans rfl
  have c21 : X.cell? ⟨w3.heap.size + 1 + 1, 1, none⟩ = some (.int .i64 0) := (blk_cell bz 1).trans rfl
  have c22 : X.cell? ⟨w3.heap.size + 1 + 1, 2, none⟩ = some (.string ⟨#[122]⟩) := (blk_cell bz 2).trans rfl
  have c23 : X.cell? ⟨w3.heap.size + 1 + 1, 3, none⟩ = some (.slice none 0 0) := (blk_cell bz 3).trans rfl
  clear bx by_ bz
  have allS : ∀ W, Below X.heap.size X W → (W.cell? ⟨w3.heap.size, 0, none⟩ = some (.int .u8 2) ∧ W.cell? ⟨w3.heap.size, 1, none⟩ = some (.int .i64 0) ∧ W.cell? ⟨w3.heap.size, 2, none⟩ = some (.string ⟨#[120]⟩) ∧ W.cell? ⟨w3.heap.size, 3, none⟩ = some (.slice none 0 0) ∧ W.cell? ⟨w3.heap.size + 1, 0, none⟩ = some (.int .u8 2) ∧ W.cell? ⟨w3.heap.size + 1, 1, none⟩ = some (.int .i64 0) ∧ W.cell? ⟨w3.heap.size + 1, 2, none⟩ = some (.string ⟨#[121]⟩) ∧ W.cell? ⟨w3.heap.size + 1, 3, none⟩ = some (.slice none 0 0) ∧ W.cell? ⟨w3.heap.size + 1 + 1, 0, none⟩ = some (.int .u8 2) ∧ W.cell? ⟨w3.heap.size + 1 + 1, 1, none⟩ = some (.int .i64 0) ∧ W.cell? ⟨w3.heap.size + 1 + 1, 2, none⟩ = some (.string ⟨#[122]⟩) ∧ W.cell? ⟨w3.heap.size + 1 + 1, 3, none⟩ = some (.slice none 0 0)) := fun W h =>
    have k := fun {p : Addr} {v : Value} (z : X.cell? p = some v) => (h.cell (World.block_lt_of_cell? X _ z)).trans z
    ⟨k c00, k c01, k c02, k c03, k c10, k c11, k c12, k c13, k c20, k c21, k c22, k c23⟩
  have HS := Lib.hid allS
  have HO1 := Lib.hid (show ∀ (Wa W1 : World) , Below X.heap.size X Wa → (W1 = (Wa.alloc (.cells #[.int .u8 2, .int .i64 0, .string ⟨#[121]⟩, .slice none 0 0, .int .u8 1, .int .i64 1, .string ⟨#[]⟩, .slice none 0 0] 24)) ∨ W1 = (Wa.alloc (.cells #[.int .u8 2, .int .i64 0, .string ⟨#[121]⟩, .slice none 0 0, .int .u8 1, .int .i64 1, .string ⟨#[]⟩, .slice none 0 0] 24)).drew) → Calls Tryd.prog 15 #[.int .u8 6, .slice (some ⟨Wa.heap.size, 0, none⟩) 2 2] W1 fun e w' => e = .returned (.agg #[.int .u8 6, .int .i64 0, .string ⟨#[]⟩, .slice (some ⟨Wa.heap.size, 0, none⟩) 2 2]) ∧ Below X.heap.size X w' ∧ Kd.C kNd w' (some ⟨Wa.heap.size, 0, none⟩) 2 [vy, v1] from fun Wa W1  hg  hw => op2_any X 6 (vy) (v1) Wa W1 none none 0 0 (Nat.le_refl _) (nilC _ _ rfl) (Nat.le_refl _) (nilC _ _ rfl) hg hw)
  have HO1a := Lib.hid (fun Wa hg => HO1.out Wa _ hg (.inl rfl))
  have HO1b := Lib.hid (fun Wa hg => HO1.out Wa _ hg (.inr rfl))
  have HO2 := Lib.hid (show ∀ (Wa W1 : World) (p0 : Addr), Below X.heap.size X Wa → Kd.C kNd Wa (some p0) 2 [vy, v1] → (W1 = (Wa.alloc (.cells #[.int .u8 2, .int .i64 0, .string ⟨#[120]⟩, .slice none 0 0, .int .u8 6, .int .i64 0, .string ⟨#[]⟩, .slice (some p0) 2 2] 24)) ∨ W1 = (Wa.alloc (.cells #[.int .u8 2, .int .i64 0, .string ⟨#[120]⟩, .slice none 0 0, .int .u8 6, .int .i64 0, .string ⟨#[]⟩, .slice (some p0) 2 2] 24)).drew) → Calls Tryd.prog 15 #[.int .u8 8, .slice (some ⟨Wa.heap.size, 0, none⟩) 2 2] W1 fun e w' => e = .returned (.agg #[.int .u8 8, .int .i64 0, .string ⟨#[]⟩, .slice (some ⟨Wa.heap.size, 0, none⟩) 2 2]) ∧ Below X.heap.size X w' ∧ Kd.C kNd w' (some ⟨Wa.heap.size, 0, none⟩) 2 [vx, nd 6 [vy, v1]] from fun Wa W1 p0 hg h0 hw => op2_any X 8 (vx) (nd 6 [vy, v1]) Wa W1 none (some p0) 0 2 (Nat.le_refl _) (nilC _ _ rfl) (Nat.le_refl _) h0 hg hw)
  have HO2a := Lib.hid (fun Wa p0 hg h0 => HO2.out Wa _ p0 hg h0 (.inl rfl))
  have HO2b := Lib.hid (fun Wa p0 hg h0 => HO2.out Wa _ p0 hg h0 (.inr rfl))
  have HO3 := Lib.hid (show ∀ (Wa W1 : World) , Below X.heap.size X Wa → (W1 = (Wa.alloc (.cells #[.int .u8 2, .int .i64 0, .string ⟨#[120]⟩, .slice none 0 0, .int .u8 2, .int .i64 0, .string ⟨#[121]⟩, .slice none 0 0] 24)) ∨ W1 = (Wa.alloc (.cells #[.int .u8 2, .int .i64 0, .string ⟨#[120]⟩, .slice none 0 0, .int .u8 2, .int .i64 0, .string ⟨#[121]⟩, .slice none 0 0] 24)).drew) → Calls Tryd.prog 15 #[.int .u8 7, .slice (some ⟨Wa.heap.size, 0, none⟩) 2 2] W1 fun e w' => e = .returned (.agg #[.int .u8 7, .int .i64 0, .string ⟨#[]⟩, .slice (some ⟨Wa.heap.size, 0, none⟩) 2 2]) ∧ Below X.heap.size X w' ∧ Kd.C kNd w' (some ⟨Wa.heap.size, 0, none⟩) 2 [vx, vy] from fun Wa W1  hg  hw => op2_any X 7 (vx) (vy) Wa W1 none none 0 0 (Nat.le_refl _) (nilC _ _ rfl) (Nat.le_refl _) (nilC _ _ rfl) hg hw)
  have HO3a := Lib.hid (fun Wa hg => HO3.out Wa _ hg (.inl rfl))
  have HO3b := Lib.hid (fun Wa hg => HO3.out Wa _ hg (.inr rfl))
  have HO4 := Lib.hid (show ∀ (Wa W1 : World) (p0 : Addr), Below X.heap.size X Wa → Kd.C kNd Wa (some p0) 2 [vx, vy] → (W1 = (Wa.alloc (.cells #[.int .u8 7, .int .i64 0, .string ⟨#[]⟩, .slice (some p0) 2 2, .int .u8 2, .int .i64 0, .string ⟨#[122]⟩, .slice none 0 0] 24)) ∨ W1 = (Wa.alloc (.cells #[.int .u8 7, .int .i64 0, .string ⟨#[]⟩, .slice (some p0) 2 2, .int .u8 2, .int .i64 0, .string ⟨#[122]⟩, .slice none 0 0] 24)).drew) → Calls Tryd.prog 15 #[.int .u8 7, .slice (some ⟨Wa.heap.size, 0, none⟩) 2 2] W1 fun e w' => e = .returned (.agg #[.int .u8 7, .int .i64 0, .string ⟨#[]⟩, .slice (some ⟨Wa.heap.size, 0, none⟩) 2 2]) ∧ Below X.heap.size X w' ∧ Kd.C kNd w' (some ⟨Wa.heap.size, 0, none⟩) 2 [nd 7 [vx, vy], vz] from fun Wa W1 p0 hg h0 hw => op2_any X 7 (nd 7 [vx, vy]) (vz) Wa W1 (some p0) none 2 0 (Nat.le_refl _) h0 (Nat.le_refl _) (nilC _ _ rfl) hg hw)
  have HO4a := Lib.hid (fun Wa p0 hg h0 => HO4.out Wa _ p0 hg h0 (.inl rfl))
  have HO4b := Lib.hid (fun Wa p0 hg h0 => HO4.out Wa _ p0 hg h0 (.inr rfl))
  have HO5 := Lib.hid (show ∀ (Wa W1 : World) , Below X.heap.size X Wa → (W1 = (Wa.alloc (.cells #[.int .u8 2, .int .i64 0, .string ⟨#[120]⟩, .slice none 0 0] 24)) ∨ W1 = (Wa.alloc (.cells #[.int .u8 2, .int .i64 0, .string ⟨#[120]⟩, .slice none 0 0] 24)).drew) → Calls Tryd.prog 15 #[.int .u8 4, .slice (some ⟨Wa.heap.size, 0, none⟩) 1 1] W1 fun e w' => e = .returned (.agg #[.int .u8 4, .int .i64 0, .string ⟨#[]⟩, .slice (some ⟨Wa.heap.size, 0, none⟩) 1 1]) ∧ Below X.heap.size X w' ∧ Kd.C kNd w' (some ⟨Wa.heap.size, 0, none⟩) 1 [vx] from fun Wa W1  hg  hw => op1_any X 4 (vx) Wa W1 none 0 (Nat.le_refl _) (nilC _ _ rfl) hg hw)
  have HO5a := Lib.hid (fun Wa hg => HO5.out Wa _ hg (.inl rfl))
  have HO5b := Lib.hid (fun Wa hg => HO5.out Wa _ hg (.inr rfl))
  have HO6 := Lib.hid (show ∀ (Wa W1 : World) (p0 : Addr), Below X.heap.size X Wa → Kd.C kNd Wa (some p0) 1 [vx] → (W1 = (Wa.alloc (.cells #[.int .u8 4, .int .i64 0, .string ⟨#[]⟩, .slice (some p0) 1 1] 24)) ∨ W1 = (Wa.alloc (.cells #[.int .u8 4, .int .i64 0, .string ⟨#[]⟩, .slice (some p0) 1 1] 24)).drew) → Calls Tryd.prog 15 #[.int .u8 4, .slice (some ⟨Wa.heap.size, 0, none⟩) 1 1] W1 fun e w' => e = .returned (.agg #[.int .u8 4, .int .i64 0, .string ⟨#[]⟩, .slice (some ⟨Wa.heap.size, 0, none⟩) 1 1]) ∧ Below X.heap.size X w' ∧ Kd.C kNd w' (some ⟨Wa.heap.size, 0, none⟩) 1 [nd 4 [vx]] from fun Wa W1 p0 hg h0 hw => op1_any X 4 (nd 4 [vx]) Wa W1 (some p0) 1 (Nat.le_refl _) h0 hg hw)
  have HO6a := Lib.hid (fun Wa p0 hg h0 => HO6.out Wa _ p0 hg h0 (.inl rfl))
  have HO6b := Lib.hid (fun Wa p0 hg h0 => HO6.out Wa _ p0 hg h0 (.inr rfl))
  have HO7 := Lib.hid (show ∀ (Wa W1 : World) , Below X.heap.size X Wa → (W1 = (Wa.alloc (.cells #[.int .u8 2, .int .i64 0, .string ⟨#[120]⟩, .slice none 0 0, .int .u8 2, .int .i64 0, .string ⟨#[121]⟩, .slice none 0 0] 24)) ∨ W1 = (Wa.alloc (.cells #[.int .u8 2, .int .i64 0, .string ⟨#[120]⟩, .slice none 0 0, .int .u8 2, .int .i64 0, .string ⟨#[121]⟩, .slice none 0 0] 24)).drew) → Calls Tryd.prog 15 #[.int .u8 40, .slice (some ⟨Wa.heap.size, 0, none⟩) 2 2] W1 fun e w' => e = .returned (.agg #[.int .u8 40, .int .i64 0, .string ⟨#[]⟩, .slice (some ⟨Wa.heap.size, 0, none⟩) 2 2]) ∧ Below X.heap.size X w' ∧ Kd.C kNd w' (some ⟨Wa.heap.size, 0, none⟩) 2 [vx, vy] from fun Wa W1  hg  hw => op2_any X 40 (vx) (vy) Wa W1 none none 0 0 (Nat.le_refl _) (nilC _ _ rfl) (Nat.le_refl _) (nilC _ _ rfl) hg hw)
  have HO7a := Lib.hid (fun Wa hg => HO7.out Wa _ hg (.inl rfl))
  have HO7b := Lib.hid (fun Wa hg => HO7.out Wa _ hg (.inr rfl))
  have HO8 := Lib.hid (show ∀ (Wa W1 : World) (p0 : Addr), Below X.heap.size X Wa → Kd.C kNd Wa (some p0) 2 [vx, vy] → (W1 = (Wa.alloc (.cells #[.int .u8 40, .int .i64 0, .string ⟨#[]⟩, .slice (some p0) 2 2] 24)) ∨ W1 = (Wa.alloc (.cells #[.int .u8 40, .int .i64 0, .string ⟨#[]⟩, .slice (some p0) 2 2] 24)).drew) → Calls Tryd.prog 15 #[.int .u8 47, .slice (some ⟨Wa.heap.size, 0, none⟩) 1 1] W1 fun e w' => e = .returned (.agg #[.int .u8 47, .int .i64 0, .string ⟨#[]⟩, .slice (some ⟨Wa.heap.size, 0, none⟩) 1 1]) ∧ Below X.heap.size X w' ∧ Kd.C kNd w' (some ⟨Wa.heap.size, 0, none⟩) 1 [nd 40 [vx, vy]] from fun Wa W1 p0 hg h0 hw => op1_any X 47 (nd 40 [vx, vy]) Wa W1 (some p0) 2 (Nat.le_refl _) h0 hg hw)
  have HO8a := Lib.hid (fun Wa p0 hg h0 => HO8.out Wa _ p0 hg h0 (.inl rfl))
  have HO8b := Lib.hid (fun Wa p0 hg h0 => HO8.out Wa _ p0 hg h0 (.inr rfl))
  have HE1 := Lib.hid (show ∀ (Wa : World) (p : Addr), Below X.heap.size X Wa → Kd.C kNd Wa (some p) 2 [vx, nd 6 [vy, v1]] → Calls Tryd.prog 7 #[.agg #[.int .u8 8, .int .i64 0, .string ⟨#[]⟩, .slice (some p) 2 2]] Wa fun e w' => e = .returned (.tuple #[.string ⟨#[120, 32, 42, 32, 40, 121, 32, 43, 32, 49, 41]⟩, .int .i64 0]) ∧ Below X.heap.size X w' from fun Wa p hg hC => by
    have h := printExpr_any (nd 8 [vx, nd 6 [vy, v1]]) (some p) 2 Wa (Nat.le_refl _) hC (HLX.out.below hg) (fun _ => by decide +kernel)
    rw [if_pos (show isN 1 (nd 8 [vx, nd 6 [vy, v1]]) = true by decide)] at h
    exact h.mono (by rintro e w' ⟨rfl, hb⟩; exact ⟨by rw [show pE (nd 8 [vx, nd 6 [vy, v1]]) = [120, 32, 42, 32, 40, 121, 32, 43, 32, 49, 41] by decide +kernel], hg.trans (hb.mono hg.size)⟩))
  have HE2 := Lib.hid (show ∀ (Wa : World) (p : Addr), Below X.heap.size X Wa → Kd.C kNd Wa (some p) 2 [nd 7 [vx, vy], vz] → Calls Tryd.prog 7 #[.agg #[.int .u8 7, .int .i64 0, .string ⟨#[]⟩, .slice (some p) 2 2]] Wa fun e w' => e = .returned (.tuple #[.string ⟨#[120, 32, 45, 32, 121, 32, 45, 32, 122]⟩, .int .i64 0]) ∧ Below X.heap.size X w' from fun Wa p hg hC => by
    have h := printExpr_any (nd 7 [nd 7 [vx, vy], vz]) (some p) 2 Wa (Nat.le_refl _) hC (HLX.out.below hg) (fun _ => by decide +kernel)
    rw [if_pos (show isN 1 (nd 7 [nd 7 [vx, vy], vz]) = true by decide)] at h
    exact h.mono (by rintro e w' ⟨rfl, hb⟩; exact ⟨by rw [show pE (nd 7 [nd 7 [vx, vy], vz]) = [120, 32, 45, 32, 121, 32, 45, 32, 122] by decide +kernel], hg.trans (hb.mono hg.size)⟩))
  have HE3 := Lib.hid (show ∀ (Wa : World) (p : Addr), Below X.heap.size X Wa → Kd.C kNd Wa (some p) 1 [nd 4 [vx]] → Calls Tryd.prog 7 #[.agg #[.int .u8 4, .int .i64 0, .string ⟨#[]⟩, .slice (some p) 1 1]] Wa fun e w' => e = .returned (.tuple #[.string ⟨#[45, 45, 120]⟩, .int .i64 0]) ∧ Below X.heap.size X w' from fun Wa p hg hC => by
    have h := printExpr_any (nd 4 [nd 4 [vx]]) (some p) 1 Wa (Nat.le_refl _) hC (HLX.out.below hg) (fun _ => by decide +kernel)
    rw [if_pos (show isN 1 (nd 4 [nd 4 [vx]]) = true by decide)] at h
    exact h.mono (by rintro e w' ⟨rfl, hb⟩; exact ⟨by rw [show pE (nd 4 [nd 4 [vx]]) = [45, 45, 120] by decide +kernel], hg.trans (hb.mono hg.size)⟩))
  have HE4 := Lib.hid (show ∀ (Wa : World) (p : Addr), Below X.heap.size X Wa → Kd.C kNd Wa (some p) 1 [nd 40 [vx, vy]] → Calls Tryd.prog 10 #[.agg #[.int .u8 47, .int .i64 0, .string ⟨#[]⟩, .slice (some p) 1 1]] Wa fun e w' => e = .returned (.tuple #[.string ⟨#[120, 32, 61, 32, 121, 59, 10]⟩, .int .i64 0]) ∧ Below X.heap.size X w' from fun Wa p hg hC => by
    have h := printBlock_any (nd 47 [nd 40 [vx, vy]]) (some p) 1 Wa (Nat.le_refl _) hC (HLX.out.below hg) (fun _ => by decide +kernel)
    rw [if_pos (show isN 8 (nd 47 [nd 40 [vx, vy]]) = true by decide)] at h
    exact h.mono (by rintro e w' ⟨rfl, hb⟩; exact ⟨by rw [show pB 0 (nd 47 [nd 40 [vx, vy]]) = [120, 32, 61, 32, 121, 59, 10] by decide +kernel], hg.trans (hb.mono hg.size)⟩))
  have at_al : ∀ {W : World} (o : Obj), Below X.heap.size X W → Below X.heap.size X (W.alloc o) := fun o h => h.alloc h.size _
  have hrefl : Below X.heap.size X X := Below.refl _ _
  go_region_held3 (fun W => W.cell? ⟨w3.heap.size, 0, none⟩ = some (.int .u8 2) ∧ W.cell? ⟨w3.heap.size, 1, none⟩ = some (.int .i64 0) ∧ W.cell? ⟨w3.heap.size, 2, none⟩ = some (.string ⟨#[120]⟩) ∧ W.cell? ⟨w3.heap.size, 3, none⟩ = some (.slice none 0 0) ∧ W.cell? ⟨w3.heap.size + 1, 0, none⟩ = some (.int .u8 2) ∧ W.cell? ⟨w3.heap.size + 1, 1, none⟩ = some (.int .i64 0) ∧ W.cell? ⟨w3.heap.size + 1, 2, none⟩ = some (.string ⟨#[121]⟩) ∧ W.cell? ⟨w3.heap.size + 1, 3, none⟩ = some (.slice none 0 0) ∧ W.cell? ⟨w3.heap.size + 1 + 1, 0, none⟩ = some (.int .u8 2) ∧ W.cell? ⟨w3.heap.size + 1 + 1, 1, none⟩ = some (.int .i64 0) ∧ W.cell? ⟨w3.heap.size + 1 + 1, 2, none⟩ = some (.string ⟨#[122]⟩) ∧ W.cell? ⟨w3.heap.size + 1 + 1, 3, none⟩ = some (.slice none 0 0))
    (first | exact allS _ (by assumption) | exact allS _ (below_drew1 (by assumption)) | exact allS _ (at_al _ (by assumption)) | exact allS _ (at_al _ (below_drew1 (by assumption))))
    (first
      | (go_at_call 15; (with_reducible refine (HO1a.out _ ?hbb).mono ?_); (case hbb => first | assumption | exact below_drew1 (by assumption)); rintro e w' ⟨rfl, hbw, hcw⟩)
      | (go_at_call 15; (with_reducible refine (HO1b.out _ ?hbb).mono ?_); (case hbb => first | assumption | exact below_drew1 (by assumption)); rintro e w' ⟨rfl, hbw, hcw⟩)
      | (go_at_call 15; (with_reducible refine (HO2a.out _ _ ?hbb ?hcc).mono ?_); (case hbb => first | assumption | exact below_drew1 (by assumption)); (case hcc => first | assumption | exact Kd.C_drew (by assumption)); rintro e w' ⟨rfl, hbw, hcw⟩)
      | (go_at_call 15; (with_reducible refine (HO2b.out _ _ ?hbb ?hcc).mono ?_); (case hbb => first | assumption | exact below_drew1 (by assumption)); (case hcc => first | assumption | exact Kd.C_drew (by assumption)); rintro e w' ⟨rfl, hbw, hcw⟩)
      | (go_at_call 7; (with_reducible refine (HE1.out _ _ ?hbb ?hcc).mono ?_); (case hbb => first | assumption | exact below_drew1 (by assumption)); (case hcc => first | assumption | exact Kd.C_drew (by assumption)); rintro e w' ⟨rfl, hbw⟩))
  all_goals
    have hg0 := hbw
    clear c00 c01 c02 c03 c10 c11 c12 c13 c20 c21 c22 c23
    clear hbw
    obtain ⟨c00, c01, c02, c03, c10, c11, c12, c13, c20, c21, c22, c23⟩ := HS.out _ hg0
    go_wp2_with fail
    go_region_held3 (fun W => W.cell? ⟨w3.heap.size, 0, none⟩ = some (.int .u8 2) ∧ W.cell? ⟨w3.heap.size, 1, none⟩ = some (.int .i64 0) ∧ W.cell? ⟨w3.heap.size, 2, none⟩ = some (.string ⟨#[120]⟩) ∧ W.cell? ⟨w3.heap.size, 3, none⟩ = some (.slice none 0 0) ∧ W.cell? ⟨w3.heap.size + 1, 0, none⟩ = some (.int .u8 2) ∧ W.cell? ⟨w3.heap.size + 1, 1, none⟩ = some (.int .i64 0) ∧ W.cell? ⟨w3.heap.size + 1, 2, none⟩ = some (.string ⟨#[121]⟩) ∧ W.cell? ⟨w3.heap.size + 1, 3, none⟩ = some (.slice none 0 0) ∧ W.cell? ⟨w3.heap.size + 1 + 1, 0, none⟩ = some (.int .u8 2) ∧ W.cell? ⟨w3.heap.size + 1 + 1, 1, none⟩ = some (.int .i64 0) ∧ W.cell? ⟨w3.heap.size + 1 + 1, 2, none⟩ = some (.string ⟨#[122]⟩) ∧ W.cell? ⟨w3.heap.size + 1 + 1, 3, none⟩ = some (.slice none 0 0))
      (first | exact allS _ (by assumption) | exact allS _ (below_drew1 (by assumption)) | exact allS _ (at_al _ (by assumption)) | exact allS _ (at_al _ (below_drew1 (by assumption))))
      (first
        | (go_at_call 15; (with_reducible refine (HO3a.out _ ?hbb).mono ?_); (case hbb => first | assumption | exact below_drew1 (by assumption)); rintro e w' ⟨rfl, hbw, hcw⟩)
        | (go_at_call 15; (with_reducible refine (HO3b.out _ ?hbb).mono ?_); (case hbb => first | assumption | exact below_drew1 (by assumption)); rintro e w' ⟨rfl, hbw, hcw⟩)
        | (go_at_call 15; (with_reducible refine (HO4a.out _ _ ?hbb ?hcc).mono ?_); (case hbb => first | assumption | exact below_drew1 (by assumption)); (case hcc => first | assumption | exact Kd.C_drew (by assumption)); rintro e w' ⟨rfl, hbw, hcw⟩)
        | (go_at_call 15; (with_reducible refine (HO4b.out _ _ ?hbb ?hcc).mono ?_); (case hbb => first | assumption | exact below_drew1 (by assumption)); (case hcc => first | assumption | exact Kd.C_drew (by assumption)); rintro e w' ⟨rfl, hbw, hcw⟩)
        | (go_at_call 7; (with_reducible refine (HE2.out _ _ ?hbb ?hcc).mono ?_); (case hbb => first | assumption | exact below_drew1 (by assumption)); (case hcc => first | assumption | exact Kd.C_drew (by assumption)); rintro e w' ⟨rfl, hbw⟩))
    all_goals
      have HG := Lib.hid hbw
      clear c00 c01 c02 c03 c10 c11 c12 c13 c20 c21 c22 c23
      clear hbw hg0 hrefl allS at_al
      obtain ⟨c00, c01, c02, c03, c10, c11, c12, c13, c20, c21, c22, c23⟩ := HS.out _ HG.out
      go_wp2_with fail
      refine (HO5a.out _ HG.out).mono ?_
      rintro e w5 ⟨rfl, h5, k5⟩
      have G5 := Lib.hid h5
      have K5 := Lib.hid k5
      clear c00 c01 c02 c03 c10 c11 c12 c13 c20 c21 c22 c23
      clear h5 k5
      obtain ⟨c00, c01, c02, c03, c10, c11, c12, c13, c20, c21, c22, c23⟩ := HS.out _ G5.out
      go_wp2_with fail
      refine (HO6a.out _ _ G5.out K5.out).mono ?_
      rintro e w6 ⟨rfl, h6, k6⟩
      have G6 := Lib.hid h6
      have K6 := Lib.hid k6
      clear c00 c01 c02 c03 c10 c11 c12 c13 c20 c21 c22 c23
      clear h6 k6
      obtain ⟨c00, c01, c02, c03, c10, c11, c12, c13, c20, c21, c22, c23⟩ := HS.out _ G6.out
      go_wp2_with fail
      refine (HE3.out _ _ G6.out K6.out).mono ?_
      rintro e w7 ⟨rfl, h7⟩
      have G7 := Lib.hid h7
      clear c00 c01 c02 c03 c10 c11 c12 c13 c20 c21 c22 c23
      clear h7
      obtain ⟨c00, c01, c02, c03, c10, c11, c12, c13, c20, c21, c22, c23⟩ := HS.out _ G7.out
      go_wp2_with fail
      refine (HO7a.out _ G7.out).mono ?_
      rintro e w8 ⟨rfl, h8, k8⟩
      have G8 := Lib.hid h8
      have K8 := Lib.hid k8
      clear c00 c01 c02 c03 c10 c11 c12 c13 c20 c21 c22 c23
      clear h8 k8
      obtain ⟨c00, c01, c02, c03, c10, c11, c12, c13, c20, c21, c22, c23⟩ := HS.out _ G8.out
      go_wp2_with fail
      refine (HO8a.out _ _ G8.out K8.out).mono ?_
      rintro e w9 ⟨rfl, h9, k9⟩
      have G9 := Lib.hid h9
      have K9 := Lib.hid k9
      clear c00 c01 c02 c03 c10 c11 c12 c13 c20 c21 c22 c23
      clear h9 k9
      obtain ⟨c00, c01, c02, c03, c10, c11, c12, c13, c20, c21, c22, c23⟩ := HS.out _ G9.out
      go_wp2_with fail
      refine (HE4.out _ _ G9.out K9.out).mono ?_
      rintro e w10 ⟨rfl, h10⟩
      have G10 := Lib.hid h10
      clear c00 c01 c02 c03 c10 c11 c12 c13 c20 c21 c22 c23
      clear h10
      go_wp2_with fail
      go_ret
      exact ⟨rfl, HB.out.trans (G10.out.mono HB.out.size)⟩

end Go.Proofs.YtlmmobfebjideaaDoor.P

/- The contract of ontimelaw14.awake in the print's own form. -/
namespace Go.Proofs.YtlmmobfebjideaaDoor.P
open Go.RowKit Go.Proofs.YtlmmobfebjideaaDoor Go.Proofs.YtlmmobfebjideaaDoor.M Go.Proofs.YtlmmobfebjideaaDoorW.PrintWords
set_option linter.unusedVariables false

def ontimelaw14_awake.f : Option Bool := some true
theorem ontimelaw14_awake.calls (r : Bool) (w : World) (hL : Laid w) (h : ontimelaw14_awake.f = some r) : Calls Tryd.prog 5 #[] w fun e w' => e = .returned (.bool r) ∧ Below w.heap.size w w' := by
  obtain rfl := Option.some.inj h
  exact awake14_any w hL

end Go.Proofs.YtlmmobfebjideaaDoor.P

/- The contracts of ast.IsExpr, ast.IsBlock, printer.Expr, printer.Block in the print's own form. -/
namespace Go.Proofs.YtlmmobfebjideaaDoor.P
open Go.RowKit Go.Proofs.YtlmmobfebjideaaDoor Go.Proofs.YtlmmobfebjideaaDoor.M Go.Proofs.YtlmmobfebjideaaDoorW.PrintWords
set_option linter.unusedVariables false
set_option linter.unusedSimpArgs false

def ast_IsExpr.f (a0_0 : Int) (a0_1 : Int) (a0_2 : ByteArray) (l0_3 : List S24) : Option Bool := some (isN 1 ⟨a0_0, a0_1, a0_2, l0_3⟩)
theorem ast_IsExpr.calls (a0_0 : Int) (a0_1 : Int) (a0_2 : ByteArray) (A0_3 : Option Addr) (c0_3 : Nat) (l0_3 : List S24) (r : Bool) (w : World) (hr0_3 : Kd.C k24 w A0_3 l0_3.length l0_3) (hc0_3 : l0_3.length ≤ c0_3) (hL : Laid w) (h : ast_IsExpr.f a0_0 a0_1 a0_2 l0_3 = some r) :
    Calls Tryd.prog 8 #[.agg #[.int .u8 a0_0, .int .i64 a0_1, .string a0_2, .slice A0_3 l0_3.length c0_3]] w fun e w' => e = .returned (.bool r) ∧ Below w.heap.size w w' := by
  obtain rfl := Option.some.inj h
  exact isExpr_any ⟨a0_0, a0_1, a0_2, l0_3⟩ A0_3 c0_3 w hc0_3 hr0_3 hL
def ast_IsBlock.f (a0_0 : Int) (a0_1 : Int) (a0_2 : ByteArray) (l0_3 : List S24) : Option Bool := some (isN 8 ⟨a0_0, a0_1, a0_2, l0_3⟩)
theorem ast_IsBlock.calls (a0_0 : Int) (a0_1 : Int) (a0_2 : ByteArray) (A0_3 : Option Addr) (c0_3 : Nat) (l0_3 : List S24) (r : Bool) (w : World) (hr0_3 : Kd.C k24 w A0_3 l0_3.length l0_3) (hc0_3 : l0_3.length ≤ c0_3) (hL : Laid w) (h : ast_IsBlock.f a0_0 a0_1 a0_2 l0_3 = some r) :
    Calls Tryd.prog 11 #[.agg #[.int .u8 a0_0, .int .i64 a0_1, .string a0_2, .slice A0_3 l0_3.length c0_3]] w fun e w' => e = .returned (.bool r) ∧ Below w.heap.size w w' := by
  obtain rfl := Option.some.inj h
  exact isBlock_any ⟨a0_0, a0_1, a0_2, l0_3⟩ A0_3 c0_3 w hc0_3 hr0_3 hL
def printer_Expr.f (a0_0 : Int) (a0_1 : Int) (a0_2 : ByteArray) (l0_3 : List S24) : Option (ByteArray × Int) :=
  if isN 1 ⟨a0_0, a0_1, a0_2, l0_3⟩ = true then (if (pE ⟨a0_0, a0_1, a0_2, l0_3⟩).length ≤ 4611686018427387904 then some (⟨(pE ⟨a0_0, a0_1, a0_2, l0_3⟩).toArray⟩, 0) else none) else some (⟨#[]⟩, 3)
theorem printer_Expr.calls (a0_0 : Int) (a0_1 : Int) (a0_2 : ByteArray) (A0_3 : Option Addr) (c0_3 : Nat) (l0_3 : List S24) (r1 : ByteArray) (r2 : Int) (w : World) (hr0_3 : Kd.C k24 w A0_3 l0_3.length l0_3) (hc0_3 : l0_3.length ≤ c0_3) (hL : Laid w) (h : printer_Expr.f a0_0 a0_1 a0_2 l0_3 = some (r1, r2)) :
    Calls Tryd.prog 7 #[.agg #[.int .u8 a0_0, .int .i64 a0_1, .string a0_2, .slice A0_3 l0_3.length c0_3]] w fun e w' => e = .returned (.tuple #[.string r1, .int .i64 r2]) ∧ Below w.heap.size w w' := by
  unfold printer_Expr.f at h
  by_cases h1 : isN 1 ⟨a0_0, a0_1, a0_2, l0_3⟩ = true
  · rw [if_pos h1] at h
    by_cases h2 : (pE ⟨a0_0, a0_1, a0_2, l0_3⟩).length ≤ 4611686018427387904
    · rw [if_pos h2] at h
      cases h
      have := printExpr_any ⟨a0_0, a0_1, a0_2, l0_3⟩ A0_3 c0_3 w hc0_3 hr0_3 hL (fun _ => h2)
      rwa [if_pos h1] at this
    · rw [if_neg h2] at h; cases h
  · rw [if_neg h1] at h
    cases h
    have := printExpr_any ⟨a0_0, a0_1, a0_2, l0_3⟩ A0_3 c0_3 w hc0_3 hr0_3 hL (fun h => absurd h h1)
    rwa [if_neg h1] at this
def printer_Block.f (a0_0 : Int) (a0_1 : Int) (a0_2 : ByteArray) (l0_3 : List S24) : Option (ByteArray × Int) :=
  if isN 8 ⟨a0_0, a0_1, a0_2, l0_3⟩ = true then (if (pB 0 ⟨a0_0, a0_1, a0_2, l0_3⟩).length ≤ 70368744177664 ∧ depth ⟨a0_0, a0_1, a0_2, l0_3⟩ ≤ 50 then some (⟨(pB 0 ⟨a0_0, a0_1, a0_2, l0_3⟩).toArray⟩, 0) else none) else some (⟨#[]⟩, 3)
theorem printer_Block.calls (a0_0 : Int) (a0_1 : Int) (a0_2 : ByteArray) (A0_3 : Option Addr) (c0_3 : Nat) (l0_3 : List S24) (r1 : ByteArray) (r2 : Int) (w : World) (hr0_3 : Kd.C k24 w A0_3 l0_3.length l0_3) (hc0_3 : l0_3.length ≤ c0_3) (hL : Laid w) (h : printer_Block.f a0_0 a0_1 a0_2 l0_3 = some (r1, r2)) :
    Calls Tryd.prog 10 #[.agg #[.int .u8 a0_0, .int .i64 a0_1, .string a0_2, .slice A0_3 l0_3.length c0_3]] w fun e w' => e = .returned (.tuple #[.string r1, .int .i64 r2]) ∧ Below w.heap.size w w' := by
  unfold printer_Block.f at h
  by_cases h1 : isN 8 ⟨a0_0, a0_1, a0_2, l0_3⟩ = true
  · rw [if_pos h1] at h
    by_cases h2 : (pB 0 ⟨a0_0, a0_1, a0_2, l0_3⟩).length ≤ 70368744177664 ∧ depth ⟨a0_0, a0_1, a0_2, l0_3⟩ ≤ 50
    · rw [if_pos h2] at h
      cases h
      have := printBlock_any ⟨a0_0, a0_1, a0_2, l0_3⟩ A0_3 c0_3 w hc0_3 hr0_3 hL (fun _ => h2)
      rwa [if_pos h1] at this
    · rw [if_neg h2] at h; cases h
  · rw [if_neg h1] at h
    cases h
    have := printBlock_any ⟨a0_0, a0_1, a0_2, l0_3⟩ A0_3 c0_3 w hc0_3 hr0_3 hL (fun h => absurd h h1)
    rwa [if_neg h1] at this

end Go.Proofs.YtlmmobfebjideaaDoor.P

/- The reference's small functions: Decimal, binary, level, wrap, Symbols. -/
namespace Go.Proofs.YtlmmobfebjideaaDoor.P
open Go.RowKit Go.Proofs.YtlmmobfebjideaaDoor Go.Proofs.YtlmmobfebjideaaDoor.M Go.Proofs.YtlmmobfebjideaaDoorW.PrintWords Go.Proofs.YtlmmobfebjideaaDoorW.PrintLast
set_option linter.unusedVariables false
set_option linter.unusedSimpArgs false

theorem digit_cut (i : Nat) (h : i < 10) : (⟨#[48, 49, 50, 51, 52, 53, 54, 55, 56, 57]⟩ : ByteArray).extract i (i + 1) = ⟨#[UInt8.ofNat (48 + i)]⟩ := by
  have : ∀ i : Fin 10, (⟨#[48, 49, 50, 51, 52, 53, 54, 55, 56, 57]⟩ : ByteArray).extract i.1 (i.1 + 1) = ⟨#[UInt8.ofNat (48 + i.1)]⟩ := by decide
  exact this ⟨i, h⟩
theorem decimal_f : ∀ (k n : Nat), n < 10 ^ k → k ≤ 18 → ontimeref14_Decimal.f (k + 1) (n : Int) = some ⟨(Lib.decDigits n).toArray⟩ ∧ (Lib.decDigits n).length ≤ k + 1 := by
  intro k
  induction k with
  | zero =>
    intro n h _
    have : n = 0 := by simpa using h
    subst this
    exact ⟨by decide +kernel, by decide +kernel⟩
  | succ k ih =>
    intro n h hk
    have hp : n < 1000000000000000000 := by
      have : 10 ^ (k + 1) ≤ 10 ^ 18 := Nat.pow_le_pow_right (by omega) (by omega)
      omega
    have e1 : Int.tmod (n : Int) 10 = ((n % 10 : Nat) : Int) := rfl
    have e2 : wrap64 (((n % 10 : Nat) : Int) + 1) = ((n % 10 + 1 : Nat) : Int) := by unfold wrap64; omega
    have e30 : Int.tdiv (n : Int) 10 = ((n / 10 : Nat) : Int) := rfl
    have e3 : wrap64 (Int.tdiv (n : Int) 10) = ((n / 10 : Nat) : Int) := by rw [e30]; unfold wrap64; omega
    rw [ontimeref14_Decimal.f, e1, e2, if_pos (by omega), if_pos (by omega), if_pos (by omega), Int.toNat_natCast, Int.toNat_natCast, digit_cut _ (by omega)]
    by_cases h10 : n < 10
    · rw [if_pos (by omega), Lib.decDigits_one h10, Nat.mod_eq_of_lt h10]
      exact ⟨rfl, by simp⟩
    · rw [if_neg (by omega), e3]
      obtain ⟨h1, h2⟩ := ih (n / 10) (by rw [Nat.pow_succ] at h; omega) (by omega)
      rw [h1]
      simp only [Option.bind_some]
      have hd : Lib.decDigits n = Lib.decDigits (n / 10) ++ [UInt8.ofNat (48 + n % 10)] := by rw [Lib.decDigits, dif_neg h10]
      rw [hd]
      constructor
      · rw [if_pos (by
          have e4 : (⟨(Lib.decDigits (n / 10)).toArray⟩ : ByteArray).size = (Lib.decDigits (n / 10)).length := by rw [Lib.size_eq]
          have e5 : (⟨#[UInt8.ofNat (48 + n % 10)]⟩ : ByteArray).size = 1 := rfl
          rw [e4, e5]; omega)]
        congr 1
      · simp only [List.length_append, List.length_cons, List.length_nil]; omega
theorem decimal_any (n : Int) (h0 : 0 ≤ n) (h1 : n < 100000000000) (w : World) :
    Calls Tryd.prog 20 #[.int .i64 n] w fun e w' => e = .returned (.string ⟨(Lib.itoa n).toArray⟩) ∧ Below w.heap.size w w' := by
  obtain ⟨m, rfl⟩ : ∃ m : Nat, n = (m : Int) := ⟨n.toNat, by omega⟩
  rw [Lib.itoa_nonneg]
  exact (ontimeref14_Decimal.calls _ _ _ w (decimal_f 11 m (by omega) (by omega)).1).mono (by rintro e w' ⟨rfl, h⟩; exact ⟨rfl, h.below⟩)

theorem refBinary_any (n : Nd) (A : Option Addr) (c : Nat) (w : World) (hc : n.f3.length ≤ c) (hr : Kd.C kNd w A n.f3.length n.f3) :
    Calls Tryd.prog 22 #[nodeV n A c] w fun e w' => e = .returned (.bool (M.binary n)) ∧ Below w.heap.size w w' := by
  refine ontimeref14_binary.calls n.f0 n.f1 n.f2 A c n.f3 _ w hr hc ?_
  unfold ontimeref14_binary.f M.binary
  by_cases h : n.f0 ≥ 6
  · rw [if_pos h, decide_eq_true (show 6 ≤ n.f0 from h)]; rfl
  · rw [if_neg h, decide_eq_false (show ¬ 6 ≤ n.f0 from h)]; rfl
set_option maxHeartbeats 2000000 in
theorem wrap_any (s : ByteArray) (b : Bool) (hs : s.size ≤ 4611686018427387904) (w : World) :
    Calls Tryd.prog 23 #[.string s, .bool b] w fun e w' => e = .returned (.string ⟨(paren b s.data.toList).toArray⟩) ∧ Below w.heap.size w w' := by
  cases b with
  | false =>
    go_enter Tryd.func23, Tryd.ntmps23
    go_wp2
    go_ret
    exact ⟨congrArg (fun x => Ending.returned (Value.string x)) (bytes_eq (by simp [paren])), Below.refl _ _⟩
  | true =>
    have q1 : (9223372036854775807 < 1 + s.size) = False := eq_false (by omega)
    have q2 : (9223372036854775807 < 1 + s.size + 1) = False := eq_false (by omega)
    go_enter Tryd.func23, Tryd.ntmps23
    go_wp2
    go_ret
    exact ⟨congrArg (fun x => Ending.returned (Value.string x)) (bytes_eq (by simp [paren, ByteArray.data_append])), Below.refl _ _⟩

set_option maxHeartbeats 2000000 in
theorem symbols_any (w : World) : Calls Tryd.prog 21 #[] w fun e w' => e = .returned (.slice (some ⟨w.heap.size, 0, none⟩) 20 20) ∧ w'.heap[w.heap.size]? = some (.cells (opSymbols.map fun s => Value.string ⟨s.toArray⟩).toArray 9 (0, 0)) ∧ Below w.heap.size w w' := by
  go_enter Tryd.func21, Tryd.ntmps21
  go_wp2
  go_ret
  exact ⟨rfl, heap_alloc_new w _, (Below.refl _ _).alloc (Nat.le_refl _) _⟩
set_option maxHeartbeats 2000000 in
theorem levels_any (w : World) : Calls Tryd.prog 39 #[] w fun e w' => e = .returned (.slice (some ⟨w.heap.size, 0, none⟩) 20 20) ∧ w'.heap[w.heap.size]? = some (.cells (opLevels.map fun n => Value.int .i64 (n : Nat)).toArray 3 (0, 0)) ∧ Below w.heap.size w w' := by
  go_enter Tryd.func39, Tryd.ntmps39
  go_wp2
  go_ret
  exact ⟨rfl, heap_alloc_new w _, (Below.refl _ _).alloc (Nat.le_refl _) _⟩

set_option maxHeartbeats 4000000 in
set_option maxRecDepth 100000 in
theorem refLevel_any (n : Nd) (h4 : 4 ≤ n.f0) (h23 : n.f0 ≤ 23) (A : Option Addr) (c : Nat) (w : World) :
    Calls Tryd.prog 24 #[nodeV n A c] w fun e w' => e = .returned (.int .i64 (levOf n.f0)) ∧ Below w.heap.size w w' := by
  have hb : Below w.heap.size w (boxed n A c w) := (Below.refl _ _).alloc (Nat.le_refl _) _
  have bk : (boxed n A c w).heap[w.heap.size]? = _ := heap_alloc_new w _
  have c0 : (boxed n A c w).cell? ⟨w.heap.size, 0, none⟩ = some (.int .u8 n.f0) := (blk_cell bk 0).trans rfl
  obtain ⟨j, hj⟩ : ∃ j : Nat, n.f0 - 4 = (j : Int) := ⟨(n.f0 - 4).toNat, by omega⟩
  have hj20 : (j : Int) < 20 := by omega
  have hw : IntKind.u8.wrap (n.f0 - 4) = (j : Int) := by
    rw [hj]
    have e : IntKind.u8.wrap (j : Int) = (j : Int) % 256 := by first | rfl | (unfold IntKind.wrap; simp [IntKind.bits, IntKind.signed])
    rw [e]; omega
  have hlev : ∀ W : World, W.heap[(boxed n A c w).heap.size]? = some (.cells (opLevels.map fun n => Value.int .i64 (n : Nat)).toArray 3 (0, 0)) → W.cell? ⟨(boxed n A c w).heap.size, j, none⟩ = some (.int .i64 (levOf n.f0)) := fun W h => by
    rw [Lib.cell_of_heap h]
    unfold levOf
    rw [if_pos (by omega), hj, Int.toNat_natCast]
    have : j < opLevels.length := by simp [opLevels]; omega
    simp [this, List.getD_eq_getElem?_getD]
  have HLV := Lib.hid (show ∀ W : World, Below (boxed n A c w).heap.size (boxed n A c w) W → W.heap.size = (boxed n A c w).heap.size → Calls Tryd.prog 39 #[] W fun e w' => e = .returned (.slice (some ⟨(boxed n A c w).heap.size, 0, none⟩) 20 20) ∧ w'.cell? ⟨(boxed n A c w).heap.size, j, none⟩ = some (.int .i64 (levOf n.f0)) ∧ Below (boxed n A c w).heap.size (boxed n A c w) w' from fun W h hz =>
    (levels_any W).mono (by
      rintro e w' ⟨rfl, h2, h3⟩
      rw [hz] at h2
      exact ⟨by rw [hz], hlev w' h2, h.trans (h3.mono h.size)⟩))
  have HB := Lib.hid hb
  clear hb bk hlev hj h4 h23
  unfold boxed at c0 HLV HB
  go_enter Tryd.func24, Tryd.ntmps24
  go_wp2_with fail
  generalize (w.alloc (.cells #[.int .u8 n.f0, .int .i64 n.f1, .string n.f2, .slice A n.f3.length c] 24)) = W0 at *
  have hrefl : Below W0.heap.size W0 W0 := Below.refl _ _
  have allS : ∀ W, Below W0.heap.size W0 W → W.cell? ⟨w.heap.size, 0, none⟩ = some (.int .u8 n.f0) := fun W h => (h.cell (World.block_lt_of_cell? W0 _ c0)).trans c0
  refine wp_region_held_drew (S := fun W => W.cell? ⟨w.heap.size, 0, none⟩ = some (.int .u8 n.f0)) (by kernel_rfl) (allS _ (below_drew1 hrefl)) (fun hHeld => ?_)
  refine wpAnyH_take (i := 1) (v := ?v1) rfl (by kernel_rfl) (by kernel_rfl) (by kernel_rfl) (fun _ _ _ h => h) (Or.inl ⟨by rfl, ?hy1⟩) hHeld ?rest1
  case hy1 => (intro w hSw; (try dsimp only at hSw); go_simp; try with_reducible rfl)
  try simp only [List.getElem_toArray, List.getElem_cons_succ, List.getElem_cons_zero, Act.put, List.setIfInBounds_toArray, List.set_cons_zero, List.set_cons_succ]
  refine wpAnyH_take (i := 2) (v := ?v2) rfl (by kernel_rfl) (by kernel_rfl) (by kernel_rfl) (fun _ _ _ h => h) (Or.inl ⟨by rfl, ?hy2⟩) hHeld ?rest2
  case hy2 => (intro w hSw; (try dsimp only at hSw); go_simp; try with_reducible rfl)
  try simp only [List.getElem_toArray, List.getElem_cons_succ, List.getElem_cons_zero, Act.put, List.setIfInBounds_toArray, List.set_cons_zero, List.set_cons_succ]
  refine wpAnyH_take (i := 3) (v := ?v3) rfl (by kernel_rfl) (by kernel_rfl) (by kernel_rfl) (fun _ _ _ h => h) (Or.inl ⟨by rfl, ?hy3⟩) hHeld ?rest3
  case hy3 => (intro w hSw; (try dsimp only at hSw); go_simp; try with_reducible rfl)
  try simp only [List.getElem_toArray, List.getElem_cons_succ, List.getElem_cons_zero, Act.put, List.setIfInBounds_toArray, List.set_cons_zero, List.set_cons_succ]
  refine wpAnyH_ready (rs := [0]) (by kernel_rfl) (by simp) ?_
  refine AllReadyH.cons rfl (fun K hK => ?_) AllReadyH.nil
  go_simp
  go_at_call 39
  refine (HLV.out _ (below_drew1 hrefl) rfl).mono ?_
  rintro e w' ⟨rfl, hcl, hbw⟩
  refine hK.out _ _ (allS _ hbw) (fun hH2 => ?_)
  clear hK K
  try simp only [List.getElem_toArray, List.getElem_cons_succ, List.getElem_cons_zero, Act.put, List.setIfInBounds_toArray, List.set_cons_zero, List.set_cons_succ]
  refine wpAnyH_take (i := 4) (v := ?v4) rfl (by kernel_rfl) (by kernel_rfl) (by kernel_rfl) (fun _ _ _ h => h) (Or.inl ⟨by rfl, ?hy4⟩) hH2 ?rest4
  case hy4 => (intro w hSw; (try dsimp only at hSw); go_simp; try with_reducible rfl)
  try simp only [List.getElem_toArray, List.getElem_cons_succ, List.getElem_cons_zero, Act.put, List.setIfInBounds_toArray, List.set_cons_zero, List.set_cons_succ]
  refine wpAnyH_ready (rs := [5]) (by kernel_rfl) (by simp) ?_
  refine AllReadyH.cons rfl (fun K hK => ?_) AllReadyH.nil
  go_simp
  refine hK.out _ _ (allS _ hbw) (fun hH3 => ?_)
  clear hK K
  try simp only [List.getElem_toArray, List.getElem_cons_succ, List.getElem_cons_zero, Act.put, List.setIfInBounds_toArray, List.set_cons_zero, List.set_cons_succ]
  refine wpAnyH_take (i := 6) (v := ?v5) rfl (by kernel_rfl) (by kernel_rfl) (by kernel_rfl) (fun _ _ _ h => h) (Or.inl ⟨by rfl, ?hy5⟩) hH3 ?rest5
  case hy5 => (intro w hSw; (try dsimp only at hSw); go_simp; try with_reducible rfl)
  try simp only [List.getElem_toArray, List.getElem_cons_succ, List.getElem_cons_zero, Act.put, List.setIfInBounds_toArray, List.set_cons_zero, List.set_cons_succ]
  refine wpAnyH_done (by kernel_rfl) ?_ _
  go_wp2
  go_ret
  exact ⟨rfl, HB.out.trans (hbw.mono HB.out.size)⟩

end Go.Proofs.YtlmmobfebjideaaDoor.P

/- The reference's Expr, walked. -/
namespace Go.Proofs.YtlmmobfebjideaaDoor.P
open Go.RowKit Go.Proofs.YtlmmobfebjideaaDoor Go.Proofs.YtlmmobfebjideaaDoor.M Go.Proofs.YtlmmobfebjideaaDoorW.PrintWords
set_option linter.unusedVariables false
set_option linter.unusedSimpArgs false
attribute [local go_sem ↓] Go.wp_at_zero Go.wp_at_succ

/-- What the reference's Expr comes to, at a tree. -/
def RExC (n : Nd) : Prop := ∀ (A : Option Addr) (c : Nat) (w : World), n.f3.length ≤ c → Kd.C kNd w A n.f3.length n.f3 →
  Calls Tryd.prog 9 #[nodeV n A c] w fun e w' => e = .returned (.string ⟨(pE n).toArray⟩) ∧ Below w.heap.size w w'

set_option maxHeartbeats 4000000 in
set_option maxRecDepth 100000 in
theorem rexpr_num (n : Nd) (hk : n.f0 = 1) (h0 : 0 ≤ n.f1) (h1 : n.f1 ≤ 2147483647) : RExC n := by
  intro A c w hc hr
  have hb : Below w.heap.size w (boxed n A c w) := (Below.refl _ _).alloc (Nat.le_refl _) _
  have HR := Lib.hid (show pE n = Lib.itoa n.f1 by rw [pE_eq, if_pos hk])
  have HI := Lib.hid (decimal_any n.f1 (by omega) (by omega) (boxed n A c w))
  have HB := Lib.hid hb
  have g1 : (n.f0 == 1) = true := by rw [hk]; rfl
  clear hb hr hk
  go_enter Tryd.func9, Tryd.ntmps9
  go_wp2_with fail
  refine HI.out.mono ?_
  rintro e w1 ⟨rfl, hb1⟩
  have HB1 := Lib.hid (HB.out.trans (hb1.mono HB.out.size))
  clear hb1 HI
  go_wp2_with fail
  go_ret
  exact ⟨by rw [HR.out]; rfl, HB1.out⟩

set_option maxHeartbeats 4000000 in
set_option maxRecDepth 100000 in
theorem rexpr_var (n : Nd) (hk : n.f0 = 2) : RExC n := by
  intro A c w hc hr
  have hb : Below w.heap.size w (boxed n A c w) := (Below.refl _ _).alloc (Nat.le_refl _) _
  have HR := Lib.hid (show pE n = n.f2.data.toList by rw [pE_eq, if_neg (by omega), if_pos hk])
  have g1 : (n.f0 == 1) = false := beq_eq_false_iff_ne.2 (by omega)
  have g2 : (n.f0 == 2) = true := by rw [hk]; rfl
  have HB := Lib.hid hb
  clear hb hr hk
  go_enter Tryd.func9, Tryd.ntmps9
  go_wp2_with fail
  go_ret
  exact ⟨by rw [HR.out]; rfl, HB.out⟩

set_option maxHeartbeats 8000000 in
set_option maxRecDepth 100000 in
theorem rexpr_item (n a : Nd) (hk : n.f0 = 3) (e : n.f3 = [a]) (he : RExC a) (hlen : (pE n).length ≤ 4611686018427387904) : RExC n := by
  intro A c w hc hr
  have hn : n.f3.length = 1 := by rw [e]; rfl
  have hb : Below w.heap.size w (boxed n A c w) := (Below.refl _ _).alloc (Nat.le_refl _) _
  have hpE : pE n = n.f2.data.toList ++ [91] ++ pE a ++ [93] := by rw [pE_eq, if_neg (by omega), if_neg (by omega), if_pos hk, e]; rfl
  have HR := Lib.hid hpE
  obtain ⟨ad, B, d, rfl, _, c0, c1, c2, c3, hl, hC⟩ := kid_one (Kd.C_below hr hb) e
  rw [hpE] at hlen
  simp only [List.length_append, List.length_cons, List.length_nil] at hlen
  obtain ⟨S, hS⟩ : ∃ S : ByteArray, S = ⟨(pE a).toArray⟩ := ⟨_, rfl⟩
  have z9 : S.size = (pE a).length := by rw [hS, Lib.size_eq]
  have z8 : n.f2.size = n.f2.data.toList.length := Lib.size_eq _
  have q1 : n.f2.size + 1 ≤ 9223372036854775807 := by omega
  have q1f : (9223372036854775807 < n.f2.size + 1) = False := eq_false (by omega)
  have q2f : (9223372036854775807 < n.f2.size + 1 + S.size) = False := eq_false (by omega)
  have q3f : (9223372036854775807 < n.f2.size + 1 + S.size + 1) = False := eq_false (by omega)
  have g1 : (n.f0 == 1) = false := beq_eq_false_iff_ne.2 (by omega)
  have g2 : (n.f0 == 2) = false := beq_eq_false_iff_ne.2 (by omega)
  have g3 : (n.f0 == 3) = true := by rw [hk]; rfl
  have bk : (boxed n (some ad) c w).heap[w.heap.size]? = _ := heap_alloc_new w _
  have z2 : (boxed n (some ad) c w).cell? ⟨w.heap.size, 2, none⟩ = some (.string n.f2) := (blk_cell bk 2).trans rfl
  have z3 : (boxed n (some ad) c w).cell? ⟨w.heap.size, 3, none⟩ = some (.slice (some ad) 1 c) := by rw [← hn]; exact (blk_cell bk 3).trans rfl
  have hE : boxed n (some ad) c w = w.alloc (.cells #[.int .u8 n.f0, .int .i64 n.f1, .string n.f2, .slice (some ad) 1 c] 24) := by show World.alloc _ _ = _; rw [hn]
  obtain ⟨X, hX⟩ : ∃ X, X = boxed n (some ad) c w := ⟨_, rfl⟩
  rw [← hX] at hC c0 c1 c2 c3 z2 z3 hb
  have HEX := Lib.hid (show ∀ W, Below X.heap.size X W → Calls Tryd.prog 9 #[nodeV a B d] W fun e w' => e = .returned (.string S) ∧ Below X.heap.size X w' from fun W h =>
    (he B d W hl (Kd.C_below hC h)).mono (by rintro e w' ⟨rfl, h2⟩; exact ⟨by rw [hS], h.trans (h2.mono h.size)⟩))
  have HS := Lib.hid hS
  unfold nodeV at HEX
  rw [hX, hE] at HEX c0 c1 c2 c3 z2 z3 hb
  have HB := Lib.hid hb
  clear hb hr hC hk he hlen hS z9 z8 hX bk hE hpE
  unfold nodeV
  rw [hn]
  clear hn e hc
  go_enter Tryd.func9, Tryd.ntmps9
  go_wp2_with fail
  generalize (w.alloc (.cells #[.int .u8 n.f0, .int .i64 n.f1, .string n.f2, .slice (some ad) 1 c] 24)) = W0 at *
  have hrefl : Below W0.heap.size W0 W0 := Below.refl _ _
  have allS : ∀ W, Below W0.heap.size W0 W → (W.cell? ⟨w.heap.size, 2, none⟩ = some (.string n.f2) ∧ W.cell? ⟨w.heap.size, 3, none⟩ = some (.slice (some ad) 1 c) ∧
      W.cell? ad = some (.int .u8 a.f0) ∧ W.cell? ⟨ad.block, ad.off + 1, none⟩ = some (.int .i64 a.f1) ∧ W.cell? ⟨ad.block, ad.off + 2, none⟩ = some (.string a.f2) ∧ W.cell? ⟨ad.block, ad.off + 3, none⟩ = some (.slice B a.f3.length d)) := fun W h =>
    have k := fun {p : Addr} {v : Value} (z : W0.cell? p = some v) => (h.cell (World.block_lt_of_cell? W0 _ z)).trans z
    ⟨k z2, k z3, k c0, k c1, k c2, k c3⟩
  go_region_held3 (fun W => W.cell? ⟨w.heap.size, 2, none⟩ = some (.string n.f2) ∧ W.cell? ⟨w.heap.size, 3, none⟩ = some (.slice (some ad) 1 c) ∧
      W.cell? ad = some (.int .u8 a.f0) ∧ W.cell? ⟨ad.block, ad.off + 1, none⟩ = some (.int .i64 a.f1) ∧ W.cell? ⟨ad.block, ad.off + 2, none⟩ = some (.string a.f2) ∧ W.cell? ⟨ad.block, ad.off + 3, none⟩ = some (.slice B a.f3.length d))
    (first | exact allS _ (by assumption) | exact allS _ (below_drew1 (by assumption)))
    (first
      | (go_at_call 9; (with_reducible refine (HEX.out _ ?hbb).mono ?_); (case hbb => first | assumption | exact below_drew1 (by assumption)); rintro e w' ⟨rfl, hbw⟩))
  all_goals
    go_wp2
    go_ret
    refine ⟨?_, HB.out.trans (Below.mono (by assumption) HB.out.size)⟩
    rw [HR.out]
    show Ending.returned (Value.string _) = _
    congr 2
    all_goals exact bytes_eq (by rw [HS.out]; simp [ByteArray.data_append])

theorem lev_le (k : Int) : levOf k ≤ 11 ∧ (6 ≤ k → levOf k ≤ 10) := by
  have key : ∀ x ∈ opLevels, x ≤ 11 := by decide
  have key2 : ∀ x ∈ opLevels.drop 2, x ≤ 10 := by decide
  unfold levOf
  split
  · constructor
    · have : opLevels.getD (k - 4).toNat 0 ≤ 11 := by
        rw [List.getD_eq_getElem?_getD]
        cases h9 : opLevels[(k - 4).toNat]? with
        | none => simp
        | some x => exact key x (List.mem_of_getElem? h9)
      omega
    · intro h6
      have : opLevels.getD (k - 4).toNat 0 ≤ 10 := by
        obtain ⟨i, hi⟩ : ∃ i, (k - 4).toNat = 2 + i := ⟨(k - 4).toNat - 2, by omega⟩
        rw [hi, List.getD_eq_getElem?_getD, ← List.getElem?_drop]
        cases h9 : (opLevels.drop 2)[i]? with
        | none => simp
        | some x => exact key2 x (List.mem_of_getElem? h9)
      omega
  · omega
theorem wants_11 (a : Nd) : wants a 11 = M.binary a := by
  unfold wants
  cases h : M.binary a with
  | false => rfl
  | true =>
    have h6 : 6 ≤ a.f0 := by
      unfold M.binary at h
      simp only [Bool.and_eq_true, decide_eq_true_eq] at h
      exact h.1
    have := (lev_le a.f0).2 h6
    rw [decide_eq_true (by omega)]; rfl

set_option maxHeartbeats 16000000 in
set_option maxRecDepth 100000 in
theorem rexpr_unary (n a : Nd) (hk : n.f0 = 4 ∨ n.f0 = 5) (e : n.f3 = [a]) (he : RExC a) (hlen : (pE n).length ≤ 4611686018427387904) : RExC n := by
  intro A c w hc hr
  have hn : n.f3.length = 1 := by rw [e]; rfl
  have hb : Below w.heap.size w (boxed n A c w) := (Below.refl _ _).alloc (Nat.le_refl _) _
  have hpE : pE n = symOf n.f0 ++ paren (M.binary a) (pE a) := by
    have h11 : levOf n.f0 = 11 := by rcases hk with h | h <;> rw [h] <;> decide
    rw [pE_eq, if_neg (by omega), if_neg (by omega), if_neg (by omega), if_neg (by omega), e, h11, ← wants_11 a]; rfl
  have HR := Lib.hid hpE
  obtain ⟨ad, B, d, rfl, _, c0, c1, c2, c3, hl, hC⟩ := kid_one (Kd.C_below hr hb) e
  have hpl := paren_le (M.binary a) (pE a)
  rw [hpE] at hlen
  simp only [List.length_append] at hlen
  obtain ⟨S, hS⟩ : ∃ S : ByteArray, S = ⟨(pE a).toArray⟩ := ⟨_, rfl⟩
  obtain ⟨T, hT⟩ : ∃ T : ByteArray, T = ⟨(paren (M.binary a) (pE a)).toArray⟩ := ⟨_, rfl⟩
  have z9 : T.size = (paren (M.binary a) (pE a)).length := by rw [hT, Lib.size_eq]
  have z8 : S.size = (pE a).length := by rw [hS, Lib.size_eq]
  have g1 : (n.f0 == 1) = false := beq_eq_false_iff_ne.2 (by omega)
  have g2 : (n.f0 == 2) = false := beq_eq_false_iff_ne.2 (by omega)
  have g3 : (n.f0 == 3) = false := beq_eq_false_iff_ne.2 (by omega)
  have bk : (boxed n (some ad) c w).heap[w.heap.size]? = _ := heap_alloc_new w _
  have z0 : (boxed n (some ad) c w).cell? ⟨w.heap.size, 0, none⟩ = some (.int .u8 n.f0) := (blk_cell bk 0).trans rfl
  have z1 : (boxed n (some ad) c w).cell? ⟨w.heap.size, 1, none⟩ = some (.int .i64 n.f1) := (blk_cell bk 1).trans rfl
  have z2 : (boxed n (some ad) c w).cell? ⟨w.heap.size, 2, none⟩ = some (.string n.f2) := (blk_cell bk 2).trans rfl
  have z3 : (boxed n (some ad) c w).cell? ⟨w.heap.size, 3, none⟩ = some (.slice (some ad) 1 c) := by rw [← hn]; exact (blk_cell bk 3).trans rfl
  have hE : boxed n (some ad) c w = w.alloc (.cells #[.int .u8 n.f0, .int .i64 n.f1, .string n.f2, .slice (some ad) 1 c] 24) := by show World.alloc _ _ = _; rw [hn]
  have hC0 := Kd.C_below hr hb
  obtain ⟨X, hX⟩ : ∃ X, X = boxed n (some ad) c w := ⟨_, rfl⟩
  rw [← hX] at hC hC0 c0 c1 c2 c3 z0 z1 z2 z3 hb
  have HEX := Lib.hid (show ∀ W, Below X.heap.size X W → Calls Tryd.prog 9 #[nodeV a B d] W fun e w' => e = .returned (.string S) ∧ Below X.heap.size X w' from fun W h =>
    (he B d W hl (Kd.C_below hC h)).mono (by rintro e w' ⟨rfl, h2⟩; exact ⟨by rw [hS], h.trans (h2.mono h.size)⟩))
  have HBI := Lib.hid (show ∀ W, Below X.heap.size X W → Calls Tryd.prog 22 #[nodeV a B d] W fun e w' => e = .returned (.bool (M.binary a)) ∧ Below X.heap.size X w' from fun W h =>
    (refBinary_any a B d W hl (Kd.C_below hC h)).mono (by rintro e w' ⟨rfl, h2⟩; exact ⟨rfl, h.trans (h2.mono h.size)⟩))
  have HBN := Lib.hid (show ∀ W, Below X.heap.size X W → Calls Tryd.prog 22 #[nodeV n (some ad) c] W fun e w' => e = .returned (.bool false) ∧ Below X.heap.size X w' from fun W h =>
    (refBinary_any n (some ad) c W hc (Kd.C_below hC0 h)).mono (by
      rintro e w' ⟨rfl, h2⟩
      refine ⟨?_, h.trans (h2.mono h.size)⟩
      unfold M.binary
      rw [decide_eq_false (by omega : ¬ 6 ≤ n.f0)]; rfl))
  have HWR := Lib.hid (show ∀ W, Below X.heap.size X W → Calls Tryd.prog 23 #[.string S, .bool (M.binary a)] W fun e w' => e = .returned (.string T) ∧ Below X.heap.size X w' from fun W h =>
    (wrap_any S (M.binary a) (by omega) W).mono (by
      rintro e w' ⟨rfl, h2⟩
      refine ⟨?_, h.trans (h2.mono h.size)⟩
      rw [hT, hS]))
  obtain ⟨j, hj⟩ : ∃ j : Nat, n.f0 - 4 = (j : Int) := ⟨(n.f0 - 4).toNat, by omega⟩
  have hj20 : (j : Int) < 20 := by omega
  have hw : IntKind.u8.wrap (n.f0 - 4) = (j : Int) := by
    rw [hj]
    have e : IntKind.u8.wrap (j : Int) = (j : Int) % 256 := by first | rfl | (unfold IntKind.wrap; simp [IntKind.bits, IntKind.signed])
    rw [e]; omega
  obtain ⟨Y, hY⟩ : ∃ Y : ByteArray, Y = ⟨(symOf n.f0).toArray⟩ := ⟨_, rfl⟩
  have hYs : Y.size ≤ 2 := by
    rw [hY, Lib.size_eq]
    show (symOf n.f0).length ≤ 2
    unfold symOf
    have key : ∀ x ∈ opSymbols, x.length ≤ 2 := by decide
    split
    · rw [List.getD_eq_getElem?_getD]
      cases h9 : opSymbols[(n.f0 - 4).toNat]? with
      | none => simp
      | some x => exact key x (List.mem_of_getElem? h9)
    · simp
  have HSY := Lib.hid (show ∀ W : World, Below X.heap.size X W → W.heap.size = X.heap.size → Calls Tryd.prog 21 #[] W fun e w' => e = .returned (.slice (some ⟨X.heap.size, 0, none⟩) 20 20) ∧ w'.cell? ⟨X.heap.size, j, none⟩ = some (.string Y) ∧ Below X.heap.size X w' from fun W h hz =>
    (symbols_any W).mono (by
      rintro e w' ⟨rfl, h2, h3⟩
      rw [hz] at h2
      refine ⟨by rw [hz], ?_, h.trans (h3.mono h.size)⟩
      rw [Lib.cell_of_heap h2, hY]
      unfold symOf
      rw [if_pos (by omega), hj, Int.toNat_natCast]
      have : j < opSymbols.length := by simp [opSymbols]; omega
      simp [this, List.getD_eq_getElem?_getD]))
  have q1f : (9223372036854775807 < Y.size + T.size) = False := eq_false (by omega)
  have HS := Lib.hid (And.intro hT hY)
  unfold nodeV at HEX HBI HBN
  rw [hn] at HBN
  rw [hX, hE] at HEX HBI HBN HWR HSY c0 c1 c2 c3 z0 z1 z2 z3 hb
  have HB := Lib.hid hb
  generalize M.binary a = ba at *
  clear hb hr hC hC0 hk he hlen hS hT hY z9 z8 hX bk hE hpE hpl hYs hj
  unfold nodeV
  rw [hn]
  clear hn e hc
  go_enter Tryd.func9, Tryd.ntmps9
  go_wp2_with fail
  generalize (w.alloc (.cells #[.int .u8 n.f0, .int .i64 n.f1, .string n.f2, .slice (some ad) 1 c] 24)) = W0 at *
  have hrefl : Below W0.heap.size W0 W0 := Below.refl _ _
  have all0 : ∀ W, Below W0.heap.size W0 W → W.cell? ⟨w.heap.size, 0, none⟩ = some (.int .u8 n.f0) := fun W h => (h.cell (World.block_lt_of_cell? W0 _ z0)).trans z0
  have allS : ∀ W, Below W0.heap.size W0 W → (W.cell? ⟨w.heap.size, 0, none⟩ = some (.int .u8 n.f0) ∧ W.cell? ⟨w.heap.size, 1, none⟩ = some (.int .i64 n.f1) ∧ W.cell? ⟨w.heap.size, 2, none⟩ = some (.string n.f2) ∧ W.cell? ⟨w.heap.size, 3, none⟩ = some (.slice (some ad) 1 c) ∧
      W.cell? ad = some (.int .u8 a.f0) ∧ W.cell? ⟨ad.block, ad.off + 1, none⟩ = some (.int .i64 a.f1) ∧ W.cell? ⟨ad.block, ad.off + 2, none⟩ = some (.string a.f2) ∧ W.cell? ⟨ad.block, ad.off + 3, none⟩ = some (.slice B a.f3.length d)) := fun W h =>
    have k := fun {p : Addr} {v : Value} (z : W0.cell? p = some v) => (h.cell (World.block_lt_of_cell? W0 _ z)).trans z
    ⟨k z0, k z1, k z2, k z3, k c0, k c1, k c2, k c3⟩
  refine wp_region_held_drew (S := fun W => W.cell? ⟨w.heap.size, 0, none⟩ = some (.int .u8 n.f0)) (by kernel_rfl) (all0 _ (below_drew1 hrefl)) (fun hHeld => ?_)
  refine wpAnyH_take (i := 1) (v := ?v1) rfl (by kernel_rfl) (by kernel_rfl) (by kernel_rfl) (fun _ _ _ h => h) (Or.inl ⟨by rfl, ?hy1⟩) hHeld ?rest1
  case hy1 => (intro w hSw; (try dsimp only at hSw); go_simp; try with_reducible rfl)
  try simp only [List.getElem_toArray, List.getElem_cons_succ, List.getElem_cons_zero, Act.put, List.setIfInBounds_toArray, List.set_cons_zero, List.set_cons_succ]
  refine wpAnyH_take (i := 2) (v := ?v2) rfl (by kernel_rfl) (by kernel_rfl) (by kernel_rfl) (fun _ _ _ h => h) (Or.inl ⟨by rfl, ?hy2⟩) hHeld ?rest2
  case hy2 => (intro w hSw; (try dsimp only at hSw); go_simp; try with_reducible rfl)
  try simp only [List.getElem_toArray, List.getElem_cons_succ, List.getElem_cons_zero, Act.put, List.setIfInBounds_toArray, List.set_cons_zero, List.set_cons_succ]
  refine wpAnyH_take (i := 3) (v := ?v3) rfl (by kernel_rfl) (by kernel_rfl) (by kernel_rfl) (fun _ _ _ h => h) (Or.inl ⟨by rfl, ?hy3⟩) hHeld ?rest3
  case hy3 => (intro w hSw; (try dsimp only at hSw); go_simp; try with_reducible rfl)
  try simp only [List.getElem_toArray, List.getElem_cons_succ, List.getElem_cons_zero, Act.put, List.setIfInBounds_toArray, List.set_cons_zero, List.set_cons_succ]
  refine wpAnyH_ready (rs := [0]) (by kernel_rfl) (by simp) ?_
  refine AllReadyH.cons rfl (fun K hK => ?_) AllReadyH.nil
  go_simp
  go_at_call 21
  refine (HSY.out _ (below_drew1 hrefl) rfl).mono ?_
  rintro e W1 ⟨rfl, hcl, hb1⟩
  refine hK.out _ _ (all0 _ hb1) (fun hH2 => ?_)
  clear hK K
  try simp only [List.getElem_toArray, List.getElem_cons_succ, List.getElem_cons_zero, Act.put, List.setIfInBounds_toArray, List.set_cons_zero, List.set_cons_succ]
  refine wpAnyH_take (i := 4) (v := ?v4) rfl (by kernel_rfl) (by kernel_rfl) (by kernel_rfl) (fun _ _ _ h => h) (Or.inl ⟨by rfl, ?hy4⟩) hH2 ?rest4
  case hy4 => (intro w hSw; (try dsimp only at hSw); go_simp; try with_reducible rfl)
  try simp only [List.getElem_toArray, List.getElem_cons_succ, List.getElem_cons_zero, Act.put, List.setIfInBounds_toArray, List.set_cons_zero, List.set_cons_succ]
  refine wpAnyH_ready (rs := [5]) (by kernel_rfl) (by simp) ?_
  refine AllReadyH.cons rfl (fun K hK => ?_) AllReadyH.nil
  go_simp
  refine hK.out _ _ (all0 _ hb1) (fun hH3 => ?_)
  clear hK K
  try simp only [List.getElem_toArray, List.getElem_cons_succ, List.getElem_cons_zero, Act.put, List.setIfInBounds_toArray, List.set_cons_zero, List.set_cons_succ]
  refine wpAnyH_take (i := 6) (v := ?v5) rfl (by kernel_rfl) (by kernel_rfl) (by kernel_rfl) (fun _ _ _ h => h) (Or.inl ⟨by rfl, ?hy5⟩) hH3 ?rest5
  case hy5 => (intro w hSw; (try dsimp only at hSw); go_simp; try with_reducible rfl)
  try simp only [List.getElem_toArray, List.getElem_cons_succ, List.getElem_cons_zero, Act.put, List.setIfInBounds_toArray, List.set_cons_zero, List.set_cons_succ]
  refine wpAnyH_done (by kernel_rfl) ?_ _
  clear hHeld hH2 hH3 hcl
  have H1 := Lib.hid hb1
  have HAS := Lib.hid allS
  clear hb1 all0 hrefl z0 z1 z2 z3 c0 c1 c2 c3 allS hw hj20
  obtain ⟨y0, y1, y2, y3, y4, y5, y6, y7⟩ := HAS.out _ H1.out
  go_wp2_with fail
  refine (HBN.out _ H1.out).mono ?_
  rintro e W2 ⟨rfl, hb2⟩
  clear y0 y1 y2 y3 y4 y5 y6 y7
  go_wp2_with fail
  have allS := HAS.out
  go_region_held3 (fun W => W.cell? ⟨w.heap.size, 0, none⟩ = some (.int .u8 n.f0) ∧ W.cell? ⟨w.heap.size, 1, none⟩ = some (.int .i64 n.f1) ∧ W.cell? ⟨w.heap.size, 2, none⟩ = some (.string n.f2) ∧ W.cell? ⟨w.heap.size, 3, none⟩ = some (.slice (some ad) 1 c) ∧
      W.cell? ad = some (.int .u8 a.f0) ∧ W.cell? ⟨ad.block, ad.off + 1, none⟩ = some (.int .i64 a.f1) ∧ W.cell? ⟨ad.block, ad.off + 2, none⟩ = some (.string a.f2) ∧ W.cell? ⟨ad.block, ad.off + 3, none⟩ = some (.slice B a.f3.length d))
    (first | exact allS _ (by assumption) | exact allS _ (below_drew1 (by assumption)))
    (first
      | (go_at_call 9; (with_reducible refine (HEX.out _ ?hbb).mono ?_); (case hbb => first | assumption | exact below_drew1 (by assumption)); rintro e w' ⟨rfl, hbw⟩)
      | (go_at_call 22; (with_reducible refine (HBI.out _ ?hbb).mono ?_); (case hbb => first | assumption | exact below_drew1 (by assumption)); rintro e w' ⟨rfl, hbw⟩)
      | (go_at_call 23; (with_reducible refine (HWR.out _ ?hbb).mono ?_); (case hbb => first | assumption | exact below_drew1 (by assumption)); rintro e w' ⟨rfl, hbw⟩))
  all_goals
    go_wp2
    go_ret
    refine ⟨?_, HB.out.trans (Below.mono (by assumption) HB.out.size)⟩
    rw [HR.out]
    show Ending.returned (Value.string _) = _
    congr 2
    all_goals exact bytes_eq (by rw [HS.out.1, HS.out.2]; simp [ByteArray.data_append])

end Go.Proofs.YtlmmobfebjideaaDoor.P
