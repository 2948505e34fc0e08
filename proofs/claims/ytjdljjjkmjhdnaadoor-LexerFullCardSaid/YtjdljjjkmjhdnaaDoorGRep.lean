/- strings.Repeat at a string of one byte, walked: a long one, or one of a byte that Go's table of repeated strings lacks. -/
import Derived.Test.YtjdljjjkmjhdnaaDoorGBuild
import Derived.Lib.Hide
import Derived.Lib.FrozenHead
namespace Go.Proofs.YtjdljjjkmjhdnaaDoor
open Go.RowKit
set_option linter.unusedVariables false
set_option linter.unusedSimpArgs false

theorem copyCheck_f (B b : Nat) (bs : List Value) (w : World) (h : Lib.IsBuilderF 53 5 B b bs w) :
    Calls Tryd.prog 48 #[.pointer (some ⟨b, 0, none⟩)] w fun e w' => e = .returned (.tuple #[]) ∧ (Lib.BuilderAtF 53 5 B b (.pointer (some ⟨b, 0, none⟩)) bs w' ∧ Below B w w') := by
  rcases h with h | h
  · refine (copyCheck_fresh b w h.cell0 h.shape h.frozen0).mono ?_
    rintro e w' ⟨rfl, rfl⟩
    exact ⟨rfl, h.used _, (Below.refl B w).setCell (p := ⟨b, 0, none⟩) h.1 _⟩
  · refine (copyCheck_used b w h.cell0).mono ?_
    rintro e w' ⟨rfl, rfl⟩
    exact ⟨rfl, h, Below.refl B _⟩

set_option maxHeartbeats 2000000 in
set_option maxRecDepth 100000 in
theorem writeString_f (B b : Nat) (bs : List Value) (s : ByteArray) (w : World) (h : Lib.IsBuilderF 53 5 B b bs w) (hlen : bs.length + s.size ≤ 140737488355328) (hBw : B ≤ w.heap.size) :
    Calls Tryd.prog 29 #[.pointer (some ⟨b, 0, none⟩), .string s] w fun e w' => e = .returned (.tuple #[.int .i64 s.size, .nilIface]) ∧ Lib.IsBuilderF 53 5 B b (bs ++ Lib.strCells s) w' ∧ Below B w w' := by
  obtain ⟨i0, hi, hz0, hz1, hz2⟩ := info_parts byte_info
  go_enter Tryd.func29, Tryd.ntmps29
  go_wp2_with fail
  refine (copyCheck_f B b bs _ h).mono ?_
  rintro e w1 ⟨rfl, h1, hb1⟩
  obtain ⟨hB, v, hbk, hown, hne⟩ := h1
  have c0 : w1.cell? ⟨b, 0, none⟩ = some (.pointer (some ⟨b, 0, none⟩)) := by rw [Lib.cell_of_heap hbk]; rfl
  have c1 : w1.cell? ⟨b, 1, none⟩ = some v := by rw [Lib.cell_of_heap hbk]; rfl
  go_wp2_with (at_builtin; refine Lib.wpList_append_own_stringF _ rfl _ _ 43 9 rfl B 5 i0 Tryd.underlying43 Tryd.underlying9 hi hz0 hz1 hz2 _ _ _ rfl hown s rfl ?c3 ?c4 ?c5 ?_)
  case c3 => unfold maxLen; omega
  case c4 => omega
  case c5 => have := hb1.size; omega
  intro v' w2 hown' hgrow _
  have hlt : b < w1.heap.size := by
    rcases Nat.lt_or_ge b w1.heap.size with h' | h'
    · exact h'
    · simp [Array.getElem?_eq_none h'] at hbk
  have hb2 : w2.heap[b]? = some (.cells #[.pointer (some ⟨b, 0, none⟩), v] 53 (0, 0)) := by
    rw [hgrow.block b hlt (fun e => hne e.symm)]
    exact hbk
  have d0 : w2.cell? ⟨b, 0, none⟩ = some (.pointer (some ⟨b, 0, none⟩)) := by rw [Lib.cell_of_heap hb2]; rfl
  have d1 : w2.cell? ⟨b, 1, none⟩ = some v := by rw [Lib.cell_of_heap hb2]; rfl
  have f1 : w2.frozen? ⟨b, 1, none⟩ = false := Lib.frozen_of_heap hb2 1
  obtain ⟨ao, n', cap, rfl⟩ : ∃ ao n' cap, v' = .slice ao n' cap := by
    rcases hown'.2 with ⟨hv, _⟩ | ⟨g, cap, cur, fz, hv, _⟩
    · exact ⟨_, _, _, hv⟩
    · exact ⟨_, _, _, hv⟩
  go_wp2
  go_ret2
  refine ⟨rfl, .inr ?_, ?_⟩
  · exact Lib.BuilderAtF.put (T := 53) (e := 5) hB hb2 (bs' := bs ++ Lib.strCells s) (by simpa [Lib.strCells_length] using hown') (by decide)
  · exact (hb1.grown hgrow (by have := hb1.size; omega) (fun k hk => (hown.lt k hk).1)).setCell (p := ⟨b, 1, none⟩) hB _

def one (b : UInt8) : ByteArray := ⟨#[b]⟩
theorem one_size (b : UInt8) : (one b).size = 1 := rfl
theorem min_three_runs {P : Program} {w : World} (ts : Array TypeId) (t : TypeId) (x y z r : Int) (h : r = min (min x y) z) : (Builtin.min_ ts t #[.int .i64 x, .int .i64 y, .int .i64 z]).run P w = .ok (.int .i64 r) w := by
  have e : (Builtin.min_ ts t #[.int .i64 x, .int .i64 y, .int .i64 z]).run P w = .ok (.int .i64 (if z < (if y < x then y else x) then z else (if y < x then y else x))) w := by simp [Builtin.min_, Builtin.min2]
  rw [e, h]
  congr 2
  omega

theorem pick (c q : Nat) (x : Int) (h1 : 1 ≤ q) (h2 : q < c) (h3 : 1 ≤ x) : ∃ m : Nat, 1 ≤ m ∧ m ≤ q ∧ q + m ≤ c ∧ ∀ (P : Program) (W : World) (ts : Array TypeId) (t : TypeId), (Builtin.min_ ts t #[.int .i64 ((c : Int) - (q : Int)), .int .i64 (q : Int), .int .i64 x]).run P W = .ok (.int .i64 (m : Int)) W := by
  refine ⟨(min (min ((c : Int) - q) q) x).toNat, by omega, by omega, by omega, fun P W ts t => min_three_runs ts t _ _ _ _ (by omega)⟩
theorem rep_take (b : UInt8) (q m : Nat) (h : m ≤ q) (S : ByteArray) (hS : (⟨(List.replicate q b).toArray⟩ : ByteArray) = S) : Lib.byteCells (List.replicate q b) ++ Lib.strCells (S.extract 0 m) = Lib.byteCells (List.replicate (q + m) b) := by
  rw [Lib.strCells_eq, ← Lib.byteCells_append, Lib.extract_data, ← hS]
  simp only [List.drop_zero, Nat.sub_zero, List.take_replicate, Nat.min_eq_left h, List.replicate_append_replicate]
theorem rep_size (b : UInt8) (q m : Nat) (h : m ≤ q) (S : ByteArray) (hS : (⟨(List.replicate q b).toArray⟩ : ByteArray) = S) : (S.extract 0 m).size = m := by
  rw [Lib.size_eq, Lib.extract_data, ← hS]
  simp only [List.drop_zero, Nat.sub_zero, List.take_replicate, Nat.min_eq_left h, List.length_replicate]
theorem rep_cells (b : UInt8) (q : Nat) : (Lib.byteCells (List.replicate q b)).length = q := by rw [Lib.byteCells_length, List.length_replicate]

set_option maxHeartbeats 8000000 in
set_option maxRecDepth 100000 in
theorem repeat_two (b : UInt8) (c : Nat) (w : World) (hc2 : 2 ≤ c) (hc : c ≤ 140737488355328) (hsc : (b = 32 ∧ 8192 < c) ∨ (b = 63 ∧ c ≤ 8192)) :
    Calls Tryd.prog 23 #[.string (one b), .int .i64 c] w fun e w' => e = .returned (.string ⟨(List.replicate c b).toArray⟩) ∧ Below w.heap.size w w' := by
  have hMul := Tryd.bits_Mul 1 c (by omega) (by omega) w
  rw [Nat.one_mul, Nat.div_eq_of_lt (by omega : c < 18446744073709551616), Nat.mod_eq_of_lt (by omega : c < 18446744073709551616)] at hMul
  have hs1 := one_size b
  have b0 : Below w.heap.size w (w.alloc (.cells #[.pointer none, .slice none 0 0] 53)) := (Below.refl _ w).alloc (Nat.le_refl _) _
  have cG := Tryd.Builder_Grow_fresh w.heap.size w.heap.size c (w.alloc (.cells #[.pointer none, .slice none 0 0] 53)) (Nat.le_refl _) (heap_alloc_new w _) b0.size (by omega)
  rcases hsc with ⟨hb, h8⟩ | ⟨hb, h8⟩
  all_goals
    first
    | have i0 : ((one b)[0].toNat : Int) = 32 := by rw [hb]; rfl
    | have i0 : ((one b)[0].toNat : Int) = 63 := by rw [hb]; rfl
    have hGr := Lib.hid cG
    clear cG hb
    go_enter Tryd.func23, Tryd.ntmps23
    go_wp2_with (first | (go_at_call 31; refine (hMul).mono ?_; rintro e w' ⟨rfl, rfl⟩) | fail)
    clear hMul
    refine hGr.out.mono ?_
    clear hGr
    rintro e W1 ⟨rfl, h1, b1⟩
    have cW := writeString_f w'.heap.size w'.heap.size [] (one b) W1 (Lib.IsBuilderF.of (Or.inr h1)) (by simp [one_size]) (Nat.le_trans b0.size b1.size)
    go_wp2_with fail
    refine cW.mono ?_
    clear cW h1
    rintro e W2 ⟨rfl, h2, b2⟩
    have HB2 := Lib.hid (b0.trans (b1.trans b2))
    have H2 := Lib.hid (show Lib.IsBuilderF 53 5 w'.heap.size w'.heap.size (Lib.byteCells (List.replicate 1 b)) W2 from h2)
    clear h2 b0 b1 b2
    go_wp2_with fail
    go_loopg [] (c - 1) (fun g wx => ∃ q : Nat, 1 ≤ q ∧ q + g = c ∧ Hid (Lib.IsBuilderF 53 5 w'.heap.size w'.heap.size (Lib.byteCells (List.replicate q b)) wx) ∧ Hid (Below w'.heap.size w' wx))
    case atStart => exact ⟨1, Nat.le_refl _, by omega, H2, HB2⟩
    case round =>
      clear H2 HB2
      obtain ⟨q, hq1, hqg, HB, HX⟩ := hrel
      have cLen := Tryd.Builder_Len_f w'.heap.size w'.heap.size _ wr HB.out
      rw [rep_cells] at cLen
      have cStr := Lib.hid (Tryd.Builder_String_any_f w'.heap.size w'.heap.size (List.replicate q b) wr HB.out HX.out.size)
      have hSz : (⟨(List.replicate q b).toArray⟩ : ByteArray).size = q := by rw [Lib.size_eq]; simp
      cases gk with
      | zero =>
        obtain rfl : q = c := by omega
        go_wp2_with (first | (go_at_call 34; refine cLen.mono ?_; rintro e w2 ⟨rfl, rfl⟩) | (go_at_call 30; refine cStr.out.mono ?_; rintro e W3 ⟨rfl, h3, b3⟩))
        go_ret
        exact ⟨rfl, HX.out.trans b3⟩
      | succ g =>
        have hqc : (q : Int) < (c : Int) := by omega
        generalize hS : (⟨(List.replicate q b).toArray⟩ : ByteArray) = S at hSz cStr
        first
        | (have hx : 8192 < c := h8
           obtain ⟨m, hm1, hm2, hm3, hmin⟩ := pick c q 8192 hq1 (by omega) (by omega))
        | obtain ⟨m, hm1, hm2, hm3, hmin⟩ := pick c q (c : Int) hq1 (by omega) (by omega)
        have hrun := fun ts t W => hmin Tryd.prog W ts t
        have HT := Lib.hid (rep_take b q m hm2 S hS)
        have HZ := Lib.hid (rep_size b q m hm2 S hS)
        clear hmin hS
        go_wp2_with (first | (go_at_call 34; refine cLen.mono ?_; rintro e w2 ⟨rfl, rfl⟩) | (go_at_call 30; refine cStr.out.mono ?_; rintro e W3 ⟨rfl, h3, b3⟩))
        refine (writeString_f w'.heap.size w'.heap.size _ (S.extract 0 m) W3 h3 (by rw [rep_cells, HZ.out]; omega) (Nat.le_trans HX.out.size b3.size)).mono ?_
        rintro e W4 ⟨rfl, h4, b4⟩
        have H4 := Lib.hid (show Lib.IsBuilderF 53 5 w'.heap.size w'.heap.size (Lib.byteCells (List.replicate (q + m) b)) W4 by rw [← HT.out]; exact h4)
        have HX4 := Lib.hid (HX.out.trans (b3.trans b4))
        clear h3 h4 b3 b4 HT HZ HB cLen cStr
        go_wp2_with fail
        go_roundg (c - (q + m))
        case measure => omega
        case rel => exact ⟨q + m, by omega, by omega, H4, HX4⟩

set_option maxHeartbeats 4000000 in
set_option maxRecDepth 100000 in
theorem repeat_zero (s : ByteArray) (w : World) : Calls Tryd.prog 23 #[.string s, .int .i64 0] w fun e w' => e = .returned (.string ⟨#[]⟩) ∧ Below w.heap.size w w' := by
  go_enter Tryd.func23, Tryd.ntmps23
  go_wp2
  go_ret
  exact ⟨rfl, Below.refl _ _⟩

set_option maxHeartbeats 4000000 in
set_option maxRecDepth 100000 in
theorem repeat_one (s : ByteArray) (w : World) : Calls Tryd.prog 23 #[.string s, .int .i64 1] w fun e w' => e = .returned (.string s) ∧ Below w.heap.size w w' := by
  go_enter Tryd.func23, Tryd.ntmps23
  go_wp2
  go_ret
  exact ⟨rfl, Below.refl _ _⟩

namespace P
/-- One byte, over and over; asked for the bytes and the numbers that the walk covers. -/
def strings_Repeat.f (a0 : ByteArray) (a1 : Int) : Option ByteArray :=
  if a1 = 0 then some ⟨#[]⟩ else if a1 = 1 then some a0
  else if 2 ≤ a1 ∧ a1 ≤ 140737488355328 ∧ a0.data.toList.length = 1 ∧ ((a0.data.toList = [32] ∧ 8192 < a1) ∨ (a0.data.toList = [63] ∧ a1 ≤ 8192)) then some ⟨(List.replicate a1.toNat (a0.data.toList.headD 0)).toArray⟩ else none
theorem strings_Repeat.calls (a0 : ByteArray) (a1 : Int) (r : ByteArray) (w : World) (h : strings_Repeat.f a0 a1 = some r) :
    Calls Tryd.prog 23 #[.string a0, .int .i64 a1] w fun e w' => e = .returned (.string r) ∧ Below w.heap.size w w' := by
  unfold strings_Repeat.f at h
  by_cases h0 : a1 = 0
  · rw [if_pos h0] at h
    cases h
    subst h0
    exact repeat_zero a0 w
  rw [if_neg h0] at h
  by_cases h1 : a1 = 1
  · rw [if_pos h1] at h
    cases h
    subst h1
    exact repeat_one a0 w
  rw [if_neg h1] at h
  split at h
  · rename_i hc
    obtain ⟨h2, h3, h4, h5⟩ := hc
    cases h
    obtain ⟨c, rfl⟩ : ∃ c : Nat, a1 = (c : Int) := ⟨a1.toNat, by omega⟩
    obtain ⟨b, hb⟩ : ∃ b, a0.data.toList = [b] := by
      match hl : a0.data.toList, h4 with
      | [b], _ => exact ⟨b, rfl⟩
    have e : a0 = one b := by
      obtain ⟨⟨l⟩⟩ := a0
      simp only at hb
      rw [hb]
      rfl
    have e1 : (a0.data.toList.headD 0) = b := by rw [hb]; rfl
    rw [e1, Int.toNat_natCast]
    rw [hb] at h5
    subst e
    refine repeat_two b c w (by omega) (by omega) ?_
    rcases h5 with ⟨h6, h7⟩ | ⟨h6, h7⟩
    · injection h6 with h6
      exact .inl ⟨h6, by omega⟩
    · injection h6 with h6
      exact .inr ⟨h6, by omega⟩
  · cases h
end P

end Go.Proofs.YtjdljjjkmjhdnaaDoor
