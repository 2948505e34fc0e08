/- Join, walked: the texts of tokens one after the other, by a strings.Builder. -/
import Derived.Test.YtjdljjjkmjhdnaaDoorGBuild
import Derived.Test.YtjdljjjkmjhdnaaDoorLexModel
namespace Go.Proofs.YtjdljjjkmjhdnaaDoor.P
open Go.RowKit Go.Proofs.YtjdljjjkmjhdnaaDoor Go.Proofs.YtjdljjjkmjhdnaaDoorW.PrintWords
set_option linter.unusedVariables false
set_option linter.unusedSimpArgs false

theorem isBuilder_below {T e : TypeId} {B b : Nat} {bs : List Value} {w W : World} (h : Lib.IsBuilder T e B b bs w) (hb : Below w.heap.size w W) : Lib.IsBuilder T e B b bs W := by
  rcases h with h | h
  · obtain ⟨h1, v, h2, h3, h4⟩ := h
    exact .inl ⟨h1, v, blk_below h2 hb, pw_own_below h3 hb, h4⟩
  · obtain ⟨h1, v, h2, h3, h4⟩ := h
    exact .inr ⟨h1, v, blk_below h2 hb, pw_own_below h3 hb, h4⟩

def joinB (l : List S33) : List UInt8 := (l.map fun t => t.f1.data.toList).flatten
theorem joinB_snoc (l : List S33) (k : Nat) (hk : k < l.length) : joinB (l.take (k + 1)) = joinB (l.take k) ++ (rd_T33 l (k : Int)).f1.data.toList := by
  have e : rd_T33 l (k : Int) = l[k] := by simp [rd_T33, List.getD_eq_getElem?_getD, List.getElem?_eq_getElem hk]
  rw [e]
  unfold joinB
  rw [List.take_succ_eq_append_getElem hk, List.map_append, List.flatten_append]
  simp
theorem joinB_take_le (l : List S33) (k : Nat) : (joinB (l.take k)).length ≤ (joinB l).length := by
  have h : joinB l = joinB (l.take k) ++ joinB (l.drop k) := by
    unfold joinB
    rw [← List.flatten_append, ← List.map_append, List.take_append_drop]
  rw [h, List.length_append]
  omega

def lexer_Join.f (l0 : List S33) : Option ByteArray := if (joinB l0).length ≤ 140737488355328 then some ⟨(joinB l0).toArray⟩ else none

set_option maxHeartbeats 4000000 in
theorem join_any (A0 : Option Addr) (c0 : Nat) (l0 : List S33) (w : World) (hr0 : Kd.C k33 w A0 l0.length l0) (hlen : (joinB l0).length ≤ 140737488355328) :
    Calls Tryd.prog 22 #[.slice A0 l0.length c0] w fun e w' => e = .returned (.string ⟨(joinB l0).toArray⟩) ∧ Below w.heap.size w w' := by
  have HR := Aside0.mk hr0
  have HL := Aside0.mk hlen
  have hmax : l0.length ≤ 9223372036854775807 := hr0.2.1
  clear hr0 hlen
  go_enter Tryd.func22, Tryd.ntmps22
  go_wp2
  go_loopw [8] (fun v8 wr => ∃ k : Nat, k ≤ l0.length ∧ v8 = .int .i64 k ∧ Aside0 (Lib.IsBuilder 53 5 w.heap.size w.heap.size (Lib.byteCells (joinB (l0.take k))) wr) ∧ Aside0 (Below w.heap.size w wr)) (fun v8 _ => l0.length - (intOf v8).toNat)
  case atStart => exact ⟨0, Nat.zero_le _, rfl, ⟨Lib.fresh_isBuilder _ _ w⟩, ⟨(Below.refl _ _).alloc (Nat.le_refl _) _⟩⟩
  case round =>
    obtain ⟨k, hk, rfl, HI, HB⟩ := hrel
    by_cases hlt : k < l0.length
    · obtain ⟨ad, e, hx0, hx1, hx2⟩ := at_T33 HR.out (k : Int) (by omega) (by omega)
      cases e
      replace hx0 := (HB.out.cell (World.block_lt_of_cell? w _ hx0)).trans hx0
      replace hx1 := (HB.out.cell (World.block_lt_of_cell? w _ hx1)).trans hx1
      replace hx2 := (HB.out.cell (World.block_lt_of_cell? w _ hx2)).trans hx2
      simp only [Int.toNat_natCast] at hx0 hx1 hx2
      have HS := Aside0.mk (joinB_snoc l0 k hlt)
      have HT := Aside0.mk (joinB_take_le l0 (k + 1))
      go_wp2_with fail
      refine (writeString_any w.heap.size w.heap.size (Lib.byteCells (joinB (l0.take k))) _ _ (isBuilder_below HI.out ((Below.refl _ _).alloc (Nat.le_refl _) _)) ?len ?siz).mono ?_
      case len =>
        have h1 := HS.out
        have h2 := HT.out
        have h3 := HL.out
        rw [h1, List.length_append] at h2
        rw [Lib.byteCells_length, Lib.size_eq]
        omega
      case siz => have := HB.out.size; simp; omega
      rintro e w2 ⟨rfl, hI2, hb2⟩
      have HI2 := Aside0.mk hI2
      have HB2 := Aside0.mk (HB.out.trans (((Below.refl _ wr).alloc HB.out.size _).trans hb2))
      clear hI2 hb2 HI hx0 hx1 hx2
      go_wp2_with fail
      go_roundw
      case rel =>
        refine ⟨k + 1, by omega, by go_num, ⟨.inr ?_⟩, HB2⟩
        have e : Lib.byteCells (joinB (l0.take (k + 1))) = Lib.byteCells (joinB (l0.take k)) ++ Lib.strCells (rd_T33 l0 (k : Int)).f1 := by
          rw [HS.out]
          simp [Lib.byteCells, Lib.strCells]
        rw [e]
        exact HI2.out
      case measure => simp [intOf]; omega
    · obtain rfl : k = l0.length := by omega
      have HI2 := Aside0.mk (show Lib.IsBuilder 53 5 w.heap.size w.heap.size (Lib.byteCells (joinB l0)) wr by have := HI.out; rwa [List.take_length] at this)
      clear HI
      go_wp2_with fail
      refine (Tryd.Builder_String_any w.heap.size w.heap.size (joinB l0) _ HI2.out HB.out.size).mono ?_
      rintro e w2 ⟨rfl, hb2⟩
      have HB2 := Aside0.mk (HB.out.trans hb2)
      clear hb2
      go_wp2_with fail
      go_ret
      exact ⟨rfl, HB2.out⟩

theorem lexer_Join.calls (A0 : Option Addr) (c0 : Nat) (l0 : List (S33)) (r : ByteArray) (w : World) (hr0 : Kd.C k33 w A0 l0.length l0) (hc0 : l0.length ≤ c0) (h : lexer_Join.f l0 = some r) :
    Calls Tryd.prog 22 #[.slice A0 l0.length c0] w fun e w' => e = .returned (.string r) ∧ Below w.heap.size w w' := by
  unfold lexer_Join.f at h
  by_cases h0 : (joinB l0).length ≤ 140737488355328
  · rw [if_pos h0] at h
    cases h
    exact join_any A0 c0 l0 w hr0 h0
  · rw [if_neg h0] at h; cases h

end Go.Proofs.YtjdljjjkmjhdnaaDoor.P
