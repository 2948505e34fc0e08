/- Part 5 of the texts that the laws of this seat share, joined. -/
import Derived.Test.YtlmmobfebjideaaDoorS4
import Derived.Deep.RegionHeld3
import Derived.Lib.Hide
import Derived.Lib.Itoa
import Derived.MapKept
import Derived.Lib.AppendIntMem
import Derived.Deep.DrawnRows

/- The writers of printer.out (its strings.Builder is its first field: a block of three cells), and its lines. -/
namespace Go.Proofs.YtlmmobfebjideaaDoor
open Go.RowKit Go.Proofs.YtlmmobfebjideaaDoorW.PrintWords
set_option linter.unusedVariables false
set_option linter.unusedSimpArgs false

theorem out_lies : liesAt Tryd.prog Tryd.prog.depth 55 (3 / Tryd.prog.cellsOf 55) 0 53 1 = true := by kernel_rfl
theorem byte_cells : Tryd.prog.cellsOf 5 = 1 := by kernel_rfl

def OutAt (B b : Nat) (p : Value) (bs : List Value) (d : Int) (w : World) : Prop :=
  B ≤ b ∧ ∃ v, w.heap[b]? = some (.cells #[p, v, .int .i64 d] 55 (0, 0)) ∧ w.ownsRow B 5 1 v bs.length bs ∧ v.ownBlock ≠ some b ∧ (v = .slice none 0 0 ↔ bs.length = 0)
def IsOut (B b : Nat) (bs : List Value) (d : Int) (w : World) : Prop :=
  OutAt B b (.pointer none) bs d w ∨ OutAt B b (.pointer (some ⟨b, 0, none⟩)) bs d w
/-- Everything but block b and the rows of bytes is as it was. -/
structure OS (b : Nat) (w w' : World) : Prop where
  size : w.heap.size ≤ w'.heap.size
  block : ∀ k, k < w.heap.size → k ≠ b → (∀ cs fr, w.heap[k]? ≠ some (.cells cs 5 fr)) → w'.heap[k]? = w.heap[k]?
theorem OS.refl (b : Nat) (w : World) : OS b w w := ⟨Nat.le_refl _, fun _ _ _ _ => rfl⟩
theorem OS.trans {b : Nat} {x y z : World} (h : OS b x y) (k : OS b y z) : OS b x z :=
  ⟨Nat.le_trans h.size k.size, fun i hi hb hn => by
    have e := h.block i hi hb hn
    rw [k.block i (Nat.lt_of_lt_of_le hi h.size) hb (by rw [e]; exact hn), e]⟩
theorem OS.of {b : Nat} {w w' : World} (h : Below w.heap.size w w') : OS b w w' := ⟨h.size, fun k hk _ _ => h.block k hk⟩
theorem OS.box {b : Nat} {w w' : World} (h : OS b w w') {k : Nat} {cs : Array Value} {T : TypeId} {fr : Nat × Nat} (hT : T ≠ 5) (hk : k ≠ b) (e : w.heap[k]? = some (.cells cs T fr)) : w'.heap[k]? = some (.cells cs T fr) := by
  have hlt : k < w.heap.size := (Array.getElem?_eq_some_iff.1 e).1
  rw [h.block k hlt hk (by intro cs2 fr2 h2; rw [e] at h2; injection h2 with h2; injection h2 with _ h3 _; exact hT h3), e]

theorem OutAt.cell0 {B b : Nat} {p : Value} {bs : List Value} {d : Int} {w : World} (h : OutAt B b p bs d w) : w.cell? ⟨b, 0, none⟩ = some p := by
  obtain ⟨_, v, hb, _⟩ := h
  simp [World.cell?, hb]
theorem OutAt.shape {B b : Nat} {p : Value} {bs : List Value} {d : Int} {w : World} (h : OutAt B b p bs d w) : w.shape? b = some (55, 3) := by
  obtain ⟨_, v, hb, _⟩ := h
  simp [World.shape?, hb]
theorem OutAt.frozen0 {B b : Nat} {p : Value} {bs : List Value} {d : Int} {w : World} (h : OutAt B b p bs d w) : w.frozen? ⟨b, 0, none⟩ = false := by
  obtain ⟨_, v, hb, _⟩ := h
  simp [World.frozen?, hb]
theorem OutAt.lt {B b : Nat} {p : Value} {bs : List Value} {d : Int} {w : World} (h : OutAt B b p bs d w) : b < w.heap.size := by
  obtain ⟨_, v, hb, _⟩ := h
  exact (Array.getElem?_eq_some_iff.1 hb).1
theorem OutAt.used {B b : Nat} {p : Value} {bs : List Value} {d : Int} {w : World} (h : OutAt B b p bs d w) (q : Value) : OutAt B b q bs d (w.setCell ⟨b, 0, none⟩ q) := by
  obtain ⟨hB, v, hb, hown, hne, hnil⟩ := h
  refine ⟨hB, v, ?_, ?_, hne, hnil⟩
  · simp [World.setCell, Array.getElem?_modify, hb]
  · exact hown.kept (row := some b) ⟨rfl, rfl, rfl, by simp [World.setCell], fun k _ hk => Below.heap_setCell _ _ _ _ (fun e => hk (by simp [e]))⟩ (Or.inr hne)
theorem OutAt.put {B b : Nat} {p v v' : Value} {bs' : List Value} {d : Int} {w : World} (hB : B ≤ b) (hb : w.heap[b]? = some (.cells #[p, v, .int .i64 d] 55 (0, 0))) (hown : w.ownsRow B 5 1 v' bs'.length bs') (hnil : v' = .slice none 0 0 ↔ bs'.length = 0) :
    OutAt B b p bs' d (w.setCell ⟨b, 1, none⟩ v') := by
  have hne := Lib.ownBlock_ne hown hb (by decide)
  refine ⟨hB, v', ?_, ?_, hne, hnil⟩
  · simp [World.setCell, Array.getElem?_modify, hb]
  · exact hown.kept (row := some b) ⟨rfl, rfl, rfl, by simp [World.setCell], fun k _ hk => Below.heap_setCell _ _ _ _ (fun e => hk (by simp [e]))⟩ (Or.inr hne)
theorem OutAt.depth {B b : Nat} {p : Value} {bs : List Value} {d : Int} {w : World} (h : OutAt B b p bs d w) (x : Int) : OutAt B b p bs x (w.setCell ⟨b, 2, none⟩ (.int .i64 x)) := by
  obtain ⟨hB, v, hb, hown, hne, hnil⟩ := h
  refine ⟨hB, v, ?_, ?_, hne, hnil⟩
  · simp [World.setCell, Array.getElem?_modify, hb]
  · exact hown.kept (row := some b) ⟨rfl, rfl, rfl, by simp [World.setCell], fun k _ hk => Below.heap_setCell _ _ _ _ (fun e => hk (by simp [e]))⟩ (Or.inr hne)
theorem os_set {b : Nat} {w : World} (j : Nat) (u : Value) : OS b w (w.setCell ⟨b, j, none⟩ u) :=
  ⟨by simp [World.setCell], fun k _ hk _ => Below.heap_setCell _ _ _ _ hk⟩
/-- An out stays what it is where nothing of what is there is written to. -/
theorem OutAt.below {B b : Nat} {p : Value} {bs : List Value} {d : Int} {w w' : World} (h : OutAt B b p bs d w) (hb : Below w.heap.size w w') : OutAt B b p bs d w' := by
  obtain ⟨hB, v, hbk, hown, hne, hnil⟩ := h
  have hlt : b < w.heap.size := (Array.getElem?_eq_some_iff.1 hbk).1
  refine ⟨hB, v, (hb.block b hlt).trans hbk, ?_, hne, hnil⟩
  obtain ⟨h1, h2⟩ := hown
  refine ⟨h1, ?_⟩
  rcases h2 with h2 | ⟨g, cap, cur, hv, hg, hh, r⟩
  · exact .inl h2
  · exact .inr ⟨g, cap, cur, hv, hg, (hb.block g (Array.getElem?_eq_some_iff.1 hh).1).trans hh, r⟩
theorem IsOut.below {B b : Nat} {bs : List Value} {d : Int} {w w' : World} (h : IsOut B b bs d w) (hb : Below w.heap.size w w') : IsOut B b bs d w' :=
  h.elim (fun x => .inl (x.below hb)) (fun x => .inr (x.below hb))
theorem IsOut.lt {B b : Nat} {bs : List Value} {d : Int} {w : World} (h : IsOut B b bs d w) : b < w.heap.size := h.elim (·.lt) (·.lt)
theorem IsOut.le {B b : Nat} {bs : List Value} {d : Int} {w : World} (h : IsOut B b bs d w) : B ≤ b := h.elim (·.1) (·.1)

set_option maxHeartbeats 1000000 in
set_option maxRecDepth 100000 in
theorem copyCheck_fresh_o (b : Nat) (w : World) (h0 : w.cell? ⟨b, 0, none⟩ = some (.pointer none)) (hsh : w.shape? b = some (55, 3)) (hfz : w.frozen? ⟨b, 0, none⟩ = false) :
    Calls Tryd.prog 72 #[.pointer (some ⟨b, 0, none⟩)] w fun e w' => e = .returned (.tuple #[]) ∧ w' = w.setCell ⟨b, 0, none⟩ (.pointer (some ⟨b, 0, none⟩)) := by
  obtain ⟨j, hj, hjs⟩ := Option.map_eq_some_iff.1 builder_size
  go_enter Tryd.func72, Tryd.ntmps72
  go_wp2
  rw [Lib.run_to_unsafe w ⟨b, 0, none⟩ Tryd.underlying50 Tryd.underlying121 hj (by rw [hjs]; decide) hsh (Nat.zero_lt_succ 2)]
  simp only [Result.andThen]
  rw [Oper.upon_value]
  go_wp2
  rw [run_callFunc_extern Tryd.func83 (by kernel_rfl) (by kernel_rfl) (by kernel_rfl) (e := Extern.AbiNoEscape.same) (by kernel_rfl)]
  rw [Lib.run_noEscape]
  simp only [Result.andThen]
  rw [Oper.upon_value]
  go_wp2
  rw [Lib.run_from_unsafe w ⟨b, 0, none⟩ Tryd.underlying121 Tryd.underlying50 hj hsh out_lies]
  simp only [Result.andThen]
  rw [Oper.upon_value]
  go_wp2
  go_end0
  exact ⟨rfl, rfl⟩

theorem copyCheck_o (B b : Nat) (bs : List Value) (d : Int) (w : World) (h : IsOut B b bs d w) :
    Calls Tryd.prog 72 #[.pointer (some ⟨b, 0, none⟩)] w fun e w' => e = .returned (.tuple #[]) ∧ OutAt B b (.pointer (some ⟨b, 0, none⟩)) bs d w' ∧ Below B w w' ∧ OS b w w' := by
  rcases h with h | h
  · refine (copyCheck_fresh_o b w h.cell0 h.shape h.frozen0).mono ?_
    rintro e w' ⟨rfl, rfl⟩
    exact ⟨rfl, h.used _, (Below.refl B w).setCell (p := ⟨b, 0, none⟩) h.1 _, os_set _ _⟩
  · refine (copyCheck_used b w h.cell0).mono ?_
    rintro e w' ⟨rfl, rfl⟩
    exact ⟨rfl, h, Below.refl B _, OS.refl _ _⟩

/-- What grows the buffer leaves all but bytes. -/
theorem os_grown {B b : Nat} {v : Value} {n : Nat} {xs : List Value} {w w' : World} (hown : w.ownsRow B 5 1 v n xs) (hg : w.grownBy w' v.ownBlock) : OS b w w' :=
  ⟨hg.size, fun k hk _ hn => hg.block k hk (fun e => by
    rcases hown.2 with ⟨hv, _⟩ | ⟨g, cap, cur, hv, _, hh, _⟩
    · rw [hv] at e; cases e
    · rw [hv] at e
      have e2 : k = g := Option.some.inj e
      subst e2
      exact hn _ _ hh)⟩

set_option maxHeartbeats 2000000 in
set_option maxRecDepth 100000 in
theorem writeString_o (B b : Nat) (bs : List Value) (d : Int) (s : ByteArray) (w : World) (h : IsOut B b bs d w) (hlen : bs.length + s.size ≤ 140737488355328) (hBw : B ≤ w.heap.size) :
    Calls Tryd.prog 61 #[.pointer (some ⟨b, 0, none⟩), .string s] w fun e w' => e = .returned (.tuple #[.int .i64 s.size, .nilIface]) ∧ IsOut B b (bs ++ Lib.strCells s) d w' ∧ Below B w w' ∧ OS b w w' := by
  obtain ⟨i0, hi, hz0, hz1, hz2⟩ := info_parts byte_info
  go_enter Tryd.func61, Tryd.ntmps61
  go_wp2_with fail
  refine (copyCheck_o B b bs d _ h).mono ?_
  rintro e w1 ⟨rfl, h1, hb1, ho1⟩
  obtain ⟨hB, v, hbk, hown, hne, hnil⟩ := h1
  have HO1 := Aside0.mk ho1
  have HOG := fun w' (hg : w1.grownBy w' v.ownBlock) => os_grown (b := b) hown hg
  have HNIL := Aside0.mk hnil
  clear ho1 hnil
  have c0 : w1.cell? ⟨b, 0, none⟩ = some (.pointer (some ⟨b, 0, none⟩)) := by rw [Lib.cell_of_heap hbk]; rfl
  have c1 : w1.cell? ⟨b, 1, none⟩ = some v := by rw [Lib.cell_of_heap hbk]; rfl
  go_wp2_with (at_builtin; refine Lib.wpList_append_own_string _ rfl _ _ 51 9 rfl B 5 i0 Tryd.underlying51 Tryd.underlying9 hi hz0 hz1 hz2 _ _ _ rfl hown s rfl ?c3 ?c4 ?c5 ?_)
  case c3 => unfold maxLen; omega
  case c4 => omega
  case c5 => have := hb1.size; omega
  intro v' w2 hown' hgrow hnil'
  have HO2 := Aside0.mk (HOG w2 hgrow)
  have HNIL2 := Aside0.mk hnil'
  clear HOG hnil'
  have hlt : b < w1.heap.size := by
    rcases Nat.lt_or_ge b w1.heap.size with h' | h'
    · exact h'
    · simp [Array.getElem?_eq_none h'] at hbk
  have hb2 : w2.heap[b]? = some (.cells #[.pointer (some ⟨b, 0, none⟩), v, .int .i64 d] 55 (0, 0)) := by
    rw [hgrow.block b hlt (fun e => hne e.symm)]
    exact hbk
  have d0 : w2.cell? ⟨b, 0, none⟩ = some (.pointer (some ⟨b, 0, none⟩)) := by rw [Lib.cell_of_heap hb2]; rfl
  have d1 : w2.cell? ⟨b, 1, none⟩ = some v := by rw [Lib.cell_of_heap hb2]; rfl
  have f1 : w2.frozen? ⟨b, 1, none⟩ = false := Lib.frozen_of_heap hb2 1
  obtain ⟨ao, n', cap, rfl⟩ : ∃ ao n' cap, v' = .slice ao n' cap := by
    rcases hown'.2 with ⟨hv, _⟩ | ⟨g, cap, cur, hv, _⟩
    · exact ⟨_, _, _, hv⟩
    · exact ⟨_, _, _, hv⟩
  go_wp2
  go_ret2
  refine ⟨rfl, .inr ?_, ?_, ?_⟩
  · refine OutAt.put hB hb2 (bs' := bs ++ Lib.strCells s) (by simpa [Lib.strCells_length] using hown') ?_
    have h1 := HNIL2.out
    have h2 := HNIL.out
    rw [List.length_append, Lib.strCells_length]
    constructor
    · intro h3
      obtain ⟨h4, h5⟩ := h1.1 h3
      have := h2.1 h4
      rw [h5, this]; rfl
    · intro h3
      have h0 : s.size = 0 := by omega
      refine h1.2 ⟨h2.2 (by omega), ?_⟩
      obtain ⟨⟨l⟩⟩ := s
      have : l.length = 0 := h0
      rw [List.eq_nil_of_length_eq_zero this]; rfl
  · exact (hb1.grown hgrow (by have := hb1.size; omega) (fun k hk => (hown.lt k hk).1)).setCell (p := ⟨b, 1, none⟩) hB _
  · exact (HO1.out.trans HO2.out).trans (os_set _ _)

set_option maxHeartbeats 2000000 in
set_option maxRecDepth 100000 in
theorem writeByte_o (B b : Nat) (bs : List Value) (d : Int) (c : Int) (w : World) (h : IsOut B b bs d w) (hlen : bs.length + 1 ≤ 140737488355328) (hBw : B ≤ w.heap.size) :
    Calls Tryd.prog 63 #[.pointer (some ⟨b, 0, none⟩), .int .u8 c] w fun e w' => e = .returned .nilIface ∧ IsOut B b (bs ++ [.int .u8 c]) d w' ∧ Below B w w' ∧ OS b w w' := by
  obtain ⟨i0, hi, hz0, hz1, hz2⟩ := info_parts byte_info
  go_enter Tryd.func63, Tryd.ntmps63
  go_wp2_with fail
  refine (copyCheck_o B b bs d _ h).mono ?_
  rintro e w1 ⟨rfl, h1, hb1, ho1⟩
  obtain ⟨hB, v, hbk, hown, hne, hnil⟩ := h1
  have HO1 := Aside0.mk ho1
  have HOA : OS b w1 (w1.alloc (.cells #[.int .u8 c] 5)) := OS.of ((Below.refl _ _).alloc (Nat.le_refl _) _)
  have HOG := fun w' (hg : (w1.alloc (.cells #[.int .u8 c] 5)).grownBy w' v.ownBlock) => HOA.trans (os_grown (b := b) (hown.alloc (.cells #[.int .u8 c] 5)) hg)
  have HNIL := Aside0.mk hnil
  clear ho1 hnil HOA
  have c0 : w1.cell? ⟨b, 0, none⟩ = some (.pointer (some ⟨b, 0, none⟩)) := by rw [Lib.cell_of_heap hbk]; rfl
  have c1 : w1.cell? ⟨b, 1, none⟩ = some v := by rw [Lib.cell_of_heap hbk]; rfl
  go_wp2_with (at_builtin; refine wpList_append_own _ rfl _ _ 51 rfl B 5 i0 (.int .u8 0) 1 1 Tryd.underlying51 hi hz0 hz1 hz2 rfl (by decide) _ _ _ rfl (hown.alloc _) ⟨w1.heap.size, 0, none⟩ 1 1 [.int .u8 c] rfl rfl ?c1 ?c2 ?c3 ?c4 ?c5 ?_)
  case c1 =>
    intro j u hj
    match j, hj with
    | 0, hj => simp at hj; subst hj; simp [Addr.add]
  case c2 => intro u hu; simp at hu; subst hu; rfl
  case c3 => unfold maxLen; omega
  case c4 => omega
  case c5 => have := hb1.size; simp; omega
  intro v' w2 hown' hgrow hnil'
  have HO2 := Aside0.mk (HOG w2 hgrow)
  clear HOG
  have hlt : b < w1.heap.size := by
    rcases Nat.lt_or_ge b w1.heap.size with h' | h'
    · exact h'
    · simp [Array.getElem?_eq_none h'] at hbk
  have hb2 : w2.heap[b]? = some (.cells #[.pointer (some ⟨b, 0, none⟩), v, .int .i64 d] 55 (0, 0)) := by
    rw [hgrow.block b (by simp; omega) (fun e => hne e.symm), Lib.alloc_old w1 _ b hlt]
    exact hbk
  have d0 : w2.cell? ⟨b, 0, none⟩ = some (.pointer (some ⟨b, 0, none⟩)) := by rw [Lib.cell_of_heap hb2]; rfl
  have d1 : w2.cell? ⟨b, 1, none⟩ = some v := by rw [Lib.cell_of_heap hb2]; rfl
  have f1 : w2.frozen? ⟨b, 1, none⟩ = false := Lib.frozen_of_heap hb2 1
  obtain ⟨g, cap, rfl⟩ : ∃ g cap, v' = .slice (some ⟨g, 0, none⟩) (bs.length + 1) cap := by
    rcases hown'.2 with ⟨_, h0⟩ | ⟨g, cap, cur, hv, _⟩
    · omega
    · exact ⟨g, cap, hv⟩
  clear hnil'
  go_wp2
  go_ret
  refine ⟨rfl, .inr ?_, ?_, ?_⟩
  · exact OutAt.put hB hb2 (bs' := bs ++ [.int .u8 c]) (by simpa using hown') (by simp)
  · exact ((hb1.alloc (by have := hb1.size; omega) _).grown hgrow (by have := hb1.size; simp; omega) (fun k hk => (hown.lt k hk).1)).setCell (p := ⟨b, 1, none⟩) hB _
  · exact (HO1.out.trans HO2.out).trans (os_set _ _)


set_option maxHeartbeats 2000000 in
set_option maxRecDepth 100000 in
theorem string_nil_o (B b : Nat) (p : Value) (d : Int) (w : World) (hbk : w.heap[b]? = some (.cells #[p, .slice none 0 0, .int .i64 d] 55 (0, 0))) :
    Calls Tryd.prog 26 #[.pointer (some ⟨b, 0, none⟩)] w fun e w' => e = .returned (.string ⟨#[]⟩) ∧ Below B w w' := by
  have hUS : ∀ (W : World) (q : Option Addr), (Builtin.unsafeString_ #[70, 3] 9 #[.pointer q, .int .i64 0]).run Tryd.prog W = .ok (.string .empty) W := fun W q => Lib.run_unsafeString_none W _ _ _ q
  have c1 : w.drew.cell? ⟨b, 1, none⟩ = some (.slice none 0 0) := by
    have : w.drew.heap[b]? = some (.cells #[p, .slice none 0 0, .int .i64 d] 55 (0, 0)) := hbk
    rw [Lib.cell_of_heap this]; rfl
  have hSD : (Builtin.unsafeSliceData_ #[51] 70 #[.slice none 0 0]).run Tryd.prog w.drew = .ok (.pointer none) w.drew := rfl
  have mixed : Tryd.prog.follows Departure.mixedOrders = true := by kernel_rfl
  go_enter Tryd.func26, Tryd.ntmps26
  go_wp2
  go_region_o
  all_goals (go_wp2; go_ret; exact ⟨rfl, Below.drew (Below.refl B w)⟩)

set_option maxHeartbeats 2000000 in
set_option maxRecDepth 100000 in
theorem string_o (B b : Nat) (l : List UInt8) (d : Int) (w : World) (h : IsOut B b (Lib.byteCells l) d w) :
    Calls Tryd.prog 26 #[.pointer (some ⟨b, 0, none⟩)] w fun e w' => e = .returned (.string ⟨l.toArray⟩) ∧ Below B w w' := by
  obtain ⟨p, hB, v, hbk, hown, hne, hnil⟩ : ∃ p, OutAt B b p (Lib.byteCells l) d w := by
    rcases h with h | h
    · exact ⟨_, h⟩
    · exact ⟨_, h⟩
  rw [Lib.byteCells_length] at hown hnil
  by_cases h0 : l = []
  · subst h0
    obtain rfl := hnil.2 rfl
    exact string_nil_o B b p d w hbk
  have hl0 : l.length ≠ 0 := by simpa using h0
  obtain ⟨g, cap, cur, rfl, hbg, hg, hnc, hcm, hcs, htake⟩ : ∃ g cap cur, v = .slice (some ⟨g, 0, none⟩) l.length cap ∧ B ≤ g ∧ w.heap[g]? = some (.cells cur 5 (0, 0)) ∧ l.length ≤ cap ∧ cap ≤ maxLen ∧ cur.size = cap * 1 ∧ cur.toList.take (l.length * 1) = Lib.byteCells l := by
    rcases hown.2 with ⟨_, hz⟩ | ⟨g, cap, cur, hv, r⟩
    · exact absurd hz hl0
    · exact ⟨g, cap, cur, hv, r⟩
  have c1 : w.drew.cell? ⟨b, 1, none⟩ = some (.slice (some ⟨g, 0, none⟩) l.length cap) := by
    have : w.drew.heap[b]? = some (.cells #[p, .slice (some ⟨g, 0, none⟩) l.length cap, .int .i64 d] 55 (0, 0)) := hbk
    rw [Lib.cell_of_heap this]; rfl
  have hSD : (Builtin.unsafeSliceData_ #[51] 70 #[.slice (some ⟨g, 0, none⟩) l.length cap]).run Tryd.prog w.drew = .ok (.pointer (some ⟨g, 0, none⟩)) w.drew :=
    Lib.run_unsafeSliceData_row _ _ _ _ _ _ (by omega)
  have hUS : (Builtin.unsafeString_ #[70, 3] 9 #[.pointer (some ⟨g, 0, none⟩), .int .i64 l.length]).run Tryd.prog w.drew = .ok (.string ⟨l.toArray⟩) (w.drew.freeze ⟨g, 0, none⟩ l.length) := by
    refine Lib.run_unsafeString_row w.drew 70 3 9 5 Tryd.underlying70 byte_cells g cur.size (by have hg' : w.drew.heap[g]? = some (.cells cur 5 (0, 0)) := hg; simp [World.shape?, hg']) l h0 (by omega) (by unfold maxLen at hcm; omega) ?_
    intro j x hx
    have := hown.cells (g := g) rfl j (.int .u8 x.toNat) (by simp [Lib.byteCells, hx])
    exact this
  clear hnil
  have mixed : Tryd.prog.follows Departure.mixedOrders = true := by kernel_rfl
  go_enter Tryd.func26, Tryd.ntmps26
  go_wp2
  go_region_o
  all_goals (go_wp2; go_ret; exact ⟨rfl, Lib.below_freeze (Below.drew (Below.refl B w)) (p := ⟨g, 0, none⟩) hbg _⟩)

/-- The out at block b holds bs; seen from w0, all that is not its own is as it was. -/
def At (B b : Nat) (w0 : World) (bs : List Value) (d : Int) (W : World) : Prop := IsOut B b bs d W ∧ Below B w0 W ∧ OS b w0 W
theorem At.drew {B b : Nat} {w0 W : World} {bs : List Value} {d : Int} (h : At B b w0 bs d W) : At B b w0 bs d W.drew :=
  ⟨h.1.below (Below.refl _ _).drew, h.2.1.drew, h.2.2.trans (OS.of (Below.refl _ _).drew)⟩
theorem At.cell2 {B b : Nat} {w0 W : World} {bs : List Value} {d : Int} (h : At B b w0 bs d W) : W.cell? ⟨b, 2, none⟩ = some (.int .i64 d) := by
  rcases h.1 with h | h <;> obtain ⟨_, v, hb, _⟩ := h <;> simp [World.cell?, hb]
theorem At.frozen2 {B b : Nat} {w0 W : World} {bs : List Value} {d : Int} (h : At B b w0 bs d W) : W.frozen? ⟨b, 2, none⟩ = false := by
  rcases h.1 with h | h <;> obtain ⟨_, v, hb, _⟩ := h <;> simp [World.frozen?, hb]
theorem At.below {B b : Nat} {w0 W W' : World} {bs : List Value} {d : Int} (h : At B b w0 bs d W) (hb : Below W.heap.size W W') (hB : B ≤ W.heap.size) : At B b w0 bs d W' :=
  ⟨h.1.below hb, h.2.1.trans (hb.mono hB), h.2.2.trans (OS.of hb)⟩
theorem At.refl {B b : Nat} {w : World} {bs : List Value} {d : Int} (h : IsOut B b bs d w) : At B b w bs d w := ⟨h, Below.refl _ _, OS.refl _ _⟩
theorem At.trans {B b : Nat} {w0 W W' : World} {bs bs' : List Value} {d d' : Int} (h : At B b w0 bs d W) (k : At B b W bs' d' W') : At B b w0 bs' d' W' := ⟨k.1, h.2.1.trans k.2.1, h.2.2.trans k.2.2⟩
theorem At.hB {B b : Nat} {w0 W : World} {bs : List Value} {d : Int} (h : At B b w0 bs d W) (hB : B ≤ w0.heap.size) : B ≤ W.heap.size := Nat.le_trans hB h.2.1.size

def flat (ss : List ByteArray) : List UInt8 := (ss.map fun s => s.data.toList).flatten
theorem flat_take (ss : List ByteArray) (k : Nat) (h : k < ss.length) : flat (ss.take (k + 1)) = flat (ss.take k) ++ (ss.getD k ⟨#[]⟩).data.toList := by
  unfold flat
  have e : ss.take (k + 1) = ss.take k ++ [ss.getD k ⟨#[]⟩] := by
    rw [List.take_add_one, List.getD_eq_getElem?_getD, List.getElem?_eq_getElem h]
    simp
  rw [e, List.map_append, List.flatten_append]
  simp
theorem flat_le (ss : List ByteArray) (k : Nat) : (flat (ss.take k)).length ≤ (flat ss).length := by
  have h : flat ss = flat (ss.take k) ++ flat (ss.drop k) := by
    unfold flat
    rw [← List.flatten_append, ← List.map_append, List.take_append_drop]
  rw [h, List.length_append]; omega

set_option maxHeartbeats 4000000 in
set_option maxRecDepth 100000 in
theorem line_any (B b : Nat) (bs : List UInt8) (d : Nat) (q : Nat) (ss : List ByteArray) (w : World) (h : IsOut B b (Lib.byteCells bs) d w) (hd : d ≤ 60) (hq : w.heap[q]? = some (.cells (ss.map Value.string).toArray 9 (0, 0))) (hqb : q ≠ b) (hB : B ≤ w.heap.size)
    (hlen : bs.length + (List.replicate d (9 : UInt8) ++ flat ss ++ [10]).length ≤ 140737488355328) (hss : ss.length ≤ 1000) :
    Calls Tryd.prog 50 #[.pointer (some ⟨b, 0, none⟩), .slice (some ⟨q, 0, none⟩) ss.length ss.length] w fun e w' => e = .returned (.tuple #[]) ∧ At B b w (Lib.byteCells (bs ++ (List.replicate d 9 ++ flat ss ++ [10]))) d w' := by
  have hA : At B b w (Lib.byteCells bs) d w := At.refl h
  simp only [List.length_append, List.length_replicate, List.length_cons, List.length_nil] at hlen
  obtain ⟨TB, hTB⟩ : ∃ TB : ByteArray, TB = ⟨(List.replicate d 9).toArray⟩ := ⟨_, rfl⟩
  have hTs : TB.size = d := by rw [hTB, Lib.size_eq]; simp
  have HTB := Lib.hid (show TB.data.toList = List.replicate d 9 by rw [hTB])
  have HREP := Lib.hid (show ∀ W, At B b w (Lib.byteCells bs) d W → Calls Tryd.prog 62 #[.string (one 9), .int .i64 d] W fun e w' => e = .returned (.string TB) ∧ At B b w (Lib.byteCells bs) d w' from fun W hW =>
    (tabs_any d hd W).mono (by rintro e w' ⟨rfl, hb⟩; exact ⟨by rw [hTB], hW.below hb (hW.hB hB)⟩))
  have HWS := Lib.hid (show ∀ W (xs : List UInt8) (s : ByteArray), At B b w (Lib.byteCells xs) d W → xs.length + s.size ≤ 140737488355328 → Calls Tryd.prog 61 #[.pointer (some ⟨b, 0, none⟩), .string s] W fun e w' => e = .returned (.tuple #[.int .i64 s.size, .nilIface]) ∧ At B b w (Lib.byteCells (xs ++ s.data.toList)) d w' from fun W xs s hW hl =>
    (writeString_o B b (Lib.byteCells xs) d s W hW.1 (by rw [Lib.byteCells_length]; exact hl) (hW.hB hB)).mono (by
      rintro e w' ⟨rfl, hI, hb, ho⟩
      refine ⟨rfl, ?_, hW.2.1.trans hb, hW.2.2.trans ho⟩
      rw [Lib.byteCells_append, ← Lib.strCells_eq]; exact hI))
  have HWB := Lib.hid (show ∀ W (xs : List UInt8), At B b w (Lib.byteCells xs) d W → xs.length + 1 ≤ 140737488355328 → Calls Tryd.prog 63 #[.pointer (some ⟨b, 0, none⟩), .int .u8 10] W fun e w' => e = .returned .nilIface ∧ At B b w (Lib.byteCells (xs ++ [10])) d w' from fun W xs hW hl =>
    (writeByte_o B b (Lib.byteCells xs) d 10 W hW.1 (by rw [Lib.byteCells_length]; exact hl) (hW.hB hB)).mono (by
      rintro e w' ⟨rfl, hI, hb, ho⟩
      refine ⟨rfl, ?_, hW.2.1.trans hb, hW.2.2.trans ho⟩
      rw [Lib.byteCells_append]; exact hI))
  have HBOX := Lib.hid (show ∀ W xs, At B b w xs d W → ∀ k, k < ss.length → W.cell? ⟨q, k, none⟩ = some (.string (ss.getD k ⟨#[]⟩)) from fun W xs hW k hk => by
    have := hW.2.2.box (by decide) hqb hq
    rw [Lib.cell_of_heap this]
    simp [hk, List.getD_eq_getElem?_getD])
  have c2 := hA.cell2
  have HA := Lib.hid hA
  clear h hq hd hB hA hTB
  unfold one at HREP
  go_enter Tryd.func50, Tryd.ntmps50
  go_wp2_with fail
  have hA := HA.out
  go_region_held3 (fun W => W.cell? ⟨b, 2, none⟩ = some (.int .i64 d))
    (first | exact At.cell2 (by assumption) | exact At.cell2 (At.drew (by assumption)))
    (first
      | (go_at_call 62; (with_reducible refine (HREP.out _ ?hbb).mono ?_); (case hbb => first | assumption | exact At.drew (by assumption)); rintro e w' ⟨rfl, hbw⟩)
      | (go_at_call 61; (with_reducible refine (HWS.out _ bs _ ?hbb ?hll).mono ?_); (case hbb => first | assumption | exact At.drew (by assumption)); (case hll => omega); rintro e w' ⟨rfl, hbw⟩))
  all_goals
    have HA2 := Aside0.mk hbw
    clear hbw hA c2
    go_wp2_with fail
    go_loopw [17] (fun v wr => ∃ k : Nat, k ≤ ss.length ∧ v = .int .i64 k ∧ Aside0 (At B b w (Lib.byteCells (bs ++ (List.replicate d 9 ++ flat (ss.take k)))) d wr)) (fun v _ => ss.length - (intOf v).toNat)
    case atStart =>
      refine ⟨0, Nat.zero_le _, rfl, ⟨?_⟩⟩
      have := HA2.out
      rw [HTB.out] at this
      simpa [flat] using this
    case round =>
      obtain ⟨k, hk, rfl, HK⟩ := hrel
      by_cases hlt : k < ss.length
      · have hx := HBOX.out _ _ HK.out k hlt
        have HF := Lib.hid (And.intro (flat_take ss k hlt) (flat_le ss (k + 1)))
        generalize ss.getD k ⟨#[]⟩ = s0 at hx HF
        go_wp2_with fail
        refine (HWS.out _ _ _ HK.out ?hll).mono ?_
        case hll =>
          have h1 := HF.out.1
          have h2 := HF.out.2
          rw [h1] at h2
          rw [List.length_append] at h2
          simp only [List.length_append, List.length_replicate]
          rw [Lib.size_eq]
          omega
        rintro e w2 ⟨rfl, hA2⟩
        have HA3 := Aside0.mk hA2
        clear hA2
        go_wp2_with fail
        go_roundw
        case rel =>
          refine ⟨k + 1, by omega, by go_num, ⟨?_⟩⟩
          have := HA3.out
          rw [HF.out.1]
          simpa [List.append_assoc] using this
        case measure => simp [intOf]; omega
      · obtain rfl : k = ss.length := by omega
        go_wp2_with fail
        refine (HWB.out _ _ HK.out ?hll).mono ?_
        case hll =>
          rw [List.take_length]
          simp only [List.length_append, List.length_replicate]
          omega
        rintro e w2 ⟨rfl, hA2⟩
        have HA3 := Aside0.mk hA2
        clear hA2
        go_wp2_with fail
        go_end0
        refine ⟨rfl, ?_⟩
        have := HA3.out
        rw [List.take_length] at this
        simpa [List.append_assoc] using this

end Go.Proofs.YtlmmobfebjideaaDoor

/- The plain lexer: tokens of a list of bytes, and what follows from its rules alone. It imports nothing of the program. -/
namespace Go.Proofs.YtlmmobfebjideaaDoor.Lx
set_option linter.unusedVariables false
set_option linter.unusedSimpArgs false

abbrev Bytes := List UInt8

def isL (c : UInt8) : Bool := decide (97 ≤ c.toNat) && decide (c.toNat ≤ 122)
def isD (c : UInt8) : Bool := decide (48 ≤ c.toNat) && decide (c.toNat ≤ 57)
def isW (c : UInt8) : Bool := isL c || isD c
def isS (c : UInt8) : Bool := c == 32 || c == 9 || c == 13 || c == 10
def isC (c : UInt8) : Bool := c != 10

/-- The signs, the longer ones first. -/
def signs : List Bytes := [[60, 60], [62, 62], [60, 61], [62, 61], [61, 61], [33, 61], [38, 38], [124, 124], [43], [45], [42], [47], [37], [38], [124], [94], [60], [62], [33], [61], [91], [93], [123], [125], [40], [41], [59], [44]]
def sign (s : Bytes) : Bytes := (signs.find? fun x => x.isPrefixOf s).getD []
def run (p : UInt8 → Bool) (s : Bytes) : Nat := (s.takeWhile p).length

/-- Kind and length of the token at the beginning of a text; kind 0: there is none. -/
def token (s : Bytes) : Nat × Nat :=
  match s with
  | [] => (0, 0)
  | c :: _ =>
    if isL c = true then (1, run isW s)
    else if isD c = true then (2, run isD s)
    else if isS c = true then (4, run isS s)
    else if c = 35 then (5, run isC s)
    else if sign s = [] then (0, 0) else (3, (sign s).length)

structure Tok where
  kind : Nat
  text : Bytes
  pos : Nat
deriving DecidableEq

/-- The tokens of s, whose first byte has the offset p; or the offset of the first byte at which none starts. -/
def lexGo : Nat → Bytes → Nat → Except Nat (List Tok)
  | 0, s, p => if s = [] then .ok [] else .error p
  | n + 1, s, p =>
    if s = [] then .ok [] else
    if (token s).1 = 0 then .error p else
    match lexGo n (s.drop (token s).2) (p + (token s).2) with
    | .ok l => .ok (⟨(token s).1, s.take (token s).2, p⟩ :: l)
    | .error e => .error e

def lexp (s : Bytes) (p : Nat) : Except Nat (List Tok) := lexGo s.length s p
def lex (s : Bytes) : Except Nat (List Tok) := lexp s 0

def solidT (t : Tok) : Bool := decide (t.kind ≠ 4) && decide (t.kind ≠ 5)
def solid (l : List Tok) : List Tok := l.filter solidT
def join (l : List Tok) : Bytes := (l.map Tok.text).flatten

/-! ### runs -/
theorem run_le (p : UInt8 → Bool) (s : Bytes) : run p s ≤ s.length := by
  unfold run
  induction s with
  | nil => simp
  | cons c s ih => simp only [List.takeWhile_cons]; split <;> simp <;> omega
theorem run_cons (p : UInt8 → Bool) (c : UInt8) (s : Bytes) : run p (c :: s) = if p c = true then run p s + 1 else 0 := by
  unfold run; simp only [List.takeWhile_cons]; split <;> simp
theorem run_nil (p : UInt8 → Bool) : run p [] = 0 := rfl
theorem run_take (p : UInt8 → Bool) (s : Bytes) : run p (s.take (run p s)) = run p s := by
  induction s with
  | nil => rfl
  | cons c s ih =>
    rw [run_cons]
    split
    · rename_i h
      rw [List.take_succ_cons, run_cons, if_pos h, ih]
    · rfl
theorem run_all (p : UInt8 → Bool) (s : Bytes) : ∀ c ∈ s.take (run p s), p c = true := by
  induction s with
  | nil => intro c hc; simp [run_nil] at hc
  | cons d s ih =>
    intro c hc
    rw [run_cons] at hc
    split at hc
    · rename_i h
      rw [List.take_succ_cons] at hc
      rcases List.mem_cons.1 hc with rfl | hc
      · exact h
      · exact ih c hc
    · simp at hc
/-- Behind a run that does not reach the end stands a byte that is not of it. -/
theorem run_stop (p : UInt8 → Bool) (s : Bytes) : ∀ c t, s.drop (run p s) = c :: t → p c = false := by
  induction s with
  | nil => intro c t h; simp [run_nil] at h
  | cons d s ih =>
    intro c t h
    rw [run_cons] at h
    split at h
    · rw [List.drop_succ_cons] at h; exact ih c t h
    · rename_i hn
      simp only [List.drop_zero, List.cons.injEq] at h
      obtain ⟨rfl, rfl⟩ := h
      simpa using hn
/-- A text behind: the run goes no further if it had stopped, or if what follows is not of it. -/
theorem run_append (p : UInt8 → Bool) (s t : Bytes) : run p (s ++ t) = if run p s = s.length then s.length + run p t else run p s := by
  induction s with
  | nil => simp [run_nil]
  | cons c s ih =>
    rw [List.cons_append, run_cons, run_cons]
    by_cases h : p c = true
    · rw [if_pos h, if_pos h, ih, List.length_cons]
      by_cases h2 : run p s = s.length
      · rw [if_pos h2, if_pos (by omega)]; omega
      · rw [if_neg h2, if_neg (by omega)]
    · rw [if_neg h, if_neg h, List.length_cons, if_neg (by omega)]
theorem run_append_stop (p : UInt8 → Bool) (s t : Bytes) (h : run p t = 0) : run p (s ++ t) = run p s := by
  rw [run_append]; split <;> omega
theorem run_pos (p : UInt8 → Bool) (c : UInt8) (s : Bytes) (h : p c = true) : 0 < run p (c :: s) := by
  rw [run_cons, if_pos h]; omega
theorem run_drop (p : UInt8 → Bool) (s : Bytes) : s.drop (run p s) = s.dropWhile p := by
  induction s with
  | nil => rfl
  | cons c s ih =>
    rw [run_cons, List.dropWhile_cons]
    split
    · rw [List.drop_succ_cons, ih]
    · rfl

/-! ### signs -/
theorem sign_mem (s : Bytes) (h : sign s ≠ []) : sign s ∈ signs ∧ (sign s).isPrefixOf s = true := by
  unfold sign at *
  cases h2 : signs.find? (fun x => x.isPrefixOf s) with
  | none => rw [h2] at h; exact absurd rfl h
  | some x =>
    have := List.find?_some h2
    exact ⟨List.mem_of_find?_eq_some h2, this⟩
theorem signs_ne (x : Bytes) (h : x ∈ signs) : x ≠ [] := by
  have : ∀ x ∈ signs, x ≠ [] := by decide
  exact this x h
theorem sign_nil (s : Bytes) : sign s = [] ↔ ∀ x ∈ signs, x.isPrefixOf s = false := by
  unfold sign
  constructor
  · intro h
    cases h2 : signs.find? (fun x => x.isPrefixOf s) with
    | none => intro x hx; exact Bool.eq_false_iff.2 (List.find?_eq_none.1 h2 x hx)
    | some x => rw [h2] at h; exact absurd h (signs_ne x (List.mem_of_find?_eq_some h2))
  · intro h
    have : signs.find? (fun x => x.isPrefixOf s) = none := List.find?_eq_none.2 (fun x hx => by rw [h x hx]; decide)
    rw [this]; rfl

theorem find_congr {α : Type} {p q : α → Bool} {l : List α} {x : α} (h : l.find? p = some x) (hq : ∀ y, q y = true → p y = true) (hx : q x = true) : l.find? q = some x := by
  induction l with
  | nil => simp at h
  | cons a l ih =>
    rw [List.find?_cons] at h ⊢
    cases hp : p a with
    | true =>
      rw [hp] at h
      simp only [Option.some.injEq] at h
      subst h
      rw [hx]
    | false =>
      rw [hp] at h
      have : q a = false := by
        cases hqa : q a with
        | false => rfl
        | true => rw [hq a hqa] at hp; exact absurd hp (by decide)
      rw [this]
      exact ih h
theorem prefix_take {x s : Bytes} {r : Nat} (h : x.isPrefixOf (s.take r) = true) : x.isPrefixOf s = true := by
  rw [List.isPrefixOf_iff_prefix] at *
  exact h.trans (List.take_prefix r s)
theorem prefix_take_of {x s : Bytes} {r : Nat} (h : x.isPrefixOf s = true) (hr : x.length ≤ r) : x.isPrefixOf (s.take r) = true := by
  rw [List.isPrefixOf_iff_prefix] at *
  obtain ⟨t, rfl⟩ := h
  rw [List.take_append, List.take_of_length_le hr]
  exact List.prefix_append _ _
theorem sign_take (s : Bytes) (r : Nat) (h : (sign s).length ≤ r) : sign (s.take r) = sign s := by
  by_cases h0 : sign s = []
  · rw [h0]
    rw [sign_nil] at h0 ⊢
    intro x hx
    cases h1 : x.isPrefixOf (s.take r) with
    | false => rfl
    | true => have h2 := h0 x hx; rw [prefix_take h1] at h2; exact absurd h2 (by decide)
  · unfold sign at *
    cases h2 : signs.find? (fun x => x.isPrefixOf s) with
    | none => rw [h2] at h0; exact absurd rfl h0
    | some x =>
      rw [h2] at h
      have hx := List.find?_some h2
      rw [find_congr h2 (fun y hy => prefix_take hy) (prefix_take_of hx h)]
theorem prefix_append_ten {x s b : Bytes} (h : 10 ∉ x) : x.isPrefixOf (s ++ 10 :: b) = x.isPrefixOf s := by
  induction x generalizing s with
  | nil => simp
  | cons c x ih =>
    cases s with
    | nil =>
      simp only [List.nil_append, List.isPrefixOf]
      have : (c == 10) = false := by
        rw [beq_eq_false_iff_ne]
        rintro rfl
        exact h (List.mem_cons_self ..)
      rw [this]; rfl
    | cons d s =>
      simp only [List.cons_append, List.isPrefixOf]
      rw [ih (fun hm => h (List.mem_cons_of_mem _ hm))]
theorem signs_ten (x : Bytes) (h : x ∈ signs) : 10 ∉ x := by
  have : ∀ x ∈ signs, (10 : UInt8) ∉ x := by decide
  exact this x h
theorem find_same {α : Type} {p q : α → Bool} {l : List α} (h : ∀ x ∈ l, p x = q x) : l.find? p = l.find? q := by
  induction l with
  | nil => rfl
  | cons a l ih =>
    rw [List.find?_cons, List.find?_cons, h a (List.mem_cons_self ..), ih (fun x hx => h x (List.mem_cons_of_mem _ hx))]
theorem sign_ten (s b : Bytes) : sign (s ++ 10 :: b) = sign s := by
  unfold sign
  rw [find_same (fun x hx => prefix_append_ten (signs_ten x hx))]
theorem sign_self (x : Bytes) (h : x ∈ signs) : sign x = x := by
  have : ∀ x ∈ signs, sign x = x := by decide
  exact this x h

/-! ### tokens -/
theorem token_le (s : Bytes) : (token s).2 ≤ s.length := by
  cases s with
  | nil => simp [token]
  | cons c t =>
    simp only [token]
    split; · exact run_le _ _
    split; · exact run_le _ _
    split; · exact run_le _ _
    split; · exact run_le _ _
    split; · simp
    · rename_i h
      have := (sign_mem _ h).2
      rw [List.isPrefixOf_iff_prefix] at this
      exact this.length_le
theorem token_pos (s : Bytes) (h : (token s).1 ≠ 0) : 0 < (token s).2 := by
  cases s with
  | nil => simp [token] at h
  | cons c t =>
    simp only [token] at *
    by_cases h1 : isL c = true
    · rw [if_pos h1]; exact run_pos _ _ _ (by simp [isW, h1])
    rw [if_neg h1] at *
    by_cases h2 : isD c = true
    · rw [if_pos h2]; exact run_pos _ _ _ h2
    rw [if_neg h2] at *
    by_cases h3 : isS c = true
    · rw [if_pos h3]; exact run_pos _ _ _ h3
    rw [if_neg h3] at *
    by_cases h4 : c = 35
    · rw [if_pos h4]; exact run_pos _ _ _ (by simp [isC, h4])
    rw [if_neg h4] at *
    by_cases h5 : sign (c :: t) = []
    · rw [if_pos h5] at h; exact absurd rfl h
    · rw [if_neg h5]; exact List.length_pos_iff.2 h5
theorem token_zero (s : Bytes) (h : (token s).1 = 0) : token s = (0, 0) := by
  cases s with
  | nil => rfl
  | cons c t =>
    simp only [token] at *
    by_cases h1 : isL c = true
    · rw [if_pos h1] at h; simp at h
    rw [if_neg h1] at *
    by_cases h2 : isD c = true
    · rw [if_pos h2] at h; simp at h
    rw [if_neg h2] at *
    by_cases h3 : isS c = true
    · rw [if_pos h3] at h; simp at h
    rw [if_neg h3] at *
    by_cases h4 : c = 35
    · rw [if_pos h4] at h; simp at h
    rw [if_neg h4] at *
    by_cases h5 : sign (c :: t) = []
    · rw [if_pos h5]
    · rw [if_neg h5] at h; simp at h
theorem run_take_ge (p : UInt8 → Bool) (s : Bytes) (r : Nat) (h : run p s ≤ r) : run p (s.take r) = run p s := by
  induction s generalizing r with
  | nil => simp [run_nil]
  | cons c s ih =>
    cases r with
    | zero => rw [List.take_zero, run_nil]; omega
    | succ r =>
      rw [List.take_succ_cons, run_cons, run_cons]
      rw [run_cons] at h
      split
      · rename_i hp
        rw [if_pos hp] at h
        rw [ih r (by omega)]
      · rfl
theorem token_take (s : Bytes) (r : Nat) (h : (token s).2 ≤ r) : token (s.take r) = token s := by
  cases s with
  | nil => simp
  | cons c t =>
    cases r with
    | zero =>
      have h0 : (token (c :: t)).1 = 0 := by
        rcases Nat.eq_zero_or_pos (token (c :: t)).1 with h1 | h1
        · exact h1
        · have := token_pos _ (Nat.pos_iff_ne_zero.1 h1); omega
      rw [token_zero _ h0]; rfl
    | succ r =>
      rw [List.take_succ_cons]
      have e : c :: t.take r = (c :: t).take (r + 1) := rfl
      simp only [token] at *
      by_cases h1 : isL c = true
      · rw [if_pos h1] at h ⊢; rw [if_pos h1, e, run_take_ge _ _ _ h]
      rw [if_neg h1] at h ⊢; rw [if_neg h1]
      by_cases h2 : isD c = true
      · rw [if_pos h2] at h ⊢; rw [if_pos h2, e, run_take_ge _ _ _ h]
      rw [if_neg h2] at h ⊢; rw [if_neg h2]
      by_cases h3 : isS c = true
      · rw [if_pos h3] at h ⊢; rw [if_pos h3, e, run_take_ge _ _ _ h]
      rw [if_neg h3] at h ⊢; rw [if_neg h3]
      by_cases h4 : c = 35
      · rw [if_pos h4] at h ⊢; rw [if_pos h4, e, run_take_ge _ _ _ h]
      rw [if_neg h4] at h ⊢; rw [if_neg h4]
      rw [e, sign_take]
      by_cases h5 : sign (c :: t) = []
      · rw [h5]; simp
      · rw [if_neg h5] at h; exact h
theorem token_alone (s : Bytes) : token (s.take (token s).2) = token s := token_take s _ (Nat.le_refl _)
/-- A line feed behind a token that is no space, or that does not reach the end, changes nothing. -/
theorem token_ten (s b : Bytes) (h : s ≠ []) (h4 : (token s).1 ≠ 4 ∨ (token s).2 < s.length) : token (s ++ 10 :: b) = token s := by
  cases s with
  | nil => exact absurd rfl h
  | cons c t =>
    rw [List.cons_append]
    have e : c :: (t ++ 10 :: b) = (c :: t) ++ 10 :: b := rfl
    simp only [token] at *
    by_cases h1 : isL c = true
    · rw [if_pos h1, if_pos h1, e, run_append_stop _ _ _ (by rw [run_cons]; rfl)]
    rw [if_neg h1, if_neg h1]; rw [if_neg h1] at h4
    by_cases h2 : isD c = true
    · rw [if_pos h2, if_pos h2, e, run_append_stop _ _ _ (by rw [run_cons]; rfl)]
    rw [if_neg h2, if_neg h2]; rw [if_neg h2] at h4
    by_cases h3 : isS c = true
    · rw [if_pos h3] at h4 ⊢; rw [if_pos h3, e, run_append]
      rcases h4 with h4 | h4
      · simp at h4
      · rw [if_neg (by dsimp only at h4; omega)]
    rw [if_neg h3, if_neg h3]
    by_cases h5 : c = 35
    · rw [if_pos h5, if_pos h5, e, run_append_stop _ _ _ (by rw [run_cons]; rfl)]
    rw [if_neg h5, if_neg h5, e, sign_ten]
/-- A space that reaches the end goes on over the line feed and the spaces behind it. -/
theorem token_ten_space (s b : Bytes) (h4 : (token s).1 = 4) (he : (token s).2 = s.length) : token (s ++ 10 :: b) = (4, s.length + 1 + run isS b) := by
  cases s with
  | nil => simp [token] at h4
  | cons c t =>
    rw [List.cons_append]
    have e : c :: (t ++ 10 :: b) = (c :: t) ++ 10 :: b := rfl
    simp only [token] at *
    by_cases h1 : isL c = true
    · rw [if_pos h1] at h4; simp at h4
    rw [if_neg h1] at *
    by_cases h2 : isD c = true
    · rw [if_pos h2] at h4; simp at h4
    rw [if_neg h2] at *
    by_cases h3 : isS c = true
    · rw [if_pos h3] at he ⊢
      dsimp only at he
      rw [e, run_append, if_pos he, run_cons, if_pos (by decide)]
      simp; omega
    rw [if_neg h3] at *
    by_cases h5 : c = 35
    · rw [if_pos h5] at h4; simp at h4
    rw [if_neg h5] at h4
    split at h4 <;> simp at h4
theorem token_space (c : UInt8) (s : Bytes) (h : isS c = true) : token (c :: s) = (4, run isS (c :: s)) := by
  have h1 : isL c = false := by
    simp only [isS, Bool.or_eq_true, beq_iff_eq] at h
    rcases h with ((rfl | rfl) | rfl) | rfl <;> decide
  have h2 : isD c = false := by
    simp only [isS, Bool.or_eq_true, beq_iff_eq] at h
    rcases h with ((rfl | rfl) | rfl) | rfl <;> decide
  simp only [token, h1, h2, h]
  simp

/-! ### the tokens of a text -/
theorem lexGo_fuel (n : Nat) : ∀ (m : Nat) (s : Bytes) (p : Nat), s.length ≤ n → s.length ≤ m → lexGo n s p = lexGo m s p := by
  induction n with
  | zero =>
    intro m s p hn hm
    obtain rfl : s = [] := List.eq_nil_of_length_eq_zero (by omega)
    cases m <;> simp [lexGo]
  | succ n ih =>
    intro m s p hn hm
    by_cases h : s = []
    · subst h; cases m <;> simp [lexGo]
    · have hpos : 0 < s.length := List.length_pos_iff.2 h
      obtain ⟨m, rfl⟩ : ∃ k, m = k + 1 := ⟨m - 1, by omega⟩
      simp only [lexGo]
      rw [if_neg h, if_neg h]
      by_cases h0 : (token s).1 = 0
      · rw [if_pos h0, if_pos h0]
      · rw [if_neg h0, if_neg h0]
        have := token_pos s h0
        rw [ih m _ _ (by simp; omega) (by simp; omega)]
theorem lexp_nil (p : Nat) : lexp [] p = .ok [] := rfl
theorem lexp_step (s : Bytes) (p : Nat) (h : s ≠ []) : lexp s p = if (token s).1 = 0 then .error p else
    match lexp (s.drop (token s).2) (p + (token s).2) with
    | .ok l => .ok (⟨(token s).1, s.take (token s).2, p⟩ :: l)
    | .error e => .error e := by
  have hpos : 0 < s.length := List.length_pos_iff.2 h
  unfold lexp
  obtain ⟨n, hn⟩ : ∃ n, s.length = n + 1 := ⟨s.length - 1, by omega⟩
  rw [hn]
  simp only [lexGo]
  rw [if_neg h]
  by_cases h0 : (token s).1 = 0
  · rw [if_pos h0, if_pos h0]
  · rw [if_neg h0, if_neg h0]
    have := token_pos s h0
    rw [lexGo_fuel n (s.drop (token s).2).length _ _ (by simp; omega) (Nat.le_refl _)]
theorem lexp_error (s : Bytes) (p : Nat) (h : s ≠ []) (h0 : (token s).1 = 0) : lexp s p = .error p := by rw [lexp_step s p h, if_pos h0]
theorem lexp_cons (s : Bytes) (p : Nat) (h : s ≠ []) (h0 : (token s).1 ≠ 0) : lexp s p = match lexp (s.drop (token s).2) (p + (token s).2) with
    | .ok l => .ok (⟨(token s).1, s.take (token s).2, p⟩ :: l)
    | .error e => .error e := by rw [lexp_step s p h, if_neg h0]
/-- Induction over the tokens of a text. -/
theorem lex_ind {C : Bytes → Prop} (nil : C []) (err : ∀ s, s ≠ [] → (token s).1 = 0 → C s) (cons : ∀ s, s ≠ [] → (token s).1 ≠ 0 → C (s.drop (token s).2) → C s) (s : Bytes) : C s := by
  have key : ∀ n (s : Bytes), s.length ≤ n → C s := by
    intro n
    induction n with
    | zero => intro s hs; obtain rfl : s = [] := List.eq_nil_of_length_eq_zero (by omega); exact nil
    | succ n ih =>
      intro s hs
      by_cases h : s = []
      · subst h; exact nil
      · by_cases h0 : (token s).1 = 0
        · exact err s h h0
        · refine cons s h h0 (ih _ ?_)
          have := token_pos s h0
          have : 0 < s.length := List.length_pos_iff.2 h
          simp; omega
  exact key s.length s (Nat.le_refl _)
theorem lexp_join (s : Bytes) : ∀ p l, lexp s p = .ok l → join l = s := by
  induction s using lex_ind with
  | nil => intro p l h; rw [lexp_nil] at h; cases h; rfl
  | err s hs h0 => intro p l h; rw [lexp_error s p hs h0] at h; cases h
  | cons s hs h0 ih =>
    intro p l h
    rw [lexp_cons s p hs h0] at h
    cases h1 : lexp (s.drop (token s).2) (p + (token s).2) with
    | error e => rw [h1] at h; cases h
    | ok l' =>
      rw [h1] at h
      cases h
      have := ih _ _ h1
      simp only [join, List.map_cons, List.flatten_cons] at *
      rw [this, List.take_append_drop]
theorem lexp_shift (s : Bytes) : ∀ p q, lexp s (p + q) = match lexp s p with
    | .ok l => .ok (l.map fun t => { t with pos := t.pos + q })
    | .error e => .error (e + q) := by
  induction s using lex_ind with
  | nil => intro p q; rfl
  | err s hs h0 => intro p q; rw [lexp_error s _ hs h0, lexp_error s _ hs h0]
  | cons s hs h0 ih =>
    intro p q
    rw [lexp_cons s _ hs h0, lexp_cons s _ hs h0]
    have := ih (p + (token s).2) q
    rw [show p + q + (token s).2 = p + (token s).2 + q from by omega, this]
    cases h1 : lexp (s.drop (token s).2) (p + (token s).2) with
    | error e => rfl
    | ok l' => rfl
/-- The end of a text's tokens. -/
def tokEnd : Nat → List Tok → Nat
  | p, [] => p
  | _, t :: l => tokEnd (t.pos + t.text.length) l
/-- Tokens one behind the other from p on, none of them empty. -/
def chain : Nat → List Tok → Prop
  | _, [] => True
  | p, t :: l => t.pos = p ∧ t.text ≠ [] ∧ chain (p + t.text.length) l
theorem take_token_length (s : Bytes) : (s.take (token s).2).length = (token s).2 := by
  rw [List.length_take, Nat.min_eq_left (token_le s)]
theorem lexp_chain (s : Bytes) : ∀ p l, lexp s p = .ok l → chain p l := by
  induction s using lex_ind with
  | nil => intro p l h; rw [lexp_nil] at h; cases h; trivial
  | err s hs h0 => intro p l h; rw [lexp_error s p hs h0] at h; cases h
  | cons s hs h0 ih =>
    intro p l h
    rw [lexp_cons s p hs h0] at h
    cases h1 : lexp (s.drop (token s).2) (p + (token s).2) with
    | error e => rw [h1] at h; cases h
    | ok l' =>
      rw [h1] at h
      cases h
      refine ⟨rfl, ?_, ?_⟩
      · have h2 := token_pos s h0
        have h3 := take_token_length s
        intro h4
        have h5 : s.take (token s).2 = [] := h4
        rw [h5] at h3
        simp at h3; omega
      · show chain (p + (s.take (token s).2).length) l'
        rw [take_token_length]
        exact ih _ _ h1
/-- Where no token starts: the bytes before are tokens, and none starts there. -/
theorem lexp_bad (s : Bytes) : ∀ p e, lexp s p = .error e → ∃ d, e = p + d ∧ d < s.length ∧ (token (s.drop d)).1 = 0 ∧ s.drop d ≠ [] ∧ ∃ l, lexp (s.take d) p = .ok l := by
  induction s using lex_ind with
  | nil => intro p e h; rw [lexp_nil] at h; cases h
  | err s hs h0 =>
    intro p e h
    rw [lexp_error s p hs h0] at h
    cases h
    exact ⟨0, rfl, List.length_pos_iff.2 hs, h0, hs, [], rfl⟩
  | cons s hs h0 ih =>
    intro p e h
    rw [lexp_cons s p hs h0] at h
    cases h1 : lexp (s.drop (token s).2) (p + (token s).2) with
    | ok l' => rw [h1] at h; cases h
    | error e' =>
      rw [h1] at h
      cases h
      obtain ⟨d, rfl, hd, hk, hne, l, hl⟩ := ih _ _ h1
      have hle := token_le s
      have hp := token_pos s h0
      rw [List.length_drop] at hd
      refine ⟨(token s).2 + d, by omega, by omega, by rw [← List.drop_drop]; exact hk, by rw [← List.drop_drop]; exact hne, ?_⟩
      have hne2 : s.take ((token s).2 + d) ≠ [] := by
        intro h4
        have h5 := congrArg List.length h4
        rw [List.length_take, List.length_nil] at h5
        omega
      have ht := token_take s ((token s).2 + d) (by omega)
      refine ⟨⟨(token s).1, (s.take ((token s).2 + d)).take (token s).2, p⟩ :: l, ?_⟩
      rw [lexp_cons _ p hne2 (by rw [ht]; exact h0), ht, List.drop_take, Nat.add_sub_cancel_left, hl]
theorem lexp_alone (s : Bytes) : ∀ p l, lexp s p = .ok l → ∀ t ∈ l, lexp t.text 0 = .ok [{ t with pos := 0 }] := by
  induction s using lex_ind with
  | nil => intro p l h; rw [lexp_nil] at h; cases h; intro t ht; cases ht
  | err s hs h0 => intro p l h; rw [lexp_error s p hs h0] at h; cases h
  | cons s hs h0 ih =>
    intro p l h
    rw [lexp_cons s p hs h0] at h
    cases h1 : lexp (s.drop (token s).2) (p + (token s).2) with
    | error e => rw [h1] at h; cases h
    | ok l' =>
      rw [h1] at h
      cases h
      intro t ht
      rcases List.mem_cons.1 ht with rfl | ht
      · have h2 := token_pos s h0
        have h3 := take_token_length s
        have hne : s.take (token s).2 ≠ [] := by
          intro h4
          rw [h4] at h3
          simp at h3; omega
        show lexp (s.take (token s).2) 0 = _
        rw [lexp_cons _ 0 hne (by rw [token_alone]; exact h0), token_alone, List.drop_of_length_le (by rw [h3]; exact Nat.le_refl _), lexp_nil]
        simp [List.take_take]
      · exact ih _ _ h1 t ht
/-- The text from the start of a token on has the remaining tokens. -/
theorem lexp_suffix (s : Bytes) : ∀ p l, lexp s p = .ok l → ∀ i t, l[i]? = some t → p ≤ t.pos ∧ t.pos ≤ p + s.length ∧ lexp (s.drop (t.pos - p)) t.pos = .ok (l.drop i) := by
  induction s using lex_ind with
  | nil => intro p l h; rw [lexp_nil] at h; cases h; intro i t ht; simp at ht
  | err s hs h0 => intro p l h; rw [lexp_error s p hs h0] at h; cases h
  | cons s hs h0 ih =>
    intro p l h
    have hh := h
    rw [lexp_cons s p hs h0] at h
    cases h1 : lexp (s.drop (token s).2) (p + (token s).2) with
    | error e => rw [h1] at h; cases h
    | ok l' =>
      rw [h1] at h
      cases h
      intro i t ht
      cases i with
      | zero =>
        simp only [List.getElem?_cons_zero, Option.some.injEq] at ht
        subst ht
        refine ⟨Nat.le_refl _, Nat.le_add_right _ _, ?_⟩
        simp only [Nat.sub_self, List.drop_zero]
        exact hh
      | succ i =>
        rw [List.getElem?_cons_succ] at ht
        obtain ⟨h2, h3, h4⟩ := ih _ _ h1 i t ht
        have hle := token_le s
        rw [List.length_drop] at h3
        refine ⟨by omega, by omega, ?_⟩
        rw [List.drop_succ_cons, ← h4, List.drop_drop]
        congr 2
        omega

/-! ### two texts with a line feed between them -/
theorem solid_nil : solid [] = [] := rfl
theorem solid_cons (t : Tok) (l : List Tok) : solid (t :: l) = if solidT t = true then t :: solid l else solid l := by
  unfold solid; rw [List.filter_cons]
/-- The solid tokens of a text, or the error's offset. -/
def solids (s : Bytes) (p : Nat) : Except Nat (List Tok) := match lexp s p with
  | .ok l => .ok (solid l)
  | .error e => .error e
theorem solids_nil (p : Nat) : solids [] p = .ok [] := rfl
theorem solids_step (s : Bytes) (p : Nat) (h : s ≠ []) : solids s p = if (token s).1 = 0 then .error p else
    match solids (s.drop (token s).2) (p + (token s).2) with
    | .ok l => .ok (if (token s).1 ≠ 4 ∧ (token s).1 ≠ 5 then ⟨(token s).1, s.take (token s).2, p⟩ :: l else l)
    | .error e => .error e := by
  unfold solids
  rw [lexp_step s p h]
  by_cases h0 : (token s).1 = 0
  · rw [if_pos h0, if_pos h0]
  · rw [if_neg h0, if_neg h0]
    cases lexp (s.drop (token s).2) (p + (token s).2) with
    | error e => rfl
    | ok l =>
      simp only [solid_cons, solidT, Bool.and_eq_true, decide_eq_true_eq]
/-- Spaces at the beginning are passed over. -/
theorem solids_spaces (s : Bytes) (p : Nat) : solids (s.drop (run isS s)) (p + run isS s) = solids s p := by
  cases s with
  | nil => rfl
  | cons c t =>
    by_cases hc : isS c = true
    · rw [solids_step (c :: t) p (by simp), token_space c t hc]
      simp only [show ¬ ((4 : Nat) = 0) from by decide, if_false]
      cases solids ((c :: t).drop (run isS (c :: t))) (p + run isS (c :: t)) with
      | error e => rfl
      | ok l => simp
    · rw [run_cons, if_neg hc]; rfl
theorem solids_lines (a b : Bytes) : ∀ p, solids (a ++ 10 :: b) p = match solids a p, solids b (p + a.length + 1) with
    | .ok l, .ok m => .ok (l ++ m)
    | .ok _, .error e => .error e
    | .error e, _ => .error e := by
  induction a using lex_ind with
  | nil =>
    intro p
    rw [List.nil_append, solids_nil, ← solids_spaces (10 :: b) p, run_cons, if_pos (by decide), List.drop_succ_cons]
    rw [show p + (run isS b + 1) = (p + 1) + run isS b from by omega, solids_spaces]
    simp only [List.length_nil, Nat.add_zero]
    cases solids b (p + 1) <;> rfl
  | err s hs h0 =>
    intro p
    have h1 : token (s ++ 10 :: b) = token s := token_ten s b hs (.inl (by omega))
    rw [solids_step _ p (by simp), h1, if_pos h0, solids_step s p hs, if_pos h0]
  | cons s hs h0 ih =>
    intro p
    have hle := token_le s
    by_cases h4 : (token s).1 = 4 ∧ (token s).2 = s.length
    · obtain ⟨h4, h5⟩ := h4
      rw [solids_step _ p (by simp), token_ten_space s b h4 h5, solids_step s p hs, if_neg h0, h5, List.drop_length, solids_nil]
      simp only [show ¬ ((4 : Nat) = 0) from by decide, if_false]
      rw [show (s ++ 10 :: b).drop (s.length + 1 + run isS b) = b.drop (run isS b) from by
        rw [List.drop_append, List.drop_of_length_le (by omega), List.nil_append, show s.length + 1 + run isS b - s.length = run isS b + 1 from by omega, List.drop_succ_cons]]
      rw [show p + (s.length + 1 + run isS b) = (p + s.length + 1) + run isS b from by omega, solids_spaces]
      cases solids b (p + s.length + 1) with
      | error e => rfl
      | ok m => simp [h4]
    · have h1 : token (s ++ 10 :: b) = token s := token_ten s b hs (by omega)
      rw [solids_step _ p (by simp), h1, if_neg h0, solids_step s p hs, if_neg h0, List.drop_append, List.take_append]
      rw [show (token s).2 - s.length = 0 from by omega, List.drop_zero, List.take_zero, List.append_nil, ih]
      rw [List.length_drop, show p + (token s).2 + (s.length - (token s).2) + 1 = p + s.length + 1 from by omega]
      cases solids (s.drop (token s).2) (p + (token s).2) with
      | error e => rfl
      | ok l =>
        cases solids b (p + s.length + 1) with
        | error e => rfl
        | ok m =>
          simp only
          split <;> rfl
theorem solids_shift (s : Bytes) (p q : Nat) : solids s (p + q) = match solids s p with
    | .ok l => .ok (l.map fun t => { t with pos := t.pos + q })
    | .error e => .error (e + q) := by
  unfold solids
  rw [lexp_shift]
  cases lexp s p with
  | error e => rfl
  | ok l =>
    simp only [solid, List.filter_map]
    congr 1

/-! ### names -/
def keywords : List Bytes := [[97, 114, 114, 97, 121], [98, 111, 117, 110, 100], [101, 108, 115, 101], [102, 111, 114], [105, 102], [105, 110], [108, 111, 99, 107], [111, 117, 116], [112, 101, 114, 105, 111, 100], [115, 104, 97, 114, 101, 100], [116, 97, 115, 107], [118, 97, 114], [119, 104, 105, 108, 101]]
def keyword (s : Bytes) : Bool := decide (s ∈ keywords)
def name (s : Bytes) : Bool := decide (s ≠ []) && decide (s.length ≤ 12) && (match s with | [] => false | c :: _ => isL c) && !keyword s && s.all isW
theorem run_full (p : UInt8 → Bool) (s : Bytes) : run p s = s.length ↔ s.all p = true := by
  induction s with
  | nil => simp [run_nil]
  | cons c s ih =>
    rw [run_cons, List.all_cons]
    by_cases h : p c = true
    · rw [if_pos h, h, List.length_cons]; simp only [Bool.true_and]; rw [← ih]; omega
    · rw [if_neg h, List.length_cons]
      have : p c = false := by simpa using h
      rw [this]; simp
/-- A word is one token. -/
theorem lex_word (c : UInt8) (s : Bytes) (h : isL c = true) (ha : (c :: s).all isW = true) (p : Nat) : lexp (c :: s) p = .ok [⟨1, c :: s, p⟩] := by
  have ht : token (c :: s) = (1, (c :: s).length) := by
    simp only [token]
    rw [if_pos h, (run_full _ _).2 ha]
  rw [lexp_cons _ _ (by simp) (by rw [ht]; exact Nat.one_ne_zero), ht, List.drop_length, lexp_nil, List.take_length]
theorem keyword_word : ∀ s ∈ keywords, (match s with | [] => false | c :: _ => isL c) = true ∧ s.all isW = true := by decide

/-! ### the reference's way: the longest prefix that is a token -/
def rkind (s : Bytes) : Nat :=
  match s with
  | [] => 0
  | c :: _ =>
    if (isL c && s.all isW) = true then 1
    else if s.all isD = true then 2
    else if s ∈ signs then 3
    else if s.all isS = true then 4
    else if (decide (c = 35) && s.all isC) = true then 5
    else 0
theorem signs_head (c : UInt8) (t : Bytes) (h : c :: t ∈ signs) : isL c = false ∧ isD c = false ∧ isS c = false ∧ c ≠ 35 := by
  have : ∀ x ∈ signs, ∀ c ∈ x.head?, isL c = false ∧ isD c = false ∧ isS c = false ∧ c ≠ 35 := by decide
  exact this _ h c rfl
theorem head_excl (c : UInt8) : (isL c = true → isD c = false ∧ isS c = false ∧ c ≠ 35) ∧ (isD c = true → isS c = false ∧ c ≠ 35) ∧ (isS c = true → c ≠ 35) := by
  have hS : isS c = true → c = 32 ∨ c = 9 ∨ c = 13 ∨ c = 10 := by
    intro h
    simp only [isS, Bool.or_eq_true, beq_iff_eq] at h
    rcases h with ((h | h) | h) | h <;> simp [h]
  have hSf : ¬ (c = 32 ∨ c = 9 ∨ c = 13 ∨ c = 10) → isS c = false := by
    intro h
    cases h1 : isS c with
    | false => rfl
    | true => exact absurd (hS h1) h
  refine ⟨fun h => ?_, fun h => ?_, fun h => ?_⟩
  · simp only [isL, Bool.and_eq_true, decide_eq_true_eq] at h
    refine ⟨?_, hSf ?_, ?_⟩
    · simp only [isD, Bool.and_eq_false_iff, decide_eq_false_iff_not]; omega
    · rintro (rfl | rfl | rfl | rfl) <;> simp at h
    · rintro rfl; simp at h
  · simp only [isD, Bool.and_eq_true, decide_eq_true_eq] at h
    refine ⟨hSf ?_, ?_⟩
    · rintro (rfl | rfl | rfl | rfl) <;> simp at h
    · rintro rfl; simp at h
  · rcases hS h with rfl | rfl | rfl | rfl <;> decide
theorem run_lt_not_all (p : UInt8 → Bool) (s : Bytes) (m : Nat) (h : run p s < m) (hm : m ≤ s.length) : (s.take m).all p = false := by
  cases h1 : (s.take m).all p with
  | false => rfl
  | true =>
    have h2 := (run_full p (s.take m)).2 h1
    rw [List.length_take, Nat.min_eq_left hm] at h2
    have h3 : run p (s.take m) ≤ run p s := by
      have := run_append p (s.take m) (s.drop m)
      rw [List.take_append_drop] at this
      rw [this]
      split <;> omega
    omega
theorem signs_parts : signs = signs.take 8 ++ signs.drop 8 := (List.take_append_drop 8 signs).symm
theorem sign_longest (s x : Bytes) (h : x ∈ signs) (hp : x.isPrefixOf s = true) : x.length ≤ (sign s).length := by
  have hne : sign s ≠ [] := by
    intro h0
    rw [sign_nil] at h0
    rw [h0 x h] at hp
    exact absurd hp (by decide)
  have h1 : ∀ y ∈ signs.take 8, y.length = 2 := by decide
  have h2 : ∀ y ∈ signs.drop 8, y.length = 1 := by decide
  rw [signs_parts] at h
  rcases List.mem_append.1 h with hx | hx
  · rw [h1 x hx]
    unfold sign
    rw [signs_parts, List.find?_append]
    cases h3 : (signs.take 8).find? (fun x => x.isPrefixOf s) with
    | none => exact absurd hp (List.find?_eq_none.1 h3 x hx)
    | some y =>
      have := h1 y (List.mem_of_find?_eq_some h3)
      simp only [Option.some_or, Option.getD_some]
      omega
  · rw [h2 x hx]
    exact List.length_pos_iff.2 hne
theorem all_take_run (p : UInt8 → Bool) (s : Bytes) : (s.take (run p s)).all p = true := by
  rw [List.all_eq_true]; exact run_all p s
theorem all_head {p : UInt8 → Bool} {c : UInt8} {t : Bytes} (h : p c = false) : (c :: t).all p = false := by rw [List.all_cons, h]; rfl
theorem rkind_token (s : Bytes) (h0 : (token s).1 ≠ 0) : rkind (s.take (token s).2) = (token s).1 := by
  cases s with
  | nil => simp [token] at h0
  | cons c t =>
    have hp := token_pos _ h0
    obtain ⟨n, hn⟩ : ∃ n, (token (c :: t)).2 = n + 1 := ⟨(token (c :: t)).2 - 1, by omega⟩
    have e : (c :: t).take (token (c :: t)).2 = c :: t.take n := by rw [hn, List.take_succ_cons]
    have e2 : c :: t.take n = (c :: t).take (token (c :: t)).2 := e.symm
    obtain ⟨xL, xD, xS⟩ := head_excl c
    by_cases h1 : isL c = true
    · have ht : token (c :: t) = (1, run isW (c :: t)) := by simp only [token]; rw [if_pos h1]
      rw [e]
      simp only [rkind]
      rw [e2, ht]
      simp only []
      rw [all_take_run, h1]; rfl
    have h1' : isL c = false := by simpa using h1
    by_cases h2 : isD c = true
    · have ht : token (c :: t) = (2, run isD (c :: t)) := by simp only [token]; rw [if_neg h1, if_pos h2]
      rw [e]
      simp only [rkind]
      rw [e2, ht, h1']
      simp only []
      rw [all_take_run]; rfl
    have h2' : isD c = false := by simpa using h2
    by_cases h3 : isS c = true
    · have ht : token (c :: t) = (4, run isS (c :: t)) := by simp only [token]; rw [if_neg h1, if_neg h2, if_pos h3]
      rw [e]
      simp only [rkind]
      rw [h1', all_head h2', if_neg (show ¬ (c :: t.take n ∈ signs) from fun hm => by have := (signs_head _ _ hm).2.2.1; rw [h3] at this; exact absurd this (by decide))]
      rw [e2, ht]
      simp only []
      rw [all_take_run]; rfl
    have h3' : isS c = false := by simpa using h3
    by_cases h4 : c = 35
    · have ht : token (c :: t) = (5, run isC (c :: t)) := by simp only [token]; rw [if_neg h1, if_neg h2, if_neg h3, if_pos h4]
      rw [e]
      simp only [rkind]
      rw [h1', all_head h2', if_neg (show ¬ (c :: t.take n ∈ signs) from fun hm => (signs_head _ _ hm).2.2.2 h4), all_head h3']
      rw [e2, ht]
      simp only []
      rw [all_take_run, decide_eq_true h4]; rfl
    · by_cases h5 : sign (c :: t) = []
      · have ht : token (c :: t) = (0, 0) := by simp only [token]; rw [if_neg h1, if_neg h2, if_neg h3, if_neg h4, if_pos h5]
        rw [ht] at h0; exact absurd rfl h0
      · have ht : token (c :: t) = (3, (sign (c :: t)).length) := by simp only [token]; rw [if_neg h1, if_neg h2, if_neg h3, if_neg h4, if_neg h5]
        obtain ⟨hm, hpre⟩ := sign_mem _ h5
        have hs : (c :: t).take (token (c :: t)).2 = sign (c :: t) := by
          rw [ht]
          rw [List.isPrefixOf_iff_prefix] at hpre
          exact (List.prefix_iff_eq_take.1 hpre).symm
        rw [e]
        simp only [rkind]
        rw [h1', all_head h2', if_pos (show c :: t.take n ∈ signs by rw [e2, hs]; exact hm), ht]; rfl
theorem rkind_longer (s : Bytes) (m : Nat) (h : (token s).2 < m) (hm : m ≤ s.length) : rkind (s.take m) = 0 := by
  cases s with
  | nil => simp at hm; omega
  | cons c t =>
    obtain ⟨n, rfl⟩ : ∃ n, m = n + 1 := ⟨m - 1, by omega⟩
    have e : (c :: t).take (n + 1) = c :: t.take n := List.take_succ_cons
    obtain ⟨xL, xD, xS⟩ := head_excl c
    have nosign : ∀ (hh : isL c = true ∨ isD c = true ∨ isS c = true ∨ c = 35), ¬ (c :: t.take n ∈ signs) := by
      intro hh hm
      obtain ⟨q1, q2, q3, q4⟩ := signs_head _ _ hm
      rcases hh with hh | hh | hh | hh
      · rw [q1] at hh; exact absurd hh (by decide)
      · rw [q2] at hh; exact absurd hh (by decide)
      · rw [q3] at hh; exact absurd hh (by decide)
      · exact q4 hh
    by_cases h1 : isL c = true
    · have ht : token (c :: t) = (1, run isW (c :: t)) := by simp only [token]; rw [if_pos h1]
      rw [ht] at h
      obtain ⟨y1, y2, y3⟩ := xL h1
      rw [e]
      simp only [rkind]
      rw [← e, run_lt_not_all isW _ _ h hm, h1, e, all_head y1, if_neg (nosign (.inl h1)), all_head y2, decide_eq_false y3]; rfl
    have h1' : isL c = false := by simpa using h1
    by_cases h2 : isD c = true
    · have ht : token (c :: t) = (2, run isD (c :: t)) := by simp only [token]; rw [if_neg h1, if_pos h2]
      rw [ht] at h
      obtain ⟨y2, y3⟩ := xD h2
      rw [e]
      simp only [rkind]
      rw [h1', ← e, run_lt_not_all isD _ _ h hm, e, if_neg (nosign (.inr (.inl h2))), all_head y2, decide_eq_false y3]; rfl
    have h2' : isD c = false := by simpa using h2
    by_cases h3 : isS c = true
    · have ht : token (c :: t) = (4, run isS (c :: t)) := by simp only [token]; rw [if_neg h1, if_neg h2, if_pos h3]
      rw [ht] at h
      have y3 := xS h3
      rw [e]
      simp only [rkind]
      rw [h1', all_head h2', if_neg (nosign (.inr (.inr (.inl h3)))), ← e, run_lt_not_all isS _ _ h hm, decide_eq_false y3]; rfl
    have h3' : isS c = false := by simpa using h3
    by_cases h4 : c = 35
    · have ht : token (c :: t) = (5, run isC (c :: t)) := by simp only [token]; rw [if_neg h1, if_neg h2, if_neg h3, if_pos h4]
      rw [ht] at h
      rw [e]
      simp only [rkind]
      rw [h1', all_head h2', if_neg (nosign (.inr (.inr (.inr h4)))), all_head h3', ← e, run_lt_not_all isC _ _ h hm]
      simp
    · have hns : ¬ (c :: t.take n ∈ signs) := by
        intro hx
        have hl : (c :: t.take n).length = n + 1 := by
          rw [← e, List.length_take, Nat.min_eq_left hm]
        have := sign_longest (c :: t) _ hx (by
          rw [List.isPrefixOf_iff_prefix, ← e]; exact List.take_prefix _ _)
        rw [hl] at this
        have ht : (token (c :: t)).2 = (sign (c :: t)).length := by
          simp only [token]; rw [if_neg h1, if_neg h2, if_neg h3, if_neg h4]
          split
          · rename_i h5; rw [h5]; rfl
          · rfl
        omega
      rw [e]
      simp only [rkind]
      rw [h1', all_head h2', if_neg hns, all_head h3', decide_eq_false h4]; rfl

end Go.Proofs.YtlmmobfebjideaaDoor.Lx

/- The table of operators, read: Symbol and Level, walked. -/
namespace Go.Proofs.YtlmmobfebjideaaDoor.P
open Go.RowKit Go.Proofs.YtlmmobfebjideaaDoor Go.Proofs.YtlmmobfebjideaaDoorW.PrintWords
set_option linter.unusedVariables false
set_option linter.unusedSimpArgs false

def symOf (k : Int) : List UInt8 := if 4 ≤ k ∧ k ≤ 23 then opSymbols.getD (k - 4).toNat [] else []
def levOf (k : Int) : Int := if 4 ≤ k ∧ k ≤ 23 then (opLevels.getD (k - 4).toNat 0 : Int) else 0

theorem opCells_at (i : Nat) (h : i < 20) : opCells[i * 2]? = some (.string ⟨(opSymbols.getD i []).toArray⟩) ∧ opCells[i * 2 + 1]? = some (.int .i64 (opLevels.getD i 0 : Int)) := by
  have key : ∀ i : Fin 20, opCells[i.val * 2]? = some (.string ⟨(opSymbols.getD i.val []).toArray⟩) ∧ opCells[i.val * 2 + 1]? = some (.int .i64 (opLevels.getD i.val 0 : Int)) := by
    intro i
    match i with
    | ⟨0, _⟩ => exact ⟨rfl, rfl⟩ | ⟨1, _⟩ => exact ⟨rfl, rfl⟩ | ⟨2, _⟩ => exact ⟨rfl, rfl⟩ | ⟨3, _⟩ => exact ⟨rfl, rfl⟩
    | ⟨4, _⟩ => exact ⟨rfl, rfl⟩ | ⟨5, _⟩ => exact ⟨rfl, rfl⟩ | ⟨6, _⟩ => exact ⟨rfl, rfl⟩ | ⟨7, _⟩ => exact ⟨rfl, rfl⟩
    | ⟨8, _⟩ => exact ⟨rfl, rfl⟩ | ⟨9, _⟩ => exact ⟨rfl, rfl⟩ | ⟨10, _⟩ => exact ⟨rfl, rfl⟩ | ⟨11, _⟩ => exact ⟨rfl, rfl⟩
    | ⟨12, _⟩ => exact ⟨rfl, rfl⟩ | ⟨13, _⟩ => exact ⟨rfl, rfl⟩ | ⟨14, _⟩ => exact ⟨rfl, rfl⟩ | ⟨15, _⟩ => exact ⟨rfl, rfl⟩
    | ⟨16, _⟩ => exact ⟨rfl, rfl⟩ | ⟨17, _⟩ => exact ⟨rfl, rfl⟩ | ⟨18, _⟩ => exact ⟨rfl, rfl⟩ | ⟨19, _⟩ => exact ⟨rfl, rfl⟩
    | ⟨n + 20, h⟩ => omega
  exact key ⟨i, h⟩

set_option maxHeartbeats 2000000 in
theorem entry_any (k : Int) (h0 : 0 ≤ k) (h1 : k ≤ 255) (w : World) (hL : Laid w) :
    Calls Tryd.prog 45 #[.int .u8 k] w fun e w' => e = .returned (.agg #[.string ⟨(symOf k).toArray⟩, .int .i64 (levOf k)]) ∧ Below w.heap.size w w' := by
  have hb : ∀ cs, Below w.heap.size w (w.alloc (.cells cs 73)) := fun _ => (Below.refl _ _).alloc (Nat.le_refl _) _
  by_cases h2 : 4 ≤ k
  · by_cases h3 : k ≤ 23
    · obtain ⟨i, hi⟩ : ∃ i : Nat, k = (i : Int) + 4 := ⟨(k - 4).toNat, by omega⟩
      have hlt : i < 20 := by omega
      have HS := Lib.hid (show symOf k = opSymbols.getD i [] by unfold symOf; rw [if_pos ⟨h2, h3⟩, show (k - 4).toNat = i by omega])
      have HL := Lib.hid (show levOf k = (opLevels.getD i 0 : Int) by unfold levOf; rw [if_pos ⟨h2, h3⟩, show (k - 4).toNat = i by omega])
      have c0 : w.cell? ⟨0, i * 2, none⟩ = some (.string ⟨(opSymbols.getD i []).toArray⟩) := (hL.opAt _).trans (opCells_at i hlt).1
      have c1 : w.cell? ⟨0, i * 2 + 1, none⟩ = some (.int .i64 (opLevels.getD i 0 : Int)) := (hL.opAt _).trans (opCells_at i hlt).2
      generalize opSymbols.getD i [] = sy at c0 HS
      generalize (opLevels.getD i 0 : Int) = lv at c1 HL
      replace c0 := ((hb #[.string ⟨#[]⟩, .int .i64 0]).cell (World.block_lt_of_cell? w _ c0)).trans c0
      replace c1 := ((hb #[.string ⟨#[]⟩, .int .i64 0]).cell (World.block_lt_of_cell? w _ c1)).trans c1
      have g1 : ¬ (k < 4) := by omega
      have g2 : ¬ (23 < k) := by omega
      have e0 : (k - 4) % 256 = (i : Int) := by omega
      have e1 : k - 4 = (i : Int) := by omega
      clear hi h2 h3
      go_enter Tryd.func45, Tryd.ntmps45
      go_wp2
      (try simp only [Exit.inBlock, Exit.then])
      refine bodyPost_ret (results_cell_row rfl _ _ w.heap.size 73 #[.string ⟨sy.toArray⟩, .int .i64 lv] (0, 0) _ rfl (heap_alloc_new w _) Tryd.underlying73 rfl (by kernel_rfl)) rfl ?_
      exact ⟨by rw [HS.out, HL.out], hb _⟩
    · have HS := Lib.hid (show symOf k = [] by unfold symOf; rw [if_neg (by omega)])
      have HL := Lib.hid (show levOf k = 0 by unfold levOf; rw [if_neg (by omega)])
      have g1 : ¬ (k < 4) := by omega
      have g2 : 23 < k := by omega
      clear h2 h3
      go_enter Tryd.func45, Tryd.ntmps45
      go_wp2
      (try simp only [Exit.inBlock, Exit.then])
      refine bodyPost_ret (results_cell_row rfl _ _ w.heap.size 73 #[.string ⟨#[]⟩, .int .i64 0] (0, 0) _ rfl (heap_alloc_new w _) Tryd.underlying73 rfl (by kernel_rfl)) rfl ?_
      exact ⟨by rw [HS.out, HL.out], hb _⟩
  · have HS := Lib.hid (show symOf k = [] by unfold symOf; rw [if_neg (by omega)])
    have HL := Lib.hid (show levOf k = 0 by unfold levOf; rw [if_neg (by omega)])
    have g1 : k < 4 := by omega
    clear h2
    go_enter Tryd.func45, Tryd.ntmps45
    go_wp2
    (try simp only [Exit.inBlock, Exit.then])
    refine bodyPost_ret (results_cell_row rfl _ _ w.heap.size 73 #[.string ⟨#[]⟩, .int .i64 0] (0, 0) _ rfl (heap_alloc_new w _) Tryd.underlying73 rfl (by kernel_rfl)) rfl ?_
    exact ⟨by rw [HS.out, HL.out], hb _⟩

theorem field_symbol (a b : Value) (W : World) : (Instr.field 73 (.agg #[a, b]) 0).run Tryd.prog W = .ok a W := by
  have hu := run_underlying (w := W) Tryd.underlying73
  have h1 := run_underlying (w := W) Tryd.underlying9
  simp [Instr.field, Sem.run_bind, hu, part, isAgg, h1, Result.andThen, asAgg]
theorem field_level (a b : Value) (W : World) : (Instr.field 73 (.agg #[a, b]) 1).run Tryd.prog W = .ok b W := by
  have hu := run_underlying (w := W) Tryd.underlying73
  have h1 := run_underlying (w := W) Tryd.underlying3
  simp [Instr.field, Sem.run_bind, hu, part, isAgg, h1, Result.andThen, asAgg]

set_option maxHeartbeats 1000000 in
set_option maxRecDepth 100000 in
theorem symbol_any (k : Int) (h0 : 0 ≤ k) (h1 : k ≤ 255) (w : World) (hL : Laid w) :
    Calls Tryd.prog 34 #[.int .u8 k] w fun e w' => e = .returned (.string ⟨(symOf k).toArray⟩) ∧ Below w.heap.size w w' := by
  have hf := field_symbol
  go_enter Tryd.func34, Tryd.ntmps34
  go_wp2_with fail
  refine (entry_any k h0 h1 w hL).mono ?_
  rintro e w1 ⟨rfl, hb⟩
  go_wp2_with fail
  go_ret
  exact ⟨rfl, hb⟩

set_option maxHeartbeats 1000000 in
set_option maxRecDepth 100000 in
theorem level_any (k : Int) (h0 : 0 ≤ k) (h1 : k ≤ 255) (w : World) (hL : Laid w) :
    Calls Tryd.prog 32 #[.int .u8 k] w fun e w' => e = .returned (.int .i64 (levOf k)) ∧ Below w.heap.size w w' := by
  have hf := field_level
  go_enter Tryd.func32, Tryd.ntmps32
  go_wp2_with fail
  refine (entry_any k h0 h1 w hL).mono ?_
  rintro e w1 ⟨rfl, hb⟩
  go_wp2_with fail
  go_ret
  exact ⟨rfl, hb⟩

/-! ### the contracts in the print's form -/
def word_Symbol.f (a0 : Int) : Option ByteArray := if 0 ≤ a0 ∧ a0 ≤ 255 then some ⟨(symOf a0).toArray⟩ else none
theorem word_Symbol.calls (a0 : Int) (r : ByteArray) (w : World) (hL : Laid w) (h : word_Symbol.f a0 = some r) :
    Calls Tryd.prog 34 #[.int .u8 a0] w fun e w' => e = .returned (.string r) ∧ Below w.heap.size w w' := by
  unfold word_Symbol.f at h
  by_cases h0 : 0 ≤ a0 ∧ a0 ≤ 255
  · rw [if_pos h0] at h; cases h; exact symbol_any a0 h0.1 h0.2 w hL
  · rw [if_neg h0] at h; cases h
def word_Level.f (a0 : Int) : Option Int := if 0 ≤ a0 ∧ a0 ≤ 255 then some (levOf a0) else none
theorem word_Level.calls (a0 : Int) (r : Int) (w : World) (hL : Laid w) (h : word_Level.f a0 = some r) :
    Calls Tryd.prog 32 #[.int .u8 a0] w fun e w' => e = .returned (.int .i64 r) ∧ Below w.heap.size w w' := by
  unfold word_Level.f at h
  by_cases h0 : 0 ≤ a0 ∧ a0 ≤ 255
  · rw [if_pos h0] at h; cases h; exact level_any a0 h0.1 h0.2 w hL
  · rw [if_neg h0] at h; cases h

end Go.Proofs.YtlmmobfebjideaaDoor.P

/- The plain trees, their printer and their parser. It imports of the program the types of values alone. -/
namespace Go.Proofs.YtlmmobfebjideaaDoor.M
open Go.Proofs.YtlmmobfebjideaaDoor.P
set_option linter.unusedVariables false
set_option linter.unusedSimpArgs false

/-- A node of a tree: f0 its kind, f1 its number, f2 its name, f3 its children. -/
abbrev Nd := S24
abbrev Bytes := List UInt8

theorem nd_ind {C : Nd → Prop} (h : ∀ k m s (l : List Nd), (∀ x ∈ l, C x) → C ⟨k, m, s, l⟩) : ∀ n, C n := by
  intro n
  refine S24.rec (motive_1 := C) (motive_2 := fun l => ∀ x ∈ l, C x) ?_ ?_ ?_ n
  · intro k m s l hl; exact h k m s l hl
  · intro x hx; cases hx
  · intro a l ha hl x hx
    rcases List.mem_cons.1 hx with rfl | hx
    · exact ha
    · exact hl x hx

/-! ### measures -/
mutual
def size : Nd → Nat
  | ⟨_, _, _, l⟩ => 1 + sizes l
def sizes : List Nd → Nat
  | [] => 0
  | a :: l => size a + sizes l
end
mutual
def depth : Nd → Nat
  | ⟨_, _, _, l⟩ => 1 + depths l
def depths : List Nd → Nat
  | [] => 0
  | a :: l => max (depth a) (depths l)
end
mutual
def nest : Nd → Nat
  | ⟨k, _, _, l⟩ => nests l + (if k = 42 ∨ k = 43 then 1 else 0)
def nests : List Nd → Nat
  | [] => 0
  | a :: l => max (nest a) (nests l)
end
def limited (n : Nd) : Bool := decide (depth n ≤ 16) && decide (size n ≤ 400) && decide (nest n ≤ 4)

/-! ### validity; the categories: 1 expression, 2 place, 4 statement, 8 block -/
structure Form where
  is : List Nat
  name : Bool
  low : Int
  high : Int
  kids : List Nat
def form (k : Int) : Option Form :=
  if 6 ≤ k ∧ k ≤ 23 then some ⟨[1], false, 0, 0, [1, 1]⟩
  else if k = 1 then some ⟨[1], false, 0, 2147483647, []⟩
  else if k = 2 then some ⟨[1, 2], true, 0, 0, []⟩
  else if k = 3 then some ⟨[1, 2], true, 0, 0, [1]⟩
  else if k = 4 ∨ k = 5 then some ⟨[1], false, 0, 0, [1]⟩
  else if k = 40 then some ⟨[4], false, 0, 0, [2, 1]⟩
  else if k = 41 then some ⟨[4], false, 0, 0, [1, 8, 8]⟩
  else if k = 42 then some ⟨[4], true, 1, 1000, [8]⟩
  else if k = 43 then some ⟨[4], false, 1, 1000, [1, 8]⟩
  else if k = 44 then some ⟨[4], false, 0, 7, [2]⟩
  else if k = 45 then some ⟨[4], false, 0, 7, [1]⟩
  else if k = 46 then some ⟨[4], true, 0, 0, [8]⟩
  else none
mutual
def isN : Nat → Nd → Bool
  | c, ⟨k, m, s, l⟩ =>
    if k = 47 then decide (c = 8) && decide (m = 0) && decide (s.data.toList = []) && isAll 4 l
    else match form k with
      | none => false
      | some f => f.is.contains c && decide (f.low ≤ m) && decide (m ≤ f.high) && (if f.name = true then Lx.name s.data.toList else decide (s.data.toList = [])) && isZip f.kids l
def isAll : Nat → List Nd → Bool
  | _, [] => true
  | c, a :: l => isN c a && isAll c l
def isZip : List Nat → List Nd → Bool
  | [], [] => true
  | c :: cs, a :: l => isN c a && isZip cs l
  | _, _ => false
end

/-! ### the printer -/
def binary (n : Nd) : Bool := decide (6 ≤ n.f0) && decide (n.f0 ≤ 23)
def paren (b : Bool) (s : Bytes) : Bytes := if b = true then [40] ++ s ++ [41] else s
def wants (n : Nd) (lim : Int) : Bool := binary n && decide (levOf n.f0 < lim)
mutual
def pE : Nd → Bytes
  | ⟨k, m, s, l⟩ =>
    if k = 1 then Lib.itoa m
    else if k = 2 then s.data.toList
    else if k = 3 then s.data.toList ++ [91] ++ pE1 l ++ [93]
    else if 6 ≤ k ∧ k ≤ 23 then pE2 k l
    else symOf k ++ pEu (levOf k) l
def pE1 : List Nd → Bytes
  | a :: _ => pE a
  | [] => []
def pE2 : Int → List Nd → Bytes
  | k, a :: l => paren (wants a (levOf k)) (pE a) ++ [32] ++ symOf k ++ [32] ++ pEu (levOf k + 1) l
  | _, [] => []
def pEu : Int → List Nd → Bytes
  | lim, a :: _ => paren (wants a lim) (pE a)
  | _, [] => []
end
def tabs (d : Nat) : Bytes := List.replicate d 9
mutual
def pS : Nat → Nd → Bytes
  | d, ⟨k, m, s, l⟩ =>
    if k = 40 then tabs d ++ pE1 l ++ [32, 61, 32] ++ pE1 l.tail ++ [59, 10]
    else if k = 41 then match l with
      | c :: a :: b :: _ => tabs d ++ [105, 102, 32] ++ pE c ++ [32, 123, 10] ++ pB (d + 1) a ++ tabs d ++ [125, 32, 101, 108, 115, 101, 32, 123, 10] ++ pB (d + 1) b ++ tabs d ++ [125, 10]
      | _ => []
    else if k = 42 then match l with
      | a :: _ => tabs d ++ [102, 111, 114, 32] ++ s.data.toList ++ [32, 60, 32] ++ Lib.itoa m ++ [32, 123, 10] ++ pB (d + 1) a ++ tabs d ++ [125, 10]
      | _ => []
    else if k = 43 then match l with
      | c :: a :: _ => tabs d ++ [119, 104, 105, 108, 101, 32] ++ pE c ++ [32, 98, 111, 117, 110, 100, 32] ++ Lib.itoa m ++ [32, 123, 10] ++ pB (d + 1) a ++ tabs d ++ [125, 10]
      | _ => []
    else if k = 44 then tabs d ++ [105, 110, 32] ++ pE1 l ++ [44, 32] ++ Lib.itoa m ++ [59, 10]
    else if k = 45 then tabs d ++ [111, 117, 116, 32] ++ pE1 l ++ [44, 32] ++ Lib.itoa m ++ [59, 10]
    else if k = 46 then match l with
      | a :: _ => tabs d ++ [108, 111, 99, 107, 32] ++ s.data.toList ++ [32, 123, 10] ++ pB (d + 1) a ++ tabs d ++ [125, 10]
      | _ => []
    else []
def pB : Nat → Nd → Bytes
  | d, ⟨_, _, _, l⟩ => pSs d l
def pSs : Nat → List Nd → Bytes
  | _, [] => []
  | d, a :: l => pS d a ++ pSs d l
end

/-! ### the parser, on the solid tokens of a text that ends at E; an error is an offset and a number -/
abbrev Tok := Lx.Tok
abbrev PR (α : Type) := Except (Nat × Nat) (α × List Tok)
def peek : List Tok → Bytes
  | [] => []
  | t :: _ => t.text
def kindAt : List Tok → Nat
  | [] => 0
  | t :: _ => t.kind
def posAt (E : Nat) : List Tok → Nat
  | [] => E
  | t :: _ => t.pos
def wrong (E : Nat) : List Tok → Nat × Nat
  | [] => (E, 4)
  | t :: _ => (t.pos, 3)
def sees (s : Bytes) (l : List Tok) : Bool := !l.isEmpty && decide (peek l = s)
def want (E : Nat) (s : Bytes) (l : List Tok) : Except (Nat × Nat) (List Tok) := if sees s l = true then .ok l.tail else .error (wrong E l)
def pName (E : Nat) (l : List Tok) : PR Bytes := if kindAt l = 1 ∧ Lx.name (peek l) = true then .ok (peek l, l.tail) else .error (wrong E l)
def valOf (s : Bytes) : Nat := s.foldl (fun n c => 10 * n + (c.toNat - 48)) 0
def pNum (E lo hi : Nat) (l : List Tok) : PR Nat :=
  if kindAt l = 2 then (if lo ≤ valOf (peek l) ∧ valOf (peek l) ≤ hi then .ok (valOf (peek l), l.tail) else .error (posAt E l, 2)) else .error (wrong E l)
def opOf (l : List Tok) : Option Int := if kindAt l = 3 then ((List.range 18).map fun k => ((k + 6 : Nat) : Int)).find? (fun k => symOf k == peek l) else none
def nd (k : Int) (l : List Nd) : Nd := ⟨k, 0, ⟨#[]⟩, l⟩
def ba (s : Bytes) : ByteArray := ⟨s.toArray⟩

mutual
def expr : Nat → Nat → Int → List Tok → PR Nd
  | 0, _, _, _ => .error (0, 99)
  | f + 1, E, v, l => match unary f E l with
    | .error e => .error e
    | .ok (x, r) => rest f E v x r
def rest : Nat → Nat → Int → Nd → List Tok → PR Nd
  | 0, _, _, _, _ => .error (0, 99)
  | f + 1, E, v, x, l => match opOf l with
    | none => .ok (x, l)
    | some op => if levOf op < v then .ok (x, l) else match expr f E (levOf op + 1) l.tail with
      | .error e => .error e
      | .ok (y, r) => rest f E v (nd op [x, y]) r
def unary : Nat → Nat → List Tok → PR Nd
  | 0, _, _ => .error (0, 99)
  | f + 1, E, l =>
    if peek l = [45] then match unary f E l.tail with
      | .error e => .error e
      | .ok (x, r) => .ok (nd 4 [x], r)
    else if peek l = [33] then match unary f E l.tail with
      | .error e => .error e
      | .ok (x, r) => .ok (nd 5 [x], r)
    else if peek l = [40] then match expr f E 1 l.tail with
      | .error e => .error e
      | .ok (x, r) => match want E [41] r with
        | .error e => .error e
        | .ok r => .ok (x, r)
    else if kindAt l = 2 then match pNum E 0 2147483647 l with
      | .error e => .error e
      | .ok (n, r) => .ok (⟨1, (n : Int), ⟨#[]⟩, []⟩, r)
    else place f E l
def place : Nat → Nat → List Tok → PR Nd
  | 0, _, _ => .error (0, 99)
  | f + 1, E, l => match pName E l with
    | .error e => .error e
    | .ok (s, r) => if sees [91] r = true then match expr f E 1 r.tail with
        | .error e => .error e
        | .ok (x, r) => match want E [93] r with
          | .error e => .error e
          | .ok r => .ok (⟨3, 0, ba s, [x]⟩, r)
      else .ok (⟨2, 0, ba s, []⟩, r)
end
/-- Enough rounds for an expression of so many tokens. -/
def enough (l : List Tok) : Nat := 4 * l.length + 4
def pExpr (E : Nat) (v : Int) (l : List Tok) : PR Nd := expr (enough l) E v l
def pPlace (E : Nat) (l : List Tok) : PR Nd := place (enough l) E l

mutual
def stmt : Nat → Nat → List Tok → Except (Nat × Nat) (Nd × List Tok)
  | 0, _, _ => .error (0, 99)
  | f + 1, E, l =>
    if peek l = [105, 102] then do
      let (c, r) ← pExpr E 1 l.tail
      let (a, r) ← block f E r
      let r ← want E [101, 108, 115, 101] r
      let (b, r) ← block f E r
      return (nd 41 [c, a, b], r)
    else if peek l = [102, 111, 114] then do
      let (s, r) ← pName E l.tail
      let r ← want E [60] r
      let (n, r) ← pNum E 1 1000 r
      let (a, r) ← block f E r
      return (⟨42, (n : Int), ba s, [a]⟩, r)
    else if peek l = [119, 104, 105, 108, 101] then do
      let (c, r) ← pExpr E 1 l.tail
      let r ← want E [98, 111, 117, 110, 100] r
      let (n, r) ← pNum E 1 1000 r
      let (a, r) ← block f E r
      return (⟨43, (n : Int), ⟨#[]⟩, [c, a]⟩, r)
    else if peek l = [105, 110] then do
      let (x, r) ← pPlace E l.tail
      let r ← want E [44] r
      let (n, r) ← pNum E 0 7 r
      let r ← want E [59] r
      return (⟨44, (n : Int), ⟨#[]⟩, [x]⟩, r)
    else if peek l = [111, 117, 116] then do
      let (x, r) ← pExpr E 1 l.tail
      let r ← want E [44] r
      let (n, r) ← pNum E 0 7 r
      let r ← want E [59] r
      return (⟨45, (n : Int), ⟨#[]⟩, [x]⟩, r)
    else if peek l = [108, 111, 99, 107] then do
      let (s, r) ← pName E l.tail
      let (a, r) ← block f E r
      return (⟨46, 0, ba s, [a]⟩, r)
    else do
      let (x, r) ← pPlace E l
      let r ← want E [61] r
      let (y, r) ← pExpr E 1 r
      let r ← want E [59] r
      return (nd 40 [x, y], r)
def block : Nat → Nat → List Tok → Except (Nat × Nat) (Nd × List Tok)
  | 0, _, _ => .error (0, 99)
  | f + 1, E, l => do
    let r ← want E [123] l
    let (b, r) ← stmts f E [] r
    let r ← want E [125] r
    return (b, r)
def stmts : Nat → Nat → List Nd → List Tok → Except (Nat × Nat) (Nd × List Tok)
  | 0, _, _, _ => .error (0, 99)
  | f + 1, E, acc, l => if l = [] ∨ sees [125] l = true then .ok (nd 47 acc, l) else do
    let (s, r) ← stmt f E l
    stmts f E (acc ++ [s]) r
end
def pStmts (E : Nat) (l : List Tok) : Except (Nat × Nat) (Nd × List Tok) := stmts (enough l) E [] l

end Go.Proofs.YtlmmobfebjideaaDoor.M

/- ast.forms: the map of all kinds' forms, walked. -/
namespace Go.Proofs.YtlmmobfebjideaaDoor.P
open Go.RowKit Go.Proofs.YtlmmobfebjideaaDoor Go.Proofs.YtlmmobfebjideaaDoor.M Go.Proofs.YtlmmobfebjideaaDoorW.PrintWords
set_option linter.unusedVariables false
set_option linter.unusedSimpArgs false

/-- Everything but one block is as it was. -/
structure Kept (r : Nat) (w w' : World) : Prop where
  os : w'.os = w.os
  tape : w'.tape = w.tape
  output : w'.output = w.output
  size : w.heap.size ≤ w'.heap.size
  block : ∀ k, k < w.heap.size → k ≠ r → w'.heap[k]? = w.heap[k]?
theorem Kept.refl (r : Nat) (w : World) : Kept r w w := ⟨rfl, rfl, rfl, Nat.le_refl _, fun _ _ _ => rfl⟩
theorem Kept.trans {r : Nat} {a b c : World} (h : Kept r a b) (k : Kept r b c) : Kept r a c :=
  ⟨k.os.trans h.os, k.tape.trans h.tape, k.output.trans h.output, Nat.le_trans h.size k.size, fun i hi hr => (k.block i (Nat.lt_of_lt_of_le hi h.size) hr).trans (h.block i hi hr)⟩
theorem Kept.of {r : Nat} {w w' : World} (h : Below w.heap.size w w') : Kept r w w' := ⟨h.os, h.tape, h.output, h.size, fun k hk _ => h.block k hk⟩
theorem Kept.below {r n : Nat} {w w' : World} (h : Kept r w w') (hn : n ≤ r) (hw : n ≤ w.heap.size) : Below n w w' :=
  ⟨h.os, h.tape, h.output, h.size, fun k hk => h.block k (by omega) (by omega)⟩
theorem Kept.alloc {r : Nat} {a w : World} (h : Kept r a w) (o : Obj) : Kept r a (w.alloc o) :=
  h.trans (.of ((Below.refl _ _).alloc (Nat.le_refl _) o))

/-- The mark of a form's categories. -/
def mask (f : M.Form) : Int := (f.is.foldl (· + ·) 0 : Nat)
def formV (f : M.Form) (A : Option Addr) (c : Nat) : Value := .agg #[.int .u8 (mask f), .bool f.name, .int .i64 f.low, .int .i64 f.high, .slice A f.kids.length c]
def KidsAt (W : World) (r : Nat) (A : Option Addr) (ks : List Nat) : Prop :=
  ks = [] ∨ ∃ b, A = some ⟨b, 0, none⟩ ∧ b ≠ r ∧ W.heap[b]? = some (.cells (ks.map fun (k : Nat) => Value.int .u8 (k : Int)).toArray 43 (0, 0))
theorem lt_of_heap {W : World} {b : Nat} {o : Obj} (h : W.heap[b]? = some o) : b < W.heap.size := (Array.getElem?_eq_some_iff.1 h).1
theorem KidsAt.kept {W W' : World} {r : Nat} {A : Option Addr} {ks : List Nat} (h : KidsAt W r A ks) (hk : Kept r W W') : KidsAt W' r A ks := by
  rcases h with h | ⟨b, e, hb, hh⟩
  · exact .inl h
  · exact .inr ⟨b, e, hb, (hk.block b (lt_of_heap hh) hb).trans hh⟩
def keyD : TypeDesc := .int .u8
/-- What the entries es say of kind k. -/
def Has (W : World) (r : Nat) (es : List MapEntry) (k : Int) : Option M.Form → Prop
  | none => Instr.findNow keyD (.int .u8 k) es 0 = some none
  | some f => ∃ i A c, Instr.findNow keyD (.int .u8 k) es 0 = some (some (i, formV f A c)) ∧ f.kids.length ≤ c ∧ KidsAt W r A f.kids
/-- Block r holds a map that says of every kind what F says. -/
def MapF (W : World) (r : Nat) (F : Int → Option M.Form) : Prop :=
  ∃ es clock, W.heap[r]? = some (.map es clock) ∧ ∀ k, Has W r es.toList k (F k)
theorem Has.kept {W W' : World} {r : Nat} {es : List MapEntry} {k : Int} {x : Option M.Form} (h : Has W r es k x) (hk : Kept r W W') : Has W' r es k x := by
  cases x with
  | none => exact h
  | some f =>
    obtain ⟨i, A, c, h1, h2, h3⟩ := h
    exact ⟨i, A, c, h1, h2, h3.kept hk⟩
theorem MapF.below {W W' : World} {r : Nat} {F : Int → Option M.Form} (h : MapF W r F) (hb : Below W.heap.size W W') : MapF W' r F := by
  obtain ⟨es, clock, h1, h2⟩ := h
  exact ⟨es, clock, (hb.block r (lt_of_heap h1)).trans h1, fun k => (h2 k).kept (.of hb)⟩
theorem MapF.alloc {W : World} {r : Nat} {F : Int → Option M.Form} (h : MapF W r F) (o : Obj) : MapF (W.alloc o) r F :=
  h.below ((Below.refl _ _).alloc (Nat.le_refl _) o)
theorem MapF.congr {W : World} {r : Nat} {F G : Int → Option M.Form} (h : MapF W r F) (e : ∀ k, F k = G k) : MapF W r G := by
  have : F = G := funext e
  rwa [← this]
theorem MapF.lt {W : World} {r : Nat} {F : Int → Option M.Form} (h : MapF W r F) : r < W.heap.size := by
  obtain ⟨es, clock, h1, _⟩ := h
  exact lt_of_heap h1

theorem findNow_push (k k' : Int) (v : Value) (born : Nat) : ∀ (l : List MapEntry) (i : Nat), 
    Instr.findNow keyD (.int .u8 k) (l ++ [{ key := .int .u8 k', val := v, born := born }]) i =
      match Instr.findNow keyD (.int .u8 k) l i with
      | some none => if k = k' then some (some (i + l.length, v)) else some none
      | x => x
  | [], i => by
    by_cases h : k = k'
    · simp [Instr.findNow, Instr.sameNow, keyD, h]
    · have hb : (k == k') = false := beq_eq_false_iff_ne.2 h
      simp [Instr.findNow, Instr.sameNow, keyD, h, hb]
  | e :: es, i => by
    have ih := findNow_push k k' v born es (i + 1)
    simp only [List.cons_append, Instr.findNow]
    cases Instr.sameNow keyD (.int .u8 k) e.key with
    | none => rfl
    | some b =>
      cases b with
      | true => rfl
      | false =>
        simp only [ih]
        have : i + 1 + es.length = i + (e :: es).length := by simp only [List.length_cons]; omega
        rw [this]

def putF (F : Int → Option M.Form) (k : Int) (f : M.Form) : Int → Option M.Form := fun x => if x = k then some f else F x

theorem map_step {W : World} {r : Nat} {F : Int → Option M.Form} (hM : MapF W r F) (k : Int) (hk : F k = none) (f : M.Form) {A : Option Addr} {c : Nat} (hA : KidsAt W r A f.kids) (hc : f.kids.length ≤ c) {V : Value} (hV : formV f A c = V) :
    ∃ W', (Instr.mapUpdate 39 (.map (some r)) (.int .u8 k) V).run Tryd.prog W = .ok () W' ∧ MapF W' r (putF F k f) ∧ Kept r W W' := by
  obtain ⟨es, clock, h1, h2⟩ := hM
  have hn : Instr.findNow keyD (.int .u8 k) es.toList 0 = some none := by have := h2 k; rw [hk] at this; exact this
  have hu : Tryd.prog.underlying 39 = some (.map 5 64) := Tryd.underlying39
  have hu8 : Tryd.prog.underlying 5 = some (.int .u8) := Tryd.underlying5
  have hkey : MapKept.IsKey keyD (.int .u8 k) := rfl
  have hlt := lt_of_heap h1
  refine ⟨{ W with heap := W.heap.setIfInBounds r (.map (es.push { key := .int .u8 k, val := V, born := clock }) (clock + 1)) }, ?_, ?_, ?_⟩
  · have hrun : (Instr.findKey 5 (.int .u8 k) es.toList).run Tryd.prog W = .ok none W := MapKept.run_findKey hu8 hn
    simp [Instr.mapUpdate, run_underlying hu, MapKept.run_getObj_map h1, MapKept.run_checkKey hu8 hkey, hrun, MapKept.run_setObj_map _ h1, Result.andThen]
  · have hK : Kept r W { W with heap := W.heap.setIfInBounds r (.map (es.push { key := .int .u8 k, val := V, born := clock }) (clock + 1)) } :=
      ⟨rfl, rfl, rfl, by simp, fun i _ hi => (MapKept.heap_set h1).2 i hi⟩
    refine ⟨_, _, (MapKept.heap_set h1).1, fun x => ?_⟩
    have h3 := (h2 x).kept hK
    unfold putF
    by_cases hx : x = k
    · rw [if_pos hx]
      subst hx
      refine ⟨0 + es.toList.length, A, c, ?_, hc, hA.kept hK⟩
      rw [Array.toList_push, findNow_push, hn]
      simp [hV]
    · rw [if_neg hx]
      cases hF : F x with
      | none =>
        rw [hF] at h3
        have h3' : Instr.findNow keyD (.int .u8 x) es.toList 0 = some none := h3
        show Instr.findNow keyD (.int .u8 x) _ 0 = some none
        rw [Array.toList_push, findNow_push, h3']
        simp [hx]
      | some g =>
        rw [hF] at h3
        obtain ⟨i, A2, c2, g1, g2, g3⟩ := h3
        refine ⟨i, A2, c2, ?_, g2, g3⟩
        rw [Array.toList_push, findNow_push, g1]
  · exact ⟨rfl, rfl, rfl, by simp, fun i _ hi => (MapKept.heap_set h1).2 i hi⟩

theorem kids_new (W : World) (r : Nat) (hr : r < W.heap.size) (ks : List Nat) : KidsAt (W.alloc (.cells (ks.map fun (k : Nat) => Value.int .u8 (k : Int)).toArray 43)) r (some ⟨W.heap.size, 0, none⟩) ks :=
  .inr ⟨W.heap.size, rfl, by omega, heap_alloc_new W _⟩

/-- The first twelve. -/
def F0 : Int → Option M.Form := fun _ => none
def F1 : Int → Option M.Form := putF F0 1 ⟨[1], false, 0, 2147483647, []⟩
def F2 : Int → Option M.Form := putF F1 2 ⟨[1, 2], true, 0, 0, []⟩
def F3 : Int → Option M.Form := putF F2 3 ⟨[1, 2], true, 0, 0, [1]⟩
def F4 : Int → Option M.Form := putF F3 4 ⟨[1], false, 0, 0, [1]⟩
def F5 : Int → Option M.Form := putF F4 5 ⟨[1], false, 0, 0, [1]⟩
def F6 : Int → Option M.Form := putF F5 40 ⟨[4], false, 0, 0, [2, 1]⟩
def F7 : Int → Option M.Form := putF F6 41 ⟨[4], false, 0, 0, [1, 8, 8]⟩
def F8 : Int → Option M.Form := putF F7 42 ⟨[4], true, 1, 1000, [8]⟩
def F9 : Int → Option M.Form := putF F8 43 ⟨[4], false, 1, 1000, [1, 8]⟩
def F10 : Int → Option M.Form := putF F9 44 ⟨[4], false, 0, 7, [2]⟩
def F11 : Int → Option M.Form := putF F10 45 ⟨[4], false, 0, 7, [1]⟩
def F12 : Int → Option M.Form := putF F11 46 ⟨[4], true, 0, 0, [8]⟩

set_option maxHeartbeats 4000000 in
set_option maxRecDepth 100000 in
theorem forms_any (w : World) : Calls Tryd.prog 18 #[] w fun e w' => e = .returned (.map (some w.heap.size)) ∧ MapF w' w.heap.size M.form ∧ Below w.heap.size w w' := by
  have hmm := @run_makeMap Tryd.prog
  have HM0 := Lib.hid (show MapF (w.alloc (.map #[] 0)) w.heap.size F0 from ⟨#[], 0, heap_alloc_new w _, fun k => rfl⟩)
  have HK0 := Lib.hid (show Below w.heap.size w (w.alloc (.map #[] 0)) from (Below.refl _ _).alloc (Nat.le_refl _) _)
  go_enter Tryd.func18, Tryd.ntmps18
  go_wp2_with fail
  obtain ⟨W1, e, hM, hK⟩ := map_step HM0.out 1 rfl ⟨[1], false, 0, 2147483647, []⟩ (A := none) (c := 0) (.inl rfl) (Nat.le_refl _) (V := .agg #[.int .u8 1, .bool false, .int .i64 0, .int .i64 2147483647, .slice none 0 0]) rfl
  have HM1 := Lib.hid (show MapF W1 w.heap.size F1 from hM)
  have HK1 := Lib.hid (HK0.out.trans (hK.below (Nat.le_refl _) HK0.out.size))
  rw [e]
  clear e hM hK
  go_wp2_with fail
  obtain ⟨W2, e, hM, hK⟩ := map_step HM1.out 2 rfl ⟨[1, 2], true, 0, 0, []⟩ (A := none) (c := 0) (.inl rfl) (Nat.le_refl _) (V := .agg #[.int .u8 3, .bool true, .int .i64 0, .int .i64 0, .slice none 0 0]) rfl
  have HM2 := Lib.hid (show MapF W2 w.heap.size F2 from hM)
  have HK2 := Lib.hid (HK1.out.trans (hK.below (Nat.le_refl _) HK1.out.size))
  rw [e]
  clear e hM hK
  go_wp2_with fail
  obtain ⟨W3, e, hM, hK⟩ := map_step (HM2.out.alloc (.cells #[.int .u8 1] 43)) 3 rfl ⟨[1, 2], true, 0, 0, [1]⟩ (A := some ⟨W2.heap.size, 0, none⟩) (c := 1) (kids_new W2 _ HM2.out.lt [1]) (Nat.le_refl _) (V := .agg #[.int .u8 3, .bool true, .int .i64 0, .int .i64 0, .slice (some ⟨W2.heap.size, 0, none⟩) 1 1]) rfl
  have HM3 := Lib.hid (show MapF W3 w.heap.size F3 from hM)
  have HK3 := Lib.hid ((HK2.out.alloc HK2.out.size _).trans (hK.below (Nat.le_refl _) (Nat.le_trans HK2.out.size (by simp))))
  rw [e]
  clear e hM hK
  go_wp2_with fail
  obtain ⟨W4, e, hM, hK⟩ := map_step (HM3.out.alloc (.cells #[.int .u8 1] 43)) 4 rfl ⟨[1], false, 0, 0, [1]⟩ (A := some ⟨W3.heap.size, 0, none⟩) (c := 1) (kids_new W3 _ HM3.out.lt [1]) (Nat.le_refl _) (V := .agg #[.int .u8 1, .bool false, .int .i64 0, .int .i64 0, .slice (some ⟨W3.heap.size, 0, none⟩) 1 1]) rfl
  have HM4 := Lib.hid (show MapF W4 w.heap.size F4 from hM)
  have HK4 := Lib.hid ((HK3.out.alloc HK3.out.size _).trans (hK.below (Nat.le_refl _) (Nat.le_trans HK3.out.size (by simp))))
  rw [e]
  clear e hM hK
  go_wp2_with fail
  obtain ⟨W5, e, hM, hK⟩ := map_step (HM4.out.alloc (.cells #[.int .u8 1] 43)) 5 rfl ⟨[1], false, 0, 0, [1]⟩ (A := some ⟨W4.heap.size, 0, none⟩) (c := 1) (kids_new W4 _ HM4.out.lt [1]) (Nat.le_refl _) (V := .agg #[.int .u8 1, .bool false, .int .i64 0, .int .i64 0, .slice (some ⟨W4.heap.size, 0, none⟩) 1 1]) rfl
  have HM5 := Lib.hid (show MapF W5 w.heap.size F5 from hM)
  have HK5 := Lib.hid ((HK4.out.alloc HK4.out.size _).trans (hK.below (Nat.le_refl _) (Nat.le_trans HK4.out.size (by simp))))
  rw [e]
  clear e hM hK
  go_wp2_with fail
  obtain ⟨W6, e, hM, hK⟩ := map_step (HM5.out.alloc (.cells #[.int .u8 2, .int .u8 1] 43)) 40 rfl ⟨[4], false, 0, 0, [2, 1]⟩ (A := some ⟨W5.heap.size, 0, none⟩) (c := 2) (kids_new W5 _ HM5.out.lt [2, 1]) (Nat.le_refl _) (V := .agg #[.int .u8 4, .bool false, .int .i64 0, .int .i64 0, .slice (some ⟨W5.heap.size, 0, none⟩) 2 2]) rfl
  have HM6 := Lib.hid (show MapF W6 w.heap.size F6 from hM)
  have HK6 := Lib.hid ((HK5.out.alloc HK5.out.size _).trans (hK.below (Nat.le_refl _) (Nat.le_trans HK5.out.size (by simp))))
  rw [e]
  clear e hM hK
  go_wp2_with fail
  obtain ⟨W7, e, hM, hK⟩ := map_step (HM6.out.alloc (.cells #[.int .u8 1, .int .u8 8, .int .u8 8] 43)) 41 rfl ⟨[4], false, 0, 0, [1, 8, 8]⟩ (A := some ⟨W6.heap.size, 0, none⟩) (c := 3) (kids_new W6 _ HM6.out.lt [1, 8, 8]) (Nat.le_refl _) (V := .agg #[.int .u8 4, .bool false, .int .i64 0, .int .i64 0, .slice (some ⟨W6.heap.size, 0, none⟩) 3 3]) rfl
  have HM7 := Lib.hid (show MapF W7 w.heap.size F7 from hM)
  have HK7 := Lib.hid ((HK6.out.alloc HK6.out.size _).trans (hK.below (Nat.le_refl _) (Nat.le_trans HK6.out.size (by simp))))
  rw [e]
  clear e hM hK
  go_wp2_with fail
  obtain ⟨W8, e, hM, hK⟩ := map_step (HM7.out.alloc (.cells #[.int .u8 8] 43)) 42 rfl ⟨[4], true, 1, 1000, [8]⟩ (A := some ⟨W7.heap.size, 0, none⟩) (c := 1) (kids_new W7 _ HM7.out.lt [8]) (Nat.le_refl _) (V := .agg #[.int .u8 4, .bool true, .int .i64 1, .int .i64 1000, .slice (some ⟨W7.heap.size, 0, none⟩) 1 1]) rfl
  have HM8 := Lib.hid (show MapF W8 w.heap.size F8 from hM)
  have HK8 := Lib.hid ((HK7.out.alloc HK7.out.size _).trans (hK.below (Nat.le_refl _) (Nat.le_trans HK7.out.size (by simp))))
  rw [e]
  clear e hM hK
  go_wp2_with fail
  obtain ⟨W9, e, hM, hK⟩ := map_step (HM8.out.alloc (.cells #[.int .u8 1, .int .u8 8] 43)) 43 rfl ⟨[4], false, 1, 1000, [1, 8]⟩ (A := some ⟨W8.heap.size, 0, none⟩) (c := 2) (kids_new W8 _ HM8.out.lt [1, 8]) (Nat.le_refl _) (V := .agg #[.int .u8 4, .bool false, .int .i64 1, .int .i64 1000, .slice (some ⟨W8.heap.size, 0, none⟩) 2 2]) rfl
  have HM9 := Lib.hid (show MapF W9 w.heap.size F9 from hM)
  have HK9 := Lib.hid ((HK8.out.alloc HK8.out.size _).trans (hK.below (Nat.le_refl _) (Nat.le_trans HK8.out.size (by simp))))
  rw [e]
  clear e hM hK
  go_wp2_with fail
  obtain ⟨W10, e, hM, hK⟩ := map_step (HM9.out.alloc (.cells #[.int .u8 2] 43)) 44 rfl ⟨[4], false, 0, 7, [2]⟩ (A := some ⟨W9.heap.size, 0, none⟩) (c := 1) (kids_new W9 _ HM9.out.lt [2]) (Nat.le_refl _) (V := .agg #[.int .u8 4, .bool false, .int .i64 0, .int .i64 7, .slice (some ⟨W9.heap.size, 0, none⟩) 1 1]) rfl
  have HM10 := Lib.hid (show MapF W10 w.heap.size F10 from hM)
  have HK10 := Lib.hid ((HK9.out.alloc HK9.out.size _).trans (hK.below (Nat.le_refl _) (Nat.le_trans HK9.out.size (by simp))))
  rw [e]
  clear e hM hK
  go_wp2_with fail
  obtain ⟨W11, e, hM, hK⟩ := map_step (HM10.out.alloc (.cells #[.int .u8 1] 43)) 45 rfl ⟨[4], false, 0, 7, [1]⟩ (A := some ⟨W10.heap.size, 0, none⟩) (c := 1) (kids_new W10 _ HM10.out.lt [1]) (Nat.le_refl _) (V := .agg #[.int .u8 4, .bool false, .int .i64 0, .int .i64 7, .slice (some ⟨W10.heap.size, 0, none⟩) 1 1]) rfl
  have HM11 := Lib.hid (show MapF W11 w.heap.size F11 from hM)
  have HK11 := Lib.hid ((HK10.out.alloc HK10.out.size _).trans (hK.below (Nat.le_refl _) (Nat.le_trans HK10.out.size (by simp))))
  rw [e]
  clear e hM hK
  go_wp2_with fail
  obtain ⟨W12, e, hM, hK⟩ := map_step (HM11.out.alloc (.cells #[.int .u8 8] 43)) 46 rfl ⟨[4], true, 0, 0, [8]⟩ (A := some ⟨W11.heap.size, 0, none⟩) (c := 1) (kids_new W11 _ HM11.out.lt [8]) (Nat.le_refl _) (V := .agg #[.int .u8 4, .bool true, .int .i64 0, .int .i64 0, .slice (some ⟨W11.heap.size, 0, none⟩) 1 1]) rfl
  have HM12 := Lib.hid (show MapF W12 w.heap.size F12 from hM)
  have HK12 := Lib.hid ((HK11.out.alloc HK11.out.size _).trans (hK.below (Nat.le_refl _) (Nat.le_trans HK11.out.size (by simp))))
  rw [e]
  clear e hM hK
  go_wp2_with fail
  clear HM0 HK0 HM1 HK1 HM2 HK2 HM3 HK3 HM4 HK4 HM5 HK5 HM6 HK6 HM7 HK7 HM8 HK8 HM9 HK9 HM10 HK10 HM11 HK11
  go_loopw [2] (fun v wr => ∃ k : Nat, 6 ≤ k ∧ k ≤ 24 ∧ v = .int .u8 k ∧ Aside0 (MapF wr w.heap.size (fun x => if 6 ≤ x ∧ x < (k : Int) then some ⟨[1], false, 0, 0, [1, 1]⟩ else F12 x)) ∧ Aside0 (Below w.heap.size w wr)) (fun v _ => 24 - (intOf v).toNat)
  case atStart => exact ⟨6, by omega, by omega, rfl, ⟨HM12.out.congr fun x => by rw [if_neg (by omega)]⟩, ⟨HK12.out⟩⟩
  case round =>
    obtain ⟨k, hk6, hk, rfl, HM, HB⟩ := hrel
    by_cases hlt : k < 24
    · go_wp2_with fail
      have hfree : F12 (k : Int) = none := by
        unfold F12 F11 F10 F9 F8 F7 F6 F5 F4 F3 F2 F1 F0 putF
        simp only
        repeat rw [if_neg (by omega)]
      obtain ⟨W2, e, hM, hK⟩ := map_step (HM.out.alloc (.cells #[.int .u8 1, .int .u8 1] 43)) (k : Int) (by rw [if_neg (by omega)]; exact hfree) ⟨[1], false, 0, 0, [1, 1]⟩ (A := some ⟨wr.heap.size, 0, none⟩) (c := 2) (kids_new wr _ HM.out.lt [1, 1]) (Nat.le_refl _) (V := .agg #[.int .u8 1, .bool false, .int .i64 0, .int .i64 0, .slice (some ⟨wr.heap.size, 0, none⟩) 2 2]) rfl
      rw [e]
      have HM2 := Lib.hid hM
      have HB2 := Lib.hid ((HB.out.alloc HB.out.size _).trans (hK.below (Nat.le_refl _) (Nat.le_trans HB.out.size (by simp))))
      clear e hM hK hfree
      go_wp2_with fail
      go_roundw
      case rel =>
        refine ⟨k + 1, by omega, by omega, by go_num, ⟨HM2.out.congr fun x => ?_⟩, ⟨HB2.out⟩⟩
        unfold putF
        by_cases hx : x = (k : Int)
        · rw [if_pos hx, if_pos (by omega)]
        · rw [if_neg hx]
          dsimp only
          by_cases h2 : 6 ≤ x ∧ x < (k : Int)
          · rw [if_pos h2, if_pos (by omega)]
          · rw [if_neg h2, if_neg (by omega)]
      case measure => simp [intOf]; omega
    · obtain rfl : k = 24 := by omega
      have HM2 := Lib.hid (show MapF wr w.heap.size M.form from HM.out.congr fun x => by
        unfold M.form
        by_cases h : 6 ≤ x ∧ x ≤ 23
        · rw [if_pos (by omega), if_pos h]
        · rw [if_neg (by omega), if_neg h]
          unfold F12 F11 F10 F9 F8 F7 F6 F5 F4 F3 F2 F1 F0 putF
          simp only
          by_cases h1 : x = 1
          · subst h1; rfl
          by_cases h2 : x = 2
          · subst h2; rfl
          by_cases h3 : x = 3
          · subst h3; rfl
          by_cases h4 : x = 4
          · subst h4; rfl
          by_cases h5 : x = 5
          · subst h5; rfl
          by_cases h40 : x = 40
          · subst h40; rfl
          by_cases h41 : x = 41
          · subst h41; rfl
          by_cases h42 : x = 42
          · subst h42; rfl
          by_cases h43 : x = 43
          · subst h43; rfl
          by_cases h44 : x = 44
          · subst h44; rfl
          by_cases h45 : x = 45
          · subst h45; rfl
          by_cases h46 : x = 46
          · subst h46; rfl
          repeat rw [if_neg (by omega)])
      clear HM
      go_wp2_with fail
      go_ret
      exact ⟨rfl, HM2.out, HB.out⟩

end Go.Proofs.YtlmmobfebjideaaDoor.P

/- strconv.Itoa, as the library's contract tells it. -/
namespace Go.Proofs.YtlmmobfebjideaaDoor.P
open Go.RowKit Go.Proofs.YtlmmobfebjideaaDoor Go.Proofs.YtlmmobfebjideaaDoorW.PrintWords
set_option linter.unusedVariables false
set_option linter.unusedSimpArgs false

theorem itoa_any (n : Int) (h0 : -9223372036854775808 ≤ n) (h1 : n ≤ 9223372036854775807) (w : World) (hL : Laid w) :
    Calls Tryd.prog 30 #[.int .i64 n] w fun e w' => e = .returned (.string ⟨(Lib.itoa n).toArray⟩) ∧ Below w.heap.size w w' := by
  refine (Tryd.strconv_Itoa n h0 h1 w hL.pow).mono ?_
  rintro e w' ⟨rfl, k, os, rfl⟩
  exact ⟨rfl, Lib.below_grow _ w (Nat.le_refl _) k os⟩

def strconv_Itoa.f (a0 : Int) : Option ByteArray := if -9223372036854775808 ≤ a0 ∧ a0 ≤ 9223372036854775807 then some ⟨(Lib.itoa a0).toArray⟩ else none
theorem strconv_Itoa.calls (a0 : Int) (r : ByteArray) (w : World) (hL : Laid w) (h : strconv_Itoa.f a0 = some r) :
    Calls Tryd.prog 30 #[.int .i64 a0] w fun e w' => e = .returned (.string r) ∧ Below w.heap.size w w' := by
  unfold strconv_Itoa.f at h
  by_cases h0 : -9223372036854775808 ≤ a0 ∧ a0 ≤ 9223372036854775807
  · rw [if_pos h0] at h; cases h; exact itoa_any a0 h0.1 h0.2 w hL
  · rw [if_neg h0] at h; cases h

end Go.Proofs.YtlmmobfebjideaaDoor.P

/- The printer's expressions, walked. -/
namespace Go.Proofs.YtlmmobfebjideaaDoor.P
open Go.RowKit Go.Proofs.YtlmmobfebjideaaDoor Go.Proofs.YtlmmobfebjideaaDoor.M Go.Proofs.YtlmmobfebjideaaDoorW.PrintWords
set_option linter.unusedVariables false
set_option linter.unusedSimpArgs false
attribute [local go_sem ↓] Go.wp_at_zero Go.wp_at_succ

abbrev kNd := k24
abbrev nodeV (n : Nd) (A : Option Addr) (c : Nat) : Value := .agg #[.int .u8 n.f0, .int .i64 n.f1, .string n.f2, .slice A n.f3.length c]

set_option maxHeartbeats 1000000 in
theorem binary_any (n : Nd) (A : Option Addr) (c : Nat) (w : World) :
    Calls Tryd.prog 31 #[nodeV n A c] w fun e w' => e = .returned (.bool (M.binary n)) ∧ Below w.heap.size w w' := by
  have hb : ∀ cs, Below w.heap.size w (w.alloc (.cells cs 24)) := fun _ => (Below.refl _ _).alloc (Nat.le_refl _) _
  rcases (show (6 ≤ n.f0 ∧ n.f0 ≤ 23) ∨ (6 ≤ n.f0 ∧ ¬ n.f0 ≤ 23) ∨ (¬ 6 ≤ n.f0 ∧ n.f0 ≤ 23) by omega) with ⟨h1, h2⟩ | ⟨h1, h2⟩ | ⟨h1, h2⟩
  all_goals
    have hu := Tryd.underlying24
    have HR := Lib.hid (show M.binary n = (decide (6 ≤ n.f0) && decide (n.f0 ≤ 23)) from rfl)
    go_enter Tryd.func31, Tryd.ntmps31
    go_wp2
    go_ret
    exact ⟨by rw [HR.out]; simp [h1, h2], hb _⟩

theorem bytes_eq {a b : ByteArray} (h : a.data.toList = b.data.toList) : a = b := by
  obtain ⟨⟨a⟩⟩ := a; obtain ⟨⟨b⟩⟩ := b
  simp only at h; rw [h]
theorem box_block (w : World) (cs : Array Value) (T : TypeId) {w1 : World} (h : Below (w.alloc (.cells cs T)).heap.size (w.alloc (.cells cs T)) w1) : w1.heap[w.heap.size]? = some (.cells cs T (0, 0)) := by
  rw [h.block _ (by simp)]
  exact heap_alloc_new w _
theorem box_lift (w : World) (cs : Array Value) (T : TypeId) {w1 : World} (h : Below (w.alloc (.cells cs T)).heap.size (w.alloc (.cells cs T)) w1) : Below w.heap.size w w1 :=
  ((Below.refl w.heap.size w).alloc (Nat.le_refl _) (.cells cs T)).trans (h.mono (by simp))
/-- What expr is to come to, at a tree. -/
def ExprC (n : Nd) : Prop := ∀ (A : Option Addr) (c : Nat) (w : World), n.f3.length ≤ c → Kd.C kNd w A n.f3.length n.f3 → Laid w →
  Calls Tryd.prog 17 #[nodeV n A c] w fun e w' => e = .returned (.string ⟨(pE n).toArray⟩) ∧ Below w.heap.size w w'

set_option maxHeartbeats 2000000 in
set_option maxRecDepth 100000 in
theorem operand_any (n : Nd) (he : ExprC n) (h0 : 0 ≤ n.f0) (h255 : n.f0 ≤ 255) (hlen : (pE n).length ≤ 4611686018427387904) (lim : Int) (A : Option Addr) (c : Nat) (w : World) (hc : n.f3.length ≤ c) (hr : Kd.C kNd w A n.f3.length n.f3) (hL : Laid w) :
    Calls Tryd.prog 33 #[nodeV n A c, .int .i64 lim] w fun e w' => e = .returned (.string ⟨(paren (wants n lim) (pE n)).toArray⟩) ∧ Below w.heap.size w w' := by
  have hb : ∀ cs, Below w.heap.size w (w.alloc (.cells cs 24)) := fun _ => (Below.refl _ _).alloc (Nat.le_refl _) _
  have h1 := Lib.hid (he A c (w.alloc (.cells #[.int .u8 n.f0, .int .i64 n.f1, .string n.f2, .slice A n.f3.length c] 24)) hc (Kd.C_below hr (hb _)) (hL.below (hb _)))
  go_enter Tryd.func33, Tryd.ntmps33
  go_wp2_with fail
  refine h1.out.mono ?_
  rintro e w1 ⟨rfl, hb1⟩
  have bk := box_block w _ _ hb1
  have HB := Lib.hid (box_lift w _ _ hb1)
  have HL1 := Lib.hid (hL.below HB.out)
  have cz0 : w1.cell? ⟨w.heap.size, 0, none⟩ = some (.int .u8 n.f0) := (blk_cell bk 0).trans rfl
  have cz1 : w1.cell? ⟨w.heap.size, 1, none⟩ = some (.int .i64 n.f1) := (blk_cell bk 1).trans rfl
  have cz2 : w1.cell? ⟨w.heap.size, 2, none⟩ = some (.string n.f2) := (blk_cell bk 2).trans rfl
  have cz3 : w1.cell? ⟨w.heap.size, 3, none⟩ = some (.slice A n.f3.length c) := (blk_cell bk 3).trans rfl
  have HT := Lib.hid hlen
  clear h1 hb hb1 he hL hr hlen
  cases hbin : M.binary n with
  | false =>
    have HR := Lib.hid (show paren (wants n lim) (pE n) = pE n by simp [wants, hbin, paren])
    have H1 := Lib.hid hbin
    clear hbin
    go_wp2_with fail
    refine (binary_any n A c w1).mono ?_
    rintro e w2 ⟨rfl, hb2⟩
    rw [H1.out]
    have HB2 := Lib.hid (HB.out.trans (hb2.mono HB.out.size))
    go_wp2_with fail
    go_ret
    exact ⟨by rw [HR.out]; rfl, HB2.out⟩
  | true =>
    have H1 := Lib.hid hbin
    by_cases hlv : levOf n.f0 < lim
    · have HR := Lib.hid (show paren (wants n lim) (pE n) = [40] ++ pE n ++ [41] by simp [wants, hbin, paren, hlv])
      clear hbin
      go_wp2_with fail
      refine (binary_any n A c w1).mono ?_
      rintro e w2 ⟨rfl, hb2⟩
      rw [H1.out]
      have HB2 := Lib.hid (HB.out.trans (hb2.mono HB.out.size))
      have HL2 := Lib.hid (HL1.out.below hb2)
      have dz0 : w2.cell? ⟨w.heap.size, 0, none⟩ = some (.int .u8 n.f0) := (hb2.cell (World.block_lt_of_cell? w1 _ cz0)).trans cz0
      clear cz0 cz1 cz2 cz3 hb2
      go_wp2_with fail
      refine (level_any n.f0 h0 h255 w2 HL2.out).mono ?_
      rintro e w3 ⟨rfl, hb3⟩
      have HB3 := Lib.hid (HB2.out.trans (hb3.mono HB2.out.size))
      clear hb3 dz0
      have hz : (⟨(pE n).toArray⟩ : ByteArray).size = (pE n).length := by rw [Lib.size_eq]
      have hle := HT.out
      generalize hP : (⟨(pE n).toArray⟩ : ByteArray) = P at hz
      have HP := Lib.hid hP
      clear hP
      go_wp2_with fail
      go_ret
      refine ⟨?_, HB3.out⟩
      rw [HR.out, ← HP.out]
      show Ending.returned (Value.string _) = _
      congr 2
      all_goals first | rfl | exact bytes_eq (by simp [ByteArray.data_append])
    · have HR := Lib.hid (show paren (wants n lim) (pE n) = pE n by simp [wants, hbin, paren, hlv])
      clear hbin
      go_wp2_with fail
      refine (binary_any n A c w1).mono ?_
      rintro e w2 ⟨rfl, hb2⟩
      rw [H1.out]
      have HB2 := Lib.hid (HB.out.trans (hb2.mono HB.out.size))
      have HL2 := Lib.hid (HL1.out.below hb2)
      have dz0 : w2.cell? ⟨w.heap.size, 0, none⟩ = some (.int .u8 n.f0) := (hb2.cell (World.block_lt_of_cell? w1 _ cz0)).trans cz0
      clear cz0 cz1 cz2 cz3 hb2
      go_wp2_with fail
      refine (level_any n.f0 h0 h255 w2 HL2.out).mono ?_
      rintro e w3 ⟨rfl, hb3⟩
      have HB3 := Lib.hid (HB2.out.trans (hb3.mono HB2.out.size))
      clear hb3 dz0
      go_wp2_with fail
      go_ret
      exact ⟨by rw [HR.out]; rfl, HB3.out⟩

/-- What a valid expression is made of. -/
theorem expr_cases (n : Nd) (h : isN 1 n = true) :
    (n.f0 = 1 ∧ 0 ≤ n.f1 ∧ n.f1 ≤ 2147483647) ∨ n.f0 = 2 ∨ (n.f0 = 3 ∧ ∃ a, n.f3 = [a] ∧ isN 1 a = true) ∨ ((n.f0 = 4 ∨ n.f0 = 5) ∧ ∃ a, n.f3 = [a] ∧ isN 1 a = true) ∨
    ((6 ≤ n.f0 ∧ n.f0 ≤ 23) ∧ ∃ a b, n.f3 = [a, b] ∧ isN 1 a = true ∧ isN 1 b = true) := by
  have one : ∀ l : List Nd, isZip [1] l = true → ∃ a, l = [a] ∧ isN 1 a = true := by
    intro l hl
    match l, hl with
    | [a], hl => exact ⟨a, rfl, by simpa [isZip] using hl⟩
    | [], hl => simp [isZip] at hl
    | a :: b :: l, hl => simp [isZip] at hl
  have two : ∀ l : List Nd, isZip [1, 1] l = true → ∃ a b, l = [a, b] ∧ isN 1 a = true ∧ isN 1 b = true := by
    intro l hl
    match l, hl with
    | [a, b], hl => exact ⟨a, b, rfl, by simpa [isZip] using hl⟩
    | [], hl => simp [isZip] at hl
    | [a], hl => simp [isZip] at hl
    | a :: b :: c :: l, hl => simp [isZip] at hl
  obtain ⟨k, m, s, l⟩ := n
  unfold isN at h
  by_cases h47 : k = 47
  · rw [if_pos h47] at h; simp at h
  rw [if_neg h47] at h
  simp only
  unfold form at h
  by_cases hb : 6 ≤ k ∧ k ≤ 23
  · rw [if_pos hb] at h
    simp only [Bool.and_eq_true] at h
    exact .inr (.inr (.inr (.inr ⟨hb, two l h.2⟩)))
  rw [if_neg hb] at h
  by_cases h1 : k = 1
  · rw [if_pos h1] at h
    simp only [Bool.and_eq_true, decide_eq_true_eq] at h
    exact .inl ⟨h1, h.1.1.1.2, h.1.1.2⟩
  rw [if_neg h1] at h
  by_cases h2 : k = 2
  · exact .inr (.inl h2)
  rw [if_neg h2] at h
  by_cases h3 : k = 3
  · rw [if_pos h3] at h
    simp only [Bool.and_eq_true] at h
    exact .inr (.inr (.inl ⟨h3, one l h.2⟩))
  rw [if_neg h3] at h
  by_cases h4 : k = 4 ∨ k = 5
  · rw [if_pos h4] at h
    simp only [Bool.and_eq_true] at h
    exact .inr (.inr (.inr (.inl ⟨h4, one l h.2⟩)))
  rw [if_neg h4] at h
  exfalso
  by_cases g40 : k = 40
  · rw [if_pos g40] at h; simp at h
  rw [if_neg g40] at h
  by_cases g41 : k = 41
  · rw [if_pos g41] at h; simp at h
  rw [if_neg g41] at h
  by_cases g42 : k = 42
  · rw [if_pos g42] at h; simp at h
  rw [if_neg g42] at h
  by_cases g43 : k = 43
  · rw [if_pos g43] at h; simp at h
  rw [if_neg g43] at h
  by_cases g44 : k = 44
  · rw [if_pos g44] at h; simp at h
  rw [if_neg g44] at h
  by_cases g45 : k = 45
  · rw [if_pos g45] at h; simp at h
  rw [if_neg g45] at h
  by_cases g46 : k = 46
  · rw [if_pos g46] at h; simp at h
  rw [if_neg g46] at h
  simp at h
theorem expr_kind (n : Nd) (h : isN 1 n = true) : 0 ≤ n.f0 ∧ n.f0 ≤ 255 := by
  rcases expr_cases n h with ⟨h, _⟩ | h | ⟨h, _⟩ | ⟨h, _⟩ | ⟨h, _⟩ <;> omega

/-- The box that a call lays for its tree. -/
abbrev boxed (n : Nd) (A : Option Addr) (c : Nat) (w : World) : World := w.alloc (.cells #[.int .u8 n.f0, .int .i64 n.f1, .string n.f2, .slice A n.f3.length c] 24)

set_option maxHeartbeats 4000000 in
set_option maxRecDepth 100000 in
theorem expr_num (n : Nd) (hk : n.f0 = 1) (h0 : 0 ≤ n.f1) (h1 : n.f1 ≤ 2147483647) : ExprC n := by
  intro A c w hc hr hL
  have hb : Below w.heap.size w (boxed n A c w) := (Below.refl _ _).alloc (Nat.le_refl _) _
  have HR := Lib.hid (show pE n = Lib.itoa n.f1 by obtain ⟨k, m, s, l⟩ := n; simp only at hk; subst hk; simp [pE])
  have HI := Lib.hid (itoa_any n.f1 (by omega) (by omega) (boxed n A c w) (hL.below hb))
  have HB := Lib.hid hb
  have g1 : (n.f0 == 1) = true := by rw [hk]; rfl
  clear hb hr hL hk
  go_enter Tryd.func17, Tryd.ntmps17
  go_wp2_with fail
  refine HI.out.mono ?_
  rintro e w1 ⟨rfl, hb1⟩
  have HB1 := Lib.hid (HB.out.trans (hb1.mono HB.out.size))
  clear hb1 HI
  go_wp2_with fail
  go_ret
  exact ⟨by rw [HR.out]; rfl, HB1.out⟩

set_option maxHeartbeats 4000000 in
set_option maxRecDepth 100000 in
theorem expr_var (n : Nd) (hk : n.f0 = 2) : ExprC n := by
  intro A c w hc hr hL
  have hb : Below w.heap.size w (boxed n A c w) := (Below.refl _ _).alloc (Nat.le_refl _) _
  have HR := Lib.hid (show pE n = n.f2.data.toList by obtain ⟨k, m, s, l⟩ := n; simp only at hk; subst hk; simp [pE])
  have HB := Lib.hid hb
  have g1 : (n.f0 == 1) = false := by rw [hk]; rfl
  have g2 : (n.f0 == 2) = true := by rw [hk]; rfl
  clear hb hr hL hk
  go_enter Tryd.func17, Tryd.ntmps17
  go_wp2_with fail
  go_ret
  exact ⟨by rw [HR.out]; rfl, HB.out⟩

/-- The one child, as it lies. -/
theorem kid_one {w : World} {A : Option Addr} {l : List Nd} {a : Nd} (h : Kd.C kNd w A l.length l) (e : l = [a]) : ∃ (ad : Addr) (B : Option Addr) (d : Nat), A = some ad ∧ ad.spot = ad.spot ∧
    w.cell? ad = some (.int .u8 a.f0) ∧ w.cell? ⟨ad.block, ad.off + 1, none⟩ = some (.int .i64 a.f1) ∧ w.cell? ⟨ad.block, ad.off + 2, none⟩ = some (.string a.f2) ∧ w.cell? ⟨ad.block, ad.off + 3, none⟩ = some (.slice B a.f3.length d) ∧ a.f3.length ≤ d ∧ Kd.C kNd w B a.f3.length a.f3 := by
  subst e
  obtain ⟨ad, B, d, e, c0, c1, c2, c3, hl, hC⟩ := at_T24 h 0 (by omega) (by simp)
  have e0 : rd_T24 [a] 0 = a := rfl
  simp only [e0, Int.toNat_zero, Nat.zero_mul] at c0 c1 c2 c3 hl hC
  have e1 : ad.add 0 = ad := by simp [Addr.add]
  rw [e1] at c0 c1 c2 c3
  exact ⟨ad, B, d, e, rfl, c0, c1, c2, c3, hl, hC⟩

set_option maxHeartbeats 4000000 in
set_option maxRecDepth 100000 in
theorem expr_item (n a : Nd) (hk : n.f0 = 3) (e : n.f3 = [a]) (he : ExprC a) (hlen : (pE n).length ≤ 4611686018427387904) : ExprC n := by
  intro A c w hc hr hL
  have hn : n.f3.length = 1 := by rw [e]; rfl
  have hE : ∀ A, boxed n A c w = w.alloc (.cells #[.int .u8 n.f0, .int .i64 n.f1, .string n.f2, .slice A 1 c] 24) := fun A => by show World.alloc _ _ = _; rw [hn]
  have hb : Below w.heap.size w (boxed n A c w) := (Below.refl _ _).alloc (Nat.le_refl _) _
  have HR := Lib.hid (show pE n = n.f2.data.toList ++ [91] ++ pE a ++ [93] by obtain ⟨k, m, s, l⟩ := n; simp only at hk e; subst hk e; simp [pE, pE1])
  obtain ⟨ad, B, d, rfl, -, c0, c1, c2, c3, hl, hC⟩ := kid_one (Kd.C_below hr hb) e
  have HT : n.f2.size + 1 + (pE a).length + 1 ≤ 4611686018427387904 := by
    have := HR.out
    rw [this] at hlen
    simp only [List.length_append, List.length_cons, List.length_nil] at hlen
    rw [Lib.size_eq]; omega
  obtain ⟨S, hS⟩ : ∃ S : ByteArray, S = ⟨(pE a).toArray⟩ := ⟨_, rfl⟩
  have hSz : S.size = (pE a).length := by rw [hS, Lib.size_eq]
  have q1 : n.f2.size + 1 ≤ 9223372036854775807 := by omega
  have q1f : (9223372036854775807 < n.f2.size + 1) = False := eq_false (by omega)
  have q2 : n.f2.size + 1 + S.size ≤ 9223372036854775807 := by omega
  have q2f : (9223372036854775807 < n.f2.size + 1 + S.size) = False := eq_false (by omega)
  have q3 : n.f2.size + 1 + S.size + 1 ≤ 9223372036854775807 := by omega
  have q3f : (9223372036854775807 < n.f2.size + 1 + S.size + 1) = False := eq_false (by omega)
  have HS := Lib.hid hS
  clear hSz HT
  have hL0 := hL.below hb
  have g1 : (n.f0 == 1) = false := by rw [hk]; rfl
  have g2 : (n.f0 == 2) = false := by rw [hk]; rfl
  have g3 : (n.f0 == 3) = true := by rw [hk]; rfl
  have bk : (boxed n (some ad) c w).heap[w.heap.size]? = _ := heap_alloc_new w _
  have z2 : (boxed n (some ad) c w).cell? ⟨w.heap.size, 2, none⟩ = some (.string n.f2) := (blk_cell bk 2).trans rfl
  have z3 : (boxed n (some ad) c w).cell? ⟨w.heap.size, 3, none⟩ = some (.slice (some ad) 1 c) := by rw [← hn]; exact (blk_cell bk 3).trans rfl
  rw [hE] at c0 c1 c2 c3 z2 z3 hC hb hL0
  have HC := Lib.hid hC
  have HE := Lib.hid he
  have HB := Lib.hid hb
  have HL0 := Lib.hid hL0
  clear hr hL hL0 hk hlen bk hb hC he hE hS
  unfold nodeV
  rw [hn]
  clear hn e hc
  go_enter Tryd.func17, Tryd.ntmps17
  go_wp2_with fail
  generalize (w.alloc (.cells #[.int .u8 n.f0, .int .i64 n.f1, .string n.f2, .slice (some ad) 1 c] 24)) = W0 at *
  have hw0 := Below.refl W0.heap.size W0
  have allS : ∀ W, Below W0.heap.size W0 W → (Below W0.heap.size W0 W ∧ W.cell? ⟨w.heap.size, 2, none⟩ = some (.string n.f2) ∧ W.cell? ⟨w.heap.size, 3, none⟩ = some (.slice (some ad) 1 c) ∧
      W.cell? ad = some (.int .u8 a.f0) ∧ W.cell? ⟨ad.block, ad.off + 1, none⟩ = some (.int .i64 a.f1) ∧ W.cell? ⟨ad.block, ad.off + 2, none⟩ = some (.string a.f2) ∧ W.cell? ⟨ad.block, ad.off + 3, none⟩ = some (.slice B a.f3.length d)) := fun W h =>
    have k := fun {p : Addr} {v : Value} (z : W0.cell? p = some v) => (h.cell (World.block_lt_of_cell? W0 _ z)).trans z
    ⟨h, k z2, k z3, k c0, k c1, k c2, k c3⟩
  have hcall : ∀ W, Below W0.heap.size W0 W → Calls Tryd.prog 17 #[nodeV a B d] W fun e w' => e = .returned (.string S) ∧ Below W0.heap.size W0 w' := fun W h =>
    (HE.out B d W hl (Kd.C_below HC.out h) (HL0.out.below h)).mono (by rintro e w' ⟨rfl, h2⟩; exact ⟨by rw [HS.out], h.trans (h2.mono h.size)⟩)
  go_region_held3 (fun W => Below W0.heap.size W0 W ∧ W.cell? ⟨w.heap.size, 2, none⟩ = some (.string n.f2) ∧ W.cell? ⟨w.heap.size, 3, none⟩ = some (.slice (some ad) 1 c) ∧
      W.cell? ad = some (.int .u8 a.f0) ∧ W.cell? ⟨ad.block, ad.off + 1, none⟩ = some (.int .i64 a.f1) ∧ W.cell? ⟨ad.block, ad.off + 2, none⟩ = some (.string a.f2) ∧ W.cell? ⟨ad.block, ad.off + 3, none⟩ = some (.slice B a.f3.length d))
    (first | exact allS _ (by assumption) | exact allS _ (below_drew1 (by assumption)))
    (first | (go_at_call 17; refine (hcall _ (by first | assumption | exact below_drew1 (by assumption))).mono ?_; rintro e w' ⟨rfl, hbw⟩) | fail)
  all_goals
    go_wp2
    go_ret
    refine ⟨?_, HB.out.trans (Below.mono (by assumption) HB.out.size)⟩
    rw [HR.out]
    show Ending.returned (Value.string _) = _
    congr 2
    all_goals exact bytes_eq (by rw [HS.out]; simp [ByteArray.data_append])

set_option maxHeartbeats 8000000 in
set_option maxRecDepth 100000 in
theorem expr_unary (n a : Nd) (hk : n.f0 = 4 ∨ n.f0 = 5) (e : n.f3 = [a]) (ha : isN 1 a = true) (he : ExprC a) (hlen : (pE n).length ≤ 4611686018427387904) : ExprC n := by
  intro A c w hc hr hL
  have hn : n.f3.length = 1 := by rw [e]; rfl
  have hE : ∀ A, boxed n A c w = w.alloc (.cells #[.int .u8 n.f0, .int .i64 n.f1, .string n.f2, .slice A 1 c] 24) := fun A => by show World.alloc _ _ = _; rw [hn]
  have hb : Below w.heap.size w (boxed n A c w) := (Below.refl _ _).alloc (Nat.le_refl _) _
  have HR := Lib.hid (show pE n = symOf n.f0 ++ paren (wants a (levOf n.f0)) (pE a) by
    obtain ⟨k, m, s, l⟩ := n
    simp only at hk e
    subst e
    simp only [pE]
    rw [if_neg (by omega), if_neg (by omega), if_neg (by omega), if_neg (by omega)]
    simp only [pEu])
  obtain ⟨ad, B, d, rfl, -, c0, c1, c2, c3, hl, hC⟩ := kid_one (Kd.C_below hr hb) e
  have hla : (pE a).length ≤ (paren (wants a (levOf n.f0)) (pE a)).length := by
    unfold paren
    split
    · simp only [List.length_append, List.length_cons, List.length_nil]; omega
    · exact Nat.le_refl _
  have hlen2 : (symOf n.f0).length + (paren (wants a (levOf n.f0)) (pE a)).length ≤ 4611686018427387904 := by
    have := HR.out
    rw [this, List.length_append] at hlen
    exact hlen
  obtain ⟨ka0, ka1⟩ := expr_kind a ha
  have hL0 := hL.below hb
  have kn : 0 ≤ n.f0 ∧ n.f0 ≤ 255 := by omega
  obtain ⟨S, hS⟩ : ∃ S : ByteArray, S = ⟨(paren (wants a (levOf n.f0)) (pE a)).toArray⟩ := ⟨_, rfl⟩
  obtain ⟨Y, hY⟩ : ∃ Y : ByteArray, Y = ⟨(symOf n.f0).toArray⟩ := ⟨_, rfl⟩
  have q1 : Y.size + S.size ≤ 9223372036854775807 := by rw [hS, hY, Lib.size_eq, Lib.size_eq]; simp only; omega
  have q1f : (9223372036854775807 < Y.size + S.size) = False := eq_false (by omega)
  have g1 : (n.f0 == 1) = false := beq_eq_false_iff_ne.2 (by omega)
  have g2 : (n.f0 == 2) = false := beq_eq_false_iff_ne.2 (by omega)
  have g3 : (n.f0 == 3) = false := beq_eq_false_iff_ne.2 (by omega)
  have hbin : M.binary n = false := by
    unfold M.binary
    rw [Bool.and_eq_false_iff, decide_eq_false_iff_not, decide_eq_false_iff_not]
    omega
  have bk : (boxed n (some ad) c w).heap[w.heap.size]? = _ := heap_alloc_new w _
  have z0 : (boxed n (some ad) c w).cell? ⟨w.heap.size, 0, none⟩ = some (.int .u8 n.f0) := (blk_cell bk 0).trans rfl
  have z1 : (boxed n (some ad) c w).cell? ⟨w.heap.size, 1, none⟩ = some (.int .i64 n.f1) := (blk_cell bk 1).trans rfl
  have z2 : (boxed n (some ad) c w).cell? ⟨w.heap.size, 2, none⟩ = some (.string n.f2) := (blk_cell bk 2).trans rfl
  have z3 : (boxed n (some ad) c w).cell? ⟨w.heap.size, 3, none⟩ = some (.slice (some ad) 1 c) := by rw [← hn]; exact (blk_cell bk 3).trans rfl
  rw [hE] at c0 c1 c2 c3 z0 z1 z2 z3 hC hb hL0
  have hbinc : ∀ W, Calls Tryd.prog 31 #[.agg #[.int .u8 n.f0, .int .i64 n.f1, .string n.f2, .slice (some ad) 1 c]] W fun e w' => e = .returned (.bool false) ∧ Below W.heap.size W w' := fun W => by
    have := binary_any n (some ad) c W
    unfold nodeV at this
    rw [hn, hbin] at this
    exact this
  have HC := Lib.hid hC
  have HE := Lib.hid he
  have HB := Lib.hid hb
  have HL0 := Lib.hid hL0
  have HN := Lib.hid hbinc
  have HS := Lib.hid hS
  have HY := Lib.hid hY
  have HA := Lib.hid (show (pE a).length ≤ 4611686018427387904 by omega)
  have HKA := Lib.hid (And.intro ka0 ka1)
  have HKN := Lib.hid kn
  clear hr hL hL0 hk hlen hlen2 hla bk hb hC he hE hS hY hbin hbinc ka0 ka1 kn
  unfold nodeV
  rw [hn]
  clear hn e hc
  go_enter Tryd.func17, Tryd.ntmps17
  go_wp2_with fail
  generalize (w.alloc (.cells #[.int .u8 n.f0, .int .i64 n.f1, .string n.f2, .slice (some ad) 1 c] 24)) = W0 at *
  refine (HN.out W0).mono ?_
  rintro e W1 ⟨rfl, hb1⟩
  have allS : ∀ W, Below W0.heap.size W0 W → (Below W0.heap.size W0 W ∧ W.cell? ⟨w.heap.size, 0, none⟩ = some (.int .u8 n.f0) ∧ W.cell? ⟨w.heap.size, 3, none⟩ = some (.slice (some ad) 1 c) ∧
      W.cell? ad = some (.int .u8 a.f0) ∧ W.cell? ⟨ad.block, ad.off + 1, none⟩ = some (.int .i64 a.f1) ∧ W.cell? ⟨ad.block, ad.off + 2, none⟩ = some (.string a.f2) ∧ W.cell? ⟨ad.block, ad.off + 3, none⟩ = some (.slice B a.f3.length d)) := fun W h =>
    have k := fun {p : Addr} {v : Value} (z : W0.cell? p = some v) => (h.cell (World.block_lt_of_cell? W0 _ z)).trans z
    ⟨h, k z0, k z3, k c0, k c1, k c2, k c3⟩
  have hop : ∀ W, Below W0.heap.size W0 W → Calls Tryd.prog 33 #[nodeV a B d, .int .i64 (levOf n.f0)] W fun e w' => e = .returned (.string S) ∧ Below W0.heap.size W0 w' := fun W h =>
    (operand_any a HE.out HKA.out.1 HKA.out.2 HA.out _ B d W hl (Kd.C_below HC.out h) (HL0.out.below h)).mono (by rintro e w' ⟨rfl, h2⟩; exact ⟨by rw [HS.out], h.trans (h2.mono h.size)⟩)
  have hsy : ∀ W, Below W0.heap.size W0 W → Calls Tryd.prog 34 #[.int .u8 n.f0] W fun e w' => e = .returned (.string Y) ∧ Below W0.heap.size W0 w' := fun W h =>
    (symbol_any n.f0 HKN.out.1 HKN.out.2 W (HL0.out.below h)).mono (by rintro e w' ⟨rfl, h2⟩; exact ⟨by rw [HY.out], h.trans (h2.mono h.size)⟩)
  have hlv : ∀ W, Below W0.heap.size W0 W → Calls Tryd.prog 32 #[.int .u8 n.f0] W fun e w' => e = .returned (.int .i64 (levOf n.f0)) ∧ Below W0.heap.size W0 w' := fun W h =>
    (level_any n.f0 HKN.out.1 HKN.out.2 W (HL0.out.below h)).mono (by rintro e w' ⟨rfl, h2⟩; exact ⟨rfl, h.trans (h2.mono h.size)⟩)
  obtain ⟨y0, y1, y2, y3, y4, y5, y6⟩ := allS W1 hb1
  go_wp2_with fail
  go_region_held3 (fun W => Below W0.heap.size W0 W ∧ W.cell? ⟨w.heap.size, 0, none⟩ = some (.int .u8 n.f0) ∧ W.cell? ⟨w.heap.size, 3, none⟩ = some (.slice (some ad) 1 c) ∧
      W.cell? ad = some (.int .u8 a.f0) ∧ W.cell? ⟨ad.block, ad.off + 1, none⟩ = some (.int .i64 a.f1) ∧ W.cell? ⟨ad.block, ad.off + 2, none⟩ = some (.string a.f2) ∧ W.cell? ⟨ad.block, ad.off + 3, none⟩ = some (.slice B a.f3.length d))
    (first | exact allS _ (by assumption) | exact allS _ (below_drew1 (by assumption)))
    (first
      | (go_at_call 33; refine (hop _ (by first | assumption | exact below_drew1 (by assumption))).mono ?_; rintro e w' ⟨rfl, hbw⟩)
      | (go_at_call 34; refine (hsy _ (by first | assumption | exact below_drew1 (by assumption))).mono ?_; rintro e w' ⟨rfl, hbw⟩)
      | (go_at_call 32; refine (hlv _ (by first | assumption | exact below_drew1 (by assumption))).mono ?_; rintro e w' ⟨rfl, hbw⟩))
  all_goals
    go_wp2
    go_ret
    refine ⟨?_, HB.out.trans (Below.mono (by assumption) HB.out.size)⟩
    rw [HR.out]
    show Ending.returned (Value.string _) = _
    congr 2
    all_goals exact bytes_eq (by rw [HS.out, HY.out]; simp [ByteArray.data_append])

/-- The two children, as they lie. -/
theorem kid_two {w : World} {A : Option Addr} {l : List Nd} {a b : Nd} (h : Kd.C kNd w A l.length l) (e : l = [a, b]) : ∃ (ad : Addr) (B : Option Addr) (d : Nat) (B2 : Option Addr) (d2 : Nat), A = some ad ∧
    (w.cell? ad = some (.int .u8 a.f0) ∧ w.cell? ⟨ad.block, ad.off + 1, none⟩ = some (.int .i64 a.f1) ∧ w.cell? ⟨ad.block, ad.off + 2, none⟩ = some (.string a.f2) ∧ w.cell? ⟨ad.block, ad.off + 3, none⟩ = some (.slice B a.f3.length d) ∧ a.f3.length ≤ d ∧ Kd.C kNd w B a.f3.length a.f3) ∧
    (w.cell? ⟨ad.block, ad.off + 4, none⟩ = some (.int .u8 b.f0) ∧ w.cell? ⟨ad.block, ad.off + 4 + 1, none⟩ = some (.int .i64 b.f1) ∧ w.cell? ⟨ad.block, ad.off + 4 + 2, none⟩ = some (.string b.f2) ∧ w.cell? ⟨ad.block, ad.off + 4 + 3, none⟩ = some (.slice B2 b.f3.length d2) ∧ b.f3.length ≤ d2 ∧ Kd.C kNd w B2 b.f3.length b.f3) := by
  subst e
  obtain ⟨ad, B, d, e, c0, c1, c2, c3, hl, hC⟩ := at_T24 h 0 (by omega) (by simp)
  obtain ⟨ad2, B2, d2, e2, x0, x1, x2, x3, hl2, hC2⟩ := at_T24 h 1 (by omega) (by simp)
  obtain rfl : ad = ad2 := Option.some.inj (e.symm.trans e2)
  have e0 : rd_T24 [a, b] 0 = a := rfl
  have e1 : rd_T24 [a, b] 1 = b := rfl
  simp only [e0, Int.toNat_zero, Nat.zero_mul] at c0 c1 c2 c3 hl hC
  simp only [e1, Int.toNat_one, Nat.one_mul] at x0 x1 x2 x3 hl2 hC2
  have h0 : ad.add 0 = ad := by simp [Addr.add]
  have h4 : ad.add 4 = ⟨ad.block, ad.off + 4, none⟩ := by simp [Addr.add]
  rw [h0] at c0 c1 c2 c3
  rw [h4] at x0 x1 x2 x3
  exact ⟨ad, B, d, B2, d2, e, ⟨c0, c1, c2, c3, hl, hC⟩, ⟨x0, x1, x2, x3, hl2, hC2⟩⟩

theorem paren_le (b : Bool) (s : List UInt8) : s.length ≤ (paren b s).length := by
  unfold paren
  split
  · simp only [List.length_append, List.length_cons, List.length_nil]; omega
  · exact Nat.le_refl _

end Go.Proofs.YtlmmobfebjideaaDoor.P
