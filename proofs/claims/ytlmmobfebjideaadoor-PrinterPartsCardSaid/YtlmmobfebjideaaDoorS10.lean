/- Part 10 of the texts that the laws of this seat share, joined. -/
import Derived.Test.YtlmmobfebjideaaDoorS4
import Derived.Deep.Slices
import Derived.OpenShut
import Derived.WalkKit
import Derived.ProofKit
import Derived.ChangeOld
import Derived.Test.YtlmmobfebjideaaDoorS5

/- Opening an argument's data: what a value of a type, read as data, says of its cells, kind by kind (the kinds of the kit's print). -/
namespace Go.Proofs.YtlmmobfebjideaaDoor.Op
open Go Go.RowKit Go.ChangeShapes Go.WideShapes Go.ChangeAt Go.Deep Go.Proofs.YtlmmobfebjideaaDoor Go.Proofs.YtlmmobfebjideaaDoor.P Go.Proofs.YtlmmobfebjideaaDoorW.PrintWords
set_option linter.unusedVariables false
set_option linter.unusedSimpArgs false

/-- Cells of type t that read as data within so many steps say what the kind d says, of something that is fine. -/
def Opens {α : Type} (P : Program) (d : Kd α) (t : TypeId) (ok : α → Prop) (N : Nat) : Prop :=
  ∀ (H : Type) (enc : TypeId × Value → H) (W : World) (base : Nat) (spare : Nat → Bool) (held : Bool) (fuel : Nat), fuel ≤ N → ∀ (cs : List Value) (x : DataW H × List MemPlace),
    DataW.trod enc P W base spare held fuel t cs = some x → ∃ a, d.K W a cs ∧ ok a

theorem opens_int {P : Program} {t : TypeId} {k : IntKind} (ht : P.underlying t = some (.int k)) (N : Nat) : Opens P (Kd.int k) t (fun n => (Lit.int k n).wf = true) N := by
  intro H enc W base spare held fuel hN cs x h
  cases fuel with
  | zero => simp [DataW.trod] at h
  | succ m =>
    unfold DataW.trod at h
    rw [ht] at h
    split at h
    all_goals first | (simp_all; done) | skip
    all_goals first | (simp at h; done) | skip
    all_goals
      rename_i he
      first
      | (injection he with he; injection he with he; subst he
         simp only [Option.ite_none_right_eq_some, Bool.and_eq_true, beq_iff_eq] at h
         obtain ⟨⟨h1, h2⟩, -⟩ := h
         subst h1
         exact ⟨_, rfl, h2⟩)
      | (injection he with he; injection he with he; subst he
         split at h
         · rename_i hc
           simp only [Bool.and_eq_true, beq_iff_eq] at hc
           obtain ⟨h1, h2⟩ := hc
           subst h1
           exact ⟨_, rfl, h2⟩
         · simp at h)

theorem opens_string {P : Program} {t : TypeId} (ht : P.underlying t = some .string) (N : Nat) : Opens P Kd.string t (fun s => s.size ≤ maxLen) N := by
  intro H enc W base spare held fuel hN cs x h
  cases fuel with
  | zero => simp [DataW.trod] at h
  | succ m =>
    unfold DataW.trod at h
    rw [ht] at h
    split at h
    all_goals first | (simp_all; done) | skip
    all_goals
      simp only [Option.ite_none_right_eq_some] at h
      exact ⟨_, rfl, h.1⟩

theorem opens_slice {α : Type} {P : Program} {d : Kd α} {t e : TypeId} {ok : α → Prop} {N : Nat} (ht : P.underlying t = some (.slice e)) (hc : P.cellsOf e = d.sz) (hE : Opens P d e ok N) :
    Opens P (Kd.slice e d) t (fun l => l.length ≤ maxLen ∧ ∀ a ∈ l, ok a) (N + 1) := by
  intro H enc W base spare held fuel hN cs x h
  rcases DataW.trod_slice ht h with ⟨rfl, _⟩ | ⟨a, len, cap, elems, rest, n, rfl, rfl, _, hb, hl, hm, hlen, hel, _, _⟩
  · exact ⟨[], ⟨none, 0, rfl, Nat.le_refl _, rfl, by simp, fun hn => absurd hn (Nat.lt_irrefl _)⟩, by simp [maxLen], fun a ha => absurd ha (by simp)⟩
  · have key : ∀ i, i < len → ∃ p : α × List Value, p.2.length = d.sz ∧ d.K W p.1 p.2 ∧ ok p.1 ∧ ∀ j u, p.2[j]? = some u → W.cell? (a.add (i * d.sz + j)) = some u := by
      intro i hi
      have h1 := hel i hi
      rw [List.getElem?_eq_getElem (by omega)] at h1
      obtain ⟨cs', h2, h3⟩ := Option.bind_eq_some_iff.1 h1
      obtain ⟨b, hK, hok⟩ := hE H enc W base spare held n (by omega) cs' _ h3
      obtain ⟨_, hl2, hcell⟩ := World.cells?_some h2
      refine ⟨(b, cs'), by rw [← hc]; exact hl2, hK, hok, fun j u hj => ?_⟩
      have hj' : j < P.cellsOf e := by
        rw [← hl2]
        exact (List.getElem?_eq_some_iff.1 hj).1
      have := hcell j hj'
      rw [Go.Deep.add_add, hc] at this
      rw [this]
      exact hj
    by_cases h0 : len = 0
    · subst h0
      exact ⟨[], ⟨some a, cap, rfl, Nat.zero_le _, rfl, by simp, fun hn => absurd hn (Nat.lt_irrefl _)⟩, by simp [maxLen], fun a ha => absurd ha (by simp)⟩
    obtain ⟨p0, _⟩ := key 0 (by omega)
    haveI : Inhabited (α × List Value) := ⟨p0⟩
    obtain ⟨V, hV⟩ := choose_lt key
    have hlen2 : ((List.range len).map fun i => (V i).1).length = len := by simp
    refine ⟨(List.range len).map fun i => (V i).1, ⟨some a, cap, by rw [hlen2], by rw [hlen2]; exact hl, hlen2.symm ▸ rfl, by rw [hlen2]; unfold maxLen at hm; omega, fun _ => ⟨a, rfl, ?_⟩⟩, by rw [hlen2]; omega, ?_⟩
    · intro j q hq
      obtain ⟨hj, rfl⟩ := List.getElem?_eq_some_iff.1 hq
      have hj' : j < len := by rw [hlen2] at hj; exact hj
      obtain ⟨v1, v2, v3, v4⟩ := hV j hj'
      refine ⟨(V j).2, v1, by simpa using v2, v4⟩
    · intro b hb2
      simp only [List.mem_map, List.mem_range] at hb2
      obtain ⟨i, hi, rfl⟩ := hb2
      exact (hV i hi).2.2.1

theorem opens_le {α : Type} {P : Program} {d : Kd α} {t : TypeId} {ok : α → Prop} {N M : Nat} (h : Opens P d t ok N) (hM : M ≤ N) : Opens P d t ok M :=
  fun H enc W base spare held fuel hf cs x hx => h H enc W base spare held fuel (Nat.le_trans hf hM) cs x hx

/-- One step into a struct: each field's own cells. -/
theorem opens_field {α : Type} {H : Type} {enc : TypeId × Value → H} {P : Program} {W : World} {base : Nat} {spare : Nat → Bool} {held : Bool} {d : Kd α} {ok : α → Prop} {n N : Nat} {f : Field} {cs : List Value} {y : DataW H × List MemPlace}
    (hf : Opens P d f.type ok N) (hn : n ≤ N) (h : DataW.trod enc P W base spare held n f.type ((cs.drop f.offset).take (P.cellsOf f.type)) = some y) : ∃ a, d.K W a ((cs.drop f.offset).take (P.cellsOf f.type)) ∧ ok a :=
  hf H enc W base spare held n hn _ _ h

end Go.Proofs.YtlmmobfebjideaaDoor.Op

/- Opening an argument that is a node. -/
namespace Go.Proofs.YtlmmobfebjideaaDoor.Op
open Go Go.RowKit Go.ChangeShapes Go.WideShapes Go.ChangeAt Go.Deep Go.Proofs.YtlmmobfebjideaaDoor Go.Proofs.YtlmmobfebjideaaDoor.P Go.Proofs.YtlmmobfebjideaaDoorW.PrintWords
set_option linter.unusedVariables false
set_option linter.unusedSimpArgs false

set_option maxRecDepth 100000 in
theorem opens_node : ∀ N, Opens Tryd.prog k24 24 (fun _ => True) N
  | 0 => by
    intro H enc W base spare held fuel hN cs x h
    obtain rfl : fuel = 0 := by omega
    simp [DataW.trod] at h
  | N + 1 => by
    intro H enc W base spare held fuel hN cs x h
    obtain ⟨xs, n, rfl, rfl, hl, hlen, hf⟩ := DataW.trod_struct Tryd.underlying24 h
    have c4 : Tryd.prog.cellsOf 24 = 4 := by kernel_rfl
    have cu : Tryd.prog.cellsOf 5 = 1 := by kernel_rfl
    have cs1 : Tryd.prog.cellsOf 9 = 1 := by kernel_rfl
    have ci : Tryd.prog.cellsOf 3 = 1 := by kernel_rfl
    have cl : Tryd.prog.cellsOf 22 = 1 := by kernel_rfl
    rw [c4] at hl
    match cs, hl with
    | [c0, c1, c2, c3], _ =>
      match xs, hlen with
      | [y0, y1, y2, y3], _ =>
        have h0 := hf 0 _ rfl
        have h1 := hf 1 _ rfl
        have h2 := hf 2 _ rfl
        have h3 := hf 3 _ rfl
        simp [cu, cs1, ci, cl] at h0 h1 h2 h3
        obtain ⟨a0, e0, w0⟩ := opens_int (P := Tryd.prog) Tryd.underlying5 n H enc W base spare held n (Nat.le_refl _) _ _ h0
        obtain ⟨a1, e1, w1⟩ := opens_int (P := Tryd.prog) Tryd.underlying3 n H enc W base spare held n (Nat.le_refl _) _ _ h1
        obtain ⟨a2, e2, w2⟩ := opens_string (P := Tryd.prog) Tryd.underlying9 n H enc W base spare held n (Nat.le_refl _) _ _ h2
        obtain ⟨l, ⟨A, c, e3, hc, hr⟩, -, -⟩ := opens_slice (P := Tryd.prog) (d := k24) Tryd.underlying22 (by kernel_rfl) (opens_node N) H enc W base spare held n (by omega) _ _ h3
        have e0 : [c0] = [Value.int .u8 a0] := e0
        have e1 : [c1] = [Value.int .i64 a1] := e1
        have e2 : [c2] = [Value.string a2] := e2
        have e3 : [c3] = [Value.slice A l.length c] := e3
        injection e0 with e0; injection e1 with e1; injection e2 with e2; injection e3 with e3
        subst e0 e1 e2 e3
        exact ⟨⟨a0, a1, a2, l⟩, k24_mk W ⟨a0, a1, a2, l⟩ hc hr, trivial⟩

set_option maxRecDepth 100000 in
theorem open_node {H : Type} {enc : TypeId × Value → H} {W : World} {base : Nat} {v : Value} {d : DataW H} {ps : List MemPlace} (hv : Value.okWide Tryd.prog W .any base 24 v)
    (h : DataW.Trod enc Tryd.prog W 0 (fun _ => true) true 24 v d ps) : ∃ (n : S24) (A : Option Addr) (c : Nat), v = .agg #[.int .u8 n.f0, .int .i64 n.f1, .string n.f2, .slice A n.f3.length c] ∧ n.f3.length ≤ c ∧ Kd.C k24 W A n.f3.length n.f3 := by
  obtain ⟨cs, rfl, -⟩ := okWide_struct Tryd.underlying24 hv
  obtain ⟨fuel, hf⟩ := h
  obtain ⟨n, hK, -⟩ := opens_node fuel H enc W 0 _ _ fuel (Nat.le_refl _) _ _ hf
  obtain ⟨A, c, e, hc, hC⟩ := k24_open hK
  refine ⟨n, A, c, ?_, hc, hC⟩
  have e : cs.toList = [.int .u8 n.f0, .int .i64 n.f1, .string n.f2, .slice A n.f3.length c] := e
  congr 1
  rw [← Array.toArray_toList (xs := cs), e]

end Go.Proofs.YtlmmobfebjideaaDoor.Op
