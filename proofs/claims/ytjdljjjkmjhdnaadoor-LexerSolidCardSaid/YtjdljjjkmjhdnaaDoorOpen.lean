/- Opening an argument's data: what a value of a type, read as data, says of its cells, kind by kind (the kinds of the kit's print). -/
import Derived.Test.YtjdljjjkmjhdnaaDoorPx0
import Derived.Deep.Slices
import Derived.OpenShut
import Derived.WalkKit
import Derived.ProofKit
import Derived.ChangeOld
namespace Go.Proofs.YtjdljjjkmjhdnaaDoor.Op
open Go Go.RowKit Go.ChangeShapes Go.WideShapes Go.ChangeAt Go.Deep Go.Proofs.YtjdljjjkmjhdnaaDoor Go.Proofs.YtjdljjjkmjhdnaaDoor.P Go.Proofs.YtjdljjjkmjhdnaaDoorW.PrintWords
set_option linter.unusedVariables false
set_option linter.unusedSimpArgs false

/-- Cells of type t that read as data within so many steps say what the kind d says, of something that is fine. -/
def Opens {α : Type} (P : Program) (d : Kd α) (t : TypeId) (ok : α → Prop) (N : Nat) : Prop :=
  ∀ (H : Type) (enc : TypeId × Value → H) (W : World) (base : Nat) (spare : Nat → Bool) (held : Bool) (fuel : Nat), fuel ≤ N → ∀ (cs : List Value) (x : DataW H × List MemPlace),
    DataW.trod enc P W base spare held fuel t cs = some x → ∃ a, d.K W a cs ∧ ok a

theorem opens_int {P : Program} {t : TypeId} {k : IntKind} (ht : P.underlying t = some (.int k)) (N : Nat) : Opens P (Kd.int k) t (fun n => (Lit.int k n).wf = true) N := by
  intro H enc W base spare held fuel hN cs x h
  cases fuel with
  | zero => simp [DataW.trod] at h
  | succ m =>
    unfold DataW.trod at h
    rw [ht] at h
    split at h
    all_goals first | (simp_all; done) | skip
    all_goals first | (simp at h; done) | skip
    all_goals
      rename_i he
      first
      | (injection he with he; injection he with he; subst he
         simp only [Option.ite_none_right_eq_some, Bool.and_eq_true, beq_iff_eq] at h
         obtain ⟨⟨h1, h2⟩, -⟩ := h
         subst h1
         exact ⟨_, rfl, h2⟩)
      | (injection he with he; injection he with he; subst he
         split at h
         · rename_i hc
           simp only [Bool.and_eq_true, beq_iff_eq] at hc
           obtain ⟨h1, h2⟩ := hc
           subst h1
           exact ⟨_, rfl, h2⟩
         · simp at h)

theorem opens_string {P : Program} {t : TypeId} (ht : P.underlying t = some .string) (N : Nat) : Opens P Kd.string t (fun s => s.size ≤ maxLen) N := by
  intro H enc W base spare held fuel hN cs x h
  cases fuel with
  | zero => simp [DataW.trod] at h
  | succ m =>
    unfold DataW.trod at h
    rw [ht] at h
    split at h
    all_goals first | (simp_all; done) | skip
    all_goals
      simp only [Option.ite_none_right_eq_some] at h
      exact ⟨_, rfl, h.1⟩

theorem opens_slice {α : Type} {P : Program} {d : Kd α} {t e : TypeId} {ok : α → Prop} {N : Nat} (ht : P.underlying t = some (.slice e)) (hc : P.cellsOf e = d.sz) (hE : Opens P d e ok N) :
    Opens P (Kd.slice e d) t (fun l => l.length ≤ maxLen ∧ ∀ a ∈ l, ok a) (N + 1) := by
  intro H enc W base spare held fuel hN cs x h
  rcases DataW.trod_slice ht h with ⟨rfl, _⟩ | ⟨a, len, cap, elems, rest, n, rfl, rfl, _, hb, hl, hm, hlen, hel, _, _⟩
  · exact ⟨[], ⟨none, 0, rfl, Nat.le_refl _, rfl, by simp, fun hn => absurd hn (Nat.lt_irrefl _)⟩, by simp [maxLen], fun a ha => absurd ha (by simp)⟩
  · have key : ∀ i, i < len → ∃ p : α × List Value, p.2.length = d.sz ∧ d.K W p.1 p.2 ∧ ok p.1 ∧ ∀ j u, p.2[j]? = some u → W.cell? (a.add (i * d.sz + j)) = some u := by
      intro i hi
      have h1 := hel i hi
      rw [List.getElem?_eq_getElem (by omega)] at h1
      obtain ⟨cs', h2, h3⟩ := Option.bind_eq_some_iff.1 h1
      obtain ⟨b, hK, hok⟩ := hE H enc W base spare held n (by omega) cs' _ h3
      obtain ⟨_, hl2, hcell⟩ := World.cells?_some h2
      refine ⟨(b, cs'), by rw [← hc]; exact hl2, hK, hok, fun j u hj => ?_⟩
      have hj' : j < P.cellsOf e := by
        rw [← hl2]
        exact (List.getElem?_eq_some_iff.1 hj).1
      have := hcell j hj'
      rw [Go.Deep.add_add, hc] at this
      rw [this]
      exact hj
    by_cases h0 : len = 0
    · subst h0
      exact ⟨[], ⟨some a, cap, rfl, Nat.zero_le _, rfl, by simp, fun hn => absurd hn (Nat.lt_irrefl _)⟩, by simp [maxLen], fun a ha => absurd ha (by simp)⟩
    obtain ⟨p0, _⟩ := key 0 (by omega)
    haveI : Inhabited (α × List Value) := ⟨p0⟩
    obtain ⟨V, hV⟩ := choose_lt key
    have hlen2 : ((List.range len).map fun i => (V i).1).length = len := by simp
    refine ⟨(List.range len).map fun i => (V i).1, ⟨some a, cap, by rw [hlen2], by rw [hlen2]; exact hl, hlen2.symm ▸ rfl, by rw [hlen2]; unfold maxLen at hm; omega, fun _ => ⟨a, rfl, ?_⟩⟩, by rw [hlen2]; omega, ?_⟩
    · intro j q hq
      obtain ⟨hj, rfl⟩ := List.getElem?_eq_some_iff.1 hq
      have hj' : j < len := by rw [hlen2] at hj; exact hj
      obtain ⟨v1, v2, v3, v4⟩ := hV j hj'
      refine ⟨(V j).2, v1, by simpa using v2, v4⟩
    · intro b hb2
      simp only [List.mem_map, List.mem_range] at hb2
      obtain ⟨i, hi, rfl⟩ := hb2
      exact (hV i hi).2.2.1

theorem opens_le {α : Type} {P : Program} {d : Kd α} {t : TypeId} {ok : α → Prop} {N M : Nat} (h : Opens P d t ok N) (hM : M ≤ N) : Opens P d t ok M :=
  fun H enc W base spare held fuel hf cs x hx => h H enc W base spare held fuel (Nat.le_trans hf hM) cs x hx

/-- One step into a struct: each field's own cells. -/
theorem opens_field {α : Type} {H : Type} {enc : TypeId × Value → H} {P : Program} {W : World} {base : Nat} {spare : Nat → Bool} {held : Bool} {d : Kd α} {ok : α → Prop} {n N : Nat} {f : Field} {cs : List Value} {y : DataW H × List MemPlace}
    (hf : Opens P d f.type ok N) (hn : n ≤ N) (h : DataW.trod enc P W base spare held n f.type ((cs.drop f.offset).take (P.cellsOf f.type)) = some y) : ∃ a, d.K W a ((cs.drop f.offset).take (P.cellsOf f.type)) ∧ ok a :=
  hf H enc W base spare held n hn _ _ h

end Go.Proofs.YtjdljjjkmjhdnaaDoor.Op
