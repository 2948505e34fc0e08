/- Opening an argument that is a slice of tokens. -/
import Derived.Test.YtjdljjjkmjhdnaaDoorOpen
namespace Go.Proofs.YtjdljjjkmjhdnaaDoor.Op
open Go Go.RowKit Go.ChangeShapes Go.WideShapes Go.ChangeAt Go.Deep Go.Proofs.YtjdljjjkmjhdnaaDoor Go.Proofs.YtjdljjjkmjhdnaaDoor.P Go.Proofs.YtjdljjjkmjhdnaaDoorW.PrintWords
set_option linter.unusedVariables false
set_option linter.unusedSimpArgs false

def okTok (x : S33) : Prop := (Lit.int .u8 x.f0).wf = true ∧ x.f1.size ≤ maxLen ∧ (Lit.int .i64 x.f2).wf = true

theorem opens_token (N : Nat) : Opens Tryd.prog k33 33 okTok N := by
  intro H enc W base spare held fuel hN cs x h
  obtain ⟨xs, n, rfl, rfl, hl, hlen, hf⟩ := DataW.trod_struct Tryd.underlying33 h
  have c3 : Tryd.prog.cellsOf 33 = 3 := by kernel_rfl
  have cu : Tryd.prog.cellsOf 5 = 1 := by kernel_rfl
  have cs1 : Tryd.prog.cellsOf 9 = 1 := by kernel_rfl
  have ci : Tryd.prog.cellsOf 3 = 1 := by kernel_rfl
  rw [c3] at hl
  match cs, hl with
  | [c0, c1, c2], _ =>
    match xs, hlen with
    | [y0, y1, y2], _ =>
      have h0 := hf 0 _ rfl
      have h1 := hf 1 _ rfl
      have h2 := hf 2 _ rfl
      simp [cu, cs1, ci] at h0 h1 h2
      obtain ⟨a0, e0, w0⟩ := opens_int (P := Tryd.prog) Tryd.underlying5 n H enc W base spare held n (Nat.le_refl _) _ _ h0
      obtain ⟨a1, e1, w1⟩ := opens_string (P := Tryd.prog) Tryd.underlying9 n H enc W base spare held n (Nat.le_refl _) _ _ h1
      obtain ⟨a2, e2, w2⟩ := opens_int (P := Tryd.prog) Tryd.underlying3 n H enc W base spare held n (Nat.le_refl _) _ _ h2
      have e0 : [c0] = [Value.int .u8 a0] := e0
      have e1 : [c1] = [Value.string a1] := e1
      have e2 : [c2] = [Value.int .i64 a2] := e2
      injection e0 with e0; injection e1 with e1; injection e2 with e2
      subst e0 e1 e2
      exact ⟨⟨a0, a1, a2⟩, k33_mk W ⟨a0, a1, a2⟩, w0, w1, w2⟩

theorem open_tokens {H : Type} {enc : TypeId × Value → H} {W : World} {base : Nat} {v : Value} {d : DataW H} {ps : List MemPlace} (hv : Value.okWide Tryd.prog W .any base 23 v)
    (h : DataW.Trod enc Tryd.prog W 0 (fun _ => true) true 23 v d ps) : ∃ (A : Option Addr) (l : List S33) (c : Nat), v = .slice A l.length c ∧ l.length ≤ c ∧ Kd.C k33 W A l.length l ∧ ∀ x ∈ l, okTok x := by
  obtain ⟨a, len, cap, rfl⟩ := okWide_slice Tryd.underlying23 hv
  obtain ⟨fuel, hf⟩ := h
  obtain ⟨l, ⟨A, c, e, hc, hr⟩, -, hok⟩ := opens_slice (P := Tryd.prog) (d := k33) Tryd.underlying23 (by kernel_rfl) (opens_token fuel) H enc W 0 _ _ fuel (Nat.le_succ _) _ _ hf
  have e : [Value.slice a len cap] = [Value.slice A l.length c] := e
  injection e with e
  exact ⟨A, l, c, e, hc, hr, hok⟩

end Go.Proofs.YtjdljjjkmjhdnaaDoor.Op
