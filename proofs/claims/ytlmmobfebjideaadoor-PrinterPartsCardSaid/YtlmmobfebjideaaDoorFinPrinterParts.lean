/- The law PrinterParts: its plain statement, its row and its tied card. -/
import Derived.Test.YtlmmobfebjideaaDoorS9
import Derived.Test.YtlmmobfebjideaaDoorS10
import Derived.Test.YtlmmobfebjideaaDoorCards
import Derived.Test.YtlmmobfebjideaaDoorTie
import Derived.Test.YtlmmobfebjideaaDoorS4
import Derived.WalkKit
import Derived.ProofKit
import Derived.OpenShut
import Derived.ShutString
import Derived.ChangeOld
import Derived.Below
import Derived.SizedLaws
import Derived.SevenTiedAt

/- The plain statement of PrinterParts: Expr and Block return the specified texts, and ErrForm for trees that are no expressions or blocks. -/
namespace Go.Proofs.YtlmmobfebjideaaDoor.Pure
open Go.RowKit Go.Proofs.YtlmmobfebjideaaDoor Go.Proofs.YtlmmobfebjideaaDoor.P Go.Proofs.YtlmmobfebjideaaDoor.M Go.Proofs.YtlmmobfebjideaaDoorW.PrintWords Go.Proofs.YtlmmobfebjideaaDoorW.PrintLast
set_option linter.unusedVariables false
set_option linter.unusedSimpArgs false

theorem empty_list : (⟨#[]⟩ : ByteArray).toList = [] := by rw [Lib.toList_data]

theorem PrinterParts (n : Nd) : ∃ k, ontimelaw14_PrinterParts.f k n.f0 n.f1 n.f2 n.f3 = some true := by
  obtain ⟨k, b, hk, hb⟩ := small_f n
  refine ⟨k + 1, ?_⟩
  unfold ontimelaw14_PrinterParts.f ontimelaw14_awake.f
  simp only [Option.bind_some]
  rw [if_pos trivial, hk (k + 1) (by omega)]
  simp only [Option.bind_some]
  cases b with
  | false => rw [if_neg (by decide)]
  | true =>
    rw [if_pos rfl]
    obtain ⟨hd, hs⟩ := hb rfl
    have hn : (⟨n.f0, n.f1, n.f2, n.f3⟩ : Nd) = n := by cases n; rfl
    -- the second half
    have half : ontimelaw14_PrinterParts.j0 (k + 1) n.f0 n.f1 n.f2 n.f3 = some true := by
      rw [ontimelaw14_PrinterParts.j0]
      unfold printer_Block.f ast_IsBlock.f
      rw [hn]
      by_cases h8 : isN 8 n = true
      · have hl := (out_len n).2 h8 0 (by omega)
        rw [if_pos h8, if_pos ⟨by omega, by omega⟩]
        simp only [Option.bind_some]
        rw [if_pos h8, if_pos (by trivial)]
        unfold ontimeref14_Lines.f
        rw [hn, if_pos ⟨h8, by omega, by simp only [Int.toNat_zero]; omega, by simp only [Int.toNat_zero]; omega⟩]
        simp
      · rw [if_neg h8]
        simp only [Option.bind_some]
        rw [if_neg h8, if_pos (by trivial), empty_list]
        rfl
    unfold printer_Expr.f ast_IsExpr.f
    rw [hn]
    by_cases h1 : isN 1 n = true
    · have hl := pE_len n h1
      rw [if_pos h1, if_pos (by omega)]
      simp only [Option.bind_some]
      rw [if_pos h1, if_pos (by trivial)]
      unfold ontimeref14_Expr.f
      rw [hn, if_pos ⟨h1, by omega⟩]
      simp only [Option.bind_some]
      rw [if_pos (by trivial)]
      exact half
    · rw [if_neg h1]
      simp only [Option.bind_some]
      rw [if_neg h1, if_pos (by trivial), if_pos empty_list]
      exact half

theorem PrinterParts_walk (n : Nd) (A : Option Addr) (c : Nat) (w : World) (e : n.f3.length ≤ c) (r : Kd.C k24 w A n.f3.length n.f3) (hL : Laid w) :
    Calls Tryd.prog 3 #[.agg #[.int .u8 n.f0, .int .i64 n.f1, .string n.f2, .slice A n.f3.length c]] w fun e w' => e = .returned (.bool true) ∧ Below w.heap.size w w' := by
  obtain ⟨k, h⟩ := PrinterParts n
  exact ontimelaw14_PrinterParts.calls k _ _ _ A c n.f3 true w r e hL h

end Go.Proofs.YtlmmobfebjideaaDoor.Pure

/- The law PrinterParts: for whatever arguments, and whatever the memory beside the library's two tables of white space (laid as the program's own start lays them), the call returns true and every argument reads as it did; and its card, which ties those tables to the program's text. -/
namespace Go.Proofs.YtlmmobfebjideaaDoor.printerParts
open Go Go.ChangeShapes Go.WideShapes Go.ChangeAt Go.RowKit
open Go.ChangeMaps (open_string shut_string)
set_option linter.unusedVariables false
theorem laidOut : laidOutB Tryd.prog = true := by kernel_rfl
set_option maxRecDepth 100000 in
theorem lifted (os : Os) (started : os.Started) (H : Type) (enc : TypeId × Value → H) :
    ReturnsInHanded {} Tryd.checked os 3 .any (fun w args => (Rows.printerPartsSpec.pre enc Tryd.prog Tryd.f3 [] false w args ∧ laidMetH Tryd.prog laidList w) ∧ sizedMet enc Tryd.prog Tryd.f3 (OpenSpec.ofChange Rows.printerPartsSpec) false w args) (Rows.printerPartsSpec.post enc Tryd.prog Tryd.f3 false true false false) := by
  refine returnsInHanded_of_change_and (C := Tryd.checked) (X := fun w _ => laidMetH Tryd.prog laidList w) (fun _ _ _ hh h => h.of_heap hh) own started (by kernel_rfl) Tryd.func3
    (ChangeSpec.witness_shaped (enc := enc) (C := Tryd.checked) (os := os) (X := fun w _ => laidMetH Tryd.prog laidList w) false (World.doorLaid Tryd.prog 400 os) #[.agg #[.int .u8 0, .int .i64 0, .string ByteArray.empty, .slice none 0 0]] 8 rfl (World.shaped_of_RefB (by kernel_rfl) (by kernel_rfl)) (by kernel_rfl) (by kernel_rfl) (by kernel_rfl) (door_met os _)) ?_
  intro W base args ds gs before hval0 hW hcnd hsz0 hL _
  have hsz : (DataW.weightsEach Tryd.prog (Tryd.f3.params.toList ++ Rows.printerPartsSpec.plain.varTypes Tryd.prog) (ds ++ gs)).all (· ≤ reachBytes) = true := hsz0
  have hval : ∀ (j : Nat) t v, Tryd.f3.params[j]? = some t → args[j]? = some v → Value.okWide Tryd.prog W .any base t v := hval0
  have hW' := hW
  obtain ⟨p, q, hA0, hV, rfl, hfz, hnd⟩ := hW
  have hA : DataW.TrodAll enc Tryd.prog W 0 (fun _ => true) true Tryd.f3.params.toList args.toList ds p := hA0
  rw [Tryd.params3] at hA hval hsz
  obtain ⟨v0, vs0, d0, ds0, p0, q0, hargs, rfl, rfl, h0, r0⟩ := trodAll_cons hA
  obtain ⟨rfl, rfl, rfl⟩ := trodAll_nil r0
  obtain rfl : args = #[v0] := by cases args; simp_all
  obtain ⟨rfl, rfl⟩ := trodVars_none hV
  have k0 := h0
  have lt0 : ∀ x ∈ p0, x.block < W.heap.size := by obtain ⟨m, hm⟩ := k0; exact DataW.trod_lt m _ _ _ hm
  obtain ⟨n0, A0, c0, rfl, e0, r0⟩ := Op.open_node (hval 0 24 v0 rfl rfl) h0
  have hLaid := laid_of hL
  clear hA0 hval0 hsz0 hsz hL
  refine (Pure.PrinterParts_walk n0 A0 c0 W e0 r0 hLaid).mono fun e W' ⟨he, bel⟩ => ?_
  subst he
  exact ⟨_, rfl, _, _, _, [], _, [], hW', trodAll_mk1 (shut_bool Tryd.underlying4 _), (trodAll_cons_mk (Below.trod laidOut (by kernel_rfl) (of_decide_eq_true (by kernel_rfl)) k0 bel lt0) trodAll_mk0), rfl, bel.frame _, fun h => by cases h⟩
theorem over : Rows.printerPartsRow.holds Tryd.pinned (OpenSpec.ofChange Rows.printerPartsSpec) :=
  OpenClaim.holds_of_wide 3 Tryd.f3 rfl rfl rfl rfl rfl rfl rfl ⟨rfl, rfl, rfl, rfl, rfl⟩ rfl rfl rfl rfl rfl (by kernel_rfl) Tryd.func3 (by kernel_rfl)
    (of_decide_eq_true (by kernel_rfl)) (by unfold Func.isWrapper; first | (rw [if_pos (by decide +kernel)]; kernel_rfl) | (rw [if_neg (by decide +kernel)]; exact ⟨rfl, rfl⟩))
    (fun os started H enc _ => lifted os started H enc)
theorem row_holds : Rows.PrinterPartsSaid := over
theorem card_holds : Rows.PrinterPartsCardSaid :=
  Claim7.holds_tied_plain_at .later [] [.data, .data, .data, .data, .listed, .data] true (true, "89b95ac6abab4cbd654d3b1acc1952a427efe32f73664541d87b6bd2f6e1d00e") false
    row_holds (fun _ h => by cases h) (by kernel_rfl) (fun _ h => by cases h) printerParts_row_tie rfl ⟨rfl, rfl⟩ (by kernel_rfl) rfl
    (fun f fn hf hfn => by
      obtain rfl : f = 3 := Option.some.inj ((show Tryd.prog.funcNamed Rows.printerPartsRow.func = some 3 by kernel_rfl).symm.trans hf) |>.symm
      obtain rfl : fn = Tryd.f3 := (Option.some.inj (Tryd.func3.symm.trans hfn)).symm
      exact ⟨by kernel_rfl, fun j t ht => by
        rw [Tryd.params3] at ht
        have hm : t ∈ [24] := by simpa using Array.mem_of_getElem? ht
        have hall : ([24].all fun u => !Tryd.prog.wantsStandIn u) = true := by kernel_rfl
        exact (show Tryd.prog.wantsStandIn t = false by simpa using List.all_eq_true.1 hall t hm)⟩)
    (by kernel_rfl)
end Go.Proofs.YtlmmobfebjideaaDoor.printerParts
namespace Go.Proofs.YtlmmobfebjideaaDoor
/-- The law's tied card, under a short name, for the claim. -/
theorem printerParts_card : Rows.PrinterPartsCardSaid := printerParts.card_holds
#print axioms printerParts_card
end Go.Proofs.YtlmmobfebjideaaDoor
