/- The law BankNil: it returns true for every input, and the input reads behind the call as it did. -/
import Derived.Test.YtcaehpgdcjonfaaRows
import Derived.Test.YtcaehpgdcjonfaaK9
import Derived.Test.YtcaehpgdcjonfaaN2
import Derived.Test.YtcaehpgdcjonfaaBnP1
import Derived.Test.YtcaehpgdcjonfaaBnNl
import Derived.JoinedOf
import Derived.Test.YtcaehpgdcjonfaaBnC
import Derived.Test.YtcaehpgdcjonfaaBnD
import Derived.JoinedAt
import Derived.Carry
namespace Go.Proofs.Ytcaehpgdcjonfaa
open Go.ChangeShapes Go.WideShapes Go.ChangeAt Go.RowKit Go.Fo

theorem bnOwn : ownKnob Try.prog.godebug = none := by kernel_rfl
theorem bnLaid : laidOutB Try.prog = true := by kernel_rfl
theorem bnMaps : mapsRowed Try.prog = true := by kernel_rfl
theorem bnFull : ∀ t e, t < Try.prog.types.size → Try.prog.underlying t = some (.slice e) → 0 < Try.prog.cellsOf e := slices_full_of Try.prog (by kernel_rfl)

set_option maxRecDepth 100000 in
theorem bankNil_lifted (os : Os) (started : os.Started) (H : Type) (enc : TypeId × Value → H) :
    ReturnsInHanded {} Try.checked os 15 .any (Rows.bankNilSpec.pre6 enc Try.prog Try.f15 Rows.bankNilRow.domain false) (Rows.bankNilSpec.post enc Try.prog Try.f15 false true false false) := by
  refine returnsInHanded_of_change (C := Try.checked) bnOwn started (by kernel_rfl) Try.func15
    (ChangeSpec.witness6 (enc := enc) (C := Try.checked) false ⟨#[], #[.agg #[.int .i64 0, .int .i64 0]], []⟩ 8 (by kernel_rfl) (by kernel_rfl) (by kernel_rfl) (by kernel_rfl)) ?_
  intro W base args ds gs before hval0 hW _ _
  have hval : ∀ (j : Nat) t v, Try.f15.params[j]? = some t → args[j]? = some v → Value.okWide Try.prog W .any base t v := hval0
  have hW' := hW
  obtain ⟨p, q, hA0, hV, rfl, _, _⟩ := hW
  have hA : DataW.TrodAll enc Try.prog W 0 (fun _ => true) true Try.f15.params.toList args.toList ds p := hA0
  rw [Try.params15] at hA hval
  obtain ⟨v0, d0, rfl, rfl, h0⟩ := trodAll_one hA
  obtain ⟨rfl, rfl⟩ := trodVars_none hV
  obtain ⟨y0, c0, w0⟩ := arg_struct (k := .pair (.int .i64) (.int .i64)) (q := 8) Try.underlying96 (by kernel_rfl) (hval 0 96 v0 rfl rfl) h0 (fun _ => ⟨0, 0, 0, false, 0⟩)
  refine (law_calls (psalterylaw04_BankNil.ok0 (K := 1100) (bankNil_w y0.1 y0.2)) W _ ⟨_, _, rfl, c0, rfl⟩).mono fun e W' ⟨he, ho⟩ => ?_
  exact ⟨_, he, law_post (kids_rows bnLaid bnMaps) bnFull (fun t ht => of_decide_eq_true (List.all_eq_true.1 (show (Try.f15.params.toList.all fun t => decide (t < Try.prog.types.size)) = true by kernel_rfl) t ht)) hW' rfl rfl rfl Try.underlying4 ho⟩

theorem bankNil_holds : Rows.BankNilSaid :=
  OpenClaim.holds_of_wide 15 Try.f15 rfl rfl rfl rfl rfl rfl rfl ⟨rfl, rfl, rfl, rfl, rfl⟩ rfl rfl rfl rfl rfl bnNamed Try.func15 bnFacts bnInst bnWrap (fun os started H enc _ => bankNil_lifted os started H enc)

#print axioms bankNil_holds
end Go.Proofs.Ytcaehpgdcjonfaa
