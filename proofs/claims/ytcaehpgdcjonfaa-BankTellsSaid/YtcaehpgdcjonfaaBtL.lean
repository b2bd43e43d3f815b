/- The law BankTells: it returns true for every input, and the input reads behind the call as it did. -/
import Derived.Test.YtcaehpgdcjonfaaRows
import Derived.Test.YtcaehpgdcjonfaaJ3
import Derived.Test.YtcaehpgdcjonfaaBtP1
import Derived.Test.YtcaehpgdcjonfaaBtTl
import Derived.JoinedOf
import Derived.Test.YtcaehpgdcjonfaaBtC
import Derived.Test.YtcaehpgdcjonfaaBtD
import Derived.JoinedAt
import Derived.Carry
namespace Go.Proofs.Ytcaehpgdcjonfaa
open Go.ChangeShapes Go.WideShapes Go.ChangeAt Go.RowKit Go.Fo

theorem btOwn : ownKnob Try.prog.godebug = none := by kernel_rfl
theorem btLaid : laidOutB Try.prog = true := by kernel_rfl
theorem btMaps : mapsRowed Try.prog = true := by kernel_rfl
theorem btFull : ∀ t e, t < Try.prog.types.size → Try.prog.underlying t = some (.slice e) → 0 < Try.prog.cellsOf e := slices_full_of Try.prog (by kernel_rfl)

set_option maxRecDepth 100000 in
theorem bankTells_lifted (os : Os) (started : os.Started) (H : Type) (enc : TypeId × Value → H) :
    ReturnsInHanded {} Try.checked os 13 .any (Rows.bankTellsSpec.pre6 enc Try.prog Try.f13 Rows.bankTellsRow.domain false) (Rows.bankTellsSpec.post enc Try.prog Try.f13 false true false false) := by
  refine returnsInHanded_of_change (C := Try.checked) btOwn started (by kernel_rfl) Try.func13
    (ChangeSpec.witness6 (enc := enc) (C := Try.checked) false ⟨#[], #[.slice none 0 0], []⟩ 8 (by kernel_rfl) (by kernel_rfl) (by kernel_rfl) (by kernel_rfl)) ?_
  intro W base args ds gs before hval0 hW _ _
  have hval : ∀ (j : Nat) t v, Try.f13.params[j]? = some t → args[j]? = some v → Value.okWide Try.prog W .any base t v := hval0
  have hW' := hW
  obtain ⟨p, q, hA0, hV, rfl, _, _⟩ := hW
  have hA : DataW.TrodAll enc Try.prog W 0 (fun _ => true) true Try.f13.params.toList args.toList ds p := hA0
  rw [Try.params13] at hA hval
  obtain ⟨v0, d0, rfl, rfl, h0⟩ := trodAll_one hA
  obtain ⟨rfl, rfl⟩ := trodVars_none hV
  obtain ⟨y0, c0, w0⟩ := arg_slice (e := .pair (.int .i64) (.int .i64)) (q := 6) Try.underlying89 (by kernel_rfl) (hval 0 89 v0 rfl rfl) h0 (fun _ => ⟨0, 0, 0, false, 0⟩)
  refine (law_calls (psalterylaw04_BankTells.ok0 (K := 1100) (bankTells_w y0)) W _ ⟨_, _, rfl, c0, rfl⟩).mono fun e W' ⟨he, ho⟩ => ?_
  exact ⟨_, he, law_post (kids_rows btLaid btMaps) btFull (fun t ht => of_decide_eq_true (List.all_eq_true.1 (show (Try.f13.params.toList.all fun t => decide (t < Try.prog.types.size)) = true by kernel_rfl) t ht)) hW' rfl rfl rfl Try.underlying4 ho⟩

theorem bankTells_holds : Rows.BankTellsSaid :=
  OpenClaim.holds_of_wide 13 Try.f13 rfl rfl rfl rfl rfl rfl rfl ⟨rfl, rfl, rfl, rfl, rfl⟩ rfl rfl rfl rfl rfl btNamed Try.func13 btFacts btInst btWrap (fun os started H enc _ => bankTells_lifted os started H enc)

#print axioms bankTells_holds
end Go.Proofs.Ytcaehpgdcjonfaa
