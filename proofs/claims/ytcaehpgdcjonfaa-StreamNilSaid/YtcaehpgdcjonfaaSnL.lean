/- The law StreamNil: it returns true for every input, and the input reads behind the call as it did. -/
import Derived.Test.YtcaehpgdcjonfaaRows
import Derived.Test.YtcaehpgdcjonfaaK9
import Derived.Test.YtcaehpgdcjonfaaN2
import Derived.Test.YtcaehpgdcjonfaaSnP4
import Derived.Test.YtcaehpgdcjonfaaSnQ
import Derived.JoinedOf
import Derived.Test.YtcaehpgdcjonfaaSnC
import Derived.Test.YtcaehpgdcjonfaaSnD
import Derived.JoinedAt
import Derived.Carry
namespace Go.Proofs.Ytcaehpgdcjonfaa
open Go.ChangeShapes Go.WideShapes Go.ChangeAt Go.RowKit Go.Fo

theorem snOwn : ownKnob Try.prog.godebug = none := by kernel_rfl
theorem snLaid : laidOutB Try.prog = true := by kernel_rfl
theorem snMaps : mapsRowed Try.prog = true := by kernel_rfl
theorem snFull : ∀ t e, t < Try.prog.types.size → Try.prog.underlying t = some (.slice e) → 0 < Try.prog.cellsOf e := slices_full_of Try.prog (by kernel_rfl)

set_option maxRecDepth 100000 in
theorem streamNil_lifted (os : Os) (started : os.Started) (H : Type) (enc : TypeId × Value → H) :
    ReturnsInHanded {} Try.checked os 20 .any (Rows.streamNilSpec.pre6 enc Try.prog Try.f20 Rows.streamNilRow.domain false) (Rows.streamNilSpec.post enc Try.prog Try.f20 false true false false) := by
  refine returnsInHanded_of_change (C := Try.checked) snOwn started (by kernel_rfl) Try.func20
    (ChangeSpec.witness6 (enc := enc) (C := Try.checked) false ⟨#[], #[.int .i64 0], []⟩ 8 (by kernel_rfl) (by kernel_rfl) (by kernel_rfl) (by kernel_rfl)) ?_
  intro W base args ds gs before hval0 hW _ _
  have hval : ∀ (j : Nat) t v, Try.f20.params[j]? = some t → args[j]? = some v → Value.okWide Try.prog W .any base t v := hval0
  have hW' := hW
  obtain ⟨p, q, hA0, hV, rfl, _, _⟩ := hW
  have hA : DataW.TrodAll enc Try.prog W 0 (fun _ => true) true Try.f20.params.toList args.toList ds p := hA0
  rw [Try.params20] at hA hval
  obtain ⟨v0, d0, rfl, rfl, h0⟩ := trodAll_one hA
  obtain ⟨rfl, rfl⟩ := trodVars_none hV
  obtain ⟨y0, rfl, w0⟩ := arg_int Try.underlying3 (hval 0 3 v0 rfl rfl) h0
  refine (law_calls (psalterylaw25_StreamNil.ok0 (K := 300) (nil25 y0)) W _ ⟨_, _, rfl, rfl, rfl⟩).mono fun e W' ⟨he, ho⟩ => ?_
  exact ⟨_, he, law_post (kids_rows snLaid snMaps) snFull (fun t ht => of_decide_eq_true (List.all_eq_true.1 (show (Try.f20.params.toList.all fun t => decide (t < Try.prog.types.size)) = true by kernel_rfl) t ht)) hW' rfl rfl rfl Try.underlying4 ho⟩

theorem streamNil_holds : Rows.StreamNilSaid :=
  OpenClaim.holds_of_wide 20 Try.f20 rfl rfl rfl rfl rfl rfl rfl ⟨rfl, rfl, rfl, rfl, rfl⟩ rfl rfl rfl rfl rfl snNamed Try.func20 snFacts snInst snWrap (fun os started H enc _ => streamNil_lifted os started H enc)

#print axioms streamNil_holds
end Go.Proofs.Ytcaehpgdcjonfaa
