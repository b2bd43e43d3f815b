/- The law FormEnds: it returns true for every input, and the input reads behind the call as it did. -/
import Derived.Test.YtcaehpgdcjonfaaRows
import Derived.Test.YtcaehpgdcjonfaaK9
import Derived.Test.YtcaehpgdcjonfaaN2
import Derived.Test.YtcaehpgdcjonfaaFoP
import Derived.Test.YtcaehpgdcjonfaaFoQ
import Derived.JoinedOf
import Derived.Test.YtcaehpgdcjonfaaFeC
import Derived.JoinedAt
import Derived.Carry
namespace Go.Proofs.Ytcaehpgdcjonfaa
open Go.ChangeShapes Go.WideShapes Go.ChangeAt Go.RowKit Go.Fo

theorem feOwn : ownKnob Try.prog.godebug = none := by kernel_rfl
theorem feLaid : laidOutB Try.prog = true := by kernel_rfl
theorem feMaps : mapsRowed Try.prog = true := by kernel_rfl
theorem feFull : ∀ t e, t < Try.prog.types.size → Try.prog.underlying t = some (.slice e) → 0 < Try.prog.cellsOf e := slices_full_of Try.prog (by kernel_rfl)

set_option maxRecDepth 100000 in
theorem formEnds_lifted (os : Os) (started : os.Started) (H : Type) (enc : TypeId × Value → H) :
    ReturnsInHanded {} Try.checked os 7 .any (Rows.formEndsSpec.pre6 enc Try.prog Try.f7 Rows.formEndsRow.domain false) (Rows.formEndsSpec.post enc Try.prog Try.f7 false true false false) := by
  refine returnsInHanded_of_change (C := Try.checked) feOwn started (by kernel_rfl) Try.func7
    (ChangeSpec.witness6 (enc := enc) (C := Try.checked) false ⟨#[], #[.agg #[.int .i64 0, .int .i64 0, .int .i64 0, .int .i64 0, .int .i64 0, .int .i64 0, .int .i64 0, .int .i64 0, .int .i64 0, .int .i64 0]], []⟩ 8 (by kernel_rfl) (by kernel_rfl) (by kernel_rfl) (by kernel_rfl)) ?_
  intro W base args ds gs before hval0 hW _ _
  have hval : ∀ (j : Nat) t v, Try.f7.params[j]? = some t → args[j]? = some v → Value.okWide Try.prog W .any base t v := hval0
  have hW' := hW
  obtain ⟨p, q, hA0, hV, rfl, _, _⟩ := hW
  have hA : DataW.TrodAll enc Try.prog W 0 (fun _ => true) true Try.f7.params.toList args.toList ds p := hA0
  rw [Try.params7] at hA hval
  obtain ⟨v0, d0, rfl, rfl, h0⟩ := trodAll_one hA
  obtain ⟨rfl, rfl⟩ := trodVars_none hV
  obtain ⟨y0, c0, w0⟩ := arg_struct (k := .pair (.int .i64) (.pair (.int .i64) (.pair (.int .i64) (.pair (.int .i64) (.pair (.int .i64) (.pair (.int .i64) (.pair (.int .i64) (.pair (.int .i64) (.pair (.int .i64) (.int .i64)))))))))) (q := 8) Try.underlying50 (by kernel_rfl) (hval 0 50 v0 rfl rfl) h0 (fun _ => ⟨0, 0, 0, false, 0⟩)
  refine (law_calls (psalterylaw11_FormEnds.ok0 (K := 20) (ends y0.1 y0.2.1 y0.2.2.1 y0.2.2.2.1 y0.2.2.2.2.1 y0.2.2.2.2.2.1 y0.2.2.2.2.2.2.1 y0.2.2.2.2.2.2.2.1 y0.2.2.2.2.2.2.2.2.1 y0.2.2.2.2.2.2.2.2.2)) W _ ⟨_, _, rfl, c0, rfl⟩).mono fun e W' ⟨he, ho⟩ => ?_
  exact ⟨_, he, law_post (kids_rows feLaid feMaps) feFull (fun t ht => of_decide_eq_true (List.all_eq_true.1 (show (Try.f7.params.toList.all fun t => decide (t < Try.prog.types.size)) = true by kernel_rfl) t ht)) hW' rfl rfl rfl Try.underlying4 ho⟩

theorem formEnds_holds : Rows.FormEndsSaid :=
  OpenClaim.holds_of_wide 7 Try.f7 rfl rfl rfl rfl rfl rfl rfl ⟨rfl, rfl, rfl, rfl, rfl⟩ rfl rfl rfl rfl rfl feNamed Try.func7 feFacts feInst feWrap (fun os started H enc _ => formEnds_lifted os started H enc)

#print axioms formEnds_holds
end Go.Proofs.Ytcaehpgdcjonfaa
