/- The law WeatherEnds: it returns true for every input, and the input reads behind the call as it did. -/
import Derived.Test.YtcaehpgdcjonfaaRows
import Derived.Test.YtcaehpgdcjonfaaK9
import Derived.Test.YtcaehpgdcjonfaaN2
import Derived.Test.YtcaehpgdcjonfaaWpP
import Derived.Test.YtcaehpgdcjonfaaWeQ
import Derived.JoinedOf
import Derived.Test.YtcaehpgdcjonfaaWeC
import Derived.JoinedAt
import Derived.Carry
namespace Go.Proofs.Ytcaehpgdcjonfaa
open Go.ChangeShapes Go.WideShapes Go.ChangeAt Go.RowKit Go.Fo

theorem weOwn : ownKnob Try.prog.godebug = none := by kernel_rfl
theorem weLaid : laidOutB Try.prog = true := by kernel_rfl
theorem weMaps : mapsRowed Try.prog = true := by kernel_rfl
theorem weFull : ∀ t e, t < Try.prog.types.size → Try.prog.underlying t = some (.slice e) → 0 < Try.prog.cellsOf e := slices_full_of Try.prog (by kernel_rfl)

set_option maxRecDepth 100000 in
theorem weatherEnds_lifted (os : Os) (started : os.Started) (H : Type) (enc : TypeId × Value → H) :
    ReturnsInHanded {} Try.checked os 4 .any (Rows.weatherEndsSpec.pre6 enc Try.prog Try.f4 Rows.weatherEndsRow.domain false) (Rows.weatherEndsSpec.post enc Try.prog Try.f4 false true false false) := by
  refine returnsInHanded_of_change (C := Try.checked) weOwn started (by kernel_rfl) Try.func4
    (ChangeSpec.witness6 (enc := enc) (C := Try.checked) false ⟨#[], #[.agg #[.int .i64 0, .int .i64 0, .int .i64 0, .int .i64 0], .int .u32 0, .int .u8 0], []⟩ 8 (by kernel_rfl) (by kernel_rfl) (by kernel_rfl) (by kernel_rfl)) ?_
  intro W base args ds gs before hval0 hW _ _
  have hval : ∀ (j : Nat) t v, Try.f4.params[j]? = some t → args[j]? = some v → Value.okWide Try.prog W .any base t v := hval0
  have hW' := hW
  obtain ⟨p, q, hA0, hV, rfl, _, _⟩ := hW
  have hA : DataW.TrodAll enc Try.prog W 0 (fun _ => true) true Try.f4.params.toList args.toList ds p := hA0
  rw [Try.params4] at hA hval
  obtain ⟨v0, v1, v2, d0, d1, d2, p0, p1, p2, rfl, rfl, rfl, h0, h1, h2⟩ := trodAll_three hA
  obtain ⟨rfl, rfl⟩ := trodVars_none hV
  obtain ⟨y0, c0, w0⟩ := arg_struct (k := .pair (.int .i64) (.pair (.int .i64) (.pair (.int .i64) (.int .i64)))) (q := 8) Try.underlying23 (by kernel_rfl) (hval 0 23 v0 rfl rfl) h0 (fun _ => ⟨0, 0, 0, false, 0⟩)
  obtain ⟨y1, rfl, w1⟩ := arg_int Try.underlying24 (hval 1 24 v1 rfl rfl) h1
  obtain ⟨y2, rfl, w2⟩ := arg_int Try.underlying5 (hval 2 5 v2 rfl rfl) h2
  refine (law_calls (psalterylaw32_WeatherEnds.ok0 (K := 300) (ends y0.1 y0.2.1 y0.2.2.1 y0.2.2.2 y1 y2 (wf_u8 w2).1 (wf_u8 w2).2)) W _ ⟨_, _, rfl, c0, ⟨_, _, rfl, rfl, ⟨_, _, rfl, rfl, rfl⟩⟩⟩).mono fun e W' ⟨he, ho⟩ => ?_
  exact ⟨_, he, law_post (kids_rows weLaid weMaps) weFull (fun t ht => of_decide_eq_true (List.all_eq_true.1 (show (Try.f4.params.toList.all fun t => decide (t < Try.prog.types.size)) = true by kernel_rfl) t ht)) hW' rfl rfl rfl Try.underlying4 ho⟩

theorem weatherEnds_holds : Rows.WeatherEndsSaid :=
  OpenClaim.holds_of_wide 4 Try.f4 rfl rfl rfl rfl rfl rfl rfl ⟨rfl, rfl, rfl, rfl, rfl⟩ rfl rfl rfl rfl rfl weNamed Try.func4 weFacts weInst weWrap (fun os started H enc _ => weatherEnds_lifted os started H enc)

#print axioms weatherEnds_holds
end Go.Proofs.Ytcaehpgdcjonfaa
