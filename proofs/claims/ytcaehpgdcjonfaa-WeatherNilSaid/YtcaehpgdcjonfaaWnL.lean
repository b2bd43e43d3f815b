/- The law WeatherNil of layer 32 returns true for every input, and the input reads behind the call as it did. -/
import Derived.Test.YtcaehpgdcjonfaaRows
import Derived.Test.YtcaehpgdcjonfaaK6
import Derived.Test.YtcaehpgdcjonfaaWnP
import Derived.JoinedOf
import Derived.Test.YtcaehpgdcjonfaaWnC
import Derived.JoinedAt
namespace Go.Proofs.Ytcaehpgdcjonfaa
open Go.ChangeShapes Go.WideShapes Go.ChangeAt Go.RowKit Go.Fo

theorem wnOwn : ownKnob Try.prog.godebug = none := by kernel_rfl
theorem wnLaid : laidOutB Try.prog = true := by kernel_rfl
theorem wnMaps : mapsRowed Try.prog = true := by kernel_rfl
theorem wnFull : ∀ t e, t < Try.prog.types.size → Try.prog.underlying t = some (.slice e) → 0 < Try.prog.cellsOf e := slices_full_of Try.prog (by kernel_rfl)

theorem wnTrue (a : Int) : psalterylaw32_WeatherNil 8 a = some true := by rfl

set_option maxRecDepth 100000 in
theorem weatherNil_lifted (os : Os) (started : os.Started) (H : Type) (enc : TypeId × Value → H) :
    ReturnsInHanded {} Try.checked os 5 .any (Rows.weatherNilSpec.pre6 enc Try.prog Try.f5 Rows.weatherNilRow.domain false) (Rows.weatherNilSpec.post enc Try.prog Try.f5 false true false false) := by
  refine returnsInHanded_of_change (C := Try.checked) wnOwn started (by kernel_rfl) Try.func5
    (ChangeSpec.witness6 (enc := enc) (C := Try.checked) false ⟨#[], #[.int .i64 0], []⟩ 8 (by kernel_rfl) (by kernel_rfl) (by kernel_rfl) (by kernel_rfl)) ?_
  intro W base args ds gs before hval0 hW _ _
  have hval : ∀ (j : Nat) t v, Try.f5.params[j]? = some t → args[j]? = some v → Value.okWide Try.prog W .any base t v := hval0
  have hW' := hW
  obtain ⟨p, q, hA0, hV, rfl, _, _⟩ := hW
  have hA : DataW.TrodAll enc Try.prog W 0 (fun _ => true) true Try.f5.params.toList args.toList ds p := hA0
  rw [Try.params5] at hA hval
  obtain ⟨v0, d0, rfl, rfl, h0⟩ := trodAll_one hA
  obtain ⟨rfl, rfl⟩ := trodVars_none hV
  obtain ⟨a, rfl, rfl, rfl, _⟩ := open_int Try.underlying3 (hval 0 3 v0 rfl rfl) h0
  refine (law_calls (psalterylaw32_WeatherNil.ok0 (wnTrue a)) W #[.int .i64 a] ⟨_, _, rfl, rfl, rfl⟩).mono fun e W' ⟨he, ho⟩ => ?_
  exact ⟨_, he, law_post (kids_rows wnLaid wnMaps) wnFull (fun t ht => of_decide_eq_true (List.all_eq_true.1 (show (Try.f5.params.toList.all fun t => decide (t < Try.prog.types.size)) = true by kernel_rfl) t ht)) hW' rfl rfl rfl Try.underlying4 ho⟩

theorem weatherNil_holds : Rows.WeatherNilSaid :=
  OpenClaim.holds_of_wide 5 Try.f5 rfl rfl rfl rfl rfl rfl rfl ⟨rfl, rfl, rfl, rfl, rfl⟩ rfl rfl rfl rfl rfl wnNamed Try.func5 wnFacts wnInst wnWrap (fun os started H enc _ => weatherNil_lifted os started H enc)

#print axioms weatherNil_holds
end Go.Proofs.Ytcaehpgdcjonfaa
