/- The law BankOnce: it returns true for every input, and the input reads behind the call as it did. -/
import Derived.Test.YtcaehpgdcjonfaaRows
import Derived.Test.YtcaehpgdcjonfaaJ3
import Derived.Test.YtcaehpgdcjonfaaBoP1
import Derived.Test.YtcaehpgdcjonfaaBoOn
import Derived.JoinedOf
import Derived.Test.YtcaehpgdcjonfaaBoC
import Derived.Test.YtcaehpgdcjonfaaBoD
import Derived.JoinedAt
import Derived.Carry
namespace Go.Proofs.Ytcaehpgdcjonfaa
open Go.ChangeShapes Go.WideShapes Go.ChangeAt Go.RowKit Go.Fo

theorem boOwn : ownKnob Try.prog.godebug = none := by kernel_rfl
theorem boLaid : laidOutB Try.prog = true := by kernel_rfl
theorem boMaps : mapsRowed Try.prog = true := by kernel_rfl
theorem boFull : ∀ t e, t < Try.prog.types.size → Try.prog.underlying t = some (.slice e) → 0 < Try.prog.cellsOf e := slices_full_of Try.prog (by kernel_rfl)

set_option maxRecDepth 100000 in
theorem bankOnce_lifted (os : Os) (started : os.Started) (H : Type) (enc : TypeId × Value → H) :
    ReturnsInHanded {} Try.checked os 14 .any (Rows.bankOnceSpec.pre6 enc Try.prog Try.f14 Rows.bankOnceRow.domain false) (Rows.bankOnceSpec.post enc Try.prog Try.f14 false true false false) := by
  refine returnsInHanded_of_change (C := Try.checked) boOwn started (by kernel_rfl) Try.func14
    (ChangeSpec.witness6 (enc := enc) (C := Try.checked) false ⟨#[], #[.slice none 0 0, .agg #[.int .i64 0, .int .i64 0]], []⟩ 8 (by kernel_rfl) (by kernel_rfl) (by kernel_rfl) (by kernel_rfl)) ?_
  intro W base args ds gs before hval0 hW _ _
  have hval : ∀ (j : Nat) t v, Try.f14.params[j]? = some t → args[j]? = some v → Value.okWide Try.prog W .any base t v := hval0
  have hW' := hW
  obtain ⟨p, q, hA0, hV, rfl, _, _⟩ := hW
  have hA : DataW.TrodAll enc Try.prog W 0 (fun _ => true) true Try.f14.params.toList args.toList ds p := hA0
  rw [Try.params14] at hA hval
  obtain ⟨v0, v1, d0, d1, p0, p1, rfl, rfl, rfl, h0, h1⟩ := trodAll_two hA
  obtain ⟨rfl, rfl⟩ := trodVars_none hV
  obtain ⟨y0, c0, w0⟩ := arg_slice (e := .pair (.int .i64) (.int .i64)) (q := 6) Try.underlying89 (by kernel_rfl) (hval 0 89 v0 rfl rfl) h0 (fun _ => ⟨0, 0, 0, false, 0⟩)
  obtain ⟨y1, c1, w1⟩ := arg_struct (k := .pair (.int .i64) (.int .i64)) (q := 8) Try.underlying96 (by kernel_rfl) (hval 1 96 v1 rfl rfl) h1 (fun _ => ⟨0, 0, 0, false, 0⟩)
  refine (law_calls (psalterylaw04_BankOnce.ok0 (K := 1100) (bankOnce_w y0 y1.1 y1.2)) W _ ⟨_, _, rfl, c0, ⟨_, _, rfl, c1, rfl⟩⟩).mono fun e W' ⟨he, ho⟩ => ?_
  exact ⟨_, he, law_post (kids_rows boLaid boMaps) boFull (fun t ht => of_decide_eq_true (List.all_eq_true.1 (show (Try.f14.params.toList.all fun t => decide (t < Try.prog.types.size)) = true by kernel_rfl) t ht)) hW' rfl rfl rfl Try.underlying4 ho⟩

theorem bankOnce_holds : Rows.BankOnceSaid :=
  OpenClaim.holds_of_wide 14 Try.f14 rfl rfl rfl rfl rfl rfl rfl ⟨rfl, rfl, rfl, rfl, rfl⟩ rfl rfl rfl rfl rfl boNamed Try.func14 boFacts boInst boWrap (fun os started H enc _ => bankOnce_lifted os started H enc)

#print axioms bankOnce_holds
end Go.Proofs.Ytcaehpgdcjonfaa
