/- The law CapsTells: it returns true for every input, and the input reads behind the call as it did. -/
import Derived.Test.YtcaehpgdcjonfaaRows
import Derived.Test.YtcaehpgdcjonfaaK9
import Derived.Test.YtcaehpgdcjonfaaN2
import Derived.Test.YtcaehpgdcjonfaaCtP4
import Derived.Test.YtcaehpgdcjonfaaCtS
import Derived.JoinedOf
import Derived.Test.YtcaehpgdcjonfaaCtC
import Derived.Test.YtcaehpgdcjonfaaCtD
import Derived.JoinedAt
import Derived.Carry
namespace Go.Proofs.Ytcaehpgdcjonfaa
open Go.ChangeShapes Go.WideShapes Go.ChangeAt Go.RowKit Go.Fo

theorem ctOwn : ownKnob Try.prog.godebug = none := by kernel_rfl
theorem ctLaid : laidOutB Try.prog = true := by kernel_rfl
theorem ctMaps : mapsRowed Try.prog = true := by kernel_rfl
theorem ctFull : ∀ t e, t < Try.prog.types.size → Try.prog.underlying t = some (.slice e) → 0 < Try.prog.cellsOf e := slices_full_of Try.prog (by kernel_rfl)

set_option maxRecDepth 100000 in
theorem capsTells_lifted (os : Os) (started : os.Started) (H : Type) (enc : TypeId × Value → H) :
    ReturnsInHanded {} Try.checked os 11 .any (Rows.capsTellsSpec.pre6 enc Try.prog Try.f11 Rows.capsTellsRow.domain false) (Rows.capsTellsSpec.post enc Try.prog Try.f11 false true false false) := by
  refine returnsInHanded_of_change (C := Try.checked) ctOwn started (by kernel_rfl) Try.func11
    (ChangeSpec.witness6 (enc := enc) (C := Try.checked) false ⟨#[], #[.agg #[.int .i64 0, .int .i64 0, .int .i64 0, .int .i64 0, .int .i64 0, .int .i64 0, .int .i64 0, .int .i64 0, .int .i64 0, .int .i64 0, .int .i64 0, .int .i64 0, .int .i64 0, .int .i64 0, .int .i64 0], .agg #[.int .i64 0, .int .i64 0, .int .i64 0, .int .i64 0, .int .i64 0, .int .i64 0, .int .i64 0, .int .i64 0, .int .i64 0, .int .i64 0], .agg #[.int .i64 0, .int .i64 0]], []⟩ 8 (by kernel_rfl) (by kernel_rfl) (by kernel_rfl) (by kernel_rfl)) ?_
  intro W base args ds gs before hval0 hW _ _
  have hval : ∀ (j : Nat) t v, Try.f11.params[j]? = some t → args[j]? = some v → Value.okWide Try.prog W .any base t v := hval0
  have hW' := hW
  obtain ⟨p, q, hA0, hV, rfl, _, _⟩ := hW
  have hA : DataW.TrodAll enc Try.prog W 0 (fun _ => true) true Try.f11.params.toList args.toList ds p := hA0
  rw [Try.params11] at hA hval
  obtain ⟨v0, v1, v2, d0, d1, d2, p0, p1, p2, rfl, rfl, rfl, h0, h1, h2⟩ := trodAll_three hA
  obtain ⟨rfl, rfl⟩ := trodVars_none hV
  obtain ⟨y0, c0, w0⟩ := arg_struct (k := .pair (.pair (.int .i64) (.pair (.int .i64) (.pair (.int .i64) (.pair (.int .i64) (.pair (.int .i64) (.pair (.int .i64) (.pair (.int .i64) (.int .i64)))))))) (.pair (.pair (.int .i64) (.pair (.int .i64) (.pair (.int .i64) (.pair (.int .i64) (.int .i64))))) (.pair (.int .i64) (.int .i64)))) (q := 8) Try.underlying60 (by kernel_rfl) (hval 0 60 v0 rfl rfl) h0 (fun _ => ⟨0, 0, 0, false, 0⟩)
  obtain ⟨y1, c1, w1⟩ := arg_struct (k := .pair (.int .i64) (.pair (.int .i64) (.pair (.int .i64) (.pair (.int .i64) (.pair (.int .i64) (.pair (.int .i64) (.pair (.int .i64) (.pair (.int .i64) (.pair (.int .i64) (.int .i64)))))))))) (q := 8) Try.underlying50 (by kernel_rfl) (hval 1 50 v1 rfl rfl) h1 (fun _ => ⟨0, 0, 0, false, 0⟩)
  obtain ⟨y2, c2, w2⟩ := arg_struct (k := .pair (.int .i64) (.int .i64)) (q := 8) Try.underlying74 (by kernel_rfl) (hval 2 74 v2 rfl rfl) h2 (fun _ => ⟨0, 0, 0, false, 0⟩)
  refine (law_calls (psalterylaw23_CapsTells.ok0 (K := 300) (tells_w y0.1.1 y0.1.2.1 y0.1.2.2.1 y0.1.2.2.2.1 y0.1.2.2.2.2.1 y0.1.2.2.2.2.2.1 y0.1.2.2.2.2.2.2.1 y0.1.2.2.2.2.2.2.2 y0.2.1.1 y0.2.1.2.1 y0.2.1.2.2.1 y0.2.1.2.2.2.1 y0.2.1.2.2.2.2 y0.2.2.1 y0.2.2.2 y1.1 y1.2.1 y1.2.2.1 y1.2.2.2.1 y1.2.2.2.2.1 y1.2.2.2.2.2.1 y1.2.2.2.2.2.2.1 y1.2.2.2.2.2.2.2.1 y1.2.2.2.2.2.2.2.2.1 y1.2.2.2.2.2.2.2.2.2 y2.1 y2.2)) W _ ⟨_, _, rfl, c0, ⟨_, _, rfl, c1, ⟨_, _, rfl, c2, rfl⟩⟩⟩).mono fun e W' ⟨he, ho⟩ => ?_
  exact ⟨_, he, law_post (kids_rows ctLaid ctMaps) ctFull (fun t ht => of_decide_eq_true (List.all_eq_true.1 (show (Try.f11.params.toList.all fun t => decide (t < Try.prog.types.size)) = true by kernel_rfl) t ht)) hW' rfl rfl rfl Try.underlying4 ho⟩

theorem capsTells_holds : Rows.CapsTellsSaid :=
  OpenClaim.holds_of_wide 11 Try.f11 rfl rfl rfl rfl rfl rfl rfl ⟨rfl, rfl, rfl, rfl, rfl⟩ rfl rfl rfl rfl rfl ctNamed Try.func11 ctFacts ctInst ctWrap (fun os started H enc _ => capsTells_lifted os started H enc)

#print axioms capsTells_holds
end Go.Proofs.Ytcaehpgdcjonfaa
