/- The law SubAnalyses: it returns true for every input, and the input reads behind the call as it did. -/
import Derived.Test.YtiihmaaobmpababGreatRows
import Derived.Test.YtiihmaaobmpababGreatJ3
import Derived.Test.YtiihmaaobmpababGreatSaP2
import Derived.Test.YtiihmaaobmpababGreatSaXd
import Derived.JoinedOf
import Derived.Test.YtiihmaaobmpababGreatSaC
import Derived.Test.YtiihmaaobmpababGreatSaD
import Derived.JoinedAt
import Derived.Carry
namespace Go.Proofs.YtiihmaaobmpababGreat
open Go.ChangeShapes Go.WideShapes Go.ChangeAt Go.RowKit Go.Fo

theorem saOwn : ownKnob Tryz.prog.godebug = none := by kernel_rfl
theorem saLaid : laidOutB Tryz.prog = true := by kernel_rfl
theorem saMaps : mapsRowed Tryz.prog = true := by kernel_rfl
theorem saFull : ∀ t e, t < Tryz.prog.types.size → Tryz.prog.underlying t = some (.slice e) → 0 < Tryz.prog.cellsOf e := slices_full_of Tryz.prog (by kernel_rfl)

set_option maxRecDepth 100000 in
theorem subAnalyses_lifted (os : Os) (started : os.Started) (H : Type) (enc : TypeId × Value → H) :
    ReturnsInHanded {} Tryz.checked os 3 .any (Rows.subAnalysesSpec.pre6 enc Tryz.prog Tryz.f3 Rows.subAnalysesRow.domain false) (Rows.subAnalysesSpec.post enc Tryz.prog Tryz.f3 false true false false) := by
  refine returnsInHanded_of_change (C := Tryz.checked) saOwn started (by kernel_rfl) Tryz.func3
    (ChangeSpec.witness6 (enc := enc) (C := Tryz.checked) false ⟨#[], #[.agg #[.int .i64 0, .int .i64 0, .int .i64 0, .int .i64 0, .int .i64 0, .int .i64 0, .int .i64 0, .int .i64 0, .int .i64 0, .int .i64 0], .slice none 0 0, .agg #[.slice none 0 0, .slice none 0 0, .slice none 0 0]], []⟩ 8 (by kernel_rfl) (by kernel_rfl) (by kernel_rfl) (by kernel_rfl)) ?_
  intro W base args ds gs before hval0 hW _ _
  have hval : ∀ (j : Nat) t v, Tryz.f3.params[j]? = some t → args[j]? = some v → Value.okWide Tryz.prog W .any base t v := hval0
  have hW' := hW
  obtain ⟨p, q, hA0, hV, rfl, _, _⟩ := hW
  have hA : DataW.TrodAll enc Tryz.prog W 0 (fun _ => true) true Tryz.f3.params.toList args.toList ds p := hA0
  rw [Tryz.params3] at hA hval
  obtain ⟨v0, v1, v2, d0, d1, d2, p0, p1, p2, rfl, rfl, rfl, h0, h1, h2⟩ := trodAll_three hA
  obtain ⟨rfl, rfl⟩ := trodVars_none hV
  obtain ⟨y0, c0, w0⟩ := arg_struct (k := .pair (.int .i64) (.pair (.int .i64) (.pair (.int .i64) (.pair (.int .i64) (.pair (.int .i64) (.pair (.int .i64) (.pair (.int .i64) (.pair (.int .i64) (.pair (.int .i64) (.int .i64)))))))))) (q := 8) Tryz.underlying23 (by kernel_rfl) (hval 0 23 v0 rfl rfl) h0 (fun _ => ⟨0, 0, 0, false, 0⟩)
  obtain ⟨y1, c1, w1⟩ := arg_slice (e := .slice (.slice (.int .i32))) (q := 6) Tryz.underlying24 (by kernel_rfl) (hval 1 24 v1 rfl rfl) h1 (fun _ => ⟨0, 0, 0, false, 0⟩)
  obtain ⟨y2, c2, w2⟩ := arg_struct (k := .pair (.slice (.int .i64)) (.pair (.slice (.slice (.int .i64))) (.slice (.slice (.slice (.int .i64)))))) (q := 8) Tryz.underlying29 (by kernel_rfl) (hval 2 29 v2 rfl rfl) h2 (fun _ => ⟨0, 0, 0, false, 0⟩)
  refine (law_calls (psalterylaw14_SubAnalyses.ok0 (K := 5000) (analyses_w y0.1 y0.2.1 y0.2.2.1 y0.2.2.2.1 y0.2.2.2.2.1 y0.2.2.2.2.2.1 y0.2.2.2.2.2.2.1 y0.2.2.2.2.2.2.2.1 y0.2.2.2.2.2.2.2.2.1 y0.2.2.2.2.2.2.2.2.2 y1 y2.1 y2.2.1 y2.2.2 (fun A hA r hr x hx => wf_i32 (((w1.2 A hA).2 r hr).2 x hx)))) W _ ⟨_, _, rfl, c0, ⟨_, _, rfl, c1, ⟨_, _, rfl, c2, rfl⟩⟩⟩).mono fun e W' ⟨he, ho⟩ => ?_
  exact ⟨_, he, law_post (kids_rows saLaid saMaps) saFull (fun t ht => of_decide_eq_true (List.all_eq_true.1 (show (Tryz.f3.params.toList.all fun t => decide (t < Tryz.prog.types.size)) = true by kernel_rfl) t ht)) hW' rfl rfl rfl Tryz.underlying4 ho⟩

theorem subAnalyses_holds : Rows.SubAnalysesSaid :=
  OpenClaim.holds_of_wide 3 Tryz.f3 rfl rfl rfl rfl rfl rfl rfl ⟨rfl, rfl, rfl, rfl, rfl⟩ rfl rfl rfl rfl rfl saNamed Tryz.func3 saFacts saInst saWrap (fun os started H enc _ => subAnalyses_lifted os started H enc)

#print axioms subAnalyses_holds
end Go.Proofs.YtiihmaaobmpababGreat
