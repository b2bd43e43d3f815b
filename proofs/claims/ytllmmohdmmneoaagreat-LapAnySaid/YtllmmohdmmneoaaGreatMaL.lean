/- The law LapAny: it returns true for every input, and the input reads behind the call as it did. -/
import Derived.Test.YtllmmohdmmneoaaGreatRows
import Derived.Test.YtllmmohdmmneoaaGreatJ4
import Derived.Test.YtllmmohdmmneoaaGreatMaP3
import Derived.Test.YtllmmohdmmneoaaGreatMaWr
import Derived.JoinedOf
import Derived.Test.YtllmmohdmmneoaaGreatMaC
import Derived.Test.YtllmmohdmmneoaaGreatMaD
import Derived.JoinedAt
import Derived.Carry
namespace Go.Proofs.YtllmmohdmmneoaaGreat
open Go.ChangeShapes Go.WideShapes Go.ChangeAt Go.RowKit Go.Fo

theorem maOwn : ownKnob Tryz.prog.godebug = none := by kernel_rfl
theorem maLaid : laidOutB Tryz.prog = true := by kernel_rfl
theorem maMaps : mapsRowed Tryz.prog = true := by kernel_rfl
theorem maFull : ∀ t e, t < Tryz.prog.types.size → Tryz.prog.underlying t = some (.slice e) → 0 < Tryz.prog.cellsOf e := slices_full_of Tryz.prog (by kernel_rfl)

set_option maxRecDepth 100000 in
theorem lapAny_lifted (os : Os) (started : os.Started) (H : Type) (enc : TypeId × Value → H) :
    ReturnsInHanded {} Tryz.checked os 3 .any (Rows.lapAnySpec.pre6 enc Tryz.prog Tryz.f3 Rows.lapAnyRow.domain false) (Rows.lapAnySpec.post enc Tryz.prog Tryz.f3 false true false false) := by
  refine returnsInHanded_of_change (C := Tryz.checked) maOwn started (by kernel_rfl) Tryz.func3
    (ChangeSpec.witness6 (enc := enc) (C := Tryz.checked) false ⟨#[], #[.agg #[.int .i64 0, .int .i64 0, .int .i64 0, .int .i64 0, .int .i64 0, .int .i64 0, .int .i64 0, .int .i64 0, .int .i64 0, .int .i64 0], .string ⟨#[]⟩], []⟩ 8 (by kernel_rfl) (by kernel_rfl) (by kernel_rfl) (by kernel_rfl)) ?_
  intro W base args ds gs before hval0 hW _ _
  have hval : ∀ (j : Nat) t v, Tryz.f3.params[j]? = some t → args[j]? = some v → Value.okWide Tryz.prog W .any base t v := hval0
  have hW' := hW
  obtain ⟨p, q, hA0, hV, rfl, _, _⟩ := hW
  have hA : DataW.TrodAll enc Tryz.prog W 0 (fun _ => true) true Tryz.f3.params.toList args.toList ds p := hA0
  rw [Tryz.params3] at hA hval
  obtain ⟨v0, v1, d0, d1, p0, p1, rfl, rfl, rfl, h0, h1⟩ := trodAll_two hA
  obtain ⟨rfl, rfl⟩ := trodVars_none hV
  obtain ⟨y0, c0, w0⟩ := arg_struct (k := .pair (.int .i64) (.pair (.int .i64) (.pair (.int .i64) (.pair (.int .i64) (.pair (.int .i64) (.pair (.int .i64) (.pair (.int .i64) (.pair (.int .i64) (.pair (.int .i64) (.int .i64)))))))))) (q := 8) Tryz.underlying23 (by kernel_rfl) (hval 0 23 v0 rfl rfl) h0 (fun _ => ⟨0, 0, 0, false, 0⟩)
  obtain ⟨y1, rfl, w1⟩ := arg_str Tryz.underlying9 (hval 1 9 v1 rfl rfl) h1
  refine (law_calls (psalterylaw21_LapAny.ok0 (K := 100000) (any_w y0.1 y0.2.1 y0.2.2.1 y0.2.2.2.1 y0.2.2.2.2.1 y0.2.2.2.2.2.1 y0.2.2.2.2.2.2.1 y0.2.2.2.2.2.2.2.1 y0.2.2.2.2.2.2.2.2.1 y0.2.2.2.2.2.2.2.2.2 y1)) W _ ⟨_, _, rfl, c0, ⟨_, _, rfl, rfl, rfl⟩⟩).mono fun e W' ⟨he, ho⟩ => ?_
  exact ⟨_, he, law_post (kids_rows maLaid maMaps) maFull (fun t ht => of_decide_eq_true (List.all_eq_true.1 (show (Tryz.f3.params.toList.all fun t => decide (t < Tryz.prog.types.size)) = true by kernel_rfl) t ht)) hW' rfl rfl rfl Tryz.underlying4 ho⟩

theorem lapAny_holds : Rows.LapAnySaid :=
  OpenClaim.holds_of_wide 3 Tryz.f3 rfl rfl rfl rfl rfl rfl rfl ⟨rfl, rfl, rfl, rfl, rfl⟩ rfl rfl rfl rfl rfl maNamed Tryz.func3 maFacts maInst maWrap (fun os started H enc _ => lapAny_lifted os started H enc)

#print axioms lapAny_holds
end Go.Proofs.YtllmmohdmmneoaaGreat
