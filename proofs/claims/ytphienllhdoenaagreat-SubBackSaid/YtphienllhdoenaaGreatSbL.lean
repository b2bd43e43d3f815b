/- The law SubBack: it returns true for every input, and the input reads behind the call as it did. -/
import Derived.Test.YtphienllhdoenaaGreatRows
import Derived.Test.YtphienllhdoenaaGreatJ3
import Derived.Test.YtphienllhdoenaaGreatSbP1
import Derived.Test.YtphienllhdoenaaGreatSbEj
import Derived.JoinedOf
import Derived.Test.YtphienllhdoenaaGreatSbC
import Derived.Test.YtphienllhdoenaaGreatSbD
import Derived.JoinedAt
import Derived.Carry
namespace Go.Proofs.YtphienllhdoenaaGreat
open Go.ChangeShapes Go.WideShapes Go.ChangeAt Go.RowKit Go.Fo

theorem sbOwn : ownKnob Tryz.prog.godebug = none := by kernel_rfl
theorem sbLaid : laidOutB Tryz.prog = true := by kernel_rfl
theorem sbMaps : mapsRowed Tryz.prog = true := by kernel_rfl
theorem sbFull : ∀ t e, t < Tryz.prog.types.size → Tryz.prog.underlying t = some (.slice e) → 0 < Tryz.prog.cellsOf e := slices_full_of Tryz.prog (by kernel_rfl)

set_option maxRecDepth 100000 in
theorem subBack_lifted (os : Os) (started : os.Started) (H : Type) (enc : TypeId × Value → H) :
    ReturnsInHanded {} Tryz.checked os 7 .any (Rows.subBackSpec.pre6 enc Tryz.prog Tryz.f7 Rows.subBackRow.domain false) (Rows.subBackSpec.post enc Tryz.prog Tryz.f7 false true false false) := by
  refine returnsInHanded_of_change (C := Tryz.checked) sbOwn started (by kernel_rfl) Tryz.func7
    (ChangeSpec.witness6 (enc := enc) (C := Tryz.checked) false ⟨#[], #[.agg #[.int .i64 0, .int .i64 0, .int .i64 0, .int .i64 0, .int .i64 0, .int .i64 0, .int .i64 0, .int .i64 0, .int .i64 0, .int .i64 0], .slice none 0 0], []⟩ 8 (by kernel_rfl) (by kernel_rfl) (by kernel_rfl) (by kernel_rfl)) ?_
  intro W base args ds gs before hval0 hW _ _
  have hval : ∀ (j : Nat) t v, Tryz.f7.params[j]? = some t → args[j]? = some v → Value.okWide Tryz.prog W .any base t v := hval0
  have hW' := hW
  obtain ⟨p, q, hA0, hV, rfl, _, _⟩ := hW
  have hA : DataW.TrodAll enc Tryz.prog W 0 (fun _ => true) true Tryz.f7.params.toList args.toList ds p := hA0
  rw [Tryz.params7] at hA hval
  obtain ⟨v0, v1, d0, d1, p0, p1, rfl, rfl, rfl, h0, h1⟩ := trodAll_two hA
  obtain ⟨rfl, rfl⟩ := trodVars_none hV
  obtain ⟨y0, c0, w0⟩ := arg_struct (k := .pair (.int .i64) (.pair (.int .i64) (.pair (.int .i64) (.pair (.int .i64) (.pair (.int .i64) (.pair (.int .i64) (.pair (.int .i64) (.pair (.int .i64) (.pair (.int .i64) (.int .i64)))))))))) (q := 8) Tryz.underlying23 (by kernel_rfl) (hval 0 23 v0 rfl rfl) h0 (fun _ => ⟨0, 0, 0, false, 0⟩)
  obtain ⟨y1, c1, w1⟩ := arg_slice (e := .int .i16) (q := 6) Tryz.underlying45 (by kernel_rfl) (hval 1 45 v1 rfl rfl) h1 (fun _ => ⟨0, 0, 0, false, 0⟩)
  refine (law_calls (psalterylaw14_SubBack.ok0 (K := 5000) (back_w y0.1 y0.2.1 y0.2.2.1 y0.2.2.2.1 y0.2.2.2.2.1 y0.2.2.2.2.2.1 y0.2.2.2.2.2.2.1 y0.2.2.2.2.2.2.2.1 y0.2.2.2.2.2.2.2.2.1 y0.2.2.2.2.2.2.2.2.2 y1)) W _ ⟨_, _, rfl, c0, ⟨_, _, rfl, c1, rfl⟩⟩).mono fun e W' ⟨he, ho⟩ => ?_
  exact ⟨_, he, law_post (kids_rows sbLaid sbMaps) sbFull (fun t ht => of_decide_eq_true (List.all_eq_true.1 (show (Tryz.f7.params.toList.all fun t => decide (t < Tryz.prog.types.size)) = true by kernel_rfl) t ht)) hW' rfl rfl rfl Tryz.underlying4 ho⟩

theorem subBack_holds : Rows.SubBackSaid :=
  OpenClaim.holds_of_wide 7 Tryz.f7 rfl rfl rfl rfl rfl rfl rfl ⟨rfl, rfl, rfl, rfl, rfl⟩ rfl rfl rfl rfl rfl sbNamed Tryz.func7 sbFacts sbInst sbWrap (fun os started H enc _ => subBack_lifted os started H enc)

#print axioms subBack_holds
end Go.Proofs.YtphienllhdoenaaGreat
