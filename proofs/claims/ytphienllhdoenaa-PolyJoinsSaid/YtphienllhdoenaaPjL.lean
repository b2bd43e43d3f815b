/- The law PolyJoins: it returns true for every input, and the input reads behind the call as it did. -/
import Derived.Test.YtphienllhdoenaaRows
import Derived.Test.YtphienllhdoenaaJ3
import Derived.Test.YtphienllhdoenaaPjP1
import Derived.Test.YtphienllhdoenaaPjJo
import Derived.JoinedOf
import Derived.Test.YtphienllhdoenaaPjC
import Derived.Test.YtphienllhdoenaaPjD
import Derived.JoinedAt
import Derived.Carry
namespace Go.Proofs.Ytphienllhdoenaa
open Go.ChangeShapes Go.WideShapes Go.ChangeAt Go.RowKit Go.Fo

theorem pjOwn : ownKnob Try.prog.godebug = none := by kernel_rfl
theorem pjLaid : laidOutB Try.prog = true := by kernel_rfl
theorem pjMaps : mapsRowed Try.prog = true := by kernel_rfl
theorem pjFull : ∀ t e, t < Try.prog.types.size → Try.prog.underlying t = some (.slice e) → 0 < Try.prog.cellsOf e := slices_full_of Try.prog (by kernel_rfl)

set_option maxRecDepth 100000 in
theorem polyJoins_lifted (os : Os) (started : os.Started) (H : Type) (enc : TypeId × Value → H) :
    ReturnsInHanded {} Try.checked os 4 .any (Rows.polyJoinsSpec.pre6 enc Try.prog Try.f4 Rows.polyJoinsRow.domain false) (Rows.polyJoinsSpec.post enc Try.prog Try.f4 false true false false) := by
  refine returnsInHanded_of_change (C := Try.checked) pjOwn started (by kernel_rfl) Try.func4
    (ChangeSpec.witness6 (enc := enc) (C := Try.checked) false ⟨#[], #[.bool false, .slice none 0 0], []⟩ 8 (by kernel_rfl) (by kernel_rfl) (by kernel_rfl) (by kernel_rfl)) ?_
  intro W base args ds gs before hval0 hW _ _
  have hval : ∀ (j : Nat) t v, Try.f4.params[j]? = some t → args[j]? = some v → Value.okWide Try.prog W .any base t v := hval0
  have hW' := hW
  obtain ⟨p, q, hA0, hV, rfl, _, _⟩ := hW
  have hA : DataW.TrodAll enc Try.prog W 0 (fun _ => true) true Try.f4.params.toList args.toList ds p := hA0
  rw [Try.params4] at hA hval
  obtain ⟨v0, v1, d0, d1, p0, p1, rfl, rfl, rfl, h0, h1⟩ := trodAll_two hA
  obtain ⟨rfl, rfl⟩ := trodVars_none hV
  obtain ⟨y0, rfl⟩ := arg_bool Try.underlying4 (hval 0 4 v0 rfl rfl)
  obtain ⟨y1, c1, w1⟩ := arg_slice (e := .int .i32) (q := 6) Try.underlying33 (by kernel_rfl) (hval 1 33 v1 rfl rfl) h1 (fun _ => ⟨0, 0, 0, false, 0⟩)
  refine (law_calls (psalterylaw08_PolyJoins.ok0 (K := 300) (polyJoins_w y0 y1)) W _ ⟨_, _, rfl, rfl, ⟨_, _, rfl, c1, rfl⟩⟩).mono fun e W' ⟨he, ho⟩ => ?_
  exact ⟨_, he, law_post (kids_rows pjLaid pjMaps) pjFull (fun t ht => of_decide_eq_true (List.all_eq_true.1 (show (Try.f4.params.toList.all fun t => decide (t < Try.prog.types.size)) = true by kernel_rfl) t ht)) hW' rfl rfl rfl Try.underlying4 ho⟩

theorem polyJoins_holds : Rows.PolyJoinsSaid :=
  OpenClaim.holds_of_wide 4 Try.f4 rfl rfl rfl rfl rfl rfl rfl ⟨rfl, rfl, rfl, rfl, rfl⟩ rfl rfl rfl rfl rfl pjNamed Try.func4 pjFacts pjInst pjWrap (fun os started H enc _ => polyJoins_lifted os started H enc)

#print axioms polyJoins_holds
end Go.Proofs.Ytphienllhdoenaa
