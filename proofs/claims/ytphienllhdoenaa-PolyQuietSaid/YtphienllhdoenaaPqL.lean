/- The law PolyQuiet: it returns true for every input, and the input reads behind the call as it did. -/
import Derived.Test.YtphienllhdoenaaRows
import Derived.Test.YtphienllhdoenaaJ3
import Derived.Test.YtphienllhdoenaaPqP1
import Derived.Test.YtphienllhdoenaaPqQt
import Derived.JoinedOf
import Derived.Test.YtphienllhdoenaaPqC
import Derived.Test.YtphienllhdoenaaPqD
import Derived.JoinedAt
import Derived.Carry
namespace Go.Proofs.Ytphienllhdoenaa
open Go.ChangeShapes Go.WideShapes Go.ChangeAt Go.RowKit Go.Fo

theorem pqOwn : ownKnob Try.prog.godebug = none := by kernel_rfl
theorem pqLaid : laidOutB Try.prog = true := by kernel_rfl
theorem pqMaps : mapsRowed Try.prog = true := by kernel_rfl
theorem pqFull : ∀ t e, t < Try.prog.types.size → Try.prog.underlying t = some (.slice e) → 0 < Try.prog.cellsOf e := slices_full_of Try.prog (by kernel_rfl)

set_option maxRecDepth 100000 in
theorem polyQuiet_lifted (os : Os) (started : os.Started) (H : Type) (enc : TypeId × Value → H) :
    ReturnsInHanded {} Try.checked os 5 .any (Rows.polyQuietSpec.pre6 enc Try.prog Try.f5 Rows.polyQuietRow.domain false) (Rows.polyQuietSpec.post enc Try.prog Try.f5 false true false false) := by
  refine returnsInHanded_of_change (C := Try.checked) pqOwn started (by kernel_rfl) Try.func5
    (ChangeSpec.witness6 (enc := enc) (C := Try.checked) false ⟨#[], #[.bool false, .slice none 0 0], []⟩ 8 (by kernel_rfl) (by kernel_rfl) (by kernel_rfl) (by kernel_rfl)) ?_
  intro W base args ds gs before hval0 hW _ _
  have hval : ∀ (j : Nat) t v, Try.f5.params[j]? = some t → args[j]? = some v → Value.okWide Try.prog W .any base t v := hval0
  have hW' := hW
  obtain ⟨p, q, hA0, hV, rfl, _, _⟩ := hW
  have hA : DataW.TrodAll enc Try.prog W 0 (fun _ => true) true Try.f5.params.toList args.toList ds p := hA0
  rw [Try.params5] at hA hval
  obtain ⟨v0, v1, d0, d1, p0, p1, rfl, rfl, rfl, h0, h1⟩ := trodAll_two hA
  obtain ⟨rfl, rfl⟩ := trodVars_none hV
  obtain ⟨y0, rfl⟩ := arg_bool Try.underlying4 (hval 0 4 v0 rfl rfl)
  obtain ⟨y1, c1, w1⟩ := arg_slice (e := .int .i16) (q := 6) Try.underlying22 (by kernel_rfl) (hval 1 22 v1 rfl rfl) h1 (fun _ => ⟨0, 0, 0, false, 0⟩)
  refine (law_calls (psalterylaw08_PolyQuiet.ok0 (K := 300) (polyQuiet_w y0 y1)) W _ ⟨_, _, rfl, rfl, ⟨_, _, rfl, c1, rfl⟩⟩).mono fun e W' ⟨he, ho⟩ => ?_
  exact ⟨_, he, law_post (kids_rows pqLaid pqMaps) pqFull (fun t ht => of_decide_eq_true (List.all_eq_true.1 (show (Try.f5.params.toList.all fun t => decide (t < Try.prog.types.size)) = true by kernel_rfl) t ht)) hW' rfl rfl rfl Try.underlying4 ho⟩

theorem polyQuiet_holds : Rows.PolyQuietSaid :=
  OpenClaim.holds_of_wide 5 Try.f5 rfl rfl rfl rfl rfl rfl rfl ⟨rfl, rfl, rfl, rfl, rfl⟩ rfl rfl rfl rfl rfl pqNamed Try.func5 pqFacts pqInst pqWrap (fun os started H enc _ => polyQuiet_lifted os started H enc)

#print axioms polyQuiet_holds
end Go.Proofs.Ytphienllhdoenaa
