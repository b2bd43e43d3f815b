/- The law PolyWrong: it returns true for every input, and the input reads behind the call as it did. -/
import Derived.Test.YtphienllhdoenaaRows
import Derived.Test.YtphienllhdoenaaJ3
import Derived.Test.YtphienllhdoenaaPwP
import Derived.Test.YtphienllhdoenaaPwWr
import Derived.JoinedOf
import Derived.Test.YtphienllhdoenaaPwC
import Derived.Test.YtphienllhdoenaaPwD
import Derived.JoinedAt
import Derived.Carry
namespace Go.Proofs.Ytphienllhdoenaa
open Go.ChangeShapes Go.WideShapes Go.ChangeAt Go.RowKit Go.Fo

theorem pwOwn : ownKnob Try.prog.godebug = none := by kernel_rfl
theorem pwLaid : laidOutB Try.prog = true := by kernel_rfl
theorem pwMaps : mapsRowed Try.prog = true := by kernel_rfl
theorem pwFull : ∀ t e, t < Try.prog.types.size → Try.prog.underlying t = some (.slice e) → 0 < Try.prog.cellsOf e := slices_full_of Try.prog (by kernel_rfl)

set_option maxRecDepth 100000 in
theorem polyWrong_lifted (os : Os) (started : os.Started) (H : Type) (enc : TypeId × Value → H) :
    ReturnsInHanded {} Try.checked os 7 .any (Rows.polyWrongSpec.pre6 enc Try.prog Try.f7 Rows.polyWrongRow.domain false) (Rows.polyWrongSpec.post enc Try.prog Try.f7 false true false false) := by
  refine returnsInHanded_of_change (C := Try.checked) pwOwn started (by kernel_rfl) Try.func7
    (ChangeSpec.witness6 (enc := enc) (C := Try.checked) false ⟨#[], #[.int .i64 0, .int .i64 0], []⟩ 8 (by kernel_rfl) (by kernel_rfl) (by kernel_rfl) (by kernel_rfl)) ?_
  intro W base args ds gs before hval0 hW _ _
  have hval : ∀ (j : Nat) t v, Try.f7.params[j]? = some t → args[j]? = some v → Value.okWide Try.prog W .any base t v := hval0
  have hW' := hW
  obtain ⟨p, q, hA0, hV, rfl, _, _⟩ := hW
  have hA : DataW.TrodAll enc Try.prog W 0 (fun _ => true) true Try.f7.params.toList args.toList ds p := hA0
  rw [Try.params7] at hA hval
  obtain ⟨v0, v1, d0, d1, p0, p1, rfl, rfl, rfl, h0, h1⟩ := trodAll_two hA
  obtain ⟨rfl, rfl⟩ := trodVars_none hV
  obtain ⟨y0, rfl, w0⟩ := arg_int Try.underlying3 (hval 0 3 v0 rfl rfl) h0
  obtain ⟨y1, rfl, w1⟩ := arg_int Try.underlying3 (hval 1 3 v1 rfl rfl) h1
  refine (law_calls (psalterylaw08_PolyWrong.ok0 (K := 300) (polyWrong_w y0 y1)) W _ ⟨_, _, rfl, rfl, ⟨_, _, rfl, rfl, rfl⟩⟩).mono fun e W' ⟨he, ho⟩ => ?_
  exact ⟨_, he, law_post (kids_rows pwLaid pwMaps) pwFull (fun t ht => of_decide_eq_true (List.all_eq_true.1 (show (Try.f7.params.toList.all fun t => decide (t < Try.prog.types.size)) = true by kernel_rfl) t ht)) hW' rfl rfl rfl Try.underlying4 ho⟩

theorem polyWrong_holds : Rows.PolyWrongSaid :=
  OpenClaim.holds_of_wide 7 Try.f7 rfl rfl rfl rfl rfl rfl rfl ⟨rfl, rfl, rfl, rfl, rfl⟩ rfl rfl rfl rfl rfl pwNamed Try.func7 pwFacts pwInst pwWrap (fun os started H enc _ => polyWrong_lifted os started H enc)

#print axioms polyWrong_holds
end Go.Proofs.Ytphienllhdoenaa
