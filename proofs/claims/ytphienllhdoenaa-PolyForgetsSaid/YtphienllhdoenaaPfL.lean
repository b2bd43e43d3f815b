/- The law PolyForgets: it returns true for every input, and the input reads behind the call as it did. -/
import Derived.Test.YtphienllhdoenaaRows
import Derived.Test.YtphienllhdoenaaJ3
import Derived.Test.YtphienllhdoenaaPfP1
import Derived.Test.YtphienllhdoenaaPfFt
import Derived.JoinedOf
import Derived.Test.YtphienllhdoenaaPfC
import Derived.Test.YtphienllhdoenaaPfD
import Derived.JoinedAt
import Derived.Carry
namespace Go.Proofs.Ytphienllhdoenaa
open Go.ChangeShapes Go.WideShapes Go.ChangeAt Go.RowKit Go.Fo

theorem pfOwn : ownKnob Try.prog.godebug = none := by kernel_rfl
theorem pfLaid : laidOutB Try.prog = true := by kernel_rfl
theorem pfMaps : mapsRowed Try.prog = true := by kernel_rfl
theorem pfFull : ∀ t e, t < Try.prog.types.size → Try.prog.underlying t = some (.slice e) → 0 < Try.prog.cellsOf e := slices_full_of Try.prog (by kernel_rfl)

set_option maxRecDepth 100000 in
theorem polyForgets_lifted (os : Os) (started : os.Started) (H : Type) (enc : TypeId × Value → H) :
    ReturnsInHanded {} Try.checked os 6 .any (Rows.polyForgetsSpec.pre6 enc Try.prog Try.f6 Rows.polyForgetsRow.domain false) (Rows.polyForgetsSpec.post enc Try.prog Try.f6 false true false false) := by
  refine returnsInHanded_of_change (C := Try.checked) pfOwn started (by kernel_rfl) Try.func6
    (ChangeSpec.witness6 (enc := enc) (C := Try.checked) false ⟨#[], #[.bool false, .slice none 0 0, .slice none 0 0], []⟩ 8 (by kernel_rfl) (by kernel_rfl) (by kernel_rfl) (by kernel_rfl)) ?_
  intro W base args ds gs before hval0 hW _ _
  have hval : ∀ (j : Nat) t v, Try.f6.params[j]? = some t → args[j]? = some v → Value.okWide Try.prog W .any base t v := hval0
  have hW' := hW
  obtain ⟨p, q, hA0, hV, rfl, _, _⟩ := hW
  have hA : DataW.TrodAll enc Try.prog W 0 (fun _ => true) true Try.f6.params.toList args.toList ds p := hA0
  rw [Try.params6] at hA hval
  obtain ⟨v0, v1, v2, d0, d1, d2, p0, p1, p2, rfl, rfl, rfl, h0, h1, h2⟩ := trodAll_three hA
  obtain ⟨rfl, rfl⟩ := trodVars_none hV
  obtain ⟨y0, rfl⟩ := arg_bool Try.underlying4 (hval 0 4 v0 rfl rfl)
  obtain ⟨y1, c1, w1⟩ := arg_slice (e := .int .i16) (q := 6) Try.underlying22 (by kernel_rfl) (hval 1 22 v1 rfl rfl) h1 (fun _ => ⟨0, 0, 0, false, 0⟩)
  obtain ⟨y2, c2, w2⟩ := arg_slice (e := .int .i16) (q := 6) Try.underlying22 (by kernel_rfl) (hval 2 22 v2 rfl rfl) h2 (fun _ => ⟨0, 0, 0, false, 0⟩)
  refine (law_calls (psalterylaw08_PolyForgets.ok0 (K := 300) (polyForgets_w y0 y1 y2)) W _ ⟨_, _, rfl, rfl, ⟨_, _, rfl, c1, ⟨_, _, rfl, c2, rfl⟩⟩⟩).mono fun e W' ⟨he, ho⟩ => ?_
  exact ⟨_, he, law_post (kids_rows pfLaid pfMaps) pfFull (fun t ht => of_decide_eq_true (List.all_eq_true.1 (show (Try.f6.params.toList.all fun t => decide (t < Try.prog.types.size)) = true by kernel_rfl) t ht)) hW' rfl rfl rfl Try.underlying4 ho⟩

theorem polyForgets_holds : Rows.PolyForgetsSaid :=
  OpenClaim.holds_of_wide 6 Try.f6 rfl rfl rfl rfl rfl rfl rfl ⟨rfl, rfl, rfl, rfl, rfl⟩ rfl rfl rfl rfl rfl pfNamed Try.func6 pfFacts pfInst pfWrap (fun os started H enc _ => polyForgets_lifted os started H enc)

#print axioms polyForgets_holds
end Go.Proofs.Ytphienllhdoenaa
