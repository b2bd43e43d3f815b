/- The law LappedUnlaps: it returns true for every input, and the input reads behind the call as it did. -/
import Derived.Test.YtphienllhdoenaaRows
import Derived.Test.YtphienllhdoenaaJ3
import Derived.Test.YtphienllhdoenaaLnP1
import Derived.Test.YtphienllhdoenaaLnUp
import Derived.JoinedOf
import Derived.Test.YtphienllhdoenaaLnC
import Derived.Test.YtphienllhdoenaaLnD
import Derived.JoinedAt
import Derived.Carry
namespace Go.Proofs.Ytphienllhdoenaa
open Go.ChangeShapes Go.WideShapes Go.ChangeAt Go.RowKit Go.Fo

theorem lnOwn : ownKnob Try.prog.godebug = none := by kernel_rfl
theorem lnLaid : laidOutB Try.prog = true := by kernel_rfl
theorem lnMaps : mapsRowed Try.prog = true := by kernel_rfl
theorem lnFull : ∀ t e, t < Try.prog.types.size → Try.prog.underlying t = some (.slice e) → 0 < Try.prog.cellsOf e := slices_full_of Try.prog (by kernel_rfl)

set_option maxRecDepth 100000 in
theorem lappedUnlaps_lifted (os : Os) (started : os.Started) (H : Type) (enc : TypeId × Value → H) :
    ReturnsInHanded {} Try.checked os 10 .any (Rows.lappedUnlapsSpec.pre6 enc Try.prog Try.f10 Rows.lappedUnlapsRow.domain false) (Rows.lappedUnlapsSpec.post enc Try.prog Try.f10 false true false false) := by
  refine returnsInHanded_of_change (C := Try.checked) lnOwn started (by kernel_rfl) Try.func10
    (ChangeSpec.witness6 (enc := enc) (C := Try.checked) false ⟨#[], #[.int .u8 0, .slice none 0 0], []⟩ 8 (by kernel_rfl) (by kernel_rfl) (by kernel_rfl) (by kernel_rfl)) ?_
  intro W base args ds gs before hval0 hW _ _
  have hval : ∀ (j : Nat) t v, Try.f10.params[j]? = some t → args[j]? = some v → Value.okWide Try.prog W .any base t v := hval0
  have hW' := hW
  obtain ⟨p, q, hA0, hV, rfl, _, _⟩ := hW
  have hA : DataW.TrodAll enc Try.prog W 0 (fun _ => true) true Try.f10.params.toList args.toList ds p := hA0
  rw [Try.params10] at hA hval
  obtain ⟨v0, v1, d0, d1, p0, p1, rfl, rfl, rfl, h0, h1⟩ := trodAll_two hA
  obtain ⟨rfl, rfl⟩ := trodVars_none hV
  obtain ⟨y0, rfl, w0⟩ := arg_int Try.underlying5 (hval 0 5 v0 rfl rfl) h0
  obtain ⟨y1, c1, w1⟩ := arg_slice (e := .int .i32) (q := 6) Try.underlying33 (by kernel_rfl) (hval 1 33 v1 rfl rfl) h1 (fun _ => ⟨0, 0, 0, false, 0⟩)
  refine (law_calls (psalterylaw09_LappedUnlaps.ok0 (K := 1100) (unlaps_w (wf_u8 w0).1 (wf_u8 w0).2 y1)) W _ ⟨_, _, rfl, rfl, ⟨_, _, rfl, c1, rfl⟩⟩).mono fun e W' ⟨he, ho⟩ => ?_
  exact ⟨_, he, law_post (kids_rows lnLaid lnMaps) lnFull (fun t ht => of_decide_eq_true (List.all_eq_true.1 (show (Try.f10.params.toList.all fun t => decide (t < Try.prog.types.size)) = true by kernel_rfl) t ht)) hW' rfl rfl rfl Try.underlying4 ho⟩

theorem lappedUnlaps_holds : Rows.LappedUnlapsSaid :=
  OpenClaim.holds_of_wide 10 Try.f10 rfl rfl rfl rfl rfl rfl rfl ⟨rfl, rfl, rfl, rfl, rfl⟩ rfl rfl rfl rfl rfl lnNamed Try.func10 lnFacts lnInst lnWrap (fun os started H enc _ => lappedUnlaps_lifted os started H enc)

#print axioms lappedUnlaps_holds
end Go.Proofs.Ytphienllhdoenaa
