/- The law LappedForgets: it returns true for every input, and the input reads behind the call as it did. -/
import Derived.Test.YtphienllhdoenaaRows
import Derived.Test.YtphienllhdoenaaJ3
import Derived.Test.YtphienllhdoenaaLoP1
import Derived.Test.YtphienllhdoenaaLoLf
import Derived.JoinedOf
import Derived.Test.YtphienllhdoenaaLoC
import Derived.Test.YtphienllhdoenaaLoD
import Derived.JoinedAt
import Derived.Carry
namespace Go.Proofs.Ytphienllhdoenaa
open Go.ChangeShapes Go.WideShapes Go.ChangeAt Go.RowKit Go.Fo

theorem loOwn : ownKnob Try.prog.godebug = none := by kernel_rfl
theorem loLaid : laidOutB Try.prog = true := by kernel_rfl
theorem loMaps : mapsRowed Try.prog = true := by kernel_rfl
theorem loFull : ∀ t e, t < Try.prog.types.size → Try.prog.underlying t = some (.slice e) → 0 < Try.prog.cellsOf e := slices_full_of Try.prog (by kernel_rfl)

set_option maxRecDepth 100000 in
theorem lappedForgets_lifted (os : Os) (started : os.Started) (H : Type) (enc : TypeId × Value → H) :
    ReturnsInHanded {} Try.checked os 11 .any (Rows.lappedForgetsSpec.pre6 enc Try.prog Try.f11 Rows.lappedForgetsRow.domain false) (Rows.lappedForgetsSpec.post enc Try.prog Try.f11 false true false false) := by
  refine returnsInHanded_of_change (C := Try.checked) loOwn started (by kernel_rfl) Try.func11
    (ChangeSpec.witness6 (enc := enc) (C := Try.checked) false ⟨#[], #[.int .u8 0, .slice none 0 0, .slice none 0 0, .bool false], []⟩ 8 (by kernel_rfl) (by kernel_rfl) (by kernel_rfl) (by kernel_rfl)) ?_
  intro W base args ds gs before hval0 hW _ _
  have hval : ∀ (j : Nat) t v, Try.f11.params[j]? = some t → args[j]? = some v → Value.okWide Try.prog W .any base t v := hval0
  have hW' := hW
  obtain ⟨p, q, hA0, hV, rfl, _, _⟩ := hW
  have hA : DataW.TrodAll enc Try.prog W 0 (fun _ => true) true Try.f11.params.toList args.toList ds p := hA0
  rw [Try.params11] at hA hval
  obtain ⟨v0, v1, v2, v3, d0, d1, d2, d3, p0, p1, p2, p3, rfl, rfl, rfl, h0, h1, h2, h3⟩ := trodAll_four hA
  obtain ⟨rfl, rfl⟩ := trodVars_none hV
  obtain ⟨y0, rfl, w0⟩ := arg_int Try.underlying5 (hval 0 5 v0 rfl rfl) h0
  obtain ⟨y1, c1, w1⟩ := arg_slice (e := .int .i16) (q := 6) Try.underlying22 (by kernel_rfl) (hval 1 22 v1 rfl rfl) h1 (fun _ => ⟨0, 0, 0, false, 0⟩)
  obtain ⟨y2, c2, w2⟩ := arg_slice (e := .int .i16) (q := 6) Try.underlying22 (by kernel_rfl) (hval 2 22 v2 rfl rfl) h2 (fun _ => ⟨0, 0, 0, false, 0⟩)
  obtain ⟨y3, rfl⟩ := arg_bool Try.underlying4 (hval 3 4 v3 rfl rfl)
  refine (law_calls (psalterylaw09_LappedForgets.ok0 (K := 1100) (lforgets_w (wf_u8 w0).1 (wf_u8 w0).2 y1 y2 y3)) W _ ⟨_, _, rfl, rfl, ⟨_, _, rfl, c1, ⟨_, _, rfl, c2, ⟨_, _, rfl, rfl, rfl⟩⟩⟩⟩).mono fun e W' ⟨he, ho⟩ => ?_
  exact ⟨_, he, law_post (kids_rows loLaid loMaps) loFull (fun t ht => of_decide_eq_true (List.all_eq_true.1 (show (Try.f11.params.toList.all fun t => decide (t < Try.prog.types.size)) = true by kernel_rfl) t ht)) hW' rfl rfl rfl Try.underlying4 ho⟩

theorem lappedForgets_holds : Rows.LappedForgetsSaid :=
  OpenClaim.holds_of_wide 11 Try.f11 rfl rfl rfl rfl rfl rfl rfl ⟨rfl, rfl, rfl, rfl, rfl⟩ rfl rfl rfl rfl rfl loNamed Try.func11 loFacts loInst loWrap (fun os started H enc _ => lappedForgets_lifted os started H enc)

#print axioms lappedForgets_holds
end Go.Proofs.Ytphienllhdoenaa
