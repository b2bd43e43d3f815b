/- The law LappedLaps: it returns true for every input, and the input reads behind the call as it did. -/
import Derived.Test.YtphienllhdoenaaRows
import Derived.Test.YtphienllhdoenaaJ3
import Derived.Test.YtphienllhdoenaaLmP1
import Derived.Test.YtphienllhdoenaaLmLp
import Derived.JoinedOf
import Derived.Test.YtphienllhdoenaaLmC
import Derived.Test.YtphienllhdoenaaLmD
import Derived.JoinedAt
import Derived.Carry
namespace Go.Proofs.Ytphienllhdoenaa
open Go.ChangeShapes Go.WideShapes Go.ChangeAt Go.RowKit Go.Fo

theorem lmOwn : ownKnob Try.prog.godebug = none := by kernel_rfl
theorem lmLaid : laidOutB Try.prog = true := by kernel_rfl
theorem lmMaps : mapsRowed Try.prog = true := by kernel_rfl
theorem lmFull : ∀ t e, t < Try.prog.types.size → Try.prog.underlying t = some (.slice e) → 0 < Try.prog.cellsOf e := slices_full_of Try.prog (by kernel_rfl)

set_option maxRecDepth 100000 in
theorem lappedLaps_lifted (os : Os) (started : os.Started) (H : Type) (enc : TypeId × Value → H) :
    ReturnsInHanded {} Try.checked os 8 .any (Rows.lappedLapsSpec.pre6 enc Try.prog Try.f8 Rows.lappedLapsRow.domain false) (Rows.lappedLapsSpec.post enc Try.prog Try.f8 false true false false) := by
  refine returnsInHanded_of_change (C := Try.checked) lmOwn started (by kernel_rfl) Try.func8
    (ChangeSpec.witness6 (enc := enc) (C := Try.checked) false ⟨#[], #[.int .u8 0, .slice none 0 0], []⟩ 8 (by kernel_rfl) (by kernel_rfl) (by kernel_rfl) (by kernel_rfl)) ?_
  intro W base args ds gs before hval0 hW _ _
  have hval : ∀ (j : Nat) t v, Try.f8.params[j]? = some t → args[j]? = some v → Value.okWide Try.prog W .any base t v := hval0
  have hW' := hW
  obtain ⟨p, q, hA0, hV, rfl, _, _⟩ := hW
  have hA : DataW.TrodAll enc Try.prog W 0 (fun _ => true) true Try.f8.params.toList args.toList ds p := hA0
  rw [Try.params8] at hA hval
  obtain ⟨v0, v1, d0, d1, p0, p1, rfl, rfl, rfl, h0, h1⟩ := trodAll_two hA
  obtain ⟨rfl, rfl⟩ := trodVars_none hV
  obtain ⟨y0, rfl, w0⟩ := arg_int Try.underlying5 (hval 0 5 v0 rfl rfl) h0
  obtain ⟨y1, c1, w1⟩ := arg_slice (e := .int .i16) (q := 6) Try.underlying22 (by kernel_rfl) (hval 1 22 v1 rfl rfl) h1 (fun _ => ⟨0, 0, 0, false, 0⟩)
  refine (law_calls (psalterylaw09_LappedLaps.ok0 (K := 1100) (laps_w (wf_u8 w0).1 (wf_u8 w0).2 y1)) W _ ⟨_, _, rfl, rfl, ⟨_, _, rfl, c1, rfl⟩⟩).mono fun e W' ⟨he, ho⟩ => ?_
  exact ⟨_, he, law_post (kids_rows lmLaid lmMaps) lmFull (fun t ht => of_decide_eq_true (List.all_eq_true.1 (show (Try.f8.params.toList.all fun t => decide (t < Try.prog.types.size)) = true by kernel_rfl) t ht)) hW' rfl rfl rfl Try.underlying4 ho⟩

theorem lappedLaps_holds : Rows.LappedLapsSaid :=
  OpenClaim.holds_of_wide 8 Try.f8 rfl rfl rfl rfl rfl rfl rfl ⟨rfl, rfl, rfl, rfl, rfl⟩ rfl rfl rfl rfl rfl lmNamed Try.func8 lmFacts lmInst lmWrap (fun os started H enc _ => lappedLaps_lifted os started H enc)

#print axioms lappedLaps_holds
end Go.Proofs.Ytphienllhdoenaa
