/- The law LappedWindows: it returns true for every input, and the input reads behind the call as it did. -/
import Derived.Test.YtphienllhdoenaaRows
import Derived.Test.YtphienllhdoenaaJ3
import Derived.Test.YtphienllhdoenaaLwP1
import Derived.Test.YtphienllhdoenaaLwWi
import Derived.JoinedOf
import Derived.Test.YtphienllhdoenaaLwC
import Derived.Test.YtphienllhdoenaaLwD
import Derived.JoinedAt
import Derived.Carry
namespace Go.Proofs.Ytphienllhdoenaa
open Go.ChangeShapes Go.WideShapes Go.ChangeAt Go.RowKit Go.Fo

theorem lwOwn : ownKnob Try.prog.godebug = none := by kernel_rfl
theorem lwLaid : laidOutB Try.prog = true := by kernel_rfl
theorem lwMaps : mapsRowed Try.prog = true := by kernel_rfl
theorem lwFull : ∀ t e, t < Try.prog.types.size → Try.prog.underlying t = some (.slice e) → 0 < Try.prog.cellsOf e := slices_full_of Try.prog (by kernel_rfl)

set_option maxRecDepth 100000 in
theorem lappedWindows_lifted (os : Os) (started : os.Started) (H : Type) (enc : TypeId × Value → H) :
    ReturnsInHanded {} Try.checked os 9 .any (Rows.lappedWindowsSpec.pre6 enc Try.prog Try.f9 Rows.lappedWindowsRow.domain false) (Rows.lappedWindowsSpec.post enc Try.prog Try.f9 false true false false) := by
  refine returnsInHanded_of_change (C := Try.checked) lwOwn started (by kernel_rfl) Try.func9
    (ChangeSpec.witness6 (enc := enc) (C := Try.checked) false ⟨#[], #[.int .i64 0], []⟩ 8 (by kernel_rfl) (by kernel_rfl) (by kernel_rfl) (by kernel_rfl)) ?_
  intro W base args ds gs before hval0 hW _ _
  have hval : ∀ (j : Nat) t v, Try.f9.params[j]? = some t → args[j]? = some v → Value.okWide Try.prog W .any base t v := hval0
  have hW' := hW
  obtain ⟨p, q, hA0, hV, rfl, _, _⟩ := hW
  have hA : DataW.TrodAll enc Try.prog W 0 (fun _ => true) true Try.f9.params.toList args.toList ds p := hA0
  rw [Try.params9] at hA hval
  obtain ⟨v0, d0, rfl, rfl, h0⟩ := trodAll_one hA
  obtain ⟨rfl, rfl⟩ := trodVars_none hV
  obtain ⟨y0, rfl, w0⟩ := arg_int Try.underlying3 (hval 0 3 v0 rfl rfl) h0
  refine (law_calls (psalterylaw09_LappedWindows.ok0 (K := 1100) (windows_w y0)) W _ ⟨_, _, rfl, rfl, rfl⟩).mono fun e W' ⟨he, ho⟩ => ?_
  exact ⟨_, he, law_post (kids_rows lwLaid lwMaps) lwFull (fun t ht => of_decide_eq_true (List.all_eq_true.1 (show (Try.f9.params.toList.all fun t => decide (t < Try.prog.types.size)) = true by kernel_rfl) t ht)) hW' rfl rfl rfl Try.underlying4 ho⟩

theorem lappedWindows_holds : Rows.LappedWindowsSaid :=
  OpenClaim.holds_of_wide 9 Try.f9 rfl rfl rfl rfl rfl rfl rfl ⟨rfl, rfl, rfl, rfl, rfl⟩ rfl rfl rfl rfl rfl lwNamed Try.func9 lwFacts lwInst lwWrap (fun os started H enc _ => lappedWindows_lifted os started H enc)

#print axioms lappedWindows_holds
end Go.Proofs.Ytphienllhdoenaa
