/- The law HideNil: it returns true for every input, and the input reads behind the call as it did. -/
import Derived.Test.YtbjcfghbmhcajaaGreatRows
import Derived.Test.YtbjcfghbmhcajaaGreatJ4
import Derived.Test.YtbjcfghbmhcajaaGreatHnP1
import Derived.Test.YtbjcfghbmhcajaaGreatHnNq
import Derived.JoinedOf
import Derived.Test.YtbjcfghbmhcajaaGreatHnC
import Derived.Test.YtbjcfghbmhcajaaGreatHnD
import Derived.JoinedAt
import Derived.Carry
namespace Go.Proofs.YtbjcfghbmhcajaaGreat
open Go.ChangeShapes Go.WideShapes Go.ChangeAt Go.RowKit Go.Fo

theorem hnOwn : ownKnob Tryz.prog.godebug = none := by kernel_rfl
theorem hnLaid : laidOutB Tryz.prog = true := by kernel_rfl
theorem hnMaps : mapsRowed Tryz.prog = true := by kernel_rfl
theorem hnFull : ∀ t e, t < Tryz.prog.types.size → Tryz.prog.underlying t = some (.slice e) → 0 < Tryz.prog.cellsOf e := slices_full_of Tryz.prog (by kernel_rfl)

set_option maxRecDepth 100000 in
theorem hideNil_lifted (os : Os) (started : os.Started) (H : Type) (enc : TypeId × Value → H) :
    ReturnsInHanded {} Tryz.checked os 3 .any (Rows.hideNilSpec.pre6 enc Tryz.prog Tryz.f3 Rows.hideNilRow.domain false) (Rows.hideNilSpec.post enc Tryz.prog Tryz.f3 false true false false) := by
  refine returnsInHanded_of_change (C := Tryz.checked) hnOwn started (by kernel_rfl) Tryz.func3
    (ChangeSpec.witness6 (enc := enc) (C := Tryz.checked) false ⟨#[], #[.string ⟨#[]⟩], []⟩ 8 (by kernel_rfl) (by kernel_rfl) (by kernel_rfl) (by kernel_rfl)) ?_
  intro W base args ds gs before hval0 hW _ _
  have hval : ∀ (j : Nat) t v, Tryz.f3.params[j]? = some t → args[j]? = some v → Value.okWide Tryz.prog W .any base t v := hval0
  have hW' := hW
  obtain ⟨p, q, hA0, hV, rfl, _, _⟩ := hW
  have hA : DataW.TrodAll enc Tryz.prog W 0 (fun _ => true) true Tryz.f3.params.toList args.toList ds p := hA0
  rw [Tryz.params3] at hA hval
  obtain ⟨v0, d0, rfl, rfl, h0⟩ := trodAll_one hA
  obtain ⟨rfl, rfl⟩ := trodVars_none hV
  obtain ⟨y0, rfl, w0⟩ := arg_str Tryz.underlying9 (hval 0 9 v0 rfl rfl) h0
  refine (law_calls (psalterylaw22_HideNil.ok0 (K := 400) (hidenil_w y0)) W _ ⟨_, _, rfl, rfl, rfl⟩).mono fun e W' ⟨he, ho⟩ => ?_
  exact ⟨_, he, law_post (kids_rows hnLaid hnMaps) hnFull (fun t ht => of_decide_eq_true (List.all_eq_true.1 (show (Tryz.f3.params.toList.all fun t => decide (t < Tryz.prog.types.size)) = true by kernel_rfl) t ht)) hW' rfl rfl rfl Tryz.underlying4 ho⟩

theorem hideNil_holds : Rows.HideNilSaid :=
  OpenClaim.holds_of_wide 3 Tryz.f3 rfl rfl rfl rfl rfl rfl rfl ⟨rfl, rfl, rfl, rfl, rfl⟩ rfl rfl rfl rfl rfl hnNamed Tryz.func3 hnFacts hnInst hnWrap (fun os started H enc _ => hideNil_lifted os started H enc)

#print axioms hideNil_holds
end Go.Proofs.YtbjcfghbmhcajaaGreat
