/- The law LapNil: it returns true for every input, and the input reads behind the call as it did. -/
import Derived.Test.YtgiekbffblmgpaaGreatRows
import Derived.Test.YtgiekbffblmgpaaGreatJ4
import Derived.Test.YtgiekbffblmgpaaGreatLnP2
import Derived.Test.YtgiekbffblmgpaaGreatLnNq
import Derived.JoinedOf
import Derived.Test.YtgiekbffblmgpaaGreatLnC
import Derived.Test.YtgiekbffblmgpaaGreatLnD
import Derived.JoinedAt
import Derived.Carry
namespace Go.Proofs.YtgiekbffblmgpaaGreat
open Go.ChangeShapes Go.WideShapes Go.ChangeAt Go.RowKit Go.Fo

theorem lnOwn : ownKnob Tryz.prog.godebug = none := by kernel_rfl
theorem lnLaid : laidOutB Tryz.prog = true := by kernel_rfl
theorem lnMaps : mapsRowed Tryz.prog = true := by kernel_rfl
theorem lnFull : ∀ t e, t < Tryz.prog.types.size → Tryz.prog.underlying t = some (.slice e) → 0 < Tryz.prog.cellsOf e := slices_full_of Tryz.prog (by kernel_rfl)

set_option maxRecDepth 100000 in
theorem lapNil_lifted (os : Os) (started : os.Started) (H : Type) (enc : TypeId × Value → H) :
    ReturnsInHanded {} Tryz.checked os 3 .any (Rows.lapNilSpec.pre6 enc Tryz.prog Tryz.f3 Rows.lapNilRow.domain false) (Rows.lapNilSpec.post enc Tryz.prog Tryz.f3 false true false false) := by
  refine returnsInHanded_of_change (C := Tryz.checked) lnOwn started (by kernel_rfl) Tryz.func3
    (ChangeSpec.witness6 (enc := enc) (C := Tryz.checked) false ⟨#[], #[.slice none 0 0], []⟩ 8 (by kernel_rfl) (by kernel_rfl) (by kernel_rfl) (by kernel_rfl)) ?_
  intro W base args ds gs before hval0 hW _ _
  have hval : ∀ (j : Nat) t v, Tryz.f3.params[j]? = some t → args[j]? = some v → Value.okWide Tryz.prog W .any base t v := hval0
  have hW' := hW
  obtain ⟨p, q, hA0, hV, rfl, _, _⟩ := hW
  have hA : DataW.TrodAll enc Tryz.prog W 0 (fun _ => true) true Tryz.f3.params.toList args.toList ds p := hA0
  rw [Tryz.params3] at hA hval
  obtain ⟨v0, d0, rfl, rfl, h0⟩ := trodAll_one hA
  obtain ⟨rfl, rfl⟩ := trodVars_none hV
  obtain ⟨y0, c0, w0⟩ := arg_slice (e := .int .i16) (q := 6) Tryz.underlying22 (by kernel_rfl) (hval 0 22 v0 rfl rfl) h0 (fun _ => ⟨0, 0, 0, false, 0⟩)
  refine (law_calls (psalterylaw21_LapNil.ok0 (K := 400) (lapnil_w y0)) W _ ⟨_, _, rfl, c0, rfl⟩).mono fun e W' ⟨he, ho⟩ => ?_
  exact ⟨_, he, law_post (kids_rows lnLaid lnMaps) lnFull (fun t ht => of_decide_eq_true (List.all_eq_true.1 (show (Tryz.f3.params.toList.all fun t => decide (t < Tryz.prog.types.size)) = true by kernel_rfl) t ht)) hW' rfl rfl rfl Tryz.underlying4 ho⟩

theorem lapNil_holds : Rows.LapNilSaid :=
  OpenClaim.holds_of_wide 3 Tryz.f3 rfl rfl rfl rfl rfl rfl rfl ⟨rfl, rfl, rfl, rfl, rfl⟩ rfl rfl rfl rfl rfl lnNamed Tryz.func3 lnFacts lnInst lnWrap (fun os started H enc _ => lapNil_lifted os started H enc)

#print axioms lapNil_holds
end Go.Proofs.YtgiekbffblmgpaaGreat
