/- The law StreamOnly: it returns true for every input, and the input reads behind the call as it did. -/
import Derived.Test.YtcaehpgdcjonfaaRows
import Derived.Test.YtcaehpgdcjonfaaK9
import Derived.Test.YtcaehpgdcjonfaaN2
import Derived.Test.YtcaehpgdcjonfaaSoP2
import Derived.Test.YtcaehpgdcjonfaaSoY
import Derived.JoinedOf
import Derived.Test.YtcaehpgdcjonfaaSoC
import Derived.Test.YtcaehpgdcjonfaaSoD
import Derived.JoinedAt
import Derived.Carry
namespace Go.Proofs.Ytcaehpgdcjonfaa
open Go.ChangeShapes Go.WideShapes Go.ChangeAt Go.RowKit Go.Fo

theorem soOwn : ownKnob Try.prog.godebug = none := by kernel_rfl
theorem soLaid : laidOutB Try.prog = true := by kernel_rfl
theorem soMaps : mapsRowed Try.prog = true := by kernel_rfl
theorem soFull : ∀ t e, t < Try.prog.types.size → Try.prog.underlying t = some (.slice e) → 0 < Try.prog.cellsOf e := slices_full_of Try.prog (by kernel_rfl)

set_option maxRecDepth 100000 in
theorem streamOnly_lifted (os : Os) (started : os.Started) (H : Type) (enc : TypeId × Value → H) :
    ReturnsInHanded {} Try.checked os 19 .any (Rows.streamOnlySpec.pre6 enc Try.prog Try.f19 Rows.streamOnlyRow.domain false) (Rows.streamOnlySpec.post enc Try.prog Try.f19 false true false false) := by
  refine returnsInHanded_of_change (C := Try.checked) soOwn started (by kernel_rfl) Try.func19
    (ChangeSpec.witness6 (enc := enc) (C := Try.checked) false ⟨#[], #[.slice none 0 0], []⟩ 8 (by kernel_rfl) (by kernel_rfl) (by kernel_rfl) (by kernel_rfl)) ?_
  intro W base args ds gs before hval0 hW _ _
  have hval : ∀ (j : Nat) t v, Try.f19.params[j]? = some t → args[j]? = some v → Value.okWide Try.prog W .any base t v := hval0
  have hW' := hW
  obtain ⟨p, q, hA0, hV, rfl, _, _⟩ := hW
  have hA : DataW.TrodAll enc Try.prog W 0 (fun _ => true) true Try.f19.params.toList args.toList ds p := hA0
  rw [Try.params19] at hA hval
  obtain ⟨v0, d0, rfl, rfl, h0⟩ := trodAll_one hA
  obtain ⟨rfl, rfl⟩ := trodVars_none hV
  obtain ⟨y0, c0, w0⟩ := arg_slice (e := .pair (.int .i64) (.pair (.slice (.int .u8)) (.slice (.int .u8)))) (q := 6) Try.underlying112 (by kernel_rfl) (hval 0 112 v0 rfl rfl) h0 (fun _ => ⟨0, 0, 0, false, 0⟩)
  refine (law_calls (psalterylaw25_StreamOnly.ok0 (K := 300) (only25 y0 (fun x hx => ⟨fun y hy => by have := wf_u8 ((w0.2 x hx).2.1.2 y hy); omega, fun y hy => by have := wf_u8 ((w0.2 x hx).2.2.2 y hy); omega⟩))) W _ ⟨_, _, rfl, c0, rfl⟩).mono fun e W' ⟨he, ho⟩ => ?_
  exact ⟨_, he, law_post (kids_rows soLaid soMaps) soFull (fun t ht => of_decide_eq_true (List.all_eq_true.1 (show (Try.f19.params.toList.all fun t => decide (t < Try.prog.types.size)) = true by kernel_rfl) t ht)) hW' rfl rfl rfl Try.underlying4 ho⟩

theorem streamOnly_holds : Rows.StreamOnlySaid :=
  OpenClaim.holds_of_wide 19 Try.f19 rfl rfl rfl rfl rfl rfl rfl ⟨rfl, rfl, rfl, rfl, rfl⟩ rfl rfl rfl rfl rfl soNamed Try.func19 soFacts soInst soWrap (fun os started H enc _ => streamOnly_lifted os started H enc)

#print axioms streamOnly_holds
end Go.Proofs.Ytcaehpgdcjonfaa
