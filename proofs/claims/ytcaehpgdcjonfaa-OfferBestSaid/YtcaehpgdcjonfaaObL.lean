/- The law OfferBest: it returns true for every input, and the input reads behind the call as it did. -/
import Derived.Test.YtcaehpgdcjonfaaRows
import Derived.Test.YtcaehpgdcjonfaaK9
import Derived.Test.YtcaehpgdcjonfaaN2
import Derived.Test.YtcaehpgdcjonfaaObP2
import Derived.Test.YtcaehpgdcjonfaaObZ
import Derived.JoinedOf
import Derived.Test.YtcaehpgdcjonfaaObC
import Derived.Test.YtcaehpgdcjonfaaObD
import Derived.JoinedAt
import Derived.Carry
namespace Go.Proofs.Ytcaehpgdcjonfaa
open Go.ChangeShapes Go.WideShapes Go.ChangeAt Go.RowKit Go.Fo

theorem obOwn : ownKnob Try.prog.godebug = none := by kernel_rfl
theorem obLaid : laidOutB Try.prog = true := by kernel_rfl
theorem obMaps : mapsRowed Try.prog = true := by kernel_rfl
theorem obFull : ∀ t e, t < Try.prog.types.size → Try.prog.underlying t = some (.slice e) → 0 < Try.prog.cellsOf e := slices_full_of Try.prog (by kernel_rfl)

section
variable {H : Type} {enc : TypeId × Value → H} {P : Program} {w : World} {base : Nat} {spare : Nat → Bool} {held : Bool}
/-- five parameters: by the pattern of four -/
theorem obtrodAll_five {t0 t1 t2 t3 t4 : TypeId} {args : Array Value} {ds : List (DataW H)} {ps : List MemPlace} (h : DataW.TrodAll enc P w base spare held [t0, t1, t2, t3, t4] args.toList ds ps) :
    ∃ v0 v1 v2 v3 v4 d0 d1 d2 d3 d4 p0 p1 p2 p3 p4, args = #[v0, v1, v2, v3, v4] ∧ ds = [d0, d1, d2, d3, d4] ∧ ps = p0 ++ p1 ++ p2 ++ p3 ++ p4 ∧ DataW.Trod enc P w base spare held t0 v0 d0 p0 ∧ DataW.Trod enc P w base spare held t1 v1 d1 p1 ∧ DataW.Trod enc P w base spare held t2 v2 d2 p2 ∧ DataW.Trod enc P w base spare held t3 v3 d3 p3 ∧ DataW.Trod enc P w base spare held t4 v4 d4 p4 := by
  obtain ⟨v0, vs0, d0, e0, p0, q0, hargs, rfl, rfl, h0, r0⟩ := trodAll_cons h
  obtain ⟨v1, vs1, d1, e1, p1, q1, rfl, rfl, rfl, h1, r1⟩ := trodAll_cons r0
  obtain ⟨v2, vs2, d2, e2, p2, q2, rfl, rfl, rfl, h2, r2⟩ := trodAll_cons r1
  obtain ⟨v3, vs3, d3, e3, p3, q3, rfl, rfl, rfl, h3, r3⟩ := trodAll_cons r2
  obtain ⟨v4, vs4, d4, e4, p4, q4, rfl, rfl, rfl, h4, r4⟩ := trodAll_cons r3
  obtain ⟨rfl, rfl, rfl⟩ := trodAll_nil r4
  exact ⟨v0, v1, v2, v3, v4, d0, d1, d2, d3, d4, p0, p1, p2, p3, p4, by cases args; simp_all, rfl, by simp, h0, h1, h2, h3, h4⟩
end

set_option maxRecDepth 100000 in
theorem offerBest_lifted (os : Os) (started : os.Started) (H : Type) (enc : TypeId × Value → H) :
    ReturnsInHanded {} Try.checked os 18 .any (Rows.offerBestSpec.pre6 enc Try.prog Try.f18 Rows.offerBestRow.domain false) (Rows.offerBestSpec.post enc Try.prog Try.f18 false true false false) := by
  refine returnsInHanded_of_change (C := Try.checked) obOwn started (by kernel_rfl) Try.func18
    (ChangeSpec.witness6 (enc := enc) (C := Try.checked) false ⟨#[], #[.slice none 0 0, .slice none 0 0, .agg #[.int .i64 0, .int .i64 0, .int .i64 0, .int .i64 0, .int .i64 0, .int .i64 0, .int .i64 0, .int .i64 0, .int .i64 0, .int .i64 0], .int .i64 0, .int .i64 0], []⟩ 8 (by kernel_rfl) (by kernel_rfl) (by kernel_rfl) (by kernel_rfl)) ?_
  intro W base args ds gs before hval0 hW _ _
  have hval : ∀ (j : Nat) t v, Try.f18.params[j]? = some t → args[j]? = some v → Value.okWide Try.prog W .any base t v := hval0
  have hW' := hW
  obtain ⟨p, q, hA0, hV, rfl, _, _⟩ := hW
  have hA : DataW.TrodAll enc Try.prog W 0 (fun _ => true) true Try.f18.params.toList args.toList ds p := hA0
  rw [Try.params18] at hA hval
  obtain ⟨v0, v1, v2, v3, v4, d0, d1, d2, d3, d4, p0, p1, p2, p3, p4, rfl, rfl, rfl, h0, h1, h2, h3, h4⟩ := obtrodAll_five hA
  obtain ⟨rfl, rfl⟩ := trodVars_none hV
  obtain ⟨y0, c0, w0⟩ := arg_slice (e := .int .u8) (q := 6) Try.underlying61 (by kernel_rfl) (hval 0 61 v0 rfl rfl) h0 (fun _ => ⟨0, 0, 0, false, 0⟩)
  obtain ⟨y1, c1, w1⟩ := arg_slice (e := .int .u8) (q := 6) Try.underlying61 (by kernel_rfl) (hval 1 61 v1 rfl rfl) h1 (fun _ => ⟨0, 0, 0, false, 0⟩)
  obtain ⟨y2, c2, w2⟩ := arg_struct (k := .pair (.int .i64) (.pair (.int .i64) (.pair (.int .i64) (.pair (.int .i64) (.pair (.int .i64) (.pair (.int .i64) (.pair (.int .i64) (.pair (.int .i64) (.pair (.int .i64) (.int .i64)))))))))) (q := 8) Try.underlying50 (by kernel_rfl) (hval 2 50 v2 rfl rfl) h2 (fun _ => ⟨0, 0, 0, false, 0⟩)
  obtain ⟨y3, rfl, w3⟩ := arg_int Try.underlying3 (hval 3 3 v3 rfl rfl) h3
  obtain ⟨y4, rfl, w4⟩ := arg_int Try.underlying3 (hval 4 3 v4 rfl rfl) h4
  refine (law_calls (psalterylaw24_OfferBest.ok0 (K := 300) (best_w y0 y1 (fun y hy => by have := wf_u8 (w0.2 y hy); omega) (fun y hy => by have := wf_u8 (w1.2 y hy); omega) y2.1 y2.2.1 y2.2.2.1 y2.2.2.2.1 y2.2.2.2.2.1 y2.2.2.2.2.2.1 y2.2.2.2.2.2.2.1 y2.2.2.2.2.2.2.2.1 y2.2.2.2.2.2.2.2.2.1 y2.2.2.2.2.2.2.2.2.2 y3 y4)) W _ ⟨_, _, rfl, c0, ⟨_, _, rfl, c1, ⟨_, _, rfl, c2, ⟨_, _, rfl, rfl, ⟨_, _, rfl, rfl, rfl⟩⟩⟩⟩⟩).mono fun e W' ⟨he, ho⟩ => ?_
  exact ⟨_, he, law_post (kids_rows obLaid obMaps) obFull (fun t ht => of_decide_eq_true (List.all_eq_true.1 (show (Try.f18.params.toList.all fun t => decide (t < Try.prog.types.size)) = true by kernel_rfl) t ht)) hW' rfl rfl rfl Try.underlying4 ho⟩

theorem offerBest_holds : Rows.OfferBestSaid :=
  OpenClaim.holds_of_wide 18 Try.f18 rfl rfl rfl rfl rfl rfl rfl ⟨rfl, rfl, rfl, rfl, rfl⟩ rfl rfl rfl rfl rfl obNamed Try.func18 obFacts obInst obWrap (fun os started H enc _ => offerBest_lifted os started H enc)

#print axioms offerBest_holds
end Go.Proofs.Ytcaehpgdcjonfaa
