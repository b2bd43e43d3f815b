/- The law SubTurned: it returns true for every input, and the input reads behind the call as it did. -/
import Derived.Test.YtphienllhdoenaaGreatRows
import Derived.Test.YtphienllhdoenaaGreatJ3
import Derived.Test.YtphienllhdoenaaGreatStP2
import Derived.Test.YtphienllhdoenaaGreatStTe
import Derived.JoinedOf
import Derived.Test.YtphienllhdoenaaGreatStC
import Derived.Test.YtphienllhdoenaaGreatStD
import Derived.JoinedAt
import Derived.Carry
namespace Go.Proofs.YtphienllhdoenaaGreat
open Go.ChangeShapes Go.WideShapes Go.ChangeAt Go.RowKit Go.Fo

theorem stOwn : ownKnob Tryz.prog.godebug = none := by kernel_rfl
theorem stLaid : laidOutB Tryz.prog = true := by kernel_rfl
theorem stMaps : mapsRowed Tryz.prog = true := by kernel_rfl
theorem stFull : ∀ t e, t < Tryz.prog.types.size → Tryz.prog.underlying t = some (.slice e) → 0 < Tryz.prog.cellsOf e := slices_full_of Tryz.prog (by kernel_rfl)

section
variable {H : Type} {enc : TypeId × Value → H} {P : Program} {w : World} {base : Nat} {spare : Nat → Bool} {held : Bool}
/-- five parameters: by the pattern of four -/
theorem sttrodAll_five {t0 t1 t2 t3 t4 : TypeId} {args : Array Value} {ds : List (DataW H)} {ps : List MemPlace} (h : DataW.TrodAll enc P w base spare held [t0, t1, t2, t3, t4] args.toList ds ps) :
    ∃ v0 v1 v2 v3 v4 d0 d1 d2 d3 d4 p0 p1 p2 p3 p4, args = #[v0, v1, v2, v3, v4] ∧ ds = [d0, d1, d2, d3, d4] ∧ ps = p0 ++ p1 ++ p2 ++ p3 ++ p4 ∧ DataW.Trod enc P w base spare held t0 v0 d0 p0 ∧ DataW.Trod enc P w base spare held t1 v1 d1 p1 ∧ DataW.Trod enc P w base spare held t2 v2 d2 p2 ∧ DataW.Trod enc P w base spare held t3 v3 d3 p3 ∧ DataW.Trod enc P w base spare held t4 v4 d4 p4 := by
  obtain ⟨v0, vs0, d0, e0, p0, q0, hargs, rfl, rfl, h0, r0⟩ := trodAll_cons h
  obtain ⟨v1, vs1, d1, e1, p1, q1, rfl, rfl, rfl, h1, r1⟩ := trodAll_cons r0
  obtain ⟨v2, vs2, d2, e2, p2, q2, rfl, rfl, rfl, h2, r2⟩ := trodAll_cons r1
  obtain ⟨v3, vs3, d3, e3, p3, q3, rfl, rfl, rfl, h3, r3⟩ := trodAll_cons r2
  obtain ⟨v4, vs4, d4, e4, p4, q4, rfl, rfl, rfl, h4, r4⟩ := trodAll_cons r3
  obtain ⟨rfl, rfl, rfl⟩ := trodAll_nil r4
  exact ⟨v0, v1, v2, v3, v4, d0, d1, d2, d3, d4, p0, p1, p2, p3, p4, by cases args; simp_all, rfl, by simp, h0, h1, h2, h3, h4⟩
end

set_option maxRecDepth 100000 in
theorem subTurned_lifted (os : Os) (started : os.Started) (H : Type) (enc : TypeId × Value → H) :
    ReturnsInHanded {} Tryz.checked os 5 .any (Rows.subTurnedSpec.pre6 enc Tryz.prog Tryz.f5 Rows.subTurnedRow.domain false) (Rows.subTurnedSpec.post enc Tryz.prog Tryz.f5 false true false false) := by
  refine returnsInHanded_of_change (C := Tryz.checked) stOwn started (by kernel_rfl) Tryz.func5
    (ChangeSpec.witness6 (enc := enc) (C := Tryz.checked) false ⟨#[], #[.agg #[.int .i64 0, .int .i64 0, .int .i64 0, .int .i64 0, .int .i64 0, .int .i64 0, .int .i64 0, .int .i64 0, .int .i64 0, .int .i64 0], .slice none 0 0, .int .u16 0, .int .u8 0, .bool false], []⟩ 8 (by kernel_rfl) (by kernel_rfl) (by kernel_rfl) (by kernel_rfl)) ?_
  intro W base args ds gs before hval0 hW _ _
  have hval : ∀ (j : Nat) t v, Tryz.f5.params[j]? = some t → args[j]? = some v → Value.okWide Tryz.prog W .any base t v := hval0
  have hW' := hW
  obtain ⟨p, q, hA0, hV, rfl, _, _⟩ := hW
  have hA : DataW.TrodAll enc Tryz.prog W 0 (fun _ => true) true Tryz.f5.params.toList args.toList ds p := hA0
  rw [Tryz.params5] at hA hval
  obtain ⟨v0, v1, v2, v3, v4, d0, d1, d2, d3, d4, p0, p1, p2, p3, p4, rfl, rfl, rfl, h0, h1, h2, h3, h4⟩ := sttrodAll_five hA
  obtain ⟨rfl, rfl⟩ := trodVars_none hV
  obtain ⟨y0, c0, w0⟩ := arg_struct (k := .pair (.int .i64) (.pair (.int .i64) (.pair (.int .i64) (.pair (.int .i64) (.pair (.int .i64) (.pair (.int .i64) (.pair (.int .i64) (.pair (.int .i64) (.pair (.int .i64) (.int .i64)))))))))) (q := 8) Tryz.underlying23 (by kernel_rfl) (hval 0 23 v0 rfl rfl) h0 (fun _ => ⟨0, 0, 0, false, 0⟩)
  obtain ⟨y1, c1, w1⟩ := arg_slice (e := .int .i16) (q := 6) Tryz.underlying45 (by kernel_rfl) (hval 1 45 v1 rfl rfl) h1 (fun _ => ⟨0, 0, 0, false, 0⟩)
  obtain ⟨y2, rfl, w2⟩ := arg_int Tryz.underlying56 (hval 2 56 v2 rfl rfl) h2
  obtain ⟨y3, rfl, w3⟩ := arg_int Tryz.underlying5 (hval 3 5 v3 rfl rfl) h3
  obtain ⟨y4, rfl⟩ := arg_bool Tryz.underlying4 (hval 4 4 v4 rfl rfl)
  refine (law_calls (psalterylaw14_SubTurned.ok0 (K := 5000) (turned_w y0.1 y0.2.1 y0.2.2.1 y0.2.2.2.1 y0.2.2.2.2.1 y0.2.2.2.2.2.1 y0.2.2.2.2.2.2.1 y0.2.2.2.2.2.2.2.1 y0.2.2.2.2.2.2.2.2.1 y0.2.2.2.2.2.2.2.2.2 y1 y2 y3 y4 (wf_u16 w2) (wf_u8 w3))) W _ ⟨_, _, rfl, c0, ⟨_, _, rfl, c1, ⟨_, _, rfl, rfl, ⟨_, _, rfl, rfl, ⟨_, _, rfl, rfl, rfl⟩⟩⟩⟩⟩).mono fun e W' ⟨he, ho⟩ => ?_
  exact ⟨_, he, law_post (kids_rows stLaid stMaps) stFull (fun t ht => of_decide_eq_true (List.all_eq_true.1 (show (Tryz.f5.params.toList.all fun t => decide (t < Tryz.prog.types.size)) = true by kernel_rfl) t ht)) hW' rfl rfl rfl Tryz.underlying4 ho⟩

theorem subTurned_holds : Rows.SubTurnedSaid :=
  OpenClaim.holds_of_wide 5 Tryz.f5 rfl rfl rfl rfl rfl rfl rfl ⟨rfl, rfl, rfl, rfl, rfl⟩ rfl rfl rfl rfl rfl stNamed Tryz.func5 stFacts stInst stWrap (fun os started H enc _ => subTurned_lifted os started H enc)

#print axioms subTurned_holds
end Go.Proofs.YtphienllhdoenaaGreat
