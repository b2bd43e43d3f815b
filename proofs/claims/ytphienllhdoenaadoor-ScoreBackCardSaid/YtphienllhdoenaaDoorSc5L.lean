/- The law ScoreBack: it returns true for every input, and the input reads behind the call as it did. -/
import Derived.Test.YtphienllhdoenaaDoorRows
import Derived.Test.YtphienllhdoenaaDoorCards
import Derived.Test.YtphienllhdoenaaDoorTie
import Derived.ProofKit
import Derived.LaidMore
import Derived.Lay
import Derived.SevenTiedAt
import Derived.Stop.Joined
import Derived.Test.YtphienllhdoenaaDoorJ3
import Derived.Test.YtphienllhdoenaaDoorSc5P1
import Derived.Test.YtphienllhdoenaaDoorSc5Bd
import Derived.JoinedOf
import Derived.Test.YtphienllhdoenaaDoorSc5C
import Derived.Test.YtphienllhdoenaaDoorSc5D
import Derived.JoinedAt
import Derived.Carry
namespace Go.Proofs.YtphienllhdoenaaDoor
open Go.ChangeShapes Go.WideShapes Go.ChangeAt Go.RowKit Go.Fo

theorem sc5Own : ownKnob Tryd.prog.godebug = none := by kernel_rfl
theorem sc5Laid : laidOutB Tryd.prog = true := by kernel_rfl
theorem sc5Maps : mapsRowed Tryd.prog = true := by kernel_rfl
theorem sc5Full : ∀ t e, t < Tryd.prog.types.size → Tryd.prog.underlying t = some (.slice e) → 0 < Tryd.prog.cellsOf e := slices_full_of Tryd.prog (by kernel_rfl)

set_option maxRecDepth 100000 in
theorem scoreBack_lifted (os : Os) (started : os.Started) (H : Type) (enc : TypeId × Value → H) :
    ReturnsInHanded {} Tryd.checked os 5 .any (fun w args => (Rows.scoreBackSpec.pre enc Tryd.prog Tryd.f5 Rows.scoreBackRow.domain false w args ∧ laidMetH Tryd.prog Rows.scoreBackRow.laid w) ∧ sizedMet enc Tryd.prog Tryd.f5 (OpenSpec.ofChange Rows.scoreBackSpec) false w args) (Rows.scoreBackSpec.post enc Tryd.prog Tryd.f5 false true false false) := by
  refine returnsInHanded_of_change_and (C := Tryd.checked) (X := fun w _ => laidMetH Tryd.prog Rows.scoreBackRow.laid w) (fun _ _ _ hh h => h.of_heap hh) sc5Own started (by kernel_rfl) Tryd.func5
    (ChangeSpec.witness_shaped (enc := enc) (C := Tryd.checked) (os := os) (X := fun w _ => laidMetH Tryd.prog Rows.scoreBackRow.laid w) false (World.laidAll Tryd.prog os Rows.scoreBackRow.laid) #[.slice none 0 0, .string ⟨#[]⟩] 8 (World.laidAll_os _ _ _) (World.shaped_of_ZipB (by kernel_rfl) (by kernel_rfl)) (by kernel_rfl) (by kernel_rfl) (by kernel_rfl) (by rw [MakeChecks.laidMetH_plain _ _ _ (by kernel_rfl)]; exact laidMet_laidAll _ (by kernel_rfl) (by kernel_rfl))) ?_
  intro W base args ds gs before hval0 hW _ _ hL _
  have hval : ∀ (j : Nat) t v, Tryd.f5.params[j]? = some t → args[j]? = some v → Value.okWide Tryd.prog W .any base t v := hval0
  have hW' := hW
  obtain ⟨p, q, hA0, hV, rfl, _, _⟩ := hW
  have hA : DataW.TrodAll enc Tryd.prog W 0 (fun _ => true) true Tryd.f5.params.toList args.toList ds p := hA0
  rw [Tryd.params5] at hA hval
  obtain ⟨v0, v1, d0, d1, p0, p1, rfl, rfl, rfl, h0, h1⟩ := trodAll_two hA
  obtain ⟨rfl, rfl⟩ := trodVars_none hV
  obtain ⟨y0, c0, w0⟩ := arg_slice (e := .pair (.int .i64) (.pair (.int .i64) (.pair (.slice (.int .i16)) (.pair (.slice (.int .u8)) (.pair (.slice (.int .u8)) (.slice (.pair (.int .i64) (.pair (.int .i64) (.pair (.int .i64) (.int .u32)))))))))) (q := 6) Tryd.underlying27 (by kernel_rfl) (hval 0 27 v0 rfl rfl) h0 (fun _ => ⟨0, 0, 0, false, 0⟩)
  obtain ⟨y1, rfl, w1⟩ := arg_str Tryd.underlying9 (hval 1 9 v1 rfl rfl) h1
  refine (law_calls (psalterylaw34_ScoreBack.ok0 (K := 74300) (back_w y0 w0 y1)) W _ ⟨_, _, rfl, c0, ⟨_, _, rfl, rfl, rfl⟩⟩).mono fun e W' ⟨he, ho⟩ => ?_
  exact ⟨_, he, law_post (kids_rows sc5Laid sc5Maps) sc5Full (fun t ht => of_decide_eq_true (List.all_eq_true.1 (show (Tryd.f5.params.toList.all fun t => decide (t < Tryd.prog.types.size)) = true by kernel_rfl) t ht)) hW' rfl rfl rfl Tryd.underlying4 ho⟩

theorem scoreBack_holds : Rows.ScoreBackSaid :=
  OpenClaim.holds_of_wide 5 Tryd.f5 rfl rfl rfl rfl rfl rfl rfl ⟨rfl, rfl, rfl, rfl, rfl⟩ rfl rfl rfl rfl rfl sc5Named Tryd.func5 sc5Facts sc5Inst sc5Wrap (fun os started H enc _ => scoreBack_lifted os started H enc)

theorem scoreBack_card_holds : Rows.ScoreBackCardSaid :=
  Claim7.holds_tied_plain_at .later [] [.data, .pinned] true (true, "90f224471993ce976eee6e2970ee60dc56f606bcbff509fb7f45a8af6dd36a42") false scoreBack_holds (fun _ h => by cases h) (by kernel_rfl) (fun _ h => by cases h) scoreBack_row_tie rfl ⟨rfl, rfl⟩ (by kernel_rfl) rfl
    (fun f fn hf hfn => by
      obtain rfl : f = 5 := Option.some.inj ((show Tryd.prog.funcNamed "psaltery/psalterylaw34.ScoreBack" = some 5 by kernel_rfl).symm.trans hf) |>.symm
      obtain rfl : fn = Tryd.f5 := (Option.some.inj (Tryd.func5.symm.trans hfn)).symm
      exact ⟨by kernel_rfl, fun j t ht => by
        rw [Tryd.params5] at ht
        have hm : t ∈ [27, 9] := by simpa using Array.mem_of_getElem? ht
        have hall : ([27, 9].all fun u => !Tryd.prog.wantsStandIn u) = true := by kernel_rfl
        exact (show Tryd.prog.wantsStandIn t = false by simpa using List.all_eq_true.1 hall t hm)⟩)
    (by kernel_rfl)

#print axioms scoreBack_card_holds
end Go.Proofs.YtphienllhdoenaaDoor
