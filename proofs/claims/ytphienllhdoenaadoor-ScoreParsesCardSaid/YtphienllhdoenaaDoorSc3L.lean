/- The law ScoreParses: it returns true for every input, and the input reads behind the call as it did. -/
import Derived.Test.YtphienllhdoenaaDoorRows
import Derived.Test.YtphienllhdoenaaDoorCards
import Derived.Test.YtphienllhdoenaaDoorTie
import Derived.ProofKit
import Derived.LaidMore
import Derived.Lay
import Derived.SevenTiedAt
import Derived.Stop.Joined
import Derived.Test.YtphienllhdoenaaDoorJ3
import Derived.Test.YtphienllhdoenaaDoorSc3P2
import Derived.Test.YtphienllhdoenaaDoorSc3Sr
import Derived.JoinedOf
import Derived.Test.YtphienllhdoenaaDoorSc3C
import Derived.Test.YtphienllhdoenaaDoorSc3D
import Derived.JoinedAt
import Derived.Carry
namespace Go.Proofs.YtphienllhdoenaaDoor
open Go.ChangeShapes Go.WideShapes Go.ChangeAt Go.RowKit Go.Fo

theorem sc3Own : ownKnob Tryd.prog.godebug = none := by kernel_rfl
theorem sc3Laid : laidOutB Tryd.prog = true := by kernel_rfl
theorem sc3Maps : mapsRowed Tryd.prog = true := by kernel_rfl
theorem sc3Full : ∀ t e, t < Tryd.prog.types.size → Tryd.prog.underlying t = some (.slice e) → 0 < Tryd.prog.cellsOf e := slices_full_of Tryd.prog (by kernel_rfl)

set_option maxRecDepth 100000 in
theorem scoreParses_lifted (os : Os) (started : os.Started) (H : Type) (enc : TypeId × Value → H) :
    ReturnsInHanded {} Tryd.checked os 3 .any (fun w args => (Rows.scoreParsesSpec.pre enc Tryd.prog Tryd.f3 Rows.scoreParsesRow.domain false w args ∧ laidMetH Tryd.prog Rows.scoreParsesRow.laid w) ∧ sizedMet enc Tryd.prog Tryd.f3 (OpenSpec.ofChange Rows.scoreParsesSpec) false w args) (Rows.scoreParsesSpec.post enc Tryd.prog Tryd.f3 false true false false) := by
  refine returnsInHanded_of_change_and (C := Tryd.checked) (X := fun w _ => laidMetH Tryd.prog Rows.scoreParsesRow.laid w) (fun _ _ _ hh h => h.of_heap hh) sc3Own started (by kernel_rfl) Tryd.func3
    (ChangeSpec.witness_shaped (enc := enc) (C := Tryd.checked) (os := os) (X := fun w _ => laidMetH Tryd.prog Rows.scoreParsesRow.laid w) false (World.laidAll Tryd.prog os Rows.scoreParsesRow.laid) #[.string ⟨#[]⟩] 8 (World.laidAll_os _ _ _) (World.shaped_of_ZipB (by kernel_rfl) (by kernel_rfl)) (by kernel_rfl) (by kernel_rfl) (by kernel_rfl) (by rw [MakeChecks.laidMetH_plain _ _ _ (by kernel_rfl)]; exact laidMet_laidAll _ (by kernel_rfl) (by kernel_rfl))) ?_
  intro W base args ds gs before hval0 hW _ _ hL _
  have hval : ∀ (j : Nat) t v, Tryd.f3.params[j]? = some t → args[j]? = some v → Value.okWide Tryd.prog W .any base t v := hval0
  have hW' := hW
  obtain ⟨p, q, hA0, hV, rfl, _, _⟩ := hW
  have hA : DataW.TrodAll enc Tryd.prog W 0 (fun _ => true) true Tryd.f3.params.toList args.toList ds p := hA0
  rw [Tryd.params3] at hA hval
  obtain ⟨v0, d0, rfl, rfl, h0⟩ := trodAll_one hA
  obtain ⟨rfl, rfl⟩ := trodVars_none hV
  obtain ⟨y0, rfl, w0⟩ := arg_str Tryd.underlying9 (hval 0 9 v0 rfl rfl) h0
  refine (law_calls (psalterylaw34_ScoreParses.ok0 (K := 12400) (parses_w y0)) W _ ⟨_, _, rfl, rfl, rfl⟩).mono fun e W' ⟨he, ho⟩ => ?_
  exact ⟨_, he, law_post (kids_rows sc3Laid sc3Maps) sc3Full (fun t ht => of_decide_eq_true (List.all_eq_true.1 (show (Tryd.f3.params.toList.all fun t => decide (t < Tryd.prog.types.size)) = true by kernel_rfl) t ht)) hW' rfl rfl rfl Tryd.underlying4 ho⟩

theorem scoreParses_holds : Rows.ScoreParsesSaid :=
  OpenClaim.holds_of_wide 3 Tryd.f3 rfl rfl rfl rfl rfl rfl rfl ⟨rfl, rfl, rfl, rfl, rfl⟩ rfl rfl rfl rfl rfl sc3Named Tryd.func3 sc3Facts sc3Inst sc3Wrap (fun os started H enc _ => scoreParses_lifted os started H enc)

theorem scoreParses_card_holds : Rows.ScoreParsesCardSaid :=
  Claim7.holds_tied_plain_at .later [] [.data, .pinned] true (true, "90f224471993ce976eee6e2970ee60dc56f606bcbff509fb7f45a8af6dd36a42") false scoreParses_holds (fun _ h => by cases h) (by kernel_rfl) (fun _ h => by cases h) scoreParses_row_tie rfl ⟨rfl, rfl⟩ (by kernel_rfl) rfl
    (fun f fn hf hfn => by
      obtain rfl : f = 3 := Option.some.inj ((show Tryd.prog.funcNamed "psaltery/psalterylaw34.ScoreParses" = some 3 by kernel_rfl).symm.trans hf) |>.symm
      obtain rfl : fn = Tryd.f3 := (Option.some.inj (Tryd.func3.symm.trans hfn)).symm
      exact ⟨by kernel_rfl, fun j t ht => by
        rw [Tryd.params3] at ht
        have hm : t ∈ [9] := by simpa using Array.mem_of_getElem? ht
        have hall : ([9].all fun u => !Tryd.prog.wantsStandIn u) = true := by kernel_rfl
        exact (show Tryd.prog.wantsStandIn t = false by simpa using List.all_eq_true.1 hall t hm)⟩)
    (by kernel_rfl)

#print axioms scoreParses_card_holds
end Go.Proofs.YtphienllhdoenaaDoor
