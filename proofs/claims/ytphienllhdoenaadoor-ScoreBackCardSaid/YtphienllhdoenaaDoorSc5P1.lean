/- Each call comes to the function that is written for it. -/
import Derived.Test.YtphienllhdoenaaDoorSc5T
import Derived.Test.YtphienllhdoenaaDoorSc5F
import Derived.Test.YtphienllhdoenaaDoorSx
import Derived.Test.YtphienllhdoenaaDoorSb
import Derived.Test.YtphienllhdoenaaDoorSc5P0
namespace Go.Fo
open Go.Proofs
set_option maxRecDepth 20000
set_option maxHeartbeats 4000000
def psalterylaw34_alive.res  : Bool → MV
  | q0 => .bool q0
def psalterylaw34_alive.out  : Bool → List (Nat × Option MObj)
  | _ => []
theorem psalterylaw34_alive.ok {K : Nat}  {r : Bool} (h0 : psalterylaw34_alive K  = some r) : Fn Tryd.prog 6 [] [] (psalterylaw34_alive.res  r) (psalterylaw34_alive.out  r) := by
  refine Fn_of Tryd.func6 rfl (Nat.le_of_ble_eq_true rfl) fun Γ => ?_
  refine TC_seq ?_
  refine TC_reg ?_
  refine TL_ev env 1 rfl ⟨tv, tv⟩ ?_
  refine TL_end ?_
  refine TE_go ?_
  refine TC_seq ?_
  refine TC_reg ?_
  obtain ⟨z, hr, h0⟩ := bnd h0
  rcases z with ⟨r12, r13⟩ | r14
  · refine TL_callB [] (score_Parse.ok0 hr) score_Parse.fnb rfl ⟨tv, ⟨tv, tv⟩⟩ rfl tv rfl ?_
    refine TL_ev env 7 rfl ⟨tv, ⟨tv, ⟨tv, ⟨tv, ⟨tv, ⟨tv, ⟨tv, tv⟩⟩⟩⟩⟩⟩⟩ ?_
    refine TL_end ?_
    refine TE_go ?_
    refine TC_seq ?_
    refine TC_reg ?_
    obtain ⟨z, hr, h0⟩ := bnd h0
    rcases z with ⟨r15, r16⟩ | r17
    · refine TL_callB [] (score_Parse.ok0 hr) score_Parse.fnb rfl ⟨tv, ⟨tv, tv⟩⟩ rfl tv rfl ?_
      refine TL_ev env 7 rfl ⟨tv, ⟨tv, ⟨tv, ⟨tv, ⟨tv, ⟨tv, ⟨tv, tv⟩⟩⟩⟩⟩⟩⟩ ?_
      refine TL_end ?_
      refine TE_go ?_
      refine TC_seq ?_
      refine TC_reg ?_
      refine TL_ev env 12 rfl ⟨tv, ⟨⟨tv, ⟨tv, tv⟩⟩, ⟨tv, ⟨fun eg => tv, ⟨fun eg => ⟨fun e => e, ⟨tv, tv⟩⟩, ⟨⟨tv, ⟨fun e => e, tv⟩⟩, ⟨tv, ⟨fun eg => tv, ⟨fun eg => ⟨fun e => e, tv⟩, ⟨fun eg => ⟨fun e => e, ⟨tv, tv⟩⟩, ⟨⟨tv, ⟨fun e => e, tv⟩⟩, ⟨tv, tv⟩⟩⟩⟩⟩⟩⟩⟩⟩⟩⟩⟩ ?_
      refine TL_split 28 rfl (fun hb => ?_) (fun hb => ?_)
      · replace h0 := bif_t h0 hb
        refine TL_gt rfl rfl rfl rfl ?_
        refine TL_ev env 1 rfl ⟨tv, tv⟩ ?_
        exact (nsome h0).elim
      · replace h0 := bif_f h0 hb
        refine TL_gf (.bool false) rfl rfl rfl rfl rfl (by decide) ?_
        refine TL_gf (.bool false) rfl rfl rfl rfl rfl (by decide) ?_
        refine TL_gf (.bool false) rfl rfl rfl rfl rfl (by decide) ?_
        refine TL_gf (.bool false) rfl rfl rfl rfl rfl (by decide) ?_
        refine TL_gf (.bool false) rfl rfl rfl rfl rfl (by decide) ?_
        refine TL_gf (.bool false) rfl rfl rfl rfl rfl (by decide) ?_
        refine TL_ev env 2 rfl ⟨⟨tv, ⟨fun e => e, tv⟩⟩, ⟨tv, tv⟩⟩ ?_
        refine TL_gf (.bool false) rfl rfl rfl rfl rfl (by decide) ?_
        refine TL_gf (.bool false) rfl rfl rfl rfl rfl (by decide) ?_
        refine TL_gf (.bool false) rfl rfl rfl rfl rfl (by decide) ?_
        refine TL_gf (.bool false) rfl rfl rfl rfl rfl (by decide) ?_
        refine TL_gf (.bool false) rfl rfl rfl rfl rfl (by decide) ?_
        refine TL_gf (.bool false) rfl rfl rfl rfl rfl (by decide) ?_
        refine TL_gf (.bool false) rfl rfl rfl rfl rfl (by decide) ?_
        refine TL_gf (.bool false) rfl rfl rfl rfl rfl (by decide) ?_
        refine TL_ev env 2 rfl ⟨⟨tv, ⟨fun e => e, tv⟩⟩, ⟨tv, tv⟩⟩ ?_
        refine TL_gf (.bool false) rfl rfl rfl rfl rfl (by decide) ?_
        refine TL_gf (.bool false) rfl rfl rfl rfl rfl (by decide) ?_
        refine TL_gf (.bool false) rfl rfl rfl rfl rfl (by decide) ?_
        refine TL_gf (.bool false) rfl rfl rfl rfl rfl (by decide) ?_
        refine TL_gf (.bool false) rfl rfl rfl rfl rfl (by decide) ?_
        refine TL_gf (.bool false) rfl rfl rfl rfl rfl (by decide) ?_
        refine TL_ev env 2 rfl ⟨⟨tv, ⟨fun e => e, tv⟩⟩, ⟨tv, tv⟩⟩ ?_
        refine TL_gf (.bool false) rfl rfl rfl rfl rfl (by decide) ?_
        refine TL_gf (.bool false) rfl rfl rfl rfl rfl (by decide) ?_
        refine TL_ev env 2 rfl ⟨⟨tv, ⟨fun e => e, tv⟩⟩, ⟨tv, tv⟩⟩ ?_
        refine TL_gf (.bool false) rfl rfl rfl rfl rfl (by decide) ?_
        refine TL_gf (.bool false) rfl rfl rfl rfl rfl (by decide) ?_
        refine TL_ev env 2 rfl ⟨⟨tv, ⟨fun e => e, tv⟩⟩, ⟨tv, tv⟩⟩ ?_
        refine TL_end ?_
        refine TE_go ?_
        refine TC_ret ?_
        obtain rfl := sinj h0
        exact TE_ret env rfl tv tv
    · refine TL_callB [] (score_Parse.ok1 hr) score_Parse.fnb rfl ⟨tv, ⟨tv, tv⟩⟩ rfl tv rfl ?_
      refine TL_ev env 7 rfl ⟨tv, ⟨tv, ⟨tv, ⟨tv, ⟨tv, ⟨tv, ⟨tv, tv⟩⟩⟩⟩⟩⟩⟩ ?_
      refine TL_end ?_
      refine TE_go ?_
      refine TC_seq ?_
      refine TC_reg ?_
      refine TL_ev env 12 rfl ⟨tv, ⟨⟨tv, ⟨tv, tv⟩⟩, ⟨tv, ⟨fun eg => tv, ⟨fun eg => ⟨fun e => e, ⟨tv, tv⟩⟩, ⟨⟨tv, ⟨fun e => e, tv⟩⟩, ⟨tv, ⟨fun eg => tv, ⟨fun eg => ⟨fun e => e, tv⟩, ⟨fun eg => ⟨fun e => e, ⟨tv, tv⟩⟩, ⟨⟨tv, ⟨fun e => e, tv⟩⟩, ⟨tv, tv⟩⟩⟩⟩⟩⟩⟩⟩⟩⟩⟩⟩ ?_
      refine TL_split 28 rfl (fun hb => ?_) (fun hb => ?_)
      · replace h0 := bif_t h0 hb
        refine TL_gt rfl rfl rfl rfl ?_
        refine TL_ev env 1 rfl ⟨tv, tv⟩ ?_
        exact (nsome h0).elim
      · replace h0 := bif_f h0 hb
        refine TL_gf (.bool false) rfl rfl rfl rfl rfl (by decide) ?_
        refine TL_gf (.bool false) rfl rfl rfl rfl rfl (by decide) ?_
        refine TL_gf (.bool false) rfl rfl rfl rfl rfl (by decide) ?_
        refine TL_gf (.bool false) rfl rfl rfl rfl rfl (by decide) ?_
        refine TL_gf (.bool false) rfl rfl rfl rfl rfl (by decide) ?_
        refine TL_gf (.bool false) rfl rfl rfl rfl rfl (by decide) ?_
        refine TL_ev env 2 rfl ⟨⟨tv, ⟨fun e => e, tv⟩⟩, ⟨tv, tv⟩⟩ ?_
        refine TL_gf (.bool false) rfl rfl rfl rfl rfl (by decide) ?_
        refine TL_gf (.bool false) rfl rfl rfl rfl rfl (by decide) ?_
        refine TL_gf (.bool false) rfl rfl rfl rfl rfl (by decide) ?_
        refine TL_gf (.bool false) rfl rfl rfl rfl rfl (by decide) ?_
        refine TL_gf (.bool false) rfl rfl rfl rfl rfl (by decide) ?_
        refine TL_gf (.bool false) rfl rfl rfl rfl rfl (by decide) ?_
        refine TL_gf (.bool false) rfl rfl rfl rfl rfl (by decide) ?_
        refine TL_gf (.bool false) rfl rfl rfl rfl rfl (by decide) ?_
        refine TL_ev env 2 rfl ⟨⟨tv, ⟨fun e => e, tv⟩⟩, ⟨tv, tv⟩⟩ ?_
        refine TL_gf (.bool false) rfl rfl rfl rfl rfl (by decide) ?_
        refine TL_gf (.bool false) rfl rfl rfl rfl rfl (by decide) ?_
        refine TL_gf (.bool false) rfl rfl rfl rfl rfl (by decide) ?_
        refine TL_gf (.bool false) rfl rfl rfl rfl rfl (by decide) ?_
        refine TL_gf (.bool false) rfl rfl rfl rfl rfl (by decide) ?_
        refine TL_gf (.bool false) rfl rfl rfl rfl rfl (by decide) ?_
        refine TL_ev env 2 rfl ⟨⟨tv, ⟨fun e => e, tv⟩⟩, ⟨tv, tv⟩⟩ ?_
        refine TL_gf (.bool false) rfl rfl rfl rfl rfl (by decide) ?_
        refine TL_gf (.bool false) rfl rfl rfl rfl rfl (by decide) ?_
        refine TL_ev env 2 rfl ⟨⟨tv, ⟨fun e => e, tv⟩⟩, ⟨tv, tv⟩⟩ ?_
        refine TL_gf (.bool false) rfl rfl rfl rfl rfl (by decide) ?_
        refine TL_gf (.bool false) rfl rfl rfl rfl rfl (by decide) ?_
        refine TL_ev env 2 rfl ⟨⟨tv, ⟨fun e => e, tv⟩⟩, ⟨tv, tv⟩⟩ ?_
        refine TL_end ?_
        refine TE_go ?_
        refine TC_ret ?_
        obtain rfl := sinj h0
        exact TE_ret env rfl tv tv
  · refine TL_callB [] (score_Parse.ok1 hr) score_Parse.fnb rfl ⟨tv, ⟨tv, tv⟩⟩ rfl tv rfl ?_
    refine TL_ev env 7 rfl ⟨tv, ⟨tv, ⟨tv, ⟨tv, ⟨tv, ⟨tv, ⟨tv, tv⟩⟩⟩⟩⟩⟩⟩ ?_
    refine TL_end ?_
    refine TE_go ?_
    refine TC_seq ?_
    refine TC_reg ?_
    obtain ⟨z, hr, h0⟩ := bnd h0
    rcases z with ⟨r22, r23⟩ | r24
    · refine TL_callB [] (score_Parse.ok0 hr) score_Parse.fnb rfl ⟨tv, ⟨tv, tv⟩⟩ rfl tv rfl ?_
      refine TL_ev env 7 rfl ⟨tv, ⟨tv, ⟨tv, ⟨tv, ⟨tv, ⟨tv, ⟨tv, tv⟩⟩⟩⟩⟩⟩⟩ ?_
      refine TL_end ?_
      refine TE_go ?_
      refine TC_seq ?_
      obtain ⟨z1, h1, h0⟩ := bnd h0
      refine TC_cut (α := Bool) (fun s => z1 = s) (fun s => [(0, .bool s)]) (fun s => []) ?_ ?_
      · refine TC_reg ?_
        refine TL_ev env 3 rfl ⟨tv, ⟨⟨tv, ⟨tv, tv⟩⟩, ⟨tv, tv⟩⟩⟩ ?_
        refine TL_gt rfl rfl rfl rfl ?_
        refine TL_ev env 1 rfl ⟨tv, tv⟩ ?_
        refine TL_gt rfl rfl rfl rfl ?_
        refine TL_ev env 3 rfl ⟨⟨tv, ⟨tv, tv⟩⟩, ⟨⟨tv, ⟨tv, tv⟩⟩, ⟨tv, tv⟩⟩⟩ ?_
        refine TL_gt rfl rfl rfl rfl ?_
        refine TL_ev env 1 rfl ⟨tv, tv⟩ ?_
        refine TL_gt rfl rfl rfl rfl ?_
        refine TL_ev env 1 rfl ⟨⟨tv, tv⟩, tv⟩ ?_
        refine TL_gt rfl rfl rfl rfl ?_
        refine TL_ev env 3 rfl ⟨⟨tv, ⟨tv, tv⟩⟩, ⟨⟨tv, ⟨tv, tv⟩⟩, ⟨tv, tv⟩⟩⟩ ?_
        refine TL_split 28 rfl (fun hb => ?_) (fun hb => ?_)
        · replace h1 := bif_t h1 hb
          refine TL_gt rfl rfl rfl rfl ?_
          refine TL_ev env 1 rfl ⟨tv, tv⟩ ?_
          refine TL_gt rfl rfl rfl rfl ?_
          obtain ⟨g, h1⟩ := gd_t h1
          refine TL_ev env 1 rfl ⟨⟨tv, ⟨tv, ⟨(by decide), g⟩⟩⟩, tv⟩ ?_
          refine TL_gt rfl rfl rfl rfl ?_
          refine TL_ev env 1 rfl ⟨tv, tv⟩ ?_
          refine TL_gt rfl rfl rfl rfl ?_
          refine TL_ev env 1 rfl ⟨⟨tv, tv⟩, tv⟩ ?_
          refine TL_gt rfl rfl rfl rfl ?_
          refine TL_ev env 1 rfl ⟨⟨tv, tv⟩, tv⟩ ?_
          refine TL_gt rfl rfl rfl rfl ?_
          obtain ⟨g, h1⟩ := gd_t h1
          refine TL_ev env 29 rfl ⟨⟨tv, ⟨tv, tv⟩⟩, ⟨⟨tv, ⟨tv, tv⟩⟩, ⟨tv, ⟨fun eg => tv, ⟨fun eg => ⟨fun e => e, ⟨tv, ⟨(by decide), (g.1 eg)⟩⟩⟩, ⟨fun eg => fun e => e, ⟨fun eg => ⟨fun e => e, tv⟩, ⟨fun eg => ⟨fun e => e, ⟨tv, ⟨(by decide), (g.2.1 eg)⟩⟩⟩, ⟨fun eg => fun e => e, ⟨fun eg => ⟨fun e => e, tv⟩, ⟨fun eg => ⟨fun e => e, ⟨tv, tv⟩⟩, ⟨⟨tv, ⟨fun e => e, tv⟩⟩, ⟨tv, ⟨fun eg => tv, ⟨fun eg => ⟨fun e => e, ⟨tv, ⟨(by decide), (g.2.2 eg)⟩⟩⟩, ⟨fun eg => fun e => e, ⟨fun eg => ⟨fun e => e, tv⟩, ⟨fun eg => ⟨fun e => e, tv⟩, ⟨fun eg => ⟨fun e => e, ⟨tv, tv⟩⟩, ⟨⟨tv, ⟨fun e => e, tv⟩⟩, ⟨tv, ⟨fun eg => tv, ⟨fun eg => ⟨fun e => e, ⟨tv, tv⟩⟩, ⟨⟨tv, ⟨fun e => e, tv⟩⟩, ⟨tv, ⟨fun eg => tv, ⟨fun eg => ⟨fun e => e, ⟨tv, tv⟩⟩, ⟨⟨tv, ⟨fun e => e, tv⟩⟩, ⟨tv, tv⟩⟩⟩⟩⟩⟩⟩⟩⟩⟩⟩⟩⟩⟩⟩⟩⟩⟩⟩⟩⟩⟩⟩⟩⟩⟩⟩⟩⟩ ?_
          refine TL_end ?_
          obtain rfl := sinj h1
          refine tsn ?_
          exact SP_ren [] _ rfl ⟨rfl, tv⟩ tv rfl
        · replace h1 := bif_f h1 hb
          refine TL_gf (.bool false) rfl rfl rfl rfl rfl (by decide) ?_
          refine TL_gf (.bool false) rfl rfl rfl rfl rfl (by decide) ?_
          refine TL_gf (.bool false) rfl rfl rfl rfl rfl (by decide) ?_
          refine TL_gf (.bool false) rfl rfl rfl rfl rfl (by decide) ?_
          refine TL_gf (.bool false) rfl rfl rfl rfl rfl (by decide) ?_
          refine TL_gf (.bool false) rfl rfl rfl rfl rfl (by decide) ?_
          refine TL_ev env 2 rfl ⟨⟨tv, ⟨fun e => e, tv⟩⟩, ⟨tv, tv⟩⟩ ?_
          refine TL_gf (.bool false) rfl rfl rfl rfl rfl (by decide) ?_
          refine TL_gf (.bool false) rfl rfl rfl rfl rfl (by decide) ?_
          refine TL_gf (.bool false) rfl rfl rfl rfl rfl (by decide) ?_
          refine TL_gf (.bool false) rfl rfl rfl rfl rfl (by decide) ?_
          refine TL_gf (.bool false) rfl rfl rfl rfl rfl (by decide) ?_
          refine TL_gf (.bool false) rfl rfl rfl rfl rfl (by decide) ?_
          refine TL_gf (.bool false) rfl rfl rfl rfl rfl (by decide) ?_
          refine TL_gf (.bool false) rfl rfl rfl rfl rfl (by decide) ?_
          refine TL_ev env 2 rfl ⟨⟨tv, ⟨fun e => e, tv⟩⟩, ⟨tv, tv⟩⟩ ?_
          refine TL_gf (.bool false) rfl rfl rfl rfl rfl (by decide) ?_
          refine TL_gf (.bool false) rfl rfl rfl rfl rfl (by decide) ?_
          refine TL_gf (.bool false) rfl rfl rfl rfl rfl (by decide) ?_
          refine TL_gf (.bool false) rfl rfl rfl rfl rfl (by decide) ?_
          refine TL_gf (.bool false) rfl rfl rfl rfl rfl (by decide) ?_
          refine TL_gf (.bool false) rfl rfl rfl rfl rfl (by decide) ?_
          refine TL_ev env 2 rfl ⟨⟨tv, ⟨fun e => e, tv⟩⟩, ⟨tv, tv⟩⟩ ?_
          refine TL_gf (.bool false) rfl rfl rfl rfl rfl (by decide) ?_
          refine TL_gf (.bool false) rfl rfl rfl rfl rfl (by decide) ?_
          refine TL_ev env 2 rfl ⟨⟨tv, ⟨fun e => e, tv⟩⟩, ⟨tv, tv⟩⟩ ?_
          refine TL_gf (.bool false) rfl rfl rfl rfl rfl (by decide) ?_
          refine TL_gf (.bool false) rfl rfl rfl rfl rfl (by decide) ?_
          refine TL_ev env 2 rfl ⟨⟨tv, ⟨fun e => e, tv⟩⟩, ⟨tv, tv⟩⟩ ?_
          refine TL_end ?_
          obtain rfl := sinj h1
          refine tsn ?_
          exact SP_ren [] _ rfl ⟨rfl, tv⟩ tv rfl
      · rintro x25 hz
        obtain rfl := hz.symm
        refine TE_go ?_
        refine TC_ret ?_
        obtain rfl := sinj h0
        exact TE_ret env rfl tv tv
    · refine TL_callB [] (score_Parse.ok1 hr) score_Parse.fnb rfl ⟨tv, ⟨tv, tv⟩⟩ rfl tv rfl ?_
      refine TL_ev env 7 rfl ⟨tv, ⟨tv, ⟨tv, ⟨tv, ⟨tv, ⟨tv, ⟨tv, tv⟩⟩⟩⟩⟩⟩⟩ ?_
      refine TL_end ?_
      refine TE_go ?_
      refine TC_seq ?_
      obtain ⟨z1, h1, h0⟩ := bnd h0
      refine TC_cut (α := Bool) (fun s => z1 = s) (fun s => [(0, .bool s)]) (fun s => []) ?_ ?_
      · refine TC_reg ?_
        refine TL_ev env 3 rfl ⟨tv, ⟨⟨tv, ⟨tv, tv⟩⟩, ⟨tv, tv⟩⟩⟩ ?_
        refine TL_gt rfl rfl rfl rfl ?_
        refine TL_ev env 1 rfl ⟨tv, tv⟩ ?_
        refine TL_gt rfl rfl rfl rfl ?_
        refine TL_ev env 3 rfl ⟨⟨tv, ⟨tv, tv⟩⟩, ⟨⟨tv, ⟨tv, tv⟩⟩, ⟨tv, tv⟩⟩⟩ ?_
        refine TL_gt rfl rfl rfl rfl ?_
        refine TL_ev env 1 rfl ⟨tv, tv⟩ ?_
        refine TL_gt rfl rfl rfl rfl ?_
        refine TL_ev env 1 rfl ⟨⟨tv, tv⟩, tv⟩ ?_
        refine TL_gt rfl rfl rfl rfl ?_
        refine TL_ev env 3 rfl ⟨⟨tv, ⟨tv, tv⟩⟩, ⟨⟨tv, ⟨tv, tv⟩⟩, ⟨tv, tv⟩⟩⟩ ?_
        refine TL_split 28 rfl (fun hb => ?_) (fun hb => ?_)
        · replace h1 := bif_t h1 hb
          refine TL_gt rfl rfl rfl rfl ?_
          refine TL_ev env 1 rfl ⟨tv, tv⟩ ?_
          refine TL_gt rfl rfl rfl rfl ?_
          obtain ⟨g, h1⟩ := gd_t h1
          refine TL_ev env 1 rfl ⟨⟨tv, ⟨tv, ⟨(by decide), g⟩⟩⟩, tv⟩ ?_
          refine TL_gt rfl rfl rfl rfl ?_
          refine TL_ev env 1 rfl ⟨tv, tv⟩ ?_
          refine TL_gt rfl rfl rfl rfl ?_
          refine TL_ev env 1 rfl ⟨⟨tv, tv⟩, tv⟩ ?_
          refine TL_gt rfl rfl rfl rfl ?_
          refine TL_ev env 1 rfl ⟨⟨tv, tv⟩, tv⟩ ?_
          refine TL_gt rfl rfl rfl rfl ?_
          obtain ⟨g, h1⟩ := gd_t h1
          refine TL_ev env 29 rfl ⟨⟨tv, ⟨tv, tv⟩⟩, ⟨⟨tv, ⟨tv, tv⟩⟩, ⟨tv, ⟨fun eg => tv, ⟨fun eg => ⟨fun e => e, ⟨tv, ⟨(by decide), (g.1 eg)⟩⟩⟩, ⟨fun eg => fun e => e, ⟨fun eg => ⟨fun e => e, tv⟩, ⟨fun eg => ⟨fun e => e, ⟨tv, ⟨(by decide), (g.2.1 eg)⟩⟩⟩, ⟨fun eg => fun e => e, ⟨fun eg => ⟨fun e => e, tv⟩, ⟨fun eg => ⟨fun e => e, ⟨tv, tv⟩⟩, ⟨⟨tv, ⟨fun e => e, tv⟩⟩, ⟨tv, ⟨fun eg => tv, ⟨fun eg => ⟨fun e => e, ⟨tv, ⟨(by decide), (g.2.2 eg)⟩⟩⟩, ⟨fun eg => fun e => e, ⟨fun eg => ⟨fun e => e, tv⟩, ⟨fun eg => ⟨fun e => e, tv⟩, ⟨fun eg => ⟨fun e => e, ⟨tv, tv⟩⟩, ⟨⟨tv, ⟨fun e => e, tv⟩⟩, ⟨tv, ⟨fun eg => tv, ⟨fun eg => ⟨fun e => e, ⟨tv, tv⟩⟩, ⟨⟨tv, ⟨fun e => e, tv⟩⟩, ⟨tv, ⟨fun eg => tv, ⟨fun eg => ⟨fun e => e, ⟨tv, tv⟩⟩, ⟨⟨tv, ⟨fun e => e, tv⟩⟩, ⟨tv, tv⟩⟩⟩⟩⟩⟩⟩⟩⟩⟩⟩⟩⟩⟩⟩⟩⟩⟩⟩⟩⟩⟩⟩⟩⟩⟩⟩⟩⟩ ?_
          refine TL_end ?_
          obtain rfl := sinj h1
          refine tsn ?_
          exact SP_ren [] _ rfl ⟨rfl, tv⟩ tv rfl
        · replace h1 := bif_f h1 hb
          refine TL_gf (.bool false) rfl rfl rfl rfl rfl (by decide) ?_
          refine TL_gf (.bool false) rfl rfl rfl rfl rfl (by decide) ?_
          refine TL_gf (.bool false) rfl rfl rfl rfl rfl (by decide) ?_
          refine TL_gf (.bool false) rfl rfl rfl rfl rfl (by decide) ?_
          refine TL_gf (.bool false) rfl rfl rfl rfl rfl (by decide) ?_
          refine TL_gf (.bool false) rfl rfl rfl rfl rfl (by decide) ?_
          refine TL_ev env 2 rfl ⟨⟨tv, ⟨fun e => e, tv⟩⟩, ⟨tv, tv⟩⟩ ?_
          refine TL_gf (.bool false) rfl rfl rfl rfl rfl (by decide) ?_
          refine TL_gf (.bool false) rfl rfl rfl rfl rfl (by decide) ?_
          refine TL_gf (.bool false) rfl rfl rfl rfl rfl (by decide) ?_
          refine TL_gf (.bool false) rfl rfl rfl rfl rfl (by decide) ?_
          refine TL_gf (.bool false) rfl rfl rfl rfl rfl (by decide) ?_
          refine TL_gf (.bool false) rfl rfl rfl rfl rfl (by decide) ?_
          refine TL_gf (.bool false) rfl rfl rfl rfl rfl (by decide) ?_
          refine TL_gf (.bool false) rfl rfl rfl rfl rfl (by decide) ?_
          refine TL_ev env 2 rfl ⟨⟨tv, ⟨fun e => e, tv⟩⟩, ⟨tv, tv⟩⟩ ?_
          refine TL_gf (.bool false) rfl rfl rfl rfl rfl (by decide) ?_
          refine TL_gf (.bool false) rfl rfl rfl rfl rfl (by decide) ?_
          refine TL_gf (.bool false) rfl rfl rfl rfl rfl (by decide) ?_
          refine TL_gf (.bool false) rfl rfl rfl rfl rfl (by decide) ?_
          refine TL_gf (.bool false) rfl rfl rfl rfl rfl (by decide) ?_
          refine TL_gf (.bool false) rfl rfl rfl rfl rfl (by decide) ?_
          refine TL_ev env 2 rfl ⟨⟨tv, ⟨fun e => e, tv⟩⟩, ⟨tv, tv⟩⟩ ?_
          refine TL_gf (.bool false) rfl rfl rfl rfl rfl (by decide) ?_
          refine TL_gf (.bool false) rfl rfl rfl rfl rfl (by decide) ?_
          refine TL_ev env 2 rfl ⟨⟨tv, ⟨fun e => e, tv⟩⟩, ⟨tv, tv⟩⟩ ?_
          refine TL_gf (.bool false) rfl rfl rfl rfl rfl (by decide) ?_
          refine TL_gf (.bool false) rfl rfl rfl rfl rfl (by decide) ?_
          refine TL_ev env 2 rfl ⟨⟨tv, ⟨fun e => e, tv⟩⟩, ⟨tv, tv⟩⟩ ?_
          refine TL_end ?_
          obtain rfl := sinj h1
          refine tsn ?_
          exact SP_ren [] _ rfl ⟨rfl, tv⟩ tv rfl
      · rintro x37 hz
        obtain rfl := hz.symm
        refine TE_go ?_
        refine TC_ret ?_
        obtain rfl := sinj h0
        exact TE_ret env rfl tv tv
theorem psalterylaw34_alive.ok0 {K : Nat}  {q0 : Bool} (h0 : psalterylaw34_alive K  = some q0) : Fn Tryd.prog 6 [] [] (.bool q0) [] := psalterylaw34_alive.ok h0
theorem psalterylaw34_alive.fnb : fnb Tryd.prog 6 = true := fnb_of Tryd.func6 rfl
def psalteryref30_Far.res (_p0 : List ((Int × (Int × (List (Int) × (List (Int) × (List (Int) × List ((Int × (Int × (Int × Int))))))))))) : Bool → MV
  | q0 => .bool q0
def psalteryref30_Far.out (_p0 : List ((Int × (Int × (List (Int) × (List (Int) × (List (Int) × List ((Int × (Int × (Int × Int))))))))))) : Bool → List (Nat × Option MObj)
  | _ => []
theorem psalteryref30_Far.ok {K : Nat} {p0 : List ((Int × (Int × (List (Int) × (List (Int) × (List (Int) × List ((Int × (Int × (Int × Int))))))))))} {r : Bool} (h0 : psalteryref30_Far K p0 = some r) : Fn Tryd.prog 20 [.im (.slice (.pair (.int .i64) (.pair (.int .i64) (.pair (.slice (.int .i16)) (.pair (.slice (.int .u8)) (.pair (.slice (.int .u8)) (.slice (.pair (.int .i64) (.pair (.int .i64) (.pair (.int .i64) (.int .u32))))))))))) p0] [] (psalteryref30_Far.res p0 r) (psalteryref30_Far.out p0 r) := by
  refine Fn_of Tryd.func20 rfl (Nat.le_of_ble_eq_true rfl) fun Γ => ?_
  refine TC_seq ?_
  refine TC_reg ?_
  refine TL_ev env 1 rfl ⟨tv, tv⟩ ?_
  refine TL_end ?_
  refine TE_go ?_
  refine TC_seq ?_
  refine TC_seq ?_
  refine TC_reg ?_
  refine TL_ev env 3 rfl ⟨tv, ⟨⟨tv, tv⟩, ⟨⟨tv, ⟨tv, tv⟩⟩, tv⟩⟩⟩ ?_
  refine TL_end ?_
  refine TE_go ?_
  refine TC_cond rfl (fun hb => ?_) (fun hb => ?_)
  · replace h0 := bif_t h0 hb
    refine TC_seq ?_
    refine TC_reg ?_
    refine TL_ev env 1 rfl ⟨tv, tv⟩ ?_
    refine TL_end ?_
    refine TE_go ?_
    refine TC_ret ?_
    refine tsr ?_
    obtain rfl := sinj h0
    exact TE_ret env rfl tv tv
  · replace h0 := bif_f h0 hb
    refine TC_skip ?_
    refine TE_go ?_
    refine TC_seq ?_
    refine TC_seq ?_
    refine TC_reg ?_
    refine TL_ev env 1 rfl ⟨tv, tv⟩ ?_
    refine TL_end ?_
    refine TE_go ?_
    obtain ⟨z1, h1, h0⟩ := bnd h0
    refine TC_cut (α := Unit) (fun _ => z1 = .inl ()) (fun _ => []) (fun _ => []) ?_ ?_
    · refine TC_blk ?_
      refine TC_loop (α := Int) (fun n s => psalteryref30_Far.l0 K p0 n s = some z1) (fun s => [(0, .im (.slice (.pair (.int .i64) (.pair (.int .i64) (.pair (.slice (.int .i16)) (.pair (.slice (.int .u8)) (.pair (.slice (.int .u8)) (.slice (.pair (.int .i64) (.pair (.int .i64) (.pair (.int .i64) (.int .u32))))))))))) p0), (3, .int .i64 s)]) (fun s => []) K ?_ ?_
      · exact SP_ren [] _ h1 ⟨rfl, rfl, tv⟩ tv rfl
      rintro n x6 h1
      rcases n with _ | n
      · exact (nsome h1).elim
      replace h1 : psalteryref30_Far.r0 K p0 (psalteryref30_Far.l0 K p0 n) x6 = some z1 := h1
      refine TC_seq ?_
      refine TC_seq ?_
      refine TC_reg ?_
      refine TL_ev env 4 rfl ⟨tv, ⟨tv, ⟨⟨tv, tv⟩, ⟨⟨tv, ⟨tv, tv⟩⟩, tv⟩⟩⟩⟩ ?_
      refine TL_end ?_
      refine TE_go ?_
      refine TC_cond rfl (fun hb => ?_) (fun hb => ?_)
      · replace h1 := bif_t h1 hb
        refine TC_skip ?_
        refine TE_go ?_
        refine TC_seq ?_
        refine TC_blk ?_
        refine TC_seq ?_
        refine TC_reg ?_
        obtain ⟨g, h1⟩ := gd_t h1
        refine TL_ev env 6 rfl ⟨tv, ⟨tv, ⟨⟨tv, ⟨tv, ⟨g.1, g.2⟩⟩⟩, ⟨⟨tv, tv⟩, ⟨tv, ⟨⟨tv, tv⟩, tv⟩⟩⟩⟩⟩⟩ ?_
        refine TL_end ?_
        refine TE_go ?_
        refine TC_seq ?_
        refine TC_reg ?_
        refine TL_ev env 22 rfl ⟨tv, ⟨⟨tv, tv⟩, ⟨⟨tv, tv⟩, ⟨⟨tv, ⟨tv, tv⟩⟩, ⟨tv, ⟨fun eg => tv, ⟨fun eg => ⟨fun e => e, tv⟩, ⟨fun eg => ⟨fun e => e, tv⟩, ⟨fun eg => ⟨fun e => e, ⟨tv, tv⟩⟩, ⟨⟨tv, ⟨tv, fun e => e⟩⟩, ⟨tv, ⟨fun eg => tv, ⟨fun eg => ⟨fun e => e, tv⟩, ⟨fun eg => ⟨fun e => e, tv⟩, ⟨fun eg => ⟨fun e => e, ⟨tv, tv⟩⟩, ⟨⟨tv, ⟨tv, fun e => e⟩⟩, ⟨tv, ⟨fun eg => tv, ⟨fun eg => ⟨fun e => e, tv⟩, ⟨fun eg => ⟨fun e => e, tv⟩, ⟨fun eg => ⟨fun e => e, ⟨tv, tv⟩⟩, ⟨⟨tv, ⟨tv, fun e => e⟩⟩, tv⟩⟩⟩⟩⟩⟩⟩⟩⟩⟩⟩⟩⟩⟩⟩⟩⟩⟩⟩⟩⟩⟩ ?_
        refine TL_end ?_
        refine TE_go ?_
        refine TC_cond rfl (fun hb => ?_) (fun hb => ?_)
        · replace h1 := bif_t h1 hb
          refine TC_seq ?_
          refine TC_reg ?_
          refine TL_ev env 1 rfl ⟨tv, tv⟩ ?_
          refine TL_end ?_
          refine TE_go ?_
          refine TC_ret ?_
          refine tbr ?_
          refine tsr ?_
          refine tsr ?_
          refine tbr ?_
          refine tsr ?_
          refine tsr ?_
          obtain rfl := sinj h1
          obtain rfl := sinj h0
          exact TE_ret env rfl tv tv
        · replace h1 := bif_f h1 hb
          refine TC_skip ?_
          refine tbn ?_
          refine TE_go ?_
          refine TC_reg ?_
          refine TL_ev env 3 rfl ⟨tv, ⟨⟨tv, ⟨tv, tv⟩⟩, ⟨tv, tv⟩⟩⟩ ?_
          refine TL_end ?_
          refine tsn ?_
          exact TE_nextr [] n (Nat.lt_succ_self n) _ h1 ⟨rfl, rfl, tv⟩ tv rfl
      · replace h1 := bif_f h1 hb
        refine TC_exit ?_
        refine tsx ?_
        refine tsx ?_
        refine tbe ?_
        obtain rfl := sinj h1
        refine tsn ?_
        exact SP_ren [] () rfl tv tv rfl
    · rintro ⟨⟩ rfl
      refine TE_go ?_
      refine TC_seq ?_
      refine TC_reg ?_
      refine TL_ev env 1 rfl ⟨tv, tv⟩ ?_
      refine TL_end ?_
      refine TE_go ?_
      refine TC_ret ?_
      obtain rfl := sinj h0
      exact TE_ret env rfl tv tv
theorem psalteryref30_Far.ok0 {K : Nat} {p0 : List ((Int × (Int × (List (Int) × (List (Int) × (List (Int) × List ((Int × (Int × (Int × Int))))))))))} {q0 : Bool} (h0 : psalteryref30_Far K p0 = some q0) : Fn Tryd.prog 20 [.im (.slice (.pair (.int .i64) (.pair (.int .i64) (.pair (.slice (.int .i16)) (.pair (.slice (.int .u8)) (.pair (.slice (.int .u8)) (.slice (.pair (.int .i64) (.pair (.int .i64) (.pair (.int .i64) (.int .u32))))))))))) p0] [] (.bool q0) [] := psalteryref30_Far.ok h0
theorem psalteryref30_Far.fnb : fnb Tryd.prog 20 = true := fnb_of Tryd.func20 rfl
def psalterylaw34_far.res (_p0 : List ((Int × (Int × (List (Int) × (List (Int) × (List (Int) × List ((Int × (Int × (Int × Int))))))))))) : Bool → MV
  | q0 => .bool q0
def psalterylaw34_far.out (_p0 : List ((Int × (Int × (List (Int) × (List (Int) × (List (Int) × List ((Int × (Int × (Int × Int))))))))))) : Bool → List (Nat × Option MObj)
  | _ => []
theorem psalterylaw34_far.ok {K : Nat} {p0 : List ((Int × (Int × (List (Int) × (List (Int) × (List (Int) × List ((Int × (Int × (Int × Int))))))))))} {r : Bool} (h0 : psalterylaw34_far K p0 = some r) : Fn Tryd.prog 11 [.im (.slice (.pair (.int .i64) (.pair (.int .i64) (.pair (.slice (.int .i16)) (.pair (.slice (.int .u8)) (.pair (.slice (.int .u8)) (.slice (.pair (.int .i64) (.pair (.int .i64) (.pair (.int .i64) (.int .u32))))))))))) p0] [] (psalterylaw34_far.res p0 r) (psalterylaw34_far.out p0 r) := by
  refine Fn_of Tryd.func11 rfl (Nat.le_of_ble_eq_true rfl) fun Γ => ?_
  refine TC_seq ?_
  refine TC_reg ?_
  refine TL_ev env 1 rfl ⟨tv, tv⟩ ?_
  refine TL_end ?_
  refine TE_go ?_
  refine TC_seq ?_
  refine TC_seq ?_
  refine TC_reg ?_
  refine TL_ev env 1 rfl ⟨tv, tv⟩ ?_
  obtain ⟨r7, hr, h0⟩ := bnd h0
  refine TL_callB [] (psalteryref30_Far.ok0 hr) psalteryref30_Far.fnb rfl ⟨tv, ⟨tv, tv⟩⟩ rfl tv rfl ?_
  refine TL_end ?_
  refine TE_go ?_
  refine TC_cond rfl (fun hb => ?_) (fun hb => ?_)
  · replace h0 := bif_t h0 hb
    refine TC_seq ?_
    refine TC_reg ?_
    refine TL_ev env 1 rfl ⟨tv, tv⟩ ?_
    refine TL_end ?_
    refine TE_go ?_
    refine TC_ret ?_
    refine tsr ?_
    obtain rfl := sinj h0
    exact TE_ret env rfl tv tv
  · replace h0 := bif_f h0 hb
    refine TC_skip ?_
    refine TE_go ?_
    refine TC_seq ?_
    refine TC_reg ?_
    refine TL_ev env 1 rfl ⟨tv, tv⟩ ?_
    refine TL_end ?_
    refine TE_go ?_
    refine TC_seq ?_
    refine TC_seq ?_
    refine TC_reg ?_
    refine TL_ev env 1 rfl ⟨tv, tv⟩ ?_
    refine TL_end ?_
    refine TE_go ?_
    obtain ⟨z1, h1, h0⟩ := bnd h0
    refine TC_cut (α := Int) (fun s => z1 = s) (fun s => [(3, .int .i64 s)]) (fun s => []) ?_ ?_
    · refine TC_blk ?_
      refine TC_loop (α := Int × Int) (fun n s => psalterylaw34_far.l0 K p0 n s.1 s.2 = some z1) (fun s => [(0, .im (.slice (.pair (.int .i64) (.pair (.int .i64) (.pair (.slice (.int .i16)) (.pair (.slice (.int .u8)) (.pair (.slice (.int .u8)) (.slice (.pair (.int .i64) (.pair (.int .i64) (.pair (.int .i64) (.int .u32))))))))))) p0), (3, .int .i64 s.1), (4, .int .i64 s.2)]) (fun s => []) K ?_ ?_
      · exact SP_ren [] (_, _) h1 ⟨rfl, rfl, rfl, tv⟩ tv rfl
      rintro n ⟨x14, x15⟩ h1
      rcases n with _ | n
      · exact (nsome h1).elim
      replace h1 : psalterylaw34_far.r0 K p0 (psalterylaw34_far.l0 K p0 n) x14 x15 = some z1 := h1
      refine TC_seq ?_
      refine TC_seq ?_
      refine TC_reg ?_
      refine TL_ev env 4 rfl ⟨tv, ⟨tv, ⟨⟨tv, tv⟩, ⟨⟨tv, ⟨tv, tv⟩⟩, tv⟩⟩⟩⟩ ?_
      refine TL_end ?_
      refine TE_go ?_
      refine TC_cond rfl (fun hb => ?_) (fun hb => ?_)
      · replace h1 := bif_t h1 hb
        refine TC_skip ?_
        refine TE_go ?_
        refine TC_seq ?_
        refine TC_blk ?_
        refine TC_reg ?_
        obtain ⟨g, h1⟩ := gd_t h1
        refine TL_ev env 9 rfl ⟨tv, ⟨tv, ⟨tv, ⟨⟨tv, ⟨tv, ⟨g.1, g.2⟩⟩⟩, ⟨tv, ⟨⟨tv, tv⟩, ⟨⟨tv, tv⟩, ⟨⟨tv, ⟨tv, tv⟩⟩, ⟨tv, tv⟩⟩⟩⟩⟩⟩⟩⟩⟩ ?_
        refine TL_end ?_
        refine tbn ?_
        refine TE_go ?_
        refine TC_reg ?_
        refine TL_ev env 3 rfl ⟨tv, ⟨⟨tv, ⟨tv, tv⟩⟩, ⟨tv, tv⟩⟩⟩ ?_
        refine TL_end ?_
        refine tsn ?_
        exact TE_nextr [] n (Nat.lt_succ_self n) (_, _) h1 ⟨rfl, rfl, rfl, tv⟩ tv rfl
      · replace h1 := bif_f h1 hb
        refine TC_exit ?_
        refine tsx ?_
        refine tsx ?_
        refine tbe ?_
        obtain rfl := sinj h1
        refine tsn ?_
        exact SP_ren [] _ rfl ⟨rfl, tv⟩ tv rfl
    · rintro x12 hz
      obtain rfl := hz.symm
      refine TE_go ?_
      refine TC_seq ?_
      refine TC_reg ?_
      refine TL_ev env 3 rfl ⟨tv, ⟨⟨tv, ⟨tv, tv⟩⟩, ⟨tv, tv⟩⟩⟩ ?_
      refine TL_end ?_
      refine TE_go ?_
      refine TC_ret ?_
      obtain rfl := sinj h0
      exact TE_ret env rfl tv tv
theorem psalterylaw34_far.ok0 {K : Nat} {p0 : List ((Int × (Int × (List (Int) × (List (Int) × (List (Int) × List ((Int × (Int × (Int × Int))))))))))} {q0 : Bool} (h0 : psalterylaw34_far K p0 = some q0) : Fn Tryd.prog 11 [.im (.slice (.pair (.int .i64) (.pair (.int .i64) (.pair (.slice (.int .i16)) (.pair (.slice (.int .u8)) (.pair (.slice (.int .u8)) (.slice (.pair (.int .i64) (.pair (.int .i64) (.pair (.int .i64) (.int .u32))))))))))) p0] [] (.bool q0) [] := psalterylaw34_far.ok h0
theorem psalterylaw34_far.fnb : fnb Tryd.prog 11 = true := fnb_of Tryd.func11 rfl
def psalterylaw30_Of.res (p0 : Int) (p1 : Int) (p2 : List (Int)) (p3 : List (Int)) (p4 : List (Int)) (_p5 : List ((Int × (Int × (Int × Int))))) : (List ((Int × (Int × (Int × Int))))) → MV
  | q0 => .agg [.int .i64 p0, .int .i64 p1, .im (.slice (.int .i16)) p2, .im (.slice (.int .u8)) p3, .im (.slice (.int .u8)) p4, .im (.slice (.pair (.int .i64) (.pair (.int .i64) (.pair (.int .i64) (.int .u32))))) q0]
def psalterylaw30_Of.out (_p0 : Int) (_p1 : Int) (_p2 : List (Int)) (_p3 : List (Int)) (_p4 : List (Int)) (_p5 : List ((Int × (Int × (Int × Int))))) : (List ((Int × (Int × (Int × Int))))) → List (Nat × Option MObj)
  | _ => []
theorem psalterylaw30_Of.ok {K : Nat} {p0 : Int} {p1 : Int} {p2 : List (Int)} {p3 : List (Int)} {p4 : List (Int)} {p5 : List ((Int × (Int × (Int × Int))))} {r : (List ((Int × (Int × (Int × Int)))))} (h0 : psalterylaw30_Of K p0 p1 p2 p3 p4 p5 = some r) : Fn Tryd.prog 25 [.agg [.int .i64 p0, .int .i64 p1, .im (.slice (.int .i16)) p2, .im (.slice (.int .u8)) p3, .im (.slice (.int .u8)) p4, .im (.slice (.pair (.int .i64) (.pair (.int .i64) (.pair (.int .i64) (.int .u32))))) p5]] [] (psalterylaw30_Of.res p0 p1 p2 p3 p4 p5 r) (psalterylaw30_Of.out p0 p1 p2 p3 p4 p5 r) := by
  refine Fn_of Tryd.func25 rfl (Nat.le_of_ble_eq_true rfl) fun Γ => ?_
  refine TC_seq ?_
  refine TC_reg ?_
  refine TL_ev env 2 rfl ⟨tv, ⟨tv, tv⟩⟩ ?_
  refine TL_end ?_
  refine TE_go ?_
  refine TC_seq ?_
  refine TC_reg ?_
  refine TL_ev env 13 rfl ⟨tv, ⟨⟨tv, tv⟩, ⟨tv, ⟨⟨tv, tv⟩, ⟨tv, ⟨⟨tv, tv⟩, ⟨tv, ⟨⟨tv, tv⟩, ⟨tv, ⟨⟨tv, tv⟩, ⟨⟨tv, ⟨tv, ⟨tv, ⟨tv, ⟨tv, tv⟩⟩⟩⟩⟩, ⟨tv, ⟨⟨tv, tv⟩, tv⟩⟩⟩⟩⟩⟩⟩⟩⟩⟩⟩⟩⟩ ?_
  refine TL_end ?_
  refine TE_go ?_
  refine TC_seq ?_
  refine TC_seq ?_
  refine TC_reg ?_
  refine TL_ev env 1 rfl ⟨tv, tv⟩ ?_
  refine TL_end ?_
  refine TE_go ?_
  obtain ⟨z1, h1, h0⟩ := bnd h0
  refine TC_cut (α := (List ((Int × (Int × (Int × Int)))))) (fun s => z1 = s) (fun s => [(2, .p 10800 0), (3, .p 10801 0)]) (fun s => [(10800, some (.cells [.int .i64 0, .int .i64 0, .nils, .nils, .nils, .nils])), (10801, some (.cells [.int .i64 p0, .int .i64 p1, .im (.slice (.int .i16)) p2, .im (.slice (.int .u8)) p3, .im (.slice (.int .u8)) p4, .sl 10802])), (10802, some (.rows (.pair (.int .i64) (.pair (.int .i64) (.pair (.int .i64) (.int .u32)))) s))]) ?_ ?_
  · refine TC_blk ?_
    refine TC_loop (α := Int × (List ((Int × (Int × (Int × Int)))))) (fun n s => psalterylaw30_Of.l0 K p0 p1 p2 p3 p4 p5 n s.1 s.2 = some z1) (fun s => [(1, .p 11000 0), (2, .p 11001 0), (3, .p 11002 0), (4, .int .i64 s.1)]) (fun s => [(11000, some (.cells [.int .i64 p0, .int .i64 p1, .im (.slice (.int .i16)) p2, .im (.slice (.int .u8)) p3, .im (.slice (.int .u8)) p4, .im (.slice (.pair (.int .i64) (.pair (.int .i64) (.pair (.int .i64) (.int .u32))))) p5])), (11001, some (.cells [.int .i64 0, .int .i64 0, .nils, .nils, .nils, .nils])), (11002, some (.cells [.int .i64 p0, .int .i64 p1, .im (.slice (.int .i16)) p2, .im (.slice (.int .u8)) p3, .im (.slice (.int .u8)) p4, .sl 11003])), (11003, some (.rows (.pair (.int .i64) (.pair (.int .i64) (.pair (.int .i64) (.int .u32)))) s.2))]) K ?_ ?_
    · refine TE_ownC 1003 5 920065 (.pair (.int .i64) (.pair (.int .i64) (.pair (.int .i64) (.int .u32)))) rfl rfl (by decide) rfl rfl ?_
      exact SP_ren [(11000, 1001), (11001, 1002), (11002, 1003), (11003, 920065)] (_, _) h1 ⟨rfl, rfl, rfl, rfl, tv⟩ ⟨rfl, rfl, rfl, rfl, tv⟩ rfl
    rintro n ⟨x11, x12⟩ h1
    rcases n with _ | n
    · exact (nsome h1).elim
    replace h1 : psalterylaw30_Of.r0 K p0 p1 p2 p3 p4 p5 (psalterylaw30_Of.l0 K p0 p1 p2 p3 p4 p5 n) x11 x12 = some z1 := h1
    refine TC_seq ?_
    refine TC_seq ?_
    refine TC_reg ?_
    refine TL_ev env 5 rfl ⟨tv, ⟨tv, ⟨⟨tv, tv⟩, ⟨⟨tv, tv⟩, ⟨⟨tv, ⟨tv, tv⟩⟩, tv⟩⟩⟩⟩⟩ ?_
    refine TL_end ?_
    refine TE_go ?_
    refine TC_cond rfl (fun hb => ?_) (fun hb => ?_)
    · replace h1 := bif_t h1 hb
      refine TC_skip ?_
      refine TE_go ?_
      refine TC_seq ?_
      refine TC_blk ?_
      refine TC_renw (A' := [(1, .p 11000 0), (2, .p 11001 0), (3, .p 11002 0), (4, .int .i64 _)]) (L' := [(11000, some (.cells [.int .i64 _, .int .i64 _, .im (.slice (.int .i16)) _, .im (.slice (.int .u8)) _, .im (.slice (.int .u8)) _, .im (.slice (.pair (.int .i64) (.pair (.int .i64) (.pair (.int .i64) (.int .u32))))) _])), (11001, some (.cells [.int .i64 0, .int .i64 0, .nils, .nils, .nils, .nils])), (11002, some (.cells [.int .i64 _, .int .i64 _, .im (.slice (.int .i16)) _, .im (.slice (.int .u8)) _, .im (.slice (.int .u8)) _, .sl 11003])), (11003, some (.rows (.pair (.int .i64) (.pair (.int .i64) (.pair (.int .i64) (.int .u32)))) _))]) [] ⟨rfl, rfl, rfl, rfl, tv⟩ ⟨rfl, rfl, rfl, rfl, tv⟩ rfl ?_
      refine TC_drawR ⟨_, fun i => ([[], [0], [], [2], [], [4, 3, 2], [5, 4, 3, 2], [6, 5, 4, 3, 2], [7, 6, 5, 4, 3, 2, 1, 0], [8, 7, 6, 5, 4, 3, 2, 1, 0], [9, 8, 7, 6, 5, 4, 3, 2, 1, 0]] : List (List Nat)).getD i [], fun i => ([[], [], [], [], [], [], [], [1030], [1031, 11003], [], [11002]] : List (List Nat)).getD i [], fun i => ([[], [], [], [], [], [], [], [1030], [1031], [], []] : List (List Nat)).getD i []⟩ (fun i => ([[1030], [1030], [], [], [], [], [], [], [], [], []] : List (List Nat)).getD i []) (by kernel_rfl) (by kernel_rfl) ?_
      refine AJR_ev env 1 rfl (Nat.le_of_ble_eq_true rfl) rfl tv ?_
      refine AJR_ev env 2 rfl (Nat.le_of_ble_eq_true rfl) rfl ⟨tv, tv⟩ ?_
      refine AJR_ev env 3 rfl (Nat.le_of_ble_eq_true rfl) rfl tv ?_
      refine AJR_ev env 4 rfl (Nat.le_of_ble_eq_true rfl) rfl ⟨tv, tv⟩ ?_
      refine AJR_ev env 5 rfl (Nat.le_of_ble_eq_true rfl) rfl tv ?_
      obtain ⟨g, h1⟩ := gd_t h1
      refine AJR_ev env 6 rfl (Nat.le_of_ble_eq_true rfl) rfl ⟨tv, ⟨tv, ⟨g.1, g.2⟩⟩⟩ ?_
      refine AJR_ev env 7 rfl (Nat.le_of_ble_eq_true rfl) rfl ⟨tv, tv⟩ ?_
      refine AJR_ev env 8 rfl (Nat.le_of_ble_eq_true rfl) rfl ⟨tv, tv⟩ ?_
      obtain ⟨g, h1⟩ := gd_t h1
      refine AJR_ev env 9 rfl (Nat.le_of_ble_eq_true rfl) rfl ⟨⟨tv, ⟨tv, tv⟩⟩, g⟩ ?_
      refine AJR_ev env 10 rfl (Nat.le_of_ble_eq_true rfl) rfl tv ?_
      refine AJR_ev env 11 rfl (Nat.le_of_ble_eq_true rfl) rfl ⟨tv, tv⟩ ?_
      refine AJR_end rfl rfl rfl ?_
      refine tbn ?_
      refine TE_go ?_
      refine TC_reg ?_
      refine TL_ev env 3 rfl ⟨tv, ⟨⟨tv, ⟨tv, tv⟩⟩, ⟨tv, tv⟩⟩⟩ ?_
      refine TL_end ?_
      refine tsn ?_
      exact TE_nextr [(11000, 11000), (11001, 11001), (11002, 11002), (11003, 1031)] n (Nat.lt_succ_self n) (_, _) h1 ⟨rfl, rfl, rfl, rfl, tv⟩ ⟨rfl, rfl, rfl, rfl, tv⟩ rfl
    · replace h1 := bif_f h1 hb
      refine TC_exit ?_
      refine tsx ?_
      refine tsx ?_
      refine tbe ?_
      obtain rfl := sinj h1
      refine tsn ?_
      exact SP_ren [(10800, 11001), (10801, 11002), (10802, 11003)] _ rfl ⟨rfl, rfl, tv⟩ ⟨rfl, rfl, rfl, tv⟩ rfl
  · rintro x10 hz
    obtain rfl := hz.symm
    refine TE_go ?_
    refine TC_seq ?_
    refine TC_reg ?_
    refine TL_ev env 2 rfl ⟨⟨tv, tv⟩, ⟨⟨tv, tv⟩, tv⟩⟩ ?_
    refine TL_end ?_
    refine TE_go ?_
    refine TC_ret ?_
    refine TE_frz 10802 rfl ?_
    obtain rfl := sinj h0
    exact TE_ret env rfl ⟨tv, tv⟩ tv
theorem psalterylaw30_Of.ok0 {K : Nat} {p0 : Int} {p1 : Int} {p2 : List (Int)} {p3 : List (Int)} {p4 : List (Int)} {p5 : List ((Int × (Int × (Int × Int))))} {q0 : List ((Int × (Int × (Int × Int))))} (h0 : psalterylaw30_Of K p0 p1 p2 p3 p4 p5 = some q0) : Fn Tryd.prog 25 [.agg [.int .i64 p0, .int .i64 p1, .im (.slice (.int .i16)) p2, .im (.slice (.int .u8)) p3, .im (.slice (.int .u8)) p4, .im (.slice (.pair (.int .i64) (.pair (.int .i64) (.pair (.int .i64) (.int .u32))))) p5]] [] (.agg [.int .i64 p0, .int .i64 p1, .im (.slice (.int .i16)) p2, .im (.slice (.int .u8)) p3, .im (.slice (.int .u8)) p4, .im (.slice (.pair (.int .i64) (.pair (.int .i64) (.pair (.int .i64) (.int .u32))))) q0]) [] := psalterylaw30_Of.ok h0
theorem psalterylaw30_Of.fnb : fnb Tryd.prog 25 = true := fnb_of Tryd.func25 rfl
def psalterylaw34_of.res (_p0 : List ((Int × (Int × (List (Int) × (List (Int) × (List (Int) × List ((Int × (Int × (Int × Int))))))))))) : (List ((Int × (Int × (List (Int) × (List (Int) × (List (Int) × List ((Int × (Int × (Int × Int))))))))))) → MV
  | q0 => .im (.slice (.pair (.int .i64) (.pair (.int .i64) (.pair (.slice (.int .i16)) (.pair (.slice (.int .u8)) (.pair (.slice (.int .u8)) (.slice (.pair (.int .i64) (.pair (.int .i64) (.pair (.int .i64) (.int .u32))))))))))) q0
def psalterylaw34_of.out (_p0 : List ((Int × (Int × (List (Int) × (List (Int) × (List (Int) × List ((Int × (Int × (Int × Int))))))))))) : (List ((Int × (Int × (List (Int) × (List (Int) × (List (Int) × List ((Int × (Int × (Int × Int))))))))))) → List (Nat × Option MObj)
  | _ => []
theorem psalterylaw34_of.ok {K : Nat} {p0 : List ((Int × (Int × (List (Int) × (List (Int) × (List (Int) × List ((Int × (Int × (Int × Int))))))))))} {r : (List ((Int × (Int × (List (Int) × (List (Int) × (List (Int) × List ((Int × (Int × (Int × Int)))))))))))} (h0 : psalterylaw34_of K p0 = some r) : Fn Tryd.prog 13 [.im (.slice (.pair (.int .i64) (.pair (.int .i64) (.pair (.slice (.int .i16)) (.pair (.slice (.int .u8)) (.pair (.slice (.int .u8)) (.slice (.pair (.int .i64) (.pair (.int .i64) (.pair (.int .i64) (.int .u32))))))))))) p0] [] (psalterylaw34_of.res p0 r) (psalterylaw34_of.out p0 r) := by
  refine Fn_of Tryd.func13 rfl (Nat.le_of_ble_eq_true rfl) fun Γ => ?_
  refine TC_seq ?_
  refine TC_reg ?_
  refine TL_ev env 1 rfl ⟨tv, tv⟩ ?_
  refine TL_end ?_
  refine TE_go ?_
  refine TC_seq ?_
  refine TC_reg ?_
  refine TL_ev env 1 rfl ⟨tv, tv⟩ ?_
  refine TL_end ?_
  refine TE_go ?_
  refine TC_seq ?_
  refine TC_seq ?_
  refine TC_reg ?_
  refine TL_ev env 1 rfl ⟨tv, tv⟩ ?_
  refine TL_end ?_
  refine TE_go ?_
  obtain ⟨z1, h1, h0⟩ := bnd h0
  refine TC_cut (α := (List ((Int × (Int × (List (Int) × (List (Int) × (List (Int) × List ((Int × (Int × (Int × Int)))))))))))) (fun s => z1 = s) (fun s => [(3, .sl 10800)]) (fun s => [(10800, some (.rows (.pair (.int .i64) (.pair (.int .i64) (.pair (.slice (.int .i16)) (.pair (.slice (.int .u8)) (.pair (.slice (.int .u8)) (.slice (.pair (.int .i64) (.pair (.int .i64) (.pair (.int .i64) (.int .u32)))))))))) s))]) ?_ ?_
  · refine TC_blk ?_
    refine TC_loop (α := Int × (List ((Int × (Int × (List (Int) × (List (Int) × (List (Int) × List ((Int × (Int × (Int × Int)))))))))))) (fun n s => psalterylaw34_of.l0 K p0 n s.1 s.2 = some z1) (fun s => [(0, .im (.slice (.pair (.int .i64) (.pair (.int .i64) (.pair (.slice (.int .i16)) (.pair (.slice (.int .u8)) (.pair (.slice (.int .u8)) (.slice (.pair (.int .i64) (.pair (.int .i64) (.pair (.int .i64) (.int .u32))))))))))) p0), (3, .sl 11000), (4, .int .i64 s.1)]) (fun s => [(11000, some (.rows (.pair (.int .i64) (.pair (.int .i64) (.pair (.slice (.int .i16)) (.pair (.slice (.int .u8)) (.pair (.slice (.int .u8)) (.slice (.pair (.int .i64) (.pair (.int .i64) (.pair (.int .i64) (.int .u32)))))))))) s.2))]) K ?_ ?_
    · refine TE_own 3 7003 (.pair (.int .i64) (.pair (.int .i64) (.pair (.slice (.int .i16)) (.pair (.slice (.int .u8)) (.pair (.slice (.int .u8)) (.slice (.pair (.int .i64) (.pair (.int .i64) (.pair (.int .i64) (.int .u32)))))))))) rfl (by decide) rfl rfl ?_
      exact SP_ren [(11000, 7003)] (_, _) h1 ⟨rfl, rfl, rfl, tv⟩ ⟨rfl, tv⟩ rfl
    rintro n ⟨x21, x22⟩ h1
    rcases n with _ | n
    · exact (nsome h1).elim
    replace h1 : psalterylaw34_of.r0 K p0 (psalterylaw34_of.l0 K p0 n) x21 x22 = some z1 := h1
    refine TC_seq ?_
    refine TC_seq ?_
    refine TC_reg ?_
    refine TL_ev env 4 rfl ⟨tv, ⟨tv, ⟨⟨tv, tv⟩, ⟨⟨tv, ⟨tv, tv⟩⟩, tv⟩⟩⟩⟩ ?_
    refine TL_end ?_
    refine TE_go ?_
    refine TC_cond rfl (fun hb => ?_) (fun hb => ?_)
    · replace h1 := bif_t h1 hb
      refine TC_skip ?_
      refine TE_go ?_
      refine TC_seq ?_
      refine TC_blk ?_
      refine TC_reg ?_
      obtain ⟨g, h1⟩ := gd_t h1
      refine TL_ev env 5 rfl ⟨tv, ⟨tv, ⟨tv, ⟨⟨tv, ⟨tv, ⟨g.1, g.2⟩⟩⟩, ⟨⟨tv, tv⟩, tv⟩⟩⟩⟩⟩ ?_
      obtain ⟨r30, hr, h1⟩ := bnd h1
      refine TL_callB [] (psalterylaw30_Of.ok0 hr) psalterylaw30_Of.fnb rfl ⟨tv, ⟨tv, tv⟩⟩ rfl tv rfl ?_
      obtain ⟨g, h1⟩ := gd_t h1
      refine TL_ev env 3 rfl ⟨⟨tv, tv⟩, ⟨⟨⟨tv, ⟨tv, tv⟩⟩, g⟩, ⟨tv, tv⟩⟩⟩ ?_
      refine TL_end ?_
      refine tbn ?_
      refine TE_go ?_
      refine TC_reg ?_
      refine TL_ev env 3 rfl ⟨tv, ⟨⟨tv, ⟨tv, tv⟩⟩, ⟨tv, tv⟩⟩⟩ ?_
      refine TL_end ?_
      refine tsn ?_
      exact TE_nextr [(11000, 1018)] n (Nat.lt_succ_self n) (_, _) h1 ⟨rfl, rfl, rfl, tv⟩ ⟨rfl, tv⟩ rfl
    · replace h1 := bif_f h1 hb
      refine TC_exit ?_
      refine tsx ?_
      refine tsx ?_
      refine tbe ?_
      obtain rfl := sinj h1
      refine tsn ?_
      exact SP_ren [(10800, 11000)] _ rfl ⟨rfl, tv⟩ ⟨rfl, tv⟩ rfl
  · rintro x18 hz
    obtain rfl := hz.symm
    refine TE_go ?_
    refine TC_seq ?_
    refine TC_reg ?_
    refine TL_ev env 2 rfl ⟨tv, ⟨tv, tv⟩⟩ ?_
    refine TL_end ?_
    refine TE_go ?_
    refine TC_ret ?_
    refine TE_frz 10800 rfl ?_
    obtain rfl := sinj h0
    exact TE_ret env rfl tv tv
theorem psalterylaw34_of.ok0 {K : Nat} {p0 : List ((Int × (Int × (List (Int) × (List (Int) × (List (Int) × List ((Int × (Int × (Int × Int))))))))))} {q0 : List ((Int × (Int × (List (Int) × (List (Int) × (List (Int) × List ((Int × (Int × (Int × Int))))))))))} (h0 : psalterylaw34_of K p0 = some q0) : Fn Tryd.prog 13 [.im (.slice (.pair (.int .i64) (.pair (.int .i64) (.pair (.slice (.int .i16)) (.pair (.slice (.int .u8)) (.pair (.slice (.int .u8)) (.slice (.pair (.int .i64) (.pair (.int .i64) (.pair (.int .i64) (.int .u32))))))))))) p0] [] (.im (.slice (.pair (.int .i64) (.pair (.int .i64) (.pair (.slice (.int .i16)) (.pair (.slice (.int .u8)) (.pair (.slice (.int .u8)) (.slice (.pair (.int .i64) (.pair (.int .i64) (.pair (.int .i64) (.int .u32))))))))))) q0) [] := psalterylaw34_of.ok h0
theorem psalterylaw34_of.fnb : fnb Tryd.prog 13 = true := fnb_of Tryd.func13 rfl
theorem strings_Builder_copyCheck.ok0 {K : Nat} {p0 : List (Int)} (h0 : strings_Builder_copyCheck K p0 = some ()) : Fn Tryd.prog 47 [.p 0 0] [(0, some (.bld 65 (some 1))), (1, some (.brw 5 (.int .u8) p0))] (.tup []) [(0, some (.bld 65 (some 1))), (1, some (.brw 5 (.int .u8) p0))] := by
  exact copy_fn
theorem strings_Builder_copyCheck.fnb : fnb Tryd.prog 47 = true := fnb_of Tryd.func47 rfl
def strings_Builder_WriteString.res (_p0 : ByteArray) (_p1 : List (Int)) : Int × (List (Int)) → MV
  | (q0, _) => .tup [.int .i64 q0, .nili]
def strings_Builder_WriteString.out (_p0 : ByteArray) (_p1 : List (Int)) : Int × (List (Int)) → List (Nat × Option MObj)
  | (_, q1) => [(0, some (.bld 65 (some 1000))), (1, none), (1000, some (.brw 5 (.int .u8) q1))]
theorem strings_Builder_WriteString.ok {K : Nat} {p0 : ByteArray} {p1 : List (Int)} {r : Int × (List (Int))} (h0 : strings_Builder_WriteString K p0 p1 = some r) : Fn Tryd.prog 22 [.p 0 0, .str p0] [(0, some (.bld 65 (some 1))), (1, some (.brw 5 (.int .u8) p1))] (strings_Builder_WriteString.res p0 p1 r) (strings_Builder_WriteString.out p0 p1 r) := by
  refine Fn_of Tryd.func22 rfl (Nat.le_of_ble_eq_true rfl) fun Γ => ?_
  refine TC_seq ?_
  refine TC_reg ?_
  refine TL_ev env 2 rfl ⟨tv, ⟨tv, tv⟩⟩ ?_
  refine TL_end ?_
  refine TE_go ?_
  refine TC_seq ?_
  refine TC_reg ?_
  refine TL_ev env 1 rfl ⟨tv, tv⟩ ?_
  obtain ⟨⟨⟩, hr, h0⟩ := bnd h0
  refine TL_callB [(0, 0), (1, 1)] (strings_Builder_copyCheck.ok0 hr) strings_Builder_copyCheck.fnb rfl ⟨tv, ⟨tv, tv⟩⟩ rfl ⟨.inr rfl, .inr rfl, tv⟩ rfl ?_
  refine TL_end ?_
  refine TE_go ?_
  refine TC_seq ?_
  refine TC_reg ?_
  obtain ⟨g, h0⟩ := gd_t h0
  refine TL_ev env 10 rfl ⟨tv, ⟨tv, ⟨tv, ⟨tv, ⟨⟨tv, tv⟩, ⟨tv, ⟨⟨⟨tv, ⟨tv, tv⟩⟩, g⟩, ⟨tv, ⟨tv, ⟨⟨tv, tv⟩, tv⟩⟩⟩⟩⟩⟩⟩⟩⟩⟩ ?_
  refine TL_end ?_
  refine TE_go ?_
  refine TC_seq ?_
  refine TC_reg ?_
  refine TL_ev env 4 rfl ⟨tv, ⟨⟨tv, tv⟩, ⟨tv, ⟨tv, tv⟩⟩⟩⟩ ?_
  refine TL_end ?_
  refine TE_go ?_
  refine TC_ret ?_
  obtain rfl := sinj h0
  refine TE_renw (A' := [(4, .int .i64 _), (5, .nili)]) (L' := [(0, some (.bld 65 (some 1000))), (1000, some (.brw 5 (.int .u8) _))]) [(1000, 1014)] ⟨rfl, rfl, tv⟩ ⟨rfl, rfl, tv⟩ rfl ?_
  exact TE_ret env rfl tv ⟨.inr rfl, .inl rfl, .inr rfl, tv⟩
theorem strings_Builder_WriteString.ok0 {K : Nat} {p0 : ByteArray} {p1 : List (Int)} {q0 : Int} {q1 : List (Int)} (h0 : strings_Builder_WriteString K p0 p1 = some (q0, q1)) : Fn Tryd.prog 22 [.p 0 0, .str p0] [(0, some (.bld 65 (some 1))), (1, some (.brw 5 (.int .u8) p1))] (.tup [.int .i64 q0, .nili]) [(0, some (.bld 65 (some 1000))), (1, none), (1000, some (.brw 5 (.int .u8) q1))] := strings_Builder_WriteString.ok h0
theorem strings_Builder_WriteString.fnb : fnb Tryd.prog 22 = true := fnb_of Tryd.func22 rfl
def score_number.res (_p0 : Int) : ByteArray → MV
  | q0 => .str q0
def score_number.out (_p0 : Int) : ByteArray → List (Nat × Option MObj)
  | _ => []
theorem score_number.fnb : fnb Tryd.prog 43 = true := fnb_of Tryd.func43 rfl
theorem score_number.ok {K : Nat} : ∀ {p0 : Int} {r : ByteArray} (h0 : score_number K p0 = some r), Fn Tryd.prog 43 [.int .i64 p0] [] (score_number.res p0 r) (score_number.out p0 r) := by
  induction K with
  | zero => intro p0 r h0; exact (nsome h0).elim
  | succ K ih =>
    intro p0 r h0
    unfold score_number at h0
    refine Fn_of Tryd.func43 rfl (Nat.le_of_ble_eq_true rfl) fun Γ => ?_
    refine TC_seq ?_
    refine TC_reg ?_
    refine TL_ev env 1 rfl ⟨tv, tv⟩ ?_
    refine TL_end ?_
    refine TE_go ?_
    refine TC_seq ?_
    refine TC_seq ?_
    refine TC_reg ?_
    refine TL_ev env 2 rfl ⟨tv, ⟨⟨tv, ⟨tv, tv⟩⟩, tv⟩⟩ ?_
    refine TL_end ?_
    refine TE_go ?_
    refine TC_cond rfl (fun hb => ?_) (fun hb => ?_)
    · replace h0 := bif_t h0 hb
      refine TC_seq ?_
      refine TC_reg ?_
      refine TL_ev env 2 rfl ⟨tv, ⟨tv, tv⟩⟩ ?_
      obtain ⟨r6, hr, h0⟩ := bnd h0
      refine TL_callB [] (ih hr) score_number.fnb rfl ⟨tv, ⟨tv, tv⟩⟩ rfl tv rfl ?_
      obtain ⟨g, h0⟩ := gd_t h0
      refine TL_ev env 2 rfl ⟨⟨tv, ⟨tv, g⟩⟩, ⟨tv, tv⟩⟩ ?_
      refine TL_end ?_
      refine TE_go ?_
      refine TC_ret ?_
      refine tsr ?_
      obtain rfl := sinj h0
      exact TE_ret env rfl tv tv
    · replace h0 := bif_f h0 hb
      refine TC_skip ?_
      refine TE_go ?_
      refine TC_seq ?_
      refine TC_reg ?_
      obtain ⟨g, h0⟩ := gd_t h0
      refine TL_ev env 6 rfl ⟨tv, ⟨⟨tv, ⟨tv, (by decide)⟩⟩, ⟨⟨tv, ⟨tv, tv⟩⟩, ⟨tv, ⟨⟨tv, ⟨g.1, g.2⟩⟩, ⟨tv, tv⟩⟩⟩⟩⟩⟩ ?_
      refine TL_end ?_
      refine TE_go ?_
      refine TC_seq ?_
      refine TC_seq ?_
      refine TC_reg ?_
      refine TL_ev env 2 rfl ⟨tv, ⟨⟨tv, ⟨tv, tv⟩⟩, tv⟩⟩ ?_
      refine TL_end ?_
      refine TE_go ?_
      refine TC_cond rfl (fun hb => ?_) (fun hb => ?_)
      · replace h0 := bif_t h0 hb
        refine TC_seq ?_
        refine TC_reg ?_
        refine TL_ev env 2 rfl ⟨tv, ⟨tv, tv⟩⟩ ?_
        refine TL_end ?_
        refine TE_go ?_
        refine TC_ret ?_
        refine tsr ?_
        obtain rfl := sinj h0
        exact TE_ret env rfl tv tv
      · replace h0 := bif_f h0 hb
        refine TC_skip ?_
        refine TE_go ?_
        refine TC_seq ?_
        refine TC_reg ?_
        refine TL_ev env 2 rfl ⟨tv, ⟨⟨tv, ⟨tv, (by decide)⟩⟩, tv⟩⟩ ?_
        obtain ⟨r13, hr, h0⟩ := bnd h0
        refine TL_callB [] (ih hr) score_number.fnb rfl ⟨tv, ⟨tv, tv⟩⟩ rfl tv rfl ?_
        obtain ⟨g, h0⟩ := gd_t h0
        refine TL_ev env 3 rfl ⟨tv, ⟨⟨tv, ⟨tv, g⟩⟩, ⟨tv, tv⟩⟩⟩ ?_
        refine TL_end ?_
        refine TE_go ?_
        refine TC_ret ?_
        obtain rfl := sinj h0
        exact TE_ret env rfl tv tv
theorem score_number.ok0 {K : Nat} {p0 : Int} {q0 : ByteArray} (h0 : score_number K p0 = some q0) : Fn Tryd.prog 43 [.int .i64 p0] [] (.str q0) [] := score_number.ok h0
def strings_Builder_WriteByte.res (_p0 : Int) (_p1 : List (Int)) : (List (Int)) → MV
  | _ => .nili
def strings_Builder_WriteByte.out (_p0 : Int) (_p1 : List (Int)) : (List (Int)) → List (Nat × Option MObj)
  | q0 => [(0, some (.bld 65 (some 1000))), (1, none), (1000, some (.brw 5 (.int .u8) q0))]
theorem strings_Builder_WriteByte.ok {K : Nat} {p0 : Int} {p1 : List (Int)} {r : (List (Int))} (h0 : strings_Builder_WriteByte K p0 p1 = some r) : Fn Tryd.prog 67 [.p 0 0, .int .u8 p0] [(0, some (.bld 65 (some 1))), (1, some (.brw 5 (.int .u8) p1))] (strings_Builder_WriteByte.res p0 p1 r) (strings_Builder_WriteByte.out p0 p1 r) := by
  refine Fn_of Tryd.func67 rfl (Nat.le_of_ble_eq_true rfl) fun Γ => ?_
  refine TC_seq ?_
  refine TC_reg ?_
  refine TL_ev env 1 rfl ⟨tv, tv⟩ ?_
  refine TL_end ?_
  refine TE_go ?_
  refine TC_seq ?_
  refine TC_reg ?_
  refine TL_ev env 1 rfl ⟨tv, tv⟩ ?_
  obtain ⟨⟨⟩, hr, h0⟩ := bnd h0
  refine TL_callB [(0, 0), (1, 1)] (strings_Builder_copyCheck.ok0 hr) strings_Builder_copyCheck.fnb rfl ⟨tv, ⟨tv, tv⟩⟩ rfl ⟨.inr rfl, .inr rfl, tv⟩ rfl ?_
  refine TL_end ?_
  refine TE_go ?_
  refine TC_seq ?_
  refine TC_reg ?_
  obtain ⟨g, h0⟩ := gd_t h0
  refine TL_ev env 11 rfl ⟨tv, ⟨tv, ⟨tv, ⟨tv, ⟨⟨tv, tv⟩, ⟨tv, ⟨⟨tv, tv⟩, ⟨⟨⟨tv, ⟨tv, tv⟩⟩, g⟩, ⟨tv, ⟨tv, ⟨⟨tv, tv⟩, tv⟩⟩⟩⟩⟩⟩⟩⟩⟩⟩⟩ ?_
  refine TL_end ?_
  refine TE_go ?_
  refine TC_seq ?_
  refine TC_reg ?_
  refine TL_ev env 1 rfl ⟨tv, tv⟩ ?_
  refine TL_end ?_
  refine TE_go ?_
  refine TC_ret ?_
  obtain rfl := sinj h0
  refine TE_renw (A' := [(4, .nili)]) (L' := [(0, some (.bld 65 (some 1000))), (1000, some (.brw 5 (.int .u8) _))]) [(1000, 1014)] ⟨rfl, tv⟩ ⟨rfl, rfl, tv⟩ rfl ?_
  exact TE_ret env rfl tv ⟨.inr rfl, .inl rfl, .inr rfl, tv⟩
theorem strings_Builder_WriteByte.ok0 {K : Nat} {p0 : Int} {p1 : List (Int)} {q0 : List (Int)} (h0 : strings_Builder_WriteByte K p0 p1 = some q0) : Fn Tryd.prog 67 [.p 0 0, .int .u8 p0] [(0, some (.bld 65 (some 1))), (1, some (.brw 5 (.int .u8) p1))] (.nili) [(0, some (.bld 65 (some 1000))), (1, none), (1000, some (.brw 5 (.int .u8) q0))] := strings_Builder_WriteByte.ok h0
theorem strings_Builder_WriteByte.fnb : fnb Tryd.prog 67 = true := fnb_of Tryd.func67 rfl
theorem strings_Builder_String.ok0 {K : Nat} {p0 : List (Int)} {q0 : ByteArray} (h0 : strings_Builder_String K p0 = some q0) : Fn Tryd.prog 24 [.p 0 0] [(0, some (.bld 65 (some 1))), (1, some (.brw 5 (.int .u8) p0))] (.str q0) [(0, none), (1, none)] := by
  obtain ⟨g, h0⟩ := gd_t h0
  obtain rfl := sinj h0
  exact bstring_fn g
theorem strings_Builder_String.fnb : fnb Tryd.prog 24 = true := fnb_of Tryd.func24 rfl
def score_hex.res (_p0 : List (Int)) : ByteArray → MV
  | q0 => .str q0
def score_hex.out (_p0 : List (Int)) : ByteArray → List (Nat × Option MObj)
  | _ => []
theorem score_hex.ok {K : Nat} {p0 : List (Int)} {r : ByteArray} (h0 : score_hex K p0 = some r) : Fn Tryd.prog 44 [.im (.slice (.int .u8)) p0] [] (score_hex.res p0 r) (score_hex.out p0 r) := by
  refine Fn_of Tryd.func44 rfl (Nat.le_of_ble_eq_true rfl) fun Γ => ?_
  refine TC_seq ?_
  refine TC_reg ?_
  refine TL_ev env 1 rfl ⟨tv, tv⟩ ?_
  refine TL_end ?_
  refine TE_go ?_
  refine TC_seq ?_
  refine TC_seq ?_
  refine TC_reg ?_
  refine TL_ev env 3 rfl ⟨tv, ⟨⟨tv, tv⟩, ⟨⟨tv, ⟨tv, tv⟩⟩, tv⟩⟩⟩ ?_
  refine TL_end ?_
  refine TE_go ?_
  refine TC_cond rfl (fun hb => ?_) (fun hb => ?_)
  · replace h0 := bif_t h0 hb
    refine TC_seq ?_
    refine TC_reg ?_
    refine TL_ev env 1 rfl ⟨tv, tv⟩ ?_
    refine TL_end ?_
    refine TE_go ?_
    refine TC_ret ?_
    refine tsr ?_
    obtain rfl := sinj h0
    exact TE_ret env rfl tv tv
  · replace h0 := bif_f h0 hb
    refine TC_skip ?_
    refine TE_go ?_
    refine TC_seq ?_
    refine TC_reg ?_
    refine TL_ev env 1 rfl ⟨tv, tv⟩ ?_
    refine TL_ownB 1003 650030 5 (.int .u8) rfl (by decide) rfl rfl ?_
    refine TL_end ?_
    refine TE_go ?_
    refine TC_seq ?_
    refine TC_seq ?_
    refine TC_reg ?_
    refine TL_ev env 3 rfl ⟨tv, ⟨⟨tv, tv⟩, ⟨tv, tv⟩⟩⟩ ?_
    refine TL_end ?_
    refine TE_go ?_
    obtain ⟨z1, h1, h0⟩ := bnd h0
    refine TC_cut (α := (List (Int))) (fun s => z1 = s) (fun s => [(3, .p 10800 0)]) (fun s => [(10800, some (.bld 65 (some 10801))), (10801, some (.brw 5 (.int .u8) s))]) ?_ ?_
    · refine TC_blk ?_
      refine TC_loop (α := Int × (List (Int))) (fun n s => score_hex.l0 K p0 (p0.length : Int) n s.1 s.2 = some z1) (fun s => [(3, .p 11000 0), (9, .im (.slice (.int .u8)) p0), (10, .int .i64 (p0.length : Int)), (11, .int .i64 s.1)]) (fun s => [(11000, some (.bld 65 (some 11001))), (11001, some (.brw 5 (.int .u8) s.2))]) K ?_ ?_
      · exact SP_ren [(11000, 1003), (11001, 650030)] (_, _) h1 ⟨rfl, rfl, rfl, rfl, tv⟩ ⟨rfl, rfl, tv⟩ rfl
      rintro n ⟨x34, x35⟩ h1
      rcases n with _ | n
      · exact (nsome h1).elim
      replace h1 : score_hex.r0 K p0 (p0.length : Int) (score_hex.l0 K p0 (p0.length : Int) n) x34 x35 = some z1 := h1
      refine TC_seq ?_
      refine TC_reg ?_
      refine TL_ev env 1 rfl ⟨⟨tv, ⟨tv, tv⟩⟩, tv⟩ ?_
      refine TL_end ?_
      refine TE_go ?_
      refine TC_seq ?_
      refine TC_cond rfl (fun hb => ?_) (fun hb => ?_)
      · replace h1 := bif_t h1 hb
        refine TC_skip ?_
        refine TE_go ?_
        refine TC_seq ?_
        refine TC_blk ?_
        refine TC_seq ?_
        refine TC_reg ?_
        obtain ⟨g, h1⟩ := gd_t h1
        refine TL_ev env 3 rfl ⟨⟨tv, ⟨tv, ⟨g.1, g.2⟩⟩⟩, ⟨⟨tv, tv⟩, ⟨tv, tv⟩⟩⟩ ?_
        refine TL_end ?_
        refine TE_go ?_
        refine TC_seq ?_
        refine TC_reg ?_
        obtain ⟨g, h1⟩ := gd_t h1
        refine TL_ev env 3 rfl ⟨tv, ⟨⟨tv, ⟨tv, (by decide)⟩⟩, ⟨⟨tv, ⟨tv, ⟨g.1, g.2⟩⟩⟩, tv⟩⟩⟩ ?_
        obtain ⟨r48, hr, h1⟩ := bnd h1
        refine TL_callB [(0, 11000), (1, 11001), (1000, 500180)] (strings_Builder_WriteByte.ok0 hr) strings_Builder_WriteByte.fnb rfl ⟨tv, ⟨tv, ⟨tv, tv⟩⟩⟩ rfl ⟨.inr rfl, .inr rfl, tv⟩ rfl ?_
        refine TL_end ?_
        refine TE_go ?_
        refine TC_reg ?_
        obtain ⟨g, h1⟩ := gd_t h1
        refine TL_ev env 3 rfl ⟨tv, ⟨⟨tv, ⟨tv, tv⟩⟩, ⟨⟨tv, ⟨tv, ⟨g.1, g.2⟩⟩⟩, tv⟩⟩⟩ ?_
        obtain ⟨r51, hr, h1⟩ := bnd h1
        refine TL_callB [(0, 11000), (1, 500180), (1000, 500220)] (strings_Builder_WriteByte.ok0 hr) strings_Builder_WriteByte.fnb rfl ⟨tv, ⟨tv, ⟨tv, tv⟩⟩⟩ rfl ⟨.inr rfl, .inr rfl, tv⟩ rfl ?_
        refine TL_end ?_
        refine tbn ?_
        refine TE_go ?_
        refine TC_reg ?_
        refine TL_ev env 2 rfl ⟨⟨tv, ⟨tv, tv⟩⟩, ⟨tv, tv⟩⟩ ?_
        refine TL_end ?_
        refine tsn ?_
        exact TE_nextr [(11000, 11000), (11001, 500220)] n (Nat.lt_succ_self n) (_, _) h1 ⟨rfl, rfl, rfl, rfl, tv⟩ ⟨rfl, rfl, tv⟩ rfl
      · replace h1 := bif_f h1 hb
        refine TC_exit ?_
        refine tsx ?_
        refine tsx ?_
        refine tbe ?_
        obtain rfl := sinj h1
        refine tsn ?_
        exact SP_ren [(10800, 11000), (10801, 11001)] _ rfl ⟨rfl, tv⟩ ⟨rfl, rfl, tv⟩ rfl
    · rintro x28 hz
      obtain rfl := hz.symm
      refine TE_go ?_
      refine TC_seq ?_
      refine TC_reg ?_
      obtain ⟨r29, hr, h0⟩ := bnd h0
      refine TL_callB [(0, 10800), (1, 10801)] (strings_Builder_String.ok0 hr) strings_Builder_String.fnb rfl ⟨tv, ⟨tv, tv⟩⟩ rfl ⟨.inr rfl, .inr rfl, tv⟩ rfl ?_
      refine TL_ev env 1 rfl ⟨tv, tv⟩ ?_
      refine TL_end ?_
      refine TE_go ?_
      refine TC_ret ?_
      obtain rfl := sinj h0
      exact TE_ret env rfl tv tv
theorem score_hex.ok0 {K : Nat} {p0 : List (Int)} {q0 : ByteArray} (h0 : score_hex K p0 = some q0) : Fn Tryd.prog 44 [.im (.slice (.int .u8)) p0] [] (.str q0) [] := score_hex.ok h0
theorem score_hex.fnb : fnb Tryd.prog 44 = true := fnb_of Tryd.func44 rfl
def score_token.res (_p0 : Int) (_p1 : Int) (_p2 : Int) (_p3 : Int) : ByteArray × Bool → MV
  | (q0, q1) => .tup [.str q0, .bool q1]
def score_token.out (_p0 : Int) (_p1 : Int) (_p2 : Int) (_p3 : Int) : ByteArray × Bool → List (Nat × Option MObj)
  | (_, _) => []
theorem score_token.ok {K : Nat} {p0 : Int} {p1 : Int} {p2 : Int} {p3 : Int} {r : ByteArray × Bool} (h0 : score_token K p0 p1 p2 p3 = some r) : Fn Tryd.prog 45 [.agg [.int .i64 p0, .int .i64 p1, .int .i64 p2, .int .u32 p3]] [] (score_token.res p0 p1 p2 p3 r) (score_token.out p0 p1 p2 p3 r) := by
  refine Fn_of Tryd.func45 rfl (Nat.le_of_ble_eq_true rfl) fun Γ => ?_
  refine TC_seq ?_
  refine TC_reg ?_
  refine TL_ev env 3 rfl ⟨tv, ⟨tv, ⟨tv, tv⟩⟩⟩ ?_
  refine TL_end ?_
  refine TE_go ?_
  refine TC_seq ?_
  refine TC_seq ?_
  refine TC_reg ?_
  refine TL_ev env 1 rfl ⟨⟨tv, tv⟩, tv⟩ ?_
  refine TL_end ?_
  refine TE_go ?_
  refine TC_blk ?_
  refine TC_seq ?_
  refine TC_reg ?_
  refine TL_ev env 3 rfl ⟨tv, ⟨⟨tv, ⟨tv, tv⟩⟩, ⟨tv, tv⟩⟩⟩ ?_
  refine TL_end ?_
  refine TE_go ?_
  refine TC_cond rfl (fun hb => ?_) (fun hb => ?_)
  · replace h0 := bif_t h0 hb
    refine TC_seq ?_
    refine TC_reg ?_
    refine TL_ev env 2 rfl ⟨tv, ⟨tv, tv⟩⟩ ?_
    refine TL_end ?_
    refine TE_go ?_
    refine TC_ret ?_
    refine tbr ?_
    refine tsr ?_
    obtain rfl := sinj h0
    exact TE_ret env rfl tv tv
  · replace h0 := bif_f h0 hb
    refine TC_seq ?_
    refine TC_reg ?_
    refine TL_ev env 3 rfl ⟨⟨tv, tv⟩, ⟨⟨tv, ⟨tv, tv⟩⟩, ⟨tv, tv⟩⟩⟩ ?_
    refine TL_end ?_
    refine TE_go ?_
    refine TC_cond rfl (fun hb => ?_) (fun hb => ?_)
    · replace h0 := bif_t h0 hb
      refine TC_seq ?_
      refine TC_reg ?_
      refine TL_ev env 2 rfl ⟨tv, ⟨tv, tv⟩⟩ ?_
      refine TL_end ?_
      refine TE_go ?_
      refine TC_ret ?_
      refine tbr ?_
      refine tsr ?_
      obtain rfl := sinj h0
      exact TE_ret env rfl tv tv
    · replace h0 := bif_f h0 hb
      refine TC_seq ?_
      refine TC_reg ?_
      refine TL_ev env 3 rfl ⟨⟨tv, tv⟩, ⟨⟨tv, ⟨tv, tv⟩⟩, ⟨tv, tv⟩⟩⟩ ?_
      refine TL_end ?_
      refine TE_go ?_
      refine TC_cond rfl (fun hb => ?_) (fun hb => ?_)
      · replace h0 := bif_t h0 hb
        refine TC_seq ?_
        refine TC_reg ?_
        refine TL_ev env 2 rfl ⟨tv, ⟨tv, tv⟩⟩ ?_
        refine TL_end ?_
        refine TE_go ?_
        refine TC_ret ?_
        refine tbr ?_
        refine tsr ?_
        obtain rfl := sinj h0
        exact TE_ret env rfl tv tv
      · replace h0 := bif_f h0 hb
        refine TC_skip ?_
        refine tbn ?_
        refine TE_go ?_
        refine TC_seq ?_
        refine TC_reg ?_
        refine TL_ev env 1 rfl ⟨tv, tv⟩ ?_
        refine TL_end ?_
        refine TE_go ?_
        refine TC_seq ?_
        refine TC_seq ?_
        refine TC_reg ?_
        refine TL_ev env 8 rfl ⟨tv, ⟨⟨tv, tv⟩, ⟨tv, ⟨⟨tv, tv⟩, ⟨tv, ⟨⟨tv, tv⟩, ⟨⟨tv, ⟨tv, ⟨tv, tv⟩⟩⟩, ⟨tv, tv⟩⟩⟩⟩⟩⟩⟩⟩ ?_
        refine TL_end ?_
        refine TE_go ?_
        obtain ⟨z1, h1, h0⟩ := bnd h0
        refine TC_cut (α := ByteArray) (fun s => z1 = .inl s) (fun s => [(1, .p 10800 0), (4, .str s)]) (fun s => [(10800, some (.cells [.int .i64 p0, .int .i64 p1, .int .i64 p2, .int .u32 p3]))]) ?_ ?_
        · refine TC_blk ?_
          refine TC_loop (α := ByteArray × Int) (fun n s => score_token.l0 K p0 p1 p2 p3 n s.1 s.2 = some z1) (fun s => [(1, .p 11000 0), (4, .str s.1), (23, .agg [.int .i64 p0, .int .i64 p1, .int .i64 p2]), (24, .int .i64 s.2)]) (fun s => [(11000, some (.cells [.int .i64 p0, .int .i64 p1, .int .i64 p2, .int .u32 p3]))]) K ?_ ?_
          · exact SP_ren [(11000, 1001)] (_, _) h1 ⟨rfl, rfl, rfl, rfl, tv⟩ ⟨rfl, tv⟩ rfl
          rintro n ⟨x26, x27⟩ h1
          rcases n with _ | n
          · exact (nsome h1).elim
          replace h1 : score_token.r0 K p0 p1 p2 p3 (score_token.l0 K p0 p1 p2 p3 n) x26 x27 = some z1 := h1
          refine TC_seq ?_
          refine TC_reg ?_
          refine TL_ev env 1 rfl ⟨⟨tv, ⟨tv, tv⟩⟩, tv⟩ ?_
          refine TL_end ?_
          refine TE_go ?_
          refine TC_seq ?_
          refine TC_cond rfl (fun hb => ?_) (fun hb => ?_)
          · replace h1 := bif_t h1 hb
            refine TC_skip ?_
            refine TE_go ?_
            refine TC_seq ?_
            refine TC_blk ?_
            refine TC_seq ?_
            refine TC_reg ?_
            obtain ⟨g, h1⟩ := gd_t h1
            refine TL_ev env 2 rfl ⟨⟨tv, ⟨tv, ⟨g.1, g.2⟩⟩⟩, ⟨tv, tv⟩⟩ ?_
            refine TL_end ?_
            refine TE_go ?_
            refine TC_seq ?_
            refine TC_seq ?_
            refine TC_reg ?_
            refine TL_ev env 6 rfl ⟨tv, ⟨⟨tv, ⟨tv, tv⟩⟩, ⟨tv, ⟨fun eg => tv, ⟨fun eg => ⟨fun e => e, ⟨tv, tv⟩⟩, ⟨⟨tv, ⟨tv, fun e => e⟩⟩, tv⟩⟩⟩⟩⟩⟩ ?_
            refine TL_end ?_
            refine TE_go ?_
            refine TC_cond rfl (fun hb => ?_) (fun hb => ?_)
            · replace h1 := bif_t h1 hb
              refine TC_seq ?_
              refine TC_reg ?_
              refine TL_ev env 2 rfl ⟨tv, ⟨tv, tv⟩⟩ ?_
              refine TL_end ?_
              refine TE_go ?_
              refine TC_ret ?_
              refine tsr ?_
              refine tbr ?_
              refine tsr ?_
              refine tsr ?_
              refine tbr ?_
              refine tsr ?_
              refine tsr ?_
              obtain rfl := sinj h1
              obtain rfl := sinj h0
              exact TE_ret env rfl tv tv
            · replace h1 := bif_f h1 hb
              refine TC_skip ?_
              refine TE_go ?_
              refine TC_reg ?_
              refine TL_ev env 2 rfl ⟨tv, ⟨tv, tv⟩⟩ ?_
              obtain ⟨r38, hr, h1⟩ := bnd h1
              refine TL_callB [] (score_number.ok0 hr) score_number.fnb rfl ⟨tv, ⟨tv, tv⟩⟩ rfl tv rfl ?_
              obtain ⟨g, h1⟩ := gd_t h1
              refine TL_ev env 3 rfl ⟨⟨tv, ⟨tv, g.1⟩⟩, ⟨⟨tv, ⟨tv, g.2⟩⟩, ⟨tv, tv⟩⟩⟩ ?_
              refine TL_end ?_
              refine tbn ?_
              refine TE_go ?_
              refine TC_reg ?_
              refine TL_ev env 2 rfl ⟨⟨tv, ⟨tv, tv⟩⟩, ⟨tv, tv⟩⟩ ?_
              refine TL_end ?_
              refine tsn ?_
              exact TE_nextr [(11000, 11000)] n (Nat.lt_succ_self n) (_, _) h1 ⟨rfl, rfl, rfl, rfl, tv⟩ ⟨rfl, tv⟩ rfl
          · replace h1 := bif_f h1 hb
            refine TC_exit ?_
            refine tsx ?_
            refine tsx ?_
            refine tbe ?_
            obtain rfl := sinj h1
            refine tsn ?_
            exact SP_ren [(10800, 11000)] _ rfl ⟨rfl, rfl, tv⟩ ⟨rfl, tv⟩ rfl
        · rintro x22 hz
          obtain rfl := hz.symm
          refine TE_go ?_
          refine TC_seq ?_
          refine TC_reg ?_
          refine TL_ev env 4 rfl ⟨tv, ⟨tv, ⟨⟨tv, tv⟩, ⟨tv, tv⟩⟩⟩⟩ ?_
          obtain ⟨r23, hr, h0⟩ := bnd h0
          refine TL_callB [] (score_number.ok0 hr) score_number.fnb rfl ⟨tv, ⟨tv, tv⟩⟩ rfl tv rfl ?_
          obtain ⟨g, h0⟩ := gd_t h0
          refine TL_ev env 3 rfl ⟨⟨tv, ⟨tv, g⟩⟩, ⟨tv, ⟨tv, tv⟩⟩⟩ ?_
          refine TL_end ?_
          refine TE_go ?_
          refine TC_ret ?_
          obtain rfl := sinj h0
          exact TE_ret env rfl tv tv
theorem score_token.ok0 {K : Nat} {p0 : Int} {p1 : Int} {p2 : Int} {p3 : Int} {q0 : ByteArray} {q1 : Bool} (h0 : score_token K p0 p1 p2 p3 = some (q0, q1)) : Fn Tryd.prog 45 [.agg [.int .i64 p0, .int .i64 p1, .int .i64 p2, .int .u32 p3]] [] (.tup [.str q0, .bool q1]) [] := score_token.ok h0
theorem score_token.fnb : fnb Tryd.prog 45 = true := fnb_of Tryd.func45 rfl
def score_bare.res (_p0 : Int) (_p1 : Int) (_p2 : List (Int)) (_p3 : List (Int)) (_p4 : List (Int)) (_p5 : List ((Int × (Int × (Int × Int))))) : Bool → MV
  | q0 => .bool q0
def score_bare.out (_p0 : Int) (_p1 : Int) (_p2 : List (Int)) (_p3 : List (Int)) (_p4 : List (Int)) (_p5 : List ((Int × (Int × (Int × Int))))) : Bool → List (Nat × Option MObj)
  | _ => []
theorem score_bare.ok {K : Nat} {p0 : Int} {p1 : Int} {p2 : List (Int)} {p3 : List (Int)} {p4 : List (Int)} {p5 : List ((Int × (Int × (Int × Int))))} {r : Bool} (h0 : score_bare K p0 p1 p2 p3 p4 p5 = some r) : Fn Tryd.prog 46 [.agg [.int .i64 p0, .int .i64 p1, .im (.slice (.int .i16)) p2, .im (.slice (.int .u8)) p3, .im (.slice (.int .u8)) p4, .im (.slice (.pair (.int .i64) (.pair (.int .i64) (.pair (.int .i64) (.int .u32))))) p5]] [] (score_bare.res p0 p1 p2 p3 p4 p5 r) (score_bare.out p0 p1 p2 p3 p4 p5 r) := by
  refine Fn_of Tryd.func46 rfl (Nat.le_of_ble_eq_true rfl) fun Γ => ?_
  refine TC_seq ?_
  refine TC_reg ?_
  refine TL_ev env 2 rfl ⟨tv, ⟨tv, tv⟩⟩ ?_
  refine TL_end ?_
  refine TE_go ?_
  refine TC_seq ?_
  refine TC_reg ?_
  refine TL_ev env 46 rfl ⟨tv, ⟨⟨tv, tv⟩, ⟨⟨tv, ⟨tv, tv⟩⟩, ⟨tv, ⟨fun eg => tv, ⟨fun eg => ⟨fun e => e, tv⟩, ⟨fun eg => ⟨fun e => e, tv⟩, ⟨fun eg => ⟨fun e => e, ⟨tv, tv⟩⟩, ⟨⟨tv, ⟨tv, fun e => e⟩⟩, ⟨tv, ⟨fun eg => tv, ⟨fun eg => ⟨fun e => e, tv⟩, ⟨fun eg => ⟨fun e => e, ⟨tv, tv⟩⟩, ⟨fun eg => fun e => e, ⟨fun eg => tv, ⟨fun eg => ⟨fun e => e, tv⟩, ⟨fun eg => ⟨fun e => e, ⟨tv, tv⟩⟩, ⟨fun eg => ⟨fun e => e, ⟨tv, ((by decide : ∀ b0 b1 b2 : Bool, (bif b1 then true else b2) = true → (!b0) = true → ((bif b1 then true else b2) && (!b0)) = true) _ _ _ eg)⟩⟩, ⟨⟨tv, ⟨fun e => e, tv⟩⟩, ⟨tv, ⟨fun eg => tv, ⟨fun eg => ⟨fun e => e, tv⟩, ⟨fun eg => ⟨fun e => e, ⟨tv, tv⟩⟩, ⟨fun eg => fun e => e, ⟨fun eg => tv, ⟨fun eg => ⟨fun e => e, tv⟩, ⟨fun eg => ⟨fun e => e, tv⟩, ⟨fun eg => tv, ⟨fun eg => ⟨fun e => e, tv⟩, ⟨fun eg => ⟨fun e => e, tv⟩, ⟨fun eg => ⟨fun e => e, ⟨fun e => e, tv⟩⟩, ⟨fun eg => ⟨fun e => e, ⟨tv, tv⟩⟩, ⟨fun eg => ⟨fun e => e, ⟨tv, ((by decide : ∀ b0 b1 b2 b3 b4 : Bool, (bif (bif b1 then true else b2) then (bif b3 then true else b4) else false) = true → (!b0) = true → ((bif (bif b1 then true else b2) then (bif b3 then true else b4) else false) && (!b0)) = true) _ _ _ _ _ eg)⟩⟩, ⟨⟨tv, ⟨fun e => e, tv⟩⟩, ⟨tv, ⟨fun eg => tv, ⟨fun eg => ⟨fun e => e, tv⟩, ⟨fun eg => ⟨fun e => e, ⟨tv, tv⟩⟩, ⟨fun eg => fun e => e, ⟨fun eg => tv, ⟨fun eg => ⟨fun e => e, tv⟩, ⟨fun eg => ⟨fun e => e, tv⟩, ⟨fun eg => ⟨fun e => e, ⟨tv, tv⟩⟩, ⟨fun eg => ⟨fun e => e, ⟨tv, ((by decide : ∀ b0 b1 b2 b3 b4 b5 b6 : Bool, (bif (bif (bif b1 then true else b2) then (bif b3 then true else b4) else false) then (bif b5 then true else b6) else false) = true → (!b0) = true → ((bif (bif (bif b1 then true else b2) then (bif b3 then true else b4) else false) then (bif b5 then true else b6) else false) && (!b0)) = true) _ _ _ _ _ _ _ eg)⟩⟩, ⟨⟨tv, ⟨fun e => e, tv⟩⟩, ⟨tv, tv⟩⟩⟩⟩⟩⟩⟩⟩⟩⟩⟩⟩⟩⟩⟩⟩⟩⟩⟩⟩⟩⟩⟩⟩⟩⟩⟩⟩⟩⟩⟩⟩⟩⟩⟩⟩⟩⟩⟩⟩⟩⟩⟩⟩⟩⟩ ?_
  refine TL_end ?_
  refine TE_go ?_
  refine TC_ret ?_
  obtain rfl := sinj h0
  exact TE_ret env rfl tv tv
theorem score_bare.ok0 {K : Nat} {p0 : Int} {p1 : Int} {p2 : List (Int)} {p3 : List (Int)} {p4 : List (Int)} {p5 : List ((Int × (Int × (Int × Int))))} {q0 : Bool} (h0 : score_bare K p0 p1 p2 p3 p4 p5 = some q0) : Fn Tryd.prog 46 [.agg [.int .i64 p0, .int .i64 p1, .im (.slice (.int .i16)) p2, .im (.slice (.int .u8)) p3, .im (.slice (.int .u8)) p4, .im (.slice (.pair (.int .i64) (.pair (.int .i64) (.pair (.int .i64) (.int .u32))))) p5]] [] (.bool q0) [] := score_bare.ok h0
theorem score_bare.fnb : fnb Tryd.prog 46 = true := fnb_of Tryd.func46 rfl
def score_told.res (_p0 : Int) (_p1 : Int) (_p2 : List (Int)) (_p3 : List (Int)) (_p4 : List (Int)) (_p5 : List ((Int × (Int × (Int × Int))))) : ByteArray × Bool → MV
  | (q0, q1) => .tup [.str q0, .bool q1]
def score_told.out (_p0 : Int) (_p1 : Int) (_p2 : List (Int)) (_p3 : List (Int)) (_p4 : List (Int)) (_p5 : List ((Int × (Int × (Int × Int))))) : ByteArray × Bool → List (Nat × Option MObj)
  | (_, _) => []
theorem score_told.ok {K : Nat} {p0 : Int} {p1 : Int} {p2 : List (Int)} {p3 : List (Int)} {p4 : List (Int)} {p5 : List ((Int × (Int × (Int × Int))))} {r : ByteArray × Bool} (h0 : score_told K p0 p1 p2 p3 p4 p5 = some r) : Fn Tryd.prog 21 [.agg [.int .i64 p0, .int .i64 p1, .im (.slice (.int .i16)) p2, .im (.slice (.int .u8)) p3, .im (.slice (.int .u8)) p4, .im (.slice (.pair (.int .i64) (.pair (.int .i64) (.pair (.int .i64) (.int .u32))))) p5]] [] (score_told.res p0 p1 p2 p3 p4 p5 r) (score_told.out p0 p1 p2 p3 p4 p5 r) := by
  refine Fn_of Tryd.func21 rfl (Nat.le_of_ble_eq_true rfl) fun Γ => ?_
  refine TC_seq ?_
  refine TC_reg ?_
  refine TL_ev env 3 rfl ⟨tv, ⟨tv, ⟨tv, tv⟩⟩⟩ ?_
  refine TL_end ?_
  refine TE_go ?_
  refine TC_seq ?_
  refine TC_reg ?_
  refine TL_ev env 1 rfl ⟨tv, tv⟩ ?_
  refine TL_ownB 1004 650040 5 (.int .u8) rfl (by decide) rfl rfl ?_
  refine TL_end ?_
  refine TE_go ?_
  refine TC_seq ?_
  refine TC_seq ?_
  refine TC_reg ?_
  refine TL_ev env 2 rfl ⟨tv, ⟨⟨tv, tv⟩, tv⟩⟩ ?_
  refine TL_end ?_
  refine TE_go ?_
  obtain ⟨z1, h1, h0⟩ := bnd h0
  refine TC_cut (α := (List (Int))) (fun s => z1 = .inl s) (fun s => [(1, .p 11800 0), (4, .p 11801 0)]) (fun s => [(11800, some (.cells [.int .i64 p0, .int .i64 p1, .im (.slice (.int .i16)) p2, .im (.slice (.int .u8)) p3, .im (.slice (.int .u8)) p4, .im (.slice (.pair (.int .i64) (.pair (.int .i64) (.pair (.int .i64) (.int .u32))))) p5])), (11801, some (.bld 65 (some 11802))), (11802, some (.brw 5 (.int .u8) s))]) ?_ ?_
  · refine TC_blk ?_
    refine TC_seq ?_
    refine TC_reg ?_
    refine TL_ev env 2 rfl ⟨⟨tv, ⟨tv, tv⟩⟩, ⟨tv, tv⟩⟩ ?_
    refine TL_end ?_
    refine TE_go ?_
    refine TC_cond rfl (fun hb => ?_) (fun hb => ?_)
    · replace h1 := bif_t h1 hb
      refine TC_seq ?_
      refine TC_reg ?_
      obtain ⟨⟨r109, r110⟩, hr, h1⟩ := bnd h1
      refine TL_callB [(0, 1004), (1, 650040), (1000, 500150)] (strings_Builder_WriteString.ok0 hr) strings_Builder_WriteString.fnb rfl ⟨tv, ⟨tv, ⟨tv, tv⟩⟩⟩ rfl ⟨.inr rfl, .inr rfl, tv⟩ rfl ?_
      refine TL_end ?_
      refine TE_go ?_
      refine TC_seq ?_
      refine TC_reg ?_
      refine TL_ev env 4 rfl ⟨tv, ⟨⟨tv, tv⟩, ⟨⟨tv, tv⟩, ⟨tv, tv⟩⟩⟩⟩ ?_
      refine TL_end ?_
      refine TE_go ?_
      obtain ⟨z2, h2, h1⟩ := bnd h1
      refine TC_cut (α := (List (Int))) (fun s => z2 = s) (fun s => [(1, .p 12200 0), (4, .p 12201 0)]) (fun s => [(12200, some (.cells [.int .i64 p0, .int .i64 p1, .im (.slice (.int .i16)) p2, .im (.slice (.int .u8)) p3, .im (.slice (.int .u8)) p4, .im (.slice (.pair (.int .i64) (.pair (.int .i64) (.pair (.int .i64) (.int .u32))))) p5])), (12201, some (.bld 65 (some 12202))), (12202, some (.brw 5 (.int .u8) s))]) ?_ ?_
      · refine TC_blk ?_
        refine TC_loop (α := Int × (List (Int))) (fun n s => score_told.l0 K p2 (p2.length : Int) p0 p1 p3 p4 p5 n s.1 s.2 = some z2) (fun s => [(1, .p 12400 0), (4, .p 12401 0), (17, .im (.slice (.int .i16)) p2), (18, .int .i64 (p2.length : Int)), (19, .int .i64 s.1)]) (fun s => [(12400, some (.cells [.int .i64 p0, .int .i64 p1, .im (.slice (.int .i16)) p2, .im (.slice (.int .u8)) p3, .im (.slice (.int .u8)) p4, .im (.slice (.pair (.int .i64) (.pair (.int .i64) (.pair (.int .i64) (.int .u32))))) p5])), (12401, some (.bld 65 (some 12402))), (12402, some (.brw 5 (.int .u8) s.2))]) K ?_ ?_
        · exact SP_ren [(12400, 1001), (12401, 1004), (12402, 500150)] (_, _) h2 ⟨rfl, rfl, rfl, rfl, rfl, tv⟩ ⟨rfl, rfl, rfl, tv⟩ rfl
        rintro n ⟨x134, x135⟩ h2
        rcases n with _ | n
        · exact (nsome h2).elim
        replace h2 : score_told.r0 K p2 (p2.length : Int) p0 p1 p3 p4 p5 (score_told.l0 K p2 (p2.length : Int) p0 p1 p3 p4 p5 n) x134 x135 = some z2 := h2
        refine TC_seq ?_
        refine TC_reg ?_
        refine TL_ev env 1 rfl ⟨⟨tv, ⟨tv, tv⟩⟩, tv⟩ ?_
        refine TL_end ?_
        refine TE_go ?_
        refine TC_seq ?_
        refine TC_cond rfl (fun hb => ?_) (fun hb => ?_)
        · replace h2 := bif_t h2 hb
          refine TC_skip ?_
          refine TE_go ?_
          refine TC_seq ?_
          refine TC_blk ?_
          refine TC_seq ?_
          refine TC_reg ?_
          obtain ⟨g, h2⟩ := gd_t h2
          refine TL_ev env 3 rfl ⟨⟨tv, ⟨tv, ⟨g.1, g.2⟩⟩⟩, ⟨⟨tv, tv⟩, ⟨tv, tv⟩⟩⟩ ?_
          refine TL_end ?_
          refine TE_go ?_
          refine TC_reg ?_
          refine TL_ev env 2 rfl ⟨tv, ⟨tv, tv⟩⟩ ?_
          obtain ⟨r150, hr, h2⟩ := bnd h2
          refine TL_callB [] (score_number.ok0 hr) score_number.fnb rfl ⟨tv, ⟨tv, tv⟩⟩ rfl tv rfl ?_
          obtain ⟨g, h2⟩ := gd_t h2
          refine TL_ev env 1 rfl ⟨⟨tv, ⟨tv, g⟩⟩, tv⟩ ?_
          obtain ⟨⟨r152, r153⟩, hr, h2⟩ := bnd h2
          refine TL_callB [(0, 12401), (1, 12402), (1000, 500270)] (strings_Builder_WriteString.ok0 hr) strings_Builder_WriteString.fnb rfl ⟨tv, ⟨tv, ⟨tv, tv⟩⟩⟩ rfl ⟨.inr rfl, .inr rfl, tv⟩ rfl ?_
          refine TL_end ?_
          refine tbn ?_
          refine TE_go ?_
          refine TC_reg ?_
          refine TL_ev env 2 rfl ⟨⟨tv, ⟨tv, tv⟩⟩, ⟨tv, tv⟩⟩ ?_
          refine TL_end ?_
          refine tsn ?_
          exact TE_nextr [(12400, 12400), (12401, 12401), (12402, 500270)] n (Nat.lt_succ_self n) (_, _) h2 ⟨rfl, rfl, rfl, rfl, rfl, tv⟩ ⟨rfl, rfl, rfl, tv⟩ rfl
        · replace h2 := bif_f h2 hb
          refine TC_exit ?_
          refine tsx ?_
          refine tsx ?_
          refine tbe ?_
          obtain rfl := sinj h2
          refine tsn ?_
          exact SP_ren [(12200, 12400), (12201, 12401), (12202, 12402)] _ rfl ⟨rfl, rfl, tv⟩ ⟨rfl, rfl, rfl, tv⟩ rfl
      · rintro x127 hz
        obtain rfl := hz.symm
        refine tbn ?_
        obtain rfl := sinj h1
        refine tsn ?_
        exact SP_ren [(11800, 12200), (11801, 12201), (11802, 12202)] _ rfl ⟨rfl, rfl, tv⟩ ⟨rfl, rfl, rfl, tv⟩ rfl
    · replace h1 := bif_f h1 hb
      refine TC_seq ?_
      refine TC_reg ?_
      refine TL_ev env 2 rfl ⟨⟨tv, ⟨tv, tv⟩⟩, ⟨tv, tv⟩⟩ ?_
      refine TL_end ?_
      refine TE_go ?_
      refine TC_cond rfl (fun hb => ?_) (fun hb => ?_)
      · replace h1 := bif_t h1 hb
        refine TC_reg ?_
        refine TL_ev env 4 rfl ⟨tv, ⟨⟨tv, tv⟩, ⟨⟨tv, ⟨tv, tv⟩⟩, ⟨⟨tv, ⟨tv, tv⟩⟩, tv⟩⟩⟩⟩ ?_
        obtain ⟨r156, hr, h1⟩ := bnd h1
        refine TL_callB [] (score_number.ok0 hr) score_number.fnb rfl ⟨tv, ⟨tv, tv⟩⟩ rfl tv rfl ?_
        obtain ⟨g, h1⟩ := gd_t h1
        refine TL_ev env 1 rfl ⟨⟨tv, ⟨tv, g⟩⟩, tv⟩ ?_
        obtain ⟨⟨r158, r159⟩, hr, h1⟩ := bnd h1
        refine TL_callB [(0, 1004), (1, 650040), (1000, 500370)] (strings_Builder_WriteString.ok0 hr) strings_Builder_WriteString.fnb rfl ⟨tv, ⟨tv, ⟨tv, tv⟩⟩⟩ rfl ⟨.inr rfl, .inr rfl, tv⟩ rfl ?_
        refine TL_end ?_
        refine tbn ?_
        obtain rfl := sinj h1
        refine tsn ?_
        exact SP_ren [(11800, 1001), (11801, 1004), (11802, 500370)] _ rfl ⟨rfl, rfl, tv⟩ ⟨rfl, rfl, rfl, tv⟩ rfl
      · replace h1 := bif_f h1 hb
        refine TC_seq ?_
        refine TC_reg ?_
        refine TL_ev env 2 rfl ⟨⟨tv, ⟨tv, tv⟩⟩, ⟨tv, tv⟩⟩ ?_
        refine TL_end ?_
        refine TE_go ?_
        refine TC_cond rfl (fun hb => ?_) (fun hb => ?_)
        · replace h1 := bif_t h1 hb
          refine TC_renw (A' := [(1, .p 1001 0), (4, .p 1004 0)]) (L' := [(1001, some (.cells [.int .i64 _, .int .i64 _, .im (.slice (.int .i16)) _, .im (.slice (.int .u8)) _, .im (.slice (.int .u8)) _, .im (.slice (.pair (.int .i64) (.pair (.int .i64) (.pair (.int .i64) (.int .u32))))) _])), (1004, some (.bld 65 (some 650040))), (650040, some (.brw 5 (.int .u8) _))]) [] ⟨rfl, rfl, tv⟩ ⟨rfl, rfl, rfl, tv⟩ rfl ?_
          refine TC_drawR ⟨_, fun i => ([[], [0], [1, 0], [2, 1, 0], [3, 2, 1, 0], [], [5], [6, 5, 2, 1, 0], [7, 6, 5, 4, 3, 2, 1, 0], [8, 7, 6, 5, 4, 3, 2, 1, 0]] : List (List Nat)).getD i [], fun i => ([[], [], [], [], [], [], [], [], [], [1004, 500490, 650040]] : List (List Nat)).getD i [], fun i => ([[], [], [], [], [], [], [], [], [], [500490]] : List (List Nat)).getD i []⟩ (fun i => ([[], [], [], [], [], [], [], [], [], []] : List (List Nat)).getD i []) (by kernel_rfl) (by kernel_rfl) ?_
          refine AJR_ev env 1 rfl (Nat.le_of_ble_eq_true rfl) rfl tv ?_
          refine AJR_ev env 2 rfl (Nat.le_of_ble_eq_true rfl) rfl ⟨tv, tv⟩ ?_
          obtain ⟨r160, hr, h1⟩ := bnd h1
          refine AJR_call 3 rfl (Nat.le_of_ble_eq_true rfl) [] rfl (score_hex.ok0 hr) score_hex.fnb rfl ⟨tv, ⟨tv, tv⟩⟩ rfl tv rfl ?_
          obtain ⟨g, h1⟩ := gd_t h1
          refine AJR_ev env 4 rfl (Nat.le_of_ble_eq_true rfl) rfl ⟨tv, ⟨tv, g⟩⟩ ?_
          obtain ⟨g, h1⟩ := gd_t h1
          refine AJR_ev env 5 rfl (Nat.le_of_ble_eq_true rfl) rfl ⟨tv, ⟨tv, g⟩⟩ ?_
          refine AJR_ev env 6 rfl (Nat.le_of_ble_eq_true rfl) rfl tv ?_
          refine AJR_ev env 7 rfl (Nat.le_of_ble_eq_true rfl) rfl ⟨tv, tv⟩ ?_
          obtain ⟨r163, hr, h1⟩ := bnd h1
          refine AJR_call 8 rfl (Nat.le_of_ble_eq_true rfl) [] rfl (score_hex.ok0 hr) score_hex.fnb rfl ⟨tv, ⟨tv, tv⟩⟩ rfl tv rfl ?_
          obtain ⟨g, h1⟩ := gd_t h1
          refine AJR_ev env 9 rfl (Nat.le_of_ble_eq_true rfl) rfl ⟨tv, ⟨tv, g⟩⟩ ?_
          obtain ⟨⟨r165, r166⟩, hr, h1⟩ := bnd h1
          refine AJR_call 10 rfl (Nat.le_of_ble_eq_true rfl) [(0, 1004), (1, 650040), (1000, 500490)] rfl (strings_Builder_WriteString.ok0 hr) strings_Builder_WriteString.fnb rfl ⟨tv, ⟨tv, ⟨tv, tv⟩⟩⟩ rfl ⟨.inr rfl, .inr rfl, tv⟩ rfl ?_
          refine AJR_end rfl rfl rfl ?_
          refine tbn ?_
          obtain rfl := sinj h1
          refine tsn ?_
          exact SP_ren [(11800, 1001), (11801, 1004), (11802, 500490)] _ rfl ⟨rfl, rfl, tv⟩ ⟨rfl, rfl, rfl, tv⟩ rfl
        · replace h1 := bif_f h1 hb
          refine TC_seq ?_
          refine TC_reg ?_
          refine TL_ev env 2 rfl ⟨⟨tv, ⟨tv, tv⟩⟩, ⟨tv, tv⟩⟩ ?_
          refine TL_end ?_
          refine TE_go ?_
          refine TC_cond rfl (fun hb => ?_) (fun hb => ?_)
          · replace h1 := bif_t h1 hb
            refine TC_seq ?_
            refine TC_reg ?_
            obtain ⟨⟨r167, r168⟩, hr, h1⟩ := bnd h1
            refine TL_callB [(0, 1004), (1, 650040), (1000, 500520)] (strings_Builder_WriteString.ok0 hr) strings_Builder_WriteString.fnb rfl ⟨tv, ⟨tv, ⟨tv, tv⟩⟩⟩ rfl ⟨.inr rfl, .inr rfl, tv⟩ rfl ?_
            refine TL_end ?_
            refine TE_go ?_
            refine TC_seq ?_
            refine TC_reg ?_
            refine TL_ev env 4 rfl ⟨tv, ⟨⟨tv, tv⟩, ⟨⟨tv, tv⟩, ⟨tv, tv⟩⟩⟩⟩ ?_
            refine TL_end ?_
            refine TE_go ?_
            obtain ⟨z2, h2, h1⟩ := bnd h1
            refine TC_cut (α := (List (Int))) (fun s => z2 = .inl s) (fun s => [(1, .p 12900 0), (4, .p 12901 0)]) (fun s => [(12900, some (.cells [.int .i64 p0, .int .i64 p1, .im (.slice (.int .i16)) p2, .im (.slice (.int .u8)) p3, .im (.slice (.int .u8)) p4, .im (.slice (.pair (.int .i64) (.pair (.int .i64) (.pair (.int .i64) (.int .u32))))) p5])), (12901, some (.bld 65 (some 12902))), (12902, some (.brw 5 (.int .u8) s))]) ?_ ?_
            · refine TC_blk ?_
              refine TC_loop (α := Int × (List (Int))) (fun n s => score_told.l1 K p5 (p5.length : Int) p0 p1 p2 p3 p4 n s.1 s.2 = some z2) (fun s => [(1, .p 13100 0), (4, .p 13101 0), (54, .im (.slice (.pair (.int .i64) (.pair (.int .i64) (.pair (.int .i64) (.int .u32))))) p5), (55, .int .i64 (p5.length : Int)), (56, .int .i64 s.1)]) (fun s => [(13100, some (.cells [.int .i64 p0, .int .i64 p1, .im (.slice (.int .i16)) p2, .im (.slice (.int .u8)) p3, .im (.slice (.int .u8)) p4, .im (.slice (.pair (.int .i64) (.pair (.int .i64) (.pair (.int .i64) (.int .u32))))) p5])), (13101, some (.bld 65 (some 13102))), (13102, some (.brw 5 (.int .u8) s.2))]) K ?_ ?_
              · exact SP_ren [(13100, 1001), (13101, 1004), (13102, 500520)] (_, _) h2 ⟨rfl, rfl, rfl, rfl, rfl, tv⟩ ⟨rfl, rfl, rfl, tv⟩ rfl
              rintro n ⟨x198, x199⟩ h2
              rcases n with _ | n
              · exact (nsome h2).elim
              replace h2 : score_told.r1 K p5 (p5.length : Int) p0 p1 p2 p3 p4 (score_told.l1 K p5 (p5.length : Int) p0 p1 p2 p3 p4 n) x198 x199 = some z2 := h2
              refine TC_seq ?_
              refine TC_reg ?_
              refine TL_ev env 1 rfl ⟨⟨tv, ⟨tv, tv⟩⟩, tv⟩ ?_
              refine TL_end ?_
              refine TE_go ?_
              refine TC_seq ?_
              refine TC_cond rfl (fun hb => ?_) (fun hb => ?_)
              · replace h2 := bif_t h2 hb
                refine TC_skip ?_
                refine TE_go ?_
                refine TC_seq ?_
                refine TC_blk ?_
                refine TC_seq ?_
                refine TC_reg ?_
                obtain ⟨g, h2⟩ := gd_t h2
                refine TL_ev env 4 rfl ⟨⟨tv, ⟨tv, ⟨g.1, g.2⟩⟩⟩, ⟨⟨tv, tv⟩, ⟨tv, ⟨⟨tv, tv⟩, tv⟩⟩⟩⟩ ?_
                refine TL_end ?_
                refine TE_go ?_
                refine TC_seq ?_
                refine TC_reg ?_
                refine TL_ev env 1 rfl ⟨⟨tv, tv⟩, tv⟩ ?_
                obtain ⟨⟨r216, r217⟩, hr, h2⟩ := bnd h2
                refine TL_callB [] (score_token.ok0 hr) score_token.fnb rfl ⟨tv, ⟨tv, tv⟩⟩ rfl tv rfl ?_
                refine TL_ev env 5 rfl ⟨tv, ⟨tv, ⟨tv, ⟨tv, ⟨tv, tv⟩⟩⟩⟩⟩ ?_
                refine TL_end ?_
                refine TE_go ?_
                refine TC_seq ?_
                refine TC_seq ?_
                refine TC_reg ?_
                refine TL_ev env 2 rfl ⟨tv, ⟨tv, tv⟩⟩ ?_
                refine TL_end ?_
                refine TE_go ?_
                refine TC_cond rfl (fun hb => ?_) (fun hb => ?_)
                · replace h2 := bif_t h2 hb
                  refine TC_seq ?_
                  refine TC_reg ?_
                  refine TL_ev env 2 rfl ⟨tv, ⟨tv, tv⟩⟩ ?_
                  refine TL_end ?_
                  refine TE_go ?_
                  refine TC_ret ?_
                  refine tsr ?_
                  refine tbr ?_
                  refine tsr ?_
                  refine tsr ?_
                  refine tbr ?_
                  refine tsr ?_
                  refine tbr ?_
                  refine tsr ?_
                  refine tsr ?_
                  obtain rfl := sinj h2
                  obtain rfl := sinj h1
                  obtain rfl := sinj h0
                  exact TE_ret env rfl tv tv
                · replace h2 := bif_f h2 hb
                  refine TC_skip ?_
                  refine TE_go ?_
                  refine TC_reg ?_
                  obtain ⟨g, h2⟩ := gd_t h2
                  refine TL_ev env 2 rfl ⟨tv, ⟨⟨tv, ⟨tv, g⟩⟩, tv⟩⟩ ?_
                  obtain ⟨⟨r219, r220⟩, hr, h2⟩ := bnd h2
                  refine TL_callB [(0, 13101), (1, 13102), (1000, 500690)] (strings_Builder_WriteString.ok0 hr) strings_Builder_WriteString.fnb rfl ⟨tv, ⟨tv, ⟨tv, tv⟩⟩⟩ rfl ⟨.inr rfl, .inr rfl, tv⟩ rfl ?_
                  refine TL_end ?_
                  refine tbn ?_
                  refine TE_go ?_
                  refine TC_reg ?_
                  refine TL_ev env 2 rfl ⟨⟨tv, ⟨tv, tv⟩⟩, ⟨tv, tv⟩⟩ ?_
                  refine TL_end ?_
                  refine tsn ?_
                  exact TE_nextr [(13100, 13100), (13101, 13101), (13102, 500690)] n (Nat.lt_succ_self n) (_, _) h2 ⟨rfl, rfl, rfl, rfl, rfl, tv⟩ ⟨rfl, rfl, rfl, tv⟩ rfl
              · replace h2 := bif_f h2 hb
                refine TC_exit ?_
                refine tsx ?_
                refine tsx ?_
                refine tbe ?_
                obtain rfl := sinj h2
                refine tsn ?_
                exact SP_ren [(12900, 13100), (12901, 13101), (12902, 13102)] _ rfl ⟨rfl, rfl, tv⟩ ⟨rfl, rfl, rfl, tv⟩ rfl
            · rintro x189 hz
              obtain rfl := hz.symm
              refine tbn ?_
              obtain rfl := sinj h1
              refine tsn ?_
              exact SP_ren [(11800, 12900), (11801, 12901), (11802, 12902)] _ rfl ⟨rfl, rfl, tv⟩ ⟨rfl, rfl, rfl, tv⟩ rfl
          · replace h1 := bif_f h1 hb
            refine TC_seq ?_
            refine TC_reg ?_
            refine TL_ev env 2 rfl ⟨tv, ⟨tv, tv⟩⟩ ?_
            refine TL_end ?_
            refine TE_go ?_
            refine TC_ret ?_
            refine tbr ?_
            refine tsr ?_
            refine tsr ?_
            obtain rfl := sinj h1
            obtain rfl := sinj h0
            exact TE_ret env rfl tv tv
  · rintro x102 hz
    obtain rfl := hz.symm
    refine TE_go ?_
    refine TC_seq ?_
    refine TC_renw (A' := [(1, .p 11800 0), (4, .p 11801 0)]) (L' := [(11800, some (.cells [.int .i64 _, .int .i64 _, .im (.slice (.int .i16)) _, .im (.slice (.int .u8)) _, .im (.slice (.int .u8)) _, .im (.slice (.pair (.int .i64) (.pair (.int .i64) (.pair (.int .i64) (.int .u32))))) _])), (11801, some (.bld 65 (some 11802))), (11802, some (.brw 5 (.int .u8) _))]) [] ⟨rfl, rfl, tv⟩ ⟨rfl, rfl, rfl, tv⟩ rfl ?_
    refine TC_drawR ⟨_, fun i => ([[], [], [1, 0], [2, 1, 0], [3, 2, 1, 0], [4, 3, 2, 1, 0], [5, 4, 3, 2, 1, 0], [6, 5, 4, 3, 2, 1, 0], [7, 6, 5, 4, 3, 2, 1, 0], [8, 7, 6, 5, 4, 3, 2, 1, 0], [9, 8, 7, 6, 5, 4, 3, 2, 1, 0], [10, 9, 8, 7, 6, 5, 4, 3, 2, 1, 0], [11, 10, 9, 8, 7, 6, 5, 4, 3, 2, 1, 0], [8, 7, 6, 5, 4, 3, 2, 1, 0], [13, 12, 11, 10, 9, 8, 7, 6, 5, 4, 3, 2, 1, 0]] : List (List Nat)).getD i [], fun i => ([[11801, 11802], [], [], [], [], [], [], [], [], [], [], [], [], [], []] : List (List Nat)).getD i [], fun i => ([[], [], [], [], [], [], [], [], [], [], [], [], [], [], []] : List (List Nat)).getD i []⟩ (fun i => ([[], [11801, 11802], [], [], [], [], [], [], [], [], [], [], [], [], []] : List (List Nat)).getD i []) (by kernel_rfl) (by kernel_rfl) ?_
    obtain ⟨r103, hr, h0⟩ := bnd h0
    refine AJR_call 1 rfl (Nat.le_of_ble_eq_true rfl) [(0, 11801), (1, 11802)] rfl (strings_Builder_String.ok0 hr) strings_Builder_String.fnb rfl ⟨tv, ⟨tv, tv⟩⟩ rfl ⟨.inr rfl, .inr rfl, tv⟩ rfl ?_
    refine AJR_ev env 2 rfl (Nat.le_of_ble_eq_true rfl) rfl ⟨tv, tv⟩ ?_
    obtain ⟨r104, hr, h0⟩ := bnd h0
    refine AJR_call 3 rfl (Nat.le_of_ble_eq_true rfl) [] rfl (score_bare.ok0 hr) score_bare.fnb rfl ⟨tv, ⟨tv, tv⟩⟩ rfl tv rfl ?_
    refine AJR_ev env 4 rfl (Nat.le_of_ble_eq_true rfl) rfl tv ?_
    refine AJR_ev env 5 rfl (Nat.le_of_ble_eq_true rfl) rfl (fun eg => tv) ?_
    refine AJR_ev env 6 rfl (Nat.le_of_ble_eq_true rfl) rfl (fun eg => ⟨fun e => e, tv⟩) ?_
    refine AJR_ev env 7 rfl (Nat.le_of_ble_eq_true rfl) rfl (fun eg => ⟨fun e => e, ⟨tv, tv⟩⟩) ?_
    refine AJR_ev env 8 rfl (Nat.le_of_ble_eq_true rfl) rfl ⟨tv, ⟨fun e => e, tv⟩⟩ ?_
    refine AJR_ev env 9 rfl (Nat.le_of_ble_eq_true rfl) rfl tv ?_
    refine AJR_ev env 10 rfl (Nat.le_of_ble_eq_true rfl) rfl (fun eg => tv) ?_
    refine AJR_ev env 11 rfl (Nat.le_of_ble_eq_true rfl) rfl (fun eg => ⟨fun e => e, tv⟩) ?_
    refine AJR_ev env 12 rfl (Nat.le_of_ble_eq_true rfl) rfl (fun eg => ⟨fun e => e, ⟨tv, tv⟩⟩) ?_
    refine AJR_ev env 13 rfl (Nat.le_of_ble_eq_true rfl) rfl ⟨tv, ⟨fun e => e, tv⟩⟩ ?_
    refine AJR_ev env 14 rfl (Nat.le_of_ble_eq_true rfl) rfl tv ?_
    refine AJR_ev env 15 rfl (Nat.le_of_ble_eq_true rfl) rfl tv ?_
    refine AJR_end rfl rfl rfl ?_
    refine TE_go ?_
    refine TC_ret ?_
    obtain rfl := sinj h0
    exact TE_ret env rfl tv tv
theorem score_told.ok0 {K : Nat} {p0 : Int} {p1 : Int} {p2 : List (Int)} {p3 : List (Int)} {p4 : List (Int)} {p5 : List ((Int × (Int × (Int × Int))))} {q0 : ByteArray} {q1 : Bool} (h0 : score_told K p0 p1 p2 p3 p4 p5 = some (q0, q1)) : Fn Tryd.prog 21 [.agg [.int .i64 p0, .int .i64 p1, .im (.slice (.int .i16)) p2, .im (.slice (.int .u8)) p3, .im (.slice (.int .u8)) p4, .im (.slice (.pair (.int .i64) (.pair (.int .i64) (.pair (.int .i64) (.int .u32))))) p5]] [] (.tup [.str q0, .bool q1]) [] := score_told.ok h0
theorem score_told.fnb : fnb Tryd.prog 21 = true := fnb_of Tryd.func21 rfl
def strings_Builder_Len.res (_p0 : List (Int)) : Int → MV
  | q0 => .int .i64 q0
def strings_Builder_Len.out (p0 : List (Int)) : Int → List (Nat × Option MObj)
  | _ => [(0, some (.bld 65 (some 1))), (1, some (.brw 5 (.int .u8) p0))]
theorem strings_Builder_Len.ok {K : Nat} {p0 : List (Int)} {r : Int} (h0 : strings_Builder_Len K p0 = some r) : Fn Tryd.prog 23 [.p 0 0] [(0, some (.bld 65 (some 1))), (1, some (.brw 5 (.int .u8) p0))] (strings_Builder_Len.res p0 r) (strings_Builder_Len.out p0 r) := by
  refine Fn_of Tryd.func23 rfl (Nat.le_of_ble_eq_true rfl) fun Γ => ?_
  refine TC_seq ?_
  refine TC_reg ?_
  refine TL_ev env 1 rfl ⟨tv, tv⟩ ?_
  refine TL_end ?_
  refine TE_go ?_
  refine TC_seq ?_
  refine TC_reg ?_
  refine TL_ev env 6 rfl ⟨tv, ⟨tv, ⟨tv, ⟨⟨tv, tv⟩, ⟨⟨tv, tv⟩, ⟨tv, tv⟩⟩⟩⟩⟩⟩ ?_
  refine TL_end ?_
  refine TE_go ?_
  refine TC_ret ?_
  obtain rfl := sinj h0
  exact TE_ret env rfl tv ⟨.inr rfl, .inr rfl, tv⟩
theorem strings_Builder_Len.ok0 {K : Nat} {p0 : List (Int)} {q0 : Int} (h0 : strings_Builder_Len K p0 = some q0) : Fn Tryd.prog 23 [.p 0 0] [(0, some (.bld 65 (some 1))), (1, some (.brw 5 (.int .u8) p0))] (.int .i64 q0) [(0, some (.bld 65 (some 1))), (1, some (.brw 5 (.int .u8) p0))] := strings_Builder_Len.ok h0
theorem strings_Builder_Len.fnb : fnb Tryd.prog 23 = true := fnb_of Tryd.func23 rfl
def score_Print.res (_p0 : List ((Int × (Int × (List (Int) × (List (Int) × (List (Int) × List ((Int × (Int × (Int × Int))))))))))) : ByteArray × Int → MV
  | (q0, q1) => .tup [.str q0, .int .i64 q1]
def score_Print.out (_p0 : List ((Int × (Int × (List (Int) × (List (Int) × (List (Int) × List ((Int × (Int × (Int × Int))))))))))) : ByteArray × Int → List (Nat × Option MObj)
  | (_, _) => []
theorem score_Print.ok {K : Nat} {p0 : List ((Int × (Int × (List (Int) × (List (Int) × (List (Int) × List ((Int × (Int × (Int × Int))))))))))} {r : ByteArray × Int} (h0 : score_Print K p0 = some r) : Fn Tryd.prog 12 [.im (.slice (.pair (.int .i64) (.pair (.int .i64) (.pair (.slice (.int .i16)) (.pair (.slice (.int .u8)) (.pair (.slice (.int .u8)) (.slice (.pair (.int .i64) (.pair (.int .i64) (.pair (.int .i64) (.int .u32))))))))))) p0] [] (score_Print.res p0 r) (score_Print.out p0 r) := by
  refine Fn_of Tryd.func12 rfl (Nat.le_of_ble_eq_true rfl) fun Γ => ?_
  refine TC_seq ?_
  refine TC_reg ?_
  refine TL_ev env 2 rfl ⟨tv, ⟨tv, tv⟩⟩ ?_
  refine TL_end ?_
  refine TE_go ?_
  refine TC_seq ?_
  refine TC_seq ?_
  refine TC_reg ?_
  refine TL_ev env 3 rfl ⟨tv, ⟨⟨tv, tv⟩, ⟨⟨tv, ⟨tv, tv⟩⟩, tv⟩⟩⟩ ?_
  refine TL_end ?_
  refine TE_go ?_
  refine TC_cond rfl (fun hb => ?_) (fun hb => ?_)
  · replace h0 := bif_t h0 hb
    refine TC_seq ?_
    refine TC_reg ?_
    refine TL_ev env 2 rfl ⟨tv, ⟨tv, tv⟩⟩ ?_
    refine TL_end ?_
    refine TE_go ?_
    refine TC_ret ?_
    refine tsr ?_
    obtain rfl := sinj h0
    exact TE_ret env rfl tv tv
  · replace h0 := bif_f h0 hb
    refine TC_skip ?_
    refine TE_go ?_
    refine TC_seq ?_
    refine TC_reg ?_
    refine TL_ev env 1 rfl ⟨tv, tv⟩ ?_
    refine TL_ownB 1004 650040 5 (.int .u8) rfl (by decide) rfl rfl ?_
    refine TL_end ?_
    refine TE_go ?_
    refine TC_seq ?_
    refine TC_seq ?_
    refine TC_reg ?_
    refine TL_ev env 3 rfl ⟨tv, ⟨⟨tv, tv⟩, ⟨tv, tv⟩⟩⟩ ?_
    refine TL_end ?_
    refine TE_go ?_
    obtain ⟨z1, h1, h0⟩ := bnd h0
    refine TC_cut (α := (List (Int))) (fun s => z1 = .inl s) (fun s => [(4, .p 10800 0)]) (fun s => [(10800, some (.bld 65 (some 10801))), (10801, some (.brw 5 (.int .u8) s))]) ?_ ?_
    · refine TC_blk ?_
      refine TC_loop (α := Int × (List (Int))) (fun n s => score_Print.l0 K p0 (p0.length : Int) n s.1 s.2 = some z1) (fun s => [(4, .p 11000 0), (12, .im (.slice (.pair (.int .i64) (.pair (.int .i64) (.pair (.slice (.int .i16)) (.pair (.slice (.int .u8)) (.pair (.slice (.int .u8)) (.slice (.pair (.int .i64) (.pair (.int .i64) (.pair (.int .i64) (.int .u32))))))))))) p0), (13, .int .i64 (p0.length : Int)), (14, .int .i64 s.1)]) (fun s => [(11000, some (.bld 65 (some 11001))), (11001, some (.brw 5 (.int .u8) s.2))]) K ?_ ?_
      · exact SP_ren [(11000, 1004), (11001, 650040)] (_, _) h1 ⟨rfl, rfl, rfl, rfl, tv⟩ ⟨rfl, rfl, tv⟩ rfl
      rintro n ⟨x57, x58⟩ h1
      rcases n with _ | n
      · exact (nsome h1).elim
      replace h1 : score_Print.r0 K p0 (p0.length : Int) (score_Print.l0 K p0 (p0.length : Int) n) x57 x58 = some z1 := h1
      refine TC_seq ?_
      refine TC_reg ?_
      refine TL_ev env 1 rfl ⟨⟨tv, ⟨tv, tv⟩⟩, tv⟩ ?_
      refine TL_end ?_
      refine TE_go ?_
      refine TC_seq ?_
      refine TC_cond rfl (fun hb => ?_) (fun hb => ?_)
      · replace h1 := bif_t h1 hb
        refine TC_skip ?_
        refine TE_go ?_
        refine TC_seq ?_
        refine TC_blk ?_
        refine TC_seq ?_
        refine TC_reg ?_
        obtain ⟨g, h1⟩ := gd_t h1
        refine TL_ev env 4 rfl ⟨⟨tv, ⟨tv, ⟨g.1, g.2⟩⟩⟩, ⟨⟨tv, tv⟩, ⟨tv, ⟨⟨tv, tv⟩, tv⟩⟩⟩⟩ ?_
        refine TL_end ?_
        refine TE_go ?_
        refine TC_seq ?_
        refine TC_reg ?_
        refine TL_ev env 1 rfl ⟨⟨tv, tv⟩, tv⟩ ?_
        obtain ⟨⟨r75, r76⟩, hr, h1⟩ := bnd h1
        refine TL_callB [] (score_told.ok0 hr) score_told.fnb rfl ⟨tv, ⟨tv, tv⟩⟩ rfl tv rfl ?_
        refine TL_ev env 5 rfl ⟨tv, ⟨tv, ⟨tv, ⟨tv, ⟨tv, tv⟩⟩⟩⟩⟩ ?_
        refine TL_end ?_
        refine TE_go ?_
        refine TC_seq ?_
        refine TC_seq ?_
        refine TC_reg ?_
        refine TL_ev env 2 rfl ⟨tv, ⟨tv, tv⟩⟩ ?_
        refine TL_end ?_
        refine TE_go ?_
        refine TC_cond rfl (fun hb => ?_) (fun hb => ?_)
        · replace h1 := bif_t h1 hb
          refine TC_seq ?_
          refine TC_reg ?_
          refine TL_ev env 2 rfl ⟨tv, ⟨tv, tv⟩⟩ ?_
          refine TL_end ?_
          refine TE_go ?_
          refine TC_ret ?_
          refine tsr ?_
          refine tbr ?_
          refine tsr ?_
          refine tsr ?_
          refine tbr ?_
          refine tsr ?_
          refine tsr ?_
          obtain rfl := sinj h1
          obtain rfl := sinj h0
          exact TE_ret env rfl tv tv
        · replace h1 := bif_f h1 hb
          refine TC_skip ?_
          refine TE_go ?_
          refine TC_reg ?_
          obtain ⟨g, h1⟩ := gd_t h1
          refine TL_ev env 2 rfl ⟨tv, ⟨⟨tv, ⟨tv, g⟩⟩, tv⟩⟩ ?_
          obtain ⟨⟨r78, r79⟩, hr, h1⟩ := bnd h1
          refine TL_callB [(0, 11000), (1, 11001), (1000, 500270)] (strings_Builder_WriteString.ok0 hr) strings_Builder_WriteString.fnb rfl ⟨tv, ⟨tv, ⟨tv, tv⟩⟩⟩ rfl ⟨.inr rfl, .inr rfl, tv⟩ rfl ?_
          refine TL_end ?_
          refine tbn ?_
          refine TE_go ?_
          refine TC_reg ?_
          refine TL_ev env 2 rfl ⟨⟨tv, ⟨tv, tv⟩⟩, ⟨tv, tv⟩⟩ ?_
          refine TL_end ?_
          refine tsn ?_
          exact TE_nextr [(11000, 11000), (11001, 500270)] n (Nat.lt_succ_self n) (_, _) h1 ⟨rfl, rfl, rfl, rfl, tv⟩ ⟨rfl, rfl, tv⟩ rfl
      · replace h1 := bif_f h1 hb
        refine TC_exit ?_
        refine tsx ?_
        refine tsx ?_
        refine tbe ?_
        obtain rfl := sinj h1
        refine tsn ?_
        exact SP_ren [(10800, 11000), (10801, 11001)] _ rfl ⟨rfl, tv⟩ ⟨rfl, rfl, tv⟩ rfl
    · rintro x45 hz
      obtain rfl := hz.symm
      refine TE_go ?_
      refine TC_seq ?_
      refine TC_seq ?_
      refine TC_reg ?_
      obtain ⟨r46, hr, h0⟩ := bnd h0
      refine TL_callB [(0, 10800), (1, 10801)] (strings_Builder_Len.ok0 hr) strings_Builder_Len.fnb rfl ⟨tv, ⟨tv, tv⟩⟩ rfl ⟨.inr rfl, .inr rfl, tv⟩ rfl ?_
      refine TL_ev env 1 rfl ⟨⟨tv, ⟨tv, tv⟩⟩, tv⟩ ?_
      refine TL_end ?_
      refine TE_go ?_
      refine TC_cond rfl (fun hb => ?_) (fun hb => ?_)
      · replace h0 := bif_t h0 hb
        refine TC_seq ?_
        refine TC_reg ?_
        refine TL_ev env 2 rfl ⟨tv, ⟨tv, tv⟩⟩ ?_
        refine TL_end ?_
        refine TE_go ?_
        refine TC_ret ?_
        refine tsr ?_
        obtain rfl := sinj h0
        exact TE_ret env rfl tv tv
      · replace h0 := bif_f h0 hb
        refine TC_skip ?_
        refine TE_go ?_
        refine TC_seq ?_
        refine TC_reg ?_
        obtain ⟨r48, hr, h0⟩ := bnd h0
        refine TL_callB [(0, 10800), (1, 10801)] (strings_Builder_String.ok0 hr) strings_Builder_String.fnb rfl ⟨tv, ⟨tv, tv⟩⟩ rfl ⟨.inr rfl, .inr rfl, tv⟩ rfl ?_
        refine TL_ev env 2 rfl ⟨tv, ⟨tv, tv⟩⟩ ?_
        refine TL_end ?_
        refine TE_go ?_
        refine TC_ret ?_
        obtain rfl := sinj h0
        exact TE_ret env rfl tv tv
theorem score_Print.ok0 {K : Nat} {p0 : List ((Int × (Int × (List (Int) × (List (Int) × (List (Int) × List ((Int × (Int × (Int × Int))))))))))} {q0 : ByteArray} {q1 : Int} (h0 : score_Print K p0 = some (q0, q1)) : Fn Tryd.prog 12 [.im (.slice (.pair (.int .i64) (.pair (.int .i64) (.pair (.slice (.int .i16)) (.pair (.slice (.int .u8)) (.pair (.slice (.int .u8)) (.slice (.pair (.int .i64) (.pair (.int .i64) (.pair (.int .i64) (.int .u32))))))))))) p0] [] (.tup [.str q0, .int .i64 q1]) [] := score_Print.ok h0
theorem score_Print.fnb : fnb Tryd.prog 12 = true := fnb_of Tryd.func12 rfl
def psalterylaw34_to.res  : Unit → MV
  | () => .nils
def psalterylaw34_to.out  : Unit → List (Nat × Option MObj)
  | () => []
theorem psalterylaw34_to.ok {K : Nat}  {r : Unit} (h0 : psalterylaw34_to K  = some r) : Fn Tryd.prog 10 [.nils] [] (psalterylaw34_to.res  r) (psalterylaw34_to.out  r) := by
  refine Fn_of Tryd.func10 rfl (Nat.le_of_ble_eq_true rfl) fun Γ => ?_
  unfold psalterylaw34_to at h0
  refine TC_seq ?_
  refine TC_reg ?_
  refine TL_ev env 1 rfl ⟨tv, tv⟩ ?_
  refine TL_end ?_
  refine TE_go ?_
  refine TC_seq ?_
  refine TC_reg ?_
  refine TL_ev env 1 rfl ⟨tv, tv⟩ ?_
  refine TL_end ?_
  refine TE_go ?_
  refine TC_seq ?_
  refine TC_seq ?_
  refine TC_reg ?_
  refine TL_ev env 1 rfl ⟨tv, tv⟩ ?_
  refine TL_end ?_
  refine TE_go ?_
  obtain ⟨z1, h1, h0⟩ := bnd h0
  refine TC_cut (α := Unit) (fun _ => z1 = ()) (fun _ => [(3, .nils)]) (fun _ => []) ?_ ?_
  · refine TC_blk ?_
    refine TC_loop (α := Unit) (fun n _ => psalterylaw34_to.l0 K n = some z1) (fun _ => [(0, .nils), (3, .nils), (4, .int .i64 0)]) (fun _ => []) K ?_ ?_
    · exact SP_ren [] () h1 ⟨rfl, rfl, rfl, tv⟩ tv rfl
    rintro n ⟨⟩ h1
    rcases n with _ | n
    · exact (nsome h1).elim
    replace h1 : psalterylaw34_to.r0 K (psalterylaw34_to.l0 K n)  = some z1 := h1
    refine TC_seq ?_
    refine TC_seq ?_
    refine TC_reg ?_
    refine TL_ev env 4 rfl ⟨tv, ⟨tv, ⟨⟨tv, tv⟩, ⟨⟨tv, ⟨tv, tv⟩⟩, tv⟩⟩⟩⟩ ?_
    refine TL_end ?_
    refine TE_go ?_
    refine TC_cond rfl (fun hb => ?_) (fun hb => ?_)
    · first | exact (ftf hb).elim | exact (tff hb).elim | exact absurd hb (by decide)
    · refine TC_exit ?_
      refine tsx ?_
      refine tsx ?_
      refine tbe ?_
      obtain rfl := sinj h1
      refine tsn ?_
      exact SP_ren [] () rfl ⟨rfl, tv⟩ tv rfl
  · rintro ⟨⟩ rfl
    refine TE_go ?_
    refine TC_seq ?_
    refine TC_reg ?_
    refine TL_ev env 2 rfl ⟨tv, ⟨tv, tv⟩⟩ ?_
    refine TL_end ?_
    refine TE_go ?_
    refine TC_ret ?_
    obtain rfl := sinj h0
    exact TE_ret env rfl tv tv
theorem psalterylaw34_to.ok0 {K : Nat}   (h0 : psalterylaw34_to K  = some ()) : Fn Tryd.prog 10 [.nils] [] (.nils) [] := psalterylaw34_to.ok h0
theorem psalterylaw34_to.fnb : fnb Tryd.prog 10 = true := fnb_of Tryd.func10 rfl
def psalteryref34_Same.res (_p0 : List ((Int × (Int × (List (Int) × (List (Int) × (List (Int) × List ((Int × (Int × (Int × Int))))))))))) : Bool → MV
  | q0 => .bool q0
def psalteryref34_Same.out (_p0 : List ((Int × (Int × (List (Int) × (List (Int) × (List (Int) × List ((Int × (Int × (Int × Int))))))))))) : Bool → List (Nat × Option MObj)
  | _ => []
theorem psalteryref34_Same.ok {K : Nat} {p0 : List ((Int × (Int × (List (Int) × (List (Int) × (List (Int) × List ((Int × (Int × (Int × Int))))))))))} {r : Bool} (h0 : psalteryref34_Same K p0 = some r) : Fn Tryd.prog 9 [.nils, .im (.slice (.pair (.int .i64) (.pair (.int .i64) (.pair (.slice (.int .i16)) (.pair (.slice (.int .u8)) (.pair (.slice (.int .u8)) (.slice (.pair (.int .i64) (.pair (.int .i64) (.pair (.int .i64) (.int .u32))))))))))) p0] [] (psalteryref34_Same.res p0 r) (psalteryref34_Same.out p0 r) := by
  refine Fn_of Tryd.func9 rfl (Nat.le_of_ble_eq_true rfl) fun Γ => ?_
  refine TC_seq ?_
  refine TC_reg ?_
  refine TL_ev env 1 rfl ⟨tv, tv⟩ ?_
  refine TL_end ?_
  refine TE_go ?_
  refine TC_seq ?_
  refine TC_seq ?_
  refine TC_reg ?_
  refine TL_ev env 5 rfl ⟨tv, ⟨⟨tv, tv⟩, ⟨tv, ⟨⟨tv, tv⟩, ⟨⟨tv, ⟨tv, tv⟩⟩, tv⟩⟩⟩⟩⟩ ?_
  refine TL_end ?_
  refine TE_go ?_
  refine TC_cond rfl (fun hb => ?_) (fun hb => ?_)
  · replace h0 := bif_t h0 hb
    refine TC_seq ?_
    refine TC_reg ?_
    refine TL_ev env 1 rfl ⟨tv, tv⟩ ?_
    refine TL_end ?_
    refine TE_go ?_
    refine TC_ret ?_
    refine tsr ?_
    obtain rfl := sinj h0
    exact TE_ret env rfl tv tv
  · replace h0 := bif_f h0 hb
    refine TC_skip ?_
    refine TE_go ?_
    refine TC_seq ?_
    refine TC_seq ?_
    refine TC_reg ?_
    refine TL_ev env 1 rfl ⟨tv, tv⟩ ?_
    refine TL_end ?_
    refine TE_go ?_
    obtain ⟨z1, h1, h0⟩ := bnd h0
    refine TC_cut (α := Unit) (fun _ => z1 = ()) (fun _ => []) (fun _ => []) ?_ ?_
    · refine TC_blk ?_
      refine TC_loop (α := Unit) (fun n _ => psalteryref34_Same.l0 K p0 n = some z1) (fun _ => [(0, .nils), (1, .im (.slice (.pair (.int .i64) (.pair (.int .i64) (.pair (.slice (.int .i16)) (.pair (.slice (.int .u8)) (.pair (.slice (.int .u8)) (.slice (.pair (.int .i64) (.pair (.int .i64) (.pair (.int .i64) (.int .u32))))))))))) p0), (5, .int .i64 0)]) (fun _ => []) K ?_ ?_
      · exact SP_ren [] () h1 ⟨rfl, rfl, rfl, tv⟩ tv rfl
      rintro n ⟨⟩ h1
      rcases n with _ | n
      · exact (nsome h1).elim
      replace h1 : psalteryref34_Same.r0 K p0 (psalteryref34_Same.l0 K p0 n)  = some z1 := h1
      refine TC_seq ?_
      refine TC_seq ?_
      refine TC_reg ?_
      refine TL_ev env 4 rfl ⟨tv, ⟨tv, ⟨⟨tv, tv⟩, ⟨⟨tv, ⟨tv, tv⟩⟩, tv⟩⟩⟩⟩ ?_
      refine TL_end ?_
      refine TE_go ?_
      refine TC_cond rfl (fun hb => ?_) (fun hb => ?_)
      · first | exact (ftf hb).elim | exact (tff hb).elim | exact absurd hb (by decide)
      · refine TC_exit ?_
        refine tsx ?_
        refine tsx ?_
        refine tbe ?_
        obtain rfl := sinj h1
        refine tsn ?_
        exact SP_ren [] () rfl tv tv rfl
    · rintro ⟨⟩ rfl
      refine TE_go ?_
      refine TC_seq ?_
      refine TC_reg ?_
      refine TL_ev env 1 rfl ⟨tv, tv⟩ ?_
      refine TL_end ?_
      refine TE_go ?_
      refine TC_ret ?_
      obtain rfl := sinj h0
      exact TE_ret env rfl tv tv
theorem psalteryref34_Same.ok0 {K : Nat} {p0 : List ((Int × (Int × (List (Int) × (List (Int) × (List (Int) × List ((Int × (Int × (Int × Int))))))))))} {q0 : Bool} (h0 : psalteryref34_Same K p0 = some q0) : Fn Tryd.prog 9 [.nils, .im (.slice (.pair (.int .i64) (.pair (.int .i64) (.pair (.slice (.int .i16)) (.pair (.slice (.int .u8)) (.pair (.slice (.int .u8)) (.slice (.pair (.int .i64) (.pair (.int .i64) (.pair (.int .i64) (.int .u32))))))))))) p0] [] (.bool q0) [] := psalteryref34_Same.ok h0
theorem psalteryref34_Same.fnb : fnb Tryd.prog 9 = true := fnb_of Tryd.func9 rfl
def psalterylaw34_to_2.res (_p0 : List ((Int × (Int × (List (Int) × (List (Int) × (List (Int) × List ((Int × (Int × (Int × Int))))))))))) : (List ((Int × (Int × (List (Int) × (List (Int) × (List (Int) × List ((Int × (Int × (Int × Int))))))))))) → MV
  | q0 => .im (.slice (.pair (.int .i64) (.pair (.int .i64) (.pair (.slice (.int .i16)) (.pair (.slice (.int .u8)) (.pair (.slice (.int .u8)) (.slice (.pair (.int .i64) (.pair (.int .i64) (.pair (.int .i64) (.int .u32))))))))))) q0
def psalterylaw34_to_2.out (_p0 : List ((Int × (Int × (List (Int) × (List (Int) × (List (Int) × List ((Int × (Int × (Int × Int))))))))))) : (List ((Int × (Int × (List (Int) × (List (Int) × (List (Int) × List ((Int × (Int × (Int × Int))))))))))) → List (Nat × Option MObj)
  | _ => []
theorem psalterylaw34_to_2.ok {K : Nat} {p0 : List ((Int × (Int × (List (Int) × (List (Int) × (List (Int) × List ((Int × (Int × (Int × Int))))))))))} {r : (List ((Int × (Int × (List (Int) × (List (Int) × (List (Int) × List ((Int × (Int × (Int × Int)))))))))))} (h0 : psalterylaw34_to_2 K p0 = some r) : Fn Tryd.prog 10 [.im (.slice (.pair (.int .i64) (.pair (.int .i64) (.pair (.slice (.int .i16)) (.pair (.slice (.int .u8)) (.pair (.slice (.int .u8)) (.slice (.pair (.int .i64) (.pair (.int .i64) (.pair (.int .i64) (.int .u32))))))))))) p0] [] (psalterylaw34_to_2.res p0 r) (psalterylaw34_to_2.out p0 r) := by
  refine Fn_of Tryd.func10 rfl (Nat.le_of_ble_eq_true rfl) fun Γ => ?_
  refine TC_seq ?_
  refine TC_reg ?_
  refine TL_ev env 1 rfl ⟨tv, tv⟩ ?_
  refine TL_end ?_
  refine TE_go ?_
  refine TC_seq ?_
  refine TC_reg ?_
  refine TL_ev env 1 rfl ⟨tv, tv⟩ ?_
  refine TL_end ?_
  refine TE_go ?_
  refine TC_seq ?_
  refine TC_seq ?_
  refine TC_reg ?_
  refine TL_ev env 1 rfl ⟨tv, tv⟩ ?_
  refine TL_end ?_
  refine TE_go ?_
  obtain ⟨z1, h1, h0⟩ := bnd h0
  refine TC_cut (α := (List ((Int × (Int × (List (Int) × (List (Int) × (List (Int) × List ((Int × (Int × (Int × Int)))))))))))) (fun s => z1 = s) (fun s => [(3, .sl 14000)]) (fun s => [(14000, some (.rows (.pair (.int .i64) (.pair (.int .i64) (.pair (.slice (.int .i16)) (.pair (.slice (.int .u8)) (.pair (.slice (.int .u8)) (.slice (.pair (.int .i64) (.pair (.int .i64) (.pair (.int .i64) (.int .u32)))))))))) s))]) ?_ ?_
  · refine TC_blk ?_
    refine TC_loop (α := Int × (List ((Int × (Int × (List (Int) × (List (Int) × (List (Int) × List ((Int × (Int × (Int × Int)))))))))))) (fun n s => psalterylaw34_to_2.l0 K p0 n s.1 s.2 = some z1) (fun s => [(0, .im (.slice (.pair (.int .i64) (.pair (.int .i64) (.pair (.slice (.int .i16)) (.pair (.slice (.int .u8)) (.pair (.slice (.int .u8)) (.slice (.pair (.int .i64) (.pair (.int .i64) (.pair (.int .i64) (.int .u32))))))))))) p0), (3, .sl 15000), (4, .int .i64 s.1)]) (fun s => [(15000, some (.rows (.pair (.int .i64) (.pair (.int .i64) (.pair (.slice (.int .i16)) (.pair (.slice (.int .u8)) (.pair (.slice (.int .u8)) (.slice (.pair (.int .i64) (.pair (.int .i64) (.pair (.int .i64) (.int .u32)))))))))) s.2))]) K ?_ ?_
    · refine TE_own 3 7003 (.pair (.int .i64) (.pair (.int .i64) (.pair (.slice (.int .i16)) (.pair (.slice (.int .u8)) (.pair (.slice (.int .u8)) (.slice (.pair (.int .i64) (.pair (.int .i64) (.pair (.int .i64) (.int .u32)))))))))) rfl (by decide) rfl rfl ?_
      exact SP_ren [(15000, 7003)] (_, _) h1 ⟨rfl, rfl, rfl, tv⟩ ⟨rfl, tv⟩ rfl
    rintro n ⟨x61, x62⟩ h1
    rcases n with _ | n
    · exact (nsome h1).elim
    replace h1 : psalterylaw34_to_2.r0 K p0 (psalterylaw34_to_2.l0 K p0 n) x61 x62 = some z1 := h1
    refine TC_seq ?_
    refine TC_seq ?_
    refine TC_reg ?_
    refine TL_ev env 4 rfl ⟨tv, ⟨tv, ⟨⟨tv, tv⟩, ⟨⟨tv, ⟨tv, tv⟩⟩, tv⟩⟩⟩⟩ ?_
    refine TL_end ?_
    refine TE_go ?_
    refine TC_cond rfl (fun hb => ?_) (fun hb => ?_)
    · replace h1 := bif_t h1 hb
      refine TC_skip ?_
      refine TE_go ?_
      refine TC_seq ?_
      refine TC_blk ?_
      refine TC_seq ?_
      refine TC_renw (A' := [(0, .im (.slice (.pair (.int .i64) (.pair (.int .i64) (.pair (.slice (.int .i16)) (.pair (.slice (.int .u8)) (.pair (.slice (.int .u8)) (.slice (.pair (.int .i64) (.pair (.int .i64) (.pair (.int .i64) (.int .u32))))))))))) _), (3, .sl 15000), (4, .int .i64 _)]) (L' := [(15000, some (.rows (.pair (.int .i64) (.pair (.int .i64) (.pair (.slice (.int .i16)) (.pair (.slice (.int .u8)) (.pair (.slice (.int .u8)) (.slice (.pair (.int .i64) (.pair (.int .i64) (.pair (.int .i64) (.int .u32)))))))))) _))]) [] ⟨rfl, rfl, rfl, tv⟩ ⟨rfl, tv⟩ rfl ?_
      refine TC_drawR ⟨_, fun i => ([[], [], [1, 0], [2, 1, 0], [3, 2, 1, 0], [], [], [6, 5], [7, 6, 5], [8, 7, 6, 5], [], [], [11, 10], [12, 11, 10], [13, 12, 11, 10], [], [], [16, 15], [17, 16, 15], [18, 17, 16, 15], [], [], [21, 20], [22, 21, 20], [23, 22, 21, 20], [24, 23, 22, 21, 20, 19, 18, 17, 16, 15, 14, 13, 12, 11, 10, 9, 8, 7, 6, 5, 4, 3, 2, 1, 0], [], [26, 25, 24, 23, 22, 21, 20, 19, 18, 17, 16, 15, 14, 13, 12, 11, 10, 9, 8, 7, 6, 5, 4, 3, 2, 1, 0]] : List (List Nat)).getD i [], fun i => ([[], [], [], [], [], [], [], [], [], [], [], [], [], [], [], [], [], [], [], [], [], [], [], [], [], [], [1005], [1005]] : List (List Nat)).getD i [], fun i => ([[], [], [], [], [], [], [], [], [], [], [], [], [], [], [], [], [], [], [], [], [], [], [], [], [], [], [1005], []] : List (List Nat)).getD i []⟩ (fun i => ([[1005], [1005], [1005], [1005], [1005], [1005], [1005], [1005], [1005], [1005], [1005], [1005], [1005], [1005], [1005], [1005], [1005], [1005], [1005], [1005], [1005], [1005], [1005], [1005], [1005], [1005], [], []] : List (List Nat)).getD i []) (by kernel_rfl) (by kernel_rfl) ?_
      refine AJR_ev env 1 rfl (Nat.le_of_ble_eq_true rfl) rfl tv ?_
      refine AJR_ev env 2 rfl (Nat.le_of_ble_eq_true rfl) rfl tv ?_
      obtain ⟨g, h1⟩ := gd_t h1
      refine AJR_ev env 3 rfl (Nat.le_of_ble_eq_true rfl) rfl ⟨tv, ⟨tv, ⟨g.1, g.2⟩⟩⟩ ?_
      refine AJR_ev env 4 rfl (Nat.le_of_ble_eq_true rfl) rfl tv ?_
      refine AJR_ev env 5 rfl (Nat.le_of_ble_eq_true rfl) rfl ⟨tv, tv⟩ ?_
      refine AJR_ev env 6 rfl (Nat.le_of_ble_eq_true rfl) rfl tv ?_
      refine AJR_ev env 7 rfl (Nat.le_of_ble_eq_true rfl) rfl tv ?_
      obtain ⟨g, h1⟩ := gd_t h1
      refine AJR_ev env 8 rfl (Nat.le_of_ble_eq_true rfl) rfl ⟨tv, ⟨tv, ⟨g.1, g.2⟩⟩⟩ ?_
      refine AJR_ev env 9 rfl (Nat.le_of_ble_eq_true rfl) rfl tv ?_
      refine AJR_ev env 10 rfl (Nat.le_of_ble_eq_true rfl) rfl ⟨tv, tv⟩ ?_
      refine AJR_ev env 11 rfl (Nat.le_of_ble_eq_true rfl) rfl tv ?_
      refine AJR_ev env 12 rfl (Nat.le_of_ble_eq_true rfl) rfl tv ?_
      obtain ⟨g, h1⟩ := gd_t h1
      refine AJR_ev env 13 rfl (Nat.le_of_ble_eq_true rfl) rfl ⟨tv, ⟨tv, ⟨g.1, g.2⟩⟩⟩ ?_
      refine AJR_ev env 14 rfl (Nat.le_of_ble_eq_true rfl) rfl tv ?_
      refine AJR_ev env 15 rfl (Nat.le_of_ble_eq_true rfl) rfl ⟨tv, tv⟩ ?_
      refine AJR_ev env 16 rfl (Nat.le_of_ble_eq_true rfl) rfl tv ?_
      refine AJR_ev env 17 rfl (Nat.le_of_ble_eq_true rfl) rfl tv ?_
      obtain ⟨g, h1⟩ := gd_t h1
      refine AJR_ev env 18 rfl (Nat.le_of_ble_eq_true rfl) rfl ⟨tv, ⟨tv, ⟨g.1, g.2⟩⟩⟩ ?_
      refine AJR_ev env 19 rfl (Nat.le_of_ble_eq_true rfl) rfl tv ?_
      refine AJR_ev env 20 rfl (Nat.le_of_ble_eq_true rfl) rfl ⟨tv, tv⟩ ?_
      refine AJR_ev env 21 rfl (Nat.le_of_ble_eq_true rfl) rfl tv ?_
      refine AJR_ev env 22 rfl (Nat.le_of_ble_eq_true rfl) rfl tv ?_
      obtain ⟨g, h1⟩ := gd_t h1
      refine AJR_ev env 23 rfl (Nat.le_of_ble_eq_true rfl) rfl ⟨tv, ⟨tv, ⟨g.1, g.2⟩⟩⟩ ?_
      refine AJR_ev env 24 rfl (Nat.le_of_ble_eq_true rfl) rfl tv ?_
      refine AJR_ev env 25 rfl (Nat.le_of_ble_eq_true rfl) rfl ⟨tv, tv⟩ ?_
      refine AJR_ev env 26 rfl (Nat.le_of_ble_eq_true rfl) rfl ⟨tv, ⟨tv, ⟨tv, ⟨tv, ⟨tv, tv⟩⟩⟩⟩⟩ ?_
      refine AJR_ev env 27 rfl (Nat.le_of_ble_eq_true rfl) rfl tv ?_
      refine AJR_ev env 28 rfl (Nat.le_of_ble_eq_true rfl) rfl ⟨tv, tv⟩ ?_
      refine AJR_end rfl rfl rfl ?_
      refine TE_go ?_
      refine TC_seq ?_
      refine TC_seq ?_
      refine TC_reg ?_
      refine TL_ev env 1 rfl ⟨tv, tv⟩ ?_
      refine TL_end ?_
      refine TE_go ?_
      obtain ⟨z2, h2, h1⟩ := bnd h1
      refine TC_cut (α := (List ((Int × (Int × (Int × Int)))))) (fun s => z2 = s) (fun s => [(0, .im (.slice (.pair (.int .i64) (.pair (.int .i64) (.pair (.slice (.int .i16)) (.pair (.slice (.int .u8)) (.pair (.slice (.int .u8)) (.slice (.pair (.int .i64) (.pair (.int .i64) (.pair (.int .i64) (.int .u32))))))))))) p0), (3, .sl 16700), (4, .int .i64 x61), (5, .p 16701 0)]) (fun s => [(16700, some (.rows (.pair (.int .i64) (.pair (.int .i64) (.pair (.slice (.int .i16)) (.pair (.slice (.int .u8)) (.pair (.slice (.int .u8)) (.slice (.pair (.int .i64) (.pair (.int .i64) (.pair (.int .i64) (.int .u32)))))))))) x62)), (16701, some (.cells [.int .i64 (Kd.nth (.pair (.int .i64) (.pair (.int .i64) (.pair (.slice (.int .i16)) (.pair (.slice (.int .u8)) (.pair (.slice (.int .u8)) (.slice (.pair (.int .i64) (.pair (.int .i64) (.pair (.int .i64) (.int .u32)))))))))) p0 (Int.toNat x61)).1, .int .i64 (Kd.nth (.pair (.int .i64) (.pair (.int .i64) (.pair (.slice (.int .i16)) (.pair (.slice (.int .u8)) (.pair (.slice (.int .u8)) (.slice (.pair (.int .i64) (.pair (.int .i64) (.pair (.int .i64) (.int .u32)))))))))) p0 (Int.toNat x61)).2.1, .im (.slice (.int .i16)) (Kd.nth (.pair (.int .i64) (.pair (.int .i64) (.pair (.slice (.int .i16)) (.pair (.slice (.int .u8)) (.pair (.slice (.int .u8)) (.slice (.pair (.int .i64) (.pair (.int .i64) (.pair (.int .i64) (.int .u32)))))))))) p0 (Int.toNat x61)).2.2.1, .im (.slice (.int .u8)) (Kd.nth (.pair (.int .i64) (.pair (.int .i64) (.pair (.slice (.int .i16)) (.pair (.slice (.int .u8)) (.pair (.slice (.int .u8)) (.slice (.pair (.int .i64) (.pair (.int .i64) (.pair (.int .i64) (.int .u32)))))))))) p0 (Int.toNat x61)).2.2.2.1, .im (.slice (.int .u8)) (Kd.nth (.pair (.int .i64) (.pair (.int .i64) (.pair (.slice (.int .i16)) (.pair (.slice (.int .u8)) (.pair (.slice (.int .u8)) (.slice (.pair (.int .i64) (.pair (.int .i64) (.pair (.int .i64) (.int .u32)))))))))) p0 (Int.toNat x61)).2.2.2.2.1, .sl 16702])), (16702, some (.rows (.pair (.int .i64) (.pair (.int .i64) (.pair (.int .i64) (.int .u32)))) s))]) ?_ ?_
      · refine TC_blk ?_
        refine TC_loop (α := Int × (List ((Int × (Int × (Int × Int)))))) (fun n s => psalterylaw34_to_2.l1 K p0 x61 x62 ((Kd.nth (.pair (.int .i64) (.pair (.int .i64) (.pair (.slice (.int .i16)) (.pair (.slice (.int .u8)) (.pair (.slice (.int .u8)) (.slice (.pair (.int .i64) (.pair (.int .i64) (.pair (.int .i64) (.int .u32)))))))))) p0 (Int.toNat x61)).1) ((Kd.nth (.pair (.int .i64) (.pair (.int .i64) (.pair (.slice (.int .i16)) (.pair (.slice (.int .u8)) (.pair (.slice (.int .u8)) (.slice (.pair (.int .i64) (.pair (.int .i64) (.pair (.int .i64) (.int .u32)))))))))) p0 (Int.toNat x61)).2.1) ((Kd.nth (.pair (.int .i64) (.pair (.int .i64) (.pair (.slice (.int .i16)) (.pair (.slice (.int .u8)) (.pair (.slice (.int .u8)) (.slice (.pair (.int .i64) (.pair (.int .i64) (.pair (.int .i64) (.int .u32)))))))))) p0 (Int.toNat x61)).2.2.1) ((Kd.nth (.pair (.int .i64) (.pair (.int .i64) (.pair (.slice (.int .i16)) (.pair (.slice (.int .u8)) (.pair (.slice (.int .u8)) (.slice (.pair (.int .i64) (.pair (.int .i64) (.pair (.int .i64) (.int .u32)))))))))) p0 (Int.toNat x61)).2.2.2.1) ((Kd.nth (.pair (.int .i64) (.pair (.int .i64) (.pair (.slice (.int .i16)) (.pair (.slice (.int .u8)) (.pair (.slice (.int .u8)) (.slice (.pair (.int .i64) (.pair (.int .i64) (.pair (.int .i64) (.int .u32)))))))))) p0 (Int.toNat x61)).2.2.2.2.1) n s.1 s.2 = some z2) (fun s => [(0, .im (.slice (.pair (.int .i64) (.pair (.int .i64) (.pair (.slice (.int .i16)) (.pair (.slice (.int .u8)) (.pair (.slice (.int .u8)) (.slice (.pair (.int .i64) (.pair (.int .i64) (.pair (.int .i64) (.int .u32))))))))))) p0), (3, .sl 16900), (4, .int .i64 x61), (5, .p 16901 0), (6, .int .i64 s.1)]) (fun s => [(16900, some (.rows (.pair (.int .i64) (.pair (.int .i64) (.pair (.slice (.int .i16)) (.pair (.slice (.int .u8)) (.pair (.slice (.int .u8)) (.slice (.pair (.int .i64) (.pair (.int .i64) (.pair (.int .i64) (.int .u32)))))))))) x62)), (16901, some (.cells [.int .i64 (Kd.nth (.pair (.int .i64) (.pair (.int .i64) (.pair (.slice (.int .i16)) (.pair (.slice (.int .u8)) (.pair (.slice (.int .u8)) (.slice (.pair (.int .i64) (.pair (.int .i64) (.pair (.int .i64) (.int .u32)))))))))) p0 (Int.toNat x61)).1, .int .i64 (Kd.nth (.pair (.int .i64) (.pair (.int .i64) (.pair (.slice (.int .i16)) (.pair (.slice (.int .u8)) (.pair (.slice (.int .u8)) (.slice (.pair (.int .i64) (.pair (.int .i64) (.pair (.int .i64) (.int .u32)))))))))) p0 (Int.toNat x61)).2.1, .im (.slice (.int .i16)) (Kd.nth (.pair (.int .i64) (.pair (.int .i64) (.pair (.slice (.int .i16)) (.pair (.slice (.int .u8)) (.pair (.slice (.int .u8)) (.slice (.pair (.int .i64) (.pair (.int .i64) (.pair (.int .i64) (.int .u32)))))))))) p0 (Int.toNat x61)).2.2.1, .im (.slice (.int .u8)) (Kd.nth (.pair (.int .i64) (.pair (.int .i64) (.pair (.slice (.int .i16)) (.pair (.slice (.int .u8)) (.pair (.slice (.int .u8)) (.slice (.pair (.int .i64) (.pair (.int .i64) (.pair (.int .i64) (.int .u32)))))))))) p0 (Int.toNat x61)).2.2.2.1, .im (.slice (.int .u8)) (Kd.nth (.pair (.int .i64) (.pair (.int .i64) (.pair (.slice (.int .i16)) (.pair (.slice (.int .u8)) (.pair (.slice (.int .u8)) (.slice (.pair (.int .i64) (.pair (.int .i64) (.pair (.int .i64) (.int .u32)))))))))) p0 (Int.toNat x61)).2.2.2.2.1, .sl 16902])), (16902, some (.rows (.pair (.int .i64) (.pair (.int .i64) (.pair (.int .i64) (.int .u32)))) s.2))]) K ?_ ?_
        · refine TE_ownC 1005 5 920105 (.pair (.int .i64) (.pair (.int .i64) (.pair (.int .i64) (.int .u32)))) rfl rfl (by decide) rfl rfl ?_
          exact SP_ren [(16900, 15000), (16901, 1005), (16902, 920105)] (_, _) h2 ⟨rfl, rfl, rfl, rfl, rfl, tv⟩ ⟨rfl, rfl, rfl, tv⟩ rfl
        rintro n ⟨x89, x90⟩ h2
        rcases n with _ | n
        · exact (nsome h2).elim
        replace h2 : psalterylaw34_to_2.r1 K p0 x61 x62 ((Kd.nth (.pair (.int .i64) (.pair (.int .i64) (.pair (.slice (.int .i16)) (.pair (.slice (.int .u8)) (.pair (.slice (.int .u8)) (.slice (.pair (.int .i64) (.pair (.int .i64) (.pair (.int .i64) (.int .u32)))))))))) p0 (Int.toNat x61)).1) ((Kd.nth (.pair (.int .i64) (.pair (.int .i64) (.pair (.slice (.int .i16)) (.pair (.slice (.int .u8)) (.pair (.slice (.int .u8)) (.slice (.pair (.int .i64) (.pair (.int .i64) (.pair (.int .i64) (.int .u32)))))))))) p0 (Int.toNat x61)).2.1) ((Kd.nth (.pair (.int .i64) (.pair (.int .i64) (.pair (.slice (.int .i16)) (.pair (.slice (.int .u8)) (.pair (.slice (.int .u8)) (.slice (.pair (.int .i64) (.pair (.int .i64) (.pair (.int .i64) (.int .u32)))))))))) p0 (Int.toNat x61)).2.2.1) ((Kd.nth (.pair (.int .i64) (.pair (.int .i64) (.pair (.slice (.int .i16)) (.pair (.slice (.int .u8)) (.pair (.slice (.int .u8)) (.slice (.pair (.int .i64) (.pair (.int .i64) (.pair (.int .i64) (.int .u32)))))))))) p0 (Int.toNat x61)).2.2.2.1) ((Kd.nth (.pair (.int .i64) (.pair (.int .i64) (.pair (.slice (.int .i16)) (.pair (.slice (.int .u8)) (.pair (.slice (.int .u8)) (.slice (.pair (.int .i64) (.pair (.int .i64) (.pair (.int .i64) (.int .u32)))))))))) p0 (Int.toNat x61)).2.2.2.2.1) (psalterylaw34_to_2.l1 K p0 x61 x62 ((Kd.nth (.pair (.int .i64) (.pair (.int .i64) (.pair (.slice (.int .i16)) (.pair (.slice (.int .u8)) (.pair (.slice (.int .u8)) (.slice (.pair (.int .i64) (.pair (.int .i64) (.pair (.int .i64) (.int .u32)))))))))) p0 (Int.toNat x61)).1) ((Kd.nth (.pair (.int .i64) (.pair (.int .i64) (.pair (.slice (.int .i16)) (.pair (.slice (.int .u8)) (.pair (.slice (.int .u8)) (.slice (.pair (.int .i64) (.pair (.int .i64) (.pair (.int .i64) (.int .u32)))))))))) p0 (Int.toNat x61)).2.1) ((Kd.nth (.pair (.int .i64) (.pair (.int .i64) (.pair (.slice (.int .i16)) (.pair (.slice (.int .u8)) (.pair (.slice (.int .u8)) (.slice (.pair (.int .i64) (.pair (.int .i64) (.pair (.int .i64) (.int .u32)))))))))) p0 (Int.toNat x61)).2.2.1) ((Kd.nth (.pair (.int .i64) (.pair (.int .i64) (.pair (.slice (.int .i16)) (.pair (.slice (.int .u8)) (.pair (.slice (.int .u8)) (.slice (.pair (.int .i64) (.pair (.int .i64) (.pair (.int .i64) (.int .u32)))))))))) p0 (Int.toNat x61)).2.2.2.1) ((Kd.nth (.pair (.int .i64) (.pair (.int .i64) (.pair (.slice (.int .i16)) (.pair (.slice (.int .u8)) (.pair (.slice (.int .u8)) (.slice (.pair (.int .i64) (.pair (.int .i64) (.pair (.int .i64) (.int .u32)))))))))) p0 (Int.toNat x61)).2.2.2.2.1) n) x89 x90 = some z2 := h2
        refine TC_seq ?_
        refine TC_seq ?_
        refine TC_reg ?_
        obtain ⟨g, h2⟩ := gd_t h2
        refine TL_ev env 8 rfl ⟨tv, ⟨tv, ⟨tv, ⟨⟨tv, ⟨tv, ⟨g.1, g.2⟩⟩⟩, ⟨tv, ⟨⟨tv, tv⟩, ⟨⟨tv, tv⟩, ⟨⟨tv, ⟨tv, tv⟩⟩, tv⟩⟩⟩⟩⟩⟩⟩⟩ ?_
        refine TL_end ?_
        refine TE_go ?_
        refine TC_cond rfl (fun hb => ?_) (fun hb => ?_)
        · replace h2 := bif_t h2 hb
          refine TC_skip ?_
          refine TE_go ?_
          refine TC_seq ?_
          refine TC_blk ?_
          refine TC_renw (A' := [(0, .im (.slice (.pair (.int .i64) (.pair (.int .i64) (.pair (.slice (.int .i16)) (.pair (.slice (.int .u8)) (.pair (.slice (.int .u8)) (.slice (.pair (.int .i64) (.pair (.int .i64) (.pair (.int .i64) (.int .u32))))))))))) _), (3, .sl 16900), (4, .int .i64 _), (5, .p 16901 0), (6, .int .i64 _)]) (L' := [(16900, some (.rows (.pair (.int .i64) (.pair (.int .i64) (.pair (.slice (.int .i16)) (.pair (.slice (.int .u8)) (.pair (.slice (.int .u8)) (.slice (.pair (.int .i64) (.pair (.int .i64) (.pair (.int .i64) (.int .u32)))))))))) _)), (16901, some (.cells [.int .i64 _, .int .i64 _, .im (.slice (.int .i16)) _, .im (.slice (.int .u8)) _, .im (.slice (.int .u8)) _, .sl 16902])), (16902, some (.rows (.pair (.int .i64) (.pair (.int .i64) (.pair (.int .i64) (.int .u32)))) _))]) [] ⟨rfl, rfl, rfl, rfl, rfl, tv⟩ ⟨rfl, rfl, rfl, tv⟩ rfl ?_
          refine TC_drawR ⟨_, fun i => ([[], [0], [], [], [3, 2], [4, 3, 2], [5, 4, 3, 2], [], [7, 6, 5, 4, 3, 2], [8, 7, 6, 5, 4, 3, 2], [9, 8, 7, 6, 5, 4, 3, 2], [10, 9, 8, 7, 6, 5, 4, 3, 2, 1, 0], [11, 10, 9, 8, 7, 6, 5, 4, 3, 2, 1, 0], [12, 11, 10, 9, 8, 7, 6, 5, 4, 3, 2, 1, 0]] : List (List Nat)).getD i [], fun i => ([[], [], [], [], [], [], [], [], [], [], [1059], [1060, 16902], [], [16901]] : List (List Nat)).getD i [], fun i => ([[], [], [], [], [], [], [], [], [], [], [1059], [1060], [], []] : List (List Nat)).getD i []⟩ (fun i => ([[1059], [1059], [], [], [], [], [], [], [], [], [], [], [], []] : List (List Nat)).getD i []) (by kernel_rfl) (by kernel_rfl) ?_
          refine AJR_ev env 1 rfl (Nat.le_of_ble_eq_true rfl) rfl tv ?_
          refine AJR_ev env 2 rfl (Nat.le_of_ble_eq_true rfl) rfl ⟨tv, tv⟩ ?_
          refine AJR_ev env 3 rfl (Nat.le_of_ble_eq_true rfl) rfl tv ?_
          refine AJR_ev env 4 rfl (Nat.le_of_ble_eq_true rfl) rfl tv ?_
          obtain ⟨g, h2⟩ := gd_t h2
          refine AJR_ev env 5 rfl (Nat.le_of_ble_eq_true rfl) rfl ⟨tv, ⟨tv, ⟨g.1, g.2⟩⟩⟩ ?_
          refine AJR_ev env 6 rfl (Nat.le_of_ble_eq_true rfl) rfl tv ?_
          refine AJR_ev env 7 rfl (Nat.le_of_ble_eq_true rfl) rfl ⟨tv, tv⟩ ?_
          refine AJR_ev env 8 rfl (Nat.le_of_ble_eq_true rfl) rfl tv ?_
          obtain ⟨g, h2⟩ := gd_t h2
          refine AJR_ev env 9 rfl (Nat.le_of_ble_eq_true rfl) rfl ⟨tv, ⟨tv, ⟨g.1, g.2⟩⟩⟩ ?_
          refine AJR_ev env 10 rfl (Nat.le_of_ble_eq_true rfl) rfl ⟨tv, tv⟩ ?_
          refine AJR_ev env 11 rfl (Nat.le_of_ble_eq_true rfl) rfl ⟨tv, tv⟩ ?_
          obtain ⟨g, h2⟩ := gd_t h2
          refine AJR_ev env 12 rfl (Nat.le_of_ble_eq_true rfl) rfl ⟨⟨tv, ⟨tv, tv⟩⟩, g⟩ ?_
          refine AJR_ev env 13 rfl (Nat.le_of_ble_eq_true rfl) rfl tv ?_
          refine AJR_ev env 14 rfl (Nat.le_of_ble_eq_true rfl) rfl ⟨tv, tv⟩ ?_
          refine AJR_end rfl rfl rfl ?_
          refine tbn ?_
          refine TE_go ?_
          refine TC_reg ?_
          refine TL_ev env 3 rfl ⟨tv, ⟨⟨tv, ⟨tv, tv⟩⟩, ⟨tv, tv⟩⟩⟩ ?_
          refine TL_end ?_
          refine tsn ?_
          exact TE_nextr [(16900, 16900), (16901, 16901), (16902, 1060)] n (Nat.lt_succ_self n) (_, _) h2 ⟨rfl, rfl, rfl, rfl, rfl, tv⟩ ⟨rfl, rfl, rfl, tv⟩ rfl
        · replace h2 := bif_f h2 hb
          refine TC_exit ?_
          refine tsx ?_
          refine tsx ?_
          refine tbe ?_
          obtain rfl := sinj h2
          refine tsn ?_
          exact SP_ren [(16700, 16900), (16701, 16901), (16702, 16902)] _ rfl ⟨rfl, rfl, rfl, rfl, tv⟩ ⟨rfl, rfl, rfl, tv⟩ rfl
      · rintro x86 hz
        obtain rfl := hz.symm
        refine TE_go ?_
        refine TC_reg ?_
        refine TL_ev env 2 rfl ⟨tv, ⟨⟨tv, tv⟩, tv⟩⟩ ?_
        refine TL_frz 16702 rfl ?_
        obtain ⟨g, h1⟩ := gd_t h1
        refine TL_ev env 3 rfl ⟨⟨tv, tv⟩, ⟨⟨⟨tv, ⟨tv, tv⟩⟩, g⟩, ⟨tv, tv⟩⟩⟩ ?_
        refine TL_end ?_
        refine tbn ?_
        refine TE_go ?_
        refine TC_reg ?_
        refine TL_ev env 3 rfl ⟨tv, ⟨⟨tv, ⟨tv, tv⟩⟩, ⟨tv, tv⟩⟩⟩ ?_
        refine TL_end ?_
        refine tsn ?_
        exact TE_nextr [(15000, 1065)] n (Nat.lt_succ_self n) (_, _) h1 ⟨rfl, rfl, rfl, tv⟩ ⟨rfl, tv⟩ rfl
    · replace h1 := bif_f h1 hb
      refine TC_exit ?_
      refine tsx ?_
      refine tsx ?_
      refine tbe ?_
      obtain rfl := sinj h1
      refine tsn ?_
      exact SP_ren [(14000, 15000)] _ rfl ⟨rfl, tv⟩ ⟨rfl, tv⟩ rfl
  · rintro x50 hz
    obtain rfl := hz.symm
    refine TE_go ?_
    refine TC_seq ?_
    refine TC_reg ?_
    refine TL_ev env 2 rfl ⟨tv, ⟨tv, tv⟩⟩ ?_
    refine TL_end ?_
    refine TE_go ?_
    refine TC_ret ?_
    refine TE_frz 14000 rfl ?_
    obtain rfl := sinj h0
    exact TE_ret env rfl tv tv
theorem psalterylaw34_to_2.ok0 {K : Nat} {p0 : List ((Int × (Int × (List (Int) × (List (Int) × (List (Int) × List ((Int × (Int × (Int × Int))))))))))} {q0 : List ((Int × (Int × (List (Int) × (List (Int) × (List (Int) × List ((Int × (Int × (Int × Int))))))))))} (h0 : psalterylaw34_to_2 K p0 = some q0) : Fn Tryd.prog 10 [.im (.slice (.pair (.int .i64) (.pair (.int .i64) (.pair (.slice (.int .i16)) (.pair (.slice (.int .u8)) (.pair (.slice (.int .u8)) (.slice (.pair (.int .i64) (.pair (.int .i64) (.pair (.int .i64) (.int .u32))))))))))) p0] [] (.im (.slice (.pair (.int .i64) (.pair (.int .i64) (.pair (.slice (.int .i16)) (.pair (.slice (.int .u8)) (.pair (.slice (.int .u8)) (.slice (.pair (.int .i64) (.pair (.int .i64) (.pair (.int .i64) (.int .u32))))))))))) q0) [] := psalterylaw34_to_2.ok h0
theorem psalterylaw34_to_2.fnb : fnb Tryd.prog 10 = true := fnb_of Tryd.func10 rfl
def psalteryref34_Same_2.res (_p0 : List ((Int × (Int × (List (Int) × (List (Int) × (List (Int) × List ((Int × (Int × (Int × Int))))))))))) (_p1 : List ((Int × (Int × (List (Int) × (List (Int) × (List (Int) × List ((Int × (Int × (Int × Int))))))))))) : Bool → MV
  | q0 => .bool q0
def psalteryref34_Same_2.out (_p0 : List ((Int × (Int × (List (Int) × (List (Int) × (List (Int) × List ((Int × (Int × (Int × Int))))))))))) (_p1 : List ((Int × (Int × (List (Int) × (List (Int) × (List (Int) × List ((Int × (Int × (Int × Int))))))))))) : Bool → List (Nat × Option MObj)
  | _ => []
theorem psalteryref34_Same_2.ok {K : Nat} {p0 : List ((Int × (Int × (List (Int) × (List (Int) × (List (Int) × List ((Int × (Int × (Int × Int))))))))))} {p1 : List ((Int × (Int × (List (Int) × (List (Int) × (List (Int) × List ((Int × (Int × (Int × Int))))))))))} {r : Bool} (h0 : psalteryref34_Same_2 K p0 p1 = some r) : Fn Tryd.prog 9 [.im (.slice (.pair (.int .i64) (.pair (.int .i64) (.pair (.slice (.int .i16)) (.pair (.slice (.int .u8)) (.pair (.slice (.int .u8)) (.slice (.pair (.int .i64) (.pair (.int .i64) (.pair (.int .i64) (.int .u32))))))))))) p0, .im (.slice (.pair (.int .i64) (.pair (.int .i64) (.pair (.slice (.int .i16)) (.pair (.slice (.int .u8)) (.pair (.slice (.int .u8)) (.slice (.pair (.int .i64) (.pair (.int .i64) (.pair (.int .i64) (.int .u32))))))))))) p1] [] (psalteryref34_Same_2.res p0 p1 r) (psalteryref34_Same_2.out p0 p1 r) := by
  refine Fn_of Tryd.func9 rfl (Nat.le_of_ble_eq_true rfl) fun Γ => ?_
  refine TC_seq ?_
  refine TC_reg ?_
  refine TL_ev env 1 rfl ⟨tv, tv⟩ ?_
  refine TL_end ?_
  refine TE_go ?_
  refine TC_seq ?_
  refine TC_seq ?_
  refine TC_reg ?_
  refine TL_ev env 5 rfl ⟨tv, ⟨⟨tv, tv⟩, ⟨tv, ⟨⟨tv, tv⟩, ⟨⟨tv, ⟨tv, tv⟩⟩, tv⟩⟩⟩⟩⟩ ?_
  refine TL_end ?_
  refine TE_go ?_
  refine TC_cond rfl (fun hb => ?_) (fun hb => ?_)
  · replace h0 := bif_t h0 hb
    refine TC_seq ?_
    refine TC_reg ?_
    refine TL_ev env 1 rfl ⟨tv, tv⟩ ?_
    refine TL_end ?_
    refine TE_go ?_
    refine TC_ret ?_
    refine tsr ?_
    obtain rfl := sinj h0
    exact TE_ret env rfl tv tv
  · replace h0 := bif_f h0 hb
    refine TC_skip ?_
    refine TE_go ?_
    refine TC_seq ?_
    refine TC_seq ?_
    refine TC_reg ?_
    refine TL_ev env 1 rfl ⟨tv, tv⟩ ?_
    refine TL_end ?_
    refine TE_go ?_
    obtain ⟨z1, h1, h0⟩ := bnd h0
    refine TC_cut (α := Unit) (fun _ => z1 = .inl ()) (fun _ => []) (fun _ => []) ?_ ?_
    · refine TC_blk ?_
      refine TC_loop (α := Int) (fun n s => psalteryref34_Same_2.l0 K p0 p1 n s = some z1) (fun s => [(0, .im (.slice (.pair (.int .i64) (.pair (.int .i64) (.pair (.slice (.int .i16)) (.pair (.slice (.int .u8)) (.pair (.slice (.int .u8)) (.slice (.pair (.int .i64) (.pair (.int .i64) (.pair (.int .i64) (.int .u32))))))))))) p0), (1, .im (.slice (.pair (.int .i64) (.pair (.int .i64) (.pair (.slice (.int .i16)) (.pair (.slice (.int .u8)) (.pair (.slice (.int .u8)) (.slice (.pair (.int .i64) (.pair (.int .i64) (.pair (.int .i64) (.int .u32))))))))))) p1), (5, .int .i64 s)]) (fun s => []) K ?_ ?_
      · exact SP_ren [] _ h1 ⟨rfl, rfl, rfl, tv⟩ tv rfl
      rintro n x46 h1
      rcases n with _ | n
      · exact (nsome h1).elim
      replace h1 : psalteryref34_Same_2.r0 K p0 p1 (psalteryref34_Same_2.l0 K p0 p1 n) x46 = some z1 := h1
      refine TC_seq ?_
      refine TC_seq ?_
      refine TC_reg ?_
      refine TL_ev env 4 rfl ⟨tv, ⟨tv, ⟨⟨tv, tv⟩, ⟨⟨tv, ⟨tv, tv⟩⟩, tv⟩⟩⟩⟩ ?_
      refine TL_end ?_
      refine TE_go ?_
      refine TC_cond rfl (fun hb => ?_) (fun hb => ?_)
      · replace h1 := bif_t h1 hb
        refine TC_skip ?_
        refine TE_go ?_
        refine TC_seq ?_
        refine TC_blk ?_
        refine TC_seq ?_
        refine TC_renw (A' := [(0, .im (.slice (.pair (.int .i64) (.pair (.int .i64) (.pair (.slice (.int .i16)) (.pair (.slice (.int .u8)) (.pair (.slice (.int .u8)) (.slice (.pair (.int .i64) (.pair (.int .i64) (.pair (.int .i64) (.int .u32))))))))))) _), (1, .im (.slice (.pair (.int .i64) (.pair (.int .i64) (.pair (.slice (.int .i16)) (.pair (.slice (.int .u8)) (.pair (.slice (.int .u8)) (.slice (.pair (.int .i64) (.pair (.int .i64) (.pair (.int .i64) (.int .u32))))))))))) _), (5, .int .i64 _)]) (L' := []) [] ⟨rfl, rfl, rfl, tv⟩ tv rfl ?_
        refine TC_drawR ⟨_, fun i => ([[], [], [1, 0], [2, 1, 0], [], [], [5, 4], [6, 5, 4], [], [], [9, 8, 3, 2, 1, 0], [10, 9, 8, 7, 6, 5, 4, 3, 2, 1, 0]] : List (List Nat)).getD i [], fun i => ([[], [], [], [], [], [], [], [], [1006], [1007], [1006], [1007]] : List (List Nat)).getD i [], fun i => ([[], [], [], [], [], [], [], [], [1006], [1007], [], []] : List (List Nat)).getD i []⟩ (fun i => ([[1006, 1007], [1006, 1007], [1006, 1007], [1006, 1007], [1006, 1007], [1006, 1007], [1006, 1007], [1006, 1007], [1007], [1006], [], []] : List (List Nat)).getD i []) (by kernel_rfl) (by kernel_rfl) ?_
        refine AJR_ev env 1 rfl (Nat.le_of_ble_eq_true rfl) rfl tv ?_
        refine AJR_ev env 2 rfl (Nat.le_of_ble_eq_true rfl) rfl tv ?_
        obtain ⟨g, h1⟩ := gd_t h1
        refine AJR_ev env 3 rfl (Nat.le_of_ble_eq_true rfl) rfl ⟨tv, ⟨tv, ⟨g.1, g.2⟩⟩⟩ ?_
        refine AJR_ev env 4 rfl (Nat.le_of_ble_eq_true rfl) rfl ⟨tv, tv⟩ ?_
        refine AJR_ev env 5 rfl (Nat.le_of_ble_eq_true rfl) rfl tv ?_
        refine AJR_ev env 6 rfl (Nat.le_of_ble_eq_true rfl) rfl tv ?_
        obtain ⟨g, h1⟩ := gd_t h1
        refine AJR_ev env 7 rfl (Nat.le_of_ble_eq_true rfl) rfl ⟨tv, ⟨tv, ⟨g.1, g.2⟩⟩⟩ ?_
        refine AJR_ev env 8 rfl (Nat.le_of_ble_eq_true rfl) rfl ⟨tv, tv⟩ ?_
        refine AJR_ev env 9 rfl (Nat.le_of_ble_eq_true rfl) rfl tv ?_
        refine AJR_ev env 10 rfl (Nat.le_of_ble_eq_true rfl) rfl tv ?_
        refine AJR_ev env 11 rfl (Nat.le_of_ble_eq_true rfl) rfl ⟨tv, tv⟩ ?_
        refine AJR_ev env 12 rfl (Nat.le_of_ble_eq_true rfl) rfl ⟨tv, tv⟩ ?_
        refine AJR_end rfl rfl rfl ?_
        refine TE_go ?_
        refine TC_seq ?_
        refine TC_seq ?_
        refine TC_reg ?_
        refine TL_ev env 48 rfl ⟨tv, ⟨⟨tv, tv⟩, ⟨tv, ⟨⟨tv, tv⟩, ⟨⟨tv, ⟨tv, tv⟩⟩, ⟨tv, ⟨fun eg => tv, ⟨fun eg => ⟨fun e => e, tv⟩, ⟨fun eg => tv, ⟨fun eg => ⟨fun e => e, tv⟩, ⟨fun eg => ⟨fun e => e, ⟨fun e => e, tv⟩⟩, ⟨⟨tv, ⟨tv, fun e => e⟩⟩, ⟨tv, ⟨fun eg => tv, ⟨fun eg => ⟨fun e => e, tv⟩, ⟨fun eg => fun e => e, ⟨fun eg => tv, ⟨fun eg => ⟨fun e => e, tv⟩, ⟨fun eg => fun e => e, ⟨fun eg => ⟨fun e => e, ⟨fun e => e, tv⟩⟩, ⟨⟨tv, ⟨tv, fun e => e⟩⟩, ⟨tv, ⟨fun eg => tv, ⟨fun eg => ⟨fun e => e, tv⟩, ⟨fun eg => fun e => e, ⟨fun eg => tv, ⟨fun eg => ⟨fun e => e, tv⟩, ⟨fun eg => fun e => e, ⟨fun eg => ⟨fun e => e, ⟨fun e => e, tv⟩⟩, ⟨⟨tv, ⟨tv, fun e => e⟩⟩, ⟨tv, ⟨fun eg => tv, ⟨fun eg => ⟨fun e => e, tv⟩, ⟨fun eg => ⟨fun e => e, tv⟩, ⟨fun eg => tv, ⟨fun eg => ⟨fun e => e, tv⟩, ⟨fun eg => ⟨fun e => e, tv⟩, ⟨fun eg => ⟨fun e => e, ⟨fun e => e, tv⟩⟩, ⟨⟨tv, ⟨tv, fun e => e⟩⟩, ⟨tv, ⟨fun eg => tv, ⟨fun eg => ⟨fun e => e, tv⟩, ⟨fun eg => ⟨fun e => e, tv⟩, ⟨fun eg => tv, ⟨fun eg => ⟨fun e => e, tv⟩, ⟨fun eg => ⟨fun e => e, tv⟩, ⟨fun eg => ⟨fun e => e, ⟨fun e => e, tv⟩⟩, ⟨⟨tv, ⟨tv, fun e => e⟩⟩, tv⟩⟩⟩⟩⟩⟩⟩⟩⟩⟩⟩⟩⟩⟩⟩⟩⟩⟩⟩⟩⟩⟩⟩⟩⟩⟩⟩⟩⟩⟩⟩⟩⟩⟩⟩⟩⟩⟩⟩⟩⟩⟩⟩⟩⟩⟩⟩⟩ ?_
        refine TL_end ?_
        refine TE_go ?_
        refine TC_cond rfl (fun hb => ?_) (fun hb => ?_)
        · replace h1 := bif_t h1 hb
          refine TC_seq ?_
          refine TC_reg ?_
          refine TL_ev env 1 rfl ⟨tv, tv⟩ ?_
          refine TL_end ?_
          refine TE_go ?_
          refine TC_ret ?_
          refine tsr ?_
          refine tbr ?_
          refine tsr ?_
          refine tsr ?_
          refine tbr ?_
          refine tsr ?_
          refine tsr ?_
          obtain rfl := sinj h1
          obtain rfl := sinj h0
          exact TE_ret env rfl tv tv
        · replace h1 := bif_f h1 hb
          refine TC_skip ?_
          refine TE_go ?_
          refine TC_seq ?_
          refine TC_seq ?_
          refine TC_reg ?_
          refine TL_ev env 1 rfl ⟨tv, tv⟩ ?_
          refine TL_end ?_
          refine TE_go ?_
          obtain ⟨z2, h2, h1⟩ := bnd h1
          refine TC_cut (α := Unit) (fun _ => z2 = .inl ()) (fun _ => [(0, .im (.slice (.pair (.int .i64) (.pair (.int .i64) (.pair (.slice (.int .i16)) (.pair (.slice (.int .u8)) (.pair (.slice (.int .u8)) (.slice (.pair (.int .i64) (.pair (.int .i64) (.pair (.int .i64) (.int .u32))))))))))) p0), (1, .im (.slice (.pair (.int .i64) (.pair (.int .i64) (.pair (.slice (.int .i16)) (.pair (.slice (.int .u8)) (.pair (.slice (.int .u8)) (.slice (.pair (.int .i64) (.pair (.int .i64) (.pair (.int .i64) (.int .u32))))))))))) p1), (5, .int .i64 x46), (6, .p 21900 0), (7, .p 21901 0)]) (fun _ => [(21900, some (.cells [.int .i64 (Kd.nth (.pair (.int .i64) (.pair (.int .i64) (.pair (.slice (.int .i16)) (.pair (.slice (.int .u8)) (.pair (.slice (.int .u8)) (.slice (.pair (.int .i64) (.pair (.int .i64) (.pair (.int .i64) (.int .u32)))))))))) p0 (Int.toNat x46)).1, .int .i64 (Kd.nth (.pair (.int .i64) (.pair (.int .i64) (.pair (.slice (.int .i16)) (.pair (.slice (.int .u8)) (.pair (.slice (.int .u8)) (.slice (.pair (.int .i64) (.pair (.int .i64) (.pair (.int .i64) (.int .u32)))))))))) p0 (Int.toNat x46)).2.1, .im (.slice (.int .i16)) (Kd.nth (.pair (.int .i64) (.pair (.int .i64) (.pair (.slice (.int .i16)) (.pair (.slice (.int .u8)) (.pair (.slice (.int .u8)) (.slice (.pair (.int .i64) (.pair (.int .i64) (.pair (.int .i64) (.int .u32)))))))))) p0 (Int.toNat x46)).2.2.1, .im (.slice (.int .u8)) (Kd.nth (.pair (.int .i64) (.pair (.int .i64) (.pair (.slice (.int .i16)) (.pair (.slice (.int .u8)) (.pair (.slice (.int .u8)) (.slice (.pair (.int .i64) (.pair (.int .i64) (.pair (.int .i64) (.int .u32)))))))))) p0 (Int.toNat x46)).2.2.2.1, .im (.slice (.int .u8)) (Kd.nth (.pair (.int .i64) (.pair (.int .i64) (.pair (.slice (.int .i16)) (.pair (.slice (.int .u8)) (.pair (.slice (.int .u8)) (.slice (.pair (.int .i64) (.pair (.int .i64) (.pair (.int .i64) (.int .u32)))))))))) p0 (Int.toNat x46)).2.2.2.2.1, .im (.slice (.pair (.int .i64) (.pair (.int .i64) (.pair (.int .i64) (.int .u32))))) (Kd.nth (.pair (.int .i64) (.pair (.int .i64) (.pair (.slice (.int .i16)) (.pair (.slice (.int .u8)) (.pair (.slice (.int .u8)) (.slice (.pair (.int .i64) (.pair (.int .i64) (.pair (.int .i64) (.int .u32)))))))))) p0 (Int.toNat x46)).2.2.2.2.2])), (21901, some (.cells [.int .i64 (Kd.nth (.pair (.int .i64) (.pair (.int .i64) (.pair (.slice (.int .i16)) (.pair (.slice (.int .u8)) (.pair (.slice (.int .u8)) (.slice (.pair (.int .i64) (.pair (.int .i64) (.pair (.int .i64) (.int .u32)))))))))) p1 (Int.toNat x46)).1, .int .i64 (Kd.nth (.pair (.int .i64) (.pair (.int .i64) (.pair (.slice (.int .i16)) (.pair (.slice (.int .u8)) (.pair (.slice (.int .u8)) (.slice (.pair (.int .i64) (.pair (.int .i64) (.pair (.int .i64) (.int .u32)))))))))) p1 (Int.toNat x46)).2.1, .im (.slice (.int .i16)) (Kd.nth (.pair (.int .i64) (.pair (.int .i64) (.pair (.slice (.int .i16)) (.pair (.slice (.int .u8)) (.pair (.slice (.int .u8)) (.slice (.pair (.int .i64) (.pair (.int .i64) (.pair (.int .i64) (.int .u32)))))))))) p1 (Int.toNat x46)).2.2.1, .im (.slice (.int .u8)) (Kd.nth (.pair (.int .i64) (.pair (.int .i64) (.pair (.slice (.int .i16)) (.pair (.slice (.int .u8)) (.pair (.slice (.int .u8)) (.slice (.pair (.int .i64) (.pair (.int .i64) (.pair (.int .i64) (.int .u32)))))))))) p1 (Int.toNat x46)).2.2.2.1, .im (.slice (.int .u8)) (Kd.nth (.pair (.int .i64) (.pair (.int .i64) (.pair (.slice (.int .i16)) (.pair (.slice (.int .u8)) (.pair (.slice (.int .u8)) (.slice (.pair (.int .i64) (.pair (.int .i64) (.pair (.int .i64) (.int .u32)))))))))) p1 (Int.toNat x46)).2.2.2.2.1, .im (.slice (.pair (.int .i64) (.pair (.int .i64) (.pair (.int .i64) (.int .u32))))) (Kd.nth (.pair (.int .i64) (.pair (.int .i64) (.pair (.slice (.int .i16)) (.pair (.slice (.int .u8)) (.pair (.slice (.int .u8)) (.slice (.pair (.int .i64) (.pair (.int .i64) (.pair (.int .i64) (.int .u32)))))))))) p1 (Int.toNat x46)).2.2.2.2.2]))]) ?_ ?_
          · refine TC_blk ?_
            refine TC_loop (α := Int) (fun n s => psalteryref34_Same_2.l2 K p0 p1 x46 ((Kd.nth (.pair (.int .i64) (.pair (.int .i64) (.pair (.slice (.int .i16)) (.pair (.slice (.int .u8)) (.pair (.slice (.int .u8)) (.slice (.pair (.int .i64) (.pair (.int .i64) (.pair (.int .i64) (.int .u32)))))))))) p0 (Int.toNat x46)).1) ((Kd.nth (.pair (.int .i64) (.pair (.int .i64) (.pair (.slice (.int .i16)) (.pair (.slice (.int .u8)) (.pair (.slice (.int .u8)) (.slice (.pair (.int .i64) (.pair (.int .i64) (.pair (.int .i64) (.int .u32)))))))))) p0 (Int.toNat x46)).2.1) ((Kd.nth (.pair (.int .i64) (.pair (.int .i64) (.pair (.slice (.int .i16)) (.pair (.slice (.int .u8)) (.pair (.slice (.int .u8)) (.slice (.pair (.int .i64) (.pair (.int .i64) (.pair (.int .i64) (.int .u32)))))))))) p0 (Int.toNat x46)).2.2.1) ((Kd.nth (.pair (.int .i64) (.pair (.int .i64) (.pair (.slice (.int .i16)) (.pair (.slice (.int .u8)) (.pair (.slice (.int .u8)) (.slice (.pair (.int .i64) (.pair (.int .i64) (.pair (.int .i64) (.int .u32)))))))))) p0 (Int.toNat x46)).2.2.2.1) ((Kd.nth (.pair (.int .i64) (.pair (.int .i64) (.pair (.slice (.int .i16)) (.pair (.slice (.int .u8)) (.pair (.slice (.int .u8)) (.slice (.pair (.int .i64) (.pair (.int .i64) (.pair (.int .i64) (.int .u32)))))))))) p0 (Int.toNat x46)).2.2.2.2.1) ((Kd.nth (.pair (.int .i64) (.pair (.int .i64) (.pair (.slice (.int .i16)) (.pair (.slice (.int .u8)) (.pair (.slice (.int .u8)) (.slice (.pair (.int .i64) (.pair (.int .i64) (.pair (.int .i64) (.int .u32)))))))))) p0 (Int.toNat x46)).2.2.2.2.2) ((Kd.nth (.pair (.int .i64) (.pair (.int .i64) (.pair (.slice (.int .i16)) (.pair (.slice (.int .u8)) (.pair (.slice (.int .u8)) (.slice (.pair (.int .i64) (.pair (.int .i64) (.pair (.int .i64) (.int .u32)))))))))) p1 (Int.toNat x46)).1) ((Kd.nth (.pair (.int .i64) (.pair (.int .i64) (.pair (.slice (.int .i16)) (.pair (.slice (.int .u8)) (.pair (.slice (.int .u8)) (.slice (.pair (.int .i64) (.pair (.int .i64) (.pair (.int .i64) (.int .u32)))))))))) p1 (Int.toNat x46)).2.1) ((Kd.nth (.pair (.int .i64) (.pair (.int .i64) (.pair (.slice (.int .i16)) (.pair (.slice (.int .u8)) (.pair (.slice (.int .u8)) (.slice (.pair (.int .i64) (.pair (.int .i64) (.pair (.int .i64) (.int .u32)))))))))) p1 (Int.toNat x46)).2.2.1) ((Kd.nth (.pair (.int .i64) (.pair (.int .i64) (.pair (.slice (.int .i16)) (.pair (.slice (.int .u8)) (.pair (.slice (.int .u8)) (.slice (.pair (.int .i64) (.pair (.int .i64) (.pair (.int .i64) (.int .u32)))))))))) p1 (Int.toNat x46)).2.2.2.1) ((Kd.nth (.pair (.int .i64) (.pair (.int .i64) (.pair (.slice (.int .i16)) (.pair (.slice (.int .u8)) (.pair (.slice (.int .u8)) (.slice (.pair (.int .i64) (.pair (.int .i64) (.pair (.int .i64) (.int .u32)))))))))) p1 (Int.toNat x46)).2.2.2.2.1) ((Kd.nth (.pair (.int .i64) (.pair (.int .i64) (.pair (.slice (.int .i16)) (.pair (.slice (.int .u8)) (.pair (.slice (.int .u8)) (.slice (.pair (.int .i64) (.pair (.int .i64) (.pair (.int .i64) (.int .u32)))))))))) p1 (Int.toNat x46)).2.2.2.2.2) n s = some z2) (fun s => [(0, .im (.slice (.pair (.int .i64) (.pair (.int .i64) (.pair (.slice (.int .i16)) (.pair (.slice (.int .u8)) (.pair (.slice (.int .u8)) (.slice (.pair (.int .i64) (.pair (.int .i64) (.pair (.int .i64) (.int .u32))))))))))) p0), (1, .im (.slice (.pair (.int .i64) (.pair (.int .i64) (.pair (.slice (.int .i16)) (.pair (.slice (.int .u8)) (.pair (.slice (.int .u8)) (.slice (.pair (.int .i64) (.pair (.int .i64) (.pair (.int .i64) (.int .u32))))))))))) p1), (5, .int .i64 x46), (6, .p 22800 0), (7, .p 22801 0), (8, .int .i64 s)]) (fun s => [(22800, some (.cells [.int .i64 (Kd.nth (.pair (.int .i64) (.pair (.int .i64) (.pair (.slice (.int .i16)) (.pair (.slice (.int .u8)) (.pair (.slice (.int .u8)) (.slice (.pair (.int .i64) (.pair (.int .i64) (.pair (.int .i64) (.int .u32)))))))))) p0 (Int.toNat x46)).1, .int .i64 (Kd.nth (.pair (.int .i64) (.pair (.int .i64) (.pair (.slice (.int .i16)) (.pair (.slice (.int .u8)) (.pair (.slice (.int .u8)) (.slice (.pair (.int .i64) (.pair (.int .i64) (.pair (.int .i64) (.int .u32)))))))))) p0 (Int.toNat x46)).2.1, .im (.slice (.int .i16)) (Kd.nth (.pair (.int .i64) (.pair (.int .i64) (.pair (.slice (.int .i16)) (.pair (.slice (.int .u8)) (.pair (.slice (.int .u8)) (.slice (.pair (.int .i64) (.pair (.int .i64) (.pair (.int .i64) (.int .u32)))))))))) p0 (Int.toNat x46)).2.2.1, .im (.slice (.int .u8)) (Kd.nth (.pair (.int .i64) (.pair (.int .i64) (.pair (.slice (.int .i16)) (.pair (.slice (.int .u8)) (.pair (.slice (.int .u8)) (.slice (.pair (.int .i64) (.pair (.int .i64) (.pair (.int .i64) (.int .u32)))))))))) p0 (Int.toNat x46)).2.2.2.1, .im (.slice (.int .u8)) (Kd.nth (.pair (.int .i64) (.pair (.int .i64) (.pair (.slice (.int .i16)) (.pair (.slice (.int .u8)) (.pair (.slice (.int .u8)) (.slice (.pair (.int .i64) (.pair (.int .i64) (.pair (.int .i64) (.int .u32)))))))))) p0 (Int.toNat x46)).2.2.2.2.1, .im (.slice (.pair (.int .i64) (.pair (.int .i64) (.pair (.int .i64) (.int .u32))))) (Kd.nth (.pair (.int .i64) (.pair (.int .i64) (.pair (.slice (.int .i16)) (.pair (.slice (.int .u8)) (.pair (.slice (.int .u8)) (.slice (.pair (.int .i64) (.pair (.int .i64) (.pair (.int .i64) (.int .u32)))))))))) p0 (Int.toNat x46)).2.2.2.2.2])), (22801, some (.cells [.int .i64 (Kd.nth (.pair (.int .i64) (.pair (.int .i64) (.pair (.slice (.int .i16)) (.pair (.slice (.int .u8)) (.pair (.slice (.int .u8)) (.slice (.pair (.int .i64) (.pair (.int .i64) (.pair (.int .i64) (.int .u32)))))))))) p1 (Int.toNat x46)).1, .int .i64 (Kd.nth (.pair (.int .i64) (.pair (.int .i64) (.pair (.slice (.int .i16)) (.pair (.slice (.int .u8)) (.pair (.slice (.int .u8)) (.slice (.pair (.int .i64) (.pair (.int .i64) (.pair (.int .i64) (.int .u32)))))))))) p1 (Int.toNat x46)).2.1, .im (.slice (.int .i16)) (Kd.nth (.pair (.int .i64) (.pair (.int .i64) (.pair (.slice (.int .i16)) (.pair (.slice (.int .u8)) (.pair (.slice (.int .u8)) (.slice (.pair (.int .i64) (.pair (.int .i64) (.pair (.int .i64) (.int .u32)))))))))) p1 (Int.toNat x46)).2.2.1, .im (.slice (.int .u8)) (Kd.nth (.pair (.int .i64) (.pair (.int .i64) (.pair (.slice (.int .i16)) (.pair (.slice (.int .u8)) (.pair (.slice (.int .u8)) (.slice (.pair (.int .i64) (.pair (.int .i64) (.pair (.int .i64) (.int .u32)))))))))) p1 (Int.toNat x46)).2.2.2.1, .im (.slice (.int .u8)) (Kd.nth (.pair (.int .i64) (.pair (.int .i64) (.pair (.slice (.int .i16)) (.pair (.slice (.int .u8)) (.pair (.slice (.int .u8)) (.slice (.pair (.int .i64) (.pair (.int .i64) (.pair (.int .i64) (.int .u32)))))))))) p1 (Int.toNat x46)).2.2.2.2.1, .im (.slice (.pair (.int .i64) (.pair (.int .i64) (.pair (.int .i64) (.int .u32))))) (Kd.nth (.pair (.int .i64) (.pair (.int .i64) (.pair (.slice (.int .i16)) (.pair (.slice (.int .u8)) (.pair (.slice (.int .u8)) (.slice (.pair (.int .i64) (.pair (.int .i64) (.pair (.int .i64) (.int .u32)))))))))) p1 (Int.toNat x46)).2.2.2.2.2]))]) K ?_ ?_
            · exact SP_ren [(22800, 1006), (22801, 1007)] _ h2 ⟨rfl, rfl, rfl, rfl, rfl, rfl, tv⟩ ⟨rfl, rfl, tv⟩ rfl
            rintro n x93 h2
            rcases n with _ | n
            · exact (nsome h2).elim
            replace h2 : psalteryref34_Same_2.r2 K p0 p1 x46 ((Kd.nth (.pair (.int .i64) (.pair (.int .i64) (.pair (.slice (.int .i16)) (.pair (.slice (.int .u8)) (.pair (.slice (.int .u8)) (.slice (.pair (.int .i64) (.pair (.int .i64) (.pair (.int .i64) (.int .u32)))))))))) p0 (Int.toNat x46)).1) ((Kd.nth (.pair (.int .i64) (.pair (.int .i64) (.pair (.slice (.int .i16)) (.pair (.slice (.int .u8)) (.pair (.slice (.int .u8)) (.slice (.pair (.int .i64) (.pair (.int .i64) (.pair (.int .i64) (.int .u32)))))))))) p0 (Int.toNat x46)).2.1) ((Kd.nth (.pair (.int .i64) (.pair (.int .i64) (.pair (.slice (.int .i16)) (.pair (.slice (.int .u8)) (.pair (.slice (.int .u8)) (.slice (.pair (.int .i64) (.pair (.int .i64) (.pair (.int .i64) (.int .u32)))))))))) p0 (Int.toNat x46)).2.2.1) ((Kd.nth (.pair (.int .i64) (.pair (.int .i64) (.pair (.slice (.int .i16)) (.pair (.slice (.int .u8)) (.pair (.slice (.int .u8)) (.slice (.pair (.int .i64) (.pair (.int .i64) (.pair (.int .i64) (.int .u32)))))))))) p0 (Int.toNat x46)).2.2.2.1) ((Kd.nth (.pair (.int .i64) (.pair (.int .i64) (.pair (.slice (.int .i16)) (.pair (.slice (.int .u8)) (.pair (.slice (.int .u8)) (.slice (.pair (.int .i64) (.pair (.int .i64) (.pair (.int .i64) (.int .u32)))))))))) p0 (Int.toNat x46)).2.2.2.2.1) ((Kd.nth (.pair (.int .i64) (.pair (.int .i64) (.pair (.slice (.int .i16)) (.pair (.slice (.int .u8)) (.pair (.slice (.int .u8)) (.slice (.pair (.int .i64) (.pair (.int .i64) (.pair (.int .i64) (.int .u32)))))))))) p0 (Int.toNat x46)).2.2.2.2.2) ((Kd.nth (.pair (.int .i64) (.pair (.int .i64) (.pair (.slice (.int .i16)) (.pair (.slice (.int .u8)) (.pair (.slice (.int .u8)) (.slice (.pair (.int .i64) (.pair (.int .i64) (.pair (.int .i64) (.int .u32)))))))))) p1 (Int.toNat x46)).1) ((Kd.nth (.pair (.int .i64) (.pair (.int .i64) (.pair (.slice (.int .i16)) (.pair (.slice (.int .u8)) (.pair (.slice (.int .u8)) (.slice (.pair (.int .i64) (.pair (.int .i64) (.pair (.int .i64) (.int .u32)))))))))) p1 (Int.toNat x46)).2.1) ((Kd.nth (.pair (.int .i64) (.pair (.int .i64) (.pair (.slice (.int .i16)) (.pair (.slice (.int .u8)) (.pair (.slice (.int .u8)) (.slice (.pair (.int .i64) (.pair (.int .i64) (.pair (.int .i64) (.int .u32)))))))))) p1 (Int.toNat x46)).2.2.1) ((Kd.nth (.pair (.int .i64) (.pair (.int .i64) (.pair (.slice (.int .i16)) (.pair (.slice (.int .u8)) (.pair (.slice (.int .u8)) (.slice (.pair (.int .i64) (.pair (.int .i64) (.pair (.int .i64) (.int .u32)))))))))) p1 (Int.toNat x46)).2.2.2.1) ((Kd.nth (.pair (.int .i64) (.pair (.int .i64) (.pair (.slice (.int .i16)) (.pair (.slice (.int .u8)) (.pair (.slice (.int .u8)) (.slice (.pair (.int .i64) (.pair (.int .i64) (.pair (.int .i64) (.int .u32)))))))))) p1 (Int.toNat x46)).2.2.2.2.1) ((Kd.nth (.pair (.int .i64) (.pair (.int .i64) (.pair (.slice (.int .i16)) (.pair (.slice (.int .u8)) (.pair (.slice (.int .u8)) (.slice (.pair (.int .i64) (.pair (.int .i64) (.pair (.int .i64) (.int .u32)))))))))) p1 (Int.toNat x46)).2.2.2.2.2) (psalteryref34_Same_2.l2 K p0 p1 x46 ((Kd.nth (.pair (.int .i64) (.pair (.int .i64) (.pair (.slice (.int .i16)) (.pair (.slice (.int .u8)) (.pair (.slice (.int .u8)) (.slice (.pair (.int .i64) (.pair (.int .i64) (.pair (.int .i64) (.int .u32)))))))))) p0 (Int.toNat x46)).1) ((Kd.nth (.pair (.int .i64) (.pair (.int .i64) (.pair (.slice (.int .i16)) (.pair (.slice (.int .u8)) (.pair (.slice (.int .u8)) (.slice (.pair (.int .i64) (.pair (.int .i64) (.pair (.int .i64) (.int .u32)))))))))) p0 (Int.toNat x46)).2.1) ((Kd.nth (.pair (.int .i64) (.pair (.int .i64) (.pair (.slice (.int .i16)) (.pair (.slice (.int .u8)) (.pair (.slice (.int .u8)) (.slice (.pair (.int .i64) (.pair (.int .i64) (.pair (.int .i64) (.int .u32)))))))))) p0 (Int.toNat x46)).2.2.1) ((Kd.nth (.pair (.int .i64) (.pair (.int .i64) (.pair (.slice (.int .i16)) (.pair (.slice (.int .u8)) (.pair (.slice (.int .u8)) (.slice (.pair (.int .i64) (.pair (.int .i64) (.pair (.int .i64) (.int .u32)))))))))) p0 (Int.toNat x46)).2.2.2.1) ((Kd.nth (.pair (.int .i64) (.pair (.int .i64) (.pair (.slice (.int .i16)) (.pair (.slice (.int .u8)) (.pair (.slice (.int .u8)) (.slice (.pair (.int .i64) (.pair (.int .i64) (.pair (.int .i64) (.int .u32)))))))))) p0 (Int.toNat x46)).2.2.2.2.1) ((Kd.nth (.pair (.int .i64) (.pair (.int .i64) (.pair (.slice (.int .i16)) (.pair (.slice (.int .u8)) (.pair (.slice (.int .u8)) (.slice (.pair (.int .i64) (.pair (.int .i64) (.pair (.int .i64) (.int .u32)))))))))) p0 (Int.toNat x46)).2.2.2.2.2) ((Kd.nth (.pair (.int .i64) (.pair (.int .i64) (.pair (.slice (.int .i16)) (.pair (.slice (.int .u8)) (.pair (.slice (.int .u8)) (.slice (.pair (.int .i64) (.pair (.int .i64) (.pair (.int .i64) (.int .u32)))))))))) p1 (Int.toNat x46)).1) ((Kd.nth (.pair (.int .i64) (.pair (.int .i64) (.pair (.slice (.int .i16)) (.pair (.slice (.int .u8)) (.pair (.slice (.int .u8)) (.slice (.pair (.int .i64) (.pair (.int .i64) (.pair (.int .i64) (.int .u32)))))))))) p1 (Int.toNat x46)).2.1) ((Kd.nth (.pair (.int .i64) (.pair (.int .i64) (.pair (.slice (.int .i16)) (.pair (.slice (.int .u8)) (.pair (.slice (.int .u8)) (.slice (.pair (.int .i64) (.pair (.int .i64) (.pair (.int .i64) (.int .u32)))))))))) p1 (Int.toNat x46)).2.2.1) ((Kd.nth (.pair (.int .i64) (.pair (.int .i64) (.pair (.slice (.int .i16)) (.pair (.slice (.int .u8)) (.pair (.slice (.int .u8)) (.slice (.pair (.int .i64) (.pair (.int .i64) (.pair (.int .i64) (.int .u32)))))))))) p1 (Int.toNat x46)).2.2.2.1) ((Kd.nth (.pair (.int .i64) (.pair (.int .i64) (.pair (.slice (.int .i16)) (.pair (.slice (.int .u8)) (.pair (.slice (.int .u8)) (.slice (.pair (.int .i64) (.pair (.int .i64) (.pair (.int .i64) (.int .u32)))))))))) p1 (Int.toNat x46)).2.2.2.2.1) ((Kd.nth (.pair (.int .i64) (.pair (.int .i64) (.pair (.slice (.int .i16)) (.pair (.slice (.int .u8)) (.pair (.slice (.int .u8)) (.slice (.pair (.int .i64) (.pair (.int .i64) (.pair (.int .i64) (.int .u32)))))))))) p1 (Int.toNat x46)).2.2.2.2.2) n) x93 = some z2 := h2
            refine TC_seq ?_
            refine TC_seq ?_
            refine TC_reg ?_
            refine TL_ev env 5 rfl ⟨tv, ⟨tv, ⟨⟨tv, tv⟩, ⟨⟨tv, tv⟩, ⟨⟨tv, ⟨tv, tv⟩⟩, tv⟩⟩⟩⟩⟩ ?_
            refine TL_end ?_
            refine TE_go ?_
            refine TC_cond rfl (fun hb => ?_) (fun hb => ?_)
            · replace h2 := bif_t h2 hb
              refine TC_skip ?_
              refine TE_go ?_
              refine TC_seq ?_
              refine TC_blk ?_
              refine TC_seq ?_
              refine TC_renw (A' := [(0, .im (.slice (.pair (.int .i64) (.pair (.int .i64) (.pair (.slice (.int .i16)) (.pair (.slice (.int .u8)) (.pair (.slice (.int .u8)) (.slice (.pair (.int .i64) (.pair (.int .i64) (.pair (.int .i64) (.int .u32))))))))))) _), (1, .im (.slice (.pair (.int .i64) (.pair (.int .i64) (.pair (.slice (.int .i16)) (.pair (.slice (.int .u8)) (.pair (.slice (.int .u8)) (.slice (.pair (.int .i64) (.pair (.int .i64) (.pair (.int .i64) (.int .u32))))))))))) _), (5, .int .i64 _), (6, .p 22800 0), (7, .p 22801 0), (8, .int .i64 _)]) (L' := [(22800, some (.cells [.int .i64 _, .int .i64 _, .im (.slice (.int .i16)) _, .im (.slice (.int .u8)) _, .im (.slice (.int .u8)) _, .im (.slice (.pair (.int .i64) (.pair (.int .i64) (.pair (.int .i64) (.int .u32))))) _])), (22801, some (.cells [.int .i64 _, .int .i64 _, .im (.slice (.int .i16)) _, .im (.slice (.int .u8)) _, .im (.slice (.int .u8)) _, .im (.slice (.pair (.int .i64) (.pair (.int .i64) (.pair (.int .i64) (.int .u32))))) _]))]) [] ⟨rfl, rfl, rfl, rfl, rfl, rfl, tv⟩ ⟨rfl, rfl, tv⟩ rfl ?_
              refine TC_drawR ⟨_, fun i => ([[], [0], [], [2, 1, 0], [3, 2, 1, 0], [], [5], [], [7, 6, 5], [8, 7, 6, 5], [9, 8, 7, 6, 5, 4, 3, 2, 1, 0]] : List (List Nat)).getD i [], fun i => ([[], [], [], [], [], [], [], [], [], [], []] : List (List Nat)).getD i [], fun i => ([[], [], [], [], [], [], [], [], [], [], []] : List (List Nat)).getD i []⟩ (fun i => ([[], [], [], [], [], [], [], [], [], [], []] : List (List Nat)).getD i []) (by kernel_rfl) (by kernel_rfl) ?_
              refine AJR_ev env 1 rfl (Nat.le_of_ble_eq_true rfl) rfl tv ?_
              refine AJR_ev env 2 rfl (Nat.le_of_ble_eq_true rfl) rfl ⟨tv, tv⟩ ?_
              refine AJR_ev env 3 rfl (Nat.le_of_ble_eq_true rfl) rfl tv ?_
              obtain ⟨g, h2⟩ := gd_t h2
              refine AJR_ev env 4 rfl (Nat.le_of_ble_eq_true rfl) rfl ⟨tv, ⟨tv, ⟨g.1, g.2⟩⟩⟩ ?_
              refine AJR_ev env 5 rfl (Nat.le_of_ble_eq_true rfl) rfl ⟨tv, tv⟩ ?_
              refine AJR_ev env 6 rfl (Nat.le_of_ble_eq_true rfl) rfl tv ?_
              refine AJR_ev env 7 rfl (Nat.le_of_ble_eq_true rfl) rfl ⟨tv, tv⟩ ?_
              refine AJR_ev env 8 rfl (Nat.le_of_ble_eq_true rfl) rfl tv ?_
              obtain ⟨g, h2⟩ := gd_t h2
              refine AJR_ev env 9 rfl (Nat.le_of_ble_eq_true rfl) rfl ⟨tv, ⟨tv, ⟨g.1, g.2⟩⟩⟩ ?_
              refine AJR_ev env 10 rfl (Nat.le_of_ble_eq_true rfl) rfl ⟨tv, tv⟩ ?_
              refine AJR_ev env 11 rfl (Nat.le_of_ble_eq_true rfl) rfl ⟨tv, ⟨tv, tv⟩⟩ ?_
              refine AJR_end rfl rfl rfl ?_
              refine TE_go ?_
              refine TC_cond rfl (fun hb => ?_) (fun hb => ?_)
              · replace h2 := bif_t h2 hb
                refine TC_seq ?_
                refine TC_reg ?_
                refine TL_ev env 1 rfl ⟨tv, tv⟩ ?_
                refine TL_end ?_
                refine TE_go ?_
                refine TC_ret ?_
                refine tbr ?_
                refine tsr ?_
                refine tsr ?_
                refine tbr ?_
                refine tsr ?_
                refine tsr ?_
                refine tbr ?_
                refine tsr ?_
                refine tsr ?_
                refine tbr ?_
                refine tsr ?_
                refine tsr ?_
                obtain rfl := sinj h2
                obtain rfl := sinj h1
                obtain rfl := sinj h0
                exact TE_ret env rfl tv tv
              · replace h2 := bif_f h2 hb
                refine TC_skip ?_
                refine tbn ?_
                refine TE_go ?_
                refine TC_reg ?_
                refine TL_ev env 3 rfl ⟨tv, ⟨⟨tv, ⟨tv, tv⟩⟩, ⟨tv, tv⟩⟩⟩ ?_
                refine TL_end ?_
                refine tsn ?_
                exact TE_nextr [(22800, 22800), (22801, 22801)] n (Nat.lt_succ_self n) _ h2 ⟨rfl, rfl, rfl, rfl, rfl, rfl, tv⟩ ⟨rfl, rfl, tv⟩ rfl
            · replace h2 := bif_f h2 hb
              refine TC_exit ?_
              refine tsx ?_
              refine tsx ?_
              refine tbe ?_
              obtain rfl := sinj h2
              refine tsn ?_
              exact SP_ren [(21900, 22800), (21901, 22801)] () rfl ⟨rfl, rfl, rfl, rfl, rfl, tv⟩ ⟨rfl, rfl, tv⟩ rfl
          · rintro ⟨⟩ rfl
            refine TE_go ?_
            refine TC_seq ?_
            refine TC_reg ?_
            refine TL_ev env 1 rfl ⟨tv, tv⟩ ?_
            refine TL_end ?_
            refine TE_go ?_
            obtain ⟨z2, h2, h1⟩ := bnd h1
            refine TC_cut (α := Unit) (fun _ => z2 = .inl ()) (fun _ => [(0, .im (.slice (.pair (.int .i64) (.pair (.int .i64) (.pair (.slice (.int .i16)) (.pair (.slice (.int .u8)) (.pair (.slice (.int .u8)) (.slice (.pair (.int .i64) (.pair (.int .i64) (.pair (.int .i64) (.int .u32))))))))))) p0), (1, .im (.slice (.pair (.int .i64) (.pair (.int .i64) (.pair (.slice (.int .i16)) (.pair (.slice (.int .u8)) (.pair (.slice (.int .u8)) (.slice (.pair (.int .i64) (.pair (.int .i64) (.pair (.int .i64) (.int .u32))))))))))) p1), (5, .int .i64 x46)]) (fun _ => []) ?_ ?_
            · refine TC_blk ?_
              refine TC_loop (α := Int) (fun n s => psalteryref34_Same_2.l1 K p0 p1 x46 ((Kd.nth (.pair (.int .i64) (.pair (.int .i64) (.pair (.slice (.int .i16)) (.pair (.slice (.int .u8)) (.pair (.slice (.int .u8)) (.slice (.pair (.int .i64) (.pair (.int .i64) (.pair (.int .i64) (.int .u32)))))))))) p0 (Int.toNat x46)).1) ((Kd.nth (.pair (.int .i64) (.pair (.int .i64) (.pair (.slice (.int .i16)) (.pair (.slice (.int .u8)) (.pair (.slice (.int .u8)) (.slice (.pair (.int .i64) (.pair (.int .i64) (.pair (.int .i64) (.int .u32)))))))))) p0 (Int.toNat x46)).2.1) ((Kd.nth (.pair (.int .i64) (.pair (.int .i64) (.pair (.slice (.int .i16)) (.pair (.slice (.int .u8)) (.pair (.slice (.int .u8)) (.slice (.pair (.int .i64) (.pair (.int .i64) (.pair (.int .i64) (.int .u32)))))))))) p0 (Int.toNat x46)).2.2.1) ((Kd.nth (.pair (.int .i64) (.pair (.int .i64) (.pair (.slice (.int .i16)) (.pair (.slice (.int .u8)) (.pair (.slice (.int .u8)) (.slice (.pair (.int .i64) (.pair (.int .i64) (.pair (.int .i64) (.int .u32)))))))))) p0 (Int.toNat x46)).2.2.2.1) ((Kd.nth (.pair (.int .i64) (.pair (.int .i64) (.pair (.slice (.int .i16)) (.pair (.slice (.int .u8)) (.pair (.slice (.int .u8)) (.slice (.pair (.int .i64) (.pair (.int .i64) (.pair (.int .i64) (.int .u32)))))))))) p0 (Int.toNat x46)).2.2.2.2.1) ((Kd.nth (.pair (.int .i64) (.pair (.int .i64) (.pair (.slice (.int .i16)) (.pair (.slice (.int .u8)) (.pair (.slice (.int .u8)) (.slice (.pair (.int .i64) (.pair (.int .i64) (.pair (.int .i64) (.int .u32)))))))))) p0 (Int.toNat x46)).2.2.2.2.2) ((Kd.nth (.pair (.int .i64) (.pair (.int .i64) (.pair (.slice (.int .i16)) (.pair (.slice (.int .u8)) (.pair (.slice (.int .u8)) (.slice (.pair (.int .i64) (.pair (.int .i64) (.pair (.int .i64) (.int .u32)))))))))) p1 (Int.toNat x46)).1) ((Kd.nth (.pair (.int .i64) (.pair (.int .i64) (.pair (.slice (.int .i16)) (.pair (.slice (.int .u8)) (.pair (.slice (.int .u8)) (.slice (.pair (.int .i64) (.pair (.int .i64) (.pair (.int .i64) (.int .u32)))))))))) p1 (Int.toNat x46)).2.1) ((Kd.nth (.pair (.int .i64) (.pair (.int .i64) (.pair (.slice (.int .i16)) (.pair (.slice (.int .u8)) (.pair (.slice (.int .u8)) (.slice (.pair (.int .i64) (.pair (.int .i64) (.pair (.int .i64) (.int .u32)))))))))) p1 (Int.toNat x46)).2.2.1) ((Kd.nth (.pair (.int .i64) (.pair (.int .i64) (.pair (.slice (.int .i16)) (.pair (.slice (.int .u8)) (.pair (.slice (.int .u8)) (.slice (.pair (.int .i64) (.pair (.int .i64) (.pair (.int .i64) (.int .u32)))))))))) p1 (Int.toNat x46)).2.2.2.1) ((Kd.nth (.pair (.int .i64) (.pair (.int .i64) (.pair (.slice (.int .i16)) (.pair (.slice (.int .u8)) (.pair (.slice (.int .u8)) (.slice (.pair (.int .i64) (.pair (.int .i64) (.pair (.int .i64) (.int .u32)))))))))) p1 (Int.toNat x46)).2.2.2.2.1) ((Kd.nth (.pair (.int .i64) (.pair (.int .i64) (.pair (.slice (.int .i16)) (.pair (.slice (.int .u8)) (.pair (.slice (.int .u8)) (.slice (.pair (.int .i64) (.pair (.int .i64) (.pair (.int .i64) (.int .u32)))))))))) p1 (Int.toNat x46)).2.2.2.2.2) n s = some z2) (fun s => [(0, .im (.slice (.pair (.int .i64) (.pair (.int .i64) (.pair (.slice (.int .i16)) (.pair (.slice (.int .u8)) (.pair (.slice (.int .u8)) (.slice (.pair (.int .i64) (.pair (.int .i64) (.pair (.int .i64) (.int .u32))))))))))) p0), (1, .im (.slice (.pair (.int .i64) (.pair (.int .i64) (.pair (.slice (.int .i16)) (.pair (.slice (.int .u8)) (.pair (.slice (.int .u8)) (.slice (.pair (.int .i64) (.pair (.int .i64) (.pair (.int .i64) (.int .u32))))))))))) p1), (5, .int .i64 x46), (6, .p 22500 0), (7, .p 22501 0), (9, .int .i64 s)]) (fun s => [(22500, some (.cells [.int .i64 (Kd.nth (.pair (.int .i64) (.pair (.int .i64) (.pair (.slice (.int .i16)) (.pair (.slice (.int .u8)) (.pair (.slice (.int .u8)) (.slice (.pair (.int .i64) (.pair (.int .i64) (.pair (.int .i64) (.int .u32)))))))))) p0 (Int.toNat x46)).1, .int .i64 (Kd.nth (.pair (.int .i64) (.pair (.int .i64) (.pair (.slice (.int .i16)) (.pair (.slice (.int .u8)) (.pair (.slice (.int .u8)) (.slice (.pair (.int .i64) (.pair (.int .i64) (.pair (.int .i64) (.int .u32)))))))))) p0 (Int.toNat x46)).2.1, .im (.slice (.int .i16)) (Kd.nth (.pair (.int .i64) (.pair (.int .i64) (.pair (.slice (.int .i16)) (.pair (.slice (.int .u8)) (.pair (.slice (.int .u8)) (.slice (.pair (.int .i64) (.pair (.int .i64) (.pair (.int .i64) (.int .u32)))))))))) p0 (Int.toNat x46)).2.2.1, .im (.slice (.int .u8)) (Kd.nth (.pair (.int .i64) (.pair (.int .i64) (.pair (.slice (.int .i16)) (.pair (.slice (.int .u8)) (.pair (.slice (.int .u8)) (.slice (.pair (.int .i64) (.pair (.int .i64) (.pair (.int .i64) (.int .u32)))))))))) p0 (Int.toNat x46)).2.2.2.1, .im (.slice (.int .u8)) (Kd.nth (.pair (.int .i64) (.pair (.int .i64) (.pair (.slice (.int .i16)) (.pair (.slice (.int .u8)) (.pair (.slice (.int .u8)) (.slice (.pair (.int .i64) (.pair (.int .i64) (.pair (.int .i64) (.int .u32)))))))))) p0 (Int.toNat x46)).2.2.2.2.1, .im (.slice (.pair (.int .i64) (.pair (.int .i64) (.pair (.int .i64) (.int .u32))))) (Kd.nth (.pair (.int .i64) (.pair (.int .i64) (.pair (.slice (.int .i16)) (.pair (.slice (.int .u8)) (.pair (.slice (.int .u8)) (.slice (.pair (.int .i64) (.pair (.int .i64) (.pair (.int .i64) (.int .u32)))))))))) p0 (Int.toNat x46)).2.2.2.2.2])), (22501, some (.cells [.int .i64 (Kd.nth (.pair (.int .i64) (.pair (.int .i64) (.pair (.slice (.int .i16)) (.pair (.slice (.int .u8)) (.pair (.slice (.int .u8)) (.slice (.pair (.int .i64) (.pair (.int .i64) (.pair (.int .i64) (.int .u32)))))))))) p1 (Int.toNat x46)).1, .int .i64 (Kd.nth (.pair (.int .i64) (.pair (.int .i64) (.pair (.slice (.int .i16)) (.pair (.slice (.int .u8)) (.pair (.slice (.int .u8)) (.slice (.pair (.int .i64) (.pair (.int .i64) (.pair (.int .i64) (.int .u32)))))))))) p1 (Int.toNat x46)).2.1, .im (.slice (.int .i16)) (Kd.nth (.pair (.int .i64) (.pair (.int .i64) (.pair (.slice (.int .i16)) (.pair (.slice (.int .u8)) (.pair (.slice (.int .u8)) (.slice (.pair (.int .i64) (.pair (.int .i64) (.pair (.int .i64) (.int .u32)))))))))) p1 (Int.toNat x46)).2.2.1, .im (.slice (.int .u8)) (Kd.nth (.pair (.int .i64) (.pair (.int .i64) (.pair (.slice (.int .i16)) (.pair (.slice (.int .u8)) (.pair (.slice (.int .u8)) (.slice (.pair (.int .i64) (.pair (.int .i64) (.pair (.int .i64) (.int .u32)))))))))) p1 (Int.toNat x46)).2.2.2.1, .im (.slice (.int .u8)) (Kd.nth (.pair (.int .i64) (.pair (.int .i64) (.pair (.slice (.int .i16)) (.pair (.slice (.int .u8)) (.pair (.slice (.int .u8)) (.slice (.pair (.int .i64) (.pair (.int .i64) (.pair (.int .i64) (.int .u32)))))))))) p1 (Int.toNat x46)).2.2.2.2.1, .im (.slice (.pair (.int .i64) (.pair (.int .i64) (.pair (.int .i64) (.int .u32))))) (Kd.nth (.pair (.int .i64) (.pair (.int .i64) (.pair (.slice (.int .i16)) (.pair (.slice (.int .u8)) (.pair (.slice (.int .u8)) (.slice (.pair (.int .i64) (.pair (.int .i64) (.pair (.int .i64) (.int .u32)))))))))) p1 (Int.toNat x46)).2.2.2.2.2]))]) K ?_ ?_
              · exact SP_ren [(22500, 21900), (22501, 21901)] _ h2 ⟨rfl, rfl, rfl, rfl, rfl, rfl, tv⟩ ⟨rfl, rfl, tv⟩ rfl
              rintro n x85 h2
              rcases n with _ | n
              · exact (nsome h2).elim
              replace h2 : psalteryref34_Same_2.r1 K p0 p1 x46 ((Kd.nth (.pair (.int .i64) (.pair (.int .i64) (.pair (.slice (.int .i16)) (.pair (.slice (.int .u8)) (.pair (.slice (.int .u8)) (.slice (.pair (.int .i64) (.pair (.int .i64) (.pair (.int .i64) (.int .u32)))))))))) p0 (Int.toNat x46)).1) ((Kd.nth (.pair (.int .i64) (.pair (.int .i64) (.pair (.slice (.int .i16)) (.pair (.slice (.int .u8)) (.pair (.slice (.int .u8)) (.slice (.pair (.int .i64) (.pair (.int .i64) (.pair (.int .i64) (.int .u32)))))))))) p0 (Int.toNat x46)).2.1) ((Kd.nth (.pair (.int .i64) (.pair (.int .i64) (.pair (.slice (.int .i16)) (.pair (.slice (.int .u8)) (.pair (.slice (.int .u8)) (.slice (.pair (.int .i64) (.pair (.int .i64) (.pair (.int .i64) (.int .u32)))))))))) p0 (Int.toNat x46)).2.2.1) ((Kd.nth (.pair (.int .i64) (.pair (.int .i64) (.pair (.slice (.int .i16)) (.pair (.slice (.int .u8)) (.pair (.slice (.int .u8)) (.slice (.pair (.int .i64) (.pair (.int .i64) (.pair (.int .i64) (.int .u32)))))))))) p0 (Int.toNat x46)).2.2.2.1) ((Kd.nth (.pair (.int .i64) (.pair (.int .i64) (.pair (.slice (.int .i16)) (.pair (.slice (.int .u8)) (.pair (.slice (.int .u8)) (.slice (.pair (.int .i64) (.pair (.int .i64) (.pair (.int .i64) (.int .u32)))))))))) p0 (Int.toNat x46)).2.2.2.2.1) ((Kd.nth (.pair (.int .i64) (.pair (.int .i64) (.pair (.slice (.int .i16)) (.pair (.slice (.int .u8)) (.pair (.slice (.int .u8)) (.slice (.pair (.int .i64) (.pair (.int .i64) (.pair (.int .i64) (.int .u32)))))))))) p0 (Int.toNat x46)).2.2.2.2.2) ((Kd.nth (.pair (.int .i64) (.pair (.int .i64) (.pair (.slice (.int .i16)) (.pair (.slice (.int .u8)) (.pair (.slice (.int .u8)) (.slice (.pair (.int .i64) (.pair (.int .i64) (.pair (.int .i64) (.int .u32)))))))))) p1 (Int.toNat x46)).1) ((Kd.nth (.pair (.int .i64) (.pair (.int .i64) (.pair (.slice (.int .i16)) (.pair (.slice (.int .u8)) (.pair (.slice (.int .u8)) (.slice (.pair (.int .i64) (.pair (.int .i64) (.pair (.int .i64) (.int .u32)))))))))) p1 (Int.toNat x46)).2.1) ((Kd.nth (.pair (.int .i64) (.pair (.int .i64) (.pair (.slice (.int .i16)) (.pair (.slice (.int .u8)) (.pair (.slice (.int .u8)) (.slice (.pair (.int .i64) (.pair (.int .i64) (.pair (.int .i64) (.int .u32)))))))))) p1 (Int.toNat x46)).2.2.1) ((Kd.nth (.pair (.int .i64) (.pair (.int .i64) (.pair (.slice (.int .i16)) (.pair (.slice (.int .u8)) (.pair (.slice (.int .u8)) (.slice (.pair (.int .i64) (.pair (.int .i64) (.pair (.int .i64) (.int .u32)))))))))) p1 (Int.toNat x46)).2.2.2.1) ((Kd.nth (.pair (.int .i64) (.pair (.int .i64) (.pair (.slice (.int .i16)) (.pair (.slice (.int .u8)) (.pair (.slice (.int .u8)) (.slice (.pair (.int .i64) (.pair (.int .i64) (.pair (.int .i64) (.int .u32)))))))))) p1 (Int.toNat x46)).2.2.2.2.1) ((Kd.nth (.pair (.int .i64) (.pair (.int .i64) (.pair (.slice (.int .i16)) (.pair (.slice (.int .u8)) (.pair (.slice (.int .u8)) (.slice (.pair (.int .i64) (.pair (.int .i64) (.pair (.int .i64) (.int .u32)))))))))) p1 (Int.toNat x46)).2.2.2.2.2) (psalteryref34_Same_2.l1 K p0 p1 x46 ((Kd.nth (.pair (.int .i64) (.pair (.int .i64) (.pair (.slice (.int .i16)) (.pair (.slice (.int .u8)) (.pair (.slice (.int .u8)) (.slice (.pair (.int .i64) (.pair (.int .i64) (.pair (.int .i64) (.int .u32)))))))))) p0 (Int.toNat x46)).1) ((Kd.nth (.pair (.int .i64) (.pair (.int .i64) (.pair (.slice (.int .i16)) (.pair (.slice (.int .u8)) (.pair (.slice (.int .u8)) (.slice (.pair (.int .i64) (.pair (.int .i64) (.pair (.int .i64) (.int .u32)))))))))) p0 (Int.toNat x46)).2.1) ((Kd.nth (.pair (.int .i64) (.pair (.int .i64) (.pair (.slice (.int .i16)) (.pair (.slice (.int .u8)) (.pair (.slice (.int .u8)) (.slice (.pair (.int .i64) (.pair (.int .i64) (.pair (.int .i64) (.int .u32)))))))))) p0 (Int.toNat x46)).2.2.1) ((Kd.nth (.pair (.int .i64) (.pair (.int .i64) (.pair (.slice (.int .i16)) (.pair (.slice (.int .u8)) (.pair (.slice (.int .u8)) (.slice (.pair (.int .i64) (.pair (.int .i64) (.pair (.int .i64) (.int .u32)))))))))) p0 (Int.toNat x46)).2.2.2.1) ((Kd.nth (.pair (.int .i64) (.pair (.int .i64) (.pair (.slice (.int .i16)) (.pair (.slice (.int .u8)) (.pair (.slice (.int .u8)) (.slice (.pair (.int .i64) (.pair (.int .i64) (.pair (.int .i64) (.int .u32)))))))))) p0 (Int.toNat x46)).2.2.2.2.1) ((Kd.nth (.pair (.int .i64) (.pair (.int .i64) (.pair (.slice (.int .i16)) (.pair (.slice (.int .u8)) (.pair (.slice (.int .u8)) (.slice (.pair (.int .i64) (.pair (.int .i64) (.pair (.int .i64) (.int .u32)))))))))) p0 (Int.toNat x46)).2.2.2.2.2) ((Kd.nth (.pair (.int .i64) (.pair (.int .i64) (.pair (.slice (.int .i16)) (.pair (.slice (.int .u8)) (.pair (.slice (.int .u8)) (.slice (.pair (.int .i64) (.pair (.int .i64) (.pair (.int .i64) (.int .u32)))))))))) p1 (Int.toNat x46)).1) ((Kd.nth (.pair (.int .i64) (.pair (.int .i64) (.pair (.slice (.int .i16)) (.pair (.slice (.int .u8)) (.pair (.slice (.int .u8)) (.slice (.pair (.int .i64) (.pair (.int .i64) (.pair (.int .i64) (.int .u32)))))))))) p1 (Int.toNat x46)).2.1) ((Kd.nth (.pair (.int .i64) (.pair (.int .i64) (.pair (.slice (.int .i16)) (.pair (.slice (.int .u8)) (.pair (.slice (.int .u8)) (.slice (.pair (.int .i64) (.pair (.int .i64) (.pair (.int .i64) (.int .u32)))))))))) p1 (Int.toNat x46)).2.2.1) ((Kd.nth (.pair (.int .i64) (.pair (.int .i64) (.pair (.slice (.int .i16)) (.pair (.slice (.int .u8)) (.pair (.slice (.int .u8)) (.slice (.pair (.int .i64) (.pair (.int .i64) (.pair (.int .i64) (.int .u32)))))))))) p1 (Int.toNat x46)).2.2.2.1) ((Kd.nth (.pair (.int .i64) (.pair (.int .i64) (.pair (.slice (.int .i16)) (.pair (.slice (.int .u8)) (.pair (.slice (.int .u8)) (.slice (.pair (.int .i64) (.pair (.int .i64) (.pair (.int .i64) (.int .u32)))))))))) p1 (Int.toNat x46)).2.2.2.2.1) ((Kd.nth (.pair (.int .i64) (.pair (.int .i64) (.pair (.slice (.int .i16)) (.pair (.slice (.int .u8)) (.pair (.slice (.int .u8)) (.slice (.pair (.int .i64) (.pair (.int .i64) (.pair (.int .i64) (.int .u32)))))))))) p1 (Int.toNat x46)).2.2.2.2.2) n) x85 = some z2 := h2
              refine TC_seq ?_
              refine TC_seq ?_
              refine TC_reg ?_
              refine TL_ev env 5 rfl ⟨tv, ⟨tv, ⟨⟨tv, tv⟩, ⟨⟨tv, tv⟩, ⟨⟨tv, ⟨tv, tv⟩⟩, tv⟩⟩⟩⟩⟩ ?_
              refine TL_end ?_
              refine TE_go ?_
              refine TC_cond rfl (fun hb => ?_) (fun hb => ?_)
              · replace h2 := bif_t h2 hb
                refine TC_skip ?_
                refine TE_go ?_
                refine TC_seq ?_
                refine TC_blk ?_
                refine TC_seq ?_
                refine TC_renw (A' := [(0, .im (.slice (.pair (.int .i64) (.pair (.int .i64) (.pair (.slice (.int .i16)) (.pair (.slice (.int .u8)) (.pair (.slice (.int .u8)) (.slice (.pair (.int .i64) (.pair (.int .i64) (.pair (.int .i64) (.int .u32))))))))))) _), (1, .im (.slice (.pair (.int .i64) (.pair (.int .i64) (.pair (.slice (.int .i16)) (.pair (.slice (.int .u8)) (.pair (.slice (.int .u8)) (.slice (.pair (.int .i64) (.pair (.int .i64) (.pair (.int .i64) (.int .u32))))))))))) _), (5, .int .i64 _), (6, .p 22500 0), (7, .p 22501 0), (9, .int .i64 _)]) (L' := [(22500, some (.cells [.int .i64 _, .int .i64 _, .im (.slice (.int .i16)) _, .im (.slice (.int .u8)) _, .im (.slice (.int .u8)) _, .im (.slice (.pair (.int .i64) (.pair (.int .i64) (.pair (.int .i64) (.int .u32))))) _])), (22501, some (.cells [.int .i64 _, .int .i64 _, .im (.slice (.int .i16)) _, .im (.slice (.int .u8)) _, .im (.slice (.int .u8)) _, .im (.slice (.pair (.int .i64) (.pair (.int .i64) (.pair (.int .i64) (.int .u32))))) _]))]) [] ⟨rfl, rfl, rfl, rfl, rfl, rfl, tv⟩ ⟨rfl, rfl, tv⟩ rfl ?_
                refine TC_drawR ⟨_, fun i => ([[], [0], [], [2, 1, 0], [3, 2, 1, 0], [], [5], [], [7, 6, 5], [8, 7, 6, 5], [9, 8, 7, 6, 5, 4, 3, 2, 1, 0]] : List (List Nat)).getD i [], fun i => ([[], [], [], [], [], [], [], [], [], [], []] : List (List Nat)).getD i [], fun i => ([[], [], [], [], [], [], [], [], [], [], []] : List (List Nat)).getD i []⟩ (fun i => ([[], [], [], [], [], [], [], [], [], [], []] : List (List Nat)).getD i []) (by kernel_rfl) (by kernel_rfl) ?_
                refine AJR_ev env 1 rfl (Nat.le_of_ble_eq_true rfl) rfl tv ?_
                refine AJR_ev env 2 rfl (Nat.le_of_ble_eq_true rfl) rfl ⟨tv, tv⟩ ?_
                refine AJR_ev env 3 rfl (Nat.le_of_ble_eq_true rfl) rfl tv ?_
                obtain ⟨g, h2⟩ := gd_t h2
                refine AJR_ev env 4 rfl (Nat.le_of_ble_eq_true rfl) rfl ⟨tv, ⟨tv, ⟨g.1, g.2⟩⟩⟩ ?_
                refine AJR_ev env 5 rfl (Nat.le_of_ble_eq_true rfl) rfl ⟨tv, tv⟩ ?_
                refine AJR_ev env 6 rfl (Nat.le_of_ble_eq_true rfl) rfl tv ?_
                refine AJR_ev env 7 rfl (Nat.le_of_ble_eq_true rfl) rfl ⟨tv, tv⟩ ?_
                refine AJR_ev env 8 rfl (Nat.le_of_ble_eq_true rfl) rfl tv ?_
                obtain ⟨g, h2⟩ := gd_t h2
                refine AJR_ev env 9 rfl (Nat.le_of_ble_eq_true rfl) rfl ⟨tv, ⟨tv, ⟨g.1, g.2⟩⟩⟩ ?_
                refine AJR_ev env 10 rfl (Nat.le_of_ble_eq_true rfl) rfl ⟨tv, tv⟩ ?_
                refine AJR_ev env 11 rfl (Nat.le_of_ble_eq_true rfl) rfl ⟨tv, ⟨tv, tv⟩⟩ ?_
                refine AJR_end rfl rfl rfl ?_
                refine TE_go ?_
                refine TC_cond rfl (fun hb => ?_) (fun hb => ?_)
                · replace h2 := bif_t h2 hb
                  refine TC_seq ?_
                  refine TC_reg ?_
                  refine TL_ev env 1 rfl ⟨tv, tv⟩ ?_
                  refine TL_end ?_
                  refine TE_go ?_
                  refine TC_ret ?_
                  refine tbr ?_
                  refine tsr ?_
                  refine tsr ?_
                  refine tbr ?_
                  refine tsr ?_
                  refine tbr ?_
                  refine tsr ?_
                  refine tsr ?_
                  refine tbr ?_
                  refine tsr ?_
                  refine tsr ?_
                  obtain rfl := sinj h2
                  obtain rfl := sinj h1
                  obtain rfl := sinj h0
                  exact TE_ret env rfl tv tv
                · replace h2 := bif_f h2 hb
                  refine TC_skip ?_
                  refine tbn ?_
                  refine TE_go ?_
                  refine TC_reg ?_
                  refine TL_ev env 3 rfl ⟨tv, ⟨⟨tv, ⟨tv, tv⟩⟩, ⟨tv, tv⟩⟩⟩ ?_
                  refine TL_end ?_
                  refine tsn ?_
                  exact TE_nextr [(22500, 22500), (22501, 22501)] n (Nat.lt_succ_self n) _ h2 ⟨rfl, rfl, rfl, rfl, rfl, rfl, tv⟩ ⟨rfl, rfl, tv⟩ rfl
              · replace h2 := bif_f h2 hb
                refine TC_exit ?_
                refine tsx ?_
                refine tsx ?_
                refine tbe ?_
                obtain rfl := sinj h2
                refine tsn ?_
                exact SP_ren [] () rfl ⟨rfl, rfl, rfl, tv⟩ tv rfl
            · rintro ⟨⟩ rfl
              refine tbn ?_
              refine TE_go ?_
              refine TC_reg ?_
              refine TL_ev env 3 rfl ⟨tv, ⟨⟨tv, ⟨tv, tv⟩⟩, ⟨tv, tv⟩⟩⟩ ?_
              refine TL_end ?_
              refine tsn ?_
              exact TE_nextr [] n (Nat.lt_succ_self n) _ h1 ⟨rfl, rfl, rfl, tv⟩ tv rfl
      · replace h1 := bif_f h1 hb
        refine TC_exit ?_
        refine tsx ?_
        refine tsx ?_
        refine tbe ?_
        obtain rfl := sinj h1
        refine tsn ?_
        exact SP_ren [] () rfl tv tv rfl
    · rintro ⟨⟩ rfl
      refine TE_go ?_
      refine TC_seq ?_
      refine TC_reg ?_
      refine TL_ev env 1 rfl ⟨tv, tv⟩ ?_
      refine TL_end ?_
      refine TE_go ?_
      refine TC_ret ?_
      obtain rfl := sinj h0
      exact TE_ret env rfl tv tv
theorem psalteryref34_Same_2.ok0 {K : Nat} {p0 : List ((Int × (Int × (List (Int) × (List (Int) × (List (Int) × List ((Int × (Int × (Int × Int))))))))))} {p1 : List ((Int × (Int × (List (Int) × (List (Int) × (List (Int) × List ((Int × (Int × (Int × Int))))))))))} {q0 : Bool} (h0 : psalteryref34_Same_2 K p0 p1 = some q0) : Fn Tryd.prog 9 [.im (.slice (.pair (.int .i64) (.pair (.int .i64) (.pair (.slice (.int .i16)) (.pair (.slice (.int .u8)) (.pair (.slice (.int .u8)) (.slice (.pair (.int .i64) (.pair (.int .i64) (.pair (.int .i64) (.int .u32))))))))))) p0, .im (.slice (.pair (.int .i64) (.pair (.int .i64) (.pair (.slice (.int .i16)) (.pair (.slice (.int .u8)) (.pair (.slice (.int .u8)) (.slice (.pair (.int .i64) (.pair (.int .i64) (.pair (.int .i64) (.int .u32))))))))))) p1] [] (.bool q0) [] := psalteryref34_Same_2.ok h0
theorem psalteryref34_Same_2.fnb : fnb Tryd.prog 9 = true := fnb_of Tryd.func9 rfl
def score_Print_2.res  : ByteArray × Int → MV
  | (q0, q1) => .tup [.str q0, .int .i64 q1]
def score_Print_2.out  : ByteArray × Int → List (Nat × Option MObj)
  | (_, _) => []
theorem score_Print_2.ok {K : Nat}  {r : ByteArray × Int} (h0 : score_Print_2 K  = some r) : Fn Tryd.prog 12 [.nils] [] (score_Print_2.res  r) (score_Print_2.out  r) := by
  refine Fn_of Tryd.func12 rfl (Nat.le_of_ble_eq_true rfl) fun Γ => ?_
  refine TC_seq ?_
  refine TC_reg ?_
  refine TL_ev env 2 rfl ⟨tv, ⟨tv, tv⟩⟩ ?_
  refine TL_end ?_
  refine TE_go ?_
  refine TC_seq ?_
  refine TC_seq ?_
  refine TC_reg ?_
  refine TL_ev env 3 rfl ⟨tv, ⟨⟨tv, tv⟩, ⟨⟨tv, ⟨tv, tv⟩⟩, tv⟩⟩⟩ ?_
  refine TL_end ?_
  refine TE_go ?_
  refine TC_cond rfl (fun hb => ?_) (fun hb => ?_)
  · first | exact (ftf hb).elim | exact (tff hb).elim | exact absurd hb (by decide)
  · refine TC_skip ?_
    refine TE_go ?_
    refine TC_seq ?_
    refine TC_reg ?_
    refine TL_ev env 1 rfl ⟨tv, tv⟩ ?_
    refine TL_ownB 1004 650040 5 (.int .u8) rfl (by decide) rfl rfl ?_
    refine TL_end ?_
    refine TE_go ?_
    refine TC_seq ?_
    refine TC_seq ?_
    refine TC_reg ?_
    refine TL_ev env 3 rfl ⟨tv, ⟨⟨tv, tv⟩, ⟨tv, tv⟩⟩⟩ ?_
    refine TL_end ?_
    refine TE_go ?_
    obtain ⟨z1, h1, h0⟩ := bnd h0
    refine TC_cut (α := Unit) (fun _ => z1 = ()) (fun _ => [(4, .p 10600 0)]) (fun _ => [(10600, some (.bld 65 (some 10601))), (10601, some (.brw 5 (.int .u8) ([] : List (Int))))]) ?_ ?_
    · refine TC_blk ?_
      refine TC_loop (α := Unit) (fun n _ => score_Print_2.l0 K n = some z1) (fun _ => [(4, .p 10700 0), (12, .nils), (13, .int .i64 0), (14, .int .i64 0)]) (fun _ => [(10700, some (.bld 65 (some 10701))), (10701, some (.brw 5 (.int .u8) ([] : List (Int))))]) K ?_ ?_
      · exact SP_ren [(10700, 1004), (10701, 650040)] () h1 ⟨rfl, rfl, rfl, rfl, tv⟩ ⟨rfl, rfl, tv⟩ rfl
      rintro n ⟨⟩ h1
      rcases n with _ | n
      · exact (nsome h1).elim
      replace h1 : score_Print_2.r0 K (score_Print_2.l0 K n)  = some z1 := h1
      refine TC_seq ?_
      refine TC_reg ?_
      refine TL_ev env 1 rfl ⟨⟨tv, ⟨tv, tv⟩⟩, tv⟩ ?_
      refine TL_end ?_
      refine TE_go ?_
      refine TC_seq ?_
      refine TC_cond rfl (fun hb => ?_) (fun hb => ?_)
      · first | exact (ftf hb).elim | exact (tff hb).elim | exact absurd hb (by decide)
      · refine TC_exit ?_
        refine tsx ?_
        refine tsx ?_
        refine tbe ?_
        obtain rfl := sinj h1
        refine tsn ?_
        exact SP_ren [(10600, 10700), (10601, 10701)] () rfl ⟨rfl, tv⟩ ⟨rfl, rfl, tv⟩ rfl
    · rintro ⟨⟩ rfl
      refine TE_go ?_
      refine TC_seq ?_
      refine TC_seq ?_
      refine TC_reg ?_
      obtain ⟨r3, hr, h0⟩ := bnd h0
      refine TL_callB [(0, 10600), (1, 10601)] (strings_Builder_Len.ok0 hr) strings_Builder_Len.fnb rfl ⟨tv, ⟨tv, tv⟩⟩ rfl ⟨.inr rfl, .inr rfl, tv⟩ rfl ?_
      refine TL_ev env 1 rfl ⟨⟨tv, ⟨tv, tv⟩⟩, tv⟩ ?_
      refine TL_end ?_
      refine TE_go ?_
      refine TC_cond rfl (fun hb => ?_) (fun hb => ?_)
      · replace h0 := bif_t h0 hb
        refine TC_seq ?_
        refine TC_reg ?_
        refine TL_ev env 2 rfl ⟨tv, ⟨tv, tv⟩⟩ ?_
        refine TL_end ?_
        refine TE_go ?_
        refine TC_ret ?_
        refine tsr ?_
        obtain rfl := sinj h0
        exact TE_ret env rfl tv tv
      · replace h0 := bif_f h0 hb
        refine TC_skip ?_
        refine TE_go ?_
        refine TC_seq ?_
        refine TC_reg ?_
        obtain ⟨r5, hr, h0⟩ := bnd h0
        refine TL_callB [(0, 10600), (1, 10601)] (strings_Builder_String.ok0 hr) strings_Builder_String.fnb rfl ⟨tv, ⟨tv, tv⟩⟩ rfl ⟨.inr rfl, .inr rfl, tv⟩ rfl ?_
        refine TL_ev env 2 rfl ⟨tv, ⟨tv, tv⟩⟩ ?_
        refine TL_end ?_
        refine TE_go ?_
        refine TC_ret ?_
        obtain rfl := sinj h0
        exact TE_ret env rfl tv tv
theorem score_Print_2.ok0 {K : Nat}  {q0 : ByteArray} {q1 : Int} (h0 : score_Print_2 K  = some (q0, q1)) : Fn Tryd.prog 12 [.nils] [] (.tup [.str q0, .int .i64 q1]) [] := score_Print_2.ok h0
theorem score_Print_2.fnb : fnb Tryd.prog 12 = true := fnb_of Tryd.func12 rfl
def psalteryref34_Same_3.res  : Unit → MV
  | () => .bool true
def psalteryref34_Same_3.out  : Unit → List (Nat × Option MObj)
  | () => []
theorem psalteryref34_Same_3.ok {K : Nat}  {r : Unit} (h0 : psalteryref34_Same_3 K  = some r) : Fn Tryd.prog 9 [.nils, .nils] [] (psalteryref34_Same_3.res  r) (psalteryref34_Same_3.out  r) := by
  refine Fn_of Tryd.func9 rfl (Nat.le_of_ble_eq_true rfl) fun Γ => ?_
  unfold psalteryref34_Same_3 at h0
  refine TC_seq ?_
  refine TC_reg ?_
  refine TL_ev env 1 rfl ⟨tv, tv⟩ ?_
  refine TL_end ?_
  refine TE_go ?_
  refine TC_seq ?_
  refine TC_seq ?_
  refine TC_reg ?_
  refine TL_ev env 5 rfl ⟨tv, ⟨⟨tv, tv⟩, ⟨tv, ⟨⟨tv, tv⟩, ⟨⟨tv, ⟨tv, tv⟩⟩, tv⟩⟩⟩⟩⟩ ?_
  refine TL_end ?_
  refine TE_go ?_
  refine TC_cond rfl (fun hb => ?_) (fun hb => ?_)
  · first | exact (ftf hb).elim | exact (tff hb).elim | exact absurd hb (by decide)
  · refine TC_skip ?_
    refine TE_go ?_
    refine TC_seq ?_
    refine TC_seq ?_
    refine TC_reg ?_
    refine TL_ev env 1 rfl ⟨tv, tv⟩ ?_
    refine TL_end ?_
    refine TE_go ?_
    obtain ⟨z1, h1, h0⟩ := bnd h0
    refine TC_cut (α := Unit) (fun _ => z1 = ()) (fun _ => []) (fun _ => []) ?_ ?_
    · refine TC_blk ?_
      refine TC_loop (α := Unit) (fun n _ => psalteryref34_Same_3.l0 K n = some z1) (fun _ => [(0, .nils), (1, .nils), (5, .int .i64 0)]) (fun _ => []) K ?_ ?_
      · exact SP_ren [] () h1 ⟨rfl, rfl, rfl, tv⟩ tv rfl
      rintro n ⟨⟩ h1
      rcases n with _ | n
      · exact (nsome h1).elim
      replace h1 : psalteryref34_Same_3.r0 K (psalteryref34_Same_3.l0 K n)  = some z1 := h1
      refine TC_seq ?_
      refine TC_seq ?_
      refine TC_reg ?_
      refine TL_ev env 4 rfl ⟨tv, ⟨tv, ⟨⟨tv, tv⟩, ⟨⟨tv, ⟨tv, tv⟩⟩, tv⟩⟩⟩⟩ ?_
      refine TL_end ?_
      refine TE_go ?_
      refine TC_cond rfl (fun hb => ?_) (fun hb => ?_)
      · first | exact (ftf hb).elim | exact (tff hb).elim | exact absurd hb (by decide)
      · refine TC_exit ?_
        refine tsx ?_
        refine tsx ?_
        refine tbe ?_
        obtain rfl := sinj h1
        refine tsn ?_
        exact SP_ren [] () rfl tv tv rfl
    · rintro ⟨⟩ rfl
      refine TE_go ?_
      refine TC_seq ?_
      refine TC_reg ?_
      refine TL_ev env 1 rfl ⟨tv, tv⟩ ?_
      refine TL_end ?_
      refine TE_go ?_
      refine TC_ret ?_
      obtain rfl := sinj h0
      exact TE_ret env rfl tv tv
theorem psalteryref34_Same_3.ok0 {K : Nat}   (h0 : psalteryref34_Same_3 K  = some ()) : Fn Tryd.prog 9 [.nils, .nils] [] (.bool true) [] := psalteryref34_Same_3.ok h0
theorem psalteryref34_Same_3.fnb : fnb Tryd.prog 9 = true := fnb_of Tryd.func9 rfl
def psalteryref34_Same_4.res (_p0 : List ((Int × (Int × (List (Int) × (List (Int) × (List (Int) × List ((Int × (Int × (Int × Int))))))))))) : Bool → MV
  | q0 => .bool q0
def psalteryref34_Same_4.out (_p0 : List ((Int × (Int × (List (Int) × (List (Int) × (List (Int) × List ((Int × (Int × (Int × Int))))))))))) : Bool → List (Nat × Option MObj)
  | _ => []
theorem psalteryref34_Same_4.ok {K : Nat} {p0 : List ((Int × (Int × (List (Int) × (List (Int) × (List (Int) × List ((Int × (Int × (Int × Int))))))))))} {r : Bool} (h0 : psalteryref34_Same_4 K p0 = some r) : Fn Tryd.prog 9 [.im (.slice (.pair (.int .i64) (.pair (.int .i64) (.pair (.slice (.int .i16)) (.pair (.slice (.int .u8)) (.pair (.slice (.int .u8)) (.slice (.pair (.int .i64) (.pair (.int .i64) (.pair (.int .i64) (.int .u32))))))))))) p0, .nils] [] (psalteryref34_Same_4.res p0 r) (psalteryref34_Same_4.out p0 r) := by
  refine Fn_of Tryd.func9 rfl (Nat.le_of_ble_eq_true rfl) fun Γ => ?_
  refine TC_seq ?_
  refine TC_reg ?_
  refine TL_ev env 1 rfl ⟨tv, tv⟩ ?_
  refine TL_end ?_
  refine TE_go ?_
  refine TC_seq ?_
  refine TC_seq ?_
  refine TC_reg ?_
  refine TL_ev env 5 rfl ⟨tv, ⟨⟨tv, tv⟩, ⟨tv, ⟨⟨tv, tv⟩, ⟨⟨tv, ⟨tv, tv⟩⟩, tv⟩⟩⟩⟩⟩ ?_
  refine TL_end ?_
  refine TE_go ?_
  refine TC_cond rfl (fun hb => ?_) (fun hb => ?_)
  · replace h0 := bif_t h0 hb
    refine TC_seq ?_
    refine TC_reg ?_
    refine TL_ev env 1 rfl ⟨tv, tv⟩ ?_
    refine TL_end ?_
    refine TE_go ?_
    refine TC_ret ?_
    refine tsr ?_
    obtain rfl := sinj h0
    exact TE_ret env rfl tv tv
  · replace h0 := bif_f h0 hb
    refine TC_skip ?_
    refine TE_go ?_
    refine TC_seq ?_
    refine TC_seq ?_
    refine TC_reg ?_
    refine TL_ev env 1 rfl ⟨tv, tv⟩ ?_
    refine TL_end ?_
    refine TE_go ?_
    obtain ⟨z1, h1, h0⟩ := bnd h0
    refine TC_cut (α := Unit) (fun _ => z1 = ()) (fun _ => []) (fun _ => []) ?_ ?_
    · refine TC_blk ?_
      refine TC_loop (α := Unit) (fun n _ => psalteryref34_Same_4.l0 K p0 n = some z1) (fun _ => [(0, .im (.slice (.pair (.int .i64) (.pair (.int .i64) (.pair (.slice (.int .i16)) (.pair (.slice (.int .u8)) (.pair (.slice (.int .u8)) (.slice (.pair (.int .i64) (.pair (.int .i64) (.pair (.int .i64) (.int .u32))))))))))) p0), (1, .nils), (5, .int .i64 0)]) (fun _ => []) K ?_ ?_
      · exact SP_ren [] () h1 ⟨rfl, rfl, rfl, tv⟩ tv rfl
      rintro n ⟨⟩ h1
      rcases n with _ | n
      · exact (nsome h1).elim
      replace h1 : psalteryref34_Same_4.r0 K p0 (psalteryref34_Same_4.l0 K p0 n)  = some z1 := h1
      refine TC_seq ?_
      refine TC_seq ?_
      refine TC_reg ?_
      refine TL_ev env 4 rfl ⟨tv, ⟨tv, ⟨⟨tv, tv⟩, ⟨⟨tv, ⟨tv, tv⟩⟩, tv⟩⟩⟩⟩ ?_
      refine TL_end ?_
      refine TE_go ?_
      refine TC_cond rfl (fun hb => ?_) (fun hb => ?_)
      · replace h1 := bif_t h1 hb
        refine TC_skip ?_
        refine TE_go ?_
        refine TC_seq ?_
        refine TC_blk ?_
        refine TC_seq ?_
        refine TC_renw (A' := [(0, .im (.slice (.pair (.int .i64) (.pair (.int .i64) (.pair (.slice (.int .i16)) (.pair (.slice (.int .u8)) (.pair (.slice (.int .u8)) (.slice (.pair (.int .i64) (.pair (.int .i64) (.pair (.int .i64) (.int .u32))))))))))) _), (1, .nils), (5, .int .i64 0)]) (L' := []) [] ⟨rfl, rfl, rfl, tv⟩ tv rfl ?_
        refine TC_drawR ⟨_, fun i => ([[], [], [1, 0], [2, 1, 0], [], [], [5, 4], [6, 5, 4], [], [], [9, 8, 3, 2, 1, 0], [10, 9, 8, 7, 6, 5, 4, 3, 2, 1, 0]] : List (List Nat)).getD i [], fun i => ([[], [], [], [], [], [], [], [], [], [], [], []] : List (List Nat)).getD i [], fun i => ([[], [], [], [], [], [], [], [], [], [], [], []] : List (List Nat)).getD i []⟩ (fun i => ([[], [], [], [], [], [], [], [], [], [], [], []] : List (List Nat)).getD i []) (by kernel_rfl) (by kernel_rfl) ?_
        obtain ⟨g, h1⟩ := gd_t h1
        exact (nsome h1).elim
      · replace h1 := bif_f h1 hb
        refine TC_exit ?_
        refine tsx ?_
        refine tsx ?_
        refine tbe ?_
        obtain rfl := sinj h1
        refine tsn ?_
        exact SP_ren [] () rfl tv tv rfl
    · rintro ⟨⟩ rfl
      refine TE_go ?_
      refine TC_seq ?_
      refine TC_reg ?_
      refine TL_ev env 1 rfl ⟨tv, tv⟩ ?_
      refine TL_end ?_
      refine TE_go ?_
      refine TC_ret ?_
      obtain rfl := sinj h0
      exact TE_ret env rfl tv tv
theorem psalteryref34_Same_4.ok0 {K : Nat} {p0 : List ((Int × (Int × (List (Int) × (List (Int) × (List (Int) × List ((Int × (Int × (Int × Int))))))))))} {q0 : Bool} (h0 : psalteryref34_Same_4 K p0 = some q0) : Fn Tryd.prog 9 [.im (.slice (.pair (.int .i64) (.pair (.int .i64) (.pair (.slice (.int .i16)) (.pair (.slice (.int .u8)) (.pair (.slice (.int .u8)) (.slice (.pair (.int .i64) (.pair (.int .i64) (.pair (.int .i64) (.int .u32))))))))))) p0, .nils] [] (.bool q0) [] := psalteryref34_Same_4.ok h0
theorem psalteryref34_Same_4.fnb : fnb Tryd.prog 9 = true := fnb_of Tryd.func9 rfl
def psalterylaw34_ScoreBack.res (_p0 : List ((Int × (Int × (List (Int) × (List (Int) × (List (Int) × List ((Int × (Int × (Int × Int))))))))))) (_p1 : ByteArray) : Bool → MV
  | q0 => .bool q0
def psalterylaw34_ScoreBack.out (_p0 : List ((Int × (Int × (List (Int) × (List (Int) × (List (Int) × List ((Int × (Int × (Int × Int))))))))))) (_p1 : ByteArray) : Bool → List (Nat × Option MObj)
  | _ => []
theorem psalterylaw34_ScoreBack.ok {K : Nat} {p0 : List ((Int × (Int × (List (Int) × (List (Int) × (List (Int) × List ((Int × (Int × (Int × Int))))))))))} {p1 : ByteArray} {r : Bool} (h0 : psalterylaw34_ScoreBack K p0 p1 = some r) : Fn Tryd.prog 5 [.im (.slice (.pair (.int .i64) (.pair (.int .i64) (.pair (.slice (.int .i16)) (.pair (.slice (.int .u8)) (.pair (.slice (.int .u8)) (.slice (.pair (.int .i64) (.pair (.int .i64) (.pair (.int .i64) (.int .u32))))))))))) p0, .str p1] [] (psalterylaw34_ScoreBack.res p0 p1 r) (psalterylaw34_ScoreBack.out p0 p1 r) := by
  refine Fn_of Tryd.func5 rfl (Nat.le_of_ble_eq_true rfl) fun Γ => ?_
  refine TC_seq ?_
  refine TC_reg ?_
  refine TL_ev env 1 rfl ⟨tv, tv⟩ ?_
  refine TL_end ?_
  refine TE_go ?_
  refine TC_seq ?_
  refine TC_seq ?_
  refine TC_reg ?_
  obtain ⟨r39, hr, h0⟩ := bnd h0
  refine TL_callB [] (psalterylaw34_alive.ok0 hr) psalterylaw34_alive.fnb rfl ⟨tv, tv⟩ rfl tv rfl ?_
  refine TL_ev env 1 rfl ⟨tv, tv⟩ ?_
  refine TL_end ?_
  refine TE_go ?_
  refine TC_cond rfl (fun hb => ?_) (fun hb => ?_)
  · replace h0 := bif_t h0 hb
    refine TC_seq ?_
    refine TC_reg ?_
    refine TL_ev env 1 rfl ⟨tv, tv⟩ ?_
    refine TL_end ?_
    refine TE_go ?_
    refine TC_ret ?_
    refine tsr ?_
    obtain rfl := sinj h0
    exact TE_ret env rfl tv tv
  · replace h0 := bif_f h0 hb
    refine TC_skip ?_
    refine TE_go ?_
    refine TC_seq ?_
    refine TC_seq ?_
    refine TC_reg ?_
    refine TL_ev env 1 rfl ⟨tv, tv⟩ ?_
    obtain ⟨r40, hr, h0⟩ := bnd h0
    refine TL_callB [] (psalterylaw34_far.ok0 hr) psalterylaw34_far.fnb rfl ⟨tv, ⟨tv, tv⟩⟩ rfl tv rfl ?_
    refine TL_ev env 5 rfl ⟨tv, ⟨fun eg => tv, ⟨fun eg => ⟨fun e => e, tv⟩, ⟨fun eg => ⟨fun e => e, ⟨tv, tv⟩⟩, ⟨⟨tv, ⟨tv, fun e => e⟩⟩, tv⟩⟩⟩⟩⟩ ?_
    refine TL_end ?_
    refine TE_go ?_
    refine TC_cond rfl (fun hb => ?_) (fun hb => ?_)
    · replace h0 := bif_t h0 hb
      refine TC_seq ?_
      refine TC_reg ?_
      refine TL_ev env 1 rfl ⟨tv, tv⟩ ?_
      refine TL_end ?_
      refine TE_go ?_
      refine TC_ret ?_
      refine tsr ?_
      obtain rfl := sinj h0
      exact TE_ret env rfl tv tv
    · replace h0 := bif_f h0 hb
      refine TC_skip ?_
      refine TE_go ?_
      refine TC_seq ?_
      refine TC_reg ?_
      refine TL_ev env 1 rfl ⟨tv, tv⟩ ?_
      obtain ⟨r43, hr, h0⟩ := bnd h0
      refine TL_callB [] (psalterylaw34_of.ok0 hr) psalterylaw34_of.fnb rfl ⟨tv, ⟨tv, tv⟩⟩ rfl tv rfl ?_
      obtain ⟨⟨r44, r45⟩, hr, h0⟩ := bnd h0
      refine TL_callB [] (score_Print.ok0 hr) score_Print.fnb rfl ⟨tv, ⟨tv, tv⟩⟩ rfl tv rfl ?_
      refine TL_ev env 5 rfl ⟨tv, ⟨tv, ⟨tv, ⟨tv, ⟨tv, tv⟩⟩⟩⟩⟩ ?_
      refine TL_end ?_
      refine TE_go ?_
      refine TC_seq ?_
      refine TC_seq ?_
      refine TC_reg ?_
      refine TL_ev env 2 rfl ⟨tv, ⟨⟨tv, ⟨tv, tv⟩⟩, tv⟩⟩ ?_
      refine TL_end ?_
      refine TE_go ?_
      obtain ⟨z1, h1, h0⟩ := bnd h0
      refine TC_cut (α := Unit) (fun _ => z1 = .inl ()) (fun _ => [(1, .str p1)]) (fun _ => []) ?_ ?_
      · refine TC_cond rfl (fun hb => ?_) (fun hb => ?_)
        · replace h1 := bif_t h1 hb
          refine TC_seq ?_
          refine TC_reg ?_
          refine TL_ev env 1 rfl ⟨tv, tv⟩ ?_
          obtain ⟨z, hr, h1⟩ := bnd h1
          rcases z with ⟨r90, r91⟩ | r92
          · refine TL_callB [] (score_Parse.ok0 hr) score_Parse.fnb rfl ⟨tv, ⟨tv, tv⟩⟩ rfl tv rfl ?_
            refine TL_ev env 7 rfl ⟨tv, ⟨tv, ⟨tv, ⟨tv, ⟨tv, ⟨tv, ⟨tv, tv⟩⟩⟩⟩⟩⟩⟩ ?_
            refine TL_end ?_
            refine TE_go ?_
            refine TC_seq ?_
            obtain ⟨z2, h2, h1⟩ := bnd h1
            refine TC_cut (α := Bool) (fun s => z2 = s) (fun s => [(1, .str p1), (53, .bool s)]) (fun s => []) ?_ ?_
            · refine TC_reg ?_
              refine TL_ev env 7 rfl ⟨tv, ⟨⟨tv, ⟨tv, tv⟩⟩, ⟨tv, ⟨fun eg => tv, ⟨fun eg => ⟨fun e => e, ⟨tv, tv⟩⟩, ⟨⟨tv, ⟨tv, fun e => e⟩⟩, ⟨tv, tv⟩⟩⟩⟩⟩⟩⟩ ?_
              refine TL_split 47 rfl (fun hb => ?_) (fun hb => ?_)
              · replace h2 := bif_t h2 hb
                refine TL_gf (.bool false) rfl rfl rfl rfl rfl (by decide) ?_
                refine TL_gf (.bool false) rfl rfl rfl rfl rfl (by decide) ?_
                refine TL_gf (.bool false) rfl rfl rfl rfl rfl (by decide) ?_
                refine TL_gf (.bool false) rfl rfl rfl rfl rfl (by decide) ?_
                refine TL_gf (.bool false) rfl rfl rfl rfl rfl (by decide) ?_
                refine TL_ev env 1 rfl ⟨⟨tv, ⟨tv, fun e => e⟩⟩, tv⟩ ?_
                refine TL_end ?_
                obtain rfl := sinj h2
                refine tsn ?_
                exact SP_ren [] _ rfl ⟨rfl, rfl, tv⟩ tv rfl
              · replace h2 := bif_f h2 hb
                refine TL_gt rfl rfl rfl rfl ?_
                refine TL_ev env 1 rfl ⟨tv, tv⟩ ?_
                refine TL_gt rfl rfl rfl rfl ?_
                obtain ⟨⟨⟩, hr, h2⟩ := bnd h2
                refine TL_callB [] (psalterylaw34_to.ok0 hr) psalterylaw34_to.fnb rfl ⟨tv, ⟨tv, tv⟩⟩ rfl tv rfl ?_
                refine TL_gt rfl rfl rfl rfl ?_
                refine TL_ev env 1 rfl ⟨tv, tv⟩ ?_
                refine TL_gt rfl rfl rfl rfl ?_
                obtain ⟨r96, hr, h2⟩ := bnd h2
                refine TL_callB [] (psalteryref34_Same.ok0 hr) psalteryref34_Same.fnb rfl ⟨tv, ⟨tv, ⟨tv, tv⟩⟩⟩ rfl tv rfl ?_
                refine TL_gt rfl rfl rfl rfl ?_
                refine TL_ev env 2 rfl ⟨tv, ⟨⟨tv, ⟨tv, tv⟩⟩, tv⟩⟩ ?_
                refine TL_end ?_
                obtain rfl := sinj h2
                refine tsn ?_
                exact SP_ren [] _ rfl ⟨rfl, rfl, tv⟩ tv rfl
            · rintro x94 hz
              obtain rfl := hz.symm
              refine TE_go ?_
              refine TC_cond rfl (fun hb => ?_) (fun hb => ?_)
              · replace h1 := bif_t h1 hb
                refine TC_seq ?_
                refine TC_reg ?_
                refine TL_ev env 1 rfl ⟨tv, tv⟩ ?_
                refine TL_end ?_
                refine TE_go ?_
                refine TC_ret ?_
                refine tsr ?_
                refine tsr ?_
                obtain rfl := sinj h1
                obtain rfl := sinj h0
                exact TE_ret env rfl tv tv
              · replace h1 := bif_f h1 hb
                refine TC_skip ?_
                obtain rfl := sinj h1
                refine tsn ?_
                exact SP_ren [] () rfl ⟨rfl, tv⟩ tv rfl
          · refine TL_callB [] (score_Parse.ok1 hr) score_Parse.fnb rfl ⟨tv, ⟨tv, tv⟩⟩ rfl tv rfl ?_
            refine TL_ev env 7 rfl ⟨tv, ⟨tv, ⟨tv, ⟨tv, ⟨tv, ⟨tv, ⟨tv, tv⟩⟩⟩⟩⟩⟩⟩ ?_
            refine TL_end ?_
            refine TE_go ?_
            refine TC_seq ?_
            refine TC_reg ?_
            refine TL_ev env 3 rfl ⟨tv, ⟨⟨tv, ⟨tv, tv⟩⟩, ⟨tv, tv⟩⟩⟩ ?_
            refine TL_gt rfl rfl rfl rfl ?_
            refine TL_ev env 1 rfl ⟨tv, tv⟩ ?_
            refine TL_gt rfl rfl rfl rfl ?_
            refine TL_ev env 3 rfl ⟨⟨tv, ⟨tv, tv⟩⟩, ⟨⟨tv, ⟨tv, tv⟩⟩, ⟨tv, tv⟩⟩⟩ ?_
            refine TL_gt rfl rfl rfl rfl ?_
            refine TL_ev env 1 rfl ⟨tv, tv⟩ ?_
            refine TL_gt rfl rfl rfl rfl ?_
            obtain ⟨r99, hr, h1⟩ := bnd h1
            refine TL_callB [] (psalterylaw34_to_2.ok0 hr) psalterylaw34_to_2.fnb rfl ⟨tv, ⟨tv, tv⟩⟩ rfl tv rfl ?_
            refine TL_gt rfl rfl rfl rfl ?_
            refine TL_ev env 1 rfl ⟨tv, tv⟩ ?_
            refine TL_gt rfl rfl rfl rfl ?_
            obtain ⟨r100, hr, h1⟩ := bnd h1
            refine TL_callB [] (psalteryref34_Same_2.ok0 hr) psalteryref34_Same_2.fnb rfl ⟨tv, ⟨tv, ⟨tv, tv⟩⟩⟩ rfl tv rfl ?_
            refine TL_gt rfl rfl rfl rfl ?_
            refine TL_ev env 2 rfl ⟨tv, ⟨⟨tv, ⟨tv, tv⟩⟩, tv⟩⟩ ?_
            refine TL_end ?_
            refine TE_go ?_
            refine TC_cond rfl (fun hb => ?_) (fun hb => ?_)
            · replace h1 := bif_t h1 hb
              refine TC_seq ?_
              refine TC_reg ?_
              refine TL_ev env 1 rfl ⟨tv, tv⟩ ?_
              refine TL_end ?_
              refine TE_go ?_
              refine TC_ret ?_
              refine tsr ?_
              refine tsr ?_
              obtain rfl := sinj h1
              obtain rfl := sinj h0
              exact TE_ret env rfl tv tv
            · replace h1 := bif_f h1 hb
              refine TC_skip ?_
              obtain rfl := sinj h1
              refine tsn ?_
              exact SP_ren [] () rfl ⟨rfl, tv⟩ tv rfl
        · replace h1 := bif_f h1 hb
          refine TC_skip ?_
          obtain rfl := sinj h1
          refine tsn ?_
          exact SP_ren [] () rfl ⟨rfl, tv⟩ tv rfl
      · rintro ⟨⟩ rfl
        refine TE_go ?_
        refine TC_seq ?_
        refine TC_reg ?_
        refine TL_ev env 1 rfl ⟨tv, tv⟩ ?_
        obtain ⟨z, hr, h0⟩ := bnd h0
        rcases z with ⟨r55, r56⟩ | r57
        · refine TL_callB [] (score_Parse.ok0 hr) score_Parse.fnb rfl ⟨tv, ⟨tv, tv⟩⟩ rfl tv rfl ?_
          refine TL_ev env 7 rfl ⟨tv, ⟨tv, ⟨tv, ⟨tv, ⟨tv, ⟨tv, ⟨tv, tv⟩⟩⟩⟩⟩⟩⟩ ?_
          refine TL_end ?_
          refine TE_go ?_
          refine TC_seq ?_
          refine TC_seq ?_
          refine TC_reg ?_
          refine TL_ev env 2 rfl ⟨tv, ⟨⟨tv, ⟨tv, tv⟩⟩, tv⟩⟩ ?_
          refine TL_end ?_
          refine TE_go ?_
          refine TC_cond rfl (fun hb => ?_) (fun hb => ?_)
          · replace h0 := bif_t h0 hb
            refine TC_seq ?_
            refine TC_reg ?_
            refine TL_ev env 4 rfl ⟨tv, ⟨⟨tv, tv⟩, ⟨⟨tv, ⟨tv, tv⟩⟩, ⟨tv, tv⟩⟩⟩⟩ ?_
            refine TL_end ?_
            refine TE_go ?_
            refine TC_ret ?_
            refine tsr ?_
            obtain rfl := sinj h0
            exact TE_ret env rfl tv tv
          · replace h0 := bif_f h0 hb
            refine TC_skip ?_
            refine TE_go ?_
            refine TC_seq ?_
            refine TC_reg ?_
            refine TL_ev env 1 rfl ⟨tv, tv⟩ ?_
            obtain ⟨⟨r58, r59⟩, hr, h0⟩ := bnd h0
            refine TL_callB [] (score_Print_2.ok0 hr) score_Print_2.fnb rfl ⟨tv, ⟨tv, tv⟩⟩ rfl tv rfl ?_
            refine TL_ev env 5 rfl ⟨tv, ⟨tv, ⟨tv, ⟨tv, ⟨tv, tv⟩⟩⟩⟩⟩ ?_
            refine TL_end ?_
            refine TE_go ?_
            refine TC_seq ?_
            refine TC_reg ?_
            refine TL_ev env 1 rfl ⟨tv, tv⟩ ?_
            obtain ⟨z, hr, h0⟩ := bnd h0
            rcases z with ⟨r60, r61⟩ | r62
            · refine TL_callB [] (score_Parse.ok0 hr) score_Parse.fnb rfl ⟨tv, ⟨tv, tv⟩⟩ rfl tv rfl ?_
              refine TL_ev env 7 rfl ⟨tv, ⟨tv, ⟨tv, ⟨tv, ⟨tv, ⟨tv, ⟨tv, tv⟩⟩⟩⟩⟩⟩⟩ ?_
              refine TL_end ?_
              refine TE_go ?_
              refine TC_seq ?_
              obtain ⟨z1, h1, h0⟩ := bnd h0
              refine TC_cut (α := Bool) (fun s => z1 = s) (fun s => [(4, .bool s)]) (fun s => []) ?_ ?_
              · refine TC_reg ?_
                refine TL_ev env 7 rfl ⟨tv, ⟨⟨tv, ⟨tv, tv⟩⟩, ⟨tv, ⟨fun eg => tv, ⟨fun eg => ⟨fun e => e, ⟨tv, tv⟩⟩, ⟨⟨tv, ⟨fun e => e, tv⟩⟩, ⟨tv, tv⟩⟩⟩⟩⟩⟩⟩ ?_
                refine TL_split 82 rfl (fun hb => ?_) (fun hb => ?_)
                · replace h1 := bif_t h1 hb
                  refine TL_gf (.bool false) rfl rfl rfl rfl rfl (by decide) ?_
                  refine TL_gf (.bool false) rfl rfl rfl rfl rfl (by decide) ?_
                  refine TL_gf (.bool false) rfl rfl rfl rfl rfl (by decide) ?_
                  refine TL_gu (.bool false) rfl rfl rfl rfl rfl (by decide) ?_
                  refine TL_gu (.bool false) rfl rfl rfl rfl rfl (by decide) ?_
                  refine TL_gu (.bool false) rfl rfl rfl rfl rfl (by decide) ?_
                  refine TL_gu (.bool false) rfl rfl rfl rfl rfl (by decide) ?_
                  refine TL_gu (.bool false) rfl rfl rfl rfl rfl (by decide) ?_
                  refine TL_gf (.bool false) rfl rfl rfl rfl rfl (by decide) ?_
                  refine TL_ev env 2 rfl ⟨⟨tv, ⟨tv, fun e => e⟩⟩, ⟨tv, tv⟩⟩ ?_
                  refine TL_end ?_
                  obtain rfl := sinj h1
                  refine tsn ?_
                  exact SP_ren [] _ rfl ⟨rfl, tv⟩ tv rfl
                · replace h1 := bif_f h1 hb
                  refine TL_gt rfl rfl rfl rfl ?_
                  refine TL_ev env 1 rfl ⟨tv, tv⟩ ?_
                  refine TL_gt rfl rfl rfl rfl ?_
                  refine TL_ev env 1 rfl ⟨⟨tv, ⟨tv, tv⟩⟩, tv⟩ ?_
                  refine TL_gt rfl rfl rfl rfl ?_
                  refine TL_ev env 1 rfl ⟨tv, tv⟩ ?_
                  refine TL_split 85 rfl (fun hb => ?_) (fun hb => ?_)
                  · replace h1 := bif_t h1 hb
                    refine TL_gt rfl rfl rfl rfl ?_
                    refine TL_ev env 1 rfl ⟨tv, tv⟩ ?_
                    refine TL_gt rfl rfl rfl rfl ?_
                    obtain ⟨⟨⟩, hr, h1⟩ := bnd h1
                    refine TL_callB [] (psalterylaw34_to.ok0 hr) psalterylaw34_to.fnb rfl ⟨tv, ⟨tv, tv⟩⟩ rfl tv rfl ?_
                    refine TL_gt rfl rfl rfl rfl ?_
                    refine TL_ev env 1 rfl ⟨tv, tv⟩ ?_
                    refine TL_gt rfl rfl rfl rfl ?_
                    obtain ⟨⟨⟩, hr, h1⟩ := bnd h1
                    refine TL_callB [] (psalterylaw34_to.ok0 hr) psalterylaw34_to.fnb rfl ⟨tv, ⟨tv, tv⟩⟩ rfl tv rfl ?_
                    refine TL_gt rfl rfl rfl rfl ?_
                    obtain ⟨⟨⟩, hr, h1⟩ := bnd h1
                    refine TL_callB [] (psalteryref34_Same_3.ok0 hr) psalteryref34_Same_3.fnb rfl ⟨tv, ⟨tv, ⟨tv, tv⟩⟩⟩ rfl tv rfl ?_
                    refine TL_gt rfl rfl rfl rfl ?_
                    refine TL_ev env 3 rfl ⟨⟨tv, ⟨tv, tv⟩⟩, ⟨⟨tv, ⟨tv, tv⟩⟩, ⟨tv, tv⟩⟩⟩ ?_
                    refine TL_end ?_
                    obtain rfl := sinj h1
                    refine tsn ?_
                    exact SP_ren [] _ rfl ⟨rfl, tv⟩ tv rfl
                  · replace h1 := bif_f h1 hb
                    refine TL_gf (.bool false) rfl rfl rfl rfl rfl (by decide) ?_
                    refine TL_gf (.bool false) rfl rfl rfl rfl rfl (by decide) ?_
                    refine TL_gf (.bool false) rfl rfl rfl rfl rfl (by decide) ?_
                    refine TL_gf (.bool false) rfl rfl rfl rfl rfl (by decide) ?_
                    refine TL_gf (.bool false) rfl rfl rfl rfl rfl (by decide) ?_
                    refine TL_gt rfl rfl rfl rfl ?_
                    refine TL_ev env 3 rfl ⟨⟨tv, ⟨fun e => e, tv⟩⟩, ⟨⟨tv, ⟨tv, tv⟩⟩, ⟨tv, tv⟩⟩⟩ ?_
                    refine TL_end ?_
                    obtain rfl := sinj h1
                    refine tsn ?_
                    exact SP_ren [] _ rfl ⟨rfl, tv⟩ tv rfl
              · rintro x63 hz
                obtain rfl := hz.symm
                refine TE_go ?_
                refine TC_ret ?_
                obtain rfl := sinj h0
                exact TE_ret env rfl tv tv
            · refine TL_callB [] (score_Parse.ok1 hr) score_Parse.fnb rfl ⟨tv, ⟨tv, tv⟩⟩ rfl tv rfl ?_
              refine TL_ev env 7 rfl ⟨tv, ⟨tv, ⟨tv, ⟨tv, ⟨tv, ⟨tv, ⟨tv, tv⟩⟩⟩⟩⟩⟩⟩ ?_
              refine TL_end ?_
              refine TE_go ?_
              refine TC_seq ?_
              obtain ⟨z1, h1, h0⟩ := bnd h0
              refine TC_cut (α := Bool) (fun s => z1 = s) (fun s => [(4, .bool s)]) (fun s => []) ?_ ?_
              · refine TC_reg ?_
                refine TL_ev env 7 rfl ⟨tv, ⟨⟨tv, ⟨tv, tv⟩⟩, ⟨tv, ⟨fun eg => tv, ⟨fun eg => ⟨fun e => e, ⟨tv, tv⟩⟩, ⟨⟨tv, ⟨fun e => e, tv⟩⟩, ⟨tv, tv⟩⟩⟩⟩⟩⟩⟩ ?_
                refine TL_split 82 rfl (fun hb => ?_) (fun hb => ?_)
                · replace h1 := bif_t h1 hb
                  refine TL_gf (.bool false) rfl rfl rfl rfl rfl (by decide) ?_
                  refine TL_gf (.bool false) rfl rfl rfl rfl rfl (by decide) ?_
                  refine TL_gf (.bool false) rfl rfl rfl rfl rfl (by decide) ?_
                  refine TL_gu (.bool false) rfl rfl rfl rfl rfl (by decide) ?_
                  refine TL_gu (.bool false) rfl rfl rfl rfl rfl (by decide) ?_
                  refine TL_gu (.bool false) rfl rfl rfl rfl rfl (by decide) ?_
                  refine TL_gu (.bool false) rfl rfl rfl rfl rfl (by decide) ?_
                  refine TL_gu (.bool false) rfl rfl rfl rfl rfl (by decide) ?_
                  refine TL_gf (.bool false) rfl rfl rfl rfl rfl (by decide) ?_
                  refine TL_ev env 2 rfl ⟨⟨tv, ⟨tv, fun e => e⟩⟩, ⟨tv, tv⟩⟩ ?_
                  refine TL_end ?_
                  obtain rfl := sinj h1
                  refine tsn ?_
                  exact SP_ren [] _ rfl ⟨rfl, tv⟩ tv rfl
                · replace h1 := bif_f h1 hb
                  refine TL_gt rfl rfl rfl rfl ?_
                  refine TL_ev env 1 rfl ⟨tv, tv⟩ ?_
                  refine TL_gt rfl rfl rfl rfl ?_
                  refine TL_ev env 1 rfl ⟨⟨tv, ⟨tv, tv⟩⟩, tv⟩ ?_
                  refine TL_gt rfl rfl rfl rfl ?_
                  refine TL_ev env 1 rfl ⟨tv, tv⟩ ?_
                  refine TL_gt rfl rfl rfl rfl ?_
                  refine TL_ev env 1 rfl ⟨tv, tv⟩ ?_
                  refine TL_gt rfl rfl rfl rfl ?_
                  obtain ⟨r69, hr, h1⟩ := bnd h1
                  refine TL_callB [] (psalterylaw34_to_2.ok0 hr) psalterylaw34_to_2.fnb rfl ⟨tv, ⟨tv, tv⟩⟩ rfl tv rfl ?_
                  refine TL_gt rfl rfl rfl rfl ?_
                  refine TL_ev env 1 rfl ⟨tv, tv⟩ ?_
                  refine TL_gt rfl rfl rfl rfl ?_
                  obtain ⟨⟨⟩, hr, h1⟩ := bnd h1
                  refine TL_callB [] (psalterylaw34_to.ok0 hr) psalterylaw34_to.fnb rfl ⟨tv, ⟨tv, tv⟩⟩ rfl tv rfl ?_
                  refine TL_gt rfl rfl rfl rfl ?_
                  obtain ⟨r70, hr, h1⟩ := bnd h1
                  refine TL_callB [] (psalteryref34_Same_4.ok0 hr) psalteryref34_Same_4.fnb rfl ⟨tv, ⟨tv, ⟨tv, tv⟩⟩⟩ rfl tv rfl ?_
                  refine TL_gt rfl rfl rfl rfl ?_
                  refine TL_ev env 3 rfl ⟨⟨tv, ⟨tv, tv⟩⟩, ⟨⟨tv, ⟨tv, tv⟩⟩, ⟨tv, tv⟩⟩⟩ ?_
                  refine TL_end ?_
                  obtain rfl := sinj h1
                  refine tsn ?_
                  exact SP_ren [] _ rfl ⟨rfl, tv⟩ tv rfl
              · rintro x67 hz
                obtain rfl := hz.symm
                refine TE_go ?_
                refine TC_ret ?_
                obtain rfl := sinj h0
                exact TE_ret env rfl tv tv
        · refine TL_callB [] (score_Parse.ok1 hr) score_Parse.fnb rfl ⟨tv, ⟨tv, tv⟩⟩ rfl tv rfl ?_
          refine TL_ev env 7 rfl ⟨tv, ⟨tv, ⟨tv, ⟨tv, ⟨tv, ⟨tv, ⟨tv, tv⟩⟩⟩⟩⟩⟩⟩ ?_
          refine TL_end ?_
          refine TE_go ?_
          refine TC_seq ?_
          refine TC_seq ?_
          refine TC_reg ?_
          refine TL_ev env 2 rfl ⟨tv, ⟨⟨tv, ⟨tv, tv⟩⟩, tv⟩⟩ ?_
          refine TL_end ?_
          refine TE_go ?_
          refine TC_cond rfl (fun hb => ?_) (fun hb => ?_)
          · first | exact (ftf hb).elim | exact (tff hb).elim | exact absurd hb (by decide)
          · refine TC_skip ?_
            refine TE_go ?_
            refine TC_seq ?_
            refine TC_reg ?_
            refine TL_ev env 1 rfl ⟨tv, tv⟩ ?_
            obtain ⟨⟨r71, r72⟩, hr, h0⟩ := bnd h0
            refine TL_callB [] (score_Print.ok0 hr) score_Print.fnb rfl ⟨tv, ⟨tv, tv⟩⟩ rfl tv rfl ?_
            refine TL_ev env 5 rfl ⟨tv, ⟨tv, ⟨tv, ⟨tv, ⟨tv, tv⟩⟩⟩⟩⟩ ?_
            refine TL_end ?_
            refine TE_go ?_
            refine TC_seq ?_
            refine TC_reg ?_
            refine TL_ev env 1 rfl ⟨tv, tv⟩ ?_
            obtain ⟨z, hr, h0⟩ := bnd h0
            rcases z with ⟨r73, r74⟩ | r75
            · refine TL_callB [] (score_Parse.ok0 hr) score_Parse.fnb rfl ⟨tv, ⟨tv, tv⟩⟩ rfl tv rfl ?_
              refine TL_ev env 7 rfl ⟨tv, ⟨tv, ⟨tv, ⟨tv, ⟨tv, ⟨tv, ⟨tv, tv⟩⟩⟩⟩⟩⟩⟩ ?_
              refine TL_end ?_
              refine TE_go ?_
              refine TC_seq ?_
              obtain ⟨z1, h1, h0⟩ := bnd h0
              refine TC_cut (α := Bool) (fun s => z1 = s) (fun s => [(4, .bool s)]) (fun s => []) ?_ ?_
              · refine TC_reg ?_
                refine TL_ev env 7 rfl ⟨tv, ⟨⟨tv, ⟨tv, tv⟩⟩, ⟨tv, ⟨fun eg => tv, ⟨fun eg => ⟨fun e => e, ⟨tv, tv⟩⟩, ⟨⟨tv, ⟨fun e => e, tv⟩⟩, ⟨tv, tv⟩⟩⟩⟩⟩⟩⟩ ?_
                refine TL_split 82 rfl (fun hb => ?_) (fun hb => ?_)
                · replace h1 := bif_t h1 hb
                  refine TL_gf (.bool false) rfl rfl rfl rfl rfl (by decide) ?_
                  refine TL_gf (.bool false) rfl rfl rfl rfl rfl (by decide) ?_
                  refine TL_gf (.bool false) rfl rfl rfl rfl rfl (by decide) ?_
                  refine TL_gu (.bool false) rfl rfl rfl rfl rfl (by decide) ?_
                  refine TL_gu (.bool false) rfl rfl rfl rfl rfl (by decide) ?_
                  refine TL_gu (.bool false) rfl rfl rfl rfl rfl (by decide) ?_
                  refine TL_gu (.bool false) rfl rfl rfl rfl rfl (by decide) ?_
                  refine TL_gu (.bool false) rfl rfl rfl rfl rfl (by decide) ?_
                  refine TL_gf (.bool false) rfl rfl rfl rfl rfl (by decide) ?_
                  refine TL_ev env 2 rfl ⟨⟨tv, ⟨tv, fun e => e⟩⟩, ⟨tv, tv⟩⟩ ?_
                  refine TL_end ?_
                  obtain rfl := sinj h1
                  refine tsn ?_
                  exact SP_ren [] _ rfl ⟨rfl, tv⟩ tv rfl
                · replace h1 := bif_f h1 hb
                  refine TL_gt rfl rfl rfl rfl ?_
                  refine TL_ev env 1 rfl ⟨tv, tv⟩ ?_
                  refine TL_gt rfl rfl rfl rfl ?_
                  refine TL_ev env 1 rfl ⟨⟨tv, ⟨tv, tv⟩⟩, tv⟩ ?_
                  refine TL_gt rfl rfl rfl rfl ?_
                  refine TL_ev env 1 rfl ⟨tv, tv⟩ ?_
                  refine TL_split 85 rfl (fun hb => ?_) (fun hb => ?_)
                  · replace h1 := bif_t h1 hb
                    refine TL_gt rfl rfl rfl rfl ?_
                    refine TL_ev env 1 rfl ⟨tv, tv⟩ ?_
                    refine TL_gt rfl rfl rfl rfl ?_
                    obtain ⟨⟨⟩, hr, h1⟩ := bnd h1
                    refine TL_callB [] (psalterylaw34_to.ok0 hr) psalterylaw34_to.fnb rfl ⟨tv, ⟨tv, tv⟩⟩ rfl tv rfl ?_
                    refine TL_gt rfl rfl rfl rfl ?_
                    refine TL_ev env 1 rfl ⟨tv, tv⟩ ?_
                    refine TL_gt rfl rfl rfl rfl ?_
                    obtain ⟨r80, hr, h1⟩ := bnd h1
                    refine TL_callB [] (psalterylaw34_to_2.ok0 hr) psalterylaw34_to_2.fnb rfl ⟨tv, ⟨tv, tv⟩⟩ rfl tv rfl ?_
                    refine TL_gt rfl rfl rfl rfl ?_
                    obtain ⟨r81, hr, h1⟩ := bnd h1
                    refine TL_callB [] (psalteryref34_Same.ok0 hr) psalteryref34_Same.fnb rfl ⟨tv, ⟨tv, ⟨tv, tv⟩⟩⟩ rfl tv rfl ?_
                    refine TL_gt rfl rfl rfl rfl ?_
                    refine TL_ev env 3 rfl ⟨⟨tv, ⟨tv, tv⟩⟩, ⟨⟨tv, ⟨tv, tv⟩⟩, ⟨tv, tv⟩⟩⟩ ?_
                    refine TL_end ?_
                    obtain rfl := sinj h1
                    refine tsn ?_
                    exact SP_ren [] _ rfl ⟨rfl, tv⟩ tv rfl
                  · replace h1 := bif_f h1 hb
                    refine TL_gf (.bool false) rfl rfl rfl rfl rfl (by decide) ?_
                    refine TL_gf (.bool false) rfl rfl rfl rfl rfl (by decide) ?_
                    refine TL_gf (.bool false) rfl rfl rfl rfl rfl (by decide) ?_
                    refine TL_gf (.bool false) rfl rfl rfl rfl rfl (by decide) ?_
                    refine TL_gf (.bool false) rfl rfl rfl rfl rfl (by decide) ?_
                    refine TL_gt rfl rfl rfl rfl ?_
                    refine TL_ev env 3 rfl ⟨⟨tv, ⟨fun e => e, tv⟩⟩, ⟨⟨tv, ⟨tv, tv⟩⟩, ⟨tv, tv⟩⟩⟩ ?_
                    refine TL_end ?_
                    obtain rfl := sinj h1
                    refine tsn ?_
                    exact SP_ren [] _ rfl ⟨rfl, tv⟩ tv rfl
              · rintro x78 hz
                obtain rfl := hz.symm
                refine TE_go ?_
                refine TC_ret ?_
                obtain rfl := sinj h0
                exact TE_ret env rfl tv tv
            · refine TL_callB [] (score_Parse.ok1 hr) score_Parse.fnb rfl ⟨tv, ⟨tv, tv⟩⟩ rfl tv rfl ?_
              refine TL_ev env 7 rfl ⟨tv, ⟨tv, ⟨tv, ⟨tv, ⟨tv, ⟨tv, ⟨tv, tv⟩⟩⟩⟩⟩⟩⟩ ?_
              refine TL_end ?_
              refine TE_go ?_
              refine TC_seq ?_
              obtain ⟨z1, h1, h0⟩ := bnd h0
              refine TC_cut (α := Bool) (fun s => z1 = s) (fun s => [(4, .bool s)]) (fun s => []) ?_ ?_
              · refine TC_reg ?_
                refine TL_ev env 7 rfl ⟨tv, ⟨⟨tv, ⟨tv, tv⟩⟩, ⟨tv, ⟨fun eg => tv, ⟨fun eg => ⟨fun e => e, ⟨tv, tv⟩⟩, ⟨⟨tv, ⟨fun e => e, tv⟩⟩, ⟨tv, tv⟩⟩⟩⟩⟩⟩⟩ ?_
                refine TL_split 82 rfl (fun hb => ?_) (fun hb => ?_)
                · replace h1 := bif_t h1 hb
                  refine TL_gf (.bool false) rfl rfl rfl rfl rfl (by decide) ?_
                  refine TL_gf (.bool false) rfl rfl rfl rfl rfl (by decide) ?_
                  refine TL_gf (.bool false) rfl rfl rfl rfl rfl (by decide) ?_
                  refine TL_gu (.bool false) rfl rfl rfl rfl rfl (by decide) ?_
                  refine TL_gu (.bool false) rfl rfl rfl rfl rfl (by decide) ?_
                  refine TL_gu (.bool false) rfl rfl rfl rfl rfl (by decide) ?_
                  refine TL_gu (.bool false) rfl rfl rfl rfl rfl (by decide) ?_
                  refine TL_gu (.bool false) rfl rfl rfl rfl rfl (by decide) ?_
                  refine TL_gf (.bool false) rfl rfl rfl rfl rfl (by decide) ?_
                  refine TL_ev env 2 rfl ⟨⟨tv, ⟨tv, fun e => e⟩⟩, ⟨tv, tv⟩⟩ ?_
                  refine TL_end ?_
                  obtain rfl := sinj h1
                  refine tsn ?_
                  exact SP_ren [] _ rfl ⟨rfl, tv⟩ tv rfl
                · replace h1 := bif_f h1 hb
                  refine TL_gt rfl rfl rfl rfl ?_
                  refine TL_ev env 1 rfl ⟨tv, tv⟩ ?_
                  refine TL_gt rfl rfl rfl rfl ?_
                  refine TL_ev env 1 rfl ⟨⟨tv, ⟨tv, tv⟩⟩, tv⟩ ?_
                  refine TL_gt rfl rfl rfl rfl ?_
                  refine TL_ev env 1 rfl ⟨tv, tv⟩ ?_
                  refine TL_gt rfl rfl rfl rfl ?_
                  refine TL_ev env 1 rfl ⟨tv, tv⟩ ?_
                  refine TL_gt rfl rfl rfl rfl ?_
                  obtain ⟨r87, hr, h1⟩ := bnd h1
                  refine TL_callB [] (psalterylaw34_to_2.ok0 hr) psalterylaw34_to_2.fnb rfl ⟨tv, ⟨tv, tv⟩⟩ rfl tv rfl ?_
                  refine TL_gt rfl rfl rfl rfl ?_
                  refine TL_ev env 1 rfl ⟨tv, tv⟩ ?_
                  refine TL_gt rfl rfl rfl rfl ?_
                  obtain ⟨r88, hr, h1⟩ := bnd h1
                  refine TL_callB [] (psalterylaw34_to_2.ok0 hr) psalterylaw34_to_2.fnb rfl ⟨tv, ⟨tv, tv⟩⟩ rfl tv rfl ?_
                  refine TL_gt rfl rfl rfl rfl ?_
                  obtain ⟨r89, hr, h1⟩ := bnd h1
                  refine TL_callB [] (psalteryref34_Same_2.ok0 hr) psalteryref34_Same_2.fnb rfl ⟨tv, ⟨tv, ⟨tv, tv⟩⟩⟩ rfl tv rfl ?_
                  refine TL_gt rfl rfl rfl rfl ?_
                  refine TL_ev env 3 rfl ⟨⟨tv, ⟨tv, tv⟩⟩, ⟨⟨tv, ⟨tv, tv⟩⟩, ⟨tv, tv⟩⟩⟩ ?_
                  refine TL_end ?_
                  obtain rfl := sinj h1
                  refine tsn ?_
                  exact SP_ren [] _ rfl ⟨rfl, tv⟩ tv rfl
              · rintro x85 hz
                obtain rfl := hz.symm
                refine TE_go ?_
                refine TC_ret ?_
                obtain rfl := sinj h0
                exact TE_ret env rfl tv tv
theorem psalterylaw34_ScoreBack.ok0 {K : Nat} {p0 : List ((Int × (Int × (List (Int) × (List (Int) × (List (Int) × List ((Int × (Int × (Int × Int))))))))))} {p1 : ByteArray} {q0 : Bool} (h0 : psalterylaw34_ScoreBack K p0 p1 = some q0) : Fn Tryd.prog 5 [.im (.slice (.pair (.int .i64) (.pair (.int .i64) (.pair (.slice (.int .i16)) (.pair (.slice (.int .u8)) (.pair (.slice (.int .u8)) (.slice (.pair (.int .i64) (.pair (.int .i64) (.pair (.int .i64) (.int .u32))))))))))) p0, .str p1] [] (.bool q0) [] := psalterylaw34_ScoreBack.ok h0
theorem psalterylaw34_ScoreBack.fnb : fnb Tryd.prog 5 = true := fnb_of Tryd.func5 rfl
end Go.Fo
