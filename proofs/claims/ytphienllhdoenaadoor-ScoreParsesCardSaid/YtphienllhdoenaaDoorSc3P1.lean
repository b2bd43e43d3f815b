/- Each call comes to the function that is written for it. -/
import Derived.Test.YtphienllhdoenaaDoorSc3T
import Derived.Test.YtphienllhdoenaaDoorSc3F
import Derived.Test.YtphienllhdoenaaDoorSx
import Derived.Test.YtphienllhdoenaaDoorSc3P0
namespace Go.Fo
open Go.Proofs
set_option maxRecDepth 20000
set_option maxHeartbeats 4000000
def psalterylaw34_alive.res  : Bool → MV
  | q0 => .bool q0
def psalterylaw34_alive.out  : Bool → List (Nat × Option MObj)
  | _ => []
theorem psalterylaw34_alive.ok {K : Nat}  {r : Bool} (h0 : psalterylaw34_alive K  = some r) : Fn Tryd.prog 6 [] [] (psalterylaw34_alive.res  r) (psalterylaw34_alive.out  r) := by
  refine Fn_of Tryd.func6 rfl (Nat.le_of_ble_eq_true rfl) fun Γ => ?_
  refine TC_seq ?_
  refine TC_reg ?_
  refine TL_ev env 1 rfl ⟨tv, tv⟩ ?_
  refine TL_end ?_
  refine TE_go ?_
  refine TC_seq ?_
  refine TC_reg ?_
  obtain ⟨z, hr, h0⟩ := bnd h0
  rcases z with ⟨r12, r13⟩ | r14
  · refine TL_callB [] (score_Parse.ok0 hr) score_Parse.fnb rfl ⟨tv, ⟨tv, tv⟩⟩ rfl tv rfl ?_
    refine TL_ev env 7 rfl ⟨tv, ⟨tv, ⟨tv, ⟨tv, ⟨tv, ⟨tv, ⟨tv, tv⟩⟩⟩⟩⟩⟩⟩ ?_
    refine TL_end ?_
    refine TE_go ?_
    refine TC_seq ?_
    refine TC_reg ?_
    obtain ⟨z, hr, h0⟩ := bnd h0
    rcases z with ⟨r15, r16⟩ | r17
    · refine TL_callB [] (score_Parse.ok0 hr) score_Parse.fnb rfl ⟨tv, ⟨tv, tv⟩⟩ rfl tv rfl ?_
      refine TL_ev env 7 rfl ⟨tv, ⟨tv, ⟨tv, ⟨tv, ⟨tv, ⟨tv, ⟨tv, tv⟩⟩⟩⟩⟩⟩⟩ ?_
      refine TL_end ?_
      refine TE_go ?_
      refine TC_seq ?_
      refine TC_reg ?_
      refine TL_ev env 12 rfl ⟨tv, ⟨⟨tv, ⟨tv, tv⟩⟩, ⟨tv, ⟨fun eg => tv, ⟨fun eg => ⟨fun e => e, ⟨tv, tv⟩⟩, ⟨⟨tv, ⟨fun e => e, tv⟩⟩, ⟨tv, ⟨fun eg => tv, ⟨fun eg => ⟨fun e => e, tv⟩, ⟨fun eg => ⟨fun e => e, ⟨tv, tv⟩⟩, ⟨⟨tv, ⟨fun e => e, tv⟩⟩, ⟨tv, tv⟩⟩⟩⟩⟩⟩⟩⟩⟩⟩⟩⟩ ?_
      refine TL_split 28 rfl (fun hb => ?_) (fun hb => ?_)
      · replace h0 := bif_t h0 hb
        refine TL_gt rfl rfl rfl rfl ?_
        refine TL_ev env 1 rfl ⟨tv, tv⟩ ?_
        exact (nsome h0).elim
      · replace h0 := bif_f h0 hb
        refine TL_gf (.bool false) rfl rfl rfl rfl rfl (by decide) ?_
        refine TL_gf (.bool false) rfl rfl rfl rfl rfl (by decide) ?_
        refine TL_gf (.bool false) rfl rfl rfl rfl rfl (by decide) ?_
        refine TL_gf (.bool false) rfl rfl rfl rfl rfl (by decide) ?_
        refine TL_gf (.bool false) rfl rfl rfl rfl rfl (by decide) ?_
        refine TL_gf (.bool false) rfl rfl rfl rfl rfl (by decide) ?_
        refine TL_ev env 2 rfl ⟨⟨tv, ⟨fun e => e, tv⟩⟩, ⟨tv, tv⟩⟩ ?_
        refine TL_gf (.bool false) rfl rfl rfl rfl rfl (by decide) ?_
        refine TL_gf (.bool false) rfl rfl rfl rfl rfl (by decide) ?_
        refine TL_gf (.bool false) rfl rfl rfl rfl rfl (by decide) ?_
        refine TL_gf (.bool false) rfl rfl rfl rfl rfl (by decide) ?_
        refine TL_gf (.bool false) rfl rfl rfl rfl rfl (by decide) ?_
        refine TL_gf (.bool false) rfl rfl rfl rfl rfl (by decide) ?_
        refine TL_gf (.bool false) rfl rfl rfl rfl rfl (by decide) ?_
        refine TL_gf (.bool false) rfl rfl rfl rfl rfl (by decide) ?_
        refine TL_ev env 2 rfl ⟨⟨tv, ⟨fun e => e, tv⟩⟩, ⟨tv, tv⟩⟩ ?_
        refine TL_gf (.bool false) rfl rfl rfl rfl rfl (by decide) ?_
        refine TL_gf (.bool false) rfl rfl rfl rfl rfl (by decide) ?_
        refine TL_gf (.bool false) rfl rfl rfl rfl rfl (by decide) ?_
        refine TL_gf (.bool false) rfl rfl rfl rfl rfl (by decide) ?_
        refine TL_gf (.bool false) rfl rfl rfl rfl rfl (by decide) ?_
        refine TL_gf (.bool false) rfl rfl rfl rfl rfl (by decide) ?_
        refine TL_ev env 2 rfl ⟨⟨tv, ⟨fun e => e, tv⟩⟩, ⟨tv, tv⟩⟩ ?_
        refine TL_gf (.bool false) rfl rfl rfl rfl rfl (by decide) ?_
        refine TL_gf (.bool false) rfl rfl rfl rfl rfl (by decide) ?_
        refine TL_ev env 2 rfl ⟨⟨tv, ⟨fun e => e, tv⟩⟩, ⟨tv, tv⟩⟩ ?_
        refine TL_gf (.bool false) rfl rfl rfl rfl rfl (by decide) ?_
        refine TL_gf (.bool false) rfl rfl rfl rfl rfl (by decide) ?_
        refine TL_ev env 2 rfl ⟨⟨tv, ⟨fun e => e, tv⟩⟩, ⟨tv, tv⟩⟩ ?_
        refine TL_end ?_
        refine TE_go ?_
        refine TC_ret ?_
        obtain rfl := sinj h0
        exact TE_ret env rfl tv tv
    · refine TL_callB [] (score_Parse.ok1 hr) score_Parse.fnb rfl ⟨tv, ⟨tv, tv⟩⟩ rfl tv rfl ?_
      refine TL_ev env 7 rfl ⟨tv, ⟨tv, ⟨tv, ⟨tv, ⟨tv, ⟨tv, ⟨tv, tv⟩⟩⟩⟩⟩⟩⟩ ?_
      refine TL_end ?_
      refine TE_go ?_
      refine TC_seq ?_
      refine TC_reg ?_
      refine TL_ev env 12 rfl ⟨tv, ⟨⟨tv, ⟨tv, tv⟩⟩, ⟨tv, ⟨fun eg => tv, ⟨fun eg => ⟨fun e => e, ⟨tv, tv⟩⟩, ⟨⟨tv, ⟨fun e => e, tv⟩⟩, ⟨tv, ⟨fun eg => tv, ⟨fun eg => ⟨fun e => e, tv⟩, ⟨fun eg => ⟨fun e => e, ⟨tv, tv⟩⟩, ⟨⟨tv, ⟨fun e => e, tv⟩⟩, ⟨tv, tv⟩⟩⟩⟩⟩⟩⟩⟩⟩⟩⟩⟩ ?_
      refine TL_split 28 rfl (fun hb => ?_) (fun hb => ?_)
      · replace h0 := bif_t h0 hb
        refine TL_gt rfl rfl rfl rfl ?_
        refine TL_ev env 1 rfl ⟨tv, tv⟩ ?_
        exact (nsome h0).elim
      · replace h0 := bif_f h0 hb
        refine TL_gf (.bool false) rfl rfl rfl rfl rfl (by decide) ?_
        refine TL_gf (.bool false) rfl rfl rfl rfl rfl (by decide) ?_
        refine TL_gf (.bool false) rfl rfl rfl rfl rfl (by decide) ?_
        refine TL_gf (.bool false) rfl rfl rfl rfl rfl (by decide) ?_
        refine TL_gf (.bool false) rfl rfl rfl rfl rfl (by decide) ?_
        refine TL_gf (.bool false) rfl rfl rfl rfl rfl (by decide) ?_
        refine TL_ev env 2 rfl ⟨⟨tv, ⟨fun e => e, tv⟩⟩, ⟨tv, tv⟩⟩ ?_
        refine TL_gf (.bool false) rfl rfl rfl rfl rfl (by decide) ?_
        refine TL_gf (.bool false) rfl rfl rfl rfl rfl (by decide) ?_
        refine TL_gf (.bool false) rfl rfl rfl rfl rfl (by decide) ?_
        refine TL_gf (.bool false) rfl rfl rfl rfl rfl (by decide) ?_
        refine TL_gf (.bool false) rfl rfl rfl rfl rfl (by decide) ?_
        refine TL_gf (.bool false) rfl rfl rfl rfl rfl (by decide) ?_
        refine TL_gf (.bool false) rfl rfl rfl rfl rfl (by decide) ?_
        refine TL_gf (.bool false) rfl rfl rfl rfl rfl (by decide) ?_
        refine TL_ev env 2 rfl ⟨⟨tv, ⟨fun e => e, tv⟩⟩, ⟨tv, tv⟩⟩ ?_
        refine TL_gf (.bool false) rfl rfl rfl rfl rfl (by decide) ?_
        refine TL_gf (.bool false) rfl rfl rfl rfl rfl (by decide) ?_
        refine TL_gf (.bool false) rfl rfl rfl rfl rfl (by decide) ?_
        refine TL_gf (.bool false) rfl rfl rfl rfl rfl (by decide) ?_
        refine TL_gf (.bool false) rfl rfl rfl rfl rfl (by decide) ?_
        refine TL_gf (.bool false) rfl rfl rfl rfl rfl (by decide) ?_
        refine TL_ev env 2 rfl ⟨⟨tv, ⟨fun e => e, tv⟩⟩, ⟨tv, tv⟩⟩ ?_
        refine TL_gf (.bool false) rfl rfl rfl rfl rfl (by decide) ?_
        refine TL_gf (.bool false) rfl rfl rfl rfl rfl (by decide) ?_
        refine TL_ev env 2 rfl ⟨⟨tv, ⟨fun e => e, tv⟩⟩, ⟨tv, tv⟩⟩ ?_
        refine TL_gf (.bool false) rfl rfl rfl rfl rfl (by decide) ?_
        refine TL_gf (.bool false) rfl rfl rfl rfl rfl (by decide) ?_
        refine TL_ev env 2 rfl ⟨⟨tv, ⟨fun e => e, tv⟩⟩, ⟨tv, tv⟩⟩ ?_
        refine TL_end ?_
        refine TE_go ?_
        refine TC_ret ?_
        obtain rfl := sinj h0
        exact TE_ret env rfl tv tv
  · refine TL_callB [] (score_Parse.ok1 hr) score_Parse.fnb rfl ⟨tv, ⟨tv, tv⟩⟩ rfl tv rfl ?_
    refine TL_ev env 7 rfl ⟨tv, ⟨tv, ⟨tv, ⟨tv, ⟨tv, ⟨tv, ⟨tv, tv⟩⟩⟩⟩⟩⟩⟩ ?_
    refine TL_end ?_
    refine TE_go ?_
    refine TC_seq ?_
    refine TC_reg ?_
    obtain ⟨z, hr, h0⟩ := bnd h0
    rcases z with ⟨r22, r23⟩ | r24
    · refine TL_callB [] (score_Parse.ok0 hr) score_Parse.fnb rfl ⟨tv, ⟨tv, tv⟩⟩ rfl tv rfl ?_
      refine TL_ev env 7 rfl ⟨tv, ⟨tv, ⟨tv, ⟨tv, ⟨tv, ⟨tv, ⟨tv, tv⟩⟩⟩⟩⟩⟩⟩ ?_
      refine TL_end ?_
      refine TE_go ?_
      refine TC_seq ?_
      obtain ⟨z1, h1, h0⟩ := bnd h0
      refine TC_cut (α := Bool) (fun s => z1 = s) (fun s => [(0, .bool s)]) (fun s => []) ?_ ?_
      · refine TC_reg ?_
        refine TL_ev env 3 rfl ⟨tv, ⟨⟨tv, ⟨tv, tv⟩⟩, ⟨tv, tv⟩⟩⟩ ?_
        refine TL_gt rfl rfl rfl rfl ?_
        refine TL_ev env 1 rfl ⟨tv, tv⟩ ?_
        refine TL_gt rfl rfl rfl rfl ?_
        refine TL_ev env 3 rfl ⟨⟨tv, ⟨tv, tv⟩⟩, ⟨⟨tv, ⟨tv, tv⟩⟩, ⟨tv, tv⟩⟩⟩ ?_
        refine TL_gt rfl rfl rfl rfl ?_
        refine TL_ev env 1 rfl ⟨tv, tv⟩ ?_
        refine TL_gt rfl rfl rfl rfl ?_
        refine TL_ev env 1 rfl ⟨⟨tv, tv⟩, tv⟩ ?_
        refine TL_gt rfl rfl rfl rfl ?_
        refine TL_ev env 3 rfl ⟨⟨tv, ⟨tv, tv⟩⟩, ⟨⟨tv, ⟨tv, tv⟩⟩, ⟨tv, tv⟩⟩⟩ ?_
        refine TL_split 28 rfl (fun hb => ?_) (fun hb => ?_)
        · replace h1 := bif_t h1 hb
          refine TL_gt rfl rfl rfl rfl ?_
          refine TL_ev env 1 rfl ⟨tv, tv⟩ ?_
          refine TL_gt rfl rfl rfl rfl ?_
          obtain ⟨g, h1⟩ := gd_t h1
          refine TL_ev env 1 rfl ⟨⟨tv, ⟨tv, ⟨(by decide), g⟩⟩⟩, tv⟩ ?_
          refine TL_gt rfl rfl rfl rfl ?_
          refine TL_ev env 1 rfl ⟨tv, tv⟩ ?_
          refine TL_gt rfl rfl rfl rfl ?_
          refine TL_ev env 1 rfl ⟨⟨tv, tv⟩, tv⟩ ?_
          refine TL_gt rfl rfl rfl rfl ?_
          refine TL_ev env 1 rfl ⟨⟨tv, tv⟩, tv⟩ ?_
          refine TL_gt rfl rfl rfl rfl ?_
          obtain ⟨g, h1⟩ := gd_t h1
          refine TL_ev env 29 rfl ⟨⟨tv, ⟨tv, tv⟩⟩, ⟨⟨tv, ⟨tv, tv⟩⟩, ⟨tv, ⟨fun eg => tv, ⟨fun eg => ⟨fun e => e, ⟨tv, ⟨(by decide), (g.1 eg)⟩⟩⟩, ⟨fun eg => fun e => e, ⟨fun eg => ⟨fun e => e, tv⟩, ⟨fun eg => ⟨fun e => e, ⟨tv, ⟨(by decide), (g.2.1 eg)⟩⟩⟩, ⟨fun eg => fun e => e, ⟨fun eg => ⟨fun e => e, tv⟩, ⟨fun eg => ⟨fun e => e, ⟨tv, tv⟩⟩, ⟨⟨tv, ⟨fun e => e, tv⟩⟩, ⟨tv, ⟨fun eg => tv, ⟨fun eg => ⟨fun e => e, ⟨tv, ⟨(by decide), (g.2.2 eg)⟩⟩⟩, ⟨fun eg => fun e => e, ⟨fun eg => ⟨fun e => e, tv⟩, ⟨fun eg => ⟨fun e => e, tv⟩, ⟨fun eg => ⟨fun e => e, ⟨tv, tv⟩⟩, ⟨⟨tv, ⟨fun e => e, tv⟩⟩, ⟨tv, ⟨fun eg => tv, ⟨fun eg => ⟨fun e => e, ⟨tv, tv⟩⟩, ⟨⟨tv, ⟨fun e => e, tv⟩⟩, ⟨tv, ⟨fun eg => tv, ⟨fun eg => ⟨fun e => e, ⟨tv, tv⟩⟩, ⟨⟨tv, ⟨fun e => e, tv⟩⟩, ⟨tv, tv⟩⟩⟩⟩⟩⟩⟩⟩⟩⟩⟩⟩⟩⟩⟩⟩⟩⟩⟩⟩⟩⟩⟩⟩⟩⟩⟩⟩⟩ ?_
          refine TL_end ?_
          obtain rfl := sinj h1
          refine tsn ?_
          exact SP_ren [] _ rfl ⟨rfl, tv⟩ tv rfl
        · replace h1 := bif_f h1 hb
          refine TL_gf (.bool false) rfl rfl rfl rfl rfl (by decide) ?_
          refine TL_gf (.bool false) rfl rfl rfl rfl rfl (by decide) ?_
          refine TL_gf (.bool false) rfl rfl rfl rfl rfl (by decide) ?_
          refine TL_gf (.bool false) rfl rfl rfl rfl rfl (by decide) ?_
          refine TL_gf (.bool false) rfl rfl rfl rfl rfl (by decide) ?_
          refine TL_gf (.bool false) rfl rfl rfl rfl rfl (by decide) ?_
          refine TL_ev env 2 rfl ⟨⟨tv, ⟨fun e => e, tv⟩⟩, ⟨tv, tv⟩⟩ ?_
          refine TL_gf (.bool false) rfl rfl rfl rfl rfl (by decide) ?_
          refine TL_gf (.bool false) rfl rfl rfl rfl rfl (by decide) ?_
          refine TL_gf (.bool false) rfl rfl rfl rfl rfl (by decide) ?_
          refine TL_gf (.bool false) rfl rfl rfl rfl rfl (by decide) ?_
          refine TL_gf (.bool false) rfl rfl rfl rfl rfl (by decide) ?_
          refine TL_gf (.bool false) rfl rfl rfl rfl rfl (by decide) ?_
          refine TL_gf (.bool false) rfl rfl rfl rfl rfl (by decide) ?_
          refine TL_gf (.bool false) rfl rfl rfl rfl rfl (by decide) ?_
          refine TL_ev env 2 rfl ⟨⟨tv, ⟨fun e => e, tv⟩⟩, ⟨tv, tv⟩⟩ ?_
          refine TL_gf (.bool false) rfl rfl rfl rfl rfl (by decide) ?_
          refine TL_gf (.bool false) rfl rfl rfl rfl rfl (by decide) ?_
          refine TL_gf (.bool false) rfl rfl rfl rfl rfl (by decide) ?_
          refine TL_gf (.bool false) rfl rfl rfl rfl rfl (by decide) ?_
          refine TL_gf (.bool false) rfl rfl rfl rfl rfl (by decide) ?_
          refine TL_gf (.bool false) rfl rfl rfl rfl rfl (by decide) ?_
          refine TL_ev env 2 rfl ⟨⟨tv, ⟨fun e => e, tv⟩⟩, ⟨tv, tv⟩⟩ ?_
          refine TL_gf (.bool false) rfl rfl rfl rfl rfl (by decide) ?_
          refine TL_gf (.bool false) rfl rfl rfl rfl rfl (by decide) ?_
          refine TL_ev env 2 rfl ⟨⟨tv, ⟨fun e => e, tv⟩⟩, ⟨tv, tv⟩⟩ ?_
          refine TL_gf (.bool false) rfl rfl rfl rfl rfl (by decide) ?_
          refine TL_gf (.bool false) rfl rfl rfl rfl rfl (by decide) ?_
          refine TL_ev env 2 rfl ⟨⟨tv, ⟨fun e => e, tv⟩⟩, ⟨tv, tv⟩⟩ ?_
          refine TL_end ?_
          obtain rfl := sinj h1
          refine tsn ?_
          exact SP_ren [] _ rfl ⟨rfl, tv⟩ tv rfl
      · rintro x25 hz
        obtain rfl := hz.symm
        refine TE_go ?_
        refine TC_ret ?_
        obtain rfl := sinj h0
        exact TE_ret env rfl tv tv
    · refine TL_callB [] (score_Parse.ok1 hr) score_Parse.fnb rfl ⟨tv, ⟨tv, tv⟩⟩ rfl tv rfl ?_
      refine TL_ev env 7 rfl ⟨tv, ⟨tv, ⟨tv, ⟨tv, ⟨tv, ⟨tv, ⟨tv, tv⟩⟩⟩⟩⟩⟩⟩ ?_
      refine TL_end ?_
      refine TE_go ?_
      refine TC_seq ?_
      obtain ⟨z1, h1, h0⟩ := bnd h0
      refine TC_cut (α := Bool) (fun s => z1 = s) (fun s => [(0, .bool s)]) (fun s => []) ?_ ?_
      · refine TC_reg ?_
        refine TL_ev env 3 rfl ⟨tv, ⟨⟨tv, ⟨tv, tv⟩⟩, ⟨tv, tv⟩⟩⟩ ?_
        refine TL_gt rfl rfl rfl rfl ?_
        refine TL_ev env 1 rfl ⟨tv, tv⟩ ?_
        refine TL_gt rfl rfl rfl rfl ?_
        refine TL_ev env 3 rfl ⟨⟨tv, ⟨tv, tv⟩⟩, ⟨⟨tv, ⟨tv, tv⟩⟩, ⟨tv, tv⟩⟩⟩ ?_
        refine TL_gt rfl rfl rfl rfl ?_
        refine TL_ev env 1 rfl ⟨tv, tv⟩ ?_
        refine TL_gt rfl rfl rfl rfl ?_
        refine TL_ev env 1 rfl ⟨⟨tv, tv⟩, tv⟩ ?_
        refine TL_gt rfl rfl rfl rfl ?_
        refine TL_ev env 3 rfl ⟨⟨tv, ⟨tv, tv⟩⟩, ⟨⟨tv, ⟨tv, tv⟩⟩, ⟨tv, tv⟩⟩⟩ ?_
        refine TL_split 28 rfl (fun hb => ?_) (fun hb => ?_)
        · replace h1 := bif_t h1 hb
          refine TL_gt rfl rfl rfl rfl ?_
          refine TL_ev env 1 rfl ⟨tv, tv⟩ ?_
          refine TL_gt rfl rfl rfl rfl ?_
          obtain ⟨g, h1⟩ := gd_t h1
          refine TL_ev env 1 rfl ⟨⟨tv, ⟨tv, ⟨(by decide), g⟩⟩⟩, tv⟩ ?_
          refine TL_gt rfl rfl rfl rfl ?_
          refine TL_ev env 1 rfl ⟨tv, tv⟩ ?_
          refine TL_gt rfl rfl rfl rfl ?_
          refine TL_ev env 1 rfl ⟨⟨tv, tv⟩, tv⟩ ?_
          refine TL_gt rfl rfl rfl rfl ?_
          refine TL_ev env 1 rfl ⟨⟨tv, tv⟩, tv⟩ ?_
          refine TL_gt rfl rfl rfl rfl ?_
          obtain ⟨g, h1⟩ := gd_t h1
          refine TL_ev env 29 rfl ⟨⟨tv, ⟨tv, tv⟩⟩, ⟨⟨tv, ⟨tv, tv⟩⟩, ⟨tv, ⟨fun eg => tv, ⟨fun eg => ⟨fun e => e, ⟨tv, ⟨(by decide), (g.1 eg)⟩⟩⟩, ⟨fun eg => fun e => e, ⟨fun eg => ⟨fun e => e, tv⟩, ⟨fun eg => ⟨fun e => e, ⟨tv, ⟨(by decide), (g.2.1 eg)⟩⟩⟩, ⟨fun eg => fun e => e, ⟨fun eg => ⟨fun e => e, tv⟩, ⟨fun eg => ⟨fun e => e, ⟨tv, tv⟩⟩, ⟨⟨tv, ⟨fun e => e, tv⟩⟩, ⟨tv, ⟨fun eg => tv, ⟨fun eg => ⟨fun e => e, ⟨tv, ⟨(by decide), (g.2.2 eg)⟩⟩⟩, ⟨fun eg => fun e => e, ⟨fun eg => ⟨fun e => e, tv⟩, ⟨fun eg => ⟨fun e => e, tv⟩, ⟨fun eg => ⟨fun e => e, ⟨tv, tv⟩⟩, ⟨⟨tv, ⟨fun e => e, tv⟩⟩, ⟨tv, ⟨fun eg => tv, ⟨fun eg => ⟨fun e => e, ⟨tv, tv⟩⟩, ⟨⟨tv, ⟨fun e => e, tv⟩⟩, ⟨tv, ⟨fun eg => tv, ⟨fun eg => ⟨fun e => e, ⟨tv, tv⟩⟩, ⟨⟨tv, ⟨fun e => e, tv⟩⟩, ⟨tv, tv⟩⟩⟩⟩⟩⟩⟩⟩⟩⟩⟩⟩⟩⟩⟩⟩⟩⟩⟩⟩⟩⟩⟩⟩⟩⟩⟩⟩⟩ ?_
          refine TL_end ?_
          obtain rfl := sinj h1
          refine tsn ?_
          exact SP_ren [] _ rfl ⟨rfl, tv⟩ tv rfl
        · replace h1 := bif_f h1 hb
          refine TL_gf (.bool false) rfl rfl rfl rfl rfl (by decide) ?_
          refine TL_gf (.bool false) rfl rfl rfl rfl rfl (by decide) ?_
          refine TL_gf (.bool false) rfl rfl rfl rfl rfl (by decide) ?_
          refine TL_gf (.bool false) rfl rfl rfl rfl rfl (by decide) ?_
          refine TL_gf (.bool false) rfl rfl rfl rfl rfl (by decide) ?_
          refine TL_gf (.bool false) rfl rfl rfl rfl rfl (by decide) ?_
          refine TL_ev env 2 rfl ⟨⟨tv, ⟨fun e => e, tv⟩⟩, ⟨tv, tv⟩⟩ ?_
          refine TL_gf (.bool false) rfl rfl rfl rfl rfl (by decide) ?_
          refine TL_gf (.bool false) rfl rfl rfl rfl rfl (by decide) ?_
          refine TL_gf (.bool false) rfl rfl rfl rfl rfl (by decide) ?_
          refine TL_gf (.bool false) rfl rfl rfl rfl rfl (by decide) ?_
          refine TL_gf (.bool false) rfl rfl rfl rfl rfl (by decide) ?_
          refine TL_gf (.bool false) rfl rfl rfl rfl rfl (by decide) ?_
          refine TL_gf (.bool false) rfl rfl rfl rfl rfl (by decide) ?_
          refine TL_gf (.bool false) rfl rfl rfl rfl rfl (by decide) ?_
          refine TL_ev env 2 rfl ⟨⟨tv, ⟨fun e => e, tv⟩⟩, ⟨tv, tv⟩⟩ ?_
          refine TL_gf (.bool false) rfl rfl rfl rfl rfl (by decide) ?_
          refine TL_gf (.bool false) rfl rfl rfl rfl rfl (by decide) ?_
          refine TL_gf (.bool false) rfl rfl rfl rfl rfl (by decide) ?_
          refine TL_gf (.bool false) rfl rfl rfl rfl rfl (by decide) ?_
          refine TL_gf (.bool false) rfl rfl rfl rfl rfl (by decide) ?_
          refine TL_gf (.bool false) rfl rfl rfl rfl rfl (by decide) ?_
          refine TL_ev env 2 rfl ⟨⟨tv, ⟨fun e => e, tv⟩⟩, ⟨tv, tv⟩⟩ ?_
          refine TL_gf (.bool false) rfl rfl rfl rfl rfl (by decide) ?_
          refine TL_gf (.bool false) rfl rfl rfl rfl rfl (by decide) ?_
          refine TL_ev env 2 rfl ⟨⟨tv, ⟨fun e => e, tv⟩⟩, ⟨tv, tv⟩⟩ ?_
          refine TL_gf (.bool false) rfl rfl rfl rfl rfl (by decide) ?_
          refine TL_gf (.bool false) rfl rfl rfl rfl rfl (by decide) ?_
          refine TL_ev env 2 rfl ⟨⟨tv, ⟨fun e => e, tv⟩⟩, ⟨tv, tv⟩⟩ ?_
          refine TL_end ?_
          obtain rfl := sinj h1
          refine tsn ?_
          exact SP_ren [] _ rfl ⟨rfl, tv⟩ tv rfl
      · rintro x37 hz
        obtain rfl := hz.symm
        refine TE_go ?_
        refine TC_ret ?_
        obtain rfl := sinj h0
        exact TE_ret env rfl tv tv
theorem psalterylaw34_alive.ok0 {K : Nat}  {q0 : Bool} (h0 : psalterylaw34_alive K  = some q0) : Fn Tryd.prog 6 [] [] (.bool q0) [] := psalterylaw34_alive.ok h0
theorem psalterylaw34_alive.fnb : fnb Tryd.prog 6 = true := fnb_of Tryd.func6 rfl
def psalteryref34_Cut.res (_p0 : ByteArray) (_p1 : Int) : (List (ByteArray)) → MV
  | q0 => .im (.slice (.str)) q0
def psalteryref34_Cut.out (_p0 : ByteArray) (_p1 : Int) : (List (ByteArray)) → List (Nat × Option MObj)
  | _ => []
theorem psalteryref34_Cut.ok {K : Nat} {p0 : ByteArray} {p1 : Int} {r : (List (ByteArray))} (h0 : psalteryref34_Cut K p0 p1 = some r) : Fn Tryd.prog 18 [.str p0, .int .u8 p1] [] (psalteryref34_Cut.res p0 p1 r) (psalteryref34_Cut.out p0 p1 r) := by
  refine Fn_of Tryd.func18 rfl (Nat.le_of_ble_eq_true rfl) fun Γ => ?_
  refine TC_seq ?_
  refine TC_reg ?_
  refine TL_ev env 1 rfl ⟨tv, tv⟩ ?_
  refine TL_end ?_
  refine TE_go ?_
  refine TC_seq ?_
  refine TC_reg ?_
  refine TL_ev env 1 rfl ⟨tv, tv⟩ ?_
  refine TL_end ?_
  refine TE_go ?_
  refine TC_seq ?_
  refine TC_reg ?_
  refine TL_ev env 1 rfl ⟨tv, tv⟩ ?_
  refine TL_end ?_
  refine TE_go ?_
  refine TC_seq ?_
  refine TC_seq ?_
  refine TC_reg ?_
  refine TL_ev env 1 rfl ⟨tv, tv⟩ ?_
  refine TL_end ?_
  refine TE_go ?_
  obtain ⟨z1, h1, h0⟩ := bnd h0
  refine TC_cut (α := Int × (List (ByteArray))) (fun s => z1 = s) (fun s => [(0, .str p0), (5, .sl 11200), (6, .int .i64 s.1)]) (fun s => [(11200, some (.rows (.str) s.2))]) ?_ ?_
  · refine TC_blk ?_
    refine TC_loop (α := Int × Int × (List (ByteArray))) (fun n s => psalteryref34_Cut.l0 K p0 p1 n s.1 s.2.1 s.2.2 = some z1) (fun s => [(0, .str p0), (1, .int .u8 p1), (5, .sl 11500), (6, .int .i64 s.1), (7, .int .i64 s.2.1)]) (fun s => [(11500, some (.rows (.str) s.2.2))]) K ?_ ?_
    · refine TE_own 5 7005 (.str) rfl (by decide) rfl rfl ?_
      exact SP_ren [(11500, 7005)] (_, _, _) h1 ⟨rfl, rfl, rfl, rfl, rfl, tv⟩ ⟨rfl, tv⟩ rfl
    rintro n ⟨x29, x30, x31⟩ h1
    rcases n with _ | n
    · exact (nsome h1).elim
    replace h1 : psalteryref34_Cut.r0 K p0 p1 (psalteryref34_Cut.l0 K p0 p1 n) x29 x30 x31 = some z1 := h1
    refine TC_seq ?_
    refine TC_seq ?_
    refine TC_reg ?_
    refine TL_ev env 4 rfl ⟨tv, ⟨tv, ⟨⟨tv, tv⟩, ⟨⟨tv, ⟨tv, tv⟩⟩, tv⟩⟩⟩⟩ ?_
    refine TL_end ?_
    refine TE_go ?_
    refine TC_cond rfl (fun hb => ?_) (fun hb => ?_)
    · replace h1 := bif_t h1 hb
      refine TC_skip ?_
      refine TE_go ?_
      refine TC_seq ?_
      obtain ⟨z2, h2, h1⟩ := bnd h1
      refine TC_cut (α := Int × (List (ByteArray))) (fun s => z2 = s) (fun s => [(0, .str p0), (1, .int .u8 p1), (5, .sl 11800), (6, .int .i64 s.1), (7, .int .i64 x30)]) (fun s => [(11800, some (.rows (.str) s.2))]) ?_ ?_
      · refine TC_blk ?_
        refine TC_seq ?_
        refine TC_reg ?_
        obtain ⟨g, h2⟩ := gd_t h2
        refine TL_ev env 5 rfl ⟨tv, ⟨tv, ⟨⟨tv, ⟨tv, ⟨g.1, g.2⟩⟩⟩, ⟨tv, ⟨⟨tv, ⟨tv, tv⟩⟩, tv⟩⟩⟩⟩⟩ ?_
        refine TL_end ?_
        refine TE_go ?_
        refine TC_cond rfl (fun hb => ?_) (fun hb => ?_)
        · replace h2 := bif_t h2 hb
          refine TC_seq ?_
          refine TC_reg ?_
          obtain ⟨g, h2⟩ := gd_t h2
          refine TL_ev env 8 rfl ⟨tv, ⟨tv, ⟨tv, ⟨tv, ⟨⟨tv, ⟨tv, ⟨tv, ⟨g.1, ⟨g.2.1, g.2.2.1⟩⟩⟩⟩⟩, ⟨⟨tv, tv⟩, ⟨⟨⟨tv, ⟨tv, tv⟩⟩, g.2.2.2⟩, ⟨tv, tv⟩⟩⟩⟩⟩⟩⟩⟩ ?_
          refine TL_end ?_
          refine TE_go ?_
          refine TC_reg ?_
          refine TL_ev env 3 rfl ⟨tv, ⟨⟨tv, ⟨tv, tv⟩⟩, ⟨tv, tv⟩⟩⟩ ?_
          refine TL_end ?_
          refine tbn ?_
          obtain rfl := sinj h2
          refine tsn ?_
          exact SP_ren [(11800, 1025)] (_, _) rfl ⟨rfl, rfl, rfl, rfl, rfl, tv⟩ ⟨rfl, tv⟩ rfl
        · replace h2 := bif_f h2 hb
          refine TC_skip ?_
          refine tbn ?_
          obtain rfl := sinj h2
          refine tsn ?_
          exact SP_ren [(11800, 11500)] (_, _) rfl ⟨rfl, rfl, rfl, rfl, rfl, tv⟩ ⟨rfl, tv⟩ rfl
      · rintro ⟨x38, x39⟩ rfl
        refine TE_go ?_
        refine TC_reg ?_
        refine TL_ev env 3 rfl ⟨tv, ⟨⟨tv, ⟨tv, tv⟩⟩, ⟨tv, tv⟩⟩⟩ ?_
        refine TL_end ?_
        refine tsn ?_
        exact TE_nextr [(11500, 11800)] n (Nat.lt_succ_self n) (_, _, _) h1 ⟨rfl, rfl, rfl, rfl, rfl, tv⟩ ⟨rfl, tv⟩ rfl
    · replace h1 := bif_f h1 hb
      refine TC_exit ?_
      refine tsx ?_
      refine tsx ?_
      refine tbe ?_
      obtain rfl := sinj h1
      refine tsn ?_
      exact SP_ren [(11200, 11500)] (_, _) rfl ⟨rfl, rfl, rfl, tv⟩ ⟨rfl, tv⟩ rfl
  · rintro ⟨x23, x24⟩ rfl
    refine TE_go ?_
    refine TC_seq ?_
    refine TC_reg ?_
    obtain ⟨g, h0⟩ := gd_t h0
    refine TL_ev env 7 rfl ⟨tv, ⟨tv, ⟨tv, ⟨⟨tv, ⟨tv, ⟨tv, ⟨g.1, ⟨g.2.1, g.2.2.1⟩⟩⟩⟩⟩, ⟨⟨tv, tv⟩, ⟨⟨⟨tv, ⟨tv, tv⟩⟩, g.2.2.2⟩, ⟨tv, tv⟩⟩⟩⟩⟩⟩⟩ ?_
    refine TL_end ?_
    refine TE_go ?_
    refine TC_ret ?_
    refine TE_frz 1033 rfl ?_
    obtain rfl := sinj h0
    exact TE_ret env rfl tv tv
theorem psalteryref34_Cut.ok0 {K : Nat} {p0 : ByteArray} {p1 : Int} {q0 : List (ByteArray)} (h0 : psalteryref34_Cut K p0 p1 = some q0) : Fn Tryd.prog 18 [.str p0, .int .u8 p1] [] (.im (.slice (.str)) q0) [] := psalteryref34_Cut.ok h0
theorem psalteryref34_Cut.fnb : fnb Tryd.prog 18 = true := fnb_of Tryd.func18 rfl
def psalteryref34_Number.res (_p0 : ByteArray) (_p1 : Int) : Int × Bool → MV
  | (q0, q1) => .tup [.int .i64 q0, .bool q1]
def psalteryref34_Number.out (_p0 : ByteArray) (_p1 : Int) : Int × Bool → List (Nat × Option MObj)
  | (_, _) => []
theorem psalteryref34_Number.ok {K : Nat} {p0 : ByteArray} {p1 : Int} {r : Int × Bool} (h0 : psalteryref34_Number K p0 p1 = some r) : Fn Tryd.prog 36 [.str p0, .int .i64 p1] [] (psalteryref34_Number.res p0 p1 r) (psalteryref34_Number.out p0 p1 r) := by
  refine Fn_of Tryd.func36 rfl (Nat.le_of_ble_eq_true rfl) fun Γ => ?_
  refine TC_seq ?_
  refine TC_reg ?_
  refine TL_ev env 2 rfl ⟨tv, ⟨tv, tv⟩⟩ ?_
  refine TL_end ?_
  refine TE_go ?_
  refine TC_seq ?_
  refine TC_seq ?_
  refine TC_reg ?_
  obtain ⟨g, h0⟩ := gd_t h0
  refine TL_ev env 18 rfl ⟨tv, ⟨⟨tv, tv⟩, ⟨⟨tv, ⟨tv, tv⟩⟩, ⟨tv, ⟨fun eg => tv, ⟨fun eg => ⟨fun e => e, tv⟩, ⟨fun eg => ⟨fun e => e, ⟨tv, tv⟩⟩, ⟨⟨tv, ⟨tv, fun e => e⟩⟩, ⟨tv, ⟨fun eg => tv, ⟨fun eg => ⟨fun e => e, tv⟩, ⟨fun eg => ⟨fun e => e, ⟨tv, tv⟩⟩, ⟨fun eg => fun e => e, ⟨fun eg => tv, ⟨fun eg => ⟨fun e => e, ⟨tv, ⟨(by decide), (g eg)⟩⟩⟩, ⟨fun eg => ⟨fun e => e, ⟨tv, tv⟩⟩, ⟨fun eg => ⟨fun e => e, ⟨((by decide : ∀ b0 b1 b2 : Bool, (!(bif b1 then true else b2)) = true → b0 = true → ((!(bif b1 then true else b2)) && b0) = true) _ _ _ eg), tv⟩⟩, ⟨⟨tv, ⟨tv, fun e => e⟩⟩, tv⟩⟩⟩⟩⟩⟩⟩⟩⟩⟩⟩⟩⟩⟩⟩⟩⟩⟩ ?_
  refine TL_end ?_
  refine TE_go ?_
  refine TC_cond rfl (fun hb => ?_) (fun hb => ?_)
  · replace h0 := bif_t h0 hb
    refine TC_seq ?_
    refine TC_reg ?_
    refine TL_ev env 2 rfl ⟨tv, ⟨tv, tv⟩⟩ ?_
    refine TL_end ?_
    refine TE_go ?_
    refine TC_ret ?_
    refine tsr ?_
    obtain rfl := sinj h0
    exact TE_ret env rfl tv tv
  · replace h0 := bif_f h0 hb
    refine TC_skip ?_
    refine TE_go ?_
    refine TC_seq ?_
    refine TC_reg ?_
    refine TL_ev env 1 rfl ⟨tv, tv⟩ ?_
    refine TL_end ?_
    refine TE_go ?_
    refine TC_seq ?_
    refine TC_seq ?_
    refine TC_reg ?_
    refine TL_ev env 1 rfl ⟨tv, tv⟩ ?_
    refine TL_end ?_
    refine TE_go ?_
    obtain ⟨z1, h1, h0⟩ := bnd h0
    refine TC_cut (α := Int) (fun s => z1 = .inl s) (fun s => [(1, .int .i64 p1), (6, .int .i64 s)]) (fun s => []) ?_ ?_
    · refine TC_blk ?_
      refine TC_loop (α := Int × Int) (fun n s => psalteryref34_Number.l0 K p0 p1 n s.1 s.2 = some z1) (fun s => [(0, .str p0), (1, .int .i64 p1), (6, .int .i64 s.1), (7, .int .i64 s.2)]) (fun s => []) K ?_ ?_
      · exact SP_ren [] (_, _) h1 ⟨rfl, rfl, rfl, rfl, tv⟩ tv rfl
      rintro n ⟨x19, x20⟩ h1
      rcases n with _ | n
      · exact (nsome h1).elim
      replace h1 : psalteryref34_Number.r0 K p0 p1 (psalteryref34_Number.l0 K p0 p1 n) x19 x20 = some z1 := h1
      refine TC_seq ?_
      refine TC_seq ?_
      refine TC_reg ?_
      refine TL_ev env 4 rfl ⟨tv, ⟨tv, ⟨⟨tv, tv⟩, ⟨⟨tv, ⟨tv, tv⟩⟩, tv⟩⟩⟩⟩ ?_
      refine TL_end ?_
      refine TE_go ?_
      refine TC_cond rfl (fun hb => ?_) (fun hb => ?_)
      · replace h1 := bif_t h1 hb
        refine TC_skip ?_
        refine TE_go ?_
        refine TC_seq ?_
        refine TC_blk ?_
        refine TC_seq ?_
        refine TC_seq ?_
        refine TC_reg ?_
        obtain ⟨g, h1⟩ := gd_t h1
        refine TL_ev env 10 rfl ⟨tv, ⟨tv, ⟨⟨tv, ⟨tv, ⟨g.1, g.2.1⟩⟩⟩, ⟨⟨tv, ⟨tv, tv⟩⟩, ⟨tv, ⟨fun eg => tv, ⟨fun eg => tv, ⟨fun eg => ⟨fun e => e, ⟨fun e => e, ⟨(g.2.2.1 eg), (g.2.2.2 eg)⟩⟩⟩, ⟨fun eg => ⟨fun e => e, ⟨tv, tv⟩⟩, ⟨⟨tv, ⟨tv, fun e => e⟩⟩, tv⟩⟩⟩⟩⟩⟩⟩⟩⟩⟩ ?_
        refine TL_end ?_
        refine TE_go ?_
        refine TC_cond rfl (fun hb => ?_) (fun hb => ?_)
        · replace h1 := bif_t h1 hb
          refine TC_seq ?_
          refine TC_reg ?_
          refine TL_ev env 2 rfl ⟨tv, ⟨tv, tv⟩⟩ ?_
          refine TL_end ?_
          refine TE_go ?_
          refine TC_ret ?_
          refine tsr ?_
          refine tbr ?_
          refine tsr ?_
          refine tsr ?_
          refine tbr ?_
          refine tsr ?_
          refine tsr ?_
          obtain rfl := sinj h1
          obtain rfl := sinj h0
          exact TE_ret env rfl tv tv
        · replace h1 := bif_f h1 hb
          refine TC_skip ?_
          refine TE_go ?_
          refine TC_reg ?_
          obtain ⟨g, h1⟩ := gd_t h1
          refine TL_ev env 9 rfl ⟨tv, ⟨⟨tv, ⟨tv, tv⟩⟩, ⟨tv, ⟨tv, ⟨⟨tv, ⟨tv, ⟨g.1, g.2⟩⟩⟩, ⟨tv, ⟨⟨tv, ⟨tv, tv⟩⟩, ⟨⟨tv, ⟨tv, tv⟩⟩, ⟨tv, tv⟩⟩⟩⟩⟩⟩⟩⟩⟩ ?_
          refine TL_end ?_
          refine tbn ?_
          refine TE_go ?_
          refine TC_reg ?_
          refine TL_ev env 3 rfl ⟨tv, ⟨⟨tv, ⟨tv, tv⟩⟩, ⟨tv, tv⟩⟩⟩ ?_
          refine TL_end ?_
          refine tsn ?_
          exact TE_nextr [] n (Nat.lt_succ_self n) (_, _) h1 ⟨rfl, rfl, rfl, rfl, tv⟩ tv rfl
      · replace h1 := bif_f h1 hb
        refine TC_exit ?_
        refine tsx ?_
        refine tsx ?_
        refine tbe ?_
        obtain rfl := sinj h1
        refine tsn ?_
        exact SP_ren [] _ rfl ⟨rfl, rfl, tv⟩ tv rfl
    · rintro x17 hz
      obtain rfl := hz.symm
      refine TE_go ?_
      refine TC_seq ?_
      refine TC_seq ?_
      refine TC_reg ?_
      refine TL_ev env 3 rfl ⟨tv, ⟨tv, ⟨⟨tv, ⟨tv, tv⟩⟩, tv⟩⟩⟩ ?_
      refine TL_end ?_
      refine TE_go ?_
      refine TC_cond rfl (fun hb => ?_) (fun hb => ?_)
      · replace h0 := bif_t h0 hb
        refine TC_seq ?_
        refine TC_reg ?_
        refine TL_ev env 2 rfl ⟨tv, ⟨tv, tv⟩⟩ ?_
        refine TL_end ?_
        refine TE_go ?_
        refine TC_ret ?_
        refine tsr ?_
        obtain rfl := sinj h0
        exact TE_ret env rfl tv tv
      · replace h0 := bif_f h0 hb
        refine TC_skip ?_
        refine TE_go ?_
        refine TC_seq ?_
        refine TC_reg ?_
        refine TL_ev env 3 rfl ⟨tv, ⟨tv, ⟨tv, tv⟩⟩⟩ ?_
        refine TL_end ?_
        refine TE_go ?_
        refine TC_ret ?_
        obtain rfl := sinj h0
        exact TE_ret env rfl tv tv
theorem psalteryref34_Number.ok0 {K : Nat} {p0 : ByteArray} {p1 : Int} {q0 : Int} {q1 : Bool} (h0 : psalteryref34_Number K p0 p1 = some (q0, q1)) : Fn Tryd.prog 36 [.str p0, .int .i64 p1] [] (.tup [.int .i64 q0, .bool q1]) [] := psalteryref34_Number.ok h0
theorem psalteryref34_Number.fnb : fnb Tryd.prog 36 = true := fnb_of Tryd.func36 rfl
def psalteryref34_numbers.res (_p0 : List (ByteArray)) (_p1 : List (Int)) : (Unit) ⊕ ((List (Int))) → MV
  | .inl () => .tup [.nils, .bool false]
  | .inr q0 => .tup [.im (.slice (.int .i64)) q0, .bool true]
def psalteryref34_numbers.out (_p0 : List (ByteArray)) (_p1 : List (Int)) : (Unit) ⊕ ((List (Int))) → List (Nat × Option MObj)
  | .inl () => []
  | .inr _ => []
theorem psalteryref34_numbers.ok {K : Nat} {p0 : List (ByteArray)} {p1 : List (Int)} {r : (Unit) ⊕ ((List (Int)))} (h0 : psalteryref34_numbers K p0 p1 = some r) : Fn Tryd.prog 37 [.im (.slice (.str)) p0, .im (.slice (.int .i64)) p1] [] (psalteryref34_numbers.res p0 p1 r) (psalteryref34_numbers.out p0 p1 r) := by
  refine Fn_of Tryd.func37 rfl (Nat.le_of_ble_eq_true rfl) fun Γ => ?_
  refine TC_seq ?_
  refine TC_reg ?_
  refine TL_ev env 2 rfl ⟨tv, ⟨tv, tv⟩⟩ ?_
  refine TL_end ?_
  refine TE_go ?_
  refine TC_seq ?_
  refine TC_seq ?_
  refine TC_reg ?_
  refine TL_ev env 5 rfl ⟨tv, ⟨⟨tv, tv⟩, ⟨tv, ⟨⟨tv, tv⟩, ⟨⟨tv, ⟨tv, tv⟩⟩, tv⟩⟩⟩⟩⟩ ?_
  refine TL_end ?_
  refine TE_go ?_
  refine TC_cond rfl (fun hb => ?_) (fun hb => ?_)
  · replace h0 := bif_t h0 hb
    refine TC_seq ?_
    refine TC_reg ?_
    refine TL_ev env 2 rfl ⟨tv, ⟨tv, tv⟩⟩ ?_
    refine TL_end ?_
    refine TE_go ?_
    refine TC_ret ?_
    refine tsr ?_
    obtain rfl := sinj h0
    exact TE_ret env rfl tv tv
  · replace h0 := bif_f h0 hb
    refine TC_skip ?_
    refine TE_go ?_
    refine TC_seq ?_
    refine TC_reg ?_
    refine TL_ev env 1 rfl ⟨tv, tv⟩ ?_
    refine TL_end ?_
    refine TE_go ?_
    refine TC_seq ?_
    refine TC_seq ?_
    refine TC_reg ?_
    refine TL_ev env 1 rfl ⟨tv, tv⟩ ?_
    refine TL_end ?_
    refine TE_go ?_
    obtain ⟨z1, h1, h0⟩ := bnd h0
    refine TC_cut (α := (List (Int))) (fun s => z1 = .inl s) (fun s => [(6, .sl 10800)]) (fun s => [(10800, some (.rows (.int .i64) s))]) ?_ ?_
    · refine TC_blk ?_
      refine TC_loop (α := Int × (List (Int))) (fun n s => psalteryref34_numbers.l0 K p0 p1 n s.1 s.2 = some z1) (fun s => [(0, .im (.slice (.str)) p0), (1, .im (.slice (.int .i64)) p1), (6, .sl 11000), (7, .int .i64 s.1)]) (fun s => [(11000, some (.rows (.int .i64) s.2))]) K ?_ ?_
      · refine TE_own 6 7006 (.int .i64) rfl (by decide) rfl rfl ?_
        exact SP_ren [(11000, 7006)] (_, _) h1 ⟨rfl, rfl, rfl, rfl, tv⟩ ⟨rfl, tv⟩ rfl
      rintro n ⟨x32, x33⟩ h1
      rcases n with _ | n
      · exact (nsome h1).elim
      replace h1 : psalteryref34_numbers.r0 K p0 p1 (psalteryref34_numbers.l0 K p0 p1 n) x32 x33 = some z1 := h1
      refine TC_seq ?_
      refine TC_seq ?_
      refine TC_reg ?_
      refine TL_ev env 4 rfl ⟨tv, ⟨tv, ⟨⟨tv, tv⟩, ⟨⟨tv, ⟨tv, tv⟩⟩, tv⟩⟩⟩⟩ ?_
      refine TL_end ?_
      refine TE_go ?_
      refine TC_cond rfl (fun hb => ?_) (fun hb => ?_)
      · replace h1 := bif_t h1 hb
        refine TC_skip ?_
        refine TE_go ?_
        refine TC_seq ?_
        refine TC_blk ?_
        refine TC_seq ?_
        refine TC_renw (A' := [(0, .im (.slice (.str)) _), (1, .im (.slice (.int .i64)) _), (6, .sl 11000), (7, .int .i64 _)]) (L' := [(11000, some (.rows (.int .i64) _))]) [] ⟨rfl, rfl, rfl, rfl, tv⟩ ⟨rfl, tv⟩ rfl ?_
        refine TC_drawR ⟨_, fun i => ([[], [], [1, 0], [2, 1, 0], [], [], [5, 4], [6, 5, 4], [7, 6, 5, 4, 3, 2, 1, 0], [8, 7, 6, 5, 4, 3, 2, 1, 0], [9, 8, 7, 6, 5, 4, 3, 2, 1, 0], [9, 8, 7, 6, 5, 4, 3, 2, 1, 0], [10, 9, 8, 7, 6, 5, 4, 3, 2, 1, 0], [12, 11, 10, 9, 8, 7, 6, 5, 4, 3, 2, 1, 0]] : List (List Nat)).getD i [], fun i => ([[], [], [], [], [], [], [], [], [], [], [], [], [], []] : List (List Nat)).getD i [], fun i => ([[], [], [], [], [], [], [], [], [], [], [], [], [], []] : List (List Nat)).getD i []⟩ (fun i => ([[], [], [], [], [], [], [], [], [], [], [], [], [], []] : List (List Nat)).getD i []) (by kernel_rfl) (by kernel_rfl) ?_
        refine AJR_ev env 1 rfl (Nat.le_of_ble_eq_true rfl) rfl tv ?_
        refine AJR_ev env 2 rfl (Nat.le_of_ble_eq_true rfl) rfl tv ?_
        obtain ⟨g, h1⟩ := gd_t h1
        refine AJR_ev env 3 rfl (Nat.le_of_ble_eq_true rfl) rfl ⟨tv, ⟨tv, ⟨g.1, g.2⟩⟩⟩ ?_
        refine AJR_ev env 4 rfl (Nat.le_of_ble_eq_true rfl) rfl ⟨tv, tv⟩ ?_
        refine AJR_ev env 5 rfl (Nat.le_of_ble_eq_true rfl) rfl tv ?_
        refine AJR_ev env 6 rfl (Nat.le_of_ble_eq_true rfl) rfl tv ?_
        obtain ⟨g, h1⟩ := gd_t h1
        refine AJR_ev env 7 rfl (Nat.le_of_ble_eq_true rfl) rfl ⟨tv, ⟨tv, ⟨g.1, g.2⟩⟩⟩ ?_
        refine AJR_ev env 8 rfl (Nat.le_of_ble_eq_true rfl) rfl ⟨tv, tv⟩ ?_
        obtain ⟨⟨r45, r46⟩, hr, h1⟩ := bnd h1
        refine AJR_call 9 rfl (Nat.le_of_ble_eq_true rfl) [] rfl (psalteryref34_Number.ok0 hr) psalteryref34_Number.fnb rfl ⟨tv, ⟨tv, ⟨tv, tv⟩⟩⟩ rfl tv rfl ?_
        refine AJR_ev env 10 rfl (Nat.le_of_ble_eq_true rfl) rfl tv ?_
        refine AJR_ev env 11 rfl (Nat.le_of_ble_eq_true rfl) rfl tv ?_
        refine AJR_ev env 12 rfl (Nat.le_of_ble_eq_true rfl) rfl tv ?_
        refine AJR_ev env 13 rfl (Nat.le_of_ble_eq_true rfl) rfl tv ?_
        refine AJR_ev env 14 rfl (Nat.le_of_ble_eq_true rfl) rfl tv ?_
        refine AJR_end rfl rfl rfl ?_
        refine TE_go ?_
        refine TC_seq ?_
        refine TC_seq ?_
        refine TC_reg ?_
        refine TL_ev env 2 rfl ⟨tv, ⟨tv, tv⟩⟩ ?_
        refine TL_end ?_
        refine TE_go ?_
        refine TC_cond rfl (fun hb => ?_) (fun hb => ?_)
        · replace h1 := bif_t h1 hb
          refine TC_seq ?_
          refine TC_reg ?_
          refine TL_ev env 2 rfl ⟨tv, ⟨tv, tv⟩⟩ ?_
          refine TL_end ?_
          refine TE_go ?_
          refine TC_ret ?_
          refine tsr ?_
          refine tbr ?_
          refine tsr ?_
          refine tsr ?_
          refine tbr ?_
          refine tsr ?_
          refine tsr ?_
          obtain rfl := sinj h1
          obtain rfl := sinj h0
          exact TE_ret env rfl tv tv
        · replace h1 := bif_f h1 hb
          refine TC_skip ?_
          refine TE_go ?_
          refine TC_reg ?_
          obtain ⟨g, h1⟩ := gd_t h1
          refine TL_ev env 5 rfl ⟨tv, ⟨tv, ⟨⟨tv, tv⟩, ⟨⟨⟨tv, ⟨tv, tv⟩⟩, g⟩, ⟨tv, tv⟩⟩⟩⟩⟩ ?_
          refine TL_end ?_
          refine tbn ?_
          refine TE_go ?_
          refine TC_reg ?_
          refine TL_ev env 3 rfl ⟨tv, ⟨⟨tv, ⟨tv, tv⟩⟩, ⟨tv, tv⟩⟩⟩ ?_
          refine TL_end ?_
          refine tsn ?_
          exact TE_nextr [(11000, 1038)] n (Nat.lt_succ_self n) (_, _) h1 ⟨rfl, rfl, rfl, rfl, tv⟩ ⟨rfl, tv⟩ rfl
      · replace h1 := bif_f h1 hb
        refine TC_exit ?_
        refine tsx ?_
        refine tsx ?_
        refine tbe ?_
        obtain rfl := sinj h1
        refine tsn ?_
        exact SP_ren [(10800, 11000)] _ rfl ⟨rfl, tv⟩ ⟨rfl, tv⟩ rfl
    · rintro x27 hz
      obtain rfl := hz.symm
      refine TE_go ?_
      refine TC_seq ?_
      refine TC_reg ?_
      refine TL_ev env 3 rfl ⟨tv, ⟨tv, ⟨tv, tv⟩⟩⟩ ?_
      refine TL_end ?_
      refine TE_go ?_
      refine TC_ret ?_
      refine TE_frz 10800 rfl ?_
      obtain rfl := sinj h0
      exact TE_ret env rfl tv tv
theorem psalteryref34_numbers.ok0 {K : Nat} {p0 : List (ByteArray)} {p1 : List (Int)}  (h0 : psalteryref34_numbers K p0 p1 = some (.inl ())) : Fn Tryd.prog 37 [.im (.slice (.str)) p0, .im (.slice (.int .i64)) p1] [] (.tup [.nils, .bool false]) [] := psalteryref34_numbers.ok h0
theorem psalteryref34_numbers.ok1 {K : Nat} {p0 : List (ByteArray)} {p1 : List (Int)} {q0 : List (Int)} (h0 : psalteryref34_numbers K p0 p1 = some (.inr q0)) : Fn Tryd.prog 37 [.im (.slice (.str)) p0, .im (.slice (.int .i64)) p1] [] (.tup [.im (.slice (.int .i64)) q0, .bool true]) [] := psalteryref34_numbers.ok h0
theorem psalteryref34_numbers.fnb : fnb Tryd.prog 37 = true := fnb_of Tryd.func37 rfl
def psalteryref03_part.res (_p0 : Int) (_p1 : Int) : Int → MV
  | q0 => .int .i64 q0
def psalteryref03_part.out (_p0 : Int) (_p1 : Int) : Int → List (Nat × Option MObj)
  | _ => []
theorem psalteryref03_part.ok {K : Nat} {p0 : Int} {p1 : Int} {r : Int} (h0 : psalteryref03_part K p0 p1 = some r) : Fn Tryd.prog 84 [.int .i64 p0, .int .i64 p1] [] (psalteryref03_part.res p0 p1 r) (psalteryref03_part.out p0 p1 r) := by
  refine Fn_of Tryd.func84 rfl (Nat.le_of_ble_eq_true rfl) fun Γ => ?_
  refine TC_seq ?_
  refine TC_reg ?_
  refine TL_ev env 1 rfl ⟨tv, tv⟩ ?_
  refine TL_end ?_
  refine TE_go ?_
  refine TC_seq ?_
  refine TC_reg ?_
  refine TL_ev env 5 rfl ⟨tv, ⟨tv, ⟨⟨tv, ⟨tv, tv⟩⟩, ⟨⟨tv, ⟨tv, (by decide)⟩⟩, ⟨tv, tv⟩⟩⟩⟩⟩ ?_
  refine TL_end ?_
  refine TE_go ?_
  refine TC_ret ?_
  obtain rfl := sinj h0
  exact TE_ret env rfl tv tv
theorem psalteryref03_part.ok0 {K : Nat} {p0 : Int} {p1 : Int} {q0 : Int} (h0 : psalteryref03_part K p0 p1 = some q0) : Fn Tryd.prog 84 [.int .i64 p0, .int .i64 p1] [] (.int .i64 q0) [] := psalteryref03_part.ok h0
theorem psalteryref03_part.fnb : fnb Tryd.prog 84 = true := fnb_of Tryd.func84 rfl
def psalteryref01_down.res (_p0 : Int) (_p1 : Int) : Int → MV
  | q0 => .int .i64 q0
def psalteryref01_down.out (_p0 : Int) (_p1 : Int) : Int → List (Nat × Option MObj)
  | _ => []
theorem psalteryref01_down.ok {K : Nat} {p0 : Int} {p1 : Int} {r : Int} (h0 : psalteryref01_down K p0 p1 = some r) : Fn Tryd.prog 85 [.int .i64 p0, .int .i64 p1] [] (psalteryref01_down.res p0 p1 r) (psalteryref01_down.out p0 p1 r) := by
  refine Fn_of Tryd.func85 rfl (Nat.le_of_ble_eq_true rfl) fun Γ => ?_
  refine TC_seq ?_
  refine TC_reg ?_
  refine TL_ev env 1 rfl ⟨tv, tv⟩ ?_
  refine TL_end ?_
  refine TE_go ?_
  refine TC_seq ?_
  refine TC_reg ?_
  obtain ⟨g, h0⟩ := gd_t h0
  refine TL_ev env 4 rfl ⟨tv, ⟨tv, ⟨⟨tv, ⟨tv, g⟩⟩, ⟨tv, tv⟩⟩⟩⟩ ?_
  refine TL_end ?_
  refine TE_go ?_
  refine TC_seq ?_
  refine TC_seq ?_
  refine TC_reg ?_
  obtain ⟨g, h0⟩ := gd_t h0
  refine TL_ev env 4 rfl ⟨tv, ⟨tv, ⟨⟨tv, ⟨tv, g⟩⟩, ⟨⟨tv, ⟨tv, tv⟩⟩, tv⟩⟩⟩⟩ ?_
  refine TL_end ?_
  refine TE_go ?_
  obtain ⟨z1, h1, h0⟩ := bnd h0
  refine TC_cut (α := Int) (fun s => z1 = s) (fun s => [(5, .int .i64 s)]) (fun s => []) ?_ ?_
  · refine TC_cond rfl (fun hb => ?_) (fun hb => ?_)
    · replace h1 := bif_t h1 hb
      refine TC_reg ?_
      refine TL_ev env 3 rfl ⟨tv, ⟨⟨tv, ⟨tv, tv⟩⟩, ⟨tv, tv⟩⟩⟩ ?_
      refine TL_end ?_
      obtain rfl := sinj h1
      refine tsn ?_
      exact SP_ren [] _ rfl ⟨rfl, tv⟩ tv rfl
    · replace h1 := bif_f h1 hb
      refine TC_skip ?_
      obtain rfl := sinj h1
      refine tsn ?_
      exact SP_ren [] _ rfl ⟨rfl, tv⟩ tv rfl
  · rintro x5 hz
    obtain rfl := hz.symm
    refine TE_go ?_
    refine TC_seq ?_
    refine TC_reg ?_
    refine TL_ev env 2 rfl ⟨tv, ⟨tv, tv⟩⟩ ?_
    refine TL_end ?_
    refine TE_go ?_
    refine TC_ret ?_
    obtain rfl := sinj h0
    exact TE_ret env rfl tv tv
theorem psalteryref01_down.ok0 {K : Nat} {p0 : Int} {p1 : Int} {q0 : Int} (h0 : psalteryref01_down K p0 p1 = some q0) : Fn Tryd.prog 85 [.int .i64 p0, .int .i64 p1] [] (.int .i64 q0) [] := psalteryref01_down.ok h0
theorem psalteryref01_down.fnb : fnb Tryd.prog 85 = true := fnb_of Tryd.func85 rfl
def psalteryref01_Round.res (_p0 : Int) (_p1 : Int) : Int → MV
  | q0 => .int .i64 q0
def psalteryref01_Round.out (_p0 : Int) (_p1 : Int) : Int → List (Nat × Option MObj)
  | _ => []
theorem psalteryref01_Round.ok {K : Nat} {p0 : Int} {p1 : Int} {r : Int} (h0 : psalteryref01_Round K p0 p1 = some r) : Fn Tryd.prog 65 [.int .i64 p0, .int .i64 p1] [] (psalteryref01_Round.res p0 p1 r) (psalteryref01_Round.out p0 p1 r) := by
  refine Fn_of Tryd.func65 rfl (Nat.le_of_ble_eq_true rfl) fun Γ => ?_
  refine TC_seq ?_
  refine TC_reg ?_
  refine TL_ev env 1 rfl ⟨tv, tv⟩ ?_
  refine TL_end ?_
  refine TE_go ?_
  refine TC_seq ?_
  refine TC_reg ?_
  refine TL_ev env 4 rfl ⟨tv, ⟨⟨tv, ⟨tv, tv⟩⟩, ⟨⟨tv, ⟨tv, tv⟩⟩, ⟨tv, tv⟩⟩⟩⟩ ?_
  refine TL_end ?_
  refine TE_go ?_
  refine TC_seq ?_
  refine TC_seq ?_
  refine TC_reg ?_
  refine TL_ev env 2 rfl ⟨tv, ⟨⟨tv, ⟨tv, tv⟩⟩, tv⟩⟩ ?_
  refine TL_end ?_
  refine TE_go ?_
  refine TC_cond rfl (fun hb => ?_) (fun hb => ?_)
  · replace h0 := bif_t h0 hb
    refine TC_seq ?_
    refine TC_reg ?_
    refine TL_ev env 2 rfl ⟨tv, ⟨tv, tv⟩⟩ ?_
    refine TL_end ?_
    refine TE_go ?_
    refine TC_ret ?_
    refine tsr ?_
    obtain rfl := sinj h0
    exact TE_ret env rfl tv tv
  · replace h0 := bif_f h0 hb
    refine TC_skip ?_
    refine TE_go ?_
    refine TC_seq ?_
    refine TC_reg ?_
    obtain ⟨g, h0⟩ := gd_t h0
    refine TL_ev env 5 rfl ⟨tv, ⟨⟨tv, ⟨tv, tv⟩⟩, ⟨tv, ⟨⟨tv, ⟨tv, g⟩⟩, ⟨tv, tv⟩⟩⟩⟩⟩ ?_
    refine TL_end ?_
    refine TE_go ?_
    refine TC_seq ?_
    refine TC_reg ?_
    refine TL_ev env 2 rfl ⟨tv, ⟨tv, tv⟩⟩ ?_
    obtain ⟨r7, hr, h0⟩ := bnd h0
    refine TL_callB [] (psalteryref01_down.ok0 hr) psalteryref01_down.fnb rfl ⟨tv, ⟨tv, ⟨tv, tv⟩⟩⟩ rfl tv rfl ?_
    refine TL_ev env 1 rfl ⟨⟨tv, ⟨tv, tv⟩⟩, tv⟩ ?_
    obtain ⟨r9, hr, h0⟩ := bnd h0
    refine TL_callB [] (psalteryref01_down.ok0 hr) psalteryref01_down.fnb rfl ⟨tv, ⟨tv, ⟨tv, tv⟩⟩⟩ rfl tv rfl ?_
    refine TL_ev env 1 rfl ⟨tv, tv⟩ ?_
    refine TL_end ?_
    refine TE_go ?_
    refine TC_ret ?_
    obtain rfl := sinj h0
    exact TE_ret env rfl tv tv
theorem psalteryref01_Round.ok0 {K : Nat} {p0 : Int} {p1 : Int} {q0 : Int} (h0 : psalteryref01_Round K p0 p1 = some q0) : Fn Tryd.prog 65 [.int .i64 p0, .int .i64 p1] [] (.int .i64 q0) [] := psalteryref01_Round.ok h0
theorem psalteryref01_Round.fnb : fnb Tryd.prog 65 = true := fnb_of Tryd.func65 rfl
def psalteryref03_signed.res (_p0 : Int) (_p1 : Int) (_p2 : Bool) : Int → MV
  | q0 => .int .i16 q0
def psalteryref03_signed.out (_p0 : Int) (_p1 : Int) (_p2 : Bool) : Int → List (Nat × Option MObj)
  | _ => []
theorem psalteryref03_signed.ok {K : Nat} {p0 : Int} {p1 : Int} {p2 : Bool} {r : Int} (h0 : psalteryref03_signed K p0 p1 p2 = some r) : Fn Tryd.prog 63 [.int .i64 p0, .int .i64 p1, .bool p2] [] (psalteryref03_signed.res p0 p1 p2 r) (psalteryref03_signed.out p0 p1 p2 r) := by
  refine Fn_of Tryd.func63 rfl (Nat.le_of_ble_eq_true rfl) fun Γ => ?_
  refine TC_seq ?_
  refine TC_reg ?_
  refine TL_ev env 1 rfl ⟨tv, tv⟩ ?_
  refine TL_end ?_
  refine TE_go ?_
  refine TC_seq ?_
  refine TC_reg ?_
  refine TL_ev env 3 rfl ⟨tv, ⟨⟨tv, ⟨tv, tv⟩⟩, ⟨tv, tv⟩⟩⟩ ?_
  refine TL_end ?_
  refine TE_go ?_
  refine TC_seq ?_
  refine TC_seq ?_
  refine TC_reg ?_
  refine TL_ev env 3 rfl ⟨tv, ⟨tv, ⟨⟨tv, ⟨tv, tv⟩⟩, tv⟩⟩⟩ ?_
  refine TL_end ?_
  refine TE_go ?_
  obtain ⟨z1, h1, h0⟩ := bnd h0
  refine TC_cut (α := Int) (fun s => z1 = s) (fun s => [(1, .int .i64 p1), (2, .bool p2), (7, .int .i64 s)]) (fun s => []) ?_ ?_
  · refine TC_cond rfl (fun hb => ?_) (fun hb => ?_)
    · replace h1 := bif_t h1 hb
      refine TC_reg ?_
      refine TL_ev env 5 rfl ⟨tv, ⟨⟨tv, ⟨tv, tv⟩⟩, ⟨tv, ⟨⟨tv, ⟨tv, tv⟩⟩, ⟨tv, tv⟩⟩⟩⟩⟩ ?_
      refine TL_end ?_
      obtain rfl := sinj h1
      refine tsn ?_
      exact SP_ren [] _ rfl ⟨rfl, rfl, rfl, tv⟩ tv rfl
    · replace h1 := bif_f h1 hb
      refine TC_skip ?_
      obtain rfl := sinj h1
      refine tsn ?_
      exact SP_ren [] _ rfl ⟨rfl, rfl, rfl, tv⟩ tv rfl
  · rintro x12 hz
    obtain rfl := hz.symm
    refine TE_go ?_
    refine TC_seq ?_
    refine TC_reg ?_
    obtain ⟨g, h0⟩ := gd_t h0
    refine TL_ev env 5 rfl ⟨tv, ⟨⟨tv, ⟨tv, tv⟩⟩, ⟨tv, ⟨⟨tv, ⟨tv, g⟩⟩, ⟨tv, tv⟩⟩⟩⟩⟩ ?_
    refine TL_end ?_
    refine TE_go ?_
    refine TC_seq ?_
    refine TC_reg ?_
    refine TL_ev env 2 rfl ⟨tv, ⟨tv, tv⟩⟩ ?_
    obtain ⟨r15, hr, h0⟩ := bnd h0
    refine TL_callB [] (psalteryref03_part.ok0 hr) psalteryref03_part.fnb rfl ⟨tv, ⟨tv, ⟨tv, tv⟩⟩⟩ rfl tv rfl ?_
    refine TL_ev env 1 rfl ⟨tv, tv⟩ ?_
    refine TL_end ?_
    refine TE_go ?_
    refine TC_seq ?_
    refine TC_reg ?_
    refine TL_ev env 1 rfl ⟨tv, tv⟩ ?_
    obtain ⟨r16, hr, h0⟩ := bnd h0
    refine TL_callB [] (psalteryref03_part.ok0 hr) psalteryref03_part.fnb rfl ⟨tv, ⟨tv, ⟨tv, tv⟩⟩⟩ rfl tv rfl ?_
    refine TL_ev env 2 rfl ⟨⟨tv, ⟨tv, tv⟩⟩, ⟨tv, tv⟩⟩ ?_
    obtain ⟨r18, hr, h0⟩ := bnd h0
    refine TL_callB [] (psalteryref03_part.ok0 hr) psalteryref03_part.fnb rfl ⟨tv, ⟨tv, ⟨tv, tv⟩⟩⟩ rfl tv rfl ?_
    refine TL_ev env 2 rfl ⟨⟨tv, ⟨tv, tv⟩⟩, ⟨tv, tv⟩⟩ ?_
    obtain ⟨r20, hr, h0⟩ := bnd h0
    refine TL_callB [] (psalteryref03_part.ok0 hr) psalteryref03_part.fnb rfl ⟨tv, ⟨tv, ⟨tv, tv⟩⟩⟩ rfl tv rfl ?_
    refine TL_ev env 2 rfl ⟨⟨tv, ⟨tv, tv⟩⟩, ⟨tv, tv⟩⟩ ?_
    obtain ⟨r22, hr, h0⟩ := bnd h0
    refine TL_callB [] (psalteryref03_part.ok0 hr) psalteryref03_part.fnb rfl ⟨tv, ⟨tv, ⟨tv, tv⟩⟩⟩ rfl tv rfl ?_
    refine TL_ev env 2 rfl ⟨⟨tv, ⟨tv, tv⟩⟩, ⟨tv, tv⟩⟩ ?_
    refine TL_end ?_
    refine TE_go ?_
    refine TC_seq ?_
    refine TC_reg ?_
    refine TL_ev env 2 rfl ⟨tv, ⟨tv, tv⟩⟩ ?_
    obtain ⟨r24, hr, h0⟩ := bnd h0
    refine TL_callB [] (psalteryref03_part.ok0 hr) psalteryref03_part.fnb rfl ⟨tv, ⟨tv, ⟨tv, tv⟩⟩⟩ rfl tv rfl ?_
    obtain ⟨r25, hr, h0⟩ := bnd h0
    refine TL_callB [] (psalteryref01_Round.ok0 hr) psalteryref01_Round.fnb rfl ⟨tv, ⟨tv, ⟨tv, tv⟩⟩⟩ rfl tv rfl ?_
    refine TL_ev env 1 rfl ⟨tv, tv⟩ ?_
    refine TL_end ?_
    refine TE_go ?_
    refine TC_seq ?_
    refine TC_seq ?_
    refine TC_reg ?_
    refine TL_ev env 2 rfl ⟨tv, ⟨⟨tv, ⟨tv, tv⟩⟩, tv⟩⟩ ?_
    refine TL_end ?_
    refine TE_go ?_
    obtain ⟨z1, h1, h0⟩ := bnd h0
    refine TC_cut (α := Int) (fun s => z1 = s) (fun s => [(2, .bool p2), (11, .int .i64 s)]) (fun s => []) ?_ ?_
    · refine TC_cond rfl (fun hb => ?_) (fun hb => ?_)
      · replace h1 := bif_t h1 hb
        refine TC_reg ?_
        refine TL_ev env 1 rfl ⟨tv, tv⟩ ?_
        refine TL_end ?_
        obtain rfl := sinj h1
        refine tsn ?_
        exact SP_ren [] _ rfl ⟨rfl, rfl, tv⟩ tv rfl
      · replace h1 := bif_f h1 hb
        refine TC_skip ?_
        obtain rfl := sinj h1
        refine tsn ?_
        exact SP_ren [] _ rfl ⟨rfl, rfl, tv⟩ tv rfl
    · rintro x27 hz
      obtain rfl := hz.symm
      refine TE_go ?_
      refine TC_seq ?_
      refine TC_seq ?_
      refine TC_reg ?_
      refine TL_ev env 1 rfl ⟨tv, tv⟩ ?_
      refine TL_end ?_
      refine TE_go ?_
      refine TC_cond rfl (fun hb => ?_) (fun hb => ?_)
      · replace h0 := bif_t h0 hb
        refine TC_seq ?_
        refine TC_reg ?_
        refine TL_ev env 4 rfl ⟨tv, ⟨tv, ⟨tv, ⟨tv, tv⟩⟩⟩⟩ ?_
        refine TL_end ?_
        refine TE_go ?_
        refine TC_ret ?_
        refine tsr ?_
        obtain rfl := sinj h0
        exact TE_ret env rfl tv tv
      · replace h0 := bif_f h0 hb
        refine TC_skip ?_
        refine TE_go ?_
        refine TC_seq ?_
        refine TC_reg ?_
        refine TL_ev env 3 rfl ⟨tv, ⟨tv, ⟨tv, tv⟩⟩⟩ ?_
        refine TL_end ?_
        refine TE_go ?_
        refine TC_ret ?_
        obtain rfl := sinj h0
        exact TE_ret env rfl tv tv
theorem psalteryref03_signed.ok0 {K : Nat} {p0 : Int} {p1 : Int} {p2 : Bool} {q0 : Int} (h0 : psalteryref03_signed K p0 p1 p2 = some q0) : Fn Tryd.prog 63 [.int .i64 p0, .int .i64 p1, .bool p2] [] (.int .i16 q0) [] := psalteryref03_signed.ok h0
theorem psalteryref03_signed.fnb : fnb Tryd.prog 63 = true := fnb_of Tryd.func63 rfl
def psalteryref03_of.res (_p0 : Int) (_p1 : Int) : Int → MV
  | q0 => .int .i16 q0
def psalteryref03_of.out (_p0 : Int) (_p1 : Int) : Int → List (Nat × Option MObj)
  | _ => []
theorem psalteryref03_of.ok {K : Nat} {p0 : Int} {p1 : Int} {r : Int} (h0 : psalteryref03_of K p0 p1 = some r) : Fn Tryd.prog 62 [.int .i64 p0, .int .i64 p1] [] (psalteryref03_of.res p0 p1 r) (psalteryref03_of.out p0 p1 r) := by
  refine Fn_of Tryd.func62 rfl (Nat.le_of_ble_eq_true rfl) fun Γ => ?_
  refine TC_seq ?_
  refine TC_reg ?_
  refine TL_ev env 1 rfl ⟨tv, tv⟩ ?_
  refine TL_end ?_
  refine TE_go ?_
  refine TC_seq ?_
  refine TC_reg ?_
  refine TL_ev env 2 rfl ⟨tv, ⟨tv, tv⟩⟩ ?_
  refine TL_end ?_
  refine TE_go ?_
  refine TC_seq ?_
  refine TC_seq ?_
  refine TC_reg ?_
  refine TL_ev env 2 rfl ⟨tv, ⟨⟨tv, ⟨tv, tv⟩⟩, tv⟩⟩ ?_
  refine TL_end ?_
  refine TE_go ?_
  obtain ⟨z1, h1, h0⟩ := bnd h0
  refine TC_cut (α := Int) (fun s => z1 = s) (fun s => [(1, .int .i64 p1), (5, .int .i64 s)]) (fun s => []) ?_ ?_
  · refine TC_cond rfl (fun hb => ?_) (fun hb => ?_)
    · replace h1 := bif_t h1 hb
      refine TC_reg ?_
      refine TL_ev env 4 rfl ⟨tv, ⟨tv, ⟨⟨tv, ⟨tv, tv⟩⟩, ⟨tv, tv⟩⟩⟩⟩ ?_
      refine TL_end ?_
      obtain rfl := sinj h1
      refine tsn ?_
      exact SP_ren [] _ rfl ⟨rfl, rfl, tv⟩ tv rfl
    · replace h1 := bif_f h1 hb
      refine TC_skip ?_
      obtain rfl := sinj h1
      refine tsn ?_
      exact SP_ren [] _ rfl ⟨rfl, rfl, tv⟩ tv rfl
  · rintro x6 hz
    obtain rfl := hz.symm
    refine TE_go ?_
    refine TC_seq ?_
    refine TC_seq ?_
    refine TC_reg ?_
    refine TL_ev env 4 rfl ⟨tv, ⟨⟨tv, ⟨tv, tv⟩⟩, ⟨tv, ⟨⟨tv, ⟨tv, tv⟩⟩, tv⟩⟩⟩⟩ ?_
    refine TL_end ?_
    refine TE_go ?_
    refine TC_cond rfl (fun hb => ?_) (fun hb => ?_)
    · replace h0 := bif_t h0 hb
      refine TC_seq ?_
      refine TC_reg ?_
      refine TL_ev env 5 rfl ⟨tv, ⟨tv, ⟨⟨tv, ⟨tv, (by decide)⟩⟩, ⟨⟨tv, ⟨tv, tv⟩⟩, ⟨tv, tv⟩⟩⟩⟩⟩ ?_
      obtain ⟨r12, hr, h0⟩ := bnd h0
      refine TL_callB [] (psalteryref03_signed.ok0 hr) psalteryref03_signed.fnb rfl ⟨tv, ⟨tv, ⟨tv, ⟨tv, tv⟩⟩⟩⟩ rfl tv rfl ?_
      refine TL_ev env 1 rfl ⟨tv, tv⟩ ?_
      refine TL_end ?_
      refine TE_go ?_
      refine TC_ret ?_
      refine tsr ?_
      obtain rfl := sinj h0
      exact TE_ret env rfl tv tv
    · replace h0 := bif_f h0 hb
      refine TC_skip ?_
      refine TE_go ?_
      refine TC_seq ?_
      refine TC_reg ?_
      refine TL_ev env 2 rfl ⟨tv, ⟨tv, tv⟩⟩ ?_
      obtain ⟨r13, hr, h0⟩ := bnd h0
      refine TL_callB [] (psalteryref03_signed.ok0 hr) psalteryref03_signed.fnb rfl ⟨tv, ⟨tv, ⟨tv, ⟨tv, tv⟩⟩⟩⟩ rfl tv rfl ?_
      refine TL_ev env 1 rfl ⟨tv, tv⟩ ?_
      refine TL_end ?_
      refine TE_go ?_
      refine TC_ret ?_
      obtain rfl := sinj h0
      exact TE_ret env rfl tv tv
theorem psalteryref03_of.ok0 {K : Nat} {p0 : Int} {p1 : Int} {q0 : Int} (h0 : psalteryref03_of K p0 p1 = some q0) : Fn Tryd.prog 62 [.int .i64 p0, .int .i64 p1] [] (.int .i16 q0) [] := psalteryref03_of.ok h0
theorem psalteryref03_of.fnb : fnb Tryd.prog 62 = true := fnb_of Tryd.func62 rfl
def psalteryref03_Of.res (_p0 : Int) (_p1 : Int) : Int → MV
  | q0 => .int .i16 q0
def psalteryref03_Of.out (_p0 : Int) (_p1 : Int) : Int → List (Nat × Option MObj)
  | _ => []
theorem psalteryref03_Of.ok {K : Nat} {p0 : Int} {p1 : Int} {r : Int} (h0 : psalteryref03_Of K p0 p1 = some r) : Fn Tryd.prog 38 [.int .i64 p0, .int .i64 p1] [] (psalteryref03_Of.res p0 p1 r) (psalteryref03_Of.out p0 p1 r) := by
  refine Fn_of Tryd.func38 rfl (Nat.le_of_ble_eq_true rfl) fun Γ => ?_
  refine TC_seq ?_
  refine TC_reg ?_
  refine TL_ev env 1 rfl ⟨tv, tv⟩ ?_
  refine TL_end ?_
  refine TE_go ?_
  refine TC_seq ?_
  refine TC_reg ?_
  obtain ⟨g, h0⟩ := gd_t h0
  refine TL_ev env 4 rfl ⟨tv, ⟨tv, ⟨⟨tv, ⟨tv, g⟩⟩, ⟨tv, tv⟩⟩⟩⟩ ?_
  refine TL_end ?_
  refine TE_go ?_
  refine TC_seq ?_
  refine TC_seq ?_
  refine TC_reg ?_
  refine TL_ev env 2 rfl ⟨tv, ⟨⟨tv, ⟨tv, tv⟩⟩, tv⟩⟩ ?_
  refine TL_end ?_
  refine TE_go ?_
  obtain ⟨z1, h1, h0⟩ := bnd h0
  refine TC_cut (α := Int) (fun s => z1 = s) (fun s => [(0, .int .i64 p0), (1, .int .i64 p1), (5, .int .i64 s)]) (fun s => []) ?_ ?_
  · refine TC_cond rfl (fun hb => ?_) (fun hb => ?_)
    · replace h1 := bif_t h1 hb
      refine TC_reg ?_
      refine TL_ev env 4 rfl ⟨tv, ⟨tv, ⟨⟨tv, ⟨tv, tv⟩⟩, ⟨tv, tv⟩⟩⟩⟩ ?_
      refine TL_end ?_
      obtain rfl := sinj h1
      refine tsn ?_
      exact SP_ren [] _ rfl ⟨rfl, rfl, rfl, tv⟩ tv rfl
    · replace h1 := bif_f h1 hb
      refine TC_skip ?_
      obtain rfl := sinj h1
      refine tsn ?_
      exact SP_ren [] _ rfl ⟨rfl, rfl, rfl, tv⟩ tv rfl
  · rintro x7 hz
    obtain rfl := hz.symm
    refine TE_go ?_
    refine TC_seq ?_
    refine TC_reg ?_
    refine TL_ev env 5 rfl ⟨tv, ⟨⟨tv, ⟨tv, tv⟩⟩, ⟨tv, ⟨⟨tv, ⟨tv, tv⟩⟩, ⟨tv, tv⟩⟩⟩⟩⟩ ?_
    refine TL_end ?_
    refine TE_go ?_
    refine TC_seq ?_
    refine TC_seq ?_
    refine TC_reg ?_
    refine TL_ev env 1 rfl ⟨tv, tv⟩ ?_
    refine TL_end ?_
    refine TE_go ?_
    obtain ⟨z1, h1, h0⟩ := bnd h0
    refine TC_cut (α := Int) (fun s => z1 = .inl s) (fun s => [(1, .int .i64 p1), (5, .int .i64 s), (6, .bool (decide ((kwrap .i64 (2 * x7)) ≥ p1)))]) (fun s => []) ?_ ?_
    · refine TC_cond rfl (fun hb => ?_) (fun hb => ?_)
      · replace h1 := bif_t h1 hb
        refine TC_seq ?_
        refine TC_reg ?_
        refine TL_ev env 5 rfl ⟨tv, ⟨tv, ⟨⟨tv, ⟨tv, (by decide)⟩⟩, ⟨⟨tv, ⟨tv, tv⟩⟩, ⟨tv, tv⟩⟩⟩⟩⟩ ?_
        refine TL_end ?_
        refine TE_go ?_
        refine TC_seq ?_
        refine TC_reg ?_
        refine TL_ev env 3 rfl ⟨tv, ⟨⟨tv, ⟨tv, (by decide)⟩⟩, ⟨⟨tv, ⟨tv, tv⟩⟩, tv⟩⟩⟩ ?_
        refine TL_end ?_
        refine TE_go ?_
        refine TC_cond rfl (fun hb => ?_) (fun hb => ?_)
        · replace h1 := bif_t h1 hb
          refine TC_seq ?_
          refine TC_reg ?_
          obtain ⟨g, h1⟩ := gd_t h1
          refine TL_ev env 6 rfl ⟨tv, ⟨tv, ⟨⟨tv, ⟨tv, g⟩⟩, ⟨⟨tv, ⟨tv, tv⟩⟩, ⟨tv, ⟨⟨tv, ⟨tv, tv⟩⟩, tv⟩⟩⟩⟩⟩⟩ ?_
          obtain ⟨r18, hr, h1⟩ := bnd h1
          refine TL_callB [] (psalteryref03_of.ok0 hr) psalteryref03_of.fnb rfl ⟨tv, ⟨tv, ⟨tv, tv⟩⟩⟩ rfl tv rfl ?_
          refine TL_ev env 1 rfl ⟨tv, tv⟩ ?_
          refine TL_end ?_
          refine TE_go ?_
          refine TC_ret ?_
          refine tsr ?_
          refine tsr ?_
          obtain rfl := sinj h1
          obtain rfl := sinj h0
          exact TE_ret env rfl tv tv
        · replace h1 := bif_f h1 hb
          refine TC_skip ?_
          obtain rfl := sinj h1
          refine tsn ?_
          exact SP_ren [] _ rfl ⟨rfl, rfl, rfl, tv⟩ tv rfl
      · replace h1 := bif_f h1 hb
        refine TC_skip ?_
        obtain rfl := sinj h1
        refine tsn ?_
        exact SP_ren [] _ rfl ⟨rfl, rfl, rfl, tv⟩ tv rfl
    · rintro x11 hz
      obtain rfl := hz.symm
      refine TE_go ?_
      refine TC_seq ?_
      refine TC_reg ?_
      refine TL_ev env 3 rfl ⟨tv, ⟨tv, ⟨tv, tv⟩⟩⟩ ?_
      obtain ⟨r12, hr, h0⟩ := bnd h0
      refine TL_callB [] (psalteryref03_signed.ok0 hr) psalteryref03_signed.fnb rfl ⟨tv, ⟨tv, ⟨tv, ⟨tv, tv⟩⟩⟩⟩ rfl tv rfl ?_
      refine TL_ev env 1 rfl ⟨tv, tv⟩ ?_
      refine TL_end ?_
      refine TE_go ?_
      refine TC_ret ?_
      obtain rfl := sinj h0
      exact TE_ret env rfl tv tv
theorem psalteryref03_Of.ok0 {K : Nat} {p0 : Int} {p1 : Int} {q0 : Int} (h0 : psalteryref03_Of K p0 p1 = some q0) : Fn Tryd.prog 38 [.int .i64 p0, .int .i64 p1] [] (.int .i16 q0) [] := psalteryref03_Of.ok h0
theorem psalteryref03_Of.fnb : fnb Tryd.prog 38 = true := fnb_of Tryd.func38 rfl
def psalteryref01_Sat.res (_p0 : Int) (_p1 : Int) : Int → MV
  | q0 => .int .i64 q0
def psalteryref01_Sat.out (_p0 : Int) (_p1 : Int) : Int → List (Nat × Option MObj)
  | _ => []
theorem psalteryref01_Sat.ok {K : Nat} {p0 : Int} {p1 : Int} {r : Int} (h0 : psalteryref01_Sat K p0 p1 = some r) : Fn Tryd.prog 64 [.int .i64 p0, .int .i64 p1] [] (psalteryref01_Sat.res p0 p1 r) (psalteryref01_Sat.out p0 p1 r) := by
  refine Fn_of Tryd.func64 rfl (Nat.le_of_ble_eq_true rfl) fun Γ => ?_
  refine TC_seq ?_
  refine TC_reg ?_
  refine TL_ev env 1 rfl ⟨tv, tv⟩ ?_
  refine TL_end ?_
  refine TE_go ?_
  refine TC_seq ?_
  refine TC_reg ?_
  obtain ⟨g, h0⟩ := gd_t h0
  refine TL_ev env 6 rfl ⟨tv, ⟨⟨tv, ⟨tv, tv⟩⟩, ⟨tv, ⟨⟨tv, ⟨tv, g⟩⟩, ⟨⟨tv, ⟨tv, tv⟩⟩, ⟨tv, tv⟩⟩⟩⟩⟩⟩ ?_
  refine TL_end ?_
  refine TE_go ?_
  refine TC_seq ?_
  refine TC_seq ?_
  refine TC_reg ?_
  refine TL_ev env 3 rfl ⟨tv, ⟨tv, ⟨⟨tv, ⟨tv, tv⟩⟩, tv⟩⟩⟩ ?_
  refine TL_end ?_
  refine TE_go ?_
  refine TC_cond rfl (fun hb => ?_) (fun hb => ?_)
  · replace h0 := bif_t h0 hb
    refine TC_seq ?_
    refine TC_reg ?_
    refine TL_ev env 2 rfl ⟨tv, ⟨tv, tv⟩⟩ ?_
    refine TL_end ?_
    refine TE_go ?_
    refine TC_ret ?_
    refine tsr ?_
    obtain rfl := sinj h0
    exact TE_ret env rfl tv tv
  · replace h0 := bif_f h0 hb
    refine TC_skip ?_
    refine TE_go ?_
    refine TC_seq ?_
    refine TC_seq ?_
    refine TC_reg ?_
    refine TL_ev env 5 rfl ⟨tv, ⟨tv, ⟨tv, ⟨⟨tv, ⟨tv, tv⟩⟩, ⟨⟨tv, ⟨tv, tv⟩⟩, tv⟩⟩⟩⟩⟩ ?_
    refine TL_end ?_
    refine TE_go ?_
    refine TC_cond rfl (fun hb => ?_) (fun hb => ?_)
    · replace h0 := bif_t h0 hb
      refine TC_seq ?_
      refine TC_reg ?_
      refine TL_ev env 4 rfl ⟨tv, ⟨tv, ⟨⟨tv, ⟨tv, tv⟩⟩, ⟨tv, tv⟩⟩⟩⟩ ?_
      refine TL_end ?_
      refine TE_go ?_
      refine TC_ret ?_
      refine tsr ?_
      obtain rfl := sinj h0
      exact TE_ret env rfl tv tv
    · replace h0 := bif_f h0 hb
      refine TC_skip ?_
      refine TE_go ?_
      refine TC_seq ?_
      refine TC_reg ?_
      refine TL_ev env 2 rfl ⟨tv, ⟨tv, tv⟩⟩ ?_
      refine TL_end ?_
      refine TE_go ?_
      refine TC_ret ?_
      obtain rfl := sinj h0
      exact TE_ret env rfl tv tv
theorem psalteryref01_Sat.ok0 {K : Nat} {p0 : Int} {p1 : Int} {q0 : Int} (h0 : psalteryref01_Sat K p0 p1 = some q0) : Fn Tryd.prog 64 [.int .i64 p0, .int .i64 p1] [] (.int .i64 q0) [] := psalteryref01_Sat.ok h0
theorem psalteryref01_Sat.fnb : fnb Tryd.prog 64 = true := fnb_of Tryd.func64 rfl
def psalteryref01_Mul.res (_p0 : Int) (_p1 : Int) (_p2 : Int) : Int → MV
  | q0 => .int .i32 q0
def psalteryref01_Mul.out (_p0 : Int) (_p1 : Int) (_p2 : Int) : Int → List (Nat × Option MObj)
  | _ => []
theorem psalteryref01_Mul.ok {K : Nat} {p0 : Int} {p1 : Int} {p2 : Int} {r : Int} (h0 : psalteryref01_Mul K p0 p1 p2 = some r) : Fn Tryd.prog 39 [.int .i64 p0, .int .i64 p1, .int .i64 p2] [] (psalteryref01_Mul.res p0 p1 p2 r) (psalteryref01_Mul.out p0 p1 p2 r) := by
  refine Fn_of Tryd.func39 rfl (Nat.le_of_ble_eq_true rfl) fun Γ => ?_
  refine TC_seq ?_
  refine TC_reg ?_
  refine TL_ev env 1 rfl ⟨tv, tv⟩ ?_
  refine TL_end ?_
  refine TE_go ?_
  refine TC_seq ?_
  refine TC_reg ?_
  refine TL_ev env 4 rfl ⟨tv, ⟨tv, ⟨⟨tv, ⟨tv, tv⟩⟩, ⟨tv, tv⟩⟩⟩⟩ ?_
  obtain ⟨r4, hr, h0⟩ := bnd h0
  refine TL_callB [] (psalteryref01_Round.ok0 hr) psalteryref01_Round.fnb rfl ⟨tv, ⟨tv, ⟨tv, tv⟩⟩⟩ rfl tv rfl ?_
  obtain ⟨r5, hr, h0⟩ := bnd h0
  refine TL_callB [] (psalteryref01_Sat.ok0 hr) psalteryref01_Sat.fnb rfl ⟨tv, ⟨tv, ⟨tv, tv⟩⟩⟩ rfl tv rfl ?_
  refine TL_ev env 2 rfl ⟨tv, ⟨tv, tv⟩⟩ ?_
  refine TL_end ?_
  refine TE_go ?_
  refine TC_ret ?_
  obtain rfl := sinj h0
  exact TE_ret env rfl tv tv
theorem psalteryref01_Mul.ok0 {K : Nat} {p0 : Int} {p1 : Int} {p2 : Int} {q0 : Int} (h0 : psalteryref01_Mul K p0 p1 p2 = some q0) : Fn Tryd.prog 39 [.int .i64 p0, .int .i64 p1, .int .i64 p2] [] (.int .i32 q0) [] := psalteryref01_Mul.ok h0
theorem psalteryref01_Mul.fnb : fnb Tryd.prog 39 = true := fnb_of Tryd.func39 rfl
def psalteryref34_hex.res (_p0 : ByteArray) : (Bool) ⊕ ((List (Int))) → MV
  | .inl q0 => .tup [.nils, .bool q0]
  | .inr q0 => .tup [.im (.slice (.int .u8)) q0, .bool true]
def psalteryref34_hex.out (_p0 : ByteArray) : (Bool) ⊕ ((List (Int))) → List (Nat × Option MObj)
  | .inl _ => []
  | .inr _ => []
theorem psalteryref34_hex.ok {K : Nat} {p0 : ByteArray} {r : (Bool) ⊕ ((List (Int)))} (h0 : psalteryref34_hex K p0 = some r) : Fn Tryd.prog 40 [.str p0] [] (psalteryref34_hex.res p0 r) (psalteryref34_hex.out p0 r) := by
  refine Fn_of Tryd.func40 rfl (Nat.le_of_ble_eq_true rfl) fun Γ => ?_
  refine TC_seq ?_
  refine TC_reg ?_
  refine TL_ev env 2 rfl ⟨tv, ⟨tv, tv⟩⟩ ?_
  refine TL_end ?_
  refine TE_go ?_
  refine TC_seq ?_
  refine TC_seq ?_
  refine TC_reg ?_
  refine TL_ev env 2 rfl ⟨tv, ⟨⟨tv, ⟨tv, tv⟩⟩, tv⟩⟩ ?_
  refine TL_end ?_
  refine TE_go ?_
  refine TC_cond rfl (fun hb => ?_) (fun hb => ?_)
  · replace h0 := bif_t h0 hb
    refine TC_seq ?_
    refine TC_reg ?_
    refine TL_ev env 2 rfl ⟨tv, ⟨tv, tv⟩⟩ ?_
    refine TL_end ?_
    refine TE_go ?_
    refine TC_ret ?_
    refine tsr ?_
    obtain rfl := sinj h0
    exact TE_ret env rfl tv tv
  · replace h0 := bif_f h0 hb
    refine TC_skip ?_
    refine TE_go ?_
    refine TC_seq ?_
    refine TC_seq ?_
    refine TC_reg ?_
    refine TL_ev env 8 rfl ⟨tv, ⟨⟨tv, ⟨tv, tv⟩⟩, ⟨tv, ⟨fun eg => tv, ⟨fun eg => ⟨fun e => e, tv⟩, ⟨fun eg => ⟨fun e => e, ⟨tv, (by decide)⟩⟩, ⟨fun eg => ⟨fun e => e, ⟨tv, tv⟩⟩, ⟨⟨tv, ⟨tv, fun e => e⟩⟩, tv⟩⟩⟩⟩⟩⟩⟩⟩ ?_
    refine TL_end ?_
    refine TE_go ?_
    refine TC_cond rfl (fun hb => ?_) (fun hb => ?_)
    · replace h0 := bif_t h0 hb
      refine TC_seq ?_
      refine TC_reg ?_
      refine TL_ev env 2 rfl ⟨tv, ⟨tv, tv⟩⟩ ?_
      refine TL_end ?_
      refine TE_go ?_
      refine TC_ret ?_
      refine tsr ?_
      obtain rfl := sinj h0
      exact TE_ret env rfl tv tv
    · replace h0 := bif_f h0 hb
      refine TC_skip ?_
      refine TE_go ?_
      refine TC_seq ?_
      refine TC_reg ?_
      refine TL_ev env 1 rfl ⟨tv, tv⟩ ?_
      refine TL_end ?_
      refine TE_go ?_
      refine TC_seq ?_
      refine TC_seq ?_
      refine TC_reg ?_
      refine TL_ev env 1 rfl ⟨tv, tv⟩ ?_
      refine TL_end ?_
      refine TE_go ?_
      obtain ⟨z1, h1, h0⟩ := bnd h0
      refine TC_cut (α := (List (Int))) (fun s => z1 = .inl s) (fun s => [(4, .sl 15600)]) (fun s => [(15600, some (.rows (.int .u8) s))]) ?_ ?_
      · refine TC_blk ?_
        refine TC_loop (α := Int × (List (Int))) (fun n s => psalteryref34_hex.l0 K p0 n s.1 s.2 = some z1) (fun s => [(0, .str p0), (4, .sl 17000), (5, .int .i64 s.1)]) (fun s => [(17000, some (.rows (.int .u8) s.2))]) K ?_ ?_
        · refine TE_own 4 7004 (.int .u8) rfl (by decide) rfl rfl ?_
          exact SP_ren [(17000, 7004)] (_, _) h1 ⟨rfl, rfl, rfl, tv⟩ ⟨rfl, tv⟩ rfl
        rintro n ⟨x85, x86⟩ h1
        rcases n with _ | n
        · exact (nsome h1).elim
        replace h1 : psalteryref34_hex.r0 K p0 (psalteryref34_hex.l0 K p0 n) x85 x86 = some z1 := h1
        refine TC_seq ?_
        refine TC_seq ?_
        refine TC_reg ?_
        refine TL_ev env 4 rfl ⟨tv, ⟨tv, ⟨⟨tv, tv⟩, ⟨⟨tv, ⟨tv, tv⟩⟩, tv⟩⟩⟩⟩ ?_
        refine TL_end ?_
        refine TE_go ?_
        refine TC_cond rfl (fun hb => ?_) (fun hb => ?_)
        · replace h1 := bif_t h1 hb
          refine TC_skip ?_
          refine TE_go ?_
          refine TC_seq ?_
          refine TC_blk ?_
          refine TC_seq ?_
          refine TC_reg ?_
          refine TL_ev env 1 rfl ⟨tv, tv⟩ ?_
          refine TL_end ?_
          refine TE_go ?_
          refine TC_seq ?_
          refine TC_seq ?_
          refine TC_reg ?_
          refine TL_ev env 2 rfl ⟨tv, ⟨tv, tv⟩⟩ ?_
          refine TL_end ?_
          refine TE_go ?_
          obtain ⟨z2, h2, h1⟩ := bnd h1
          refine TC_cut (α := Int) (fun s => z2 = .inl s) (fun s => [(0, .str p0), (4, .sl 19500), (5, .int .i64 x85), (6, .int .i64 s)]) (fun s => [(19500, some (.rows (.int .u8) x86))]) ?_ ?_
          · refine TC_blk ?_
            refine TC_loop (α := Int × Int) (fun n s => psalteryref34_hex.l1 K p0 x85 x86 n s.1 s.2 = some z2) (fun s => [(0, .str p0), (4, .sl 19800), (5, .int .i64 x85), (6, .int .i64 s.1), (7, .int .i64 s.2)]) (fun s => [(19800, some (.rows (.int .u8) x86))]) K ?_ ?_
            · exact SP_ren [(19800, 17000)] (_, _) h2 ⟨rfl, rfl, rfl, rfl, rfl, tv⟩ ⟨rfl, tv⟩ rfl
            rintro n ⟨x121, x122⟩ h2
            rcases n with _ | n
            · exact (nsome h2).elim
            replace h2 : psalteryref34_hex.r1 K p0 x85 x86 (psalteryref34_hex.l1 K p0 x85 x86 n) x121 x122 = some z2 := h2
            refine TC_seq ?_
            refine TC_seq ?_
            refine TC_reg ?_
            refine TL_ev env 4 rfl ⟨tv, ⟨tv, ⟨⟨tv, ⟨tv, tv⟩⟩, ⟨⟨tv, ⟨tv, tv⟩⟩, tv⟩⟩⟩⟩ ?_
            refine TL_end ?_
            refine TE_go ?_
            refine TC_cond rfl (fun hb => ?_) (fun hb => ?_)
            · replace h2 := bif_t h2 hb
              refine TC_skip ?_
              refine TE_go ?_
              refine TC_seq ?_
              obtain ⟨z3, h3, h2⟩ := bnd h2
              refine TC_cut (α := Int) (fun s => z3 = .inl s) (fun s => [(0, .str p0), (4, .sl 20100), (5, .int .i64 x85), (6, .int .i64 s), (7, .int .i64 x122)]) (fun s => [(20100, some (.rows (.int .u8) x86))]) ?_ ?_
              · refine TC_blk ?_
                refine TC_seq ?_
                refine TC_reg ?_
                obtain ⟨g, h3⟩ := gd_t h3
                refine TL_ev env 5 rfl ⟨tv, ⟨tv, ⟨⟨tv, ⟨tv, ⟨g.1, g.2⟩⟩⟩, ⟨tv, ⟨tv, tv⟩⟩⟩⟩⟩ ?_
                refine TL_end ?_
                refine TE_go ?_
                refine TC_blk ?_
                refine TC_seq ?_
                refine TC_reg ?_
                refine TL_ev env 7 rfl ⟨tv, ⟨⟨tv, ⟨tv, tv⟩⟩, ⟨tv, ⟨fun eg => tv, ⟨fun eg => ⟨fun e => e, ⟨tv, tv⟩⟩, ⟨⟨tv, ⟨fun e => e, tv⟩⟩, ⟨tv, tv⟩⟩⟩⟩⟩⟩⟩ ?_
                refine TL_end ?_
                refine TE_go ?_
                refine TC_cond rfl (fun hb => ?_) (fun hb => ?_)
                · replace h3 := bif_t h3 hb
                  refine TC_reg ?_
                  refine TL_ev env 6 rfl ⟨tv, ⟨⟨tv, ⟨tv, tv⟩⟩, ⟨tv, ⟨⟨tv, ⟨tv, tv⟩⟩, ⟨⟨tv, ⟨tv, tv⟩⟩, ⟨tv, tv⟩⟩⟩⟩⟩⟩ ?_
                  refine TL_end ?_
                  refine tbn ?_
                  refine tbn ?_
                  obtain rfl := sinj h3
                  refine tsn ?_
                  exact SP_ren [(20100, 19800)] _ rfl ⟨rfl, rfl, rfl, rfl, rfl, tv⟩ ⟨rfl, tv⟩ rfl
                · replace h3 := bif_f h3 hb
                  refine TC_seq ?_
                  refine TC_reg ?_
                  refine TL_ev env 7 rfl ⟨tv, ⟨⟨tv, ⟨tv, tv⟩⟩, ⟨tv, ⟨fun eg => tv, ⟨fun eg => ⟨fun e => e, ⟨tv, tv⟩⟩, ⟨⟨tv, ⟨fun e => e, tv⟩⟩, ⟨tv, tv⟩⟩⟩⟩⟩⟩⟩ ?_
                  refine TL_end ?_
                  refine TE_go ?_
                  refine TC_cond rfl (fun hb => ?_) (fun hb => ?_)
                  · replace h3 := bif_t h3 hb
                    refine TC_reg ?_
                    refine TL_ev env 6 rfl ⟨tv, ⟨⟨tv, ⟨tv, tv⟩⟩, ⟨tv, ⟨⟨tv, ⟨tv, tv⟩⟩, ⟨⟨tv, ⟨tv, tv⟩⟩, ⟨tv, tv⟩⟩⟩⟩⟩⟩ ?_
                    refine TL_end ?_
                    refine tbn ?_
                    refine tbn ?_
                    obtain rfl := sinj h3
                    refine tsn ?_
                    exact SP_ren [(20100, 19800)] _ rfl ⟨rfl, rfl, rfl, rfl, rfl, tv⟩ ⟨rfl, tv⟩ rfl
                  · replace h3 := bif_f h3 hb
                    refine TC_seq ?_
                    refine TC_reg ?_
                    refine TL_ev env 2 rfl ⟨tv, ⟨tv, tv⟩⟩ ?_
                    refine TL_end ?_
                    refine TE_go ?_
                    refine TC_ret ?_
                    refine tbr ?_
                    refine tbr ?_
                    refine tsr ?_
                    refine tsr ?_
                    refine tsr ?_
                    refine tbr ?_
                    refine tsr ?_
                    refine tsr ?_
                    refine tbr ?_
                    refine tsr ?_
                    refine tsr ?_
                    refine tbr ?_
                    refine tsr ?_
                    refine tsr ?_
                    obtain rfl := sinj h3
                    obtain rfl := sinj h2
                    obtain rfl := sinj h1
                    obtain rfl := sinj h0
                    exact TE_ret env rfl tv tv
              · rintro x128 hz
                obtain rfl := hz.symm
                refine TE_go ?_
                refine TC_reg ?_
                refine TL_ev env 3 rfl ⟨tv, ⟨⟨tv, ⟨tv, tv⟩⟩, ⟨tv, tv⟩⟩⟩ ?_
                refine TL_end ?_
                refine tsn ?_
                exact TE_nextr [(19800, 20100)] n (Nat.lt_succ_self n) (_, _) h2 ⟨rfl, rfl, rfl, rfl, rfl, tv⟩ ⟨rfl, tv⟩ rfl
            · replace h2 := bif_f h2 hb
              refine TC_exit ?_
              refine tsx ?_
              refine tsx ?_
              refine tbe ?_
              obtain rfl := sinj h2
              refine tsn ?_
              exact SP_ren [(19500, 19800)] _ rfl ⟨rfl, rfl, rfl, rfl, tv⟩ ⟨rfl, tv⟩ rfl
          · rintro x117 hz
            obtain rfl := hz.symm
            refine TE_go ?_
            refine TC_reg ?_
            obtain ⟨g, h1⟩ := gd_t h1
            refine TL_ev env 6 rfl ⟨tv, ⟨tv, ⟨tv, ⟨⟨tv, tv⟩, ⟨⟨⟨tv, ⟨tv, tv⟩⟩, g⟩, ⟨tv, tv⟩⟩⟩⟩⟩⟩ ?_
            refine TL_end ?_
            refine tbn ?_
            refine TE_go ?_
            refine TC_reg ?_
            refine TL_ev env 3 rfl ⟨tv, ⟨⟨tv, ⟨tv, tv⟩⟩, ⟨tv, tv⟩⟩⟩ ?_
            refine TL_end ?_
            refine tsn ?_
            exact TE_nextr [(17000, 1064)] n (Nat.lt_succ_self n) (_, _) h1 ⟨rfl, rfl, rfl, tv⟩ ⟨rfl, tv⟩ rfl
        · replace h1 := bif_f h1 hb
          refine TC_exit ?_
          refine tsx ?_
          refine tsx ?_
          refine tbe ?_
          obtain rfl := sinj h1
          refine tsn ?_
          exact SP_ren [(15600, 17000)] _ rfl ⟨rfl, tv⟩ ⟨rfl, tv⟩ rfl
      · rintro x70 hz
        obtain rfl := hz.symm
        refine TE_go ?_
        refine TC_seq ?_
        refine TC_reg ?_
        refine TL_ev env 3 rfl ⟨tv, ⟨tv, ⟨tv, tv⟩⟩⟩ ?_
        refine TL_end ?_
        refine TE_go ?_
        refine TC_ret ?_
        refine TE_frz 15600 rfl ?_
        obtain rfl := sinj h0
        exact TE_ret env rfl tv tv
theorem psalteryref34_hex.ok0 {K : Nat} {p0 : ByteArray} {q0 : Bool} (h0 : psalteryref34_hex K p0 = some (.inl q0)) : Fn Tryd.prog 40 [.str p0] [] (.tup [.nils, .bool q0]) [] := psalteryref34_hex.ok h0
theorem psalteryref34_hex.ok1 {K : Nat} {p0 : ByteArray} {q0 : List (Int)} (h0 : psalteryref34_hex K p0 = some (.inr q0)) : Fn Tryd.prog 40 [.str p0] [] (.tup [.im (.slice (.int .u8)) q0, .bool true]) [] := psalteryref34_hex.ok h0
theorem psalteryref34_hex.fnb : fnb Tryd.prog 40 = true := fnb_of Tryd.func40 rfl
def psalteryref34_slot.res (_p0 : ByteArray) : Int × Int × Int × Int × Bool → MV
  | (q0, q1, q2, q3, q4) => .tup [.agg [.int .i64 q0, .int .i64 q1, .int .i64 q2, .int .u32 q3], .bool q4]
def psalteryref34_slot.out (_p0 : ByteArray) : Int × Int × Int × Int × Bool → List (Nat × Option MObj)
  | (_, _, _, _, _) => []
theorem psalteryref34_slot.ok {K : Nat} {p0 : ByteArray} {r : Int × Int × Int × Int × Bool} (h0 : psalteryref34_slot K p0 = some r) : Fn Tryd.prog 41 [.str p0] [] (psalteryref34_slot.res p0 r) (psalteryref34_slot.out p0 r) := by
  refine Fn_of Tryd.func41 rfl (Nat.le_of_ble_eq_true rfl) fun Γ => ?_
  refine TC_seq ?_
  refine TC_reg ?_
  refine TL_ev env 2 rfl ⟨tv, ⟨tv, tv⟩⟩ ?_
  refine TL_end ?_
  refine TE_go ?_
  refine TC_seq ?_
  refine TC_seq ?_
  refine TC_reg ?_
  refine TL_ev env 2 rfl ⟨tv, ⟨⟨tv, ⟨tv, tv⟩⟩, tv⟩⟩ ?_
  refine TL_end ?_
  refine TE_go ?_
  refine TC_cond rfl (fun hb => ?_) (fun hb => ?_)
  · replace h0 := bif_t h0 hb
    refine TC_seq ?_
    refine TC_reg ?_
    refine TL_ev env 3 rfl ⟨tv, ⟨⟨tv, tv⟩, ⟨tv, tv⟩⟩⟩ ?_
    refine TL_end ?_
    refine TE_go ?_
    refine TC_ret ?_
    refine tsr ?_
    obtain rfl := sinj h0
    exact TE_ret env rfl ⟨tv, tv⟩ tv
  · replace h0 := bif_f h0 hb
    refine TC_skip ?_
    refine TE_go ?_
    refine TC_seq ?_
    refine TC_seq ?_
    refine TC_reg ?_
    refine TL_ev env 2 rfl ⟨tv, ⟨⟨tv, ⟨tv, tv⟩⟩, tv⟩⟩ ?_
    refine TL_end ?_
    refine TE_go ?_
    refine TC_cond rfl (fun hb => ?_) (fun hb => ?_)
    · replace h0 := bif_t h0 hb
      refine TC_seq ?_
      refine TC_reg ?_
      refine TL_ev env 3 rfl ⟨⟨tv, tv⟩, ⟨⟨tv, tv⟩, ⟨tv, tv⟩⟩⟩ ?_
      refine TL_end ?_
      refine TE_go ?_
      refine TC_ret ?_
      refine tsr ?_
      obtain rfl := sinj h0
      exact TE_ret env rfl ⟨tv, tv⟩ tv
    · replace h0 := bif_f h0 hb
      refine TC_skip ?_
      refine TE_go ?_
      refine TC_seq ?_
      refine TC_seq ?_
      refine TC_reg ?_
      refine TL_ev env 2 rfl ⟨tv, ⟨⟨tv, ⟨tv, tv⟩⟩, tv⟩⟩ ?_
      refine TL_end ?_
      refine TE_go ?_
      refine TC_cond rfl (fun hb => ?_) (fun hb => ?_)
      · replace h0 := bif_t h0 hb
        refine TC_seq ?_
        refine TC_reg ?_
        refine TL_ev env 3 rfl ⟨⟨tv, tv⟩, ⟨⟨tv, tv⟩, ⟨tv, tv⟩⟩⟩ ?_
        refine TL_end ?_
        refine TE_go ?_
        refine TC_ret ?_
        refine tsr ?_
        obtain rfl := sinj h0
        exact TE_ret env rfl ⟨tv, tv⟩ tv
      · replace h0 := bif_f h0 hb
        refine TC_skip ?_
        refine TE_go ?_
        refine TC_seq ?_
        refine TC_reg ?_
        refine TL_ev env 1 rfl ⟨tv, tv⟩ ?_
        obtain ⟨r6, hr, h0⟩ := bnd h0
        refine TL_callB [] (psalteryref34_Cut.ok0 hr) psalteryref34_Cut.fnb rfl ⟨tv, ⟨tv, ⟨tv, tv⟩⟩⟩ rfl tv rfl ?_
        refine TL_ev env 1 rfl ⟨⟨tv, ⟨tv, ⟨tv, ⟨tv, tv⟩⟩⟩⟩, tv⟩ ?_
        refine TL_frz 1018 rfl ?_
        obtain ⟨z, hr, h0⟩ := bnd h0
        rcases z with ⟨⟩ | r8
        · refine TL_callB [] (psalteryref34_numbers.ok0 hr) psalteryref34_numbers.fnb rfl ⟨tv, ⟨tv, ⟨tv, tv⟩⟩⟩ rfl tv rfl ?_
          refine TL_ev env 5 rfl ⟨tv, ⟨tv, ⟨tv, ⟨tv, ⟨tv, tv⟩⟩⟩⟩⟩ ?_
          refine TL_end ?_
          refine TE_go ?_
          refine TC_seq ?_
          refine TC_seq ?_
          refine TC_reg ?_
          refine TL_ev env 2 rfl ⟨tv, ⟨tv, tv⟩⟩ ?_
          refine TL_end ?_
          refine TE_go ?_
          refine TC_cond rfl (fun hb => ?_) (fun hb => ?_)
          · refine TC_seq ?_
            refine TC_reg ?_
            refine TL_ev env 3 rfl ⟨tv, ⟨⟨tv, tv⟩, ⟨tv, tv⟩⟩⟩ ?_
            refine TL_end ?_
            refine TE_go ?_
            refine TC_ret ?_
            refine tsr ?_
            obtain rfl := sinj h0
            exact TE_ret env rfl ⟨tv, tv⟩ tv
          · first | exact (ftf hb).elim | exact (tff hb).elim | exact absurd hb (by decide)
        · refine TL_callB [] (psalteryref34_numbers.ok1 hr) psalteryref34_numbers.fnb rfl ⟨tv, ⟨tv, ⟨tv, tv⟩⟩⟩ rfl tv rfl ?_
          refine TL_ev env 5 rfl ⟨tv, ⟨tv, ⟨tv, ⟨tv, ⟨tv, tv⟩⟩⟩⟩⟩ ?_
          refine TL_end ?_
          refine TE_go ?_
          refine TC_seq ?_
          refine TC_seq ?_
          refine TC_reg ?_
          refine TL_ev env 2 rfl ⟨tv, ⟨tv, tv⟩⟩ ?_
          refine TL_end ?_
          refine TE_go ?_
          refine TC_cond rfl (fun hb => ?_) (fun hb => ?_)
          · first | exact (ftf hb).elim | exact (tff hb).elim | exact absurd hb (by decide)
          · refine TC_skip ?_
            refine TE_go ?_
            refine TC_seq ?_
            refine TC_renw (A' := [(2, .p 1002 0), (3, .bool false), (4, .im (.slice (.int .i64)) _)]) (L' := [(1002, some (.cells [.int .i64 0, .int .i64 0, .int .i64 0, .int .u32 0]))]) [] ⟨rfl, rfl, rfl, tv⟩ ⟨rfl, tv⟩ rfl ?_
            refine TC_drawR ⟨_, fun i => ([[], [0], [1, 0], [], [3], [4, 3], [], [6], [7, 6], [], [9], [10, 9], [11, 10, 9], [12, 11, 10, 9, 8, 7, 6, 5, 4, 3, 2, 1, 0], [13, 12, 11, 10, 9, 8, 7, 6, 5, 4, 3, 2, 1, 0], [14, 13, 12, 11, 10, 9, 8, 7, 6, 5, 4, 3, 2, 1, 0]] : List (List Nat)).getD i [], fun i => ([[], [], [], [], [], [], [], [], [], [], [], [], [], [], [1002], []] : List (List Nat)).getD i [], fun i => ([[], [], [], [], [], [], [], [], [], [], [], [], [], [], [], []] : List (List Nat)).getD i []⟩ (fun i => ([[], [], [], [], [], [], [], [], [], [], [], [], [], [], [], []] : List (List Nat)).getD i []) (by kernel_rfl) (by kernel_rfl) ?_
            refine AJR_ev env 1 rfl (Nat.le_of_ble_eq_true rfl) rfl tv ?_
            obtain ⟨g, h0⟩ := gd_t h0
            refine AJR_ev env 2 rfl (Nat.le_of_ble_eq_true rfl) rfl ⟨tv, ⟨tv, ⟨(by decide), g⟩⟩⟩ ?_
            refine AJR_ev env 3 rfl (Nat.le_of_ble_eq_true rfl) rfl ⟨tv, tv⟩ ?_
            refine AJR_ev env 4 rfl (Nat.le_of_ble_eq_true rfl) rfl tv ?_
            obtain ⟨g, h0⟩ := gd_t h0
            refine AJR_ev env 5 rfl (Nat.le_of_ble_eq_true rfl) rfl ⟨tv, ⟨tv, ⟨(by decide), g⟩⟩⟩ ?_
            refine AJR_ev env 6 rfl (Nat.le_of_ble_eq_true rfl) rfl ⟨tv, tv⟩ ?_
            refine AJR_ev env 7 rfl (Nat.le_of_ble_eq_true rfl) rfl tv ?_
            obtain ⟨g, h0⟩ := gd_t h0
            refine AJR_ev env 8 rfl (Nat.le_of_ble_eq_true rfl) rfl ⟨tv, ⟨tv, ⟨(by decide), g⟩⟩⟩ ?_
            refine AJR_ev env 9 rfl (Nat.le_of_ble_eq_true rfl) rfl ⟨tv, tv⟩ ?_
            refine AJR_ev env 10 rfl (Nat.le_of_ble_eq_true rfl) rfl tv ?_
            obtain ⟨g, h0⟩ := gd_t h0
            refine AJR_ev env 11 rfl (Nat.le_of_ble_eq_true rfl) rfl ⟨tv, ⟨tv, ⟨(by decide), g⟩⟩⟩ ?_
            refine AJR_ev env 12 rfl (Nat.le_of_ble_eq_true rfl) rfl ⟨tv, tv⟩ ?_
            refine AJR_ev env 13 rfl (Nat.le_of_ble_eq_true rfl) rfl tv ?_
            refine AJR_ev env 14 rfl (Nat.le_of_ble_eq_true rfl) rfl ⟨tv, ⟨tv, ⟨tv, ⟨tv, tv⟩⟩⟩⟩ ?_
            refine AJR_ev env 15 rfl (Nat.le_of_ble_eq_true rfl) rfl ⟨tv, tv⟩ ?_
            refine AJR_ev env 16 rfl (Nat.le_of_ble_eq_true rfl) rfl tv ?_
            refine AJR_end rfl rfl rfl ?_
            refine TE_go ?_
            refine TC_ret ?_
            obtain rfl := sinj h0
            exact TE_ret env rfl ⟨tv, tv⟩ tv
theorem psalteryref34_slot.ok0 {K : Nat} {p0 : ByteArray} {q0 : Int} {q1 : Int} {q2 : Int} {q3 : Int} {q4 : Bool} (h0 : psalteryref34_slot K p0 = some (q0, q1, q2, q3, q4)) : Fn Tryd.prog 41 [.str p0] [] (.tup [.agg [.int .i64 q0, .int .i64 q1, .int .i64 q2, .int .u32 q3], .bool q4]) [] := psalteryref34_slot.ok h0
theorem psalteryref34_slot.fnb : fnb Tryd.prog 41 = true := fnb_of Tryd.func41 rfl
def psalteryref32_Weather_Draw.res (p0 : Int) (p1 : Int) (p2 : Int) (p3 : Int) (_p4 : Int) (p5 : Bool) : Int × Int → MV
  | (q0, q1) => .tup [.agg [.int .i64 p0, .int .i64 p1, .int .i64 p2, .int .i64 p3, .int .u64 q0, .bool p5], .int .i64 q1]
def psalteryref32_Weather_Draw.out (_p0 : Int) (_p1 : Int) (_p2 : Int) (_p3 : Int) (_p4 : Int) (_p5 : Bool) : Int × Int → List (Nat × Option MObj)
  | (_, _) => []
theorem psalteryref32_Weather_Draw.ok {K : Nat} {p0 : Int} {p1 : Int} {p2 : Int} {p3 : Int} {p4 : Int} {p5 : Bool} {r : Int × Int} (h0 : psalteryref32_Weather_Draw K p0 p1 p2 p3 p4 p5 = some r) : Fn Tryd.prog 66 [.agg [.int .i64 p0, .int .i64 p1, .int .i64 p2, .int .i64 p3, .int .u64 p4, .bool p5]] [] (psalteryref32_Weather_Draw.res p0 p1 p2 p3 p4 p5 r) (psalteryref32_Weather_Draw.out p0 p1 p2 p3 p4 p5 r) := by
  refine Fn_of Tryd.func66 rfl (Nat.le_of_ble_eq_true rfl) fun Γ => ?_
  refine TC_seq ?_
  refine TC_reg ?_
  refine TL_ev env 3 rfl ⟨tv, ⟨tv, ⟨tv, tv⟩⟩⟩ ?_
  refine TL_end ?_
  refine TE_go ?_
  refine TC_seq ?_
  refine TC_reg ?_
  refine TL_ev env 7 rfl ⟨tv, ⟨⟨tv, tv⟩, ⟨⟨tv, ⟨tv, tv⟩⟩, ⟨⟨tv, ⟨tv, tv⟩⟩, ⟨⟨tv, ⟨tv, (by decide)⟩⟩, ⟨tv, ⟨⟨tv, tv⟩, tv⟩⟩⟩⟩⟩⟩⟩ ?_
  refine TL_end ?_
  refine TE_go ?_
  refine TC_seq ?_
  refine TC_renw (A' := [(1, .p 1001 0), (2, .p 1002 0), (3, .int .i64 0)]) (L' := [(1001, some (.cells [.int .i64 _, .int .i64 _, .int .i64 _, .int .i64 _, .int .u64 _, .bool _])), (1002, some (.cells [.int .i64 0, .int .i64 0, .int .i64 0, .int .i64 0, .int .u64 0, .bool false]))]) [] ⟨rfl, rfl, rfl, tv⟩ ⟨rfl, rfl, tv⟩ rfl ?_
  refine TC_drawR ⟨_, fun i => ([[], [], [1], [2, 1], [3, 2, 1], [0], [5, 4, 3, 2, 1, 0]] : List (List Nat)).getD i [], fun i => ([[], [], [], [], [], [1002], []] : List (List Nat)).getD i [], fun i => ([[], [], [], [], [], [], []] : List (List Nat)).getD i []⟩ (fun i => ([[], [1002], [1002], [1002], [1002], [], []] : List (List Nat)).getD i []) (by kernel_rfl) (by kernel_rfl) ?_
  refine AJR_ev env 1 rfl (Nat.le_of_ble_eq_true rfl) rfl ⟨tv, tv⟩ ?_
  refine AJR_ev env 2 rfl (Nat.le_of_ble_eq_true rfl) rfl tv ?_
  refine AJR_ev env 3 rfl (Nat.le_of_ble_eq_true rfl) rfl ⟨tv, tv⟩ ?_
  refine AJR_ev env 4 rfl (Nat.le_of_ble_eq_true rfl) rfl ⟨tv, ⟨tv, (by decide)⟩⟩ ?_
  refine AJR_ev env 5 rfl (Nat.le_of_ble_eq_true rfl) rfl tv ?_
  refine AJR_ev env 6 rfl (Nat.le_of_ble_eq_true rfl) rfl ⟨tv, tv⟩ ?_
  refine AJR_ev env 7 rfl (Nat.le_of_ble_eq_true rfl) rfl tv ?_
  refine AJR_end rfl rfl rfl ?_
  refine TE_go ?_
  refine TC_ret ?_
  obtain rfl := sinj h0
  exact TE_ret env rfl ⟨tv, tv⟩ tv
theorem psalteryref32_Weather_Draw.ok0 {K : Nat} {p0 : Int} {p1 : Int} {p2 : Int} {p3 : Int} {p4 : Int} {p5 : Bool} {q0 : Int} {q1 : Int} (h0 : psalteryref32_Weather_Draw K p0 p1 p2 p3 p4 p5 = some (q0, q1)) : Fn Tryd.prog 66 [.agg [.int .i64 p0, .int .i64 p1, .int .i64 p2, .int .i64 p3, .int .u64 p4, .bool p5]] [] (.tup [.agg [.int .i64 p0, .int .i64 p1, .int .i64 p2, .int .i64 p3, .int .u64 q0, .bool p5], .int .i64 q1]) [] := psalteryref32_Weather_Draw.ok h0
theorem psalteryref32_Weather_Draw.fnb : fnb Tryd.prog 66 = true := fnb_of Tryd.func66 rfl
def psalteryref32_Weather_Lost.res (p0 : Int) (p1 : Int) (p2 : Int) (p3 : Int) (_p4 : Int) (_p5 : Bool) : Int × Bool × Bool → MV
  | (q0, q1, q2) => .tup [.agg [.int .i64 p0, .int .i64 p1, .int .i64 p2, .int .i64 p3, .int .u64 q0, .bool q1], .bool q2]
def psalteryref32_Weather_Lost.out (_p0 : Int) (_p1 : Int) (_p2 : Int) (_p3 : Int) (_p4 : Int) (_p5 : Bool) : Int × Bool × Bool → List (Nat × Option MObj)
  | (_, _, _) => []
theorem psalteryref32_Weather_Lost.ok {K : Nat} {p0 : Int} {p1 : Int} {p2 : Int} {p3 : Int} {p4 : Int} {p5 : Bool} {r : Int × Bool × Bool} (h0 : psalteryref32_Weather_Lost K p0 p1 p2 p3 p4 p5 = some r) : Fn Tryd.prog 42 [.agg [.int .i64 p0, .int .i64 p1, .int .i64 p2, .int .i64 p3, .int .u64 p4, .bool p5]] [] (psalteryref32_Weather_Lost.res p0 p1 p2 p3 p4 p5 r) (psalteryref32_Weather_Lost.out p0 p1 p2 p3 p4 p5 r) := by
  refine Fn_of Tryd.func42 rfl (Nat.le_of_ble_eq_true rfl) fun Γ => ?_
  refine TC_seq ?_
  refine TC_reg ?_
  refine TL_ev env 3 rfl ⟨tv, ⟨tv, ⟨tv, tv⟩⟩⟩ ?_
  refine TL_end ?_
  refine TE_go ?_
  refine TC_seq ?_
  refine TC_reg ?_
  refine TL_ev env 1 rfl ⟨⟨tv, tv⟩, tv⟩ ?_
  obtain ⟨⟨r6, r7⟩, hr, h0⟩ := bnd h0
  refine TL_callB [] (psalteryref32_Weather_Draw.ok0 hr) psalteryref32_Weather_Draw.fnb rfl ⟨tv, ⟨tv, tv⟩⟩ rfl tv rfl ?_
  refine TL_ev env 5 rfl ⟨tv, ⟨tv, ⟨tv, ⟨⟨tv, tv⟩, ⟨tv, tv⟩⟩⟩⟩⟩ ?_
  refine TL_end ?_
  refine TE_go ?_
  refine TC_seq ?_
  refine TC_seq ?_
  refine TC_reg ?_
  refine TL_ev env 9 rfl ⟨tv, ⟨⟨tv, tv⟩, ⟨tv, ⟨fun eg => tv, ⟨fun eg => tv, ⟨fun eg => fun e => e, ⟨fun eg => ⟨fun e => e, tv⟩, ⟨fun eg => ⟨fun e => e, ⟨fun e => e, tv⟩⟩, ⟨⟨tv, ⟨fun e => e, tv⟩⟩, tv⟩⟩⟩⟩⟩⟩⟩⟩⟩ ?_
  refine TL_end ?_
  refine TE_go ?_
  obtain ⟨z1, h1, h0⟩ := bnd h0
  refine TC_cut (α := Bool) (fun s => z1 = s) (fun s => [(1, .p 10200 0), (2, .p 10201 0)]) (fun s => [(10200, some (.cells [.int .i64 p0, .int .i64 p1, .int .i64 p2, .int .i64 p3, .int .u64 r6, .bool s])), (10201, some (.cells [.int .i64 0, .int .i64 0, .int .i64 0, .int .i64 0, .int .u64 0, .bool false]))]) ?_ ?_
  · refine TC_cond rfl (fun hb => ?_) (fun hb => ?_)
    · replace h1 := bif_t h1 hb
      refine TC_reg ?_
      refine TL_ev env 2 rfl ⟨tv, ⟨⟨tv, tv⟩, tv⟩⟩ ?_
      refine TL_end ?_
      obtain rfl := sinj h1
      refine tsn ?_
      exact SP_ren [(10200, 1001), (10201, 1002)] _ rfl ⟨rfl, rfl, tv⟩ ⟨rfl, rfl, tv⟩ rfl
    · replace h1 := bif_f h1 hb
      refine TC_seq ?_
      refine TC_reg ?_
      refine TL_ev env 10 rfl ⟨tv, ⟨⟨tv, tv⟩, ⟨tv, ⟨tv, ⟨fun eg => tv, ⟨fun eg => tv, ⟨fun eg => fun e => e, ⟨fun eg => ⟨fun e => e, tv⟩, ⟨fun eg => ⟨fun e => e, ⟨fun e => e, tv⟩⟩, ⟨⟨tv, ⟨fun e => e, tv⟩⟩, tv⟩⟩⟩⟩⟩⟩⟩⟩⟩⟩ ?_
      refine TL_end ?_
      refine TE_go ?_
      refine TC_cond rfl (fun hb => ?_) (fun hb => ?_)
      · replace h1 := bif_t h1 hb
        refine TC_reg ?_
        refine TL_ev env 2 rfl ⟨tv, ⟨⟨tv, tv⟩, tv⟩⟩ ?_
        refine TL_end ?_
        obtain rfl := sinj h1
        refine tsn ?_
        exact SP_ren [(10200, 1001), (10201, 1002)] _ rfl ⟨rfl, rfl, tv⟩ ⟨rfl, rfl, tv⟩ rfl
      · replace h1 := bif_f h1 hb
        refine TC_skip ?_
        obtain rfl := sinj h1
        refine tsn ?_
        exact SP_ren [(10200, 1001), (10201, 1002)] _ rfl ⟨rfl, rfl, tv⟩ ⟨rfl, rfl, tv⟩ rfl
  · rintro x10 hz
    obtain rfl := hz.symm
    refine TE_go ?_
    refine TC_seq ?_
    refine TC_reg ?_
    refine TL_ev env 1 rfl ⟨⟨tv, tv⟩, tv⟩ ?_
    obtain ⟨⟨r11, r12⟩, hr, h0⟩ := bnd h0
    refine TL_callB [] (psalteryref32_Weather_Draw.ok0 hr) psalteryref32_Weather_Draw.fnb rfl ⟨tv, ⟨tv, tv⟩⟩ rfl tv rfl ?_
    refine TL_ev env 5 rfl ⟨tv, ⟨tv, ⟨tv, ⟨⟨tv, tv⟩, ⟨tv, tv⟩⟩⟩⟩⟩ ?_
    refine TL_end ?_
    refine TE_go ?_
    refine TC_seq ?_
    refine TC_seq ?_
    refine TC_reg ?_
    refine TL_ev env 2 rfl ⟨tv, ⟨⟨tv, tv⟩, tv⟩⟩ ?_
    refine TL_end ?_
    refine TE_go ?_
    refine TC_cond rfl (fun hb => ?_) (fun hb => ?_)
    · replace h0 := bif_t h0 hb
      refine TC_seq ?_
      refine TC_renw (A' := [(1, .p 10200 0), (2, .p 10201 0), (4, .int .i64 _)]) (L' := [(10200, some (.cells [.int .i64 _, .int .i64 _, .int .i64 _, .int .i64 _, .int .u64 _, .bool _])), (10201, some (.cells [.int .i64 0, .int .i64 0, .int .i64 0, .int .i64 0, .int .u64 0, .bool false]))]) [] ⟨rfl, rfl, rfl, tv⟩ ⟨rfl, rfl, tv⟩ rfl ?_
      refine TC_drawR ⟨_, fun i => ([[], [], [], [2], [3, 2], [4, 3, 2, 1], [0], [6, 5, 4, 3, 2, 1, 0]] : List (List Nat)).getD i [], fun i => ([[], [], [], [], [], [], [10201], []] : List (List Nat)).getD i [], fun i => ([[], [], [], [], [], [], [], []] : List (List Nat)).getD i []⟩ (fun i => ([[], [10201], [10201], [10201], [10201], [10201], [], []] : List (List Nat)).getD i []) (by kernel_rfl) (by kernel_rfl) ?_
      refine AJR_ev env 1 rfl (Nat.le_of_ble_eq_true rfl) rfl ⟨tv, tv⟩ ?_
      refine AJR_ev env 2 rfl (Nat.le_of_ble_eq_true rfl) rfl tv ?_
      refine AJR_ev env 3 rfl (Nat.le_of_ble_eq_true rfl) rfl tv ?_
      refine AJR_ev env 4 rfl (Nat.le_of_ble_eq_true rfl) rfl tv ?_
      refine AJR_ev env 5 rfl (Nat.le_of_ble_eq_true rfl) rfl ⟨tv, tv⟩ ?_
      refine AJR_ev env 6 rfl (Nat.le_of_ble_eq_true rfl) rfl ⟨tv, ⟨tv, tv⟩⟩ ?_
      refine AJR_ev env 7 rfl (Nat.le_of_ble_eq_true rfl) rfl ⟨tv, tv⟩ ?_
      refine AJR_ev env 8 rfl (Nat.le_of_ble_eq_true rfl) rfl tv ?_
      refine AJR_end rfl rfl rfl ?_
      refine TE_go ?_
      refine TC_ret ?_
      refine tsr ?_
      obtain rfl := sinj h0
      exact TE_ret env rfl ⟨tv, tv⟩ tv
    · replace h0 := bif_f h0 hb
      refine TC_skip ?_
      refine TE_go ?_
      refine TC_seq ?_
      refine TC_renw (A' := [(1, .p 10200 0), (2, .p 10201 0), (4, .int .i64 _)]) (L' := [(10200, some (.cells [.int .i64 _, .int .i64 _, .int .i64 _, .int .i64 _, .int .u64 _, .bool _])), (10201, some (.cells [.int .i64 0, .int .i64 0, .int .i64 0, .int .i64 0, .int .u64 0, .bool false]))]) [] ⟨rfl, rfl, rfl, tv⟩ ⟨rfl, rfl, tv⟩ rfl ?_
      refine TC_drawR ⟨_, fun i => ([[], [], [], [2], [3, 2], [4, 3, 2, 1], [0], [6, 5, 4, 3, 2, 1, 0]] : List (List Nat)).getD i [], fun i => ([[], [], [], [], [], [], [10201], []] : List (List Nat)).getD i [], fun i => ([[], [], [], [], [], [], [], []] : List (List Nat)).getD i []⟩ (fun i => ([[], [10201], [10201], [10201], [10201], [10201], [], []] : List (List Nat)).getD i []) (by kernel_rfl) (by kernel_rfl) ?_
      refine AJR_ev env 1 rfl (Nat.le_of_ble_eq_true rfl) rfl ⟨tv, tv⟩ ?_
      refine AJR_ev env 2 rfl (Nat.le_of_ble_eq_true rfl) rfl tv ?_
      refine AJR_ev env 3 rfl (Nat.le_of_ble_eq_true rfl) rfl tv ?_
      refine AJR_ev env 4 rfl (Nat.le_of_ble_eq_true rfl) rfl tv ?_
      refine AJR_ev env 5 rfl (Nat.le_of_ble_eq_true rfl) rfl ⟨tv, tv⟩ ?_
      refine AJR_ev env 6 rfl (Nat.le_of_ble_eq_true rfl) rfl ⟨tv, ⟨tv, tv⟩⟩ ?_
      refine AJR_ev env 7 rfl (Nat.le_of_ble_eq_true rfl) rfl ⟨tv, tv⟩ ?_
      refine AJR_ev env 8 rfl (Nat.le_of_ble_eq_true rfl) rfl tv ?_
      refine AJR_end rfl rfl rfl ?_
      refine TE_go ?_
      refine TC_ret ?_
      obtain rfl := sinj h0
      exact TE_ret env rfl ⟨tv, tv⟩ tv
theorem psalteryref32_Weather_Lost.ok0 {K : Nat} {p0 : Int} {p1 : Int} {p2 : Int} {p3 : Int} {p4 : Int} {p5 : Bool} {q0 : Int} {q1 : Bool} {q2 : Bool} (h0 : psalteryref32_Weather_Lost K p0 p1 p2 p3 p4 p5 = some (q0, q1, q2)) : Fn Tryd.prog 42 [.agg [.int .i64 p0, .int .i64 p1, .int .i64 p2, .int .i64 p3, .int .u64 p4, .bool p5]] [] (.tup [.agg [.int .i64 p0, .int .i64 p1, .int .i64 p2, .int .i64 p3, .int .u64 q0, .bool q1], .bool q2]) [] := psalteryref32_Weather_Lost.ok h0
theorem psalteryref32_Weather_Lost.fnb : fnb Tryd.prog 42 = true := fnb_of Tryd.func42 rfl
def psalteryref34_Line.res (_p0 : ByteArray) : (Unit) ⊕ ((List ((Int × (Int × (List (Int) × (List (Int) × (List (Int) × List ((Int × (Int × (Int × Int)))))))))))) → MV
  | .inl () => .tup [.nils, .bool false]
  | .inr q0 => .tup [.im (.slice (.pair (.int .i64) (.pair (.int .i64) (.pair (.slice (.int .i16)) (.pair (.slice (.int .u8)) (.pair (.slice (.int .u8)) (.slice (.pair (.int .i64) (.pair (.int .i64) (.pair (.int .i64) (.int .u32))))))))))) q0, .bool true]
def psalteryref34_Line.out (_p0 : ByteArray) : (Unit) ⊕ ((List ((Int × (Int × (List (Int) × (List (Int) × (List (Int) × List ((Int × (Int × (Int × Int)))))))))))) → List (Nat × Option MObj)
  | .inl () => []
  | .inr _ => []
theorem psalteryref34_Line.ok {K : Nat} {p0 : ByteArray} {r : (Unit) ⊕ ((List ((Int × (Int × (List (Int) × (List (Int) × (List (Int) × List ((Int × (Int × (Int × Int))))))))))))} (h0 : psalteryref34_Line K p0 = some r) : Fn Tryd.prog 19 [.str p0] [] (psalteryref34_Line.res p0 r) (psalteryref34_Line.out p0 r) := by
  refine Fn_of Tryd.func19 rfl (Nat.le_of_ble_eq_true rfl) fun Γ => ?_
  refine TC_seq ?_
  refine TC_reg ?_
  refine TL_ev env 2 rfl ⟨tv, ⟨tv, tv⟩⟩ ?_
  refine TL_end ?_
  refine TE_go ?_
  refine TC_seq ?_
  refine TC_reg ?_
  refine TL_ev env 1 rfl ⟨tv, tv⟩ ?_
  obtain ⟨r1814, hr, h0⟩ := bnd h0
  refine TL_callB [] (psalteryref34_Cut.ok0 hr) psalteryref34_Cut.fnb rfl ⟨tv, ⟨tv, ⟨tv, tv⟩⟩⟩ rfl tv rfl ?_
  refine TL_ev env 1 rfl ⟨tv, tv⟩ ?_
  refine TL_end ?_
  refine TE_go ?_
  refine TC_seq ?_
  refine TC_reg ?_
  refine TL_ev env 3 rfl ⟨tv, ⟨tv, ⟨⟨tv, tv⟩, tv⟩⟩⟩ ?_
  refine TL_end ?_
  refine TE_go ?_
  refine TC_seq ?_
  refine TC_seq ?_
  refine TC_reg ?_
  obtain ⟨g, h0⟩ := gd_t h0
  refine TL_ev env 3 rfl ⟨tv, ⟨⟨tv, ⟨tv, ⟨(by decide), g⟩⟩⟩, ⟨⟨tv, tv⟩, tv⟩⟩⟩ ?_
  refine TL_end ?_
  refine TE_go ?_
  refine TC_blk ?_
  refine TC_seq ?_
  refine TC_reg ?_
  refine TL_ev env 2 rfl ⟨⟨tv, ⟨tv, tv⟩⟩, ⟨tv, tv⟩⟩ ?_
  refine TL_end ?_
  refine TE_go ?_
  refine TC_cond rfl (fun hb => ?_) (fun hb => ?_)
  · replace h0 := bif_t h0 hb
    refine TC_seq ?_
    refine TC_reg ?_
    refine TL_ev env 2 rfl ⟨tv, ⟨⟨tv, tv⟩, tv⟩⟩ ?_
    refine TL_end ?_
    refine TE_go ?_
    refine TC_seq ?_
    refine TC_reg ?_
    refine TL_ev env 1 rfl ⟨tv, tv⟩ ?_
    refine TL_end ?_
    refine TE_go ?_
    obtain ⟨z1, h1, h0⟩ := bnd h0
    refine TC_cut (α := (List (Int))) (fun s => z1 = .inl s) (fun s => [(5, .p 75900 0)]) (fun s => [(75900, some (.cells [.int .i64 1, .int .i64 0, .sl 75901, .nils, .nils, .nils])), (75901, some (.rows (.int .i16) s))]) ?_ ?_
    · refine TC_blk ?_
      refine TC_loop (α := Int × (List (Int))) (fun n s => psalteryref34_Line.l0 K r1814 n s.1 s.2 = some z1) (fun s => [(4, .im (.slice (.str)) r1814), (5, .p 76500 0), (6, .int .i64 s.1)]) (fun s => [(76500, some (.cells [.int .i64 1, .int .i64 0, .sl 76501, .nils, .nils, .nils])), (76501, some (.rows (.int .i16) s.2))]) K ?_ ?_
      · refine TE_ownC 1005 2 920102 (.int .i16) rfl rfl (by decide) rfl rfl ?_
        exact SP_ren [(76500, 1005), (76501, 920102)] (_, _) h1 ⟨rfl, rfl, rfl, tv⟩ ⟨rfl, rfl, tv⟩ rfl
      rintro n ⟨x2363, x2364⟩ h1
      rcases n with _ | n
      · exact (nsome h1).elim
      replace h1 : psalteryref34_Line.r0 K r1814 (psalteryref34_Line.l0 K r1814 n) x2363 x2364 = some z1 := h1
      refine TC_seq ?_
      refine TC_seq ?_
      refine TC_reg ?_
      refine TL_ev env 4 rfl ⟨tv, ⟨tv, ⟨⟨tv, tv⟩, ⟨⟨tv, ⟨tv, tv⟩⟩, tv⟩⟩⟩⟩ ?_
      refine TL_end ?_
      refine TE_go ?_
      refine TC_cond rfl (fun hb => ?_) (fun hb => ?_)
      · replace h1 := bif_t h1 hb
        refine TC_skip ?_
        refine TE_go ?_
        refine TC_seq ?_
        refine TC_blk ?_
        refine TC_seq ?_
        refine TC_reg ?_
        obtain ⟨g, h1⟩ := gd_t h1
        refine TL_ev env 5 rfl ⟨tv, ⟨tv, ⟨⟨tv, ⟨tv, ⟨g.1, g.2⟩⟩⟩, ⟨⟨tv, tv⟩, ⟨tv, tv⟩⟩⟩⟩⟩ ?_
        refine TL_end ?_
        refine TE_go ?_
        refine TC_seq ?_
        refine TC_reg ?_
        obtain ⟨g, h1⟩ := gd_t h1
        refine TL_ev env 9 rfl ⟨tv, ⟨⟨tv, tv⟩, ⟨⟨tv, ⟨tv, tv⟩⟩, ⟨tv, ⟨fun eg => tv, ⟨fun eg => ⟨fun e => e, ⟨tv, ⟨(by decide), (g eg)⟩⟩⟩, ⟨fun eg => ⟨fun e => e, ⟨tv, tv⟩⟩, ⟨⟨tv, ⟨fun e => e, tv⟩⟩, ⟨tv, tv⟩⟩⟩⟩⟩⟩⟩⟩⟩ ?_
        refine TL_end ?_
        refine TE_go ?_
        refine TC_seq ?_
        refine TC_reg ?_
        refine TL_ev env 1 rfl ⟨tv, tv⟩ ?_
        refine TL_end ?_
        refine TE_go ?_
        refine TC_seq ?_
        refine TC_seq ?_
        refine TC_reg ?_
        refine TL_ev env 1 rfl ⟨tv, tv⟩ ?_
        refine TL_end ?_
        refine TE_go ?_
        obtain ⟨z2, h2, h1⟩ := bnd h1
        refine TC_cut (α := ByteArray × Int) (fun s => z2 = s) (fun s => [(4, .im (.slice (.str)) r1814), (5, .p 77300 0), (6, .int .i64 x2363), (7, .str s.1), (8, .bool (bif (decide (((Kd.nth (.str) r1814 (Int.toNat x2363)).size : Int) > 0)) then ((sbyte (Kd.nth (.str) r1814 (Int.toNat x2363)) 0) == 45) else false)), (9, .int .i64 s.2)]) (fun s => [(77300, some (.cells [.int .i64 1, .int .i64 0, .sl 77301, .nils, .nils, .nils])), (77301, some (.rows (.int .i16) x2364))]) ?_ ?_
        · refine TC_cond rfl (fun hb => ?_) (fun hb => ?_)
          · replace h2 := bif_t h2 hb
            refine TC_seq ?_
            refine TC_reg ?_
            obtain ⟨g, h2⟩ := gd_t h2
            refine TL_ev env 3 rfl ⟨tv, ⟨⟨tv, ⟨tv, ⟨tv, ⟨(by decide), ⟨g.1, g.2⟩⟩⟩⟩⟩, ⟨tv, tv⟩⟩⟩ ?_
            refine TL_end ?_
            refine TE_go ?_
            refine TC_reg ?_
            refine TL_ev env 1 rfl ⟨tv, tv⟩ ?_
            refine TL_end ?_
            obtain rfl := sinj h2
            refine tsn ?_
            exact SP_ren [(77300, 76500), (77301, 76501)] (_, _) rfl ⟨rfl, rfl, rfl, rfl, rfl, rfl, tv⟩ ⟨rfl, rfl, tv⟩ rfl
          · replace h2 := bif_f h2 hb
            refine TC_skip ?_
            obtain rfl := sinj h2
            refine tsn ?_
            exact SP_ren [(77300, 76500), (77301, 76501)] (_, _) rfl ⟨rfl, rfl, rfl, rfl, rfl, rfl, tv⟩ ⟨rfl, rfl, tv⟩ rfl
        · rintro ⟨x2388, x2389⟩ rfl
          refine TE_go ?_
          refine TC_seq ?_
          refine TC_reg ?_
          refine TL_ev env 2 rfl ⟨tv, ⟨tv, tv⟩⟩ ?_
          obtain ⟨⟨r2390, r2391⟩, hr, h1⟩ := bnd h1
          refine TL_callB [] (psalteryref34_Number.ok0 hr) psalteryref34_Number.fnb rfl ⟨tv, ⟨tv, ⟨tv, tv⟩⟩⟩ rfl tv rfl ?_
          refine TL_ev env 5 rfl ⟨tv, ⟨tv, ⟨tv, ⟨tv, ⟨tv, tv⟩⟩⟩⟩⟩ ?_
          refine TL_end ?_
          refine TE_go ?_
          refine TC_seq ?_
          refine TC_seq ?_
          refine TC_reg ?_
          refine TL_ev env 2 rfl ⟨tv, ⟨tv, tv⟩⟩ ?_
          refine TL_end ?_
          refine TE_go ?_
          refine TC_cond rfl (fun hb => ?_) (fun hb => ?_)
          · replace h1 := bif_t h1 hb
            refine TC_seq ?_
            refine TC_reg ?_
            refine TL_ev env 2 rfl ⟨tv, ⟨tv, tv⟩⟩ ?_
            refine TL_end ?_
            refine TE_go ?_
            refine TC_ret ?_
            refine tsr ?_
            refine tbr ?_
            refine tsr ?_
            refine tsr ?_
            refine tbr ?_
            refine tsr ?_
            refine tbr ?_
            refine tsr ?_
            obtain rfl := sinj h1
            obtain rfl := sinj h0
            exact TE_ret env rfl tv tv
          · replace h1 := bif_f h1 hb
            refine TC_skip ?_
            refine TE_go ?_
            refine TC_seq ?_
            refine TC_seq ?_
            refine TC_reg ?_
            refine TL_ev env 1 rfl ⟨tv, tv⟩ ?_
            refine TL_end ?_
            refine TE_go ?_
            obtain ⟨z2, h2, h1⟩ := bnd h1
            refine TC_cut (α := Int) (fun s => z2 = s) (fun s => [(4, .im (.slice (.str)) r1814), (5, .p 77400 0), (6, .int .i64 x2363), (10, .int .i64 s)]) (fun s => [(77400, some (.cells [.int .i64 1, .int .i64 0, .sl 77401, .nils, .nils, .nils])), (77401, some (.rows (.int .i16) x2364))]) ?_ ?_
            · refine TC_cond rfl (fun hb => ?_) (fun hb => ?_)
              · replace h2 := bif_t h2 hb
                refine TC_reg ?_
                refine TL_ev env 3 rfl ⟨tv, ⟨tv, ⟨tv, tv⟩⟩⟩ ?_
                refine TL_end ?_
                obtain rfl := sinj h2
                refine tsn ?_
                exact SP_ren [(77400, 77300), (77401, 77301)] _ rfl ⟨rfl, rfl, rfl, rfl, tv⟩ ⟨rfl, rfl, tv⟩ rfl
              · replace h2 := bif_f h2 hb
                refine TC_skip ?_
                obtain rfl := sinj h2
                refine tsn ?_
                exact SP_ren [(77400, 77300), (77401, 77301)] _ rfl ⟨rfl, rfl, rfl, rfl, tv⟩ ⟨rfl, rfl, tv⟩ rfl
            · rintro x2392 hz
              obtain rfl := hz.symm
              refine TE_go ?_
              refine TC_reg ?_
              obtain ⟨g, h1⟩ := gd_t h1
              refine TL_ev env 8 rfl ⟨tv, ⟨⟨tv, tv⟩, ⟨tv, ⟨tv, ⟨⟨tv, tv⟩, ⟨⟨⟨tv, ⟨tv, tv⟩⟩, g⟩, ⟨tv, ⟨⟨tv, tv⟩, tv⟩⟩⟩⟩⟩⟩⟩⟩ ?_
              refine TL_end ?_
              refine tbn ?_
              refine TE_go ?_
              refine TC_reg ?_
              refine TL_ev env 3 rfl ⟨tv, ⟨⟨tv, ⟨tv, tv⟩⟩, ⟨tv, tv⟩⟩⟩ ?_
              refine TL_end ?_
              refine tsn ?_
              exact TE_nextr [(76500, 77400), (76501, 1082)] n (Nat.lt_succ_self n) (_, _) h1 ⟨rfl, rfl, rfl, tv⟩ ⟨rfl, rfl, tv⟩ rfl
      · replace h1 := bif_f h1 hb
        refine TC_exit ?_
        refine tsx ?_
        refine tsx ?_
        refine tbe ?_
        obtain rfl := sinj h1
        refine tsn ?_
        exact SP_ren [(75900, 76500), (75901, 76501)] _ rfl ⟨rfl, tv⟩ ⟨rfl, rfl, tv⟩ rfl
    · rintro x2351 hz
      obtain rfl := hz.symm
      refine tbn ?_
      refine TE_go ?_
      refine TC_seq ?_
      refine TC_reg ?_
      refine TL_ev env 1 rfl ⟨⟨tv, tv⟩, tv⟩ ?_
      refine TL_frz 75901 rfl ?_
      refine TL_ev env 3 rfl ⟨⟨tv, tv⟩, ⟨tv, ⟨tv, tv⟩⟩⟩ ?_
      refine TL_end ?_
      refine TE_go ?_
      refine TC_ret ?_
      refine TE_frz 1273 rfl ?_
      obtain rfl := sinj h0
      exact TE_ret env rfl tv tv
  · replace h0 := bif_f h0 hb
    refine TC_seq ?_
    refine TC_reg ?_
    refine TL_ev env 2 rfl ⟨⟨tv, ⟨tv, tv⟩⟩, ⟨tv, tv⟩⟩ ?_
    refine TL_end ?_
    refine TE_go ?_
    refine TC_cond rfl (fun hb => ?_) (fun hb => ?_)
    · replace h0 := bif_t h0 hb
      refine TC_seq ?_
      refine TC_reg ?_
      obtain ⟨g, h0⟩ := gd_t h0
      refine TL_ev env 3 rfl ⟨tv, ⟨⟨tv, ⟨tv, ⟨tv, ⟨(by decide), ⟨g.1, g.2⟩⟩⟩⟩⟩, ⟨⟨tv, ⟨tv, ⟨tv, ⟨tv, tv⟩⟩⟩⟩, tv⟩⟩⟩ ?_
      refine TL_frz 1089 rfl ?_
      obtain ⟨z, hr, h0⟩ := bnd h0
      rcases z with ⟨⟩ | r2630
      · refine TL_callB [] (psalteryref34_numbers.ok0 hr) psalteryref34_numbers.fnb rfl ⟨tv, ⟨tv, ⟨tv, tv⟩⟩⟩ rfl tv rfl ?_
        refine TL_ev env 5 rfl ⟨tv, ⟨tv, ⟨tv, ⟨tv, ⟨tv, tv⟩⟩⟩⟩⟩ ?_
        refine TL_end ?_
        refine TE_go ?_
        refine TC_seq ?_
        refine TC_seq ?_
        refine TC_reg ?_
        refine TL_ev env 3 rfl ⟨tv, ⟨tv, ⟨tv, tv⟩⟩⟩ ?_
        refine TL_gf (.bool false) rfl rfl rfl rfl rfl (by decide) ?_
        refine TL_gf (.bool false) rfl rfl rfl rfl rfl (by decide) ?_
        refine TL_gf (.bool false) rfl rfl rfl rfl rfl (by decide) ?_
        refine TL_gf (.bool false) rfl rfl rfl rfl rfl (by decide) ?_
        refine TL_ev env 1 rfl ⟨⟨tv, ⟨tv, fun e => e⟩⟩, tv⟩ ?_
        refine TL_end ?_
        refine TE_go ?_
        refine TC_cond rfl (fun hb => ?_) (fun hb => ?_)
        · refine TC_seq ?_
          refine TC_reg ?_
          refine TL_ev env 2 rfl ⟨tv, ⟨tv, tv⟩⟩ ?_
          refine TL_end ?_
          refine TE_go ?_
          refine TC_ret ?_
          refine tsr ?_
          refine tbr ?_
          refine tsr ?_
          obtain rfl := sinj h0
          exact TE_ret env rfl tv tv
        · first | exact (ftf hb).elim | exact (tff hb).elim | exact absurd hb (by decide)
      · refine TL_callB [] (psalteryref34_numbers.ok1 hr) psalteryref34_numbers.fnb rfl ⟨tv, ⟨tv, ⟨tv, tv⟩⟩⟩ rfl tv rfl ?_
        refine TL_ev env 5 rfl ⟨tv, ⟨tv, ⟨tv, ⟨tv, ⟨tv, tv⟩⟩⟩⟩⟩ ?_
        refine TL_end ?_
        refine TE_go ?_
        refine TC_seq ?_
        refine TC_seq ?_
        refine TC_reg ?_
        refine TL_ev env 3 rfl ⟨tv, ⟨tv, ⟨tv, tv⟩⟩⟩ ?_
        refine TL_gt rfl rfl rfl rfl ?_
        refine TL_ev env 1 rfl ⟨tv, tv⟩ ?_
        refine TL_gt rfl rfl rfl rfl ?_
        obtain ⟨g, h0⟩ := gd_t h0
        refine TL_ev env 1 rfl ⟨⟨tv, ⟨tv, ⟨(by decide), g⟩⟩⟩, tv⟩ ?_
        refine TL_gt rfl rfl rfl rfl ?_
        refine TL_ev env 1 rfl ⟨⟨tv, tv⟩, tv⟩ ?_
        refine TL_gt rfl rfl rfl rfl ?_
        refine TL_ev env 2 rfl ⟨⟨tv, ⟨tv, tv⟩⟩, ⟨⟨tv, ⟨tv, tv⟩⟩, tv⟩⟩ ?_
        refine TL_end ?_
        refine TE_go ?_
        refine TC_cond rfl (fun hb => ?_) (fun hb => ?_)
        · replace h0 := bif_t h0 hb
          refine TC_seq ?_
          refine TC_reg ?_
          refine TL_ev env 2 rfl ⟨tv, ⟨tv, tv⟩⟩ ?_
          refine TL_end ?_
          refine TE_go ?_
          refine TC_ret ?_
          refine tsr ?_
          refine tbr ?_
          refine tsr ?_
          obtain rfl := sinj h0
          exact TE_ret env rfl tv tv
        · replace h0 := bif_f h0 hb
          refine TC_skip ?_
          refine TE_go ?_
          refine TC_seq ?_
          refine TC_reg ?_
          refine TL_ev env 2 rfl ⟨tv, ⟨⟨tv, tv⟩, tv⟩⟩ ?_
          refine TL_end ?_
          refine TE_go ?_
          refine TC_seq ?_
          refine TC_reg ?_
          refine TL_ev env 1 rfl ⟨tv, tv⟩ ?_
          refine TL_end ?_
          refine TE_go ?_
          obtain ⟨z1, h1, h0⟩ := bnd h0
          refine TC_cut (α := (List (Int))) (fun s => z1 = s) (fun s => [(5, .p 83900 0)]) (fun s => [(83900, some (.cells [.int .i64 1, .int .i64 0, .sl 83901, .nils, .nils, .nils])), (83901, some (.rows (.int .i16) s))]) ?_ ?_
          · refine TC_blk ?_
            refine TC_loop (α := Int × (List (Int))) (fun n s => psalteryref34_Line.l1 K r2630 n s.1 s.2 = some z1) (fun s => [(5, .p 84100 0), (12, .im (.slice (.int .i64)) r2630), (14, .int .i64 s.1)]) (fun s => [(84100, some (.cells [.int .i64 1, .int .i64 0, .sl 84101, .nils, .nils, .nils])), (84101, some (.rows (.int .i16) s.2))]) K ?_ ?_
            · refine TE_ownC 1005 2 920102 (.int .i16) rfl rfl (by decide) rfl rfl ?_
              exact SP_ren [(84100, 1005), (84101, 920102)] (_, _) h1 ⟨rfl, rfl, rfl, tv⟩ ⟨rfl, rfl, tv⟩ rfl
            rintro n ⟨x2650, x2651⟩ h1
            rcases n with _ | n
            · exact (nsome h1).elim
            replace h1 : psalteryref34_Line.r1 K r2630 (psalteryref34_Line.l1 K r2630 n) x2650 x2651 = some z1 := h1
            refine TC_seq ?_
            refine TC_seq ?_
            refine TC_reg ?_
            obtain ⟨g, h1⟩ := gd_t h1
            refine TL_ev env 5 rfl ⟨tv, ⟨tv, ⟨⟨tv, ⟨tv, ⟨(by decide), g⟩⟩⟩, ⟨⟨tv, tv⟩, ⟨⟨tv, ⟨tv, tv⟩⟩, tv⟩⟩⟩⟩⟩ ?_
            refine TL_end ?_
            refine TE_go ?_
            refine TC_cond rfl (fun hb => ?_) (fun hb => ?_)
            · replace h1 := bif_t h1 hb
              refine TC_skip ?_
              refine TE_go ?_
              refine TC_seq ?_
              refine TC_blk ?_
              refine TC_seq ?_
              refine TC_renw (A' := [(5, .p 84100 0), (12, .im (.slice (.int .i64)) _), (14, .int .i64 _)]) (L' := [(84100, some (.cells [.int .i64 1, .int .i64 0, .sl 84101, .nils, .nils, .nils])), (84101, some (.rows (.int .i16) _))]) [] ⟨rfl, rfl, rfl, tv⟩ ⟨rfl, rfl, tv⟩ rfl ?_
              refine TC_drawR ⟨_, fun i => ([[], [], [1], [2, 1], [3, 2, 1, 0], [], [5], [6, 5], [7, 6, 5, 4, 3, 2, 1, 0], [8, 7, 6, 5, 4, 3, 2, 1, 0]] : List (List Nat)).getD i [], fun i => ([[], [], [], [], [], [], [], [], [], []] : List (List Nat)).getD i [], fun i => ([[], [], [], [], [], [], [], [], [], []] : List (List Nat)).getD i []⟩ (fun i => ([[], [], [], [], [], [], [], [], [], []] : List (List Nat)).getD i []) (by kernel_rfl) (by kernel_rfl) ?_
              refine AJR_ev env 1 rfl (Nat.le_of_ble_eq_true rfl) rfl tv ?_
              refine AJR_ev env 2 rfl (Nat.le_of_ble_eq_true rfl) rfl tv ?_
              obtain ⟨g, h1⟩ := gd_t h1
              refine AJR_ev env 3 rfl (Nat.le_of_ble_eq_true rfl) rfl ⟨tv, ⟨tv, ⟨(by decide), g⟩⟩⟩ ?_
              refine AJR_ev env 4 rfl (Nat.le_of_ble_eq_true rfl) rfl ⟨tv, tv⟩ ?_
              refine AJR_ev env 5 rfl (Nat.le_of_ble_eq_true rfl) rfl ⟨tv, ⟨tv, tv⟩⟩ ?_
              refine AJR_ev env 6 rfl (Nat.le_of_ble_eq_true rfl) rfl tv ?_
              obtain ⟨g, h1⟩ := gd_t h1
              refine AJR_ev env 7 rfl (Nat.le_of_ble_eq_true rfl) rfl ⟨tv, ⟨tv, ⟨(by decide), g⟩⟩⟩ ?_
              refine AJR_ev env 8 rfl (Nat.le_of_ble_eq_true rfl) rfl ⟨tv, tv⟩ ?_
              obtain ⟨r2665, hr, h1⟩ := bnd h1
              refine AJR_call 9 rfl (Nat.le_of_ble_eq_true rfl) [] rfl (psalteryref03_Of.ok0 hr) psalteryref03_Of.fnb rfl ⟨tv, ⟨tv, ⟨tv, tv⟩⟩⟩ rfl tv rfl ?_
              refine AJR_ev env 10 rfl (Nat.le_of_ble_eq_true rfl) rfl tv ?_
              refine AJR_end rfl rfl rfl ?_
              refine TE_go ?_
              refine TC_renw (A' := [(5, .p 84100 0), (12, .im (.slice (.int .i64)) _), (14, .int .i64 _), (15, .int .i16 _)]) (L' := [(84100, some (.cells [.int .i64 1, .int .i64 0, .sl 84101, .nils, .nils, .nils])), (84101, some (.rows (.int .i16) _))]) [] ⟨rfl, rfl, rfl, rfl, tv⟩ ⟨rfl, rfl, tv⟩ rfl ?_
              refine TC_drawR ⟨_, fun i => ([[], [0], [], [2], [3, 2], [], [5], [6, 5, 4, 3, 2], [7, 6, 5, 4, 3, 2], [8, 7, 6, 5, 4, 3, 2], [9, 8, 7, 6, 5, 4, 3, 2, 1, 0], [10, 9, 8, 7, 6, 5, 4, 3, 2, 1, 0], [11, 10, 9, 8, 7, 6, 5, 4, 3, 2, 1, 0]] : List (List Nat)).getD i [], fun i => ([[], [], [], [], [], [], [], [], [], [1127], [1128, 84101], [], [84100]] : List (List Nat)).getD i [], fun i => ([[], [], [], [], [], [], [], [], [], [1127], [1128], [], []] : List (List Nat)).getD i []⟩ (fun i => ([[1127], [1127], [], [], [], [], [], [], [], [], [], [], []] : List (List Nat)).getD i []) (by kernel_rfl) (by kernel_rfl) ?_
              refine AJR_ev env 1 rfl (Nat.le_of_ble_eq_true rfl) rfl tv ?_
              refine AJR_ev env 2 rfl (Nat.le_of_ble_eq_true rfl) rfl ⟨tv, tv⟩ ?_
              refine AJR_ev env 3 rfl (Nat.le_of_ble_eq_true rfl) rfl tv ?_
              obtain ⟨g, h1⟩ := gd_t h1
              refine AJR_ev env 4 rfl (Nat.le_of_ble_eq_true rfl) rfl ⟨tv, ⟨tv, ⟨(by decide), g⟩⟩⟩ ?_
              refine AJR_ev env 5 rfl (Nat.le_of_ble_eq_true rfl) rfl ⟨tv, tv⟩ ?_
              refine AJR_ev env 6 rfl (Nat.le_of_ble_eq_true rfl) rfl tv ?_
              refine AJR_ev env 7 rfl (Nat.le_of_ble_eq_true rfl) rfl tv ?_
              obtain ⟨r2667, hr, h1⟩ := bnd h1
              refine AJR_call 8 rfl (Nat.le_of_ble_eq_true rfl) [] rfl (psalteryref01_Mul.ok0 hr) psalteryref01_Mul.fnb rfl ⟨tv, ⟨tv, ⟨tv, ⟨tv, tv⟩⟩⟩⟩ rfl tv rfl ?_
              refine AJR_ev env 9 rfl (Nat.le_of_ble_eq_true rfl) rfl tv ?_
              refine AJR_ev env 10 rfl (Nat.le_of_ble_eq_true rfl) rfl ⟨tv, tv⟩ ?_
              obtain ⟨g, h1⟩ := gd_t h1
              refine AJR_ev env 11 rfl (Nat.le_of_ble_eq_true rfl) rfl ⟨⟨tv, ⟨tv, tv⟩⟩, g⟩ ?_
              refine AJR_ev env 12 rfl (Nat.le_of_ble_eq_true rfl) rfl tv ?_
              refine AJR_ev env 13 rfl (Nat.le_of_ble_eq_true rfl) rfl ⟨tv, tv⟩ ?_
              refine AJR_end rfl rfl rfl ?_
              refine tbn ?_
              refine TE_go ?_
              refine TC_reg ?_
              refine TL_ev env 3 rfl ⟨tv, ⟨⟨tv, ⟨tv, tv⟩⟩, ⟨tv, tv⟩⟩⟩ ?_
              refine TL_end ?_
              refine tsn ?_
              exact TE_nextr [(84100, 84100), (84101, 1128)] n (Nat.lt_succ_self n) (_, _) h1 ⟨rfl, rfl, rfl, tv⟩ ⟨rfl, rfl, tv⟩ rfl
            · replace h1 := bif_f h1 hb
              refine TC_exit ?_
              refine tsx ?_
              refine tsx ?_
              refine tbe ?_
              obtain rfl := sinj h1
              refine tsn ?_
              exact SP_ren [(83900, 84100), (83901, 84101)] _ rfl ⟨rfl, tv⟩ ⟨rfl, rfl, tv⟩ rfl
          · rintro x2644 hz
            obtain rfl := hz.symm
            refine tbn ?_
            refine TE_go ?_
            refine TC_seq ?_
            refine TC_reg ?_
            refine TL_ev env 1 rfl ⟨⟨tv, tv⟩, tv⟩ ?_
            refine TL_frz 83901 rfl ?_
            refine TL_ev env 3 rfl ⟨⟨tv, tv⟩, ⟨tv, ⟨tv, tv⟩⟩⟩ ?_
            refine TL_end ?_
            refine TE_go ?_
            refine TC_ret ?_
            refine TE_frz 1273 rfl ?_
            obtain rfl := sinj h0
            exact TE_ret env rfl tv tv
    · replace h0 := bif_f h0 hb
      refine TC_seq ?_
      refine TC_reg ?_
      refine TL_ev env 2 rfl ⟨⟨tv, ⟨tv, tv⟩⟩, ⟨tv, tv⟩⟩ ?_
      refine TL_end ?_
      refine TE_go ?_
      refine TC_cond rfl (fun hb => ?_) (fun hb => ?_)
      · replace h0 := bif_t h0 hb
        refine TC_seq ?_
        refine TC_reg ?_
        obtain ⟨g, h0⟩ := gd_t h0
        refine TL_ev env 3 rfl ⟨tv, ⟨⟨tv, ⟨tv, ⟨tv, ⟨(by decide), ⟨g.1, g.2⟩⟩⟩⟩⟩, ⟨⟨tv, tv⟩, tv⟩⟩⟩ ?_
        refine TL_frz 1135 rfl ?_
        obtain ⟨z, hr, h0⟩ := bnd h0
        rcases z with ⟨⟩ | r2889
        · refine TL_callB [] (psalteryref34_numbers.ok0 hr) psalteryref34_numbers.fnb rfl ⟨tv, ⟨tv, ⟨tv, tv⟩⟩⟩ rfl tv rfl ?_
          refine TL_ev env 5 rfl ⟨tv, ⟨tv, ⟨tv, ⟨tv, ⟨tv, tv⟩⟩⟩⟩⟩ ?_
          refine TL_end ?_
          refine TE_go ?_
          refine TC_seq ?_
          refine TC_seq ?_
          refine TC_reg ?_
          refine TL_ev env 2 rfl ⟨tv, ⟨tv, tv⟩⟩ ?_
          refine TL_end ?_
          refine TE_go ?_
          refine TC_cond rfl (fun hb => ?_) (fun hb => ?_)
          · refine TC_seq ?_
            refine TC_reg ?_
            refine TL_ev env 2 rfl ⟨tv, ⟨tv, tv⟩⟩ ?_
            refine TL_end ?_
            refine TE_go ?_
            refine TC_ret ?_
            refine tsr ?_
            refine tbr ?_
            refine tsr ?_
            obtain rfl := sinj h0
            exact TE_ret env rfl tv tv
          · first | exact (ftf hb).elim | exact (tff hb).elim | exact absurd hb (by decide)
        · refine TL_callB [] (psalteryref34_numbers.ok1 hr) psalteryref34_numbers.fnb rfl ⟨tv, ⟨tv, ⟨tv, tv⟩⟩⟩ rfl tv rfl ?_
          refine TL_ev env 5 rfl ⟨tv, ⟨tv, ⟨tv, ⟨tv, ⟨tv, tv⟩⟩⟩⟩⟩ ?_
          refine TL_end ?_
          refine TE_go ?_
          refine TC_seq ?_
          refine TC_seq ?_
          refine TC_reg ?_
          refine TL_ev env 2 rfl ⟨tv, ⟨tv, tv⟩⟩ ?_
          refine TL_end ?_
          refine TE_go ?_
          refine TC_cond rfl (fun hb => ?_) (fun hb => ?_)
          · first | exact (ftf hb).elim | exact (tff hb).elim | exact absurd hb (by decide)
          · refine TC_skip ?_
            refine TE_go ?_
            refine TC_seq ?_
            refine TC_reg ?_
            refine TL_ev env 2 rfl ⟨tv, ⟨⟨tv, tv⟩, tv⟩⟩ ?_
            refine TL_end ?_
            refine TE_go ?_
            refine TC_reg ?_
            obtain ⟨g, h0⟩ := gd_t h0
            refine TL_ev env 5 rfl ⟨tv, ⟨⟨tv, ⟨tv, ⟨(by decide), g⟩⟩⟩, ⟨⟨tv, tv⟩, ⟨tv, ⟨⟨tv, tv⟩, tv⟩⟩⟩⟩⟩ ?_
            refine TL_end ?_
            refine tbn ?_
            refine TE_go ?_
            refine TC_seq ?_
            refine TC_reg ?_
            refine TL_ev env 4 rfl ⟨⟨tv, tv⟩, ⟨⟨tv, tv⟩, ⟨tv, ⟨tv, tv⟩⟩⟩⟩ ?_
            refine TL_end ?_
            refine TE_go ?_
            refine TC_ret ?_
            refine TE_frz 1273 rfl ?_
            obtain rfl := sinj h0
            exact TE_ret env rfl tv tv
      · replace h0 := bif_f h0 hb
        refine TC_seq ?_
        refine TC_reg ?_
        refine TL_ev env 2 rfl ⟨⟨tv, ⟨tv, tv⟩⟩, ⟨tv, tv⟩⟩ ?_
        refine TL_end ?_
        refine TE_go ?_
        refine TC_cond rfl (fun hb => ?_) (fun hb => ?_)
        · replace h0 := bif_t h0 hb
          refine TC_seq ?_
          refine TC_seq ?_
          refine TC_reg ?_
          refine TL_ev env 3 rfl ⟨tv, ⟨⟨tv, tv⟩, ⟨⟨tv, ⟨tv, tv⟩⟩, tv⟩⟩⟩ ?_
          refine TL_end ?_
          refine TE_go ?_
          refine TC_cond rfl (fun hb => ?_) (fun hb => ?_)
          · replace h0 := bif_t h0 hb
            refine TC_seq ?_
            refine TC_reg ?_
            refine TL_ev env 2 rfl ⟨tv, ⟨tv, tv⟩⟩ ?_
            refine TL_end ?_
            refine TE_go ?_
            refine TC_ret ?_
            refine tsr ?_
            refine tbr ?_
            refine tsr ?_
            obtain rfl := sinj h0
            exact TE_ret env rfl tv tv
          · replace h0 := bif_f h0 hb
            refine TC_skip ?_
            refine TE_go ?_
            refine TC_seq ?_
            refine TC_reg ?_
            obtain ⟨g, h0⟩ := gd_t h0
            refine TL_ev env 3 rfl ⟨tv, ⟨⟨tv, ⟨tv, ⟨(by decide), g⟩⟩⟩, ⟨⟨tv, tv⟩, tv⟩⟩⟩ ?_
            obtain ⟨z, hr, h0⟩ := bnd h0
            rcases z with r3109 | r3110
            · refine TL_callB [] (psalteryref34_hex.ok0 hr) psalteryref34_hex.fnb rfl ⟨tv, ⟨tv, tv⟩⟩ rfl tv rfl ?_
              refine TL_ev env 5 rfl ⟨tv, ⟨tv, ⟨tv, ⟨tv, ⟨tv, tv⟩⟩⟩⟩⟩ ?_
              refine TL_end ?_
              refine TE_go ?_
              refine TC_seq ?_
              refine TC_reg ?_
              obtain ⟨g, h0⟩ := gd_t h0
              refine TL_ev env 3 rfl ⟨tv, ⟨⟨tv, ⟨tv, ⟨(by decide), g⟩⟩⟩, ⟨⟨tv, tv⟩, tv⟩⟩⟩ ?_
              obtain ⟨z, hr, h0⟩ := bnd h0
              rcases z with r3112 | r3113
              · refine TL_callB [] (psalteryref34_hex.ok0 hr) psalteryref34_hex.fnb rfl ⟨tv, ⟨tv, tv⟩⟩ rfl tv rfl ?_
                refine TL_ev env 5 rfl ⟨tv, ⟨tv, ⟨tv, ⟨tv, ⟨tv, tv⟩⟩⟩⟩⟩ ?_
                refine TL_end ?_
                refine TE_go ?_
                refine TC_seq ?_
                refine TC_seq ?_
                refine TC_reg ?_
                refine TL_ev env 6 rfl ⟨tv, ⟨tv, ⟨tv, ⟨fun eg => tv, ⟨fun eg => fun e => e, ⟨⟨tv, ⟨tv, fun e => e⟩⟩, tv⟩⟩⟩⟩⟩⟩ ?_
                refine TL_end ?_
                refine TE_go ?_
                refine TC_cond rfl (fun hb => ?_) (fun hb => ?_)
                · replace h0 := bif_t h0 hb
                  refine TC_seq ?_
                  refine TC_reg ?_
                  refine TL_ev env 2 rfl ⟨tv, ⟨tv, tv⟩⟩ ?_
                  refine TL_end ?_
                  refine TE_go ?_
                  refine TC_ret ?_
                  refine tsr ?_
                  refine tbr ?_
                  refine tsr ?_
                  obtain rfl := sinj h0
                  exact TE_ret env rfl tv tv
                · replace h0 := bif_f h0 hb
                  refine TC_skip ?_
                  refine TE_go ?_
                  refine TC_seq ?_
                  refine TC_reg ?_
                  refine TL_ev env 2 rfl ⟨tv, ⟨⟨tv, tv⟩, tv⟩⟩ ?_
                  refine TL_end ?_
                  refine TE_go ?_
                  refine TC_seq ?_
                  refine TC_reg ?_
                  refine TL_ev env 3 rfl ⟨tv, ⟨tv, ⟨⟨tv, tv⟩, tv⟩⟩⟩ ?_
                  refine TL_end ?_
                  refine TE_go ?_
                  refine TC_reg ?_
                  refine TL_ev env 3 rfl ⟨tv, ⟨tv, ⟨⟨tv, tv⟩, tv⟩⟩⟩ ?_
                  refine TL_end ?_
                  refine tbn ?_
                  refine TE_go ?_
                  refine TC_seq ?_
                  refine TC_reg ?_
                  refine TL_ev env 4 rfl ⟨⟨tv, tv⟩, ⟨⟨tv, tv⟩, ⟨tv, ⟨tv, tv⟩⟩⟩⟩ ?_
                  refine TL_end ?_
                  refine TE_go ?_
                  refine TC_ret ?_
                  refine TE_frz 1273 rfl ?_
                  obtain rfl := sinj h0
                  exact TE_ret env rfl tv tv
              · refine TL_callB [] (psalteryref34_hex.ok1 hr) psalteryref34_hex.fnb rfl ⟨tv, ⟨tv, tv⟩⟩ rfl tv rfl ?_
                refine TL_ev env 5 rfl ⟨tv, ⟨tv, ⟨tv, ⟨tv, ⟨tv, tv⟩⟩⟩⟩⟩ ?_
                refine TL_end ?_
                refine TE_go ?_
                refine TC_seq ?_
                refine TC_seq ?_
                refine TC_reg ?_
                refine TL_ev env 6 rfl ⟨tv, ⟨tv, ⟨tv, ⟨fun eg => tv, ⟨fun eg => fun e => e, ⟨⟨tv, ⟨tv, fun e => e⟩⟩, tv⟩⟩⟩⟩⟩⟩ ?_
                refine TL_end ?_
                refine TE_go ?_
                refine TC_cond rfl (fun hb => ?_) (fun hb => ?_)
                · replace h0 := bif_t h0 hb
                  refine TC_seq ?_
                  refine TC_reg ?_
                  refine TL_ev env 2 rfl ⟨tv, ⟨tv, tv⟩⟩ ?_
                  refine TL_end ?_
                  refine TE_go ?_
                  refine TC_ret ?_
                  refine tsr ?_
                  refine tbr ?_
                  refine tsr ?_
                  obtain rfl := sinj h0
                  exact TE_ret env rfl tv tv
                · replace h0 := bif_f h0 hb
                  refine TC_skip ?_
                  refine TE_go ?_
                  refine TC_seq ?_
                  refine TC_reg ?_
                  refine TL_ev env 2 rfl ⟨tv, ⟨⟨tv, tv⟩, tv⟩⟩ ?_
                  refine TL_end ?_
                  refine TE_go ?_
                  refine TC_seq ?_
                  refine TC_reg ?_
                  refine TL_ev env 3 rfl ⟨tv, ⟨tv, ⟨⟨tv, tv⟩, tv⟩⟩⟩ ?_
                  refine TL_end ?_
                  refine TE_go ?_
                  refine TC_reg ?_
                  refine TL_ev env 3 rfl ⟨tv, ⟨tv, ⟨⟨tv, tv⟩, tv⟩⟩⟩ ?_
                  refine TL_end ?_
                  refine tbn ?_
                  refine TE_go ?_
                  refine TC_seq ?_
                  refine TC_reg ?_
                  refine TL_ev env 4 rfl ⟨⟨tv, tv⟩, ⟨⟨tv, tv⟩, ⟨tv, ⟨tv, tv⟩⟩⟩⟩ ?_
                  refine TL_end ?_
                  refine TE_go ?_
                  refine TC_ret ?_
                  refine TE_frz 1273 rfl ?_
                  obtain rfl := sinj h0
                  exact TE_ret env rfl tv tv
            · refine TL_callB [] (psalteryref34_hex.ok1 hr) psalteryref34_hex.fnb rfl ⟨tv, ⟨tv, tv⟩⟩ rfl tv rfl ?_
              refine TL_ev env 5 rfl ⟨tv, ⟨tv, ⟨tv, ⟨tv, ⟨tv, tv⟩⟩⟩⟩⟩ ?_
              refine TL_end ?_
              refine TE_go ?_
              refine TC_seq ?_
              refine TC_reg ?_
              obtain ⟨g, h0⟩ := gd_t h0
              refine TL_ev env 3 rfl ⟨tv, ⟨⟨tv, ⟨tv, ⟨(by decide), g⟩⟩⟩, ⟨⟨tv, tv⟩, tv⟩⟩⟩ ?_
              obtain ⟨z, hr, h0⟩ := bnd h0
              rcases z with r3119 | r3120
              · refine TL_callB [] (psalteryref34_hex.ok0 hr) psalteryref34_hex.fnb rfl ⟨tv, ⟨tv, tv⟩⟩ rfl tv rfl ?_
                refine TL_ev env 5 rfl ⟨tv, ⟨tv, ⟨tv, ⟨tv, ⟨tv, tv⟩⟩⟩⟩⟩ ?_
                refine TL_end ?_
                refine TE_go ?_
                refine TC_seq ?_
                refine TC_seq ?_
                refine TC_reg ?_
                refine TL_ev env 3 rfl ⟨tv, ⟨tv, ⟨tv, tv⟩⟩⟩ ?_
                refine TL_gt rfl rfl rfl rfl ?_
                refine TL_ev env 1 rfl ⟨tv, tv⟩ ?_
                refine TL_gt rfl rfl rfl rfl ?_
                refine TL_ev env 2 rfl ⟨tv, ⟨⟨tv, ⟨tv, tv⟩⟩, tv⟩⟩ ?_
                refine TL_end ?_
                refine TE_go ?_
                refine TC_cond rfl (fun hb => ?_) (fun hb => ?_)
                · replace h0 := bif_t h0 hb
                  refine TC_seq ?_
                  refine TC_reg ?_
                  refine TL_ev env 2 rfl ⟨tv, ⟨tv, tv⟩⟩ ?_
                  refine TL_end ?_
                  refine TE_go ?_
                  refine TC_ret ?_
                  refine tsr ?_
                  refine tbr ?_
                  refine tsr ?_
                  obtain rfl := sinj h0
                  exact TE_ret env rfl tv tv
                · replace h0 := bif_f h0 hb
                  refine TC_skip ?_
                  refine TE_go ?_
                  refine TC_seq ?_
                  refine TC_reg ?_
                  refine TL_ev env 2 rfl ⟨tv, ⟨⟨tv, tv⟩, tv⟩⟩ ?_
                  refine TL_end ?_
                  refine TE_go ?_
                  refine TC_seq ?_
                  refine TC_reg ?_
                  refine TL_ev env 3 rfl ⟨tv, ⟨tv, ⟨⟨tv, tv⟩, tv⟩⟩⟩ ?_
                  refine TL_end ?_
                  refine TE_go ?_
                  refine TC_reg ?_
                  refine TL_ev env 3 rfl ⟨tv, ⟨tv, ⟨⟨tv, tv⟩, tv⟩⟩⟩ ?_
                  refine TL_end ?_
                  refine tbn ?_
                  refine TE_go ?_
                  refine TC_seq ?_
                  refine TC_reg ?_
                  refine TL_ev env 4 rfl ⟨⟨tv, tv⟩, ⟨⟨tv, tv⟩, ⟨tv, ⟨tv, tv⟩⟩⟩⟩ ?_
                  refine TL_end ?_
                  refine TE_go ?_
                  refine TC_ret ?_
                  refine TE_frz 1273 rfl ?_
                  obtain rfl := sinj h0
                  exact TE_ret env rfl tv tv
              · refine TL_callB [] (psalteryref34_hex.ok1 hr) psalteryref34_hex.fnb rfl ⟨tv, ⟨tv, tv⟩⟩ rfl tv rfl ?_
                refine TL_ev env 5 rfl ⟨tv, ⟨tv, ⟨tv, ⟨tv, ⟨tv, tv⟩⟩⟩⟩⟩ ?_
                refine TL_end ?_
                refine TE_go ?_
                refine TC_seq ?_
                refine TC_seq ?_
                refine TC_reg ?_
                refine TL_ev env 3 rfl ⟨tv, ⟨tv, ⟨tv, tv⟩⟩⟩ ?_
                refine TL_gt rfl rfl rfl rfl ?_
                refine TL_ev env 1 rfl ⟨tv, tv⟩ ?_
                refine TL_gt rfl rfl rfl rfl ?_
                refine TL_ev env 2 rfl ⟨tv, ⟨⟨tv, ⟨tv, tv⟩⟩, tv⟩⟩ ?_
                refine TL_end ?_
                refine TE_go ?_
                refine TC_cond rfl (fun hb => ?_) (fun hb => ?_)
                · first | exact (ftf hb).elim | exact (tff hb).elim | exact absurd hb (by decide)
                · refine TC_skip ?_
                  refine TE_go ?_
                  refine TC_seq ?_
                  refine TC_reg ?_
                  refine TL_ev env 2 rfl ⟨tv, ⟨⟨tv, tv⟩, tv⟩⟩ ?_
                  refine TL_end ?_
                  refine TE_go ?_
                  refine TC_seq ?_
                  refine TC_reg ?_
                  refine TL_ev env 3 rfl ⟨tv, ⟨tv, ⟨⟨tv, tv⟩, tv⟩⟩⟩ ?_
                  refine TL_end ?_
                  refine TE_go ?_
                  refine TC_reg ?_
                  refine TL_ev env 3 rfl ⟨tv, ⟨tv, ⟨⟨tv, tv⟩, tv⟩⟩⟩ ?_
                  refine TL_end ?_
                  refine tbn ?_
                  refine TE_go ?_
                  refine TC_seq ?_
                  refine TC_reg ?_
                  refine TL_ev env 4 rfl ⟨⟨tv, tv⟩, ⟨⟨tv, tv⟩, ⟨tv, ⟨tv, tv⟩⟩⟩⟩ ?_
                  refine TL_end ?_
                  refine TE_go ?_
                  refine TC_ret ?_
                  refine TE_frz 1273 rfl ?_
                  obtain rfl := sinj h0
                  exact TE_ret env rfl tv tv
        · replace h0 := bif_f h0 hb
          refine TC_seq ?_
          refine TC_reg ?_
          refine TL_ev env 2 rfl ⟨⟨tv, ⟨tv, tv⟩⟩, ⟨tv, tv⟩⟩ ?_
          refine TL_end ?_
          refine TE_go ?_
          refine TC_cond rfl (fun hb => ?_) (fun hb => ?_)
          · replace h0 := bif_t h0 hb
            refine TC_seq ?_
            refine TC_reg ?_
            refine TL_ev env 2 rfl ⟨tv, ⟨⟨tv, tv⟩, tv⟩⟩ ?_
            refine TL_end ?_
            refine TE_go ?_
            refine TC_seq ?_
            refine TC_reg ?_
            refine TL_ev env 1 rfl ⟨tv, tv⟩ ?_
            refine TL_end ?_
            refine TE_go ?_
            obtain ⟨z1, h1, h0⟩ := bnd h0
            refine TC_cut (α := (List ((Int × (Int × (Int × Int)))))) (fun s => z1 = .inl s) (fun s => [(5, .p 101600 0)]) (fun s => [(101600, some (.cells [.int .i64 4, .int .i64 0, .nils, .nils, .nils, .sl 101601])), (101601, some (.rows (.pair (.int .i64) (.pair (.int .i64) (.pair (.int .i64) (.int .u32)))) s))]) ?_ ?_
            · refine TC_blk ?_
              refine TC_loop (α := Int × (List ((Int × (Int × (Int × Int)))))) (fun n s => psalteryref34_Line.l2 K r1814 n s.1 s.2 = some z1) (fun s => [(4, .im (.slice (.str)) r1814), (5, .p 101800 0), (22, .int .i64 s.1)]) (fun s => [(101800, some (.cells [.int .i64 4, .int .i64 0, .nils, .nils, .nils, .sl 101801])), (101801, some (.rows (.pair (.int .i64) (.pair (.int .i64) (.pair (.int .i64) (.int .u32)))) s.2))]) K ?_ ?_
              · refine TE_ownC 1005 5 920105 (.pair (.int .i64) (.pair (.int .i64) (.pair (.int .i64) (.int .u32)))) rfl rfl (by decide) rfl rfl ?_
                exact SP_ren [(101800, 1005), (101801, 920105)] (_, _) h1 ⟨rfl, rfl, rfl, tv⟩ ⟨rfl, rfl, tv⟩ rfl
              rintro n ⟨x3367, x3368⟩ h1
              rcases n with _ | n
              · exact (nsome h1).elim
              replace h1 : psalteryref34_Line.r2 K r1814 (psalteryref34_Line.l2 K r1814 n) x3367 x3368 = some z1 := h1
              refine TC_seq ?_
              refine TC_seq ?_
              refine TC_reg ?_
              refine TL_ev env 4 rfl ⟨tv, ⟨tv, ⟨⟨tv, tv⟩, ⟨⟨tv, ⟨tv, tv⟩⟩, tv⟩⟩⟩⟩ ?_
              refine TL_end ?_
              refine TE_go ?_
              refine TC_cond rfl (fun hb => ?_) (fun hb => ?_)
              · replace h1 := bif_t h1 hb
                refine TC_skip ?_
                refine TE_go ?_
                refine TC_seq ?_
                refine TC_blk ?_
                refine TC_seq ?_
                refine TC_reg ?_
                obtain ⟨g, h1⟩ := gd_t h1
                refine TL_ev env 4 rfl ⟨tv, ⟨tv, ⟨⟨tv, ⟨tv, ⟨g.1, g.2⟩⟩⟩, ⟨⟨tv, tv⟩, tv⟩⟩⟩⟩ ?_
                obtain ⟨⟨r3388, r3389, r3390, r3391, r3392⟩, hr, h1⟩ := bnd h1
                refine TL_callB [] (psalteryref34_slot.ok0 hr) psalteryref34_slot.fnb rfl ⟨tv, ⟨tv, tv⟩⟩ rfl tv rfl ?_
                refine TL_ev env 6 rfl ⟨tv, ⟨tv, ⟨tv, ⟨tv, ⟨⟨tv, tv⟩, ⟨tv, tv⟩⟩⟩⟩⟩⟩ ?_
                refine TL_end ?_
                refine TE_go ?_
                refine TC_seq ?_
                refine TC_seq ?_
                refine TC_reg ?_
                refine TL_ev env 2 rfl ⟨tv, ⟨tv, tv⟩⟩ ?_
                refine TL_end ?_
                refine TE_go ?_
                refine TC_cond rfl (fun hb => ?_) (fun hb => ?_)
                · replace h1 := bif_t h1 hb
                  refine TC_seq ?_
                  refine TC_reg ?_
                  refine TL_ev env 2 rfl ⟨tv, ⟨tv, tv⟩⟩ ?_
                  refine TL_end ?_
                  refine TE_go ?_
                  refine TC_ret ?_
                  refine tsr ?_
                  refine tbr ?_
                  refine tsr ?_
                  refine tsr ?_
                  refine tbr ?_
                  refine tsr ?_
                  refine tbr ?_
                  refine tsr ?_
                  obtain rfl := sinj h1
                  obtain rfl := sinj h0
                  exact TE_ret env rfl tv tv
                · replace h1 := bif_f h1 hb
                  refine TC_skip ?_
                  refine TE_go ?_
                  refine TC_reg ?_
                  obtain ⟨g, h1⟩ := gd_t h1
                  refine TL_ev env 7 rfl ⟨tv, ⟨⟨tv, tv⟩, ⟨⟨tv, tv⟩, ⟨⟨tv, tv⟩, ⟨⟨⟨tv, ⟨tv, tv⟩⟩, g⟩, ⟨tv, ⟨⟨tv, tv⟩, tv⟩⟩⟩⟩⟩⟩⟩ ?_
                  refine TL_end ?_
                  refine tbn ?_
                  refine TE_go ?_
                  refine TC_reg ?_
                  refine TL_ev env 3 rfl ⟨tv, ⟨⟨tv, ⟨tv, tv⟩⟩, ⟨tv, tv⟩⟩⟩ ?_
                  refine TL_end ?_
                  refine tsn ?_
                  exact TE_nextr [(101800, 101800), (101801, 1199)] n (Nat.lt_succ_self n) (_, _) h1 ⟨rfl, rfl, rfl, tv⟩ ⟨rfl, rfl, tv⟩ rfl
              · replace h1 := bif_f h1 hb
                refine TC_exit ?_
                refine tsx ?_
                refine tsx ?_
                refine tbe ?_
                obtain rfl := sinj h1
                refine tsn ?_
                exact SP_ren [(101600, 101800), (101601, 101801)] _ rfl ⟨rfl, tv⟩ ⟨rfl, rfl, tv⟩ rfl
            · rintro x3355 hz
              obtain rfl := hz.symm
              refine tbn ?_
              refine TE_go ?_
              refine TC_seq ?_
              refine TC_reg ?_
              refine TL_ev env 1 rfl ⟨⟨tv, tv⟩, tv⟩ ?_
              refine TL_frz 101601 rfl ?_
              refine TL_ev env 3 rfl ⟨⟨tv, tv⟩, ⟨tv, ⟨tv, tv⟩⟩⟩ ?_
              refine TL_end ?_
              refine TE_go ?_
              refine TC_ret ?_
              refine TE_frz 1273 rfl ?_
              obtain rfl := sinj h0
              exact TE_ret env rfl tv tv
          · replace h0 := bif_f h0 hb
            refine TC_seq ?_
            refine TC_reg ?_
            refine TL_ev env 2 rfl ⟨⟨tv, ⟨tv, tv⟩⟩, ⟨tv, tv⟩⟩ ?_
            refine TL_end ?_
            refine TE_go ?_
            refine TC_cond rfl (fun hb => ?_) (fun hb => ?_)
            · replace h0 := bif_t h0 hb
              refine TC_seq ?_
              refine TC_reg ?_
              obtain ⟨g, h0⟩ := gd_t h0
              refine TL_ev env 3 rfl ⟨tv, ⟨⟨tv, ⟨tv, ⟨tv, ⟨(by decide), ⟨g.1, g.2⟩⟩⟩⟩⟩, ⟨⟨tv, ⟨tv, ⟨tv, ⟨tv, ⟨tv, ⟨tv, ⟨tv, tv⟩⟩⟩⟩⟩⟩⟩, tv⟩⟩⟩ ?_
              refine TL_frz 1206 rfl ?_
              obtain ⟨z, hr, h0⟩ := bnd h0
              rcases z with ⟨⟩ | r3581
              · refine TL_callB [] (psalteryref34_numbers.ok0 hr) psalteryref34_numbers.fnb rfl ⟨tv, ⟨tv, ⟨tv, tv⟩⟩⟩ rfl tv rfl ?_
                refine TL_ev env 5 rfl ⟨tv, ⟨tv, ⟨tv, ⟨tv, ⟨tv, tv⟩⟩⟩⟩⟩ ?_
                refine TL_end ?_
                refine TE_go ?_
                refine TC_seq ?_
                refine TC_seq ?_
                refine TC_reg ?_
                refine TL_ev env 2 rfl ⟨tv, ⟨tv, tv⟩⟩ ?_
                refine TL_end ?_
                refine TE_go ?_
                refine TC_cond rfl (fun hb => ?_) (fun hb => ?_)
                · refine TC_seq ?_
                  refine TC_reg ?_
                  refine TL_ev env 2 rfl ⟨tv, ⟨tv, tv⟩⟩ ?_
                  refine TL_end ?_
                  refine TE_go ?_
                  refine TC_ret ?_
                  refine tsr ?_
                  refine tbr ?_
                  refine tsr ?_
                  obtain rfl := sinj h0
                  exact TE_ret env rfl tv tv
                · first | exact (ftf hb).elim | exact (tff hb).elim | exact absurd hb (by decide)
              · refine TL_callB [] (psalteryref34_numbers.ok1 hr) psalteryref34_numbers.fnb rfl ⟨tv, ⟨tv, ⟨tv, tv⟩⟩⟩ rfl tv rfl ?_
                refine TL_ev env 5 rfl ⟨tv, ⟨tv, ⟨tv, ⟨tv, ⟨tv, tv⟩⟩⟩⟩⟩ ?_
                refine TL_end ?_
                refine TE_go ?_
                refine TC_seq ?_
                refine TC_seq ?_
                refine TC_reg ?_
                refine TL_ev env 2 rfl ⟨tv, ⟨tv, tv⟩⟩ ?_
                refine TL_end ?_
                refine TE_go ?_
                refine TC_cond rfl (fun hb => ?_) (fun hb => ?_)
                · first | exact (ftf hb).elim | exact (tff hb).elim | exact absurd hb (by decide)
                · refine TC_skip ?_
                  refine TE_go ?_
                  refine TC_seq ?_
                  refine TC_renw (A' := [(25, .im (.slice (.int .i64)) _)]) (L' := []) [] ⟨rfl, tv⟩ tv rfl ?_
                  refine TC_drawR ⟨_, fun i => ([[], [0], [1, 0], [], [3], [4, 3], [], [6], [7, 6], [], [9], [10, 9], [11, 10, 9, 8, 7, 6, 5, 4, 3, 2, 1, 0], [], [13, 12, 11, 10, 9, 8, 7, 6, 5, 4, 3, 2, 1, 0]] : List (List Nat)).getD i [], fun i => ([[], [], [], [], [], [], [], [], [], [], [], [], [], [1027], [1027]] : List (List Nat)).getD i [], fun i => ([[], [], [], [], [], [], [], [], [], [], [], [], [], [1027], []] : List (List Nat)).getD i []⟩ (fun i => ([[1027], [1027], [1027], [1027], [1027], [1027], [1027], [1027], [1027], [1027], [1027], [1027], [1027], [], []] : List (List Nat)).getD i []) (by kernel_rfl) (by kernel_rfl) ?_
                  refine AJR_ev env 1 rfl (Nat.le_of_ble_eq_true rfl) rfl tv ?_
                  obtain ⟨g, h0⟩ := gd_t h0
                  refine AJR_ev env 2 rfl (Nat.le_of_ble_eq_true rfl) rfl ⟨tv, ⟨tv, ⟨(by decide), g⟩⟩⟩ ?_
                  refine AJR_ev env 3 rfl (Nat.le_of_ble_eq_true rfl) rfl ⟨tv, tv⟩ ?_
                  refine AJR_ev env 4 rfl (Nat.le_of_ble_eq_true rfl) rfl tv ?_
                  obtain ⟨g, h0⟩ := gd_t h0
                  refine AJR_ev env 5 rfl (Nat.le_of_ble_eq_true rfl) rfl ⟨tv, ⟨tv, ⟨(by decide), g⟩⟩⟩ ?_
                  refine AJR_ev env 6 rfl (Nat.le_of_ble_eq_true rfl) rfl ⟨tv, tv⟩ ?_
                  refine AJR_ev env 7 rfl (Nat.le_of_ble_eq_true rfl) rfl tv ?_
                  obtain ⟨g, h0⟩ := gd_t h0
                  refine AJR_ev env 8 rfl (Nat.le_of_ble_eq_true rfl) rfl ⟨tv, ⟨tv, ⟨(by decide), g⟩⟩⟩ ?_
                  refine AJR_ev env 9 rfl (Nat.le_of_ble_eq_true rfl) rfl ⟨tv, tv⟩ ?_
                  refine AJR_ev env 10 rfl (Nat.le_of_ble_eq_true rfl) rfl tv ?_
                  obtain ⟨g, h0⟩ := gd_t h0
                  refine AJR_ev env 11 rfl (Nat.le_of_ble_eq_true rfl) rfl ⟨tv, ⟨tv, ⟨(by decide), g⟩⟩⟩ ?_
                  refine AJR_ev env 12 rfl (Nat.le_of_ble_eq_true rfl) rfl ⟨tv, tv⟩ ?_
                  refine AJR_ev env 13 rfl (Nat.le_of_ble_eq_true rfl) rfl ⟨tv, ⟨tv, ⟨tv, ⟨tv, tv⟩⟩⟩⟩ ?_
                  refine AJR_ev env 14 rfl (Nat.le_of_ble_eq_true rfl) rfl tv ?_
                  refine AJR_ev env 15 rfl (Nat.le_of_ble_eq_true rfl) rfl ⟨tv, tv⟩ ?_
                  refine AJR_end rfl rfl rfl ?_
                  refine TE_go ?_
                  refine TC_seq ?_
                  refine TC_renw (A' := [(25, .im (.slice (.int .i64)) _), (27, .p 1027 0)]) (L' := [(1027, some (.cells [.int .i64 _, .int .i64 _, .int .i64 _, .int .i64 _]))]) [] ⟨rfl, rfl, tv⟩ ⟨rfl, tv⟩ rfl ?_
                  refine TC_drawR ⟨_, fun i => ([[], [], [1], [2, 1], [3, 2, 1], [4, 3, 2, 1, 0], [], [6, 5, 4, 3, 2, 1, 0]] : List (List Nat)).getD i [], fun i => ([[], [], [], [], [], [], [1028], [1028]] : List (List Nat)).getD i [], fun i => ([[], [], [], [], [], [], [1028], []] : List (List Nat)).getD i []⟩ (fun i => ([[1028], [1028], [1028], [1028], [1028], [1028], [], []] : List (List Nat)).getD i []) (by kernel_rfl) (by kernel_rfl) ?_
                  refine AJR_ev env 1 rfl (Nat.le_of_ble_eq_true rfl) rfl ⟨tv, tv⟩ ?_
                  refine AJR_ev env 2 rfl (Nat.le_of_ble_eq_true rfl) rfl tv ?_
                  obtain ⟨g, h0⟩ := gd_t h0
                  refine AJR_ev env 3 rfl (Nat.le_of_ble_eq_true rfl) rfl ⟨tv, ⟨tv, ⟨(by decide), g⟩⟩⟩ ?_
                  refine AJR_ev env 4 rfl (Nat.le_of_ble_eq_true rfl) rfl ⟨tv, tv⟩ ?_
                  refine AJR_ev env 5 rfl (Nat.le_of_ble_eq_true rfl) rfl tv ?_
                  refine AJR_ev env 6 rfl (Nat.le_of_ble_eq_true rfl) rfl ⟨tv, ⟨tv, ⟨tv, tv⟩⟩⟩ ?_
                  refine AJR_ev env 7 rfl (Nat.le_of_ble_eq_true rfl) rfl tv ?_
                  refine AJR_ev env 8 rfl (Nat.le_of_ble_eq_true rfl) rfl ⟨tv, tv⟩ ?_
                  refine AJR_end rfl rfl rfl ?_
                  refine TE_go ?_
                  refine TC_seq ?_
                  refine TC_reg ?_
                  refine TL_ev env 1 rfl ⟨tv, tv⟩ ?_
                  refine TL_end ?_
                  refine TE_go ?_
                  refine TC_seq ?_
                  refine TC_seq ?_
                  refine TC_reg ?_
                  refine TL_ev env 1 rfl ⟨tv, tv⟩ ?_
                  refine TL_end ?_
                  refine TE_go ?_
                  obtain ⟨z1, h1, h0⟩ := bnd h0
                  refine TC_cut (α := (List ((Int × (Int × (List (Int) × (List (Int) × (List (Int) × List ((Int × (Int × (Int × Int)))))))))))) (fun s => z1 = s) (fun s => [(29, .sl 112300)]) (fun s => [(112300, some (.rows (.pair (.int .i64) (.pair (.int .i64) (.pair (.slice (.int .i16)) (.pair (.slice (.int .u8)) (.pair (.slice (.int .u8)) (.slice (.pair (.int .i64) (.pair (.int .i64) (.pair (.int .i64) (.int .u32)))))))))) s))]) ?_ ?_
                  · refine TC_blk ?_
                    refine TC_loop (α := Int × Int × Bool × (List ((Int × (Int × (List (Int) × (List (Int) × (List (Int) × List ((Int × (Int × (Int × Int)))))))))))) (fun n s => psalteryref34_Line.l3 K r3581 (Kd.nth (.int .i64) r3581 1) (Kd.nth (.int .i64) r3581 2) (Kd.nth (.int .i64) r3581 3) (Kd.nth (.int .i64) r3581 4) n s.1 s.2.1 s.2.2.1 s.2.2.2 = some z1) (fun s => [(25, .im (.slice (.int .i64)) r3581), (28, .p 114900 0), (29, .sl 114901), (30, .int .i64 s.1)]) (fun s => [(114900, some (.cells [.int .i64 (Kd.nth (.int .i64) r3581 1), .int .i64 (Kd.nth (.int .i64) r3581 2), .int .i64 (Kd.nth (.int .i64) r3581 3), .int .i64 (Kd.nth (.int .i64) r3581 4), .int .u64 s.2.1, .bool s.2.2.1])), (114901, some (.rows (.pair (.int .i64) (.pair (.int .i64) (.pair (.slice (.int .i16)) (.pair (.slice (.int .u8)) (.pair (.slice (.int .u8)) (.slice (.pair (.int .i64) (.pair (.int .i64) (.pair (.int .i64) (.int .u32)))))))))) s.2.2.2))]) K ?_ ?_
                    · refine TE_own 29 7029 (.pair (.int .i64) (.pair (.int .i64) (.pair (.slice (.int .i16)) (.pair (.slice (.int .u8)) (.pair (.slice (.int .u8)) (.slice (.pair (.int .i64) (.pair (.int .i64) (.pair (.int .i64) (.int .u32)))))))))) rfl (by decide) rfl rfl ?_
                      exact SP_ren [(114900, 1028), (114901, 7029)] (_, _, _, _) h1 ⟨rfl, rfl, rfl, rfl, tv⟩ ⟨rfl, rfl, tv⟩ rfl
                    rintro n ⟨x3855, x3856, x3857, x3858⟩ h1
                    rcases n with _ | n
                    · exact (nsome h1).elim
                    replace h1 : psalteryref34_Line.r3 K r3581 (Kd.nth (.int .i64) r3581 1) (Kd.nth (.int .i64) r3581 2) (Kd.nth (.int .i64) r3581 3) (Kd.nth (.int .i64) r3581 4) (psalteryref34_Line.l3 K r3581 (Kd.nth (.int .i64) r3581 1) (Kd.nth (.int .i64) r3581 2) (Kd.nth (.int .i64) r3581 3) (Kd.nth (.int .i64) r3581 4) n) x3855 x3856 x3857 x3858 = some z1 := h1
                    refine TC_seq ?_
                    refine TC_seq ?_
                    refine TC_reg ?_
                    obtain ⟨g, h1⟩ := gd_t h1
                    refine TL_ev env 5 rfl ⟨tv, ⟨tv, ⟨⟨tv, ⟨tv, ⟨(by decide), g⟩⟩⟩, ⟨⟨tv, tv⟩, ⟨⟨tv, ⟨tv, tv⟩⟩, tv⟩⟩⟩⟩⟩ ?_
                    refine TL_end ?_
                    refine TE_go ?_
                    refine TC_cond rfl (fun hb => ?_) (fun hb => ?_)
                    · replace h1 := bif_t h1 hb
                      refine TC_skip ?_
                      refine TE_go ?_
                      refine TC_seq ?_
                      refine TC_blk ?_
                      refine TC_seq ?_
                      refine TC_reg ?_
                      refine TL_ev env 3 rfl ⟨⟨tv, tv⟩, ⟨tv, ⟨⟨tv, tv⟩, tv⟩⟩⟩ ?_
                      refine TL_end ?_
                      refine TE_go ?_
                      refine TC_seq ?_
                      refine TC_seq ?_
                      refine TC_reg ?_
                      refine TL_ev env 1 rfl ⟨tv, tv⟩ ?_
                      refine TL_end ?_
                      refine TE_go ?_
                      obtain ⟨z2, h2, h1⟩ := bnd h1
                      refine TC_cut (α := Int × Bool × (List ((Int × (Int × (Int × Int)))))) (fun s => z2 = s) (fun s => [(25, .im (.slice (.int .i64)) r3581), (28, .p 119800 0), (29, .sl 119801), (30, .int .i64 x3855), (31, .p 119802 0)]) (fun s => [(119800, some (.cells [.int .i64 (Kd.nth (.int .i64) r3581 1), .int .i64 (Kd.nth (.int .i64) r3581 2), .int .i64 (Kd.nth (.int .i64) r3581 3), .int .i64 (Kd.nth (.int .i64) r3581 4), .int .u64 s.1, .bool s.2.1])), (119801, some (.rows (.pair (.int .i64) (.pair (.int .i64) (.pair (.slice (.int .i16)) (.pair (.slice (.int .u8)) (.pair (.slice (.int .u8)) (.slice (.pair (.int .i64) (.pair (.int .i64) (.pair (.int .i64) (.int .u32)))))))))) x3858)), (119802, some (.cells [.int .i64 4, .int .i64 0, .nils, .nils, .nils, .sl 119803])), (119803, some (.rows (.pair (.int .i64) (.pair (.int .i64) (.pair (.int .i64) (.int .u32)))) s.2.2))]) ?_ ?_
                      · refine TC_blk ?_
                        refine TC_loop (α := Int × Int × Bool × (List ((Int × (Int × (Int × Int)))))) (fun n s => psalteryref34_Line.l4 K r3581 x3855 (Kd.nth (.int .i64) r3581 1) (Kd.nth (.int .i64) r3581 2) (Kd.nth (.int .i64) r3581 3) (Kd.nth (.int .i64) r3581 4) x3858 n s.1 s.2.1 s.2.2.1 s.2.2.2 = some z2) (fun s => [(25, .im (.slice (.int .i64)) r3581), (28, .p 120400 0), (29, .sl 120401), (30, .int .i64 x3855), (31, .p 120402 0), (32, .int .i64 s.1)]) (fun s => [(120400, some (.cells [.int .i64 (Kd.nth (.int .i64) r3581 1), .int .i64 (Kd.nth (.int .i64) r3581 2), .int .i64 (Kd.nth (.int .i64) r3581 3), .int .i64 (Kd.nth (.int .i64) r3581 4), .int .u64 s.2.1, .bool s.2.2.1])), (120401, some (.rows (.pair (.int .i64) (.pair (.int .i64) (.pair (.slice (.int .i16)) (.pair (.slice (.int .u8)) (.pair (.slice (.int .u8)) (.slice (.pair (.int .i64) (.pair (.int .i64) (.pair (.int .i64) (.int .u32)))))))))) x3858)), (120402, some (.cells [.int .i64 4, .int .i64 0, .nils, .nils, .nils, .sl 120403])), (120403, some (.rows (.pair (.int .i64) (.pair (.int .i64) (.pair (.int .i64) (.int .u32)))) s.2.2.2))]) K ?_ ?_
                        · refine TE_ownC 1031 5 920625 (.pair (.int .i64) (.pair (.int .i64) (.pair (.int .i64) (.int .u32)))) rfl rfl (by decide) rfl rfl ?_
                          exact SP_ren [(120400, 114900), (120401, 114901), (120402, 1031), (120403, 920625)] (_, _, _, _) h2 ⟨rfl, rfl, rfl, rfl, rfl, rfl, tv⟩ ⟨rfl, rfl, rfl, rfl, tv⟩ rfl
                        rintro n ⟨x4056, x4057, x4058, x4059⟩ h2
                        rcases n with _ | n
                        · exact (nsome h2).elim
                        replace h2 : psalteryref34_Line.r4 K r3581 x3855 (Kd.nth (.int .i64) r3581 1) (Kd.nth (.int .i64) r3581 2) (Kd.nth (.int .i64) r3581 3) (Kd.nth (.int .i64) r3581 4) x3858 (psalteryref34_Line.l4 K r3581 x3855 (Kd.nth (.int .i64) r3581 1) (Kd.nth (.int .i64) r3581 2) (Kd.nth (.int .i64) r3581 3) (Kd.nth (.int .i64) r3581 4) x3858 n) x4056 x4057 x4058 x4059 = some z2 := h2
                        refine TC_seq ?_
                        refine TC_seq ?_
                        refine TC_reg ?_
                        obtain ⟨g, h2⟩ := gd_t h2
                        refine TL_ev env 5 rfl ⟨tv, ⟨tv, ⟨⟨tv, ⟨tv, ⟨(by decide), g⟩⟩⟩, ⟨⟨tv, tv⟩, ⟨⟨tv, ⟨tv, tv⟩⟩, tv⟩⟩⟩⟩⟩ ?_
                        refine TL_end ?_
                        refine TE_go ?_
                        refine TC_cond rfl (fun hb => ?_) (fun hb => ?_)
                        · replace h2 := bif_t h2 hb
                          refine TC_skip ?_
                          refine TE_go ?_
                          refine TC_seq ?_
                          refine TC_blk ?_
                          refine TC_seq ?_
                          refine TC_reg ?_
                          refine TL_ev env 2 rfl ⟨tv, ⟨tv, tv⟩⟩ ?_
                          refine TL_end ?_
                          refine TE_go ?_
                          refine TC_seq ?_
                          refine TC_reg ?_
                          refine TL_ev env 1 rfl ⟨⟨tv, tv⟩, tv⟩ ?_
                          obtain ⟨⟨r4090, r4091, r4092⟩, hr, h2⟩ := bnd h2
                          refine TL_callB [] (psalteryref32_Weather_Lost.ok0 hr) psalteryref32_Weather_Lost.fnb rfl ⟨tv, ⟨tv, tv⟩⟩ rfl tv rfl ?_
                          refine TL_ev env 5 rfl ⟨tv, ⟨tv, ⟨tv, ⟨⟨tv, tv⟩, ⟨tv, tv⟩⟩⟩⟩⟩ ?_
                          refine TL_end ?_
                          refine TE_go ?_
                          refine TC_seq ?_
                          refine TC_reg ?_
                          refine TL_ev env 1 rfl ⟨⟨tv, tv⟩, tv⟩ ?_
                          obtain ⟨⟨r4093, r4094, r4095⟩, hr, h2⟩ := bnd h2
                          refine TL_callB [] (psalteryref32_Weather_Lost.ok0 hr) psalteryref32_Weather_Lost.fnb rfl ⟨tv, ⟨tv, tv⟩⟩ rfl tv rfl ?_
                          refine TL_ev env 5 rfl ⟨tv, ⟨tv, ⟨tv, ⟨⟨tv, tv⟩, ⟨tv, tv⟩⟩⟩⟩⟩ ?_
                          refine TL_end ?_
                          refine TE_go ?_
                          refine TC_seq ?_
                          refine TC_reg ?_
                          refine TL_ev env 3 rfl ⟨tv, ⟨tv, ⟨⟨tv, tv⟩, tv⟩⟩⟩ ?_
                          refine TL_end ?_
                          refine TE_go ?_
                          refine TC_seq ?_
                          refine TC_seq ?_
                          refine TC_reg ?_
                          refine TL_ev env 1 rfl ⟨tv, tv⟩ ?_
                          refine TL_end ?_
                          refine TE_go ?_
                          obtain ⟨z3, h3, h2⟩ := bnd h2
                          refine TC_cut (α := Int) (fun s => z3 = s) (fun s => [(25, .im (.slice (.int .i64)) r3581), (28, .p 121200 0), (29, .sl 121201), (30, .int .i64 x3855), (31, .p 121202 0), (32, .int .i64 x4056), (34, .bool r4095), (35, .p 121203 0)]) (fun s => [(121200, some (.cells [.int .i64 (Kd.nth (.int .i64) r3581 1), .int .i64 (Kd.nth (.int .i64) r3581 2), .int .i64 (Kd.nth (.int .i64) r3581 3), .int .i64 (Kd.nth (.int .i64) r3581 4), .int .u64 r4093, .bool r4094])), (121201, some (.rows (.pair (.int .i64) (.pair (.int .i64) (.pair (.slice (.int .i16)) (.pair (.slice (.int .u8)) (.pair (.slice (.int .u8)) (.slice (.pair (.int .i64) (.pair (.int .i64) (.pair (.int .i64) (.int .u32)))))))))) x3858)), (121202, some (.cells [.int .i64 4, .int .i64 0, .nils, .nils, .nils, .sl 121204])), (121203, some (.cells [.int .i64 s, .int .i64 0, .int .i64 0, .int .u32 0])), (121204, some (.rows (.pair (.int .i64) (.pair (.int .i64) (.pair (.int .i64) (.int .u32)))) x4059))]) ?_ ?_
                          · refine TC_cond rfl (fun hb => ?_) (fun hb => ?_)
                            · replace h3 := bif_t h3 hb
                              refine TC_reg ?_
                              refine TL_ev env 2 rfl ⟨tv, ⟨⟨tv, tv⟩, tv⟩⟩ ?_
                              refine TL_end ?_
                              obtain rfl := sinj h3
                              refine tsn ?_
                              exact SP_ren [(121200, 120400), (121201, 120401), (121202, 120402), (121203, 1035), (121204, 120403)] _ rfl ⟨rfl, rfl, rfl, rfl, rfl, rfl, rfl, rfl, tv⟩ ⟨rfl, rfl, rfl, rfl, rfl, tv⟩ rfl
                            · replace h3 := bif_f h3 hb
                              refine TC_skip ?_
                              obtain rfl := sinj h3
                              refine tsn ?_
                              exact SP_ren [(121200, 120400), (121201, 120401), (121202, 120402), (121203, 1035), (121204, 120403)] _ rfl ⟨rfl, rfl, rfl, rfl, rfl, rfl, rfl, rfl, tv⟩ ⟨rfl, rfl, rfl, rfl, rfl, tv⟩ rfl
                          · rintro x4096 hz
                            obtain rfl := hz.symm
                            refine TE_go ?_
                            refine TC_seq ?_
                            refine TC_seq ?_
                            refine TC_reg ?_
                            refine TL_ev env 1 rfl ⟨tv, tv⟩ ?_
                            refine TL_end ?_
                            refine TE_go ?_
                            obtain ⟨z3, h3, h2⟩ := bnd h2
                            refine TC_cut (α := Int) (fun s => z3 = s) (fun s => [(25, .im (.slice (.int .i64)) r3581), (28, .p 121300 0), (29, .sl 121301), (30, .int .i64 x3855), (31, .p 121302 0), (32, .int .i64 x4056), (35, .p 121303 0)]) (fun s => [(121300, some (.cells [.int .i64 (Kd.nth (.int .i64) r3581 1), .int .i64 (Kd.nth (.int .i64) r3581 2), .int .i64 (Kd.nth (.int .i64) r3581 3), .int .i64 (Kd.nth (.int .i64) r3581 4), .int .u64 r4093, .bool r4094])), (121301, some (.rows (.pair (.int .i64) (.pair (.int .i64) (.pair (.slice (.int .i16)) (.pair (.slice (.int .u8)) (.pair (.slice (.int .u8)) (.slice (.pair (.int .i64) (.pair (.int .i64) (.pair (.int .i64) (.int .u32)))))))))) x3858)), (121302, some (.cells [.int .i64 4, .int .i64 0, .nils, .nils, .nils, .sl 121304])), (121303, some (.cells [.int .i64 x4096, .int .i64 s, .int .i64 0, .int .u32 0])), (121304, some (.rows (.pair (.int .i64) (.pair (.int .i64) (.pair (.int .i64) (.int .u32)))) x4059))]) ?_ ?_
                            · refine TC_cond rfl (fun hb => ?_) (fun hb => ?_)
                              · replace h3 := bif_t h3 hb
                                refine TC_reg ?_
                                refine TL_ev env 2 rfl ⟨tv, ⟨⟨tv, tv⟩, tv⟩⟩ ?_
                                refine TL_end ?_
                                obtain rfl := sinj h3
                                refine tsn ?_
                                exact SP_ren [(121300, 121200), (121301, 121201), (121302, 121202), (121303, 121203), (121304, 121204)] _ rfl ⟨rfl, rfl, rfl, rfl, rfl, rfl, rfl, tv⟩ ⟨rfl, rfl, rfl, rfl, rfl, tv⟩ rfl
                              · replace h3 := bif_f h3 hb
                                refine TC_skip ?_
                                obtain rfl := sinj h3
                                refine tsn ?_
                                exact SP_ren [(121300, 121200), (121301, 121201), (121302, 121202), (121303, 121203), (121304, 121204)] _ rfl ⟨rfl, rfl, rfl, rfl, rfl, rfl, rfl, tv⟩ ⟨rfl, rfl, rfl, rfl, rfl, tv⟩ rfl
                            · rintro x4097 hz
                              obtain rfl := hz.symm
                              refine TE_go ?_
                              refine TC_reg ?_
                              obtain ⟨g, h2⟩ := gd_t h2
                              refine TL_ev env 7 rfl ⟨tv, ⟨⟨tv, tv⟩, ⟨⟨tv, tv⟩, ⟨⟨tv, tv⟩, ⟨⟨⟨tv, ⟨tv, tv⟩⟩, g⟩, ⟨tv, ⟨⟨tv, tv⟩, tv⟩⟩⟩⟩⟩⟩⟩ ?_
                              refine TL_end ?_
                              refine tbn ?_
                              refine TE_go ?_
                              refine TC_reg ?_
                              refine TL_ev env 3 rfl ⟨tv, ⟨⟨tv, ⟨tv, tv⟩⟩, ⟨tv, tv⟩⟩⟩ ?_
                              refine TL_end ?_
                              refine tsn ?_
                              exact TE_nextr [(120400, 121300), (120401, 121301), (120402, 121302), (120403, 1265)] n (Nat.lt_succ_self n) (_, _, _, _) h2 ⟨rfl, rfl, rfl, rfl, rfl, rfl, tv⟩ ⟨rfl, rfl, rfl, rfl, tv⟩ rfl
                        · replace h2 := bif_f h2 hb
                          refine TC_exit ?_
                          refine tsx ?_
                          refine tsx ?_
                          refine tbe ?_
                          obtain rfl := sinj h2
                          refine tsn ?_
                          exact SP_ren [(119800, 120400), (119801, 120401), (119802, 120402), (119803, 120403)] (_, _, _) rfl ⟨rfl, rfl, rfl, rfl, rfl, tv⟩ ⟨rfl, rfl, rfl, rfl, tv⟩ rfl
                      · rintro ⟨x4034, x4035, x4036⟩ rfl
                        refine TE_go ?_
                        refine TC_reg ?_
                        refine TL_ev env 2 rfl ⟨tv, ⟨⟨tv, tv⟩, tv⟩⟩ ?_
                        refine TL_frz 119803 rfl ?_
                        obtain ⟨g, h1⟩ := gd_t h1
                        refine TL_ev env 3 rfl ⟨⟨tv, tv⟩, ⟨⟨⟨tv, ⟨tv, tv⟩⟩, g⟩, ⟨tv, tv⟩⟩⟩ ?_
                        refine TL_end ?_
                        refine tbn ?_
                        refine TE_go ?_
                        refine TC_reg ?_
                        refine TL_ev env 3 rfl ⟨tv, ⟨⟨tv, ⟨tv, tv⟩⟩, ⟨tv, tv⟩⟩⟩ ?_
                        refine TL_end ?_
                        refine tsn ?_
                        exact TE_nextr [(114900, 119800), (114901, 1270)] n (Nat.lt_succ_self n) (_, _, _, _) h1 ⟨rfl, rfl, rfl, rfl, tv⟩ ⟨rfl, rfl, tv⟩ rfl
                    · replace h1 := bif_f h1 hb
                      refine TC_exit ?_
                      refine tsx ?_
                      refine tsx ?_
                      refine tbe ?_
                      obtain rfl := sinj h1
                      refine tsn ?_
                      exact SP_ren [(112300, 114901)] _ rfl ⟨rfl, tv⟩ ⟨rfl, tv⟩ rfl
                  · rintro x3768 hz
                    obtain rfl := hz.symm
                    refine TE_go ?_
                    refine TC_seq ?_
                    refine TC_reg ?_
                    refine TL_ev env 3 rfl ⟨tv, ⟨tv, ⟨tv, tv⟩⟩⟩ ?_
                    refine TL_end ?_
                    refine TE_go ?_
                    refine TC_ret ?_
                    refine tbr ?_
                    refine tsr ?_
                    refine TE_frz 112300 rfl ?_
                    obtain rfl := sinj h0
                    exact TE_ret env rfl tv tv
            · replace h0 := bif_f h0 hb
              refine TC_seq ?_
              refine TC_reg ?_
              refine TL_ev env 2 rfl ⟨tv, ⟨tv, tv⟩⟩ ?_
              refine TL_end ?_
              refine TE_go ?_
              refine TC_ret ?_
              refine tbr ?_
              refine tsr ?_
              obtain rfl := sinj h0
              exact TE_ret env rfl tv tv
theorem psalteryref34_Line.ok0 {K : Nat} {p0 : ByteArray}  (h0 : psalteryref34_Line K p0 = some (.inl ())) : Fn Tryd.prog 19 [.str p0] [] (.tup [.nils, .bool false]) [] := psalteryref34_Line.ok h0
theorem psalteryref34_Line.ok1 {K : Nat} {p0 : ByteArray} {q0 : List ((Int × (Int × (List (Int) × (List (Int) × (List (Int) × List ((Int × (Int × (Int × Int))))))))))} (h0 : psalteryref34_Line K p0 = some (.inr q0)) : Fn Tryd.prog 19 [.str p0] [] (.tup [.im (.slice (.pair (.int .i64) (.pair (.int .i64) (.pair (.slice (.int .i16)) (.pair (.slice (.int .u8)) (.pair (.slice (.int .u8)) (.slice (.pair (.int .i64) (.pair (.int .i64) (.pair (.int .i64) (.int .u32))))))))))) q0, .bool true]) [] := psalteryref34_Line.ok h0
theorem psalteryref34_Line.fnb : fnb Tryd.prog 19 = true := fnb_of Tryd.func19 rfl
def psalteryref34_Parse.res (_p0 : ByteArray) : (Int × Int) ⊕ ((List ((Int × (Int × (List (Int) × (List (Int) × (List (Int) × List ((Int × (Int × (Int × Int)))))))))))) → MV
  | .inl (q0, q1) => .tup [.nils, .int .i64 q0, .int .i64 q1]
  | .inr q0 => .tup [.im (.slice (.pair (.int .i64) (.pair (.int .i64) (.pair (.slice (.int .i16)) (.pair (.slice (.int .u8)) (.pair (.slice (.int .u8)) (.slice (.pair (.int .i64) (.pair (.int .i64) (.pair (.int .i64) (.int .u32))))))))))) q0, .int .i64 0, .int .i64 0]
def psalteryref34_Parse.out (_p0 : ByteArray) : (Int × Int) ⊕ ((List ((Int × (Int × (List (Int) × (List (Int) × (List (Int) × List ((Int × (Int × (Int × Int)))))))))))) → List (Nat × Option MObj)
  | .inl (_, _) => []
  | .inr _ => []
theorem psalteryref34_Parse.ok {K : Nat} {p0 : ByteArray} {r : (Int × Int) ⊕ ((List ((Int × (Int × (List (Int) × (List (Int) × (List (Int) × List ((Int × (Int × (Int × Int))))))))))))} (h0 : psalteryref34_Parse K p0 = some r) : Fn Tryd.prog 8 [.str p0] [] (psalteryref34_Parse.res p0 r) (psalteryref34_Parse.out p0 r) := by
  refine Fn_of Tryd.func8 rfl (Nat.le_of_ble_eq_true rfl) fun Γ => ?_
  refine TC_seq ?_
  refine TC_reg ?_
  refine TL_ev env 3 rfl ⟨tv, ⟨tv, ⟨tv, tv⟩⟩⟩ ?_
  refine TL_end ?_
  refine TE_go ?_
  refine TC_seq ?_
  refine TC_seq ?_
  refine TC_reg ?_
  refine TL_ev env 3 rfl ⟨tv, ⟨⟨tv, tv⟩, ⟨⟨tv, ⟨tv, tv⟩⟩, tv⟩⟩⟩ ?_
  refine TL_end ?_
  refine TE_go ?_
  refine TC_cond rfl (fun hb => ?_) (fun hb => ?_)
  · replace h0 := bif_t h0 hb
    refine TC_seq ?_
    refine TC_reg ?_
    refine TL_ev env 3 rfl ⟨tv, ⟨tv, ⟨tv, tv⟩⟩⟩ ?_
    refine TL_end ?_
    refine TE_go ?_
    refine TC_ret ?_
    refine tsr ?_
    obtain rfl := sinj h0
    exact TE_ret env rfl tv tv
  · replace h0 := bif_f h0 hb
    refine TC_skip ?_
    refine TE_go ?_
    refine TC_seq ?_
    refine TC_reg ?_
    refine TL_ev env 1 rfl ⟨tv, tv⟩ ?_
    obtain ⟨r12, hr, h0⟩ := bnd h0
    refine TL_callB [] (psalteryref34_Cut.ok0 hr) psalteryref34_Cut.fnb rfl ⟨tv, ⟨tv, ⟨tv, tv⟩⟩⟩ rfl tv rfl ?_
    refine TL_ev env 1 rfl ⟨tv, tv⟩ ?_
    refine TL_end ?_
    refine TE_go ?_
    refine TC_seq ?_
    refine TC_reg ?_
    refine TL_ev env 1 rfl ⟨tv, tv⟩ ?_
    refine TL_end ?_
    refine TE_go ?_
    refine TC_seq ?_
    refine TC_seq ?_
    refine TC_reg ?_
    refine TL_ev env 1 rfl ⟨tv, tv⟩ ?_
    refine TL_end ?_
    refine TE_go ?_
    obtain ⟨z1, h1, h0⟩ := bnd h0
    refine TC_cut (α := (List ((Int × (Int × (List (Int) × (List (Int) × (List (Int) × List ((Int × (Int × (Int × Int)))))))))))) (fun s => z1 = .inl s) (fun s => [(5, .im (.slice (.str)) r12), (6, .sl 11200)]) (fun s => [(11200, some (.rows (.pair (.int .i64) (.pair (.int .i64) (.pair (.slice (.int .i16)) (.pair (.slice (.int .u8)) (.pair (.slice (.int .u8)) (.slice (.pair (.int .i64) (.pair (.int .i64) (.pair (.int .i64) (.int .u32)))))))))) s))]) ?_ ?_
    · refine TC_blk ?_
      refine TC_loop (α := Int × (List ((Int × (Int × (List (Int) × (List (Int) × (List (Int) × List ((Int × (Int × (Int × Int)))))))))))) (fun n s => psalteryref34_Parse.l0 K r12 n s.1 s.2 = some z1) (fun s => [(5, .im (.slice (.str)) r12), (6, .sl 11500), (7, .int .i64 s.1)]) (fun s => [(11500, some (.rows (.pair (.int .i64) (.pair (.int .i64) (.pair (.slice (.int .i16)) (.pair (.slice (.int .u8)) (.pair (.slice (.int .u8)) (.slice (.pair (.int .i64) (.pair (.int .i64) (.pair (.int .i64) (.int .u32)))))))))) s.2))]) K ?_ ?_
      · refine TE_own 6 7006 (.pair (.int .i64) (.pair (.int .i64) (.pair (.slice (.int .i16)) (.pair (.slice (.int .u8)) (.pair (.slice (.int .u8)) (.slice (.pair (.int .i64) (.pair (.int .i64) (.pair (.int .i64) (.int .u32)))))))))) rfl (by decide) rfl rfl ?_
        exact SP_ren [(11500, 7006)] (_, _) h1 ⟨rfl, rfl, rfl, tv⟩ ⟨rfl, tv⟩ rfl
      rintro n ⟨x27, x28⟩ h1
      rcases n with _ | n
      · exact (nsome h1).elim
      replace h1 : psalteryref34_Parse.r0 K r12 (psalteryref34_Parse.l0 K r12 n) x27 x28 = some z1 := h1
      refine TC_seq ?_
      refine TC_seq ?_
      refine TC_reg ?_
      refine TL_ev env 5 rfl ⟨tv, ⟨tv, ⟨⟨tv, tv⟩, ⟨⟨tv, ⟨tv, tv⟩⟩, ⟨⟨tv, ⟨tv, tv⟩⟩, tv⟩⟩⟩⟩⟩ ?_
      refine TL_end ?_
      refine TE_go ?_
      refine TC_cond rfl (fun hb => ?_) (fun hb => ?_)
      · replace h1 := bif_t h1 hb
        refine TC_skip ?_
        refine TE_go ?_
        refine TC_seq ?_
        obtain ⟨z2, h2, h1⟩ := bnd h1
        refine TC_cut (α := (List ((Int × (Int × (List (Int) × (List (Int) × (List (Int) × List ((Int × (Int × (Int × Int)))))))))))) (fun s => z2 = .inl s) (fun s => [(5, .im (.slice (.str)) r12), (6, .sl 11800), (7, .int .i64 x27)]) (fun s => [(11800, some (.rows (.pair (.int .i64) (.pair (.int .i64) (.pair (.slice (.int .i16)) (.pair (.slice (.int .u8)) (.pair (.slice (.int .u8)) (.slice (.pair (.int .i64) (.pair (.int .i64) (.pair (.int .i64) (.int .u32)))))))))) s))]) ?_ ?_
        · refine TC_blk ?_
          refine TC_seq ?_
          refine TC_seq ?_
          refine TC_reg ?_
          obtain ⟨g, h2⟩ := gd_t h2
          refine TL_ev env 13 rfl ⟨tv, ⟨tv, ⟨⟨tv, ⟨tv, ⟨g.1, g.2.1⟩⟩⟩, ⟨⟨tv, tv⟩, ⟨⟨tv, ⟨tv, tv⟩⟩, ⟨tv, ⟨fun eg => tv, ⟨fun eg => tv, ⟨fun eg => ⟨fun e => e, ⟨fun e => e, ⟨(g.2.2.1 eg), (g.2.2.2.1 eg)⟩⟩⟩, ⟨fun eg => ⟨fun e => e, tv⟩, ⟨fun eg => ⟨fun e => e, ⟨tv, ⟨(by decide), (g.2.2.2.2 eg)⟩⟩⟩, ⟨fun eg => ⟨fun e => e, ⟨tv, tv⟩⟩, ⟨⟨tv, ⟨tv, fun e => e⟩⟩, tv⟩⟩⟩⟩⟩⟩⟩⟩⟩⟩⟩⟩⟩ ?_
          refine TL_end ?_
          refine TE_go ?_
          refine TC_cond rfl (fun hb => ?_) (fun hb => ?_)
          · replace h2 := bif_t h2 hb
            refine TC_exit ?_
            refine tsx ?_
            refine tbe ?_
            obtain rfl := sinj h2
            refine tsn ?_
            exact SP_ren [(11800, 11500)] _ rfl ⟨rfl, rfl, rfl, tv⟩ ⟨rfl, tv⟩ rfl
          · replace h2 := bif_f h2 hb
            refine TC_skip ?_
            refine TE_go ?_
            refine TC_seq ?_
            refine TC_reg ?_
            obtain ⟨g, h2⟩ := gd_t h2
            refine TL_ev env 4 rfl ⟨tv, ⟨tv, ⟨⟨tv, ⟨tv, ⟨g.1, g.2⟩⟩⟩, ⟨⟨tv, tv⟩, tv⟩⟩⟩⟩ ?_
            obtain ⟨z, hr, h2⟩ := bnd h2
            rcases z with ⟨⟩ | r42
            · refine TL_callB [] (psalteryref34_Line.ok0 hr) psalteryref34_Line.fnb rfl ⟨tv, ⟨tv, tv⟩⟩ rfl tv rfl ?_
              refine TL_ev env 5 rfl ⟨tv, ⟨tv, ⟨tv, ⟨tv, ⟨tv, tv⟩⟩⟩⟩⟩ ?_
              refine TL_end ?_
              refine TE_go ?_
              refine TC_seq ?_
              refine TC_reg ?_
              obtain ⟨g, h2⟩ := gd_t h2
              refine TL_ev env 4 rfl ⟨tv, ⟨tv, ⟨⟨⟨tv, ⟨tv, tv⟩⟩, g⟩, ⟨tv, tv⟩⟩⟩⟩ ?_
              refine TL_end ?_
              refine TE_go ?_
              refine TC_seq ?_
              refine TC_reg ?_
              refine TL_ev env 3 rfl ⟨tv, ⟨tv, ⟨tv, tv⟩⟩⟩ ?_
              refine TL_gf (.bool false) rfl rfl rfl rfl rfl (by decide) ?_
              refine TL_gf (.bool false) rfl rfl rfl rfl rfl (by decide) ?_
              refine TL_gf (.bool false) rfl rfl rfl rfl rfl (by decide) ?_
              refine TL_ev env 1 rfl ⟨⟨tv, ⟨tv, fun e => e⟩⟩, tv⟩ ?_
              refine TL_end ?_
              refine TE_go ?_
              refine TC_cond rfl (fun hb => ?_) (fun hb => ?_)
              · refine TC_seq ?_
                refine TC_reg ?_
                refine TL_ev env 5 rfl ⟨tv, ⟨⟨tv, ⟨tv, tv⟩⟩, ⟨tv, ⟨tv, ⟨tv, tv⟩⟩⟩⟩⟩ ?_
                refine TL_end ?_
                refine TE_go ?_
                refine TC_ret ?_
                refine tbr ?_
                refine tsr ?_
                refine tsr ?_
                refine tsr ?_
                refine tbr ?_
                refine tsr ?_
                refine tsr ?_
                obtain rfl := sinj h2
                obtain rfl := sinj h1
                obtain rfl := sinj h0
                exact TE_ret env rfl tv tv
              · first | exact (ftf hb).elim | exact (tff hb).elim | exact absurd hb (by decide)
            · refine TL_callB [] (psalteryref34_Line.ok1 hr) psalteryref34_Line.fnb rfl ⟨tv, ⟨tv, tv⟩⟩ rfl tv rfl ?_
              refine TL_ev env 5 rfl ⟨tv, ⟨tv, ⟨tv, ⟨tv, ⟨tv, tv⟩⟩⟩⟩⟩ ?_
              refine TL_end ?_
              refine TE_go ?_
              refine TC_seq ?_
              refine TC_reg ?_
              obtain ⟨g, h2⟩ := gd_t h2
              refine TL_ev env 4 rfl ⟨tv, ⟨tv, ⟨⟨⟨tv, ⟨tv, tv⟩⟩, g⟩, ⟨tv, tv⟩⟩⟩⟩ ?_
              refine TL_end ?_
              refine TE_go ?_
              refine TC_seq ?_
              refine TC_reg ?_
              refine TL_ev env 3 rfl ⟨tv, ⟨tv, ⟨tv, tv⟩⟩⟩ ?_
              refine TL_gt rfl rfl rfl rfl ?_
              refine TL_ev env 1 rfl ⟨tv, tv⟩ ?_
              refine TL_gt rfl rfl rfl rfl ?_
              refine TL_ev env 1 rfl ⟨⟨tv, tv⟩, tv⟩ ?_
              refine TL_gt rfl rfl rfl rfl ?_
              refine TL_ev env 2 rfl ⟨⟨tv, ⟨tv, tv⟩⟩, ⟨⟨tv, ⟨tv, tv⟩⟩, tv⟩⟩ ?_
              refine TL_end ?_
              refine TE_go ?_
              refine TC_cond rfl (fun hb => ?_) (fun hb => ?_)
              · replace h2 := bif_t h2 hb
                refine TC_seq ?_
                refine TC_reg ?_
                refine TL_ev env 5 rfl ⟨tv, ⟨⟨tv, ⟨tv, tv⟩⟩, ⟨tv, ⟨tv, ⟨tv, tv⟩⟩⟩⟩⟩ ?_
                refine TL_end ?_
                refine TE_go ?_
                refine TC_ret ?_
                refine tbr ?_
                refine tsr ?_
                refine tsr ?_
                refine tsr ?_
                refine tbr ?_
                refine tsr ?_
                refine tsr ?_
                obtain rfl := sinj h2
                obtain rfl := sinj h1
                obtain rfl := sinj h0
                exact TE_ret env rfl tv tv
              · replace h2 := bif_f h2 hb
                refine TC_skip ?_
                refine tbn ?_
                obtain rfl := sinj h2
                refine tsn ?_
                exact SP_ren [(11800, 1045)] _ rfl ⟨rfl, rfl, rfl, tv⟩ ⟨rfl, tv⟩ rfl
        · rintro x36 hz
          obtain rfl := hz.symm
          refine TE_go ?_
          refine TC_reg ?_
          refine TL_ev env 3 rfl ⟨tv, ⟨⟨tv, ⟨tv, tv⟩⟩, ⟨tv, tv⟩⟩⟩ ?_
          refine TL_end ?_
          refine tsn ?_
          exact TE_nextr [(11500, 11800)] n (Nat.lt_succ_self n) (_, _) h1 ⟨rfl, rfl, rfl, tv⟩ ⟨rfl, tv⟩ rfl
      · replace h1 := bif_f h1 hb
        refine TC_exit ?_
        refine tsx ?_
        refine tsx ?_
        refine tbe ?_
        obtain rfl := sinj h1
        refine tsn ?_
        exact SP_ren [(11200, 11500)] _ rfl ⟨rfl, rfl, tv⟩ ⟨rfl, tv⟩ rfl
    · rintro x21 hz
      obtain rfl := hz.symm
      refine TE_go ?_
      refine TC_seq ?_
      refine TC_seq ?_
      refine TC_reg ?_
      obtain ⟨g, h0⟩ := gd_t h0
      refine TL_ev env 7 rfl ⟨tv, ⟨tv, ⟨⟨tv, tv⟩, ⟨⟨tv, ⟨tv, tv⟩⟩, ⟨⟨tv, ⟨tv, ⟨g.1, g.2⟩⟩⟩, ⟨⟨tv, tv⟩, ⟨⟨tv, ⟨tv, tv⟩⟩, tv⟩⟩⟩⟩⟩⟩⟩ ?_
      refine TL_end ?_
      refine TE_go ?_
      refine TC_cond rfl (fun hb => ?_) (fun hb => ?_)
      · replace h0 := bif_t h0 hb
        refine TC_seq ?_
        refine TC_reg ?_
        refine TL_ev env 5 rfl ⟨tv, ⟨⟨tv, tv⟩, ⟨tv, ⟨tv, ⟨tv, tv⟩⟩⟩⟩⟩ ?_
        refine TL_end ?_
        refine TE_go ?_
        refine TC_ret ?_
        refine tsr ?_
        obtain rfl := sinj h0
        exact TE_ret env rfl tv tv
      · replace h0 := bif_f h0 hb
        refine TC_skip ?_
        refine TE_go ?_
        refine TC_seq ?_
        refine TC_reg ?_
        refine TL_ev env 4 rfl ⟨tv, ⟨tv, ⟨tv, ⟨tv, tv⟩⟩⟩⟩ ?_
        refine TL_end ?_
        refine TE_go ?_
        refine TC_ret ?_
        refine TE_frz 11200 rfl ?_
        obtain rfl := sinj h0
        exact TE_ret env rfl tv tv
theorem psalteryref34_Parse.ok0 {K : Nat} {p0 : ByteArray} {q0 : Int} {q1 : Int} (h0 : psalteryref34_Parse K p0 = some (.inl (q0, q1))) : Fn Tryd.prog 8 [.str p0] [] (.tup [.nils, .int .i64 q0, .int .i64 q1]) [] := psalteryref34_Parse.ok h0
theorem psalteryref34_Parse.ok1 {K : Nat} {p0 : ByteArray} {q0 : List ((Int × (Int × (List (Int) × (List (Int) × (List (Int) × List ((Int × (Int × (Int × Int))))))))))} (h0 : psalteryref34_Parse K p0 = some (.inr q0)) : Fn Tryd.prog 8 [.str p0] [] (.tup [.im (.slice (.pair (.int .i64) (.pair (.int .i64) (.pair (.slice (.int .i16)) (.pair (.slice (.int .u8)) (.pair (.slice (.int .u8)) (.slice (.pair (.int .i64) (.pair (.int .i64) (.pair (.int .i64) (.int .u32))))))))))) q0, .int .i64 0, .int .i64 0]) [] := psalteryref34_Parse.ok h0
theorem psalteryref34_Parse.fnb : fnb Tryd.prog 8 = true := fnb_of Tryd.func8 rfl
def psalterylaw34_to.res  : Unit → MV
  | () => .nils
def psalterylaw34_to.out  : Unit → List (Nat × Option MObj)
  | () => []
theorem psalterylaw34_to.ok {K : Nat}  {r : Unit} (h0 : psalterylaw34_to K  = some r) : Fn Tryd.prog 10 [.nils] [] (psalterylaw34_to.res  r) (psalterylaw34_to.out  r) := by
  refine Fn_of Tryd.func10 rfl (Nat.le_of_ble_eq_true rfl) fun Γ => ?_
  unfold psalterylaw34_to at h0
  refine TC_seq ?_
  refine TC_reg ?_
  refine TL_ev env 1 rfl ⟨tv, tv⟩ ?_
  refine TL_end ?_
  refine TE_go ?_
  refine TC_seq ?_
  refine TC_reg ?_
  refine TL_ev env 1 rfl ⟨tv, tv⟩ ?_
  refine TL_end ?_
  refine TE_go ?_
  refine TC_seq ?_
  refine TC_seq ?_
  refine TC_reg ?_
  refine TL_ev env 1 rfl ⟨tv, tv⟩ ?_
  refine TL_end ?_
  refine TE_go ?_
  obtain ⟨z1, h1, h0⟩ := bnd h0
  refine TC_cut (α := Unit) (fun _ => z1 = ()) (fun _ => [(3, .nils)]) (fun _ => []) ?_ ?_
  · refine TC_blk ?_
    refine TC_loop (α := Unit) (fun n _ => psalterylaw34_to.l0 K n = some z1) (fun _ => [(0, .nils), (3, .nils), (4, .int .i64 0)]) (fun _ => []) K ?_ ?_
    · exact SP_ren [] () h1 ⟨rfl, rfl, rfl, tv⟩ tv rfl
    rintro n ⟨⟩ h1
    rcases n with _ | n
    · exact (nsome h1).elim
    replace h1 : psalterylaw34_to.r0 K (psalterylaw34_to.l0 K n)  = some z1 := h1
    refine TC_seq ?_
    refine TC_seq ?_
    refine TC_reg ?_
    refine TL_ev env 4 rfl ⟨tv, ⟨tv, ⟨⟨tv, tv⟩, ⟨⟨tv, ⟨tv, tv⟩⟩, tv⟩⟩⟩⟩ ?_
    refine TL_end ?_
    refine TE_go ?_
    refine TC_cond rfl (fun hb => ?_) (fun hb => ?_)
    · first | exact (ftf hb).elim | exact (tff hb).elim | exact absurd hb (by decide)
    · refine TC_exit ?_
      refine tsx ?_
      refine tsx ?_
      refine tbe ?_
      obtain rfl := sinj h1
      refine tsn ?_
      exact SP_ren [] () rfl ⟨rfl, tv⟩ tv rfl
  · rintro ⟨⟩ rfl
    refine TE_go ?_
    refine TC_seq ?_
    refine TC_reg ?_
    refine TL_ev env 2 rfl ⟨tv, ⟨tv, tv⟩⟩ ?_
    refine TL_end ?_
    refine TE_go ?_
    refine TC_ret ?_
    obtain rfl := sinj h0
    exact TE_ret env rfl tv tv
theorem psalterylaw34_to.ok0 {K : Nat}   (h0 : psalterylaw34_to K  = some ()) : Fn Tryd.prog 10 [.nils] [] (.nils) [] := psalterylaw34_to.ok h0
theorem psalterylaw34_to.fnb : fnb Tryd.prog 10 = true := fnb_of Tryd.func10 rfl
def psalteryref34_Same.res  : Unit → MV
  | () => .bool true
def psalteryref34_Same.out  : Unit → List (Nat × Option MObj)
  | () => []
theorem psalteryref34_Same.ok {K : Nat}  {r : Unit} (h0 : psalteryref34_Same K  = some r) : Fn Tryd.prog 9 [.nils, .nils] [] (psalteryref34_Same.res  r) (psalteryref34_Same.out  r) := by
  refine Fn_of Tryd.func9 rfl (Nat.le_of_ble_eq_true rfl) fun Γ => ?_
  unfold psalteryref34_Same at h0
  refine TC_seq ?_
  refine TC_reg ?_
  refine TL_ev env 1 rfl ⟨tv, tv⟩ ?_
  refine TL_end ?_
  refine TE_go ?_
  refine TC_seq ?_
  refine TC_seq ?_
  refine TC_reg ?_
  refine TL_ev env 5 rfl ⟨tv, ⟨⟨tv, tv⟩, ⟨tv, ⟨⟨tv, tv⟩, ⟨⟨tv, ⟨tv, tv⟩⟩, tv⟩⟩⟩⟩⟩ ?_
  refine TL_end ?_
  refine TE_go ?_
  refine TC_cond rfl (fun hb => ?_) (fun hb => ?_)
  · first | exact (ftf hb).elim | exact (tff hb).elim | exact absurd hb (by decide)
  · refine TC_skip ?_
    refine TE_go ?_
    refine TC_seq ?_
    refine TC_seq ?_
    refine TC_reg ?_
    refine TL_ev env 1 rfl ⟨tv, tv⟩ ?_
    refine TL_end ?_
    refine TE_go ?_
    obtain ⟨z1, h1, h0⟩ := bnd h0
    refine TC_cut (α := Unit) (fun _ => z1 = ()) (fun _ => []) (fun _ => []) ?_ ?_
    · refine TC_blk ?_
      refine TC_loop (α := Unit) (fun n _ => psalteryref34_Same.l0 K n = some z1) (fun _ => [(0, .nils), (1, .nils), (5, .int .i64 0)]) (fun _ => []) K ?_ ?_
      · exact SP_ren [] () h1 ⟨rfl, rfl, rfl, tv⟩ tv rfl
      rintro n ⟨⟩ h1
      rcases n with _ | n
      · exact (nsome h1).elim
      replace h1 : psalteryref34_Same.r0 K (psalteryref34_Same.l0 K n)  = some z1 := h1
      refine TC_seq ?_
      refine TC_seq ?_
      refine TC_reg ?_
      refine TL_ev env 4 rfl ⟨tv, ⟨tv, ⟨⟨tv, tv⟩, ⟨⟨tv, ⟨tv, tv⟩⟩, tv⟩⟩⟩⟩ ?_
      refine TL_end ?_
      refine TE_go ?_
      refine TC_cond rfl (fun hb => ?_) (fun hb => ?_)
      · first | exact (ftf hb).elim | exact (tff hb).elim | exact absurd hb (by decide)
      · refine TC_exit ?_
        refine tsx ?_
        refine tsx ?_
        refine tbe ?_
        obtain rfl := sinj h1
        refine tsn ?_
        exact SP_ren [] () rfl tv tv rfl
    · rintro ⟨⟩ rfl
      refine TE_go ?_
      refine TC_seq ?_
      refine TC_reg ?_
      refine TL_ev env 1 rfl ⟨tv, tv⟩ ?_
      refine TL_end ?_
      refine TE_go ?_
      refine TC_ret ?_
      obtain rfl := sinj h0
      exact TE_ret env rfl tv tv
theorem psalteryref34_Same.ok0 {K : Nat}   (h0 : psalteryref34_Same K  = some ()) : Fn Tryd.prog 9 [.nils, .nils] [] (.bool true) [] := psalteryref34_Same.ok h0
theorem psalteryref34_Same.fnb : fnb Tryd.prog 9 = true := fnb_of Tryd.func9 rfl
def psalteryref34_Same_2.res (_p0 : List ((Int × (Int × (List (Int) × (List (Int) × (List (Int) × List ((Int × (Int × (Int × Int))))))))))) : Bool → MV
  | q0 => .bool q0
def psalteryref34_Same_2.out (_p0 : List ((Int × (Int × (List (Int) × (List (Int) × (List (Int) × List ((Int × (Int × (Int × Int))))))))))) : Bool → List (Nat × Option MObj)
  | _ => []
theorem psalteryref34_Same_2.ok {K : Nat} {p0 : List ((Int × (Int × (List (Int) × (List (Int) × (List (Int) × List ((Int × (Int × (Int × Int))))))))))} {r : Bool} (h0 : psalteryref34_Same_2 K p0 = some r) : Fn Tryd.prog 9 [.nils, .im (.slice (.pair (.int .i64) (.pair (.int .i64) (.pair (.slice (.int .i16)) (.pair (.slice (.int .u8)) (.pair (.slice (.int .u8)) (.slice (.pair (.int .i64) (.pair (.int .i64) (.pair (.int .i64) (.int .u32))))))))))) p0] [] (psalteryref34_Same_2.res p0 r) (psalteryref34_Same_2.out p0 r) := by
  refine Fn_of Tryd.func9 rfl (Nat.le_of_ble_eq_true rfl) fun Γ => ?_
  refine TC_seq ?_
  refine TC_reg ?_
  refine TL_ev env 1 rfl ⟨tv, tv⟩ ?_
  refine TL_end ?_
  refine TE_go ?_
  refine TC_seq ?_
  refine TC_seq ?_
  refine TC_reg ?_
  refine TL_ev env 5 rfl ⟨tv, ⟨⟨tv, tv⟩, ⟨tv, ⟨⟨tv, tv⟩, ⟨⟨tv, ⟨tv, tv⟩⟩, tv⟩⟩⟩⟩⟩ ?_
  refine TL_end ?_
  refine TE_go ?_
  refine TC_cond rfl (fun hb => ?_) (fun hb => ?_)
  · replace h0 := bif_t h0 hb
    refine TC_seq ?_
    refine TC_reg ?_
    refine TL_ev env 1 rfl ⟨tv, tv⟩ ?_
    refine TL_end ?_
    refine TE_go ?_
    refine TC_ret ?_
    refine tsr ?_
    obtain rfl := sinj h0
    exact TE_ret env rfl tv tv
  · replace h0 := bif_f h0 hb
    refine TC_skip ?_
    refine TE_go ?_
    refine TC_seq ?_
    refine TC_seq ?_
    refine TC_reg ?_
    refine TL_ev env 1 rfl ⟨tv, tv⟩ ?_
    refine TL_end ?_
    refine TE_go ?_
    obtain ⟨z1, h1, h0⟩ := bnd h0
    refine TC_cut (α := Unit) (fun _ => z1 = ()) (fun _ => []) (fun _ => []) ?_ ?_
    · refine TC_blk ?_
      refine TC_loop (α := Unit) (fun n _ => psalteryref34_Same_2.l0 K p0 n = some z1) (fun _ => [(0, .nils), (1, .im (.slice (.pair (.int .i64) (.pair (.int .i64) (.pair (.slice (.int .i16)) (.pair (.slice (.int .u8)) (.pair (.slice (.int .u8)) (.slice (.pair (.int .i64) (.pair (.int .i64) (.pair (.int .i64) (.int .u32))))))))))) p0), (5, .int .i64 0)]) (fun _ => []) K ?_ ?_
      · exact SP_ren [] () h1 ⟨rfl, rfl, rfl, tv⟩ tv rfl
      rintro n ⟨⟩ h1
      rcases n with _ | n
      · exact (nsome h1).elim
      replace h1 : psalteryref34_Same_2.r0 K p0 (psalteryref34_Same_2.l0 K p0 n)  = some z1 := h1
      refine TC_seq ?_
      refine TC_seq ?_
      refine TC_reg ?_
      refine TL_ev env 4 rfl ⟨tv, ⟨tv, ⟨⟨tv, tv⟩, ⟨⟨tv, ⟨tv, tv⟩⟩, tv⟩⟩⟩⟩ ?_
      refine TL_end ?_
      refine TE_go ?_
      refine TC_cond rfl (fun hb => ?_) (fun hb => ?_)
      · first | exact (ftf hb).elim | exact (tff hb).elim | exact absurd hb (by decide)
      · refine TC_exit ?_
        refine tsx ?_
        refine tsx ?_
        refine tbe ?_
        obtain rfl := sinj h1
        refine tsn ?_
        exact SP_ren [] () rfl tv tv rfl
    · rintro ⟨⟩ rfl
      refine TE_go ?_
      refine TC_seq ?_
      refine TC_reg ?_
      refine TL_ev env 1 rfl ⟨tv, tv⟩ ?_
      refine TL_end ?_
      refine TE_go ?_
      refine TC_ret ?_
      obtain rfl := sinj h0
      exact TE_ret env rfl tv tv
theorem psalteryref34_Same_2.ok0 {K : Nat} {p0 : List ((Int × (Int × (List (Int) × (List (Int) × (List (Int) × List ((Int × (Int × (Int × Int))))))))))} {q0 : Bool} (h0 : psalteryref34_Same_2 K p0 = some q0) : Fn Tryd.prog 9 [.nils, .im (.slice (.pair (.int .i64) (.pair (.int .i64) (.pair (.slice (.int .i16)) (.pair (.slice (.int .u8)) (.pair (.slice (.int .u8)) (.slice (.pair (.int .i64) (.pair (.int .i64) (.pair (.int .i64) (.int .u32))))))))))) p0] [] (.bool q0) [] := psalteryref34_Same_2.ok h0
theorem psalteryref34_Same_2.fnb : fnb Tryd.prog 9 = true := fnb_of Tryd.func9 rfl
def psalterylaw34_to_2.res (_p0 : List ((Int × (Int × (List (Int) × (List (Int) × (List (Int) × List ((Int × (Int × (Int × Int))))))))))) : (List ((Int × (Int × (List (Int) × (List (Int) × (List (Int) × List ((Int × (Int × (Int × Int))))))))))) → MV
  | q0 => .im (.slice (.pair (.int .i64) (.pair (.int .i64) (.pair (.slice (.int .i16)) (.pair (.slice (.int .u8)) (.pair (.slice (.int .u8)) (.slice (.pair (.int .i64) (.pair (.int .i64) (.pair (.int .i64) (.int .u32))))))))))) q0
def psalterylaw34_to_2.out (_p0 : List ((Int × (Int × (List (Int) × (List (Int) × (List (Int) × List ((Int × (Int × (Int × Int))))))))))) : (List ((Int × (Int × (List (Int) × (List (Int) × (List (Int) × List ((Int × (Int × (Int × Int))))))))))) → List (Nat × Option MObj)
  | _ => []
theorem psalterylaw34_to_2.ok {K : Nat} {p0 : List ((Int × (Int × (List (Int) × (List (Int) × (List (Int) × List ((Int × (Int × (Int × Int))))))))))} {r : (List ((Int × (Int × (List (Int) × (List (Int) × (List (Int) × List ((Int × (Int × (Int × Int)))))))))))} (h0 : psalterylaw34_to_2 K p0 = some r) : Fn Tryd.prog 10 [.im (.slice (.pair (.int .i64) (.pair (.int .i64) (.pair (.slice (.int .i16)) (.pair (.slice (.int .u8)) (.pair (.slice (.int .u8)) (.slice (.pair (.int .i64) (.pair (.int .i64) (.pair (.int .i64) (.int .u32))))))))))) p0] [] (psalterylaw34_to_2.res p0 r) (psalterylaw34_to_2.out p0 r) := by
  refine Fn_of Tryd.func10 rfl (Nat.le_of_ble_eq_true rfl) fun Γ => ?_
  refine TC_seq ?_
  refine TC_reg ?_
  refine TL_ev env 1 rfl ⟨tv, tv⟩ ?_
  refine TL_end ?_
  refine TE_go ?_
  refine TC_seq ?_
  refine TC_reg ?_
  refine TL_ev env 1 rfl ⟨tv, tv⟩ ?_
  refine TL_end ?_
  refine TE_go ?_
  refine TC_seq ?_
  refine TC_seq ?_
  refine TC_reg ?_
  refine TL_ev env 1 rfl ⟨tv, tv⟩ ?_
  refine TL_end ?_
  refine TE_go ?_
  obtain ⟨z1, h1, h0⟩ := bnd h0
  refine TC_cut (α := (List ((Int × (Int × (List (Int) × (List (Int) × (List (Int) × List ((Int × (Int × (Int × Int)))))))))))) (fun s => z1 = s) (fun s => [(3, .sl 14000)]) (fun s => [(14000, some (.rows (.pair (.int .i64) (.pair (.int .i64) (.pair (.slice (.int .i16)) (.pair (.slice (.int .u8)) (.pair (.slice (.int .u8)) (.slice (.pair (.int .i64) (.pair (.int .i64) (.pair (.int .i64) (.int .u32)))))))))) s))]) ?_ ?_
  · refine TC_blk ?_
    refine TC_loop (α := Int × (List ((Int × (Int × (List (Int) × (List (Int) × (List (Int) × List ((Int × (Int × (Int × Int)))))))))))) (fun n s => psalterylaw34_to_2.l0 K p0 n s.1 s.2 = some z1) (fun s => [(0, .im (.slice (.pair (.int .i64) (.pair (.int .i64) (.pair (.slice (.int .i16)) (.pair (.slice (.int .u8)) (.pair (.slice (.int .u8)) (.slice (.pair (.int .i64) (.pair (.int .i64) (.pair (.int .i64) (.int .u32))))))))))) p0), (3, .sl 15000), (4, .int .i64 s.1)]) (fun s => [(15000, some (.rows (.pair (.int .i64) (.pair (.int .i64) (.pair (.slice (.int .i16)) (.pair (.slice (.int .u8)) (.pair (.slice (.int .u8)) (.slice (.pair (.int .i64) (.pair (.int .i64) (.pair (.int .i64) (.int .u32)))))))))) s.2))]) K ?_ ?_
    · refine TE_own 3 7003 (.pair (.int .i64) (.pair (.int .i64) (.pair (.slice (.int .i16)) (.pair (.slice (.int .u8)) (.pair (.slice (.int .u8)) (.slice (.pair (.int .i64) (.pair (.int .i64) (.pair (.int .i64) (.int .u32)))))))))) rfl (by decide) rfl rfl ?_
      exact SP_ren [(15000, 7003)] (_, _) h1 ⟨rfl, rfl, rfl, tv⟩ ⟨rfl, tv⟩ rfl
    rintro n ⟨x61, x62⟩ h1
    rcases n with _ | n
    · exact (nsome h1).elim
    replace h1 : psalterylaw34_to_2.r0 K p0 (psalterylaw34_to_2.l0 K p0 n) x61 x62 = some z1 := h1
    refine TC_seq ?_
    refine TC_seq ?_
    refine TC_reg ?_
    refine TL_ev env 4 rfl ⟨tv, ⟨tv, ⟨⟨tv, tv⟩, ⟨⟨tv, ⟨tv, tv⟩⟩, tv⟩⟩⟩⟩ ?_
    refine TL_end ?_
    refine TE_go ?_
    refine TC_cond rfl (fun hb => ?_) (fun hb => ?_)
    · replace h1 := bif_t h1 hb
      refine TC_skip ?_
      refine TE_go ?_
      refine TC_seq ?_
      refine TC_blk ?_
      refine TC_seq ?_
      refine TC_renw (A' := [(0, .im (.slice (.pair (.int .i64) (.pair (.int .i64) (.pair (.slice (.int .i16)) (.pair (.slice (.int .u8)) (.pair (.slice (.int .u8)) (.slice (.pair (.int .i64) (.pair (.int .i64) (.pair (.int .i64) (.int .u32))))))))))) _), (3, .sl 15000), (4, .int .i64 _)]) (L' := [(15000, some (.rows (.pair (.int .i64) (.pair (.int .i64) (.pair (.slice (.int .i16)) (.pair (.slice (.int .u8)) (.pair (.slice (.int .u8)) (.slice (.pair (.int .i64) (.pair (.int .i64) (.pair (.int .i64) (.int .u32)))))))))) _))]) [] ⟨rfl, rfl, rfl, tv⟩ ⟨rfl, tv⟩ rfl ?_
      refine TC_drawR ⟨_, fun i => ([[], [], [1, 0], [2, 1, 0], [3, 2, 1, 0], [], [], [6, 5], [7, 6, 5], [8, 7, 6, 5], [], [], [11, 10], [12, 11, 10], [13, 12, 11, 10], [], [], [16, 15], [17, 16, 15], [18, 17, 16, 15], [], [], [21, 20], [22, 21, 20], [23, 22, 21, 20], [24, 23, 22, 21, 20, 19, 18, 17, 16, 15, 14, 13, 12, 11, 10, 9, 8, 7, 6, 5, 4, 3, 2, 1, 0], [], [26, 25, 24, 23, 22, 21, 20, 19, 18, 17, 16, 15, 14, 13, 12, 11, 10, 9, 8, 7, 6, 5, 4, 3, 2, 1, 0]] : List (List Nat)).getD i [], fun i => ([[], [], [], [], [], [], [], [], [], [], [], [], [], [], [], [], [], [], [], [], [], [], [], [], [], [], [1005], [1005]] : List (List Nat)).getD i [], fun i => ([[], [], [], [], [], [], [], [], [], [], [], [], [], [], [], [], [], [], [], [], [], [], [], [], [], [], [1005], []] : List (List Nat)).getD i []⟩ (fun i => ([[1005], [1005], [1005], [1005], [1005], [1005], [1005], [1005], [1005], [1005], [1005], [1005], [1005], [1005], [1005], [1005], [1005], [1005], [1005], [1005], [1005], [1005], [1005], [1005], [1005], [1005], [], []] : List (List Nat)).getD i []) (by kernel_rfl) (by kernel_rfl) ?_
      refine AJR_ev env 1 rfl (Nat.le_of_ble_eq_true rfl) rfl tv ?_
      refine AJR_ev env 2 rfl (Nat.le_of_ble_eq_true rfl) rfl tv ?_
      obtain ⟨g, h1⟩ := gd_t h1
      refine AJR_ev env 3 rfl (Nat.le_of_ble_eq_true rfl) rfl ⟨tv, ⟨tv, ⟨g.1, g.2⟩⟩⟩ ?_
      refine AJR_ev env 4 rfl (Nat.le_of_ble_eq_true rfl) rfl tv ?_
      refine AJR_ev env 5 rfl (Nat.le_of_ble_eq_true rfl) rfl ⟨tv, tv⟩ ?_
      refine AJR_ev env 6 rfl (Nat.le_of_ble_eq_true rfl) rfl tv ?_
      refine AJR_ev env 7 rfl (Nat.le_of_ble_eq_true rfl) rfl tv ?_
      obtain ⟨g, h1⟩ := gd_t h1
      refine AJR_ev env 8 rfl (Nat.le_of_ble_eq_true rfl) rfl ⟨tv, ⟨tv, ⟨g.1, g.2⟩⟩⟩ ?_
      refine AJR_ev env 9 rfl (Nat.le_of_ble_eq_true rfl) rfl tv ?_
      refine AJR_ev env 10 rfl (Nat.le_of_ble_eq_true rfl) rfl ⟨tv, tv⟩ ?_
      refine AJR_ev env 11 rfl (Nat.le_of_ble_eq_true rfl) rfl tv ?_
      refine AJR_ev env 12 rfl (Nat.le_of_ble_eq_true rfl) rfl tv ?_
      obtain ⟨g, h1⟩ := gd_t h1
      refine AJR_ev env 13 rfl (Nat.le_of_ble_eq_true rfl) rfl ⟨tv, ⟨tv, ⟨g.1, g.2⟩⟩⟩ ?_
      refine AJR_ev env 14 rfl (Nat.le_of_ble_eq_true rfl) rfl tv ?_
      refine AJR_ev env 15 rfl (Nat.le_of_ble_eq_true rfl) rfl ⟨tv, tv⟩ ?_
      refine AJR_ev env 16 rfl (Nat.le_of_ble_eq_true rfl) rfl tv ?_
      refine AJR_ev env 17 rfl (Nat.le_of_ble_eq_true rfl) rfl tv ?_
      obtain ⟨g, h1⟩ := gd_t h1
      refine AJR_ev env 18 rfl (Nat.le_of_ble_eq_true rfl) rfl ⟨tv, ⟨tv, ⟨g.1, g.2⟩⟩⟩ ?_
      refine AJR_ev env 19 rfl (Nat.le_of_ble_eq_true rfl) rfl tv ?_
      refine AJR_ev env 20 rfl (Nat.le_of_ble_eq_true rfl) rfl ⟨tv, tv⟩ ?_
      refine AJR_ev env 21 rfl (Nat.le_of_ble_eq_true rfl) rfl tv ?_
      refine AJR_ev env 22 rfl (Nat.le_of_ble_eq_true rfl) rfl tv ?_
      obtain ⟨g, h1⟩ := gd_t h1
      refine AJR_ev env 23 rfl (Nat.le_of_ble_eq_true rfl) rfl ⟨tv, ⟨tv, ⟨g.1, g.2⟩⟩⟩ ?_
      refine AJR_ev env 24 rfl (Nat.le_of_ble_eq_true rfl) rfl tv ?_
      refine AJR_ev env 25 rfl (Nat.le_of_ble_eq_true rfl) rfl ⟨tv, tv⟩ ?_
      refine AJR_ev env 26 rfl (Nat.le_of_ble_eq_true rfl) rfl ⟨tv, ⟨tv, ⟨tv, ⟨tv, ⟨tv, tv⟩⟩⟩⟩⟩ ?_
      refine AJR_ev env 27 rfl (Nat.le_of_ble_eq_true rfl) rfl tv ?_
      refine AJR_ev env 28 rfl (Nat.le_of_ble_eq_true rfl) rfl ⟨tv, tv⟩ ?_
      refine AJR_end rfl rfl rfl ?_
      refine TE_go ?_
      refine TC_seq ?_
      refine TC_seq ?_
      refine TC_reg ?_
      refine TL_ev env 1 rfl ⟨tv, tv⟩ ?_
      refine TL_end ?_
      refine TE_go ?_
      obtain ⟨z2, h2, h1⟩ := bnd h1
      refine TC_cut (α := (List ((Int × (Int × (Int × Int)))))) (fun s => z2 = s) (fun s => [(0, .im (.slice (.pair (.int .i64) (.pair (.int .i64) (.pair (.slice (.int .i16)) (.pair (.slice (.int .u8)) (.pair (.slice (.int .u8)) (.slice (.pair (.int .i64) (.pair (.int .i64) (.pair (.int .i64) (.int .u32))))))))))) p0), (3, .sl 16700), (4, .int .i64 x61), (5, .p 16701 0)]) (fun s => [(16700, some (.rows (.pair (.int .i64) (.pair (.int .i64) (.pair (.slice (.int .i16)) (.pair (.slice (.int .u8)) (.pair (.slice (.int .u8)) (.slice (.pair (.int .i64) (.pair (.int .i64) (.pair (.int .i64) (.int .u32)))))))))) x62)), (16701, some (.cells [.int .i64 (Kd.nth (.pair (.int .i64) (.pair (.int .i64) (.pair (.slice (.int .i16)) (.pair (.slice (.int .u8)) (.pair (.slice (.int .u8)) (.slice (.pair (.int .i64) (.pair (.int .i64) (.pair (.int .i64) (.int .u32)))))))))) p0 (Int.toNat x61)).1, .int .i64 (Kd.nth (.pair (.int .i64) (.pair (.int .i64) (.pair (.slice (.int .i16)) (.pair (.slice (.int .u8)) (.pair (.slice (.int .u8)) (.slice (.pair (.int .i64) (.pair (.int .i64) (.pair (.int .i64) (.int .u32)))))))))) p0 (Int.toNat x61)).2.1, .im (.slice (.int .i16)) (Kd.nth (.pair (.int .i64) (.pair (.int .i64) (.pair (.slice (.int .i16)) (.pair (.slice (.int .u8)) (.pair (.slice (.int .u8)) (.slice (.pair (.int .i64) (.pair (.int .i64) (.pair (.int .i64) (.int .u32)))))))))) p0 (Int.toNat x61)).2.2.1, .im (.slice (.int .u8)) (Kd.nth (.pair (.int .i64) (.pair (.int .i64) (.pair (.slice (.int .i16)) (.pair (.slice (.int .u8)) (.pair (.slice (.int .u8)) (.slice (.pair (.int .i64) (.pair (.int .i64) (.pair (.int .i64) (.int .u32)))))))))) p0 (Int.toNat x61)).2.2.2.1, .im (.slice (.int .u8)) (Kd.nth (.pair (.int .i64) (.pair (.int .i64) (.pair (.slice (.int .i16)) (.pair (.slice (.int .u8)) (.pair (.slice (.int .u8)) (.slice (.pair (.int .i64) (.pair (.int .i64) (.pair (.int .i64) (.int .u32)))))))))) p0 (Int.toNat x61)).2.2.2.2.1, .sl 16702])), (16702, some (.rows (.pair (.int .i64) (.pair (.int .i64) (.pair (.int .i64) (.int .u32)))) s))]) ?_ ?_
      · refine TC_blk ?_
        refine TC_loop (α := Int × (List ((Int × (Int × (Int × Int)))))) (fun n s => psalterylaw34_to_2.l1 K p0 x61 x62 ((Kd.nth (.pair (.int .i64) (.pair (.int .i64) (.pair (.slice (.int .i16)) (.pair (.slice (.int .u8)) (.pair (.slice (.int .u8)) (.slice (.pair (.int .i64) (.pair (.int .i64) (.pair (.int .i64) (.int .u32)))))))))) p0 (Int.toNat x61)).1) ((Kd.nth (.pair (.int .i64) (.pair (.int .i64) (.pair (.slice (.int .i16)) (.pair (.slice (.int .u8)) (.pair (.slice (.int .u8)) (.slice (.pair (.int .i64) (.pair (.int .i64) (.pair (.int .i64) (.int .u32)))))))))) p0 (Int.toNat x61)).2.1) ((Kd.nth (.pair (.int .i64) (.pair (.int .i64) (.pair (.slice (.int .i16)) (.pair (.slice (.int .u8)) (.pair (.slice (.int .u8)) (.slice (.pair (.int .i64) (.pair (.int .i64) (.pair (.int .i64) (.int .u32)))))))))) p0 (Int.toNat x61)).2.2.1) ((Kd.nth (.pair (.int .i64) (.pair (.int .i64) (.pair (.slice (.int .i16)) (.pair (.slice (.int .u8)) (.pair (.slice (.int .u8)) (.slice (.pair (.int .i64) (.pair (.int .i64) (.pair (.int .i64) (.int .u32)))))))))) p0 (Int.toNat x61)).2.2.2.1) ((Kd.nth (.pair (.int .i64) (.pair (.int .i64) (.pair (.slice (.int .i16)) (.pair (.slice (.int .u8)) (.pair (.slice (.int .u8)) (.slice (.pair (.int .i64) (.pair (.int .i64) (.pair (.int .i64) (.int .u32)))))))))) p0 (Int.toNat x61)).2.2.2.2.1) n s.1 s.2 = some z2) (fun s => [(0, .im (.slice (.pair (.int .i64) (.pair (.int .i64) (.pair (.slice (.int .i16)) (.pair (.slice (.int .u8)) (.pair (.slice (.int .u8)) (.slice (.pair (.int .i64) (.pair (.int .i64) (.pair (.int .i64) (.int .u32))))))))))) p0), (3, .sl 16900), (4, .int .i64 x61), (5, .p 16901 0), (6, .int .i64 s.1)]) (fun s => [(16900, some (.rows (.pair (.int .i64) (.pair (.int .i64) (.pair (.slice (.int .i16)) (.pair (.slice (.int .u8)) (.pair (.slice (.int .u8)) (.slice (.pair (.int .i64) (.pair (.int .i64) (.pair (.int .i64) (.int .u32)))))))))) x62)), (16901, some (.cells [.int .i64 (Kd.nth (.pair (.int .i64) (.pair (.int .i64) (.pair (.slice (.int .i16)) (.pair (.slice (.int .u8)) (.pair (.slice (.int .u8)) (.slice (.pair (.int .i64) (.pair (.int .i64) (.pair (.int .i64) (.int .u32)))))))))) p0 (Int.toNat x61)).1, .int .i64 (Kd.nth (.pair (.int .i64) (.pair (.int .i64) (.pair (.slice (.int .i16)) (.pair (.slice (.int .u8)) (.pair (.slice (.int .u8)) (.slice (.pair (.int .i64) (.pair (.int .i64) (.pair (.int .i64) (.int .u32)))))))))) p0 (Int.toNat x61)).2.1, .im (.slice (.int .i16)) (Kd.nth (.pair (.int .i64) (.pair (.int .i64) (.pair (.slice (.int .i16)) (.pair (.slice (.int .u8)) (.pair (.slice (.int .u8)) (.slice (.pair (.int .i64) (.pair (.int .i64) (.pair (.int .i64) (.int .u32)))))))))) p0 (Int.toNat x61)).2.2.1, .im (.slice (.int .u8)) (Kd.nth (.pair (.int .i64) (.pair (.int .i64) (.pair (.slice (.int .i16)) (.pair (.slice (.int .u8)) (.pair (.slice (.int .u8)) (.slice (.pair (.int .i64) (.pair (.int .i64) (.pair (.int .i64) (.int .u32)))))))))) p0 (Int.toNat x61)).2.2.2.1, .im (.slice (.int .u8)) (Kd.nth (.pair (.int .i64) (.pair (.int .i64) (.pair (.slice (.int .i16)) (.pair (.slice (.int .u8)) (.pair (.slice (.int .u8)) (.slice (.pair (.int .i64) (.pair (.int .i64) (.pair (.int .i64) (.int .u32)))))))))) p0 (Int.toNat x61)).2.2.2.2.1, .sl 16902])), (16902, some (.rows (.pair (.int .i64) (.pair (.int .i64) (.pair (.int .i64) (.int .u32)))) s.2))]) K ?_ ?_
        · refine TE_ownC 1005 5 920105 (.pair (.int .i64) (.pair (.int .i64) (.pair (.int .i64) (.int .u32)))) rfl rfl (by decide) rfl rfl ?_
          exact SP_ren [(16900, 15000), (16901, 1005), (16902, 920105)] (_, _) h2 ⟨rfl, rfl, rfl, rfl, rfl, tv⟩ ⟨rfl, rfl, rfl, tv⟩ rfl
        rintro n ⟨x89, x90⟩ h2
        rcases n with _ | n
        · exact (nsome h2).elim
        replace h2 : psalterylaw34_to_2.r1 K p0 x61 x62 ((Kd.nth (.pair (.int .i64) (.pair (.int .i64) (.pair (.slice (.int .i16)) (.pair (.slice (.int .u8)) (.pair (.slice (.int .u8)) (.slice (.pair (.int .i64) (.pair (.int .i64) (.pair (.int .i64) (.int .u32)))))))))) p0 (Int.toNat x61)).1) ((Kd.nth (.pair (.int .i64) (.pair (.int .i64) (.pair (.slice (.int .i16)) (.pair (.slice (.int .u8)) (.pair (.slice (.int .u8)) (.slice (.pair (.int .i64) (.pair (.int .i64) (.pair (.int .i64) (.int .u32)))))))))) p0 (Int.toNat x61)).2.1) ((Kd.nth (.pair (.int .i64) (.pair (.int .i64) (.pair (.slice (.int .i16)) (.pair (.slice (.int .u8)) (.pair (.slice (.int .u8)) (.slice (.pair (.int .i64) (.pair (.int .i64) (.pair (.int .i64) (.int .u32)))))))))) p0 (Int.toNat x61)).2.2.1) ((Kd.nth (.pair (.int .i64) (.pair (.int .i64) (.pair (.slice (.int .i16)) (.pair (.slice (.int .u8)) (.pair (.slice (.int .u8)) (.slice (.pair (.int .i64) (.pair (.int .i64) (.pair (.int .i64) (.int .u32)))))))))) p0 (Int.toNat x61)).2.2.2.1) ((Kd.nth (.pair (.int .i64) (.pair (.int .i64) (.pair (.slice (.int .i16)) (.pair (.slice (.int .u8)) (.pair (.slice (.int .u8)) (.slice (.pair (.int .i64) (.pair (.int .i64) (.pair (.int .i64) (.int .u32)))))))))) p0 (Int.toNat x61)).2.2.2.2.1) (psalterylaw34_to_2.l1 K p0 x61 x62 ((Kd.nth (.pair (.int .i64) (.pair (.int .i64) (.pair (.slice (.int .i16)) (.pair (.slice (.int .u8)) (.pair (.slice (.int .u8)) (.slice (.pair (.int .i64) (.pair (.int .i64) (.pair (.int .i64) (.int .u32)))))))))) p0 (Int.toNat x61)).1) ((Kd.nth (.pair (.int .i64) (.pair (.int .i64) (.pair (.slice (.int .i16)) (.pair (.slice (.int .u8)) (.pair (.slice (.int .u8)) (.slice (.pair (.int .i64) (.pair (.int .i64) (.pair (.int .i64) (.int .u32)))))))))) p0 (Int.toNat x61)).2.1) ((Kd.nth (.pair (.int .i64) (.pair (.int .i64) (.pair (.slice (.int .i16)) (.pair (.slice (.int .u8)) (.pair (.slice (.int .u8)) (.slice (.pair (.int .i64) (.pair (.int .i64) (.pair (.int .i64) (.int .u32)))))))))) p0 (Int.toNat x61)).2.2.1) ((Kd.nth (.pair (.int .i64) (.pair (.int .i64) (.pair (.slice (.int .i16)) (.pair (.slice (.int .u8)) (.pair (.slice (.int .u8)) (.slice (.pair (.int .i64) (.pair (.int .i64) (.pair (.int .i64) (.int .u32)))))))))) p0 (Int.toNat x61)).2.2.2.1) ((Kd.nth (.pair (.int .i64) (.pair (.int .i64) (.pair (.slice (.int .i16)) (.pair (.slice (.int .u8)) (.pair (.slice (.int .u8)) (.slice (.pair (.int .i64) (.pair (.int .i64) (.pair (.int .i64) (.int .u32)))))))))) p0 (Int.toNat x61)).2.2.2.2.1) n) x89 x90 = some z2 := h2
        refine TC_seq ?_
        refine TC_seq ?_
        refine TC_reg ?_
        obtain ⟨g, h2⟩ := gd_t h2
        refine TL_ev env 8 rfl ⟨tv, ⟨tv, ⟨tv, ⟨⟨tv, ⟨tv, ⟨g.1, g.2⟩⟩⟩, ⟨tv, ⟨⟨tv, tv⟩, ⟨⟨tv, tv⟩, ⟨⟨tv, ⟨tv, tv⟩⟩, tv⟩⟩⟩⟩⟩⟩⟩⟩ ?_
        refine TL_end ?_
        refine TE_go ?_
        refine TC_cond rfl (fun hb => ?_) (fun hb => ?_)
        · replace h2 := bif_t h2 hb
          refine TC_skip ?_
          refine TE_go ?_
          refine TC_seq ?_
          refine TC_blk ?_
          refine TC_renw (A' := [(0, .im (.slice (.pair (.int .i64) (.pair (.int .i64) (.pair (.slice (.int .i16)) (.pair (.slice (.int .u8)) (.pair (.slice (.int .u8)) (.slice (.pair (.int .i64) (.pair (.int .i64) (.pair (.int .i64) (.int .u32))))))))))) _), (3, .sl 16900), (4, .int .i64 _), (5, .p 16901 0), (6, .int .i64 _)]) (L' := [(16900, some (.rows (.pair (.int .i64) (.pair (.int .i64) (.pair (.slice (.int .i16)) (.pair (.slice (.int .u8)) (.pair (.slice (.int .u8)) (.slice (.pair (.int .i64) (.pair (.int .i64) (.pair (.int .i64) (.int .u32)))))))))) _)), (16901, some (.cells [.int .i64 _, .int .i64 _, .im (.slice (.int .i16)) _, .im (.slice (.int .u8)) _, .im (.slice (.int .u8)) _, .sl 16902])), (16902, some (.rows (.pair (.int .i64) (.pair (.int .i64) (.pair (.int .i64) (.int .u32)))) _))]) [] ⟨rfl, rfl, rfl, rfl, rfl, tv⟩ ⟨rfl, rfl, rfl, tv⟩ rfl ?_
          refine TC_drawR ⟨_, fun i => ([[], [0], [], [], [3, 2], [4, 3, 2], [5, 4, 3, 2], [], [7, 6, 5, 4, 3, 2], [8, 7, 6, 5, 4, 3, 2], [9, 8, 7, 6, 5, 4, 3, 2], [10, 9, 8, 7, 6, 5, 4, 3, 2, 1, 0], [11, 10, 9, 8, 7, 6, 5, 4, 3, 2, 1, 0], [12, 11, 10, 9, 8, 7, 6, 5, 4, 3, 2, 1, 0]] : List (List Nat)).getD i [], fun i => ([[], [], [], [], [], [], [], [], [], [], [1059], [1060, 16902], [], [16901]] : List (List Nat)).getD i [], fun i => ([[], [], [], [], [], [], [], [], [], [], [1059], [1060], [], []] : List (List Nat)).getD i []⟩ (fun i => ([[1059], [1059], [], [], [], [], [], [], [], [], [], [], [], []] : List (List Nat)).getD i []) (by kernel_rfl) (by kernel_rfl) ?_
          refine AJR_ev env 1 rfl (Nat.le_of_ble_eq_true rfl) rfl tv ?_
          refine AJR_ev env 2 rfl (Nat.le_of_ble_eq_true rfl) rfl ⟨tv, tv⟩ ?_
          refine AJR_ev env 3 rfl (Nat.le_of_ble_eq_true rfl) rfl tv ?_
          refine AJR_ev env 4 rfl (Nat.le_of_ble_eq_true rfl) rfl tv ?_
          obtain ⟨g, h2⟩ := gd_t h2
          refine AJR_ev env 5 rfl (Nat.le_of_ble_eq_true rfl) rfl ⟨tv, ⟨tv, ⟨g.1, g.2⟩⟩⟩ ?_
          refine AJR_ev env 6 rfl (Nat.le_of_ble_eq_true rfl) rfl tv ?_
          refine AJR_ev env 7 rfl (Nat.le_of_ble_eq_true rfl) rfl ⟨tv, tv⟩ ?_
          refine AJR_ev env 8 rfl (Nat.le_of_ble_eq_true rfl) rfl tv ?_
          obtain ⟨g, h2⟩ := gd_t h2
          refine AJR_ev env 9 rfl (Nat.le_of_ble_eq_true rfl) rfl ⟨tv, ⟨tv, ⟨g.1, g.2⟩⟩⟩ ?_
          refine AJR_ev env 10 rfl (Nat.le_of_ble_eq_true rfl) rfl ⟨tv, tv⟩ ?_
          refine AJR_ev env 11 rfl (Nat.le_of_ble_eq_true rfl) rfl ⟨tv, tv⟩ ?_
          obtain ⟨g, h2⟩ := gd_t h2
          refine AJR_ev env 12 rfl (Nat.le_of_ble_eq_true rfl) rfl ⟨⟨tv, ⟨tv, tv⟩⟩, g⟩ ?_
          refine AJR_ev env 13 rfl (Nat.le_of_ble_eq_true rfl) rfl tv ?_
          refine AJR_ev env 14 rfl (Nat.le_of_ble_eq_true rfl) rfl ⟨tv, tv⟩ ?_
          refine AJR_end rfl rfl rfl ?_
          refine tbn ?_
          refine TE_go ?_
          refine TC_reg ?_
          refine TL_ev env 3 rfl ⟨tv, ⟨⟨tv, ⟨tv, tv⟩⟩, ⟨tv, tv⟩⟩⟩ ?_
          refine TL_end ?_
          refine tsn ?_
          exact TE_nextr [(16900, 16900), (16901, 16901), (16902, 1060)] n (Nat.lt_succ_self n) (_, _) h2 ⟨rfl, rfl, rfl, rfl, rfl, tv⟩ ⟨rfl, rfl, rfl, tv⟩ rfl
        · replace h2 := bif_f h2 hb
          refine TC_exit ?_
          refine tsx ?_
          refine tsx ?_
          refine tbe ?_
          obtain rfl := sinj h2
          refine tsn ?_
          exact SP_ren [(16700, 16900), (16701, 16901), (16702, 16902)] _ rfl ⟨rfl, rfl, rfl, rfl, tv⟩ ⟨rfl, rfl, rfl, tv⟩ rfl
      · rintro x86 hz
        obtain rfl := hz.symm
        refine TE_go ?_
        refine TC_reg ?_
        refine TL_ev env 2 rfl ⟨tv, ⟨⟨tv, tv⟩, tv⟩⟩ ?_
        refine TL_frz 16702 rfl ?_
        obtain ⟨g, h1⟩ := gd_t h1
        refine TL_ev env 3 rfl ⟨⟨tv, tv⟩, ⟨⟨⟨tv, ⟨tv, tv⟩⟩, g⟩, ⟨tv, tv⟩⟩⟩ ?_
        refine TL_end ?_
        refine tbn ?_
        refine TE_go ?_
        refine TC_reg ?_
        refine TL_ev env 3 rfl ⟨tv, ⟨⟨tv, ⟨tv, tv⟩⟩, ⟨tv, tv⟩⟩⟩ ?_
        refine TL_end ?_
        refine tsn ?_
        exact TE_nextr [(15000, 1065)] n (Nat.lt_succ_self n) (_, _) h1 ⟨rfl, rfl, rfl, tv⟩ ⟨rfl, tv⟩ rfl
    · replace h1 := bif_f h1 hb
      refine TC_exit ?_
      refine tsx ?_
      refine tsx ?_
      refine tbe ?_
      obtain rfl := sinj h1
      refine tsn ?_
      exact SP_ren [(14000, 15000)] _ rfl ⟨rfl, tv⟩ ⟨rfl, tv⟩ rfl
  · rintro x50 hz
    obtain rfl := hz.symm
    refine TE_go ?_
    refine TC_seq ?_
    refine TC_reg ?_
    refine TL_ev env 2 rfl ⟨tv, ⟨tv, tv⟩⟩ ?_
    refine TL_end ?_
    refine TE_go ?_
    refine TC_ret ?_
    refine TE_frz 14000 rfl ?_
    obtain rfl := sinj h0
    exact TE_ret env rfl tv tv
theorem psalterylaw34_to_2.ok0 {K : Nat} {p0 : List ((Int × (Int × (List (Int) × (List (Int) × (List (Int) × List ((Int × (Int × (Int × Int))))))))))} {q0 : List ((Int × (Int × (List (Int) × (List (Int) × (List (Int) × List ((Int × (Int × (Int × Int))))))))))} (h0 : psalterylaw34_to_2 K p0 = some q0) : Fn Tryd.prog 10 [.im (.slice (.pair (.int .i64) (.pair (.int .i64) (.pair (.slice (.int .i16)) (.pair (.slice (.int .u8)) (.pair (.slice (.int .u8)) (.slice (.pair (.int .i64) (.pair (.int .i64) (.pair (.int .i64) (.int .u32))))))))))) p0] [] (.im (.slice (.pair (.int .i64) (.pair (.int .i64) (.pair (.slice (.int .i16)) (.pair (.slice (.int .u8)) (.pair (.slice (.int .u8)) (.slice (.pair (.int .i64) (.pair (.int .i64) (.pair (.int .i64) (.int .u32))))))))))) q0) [] := psalterylaw34_to_2.ok h0
theorem psalterylaw34_to_2.fnb : fnb Tryd.prog 10 = true := fnb_of Tryd.func10 rfl
def psalteryref34_Same_3.res (_p0 : List ((Int × (Int × (List (Int) × (List (Int) × (List (Int) × List ((Int × (Int × (Int × Int))))))))))) : Bool → MV
  | q0 => .bool q0
def psalteryref34_Same_3.out (_p0 : List ((Int × (Int × (List (Int) × (List (Int) × (List (Int) × List ((Int × (Int × (Int × Int))))))))))) : Bool → List (Nat × Option MObj)
  | _ => []
theorem psalteryref34_Same_3.ok {K : Nat} {p0 : List ((Int × (Int × (List (Int) × (List (Int) × (List (Int) × List ((Int × (Int × (Int × Int))))))))))} {r : Bool} (h0 : psalteryref34_Same_3 K p0 = some r) : Fn Tryd.prog 9 [.im (.slice (.pair (.int .i64) (.pair (.int .i64) (.pair (.slice (.int .i16)) (.pair (.slice (.int .u8)) (.pair (.slice (.int .u8)) (.slice (.pair (.int .i64) (.pair (.int .i64) (.pair (.int .i64) (.int .u32))))))))))) p0, .nils] [] (psalteryref34_Same_3.res p0 r) (psalteryref34_Same_3.out p0 r) := by
  refine Fn_of Tryd.func9 rfl (Nat.le_of_ble_eq_true rfl) fun Γ => ?_
  refine TC_seq ?_
  refine TC_reg ?_
  refine TL_ev env 1 rfl ⟨tv, tv⟩ ?_
  refine TL_end ?_
  refine TE_go ?_
  refine TC_seq ?_
  refine TC_seq ?_
  refine TC_reg ?_
  refine TL_ev env 5 rfl ⟨tv, ⟨⟨tv, tv⟩, ⟨tv, ⟨⟨tv, tv⟩, ⟨⟨tv, ⟨tv, tv⟩⟩, tv⟩⟩⟩⟩⟩ ?_
  refine TL_end ?_
  refine TE_go ?_
  refine TC_cond rfl (fun hb => ?_) (fun hb => ?_)
  · replace h0 := bif_t h0 hb
    refine TC_seq ?_
    refine TC_reg ?_
    refine TL_ev env 1 rfl ⟨tv, tv⟩ ?_
    refine TL_end ?_
    refine TE_go ?_
    refine TC_ret ?_
    refine tsr ?_
    obtain rfl := sinj h0
    exact TE_ret env rfl tv tv
  · replace h0 := bif_f h0 hb
    refine TC_skip ?_
    refine TE_go ?_
    refine TC_seq ?_
    refine TC_seq ?_
    refine TC_reg ?_
    refine TL_ev env 1 rfl ⟨tv, tv⟩ ?_
    refine TL_end ?_
    refine TE_go ?_
    obtain ⟨z1, h1, h0⟩ := bnd h0
    refine TC_cut (α := Unit) (fun _ => z1 = ()) (fun _ => []) (fun _ => []) ?_ ?_
    · refine TC_blk ?_
      refine TC_loop (α := Unit) (fun n _ => psalteryref34_Same_3.l0 K p0 n = some z1) (fun _ => [(0, .im (.slice (.pair (.int .i64) (.pair (.int .i64) (.pair (.slice (.int .i16)) (.pair (.slice (.int .u8)) (.pair (.slice (.int .u8)) (.slice (.pair (.int .i64) (.pair (.int .i64) (.pair (.int .i64) (.int .u32))))))))))) p0), (1, .nils), (5, .int .i64 0)]) (fun _ => []) K ?_ ?_
      · exact SP_ren [] () h1 ⟨rfl, rfl, rfl, tv⟩ tv rfl
      rintro n ⟨⟩ h1
      rcases n with _ | n
      · exact (nsome h1).elim
      replace h1 : psalteryref34_Same_3.r0 K p0 (psalteryref34_Same_3.l0 K p0 n)  = some z1 := h1
      refine TC_seq ?_
      refine TC_seq ?_
      refine TC_reg ?_
      refine TL_ev env 4 rfl ⟨tv, ⟨tv, ⟨⟨tv, tv⟩, ⟨⟨tv, ⟨tv, tv⟩⟩, tv⟩⟩⟩⟩ ?_
      refine TL_end ?_
      refine TE_go ?_
      refine TC_cond rfl (fun hb => ?_) (fun hb => ?_)
      · replace h1 := bif_t h1 hb
        refine TC_skip ?_
        refine TE_go ?_
        refine TC_seq ?_
        refine TC_blk ?_
        refine TC_seq ?_
        refine TC_renw (A' := [(0, .im (.slice (.pair (.int .i64) (.pair (.int .i64) (.pair (.slice (.int .i16)) (.pair (.slice (.int .u8)) (.pair (.slice (.int .u8)) (.slice (.pair (.int .i64) (.pair (.int .i64) (.pair (.int .i64) (.int .u32))))))))))) _), (1, .nils), (5, .int .i64 0)]) (L' := []) [] ⟨rfl, rfl, rfl, tv⟩ tv rfl ?_
        refine TC_drawR ⟨_, fun i => ([[], [], [1, 0], [2, 1, 0], [], [], [5, 4], [6, 5, 4], [], [], [9, 8, 3, 2, 1, 0], [10, 9, 8, 7, 6, 5, 4, 3, 2, 1, 0]] : List (List Nat)).getD i [], fun i => ([[], [], [], [], [], [], [], [], [], [], [], []] : List (List Nat)).getD i [], fun i => ([[], [], [], [], [], [], [], [], [], [], [], []] : List (List Nat)).getD i []⟩ (fun i => ([[], [], [], [], [], [], [], [], [], [], [], []] : List (List Nat)).getD i []) (by kernel_rfl) (by kernel_rfl) ?_
        obtain ⟨g, h1⟩ := gd_t h1
        exact (nsome h1).elim
      · replace h1 := bif_f h1 hb
        refine TC_exit ?_
        refine tsx ?_
        refine tsx ?_
        refine tbe ?_
        obtain rfl := sinj h1
        refine tsn ?_
        exact SP_ren [] () rfl tv tv rfl
    · rintro ⟨⟩ rfl
      refine TE_go ?_
      refine TC_seq ?_
      refine TC_reg ?_
      refine TL_ev env 1 rfl ⟨tv, tv⟩ ?_
      refine TL_end ?_
      refine TE_go ?_
      refine TC_ret ?_
      obtain rfl := sinj h0
      exact TE_ret env rfl tv tv
theorem psalteryref34_Same_3.ok0 {K : Nat} {p0 : List ((Int × (Int × (List (Int) × (List (Int) × (List (Int) × List ((Int × (Int × (Int × Int))))))))))} {q0 : Bool} (h0 : psalteryref34_Same_3 K p0 = some q0) : Fn Tryd.prog 9 [.im (.slice (.pair (.int .i64) (.pair (.int .i64) (.pair (.slice (.int .i16)) (.pair (.slice (.int .u8)) (.pair (.slice (.int .u8)) (.slice (.pair (.int .i64) (.pair (.int .i64) (.pair (.int .i64) (.int .u32))))))))))) p0, .nils] [] (.bool q0) [] := psalteryref34_Same_3.ok h0
theorem psalteryref34_Same_3.fnb : fnb Tryd.prog 9 = true := fnb_of Tryd.func9 rfl
def psalteryref34_Same_4.res (_p0 : List ((Int × (Int × (List (Int) × (List (Int) × (List (Int) × List ((Int × (Int × (Int × Int))))))))))) (_p1 : List ((Int × (Int × (List (Int) × (List (Int) × (List (Int) × List ((Int × (Int × (Int × Int))))))))))) : Bool → MV
  | q0 => .bool q0
def psalteryref34_Same_4.out (_p0 : List ((Int × (Int × (List (Int) × (List (Int) × (List (Int) × List ((Int × (Int × (Int × Int))))))))))) (_p1 : List ((Int × (Int × (List (Int) × (List (Int) × (List (Int) × List ((Int × (Int × (Int × Int))))))))))) : Bool → List (Nat × Option MObj)
  | _ => []
theorem psalteryref34_Same_4.ok {K : Nat} {p0 : List ((Int × (Int × (List (Int) × (List (Int) × (List (Int) × List ((Int × (Int × (Int × Int))))))))))} {p1 : List ((Int × (Int × (List (Int) × (List (Int) × (List (Int) × List ((Int × (Int × (Int × Int))))))))))} {r : Bool} (h0 : psalteryref34_Same_4 K p0 p1 = some r) : Fn Tryd.prog 9 [.im (.slice (.pair (.int .i64) (.pair (.int .i64) (.pair (.slice (.int .i16)) (.pair (.slice (.int .u8)) (.pair (.slice (.int .u8)) (.slice (.pair (.int .i64) (.pair (.int .i64) (.pair (.int .i64) (.int .u32))))))))))) p0, .im (.slice (.pair (.int .i64) (.pair (.int .i64) (.pair (.slice (.int .i16)) (.pair (.slice (.int .u8)) (.pair (.slice (.int .u8)) (.slice (.pair (.int .i64) (.pair (.int .i64) (.pair (.int .i64) (.int .u32))))))))))) p1] [] (psalteryref34_Same_4.res p0 p1 r) (psalteryref34_Same_4.out p0 p1 r) := by
  refine Fn_of Tryd.func9 rfl (Nat.le_of_ble_eq_true rfl) fun Γ => ?_
  refine TC_seq ?_
  refine TC_reg ?_
  refine TL_ev env 1 rfl ⟨tv, tv⟩ ?_
  refine TL_end ?_
  refine TE_go ?_
  refine TC_seq ?_
  refine TC_seq ?_
  refine TC_reg ?_
  refine TL_ev env 5 rfl ⟨tv, ⟨⟨tv, tv⟩, ⟨tv, ⟨⟨tv, tv⟩, ⟨⟨tv, ⟨tv, tv⟩⟩, tv⟩⟩⟩⟩⟩ ?_
  refine TL_end ?_
  refine TE_go ?_
  refine TC_cond rfl (fun hb => ?_) (fun hb => ?_)
  · replace h0 := bif_t h0 hb
    refine TC_seq ?_
    refine TC_reg ?_
    refine TL_ev env 1 rfl ⟨tv, tv⟩ ?_
    refine TL_end ?_
    refine TE_go ?_
    refine TC_ret ?_
    refine tsr ?_
    obtain rfl := sinj h0
    exact TE_ret env rfl tv tv
  · replace h0 := bif_f h0 hb
    refine TC_skip ?_
    refine TE_go ?_
    refine TC_seq ?_
    refine TC_seq ?_
    refine TC_reg ?_
    refine TL_ev env 1 rfl ⟨tv, tv⟩ ?_
    refine TL_end ?_
    refine TE_go ?_
    obtain ⟨z1, h1, h0⟩ := bnd h0
    refine TC_cut (α := Unit) (fun _ => z1 = .inl ()) (fun _ => []) (fun _ => []) ?_ ?_
    · refine TC_blk ?_
      refine TC_loop (α := Int) (fun n s => psalteryref34_Same_4.l0 K p0 p1 n s = some z1) (fun s => [(0, .im (.slice (.pair (.int .i64) (.pair (.int .i64) (.pair (.slice (.int .i16)) (.pair (.slice (.int .u8)) (.pair (.slice (.int .u8)) (.slice (.pair (.int .i64) (.pair (.int .i64) (.pair (.int .i64) (.int .u32))))))))))) p0), (1, .im (.slice (.pair (.int .i64) (.pair (.int .i64) (.pair (.slice (.int .i16)) (.pair (.slice (.int .u8)) (.pair (.slice (.int .u8)) (.slice (.pair (.int .i64) (.pair (.int .i64) (.pair (.int .i64) (.int .u32))))))))))) p1), (5, .int .i64 s)]) (fun s => []) K ?_ ?_
      · exact SP_ren [] _ h1 ⟨rfl, rfl, rfl, tv⟩ tv rfl
      rintro n x46 h1
      rcases n with _ | n
      · exact (nsome h1).elim
      replace h1 : psalteryref34_Same_4.r0 K p0 p1 (psalteryref34_Same_4.l0 K p0 p1 n) x46 = some z1 := h1
      refine TC_seq ?_
      refine TC_seq ?_
      refine TC_reg ?_
      refine TL_ev env 4 rfl ⟨tv, ⟨tv, ⟨⟨tv, tv⟩, ⟨⟨tv, ⟨tv, tv⟩⟩, tv⟩⟩⟩⟩ ?_
      refine TL_end ?_
      refine TE_go ?_
      refine TC_cond rfl (fun hb => ?_) (fun hb => ?_)
      · replace h1 := bif_t h1 hb
        refine TC_skip ?_
        refine TE_go ?_
        refine TC_seq ?_
        refine TC_blk ?_
        refine TC_seq ?_
        refine TC_renw (A' := [(0, .im (.slice (.pair (.int .i64) (.pair (.int .i64) (.pair (.slice (.int .i16)) (.pair (.slice (.int .u8)) (.pair (.slice (.int .u8)) (.slice (.pair (.int .i64) (.pair (.int .i64) (.pair (.int .i64) (.int .u32))))))))))) _), (1, .im (.slice (.pair (.int .i64) (.pair (.int .i64) (.pair (.slice (.int .i16)) (.pair (.slice (.int .u8)) (.pair (.slice (.int .u8)) (.slice (.pair (.int .i64) (.pair (.int .i64) (.pair (.int .i64) (.int .u32))))))))))) _), (5, .int .i64 _)]) (L' := []) [] ⟨rfl, rfl, rfl, tv⟩ tv rfl ?_
        refine TC_drawR ⟨_, fun i => ([[], [], [1, 0], [2, 1, 0], [], [], [5, 4], [6, 5, 4], [], [], [9, 8, 3, 2, 1, 0], [10, 9, 8, 7, 6, 5, 4, 3, 2, 1, 0]] : List (List Nat)).getD i [], fun i => ([[], [], [], [], [], [], [], [], [1006], [1007], [1006], [1007]] : List (List Nat)).getD i [], fun i => ([[], [], [], [], [], [], [], [], [1006], [1007], [], []] : List (List Nat)).getD i []⟩ (fun i => ([[1006, 1007], [1006, 1007], [1006, 1007], [1006, 1007], [1006, 1007], [1006, 1007], [1006, 1007], [1006, 1007], [1007], [1006], [], []] : List (List Nat)).getD i []) (by kernel_rfl) (by kernel_rfl) ?_
        refine AJR_ev env 1 rfl (Nat.le_of_ble_eq_true rfl) rfl tv ?_
        refine AJR_ev env 2 rfl (Nat.le_of_ble_eq_true rfl) rfl tv ?_
        obtain ⟨g, h1⟩ := gd_t h1
        refine AJR_ev env 3 rfl (Nat.le_of_ble_eq_true rfl) rfl ⟨tv, ⟨tv, ⟨g.1, g.2⟩⟩⟩ ?_
        refine AJR_ev env 4 rfl (Nat.le_of_ble_eq_true rfl) rfl ⟨tv, tv⟩ ?_
        refine AJR_ev env 5 rfl (Nat.le_of_ble_eq_true rfl) rfl tv ?_
        refine AJR_ev env 6 rfl (Nat.le_of_ble_eq_true rfl) rfl tv ?_
        obtain ⟨g, h1⟩ := gd_t h1
        refine AJR_ev env 7 rfl (Nat.le_of_ble_eq_true rfl) rfl ⟨tv, ⟨tv, ⟨g.1, g.2⟩⟩⟩ ?_
        refine AJR_ev env 8 rfl (Nat.le_of_ble_eq_true rfl) rfl ⟨tv, tv⟩ ?_
        refine AJR_ev env 9 rfl (Nat.le_of_ble_eq_true rfl) rfl tv ?_
        refine AJR_ev env 10 rfl (Nat.le_of_ble_eq_true rfl) rfl tv ?_
        refine AJR_ev env 11 rfl (Nat.le_of_ble_eq_true rfl) rfl ⟨tv, tv⟩ ?_
        refine AJR_ev env 12 rfl (Nat.le_of_ble_eq_true rfl) rfl ⟨tv, tv⟩ ?_
        refine AJR_end rfl rfl rfl ?_
        refine TE_go ?_
        refine TC_seq ?_
        refine TC_seq ?_
        refine TC_reg ?_
        refine TL_ev env 48 rfl ⟨tv, ⟨⟨tv, tv⟩, ⟨tv, ⟨⟨tv, tv⟩, ⟨⟨tv, ⟨tv, tv⟩⟩, ⟨tv, ⟨fun eg => tv, ⟨fun eg => ⟨fun e => e, tv⟩, ⟨fun eg => tv, ⟨fun eg => ⟨fun e => e, tv⟩, ⟨fun eg => ⟨fun e => e, ⟨fun e => e, tv⟩⟩, ⟨⟨tv, ⟨tv, fun e => e⟩⟩, ⟨tv, ⟨fun eg => tv, ⟨fun eg => ⟨fun e => e, tv⟩, ⟨fun eg => fun e => e, ⟨fun eg => tv, ⟨fun eg => ⟨fun e => e, tv⟩, ⟨fun eg => fun e => e, ⟨fun eg => ⟨fun e => e, ⟨fun e => e, tv⟩⟩, ⟨⟨tv, ⟨tv, fun e => e⟩⟩, ⟨tv, ⟨fun eg => tv, ⟨fun eg => ⟨fun e => e, tv⟩, ⟨fun eg => fun e => e, ⟨fun eg => tv, ⟨fun eg => ⟨fun e => e, tv⟩, ⟨fun eg => fun e => e, ⟨fun eg => ⟨fun e => e, ⟨fun e => e, tv⟩⟩, ⟨⟨tv, ⟨tv, fun e => e⟩⟩, ⟨tv, ⟨fun eg => tv, ⟨fun eg => ⟨fun e => e, tv⟩, ⟨fun eg => ⟨fun e => e, tv⟩, ⟨fun eg => tv, ⟨fun eg => ⟨fun e => e, tv⟩, ⟨fun eg => ⟨fun e => e, tv⟩, ⟨fun eg => ⟨fun e => e, ⟨fun e => e, tv⟩⟩, ⟨⟨tv, ⟨tv, fun e => e⟩⟩, ⟨tv, ⟨fun eg => tv, ⟨fun eg => ⟨fun e => e, tv⟩, ⟨fun eg => ⟨fun e => e, tv⟩, ⟨fun eg => tv, ⟨fun eg => ⟨fun e => e, tv⟩, ⟨fun eg => ⟨fun e => e, tv⟩, ⟨fun eg => ⟨fun e => e, ⟨fun e => e, tv⟩⟩, ⟨⟨tv, ⟨tv, fun e => e⟩⟩, tv⟩⟩⟩⟩⟩⟩⟩⟩⟩⟩⟩⟩⟩⟩⟩⟩⟩⟩⟩⟩⟩⟩⟩⟩⟩⟩⟩⟩⟩⟩⟩⟩⟩⟩⟩⟩⟩⟩⟩⟩⟩⟩⟩⟩⟩⟩⟩⟩ ?_
        refine TL_end ?_
        refine TE_go ?_
        refine TC_cond rfl (fun hb => ?_) (fun hb => ?_)
        · replace h1 := bif_t h1 hb
          refine TC_seq ?_
          refine TC_reg ?_
          refine TL_ev env 1 rfl ⟨tv, tv⟩ ?_
          refine TL_end ?_
          refine TE_go ?_
          refine TC_ret ?_
          refine tsr ?_
          refine tbr ?_
          refine tsr ?_
          refine tsr ?_
          refine tbr ?_
          refine tsr ?_
          refine tsr ?_
          obtain rfl := sinj h1
          obtain rfl := sinj h0
          exact TE_ret env rfl tv tv
        · replace h1 := bif_f h1 hb
          refine TC_skip ?_
          refine TE_go ?_
          refine TC_seq ?_
          refine TC_seq ?_
          refine TC_reg ?_
          refine TL_ev env 1 rfl ⟨tv, tv⟩ ?_
          refine TL_end ?_
          refine TE_go ?_
          obtain ⟨z2, h2, h1⟩ := bnd h1
          refine TC_cut (α := Unit) (fun _ => z2 = .inl ()) (fun _ => [(0, .im (.slice (.pair (.int .i64) (.pair (.int .i64) (.pair (.slice (.int .i16)) (.pair (.slice (.int .u8)) (.pair (.slice (.int .u8)) (.slice (.pair (.int .i64) (.pair (.int .i64) (.pair (.int .i64) (.int .u32))))))))))) p0), (1, .im (.slice (.pair (.int .i64) (.pair (.int .i64) (.pair (.slice (.int .i16)) (.pair (.slice (.int .u8)) (.pair (.slice (.int .u8)) (.slice (.pair (.int .i64) (.pair (.int .i64) (.pair (.int .i64) (.int .u32))))))))))) p1), (5, .int .i64 x46), (6, .p 21900 0), (7, .p 21901 0)]) (fun _ => [(21900, some (.cells [.int .i64 (Kd.nth (.pair (.int .i64) (.pair (.int .i64) (.pair (.slice (.int .i16)) (.pair (.slice (.int .u8)) (.pair (.slice (.int .u8)) (.slice (.pair (.int .i64) (.pair (.int .i64) (.pair (.int .i64) (.int .u32)))))))))) p0 (Int.toNat x46)).1, .int .i64 (Kd.nth (.pair (.int .i64) (.pair (.int .i64) (.pair (.slice (.int .i16)) (.pair (.slice (.int .u8)) (.pair (.slice (.int .u8)) (.slice (.pair (.int .i64) (.pair (.int .i64) (.pair (.int .i64) (.int .u32)))))))))) p0 (Int.toNat x46)).2.1, .im (.slice (.int .i16)) (Kd.nth (.pair (.int .i64) (.pair (.int .i64) (.pair (.slice (.int .i16)) (.pair (.slice (.int .u8)) (.pair (.slice (.int .u8)) (.slice (.pair (.int .i64) (.pair (.int .i64) (.pair (.int .i64) (.int .u32)))))))))) p0 (Int.toNat x46)).2.2.1, .im (.slice (.int .u8)) (Kd.nth (.pair (.int .i64) (.pair (.int .i64) (.pair (.slice (.int .i16)) (.pair (.slice (.int .u8)) (.pair (.slice (.int .u8)) (.slice (.pair (.int .i64) (.pair (.int .i64) (.pair (.int .i64) (.int .u32)))))))))) p0 (Int.toNat x46)).2.2.2.1, .im (.slice (.int .u8)) (Kd.nth (.pair (.int .i64) (.pair (.int .i64) (.pair (.slice (.int .i16)) (.pair (.slice (.int .u8)) (.pair (.slice (.int .u8)) (.slice (.pair (.int .i64) (.pair (.int .i64) (.pair (.int .i64) (.int .u32)))))))))) p0 (Int.toNat x46)).2.2.2.2.1, .im (.slice (.pair (.int .i64) (.pair (.int .i64) (.pair (.int .i64) (.int .u32))))) (Kd.nth (.pair (.int .i64) (.pair (.int .i64) (.pair (.slice (.int .i16)) (.pair (.slice (.int .u8)) (.pair (.slice (.int .u8)) (.slice (.pair (.int .i64) (.pair (.int .i64) (.pair (.int .i64) (.int .u32)))))))))) p0 (Int.toNat x46)).2.2.2.2.2])), (21901, some (.cells [.int .i64 (Kd.nth (.pair (.int .i64) (.pair (.int .i64) (.pair (.slice (.int .i16)) (.pair (.slice (.int .u8)) (.pair (.slice (.int .u8)) (.slice (.pair (.int .i64) (.pair (.int .i64) (.pair (.int .i64) (.int .u32)))))))))) p1 (Int.toNat x46)).1, .int .i64 (Kd.nth (.pair (.int .i64) (.pair (.int .i64) (.pair (.slice (.int .i16)) (.pair (.slice (.int .u8)) (.pair (.slice (.int .u8)) (.slice (.pair (.int .i64) (.pair (.int .i64) (.pair (.int .i64) (.int .u32)))))))))) p1 (Int.toNat x46)).2.1, .im (.slice (.int .i16)) (Kd.nth (.pair (.int .i64) (.pair (.int .i64) (.pair (.slice (.int .i16)) (.pair (.slice (.int .u8)) (.pair (.slice (.int .u8)) (.slice (.pair (.int .i64) (.pair (.int .i64) (.pair (.int .i64) (.int .u32)))))))))) p1 (Int.toNat x46)).2.2.1, .im (.slice (.int .u8)) (Kd.nth (.pair (.int .i64) (.pair (.int .i64) (.pair (.slice (.int .i16)) (.pair (.slice (.int .u8)) (.pair (.slice (.int .u8)) (.slice (.pair (.int .i64) (.pair (.int .i64) (.pair (.int .i64) (.int .u32)))))))))) p1 (Int.toNat x46)).2.2.2.1, .im (.slice (.int .u8)) (Kd.nth (.pair (.int .i64) (.pair (.int .i64) (.pair (.slice (.int .i16)) (.pair (.slice (.int .u8)) (.pair (.slice (.int .u8)) (.slice (.pair (.int .i64) (.pair (.int .i64) (.pair (.int .i64) (.int .u32)))))))))) p1 (Int.toNat x46)).2.2.2.2.1, .im (.slice (.pair (.int .i64) (.pair (.int .i64) (.pair (.int .i64) (.int .u32))))) (Kd.nth (.pair (.int .i64) (.pair (.int .i64) (.pair (.slice (.int .i16)) (.pair (.slice (.int .u8)) (.pair (.slice (.int .u8)) (.slice (.pair (.int .i64) (.pair (.int .i64) (.pair (.int .i64) (.int .u32)))))))))) p1 (Int.toNat x46)).2.2.2.2.2]))]) ?_ ?_
          · refine TC_blk ?_
            refine TC_loop (α := Int) (fun n s => psalteryref34_Same_4.l2 K p0 p1 x46 ((Kd.nth (.pair (.int .i64) (.pair (.int .i64) (.pair (.slice (.int .i16)) (.pair (.slice (.int .u8)) (.pair (.slice (.int .u8)) (.slice (.pair (.int .i64) (.pair (.int .i64) (.pair (.int .i64) (.int .u32)))))))))) p0 (Int.toNat x46)).1) ((Kd.nth (.pair (.int .i64) (.pair (.int .i64) (.pair (.slice (.int .i16)) (.pair (.slice (.int .u8)) (.pair (.slice (.int .u8)) (.slice (.pair (.int .i64) (.pair (.int .i64) (.pair (.int .i64) (.int .u32)))))))))) p0 (Int.toNat x46)).2.1) ((Kd.nth (.pair (.int .i64) (.pair (.int .i64) (.pair (.slice (.int .i16)) (.pair (.slice (.int .u8)) (.pair (.slice (.int .u8)) (.slice (.pair (.int .i64) (.pair (.int .i64) (.pair (.int .i64) (.int .u32)))))))))) p0 (Int.toNat x46)).2.2.1) ((Kd.nth (.pair (.int .i64) (.pair (.int .i64) (.pair (.slice (.int .i16)) (.pair (.slice (.int .u8)) (.pair (.slice (.int .u8)) (.slice (.pair (.int .i64) (.pair (.int .i64) (.pair (.int .i64) (.int .u32)))))))))) p0 (Int.toNat x46)).2.2.2.1) ((Kd.nth (.pair (.int .i64) (.pair (.int .i64) (.pair (.slice (.int .i16)) (.pair (.slice (.int .u8)) (.pair (.slice (.int .u8)) (.slice (.pair (.int .i64) (.pair (.int .i64) (.pair (.int .i64) (.int .u32)))))))))) p0 (Int.toNat x46)).2.2.2.2.1) ((Kd.nth (.pair (.int .i64) (.pair (.int .i64) (.pair (.slice (.int .i16)) (.pair (.slice (.int .u8)) (.pair (.slice (.int .u8)) (.slice (.pair (.int .i64) (.pair (.int .i64) (.pair (.int .i64) (.int .u32)))))))))) p0 (Int.toNat x46)).2.2.2.2.2) ((Kd.nth (.pair (.int .i64) (.pair (.int .i64) (.pair (.slice (.int .i16)) (.pair (.slice (.int .u8)) (.pair (.slice (.int .u8)) (.slice (.pair (.int .i64) (.pair (.int .i64) (.pair (.int .i64) (.int .u32)))))))))) p1 (Int.toNat x46)).1) ((Kd.nth (.pair (.int .i64) (.pair (.int .i64) (.pair (.slice (.int .i16)) (.pair (.slice (.int .u8)) (.pair (.slice (.int .u8)) (.slice (.pair (.int .i64) (.pair (.int .i64) (.pair (.int .i64) (.int .u32)))))))))) p1 (Int.toNat x46)).2.1) ((Kd.nth (.pair (.int .i64) (.pair (.int .i64) (.pair (.slice (.int .i16)) (.pair (.slice (.int .u8)) (.pair (.slice (.int .u8)) (.slice (.pair (.int .i64) (.pair (.int .i64) (.pair (.int .i64) (.int .u32)))))))))) p1 (Int.toNat x46)).2.2.1) ((Kd.nth (.pair (.int .i64) (.pair (.int .i64) (.pair (.slice (.int .i16)) (.pair (.slice (.int .u8)) (.pair (.slice (.int .u8)) (.slice (.pair (.int .i64) (.pair (.int .i64) (.pair (.int .i64) (.int .u32)))))))))) p1 (Int.toNat x46)).2.2.2.1) ((Kd.nth (.pair (.int .i64) (.pair (.int .i64) (.pair (.slice (.int .i16)) (.pair (.slice (.int .u8)) (.pair (.slice (.int .u8)) (.slice (.pair (.int .i64) (.pair (.int .i64) (.pair (.int .i64) (.int .u32)))))))))) p1 (Int.toNat x46)).2.2.2.2.1) ((Kd.nth (.pair (.int .i64) (.pair (.int .i64) (.pair (.slice (.int .i16)) (.pair (.slice (.int .u8)) (.pair (.slice (.int .u8)) (.slice (.pair (.int .i64) (.pair (.int .i64) (.pair (.int .i64) (.int .u32)))))))))) p1 (Int.toNat x46)).2.2.2.2.2) n s = some z2) (fun s => [(0, .im (.slice (.pair (.int .i64) (.pair (.int .i64) (.pair (.slice (.int .i16)) (.pair (.slice (.int .u8)) (.pair (.slice (.int .u8)) (.slice (.pair (.int .i64) (.pair (.int .i64) (.pair (.int .i64) (.int .u32))))))))))) p0), (1, .im (.slice (.pair (.int .i64) (.pair (.int .i64) (.pair (.slice (.int .i16)) (.pair (.slice (.int .u8)) (.pair (.slice (.int .u8)) (.slice (.pair (.int .i64) (.pair (.int .i64) (.pair (.int .i64) (.int .u32))))))))))) p1), (5, .int .i64 x46), (6, .p 22800 0), (7, .p 22801 0), (8, .int .i64 s)]) (fun s => [(22800, some (.cells [.int .i64 (Kd.nth (.pair (.int .i64) (.pair (.int .i64) (.pair (.slice (.int .i16)) (.pair (.slice (.int .u8)) (.pair (.slice (.int .u8)) (.slice (.pair (.int .i64) (.pair (.int .i64) (.pair (.int .i64) (.int .u32)))))))))) p0 (Int.toNat x46)).1, .int .i64 (Kd.nth (.pair (.int .i64) (.pair (.int .i64) (.pair (.slice (.int .i16)) (.pair (.slice (.int .u8)) (.pair (.slice (.int .u8)) (.slice (.pair (.int .i64) (.pair (.int .i64) (.pair (.int .i64) (.int .u32)))))))))) p0 (Int.toNat x46)).2.1, .im (.slice (.int .i16)) (Kd.nth (.pair (.int .i64) (.pair (.int .i64) (.pair (.slice (.int .i16)) (.pair (.slice (.int .u8)) (.pair (.slice (.int .u8)) (.slice (.pair (.int .i64) (.pair (.int .i64) (.pair (.int .i64) (.int .u32)))))))))) p0 (Int.toNat x46)).2.2.1, .im (.slice (.int .u8)) (Kd.nth (.pair (.int .i64) (.pair (.int .i64) (.pair (.slice (.int .i16)) (.pair (.slice (.int .u8)) (.pair (.slice (.int .u8)) (.slice (.pair (.int .i64) (.pair (.int .i64) (.pair (.int .i64) (.int .u32)))))))))) p0 (Int.toNat x46)).2.2.2.1, .im (.slice (.int .u8)) (Kd.nth (.pair (.int .i64) (.pair (.int .i64) (.pair (.slice (.int .i16)) (.pair (.slice (.int .u8)) (.pair (.slice (.int .u8)) (.slice (.pair (.int .i64) (.pair (.int .i64) (.pair (.int .i64) (.int .u32)))))))))) p0 (Int.toNat x46)).2.2.2.2.1, .im (.slice (.pair (.int .i64) (.pair (.int .i64) (.pair (.int .i64) (.int .u32))))) (Kd.nth (.pair (.int .i64) (.pair (.int .i64) (.pair (.slice (.int .i16)) (.pair (.slice (.int .u8)) (.pair (.slice (.int .u8)) (.slice (.pair (.int .i64) (.pair (.int .i64) (.pair (.int .i64) (.int .u32)))))))))) p0 (Int.toNat x46)).2.2.2.2.2])), (22801, some (.cells [.int .i64 (Kd.nth (.pair (.int .i64) (.pair (.int .i64) (.pair (.slice (.int .i16)) (.pair (.slice (.int .u8)) (.pair (.slice (.int .u8)) (.slice (.pair (.int .i64) (.pair (.int .i64) (.pair (.int .i64) (.int .u32)))))))))) p1 (Int.toNat x46)).1, .int .i64 (Kd.nth (.pair (.int .i64) (.pair (.int .i64) (.pair (.slice (.int .i16)) (.pair (.slice (.int .u8)) (.pair (.slice (.int .u8)) (.slice (.pair (.int .i64) (.pair (.int .i64) (.pair (.int .i64) (.int .u32)))))))))) p1 (Int.toNat x46)).2.1, .im (.slice (.int .i16)) (Kd.nth (.pair (.int .i64) (.pair (.int .i64) (.pair (.slice (.int .i16)) (.pair (.slice (.int .u8)) (.pair (.slice (.int .u8)) (.slice (.pair (.int .i64) (.pair (.int .i64) (.pair (.int .i64) (.int .u32)))))))))) p1 (Int.toNat x46)).2.2.1, .im (.slice (.int .u8)) (Kd.nth (.pair (.int .i64) (.pair (.int .i64) (.pair (.slice (.int .i16)) (.pair (.slice (.int .u8)) (.pair (.slice (.int .u8)) (.slice (.pair (.int .i64) (.pair (.int .i64) (.pair (.int .i64) (.int .u32)))))))))) p1 (Int.toNat x46)).2.2.2.1, .im (.slice (.int .u8)) (Kd.nth (.pair (.int .i64) (.pair (.int .i64) (.pair (.slice (.int .i16)) (.pair (.slice (.int .u8)) (.pair (.slice (.int .u8)) (.slice (.pair (.int .i64) (.pair (.int .i64) (.pair (.int .i64) (.int .u32)))))))))) p1 (Int.toNat x46)).2.2.2.2.1, .im (.slice (.pair (.int .i64) (.pair (.int .i64) (.pair (.int .i64) (.int .u32))))) (Kd.nth (.pair (.int .i64) (.pair (.int .i64) (.pair (.slice (.int .i16)) (.pair (.slice (.int .u8)) (.pair (.slice (.int .u8)) (.slice (.pair (.int .i64) (.pair (.int .i64) (.pair (.int .i64) (.int .u32)))))))))) p1 (Int.toNat x46)).2.2.2.2.2]))]) K ?_ ?_
            · exact SP_ren [(22800, 1006), (22801, 1007)] _ h2 ⟨rfl, rfl, rfl, rfl, rfl, rfl, tv⟩ ⟨rfl, rfl, tv⟩ rfl
            rintro n x93 h2
            rcases n with _ | n
            · exact (nsome h2).elim
            replace h2 : psalteryref34_Same_4.r2 K p0 p1 x46 ((Kd.nth (.pair (.int .i64) (.pair (.int .i64) (.pair (.slice (.int .i16)) (.pair (.slice (.int .u8)) (.pair (.slice (.int .u8)) (.slice (.pair (.int .i64) (.pair (.int .i64) (.pair (.int .i64) (.int .u32)))))))))) p0 (Int.toNat x46)).1) ((Kd.nth (.pair (.int .i64) (.pair (.int .i64) (.pair (.slice (.int .i16)) (.pair (.slice (.int .u8)) (.pair (.slice (.int .u8)) (.slice (.pair (.int .i64) (.pair (.int .i64) (.pair (.int .i64) (.int .u32)))))))))) p0 (Int.toNat x46)).2.1) ((Kd.nth (.pair (.int .i64) (.pair (.int .i64) (.pair (.slice (.int .i16)) (.pair (.slice (.int .u8)) (.pair (.slice (.int .u8)) (.slice (.pair (.int .i64) (.pair (.int .i64) (.pair (.int .i64) (.int .u32)))))))))) p0 (Int.toNat x46)).2.2.1) ((Kd.nth (.pair (.int .i64) (.pair (.int .i64) (.pair (.slice (.int .i16)) (.pair (.slice (.int .u8)) (.pair (.slice (.int .u8)) (.slice (.pair (.int .i64) (.pair (.int .i64) (.pair (.int .i64) (.int .u32)))))))))) p0 (Int.toNat x46)).2.2.2.1) ((Kd.nth (.pair (.int .i64) (.pair (.int .i64) (.pair (.slice (.int .i16)) (.pair (.slice (.int .u8)) (.pair (.slice (.int .u8)) (.slice (.pair (.int .i64) (.pair (.int .i64) (.pair (.int .i64) (.int .u32)))))))))) p0 (Int.toNat x46)).2.2.2.2.1) ((Kd.nth (.pair (.int .i64) (.pair (.int .i64) (.pair (.slice (.int .i16)) (.pair (.slice (.int .u8)) (.pair (.slice (.int .u8)) (.slice (.pair (.int .i64) (.pair (.int .i64) (.pair (.int .i64) (.int .u32)))))))))) p0 (Int.toNat x46)).2.2.2.2.2) ((Kd.nth (.pair (.int .i64) (.pair (.int .i64) (.pair (.slice (.int .i16)) (.pair (.slice (.int .u8)) (.pair (.slice (.int .u8)) (.slice (.pair (.int .i64) (.pair (.int .i64) (.pair (.int .i64) (.int .u32)))))))))) p1 (Int.toNat x46)).1) ((Kd.nth (.pair (.int .i64) (.pair (.int .i64) (.pair (.slice (.int .i16)) (.pair (.slice (.int .u8)) (.pair (.slice (.int .u8)) (.slice (.pair (.int .i64) (.pair (.int .i64) (.pair (.int .i64) (.int .u32)))))))))) p1 (Int.toNat x46)).2.1) ((Kd.nth (.pair (.int .i64) (.pair (.int .i64) (.pair (.slice (.int .i16)) (.pair (.slice (.int .u8)) (.pair (.slice (.int .u8)) (.slice (.pair (.int .i64) (.pair (.int .i64) (.pair (.int .i64) (.int .u32)))))))))) p1 (Int.toNat x46)).2.2.1) ((Kd.nth (.pair (.int .i64) (.pair (.int .i64) (.pair (.slice (.int .i16)) (.pair (.slice (.int .u8)) (.pair (.slice (.int .u8)) (.slice (.pair (.int .i64) (.pair (.int .i64) (.pair (.int .i64) (.int .u32)))))))))) p1 (Int.toNat x46)).2.2.2.1) ((Kd.nth (.pair (.int .i64) (.pair (.int .i64) (.pair (.slice (.int .i16)) (.pair (.slice (.int .u8)) (.pair (.slice (.int .u8)) (.slice (.pair (.int .i64) (.pair (.int .i64) (.pair (.int .i64) (.int .u32)))))))))) p1 (Int.toNat x46)).2.2.2.2.1) ((Kd.nth (.pair (.int .i64) (.pair (.int .i64) (.pair (.slice (.int .i16)) (.pair (.slice (.int .u8)) (.pair (.slice (.int .u8)) (.slice (.pair (.int .i64) (.pair (.int .i64) (.pair (.int .i64) (.int .u32)))))))))) p1 (Int.toNat x46)).2.2.2.2.2) (psalteryref34_Same_4.l2 K p0 p1 x46 ((Kd.nth (.pair (.int .i64) (.pair (.int .i64) (.pair (.slice (.int .i16)) (.pair (.slice (.int .u8)) (.pair (.slice (.int .u8)) (.slice (.pair (.int .i64) (.pair (.int .i64) (.pair (.int .i64) (.int .u32)))))))))) p0 (Int.toNat x46)).1) ((Kd.nth (.pair (.int .i64) (.pair (.int .i64) (.pair (.slice (.int .i16)) (.pair (.slice (.int .u8)) (.pair (.slice (.int .u8)) (.slice (.pair (.int .i64) (.pair (.int .i64) (.pair (.int .i64) (.int .u32)))))))))) p0 (Int.toNat x46)).2.1) ((Kd.nth (.pair (.int .i64) (.pair (.int .i64) (.pair (.slice (.int .i16)) (.pair (.slice (.int .u8)) (.pair (.slice (.int .u8)) (.slice (.pair (.int .i64) (.pair (.int .i64) (.pair (.int .i64) (.int .u32)))))))))) p0 (Int.toNat x46)).2.2.1) ((Kd.nth (.pair (.int .i64) (.pair (.int .i64) (.pair (.slice (.int .i16)) (.pair (.slice (.int .u8)) (.pair (.slice (.int .u8)) (.slice (.pair (.int .i64) (.pair (.int .i64) (.pair (.int .i64) (.int .u32)))))))))) p0 (Int.toNat x46)).2.2.2.1) ((Kd.nth (.pair (.int .i64) (.pair (.int .i64) (.pair (.slice (.int .i16)) (.pair (.slice (.int .u8)) (.pair (.slice (.int .u8)) (.slice (.pair (.int .i64) (.pair (.int .i64) (.pair (.int .i64) (.int .u32)))))))))) p0 (Int.toNat x46)).2.2.2.2.1) ((Kd.nth (.pair (.int .i64) (.pair (.int .i64) (.pair (.slice (.int .i16)) (.pair (.slice (.int .u8)) (.pair (.slice (.int .u8)) (.slice (.pair (.int .i64) (.pair (.int .i64) (.pair (.int .i64) (.int .u32)))))))))) p0 (Int.toNat x46)).2.2.2.2.2) ((Kd.nth (.pair (.int .i64) (.pair (.int .i64) (.pair (.slice (.int .i16)) (.pair (.slice (.int .u8)) (.pair (.slice (.int .u8)) (.slice (.pair (.int .i64) (.pair (.int .i64) (.pair (.int .i64) (.int .u32)))))))))) p1 (Int.toNat x46)).1) ((Kd.nth (.pair (.int .i64) (.pair (.int .i64) (.pair (.slice (.int .i16)) (.pair (.slice (.int .u8)) (.pair (.slice (.int .u8)) (.slice (.pair (.int .i64) (.pair (.int .i64) (.pair (.int .i64) (.int .u32)))))))))) p1 (Int.toNat x46)).2.1) ((Kd.nth (.pair (.int .i64) (.pair (.int .i64) (.pair (.slice (.int .i16)) (.pair (.slice (.int .u8)) (.pair (.slice (.int .u8)) (.slice (.pair (.int .i64) (.pair (.int .i64) (.pair (.int .i64) (.int .u32)))))))))) p1 (Int.toNat x46)).2.2.1) ((Kd.nth (.pair (.int .i64) (.pair (.int .i64) (.pair (.slice (.int .i16)) (.pair (.slice (.int .u8)) (.pair (.slice (.int .u8)) (.slice (.pair (.int .i64) (.pair (.int .i64) (.pair (.int .i64) (.int .u32)))))))))) p1 (Int.toNat x46)).2.2.2.1) ((Kd.nth (.pair (.int .i64) (.pair (.int .i64) (.pair (.slice (.int .i16)) (.pair (.slice (.int .u8)) (.pair (.slice (.int .u8)) (.slice (.pair (.int .i64) (.pair (.int .i64) (.pair (.int .i64) (.int .u32)))))))))) p1 (Int.toNat x46)).2.2.2.2.1) ((Kd.nth (.pair (.int .i64) (.pair (.int .i64) (.pair (.slice (.int .i16)) (.pair (.slice (.int .u8)) (.pair (.slice (.int .u8)) (.slice (.pair (.int .i64) (.pair (.int .i64) (.pair (.int .i64) (.int .u32)))))))))) p1 (Int.toNat x46)).2.2.2.2.2) n) x93 = some z2 := h2
            refine TC_seq ?_
            refine TC_seq ?_
            refine TC_reg ?_
            refine TL_ev env 5 rfl ⟨tv, ⟨tv, ⟨⟨tv, tv⟩, ⟨⟨tv, tv⟩, ⟨⟨tv, ⟨tv, tv⟩⟩, tv⟩⟩⟩⟩⟩ ?_
            refine TL_end ?_
            refine TE_go ?_
            refine TC_cond rfl (fun hb => ?_) (fun hb => ?_)
            · replace h2 := bif_t h2 hb
              refine TC_skip ?_
              refine TE_go ?_
              refine TC_seq ?_
              refine TC_blk ?_
              refine TC_seq ?_
              refine TC_renw (A' := [(0, .im (.slice (.pair (.int .i64) (.pair (.int .i64) (.pair (.slice (.int .i16)) (.pair (.slice (.int .u8)) (.pair (.slice (.int .u8)) (.slice (.pair (.int .i64) (.pair (.int .i64) (.pair (.int .i64) (.int .u32))))))))))) _), (1, .im (.slice (.pair (.int .i64) (.pair (.int .i64) (.pair (.slice (.int .i16)) (.pair (.slice (.int .u8)) (.pair (.slice (.int .u8)) (.slice (.pair (.int .i64) (.pair (.int .i64) (.pair (.int .i64) (.int .u32))))))))))) _), (5, .int .i64 _), (6, .p 22800 0), (7, .p 22801 0), (8, .int .i64 _)]) (L' := [(22800, some (.cells [.int .i64 _, .int .i64 _, .im (.slice (.int .i16)) _, .im (.slice (.int .u8)) _, .im (.slice (.int .u8)) _, .im (.slice (.pair (.int .i64) (.pair (.int .i64) (.pair (.int .i64) (.int .u32))))) _])), (22801, some (.cells [.int .i64 _, .int .i64 _, .im (.slice (.int .i16)) _, .im (.slice (.int .u8)) _, .im (.slice (.int .u8)) _, .im (.slice (.pair (.int .i64) (.pair (.int .i64) (.pair (.int .i64) (.int .u32))))) _]))]) [] ⟨rfl, rfl, rfl, rfl, rfl, rfl, tv⟩ ⟨rfl, rfl, tv⟩ rfl ?_
              refine TC_drawR ⟨_, fun i => ([[], [0], [], [2, 1, 0], [3, 2, 1, 0], [], [5], [], [7, 6, 5], [8, 7, 6, 5], [9, 8, 7, 6, 5, 4, 3, 2, 1, 0]] : List (List Nat)).getD i [], fun i => ([[], [], [], [], [], [], [], [], [], [], []] : List (List Nat)).getD i [], fun i => ([[], [], [], [], [], [], [], [], [], [], []] : List (List Nat)).getD i []⟩ (fun i => ([[], [], [], [], [], [], [], [], [], [], []] : List (List Nat)).getD i []) (by kernel_rfl) (by kernel_rfl) ?_
              refine AJR_ev env 1 rfl (Nat.le_of_ble_eq_true rfl) rfl tv ?_
              refine AJR_ev env 2 rfl (Nat.le_of_ble_eq_true rfl) rfl ⟨tv, tv⟩ ?_
              refine AJR_ev env 3 rfl (Nat.le_of_ble_eq_true rfl) rfl tv ?_
              obtain ⟨g, h2⟩ := gd_t h2
              refine AJR_ev env 4 rfl (Nat.le_of_ble_eq_true rfl) rfl ⟨tv, ⟨tv, ⟨g.1, g.2⟩⟩⟩ ?_
              refine AJR_ev env 5 rfl (Nat.le_of_ble_eq_true rfl) rfl ⟨tv, tv⟩ ?_
              refine AJR_ev env 6 rfl (Nat.le_of_ble_eq_true rfl) rfl tv ?_
              refine AJR_ev env 7 rfl (Nat.le_of_ble_eq_true rfl) rfl ⟨tv, tv⟩ ?_
              refine AJR_ev env 8 rfl (Nat.le_of_ble_eq_true rfl) rfl tv ?_
              obtain ⟨g, h2⟩ := gd_t h2
              refine AJR_ev env 9 rfl (Nat.le_of_ble_eq_true rfl) rfl ⟨tv, ⟨tv, ⟨g.1, g.2⟩⟩⟩ ?_
              refine AJR_ev env 10 rfl (Nat.le_of_ble_eq_true rfl) rfl ⟨tv, tv⟩ ?_
              refine AJR_ev env 11 rfl (Nat.le_of_ble_eq_true rfl) rfl ⟨tv, ⟨tv, tv⟩⟩ ?_
              refine AJR_end rfl rfl rfl ?_
              refine TE_go ?_
              refine TC_cond rfl (fun hb => ?_) (fun hb => ?_)
              · replace h2 := bif_t h2 hb
                refine TC_seq ?_
                refine TC_reg ?_
                refine TL_ev env 1 rfl ⟨tv, tv⟩ ?_
                refine TL_end ?_
                refine TE_go ?_
                refine TC_ret ?_
                refine tbr ?_
                refine tsr ?_
                refine tsr ?_
                refine tbr ?_
                refine tsr ?_
                refine tsr ?_
                refine tbr ?_
                refine tsr ?_
                refine tsr ?_
                refine tbr ?_
                refine tsr ?_
                refine tsr ?_
                obtain rfl := sinj h2
                obtain rfl := sinj h1
                obtain rfl := sinj h0
                exact TE_ret env rfl tv tv
              · replace h2 := bif_f h2 hb
                refine TC_skip ?_
                refine tbn ?_
                refine TE_go ?_
                refine TC_reg ?_
                refine TL_ev env 3 rfl ⟨tv, ⟨⟨tv, ⟨tv, tv⟩⟩, ⟨tv, tv⟩⟩⟩ ?_
                refine TL_end ?_
                refine tsn ?_
                exact TE_nextr [(22800, 22800), (22801, 22801)] n (Nat.lt_succ_self n) _ h2 ⟨rfl, rfl, rfl, rfl, rfl, rfl, tv⟩ ⟨rfl, rfl, tv⟩ rfl
            · replace h2 := bif_f h2 hb
              refine TC_exit ?_
              refine tsx ?_
              refine tsx ?_
              refine tbe ?_
              obtain rfl := sinj h2
              refine tsn ?_
              exact SP_ren [(21900, 22800), (21901, 22801)] () rfl ⟨rfl, rfl, rfl, rfl, rfl, tv⟩ ⟨rfl, rfl, tv⟩ rfl
          · rintro ⟨⟩ rfl
            refine TE_go ?_
            refine TC_seq ?_
            refine TC_reg ?_
            refine TL_ev env 1 rfl ⟨tv, tv⟩ ?_
            refine TL_end ?_
            refine TE_go ?_
            obtain ⟨z2, h2, h1⟩ := bnd h1
            refine TC_cut (α := Unit) (fun _ => z2 = .inl ()) (fun _ => [(0, .im (.slice (.pair (.int .i64) (.pair (.int .i64) (.pair (.slice (.int .i16)) (.pair (.slice (.int .u8)) (.pair (.slice (.int .u8)) (.slice (.pair (.int .i64) (.pair (.int .i64) (.pair (.int .i64) (.int .u32))))))))))) p0), (1, .im (.slice (.pair (.int .i64) (.pair (.int .i64) (.pair (.slice (.int .i16)) (.pair (.slice (.int .u8)) (.pair (.slice (.int .u8)) (.slice (.pair (.int .i64) (.pair (.int .i64) (.pair (.int .i64) (.int .u32))))))))))) p1), (5, .int .i64 x46)]) (fun _ => []) ?_ ?_
            · refine TC_blk ?_
              refine TC_loop (α := Int) (fun n s => psalteryref34_Same_4.l1 K p0 p1 x46 ((Kd.nth (.pair (.int .i64) (.pair (.int .i64) (.pair (.slice (.int .i16)) (.pair (.slice (.int .u8)) (.pair (.slice (.int .u8)) (.slice (.pair (.int .i64) (.pair (.int .i64) (.pair (.int .i64) (.int .u32)))))))))) p0 (Int.toNat x46)).1) ((Kd.nth (.pair (.int .i64) (.pair (.int .i64) (.pair (.slice (.int .i16)) (.pair (.slice (.int .u8)) (.pair (.slice (.int .u8)) (.slice (.pair (.int .i64) (.pair (.int .i64) (.pair (.int .i64) (.int .u32)))))))))) p0 (Int.toNat x46)).2.1) ((Kd.nth (.pair (.int .i64) (.pair (.int .i64) (.pair (.slice (.int .i16)) (.pair (.slice (.int .u8)) (.pair (.slice (.int .u8)) (.slice (.pair (.int .i64) (.pair (.int .i64) (.pair (.int .i64) (.int .u32)))))))))) p0 (Int.toNat x46)).2.2.1) ((Kd.nth (.pair (.int .i64) (.pair (.int .i64) (.pair (.slice (.int .i16)) (.pair (.slice (.int .u8)) (.pair (.slice (.int .u8)) (.slice (.pair (.int .i64) (.pair (.int .i64) (.pair (.int .i64) (.int .u32)))))))))) p0 (Int.toNat x46)).2.2.2.1) ((Kd.nth (.pair (.int .i64) (.pair (.int .i64) (.pair (.slice (.int .i16)) (.pair (.slice (.int .u8)) (.pair (.slice (.int .u8)) (.slice (.pair (.int .i64) (.pair (.int .i64) (.pair (.int .i64) (.int .u32)))))))))) p0 (Int.toNat x46)).2.2.2.2.1) ((Kd.nth (.pair (.int .i64) (.pair (.int .i64) (.pair (.slice (.int .i16)) (.pair (.slice (.int .u8)) (.pair (.slice (.int .u8)) (.slice (.pair (.int .i64) (.pair (.int .i64) (.pair (.int .i64) (.int .u32)))))))))) p0 (Int.toNat x46)).2.2.2.2.2) ((Kd.nth (.pair (.int .i64) (.pair (.int .i64) (.pair (.slice (.int .i16)) (.pair (.slice (.int .u8)) (.pair (.slice (.int .u8)) (.slice (.pair (.int .i64) (.pair (.int .i64) (.pair (.int .i64) (.int .u32)))))))))) p1 (Int.toNat x46)).1) ((Kd.nth (.pair (.int .i64) (.pair (.int .i64) (.pair (.slice (.int .i16)) (.pair (.slice (.int .u8)) (.pair (.slice (.int .u8)) (.slice (.pair (.int .i64) (.pair (.int .i64) (.pair (.int .i64) (.int .u32)))))))))) p1 (Int.toNat x46)).2.1) ((Kd.nth (.pair (.int .i64) (.pair (.int .i64) (.pair (.slice (.int .i16)) (.pair (.slice (.int .u8)) (.pair (.slice (.int .u8)) (.slice (.pair (.int .i64) (.pair (.int .i64) (.pair (.int .i64) (.int .u32)))))))))) p1 (Int.toNat x46)).2.2.1) ((Kd.nth (.pair (.int .i64) (.pair (.int .i64) (.pair (.slice (.int .i16)) (.pair (.slice (.int .u8)) (.pair (.slice (.int .u8)) (.slice (.pair (.int .i64) (.pair (.int .i64) (.pair (.int .i64) (.int .u32)))))))))) p1 (Int.toNat x46)).2.2.2.1) ((Kd.nth (.pair (.int .i64) (.pair (.int .i64) (.pair (.slice (.int .i16)) (.pair (.slice (.int .u8)) (.pair (.slice (.int .u8)) (.slice (.pair (.int .i64) (.pair (.int .i64) (.pair (.int .i64) (.int .u32)))))))))) p1 (Int.toNat x46)).2.2.2.2.1) ((Kd.nth (.pair (.int .i64) (.pair (.int .i64) (.pair (.slice (.int .i16)) (.pair (.slice (.int .u8)) (.pair (.slice (.int .u8)) (.slice (.pair (.int .i64) (.pair (.int .i64) (.pair (.int .i64) (.int .u32)))))))))) p1 (Int.toNat x46)).2.2.2.2.2) n s = some z2) (fun s => [(0, .im (.slice (.pair (.int .i64) (.pair (.int .i64) (.pair (.slice (.int .i16)) (.pair (.slice (.int .u8)) (.pair (.slice (.int .u8)) (.slice (.pair (.int .i64) (.pair (.int .i64) (.pair (.int .i64) (.int .u32))))))))))) p0), (1, .im (.slice (.pair (.int .i64) (.pair (.int .i64) (.pair (.slice (.int .i16)) (.pair (.slice (.int .u8)) (.pair (.slice (.int .u8)) (.slice (.pair (.int .i64) (.pair (.int .i64) (.pair (.int .i64) (.int .u32))))))))))) p1), (5, .int .i64 x46), (6, .p 22500 0), (7, .p 22501 0), (9, .int .i64 s)]) (fun s => [(22500, some (.cells [.int .i64 (Kd.nth (.pair (.int .i64) (.pair (.int .i64) (.pair (.slice (.int .i16)) (.pair (.slice (.int .u8)) (.pair (.slice (.int .u8)) (.slice (.pair (.int .i64) (.pair (.int .i64) (.pair (.int .i64) (.int .u32)))))))))) p0 (Int.toNat x46)).1, .int .i64 (Kd.nth (.pair (.int .i64) (.pair (.int .i64) (.pair (.slice (.int .i16)) (.pair (.slice (.int .u8)) (.pair (.slice (.int .u8)) (.slice (.pair (.int .i64) (.pair (.int .i64) (.pair (.int .i64) (.int .u32)))))))))) p0 (Int.toNat x46)).2.1, .im (.slice (.int .i16)) (Kd.nth (.pair (.int .i64) (.pair (.int .i64) (.pair (.slice (.int .i16)) (.pair (.slice (.int .u8)) (.pair (.slice (.int .u8)) (.slice (.pair (.int .i64) (.pair (.int .i64) (.pair (.int .i64) (.int .u32)))))))))) p0 (Int.toNat x46)).2.2.1, .im (.slice (.int .u8)) (Kd.nth (.pair (.int .i64) (.pair (.int .i64) (.pair (.slice (.int .i16)) (.pair (.slice (.int .u8)) (.pair (.slice (.int .u8)) (.slice (.pair (.int .i64) (.pair (.int .i64) (.pair (.int .i64) (.int .u32)))))))))) p0 (Int.toNat x46)).2.2.2.1, .im (.slice (.int .u8)) (Kd.nth (.pair (.int .i64) (.pair (.int .i64) (.pair (.slice (.int .i16)) (.pair (.slice (.int .u8)) (.pair (.slice (.int .u8)) (.slice (.pair (.int .i64) (.pair (.int .i64) (.pair (.int .i64) (.int .u32)))))))))) p0 (Int.toNat x46)).2.2.2.2.1, .im (.slice (.pair (.int .i64) (.pair (.int .i64) (.pair (.int .i64) (.int .u32))))) (Kd.nth (.pair (.int .i64) (.pair (.int .i64) (.pair (.slice (.int .i16)) (.pair (.slice (.int .u8)) (.pair (.slice (.int .u8)) (.slice (.pair (.int .i64) (.pair (.int .i64) (.pair (.int .i64) (.int .u32)))))))))) p0 (Int.toNat x46)).2.2.2.2.2])), (22501, some (.cells [.int .i64 (Kd.nth (.pair (.int .i64) (.pair (.int .i64) (.pair (.slice (.int .i16)) (.pair (.slice (.int .u8)) (.pair (.slice (.int .u8)) (.slice (.pair (.int .i64) (.pair (.int .i64) (.pair (.int .i64) (.int .u32)))))))))) p1 (Int.toNat x46)).1, .int .i64 (Kd.nth (.pair (.int .i64) (.pair (.int .i64) (.pair (.slice (.int .i16)) (.pair (.slice (.int .u8)) (.pair (.slice (.int .u8)) (.slice (.pair (.int .i64) (.pair (.int .i64) (.pair (.int .i64) (.int .u32)))))))))) p1 (Int.toNat x46)).2.1, .im (.slice (.int .i16)) (Kd.nth (.pair (.int .i64) (.pair (.int .i64) (.pair (.slice (.int .i16)) (.pair (.slice (.int .u8)) (.pair (.slice (.int .u8)) (.slice (.pair (.int .i64) (.pair (.int .i64) (.pair (.int .i64) (.int .u32)))))))))) p1 (Int.toNat x46)).2.2.1, .im (.slice (.int .u8)) (Kd.nth (.pair (.int .i64) (.pair (.int .i64) (.pair (.slice (.int .i16)) (.pair (.slice (.int .u8)) (.pair (.slice (.int .u8)) (.slice (.pair (.int .i64) (.pair (.int .i64) (.pair (.int .i64) (.int .u32)))))))))) p1 (Int.toNat x46)).2.2.2.1, .im (.slice (.int .u8)) (Kd.nth (.pair (.int .i64) (.pair (.int .i64) (.pair (.slice (.int .i16)) (.pair (.slice (.int .u8)) (.pair (.slice (.int .u8)) (.slice (.pair (.int .i64) (.pair (.int .i64) (.pair (.int .i64) (.int .u32)))))))))) p1 (Int.toNat x46)).2.2.2.2.1, .im (.slice (.pair (.int .i64) (.pair (.int .i64) (.pair (.int .i64) (.int .u32))))) (Kd.nth (.pair (.int .i64) (.pair (.int .i64) (.pair (.slice (.int .i16)) (.pair (.slice (.int .u8)) (.pair (.slice (.int .u8)) (.slice (.pair (.int .i64) (.pair (.int .i64) (.pair (.int .i64) (.int .u32)))))))))) p1 (Int.toNat x46)).2.2.2.2.2]))]) K ?_ ?_
              · exact SP_ren [(22500, 21900), (22501, 21901)] _ h2 ⟨rfl, rfl, rfl, rfl, rfl, rfl, tv⟩ ⟨rfl, rfl, tv⟩ rfl
              rintro n x85 h2
              rcases n with _ | n
              · exact (nsome h2).elim
              replace h2 : psalteryref34_Same_4.r1 K p0 p1 x46 ((Kd.nth (.pair (.int .i64) (.pair (.int .i64) (.pair (.slice (.int .i16)) (.pair (.slice (.int .u8)) (.pair (.slice (.int .u8)) (.slice (.pair (.int .i64) (.pair (.int .i64) (.pair (.int .i64) (.int .u32)))))))))) p0 (Int.toNat x46)).1) ((Kd.nth (.pair (.int .i64) (.pair (.int .i64) (.pair (.slice (.int .i16)) (.pair (.slice (.int .u8)) (.pair (.slice (.int .u8)) (.slice (.pair (.int .i64) (.pair (.int .i64) (.pair (.int .i64) (.int .u32)))))))))) p0 (Int.toNat x46)).2.1) ((Kd.nth (.pair (.int .i64) (.pair (.int .i64) (.pair (.slice (.int .i16)) (.pair (.slice (.int .u8)) (.pair (.slice (.int .u8)) (.slice (.pair (.int .i64) (.pair (.int .i64) (.pair (.int .i64) (.int .u32)))))))))) p0 (Int.toNat x46)).2.2.1) ((Kd.nth (.pair (.int .i64) (.pair (.int .i64) (.pair (.slice (.int .i16)) (.pair (.slice (.int .u8)) (.pair (.slice (.int .u8)) (.slice (.pair (.int .i64) (.pair (.int .i64) (.pair (.int .i64) (.int .u32)))))))))) p0 (Int.toNat x46)).2.2.2.1) ((Kd.nth (.pair (.int .i64) (.pair (.int .i64) (.pair (.slice (.int .i16)) (.pair (.slice (.int .u8)) (.pair (.slice (.int .u8)) (.slice (.pair (.int .i64) (.pair (.int .i64) (.pair (.int .i64) (.int .u32)))))))))) p0 (Int.toNat x46)).2.2.2.2.1) ((Kd.nth (.pair (.int .i64) (.pair (.int .i64) (.pair (.slice (.int .i16)) (.pair (.slice (.int .u8)) (.pair (.slice (.int .u8)) (.slice (.pair (.int .i64) (.pair (.int .i64) (.pair (.int .i64) (.int .u32)))))))))) p0 (Int.toNat x46)).2.2.2.2.2) ((Kd.nth (.pair (.int .i64) (.pair (.int .i64) (.pair (.slice (.int .i16)) (.pair (.slice (.int .u8)) (.pair (.slice (.int .u8)) (.slice (.pair (.int .i64) (.pair (.int .i64) (.pair (.int .i64) (.int .u32)))))))))) p1 (Int.toNat x46)).1) ((Kd.nth (.pair (.int .i64) (.pair (.int .i64) (.pair (.slice (.int .i16)) (.pair (.slice (.int .u8)) (.pair (.slice (.int .u8)) (.slice (.pair (.int .i64) (.pair (.int .i64) (.pair (.int .i64) (.int .u32)))))))))) p1 (Int.toNat x46)).2.1) ((Kd.nth (.pair (.int .i64) (.pair (.int .i64) (.pair (.slice (.int .i16)) (.pair (.slice (.int .u8)) (.pair (.slice (.int .u8)) (.slice (.pair (.int .i64) (.pair (.int .i64) (.pair (.int .i64) (.int .u32)))))))))) p1 (Int.toNat x46)).2.2.1) ((Kd.nth (.pair (.int .i64) (.pair (.int .i64) (.pair (.slice (.int .i16)) (.pair (.slice (.int .u8)) (.pair (.slice (.int .u8)) (.slice (.pair (.int .i64) (.pair (.int .i64) (.pair (.int .i64) (.int .u32)))))))))) p1 (Int.toNat x46)).2.2.2.1) ((Kd.nth (.pair (.int .i64) (.pair (.int .i64) (.pair (.slice (.int .i16)) (.pair (.slice (.int .u8)) (.pair (.slice (.int .u8)) (.slice (.pair (.int .i64) (.pair (.int .i64) (.pair (.int .i64) (.int .u32)))))))))) p1 (Int.toNat x46)).2.2.2.2.1) ((Kd.nth (.pair (.int .i64) (.pair (.int .i64) (.pair (.slice (.int .i16)) (.pair (.slice (.int .u8)) (.pair (.slice (.int .u8)) (.slice (.pair (.int .i64) (.pair (.int .i64) (.pair (.int .i64) (.int .u32)))))))))) p1 (Int.toNat x46)).2.2.2.2.2) (psalteryref34_Same_4.l1 K p0 p1 x46 ((Kd.nth (.pair (.int .i64) (.pair (.int .i64) (.pair (.slice (.int .i16)) (.pair (.slice (.int .u8)) (.pair (.slice (.int .u8)) (.slice (.pair (.int .i64) (.pair (.int .i64) (.pair (.int .i64) (.int .u32)))))))))) p0 (Int.toNat x46)).1) ((Kd.nth (.pair (.int .i64) (.pair (.int .i64) (.pair (.slice (.int .i16)) (.pair (.slice (.int .u8)) (.pair (.slice (.int .u8)) (.slice (.pair (.int .i64) (.pair (.int .i64) (.pair (.int .i64) (.int .u32)))))))))) p0 (Int.toNat x46)).2.1) ((Kd.nth (.pair (.int .i64) (.pair (.int .i64) (.pair (.slice (.int .i16)) (.pair (.slice (.int .u8)) (.pair (.slice (.int .u8)) (.slice (.pair (.int .i64) (.pair (.int .i64) (.pair (.int .i64) (.int .u32)))))))))) p0 (Int.toNat x46)).2.2.1) ((Kd.nth (.pair (.int .i64) (.pair (.int .i64) (.pair (.slice (.int .i16)) (.pair (.slice (.int .u8)) (.pair (.slice (.int .u8)) (.slice (.pair (.int .i64) (.pair (.int .i64) (.pair (.int .i64) (.int .u32)))))))))) p0 (Int.toNat x46)).2.2.2.1) ((Kd.nth (.pair (.int .i64) (.pair (.int .i64) (.pair (.slice (.int .i16)) (.pair (.slice (.int .u8)) (.pair (.slice (.int .u8)) (.slice (.pair (.int .i64) (.pair (.int .i64) (.pair (.int .i64) (.int .u32)))))))))) p0 (Int.toNat x46)).2.2.2.2.1) ((Kd.nth (.pair (.int .i64) (.pair (.int .i64) (.pair (.slice (.int .i16)) (.pair (.slice (.int .u8)) (.pair (.slice (.int .u8)) (.slice (.pair (.int .i64) (.pair (.int .i64) (.pair (.int .i64) (.int .u32)))))))))) p0 (Int.toNat x46)).2.2.2.2.2) ((Kd.nth (.pair (.int .i64) (.pair (.int .i64) (.pair (.slice (.int .i16)) (.pair (.slice (.int .u8)) (.pair (.slice (.int .u8)) (.slice (.pair (.int .i64) (.pair (.int .i64) (.pair (.int .i64) (.int .u32)))))))))) p1 (Int.toNat x46)).1) ((Kd.nth (.pair (.int .i64) (.pair (.int .i64) (.pair (.slice (.int .i16)) (.pair (.slice (.int .u8)) (.pair (.slice (.int .u8)) (.slice (.pair (.int .i64) (.pair (.int .i64) (.pair (.int .i64) (.int .u32)))))))))) p1 (Int.toNat x46)).2.1) ((Kd.nth (.pair (.int .i64) (.pair (.int .i64) (.pair (.slice (.int .i16)) (.pair (.slice (.int .u8)) (.pair (.slice (.int .u8)) (.slice (.pair (.int .i64) (.pair (.int .i64) (.pair (.int .i64) (.int .u32)))))))))) p1 (Int.toNat x46)).2.2.1) ((Kd.nth (.pair (.int .i64) (.pair (.int .i64) (.pair (.slice (.int .i16)) (.pair (.slice (.int .u8)) (.pair (.slice (.int .u8)) (.slice (.pair (.int .i64) (.pair (.int .i64) (.pair (.int .i64) (.int .u32)))))))))) p1 (Int.toNat x46)).2.2.2.1) ((Kd.nth (.pair (.int .i64) (.pair (.int .i64) (.pair (.slice (.int .i16)) (.pair (.slice (.int .u8)) (.pair (.slice (.int .u8)) (.slice (.pair (.int .i64) (.pair (.int .i64) (.pair (.int .i64) (.int .u32)))))))))) p1 (Int.toNat x46)).2.2.2.2.1) ((Kd.nth (.pair (.int .i64) (.pair (.int .i64) (.pair (.slice (.int .i16)) (.pair (.slice (.int .u8)) (.pair (.slice (.int .u8)) (.slice (.pair (.int .i64) (.pair (.int .i64) (.pair (.int .i64) (.int .u32)))))))))) p1 (Int.toNat x46)).2.2.2.2.2) n) x85 = some z2 := h2
              refine TC_seq ?_
              refine TC_seq ?_
              refine TC_reg ?_
              refine TL_ev env 5 rfl ⟨tv, ⟨tv, ⟨⟨tv, tv⟩, ⟨⟨tv, tv⟩, ⟨⟨tv, ⟨tv, tv⟩⟩, tv⟩⟩⟩⟩⟩ ?_
              refine TL_end ?_
              refine TE_go ?_
              refine TC_cond rfl (fun hb => ?_) (fun hb => ?_)
              · replace h2 := bif_t h2 hb
                refine TC_skip ?_
                refine TE_go ?_
                refine TC_seq ?_
                refine TC_blk ?_
                refine TC_seq ?_
                refine TC_renw (A' := [(0, .im (.slice (.pair (.int .i64) (.pair (.int .i64) (.pair (.slice (.int .i16)) (.pair (.slice (.int .u8)) (.pair (.slice (.int .u8)) (.slice (.pair (.int .i64) (.pair (.int .i64) (.pair (.int .i64) (.int .u32))))))))))) _), (1, .im (.slice (.pair (.int .i64) (.pair (.int .i64) (.pair (.slice (.int .i16)) (.pair (.slice (.int .u8)) (.pair (.slice (.int .u8)) (.slice (.pair (.int .i64) (.pair (.int .i64) (.pair (.int .i64) (.int .u32))))))))))) _), (5, .int .i64 _), (6, .p 22500 0), (7, .p 22501 0), (9, .int .i64 _)]) (L' := [(22500, some (.cells [.int .i64 _, .int .i64 _, .im (.slice (.int .i16)) _, .im (.slice (.int .u8)) _, .im (.slice (.int .u8)) _, .im (.slice (.pair (.int .i64) (.pair (.int .i64) (.pair (.int .i64) (.int .u32))))) _])), (22501, some (.cells [.int .i64 _, .int .i64 _, .im (.slice (.int .i16)) _, .im (.slice (.int .u8)) _, .im (.slice (.int .u8)) _, .im (.slice (.pair (.int .i64) (.pair (.int .i64) (.pair (.int .i64) (.int .u32))))) _]))]) [] ⟨rfl, rfl, rfl, rfl, rfl, rfl, tv⟩ ⟨rfl, rfl, tv⟩ rfl ?_
                refine TC_drawR ⟨_, fun i => ([[], [0], [], [2, 1, 0], [3, 2, 1, 0], [], [5], [], [7, 6, 5], [8, 7, 6, 5], [9, 8, 7, 6, 5, 4, 3, 2, 1, 0]] : List (List Nat)).getD i [], fun i => ([[], [], [], [], [], [], [], [], [], [], []] : List (List Nat)).getD i [], fun i => ([[], [], [], [], [], [], [], [], [], [], []] : List (List Nat)).getD i []⟩ (fun i => ([[], [], [], [], [], [], [], [], [], [], []] : List (List Nat)).getD i []) (by kernel_rfl) (by kernel_rfl) ?_
                refine AJR_ev env 1 rfl (Nat.le_of_ble_eq_true rfl) rfl tv ?_
                refine AJR_ev env 2 rfl (Nat.le_of_ble_eq_true rfl) rfl ⟨tv, tv⟩ ?_
                refine AJR_ev env 3 rfl (Nat.le_of_ble_eq_true rfl) rfl tv ?_
                obtain ⟨g, h2⟩ := gd_t h2
                refine AJR_ev env 4 rfl (Nat.le_of_ble_eq_true rfl) rfl ⟨tv, ⟨tv, ⟨g.1, g.2⟩⟩⟩ ?_
                refine AJR_ev env 5 rfl (Nat.le_of_ble_eq_true rfl) rfl ⟨tv, tv⟩ ?_
                refine AJR_ev env 6 rfl (Nat.le_of_ble_eq_true rfl) rfl tv ?_
                refine AJR_ev env 7 rfl (Nat.le_of_ble_eq_true rfl) rfl ⟨tv, tv⟩ ?_
                refine AJR_ev env 8 rfl (Nat.le_of_ble_eq_true rfl) rfl tv ?_
                obtain ⟨g, h2⟩ := gd_t h2
                refine AJR_ev env 9 rfl (Nat.le_of_ble_eq_true rfl) rfl ⟨tv, ⟨tv, ⟨g.1, g.2⟩⟩⟩ ?_
                refine AJR_ev env 10 rfl (Nat.le_of_ble_eq_true rfl) rfl ⟨tv, tv⟩ ?_
                refine AJR_ev env 11 rfl (Nat.le_of_ble_eq_true rfl) rfl ⟨tv, ⟨tv, tv⟩⟩ ?_
                refine AJR_end rfl rfl rfl ?_
                refine TE_go ?_
                refine TC_cond rfl (fun hb => ?_) (fun hb => ?_)
                · replace h2 := bif_t h2 hb
                  refine TC_seq ?_
                  refine TC_reg ?_
                  refine TL_ev env 1 rfl ⟨tv, tv⟩ ?_
                  refine TL_end ?_
                  refine TE_go ?_
                  refine TC_ret ?_
                  refine tbr ?_
                  refine tsr ?_
                  refine tsr ?_
                  refine tbr ?_
                  refine tsr ?_
                  refine tbr ?_
                  refine tsr ?_
                  refine tsr ?_
                  refine tbr ?_
                  refine tsr ?_
                  refine tsr ?_
                  obtain rfl := sinj h2
                  obtain rfl := sinj h1
                  obtain rfl := sinj h0
                  exact TE_ret env rfl tv tv
                · replace h2 := bif_f h2 hb
                  refine TC_skip ?_
                  refine tbn ?_
                  refine TE_go ?_
                  refine TC_reg ?_
                  refine TL_ev env 3 rfl ⟨tv, ⟨⟨tv, ⟨tv, tv⟩⟩, ⟨tv, tv⟩⟩⟩ ?_
                  refine TL_end ?_
                  refine tsn ?_
                  exact TE_nextr [(22500, 22500), (22501, 22501)] n (Nat.lt_succ_self n) _ h2 ⟨rfl, rfl, rfl, rfl, rfl, rfl, tv⟩ ⟨rfl, rfl, tv⟩ rfl
              · replace h2 := bif_f h2 hb
                refine TC_exit ?_
                refine tsx ?_
                refine tsx ?_
                refine tbe ?_
                obtain rfl := sinj h2
                refine tsn ?_
                exact SP_ren [] () rfl ⟨rfl, rfl, rfl, tv⟩ tv rfl
            · rintro ⟨⟩ rfl
              refine tbn ?_
              refine TE_go ?_
              refine TC_reg ?_
              refine TL_ev env 3 rfl ⟨tv, ⟨⟨tv, ⟨tv, tv⟩⟩, ⟨tv, tv⟩⟩⟩ ?_
              refine TL_end ?_
              refine tsn ?_
              exact TE_nextr [] n (Nat.lt_succ_self n) _ h1 ⟨rfl, rfl, rfl, tv⟩ tv rfl
      · replace h1 := bif_f h1 hb
        refine TC_exit ?_
        refine tsx ?_
        refine tsx ?_
        refine tbe ?_
        obtain rfl := sinj h1
        refine tsn ?_
        exact SP_ren [] () rfl tv tv rfl
    · rintro ⟨⟩ rfl
      refine TE_go ?_
      refine TC_seq ?_
      refine TC_reg ?_
      refine TL_ev env 1 rfl ⟨tv, tv⟩ ?_
      refine TL_end ?_
      refine TE_go ?_
      refine TC_ret ?_
      obtain rfl := sinj h0
      exact TE_ret env rfl tv tv
theorem psalteryref34_Same_4.ok0 {K : Nat} {p0 : List ((Int × (Int × (List (Int) × (List (Int) × (List (Int) × List ((Int × (Int × (Int × Int))))))))))} {p1 : List ((Int × (Int × (List (Int) × (List (Int) × (List (Int) × List ((Int × (Int × (Int × Int))))))))))} {q0 : Bool} (h0 : psalteryref34_Same_4 K p0 p1 = some q0) : Fn Tryd.prog 9 [.im (.slice (.pair (.int .i64) (.pair (.int .i64) (.pair (.slice (.int .i16)) (.pair (.slice (.int .u8)) (.pair (.slice (.int .u8)) (.slice (.pair (.int .i64) (.pair (.int .i64) (.pair (.int .i64) (.int .u32))))))))))) p0, .im (.slice (.pair (.int .i64) (.pair (.int .i64) (.pair (.slice (.int .i16)) (.pair (.slice (.int .u8)) (.pair (.slice (.int .u8)) (.slice (.pair (.int .i64) (.pair (.int .i64) (.pair (.int .i64) (.int .u32))))))))))) p1] [] (.bool q0) [] := psalteryref34_Same_4.ok h0
theorem psalteryref34_Same_4.fnb : fnb Tryd.prog 9 = true := fnb_of Tryd.func9 rfl
end Go.Fo
