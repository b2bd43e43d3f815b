/- Each call comes to the function that is written for it. -/
import Derived.Test.YtphienllhdoenaaDoorSc3T
import Derived.Test.YtphienllhdoenaaDoorSc3F
import Derived.Test.YtphienllhdoenaaDoorSx
import Derived.Test.YtphienllhdoenaaDoorSc3P0
import Derived.Test.YtphienllhdoenaaDoorSc3P1
namespace Go.Fo
open Go.Proofs
set_option maxRecDepth 20000
set_option maxHeartbeats 4000000
def psalterylaw34_ScoreParses.res (_p0 : ByteArray) : Bool → MV
  | q0 => .bool q0
def psalterylaw34_ScoreParses.out (_p0 : ByteArray) : Bool → List (Nat × Option MObj)
  | _ => []
theorem psalterylaw34_ScoreParses.ok {K : Nat} {p0 : ByteArray} {r : Bool} (h0 : psalterylaw34_ScoreParses K p0 = some r) : Fn Tryd.prog 3 [.str p0] [] (psalterylaw34_ScoreParses.res p0 r) (psalterylaw34_ScoreParses.out p0 r) := by
  refine Fn_of Tryd.func3 rfl (Nat.le_of_ble_eq_true rfl) fun Γ => ?_
  refine TC_seq ?_
  refine TC_reg ?_
  refine TL_ev env 1 rfl ⟨tv, tv⟩ ?_
  refine TL_end ?_
  refine TE_go ?_
  refine TC_seq ?_
  refine TC_seq ?_
  refine TC_reg ?_
  obtain ⟨r16, hr, h0⟩ := bnd h0
  refine TL_callB [] (psalterylaw34_alive.ok0 hr) psalterylaw34_alive.fnb rfl ⟨tv, tv⟩ rfl tv rfl ?_
  refine TL_ev env 1 rfl ⟨tv, tv⟩ ?_
  refine TL_end ?_
  refine TE_go ?_
  refine TC_cond rfl (fun hb => ?_) (fun hb => ?_)
  · replace h0 := bif_t h0 hb
    refine TC_seq ?_
    refine TC_reg ?_
    refine TL_ev env 1 rfl ⟨tv, tv⟩ ?_
    refine TL_end ?_
    refine TE_go ?_
    refine TC_ret ?_
    refine tsr ?_
    obtain rfl := sinj h0
    exact TE_ret env rfl tv tv
  · replace h0 := bif_f h0 hb
    refine TC_skip ?_
    refine TE_go ?_
    refine TC_seq ?_
    refine TC_seq ?_
    refine TC_reg ?_
    refine TL_ev env 8 rfl ⟨tv, ⟨⟨tv, tv⟩, ⟨⟨tv, ⟨tv, tv⟩⟩, ⟨tv, ⟨fun eg => tv, ⟨fun eg => ⟨fun e => e, tv⟩, ⟨fun eg => ⟨fun e => e, ⟨tv, tv⟩⟩, ⟨⟨tv, ⟨fun e => e, tv⟩⟩, tv⟩⟩⟩⟩⟩⟩⟩⟩ ?_
    refine TL_end ?_
    refine TE_go ?_
    refine TC_cond rfl (fun hb => ?_) (fun hb => ?_)
    · replace h0 := bif_t h0 hb
      refine TC_seq ?_
      refine TC_reg ?_
      refine TL_ev env 1 rfl ⟨tv, tv⟩ ?_
      refine TL_end ?_
      refine TE_go ?_
      refine TC_ret ?_
      refine tsr ?_
      obtain rfl := sinj h0
      exact TE_ret env rfl tv tv
    · replace h0 := bif_f h0 hb
      refine TC_skip ?_
      refine TE_go ?_
      refine TC_seq ?_
      refine TC_reg ?_
      refine TL_ev env 1 rfl ⟨tv, tv⟩ ?_
      obtain ⟨z, hr, h0⟩ := bnd h0
      rcases z with ⟨r20, r21⟩ | r22
      · refine TL_callB [] (score_Parse.ok0 hr) score_Parse.fnb rfl ⟨tv, ⟨tv, tv⟩⟩ rfl tv rfl ?_
        refine TL_ev env 7 rfl ⟨tv, ⟨tv, ⟨tv, ⟨tv, ⟨tv, ⟨tv, ⟨tv, tv⟩⟩⟩⟩⟩⟩⟩ ?_
        refine TL_end ?_
        refine TE_go ?_
        refine TC_seq ?_
        refine TC_reg ?_
        refine TL_ev env 1 rfl ⟨tv, tv⟩ ?_
        obtain ⟨z, hr, h0⟩ := bnd h0
        rcases z with ⟨r23, r24⟩ | r25
        · refine TL_callB [] (psalteryref34_Parse.ok0 hr) psalteryref34_Parse.fnb rfl ⟨tv, ⟨tv, tv⟩⟩ rfl tv rfl ?_
          refine TL_ev env 7 rfl ⟨tv, ⟨tv, ⟨tv, ⟨tv, ⟨tv, ⟨tv, ⟨tv, tv⟩⟩⟩⟩⟩⟩⟩ ?_
          refine TL_end ?_
          refine TE_go ?_
          refine TC_seq ?_
          refine TC_reg ?_
          refine TL_ev env 1 rfl ⟨tv, tv⟩ ?_
          obtain ⟨⟨⟩, hr, h0⟩ := bnd h0
          refine TL_callB [] (psalterylaw34_to.ok0 hr) psalterylaw34_to.fnb rfl ⟨tv, ⟨tv, tv⟩⟩ rfl tv rfl ?_
          refine TL_ev env 1 rfl ⟨tv, tv⟩ ?_
          obtain ⟨⟨⟩, hr, h0⟩ := bnd h0
          refine TL_callB [] (psalteryref34_Same.ok0 hr) psalteryref34_Same.fnb rfl ⟨tv, ⟨tv, ⟨tv, tv⟩⟩⟩ rfl tv rfl ?_
          refine TL_ev env 1 rfl ⟨tv, tv⟩ ?_
          refine TL_gt rfl rfl rfl rfl ?_
          refine TL_ev env 1 rfl ⟨tv, tv⟩ ?_
          refine TL_gt rfl rfl rfl rfl ?_
          refine TL_ev env 1 rfl ⟨tv, tv⟩ ?_
          refine TL_gt rfl rfl rfl rfl ?_
          refine TL_ev env 8 rfl ⟨⟨tv, ⟨tv, tv⟩⟩, ⟨⟨tv, ⟨tv, tv⟩⟩, ⟨tv, ⟨fun eg => tv, ⟨fun eg => tv, ⟨fun eg => ⟨fun e => e, ⟨fun e => e, tv⟩⟩, ⟨⟨tv, ⟨fun e => e, tv⟩⟩, ⟨tv, tv⟩⟩⟩⟩⟩⟩⟩⟩ ?_
          refine TL_end ?_
          refine TE_go ?_
          refine TC_ret ?_
          obtain rfl := sinj h0
          exact TE_ret env rfl tv tv
        · refine TL_callB [] (psalteryref34_Parse.ok1 hr) psalteryref34_Parse.fnb rfl ⟨tv, ⟨tv, tv⟩⟩ rfl tv rfl ?_
          refine TL_ev env 7 rfl ⟨tv, ⟨tv, ⟨tv, ⟨tv, ⟨tv, ⟨tv, ⟨tv, tv⟩⟩⟩⟩⟩⟩⟩ ?_
          refine TL_end ?_
          refine TE_go ?_
          refine TC_seq ?_
          refine TC_reg ?_
          refine TL_ev env 1 rfl ⟨tv, tv⟩ ?_
          obtain ⟨⟨⟩, hr, h0⟩ := bnd h0
          refine TL_callB [] (psalterylaw34_to.ok0 hr) psalterylaw34_to.fnb rfl ⟨tv, ⟨tv, tv⟩⟩ rfl tv rfl ?_
          refine TL_ev env 1 rfl ⟨tv, tv⟩ ?_
          obtain ⟨r27, hr, h0⟩ := bnd h0
          refine TL_callB [] (psalteryref34_Same_2.ok0 hr) psalteryref34_Same_2.fnb rfl ⟨tv, ⟨tv, ⟨tv, tv⟩⟩⟩ rfl tv rfl ?_
          refine TL_ev env 11 rfl ⟨tv, ⟨fun eg => tv, ⟨fun eg => tv, ⟨fun eg => ⟨fun e => e, ⟨fun e => e, tv⟩⟩, ⟨⟨tv, ⟨fun e => e, tv⟩⟩, ⟨tv, ⟨fun eg => tv, ⟨fun eg => tv, ⟨fun eg => ⟨fun e => e, ⟨fun e => e, tv⟩⟩, ⟨⟨tv, ⟨fun e => e, tv⟩⟩, ⟨tv, tv⟩⟩⟩⟩⟩⟩⟩⟩⟩⟩⟩ ?_
          refine TL_end ?_
          refine TE_go ?_
          refine TC_ret ?_
          obtain rfl := sinj h0
          exact TE_ret env rfl tv tv
      · refine TL_callB [] (score_Parse.ok1 hr) score_Parse.fnb rfl ⟨tv, ⟨tv, tv⟩⟩ rfl tv rfl ?_
        refine TL_ev env 7 rfl ⟨tv, ⟨tv, ⟨tv, ⟨tv, ⟨tv, ⟨tv, ⟨tv, tv⟩⟩⟩⟩⟩⟩⟩ ?_
        refine TL_end ?_
        refine TE_go ?_
        refine TC_seq ?_
        refine TC_reg ?_
        refine TL_ev env 1 rfl ⟨tv, tv⟩ ?_
        obtain ⟨z, hr, h0⟩ := bnd h0
        rcases z with ⟨r30, r31⟩ | r32
        · refine TL_callB [] (psalteryref34_Parse.ok0 hr) psalteryref34_Parse.fnb rfl ⟨tv, ⟨tv, tv⟩⟩ rfl tv rfl ?_
          refine TL_ev env 7 rfl ⟨tv, ⟨tv, ⟨tv, ⟨tv, ⟨tv, ⟨tv, ⟨tv, tv⟩⟩⟩⟩⟩⟩⟩ ?_
          refine TL_end ?_
          refine TE_go ?_
          refine TC_seq ?_
          refine TC_reg ?_
          refine TL_ev env 1 rfl ⟨tv, tv⟩ ?_
          obtain ⟨r33, hr, h0⟩ := bnd h0
          refine TL_callB [] (psalterylaw34_to_2.ok0 hr) psalterylaw34_to_2.fnb rfl ⟨tv, ⟨tv, tv⟩⟩ rfl tv rfl ?_
          refine TL_ev env 1 rfl ⟨tv, tv⟩ ?_
          obtain ⟨r34, hr, h0⟩ := bnd h0
          refine TL_callB [] (psalteryref34_Same_3.ok0 hr) psalteryref34_Same_3.fnb rfl ⟨tv, ⟨tv, ⟨tv, tv⟩⟩⟩ rfl tv rfl ?_
          refine TL_ev env 11 rfl ⟨tv, ⟨fun eg => tv, ⟨fun eg => tv, ⟨fun eg => ⟨fun e => e, ⟨fun e => e, tv⟩⟩, ⟨⟨tv, ⟨fun e => e, tv⟩⟩, ⟨tv, ⟨fun eg => tv, ⟨fun eg => tv, ⟨fun eg => ⟨fun e => e, ⟨fun e => e, tv⟩⟩, ⟨⟨tv, ⟨fun e => e, tv⟩⟩, ⟨tv, tv⟩⟩⟩⟩⟩⟩⟩⟩⟩⟩⟩ ?_
          refine TL_end ?_
          refine TE_go ?_
          refine TC_ret ?_
          obtain rfl := sinj h0
          exact TE_ret env rfl tv tv
        · refine TL_callB [] (psalteryref34_Parse.ok1 hr) psalteryref34_Parse.fnb rfl ⟨tv, ⟨tv, tv⟩⟩ rfl tv rfl ?_
          refine TL_ev env 7 rfl ⟨tv, ⟨tv, ⟨tv, ⟨tv, ⟨tv, ⟨tv, ⟨tv, tv⟩⟩⟩⟩⟩⟩⟩ ?_
          refine TL_end ?_
          refine TE_go ?_
          refine TC_seq ?_
          refine TC_reg ?_
          refine TL_ev env 1 rfl ⟨tv, tv⟩ ?_
          obtain ⟨r37, hr, h0⟩ := bnd h0
          refine TL_callB [] (psalterylaw34_to_2.ok0 hr) psalterylaw34_to_2.fnb rfl ⟨tv, ⟨tv, tv⟩⟩ rfl tv rfl ?_
          refine TL_ev env 1 rfl ⟨tv, tv⟩ ?_
          obtain ⟨r38, hr, h0⟩ := bnd h0
          refine TL_callB [] (psalteryref34_Same_4.ok0 hr) psalteryref34_Same_4.fnb rfl ⟨tv, ⟨tv, ⟨tv, tv⟩⟩⟩ rfl tv rfl ?_
          refine TL_ev env 11 rfl ⟨tv, ⟨fun eg => tv, ⟨fun eg => tv, ⟨fun eg => ⟨fun e => e, ⟨fun e => e, tv⟩⟩, ⟨⟨tv, ⟨fun e => e, tv⟩⟩, ⟨tv, ⟨fun eg => tv, ⟨fun eg => tv, ⟨fun eg => ⟨fun e => e, ⟨fun e => e, tv⟩⟩, ⟨⟨tv, ⟨fun e => e, tv⟩⟩, ⟨tv, tv⟩⟩⟩⟩⟩⟩⟩⟩⟩⟩⟩ ?_
          refine TL_end ?_
          refine TE_go ?_
          refine TC_ret ?_
          obtain rfl := sinj h0
          exact TE_ret env rfl tv tv
theorem psalterylaw34_ScoreParses.ok0 {K : Nat} {p0 : ByteArray} {q0 : Bool} (h0 : psalterylaw34_ScoreParses K p0 = some q0) : Fn Tryd.prog 3 [.str p0] [] (.bool q0) [] := psalterylaw34_ScoreParses.ok h0
theorem psalterylaw34_ScoreParses.fnb : fnb Tryd.prog 3 = true := fnb_of Tryd.func3 rfl
end Go.Fo
