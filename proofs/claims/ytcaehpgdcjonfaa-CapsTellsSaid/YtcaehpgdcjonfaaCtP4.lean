/- Each call comes to the function that is written for it. -/
import Derived.Test.YtcaehpgdcjonfaaCtT
import Derived.Test.YtcaehpgdcjonfaaCtF
import Derived.Test.YtcaehpgdcjonfaaCtP0
import Derived.Test.YtcaehpgdcjonfaaCtP1
import Derived.Test.YtcaehpgdcjonfaaCtP2
import Derived.Test.YtcaehpgdcjonfaaCtP3
namespace Go.Fo
open Go.Proofs
set_option maxRecDepth 20000
set_option maxHeartbeats 4000000
def psalterylaw23_CapsTells.res (_p0 : Int) (_p1 : Int) (_p2 : Int) (_p3 : Int) (_p4 : Int) (_p5 : Int) (_p6 : Int) (_p7 : Int) (_p8 : Int) (_p9 : Int) (_p10 : Int) (_p11 : Int) (_p12 : Int) (_p13 : Int) (_p14 : Int) (_p15 : Int) (_p16 : Int) (_p17 : Int) (_p18 : Int) (_p19 : Int) (_p20 : Int) (_p21 : Int) (_p22 : Int) (_p23 : Int) (_p24 : Int) (_p25 : Int) (_p26 : Int) : Bool → MV
  | q0 => .bool q0
def psalterylaw23_CapsTells.out (_p0 : Int) (_p1 : Int) (_p2 : Int) (_p3 : Int) (_p4 : Int) (_p5 : Int) (_p6 : Int) (_p7 : Int) (_p8 : Int) (_p9 : Int) (_p10 : Int) (_p11 : Int) (_p12 : Int) (_p13 : Int) (_p14 : Int) (_p15 : Int) (_p16 : Int) (_p17 : Int) (_p18 : Int) (_p19 : Int) (_p20 : Int) (_p21 : Int) (_p22 : Int) (_p23 : Int) (_p24 : Int) (_p25 : Int) (_p26 : Int) : Bool → List (Nat × Option MObj)
  | _ => []
theorem psalterylaw23_CapsTells.ok {K : Nat} {p0 : Int} {p1 : Int} {p2 : Int} {p3 : Int} {p4 : Int} {p5 : Int} {p6 : Int} {p7 : Int} {p8 : Int} {p9 : Int} {p10 : Int} {p11 : Int} {p12 : Int} {p13 : Int} {p14 : Int} {p15 : Int} {p16 : Int} {p17 : Int} {p18 : Int} {p19 : Int} {p20 : Int} {p21 : Int} {p22 : Int} {p23 : Int} {p24 : Int} {p25 : Int} {p26 : Int} {r : Bool} (h0 : psalterylaw23_CapsTells K p0 p1 p2 p3 p4 p5 p6 p7 p8 p9 p10 p11 p12 p13 p14 p15 p16 p17 p18 p19 p20 p21 p22 p23 p24 p25 p26 = some r) : Fn Try.prog 11 [.agg [.int .i64 p0, .int .i64 p1, .int .i64 p2, .int .i64 p3, .int .i64 p4, .int .i64 p5, .int .i64 p6, .int .i64 p7, .int .i64 p8, .int .i64 p9, .int .i64 p10, .int .i64 p11, .int .i64 p12, .int .i64 p13, .int .i64 p14], .agg [.int .i64 p15, .int .i64 p16, .int .i64 p17, .int .i64 p18, .int .i64 p19, .int .i64 p20, .int .i64 p21, .int .i64 p22, .int .i64 p23, .int .i64 p24], .agg [.int .i64 p25, .int .i64 p26]] [] (psalterylaw23_CapsTells.res p0 p1 p2 p3 p4 p5 p6 p7 p8 p9 p10 p11 p12 p13 p14 p15 p16 p17 p18 p19 p20 p21 p22 p23 p24 p25 p26 r) (psalterylaw23_CapsTells.out p0 p1 p2 p3 p4 p5 p6 p7 p8 p9 p10 p11 p12 p13 p14 p15 p16 p17 p18 p19 p20 p21 p22 p23 p24 p25 p26 r) := by
  refine Fn_of Try.func11 rfl (Nat.le_of_ble_eq_true rfl) fun Γ => ?_
  refine TC_seq ?_
  refine TC_reg ?_
  refine TL_ev env 4 rfl ⟨trivial, ⟨trivial, ⟨trivial, ⟨trivial, trivial⟩⟩⟩⟩ ?_
  refine TL_end ?_
  refine TE_go ?_
  refine TC_seq ?_
  refine TC_seq ?_
  refine TC_reg ?_
  obtain ⟨r27, hr, h0⟩ := bnd h0
  refine TL_callB [] (psalterylaw23_alive.ok0 hr) psalterylaw23_alive.fnb rfl ⟨trivial, trivial⟩ rfl trivial rfl ?_
  refine TL_ev env 1 rfl ⟨trivial, trivial⟩ ?_
  refine TL_end ?_
  refine TE_go ?_
  refine TC_cond rfl (fun hb => ?_) (fun hb => ?_)
  · replace h0 := bif_t h0 hb
    refine TC_seq ?_
    refine TC_reg ?_
    refine TL_ev env 1 rfl ⟨trivial, trivial⟩ ?_
    refine TL_end ?_
    refine TE_go ?_
    refine TC_ret ?_
    refine tsr ?_
    obtain rfl := sinj h0
    exact TE_ret env rfl trivial trivial
  · replace h0 := bif_f h0 hb
    refine TC_skip ?_
    refine TE_go ?_
    refine TC_seq ?_
    refine TC_reg ?_
    refine TL_ev env 1 rfl ⟨⟨trivial, trivial⟩, trivial⟩ ?_
    obtain ⟨r28, hr, h0⟩ := bnd h0
    refine TL_callB [] (psalteryref23_Check.ok0 hr) psalteryref23_Check.fnb rfl ⟨trivial, ⟨trivial, trivial⟩⟩ rfl trivial rfl ?_
    refine TL_ev env 1 rfl ⟨trivial, trivial⟩ ?_
    refine TL_end ?_
    refine TE_go ?_
    refine TC_seq ?_
    refine TC_reg ?_
    refine TL_ev env 1 rfl ⟨⟨trivial, trivial⟩, trivial⟩ ?_
    obtain ⟨⟨⟩, hr, h0⟩ := bnd h0
    refine TL_callB [] (psalterylaw23_Of.ok0 hr) psalterylaw23_Of.fnb rfl ⟨trivial, ⟨trivial, trivial⟩⟩ rfl trivial rfl ?_
    obtain ⟨z, hr, h0⟩ := bnd h0
    rcases z with r29 | r30
    · refine TL_callB [] (caps_Bytes.ok0 hr) caps_Bytes.fnb rfl ⟨trivial, ⟨trivial, trivial⟩⟩ rfl trivial rfl ?_
      refine TL_ev env 5 rfl ⟨trivial, ⟨trivial, ⟨trivial, ⟨trivial, ⟨trivial, trivial⟩⟩⟩⟩⟩ ?_
      refine TL_end ?_
      refine TE_go ?_
      refine TC_seq ?_
      refine TC_seq ?_
      obtain ⟨z1, h1, h0⟩ := bnd h0
      refine TC_cut (α := Bool) (fun s => z1 = s) (fun s => [(3, .p 10700 0), (7, .bool r28), (8, .nils), (9, .int .i64 r29), (37, .bool s)]) (fun s => [(10700, some (.cells [.int .i64 p0, .int .i64 p1, .int .i64 p2, .int .i64 p3, .int .i64 p4, .int .i64 p5, .int .i64 p6, .int .i64 p7, .int .i64 p8, .int .i64 p9, .int .i64 p10, .int .i64 p11, .int .i64 p12, .int .i64 p13, .int .i64 p14]))]) ?_ ?_
      · refine TC_renw (A' := [(3, .p 1003 0), (4, .p 1004 0), (5, .p 1005 0), (7, .bool _), (8, .nils), (9, .int .i64 _)]) (L' := [(1003, some (.cells [.int .i64 _, .int .i64 _, .int .i64 _, .int .i64 _, .int .i64 _, .int .i64 _, .int .i64 _, .int .i64 _, .int .i64 _, .int .i64 _, .int .i64 _, .int .i64 _, .int .i64 _, .int .i64 _, .int .i64 _])), (1004, some (.cells [.int .i64 _, .int .i64 _, .int .i64 _, .int .i64 _, .int .i64 _, .int .i64 _, .int .i64 _, .int .i64 _, .int .i64 _, .int .i64 _])), (1005, some (.cells [.int .i64 _, .int .i64 _]))]) [] ⟨rfl, rfl, rfl, rfl, rfl, rfl, trivial⟩ ⟨rfl, rfl, rfl, trivial⟩ rfl ?_
        refine TC_drawR ⟨_, fun i => ([[], [], [1], [2, 1], [3, 2, 1], [4, 3, 2, 1, 0], [5, 4, 3, 2, 1, 0], [6, 5, 4, 3, 2, 1, 0], [7, 6, 5, 4, 3, 2, 1, 0], [6, 5, 4, 3, 2, 1, 0], [6, 5, 4, 3, 2, 1, 0], [10, 9, 8, 7, 6, 5, 4, 3, 2, 1, 0], [6, 5, 4, 3, 2, 1, 0], [6, 5, 4, 3, 2, 1, 0], [6, 5, 4, 3, 2, 1, 0], [14, 13, 12, 11, 10, 9, 8, 7, 6, 5, 4, 3, 2, 1, 0], [15, 14, 13, 12, 11, 10, 9, 8, 7, 6, 5, 4, 3, 2, 1, 0], [16, 15, 14, 13, 12, 11, 10, 9, 8, 7, 6, 5, 4, 3, 2, 1, 0]] : List (List Nat)).getD i [], fun i => ([[], [], [], [], [], [], [], [], [], [], [], [], [], [], [], [], [], []] : List (List Nat)).getD i [], fun i => ([[], [], [], [], [], [], [], [], [], [], [], [], [], [], [], [], [], []] : List (List Nat)).getD i []⟩ (fun i => ([[], [], [], [], [], [], [], [], [], [], [], [], [], [], [], [], [], []] : List (List Nat)).getD i []) (by kernel_rfl) (by kernel_rfl) ?_
        refine AJR_ev env 1 rfl (Nat.le_of_ble_eq_true rfl) rfl trivial ?_
        refine AJR_ev env 2 rfl (Nat.le_of_ble_eq_true rfl) rfl ⟨trivial, trivial⟩ ?_
        obtain ⟨⟨⟩, hr, h1⟩ := bnd h1
        refine AJR_call 3 rfl (Nat.le_of_ble_eq_true rfl) [] rfl (psalterylaw23_Of.ok0 hr) psalterylaw23_Of.fnb rfl ⟨trivial, ⟨trivial, trivial⟩⟩ rfl trivial rfl ?_
        obtain ⟨r44, hr, h1⟩ := bnd h1
        refine AJR_call 4 rfl (Nat.le_of_ble_eq_true rfl) [] rfl (caps_Check.ok0 hr) caps_Check.fnb rfl ⟨trivial, ⟨trivial, trivial⟩⟩ rfl trivial rfl ?_
        refine AJR_ev env 5 rfl (Nat.le_of_ble_eq_true rfl) rfl ⟨trivial, ⟨trivial, trivial⟩⟩ ?_
        refine AJR_ev env 6 rfl (Nat.le_of_ble_eq_true rfl) rfl ⟨trivial, ⟨trivial, trivial⟩⟩ ?_
        refine AJR_ev env 7 rfl (Nat.le_of_ble_eq_true rfl) rfl trivial ?_
        refine bif_split h1 (fun hb46 h1 => ?_) (fun hb46 h1 => ?_)
        · refine AJR_gskip (.bool false) 8 rfl (Nat.le_of_ble_eq_true rfl) hb46 rfl rfl rfl rfl rfl rfl (by decide) ?_
          refine AJR_gskip (.bool false) 9 rfl (Nat.le_of_ble_eq_true rfl) hb46 rfl rfl rfl rfl rfl rfl (by decide) ?_
          refine AJR_gskip (.bool false) 10 rfl (Nat.le_of_ble_eq_true rfl) hb46 rfl rfl rfl rfl rfl rfl (by decide) ?_
          refine AJR_gskip (.bool false) 11 rfl (Nat.le_of_ble_eq_true rfl) hb46 rfl rfl rfl rfl rfl rfl (by decide) ?_
          refine AJR_gskip (.bool false) 12 rfl (Nat.le_of_ble_eq_true rfl) hb46 rfl rfl rfl rfl rfl rfl (by decide) ?_
          refine AJR_gskip (.bool false) 13 rfl (Nat.le_of_ble_eq_true rfl) hb46 rfl rfl rfl rfl rfl rfl (by decide) ?_
          refine AJR_gskip (.bool false) 14 rfl (Nat.le_of_ble_eq_true rfl) hb46 rfl rfl rfl rfl rfl rfl (by decide) ?_
          refine AJR_gskip (.bool false) 15 rfl (Nat.le_of_ble_eq_true rfl) hb46 rfl rfl rfl rfl rfl rfl (by decide) ?_
          refine AJR_gskip (.bool false) 16 rfl (Nat.le_of_ble_eq_true rfl) hb46 rfl rfl rfl rfl rfl rfl (by decide) ?_
          refine AJR_gskip (.bool false) 17 rfl (Nat.le_of_ble_eq_true rfl) hb46 rfl rfl rfl rfl rfl rfl (by decide) ?_
          refine AJR_ev env 18 rfl (Nat.le_of_ble_eq_true rfl) rfl ⟨trivial, ⟨trivial, fun e => (ftf ((congrArg Bool.not hb46).symm.trans e)).elim⟩⟩ ?_
          refine AJR_end rfl rfl rfl ?_
          obtain rfl := sinj h1
          refine tsn ?_
          exact SP_ren [(10700, 1003)] _ rfl ⟨rfl, rfl, rfl, rfl, rfl, trivial⟩ ⟨rfl, trivial⟩ rfl
        · refine AJR_gev env 8 rfl (Nat.le_of_ble_eq_true rfl) hb46 rfl rfl rfl rfl rfl rfl ⟨trivial, trivial⟩ ?_
          obtain ⟨⟨⟩, hr, h1⟩ := bnd h1
          refine AJR_gcall 9 rfl (Nat.le_of_ble_eq_true rfl) hb46 [] rfl rfl rfl rfl rfl (psalterylaw23_Of.ok0 hr) psalterylaw23_Of.fnb rfl ⟨trivial, ⟨trivial, trivial⟩⟩ rfl trivial rfl ?_
          refine AJR_gev env 10 rfl (Nat.le_of_ble_eq_true rfl) hb46 rfl rfl rfl rfl rfl rfl ⟨trivial, trivial⟩ ?_
          refine AJR_gev env 11 rfl (Nat.le_of_ble_eq_true rfl) hb46 rfl rfl rfl rfl rfl rfl ⟨trivial, trivial⟩ ?_
          obtain ⟨r48, hr, h1⟩ := bnd h1
          refine AJR_gcall 12 rfl (Nat.le_of_ble_eq_true rfl) hb46 [] rfl rfl rfl rfl rfl (caps_Allows.ok0 hr) caps_Allows.fnb rfl ⟨trivial, ⟨trivial, ⟨trivial, ⟨trivial, trivial⟩⟩⟩⟩ rfl trivial rfl ?_
          refine AJR_gev env 13 rfl (Nat.le_of_ble_eq_true rfl) hb46 rfl rfl rfl rfl rfl rfl ⟨trivial, trivial⟩ ?_
          refine AJR_gev env 14 rfl (Nat.le_of_ble_eq_true rfl) hb46 rfl rfl rfl rfl rfl rfl ⟨trivial, trivial⟩ ?_
          refine AJR_gev env 15 rfl (Nat.le_of_ble_eq_true rfl) hb46 rfl rfl rfl rfl rfl rfl ⟨trivial, trivial⟩ ?_
          obtain ⟨r49, hr, h1⟩ := bnd h1
          refine AJR_gcall 16 rfl (Nat.le_of_ble_eq_true rfl) hb46 [] rfl rfl rfl rfl rfl (psalteryref23_Allows.ok0 hr) psalteryref23_Allows.fnb rfl ⟨trivial, ⟨trivial, ⟨trivial, ⟨trivial, trivial⟩⟩⟩⟩ rfl trivial rfl ?_
          refine AJR_gev env 17 rfl (Nat.le_of_ble_eq_true rfl) hb46 rfl rfl rfl rfl rfl rfl ⟨trivial, ⟨trivial, trivial⟩⟩ ?_
          refine AJR_ev env 18 rfl (Nat.le_of_ble_eq_true rfl) rfl ⟨trivial, ⟨trivial, trivial⟩⟩ ?_
          refine AJR_end rfl rfl rfl ?_
          obtain rfl := sinj h1
          refine tsn ?_
          exact SP_ren [(10700, 1003)] _ rfl ⟨rfl, rfl, rfl, rfl, rfl, trivial⟩ ⟨rfl, trivial⟩ rfl
      · rintro x35 hz
        obtain rfl := hz.symm
        refine TE_go ?_
        refine TC_cond rfl (fun hb => ?_) (fun hb => ?_)
        · replace h0 := bif_t h0 hb
          refine TC_seq ?_
          refine TC_reg ?_
          refine TL_ev env 1 rfl ⟨trivial, trivial⟩ ?_
          refine TL_end ?_
          refine TE_go ?_
          refine TC_ret ?_
          refine tsr ?_
          obtain rfl := sinj h0
          exact TE_ret env rfl trivial trivial
        · replace h0 := bif_f h0 hb
          refine TC_skip ?_
          refine TE_go ?_
          refine TC_seq ?_
          refine TC_seq ?_
          refine TC_reg ?_
          refine TL_ev env 2 rfl ⟨trivial, ⟨trivial, trivial⟩⟩ ?_
          refine TL_end ?_
          refine TE_go ?_
          refine TC_cond rfl (fun hb => ?_) (fun hb => ?_)
          · replace h0 := bif_t h0 hb
            refine TC_seq ?_
            obtain ⟨z1, h1, h0⟩ := bnd h0
            refine TC_cut (α := Bool) (fun s => z1 = s) (fun s => [(6, .bool s)]) (fun s => []) ?_ ?_
            · refine TC_reg ?_
              refine TL_ev env 4 rfl ⟨trivial, ⟨⟨trivial, trivial⟩, ⟨⟨trivial, ⟨trivial, trivial⟩⟩, ⟨trivial, trivial⟩⟩⟩⟩ ?_
              refine TL_gt rfl rfl rfl rfl ?_
              refine TL_ev env 1 rfl ⟨trivial, trivial⟩ ?_
              refine TL_gt rfl rfl rfl rfl ?_
              refine TL_ev env 3 rfl ⟨⟨trivial, ⟨trivial, trivial⟩⟩, ⟨⟨trivial, ⟨trivial, trivial⟩⟩, ⟨trivial, trivial⟩⟩⟩ ?_
              refine TL_split 47 rfl (fun hb => ?_) (fun hb => ?_)
              · replace h1 := bif_t h1 hb
                refine TL_gt rfl rfl rfl rfl ?_
                refine TL_ev env 1 rfl ⟨⟨trivial, trivial⟩, trivial⟩ ?_
                refine TL_gt rfl rfl rfl rfl ?_
                obtain ⟨⟨⟩, hr, h1⟩ := bnd h1
                refine TL_callB [] (psalterylaw23_Of.ok0 hr) psalterylaw23_Of.fnb rfl ⟨trivial, ⟨trivial, trivial⟩⟩ rfl trivial rfl ?_
                refine TL_gt rfl rfl rfl rfl ?_
                obtain ⟨r40, hr, h1⟩ := bnd h1
                refine TL_callB [] (caps_Check.ok0 hr) caps_Check.fnb rfl ⟨trivial, ⟨trivial, trivial⟩⟩ rfl trivial rfl ?_
                refine TL_gt rfl rfl rfl rfl ?_
                refine TL_ev env 3 rfl ⟨⟨trivial, ⟨trivial, trivial⟩⟩, ⟨⟨trivial, ⟨trivial, trivial⟩⟩, ⟨trivial, trivial⟩⟩⟩ ?_
                refine TL_end ?_
                obtain rfl := sinj h1
                refine tsn ?_
                exact SP_ren [] _ rfl ⟨rfl, trivial⟩ trivial rfl
              · replace h1 := bif_f h1 hb
                refine TL_gf (.bool false) rfl rfl rfl rfl rfl (by decide) ?_
                refine TL_gf (.bool false) rfl rfl rfl rfl rfl (by decide) ?_
                refine TL_gf (.bool false) rfl rfl rfl rfl rfl (by decide) ?_
                refine TL_gf (.bool false) rfl rfl rfl rfl rfl (by decide) ?_
                refine TL_ev env 2 rfl ⟨⟨trivial, ⟨fun e => e, trivial⟩⟩, ⟨trivial, trivial⟩⟩ ?_
                refine TL_end ?_
                obtain rfl := sinj h1
                refine tsn ?_
                exact SP_ren [] _ rfl ⟨rfl, trivial⟩ trivial rfl
            · rintro x39 hz
              obtain rfl := hz.symm
              refine TE_go ?_
              refine TC_ret ?_
              refine tsr ?_
              obtain rfl := sinj h0
              exact TE_ret env rfl trivial trivial
          · replace h0 := bif_f h0 hb
            refine TC_skip ?_
            refine TE_go ?_
            refine TC_seq ?_
            refine TC_renw (A' := [(3, .p 10700 0), (8, .nils), (9, .int .i64 _)]) (L' := [(10700, some (.cells [.int .i64 _, .int .i64 _, .int .i64 _, .int .i64 _, .int .i64 _, .int .i64 _, .int .i64 _, .int .i64 _, .int .i64 _, .int .i64 _, .int .i64 _, .int .i64 _, .int .i64 _, .int .i64 _, .int .i64 _]))]) [] ⟨rfl, rfl, rfl, trivial⟩ ⟨rfl, trivial⟩ rfl ?_
            refine TC_drawR ⟨_, fun i => ([[], [0], [1, 0], [2, 1, 0], [3, 2, 1, 0], [2, 1, 0], [5, 2, 1, 0], [6, 5, 4, 3, 2, 1, 0], [7, 6, 5, 4, 3, 2, 1, 0], [8, 7, 6, 5, 4, 3, 2, 1, 0]] : List (List Nat)).getD i [], fun i => ([[], [], [], [], [], [], [], [], [], []] : List (List Nat)).getD i [], fun i => ([[], [], [], [], [], [], [], [], [], []] : List (List Nat)).getD i []⟩ (fun i => ([[], [], [], [], [], [], [], [], [], []] : List (List Nat)).getD i []) (by kernel_rfl) (by kernel_rfl) ?_
            refine AJR_ev env 1 rfl (Nat.le_of_ble_eq_true rfl) rfl trivial ?_
            refine AJR_ev env 2 rfl (Nat.le_of_ble_eq_true rfl) rfl ⟨trivial, ⟨trivial, trivial⟩⟩ ?_
            refine AJR_ev env 3 rfl (Nat.le_of_ble_eq_true rfl) rfl trivial ?_
            refine bif_split h0 (fun hb42 h0 => ?_) (fun hb42 h0 => ?_)
            · exact (nsome h0).elim
            · refine AJR_gskip (.bool false) 4 rfl (Nat.le_of_ble_eq_true rfl) hb42 rfl rfl rfl rfl rfl rfl (by decide) ?_
              refine AJR_gskip (.bool false) 5 rfl (Nat.le_of_ble_eq_true rfl) hb42 rfl rfl rfl rfl rfl rfl (by decide) ?_
              refine AJR_gskip (.bool false) 6 rfl (Nat.le_of_ble_eq_true rfl) hb42 rfl rfl rfl rfl rfl rfl (by decide) ?_
              refine AJR_gskip (.bool false) 7 rfl (Nat.le_of_ble_eq_true rfl) hb42 rfl rfl rfl rfl rfl rfl (by decide) ?_
              refine AJR_gskip (.bool false) 8 rfl (Nat.le_of_ble_eq_true rfl) hb42 rfl rfl rfl rfl rfl rfl (by decide) ?_
              refine AJR_ev env 9 rfl (Nat.le_of_ble_eq_true rfl) rfl ⟨trivial, ⟨fun e => (tff (e.symm.trans hb42)).elim, trivial⟩⟩ ?_
              refine AJR_ev env 10 rfl (Nat.le_of_ble_eq_true rfl) rfl trivial ?_
              refine AJR_end rfl rfl rfl ?_
              refine TE_go ?_
              refine TC_ret ?_
              obtain rfl := sinj h0
              exact TE_ret env rfl trivial trivial
    · refine TL_callB [] (caps_Bytes.ok1 hr) caps_Bytes.fnb rfl ⟨trivial, ⟨trivial, trivial⟩⟩ rfl trivial rfl ?_
      refine TL_ev env 5 rfl ⟨trivial, ⟨trivial, ⟨trivial, ⟨trivial, ⟨trivial, trivial⟩⟩⟩⟩⟩ ?_
      refine TL_end ?_
      refine TE_go ?_
      refine TC_seq ?_
      refine TC_seq ?_
      obtain ⟨z1, h1, h0⟩ := bnd h0
      refine TC_cut (α := Bool) (fun s => z1 = s) (fun s => [(3, .p 11000 0), (7, .bool r28), (8, .im (.slice (.int .u8)) r30), (9, .int .i64 0), (37, .bool s)]) (fun s => [(11000, some (.cells [.int .i64 p0, .int .i64 p1, .int .i64 p2, .int .i64 p3, .int .i64 p4, .int .i64 p5, .int .i64 p6, .int .i64 p7, .int .i64 p8, .int .i64 p9, .int .i64 p10, .int .i64 p11, .int .i64 p12, .int .i64 p13, .int .i64 p14]))]) ?_ ?_
      · refine TC_renw (A' := [(3, .p 1003 0), (4, .p 1004 0), (5, .p 1005 0), (7, .bool _), (8, .im (.slice (.int .u8)) _), (9, .int .i64 0)]) (L' := [(1003, some (.cells [.int .i64 _, .int .i64 _, .int .i64 _, .int .i64 _, .int .i64 _, .int .i64 _, .int .i64 _, .int .i64 _, .int .i64 _, .int .i64 _, .int .i64 _, .int .i64 _, .int .i64 _, .int .i64 _, .int .i64 _])), (1004, some (.cells [.int .i64 _, .int .i64 _, .int .i64 _, .int .i64 _, .int .i64 _, .int .i64 _, .int .i64 _, .int .i64 _, .int .i64 _, .int .i64 _])), (1005, some (.cells [.int .i64 _, .int .i64 _]))]) [] ⟨rfl, rfl, rfl, rfl, rfl, rfl, trivial⟩ ⟨rfl, rfl, rfl, trivial⟩ rfl ?_
        refine TC_drawR ⟨_, fun i => ([[], [], [1], [2, 1], [3, 2, 1], [4, 3, 2, 1, 0], [5, 4, 3, 2, 1, 0], [6, 5, 4, 3, 2, 1, 0], [7, 6, 5, 4, 3, 2, 1, 0], [6, 5, 4, 3, 2, 1, 0], [6, 5, 4, 3, 2, 1, 0], [10, 9, 8, 7, 6, 5, 4, 3, 2, 1, 0], [6, 5, 4, 3, 2, 1, 0], [6, 5, 4, 3, 2, 1, 0], [6, 5, 4, 3, 2, 1, 0], [14, 13, 12, 11, 10, 9, 8, 7, 6, 5, 4, 3, 2, 1, 0], [15, 14, 13, 12, 11, 10, 9, 8, 7, 6, 5, 4, 3, 2, 1, 0], [16, 15, 14, 13, 12, 11, 10, 9, 8, 7, 6, 5, 4, 3, 2, 1, 0]] : List (List Nat)).getD i [], fun i => ([[], [], [], [], [], [], [], [], [], [], [], [], [], [], [], [], [], []] : List (List Nat)).getD i [], fun i => ([[], [], [], [], [], [], [], [], [], [], [], [], [], [], [], [], [], []] : List (List Nat)).getD i []⟩ (fun i => ([[], [], [], [], [], [], [], [], [], [], [], [], [], [], [], [], [], []] : List (List Nat)).getD i []) (by kernel_rfl) (by kernel_rfl) ?_
        refine AJR_ev env 1 rfl (Nat.le_of_ble_eq_true rfl) rfl trivial ?_
        refine AJR_ev env 2 rfl (Nat.le_of_ble_eq_true rfl) rfl ⟨trivial, trivial⟩ ?_
        obtain ⟨⟨⟩, hr, h1⟩ := bnd h1
        refine AJR_call 3 rfl (Nat.le_of_ble_eq_true rfl) [] rfl (psalterylaw23_Of.ok0 hr) psalterylaw23_Of.fnb rfl ⟨trivial, ⟨trivial, trivial⟩⟩ rfl trivial rfl ?_
        obtain ⟨r67, hr, h1⟩ := bnd h1
        refine AJR_call 4 rfl (Nat.le_of_ble_eq_true rfl) [] rfl (caps_Check.ok0 hr) caps_Check.fnb rfl ⟨trivial, ⟨trivial, trivial⟩⟩ rfl trivial rfl ?_
        refine AJR_ev env 5 rfl (Nat.le_of_ble_eq_true rfl) rfl ⟨trivial, ⟨trivial, trivial⟩⟩ ?_
        refine AJR_ev env 6 rfl (Nat.le_of_ble_eq_true rfl) rfl ⟨trivial, ⟨trivial, trivial⟩⟩ ?_
        refine AJR_ev env 7 rfl (Nat.le_of_ble_eq_true rfl) rfl trivial ?_
        refine bif_split h1 (fun hb69 h1 => ?_) (fun hb69 h1 => ?_)
        · refine AJR_gskip (.bool false) 8 rfl (Nat.le_of_ble_eq_true rfl) hb69 rfl rfl rfl rfl rfl rfl (by decide) ?_
          refine AJR_gskip (.bool false) 9 rfl (Nat.le_of_ble_eq_true rfl) hb69 rfl rfl rfl rfl rfl rfl (by decide) ?_
          refine AJR_gskip (.bool false) 10 rfl (Nat.le_of_ble_eq_true rfl) hb69 rfl rfl rfl rfl rfl rfl (by decide) ?_
          refine AJR_gskip (.bool false) 11 rfl (Nat.le_of_ble_eq_true rfl) hb69 rfl rfl rfl rfl rfl rfl (by decide) ?_
          refine AJR_gskip (.bool false) 12 rfl (Nat.le_of_ble_eq_true rfl) hb69 rfl rfl rfl rfl rfl rfl (by decide) ?_
          refine AJR_gskip (.bool false) 13 rfl (Nat.le_of_ble_eq_true rfl) hb69 rfl rfl rfl rfl rfl rfl (by decide) ?_
          refine AJR_gskip (.bool false) 14 rfl (Nat.le_of_ble_eq_true rfl) hb69 rfl rfl rfl rfl rfl rfl (by decide) ?_
          refine AJR_gskip (.bool false) 15 rfl (Nat.le_of_ble_eq_true rfl) hb69 rfl rfl rfl rfl rfl rfl (by decide) ?_
          refine AJR_gskip (.bool false) 16 rfl (Nat.le_of_ble_eq_true rfl) hb69 rfl rfl rfl rfl rfl rfl (by decide) ?_
          refine AJR_gskip (.bool false) 17 rfl (Nat.le_of_ble_eq_true rfl) hb69 rfl rfl rfl rfl rfl rfl (by decide) ?_
          refine AJR_ev env 18 rfl (Nat.le_of_ble_eq_true rfl) rfl ⟨trivial, ⟨trivial, fun e => (ftf ((congrArg Bool.not hb69).symm.trans e)).elim⟩⟩ ?_
          refine AJR_end rfl rfl rfl ?_
          obtain rfl := sinj h1
          refine tsn ?_
          exact SP_ren [(11000, 1003)] _ rfl ⟨rfl, rfl, rfl, rfl, rfl, trivial⟩ ⟨rfl, trivial⟩ rfl
        · refine AJR_gev env 8 rfl (Nat.le_of_ble_eq_true rfl) hb69 rfl rfl rfl rfl rfl rfl ⟨trivial, trivial⟩ ?_
          obtain ⟨⟨⟩, hr, h1⟩ := bnd h1
          refine AJR_gcall 9 rfl (Nat.le_of_ble_eq_true rfl) hb69 [] rfl rfl rfl rfl rfl (psalterylaw23_Of.ok0 hr) psalterylaw23_Of.fnb rfl ⟨trivial, ⟨trivial, trivial⟩⟩ rfl trivial rfl ?_
          refine AJR_gev env 10 rfl (Nat.le_of_ble_eq_true rfl) hb69 rfl rfl rfl rfl rfl rfl ⟨trivial, trivial⟩ ?_
          refine AJR_gev env 11 rfl (Nat.le_of_ble_eq_true rfl) hb69 rfl rfl rfl rfl rfl rfl ⟨trivial, trivial⟩ ?_
          obtain ⟨r71, hr, h1⟩ := bnd h1
          refine AJR_gcall 12 rfl (Nat.le_of_ble_eq_true rfl) hb69 [] rfl rfl rfl rfl rfl (caps_Allows.ok0 hr) caps_Allows.fnb rfl ⟨trivial, ⟨trivial, ⟨trivial, ⟨trivial, trivial⟩⟩⟩⟩ rfl trivial rfl ?_
          refine AJR_gev env 13 rfl (Nat.le_of_ble_eq_true rfl) hb69 rfl rfl rfl rfl rfl rfl ⟨trivial, trivial⟩ ?_
          refine AJR_gev env 14 rfl (Nat.le_of_ble_eq_true rfl) hb69 rfl rfl rfl rfl rfl rfl ⟨trivial, trivial⟩ ?_
          refine AJR_gev env 15 rfl (Nat.le_of_ble_eq_true rfl) hb69 rfl rfl rfl rfl rfl rfl ⟨trivial, trivial⟩ ?_
          obtain ⟨r72, hr, h1⟩ := bnd h1
          refine AJR_gcall 16 rfl (Nat.le_of_ble_eq_true rfl) hb69 [] rfl rfl rfl rfl rfl (psalteryref23_Allows.ok0 hr) psalteryref23_Allows.fnb rfl ⟨trivial, ⟨trivial, ⟨trivial, ⟨trivial, trivial⟩⟩⟩⟩ rfl trivial rfl ?_
          refine AJR_gev env 17 rfl (Nat.le_of_ble_eq_true rfl) hb69 rfl rfl rfl rfl rfl rfl ⟨trivial, ⟨trivial, trivial⟩⟩ ?_
          refine AJR_ev env 18 rfl (Nat.le_of_ble_eq_true rfl) rfl ⟨trivial, ⟨trivial, trivial⟩⟩ ?_
          refine AJR_end rfl rfl rfl ?_
          obtain rfl := sinj h1
          refine tsn ?_
          exact SP_ren [(11000, 1003)] _ rfl ⟨rfl, rfl, rfl, rfl, rfl, trivial⟩ ⟨rfl, trivial⟩ rfl
      · rintro x56 hz
        obtain rfl := hz.symm
        refine TE_go ?_
        refine TC_cond rfl (fun hb => ?_) (fun hb => ?_)
        · replace h0 := bif_t h0 hb
          refine TC_seq ?_
          refine TC_reg ?_
          refine TL_ev env 1 rfl ⟨trivial, trivial⟩ ?_
          refine TL_end ?_
          refine TE_go ?_
          refine TC_ret ?_
          refine tsr ?_
          obtain rfl := sinj h0
          exact TE_ret env rfl trivial trivial
        · replace h0 := bif_f h0 hb
          refine TC_skip ?_
          refine TE_go ?_
          refine TC_seq ?_
          refine TC_seq ?_
          refine TC_reg ?_
          refine TL_ev env 2 rfl ⟨trivial, ⟨trivial, trivial⟩⟩ ?_
          refine TL_end ?_
          refine TE_go ?_
          refine TC_cond rfl (fun hb => ?_) (fun hb => ?_)
          · replace h0 := bif_t h0 hb
            refine TC_seq ?_
            obtain ⟨z1, h1, h0⟩ := bnd h0
            refine TC_cut (α := Bool) (fun s => z1 = s) (fun s => [(6, .bool s)]) (fun s => []) ?_ ?_
            · refine TC_reg ?_
              refine TL_ev env 8 rfl ⟨trivial, ⟨⟨trivial, trivial⟩, ⟨⟨trivial, ⟨trivial, trivial⟩⟩, ⟨trivial, ⟨fun eg => trivial, ⟨fun eg => ⟨fun e => e, ⟨trivial, trivial⟩⟩, ⟨⟨trivial, ⟨fun e => e, trivial⟩⟩, ⟨trivial, trivial⟩⟩⟩⟩⟩⟩⟩⟩ ?_
              refine TL_split 47 rfl (fun hb => ?_) (fun hb => ?_)
              · replace h1 := bif_t h1 hb
                refine TL_gt rfl rfl rfl rfl ?_
                refine TL_ev env 1 rfl ⟨⟨trivial, trivial⟩, trivial⟩ ?_
                refine TL_gt rfl rfl rfl rfl ?_
                obtain ⟨⟨⟩, hr, h1⟩ := bnd h1
                refine TL_callB [] (psalterylaw23_Of.ok0 hr) psalterylaw23_Of.fnb rfl ⟨trivial, ⟨trivial, trivial⟩⟩ rfl trivial rfl ?_
                refine TL_gt rfl rfl rfl rfl ?_
                obtain ⟨r63, hr, h1⟩ := bnd h1
                refine TL_callB [] (caps_Check.ok0 hr) caps_Check.fnb rfl ⟨trivial, ⟨trivial, trivial⟩⟩ rfl trivial rfl ?_
                refine TL_gt rfl rfl rfl rfl ?_
                refine TL_ev env 3 rfl ⟨⟨trivial, ⟨trivial, trivial⟩⟩, ⟨⟨trivial, ⟨trivial, trivial⟩⟩, ⟨trivial, trivial⟩⟩⟩ ?_
                refine TL_end ?_
                obtain rfl := sinj h1
                refine tsn ?_
                exact SP_ren [] _ rfl ⟨rfl, trivial⟩ trivial rfl
              · replace h1 := bif_f h1 hb
                refine TL_gf (.bool false) rfl rfl rfl rfl rfl (by decide) ?_
                refine TL_gf (.bool false) rfl rfl rfl rfl rfl (by decide) ?_
                refine TL_gf (.bool false) rfl rfl rfl rfl rfl (by decide) ?_
                refine TL_gf (.bool false) rfl rfl rfl rfl rfl (by decide) ?_
                refine TL_ev env 2 rfl ⟨⟨trivial, ⟨fun e => e, trivial⟩⟩, ⟨trivial, trivial⟩⟩ ?_
                refine TL_end ?_
                obtain rfl := sinj h1
                refine tsn ?_
                exact SP_ren [] _ rfl ⟨rfl, trivial⟩ trivial rfl
            · rintro x60 hz
              obtain rfl := hz.symm
              refine TE_go ?_
              refine TC_ret ?_
              refine tsr ?_
              obtain rfl := sinj h0
              exact TE_ret env rfl trivial trivial
          · replace h0 := bif_f h0 hb
            refine TC_skip ?_
            refine TE_go ?_
            refine TC_seq ?_
            refine TC_renw (A' := [(3, .p 11000 0), (8, .im (.slice (.int .u8)) _), (9, .int .i64 0)]) (L' := [(11000, some (.cells [.int .i64 _, .int .i64 _, .int .i64 _, .int .i64 _, .int .i64 _, .int .i64 _, .int .i64 _, .int .i64 _, .int .i64 _, .int .i64 _, .int .i64 _, .int .i64 _, .int .i64 _, .int .i64 _, .int .i64 _]))]) [] ⟨rfl, rfl, rfl, trivial⟩ ⟨rfl, trivial⟩ rfl ?_
            refine TC_drawR ⟨_, fun i => ([[], [0], [1, 0], [2, 1, 0], [3, 2, 1, 0], [2, 1, 0], [5, 2, 1, 0], [6, 5, 4, 3, 2, 1, 0], [7, 6, 5, 4, 3, 2, 1, 0], [8, 7, 6, 5, 4, 3, 2, 1, 0]] : List (List Nat)).getD i [], fun i => ([[], [], [], [], [], [], [], [], [], []] : List (List Nat)).getD i [], fun i => ([[], [], [], [], [], [], [], [], [], []] : List (List Nat)).getD i []⟩ (fun i => ([[], [], [], [], [], [], [], [], [], []] : List (List Nat)).getD i []) (by kernel_rfl) (by kernel_rfl) ?_
            refine AJR_ev env 1 rfl (Nat.le_of_ble_eq_true rfl) rfl trivial ?_
            refine AJR_ev env 2 rfl (Nat.le_of_ble_eq_true rfl) rfl ⟨trivial, ⟨trivial, trivial⟩⟩ ?_
            refine AJR_ev env 3 rfl (Nat.le_of_ble_eq_true rfl) rfl trivial ?_
            refine AJR_gev env 4 rfl (Nat.le_of_ble_eq_true rfl) rfl rfl rfl rfl rfl rfl rfl trivial ?_
            refine AJR_gev env 5 rfl (Nat.le_of_ble_eq_true rfl) rfl rfl rfl rfl rfl rfl rfl trivial ?_
            refine AJR_gev env 6 rfl (Nat.le_of_ble_eq_true rfl) rfl rfl rfl rfl rfl rfl rfl ⟨trivial, trivial⟩ ?_
            obtain ⟨r65, hr, h0⟩ := bnd h0
            refine AJR_gcall 7 rfl (Nat.le_of_ble_eq_true rfl) rfl [] rfl rfl rfl rfl rfl (psalteryref23_Bytes.ok0 hr) psalteryref23_Bytes.fnb rfl ⟨trivial, ⟨trivial, trivial⟩⟩ rfl trivial rfl ?_
            refine AJR_gev env 8 rfl (Nat.le_of_ble_eq_true rfl) rfl rfl rfl rfl rfl rfl rfl ⟨trivial, ⟨trivial, trivial⟩⟩ ?_
            refine AJR_ev env 9 rfl (Nat.le_of_ble_eq_true rfl) rfl ⟨trivial, ⟨trivial, trivial⟩⟩ ?_
            refine AJR_ev env 10 rfl (Nat.le_of_ble_eq_true rfl) rfl trivial ?_
            refine AJR_end rfl rfl rfl ?_
            refine TE_go ?_
            refine TC_ret ?_
            obtain rfl := sinj h0
            exact TE_ret env rfl trivial trivial
theorem psalterylaw23_CapsTells.ok0 {K : Nat} {p0 : Int} {p1 : Int} {p2 : Int} {p3 : Int} {p4 : Int} {p5 : Int} {p6 : Int} {p7 : Int} {p8 : Int} {p9 : Int} {p10 : Int} {p11 : Int} {p12 : Int} {p13 : Int} {p14 : Int} {p15 : Int} {p16 : Int} {p17 : Int} {p18 : Int} {p19 : Int} {p20 : Int} {p21 : Int} {p22 : Int} {p23 : Int} {p24 : Int} {p25 : Int} {p26 : Int} {q0 : Bool} (h0 : psalterylaw23_CapsTells K p0 p1 p2 p3 p4 p5 p6 p7 p8 p9 p10 p11 p12 p13 p14 p15 p16 p17 p18 p19 p20 p21 p22 p23 p24 p25 p26 = some q0) : Fn Try.prog 11 [.agg [.int .i64 p0, .int .i64 p1, .int .i64 p2, .int .i64 p3, .int .i64 p4, .int .i64 p5, .int .i64 p6, .int .i64 p7, .int .i64 p8, .int .i64 p9, .int .i64 p10, .int .i64 p11, .int .i64 p12, .int .i64 p13, .int .i64 p14], .agg [.int .i64 p15, .int .i64 p16, .int .i64 p17, .int .i64 p18, .int .i64 p19, .int .i64 p20, .int .i64 p21, .int .i64 p22, .int .i64 p23, .int .i64 p24], .agg [.int .i64 p25, .int .i64 p26]] [] (.bool q0) [] := psalterylaw23_CapsTells.ok h0
theorem psalterylaw23_CapsTells.fnb : fnb Try.prog 11 = true := fnb_of Try.func11 rfl
end Go.Fo
