/- Each call comes to the function that is written for it. -/
import Derived.Test.YtcaehpgdcjonfaaSnT
import Derived.Test.YtcaehpgdcjonfaaSnF
import Derived.Test.YtcaehpgdcjonfaaSnP0
import Derived.Test.YtcaehpgdcjonfaaSnP1
namespace Go.Fo
open Go.Proofs
set_option maxRecDepth 20000
set_option maxHeartbeats 4000000
def format_fields.res (_p0 : Int) (_p1 : Int) (_p2 : Int) (_p3 : Int) (_p4 : Int) (_p5 : Int) (_p6 : Int) (_p7 : Int) (_p8 : Int) (_p9 : Int) : Bool → MV
  | q0 => .bool q0
def format_fields.out (_p0 : Int) (_p1 : Int) (_p2 : Int) (_p3 : Int) (_p4 : Int) (_p5 : Int) (_p6 : Int) (_p7 : Int) (_p8 : Int) (_p9 : Int) : Bool → List (Nat × Option MObj)
  | _ => []
theorem format_fields.ok {K : Nat} {p0 : Int} {p1 : Int} {p2 : Int} {p3 : Int} {p4 : Int} {p5 : Int} {p6 : Int} {p7 : Int} {p8 : Int} {p9 : Int} {r : Bool} (h0 : format_fields K p0 p1 p2 p3 p4 p5 p6 p7 p8 p9 = some r) : Fn Try.prog 87 [.agg [.int .i64 p0, .int .i64 p1, .int .i64 p2, .int .i64 p3, .int .i64 p4, .int .i64 p5, .int .i64 p6, .int .i64 p7, .int .i64 p8, .int .i64 p9]] [] (format_fields.res p0 p1 p2 p3 p4 p5 p6 p7 p8 p9 r) (format_fields.out p0 p1 p2 p3 p4 p5 p6 p7 p8 p9 r) := by
  refine Fn_of Try.func87 rfl (Nat.le_of_ble_eq_true rfl) fun Γ => ?_
  refine TC_seq ?_
  refine TC_reg ?_
  refine TL_ev env 2 rfl ⟨trivial, ⟨trivial, trivial⟩⟩ ?_
  refine TL_end ?_
  refine TE_go ?_
  refine TC_seq ?_
  refine TC_renw (A' := [(1, .p 1001 0)]) (L' := [(1001, some (.cells [.int .i64 _, .int .i64 _, .int .i64 _, .int .i64 _, .int .i64 _, .int .i64 _, .int .i64 _, .int .i64 _, .int .i64 _, .int .i64 _]))]) [] ⟨rfl, trivial⟩ ⟨rfl, trivial⟩ rfl ?_
  refine TC_drawR ⟨_, fun i => ([[], [0], [1, 0], [], [3], [4, 3, 2, 1, 0], [5, 4, 3, 2, 1, 0], [6, 5, 4, 3, 2, 1, 0], [7, 6, 5, 4, 3, 2, 1, 0]] : List (List Nat)).getD i [], fun i => ([[], [], [], [], [], [], [1010], [1010], []] : List (List Nat)).getD i [], fun i => ([[], [], [], [], [], [], [1010], [], []] : List (List Nat)).getD i []⟩ (fun i => ([[], [], [], [], [], [], [], [], []] : List (List Nat)).getD i []) (by kernel_rfl) (by kernel_rfl) ?_
  refine AJR_ev env 1 rfl (Nat.le_of_ble_eq_true rfl) rfl trivial ?_
  refine AJR_ev env 2 rfl (Nat.le_of_ble_eq_true rfl) rfl ⟨trivial, trivial⟩ ?_
  obtain ⟨r64, hr, h0⟩ := bnd h0
  refine AJR_call 3 rfl (Nat.le_of_ble_eq_true rfl) [] rfl (format_within.ok0 hr) format_within.fnb rfl ⟨trivial, ⟨trivial, ⟨trivial, ⟨trivial, trivial⟩⟩⟩⟩ rfl trivial rfl ?_
  refine AJR_ev env 4 rfl (Nat.le_of_ble_eq_true rfl) rfl trivial ?_
  refine AJR_ev env 5 rfl (Nat.le_of_ble_eq_true rfl) rfl ⟨trivial, trivial⟩ ?_
  obtain ⟨r65, hr, h0⟩ := bnd h0
  refine AJR_call 6 rfl (Nat.le_of_ble_eq_true rfl) [] rfl (format_within.ok0 hr) format_within.fnb rfl ⟨trivial, ⟨trivial, ⟨trivial, ⟨trivial, trivial⟩⟩⟩⟩ rfl trivial rfl ?_
  refine AJR_ev env 7 rfl (Nat.le_of_ble_eq_true rfl) rfl ⟨trivial, ⟨trivial, trivial⟩⟩ ?_
  obtain ⟨r66, hr, h0⟩ := bnd h0
  refine AJR_call 8 rfl (Nat.le_of_ble_eq_true rfl) [(0, 1010)] rfl (format_all.ok0 hr) format_all.fnb rfl ⟨trivial, ⟨trivial, trivial⟩⟩ rfl ⟨.inr rfl, trivial⟩ rfl ?_
  refine AJR_ev env 9 rfl (Nat.le_of_ble_eq_true rfl) rfl trivial ?_
  refine AJR_end rfl rfl rfl ?_
  refine TE_go ?_
  refine TC_seq ?_
  refine TC_seq ?_
  refine TC_reg ?_
  refine TL_ev env 2 rfl ⟨trivial, ⟨⟨trivial, trivial⟩, trivial⟩⟩ ?_
  refine TL_end ?_
  refine TE_go ?_
  refine TC_blk ?_
  refine TC_seq ?_
  refine TC_reg ?_
  refine TL_ev env 2 rfl ⟨⟨trivial, ⟨trivial, trivial⟩⟩, ⟨trivial, trivial⟩⟩ ?_
  refine TL_end ?_
  refine TE_go ?_
  refine TC_cond rfl (fun hb => ?_) (fun hb => ?_)
  · replace h0 := bif_t h0 hb
    refine TC_seq ?_
    obtain ⟨z1, h1, h0⟩ := bnd h0
    refine TC_cut (α := Bool) (fun s => z1 = s) (fun s => [(2, .bool s)]) (fun s => []) ?_ ?_
    · refine TC_renw (A' := [(1, .p 1001 0), (3, .bool _)]) (L' := [(1001, some (.cells [.int .i64 _, .int .i64 _, .int .i64 _, .int .i64 _, .int .i64 _, .int .i64 _, .int .i64 _, .int .i64 _, .int .i64 _, .int .i64 _]))]) [] ⟨rfl, rfl, trivial⟩ ⟨rfl, trivial⟩ rfl ?_
      refine TC_drawR ⟨_, fun i => ([[], [0], [1, 0], [2, 1, 0], [3, 2, 1, 0], [4, 3, 2, 1, 0], [5, 4, 3, 2, 1, 0], [6, 5, 4, 3, 2, 1, 0], [7, 6, 5, 4, 3, 2, 1, 0], [8, 7, 6, 5, 4, 3, 2, 1, 0], [1, 0], [10, 1, 0], [11, 10, 1, 0], [12, 11, 10, 1, 0], [13, 12, 11, 10, 5, 4, 3, 2, 1, 0], [14, 13, 12, 11, 10, 5, 4, 3, 2, 1, 0], [15, 14, 13, 12, 11, 10, 5, 4, 3, 2, 1, 0], [16, 15, 14, 13, 12, 11, 10, 5, 4, 3, 2, 1, 0], [17, 16, 15, 14, 13, 12, 11, 10, 5, 4, 3, 2, 1, 0], [1, 0], [19, 1, 0], [20, 19, 17, 16, 15, 14, 13, 12, 11, 10, 5, 4, 3, 2, 1, 0], [1, 0], [22, 1, 0], [1, 0], [24, 1, 0], [25, 24, 1, 0], [26, 25, 24, 23, 22, 21, 20, 19, 17, 16, 15, 14, 13, 12, 11, 10, 5, 4, 3, 2, 1, 0], [1, 0], [28, 1, 0], [1, 0], [30, 1, 0], [31, 30, 1, 0], [1, 0], [33, 1, 0], [34, 33, 32, 31, 30, 1, 0], [35, 34, 33, 32, 31, 30, 1, 0], [36, 35, 34, 33, 32, 31, 30, 29, 28, 27, 26, 25, 24, 23, 22, 21, 20, 19, 17, 16, 15, 14, 13, 12, 11, 10, 5, 4, 3, 2, 1, 0], [1, 0], [38, 1, 0], [39, 38, 1, 0], [40, 39, 38, 37, 36, 35, 34, 33, 32, 31, 30, 29, 28, 27, 26, 25, 24, 23, 22, 21, 20, 19, 17, 16, 15, 14, 13, 12, 11, 10, 5, 4, 3, 2, 1, 0], [41, 40, 39, 38, 37, 36, 35, 34, 33, 32, 31, 30, 29, 28, 27, 26, 25, 24, 23, 22, 21, 20, 19, 17, 16, 15, 14, 13, 12, 11, 10, 5, 4, 3, 2, 1, 0], [42, 41, 40, 39, 38, 37, 36, 35, 34, 33, 32, 31, 30, 29, 28, 27, 26, 25, 24, 23, 22, 21, 20, 19, 17, 16, 15, 14, 13, 12, 11, 10, 5, 4, 3, 2, 1, 0], [43, 42, 41, 40, 39, 38, 37, 36, 35, 34, 33, 32, 31, 30, 29, 28, 27, 26, 25, 24, 23, 22, 21, 20, 19, 17, 16, 15, 14, 13, 12, 11, 10, 5, 4, 3, 2, 1, 0], [44, 43, 42, 41, 40, 39, 38, 37, 36, 35, 34, 33, 32, 31, 30, 29, 28, 27, 26, 25, 24, 23, 22, 21, 20, 19, 17, 16, 15, 14, 13, 12, 11, 10, 5, 4, 3, 2, 1, 0], [45, 44, 43, 42, 41, 40, 39, 38, 37, 36, 35, 34, 33, 32, 31, 30, 29, 28, 27, 26, 25, 24, 23, 22, 21, 20, 19, 18, 17, 16, 15, 14, 13, 12, 11, 10, 9, 8, 7, 6, 5, 4, 3, 2, 1, 0], [46, 45, 44, 43, 42, 41, 40, 39, 38, 37, 36, 35, 34, 33, 32, 31, 30, 29, 28, 27, 26, 25, 24, 23, 22, 21, 20, 19, 18, 17, 16, 15, 14, 13, 12, 11, 10, 9, 8, 7, 6, 5, 4, 3, 2, 1, 0], [47, 46, 45, 44, 43, 42, 41, 40, 39, 38, 37, 36, 35, 34, 33, 32, 31, 30, 29, 28, 27, 26, 25, 24, 23, 22, 21, 20, 19, 18, 17, 16, 15, 14, 13, 12, 11, 10, 9, 8, 7, 6, 5, 4, 3, 2, 1, 0], [48, 47, 46, 45, 44, 43, 42, 41, 40, 39, 38, 37, 36, 35, 34, 33, 32, 31, 30, 29, 28, 27, 26, 25, 24, 23, 22, 21, 20, 19, 18, 17, 16, 15, 14, 13, 12, 11, 10, 9, 8, 7, 6, 5, 4, 3, 2, 1, 0]] : List (List Nat)).getD i [], fun i => ([[], [], [], [], [], [], [], [], [], [], [], [], [], [], [], [], [], [], [], [], [], [], [], [], [], [], [], [], [], [], [], [], [], [], [], [], [], [], [], [], [], [], [], [], [], [], [1062], [1062], [], []] : List (List Nat)).getD i [], fun i => ([[], [], [], [], [], [], [], [], [], [], [], [], [], [], [], [], [], [], [], [], [], [], [], [], [], [], [], [], [], [], [], [], [], [], [], [], [], [], [], [], [], [], [], [], [], [], [1062], [], [], []] : List (List Nat)).getD i []⟩ (fun i => ([[], [], [], [], [], [], [], [], [], [], [], [], [], [], [], [], [], [], [], [], [], [], [], [], [], [], [], [], [], [], [], [], [], [], [], [], [], [], [], [], [], [], [], [], [], [], [], [], [], []] : List (List Nat)).getD i []) (by kernel_rfl) (by kernel_rfl) ?_
      refine AJR_ev env 1 rfl (Nat.le_of_ble_eq_true rfl) rfl trivial ?_
      refine AJR_ev env 2 rfl (Nat.le_of_ble_eq_true rfl) rfl trivial ?_
      refine bif_split h1 (fun hb115 h1 => ?_) (fun hb115 h1 => ?_)
      · refine AJR_gev env 3 rfl (Nat.le_of_ble_eq_true rfl) hb115 rfl rfl rfl rfl rfl rfl trivial ?_
        refine AJR_gev env 4 rfl (Nat.le_of_ble_eq_true rfl) hb115 rfl rfl rfl rfl rfl rfl ⟨trivial, trivial⟩ ?_
        refine AJR_gev env 5 rfl (Nat.le_of_ble_eq_true rfl) hb115 rfl rfl rfl rfl rfl rfl ⟨trivial, ⟨trivial, trivial⟩⟩ ?_
        refine AJR_gev env 6 rfl (Nat.le_of_ble_eq_true rfl) hb115 rfl rfl rfl rfl rfl rfl trivial ?_
        refine AJR_ev env 7 rfl (Nat.le_of_ble_eq_true rfl) rfl (fun eg => trivial) ?_
        refine AJR_ev env 8 rfl (Nat.le_of_ble_eq_true rfl) rfl (fun eg => ⟨fun e => e, trivial⟩) ?_
        refine AJR_ev env 9 rfl (Nat.le_of_ble_eq_true rfl) rfl (fun eg => ⟨fun e => e, ⟨trivial, trivial⟩⟩) ?_
        refine AJR_gev env 10 rfl (Nat.le_of_ble_eq_true rfl) hb115 rfl rfl rfl rfl rfl rfl ⟨trivial, ⟨trivial, fun e => e⟩⟩ ?_
        refine AJR_gev env 11 rfl (Nat.le_of_ble_eq_true rfl) hb115 rfl rfl rfl rfl rfl rfl trivial ?_
        refine AJR_gev env 12 rfl (Nat.le_of_ble_eq_true rfl) hb115 rfl rfl rfl rfl rfl rfl ⟨trivial, trivial⟩ ?_
        refine AJR_gev env 13 rfl (Nat.le_of_ble_eq_true rfl) hb115 rfl rfl rfl rfl rfl rfl ⟨trivial, ⟨trivial, (by decide)⟩⟩ ?_
        refine AJR_gev env 14 rfl (Nat.le_of_ble_eq_true rfl) hb115 rfl rfl rfl rfl rfl rfl ⟨trivial, ⟨trivial, trivial⟩⟩ ?_
        refine AJR_gev env 15 rfl (Nat.le_of_ble_eq_true rfl) hb115 rfl rfl rfl rfl rfl rfl trivial ?_
        refine bif_split h1 (fun hb118 h1 => ?_) (fun hb118 h1 => ?_)
        · refine AJR_gev env 16 rfl (Nat.le_of_ble_eq_true rfl) hb118 rfl rfl rfl rfl rfl rfl trivial ?_
          refine AJR_gev env 17 rfl (Nat.le_of_ble_eq_true rfl) hb118 rfl rfl rfl rfl rfl rfl ⟨trivial, trivial⟩ ?_
          obtain ⟨r119, hr, h1⟩ := bnd h1
          refine AJR_gcall 18 rfl (Nat.le_of_ble_eq_true rfl) hb118 [] rfl rfl rfl rfl rfl (format_within.ok0 hr) format_within.fnb rfl ⟨trivial, ⟨trivial, ⟨trivial, ⟨trivial, trivial⟩⟩⟩⟩ rfl trivial rfl ?_
          refine AJR_gev env 19 rfl (Nat.le_of_ble_eq_true rfl) hb115 rfl rfl rfl rfl rfl rfl ⟨trivial, ⟨trivial, trivial⟩⟩ ?_
          refine AJR_gev env 20 rfl (Nat.le_of_ble_eq_true rfl) hb115 rfl rfl rfl rfl rfl rfl trivial ?_
          refine AJR_gev env 21 rfl (Nat.le_of_ble_eq_true rfl) hb115 rfl rfl rfl rfl rfl rfl ⟨trivial, trivial⟩ ?_
          obtain ⟨r121, hr, h1⟩ := bnd h1
          refine AJR_gcall 22 rfl (Nat.le_of_ble_eq_true rfl) hb115 [] rfl rfl rfl rfl rfl (format_within.ok0 hr) format_within.fnb rfl ⟨trivial, ⟨trivial, ⟨trivial, ⟨trivial, trivial⟩⟩⟩⟩ rfl trivial rfl ?_
          refine AJR_gev env 23 rfl (Nat.le_of_ble_eq_true rfl) hb115 rfl rfl rfl rfl rfl rfl trivial ?_
          refine AJR_gev env 24 rfl (Nat.le_of_ble_eq_true rfl) hb115 rfl rfl rfl rfl rfl rfl ⟨trivial, trivial⟩ ?_
          refine AJR_gev env 25 rfl (Nat.le_of_ble_eq_true rfl) hb115 rfl rfl rfl rfl rfl rfl trivial ?_
          refine AJR_gev env 26 rfl (Nat.le_of_ble_eq_true rfl) hb115 rfl rfl rfl rfl rfl rfl ⟨trivial, trivial⟩ ?_
          refine AJR_gev env 27 rfl (Nat.le_of_ble_eq_true rfl) hb115 rfl rfl rfl rfl rfl rfl ⟨trivial, ⟨trivial, trivial⟩⟩ ?_
          obtain ⟨r123, hr, h1⟩ := bnd h1
          refine AJR_gcall 28 rfl (Nat.le_of_ble_eq_true rfl) hb115 [] rfl rfl rfl rfl rfl (format_within.ok0 hr) format_within.fnb rfl ⟨trivial, ⟨trivial, ⟨trivial, ⟨trivial, trivial⟩⟩⟩⟩ rfl trivial rfl ?_
          refine AJR_gev env 29 rfl (Nat.le_of_ble_eq_true rfl) hb115 rfl rfl rfl rfl rfl rfl trivial ?_
          refine AJR_gev env 30 rfl (Nat.le_of_ble_eq_true rfl) hb115 rfl rfl rfl rfl rfl rfl ⟨trivial, trivial⟩ ?_
          refine AJR_gev env 31 rfl (Nat.le_of_ble_eq_true rfl) hb115 rfl rfl rfl rfl rfl rfl trivial ?_
          refine AJR_gev env 32 rfl (Nat.le_of_ble_eq_true rfl) hb115 rfl rfl rfl rfl rfl rfl ⟨trivial, trivial⟩ ?_
          refine AJR_gev env 33 rfl (Nat.le_of_ble_eq_true rfl) hb115 rfl rfl rfl rfl rfl rfl ⟨trivial, ⟨trivial, trivial⟩⟩ ?_
          refine AJR_gev env 34 rfl (Nat.le_of_ble_eq_true rfl) hb115 rfl rfl rfl rfl rfl rfl trivial ?_
          refine AJR_gev env 35 rfl (Nat.le_of_ble_eq_true rfl) hb115 rfl rfl rfl rfl rfl rfl ⟨trivial, trivial⟩ ?_
          refine AJR_gev env 36 rfl (Nat.le_of_ble_eq_true rfl) hb115 rfl rfl rfl rfl rfl rfl ⟨trivial, ⟨trivial, trivial⟩⟩ ?_
          refine AJR_gev env 37 rfl (Nat.le_of_ble_eq_true rfl) hb115 rfl rfl rfl rfl rfl rfl ⟨trivial, ⟨trivial, trivial⟩⟩ ?_
          obtain ⟨r127, hr, h1⟩ := bnd h1
          refine AJR_gcall 38 rfl (Nat.le_of_ble_eq_true rfl) hb115 [] rfl rfl rfl rfl rfl (format_within.ok0 hr) format_within.fnb rfl ⟨trivial, ⟨trivial, ⟨trivial, ⟨trivial, trivial⟩⟩⟩⟩ rfl trivial rfl ?_
          refine AJR_gev env 39 rfl (Nat.le_of_ble_eq_true rfl) hb115 rfl rfl rfl rfl rfl rfl trivial ?_
          refine AJR_gev env 40 rfl (Nat.le_of_ble_eq_true rfl) hb115 rfl rfl rfl rfl rfl rfl ⟨trivial, trivial⟩ ?_
          refine AJR_gev env 41 rfl (Nat.le_of_ble_eq_true rfl) hb115 rfl rfl rfl rfl rfl rfl ⟨trivial, ⟨trivial, trivial⟩⟩ ?_
          refine AJR_gev env 42 rfl (Nat.le_of_ble_eq_true rfl) hb115 rfl rfl rfl rfl rfl rfl trivial ?_
          refine AJR_ev env 43 rfl (Nat.le_of_ble_eq_true rfl) rfl (fun eg => trivial) ?_
          refine AJR_ev env 44 rfl (Nat.le_of_ble_eq_true rfl) rfl (fun eg => ⟨fun e => e, trivial⟩) ?_
          refine AJR_ev env 45 rfl (Nat.le_of_ble_eq_true rfl) rfl (fun eg => ⟨fun e => e, ⟨trivial, trivial⟩⟩) ?_
          refine AJR_gev env 46 rfl (Nat.le_of_ble_eq_true rfl) hb115 rfl rfl rfl rfl rfl rfl ⟨trivial, ⟨fun e => e, trivial⟩⟩ ?_
          refine AJR_gev env 47 rfl (Nat.le_of_ble_eq_true rfl) hb115 rfl rfl rfl rfl rfl rfl ⟨trivial, ⟨trivial, ⟨trivial, ⟨trivial, ⟨trivial, ⟨trivial, trivial⟩⟩⟩⟩⟩⟩ ?_
          obtain ⟨r130, hr, h1⟩ := bnd h1
          refine AJR_gcall 48 rfl (Nat.le_of_ble_eq_true rfl) hb115 [(0, 1062)] rfl rfl rfl rfl rfl (format_all.ok0 hr) format_all.fnb rfl ⟨trivial, ⟨trivial, trivial⟩⟩ rfl ⟨.inr rfl, trivial⟩ rfl ?_
          refine AJR_ev env 49 rfl (Nat.le_of_ble_eq_true rfl) rfl ⟨trivial, ⟨trivial, trivial⟩⟩ ?_
          refine AJR_ev env 50 rfl (Nat.le_of_ble_eq_true rfl) rfl trivial ?_
          refine AJR_end rfl rfl rfl ?_
          obtain rfl := sinj h1
          refine tsn ?_
          exact SP_ren [] _ rfl ⟨rfl, trivial⟩ trivial rfl
        · refine AJR_gskip (.bool false) 16 rfl (Nat.le_of_ble_eq_true rfl) hb118 rfl rfl rfl rfl rfl rfl (by decide) ?_
          refine AJR_gskip (.bool false) 17 rfl (Nat.le_of_ble_eq_true rfl) hb118 rfl rfl rfl rfl rfl rfl (by decide) ?_
          refine AJR_gskip (.bool false) 18 rfl (Nat.le_of_ble_eq_true rfl) hb118 rfl rfl rfl rfl rfl rfl (by decide) ?_
          refine AJR_gev env 19 rfl (Nat.le_of_ble_eq_true rfl) hb115 rfl rfl rfl rfl rfl rfl ⟨trivial, ⟨fun e => (tff (e.symm.trans hb118)).elim, trivial⟩⟩ ?_
          refine AJR_gev env 20 rfl (Nat.le_of_ble_eq_true rfl) hb115 rfl rfl rfl rfl rfl rfl trivial ?_
          refine AJR_gev env 21 rfl (Nat.le_of_ble_eq_true rfl) hb115 rfl rfl rfl rfl rfl rfl ⟨trivial, trivial⟩ ?_
          obtain ⟨r133, hr, h1⟩ := bnd h1
          refine AJR_gcall 22 rfl (Nat.le_of_ble_eq_true rfl) hb115 [] rfl rfl rfl rfl rfl (format_within.ok0 hr) format_within.fnb rfl ⟨trivial, ⟨trivial, ⟨trivial, ⟨trivial, trivial⟩⟩⟩⟩ rfl trivial rfl ?_
          refine AJR_gev env 23 rfl (Nat.le_of_ble_eq_true rfl) hb115 rfl rfl rfl rfl rfl rfl trivial ?_
          refine AJR_gev env 24 rfl (Nat.le_of_ble_eq_true rfl) hb115 rfl rfl rfl rfl rfl rfl ⟨trivial, trivial⟩ ?_
          refine AJR_gev env 25 rfl (Nat.le_of_ble_eq_true rfl) hb115 rfl rfl rfl rfl rfl rfl trivial ?_
          refine AJR_gev env 26 rfl (Nat.le_of_ble_eq_true rfl) hb115 rfl rfl rfl rfl rfl rfl ⟨trivial, trivial⟩ ?_
          refine AJR_gev env 27 rfl (Nat.le_of_ble_eq_true rfl) hb115 rfl rfl rfl rfl rfl rfl ⟨trivial, ⟨trivial, trivial⟩⟩ ?_
          obtain ⟨r135, hr, h1⟩ := bnd h1
          refine AJR_gcall 28 rfl (Nat.le_of_ble_eq_true rfl) hb115 [] rfl rfl rfl rfl rfl (format_within.ok0 hr) format_within.fnb rfl ⟨trivial, ⟨trivial, ⟨trivial, ⟨trivial, trivial⟩⟩⟩⟩ rfl trivial rfl ?_
          refine AJR_gev env 29 rfl (Nat.le_of_ble_eq_true rfl) hb115 rfl rfl rfl rfl rfl rfl trivial ?_
          refine AJR_gev env 30 rfl (Nat.le_of_ble_eq_true rfl) hb115 rfl rfl rfl rfl rfl rfl ⟨trivial, trivial⟩ ?_
          refine AJR_gev env 31 rfl (Nat.le_of_ble_eq_true rfl) hb115 rfl rfl rfl rfl rfl rfl trivial ?_
          refine AJR_gev env 32 rfl (Nat.le_of_ble_eq_true rfl) hb115 rfl rfl rfl rfl rfl rfl ⟨trivial, trivial⟩ ?_
          refine AJR_gev env 33 rfl (Nat.le_of_ble_eq_true rfl) hb115 rfl rfl rfl rfl rfl rfl ⟨trivial, ⟨trivial, trivial⟩⟩ ?_
          refine AJR_gev env 34 rfl (Nat.le_of_ble_eq_true rfl) hb115 rfl rfl rfl rfl rfl rfl trivial ?_
          refine AJR_gev env 35 rfl (Nat.le_of_ble_eq_true rfl) hb115 rfl rfl rfl rfl rfl rfl ⟨trivial, trivial⟩ ?_
          refine AJR_gev env 36 rfl (Nat.le_of_ble_eq_true rfl) hb115 rfl rfl rfl rfl rfl rfl ⟨trivial, ⟨trivial, trivial⟩⟩ ?_
          refine AJR_gev env 37 rfl (Nat.le_of_ble_eq_true rfl) hb115 rfl rfl rfl rfl rfl rfl ⟨trivial, ⟨trivial, trivial⟩⟩ ?_
          obtain ⟨r139, hr, h1⟩ := bnd h1
          refine AJR_gcall 38 rfl (Nat.le_of_ble_eq_true rfl) hb115 [] rfl rfl rfl rfl rfl (format_within.ok0 hr) format_within.fnb rfl ⟨trivial, ⟨trivial, ⟨trivial, ⟨trivial, trivial⟩⟩⟩⟩ rfl trivial rfl ?_
          refine AJR_gev env 39 rfl (Nat.le_of_ble_eq_true rfl) hb115 rfl rfl rfl rfl rfl rfl trivial ?_
          refine AJR_gev env 40 rfl (Nat.le_of_ble_eq_true rfl) hb115 rfl rfl rfl rfl rfl rfl ⟨trivial, trivial⟩ ?_
          refine AJR_gev env 41 rfl (Nat.le_of_ble_eq_true rfl) hb115 rfl rfl rfl rfl rfl rfl ⟨trivial, ⟨trivial, trivial⟩⟩ ?_
          refine AJR_gev env 42 rfl (Nat.le_of_ble_eq_true rfl) hb115 rfl rfl rfl rfl rfl rfl trivial ?_
          refine AJR_ev env 43 rfl (Nat.le_of_ble_eq_true rfl) rfl (fun eg => trivial) ?_
          refine AJR_ev env 44 rfl (Nat.le_of_ble_eq_true rfl) rfl (fun eg => ⟨fun e => e, trivial⟩) ?_
          refine AJR_ev env 45 rfl (Nat.le_of_ble_eq_true rfl) rfl (fun eg => ⟨fun e => e, ⟨trivial, trivial⟩⟩) ?_
          refine AJR_gev env 46 rfl (Nat.le_of_ble_eq_true rfl) hb115 rfl rfl rfl rfl rfl rfl ⟨trivial, ⟨fun e => e, trivial⟩⟩ ?_
          refine AJR_gev env 47 rfl (Nat.le_of_ble_eq_true rfl) hb115 rfl rfl rfl rfl rfl rfl ⟨trivial, ⟨trivial, ⟨trivial, ⟨trivial, ⟨trivial, ⟨trivial, trivial⟩⟩⟩⟩⟩⟩ ?_
          obtain ⟨r142, hr, h1⟩ := bnd h1
          refine AJR_gcall 48 rfl (Nat.le_of_ble_eq_true rfl) hb115 [(0, 1062)] rfl rfl rfl rfl rfl (format_all.ok0 hr) format_all.fnb rfl ⟨trivial, ⟨trivial, trivial⟩⟩ rfl ⟨.inr rfl, trivial⟩ rfl ?_
          refine AJR_ev env 49 rfl (Nat.le_of_ble_eq_true rfl) rfl ⟨trivial, ⟨trivial, trivial⟩⟩ ?_
          refine AJR_ev env 50 rfl (Nat.le_of_ble_eq_true rfl) rfl trivial ?_
          refine AJR_end rfl rfl rfl ?_
          obtain rfl := sinj h1
          refine tsn ?_
          exact SP_ren [] _ rfl ⟨rfl, trivial⟩ trivial rfl
      · refine AJR_gskip (.bool false) 3 rfl (Nat.le_of_ble_eq_true rfl) hb115 rfl rfl rfl rfl rfl rfl (by decide) ?_
        refine AJR_gskip (.bool false) 4 rfl (Nat.le_of_ble_eq_true rfl) hb115 rfl rfl rfl rfl rfl rfl (by decide) ?_
        refine AJR_gskip (.bool false) 5 rfl (Nat.le_of_ble_eq_true rfl) hb115 rfl rfl rfl rfl rfl rfl (by decide) ?_
        refine AJR_gskip (.bool false) 6 rfl (Nat.le_of_ble_eq_true rfl) hb115 rfl rfl rfl rfl rfl rfl (by decide) ?_
        refine AJR_gskipU (.bool false) 7 rfl (Nat.le_of_ble_eq_true rfl) rfl rfl rfl rfl rfl rfl (by decide) ?_
        refine AJR_gskipU (.bool false) 8 rfl (Nat.le_of_ble_eq_true rfl) rfl rfl rfl rfl rfl rfl (by decide) ?_
        refine AJR_gskipU (.bool false) 9 rfl (Nat.le_of_ble_eq_true rfl) rfl rfl rfl rfl rfl rfl (by decide) ?_
        refine AJR_gskip (.bool false) 10 rfl (Nat.le_of_ble_eq_true rfl) hb115 rfl rfl rfl rfl rfl rfl (by decide) ?_
        refine AJR_gskip (.bool false) 11 rfl (Nat.le_of_ble_eq_true rfl) hb115 rfl rfl rfl rfl rfl rfl (by decide) ?_
        refine AJR_gskip (.bool false) 12 rfl (Nat.le_of_ble_eq_true rfl) hb115 rfl rfl rfl rfl rfl rfl (by decide) ?_
        refine AJR_gskip (.bool false) 13 rfl (Nat.le_of_ble_eq_true rfl) hb115 rfl rfl rfl rfl rfl rfl (by decide) ?_
        refine AJR_gskip (.bool false) 14 rfl (Nat.le_of_ble_eq_true rfl) hb115 rfl rfl rfl rfl rfl rfl (by decide) ?_
        refine AJR_gskip (.bool false) 15 rfl (Nat.le_of_ble_eq_true rfl) hb115 rfl rfl rfl rfl rfl rfl (by decide) ?_
        refine AJR_gskipU (.bool false) 16 rfl (Nat.le_of_ble_eq_true rfl) rfl rfl rfl rfl rfl rfl (by decide) ?_
        refine AJR_gskipU (.bool false) 17 rfl (Nat.le_of_ble_eq_true rfl) rfl rfl rfl rfl rfl rfl (by decide) ?_
        refine AJR_gskipU (.bool false) 18 rfl (Nat.le_of_ble_eq_true rfl) rfl rfl rfl rfl rfl rfl (by decide) ?_
        refine AJR_gskip (.bool false) 19 rfl (Nat.le_of_ble_eq_true rfl) hb115 rfl rfl rfl rfl rfl rfl (by decide) ?_
        refine AJR_gskip (.bool false) 20 rfl (Nat.le_of_ble_eq_true rfl) hb115 rfl rfl rfl rfl rfl rfl (by decide) ?_
        refine AJR_gskip (.bool false) 21 rfl (Nat.le_of_ble_eq_true rfl) hb115 rfl rfl rfl rfl rfl rfl (by decide) ?_
        refine AJR_gskip (.bool false) 22 rfl (Nat.le_of_ble_eq_true rfl) hb115 rfl rfl rfl rfl rfl rfl (by decide) ?_
        refine AJR_gskip (.bool false) 23 rfl (Nat.le_of_ble_eq_true rfl) hb115 rfl rfl rfl rfl rfl rfl (by decide) ?_
        refine AJR_gskip (.bool false) 24 rfl (Nat.le_of_ble_eq_true rfl) hb115 rfl rfl rfl rfl rfl rfl (by decide) ?_
        refine AJR_gskip (.bool false) 25 rfl (Nat.le_of_ble_eq_true rfl) hb115 rfl rfl rfl rfl rfl rfl (by decide) ?_
        refine AJR_gskip (.bool false) 26 rfl (Nat.le_of_ble_eq_true rfl) hb115 rfl rfl rfl rfl rfl rfl (by decide) ?_
        refine AJR_gskip (.bool false) 27 rfl (Nat.le_of_ble_eq_true rfl) hb115 rfl rfl rfl rfl rfl rfl (by decide) ?_
        refine AJR_gskip (.bool false) 28 rfl (Nat.le_of_ble_eq_true rfl) hb115 rfl rfl rfl rfl rfl rfl (by decide) ?_
        refine AJR_gskip (.bool false) 29 rfl (Nat.le_of_ble_eq_true rfl) hb115 rfl rfl rfl rfl rfl rfl (by decide) ?_
        refine AJR_gskip (.bool false) 30 rfl (Nat.le_of_ble_eq_true rfl) hb115 rfl rfl rfl rfl rfl rfl (by decide) ?_
        refine AJR_gskip (.bool false) 31 rfl (Nat.le_of_ble_eq_true rfl) hb115 rfl rfl rfl rfl rfl rfl (by decide) ?_
        refine AJR_gskip (.bool false) 32 rfl (Nat.le_of_ble_eq_true rfl) hb115 rfl rfl rfl rfl rfl rfl (by decide) ?_
        refine AJR_gskip (.bool false) 33 rfl (Nat.le_of_ble_eq_true rfl) hb115 rfl rfl rfl rfl rfl rfl (by decide) ?_
        refine AJR_gskip (.bool false) 34 rfl (Nat.le_of_ble_eq_true rfl) hb115 rfl rfl rfl rfl rfl rfl (by decide) ?_
        refine AJR_gskip (.bool false) 35 rfl (Nat.le_of_ble_eq_true rfl) hb115 rfl rfl rfl rfl rfl rfl (by decide) ?_
        refine AJR_gskip (.bool false) 36 rfl (Nat.le_of_ble_eq_true rfl) hb115 rfl rfl rfl rfl rfl rfl (by decide) ?_
        refine AJR_gskip (.bool false) 37 rfl (Nat.le_of_ble_eq_true rfl) hb115 rfl rfl rfl rfl rfl rfl (by decide) ?_
        refine AJR_gskip (.bool false) 38 rfl (Nat.le_of_ble_eq_true rfl) hb115 rfl rfl rfl rfl rfl rfl (by decide) ?_
        refine AJR_gskip (.bool false) 39 rfl (Nat.le_of_ble_eq_true rfl) hb115 rfl rfl rfl rfl rfl rfl (by decide) ?_
        refine AJR_gskip (.bool false) 40 rfl (Nat.le_of_ble_eq_true rfl) hb115 rfl rfl rfl rfl rfl rfl (by decide) ?_
        refine AJR_gskip (.bool false) 41 rfl (Nat.le_of_ble_eq_true rfl) hb115 rfl rfl rfl rfl rfl rfl (by decide) ?_
        refine AJR_gskip (.bool false) 42 rfl (Nat.le_of_ble_eq_true rfl) hb115 rfl rfl rfl rfl rfl rfl (by decide) ?_
        refine AJR_gskipU (.bool false) 43 rfl (Nat.le_of_ble_eq_true rfl) rfl rfl rfl rfl rfl rfl (by decide) ?_
        refine AJR_gskipU (.bool false) 44 rfl (Nat.le_of_ble_eq_true rfl) rfl rfl rfl rfl rfl rfl (by decide) ?_
        refine AJR_gskipU (.bool false) 45 rfl (Nat.le_of_ble_eq_true rfl) rfl rfl rfl rfl rfl rfl (by decide) ?_
        refine AJR_gskip (.bool false) 46 rfl (Nat.le_of_ble_eq_true rfl) hb115 rfl rfl rfl rfl rfl rfl (by decide) ?_
        refine AJR_gskip (.bool false) 47 rfl (Nat.le_of_ble_eq_true rfl) hb115 rfl rfl rfl rfl rfl rfl (by decide) ?_
        refine AJR_gskip (.bool false) 48 rfl (Nat.le_of_ble_eq_true rfl) hb115 rfl rfl rfl rfl rfl rfl (by decide) ?_
        refine AJR_ev env 49 rfl (Nat.le_of_ble_eq_true rfl) rfl ⟨trivial, ⟨fun e => (tff (e.symm.trans hb115)).elim, trivial⟩⟩ ?_
        refine AJR_ev env 50 rfl (Nat.le_of_ble_eq_true rfl) rfl trivial ?_
        refine AJR_end rfl rfl rfl ?_
        obtain rfl := sinj h1
        refine tsn ?_
        exact SP_ren [] _ rfl ⟨rfl, trivial⟩ trivial rfl
    · rintro x114 hz
      obtain rfl := hz.symm
      refine TE_go ?_
      refine TC_ret ?_
      refine tbr ?_
      refine tsr ?_
      obtain rfl := sinj h0
      exact TE_ret env rfl trivial trivial
  · replace h0 := bif_f h0 hb
    refine TC_seq ?_
    refine TC_reg ?_
    refine TL_ev env 2 rfl ⟨⟨trivial, ⟨trivial, trivial⟩⟩, ⟨trivial, trivial⟩⟩ ?_
    refine TL_end ?_
    refine TE_go ?_
    refine TC_cond rfl (fun hb => ?_) (fun hb => ?_)
    · replace h0 := bif_t h0 hb
      refine TC_seq ?_
      obtain ⟨z1, h1, h0⟩ := bnd h0
      refine TC_cut (α := Bool) (fun s => z1 = s) (fun s => [(2, .bool s)]) (fun s => []) ?_ ?_
      · refine TC_renw (A' := [(1, .p 1001 0), (3, .bool _)]) (L' := [(1001, some (.cells [.int .i64 _, .int .i64 _, .int .i64 _, .int .i64 _, .int .i64 _, .int .i64 _, .int .i64 _, .int .i64 _, .int .i64 _, .int .i64 _]))]) [] ⟨rfl, rfl, trivial⟩ ⟨rfl, trivial⟩ rfl ?_
        refine TC_drawR ⟨_, fun i => ([[], [0], [1, 0], [1, 0], [3, 1, 0], [4, 3, 2, 1, 0], [1, 0], [6, 1, 0], [7, 6, 5, 4, 3, 2, 1, 0], [1, 0], [9, 1, 0], [10, 9, 1, 0], [11, 10, 9, 8, 7, 6, 5, 4, 3, 2, 1, 0], [12, 11, 10, 9, 8, 7, 6, 5, 4, 3, 2, 1, 0], [13, 12, 11, 10, 9, 8, 7, 6, 5, 4, 3, 2, 1, 0], [14, 13, 12, 11, 10, 9, 8, 7, 6, 5, 4, 3, 2, 1, 0], [15, 14, 13, 12, 11, 10, 9, 8, 7, 6, 5, 4, 3, 2, 1, 0], [16, 15, 14, 13, 12, 11, 10, 9, 8, 7, 6, 5, 4, 3, 2, 1, 0], [17, 16, 15, 14, 13, 12, 11, 10, 9, 8, 7, 6, 5, 4, 3, 2, 1, 0], [18, 17, 16, 15, 14, 13, 12, 11, 10, 9, 8, 7, 6, 5, 4, 3, 2, 1, 0], [19, 18, 17, 16, 15, 14, 13, 12, 11, 10, 9, 8, 7, 6, 5, 4, 3, 2, 1, 0], [20, 19, 18, 17, 16, 15, 14, 13, 12, 11, 10, 9, 8, 7, 6, 5, 4, 3, 2, 1, 0], [21, 20, 19, 18, 17, 16, 15, 14, 13, 12, 11, 10, 9, 8, 7, 6, 5, 4, 3, 2, 1, 0], [22, 21, 20, 19, 18, 17, 16, 15, 14, 13, 12, 11, 10, 9, 8, 7, 6, 5, 4, 3, 2, 1, 0], [23, 22, 21, 20, 19, 18, 17, 16, 15, 14, 13, 12, 11, 10, 9, 8, 7, 6, 5, 4, 3, 2, 1, 0], [24, 23, 22, 21, 20, 19, 18, 17, 16, 15, 14, 13, 12, 11, 10, 9, 8, 7, 6, 5, 4, 3, 2, 1, 0], [25, 24, 23, 22, 21, 20, 19, 18, 17, 16, 15, 14, 13, 12, 11, 10, 9, 8, 7, 6, 5, 4, 3, 2, 1, 0], [26, 25, 24, 23, 22, 21, 20, 19, 18, 17, 16, 15, 14, 13, 12, 11, 10, 9, 8, 7, 6, 5, 4, 3, 2, 1, 0], [27, 26, 25, 24, 23, 22, 21, 20, 19, 18, 17, 16, 15, 14, 13, 12, 11, 10, 9, 8, 7, 6, 5, 4, 3, 2, 1, 0], [28, 27, 26, 25, 24, 23, 22, 21, 20, 19, 18, 17, 16, 15, 14, 13, 12, 11, 10, 9, 8, 7, 6, 5, 4, 3, 2, 1, 0], [29, 28, 27, 26, 25, 24, 23, 22, 21, 20, 19, 18, 17, 16, 15, 14, 13, 12, 11, 10, 9, 8, 7, 6, 5, 4, 3, 2, 1, 0], [30, 29, 28, 27, 26, 25, 24, 23, 22, 21, 20, 19, 18, 17, 16, 15, 14, 13, 12, 11, 10, 9, 8, 7, 6, 5, 4, 3, 2, 1, 0], [31, 30, 29, 28, 27, 26, 25, 24, 23, 22, 21, 20, 19, 18, 17, 16, 15, 14, 13, 12, 11, 10, 9, 8, 7, 6, 5, 4, 3, 2, 1, 0], [32, 31, 30, 29, 28, 27, 26, 25, 24, 23, 22, 21, 20, 19, 18, 17, 16, 15, 14, 13, 12, 11, 10, 9, 8, 7, 6, 5, 4, 3, 2, 1, 0], [33, 32, 31, 30, 29, 28, 27, 26, 25, 24, 23, 22, 21, 20, 19, 18, 17, 16, 15, 14, 13, 12, 11, 10, 9, 8, 7, 6, 5, 4, 3, 2, 1, 0], [34, 33, 32, 31, 30, 29, 28, 27, 26, 25, 24, 23, 22, 21, 20, 19, 18, 17, 16, 15, 14, 13, 12, 11, 10, 9, 8, 7, 6, 5, 4, 3, 2, 1, 0]] : List (List Nat)).getD i [], fun i => ([[], [], [], [], [], [], [], [], [], [], [], [], [], [], [], [], [], [], [], [], [], [], [], [], [], [], [], [], [], [], [], [], [1099], [1099], [], []] : List (List Nat)).getD i [], fun i => ([[], [], [], [], [], [], [], [], [], [], [], [], [], [], [], [], [], [], [], [], [], [], [], [], [], [], [], [], [], [], [], [], [1099], [], [], []] : List (List Nat)).getD i []⟩ (fun i => ([[], [], [], [], [], [], [], [], [], [], [], [], [], [], [], [], [], [], [], [], [], [], [], [], [], [], [], [], [], [], [], [], [], [], [], []] : List (List Nat)).getD i []) (by kernel_rfl) (by kernel_rfl) ?_
        refine AJR_ev env 1 rfl (Nat.le_of_ble_eq_true rfl) rfl trivial ?_
        refine AJR_ev env 2 rfl (Nat.le_of_ble_eq_true rfl) rfl trivial ?_
        refine bif_split h1 (fun hb157 h1 => ?_) (fun hb157 h1 => ?_)
        · obtain ⟨r158, hr, h1⟩ := bnd h1
          refine AJR_gcall 3 rfl (Nat.le_of_ble_eq_true rfl) hb157 [] rfl rfl rfl rfl rfl (lapped_Lengths.ok0 hr) lapped_Lengths.fnb rfl ⟨trivial, trivial⟩ rfl trivial rfl ?_
          refine AJR_gev env 4 rfl (Nat.le_of_ble_eq_true rfl) hb157 rfl rfl rfl rfl rfl rfl trivial ?_
          refine AJR_gev env 5 rfl (Nat.le_of_ble_eq_true rfl) hb157 rfl rfl rfl rfl rfl rfl ⟨trivial, trivial⟩ ?_
          obtain ⟨r159, hr, h1⟩ := bnd h1
          refine AJR_gcall 6 rfl (Nat.le_of_ble_eq_true rfl) hb157 [] rfl rfl rfl rfl rfl (slices_Contains_int_int.ok0 hr) slices_Contains_int_int.fnb rfl ⟨trivial, ⟨trivial, ⟨trivial, trivial⟩⟩⟩ rfl trivial rfl ?_
          refine AJR_gev env 7 rfl (Nat.le_of_ble_eq_true rfl) hb157 rfl rfl rfl rfl rfl rfl trivial ?_
          refine AJR_gev env 8 rfl (Nat.le_of_ble_eq_true rfl) hb157 rfl rfl rfl rfl rfl rfl ⟨trivial, trivial⟩ ?_
          obtain ⟨r160, hr, h1⟩ := bnd h1
          refine AJR_gcall 9 rfl (Nat.le_of_ble_eq_true rfl) hb157 [] rfl rfl rfl rfl rfl (format_within.ok0 hr) format_within.fnb rfl ⟨trivial, ⟨trivial, ⟨trivial, ⟨trivial, trivial⟩⟩⟩⟩ rfl trivial rfl ?_
          refine AJR_gev env 10 rfl (Nat.le_of_ble_eq_true rfl) hb157 rfl rfl rfl rfl rfl rfl trivial ?_
          refine AJR_gev env 11 rfl (Nat.le_of_ble_eq_true rfl) hb157 rfl rfl rfl rfl rfl rfl ⟨trivial, trivial⟩ ?_
          refine AJR_gev env 12 rfl (Nat.le_of_ble_eq_true rfl) hb157 rfl rfl rfl rfl rfl rfl ⟨trivial, ⟨trivial, trivial⟩⟩ ?_
          refine AJR_gev env 13 rfl (Nat.le_of_ble_eq_true rfl) hb157 rfl rfl rfl rfl rfl rfl trivial ?_
          refine AJR_ev env 14 rfl (Nat.le_of_ble_eq_true rfl) rfl (fun eg => trivial) ?_
          refine AJR_ev env 15 rfl (Nat.le_of_ble_eq_true rfl) rfl (fun eg => ⟨fun e => e, trivial⟩) ?_
          refine AJR_ev env 16 rfl (Nat.le_of_ble_eq_true rfl) rfl (fun eg => ⟨fun e => e, ⟨trivial, trivial⟩⟩) ?_
          refine AJR_gev env 17 rfl (Nat.le_of_ble_eq_true rfl) hb157 rfl rfl rfl rfl rfl rfl ⟨trivial, ⟨fun e => e, trivial⟩⟩ ?_
          refine AJR_gev env 18 rfl (Nat.le_of_ble_eq_true rfl) hb157 rfl rfl rfl rfl rfl rfl trivial ?_
          refine AJR_ev env 19 rfl (Nat.le_of_ble_eq_true rfl) rfl (fun eg => trivial) ?_
          refine AJR_ev env 20 rfl (Nat.le_of_ble_eq_true rfl) rfl (fun eg => ⟨fun e => e, trivial⟩) ?_
          refine AJR_ev env 21 rfl (Nat.le_of_ble_eq_true rfl) rfl (fun eg => ⟨fun e => e, ⟨trivial, trivial⟩⟩) ?_
          refine AJR_gev env 22 rfl (Nat.le_of_ble_eq_true rfl) hb157 rfl rfl rfl rfl rfl rfl ⟨trivial, ⟨fun e => e, trivial⟩⟩ ?_
          refine AJR_gev env 23 rfl (Nat.le_of_ble_eq_true rfl) hb157 rfl rfl rfl rfl rfl rfl trivial ?_
          refine AJR_ev env 24 rfl (Nat.le_of_ble_eq_true rfl) rfl (fun eg => trivial) ?_
          refine AJR_ev env 25 rfl (Nat.le_of_ble_eq_true rfl) rfl (fun eg => ⟨fun e => e, trivial⟩) ?_
          refine AJR_ev env 26 rfl (Nat.le_of_ble_eq_true rfl) rfl (fun eg => ⟨fun e => e, ⟨trivial, trivial⟩⟩) ?_
          refine AJR_gev env 27 rfl (Nat.le_of_ble_eq_true rfl) hb157 rfl rfl rfl rfl rfl rfl ⟨trivial, ⟨fun e => e, trivial⟩⟩ ?_
          refine AJR_gev env 28 rfl (Nat.le_of_ble_eq_true rfl) hb157 rfl rfl rfl rfl rfl rfl trivial ?_
          refine AJR_ev env 29 rfl (Nat.le_of_ble_eq_true rfl) rfl (fun eg => trivial) ?_
          refine AJR_ev env 30 rfl (Nat.le_of_ble_eq_true rfl) rfl (fun eg => ⟨fun e => e, trivial⟩) ?_
          refine AJR_ev env 31 rfl (Nat.le_of_ble_eq_true rfl) rfl (fun eg => ⟨fun e => e, ⟨trivial, trivial⟩⟩) ?_
          refine AJR_gev env 32 rfl (Nat.le_of_ble_eq_true rfl) hb157 rfl rfl rfl rfl rfl rfl ⟨trivial, ⟨fun e => e, trivial⟩⟩ ?_
          refine AJR_gev env 33 rfl (Nat.le_of_ble_eq_true rfl) hb157 rfl rfl rfl rfl rfl rfl ⟨trivial, ⟨trivial, ⟨trivial, trivial⟩⟩⟩ ?_
          obtain ⟨r166, hr, h1⟩ := bnd h1
          refine AJR_gcall 34 rfl (Nat.le_of_ble_eq_true rfl) hb157 [(0, 1099)] rfl rfl rfl rfl rfl (format_all.ok0 hr) format_all.fnb rfl ⟨trivial, ⟨trivial, trivial⟩⟩ rfl ⟨.inr rfl, trivial⟩ rfl ?_
          refine AJR_ev env 35 rfl (Nat.le_of_ble_eq_true rfl) rfl ⟨trivial, ⟨trivial, trivial⟩⟩ ?_
          refine AJR_ev env 36 rfl (Nat.le_of_ble_eq_true rfl) rfl trivial ?_
          refine AJR_end rfl rfl rfl ?_
          obtain rfl := sinj h1
          refine tsn ?_
          exact SP_ren [] _ rfl ⟨rfl, trivial⟩ trivial rfl
        · refine AJR_gskip (.bool false) 3 rfl (Nat.le_of_ble_eq_true rfl) hb157 rfl rfl rfl rfl rfl rfl (by decide) ?_
          refine AJR_gskip (.bool false) 4 rfl (Nat.le_of_ble_eq_true rfl) hb157 rfl rfl rfl rfl rfl rfl (by decide) ?_
          refine AJR_gskip (.bool false) 5 rfl (Nat.le_of_ble_eq_true rfl) hb157 rfl rfl rfl rfl rfl rfl (by decide) ?_
          refine AJR_gskip (.bool false) 6 rfl (Nat.le_of_ble_eq_true rfl) hb157 rfl rfl rfl rfl rfl rfl (by decide) ?_
          refine AJR_gskip (.bool false) 7 rfl (Nat.le_of_ble_eq_true rfl) hb157 rfl rfl rfl rfl rfl rfl (by decide) ?_
          refine AJR_gskip (.bool false) 8 rfl (Nat.le_of_ble_eq_true rfl) hb157 rfl rfl rfl rfl rfl rfl (by decide) ?_
          refine AJR_gskip (.bool false) 9 rfl (Nat.le_of_ble_eq_true rfl) hb157 rfl rfl rfl rfl rfl rfl (by decide) ?_
          refine AJR_gskip (.bool false) 10 rfl (Nat.le_of_ble_eq_true rfl) hb157 rfl rfl rfl rfl rfl rfl (by decide) ?_
          refine AJR_gskip (.bool false) 11 rfl (Nat.le_of_ble_eq_true rfl) hb157 rfl rfl rfl rfl rfl rfl (by decide) ?_
          refine AJR_gskip (.bool false) 12 rfl (Nat.le_of_ble_eq_true rfl) hb157 rfl rfl rfl rfl rfl rfl (by decide) ?_
          refine AJR_gskip (.bool false) 13 rfl (Nat.le_of_ble_eq_true rfl) hb157 rfl rfl rfl rfl rfl rfl (by decide) ?_
          refine AJR_gskipU (.bool false) 14 rfl (Nat.le_of_ble_eq_true rfl) rfl rfl rfl rfl rfl rfl (by decide) ?_
          refine AJR_gskipU (.bool false) 15 rfl (Nat.le_of_ble_eq_true rfl) rfl rfl rfl rfl rfl rfl (by decide) ?_
          refine AJR_gskipU (.bool false) 16 rfl (Nat.le_of_ble_eq_true rfl) rfl rfl rfl rfl rfl rfl (by decide) ?_
          refine AJR_gskip (.bool false) 17 rfl (Nat.le_of_ble_eq_true rfl) hb157 rfl rfl rfl rfl rfl rfl (by decide) ?_
          refine AJR_gskip (.bool false) 18 rfl (Nat.le_of_ble_eq_true rfl) hb157 rfl rfl rfl rfl rfl rfl (by decide) ?_
          refine AJR_gskipU (.bool false) 19 rfl (Nat.le_of_ble_eq_true rfl) rfl rfl rfl rfl rfl rfl (by decide) ?_
          refine AJR_gskipU (.bool false) 20 rfl (Nat.le_of_ble_eq_true rfl) rfl rfl rfl rfl rfl rfl (by decide) ?_
          refine AJR_gskipU (.bool false) 21 rfl (Nat.le_of_ble_eq_true rfl) rfl rfl rfl rfl rfl rfl (by decide) ?_
          refine AJR_gskip (.bool false) 22 rfl (Nat.le_of_ble_eq_true rfl) hb157 rfl rfl rfl rfl rfl rfl (by decide) ?_
          refine AJR_gskip (.bool false) 23 rfl (Nat.le_of_ble_eq_true rfl) hb157 rfl rfl rfl rfl rfl rfl (by decide) ?_
          refine AJR_gskipU (.bool false) 24 rfl (Nat.le_of_ble_eq_true rfl) rfl rfl rfl rfl rfl rfl (by decide) ?_
          refine AJR_gskipU (.bool false) 25 rfl (Nat.le_of_ble_eq_true rfl) rfl rfl rfl rfl rfl rfl (by decide) ?_
          refine AJR_gskipU (.bool false) 26 rfl (Nat.le_of_ble_eq_true rfl) rfl rfl rfl rfl rfl rfl (by decide) ?_
          refine AJR_gskip (.bool false) 27 rfl (Nat.le_of_ble_eq_true rfl) hb157 rfl rfl rfl rfl rfl rfl (by decide) ?_
          refine AJR_gskip (.bool false) 28 rfl (Nat.le_of_ble_eq_true rfl) hb157 rfl rfl rfl rfl rfl rfl (by decide) ?_
          refine AJR_gskipU (.bool false) 29 rfl (Nat.le_of_ble_eq_true rfl) rfl rfl rfl rfl rfl rfl (by decide) ?_
          refine AJR_gskipU (.bool false) 30 rfl (Nat.le_of_ble_eq_true rfl) rfl rfl rfl rfl rfl rfl (by decide) ?_
          refine AJR_gskipU (.bool false) 31 rfl (Nat.le_of_ble_eq_true rfl) rfl rfl rfl rfl rfl rfl (by decide) ?_
          refine AJR_gskip (.bool false) 32 rfl (Nat.le_of_ble_eq_true rfl) hb157 rfl rfl rfl rfl rfl rfl (by decide) ?_
          refine AJR_gskip (.bool false) 33 rfl (Nat.le_of_ble_eq_true rfl) hb157 rfl rfl rfl rfl rfl rfl (by decide) ?_
          refine AJR_gskip (.bool false) 34 rfl (Nat.le_of_ble_eq_true rfl) hb157 rfl rfl rfl rfl rfl rfl (by decide) ?_
          refine AJR_ev env 35 rfl (Nat.le_of_ble_eq_true rfl) rfl ⟨trivial, ⟨fun e => (tff (e.symm.trans hb157)).elim, trivial⟩⟩ ?_
          refine AJR_ev env 36 rfl (Nat.le_of_ble_eq_true rfl) rfl trivial ?_
          refine AJR_end rfl rfl rfl ?_
          obtain rfl := sinj h1
          refine tsn ?_
          exact SP_ren [] _ rfl ⟨rfl, trivial⟩ trivial rfl
      · rintro x156 hz
        obtain rfl := hz.symm
        refine TE_go ?_
        refine TC_ret ?_
        refine tbr ?_
        refine tsr ?_
        obtain rfl := sinj h0
        exact TE_ret env rfl trivial trivial
    · replace h0 := bif_f h0 hb
      refine TC_skip ?_
      refine tbn ?_
      refine TE_go ?_
      refine TC_seq ?_
      refine TC_reg ?_
      refine TL_ev env 1 rfl ⟨trivial, trivial⟩ ?_
      refine TL_end ?_
      refine TE_go ?_
      refine TC_ret ?_
      obtain rfl := sinj h0
      exact TE_ret env rfl trivial trivial
theorem format_fields.ok0 {K : Nat} {p0 : Int} {p1 : Int} {p2 : Int} {p3 : Int} {p4 : Int} {p5 : Int} {p6 : Int} {p7 : Int} {p8 : Int} {p9 : Int} {q0 : Bool} (h0 : format_fields K p0 p1 p2 p3 p4 p5 p6 p7 p8 p9 = some q0) : Fn Try.prog 87 [.agg [.int .i64 p0, .int .i64 p1, .int .i64 p2, .int .i64 p3, .int .i64 p4, .int .i64 p5, .int .i64 p6, .int .i64 p7, .int .i64 p8, .int .i64 p9]] [] (.bool q0) [] := format_fields.ok h0
theorem format_fields.fnb : fnb Try.prog 87 = true := fnb_of Try.func87 rfl
def format_bits.res (_p0 : Int) (_p1 : Int) (_p2 : Int) (_p3 : Int) (_p4 : Int) (_p5 : Int) (_p6 : Int) (_p7 : Int) (_p8 : Int) (_p9 : Int) : Int → MV
  | q0 => .int .i64 q0
def format_bits.out (_p0 : Int) (_p1 : Int) (_p2 : Int) (_p3 : Int) (_p4 : Int) (_p5 : Int) (_p6 : Int) (_p7 : Int) (_p8 : Int) (_p9 : Int) : Int → List (Nat × Option MObj)
  | _ => []
theorem format_bits.ok {K : Nat} {p0 : Int} {p1 : Int} {p2 : Int} {p3 : Int} {p4 : Int} {p5 : Int} {p6 : Int} {p7 : Int} {p8 : Int} {p9 : Int} {r : Int} (h0 : format_bits K p0 p1 p2 p3 p4 p5 p6 p7 p8 p9 = some r) : Fn Try.prog 91 [.agg [.int .i64 p0, .int .i64 p1, .int .i64 p2, .int .i64 p3, .int .i64 p4, .int .i64 p5, .int .i64 p6, .int .i64 p7, .int .i64 p8, .int .i64 p9]] [] (format_bits.res p0 p1 p2 p3 p4 p5 p6 p7 p8 p9 r) (format_bits.out p0 p1 p2 p3 p4 p5 p6 p7 p8 p9 r) := by
  refine Fn_of Try.func91 rfl (Nat.le_of_ble_eq_true rfl) fun Γ => ?_
  refine TC_seq ?_
  refine TC_reg ?_
  refine TL_ev env 2 rfl ⟨trivial, ⟨trivial, trivial⟩⟩ ?_
  refine TL_end ?_
  refine TE_go ?_
  refine TC_seq ?_
  refine TC_seq ?_
  refine TC_reg ?_
  refine TL_ev env 3 rfl ⟨trivial, ⟨⟨trivial, trivial⟩, ⟨⟨trivial, ⟨trivial, trivial⟩⟩, trivial⟩⟩⟩ ?_
  refine TL_end ?_
  refine TE_go ?_
  refine TC_cond rfl (fun hb => ?_) (fun hb => ?_)
  · replace h0 := bif_t h0 hb
    refine TC_seq ?_
    refine TC_reg ?_
    refine TL_ev env 4 rfl ⟨trivial, ⟨⟨trivial, trivial⟩, ⟨⟨trivial, ⟨trivial, trivial⟩⟩, ⟨trivial, trivial⟩⟩⟩⟩ ?_
    refine TL_end ?_
    refine TE_go ?_
    refine TC_ret ?_
    refine tsr ?_
    obtain rfl := sinj h0
    exact TE_ret env rfl trivial trivial
  · replace h0 := bif_f h0 hb
    refine TC_skip ?_
    refine TE_go ?_
    refine TC_seq ?_
    refine TC_reg ?_
    refine TL_ev env 20 rfl ⟨trivial, ⟨⟨trivial, trivial⟩, ⟨trivial, ⟨⟨trivial, trivial⟩, ⟨⟨trivial, ⟨trivial, trivial⟩⟩, ⟨⟨trivial, ⟨trivial, trivial⟩⟩, ⟨trivial, ⟨⟨trivial, trivial⟩, ⟨⟨trivial, ⟨trivial, trivial⟩⟩, ⟨trivial, ⟨⟨trivial, trivial⟩, ⟨⟨trivial, ⟨trivial, trivial⟩⟩, ⟨⟨trivial, ⟨trivial, trivial⟩⟩, ⟨trivial, ⟨⟨trivial, trivial⟩, ⟨trivial, ⟨⟨trivial, trivial⟩, ⟨⟨trivial, ⟨trivial, trivial⟩⟩, ⟨⟨trivial, ⟨trivial, trivial⟩⟩, ⟨trivial, trivial⟩⟩⟩⟩⟩⟩⟩⟩⟩⟩⟩⟩⟩⟩⟩⟩⟩⟩⟩⟩ ?_
    refine TL_end ?_
    refine TE_go ?_
    refine TC_ret ?_
    obtain rfl := sinj h0
    exact TE_ret env rfl trivial trivial
theorem format_bits.ok0 {K : Nat} {p0 : Int} {p1 : Int} {p2 : Int} {p3 : Int} {p4 : Int} {p5 : Int} {p6 : Int} {p7 : Int} {p8 : Int} {p9 : Int} {q0 : Int} (h0 : format_bits K p0 p1 p2 p3 p4 p5 p6 p7 p8 p9 = some q0) : Fn Try.prog 91 [.agg [.int .i64 p0, .int .i64 p1, .int .i64 p2, .int .i64 p3, .int .i64 p4, .int .i64 p5, .int .i64 p6, .int .i64 p7, .int .i64 p8, .int .i64 p9]] [] (.int .i64 q0) [] := format_bits.ok h0
theorem format_bits.fnb : fnb Try.prog 91 = true := fnb_of Try.func91 rfl
def format_payload.res (_p0 : Int) (_p1 : Int) (_p2 : Int) (_p3 : Int) (_p4 : Int) (_p5 : Int) (_p6 : Int) (_p7 : Int) (_p8 : Int) (_p9 : Int) : Int → MV
  | q0 => .int .i64 q0
def format_payload.out (_p0 : Int) (_p1 : Int) (_p2 : Int) (_p3 : Int) (_p4 : Int) (_p5 : Int) (_p6 : Int) (_p7 : Int) (_p8 : Int) (_p9 : Int) : Int → List (Nat × Option MObj)
  | _ => []
theorem format_payload.ok {K : Nat} {p0 : Int} {p1 : Int} {p2 : Int} {p3 : Int} {p4 : Int} {p5 : Int} {p6 : Int} {p7 : Int} {p8 : Int} {p9 : Int} {r : Int} (h0 : format_payload K p0 p1 p2 p3 p4 p5 p6 p7 p8 p9 = some r) : Fn Try.prog 88 [.agg [.int .i64 p0, .int .i64 p1, .int .i64 p2, .int .i64 p3, .int .i64 p4, .int .i64 p5, .int .i64 p6, .int .i64 p7, .int .i64 p8, .int .i64 p9]] [] (format_payload.res p0 p1 p2 p3 p4 p5 p6 p7 p8 p9 r) (format_payload.out p0 p1 p2 p3 p4 p5 p6 p7 p8 p9 r) := by
  refine Fn_of Try.func88 rfl (Nat.le_of_ble_eq_true rfl) fun Γ => ?_
  refine TC_seq ?_
  refine TC_reg ?_
  refine TL_ev env 2 rfl ⟨trivial, ⟨trivial, trivial⟩⟩ ?_
  refine TL_end ?_
  refine TE_go ?_
  refine TC_seq ?_
  refine TC_seq ?_
  refine TC_reg ?_
  refine TL_ev env 3 rfl ⟨trivial, ⟨⟨trivial, trivial⟩, ⟨⟨trivial, ⟨trivial, trivial⟩⟩, trivial⟩⟩⟩ ?_
  refine TL_end ?_
  refine TE_go ?_
  refine TC_cond rfl (fun hb => ?_) (fun hb => ?_)
  · replace h0 := bif_t h0 hb
    refine TC_seq ?_
    refine TC_reg ?_
    refine TL_ev env 6 rfl ⟨trivial, ⟨⟨trivial, trivial⟩, ⟨trivial, ⟨⟨trivial, trivial⟩, ⟨⟨trivial, ⟨trivial, trivial⟩⟩, ⟨trivial, trivial⟩⟩⟩⟩⟩⟩ ?_
    refine TL_end ?_
    refine TE_go ?_
    refine TC_ret ?_
    refine tsr ?_
    obtain rfl := sinj h0
    exact TE_ret env rfl trivial trivial
  · replace h0 := bif_f h0 hb
    refine TC_skip ?_
    refine TE_go ?_
    refine TC_seq ?_
    refine TC_reg ?_
    refine TL_ev env 1 rfl ⟨⟨trivial, trivial⟩, trivial⟩ ?_
    obtain ⟨r3, hr, h0⟩ := bnd h0
    refine TL_callB [] (format_bits.ok0 hr) format_bits.fnb rfl ⟨trivial, ⟨trivial, trivial⟩⟩ rfl trivial rfl ?_
    refine TL_ev env 3 rfl ⟨⟨trivial, ⟨trivial, trivial⟩⟩, ⟨⟨trivial, ⟨trivial, (by decide)⟩⟩, ⟨trivial, trivial⟩⟩⟩ ?_
    refine TL_end ?_
    refine TE_go ?_
    refine TC_ret ?_
    obtain rfl := sinj h0
    exact TE_ret env rfl trivial trivial
theorem format_payload.ok0 {K : Nat} {p0 : Int} {p1 : Int} {p2 : Int} {p3 : Int} {p4 : Int} {p5 : Int} {p6 : Int} {p7 : Int} {p8 : Int} {p9 : Int} {q0 : Int} (h0 : format_payload K p0 p1 p2 p3 p4 p5 p6 p7 p8 p9 = some q0) : Fn Try.prog 88 [.agg [.int .i64 p0, .int .i64 p1, .int .i64 p2, .int .i64 p3, .int .i64 p4, .int .i64 p5, .int .i64 p6, .int .i64 p7, .int .i64 p8, .int .i64 p9]] [] (.int .i64 q0) [] := format_payload.ok h0
theorem format_payload.fnb : fnb Try.prog 88 = true := fnb_of Try.func88 rfl
def format_Check.res (_p0 : Int) (_p1 : Int) (_p2 : Int) (_p3 : Int) (_p4 : Int) (_p5 : Int) (_p6 : Int) (_p7 : Int) (_p8 : Int) (_p9 : Int) : Int → MV
  | q0 => .int .i64 q0
def format_Check.out (_p0 : Int) (_p1 : Int) (_p2 : Int) (_p3 : Int) (_p4 : Int) (_p5 : Int) (_p6 : Int) (_p7 : Int) (_p8 : Int) (_p9 : Int) : Int → List (Nat × Option MObj)
  | _ => []
theorem format_Check.ok {K : Nat} {p0 : Int} {p1 : Int} {p2 : Int} {p3 : Int} {p4 : Int} {p5 : Int} {p6 : Int} {p7 : Int} {p8 : Int} {p9 : Int} {r : Int} (h0 : format_Check K p0 p1 p2 p3 p4 p5 p6 p7 p8 p9 = some r) : Fn Try.prog 33 [.agg [.int .i64 p0, .int .i64 p1, .int .i64 p2, .int .i64 p3, .int .i64 p4, .int .i64 p5, .int .i64 p6, .int .i64 p7, .int .i64 p8, .int .i64 p9]] [] (format_Check.res p0 p1 p2 p3 p4 p5 p6 p7 p8 p9 r) (format_Check.out p0 p1 p2 p3 p4 p5 p6 p7 p8 p9 r) := by
  refine Fn_of Try.func33 rfl (Nat.le_of_ble_eq_true rfl) fun Γ => ?_
  refine TC_seq ?_
  refine TC_reg ?_
  refine TL_ev env 2 rfl ⟨trivial, ⟨trivial, trivial⟩⟩ ?_
  refine TL_end ?_
  refine TE_go ?_
  refine TC_seq ?_
  refine TC_seq ?_
  obtain ⟨z1, h1, h0⟩ := bnd h0
  refine TC_cut (α := Bool) (fun s => z1 = s) (fun s => [(10, .bool s)]) (fun s => []) ?_ ?_
  · refine TC_reg ?_
    refine TL_ev env 1 rfl ⟨⟨trivial, trivial⟩, trivial⟩ ?_
    obtain ⟨r7, hr, h1⟩ := bnd h1
    refine TL_callB [] (format_fields.ok0 hr) format_fields.fnb rfl ⟨trivial, ⟨trivial, trivial⟩⟩ rfl trivial rfl ?_
    refine TL_ev env 2 rfl ⟨trivial, ⟨trivial, trivial⟩⟩ ?_
    refine TL_split 6 rfl (fun hb => ?_) (fun hb => ?_)
    · replace h1 := bif_t h1 hb
      refine TL_gf (.bool false) rfl rfl rfl rfl rfl (by decide) ?_
      refine TL_gf (.bool false) rfl rfl rfl rfl rfl (by decide) ?_
      refine TL_gf (.bool false) rfl rfl rfl rfl rfl (by decide) ?_
      refine TL_ev env 1 rfl ⟨⟨trivial, ⟨trivial, fun e => e⟩⟩, trivial⟩ ?_
      refine TL_end ?_
      obtain rfl := sinj h1
      refine tsn ?_
      exact SP_ren [] _ rfl ⟨rfl, trivial⟩ trivial rfl
    · replace h1 := bif_f h1 hb
      refine TL_gt rfl rfl rfl rfl ?_
      refine TL_ev env 1 rfl ⟨⟨trivial, trivial⟩, trivial⟩ ?_
      refine TL_gt rfl rfl rfl rfl ?_
      obtain ⟨r8, hr, h1⟩ := bnd h1
      refine TL_callB [] (format_payload.ok0 hr) format_payload.fnb rfl ⟨trivial, ⟨trivial, trivial⟩⟩ rfl trivial rfl ?_
      refine TL_gt rfl rfl rfl rfl ?_
      refine TL_ev env 2 rfl ⟨⟨trivial, ⟨trivial, trivial⟩⟩, ⟨⟨trivial, ⟨trivial, trivial⟩⟩, trivial⟩⟩ ?_
      refine TL_end ?_
      obtain rfl := sinj h1
      refine tsn ?_
      exact SP_ren [] _ rfl ⟨rfl, trivial⟩ trivial rfl
  · rintro x6 hz
    obtain rfl := hz.symm
    refine TE_go ?_
    refine TC_cond rfl (fun hb => ?_) (fun hb => ?_)
    · replace h0 := bif_t h0 hb
      refine TC_seq ?_
      refine TC_reg ?_
      refine TL_ev env 1 rfl ⟨trivial, trivial⟩ ?_
      refine TL_end ?_
      refine TE_go ?_
      refine TC_ret ?_
      refine tsr ?_
      obtain rfl := sinj h0
      exact TE_ret env rfl trivial trivial
    · replace h0 := bif_f h0 hb
      refine TC_skip ?_
      refine TE_go ?_
      refine TC_seq ?_
      refine TC_reg ?_
      refine TL_ev env 1 rfl ⟨trivial, trivial⟩ ?_
      refine TL_end ?_
      refine TE_go ?_
      refine TC_ret ?_
      obtain rfl := sinj h0
      exact TE_ret env rfl trivial trivial
theorem format_Check.ok0 {K : Nat} {p0 : Int} {p1 : Int} {p2 : Int} {p3 : Int} {p4 : Int} {p5 : Int} {p6 : Int} {p7 : Int} {p8 : Int} {p9 : Int} {q0 : Int} (h0 : format_Check K p0 p1 p2 p3 p4 p5 p6 p7 p8 p9 = some q0) : Fn Try.prog 33 [.agg [.int .i64 p0, .int .i64 p1, .int .i64 p2, .int .i64 p3, .int .i64 p4, .int .i64 p5, .int .i64 p6, .int .i64 p7, .int .i64 p8, .int .i64 p9]] [] (.int .i64 q0) [] := format_Check.ok h0
theorem format_Check.fnb : fnb Try.prog 33 = true := fnb_of Try.func33 rfl
def caps_in.res (_p0 : Int) (_p1 : Int) : Bool → MV
  | q0 => .bool q0
def caps_in.out (_p0 : Int) (_p1 : Int) : Bool → List (Nat × Option MObj)
  | _ => []
theorem caps_in.ok {K : Nat} {p0 : Int} {p1 : Int} {r : Bool} (h0 : caps_in K p0 p1 = some r) : Fn Try.prog 94 [.int .i64 p0, .int .i64 p1] [] (caps_in.res p0 p1 r) (caps_in.out p0 p1 r) := by
  refine Fn_of Try.func94 rfl (Nat.le_of_ble_eq_true rfl) fun Γ => ?_
  refine TC_seq ?_
  refine TC_reg ?_
  refine TL_ev env 1 rfl ⟨trivial, trivial⟩ ?_
  refine TL_end ?_
  refine TE_go ?_
  refine TC_seq ?_
  refine TC_reg ?_
  obtain ⟨g, h0⟩ := gd_t h0
  refine TL_ev env 6 rfl ⟨trivial, ⟨trivial, ⟨⟨trivial, ⟨trivial, g⟩⟩, ⟨⟨trivial, ⟨trivial, trivial⟩⟩, ⟨⟨trivial, ⟨trivial, trivial⟩⟩, ⟨trivial, trivial⟩⟩⟩⟩⟩⟩ ?_
  refine TL_end ?_
  refine TE_go ?_
  refine TC_ret ?_
  obtain rfl := sinj h0
  exact TE_ret env rfl trivial trivial
theorem caps_in.ok0 {K : Nat} {p0 : Int} {p1 : Int} {q0 : Bool} (h0 : caps_in K p0 p1 = some q0) : Fn Try.prog 94 [.int .i64 p0, .int .i64 p1] [] (.bool q0) [] := caps_in.ok h0
theorem caps_in.fnb : fnb Try.prog 94 = true := fnb_of Try.func94 rfl
def caps_Allows.res (_p0 : Int) (_p1 : Int) (_p2 : Int) (_p3 : Int) (_p4 : Int) (_p5 : Int) (_p6 : Int) (_p7 : Int) (_p8 : Int) (_p9 : Int) (_p10 : Int) (_p11 : Int) (_p12 : Int) (_p13 : Int) (_p14 : Int) (_p15 : Int) (_p16 : Int) (_p17 : Int) (_p18 : Int) (_p19 : Int) (_p20 : Int) (_p21 : Int) (_p22 : Int) (_p23 : Int) (_p24 : Int) (_p25 : Int) (_p26 : Int) : Bool → MV
  | q0 => .bool q0
def caps_Allows.out (_p0 : Int) (_p1 : Int) (_p2 : Int) (_p3 : Int) (_p4 : Int) (_p5 : Int) (_p6 : Int) (_p7 : Int) (_p8 : Int) (_p9 : Int) (_p10 : Int) (_p11 : Int) (_p12 : Int) (_p13 : Int) (_p14 : Int) (_p15 : Int) (_p16 : Int) (_p17 : Int) (_p18 : Int) (_p19 : Int) (_p20 : Int) (_p21 : Int) (_p22 : Int) (_p23 : Int) (_p24 : Int) (_p25 : Int) (_p26 : Int) : Bool → List (Nat × Option MObj)
  | _ => []
theorem caps_Allows.ok {K : Nat} {p0 : Int} {p1 : Int} {p2 : Int} {p3 : Int} {p4 : Int} {p5 : Int} {p6 : Int} {p7 : Int} {p8 : Int} {p9 : Int} {p10 : Int} {p11 : Int} {p12 : Int} {p13 : Int} {p14 : Int} {p15 : Int} {p16 : Int} {p17 : Int} {p18 : Int} {p19 : Int} {p20 : Int} {p21 : Int} {p22 : Int} {p23 : Int} {p24 : Int} {p25 : Int} {p26 : Int} {r : Bool} (h0 : caps_Allows K p0 p1 p2 p3 p4 p5 p6 p7 p8 p9 p10 p11 p12 p13 p14 p15 p16 p17 p18 p19 p20 p21 p22 p23 p24 p25 p26 = some r) : Fn Try.prog 45 [.agg [.int .i64 p0, .int .i64 p1, .int .i64 p2, .int .i64 p3, .int .i64 p4, .int .i64 p5, .int .i64 p6, .int .i64 p7, .int .i64 p8, .int .i64 p9, .int .i64 p10, .int .i64 p11, .int .i64 p12, .int .i64 p13, .int .i64 p14], .agg [.int .i64 p15, .int .i64 p16, .int .i64 p17, .int .i64 p18, .int .i64 p19, .int .i64 p20, .int .i64 p21, .int .i64 p22, .int .i64 p23, .int .i64 p24], .agg [.int .i64 p25, .int .i64 p26]] [] (caps_Allows.res p0 p1 p2 p3 p4 p5 p6 p7 p8 p9 p10 p11 p12 p13 p14 p15 p16 p17 p18 p19 p20 p21 p22 p23 p24 p25 p26 r) (caps_Allows.out p0 p1 p2 p3 p4 p5 p6 p7 p8 p9 p10 p11 p12 p13 p14 p15 p16 p17 p18 p19 p20 p21 p22 p23 p24 p25 p26 r) := by
  refine Fn_of Try.func45 rfl (Nat.le_of_ble_eq_true rfl) fun Γ => ?_
  refine TC_seq ?_
  refine TC_reg ?_
  refine TL_ev env 4 rfl ⟨trivial, ⟨trivial, ⟨trivial, ⟨trivial, trivial⟩⟩⟩⟩ ?_
  refine TL_end ?_
  refine TE_go ?_
  refine TC_seq ?_
  refine TC_seq ?_
  obtain ⟨z1, h1, h0⟩ := bnd h0
  refine TC_cut (α := Bool) (fun s => z1 = s) (fun s => [(3, .p 10500 0), (4, .p 10501 0), (32, .bool s)]) (fun s => [(10500, some (.cells [.int .i64 p0, .int .i64 p1, .int .i64 p2, .int .i64 p3, .int .i64 p4, .int .i64 p5, .int .i64 p6, .int .i64 p7, .int .i64 p8, .int .i64 p9, .int .i64 p10, .int .i64 p11, .int .i64 p12, .int .i64 p13, .int .i64 p14])), (10501, some (.cells [.int .i64 p15, .int .i64 p16, .int .i64 p17, .int .i64 p18, .int .i64 p19, .int .i64 p20, .int .i64 p21, .int .i64 p22, .int .i64 p23, .int .i64 p24]))]) ?_ ?_
  · refine TC_reg ?_
    refine TL_ev env 1 rfl ⟨⟨trivial, trivial⟩, trivial⟩ ?_
    obtain ⟨r128, hr, h1⟩ := bnd h1
    refine TL_callB [] (caps_Check.ok0 hr) caps_Check.fnb rfl ⟨trivial, ⟨trivial, trivial⟩⟩ rfl trivial rfl ?_
    refine TL_ev env 2 rfl ⟨⟨trivial, ⟨trivial, trivial⟩⟩, ⟨trivial, trivial⟩⟩ ?_
    refine TL_split 12 rfl (fun hb => ?_) (fun hb => ?_)
    · replace h1 := bif_t h1 hb
      refine TL_gf (.bool false) rfl rfl rfl rfl rfl (by decide) ?_
      refine TL_gf (.bool false) rfl rfl rfl rfl rfl (by decide) ?_
      refine TL_gf (.bool false) rfl rfl rfl rfl rfl (by decide) ?_
      refine TL_ev env 2 rfl ⟨⟨trivial, ⟨trivial, fun e => e⟩⟩, ⟨trivial, trivial⟩⟩ ?_
      refine TL_gf (.bool false) rfl rfl rfl rfl rfl (by decide) ?_
      refine TL_gf (.bool false) rfl rfl rfl rfl rfl (by decide) ?_
      refine TL_gf (.bool false) rfl rfl rfl rfl rfl (by decide) ?_
      refine TL_gf (.bool false) rfl rfl rfl rfl rfl (by decide) ?_
      refine TL_gf (.bool false) rfl rfl rfl rfl rfl (by decide) ?_
      refine TL_gf (.bool false) rfl rfl rfl rfl rfl (by decide) ?_
      refine TL_ev env 2 rfl ⟨⟨trivial, ⟨trivial, fun e => e⟩⟩, ⟨trivial, trivial⟩⟩ ?_
      refine TL_gf (.bool false) rfl rfl rfl rfl rfl (by decide) ?_
      refine TL_gf (.bool false) rfl rfl rfl rfl rfl (by decide) ?_
      refine TL_gf (.bool false) rfl rfl rfl rfl rfl (by decide) ?_
      refine TL_gf (.bool false) rfl rfl rfl rfl rfl (by decide) ?_
      refine TL_gf (.bool false) rfl rfl rfl rfl rfl (by decide) ?_
      refine TL_gf (.bool false) rfl rfl rfl rfl rfl (by decide) ?_
      refine TL_ev env 1 rfl ⟨⟨trivial, ⟨trivial, fun e => e⟩⟩, trivial⟩ ?_
      refine TL_end ?_
      obtain rfl := sinj h1
      refine tsn ?_
      exact SP_ren [(10500, 1003), (10501, 1004)] _ rfl ⟨rfl, rfl, rfl, trivial⟩ ⟨rfl, rfl, trivial⟩ rfl
    · replace h1 := bif_f h1 hb
      refine TL_gt rfl rfl rfl rfl ?_
      refine TL_ev env 1 rfl ⟨⟨trivial, trivial⟩, trivial⟩ ?_
      refine TL_gt rfl rfl rfl rfl ?_
      obtain ⟨r129, hr, h1⟩ := bnd h1
      refine TL_callB [] (format_Check.ok0 hr) format_Check.fnb rfl ⟨trivial, ⟨trivial, trivial⟩⟩ rfl trivial rfl ?_
      refine TL_gt rfl rfl rfl rfl ?_
      refine TL_ev env 3 rfl ⟨⟨trivial, ⟨trivial, trivial⟩⟩, ⟨⟨trivial, ⟨trivial, trivial⟩⟩, ⟨trivial, trivial⟩⟩⟩ ?_
      refine TL_split 17 rfl (fun hb => ?_) (fun hb => ?_)
      · replace h1 := bif_t h1 hb
        refine TL_gf (.bool false) rfl rfl rfl rfl rfl (by decide) ?_
        refine TL_gf (.bool false) rfl rfl rfl rfl rfl (by decide) ?_
        refine TL_gf (.bool false) rfl rfl rfl rfl rfl (by decide) ?_
        refine TL_gf (.bool false) rfl rfl rfl rfl rfl (by decide) ?_
        refine TL_gf (.bool false) rfl rfl rfl rfl rfl (by decide) ?_
        refine TL_gf (.bool false) rfl rfl rfl rfl rfl (by decide) ?_
        refine TL_ev env 2 rfl ⟨⟨trivial, ⟨trivial, fun e => e⟩⟩, ⟨trivial, trivial⟩⟩ ?_
        refine TL_gf (.bool false) rfl rfl rfl rfl rfl (by decide) ?_
        refine TL_gf (.bool false) rfl rfl rfl rfl rfl (by decide) ?_
        refine TL_gf (.bool false) rfl rfl rfl rfl rfl (by decide) ?_
        refine TL_gf (.bool false) rfl rfl rfl rfl rfl (by decide) ?_
        refine TL_gf (.bool false) rfl rfl rfl rfl rfl (by decide) ?_
        refine TL_gf (.bool false) rfl rfl rfl rfl rfl (by decide) ?_
        refine TL_ev env 1 rfl ⟨⟨trivial, ⟨trivial, fun e => e⟩⟩, trivial⟩ ?_
        refine TL_end ?_
        obtain rfl := sinj h1
        refine tsn ?_
        exact SP_ren [(10500, 1003), (10501, 1004)] _ rfl ⟨rfl, rfl, rfl, trivial⟩ ⟨rfl, rfl, trivial⟩ rfl
      · replace h1 := bif_f h1 hb
        refine TL_gt rfl rfl rfl rfl ?_
        refine TL_ev env 1 rfl ⟨trivial, trivial⟩ ?_
        refine TL_gt rfl rfl rfl rfl ?_
        refine TL_ev env 1 rfl ⟨⟨trivial, trivial⟩, trivial⟩ ?_
        refine TL_gt rfl rfl rfl rfl ?_
        refine TL_ev env 1 rfl ⟨trivial, trivial⟩ ?_
        refine TL_gt rfl rfl rfl rfl ?_
        refine TL_ev env 1 rfl ⟨⟨trivial, trivial⟩, trivial⟩ ?_
        refine TL_gt rfl rfl rfl rfl ?_
        obtain ⟨r130, hr, h1⟩ := bnd h1
        refine TL_callB [] (caps_span.ok0 hr) caps_span.fnb rfl ⟨trivial, ⟨trivial, ⟨trivial, ⟨trivial, ⟨trivial, trivial⟩⟩⟩⟩⟩ rfl trivial rfl ?_
        refine TL_gt rfl rfl rfl rfl ?_
        refine TL_ev env 3 rfl ⟨trivial, ⟨⟨trivial, ⟨trivial, trivial⟩⟩, ⟨trivial, trivial⟩⟩⟩ ?_
        refine TL_split 25 rfl (fun hb => ?_) (fun hb => ?_)
        · replace h1 := bif_t h1 hb
          refine TL_gf (.bool false) rfl rfl rfl rfl rfl (by decide) ?_
          refine TL_gf (.bool false) rfl rfl rfl rfl rfl (by decide) ?_
          refine TL_gf (.bool false) rfl rfl rfl rfl rfl (by decide) ?_
          refine TL_gf (.bool false) rfl rfl rfl rfl rfl (by decide) ?_
          refine TL_gf (.bool false) rfl rfl rfl rfl rfl (by decide) ?_
          refine TL_gf (.bool false) rfl rfl rfl rfl rfl (by decide) ?_
          refine TL_ev env 1 rfl ⟨⟨trivial, ⟨trivial, fun e => e⟩⟩, trivial⟩ ?_
          refine TL_end ?_
          obtain rfl := sinj h1
          refine tsn ?_
          exact SP_ren [(10500, 1003), (10501, 1004)] _ rfl ⟨rfl, rfl, rfl, trivial⟩ ⟨rfl, rfl, trivial⟩ rfl
        · replace h1 := bif_f h1 hb
          refine TL_gt rfl rfl rfl rfl ?_
          refine TL_ev env 1 rfl ⟨trivial, trivial⟩ ?_
          refine TL_gt rfl rfl rfl rfl ?_
          refine TL_ev env 1 rfl ⟨⟨trivial, trivial⟩, trivial⟩ ?_
          refine TL_gt rfl rfl rfl rfl ?_
          refine TL_ev env 1 rfl ⟨trivial, trivial⟩ ?_
          refine TL_gt rfl rfl rfl rfl ?_
          refine TL_ev env 1 rfl ⟨⟨trivial, trivial⟩, trivial⟩ ?_
          refine TL_gt rfl rfl rfl rfl ?_
          obtain ⟨r131, hr, h1⟩ := bnd h1
          refine TL_callB [] (caps_span.ok0 hr) caps_span.fnb rfl ⟨trivial, ⟨trivial, ⟨trivial, ⟨trivial, ⟨trivial, trivial⟩⟩⟩⟩⟩ rfl trivial rfl ?_
          refine TL_gt rfl rfl rfl rfl ?_
          refine TL_ev env 2 rfl ⟨trivial, ⟨⟨trivial, ⟨trivial, trivial⟩⟩, trivial⟩⟩ ?_
          refine TL_end ?_
          obtain rfl := sinj h1
          refine tsn ?_
          exact SP_ren [(10500, 1003), (10501, 1004)] _ rfl ⟨rfl, rfl, rfl, trivial⟩ ⟨rfl, rfl, trivial⟩ rfl
  · rintro x46 hz
    obtain rfl := hz.symm
    refine TE_go ?_
    refine TC_cond rfl (fun hb => ?_) (fun hb => ?_)
    · replace h0 := bif_t h0 hb
      refine TC_seq ?_
      refine TC_reg ?_
      refine TL_ev env 1 rfl ⟨trivial, trivial⟩ ?_
      refine TL_end ?_
      refine TE_go ?_
      refine TC_ret ?_
      refine tsr ?_
      obtain rfl := sinj h0
      exact TE_ret env rfl trivial trivial
    · replace h0 := bif_f h0 hb
      refine TC_skip ?_
      refine TE_go ?_
      refine TC_seq ?_
      refine TC_seq ?_
      refine TC_reg ?_
      refine TL_ev env 3 rfl ⟨trivial, ⟨⟨trivial, trivial⟩, ⟨⟨trivial, ⟨trivial, trivial⟩⟩, trivial⟩⟩⟩ ?_
      refine TL_end ?_
      refine TE_go ?_
      refine TC_cond rfl (fun hb => ?_) (fun hb => ?_)
      · replace h0 := bif_t h0 hb
        refine TC_seq ?_
        refine TC_reg ?_
        refine TL_ev env 4 rfl ⟨trivial, ⟨⟨trivial, trivial⟩, ⟨trivial, ⟨⟨trivial, trivial⟩, trivial⟩⟩⟩⟩ ?_
        refine TL_end ?_
        refine TE_go ?_
        refine TC_seq ?_
        obtain ⟨z1, h1, h0⟩ := bnd h0
        refine TC_cut (α := Bool) (fun s => z1 = s) (fun s => [(6, .bool s)]) (fun s => []) ?_ ?_
        · refine TC_reg ?_
          refine TL_ev env 4 rfl ⟨trivial, ⟨⟨trivial, trivial⟩, ⟨trivial, ⟨⟨trivial, trivial⟩, trivial⟩⟩⟩⟩ ?_
          obtain ⟨r63, hr, h1⟩ := bnd h1
          refine TL_callB [] (caps_in.ok0 hr) caps_in.fnb rfl ⟨trivial, ⟨trivial, ⟨trivial, trivial⟩⟩⟩ rfl trivial rfl ?_
          refine TL_ev env 1 rfl ⟨trivial, trivial⟩ ?_
          refine TL_split 43 rfl (fun hb => ?_) (fun hb => ?_)
          · replace h1 := bif_t h1 hb
            refine TL_gt rfl rfl rfl rfl ?_
            refine TL_ev env 1 rfl ⟨trivial, trivial⟩ ?_
            refine TL_gt rfl rfl rfl rfl ?_
            refine TL_ev env 1 rfl ⟨⟨trivial, trivial⟩, trivial⟩ ?_
            refine TL_gt rfl rfl rfl rfl ?_
            refine TL_ev env 1 rfl ⟨trivial, trivial⟩ ?_
            refine TL_gt rfl rfl rfl rfl ?_
            refine TL_ev env 1 rfl ⟨⟨trivial, trivial⟩, trivial⟩ ?_
            refine TL_gt rfl rfl rfl rfl ?_
            refine TL_ev env 1 rfl ⟨⟨trivial, ⟨trivial, trivial⟩⟩, trivial⟩ ?_
            refine TL_gt rfl rfl rfl rfl ?_
            obtain ⟨r65, hr, h1⟩ := bnd h1
            refine TL_callB [] (caps_in.ok0 hr) caps_in.fnb rfl ⟨trivial, ⟨trivial, ⟨trivial, trivial⟩⟩⟩ rfl trivial rfl ?_
            refine TL_ev env 2 rfl ⟨⟨trivial, ⟨trivial, trivial⟩⟩, ⟨trivial, trivial⟩⟩ ?_
            refine TL_split 51 rfl (fun hb => ?_) (fun hb => ?_)
            · replace h1 := bif_t h1 hb
              refine TL_gt rfl rfl rfl rfl ?_
              refine TL_ev env 1 rfl ⟨trivial, trivial⟩ ?_
              refine TL_gt rfl rfl rfl rfl ?_
              refine TL_ev env 1 rfl ⟨⟨trivial, trivial⟩, trivial⟩ ?_
              refine TL_gt rfl rfl rfl rfl ?_
              refine TL_ev env 1 rfl ⟨trivial, trivial⟩ ?_
              refine TL_gt rfl rfl rfl rfl ?_
              refine TL_ev env 1 rfl ⟨⟨trivial, trivial⟩, trivial⟩ ?_
              refine TL_gt rfl rfl rfl rfl ?_
              refine TL_ev env 1 rfl ⟨⟨trivial, ⟨trivial, (by decide)⟩⟩, trivial⟩ ?_
              refine TL_gt rfl rfl rfl rfl ?_
              obtain ⟨r67, hr, h1⟩ := bnd h1
              refine TL_callB [] (caps_in.ok0 hr) caps_in.fnb rfl ⟨trivial, ⟨trivial, ⟨trivial, trivial⟩⟩⟩ rfl trivial rfl ?_
              refine TL_ev env 2 rfl ⟨⟨trivial, ⟨trivial, trivial⟩⟩, ⟨trivial, trivial⟩⟩ ?_
              refine TL_split 59 rfl (fun hb => ?_) (fun hb => ?_)
              · replace h1 := bif_t h1 hb
                refine TL_gt rfl rfl rfl rfl ?_
                refine TL_ev env 1 rfl ⟨trivial, trivial⟩ ?_
                refine TL_gt rfl rfl rfl rfl ?_
                refine TL_ev env 1 rfl ⟨⟨trivial, trivial⟩, trivial⟩ ?_
                refine TL_gt rfl rfl rfl rfl ?_
                refine TL_ev env 1 rfl ⟨trivial, trivial⟩ ?_
                refine TL_gt rfl rfl rfl rfl ?_
                refine TL_ev env 1 rfl ⟨⟨trivial, trivial⟩, trivial⟩ ?_
                refine TL_gt rfl rfl rfl rfl ?_
                refine TL_ev env 1 rfl ⟨⟨trivial, ⟨trivial, (by decide)⟩⟩, trivial⟩ ?_
                refine TL_gt rfl rfl rfl rfl ?_
                refine TL_ev env 1 rfl ⟨⟨trivial, ⟨trivial, trivial⟩⟩, trivial⟩ ?_
                refine TL_gt rfl rfl rfl rfl ?_
                obtain ⟨r70, hr, h1⟩ := bnd h1
                refine TL_callB [] (caps_in.ok0 hr) caps_in.fnb rfl ⟨trivial, ⟨trivial, ⟨trivial, trivial⟩⟩⟩ rfl trivial rfl ?_
                refine TL_ev env 2 rfl ⟨⟨trivial, ⟨trivial, trivial⟩⟩, ⟨trivial, trivial⟩⟩ ?_
                refine TL_split 68 rfl (fun hb => ?_) (fun hb => ?_)
                · replace h1 := bif_t h1 hb
                  refine TL_gt rfl rfl rfl rfl ?_
                  refine TL_ev env 1 rfl ⟨trivial, trivial⟩ ?_
                  refine TL_gt rfl rfl rfl rfl ?_
                  refine TL_ev env 1 rfl ⟨⟨trivial, trivial⟩, trivial⟩ ?_
                  refine TL_gt rfl rfl rfl rfl ?_
                  refine TL_ev env 1 rfl ⟨trivial, trivial⟩ ?_
                  refine TL_gt rfl rfl rfl rfl ?_
                  refine TL_ev env 1 rfl ⟨⟨trivial, trivial⟩, trivial⟩ ?_
                  refine TL_gt rfl rfl rfl rfl ?_
                  obtain ⟨r71, hr, h1⟩ := bnd h1
                  refine TL_callB [] (caps_in.ok0 hr) caps_in.fnb rfl ⟨trivial, ⟨trivial, ⟨trivial, trivial⟩⟩⟩ rfl trivial rfl ?_
                  refine TL_ev env 2 rfl ⟨⟨trivial, ⟨trivial, trivial⟩⟩, ⟨trivial, trivial⟩⟩ ?_
                  refine TL_split 75 rfl (fun hb => ?_) (fun hb => ?_)
                  · replace h1 := bif_t h1 hb
                    refine TL_gt rfl rfl rfl rfl ?_
                    refine TL_ev env 1 rfl ⟨trivial, trivial⟩ ?_
                    refine TL_gt rfl rfl rfl rfl ?_
                    refine TL_ev env 1 rfl ⟨⟨trivial, trivial⟩, trivial⟩ ?_
                    refine TL_gt rfl rfl rfl rfl ?_
                    refine TL_ev env 1 rfl ⟨trivial, trivial⟩ ?_
                    refine TL_gt rfl rfl rfl rfl ?_
                    refine TL_ev env 1 rfl ⟨⟨trivial, trivial⟩, trivial⟩ ?_
                    refine TL_gt rfl rfl rfl rfl ?_
                    obtain ⟨r72, hr, h1⟩ := bnd h1
                    refine TL_callB [] (caps_in.ok0 hr) caps_in.fnb rfl ⟨trivial, ⟨trivial, ⟨trivial, trivial⟩⟩⟩ rfl trivial rfl ?_
                    refine TL_ev env 2 rfl ⟨⟨trivial, ⟨trivial, trivial⟩⟩, ⟨trivial, trivial⟩⟩ ?_
                    refine TL_split 82 rfl (fun hb => ?_) (fun hb => ?_)
                    · replace h1 := bif_t h1 hb
                      refine TL_gt rfl rfl rfl rfl ?_
                      refine TL_ev env 1 rfl ⟨trivial, trivial⟩ ?_
                      refine TL_gt rfl rfl rfl rfl ?_
                      refine TL_ev env 1 rfl ⟨⟨trivial, trivial⟩, trivial⟩ ?_
                      refine TL_gt rfl rfl rfl rfl ?_
                      refine TL_ev env 1 rfl ⟨trivial, trivial⟩ ?_
                      refine TL_gt rfl rfl rfl rfl ?_
                      refine TL_ev env 1 rfl ⟨⟨trivial, trivial⟩, trivial⟩ ?_
                      refine TL_gt rfl rfl rfl rfl ?_
                      refine TL_ev env 1 rfl ⟨trivial, trivial⟩ ?_
                      refine TL_gt rfl rfl rfl rfl ?_
                      refine TL_ev env 1 rfl ⟨⟨trivial, trivial⟩, trivial⟩ ?_
                      refine TL_gt rfl rfl rfl rfl ?_
                      refine TL_ev env 1 rfl ⟨trivial, trivial⟩ ?_
                      refine TL_gt rfl rfl rfl rfl ?_
                      refine TL_ev env 1 rfl ⟨⟨trivial, trivial⟩, trivial⟩ ?_
                      refine TL_gt rfl rfl rfl rfl ?_
                      obtain ⟨r73, hr, h1⟩ := bnd h1
                      refine TL_callB [] (caps_span.ok0 hr) caps_span.fnb rfl ⟨trivial, ⟨trivial, ⟨trivial, ⟨trivial, ⟨trivial, trivial⟩⟩⟩⟩⟩ rfl trivial rfl ?_
                      refine TL_ev env 2 rfl ⟨⟨trivial, ⟨trivial, trivial⟩⟩, ⟨trivial, trivial⟩⟩ ?_
                      refine TL_end ?_
                      obtain rfl := sinj h1
                      refine tsn ?_
                      exact SP_ren [] _ rfl ⟨rfl, trivial⟩ trivial rfl
                    · replace h1 := bif_f h1 hb
                      refine TL_gf (.bool false) rfl rfl rfl rfl rfl (by decide) ?_
                      refine TL_gf (.bool false) rfl rfl rfl rfl rfl (by decide) ?_
                      refine TL_gf (.bool false) rfl rfl rfl rfl rfl (by decide) ?_
                      refine TL_gf (.bool false) rfl rfl rfl rfl rfl (by decide) ?_
                      refine TL_gf (.bool false) rfl rfl rfl rfl rfl (by decide) ?_
                      refine TL_gf (.bool false) rfl rfl rfl rfl rfl (by decide) ?_
                      refine TL_gf (.bool false) rfl rfl rfl rfl rfl (by decide) ?_
                      refine TL_gf (.bool false) rfl rfl rfl rfl rfl (by decide) ?_
                      refine TL_gf (.bool false) rfl rfl rfl rfl rfl (by decide) ?_
                      refine TL_ev env 2 rfl ⟨⟨trivial, ⟨fun e => e, trivial⟩⟩, ⟨trivial, trivial⟩⟩ ?_
                      refine TL_end ?_
                      obtain rfl := sinj h1
                      refine tsn ?_
                      exact SP_ren [] _ rfl ⟨rfl, trivial⟩ trivial rfl
                  · replace h1 := bif_f h1 hb
                    refine TL_gf (.bool false) rfl rfl rfl rfl rfl (by decide) ?_
                    refine TL_gf (.bool false) rfl rfl rfl rfl rfl (by decide) ?_
                    refine TL_gf (.bool false) rfl rfl rfl rfl rfl (by decide) ?_
                    refine TL_gf (.bool false) rfl rfl rfl rfl rfl (by decide) ?_
                    refine TL_gf (.bool false) rfl rfl rfl rfl rfl (by decide) ?_
                    refine TL_ev env 2 rfl ⟨⟨trivial, ⟨fun e => e, trivial⟩⟩, ⟨trivial, trivial⟩⟩ ?_
                    refine TL_gf (.bool false) rfl rfl rfl rfl rfl (by decide) ?_
                    refine TL_gf (.bool false) rfl rfl rfl rfl rfl (by decide) ?_
                    refine TL_gf (.bool false) rfl rfl rfl rfl rfl (by decide) ?_
                    refine TL_gf (.bool false) rfl rfl rfl rfl rfl (by decide) ?_
                    refine TL_gf (.bool false) rfl rfl rfl rfl rfl (by decide) ?_
                    refine TL_gf (.bool false) rfl rfl rfl rfl rfl (by decide) ?_
                    refine TL_gf (.bool false) rfl rfl rfl rfl rfl (by decide) ?_
                    refine TL_gf (.bool false) rfl rfl rfl rfl rfl (by decide) ?_
                    refine TL_gf (.bool false) rfl rfl rfl rfl rfl (by decide) ?_
                    refine TL_ev env 2 rfl ⟨⟨trivial, ⟨fun e => e, trivial⟩⟩, ⟨trivial, trivial⟩⟩ ?_
                    refine TL_end ?_
                    obtain rfl := sinj h1
                    refine tsn ?_
                    exact SP_ren [] _ rfl ⟨rfl, trivial⟩ trivial rfl
                · replace h1 := bif_f h1 hb
                  refine TL_gf (.bool false) rfl rfl rfl rfl rfl (by decide) ?_
                  refine TL_gf (.bool false) rfl rfl rfl rfl rfl (by decide) ?_
                  refine TL_gf (.bool false) rfl rfl rfl rfl rfl (by decide) ?_
                  refine TL_gf (.bool false) rfl rfl rfl rfl rfl (by decide) ?_
                  refine TL_gf (.bool false) rfl rfl rfl rfl rfl (by decide) ?_
                  refine TL_ev env 2 rfl ⟨⟨trivial, ⟨fun e => e, trivial⟩⟩, ⟨trivial, trivial⟩⟩ ?_
                  refine TL_gf (.bool false) rfl rfl rfl rfl rfl (by decide) ?_
                  refine TL_gf (.bool false) rfl rfl rfl rfl rfl (by decide) ?_
                  refine TL_gf (.bool false) rfl rfl rfl rfl rfl (by decide) ?_
                  refine TL_gf (.bool false) rfl rfl rfl rfl rfl (by decide) ?_
                  refine TL_gf (.bool false) rfl rfl rfl rfl rfl (by decide) ?_
                  refine TL_ev env 2 rfl ⟨⟨trivial, ⟨fun e => e, trivial⟩⟩, ⟨trivial, trivial⟩⟩ ?_
                  refine TL_gf (.bool false) rfl rfl rfl rfl rfl (by decide) ?_
                  refine TL_gf (.bool false) rfl rfl rfl rfl rfl (by decide) ?_
                  refine TL_gf (.bool false) rfl rfl rfl rfl rfl (by decide) ?_
                  refine TL_gf (.bool false) rfl rfl rfl rfl rfl (by decide) ?_
                  refine TL_gf (.bool false) rfl rfl rfl rfl rfl (by decide) ?_
                  refine TL_gf (.bool false) rfl rfl rfl rfl rfl (by decide) ?_
                  refine TL_gf (.bool false) rfl rfl rfl rfl rfl (by decide) ?_
                  refine TL_gf (.bool false) rfl rfl rfl rfl rfl (by decide) ?_
                  refine TL_gf (.bool false) rfl rfl rfl rfl rfl (by decide) ?_
                  refine TL_ev env 2 rfl ⟨⟨trivial, ⟨fun e => e, trivial⟩⟩, ⟨trivial, trivial⟩⟩ ?_
                  refine TL_end ?_
                  obtain rfl := sinj h1
                  refine tsn ?_
                  exact SP_ren [] _ rfl ⟨rfl, trivial⟩ trivial rfl
              · replace h1 := bif_f h1 hb
                refine TL_gf (.bool false) rfl rfl rfl rfl rfl (by decide) ?_
                refine TL_gf (.bool false) rfl rfl rfl rfl rfl (by decide) ?_
                refine TL_gf (.bool false) rfl rfl rfl rfl rfl (by decide) ?_
                refine TL_gf (.bool false) rfl rfl rfl rfl rfl (by decide) ?_
                refine TL_gf (.bool false) rfl rfl rfl rfl rfl (by decide) ?_
                refine TL_gf (.bool false) rfl rfl rfl rfl rfl (by decide) ?_
                refine TL_gf (.bool false) rfl rfl rfl rfl rfl (by decide) ?_
                refine TL_ev env 2 rfl ⟨⟨trivial, ⟨fun e => e, trivial⟩⟩, ⟨trivial, trivial⟩⟩ ?_
                refine TL_gf (.bool false) rfl rfl rfl rfl rfl (by decide) ?_
                refine TL_gf (.bool false) rfl rfl rfl rfl rfl (by decide) ?_
                refine TL_gf (.bool false) rfl rfl rfl rfl rfl (by decide) ?_
                refine TL_gf (.bool false) rfl rfl rfl rfl rfl (by decide) ?_
                refine TL_gf (.bool false) rfl rfl rfl rfl rfl (by decide) ?_
                refine TL_ev env 2 rfl ⟨⟨trivial, ⟨fun e => e, trivial⟩⟩, ⟨trivial, trivial⟩⟩ ?_
                refine TL_gf (.bool false) rfl rfl rfl rfl rfl (by decide) ?_
                refine TL_gf (.bool false) rfl rfl rfl rfl rfl (by decide) ?_
                refine TL_gf (.bool false) rfl rfl rfl rfl rfl (by decide) ?_
                refine TL_gf (.bool false) rfl rfl rfl rfl rfl (by decide) ?_
                refine TL_gf (.bool false) rfl rfl rfl rfl rfl (by decide) ?_
                refine TL_ev env 2 rfl ⟨⟨trivial, ⟨fun e => e, trivial⟩⟩, ⟨trivial, trivial⟩⟩ ?_
                refine TL_gf (.bool false) rfl rfl rfl rfl rfl (by decide) ?_
                refine TL_gf (.bool false) rfl rfl rfl rfl rfl (by decide) ?_
                refine TL_gf (.bool false) rfl rfl rfl rfl rfl (by decide) ?_
                refine TL_gf (.bool false) rfl rfl rfl rfl rfl (by decide) ?_
                refine TL_gf (.bool false) rfl rfl rfl rfl rfl (by decide) ?_
                refine TL_gf (.bool false) rfl rfl rfl rfl rfl (by decide) ?_
                refine TL_gf (.bool false) rfl rfl rfl rfl rfl (by decide) ?_
                refine TL_gf (.bool false) rfl rfl rfl rfl rfl (by decide) ?_
                refine TL_gf (.bool false) rfl rfl rfl rfl rfl (by decide) ?_
                refine TL_ev env 2 rfl ⟨⟨trivial, ⟨fun e => e, trivial⟩⟩, ⟨trivial, trivial⟩⟩ ?_
                refine TL_end ?_
                obtain rfl := sinj h1
                refine tsn ?_
                exact SP_ren [] _ rfl ⟨rfl, trivial⟩ trivial rfl
            · replace h1 := bif_f h1 hb
              refine TL_gf (.bool false) rfl rfl rfl rfl rfl (by decide) ?_
              refine TL_gf (.bool false) rfl rfl rfl rfl rfl (by decide) ?_
              refine TL_gf (.bool false) rfl rfl rfl rfl rfl (by decide) ?_
              refine TL_gf (.bool false) rfl rfl rfl rfl rfl (by decide) ?_
              refine TL_gf (.bool false) rfl rfl rfl rfl rfl (by decide) ?_
              refine TL_gf (.bool false) rfl rfl rfl rfl rfl (by decide) ?_
              refine TL_ev env 2 rfl ⟨⟨trivial, ⟨fun e => e, trivial⟩⟩, ⟨trivial, trivial⟩⟩ ?_
              refine TL_gf (.bool false) rfl rfl rfl rfl rfl (by decide) ?_
              refine TL_gf (.bool false) rfl rfl rfl rfl rfl (by decide) ?_
              refine TL_gf (.bool false) rfl rfl rfl rfl rfl (by decide) ?_
              refine TL_gf (.bool false) rfl rfl rfl rfl rfl (by decide) ?_
              refine TL_gf (.bool false) rfl rfl rfl rfl rfl (by decide) ?_
              refine TL_gf (.bool false) rfl rfl rfl rfl rfl (by decide) ?_
              refine TL_gf (.bool false) rfl rfl rfl rfl rfl (by decide) ?_
              refine TL_ev env 2 rfl ⟨⟨trivial, ⟨fun e => e, trivial⟩⟩, ⟨trivial, trivial⟩⟩ ?_
              refine TL_gf (.bool false) rfl rfl rfl rfl rfl (by decide) ?_
              refine TL_gf (.bool false) rfl rfl rfl rfl rfl (by decide) ?_
              refine TL_gf (.bool false) rfl rfl rfl rfl rfl (by decide) ?_
              refine TL_gf (.bool false) rfl rfl rfl rfl rfl (by decide) ?_
              refine TL_gf (.bool false) rfl rfl rfl rfl rfl (by decide) ?_
              refine TL_ev env 2 rfl ⟨⟨trivial, ⟨fun e => e, trivial⟩⟩, ⟨trivial, trivial⟩⟩ ?_
              refine TL_gf (.bool false) rfl rfl rfl rfl rfl (by decide) ?_
              refine TL_gf (.bool false) rfl rfl rfl rfl rfl (by decide) ?_
              refine TL_gf (.bool false) rfl rfl rfl rfl rfl (by decide) ?_
              refine TL_gf (.bool false) rfl rfl rfl rfl rfl (by decide) ?_
              refine TL_gf (.bool false) rfl rfl rfl rfl rfl (by decide) ?_
              refine TL_ev env 2 rfl ⟨⟨trivial, ⟨fun e => e, trivial⟩⟩, ⟨trivial, trivial⟩⟩ ?_
              refine TL_gf (.bool false) rfl rfl rfl rfl rfl (by decide) ?_
              refine TL_gf (.bool false) rfl rfl rfl rfl rfl (by decide) ?_
              refine TL_gf (.bool false) rfl rfl rfl rfl rfl (by decide) ?_
              refine TL_gf (.bool false) rfl rfl rfl rfl rfl (by decide) ?_
              refine TL_gf (.bool false) rfl rfl rfl rfl rfl (by decide) ?_
              refine TL_gf (.bool false) rfl rfl rfl rfl rfl (by decide) ?_
              refine TL_gf (.bool false) rfl rfl rfl rfl rfl (by decide) ?_
              refine TL_gf (.bool false) rfl rfl rfl rfl rfl (by decide) ?_
              refine TL_gf (.bool false) rfl rfl rfl rfl rfl (by decide) ?_
              refine TL_ev env 2 rfl ⟨⟨trivial, ⟨fun e => e, trivial⟩⟩, ⟨trivial, trivial⟩⟩ ?_
              refine TL_end ?_
              obtain rfl := sinj h1
              refine tsn ?_
              exact SP_ren [] _ rfl ⟨rfl, trivial⟩ trivial rfl
          · replace h1 := bif_f h1 hb
            refine TL_gf (.bool false) rfl rfl rfl rfl rfl (by decide) ?_
            refine TL_gf (.bool false) rfl rfl rfl rfl rfl (by decide) ?_
            refine TL_gf (.bool false) rfl rfl rfl rfl rfl (by decide) ?_
            refine TL_gf (.bool false) rfl rfl rfl rfl rfl (by decide) ?_
            refine TL_gf (.bool false) rfl rfl rfl rfl rfl (by decide) ?_
            refine TL_gf (.bool false) rfl rfl rfl rfl rfl (by decide) ?_
            refine TL_ev env 2 rfl ⟨⟨trivial, ⟨fun e => e, trivial⟩⟩, ⟨trivial, trivial⟩⟩ ?_
            refine TL_gf (.bool false) rfl rfl rfl rfl rfl (by decide) ?_
            refine TL_gf (.bool false) rfl rfl rfl rfl rfl (by decide) ?_
            refine TL_gf (.bool false) rfl rfl rfl rfl rfl (by decide) ?_
            refine TL_gf (.bool false) rfl rfl rfl rfl rfl (by decide) ?_
            refine TL_gf (.bool false) rfl rfl rfl rfl rfl (by decide) ?_
            refine TL_gf (.bool false) rfl rfl rfl rfl rfl (by decide) ?_
            refine TL_ev env 2 rfl ⟨⟨trivial, ⟨fun e => e, trivial⟩⟩, ⟨trivial, trivial⟩⟩ ?_
            refine TL_gf (.bool false) rfl rfl rfl rfl rfl (by decide) ?_
            refine TL_gf (.bool false) rfl rfl rfl rfl rfl (by decide) ?_
            refine TL_gf (.bool false) rfl rfl rfl rfl rfl (by decide) ?_
            refine TL_gf (.bool false) rfl rfl rfl rfl rfl (by decide) ?_
            refine TL_gf (.bool false) rfl rfl rfl rfl rfl (by decide) ?_
            refine TL_gf (.bool false) rfl rfl rfl rfl rfl (by decide) ?_
            refine TL_gf (.bool false) rfl rfl rfl rfl rfl (by decide) ?_
            refine TL_ev env 2 rfl ⟨⟨trivial, ⟨fun e => e, trivial⟩⟩, ⟨trivial, trivial⟩⟩ ?_
            refine TL_gf (.bool false) rfl rfl rfl rfl rfl (by decide) ?_
            refine TL_gf (.bool false) rfl rfl rfl rfl rfl (by decide) ?_
            refine TL_gf (.bool false) rfl rfl rfl rfl rfl (by decide) ?_
            refine TL_gf (.bool false) rfl rfl rfl rfl rfl (by decide) ?_
            refine TL_gf (.bool false) rfl rfl rfl rfl rfl (by decide) ?_
            refine TL_ev env 2 rfl ⟨⟨trivial, ⟨fun e => e, trivial⟩⟩, ⟨trivial, trivial⟩⟩ ?_
            refine TL_gf (.bool false) rfl rfl rfl rfl rfl (by decide) ?_
            refine TL_gf (.bool false) rfl rfl rfl rfl rfl (by decide) ?_
            refine TL_gf (.bool false) rfl rfl rfl rfl rfl (by decide) ?_
            refine TL_gf (.bool false) rfl rfl rfl rfl rfl (by decide) ?_
            refine TL_gf (.bool false) rfl rfl rfl rfl rfl (by decide) ?_
            refine TL_ev env 2 rfl ⟨⟨trivial, ⟨fun e => e, trivial⟩⟩, ⟨trivial, trivial⟩⟩ ?_
            refine TL_gf (.bool false) rfl rfl rfl rfl rfl (by decide) ?_
            refine TL_gf (.bool false) rfl rfl rfl rfl rfl (by decide) ?_
            refine TL_gf (.bool false) rfl rfl rfl rfl rfl (by decide) ?_
            refine TL_gf (.bool false) rfl rfl rfl rfl rfl (by decide) ?_
            refine TL_gf (.bool false) rfl rfl rfl rfl rfl (by decide) ?_
            refine TL_gf (.bool false) rfl rfl rfl rfl rfl (by decide) ?_
            refine TL_gf (.bool false) rfl rfl rfl rfl rfl (by decide) ?_
            refine TL_gf (.bool false) rfl rfl rfl rfl rfl (by decide) ?_
            refine TL_gf (.bool false) rfl rfl rfl rfl rfl (by decide) ?_
            refine TL_ev env 2 rfl ⟨⟨trivial, ⟨fun e => e, trivial⟩⟩, ⟨trivial, trivial⟩⟩ ?_
            refine TL_end ?_
            obtain rfl := sinj h1
            refine tsn ?_
            exact SP_ren [] _ rfl ⟨rfl, trivial⟩ trivial rfl
        · rintro x62 hz
          obtain rfl := hz.symm
          refine TE_go ?_
          refine TC_ret ?_
          refine tsr ?_
          obtain rfl := sinj h0
          exact TE_ret env rfl trivial trivial
      · replace h0 := bif_f h0 hb
        refine TC_skip ?_
        refine TE_go ?_
        refine TC_seq ?_
        refine TC_reg ?_
        refine TL_ev env 4 rfl ⟨trivial, ⟨⟨trivial, trivial⟩, ⟨trivial, ⟨⟨trivial, trivial⟩, trivial⟩⟩⟩⟩ ?_
        refine TL_end ?_
        refine TE_go ?_
        refine TC_seq ?_
        obtain ⟨z1, h1, h0⟩ := bnd h0
        refine TC_cut (α := Bool) (fun s => z1 = s) (fun s => [(6, .bool s)]) (fun s => []) ?_ ?_
        · refine TC_renw (A' := [(4, .p 10501 0), (8, .p 1008 0)]) (L' := [(10501, some (.cells [.int .i64 _, .int .i64 _, .int .i64 _, .int .i64 _, .int .i64 _, .int .i64 _, .int .i64 _, .int .i64 _, .int .i64 _, .int .i64 _])), (1008, some (.cells [.int .i64 _, .int .i64 _, .int .i64 _, .int .i64 _, .int .i64 _]))]) [] ⟨rfl, rfl, trivial⟩ ⟨rfl, rfl, trivial⟩ rfl ?_
          refine TC_drawR ⟨_, fun i => ([[], [0], [], [2], [3, 2, 1, 0], [4, 3, 2, 1, 0], [5, 4, 3, 2, 1, 0], [6, 5, 4, 3, 2, 1, 0], [5, 4, 3, 2, 1, 0], [8, 5, 4, 3, 2, 1, 0], [9, 8, 5, 4, 3, 2, 1, 0], [10, 9, 8, 7, 6, 5, 4, 3, 2, 1, 0], [11, 10, 9, 8, 7, 6, 5, 4, 3, 2, 1, 0], [12, 11, 10, 9, 8, 7, 6, 5, 4, 3, 2, 1, 0], [13, 12, 11, 10, 9, 8, 7, 6, 5, 4, 3, 2, 1, 0], [14, 13, 12, 11, 10, 9, 8, 7, 6, 5, 4, 3, 2, 1, 0], [13, 12, 11, 10, 9, 8, 7, 6, 5, 4, 3, 2, 1, 0], [13, 12, 11, 10, 9, 8, 7, 6, 5, 4, 3, 2, 1, 0], [17, 13, 12, 11, 10, 9, 8, 7, 6, 5, 4, 3, 2, 1, 0], [18, 17, 16, 13, 12, 11, 10, 9, 8, 7, 6, 5, 4, 3, 2, 1, 0], [19, 18, 17, 16, 15, 14, 13, 12, 11, 10, 9, 8, 7, 6, 5, 4, 3, 2, 1, 0], [20, 19, 18, 17, 16, 15, 14, 13, 12, 11, 10, 9, 8, 7, 6, 5, 4, 3, 2, 1, 0], [21, 20, 19, 18, 17, 16, 15, 14, 13, 12, 11, 10, 9, 8, 7, 6, 5, 4, 3, 2, 1, 0], [22, 21, 20, 19, 18, 17, 16, 15, 14, 13, 12, 11, 10, 9, 8, 7, 6, 5, 4, 3, 2, 1, 0], [23, 22, 21, 20, 19, 18, 17, 16, 15, 14, 13, 12, 11, 10, 9, 8, 7, 6, 5, 4, 3, 2, 1, 0], [22, 21, 20, 19, 18, 17, 16, 15, 14, 13, 12, 11, 10, 9, 8, 7, 6, 5, 4, 3, 2, 1, 0], [25, 22, 21, 20, 19, 18, 17, 16, 15, 14, 13, 12, 11, 10, 9, 8, 7, 6, 5, 4, 3, 2, 1, 0], [22, 21, 20, 19, 18, 17, 16, 15, 14, 13, 12, 11, 10, 9, 8, 7, 6, 5, 4, 3, 2, 1, 0], [27, 22, 21, 20, 19, 18, 17, 16, 15, 14, 13, 12, 11, 10, 9, 8, 7, 6, 5, 4, 3, 2, 1, 0], [22, 21, 20, 19, 18, 17, 16, 15, 14, 13, 12, 11, 10, 9, 8, 7, 6, 5, 4, 3, 2, 1, 0], [29, 22, 21, 20, 19, 18, 17, 16, 15, 14, 13, 12, 11, 10, 9, 8, 7, 6, 5, 4, 3, 2, 1, 0], [30, 29, 28, 27, 26, 25, 24, 23, 22, 21, 20, 19, 18, 17, 16, 15, 14, 13, 12, 11, 10, 9, 8, 7, 6, 5, 4, 3, 2, 1, 0], [31, 30, 29, 28, 27, 26, 25, 24, 23, 22, 21, 20, 19, 18, 17, 16, 15, 14, 13, 12, 11, 10, 9, 8, 7, 6, 5, 4, 3, 2, 1, 0], [32, 31, 30, 29, 28, 27, 26, 25, 24, 23, 22, 21, 20, 19, 18, 17, 16, 15, 14, 13, 12, 11, 10, 9, 8, 7, 6, 5, 4, 3, 2, 1, 0]] : List (List Nat)).getD i [], fun i => ([[], [], [], [], [], [], [], [], [], [], [], [], [], [], [], [], [], [], [], [], [], [], [], [], [], [], [], [], [], [], [], [], [], []] : List (List Nat)).getD i [], fun i => ([[], [], [], [], [], [], [], [], [], [], [], [], [], [], [], [], [], [], [], [], [], [], [], [], [], [], [], [], [], [], [], [], [], []] : List (List Nat)).getD i []⟩ (fun i => ([[], [], [], [], [], [], [], [], [], [], [], [], [], [], [], [], [], [], [], [], [], [], [], [], [], [], [], [], [], [], [], [], [], []] : List (List Nat)).getD i []) (by kernel_rfl) (by kernel_rfl) ?_
          refine AJR_ev env 1 rfl (Nat.le_of_ble_eq_true rfl) rfl trivial ?_
          refine AJR_ev env 2 rfl (Nat.le_of_ble_eq_true rfl) rfl ⟨trivial, trivial⟩ ?_
          refine AJR_ev env 3 rfl (Nat.le_of_ble_eq_true rfl) rfl trivial ?_
          refine AJR_ev env 4 rfl (Nat.le_of_ble_eq_true rfl) rfl ⟨trivial, trivial⟩ ?_
          obtain ⟨r94, hr, h1⟩ := bnd h1
          refine AJR_call 5 rfl (Nat.le_of_ble_eq_true rfl) [] rfl (caps_in.ok0 hr) caps_in.fnb rfl ⟨trivial, ⟨trivial, ⟨trivial, trivial⟩⟩⟩ rfl trivial rfl ?_
          refine AJR_ev env 6 rfl (Nat.le_of_ble_eq_true rfl) rfl trivial ?_
          refine bif_split h1 (fun hb95 h1 => ?_) (fun hb95 h1 => ?_)
          · refine AJR_gev env 7 rfl (Nat.le_of_ble_eq_true rfl) hb95 rfl rfl rfl rfl rfl rfl trivial ?_
            refine AJR_gev env 8 rfl (Nat.le_of_ble_eq_true rfl) hb95 rfl rfl rfl rfl rfl rfl ⟨trivial, trivial⟩ ?_
            refine AJR_gev env 9 rfl (Nat.le_of_ble_eq_true rfl) hb95 rfl rfl rfl rfl rfl rfl trivial ?_
            refine AJR_gev env 10 rfl (Nat.le_of_ble_eq_true rfl) hb95 rfl rfl rfl rfl rfl rfl ⟨trivial, trivial⟩ ?_
            refine AJR_gev env 11 rfl (Nat.le_of_ble_eq_true rfl) hb95 rfl rfl rfl rfl rfl rfl ⟨trivial, ⟨trivial, trivial⟩⟩ ?_
            obtain ⟨r97, hr, h1⟩ := bnd h1
            refine AJR_gcall 12 rfl (Nat.le_of_ble_eq_true rfl) hb95 [] rfl rfl rfl rfl rfl (caps_in.ok0 hr) caps_in.fnb rfl ⟨trivial, ⟨trivial, ⟨trivial, trivial⟩⟩⟩ rfl trivial rfl ?_
            refine AJR_ev env 13 rfl (Nat.le_of_ble_eq_true rfl) rfl ⟨trivial, ⟨trivial, trivial⟩⟩ ?_
            refine AJR_ev env 14 rfl (Nat.le_of_ble_eq_true rfl) rfl trivial ?_
            refine bif_split h1 (fun hb99 h1 => ?_) (fun hb99 h1 => ?_)
            · refine AJR_gev env 15 rfl (Nat.le_of_ble_eq_true rfl) hb99 rfl rfl rfl rfl rfl rfl trivial ?_
              refine AJR_gev env 16 rfl (Nat.le_of_ble_eq_true rfl) hb99 rfl rfl rfl rfl rfl rfl ⟨trivial, trivial⟩ ?_
              obtain ⟨r100, hr, h1⟩ := bnd h1
              refine AJR_gcall 17 rfl (Nat.le_of_ble_eq_true rfl) hb99 [] rfl rfl rfl rfl rfl (lapped_Lengths.ok0 hr) lapped_Lengths.fnb rfl ⟨trivial, trivial⟩ rfl trivial rfl ?_
              refine AJR_gev env 18 rfl (Nat.le_of_ble_eq_true rfl) hb99 rfl rfl rfl rfl rfl rfl trivial ?_
              refine AJR_gev env 19 rfl (Nat.le_of_ble_eq_true rfl) hb99 rfl rfl rfl rfl rfl rfl ⟨trivial, trivial⟩ ?_
              obtain ⟨r101, hr, h1⟩ := bnd h1
              refine AJR_gcall 20 rfl (Nat.le_of_ble_eq_true rfl) hb99 [] rfl rfl rfl rfl rfl (slices_Index_int_int.ok0 hr) slices_Index_int_int.fnb rfl ⟨trivial, ⟨trivial, ⟨trivial, trivial⟩⟩⟩ rfl trivial rfl ?_
              obtain ⟨r102, hr, h1⟩ := bnd h1
              refine AJR_gcall 21 rfl (Nat.le_of_ble_eq_true rfl) hb99 [] rfl rfl rfl rfl rfl (caps_in.ok0 hr) caps_in.fnb rfl ⟨trivial, ⟨trivial, ⟨trivial, trivial⟩⟩⟩ rfl trivial rfl ?_
              refine AJR_ev env 22 rfl (Nat.le_of_ble_eq_true rfl) rfl ⟨trivial, ⟨trivial, trivial⟩⟩ ?_
              refine AJR_ev env 23 rfl (Nat.le_of_ble_eq_true rfl) rfl trivial ?_
              refine bif_split h1 (fun hb104 h1 => ?_) (fun hb104 h1 => ?_)
              · refine AJR_gev env 24 rfl (Nat.le_of_ble_eq_true rfl) hb104 rfl rfl rfl rfl rfl rfl trivial ?_
                refine AJR_gev env 25 rfl (Nat.le_of_ble_eq_true rfl) hb104 rfl rfl rfl rfl rfl rfl ⟨trivial, trivial⟩ ?_
                refine AJR_gev env 26 rfl (Nat.le_of_ble_eq_true rfl) hb104 rfl rfl rfl rfl rfl rfl trivial ?_
                refine AJR_gev env 27 rfl (Nat.le_of_ble_eq_true rfl) hb104 rfl rfl rfl rfl rfl rfl ⟨trivial, trivial⟩ ?_
                refine AJR_gev env 28 rfl (Nat.le_of_ble_eq_true rfl) hb104 rfl rfl rfl rfl rfl rfl trivial ?_
                refine AJR_gev env 29 rfl (Nat.le_of_ble_eq_true rfl) hb104 rfl rfl rfl rfl rfl rfl ⟨trivial, trivial⟩ ?_
                refine AJR_gev env 30 rfl (Nat.le_of_ble_eq_true rfl) hb104 rfl rfl rfl rfl rfl rfl trivial ?_
                refine AJR_gev env 31 rfl (Nat.le_of_ble_eq_true rfl) hb104 rfl rfl rfl rfl rfl rfl ⟨trivial, trivial⟩ ?_
                obtain ⟨r105, hr, h1⟩ := bnd h1
                refine AJR_gcall 32 rfl (Nat.le_of_ble_eq_true rfl) hb104 [] rfl rfl rfl rfl rfl (caps_span.ok0 hr) caps_span.fnb rfl ⟨trivial, ⟨trivial, ⟨trivial, ⟨trivial, ⟨trivial, trivial⟩⟩⟩⟩⟩ rfl trivial rfl ?_
                refine AJR_ev env 33 rfl (Nat.le_of_ble_eq_true rfl) rfl ⟨trivial, ⟨trivial, trivial⟩⟩ ?_
                refine AJR_ev env 34 rfl (Nat.le_of_ble_eq_true rfl) rfl trivial ?_
                refine AJR_end rfl rfl rfl ?_
                obtain rfl := sinj h1
                refine tsn ?_
                exact SP_ren [] _ rfl ⟨rfl, trivial⟩ trivial rfl
              · refine AJR_gskip (.bool false) 24 rfl (Nat.le_of_ble_eq_true rfl) hb104 rfl rfl rfl rfl rfl rfl (by decide) ?_
                refine AJR_gskip (.bool false) 25 rfl (Nat.le_of_ble_eq_true rfl) hb104 rfl rfl rfl rfl rfl rfl (by decide) ?_
                refine AJR_gskip (.bool false) 26 rfl (Nat.le_of_ble_eq_true rfl) hb104 rfl rfl rfl rfl rfl rfl (by decide) ?_
                refine AJR_gskip (.bool false) 27 rfl (Nat.le_of_ble_eq_true rfl) hb104 rfl rfl rfl rfl rfl rfl (by decide) ?_
                refine AJR_gskip (.bool false) 28 rfl (Nat.le_of_ble_eq_true rfl) hb104 rfl rfl rfl rfl rfl rfl (by decide) ?_
                refine AJR_gskip (.bool false) 29 rfl (Nat.le_of_ble_eq_true rfl) hb104 rfl rfl rfl rfl rfl rfl (by decide) ?_
                refine AJR_gskip (.bool false) 30 rfl (Nat.le_of_ble_eq_true rfl) hb104 rfl rfl rfl rfl rfl rfl (by decide) ?_
                refine AJR_gskip (.bool false) 31 rfl (Nat.le_of_ble_eq_true rfl) hb104 rfl rfl rfl rfl rfl rfl (by decide) ?_
                refine AJR_gskip (.bool false) 32 rfl (Nat.le_of_ble_eq_true rfl) hb104 rfl rfl rfl rfl rfl rfl (by decide) ?_
                refine AJR_ev env 33 rfl (Nat.le_of_ble_eq_true rfl) rfl ⟨trivial, ⟨fun e => (tff (e.symm.trans hb104)).elim, trivial⟩⟩ ?_
                refine AJR_ev env 34 rfl (Nat.le_of_ble_eq_true rfl) rfl trivial ?_
                refine AJR_end rfl rfl rfl ?_
                obtain rfl := sinj h1
                refine tsn ?_
                exact SP_ren [] _ rfl ⟨rfl, trivial⟩ trivial rfl
            · refine AJR_gskip (.bool false) 15 rfl (Nat.le_of_ble_eq_true rfl) hb99 rfl rfl rfl rfl rfl rfl (by decide) ?_
              refine AJR_gskip (.bool false) 16 rfl (Nat.le_of_ble_eq_true rfl) hb99 rfl rfl rfl rfl rfl rfl (by decide) ?_
              refine AJR_gskip (.bool false) 17 rfl (Nat.le_of_ble_eq_true rfl) hb99 rfl rfl rfl rfl rfl rfl (by decide) ?_
              refine AJR_gskip (.bool false) 18 rfl (Nat.le_of_ble_eq_true rfl) hb99 rfl rfl rfl rfl rfl rfl (by decide) ?_
              refine AJR_gskip (.bool false) 19 rfl (Nat.le_of_ble_eq_true rfl) hb99 rfl rfl rfl rfl rfl rfl (by decide) ?_
              refine AJR_gskip (.bool false) 20 rfl (Nat.le_of_ble_eq_true rfl) hb99 rfl rfl rfl rfl rfl rfl (by decide) ?_
              refine AJR_gskip (.bool false) 21 rfl (Nat.le_of_ble_eq_true rfl) hb99 rfl rfl rfl rfl rfl rfl (by decide) ?_
              refine AJR_ev env 22 rfl (Nat.le_of_ble_eq_true rfl) rfl ⟨trivial, ⟨fun e => (tff (e.symm.trans hb99)).elim, trivial⟩⟩ ?_
              refine AJR_ev env 23 rfl (Nat.le_of_ble_eq_true rfl) rfl trivial ?_
              refine bif_split h1 (fun hb109 h1 => ?_) (fun hb109 h1 => ?_)
              · refine AJR_gev env 24 rfl (Nat.le_of_ble_eq_true rfl) hb109 rfl rfl rfl rfl rfl rfl trivial ?_
                refine AJR_gev env 25 rfl (Nat.le_of_ble_eq_true rfl) hb109 rfl rfl rfl rfl rfl rfl ⟨trivial, trivial⟩ ?_
                refine AJR_gev env 26 rfl (Nat.le_of_ble_eq_true rfl) hb109 rfl rfl rfl rfl rfl rfl trivial ?_
                refine AJR_gev env 27 rfl (Nat.le_of_ble_eq_true rfl) hb109 rfl rfl rfl rfl rfl rfl ⟨trivial, trivial⟩ ?_
                refine AJR_gev env 28 rfl (Nat.le_of_ble_eq_true rfl) hb109 rfl rfl rfl rfl rfl rfl trivial ?_
                refine AJR_gev env 29 rfl (Nat.le_of_ble_eq_true rfl) hb109 rfl rfl rfl rfl rfl rfl ⟨trivial, trivial⟩ ?_
                refine AJR_gev env 30 rfl (Nat.le_of_ble_eq_true rfl) hb109 rfl rfl rfl rfl rfl rfl trivial ?_
                refine AJR_gev env 31 rfl (Nat.le_of_ble_eq_true rfl) hb109 rfl rfl rfl rfl rfl rfl ⟨trivial, trivial⟩ ?_
                obtain ⟨r110, hr, h1⟩ := bnd h1
                refine AJR_gcall 32 rfl (Nat.le_of_ble_eq_true rfl) hb109 [] rfl rfl rfl rfl rfl (caps_span.ok0 hr) caps_span.fnb rfl ⟨trivial, ⟨trivial, ⟨trivial, ⟨trivial, ⟨trivial, trivial⟩⟩⟩⟩⟩ rfl trivial rfl ?_
                refine AJR_ev env 33 rfl (Nat.le_of_ble_eq_true rfl) rfl ⟨trivial, ⟨trivial, trivial⟩⟩ ?_
                refine AJR_ev env 34 rfl (Nat.le_of_ble_eq_true rfl) rfl trivial ?_
                refine AJR_end rfl rfl rfl ?_
                obtain rfl := sinj h1
                refine tsn ?_
                exact SP_ren [] _ rfl ⟨rfl, trivial⟩ trivial rfl
              · refine AJR_gskip (.bool false) 24 rfl (Nat.le_of_ble_eq_true rfl) hb109 rfl rfl rfl rfl rfl rfl (by decide) ?_
                refine AJR_gskip (.bool false) 25 rfl (Nat.le_of_ble_eq_true rfl) hb109 rfl rfl rfl rfl rfl rfl (by decide) ?_
                refine AJR_gskip (.bool false) 26 rfl (Nat.le_of_ble_eq_true rfl) hb109 rfl rfl rfl rfl rfl rfl (by decide) ?_
                refine AJR_gskip (.bool false) 27 rfl (Nat.le_of_ble_eq_true rfl) hb109 rfl rfl rfl rfl rfl rfl (by decide) ?_
                refine AJR_gskip (.bool false) 28 rfl (Nat.le_of_ble_eq_true rfl) hb109 rfl rfl rfl rfl rfl rfl (by decide) ?_
                refine AJR_gskip (.bool false) 29 rfl (Nat.le_of_ble_eq_true rfl) hb109 rfl rfl rfl rfl rfl rfl (by decide) ?_
                refine AJR_gskip (.bool false) 30 rfl (Nat.le_of_ble_eq_true rfl) hb109 rfl rfl rfl rfl rfl rfl (by decide) ?_
                refine AJR_gskip (.bool false) 31 rfl (Nat.le_of_ble_eq_true rfl) hb109 rfl rfl rfl rfl rfl rfl (by decide) ?_
                refine AJR_gskip (.bool false) 32 rfl (Nat.le_of_ble_eq_true rfl) hb109 rfl rfl rfl rfl rfl rfl (by decide) ?_
                refine AJR_ev env 33 rfl (Nat.le_of_ble_eq_true rfl) rfl ⟨trivial, ⟨fun e => (tff (e.symm.trans hb109)).elim, trivial⟩⟩ ?_
                refine AJR_ev env 34 rfl (Nat.le_of_ble_eq_true rfl) rfl trivial ?_
                refine AJR_end rfl rfl rfl ?_
                obtain rfl := sinj h1
                refine tsn ?_
                exact SP_ren [] _ rfl ⟨rfl, trivial⟩ trivial rfl
          · refine AJR_gskip (.bool false) 7 rfl (Nat.le_of_ble_eq_true rfl) hb95 rfl rfl rfl rfl rfl rfl (by decide) ?_
            refine AJR_gskip (.bool false) 8 rfl (Nat.le_of_ble_eq_true rfl) hb95 rfl rfl rfl rfl rfl rfl (by decide) ?_
            refine AJR_gskip (.bool false) 9 rfl (Nat.le_of_ble_eq_true rfl) hb95 rfl rfl rfl rfl rfl rfl (by decide) ?_
            refine AJR_gskip (.bool false) 10 rfl (Nat.le_of_ble_eq_true rfl) hb95 rfl rfl rfl rfl rfl rfl (by decide) ?_
            refine AJR_gskip (.bool false) 11 rfl (Nat.le_of_ble_eq_true rfl) hb95 rfl rfl rfl rfl rfl rfl (by decide) ?_
            refine AJR_gskip (.bool false) 12 rfl (Nat.le_of_ble_eq_true rfl) hb95 rfl rfl rfl rfl rfl rfl (by decide) ?_
            refine AJR_ev env 13 rfl (Nat.le_of_ble_eq_true rfl) rfl ⟨trivial, ⟨fun e => (tff (e.symm.trans hb95)).elim, trivial⟩⟩ ?_
            refine AJR_ev env 14 rfl (Nat.le_of_ble_eq_true rfl) rfl trivial ?_
            refine bif_split h1 (fun hb114 h1 => ?_) (fun hb114 h1 => ?_)
            · refine AJR_gev env 15 rfl (Nat.le_of_ble_eq_true rfl) hb114 rfl rfl rfl rfl rfl rfl trivial ?_
              refine AJR_gev env 16 rfl (Nat.le_of_ble_eq_true rfl) hb114 rfl rfl rfl rfl rfl rfl ⟨trivial, trivial⟩ ?_
              obtain ⟨r115, hr, h1⟩ := bnd h1
              refine AJR_gcall 17 rfl (Nat.le_of_ble_eq_true rfl) hb114 [] rfl rfl rfl rfl rfl (lapped_Lengths.ok0 hr) lapped_Lengths.fnb rfl ⟨trivial, trivial⟩ rfl trivial rfl ?_
              refine AJR_gev env 18 rfl (Nat.le_of_ble_eq_true rfl) hb114 rfl rfl rfl rfl rfl rfl trivial ?_
              refine AJR_gev env 19 rfl (Nat.le_of_ble_eq_true rfl) hb114 rfl rfl rfl rfl rfl rfl ⟨trivial, trivial⟩ ?_
              obtain ⟨r116, hr, h1⟩ := bnd h1
              refine AJR_gcall 20 rfl (Nat.le_of_ble_eq_true rfl) hb114 [] rfl rfl rfl rfl rfl (slices_Index_int_int.ok0 hr) slices_Index_int_int.fnb rfl ⟨trivial, ⟨trivial, ⟨trivial, trivial⟩⟩⟩ rfl trivial rfl ?_
              obtain ⟨r117, hr, h1⟩ := bnd h1
              refine AJR_gcall 21 rfl (Nat.le_of_ble_eq_true rfl) hb114 [] rfl rfl rfl rfl rfl (caps_in.ok0 hr) caps_in.fnb rfl ⟨trivial, ⟨trivial, ⟨trivial, trivial⟩⟩⟩ rfl trivial rfl ?_
              refine AJR_ev env 22 rfl (Nat.le_of_ble_eq_true rfl) rfl ⟨trivial, ⟨trivial, trivial⟩⟩ ?_
              refine AJR_ev env 23 rfl (Nat.le_of_ble_eq_true rfl) rfl trivial ?_
              refine bif_split h1 (fun hb119 h1 => ?_) (fun hb119 h1 => ?_)
              · refine AJR_gev env 24 rfl (Nat.le_of_ble_eq_true rfl) hb119 rfl rfl rfl rfl rfl rfl trivial ?_
                refine AJR_gev env 25 rfl (Nat.le_of_ble_eq_true rfl) hb119 rfl rfl rfl rfl rfl rfl ⟨trivial, trivial⟩ ?_
                refine AJR_gev env 26 rfl (Nat.le_of_ble_eq_true rfl) hb119 rfl rfl rfl rfl rfl rfl trivial ?_
                refine AJR_gev env 27 rfl (Nat.le_of_ble_eq_true rfl) hb119 rfl rfl rfl rfl rfl rfl ⟨trivial, trivial⟩ ?_
                refine AJR_gev env 28 rfl (Nat.le_of_ble_eq_true rfl) hb119 rfl rfl rfl rfl rfl rfl trivial ?_
                refine AJR_gev env 29 rfl (Nat.le_of_ble_eq_true rfl) hb119 rfl rfl rfl rfl rfl rfl ⟨trivial, trivial⟩ ?_
                refine AJR_gev env 30 rfl (Nat.le_of_ble_eq_true rfl) hb119 rfl rfl rfl rfl rfl rfl trivial ?_
                refine AJR_gev env 31 rfl (Nat.le_of_ble_eq_true rfl) hb119 rfl rfl rfl rfl rfl rfl ⟨trivial, trivial⟩ ?_
                obtain ⟨r120, hr, h1⟩ := bnd h1
                refine AJR_gcall 32 rfl (Nat.le_of_ble_eq_true rfl) hb119 [] rfl rfl rfl rfl rfl (caps_span.ok0 hr) caps_span.fnb rfl ⟨trivial, ⟨trivial, ⟨trivial, ⟨trivial, ⟨trivial, trivial⟩⟩⟩⟩⟩ rfl trivial rfl ?_
                refine AJR_ev env 33 rfl (Nat.le_of_ble_eq_true rfl) rfl ⟨trivial, ⟨trivial, trivial⟩⟩ ?_
                refine AJR_ev env 34 rfl (Nat.le_of_ble_eq_true rfl) rfl trivial ?_
                refine AJR_end rfl rfl rfl ?_
                obtain rfl := sinj h1
                refine tsn ?_
                exact SP_ren [] _ rfl ⟨rfl, trivial⟩ trivial rfl
              · refine AJR_gskip (.bool false) 24 rfl (Nat.le_of_ble_eq_true rfl) hb119 rfl rfl rfl rfl rfl rfl (by decide) ?_
                refine AJR_gskip (.bool false) 25 rfl (Nat.le_of_ble_eq_true rfl) hb119 rfl rfl rfl rfl rfl rfl (by decide) ?_
                refine AJR_gskip (.bool false) 26 rfl (Nat.le_of_ble_eq_true rfl) hb119 rfl rfl rfl rfl rfl rfl (by decide) ?_
                refine AJR_gskip (.bool false) 27 rfl (Nat.le_of_ble_eq_true rfl) hb119 rfl rfl rfl rfl rfl rfl (by decide) ?_
                refine AJR_gskip (.bool false) 28 rfl (Nat.le_of_ble_eq_true rfl) hb119 rfl rfl rfl rfl rfl rfl (by decide) ?_
                refine AJR_gskip (.bool false) 29 rfl (Nat.le_of_ble_eq_true rfl) hb119 rfl rfl rfl rfl rfl rfl (by decide) ?_
                refine AJR_gskip (.bool false) 30 rfl (Nat.le_of_ble_eq_true rfl) hb119 rfl rfl rfl rfl rfl rfl (by decide) ?_
                refine AJR_gskip (.bool false) 31 rfl (Nat.le_of_ble_eq_true rfl) hb119 rfl rfl rfl rfl rfl rfl (by decide) ?_
                refine AJR_gskip (.bool false) 32 rfl (Nat.le_of_ble_eq_true rfl) hb119 rfl rfl rfl rfl rfl rfl (by decide) ?_
                refine AJR_ev env 33 rfl (Nat.le_of_ble_eq_true rfl) rfl ⟨trivial, ⟨fun e => (tff (e.symm.trans hb119)).elim, trivial⟩⟩ ?_
                refine AJR_ev env 34 rfl (Nat.le_of_ble_eq_true rfl) rfl trivial ?_
                refine AJR_end rfl rfl rfl ?_
                obtain rfl := sinj h1
                refine tsn ?_
                exact SP_ren [] _ rfl ⟨rfl, trivial⟩ trivial rfl
            · refine AJR_gskip (.bool false) 15 rfl (Nat.le_of_ble_eq_true rfl) hb114 rfl rfl rfl rfl rfl rfl (by decide) ?_
              refine AJR_gskip (.bool false) 16 rfl (Nat.le_of_ble_eq_true rfl) hb114 rfl rfl rfl rfl rfl rfl (by decide) ?_
              refine AJR_gskip (.bool false) 17 rfl (Nat.le_of_ble_eq_true rfl) hb114 rfl rfl rfl rfl rfl rfl (by decide) ?_
              refine AJR_gskip (.bool false) 18 rfl (Nat.le_of_ble_eq_true rfl) hb114 rfl rfl rfl rfl rfl rfl (by decide) ?_
              refine AJR_gskip (.bool false) 19 rfl (Nat.le_of_ble_eq_true rfl) hb114 rfl rfl rfl rfl rfl rfl (by decide) ?_
              refine AJR_gskip (.bool false) 20 rfl (Nat.le_of_ble_eq_true rfl) hb114 rfl rfl rfl rfl rfl rfl (by decide) ?_
              refine AJR_gskip (.bool false) 21 rfl (Nat.le_of_ble_eq_true rfl) hb114 rfl rfl rfl rfl rfl rfl (by decide) ?_
              refine AJR_ev env 22 rfl (Nat.le_of_ble_eq_true rfl) rfl ⟨trivial, ⟨fun e => (tff (e.symm.trans hb114)).elim, trivial⟩⟩ ?_
              refine AJR_ev env 23 rfl (Nat.le_of_ble_eq_true rfl) rfl trivial ?_
              refine bif_split h1 (fun hb124 h1 => ?_) (fun hb124 h1 => ?_)
              · refine AJR_gev env 24 rfl (Nat.le_of_ble_eq_true rfl) hb124 rfl rfl rfl rfl rfl rfl trivial ?_
                refine AJR_gev env 25 rfl (Nat.le_of_ble_eq_true rfl) hb124 rfl rfl rfl rfl rfl rfl ⟨trivial, trivial⟩ ?_
                refine AJR_gev env 26 rfl (Nat.le_of_ble_eq_true rfl) hb124 rfl rfl rfl rfl rfl rfl trivial ?_
                refine AJR_gev env 27 rfl (Nat.le_of_ble_eq_true rfl) hb124 rfl rfl rfl rfl rfl rfl ⟨trivial, trivial⟩ ?_
                refine AJR_gev env 28 rfl (Nat.le_of_ble_eq_true rfl) hb124 rfl rfl rfl rfl rfl rfl trivial ?_
                refine AJR_gev env 29 rfl (Nat.le_of_ble_eq_true rfl) hb124 rfl rfl rfl rfl rfl rfl ⟨trivial, trivial⟩ ?_
                refine AJR_gev env 30 rfl (Nat.le_of_ble_eq_true rfl) hb124 rfl rfl rfl rfl rfl rfl trivial ?_
                refine AJR_gev env 31 rfl (Nat.le_of_ble_eq_true rfl) hb124 rfl rfl rfl rfl rfl rfl ⟨trivial, trivial⟩ ?_
                obtain ⟨r125, hr, h1⟩ := bnd h1
                refine AJR_gcall 32 rfl (Nat.le_of_ble_eq_true rfl) hb124 [] rfl rfl rfl rfl rfl (caps_span.ok0 hr) caps_span.fnb rfl ⟨trivial, ⟨trivial, ⟨trivial, ⟨trivial, ⟨trivial, trivial⟩⟩⟩⟩⟩ rfl trivial rfl ?_
                refine AJR_ev env 33 rfl (Nat.le_of_ble_eq_true rfl) rfl ⟨trivial, ⟨trivial, trivial⟩⟩ ?_
                refine AJR_ev env 34 rfl (Nat.le_of_ble_eq_true rfl) rfl trivial ?_
                refine AJR_end rfl rfl rfl ?_
                obtain rfl := sinj h1
                refine tsn ?_
                exact SP_ren [] _ rfl ⟨rfl, trivial⟩ trivial rfl
              · refine AJR_gskip (.bool false) 24 rfl (Nat.le_of_ble_eq_true rfl) hb124 rfl rfl rfl rfl rfl rfl (by decide) ?_
                refine AJR_gskip (.bool false) 25 rfl (Nat.le_of_ble_eq_true rfl) hb124 rfl rfl rfl rfl rfl rfl (by decide) ?_
                refine AJR_gskip (.bool false) 26 rfl (Nat.le_of_ble_eq_true rfl) hb124 rfl rfl rfl rfl rfl rfl (by decide) ?_
                refine AJR_gskip (.bool false) 27 rfl (Nat.le_of_ble_eq_true rfl) hb124 rfl rfl rfl rfl rfl rfl (by decide) ?_
                refine AJR_gskip (.bool false) 28 rfl (Nat.le_of_ble_eq_true rfl) hb124 rfl rfl rfl rfl rfl rfl (by decide) ?_
                refine AJR_gskip (.bool false) 29 rfl (Nat.le_of_ble_eq_true rfl) hb124 rfl rfl rfl rfl rfl rfl (by decide) ?_
                refine AJR_gskip (.bool false) 30 rfl (Nat.le_of_ble_eq_true rfl) hb124 rfl rfl rfl rfl rfl rfl (by decide) ?_
                refine AJR_gskip (.bool false) 31 rfl (Nat.le_of_ble_eq_true rfl) hb124 rfl rfl rfl rfl rfl rfl (by decide) ?_
                refine AJR_gskip (.bool false) 32 rfl (Nat.le_of_ble_eq_true rfl) hb124 rfl rfl rfl rfl rfl rfl (by decide) ?_
                refine AJR_ev env 33 rfl (Nat.le_of_ble_eq_true rfl) rfl ⟨trivial, ⟨fun e => (tff (e.symm.trans hb124)).elim, trivial⟩⟩ ?_
                refine AJR_ev env 34 rfl (Nat.le_of_ble_eq_true rfl) rfl trivial ?_
                refine AJR_end rfl rfl rfl ?_
                obtain rfl := sinj h1
                refine tsn ?_
                exact SP_ren [] _ rfl ⟨rfl, trivial⟩ trivial rfl
        · rintro x93 hz
          obtain rfl := hz.symm
          refine TE_go ?_
          refine TC_ret ?_
          obtain rfl := sinj h0
          exact TE_ret env rfl trivial trivial
theorem caps_Allows.ok0 {K : Nat} {p0 : Int} {p1 : Int} {p2 : Int} {p3 : Int} {p4 : Int} {p5 : Int} {p6 : Int} {p7 : Int} {p8 : Int} {p9 : Int} {p10 : Int} {p11 : Int} {p12 : Int} {p13 : Int} {p14 : Int} {p15 : Int} {p16 : Int} {p17 : Int} {p18 : Int} {p19 : Int} {p20 : Int} {p21 : Int} {p22 : Int} {p23 : Int} {p24 : Int} {p25 : Int} {p26 : Int} {q0 : Bool} (h0 : caps_Allows K p0 p1 p2 p3 p4 p5 p6 p7 p8 p9 p10 p11 p12 p13 p14 p15 p16 p17 p18 p19 p20 p21 p22 p23 p24 p25 p26 = some q0) : Fn Try.prog 45 [.agg [.int .i64 p0, .int .i64 p1, .int .i64 p2, .int .i64 p3, .int .i64 p4, .int .i64 p5, .int .i64 p6, .int .i64 p7, .int .i64 p8, .int .i64 p9, .int .i64 p10, .int .i64 p11, .int .i64 p12, .int .i64 p13, .int .i64 p14], .agg [.int .i64 p15, .int .i64 p16, .int .i64 p17, .int .i64 p18, .int .i64 p19, .int .i64 p20, .int .i64 p21, .int .i64 p22, .int .i64 p23, .int .i64 p24], .agg [.int .i64 p25, .int .i64 p26]] [] (.bool q0) [] := caps_Allows.ok h0
theorem caps_Allows.fnb : fnb Try.prog 45 = true := fnb_of Try.func45 rfl
def offer_Choose_1.res (_p0 : Int) (_p1 : Int) (_p2 : Int) (_p3 : Int) (_p4 : Int) (_p5 : Int) (_p6 : Int) (_p7 : Int) (_p8 : Int) (_p9 : Int) (_p10 : Int) (_p11 : Int) (_p12 : Int) (_p13 : Int) (_p14 : Int) (_p15 : Int) (_p16 : Int) (_p17 : Int) (_p18 : Int) (_p19 : Int) (_p20 : Int) (_p21 : Int) (_p22 : Int) (_p23 : Int) (_p24 : Int) (_p25 : Int) (_p26 : Int) (_p27 : Int) (_p28 : Int) (_p29 : Int) (_p30 : Int) (_p31 : Int) (_p32 : Int) (_p33 : Int) (_p34 : Int) (_p35 : Int) (_p36 : Int) : Bool × Int × Int × Int × Int × Int × Int × Int × Int × Int × Int → MV
  | (q0, _, _, _, _, _, _, _, _, _, _) => .bool q0
def offer_Choose_1.out (_p0 : Int) (_p1 : Int) (_p2 : Int) (_p3 : Int) (_p4 : Int) (_p5 : Int) (_p6 : Int) (_p7 : Int) (_p8 : Int) (_p9 : Int) (p10 : Int) (p11 : Int) (p12 : Int) (p13 : Int) (p14 : Int) (p15 : Int) (p16 : Int) (p17 : Int) (p18 : Int) (p19 : Int) (p20 : Int) (p21 : Int) (p22 : Int) (p23 : Int) (p24 : Int) (p25 : Int) (p26 : Int) (_p27 : Int) (_p28 : Int) (_p29 : Int) (_p30 : Int) (_p31 : Int) (_p32 : Int) (_p33 : Int) (_p34 : Int) (_p35 : Int) (_p36 : Int) : Bool × Int × Int × Int × Int × Int × Int × Int × Int × Int × Int → List (Nat × Option MObj)
  | (_, q1, q2, q3, q4, q5, q6, q7, q8, q9, q10) => [(0, some (.cells [.int .i64 p10, .int .i64 p11, .int .i64 p12, .int .i64 p13, .int .i64 p14, .int .i64 p15, .int .i64 p16, .int .i64 p17, .int .i64 p18, .int .i64 p19, .int .i64 p20, .int .i64 p21, .int .i64 p22, .int .i64 p23, .int .i64 p24])), (1, some (.cells [.int .i64 p25, .int .i64 p26])), (2, some (.cells [.int .i64 q1, .int .i64 q2, .int .i64 q3, .int .i64 q4, .int .i64 q5, .int .i64 q6, .int .i64 q7, .int .i64 q8, .int .i64 q9, .int .i64 q10]))]
theorem offer_Choose_1.ok {K : Nat} {p0 : Int} {p1 : Int} {p2 : Int} {p3 : Int} {p4 : Int} {p5 : Int} {p6 : Int} {p7 : Int} {p8 : Int} {p9 : Int} {p10 : Int} {p11 : Int} {p12 : Int} {p13 : Int} {p14 : Int} {p15 : Int} {p16 : Int} {p17 : Int} {p18 : Int} {p19 : Int} {p20 : Int} {p21 : Int} {p22 : Int} {p23 : Int} {p24 : Int} {p25 : Int} {p26 : Int} {p27 : Int} {p28 : Int} {p29 : Int} {p30 : Int} {p31 : Int} {p32 : Int} {p33 : Int} {p34 : Int} {p35 : Int} {p36 : Int} {r : Bool × Int × Int × Int × Int × Int × Int × Int × Int × Int × Int} (h0 : offer_Choose_1 K p0 p1 p2 p3 p4 p5 p6 p7 p8 p9 p10 p11 p12 p13 p14 p15 p16 p17 p18 p19 p20 p21 p22 p23 p24 p25 p26 p27 p28 p29 p30 p31 p32 p33 p34 p35 p36 = some r) : Fn Try.prog 116 [.agg [.int .i64 p0, .int .i64 p1, .int .i64 p2, .int .i64 p3, .int .i64 p4, .int .i64 p5, .int .i64 p6, .int .i64 p7, .int .i64 p8, .int .i64 p9], .p 0 0, .p 1 0, .p 2 0] [(0, some (.cells [.int .i64 p10, .int .i64 p11, .int .i64 p12, .int .i64 p13, .int .i64 p14, .int .i64 p15, .int .i64 p16, .int .i64 p17, .int .i64 p18, .int .i64 p19, .int .i64 p20, .int .i64 p21, .int .i64 p22, .int .i64 p23, .int .i64 p24])), (1, some (.cells [.int .i64 p25, .int .i64 p26])), (2, some (.cells [.int .i64 p27, .int .i64 p28, .int .i64 p29, .int .i64 p30, .int .i64 p31, .int .i64 p32, .int .i64 p33, .int .i64 p34, .int .i64 p35, .int .i64 p36]))] (offer_Choose_1.res p0 p1 p2 p3 p4 p5 p6 p7 p8 p9 p10 p11 p12 p13 p14 p15 p16 p17 p18 p19 p20 p21 p22 p23 p24 p25 p26 p27 p28 p29 p30 p31 p32 p33 p34 p35 p36 r) (offer_Choose_1.out p0 p1 p2 p3 p4 p5 p6 p7 p8 p9 p10 p11 p12 p13 p14 p15 p16 p17 p18 p19 p20 p21 p22 p23 p24 p25 p26 p27 p28 p29 p30 p31 p32 p33 p34 p35 p36 r) := by
  refine Fn_of Try.func116 rfl (Nat.le_of_ble_eq_true rfl) fun Γ => ?_
  refine TC_seq ?_
  refine TC_reg ?_
  refine TL_ev env 2 rfl ⟨trivial, ⟨trivial, trivial⟩⟩ ?_
  refine TL_end ?_
  refine TE_go ?_
  refine TC_seq ?_
  refine TC_seq ?_
  refine TC_reg ?_
  refine TL_ev env 3 rfl ⟨⟨trivial, trivial⟩, ⟨⟨trivial, trivial⟩, ⟨⟨trivial, trivial⟩, trivial⟩⟩⟩ ?_
  obtain ⟨r2, hr, h0⟩ := bnd h0
  refine TL_callB [] (caps_Allows.ok0 hr) caps_Allows.fnb rfl ⟨trivial, ⟨trivial, ⟨trivial, ⟨trivial, trivial⟩⟩⟩⟩ rfl trivial rfl ?_
  refine TL_ev env 1 rfl ⟨trivial, trivial⟩ ?_
  refine TL_end ?_
  refine TE_go ?_
  refine TC_cond rfl (fun hb => ?_) (fun hb => ?_)
  · replace h0 := bif_t h0 hb
    refine TC_seq ?_
    refine TC_reg ?_
    refine TL_ev env 1 rfl ⟨trivial, trivial⟩ ?_
    refine TL_end ?_
    refine TE_go ?_
    refine TC_ret ?_
    refine tsr ?_
    obtain rfl := sinj h0
    exact TE_ret env rfl trivial ⟨.inr rfl, .inr rfl, .inr rfl, trivial⟩
  · replace h0 := bif_f h0 hb
    refine TC_skip ?_
    refine TE_go ?_
    refine TC_seq ?_
    refine TC_reg ?_
    refine TL_ev env 2 rfl ⟨⟨trivial, trivial⟩, ⟨⟨trivial, trivial⟩, trivial⟩⟩ ?_
    refine TL_end ?_
    refine TE_go ?_
    refine TC_seq ?_
    refine TC_reg ?_
    refine TL_ev env 1 rfl ⟨trivial, trivial⟩ ?_
    refine TL_end ?_
    refine TE_go ?_
    refine TC_ret ?_
    obtain rfl := sinj h0
    exact TE_ret env rfl trivial ⟨.inr rfl, .inr rfl, .inr rfl, trivial⟩
theorem offer_Choose_1.ok0 {K : Nat} {p0 : Int} {p1 : Int} {p2 : Int} {p3 : Int} {p4 : Int} {p5 : Int} {p6 : Int} {p7 : Int} {p8 : Int} {p9 : Int} {p10 : Int} {p11 : Int} {p12 : Int} {p13 : Int} {p14 : Int} {p15 : Int} {p16 : Int} {p17 : Int} {p18 : Int} {p19 : Int} {p20 : Int} {p21 : Int} {p22 : Int} {p23 : Int} {p24 : Int} {p25 : Int} {p26 : Int} {p27 : Int} {p28 : Int} {p29 : Int} {p30 : Int} {p31 : Int} {p32 : Int} {p33 : Int} {p34 : Int} {p35 : Int} {p36 : Int} {q0 : Bool} {q1 : Int} {q2 : Int} {q3 : Int} {q4 : Int} {q5 : Int} {q6 : Int} {q7 : Int} {q8 : Int} {q9 : Int} {q10 : Int} (h0 : offer_Choose_1 K p0 p1 p2 p3 p4 p5 p6 p7 p8 p9 p10 p11 p12 p13 p14 p15 p16 p17 p18 p19 p20 p21 p22 p23 p24 p25 p26 p27 p28 p29 p30 p31 p32 p33 p34 p35 p36 = some (q0, q1, q2, q3, q4, q5, q6, q7, q8, q9, q10)) : Fn Try.prog 116 [.agg [.int .i64 p0, .int .i64 p1, .int .i64 p2, .int .i64 p3, .int .i64 p4, .int .i64 p5, .int .i64 p6, .int .i64 p7, .int .i64 p8, .int .i64 p9], .p 0 0, .p 1 0, .p 2 0] [(0, some (.cells [.int .i64 p10, .int .i64 p11, .int .i64 p12, .int .i64 p13, .int .i64 p14, .int .i64 p15, .int .i64 p16, .int .i64 p17, .int .i64 p18, .int .i64 p19, .int .i64 p20, .int .i64 p21, .int .i64 p22, .int .i64 p23, .int .i64 p24])), (1, some (.cells [.int .i64 p25, .int .i64 p26])), (2, some (.cells [.int .i64 p27, .int .i64 p28, .int .i64 p29, .int .i64 p30, .int .i64 p31, .int .i64 p32, .int .i64 p33, .int .i64 p34, .int .i64 p35, .int .i64 p36]))] (.bool q0) [(0, some (.cells [.int .i64 p10, .int .i64 p11, .int .i64 p12, .int .i64 p13, .int .i64 p14, .int .i64 p15, .int .i64 p16, .int .i64 p17, .int .i64 p18, .int .i64 p19, .int .i64 p20, .int .i64 p21, .int .i64 p22, .int .i64 p23, .int .i64 p24])), (1, some (.cells [.int .i64 p25, .int .i64 p26])), (2, some (.cells [.int .i64 q1, .int .i64 q2, .int .i64 q3, .int .i64 q4, .int .i64 q5, .int .i64 q6, .int .i64 q7, .int .i64 q8, .int .i64 q9, .int .i64 q10]))] := offer_Choose_1.ok h0
theorem offer_Choose_1.fnb : fnb Try.prog 116 = true := fnb_of Try.func116 rfl
def offer_laps_1_1.res (_p0 : Int) (_p1 : Int) (_p2 : Int) (_p3 : Int) (_p4 : Int) (_p5 : Int) (_p6 : Int) (_p7 : Int) (_p8 : Int) (_p9 : Int) (_p10 : Int) (_p11 : Int) (_p12 : Int) (_p13 : Int) (_p14 : Int) (_p15 : Int) (_p16 : Int) (_p17 : Int) (_p18 : Int) (_p19 : Int) (_p20 : Int) (_p21 : Int) (_p22 : Int) (_p23 : Int) (_p24 : Int) (_p25 : Int) (_p26 : Int) (_p27 : Int) (_p28 : Int) (_p29 : Int) (_p30 : Int) (_p31 : Int) (_p32 : Int) (_p33 : Int) (_p34 : Int) (_p35 : Int) (_p36 : Int) (_p37 : Int) : Bool × Int × Int × Int × Int × Int × Int × Int × Int × Int × Int → MV
  | (q0, _, _, _, _, _, _, _, _, _, _) => .bool q0
def offer_laps_1_1.out (p0 : Int) (p1 : Int) (p2 : Int) (p3 : Int) (p4 : Int) (p5 : Int) (p6 : Int) (p7 : Int) (p8 : Int) (p9 : Int) (_p10 : Int) (p11 : Int) (p12 : Int) (p13 : Int) (p14 : Int) (p15 : Int) (p16 : Int) (p17 : Int) (p18 : Int) (p19 : Int) (p20 : Int) (p21 : Int) (p22 : Int) (p23 : Int) (p24 : Int) (p25 : Int) (p26 : Int) (p27 : Int) (_p28 : Int) (_p29 : Int) (_p30 : Int) (_p31 : Int) (_p32 : Int) (_p33 : Int) (_p34 : Int) (_p35 : Int) (_p36 : Int) (_p37 : Int) : Bool × Int × Int × Int × Int × Int × Int × Int × Int × Int × Int → List (Nat × Option MObj)
  | (_, q1, q2, q3, q4, q5, q6, q7, q8, q9, q10) => [(0, some (.cells [.int .i64 p1, .int .i64 p2, .int .i64 p3, .int .i64 p4, .int .i64 p5, .int .i64 p6, .int .i64 p7, .int .i64 p8, .int .i64 p9, .int .i64 p0])), (1, some (.cells [.fn 116 [.p 2 0, .p 3 0, .p 4 0]])), (2, some (.cells [.int .i64 p11, .int .i64 p12, .int .i64 p13, .int .i64 p14, .int .i64 p15, .int .i64 p16, .int .i64 p17, .int .i64 p18, .int .i64 p19, .int .i64 p20, .int .i64 p21, .int .i64 p22, .int .i64 p23, .int .i64 p24, .int .i64 p25])), (3, some (.cells [.int .i64 p26, .int .i64 p27])), (4, some (.cells [.int .i64 q1, .int .i64 q2, .int .i64 q3, .int .i64 q4, .int .i64 q5, .int .i64 q6, .int .i64 q7, .int .i64 q8, .int .i64 q9, .int .i64 q10]))]
theorem offer_laps_1_1.ok {K : Nat} {p0 : Int} {p1 : Int} {p2 : Int} {p3 : Int} {p4 : Int} {p5 : Int} {p6 : Int} {p7 : Int} {p8 : Int} {p9 : Int} {p10 : Int} {p11 : Int} {p12 : Int} {p13 : Int} {p14 : Int} {p15 : Int} {p16 : Int} {p17 : Int} {p18 : Int} {p19 : Int} {p20 : Int} {p21 : Int} {p22 : Int} {p23 : Int} {p24 : Int} {p25 : Int} {p26 : Int} {p27 : Int} {p28 : Int} {p29 : Int} {p30 : Int} {p31 : Int} {p32 : Int} {p33 : Int} {p34 : Int} {p35 : Int} {p36 : Int} {p37 : Int} {r : Bool × Int × Int × Int × Int × Int × Int × Int × Int × Int × Int} (h0 : offer_laps_1_1 K p0 p1 p2 p3 p4 p5 p6 p7 p8 p9 p10 p11 p12 p13 p14 p15 p16 p17 p18 p19 p20 p21 p22 p23 p24 p25 p26 p27 p28 p29 p30 p31 p32 p33 p34 p35 p36 p37 = some r) : Fn Try.prog 150 [.int .i64 p0, .p 0 0, .p 1 0] [(0, some (.cells [.int .i64 p1, .int .i64 p2, .int .i64 p3, .int .i64 p4, .int .i64 p5, .int .i64 p6, .int .i64 p7, .int .i64 p8, .int .i64 p9, .int .i64 p10])), (1, some (.cells [.fn 116 [.p 2 0, .p 3 0, .p 4 0]])), (2, some (.cells [.int .i64 p11, .int .i64 p12, .int .i64 p13, .int .i64 p14, .int .i64 p15, .int .i64 p16, .int .i64 p17, .int .i64 p18, .int .i64 p19, .int .i64 p20, .int .i64 p21, .int .i64 p22, .int .i64 p23, .int .i64 p24, .int .i64 p25])), (3, some (.cells [.int .i64 p26, .int .i64 p27])), (4, some (.cells [.int .i64 p28, .int .i64 p29, .int .i64 p30, .int .i64 p31, .int .i64 p32, .int .i64 p33, .int .i64 p34, .int .i64 p35, .int .i64 p36, .int .i64 p37]))] (offer_laps_1_1.res p0 p1 p2 p3 p4 p5 p6 p7 p8 p9 p10 p11 p12 p13 p14 p15 p16 p17 p18 p19 p20 p21 p22 p23 p24 p25 p26 p27 p28 p29 p30 p31 p32 p33 p34 p35 p36 p37 r) (offer_laps_1_1.out p0 p1 p2 p3 p4 p5 p6 p7 p8 p9 p10 p11 p12 p13 p14 p15 p16 p17 p18 p19 p20 p21 p22 p23 p24 p25 p26 p27 p28 p29 p30 p31 p32 p33 p34 p35 p36 p37 r) := by
  refine Fn_of Try.func150 rfl (Nat.le_of_ble_eq_true rfl) fun Γ => ?_
  refine TC_seq ?_
  refine TC_reg ?_
  refine TL_ev env 1 rfl ⟨trivial, trivial⟩ ?_
  refine TL_end ?_
  refine TE_go ?_
  refine TC_seq ?_
  refine TC_reg ?_
  refine TL_ev env 3 rfl ⟨trivial, ⟨trivial, ⟨⟨trivial, trivial⟩, trivial⟩⟩⟩ ?_
  refine TL_end ?_
  refine TE_go ?_
  refine TC_seq ?_
  refine TC_reg ?_
  refine TL_ev env 2 rfl ⟨⟨trivial, trivial⟩, ⟨⟨trivial, trivial⟩, trivial⟩⟩ ?_
  obtain ⟨⟨r12, r13, r14, r15, r16, r17, r18, r19, r20, r21, r22⟩, hr, h0⟩ := bnd h0
  refine TL_callB [(0, 2), (1, 3), (2, 4)] (offer_Choose_1.ok0 hr) offer_Choose_1.fnb rfl ⟨trivial, ⟨trivial, trivial⟩⟩ rfl ⟨.inr rfl, .inr rfl, .inr rfl, trivial⟩ rfl ?_
  refine TL_ev env 1 rfl ⟨trivial, trivial⟩ ?_
  refine TL_end ?_
  refine TE_go ?_
  refine TC_ret ?_
  obtain rfl := sinj h0
  exact TE_ret env rfl trivial ⟨.inr rfl, .inr rfl, .inr rfl, .inr rfl, .inr rfl, trivial⟩
theorem offer_laps_1_1.ok0 {K : Nat} {p0 : Int} {p1 : Int} {p2 : Int} {p3 : Int} {p4 : Int} {p5 : Int} {p6 : Int} {p7 : Int} {p8 : Int} {p9 : Int} {p10 : Int} {p11 : Int} {p12 : Int} {p13 : Int} {p14 : Int} {p15 : Int} {p16 : Int} {p17 : Int} {p18 : Int} {p19 : Int} {p20 : Int} {p21 : Int} {p22 : Int} {p23 : Int} {p24 : Int} {p25 : Int} {p26 : Int} {p27 : Int} {p28 : Int} {p29 : Int} {p30 : Int} {p31 : Int} {p32 : Int} {p33 : Int} {p34 : Int} {p35 : Int} {p36 : Int} {p37 : Int} {q0 : Bool} {q1 : Int} {q2 : Int} {q3 : Int} {q4 : Int} {q5 : Int} {q6 : Int} {q7 : Int} {q8 : Int} {q9 : Int} {q10 : Int} (h0 : offer_laps_1_1 K p0 p1 p2 p3 p4 p5 p6 p7 p8 p9 p10 p11 p12 p13 p14 p15 p16 p17 p18 p19 p20 p21 p22 p23 p24 p25 p26 p27 p28 p29 p30 p31 p32 p33 p34 p35 p36 p37 = some (q0, q1, q2, q3, q4, q5, q6, q7, q8, q9, q10)) : Fn Try.prog 150 [.int .i64 p0, .p 0 0, .p 1 0] [(0, some (.cells [.int .i64 p1, .int .i64 p2, .int .i64 p3, .int .i64 p4, .int .i64 p5, .int .i64 p6, .int .i64 p7, .int .i64 p8, .int .i64 p9, .int .i64 p10])), (1, some (.cells [.fn 116 [.p 2 0, .p 3 0, .p 4 0]])), (2, some (.cells [.int .i64 p11, .int .i64 p12, .int .i64 p13, .int .i64 p14, .int .i64 p15, .int .i64 p16, .int .i64 p17, .int .i64 p18, .int .i64 p19, .int .i64 p20, .int .i64 p21, .int .i64 p22, .int .i64 p23, .int .i64 p24, .int .i64 p25])), (3, some (.cells [.int .i64 p26, .int .i64 p27])), (4, some (.cells [.int .i64 p28, .int .i64 p29, .int .i64 p30, .int .i64 p31, .int .i64 p32, .int .i64 p33, .int .i64 p34, .int .i64 p35, .int .i64 p36, .int .i64 p37]))] (.bool q0) [(0, some (.cells [.int .i64 p1, .int .i64 p2, .int .i64 p3, .int .i64 p4, .int .i64 p5, .int .i64 p6, .int .i64 p7, .int .i64 p8, .int .i64 p9, .int .i64 p0])), (1, some (.cells [.fn 116 [.p 2 0, .p 3 0, .p 4 0]])), (2, some (.cells [.int .i64 p11, .int .i64 p12, .int .i64 p13, .int .i64 p14, .int .i64 p15, .int .i64 p16, .int .i64 p17, .int .i64 p18, .int .i64 p19, .int .i64 p20, .int .i64 p21, .int .i64 p22, .int .i64 p23, .int .i64 p24, .int .i64 p25])), (3, some (.cells [.int .i64 p26, .int .i64 p27])), (4, some (.cells [.int .i64 q1, .int .i64 q2, .int .i64 q3, .int .i64 q4, .int .i64 q5, .int .i64 q6, .int .i64 q7, .int .i64 q8, .int .i64 q9, .int .i64 q10]))] := offer_laps_1_1.ok h0
theorem offer_laps_1_1.fnb : fnb Try.prog 150 = true := fnb_of Try.func150 rfl
def offer_down.res (_p0 : Int) (_p1 : Int) (_p2 : Int) (_p3 : Int) (_p4 : Int) (_p5 : Int) (_p6 : Int) (_p7 : Int) (_p8 : Int) (_p9 : Int) (_p10 : Int) (_p11 : Int) (_p12 : Int) (_p13 : Int) (_p14 : Int) (_p15 : Int) (_p16 : Int) (_p17 : Int) (_p18 : Int) (_p19 : Int) (_p20 : Int) (_p21 : Int) (_p22 : Int) (_p23 : Int) (_p24 : Int) (_p25 : Int) (_p26 : Int) (_p27 : Int) (_p28 : Int) (_p29 : Int) (_p30 : Int) (_p31 : Int) (_p32 : Int) (_p33 : Int) (_p34 : Int) (_p35 : Int) (_p36 : Int) (_p37 : Int) (_p38 : Int) : Bool × Int × Int × Int × Int × Int × Int × Int × Int × Int × Int × Int → MV
  | (q0, _, _, _, _, _, _, _, _, _, _, _) => .bool q0
def offer_down.out (_p0 : Int) (_p1 : Int) (p2 : Int) (p3 : Int) (p4 : Int) (p5 : Int) (p6 : Int) (p7 : Int) (p8 : Int) (p9 : Int) (p10 : Int) (_p11 : Int) (p12 : Int) (p13 : Int) (p14 : Int) (p15 : Int) (p16 : Int) (p17 : Int) (p18 : Int) (p19 : Int) (p20 : Int) (p21 : Int) (p22 : Int) (p23 : Int) (p24 : Int) (p25 : Int) (p26 : Int) (p27 : Int) (p28 : Int) (_p29 : Int) (_p30 : Int) (_p31 : Int) (_p32 : Int) (_p33 : Int) (_p34 : Int) (_p35 : Int) (_p36 : Int) (_p37 : Int) (_p38 : Int) : Bool × Int × Int × Int × Int × Int × Int × Int × Int × Int × Int × Int → List (Nat × Option MObj)
  | (_, q1, q2, q3, q4, q5, q6, q7, q8, q9, q10, q11) => [(0, some (.cells [.int .i64 p2, .int .i64 p3, .int .i64 p4, .int .i64 p5, .int .i64 p6, .int .i64 p7, .int .i64 p8, .int .i64 p9, .int .i64 p10, .int .i64 q1])), (1, some (.cells [.fn 116 [.p 2 0, .p 3 0, .p 4 0]])), (2, some (.cells [.int .i64 p12, .int .i64 p13, .int .i64 p14, .int .i64 p15, .int .i64 p16, .int .i64 p17, .int .i64 p18, .int .i64 p19, .int .i64 p20, .int .i64 p21, .int .i64 p22, .int .i64 p23, .int .i64 p24, .int .i64 p25, .int .i64 p26])), (3, some (.cells [.int .i64 p27, .int .i64 p28])), (4, some (.cells [.int .i64 q2, .int .i64 q3, .int .i64 q4, .int .i64 q5, .int .i64 q6, .int .i64 q7, .int .i64 q8, .int .i64 q9, .int .i64 q10, .int .i64 q11]))]
theorem offer_down.ok {K : Nat} {p0 : Int} {p1 : Int} {p2 : Int} {p3 : Int} {p4 : Int} {p5 : Int} {p6 : Int} {p7 : Int} {p8 : Int} {p9 : Int} {p10 : Int} {p11 : Int} {p12 : Int} {p13 : Int} {p14 : Int} {p15 : Int} {p16 : Int} {p17 : Int} {p18 : Int} {p19 : Int} {p20 : Int} {p21 : Int} {p22 : Int} {p23 : Int} {p24 : Int} {p25 : Int} {p26 : Int} {p27 : Int} {p28 : Int} {p29 : Int} {p30 : Int} {p31 : Int} {p32 : Int} {p33 : Int} {p34 : Int} {p35 : Int} {p36 : Int} {p37 : Int} {p38 : Int} {r : Bool × Int × Int × Int × Int × Int × Int × Int × Int × Int × Int × Int} (h0 : offer_down K p0 p1 p2 p3 p4 p5 p6 p7 p8 p9 p10 p11 p12 p13 p14 p15 p16 p17 p18 p19 p20 p21 p22 p23 p24 p25 p26 p27 p28 p29 p30 p31 p32 p33 p34 p35 p36 p37 p38 = some r) : Fn Try.prog 117 [.int .i64 p0, .int .i64 p1, .fn 150 [.p 0 0, .p 1 0]] [(0, some (.cells [.int .i64 p2, .int .i64 p3, .int .i64 p4, .int .i64 p5, .int .i64 p6, .int .i64 p7, .int .i64 p8, .int .i64 p9, .int .i64 p10, .int .i64 p11])), (1, some (.cells [.fn 116 [.p 2 0, .p 3 0, .p 4 0]])), (2, some (.cells [.int .i64 p12, .int .i64 p13, .int .i64 p14, .int .i64 p15, .int .i64 p16, .int .i64 p17, .int .i64 p18, .int .i64 p19, .int .i64 p20, .int .i64 p21, .int .i64 p22, .int .i64 p23, .int .i64 p24, .int .i64 p25, .int .i64 p26])), (3, some (.cells [.int .i64 p27, .int .i64 p28])), (4, some (.cells [.int .i64 p29, .int .i64 p30, .int .i64 p31, .int .i64 p32, .int .i64 p33, .int .i64 p34, .int .i64 p35, .int .i64 p36, .int .i64 p37, .int .i64 p38]))] (offer_down.res p0 p1 p2 p3 p4 p5 p6 p7 p8 p9 p10 p11 p12 p13 p14 p15 p16 p17 p18 p19 p20 p21 p22 p23 p24 p25 p26 p27 p28 p29 p30 p31 p32 p33 p34 p35 p36 p37 p38 r) (offer_down.out p0 p1 p2 p3 p4 p5 p6 p7 p8 p9 p10 p11 p12 p13 p14 p15 p16 p17 p18 p19 p20 p21 p22 p23 p24 p25 p26 p27 p28 p29 p30 p31 p32 p33 p34 p35 p36 p37 p38 r) := by
  refine Fn_of Try.func117 rfl (Nat.le_of_ble_eq_true rfl) fun Γ => ?_
  refine TC_seq ?_
  refine TC_reg ?_
  refine TL_ev env 1 rfl ⟨trivial, trivial⟩ ?_
  refine TL_end ?_
  refine TE_go ?_
  refine TC_seq ?_
  refine TC_seq ?_
  refine TC_reg ?_
  refine TL_ev env 2 rfl ⟨trivial, ⟨trivial, trivial⟩⟩ ?_
  refine TL_end ?_
  refine TE_go ?_
  obtain ⟨z1, h1, h0⟩ := bnd h0
  refine TC_cut (α := Int × Int × Int × Int × Int × Int × Int × Int × Int × Int × Int) (fun s => z1 = .inl s) (fun s => []) (fun s => [(0, some (.cells [.int .i64 p2, .int .i64 p3, .int .i64 p4, .int .i64 p5, .int .i64 p6, .int .i64 p7, .int .i64 p8, .int .i64 p9, .int .i64 p10, .int .i64 s.1])), (1, some (.cells [.fn 116 [.p 2 0, .p 3 0, .p 4 0]])), (2, some (.cells [.int .i64 p12, .int .i64 p13, .int .i64 p14, .int .i64 p15, .int .i64 p16, .int .i64 p17, .int .i64 p18, .int .i64 p19, .int .i64 p20, .int .i64 p21, .int .i64 p22, .int .i64 p23, .int .i64 p24, .int .i64 p25, .int .i64 p26])), (3, some (.cells [.int .i64 p27, .int .i64 p28])), (4, some (.cells [.int .i64 s.2.1, .int .i64 s.2.2.1, .int .i64 s.2.2.2.1, .int .i64 s.2.2.2.2.1, .int .i64 s.2.2.2.2.2.1, .int .i64 s.2.2.2.2.2.2.1, .int .i64 s.2.2.2.2.2.2.2.1, .int .i64 s.2.2.2.2.2.2.2.2.1, .int .i64 s.2.2.2.2.2.2.2.2.2.1, .int .i64 s.2.2.2.2.2.2.2.2.2.2]))]) ?_ ?_
  · refine TC_blk ?_
    refine TC_loop (α := Int × Int × Int × Int × Int × Int × Int × Int × Int × Int × Int × Int) (fun n s => offer_down.l0 K p1 p2 p3 p4 p5 p6 p7 p8 p9 p10 p12 p13 p14 p15 p16 p17 p18 p19 p20 p21 p22 p23 p24 p25 p26 p27 p28 n s.1 s.2.1 s.2.2.1 s.2.2.2.1 s.2.2.2.2.1 s.2.2.2.2.2.1 s.2.2.2.2.2.2.1 s.2.2.2.2.2.2.2.1 s.2.2.2.2.2.2.2.2.1 s.2.2.2.2.2.2.2.2.2.1 s.2.2.2.2.2.2.2.2.2.2.1 s.2.2.2.2.2.2.2.2.2.2.2 = some z1) (fun s => [(1, .int .i64 p1), (2, .fn 150 [.p 0 0, .p 1 0]), (7, .int .i64 s.1)]) (fun s => [(0, some (.cells [.int .i64 p2, .int .i64 p3, .int .i64 p4, .int .i64 p5, .int .i64 p6, .int .i64 p7, .int .i64 p8, .int .i64 p9, .int .i64 p10, .int .i64 s.2.1])), (1, some (.cells [.fn 116 [.p 2 0, .p 3 0, .p 4 0]])), (2, some (.cells [.int .i64 p12, .int .i64 p13, .int .i64 p14, .int .i64 p15, .int .i64 p16, .int .i64 p17, .int .i64 p18, .int .i64 p19, .int .i64 p20, .int .i64 p21, .int .i64 p22, .int .i64 p23, .int .i64 p24, .int .i64 p25, .int .i64 p26])), (3, some (.cells [.int .i64 p27, .int .i64 p28])), (4, some (.cells [.int .i64 s.2.2.1, .int .i64 s.2.2.2.1, .int .i64 s.2.2.2.2.1, .int .i64 s.2.2.2.2.2.1, .int .i64 s.2.2.2.2.2.2.1, .int .i64 s.2.2.2.2.2.2.2.1, .int .i64 s.2.2.2.2.2.2.2.2.1, .int .i64 s.2.2.2.2.2.2.2.2.2.1, .int .i64 s.2.2.2.2.2.2.2.2.2.2.1, .int .i64 s.2.2.2.2.2.2.2.2.2.2.2]))]) K ?_ ?_
    · exact SP_ren [] (_, _, _, _, _, _, _, _, _, _, _, _) h1 ⟨rfl, rfl, rfl, trivial⟩ ⟨rfl, rfl, rfl, rfl, rfl, trivial⟩ rfl
    rintro n ⟨x181, x182, x183, x184, x185, x186, x187, x188, x189, x190, x191, x192⟩ h1
    rcases n with _ | n
    · exact (nsome h1).elim
    replace h1 : offer_down.r0 K p1 p2 p3 p4 p5 p6 p7 p8 p9 p10 p12 p13 p14 p15 p16 p17 p18 p19 p20 p21 p22 p23 p24 p25 p26 p27 p28 (offer_down.l0 K p1 p2 p3 p4 p5 p6 p7 p8 p9 p10 p12 p13 p14 p15 p16 p17 p18 p19 p20 p21 p22 p23 p24 p25 p26 p27 p28 n) x181 x182 x183 x184 x185 x186 x187 x188 x189 x190 x191 x192 = some z1 := h1
    refine TC_seq ?_
    refine TC_seq ?_
    refine TC_reg ?_
    refine TL_ev env 3 rfl ⟨trivial, ⟨trivial, ⟨⟨trivial, ⟨trivial, trivial⟩⟩, trivial⟩⟩⟩ ?_
    refine TL_end ?_
    refine TE_go ?_
    refine TC_cond rfl (fun hb => ?_) (fun hb => ?_)
    · replace h1 := bif_t h1 hb
      refine TC_skip ?_
      refine TE_go ?_
      refine TC_seq ?_
      refine TC_blk ?_
      refine TC_seq ?_
      refine TC_reg ?_
      refine TL_ev env 2 rfl ⟨trivial, ⟨trivial, trivial⟩⟩ ?_
      obtain ⟨⟨r239, r240, r241, r242, r243, r244, r245, r246, r247, r248, r249⟩, hr, h1⟩ := bnd h1
      refine TL_callB [(0, 0), (1, 1), (2, 2), (3, 3), (4, 4)] (offer_laps_1_1.ok0 hr) offer_laps_1_1.fnb rfl ⟨trivial, ⟨trivial, trivial⟩⟩ rfl ⟨.inr rfl, .inr rfl, .inr rfl, .inr rfl, .inr rfl, trivial⟩ rfl ?_
      refine TL_end ?_
      refine TE_go ?_
      refine TC_cond rfl (fun hb => ?_) (fun hb => ?_)
      · replace h1 := bif_t h1 hb
        refine TC_seq ?_
        refine TC_reg ?_
        refine TL_ev env 1 rfl ⟨trivial, trivial⟩ ?_
        refine TL_end ?_
        refine TE_go ?_
        refine TC_ret ?_
        refine tbr ?_
        refine tsr ?_
        refine tsr ?_
        refine tbr ?_
        refine tsr ?_
        refine tsr ?_
        obtain rfl := sinj h1
        obtain rfl := sinj h0
        exact TE_ret env rfl trivial ⟨.inr rfl, .inr rfl, .inr rfl, .inr rfl, .inr rfl, trivial⟩
      · replace h1 := bif_f h1 hb
        refine TC_skip ?_
        refine tbn ?_
        refine TE_go ?_
        refine TC_reg ?_
        refine TL_ev env 3 rfl ⟨trivial, ⟨⟨trivial, ⟨trivial, trivial⟩⟩, ⟨trivial, trivial⟩⟩⟩ ?_
        refine TL_end ?_
        refine tsn ?_
        exact TE_nextr [] n (Nat.lt_succ_self n) (_, _, _, _, _, _, _, _, _, _, _, _) h1 ⟨rfl, rfl, rfl, trivial⟩ ⟨rfl, rfl, rfl, rfl, rfl, trivial⟩ rfl
    · replace h1 := bif_f h1 hb
      refine TC_exit ?_
      refine tsx ?_
      refine tsx ?_
      refine tbe ?_
      obtain rfl := sinj h1
      refine tsn ?_
      exact SP_ren [] (_, _, _, _, _, _, _, _, _, _, _) rfl trivial ⟨rfl, rfl, rfl, rfl, rfl, trivial⟩ rfl
  · rintro ⟨x148, x149, x150, x151, x152, x153, x154, x155, x156, x157, x158⟩ rfl
    refine TE_go ?_
    refine TC_seq ?_
    refine TC_reg ?_
    refine TL_ev env 1 rfl ⟨trivial, trivial⟩ ?_
    refine TL_end ?_
    refine TE_go ?_
    refine TC_ret ?_
    obtain rfl := sinj h0
    exact TE_ret env rfl trivial ⟨.inr rfl, .inr rfl, .inr rfl, .inr rfl, .inr rfl, trivial⟩
theorem offer_down.ok0 {K : Nat} {p0 : Int} {p1 : Int} {p2 : Int} {p3 : Int} {p4 : Int} {p5 : Int} {p6 : Int} {p7 : Int} {p8 : Int} {p9 : Int} {p10 : Int} {p11 : Int} {p12 : Int} {p13 : Int} {p14 : Int} {p15 : Int} {p16 : Int} {p17 : Int} {p18 : Int} {p19 : Int} {p20 : Int} {p21 : Int} {p22 : Int} {p23 : Int} {p24 : Int} {p25 : Int} {p26 : Int} {p27 : Int} {p28 : Int} {p29 : Int} {p30 : Int} {p31 : Int} {p32 : Int} {p33 : Int} {p34 : Int} {p35 : Int} {p36 : Int} {p37 : Int} {p38 : Int} {q0 : Bool} {q1 : Int} {q2 : Int} {q3 : Int} {q4 : Int} {q5 : Int} {q6 : Int} {q7 : Int} {q8 : Int} {q9 : Int} {q10 : Int} {q11 : Int} (h0 : offer_down K p0 p1 p2 p3 p4 p5 p6 p7 p8 p9 p10 p11 p12 p13 p14 p15 p16 p17 p18 p19 p20 p21 p22 p23 p24 p25 p26 p27 p28 p29 p30 p31 p32 p33 p34 p35 p36 p37 p38 = some (q0, q1, q2, q3, q4, q5, q6, q7, q8, q9, q10, q11)) : Fn Try.prog 117 [.int .i64 p0, .int .i64 p1, .fn 150 [.p 0 0, .p 1 0]] [(0, some (.cells [.int .i64 p2, .int .i64 p3, .int .i64 p4, .int .i64 p5, .int .i64 p6, .int .i64 p7, .int .i64 p8, .int .i64 p9, .int .i64 p10, .int .i64 p11])), (1, some (.cells [.fn 116 [.p 2 0, .p 3 0, .p 4 0]])), (2, some (.cells [.int .i64 p12, .int .i64 p13, .int .i64 p14, .int .i64 p15, .int .i64 p16, .int .i64 p17, .int .i64 p18, .int .i64 p19, .int .i64 p20, .int .i64 p21, .int .i64 p22, .int .i64 p23, .int .i64 p24, .int .i64 p25, .int .i64 p26])), (3, some (.cells [.int .i64 p27, .int .i64 p28])), (4, some (.cells [.int .i64 p29, .int .i64 p30, .int .i64 p31, .int .i64 p32, .int .i64 p33, .int .i64 p34, .int .i64 p35, .int .i64 p36, .int .i64 p37, .int .i64 p38]))] (.bool q0) [(0, some (.cells [.int .i64 p2, .int .i64 p3, .int .i64 p4, .int .i64 p5, .int .i64 p6, .int .i64 p7, .int .i64 p8, .int .i64 p9, .int .i64 p10, .int .i64 q1])), (1, some (.cells [.fn 116 [.p 2 0, .p 3 0, .p 4 0]])), (2, some (.cells [.int .i64 p12, .int .i64 p13, .int .i64 p14, .int .i64 p15, .int .i64 p16, .int .i64 p17, .int .i64 p18, .int .i64 p19, .int .i64 p20, .int .i64 p21, .int .i64 p22, .int .i64 p23, .int .i64 p24, .int .i64 p25, .int .i64 p26])), (3, some (.cells [.int .i64 p27, .int .i64 p28])), (4, some (.cells [.int .i64 q2, .int .i64 q3, .int .i64 q4, .int .i64 q5, .int .i64 q6, .int .i64 q7, .int .i64 q8, .int .i64 q9, .int .i64 q10, .int .i64 q11]))] := offer_down.ok h0
theorem offer_down.fnb : fnb Try.prog 117 = true := fnb_of Try.func117 rfl
def offer_laps_1.res (_p0 : Int) (_p1 : Int) (_p2 : Int) (_p3 : Int) (_p4 : Int) (_p5 : Int) (_p6 : Int) (_p7 : Int) (_p8 : Int) (_p9 : Int) (_p10 : Int) (_p11 : Int) (_p12 : Int) (_p13 : Int) (_p14 : Int) (_p15 : Int) (_p16 : Int) (_p17 : Int) (_p18 : Int) (_p19 : Int) (_p20 : Int) (_p21 : Int) (_p22 : Int) (_p23 : Int) (_p24 : Int) (_p25 : Int) (_p26 : Int) (_p27 : Int) (_p28 : Int) (_p29 : Int) (_p30 : Int) (_p31 : Int) (_p32 : Int) (_p33 : Int) (_p34 : Int) (_p35 : Int) (_p36 : Int) (_p37 : Int) (_p38 : Int) (_p39 : Int) (_p40 : Int) (_p41 : Int) (_p42 : Int) : Bool × Int × Int × Int × Int × Int × Int × Int × Int × Int × Int × Int × Int → MV
  | (q0, _, _, _, _, _, _, _, _, _, _, _, _) => .bool q0
def offer_laps_1.out (_p0 : Int) (p1 : Int) (p2 : Int) (p3 : Int) (p4 : Int) (p5 : Int) (p6 : Int) (p7 : Int) (p8 : Int) (_p9 : Int) (_p10 : Int) (p11 : Int) (p12 : Int) (p13 : Int) (p14 : Int) (p15 : Int) (p16 : Int) (p17 : Int) (p18 : Int) (p19 : Int) (p20 : Int) (p21 : Int) (p22 : Int) (p23 : Int) (p24 : Int) (p25 : Int) (p26 : Int) (p27 : Int) (p28 : Int) (p29 : Int) (p30 : Int) (p31 : Int) (p32 : Int) (_p33 : Int) (_p34 : Int) (_p35 : Int) (_p36 : Int) (_p37 : Int) (_p38 : Int) (_p39 : Int) (_p40 : Int) (_p41 : Int) (_p42 : Int) : Bool × Int × Int × Int × Int × Int × Int × Int × Int × Int × Int × Int × Int → List (Nat × Option MObj)
  | (_, q1, q2, q3, q4, q5, q6, q7, q8, q9, q10, q11, q12) => [(0, some (.cells [.int .i64 p1, .int .i64 p2, .int .i64 p3, .int .i64 p4, .int .i64 p5, .int .i64 p6, .int .i64 p7, .int .i64 p8, .int .i64 q1, .int .i64 q2])), (1, some (.cells [.int .i64 p11, .int .i64 p12, .int .i64 p13, .int .i64 p14, .int .i64 p15])), (2, some (.cells [.fn 116 [.p 3 0, .p 4 0, .p 5 0]])), (3, some (.cells [.int .i64 p16, .int .i64 p17, .int .i64 p18, .int .i64 p19, .int .i64 p20, .int .i64 p21, .int .i64 p22, .int .i64 p23, .int .i64 p24, .int .i64 p25, .int .i64 p26, .int .i64 p27, .int .i64 p28, .int .i64 p29, .int .i64 p30])), (4, some (.cells [.int .i64 p31, .int .i64 p32])), (5, some (.cells [.int .i64 q3, .int .i64 q4, .int .i64 q5, .int .i64 q6, .int .i64 q7, .int .i64 q8, .int .i64 q9, .int .i64 q10, .int .i64 q11, .int .i64 q12]))]
theorem offer_laps_1.ok {K : Nat} {p0 : Int} {p1 : Int} {p2 : Int} {p3 : Int} {p4 : Int} {p5 : Int} {p6 : Int} {p7 : Int} {p8 : Int} {p9 : Int} {p10 : Int} {p11 : Int} {p12 : Int} {p13 : Int} {p14 : Int} {p15 : Int} {p16 : Int} {p17 : Int} {p18 : Int} {p19 : Int} {p20 : Int} {p21 : Int} {p22 : Int} {p23 : Int} {p24 : Int} {p25 : Int} {p26 : Int} {p27 : Int} {p28 : Int} {p29 : Int} {p30 : Int} {p31 : Int} {p32 : Int} {p33 : Int} {p34 : Int} {p35 : Int} {p36 : Int} {p37 : Int} {p38 : Int} {p39 : Int} {p40 : Int} {p41 : Int} {p42 : Int} {r : Bool × Int × Int × Int × Int × Int × Int × Int × Int × Int × Int × Int × Int} (h0 : offer_laps_1 K p0 p1 p2 p3 p4 p5 p6 p7 p8 p9 p10 p11 p12 p13 p14 p15 p16 p17 p18 p19 p20 p21 p22 p23 p24 p25 p26 p27 p28 p29 p30 p31 p32 p33 p34 p35 p36 p37 p38 p39 p40 p41 p42 = some r) : Fn Try.prog 149 [.int .i64 p0, .p 0 0, .p 1 0, .p 2 0] [(0, some (.cells [.int .i64 p1, .int .i64 p2, .int .i64 p3, .int .i64 p4, .int .i64 p5, .int .i64 p6, .int .i64 p7, .int .i64 p8, .int .i64 p9, .int .i64 p10])), (1, some (.cells [.int .i64 p11, .int .i64 p12, .int .i64 p13, .int .i64 p14, .int .i64 p15])), (2, some (.cells [.fn 116 [.p 3 0, .p 4 0, .p 5 0]])), (3, some (.cells [.int .i64 p16, .int .i64 p17, .int .i64 p18, .int .i64 p19, .int .i64 p20, .int .i64 p21, .int .i64 p22, .int .i64 p23, .int .i64 p24, .int .i64 p25, .int .i64 p26, .int .i64 p27, .int .i64 p28, .int .i64 p29, .int .i64 p30])), (4, some (.cells [.int .i64 p31, .int .i64 p32])), (5, some (.cells [.int .i64 p33, .int .i64 p34, .int .i64 p35, .int .i64 p36, .int .i64 p37, .int .i64 p38, .int .i64 p39, .int .i64 p40, .int .i64 p41, .int .i64 p42]))] (offer_laps_1.res p0 p1 p2 p3 p4 p5 p6 p7 p8 p9 p10 p11 p12 p13 p14 p15 p16 p17 p18 p19 p20 p21 p22 p23 p24 p25 p26 p27 p28 p29 p30 p31 p32 p33 p34 p35 p36 p37 p38 p39 p40 p41 p42 r) (offer_laps_1.out p0 p1 p2 p3 p4 p5 p6 p7 p8 p9 p10 p11 p12 p13 p14 p15 p16 p17 p18 p19 p20 p21 p22 p23 p24 p25 p26 p27 p28 p29 p30 p31 p32 p33 p34 p35 p36 p37 p38 p39 p40 p41 p42 r) := by
  refine Fn_of Try.func149 rfl (Nat.le_of_ble_eq_true rfl) fun Γ => ?_
  refine TC_seq ?_
  refine TC_reg ?_
  refine TL_ev env 1 rfl ⟨trivial, trivial⟩ ?_
  refine TL_end ?_
  refine TE_go ?_
  refine TC_seq ?_
  refine TC_reg ?_
  obtain ⟨r14, hr, h0⟩ := bnd h0
  refine TL_callB [] (lapped_Lengths.ok0 hr) lapped_Lengths.fnb rfl ⟨trivial, trivial⟩ rfl trivial rfl ?_
  obtain ⟨g, h0⟩ := gd_t h0
  refine TL_ev env 5 rfl ⟨trivial, ⟨⟨trivial, ⟨trivial, ⟨g.1, g.2⟩⟩⟩, ⟨⟨trivial, trivial⟩, ⟨trivial, ⟨⟨trivial, trivial⟩, trivial⟩⟩⟩⟩⟩ ?_
  refine TL_end ?_
  refine TE_go ?_
  refine TC_seq ?_
  refine TC_reg ?_
  refine TL_ev env 5 rfl ⟨trivial, ⟨⟨trivial, trivial⟩, ⟨trivial, ⟨⟨trivial, trivial⟩, ⟨⟨trivial, ⟨trivial, trivial⟩⟩, trivial⟩⟩⟩⟩⟩ ?_
  obtain ⟨⟨r16, r17, r18, r19, r20, r21, r22, r23, r24, r25, r26, r27⟩, hr, h0⟩ := bnd h0
  refine TL_callB [(0, 0), (1, 2), (2, 3), (3, 4), (4, 5)] (offer_down.ok0 hr) offer_down.fnb rfl ⟨trivial, ⟨trivial, ⟨trivial, ⟨trivial, trivial⟩⟩⟩⟩ rfl ⟨.inr rfl, .inr rfl, .inr rfl, .inr rfl, .inr rfl, trivial⟩ rfl ?_
  refine TL_ev env 1 rfl ⟨trivial, trivial⟩ ?_
  refine TL_end ?_
  refine TE_go ?_
  refine TC_ret ?_
  obtain rfl := sinj h0
  exact TE_ret env rfl trivial ⟨.inr rfl, .inr rfl, .inr rfl, .inr rfl, .inr rfl, .inr rfl, trivial⟩
theorem offer_laps_1.ok0 {K : Nat} {p0 : Int} {p1 : Int} {p2 : Int} {p3 : Int} {p4 : Int} {p5 : Int} {p6 : Int} {p7 : Int} {p8 : Int} {p9 : Int} {p10 : Int} {p11 : Int} {p12 : Int} {p13 : Int} {p14 : Int} {p15 : Int} {p16 : Int} {p17 : Int} {p18 : Int} {p19 : Int} {p20 : Int} {p21 : Int} {p22 : Int} {p23 : Int} {p24 : Int} {p25 : Int} {p26 : Int} {p27 : Int} {p28 : Int} {p29 : Int} {p30 : Int} {p31 : Int} {p32 : Int} {p33 : Int} {p34 : Int} {p35 : Int} {p36 : Int} {p37 : Int} {p38 : Int} {p39 : Int} {p40 : Int} {p41 : Int} {p42 : Int} {q0 : Bool} {q1 : Int} {q2 : Int} {q3 : Int} {q4 : Int} {q5 : Int} {q6 : Int} {q7 : Int} {q8 : Int} {q9 : Int} {q10 : Int} {q11 : Int} {q12 : Int} (h0 : offer_laps_1 K p0 p1 p2 p3 p4 p5 p6 p7 p8 p9 p10 p11 p12 p13 p14 p15 p16 p17 p18 p19 p20 p21 p22 p23 p24 p25 p26 p27 p28 p29 p30 p31 p32 p33 p34 p35 p36 p37 p38 p39 p40 p41 p42 = some (q0, q1, q2, q3, q4, q5, q6, q7, q8, q9, q10, q11, q12)) : Fn Try.prog 149 [.int .i64 p0, .p 0 0, .p 1 0, .p 2 0] [(0, some (.cells [.int .i64 p1, .int .i64 p2, .int .i64 p3, .int .i64 p4, .int .i64 p5, .int .i64 p6, .int .i64 p7, .int .i64 p8, .int .i64 p9, .int .i64 p10])), (1, some (.cells [.int .i64 p11, .int .i64 p12, .int .i64 p13, .int .i64 p14, .int .i64 p15])), (2, some (.cells [.fn 116 [.p 3 0, .p 4 0, .p 5 0]])), (3, some (.cells [.int .i64 p16, .int .i64 p17, .int .i64 p18, .int .i64 p19, .int .i64 p20, .int .i64 p21, .int .i64 p22, .int .i64 p23, .int .i64 p24, .int .i64 p25, .int .i64 p26, .int .i64 p27, .int .i64 p28, .int .i64 p29, .int .i64 p30])), (4, some (.cells [.int .i64 p31, .int .i64 p32])), (5, some (.cells [.int .i64 p33, .int .i64 p34, .int .i64 p35, .int .i64 p36, .int .i64 p37, .int .i64 p38, .int .i64 p39, .int .i64 p40, .int .i64 p41, .int .i64 p42]))] (.bool q0) [(0, some (.cells [.int .i64 p1, .int .i64 p2, .int .i64 p3, .int .i64 p4, .int .i64 p5, .int .i64 p6, .int .i64 p7, .int .i64 p8, .int .i64 q1, .int .i64 q2])), (1, some (.cells [.int .i64 p11, .int .i64 p12, .int .i64 p13, .int .i64 p14, .int .i64 p15])), (2, some (.cells [.fn 116 [.p 3 0, .p 4 0, .p 5 0]])), (3, some (.cells [.int .i64 p16, .int .i64 p17, .int .i64 p18, .int .i64 p19, .int .i64 p20, .int .i64 p21, .int .i64 p22, .int .i64 p23, .int .i64 p24, .int .i64 p25, .int .i64 p26, .int .i64 p27, .int .i64 p28, .int .i64 p29, .int .i64 p30])), (4, some (.cells [.int .i64 p31, .int .i64 p32])), (5, some (.cells [.int .i64 q3, .int .i64 q4, .int .i64 q5, .int .i64 q6, .int .i64 q7, .int .i64 q8, .int .i64 q9, .int .i64 q10, .int .i64 q11, .int .i64 q12]))] := offer_laps_1.ok h0
theorem offer_laps_1.fnb : fnb Try.prog 149 = true := fnb_of Try.func149 rfl
end Go.Fo
