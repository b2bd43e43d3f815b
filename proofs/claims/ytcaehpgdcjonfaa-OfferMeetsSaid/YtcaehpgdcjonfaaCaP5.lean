/- Each call comes to the function that is written for it. -/
import Derived.Test.YtcaehpgdcjonfaaCaT
import Derived.Test.YtcaehpgdcjonfaaCaF
import Derived.Test.YtcaehpgdcjonfaaCaP0
import Derived.Test.YtcaehpgdcjonfaaCaP1
import Derived.Test.YtcaehpgdcjonfaaCaP2
import Derived.Test.YtcaehpgdcjonfaaCaP3
import Derived.Test.YtcaehpgdcjonfaaCaP4
namespace Go.Fo
open Go.Proofs
set_option maxRecDepth 20000
set_option maxHeartbeats 4000000
def psalteryref24_Meet.res (_p0 : Int) (_p1 : Int) (_p2 : Int) (_p3 : Int) (_p4 : Int) (_p5 : Int) (_p6 : Int) (_p7 : Int) (_p8 : Int) (_p9 : Int) (_p10 : Int) (_p11 : Int) (_p12 : Int) (_p13 : Int) (_p14 : Int) (_p15 : Int) (_p16 : Int) (_p17 : Int) (_p18 : Int) (_p19 : Int) (_p20 : Int) (_p21 : Int) (_p22 : Int) (_p23 : Int) (_p24 : Int) (_p25 : Int) (_p26 : Int) (_p27 : Int) (_p28 : Int) (_p29 : Int) : Int × Int × Int × Int × Int × Int × Int × Int × Int × Int × Int × Int × Int × Int × Int → MV
  | (q0, q1, q2, q3, q4, q5, q6, q7, q8, q9, q10, q11, q12, q13, q14) => .agg [.int .i64 q0, .int .i64 q1, .int .i64 q2, .int .i64 q3, .int .i64 q4, .int .i64 q5, .int .i64 q6, .int .i64 q7, .int .i64 q8, .int .i64 q9, .int .i64 q10, .int .i64 q11, .int .i64 q12, .int .i64 q13, .int .i64 q14]
def psalteryref24_Meet.out (_p0 : Int) (_p1 : Int) (_p2 : Int) (_p3 : Int) (_p4 : Int) (_p5 : Int) (_p6 : Int) (_p7 : Int) (_p8 : Int) (_p9 : Int) (_p10 : Int) (_p11 : Int) (_p12 : Int) (_p13 : Int) (_p14 : Int) (_p15 : Int) (_p16 : Int) (_p17 : Int) (_p18 : Int) (_p19 : Int) (_p20 : Int) (_p21 : Int) (_p22 : Int) (_p23 : Int) (_p24 : Int) (_p25 : Int) (_p26 : Int) (_p27 : Int) (_p28 : Int) (_p29 : Int) : Int × Int × Int × Int × Int × Int × Int × Int × Int × Int × Int × Int × Int × Int × Int → List (Nat × Option MObj)
  | (_, _, _, _, _, _, _, _, _, _, _, _, _, _, _) => []
theorem psalteryref24_Meet.ok {K : Nat} {p0 : Int} {p1 : Int} {p2 : Int} {p3 : Int} {p4 : Int} {p5 : Int} {p6 : Int} {p7 : Int} {p8 : Int} {p9 : Int} {p10 : Int} {p11 : Int} {p12 : Int} {p13 : Int} {p14 : Int} {p15 : Int} {p16 : Int} {p17 : Int} {p18 : Int} {p19 : Int} {p20 : Int} {p21 : Int} {p22 : Int} {p23 : Int} {p24 : Int} {p25 : Int} {p26 : Int} {p27 : Int} {p28 : Int} {p29 : Int} {r : Int × Int × Int × Int × Int × Int × Int × Int × Int × Int × Int × Int × Int × Int × Int} (h0 : psalteryref24_Meet K p0 p1 p2 p3 p4 p5 p6 p7 p8 p9 p10 p11 p12 p13 p14 p15 p16 p17 p18 p19 p20 p21 p22 p23 p24 p25 p26 p27 p28 p29 = some r) : Fn Try.prog 70 [.agg [.int .i64 p0, .int .i64 p1, .int .i64 p2, .int .i64 p3, .int .i64 p4, .int .i64 p5, .int .i64 p6, .int .i64 p7, .int .i64 p8, .int .i64 p9, .int .i64 p10, .int .i64 p11, .int .i64 p12, .int .i64 p13, .int .i64 p14], .agg [.int .i64 p15, .int .i64 p16, .int .i64 p17, .int .i64 p18, .int .i64 p19, .int .i64 p20, .int .i64 p21, .int .i64 p22, .int .i64 p23, .int .i64 p24, .int .i64 p25, .int .i64 p26, .int .i64 p27, .int .i64 p28, .int .i64 p29]] [] (psalteryref24_Meet.res p0 p1 p2 p3 p4 p5 p6 p7 p8 p9 p10 p11 p12 p13 p14 p15 p16 p17 p18 p19 p20 p21 p22 p23 p24 p25 p26 p27 p28 p29 r) (psalteryref24_Meet.out p0 p1 p2 p3 p4 p5 p6 p7 p8 p9 p10 p11 p12 p13 p14 p15 p16 p17 p18 p19 p20 p21 p22 p23 p24 p25 p26 p27 p28 p29 r) := by
  refine Fn_of Try.func70 rfl (Nat.le_of_ble_eq_true rfl) fun Γ => ?_
  refine TC_seq ?_
  refine TC_reg ?_
  refine TL_ev env 3 rfl ⟨trivial, ⟨trivial, ⟨trivial, trivial⟩⟩⟩ ?_
  refine TL_end ?_
  refine TE_go ?_
  refine TC_seq ?_
  refine TC_reg ?_
  refine TL_ev env 13 rfl ⟨trivial, ⟨⟨trivial, trivial⟩, ⟨trivial, ⟨⟨trivial, trivial⟩, ⟨⟨trivial, ⟨trivial, trivial⟩⟩, ⟨trivial, ⟨⟨trivial, trivial⟩, ⟨trivial, ⟨⟨trivial, trivial⟩, ⟨⟨trivial, ⟨trivial, trivial⟩⟩, ⟨⟨trivial, ⟨trivial, trivial⟩⟩, ⟨trivial, ⟨⟨trivial, trivial⟩, trivial⟩⟩⟩⟩⟩⟩⟩⟩⟩⟩⟩⟩⟩ ?_
  refine TL_end ?_
  refine TE_go ?_
  refine TC_seq ?_
  refine TC_renw (A' := [(2, .p 1002 0), (3, .p 1003 0), (4, .p 1004 0), (5, .p 1005 0)]) (L' := [(1002, some (.cells [.int .i64 _, .int .i64 _, .int .i64 _, .int .i64 _, .int .i64 _, .int .i64 _, .int .i64 _, .int .i64 _, .int .i64 _, .int .i64 _, .int .i64 _, .int .i64 _, .int .i64 _, .int .i64 _, .int .i64 _])), (1003, some (.cells [.int .i64 _, .int .i64 _, .int .i64 _, .int .i64 _, .int .i64 _, .int .i64 _, .int .i64 _, .int .i64 _, .int .i64 _, .int .i64 _, .int .i64 _, .int .i64 _, .int .i64 _, .int .i64 _, .int .i64 _])), (1004, some (.cells [.int .i64 0, .int .i64 0, .int .i64 0, .int .i64 0, .int .i64 0, .int .i64 0, .int .i64 0, .int .i64 0, .int .i64 0, .int .i64 0, .int .i64 0, .int .i64 0, .int .i64 0, .int .i64 0, .int .i64 0])), (1005, some (.cells [.int .i64 0, .int .i64 0, .int .i64 0, .int .i64 0, .int .i64 0, .int .i64 0, .int .i64 0, .int .i64 0, .int .i64 0, .int .i64 0, .int .i64 0, .int .i64 0, .int .i64 0, .int .i64 _, .int .i64 _]))]) [] ⟨rfl, rfl, rfl, rfl, trivial⟩ ⟨rfl, rfl, rfl, rfl, trivial⟩ rfl ?_
  refine TC_drawR ⟨_, fun i => ([[], [0], [1, 0], [], [3], [4, 3], [5, 4, 3, 2, 1, 0], [], [7], [8, 7], [], [10], [11, 10], [12, 11, 10, 9, 8, 7, 6, 5, 4, 3, 2, 1, 0], [], [14], [15, 14], [], [17], [18, 17], [19, 18, 17, 16, 15, 14, 13, 12, 11, 10, 9, 8, 7, 6, 5, 4, 3, 2, 1, 0], [], [21], [22, 21], [], [24], [25, 24], [26, 25, 24, 23, 22, 21, 20, 19, 18, 17, 16, 15, 14, 13, 12, 11, 10, 9, 8, 7, 6, 5, 4, 3, 2, 1, 0], [], [28], [29, 28], [], [31], [32, 31], [33, 32, 31, 30, 29, 28, 27, 26, 25, 24, 23, 22, 21, 20, 19, 18, 17, 16, 15, 14, 13, 12, 11, 10, 9, 8, 7, 6, 5, 4, 3, 2, 1, 0], [], [35], [36, 35], [], [38], [39, 38], [40, 39, 38, 37, 36, 35, 34, 33, 32, 31, 30, 29, 28, 27, 26, 25, 24, 23, 22, 21, 20, 19, 18, 17, 16, 15, 14, 13, 12, 11, 10, 9, 8, 7, 6, 5, 4, 3, 2, 1, 0], [], [42], [43, 42], [], [45], [46, 45], [47, 46, 45, 44, 43, 42], [], [49], [50, 49], [], [52], [53, 52], [54, 53, 52, 51, 50, 49], [55, 54, 53, 52, 51, 50, 49, 48, 47, 46, 45, 44, 43, 42, 41, 40, 39, 38, 37, 36, 35, 34, 33, 32, 31, 30, 29, 28, 27, 26, 25, 24, 23, 22, 21, 20, 19, 18, 17, 16, 15, 14, 13, 12, 11, 10, 9, 8, 7, 6, 5, 4, 3, 2, 1, 0], [], [57, 56, 55, 54, 53, 52, 51, 50, 49, 48, 47, 46, 45, 44, 43, 42, 41, 40, 39, 38, 37, 36, 35, 34, 33, 32, 31, 30, 29, 28, 27, 26, 25, 24, 23, 22, 21, 20, 19, 18, 17, 16, 15, 14, 13, 12, 11, 10, 9, 8, 7, 6, 5, 4, 3, 2, 1, 0]] : List (List Nat)).getD i [], fun i => ([[], [], [], [], [], [], [], [], [], [], [], [], [], [], [], [], [], [], [], [], [], [], [], [], [], [], [], [], [], [], [], [], [], [], [], [], [], [], [], [], [], [], [], [], [], [], [], [], [], [], [], [], [], [], [], [], [], [1006], [1006]] : List (List Nat)).getD i [], fun i => ([[], [], [], [], [], [], [], [], [], [], [], [], [], [], [], [], [], [], [], [], [], [], [], [], [], [], [], [], [], [], [], [], [], [], [], [], [], [], [], [], [], [], [], [], [], [], [], [], [], [], [], [], [], [], [], [], [], [1006], []] : List (List Nat)).getD i []⟩ (fun i => ([[1006], [1006], [1006], [1006], [1006], [1006], [1006], [1006], [1006], [1006], [1006], [1006], [1006], [1006], [1006], [1006], [1006], [1006], [1006], [1006], [1006], [1006], [1006], [1006], [1006], [1006], [1006], [1006], [1006], [1006], [1006], [1006], [1006], [1006], [1006], [1006], [1006], [1006], [1006], [1006], [1006], [1006], [1006], [1006], [1006], [1006], [1006], [1006], [1006], [1006], [1006], [1006], [1006], [1006], [1006], [1006], [1006], [], []] : List (List Nat)).getD i []) (by kernel_rfl) (by kernel_rfl) ?_
  refine AJR_ev env 1 rfl (Nat.le_of_ble_eq_true rfl) rfl trivial ?_
  refine AJR_ev env 2 rfl (Nat.le_of_ble_eq_true rfl) rfl trivial ?_
  refine AJR_ev env 3 rfl (Nat.le_of_ble_eq_true rfl) rfl ⟨trivial, trivial⟩ ?_
  refine AJR_ev env 4 rfl (Nat.le_of_ble_eq_true rfl) rfl trivial ?_
  refine AJR_ev env 5 rfl (Nat.le_of_ble_eq_true rfl) rfl trivial ?_
  refine AJR_ev env 6 rfl (Nat.le_of_ble_eq_true rfl) rfl ⟨trivial, trivial⟩ ?_
  obtain ⟨r25, hr, h0⟩ := bnd h0
  refine AJR_call 7 rfl (Nat.le_of_ble_eq_true rfl) [] rfl (psalteryref24_both.ok0 hr) psalteryref24_both.fnb rfl ⟨trivial, ⟨trivial, ⟨trivial, trivial⟩⟩⟩ rfl trivial rfl ?_
  refine AJR_ev env 8 rfl (Nat.le_of_ble_eq_true rfl) rfl trivial ?_
  refine AJR_ev env 9 rfl (Nat.le_of_ble_eq_true rfl) rfl trivial ?_
  refine AJR_ev env 10 rfl (Nat.le_of_ble_eq_true rfl) rfl ⟨trivial, trivial⟩ ?_
  refine AJR_ev env 11 rfl (Nat.le_of_ble_eq_true rfl) rfl trivial ?_
  refine AJR_ev env 12 rfl (Nat.le_of_ble_eq_true rfl) rfl trivial ?_
  refine AJR_ev env 13 rfl (Nat.le_of_ble_eq_true rfl) rfl ⟨trivial, trivial⟩ ?_
  obtain ⟨r26, hr, h0⟩ := bnd h0
  refine AJR_call 14 rfl (Nat.le_of_ble_eq_true rfl) [] rfl (psalteryref24_both.ok0 hr) psalteryref24_both.fnb rfl ⟨trivial, ⟨trivial, ⟨trivial, trivial⟩⟩⟩ rfl trivial rfl ?_
  refine AJR_ev env 15 rfl (Nat.le_of_ble_eq_true rfl) rfl trivial ?_
  refine AJR_ev env 16 rfl (Nat.le_of_ble_eq_true rfl) rfl trivial ?_
  refine AJR_ev env 17 rfl (Nat.le_of_ble_eq_true rfl) rfl ⟨trivial, trivial⟩ ?_
  refine AJR_ev env 18 rfl (Nat.le_of_ble_eq_true rfl) rfl trivial ?_
  refine AJR_ev env 19 rfl (Nat.le_of_ble_eq_true rfl) rfl trivial ?_
  refine AJR_ev env 20 rfl (Nat.le_of_ble_eq_true rfl) rfl ⟨trivial, trivial⟩ ?_
  obtain ⟨r27, hr, h0⟩ := bnd h0
  refine AJR_call 21 rfl (Nat.le_of_ble_eq_true rfl) [] rfl (psalteryref24_both.ok0 hr) psalteryref24_both.fnb rfl ⟨trivial, ⟨trivial, ⟨trivial, trivial⟩⟩⟩ rfl trivial rfl ?_
  refine AJR_ev env 22 rfl (Nat.le_of_ble_eq_true rfl) rfl trivial ?_
  refine AJR_ev env 23 rfl (Nat.le_of_ble_eq_true rfl) rfl trivial ?_
  refine AJR_ev env 24 rfl (Nat.le_of_ble_eq_true rfl) rfl ⟨trivial, trivial⟩ ?_
  refine AJR_ev env 25 rfl (Nat.le_of_ble_eq_true rfl) rfl trivial ?_
  refine AJR_ev env 26 rfl (Nat.le_of_ble_eq_true rfl) rfl trivial ?_
  refine AJR_ev env 27 rfl (Nat.le_of_ble_eq_true rfl) rfl ⟨trivial, trivial⟩ ?_
  obtain ⟨r28, hr, h0⟩ := bnd h0
  refine AJR_call 28 rfl (Nat.le_of_ble_eq_true rfl) [] rfl (psalteryref24_both.ok0 hr) psalteryref24_both.fnb rfl ⟨trivial, ⟨trivial, ⟨trivial, trivial⟩⟩⟩ rfl trivial rfl ?_
  refine AJR_ev env 29 rfl (Nat.le_of_ble_eq_true rfl) rfl trivial ?_
  refine AJR_ev env 30 rfl (Nat.le_of_ble_eq_true rfl) rfl trivial ?_
  refine AJR_ev env 31 rfl (Nat.le_of_ble_eq_true rfl) rfl ⟨trivial, trivial⟩ ?_
  refine AJR_ev env 32 rfl (Nat.le_of_ble_eq_true rfl) rfl trivial ?_
  refine AJR_ev env 33 rfl (Nat.le_of_ble_eq_true rfl) rfl trivial ?_
  refine AJR_ev env 34 rfl (Nat.le_of_ble_eq_true rfl) rfl ⟨trivial, trivial⟩ ?_
  obtain ⟨r29, hr, h0⟩ := bnd h0
  refine AJR_call 35 rfl (Nat.le_of_ble_eq_true rfl) [] rfl (psalteryref24_both.ok0 hr) psalteryref24_both.fnb rfl ⟨trivial, ⟨trivial, ⟨trivial, trivial⟩⟩⟩ rfl trivial rfl ?_
  refine AJR_ev env 36 rfl (Nat.le_of_ble_eq_true rfl) rfl trivial ?_
  refine AJR_ev env 37 rfl (Nat.le_of_ble_eq_true rfl) rfl trivial ?_
  refine AJR_ev env 38 rfl (Nat.le_of_ble_eq_true rfl) rfl ⟨trivial, trivial⟩ ?_
  refine AJR_ev env 39 rfl (Nat.le_of_ble_eq_true rfl) rfl trivial ?_
  refine AJR_ev env 40 rfl (Nat.le_of_ble_eq_true rfl) rfl trivial ?_
  refine AJR_ev env 41 rfl (Nat.le_of_ble_eq_true rfl) rfl ⟨trivial, trivial⟩ ?_
  obtain ⟨r30, hr, h0⟩ := bnd h0
  refine AJR_call 42 rfl (Nat.le_of_ble_eq_true rfl) [] rfl (psalteryref24_both.ok0 hr) psalteryref24_both.fnb rfl ⟨trivial, ⟨trivial, ⟨trivial, trivial⟩⟩⟩ rfl trivial rfl ?_
  refine AJR_ev env 43 rfl (Nat.le_of_ble_eq_true rfl) rfl trivial ?_
  refine AJR_ev env 44 rfl (Nat.le_of_ble_eq_true rfl) rfl trivial ?_
  refine AJR_ev env 45 rfl (Nat.le_of_ble_eq_true rfl) rfl ⟨trivial, trivial⟩ ?_
  refine AJR_ev env 46 rfl (Nat.le_of_ble_eq_true rfl) rfl trivial ?_
  refine AJR_ev env 47 rfl (Nat.le_of_ble_eq_true rfl) rfl trivial ?_
  refine AJR_ev env 48 rfl (Nat.le_of_ble_eq_true rfl) rfl ⟨trivial, trivial⟩ ?_
  refine AJR_ev env 49 rfl (Nat.le_of_ble_eq_true rfl) rfl ⟨trivial, ⟨trivial, trivial⟩⟩ ?_
  refine AJR_ev env 50 rfl (Nat.le_of_ble_eq_true rfl) rfl trivial ?_
  refine AJR_ev env 51 rfl (Nat.le_of_ble_eq_true rfl) rfl trivial ?_
  refine AJR_ev env 52 rfl (Nat.le_of_ble_eq_true rfl) rfl ⟨trivial, trivial⟩ ?_
  refine AJR_ev env 53 rfl (Nat.le_of_ble_eq_true rfl) rfl trivial ?_
  refine AJR_ev env 54 rfl (Nat.le_of_ble_eq_true rfl) rfl trivial ?_
  refine AJR_ev env 55 rfl (Nat.le_of_ble_eq_true rfl) rfl ⟨trivial, trivial⟩ ?_
  refine AJR_ev env 56 rfl (Nat.le_of_ble_eq_true rfl) rfl ⟨trivial, ⟨trivial, trivial⟩⟩ ?_
  refine AJR_ev env 57 rfl (Nat.le_of_ble_eq_true rfl) rfl ⟨trivial, ⟨trivial, ⟨trivial, ⟨trivial, ⟨trivial, ⟨trivial, ⟨trivial, ⟨trivial, trivial⟩⟩⟩⟩⟩⟩⟩⟩ ?_
  refine AJR_ev env 58 rfl (Nat.le_of_ble_eq_true rfl) rfl trivial ?_
  refine AJR_ev env 59 rfl (Nat.le_of_ble_eq_true rfl) rfl ⟨trivial, trivial⟩ ?_
  refine AJR_end rfl rfl rfl ?_
  refine TE_go ?_
  refine TC_seq ?_
  refine TC_seq ?_
  refine TC_reg ?_
  refine TL_ev env 35 rfl ⟨trivial, ⟨⟨trivial, trivial⟩, ⟨⟨trivial, ⟨trivial, trivial⟩⟩, ⟨trivial, ⟨fun eg => trivial, ⟨fun eg => ⟨fun e => e, trivial⟩, ⟨fun eg => ⟨fun e => e, ⟨trivial, trivial⟩⟩, ⟨⟨trivial, ⟨fun e => e, trivial⟩⟩, ⟨trivial, ⟨fun eg => trivial, ⟨fun eg => ⟨fun e => e, trivial⟩, ⟨fun eg => ⟨fun e => e, ⟨trivial, trivial⟩⟩, ⟨⟨trivial, ⟨fun e => e, trivial⟩⟩, ⟨trivial, ⟨fun eg => trivial, ⟨fun eg => ⟨fun e => e, trivial⟩, ⟨fun eg => ⟨fun e => e, ⟨trivial, trivial⟩⟩, ⟨⟨trivial, ⟨fun e => e, trivial⟩⟩, ⟨trivial, ⟨fun eg => trivial, ⟨fun eg => ⟨fun e => e, trivial⟩, ⟨fun eg => ⟨fun e => e, ⟨trivial, trivial⟩⟩, ⟨⟨trivial, ⟨fun e => e, trivial⟩⟩, ⟨trivial, ⟨fun eg => trivial, ⟨fun eg => ⟨fun e => e, trivial⟩, ⟨fun eg => ⟨fun e => e, ⟨trivial, trivial⟩⟩, ⟨⟨trivial, ⟨fun e => e, trivial⟩⟩, ⟨trivial, ⟨fun eg => trivial, ⟨fun eg => ⟨fun e => e, trivial⟩, ⟨fun eg => trivial, ⟨fun eg => ⟨fun e => e, trivial⟩, ⟨fun eg => ⟨fun e => e, ⟨fun e => e, trivial⟩⟩, ⟨⟨trivial, ⟨fun e => e, trivial⟩⟩, trivial⟩⟩⟩⟩⟩⟩⟩⟩⟩⟩⟩⟩⟩⟩⟩⟩⟩⟩⟩⟩⟩⟩⟩⟩⟩⟩⟩⟩⟩⟩⟩⟩⟩⟩⟩ ?_
  refine TL_end ?_
  refine TE_go ?_
  obtain ⟨z1, h1, h0⟩ := bnd h0
  refine TC_cut (α := Int × Int × Int × Int × Int × Int × Int × Int) (fun s => z1 = s) (fun s => [(2, .p 10300 0), (3, .p 10301 0), (4, .p 10302 0), (5, .p 10303 0)]) (fun s => [(10300, some (.cells [.int .i64 p0, .int .i64 p1, .int .i64 p2, .int .i64 p3, .int .i64 p4, .int .i64 p5, .int .i64 p6, .int .i64 p7, .int .i64 p8, .int .i64 p9, .int .i64 p10, .int .i64 p11, .int .i64 p12, .int .i64 p13, .int .i64 p14])), (10301, some (.cells [.int .i64 p15, .int .i64 p16, .int .i64 p17, .int .i64 p18, .int .i64 p19, .int .i64 p20, .int .i64 p21, .int .i64 p22, .int .i64 p23, .int .i64 p24, .int .i64 p25, .int .i64 p26, .int .i64 p27, .int .i64 p28, .int .i64 p29])), (10302, some (.cells [.int .i64 0, .int .i64 0, .int .i64 0, .int .i64 0, .int .i64 0, .int .i64 0, .int .i64 0, .int .i64 0, .int .i64 0, .int .i64 0, .int .i64 0, .int .i64 0, .int .i64 0, .int .i64 0, .int .i64 0])), (10303, some (.cells [.int .i64 s.1, .int .i64 s.2.1, .int .i64 s.2.2.1, .int .i64 s.2.2.2.1, .int .i64 s.2.2.2.2.1, .int .i64 s.2.2.2.2.2.1, .int .i64 s.2.2.2.2.2.2.1, .int .i64 s.2.2.2.2.2.2.2, .int .i64 0, .int .i64 0, .int .i64 0, .int .i64 0, .int .i64 0, .int .i64 (imin p13 p28), .int .i64 (imin p14 p29)]))]) ?_ ?_
  · refine TC_cond rfl (fun hb => ?_) (fun hb => ?_)
    · replace h1 := bif_t h1 hb
      refine TC_reg ?_
      refine TL_ev env 3 rfl ⟨⟨trivial, trivial⟩, ⟨trivial, ⟨⟨trivial, trivial⟩, trivial⟩⟩⟩ ?_
      refine TL_end ?_
      obtain rfl := sinj h1
      refine tsn ?_
      exact SP_ren [(10300, 1002), (10301, 1003), (10302, 1004), (10303, 1005)] (_, _, _, _, _, _, _, _) rfl ⟨rfl, rfl, rfl, rfl, trivial⟩ ⟨rfl, rfl, rfl, rfl, trivial⟩ rfl
    · replace h1 := bif_f h1 hb
      refine TC_skip ?_
      obtain rfl := sinj h1
      refine tsn ?_
      exact SP_ren [(10300, 1002), (10301, 1003), (10302, 1004), (10303, 1005)] (_, _, _, _, _, _, _, _) rfl ⟨rfl, rfl, rfl, rfl, trivial⟩ ⟨rfl, rfl, rfl, rfl, trivial⟩ rfl
  · rintro ⟨x44, x45, x46, x47, x48, x49, x50, x51⟩ rfl
    refine TE_go ?_
    refine TC_seq ?_
    refine TC_renw (A' := [(2, .p 10300 0), (3, .p 10301 0), (4, .p 10302 0), (5, .p 10303 0)]) (L' := [(10300, some (.cells [.int .i64 _, .int .i64 _, .int .i64 _, .int .i64 _, .int .i64 _, .int .i64 _, .int .i64 _, .int .i64 _, .int .i64 _, .int .i64 _, .int .i64 _, .int .i64 _, .int .i64 _, .int .i64 _, .int .i64 _])), (10301, some (.cells [.int .i64 _, .int .i64 _, .int .i64 _, .int .i64 _, .int .i64 _, .int .i64 _, .int .i64 _, .int .i64 _, .int .i64 _, .int .i64 _, .int .i64 _, .int .i64 _, .int .i64 _, .int .i64 _, .int .i64 _])), (10302, some (.cells [.int .i64 0, .int .i64 0, .int .i64 0, .int .i64 0, .int .i64 0, .int .i64 0, .int .i64 0, .int .i64 0, .int .i64 0, .int .i64 0, .int .i64 0, .int .i64 0, .int .i64 0, .int .i64 0, .int .i64 0])), (10303, some (.cells [.int .i64 _, .int .i64 _, .int .i64 _, .int .i64 _, .int .i64 _, .int .i64 _, .int .i64 _, .int .i64 _, .int .i64 0, .int .i64 0, .int .i64 0, .int .i64 0, .int .i64 0, .int .i64 _, .int .i64 _]))]) [] ⟨rfl, rfl, rfl, rfl, trivial⟩ ⟨rfl, rfl, rfl, rfl, trivial⟩ rfl ?_
    refine TC_drawR ⟨_, fun i => ([[], [0], [1, 0], [], [3], [4, 3], [5, 4, 3, 2, 1, 0], [], [7], [8, 7], [], [10], [11, 10], [12, 11, 10, 9, 8, 7, 6, 5, 4, 3, 2, 1, 0], [], [14], [15, 14], [], [17], [18, 17], [19, 18, 17, 16, 15, 14, 13, 12, 11, 10, 9, 8, 7, 6, 5, 4, 3, 2, 1, 0], [], [21], [22, 21], [], [24], [25, 24], [26, 25, 24, 23, 22, 21], [], [28], [29, 28], [], [31], [32, 31], [33, 32, 31, 30, 29, 28], [34, 33, 32, 31, 30, 29, 28, 27, 26, 25, 24, 23, 22, 21, 20, 19, 18, 17, 16, 15, 14, 13, 12, 11, 10, 9, 8, 7, 6, 5, 4, 3, 2, 1, 0], [], [36, 35, 34, 33, 32, 31, 30, 29, 28, 27, 26, 25, 24, 23, 22, 21, 20, 19, 18, 17, 16, 15, 14, 13, 12, 11, 10, 9, 8, 7, 6, 5, 4, 3, 2, 1, 0]] : List (List Nat)).getD i [], fun i => ([[], [], [], [], [], [], [], [], [], [], [], [], [], [], [], [], [], [], [], [], [], [], [], [], [], [], [], [], [], [], [], [], [], [], [], [], [1007], [1007]] : List (List Nat)).getD i [], fun i => ([[], [], [], [], [], [], [], [], [], [], [], [], [], [], [], [], [], [], [], [], [], [], [], [], [], [], [], [], [], [], [], [], [], [], [], [], [1007], []] : List (List Nat)).getD i []⟩ (fun i => ([[1007], [1007], [1007], [1007], [1007], [1007], [1007], [1007], [1007], [1007], [1007], [1007], [1007], [1007], [1007], [1007], [1007], [1007], [1007], [1007], [1007], [1007], [1007], [1007], [1007], [1007], [1007], [1007], [1007], [1007], [1007], [1007], [1007], [1007], [1007], [1007], [], []] : List (List Nat)).getD i []) (by kernel_rfl) (by kernel_rfl) ?_
    refine AJR_ev env 1 rfl (Nat.le_of_ble_eq_true rfl) rfl trivial ?_
    refine AJR_ev env 2 rfl (Nat.le_of_ble_eq_true rfl) rfl trivial ?_
    refine AJR_ev env 3 rfl (Nat.le_of_ble_eq_true rfl) rfl ⟨trivial, trivial⟩ ?_
    refine AJR_ev env 4 rfl (Nat.le_of_ble_eq_true rfl) rfl trivial ?_
    refine AJR_ev env 5 rfl (Nat.le_of_ble_eq_true rfl) rfl trivial ?_
    refine AJR_ev env 6 rfl (Nat.le_of_ble_eq_true rfl) rfl ⟨trivial, trivial⟩ ?_
    obtain ⟨r52, hr, h0⟩ := bnd h0
    refine AJR_call 7 rfl (Nat.le_of_ble_eq_true rfl) [] rfl (psalteryref24_both.ok0 hr) psalteryref24_both.fnb rfl ⟨trivial, ⟨trivial, ⟨trivial, trivial⟩⟩⟩ rfl trivial rfl ?_
    refine AJR_ev env 8 rfl (Nat.le_of_ble_eq_true rfl) rfl trivial ?_
    refine AJR_ev env 9 rfl (Nat.le_of_ble_eq_true rfl) rfl trivial ?_
    refine AJR_ev env 10 rfl (Nat.le_of_ble_eq_true rfl) rfl ⟨trivial, trivial⟩ ?_
    refine AJR_ev env 11 rfl (Nat.le_of_ble_eq_true rfl) rfl trivial ?_
    refine AJR_ev env 12 rfl (Nat.le_of_ble_eq_true rfl) rfl trivial ?_
    refine AJR_ev env 13 rfl (Nat.le_of_ble_eq_true rfl) rfl ⟨trivial, trivial⟩ ?_
    obtain ⟨r53, hr, h0⟩ := bnd h0
    refine AJR_call 14 rfl (Nat.le_of_ble_eq_true rfl) [] rfl (psalteryref24_both.ok0 hr) psalteryref24_both.fnb rfl ⟨trivial, ⟨trivial, ⟨trivial, trivial⟩⟩⟩ rfl trivial rfl ?_
    refine AJR_ev env 15 rfl (Nat.le_of_ble_eq_true rfl) rfl trivial ?_
    refine AJR_ev env 16 rfl (Nat.le_of_ble_eq_true rfl) rfl trivial ?_
    refine AJR_ev env 17 rfl (Nat.le_of_ble_eq_true rfl) rfl ⟨trivial, trivial⟩ ?_
    refine AJR_ev env 18 rfl (Nat.le_of_ble_eq_true rfl) rfl trivial ?_
    refine AJR_ev env 19 rfl (Nat.le_of_ble_eq_true rfl) rfl trivial ?_
    refine AJR_ev env 20 rfl (Nat.le_of_ble_eq_true rfl) rfl ⟨trivial, trivial⟩ ?_
    obtain ⟨r54, hr, h0⟩ := bnd h0
    refine AJR_call 21 rfl (Nat.le_of_ble_eq_true rfl) [] rfl (psalteryref24_both.ok0 hr) psalteryref24_both.fnb rfl ⟨trivial, ⟨trivial, ⟨trivial, trivial⟩⟩⟩ rfl trivial rfl ?_
    refine AJR_ev env 22 rfl (Nat.le_of_ble_eq_true rfl) rfl trivial ?_
    refine AJR_ev env 23 rfl (Nat.le_of_ble_eq_true rfl) rfl trivial ?_
    refine AJR_ev env 24 rfl (Nat.le_of_ble_eq_true rfl) rfl ⟨trivial, trivial⟩ ?_
    refine AJR_ev env 25 rfl (Nat.le_of_ble_eq_true rfl) rfl trivial ?_
    refine AJR_ev env 26 rfl (Nat.le_of_ble_eq_true rfl) rfl trivial ?_
    refine AJR_ev env 27 rfl (Nat.le_of_ble_eq_true rfl) rfl ⟨trivial, trivial⟩ ?_
    refine AJR_ev env 28 rfl (Nat.le_of_ble_eq_true rfl) rfl ⟨trivial, ⟨trivial, trivial⟩⟩ ?_
    refine AJR_ev env 29 rfl (Nat.le_of_ble_eq_true rfl) rfl trivial ?_
    refine AJR_ev env 30 rfl (Nat.le_of_ble_eq_true rfl) rfl trivial ?_
    refine AJR_ev env 31 rfl (Nat.le_of_ble_eq_true rfl) rfl ⟨trivial, trivial⟩ ?_
    refine AJR_ev env 32 rfl (Nat.le_of_ble_eq_true rfl) rfl trivial ?_
    refine AJR_ev env 33 rfl (Nat.le_of_ble_eq_true rfl) rfl trivial ?_
    refine AJR_ev env 34 rfl (Nat.le_of_ble_eq_true rfl) rfl ⟨trivial, trivial⟩ ?_
    refine AJR_ev env 35 rfl (Nat.le_of_ble_eq_true rfl) rfl ⟨trivial, ⟨trivial, trivial⟩⟩ ?_
    refine AJR_ev env 36 rfl (Nat.le_of_ble_eq_true rfl) rfl ⟨trivial, ⟨trivial, ⟨trivial, ⟨trivial, ⟨trivial, trivial⟩⟩⟩⟩⟩ ?_
    refine AJR_ev env 37 rfl (Nat.le_of_ble_eq_true rfl) rfl trivial ?_
    refine AJR_ev env 38 rfl (Nat.le_of_ble_eq_true rfl) rfl ⟨trivial, trivial⟩ ?_
    refine AJR_end rfl rfl rfl ?_
    refine TE_go ?_
    refine TC_seq ?_
    refine TC_seq ?_
    refine TC_reg ?_
    refine TL_ev env 20 rfl ⟨trivial, ⟨⟨trivial, trivial⟩, ⟨⟨trivial, ⟨trivial, trivial⟩⟩, ⟨trivial, ⟨fun eg => trivial, ⟨fun eg => ⟨fun e => e, trivial⟩, ⟨fun eg => ⟨fun e => e, ⟨trivial, trivial⟩⟩, ⟨⟨trivial, ⟨fun e => e, trivial⟩⟩, ⟨trivial, ⟨fun eg => trivial, ⟨fun eg => ⟨fun e => e, trivial⟩, ⟨fun eg => ⟨fun e => e, ⟨trivial, trivial⟩⟩, ⟨⟨trivial, ⟨fun e => e, trivial⟩⟩, ⟨trivial, ⟨fun eg => trivial, ⟨fun eg => ⟨fun e => e, trivial⟩, ⟨fun eg => trivial, ⟨fun eg => ⟨fun e => e, trivial⟩, ⟨fun eg => ⟨fun e => e, ⟨fun e => e, trivial⟩⟩, ⟨⟨trivial, ⟨fun e => e, trivial⟩⟩, trivial⟩⟩⟩⟩⟩⟩⟩⟩⟩⟩⟩⟩⟩⟩⟩⟩⟩⟩⟩⟩ ?_
    refine TL_end ?_
    refine TE_go ?_
    obtain ⟨z1, h1, h0⟩ := bnd h0
    refine TC_cut (α := Int × Int × Int × Int × Int) (fun s => z1 = s) (fun s => [(4, .p 10400 0), (5, .p 10401 0)]) (fun s => [(10400, some (.cells [.int .i64 0, .int .i64 0, .int .i64 0, .int .i64 0, .int .i64 0, .int .i64 0, .int .i64 0, .int .i64 0, .int .i64 0, .int .i64 0, .int .i64 0, .int .i64 0, .int .i64 0, .int .i64 0, .int .i64 0])), (10401, some (.cells [.int .i64 x44, .int .i64 x45, .int .i64 x46, .int .i64 x47, .int .i64 x48, .int .i64 x49, .int .i64 x50, .int .i64 x51, .int .i64 s.1, .int .i64 s.2.1, .int .i64 s.2.2.1, .int .i64 s.2.2.2.1, .int .i64 s.2.2.2.2, .int .i64 (imin p13 p28), .int .i64 (imin p14 p29)]))]) ?_ ?_
    · refine TC_cond rfl (fun hb => ?_) (fun hb => ?_)
      · replace h1 := bif_t h1 hb
        refine TC_reg ?_
        refine TL_ev env 3 rfl ⟨⟨trivial, trivial⟩, ⟨trivial, ⟨⟨trivial, trivial⟩, trivial⟩⟩⟩ ?_
        refine TL_end ?_
        obtain rfl := sinj h1
        refine tsn ?_
        exact SP_ren [(10400, 10302), (10401, 10303)] (_, _, _, _, _) rfl ⟨rfl, rfl, trivial⟩ ⟨rfl, rfl, trivial⟩ rfl
      · replace h1 := bif_f h1 hb
        refine TC_skip ?_
        obtain rfl := sinj h1
        refine tsn ?_
        exact SP_ren [(10400, 10302), (10401, 10303)] (_, _, _, _, _) rfl ⟨rfl, rfl, trivial⟩ ⟨rfl, rfl, trivial⟩ rfl
    · rintro ⟨x64, x65, x66, x67, x68⟩ rfl
      refine TE_go ?_
      refine TC_seq ?_
      refine TC_reg ?_
      refine TL_ev env 2 rfl ⟨⟨trivial, trivial⟩, ⟨⟨trivial, trivial⟩, trivial⟩⟩ ?_
      refine TL_end ?_
      refine TE_go ?_
      refine TC_ret ?_
      obtain rfl := sinj h0
      exact TE_ret env rfl ⟨trivial, trivial⟩ trivial
theorem psalteryref24_Meet.ok0 {K : Nat} {p0 : Int} {p1 : Int} {p2 : Int} {p3 : Int} {p4 : Int} {p5 : Int} {p6 : Int} {p7 : Int} {p8 : Int} {p9 : Int} {p10 : Int} {p11 : Int} {p12 : Int} {p13 : Int} {p14 : Int} {p15 : Int} {p16 : Int} {p17 : Int} {p18 : Int} {p19 : Int} {p20 : Int} {p21 : Int} {p22 : Int} {p23 : Int} {p24 : Int} {p25 : Int} {p26 : Int} {p27 : Int} {p28 : Int} {p29 : Int} {q0 : Int} {q1 : Int} {q2 : Int} {q3 : Int} {q4 : Int} {q5 : Int} {q6 : Int} {q7 : Int} {q8 : Int} {q9 : Int} {q10 : Int} {q11 : Int} {q12 : Int} {q13 : Int} {q14 : Int} (h0 : psalteryref24_Meet K p0 p1 p2 p3 p4 p5 p6 p7 p8 p9 p10 p11 p12 p13 p14 p15 p16 p17 p18 p19 p20 p21 p22 p23 p24 p25 p26 p27 p28 p29 = some (q0, q1, q2, q3, q4, q5, q6, q7, q8, q9, q10, q11, q12, q13, q14)) : Fn Try.prog 70 [.agg [.int .i64 p0, .int .i64 p1, .int .i64 p2, .int .i64 p3, .int .i64 p4, .int .i64 p5, .int .i64 p6, .int .i64 p7, .int .i64 p8, .int .i64 p9, .int .i64 p10, .int .i64 p11, .int .i64 p12, .int .i64 p13, .int .i64 p14], .agg [.int .i64 p15, .int .i64 p16, .int .i64 p17, .int .i64 p18, .int .i64 p19, .int .i64 p20, .int .i64 p21, .int .i64 p22, .int .i64 p23, .int .i64 p24, .int .i64 p25, .int .i64 p26, .int .i64 p27, .int .i64 p28, .int .i64 p29]] [] (.agg [.int .i64 q0, .int .i64 q1, .int .i64 q2, .int .i64 q3, .int .i64 q4, .int .i64 q5, .int .i64 q6, .int .i64 q7, .int .i64 q8, .int .i64 q9, .int .i64 q10, .int .i64 q11, .int .i64 q12, .int .i64 q13, .int .i64 q14]) [] := psalteryref24_Meet.ok h0
theorem psalteryref24_Meet.fnb : fnb Try.prog 70 = true := fnb_of Try.func70 rfl
def psalterylaw24_OfferMeets.res (_p0 : Int) (_p1 : Int) (_p2 : Int) (_p3 : Int) (_p4 : Int) (_p5 : Int) (_p6 : Int) (_p7 : Int) (_p8 : Int) (_p9 : Int) (_p10 : Int) (_p11 : Int) (_p12 : Int) (_p13 : Int) (_p14 : Int) (_p15 : Int) (_p16 : Int) (_p17 : Int) (_p18 : Int) (_p19 : Int) (_p20 : Int) (_p21 : Int) (_p22 : Int) (_p23 : Int) (_p24 : Int) (_p25 : Int) (_p26 : Int) (_p27 : Int) (_p28 : Int) (_p29 : Int) (_p30 : Int) (_p31 : Int) (_p32 : Int) (_p33 : Int) (_p34 : Int) (_p35 : Int) (_p36 : Int) (_p37 : Int) (_p38 : Int) (_p39 : Int) (_p40 : Int) (_p41 : Int) (_p42 : Int) (_p43 : Int) (_p44 : Int) (_p45 : Int) (_p46 : Int) (_p47 : Int) (_p48 : Int) (_p49 : Int) : Bool → MV
  | q0 => .bool q0
def psalterylaw24_OfferMeets.out (_p0 : Int) (_p1 : Int) (_p2 : Int) (_p3 : Int) (_p4 : Int) (_p5 : Int) (_p6 : Int) (_p7 : Int) (_p8 : Int) (_p9 : Int) (_p10 : Int) (_p11 : Int) (_p12 : Int) (_p13 : Int) (_p14 : Int) (_p15 : Int) (_p16 : Int) (_p17 : Int) (_p18 : Int) (_p19 : Int) (_p20 : Int) (_p21 : Int) (_p22 : Int) (_p23 : Int) (_p24 : Int) (_p25 : Int) (_p26 : Int) (_p27 : Int) (_p28 : Int) (_p29 : Int) (_p30 : Int) (_p31 : Int) (_p32 : Int) (_p33 : Int) (_p34 : Int) (_p35 : Int) (_p36 : Int) (_p37 : Int) (_p38 : Int) (_p39 : Int) (_p40 : Int) (_p41 : Int) (_p42 : Int) (_p43 : Int) (_p44 : Int) (_p45 : Int) (_p46 : Int) (_p47 : Int) (_p48 : Int) (_p49 : Int) : Bool → List (Nat × Option MObj)
  | _ => []
theorem psalterylaw24_OfferMeets.ok {K : Nat} {p0 : Int} {p1 : Int} {p2 : Int} {p3 : Int} {p4 : Int} {p5 : Int} {p6 : Int} {p7 : Int} {p8 : Int} {p9 : Int} {p10 : Int} {p11 : Int} {p12 : Int} {p13 : Int} {p14 : Int} {p15 : Int} {p16 : Int} {p17 : Int} {p18 : Int} {p19 : Int} {p20 : Int} {p21 : Int} {p22 : Int} {p23 : Int} {p24 : Int} {p25 : Int} {p26 : Int} {p27 : Int} {p28 : Int} {p29 : Int} {p30 : Int} {p31 : Int} {p32 : Int} {p33 : Int} {p34 : Int} {p35 : Int} {p36 : Int} {p37 : Int} {p38 : Int} {p39 : Int} {p40 : Int} {p41 : Int} {p42 : Int} {p43 : Int} {p44 : Int} {p45 : Int} {p46 : Int} {p47 : Int} {p48 : Int} {p49 : Int} {r : Bool} (h0 : psalterylaw24_OfferMeets K p0 p1 p2 p3 p4 p5 p6 p7 p8 p9 p10 p11 p12 p13 p14 p15 p16 p17 p18 p19 p20 p21 p22 p23 p24 p25 p26 p27 p28 p29 p30 p31 p32 p33 p34 p35 p36 p37 p38 p39 p40 p41 p42 p43 p44 p45 p46 p47 p48 p49 = some r) : Fn Try.prog 17 [.agg [.int .i64 p0, .int .i64 p1, .int .i64 p2, .int .i64 p3, .int .i64 p4, .int .i64 p5, .int .i64 p6, .int .i64 p7, .int .i64 p8, .int .i64 p9, .int .i64 p10, .int .i64 p11, .int .i64 p12, .int .i64 p13, .int .i64 p14], .agg [.int .i64 p15, .int .i64 p16, .int .i64 p17, .int .i64 p18, .int .i64 p19, .int .i64 p20, .int .i64 p21, .int .i64 p22, .int .i64 p23, .int .i64 p24, .int .i64 p25, .int .i64 p26, .int .i64 p27, .int .i64 p28, .int .i64 p29], .agg [.int .i64 p30, .int .i64 p31, .int .i64 p32, .int .i64 p33, .int .i64 p34, .int .i64 p35, .int .i64 p36, .int .i64 p37, .int .i64 p38, .int .i64 p39], .agg [.int .i64 p40, .int .i64 p41, .int .i64 p42, .int .i64 p43, .int .i64 p44, .int .i64 p45, .int .i64 p46, .int .i64 p47, .int .i64 p48, .int .i64 p49]] [] (psalterylaw24_OfferMeets.res p0 p1 p2 p3 p4 p5 p6 p7 p8 p9 p10 p11 p12 p13 p14 p15 p16 p17 p18 p19 p20 p21 p22 p23 p24 p25 p26 p27 p28 p29 p30 p31 p32 p33 p34 p35 p36 p37 p38 p39 p40 p41 p42 p43 p44 p45 p46 p47 p48 p49 r) (psalterylaw24_OfferMeets.out p0 p1 p2 p3 p4 p5 p6 p7 p8 p9 p10 p11 p12 p13 p14 p15 p16 p17 p18 p19 p20 p21 p22 p23 p24 p25 p26 p27 p28 p29 p30 p31 p32 p33 p34 p35 p36 p37 p38 p39 p40 p41 p42 p43 p44 p45 p46 p47 p48 p49 r) := by
  refine Fn_of Try.func17 rfl (Nat.le_of_ble_eq_true rfl) fun Γ => ?_
  refine TC_seq ?_
  refine TC_reg ?_
  refine TL_ev env 5 rfl ⟨trivial, ⟨trivial, ⟨trivial, ⟨trivial, ⟨trivial, trivial⟩⟩⟩⟩⟩ ?_
  refine TL_end ?_
  refine TE_go ?_
  refine TC_seq ?_
  refine TC_seq ?_
  refine TC_reg ?_
  obtain ⟨r37, hr, h0⟩ := bnd h0
  refine TL_callB [] (psalterylaw24_alive.ok0 hr) psalterylaw24_alive.fnb rfl ⟨trivial, trivial⟩ rfl trivial rfl ?_
  refine TL_ev env 1 rfl ⟨trivial, trivial⟩ ?_
  refine TL_end ?_
  refine TE_go ?_
  refine TC_cond rfl (fun hb => ?_) (fun hb => ?_)
  · replace h0 := bif_t h0 hb
    refine TC_seq ?_
    refine TC_reg ?_
    refine TL_ev env 1 rfl ⟨trivial, trivial⟩ ?_
    refine TL_end ?_
    refine TE_go ?_
    refine TC_ret ?_
    refine tsr ?_
    obtain rfl := sinj h0
    exact TE_ret env rfl trivial trivial
  · replace h0 := bif_f h0 hb
    refine TC_skip ?_
    refine TE_go ?_
    refine TC_seq ?_
    refine TC_renw (A' := [(4, .p 1004 0), (5, .p 1005 0), (6, .p 1006 0), (7, .p 1007 0)]) (L' := [(1004, some (.cells [.int .i64 _, .int .i64 _, .int .i64 _, .int .i64 _, .int .i64 _, .int .i64 _, .int .i64 _, .int .i64 _, .int .i64 _, .int .i64 _, .int .i64 _, .int .i64 _, .int .i64 _, .int .i64 _, .int .i64 _])), (1005, some (.cells [.int .i64 _, .int .i64 _, .int .i64 _, .int .i64 _, .int .i64 _, .int .i64 _, .int .i64 _, .int .i64 _, .int .i64 _, .int .i64 _, .int .i64 _, .int .i64 _, .int .i64 _, .int .i64 _, .int .i64 _])), (1006, some (.cells [.int .i64 _, .int .i64 _, .int .i64 _, .int .i64 _, .int .i64 _, .int .i64 _, .int .i64 _, .int .i64 _, .int .i64 _, .int .i64 _])), (1007, some (.cells [.int .i64 _, .int .i64 _, .int .i64 _, .int .i64 _, .int .i64 _, .int .i64 _, .int .i64 _, .int .i64 _, .int .i64 _, .int .i64 _]))]) [] ⟨rfl, rfl, rfl, rfl, trivial⟩ ⟨rfl, rfl, rfl, rfl, trivial⟩ rfl ?_
    refine TC_drawR ⟨_, fun i => ([[], [0], [], [2, 1, 0], [3, 2, 1, 0], [], [5, 4, 3, 2, 1, 0]] : List (List Nat)).getD i [], fun i => ([[], [], [], [], [], [1009], [1009]] : List (List Nat)).getD i [], fun i => ([[], [], [], [], [], [1009], []] : List (List Nat)).getD i []⟩ (fun i => ([[1009], [1009], [1009], [1009], [1009], [], []] : List (List Nat)).getD i []) (by kernel_rfl) (by kernel_rfl) ?_
    refine AJR_ev env 1 rfl (Nat.le_of_ble_eq_true rfl) rfl ⟨trivial, trivial⟩ ?_
    obtain ⟨⟨⟩, hr, h0⟩ := bnd h0
    refine AJR_call 2 rfl (Nat.le_of_ble_eq_true rfl) [] rfl (psalterylaw23_Of.ok0 hr) psalterylaw23_Of.fnb rfl ⟨trivial, ⟨trivial, trivial⟩⟩ rfl trivial rfl ?_
    refine AJR_ev env 3 rfl (Nat.le_of_ble_eq_true rfl) rfl ⟨trivial, trivial⟩ ?_
    obtain ⟨⟨⟩, hr, h0⟩ := bnd h0
    refine AJR_call 4 rfl (Nat.le_of_ble_eq_true rfl) [] rfl (psalterylaw23_Of.ok0 hr) psalterylaw23_Of.fnb rfl ⟨trivial, ⟨trivial, trivial⟩⟩ rfl trivial rfl ?_
    obtain ⟨⟨r38, r39, r40, r41, r42, r43, r44, r45, r46, r47, r48, r49, r50, r51, r52⟩, hr, h0⟩ := bnd h0
    refine AJR_call 5 rfl (Nat.le_of_ble_eq_true rfl) [] rfl (offer_Meet.ok0 hr) offer_Meet.fnb rfl ⟨trivial, ⟨trivial, ⟨trivial, trivial⟩⟩⟩ rfl trivial rfl ?_
    refine AJR_ev env 6 rfl (Nat.le_of_ble_eq_true rfl) rfl trivial ?_
    refine AJR_ev env 7 rfl (Nat.le_of_ble_eq_true rfl) rfl ⟨trivial, trivial⟩ ?_
    refine AJR_end rfl rfl rfl ?_
    refine TE_go ?_
    refine TC_seq ?_
    refine TC_seq ?_
    refine TC_renw (A' := [(4, .p 1004 0), (5, .p 1005 0), (6, .p 1006 0), (7, .p 1007 0), (9, .p 1009 0)]) (L' := [(1004, some (.cells [.int .i64 _, .int .i64 _, .int .i64 _, .int .i64 _, .int .i64 _, .int .i64 _, .int .i64 _, .int .i64 _, .int .i64 _, .int .i64 _, .int .i64 _, .int .i64 _, .int .i64 _, .int .i64 _, .int .i64 _])), (1005, some (.cells [.int .i64 _, .int .i64 _, .int .i64 _, .int .i64 _, .int .i64 _, .int .i64 _, .int .i64 _, .int .i64 _, .int .i64 _, .int .i64 _, .int .i64 _, .int .i64 _, .int .i64 _, .int .i64 _, .int .i64 _])), (1006, some (.cells [.int .i64 _, .int .i64 _, .int .i64 _, .int .i64 _, .int .i64 _, .int .i64 _, .int .i64 _, .int .i64 _, .int .i64 _, .int .i64 _])), (1007, some (.cells [.int .i64 _, .int .i64 _, .int .i64 _, .int .i64 _, .int .i64 _, .int .i64 _, .int .i64 _, .int .i64 _, .int .i64 _, .int .i64 _])), (1009, some (.cells [.int .i64 _, .int .i64 _, .int .i64 _, .int .i64 _, .int .i64 _, .int .i64 _, .int .i64 _, .int .i64 _, .int .i64 _, .int .i64 _, .int .i64 _, .int .i64 _, .int .i64 _, .int .i64 _, .int .i64 _]))]) [] ⟨rfl, rfl, rfl, rfl, rfl, trivial⟩ ⟨rfl, rfl, rfl, rfl, rfl, trivial⟩ rfl ?_
    refine TC_drawR ⟨_, fun i => ([[], [], [1, 0], [], [], [4, 3, 2, 1, 0], [5, 4, 3, 2, 1, 0]] : List (List Nat)).getD i [], fun i => ([[], [], [], [], [], [], []] : List (List Nat)).getD i [], fun i => ([[], [], [], [], [], [], []] : List (List Nat)).getD i []⟩ (fun i => ([[], [], [], [], [], [], []] : List (List Nat)).getD i []) (by kernel_rfl) (by kernel_rfl) ?_
    refine AJR_ev env 1 rfl (Nat.le_of_ble_eq_true rfl) rfl ⟨trivial, trivial⟩ ?_
    refine AJR_ev env 2 rfl (Nat.le_of_ble_eq_true rfl) rfl ⟨trivial, trivial⟩ ?_
    obtain ⟨r53, hr, h0⟩ := bnd h0
    refine AJR_call 3 rfl (Nat.le_of_ble_eq_true rfl) [] rfl (offer_Better.ok0 hr) offer_Better.fnb rfl ⟨trivial, ⟨trivial, ⟨trivial, trivial⟩⟩⟩ rfl trivial rfl ?_
    refine AJR_ev env 4 rfl (Nat.le_of_ble_eq_true rfl) rfl ⟨trivial, trivial⟩ ?_
    refine AJR_ev env 5 rfl (Nat.le_of_ble_eq_true rfl) rfl ⟨trivial, trivial⟩ ?_
    obtain ⟨r54, hr, h0⟩ := bnd h0
    refine AJR_call 6 rfl (Nat.le_of_ble_eq_true rfl) [] rfl (psalteryref24_Better.ok0 hr) psalteryref24_Better.fnb rfl ⟨trivial, ⟨trivial, ⟨trivial, trivial⟩⟩⟩ rfl trivial rfl ?_
    refine AJR_ev env 7 rfl (Nat.le_of_ble_eq_true rfl) rfl ⟨trivial, ⟨trivial, trivial⟩⟩ ?_
    refine AJR_end rfl rfl rfl ?_
    refine TE_go ?_
    refine TC_cond rfl (fun hb => ?_) (fun hb => ?_)
    · replace h0 := bif_t h0 hb
      refine TC_seq ?_
      refine TC_reg ?_
      refine TL_ev env 1 rfl ⟨trivial, trivial⟩ ?_
      refine TL_end ?_
      refine TE_go ?_
      refine TC_ret ?_
      refine tsr ?_
      obtain rfl := sinj h0
      exact TE_ret env rfl trivial trivial
    · replace h0 := bif_f h0 hb
      refine TC_skip ?_
      refine TE_go ?_
      refine TC_seq ?_
      refine TC_seq ?_
      obtain ⟨z1, h1, h0⟩ := bnd h0
      refine TC_cut (α := Bool) (fun s => z1 = s) (fun s => [(4, .p 10200 0), (5, .p 10201 0), (9, .p 10202 0), (31, .bool s)]) (fun s => [(10200, some (.cells [.int .i64 p0, .int .i64 p1, .int .i64 p2, .int .i64 p3, .int .i64 p4, .int .i64 p5, .int .i64 p6, .int .i64 p7, .int .i64 p8, .int .i64 p9, .int .i64 p10, .int .i64 p11, .int .i64 p12, .int .i64 p13, .int .i64 p14])), (10201, some (.cells [.int .i64 p15, .int .i64 p16, .int .i64 p17, .int .i64 p18, .int .i64 p19, .int .i64 p20, .int .i64 p21, .int .i64 p22, .int .i64 p23, .int .i64 p24, .int .i64 p25, .int .i64 p26, .int .i64 p27, .int .i64 p28, .int .i64 p29])), (10202, some (.cells [.int .i64 r38, .int .i64 r39, .int .i64 r40, .int .i64 r41, .int .i64 r42, .int .i64 r43, .int .i64 r44, .int .i64 r45, .int .i64 r46, .int .i64 r47, .int .i64 r48, .int .i64 r49, .int .i64 r50, .int .i64 r51, .int .i64 r52]))]) ?_ ?_
      · refine TC_reg ?_
        refine TL_ev env 1 rfl ⟨⟨trivial, trivial⟩, trivial⟩ ?_
        obtain ⟨r76, hr, h1⟩ := bnd h1
        refine TL_callB [] (psalteryref23_Check.ok0 hr) psalteryref23_Check.fnb rfl ⟨trivial, ⟨trivial, trivial⟩⟩ rfl trivial rfl ?_
        refine TL_ev env 2 rfl ⟨trivial, ⟨trivial, trivial⟩⟩ ?_
        refine TL_split 27 rfl (fun hb => ?_) (fun hb => ?_)
        · replace h1 := bif_t h1 hb
          refine TL_gf (.bool false) rfl rfl rfl rfl rfl (by decide) ?_
          refine TL_gf (.bool false) rfl rfl rfl rfl rfl (by decide) ?_
          refine TL_gf (.bool false) rfl rfl rfl rfl rfl (by decide) ?_
          refine TL_ev env 1 rfl ⟨⟨trivial, ⟨trivial, fun e => e⟩⟩, trivial⟩ ?_
          refine TL_end ?_
          obtain rfl := sinj h1
          refine tsn ?_
          exact SP_ren [(10200, 1004), (10201, 1005), (10202, 1009)] _ rfl ⟨rfl, rfl, rfl, rfl, trivial⟩ ⟨rfl, rfl, rfl, trivial⟩ rfl
        · replace h1 := bif_f h1 hb
          refine TL_gt rfl rfl rfl rfl ?_
          refine TL_ev env 1 rfl ⟨⟨trivial, trivial⟩, trivial⟩ ?_
          refine TL_gt rfl rfl rfl rfl ?_
          obtain ⟨r77, hr, h1⟩ := bnd h1
          refine TL_callB [] (psalteryref23_Check.ok0 hr) psalteryref23_Check.fnb rfl ⟨trivial, ⟨trivial, trivial⟩⟩ rfl trivial rfl ?_
          refine TL_gt rfl rfl rfl rfl ?_
          refine TL_ev env 2 rfl ⟨trivial, ⟨⟨trivial, ⟨trivial, trivial⟩⟩, trivial⟩⟩ ?_
          refine TL_end ?_
          obtain rfl := sinj h1
          refine tsn ?_
          exact SP_ren [(10200, 1004), (10201, 1005), (10202, 1009)] _ rfl ⟨rfl, rfl, rfl, rfl, trivial⟩ ⟨rfl, rfl, rfl, trivial⟩ rfl
      · rintro x58 hz
        obtain rfl := hz.symm
        refine TE_go ?_
        refine TC_cond rfl (fun hb => ?_) (fun hb => ?_)
        · replace h0 := bif_t h0 hb
          refine TC_seq ?_
          refine TC_reg ?_
          refine TL_ev env 4 rfl ⟨⟨trivial, trivial⟩, ⟨trivial, ⟨⟨trivial, ⟨trivial, trivial⟩⟩, ⟨trivial, trivial⟩⟩⟩⟩ ?_
          refine TL_end ?_
          refine TE_go ?_
          refine TC_ret ?_
          refine tsr ?_
          obtain rfl := sinj h0
          exact TE_ret env rfl trivial trivial
        · replace h0 := bif_f h0 hb
          refine TC_skip ?_
          refine TE_go ?_
          refine TC_seq ?_
          refine TC_renw (A' := [(4, .p 10200 0), (5, .p 10201 0), (9, .p 10202 0)]) (L' := [(10200, some (.cells [.int .i64 _, .int .i64 _, .int .i64 _, .int .i64 _, .int .i64 _, .int .i64 _, .int .i64 _, .int .i64 _, .int .i64 _, .int .i64 _, .int .i64 _, .int .i64 _, .int .i64 _, .int .i64 _, .int .i64 _])), (10201, some (.cells [.int .i64 _, .int .i64 _, .int .i64 _, .int .i64 _, .int .i64 _, .int .i64 _, .int .i64 _, .int .i64 _, .int .i64 _, .int .i64 _, .int .i64 _, .int .i64 _, .int .i64 _, .int .i64 _, .int .i64 _])), (10202, some (.cells [.int .i64 _, .int .i64 _, .int .i64 _, .int .i64 _, .int .i64 _, .int .i64 _, .int .i64 _, .int .i64 _, .int .i64 _, .int .i64 _, .int .i64 _, .int .i64 _, .int .i64 _, .int .i64 _, .int .i64 _]))]) [] ⟨rfl, rfl, rfl, trivial⟩ ⟨rfl, rfl, rfl, trivial⟩ rfl ?_
          refine TC_drawR ⟨_, fun i => ([[], [0], [], [], [3, 2, 1, 0], [4, 3, 2, 1, 0], [5, 4, 3, 2, 1, 0]] : List (List Nat)).getD i [], fun i => ([[], [], [], [], [], [], []] : List (List Nat)).getD i [], fun i => ([[], [], [], [], [], [], []] : List (List Nat)).getD i []⟩ (fun i => ([[], [], [], [], [], [], []] : List (List Nat)).getD i []) (by kernel_rfl) (by kernel_rfl) ?_
          refine AJR_ev env 1 rfl (Nat.le_of_ble_eq_true rfl) rfl ⟨trivial, trivial⟩ ?_
          obtain ⟨⟨⟩, hr, h0⟩ := bnd h0
          refine AJR_call 2 rfl (Nat.le_of_ble_eq_true rfl) [] rfl (psalterylaw23_To.ok0 hr) psalterylaw23_To.fnb rfl ⟨trivial, ⟨trivial, trivial⟩⟩ rfl trivial rfl ?_
          refine AJR_ev env 3 rfl (Nat.le_of_ble_eq_true rfl) rfl ⟨trivial, trivial⟩ ?_
          refine AJR_ev env 4 rfl (Nat.le_of_ble_eq_true rfl) rfl ⟨trivial, trivial⟩ ?_
          obtain ⟨⟨r60, r61, r62, r63, r64, r65, r66, r67, r68, r69, r70, r71, r72, r73, r74⟩, hr, h0⟩ := bnd h0
          refine AJR_call 5 rfl (Nat.le_of_ble_eq_true rfl) [] rfl (psalteryref24_Meet.ok0 hr) psalteryref24_Meet.fnb rfl ⟨trivial, ⟨trivial, ⟨trivial, trivial⟩⟩⟩ rfl trivial rfl ?_
          refine AJR_ev env 6 rfl (Nat.le_of_ble_eq_true rfl) rfl ⟨trivial, ⟨trivial, trivial⟩⟩ ?_
          refine AJR_ev env 7 rfl (Nat.le_of_ble_eq_true rfl) rfl trivial ?_
          refine AJR_end rfl rfl rfl ?_
          refine TE_go ?_
          refine TC_ret ?_
          obtain rfl := sinj h0
          exact TE_ret env rfl trivial trivial
theorem psalterylaw24_OfferMeets.ok0 {K : Nat} {p0 : Int} {p1 : Int} {p2 : Int} {p3 : Int} {p4 : Int} {p5 : Int} {p6 : Int} {p7 : Int} {p8 : Int} {p9 : Int} {p10 : Int} {p11 : Int} {p12 : Int} {p13 : Int} {p14 : Int} {p15 : Int} {p16 : Int} {p17 : Int} {p18 : Int} {p19 : Int} {p20 : Int} {p21 : Int} {p22 : Int} {p23 : Int} {p24 : Int} {p25 : Int} {p26 : Int} {p27 : Int} {p28 : Int} {p29 : Int} {p30 : Int} {p31 : Int} {p32 : Int} {p33 : Int} {p34 : Int} {p35 : Int} {p36 : Int} {p37 : Int} {p38 : Int} {p39 : Int} {p40 : Int} {p41 : Int} {p42 : Int} {p43 : Int} {p44 : Int} {p45 : Int} {p46 : Int} {p47 : Int} {p48 : Int} {p49 : Int} {q0 : Bool} (h0 : psalterylaw24_OfferMeets K p0 p1 p2 p3 p4 p5 p6 p7 p8 p9 p10 p11 p12 p13 p14 p15 p16 p17 p18 p19 p20 p21 p22 p23 p24 p25 p26 p27 p28 p29 p30 p31 p32 p33 p34 p35 p36 p37 p38 p39 p40 p41 p42 p43 p44 p45 p46 p47 p48 p49 = some q0) : Fn Try.prog 17 [.agg [.int .i64 p0, .int .i64 p1, .int .i64 p2, .int .i64 p3, .int .i64 p4, .int .i64 p5, .int .i64 p6, .int .i64 p7, .int .i64 p8, .int .i64 p9, .int .i64 p10, .int .i64 p11, .int .i64 p12, .int .i64 p13, .int .i64 p14], .agg [.int .i64 p15, .int .i64 p16, .int .i64 p17, .int .i64 p18, .int .i64 p19, .int .i64 p20, .int .i64 p21, .int .i64 p22, .int .i64 p23, .int .i64 p24, .int .i64 p25, .int .i64 p26, .int .i64 p27, .int .i64 p28, .int .i64 p29], .agg [.int .i64 p30, .int .i64 p31, .int .i64 p32, .int .i64 p33, .int .i64 p34, .int .i64 p35, .int .i64 p36, .int .i64 p37, .int .i64 p38, .int .i64 p39], .agg [.int .i64 p40, .int .i64 p41, .int .i64 p42, .int .i64 p43, .int .i64 p44, .int .i64 p45, .int .i64 p46, .int .i64 p47, .int .i64 p48, .int .i64 p49]] [] (.bool q0) [] := psalterylaw24_OfferMeets.ok h0
theorem psalterylaw24_OfferMeets.fnb : fnb Try.prog 17 = true := fnb_of Try.func17 rfl
def psalteryref11_Bits.res (_p0 : Int) (_p1 : Int) (_p2 : Int) (_p3 : Int) (_p4 : Int) (_p5 : Int) (_p6 : Int) (_p7 : Int) (_p8 : Int) (_p9 : Int) : Int → MV
  | q0 => .int .i64 q0
def psalteryref11_Bits.out (_p0 : Int) (_p1 : Int) (_p2 : Int) (_p3 : Int) (_p4 : Int) (_p5 : Int) (_p6 : Int) (_p7 : Int) (_p8 : Int) (_p9 : Int) : Int → List (Nat × Option MObj)
  | _ => []
theorem psalteryref11_Bits.ok {K : Nat} {p0 : Int} {p1 : Int} {p2 : Int} {p3 : Int} {p4 : Int} {p5 : Int} {p6 : Int} {p7 : Int} {p8 : Int} {p9 : Int} {r : Int} (h0 : psalteryref11_Bits K p0 p1 p2 p3 p4 p5 p6 p7 p8 p9 = some r) : Fn Try.prog 38 [.agg [.int .i64 p0, .int .i64 p1, .int .i64 p2, .int .i64 p3, .int .i64 p4, .int .i64 p5, .int .i64 p6, .int .i64 p7, .int .i64 p8, .int .i64 p9]] [] (psalteryref11_Bits.res p0 p1 p2 p3 p4 p5 p6 p7 p8 p9 r) (psalteryref11_Bits.out p0 p1 p2 p3 p4 p5 p6 p7 p8 p9 r) := by
  refine Fn_of Try.func38 rfl (Nat.le_of_ble_eq_true rfl) fun Γ => ?_
  refine TC_seq ?_
  refine TC_reg ?_
  refine TL_ev env 2 rfl ⟨trivial, ⟨trivial, trivial⟩⟩ ?_
  refine TL_end ?_
  refine TE_go ?_
  refine TC_seq ?_
  refine TC_seq ?_
  refine TC_reg ?_
  refine TL_ev env 3 rfl ⟨trivial, ⟨⟨trivial, trivial⟩, ⟨⟨trivial, ⟨trivial, trivial⟩⟩, trivial⟩⟩⟩ ?_
  refine TL_end ?_
  refine TE_go ?_
  refine TC_cond rfl (fun hb => ?_) (fun hb => ?_)
  · replace h0 := bif_t h0 hb
    refine TC_seq ?_
    refine TC_reg ?_
    refine TL_ev env 4 rfl ⟨trivial, ⟨⟨trivial, trivial⟩, ⟨⟨trivial, ⟨trivial, trivial⟩⟩, ⟨trivial, trivial⟩⟩⟩⟩ ?_
    refine TL_end ?_
    refine TE_go ?_
    refine TC_ret ?_
    refine tsr ?_
    obtain rfl := sinj h0
    exact TE_ret env rfl trivial trivial
  · replace h0 := bif_f h0 hb
    refine TC_skip ?_
    refine TE_go ?_
    refine TC_seq ?_
    refine TC_reg ?_
    refine TL_ev env 7 rfl ⟨trivial, ⟨⟨trivial, trivial⟩, ⟨trivial, ⟨⟨trivial, trivial⟩, ⟨⟨trivial, ⟨trivial, trivial⟩⟩, ⟨⟨trivial, ⟨trivial, trivial⟩⟩, ⟨trivial, trivial⟩⟩⟩⟩⟩⟩⟩ ?_
    refine TL_end ?_
    refine TE_go ?_
    refine TC_seq ?_
    refine TC_seq ?_
    refine TC_reg ?_
    refine TL_ev env 1 rfl ⟨trivial, trivial⟩ ?_
    refine TL_end ?_
    refine TE_go ?_
    obtain ⟨z1, h1, h0⟩ := bnd h0
    refine TC_cut (α := Int) (fun s => z1 = s) (fun s => [(1, .p 10900 0), (3, .int .i64 s)]) (fun s => [(10900, some (.cells [.int .i64 p0, .int .i64 p1, .int .i64 p2, .int .i64 p3, .int .i64 p4, .int .i64 p5, .int .i64 p6, .int .i64 p7, .int .i64 p8, .int .i64 p9]))]) ?_ ?_
    · refine TC_blk ?_
      refine TC_loop (α := Int × Int) (fun n s => psalteryref11_Bits.l0 K p0 p1 p2 p3 p4 p5 p6 p7 p8 p9 n s.1 s.2 = some z1) (fun s => [(1, .p 11200 0), (3, .int .i64 s.1), (4, .int .i64 s.2)]) (fun s => [(11200, some (.cells [.int .i64 p0, .int .i64 p1, .int .i64 p2, .int .i64 p3, .int .i64 p4, .int .i64 p5, .int .i64 p6, .int .i64 p7, .int .i64 p8, .int .i64 p9]))]) K ?_ ?_
      · exact SP_ren [(11200, 1001)] (_, _) h1 ⟨rfl, rfl, rfl, trivial⟩ ⟨rfl, trivial⟩ rfl
      rintro n ⟨x17, x18⟩ h1
      rcases n with _ | n
      · exact (nsome h1).elim
      replace h1 : psalteryref11_Bits.r0 K p0 p1 p2 p3 p4 p5 p6 p7 p8 p9 (psalteryref11_Bits.l0 K p0 p1 p2 p3 p4 p5 p6 p7 p8 p9 n) x17 x18 = some z1 := h1
      refine TC_seq ?_
      refine TC_seq ?_
      refine TC_reg ?_
      refine TL_ev env 4 rfl ⟨trivial, ⟨trivial, ⟨⟨trivial, trivial⟩, ⟨⟨trivial, ⟨trivial, trivial⟩⟩, trivial⟩⟩⟩⟩ ?_
      refine TL_end ?_
      refine TE_go ?_
      refine TC_cond rfl (fun hb => ?_) (fun hb => ?_)
      · replace h1 := bif_t h1 hb
        refine TC_skip ?_
        refine TE_go ?_
        refine TC_seq ?_
        refine TC_blk ?_
        refine TC_reg ?_
        refine TL_ev env 6 rfl ⟨trivial, ⟨trivial, ⟨⟨trivial, trivial⟩, ⟨⟨trivial, ⟨trivial, trivial⟩⟩, ⟨⟨trivial, ⟨trivial, trivial⟩⟩, ⟨trivial, trivial⟩⟩⟩⟩⟩⟩ ?_
        refine TL_end ?_
        refine tbn ?_
        refine TE_go ?_
        refine TC_reg ?_
        refine TL_ev env 3 rfl ⟨trivial, ⟨⟨trivial, ⟨trivial, trivial⟩⟩, ⟨trivial, trivial⟩⟩⟩ ?_
        refine TL_end ?_
        refine tsn ?_
        exact TE_nextr [(11200, 11200)] n (Nat.lt_succ_self n) (_, _) h1 ⟨rfl, rfl, rfl, trivial⟩ ⟨rfl, trivial⟩ rfl
      · replace h1 := bif_f h1 hb
        refine TC_exit ?_
        refine tsx ?_
        refine tsx ?_
        refine tbe ?_
        obtain rfl := sinj h1
        refine tsn ?_
        exact SP_ren [(10900, 11200)] _ rfl ⟨rfl, rfl, trivial⟩ ⟨rfl, trivial⟩ rfl
    · rintro x14 hz
      obtain rfl := hz.symm
      refine TE_go ?_
      refine TC_seq ?_
      refine TC_seq ?_
      refine TC_reg ?_
      refine TL_ev env 3 rfl ⟨trivial, ⟨⟨trivial, trivial⟩, ⟨⟨trivial, ⟨trivial, trivial⟩⟩, trivial⟩⟩⟩ ?_
      refine TL_end ?_
      refine TE_go ?_
      obtain ⟨z1, h1, h0⟩ := bnd h0
      refine TC_cut (α := Int) (fun s => z1 = s) (fun s => [(3, .int .i64 s)]) (fun s => []) ?_ ?_
      · refine TC_cond rfl (fun hb => ?_) (fun hb => ?_)
        · replace h1 := bif_t h1 hb
          refine TC_reg ?_
          refine TL_ev env 5 rfl ⟨trivial, ⟨trivial, ⟨⟨trivial, trivial⟩, ⟨⟨trivial, ⟨trivial, trivial⟩⟩, ⟨trivial, trivial⟩⟩⟩⟩⟩ ?_
          refine TL_end ?_
          obtain rfl := sinj h1
          refine tsn ?_
          exact SP_ren [] _ rfl ⟨rfl, trivial⟩ trivial rfl
        · replace h1 := bif_f h1 hb
          refine TC_skip ?_
          obtain rfl := sinj h1
          refine tsn ?_
          exact SP_ren [] _ rfl ⟨rfl, trivial⟩ trivial rfl
      · rintro x15 hz
        obtain rfl := hz.symm
        refine TE_go ?_
        refine TC_seq ?_
        refine TC_reg ?_
        refine TL_ev env 2 rfl ⟨trivial, ⟨trivial, trivial⟩⟩ ?_
        refine TL_end ?_
        refine TE_go ?_
        refine TC_ret ?_
        obtain rfl := sinj h0
        exact TE_ret env rfl trivial trivial
theorem psalteryref11_Bits.ok0 {K : Nat} {p0 : Int} {p1 : Int} {p2 : Int} {p3 : Int} {p4 : Int} {p5 : Int} {p6 : Int} {p7 : Int} {p8 : Int} {p9 : Int} {q0 : Int} (h0 : psalteryref11_Bits K p0 p1 p2 p3 p4 p5 p6 p7 p8 p9 = some q0) : Fn Try.prog 38 [.agg [.int .i64 p0, .int .i64 p1, .int .i64 p2, .int .i64 p3, .int .i64 p4, .int .i64 p5, .int .i64 p6, .int .i64 p7, .int .i64 p8, .int .i64 p9]] [] (.int .i64 q0) [] := psalteryref11_Bits.ok h0
theorem psalteryref11_Bits.fnb : fnb Try.prog 38 = true := fnb_of Try.func38 rfl
def psalteryref11_Sub.res (_p0 : Int) (_p1 : Int) (_p2 : Int) (_p3 : Int) (_p4 : Int) (_p5 : Int) (_p6 : Int) (_p7 : Int) (_p8 : Int) (_p9 : Int) : Bool → MV
  | q0 => .bool q0
def psalteryref11_Sub.out (_p0 : Int) (_p1 : Int) (_p2 : Int) (_p3 : Int) (_p4 : Int) (_p5 : Int) (_p6 : Int) (_p7 : Int) (_p8 : Int) (_p9 : Int) : Bool → List (Nat × Option MObj)
  | _ => []
theorem psalteryref11_Sub.ok {K : Nat} {p0 : Int} {p1 : Int} {p2 : Int} {p3 : Int} {p4 : Int} {p5 : Int} {p6 : Int} {p7 : Int} {p8 : Int} {p9 : Int} {r : Bool} (h0 : psalteryref11_Sub K p0 p1 p2 p3 p4 p5 p6 p7 p8 p9 = some r) : Fn Try.prog 85 [.agg [.int .i64 p0, .int .i64 p1, .int .i64 p2, .int .i64 p3, .int .i64 p4, .int .i64 p5, .int .i64 p6, .int .i64 p7, .int .i64 p8, .int .i64 p9]] [] (psalteryref11_Sub.res p0 p1 p2 p3 p4 p5 p6 p7 p8 p9 r) (psalteryref11_Sub.out p0 p1 p2 p3 p4 p5 p6 p7 p8 p9 r) := by
  refine Fn_of Try.func85 rfl (Nat.le_of_ble_eq_true rfl) fun Γ => ?_
  refine TC_seq ?_
  refine TC_reg ?_
  refine TL_ev env 2 rfl ⟨trivial, ⟨trivial, trivial⟩⟩ ?_
  refine TL_end ?_
  refine TE_go ?_
  refine TC_seq ?_
  refine TC_seq ?_
  refine TC_reg ?_
  refine TL_ev env 13 rfl ⟨trivial, ⟨⟨trivial, trivial⟩, ⟨⟨trivial, ⟨trivial, trivial⟩⟩, ⟨trivial, ⟨fun eg => trivial, ⟨fun eg => ⟨fun e => e, trivial⟩, ⟨fun eg => ⟨fun e => e, ⟨trivial, trivial⟩⟩, ⟨⟨trivial, ⟨trivial, fun e => e⟩⟩, ⟨trivial, ⟨fun eg => trivial, ⟨fun eg => ⟨fun e => e, trivial⟩, ⟨fun eg => ⟨fun e => e, ⟨trivial, trivial⟩⟩, ⟨⟨trivial, ⟨trivial, fun e => e⟩⟩, trivial⟩⟩⟩⟩⟩⟩⟩⟩⟩⟩⟩⟩⟩ ?_
  refine TL_end ?_
  refine TE_go ?_
  refine TC_cond rfl (fun hb => ?_) (fun hb => ?_)
  · replace h0 := bif_t h0 hb
    refine TC_seq ?_
    refine TC_reg ?_
    refine TL_ev env 1 rfl ⟨trivial, trivial⟩ ?_
    refine TL_end ?_
    refine TE_go ?_
    refine TC_ret ?_
    refine tsr ?_
    obtain rfl := sinj h0
    exact TE_ret env rfl trivial trivial
  · replace h0 := bif_f h0 hb
    refine TC_skip ?_
    refine TE_go ?_
    refine TC_seq ?_
    refine TC_seq ?_
    refine TC_reg ?_
    refine TL_ev env 28 rfl ⟨trivial, ⟨⟨trivial, trivial⟩, ⟨⟨trivial, ⟨trivial, trivial⟩⟩, ⟨trivial, ⟨fun eg => trivial, ⟨fun eg => ⟨fun e => e, trivial⟩, ⟨fun eg => ⟨fun e => e, ⟨trivial, trivial⟩⟩, ⟨⟨trivial, ⟨trivial, fun e => e⟩⟩, ⟨trivial, ⟨fun eg => trivial, ⟨fun eg => ⟨fun e => e, trivial⟩, ⟨fun eg => ⟨fun e => e, ⟨trivial, trivial⟩⟩, ⟨⟨trivial, ⟨trivial, fun e => e⟩⟩, ⟨trivial, ⟨fun eg => trivial, ⟨fun eg => ⟨fun e => e, trivial⟩, ⟨fun eg => ⟨fun e => e, ⟨trivial, trivial⟩⟩, ⟨⟨trivial, ⟨trivial, fun e => e⟩⟩, ⟨trivial, ⟨fun eg => trivial, ⟨fun eg => ⟨fun e => e, trivial⟩, ⟨fun eg => ⟨fun e => e, ⟨trivial, trivial⟩⟩, ⟨⟨trivial, ⟨trivial, fun e => e⟩⟩, ⟨trivial, ⟨fun eg => trivial, ⟨fun eg => ⟨fun e => e, trivial⟩, ⟨fun eg => ⟨fun e => e, ⟨trivial, trivial⟩⟩, ⟨⟨trivial, ⟨trivial, fun e => e⟩⟩, trivial⟩⟩⟩⟩⟩⟩⟩⟩⟩⟩⟩⟩⟩⟩⟩⟩⟩⟩⟩⟩⟩⟩⟩⟩⟩⟩⟩⟩ ?_
    refine TL_end ?_
    refine TE_go ?_
    refine TC_cond rfl (fun hb => ?_) (fun hb => ?_)
    · replace h0 := bif_t h0 hb
      refine TC_seq ?_
      refine TC_reg ?_
      refine TL_ev env 1 rfl ⟨trivial, trivial⟩ ?_
      refine TL_end ?_
      refine TE_go ?_
      refine TC_ret ?_
      refine tsr ?_
      obtain rfl := sinj h0
      exact TE_ret env rfl trivial trivial
    · replace h0 := bif_f h0 hb
      refine TC_skip ?_
      refine TE_go ?_
      refine TC_seq ?_
      refine TC_seq ?_
      refine TC_reg ?_
      refine TL_ev env 28 rfl ⟨trivial, ⟨⟨trivial, trivial⟩, ⟨⟨trivial, ⟨trivial, trivial⟩⟩, ⟨trivial, ⟨fun eg => trivial, ⟨fun eg => ⟨fun e => e, trivial⟩, ⟨fun eg => ⟨fun e => e, ⟨trivial, trivial⟩⟩, ⟨⟨trivial, ⟨fun e => e, trivial⟩⟩, ⟨trivial, ⟨fun eg => trivial, ⟨fun eg => ⟨fun e => e, trivial⟩, ⟨fun eg => ⟨fun e => e, ⟨trivial, trivial⟩⟩, ⟨fun eg => fun e => e, ⟨fun eg => trivial, ⟨fun eg => ⟨fun e => e, trivial⟩, ⟨fun eg => ⟨fun e => e, ⟨trivial, trivial⟩⟩, ⟨fun eg => ⟨fun e => e, ⟨((by decide : ∀ b0 b1 b2 : Bool, (!(bif b1 then b2 else false)) = true → b0 = true → ((!(bif b1 then b2 else false)) && b0) = true) _ _ _ eg), trivial⟩⟩, ⟨fun eg => fun e => e, ⟨fun eg => trivial, ⟨fun eg => ⟨fun e => e, trivial⟩, ⟨fun eg => ⟨fun e => e, ⟨trivial, trivial⟩⟩, ⟨fun eg => ⟨fun e => e, ⟨((by decide : ∀ b0 b1 b2 b3 : Bool, (!(bif b2 then b3 else false)) = true → (bif b0 then b1 else false) = true → ((!(bif b2 then b3 else false)) && (bif b0 then b1 else false)) = true) _ _ _ _ eg), trivial⟩⟩, ⟨fun eg => fun e => e, ⟨fun eg => trivial, ⟨fun eg => ⟨fun e => e, trivial⟩, ⟨fun eg => ⟨fun e => e, ⟨trivial, trivial⟩⟩, ⟨fun eg => ⟨fun e => e, ⟨((by decide : ∀ b0 b1 b2 b3 b4 : Bool, (!(bif b3 then b4 else false)) = true → (bif (bif b0 then b1 else false) then b2 else false) = true → ((!(bif b3 then b4 else false)) && (bif (bif b0 then b1 else false) then b2 else false)) = true) _ _ _ _ _ eg), trivial⟩⟩, ⟨⟨trivial, ⟨trivial, fun e => e⟩⟩, trivial⟩⟩⟩⟩⟩⟩⟩⟩⟩⟩⟩⟩⟩⟩⟩⟩⟩⟩⟩⟩⟩⟩⟩⟩⟩⟩⟩⟩ ?_
      refine TL_end ?_
      refine TE_go ?_
      refine TC_cond rfl (fun hb => ?_) (fun hb => ?_)
      · replace h0 := bif_t h0 hb
        refine TC_seq ?_
        refine TC_reg ?_
        refine TL_ev env 1 rfl ⟨trivial, trivial⟩ ?_
        refine TL_end ?_
        refine TE_go ?_
        refine TC_ret ?_
        refine tsr ?_
        obtain rfl := sinj h0
        exact TE_ret env rfl trivial trivial
      · replace h0 := bif_f h0 hb
        refine TC_skip ?_
        refine TE_go ?_
        refine TC_seq ?_
        refine TC_seq ?_
        refine TC_reg ?_
        refine TL_ev env 13 rfl ⟨trivial, ⟨⟨trivial, trivial⟩, ⟨⟨trivial, ⟨trivial, trivial⟩⟩, ⟨trivial, ⟨fun eg => trivial, ⟨fun eg => ⟨fun e => e, trivial⟩, ⟨fun eg => ⟨fun e => e, ⟨trivial, trivial⟩⟩, ⟨fun eg => fun e => e, ⟨fun eg => trivial, ⟨fun eg => ⟨fun e => e, trivial⟩, ⟨fun eg => ⟨fun e => e, ⟨trivial, trivial⟩⟩, ⟨fun eg => ⟨fun e => e, ⟨trivial, ((by decide : ∀ b0 b1 : Bool, b1 = true → (!b0) = true → (b1 && (!b0)) = true) _ _ eg)⟩⟩, ⟨⟨trivial, ⟨fun e => e, trivial⟩⟩, trivial⟩⟩⟩⟩⟩⟩⟩⟩⟩⟩⟩⟩⟩ ?_
        refine TL_end ?_
        refine TE_go ?_
        refine TC_cond rfl (fun hb => ?_) (fun hb => ?_)
        · replace h0 := bif_t h0 hb
          refine TC_seq ?_
          refine TC_reg ?_
          refine TL_ev env 1 rfl ⟨trivial, trivial⟩ ?_
          refine TL_end ?_
          refine TE_go ?_
          refine TC_ret ?_
          refine tsr ?_
          obtain rfl := sinj h0
          exact TE_ret env rfl trivial trivial
        · replace h0 := bif_f h0 hb
          refine TC_skip ?_
          refine TE_go ?_
          refine TC_seq ?_
          obtain ⟨z1, h1, h0⟩ := bnd h0
          refine TC_cut (α := Bool) (fun s => z1 = s) (fun s => [(2, .bool s)]) (fun s => []) ?_ ?_
          · refine TC_reg ?_
            refine TL_ev env 20 rfl ⟨trivial, ⟨⟨trivial, trivial⟩, ⟨⟨trivial, ⟨trivial, trivial⟩⟩, ⟨trivial, ⟨fun eg => trivial, ⟨fun eg => ⟨fun e => e, trivial⟩, ⟨fun eg => ⟨fun e => e, ⟨trivial, trivial⟩⟩, ⟨⟨trivial, ⟨fun e => e, trivial⟩⟩, ⟨trivial, ⟨fun eg => trivial, ⟨fun eg => ⟨fun e => e, trivial⟩, ⟨fun eg => trivial, ⟨fun eg => ⟨fun e => e, trivial⟩, ⟨fun eg => ⟨trivial, ⟨fun e => e, trivial⟩⟩, ⟨fun eg => trivial, ⟨fun eg => ⟨fun e => e, trivial⟩, ⟨fun eg => ⟨fun e => e, ⟨fun e => e, trivial⟩⟩, ⟨fun eg => ⟨fun e => e, ⟨fun e => e, trivial⟩⟩, ⟨⟨trivial, ⟨fun e => e, trivial⟩⟩, ⟨trivial, trivial⟩⟩⟩⟩⟩⟩⟩⟩⟩⟩⟩⟩⟩⟩⟩⟩⟩⟩⟩⟩ ?_
            refine TL_split 104 rfl (fun hb => ?_) (fun hb => ?_)
            · replace h1 := bif_t h1 hb
              refine TL_gt rfl rfl rfl rfl ?_
              refine TL_ev env 1 rfl ⟨⟨trivial, trivial⟩, trivial⟩ ?_
              refine TL_gt rfl rfl rfl rfl ?_
              obtain ⟨r32, hr, h1⟩ := bnd h1
              refine TL_callB [] (psalteryref11_Bits.ok0 hr) psalteryref11_Bits.fnb rfl ⟨trivial, ⟨trivial, trivial⟩⟩ rfl trivial rfl ?_
              refine TL_gt rfl rfl rfl rfl ?_
              refine TL_ev env 3 rfl ⟨⟨trivial, ⟨trivial, trivial⟩⟩, ⟨⟨trivial, ⟨trivial, trivial⟩⟩, ⟨trivial, trivial⟩⟩⟩ ?_
              refine TL_end ?_
              obtain rfl := sinj h1
              refine tsn ?_
              exact SP_ren [] _ rfl ⟨rfl, trivial⟩ trivial rfl
            · replace h1 := bif_f h1 hb
              refine TL_gf (.bool false) rfl rfl rfl rfl rfl (by decide) ?_
              refine TL_gf (.bool false) rfl rfl rfl rfl rfl (by decide) ?_
              refine TL_gf (.bool false) rfl rfl rfl rfl rfl (by decide) ?_
              refine TL_ev env 2 rfl ⟨⟨trivial, ⟨fun e => e, trivial⟩⟩, ⟨trivial, trivial⟩⟩ ?_
              refine TL_end ?_
              obtain rfl := sinj h1
              refine tsn ?_
              exact SP_ren [] _ rfl ⟨rfl, trivial⟩ trivial rfl
          · rintro x24 hz
            obtain rfl := hz.symm
            refine TE_go ?_
            refine TC_ret ?_
            obtain rfl := sinj h0
            exact TE_ret env rfl trivial trivial
theorem psalteryref11_Sub.ok0 {K : Nat} {p0 : Int} {p1 : Int} {p2 : Int} {p3 : Int} {p4 : Int} {p5 : Int} {p6 : Int} {p7 : Int} {p8 : Int} {p9 : Int} {q0 : Bool} (h0 : psalteryref11_Sub K p0 p1 p2 p3 p4 p5 p6 p7 p8 p9 = some q0) : Fn Try.prog 85 [.agg [.int .i64 p0, .int .i64 p1, .int .i64 p2, .int .i64 p3, .int .i64 p4, .int .i64 p5, .int .i64 p6, .int .i64 p7, .int .i64 p8, .int .i64 p9]] [] (.bool q0) [] := psalteryref11_Sub.ok h0
theorem psalteryref11_Sub.fnb : fnb Try.prog 85 = true := fnb_of Try.func85 rfl
def psalteryref09_May.res (_p0 : Int) : Bool → MV
  | q0 => .bool q0
def psalteryref09_May.out (_p0 : Int) : Bool → List (Nat × Option MObj)
  | _ => []
theorem psalteryref09_May.ok {K : Nat} {p0 : Int} {r : Bool} (h0 : psalteryref09_May K p0 = some r) : Fn Try.prog 127 [.int .i64 p0] [] (psalteryref09_May.res p0 r) (psalteryref09_May.out p0 r) := by
  refine Fn_of Try.func127 rfl (Nat.le_of_ble_eq_true rfl) fun Γ => ?_
  refine TC_seq ?_
  refine TC_reg ?_
  refine TL_ev env 1 rfl ⟨trivial, trivial⟩ ?_
  refine TL_end ?_
  refine TE_go ?_
  refine TC_seq ?_
  refine TC_reg ?_
  refine TL_ev env 15 rfl ⟨trivial, ⟨⟨trivial, ⟨trivial, trivial⟩⟩, ⟨trivial, ⟨fun eg => trivial, ⟨fun eg => ⟨fun e => e, ⟨trivial, trivial⟩⟩, ⟨⟨trivial, ⟨trivial, fun e => e⟩⟩, ⟨trivial, ⟨fun eg => trivial, ⟨fun eg => ⟨fun e => e, ⟨trivial, trivial⟩⟩, ⟨⟨trivial, ⟨trivial, fun e => e⟩⟩, ⟨trivial, ⟨fun eg => trivial, ⟨fun eg => ⟨fun e => e, ⟨trivial, trivial⟩⟩, ⟨⟨trivial, ⟨trivial, fun e => e⟩⟩, ⟨trivial, trivial⟩⟩⟩⟩⟩⟩⟩⟩⟩⟩⟩⟩⟩⟩⟩ ?_
  refine TL_end ?_
  refine TE_go ?_
  refine TC_ret ?_
  obtain rfl := sinj h0
  exact TE_ret env rfl trivial trivial
theorem psalteryref09_May.ok0 {K : Nat} {p0 : Int} {q0 : Bool} (h0 : psalteryref09_May K p0 = some q0) : Fn Try.prog 127 [.int .i64 p0] [] (.bool q0) [] := psalteryref09_May.ok h0
theorem psalteryref09_May.fnb : fnb Try.prog 127 = true := fnb_of Try.func127 rfl
def psalteryref11_Lap.res (_p0 : Int) (_p1 : Int) (_p2 : Int) (_p3 : Int) (_p4 : Int) (_p5 : Int) (_p6 : Int) (_p7 : Int) (_p8 : Int) (_p9 : Int) : Bool → MV
  | q0 => .bool q0
def psalteryref11_Lap.out (_p0 : Int) (_p1 : Int) (_p2 : Int) (_p3 : Int) (_p4 : Int) (_p5 : Int) (_p6 : Int) (_p7 : Int) (_p8 : Int) (_p9 : Int) : Bool → List (Nat × Option MObj)
  | _ => []
theorem psalteryref11_Lap.ok {K : Nat} {p0 : Int} {p1 : Int} {p2 : Int} {p3 : Int} {p4 : Int} {p5 : Int} {p6 : Int} {p7 : Int} {p8 : Int} {p9 : Int} {r : Bool} (h0 : psalteryref11_Lap K p0 p1 p2 p3 p4 p5 p6 p7 p8 p9 = some r) : Fn Try.prog 86 [.agg [.int .i64 p0, .int .i64 p1, .int .i64 p2, .int .i64 p3, .int .i64 p4, .int .i64 p5, .int .i64 p6, .int .i64 p7, .int .i64 p8, .int .i64 p9]] [] (psalteryref11_Lap.res p0 p1 p2 p3 p4 p5 p6 p7 p8 p9 r) (psalteryref11_Lap.out p0 p1 p2 p3 p4 p5 p6 p7 p8 p9 r) := by
  refine Fn_of Try.func86 rfl (Nat.le_of_ble_eq_true rfl) fun Γ => ?_
  refine TC_seq ?_
  refine TC_reg ?_
  refine TL_ev env 2 rfl ⟨trivial, ⟨trivial, trivial⟩⟩ ?_
  refine TL_end ?_
  refine TE_go ?_
  refine TC_seq ?_
  refine TC_reg ?_
  refine TL_ev env 3 rfl ⟨⟨trivial, trivial⟩, ⟨trivial, ⟨⟨trivial, trivial⟩, trivial⟩⟩⟩ ?_
  refine TL_end ?_
  refine TE_go ?_
  refine TC_seq ?_
  refine TC_reg ?_
  refine TL_ev env 2 rfl ⟨trivial, ⟨⟨trivial, trivial⟩, trivial⟩⟩ ?_
  refine TL_end ?_
  refine TE_go ?_
  refine TC_seq ?_
  refine TC_reg ?_
  refine TL_ev env 2 rfl ⟨trivial, ⟨⟨trivial, trivial⟩, trivial⟩⟩ ?_
  refine TL_end ?_
  refine TE_go ?_
  refine TC_seq ?_
  refine TC_reg ?_
  refine TL_ev env 2 rfl ⟨trivial, ⟨⟨trivial, trivial⟩, trivial⟩⟩ ?_
  refine TL_end ?_
  refine TE_go ?_
  refine TC_seq ?_
  refine TC_reg ?_
  refine TL_ev env 2 rfl ⟨trivial, ⟨⟨trivial, trivial⟩, trivial⟩⟩ ?_
  refine TL_end ?_
  refine TE_go ?_
  refine TC_seq ?_
  obtain ⟨z1, h1, h0⟩ := bnd h0
  refine TC_cut (α := Bool) (fun s => z1 = s) (fun s => [(2, .bool s)]) (fun s => []) ?_ ?_
  · refine TC_reg ?_
    refine TL_ev env 24 rfl ⟨⟨trivial, trivial⟩, ⟨⟨trivial, trivial⟩, ⟨⟨trivial, ⟨trivial, trivial⟩⟩, ⟨trivial, ⟨fun eg => trivial, ⟨fun eg => ⟨fun e => e, trivial⟩, ⟨fun eg => ⟨fun e => e, ⟨trivial, trivial⟩⟩, ⟨⟨trivial, ⟨fun e => e, trivial⟩⟩, ⟨trivial, ⟨fun eg => trivial, ⟨fun eg => ⟨fun e => e, trivial⟩, ⟨fun eg => ⟨fun e => e, ⟨trivial, trivial⟩⟩, ⟨⟨trivial, ⟨fun e => e, trivial⟩⟩, ⟨trivial, ⟨fun eg => trivial, ⟨fun eg => ⟨fun e => e, trivial⟩, ⟨fun eg => ⟨fun e => e, ⟨trivial, trivial⟩⟩, ⟨⟨trivial, ⟨fun e => e, trivial⟩⟩, ⟨trivial, ⟨fun eg => trivial, ⟨fun eg => ⟨fun e => e, trivial⟩, ⟨fun eg => ⟨fun e => e, ⟨trivial, trivial⟩⟩, ⟨⟨trivial, ⟨fun e => e, trivial⟩⟩, ⟨trivial, trivial⟩⟩⟩⟩⟩⟩⟩⟩⟩⟩⟩⟩⟩⟩⟩⟩⟩⟩⟩⟩⟩⟩⟩⟩ ?_
    refine TL_split 32 rfl (fun hb => ?_) (fun hb => ?_)
    · replace h1 := bif_t h1 hb
      refine TL_gt rfl rfl rfl rfl ?_
      refine TL_ev env 1 rfl ⟨trivial, trivial⟩ ?_
      refine TL_gt rfl rfl rfl rfl ?_
      refine TL_ev env 1 rfl ⟨⟨trivial, trivial⟩, trivial⟩ ?_
      refine TL_gt rfl rfl rfl rfl ?_
      obtain ⟨r14, hr, h1⟩ := bnd h1
      refine TL_callB [] (psalteryref09_May.ok0 hr) psalteryref09_May.fnb rfl ⟨trivial, ⟨trivial, trivial⟩⟩ rfl trivial rfl ?_
      refine TL_ev env 12 rfl ⟨⟨trivial, ⟨trivial, trivial⟩⟩, ⟨trivial, ⟨fun eg => trivial, ⟨fun eg => ⟨fun e => e, trivial⟩, ⟨fun eg => ⟨fun e => e, ⟨trivial, trivial⟩⟩, ⟨⟨trivial, ⟨fun e => e, trivial⟩⟩, ⟨trivial, ⟨fun eg => trivial, ⟨fun eg => ⟨fun e => e, trivial⟩, ⟨fun eg => ⟨fun e => e, ⟨trivial, trivial⟩⟩, ⟨⟨trivial, ⟨fun e => e, trivial⟩⟩, ⟨trivial, trivial⟩⟩⟩⟩⟩⟩⟩⟩⟩⟩⟩⟩ ?_
      refine TL_end ?_
      obtain rfl := sinj h1
      refine tsn ?_
      exact SP_ren [] _ rfl ⟨rfl, trivial⟩ trivial rfl
    · replace h1 := bif_f h1 hb
      refine TL_gf (.bool false) rfl rfl rfl rfl rfl (by decide) ?_
      refine TL_gf (.bool false) rfl rfl rfl rfl rfl (by decide) ?_
      refine TL_gf (.bool false) rfl rfl rfl rfl rfl (by decide) ?_
      refine TL_ev env 2 rfl ⟨⟨trivial, ⟨fun e => e, trivial⟩⟩, ⟨trivial, trivial⟩⟩ ?_
      refine TL_gf (.bool false) rfl rfl rfl rfl rfl (by decide) ?_
      refine TL_gf (.bool false) rfl rfl rfl rfl rfl (by decide) ?_
      refine TL_gf (.bool false) rfl rfl rfl rfl rfl (by decide) ?_
      refine TL_ev env 2 rfl ⟨⟨trivial, ⟨fun e => e, trivial⟩⟩, ⟨trivial, trivial⟩⟩ ?_
      refine TL_gf (.bool false) rfl rfl rfl rfl rfl (by decide) ?_
      refine TL_gf (.bool false) rfl rfl rfl rfl rfl (by decide) ?_
      refine TL_gf (.bool false) rfl rfl rfl rfl rfl (by decide) ?_
      refine TL_ev env 2 rfl ⟨⟨trivial, ⟨fun e => e, trivial⟩⟩, ⟨trivial, trivial⟩⟩ ?_
      refine TL_end ?_
      obtain rfl := sinj h1
      refine tsn ?_
      exact SP_ren [] _ rfl ⟨rfl, trivial⟩ trivial rfl
  · rintro x4 hz
    obtain rfl := hz.symm
    refine TE_go ?_
    refine TC_ret ?_
    obtain rfl := sinj h0
    exact TE_ret env rfl trivial trivial
theorem psalteryref11_Lap.ok0 {K : Nat} {p0 : Int} {p1 : Int} {p2 : Int} {p3 : Int} {p4 : Int} {p5 : Int} {p6 : Int} {p7 : Int} {p8 : Int} {p9 : Int} {q0 : Bool} (h0 : psalteryref11_Lap K p0 p1 p2 p3 p4 p5 p6 p7 p8 p9 = some q0) : Fn Try.prog 86 [.agg [.int .i64 p0, .int .i64 p1, .int .i64 p2, .int .i64 p3, .int .i64 p4, .int .i64 p5, .int .i64 p6, .int .i64 p7, .int .i64 p8, .int .i64 p9]] [] (.bool q0) [] := psalteryref11_Lap.ok h0
theorem psalteryref11_Lap.fnb : fnb Try.prog 86 = true := fnb_of Try.func86 rfl
def psalteryref11_Check.res (_p0 : Int) (_p1 : Int) (_p2 : Int) (_p3 : Int) (_p4 : Int) (_p5 : Int) (_p6 : Int) (_p7 : Int) (_p8 : Int) (_p9 : Int) : Bool → MV
  | q0 => .bool q0
def psalteryref11_Check.out (_p0 : Int) (_p1 : Int) (_p2 : Int) (_p3 : Int) (_p4 : Int) (_p5 : Int) (_p6 : Int) (_p7 : Int) (_p8 : Int) (_p9 : Int) : Bool → List (Nat × Option MObj)
  | _ => []
theorem psalteryref11_Check.ok {K : Nat} {p0 : Int} {p1 : Int} {p2 : Int} {p3 : Int} {p4 : Int} {p5 : Int} {p6 : Int} {p7 : Int} {p8 : Int} {p9 : Int} {r : Bool} (h0 : psalteryref11_Check K p0 p1 p2 p3 p4 p5 p6 p7 p8 p9 = some r) : Fn Try.prog 32 [.agg [.int .i64 p0, .int .i64 p1, .int .i64 p2, .int .i64 p3, .int .i64 p4, .int .i64 p5, .int .i64 p6, .int .i64 p7, .int .i64 p8, .int .i64 p9]] [] (psalteryref11_Check.res p0 p1 p2 p3 p4 p5 p6 p7 p8 p9 r) (psalteryref11_Check.out p0 p1 p2 p3 p4 p5 p6 p7 p8 p9 r) := by
  refine Fn_of Try.func32 rfl (Nat.le_of_ble_eq_true rfl) fun Γ => ?_
  refine TC_seq ?_
  refine TC_reg ?_
  refine TL_ev env 2 rfl ⟨trivial, ⟨trivial, trivial⟩⟩ ?_
  refine TL_end ?_
  refine TE_go ?_
  refine TC_seq ?_
  obtain ⟨z1, h1, h0⟩ := bnd h0
  refine TC_cut (α := Bool) (fun s => z1 = s) (fun s => [(2, .bool s)]) (fun s => []) ?_ ?_
  · refine TC_reg ?_
    refine TL_ev env 1 rfl ⟨⟨trivial, trivial⟩, trivial⟩ ?_
    obtain ⟨r7, hr, h1⟩ := bnd h1
    refine TL_callB [] (psalteryref11_Sub.ok0 hr) psalteryref11_Sub.fnb rfl ⟨trivial, ⟨trivial, trivial⟩⟩ rfl trivial rfl ?_
    refine TL_ev env 1 rfl ⟨trivial, trivial⟩ ?_
    refine TL_split 5 rfl (fun hb => ?_) (fun hb => ?_)
    · replace h1 := bif_t h1 hb
      refine TL_gf (.bool false) rfl rfl rfl rfl rfl (by decide) ?_
      refine TL_gf (.bool false) rfl rfl rfl rfl rfl (by decide) ?_
      refine TL_ev env 2 rfl ⟨⟨trivial, ⟨trivial, fun e => e⟩⟩, ⟨trivial, trivial⟩⟩ ?_
      refine TL_end ?_
      obtain rfl := sinj h1
      refine tsn ?_
      exact SP_ren [] _ rfl ⟨rfl, trivial⟩ trivial rfl
    · replace h1 := bif_f h1 hb
      refine TL_gt rfl rfl rfl rfl ?_
      refine TL_ev env 1 rfl ⟨⟨trivial, trivial⟩, trivial⟩ ?_
      refine TL_gt rfl rfl rfl rfl ?_
      obtain ⟨r8, hr, h1⟩ := bnd h1
      refine TL_callB [] (psalteryref11_Lap.ok0 hr) psalteryref11_Lap.fnb rfl ⟨trivial, ⟨trivial, trivial⟩⟩ rfl trivial rfl ?_
      refine TL_ev env 2 rfl ⟨⟨trivial, ⟨trivial, trivial⟩⟩, ⟨trivial, trivial⟩⟩ ?_
      refine TL_end ?_
      obtain rfl := sinj h1
      refine tsn ?_
      exact SP_ren [] _ rfl ⟨rfl, trivial⟩ trivial rfl
  · rintro x6 hz
    obtain rfl := hz.symm
    refine TE_go ?_
    refine TC_ret ?_
    obtain rfl := sinj h0
    exact TE_ret env rfl trivial trivial
theorem psalteryref11_Check.ok0 {K : Nat} {p0 : Int} {p1 : Int} {p2 : Int} {p3 : Int} {p4 : Int} {p5 : Int} {p6 : Int} {p7 : Int} {p8 : Int} {p9 : Int} {q0 : Bool} (h0 : psalteryref11_Check K p0 p1 p2 p3 p4 p5 p6 p7 p8 p9 = some q0) : Fn Try.prog 32 [.agg [.int .i64 p0, .int .i64 p1, .int .i64 p2, .int .i64 p3, .int .i64 p4, .int .i64 p5, .int .i64 p6, .int .i64 p7, .int .i64 p8, .int .i64 p9]] [] (.bool q0) [] := psalteryref11_Check.ok h0
theorem psalteryref11_Check.fnb : fnb Try.prog 32 = true := fnb_of Try.func32 rfl
def psalteryref23_has.res (_p0 : Int) (_p1 : Int) : Bool → MV
  | q0 => .bool q0
def psalteryref23_has.out (_p0 : Int) (_p1 : Int) : Bool → List (Nat × Option MObj)
  | _ => []
theorem psalteryref23_has.ok {K : Nat} {p0 : Int} {p1 : Int} {r : Bool} (h0 : psalteryref23_has K p0 p1 = some r) : Fn Try.prog 99 [.int .i64 p0, .int .i64 p1] [] (psalteryref23_has.res p0 p1 r) (psalteryref23_has.out p0 p1 r) := by
  refine Fn_of Try.func99 rfl (Nat.le_of_ble_eq_true rfl) fun Γ => ?_
  refine TC_seq ?_
  refine TC_reg ?_
  refine TL_ev env 1 rfl ⟨trivial, trivial⟩ ?_
  refine TL_end ?_
  refine TE_go ?_
  refine TC_seq ?_
  refine TC_seq ?_
  refine TC_reg ?_
  refine TL_ev env 1 rfl ⟨trivial, trivial⟩ ?_
  refine TL_end ?_
  refine TE_go ?_
  obtain ⟨z1, h1, h0⟩ := bnd h0
  refine TC_cut (α := Int) (fun s => z1 = s) (fun s => [(0, .int .i64 s)]) (fun s => []) ?_ ?_
  · refine TC_blk ?_
    refine TC_loop (α := Int × Int) (fun n s => psalteryref23_has.l0 K p1 n s.1 s.2 = some z1) (fun s => [(0, .int .i64 s.1), (1, .int .i64 p1), (5, .int .i64 s.2)]) (fun s => []) K ?_ ?_
    · exact SP_ren [] (_, _) h1 ⟨rfl, rfl, rfl, trivial⟩ trivial rfl
    rintro n ⟨x12, x13⟩ h1
    rcases n with _ | n
    · exact (nsome h1).elim
    replace h1 : psalteryref23_has.r0 K p1 (psalteryref23_has.l0 K p1 n) x12 x13 = some z1 := h1
    refine TC_seq ?_
    refine TC_seq ?_
    refine TC_reg ?_
    refine TL_ev env 3 rfl ⟨trivial, ⟨trivial, ⟨⟨trivial, ⟨trivial, trivial⟩⟩, trivial⟩⟩⟩ ?_
    refine TL_end ?_
    refine TE_go ?_
    refine TC_cond rfl (fun hb => ?_) (fun hb => ?_)
    · replace h1 := bif_t h1 hb
      refine TC_skip ?_
      refine TE_go ?_
      refine TC_seq ?_
      refine TC_blk ?_
      refine TC_reg ?_
      refine TL_ev env 3 rfl ⟨trivial, ⟨⟨trivial, ⟨trivial, (by decide)⟩⟩, ⟨trivial, trivial⟩⟩⟩ ?_
      refine TL_end ?_
      refine tbn ?_
      refine TE_go ?_
      refine TC_reg ?_
      refine TL_ev env 3 rfl ⟨trivial, ⟨⟨trivial, ⟨trivial, trivial⟩⟩, ⟨trivial, trivial⟩⟩⟩ ?_
      refine TL_end ?_
      refine tsn ?_
      exact TE_nextr [] n (Nat.lt_succ_self n) (_, _) h1 ⟨rfl, rfl, rfl, trivial⟩ trivial rfl
    · replace h1 := bif_f h1 hb
      refine TC_exit ?_
      refine tsx ?_
      refine tsx ?_
      refine tbe ?_
      obtain rfl := sinj h1
      refine tsn ?_
      exact SP_ren [] _ rfl ⟨rfl, trivial⟩ trivial rfl
  · rintro x10 hz
    obtain rfl := hz.symm
    refine TE_go ?_
    refine TC_seq ?_
    refine TC_reg ?_
    refine TL_ev env 4 rfl ⟨trivial, ⟨⟨trivial, ⟨trivial, (by decide)⟩⟩, ⟨⟨trivial, ⟨trivial, trivial⟩⟩, ⟨trivial, trivial⟩⟩⟩⟩ ?_
    refine TL_end ?_
    refine TE_go ?_
    refine TC_ret ?_
    obtain rfl := sinj h0
    exact TE_ret env rfl trivial trivial
theorem psalteryref23_has.ok0 {K : Nat} {p0 : Int} {p1 : Int} {q0 : Bool} (h0 : psalteryref23_has K p0 p1 = some q0) : Fn Try.prog 99 [.int .i64 p0, .int .i64 p1] [] (.bool q0) [] := psalteryref23_has.ok h0
theorem psalteryref23_has.fnb : fnb Try.prog 99 = true := fnb_of Try.func99 rfl
def psalteryref23_Allows.res (_p0 : Int) (_p1 : Int) (_p2 : Int) (_p3 : Int) (_p4 : Int) (_p5 : Int) (_p6 : Int) (_p7 : Int) (_p8 : Int) (_p9 : Int) (_p10 : Int) (_p11 : Int) (_p12 : Int) (_p13 : Int) (_p14 : Int) (_p15 : Int) (_p16 : Int) (_p17 : Int) (_p18 : Int) (_p19 : Int) (_p20 : Int) (_p21 : Int) (_p22 : Int) (_p23 : Int) (_p24 : Int) (_p25 : Int) (_p26 : Int) : Bool → MV
  | q0 => .bool q0
def psalteryref23_Allows.out (_p0 : Int) (_p1 : Int) (_p2 : Int) (_p3 : Int) (_p4 : Int) (_p5 : Int) (_p6 : Int) (_p7 : Int) (_p8 : Int) (_p9 : Int) (_p10 : Int) (_p11 : Int) (_p12 : Int) (_p13 : Int) (_p14 : Int) (_p15 : Int) (_p16 : Int) (_p17 : Int) (_p18 : Int) (_p19 : Int) (_p20 : Int) (_p21 : Int) (_p22 : Int) (_p23 : Int) (_p24 : Int) (_p25 : Int) (_p26 : Int) : Bool → List (Nat × Option MObj)
  | _ => []
theorem psalteryref23_Allows.ok {K : Nat} {p0 : Int} {p1 : Int} {p2 : Int} {p3 : Int} {p4 : Int} {p5 : Int} {p6 : Int} {p7 : Int} {p8 : Int} {p9 : Int} {p10 : Int} {p11 : Int} {p12 : Int} {p13 : Int} {p14 : Int} {p15 : Int} {p16 : Int} {p17 : Int} {p18 : Int} {p19 : Int} {p20 : Int} {p21 : Int} {p22 : Int} {p23 : Int} {p24 : Int} {p25 : Int} {p26 : Int} {r : Bool} (h0 : psalteryref23_Allows K p0 p1 p2 p3 p4 p5 p6 p7 p8 p9 p10 p11 p12 p13 p14 p15 p16 p17 p18 p19 p20 p21 p22 p23 p24 p25 p26 = some r) : Fn Try.prog 48 [.agg [.int .i64 p0, .int .i64 p1, .int .i64 p2, .int .i64 p3, .int .i64 p4, .int .i64 p5, .int .i64 p6, .int .i64 p7, .int .i64 p8, .int .i64 p9, .int .i64 p10, .int .i64 p11, .int .i64 p12, .int .i64 p13, .int .i64 p14], .agg [.int .i64 p15, .int .i64 p16, .int .i64 p17, .int .i64 p18, .int .i64 p19, .int .i64 p20, .int .i64 p21, .int .i64 p22, .int .i64 p23, .int .i64 p24], .agg [.int .i64 p25, .int .i64 p26]] [] (psalteryref23_Allows.res p0 p1 p2 p3 p4 p5 p6 p7 p8 p9 p10 p11 p12 p13 p14 p15 p16 p17 p18 p19 p20 p21 p22 p23 p24 p25 p26 r) (psalteryref23_Allows.out p0 p1 p2 p3 p4 p5 p6 p7 p8 p9 p10 p11 p12 p13 p14 p15 p16 p17 p18 p19 p20 p21 p22 p23 p24 p25 p26 r) := by
  refine Fn_of Try.func48 rfl (Nat.le_of_ble_eq_true rfl) fun Γ => ?_
  refine TC_seq ?_
  refine TC_reg ?_
  refine TL_ev env 4 rfl ⟨trivial, ⟨trivial, ⟨trivial, ⟨trivial, trivial⟩⟩⟩⟩ ?_
  refine TL_end ?_
  refine TE_go ?_
  refine TC_seq ?_
  refine TC_seq ?_
  obtain ⟨z1, h1, h0⟩ := bnd h0
  refine TC_cut (α := Bool) (fun s => z1 = s) (fun s => [(3, .p 10800 0), (4, .p 10801 0), (42, .bool s)]) (fun s => [(10800, some (.cells [.int .i64 p0, .int .i64 p1, .int .i64 p2, .int .i64 p3, .int .i64 p4, .int .i64 p5, .int .i64 p6, .int .i64 p7, .int .i64 p8, .int .i64 p9, .int .i64 p10, .int .i64 p11, .int .i64 p12, .int .i64 p13, .int .i64 p14])), (10801, some (.cells [.int .i64 p15, .int .i64 p16, .int .i64 p17, .int .i64 p18, .int .i64 p19, .int .i64 p20, .int .i64 p21, .int .i64 p22, .int .i64 p23, .int .i64 p24]))]) ?_ ?_
  · refine TC_reg ?_
    refine TL_ev env 1 rfl ⟨⟨trivial, trivial⟩, trivial⟩ ?_
    obtain ⟨r70, hr, h1⟩ := bnd h1
    refine TL_callB [] (psalteryref23_Check.ok0 hr) psalteryref23_Check.fnb rfl ⟨trivial, ⟨trivial, trivial⟩⟩ rfl trivial rfl ?_
    refine TL_ev env 2 rfl ⟨trivial, ⟨trivial, trivial⟩⟩ ?_
    refine TL_split 14 rfl (fun hb => ?_) (fun hb => ?_)
    · replace h1 := bif_t h1 hb
      refine TL_gf (.bool false) rfl rfl rfl rfl rfl (by decide) ?_
      refine TL_gf (.bool false) rfl rfl rfl rfl rfl (by decide) ?_
      refine TL_gf (.bool false) rfl rfl rfl rfl rfl (by decide) ?_
      refine TL_ev env 2 rfl ⟨⟨trivial, ⟨trivial, fun e => e⟩⟩, ⟨trivial, trivial⟩⟩ ?_
      refine TL_gf (.bool false) rfl rfl rfl rfl rfl (by decide) ?_
      refine TL_gf (.bool false) rfl rfl rfl rfl rfl (by decide) ?_
      refine TL_gf (.bool false) rfl rfl rfl rfl rfl (by decide) ?_
      refine TL_ev env 2 rfl ⟨⟨trivial, ⟨trivial, fun e => e⟩⟩, ⟨trivial, trivial⟩⟩ ?_
      refine TL_gf (.bool false) rfl rfl rfl rfl rfl (by decide) ?_
      refine TL_gf (.bool false) rfl rfl rfl rfl rfl (by decide) ?_
      refine TL_gf (.bool false) rfl rfl rfl rfl rfl (by decide) ?_
      refine TL_gf (.bool false) rfl rfl rfl rfl rfl (by decide) ?_
      refine TL_gf (.bool false) rfl rfl rfl rfl rfl (by decide) ?_
      refine TL_ev env 2 rfl ⟨⟨trivial, ⟨trivial, fun e => e⟩⟩, ⟨trivial, trivial⟩⟩ ?_
      refine TL_gf (.bool false) rfl rfl rfl rfl rfl (by decide) ?_
      refine TL_gf (.bool false) rfl rfl rfl rfl rfl (by decide) ?_
      refine TL_gf (.bool false) rfl rfl rfl rfl rfl (by decide) ?_
      refine TL_ev env 2 rfl ⟨⟨trivial, ⟨trivial, fun e => e⟩⟩, ⟨trivial, trivial⟩⟩ ?_
      refine TL_gf (.bool false) rfl rfl rfl rfl rfl (by decide) ?_
      refine TL_gf (.bool false) rfl rfl rfl rfl rfl (by decide) ?_
      refine TL_gf (.bool false) rfl rfl rfl rfl rfl (by decide) ?_
      refine TL_gf (.bool false) rfl rfl rfl rfl rfl (by decide) ?_
      refine TL_gf (.bool false) rfl rfl rfl rfl rfl (by decide) ?_
      refine TL_ev env 1 rfl ⟨⟨trivial, ⟨trivial, fun e => e⟩⟩, trivial⟩ ?_
      refine TL_end ?_
      obtain rfl := sinj h1
      refine tsn ?_
      exact SP_ren [(10800, 1003), (10801, 1004)] _ rfl ⟨rfl, rfl, rfl, trivial⟩ ⟨rfl, rfl, trivial⟩ rfl
    · replace h1 := bif_f h1 hb
      refine TL_gt rfl rfl rfl rfl ?_
      refine TL_ev env 1 rfl ⟨⟨trivial, trivial⟩, trivial⟩ ?_
      refine TL_gt rfl rfl rfl rfl ?_
      obtain ⟨r71, hr, h1⟩ := bnd h1
      refine TL_callB [] (psalteryref11_Check.ok0 hr) psalteryref11_Check.fnb rfl ⟨trivial, ⟨trivial, trivial⟩⟩ rfl trivial rfl ?_
      refine TL_gt rfl rfl rfl rfl ?_
      refine TL_ev env 26 rfl ⟨trivial, ⟨⟨trivial, ⟨trivial, trivial⟩⟩, ⟨trivial, ⟨fun eg => trivial, ⟨fun eg => ⟨fun e => e, trivial⟩, ⟨fun eg => ⟨fun e => e, ⟨trivial, trivial⟩⟩, ⟨⟨trivial, ⟨trivial, fun e => e⟩⟩, ⟨trivial, ⟨fun eg => trivial, ⟨fun eg => ⟨fun e => e, trivial⟩, ⟨fun eg => trivial, ⟨fun eg => ⟨fun e => e, trivial⟩, ⟨fun eg => ⟨fun e => e, ⟨fun e => e, trivial⟩⟩, ⟨⟨trivial, ⟨trivial, fun e => e⟩⟩, ⟨trivial, ⟨fun eg => trivial, ⟨fun eg => ⟨fun e => e, trivial⟩, ⟨fun eg => ⟨fun e => e, ⟨trivial, trivial⟩⟩, ⟨⟨trivial, ⟨trivial, fun e => e⟩⟩, ⟨trivial, ⟨fun eg => trivial, ⟨fun eg => ⟨fun e => e, trivial⟩, ⟨fun eg => trivial, ⟨fun eg => ⟨fun e => e, trivial⟩, ⟨fun eg => ⟨fun e => e, ⟨fun e => e, trivial⟩⟩, ⟨⟨trivial, ⟨trivial, fun e => e⟩⟩, trivial⟩⟩⟩⟩⟩⟩⟩⟩⟩⟩⟩⟩⟩⟩⟩⟩⟩⟩⟩⟩⟩⟩⟩⟩⟩⟩ ?_
      refine TL_end ?_
      obtain rfl := sinj h1
      refine tsn ?_
      exact SP_ren [(10800, 1003), (10801, 1004)] _ rfl ⟨rfl, rfl, rfl, trivial⟩ ⟨rfl, rfl, trivial⟩ rfl
  · rintro x27 hz
    obtain rfl := hz.symm
    refine TE_go ?_
    refine TC_cond rfl (fun hb => ?_) (fun hb => ?_)
    · replace h0 := bif_t h0 hb
      refine TC_seq ?_
      refine TC_reg ?_
      refine TL_ev env 1 rfl ⟨trivial, trivial⟩ ?_
      refine TL_end ?_
      refine TE_go ?_
      refine TC_ret ?_
      refine tsr ?_
      obtain rfl := sinj h0
      exact TE_ret env rfl trivial trivial
    · replace h0 := bif_f h0 hb
      refine TC_skip ?_
      refine TE_go ?_
      refine TC_seq ?_
      refine TC_seq ?_
      refine TC_reg ?_
      refine TL_ev env 3 rfl ⟨trivial, ⟨⟨trivial, trivial⟩, ⟨⟨trivial, ⟨trivial, trivial⟩⟩, trivial⟩⟩⟩ ?_
      refine TL_end ?_
      refine TE_go ?_
      refine TC_cond rfl (fun hb => ?_) (fun hb => ?_)
      · replace h0 := bif_t h0 hb
        refine TC_seq ?_
        refine TC_reg ?_
        refine TL_ev env 4 rfl ⟨trivial, ⟨⟨trivial, trivial⟩, ⟨trivial, ⟨⟨trivial, trivial⟩, trivial⟩⟩⟩⟩ ?_
        refine TL_end ?_
        refine TE_go ?_
        refine TC_seq ?_
        refine TC_reg ?_
        refine TL_ev env 1 rfl ⟨trivial, trivial⟩ ?_
        refine TL_end ?_
        refine TE_go ?_
        refine TC_seq ?_
        refine TC_seq ?_
        refine TC_reg ?_
        refine TL_ev env 3 rfl ⟨trivial, ⟨⟨trivial, trivial⟩, ⟨⟨trivial, ⟨trivial, trivial⟩⟩, trivial⟩⟩⟩ ?_
        refine TL_end ?_
        refine TE_go ?_
        obtain ⟨z1, h1, h0⟩ := bnd h0
        refine TC_cut (α := Int) (fun s => z1 = s) (fun s => [(4, .p 11100 0), (7, .p 11101 0), (8, .int .i64 s)]) (fun s => [(11100, some (.cells [.int .i64 p15, .int .i64 p16, .int .i64 p17, .int .i64 p18, .int .i64 p19, .int .i64 p20, .int .i64 p21, .int .i64 p22, .int .i64 p23, .int .i64 p24])), (11101, some (.cells [.int .i64 p0, .int .i64 p1, .int .i64 p2, .int .i64 p3, .int .i64 p4, .int .i64 p5, .int .i64 p6, .int .i64 p7]))]) ?_ ?_
        · refine TC_cond rfl (fun hb => ?_) (fun hb => ?_)
          · replace h1 := bif_t h1 hb
            refine TC_reg ?_
            refine TL_ev env 1 rfl ⟨trivial, trivial⟩ ?_
            refine TL_end ?_
            obtain rfl := sinj h1
            refine tsn ?_
            exact SP_ren [(11100, 10801), (11101, 1007)] _ rfl ⟨rfl, rfl, rfl, trivial⟩ ⟨rfl, rfl, trivial⟩ rfl
          · replace h1 := bif_f h1 hb
            refine TC_skip ?_
            obtain rfl := sinj h1
            refine tsn ?_
            exact SP_ren [(11100, 10801), (11101, 1007)] _ rfl ⟨rfl, rfl, rfl, trivial⟩ ⟨rfl, rfl, trivial⟩ rfl
        · rintro x36 hz
          obtain rfl := hz.symm
          refine TE_go ?_
          refine TC_seq ?_
          obtain ⟨z1, h1, h0⟩ := bnd h0
          refine TC_cut (α := Bool) (fun s => z1 = s) (fun s => [(6, .bool s)]) (fun s => []) ?_ ?_
          · refine TC_reg ?_
            refine TL_ev env 4 rfl ⟨trivial, ⟨⟨trivial, trivial⟩, ⟨trivial, ⟨⟨trivial, trivial⟩, trivial⟩⟩⟩⟩ ?_
            obtain ⟨r44, hr, h1⟩ := bnd h1
            refine TL_callB [] (psalteryref23_has.ok0 hr) psalteryref23_has.fnb rfl ⟨trivial, ⟨trivial, ⟨trivial, trivial⟩⟩⟩ rfl trivial rfl ?_
            refine TL_ev env 1 rfl ⟨trivial, trivial⟩ ?_
            refine TL_split 56 rfl (fun hb => ?_) (fun hb => ?_)
            · replace h1 := bif_t h1 hb
              refine TL_gt rfl rfl rfl rfl ?_
              refine TL_ev env 1 rfl ⟨trivial, trivial⟩ ?_
              refine TL_gt rfl rfl rfl rfl ?_
              refine TL_ev env 1 rfl ⟨⟨trivial, trivial⟩, trivial⟩ ?_
              refine TL_gt rfl rfl rfl rfl ?_
              refine TL_ev env 1 rfl ⟨trivial, trivial⟩ ?_
              refine TL_gt rfl rfl rfl rfl ?_
              refine TL_ev env 1 rfl ⟨⟨trivial, trivial⟩, trivial⟩ ?_
              refine TL_gt rfl rfl rfl rfl ?_
              refine TL_ev env 1 rfl ⟨⟨trivial, ⟨trivial, trivial⟩⟩, trivial⟩ ?_
              refine TL_gt rfl rfl rfl rfl ?_
              obtain ⟨r46, hr, h1⟩ := bnd h1
              refine TL_callB [] (psalteryref23_has.ok0 hr) psalteryref23_has.fnb rfl ⟨trivial, ⟨trivial, ⟨trivial, trivial⟩⟩⟩ rfl trivial rfl ?_
              refine TL_ev env 2 rfl ⟨⟨trivial, ⟨trivial, trivial⟩⟩, ⟨trivial, trivial⟩⟩ ?_
              refine TL_split 64 rfl (fun hb => ?_) (fun hb => ?_)
              · replace h1 := bif_t h1 hb
                refine TL_gt rfl rfl rfl rfl ?_
                refine TL_ev env 1 rfl ⟨trivial, trivial⟩ ?_
                refine TL_gt rfl rfl rfl rfl ?_
                refine TL_ev env 1 rfl ⟨⟨trivial, trivial⟩, trivial⟩ ?_
                refine TL_gt rfl rfl rfl rfl ?_
                refine TL_ev env 1 rfl ⟨trivial, trivial⟩ ?_
                refine TL_gt rfl rfl rfl rfl ?_
                obtain ⟨r47, hr, h1⟩ := bnd h1
                refine TL_callB [] (psalteryref23_has.ok0 hr) psalteryref23_has.fnb rfl ⟨trivial, ⟨trivial, ⟨trivial, trivial⟩⟩⟩ rfl trivial rfl ?_
                refine TL_ev env 2 rfl ⟨⟨trivial, ⟨trivial, trivial⟩⟩, ⟨trivial, trivial⟩⟩ ?_
                refine TL_split 70 rfl (fun hb => ?_) (fun hb => ?_)
                · replace h1 := bif_t h1 hb
                  refine TL_gt rfl rfl rfl rfl ?_
                  refine TL_ev env 1 rfl ⟨trivial, trivial⟩ ?_
                  refine TL_gt rfl rfl rfl rfl ?_
                  refine TL_ev env 1 rfl ⟨⟨trivial, trivial⟩, trivial⟩ ?_
                  refine TL_gt rfl rfl rfl rfl ?_
                  refine TL_ev env 1 rfl ⟨trivial, trivial⟩ ?_
                  refine TL_gt rfl rfl rfl rfl ?_
                  refine TL_ev env 1 rfl ⟨⟨trivial, trivial⟩, trivial⟩ ?_
                  refine TL_gt rfl rfl rfl rfl ?_
                  refine TL_ev env 1 rfl ⟨⟨trivial, ⟨trivial, (by decide)⟩⟩, trivial⟩ ?_
                  refine TL_gt rfl rfl rfl rfl ?_
                  refine TL_ev env 1 rfl ⟨⟨trivial, ⟨trivial, trivial⟩⟩, trivial⟩ ?_
                  refine TL_gt rfl rfl rfl rfl ?_
                  obtain ⟨r50, hr, h1⟩ := bnd h1
                  refine TL_callB [] (psalteryref23_has.ok0 hr) psalteryref23_has.fnb rfl ⟨trivial, ⟨trivial, ⟨trivial, trivial⟩⟩⟩ rfl trivial rfl ?_
                  refine TL_ev env 2 rfl ⟨⟨trivial, ⟨trivial, trivial⟩⟩, ⟨trivial, trivial⟩⟩ ?_
                  refine TL_split 79 rfl (fun hb => ?_) (fun hb => ?_)
                  · replace h1 := bif_t h1 hb
                    refine TL_gt rfl rfl rfl rfl ?_
                    refine TL_ev env 1 rfl ⟨trivial, trivial⟩ ?_
                    refine TL_gt rfl rfl rfl rfl ?_
                    refine TL_ev env 1 rfl ⟨⟨trivial, trivial⟩, trivial⟩ ?_
                    refine TL_gt rfl rfl rfl rfl ?_
                    refine TL_ev env 1 rfl ⟨trivial, trivial⟩ ?_
                    refine TL_gt rfl rfl rfl rfl ?_
                    refine TL_ev env 1 rfl ⟨⟨trivial, trivial⟩, trivial⟩ ?_
                    refine TL_gt rfl rfl rfl rfl ?_
                    obtain ⟨r51, hr, h1⟩ := bnd h1
                    refine TL_callB [] (psalteryref23_has.ok0 hr) psalteryref23_has.fnb rfl ⟨trivial, ⟨trivial, ⟨trivial, trivial⟩⟩⟩ rfl trivial rfl ?_
                    refine TL_ev env 2 rfl ⟨⟨trivial, ⟨trivial, trivial⟩⟩, ⟨trivial, trivial⟩⟩ ?_
                    refine TL_split 86 rfl (fun hb => ?_) (fun hb => ?_)
                    · replace h1 := bif_t h1 hb
                      refine TL_gt rfl rfl rfl rfl ?_
                      refine TL_ev env 1 rfl ⟨trivial, trivial⟩ ?_
                      refine TL_gt rfl rfl rfl rfl ?_
                      refine TL_ev env 1 rfl ⟨⟨trivial, trivial⟩, trivial⟩ ?_
                      refine TL_gt rfl rfl rfl rfl ?_
                      refine TL_ev env 1 rfl ⟨trivial, trivial⟩ ?_
                      refine TL_gt rfl rfl rfl rfl ?_
                      refine TL_ev env 1 rfl ⟨⟨trivial, trivial⟩, trivial⟩ ?_
                      refine TL_gt rfl rfl rfl rfl ?_
                      obtain ⟨r52, hr, h1⟩ := bnd h1
                      refine TL_callB [] (psalteryref23_has.ok0 hr) psalteryref23_has.fnb rfl ⟨trivial, ⟨trivial, ⟨trivial, trivial⟩⟩⟩ rfl trivial rfl ?_
                      refine TL_ev env 16 rfl ⟨⟨trivial, ⟨trivial, trivial⟩⟩, ⟨trivial, ⟨fun eg => trivial, ⟨fun eg => ⟨fun e => e, trivial⟩, ⟨fun eg => trivial, ⟨fun eg => ⟨fun e => e, trivial⟩, ⟨fun eg => ⟨fun e => e, ⟨fun e => e, trivial⟩⟩, ⟨⟨trivial, ⟨fun e => e, trivial⟩⟩, ⟨trivial, ⟨fun eg => trivial, ⟨fun eg => ⟨fun e => e, trivial⟩, ⟨fun eg => trivial, ⟨fun eg => ⟨fun e => e, trivial⟩, ⟨fun eg => ⟨fun e => e, ⟨fun e => e, trivial⟩⟩, ⟨⟨trivial, ⟨fun e => e, trivial⟩⟩, ⟨trivial, trivial⟩⟩⟩⟩⟩⟩⟩⟩⟩⟩⟩⟩⟩⟩⟩⟩ ?_
                      refine TL_end ?_
                      obtain rfl := sinj h1
                      refine tsn ?_
                      exact SP_ren [] _ rfl ⟨rfl, trivial⟩ trivial rfl
                    · replace h1 := bif_f h1 hb
                      refine TL_gf (.bool false) rfl rfl rfl rfl rfl (by decide) ?_
                      refine TL_gf (.bool false) rfl rfl rfl rfl rfl (by decide) ?_
                      refine TL_gf (.bool false) rfl rfl rfl rfl rfl (by decide) ?_
                      refine TL_gf (.bool false) rfl rfl rfl rfl rfl (by decide) ?_
                      refine TL_gf (.bool false) rfl rfl rfl rfl rfl (by decide) ?_
                      refine TL_ev env 2 rfl ⟨⟨trivial, ⟨fun e => e, trivial⟩⟩, ⟨trivial, trivial⟩⟩ ?_
                      refine TL_gf (.bool false) rfl rfl rfl rfl rfl (by decide) ?_
                      refine TL_gf (.bool false) rfl rfl rfl rfl rfl (by decide) ?_
                      refine TL_gf (.bool false) rfl rfl rfl rfl rfl (by decide) ?_
                      refine TL_gf (.bool false) rfl rfl rfl rfl rfl (by decide) ?_
                      refine TL_gf (.bool false) rfl rfl rfl rfl rfl (by decide) ?_
                      refine TL_ev env 2 rfl ⟨⟨trivial, ⟨fun e => e, trivial⟩⟩, ⟨trivial, trivial⟩⟩ ?_
                      refine TL_gf (.bool false) rfl rfl rfl rfl rfl (by decide) ?_
                      refine TL_gf (.bool false) rfl rfl rfl rfl rfl (by decide) ?_
                      refine TL_gf (.bool false) rfl rfl rfl rfl rfl (by decide) ?_
                      refine TL_gf (.bool false) rfl rfl rfl rfl rfl (by decide) ?_
                      refine TL_gf (.bool false) rfl rfl rfl rfl rfl (by decide) ?_
                      refine TL_ev env 2 rfl ⟨⟨trivial, ⟨fun e => e, trivial⟩⟩, ⟨trivial, trivial⟩⟩ ?_
                      refine TL_end ?_
                      obtain rfl := sinj h1
                      refine tsn ?_
                      exact SP_ren [] _ rfl ⟨rfl, trivial⟩ trivial rfl
                  · replace h1 := bif_f h1 hb
                    refine TL_gf (.bool false) rfl rfl rfl rfl rfl (by decide) ?_
                    refine TL_gf (.bool false) rfl rfl rfl rfl rfl (by decide) ?_
                    refine TL_gf (.bool false) rfl rfl rfl rfl rfl (by decide) ?_
                    refine TL_gf (.bool false) rfl rfl rfl rfl rfl (by decide) ?_
                    refine TL_gf (.bool false) rfl rfl rfl rfl rfl (by decide) ?_
                    refine TL_ev env 2 rfl ⟨⟨trivial, ⟨fun e => e, trivial⟩⟩, ⟨trivial, trivial⟩⟩ ?_
                    refine TL_gf (.bool false) rfl rfl rfl rfl rfl (by decide) ?_
                    refine TL_gf (.bool false) rfl rfl rfl rfl rfl (by decide) ?_
                    refine TL_gf (.bool false) rfl rfl rfl rfl rfl (by decide) ?_
                    refine TL_gf (.bool false) rfl rfl rfl rfl rfl (by decide) ?_
                    refine TL_gf (.bool false) rfl rfl rfl rfl rfl (by decide) ?_
                    refine TL_ev env 2 rfl ⟨⟨trivial, ⟨fun e => e, trivial⟩⟩, ⟨trivial, trivial⟩⟩ ?_
                    refine TL_gf (.bool false) rfl rfl rfl rfl rfl (by decide) ?_
                    refine TL_gf (.bool false) rfl rfl rfl rfl rfl (by decide) ?_
                    refine TL_gf (.bool false) rfl rfl rfl rfl rfl (by decide) ?_
                    refine TL_gf (.bool false) rfl rfl rfl rfl rfl (by decide) ?_
                    refine TL_gf (.bool false) rfl rfl rfl rfl rfl (by decide) ?_
                    refine TL_ev env 2 rfl ⟨⟨trivial, ⟨fun e => e, trivial⟩⟩, ⟨trivial, trivial⟩⟩ ?_
                    refine TL_gf (.bool false) rfl rfl rfl rfl rfl (by decide) ?_
                    refine TL_gf (.bool false) rfl rfl rfl rfl rfl (by decide) ?_
                    refine TL_gf (.bool false) rfl rfl rfl rfl rfl (by decide) ?_
                    refine TL_gf (.bool false) rfl rfl rfl rfl rfl (by decide) ?_
                    refine TL_gf (.bool false) rfl rfl rfl rfl rfl (by decide) ?_
                    refine TL_ev env 2 rfl ⟨⟨trivial, ⟨fun e => e, trivial⟩⟩, ⟨trivial, trivial⟩⟩ ?_
                    refine TL_end ?_
                    obtain rfl := sinj h1
                    refine tsn ?_
                    exact SP_ren [] _ rfl ⟨rfl, trivial⟩ trivial rfl
                · replace h1 := bif_f h1 hb
                  refine TL_gf (.bool false) rfl rfl rfl rfl rfl (by decide) ?_
                  refine TL_gf (.bool false) rfl rfl rfl rfl rfl (by decide) ?_
                  refine TL_gf (.bool false) rfl rfl rfl rfl rfl (by decide) ?_
                  refine TL_gf (.bool false) rfl rfl rfl rfl rfl (by decide) ?_
                  refine TL_gf (.bool false) rfl rfl rfl rfl rfl (by decide) ?_
                  refine TL_gf (.bool false) rfl rfl rfl rfl rfl (by decide) ?_
                  refine TL_gf (.bool false) rfl rfl rfl rfl rfl (by decide) ?_
                  refine TL_ev env 2 rfl ⟨⟨trivial, ⟨fun e => e, trivial⟩⟩, ⟨trivial, trivial⟩⟩ ?_
                  refine TL_gf (.bool false) rfl rfl rfl rfl rfl (by decide) ?_
                  refine TL_gf (.bool false) rfl rfl rfl rfl rfl (by decide) ?_
                  refine TL_gf (.bool false) rfl rfl rfl rfl rfl (by decide) ?_
                  refine TL_gf (.bool false) rfl rfl rfl rfl rfl (by decide) ?_
                  refine TL_gf (.bool false) rfl rfl rfl rfl rfl (by decide) ?_
                  refine TL_ev env 2 rfl ⟨⟨trivial, ⟨fun e => e, trivial⟩⟩, ⟨trivial, trivial⟩⟩ ?_
                  refine TL_gf (.bool false) rfl rfl rfl rfl rfl (by decide) ?_
                  refine TL_gf (.bool false) rfl rfl rfl rfl rfl (by decide) ?_
                  refine TL_gf (.bool false) rfl rfl rfl rfl rfl (by decide) ?_
                  refine TL_gf (.bool false) rfl rfl rfl rfl rfl (by decide) ?_
                  refine TL_gf (.bool false) rfl rfl rfl rfl rfl (by decide) ?_
                  refine TL_ev env 2 rfl ⟨⟨trivial, ⟨fun e => e, trivial⟩⟩, ⟨trivial, trivial⟩⟩ ?_
                  refine TL_gf (.bool false) rfl rfl rfl rfl rfl (by decide) ?_
                  refine TL_gf (.bool false) rfl rfl rfl rfl rfl (by decide) ?_
                  refine TL_gf (.bool false) rfl rfl rfl rfl rfl (by decide) ?_
                  refine TL_gf (.bool false) rfl rfl rfl rfl rfl (by decide) ?_
                  refine TL_gf (.bool false) rfl rfl rfl rfl rfl (by decide) ?_
                  refine TL_ev env 2 rfl ⟨⟨trivial, ⟨fun e => e, trivial⟩⟩, ⟨trivial, trivial⟩⟩ ?_
                  refine TL_gf (.bool false) rfl rfl rfl rfl rfl (by decide) ?_
                  refine TL_gf (.bool false) rfl rfl rfl rfl rfl (by decide) ?_
                  refine TL_gf (.bool false) rfl rfl rfl rfl rfl (by decide) ?_
                  refine TL_gf (.bool false) rfl rfl rfl rfl rfl (by decide) ?_
                  refine TL_gf (.bool false) rfl rfl rfl rfl rfl (by decide) ?_
                  refine TL_ev env 2 rfl ⟨⟨trivial, ⟨fun e => e, trivial⟩⟩, ⟨trivial, trivial⟩⟩ ?_
                  refine TL_end ?_
                  obtain rfl := sinj h1
                  refine tsn ?_
                  exact SP_ren [] _ rfl ⟨rfl, trivial⟩ trivial rfl
              · replace h1 := bif_f h1 hb
                refine TL_gf (.bool false) rfl rfl rfl rfl rfl (by decide) ?_
                refine TL_gf (.bool false) rfl rfl rfl rfl rfl (by decide) ?_
                refine TL_gf (.bool false) rfl rfl rfl rfl rfl (by decide) ?_
                refine TL_gf (.bool false) rfl rfl rfl rfl rfl (by decide) ?_
                refine TL_ev env 2 rfl ⟨⟨trivial, ⟨fun e => e, trivial⟩⟩, ⟨trivial, trivial⟩⟩ ?_
                refine TL_gf (.bool false) rfl rfl rfl rfl rfl (by decide) ?_
                refine TL_gf (.bool false) rfl rfl rfl rfl rfl (by decide) ?_
                refine TL_gf (.bool false) rfl rfl rfl rfl rfl (by decide) ?_
                refine TL_gf (.bool false) rfl rfl rfl rfl rfl (by decide) ?_
                refine TL_gf (.bool false) rfl rfl rfl rfl rfl (by decide) ?_
                refine TL_gf (.bool false) rfl rfl rfl rfl rfl (by decide) ?_
                refine TL_gf (.bool false) rfl rfl rfl rfl rfl (by decide) ?_
                refine TL_ev env 2 rfl ⟨⟨trivial, ⟨fun e => e, trivial⟩⟩, ⟨trivial, trivial⟩⟩ ?_
                refine TL_gf (.bool false) rfl rfl rfl rfl rfl (by decide) ?_
                refine TL_gf (.bool false) rfl rfl rfl rfl rfl (by decide) ?_
                refine TL_gf (.bool false) rfl rfl rfl rfl rfl (by decide) ?_
                refine TL_gf (.bool false) rfl rfl rfl rfl rfl (by decide) ?_
                refine TL_gf (.bool false) rfl rfl rfl rfl rfl (by decide) ?_
                refine TL_ev env 2 rfl ⟨⟨trivial, ⟨fun e => e, trivial⟩⟩, ⟨trivial, trivial⟩⟩ ?_
                refine TL_gf (.bool false) rfl rfl rfl rfl rfl (by decide) ?_
                refine TL_gf (.bool false) rfl rfl rfl rfl rfl (by decide) ?_
                refine TL_gf (.bool false) rfl rfl rfl rfl rfl (by decide) ?_
                refine TL_gf (.bool false) rfl rfl rfl rfl rfl (by decide) ?_
                refine TL_gf (.bool false) rfl rfl rfl rfl rfl (by decide) ?_
                refine TL_ev env 2 rfl ⟨⟨trivial, ⟨fun e => e, trivial⟩⟩, ⟨trivial, trivial⟩⟩ ?_
                refine TL_gf (.bool false) rfl rfl rfl rfl rfl (by decide) ?_
                refine TL_gf (.bool false) rfl rfl rfl rfl rfl (by decide) ?_
                refine TL_gf (.bool false) rfl rfl rfl rfl rfl (by decide) ?_
                refine TL_gf (.bool false) rfl rfl rfl rfl rfl (by decide) ?_
                refine TL_gf (.bool false) rfl rfl rfl rfl rfl (by decide) ?_
                refine TL_ev env 2 rfl ⟨⟨trivial, ⟨fun e => e, trivial⟩⟩, ⟨trivial, trivial⟩⟩ ?_
                refine TL_gf (.bool false) rfl rfl rfl rfl rfl (by decide) ?_
                refine TL_gf (.bool false) rfl rfl rfl rfl rfl (by decide) ?_
                refine TL_gf (.bool false) rfl rfl rfl rfl rfl (by decide) ?_
                refine TL_gf (.bool false) rfl rfl rfl rfl rfl (by decide) ?_
                refine TL_gf (.bool false) rfl rfl rfl rfl rfl (by decide) ?_
                refine TL_ev env 2 rfl ⟨⟨trivial, ⟨fun e => e, trivial⟩⟩, ⟨trivial, trivial⟩⟩ ?_
                refine TL_end ?_
                obtain rfl := sinj h1
                refine tsn ?_
                exact SP_ren [] _ rfl ⟨rfl, trivial⟩ trivial rfl
            · replace h1 := bif_f h1 hb
              refine TL_gf (.bool false) rfl rfl rfl rfl rfl (by decide) ?_
              refine TL_gf (.bool false) rfl rfl rfl rfl rfl (by decide) ?_
              refine TL_gf (.bool false) rfl rfl rfl rfl rfl (by decide) ?_
              refine TL_gf (.bool false) rfl rfl rfl rfl rfl (by decide) ?_
              refine TL_gf (.bool false) rfl rfl rfl rfl rfl (by decide) ?_
              refine TL_gf (.bool false) rfl rfl rfl rfl rfl (by decide) ?_
              refine TL_ev env 2 rfl ⟨⟨trivial, ⟨fun e => e, trivial⟩⟩, ⟨trivial, trivial⟩⟩ ?_
              refine TL_gf (.bool false) rfl rfl rfl rfl rfl (by decide) ?_
              refine TL_gf (.bool false) rfl rfl rfl rfl rfl (by decide) ?_
              refine TL_gf (.bool false) rfl rfl rfl rfl rfl (by decide) ?_
              refine TL_gf (.bool false) rfl rfl rfl rfl rfl (by decide) ?_
              refine TL_ev env 2 rfl ⟨⟨trivial, ⟨fun e => e, trivial⟩⟩, ⟨trivial, trivial⟩⟩ ?_
              refine TL_gf (.bool false) rfl rfl rfl rfl rfl (by decide) ?_
              refine TL_gf (.bool false) rfl rfl rfl rfl rfl (by decide) ?_
              refine TL_gf (.bool false) rfl rfl rfl rfl rfl (by decide) ?_
              refine TL_gf (.bool false) rfl rfl rfl rfl rfl (by decide) ?_
              refine TL_gf (.bool false) rfl rfl rfl rfl rfl (by decide) ?_
              refine TL_gf (.bool false) rfl rfl rfl rfl rfl (by decide) ?_
              refine TL_gf (.bool false) rfl rfl rfl rfl rfl (by decide) ?_
              refine TL_ev env 2 rfl ⟨⟨trivial, ⟨fun e => e, trivial⟩⟩, ⟨trivial, trivial⟩⟩ ?_
              refine TL_gf (.bool false) rfl rfl rfl rfl rfl (by decide) ?_
              refine TL_gf (.bool false) rfl rfl rfl rfl rfl (by decide) ?_
              refine TL_gf (.bool false) rfl rfl rfl rfl rfl (by decide) ?_
              refine TL_gf (.bool false) rfl rfl rfl rfl rfl (by decide) ?_
              refine TL_gf (.bool false) rfl rfl rfl rfl rfl (by decide) ?_
              refine TL_ev env 2 rfl ⟨⟨trivial, ⟨fun e => e, trivial⟩⟩, ⟨trivial, trivial⟩⟩ ?_
              refine TL_gf (.bool false) rfl rfl rfl rfl rfl (by decide) ?_
              refine TL_gf (.bool false) rfl rfl rfl rfl rfl (by decide) ?_
              refine TL_gf (.bool false) rfl rfl rfl rfl rfl (by decide) ?_
              refine TL_gf (.bool false) rfl rfl rfl rfl rfl (by decide) ?_
              refine TL_gf (.bool false) rfl rfl rfl rfl rfl (by decide) ?_
              refine TL_ev env 2 rfl ⟨⟨trivial, ⟨fun e => e, trivial⟩⟩, ⟨trivial, trivial⟩⟩ ?_
              refine TL_gf (.bool false) rfl rfl rfl rfl rfl (by decide) ?_
              refine TL_gf (.bool false) rfl rfl rfl rfl rfl (by decide) ?_
              refine TL_gf (.bool false) rfl rfl rfl rfl rfl (by decide) ?_
              refine TL_gf (.bool false) rfl rfl rfl rfl rfl (by decide) ?_
              refine TL_gf (.bool false) rfl rfl rfl rfl rfl (by decide) ?_
              refine TL_ev env 2 rfl ⟨⟨trivial, ⟨fun e => e, trivial⟩⟩, ⟨trivial, trivial⟩⟩ ?_
              refine TL_gf (.bool false) rfl rfl rfl rfl rfl (by decide) ?_
              refine TL_gf (.bool false) rfl rfl rfl rfl rfl (by decide) ?_
              refine TL_gf (.bool false) rfl rfl rfl rfl rfl (by decide) ?_
              refine TL_gf (.bool false) rfl rfl rfl rfl rfl (by decide) ?_
              refine TL_gf (.bool false) rfl rfl rfl rfl rfl (by decide) ?_
              refine TL_ev env 2 rfl ⟨⟨trivial, ⟨fun e => e, trivial⟩⟩, ⟨trivial, trivial⟩⟩ ?_
              refine TL_end ?_
              obtain rfl := sinj h1
              refine tsn ?_
              exact SP_ren [] _ rfl ⟨rfl, trivial⟩ trivial rfl
          · rintro x43 hz
            obtain rfl := hz.symm
            refine TE_go ?_
            refine TC_ret ?_
            refine tsr ?_
            obtain rfl := sinj h0
            exact TE_ret env rfl trivial trivial
      · replace h0 := bif_f h0 hb
        refine TC_skip ?_
        refine TE_go ?_
        refine TC_seq ?_
        refine TC_reg ?_
        refine TL_ev env 4 rfl ⟨trivial, ⟨⟨trivial, trivial⟩, ⟨trivial, ⟨⟨trivial, trivial⟩, trivial⟩⟩⟩⟩ ?_
        refine TL_end ?_
        refine TE_go ?_
        refine TC_seq ?_
        refine TC_reg ?_
        refine TL_ev env 1 rfl ⟨trivial, trivial⟩ ?_
        refine TL_end ?_
        refine TE_go ?_
        refine TC_seq ?_
        refine TC_seq ?_
        refine TC_reg ?_
        refine TL_ev env 2 rfl ⟨trivial, ⟨⟨trivial, trivial⟩, trivial⟩⟩ ?_
        refine TL_end ?_
        refine TE_go ?_
        obtain ⟨z1, h1, h0⟩ := bnd h0
        refine TC_cut (α := Int) (fun s => z1 = s) (fun s => [(4, .p 11300 0), (9, .p 11301 0), (10, .int .i64 s)]) (fun s => [(11300, some (.cells [.int .i64 p15, .int .i64 p16, .int .i64 p17, .int .i64 p18, .int .i64 p19, .int .i64 p20, .int .i64 p21, .int .i64 p22, .int .i64 p23, .int .i64 p24])), (11301, some (.cells [.int .i64 p8, .int .i64 p9, .int .i64 p10, .int .i64 p11, .int .i64 p12]))]) ?_ ?_
        · refine TC_blk ?_
          refine TC_seq ?_
          refine TC_reg ?_
          refine TL_ev env 2 rfl ⟨⟨trivial, ⟨trivial, trivial⟩⟩, ⟨trivial, trivial⟩⟩ ?_
          refine TL_end ?_
          refine TE_go ?_
          refine TC_cond rfl (fun hb => ?_) (fun hb => ?_)
          · replace h1 := bif_t h1 hb
            refine TC_reg ?_
            refine TL_ev env 1 rfl ⟨trivial, trivial⟩ ?_
            refine TL_end ?_
            refine tbn ?_
            obtain rfl := sinj h1
            refine tsn ?_
            exact SP_ren [(11300, 10801), (11301, 1009)] _ rfl ⟨rfl, rfl, rfl, trivial⟩ ⟨rfl, rfl, trivial⟩ rfl
          · replace h1 := bif_f h1 hb
            refine TC_seq ?_
            refine TC_reg ?_
            refine TL_ev env 2 rfl ⟨⟨trivial, ⟨trivial, trivial⟩⟩, ⟨trivial, trivial⟩⟩ ?_
            refine TL_end ?_
            refine TE_go ?_
            refine TC_cond rfl (fun hb => ?_) (fun hb => ?_)
            · replace h1 := bif_t h1 hb
              refine TC_reg ?_
              refine TL_ev env 1 rfl ⟨trivial, trivial⟩ ?_
              refine TL_end ?_
              refine tbn ?_
              obtain rfl := sinj h1
              refine tsn ?_
              exact SP_ren [(11300, 10801), (11301, 1009)] _ rfl ⟨rfl, rfl, rfl, trivial⟩ ⟨rfl, rfl, trivial⟩ rfl
            · replace h1 := bif_f h1 hb
              refine TC_seq ?_
              refine TC_reg ?_
              refine TL_ev env 2 rfl ⟨⟨trivial, ⟨trivial, trivial⟩⟩, ⟨trivial, trivial⟩⟩ ?_
              refine TL_end ?_
              refine TE_go ?_
              refine TC_cond rfl (fun hb => ?_) (fun hb => ?_)
              · replace h1 := bif_t h1 hb
                refine TC_reg ?_
                refine TL_ev env 1 rfl ⟨trivial, trivial⟩ ?_
                refine TL_end ?_
                refine tbn ?_
                obtain rfl := sinj h1
                refine tsn ?_
                exact SP_ren [(11300, 10801), (11301, 1009)] _ rfl ⟨rfl, rfl, rfl, trivial⟩ ⟨rfl, rfl, trivial⟩ rfl
              · replace h1 := bif_f h1 hb
                refine TC_skip ?_
                refine tbn ?_
                obtain rfl := sinj h1
                refine tsn ?_
                exact SP_ren [(11300, 10801), (11301, 1009)] _ rfl ⟨rfl, rfl, rfl, trivial⟩ ⟨rfl, rfl, trivial⟩ rfl
        · rintro x57 hz
          obtain rfl := hz.symm
          refine TE_go ?_
          refine TC_seq ?_
          obtain ⟨z1, h1, h0⟩ := bnd h0
          refine TC_cut (α := Bool) (fun s => z1 = s) (fun s => [(6, .bool s)]) (fun s => []) ?_ ?_
          · refine TC_reg ?_
            refine TL_ev env 4 rfl ⟨trivial, ⟨⟨trivial, trivial⟩, ⟨trivial, ⟨⟨trivial, trivial⟩, trivial⟩⟩⟩⟩ ?_
            obtain ⟨r62, hr, h1⟩ := bnd h1
            refine TL_callB [] (psalteryref23_has.ok0 hr) psalteryref23_has.fnb rfl ⟨trivial, ⟨trivial, ⟨trivial, trivial⟩⟩⟩ rfl trivial rfl ?_
            refine TL_ev env 1 rfl ⟨trivial, trivial⟩ ?_
            refine TL_split 122 rfl (fun hb => ?_) (fun hb => ?_)
            · replace h1 := bif_t h1 hb
              refine TL_gt rfl rfl rfl rfl ?_
              refine TL_ev env 1 rfl ⟨trivial, trivial⟩ ?_
              refine TL_gt rfl rfl rfl rfl ?_
              refine TL_ev env 1 rfl ⟨⟨trivial, trivial⟩, trivial⟩ ?_
              refine TL_gt rfl rfl rfl rfl ?_
              refine TL_ev env 1 rfl ⟨trivial, trivial⟩ ?_
              refine TL_gt rfl rfl rfl rfl ?_
              refine TL_ev env 1 rfl ⟨⟨trivial, trivial⟩, trivial⟩ ?_
              refine TL_gt rfl rfl rfl rfl ?_
              refine TL_ev env 1 rfl ⟨⟨trivial, ⟨trivial, trivial⟩⟩, trivial⟩ ?_
              refine TL_gt rfl rfl rfl rfl ?_
              obtain ⟨r64, hr, h1⟩ := bnd h1
              refine TL_callB [] (psalteryref23_has.ok0 hr) psalteryref23_has.fnb rfl ⟨trivial, ⟨trivial, ⟨trivial, trivial⟩⟩⟩ rfl trivial rfl ?_
              refine TL_ev env 2 rfl ⟨⟨trivial, ⟨trivial, trivial⟩⟩, ⟨trivial, trivial⟩⟩ ?_
              refine TL_split 130 rfl (fun hb => ?_) (fun hb => ?_)
              · replace h1 := bif_t h1 hb
                refine TL_gt rfl rfl rfl rfl ?_
                refine TL_ev env 1 rfl ⟨trivial, trivial⟩ ?_
                refine TL_gt rfl rfl rfl rfl ?_
                refine TL_ev env 1 rfl ⟨⟨trivial, trivial⟩, trivial⟩ ?_
                refine TL_gt rfl rfl rfl rfl ?_
                refine TL_ev env 1 rfl ⟨trivial, trivial⟩ ?_
                refine TL_gt rfl rfl rfl rfl ?_
                obtain ⟨r65, hr, h1⟩ := bnd h1
                refine TL_callB [] (psalteryref23_has.ok0 hr) psalteryref23_has.fnb rfl ⟨trivial, ⟨trivial, ⟨trivial, trivial⟩⟩⟩ rfl trivial rfl ?_
                refine TL_ev env 16 rfl ⟨⟨trivial, ⟨trivial, trivial⟩⟩, ⟨trivial, ⟨fun eg => trivial, ⟨fun eg => ⟨fun e => e, trivial⟩, ⟨fun eg => trivial, ⟨fun eg => ⟨fun e => e, trivial⟩, ⟨fun eg => ⟨fun e => e, ⟨fun e => e, trivial⟩⟩, ⟨⟨trivial, ⟨fun e => e, trivial⟩⟩, ⟨trivial, ⟨fun eg => trivial, ⟨fun eg => ⟨fun e => e, trivial⟩, ⟨fun eg => trivial, ⟨fun eg => ⟨fun e => e, trivial⟩, ⟨fun eg => ⟨fun e => e, ⟨fun e => e, trivial⟩⟩, ⟨⟨trivial, ⟨fun e => e, trivial⟩⟩, ⟨trivial, trivial⟩⟩⟩⟩⟩⟩⟩⟩⟩⟩⟩⟩⟩⟩⟩⟩ ?_
                refine TL_end ?_
                obtain rfl := sinj h1
                refine tsn ?_
                exact SP_ren [] _ rfl ⟨rfl, trivial⟩ trivial rfl
              · replace h1 := bif_f h1 hb
                refine TL_gf (.bool false) rfl rfl rfl rfl rfl (by decide) ?_
                refine TL_gf (.bool false) rfl rfl rfl rfl rfl (by decide) ?_
                refine TL_gf (.bool false) rfl rfl rfl rfl rfl (by decide) ?_
                refine TL_gf (.bool false) rfl rfl rfl rfl rfl (by decide) ?_
                refine TL_ev env 2 rfl ⟨⟨trivial, ⟨fun e => e, trivial⟩⟩, ⟨trivial, trivial⟩⟩ ?_
                refine TL_gf (.bool false) rfl rfl rfl rfl rfl (by decide) ?_
                refine TL_gf (.bool false) rfl rfl rfl rfl rfl (by decide) ?_
                refine TL_gf (.bool false) rfl rfl rfl rfl rfl (by decide) ?_
                refine TL_gf (.bool false) rfl rfl rfl rfl rfl (by decide) ?_
                refine TL_gf (.bool false) rfl rfl rfl rfl rfl (by decide) ?_
                refine TL_ev env 2 rfl ⟨⟨trivial, ⟨fun e => e, trivial⟩⟩, ⟨trivial, trivial⟩⟩ ?_
                refine TL_gf (.bool false) rfl rfl rfl rfl rfl (by decide) ?_
                refine TL_gf (.bool false) rfl rfl rfl rfl rfl (by decide) ?_
                refine TL_gf (.bool false) rfl rfl rfl rfl rfl (by decide) ?_
                refine TL_gf (.bool false) rfl rfl rfl rfl rfl (by decide) ?_
                refine TL_gf (.bool false) rfl rfl rfl rfl rfl (by decide) ?_
                refine TL_ev env 2 rfl ⟨⟨trivial, ⟨fun e => e, trivial⟩⟩, ⟨trivial, trivial⟩⟩ ?_
                refine TL_end ?_
                obtain rfl := sinj h1
                refine tsn ?_
                exact SP_ren [] _ rfl ⟨rfl, trivial⟩ trivial rfl
            · replace h1 := bif_f h1 hb
              refine TL_gf (.bool false) rfl rfl rfl rfl rfl (by decide) ?_
              refine TL_gf (.bool false) rfl rfl rfl rfl rfl (by decide) ?_
              refine TL_gf (.bool false) rfl rfl rfl rfl rfl (by decide) ?_
              refine TL_gf (.bool false) rfl rfl rfl rfl rfl (by decide) ?_
              refine TL_gf (.bool false) rfl rfl rfl rfl rfl (by decide) ?_
              refine TL_gf (.bool false) rfl rfl rfl rfl rfl (by decide) ?_
              refine TL_ev env 2 rfl ⟨⟨trivial, ⟨fun e => e, trivial⟩⟩, ⟨trivial, trivial⟩⟩ ?_
              refine TL_gf (.bool false) rfl rfl rfl rfl rfl (by decide) ?_
              refine TL_gf (.bool false) rfl rfl rfl rfl rfl (by decide) ?_
              refine TL_gf (.bool false) rfl rfl rfl rfl rfl (by decide) ?_
              refine TL_gf (.bool false) rfl rfl rfl rfl rfl (by decide) ?_
              refine TL_ev env 2 rfl ⟨⟨trivial, ⟨fun e => e, trivial⟩⟩, ⟨trivial, trivial⟩⟩ ?_
              refine TL_gf (.bool false) rfl rfl rfl rfl rfl (by decide) ?_
              refine TL_gf (.bool false) rfl rfl rfl rfl rfl (by decide) ?_
              refine TL_gf (.bool false) rfl rfl rfl rfl rfl (by decide) ?_
              refine TL_gf (.bool false) rfl rfl rfl rfl rfl (by decide) ?_
              refine TL_gf (.bool false) rfl rfl rfl rfl rfl (by decide) ?_
              refine TL_ev env 2 rfl ⟨⟨trivial, ⟨fun e => e, trivial⟩⟩, ⟨trivial, trivial⟩⟩ ?_
              refine TL_gf (.bool false) rfl rfl rfl rfl rfl (by decide) ?_
              refine TL_gf (.bool false) rfl rfl rfl rfl rfl (by decide) ?_
              refine TL_gf (.bool false) rfl rfl rfl rfl rfl (by decide) ?_
              refine TL_gf (.bool false) rfl rfl rfl rfl rfl (by decide) ?_
              refine TL_gf (.bool false) rfl rfl rfl rfl rfl (by decide) ?_
              refine TL_ev env 2 rfl ⟨⟨trivial, ⟨fun e => e, trivial⟩⟩, ⟨trivial, trivial⟩⟩ ?_
              refine TL_end ?_
              obtain rfl := sinj h1
              refine tsn ?_
              exact SP_ren [] _ rfl ⟨rfl, trivial⟩ trivial rfl
          · rintro x61 hz
            obtain rfl := hz.symm
            refine TE_go ?_
            refine TC_ret ?_
            obtain rfl := sinj h0
            exact TE_ret env rfl trivial trivial
theorem psalteryref23_Allows.ok0 {K : Nat} {p0 : Int} {p1 : Int} {p2 : Int} {p3 : Int} {p4 : Int} {p5 : Int} {p6 : Int} {p7 : Int} {p8 : Int} {p9 : Int} {p10 : Int} {p11 : Int} {p12 : Int} {p13 : Int} {p14 : Int} {p15 : Int} {p16 : Int} {p17 : Int} {p18 : Int} {p19 : Int} {p20 : Int} {p21 : Int} {p22 : Int} {p23 : Int} {p24 : Int} {p25 : Int} {p26 : Int} {q0 : Bool} (h0 : psalteryref23_Allows K p0 p1 p2 p3 p4 p5 p6 p7 p8 p9 p10 p11 p12 p13 p14 p15 p16 p17 p18 p19 p20 p21 p22 p23 p24 p25 p26 = some q0) : Fn Try.prog 48 [.agg [.int .i64 p0, .int .i64 p1, .int .i64 p2, .int .i64 p3, .int .i64 p4, .int .i64 p5, .int .i64 p6, .int .i64 p7, .int .i64 p8, .int .i64 p9, .int .i64 p10, .int .i64 p11, .int .i64 p12, .int .i64 p13, .int .i64 p14], .agg [.int .i64 p15, .int .i64 p16, .int .i64 p17, .int .i64 p18, .int .i64 p19, .int .i64 p20, .int .i64 p21, .int .i64 p22, .int .i64 p23, .int .i64 p24], .agg [.int .i64 p25, .int .i64 p26]] [] (.bool q0) [] := psalteryref23_Allows.ok h0
theorem psalteryref23_Allows.fnb : fnb Try.prog 48 = true := fnb_of Try.func48 rfl
end Go.Fo
