/- Each call comes to the function that is written for it. -/
import Derived.Test.YtcaehpgdcjonfaaObT
import Derived.Test.YtcaehpgdcjonfaaObF
import Derived.Test.YtcaehpgdcjonfaaObP0
import Derived.Test.YtcaehpgdcjonfaaObP1
namespace Go.Fo
open Go.Proofs
set_option maxRecDepth 20000
set_option maxHeartbeats 4000000
def offer_down_10.res (_p0 : Int) (_p1 : Int) (_p2 : Int) (_p3 : Int) (_p4 : Int) (_p5 : Int) (_p6 : Int) (_p7 : Int) (_p8 : Int) (_p9 : Int) (_p10 : Int) (_p11 : Int) (_p12 : Int) (_p13 : Int) (_p14 : Int) (_p15 : Int) (_p16 : Int) (_p17 : Int) (_p18 : Int) (_p19 : Int) (_p20 : Int) (_p21 : Int) (_p22 : Int) (_p23 : Int) (_p24 : Int) (_p25 : Int) (_p26 : Int) (_p27 : Int) (_p28 : Int) : Bool × Int × Int × Int × Int × Int × Int × Int × Int × Int × Int → MV
  | (q0, _, _, _, _, _, _, _, _, _, _) => .bool q0
def offer_down_10.out (_p0 : Int) (_p1 : Int) (p2 : Int) (p3 : Int) (p4 : Int) (p5 : Int) (p6 : Int) (p7 : Int) (p8 : Int) (p9 : Int) (p10 : Int) (p11 : Int) (p12 : Int) (p13 : Int) (p14 : Int) (p15 : Int) (p16 : Int) (p17 : Int) (p18 : Int) (_p19 : Int) (_p20 : Int) (_p21 : Int) (_p22 : Int) (_p23 : Int) (_p24 : Int) (_p25 : Int) (_p26 : Int) (_p27 : Int) (_p28 : Int) : Bool × Int × Int × Int × Int × Int × Int × Int × Int × Int × Int → List (Nat × Option MObj)
  | (_, q1, q2, q3, q4, q5, q6, q7, q8, q9, q10) => [(0, some (.cells [.int .i64 p2, .int .i64 p3, .int .i64 p4, .int .i64 p5, .int .i64 p6, .int .i64 p7, .int .i64 p8, .int .i64 p9, .int .i64 p10, .int .i64 p11, .int .i64 p12, .int .i64 p13, .int .i64 p14, .int .i64 p15, .int .i64 p16])), (1, some (.cells [.fn 116 [.p 0 0, .p 2 0, .p 3 0]])), (2, some (.cells [.int .i64 p17, .int .i64 p18])), (3, some (.cells [.int .i64 q1, .int .i64 q2, .int .i64 q3, .int .i64 q4, .int .i64 q5, .int .i64 q6, .int .i64 q7, .int .i64 q8, .int .i64 q9, .int .i64 q10]))]
theorem offer_down_10.ok {K : Nat} {p0 : Int} {p1 : Int} {p2 : Int} {p3 : Int} {p4 : Int} {p5 : Int} {p6 : Int} {p7 : Int} {p8 : Int} {p9 : Int} {p10 : Int} {p11 : Int} {p12 : Int} {p13 : Int} {p14 : Int} {p15 : Int} {p16 : Int} {p17 : Int} {p18 : Int} {p19 : Int} {p20 : Int} {p21 : Int} {p22 : Int} {p23 : Int} {p24 : Int} {p25 : Int} {p26 : Int} {p27 : Int} {p28 : Int} {r : Bool × Int × Int × Int × Int × Int × Int × Int × Int × Int × Int} (h0 : offer_down_10 K p0 p1 p2 p3 p4 p5 p6 p7 p8 p9 p10 p11 p12 p13 p14 p15 p16 p17 p18 p19 p20 p21 p22 p23 p24 p25 p26 p27 p28 = some r) : Fn Try.prog 117 [.int .i64 p0, .int .i64 p1, .fn 118 [.p 0 0, .p 1 0]] [(0, some (.cells [.int .i64 p2, .int .i64 p3, .int .i64 p4, .int .i64 p5, .int .i64 p6, .int .i64 p7, .int .i64 p8, .int .i64 p9, .int .i64 p10, .int .i64 p11, .int .i64 p12, .int .i64 p13, .int .i64 p14, .int .i64 p15, .int .i64 p16])), (1, some (.cells [.fn 116 [.p 0 0, .p 2 0, .p 3 0]])), (2, some (.cells [.int .i64 p17, .int .i64 p18])), (3, some (.cells [.int .i64 p19, .int .i64 p20, .int .i64 p21, .int .i64 p22, .int .i64 p23, .int .i64 p24, .int .i64 p25, .int .i64 p26, .int .i64 p27, .int .i64 p28]))] (offer_down_10.res p0 p1 p2 p3 p4 p5 p6 p7 p8 p9 p10 p11 p12 p13 p14 p15 p16 p17 p18 p19 p20 p21 p22 p23 p24 p25 p26 p27 p28 r) (offer_down_10.out p0 p1 p2 p3 p4 p5 p6 p7 p8 p9 p10 p11 p12 p13 p14 p15 p16 p17 p18 p19 p20 p21 p22 p23 p24 p25 p26 p27 p28 r) := by
  refine Fn_of Try.func117 rfl (Nat.le_of_ble_eq_true rfl) fun Γ => ?_
  refine TC_seq ?_
  refine TC_reg ?_
  refine TL_ev env 1 rfl ⟨tv, tv⟩ ?_
  refine TL_end ?_
  refine TE_go ?_
  refine TC_seq ?_
  refine TC_seq ?_
  refine TC_reg ?_
  refine TL_ev env 2 rfl ⟨tv, ⟨tv, tv⟩⟩ ?_
  refine TL_end ?_
  refine TE_go ?_
  obtain ⟨z1, h1, h0⟩ := bnd h0
  refine TC_cut (α := Int × Int × Int × Int × Int × Int × Int × Int × Int × Int) (fun s => z1 = .inl s) (fun s => []) (fun s => [(0, some (.cells [.int .i64 p2, .int .i64 p3, .int .i64 p4, .int .i64 p5, .int .i64 p6, .int .i64 p7, .int .i64 p8, .int .i64 p9, .int .i64 p10, .int .i64 p11, .int .i64 p12, .int .i64 p13, .int .i64 p14, .int .i64 p15, .int .i64 p16])), (1, some (.cells [.fn 116 [.p 0 0, .p 2 0, .p 3 0]])), (2, some (.cells [.int .i64 p17, .int .i64 p18])), (3, some (.cells [.int .i64 s.1, .int .i64 s.2.1, .int .i64 s.2.2.1, .int .i64 s.2.2.2.1, .int .i64 s.2.2.2.2.1, .int .i64 s.2.2.2.2.2.1, .int .i64 s.2.2.2.2.2.2.1, .int .i64 s.2.2.2.2.2.2.2.1, .int .i64 s.2.2.2.2.2.2.2.2.1, .int .i64 s.2.2.2.2.2.2.2.2.2]))]) ?_ ?_
  · refine TC_blk ?_
    refine TC_loop (α := Int × Int × Int × Int × Int × Int × Int × Int × Int × Int × Int) (fun n s => offer_down_10.l0 K p1 p2 p3 p4 p5 p6 p7 p8 p9 p10 p11 p12 p13 p14 p15 p16 p17 p18 n s.1 s.2.1 s.2.2.1 s.2.2.2.1 s.2.2.2.2.1 s.2.2.2.2.2.1 s.2.2.2.2.2.2.1 s.2.2.2.2.2.2.2.1 s.2.2.2.2.2.2.2.2.1 s.2.2.2.2.2.2.2.2.2.1 s.2.2.2.2.2.2.2.2.2.2 = some z1) (fun s => [(1, .int .i64 p1), (2, .fn 118 [.p 0 0, .p 1 0]), (7, .int .i64 s.1)]) (fun s => [(0, some (.cells [.int .i64 p2, .int .i64 p3, .int .i64 p4, .int .i64 p5, .int .i64 p6, .int .i64 p7, .int .i64 p8, .int .i64 p9, .int .i64 p10, .int .i64 p11, .int .i64 p12, .int .i64 p13, .int .i64 p14, .int .i64 p15, .int .i64 p16])), (1, some (.cells [.fn 116 [.p 0 0, .p 2 0, .p 3 0]])), (2, some (.cells [.int .i64 p17, .int .i64 p18])), (3, some (.cells [.int .i64 s.2.1, .int .i64 s.2.2.1, .int .i64 s.2.2.2.1, .int .i64 s.2.2.2.2.1, .int .i64 s.2.2.2.2.2.1, .int .i64 s.2.2.2.2.2.2.1, .int .i64 s.2.2.2.2.2.2.2.1, .int .i64 s.2.2.2.2.2.2.2.2.1, .int .i64 s.2.2.2.2.2.2.2.2.2.1, .int .i64 s.2.2.2.2.2.2.2.2.2.2]))]) K ?_ ?_
    · exact SP_ren [] (_, _, _, _, _, _, _, _, _, _, _) h1 ⟨rfl, rfl, rfl, tv⟩ ⟨rfl, rfl, rfl, rfl, tv⟩ rfl
    rintro n ⟨x175, x176, x177, x178, x179, x180, x181, x182, x183, x184, x185⟩ h1
    rcases n with _ | n
    · exact (nsome h1).elim
    replace h1 : offer_down_10.r0 K p1 p2 p3 p4 p5 p6 p7 p8 p9 p10 p11 p12 p13 p14 p15 p16 p17 p18 (offer_down_10.l0 K p1 p2 p3 p4 p5 p6 p7 p8 p9 p10 p11 p12 p13 p14 p15 p16 p17 p18 n) x175 x176 x177 x178 x179 x180 x181 x182 x183 x184 x185 = some z1 := h1
    refine TC_seq ?_
    refine TC_seq ?_
    refine TC_reg ?_
    refine TL_ev env 3 rfl ⟨tv, ⟨tv, ⟨⟨tv, ⟨tv, tv⟩⟩, tv⟩⟩⟩ ?_
    refine TL_end ?_
    refine TE_go ?_
    refine TC_cond rfl (fun hb => ?_) (fun hb => ?_)
    · replace h1 := bif_t h1 hb
      refine TC_skip ?_
      refine TE_go ?_
      refine TC_seq ?_
      refine TC_blk ?_
      refine TC_seq ?_
      refine TC_reg ?_
      refine TL_ev env 2 rfl ⟨tv, ⟨tv, tv⟩⟩ ?_
      obtain ⟨⟨r231, r232, r233, r234, r235, r236, r237, r238, r239, r240, r241⟩, hr, h1⟩ := bnd h1
      refine TL_callB [(0, 0), (1, 1), (2, 2), (3, 3)] (offer_Choose_2.ok0 hr) offer_Choose_2.fnb rfl ⟨tv, ⟨tv, tv⟩⟩ rfl ⟨.inr rfl, .inr rfl, .inr rfl, .inr rfl, tv⟩ rfl ?_
      refine TL_end ?_
      refine TE_go ?_
      refine TC_cond rfl (fun hb => ?_) (fun hb => ?_)
      · replace h1 := bif_t h1 hb
        refine TC_seq ?_
        refine TC_reg ?_
        refine TL_ev env 1 rfl ⟨tv, tv⟩ ?_
        refine TL_end ?_
        refine TE_go ?_
        refine TC_ret ?_
        refine tbr ?_
        refine tsr ?_
        refine tsr ?_
        refine tbr ?_
        refine tsr ?_
        refine tsr ?_
        obtain rfl := sinj h1
        obtain rfl := sinj h0
        exact TE_ret env rfl tv ⟨.inr rfl, .inr rfl, .inr rfl, .inr rfl, tv⟩
      · replace h1 := bif_f h1 hb
        refine TC_skip ?_
        refine tbn ?_
        refine TE_go ?_
        refine TC_reg ?_
        refine TL_ev env 3 rfl ⟨tv, ⟨⟨tv, ⟨tv, tv⟩⟩, ⟨tv, tv⟩⟩⟩ ?_
        refine TL_end ?_
        refine tsn ?_
        exact TE_nextr [] n (Nat.lt_succ_self n) (_, _, _, _, _, _, _, _, _, _, _) h1 ⟨rfl, rfl, rfl, tv⟩ ⟨rfl, rfl, rfl, rfl, tv⟩ rfl
    · replace h1 := bif_f h1 hb
      refine TC_exit ?_
      refine tsx ?_
      refine tsx ?_
      refine tbe ?_
      obtain rfl := sinj h1
      refine tsn ?_
      exact SP_ren [] (_, _, _, _, _, _, _, _, _, _) rfl tv ⟨rfl, rfl, rfl, rfl, tv⟩ rfl
  · rintro ⟨x143, x144, x145, x146, x147, x148, x149, x150, x151, x152⟩ rfl
    refine TE_go ?_
    refine TC_seq ?_
    refine TC_reg ?_
    refine TL_ev env 1 rfl ⟨tv, tv⟩ ?_
    refine TL_end ?_
    refine TE_go ?_
    refine TC_ret ?_
    obtain rfl := sinj h0
    exact TE_ret env rfl tv ⟨.inr rfl, .inr rfl, .inr rfl, .inr rfl, tv⟩
theorem offer_down_10.ok0 {K : Nat} {p0 : Int} {p1 : Int} {p2 : Int} {p3 : Int} {p4 : Int} {p5 : Int} {p6 : Int} {p7 : Int} {p8 : Int} {p9 : Int} {p10 : Int} {p11 : Int} {p12 : Int} {p13 : Int} {p14 : Int} {p15 : Int} {p16 : Int} {p17 : Int} {p18 : Int} {p19 : Int} {p20 : Int} {p21 : Int} {p22 : Int} {p23 : Int} {p24 : Int} {p25 : Int} {p26 : Int} {p27 : Int} {p28 : Int} {q0 : Bool} {q1 : Int} {q2 : Int} {q3 : Int} {q4 : Int} {q5 : Int} {q6 : Int} {q7 : Int} {q8 : Int} {q9 : Int} {q10 : Int} (h0 : offer_down_10 K p0 p1 p2 p3 p4 p5 p6 p7 p8 p9 p10 p11 p12 p13 p14 p15 p16 p17 p18 p19 p20 p21 p22 p23 p24 p25 p26 p27 p28 = some (q0, q1, q2, q3, q4, q5, q6, q7, q8, q9, q10)) : Fn Try.prog 117 [.int .i64 p0, .int .i64 p1, .fn 118 [.p 0 0, .p 1 0]] [(0, some (.cells [.int .i64 p2, .int .i64 p3, .int .i64 p4, .int .i64 p5, .int .i64 p6, .int .i64 p7, .int .i64 p8, .int .i64 p9, .int .i64 p10, .int .i64 p11, .int .i64 p12, .int .i64 p13, .int .i64 p14, .int .i64 p15, .int .i64 p16])), (1, some (.cells [.fn 116 [.p 0 0, .p 2 0, .p 3 0]])), (2, some (.cells [.int .i64 p17, .int .i64 p18])), (3, some (.cells [.int .i64 p19, .int .i64 p20, .int .i64 p21, .int .i64 p22, .int .i64 p23, .int .i64 p24, .int .i64 p25, .int .i64 p26, .int .i64 p27, .int .i64 p28]))] (.bool q0) [(0, some (.cells [.int .i64 p2, .int .i64 p3, .int .i64 p4, .int .i64 p5, .int .i64 p6, .int .i64 p7, .int .i64 p8, .int .i64 p9, .int .i64 p10, .int .i64 p11, .int .i64 p12, .int .i64 p13, .int .i64 p14, .int .i64 p15, .int .i64 p16])), (1, some (.cells [.fn 116 [.p 0 0, .p 2 0, .p 3 0]])), (2, some (.cells [.int .i64 p17, .int .i64 p18])), (3, some (.cells [.int .i64 q1, .int .i64 q2, .int .i64 q3, .int .i64 q4, .int .i64 q5, .int .i64 q6, .int .i64 q7, .int .i64 q8, .int .i64 q9, .int .i64 q10]))] := offer_down_10.ok h0
theorem offer_down_10.fnb : fnb Try.prog 117 = true := fnb_of Try.func117 rfl
def offer_Choose.res (_p0 : Int) (_p1 : Int) (_p2 : Int) (_p3 : Int) (_p4 : Int) (_p5 : Int) (_p6 : Int) (_p7 : Int) (_p8 : Int) (_p9 : Int) (_p10 : Int) (_p11 : Int) (_p12 : Int) (_p13 : Int) (_p14 : Int) : Int × Int × Int × Int × Int × Int × Int × Int × Int × Int × Int × Int × Int → MV
  | (q0, q1, q2, q3, q4, q5, q6, q7, q8, q9, q10, q11, q12) => .tup [.agg [.int .i64 q0, .int .i64 q1, .int .i64 q2, .int .i64 q3, .int .i64 q4, .int .i64 q5, .int .i64 q6, .int .i64 q7, .int .i64 q8, .int .i64 q9], .agg [.int .i64 q10, .int .i64 q11], .int .i64 q12]
def offer_Choose.out (_p0 : Int) (_p1 : Int) (_p2 : Int) (_p3 : Int) (_p4 : Int) (_p5 : Int) (_p6 : Int) (_p7 : Int) (_p8 : Int) (_p9 : Int) (_p10 : Int) (_p11 : Int) (_p12 : Int) (_p13 : Int) (_p14 : Int) : Int × Int × Int × Int × Int × Int × Int × Int × Int × Int × Int × Int × Int → List (Nat × Option MObj)
  | (_, _, _, _, _, _, _, _, _, _, _, _, _) => []
theorem offer_Choose.ok {K : Nat} {p0 : Int} {p1 : Int} {p2 : Int} {p3 : Int} {p4 : Int} {p5 : Int} {p6 : Int} {p7 : Int} {p8 : Int} {p9 : Int} {p10 : Int} {p11 : Int} {p12 : Int} {p13 : Int} {p14 : Int} {r : Int × Int × Int × Int × Int × Int × Int × Int × Int × Int × Int × Int × Int} (h0 : offer_Choose K p0 p1 p2 p3 p4 p5 p6 p7 p8 p9 p10 p11 p12 p13 p14 = some r) : Fn Try.prog 65 [.agg [.int .i64 p0, .int .i64 p1, .int .i64 p2, .int .i64 p3, .int .i64 p4, .int .i64 p5, .int .i64 p6, .int .i64 p7, .int .i64 p8, .int .i64 p9, .int .i64 p10, .int .i64 p11, .int .i64 p12, .int .i64 p13, .int .i64 p14]] [] (offer_Choose.res p0 p1 p2 p3 p4 p5 p6 p7 p8 p9 p10 p11 p12 p13 p14 r) (offer_Choose.out p0 p1 p2 p3 p4 p5 p6 p7 p8 p9 p10 p11 p12 p13 p14 r) := by
  refine Fn_of Try.func65 rfl (Nat.le_of_ble_eq_true rfl) fun Γ => ?_
  refine TC_seq ?_
  refine TC_reg ?_
  refine TL_ev env 4 rfl ⟨tv, ⟨tv, ⟨tv, ⟨tv, tv⟩⟩⟩⟩ ?_
  refine TL_end ?_
  refine TE_go ?_
  refine TC_seq ?_
  refine TC_reg ?_
  refine TL_ev env 7 rfl ⟨tv, ⟨⟨tv, tv⟩, ⟨tv, ⟨⟨tv, tv⟩, ⟨⟨tv, ⟨tv, tv⟩⟩, ⟨tv, ⟨⟨tv, tv⟩, tv⟩⟩⟩⟩⟩⟩⟩ ?_
  refine TL_end ?_
  refine TE_go ?_
  refine TC_seq ?_
  refine TC_reg ?_
  refine TL_ev env 1 rfl ⟨tv, tv⟩ ?_
  refine TL_end ?_
  refine TE_go ?_
  refine TC_seq ?_
  refine TC_reg ?_
  refine TL_ev env 3 rfl ⟨⟨tv, ⟨tv, ⟨tv, tv⟩⟩⟩, ⟨tv, ⟨⟨tv, tv⟩, tv⟩⟩⟩ ?_
  refine TL_end ?_
  refine TE_go ?_
  refine TC_seq ?_
  obtain ⟨z1, h1, h0⟩ := bnd h0
  refine TC_cut (α := Bool × Int × Int × Int × Int × Int × Int × Int × Int × Int × Int) (fun s => z1 = s) (fun s => [(2, .p 10200 0), (3, .p 10201 0), (5, .p 10202 0), (6, .p 10203 0), (8, .bool s.1)]) (fun s => [(10200, some (.cells [.int .i64 0, .int .i64 0, .int .i64 0, .int .i64 0, .int .i64 0, .int .i64 0, .int .i64 0, .int .i64 0, .int .i64 0, .int .i64 0])), (10201, some (.cells [.int .i64 0, .int .i64 0])), (10202, some (.cells [.int .i64 p13, .int .i64 p14])), (10203, some (.cells [.int .i64 s.2.1, .int .i64 s.2.2.1, .int .i64 s.2.2.2.1, .int .i64 s.2.2.2.2.1, .int .i64 s.2.2.2.2.2.1, .int .i64 s.2.2.2.2.2.2.1, .int .i64 s.2.2.2.2.2.2.2.1, .int .i64 s.2.2.2.2.2.2.2.2.1, .int .i64 s.2.2.2.2.2.2.2.2.2.1, .int .i64 s.2.2.2.2.2.2.2.2.2.2]))]) ?_ ?_
  · refine TC_reg ?_
    refine TL_ev env 1 rfl ⟨⟨tv, tv⟩, tv⟩ ?_
    obtain ⟨r47, hr, h1⟩ := bnd h1
    refine TL_callB [] (caps_Check.ok0 hr) caps_Check.fnb rfl ⟨tv, ⟨tv, tv⟩⟩ rfl tv rfl ?_
    refine TL_ev env 2 rfl ⟨⟨tv, ⟨tv, tv⟩⟩, ⟨tv, tv⟩⟩ ?_
    refine TL_split 18 rfl (fun hb => ?_) (fun hb => ?_)
    · replace h1 := bif_t h1 hb
      refine TL_gt rfl rfl rfl rfl ?_
      refine TL_ev env 1 rfl ⟨⟨tv, ⟨tv, tv⟩⟩, tv⟩ ?_
      refine TL_gt rfl rfl rfl rfl ?_
      obtain ⟨⟨r48, r49, r50, r51, r52, r53, r54, r55, r56, r57, r58⟩, hr, h1⟩ := bnd h1
      refine TL_callB [(0, 1001), (1, 1007), (2, 1005), (3, 1006)] (offer_down_10.ok0 hr) offer_down_10.fnb rfl ⟨tv, ⟨tv, ⟨tv, ⟨tv, tv⟩⟩⟩⟩ rfl ⟨.inr rfl, .inr rfl, .inr rfl, .inr rfl, tv⟩ rfl ?_
      refine TL_ev env 2 rfl ⟨⟨tv, ⟨tv, tv⟩⟩, ⟨tv, tv⟩⟩ ?_
      refine TL_end ?_
      obtain rfl := sinj h1
      refine tsn ?_
      exact SP_ren [(10200, 1002), (10201, 1003), (10202, 1005), (10203, 1006)] (_, _, _, _, _, _, _, _, _, _, _) rfl ⟨rfl, rfl, rfl, rfl, rfl, tv⟩ ⟨rfl, rfl, rfl, rfl, tv⟩ rfl
    · replace h1 := bif_f h1 hb
      refine TL_gf (.bool false) rfl rfl rfl rfl rfl (by decide) ?_
      refine TL_gf (.bool false) rfl rfl rfl rfl rfl (by decide) ?_
      refine TL_ev env 2 rfl ⟨⟨tv, ⟨fun e => e, tv⟩⟩, ⟨tv, tv⟩⟩ ?_
      refine TL_end ?_
      obtain rfl := sinj h1
      refine tsn ?_
      exact SP_ren [(10200, 1002), (10201, 1003), (10202, 1005), (10203, 1006)] (_, _, _, _, _, _, _, _, _, _, _) rfl ⟨rfl, rfl, rfl, rfl, rfl, tv⟩ ⟨rfl, rfl, rfl, rfl, tv⟩ rfl
  · rintro ⟨x36, x37, x38, x39, x40, x41, x42, x43, x44, x45, x46⟩ rfl
    refine TE_go ?_
    refine TC_seq ?_
    refine TC_seq ?_
    refine TC_reg ?_
    refine TL_ev env 2 rfl ⟨tv, ⟨tv, tv⟩⟩ ?_
    refine TL_end ?_
    refine TE_go ?_
    refine TC_cond rfl (fun hb => ?_) (fun hb => ?_)
    · replace h0 := bif_t h0 hb
      refine TC_seq ?_
      refine TC_reg ?_
      refine TL_ev env 5 rfl ⟨tv, ⟨tv, ⟨⟨tv, tv⟩, ⟨⟨tv, tv⟩, ⟨tv, tv⟩⟩⟩⟩⟩ ?_
      refine TL_end ?_
      refine TE_go ?_
      refine TC_ret ?_
      refine tsr ?_
      obtain rfl := sinj h0
      exact TE_ret env rfl ⟨tv, ⟨tv, tv⟩⟩ tv
    · replace h0 := bif_f h0 hb
      refine TC_skip ?_
      refine TE_go ?_
      refine TC_seq ?_
      refine TC_renw (A' := [(2, .p 10200 0), (3, .p 10201 0), (5, .p 10202 0), (6, .p 10203 0)]) (L' := [(10200, some (.cells [.int .i64 0, .int .i64 0, .int .i64 0, .int .i64 0, .int .i64 0, .int .i64 0, .int .i64 0, .int .i64 0, .int .i64 0, .int .i64 0])), (10201, some (.cells [.int .i64 0, .int .i64 0])), (10202, some (.cells [.int .i64 _, .int .i64 _])), (10203, some (.cells [.int .i64 _, .int .i64 _, .int .i64 _, .int .i64 _, .int .i64 _, .int .i64 _, .int .i64 _, .int .i64 _, .int .i64 _, .int .i64 _]))]) [] ⟨rfl, rfl, rfl, rfl, tv⟩ ⟨rfl, rfl, rfl, rfl, tv⟩ rfl ?_
      refine TC_drawR ⟨_, fun i => ([[], [], [0], [2, 1, 0], [3, 2, 1, 0]] : List (List Nat)).getD i [], fun i => ([[], [], [10200], [10201], []] : List (List Nat)).getD i [], fun i => ([[], [], [], [], []] : List (List Nat)).getD i []⟩ (fun i => ([[], [10200], [], [], []] : List (List Nat)).getD i []) (by kernel_rfl) (by kernel_rfl) ?_
      refine AJR_ev env 1 rfl (Nat.le_of_ble_eq_true rfl) rfl ⟨tv, tv⟩ ?_
      refine AJR_ev env 2 rfl (Nat.le_of_ble_eq_true rfl) rfl ⟨tv, tv⟩ ?_
      refine AJR_ev env 3 rfl (Nat.le_of_ble_eq_true rfl) rfl ⟨tv, tv⟩ ?_
      refine AJR_ev env 4 rfl (Nat.le_of_ble_eq_true rfl) rfl ⟨tv, tv⟩ ?_
      refine AJR_ev env 5 rfl (Nat.le_of_ble_eq_true rfl) rfl tv ?_
      refine AJR_end rfl rfl rfl ?_
      refine TE_go ?_
      refine TC_ret ?_
      obtain rfl := sinj h0
      exact TE_ret env rfl ⟨tv, ⟨tv, tv⟩⟩ tv
theorem offer_Choose.ok0 {K : Nat} {p0 : Int} {p1 : Int} {p2 : Int} {p3 : Int} {p4 : Int} {p5 : Int} {p6 : Int} {p7 : Int} {p8 : Int} {p9 : Int} {p10 : Int} {p11 : Int} {p12 : Int} {p13 : Int} {p14 : Int} {q0 : Int} {q1 : Int} {q2 : Int} {q3 : Int} {q4 : Int} {q5 : Int} {q6 : Int} {q7 : Int} {q8 : Int} {q9 : Int} {q10 : Int} {q11 : Int} {q12 : Int} (h0 : offer_Choose K p0 p1 p2 p3 p4 p5 p6 p7 p8 p9 p10 p11 p12 p13 p14 = some (q0, q1, q2, q3, q4, q5, q6, q7, q8, q9, q10, q11, q12)) : Fn Try.prog 65 [.agg [.int .i64 p0, .int .i64 p1, .int .i64 p2, .int .i64 p3, .int .i64 p4, .int .i64 p5, .int .i64 p6, .int .i64 p7, .int .i64 p8, .int .i64 p9, .int .i64 p10, .int .i64 p11, .int .i64 p12, .int .i64 p13, .int .i64 p14]] [] (.tup [.agg [.int .i64 q0, .int .i64 q1, .int .i64 q2, .int .i64 q3, .int .i64 q4, .int .i64 q5, .int .i64 q6, .int .i64 q7, .int .i64 q8, .int .i64 q9], .agg [.int .i64 q10, .int .i64 q11], .int .i64 q12]) [] := offer_Choose.ok h0
theorem offer_Choose.fnb : fnb Try.prog 65 = true := fnb_of Try.func65 rfl
def offer_Negotiate.res (_p0 : List (Int)) (_p1 : List (Int)) : Int × Int × Int × Int × Int × Int × Int × Int × Int × Int × Int × Int × Int → MV
  | (q0, q1, q2, q3, q4, q5, q6, q7, q8, q9, q10, q11, q12) => .tup [.agg [.int .i64 q0, .int .i64 q1, .int .i64 q2, .int .i64 q3, .int .i64 q4, .int .i64 q5, .int .i64 q6, .int .i64 q7, .int .i64 q8, .int .i64 q9], .agg [.int .i64 q10, .int .i64 q11], .int .i64 q12]
def offer_Negotiate.out (_p0 : List (Int)) (_p1 : List (Int)) : Int × Int × Int × Int × Int × Int × Int × Int × Int × Int × Int × Int × Int → List (Nat × Option MObj)
  | (_, _, _, _, _, _, _, _, _, _, _, _, _) => []
theorem offer_Negotiate.ok {K : Nat} {p0 : List (Int)} {p1 : List (Int)} {r : Int × Int × Int × Int × Int × Int × Int × Int × Int × Int × Int × Int × Int} (h0 : offer_Negotiate K p0 p1 = some r) : Fn Try.prog 71 [.im (.slice (.int .u8)) p0, .im (.slice (.int .u8)) p1] [] (offer_Negotiate.res p0 p1 r) (offer_Negotiate.out p0 p1 r) := by
  refine Fn_of Try.func71 rfl (Nat.le_of_ble_eq_true rfl) fun Γ => ?_
  refine TC_seq ?_
  refine TC_reg ?_
  refine TL_ev env 3 rfl ⟨tv, ⟨tv, ⟨tv, tv⟩⟩⟩ ?_
  refine TL_end ?_
  refine TE_go ?_
  refine TC_seq ?_
  refine TC_reg ?_
  refine TL_ev env 1 rfl ⟨tv, tv⟩ ?_
  obtain ⟨⟨r61, r62, r63, r64, r65, r66, r67, r68, r69, r70, r71, r72, r73, r74, r75, r76⟩, hr, h0⟩ := bnd h0
  refine TL_callB [] (caps_Parse.ok0 hr) caps_Parse.fnb rfl ⟨tv, ⟨tv, tv⟩⟩ rfl tv rfl ?_
  refine TL_ev env 6 rfl ⟨tv, ⟨tv, ⟨tv, ⟨tv, ⟨⟨tv, tv⟩, ⟨tv, tv⟩⟩⟩⟩⟩⟩ ?_
  refine TL_end ?_
  refine TE_go ?_
  refine TC_seq ?_
  refine TC_seq ?_
  refine TC_reg ?_
  refine TL_ev env 2 rfl ⟨tv, ⟨⟨tv, ⟨tv, tv⟩⟩, tv⟩⟩ ?_
  refine TL_end ?_
  refine TE_go ?_
  refine TC_cond rfl (fun hb => ?_) (fun hb => ?_)
  · replace h0 := bif_t h0 hb
    refine TC_seq ?_
    refine TC_reg ?_
    refine TL_ev env 6 rfl ⟨tv, ⟨tv, ⟨tv, ⟨⟨tv, tv⟩, ⟨⟨tv, tv⟩, ⟨tv, tv⟩⟩⟩⟩⟩⟩ ?_
    refine TL_end ?_
    refine TE_go ?_
    refine TC_ret ?_
    refine tsr ?_
    obtain rfl := sinj h0
    exact TE_ret env rfl ⟨tv, ⟨tv, tv⟩⟩ tv
  · replace h0 := bif_f h0 hb
    refine TC_skip ?_
    refine TE_go ?_
    refine TC_seq ?_
    refine TC_reg ?_
    refine TL_ev env 1 rfl ⟨tv, tv⟩ ?_
    obtain ⟨⟨r77, r78, r79, r80, r81, r82, r83, r84, r85, r86, r87, r88, r89, r90, r91, r92⟩, hr, h0⟩ := bnd h0
    refine TL_callB [] (caps_Parse.ok0 hr) caps_Parse.fnb rfl ⟨tv, ⟨tv, tv⟩⟩ rfl tv rfl ?_
    refine TL_ev env 6 rfl ⟨tv, ⟨tv, ⟨tv, ⟨tv, ⟨⟨tv, tv⟩, ⟨tv, tv⟩⟩⟩⟩⟩⟩ ?_
    refine TL_end ?_
    refine TE_go ?_
    refine TC_seq ?_
    refine TC_seq ?_
    refine TC_reg ?_
    refine TL_ev env 2 rfl ⟨tv, ⟨⟨tv, ⟨tv, tv⟩⟩, tv⟩⟩ ?_
    refine TL_end ?_
    refine TE_go ?_
    refine TC_cond rfl (fun hb => ?_) (fun hb => ?_)
    · replace h0 := bif_t h0 hb
      refine TC_seq ?_
      refine TC_reg ?_
      refine TL_ev env 6 rfl ⟨tv, ⟨tv, ⟨tv, ⟨⟨tv, tv⟩, ⟨⟨tv, tv⟩, ⟨tv, tv⟩⟩⟩⟩⟩⟩ ?_
      refine TL_end ?_
      refine TE_go ?_
      refine TC_ret ?_
      refine tsr ?_
      obtain rfl := sinj h0
      exact TE_ret env rfl ⟨tv, ⟨tv, tv⟩⟩ tv
    · replace h0 := bif_f h0 hb
      refine TC_skip ?_
      refine TE_go ?_
      refine TC_seq ?_
      refine TC_reg ?_
      refine TL_ev env 2 rfl ⟨⟨tv, tv⟩, ⟨⟨tv, tv⟩, tv⟩⟩ ?_
      obtain ⟨⟨r93, r94, r95, r96, r97, r98, r99, r100, r101, r102, r103, r104, r105, r106, r107⟩, hr, h0⟩ := bnd h0
      refine TL_callB [] (offer_Meet.ok0 hr) offer_Meet.fnb rfl ⟨tv, ⟨tv, ⟨tv, tv⟩⟩⟩ rfl tv rfl ?_
      obtain ⟨⟨r108, r109, r110, r111, r112, r113, r114, r115, r116, r117, r118, r119, r120⟩, hr, h0⟩ := bnd h0
      refine TL_callB [] (offer_Choose.ok0 hr) offer_Choose.fnb rfl ⟨tv, ⟨tv, tv⟩⟩ rfl tv rfl ?_
      refine TL_ev env 6 rfl ⟨tv, ⟨tv, ⟨tv, ⟨⟨tv, tv⟩, ⟨⟨tv, tv⟩, ⟨tv, tv⟩⟩⟩⟩⟩⟩ ?_
      refine TL_end ?_
      refine TE_go ?_
      refine TC_ret ?_
      obtain rfl := sinj h0
      exact TE_ret env rfl ⟨tv, ⟨tv, tv⟩⟩ tv
theorem offer_Negotiate.ok0 {K : Nat} {p0 : List (Int)} {p1 : List (Int)} {q0 : Int} {q1 : Int} {q2 : Int} {q3 : Int} {q4 : Int} {q5 : Int} {q6 : Int} {q7 : Int} {q8 : Int} {q9 : Int} {q10 : Int} {q11 : Int} {q12 : Int} (h0 : offer_Negotiate K p0 p1 = some (q0, q1, q2, q3, q4, q5, q6, q7, q8, q9, q10, q11, q12)) : Fn Try.prog 71 [.im (.slice (.int .u8)) p0, .im (.slice (.int .u8)) p1] [] (.tup [.agg [.int .i64 q0, .int .i64 q1, .int .i64 q2, .int .i64 q3, .int .i64 q4, .int .i64 q5, .int .i64 q6, .int .i64 q7, .int .i64 q8, .int .i64 q9], .agg [.int .i64 q10, .int .i64 q11], .int .i64 q12]) [] := offer_Negotiate.ok h0
theorem offer_Negotiate.fnb : fnb Try.prog 71 = true := fnb_of Try.func71 rfl
def psalterylaw24_alive.res  : Bool → MV
  | q0 => .bool q0
def psalterylaw24_alive.out  : Bool → List (Nat × Option MObj)
  | _ => []
theorem psalterylaw24_alive.ok {K : Nat}  {r : Bool} (h0 : psalterylaw24_alive K  = some r) : Fn Try.prog 64 [] [] (psalterylaw24_alive.res  r) (psalterylaw24_alive.out  r) := by
  refine Fn_of Try.func64 rfl (Nat.le_of_ble_eq_true rfl) fun Γ => ?_
  refine TC_seq ?_
  refine TC_reg ?_
  refine TL_ev env 1 rfl ⟨tv, tv⟩ ?_
  refine TL_end ?_
  refine TE_go ?_
  refine TC_seq ?_
  refine TC_reg ?_
  refine TL_ev env 2 rfl ⟨⟨tv, ⟨tv, ⟨tv, ⟨tv, ⟨tv, ⟨tv, ⟨tv, ⟨tv, ⟨tv, ⟨tv, ⟨tv, ⟨tv, ⟨tv, ⟨tv, tv⟩⟩⟩⟩⟩⟩⟩⟩⟩⟩⟩⟩⟩⟩, ⟨tv, tv⟩⟩ ?_
  refine TL_end ?_
  refine TE_go ?_
  refine TC_seq ?_
  refine TC_reg ?_
  refine TL_ev env 2 rfl ⟨⟨tv, ⟨tv, ⟨tv, ⟨tv, ⟨tv, ⟨tv, ⟨tv, ⟨tv, ⟨tv, ⟨tv, ⟨tv, tv⟩⟩⟩⟩⟩⟩⟩⟩⟩⟩⟩, ⟨tv, tv⟩⟩ ?_
  refine TL_end ?_
  refine TE_go ?_
  refine TC_seq ?_
  refine TC_reg ?_
  refine TL_ev env 2 rfl ⟨tv, ⟨tv, tv⟩⟩ ?_
  refine TL_frz 1012 rfl ?_
  refine TL_frz 1013 rfl ?_
  obtain ⟨⟨r42, r43, r44, r45, r46, r47, r48, r49, r50, r51, r52, r53, r54⟩, hr, h0⟩ := bnd h0
  refine TL_callB [] (offer_Negotiate.ok0 hr) offer_Negotiate.fnb rfl ⟨tv, ⟨tv, ⟨tv, tv⟩⟩⟩ rfl tv rfl ?_
  refine TL_ev env 9 rfl ⟨tv, ⟨tv, ⟨tv, ⟨tv, ⟨tv, ⟨tv, ⟨⟨tv, tv⟩, ⟨⟨tv, tv⟩, ⟨tv, tv⟩⟩⟩⟩⟩⟩⟩⟩⟩ ?_
  refine TL_end ?_
  refine TE_go ?_
  refine TC_seq ?_
  refine TC_reg ?_
  refine TL_ev env 2 rfl ⟨tv, ⟨tv, tv⟩⟩ ?_
  obtain ⟨⟨r55, r56, r57, r58, r59, r60, r61, r62, r63, r64, r65, r66, r67⟩, hr, h0⟩ := bnd h0
  refine TL_callB [] (offer_Negotiate.ok0 hr) offer_Negotiate.fnb rfl ⟨tv, ⟨tv, ⟨tv, tv⟩⟩⟩ rfl tv rfl ?_
  refine TL_ev env 9 rfl ⟨tv, ⟨tv, ⟨tv, ⟨tv, ⟨tv, ⟨tv, ⟨⟨tv, tv⟩, ⟨⟨tv, tv⟩, ⟨tv, tv⟩⟩⟩⟩⟩⟩⟩⟩⟩ ?_
  refine TL_end ?_
  refine TE_go ?_
  refine TC_seq ?_
  refine TC_reg ?_
  refine TL_ev env 2 rfl ⟨tv, ⟨tv, tv⟩⟩ ?_
  obtain ⟨⟨r68, r69, r70, r71, r72, r73, r74, r75, r76, r77, r78, r79, r80⟩, hr, h0⟩ := bnd h0
  refine TL_callB [] (offer_Negotiate.ok0 hr) offer_Negotiate.fnb rfl ⟨tv, ⟨tv, ⟨tv, tv⟩⟩⟩ rfl tv rfl ?_
  refine TL_ev env 9 rfl ⟨tv, ⟨tv, ⟨tv, ⟨tv, ⟨tv, ⟨tv, ⟨⟨tv, tv⟩, ⟨⟨tv, tv⟩, ⟨tv, tv⟩⟩⟩⟩⟩⟩⟩⟩⟩ ?_
  refine TL_end ?_
  refine TE_go ?_
  refine TC_seq ?_
  refine TC_reg ?_
  refine TL_ev env 26 rfl ⟨tv, ⟨⟨tv, ⟨tv, tv⟩⟩, ⟨tv, ⟨fun eg => tv, ⟨fun eg => ⟨fun e => e, ⟨tv, tv⟩⟩, ⟨⟨tv, ⟨fun e => e, tv⟩⟩, ⟨tv, ⟨fun eg => tv, ⟨fun eg => ⟨fun e => e, tv⟩, ⟨fun eg => ⟨fun e => e, ⟨tv, tv⟩⟩, ⟨⟨tv, ⟨fun e => e, tv⟩⟩, ⟨tv, ⟨fun eg => tv, ⟨fun eg => ⟨fun e => e, tv⟩, ⟨fun eg => ⟨fun e => e, ⟨tv, tv⟩⟩, ⟨⟨tv, ⟨fun e => e, tv⟩⟩, ⟨tv, ⟨fun eg => tv, ⟨fun eg => ⟨fun e => e, ⟨tv, tv⟩⟩, ⟨⟨tv, ⟨fun e => e, tv⟩⟩, ⟨tv, ⟨fun eg => tv, ⟨fun eg => ⟨fun e => e, tv⟩, ⟨fun eg => ⟨fun e => e, ⟨tv, tv⟩⟩, ⟨⟨tv, ⟨fun e => e, tv⟩⟩, ⟨tv, tv⟩⟩⟩⟩⟩⟩⟩⟩⟩⟩⟩⟩⟩⟩⟩⟩⟩⟩⟩⟩⟩⟩⟩⟩⟩⟩ ?_
  refine TL_end ?_
  refine TE_go ?_
  refine TC_ret ?_
  obtain rfl := sinj h0
  exact TE_ret env rfl tv tv
theorem psalterylaw24_alive.ok0 {K : Nat}  {q0 : Bool} (h0 : psalterylaw24_alive K  = some q0) : Fn Try.prog 64 [] [] (.bool q0) [] := psalterylaw24_alive.ok h0
theorem psalterylaw24_alive.fnb : fnb Try.prog 64 = true := fnb_of Try.func64 rfl
def offer_rank.res (_p0 : Int) (_p1 : Int) (_p2 : Int) (_p3 : Int) (_p4 : Int) (_p5 : Int) (_p6 : Int) (_p7 : Int) (_p8 : Int) (_p9 : Int) : (List (Int)) → MV
  | q0 => .im (.slice (.int .i64)) q0
def offer_rank.out (_p0 : Int) (_p1 : Int) (_p2 : Int) (_p3 : Int) (_p4 : Int) (_p5 : Int) (_p6 : Int) (_p7 : Int) (_p8 : Int) (_p9 : Int) : (List (Int)) → List (Nat × Option MObj)
  | _ => []
theorem offer_rank.ok {K : Nat} {p0 : Int} {p1 : Int} {p2 : Int} {p3 : Int} {p4 : Int} {p5 : Int} {p6 : Int} {p7 : Int} {p8 : Int} {p9 : Int} {r : (List (Int))} (h0 : offer_rank K p0 p1 p2 p3 p4 p5 p6 p7 p8 p9 = some r) : Fn Try.prog 124 [.agg [.int .i64 p0, .int .i64 p1, .int .i64 p2, .int .i64 p3, .int .i64 p4, .int .i64 p5, .int .i64 p6, .int .i64 p7, .int .i64 p8, .int .i64 p9]] [] (offer_rank.res p0 p1 p2 p3 p4 p5 p6 p7 p8 p9 r) (offer_rank.out p0 p1 p2 p3 p4 p5 p6 p7 p8 p9 r) := by
  refine Fn_of Try.func124 rfl (Nat.le_of_ble_eq_true rfl) fun Γ => ?_
  refine TC_seq ?_
  refine TC_reg ?_
  refine TL_ev env 2 rfl ⟨tv, ⟨tv, tv⟩⟩ ?_
  refine TL_end ?_
  refine TE_go ?_
  refine TC_seq ?_
  refine TC_reg ?_
  refine TL_ev env 22 rfl ⟨tv, ⟨⟨tv, tv⟩, ⟨tv, ⟨⟨tv, tv⟩, ⟨tv, ⟨⟨tv, tv⟩, ⟨tv, ⟨⟨tv, tv⟩, ⟨tv, ⟨⟨tv, tv⟩, ⟨tv, ⟨⟨tv, tv⟩, ⟨tv, ⟨⟨tv, tv⟩, ⟨tv, ⟨⟨tv, tv⟩, ⟨tv, ⟨⟨tv, tv⟩, ⟨tv, ⟨⟨tv, tv⟩, ⟨⟨tv, ⟨tv, ⟨tv, ⟨tv, ⟨tv, ⟨tv, ⟨tv, ⟨tv, ⟨tv, ⟨tv, tv⟩⟩⟩⟩⟩⟩⟩⟩⟩⟩, ⟨tv, tv⟩⟩⟩⟩⟩⟩⟩⟩⟩⟩⟩⟩⟩⟩⟩⟩⟩⟩⟩⟩⟩⟩ ?_
  refine TL_end ?_
  refine TE_go ?_
  refine TC_ret ?_
  refine TE_frz 1023 rfl ?_
  obtain rfl := sinj h0
  exact TE_ret env rfl tv tv
theorem offer_rank.ok0 {K : Nat} {p0 : Int} {p1 : Int} {p2 : Int} {p3 : Int} {p4 : Int} {p5 : Int} {p6 : Int} {p7 : Int} {p8 : Int} {p9 : Int} {q0 : List (Int)} (h0 : offer_rank K p0 p1 p2 p3 p4 p5 p6 p7 p8 p9 = some q0) : Fn Try.prog 124 [.agg [.int .i64 p0, .int .i64 p1, .int .i64 p2, .int .i64 p3, .int .i64 p4, .int .i64 p5, .int .i64 p6, .int .i64 p7, .int .i64 p8, .int .i64 p9]] [] (.im (.slice (.int .i64)) q0) [] := offer_rank.ok h0
theorem offer_rank.fnb : fnb Try.prog 124 = true := fnb_of Try.func124 rfl
def cmp_isNaN_int.res (_p0 : Int) : Bool → MV
  | q0 => .bool q0
def cmp_isNaN_int.out (_p0 : Int) : Bool → List (Nat × Option MObj)
  | _ => []
theorem cmp_isNaN_int.ok {K : Nat} {p0 : Int} {r : Bool} (h0 : cmp_isNaN_int K p0 = some r) : Fn Try.prog 172 [.int .i64 p0] [] (cmp_isNaN_int.res p0 r) (cmp_isNaN_int.out p0 r) := by
  refine Fn_of Try.func172 rfl (Nat.le_of_ble_eq_true rfl) fun Γ => ?_
  refine TC_seq ?_
  refine TC_reg ?_
  refine TL_ev env 1 rfl ⟨tv, tv⟩ ?_
  refine TL_end ?_
  refine TE_go ?_
  refine TC_seq ?_
  refine TC_reg ?_
  refine TL_ev env 4 rfl ⟨tv, ⟨tv, ⟨⟨tv, ⟨tv, tv⟩⟩, ⟨tv, tv⟩⟩⟩⟩ ?_
  refine TL_end ?_
  refine TE_go ?_
  refine TC_ret ?_
  obtain rfl := sinj h0
  exact TE_ret env rfl tv tv
theorem cmp_isNaN_int.ok0 {K : Nat} {p0 : Int} {q0 : Bool} (h0 : cmp_isNaN_int K p0 = some q0) : Fn Try.prog 172 [.int .i64 p0] [] (.bool q0) [] := cmp_isNaN_int.ok h0
theorem cmp_isNaN_int.fnb : fnb Try.prog 172 = true := fnb_of Try.func172 rfl
def cmp_Compare_int.res (_p0 : Int) (_p1 : Int) : Int → MV
  | q0 => .int .i64 q0
def cmp_Compare_int.out (_p0 : Int) (_p1 : Int) : Int → List (Nat × Option MObj)
  | _ => []
theorem cmp_Compare_int.ok {K : Nat} {p0 : Int} {p1 : Int} {r : Int} (h0 : cmp_Compare_int K p0 p1 = some r) : Fn Try.prog 156 [.int .i64 p0, .int .i64 p1] [] (cmp_Compare_int.res p0 p1 r) (cmp_Compare_int.out p0 p1 r) := by
  refine Fn_of Try.func156 rfl (Nat.le_of_ble_eq_true rfl) fun Γ => ?_
  refine TC_seq ?_
  refine TC_reg ?_
  refine TL_ev env 1 rfl ⟨tv, tv⟩ ?_
  refine TL_end ?_
  refine TE_go ?_
  refine TC_seq ?_
  refine TC_reg ?_
  refine TL_ev env 1 rfl ⟨tv, tv⟩ ?_
  obtain ⟨r3, hr, h0⟩ := bnd h0
  refine TL_callB [] (cmp_isNaN_int.ok0 hr) cmp_isNaN_int.fnb rfl ⟨tv, ⟨tv, tv⟩⟩ rfl tv rfl ?_
  refine TL_ev env 1 rfl ⟨tv, tv⟩ ?_
  refine TL_end ?_
  refine TE_go ?_
  refine TC_seq ?_
  refine TC_reg ?_
  refine TL_ev env 1 rfl ⟨tv, tv⟩ ?_
  obtain ⟨r4, hr, h0⟩ := bnd h0
  refine TL_callB [] (cmp_isNaN_int.ok0 hr) cmp_isNaN_int.fnb rfl ⟨tv, ⟨tv, tv⟩⟩ rfl tv rfl ?_
  refine TL_ev env 1 rfl ⟨tv, tv⟩ ?_
  refine TL_end ?_
  refine TE_go ?_
  refine TC_seq ?_
  refine TC_seq ?_
  refine TC_reg ?_
  refine TL_ev env 1 rfl ⟨tv, tv⟩ ?_
  refine TL_end ?_
  refine TE_go ?_
  refine TC_cond rfl (fun hb => ?_) (fun hb => ?_)
  · replace h0 := bif_t h0 hb
    refine TC_seq ?_
    refine TC_seq ?_
    refine TC_reg ?_
    refine TL_ev env 1 rfl ⟨tv, tv⟩ ?_
    refine TL_end ?_
    refine TE_go ?_
    refine TC_cond rfl (fun hb => ?_) (fun hb => ?_)
    · replace h0 := bif_t h0 hb
      refine TC_seq ?_
      refine TC_reg ?_
      refine TL_ev env 1 rfl ⟨tv, tv⟩ ?_
      refine TL_end ?_
      refine TE_go ?_
      refine TC_ret ?_
      refine tsr ?_
      refine tsr ?_
      obtain rfl := sinj h0
      exact TE_ret env rfl tv tv
    · replace h0 := bif_f h0 hb
      refine TC_skip ?_
      refine TE_go ?_
      refine TC_seq ?_
      refine TC_reg ?_
      refine TL_ev env 1 rfl ⟨tv, tv⟩ ?_
      refine TL_end ?_
      refine TE_go ?_
      refine TC_ret ?_
      refine tsr ?_
      obtain rfl := sinj h0
      exact TE_ret env rfl tv tv
  · replace h0 := bif_f h0 hb
    refine TC_skip ?_
    refine TE_go ?_
    refine TC_seq ?_
    refine TC_seq ?_
    refine TC_reg ?_
    refine TL_ev env 1 rfl ⟨tv, tv⟩ ?_
    refine TL_end ?_
    refine TE_go ?_
    refine TC_cond rfl (fun hb => ?_) (fun hb => ?_)
    · replace h0 := bif_t h0 hb
      refine TC_seq ?_
      refine TC_reg ?_
      refine TL_ev env 1 rfl ⟨tv, tv⟩ ?_
      refine TL_end ?_
      refine TE_go ?_
      refine TC_ret ?_
      refine tsr ?_
      obtain rfl := sinj h0
      exact TE_ret env rfl tv tv
    · replace h0 := bif_f h0 hb
      refine TC_skip ?_
      refine TE_go ?_
      refine TC_seq ?_
      refine TC_seq ?_
      refine TC_reg ?_
      refine TL_ev env 3 rfl ⟨tv, ⟨tv, ⟨⟨tv, ⟨tv, tv⟩⟩, tv⟩⟩⟩ ?_
      refine TL_end ?_
      refine TE_go ?_
      refine TC_cond rfl (fun hb => ?_) (fun hb => ?_)
      · replace h0 := bif_t h0 hb
        refine TC_seq ?_
        refine TC_reg ?_
        refine TL_ev env 1 rfl ⟨tv, tv⟩ ?_
        refine TL_end ?_
        refine TE_go ?_
        refine TC_ret ?_
        refine tsr ?_
        obtain rfl := sinj h0
        exact TE_ret env rfl tv tv
      · replace h0 := bif_f h0 hb
        refine TC_skip ?_
        refine TE_go ?_
        refine TC_seq ?_
        refine TC_seq ?_
        refine TC_reg ?_
        refine TL_ev env 3 rfl ⟨tv, ⟨tv, ⟨⟨tv, ⟨tv, tv⟩⟩, tv⟩⟩⟩ ?_
        refine TL_end ?_
        refine TE_go ?_
        refine TC_cond rfl (fun hb => ?_) (fun hb => ?_)
        · replace h0 := bif_t h0 hb
          refine TC_seq ?_
          refine TC_reg ?_
          refine TL_ev env 1 rfl ⟨tv, tv⟩ ?_
          refine TL_end ?_
          refine TE_go ?_
          refine TC_ret ?_
          refine tsr ?_
          obtain rfl := sinj h0
          exact TE_ret env rfl tv tv
        · replace h0 := bif_f h0 hb
          refine TC_skip ?_
          refine TE_go ?_
          refine TC_seq ?_
          refine TC_reg ?_
          refine TL_ev env 1 rfl ⟨tv, tv⟩ ?_
          refine TL_end ?_
          refine TE_go ?_
          refine TC_ret ?_
          obtain rfl := sinj h0
          exact TE_ret env rfl tv tv
theorem cmp_Compare_int.ok0 {K : Nat} {p0 : Int} {p1 : Int} {q0 : Int} (h0 : cmp_Compare_int K p0 p1 = some q0) : Fn Try.prog 156 [.int .i64 p0, .int .i64 p1] [] (.int .i64 q0) [] := cmp_Compare_int.ok h0
theorem cmp_Compare_int.fnb : fnb Try.prog 156 = true := fnb_of Try.func156 rfl
def slices_Compare_int_int.res (_p0 : List (Int)) (_p1 : List (Int)) : Int → MV
  | q0 => .int .i64 q0
def slices_Compare_int_int.out (_p0 : List (Int)) (_p1 : List (Int)) : Int → List (Nat × Option MObj)
  | _ => []
theorem slices_Compare_int_int.ok {K : Nat} {p0 : List (Int)} {p1 : List (Int)} {r : Int} (h0 : slices_Compare_int_int K p0 p1 = some r) : Fn Try.prog 123 [.im (.slice (.int .i64)) p0, .im (.slice (.int .i64)) p1] [] (slices_Compare_int_int.res p0 p1 r) (slices_Compare_int_int.out p0 p1 r) := by
  refine Fn_of Try.func123 rfl (Nat.le_of_ble_eq_true rfl) fun Γ => ?_
  refine TC_seq ?_
  refine TC_reg ?_
  refine TL_ev env 1 rfl ⟨tv, tv⟩ ?_
  refine TL_end ?_
  refine TE_go ?_
  refine TC_seq ?_
  refine TC_seq ?_
  refine TC_reg ?_
  refine TL_ev env 3 rfl ⟨tv, ⟨⟨tv, tv⟩, ⟨tv, tv⟩⟩⟩ ?_
  refine TL_end ?_
  refine TE_go ?_
  obtain ⟨z1, h1, h0⟩ := bnd h0
  refine TC_cut (α := Unit) (fun _ => z1 = .inl ()) (fun _ => [(0, .im (.slice (.int .i64)) p0), (1, .im (.slice (.int .i64)) p1)]) (fun _ => []) ?_ ?_
  · refine TC_blk ?_
    refine TC_loop (α := Int) (fun n s => slices_Compare_int_int.l0 K p0 p1 (p0.length : Int) n s = some z1) (fun s => [(0, .im (.slice (.int .i64)) p0), (1, .im (.slice (.int .i64)) p1), (9, .im (.slice (.int .i64)) p0), (10, .int .i64 (p0.length : Int)), (11, .int .i64 s)]) (fun s => []) K ?_ ?_
    · exact SP_ren [] _ h1 ⟨rfl, rfl, rfl, rfl, rfl, tv⟩ tv rfl
    rintro n x16 h1
    rcases n with _ | n
    · exact (nsome h1).elim
    replace h1 : slices_Compare_int_int.r0 K p0 p1 (p0.length : Int) (slices_Compare_int_int.l0 K p0 p1 (p0.length : Int) n) x16 = some z1 := h1
    refine TC_seq ?_
    refine TC_reg ?_
    refine TL_ev env 1 rfl ⟨⟨tv, ⟨tv, tv⟩⟩, tv⟩ ?_
    refine TL_end ?_
    refine TE_go ?_
    refine TC_seq ?_
    refine TC_cond rfl (fun hb => ?_) (fun hb => ?_)
    · replace h1 := bif_t h1 hb
      refine TC_skip ?_
      refine TE_go ?_
      refine TC_seq ?_
      refine TC_blk ?_
      refine TC_seq ?_
      refine TC_reg ?_
      obtain ⟨g, h1⟩ := gd_t h1
      refine TL_ev env 5 rfl ⟨tv, ⟨⟨tv, ⟨tv, ⟨g.1, g.2⟩⟩⟩, ⟨⟨tv, tv⟩, ⟨tv, ⟨tv, tv⟩⟩⟩⟩⟩ ?_
      refine TL_end ?_
      refine TE_go ?_
      refine TC_seq ?_
      refine TC_seq ?_
      refine TC_reg ?_
      refine TL_ev env 4 rfl ⟨tv, ⟨tv, ⟨⟨tv, tv⟩, ⟨⟨tv, ⟨tv, tv⟩⟩, tv⟩⟩⟩⟩ ?_
      refine TL_end ?_
      refine TE_go ?_
      refine TC_cond rfl (fun hb => ?_) (fun hb => ?_)
      · replace h1 := bif_t h1 hb
        refine TC_seq ?_
        refine TC_reg ?_
        refine TL_ev env 1 rfl ⟨tv, tv⟩ ?_
        refine TL_end ?_
        refine TE_go ?_
        refine TC_ret ?_
        refine tsr ?_
        refine tbr ?_
        refine tsr ?_
        refine tsr ?_
        refine tbr ?_
        refine tsr ?_
        refine tsr ?_
        obtain rfl := sinj h1
        obtain rfl := sinj h0
        exact TE_ret env rfl tv tv
      · replace h1 := bif_f h1 hb
        refine TC_skip ?_
        refine TE_go ?_
        refine TC_seq ?_
        refine TC_reg ?_
        obtain ⟨g, h1⟩ := gd_t h1
        refine TL_ev env 5 rfl ⟨tv, ⟨tv, ⟨⟨tv, ⟨tv, ⟨g.1, g.2⟩⟩⟩, ⟨⟨tv, tv⟩, ⟨tv, tv⟩⟩⟩⟩⟩ ?_
        refine TL_end ?_
        refine TE_go ?_
        refine TC_seq ?_
        refine TC_reg ?_
        refine TL_ev env 2 rfl ⟨tv, ⟨tv, tv⟩⟩ ?_
        obtain ⟨r25, hr, h1⟩ := bnd h1
        refine TL_callB [] (cmp_Compare_int.ok0 hr) cmp_Compare_int.fnb rfl ⟨tv, ⟨tv, ⟨tv, tv⟩⟩⟩ rfl tv rfl ?_
        refine TL_ev env 1 rfl ⟨tv, tv⟩ ?_
        refine TL_end ?_
        refine TE_go ?_
        refine TC_seq ?_
        refine TC_reg ?_
        refine TL_ev env 2 rfl ⟨tv, ⟨⟨tv, ⟨tv, tv⟩⟩, tv⟩⟩ ?_
        refine TL_end ?_
        refine TE_go ?_
        refine TC_cond rfl (fun hb => ?_) (fun hb => ?_)
        · replace h1 := bif_t h1 hb
          refine TC_seq ?_
          refine TC_reg ?_
          refine TL_ev env 2 rfl ⟨tv, ⟨tv, tv⟩⟩ ?_
          refine TL_end ?_
          refine TE_go ?_
          refine TC_ret ?_
          refine tbr ?_
          refine tsr ?_
          refine tsr ?_
          refine tbr ?_
          refine tsr ?_
          refine tsr ?_
          obtain rfl := sinj h1
          obtain rfl := sinj h0
          exact TE_ret env rfl tv tv
        · replace h1 := bif_f h1 hb
          refine TC_skip ?_
          refine tbn ?_
          refine TE_go ?_
          refine TC_reg ?_
          refine TL_ev env 2 rfl ⟨⟨tv, ⟨tv, tv⟩⟩, ⟨tv, tv⟩⟩ ?_
          refine TL_end ?_
          refine tsn ?_
          exact TE_nextr [] n (Nat.lt_succ_self n) _ h1 ⟨rfl, rfl, rfl, rfl, rfl, tv⟩ tv rfl
    · replace h1 := bif_f h1 hb
      refine TC_exit ?_
      refine tsx ?_
      refine tsx ?_
      refine tbe ?_
      obtain rfl := sinj h1
      refine tsn ?_
      exact SP_ren [] () rfl ⟨rfl, rfl, tv⟩ tv rfl
  · rintro ⟨⟩ rfl
    refine TE_go ?_
    refine TC_seq ?_
    refine TC_seq ?_
    refine TC_reg ?_
    refine TL_ev env 5 rfl ⟨tv, ⟨⟨tv, tv⟩, ⟨tv, ⟨⟨tv, tv⟩, ⟨⟨tv, ⟨tv, tv⟩⟩, tv⟩⟩⟩⟩⟩ ?_
    refine TL_end ?_
    refine TE_go ?_
    refine TC_cond rfl (fun hb => ?_) (fun hb => ?_)
    · replace h0 := bif_t h0 hb
      refine TC_seq ?_
      refine TC_reg ?_
      refine TL_ev env 1 rfl ⟨tv, tv⟩ ?_
      refine TL_end ?_
      refine TE_go ?_
      refine TC_ret ?_
      refine tsr ?_
      obtain rfl := sinj h0
      exact TE_ret env rfl tv tv
    · replace h0 := bif_f h0 hb
      refine TC_skip ?_
      refine TE_go ?_
      refine TC_seq ?_
      refine TC_reg ?_
      refine TL_ev env 1 rfl ⟨tv, tv⟩ ?_
      refine TL_end ?_
      refine TE_go ?_
      refine TC_ret ?_
      obtain rfl := sinj h0
      exact TE_ret env rfl tv tv
theorem slices_Compare_int_int.ok0 {K : Nat} {p0 : List (Int)} {p1 : List (Int)} {q0 : Int} (h0 : slices_Compare_int_int K p0 p1 = some q0) : Fn Try.prog 123 [.im (.slice (.int .i64)) p0, .im (.slice (.int .i64)) p1] [] (.int .i64 q0) [] := slices_Compare_int_int.ok h0
theorem slices_Compare_int_int.fnb : fnb Try.prog 123 = true := fnb_of Try.func123 rfl
def offer_Better.res (_p0 : Int) (_p1 : Int) (_p2 : Int) (_p3 : Int) (_p4 : Int) (_p5 : Int) (_p6 : Int) (_p7 : Int) (_p8 : Int) (_p9 : Int) (_p10 : Int) (_p11 : Int) (_p12 : Int) (_p13 : Int) (_p14 : Int) (_p15 : Int) (_p16 : Int) (_p17 : Int) (_p18 : Int) (_p19 : Int) : Bool → MV
  | q0 => .bool q0
def offer_Better.out (_p0 : Int) (_p1 : Int) (_p2 : Int) (_p3 : Int) (_p4 : Int) (_p5 : Int) (_p6 : Int) (_p7 : Int) (_p8 : Int) (_p9 : Int) (_p10 : Int) (_p11 : Int) (_p12 : Int) (_p13 : Int) (_p14 : Int) (_p15 : Int) (_p16 : Int) (_p17 : Int) (_p18 : Int) (_p19 : Int) : Bool → List (Nat × Option MObj)
  | _ => []
theorem offer_Better.ok {K : Nat} {p0 : Int} {p1 : Int} {p2 : Int} {p3 : Int} {p4 : Int} {p5 : Int} {p6 : Int} {p7 : Int} {p8 : Int} {p9 : Int} {p10 : Int} {p11 : Int} {p12 : Int} {p13 : Int} {p14 : Int} {p15 : Int} {p16 : Int} {p17 : Int} {p18 : Int} {p19 : Int} {r : Bool} (h0 : offer_Better K p0 p1 p2 p3 p4 p5 p6 p7 p8 p9 p10 p11 p12 p13 p14 p15 p16 p17 p18 p19 = some r) : Fn Try.prog 68 [.agg [.int .i64 p0, .int .i64 p1, .int .i64 p2, .int .i64 p3, .int .i64 p4, .int .i64 p5, .int .i64 p6, .int .i64 p7, .int .i64 p8, .int .i64 p9], .agg [.int .i64 p10, .int .i64 p11, .int .i64 p12, .int .i64 p13, .int .i64 p14, .int .i64 p15, .int .i64 p16, .int .i64 p17, .int .i64 p18, .int .i64 p19]] [] (offer_Better.res p0 p1 p2 p3 p4 p5 p6 p7 p8 p9 p10 p11 p12 p13 p14 p15 p16 p17 p18 p19 r) (offer_Better.out p0 p1 p2 p3 p4 p5 p6 p7 p8 p9 p10 p11 p12 p13 p14 p15 p16 p17 p18 p19 r) := by
  refine Fn_of Try.func68 rfl (Nat.le_of_ble_eq_true rfl) fun Γ => ?_
  refine TC_seq ?_
  refine TC_reg ?_
  refine TL_ev env 3 rfl ⟨tv, ⟨tv, ⟨tv, tv⟩⟩⟩ ?_
  refine TL_end ?_
  refine TE_go ?_
  refine TC_seq ?_
  refine TC_renw (A' := [(2, .p 1002 0), (3, .p 1003 0)]) (L' := [(1002, some (.cells [.int .i64 _, .int .i64 _, .int .i64 _, .int .i64 _, .int .i64 _, .int .i64 _, .int .i64 _, .int .i64 _, .int .i64 _, .int .i64 _])), (1003, some (.cells [.int .i64 _, .int .i64 _, .int .i64 _, .int .i64 _, .int .i64 _, .int .i64 _, .int .i64 _, .int .i64 _, .int .i64 _, .int .i64 _]))]) [] ⟨rfl, rfl, tv⟩ ⟨rfl, rfl, tv⟩ rfl ?_
  refine TC_drawR ⟨_, fun i => ([[], [0], [], [2, 1, 0], [3, 2, 1, 0], [4, 3, 2, 1, 0], [5, 4, 3, 2, 1, 0]] : List (List Nat)).getD i [], fun i => ([[], [], [], [], [], [], []] : List (List Nat)).getD i [], fun i => ([[], [], [], [], [], [], []] : List (List Nat)).getD i []⟩ (fun i => ([[], [], [], [], [], [], []] : List (List Nat)).getD i []) (by kernel_rfl) (by kernel_rfl) ?_
  refine AJR_ev env 1 rfl (Nat.le_of_ble_eq_true rfl) rfl ⟨tv, tv⟩ ?_
  obtain ⟨r4, hr, h0⟩ := bnd h0
  refine AJR_call 2 rfl (Nat.le_of_ble_eq_true rfl) [] rfl (offer_rank.ok0 hr) offer_rank.fnb rfl ⟨tv, ⟨tv, tv⟩⟩ rfl tv rfl ?_
  refine AJR_ev env 3 rfl (Nat.le_of_ble_eq_true rfl) rfl ⟨tv, tv⟩ ?_
  obtain ⟨r5, hr, h0⟩ := bnd h0
  refine AJR_call 4 rfl (Nat.le_of_ble_eq_true rfl) [] rfl (offer_rank.ok0 hr) offer_rank.fnb rfl ⟨tv, ⟨tv, tv⟩⟩ rfl tv rfl ?_
  obtain ⟨r6, hr, h0⟩ := bnd h0
  refine AJR_call 5 rfl (Nat.le_of_ble_eq_true rfl) [] rfl (slices_Compare_int_int.ok0 hr) slices_Compare_int_int.fnb rfl ⟨tv, ⟨tv, ⟨tv, tv⟩⟩⟩ rfl tv rfl ?_
  refine AJR_ev env 6 rfl (Nat.le_of_ble_eq_true rfl) rfl ⟨tv, ⟨tv, tv⟩⟩ ?_
  refine AJR_ev env 7 rfl (Nat.le_of_ble_eq_true rfl) rfl tv ?_
  refine AJR_end rfl rfl rfl ?_
  refine TE_go ?_
  refine TC_ret ?_
  obtain rfl := sinj h0
  exact TE_ret env rfl tv tv
theorem offer_Better.ok0 {K : Nat} {p0 : Int} {p1 : Int} {p2 : Int} {p3 : Int} {p4 : Int} {p5 : Int} {p6 : Int} {p7 : Int} {p8 : Int} {p9 : Int} {p10 : Int} {p11 : Int} {p12 : Int} {p13 : Int} {p14 : Int} {p15 : Int} {p16 : Int} {p17 : Int} {p18 : Int} {p19 : Int} {q0 : Bool} (h0 : offer_Better K p0 p1 p2 p3 p4 p5 p6 p7 p8 p9 p10 p11 p12 p13 p14 p15 p16 p17 p18 p19 = some q0) : Fn Try.prog 68 [.agg [.int .i64 p0, .int .i64 p1, .int .i64 p2, .int .i64 p3, .int .i64 p4, .int .i64 p5, .int .i64 p6, .int .i64 p7, .int .i64 p8, .int .i64 p9], .agg [.int .i64 p10, .int .i64 p11, .int .i64 p12, .int .i64 p13, .int .i64 p14, .int .i64 p15, .int .i64 p16, .int .i64 p17, .int .i64 p18, .int .i64 p19]] [] (.bool q0) [] := offer_Better.ok h0
theorem offer_Better.fnb : fnb Try.prog 68 = true := fnb_of Try.func68 rfl
def psalterylaw24_OfferBest.res (_p0 : List (Int)) (_p1 : List (Int)) (_p2 : Int) (_p3 : Int) (_p4 : Int) (_p5 : Int) (_p6 : Int) (_p7 : Int) (_p8 : Int) (_p9 : Int) (_p10 : Int) (_p11 : Int) (_p12 : Int) (_p13 : Int) : Bool → MV
  | q0 => .bool q0
def psalterylaw24_OfferBest.out (_p0 : List (Int)) (_p1 : List (Int)) (_p2 : Int) (_p3 : Int) (_p4 : Int) (_p5 : Int) (_p6 : Int) (_p7 : Int) (_p8 : Int) (_p9 : Int) (_p10 : Int) (_p11 : Int) (_p12 : Int) (_p13 : Int) : Bool → List (Nat × Option MObj)
  | _ => []
theorem psalterylaw24_OfferBest.ok {K : Nat} {p0 : List (Int)} {p1 : List (Int)} {p2 : Int} {p3 : Int} {p4 : Int} {p5 : Int} {p6 : Int} {p7 : Int} {p8 : Int} {p9 : Int} {p10 : Int} {p11 : Int} {p12 : Int} {p13 : Int} {r : Bool} (h0 : psalterylaw24_OfferBest K p0 p1 p2 p3 p4 p5 p6 p7 p8 p9 p10 p11 p12 p13 = some r) : Fn Try.prog 18 [.im (.slice (.int .u8)) p0, .im (.slice (.int .u8)) p1, .agg [.int .i64 p2, .int .i64 p3, .int .i64 p4, .int .i64 p5, .int .i64 p6, .int .i64 p7, .int .i64 p8, .int .i64 p9, .int .i64 p10, .int .i64 p11], .int .i64 p12, .int .i64 p13] [] (psalterylaw24_OfferBest.res p0 p1 p2 p3 p4 p5 p6 p7 p8 p9 p10 p11 p12 p13 r) (psalterylaw24_OfferBest.out p0 p1 p2 p3 p4 p5 p6 p7 p8 p9 p10 p11 p12 p13 r) := by
  refine Fn_of Try.func18 rfl (Nat.le_of_ble_eq_true rfl) fun Γ => ?_
  refine TC_seq ?_
  refine TC_reg ?_
  refine TL_ev env 2 rfl ⟨tv, ⟨tv, tv⟩⟩ ?_
  refine TL_end ?_
  refine TE_go ?_
  refine TC_seq ?_
  refine TC_seq ?_
  refine TC_reg ?_
  obtain ⟨r67, hr, h0⟩ := bnd h0
  refine TL_callB [] (psalterylaw24_alive.ok0 hr) psalterylaw24_alive.fnb rfl ⟨tv, tv⟩ rfl tv rfl ?_
  refine TL_ev env 1 rfl ⟨tv, tv⟩ ?_
  refine TL_end ?_
  refine TE_go ?_
  refine TC_cond rfl (fun hb => ?_) (fun hb => ?_)
  · replace h0 := bif_t h0 hb
    refine TC_seq ?_
    refine TC_reg ?_
    refine TL_ev env 1 rfl ⟨tv, tv⟩ ?_
    refine TL_end ?_
    refine TE_go ?_
    refine TC_ret ?_
    refine tsr ?_
    obtain rfl := sinj h0
    exact TE_ret env rfl tv tv
  · replace h0 := bif_f h0 hb
    refine TC_skip ?_
    refine TE_go ?_
    refine TC_seq ?_
    refine TC_seq ?_
    refine TC_reg ?_
    refine TL_ev env 8 rfl ⟨tv, ⟨⟨tv, tv⟩, ⟨⟨tv, ⟨tv, tv⟩⟩, ⟨tv, ⟨fun eg => tv, ⟨fun eg => ⟨fun e => e, tv⟩, ⟨fun eg => ⟨fun e => e, ⟨tv, tv⟩⟩, ⟨⟨tv, ⟨tv, fun e => e⟩⟩, tv⟩⟩⟩⟩⟩⟩⟩⟩ ?_
    refine TL_end ?_
    refine TE_go ?_
    refine TC_cond rfl (fun hb => ?_) (fun hb => ?_)
    · replace h0 := bif_t h0 hb
      refine TC_seq ?_
      refine TC_reg ?_
      refine TL_ev env 1 rfl ⟨tv, tv⟩ ?_
      refine TL_end ?_
      refine TE_go ?_
      refine TC_ret ?_
      refine tsr ?_
      obtain rfl := sinj h0
      exact TE_ret env rfl tv tv
    · replace h0 := bif_f h0 hb
      refine TC_skip ?_
      refine TE_go ?_
      refine TC_seq ?_
      refine TC_reg ?_
      refine TL_ev env 1 rfl ⟨tv, tv⟩ ?_
      obtain ⟨⟨r71, r72, r73, r74, r75, r76, r77, r78, r79, r80, r81, r82, r83, r84, r85, r86⟩, hr, h0⟩ := bnd h0
      refine TL_callB [] (caps_Parse.ok0 hr) caps_Parse.fnb rfl ⟨tv, ⟨tv, tv⟩⟩ rfl tv rfl ?_
      refine TL_ev env 6 rfl ⟨tv, ⟨tv, ⟨tv, ⟨tv, ⟨⟨tv, tv⟩, ⟨tv, tv⟩⟩⟩⟩⟩⟩ ?_
      refine TL_end ?_
      refine TE_go ?_
      refine TC_seq ?_
      refine TC_reg ?_
      refine TL_ev env 1 rfl ⟨tv, tv⟩ ?_
      obtain ⟨⟨r87, r88, r89, r90, r91, r92, r93, r94, r95, r96, r97, r98, r99, r100, r101, r102⟩, hr, h0⟩ := bnd h0
      refine TL_callB [] (caps_Parse.ok0 hr) caps_Parse.fnb rfl ⟨tv, ⟨tv, tv⟩⟩ rfl tv rfl ?_
      refine TL_ev env 6 rfl ⟨tv, ⟨tv, ⟨tv, ⟨tv, ⟨⟨tv, tv⟩, ⟨tv, tv⟩⟩⟩⟩⟩⟩ ?_
      refine TL_end ?_
      refine TE_go ?_
      refine TC_seq ?_
      refine TC_reg ?_
      refine TL_ev env 2 rfl ⟨tv, ⟨tv, tv⟩⟩ ?_
      obtain ⟨⟨r103, r104, r105, r106, r107, r108, r109, r110, r111, r112, r113, r114, r115⟩, hr, h0⟩ := bnd h0
      refine TL_callB [] (offer_Negotiate.ok0 hr) offer_Negotiate.fnb rfl ⟨tv, ⟨tv, ⟨tv, tv⟩⟩⟩ rfl tv rfl ?_
      refine TL_ev env 9 rfl ⟨tv, ⟨tv, ⟨tv, ⟨tv, ⟨tv, ⟨tv, ⟨⟨tv, tv⟩, ⟨⟨tv, tv⟩, ⟨tv, tv⟩⟩⟩⟩⟩⟩⟩⟩⟩ ?_
      refine TL_end ?_
      refine TE_go ?_
      refine TC_seq ?_
      refine TC_reg ?_
      refine TL_ev env 2 rfl ⟨tv, ⟨tv, tv⟩⟩ ?_
      obtain ⟨⟨r116, r117, r118, r119, r120, r121, r122, r123, r124, r125, r126, r127, r128⟩, hr, h0⟩ := bnd h0
      refine TL_callB [] (offer_Negotiate.ok0 hr) offer_Negotiate.fnb rfl ⟨tv, ⟨tv, ⟨tv, tv⟩⟩⟩ rfl tv rfl ?_
      refine TL_ev env 9 rfl ⟨tv, ⟨tv, ⟨tv, ⟨tv, ⟨tv, ⟨tv, ⟨⟨tv, tv⟩, ⟨⟨tv, tv⟩, ⟨tv, tv⟩⟩⟩⟩⟩⟩⟩⟩⟩ ?_
      refine TL_end ?_
      refine TE_go ?_
      refine TC_seq ?_
      refine TC_seq ?_
      refine TC_reg ?_
      refine TL_ev env 13 rfl ⟨⟨tv, tv⟩, ⟨⟨tv, tv⟩, ⟨⟨tv, ⟨tv, tv⟩⟩, ⟨tv, ⟨fun eg => ⟨tv, tv⟩, ⟨fun eg => ⟨tv, tv⟩, ⟨fun eg => ⟨fun e => e, ⟨fun e => e, tv⟩⟩, ⟨⟨tv, ⟨tv, fun e => e⟩⟩, ⟨tv, ⟨fun eg => tv, ⟨fun eg => tv, ⟨fun eg => ⟨fun e => e, ⟨fun e => e, tv⟩⟩, ⟨⟨tv, ⟨tv, fun e => e⟩⟩, tv⟩⟩⟩⟩⟩⟩⟩⟩⟩⟩⟩⟩⟩ ?_
      refine TL_end ?_
      refine TE_go ?_
      refine TC_cond rfl (fun hb => ?_) (fun hb => ?_)
      · replace h0 := bif_t h0 hb
        refine TC_seq ?_
        refine TC_reg ?_
        refine TL_ev env 1 rfl ⟨tv, tv⟩ ?_
        refine TL_end ?_
        refine TE_go ?_
        refine TC_ret ?_
        refine tsr ?_
        obtain rfl := sinj h0
        exact TE_ret env rfl tv tv
      · replace h0 := bif_f h0 hb
        refine TC_skip ?_
        refine TE_go ?_
        refine TC_seq ?_
        refine TC_seq ?_
        refine TC_reg ?_
        refine TL_ev env 6 rfl ⟨tv, ⟨⟨tv, ⟨tv, tv⟩⟩, ⟨tv, ⟨fun eg => tv, ⟨fun eg => ⟨fun e => e, ⟨tv, tv⟩⟩, ⟨⟨tv, ⟨tv, fun e => e⟩⟩, tv⟩⟩⟩⟩⟩⟩ ?_
        refine TL_end ?_
        refine TE_go ?_
        refine TC_cond rfl (fun hb => ?_) (fun hb => ?_)
        · replace h0 := bif_t h0 hb
          refine TC_seq ?_
          refine TC_reg ?_
          refine TL_ev env 3 rfl ⟨tv, ⟨⟨tv, ⟨tv, tv⟩⟩, ⟨tv, tv⟩⟩⟩ ?_
          refine TL_end ?_
          refine TE_go ?_
          refine TC_ret ?_
          refine tsr ?_
          obtain rfl := sinj h0
          exact TE_ret env rfl tv tv
        · replace h0 := bif_f h0 hb
          refine TC_skip ?_
          refine TE_go ?_
          refine TC_seq ?_
          refine TC_reg ?_
          refine TL_ev env 5 rfl ⟨tv, ⟨tv, ⟨⟨tv, ⟨tv, tv⟩⟩, ⟨tv, ⟨⟨tv, tv⟩, tv⟩⟩⟩⟩⟩ ?_
          refine TL_end ?_
          refine TE_go ?_
          refine TC_seq ?_
          obtain ⟨z1, h1, h0⟩ := bnd h0
          refine TC_cut (α := Bool) (fun s => z1 = s) (fun s => [(3, .int .i64 p12), (4, .int .i64 p13), (7, .p 10300 0), (11, .p 10301 0), (13, .p 10302 0), (15, .p 10303 0), (16, .p 10304 0), (17, .int .i64 r115), (22, .bool s)]) (fun s => [(10300, some (.cells [.int .i64 p2, .int .i64 p3, .int .i64 p4, .int .i64 p5, .int .i64 p6, .int .i64 p7, .int .i64 p8, .int .i64 p9, .int .i64 p10, .int .i64 p11])), (10301, some (.cells [.int .i64 r71, .int .i64 r72, .int .i64 r73, .int .i64 r74, .int .i64 r75, .int .i64 r76, .int .i64 r77, .int .i64 r78, .int .i64 r79, .int .i64 r80, .int .i64 r81, .int .i64 r82, .int .i64 r83, .int .i64 r84, .int .i64 r85])), (10302, some (.cells [.int .i64 r87, .int .i64 r88, .int .i64 r89, .int .i64 r90, .int .i64 r91, .int .i64 r92, .int .i64 r93, .int .i64 r94, .int .i64 r95, .int .i64 r96, .int .i64 r97, .int .i64 r98, .int .i64 r99, .int .i64 r100, .int .i64 r101])), (10303, some (.cells [.int .i64 r103, .int .i64 r104, .int .i64 r105, .int .i64 r106, .int .i64 r107, .int .i64 r108, .int .i64 r109, .int .i64 r110, .int .i64 r111, .int .i64 r112])), (10304, some (.cells [.int .i64 r113, .int .i64 r114]))]) ?_ ?_
          · refine TC_reg ?_
            refine TL_ev env 3 rfl ⟨⟨tv, tv⟩, ⟨⟨tv, tv⟩, ⟨⟨tv, tv⟩, tv⟩⟩⟩ ?_
            obtain ⟨r150, hr, h1⟩ := bnd h1
            refine TL_callB [] (caps_Allows.ok0 hr) caps_Allows.fnb rfl ⟨tv, ⟨tv, ⟨tv, ⟨tv, tv⟩⟩⟩⟩ rfl tv rfl ?_
            refine TL_ev env 1 rfl ⟨tv, tv⟩ ?_
            refine TL_split 85 rfl (fun hb => ?_) (fun hb => ?_)
            · replace h1 := bif_t h1 hb
              refine TL_gt rfl rfl rfl rfl ?_
              refine TL_ev env 1 rfl ⟨⟨tv, tv⟩, tv⟩ ?_
              refine TL_gt rfl rfl rfl rfl ?_
              refine TL_ev env 1 rfl ⟨⟨tv, tv⟩, tv⟩ ?_
              refine TL_gt rfl rfl rfl rfl ?_
              refine TL_ev env 1 rfl ⟨⟨tv, tv⟩, tv⟩ ?_
              refine TL_gt rfl rfl rfl rfl ?_
              obtain ⟨r151, hr, h1⟩ := bnd h1
              refine TL_callB [] (caps_Allows.ok0 hr) caps_Allows.fnb rfl ⟨tv, ⟨tv, ⟨tv, ⟨tv, tv⟩⟩⟩⟩ rfl tv rfl ?_
              refine TL_ev env 2 rfl ⟨⟨tv, ⟨tv, tv⟩⟩, ⟨tv, tv⟩⟩ ?_
              refine TL_end ?_
              obtain rfl := sinj h1
              refine tsn ?_
              exact SP_ren [(10300, 1007), (10301, 1011), (10302, 1013), (10303, 1015), (10304, 1016)] _ rfl ⟨rfl, rfl, rfl, rfl, rfl, rfl, rfl, rfl, rfl, tv⟩ ⟨rfl, rfl, rfl, rfl, rfl, tv⟩ rfl
            · replace h1 := bif_f h1 hb
              refine TL_gf (.bool false) rfl rfl rfl rfl rfl (by decide) ?_
              refine TL_gf (.bool false) rfl rfl rfl rfl rfl (by decide) ?_
              refine TL_gf (.bool false) rfl rfl rfl rfl rfl (by decide) ?_
              refine TL_gf (.bool false) rfl rfl rfl rfl rfl (by decide) ?_
              refine TL_ev env 2 rfl ⟨⟨tv, ⟨fun e => e, tv⟩⟩, ⟨tv, tv⟩⟩ ?_
              refine TL_end ?_
              obtain rfl := sinj h1
              refine tsn ?_
              exact SP_ren [(10300, 1007), (10301, 1011), (10302, 1013), (10303, 1015), (10304, 1016)] _ rfl ⟨rfl, rfl, rfl, rfl, rfl, rfl, rfl, rfl, rfl, tv⟩ ⟨rfl, rfl, rfl, rfl, rfl, tv⟩ rfl
          · rintro x137 hz
            obtain rfl := hz.symm
            refine TE_go ?_
            refine TC_seq ?_
            refine TC_seq ?_
            refine TC_reg ?_
            refine TL_ev env 2 rfl ⟨tv, ⟨⟨tv, ⟨tv, tv⟩⟩, tv⟩⟩ ?_
            refine TL_end ?_
            refine TE_go ?_
            refine TC_cond rfl (fun hb => ?_) (fun hb => ?_)
            · replace h0 := bif_t h0 hb
              refine TC_seq ?_
              refine TC_reg ?_
              refine TL_ev env 7 rfl ⟨tv, ⟨⟨tv, ⟨tv, tv⟩⟩, ⟨tv, ⟨fun eg => tv, ⟨fun eg => fun e => e, ⟨⟨tv, ⟨fun e => e, tv⟩⟩, ⟨tv, tv⟩⟩⟩⟩⟩⟩⟩ ?_
              refine TL_end ?_
              refine TE_go ?_
              refine TC_ret ?_
              refine tsr ?_
              obtain rfl := sinj h0
              exact TE_ret env rfl tv tv
            · replace h0 := bif_f h0 hb
              refine TC_skip ?_
              refine TE_go ?_
              refine TC_seq ?_
              obtain ⟨z1, h1, h0⟩ := bnd h0
              refine TC_cut (α := Bool) (fun s => z1 = s) (fun s => [(10, .bool s)]) (fun s => []) ?_ ?_
              · refine TC_reg ?_
                refine TL_ev env 3 rfl ⟨⟨tv, tv⟩, ⟨⟨tv, tv⟩, ⟨⟨tv, tv⟩, tv⟩⟩⟩ ?_
                obtain ⟨r143, hr, h1⟩ := bnd h1
                refine TL_callB [] (caps_Allows.ok0 hr) caps_Allows.fnb rfl ⟨tv, ⟨tv, ⟨tv, ⟨tv, tv⟩⟩⟩⟩ rfl tv rfl ?_
                refine TL_ev env 1 rfl ⟨tv, tv⟩ ?_
                refine TL_split 103 rfl (fun hb => ?_) (fun hb => ?_)
                · replace h1 := bif_t h1 hb
                  refine TL_gt rfl rfl rfl rfl ?_
                  refine TL_ev env 1 rfl ⟨⟨tv, tv⟩, tv⟩ ?_
                  refine TL_gt rfl rfl rfl rfl ?_
                  refine TL_ev env 1 rfl ⟨⟨tv, tv⟩, tv⟩ ?_
                  refine TL_gt rfl rfl rfl rfl ?_
                  refine TL_ev env 1 rfl ⟨⟨tv, tv⟩, tv⟩ ?_
                  refine TL_gt rfl rfl rfl rfl ?_
                  obtain ⟨r144, hr, h1⟩ := bnd h1
                  refine TL_callB [] (caps_Allows.ok0 hr) caps_Allows.fnb rfl ⟨tv, ⟨tv, ⟨tv, ⟨tv, tv⟩⟩⟩⟩ rfl tv rfl ?_
                  refine TL_ev env 2 rfl ⟨⟨tv, ⟨tv, tv⟩⟩, ⟨tv, tv⟩⟩ ?_
                  refine TL_split 109 rfl (fun hb => ?_) (fun hb => ?_)
                  · replace h1 := bif_t h1 hb
                    refine TL_gt rfl rfl rfl rfl ?_
                    refine TL_ev env 1 rfl ⟨tv, tv⟩ ?_
                    refine TL_gt rfl rfl rfl rfl ?_
                    refine TL_ev env 1 rfl ⟨tv, tv⟩ ?_
                    refine TL_gt rfl rfl rfl rfl ?_
                    refine TL_ev env 1 rfl ⟨tv, tv⟩ ?_
                    refine TL_split 112 rfl (fun hb => ?_) (fun hb => ?_)
                    · replace h1 := bif_t h1 hb
                      refine TL_gf (.bool false) rfl rfl rfl rfl rfl (by decide) ?_
                      refine TL_gf (.bool false) rfl rfl rfl rfl rfl (by decide) ?_
                      refine TL_gf (.bool false) rfl rfl rfl rfl rfl (by decide) ?_
                      refine TL_gf (.bool false) rfl rfl rfl rfl rfl (by decide) ?_
                      refine TL_gf (.bool false) rfl rfl rfl rfl rfl (by decide) ?_
                      refine TL_gu (.bool false) rfl rfl rfl rfl rfl (by decide) ?_
                      refine TL_gu (.bool false) rfl rfl rfl rfl rfl (by decide) ?_
                      refine TL_gu (.bool false) rfl rfl rfl rfl rfl (by decide) ?_
                      refine TL_gu (.bool false) rfl rfl rfl rfl rfl (by decide) ?_
                      refine TL_gf (.bool false) rfl rfl rfl rfl rfl (by decide) ?_
                      refine TL_gf (.bool false) rfl rfl rfl rfl rfl (by decide) ?_
                      refine TL_gu (.bool false) rfl rfl rfl rfl rfl (by decide) ?_
                      refine TL_gu (.bool false) rfl rfl rfl rfl rfl (by decide) ?_
                      refine TL_gu (.bool false) rfl rfl rfl rfl rfl (by decide) ?_
                      refine TL_gu (.bool false) rfl rfl rfl rfl rfl (by decide) ?_
                      refine TL_gf (.bool false) rfl rfl rfl rfl rfl (by decide) ?_
                      refine TL_gt rfl rfl rfl rfl ?_
                      refine TL_ev env 3 rfl ⟨⟨tv, ⟨tv, fun e => e⟩⟩, ⟨⟨tv, ⟨tv, tv⟩⟩, ⟨tv, tv⟩⟩⟩ ?_
                      refine TL_end ?_
                      obtain rfl := sinj h1
                      refine tsn ?_
                      exact SP_ren [] _ rfl ⟨rfl, tv⟩ tv rfl
                    · replace h1 := bif_f h1 hb
                      refine TL_gt rfl rfl rfl rfl ?_
                      refine TL_ev env 1 rfl ⟨⟨tv, tv⟩, tv⟩ ?_
                      refine TL_gt rfl rfl rfl rfl ?_
                      refine TL_ev env 1 rfl ⟨⟨tv, tv⟩, tv⟩ ?_
                      refine TL_gt rfl rfl rfl rfl ?_
                      obtain ⟨r145, hr, h1⟩ := bnd h1
                      refine TL_callB [] (offer_Better.ok0 hr) offer_Better.fnb rfl ⟨tv, ⟨tv, ⟨tv, tv⟩⟩⟩ rfl tv rfl ?_
                      refine TL_gt rfl rfl rfl rfl ?_
                      refine TL_ev env 1 rfl ⟨tv, tv⟩ ?_
                      refine TL_gt rfl rfl rfl rfl ?_
                      refine TL_ev env 5 rfl ⟨tv, ⟨fun eg => tv, ⟨fun eg => tv, ⟨fun eg => ⟨fun e => e, tv⟩, ⟨fun eg => ⟨fun e => e, ⟨fun e => e, tv⟩⟩, tv⟩⟩⟩⟩⟩ ?_
                      refine TL_gt rfl rfl rfl rfl ?_
                      refine TL_ev env 1 rfl ⟨⟨tv, ⟨fun e => e, tv⟩⟩, tv⟩ ?_
                      refine TL_gt rfl rfl rfl rfl ?_
                      refine TL_ev env 5 rfl ⟨tv, ⟨fun eg => tv, ⟨fun eg => tv, ⟨fun eg => ⟨fun e => e, tv⟩, ⟨fun eg => ⟨fun e => e, ⟨fun e => e, tv⟩⟩, tv⟩⟩⟩⟩⟩ ?_
                      refine TL_gt rfl rfl rfl rfl ?_
                      refine TL_ev env 1 rfl ⟨⟨tv, ⟨fun e => e, tv⟩⟩, tv⟩ ?_
                      refine TL_gt rfl rfl rfl rfl ?_
                      refine TL_ev env 3 rfl ⟨⟨tv, ⟨tv, tv⟩⟩, ⟨⟨tv, ⟨tv, tv⟩⟩, ⟨tv, tv⟩⟩⟩ ?_
                      refine TL_end ?_
                      obtain rfl := sinj h1
                      refine tsn ?_
                      exact SP_ren [] _ rfl ⟨rfl, tv⟩ tv rfl
                  · replace h1 := bif_f h1 hb
                    refine TL_gf (.bool false) rfl rfl rfl rfl rfl (by decide) ?_
                    refine TL_gf (.bool false) rfl rfl rfl rfl rfl (by decide) ?_
                    refine TL_gf (.bool false) rfl rfl rfl rfl rfl (by decide) ?_
                    refine TL_gu (.bool false) rfl rfl rfl rfl rfl (by decide) ?_
                    refine TL_gu (.bool false) rfl rfl rfl rfl rfl (by decide) ?_
                    refine TL_gu (.bool false) rfl rfl rfl rfl rfl (by decide) ?_
                    refine TL_gu (.bool false) rfl rfl rfl rfl rfl (by decide) ?_
                    refine TL_gu (.bool false) rfl rfl rfl rfl rfl (by decide) ?_
                    refine TL_gu (.bool false) rfl rfl rfl rfl rfl (by decide) ?_
                    refine TL_gu (.bool false) rfl rfl rfl rfl rfl (by decide) ?_
                    refine TL_gu (.bool false) rfl rfl rfl rfl rfl (by decide) ?_
                    refine TL_gu (.bool false) rfl rfl rfl rfl rfl (by decide) ?_
                    refine TL_gu (.bool false) rfl rfl rfl rfl rfl (by decide) ?_
                    refine TL_gu (.bool false) rfl rfl rfl rfl rfl (by decide) ?_
                    refine TL_gu (.bool false) rfl rfl rfl rfl rfl (by decide) ?_
                    refine TL_gu (.bool false) rfl rfl rfl rfl rfl (by decide) ?_
                    refine TL_gu (.bool false) rfl rfl rfl rfl rfl (by decide) ?_
                    refine TL_gu (.bool false) rfl rfl rfl rfl rfl (by decide) ?_
                    refine TL_gu (.bool false) rfl rfl rfl rfl rfl (by decide) ?_
                    refine TL_gf (.bool false) rfl rfl rfl rfl rfl (by decide) ?_
                    refine TL_ev env 2 rfl ⟨⟨tv, ⟨fun e => e, tv⟩⟩, ⟨tv, tv⟩⟩ ?_
                    refine TL_end ?_
                    obtain rfl := sinj h1
                    refine tsn ?_
                    exact SP_ren [] _ rfl ⟨rfl, tv⟩ tv rfl
                · replace h1 := bif_f h1 hb
                  refine TL_gf (.bool false) rfl rfl rfl rfl rfl (by decide) ?_
                  refine TL_gf (.bool false) rfl rfl rfl rfl rfl (by decide) ?_
                  refine TL_gf (.bool false) rfl rfl rfl rfl rfl (by decide) ?_
                  refine TL_gf (.bool false) rfl rfl rfl rfl rfl (by decide) ?_
                  refine TL_ev env 2 rfl ⟨⟨tv, ⟨fun e => e, tv⟩⟩, ⟨tv, tv⟩⟩ ?_
                  refine TL_gf (.bool false) rfl rfl rfl rfl rfl (by decide) ?_
                  refine TL_gf (.bool false) rfl rfl rfl rfl rfl (by decide) ?_
                  refine TL_gf (.bool false) rfl rfl rfl rfl rfl (by decide) ?_
                  refine TL_gu (.bool false) rfl rfl rfl rfl rfl (by decide) ?_
                  refine TL_gu (.bool false) rfl rfl rfl rfl rfl (by decide) ?_
                  refine TL_gu (.bool false) rfl rfl rfl rfl rfl (by decide) ?_
                  refine TL_gu (.bool false) rfl rfl rfl rfl rfl (by decide) ?_
                  refine TL_gu (.bool false) rfl rfl rfl rfl rfl (by decide) ?_
                  refine TL_gu (.bool false) rfl rfl rfl rfl rfl (by decide) ?_
                  refine TL_gu (.bool false) rfl rfl rfl rfl rfl (by decide) ?_
                  refine TL_gu (.bool false) rfl rfl rfl rfl rfl (by decide) ?_
                  refine TL_gu (.bool false) rfl rfl rfl rfl rfl (by decide) ?_
                  refine TL_gu (.bool false) rfl rfl rfl rfl rfl (by decide) ?_
                  refine TL_gu (.bool false) rfl rfl rfl rfl rfl (by decide) ?_
                  refine TL_gu (.bool false) rfl rfl rfl rfl rfl (by decide) ?_
                  refine TL_gu (.bool false) rfl rfl rfl rfl rfl (by decide) ?_
                  refine TL_gu (.bool false) rfl rfl rfl rfl rfl (by decide) ?_
                  refine TL_gu (.bool false) rfl rfl rfl rfl rfl (by decide) ?_
                  refine TL_gu (.bool false) rfl rfl rfl rfl rfl (by decide) ?_
                  refine TL_gf (.bool false) rfl rfl rfl rfl rfl (by decide) ?_
                  refine TL_ev env 2 rfl ⟨⟨tv, ⟨fun e => e, tv⟩⟩, ⟨tv, tv⟩⟩ ?_
                  refine TL_end ?_
                  obtain rfl := sinj h1
                  refine tsn ?_
                  exact SP_ren [] _ rfl ⟨rfl, tv⟩ tv rfl
              · rintro x142 hz
                obtain rfl := hz.symm
                refine TE_go ?_
                refine TC_ret ?_
                obtain rfl := sinj h0
                exact TE_ret env rfl tv tv
theorem psalterylaw24_OfferBest.ok0 {K : Nat} {p0 : List (Int)} {p1 : List (Int)} {p2 : Int} {p3 : Int} {p4 : Int} {p5 : Int} {p6 : Int} {p7 : Int} {p8 : Int} {p9 : Int} {p10 : Int} {p11 : Int} {p12 : Int} {p13 : Int} {q0 : Bool} (h0 : psalterylaw24_OfferBest K p0 p1 p2 p3 p4 p5 p6 p7 p8 p9 p10 p11 p12 p13 = some q0) : Fn Try.prog 18 [.im (.slice (.int .u8)) p0, .im (.slice (.int .u8)) p1, .agg [.int .i64 p2, .int .i64 p3, .int .i64 p4, .int .i64 p5, .int .i64 p6, .int .i64 p7, .int .i64 p8, .int .i64 p9, .int .i64 p10, .int .i64 p11], .int .i64 p12, .int .i64 p13] [] (.bool q0) [] := psalterylaw24_OfferBest.ok h0
theorem psalterylaw24_OfferBest.fnb : fnb Try.prog 18 = true := fnb_of Try.func18 rfl
end Go.Fo
