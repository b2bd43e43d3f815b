/- Each call comes to the function that is written for it. -/
import Derived.Test.YtcaehpgdcjonfaaSoT
import Derived.Test.YtcaehpgdcjonfaaSoF
import Derived.Test.YtcaehpgdcjonfaaSoP0
import Derived.Test.YtcaehpgdcjonfaaSoP1
namespace Go.Fo
open Go.Proofs
set_option maxRecDepth 20000
set_option maxHeartbeats 4000000
def offer_down_10.res (_p0 : Int) (_p1 : Int) (_p2 : Int) (_p3 : Int) (_p4 : Int) (_p5 : Int) (_p6 : Int) (_p7 : Int) (_p8 : Int) (_p9 : Int) (_p10 : Int) (_p11 : Int) (_p12 : Int) (_p13 : Int) (_p14 : Int) (_p15 : Int) (_p16 : Int) (_p17 : Int) (_p18 : Int) (_p19 : Int) (_p20 : Int) (_p21 : Int) (_p22 : Int) (_p23 : Int) (_p24 : Int) (_p25 : Int) (_p26 : Int) (_p27 : Int) (_p28 : Int) : Bool × Int × Int × Int × Int × Int × Int × Int × Int × Int × Int → MV
  | (q0, _, _, _, _, _, _, _, _, _, _) => .bool q0
def offer_down_10.out (_p0 : Int) (_p1 : Int) (p2 : Int) (p3 : Int) (p4 : Int) (p5 : Int) (p6 : Int) (p7 : Int) (p8 : Int) (p9 : Int) (p10 : Int) (p11 : Int) (p12 : Int) (p13 : Int) (p14 : Int) (p15 : Int) (p16 : Int) (p17 : Int) (p18 : Int) (_p19 : Int) (_p20 : Int) (_p21 : Int) (_p22 : Int) (_p23 : Int) (_p24 : Int) (_p25 : Int) (_p26 : Int) (_p27 : Int) (_p28 : Int) : Bool × Int × Int × Int × Int × Int × Int × Int × Int × Int × Int → List (Nat × Option MObj)
  | (_, q1, q2, q3, q4, q5, q6, q7, q8, q9, q10) => [(0, some (.cells [.int .i64 p2, .int .i64 p3, .int .i64 p4, .int .i64 p5, .int .i64 p6, .int .i64 p7, .int .i64 p8, .int .i64 p9, .int .i64 p10, .int .i64 p11, .int .i64 p12, .int .i64 p13, .int .i64 p14, .int .i64 p15, .int .i64 p16])), (1, some (.cells [.fn 116 [.p 0 0, .p 2 0, .p 3 0]])), (2, some (.cells [.int .i64 p17, .int .i64 p18])), (3, some (.cells [.int .i64 q1, .int .i64 q2, .int .i64 q3, .int .i64 q4, .int .i64 q5, .int .i64 q6, .int .i64 q7, .int .i64 q8, .int .i64 q9, .int .i64 q10]))]
theorem offer_down_10.ok {K : Nat} {p0 : Int} {p1 : Int} {p2 : Int} {p3 : Int} {p4 : Int} {p5 : Int} {p6 : Int} {p7 : Int} {p8 : Int} {p9 : Int} {p10 : Int} {p11 : Int} {p12 : Int} {p13 : Int} {p14 : Int} {p15 : Int} {p16 : Int} {p17 : Int} {p18 : Int} {p19 : Int} {p20 : Int} {p21 : Int} {p22 : Int} {p23 : Int} {p24 : Int} {p25 : Int} {p26 : Int} {p27 : Int} {p28 : Int} {r : Bool × Int × Int × Int × Int × Int × Int × Int × Int × Int × Int} (h0 : offer_down_10 K p0 p1 p2 p3 p4 p5 p6 p7 p8 p9 p10 p11 p12 p13 p14 p15 p16 p17 p18 p19 p20 p21 p22 p23 p24 p25 p26 p27 p28 = some r) : Fn Try.prog 117 [.int .i64 p0, .int .i64 p1, .fn 118 [.p 0 0, .p 1 0]] [(0, some (.cells [.int .i64 p2, .int .i64 p3, .int .i64 p4, .int .i64 p5, .int .i64 p6, .int .i64 p7, .int .i64 p8, .int .i64 p9, .int .i64 p10, .int .i64 p11, .int .i64 p12, .int .i64 p13, .int .i64 p14, .int .i64 p15, .int .i64 p16])), (1, some (.cells [.fn 116 [.p 0 0, .p 2 0, .p 3 0]])), (2, some (.cells [.int .i64 p17, .int .i64 p18])), (3, some (.cells [.int .i64 p19, .int .i64 p20, .int .i64 p21, .int .i64 p22, .int .i64 p23, .int .i64 p24, .int .i64 p25, .int .i64 p26, .int .i64 p27, .int .i64 p28]))] (offer_down_10.res p0 p1 p2 p3 p4 p5 p6 p7 p8 p9 p10 p11 p12 p13 p14 p15 p16 p17 p18 p19 p20 p21 p22 p23 p24 p25 p26 p27 p28 r) (offer_down_10.out p0 p1 p2 p3 p4 p5 p6 p7 p8 p9 p10 p11 p12 p13 p14 p15 p16 p17 p18 p19 p20 p21 p22 p23 p24 p25 p26 p27 p28 r) := by
  refine Fn_of Try.func117 rfl (Nat.le_of_ble_eq_true rfl) fun Γ => ?_
  refine TC_seq ?_
  refine TC_reg ?_
  refine TL_ev env 1 rfl ⟨trivial, trivial⟩ ?_
  refine TL_end ?_
  refine TE_go ?_
  refine TC_seq ?_
  refine TC_seq ?_
  refine TC_reg ?_
  refine TL_ev env 2 rfl ⟨trivial, ⟨trivial, trivial⟩⟩ ?_
  refine TL_end ?_
  refine TE_go ?_
  obtain ⟨z1, h1, h0⟩ := bnd h0
  refine TC_cut (α := Int × Int × Int × Int × Int × Int × Int × Int × Int × Int) (fun s => z1 = .inl s) (fun s => []) (fun s => [(0, some (.cells [.int .i64 p2, .int .i64 p3, .int .i64 p4, .int .i64 p5, .int .i64 p6, .int .i64 p7, .int .i64 p8, .int .i64 p9, .int .i64 p10, .int .i64 p11, .int .i64 p12, .int .i64 p13, .int .i64 p14, .int .i64 p15, .int .i64 p16])), (1, some (.cells [.fn 116 [.p 0 0, .p 2 0, .p 3 0]])), (2, some (.cells [.int .i64 p17, .int .i64 p18])), (3, some (.cells [.int .i64 s.1, .int .i64 s.2.1, .int .i64 s.2.2.1, .int .i64 s.2.2.2.1, .int .i64 s.2.2.2.2.1, .int .i64 s.2.2.2.2.2.1, .int .i64 s.2.2.2.2.2.2.1, .int .i64 s.2.2.2.2.2.2.2.1, .int .i64 s.2.2.2.2.2.2.2.2.1, .int .i64 s.2.2.2.2.2.2.2.2.2]))]) ?_ ?_
  · refine TC_blk ?_
    refine TC_loop (α := Int × Int × Int × Int × Int × Int × Int × Int × Int × Int × Int) (fun n s => offer_down_10.l0 K p1 p2 p3 p4 p5 p6 p7 p8 p9 p10 p11 p12 p13 p14 p15 p16 p17 p18 n s.1 s.2.1 s.2.2.1 s.2.2.2.1 s.2.2.2.2.1 s.2.2.2.2.2.1 s.2.2.2.2.2.2.1 s.2.2.2.2.2.2.2.1 s.2.2.2.2.2.2.2.2.1 s.2.2.2.2.2.2.2.2.2.1 s.2.2.2.2.2.2.2.2.2.2 = some z1) (fun s => [(1, .int .i64 p1), (2, .fn 118 [.p 0 0, .p 1 0]), (7, .int .i64 s.1)]) (fun s => [(0, some (.cells [.int .i64 p2, .int .i64 p3, .int .i64 p4, .int .i64 p5, .int .i64 p6, .int .i64 p7, .int .i64 p8, .int .i64 p9, .int .i64 p10, .int .i64 p11, .int .i64 p12, .int .i64 p13, .int .i64 p14, .int .i64 p15, .int .i64 p16])), (1, some (.cells [.fn 116 [.p 0 0, .p 2 0, .p 3 0]])), (2, some (.cells [.int .i64 p17, .int .i64 p18])), (3, some (.cells [.int .i64 s.2.1, .int .i64 s.2.2.1, .int .i64 s.2.2.2.1, .int .i64 s.2.2.2.2.1, .int .i64 s.2.2.2.2.2.1, .int .i64 s.2.2.2.2.2.2.1, .int .i64 s.2.2.2.2.2.2.2.1, .int .i64 s.2.2.2.2.2.2.2.2.1, .int .i64 s.2.2.2.2.2.2.2.2.2.1, .int .i64 s.2.2.2.2.2.2.2.2.2.2]))]) K ?_ ?_
    · exact SP_ren [] (_, _, _, _, _, _, _, _, _, _, _) h1 ⟨rfl, rfl, rfl, trivial⟩ ⟨rfl, rfl, rfl, rfl, trivial⟩ rfl
    rintro n ⟨x175, x176, x177, x178, x179, x180, x181, x182, x183, x184, x185⟩ h1
    rcases n with _ | n
    · exact (nsome h1).elim
    replace h1 : offer_down_10.r0 K p1 p2 p3 p4 p5 p6 p7 p8 p9 p10 p11 p12 p13 p14 p15 p16 p17 p18 (offer_down_10.l0 K p1 p2 p3 p4 p5 p6 p7 p8 p9 p10 p11 p12 p13 p14 p15 p16 p17 p18 n) x175 x176 x177 x178 x179 x180 x181 x182 x183 x184 x185 = some z1 := h1
    refine TC_seq ?_
    refine TC_seq ?_
    refine TC_reg ?_
    refine TL_ev env 3 rfl ⟨trivial, ⟨trivial, ⟨⟨trivial, ⟨trivial, trivial⟩⟩, trivial⟩⟩⟩ ?_
    refine TL_end ?_
    refine TE_go ?_
    refine TC_cond rfl (fun hb => ?_) (fun hb => ?_)
    · replace h1 := bif_t h1 hb
      refine TC_skip ?_
      refine TE_go ?_
      refine TC_seq ?_
      refine TC_blk ?_
      refine TC_seq ?_
      refine TC_reg ?_
      refine TL_ev env 2 rfl ⟨trivial, ⟨trivial, trivial⟩⟩ ?_
      obtain ⟨⟨r231, r232, r233, r234, r235, r236, r237, r238, r239, r240, r241⟩, hr, h1⟩ := bnd h1
      refine TL_callB [(0, 0), (1, 1), (2, 2), (3, 3)] (offer_Choose_2.ok0 hr) offer_Choose_2.fnb rfl ⟨trivial, ⟨trivial, trivial⟩⟩ rfl ⟨.inr rfl, .inr rfl, .inr rfl, .inr rfl, trivial⟩ rfl ?_
      refine TL_end ?_
      refine TE_go ?_
      refine TC_cond rfl (fun hb => ?_) (fun hb => ?_)
      · replace h1 := bif_t h1 hb
        refine TC_seq ?_
        refine TC_reg ?_
        refine TL_ev env 1 rfl ⟨trivial, trivial⟩ ?_
        refine TL_end ?_
        refine TE_go ?_
        refine TC_ret ?_
        refine tbr ?_
        refine tsr ?_
        refine tsr ?_
        refine tbr ?_
        refine tsr ?_
        refine tsr ?_
        obtain rfl := sinj h1
        obtain rfl := sinj h0
        exact TE_ret env rfl trivial ⟨.inr rfl, .inr rfl, .inr rfl, .inr rfl, trivial⟩
      · replace h1 := bif_f h1 hb
        refine TC_skip ?_
        refine tbn ?_
        refine TE_go ?_
        refine TC_reg ?_
        refine TL_ev env 3 rfl ⟨trivial, ⟨⟨trivial, ⟨trivial, trivial⟩⟩, ⟨trivial, trivial⟩⟩⟩ ?_
        refine TL_end ?_
        refine tsn ?_
        exact TE_nextr [] n (Nat.lt_succ_self n) (_, _, _, _, _, _, _, _, _, _, _) h1 ⟨rfl, rfl, rfl, trivial⟩ ⟨rfl, rfl, rfl, rfl, trivial⟩ rfl
    · replace h1 := bif_f h1 hb
      refine TC_exit ?_
      refine tsx ?_
      refine tsx ?_
      refine tbe ?_
      obtain rfl := sinj h1
      refine tsn ?_
      exact SP_ren [] (_, _, _, _, _, _, _, _, _, _) rfl trivial ⟨rfl, rfl, rfl, rfl, trivial⟩ rfl
  · rintro ⟨x143, x144, x145, x146, x147, x148, x149, x150, x151, x152⟩ rfl
    refine TE_go ?_
    refine TC_seq ?_
    refine TC_reg ?_
    refine TL_ev env 1 rfl ⟨trivial, trivial⟩ ?_
    refine TL_end ?_
    refine TE_go ?_
    refine TC_ret ?_
    obtain rfl := sinj h0
    exact TE_ret env rfl trivial ⟨.inr rfl, .inr rfl, .inr rfl, .inr rfl, trivial⟩
theorem offer_down_10.ok0 {K : Nat} {p0 : Int} {p1 : Int} {p2 : Int} {p3 : Int} {p4 : Int} {p5 : Int} {p6 : Int} {p7 : Int} {p8 : Int} {p9 : Int} {p10 : Int} {p11 : Int} {p12 : Int} {p13 : Int} {p14 : Int} {p15 : Int} {p16 : Int} {p17 : Int} {p18 : Int} {p19 : Int} {p20 : Int} {p21 : Int} {p22 : Int} {p23 : Int} {p24 : Int} {p25 : Int} {p26 : Int} {p27 : Int} {p28 : Int} {q0 : Bool} {q1 : Int} {q2 : Int} {q3 : Int} {q4 : Int} {q5 : Int} {q6 : Int} {q7 : Int} {q8 : Int} {q9 : Int} {q10 : Int} (h0 : offer_down_10 K p0 p1 p2 p3 p4 p5 p6 p7 p8 p9 p10 p11 p12 p13 p14 p15 p16 p17 p18 p19 p20 p21 p22 p23 p24 p25 p26 p27 p28 = some (q0, q1, q2, q3, q4, q5, q6, q7, q8, q9, q10)) : Fn Try.prog 117 [.int .i64 p0, .int .i64 p1, .fn 118 [.p 0 0, .p 1 0]] [(0, some (.cells [.int .i64 p2, .int .i64 p3, .int .i64 p4, .int .i64 p5, .int .i64 p6, .int .i64 p7, .int .i64 p8, .int .i64 p9, .int .i64 p10, .int .i64 p11, .int .i64 p12, .int .i64 p13, .int .i64 p14, .int .i64 p15, .int .i64 p16])), (1, some (.cells [.fn 116 [.p 0 0, .p 2 0, .p 3 0]])), (2, some (.cells [.int .i64 p17, .int .i64 p18])), (3, some (.cells [.int .i64 p19, .int .i64 p20, .int .i64 p21, .int .i64 p22, .int .i64 p23, .int .i64 p24, .int .i64 p25, .int .i64 p26, .int .i64 p27, .int .i64 p28]))] (.bool q0) [(0, some (.cells [.int .i64 p2, .int .i64 p3, .int .i64 p4, .int .i64 p5, .int .i64 p6, .int .i64 p7, .int .i64 p8, .int .i64 p9, .int .i64 p10, .int .i64 p11, .int .i64 p12, .int .i64 p13, .int .i64 p14, .int .i64 p15, .int .i64 p16])), (1, some (.cells [.fn 116 [.p 0 0, .p 2 0, .p 3 0]])), (2, some (.cells [.int .i64 p17, .int .i64 p18])), (3, some (.cells [.int .i64 q1, .int .i64 q2, .int .i64 q3, .int .i64 q4, .int .i64 q5, .int .i64 q6, .int .i64 q7, .int .i64 q8, .int .i64 q9, .int .i64 q10]))] := offer_down_10.ok h0
theorem offer_down_10.fnb : fnb Try.prog 117 = true := fnb_of Try.func117 rfl
def offer_Choose.res (_p0 : Int) (_p1 : Int) (_p2 : Int) (_p3 : Int) (_p4 : Int) (_p5 : Int) (_p6 : Int) (_p7 : Int) (_p8 : Int) (_p9 : Int) (_p10 : Int) (_p11 : Int) (_p12 : Int) (_p13 : Int) (_p14 : Int) : Int × Int × Int × Int × Int × Int × Int × Int × Int × Int × Int × Int × Int → MV
  | (q0, q1, q2, q3, q4, q5, q6, q7, q8, q9, q10, q11, q12) => .tup [.agg [.int .i64 q0, .int .i64 q1, .int .i64 q2, .int .i64 q3, .int .i64 q4, .int .i64 q5, .int .i64 q6, .int .i64 q7, .int .i64 q8, .int .i64 q9], .agg [.int .i64 q10, .int .i64 q11], .int .i64 q12]
def offer_Choose.out (_p0 : Int) (_p1 : Int) (_p2 : Int) (_p3 : Int) (_p4 : Int) (_p5 : Int) (_p6 : Int) (_p7 : Int) (_p8 : Int) (_p9 : Int) (_p10 : Int) (_p11 : Int) (_p12 : Int) (_p13 : Int) (_p14 : Int) : Int × Int × Int × Int × Int × Int × Int × Int × Int × Int × Int × Int × Int → List (Nat × Option MObj)
  | (_, _, _, _, _, _, _, _, _, _, _, _, _) => []
theorem offer_Choose.ok {K : Nat} {p0 : Int} {p1 : Int} {p2 : Int} {p3 : Int} {p4 : Int} {p5 : Int} {p6 : Int} {p7 : Int} {p8 : Int} {p9 : Int} {p10 : Int} {p11 : Int} {p12 : Int} {p13 : Int} {p14 : Int} {r : Int × Int × Int × Int × Int × Int × Int × Int × Int × Int × Int × Int × Int} (h0 : offer_Choose K p0 p1 p2 p3 p4 p5 p6 p7 p8 p9 p10 p11 p12 p13 p14 = some r) : Fn Try.prog 65 [.agg [.int .i64 p0, .int .i64 p1, .int .i64 p2, .int .i64 p3, .int .i64 p4, .int .i64 p5, .int .i64 p6, .int .i64 p7, .int .i64 p8, .int .i64 p9, .int .i64 p10, .int .i64 p11, .int .i64 p12, .int .i64 p13, .int .i64 p14]] [] (offer_Choose.res p0 p1 p2 p3 p4 p5 p6 p7 p8 p9 p10 p11 p12 p13 p14 r) (offer_Choose.out p0 p1 p2 p3 p4 p5 p6 p7 p8 p9 p10 p11 p12 p13 p14 r) := by
  refine Fn_of Try.func65 rfl (Nat.le_of_ble_eq_true rfl) fun Γ => ?_
  refine TC_seq ?_
  refine TC_reg ?_
  refine TL_ev env 4 rfl ⟨trivial, ⟨trivial, ⟨trivial, ⟨trivial, trivial⟩⟩⟩⟩ ?_
  refine TL_end ?_
  refine TE_go ?_
  refine TC_seq ?_
  refine TC_reg ?_
  refine TL_ev env 7 rfl ⟨trivial, ⟨⟨trivial, trivial⟩, ⟨trivial, ⟨⟨trivial, trivial⟩, ⟨⟨trivial, ⟨trivial, trivial⟩⟩, ⟨trivial, ⟨⟨trivial, trivial⟩, trivial⟩⟩⟩⟩⟩⟩⟩ ?_
  refine TL_end ?_
  refine TE_go ?_
  refine TC_seq ?_
  refine TC_reg ?_
  refine TL_ev env 1 rfl ⟨trivial, trivial⟩ ?_
  refine TL_end ?_
  refine TE_go ?_
  refine TC_seq ?_
  refine TC_reg ?_
  refine TL_ev env 3 rfl ⟨⟨trivial, ⟨trivial, ⟨trivial, trivial⟩⟩⟩, ⟨trivial, ⟨⟨trivial, trivial⟩, trivial⟩⟩⟩ ?_
  refine TL_end ?_
  refine TE_go ?_
  refine TC_seq ?_
  obtain ⟨z1, h1, h0⟩ := bnd h0
  refine TC_cut (α := Bool × Int × Int × Int × Int × Int × Int × Int × Int × Int × Int) (fun s => z1 = s) (fun s => [(2, .p 10200 0), (3, .p 10201 0), (5, .p 10202 0), (6, .p 10203 0), (8, .bool s.1)]) (fun s => [(10200, some (.cells [.int .i64 0, .int .i64 0, .int .i64 0, .int .i64 0, .int .i64 0, .int .i64 0, .int .i64 0, .int .i64 0, .int .i64 0, .int .i64 0])), (10201, some (.cells [.int .i64 0, .int .i64 0])), (10202, some (.cells [.int .i64 p13, .int .i64 p14])), (10203, some (.cells [.int .i64 s.2.1, .int .i64 s.2.2.1, .int .i64 s.2.2.2.1, .int .i64 s.2.2.2.2.1, .int .i64 s.2.2.2.2.2.1, .int .i64 s.2.2.2.2.2.2.1, .int .i64 s.2.2.2.2.2.2.2.1, .int .i64 s.2.2.2.2.2.2.2.2.1, .int .i64 s.2.2.2.2.2.2.2.2.2.1, .int .i64 s.2.2.2.2.2.2.2.2.2.2]))]) ?_ ?_
  · refine TC_reg ?_
    refine TL_ev env 1 rfl ⟨⟨trivial, trivial⟩, trivial⟩ ?_
    obtain ⟨r47, hr, h1⟩ := bnd h1
    refine TL_callB [] (caps_Check.ok0 hr) caps_Check.fnb rfl ⟨trivial, ⟨trivial, trivial⟩⟩ rfl trivial rfl ?_
    refine TL_ev env 2 rfl ⟨⟨trivial, ⟨trivial, trivial⟩⟩, ⟨trivial, trivial⟩⟩ ?_
    refine TL_split 18 rfl (fun hb => ?_) (fun hb => ?_)
    · replace h1 := bif_t h1 hb
      refine TL_gt rfl rfl rfl rfl ?_
      refine TL_ev env 1 rfl ⟨⟨trivial, ⟨trivial, trivial⟩⟩, trivial⟩ ?_
      refine TL_gt rfl rfl rfl rfl ?_
      obtain ⟨⟨r48, r49, r50, r51, r52, r53, r54, r55, r56, r57, r58⟩, hr, h1⟩ := bnd h1
      refine TL_callB [(0, 1001), (1, 1007), (2, 1005), (3, 1006)] (offer_down_10.ok0 hr) offer_down_10.fnb rfl ⟨trivial, ⟨trivial, ⟨trivial, ⟨trivial, trivial⟩⟩⟩⟩ rfl ⟨.inr rfl, .inr rfl, .inr rfl, .inr rfl, trivial⟩ rfl ?_
      refine TL_ev env 2 rfl ⟨⟨trivial, ⟨trivial, trivial⟩⟩, ⟨trivial, trivial⟩⟩ ?_
      refine TL_end ?_
      obtain rfl := sinj h1
      refine tsn ?_
      exact SP_ren [(10200, 1002), (10201, 1003), (10202, 1005), (10203, 1006)] (_, _, _, _, _, _, _, _, _, _, _) rfl ⟨rfl, rfl, rfl, rfl, rfl, trivial⟩ ⟨rfl, rfl, rfl, rfl, trivial⟩ rfl
    · replace h1 := bif_f h1 hb
      refine TL_gf (.bool false) rfl rfl rfl rfl rfl (by decide) ?_
      refine TL_gf (.bool false) rfl rfl rfl rfl rfl (by decide) ?_
      refine TL_ev env 2 rfl ⟨⟨trivial, ⟨fun e => e, trivial⟩⟩, ⟨trivial, trivial⟩⟩ ?_
      refine TL_end ?_
      obtain rfl := sinj h1
      refine tsn ?_
      exact SP_ren [(10200, 1002), (10201, 1003), (10202, 1005), (10203, 1006)] (_, _, _, _, _, _, _, _, _, _, _) rfl ⟨rfl, rfl, rfl, rfl, rfl, trivial⟩ ⟨rfl, rfl, rfl, rfl, trivial⟩ rfl
  · rintro ⟨x36, x37, x38, x39, x40, x41, x42, x43, x44, x45, x46⟩ rfl
    refine TE_go ?_
    refine TC_seq ?_
    refine TC_seq ?_
    refine TC_reg ?_
    refine TL_ev env 2 rfl ⟨trivial, ⟨trivial, trivial⟩⟩ ?_
    refine TL_end ?_
    refine TE_go ?_
    refine TC_cond rfl (fun hb => ?_) (fun hb => ?_)
    · replace h0 := bif_t h0 hb
      refine TC_seq ?_
      refine TC_reg ?_
      refine TL_ev env 5 rfl ⟨trivial, ⟨trivial, ⟨⟨trivial, trivial⟩, ⟨⟨trivial, trivial⟩, ⟨trivial, trivial⟩⟩⟩⟩⟩ ?_
      refine TL_end ?_
      refine TE_go ?_
      refine TC_ret ?_
      refine tsr ?_
      obtain rfl := sinj h0
      exact TE_ret env rfl ⟨trivial, ⟨trivial, trivial⟩⟩ trivial
    · replace h0 := bif_f h0 hb
      refine TC_skip ?_
      refine TE_go ?_
      refine TC_seq ?_
      refine TC_renw (A' := [(2, .p 10200 0), (3, .p 10201 0), (5, .p 10202 0), (6, .p 10203 0)]) (L' := [(10200, some (.cells [.int .i64 0, .int .i64 0, .int .i64 0, .int .i64 0, .int .i64 0, .int .i64 0, .int .i64 0, .int .i64 0, .int .i64 0, .int .i64 0])), (10201, some (.cells [.int .i64 0, .int .i64 0])), (10202, some (.cells [.int .i64 _, .int .i64 _])), (10203, some (.cells [.int .i64 _, .int .i64 _, .int .i64 _, .int .i64 _, .int .i64 _, .int .i64 _, .int .i64 _, .int .i64 _, .int .i64 _, .int .i64 _]))]) [] ⟨rfl, rfl, rfl, rfl, trivial⟩ ⟨rfl, rfl, rfl, rfl, trivial⟩ rfl ?_
      refine TC_drawR ⟨_, fun i => ([[], [], [0], [2, 1, 0], [3, 2, 1, 0]] : List (List Nat)).getD i [], fun i => ([[], [], [10200], [10201], []] : List (List Nat)).getD i [], fun i => ([[], [], [], [], []] : List (List Nat)).getD i []⟩ (fun i => ([[], [10200], [], [], []] : List (List Nat)).getD i []) (by kernel_rfl) (by kernel_rfl) ?_
      refine AJR_ev env 1 rfl (Nat.le_of_ble_eq_true rfl) rfl ⟨trivial, trivial⟩ ?_
      refine AJR_ev env 2 rfl (Nat.le_of_ble_eq_true rfl) rfl ⟨trivial, trivial⟩ ?_
      refine AJR_ev env 3 rfl (Nat.le_of_ble_eq_true rfl) rfl ⟨trivial, trivial⟩ ?_
      refine AJR_ev env 4 rfl (Nat.le_of_ble_eq_true rfl) rfl ⟨trivial, trivial⟩ ?_
      refine AJR_ev env 5 rfl (Nat.le_of_ble_eq_true rfl) rfl trivial ?_
      refine AJR_end rfl rfl rfl ?_
      refine TE_go ?_
      refine TC_ret ?_
      obtain rfl := sinj h0
      exact TE_ret env rfl ⟨trivial, ⟨trivial, trivial⟩⟩ trivial
theorem offer_Choose.ok0 {K : Nat} {p0 : Int} {p1 : Int} {p2 : Int} {p3 : Int} {p4 : Int} {p5 : Int} {p6 : Int} {p7 : Int} {p8 : Int} {p9 : Int} {p10 : Int} {p11 : Int} {p12 : Int} {p13 : Int} {p14 : Int} {q0 : Int} {q1 : Int} {q2 : Int} {q3 : Int} {q4 : Int} {q5 : Int} {q6 : Int} {q7 : Int} {q8 : Int} {q9 : Int} {q10 : Int} {q11 : Int} {q12 : Int} (h0 : offer_Choose K p0 p1 p2 p3 p4 p5 p6 p7 p8 p9 p10 p11 p12 p13 p14 = some (q0, q1, q2, q3, q4, q5, q6, q7, q8, q9, q10, q11, q12)) : Fn Try.prog 65 [.agg [.int .i64 p0, .int .i64 p1, .int .i64 p2, .int .i64 p3, .int .i64 p4, .int .i64 p5, .int .i64 p6, .int .i64 p7, .int .i64 p8, .int .i64 p9, .int .i64 p10, .int .i64 p11, .int .i64 p12, .int .i64 p13, .int .i64 p14]] [] (.tup [.agg [.int .i64 q0, .int .i64 q1, .int .i64 q2, .int .i64 q3, .int .i64 q4, .int .i64 q5, .int .i64 q6, .int .i64 q7, .int .i64 q8, .int .i64 q9], .agg [.int .i64 q10, .int .i64 q11], .int .i64 q12]) [] := offer_Choose.ok h0
theorem offer_Choose.fnb : fnb Try.prog 65 = true := fnb_of Try.func65 rfl
def offer_Negotiate.res (_p0 : List (Int)) (_p1 : List (Int)) : Int × Int × Int × Int × Int × Int × Int × Int × Int × Int × Int × Int × Int → MV
  | (q0, q1, q2, q3, q4, q5, q6, q7, q8, q9, q10, q11, q12) => .tup [.agg [.int .i64 q0, .int .i64 q1, .int .i64 q2, .int .i64 q3, .int .i64 q4, .int .i64 q5, .int .i64 q6, .int .i64 q7, .int .i64 q8, .int .i64 q9], .agg [.int .i64 q10, .int .i64 q11], .int .i64 q12]
def offer_Negotiate.out (_p0 : List (Int)) (_p1 : List (Int)) : Int × Int × Int × Int × Int × Int × Int × Int × Int × Int × Int × Int × Int → List (Nat × Option MObj)
  | (_, _, _, _, _, _, _, _, _, _, _, _, _) => []
theorem offer_Negotiate.ok {K : Nat} {p0 : List (Int)} {p1 : List (Int)} {r : Int × Int × Int × Int × Int × Int × Int × Int × Int × Int × Int × Int × Int} (h0 : offer_Negotiate K p0 p1 = some r) : Fn Try.prog 71 [.im (.slice (.int .u8)) p0, .im (.slice (.int .u8)) p1] [] (offer_Negotiate.res p0 p1 r) (offer_Negotiate.out p0 p1 r) := by
  refine Fn_of Try.func71 rfl (Nat.le_of_ble_eq_true rfl) fun Γ => ?_
  refine TC_seq ?_
  refine TC_reg ?_
  refine TL_ev env 3 rfl ⟨trivial, ⟨trivial, ⟨trivial, trivial⟩⟩⟩ ?_
  refine TL_end ?_
  refine TE_go ?_
  refine TC_seq ?_
  refine TC_reg ?_
  refine TL_ev env 1 rfl ⟨trivial, trivial⟩ ?_
  obtain ⟨⟨r61, r62, r63, r64, r65, r66, r67, r68, r69, r70, r71, r72, r73, r74, r75, r76⟩, hr, h0⟩ := bnd h0
  refine TL_callB [] (caps_Parse.ok0 hr) caps_Parse.fnb rfl ⟨trivial, ⟨trivial, trivial⟩⟩ rfl trivial rfl ?_
  refine TL_ev env 6 rfl ⟨trivial, ⟨trivial, ⟨trivial, ⟨trivial, ⟨⟨trivial, trivial⟩, ⟨trivial, trivial⟩⟩⟩⟩⟩⟩ ?_
  refine TL_end ?_
  refine TE_go ?_
  refine TC_seq ?_
  refine TC_seq ?_
  refine TC_reg ?_
  refine TL_ev env 2 rfl ⟨trivial, ⟨⟨trivial, ⟨trivial, trivial⟩⟩, trivial⟩⟩ ?_
  refine TL_end ?_
  refine TE_go ?_
  refine TC_cond rfl (fun hb => ?_) (fun hb => ?_)
  · replace h0 := bif_t h0 hb
    refine TC_seq ?_
    refine TC_reg ?_
    refine TL_ev env 6 rfl ⟨trivial, ⟨trivial, ⟨trivial, ⟨⟨trivial, trivial⟩, ⟨⟨trivial, trivial⟩, ⟨trivial, trivial⟩⟩⟩⟩⟩⟩ ?_
    refine TL_end ?_
    refine TE_go ?_
    refine TC_ret ?_
    refine tsr ?_
    obtain rfl := sinj h0
    exact TE_ret env rfl ⟨trivial, ⟨trivial, trivial⟩⟩ trivial
  · replace h0 := bif_f h0 hb
    refine TC_skip ?_
    refine TE_go ?_
    refine TC_seq ?_
    refine TC_reg ?_
    refine TL_ev env 1 rfl ⟨trivial, trivial⟩ ?_
    obtain ⟨⟨r77, r78, r79, r80, r81, r82, r83, r84, r85, r86, r87, r88, r89, r90, r91, r92⟩, hr, h0⟩ := bnd h0
    refine TL_callB [] (caps_Parse.ok0 hr) caps_Parse.fnb rfl ⟨trivial, ⟨trivial, trivial⟩⟩ rfl trivial rfl ?_
    refine TL_ev env 6 rfl ⟨trivial, ⟨trivial, ⟨trivial, ⟨trivial, ⟨⟨trivial, trivial⟩, ⟨trivial, trivial⟩⟩⟩⟩⟩⟩ ?_
    refine TL_end ?_
    refine TE_go ?_
    refine TC_seq ?_
    refine TC_seq ?_
    refine TC_reg ?_
    refine TL_ev env 2 rfl ⟨trivial, ⟨⟨trivial, ⟨trivial, trivial⟩⟩, trivial⟩⟩ ?_
    refine TL_end ?_
    refine TE_go ?_
    refine TC_cond rfl (fun hb => ?_) (fun hb => ?_)
    · replace h0 := bif_t h0 hb
      refine TC_seq ?_
      refine TC_reg ?_
      refine TL_ev env 6 rfl ⟨trivial, ⟨trivial, ⟨trivial, ⟨⟨trivial, trivial⟩, ⟨⟨trivial, trivial⟩, ⟨trivial, trivial⟩⟩⟩⟩⟩⟩ ?_
      refine TL_end ?_
      refine TE_go ?_
      refine TC_ret ?_
      refine tsr ?_
      obtain rfl := sinj h0
      exact TE_ret env rfl ⟨trivial, ⟨trivial, trivial⟩⟩ trivial
    · replace h0 := bif_f h0 hb
      refine TC_skip ?_
      refine TE_go ?_
      refine TC_seq ?_
      refine TC_reg ?_
      refine TL_ev env 2 rfl ⟨⟨trivial, trivial⟩, ⟨⟨trivial, trivial⟩, trivial⟩⟩ ?_
      obtain ⟨⟨r93, r94, r95, r96, r97, r98, r99, r100, r101, r102, r103, r104, r105, r106, r107⟩, hr, h0⟩ := bnd h0
      refine TL_callB [] (offer_Meet.ok0 hr) offer_Meet.fnb rfl ⟨trivial, ⟨trivial, ⟨trivial, trivial⟩⟩⟩ rfl trivial rfl ?_
      obtain ⟨⟨r108, r109, r110, r111, r112, r113, r114, r115, r116, r117, r118, r119, r120⟩, hr, h0⟩ := bnd h0
      refine TL_callB [] (offer_Choose.ok0 hr) offer_Choose.fnb rfl ⟨trivial, ⟨trivial, trivial⟩⟩ rfl trivial rfl ?_
      refine TL_ev env 6 rfl ⟨trivial, ⟨trivial, ⟨trivial, ⟨⟨trivial, trivial⟩, ⟨⟨trivial, trivial⟩, ⟨trivial, trivial⟩⟩⟩⟩⟩⟩ ?_
      refine TL_end ?_
      refine TE_go ?_
      refine TC_ret ?_
      obtain rfl := sinj h0
      exact TE_ret env rfl ⟨trivial, ⟨trivial, trivial⟩⟩ trivial
theorem offer_Negotiate.ok0 {K : Nat} {p0 : List (Int)} {p1 : List (Int)} {q0 : Int} {q1 : Int} {q2 : Int} {q3 : Int} {q4 : Int} {q5 : Int} {q6 : Int} {q7 : Int} {q8 : Int} {q9 : Int} {q10 : Int} {q11 : Int} {q12 : Int} (h0 : offer_Negotiate K p0 p1 = some (q0, q1, q2, q3, q4, q5, q6, q7, q8, q9, q10, q11, q12)) : Fn Try.prog 71 [.im (.slice (.int .u8)) p0, .im (.slice (.int .u8)) p1] [] (.tup [.agg [.int .i64 q0, .int .i64 q1, .int .i64 q2, .int .i64 q3, .int .i64 q4, .int .i64 q5, .int .i64 q6, .int .i64 q7, .int .i64 q8, .int .i64 q9], .agg [.int .i64 q10, .int .i64 q11], .int .i64 q12]) [] := offer_Negotiate.ok h0
theorem offer_Negotiate.fnb : fnb Try.prog 71 = true := fnb_of Try.func71 rfl
def stream_Stream_Configure.res (_p0 : List (Int)) (_p1 : List (Int)) (_p2 : Int) (_p3 : Int) (_p4 : Int) (_p5 : Int) (_p6 : Int) (_p7 : Int) (_p8 : Int) (_p9 : Int) (_p10 : Int) (_p11 : Int) (_p12 : Int) (_p13 : Int) (_p14 : Int) (_p15 : Int) : Int × Int × Int × Int × Int × Int × Int × Int × Int × Int × Int × Int × Int × Int → MV
  | (q0, _, _, _, _, _, _, _, _, _, _, _, _, _) => .int .i64 q0
def stream_Stream_Configure.out (_p0 : List (Int)) (_p1 : List (Int)) (_p2 : Int) (p3 : Int) (_p4 : Int) (_p5 : Int) (_p6 : Int) (_p7 : Int) (_p8 : Int) (_p9 : Int) (_p10 : Int) (_p11 : Int) (_p12 : Int) (_p13 : Int) (_p14 : Int) (_p15 : Int) : Int × Int × Int × Int × Int × Int × Int × Int × Int × Int × Int × Int × Int × Int → List (Nat × Option MObj)
  | (_, q1, q2, q3, q4, q5, q6, q7, q8, q9, q10, q11, q12, q13) => [(0, some (.cells [.int .i64 q1, .int .i64 p3, .int .i64 q2, .int .i64 q3, .int .i64 q4, .int .i64 q5, .int .i64 q6, .int .i64 q7, .int .i64 q8, .int .i64 q9, .int .i64 q10, .int .i64 q11, .int .i64 q12, .int .i64 q13]))]
theorem stream_Stream_Configure.ok {K : Nat} {p0 : List (Int)} {p1 : List (Int)} {p2 : Int} {p3 : Int} {p4 : Int} {p5 : Int} {p6 : Int} {p7 : Int} {p8 : Int} {p9 : Int} {p10 : Int} {p11 : Int} {p12 : Int} {p13 : Int} {p14 : Int} {p15 : Int} {r : Int × Int × Int × Int × Int × Int × Int × Int × Int × Int × Int × Int × Int × Int} (h0 : stream_Stream_Configure K p0 p1 p2 p3 p4 p5 p6 p7 p8 p9 p10 p11 p12 p13 p14 p15 = some r) : Fn Try.prog 76 [.p 0 0, .im (.slice (.int .u8)) p0, .im (.slice (.int .u8)) p1] [(0, some (.cells [.int .i64 p2, .int .i64 p3, .int .i64 p4, .int .i64 p5, .int .i64 p6, .int .i64 p7, .int .i64 p8, .int .i64 p9, .int .i64 p10, .int .i64 p11, .int .i64 p12, .int .i64 p13, .int .i64 p14, .int .i64 p15]))] (stream_Stream_Configure.res p0 p1 p2 p3 p4 p5 p6 p7 p8 p9 p10 p11 p12 p13 p14 p15 r) (stream_Stream_Configure.out p0 p1 p2 p3 p4 p5 p6 p7 p8 p9 p10 p11 p12 p13 p14 p15 r) := by
  refine Fn_of Try.func76 rfl (Nat.le_of_ble_eq_true rfl) fun Γ => ?_
  refine TC_seq ?_
  refine TC_reg ?_
  refine TL_ev env 1 rfl ⟨trivial, trivial⟩ ?_
  refine TL_end ?_
  refine TE_go ?_
  refine TC_seq ?_
  refine TC_blk ?_
  refine TC_seq ?_
  refine TC_reg ?_
  refine TL_ev env 3 rfl ⟨trivial, ⟨⟨trivial, ⟨trivial, trivial⟩⟩, ⟨trivial, trivial⟩⟩⟩ ?_
  refine TL_end ?_
  refine TE_go ?_
  refine TC_cond rfl (fun hb => ?_) (fun hb => ?_)
  · first | exact (ftf hb).elim | exact (tff hb).elim | exact absurd hb (by decide)
  · refine TC_seq ?_
    refine TC_reg ?_
    refine TL_ev env 13 rfl ⟨trivial, ⟨trivial, ⟨trivial, ⟨⟨trivial, trivial⟩, ⟨⟨trivial, ⟨trivial, trivial⟩⟩, ⟨trivial, ⟨fun eg => trivial, ⟨fun eg => fun e => e, ⟨fun eg => fun e => e, ⟨fun eg => ⟨fun e => e, trivial⟩, ⟨fun eg => ⟨fun e => e, ⟨trivial, trivial⟩⟩, ⟨⟨trivial, ⟨fun e => e, trivial⟩⟩, ⟨trivial, trivial⟩⟩⟩⟩⟩⟩⟩⟩⟩⟩⟩⟩⟩ ?_
    refine TL_end ?_
    refine TE_go ?_
    refine TC_cond rfl (fun hb => ?_) (fun hb => ?_)
    · replace h0 := bif_t h0 hb
      refine TC_seq ?_
      refine TC_reg ?_
      refine TL_ev env 1 rfl ⟨trivial, trivial⟩ ?_
      refine TL_end ?_
      refine TE_go ?_
      refine TC_ret ?_
      refine tbr ?_
      refine tsr ?_
      obtain rfl := sinj h0
      exact TE_ret env rfl trivial ⟨.inr rfl, trivial⟩
    · replace h0 := bif_f h0 hb
      refine TC_skip ?_
      refine tbn ?_
      refine TE_go ?_
      refine TC_seq ?_
      refine TC_reg ?_
      refine TL_ev env 2 rfl ⟨trivial, ⟨trivial, trivial⟩⟩ ?_
      obtain ⟨⟨r28, r29, r30, r31, r32, r33, r34, r35, r36, r37, r38, r39, r40⟩, hr, h0⟩ := bnd h0
      refine TL_callB [] (offer_Negotiate.ok0 hr) offer_Negotiate.fnb rfl ⟨trivial, ⟨trivial, ⟨trivial, trivial⟩⟩⟩ rfl trivial rfl ?_
      refine TL_ev env 9 rfl ⟨trivial, ⟨trivial, ⟨trivial, ⟨trivial, ⟨trivial, ⟨trivial, ⟨⟨trivial, trivial⟩, ⟨⟨trivial, trivial⟩, ⟨trivial, trivial⟩⟩⟩⟩⟩⟩⟩⟩⟩ ?_
      refine TL_end ?_
      refine TE_go ?_
      refine TC_seq ?_
      refine TC_seq ?_
      refine TC_reg ?_
      refine TL_ev env 2 rfl ⟨trivial, ⟨⟨trivial, ⟨trivial, trivial⟩⟩, trivial⟩⟩ ?_
      refine TL_end ?_
      refine TE_go ?_
      obtain ⟨z1, h1, h0⟩ := bnd h0
      refine TC_cut (α := Int × Int × Int × Int × Int × Int × Int × Int × Int × Int × Int × Int × Int) (fun s => z1 = s) (fun s => [(9, .int .i64 r40)]) (fun s => [(0, some (.cells [.int .i64 s.1, .int .i64 p3, .int .i64 s.2.1, .int .i64 s.2.2.1, .int .i64 s.2.2.2.1, .int .i64 s.2.2.2.2.1, .int .i64 s.2.2.2.2.2.1, .int .i64 s.2.2.2.2.2.2.1, .int .i64 s.2.2.2.2.2.2.2.1, .int .i64 s.2.2.2.2.2.2.2.2.1, .int .i64 s.2.2.2.2.2.2.2.2.2.1, .int .i64 s.2.2.2.2.2.2.2.2.2.2.1, .int .i64 s.2.2.2.2.2.2.2.2.2.2.2.1, .int .i64 s.2.2.2.2.2.2.2.2.2.2.2.2]))]) ?_ ?_
      · refine TC_cond rfl (fun hb => ?_) (fun hb => ?_)
        · replace h1 := bif_t h1 hb
          refine TC_renw (A' := [(0, .p 0 0), (7, .p 1007 0), (8, .p 1008 0), (9, .int .i64 _)]) (L' := [(0, some (.cells [.int .i64 _, .int .i64 _, .int .i64 _, .int .i64 _, .int .i64 _, .int .i64 _, .int .i64 _, .int .i64 _, .int .i64 _, .int .i64 _, .int .i64 _, .int .i64 _, .int .i64 _, .int .i64 _])), (1007, some (.cells [.int .i64 _, .int .i64 _, .int .i64 _, .int .i64 _, .int .i64 _, .int .i64 _, .int .i64 _, .int .i64 _, .int .i64 _, .int .i64 _])), (1008, some (.cells [.int .i64 _, .int .i64 _]))]) [] ⟨rfl, rfl, rfl, rfl, trivial⟩ ⟨rfl, rfl, rfl, trivial⟩ rfl ?_
          refine TC_drawR ⟨_, fun i => ([[], [], [], [], [], [0], [5, 0], [6, 5, 0], [7, 6, 5, 3, 1, 0], [8, 7, 6, 5, 3, 1, 0], [9, 8, 7, 6, 5, 3, 1, 0], [10, 9, 8, 7, 6, 5, 4, 3, 2, 1, 0], [11, 10, 9, 8, 7, 6, 5, 4, 3, 2, 1, 0], [12, 11, 10, 9, 8, 7, 6, 5, 4, 3, 2, 1, 0]] : List (List Nat)).getD i [], fun i => ([[], [], [], [], [], [], [], [0], [], [], [0], [], [], [0]] : List (List Nat)).getD i [], fun i => ([[], [], [], [], [], [], [], [], [], [], [], [], [], []] : List (List Nat)).getD i []⟩ (fun i => ([[], [0], [0], [0], [0], [], [], [], [], [], [], [], [], []] : List (List Nat)).getD i []) (by kernel_rfl) (by kernel_rfl) ?_
          refine AJR_ev env 1 rfl (Nat.le_of_ble_eq_true rfl) rfl trivial ?_
          refine AJR_ev env 2 rfl (Nat.le_of_ble_eq_true rfl) rfl trivial ?_
          refine AJR_ev env 3 rfl (Nat.le_of_ble_eq_true rfl) rfl trivial ?_
          refine AJR_ev env 4 rfl (Nat.le_of_ble_eq_true rfl) rfl ⟨trivial, trivial⟩ ?_
          refine AJR_ev env 5 rfl (Nat.le_of_ble_eq_true rfl) rfl ⟨trivial, trivial⟩ ?_
          refine AJR_ev env 6 rfl (Nat.le_of_ble_eq_true rfl) rfl trivial ?_
          refine AJR_ev env 7 rfl (Nat.le_of_ble_eq_true rfl) rfl trivial ?_
          refine AJR_ev env 8 rfl (Nat.le_of_ble_eq_true rfl) rfl ⟨trivial, trivial⟩ ?_
          refine AJR_ev env 9 rfl (Nat.le_of_ble_eq_true rfl) rfl trivial ?_
          refine AJR_ev env 10 rfl (Nat.le_of_ble_eq_true rfl) rfl trivial ?_
          refine AJR_ev env 11 rfl (Nat.le_of_ble_eq_true rfl) rfl ⟨trivial, trivial⟩ ?_
          refine AJR_ev env 12 rfl (Nat.le_of_ble_eq_true rfl) rfl trivial ?_
          refine AJR_ev env 13 rfl (Nat.le_of_ble_eq_true rfl) rfl trivial ?_
          refine AJR_ev env 14 rfl (Nat.le_of_ble_eq_true rfl) rfl ⟨trivial, trivial⟩ ?_
          refine AJR_end rfl rfl rfl ?_
          obtain rfl := sinj h1
          refine tsn ?_
          exact SP_ren [] (_, _, _, _, _, _, _, _, _, _, _, _, _) rfl ⟨rfl, trivial⟩ ⟨rfl, trivial⟩ rfl
        · replace h1 := bif_f h1 hb
          refine TC_skip ?_
          obtain rfl := sinj h1
          refine tsn ?_
          exact SP_ren [] (_, _, _, _, _, _, _, _, _, _, _, _, _) rfl ⟨rfl, trivial⟩ ⟨rfl, trivial⟩ rfl
      · rintro ⟨x41, x42, x43, x44, x45, x46, x47, x48, x49, x50, x51, x52, x53⟩ rfl
        refine TE_go ?_
        refine TC_seq ?_
        refine TC_reg ?_
        refine TL_ev env 2 rfl ⟨trivial, ⟨trivial, trivial⟩⟩ ?_
        refine TL_end ?_
        refine TE_go ?_
        refine TC_ret ?_
        obtain rfl := sinj h0
        exact TE_ret env rfl trivial ⟨.inr rfl, trivial⟩
theorem stream_Stream_Configure.ok0 {K : Nat} {p0 : List (Int)} {p1 : List (Int)} {p2 : Int} {p3 : Int} {p4 : Int} {p5 : Int} {p6 : Int} {p7 : Int} {p8 : Int} {p9 : Int} {p10 : Int} {p11 : Int} {p12 : Int} {p13 : Int} {p14 : Int} {p15 : Int} {q0 : Int} {q1 : Int} {q2 : Int} {q3 : Int} {q4 : Int} {q5 : Int} {q6 : Int} {q7 : Int} {q8 : Int} {q9 : Int} {q10 : Int} {q11 : Int} {q12 : Int} {q13 : Int} (h0 : stream_Stream_Configure K p0 p1 p2 p3 p4 p5 p6 p7 p8 p9 p10 p11 p12 p13 p14 p15 = some (q0, q1, q2, q3, q4, q5, q6, q7, q8, q9, q10, q11, q12, q13)) : Fn Try.prog 76 [.p 0 0, .im (.slice (.int .u8)) p0, .im (.slice (.int .u8)) p1] [(0, some (.cells [.int .i64 p2, .int .i64 p3, .int .i64 p4, .int .i64 p5, .int .i64 p6, .int .i64 p7, .int .i64 p8, .int .i64 p9, .int .i64 p10, .int .i64 p11, .int .i64 p12, .int .i64 p13, .int .i64 p14, .int .i64 p15]))] (.int .i64 q0) [(0, some (.cells [.int .i64 q1, .int .i64 p3, .int .i64 q2, .int .i64 q3, .int .i64 q4, .int .i64 q5, .int .i64 q6, .int .i64 q7, .int .i64 q8, .int .i64 q9, .int .i64 q10, .int .i64 q11, .int .i64 q12, .int .i64 q13]))] := stream_Stream_Configure.ok h0
theorem stream_Stream_Configure.fnb : fnb Try.prog 76 = true := fnb_of Try.func76 rfl
def stream_Stream_State.res (p0 : Int) (_p1 : Int) (_p2 : Int) (_p3 : Int) (_p4 : Int) (_p5 : Int) (_p6 : Int) (_p7 : Int) (_p8 : Int) (_p9 : Int) (_p10 : Int) (_p11 : Int) (_p12 : Int) (_p13 : Int) : Unit → MV
  | () => .int .i64 p0
def stream_Stream_State.out (p0 : Int) (p1 : Int) (p2 : Int) (p3 : Int) (p4 : Int) (p5 : Int) (p6 : Int) (p7 : Int) (p8 : Int) (p9 : Int) (p10 : Int) (p11 : Int) (p12 : Int) (p13 : Int) : Unit → List (Nat × Option MObj)
  | () => [(0, some (.cells [.int .i64 p0, .int .i64 p1, .int .i64 p2, .int .i64 p3, .int .i64 p4, .int .i64 p5, .int .i64 p6, .int .i64 p7, .int .i64 p8, .int .i64 p9, .int .i64 p10, .int .i64 p11, .int .i64 p12, .int .i64 p13]))]
theorem stream_Stream_State.ok {K : Nat} {p0 : Int} {p1 : Int} {p2 : Int} {p3 : Int} {p4 : Int} {p5 : Int} {p6 : Int} {p7 : Int} {p8 : Int} {p9 : Int} {p10 : Int} {p11 : Int} {p12 : Int} {p13 : Int} {r : Unit} (h0 : stream_Stream_State K p0 p1 p2 p3 p4 p5 p6 p7 p8 p9 p10 p11 p12 p13 = some r) : Fn Try.prog 78 [.p 0 0] [(0, some (.cells [.int .i64 p0, .int .i64 p1, .int .i64 p2, .int .i64 p3, .int .i64 p4, .int .i64 p5, .int .i64 p6, .int .i64 p7, .int .i64 p8, .int .i64 p9, .int .i64 p10, .int .i64 p11, .int .i64 p12, .int .i64 p13]))] (stream_Stream_State.res p0 p1 p2 p3 p4 p5 p6 p7 p8 p9 p10 p11 p12 p13 r) (stream_Stream_State.out p0 p1 p2 p3 p4 p5 p6 p7 p8 p9 p10 p11 p12 p13 r) := by
  refine Fn_of Try.func78 rfl (Nat.le_of_ble_eq_true rfl) fun Γ => ?_
  refine TC_seq ?_
  refine TC_reg ?_
  refine TL_ev env 1 rfl ⟨trivial, trivial⟩ ?_
  refine TL_end ?_
  refine TE_go ?_
  refine TC_seq ?_
  refine TC_seq ?_
  refine TC_reg ?_
  refine TL_ev env 2 rfl ⟨trivial, ⟨⟨trivial, ⟨trivial, trivial⟩⟩, trivial⟩⟩ ?_
  refine TL_end ?_
  refine TE_go ?_
  refine TC_cond rfl (fun hb => ?_) (fun hb => ?_)
  · first | exact (ftf hb).elim | exact (tff hb).elim | exact absurd hb (by decide)
  · refine TC_skip ?_
    refine TE_go ?_
    refine TC_seq ?_
    refine TC_reg ?_
    refine TL_ev env 5 rfl ⟨trivial, ⟨trivial, ⟨trivial, ⟨⟨trivial, trivial⟩, ⟨trivial, trivial⟩⟩⟩⟩⟩ ?_
    refine TL_end ?_
    refine TE_go ?_
    refine TC_ret ?_
    obtain rfl := sinj h0
    exact TE_ret env rfl trivial ⟨.inr rfl, trivial⟩
theorem stream_Stream_State.ok0 {K : Nat} {p0 : Int} {p1 : Int} {p2 : Int} {p3 : Int} {p4 : Int} {p5 : Int} {p6 : Int} {p7 : Int} {p8 : Int} {p9 : Int} {p10 : Int} {p11 : Int} {p12 : Int} {p13 : Int}  (h0 : stream_Stream_State K p0 p1 p2 p3 p4 p5 p6 p7 p8 p9 p10 p11 p12 p13 = some ()) : Fn Try.prog 78 [.p 0 0] [(0, some (.cells [.int .i64 p0, .int .i64 p1, .int .i64 p2, .int .i64 p3, .int .i64 p4, .int .i64 p5, .int .i64 p6, .int .i64 p7, .int .i64 p8, .int .i64 p9, .int .i64 p10, .int .i64 p11, .int .i64 p12, .int .i64 p13]))] (.int .i64 p0) [(0, some (.cells [.int .i64 p0, .int .i64 p1, .int .i64 p2, .int .i64 p3, .int .i64 p4, .int .i64 p5, .int .i64 p6, .int .i64 p7, .int .i64 p8, .int .i64 p9, .int .i64 p10, .int .i64 p11, .int .i64 p12, .int .i64 p13]))] := stream_Stream_State.ok h0
theorem stream_Stream_State.fnb : fnb Try.prog 78 = true := fnb_of Try.func78 rfl
def stream_Stream_Epoch.res (_p0 : Int) (p1 : Int) (_p2 : Int) (_p3 : Int) (_p4 : Int) (_p5 : Int) (_p6 : Int) (_p7 : Int) (_p8 : Int) (_p9 : Int) (_p10 : Int) (_p11 : Int) (_p12 : Int) (_p13 : Int) : Unit → MV
  | () => .int .i64 p1
def stream_Stream_Epoch.out (p0 : Int) (p1 : Int) (p2 : Int) (p3 : Int) (p4 : Int) (p5 : Int) (p6 : Int) (p7 : Int) (p8 : Int) (p9 : Int) (p10 : Int) (p11 : Int) (p12 : Int) (p13 : Int) : Unit → List (Nat × Option MObj)
  | () => [(0, some (.cells [.int .i64 p0, .int .i64 p1, .int .i64 p2, .int .i64 p3, .int .i64 p4, .int .i64 p5, .int .i64 p6, .int .i64 p7, .int .i64 p8, .int .i64 p9, .int .i64 p10, .int .i64 p11, .int .i64 p12, .int .i64 p13]))]
theorem stream_Stream_Epoch.ok {K : Nat} {p0 : Int} {p1 : Int} {p2 : Int} {p3 : Int} {p4 : Int} {p5 : Int} {p6 : Int} {p7 : Int} {p8 : Int} {p9 : Int} {p10 : Int} {p11 : Int} {p12 : Int} {p13 : Int} {r : Unit} (h0 : stream_Stream_Epoch K p0 p1 p2 p3 p4 p5 p6 p7 p8 p9 p10 p11 p12 p13 = some r) : Fn Try.prog 75 [.p 0 0] [(0, some (.cells [.int .i64 p0, .int .i64 p1, .int .i64 p2, .int .i64 p3, .int .i64 p4, .int .i64 p5, .int .i64 p6, .int .i64 p7, .int .i64 p8, .int .i64 p9, .int .i64 p10, .int .i64 p11, .int .i64 p12, .int .i64 p13]))] (stream_Stream_Epoch.res p0 p1 p2 p3 p4 p5 p6 p7 p8 p9 p10 p11 p12 p13 r) (stream_Stream_Epoch.out p0 p1 p2 p3 p4 p5 p6 p7 p8 p9 p10 p11 p12 p13 r) := by
  refine Fn_of Try.func75 rfl (Nat.le_of_ble_eq_true rfl) fun Γ => ?_
  refine TC_seq ?_
  refine TC_reg ?_
  refine TL_ev env 1 rfl ⟨trivial, trivial⟩ ?_
  refine TL_end ?_
  refine TE_go ?_
  refine TC_seq ?_
  refine TC_seq ?_
  refine TC_reg ?_
  refine TL_ev env 2 rfl ⟨trivial, ⟨⟨trivial, ⟨trivial, trivial⟩⟩, trivial⟩⟩ ?_
  refine TL_end ?_
  refine TE_go ?_
  refine TC_cond rfl (fun hb => ?_) (fun hb => ?_)
  · first | exact (ftf hb).elim | exact (tff hb).elim | exact absurd hb (by decide)
  · refine TC_skip ?_
    refine TE_go ?_
    refine TC_seq ?_
    refine TC_reg ?_
    refine TL_ev env 5 rfl ⟨trivial, ⟨trivial, ⟨trivial, ⟨⟨trivial, trivial⟩, ⟨trivial, trivial⟩⟩⟩⟩⟩ ?_
    refine TL_end ?_
    refine TE_go ?_
    refine TC_ret ?_
    obtain rfl := sinj h0
    exact TE_ret env rfl trivial ⟨.inr rfl, trivial⟩
theorem stream_Stream_Epoch.ok0 {K : Nat} {p0 : Int} {p1 : Int} {p2 : Int} {p3 : Int} {p4 : Int} {p5 : Int} {p6 : Int} {p7 : Int} {p8 : Int} {p9 : Int} {p10 : Int} {p11 : Int} {p12 : Int} {p13 : Int}  (h0 : stream_Stream_Epoch K p0 p1 p2 p3 p4 p5 p6 p7 p8 p9 p10 p11 p12 p13 = some ()) : Fn Try.prog 75 [.p 0 0] [(0, some (.cells [.int .i64 p0, .int .i64 p1, .int .i64 p2, .int .i64 p3, .int .i64 p4, .int .i64 p5, .int .i64 p6, .int .i64 p7, .int .i64 p8, .int .i64 p9, .int .i64 p10, .int .i64 p11, .int .i64 p12, .int .i64 p13]))] (.int .i64 p1) [(0, some (.cells [.int .i64 p0, .int .i64 p1, .int .i64 p2, .int .i64 p3, .int .i64 p4, .int .i64 p5, .int .i64 p6, .int .i64 p7, .int .i64 p8, .int .i64 p9, .int .i64 p10, .int .i64 p11, .int .i64 p12, .int .i64 p13]))] := stream_Stream_Epoch.ok h0
theorem stream_Stream_Epoch.fnb : fnb Try.prog 75 = true := fnb_of Try.func75 rfl
def stream_Stream_Format.res (_p0 : Int) (_p1 : Int) (p2 : Int) (p3 : Int) (p4 : Int) (p5 : Int) (p6 : Int) (p7 : Int) (p8 : Int) (p9 : Int) (p10 : Int) (p11 : Int) (_p12 : Int) (_p13 : Int) : Unit → MV
  | () => .agg [.int .i64 p2, .int .i64 p3, .int .i64 p4, .int .i64 p5, .int .i64 p6, .int .i64 p7, .int .i64 p8, .int .i64 p9, .int .i64 p10, .int .i64 p11]
def stream_Stream_Format.out (p0 : Int) (p1 : Int) (p2 : Int) (p3 : Int) (p4 : Int) (p5 : Int) (p6 : Int) (p7 : Int) (p8 : Int) (p9 : Int) (p10 : Int) (p11 : Int) (p12 : Int) (p13 : Int) : Unit → List (Nat × Option MObj)
  | () => [(0, some (.cells [.int .i64 p0, .int .i64 p1, .int .i64 p2, .int .i64 p3, .int .i64 p4, .int .i64 p5, .int .i64 p6, .int .i64 p7, .int .i64 p8, .int .i64 p9, .int .i64 p10, .int .i64 p11, .int .i64 p12, .int .i64 p13]))]
theorem stream_Stream_Format.ok {K : Nat} {p0 : Int} {p1 : Int} {p2 : Int} {p3 : Int} {p4 : Int} {p5 : Int} {p6 : Int} {p7 : Int} {p8 : Int} {p9 : Int} {p10 : Int} {p11 : Int} {p12 : Int} {p13 : Int} {r : Unit} (h0 : stream_Stream_Format K p0 p1 p2 p3 p4 p5 p6 p7 p8 p9 p10 p11 p12 p13 = some r) : Fn Try.prog 79 [.p 0 0] [(0, some (.cells [.int .i64 p0, .int .i64 p1, .int .i64 p2, .int .i64 p3, .int .i64 p4, .int .i64 p5, .int .i64 p6, .int .i64 p7, .int .i64 p8, .int .i64 p9, .int .i64 p10, .int .i64 p11, .int .i64 p12, .int .i64 p13]))] (stream_Stream_Format.res p0 p1 p2 p3 p4 p5 p6 p7 p8 p9 p10 p11 p12 p13 r) (stream_Stream_Format.out p0 p1 p2 p3 p4 p5 p6 p7 p8 p9 p10 p11 p12 p13 r) := by
  refine Fn_of Try.func79 rfl (Nat.le_of_ble_eq_true rfl) fun Γ => ?_
  refine TC_seq ?_
  refine TC_reg ?_
  refine TL_ev env 1 rfl ⟨trivial, trivial⟩ ?_
  refine TL_end ?_
  refine TE_go ?_
  refine TC_seq ?_
  refine TC_seq ?_
  refine TC_reg ?_
  refine TL_ev env 2 rfl ⟨trivial, ⟨⟨trivial, ⟨trivial, trivial⟩⟩, trivial⟩⟩ ?_
  refine TL_end ?_
  refine TE_go ?_
  refine TC_cond rfl (fun hb => ?_) (fun hb => ?_)
  · first | exact (ftf hb).elim | exact (tff hb).elim | exact absurd hb (by decide)
  · refine TC_skip ?_
    refine TE_go ?_
    refine TC_seq ?_
    refine TC_reg ?_
    refine TL_ev env 5 rfl ⟨trivial, ⟨trivial, ⟨trivial, ⟨⟨trivial, trivial⟩, ⟨⟨trivial, trivial⟩, trivial⟩⟩⟩⟩⟩ ?_
    refine TL_end ?_
    refine TE_go ?_
    refine TC_ret ?_
    obtain rfl := sinj h0
    exact TE_ret env rfl ⟨trivial, trivial⟩ ⟨.inr rfl, trivial⟩
theorem stream_Stream_Format.ok0 {K : Nat} {p0 : Int} {p1 : Int} {p2 : Int} {p3 : Int} {p4 : Int} {p5 : Int} {p6 : Int} {p7 : Int} {p8 : Int} {p9 : Int} {p10 : Int} {p11 : Int} {p12 : Int} {p13 : Int}  (h0 : stream_Stream_Format K p0 p1 p2 p3 p4 p5 p6 p7 p8 p9 p10 p11 p12 p13 = some ()) : Fn Try.prog 79 [.p 0 0] [(0, some (.cells [.int .i64 p0, .int .i64 p1, .int .i64 p2, .int .i64 p3, .int .i64 p4, .int .i64 p5, .int .i64 p6, .int .i64 p7, .int .i64 p8, .int .i64 p9, .int .i64 p10, .int .i64 p11, .int .i64 p12, .int .i64 p13]))] (.agg [.int .i64 p2, .int .i64 p3, .int .i64 p4, .int .i64 p5, .int .i64 p6, .int .i64 p7, .int .i64 p8, .int .i64 p9, .int .i64 p10, .int .i64 p11]) [(0, some (.cells [.int .i64 p0, .int .i64 p1, .int .i64 p2, .int .i64 p3, .int .i64 p4, .int .i64 p5, .int .i64 p6, .int .i64 p7, .int .i64 p8, .int .i64 p9, .int .i64 p10, .int .i64 p11, .int .i64 p12, .int .i64 p13]))] := stream_Stream_Format.ok h0
theorem stream_Stream_Format.fnb : fnb Try.prog 79 = true := fnb_of Try.func79 rfl
def psalterylaw25_alive.res  : Bool → MV
  | q0 => .bool q0
def psalterylaw25_alive.out  : Bool → List (Nat × Option MObj)
  | _ => []
theorem psalterylaw25_alive.ok {K : Nat}  {r : Bool} (h0 : psalterylaw25_alive K  = some r) : Fn Try.prog 72 [] [] (psalterylaw25_alive.res  r) (psalterylaw25_alive.out  r) := by
  refine Fn_of Try.func72 rfl (Nat.le_of_ble_eq_true rfl) fun Γ => ?_
  refine TC_seq ?_
  refine TC_reg ?_
  refine TL_ev env 1 rfl ⟨trivial, trivial⟩ ?_
  refine TL_end ?_
  refine TE_go ?_
  refine TC_seq ?_
  refine TC_reg ?_
  obtain ⟨⟨⟩, hr, h0⟩ := bnd h0
  refine TL_callB [(1000, 500020)] (stream_New.ok0 hr) stream_New.fnb rfl ⟨trivial, trivial⟩ rfl trivial rfl ?_
  refine TL_ev env 1 rfl ⟨trivial, trivial⟩ ?_
  refine TL_end ?_
  refine TE_go ?_
  refine TC_seq ?_
  refine TC_seq ?_
  obtain ⟨z1, h1, h0⟩ := bnd h0
  refine TC_cut (α := Bool × Int × Int × Int × Int × Int × Int × Int × Int × Int × Int × Int × Int × Int × Int) (fun s => z1 = s) (fun s => [(1, .p 10300 0), (16, .bool s.1)]) (fun s => [(10300, some (.cells [.int .i64 s.2.1, .int .i64 s.2.2.1, .int .i64 s.2.2.2.1, .int .i64 s.2.2.2.2.1, .int .i64 s.2.2.2.2.2.1, .int .i64 s.2.2.2.2.2.2.1, .int .i64 s.2.2.2.2.2.2.2.1, .int .i64 s.2.2.2.2.2.2.2.2.1, .int .i64 s.2.2.2.2.2.2.2.2.2.1, .int .i64 s.2.2.2.2.2.2.2.2.2.2.1, .int .i64 s.2.2.2.2.2.2.2.2.2.2.2.1, .int .i64 s.2.2.2.2.2.2.2.2.2.2.2.2.1, .int .i64 s.2.2.2.2.2.2.2.2.2.2.2.2.2.1, .int .i64 s.2.2.2.2.2.2.2.2.2.2.2.2.2.2]))]) ?_ ?_
  · refine TC_reg ?_
    refine TL_ev env 3 rfl ⟨trivial, ⟨⟨trivial, ⟨trivial, trivial⟩⟩, ⟨trivial, trivial⟩⟩⟩ ?_
    refine TL_gt rfl rfl rfl rfl ?_
    refine TL_ev env 1 rfl ⟨trivial, trivial⟩ ?_
    refine TL_gt rfl rfl rfl rfl ?_
    obtain ⟨⟨r185, r186, r187, r188, r189, r190, r191, r192, r193, r194, r195, r196, r197, r198, r199⟩, hr, h1⟩ := bnd h1
    refine TL_callB [(0, 500020)] (stream_Stream_Call.ok0 hr) stream_Stream_Call.fnb rfl ⟨trivial, ⟨trivial, ⟨trivial, trivial⟩⟩⟩ rfl ⟨.inr rfl, trivial⟩ rfl ?_
    refine TL_gt rfl rfl rfl rfl ?_
    refine TL_ev env 3 rfl ⟨⟨trivial, ⟨trivial, trivial⟩⟩, ⟨⟨trivial, ⟨trivial, trivial⟩⟩, ⟨trivial, trivial⟩⟩⟩ ?_
    refine TL_split 10 rfl (fun hb => ?_) (fun hb => ?_)
    · replace h1 := bif_t h1 hb
      refine TL_gf (.bool false) rfl rfl rfl rfl rfl (by decide) ?_
      refine TL_gf (.bool false) rfl rfl rfl rfl rfl (by decide) ?_
      refine TL_gf (.bool false) rfl rfl rfl rfl rfl (by decide) ?_
      refine TL_gf (.bool false) rfl rfl rfl rfl rfl (by decide) ?_
      refine TL_gf (.bool false) rfl rfl rfl rfl rfl (by decide) ?_
      refine TL_ev env 1 rfl ⟨⟨trivial, ⟨trivial, fun e => e⟩⟩, trivial⟩ ?_
      refine TL_end ?_
      obtain rfl := sinj h1
      refine tsn ?_
      exact SP_ren [(10300, 500020)] (_, _, _, _, _, _, _, _, _, _, _, _, _, _, _) rfl ⟨rfl, rfl, trivial⟩ ⟨rfl, trivial⟩ rfl
    · replace h1 := bif_f h1 hb
      refine TL_gt rfl rfl rfl rfl ?_
      refine TL_ev env 1 rfl ⟨trivial, trivial⟩ ?_
      refine TL_gt rfl rfl rfl rfl ?_
      obtain ⟨r200, hr, h1⟩ := bnd h1
      refine TL_callB [] (psalterylaw25_both.ok0 hr) psalterylaw25_both.fnb rfl ⟨trivial, trivial⟩ rfl trivial rfl ?_
      refine TL_gt rfl rfl rfl rfl ?_
      obtain ⟨r201, hr, h1⟩ := bnd h1
      refine TL_callB [] (psalterylaw25_both.ok0 hr) psalterylaw25_both.fnb rfl ⟨trivial, trivial⟩ rfl trivial rfl ?_
      refine TL_gt rfl rfl rfl rfl ?_
      obtain ⟨⟨r202, r203, r204, r205, r206, r207, r208, r209, r210, r211, r212, r213, r214, r215⟩, hr, h1⟩ := bnd h1
      refine TL_callB [(0, 500020)] (stream_Stream_Configure.ok0 hr) stream_Stream_Configure.fnb rfl ⟨trivial, ⟨trivial, ⟨trivial, ⟨trivial, trivial⟩⟩⟩⟩ rfl ⟨.inr rfl, trivial⟩ rfl ?_
      refine TL_gt rfl rfl rfl rfl ?_
      refine TL_ev env 2 rfl ⟨⟨trivial, ⟨trivial, trivial⟩⟩, ⟨⟨trivial, ⟨trivial, trivial⟩⟩, trivial⟩⟩ ?_
      refine TL_end ?_
      obtain rfl := sinj h1
      refine tsn ?_
      exact SP_ren [(10300, 500020)] (_, _, _, _, _, _, _, _, _, _, _, _, _, _, _) rfl ⟨rfl, rfl, trivial⟩ ⟨rfl, trivial⟩ rfl
  · rintro ⟨x109, x110, x111, x112, x113, x114, x115, x116, x117, x118, x119, x120, x121, x122, x123⟩ rfl
    refine TE_go ?_
    refine TC_cond rfl (fun hb => ?_) (fun hb => ?_)
    · replace h0 := bif_t h0 hb
      refine TC_seq ?_
      refine TC_reg ?_
      refine TL_ev env 1 rfl ⟨trivial, trivial⟩ ?_
      refine TL_end ?_
      refine TE_go ?_
      refine TC_ret ?_
      refine tsr ?_
      obtain rfl := sinj h0
      exact TE_ret env rfl trivial trivial
    · replace h0 := bif_f h0 hb
      refine TC_skip ?_
      refine TE_go ?_
      refine TC_seq ?_
      obtain ⟨z1, h1, h0⟩ := bnd h0
      refine TC_cut (α := Bool) (fun s => z1 = s) (fun s => [(0, .bool s)]) (fun s => []) ?_ ?_
      · refine TC_reg ?_
        refine TL_ev env 1 rfl ⟨trivial, trivial⟩ ?_
        obtain ⟨⟨r155, r156, r157, r158, r159, r160, r161, r162, r163, r164, r165, r166, r167, r168, r169⟩, hr, h1⟩ := bnd h1
        refine TL_callB [(0, 10300)] (stream_Stream_Call.ok0 hr) stream_Stream_Call.fnb rfl ⟨trivial, ⟨trivial, ⟨trivial, trivial⟩⟩⟩ rfl ⟨.inr rfl, trivial⟩ rfl ?_
        refine TL_ev env 2 rfl ⟨⟨trivial, ⟨trivial, trivial⟩⟩, ⟨trivial, trivial⟩⟩ ?_
        refine TL_split 20 rfl (fun hb => ?_) (fun hb => ?_)
        · replace h1 := bif_t h1 hb
          refine TL_gt rfl rfl rfl rfl ?_
          refine TL_ev env 1 rfl ⟨trivial, trivial⟩ ?_
          refine TL_gt rfl rfl rfl rfl ?_
          obtain ⟨⟨r170, r171, r172, r173, r174, r175, r176, r177, r178, r179, r180, r181, r182, r183, r184⟩, hr, h1⟩ := bnd h1
          refine TL_callB [(0, 10300)] (stream_Stream_Call.ok0 hr) stream_Stream_Call.fnb rfl ⟨trivial, ⟨trivial, ⟨trivial, trivial⟩⟩⟩ rfl ⟨.inr rfl, trivial⟩ rfl ?_
          refine TL_gt rfl rfl rfl rfl ?_
          refine TL_ev env 3 rfl ⟨⟨trivial, ⟨trivial, trivial⟩⟩, ⟨⟨trivial, ⟨trivial, trivial⟩⟩, ⟨trivial, trivial⟩⟩⟩ ?_
          refine TL_split 25 rfl (fun hb => ?_) (fun hb => ?_)
          · replace h1 := bif_t h1 hb
            refine TL_gt rfl rfl rfl rfl ?_
            refine TL_ev env 1 rfl ⟨trivial, trivial⟩ ?_
            refine TL_gt rfl rfl rfl rfl ?_
            obtain ⟨⟨⟩, hr, h1⟩ := bnd h1
            refine TL_callB [(0, 10300)] (stream_Stream_State.ok0 hr) stream_Stream_State.fnb rfl ⟨trivial, ⟨trivial, trivial⟩⟩ rfl ⟨.inr rfl, trivial⟩ rfl ?_
            refine TL_gt rfl rfl rfl rfl ?_
            refine TL_ev env 3 rfl ⟨⟨trivial, ⟨trivial, trivial⟩⟩, ⟨⟨trivial, ⟨trivial, trivial⟩⟩, ⟨trivial, trivial⟩⟩⟩ ?_
            refine TL_split 30 rfl (fun hb => ?_) (fun hb => ?_)
            · replace h1 := bif_t h1 hb
              refine TL_gt rfl rfl rfl rfl ?_
              refine TL_ev env 1 rfl ⟨trivial, trivial⟩ ?_
              refine TL_gt rfl rfl rfl rfl ?_
              obtain ⟨⟨⟩, hr, h1⟩ := bnd h1
              refine TL_callB [(0, 10300)] (stream_Stream_Epoch.ok0 hr) stream_Stream_Epoch.fnb rfl ⟨trivial, ⟨trivial, trivial⟩⟩ rfl ⟨.inr rfl, trivial⟩ rfl ?_
              refine TL_gt rfl rfl rfl rfl ?_
              refine TL_ev env 3 rfl ⟨⟨trivial, ⟨trivial, trivial⟩⟩, ⟨⟨trivial, ⟨trivial, trivial⟩⟩, ⟨trivial, trivial⟩⟩⟩ ?_
              refine TL_split 35 rfl (fun hb => ?_) (fun hb => ?_)
              · replace h1 := bif_t h1 hb
                refine TL_gt rfl rfl rfl rfl ?_
                refine TL_ev env 1 rfl ⟨trivial, trivial⟩ ?_
                refine TL_gt rfl rfl rfl rfl ?_
                obtain ⟨⟨⟩, hr, h1⟩ := bnd h1
                refine TL_callB [(0, 10300)] (stream_Stream_Format.ok0 hr) stream_Stream_Format.fnb rfl ⟨trivial, ⟨trivial, trivial⟩⟩ rfl ⟨.inr rfl, trivial⟩ rfl ?_
                refine TL_gt rfl rfl rfl rfl ?_
                refine TL_ev env 1 rfl ⟨trivial, trivial⟩ ?_
                refine TL_gt rfl rfl rfl rfl ?_
                refine TL_ev env 3 rfl ⟨⟨trivial, ⟨trivial, trivial⟩⟩, ⟨⟨trivial, ⟨trivial, trivial⟩⟩, ⟨trivial, trivial⟩⟩⟩ ?_
                refine TL_end ?_
                obtain rfl := sinj h1
                refine tsn ?_
                exact SP_ren [] _ rfl ⟨rfl, trivial⟩ trivial rfl
              · replace h1 := bif_f h1 hb
                refine TL_gf (.bool false) rfl rfl rfl rfl rfl (by decide) ?_
                refine TL_gf (.bool false) rfl rfl rfl rfl rfl (by decide) ?_
                refine TL_gf (.bool false) rfl rfl rfl rfl rfl (by decide) ?_
                refine TL_gf (.bool false) rfl rfl rfl rfl rfl (by decide) ?_
                refine TL_ev env 2 rfl ⟨⟨trivial, ⟨fun e => e, trivial⟩⟩, ⟨trivial, trivial⟩⟩ ?_
                refine TL_end ?_
                obtain rfl := sinj h1
                refine tsn ?_
                exact SP_ren [] _ rfl ⟨rfl, trivial⟩ trivial rfl
            · replace h1 := bif_f h1 hb
              refine TL_gf (.bool false) rfl rfl rfl rfl rfl (by decide) ?_
              refine TL_gf (.bool false) rfl rfl rfl rfl rfl (by decide) ?_
              refine TL_gf (.bool false) rfl rfl rfl rfl rfl (by decide) ?_
              refine TL_ev env 2 rfl ⟨⟨trivial, ⟨fun e => e, trivial⟩⟩, ⟨trivial, trivial⟩⟩ ?_
              refine TL_gf (.bool false) rfl rfl rfl rfl rfl (by decide) ?_
              refine TL_gf (.bool false) rfl rfl rfl rfl rfl (by decide) ?_
              refine TL_gf (.bool false) rfl rfl rfl rfl rfl (by decide) ?_
              refine TL_gf (.bool false) rfl rfl rfl rfl rfl (by decide) ?_
              refine TL_ev env 2 rfl ⟨⟨trivial, ⟨fun e => e, trivial⟩⟩, ⟨trivial, trivial⟩⟩ ?_
              refine TL_end ?_
              obtain rfl := sinj h1
              refine tsn ?_
              exact SP_ren [] _ rfl ⟨rfl, trivial⟩ trivial rfl
          · replace h1 := bif_f h1 hb
            refine TL_gf (.bool false) rfl rfl rfl rfl rfl (by decide) ?_
            refine TL_gf (.bool false) rfl rfl rfl rfl rfl (by decide) ?_
            refine TL_gf (.bool false) rfl rfl rfl rfl rfl (by decide) ?_
            refine TL_ev env 2 rfl ⟨⟨trivial, ⟨fun e => e, trivial⟩⟩, ⟨trivial, trivial⟩⟩ ?_
            refine TL_gf (.bool false) rfl rfl rfl rfl rfl (by decide) ?_
            refine TL_gf (.bool false) rfl rfl rfl rfl rfl (by decide) ?_
            refine TL_gf (.bool false) rfl rfl rfl rfl rfl (by decide) ?_
            refine TL_ev env 2 rfl ⟨⟨trivial, ⟨fun e => e, trivial⟩⟩, ⟨trivial, trivial⟩⟩ ?_
            refine TL_gf (.bool false) rfl rfl rfl rfl rfl (by decide) ?_
            refine TL_gf (.bool false) rfl rfl rfl rfl rfl (by decide) ?_
            refine TL_gf (.bool false) rfl rfl rfl rfl rfl (by decide) ?_
            refine TL_gf (.bool false) rfl rfl rfl rfl rfl (by decide) ?_
            refine TL_ev env 2 rfl ⟨⟨trivial, ⟨fun e => e, trivial⟩⟩, ⟨trivial, trivial⟩⟩ ?_
            refine TL_end ?_
            obtain rfl := sinj h1
            refine tsn ?_
            exact SP_ren [] _ rfl ⟨rfl, trivial⟩ trivial rfl
        · replace h1 := bif_f h1 hb
          refine TL_gf (.bool false) rfl rfl rfl rfl rfl (by decide) ?_
          refine TL_gf (.bool false) rfl rfl rfl rfl rfl (by decide) ?_
          refine TL_gf (.bool false) rfl rfl rfl rfl rfl (by decide) ?_
          refine TL_ev env 2 rfl ⟨⟨trivial, ⟨fun e => e, trivial⟩⟩, ⟨trivial, trivial⟩⟩ ?_
          refine TL_gf (.bool false) rfl rfl rfl rfl rfl (by decide) ?_
          refine TL_gf (.bool false) rfl rfl rfl rfl rfl (by decide) ?_
          refine TL_gf (.bool false) rfl rfl rfl rfl rfl (by decide) ?_
          refine TL_ev env 2 rfl ⟨⟨trivial, ⟨fun e => e, trivial⟩⟩, ⟨trivial, trivial⟩⟩ ?_
          refine TL_gf (.bool false) rfl rfl rfl rfl rfl (by decide) ?_
          refine TL_gf (.bool false) rfl rfl rfl rfl rfl (by decide) ?_
          refine TL_gf (.bool false) rfl rfl rfl rfl rfl (by decide) ?_
          refine TL_ev env 2 rfl ⟨⟨trivial, ⟨fun e => e, trivial⟩⟩, ⟨trivial, trivial⟩⟩ ?_
          refine TL_gf (.bool false) rfl rfl rfl rfl rfl (by decide) ?_
          refine TL_gf (.bool false) rfl rfl rfl rfl rfl (by decide) ?_
          refine TL_gf (.bool false) rfl rfl rfl rfl rfl (by decide) ?_
          refine TL_gf (.bool false) rfl rfl rfl rfl rfl (by decide) ?_
          refine TL_ev env 2 rfl ⟨⟨trivial, ⟨fun e => e, trivial⟩⟩, ⟨trivial, trivial⟩⟩ ?_
          refine TL_end ?_
          obtain rfl := sinj h1
          refine tsn ?_
          exact SP_ren [] _ rfl ⟨rfl, trivial⟩ trivial rfl
      · rintro x154 hz
        obtain rfl := hz.symm
        refine TE_go ?_
        refine TC_ret ?_
        obtain rfl := sinj h0
        exact TE_ret env rfl trivial trivial
theorem psalterylaw25_alive.ok0 {K : Nat}  {q0 : Bool} (h0 : psalterylaw25_alive K  = some q0) : Fn Try.prog 72 [] [] (.bool q0) [] := psalterylaw25_alive.ok h0
theorem psalterylaw25_alive.fnb : fnb Try.prog 72 = true := fnb_of Try.func72 rfl
def psalterylaw25_far.res (_p0 : List ((Int × (List (Int) × List (Int))))) : Bool → MV
  | q0 => .bool q0
def psalterylaw25_far.out (_p0 : List ((Int × (List (Int) × List (Int))))) : Bool → List (Nat × Option MObj)
  | _ => []
theorem psalterylaw25_far.ok {K : Nat} {p0 : List ((Int × (List (Int) × List (Int))))} {r : Bool} (h0 : psalterylaw25_far K p0 = some r) : Fn Try.prog 73 [.im (.slice (.pair (.int .i64) (.pair (.slice (.int .u8)) (.slice (.int .u8))))) p0] [] (psalterylaw25_far.res p0 r) (psalterylaw25_far.out p0 r) := by
  refine Fn_of Try.func73 rfl (Nat.le_of_ble_eq_true rfl) fun Γ => ?_
  refine TC_seq ?_
  refine TC_reg ?_
  refine TL_ev env 1 rfl ⟨trivial, trivial⟩ ?_
  refine TL_end ?_
  refine TE_go ?_
  refine TC_seq ?_
  refine TC_seq ?_
  refine TC_reg ?_
  refine TL_ev env 3 rfl ⟨trivial, ⟨⟨trivial, trivial⟩, ⟨⟨trivial, ⟨trivial, trivial⟩⟩, trivial⟩⟩⟩ ?_
  refine TL_end ?_
  refine TE_go ?_
  refine TC_cond rfl (fun hb => ?_) (fun hb => ?_)
  · replace h0 := bif_t h0 hb
    refine TC_seq ?_
    refine TC_reg ?_
    refine TL_ev env 1 rfl ⟨trivial, trivial⟩ ?_
    refine TL_end ?_
    refine TE_go ?_
    refine TC_ret ?_
    refine tsr ?_
    obtain rfl := sinj h0
    exact TE_ret env rfl trivial trivial
  · replace h0 := bif_f h0 hb
    refine TC_skip ?_
    refine TE_go ?_
    refine TC_seq ?_
    refine TC_seq ?_
    refine TC_reg ?_
    refine TL_ev env 1 rfl ⟨trivial, trivial⟩ ?_
    refine TL_end ?_
    refine TE_go ?_
    obtain ⟨z1, h1, h0⟩ := bnd h0
    refine TC_cut (α := Unit) (fun _ => z1 = .inl ()) (fun _ => []) (fun _ => []) ?_ ?_
    · refine TC_blk ?_
      refine TC_loop (α := Int) (fun n s => psalterylaw25_far.l0 K p0 n s = some z1) (fun s => [(0, .im (.slice (.pair (.int .i64) (.pair (.slice (.int .u8)) (.slice (.int .u8))))) p0), (3, .int .i64 s)]) (fun s => []) K ?_ ?_
      · exact SP_ren [] _ h1 ⟨rfl, rfl, trivial⟩ trivial rfl
      rintro n x6 h1
      rcases n with _ | n
      · exact (nsome h1).elim
      replace h1 : psalterylaw25_far.r0 K p0 (psalterylaw25_far.l0 K p0 n) x6 = some z1 := h1
      refine TC_seq ?_
      refine TC_seq ?_
      refine TC_reg ?_
      refine TL_ev env 4 rfl ⟨trivial, ⟨trivial, ⟨⟨trivial, trivial⟩, ⟨⟨trivial, ⟨trivial, trivial⟩⟩, trivial⟩⟩⟩⟩ ?_
      refine TL_end ?_
      refine TE_go ?_
      refine TC_cond rfl (fun hb => ?_) (fun hb => ?_)
      · replace h1 := bif_t h1 hb
        refine TC_skip ?_
        refine TE_go ?_
        refine TC_seq ?_
        refine TC_blk ?_
        refine TC_seq ?_
        refine TC_reg ?_
        obtain ⟨g, h1⟩ := gd_t h1
        refine TL_ev env 16 rfl ⟨trivial, ⟨trivial, ⟨⟨trivial, ⟨trivial, ⟨g.1, g.2.1⟩⟩⟩, ⟨trivial, ⟨⟨trivial, trivial⟩, ⟨⟨trivial, trivial⟩, ⟨⟨trivial, ⟨trivial, trivial⟩⟩, ⟨trivial, ⟨fun eg => trivial, ⟨fun eg => trivial, ⟨fun eg => ⟨fun e => e, ⟨fun e => e, ⟨(g.2.2.1 eg), (g.2.2.2 eg)⟩⟩⟩, ⟨fun eg => fun e => e, ⟨fun eg => ⟨fun e => e, trivial⟩, ⟨fun eg => ⟨fun e => e, trivial⟩, ⟨fun eg => ⟨fun e => e, ⟨trivial, trivial⟩⟩, ⟨⟨trivial, ⟨trivial, fun e => e⟩⟩, trivial⟩⟩⟩⟩⟩⟩⟩⟩⟩⟩⟩⟩⟩⟩⟩⟩ ?_
        refine TL_end ?_
        refine TE_go ?_
        refine TC_cond rfl (fun hb => ?_) (fun hb => ?_)
        · replace h1 := bif_t h1 hb
          refine TC_seq ?_
          refine TC_reg ?_
          refine TL_ev env 1 rfl ⟨trivial, trivial⟩ ?_
          refine TL_end ?_
          refine TE_go ?_
          refine TC_ret ?_
          refine tbr ?_
          refine tsr ?_
          refine tsr ?_
          refine tbr ?_
          refine tsr ?_
          refine tsr ?_
          obtain rfl := sinj h1
          obtain rfl := sinj h0
          exact TE_ret env rfl trivial trivial
        · replace h1 := bif_f h1 hb
          refine TC_skip ?_
          refine tbn ?_
          refine TE_go ?_
          refine TC_reg ?_
          refine TL_ev env 3 rfl ⟨trivial, ⟨⟨trivial, ⟨trivial, trivial⟩⟩, ⟨trivial, trivial⟩⟩⟩ ?_
          refine TL_end ?_
          refine tsn ?_
          exact TE_nextr [] n (Nat.lt_succ_self n) _ h1 ⟨rfl, rfl, trivial⟩ trivial rfl
      · replace h1 := bif_f h1 hb
        refine TC_exit ?_
        refine tsx ?_
        refine tsx ?_
        refine tbe ?_
        obtain rfl := sinj h1
        refine tsn ?_
        exact SP_ren [] () rfl trivial trivial rfl
    · rintro ⟨⟩ rfl
      refine TE_go ?_
      refine TC_seq ?_
      refine TC_reg ?_
      refine TL_ev env 1 rfl ⟨trivial, trivial⟩ ?_
      refine TL_end ?_
      refine TE_go ?_
      refine TC_ret ?_
      obtain rfl := sinj h0
      exact TE_ret env rfl trivial trivial
theorem psalterylaw25_far.ok0 {K : Nat} {p0 : List ((Int × (List (Int) × List (Int))))} {q0 : Bool} (h0 : psalterylaw25_far K p0 = some q0) : Fn Try.prog 73 [.im (.slice (.pair (.int .i64) (.pair (.slice (.int .u8)) (.slice (.int .u8))))) p0] [] (.bool q0) [] := psalterylaw25_far.ok h0
theorem psalterylaw25_far.fnb : fnb Try.prog 73 = true := fnb_of Try.func73 rfl
def stream_Stream_Link.res (_p0 : Int) (_p1 : Int) (_p2 : Int) (_p3 : Int) (_p4 : Int) (_p5 : Int) (_p6 : Int) (_p7 : Int) (_p8 : Int) (_p9 : Int) (_p10 : Int) (_p11 : Int) (p12 : Int) (p13 : Int) : Unit → MV
  | () => .agg [.int .i64 p12, .int .i64 p13]
def stream_Stream_Link.out (p0 : Int) (p1 : Int) (p2 : Int) (p3 : Int) (p4 : Int) (p5 : Int) (p6 : Int) (p7 : Int) (p8 : Int) (p9 : Int) (p10 : Int) (p11 : Int) (p12 : Int) (p13 : Int) : Unit → List (Nat × Option MObj)
  | () => [(0, some (.cells [.int .i64 p0, .int .i64 p1, .int .i64 p2, .int .i64 p3, .int .i64 p4, .int .i64 p5, .int .i64 p6, .int .i64 p7, .int .i64 p8, .int .i64 p9, .int .i64 p10, .int .i64 p11, .int .i64 p12, .int .i64 p13]))]
theorem stream_Stream_Link.ok {K : Nat} {p0 : Int} {p1 : Int} {p2 : Int} {p3 : Int} {p4 : Int} {p5 : Int} {p6 : Int} {p7 : Int} {p8 : Int} {p9 : Int} {p10 : Int} {p11 : Int} {p12 : Int} {p13 : Int} {r : Unit} (h0 : stream_Stream_Link K p0 p1 p2 p3 p4 p5 p6 p7 p8 p9 p10 p11 p12 p13 = some r) : Fn Try.prog 80 [.p 0 0] [(0, some (.cells [.int .i64 p0, .int .i64 p1, .int .i64 p2, .int .i64 p3, .int .i64 p4, .int .i64 p5, .int .i64 p6, .int .i64 p7, .int .i64 p8, .int .i64 p9, .int .i64 p10, .int .i64 p11, .int .i64 p12, .int .i64 p13]))] (stream_Stream_Link.res p0 p1 p2 p3 p4 p5 p6 p7 p8 p9 p10 p11 p12 p13 r) (stream_Stream_Link.out p0 p1 p2 p3 p4 p5 p6 p7 p8 p9 p10 p11 p12 p13 r) := by
  refine Fn_of Try.func80 rfl (Nat.le_of_ble_eq_true rfl) fun Γ => ?_
  refine TC_seq ?_
  refine TC_reg ?_
  refine TL_ev env 1 rfl ⟨trivial, trivial⟩ ?_
  refine TL_end ?_
  refine TE_go ?_
  refine TC_seq ?_
  refine TC_seq ?_
  refine TC_reg ?_
  refine TL_ev env 2 rfl ⟨trivial, ⟨⟨trivial, ⟨trivial, trivial⟩⟩, trivial⟩⟩ ?_
  refine TL_end ?_
  refine TE_go ?_
  refine TC_cond rfl (fun hb => ?_) (fun hb => ?_)
  · first | exact (ftf hb).elim | exact (tff hb).elim | exact absurd hb (by decide)
  · refine TC_skip ?_
    refine TE_go ?_
    refine TC_seq ?_
    refine TC_reg ?_
    refine TL_ev env 5 rfl ⟨trivial, ⟨trivial, ⟨trivial, ⟨⟨trivial, trivial⟩, ⟨⟨trivial, trivial⟩, trivial⟩⟩⟩⟩⟩ ?_
    refine TL_end ?_
    refine TE_go ?_
    refine TC_ret ?_
    obtain rfl := sinj h0
    exact TE_ret env rfl ⟨trivial, trivial⟩ ⟨.inr rfl, trivial⟩
theorem stream_Stream_Link.ok0 {K : Nat} {p0 : Int} {p1 : Int} {p2 : Int} {p3 : Int} {p4 : Int} {p5 : Int} {p6 : Int} {p7 : Int} {p8 : Int} {p9 : Int} {p10 : Int} {p11 : Int} {p12 : Int} {p13 : Int}  (h0 : stream_Stream_Link K p0 p1 p2 p3 p4 p5 p6 p7 p8 p9 p10 p11 p12 p13 = some ()) : Fn Try.prog 80 [.p 0 0] [(0, some (.cells [.int .i64 p0, .int .i64 p1, .int .i64 p2, .int .i64 p3, .int .i64 p4, .int .i64 p5, .int .i64 p6, .int .i64 p7, .int .i64 p8, .int .i64 p9, .int .i64 p10, .int .i64 p11, .int .i64 p12, .int .i64 p13]))] (.agg [.int .i64 p12, .int .i64 p13]) [(0, some (.cells [.int .i64 p0, .int .i64 p1, .int .i64 p2, .int .i64 p3, .int .i64 p4, .int .i64 p5, .int .i64 p6, .int .i64 p7, .int .i64 p8, .int .i64 p9, .int .i64 p10, .int .i64 p11, .int .i64 p12, .int .i64 p13]))] := stream_Stream_Link.ok h0
theorem stream_Stream_Link.fnb : fnb Try.prog 80 = true := fnb_of Try.func80 rfl
def psalterylaw25_StreamOnly.res (_p0 : List ((Int × (List (Int) × List (Int))))) : Bool → MV
  | q0 => .bool q0
def psalterylaw25_StreamOnly.out (_p0 : List ((Int × (List (Int) × List (Int))))) : Bool → List (Nat × Option MObj)
  | _ => []
theorem psalterylaw25_StreamOnly.ok {K : Nat} {p0 : List ((Int × (List (Int) × List (Int))))} {r : Bool} (h0 : psalterylaw25_StreamOnly K p0 = some r) : Fn Try.prog 19 [.im (.slice (.pair (.int .i64) (.pair (.slice (.int .u8)) (.slice (.int .u8))))) p0] [] (psalterylaw25_StreamOnly.res p0 r) (psalterylaw25_StreamOnly.out p0 r) := by
  refine Fn_of Try.func19 rfl (Nat.le_of_ble_eq_true rfl) fun Γ => ?_
  refine TC_seq ?_
  refine TC_reg ?_
  refine TL_ev env 1 rfl ⟨trivial, trivial⟩ ?_
  refine TL_end ?_
  refine TE_go ?_
  refine TC_seq ?_
  refine TC_seq ?_
  refine TC_reg ?_
  obtain ⟨r364, hr, h0⟩ := bnd h0
  refine TL_callB [] (psalterylaw25_alive.ok0 hr) psalterylaw25_alive.fnb rfl ⟨trivial, trivial⟩ rfl trivial rfl ?_
  refine TL_ev env 1 rfl ⟨trivial, trivial⟩ ?_
  refine TL_end ?_
  refine TE_go ?_
  refine TC_cond rfl (fun hb => ?_) (fun hb => ?_)
  · replace h0 := bif_t h0 hb
    refine TC_seq ?_
    refine TC_reg ?_
    refine TL_ev env 1 rfl ⟨trivial, trivial⟩ ?_
    refine TL_end ?_
    refine TE_go ?_
    refine TC_ret ?_
    refine tsr ?_
    obtain rfl := sinj h0
    exact TE_ret env rfl trivial trivial
  · replace h0 := bif_f h0 hb
    refine TC_skip ?_
    refine TE_go ?_
    refine TC_seq ?_
    refine TC_seq ?_
    refine TC_reg ?_
    refine TL_ev env 1 rfl ⟨trivial, trivial⟩ ?_
    obtain ⟨r365, hr, h0⟩ := bnd h0
    refine TL_callB [] (psalterylaw25_far.ok0 hr) psalterylaw25_far.fnb rfl ⟨trivial, ⟨trivial, trivial⟩⟩ rfl trivial rfl ?_
    refine TL_end ?_
    refine TE_go ?_
    refine TC_cond rfl (fun hb => ?_) (fun hb => ?_)
    · replace h0 := bif_t h0 hb
      refine TC_seq ?_
      refine TC_reg ?_
      refine TL_ev env 1 rfl ⟨trivial, trivial⟩ ?_
      refine TL_end ?_
      refine TE_go ?_
      refine TC_ret ?_
      refine tsr ?_
      obtain rfl := sinj h0
      exact TE_ret env rfl trivial trivial
    · replace h0 := bif_f h0 hb
      refine TC_skip ?_
      refine TE_go ?_
      refine TC_seq ?_
      refine TC_reg ?_
      obtain ⟨⟨⟩, hr, h0⟩ := bnd h0
      refine TL_callB [(1000, 500190)] (stream_New.ok0 hr) stream_New.fnb rfl ⟨trivial, trivial⟩ rfl trivial rfl ?_
      refine TL_ev env 1 rfl ⟨trivial, trivial⟩ ?_
      refine TL_end ?_
      refine TE_go ?_
      refine TC_seq ?_
      refine TC_reg ?_
      refine TL_ev env 2 rfl ⟨trivial, ⟨trivial, trivial⟩⟩ ?_
      refine TL_end ?_
      refine TE_go ?_
      refine TC_seq ?_
      refine TC_reg ?_
      refine TL_ev env 2 rfl ⟨trivial, ⟨trivial, trivial⟩⟩ ?_
      refine TL_end ?_
      refine TE_go ?_
      refine TC_seq ?_
      refine TC_seq ?_
      refine TC_reg ?_
      refine TL_ev env 1 rfl ⟨trivial, trivial⟩ ?_
      refine TL_end ?_
      refine TE_go ?_
      obtain ⟨z1, h1, h0⟩ := bnd h0
      refine TC_cut (α := Unit) (fun _ => z1 = .inl ()) (fun _ => []) (fun _ => []) ?_ ?_
      · refine TC_blk ?_
        refine TC_loop (α := (List (Int)) × (List (Int)) × Bool × Bool × Int × Int × Int × Int × Int × Int × Int × Int × Int × Int × Int × Int × Int × Int × Int) (fun n s => psalterylaw25_StreamOnly.l0 K p0 n s.1 s.2.1 s.2.2.1 s.2.2.2.1 s.2.2.2.2.1 s.2.2.2.2.2.1 s.2.2.2.2.2.2.1 s.2.2.2.2.2.2.2.1 s.2.2.2.2.2.2.2.2.1 s.2.2.2.2.2.2.2.2.2.1 s.2.2.2.2.2.2.2.2.2.2.1 s.2.2.2.2.2.2.2.2.2.2.2.1 s.2.2.2.2.2.2.2.2.2.2.2.2.1 s.2.2.2.2.2.2.2.2.2.2.2.2.2.1 s.2.2.2.2.2.2.2.2.2.2.2.2.2.2.1 s.2.2.2.2.2.2.2.2.2.2.2.2.2.2.2.1 s.2.2.2.2.2.2.2.2.2.2.2.2.2.2.2.2.1 s.2.2.2.2.2.2.2.2.2.2.2.2.2.2.2.2.2.1 s.2.2.2.2.2.2.2.2.2.2.2.2.2.2.2.2.2.2 = some z1) (fun s => [(0, .im (.slice (.pair (.int .i64) (.pair (.slice (.int .u8)) (.slice (.int .u8))))) p0), (3, .p 14500 0), (4, .im (.slice (.int .u8)) s.1), (5, .im (.slice (.int .u8)) s.2.1), (6, .bool s.2.2.1), (7, .bool s.2.2.2.1), (8, .int .i64 s.2.2.2.2.1)]) (fun s => [(14500, some (.cells [.int .i64 s.2.2.2.2.2.1, .int .i64 s.2.2.2.2.2.2.1, .int .i64 s.2.2.2.2.2.2.2.1, .int .i64 s.2.2.2.2.2.2.2.2.1, .int .i64 s.2.2.2.2.2.2.2.2.2.1, .int .i64 s.2.2.2.2.2.2.2.2.2.2.1, .int .i64 s.2.2.2.2.2.2.2.2.2.2.2.1, .int .i64 s.2.2.2.2.2.2.2.2.2.2.2.2.1, .int .i64 s.2.2.2.2.2.2.2.2.2.2.2.2.2.1, .int .i64 s.2.2.2.2.2.2.2.2.2.2.2.2.2.2.1, .int .i64 s.2.2.2.2.2.2.2.2.2.2.2.2.2.2.2.1, .int .i64 s.2.2.2.2.2.2.2.2.2.2.2.2.2.2.2.2.1, .int .i64 s.2.2.2.2.2.2.2.2.2.2.2.2.2.2.2.2.2.1, .int .i64 s.2.2.2.2.2.2.2.2.2.2.2.2.2.2.2.2.2.2]))]) K ?_ ?_
        · refine TE_imn 4 (.int .u8) rfl ?_
          refine TE_imn 5 (.int .u8) rfl ?_
          exact SP_ren [(14500, 500190)] (_, _, _, _, _, _, _, _, _, _, _, _, _, _, _, _, _, _, _) h1 ⟨rfl, rfl, rfl, rfl, rfl, rfl, rfl, trivial⟩ ⟨rfl, trivial⟩ rfl
        rintro n ⟨x944, x945, x946, x947, x948, x949, x950, x951, x952, x953, x954, x955, x956, x957, x958, x959, x960, x961, x962⟩ h1
        rcases n with _ | n
        · exact (nsome h1).elim
        replace h1 : psalterylaw25_StreamOnly.r0 K p0 (psalterylaw25_StreamOnly.l0 K p0 n) x944 x945 x946 x947 x948 x949 x950 x951 x952 x953 x954 x955 x956 x957 x958 x959 x960 x961 x962 = some z1 := h1
        refine TC_seq ?_
        refine TC_seq ?_
        refine TC_reg ?_
        refine TL_ev env 4 rfl ⟨trivial, ⟨trivial, ⟨⟨trivial, trivial⟩, ⟨⟨trivial, ⟨trivial, trivial⟩⟩, trivial⟩⟩⟩⟩ ?_
        refine TL_end ?_
        refine TE_go ?_
        refine TC_cond rfl (fun hb => ?_) (fun hb => ?_)
        · replace h1 := bif_t h1 hb
          refine TC_skip ?_
          refine TE_go ?_
          refine TC_seq ?_
          obtain ⟨z2, h2, h1⟩ := bnd h1
          refine TC_cut (α := (List (Int)) × (List (Int)) × Bool × Bool × Int × Int × Int × Int × Int × Int × Int × Int × Int × Int × Int × Int × Int × Int) (fun s => z2 = .inl s) (fun s => [(0, .im (.slice (.pair (.int .i64) (.pair (.slice (.int .u8)) (.slice (.int .u8))))) p0), (3, .p 15400 0), (4, .im (.slice (.int .u8)) s.1), (5, .im (.slice (.int .u8)) s.2.1), (6, .bool s.2.2.1), (7, .bool s.2.2.2.1), (8, .int .i64 x948)]) (fun s => [(15400, some (.cells [.int .i64 s.2.2.2.2.1, .int .i64 s.2.2.2.2.2.1, .int .i64 s.2.2.2.2.2.2.1, .int .i64 s.2.2.2.2.2.2.2.1, .int .i64 s.2.2.2.2.2.2.2.2.1, .int .i64 s.2.2.2.2.2.2.2.2.2.1, .int .i64 s.2.2.2.2.2.2.2.2.2.2.1, .int .i64 s.2.2.2.2.2.2.2.2.2.2.2.1, .int .i64 s.2.2.2.2.2.2.2.2.2.2.2.2.1, .int .i64 s.2.2.2.2.2.2.2.2.2.2.2.2.2.1, .int .i64 s.2.2.2.2.2.2.2.2.2.2.2.2.2.2.1, .int .i64 s.2.2.2.2.2.2.2.2.2.2.2.2.2.2.2.1, .int .i64 s.2.2.2.2.2.2.2.2.2.2.2.2.2.2.2.2.1, .int .i64 s.2.2.2.2.2.2.2.2.2.2.2.2.2.2.2.2.2]))]) ?_ ?_
          · refine TC_blk ?_
            refine TC_seq ?_
            refine TC_reg ?_
            refine TL_ev env 1 rfl ⟨trivial, trivial⟩ ?_
            obtain ⟨⟨⟩, hr, h2⟩ := bnd h2
            refine TL_callB [(0, 14500)] (stream_Stream_Epoch.ok0 hr) stream_Stream_Epoch.fnb rfl ⟨trivial, ⟨trivial, trivial⟩⟩ rfl ⟨.inr rfl, trivial⟩ rfl ?_
            refine TL_ev env 1 rfl ⟨trivial, trivial⟩ ?_
            refine TL_end ?_
            refine TE_go ?_
            refine TC_seq ?_
            refine TC_reg ?_
            refine TL_ev env 1 rfl ⟨trivial, trivial⟩ ?_
            refine TL_end ?_
            refine TE_go ?_
            refine TC_seq ?_
            refine TC_seq ?_
            refine TC_reg ?_
            obtain ⟨g, h2⟩ := gd_t h2
            refine TL_ev env 6 rfl ⟨trivial, ⟨trivial, ⟨⟨trivial, ⟨trivial, ⟨g.1, g.2⟩⟩⟩, ⟨trivial, ⟨⟨trivial, trivial⟩, ⟨⟨trivial, ⟨trivial, trivial⟩⟩, trivial⟩⟩⟩⟩⟩⟩ ?_
            refine TL_end ?_
            refine TE_go ?_
            obtain ⟨z3, h3, h2⟩ := bnd h2
            refine TC_cut (α := (List (Int)) × (List (Int)) × Bool × Bool × Bool × Int × Int × Int × Int × Int × Int × Int × Int × Int × Int × Int × Int × Int × Int) (fun s => z3 = .inl s) (fun s => [(0, .im (.slice (.pair (.int .i64) (.pair (.slice (.int .u8)) (.slice (.int .u8))))) p0), (3, .p 15500 0), (4, .im (.slice (.int .u8)) s.1), (5, .im (.slice (.int .u8)) s.2.1), (6, .bool s.2.2.1), (7, .bool s.2.2.2.1), (8, .int .i64 x948), (9, .int .i64 x950), (10, .bool s.2.2.2.2.1)]) (fun s => [(15500, some (.cells [.int .i64 s.2.2.2.2.2.1, .int .i64 s.2.2.2.2.2.2.1, .int .i64 s.2.2.2.2.2.2.2.1, .int .i64 s.2.2.2.2.2.2.2.2.1, .int .i64 s.2.2.2.2.2.2.2.2.2.1, .int .i64 s.2.2.2.2.2.2.2.2.2.2.1, .int .i64 s.2.2.2.2.2.2.2.2.2.2.2.1, .int .i64 s.2.2.2.2.2.2.2.2.2.2.2.2.1, .int .i64 s.2.2.2.2.2.2.2.2.2.2.2.2.2.1, .int .i64 s.2.2.2.2.2.2.2.2.2.2.2.2.2.2.1, .int .i64 s.2.2.2.2.2.2.2.2.2.2.2.2.2.2.2.1, .int .i64 s.2.2.2.2.2.2.2.2.2.2.2.2.2.2.2.2.1, .int .i64 s.2.2.2.2.2.2.2.2.2.2.2.2.2.2.2.2.2.1, .int .i64 s.2.2.2.2.2.2.2.2.2.2.2.2.2.2.2.2.2.2]))]) ?_ ?_
            · refine TC_cond rfl (fun hb => ?_) (fun hb => ?_)
              · replace h3 := bif_t h3 hb
                refine TC_seq ?_
                refine TC_renw (A' := [(0, .im (.slice (.pair (.int .i64) (.pair (.slice (.int .u8)) (.slice (.int .u8))))) _), (3, .p 14500 0), (4, .im (.slice (.int .u8)) _), (5, .im (.slice (.int .u8)) _), (6, .bool _), (7, .bool _), (8, .int .i64 _), (9, .int .i64 _), (10, .bool false)]) (L' := [(14500, some (.cells [.int .i64 _, .int .i64 _, .int .i64 _, .int .i64 _, .int .i64 _, .int .i64 _, .int .i64 _, .int .i64 _, .int .i64 _, .int .i64 _, .int .i64 _, .int .i64 _, .int .i64 _, .int .i64 _]))]) [] ⟨rfl, rfl, rfl, rfl, rfl, rfl, rfl, rfl, rfl, trivial⟩ ⟨rfl, trivial⟩ rfl ?_
                refine TC_drawR ⟨_, fun i => ([[], [], [], [2, 1], [3, 2, 1], [4, 3, 2, 1], [], [], [7, 6], [8, 7, 6], [9, 8, 7, 6], [10, 9, 8, 7, 6, 5, 4, 3, 2, 1, 0], [11, 10, 9, 8, 7, 6, 5, 4, 3, 2, 1, 0]] : List (List Nat)).getD i [], fun i => ([[], [], [], [], [], [], [], [], [], [], [], [14500], []] : List (List Nat)).getD i [], fun i => ([[], [], [], [], [], [], [], [], [], [], [], [], []] : List (List Nat)).getD i []⟩ (fun i => ([[], [], [], [], [], [], [], [], [], [], [], [], []] : List (List Nat)).getD i []) (by kernel_rfl) (by kernel_rfl) ?_
                refine AJR_ev env 1 rfl (Nat.le_of_ble_eq_true rfl) rfl trivial ?_
                refine AJR_ev env 2 rfl (Nat.le_of_ble_eq_true rfl) rfl trivial ?_
                refine AJR_ev env 3 rfl (Nat.le_of_ble_eq_true rfl) rfl trivial ?_
                obtain ⟨g, h3⟩ := gd_t h3
                refine AJR_ev env 4 rfl (Nat.le_of_ble_eq_true rfl) rfl ⟨trivial, ⟨trivial, ⟨g.1, g.2⟩⟩⟩ ?_
                refine AJR_ev env 5 rfl (Nat.le_of_ble_eq_true rfl) rfl trivial ?_
                refine AJR_ev env 6 rfl (Nat.le_of_ble_eq_true rfl) rfl ⟨trivial, trivial⟩ ?_
                refine AJR_ev env 7 rfl (Nat.le_of_ble_eq_true rfl) rfl trivial ?_
                refine AJR_ev env 8 rfl (Nat.le_of_ble_eq_true rfl) rfl trivial ?_
                obtain ⟨g, h3⟩ := gd_t h3
                refine AJR_ev env 9 rfl (Nat.le_of_ble_eq_true rfl) rfl ⟨trivial, ⟨trivial, ⟨g.1, g.2⟩⟩⟩ ?_
                refine AJR_ev env 10 rfl (Nat.le_of_ble_eq_true rfl) rfl trivial ?_
                refine AJR_ev env 11 rfl (Nat.le_of_ble_eq_true rfl) rfl ⟨trivial, trivial⟩ ?_
                obtain ⟨⟨r1304, r1305, r1306, r1307, r1308, r1309, r1310, r1311, r1312, r1313, r1314, r1315, r1316, r1317⟩, hr, h3⟩ := bnd h3
                refine AJR_call 12 rfl (Nat.le_of_ble_eq_true rfl) [(0, 14500)] rfl (stream_Stream_Configure.ok0 hr) stream_Stream_Configure.fnb rfl ⟨trivial, ⟨trivial, ⟨trivial, ⟨trivial, trivial⟩⟩⟩⟩ rfl ⟨.inr rfl, trivial⟩ rfl ?_
                refine AJR_ev env 13 rfl (Nat.le_of_ble_eq_true rfl) rfl ⟨trivial, ⟨trivial, trivial⟩⟩ ?_
                refine AJR_end rfl rfl rfl ?_
                refine TE_go ?_
                refine TC_cond rfl (fun hb => ?_) (fun hb => ?_)
                · replace h3 := bif_t h3 hb
                  refine TC_seq ?_
                  refine TC_renw (A' := [(0, .im (.slice (.pair (.int .i64) (.pair (.slice (.int .u8)) (.slice (.int .u8))))) _), (3, .p 14500 0), (8, .int .i64 _), (9, .int .i64 _), (10, .bool false)]) (L' := [(14500, some (.cells [.int .i64 _, .int .i64 _, .int .i64 _, .int .i64 _, .int .i64 _, .int .i64 _, .int .i64 _, .int .i64 _, .int .i64 _, .int .i64 _, .int .i64 _, .int .i64 _, .int .i64 _, .int .i64 _]))]) [] ⟨rfl, rfl, rfl, rfl, rfl, trivial⟩ ⟨rfl, trivial⟩ rfl ?_
                  refine TC_drawR ⟨_, fun i => ([[], [], [1, 0], [2, 1, 0], [3, 2, 1, 0], [], [], [6, 5], [7, 6, 5], [8, 7, 6, 5], [4, 3, 2, 1, 0], [10, 9, 8, 7, 6, 5, 4, 3, 2, 1, 0]] : List (List Nat)).getD i [], fun i => ([[], [], [], [], [], [], [], [], [], [], [], []] : List (List Nat)).getD i [], fun i => ([[], [], [], [], [], [], [], [], [], [], [], []] : List (List Nat)).getD i []⟩ (fun i => ([[], [], [], [], [], [], [], [], [], [], [], []] : List (List Nat)).getD i []) (by kernel_rfl) (by kernel_rfl) ?_
                  refine AJR_ev env 1 rfl (Nat.le_of_ble_eq_true rfl) rfl trivial ?_
                  refine AJR_ev env 2 rfl (Nat.le_of_ble_eq_true rfl) rfl trivial ?_
                  obtain ⟨g, h3⟩ := gd_t h3
                  refine AJR_ev env 3 rfl (Nat.le_of_ble_eq_true rfl) rfl ⟨trivial, ⟨trivial, ⟨g.1, g.2⟩⟩⟩ ?_
                  refine AJR_ev env 4 rfl (Nat.le_of_ble_eq_true rfl) rfl trivial ?_
                  refine AJR_ev env 5 rfl (Nat.le_of_ble_eq_true rfl) rfl ⟨trivial, trivial⟩ ?_
                  refine AJR_ev env 6 rfl (Nat.le_of_ble_eq_true rfl) rfl trivial ?_
                  refine AJR_ev env 7 rfl (Nat.le_of_ble_eq_true rfl) rfl trivial ?_
                  obtain ⟨g, h3⟩ := gd_t h3
                  refine AJR_ev env 8 rfl (Nat.le_of_ble_eq_true rfl) rfl ⟨trivial, ⟨trivial, ⟨g.1, g.2⟩⟩⟩ ?_
                  refine AJR_ev env 9 rfl (Nat.le_of_ble_eq_true rfl) rfl trivial ?_
                  refine AJR_ev env 10 rfl (Nat.le_of_ble_eq_true rfl) rfl ⟨trivial, trivial⟩ ?_
                  refine AJR_ev env 11 rfl (Nat.le_of_ble_eq_true rfl) rfl trivial ?_
                  refine AJR_ev env 12 rfl (Nat.le_of_ble_eq_true rfl) rfl trivial ?_
                  refine AJR_end rfl rfl rfl ?_
                  refine TE_go ?_
                  refine TC_reg ?_
                  refine TL_ev env 2 rfl ⟨trivial, ⟨trivial, trivial⟩⟩ ?_
                  refine TL_end ?_
                  obtain rfl := sinj h3
                  refine tsn ?_
                  exact SP_ren [(15500, 14500)] (_, _, _, _, _, _, _, _, _, _, _, _, _, _, _, _, _, _, _) rfl ⟨rfl, rfl, rfl, rfl, rfl, rfl, rfl, rfl, rfl, trivial⟩ ⟨rfl, trivial⟩ rfl
                · replace h3 := bif_f h3 hb
                  refine TC_skip ?_
                  obtain rfl := sinj h3
                  refine tsn ?_
                  exact SP_ren [(15500, 14500)] (_, _, _, _, _, _, _, _, _, _, _, _, _, _, _, _, _, _, _) rfl ⟨rfl, rfl, rfl, rfl, rfl, rfl, rfl, rfl, rfl, trivial⟩ ⟨rfl, trivial⟩ rfl
              · replace h3 := bif_f h3 hb
                refine TC_seq ?_
                refine TC_reg ?_
                obtain ⟨g, h3⟩ := gd_t h3
                refine TL_ev env 6 rfl ⟨trivial, ⟨trivial, ⟨trivial, ⟨⟨trivial, ⟨trivial, ⟨g.1, g.2⟩⟩⟩, ⟨trivial, ⟨⟨trivial, trivial⟩, trivial⟩⟩⟩⟩⟩⟩ ?_
                obtain ⟨⟨r1318, r1319, r1320, r1321, r1322, r1323, r1324, r1325, r1326, r1327, r1328, r1329, r1330, r1331, r1332⟩, hr, h3⟩ := bnd h3
                refine TL_callB [(0, 14500)] (stream_Stream_Call.ok0 hr) stream_Stream_Call.fnb rfl ⟨trivial, ⟨trivial, ⟨trivial, trivial⟩⟩⟩ rfl ⟨.inr rfl, trivial⟩ rfl ?_
                refine TL_ev env 1 rfl ⟨⟨trivial, ⟨trivial, trivial⟩⟩, trivial⟩ ?_
                refine TL_end ?_
                refine TE_go ?_
                refine TC_cond rfl (fun hb => ?_) (fun hb => ?_)
                · replace h3 := bif_t h3 hb
                  refine TC_seq ?_
                  refine TC_reg ?_
                  obtain ⟨g, h3⟩ := gd_t h3
                  refine TL_ev env 5 rfl ⟨trivial, ⟨trivial, ⟨⟨trivial, ⟨trivial, ⟨g.1, g.2⟩⟩⟩, ⟨trivial, ⟨⟨trivial, trivial⟩, trivial⟩⟩⟩⟩⟩ ?_
                  refine TL_end ?_
                  refine TE_go ?_
                  refine TC_blk ?_
                  refine TC_seq ?_
                  refine TC_reg ?_
                  refine TL_ev env 2 rfl ⟨⟨trivial, ⟨trivial, trivial⟩⟩, ⟨trivial, trivial⟩⟩ ?_
                  refine TL_end ?_
                  refine TE_go ?_
                  refine TC_cond rfl (fun hb => ?_) (fun hb => ?_)
                  · replace h3 := bif_t h3 hb
                    refine TC_reg ?_
                    refine TL_ev env 1 rfl ⟨trivial, trivial⟩ ?_
                    refine TL_end ?_
                    refine tbn ?_
                    obtain rfl := sinj h3
                    refine tsn ?_
                    exact SP_ren [(15500, 14500)] (_, _, _, _, _, _, _, _, _, _, _, _, _, _, _, _, _, _, _) rfl ⟨rfl, rfl, rfl, rfl, rfl, rfl, rfl, rfl, rfl, trivial⟩ ⟨rfl, trivial⟩ rfl
                  · replace h3 := bif_f h3 hb
                    refine TC_seq ?_
                    refine TC_reg ?_
                    refine TL_ev env 2 rfl ⟨⟨trivial, ⟨trivial, trivial⟩⟩, ⟨trivial, trivial⟩⟩ ?_
                    refine TL_end ?_
                    refine TE_go ?_
                    refine TC_cond rfl (fun hb => ?_) (fun hb => ?_)
                    · replace h3 := bif_t h3 hb
                      refine TC_seq ?_
                      refine TC_seq ?_
                      refine TC_reg ?_
                      refine TL_ev env 5 rfl ⟨trivial, ⟨trivial, ⟨trivial, ⟨fun eg => trivial, ⟨⟨trivial, ⟨trivial, fun e => e⟩⟩, trivial⟩⟩⟩⟩⟩ ?_
                      refine TL_end ?_
                      refine TE_go ?_
                      refine TC_cond rfl (fun hb => ?_) (fun hb => ?_)
                      · replace h3 := bif_t h3 hb
                        refine TC_seq ?_
                        refine TC_reg ?_
                        refine TL_ev env 1 rfl ⟨trivial, trivial⟩ ?_
                        refine TL_end ?_
                        refine TE_go ?_
                        refine TC_ret ?_
                        refine tsr ?_
                        refine tbr ?_
                        refine tsr ?_
                        refine tsr ?_
                        refine tbr ?_
                        refine tsr ?_
                        refine tsr ?_
                        refine tsr ?_
                        refine tbr ?_
                        refine tsr ?_
                        refine tsr ?_
                        obtain rfl := sinj h3
                        obtain rfl := sinj h2
                        obtain rfl := sinj h1
                        obtain rfl := sinj h0
                        exact TE_ret env rfl trivial trivial
                      · replace h3 := bif_f h3 hb
                        refine TC_skip ?_
                        refine TE_go ?_
                        refine TC_seq ?_
                        refine TC_reg ?_
                        refine TL_ev env 1 rfl ⟨trivial, trivial⟩ ?_
                        refine TL_end ?_
                        refine TE_go ?_
                        refine TC_reg ?_
                        refine TL_ev env 1 rfl ⟨trivial, trivial⟩ ?_
                        refine TL_end ?_
                        refine tbn ?_
                        obtain rfl := sinj h3
                        refine tsn ?_
                        exact SP_ren [(15500, 14500)] (_, _, _, _, _, _, _, _, _, _, _, _, _, _, _, _, _, _, _) rfl ⟨rfl, rfl, rfl, rfl, rfl, rfl, rfl, rfl, rfl, trivial⟩ ⟨rfl, trivial⟩ rfl
                    · replace h3 := bif_f h3 hb
                      refine TC_seq ?_
                      refine TC_reg ?_
                      refine TL_ev env 2 rfl ⟨⟨trivial, ⟨trivial, trivial⟩⟩, ⟨trivial, trivial⟩⟩ ?_
                      refine TL_end ?_
                      refine TE_go ?_
                      refine TC_cond rfl (fun hb => ?_) (fun hb => ?_)
                      · replace h3 := bif_t h3 hb
                        refine TC_reg ?_
                        refine TL_ev env 1 rfl ⟨trivial, trivial⟩ ?_
                        refine TL_end ?_
                        refine tbn ?_
                        obtain rfl := sinj h3
                        refine tsn ?_
                        exact SP_ren [(15500, 14500)] (_, _, _, _, _, _, _, _, _, _, _, _, _, _, _, _, _, _, _) rfl ⟨rfl, rfl, rfl, rfl, rfl, rfl, rfl, rfl, rfl, trivial⟩ ⟨rfl, trivial⟩ rfl
                      · replace h3 := bif_f h3 hb
                        refine TC_reg ?_
                        refine TL_ev env 2 rfl ⟨trivial, ⟨trivial, trivial⟩⟩ ?_
                        refine TL_end ?_
                        refine tbn ?_
                        obtain rfl := sinj h3
                        refine tsn ?_
                        exact SP_ren [(15500, 14500)] (_, _, _, _, _, _, _, _, _, _, _, _, _, _, _, _, _, _, _) rfl ⟨rfl, rfl, rfl, rfl, rfl, rfl, rfl, rfl, rfl, trivial⟩ ⟨rfl, trivial⟩ rfl
                · replace h3 := bif_f h3 hb
                  refine TC_skip ?_
                  obtain rfl := sinj h3
                  refine tsn ?_
                  exact SP_ren [(15500, 14500)] (_, _, _, _, _, _, _, _, _, _, _, _, _, _, _, _, _, _, _) rfl ⟨rfl, rfl, rfl, rfl, rfl, rfl, rfl, rfl, rfl, trivial⟩ ⟨rfl, trivial⟩ rfl
            · rintro ⟨x1227, x1228, x1229, x1230, x1231, x1232, x1233, x1234, x1235, x1236, x1237, x1238, x1239, x1240, x1241, x1242, x1243, x1244, x1245⟩ rfl
              refine TE_go ?_
              refine TC_seq ?_
              refine TC_seq ?_
              obtain ⟨z3, h3, h2⟩ := bnd h2
              refine TC_cut (α := Bool) (fun s => z3 = s) (fun s => [(0, .im (.slice (.pair (.int .i64) (.pair (.slice (.int .u8)) (.slice (.int .u8))))) p0), (3, .p 15600 0), (4, .im (.slice (.int .u8)) x1227), (5, .im (.slice (.int .u8)) x1228), (6, .bool x1229), (7, .bool x1230), (8, .int .i64 x948), (105, .bool s)]) (fun s => [(15600, some (.cells [.int .i64 x1232, .int .i64 x1233, .int .i64 x1234, .int .i64 x1235, .int .i64 x1236, .int .i64 x1237, .int .i64 x1238, .int .i64 x1239, .int .i64 x1240, .int .i64 x1241, .int .i64 x1242, .int .i64 x1243, .int .i64 x1244, .int .i64 x1245]))]) ?_ ?_
              · refine TC_reg ?_
                refine TL_ev env 1 rfl ⟨trivial, trivial⟩ ?_
                obtain ⟨⟨⟩, hr, h3⟩ := bnd h3
                refine TL_callB [(0, 15500)] (stream_Stream_State.ok0 hr) stream_Stream_State.fnb rfl ⟨trivial, ⟨trivial, trivial⟩⟩ rfl ⟨.inr rfl, trivial⟩ rfl ?_
                refine TL_ev env 4 rfl ⟨⟨trivial, ⟨trivial, trivial⟩⟩, ⟨trivial, ⟨⟨trivial, ⟨trivial, trivial⟩⟩, ⟨trivial, trivial⟩⟩⟩⟩ ?_
                refine TL_split 86 rfl (fun hb => ?_) (fun hb => ?_)
                · replace h3 := bif_t h3 hb
                  refine TL_gf (.bool false) rfl rfl rfl rfl rfl (by decide) ?_
                  refine TL_gf (.bool false) rfl rfl rfl rfl rfl (by decide) ?_
                  refine TL_gu (.bool false) rfl rfl rfl rfl rfl (by decide) ?_
                  refine TL_gu (.bool false) rfl rfl rfl rfl rfl (by decide) ?_
                  refine TL_gu (.bool false) rfl rfl rfl rfl rfl (by decide) ?_
                  refine TL_gu (.bool false) rfl rfl rfl rfl rfl (by decide) ?_
                  refine TL_gu (.bool false) rfl rfl rfl rfl rfl (by decide) ?_
                  refine TL_gf (.bool false) rfl rfl rfl rfl rfl (by decide) ?_
                  refine TL_ev env 2 rfl ⟨⟨trivial, ⟨trivial, fun e => e⟩⟩, ⟨trivial, trivial⟩⟩ ?_
                  refine TL_gf (.bool false) rfl rfl rfl rfl rfl (by decide) ?_
                  refine TL_gf (.bool false) rfl rfl rfl rfl rfl (by decide) ?_
                  refine TL_gf (.bool false) rfl rfl rfl rfl rfl (by decide) ?_
                  refine TL_gu (.bool false) rfl rfl rfl rfl rfl (by decide) ?_
                  refine TL_gu (.bool false) rfl rfl rfl rfl rfl (by decide) ?_
                  refine TL_gu (.bool false) rfl rfl rfl rfl rfl (by decide) ?_
                  refine TL_gu (.bool false) rfl rfl rfl rfl rfl (by decide) ?_
                  refine TL_gf (.bool false) rfl rfl rfl rfl rfl (by decide) ?_
                  refine TL_ev env 1 rfl ⟨⟨trivial, ⟨trivial, fun e => e⟩⟩, trivial⟩ ?_
                  refine TL_end ?_
                  obtain rfl := sinj h3
                  refine tsn ?_
                  exact SP_ren [(15600, 15500)] _ rfl ⟨rfl, rfl, rfl, rfl, rfl, rfl, rfl, rfl, trivial⟩ ⟨rfl, trivial⟩ rfl
                · replace h3 := bif_f h3 hb
                  refine TL_gt rfl rfl rfl rfl ?_
                  refine TL_ev env 1 rfl ⟨trivial, trivial⟩ ?_
                  refine TL_gt rfl rfl rfl rfl ?_
                  refine TL_ev env 1 rfl ⟨trivial, trivial⟩ ?_
                  refine TL_split 88 rfl (fun hb => ?_) (fun hb => ?_)
                  · replace h3 := bif_t h3 hb
                    refine TL_gt rfl rfl rfl rfl ?_
                    refine TL_ev env 1 rfl ⟨trivial, trivial⟩ ?_
                    refine TL_gt rfl rfl rfl rfl ?_
                    obtain ⟨⟨⟩, hr, h3⟩ := bnd h3
                    refine TL_callB [(0, 15500)] (stream_Stream_Epoch.ok0 hr) stream_Stream_Epoch.fnb rfl ⟨trivial, ⟨trivial, trivial⟩⟩ rfl ⟨.inr rfl, trivial⟩ rfl ?_
                    refine TL_gt rfl rfl rfl rfl ?_
                    refine TL_ev env 1 rfl ⟨trivial, trivial⟩ ?_
                    refine TL_gt rfl rfl rfl rfl ?_
                    refine TL_ev env 1 rfl ⟨⟨trivial, ⟨trivial, trivial⟩⟩, trivial⟩ ?_
                    refine TL_gt rfl rfl rfl rfl ?_
                    refine TL_ev env 1 rfl ⟨⟨trivial, ⟨trivial, trivial⟩⟩, trivial⟩ ?_
                    refine TL_gt rfl rfl rfl rfl ?_
                    refine TL_ev env 3 rfl ⟨⟨trivial, ⟨trivial, trivial⟩⟩, ⟨⟨trivial, ⟨trivial, trivial⟩⟩, ⟨trivial, trivial⟩⟩⟩ ?_
                    refine TL_split 96 rfl (fun hb => ?_) (fun hb => ?_)
                    · replace h3 := bif_t h3 hb
                      refine TL_gf (.bool false) rfl rfl rfl rfl rfl (by decide) ?_
                      refine TL_gf (.bool false) rfl rfl rfl rfl rfl (by decide) ?_
                      refine TL_gf (.bool false) rfl rfl rfl rfl rfl (by decide) ?_
                      refine TL_gu (.bool false) rfl rfl rfl rfl rfl (by decide) ?_
                      refine TL_gu (.bool false) rfl rfl rfl rfl rfl (by decide) ?_
                      refine TL_gu (.bool false) rfl rfl rfl rfl rfl (by decide) ?_
                      refine TL_gu (.bool false) rfl rfl rfl rfl rfl (by decide) ?_
                      refine TL_gf (.bool false) rfl rfl rfl rfl rfl (by decide) ?_
                      refine TL_ev env 1 rfl ⟨⟨trivial, ⟨trivial, fun e => e⟩⟩, trivial⟩ ?_
                      refine TL_end ?_
                      obtain rfl := sinj h3
                      refine tsn ?_
                      exact SP_ren [(15600, 15500)] _ rfl ⟨rfl, rfl, rfl, rfl, rfl, rfl, rfl, rfl, trivial⟩ ⟨rfl, trivial⟩ rfl
                    · replace h3 := bif_f h3 hb
                      refine TL_gt rfl rfl rfl rfl ?_
                      refine TL_ev env 1 rfl ⟨trivial, trivial⟩ ?_
                      refine TL_gt rfl rfl rfl rfl ?_
                      refine TL_ev env 1 rfl ⟨trivial, trivial⟩ ?_
                      refine TL_gt rfl rfl rfl rfl ?_
                      refine TL_ev env 1 rfl ⟨trivial, trivial⟩ ?_
                      refine TL_split 99 rfl (fun hb => ?_) (fun hb => ?_)
                      · replace h3 := bif_t h3 hb
                        refine TL_gt rfl rfl rfl rfl ?_
                        refine TL_ev env 1 rfl ⟨trivial, trivial⟩ ?_
                        refine TL_gt rfl rfl rfl rfl ?_
                        obtain ⟨⟨⟩, hr, h3⟩ := bnd h3
                        refine TL_callB [(0, 15500)] (stream_Stream_Epoch.ok0 hr) stream_Stream_Epoch.fnb rfl ⟨trivial, ⟨trivial, trivial⟩⟩ rfl ⟨.inr rfl, trivial⟩ rfl ?_
                        refine TL_gt rfl rfl rfl rfl ?_
                        refine TL_ev env 1 rfl ⟨trivial, trivial⟩ ?_
                        refine TL_gt rfl rfl rfl rfl ?_
                        refine TL_ev env 1 rfl ⟨⟨trivial, ⟨trivial, trivial⟩⟩, trivial⟩ ?_
                        refine TL_gt rfl rfl rfl rfl ?_
                        refine TL_ev env 2 rfl ⟨⟨trivial, ⟨trivial, trivial⟩⟩, ⟨⟨trivial, ⟨trivial, trivial⟩⟩, trivial⟩⟩ ?_
                        refine TL_end ?_
                        obtain rfl := sinj h3
                        refine tsn ?_
                        exact SP_ren [(15600, 15500)] _ rfl ⟨rfl, rfl, rfl, rfl, rfl, rfl, rfl, rfl, trivial⟩ ⟨rfl, trivial⟩ rfl
                      · replace h3 := bif_f h3 hb
                        refine TL_gf (.bool false) rfl rfl rfl rfl rfl (by decide) ?_
                        refine TL_gf (.bool false) rfl rfl rfl rfl rfl (by decide) ?_
                        refine TL_gf (.bool false) rfl rfl rfl rfl rfl (by decide) ?_
                        refine TL_gf (.bool false) rfl rfl rfl rfl rfl (by decide) ?_
                        refine TL_gt rfl rfl rfl rfl ?_
                        refine TL_ev env 2 rfl ⟨⟨trivial, ⟨fun e => e, trivial⟩⟩, ⟨⟨trivial, ⟨trivial, trivial⟩⟩, trivial⟩⟩ ?_
                        refine TL_end ?_
                        obtain rfl := sinj h3
                        refine tsn ?_
                        exact SP_ren [(15600, 15500)] _ rfl ⟨rfl, rfl, rfl, rfl, rfl, rfl, rfl, rfl, trivial⟩ ⟨rfl, trivial⟩ rfl
                  · replace h3 := bif_f h3 hb
                    refine TL_gf (.bool false) rfl rfl rfl rfl rfl (by decide) ?_
                    refine TL_gf (.bool false) rfl rfl rfl rfl rfl (by decide) ?_
                    refine TL_gf (.bool false) rfl rfl rfl rfl rfl (by decide) ?_
                    refine TL_gf (.bool false) rfl rfl rfl rfl rfl (by decide) ?_
                    refine TL_gf (.bool false) rfl rfl rfl rfl rfl (by decide) ?_
                    refine TL_gt rfl rfl rfl rfl ?_
                    refine TL_ev env 3 rfl ⟨⟨trivial, ⟨fun e => e, trivial⟩⟩, ⟨⟨trivial, ⟨trivial, trivial⟩⟩, ⟨trivial, trivial⟩⟩⟩ ?_
                    refine TL_gt rfl rfl rfl rfl ?_
                    refine TL_ev env 1 rfl ⟨trivial, trivial⟩ ?_
                    refine TL_gt rfl rfl rfl rfl ?_
                    refine TL_ev env 1 rfl ⟨trivial, trivial⟩ ?_
                    refine TL_gt rfl rfl rfl rfl ?_
                    refine TL_ev env 1 rfl ⟨trivial, trivial⟩ ?_
                    refine TL_split 99 rfl (fun hb => ?_) (fun hb => ?_)
                    · replace h3 := bif_t h3 hb
                      refine TL_gt rfl rfl rfl rfl ?_
                      refine TL_ev env 1 rfl ⟨trivial, trivial⟩ ?_
                      refine TL_gt rfl rfl rfl rfl ?_
                      obtain ⟨⟨⟩, hr, h3⟩ := bnd h3
                      refine TL_callB [(0, 15500)] (stream_Stream_Epoch.ok0 hr) stream_Stream_Epoch.fnb rfl ⟨trivial, ⟨trivial, trivial⟩⟩ rfl ⟨.inr rfl, trivial⟩ rfl ?_
                      refine TL_gt rfl rfl rfl rfl ?_
                      refine TL_ev env 1 rfl ⟨trivial, trivial⟩ ?_
                      refine TL_gt rfl rfl rfl rfl ?_
                      refine TL_ev env 1 rfl ⟨⟨trivial, ⟨trivial, trivial⟩⟩, trivial⟩ ?_
                      refine TL_gt rfl rfl rfl rfl ?_
                      refine TL_ev env 2 rfl ⟨⟨trivial, ⟨trivial, trivial⟩⟩, ⟨⟨trivial, ⟨trivial, trivial⟩⟩, trivial⟩⟩ ?_
                      refine TL_end ?_
                      obtain rfl := sinj h3
                      refine tsn ?_
                      exact SP_ren [(15600, 15500)] _ rfl ⟨rfl, rfl, rfl, rfl, rfl, rfl, rfl, rfl, trivial⟩ ⟨rfl, trivial⟩ rfl
                    · replace h3 := bif_f h3 hb
                      refine TL_gf (.bool false) rfl rfl rfl rfl rfl (by decide) ?_
                      refine TL_gf (.bool false) rfl rfl rfl rfl rfl (by decide) ?_
                      refine TL_gf (.bool false) rfl rfl rfl rfl rfl (by decide) ?_
                      refine TL_gf (.bool false) rfl rfl rfl rfl rfl (by decide) ?_
                      refine TL_gt rfl rfl rfl rfl ?_
                      refine TL_ev env 2 rfl ⟨⟨trivial, ⟨fun e => e, trivial⟩⟩, ⟨⟨trivial, ⟨trivial, trivial⟩⟩, trivial⟩⟩ ?_
                      refine TL_end ?_
                      obtain rfl := sinj h3
                      refine tsn ?_
                      exact SP_ren [(15600, 15500)] _ rfl ⟨rfl, rfl, rfl, rfl, rfl, rfl, rfl, rfl, trivial⟩ ⟨rfl, trivial⟩ rfl
              · rintro x1246 hz
                obtain rfl := hz.symm
                refine TE_go ?_
                refine TC_cond rfl (fun hb => ?_) (fun hb => ?_)
                · replace h2 := bif_t h2 hb
                  refine TC_seq ?_
                  refine TC_reg ?_
                  refine TL_ev env 1 rfl ⟨trivial, trivial⟩ ?_
                  refine TL_end ?_
                  refine TE_go ?_
                  refine TC_ret ?_
                  refine tsr ?_
                  refine tbr ?_
                  refine tsr ?_
                  refine tsr ?_
                  refine tsr ?_
                  refine tbr ?_
                  refine tsr ?_
                  refine tsr ?_
                  obtain rfl := sinj h2
                  obtain rfl := sinj h1
                  obtain rfl := sinj h0
                  exact TE_ret env rfl trivial trivial
                · replace h2 := bif_f h2 hb
                  refine TC_skip ?_
                  refine TE_go ?_
                  refine TC_seq ?_
                  refine TC_reg ?_
                  refine TL_ev env 1 rfl ⟨trivial, trivial⟩ ?_
                  refine TL_end ?_
                  refine TE_go ?_
                  refine TC_cond rfl (fun hb => ?_) (fun hb => ?_)
                  · replace h2 := bif_t h2 hb
                    refine TC_seq ?_
                    refine TC_reg ?_
                    refine TL_ev env 1 rfl ⟨trivial, trivial⟩ ?_
                    obtain ⟨⟨r1247, r1248, r1249, r1250, r1251, r1252, r1253, r1254, r1255, r1256, r1257, r1258, r1259, r1260, r1261, r1262⟩, hr, h2⟩ := bnd h2
                    refine TL_callB [] (caps_Parse.ok0 hr) caps_Parse.fnb rfl ⟨trivial, ⟨trivial, trivial⟩⟩ rfl trivial rfl ?_
                    refine TL_ev env 6 rfl ⟨trivial, ⟨trivial, ⟨trivial, ⟨trivial, ⟨⟨trivial, trivial⟩, ⟨trivial, trivial⟩⟩⟩⟩⟩⟩ ?_
                    refine TL_end ?_
                    refine TE_go ?_
                    refine TC_seq ?_
                    refine TC_reg ?_
                    refine TL_ev env 1 rfl ⟨trivial, trivial⟩ ?_
                    obtain ⟨⟨r1263, r1264, r1265, r1266, r1267, r1268, r1269, r1270, r1271, r1272, r1273, r1274, r1275, r1276, r1277, r1278⟩, hr, h2⟩ := bnd h2
                    refine TL_callB [] (caps_Parse.ok0 hr) caps_Parse.fnb rfl ⟨trivial, ⟨trivial, trivial⟩⟩ rfl trivial rfl ?_
                    refine TL_ev env 6 rfl ⟨trivial, ⟨trivial, ⟨trivial, ⟨trivial, ⟨⟨trivial, trivial⟩, ⟨trivial, trivial⟩⟩⟩⟩⟩⟩ ?_
                    refine TL_end ?_
                    refine TE_go ?_
                    refine TC_seq ?_
                    obtain ⟨z3, h3, h2⟩ := bnd h2
                    refine TC_cut (α := Bool) (fun s => z3 = s) (fun s => [(0, .im (.slice (.pair (.int .i64) (.pair (.slice (.int .u8)) (.slice (.int .u8))))) p0), (3, .p 15700 0), (4, .im (.slice (.int .u8)) x1227), (5, .im (.slice (.int .u8)) x1228), (6, .bool x1229), (7, .bool x1230), (8, .int .i64 x948), (140, .bool s)]) (fun s => [(15700, some (.cells [.int .i64 x1232, .int .i64 x1233, .int .i64 x1234, .int .i64 x1235, .int .i64 x1236, .int .i64 x1237, .int .i64 x1238, .int .i64 x1239, .int .i64 x1240, .int .i64 x1241, .int .i64 x1242, .int .i64 x1243, .int .i64 x1244, .int .i64 x1245]))]) ?_ ?_
                    · refine TC_renw (A' := [(0, .im (.slice (.pair (.int .i64) (.pair (.slice (.int .u8)) (.slice (.int .u8))))) _), (3, .p 15600 0), (4, .im (.slice (.int .u8)) _), (5, .im (.slice (.int .u8)) _), (6, .bool _), (7, .bool _), (8, .int .i64 _), (11, .p 1011 0), (12, .int .i64 _), (13, .p 1013 0), (14, .int .i64 _)]) (L' := [(15600, some (.cells [.int .i64 _, .int .i64 _, .int .i64 _, .int .i64 _, .int .i64 _, .int .i64 _, .int .i64 _, .int .i64 _, .int .i64 _, .int .i64 _, .int .i64 _, .int .i64 _, .int .i64 _, .int .i64 _])), (1011, some (.cells [.int .i64 _, .int .i64 _, .int .i64 _, .int .i64 _, .int .i64 _, .int .i64 _, .int .i64 _, .int .i64 _, .int .i64 _, .int .i64 _, .int .i64 _, .int .i64 _, .int .i64 _, .int .i64 _, .int .i64 _])), (1013, some (.cells [.int .i64 _, .int .i64 _, .int .i64 _, .int .i64 _, .int .i64 _, .int .i64 _, .int .i64 _, .int .i64 _, .int .i64 _, .int .i64 _, .int .i64 _, .int .i64 _, .int .i64 _, .int .i64 _, .int .i64 _]))]) [] ⟨rfl, rfl, rfl, rfl, rfl, rfl, rfl, rfl, rfl, rfl, rfl, trivial⟩ ⟨rfl, rfl, rfl, trivial⟩ rfl ?_
                      refine TC_drawR ⟨_, fun i => ([[], [0], [1, 0], [2, 1, 0], [3, 2, 1, 0], [4, 3, 2, 1, 0], [5, 4, 3, 2, 1, 0], [6, 5, 4, 3, 2, 1, 0], [6, 5, 4, 3, 2, 1, 0], [8, 6, 5, 4, 3, 2, 1, 0], [6, 5, 4, 3, 2, 1, 0], [10, 9, 8, 6, 5, 4, 3, 2, 1, 0], [11, 10, 9, 8, 7, 6, 5, 4, 3, 2, 1, 0], [12, 11, 10, 9, 8, 7, 6, 5, 4, 3, 2, 1, 0], [13, 12, 11, 10, 9, 8, 7, 6, 5, 4, 3, 2, 1, 0], [14, 13, 12, 11, 10, 9, 8, 7, 6, 5, 4, 3, 2, 1, 0], [15, 14, 13, 12, 11, 10, 9, 8, 7, 6, 5, 4, 3, 2, 1, 0], [15, 14, 13, 12, 11, 10, 9, 8, 7, 6, 5, 4, 3, 2, 1, 0], [17, 15, 14, 13, 12, 11, 10, 9, 8, 7, 6, 5, 4, 3, 2, 1, 0], [15, 14, 13, 12, 11, 10, 9, 8, 7, 6, 5, 4, 3, 2, 1, 0], [19, 18, 17, 15, 14, 13, 12, 11, 10, 9, 8, 7, 6, 5, 4, 3, 2, 1, 0], [20, 19, 18, 17, 16, 15, 14, 13, 12, 11, 10, 9, 8, 7, 6, 5, 4, 3, 2, 1, 0], [21, 20, 19, 18, 17, 16, 15, 14, 13, 12, 11, 10, 9, 8, 7, 6, 5, 4, 3, 2, 1, 0], [22, 21, 20, 19, 18, 17, 16, 15, 14, 13, 12, 11, 10, 9, 8, 7, 6, 5, 4, 3, 2, 1, 0]] : List (List Nat)).getD i [], fun i => ([[], [], [], [], [], [], [], [], [], [15600], [], [15600], [], [], [], [], [], [], [15600], [], [15600], [], [], []] : List (List Nat)).getD i [], fun i => ([[], [], [], [], [], [], [], [], [], [], [], [], [], [], [], [], [], [], [], [], [], [], [], []] : List (List Nat)).getD i []⟩ (fun i => ([[], [], [], [], [], [], [], [15600], [], [], [15600], [], [], [], [], [], [15600], [], [], [15600], [], [], [], []] : List (List Nat)).getD i []) (by kernel_rfl) (by kernel_rfl) ?_
                      refine AJR_ev env 1 rfl (Nat.le_of_ble_eq_true rfl) rfl trivial ?_
                      refine AJR_ev env 2 rfl (Nat.le_of_ble_eq_true rfl) rfl ⟨trivial, ⟨trivial, trivial⟩⟩ ?_
                      refine AJR_ev env 3 rfl (Nat.le_of_ble_eq_true rfl) rfl trivial ?_
                      refine AJR_ev env 4 rfl (Nat.le_of_ble_eq_true rfl) rfl (fun eg => trivial) ?_
                      refine AJR_ev env 5 rfl (Nat.le_of_ble_eq_true rfl) rfl (fun eg => ⟨fun e => e, ⟨trivial, trivial⟩⟩) ?_
                      refine AJR_ev env 6 rfl (Nat.le_of_ble_eq_true rfl) rfl ⟨trivial, ⟨trivial, fun e => e⟩⟩ ?_
                      refine AJR_ev env 7 rfl (Nat.le_of_ble_eq_true rfl) rfl trivial ?_
                      refine bif_split h3 (fun hb1287 h3 => ?_) (fun hb1287 h3 => ?_)
                      · refine AJR_gskip (.bool false) 8 rfl (Nat.le_of_ble_eq_true rfl) hb1287 rfl rfl rfl rfl rfl rfl (by decide) ?_
                        refine AJR_gskip (.bool false) 9 rfl (Nat.le_of_ble_eq_true rfl) hb1287 rfl rfl rfl rfl rfl rfl (by decide) ?_
                        refine AJR_gskip (.bool false) 10 rfl (Nat.le_of_ble_eq_true rfl) hb1287 rfl rfl rfl rfl rfl rfl (by decide) ?_
                        refine AJR_gskip (.bool false) 11 rfl (Nat.le_of_ble_eq_true rfl) hb1287 rfl rfl rfl rfl rfl rfl (by decide) ?_
                        refine AJR_gskip (.bool false) 12 rfl (Nat.le_of_ble_eq_true rfl) hb1287 rfl rfl rfl rfl rfl rfl (by decide) ?_
                        refine AJR_gskip (.bool false) 13 rfl (Nat.le_of_ble_eq_true rfl) hb1287 rfl rfl rfl rfl rfl rfl (by decide) ?_
                        refine AJR_gskip (.bool false) 14 rfl (Nat.le_of_ble_eq_true rfl) hb1287 rfl rfl rfl rfl rfl rfl (by decide) ?_
                        refine AJR_ev env 15 rfl (Nat.le_of_ble_eq_true rfl) rfl ⟨trivial, ⟨trivial, fun e => (ftf ((congrArg Bool.not hb1287).symm.trans e)).elim⟩⟩ ?_
                        refine AJR_ev env 16 rfl (Nat.le_of_ble_eq_true rfl) rfl trivial ?_
                        refine bif_split h3 (fun hb1289 h3 => ?_) (fun hb1289 h3 => ?_)
                        · refine AJR_gskip (.bool false) 17 rfl (Nat.le_of_ble_eq_true rfl) hb1289 rfl rfl rfl rfl rfl rfl (by decide) ?_
                          refine AJR_gskip (.bool false) 18 rfl (Nat.le_of_ble_eq_true rfl) hb1289 rfl rfl rfl rfl rfl rfl (by decide) ?_
                          refine AJR_gskip (.bool false) 19 rfl (Nat.le_of_ble_eq_true rfl) hb1289 rfl rfl rfl rfl rfl rfl (by decide) ?_
                          refine AJR_gskip (.bool false) 20 rfl (Nat.le_of_ble_eq_true rfl) hb1289 rfl rfl rfl rfl rfl rfl (by decide) ?_
                          refine AJR_gskip (.bool false) 21 rfl (Nat.le_of_ble_eq_true rfl) hb1289 rfl rfl rfl rfl rfl rfl (by decide) ?_
                          refine AJR_gskip (.bool false) 22 rfl (Nat.le_of_ble_eq_true rfl) hb1289 rfl rfl rfl rfl rfl rfl (by decide) ?_
                          refine AJR_gskip (.bool false) 23 rfl (Nat.le_of_ble_eq_true rfl) hb1289 rfl rfl rfl rfl rfl rfl (by decide) ?_
                          refine AJR_ev env 24 rfl (Nat.le_of_ble_eq_true rfl) rfl ⟨trivial, ⟨trivial, fun e => (ftf ((congrArg Bool.not hb1289).symm.trans e)).elim⟩⟩ ?_
                          refine AJR_end rfl rfl rfl ?_
                          obtain rfl := sinj h3
                          refine tsn ?_
                          exact SP_ren [(15700, 15600)] _ rfl ⟨rfl, rfl, rfl, rfl, rfl, rfl, rfl, rfl, trivial⟩ ⟨rfl, trivial⟩ rfl
                        · refine AJR_gev env 17 rfl (Nat.le_of_ble_eq_true rfl) hb1289 rfl rfl rfl rfl rfl rfl ⟨trivial, trivial⟩ ?_
                          refine AJR_gev env 18 rfl (Nat.le_of_ble_eq_true rfl) hb1289 rfl rfl rfl rfl rfl rfl trivial ?_
                          obtain ⟨⟨⟩, hr, h3⟩ := bnd h3
                          refine AJR_gcall 19 rfl (Nat.le_of_ble_eq_true rfl) hb1289 [(0, 15600)] rfl rfl rfl rfl rfl (stream_Stream_Format.ok0 hr) stream_Stream_Format.fnb rfl ⟨trivial, ⟨trivial, trivial⟩⟩ rfl ⟨.inr rfl, trivial⟩ rfl ?_
                          refine AJR_gev env 20 rfl (Nat.le_of_ble_eq_true rfl) hb1289 rfl rfl rfl rfl rfl rfl trivial ?_
                          obtain ⟨⟨⟩, hr, h3⟩ := bnd h3
                          refine AJR_gcall 21 rfl (Nat.le_of_ble_eq_true rfl) hb1289 [(0, 15600)] rfl rfl rfl rfl rfl (stream_Stream_Link.ok0 hr) stream_Stream_Link.fnb rfl ⟨trivial, ⟨trivial, trivial⟩⟩ rfl ⟨.inr rfl, trivial⟩ rfl ?_
                          obtain ⟨r1291, hr, h3⟩ := bnd h3
                          refine AJR_gcall 22 rfl (Nat.le_of_ble_eq_true rfl) hb1289 [] rfl rfl rfl rfl rfl (caps_Allows.ok0 hr) caps_Allows.fnb rfl ⟨trivial, ⟨trivial, ⟨trivial, ⟨trivial, trivial⟩⟩⟩⟩ rfl trivial rfl ?_
                          refine AJR_gev env 23 rfl (Nat.le_of_ble_eq_true rfl) hb1289 rfl rfl rfl rfl rfl rfl trivial ?_
                          refine AJR_ev env 24 rfl (Nat.le_of_ble_eq_true rfl) rfl ⟨trivial, ⟨trivial, trivial⟩⟩ ?_
                          refine AJR_end rfl rfl rfl ?_
                          obtain rfl := sinj h3
                          refine tsn ?_
                          exact SP_ren [(15700, 15600)] _ rfl ⟨rfl, rfl, rfl, rfl, rfl, rfl, rfl, rfl, trivial⟩ ⟨rfl, trivial⟩ rfl
                      · refine AJR_gev env 8 rfl (Nat.le_of_ble_eq_true rfl) hb1287 rfl rfl rfl rfl rfl rfl ⟨trivial, trivial⟩ ?_
                        refine AJR_gev env 9 rfl (Nat.le_of_ble_eq_true rfl) hb1287 rfl rfl rfl rfl rfl rfl trivial ?_
                        obtain ⟨⟨⟩, hr, h3⟩ := bnd h3
                        refine AJR_gcall 10 rfl (Nat.le_of_ble_eq_true rfl) hb1287 [(0, 15600)] rfl rfl rfl rfl rfl (stream_Stream_Format.ok0 hr) stream_Stream_Format.fnb rfl ⟨trivial, ⟨trivial, trivial⟩⟩ rfl ⟨.inr rfl, trivial⟩ rfl ?_
                        refine AJR_gev env 11 rfl (Nat.le_of_ble_eq_true rfl) hb1287 rfl rfl rfl rfl rfl rfl trivial ?_
                        obtain ⟨⟨⟩, hr, h3⟩ := bnd h3
                        refine AJR_gcall 12 rfl (Nat.le_of_ble_eq_true rfl) hb1287 [(0, 15600)] rfl rfl rfl rfl rfl (stream_Stream_Link.ok0 hr) stream_Stream_Link.fnb rfl ⟨trivial, ⟨trivial, trivial⟩⟩ rfl ⟨.inr rfl, trivial⟩ rfl ?_
                        obtain ⟨r1293, hr, h3⟩ := bnd h3
                        refine AJR_gcall 13 rfl (Nat.le_of_ble_eq_true rfl) hb1287 [] rfl rfl rfl rfl rfl (caps_Allows.ok0 hr) caps_Allows.fnb rfl ⟨trivial, ⟨trivial, ⟨trivial, ⟨trivial, trivial⟩⟩⟩⟩ rfl trivial rfl ?_
                        refine AJR_gev env 14 rfl (Nat.le_of_ble_eq_true rfl) hb1287 rfl rfl rfl rfl rfl rfl trivial ?_
                        refine AJR_ev env 15 rfl (Nat.le_of_ble_eq_true rfl) rfl ⟨trivial, ⟨trivial, trivial⟩⟩ ?_
                        refine AJR_ev env 16 rfl (Nat.le_of_ble_eq_true rfl) rfl trivial ?_
                        refine bif_split h3 (fun hb1295 h3 => ?_) (fun hb1295 h3 => ?_)
                        · refine AJR_gskip (.bool false) 17 rfl (Nat.le_of_ble_eq_true rfl) hb1295 rfl rfl rfl rfl rfl rfl (by decide) ?_
                          refine AJR_gskip (.bool false) 18 rfl (Nat.le_of_ble_eq_true rfl) hb1295 rfl rfl rfl rfl rfl rfl (by decide) ?_
                          refine AJR_gskip (.bool false) 19 rfl (Nat.le_of_ble_eq_true rfl) hb1295 rfl rfl rfl rfl rfl rfl (by decide) ?_
                          refine AJR_gskip (.bool false) 20 rfl (Nat.le_of_ble_eq_true rfl) hb1295 rfl rfl rfl rfl rfl rfl (by decide) ?_
                          refine AJR_gskip (.bool false) 21 rfl (Nat.le_of_ble_eq_true rfl) hb1295 rfl rfl rfl rfl rfl rfl (by decide) ?_
                          refine AJR_gskip (.bool false) 22 rfl (Nat.le_of_ble_eq_true rfl) hb1295 rfl rfl rfl rfl rfl rfl (by decide) ?_
                          refine AJR_gskip (.bool false) 23 rfl (Nat.le_of_ble_eq_true rfl) hb1295 rfl rfl rfl rfl rfl rfl (by decide) ?_
                          refine AJR_ev env 24 rfl (Nat.le_of_ble_eq_true rfl) rfl ⟨trivial, ⟨trivial, fun e => (ftf ((congrArg Bool.not hb1295).symm.trans e)).elim⟩⟩ ?_
                          refine AJR_end rfl rfl rfl ?_
                          obtain rfl := sinj h3
                          refine tsn ?_
                          exact SP_ren [(15700, 15600)] _ rfl ⟨rfl, rfl, rfl, rfl, rfl, rfl, rfl, rfl, trivial⟩ ⟨rfl, trivial⟩ rfl
                        · refine AJR_gev env 17 rfl (Nat.le_of_ble_eq_true rfl) hb1295 rfl rfl rfl rfl rfl rfl ⟨trivial, trivial⟩ ?_
                          refine AJR_gev env 18 rfl (Nat.le_of_ble_eq_true rfl) hb1295 rfl rfl rfl rfl rfl rfl trivial ?_
                          obtain ⟨⟨⟩, hr, h3⟩ := bnd h3
                          refine AJR_gcall 19 rfl (Nat.le_of_ble_eq_true rfl) hb1295 [(0, 15600)] rfl rfl rfl rfl rfl (stream_Stream_Format.ok0 hr) stream_Stream_Format.fnb rfl ⟨trivial, ⟨trivial, trivial⟩⟩ rfl ⟨.inr rfl, trivial⟩ rfl ?_
                          refine AJR_gev env 20 rfl (Nat.le_of_ble_eq_true rfl) hb1295 rfl rfl rfl rfl rfl rfl trivial ?_
                          obtain ⟨⟨⟩, hr, h3⟩ := bnd h3
                          refine AJR_gcall 21 rfl (Nat.le_of_ble_eq_true rfl) hb1295 [(0, 15600)] rfl rfl rfl rfl rfl (stream_Stream_Link.ok0 hr) stream_Stream_Link.fnb rfl ⟨trivial, ⟨trivial, trivial⟩⟩ rfl ⟨.inr rfl, trivial⟩ rfl ?_
                          obtain ⟨r1297, hr, h3⟩ := bnd h3
                          refine AJR_gcall 22 rfl (Nat.le_of_ble_eq_true rfl) hb1295 [] rfl rfl rfl rfl rfl (caps_Allows.ok0 hr) caps_Allows.fnb rfl ⟨trivial, ⟨trivial, ⟨trivial, ⟨trivial, trivial⟩⟩⟩⟩ rfl trivial rfl ?_
                          refine AJR_gev env 23 rfl (Nat.le_of_ble_eq_true rfl) hb1295 rfl rfl rfl rfl rfl rfl trivial ?_
                          refine AJR_ev env 24 rfl (Nat.le_of_ble_eq_true rfl) rfl ⟨trivial, ⟨trivial, trivial⟩⟩ ?_
                          refine AJR_end rfl rfl rfl ?_
                          obtain rfl := sinj h3
                          refine tsn ?_
                          exact SP_ren [(15700, 15600)] _ rfl ⟨rfl, rfl, rfl, rfl, rfl, rfl, rfl, rfl, trivial⟩ ⟨rfl, trivial⟩ rfl
                    · rintro x1285 hz
                      obtain rfl := hz.symm
                      refine TE_go ?_
                      refine TC_cond rfl (fun hb => ?_) (fun hb => ?_)
                      · replace h2 := bif_t h2 hb
                        refine TC_seq ?_
                        refine TC_reg ?_
                        refine TL_ev env 1 rfl ⟨trivial, trivial⟩ ?_
                        refine TL_end ?_
                        refine TE_go ?_
                        refine TC_ret ?_
                        refine tbr ?_
                        refine tsr ?_
                        refine tsr ?_
                        refine tsr ?_
                        refine tbr ?_
                        refine tsr ?_
                        refine tsr ?_
                        obtain rfl := sinj h2
                        obtain rfl := sinj h1
                        obtain rfl := sinj h0
                        exact TE_ret env rfl trivial trivial
                      · replace h2 := bif_f h2 hb
                        refine TC_skip ?_
                        refine tbn ?_
                        obtain rfl := sinj h2
                        refine tsn ?_
                        exact SP_ren [(15400, 15700)] (_, _, _, _, _, _, _, _, _, _, _, _, _, _, _, _, _, _) rfl ⟨rfl, rfl, rfl, rfl, rfl, rfl, rfl, trivial⟩ ⟨rfl, trivial⟩ rfl
                  · replace h2 := bif_f h2 hb
                    refine TC_skip ?_
                    refine tbn ?_
                    obtain rfl := sinj h2
                    refine tsn ?_
                    exact SP_ren [(15400, 15600)] (_, _, _, _, _, _, _, _, _, _, _, _, _, _, _, _, _, _) rfl ⟨rfl, rfl, rfl, rfl, rfl, rfl, rfl, trivial⟩ ⟨rfl, trivial⟩ rfl
          · rintro ⟨x1177, x1178, x1179, x1180, x1181, x1182, x1183, x1184, x1185, x1186, x1187, x1188, x1189, x1190, x1191, x1192, x1193, x1194⟩ rfl
            refine TE_go ?_
            refine TC_reg ?_
            refine TL_ev env 3 rfl ⟨trivial, ⟨⟨trivial, ⟨trivial, trivial⟩⟩, ⟨trivial, trivial⟩⟩⟩ ?_
            refine TL_end ?_
            refine tsn ?_
            exact TE_nextr [(14500, 15400)] n (Nat.lt_succ_self n) (_, _, _, _, _, _, _, _, _, _, _, _, _, _, _, _, _, _, _) h1 ⟨rfl, rfl, rfl, rfl, rfl, rfl, rfl, trivial⟩ ⟨rfl, trivial⟩ rfl
        · replace h1 := bif_f h1 hb
          refine TC_exit ?_
          refine tsx ?_
          refine tsx ?_
          refine tbe ?_
          obtain rfl := sinj h1
          refine tsn ?_
          exact SP_ren [] () rfl trivial trivial rfl
      · rintro ⟨⟩ rfl
        refine TE_go ?_
        refine TC_seq ?_
        refine TC_reg ?_
        refine TL_ev env 1 rfl ⟨trivial, trivial⟩ ?_
        refine TL_end ?_
        refine TE_go ?_
        refine TC_ret ?_
        obtain rfl := sinj h0
        exact TE_ret env rfl trivial trivial
theorem psalterylaw25_StreamOnly.ok0 {K : Nat} {p0 : List ((Int × (List (Int) × List (Int))))} {q0 : Bool} (h0 : psalterylaw25_StreamOnly K p0 = some q0) : Fn Try.prog 19 [.im (.slice (.pair (.int .i64) (.pair (.slice (.int .u8)) (.slice (.int .u8))))) p0] [] (.bool q0) [] := psalterylaw25_StreamOnly.ok h0
theorem psalterylaw25_StreamOnly.fnb : fnb Try.prog 19 = true := fnb_of Try.func19 rfl
end Go.Fo
