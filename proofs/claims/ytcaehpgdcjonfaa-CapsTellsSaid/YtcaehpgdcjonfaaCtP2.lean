/- Each call comes to the function that is written for it. -/
import Derived.Test.YtcaehpgdcjonfaaCtT
import Derived.Test.YtcaehpgdcjonfaaCtF
import Derived.Test.YtcaehpgdcjonfaaCtP0
import Derived.Test.YtcaehpgdcjonfaaCtP1
namespace Go.Fo
open Go.Proofs
set_option maxRecDepth 20000
set_option maxHeartbeats 4000000
def caps_Bytes.res (_p0 : Int) (_p1 : Int) (_p2 : Int) (_p3 : Int) (_p4 : Int) (_p5 : Int) (_p6 : Int) (_p7 : Int) (_p8 : Int) (_p9 : Int) (_p10 : Int) (_p11 : Int) (_p12 : Int) (_p13 : Int) (_p14 : Int) : (Int) ⊕ ((List (Int))) → MV
  | .inl q0 => .tup [.nils, .int .i64 q0]
  | .inr q0 => .tup [.im (.slice (.int .u8)) q0, .int .i64 0]
def caps_Bytes.out (_p0 : Int) (_p1 : Int) (_p2 : Int) (_p3 : Int) (_p4 : Int) (_p5 : Int) (_p6 : Int) (_p7 : Int) (_p8 : Int) (_p9 : Int) (_p10 : Int) (_p11 : Int) (_p12 : Int) (_p13 : Int) (_p14 : Int) : (Int) ⊕ ((List (Int))) → List (Nat × Option MObj)
  | .inl _ => []
  | .inr _ => []
theorem caps_Bytes.ok {K : Nat} {p0 : Int} {p1 : Int} {p2 : Int} {p3 : Int} {p4 : Int} {p5 : Int} {p6 : Int} {p7 : Int} {p8 : Int} {p9 : Int} {p10 : Int} {p11 : Int} {p12 : Int} {p13 : Int} {p14 : Int} {r : (Int) ⊕ ((List (Int)))} (h0 : caps_Bytes K p0 p1 p2 p3 p4 p5 p6 p7 p8 p9 p10 p11 p12 p13 p14 = some r) : Fn Try.prog 41 [.agg [.int .i64 p0, .int .i64 p1, .int .i64 p2, .int .i64 p3, .int .i64 p4, .int .i64 p5, .int .i64 p6, .int .i64 p7, .int .i64 p8, .int .i64 p9, .int .i64 p10, .int .i64 p11, .int .i64 p12, .int .i64 p13, .int .i64 p14]] [] (caps_Bytes.res p0 p1 p2 p3 p4 p5 p6 p7 p8 p9 p10 p11 p12 p13 p14 r) (caps_Bytes.out p0 p1 p2 p3 p4 p5 p6 p7 p8 p9 p10 p11 p12 p13 p14 r) := by
  refine Fn_of Try.func41 rfl (Nat.le_of_ble_eq_true rfl) fun Γ => ?_
  refine TC_seq ?_
  refine TC_reg ?_
  refine TL_ev env 3 rfl ⟨trivial, ⟨trivial, ⟨trivial, trivial⟩⟩⟩ ?_
  refine TL_end ?_
  refine TE_go ?_
  refine TC_seq ?_
  refine TC_seq ?_
  refine TC_reg ?_
  refine TL_ev env 1 rfl ⟨⟨trivial, trivial⟩, trivial⟩ ?_
  obtain ⟨r11, hr, h0⟩ := bnd h0
  refine TL_callB [] (caps_Check.ok0 hr) caps_Check.fnb rfl ⟨trivial, ⟨trivial, trivial⟩⟩ rfl trivial rfl ?_
  refine TL_ev env 1 rfl ⟨trivial, trivial⟩ ?_
  refine TL_end ?_
  refine TE_go ?_
  refine TC_seq ?_
  refine TC_reg ?_
  refine TL_ev env 2 rfl ⟨trivial, ⟨⟨trivial, ⟨trivial, trivial⟩⟩, trivial⟩⟩ ?_
  refine TL_end ?_
  refine TE_go ?_
  refine TC_cond rfl (fun hb => ?_) (fun hb => ?_)
  · replace h0 := bif_t h0 hb
    refine TC_seq ?_
    refine TC_reg ?_
    refine TL_ev env 3 rfl ⟨trivial, ⟨trivial, ⟨trivial, trivial⟩⟩⟩ ?_
    refine TL_end ?_
    refine TE_go ?_
    refine TC_ret ?_
    refine tsr ?_
    obtain rfl := sinj h0
    exact TE_ret env rfl trivial trivial
  · replace h0 := bif_f h0 hb
    refine TC_skip ?_
    refine TE_go ?_
    refine TC_seq ?_
    refine TC_reg ?_
    refine TL_ev env 1 rfl ⟨trivial, trivial⟩ ?_
    refine TL_end ?_
    refine TE_go ?_
    refine TC_seq ?_
    refine TC_seq ?_
    refine TC_reg ?_
    refine TL_ev env 2 rfl ⟨⟨trivial, ⟨trivial, ⟨trivial, trivial⟩⟩⟩, ⟨trivial, trivial⟩⟩ ?_
    refine TL_end ?_
    refine TE_go ?_
    obtain ⟨z1, h1, h0⟩ := bnd h0
    refine TC_cut (α := (List (Int))) (fun s => z1 = s) (fun s => [(5, .sl 11400)]) (fun s => [(11400, some (.rows (.int .u8) s))]) ?_ ?_
    · refine TC_blk ?_
      refine TC_loopU ?_
      refine TE_lb ?_
      refine TC_seq ?_
      refine TC_reg ?_
      refine TL_ev env 1 rfl ⟨⟨trivial, ⟨trivial, trivial⟩⟩, trivial⟩ ?_
      refine TL_end ?_
      refine TE_go ?_
      refine TC_seq ?_
      refine TC_cond rfl (fun hb => ?_) (fun hb => ?_)
      · refine TC_skip ?_
        refine TE_go ?_
        refine TC_seq ?_
        obtain ⟨z2, h2, h1⟩ := bnd h1
        refine TC_cut (α := Bool × (List (Int))) (fun s => z2 = s) (fun s => [(1, .p 11600 0), (5, .sl 11601), (16, .agg [.int .i64 1, .int .i64 2, .int .i64 3]), (17, .int .i64 0), (23, .p 11600 0), (24, .agg [.int .i64 p0, .int .i64 p1, .int .i64 p2, .int .i64 p3, .int .i64 p4, .int .i64 p5, .int .i64 p6, .int .i64 p7]), (25, .agg [.int .i64 0, .int .i64 0, .int .i64 0, .int .i64 0, .int .i64 0, .int .i64 0, .int .i64 0, .int .i64 0]), (26, .bool s.1)]) (fun s => [(11600, some (.cells [.int .i64 p0, .int .i64 p1, .int .i64 p2, .int .i64 p3, .int .i64 p4, .int .i64 p5, .int .i64 p6, .int .i64 p7, .int .i64 p8, .int .i64 p9, .int .i64 p10, .int .i64 p11, .int .i64 p12, .int .i64 p13, .int .i64 p14])), (11601, some (.rows (.int .u8) s.2))]) ?_ ?_
        · refine TC_blk ?_
          refine TC_seq ?_
          refine TC_reg ?_
          refine TL_ev env 2 rfl ⟨⟨trivial, ⟨trivial, ⟨(by decide), (by decide)⟩⟩⟩, ⟨trivial, trivial⟩⟩ ?_
          refine TL_end ?_
          refine TE_go ?_
          refine TC_seq ?_
          refine TC_seq ?_
          refine TC_reg ?_
          refine TL_ev env 3 rfl ⟨trivial, ⟨⟨trivial, ⟨trivial, trivial⟩⟩, ⟨trivial, trivial⟩⟩⟩ ?_
          refine TL_gt rfl rfl rfl rfl ?_
          refine TL_ev env 1 rfl ⟨trivial, trivial⟩ ?_
          refine TL_gt rfl rfl rfl rfl ?_
          refine TL_ev env 1 rfl ⟨⟨trivial, trivial⟩, trivial⟩ ?_
          refine TL_gt rfl rfl rfl rfl ?_
          refine TL_ev env 1 rfl ⟨trivial, trivial⟩ ?_
          refine TL_gt rfl rfl rfl rfl ?_
          refine TL_ev env 12 rfl ⟨⟨trivial, ⟨trivial, trivial⟩⟩, ⟨⟨trivial, ⟨trivial, trivial⟩⟩, ⟨trivial, ⟨fun eg => trivial, ⟨fun eg => ⟨fun e => e, ⟨trivial, trivial⟩⟩, ⟨fun eg => fun e => e, ⟨fun eg => trivial, ⟨fun eg => ⟨fun e => e, trivial⟩, ⟨fun eg => trivial, ⟨fun eg => ⟨fun e => e, ⟨fun e => e, trivial⟩⟩, ⟨fun eg => ⟨fun e => e, ⟨fun e => (ftf e).elim, trivial⟩⟩, ⟨⟨trivial, ⟨trivial, fun e => e⟩⟩, trivial⟩⟩⟩⟩⟩⟩⟩⟩⟩⟩⟩⟩ ?_
          refine TL_end ?_
          refine TE_go ?_
          refine TC_cond rfl (fun hb => ?_) (fun hb => ?_)
          · replace h2 := bif_t h2 hb
            refine TC_exit ?_
            refine tsx ?_
            refine tbe ?_
            obtain rfl := sinj h2
            refine tsn ?_
            refine TE_own 5 7005 (.int .u8) rfl (by decide) rfl rfl ?_
            exact SP_ren [(11600, 1001), (11601, 7005)] (_, _) rfl ⟨rfl, rfl, rfl, rfl, rfl, rfl, rfl, rfl, trivial⟩ ⟨rfl, rfl, trivial⟩ rfl
          · replace h2 := bif_f h2 hb
            refine TC_skip ?_
            refine TE_go ?_
            refine TC_seq ?_
            refine TC_reg ?_
            refine TL_ev env 1 rfl ⟨trivial, trivial⟩ ?_
            obtain ⟨⟨⟩, hr, h2⟩ := bnd h2
            refine TL_callB [(0, 1001), (1000, 500390)] (caps_Caps_fields_2.ok0 hr) caps_Caps_fields_2.fnb rfl ⟨trivial, ⟨trivial, ⟨trivial, trivial⟩⟩⟩ rfl ⟨.inr rfl, trivial⟩ rfl ?_
            refine TL_ev env 1 rfl ⟨trivial, trivial⟩ ?_
            refine TL_end ?_
            refine TE_go ?_
            refine TC_seq ?_
            refine TC_reg ?_
            obtain ⟨g, h2⟩ := gd_t h2
            refine TL_ev env 9 rfl ⟨trivial, ⟨trivial, ⟨trivial, ⟨trivial, ⟨⟨trivial, trivial⟩, ⟨trivial, ⟨⟨trivial, ⟨trivial, trivial⟩⟩, ⟨⟨⟨trivial, ⟨trivial, trivial⟩⟩, g⟩, ⟨trivial, trivial⟩⟩⟩⟩⟩⟩⟩⟩⟩ ?_
            refine TL_end ?_
            refine TE_go ?_
            refine TC_seq ?_
            refine TC_reg ?_
            refine TL_ev env 3 rfl ⟨trivial, ⟨⟨trivial, trivial⟩, ⟨trivial, trivial⟩⟩⟩ ?_
            refine TL_end ?_
            refine TE_go ?_
            obtain ⟨z3, h3, h2⟩ := bnd h2
            refine TC_cut (α := (List (Int))) (fun s => z3 = s) (fun s => [(1, .p 12200 0), (5, .sl 12201), (16, .agg [.int .i64 1, .int .i64 2, .int .i64 3]), (17, .int .i64 0), (23, .p 12200 0), (24, .agg [.int .i64 p0, .int .i64 p1, .int .i64 p2, .int .i64 p3, .int .i64 p4, .int .i64 p5, .int .i64 p6, .int .i64 p7]), (25, .agg [.int .i64 0, .int .i64 0, .int .i64 0, .int .i64 0, .int .i64 0, .int .i64 0, .int .i64 0, .int .i64 0]), (26, .bool ((p0 == 0) && ((p1 == 0) && ((p2 == 0) && ((p3 == 0) && ((p4 == 0) && ((p5 == 0) && ((p6 == 0) && (p7 == 0)))))))))]) (fun s => [(12200, some (.cells [.int .i64 p0, .int .i64 p1, .int .i64 p2, .int .i64 p3, .int .i64 p4, .int .i64 p5, .int .i64 p6, .int .i64 p7, .int .i64 p8, .int .i64 p9, .int .i64 p10, .int .i64 p11, .int .i64 p12, .int .i64 p13, .int .i64 p14])), (12201, some (.rows (.int .u8) s))]) ?_ ?_
            · refine TC_blk ?_
              refine TC_loopU ?_
              refine TE_lb ?_
              refine TC_seq ?_
              refine TC_reg ?_
              refine TL_ev env 1 rfl ⟨⟨trivial, ⟨trivial, trivial⟩⟩, trivial⟩ ?_
              refine TL_end ?_
              refine TE_go ?_
              refine TC_seq ?_
              refine TC_cond rfl (fun hb => ?_) (fun hb => ?_)
              · refine TC_skip ?_
                refine TE_go ?_
                refine TC_seq ?_
                refine TC_blk ?_
                refine TC_seq ?_
                refine TC_reg ?_
                refine TL_ev env 3 rfl ⟨⟨trivial, ⟨trivial, ⟨(by decide), (by decide)⟩⟩⟩, ⟨⟨trivial, trivial⟩, ⟨trivial, trivial⟩⟩⟩ ?_
                refine TL_end ?_
                refine TE_go ?_
                refine TC_reg ?_
                obtain ⟨g, h3⟩ := gd_t h3
                refine TL_ev env 8 rfl ⟨trivial, ⟨trivial, ⟨trivial, ⟨⟨trivial, trivial⟩, ⟨trivial, ⟨⟨trivial, trivial⟩, ⟨⟨⟨trivial, ⟨trivial, trivial⟩⟩, g⟩, ⟨trivial, trivial⟩⟩⟩⟩⟩⟩⟩⟩ ?_
                refine TL_end ?_
                refine tbn ?_
                refine TE_go ?_
                refine TC_reg ?_
                refine TL_ev env 2 rfl ⟨⟨trivial, ⟨trivial, trivial⟩⟩, ⟨trivial, trivial⟩⟩ ?_
                refine TL_end ?_
                refine tsn ?_
                refine TE_renw (A' := [(1, .p 1081000 0), (5, .sl 1081001), (16, .agg [.int .i64 1, .int .i64 2, .int .i64 3]), (17, .int .i64 0), (23, .p 1081000 0), (24, .agg [.int .i64 _, .int .i64 _, .int .i64 _, .int .i64 _, .int .i64 _, .int .i64 _, .int .i64 _, .int .i64 _]), (25, .agg [.int .i64 0, .int .i64 0, .int .i64 0, .int .i64 0, .int .i64 0, .int .i64 0, .int .i64 0, .int .i64 0]), (26, .bool _), (48, .hd 1081002 8), (49, .int .i64 8), (50, .int .i64 1)]) (L' := [(1081000, some (.cells [.int .i64 _, .int .i64 _, .int .i64 _, .int .i64 _, .int .i64 _, .int .i64 _, .int .i64 _, .int .i64 _, .int .i64 _, .int .i64 _, .int .i64 _, .int .i64 _, .int .i64 _, .int .i64 _, .int .i64 _])), (1081001, some (.rows (.int .u8) _)), (1081002, some (.cells [.p 1081000 0, .p 1081000 1, .p 1081000 2, .p 1081000 3, .p 1081000 4, .p 1081000 5, .p 1081000 6, .p 1081000 7]))]) [(1081000, 1001), (1081001, 1060), (1081002, 500390)] ⟨rfl, rfl, rfl, rfl, rfl, rfl, rfl, rfl, rfl, rfl, rfl, trivial⟩ ⟨rfl, rfl, rfl, trivial⟩ rfl ?_
                refine TE_lb ?_
                refine TC_seq ?_
                refine TC_reg ?_
                refine TL_ev env 1 rfl ⟨⟨trivial, ⟨trivial, trivial⟩⟩, trivial⟩ ?_
                refine TL_end ?_
                refine TE_go ?_
                refine TC_seq ?_
                refine TC_cond rfl (fun hb => ?_) (fun hb => ?_)
                · refine TC_skip ?_
                  refine TE_go ?_
                  refine TC_seq ?_
                  refine TC_blk ?_
                  refine TC_seq ?_
                  refine TC_reg ?_
                  refine TL_ev env 3 rfl ⟨⟨trivial, ⟨trivial, ⟨(by decide), (by decide)⟩⟩⟩, ⟨⟨trivial, trivial⟩, ⟨trivial, trivial⟩⟩⟩ ?_
                  refine TL_end ?_
                  refine TE_go ?_
                  refine TC_reg ?_
                  obtain ⟨g, h3⟩ := gd_t h3
                  refine TL_ev env 8 rfl ⟨trivial, ⟨trivial, ⟨trivial, ⟨⟨trivial, trivial⟩, ⟨trivial, ⟨⟨trivial, trivial⟩, ⟨⟨⟨trivial, ⟨trivial, trivial⟩⟩, g⟩, ⟨trivial, trivial⟩⟩⟩⟩⟩⟩⟩⟩ ?_
                  refine TL_end ?_
                  refine tbn ?_
                  refine TE_go ?_
                  refine TC_reg ?_
                  refine TL_ev env 2 rfl ⟨⟨trivial, ⟨trivial, trivial⟩⟩, ⟨trivial, trivial⟩⟩ ?_
                  refine TL_end ?_
                  refine tsn ?_
                  refine TE_renw (A' := [(1, .p 1082000 0), (5, .sl 1082001), (16, .agg [.int .i64 1, .int .i64 2, .int .i64 3]), (17, .int .i64 0), (23, .p 1082000 0), (24, .agg [.int .i64 _, .int .i64 _, .int .i64 _, .int .i64 _, .int .i64 _, .int .i64 _, .int .i64 _, .int .i64 _]), (25, .agg [.int .i64 0, .int .i64 0, .int .i64 0, .int .i64 0, .int .i64 0, .int .i64 0, .int .i64 0, .int .i64 0]), (26, .bool _), (48, .hd 1082002 8), (49, .int .i64 8), (50, .int .i64 2)]) (L' := [(1082000, some (.cells [.int .i64 _, .int .i64 _, .int .i64 _, .int .i64 _, .int .i64 _, .int .i64 _, .int .i64 _, .int .i64 _, .int .i64 _, .int .i64 _, .int .i64 _, .int .i64 _, .int .i64 _, .int .i64 _, .int .i64 _])), (1082001, some (.rows (.int .u8) _)), (1082002, some (.cells [.p 1082000 0, .p 1082000 1, .p 1082000 2, .p 1082000 3, .p 1082000 4, .p 1082000 5, .p 1082000 6, .p 1082000 7]))]) [(1082000, 1081000), (1082001, 1060), (1082002, 1081002)] ⟨rfl, rfl, rfl, rfl, rfl, rfl, rfl, rfl, rfl, rfl, rfl, trivial⟩ ⟨rfl, rfl, rfl, trivial⟩ rfl ?_
                  refine TE_lb ?_
                  refine TC_seq ?_
                  refine TC_reg ?_
                  refine TL_ev env 1 rfl ⟨⟨trivial, ⟨trivial, trivial⟩⟩, trivial⟩ ?_
                  refine TL_end ?_
                  refine TE_go ?_
                  refine TC_seq ?_
                  refine TC_cond rfl (fun hb => ?_) (fun hb => ?_)
                  · refine TC_skip ?_
                    refine TE_go ?_
                    refine TC_seq ?_
                    refine TC_blk ?_
                    refine TC_seq ?_
                    refine TC_reg ?_
                    refine TL_ev env 3 rfl ⟨⟨trivial, ⟨trivial, ⟨(by decide), (by decide)⟩⟩⟩, ⟨⟨trivial, trivial⟩, ⟨trivial, trivial⟩⟩⟩ ?_
                    refine TL_end ?_
                    refine TE_go ?_
                    refine TC_reg ?_
                    obtain ⟨g, h3⟩ := gd_t h3
                    refine TL_ev env 8 rfl ⟨trivial, ⟨trivial, ⟨trivial, ⟨⟨trivial, trivial⟩, ⟨trivial, ⟨⟨trivial, trivial⟩, ⟨⟨⟨trivial, ⟨trivial, trivial⟩⟩, g⟩, ⟨trivial, trivial⟩⟩⟩⟩⟩⟩⟩⟩ ?_
                    refine TL_end ?_
                    refine tbn ?_
                    refine TE_go ?_
                    refine TC_reg ?_
                    refine TL_ev env 2 rfl ⟨⟨trivial, ⟨trivial, trivial⟩⟩, ⟨trivial, trivial⟩⟩ ?_
                    refine TL_end ?_
                    refine tsn ?_
                    refine TE_renw (A' := [(1, .p 1083000 0), (5, .sl 1083001), (16, .agg [.int .i64 1, .int .i64 2, .int .i64 3]), (17, .int .i64 0), (23, .p 1083000 0), (24, .agg [.int .i64 _, .int .i64 _, .int .i64 _, .int .i64 _, .int .i64 _, .int .i64 _, .int .i64 _, .int .i64 _]), (25, .agg [.int .i64 0, .int .i64 0, .int .i64 0, .int .i64 0, .int .i64 0, .int .i64 0, .int .i64 0, .int .i64 0]), (26, .bool _), (48, .hd 1083002 8), (49, .int .i64 8), (50, .int .i64 3)]) (L' := [(1083000, some (.cells [.int .i64 _, .int .i64 _, .int .i64 _, .int .i64 _, .int .i64 _, .int .i64 _, .int .i64 _, .int .i64 _, .int .i64 _, .int .i64 _, .int .i64 _, .int .i64 _, .int .i64 _, .int .i64 _, .int .i64 _])), (1083001, some (.rows (.int .u8) _)), (1083002, some (.cells [.p 1083000 0, .p 1083000 1, .p 1083000 2, .p 1083000 3, .p 1083000 4, .p 1083000 5, .p 1083000 6, .p 1083000 7]))]) [(1083000, 1082000), (1083001, 1060), (1083002, 1082002)] ⟨rfl, rfl, rfl, rfl, rfl, rfl, rfl, rfl, rfl, rfl, rfl, trivial⟩ ⟨rfl, rfl, rfl, trivial⟩ rfl ?_
                    refine TE_lb ?_
                    refine TC_seq ?_
                    refine TC_reg ?_
                    refine TL_ev env 1 rfl ⟨⟨trivial, ⟨trivial, trivial⟩⟩, trivial⟩ ?_
                    refine TL_end ?_
                    refine TE_go ?_
                    refine TC_seq ?_
                    refine TC_cond rfl (fun hb => ?_) (fun hb => ?_)
                    · refine TC_skip ?_
                      refine TE_go ?_
                      refine TC_seq ?_
                      refine TC_blk ?_
                      refine TC_seq ?_
                      refine TC_reg ?_
                      refine TL_ev env 3 rfl ⟨⟨trivial, ⟨trivial, ⟨(by decide), (by decide)⟩⟩⟩, ⟨⟨trivial, trivial⟩, ⟨trivial, trivial⟩⟩⟩ ?_
                      refine TL_end ?_
                      refine TE_go ?_
                      refine TC_reg ?_
                      obtain ⟨g, h3⟩ := gd_t h3
                      refine TL_ev env 8 rfl ⟨trivial, ⟨trivial, ⟨trivial, ⟨⟨trivial, trivial⟩, ⟨trivial, ⟨⟨trivial, trivial⟩, ⟨⟨⟨trivial, ⟨trivial, trivial⟩⟩, g⟩, ⟨trivial, trivial⟩⟩⟩⟩⟩⟩⟩⟩ ?_
                      refine TL_end ?_
                      refine tbn ?_
                      refine TE_go ?_
                      refine TC_reg ?_
                      refine TL_ev env 2 rfl ⟨⟨trivial, ⟨trivial, trivial⟩⟩, ⟨trivial, trivial⟩⟩ ?_
                      refine TL_end ?_
                      refine tsn ?_
                      refine TE_renw (A' := [(1, .p 1084000 0), (5, .sl 1084001), (16, .agg [.int .i64 1, .int .i64 2, .int .i64 3]), (17, .int .i64 0), (23, .p 1084000 0), (24, .agg [.int .i64 _, .int .i64 _, .int .i64 _, .int .i64 _, .int .i64 _, .int .i64 _, .int .i64 _, .int .i64 _]), (25, .agg [.int .i64 0, .int .i64 0, .int .i64 0, .int .i64 0, .int .i64 0, .int .i64 0, .int .i64 0, .int .i64 0]), (26, .bool _), (48, .hd 1084002 8), (49, .int .i64 8), (50, .int .i64 4)]) (L' := [(1084000, some (.cells [.int .i64 _, .int .i64 _, .int .i64 _, .int .i64 _, .int .i64 _, .int .i64 _, .int .i64 _, .int .i64 _, .int .i64 _, .int .i64 _, .int .i64 _, .int .i64 _, .int .i64 _, .int .i64 _, .int .i64 _])), (1084001, some (.rows (.int .u8) _)), (1084002, some (.cells [.p 1084000 0, .p 1084000 1, .p 1084000 2, .p 1084000 3, .p 1084000 4, .p 1084000 5, .p 1084000 6, .p 1084000 7]))]) [(1084000, 1083000), (1084001, 1060), (1084002, 1083002)] ⟨rfl, rfl, rfl, rfl, rfl, rfl, rfl, rfl, rfl, rfl, rfl, trivial⟩ ⟨rfl, rfl, rfl, trivial⟩ rfl ?_
                      refine TE_lb ?_
                      refine TC_seq ?_
                      refine TC_reg ?_
                      refine TL_ev env 1 rfl ⟨⟨trivial, ⟨trivial, trivial⟩⟩, trivial⟩ ?_
                      refine TL_end ?_
                      refine TE_go ?_
                      refine TC_seq ?_
                      refine TC_cond rfl (fun hb => ?_) (fun hb => ?_)
                      · refine TC_skip ?_
                        refine TE_go ?_
                        refine TC_seq ?_
                        refine TC_blk ?_
                        refine TC_seq ?_
                        refine TC_reg ?_
                        refine TL_ev env 3 rfl ⟨⟨trivial, ⟨trivial, ⟨(by decide), (by decide)⟩⟩⟩, ⟨⟨trivial, trivial⟩, ⟨trivial, trivial⟩⟩⟩ ?_
                        refine TL_end ?_
                        refine TE_go ?_
                        refine TC_reg ?_
                        obtain ⟨g, h3⟩ := gd_t h3
                        refine TL_ev env 8 rfl ⟨trivial, ⟨trivial, ⟨trivial, ⟨⟨trivial, trivial⟩, ⟨trivial, ⟨⟨trivial, trivial⟩, ⟨⟨⟨trivial, ⟨trivial, trivial⟩⟩, g⟩, ⟨trivial, trivial⟩⟩⟩⟩⟩⟩⟩⟩ ?_
                        refine TL_end ?_
                        refine tbn ?_
                        refine TE_go ?_
                        refine TC_reg ?_
                        refine TL_ev env 2 rfl ⟨⟨trivial, ⟨trivial, trivial⟩⟩, ⟨trivial, trivial⟩⟩ ?_
                        refine TL_end ?_
                        refine tsn ?_
                        refine TE_renw (A' := [(1, .p 1085000 0), (5, .sl 1085001), (16, .agg [.int .i64 1, .int .i64 2, .int .i64 3]), (17, .int .i64 0), (23, .p 1085000 0), (24, .agg [.int .i64 _, .int .i64 _, .int .i64 _, .int .i64 _, .int .i64 _, .int .i64 _, .int .i64 _, .int .i64 _]), (25, .agg [.int .i64 0, .int .i64 0, .int .i64 0, .int .i64 0, .int .i64 0, .int .i64 0, .int .i64 0, .int .i64 0]), (26, .bool _), (48, .hd 1085002 8), (49, .int .i64 8), (50, .int .i64 5)]) (L' := [(1085000, some (.cells [.int .i64 _, .int .i64 _, .int .i64 _, .int .i64 _, .int .i64 _, .int .i64 _, .int .i64 _, .int .i64 _, .int .i64 _, .int .i64 _, .int .i64 _, .int .i64 _, .int .i64 _, .int .i64 _, .int .i64 _])), (1085001, some (.rows (.int .u8) _)), (1085002, some (.cells [.p 1085000 0, .p 1085000 1, .p 1085000 2, .p 1085000 3, .p 1085000 4, .p 1085000 5, .p 1085000 6, .p 1085000 7]))]) [(1085000, 1084000), (1085001, 1060), (1085002, 1084002)] ⟨rfl, rfl, rfl, rfl, rfl, rfl, rfl, rfl, rfl, rfl, rfl, trivial⟩ ⟨rfl, rfl, rfl, trivial⟩ rfl ?_
                        refine TE_lb ?_
                        refine TC_seq ?_
                        refine TC_reg ?_
                        refine TL_ev env 1 rfl ⟨⟨trivial, ⟨trivial, trivial⟩⟩, trivial⟩ ?_
                        refine TL_end ?_
                        refine TE_go ?_
                        refine TC_seq ?_
                        refine TC_cond rfl (fun hb => ?_) (fun hb => ?_)
                        · refine TC_skip ?_
                          refine TE_go ?_
                          refine TC_seq ?_
                          refine TC_blk ?_
                          refine TC_seq ?_
                          refine TC_reg ?_
                          refine TL_ev env 3 rfl ⟨⟨trivial, ⟨trivial, ⟨(by decide), (by decide)⟩⟩⟩, ⟨⟨trivial, trivial⟩, ⟨trivial, trivial⟩⟩⟩ ?_
                          refine TL_end ?_
                          refine TE_go ?_
                          refine TC_reg ?_
                          obtain ⟨g, h3⟩ := gd_t h3
                          refine TL_ev env 8 rfl ⟨trivial, ⟨trivial, ⟨trivial, ⟨⟨trivial, trivial⟩, ⟨trivial, ⟨⟨trivial, trivial⟩, ⟨⟨⟨trivial, ⟨trivial, trivial⟩⟩, g⟩, ⟨trivial, trivial⟩⟩⟩⟩⟩⟩⟩⟩ ?_
                          refine TL_end ?_
                          refine tbn ?_
                          refine TE_go ?_
                          refine TC_reg ?_
                          refine TL_ev env 2 rfl ⟨⟨trivial, ⟨trivial, trivial⟩⟩, ⟨trivial, trivial⟩⟩ ?_
                          refine TL_end ?_
                          refine tsn ?_
                          refine TE_renw (A' := [(1, .p 1086000 0), (5, .sl 1086001), (16, .agg [.int .i64 1, .int .i64 2, .int .i64 3]), (17, .int .i64 0), (23, .p 1086000 0), (24, .agg [.int .i64 _, .int .i64 _, .int .i64 _, .int .i64 _, .int .i64 _, .int .i64 _, .int .i64 _, .int .i64 _]), (25, .agg [.int .i64 0, .int .i64 0, .int .i64 0, .int .i64 0, .int .i64 0, .int .i64 0, .int .i64 0, .int .i64 0]), (26, .bool _), (48, .hd 1086002 8), (49, .int .i64 8), (50, .int .i64 6)]) (L' := [(1086000, some (.cells [.int .i64 _, .int .i64 _, .int .i64 _, .int .i64 _, .int .i64 _, .int .i64 _, .int .i64 _, .int .i64 _, .int .i64 _, .int .i64 _, .int .i64 _, .int .i64 _, .int .i64 _, .int .i64 _, .int .i64 _])), (1086001, some (.rows (.int .u8) _)), (1086002, some (.cells [.p 1086000 0, .p 1086000 1, .p 1086000 2, .p 1086000 3, .p 1086000 4, .p 1086000 5, .p 1086000 6, .p 1086000 7]))]) [(1086000, 1085000), (1086001, 1060), (1086002, 1085002)] ⟨rfl, rfl, rfl, rfl, rfl, rfl, rfl, rfl, rfl, rfl, rfl, trivial⟩ ⟨rfl, rfl, rfl, trivial⟩ rfl ?_
                          refine TE_lb ?_
                          refine TC_seq ?_
                          refine TC_reg ?_
                          refine TL_ev env 1 rfl ⟨⟨trivial, ⟨trivial, trivial⟩⟩, trivial⟩ ?_
                          refine TL_end ?_
                          refine TE_go ?_
                          refine TC_seq ?_
                          refine TC_cond rfl (fun hb => ?_) (fun hb => ?_)
                          · refine TC_skip ?_
                            refine TE_go ?_
                            refine TC_seq ?_
                            refine TC_blk ?_
                            refine TC_seq ?_
                            refine TC_reg ?_
                            refine TL_ev env 3 rfl ⟨⟨trivial, ⟨trivial, ⟨(by decide), (by decide)⟩⟩⟩, ⟨⟨trivial, trivial⟩, ⟨trivial, trivial⟩⟩⟩ ?_
                            refine TL_end ?_
                            refine TE_go ?_
                            refine TC_reg ?_
                            obtain ⟨g, h3⟩ := gd_t h3
                            refine TL_ev env 8 rfl ⟨trivial, ⟨trivial, ⟨trivial, ⟨⟨trivial, trivial⟩, ⟨trivial, ⟨⟨trivial, trivial⟩, ⟨⟨⟨trivial, ⟨trivial, trivial⟩⟩, g⟩, ⟨trivial, trivial⟩⟩⟩⟩⟩⟩⟩⟩ ?_
                            refine TL_end ?_
                            refine tbn ?_
                            refine TE_go ?_
                            refine TC_reg ?_
                            refine TL_ev env 2 rfl ⟨⟨trivial, ⟨trivial, trivial⟩⟩, ⟨trivial, trivial⟩⟩ ?_
                            refine TL_end ?_
                            refine tsn ?_
                            refine TE_renw (A' := [(1, .p 1087000 0), (5, .sl 1087001), (16, .agg [.int .i64 1, .int .i64 2, .int .i64 3]), (17, .int .i64 0), (23, .p 1087000 0), (24, .agg [.int .i64 _, .int .i64 _, .int .i64 _, .int .i64 _, .int .i64 _, .int .i64 _, .int .i64 _, .int .i64 _]), (25, .agg [.int .i64 0, .int .i64 0, .int .i64 0, .int .i64 0, .int .i64 0, .int .i64 0, .int .i64 0, .int .i64 0]), (26, .bool _), (48, .hd 1087002 8), (49, .int .i64 8), (50, .int .i64 7)]) (L' := [(1087000, some (.cells [.int .i64 _, .int .i64 _, .int .i64 _, .int .i64 _, .int .i64 _, .int .i64 _, .int .i64 _, .int .i64 _, .int .i64 _, .int .i64 _, .int .i64 _, .int .i64 _, .int .i64 _, .int .i64 _, .int .i64 _])), (1087001, some (.rows (.int .u8) _)), (1087002, some (.cells [.p 1087000 0, .p 1087000 1, .p 1087000 2, .p 1087000 3, .p 1087000 4, .p 1087000 5, .p 1087000 6, .p 1087000 7]))]) [(1087000, 1086000), (1087001, 1060), (1087002, 1086002)] ⟨rfl, rfl, rfl, rfl, rfl, rfl, rfl, rfl, rfl, rfl, rfl, trivial⟩ ⟨rfl, rfl, rfl, trivial⟩ rfl ?_
                            refine TE_lb ?_
                            refine TC_seq ?_
                            refine TC_reg ?_
                            refine TL_ev env 1 rfl ⟨⟨trivial, ⟨trivial, trivial⟩⟩, trivial⟩ ?_
                            refine TL_end ?_
                            refine TE_go ?_
                            refine TC_seq ?_
                            refine TC_cond rfl (fun hb => ?_) (fun hb => ?_)
                            · refine TC_skip ?_
                              refine TE_go ?_
                              refine TC_seq ?_
                              refine TC_blk ?_
                              refine TC_seq ?_
                              refine TC_reg ?_
                              refine TL_ev env 3 rfl ⟨⟨trivial, ⟨trivial, ⟨(by decide), (by decide)⟩⟩⟩, ⟨⟨trivial, trivial⟩, ⟨trivial, trivial⟩⟩⟩ ?_
                              refine TL_end ?_
                              refine TE_go ?_
                              refine TC_reg ?_
                              obtain ⟨g, h3⟩ := gd_t h3
                              refine TL_ev env 8 rfl ⟨trivial, ⟨trivial, ⟨trivial, ⟨⟨trivial, trivial⟩, ⟨trivial, ⟨⟨trivial, trivial⟩, ⟨⟨⟨trivial, ⟨trivial, trivial⟩⟩, g⟩, ⟨trivial, trivial⟩⟩⟩⟩⟩⟩⟩⟩ ?_
                              refine TL_end ?_
                              refine tbn ?_
                              refine TE_go ?_
                              refine TC_reg ?_
                              refine TL_ev env 2 rfl ⟨⟨trivial, ⟨trivial, trivial⟩⟩, ⟨trivial, trivial⟩⟩ ?_
                              refine TL_end ?_
                              refine tsn ?_
                              refine TE_renw (A' := [(1, .p 1088000 0), (5, .sl 1088001), (16, .agg [.int .i64 1, .int .i64 2, .int .i64 3]), (17, .int .i64 0), (23, .p 1088000 0), (24, .agg [.int .i64 _, .int .i64 _, .int .i64 _, .int .i64 _, .int .i64 _, .int .i64 _, .int .i64 _, .int .i64 _]), (25, .agg [.int .i64 0, .int .i64 0, .int .i64 0, .int .i64 0, .int .i64 0, .int .i64 0, .int .i64 0, .int .i64 0]), (26, .bool _), (48, .hd 1088002 8), (49, .int .i64 8), (50, .int .i64 8)]) (L' := [(1088000, some (.cells [.int .i64 _, .int .i64 _, .int .i64 _, .int .i64 _, .int .i64 _, .int .i64 _, .int .i64 _, .int .i64 _, .int .i64 _, .int .i64 _, .int .i64 _, .int .i64 _, .int .i64 _, .int .i64 _, .int .i64 _])), (1088001, some (.rows (.int .u8) _)), (1088002, some (.cells [.p 1088000 0, .p 1088000 1, .p 1088000 2, .p 1088000 3, .p 1088000 4, .p 1088000 5, .p 1088000 6, .p 1088000 7]))]) [(1088000, 1087000), (1088001, 1060), (1088002, 1087002)] ⟨rfl, rfl, rfl, rfl, rfl, rfl, rfl, rfl, rfl, rfl, rfl, trivial⟩ ⟨rfl, rfl, rfl, trivial⟩ rfl ?_
                              refine TE_lb ?_
                              refine TC_seq ?_
                              refine TC_reg ?_
                              refine TL_ev env 1 rfl ⟨⟨trivial, ⟨trivial, trivial⟩⟩, trivial⟩ ?_
                              refine TL_end ?_
                              refine TE_go ?_
                              refine TC_seq ?_
                              refine TC_cond rfl (fun hb => ?_) (fun hb => ?_)
                              · first | exact (ftf hb).elim | exact (tff hb).elim | exact absurd hb (by decide)
                              · refine TC_exit ?_
                                refine tsx ?_
                                refine tsx ?_
                                refine tbe ?_
                                obtain rfl := sinj h3
                                refine tsn ?_
                                exact SP_ren [(12200, 1088000), (12201, 1088001)] _ rfl ⟨rfl, rfl, rfl, rfl, rfl, rfl, rfl, rfl, trivial⟩ ⟨rfl, rfl, trivial⟩ rfl
                            · first | exact (ftf hb).elim | exact (tff hb).elim | exact absurd hb (by decide)
                          · first | exact (ftf hb).elim | exact (tff hb).elim | exact absurd hb (by decide)
                        · first | exact (ftf hb).elim | exact (tff hb).elim | exact absurd hb (by decide)
                      · first | exact (ftf hb).elim | exact (tff hb).elim | exact absurd hb (by decide)
                    · first | exact (ftf hb).elim | exact (tff hb).elim | exact absurd hb (by decide)
                  · first | exact (ftf hb).elim | exact (tff hb).elim | exact absurd hb (by decide)
                · first | exact (ftf hb).elim | exact (tff hb).elim | exact absurd hb (by decide)
              · first | exact (ftf hb).elim | exact (tff hb).elim | exact absurd hb (by decide)
            · rintro x46 hz
              obtain rfl := hz.symm
              refine tbn ?_
              obtain rfl := sinj h2
              refine tsn ?_
              exact SP_ren [(11600, 12200), (11601, 12201)] (_, _) rfl ⟨rfl, rfl, rfl, rfl, rfl, rfl, rfl, rfl, trivial⟩ ⟨rfl, rfl, trivial⟩ rfl
        · rintro ⟨x22, x23⟩ rfl
          refine TE_go ?_
          refine TC_reg ?_
          refine TL_ev env 2 rfl ⟨⟨trivial, ⟨trivial, trivial⟩⟩, ⟨trivial, trivial⟩⟩ ?_
          refine TL_end ?_
          refine tsn ?_
          refine TE_renw (A' := [(1, .p 1049000 0), (5, .sl 1049001), (16, .agg [.int .i64 1, .int .i64 2, .int .i64 3]), (17, .int .i64 1), (23, .p 1049000 0), (24, .agg [.int .i64 _, .int .i64 _, .int .i64 _, .int .i64 _, .int .i64 _, .int .i64 _, .int .i64 _, .int .i64 _]), (25, .agg [.int .i64 0, .int .i64 0, .int .i64 0, .int .i64 0, .int .i64 0, .int .i64 0, .int .i64 0, .int .i64 0]), (26, .bool _)]) (L' := [(1049000, some (.cells [.int .i64 _, .int .i64 _, .int .i64 _, .int .i64 _, .int .i64 _, .int .i64 _, .int .i64 _, .int .i64 _, .int .i64 _, .int .i64 _, .int .i64 _, .int .i64 _, .int .i64 _, .int .i64 _, .int .i64 _])), (1049001, some (.rows (.int .u8) _))]) [(1049000, 11600), (1049001, 11601)] ⟨rfl, rfl, rfl, rfl, rfl, rfl, rfl, rfl, trivial⟩ ⟨rfl, rfl, trivial⟩ rfl ?_
          refine TE_lb ?_
          refine TC_seq ?_
          refine TC_reg ?_
          refine TL_ev env 1 rfl ⟨⟨trivial, ⟨trivial, trivial⟩⟩, trivial⟩ ?_
          refine TL_end ?_
          refine TE_go ?_
          refine TC_seq ?_
          refine TC_cond rfl (fun hb => ?_) (fun hb => ?_)
          · refine TC_skip ?_
            refine TE_go ?_
            refine TC_seq ?_
            obtain ⟨z2, h2, h1⟩ := bnd h1
            refine TC_cut (α := Bool × (List (Int))) (fun s => z2 = s) (fun s => [(1, .p 11800 0), (5, .sl 11801), (16, .agg [.int .i64 1, .int .i64 2, .int .i64 3]), (17, .int .i64 1), (29, .int .i64 2), (30, .bool true), (31, .bool true), (32, .p 11800 8), (33, .agg [.int .i64 p8, .int .i64 p9, .int .i64 p10, .int .i64 p11, .int .i64 p12]), (34, .agg [.int .i64 0, .int .i64 0, .int .i64 0, .int .i64 0, .int .i64 0]), (35, .bool s.1), (36, .bool s.1)]) (fun s => [(11800, some (.cells [.int .i64 p0, .int .i64 p1, .int .i64 p2, .int .i64 p3, .int .i64 p4, .int .i64 p5, .int .i64 p6, .int .i64 p7, .int .i64 p8, .int .i64 p9, .int .i64 p10, .int .i64 p11, .int .i64 p12, .int .i64 p13, .int .i64 p14])), (11801, some (.rows (.int .u8) s.2))]) ?_ ?_
            · refine TC_blk ?_
              refine TC_seq ?_
              refine TC_reg ?_
              refine TL_ev env 2 rfl ⟨⟨trivial, ⟨trivial, ⟨(by decide), (by decide)⟩⟩⟩, ⟨trivial, trivial⟩⟩ ?_
              refine TL_end ?_
              refine TE_go ?_
              refine TC_seq ?_
              refine TC_seq ?_
              refine TC_reg ?_
              refine TL_ev env 3 rfl ⟨trivial, ⟨⟨trivial, ⟨trivial, trivial⟩⟩, ⟨trivial, trivial⟩⟩⟩ ?_
              refine TL_gf (.bool false) rfl rfl rfl rfl rfl (by decide) ?_
              refine TL_gf (.bool false) rfl rfl rfl rfl rfl (by decide) ?_
              refine TL_gf (.bool false) rfl rfl rfl rfl rfl (by decide) ?_
              refine TL_gf (.bool false) rfl rfl rfl rfl rfl (by decide) ?_
              refine TL_ev env 2 rfl ⟨⟨trivial, ⟨fun e => e, trivial⟩⟩, ⟨trivial, trivial⟩⟩ ?_
              refine TL_gt rfl rfl rfl rfl ?_
              refine TL_ev env 1 rfl ⟨trivial, trivial⟩ ?_
              refine TL_gt rfl rfl rfl rfl ?_
              refine TL_ev env 1 rfl ⟨⟨trivial, ⟨trivial, trivial⟩⟩, trivial⟩ ?_
              refine TL_gt rfl rfl rfl rfl ?_
              refine TL_ev env 1 rfl ⟨trivial, trivial⟩ ?_
              refine TL_gt rfl rfl rfl rfl ?_
              refine TL_ev env 1 rfl ⟨trivial, trivial⟩ ?_
              refine TL_gt rfl rfl rfl rfl ?_
              refine TL_ev env 1 rfl ⟨⟨trivial, trivial⟩, trivial⟩ ?_
              refine TL_gt rfl rfl rfl rfl ?_
              refine TL_ev env 1 rfl ⟨trivial, trivial⟩ ?_
              refine TL_gt rfl rfl rfl rfl ?_
              refine TL_ev env 1 rfl ⟨⟨trivial, ⟨trivial, trivial⟩⟩, trivial⟩ ?_
              refine TL_gt rfl rfl rfl rfl ?_
              refine TL_ev env 2 rfl ⟨⟨trivial, ⟨trivial, trivial⟩⟩, ⟨⟨trivial, ⟨trivial, trivial⟩⟩, trivial⟩⟩ ?_
              refine TL_end ?_
              refine TE_go ?_
              refine TC_cond rfl (fun hb => ?_) (fun hb => ?_)
              · replace h2 := bif_t h2 hb
                refine TC_exit ?_
                refine tsx ?_
                refine tbe ?_
                obtain rfl := sinj h2
                refine tsn ?_
                exact SP_ren [(11800, 1049000), (11801, 1049001)] (_, _) rfl ⟨rfl, rfl, rfl, rfl, rfl, rfl, rfl, rfl, rfl, rfl, rfl, rfl, trivial⟩ ⟨rfl, rfl, trivial⟩ rfl
              · replace h2 := bif_f h2 hb
                refine TC_skip ?_
                refine TE_go ?_
                refine TC_seq ?_
                refine TC_reg ?_
                refine TL_ev env 1 rfl ⟨trivial, trivial⟩ ?_
                obtain ⟨⟨⟩, hr, h2⟩ := bnd h2
                refine TL_callB [(0, 1049000), (1000, 500390)] (caps_Caps_fields_3.ok0 hr) caps_Caps_fields_3.fnb rfl ⟨trivial, ⟨trivial, ⟨trivial, trivial⟩⟩⟩ rfl ⟨.inr rfl, trivial⟩ rfl ?_
                refine TL_ev env 1 rfl ⟨trivial, trivial⟩ ?_
                refine TL_end ?_
                refine TE_go ?_
                refine TC_seq ?_
                refine TC_reg ?_
                obtain ⟨g, h2⟩ := gd_t h2
                refine TL_ev env 9 rfl ⟨trivial, ⟨trivial, ⟨trivial, ⟨trivial, ⟨⟨trivial, trivial⟩, ⟨trivial, ⟨⟨trivial, ⟨trivial, trivial⟩⟩, ⟨⟨⟨trivial, ⟨trivial, trivial⟩⟩, g⟩, ⟨trivial, trivial⟩⟩⟩⟩⟩⟩⟩⟩⟩ ?_
                refine TL_end ?_
                refine TE_go ?_
                refine TC_seq ?_
                refine TC_reg ?_
                refine TL_ev env 3 rfl ⟨trivial, ⟨⟨trivial, trivial⟩, ⟨trivial, trivial⟩⟩⟩ ?_
                refine TL_end ?_
                refine TE_go ?_
                obtain ⟨z3, h3, h2⟩ := bnd h2
                refine TC_cut (α := (List (Int))) (fun s => z3 = s) (fun s => [(1, .p 12100 0), (5, .sl 12101), (16, .agg [.int .i64 1, .int .i64 2, .int .i64 3]), (17, .int .i64 1), (29, .int .i64 2), (30, .bool true), (31, .bool true), (32, .p 12100 8), (33, .agg [.int .i64 p8, .int .i64 p9, .int .i64 p10, .int .i64 p11, .int .i64 p12]), (34, .agg [.int .i64 0, .int .i64 0, .int .i64 0, .int .i64 0, .int .i64 0]), (35, .bool ((p8 == 0) && ((p9 == 0) && ((p10 == 0) && ((p11 == 0) && (p12 == 0)))))), (36, .bool ((p8 == 0) && ((p9 == 0) && ((p10 == 0) && ((p11 == 0) && (p12 == 0))))))]) (fun s => [(12100, some (.cells [.int .i64 p0, .int .i64 p1, .int .i64 p2, .int .i64 p3, .int .i64 p4, .int .i64 p5, .int .i64 p6, .int .i64 p7, .int .i64 p8, .int .i64 p9, .int .i64 p10, .int .i64 p11, .int .i64 p12, .int .i64 p13, .int .i64 p14])), (12101, some (.rows (.int .u8) s))]) ?_ ?_
                · refine TC_blk ?_
                  refine TC_loopU ?_
                  refine TE_lb ?_
                  refine TC_seq ?_
                  refine TC_reg ?_
                  refine TL_ev env 1 rfl ⟨⟨trivial, ⟨trivial, trivial⟩⟩, trivial⟩ ?_
                  refine TL_end ?_
                  refine TE_go ?_
                  refine TC_seq ?_
                  refine TC_cond rfl (fun hb => ?_) (fun hb => ?_)
                  · refine TC_skip ?_
                    refine TE_go ?_
                    refine TC_seq ?_
                    refine TC_blk ?_
                    refine TC_seq ?_
                    refine TC_reg ?_
                    refine TL_ev env 3 rfl ⟨⟨trivial, ⟨trivial, ⟨(by decide), (by decide)⟩⟩⟩, ⟨⟨trivial, trivial⟩, ⟨trivial, trivial⟩⟩⟩ ?_
                    refine TL_end ?_
                    refine TE_go ?_
                    refine TC_reg ?_
                    obtain ⟨g, h3⟩ := gd_t h3
                    refine TL_ev env 8 rfl ⟨trivial, ⟨trivial, ⟨trivial, ⟨⟨trivial, trivial⟩, ⟨trivial, ⟨⟨trivial, trivial⟩, ⟨⟨⟨trivial, ⟨trivial, trivial⟩⟩, g⟩, ⟨trivial, trivial⟩⟩⟩⟩⟩⟩⟩⟩ ?_
                    refine TL_end ?_
                    refine tbn ?_
                    refine TE_go ?_
                    refine TC_reg ?_
                    refine TL_ev env 2 rfl ⟨⟨trivial, ⟨trivial, trivial⟩⟩, ⟨trivial, trivial⟩⟩ ?_
                    refine TL_end ?_
                    refine tsn ?_
                    refine TE_renw (A' := [(1, .p 1068000 0), (5, .sl 1068001), (16, .agg [.int .i64 1, .int .i64 2, .int .i64 3]), (17, .int .i64 1), (29, .int .i64 2), (30, .bool true), (31, .bool true), (32, .p 1068000 8), (33, .agg [.int .i64 _, .int .i64 _, .int .i64 _, .int .i64 _, .int .i64 _]), (34, .agg [.int .i64 0, .int .i64 0, .int .i64 0, .int .i64 0, .int .i64 0]), (35, .bool _), (36, .bool _), (48, .hd 1068002 5), (49, .int .i64 5), (50, .int .i64 1)]) (L' := [(1068000, some (.cells [.int .i64 _, .int .i64 _, .int .i64 _, .int .i64 _, .int .i64 _, .int .i64 _, .int .i64 _, .int .i64 _, .int .i64 _, .int .i64 _, .int .i64 _, .int .i64 _, .int .i64 _, .int .i64 _, .int .i64 _])), (1068001, some (.rows (.int .u8) _)), (1068002, some (.cells [.p 1068000 8, .p 1068000 9, .p 1068000 10, .p 1068000 11, .p 1068000 12]))]) [(1068000, 1049000), (1068001, 1060), (1068002, 500390)] ⟨rfl, rfl, rfl, rfl, rfl, rfl, rfl, rfl, rfl, rfl, rfl, rfl, rfl, rfl, rfl, trivial⟩ ⟨rfl, rfl, rfl, trivial⟩ rfl ?_
                    refine TE_lb ?_
                    refine TC_seq ?_
                    refine TC_reg ?_
                    refine TL_ev env 1 rfl ⟨⟨trivial, ⟨trivial, trivial⟩⟩, trivial⟩ ?_
                    refine TL_end ?_
                    refine TE_go ?_
                    refine TC_seq ?_
                    refine TC_cond rfl (fun hb => ?_) (fun hb => ?_)
                    · refine TC_skip ?_
                      refine TE_go ?_
                      refine TC_seq ?_
                      refine TC_blk ?_
                      refine TC_seq ?_
                      refine TC_reg ?_
                      refine TL_ev env 3 rfl ⟨⟨trivial, ⟨trivial, ⟨(by decide), (by decide)⟩⟩⟩, ⟨⟨trivial, trivial⟩, ⟨trivial, trivial⟩⟩⟩ ?_
                      refine TL_end ?_
                      refine TE_go ?_
                      refine TC_reg ?_
                      obtain ⟨g, h3⟩ := gd_t h3
                      refine TL_ev env 8 rfl ⟨trivial, ⟨trivial, ⟨trivial, ⟨⟨trivial, trivial⟩, ⟨trivial, ⟨⟨trivial, trivial⟩, ⟨⟨⟨trivial, ⟨trivial, trivial⟩⟩, g⟩, ⟨trivial, trivial⟩⟩⟩⟩⟩⟩⟩⟩ ?_
                      refine TL_end ?_
                      refine tbn ?_
                      refine TE_go ?_
                      refine TC_reg ?_
                      refine TL_ev env 2 rfl ⟨⟨trivial, ⟨trivial, trivial⟩⟩, ⟨trivial, trivial⟩⟩ ?_
                      refine TL_end ?_
                      refine tsn ?_
                      refine TE_renw (A' := [(1, .p 1069000 0), (5, .sl 1069001), (16, .agg [.int .i64 1, .int .i64 2, .int .i64 3]), (17, .int .i64 1), (29, .int .i64 2), (30, .bool true), (31, .bool true), (32, .p 1069000 8), (33, .agg [.int .i64 _, .int .i64 _, .int .i64 _, .int .i64 _, .int .i64 _]), (34, .agg [.int .i64 0, .int .i64 0, .int .i64 0, .int .i64 0, .int .i64 0]), (35, .bool _), (36, .bool _), (48, .hd 1069002 5), (49, .int .i64 5), (50, .int .i64 2)]) (L' := [(1069000, some (.cells [.int .i64 _, .int .i64 _, .int .i64 _, .int .i64 _, .int .i64 _, .int .i64 _, .int .i64 _, .int .i64 _, .int .i64 _, .int .i64 _, .int .i64 _, .int .i64 _, .int .i64 _, .int .i64 _, .int .i64 _])), (1069001, some (.rows (.int .u8) _)), (1069002, some (.cells [.p 1069000 8, .p 1069000 9, .p 1069000 10, .p 1069000 11, .p 1069000 12]))]) [(1069000, 1068000), (1069001, 1060), (1069002, 1068002)] ⟨rfl, rfl, rfl, rfl, rfl, rfl, rfl, rfl, rfl, rfl, rfl, rfl, rfl, rfl, rfl, trivial⟩ ⟨rfl, rfl, rfl, trivial⟩ rfl ?_
                      refine TE_lb ?_
                      refine TC_seq ?_
                      refine TC_reg ?_
                      refine TL_ev env 1 rfl ⟨⟨trivial, ⟨trivial, trivial⟩⟩, trivial⟩ ?_
                      refine TL_end ?_
                      refine TE_go ?_
                      refine TC_seq ?_
                      refine TC_cond rfl (fun hb => ?_) (fun hb => ?_)
                      · refine TC_skip ?_
                        refine TE_go ?_
                        refine TC_seq ?_
                        refine TC_blk ?_
                        refine TC_seq ?_
                        refine TC_reg ?_
                        refine TL_ev env 3 rfl ⟨⟨trivial, ⟨trivial, ⟨(by decide), (by decide)⟩⟩⟩, ⟨⟨trivial, trivial⟩, ⟨trivial, trivial⟩⟩⟩ ?_
                        refine TL_end ?_
                        refine TE_go ?_
                        refine TC_reg ?_
                        obtain ⟨g, h3⟩ := gd_t h3
                        refine TL_ev env 8 rfl ⟨trivial, ⟨trivial, ⟨trivial, ⟨⟨trivial, trivial⟩, ⟨trivial, ⟨⟨trivial, trivial⟩, ⟨⟨⟨trivial, ⟨trivial, trivial⟩⟩, g⟩, ⟨trivial, trivial⟩⟩⟩⟩⟩⟩⟩⟩ ?_
                        refine TL_end ?_
                        refine tbn ?_
                        refine TE_go ?_
                        refine TC_reg ?_
                        refine TL_ev env 2 rfl ⟨⟨trivial, ⟨trivial, trivial⟩⟩, ⟨trivial, trivial⟩⟩ ?_
                        refine TL_end ?_
                        refine tsn ?_
                        refine TE_renw (A' := [(1, .p 1070000 0), (5, .sl 1070001), (16, .agg [.int .i64 1, .int .i64 2, .int .i64 3]), (17, .int .i64 1), (29, .int .i64 2), (30, .bool true), (31, .bool true), (32, .p 1070000 8), (33, .agg [.int .i64 _, .int .i64 _, .int .i64 _, .int .i64 _, .int .i64 _]), (34, .agg [.int .i64 0, .int .i64 0, .int .i64 0, .int .i64 0, .int .i64 0]), (35, .bool _), (36, .bool _), (48, .hd 1070002 5), (49, .int .i64 5), (50, .int .i64 3)]) (L' := [(1070000, some (.cells [.int .i64 _, .int .i64 _, .int .i64 _, .int .i64 _, .int .i64 _, .int .i64 _, .int .i64 _, .int .i64 _, .int .i64 _, .int .i64 _, .int .i64 _, .int .i64 _, .int .i64 _, .int .i64 _, .int .i64 _])), (1070001, some (.rows (.int .u8) _)), (1070002, some (.cells [.p 1070000 8, .p 1070000 9, .p 1070000 10, .p 1070000 11, .p 1070000 12]))]) [(1070000, 1069000), (1070001, 1060), (1070002, 1069002)] ⟨rfl, rfl, rfl, rfl, rfl, rfl, rfl, rfl, rfl, rfl, rfl, rfl, rfl, rfl, rfl, trivial⟩ ⟨rfl, rfl, rfl, trivial⟩ rfl ?_
                        refine TE_lb ?_
                        refine TC_seq ?_
                        refine TC_reg ?_
                        refine TL_ev env 1 rfl ⟨⟨trivial, ⟨trivial, trivial⟩⟩, trivial⟩ ?_
                        refine TL_end ?_
                        refine TE_go ?_
                        refine TC_seq ?_
                        refine TC_cond rfl (fun hb => ?_) (fun hb => ?_)
                        · refine TC_skip ?_
                          refine TE_go ?_
                          refine TC_seq ?_
                          refine TC_blk ?_
                          refine TC_seq ?_
                          refine TC_reg ?_
                          refine TL_ev env 3 rfl ⟨⟨trivial, ⟨trivial, ⟨(by decide), (by decide)⟩⟩⟩, ⟨⟨trivial, trivial⟩, ⟨trivial, trivial⟩⟩⟩ ?_
                          refine TL_end ?_
                          refine TE_go ?_
                          refine TC_reg ?_
                          obtain ⟨g, h3⟩ := gd_t h3
                          refine TL_ev env 8 rfl ⟨trivial, ⟨trivial, ⟨trivial, ⟨⟨trivial, trivial⟩, ⟨trivial, ⟨⟨trivial, trivial⟩, ⟨⟨⟨trivial, ⟨trivial, trivial⟩⟩, g⟩, ⟨trivial, trivial⟩⟩⟩⟩⟩⟩⟩⟩ ?_
                          refine TL_end ?_
                          refine tbn ?_
                          refine TE_go ?_
                          refine TC_reg ?_
                          refine TL_ev env 2 rfl ⟨⟨trivial, ⟨trivial, trivial⟩⟩, ⟨trivial, trivial⟩⟩ ?_
                          refine TL_end ?_
                          refine tsn ?_
                          refine TE_renw (A' := [(1, .p 1071000 0), (5, .sl 1071001), (16, .agg [.int .i64 1, .int .i64 2, .int .i64 3]), (17, .int .i64 1), (29, .int .i64 2), (30, .bool true), (31, .bool true), (32, .p 1071000 8), (33, .agg [.int .i64 _, .int .i64 _, .int .i64 _, .int .i64 _, .int .i64 _]), (34, .agg [.int .i64 0, .int .i64 0, .int .i64 0, .int .i64 0, .int .i64 0]), (35, .bool _), (36, .bool _), (48, .hd 1071002 5), (49, .int .i64 5), (50, .int .i64 4)]) (L' := [(1071000, some (.cells [.int .i64 _, .int .i64 _, .int .i64 _, .int .i64 _, .int .i64 _, .int .i64 _, .int .i64 _, .int .i64 _, .int .i64 _, .int .i64 _, .int .i64 _, .int .i64 _, .int .i64 _, .int .i64 _, .int .i64 _])), (1071001, some (.rows (.int .u8) _)), (1071002, some (.cells [.p 1071000 8, .p 1071000 9, .p 1071000 10, .p 1071000 11, .p 1071000 12]))]) [(1071000, 1070000), (1071001, 1060), (1071002, 1070002)] ⟨rfl, rfl, rfl, rfl, rfl, rfl, rfl, rfl, rfl, rfl, rfl, rfl, rfl, rfl, rfl, trivial⟩ ⟨rfl, rfl, rfl, trivial⟩ rfl ?_
                          refine TE_lb ?_
                          refine TC_seq ?_
                          refine TC_reg ?_
                          refine TL_ev env 1 rfl ⟨⟨trivial, ⟨trivial, trivial⟩⟩, trivial⟩ ?_
                          refine TL_end ?_
                          refine TE_go ?_
                          refine TC_seq ?_
                          refine TC_cond rfl (fun hb => ?_) (fun hb => ?_)
                          · refine TC_skip ?_
                            refine TE_go ?_
                            refine TC_seq ?_
                            refine TC_blk ?_
                            refine TC_seq ?_
                            refine TC_reg ?_
                            refine TL_ev env 3 rfl ⟨⟨trivial, ⟨trivial, ⟨(by decide), (by decide)⟩⟩⟩, ⟨⟨trivial, trivial⟩, ⟨trivial, trivial⟩⟩⟩ ?_
                            refine TL_end ?_
                            refine TE_go ?_
                            refine TC_reg ?_
                            obtain ⟨g, h3⟩ := gd_t h3
                            refine TL_ev env 8 rfl ⟨trivial, ⟨trivial, ⟨trivial, ⟨⟨trivial, trivial⟩, ⟨trivial, ⟨⟨trivial, trivial⟩, ⟨⟨⟨trivial, ⟨trivial, trivial⟩⟩, g⟩, ⟨trivial, trivial⟩⟩⟩⟩⟩⟩⟩⟩ ?_
                            refine TL_end ?_
                            refine tbn ?_
                            refine TE_go ?_
                            refine TC_reg ?_
                            refine TL_ev env 2 rfl ⟨⟨trivial, ⟨trivial, trivial⟩⟩, ⟨trivial, trivial⟩⟩ ?_
                            refine TL_end ?_
                            refine tsn ?_
                            refine TE_renw (A' := [(1, .p 1072000 0), (5, .sl 1072001), (16, .agg [.int .i64 1, .int .i64 2, .int .i64 3]), (17, .int .i64 1), (29, .int .i64 2), (30, .bool true), (31, .bool true), (32, .p 1072000 8), (33, .agg [.int .i64 _, .int .i64 _, .int .i64 _, .int .i64 _, .int .i64 _]), (34, .agg [.int .i64 0, .int .i64 0, .int .i64 0, .int .i64 0, .int .i64 0]), (35, .bool _), (36, .bool _), (48, .hd 1072002 5), (49, .int .i64 5), (50, .int .i64 5)]) (L' := [(1072000, some (.cells [.int .i64 _, .int .i64 _, .int .i64 _, .int .i64 _, .int .i64 _, .int .i64 _, .int .i64 _, .int .i64 _, .int .i64 _, .int .i64 _, .int .i64 _, .int .i64 _, .int .i64 _, .int .i64 _, .int .i64 _])), (1072001, some (.rows (.int .u8) _)), (1072002, some (.cells [.p 1072000 8, .p 1072000 9, .p 1072000 10, .p 1072000 11, .p 1072000 12]))]) [(1072000, 1071000), (1072001, 1060), (1072002, 1071002)] ⟨rfl, rfl, rfl, rfl, rfl, rfl, rfl, rfl, rfl, rfl, rfl, rfl, rfl, rfl, rfl, trivial⟩ ⟨rfl, rfl, rfl, trivial⟩ rfl ?_
                            refine TE_lb ?_
                            refine TC_seq ?_
                            refine TC_reg ?_
                            refine TL_ev env 1 rfl ⟨⟨trivial, ⟨trivial, trivial⟩⟩, trivial⟩ ?_
                            refine TL_end ?_
                            refine TE_go ?_
                            refine TC_seq ?_
                            refine TC_cond rfl (fun hb => ?_) (fun hb => ?_)
                            · first | exact (ftf hb).elim | exact (tff hb).elim | exact absurd hb (by decide)
                            · refine TC_exit ?_
                              refine tsx ?_
                              refine tsx ?_
                              refine tbe ?_
                              obtain rfl := sinj h3
                              refine tsn ?_
                              exact SP_ren [(12100, 1072000), (12101, 1072001)] _ rfl ⟨rfl, rfl, rfl, rfl, rfl, rfl, rfl, rfl, rfl, rfl, rfl, rfl, trivial⟩ ⟨rfl, rfl, trivial⟩ rfl
                          · first | exact (ftf hb).elim | exact (tff hb).elim | exact absurd hb (by decide)
                        · first | exact (ftf hb).elim | exact (tff hb).elim | exact absurd hb (by decide)
                      · first | exact (ftf hb).elim | exact (tff hb).elim | exact absurd hb (by decide)
                    · first | exact (ftf hb).elim | exact (tff hb).elim | exact absurd hb (by decide)
                  · first | exact (ftf hb).elim | exact (tff hb).elim | exact absurd hb (by decide)
                · rintro x35 hz
                  obtain rfl := hz.symm
                  refine tbn ?_
                  obtain rfl := sinj h2
                  refine tsn ?_
                  exact SP_ren [(11800, 12100), (11801, 12101)] (_, _) rfl ⟨rfl, rfl, rfl, rfl, rfl, rfl, rfl, rfl, rfl, rfl, rfl, rfl, trivial⟩ ⟨rfl, rfl, trivial⟩ rfl
            · rintro ⟨x25, x26⟩ rfl
              refine TE_go ?_
              refine TC_reg ?_
              refine TL_ev env 2 rfl ⟨⟨trivial, ⟨trivial, trivial⟩⟩, ⟨trivial, trivial⟩⟩ ?_
              refine TL_end ?_
              refine tsn ?_
              refine TE_renw (A' := [(1, .p 1055000 0), (5, .sl 1055001), (16, .agg [.int .i64 1, .int .i64 2, .int .i64 3]), (17, .int .i64 2), (29, .int .i64 2), (30, .bool true), (31, .bool true), (32, .p 1055000 8), (33, .agg [.int .i64 _, .int .i64 _, .int .i64 _, .int .i64 _, .int .i64 _]), (34, .agg [.int .i64 0, .int .i64 0, .int .i64 0, .int .i64 0, .int .i64 0]), (35, .bool _), (36, .bool _)]) (L' := [(1055000, some (.cells [.int .i64 _, .int .i64 _, .int .i64 _, .int .i64 _, .int .i64 _, .int .i64 _, .int .i64 _, .int .i64 _, .int .i64 _, .int .i64 _, .int .i64 _, .int .i64 _, .int .i64 _, .int .i64 _, .int .i64 _])), (1055001, some (.rows (.int .u8) _))]) [(1055000, 11800), (1055001, 11801)] ⟨rfl, rfl, rfl, rfl, rfl, rfl, rfl, rfl, rfl, rfl, rfl, rfl, trivial⟩ ⟨rfl, rfl, trivial⟩ rfl ?_
              refine TE_lb ?_
              refine TC_seq ?_
              refine TC_reg ?_
              refine TL_ev env 1 rfl ⟨⟨trivial, ⟨trivial, trivial⟩⟩, trivial⟩ ?_
              refine TL_end ?_
              refine TE_go ?_
              refine TC_seq ?_
              refine TC_cond rfl (fun hb => ?_) (fun hb => ?_)
              · refine TC_skip ?_
                refine TE_go ?_
                refine TC_seq ?_
                refine TC_blk ?_
                refine TC_seq ?_
                refine TC_reg ?_
                refine TL_ev env 2 rfl ⟨⟨trivial, ⟨trivial, ⟨(by decide), (by decide)⟩⟩⟩, ⟨trivial, trivial⟩⟩ ?_
                refine TL_end ?_
                refine TE_go ?_
                refine TC_seq ?_
                refine TC_seq ?_
                refine TC_reg ?_
                refine TL_ev env 3 rfl ⟨trivial, ⟨⟨trivial, ⟨trivial, trivial⟩⟩, ⟨trivial, trivial⟩⟩⟩ ?_
                refine TL_gf (.bool false) rfl rfl rfl rfl rfl (by decide) ?_
                refine TL_gf (.bool false) rfl rfl rfl rfl rfl (by decide) ?_
                refine TL_gf (.bool false) rfl rfl rfl rfl rfl (by decide) ?_
                refine TL_gf (.bool false) rfl rfl rfl rfl rfl (by decide) ?_
                refine TL_ev env 2 rfl ⟨⟨trivial, ⟨fun e => e, trivial⟩⟩, ⟨trivial, trivial⟩⟩ ?_
                refine TL_gt rfl rfl rfl rfl ?_
                refine TL_ev env 1 rfl ⟨trivial, trivial⟩ ?_
                refine TL_gt rfl rfl rfl rfl ?_
                refine TL_ev env 1 rfl ⟨⟨trivial, ⟨trivial, trivial⟩⟩, trivial⟩ ?_
                refine TL_gt rfl rfl rfl rfl ?_
                refine TL_ev env 1 rfl ⟨trivial, trivial⟩ ?_
                refine TL_gf (.bool false) rfl rfl rfl rfl rfl (by decide) ?_
                refine TL_gf (.bool false) rfl rfl rfl rfl rfl (by decide) ?_
                refine TL_gf (.bool false) rfl rfl rfl rfl rfl (by decide) ?_
                refine TL_gf (.bool false) rfl rfl rfl rfl rfl (by decide) ?_
                refine TL_gt rfl rfl rfl rfl ?_
                refine TL_ev env 2 rfl ⟨⟨trivial, ⟨fun e => e, trivial⟩⟩, ⟨⟨trivial, ⟨trivial, trivial⟩⟩, trivial⟩⟩ ?_
                refine TL_end ?_
                refine TE_go ?_
                refine TC_cond rfl (fun hb => ?_) (fun hb => ?_)
                · first | exact (ftf hb).elim | exact (tff hb).elim | exact absurd hb (by decide)
                · refine TC_skip ?_
                  refine TE_go ?_
                  refine TC_seq ?_
                  refine TC_reg ?_
                  refine TL_ev env 1 rfl ⟨trivial, trivial⟩ ?_
                  obtain ⟨⟨⟩, hr, h1⟩ := bnd h1
                  refine TL_callB [(0, 1055000), (1000, 500390)] (caps_Caps_fields_4.ok0 hr) caps_Caps_fields_4.fnb rfl ⟨trivial, ⟨trivial, ⟨trivial, trivial⟩⟩⟩ rfl ⟨.inr rfl, trivial⟩ rfl ?_
                  refine TL_ev env 1 rfl ⟨trivial, trivial⟩ ?_
                  refine TL_end ?_
                  refine TE_go ?_
                  refine TC_seq ?_
                  refine TC_reg ?_
                  obtain ⟨g, h1⟩ := gd_t h1
                  refine TL_ev env 9 rfl ⟨trivial, ⟨trivial, ⟨trivial, ⟨trivial, ⟨⟨trivial, trivial⟩, ⟨trivial, ⟨⟨trivial, ⟨trivial, trivial⟩⟩, ⟨⟨⟨trivial, ⟨trivial, trivial⟩⟩, g⟩, ⟨trivial, trivial⟩⟩⟩⟩⟩⟩⟩⟩⟩ ?_
                  refine TL_end ?_
                  refine TE_go ?_
                  refine TC_seq ?_
                  refine TC_reg ?_
                  refine TL_ev env 3 rfl ⟨trivial, ⟨⟨trivial, trivial⟩, ⟨trivial, trivial⟩⟩⟩ ?_
                  refine TL_end ?_
                  refine TE_go ?_
                  obtain ⟨z2, h2, h1⟩ := bnd h1
                  refine TC_cut (α := (List (Int))) (fun s => z2 = s) (fun s => [(1, .p 12000 0), (5, .sl 12001), (16, .agg [.int .i64 1, .int .i64 2, .int .i64 3]), (17, .int .i64 2), (29, .int .i64 3), (30, .bool false), (31, .bool false), (36, .bool false)]) (fun s => [(12000, some (.cells [.int .i64 p0, .int .i64 p1, .int .i64 p2, .int .i64 p3, .int .i64 p4, .int .i64 p5, .int .i64 p6, .int .i64 p7, .int .i64 p8, .int .i64 p9, .int .i64 p10, .int .i64 p11, .int .i64 p12, .int .i64 p13, .int .i64 p14])), (12001, some (.rows (.int .u8) s))]) ?_ ?_
                  · refine TC_blk ?_
                    refine TC_loopU ?_
                    refine TE_lb ?_
                    refine TC_seq ?_
                    refine TC_reg ?_
                    refine TL_ev env 1 rfl ⟨⟨trivial, ⟨trivial, trivial⟩⟩, trivial⟩ ?_
                    refine TL_end ?_
                    refine TE_go ?_
                    refine TC_seq ?_
                    refine TC_cond rfl (fun hb => ?_) (fun hb => ?_)
                    · refine TC_skip ?_
                      refine TE_go ?_
                      refine TC_seq ?_
                      refine TC_blk ?_
                      refine TC_seq ?_
                      refine TC_reg ?_
                      refine TL_ev env 3 rfl ⟨⟨trivial, ⟨trivial, ⟨(by decide), (by decide)⟩⟩⟩, ⟨⟨trivial, trivial⟩, ⟨trivial, trivial⟩⟩⟩ ?_
                      refine TL_end ?_
                      refine TE_go ?_
                      refine TC_reg ?_
                      obtain ⟨g, h2⟩ := gd_t h2
                      refine TL_ev env 8 rfl ⟨trivial, ⟨trivial, ⟨trivial, ⟨⟨trivial, trivial⟩, ⟨trivial, ⟨⟨trivial, trivial⟩, ⟨⟨⟨trivial, ⟨trivial, trivial⟩⟩, g⟩, ⟨trivial, trivial⟩⟩⟩⟩⟩⟩⟩⟩ ?_
                      refine TL_end ?_
                      refine tbn ?_
                      refine TE_go ?_
                      refine TC_reg ?_
                      refine TL_ev env 2 rfl ⟨⟨trivial, ⟨trivial, trivial⟩⟩, ⟨trivial, trivial⟩⟩ ?_
                      refine TL_end ?_
                      refine tsn ?_
                      refine TE_renw (A' := [(1, .p 1061000 0), (5, .sl 1061001), (16, .agg [.int .i64 1, .int .i64 2, .int .i64 3]), (17, .int .i64 2), (29, .int .i64 3), (30, .bool false), (31, .bool false), (36, .bool false), (48, .hd 1061002 2), (49, .int .i64 2), (50, .int .i64 1)]) (L' := [(1061000, some (.cells [.int .i64 _, .int .i64 _, .int .i64 _, .int .i64 _, .int .i64 _, .int .i64 _, .int .i64 _, .int .i64 _, .int .i64 _, .int .i64 _, .int .i64 _, .int .i64 _, .int .i64 _, .int .i64 _, .int .i64 _])), (1061001, some (.rows (.int .u8) _)), (1061002, some (.cells [.p 1061000 13, .p 1061000 14]))]) [(1061000, 1055000), (1061001, 1060), (1061002, 500390)] ⟨rfl, rfl, rfl, rfl, rfl, rfl, rfl, rfl, rfl, rfl, rfl, trivial⟩ ⟨rfl, rfl, rfl, trivial⟩ rfl ?_
                      refine TE_lb ?_
                      refine TC_seq ?_
                      refine TC_reg ?_
                      refine TL_ev env 1 rfl ⟨⟨trivial, ⟨trivial, trivial⟩⟩, trivial⟩ ?_
                      refine TL_end ?_
                      refine TE_go ?_
                      refine TC_seq ?_
                      refine TC_cond rfl (fun hb => ?_) (fun hb => ?_)
                      · refine TC_skip ?_
                        refine TE_go ?_
                        refine TC_seq ?_
                        refine TC_blk ?_
                        refine TC_seq ?_
                        refine TC_reg ?_
                        refine TL_ev env 3 rfl ⟨⟨trivial, ⟨trivial, ⟨(by decide), (by decide)⟩⟩⟩, ⟨⟨trivial, trivial⟩, ⟨trivial, trivial⟩⟩⟩ ?_
                        refine TL_end ?_
                        refine TE_go ?_
                        refine TC_reg ?_
                        obtain ⟨g, h2⟩ := gd_t h2
                        refine TL_ev env 8 rfl ⟨trivial, ⟨trivial, ⟨trivial, ⟨⟨trivial, trivial⟩, ⟨trivial, ⟨⟨trivial, trivial⟩, ⟨⟨⟨trivial, ⟨trivial, trivial⟩⟩, g⟩, ⟨trivial, trivial⟩⟩⟩⟩⟩⟩⟩⟩ ?_
                        refine TL_end ?_
                        refine tbn ?_
                        refine TE_go ?_
                        refine TC_reg ?_
                        refine TL_ev env 2 rfl ⟨⟨trivial, ⟨trivial, trivial⟩⟩, ⟨trivial, trivial⟩⟩ ?_
                        refine TL_end ?_
                        refine tsn ?_
                        refine TE_renw (A' := [(1, .p 1062000 0), (5, .sl 1062001), (16, .agg [.int .i64 1, .int .i64 2, .int .i64 3]), (17, .int .i64 2), (29, .int .i64 3), (30, .bool false), (31, .bool false), (36, .bool false), (48, .hd 1062002 2), (49, .int .i64 2), (50, .int .i64 2)]) (L' := [(1062000, some (.cells [.int .i64 _, .int .i64 _, .int .i64 _, .int .i64 _, .int .i64 _, .int .i64 _, .int .i64 _, .int .i64 _, .int .i64 _, .int .i64 _, .int .i64 _, .int .i64 _, .int .i64 _, .int .i64 _, .int .i64 _])), (1062001, some (.rows (.int .u8) _)), (1062002, some (.cells [.p 1062000 13, .p 1062000 14]))]) [(1062000, 1061000), (1062001, 1060), (1062002, 1061002)] ⟨rfl, rfl, rfl, rfl, rfl, rfl, rfl, rfl, rfl, rfl, rfl, trivial⟩ ⟨rfl, rfl, rfl, trivial⟩ rfl ?_
                        refine TE_lb ?_
                        refine TC_seq ?_
                        refine TC_reg ?_
                        refine TL_ev env 1 rfl ⟨⟨trivial, ⟨trivial, trivial⟩⟩, trivial⟩ ?_
                        refine TL_end ?_
                        refine TE_go ?_
                        refine TC_seq ?_
                        refine TC_cond rfl (fun hb => ?_) (fun hb => ?_)
                        · first | exact (ftf hb).elim | exact (tff hb).elim | exact absurd hb (by decide)
                        · refine TC_exit ?_
                          refine tsx ?_
                          refine tsx ?_
                          refine tbe ?_
                          obtain rfl := sinj h2
                          refine tsn ?_
                          exact SP_ren [(12000, 1062000), (12001, 1062001)] _ rfl ⟨rfl, rfl, rfl, rfl, rfl, rfl, rfl, rfl, trivial⟩ ⟨rfl, rfl, trivial⟩ rfl
                      · first | exact (ftf hb).elim | exact (tff hb).elim | exact absurd hb (by decide)
                    · first | exact (ftf hb).elim | exact (tff hb).elim | exact absurd hb (by decide)
                  · rintro x29 hz
                    obtain rfl := hz.symm
                    refine tbn ?_
                    refine TE_go ?_
                    refine TC_reg ?_
                    refine TL_ev env 2 rfl ⟨⟨trivial, ⟨trivial, trivial⟩⟩, ⟨trivial, trivial⟩⟩ ?_
                    refine TL_end ?_
                    refine tsn ?_
                    refine TE_renw (A' := [(1, .p 1060000 0), (5, .sl 1060001), (16, .agg [.int .i64 1, .int .i64 2, .int .i64 3]), (17, .int .i64 3), (29, .int .i64 3), (30, .bool false), (31, .bool false), (36, .bool false)]) (L' := [(1060000, some (.cells [.int .i64 _, .int .i64 _, .int .i64 _, .int .i64 _, .int .i64 _, .int .i64 _, .int .i64 _, .int .i64 _, .int .i64 _, .int .i64 _, .int .i64 _, .int .i64 _, .int .i64 _, .int .i64 _, .int .i64 _])), (1060001, some (.rows (.int .u8) _))]) [(1060000, 12000), (1060001, 12001)] ⟨rfl, rfl, rfl, rfl, rfl, rfl, rfl, rfl, trivial⟩ ⟨rfl, rfl, trivial⟩ rfl ?_
                    refine TE_lb ?_
                    refine TC_seq ?_
                    refine TC_reg ?_
                    refine TL_ev env 1 rfl ⟨⟨trivial, ⟨trivial, trivial⟩⟩, trivial⟩ ?_
                    refine TL_end ?_
                    refine TE_go ?_
                    refine TC_seq ?_
                    refine TC_cond rfl (fun hb => ?_) (fun hb => ?_)
                    · first | exact (ftf hb).elim | exact (tff hb).elim | exact absurd hb (by decide)
                    · refine TC_exit ?_
                      refine tsx ?_
                      refine tsx ?_
                      refine tbe ?_
                      obtain rfl := sinj h1
                      refine tsn ?_
                      exact SP_ren [(11400, 1060001)] _ rfl ⟨rfl, trivial⟩ ⟨rfl, trivial⟩ rfl
              · first | exact (ftf hb).elim | exact (tff hb).elim | exact absurd hb (by decide)
          · first | exact (ftf hb).elim | exact (tff hb).elim | exact absurd hb (by decide)
      · first | exact (ftf hb).elim | exact (tff hb).elim | exact absurd hb (by decide)
    · rintro x20 hz
      obtain rfl := hz.symm
      refine TE_go ?_
      refine TC_seq ?_
      refine TC_reg ?_
      refine TL_ev env 3 rfl ⟨trivial, ⟨trivial, ⟨trivial, trivial⟩⟩⟩ ?_
      refine TL_end ?_
      refine TE_go ?_
      refine TC_ret ?_
      refine TE_frz 11400 rfl ?_
      obtain rfl := sinj h0
      exact TE_ret env rfl trivial trivial
theorem caps_Bytes.ok0 {K : Nat} {p0 : Int} {p1 : Int} {p2 : Int} {p3 : Int} {p4 : Int} {p5 : Int} {p6 : Int} {p7 : Int} {p8 : Int} {p9 : Int} {p10 : Int} {p11 : Int} {p12 : Int} {p13 : Int} {p14 : Int} {q0 : Int} (h0 : caps_Bytes K p0 p1 p2 p3 p4 p5 p6 p7 p8 p9 p10 p11 p12 p13 p14 = some (.inl q0)) : Fn Try.prog 41 [.agg [.int .i64 p0, .int .i64 p1, .int .i64 p2, .int .i64 p3, .int .i64 p4, .int .i64 p5, .int .i64 p6, .int .i64 p7, .int .i64 p8, .int .i64 p9, .int .i64 p10, .int .i64 p11, .int .i64 p12, .int .i64 p13, .int .i64 p14]] [] (.tup [.nils, .int .i64 q0]) [] := caps_Bytes.ok h0
theorem caps_Bytes.ok1 {K : Nat} {p0 : Int} {p1 : Int} {p2 : Int} {p3 : Int} {p4 : Int} {p5 : Int} {p6 : Int} {p7 : Int} {p8 : Int} {p9 : Int} {p10 : Int} {p11 : Int} {p12 : Int} {p13 : Int} {p14 : Int} {q0 : List (Int)} (h0 : caps_Bytes K p0 p1 p2 p3 p4 p5 p6 p7 p8 p9 p10 p11 p12 p13 p14 = some (.inr q0)) : Fn Try.prog 41 [.agg [.int .i64 p0, .int .i64 p1, .int .i64 p2, .int .i64 p3, .int .i64 p4, .int .i64 p5, .int .i64 p6, .int .i64 p7, .int .i64 p8, .int .i64 p9, .int .i64 p10, .int .i64 p11, .int .i64 p12, .int .i64 p13, .int .i64 p14]] [] (.tup [.im (.slice (.int .u8)) q0, .int .i64 0]) [] := caps_Bytes.ok h0
theorem caps_Bytes.fnb : fnb Try.prog 41 = true := fnb_of Try.func41 rfl
def format_within.res (_p0 : Int) (_p1 : Int) (_p2 : Int) : Bool → MV
  | q0 => .bool q0
def format_within.out (_p0 : Int) (_p1 : Int) (_p2 : Int) : Bool → List (Nat × Option MObj)
  | _ => []
theorem format_within.ok {K : Nat} {p0 : Int} {p1 : Int} {p2 : Int} {r : Bool} (h0 : format_within K p0 p1 p2 = some r) : Fn Try.prog 129 [.int .i64 p0, .int .i64 p1, .int .i64 p2] [] (format_within.res p0 p1 p2 r) (format_within.out p0 p1 p2 r) := by
  refine Fn_of Try.func129 rfl (Nat.le_of_ble_eq_true rfl) fun Γ => ?_
  refine TC_seq ?_
  refine TC_reg ?_
  refine TL_ev env 1 rfl ⟨trivial, trivial⟩ ?_
  refine TL_end ?_
  refine TE_go ?_
  refine TC_seq ?_
  refine TC_reg ?_
  refine TL_ev env 9 rfl ⟨trivial, ⟨trivial, ⟨⟨trivial, ⟨trivial, trivial⟩⟩, ⟨trivial, ⟨fun eg => trivial, ⟨fun eg => trivial, ⟨fun eg => ⟨fun e => e, ⟨fun e => e, trivial⟩⟩, ⟨⟨trivial, ⟨fun e => e, trivial⟩⟩, ⟨trivial, trivial⟩⟩⟩⟩⟩⟩⟩⟩⟩ ?_
  refine TL_end ?_
  refine TE_go ?_
  refine TC_ret ?_
  obtain rfl := sinj h0
  exact TE_ret env rfl trivial trivial
theorem format_within.ok0 {K : Nat} {p0 : Int} {p1 : Int} {p2 : Int} {q0 : Bool} (h0 : format_within K p0 p1 p2 = some q0) : Fn Try.prog 129 [.int .i64 p0, .int .i64 p1, .int .i64 p2] [] (.bool q0) [] := format_within.ok h0
theorem format_within.fnb : fnb Try.prog 129 = true := fnb_of Try.func129 rfl
def slices_Index_bool_bool.res (_p0 : Bool) (_p1 : List (Bool)) : Int → MV
  | q0 => .int .i64 q0
def slices_Index_bool_bool.out (_p0 : Bool) (p1 : List (Bool)) : Int → List (Nat × Option MObj)
  | _ => [(0, some (.rows (.bool) p1))]
theorem slices_Index_bool_bool.ok {K : Nat} {p0 : Bool} {p1 : List (Bool)} {r : Int} (h0 : slices_Index_bool_bool K p0 p1 = some r) : Fn Try.prog 173 [.sl 0, .bool p0] [(0, some (.rows (.bool) p1))] (slices_Index_bool_bool.res p0 p1 r) (slices_Index_bool_bool.out p0 p1 r) := by
  refine Fn_of Try.func173 rfl (Nat.le_of_ble_eq_true rfl) fun Γ => ?_
  refine TC_seq ?_
  refine TC_reg ?_
  refine TL_ev env 1 rfl ⟨trivial, trivial⟩ ?_
  refine TL_end ?_
  refine TE_go ?_
  refine TC_seq ?_
  refine TC_seq ?_
  refine TC_reg ?_
  refine TL_ev env 3 rfl ⟨trivial, ⟨⟨trivial, trivial⟩, ⟨trivial, trivial⟩⟩⟩ ?_
  refine TL_end ?_
  refine TE_go ?_
  obtain ⟨z1, h1, h0⟩ := bnd h0
  refine TC_cut (α := Unit) (fun _ => z1 = .inl ()) (fun _ => []) (fun _ => [(0, some (.rows (.bool) p1))]) ?_ ?_
  · refine TC_blk ?_
    refine TC_loop (α := Int) (fun n s => slices_Index_bool_bool.l0 K p0 (p1.length : Int) p1 n s = some z1) (fun s => [(0, .sl 0), (1, .bool p0), (7, .int .i64 (p1.length : Int)), (8, .int .i64 s)]) (fun s => [(0, some (.rows (.bool) p1))]) K ?_ ?_
    · exact SP_ren [] _ h1 ⟨rfl, rfl, rfl, rfl, trivial⟩ ⟨rfl, trivial⟩ rfl
    rintro n x5 h1
    rcases n with _ | n
    · exact (nsome h1).elim
    replace h1 : slices_Index_bool_bool.r0 K p0 (p1.length : Int) p1 (slices_Index_bool_bool.l0 K p0 (p1.length : Int) p1 n) x5 = some z1 := h1
    refine TC_seq ?_
    refine TC_reg ?_
    refine TL_ev env 1 rfl ⟨⟨trivial, ⟨trivial, trivial⟩⟩, trivial⟩ ?_
    refine TL_end ?_
    refine TE_go ?_
    refine TC_seq ?_
    refine TC_cond rfl (fun hb => ?_) (fun hb => ?_)
    · replace h1 := bif_t h1 hb
      refine TC_skip ?_
      refine TE_go ?_
      refine TC_seq ?_
      refine TC_blk ?_
      refine TC_seq ?_
      refine TC_reg ?_
      refine TL_ev env 2 rfl ⟨trivial, ⟨trivial, trivial⟩⟩ ?_
      refine TL_end ?_
      refine TE_go ?_
      refine TC_seq ?_
      refine TC_reg ?_
      obtain ⟨g, h1⟩ := gd_t h1
      refine TL_ev env 6 rfl ⟨trivial, ⟨trivial, ⟨trivial, ⟨⟨trivial, ⟨trivial, ⟨g.1, g.2.1⟩⟩⟩, ⟨⟨trivial, g.2.2⟩, ⟨⟨trivial, ⟨trivial, trivial⟩⟩, trivial⟩⟩⟩⟩⟩⟩ ?_
      refine TL_end ?_
      refine TE_go ?_
      refine TC_cond rfl (fun hb => ?_) (fun hb => ?_)
      · replace h1 := bif_t h1 hb
        refine TC_seq ?_
        refine TC_reg ?_
        refine TL_ev env 2 rfl ⟨trivial, ⟨trivial, trivial⟩⟩ ?_
        refine TL_end ?_
        refine TE_go ?_
        refine TC_ret ?_
        refine tbr ?_
        refine tsr ?_
        refine tsr ?_
        refine tbr ?_
        refine tsr ?_
        refine tsr ?_
        obtain rfl := sinj h1
        obtain rfl := sinj h0
        exact TE_ret env rfl trivial ⟨.inr rfl, trivial⟩
      · replace h1 := bif_f h1 hb
        refine TC_skip ?_
        refine tbn ?_
        refine TE_go ?_
        refine TC_reg ?_
        refine TL_ev env 2 rfl ⟨⟨trivial, ⟨trivial, trivial⟩⟩, ⟨trivial, trivial⟩⟩ ?_
        refine TL_end ?_
        refine tsn ?_
        exact TE_nextr [] n (Nat.lt_succ_self n) _ h1 ⟨rfl, rfl, rfl, rfl, trivial⟩ ⟨rfl, trivial⟩ rfl
    · replace h1 := bif_f h1 hb
      refine TC_exit ?_
      refine tsx ?_
      refine tsx ?_
      refine tbe ?_
      obtain rfl := sinj h1
      refine tsn ?_
      exact SP_ren [] () rfl trivial ⟨rfl, trivial⟩ rfl
  · rintro ⟨⟩ rfl
    refine TE_go ?_
    refine TC_seq ?_
    refine TC_reg ?_
    refine TL_ev env 1 rfl ⟨trivial, trivial⟩ ?_
    refine TL_end ?_
    refine TE_go ?_
    refine TC_ret ?_
    obtain rfl := sinj h0
    exact TE_ret env rfl trivial ⟨.inr rfl, trivial⟩
theorem slices_Index_bool_bool.ok0 {K : Nat} {p0 : Bool} {p1 : List (Bool)} {q0 : Int} (h0 : slices_Index_bool_bool K p0 p1 = some q0) : Fn Try.prog 173 [.sl 0, .bool p0] [(0, some (.rows (.bool) p1))] (.int .i64 q0) [(0, some (.rows (.bool) p1))] := slices_Index_bool_bool.ok h0
theorem slices_Index_bool_bool.fnb : fnb Try.prog 173 = true := fnb_of Try.func173 rfl
def slices_Contains_bool_bool.res (_p0 : Bool) (_p1 : List (Bool)) : Bool → MV
  | q0 => .bool q0
def slices_Contains_bool_bool.out (_p0 : Bool) (p1 : List (Bool)) : Bool → List (Nat × Option MObj)
  | _ => [(0, some (.rows (.bool) p1))]
theorem slices_Contains_bool_bool.ok {K : Nat} {p0 : Bool} {p1 : List (Bool)} {r : Bool} (h0 : slices_Contains_bool_bool K p0 p1 = some r) : Fn Try.prog 157 [.sl 0, .bool p0] [(0, some (.rows (.bool) p1))] (slices_Contains_bool_bool.res p0 p1 r) (slices_Contains_bool_bool.out p0 p1 r) := by
  refine Fn_of Try.func157 rfl (Nat.le_of_ble_eq_true rfl) fun Γ => ?_
  refine TC_seq ?_
  refine TC_reg ?_
  refine TL_ev env 1 rfl ⟨trivial, trivial⟩ ?_
  refine TL_end ?_
  refine TE_go ?_
  refine TC_seq ?_
  refine TC_reg ?_
  refine TL_ev env 2 rfl ⟨trivial, ⟨trivial, trivial⟩⟩ ?_
  obtain ⟨r2, hr, h0⟩ := bnd h0
  refine TL_callB [(0, 0)] (slices_Index_bool_bool.ok0 hr) slices_Index_bool_bool.fnb rfl ⟨trivial, ⟨trivial, ⟨trivial, trivial⟩⟩⟩ rfl ⟨.inr rfl, trivial⟩ rfl ?_
  refine TL_ev env 2 rfl ⟨⟨trivial, ⟨trivial, trivial⟩⟩, ⟨trivial, trivial⟩⟩ ?_
  refine TL_end ?_
  refine TE_go ?_
  refine TC_ret ?_
  obtain rfl := sinj h0
  exact TE_ret env rfl trivial ⟨.inr rfl, trivial⟩
theorem slices_Contains_bool_bool.ok0 {K : Nat} {p0 : Bool} {p1 : List (Bool)} {q0 : Bool} (h0 : slices_Contains_bool_bool K p0 p1 = some q0) : Fn Try.prog 157 [.sl 0, .bool p0] [(0, some (.rows (.bool) p1))] (.bool q0) [(0, some (.rows (.bool) p1))] := slices_Contains_bool_bool.ok h0
theorem slices_Contains_bool_bool.fnb : fnb Try.prog 157 = true := fnb_of Try.func157 rfl
def format_all.res (_p0 : List (Bool)) : Bool → MV
  | q0 => .bool q0
def format_all.out (p0 : List (Bool)) : Bool → List (Nat × Option MObj)
  | _ => [(0, some (.rows (.bool) p0))]
theorem format_all.ok {K : Nat} {p0 : List (Bool)} {r : Bool} (h0 : format_all K p0 = some r) : Fn Try.prog 128 [.sl 0] [(0, some (.rows (.bool) p0))] (format_all.res p0 r) (format_all.out p0 r) := by
  refine Fn_of Try.func128 rfl (Nat.le_of_ble_eq_true rfl) fun Γ => ?_
  refine TC_seq ?_
  refine TC_reg ?_
  refine TL_ev env 1 rfl ⟨trivial, trivial⟩ ?_
  refine TL_end ?_
  refine TE_go ?_
  refine TC_seq ?_
  refine TC_reg ?_
  refine TL_ev env 1 rfl ⟨trivial, trivial⟩ ?_
  obtain ⟨r2, hr, h0⟩ := bnd h0
  refine TL_callB [(0, 0)] (slices_Contains_bool_bool.ok0 hr) slices_Contains_bool_bool.fnb rfl ⟨trivial, ⟨trivial, ⟨trivial, trivial⟩⟩⟩ rfl ⟨.inr rfl, trivial⟩ rfl ?_
  refine TL_ev env 2 rfl ⟨trivial, ⟨trivial, trivial⟩⟩ ?_
  refine TL_end ?_
  refine TE_go ?_
  refine TC_ret ?_
  obtain rfl := sinj h0
  exact TE_ret env rfl trivial ⟨.inr rfl, trivial⟩
theorem format_all.ok0 {K : Nat} {p0 : List (Bool)} {q0 : Bool} (h0 : format_all K p0 = some q0) : Fn Try.prog 128 [.sl 0] [(0, some (.rows (.bool) p0))] (.bool q0) [(0, some (.rows (.bool) p0))] := format_all.ok h0
theorem format_all.fnb : fnb Try.prog 128 = true := fnb_of Try.func128 rfl
def lapped_lengths.res  : Unit → MV
  | () => .agg [.int .i64 40, .int .i64 60, .int .i64 80, .int .i64 120]
def lapped_lengths.out  : Unit → List (Nat × Option MObj)
  | () => []
theorem lapped_lengths.ok {K : Nat}  {r : Unit} (h0 : lapped_lengths K  = some r) : Fn Try.prog 131 [] [] (lapped_lengths.res  r) (lapped_lengths.out  r) := by
  refine Fn_of Try.func131 rfl (Nat.le_of_ble_eq_true rfl) fun Γ => ?_
  refine TC_seq ?_
  refine TC_reg ?_
  refine TL_ev env 1 rfl ⟨trivial, trivial⟩ ?_
  refine TL_end ?_
  refine TE_go ?_
  refine TC_seq ?_
  refine TC_reg ?_
  refine TL_ev env 2 rfl ⟨⟨trivial, ⟨trivial, ⟨trivial, ⟨trivial, trivial⟩⟩⟩⟩, ⟨⟨trivial, trivial⟩, trivial⟩⟩ ?_
  refine TL_end ?_
  refine TE_go ?_
  refine TC_ret ?_
  obtain rfl := sinj h0
  exact TE_ret env rfl ⟨trivial, trivial⟩ trivial
theorem lapped_lengths.ok0 {K : Nat}   (h0 : lapped_lengths K  = some ()) : Fn Try.prog 131 [] [] (.agg [.int .i64 40, .int .i64 60, .int .i64 80, .int .i64 120]) [] := lapped_lengths.ok h0
theorem lapped_lengths.fnb : fnb Try.prog 131 = true := fnb_of Try.func131 rfl
def lapped_Lengths.res  : (List (Int)) → MV
  | q0 => .im (.slice (.int .i64)) q0
def lapped_Lengths.out  : (List (Int)) → List (Nat × Option MObj)
  | _ => []
theorem lapped_Lengths.ok {K : Nat}  {r : (List (Int))} (h0 : lapped_Lengths K  = some r) : Fn Try.prog 96 [] [] (lapped_Lengths.res  r) (lapped_Lengths.out  r) := by
  refine Fn_of Try.func96 rfl (Nat.le_of_ble_eq_true rfl) fun Γ => ?_
  refine TC_seq ?_
  refine TC_reg ?_
  refine TL_ev env 1 rfl ⟨trivial, trivial⟩ ?_
  refine TL_end ?_
  refine TE_go ?_
  refine TC_seq ?_
  refine TC_reg ?_
  obtain ⟨⟨⟩, hr, h0⟩ := bnd h0
  refine TL_callB [] (lapped_lengths.ok0 hr) lapped_lengths.fnb rfl ⟨trivial, trivial⟩ rfl trivial rfl ?_
  refine TL_ev env 2 rfl ⟨trivial, ⟨⟨trivial, trivial⟩, trivial⟩⟩ ?_
  refine TL_end ?_
  refine TE_go ?_
  refine TC_seq ?_
  refine TC_reg ?_
  refine TL_frzc 1001 (.pair (.int .i64) (.pair (.int .i64) (.pair (.int .i64) (.int .i64)))) (40, (60, (80, 120))) rfl ?_
  refine TL_ev env 2 rfl ⟨⟨trivial, ⟨trivial, ⟨trivial, ⟨(by decide), ⟨(by decide), (by decide)⟩⟩⟩⟩⟩, ⟨trivial, trivial⟩⟩ ?_
  refine TL_end ?_
  refine TE_go ?_
  refine TC_ret ?_
  obtain rfl := sinj h0
  exact TE_ret env rfl trivial trivial
theorem lapped_Lengths.ok0 {K : Nat}  {q0 : List (Int)} (h0 : lapped_Lengths K  = some q0) : Fn Try.prog 96 [] [] (.im (.slice (.int .i64)) q0) [] := lapped_Lengths.ok h0
theorem lapped_Lengths.fnb : fnb Try.prog 96 = true := fnb_of Try.func96 rfl
def slices_Index_int_int.res (_p0 : List (Int)) (_p1 : Int) : Int → MV
  | q0 => .int .i64 q0
def slices_Index_int_int.out (_p0 : List (Int)) (_p1 : Int) : Int → List (Nat × Option MObj)
  | _ => []
theorem slices_Index_int_int.ok {K : Nat} {p0 : List (Int)} {p1 : Int} {r : Int} (h0 : slices_Index_int_int K p0 p1 = some r) : Fn Try.prog 95 [.im (.slice (.int .i64)) p0, .int .i64 p1] [] (slices_Index_int_int.res p0 p1 r) (slices_Index_int_int.out p0 p1 r) := by
  refine Fn_of Try.func95 rfl (Nat.le_of_ble_eq_true rfl) fun Γ => ?_
  refine TC_seq ?_
  refine TC_reg ?_
  refine TL_ev env 1 rfl ⟨trivial, trivial⟩ ?_
  refine TL_end ?_
  refine TE_go ?_
  refine TC_seq ?_
  refine TC_seq ?_
  refine TC_reg ?_
  refine TL_ev env 3 rfl ⟨trivial, ⟨⟨trivial, trivial⟩, ⟨trivial, trivial⟩⟩⟩ ?_
  refine TL_end ?_
  refine TE_go ?_
  obtain ⟨z1, h1, h0⟩ := bnd h0
  refine TC_cut (α := Unit) (fun _ => z1 = .inl ()) (fun _ => []) (fun _ => []) ?_ ?_
  · refine TC_blk ?_
    refine TC_loop (α := Int) (fun n s => slices_Index_int_int.l0 K p0 p1 (p0.length : Int) n s = some z1) (fun s => [(0, .im (.slice (.int .i64)) p0), (1, .int .i64 p1), (7, .int .i64 (p0.length : Int)), (8, .int .i64 s)]) (fun s => []) K ?_ ?_
    · exact SP_ren [] _ h1 ⟨rfl, rfl, rfl, rfl, trivial⟩ trivial rfl
    rintro n x5 h1
    rcases n with _ | n
    · exact (nsome h1).elim
    replace h1 : slices_Index_int_int.r0 K p0 p1 (p0.length : Int) (slices_Index_int_int.l0 K p0 p1 (p0.length : Int) n) x5 = some z1 := h1
    refine TC_seq ?_
    refine TC_reg ?_
    refine TL_ev env 1 rfl ⟨⟨trivial, ⟨trivial, trivial⟩⟩, trivial⟩ ?_
    refine TL_end ?_
    refine TE_go ?_
    refine TC_seq ?_
    refine TC_cond rfl (fun hb => ?_) (fun hb => ?_)
    · replace h1 := bif_t h1 hb
      refine TC_skip ?_
      refine TE_go ?_
      refine TC_seq ?_
      refine TC_blk ?_
      refine TC_seq ?_
      refine TC_reg ?_
      refine TL_ev env 2 rfl ⟨trivial, ⟨trivial, trivial⟩⟩ ?_
      refine TL_end ?_
      refine TE_go ?_
      refine TC_seq ?_
      refine TC_reg ?_
      obtain ⟨g, h1⟩ := gd_t h1
      refine TL_ev env 6 rfl ⟨trivial, ⟨trivial, ⟨trivial, ⟨⟨trivial, ⟨trivial, ⟨g.1, g.2⟩⟩⟩, ⟨⟨trivial, trivial⟩, ⟨⟨trivial, ⟨trivial, trivial⟩⟩, trivial⟩⟩⟩⟩⟩⟩ ?_
      refine TL_end ?_
      refine TE_go ?_
      refine TC_cond rfl (fun hb => ?_) (fun hb => ?_)
      · replace h1 := bif_t h1 hb
        refine TC_seq ?_
        refine TC_reg ?_
        refine TL_ev env 2 rfl ⟨trivial, ⟨trivial, trivial⟩⟩ ?_
        refine TL_end ?_
        refine TE_go ?_
        refine TC_ret ?_
        refine tbr ?_
        refine tsr ?_
        refine tsr ?_
        refine tbr ?_
        refine tsr ?_
        refine tsr ?_
        obtain rfl := sinj h1
        obtain rfl := sinj h0
        exact TE_ret env rfl trivial trivial
      · replace h1 := bif_f h1 hb
        refine TC_skip ?_
        refine tbn ?_
        refine TE_go ?_
        refine TC_reg ?_
        refine TL_ev env 2 rfl ⟨⟨trivial, ⟨trivial, trivial⟩⟩, ⟨trivial, trivial⟩⟩ ?_
        refine TL_end ?_
        refine tsn ?_
        exact TE_nextr [] n (Nat.lt_succ_self n) _ h1 ⟨rfl, rfl, rfl, rfl, trivial⟩ trivial rfl
    · replace h1 := bif_f h1 hb
      refine TC_exit ?_
      refine tsx ?_
      refine tsx ?_
      refine tbe ?_
      obtain rfl := sinj h1
      refine tsn ?_
      exact SP_ren [] () rfl trivial trivial rfl
  · rintro ⟨⟩ rfl
    refine TE_go ?_
    refine TC_seq ?_
    refine TC_reg ?_
    refine TL_ev env 1 rfl ⟨trivial, trivial⟩ ?_
    refine TL_end ?_
    refine TE_go ?_
    refine TC_ret ?_
    obtain rfl := sinj h0
    exact TE_ret env rfl trivial trivial
theorem slices_Index_int_int.ok0 {K : Nat} {p0 : List (Int)} {p1 : Int} {q0 : Int} (h0 : slices_Index_int_int K p0 p1 = some q0) : Fn Try.prog 95 [.im (.slice (.int .i64)) p0, .int .i64 p1] [] (.int .i64 q0) [] := slices_Index_int_int.ok h0
theorem slices_Index_int_int.fnb : fnb Try.prog 95 = true := fnb_of Try.func95 rfl
def slices_Contains_int_int.res (_p0 : List (Int)) (_p1 : Int) : Bool → MV
  | q0 => .bool q0
def slices_Contains_int_int.out (_p0 : List (Int)) (_p1 : Int) : Bool → List (Nat × Option MObj)
  | _ => []
theorem slices_Contains_int_int.ok {K : Nat} {p0 : List (Int)} {p1 : Int} {r : Bool} (h0 : slices_Contains_int_int K p0 p1 = some r) : Fn Try.prog 130 [.im (.slice (.int .i64)) p0, .int .i64 p1] [] (slices_Contains_int_int.res p0 p1 r) (slices_Contains_int_int.out p0 p1 r) := by
  refine Fn_of Try.func130 rfl (Nat.le_of_ble_eq_true rfl) fun Γ => ?_
  refine TC_seq ?_
  refine TC_reg ?_
  refine TL_ev env 1 rfl ⟨trivial, trivial⟩ ?_
  refine TL_end ?_
  refine TE_go ?_
  refine TC_seq ?_
  refine TC_reg ?_
  refine TL_ev env 2 rfl ⟨trivial, ⟨trivial, trivial⟩⟩ ?_
  obtain ⟨r2, hr, h0⟩ := bnd h0
  refine TL_callB [] (slices_Index_int_int.ok0 hr) slices_Index_int_int.fnb rfl ⟨trivial, ⟨trivial, ⟨trivial, trivial⟩⟩⟩ rfl trivial rfl ?_
  refine TL_ev env 2 rfl ⟨⟨trivial, ⟨trivial, trivial⟩⟩, ⟨trivial, trivial⟩⟩ ?_
  refine TL_end ?_
  refine TE_go ?_
  refine TC_ret ?_
  obtain rfl := sinj h0
  exact TE_ret env rfl trivial trivial
theorem slices_Contains_int_int.ok0 {K : Nat} {p0 : List (Int)} {p1 : Int} {q0 : Bool} (h0 : slices_Contains_int_int K p0 p1 = some q0) : Fn Try.prog 130 [.im (.slice (.int .i64)) p0, .int .i64 p1] [] (.bool q0) [] := slices_Contains_int_int.ok h0
theorem slices_Contains_int_int.fnb : fnb Try.prog 130 = true := fnb_of Try.func130 rfl
def format_fields.res (_p0 : Int) (_p1 : Int) (_p2 : Int) (_p3 : Int) (_p4 : Int) (_p5 : Int) (_p6 : Int) (_p7 : Int) (_p8 : Int) (_p9 : Int) : Bool → MV
  | q0 => .bool q0
def format_fields.out (_p0 : Int) (_p1 : Int) (_p2 : Int) (_p3 : Int) (_p4 : Int) (_p5 : Int) (_p6 : Int) (_p7 : Int) (_p8 : Int) (_p9 : Int) : Bool → List (Nat × Option MObj)
  | _ => []
theorem format_fields.ok {K : Nat} {p0 : Int} {p1 : Int} {p2 : Int} {p3 : Int} {p4 : Int} {p5 : Int} {p6 : Int} {p7 : Int} {p8 : Int} {p9 : Int} {r : Bool} (h0 : format_fields K p0 p1 p2 p3 p4 p5 p6 p7 p8 p9 = some r) : Fn Try.prog 87 [.agg [.int .i64 p0, .int .i64 p1, .int .i64 p2, .int .i64 p3, .int .i64 p4, .int .i64 p5, .int .i64 p6, .int .i64 p7, .int .i64 p8, .int .i64 p9]] [] (format_fields.res p0 p1 p2 p3 p4 p5 p6 p7 p8 p9 r) (format_fields.out p0 p1 p2 p3 p4 p5 p6 p7 p8 p9 r) := by
  refine Fn_of Try.func87 rfl (Nat.le_of_ble_eq_true rfl) fun Γ => ?_
  refine TC_seq ?_
  refine TC_reg ?_
  refine TL_ev env 2 rfl ⟨trivial, ⟨trivial, trivial⟩⟩ ?_
  refine TL_end ?_
  refine TE_go ?_
  refine TC_seq ?_
  refine TC_renw (A' := [(1, .p 1001 0)]) (L' := [(1001, some (.cells [.int .i64 _, .int .i64 _, .int .i64 _, .int .i64 _, .int .i64 _, .int .i64 _, .int .i64 _, .int .i64 _, .int .i64 _, .int .i64 _]))]) [] ⟨rfl, trivial⟩ ⟨rfl, trivial⟩ rfl ?_
  refine TC_drawR ⟨_, fun i => ([[], [0], [1, 0], [], [3], [4, 3, 2, 1, 0], [5, 4, 3, 2, 1, 0], [6, 5, 4, 3, 2, 1, 0], [7, 6, 5, 4, 3, 2, 1, 0]] : List (List Nat)).getD i [], fun i => ([[], [], [], [], [], [], [1010], [1010], []] : List (List Nat)).getD i [], fun i => ([[], [], [], [], [], [], [1010], [], []] : List (List Nat)).getD i []⟩ (fun i => ([[], [], [], [], [], [], [], [], []] : List (List Nat)).getD i []) (by kernel_rfl) (by kernel_rfl) ?_
  refine AJR_ev env 1 rfl (Nat.le_of_ble_eq_true rfl) rfl trivial ?_
  refine AJR_ev env 2 rfl (Nat.le_of_ble_eq_true rfl) rfl ⟨trivial, trivial⟩ ?_
  obtain ⟨r64, hr, h0⟩ := bnd h0
  refine AJR_call 3 rfl (Nat.le_of_ble_eq_true rfl) [] rfl (format_within.ok0 hr) format_within.fnb rfl ⟨trivial, ⟨trivial, ⟨trivial, ⟨trivial, trivial⟩⟩⟩⟩ rfl trivial rfl ?_
  refine AJR_ev env 4 rfl (Nat.le_of_ble_eq_true rfl) rfl trivial ?_
  refine AJR_ev env 5 rfl (Nat.le_of_ble_eq_true rfl) rfl ⟨trivial, trivial⟩ ?_
  obtain ⟨r65, hr, h0⟩ := bnd h0
  refine AJR_call 6 rfl (Nat.le_of_ble_eq_true rfl) [] rfl (format_within.ok0 hr) format_within.fnb rfl ⟨trivial, ⟨trivial, ⟨trivial, ⟨trivial, trivial⟩⟩⟩⟩ rfl trivial rfl ?_
  refine AJR_ev env 7 rfl (Nat.le_of_ble_eq_true rfl) rfl ⟨trivial, ⟨trivial, trivial⟩⟩ ?_
  obtain ⟨r66, hr, h0⟩ := bnd h0
  refine AJR_call 8 rfl (Nat.le_of_ble_eq_true rfl) [(0, 1010)] rfl (format_all.ok0 hr) format_all.fnb rfl ⟨trivial, ⟨trivial, trivial⟩⟩ rfl ⟨.inr rfl, trivial⟩ rfl ?_
  refine AJR_ev env 9 rfl (Nat.le_of_ble_eq_true rfl) rfl trivial ?_
  refine AJR_end rfl rfl rfl ?_
  refine TE_go ?_
  refine TC_seq ?_
  refine TC_seq ?_
  refine TC_reg ?_
  refine TL_ev env 2 rfl ⟨trivial, ⟨⟨trivial, trivial⟩, trivial⟩⟩ ?_
  refine TL_end ?_
  refine TE_go ?_
  refine TC_blk ?_
  refine TC_seq ?_
  refine TC_reg ?_
  refine TL_ev env 2 rfl ⟨⟨trivial, ⟨trivial, trivial⟩⟩, ⟨trivial, trivial⟩⟩ ?_
  refine TL_end ?_
  refine TE_go ?_
  refine TC_cond rfl (fun hb => ?_) (fun hb => ?_)
  · replace h0 := bif_t h0 hb
    refine TC_seq ?_
    obtain ⟨z1, h1, h0⟩ := bnd h0
    refine TC_cut (α := Bool) (fun s => z1 = s) (fun s => [(2, .bool s)]) (fun s => []) ?_ ?_
    · refine TC_renw (A' := [(1, .p 1001 0), (3, .bool _)]) (L' := [(1001, some (.cells [.int .i64 _, .int .i64 _, .int .i64 _, .int .i64 _, .int .i64 _, .int .i64 _, .int .i64 _, .int .i64 _, .int .i64 _, .int .i64 _]))]) [] ⟨rfl, rfl, trivial⟩ ⟨rfl, trivial⟩ rfl ?_
      refine TC_drawR ⟨_, fun i => ([[], [0], [1, 0], [2, 1, 0], [3, 2, 1, 0], [4, 3, 2, 1, 0], [5, 4, 3, 2, 1, 0], [6, 5, 4, 3, 2, 1, 0], [7, 6, 5, 4, 3, 2, 1, 0], [8, 7, 6, 5, 4, 3, 2, 1, 0], [1, 0], [10, 1, 0], [11, 10, 1, 0], [12, 11, 10, 1, 0], [13, 12, 11, 10, 5, 4, 3, 2, 1, 0], [14, 13, 12, 11, 10, 5, 4, 3, 2, 1, 0], [15, 14, 13, 12, 11, 10, 5, 4, 3, 2, 1, 0], [16, 15, 14, 13, 12, 11, 10, 5, 4, 3, 2, 1, 0], [17, 16, 15, 14, 13, 12, 11, 10, 5, 4, 3, 2, 1, 0], [1, 0], [19, 1, 0], [20, 19, 17, 16, 15, 14, 13, 12, 11, 10, 5, 4, 3, 2, 1, 0], [1, 0], [22, 1, 0], [1, 0], [24, 1, 0], [25, 24, 1, 0], [26, 25, 24, 23, 22, 21, 20, 19, 17, 16, 15, 14, 13, 12, 11, 10, 5, 4, 3, 2, 1, 0], [1, 0], [28, 1, 0], [1, 0], [30, 1, 0], [31, 30, 1, 0], [1, 0], [33, 1, 0], [34, 33, 32, 31, 30, 1, 0], [35, 34, 33, 32, 31, 30, 1, 0], [36, 35, 34, 33, 32, 31, 30, 29, 28, 27, 26, 25, 24, 23, 22, 21, 20, 19, 17, 16, 15, 14, 13, 12, 11, 10, 5, 4, 3, 2, 1, 0], [1, 0], [38, 1, 0], [39, 38, 1, 0], [40, 39, 38, 37, 36, 35, 34, 33, 32, 31, 30, 29, 28, 27, 26, 25, 24, 23, 22, 21, 20, 19, 17, 16, 15, 14, 13, 12, 11, 10, 5, 4, 3, 2, 1, 0], [41, 40, 39, 38, 37, 36, 35, 34, 33, 32, 31, 30, 29, 28, 27, 26, 25, 24, 23, 22, 21, 20, 19, 17, 16, 15, 14, 13, 12, 11, 10, 5, 4, 3, 2, 1, 0], [42, 41, 40, 39, 38, 37, 36, 35, 34, 33, 32, 31, 30, 29, 28, 27, 26, 25, 24, 23, 22, 21, 20, 19, 17, 16, 15, 14, 13, 12, 11, 10, 5, 4, 3, 2, 1, 0], [43, 42, 41, 40, 39, 38, 37, 36, 35, 34, 33, 32, 31, 30, 29, 28, 27, 26, 25, 24, 23, 22, 21, 20, 19, 17, 16, 15, 14, 13, 12, 11, 10, 5, 4, 3, 2, 1, 0], [44, 43, 42, 41, 40, 39, 38, 37, 36, 35, 34, 33, 32, 31, 30, 29, 28, 27, 26, 25, 24, 23, 22, 21, 20, 19, 17, 16, 15, 14, 13, 12, 11, 10, 5, 4, 3, 2, 1, 0], [45, 44, 43, 42, 41, 40, 39, 38, 37, 36, 35, 34, 33, 32, 31, 30, 29, 28, 27, 26, 25, 24, 23, 22, 21, 20, 19, 18, 17, 16, 15, 14, 13, 12, 11, 10, 9, 8, 7, 6, 5, 4, 3, 2, 1, 0], [46, 45, 44, 43, 42, 41, 40, 39, 38, 37, 36, 35, 34, 33, 32, 31, 30, 29, 28, 27, 26, 25, 24, 23, 22, 21, 20, 19, 18, 17, 16, 15, 14, 13, 12, 11, 10, 9, 8, 7, 6, 5, 4, 3, 2, 1, 0], [47, 46, 45, 44, 43, 42, 41, 40, 39, 38, 37, 36, 35, 34, 33, 32, 31, 30, 29, 28, 27, 26, 25, 24, 23, 22, 21, 20, 19, 18, 17, 16, 15, 14, 13, 12, 11, 10, 9, 8, 7, 6, 5, 4, 3, 2, 1, 0], [48, 47, 46, 45, 44, 43, 42, 41, 40, 39, 38, 37, 36, 35, 34, 33, 32, 31, 30, 29, 28, 27, 26, 25, 24, 23, 22, 21, 20, 19, 18, 17, 16, 15, 14, 13, 12, 11, 10, 9, 8, 7, 6, 5, 4, 3, 2, 1, 0]] : List (List Nat)).getD i [], fun i => ([[], [], [], [], [], [], [], [], [], [], [], [], [], [], [], [], [], [], [], [], [], [], [], [], [], [], [], [], [], [], [], [], [], [], [], [], [], [], [], [], [], [], [], [], [], [], [1062], [1062], [], []] : List (List Nat)).getD i [], fun i => ([[], [], [], [], [], [], [], [], [], [], [], [], [], [], [], [], [], [], [], [], [], [], [], [], [], [], [], [], [], [], [], [], [], [], [], [], [], [], [], [], [], [], [], [], [], [], [1062], [], [], []] : List (List Nat)).getD i []⟩ (fun i => ([[], [], [], [], [], [], [], [], [], [], [], [], [], [], [], [], [], [], [], [], [], [], [], [], [], [], [], [], [], [], [], [], [], [], [], [], [], [], [], [], [], [], [], [], [], [], [], [], [], []] : List (List Nat)).getD i []) (by kernel_rfl) (by kernel_rfl) ?_
      refine AJR_ev env 1 rfl (Nat.le_of_ble_eq_true rfl) rfl trivial ?_
      refine AJR_ev env 2 rfl (Nat.le_of_ble_eq_true rfl) rfl trivial ?_
      refine bif_split h1 (fun hb115 h1 => ?_) (fun hb115 h1 => ?_)
      · refine AJR_gev env 3 rfl (Nat.le_of_ble_eq_true rfl) hb115 rfl rfl rfl rfl rfl rfl trivial ?_
        refine AJR_gev env 4 rfl (Nat.le_of_ble_eq_true rfl) hb115 rfl rfl rfl rfl rfl rfl ⟨trivial, trivial⟩ ?_
        refine AJR_gev env 5 rfl (Nat.le_of_ble_eq_true rfl) hb115 rfl rfl rfl rfl rfl rfl ⟨trivial, ⟨trivial, trivial⟩⟩ ?_
        refine AJR_gev env 6 rfl (Nat.le_of_ble_eq_true rfl) hb115 rfl rfl rfl rfl rfl rfl trivial ?_
        refine AJR_ev env 7 rfl (Nat.le_of_ble_eq_true rfl) rfl (fun eg => trivial) ?_
        refine AJR_ev env 8 rfl (Nat.le_of_ble_eq_true rfl) rfl (fun eg => ⟨fun e => e, trivial⟩) ?_
        refine AJR_ev env 9 rfl (Nat.le_of_ble_eq_true rfl) rfl (fun eg => ⟨fun e => e, ⟨trivial, trivial⟩⟩) ?_
        refine AJR_gev env 10 rfl (Nat.le_of_ble_eq_true rfl) hb115 rfl rfl rfl rfl rfl rfl ⟨trivial, ⟨trivial, fun e => e⟩⟩ ?_
        refine AJR_gev env 11 rfl (Nat.le_of_ble_eq_true rfl) hb115 rfl rfl rfl rfl rfl rfl trivial ?_
        refine AJR_gev env 12 rfl (Nat.le_of_ble_eq_true rfl) hb115 rfl rfl rfl rfl rfl rfl ⟨trivial, trivial⟩ ?_
        refine AJR_gev env 13 rfl (Nat.le_of_ble_eq_true rfl) hb115 rfl rfl rfl rfl rfl rfl ⟨trivial, ⟨trivial, (by decide)⟩⟩ ?_
        refine AJR_gev env 14 rfl (Nat.le_of_ble_eq_true rfl) hb115 rfl rfl rfl rfl rfl rfl ⟨trivial, ⟨trivial, trivial⟩⟩ ?_
        refine AJR_gev env 15 rfl (Nat.le_of_ble_eq_true rfl) hb115 rfl rfl rfl rfl rfl rfl trivial ?_
        refine bif_split h1 (fun hb118 h1 => ?_) (fun hb118 h1 => ?_)
        · refine AJR_gev env 16 rfl (Nat.le_of_ble_eq_true rfl) hb118 rfl rfl rfl rfl rfl rfl trivial ?_
          refine AJR_gev env 17 rfl (Nat.le_of_ble_eq_true rfl) hb118 rfl rfl rfl rfl rfl rfl ⟨trivial, trivial⟩ ?_
          obtain ⟨r119, hr, h1⟩ := bnd h1
          refine AJR_gcall 18 rfl (Nat.le_of_ble_eq_true rfl) hb118 [] rfl rfl rfl rfl rfl (format_within.ok0 hr) format_within.fnb rfl ⟨trivial, ⟨trivial, ⟨trivial, ⟨trivial, trivial⟩⟩⟩⟩ rfl trivial rfl ?_
          refine AJR_gev env 19 rfl (Nat.le_of_ble_eq_true rfl) hb115 rfl rfl rfl rfl rfl rfl ⟨trivial, ⟨trivial, trivial⟩⟩ ?_
          refine AJR_gev env 20 rfl (Nat.le_of_ble_eq_true rfl) hb115 rfl rfl rfl rfl rfl rfl trivial ?_
          refine AJR_gev env 21 rfl (Nat.le_of_ble_eq_true rfl) hb115 rfl rfl rfl rfl rfl rfl ⟨trivial, trivial⟩ ?_
          obtain ⟨r121, hr, h1⟩ := bnd h1
          refine AJR_gcall 22 rfl (Nat.le_of_ble_eq_true rfl) hb115 [] rfl rfl rfl rfl rfl (format_within.ok0 hr) format_within.fnb rfl ⟨trivial, ⟨trivial, ⟨trivial, ⟨trivial, trivial⟩⟩⟩⟩ rfl trivial rfl ?_
          refine AJR_gev env 23 rfl (Nat.le_of_ble_eq_true rfl) hb115 rfl rfl rfl rfl rfl rfl trivial ?_
          refine AJR_gev env 24 rfl (Nat.le_of_ble_eq_true rfl) hb115 rfl rfl rfl rfl rfl rfl ⟨trivial, trivial⟩ ?_
          refine AJR_gev env 25 rfl (Nat.le_of_ble_eq_true rfl) hb115 rfl rfl rfl rfl rfl rfl trivial ?_
          refine AJR_gev env 26 rfl (Nat.le_of_ble_eq_true rfl) hb115 rfl rfl rfl rfl rfl rfl ⟨trivial, trivial⟩ ?_
          refine AJR_gev env 27 rfl (Nat.le_of_ble_eq_true rfl) hb115 rfl rfl rfl rfl rfl rfl ⟨trivial, ⟨trivial, trivial⟩⟩ ?_
          obtain ⟨r123, hr, h1⟩ := bnd h1
          refine AJR_gcall 28 rfl (Nat.le_of_ble_eq_true rfl) hb115 [] rfl rfl rfl rfl rfl (format_within.ok0 hr) format_within.fnb rfl ⟨trivial, ⟨trivial, ⟨trivial, ⟨trivial, trivial⟩⟩⟩⟩ rfl trivial rfl ?_
          refine AJR_gev env 29 rfl (Nat.le_of_ble_eq_true rfl) hb115 rfl rfl rfl rfl rfl rfl trivial ?_
          refine AJR_gev env 30 rfl (Nat.le_of_ble_eq_true rfl) hb115 rfl rfl rfl rfl rfl rfl ⟨trivial, trivial⟩ ?_
          refine AJR_gev env 31 rfl (Nat.le_of_ble_eq_true rfl) hb115 rfl rfl rfl rfl rfl rfl trivial ?_
          refine AJR_gev env 32 rfl (Nat.le_of_ble_eq_true rfl) hb115 rfl rfl rfl rfl rfl rfl ⟨trivial, trivial⟩ ?_
          refine AJR_gev env 33 rfl (Nat.le_of_ble_eq_true rfl) hb115 rfl rfl rfl rfl rfl rfl ⟨trivial, ⟨trivial, trivial⟩⟩ ?_
          refine AJR_gev env 34 rfl (Nat.le_of_ble_eq_true rfl) hb115 rfl rfl rfl rfl rfl rfl trivial ?_
          refine AJR_gev env 35 rfl (Nat.le_of_ble_eq_true rfl) hb115 rfl rfl rfl rfl rfl rfl ⟨trivial, trivial⟩ ?_
          refine AJR_gev env 36 rfl (Nat.le_of_ble_eq_true rfl) hb115 rfl rfl rfl rfl rfl rfl ⟨trivial, ⟨trivial, trivial⟩⟩ ?_
          refine AJR_gev env 37 rfl (Nat.le_of_ble_eq_true rfl) hb115 rfl rfl rfl rfl rfl rfl ⟨trivial, ⟨trivial, trivial⟩⟩ ?_
          obtain ⟨r127, hr, h1⟩ := bnd h1
          refine AJR_gcall 38 rfl (Nat.le_of_ble_eq_true rfl) hb115 [] rfl rfl rfl rfl rfl (format_within.ok0 hr) format_within.fnb rfl ⟨trivial, ⟨trivial, ⟨trivial, ⟨trivial, trivial⟩⟩⟩⟩ rfl trivial rfl ?_
          refine AJR_gev env 39 rfl (Nat.le_of_ble_eq_true rfl) hb115 rfl rfl rfl rfl rfl rfl trivial ?_
          refine AJR_gev env 40 rfl (Nat.le_of_ble_eq_true rfl) hb115 rfl rfl rfl rfl rfl rfl ⟨trivial, trivial⟩ ?_
          refine AJR_gev env 41 rfl (Nat.le_of_ble_eq_true rfl) hb115 rfl rfl rfl rfl rfl rfl ⟨trivial, ⟨trivial, trivial⟩⟩ ?_
          refine AJR_gev env 42 rfl (Nat.le_of_ble_eq_true rfl) hb115 rfl rfl rfl rfl rfl rfl trivial ?_
          refine AJR_ev env 43 rfl (Nat.le_of_ble_eq_true rfl) rfl (fun eg => trivial) ?_
          refine AJR_ev env 44 rfl (Nat.le_of_ble_eq_true rfl) rfl (fun eg => ⟨fun e => e, trivial⟩) ?_
          refine AJR_ev env 45 rfl (Nat.le_of_ble_eq_true rfl) rfl (fun eg => ⟨fun e => e, ⟨trivial, trivial⟩⟩) ?_
          refine AJR_gev env 46 rfl (Nat.le_of_ble_eq_true rfl) hb115 rfl rfl rfl rfl rfl rfl ⟨trivial, ⟨fun e => e, trivial⟩⟩ ?_
          refine AJR_gev env 47 rfl (Nat.le_of_ble_eq_true rfl) hb115 rfl rfl rfl rfl rfl rfl ⟨trivial, ⟨trivial, ⟨trivial, ⟨trivial, ⟨trivial, ⟨trivial, trivial⟩⟩⟩⟩⟩⟩ ?_
          obtain ⟨r130, hr, h1⟩ := bnd h1
          refine AJR_gcall 48 rfl (Nat.le_of_ble_eq_true rfl) hb115 [(0, 1062)] rfl rfl rfl rfl rfl (format_all.ok0 hr) format_all.fnb rfl ⟨trivial, ⟨trivial, trivial⟩⟩ rfl ⟨.inr rfl, trivial⟩ rfl ?_
          refine AJR_ev env 49 rfl (Nat.le_of_ble_eq_true rfl) rfl ⟨trivial, ⟨trivial, trivial⟩⟩ ?_
          refine AJR_ev env 50 rfl (Nat.le_of_ble_eq_true rfl) rfl trivial ?_
          refine AJR_end rfl rfl rfl ?_
          obtain rfl := sinj h1
          refine tsn ?_
          exact SP_ren [] _ rfl ⟨rfl, trivial⟩ trivial rfl
        · refine AJR_gskip (.bool false) 16 rfl (Nat.le_of_ble_eq_true rfl) hb118 rfl rfl rfl rfl rfl rfl (by decide) ?_
          refine AJR_gskip (.bool false) 17 rfl (Nat.le_of_ble_eq_true rfl) hb118 rfl rfl rfl rfl rfl rfl (by decide) ?_
          refine AJR_gskip (.bool false) 18 rfl (Nat.le_of_ble_eq_true rfl) hb118 rfl rfl rfl rfl rfl rfl (by decide) ?_
          refine AJR_gev env 19 rfl (Nat.le_of_ble_eq_true rfl) hb115 rfl rfl rfl rfl rfl rfl ⟨trivial, ⟨fun e => (tff (e.symm.trans hb118)).elim, trivial⟩⟩ ?_
          refine AJR_gev env 20 rfl (Nat.le_of_ble_eq_true rfl) hb115 rfl rfl rfl rfl rfl rfl trivial ?_
          refine AJR_gev env 21 rfl (Nat.le_of_ble_eq_true rfl) hb115 rfl rfl rfl rfl rfl rfl ⟨trivial, trivial⟩ ?_
          obtain ⟨r133, hr, h1⟩ := bnd h1
          refine AJR_gcall 22 rfl (Nat.le_of_ble_eq_true rfl) hb115 [] rfl rfl rfl rfl rfl (format_within.ok0 hr) format_within.fnb rfl ⟨trivial, ⟨trivial, ⟨trivial, ⟨trivial, trivial⟩⟩⟩⟩ rfl trivial rfl ?_
          refine AJR_gev env 23 rfl (Nat.le_of_ble_eq_true rfl) hb115 rfl rfl rfl rfl rfl rfl trivial ?_
          refine AJR_gev env 24 rfl (Nat.le_of_ble_eq_true rfl) hb115 rfl rfl rfl rfl rfl rfl ⟨trivial, trivial⟩ ?_
          refine AJR_gev env 25 rfl (Nat.le_of_ble_eq_true rfl) hb115 rfl rfl rfl rfl rfl rfl trivial ?_
          refine AJR_gev env 26 rfl (Nat.le_of_ble_eq_true rfl) hb115 rfl rfl rfl rfl rfl rfl ⟨trivial, trivial⟩ ?_
          refine AJR_gev env 27 rfl (Nat.le_of_ble_eq_true rfl) hb115 rfl rfl rfl rfl rfl rfl ⟨trivial, ⟨trivial, trivial⟩⟩ ?_
          obtain ⟨r135, hr, h1⟩ := bnd h1
          refine AJR_gcall 28 rfl (Nat.le_of_ble_eq_true rfl) hb115 [] rfl rfl rfl rfl rfl (format_within.ok0 hr) format_within.fnb rfl ⟨trivial, ⟨trivial, ⟨trivial, ⟨trivial, trivial⟩⟩⟩⟩ rfl trivial rfl ?_
          refine AJR_gev env 29 rfl (Nat.le_of_ble_eq_true rfl) hb115 rfl rfl rfl rfl rfl rfl trivial ?_
          refine AJR_gev env 30 rfl (Nat.le_of_ble_eq_true rfl) hb115 rfl rfl rfl rfl rfl rfl ⟨trivial, trivial⟩ ?_
          refine AJR_gev env 31 rfl (Nat.le_of_ble_eq_true rfl) hb115 rfl rfl rfl rfl rfl rfl trivial ?_
          refine AJR_gev env 32 rfl (Nat.le_of_ble_eq_true rfl) hb115 rfl rfl rfl rfl rfl rfl ⟨trivial, trivial⟩ ?_
          refine AJR_gev env 33 rfl (Nat.le_of_ble_eq_true rfl) hb115 rfl rfl rfl rfl rfl rfl ⟨trivial, ⟨trivial, trivial⟩⟩ ?_
          refine AJR_gev env 34 rfl (Nat.le_of_ble_eq_true rfl) hb115 rfl rfl rfl rfl rfl rfl trivial ?_
          refine AJR_gev env 35 rfl (Nat.le_of_ble_eq_true rfl) hb115 rfl rfl rfl rfl rfl rfl ⟨trivial, trivial⟩ ?_
          refine AJR_gev env 36 rfl (Nat.le_of_ble_eq_true rfl) hb115 rfl rfl rfl rfl rfl rfl ⟨trivial, ⟨trivial, trivial⟩⟩ ?_
          refine AJR_gev env 37 rfl (Nat.le_of_ble_eq_true rfl) hb115 rfl rfl rfl rfl rfl rfl ⟨trivial, ⟨trivial, trivial⟩⟩ ?_
          obtain ⟨r139, hr, h1⟩ := bnd h1
          refine AJR_gcall 38 rfl (Nat.le_of_ble_eq_true rfl) hb115 [] rfl rfl rfl rfl rfl (format_within.ok0 hr) format_within.fnb rfl ⟨trivial, ⟨trivial, ⟨trivial, ⟨trivial, trivial⟩⟩⟩⟩ rfl trivial rfl ?_
          refine AJR_gev env 39 rfl (Nat.le_of_ble_eq_true rfl) hb115 rfl rfl rfl rfl rfl rfl trivial ?_
          refine AJR_gev env 40 rfl (Nat.le_of_ble_eq_true rfl) hb115 rfl rfl rfl rfl rfl rfl ⟨trivial, trivial⟩ ?_
          refine AJR_gev env 41 rfl (Nat.le_of_ble_eq_true rfl) hb115 rfl rfl rfl rfl rfl rfl ⟨trivial, ⟨trivial, trivial⟩⟩ ?_
          refine AJR_gev env 42 rfl (Nat.le_of_ble_eq_true rfl) hb115 rfl rfl rfl rfl rfl rfl trivial ?_
          refine AJR_ev env 43 rfl (Nat.le_of_ble_eq_true rfl) rfl (fun eg => trivial) ?_
          refine AJR_ev env 44 rfl (Nat.le_of_ble_eq_true rfl) rfl (fun eg => ⟨fun e => e, trivial⟩) ?_
          refine AJR_ev env 45 rfl (Nat.le_of_ble_eq_true rfl) rfl (fun eg => ⟨fun e => e, ⟨trivial, trivial⟩⟩) ?_
          refine AJR_gev env 46 rfl (Nat.le_of_ble_eq_true rfl) hb115 rfl rfl rfl rfl rfl rfl ⟨trivial, ⟨fun e => e, trivial⟩⟩ ?_
          refine AJR_gev env 47 rfl (Nat.le_of_ble_eq_true rfl) hb115 rfl rfl rfl rfl rfl rfl ⟨trivial, ⟨trivial, ⟨trivial, ⟨trivial, ⟨trivial, ⟨trivial, trivial⟩⟩⟩⟩⟩⟩ ?_
          obtain ⟨r142, hr, h1⟩ := bnd h1
          refine AJR_gcall 48 rfl (Nat.le_of_ble_eq_true rfl) hb115 [(0, 1062)] rfl rfl rfl rfl rfl (format_all.ok0 hr) format_all.fnb rfl ⟨trivial, ⟨trivial, trivial⟩⟩ rfl ⟨.inr rfl, trivial⟩ rfl ?_
          refine AJR_ev env 49 rfl (Nat.le_of_ble_eq_true rfl) rfl ⟨trivial, ⟨trivial, trivial⟩⟩ ?_
          refine AJR_ev env 50 rfl (Nat.le_of_ble_eq_true rfl) rfl trivial ?_
          refine AJR_end rfl rfl rfl ?_
          obtain rfl := sinj h1
          refine tsn ?_
          exact SP_ren [] _ rfl ⟨rfl, trivial⟩ trivial rfl
      · refine AJR_gskip (.bool false) 3 rfl (Nat.le_of_ble_eq_true rfl) hb115 rfl rfl rfl rfl rfl rfl (by decide) ?_
        refine AJR_gskip (.bool false) 4 rfl (Nat.le_of_ble_eq_true rfl) hb115 rfl rfl rfl rfl rfl rfl (by decide) ?_
        refine AJR_gskip (.bool false) 5 rfl (Nat.le_of_ble_eq_true rfl) hb115 rfl rfl rfl rfl rfl rfl (by decide) ?_
        refine AJR_gskip (.bool false) 6 rfl (Nat.le_of_ble_eq_true rfl) hb115 rfl rfl rfl rfl rfl rfl (by decide) ?_
        refine AJR_gskipU (.bool false) 7 rfl (Nat.le_of_ble_eq_true rfl) rfl rfl rfl rfl rfl rfl (by decide) ?_
        refine AJR_gskipU (.bool false) 8 rfl (Nat.le_of_ble_eq_true rfl) rfl rfl rfl rfl rfl rfl (by decide) ?_
        refine AJR_gskipU (.bool false) 9 rfl (Nat.le_of_ble_eq_true rfl) rfl rfl rfl rfl rfl rfl (by decide) ?_
        refine AJR_gskip (.bool false) 10 rfl (Nat.le_of_ble_eq_true rfl) hb115 rfl rfl rfl rfl rfl rfl (by decide) ?_
        refine AJR_gskip (.bool false) 11 rfl (Nat.le_of_ble_eq_true rfl) hb115 rfl rfl rfl rfl rfl rfl (by decide) ?_
        refine AJR_gskip (.bool false) 12 rfl (Nat.le_of_ble_eq_true rfl) hb115 rfl rfl rfl rfl rfl rfl (by decide) ?_
        refine AJR_gskip (.bool false) 13 rfl (Nat.le_of_ble_eq_true rfl) hb115 rfl rfl rfl rfl rfl rfl (by decide) ?_
        refine AJR_gskip (.bool false) 14 rfl (Nat.le_of_ble_eq_true rfl) hb115 rfl rfl rfl rfl rfl rfl (by decide) ?_
        refine AJR_gskip (.bool false) 15 rfl (Nat.le_of_ble_eq_true rfl) hb115 rfl rfl rfl rfl rfl rfl (by decide) ?_
        refine AJR_gskipU (.bool false) 16 rfl (Nat.le_of_ble_eq_true rfl) rfl rfl rfl rfl rfl rfl (by decide) ?_
        refine AJR_gskipU (.bool false) 17 rfl (Nat.le_of_ble_eq_true rfl) rfl rfl rfl rfl rfl rfl (by decide) ?_
        refine AJR_gskipU (.bool false) 18 rfl (Nat.le_of_ble_eq_true rfl) rfl rfl rfl rfl rfl rfl (by decide) ?_
        refine AJR_gskip (.bool false) 19 rfl (Nat.le_of_ble_eq_true rfl) hb115 rfl rfl rfl rfl rfl rfl (by decide) ?_
        refine AJR_gskip (.bool false) 20 rfl (Nat.le_of_ble_eq_true rfl) hb115 rfl rfl rfl rfl rfl rfl (by decide) ?_
        refine AJR_gskip (.bool false) 21 rfl (Nat.le_of_ble_eq_true rfl) hb115 rfl rfl rfl rfl rfl rfl (by decide) ?_
        refine AJR_gskip (.bool false) 22 rfl (Nat.le_of_ble_eq_true rfl) hb115 rfl rfl rfl rfl rfl rfl (by decide) ?_
        refine AJR_gskip (.bool false) 23 rfl (Nat.le_of_ble_eq_true rfl) hb115 rfl rfl rfl rfl rfl rfl (by decide) ?_
        refine AJR_gskip (.bool false) 24 rfl (Nat.le_of_ble_eq_true rfl) hb115 rfl rfl rfl rfl rfl rfl (by decide) ?_
        refine AJR_gskip (.bool false) 25 rfl (Nat.le_of_ble_eq_true rfl) hb115 rfl rfl rfl rfl rfl rfl (by decide) ?_
        refine AJR_gskip (.bool false) 26 rfl (Nat.le_of_ble_eq_true rfl) hb115 rfl rfl rfl rfl rfl rfl (by decide) ?_
        refine AJR_gskip (.bool false) 27 rfl (Nat.le_of_ble_eq_true rfl) hb115 rfl rfl rfl rfl rfl rfl (by decide) ?_
        refine AJR_gskip (.bool false) 28 rfl (Nat.le_of_ble_eq_true rfl) hb115 rfl rfl rfl rfl rfl rfl (by decide) ?_
        refine AJR_gskip (.bool false) 29 rfl (Nat.le_of_ble_eq_true rfl) hb115 rfl rfl rfl rfl rfl rfl (by decide) ?_
        refine AJR_gskip (.bool false) 30 rfl (Nat.le_of_ble_eq_true rfl) hb115 rfl rfl rfl rfl rfl rfl (by decide) ?_
        refine AJR_gskip (.bool false) 31 rfl (Nat.le_of_ble_eq_true rfl) hb115 rfl rfl rfl rfl rfl rfl (by decide) ?_
        refine AJR_gskip (.bool false) 32 rfl (Nat.le_of_ble_eq_true rfl) hb115 rfl rfl rfl rfl rfl rfl (by decide) ?_
        refine AJR_gskip (.bool false) 33 rfl (Nat.le_of_ble_eq_true rfl) hb115 rfl rfl rfl rfl rfl rfl (by decide) ?_
        refine AJR_gskip (.bool false) 34 rfl (Nat.le_of_ble_eq_true rfl) hb115 rfl rfl rfl rfl rfl rfl (by decide) ?_
        refine AJR_gskip (.bool false) 35 rfl (Nat.le_of_ble_eq_true rfl) hb115 rfl rfl rfl rfl rfl rfl (by decide) ?_
        refine AJR_gskip (.bool false) 36 rfl (Nat.le_of_ble_eq_true rfl) hb115 rfl rfl rfl rfl rfl rfl (by decide) ?_
        refine AJR_gskip (.bool false) 37 rfl (Nat.le_of_ble_eq_true rfl) hb115 rfl rfl rfl rfl rfl rfl (by decide) ?_
        refine AJR_gskip (.bool false) 38 rfl (Nat.le_of_ble_eq_true rfl) hb115 rfl rfl rfl rfl rfl rfl (by decide) ?_
        refine AJR_gskip (.bool false) 39 rfl (Nat.le_of_ble_eq_true rfl) hb115 rfl rfl rfl rfl rfl rfl (by decide) ?_
        refine AJR_gskip (.bool false) 40 rfl (Nat.le_of_ble_eq_true rfl) hb115 rfl rfl rfl rfl rfl rfl (by decide) ?_
        refine AJR_gskip (.bool false) 41 rfl (Nat.le_of_ble_eq_true rfl) hb115 rfl rfl rfl rfl rfl rfl (by decide) ?_
        refine AJR_gskip (.bool false) 42 rfl (Nat.le_of_ble_eq_true rfl) hb115 rfl rfl rfl rfl rfl rfl (by decide) ?_
        refine AJR_gskipU (.bool false) 43 rfl (Nat.le_of_ble_eq_true rfl) rfl rfl rfl rfl rfl rfl (by decide) ?_
        refine AJR_gskipU (.bool false) 44 rfl (Nat.le_of_ble_eq_true rfl) rfl rfl rfl rfl rfl rfl (by decide) ?_
        refine AJR_gskipU (.bool false) 45 rfl (Nat.le_of_ble_eq_true rfl) rfl rfl rfl rfl rfl rfl (by decide) ?_
        refine AJR_gskip (.bool false) 46 rfl (Nat.le_of_ble_eq_true rfl) hb115 rfl rfl rfl rfl rfl rfl (by decide) ?_
        refine AJR_gskip (.bool false) 47 rfl (Nat.le_of_ble_eq_true rfl) hb115 rfl rfl rfl rfl rfl rfl (by decide) ?_
        refine AJR_gskip (.bool false) 48 rfl (Nat.le_of_ble_eq_true rfl) hb115 rfl rfl rfl rfl rfl rfl (by decide) ?_
        refine AJR_ev env 49 rfl (Nat.le_of_ble_eq_true rfl) rfl ⟨trivial, ⟨fun e => (tff (e.symm.trans hb115)).elim, trivial⟩⟩ ?_
        refine AJR_ev env 50 rfl (Nat.le_of_ble_eq_true rfl) rfl trivial ?_
        refine AJR_end rfl rfl rfl ?_
        obtain rfl := sinj h1
        refine tsn ?_
        exact SP_ren [] _ rfl ⟨rfl, trivial⟩ trivial rfl
    · rintro x114 hz
      obtain rfl := hz.symm
      refine TE_go ?_
      refine TC_ret ?_
      refine tbr ?_
      refine tsr ?_
      obtain rfl := sinj h0
      exact TE_ret env rfl trivial trivial
  · replace h0 := bif_f h0 hb
    refine TC_seq ?_
    refine TC_reg ?_
    refine TL_ev env 2 rfl ⟨⟨trivial, ⟨trivial, trivial⟩⟩, ⟨trivial, trivial⟩⟩ ?_
    refine TL_end ?_
    refine TE_go ?_
    refine TC_cond rfl (fun hb => ?_) (fun hb => ?_)
    · replace h0 := bif_t h0 hb
      refine TC_seq ?_
      obtain ⟨z1, h1, h0⟩ := bnd h0
      refine TC_cut (α := Bool) (fun s => z1 = s) (fun s => [(2, .bool s)]) (fun s => []) ?_ ?_
      · refine TC_renw (A' := [(1, .p 1001 0), (3, .bool _)]) (L' := [(1001, some (.cells [.int .i64 _, .int .i64 _, .int .i64 _, .int .i64 _, .int .i64 _, .int .i64 _, .int .i64 _, .int .i64 _, .int .i64 _, .int .i64 _]))]) [] ⟨rfl, rfl, trivial⟩ ⟨rfl, trivial⟩ rfl ?_
        refine TC_drawR ⟨_, fun i => ([[], [0], [1, 0], [1, 0], [3, 1, 0], [4, 3, 2, 1, 0], [1, 0], [6, 1, 0], [7, 6, 5, 4, 3, 2, 1, 0], [1, 0], [9, 1, 0], [10, 9, 1, 0], [11, 10, 9, 8, 7, 6, 5, 4, 3, 2, 1, 0], [12, 11, 10, 9, 8, 7, 6, 5, 4, 3, 2, 1, 0], [13, 12, 11, 10, 9, 8, 7, 6, 5, 4, 3, 2, 1, 0], [14, 13, 12, 11, 10, 9, 8, 7, 6, 5, 4, 3, 2, 1, 0], [15, 14, 13, 12, 11, 10, 9, 8, 7, 6, 5, 4, 3, 2, 1, 0], [16, 15, 14, 13, 12, 11, 10, 9, 8, 7, 6, 5, 4, 3, 2, 1, 0], [17, 16, 15, 14, 13, 12, 11, 10, 9, 8, 7, 6, 5, 4, 3, 2, 1, 0], [18, 17, 16, 15, 14, 13, 12, 11, 10, 9, 8, 7, 6, 5, 4, 3, 2, 1, 0], [19, 18, 17, 16, 15, 14, 13, 12, 11, 10, 9, 8, 7, 6, 5, 4, 3, 2, 1, 0], [20, 19, 18, 17, 16, 15, 14, 13, 12, 11, 10, 9, 8, 7, 6, 5, 4, 3, 2, 1, 0], [21, 20, 19, 18, 17, 16, 15, 14, 13, 12, 11, 10, 9, 8, 7, 6, 5, 4, 3, 2, 1, 0], [22, 21, 20, 19, 18, 17, 16, 15, 14, 13, 12, 11, 10, 9, 8, 7, 6, 5, 4, 3, 2, 1, 0], [23, 22, 21, 20, 19, 18, 17, 16, 15, 14, 13, 12, 11, 10, 9, 8, 7, 6, 5, 4, 3, 2, 1, 0], [24, 23, 22, 21, 20, 19, 18, 17, 16, 15, 14, 13, 12, 11, 10, 9, 8, 7, 6, 5, 4, 3, 2, 1, 0], [25, 24, 23, 22, 21, 20, 19, 18, 17, 16, 15, 14, 13, 12, 11, 10, 9, 8, 7, 6, 5, 4, 3, 2, 1, 0], [26, 25, 24, 23, 22, 21, 20, 19, 18, 17, 16, 15, 14, 13, 12, 11, 10, 9, 8, 7, 6, 5, 4, 3, 2, 1, 0], [27, 26, 25, 24, 23, 22, 21, 20, 19, 18, 17, 16, 15, 14, 13, 12, 11, 10, 9, 8, 7, 6, 5, 4, 3, 2, 1, 0], [28, 27, 26, 25, 24, 23, 22, 21, 20, 19, 18, 17, 16, 15, 14, 13, 12, 11, 10, 9, 8, 7, 6, 5, 4, 3, 2, 1, 0], [29, 28, 27, 26, 25, 24, 23, 22, 21, 20, 19, 18, 17, 16, 15, 14, 13, 12, 11, 10, 9, 8, 7, 6, 5, 4, 3, 2, 1, 0], [30, 29, 28, 27, 26, 25, 24, 23, 22, 21, 20, 19, 18, 17, 16, 15, 14, 13, 12, 11, 10, 9, 8, 7, 6, 5, 4, 3, 2, 1, 0], [31, 30, 29, 28, 27, 26, 25, 24, 23, 22, 21, 20, 19, 18, 17, 16, 15, 14, 13, 12, 11, 10, 9, 8, 7, 6, 5, 4, 3, 2, 1, 0], [32, 31, 30, 29, 28, 27, 26, 25, 24, 23, 22, 21, 20, 19, 18, 17, 16, 15, 14, 13, 12, 11, 10, 9, 8, 7, 6, 5, 4, 3, 2, 1, 0], [33, 32, 31, 30, 29, 28, 27, 26, 25, 24, 23, 22, 21, 20, 19, 18, 17, 16, 15, 14, 13, 12, 11, 10, 9, 8, 7, 6, 5, 4, 3, 2, 1, 0], [34, 33, 32, 31, 30, 29, 28, 27, 26, 25, 24, 23, 22, 21, 20, 19, 18, 17, 16, 15, 14, 13, 12, 11, 10, 9, 8, 7, 6, 5, 4, 3, 2, 1, 0]] : List (List Nat)).getD i [], fun i => ([[], [], [], [], [], [], [], [], [], [], [], [], [], [], [], [], [], [], [], [], [], [], [], [], [], [], [], [], [], [], [], [], [1099], [1099], [], []] : List (List Nat)).getD i [], fun i => ([[], [], [], [], [], [], [], [], [], [], [], [], [], [], [], [], [], [], [], [], [], [], [], [], [], [], [], [], [], [], [], [], [1099], [], [], []] : List (List Nat)).getD i []⟩ (fun i => ([[], [], [], [], [], [], [], [], [], [], [], [], [], [], [], [], [], [], [], [], [], [], [], [], [], [], [], [], [], [], [], [], [], [], [], []] : List (List Nat)).getD i []) (by kernel_rfl) (by kernel_rfl) ?_
        refine AJR_ev env 1 rfl (Nat.le_of_ble_eq_true rfl) rfl trivial ?_
        refine AJR_ev env 2 rfl (Nat.le_of_ble_eq_true rfl) rfl trivial ?_
        refine bif_split h1 (fun hb157 h1 => ?_) (fun hb157 h1 => ?_)
        · obtain ⟨r158, hr, h1⟩ := bnd h1
          refine AJR_gcall 3 rfl (Nat.le_of_ble_eq_true rfl) hb157 [] rfl rfl rfl rfl rfl (lapped_Lengths.ok0 hr) lapped_Lengths.fnb rfl ⟨trivial, trivial⟩ rfl trivial rfl ?_
          refine AJR_gev env 4 rfl (Nat.le_of_ble_eq_true rfl) hb157 rfl rfl rfl rfl rfl rfl trivial ?_
          refine AJR_gev env 5 rfl (Nat.le_of_ble_eq_true rfl) hb157 rfl rfl rfl rfl rfl rfl ⟨trivial, trivial⟩ ?_
          obtain ⟨r159, hr, h1⟩ := bnd h1
          refine AJR_gcall 6 rfl (Nat.le_of_ble_eq_true rfl) hb157 [] rfl rfl rfl rfl rfl (slices_Contains_int_int.ok0 hr) slices_Contains_int_int.fnb rfl ⟨trivial, ⟨trivial, ⟨trivial, trivial⟩⟩⟩ rfl trivial rfl ?_
          refine AJR_gev env 7 rfl (Nat.le_of_ble_eq_true rfl) hb157 rfl rfl rfl rfl rfl rfl trivial ?_
          refine AJR_gev env 8 rfl (Nat.le_of_ble_eq_true rfl) hb157 rfl rfl rfl rfl rfl rfl ⟨trivial, trivial⟩ ?_
          obtain ⟨r160, hr, h1⟩ := bnd h1
          refine AJR_gcall 9 rfl (Nat.le_of_ble_eq_true rfl) hb157 [] rfl rfl rfl rfl rfl (format_within.ok0 hr) format_within.fnb rfl ⟨trivial, ⟨trivial, ⟨trivial, ⟨trivial, trivial⟩⟩⟩⟩ rfl trivial rfl ?_
          refine AJR_gev env 10 rfl (Nat.le_of_ble_eq_true rfl) hb157 rfl rfl rfl rfl rfl rfl trivial ?_
          refine AJR_gev env 11 rfl (Nat.le_of_ble_eq_true rfl) hb157 rfl rfl rfl rfl rfl rfl ⟨trivial, trivial⟩ ?_
          refine AJR_gev env 12 rfl (Nat.le_of_ble_eq_true rfl) hb157 rfl rfl rfl rfl rfl rfl ⟨trivial, ⟨trivial, trivial⟩⟩ ?_
          refine AJR_gev env 13 rfl (Nat.le_of_ble_eq_true rfl) hb157 rfl rfl rfl rfl rfl rfl trivial ?_
          refine AJR_ev env 14 rfl (Nat.le_of_ble_eq_true rfl) rfl (fun eg => trivial) ?_
          refine AJR_ev env 15 rfl (Nat.le_of_ble_eq_true rfl) rfl (fun eg => ⟨fun e => e, trivial⟩) ?_
          refine AJR_ev env 16 rfl (Nat.le_of_ble_eq_true rfl) rfl (fun eg => ⟨fun e => e, ⟨trivial, trivial⟩⟩) ?_
          refine AJR_gev env 17 rfl (Nat.le_of_ble_eq_true rfl) hb157 rfl rfl rfl rfl rfl rfl ⟨trivial, ⟨fun e => e, trivial⟩⟩ ?_
          refine AJR_gev env 18 rfl (Nat.le_of_ble_eq_true rfl) hb157 rfl rfl rfl rfl rfl rfl trivial ?_
          refine AJR_ev env 19 rfl (Nat.le_of_ble_eq_true rfl) rfl (fun eg => trivial) ?_
          refine AJR_ev env 20 rfl (Nat.le_of_ble_eq_true rfl) rfl (fun eg => ⟨fun e => e, trivial⟩) ?_
          refine AJR_ev env 21 rfl (Nat.le_of_ble_eq_true rfl) rfl (fun eg => ⟨fun e => e, ⟨trivial, trivial⟩⟩) ?_
          refine AJR_gev env 22 rfl (Nat.le_of_ble_eq_true rfl) hb157 rfl rfl rfl rfl rfl rfl ⟨trivial, ⟨fun e => e, trivial⟩⟩ ?_
          refine AJR_gev env 23 rfl (Nat.le_of_ble_eq_true rfl) hb157 rfl rfl rfl rfl rfl rfl trivial ?_
          refine AJR_ev env 24 rfl (Nat.le_of_ble_eq_true rfl) rfl (fun eg => trivial) ?_
          refine AJR_ev env 25 rfl (Nat.le_of_ble_eq_true rfl) rfl (fun eg => ⟨fun e => e, trivial⟩) ?_
          refine AJR_ev env 26 rfl (Nat.le_of_ble_eq_true rfl) rfl (fun eg => ⟨fun e => e, ⟨trivial, trivial⟩⟩) ?_
          refine AJR_gev env 27 rfl (Nat.le_of_ble_eq_true rfl) hb157 rfl rfl rfl rfl rfl rfl ⟨trivial, ⟨fun e => e, trivial⟩⟩ ?_
          refine AJR_gev env 28 rfl (Nat.le_of_ble_eq_true rfl) hb157 rfl rfl rfl rfl rfl rfl trivial ?_
          refine AJR_ev env 29 rfl (Nat.le_of_ble_eq_true rfl) rfl (fun eg => trivial) ?_
          refine AJR_ev env 30 rfl (Nat.le_of_ble_eq_true rfl) rfl (fun eg => ⟨fun e => e, trivial⟩) ?_
          refine AJR_ev env 31 rfl (Nat.le_of_ble_eq_true rfl) rfl (fun eg => ⟨fun e => e, ⟨trivial, trivial⟩⟩) ?_
          refine AJR_gev env 32 rfl (Nat.le_of_ble_eq_true rfl) hb157 rfl rfl rfl rfl rfl rfl ⟨trivial, ⟨fun e => e, trivial⟩⟩ ?_
          refine AJR_gev env 33 rfl (Nat.le_of_ble_eq_true rfl) hb157 rfl rfl rfl rfl rfl rfl ⟨trivial, ⟨trivial, ⟨trivial, trivial⟩⟩⟩ ?_
          obtain ⟨r166, hr, h1⟩ := bnd h1
          refine AJR_gcall 34 rfl (Nat.le_of_ble_eq_true rfl) hb157 [(0, 1099)] rfl rfl rfl rfl rfl (format_all.ok0 hr) format_all.fnb rfl ⟨trivial, ⟨trivial, trivial⟩⟩ rfl ⟨.inr rfl, trivial⟩ rfl ?_
          refine AJR_ev env 35 rfl (Nat.le_of_ble_eq_true rfl) rfl ⟨trivial, ⟨trivial, trivial⟩⟩ ?_
          refine AJR_ev env 36 rfl (Nat.le_of_ble_eq_true rfl) rfl trivial ?_
          refine AJR_end rfl rfl rfl ?_
          obtain rfl := sinj h1
          refine tsn ?_
          exact SP_ren [] _ rfl ⟨rfl, trivial⟩ trivial rfl
        · refine AJR_gskip (.bool false) 3 rfl (Nat.le_of_ble_eq_true rfl) hb157 rfl rfl rfl rfl rfl rfl (by decide) ?_
          refine AJR_gskip (.bool false) 4 rfl (Nat.le_of_ble_eq_true rfl) hb157 rfl rfl rfl rfl rfl rfl (by decide) ?_
          refine AJR_gskip (.bool false) 5 rfl (Nat.le_of_ble_eq_true rfl) hb157 rfl rfl rfl rfl rfl rfl (by decide) ?_
          refine AJR_gskip (.bool false) 6 rfl (Nat.le_of_ble_eq_true rfl) hb157 rfl rfl rfl rfl rfl rfl (by decide) ?_
          refine AJR_gskip (.bool false) 7 rfl (Nat.le_of_ble_eq_true rfl) hb157 rfl rfl rfl rfl rfl rfl (by decide) ?_
          refine AJR_gskip (.bool false) 8 rfl (Nat.le_of_ble_eq_true rfl) hb157 rfl rfl rfl rfl rfl rfl (by decide) ?_
          refine AJR_gskip (.bool false) 9 rfl (Nat.le_of_ble_eq_true rfl) hb157 rfl rfl rfl rfl rfl rfl (by decide) ?_
          refine AJR_gskip (.bool false) 10 rfl (Nat.le_of_ble_eq_true rfl) hb157 rfl rfl rfl rfl rfl rfl (by decide) ?_
          refine AJR_gskip (.bool false) 11 rfl (Nat.le_of_ble_eq_true rfl) hb157 rfl rfl rfl rfl rfl rfl (by decide) ?_
          refine AJR_gskip (.bool false) 12 rfl (Nat.le_of_ble_eq_true rfl) hb157 rfl rfl rfl rfl rfl rfl (by decide) ?_
          refine AJR_gskip (.bool false) 13 rfl (Nat.le_of_ble_eq_true rfl) hb157 rfl rfl rfl rfl rfl rfl (by decide) ?_
          refine AJR_gskipU (.bool false) 14 rfl (Nat.le_of_ble_eq_true rfl) rfl rfl rfl rfl rfl rfl (by decide) ?_
          refine AJR_gskipU (.bool false) 15 rfl (Nat.le_of_ble_eq_true rfl) rfl rfl rfl rfl rfl rfl (by decide) ?_
          refine AJR_gskipU (.bool false) 16 rfl (Nat.le_of_ble_eq_true rfl) rfl rfl rfl rfl rfl rfl (by decide) ?_
          refine AJR_gskip (.bool false) 17 rfl (Nat.le_of_ble_eq_true rfl) hb157 rfl rfl rfl rfl rfl rfl (by decide) ?_
          refine AJR_gskip (.bool false) 18 rfl (Nat.le_of_ble_eq_true rfl) hb157 rfl rfl rfl rfl rfl rfl (by decide) ?_
          refine AJR_gskipU (.bool false) 19 rfl (Nat.le_of_ble_eq_true rfl) rfl rfl rfl rfl rfl rfl (by decide) ?_
          refine AJR_gskipU (.bool false) 20 rfl (Nat.le_of_ble_eq_true rfl) rfl rfl rfl rfl rfl rfl (by decide) ?_
          refine AJR_gskipU (.bool false) 21 rfl (Nat.le_of_ble_eq_true rfl) rfl rfl rfl rfl rfl rfl (by decide) ?_
          refine AJR_gskip (.bool false) 22 rfl (Nat.le_of_ble_eq_true rfl) hb157 rfl rfl rfl rfl rfl rfl (by decide) ?_
          refine AJR_gskip (.bool false) 23 rfl (Nat.le_of_ble_eq_true rfl) hb157 rfl rfl rfl rfl rfl rfl (by decide) ?_
          refine AJR_gskipU (.bool false) 24 rfl (Nat.le_of_ble_eq_true rfl) rfl rfl rfl rfl rfl rfl (by decide) ?_
          refine AJR_gskipU (.bool false) 25 rfl (Nat.le_of_ble_eq_true rfl) rfl rfl rfl rfl rfl rfl (by decide) ?_
          refine AJR_gskipU (.bool false) 26 rfl (Nat.le_of_ble_eq_true rfl) rfl rfl rfl rfl rfl rfl (by decide) ?_
          refine AJR_gskip (.bool false) 27 rfl (Nat.le_of_ble_eq_true rfl) hb157 rfl rfl rfl rfl rfl rfl (by decide) ?_
          refine AJR_gskip (.bool false) 28 rfl (Nat.le_of_ble_eq_true rfl) hb157 rfl rfl rfl rfl rfl rfl (by decide) ?_
          refine AJR_gskipU (.bool false) 29 rfl (Nat.le_of_ble_eq_true rfl) rfl rfl rfl rfl rfl rfl (by decide) ?_
          refine AJR_gskipU (.bool false) 30 rfl (Nat.le_of_ble_eq_true rfl) rfl rfl rfl rfl rfl rfl (by decide) ?_
          refine AJR_gskipU (.bool false) 31 rfl (Nat.le_of_ble_eq_true rfl) rfl rfl rfl rfl rfl rfl (by decide) ?_
          refine AJR_gskip (.bool false) 32 rfl (Nat.le_of_ble_eq_true rfl) hb157 rfl rfl rfl rfl rfl rfl (by decide) ?_
          refine AJR_gskip (.bool false) 33 rfl (Nat.le_of_ble_eq_true rfl) hb157 rfl rfl rfl rfl rfl rfl (by decide) ?_
          refine AJR_gskip (.bool false) 34 rfl (Nat.le_of_ble_eq_true rfl) hb157 rfl rfl rfl rfl rfl rfl (by decide) ?_
          refine AJR_ev env 35 rfl (Nat.le_of_ble_eq_true rfl) rfl ⟨trivial, ⟨fun e => (tff (e.symm.trans hb157)).elim, trivial⟩⟩ ?_
          refine AJR_ev env 36 rfl (Nat.le_of_ble_eq_true rfl) rfl trivial ?_
          refine AJR_end rfl rfl rfl ?_
          obtain rfl := sinj h1
          refine tsn ?_
          exact SP_ren [] _ rfl ⟨rfl, trivial⟩ trivial rfl
      · rintro x156 hz
        obtain rfl := hz.symm
        refine TE_go ?_
        refine TC_ret ?_
        refine tbr ?_
        refine tsr ?_
        obtain rfl := sinj h0
        exact TE_ret env rfl trivial trivial
    · replace h0 := bif_f h0 hb
      refine TC_skip ?_
      refine tbn ?_
      refine TE_go ?_
      refine TC_seq ?_
      refine TC_reg ?_
      refine TL_ev env 1 rfl ⟨trivial, trivial⟩ ?_
      refine TL_end ?_
      refine TE_go ?_
      refine TC_ret ?_
      obtain rfl := sinj h0
      exact TE_ret env rfl trivial trivial
theorem format_fields.ok0 {K : Nat} {p0 : Int} {p1 : Int} {p2 : Int} {p3 : Int} {p4 : Int} {p5 : Int} {p6 : Int} {p7 : Int} {p8 : Int} {p9 : Int} {q0 : Bool} (h0 : format_fields K p0 p1 p2 p3 p4 p5 p6 p7 p8 p9 = some q0) : Fn Try.prog 87 [.agg [.int .i64 p0, .int .i64 p1, .int .i64 p2, .int .i64 p3, .int .i64 p4, .int .i64 p5, .int .i64 p6, .int .i64 p7, .int .i64 p8, .int .i64 p9]] [] (.bool q0) [] := format_fields.ok h0
theorem format_fields.fnb : fnb Try.prog 87 = true := fnb_of Try.func87 rfl
def format_bits.res (_p0 : Int) (_p1 : Int) (_p2 : Int) (_p3 : Int) (_p4 : Int) (_p5 : Int) (_p6 : Int) (_p7 : Int) (_p8 : Int) (_p9 : Int) : Int → MV
  | q0 => .int .i64 q0
def format_bits.out (_p0 : Int) (_p1 : Int) (_p2 : Int) (_p3 : Int) (_p4 : Int) (_p5 : Int) (_p6 : Int) (_p7 : Int) (_p8 : Int) (_p9 : Int) : Int → List (Nat × Option MObj)
  | _ => []
theorem format_bits.ok {K : Nat} {p0 : Int} {p1 : Int} {p2 : Int} {p3 : Int} {p4 : Int} {p5 : Int} {p6 : Int} {p7 : Int} {p8 : Int} {p9 : Int} {r : Int} (h0 : format_bits K p0 p1 p2 p3 p4 p5 p6 p7 p8 p9 = some r) : Fn Try.prog 91 [.agg [.int .i64 p0, .int .i64 p1, .int .i64 p2, .int .i64 p3, .int .i64 p4, .int .i64 p5, .int .i64 p6, .int .i64 p7, .int .i64 p8, .int .i64 p9]] [] (format_bits.res p0 p1 p2 p3 p4 p5 p6 p7 p8 p9 r) (format_bits.out p0 p1 p2 p3 p4 p5 p6 p7 p8 p9 r) := by
  refine Fn_of Try.func91 rfl (Nat.le_of_ble_eq_true rfl) fun Γ => ?_
  refine TC_seq ?_
  refine TC_reg ?_
  refine TL_ev env 2 rfl ⟨trivial, ⟨trivial, trivial⟩⟩ ?_
  refine TL_end ?_
  refine TE_go ?_
  refine TC_seq ?_
  refine TC_seq ?_
  refine TC_reg ?_
  refine TL_ev env 3 rfl ⟨trivial, ⟨⟨trivial, trivial⟩, ⟨⟨trivial, ⟨trivial, trivial⟩⟩, trivial⟩⟩⟩ ?_
  refine TL_end ?_
  refine TE_go ?_
  refine TC_cond rfl (fun hb => ?_) (fun hb => ?_)
  · replace h0 := bif_t h0 hb
    refine TC_seq ?_
    refine TC_reg ?_
    refine TL_ev env 4 rfl ⟨trivial, ⟨⟨trivial, trivial⟩, ⟨⟨trivial, ⟨trivial, trivial⟩⟩, ⟨trivial, trivial⟩⟩⟩⟩ ?_
    refine TL_end ?_
    refine TE_go ?_
    refine TC_ret ?_
    refine tsr ?_
    obtain rfl := sinj h0
    exact TE_ret env rfl trivial trivial
  · replace h0 := bif_f h0 hb
    refine TC_skip ?_
    refine TE_go ?_
    refine TC_seq ?_
    refine TC_reg ?_
    refine TL_ev env 20 rfl ⟨trivial, ⟨⟨trivial, trivial⟩, ⟨trivial, ⟨⟨trivial, trivial⟩, ⟨⟨trivial, ⟨trivial, trivial⟩⟩, ⟨⟨trivial, ⟨trivial, trivial⟩⟩, ⟨trivial, ⟨⟨trivial, trivial⟩, ⟨⟨trivial, ⟨trivial, trivial⟩⟩, ⟨trivial, ⟨⟨trivial, trivial⟩, ⟨⟨trivial, ⟨trivial, trivial⟩⟩, ⟨⟨trivial, ⟨trivial, trivial⟩⟩, ⟨trivial, ⟨⟨trivial, trivial⟩, ⟨trivial, ⟨⟨trivial, trivial⟩, ⟨⟨trivial, ⟨trivial, trivial⟩⟩, ⟨⟨trivial, ⟨trivial, trivial⟩⟩, ⟨trivial, trivial⟩⟩⟩⟩⟩⟩⟩⟩⟩⟩⟩⟩⟩⟩⟩⟩⟩⟩⟩⟩ ?_
    refine TL_end ?_
    refine TE_go ?_
    refine TC_ret ?_
    obtain rfl := sinj h0
    exact TE_ret env rfl trivial trivial
theorem format_bits.ok0 {K : Nat} {p0 : Int} {p1 : Int} {p2 : Int} {p3 : Int} {p4 : Int} {p5 : Int} {p6 : Int} {p7 : Int} {p8 : Int} {p9 : Int} {q0 : Int} (h0 : format_bits K p0 p1 p2 p3 p4 p5 p6 p7 p8 p9 = some q0) : Fn Try.prog 91 [.agg [.int .i64 p0, .int .i64 p1, .int .i64 p2, .int .i64 p3, .int .i64 p4, .int .i64 p5, .int .i64 p6, .int .i64 p7, .int .i64 p8, .int .i64 p9]] [] (.int .i64 q0) [] := format_bits.ok h0
theorem format_bits.fnb : fnb Try.prog 91 = true := fnb_of Try.func91 rfl
def format_payload.res (_p0 : Int) (_p1 : Int) (_p2 : Int) (_p3 : Int) (_p4 : Int) (_p5 : Int) (_p6 : Int) (_p7 : Int) (_p8 : Int) (_p9 : Int) : Int → MV
  | q0 => .int .i64 q0
def format_payload.out (_p0 : Int) (_p1 : Int) (_p2 : Int) (_p3 : Int) (_p4 : Int) (_p5 : Int) (_p6 : Int) (_p7 : Int) (_p8 : Int) (_p9 : Int) : Int → List (Nat × Option MObj)
  | _ => []
theorem format_payload.ok {K : Nat} {p0 : Int} {p1 : Int} {p2 : Int} {p3 : Int} {p4 : Int} {p5 : Int} {p6 : Int} {p7 : Int} {p8 : Int} {p9 : Int} {r : Int} (h0 : format_payload K p0 p1 p2 p3 p4 p5 p6 p7 p8 p9 = some r) : Fn Try.prog 88 [.agg [.int .i64 p0, .int .i64 p1, .int .i64 p2, .int .i64 p3, .int .i64 p4, .int .i64 p5, .int .i64 p6, .int .i64 p7, .int .i64 p8, .int .i64 p9]] [] (format_payload.res p0 p1 p2 p3 p4 p5 p6 p7 p8 p9 r) (format_payload.out p0 p1 p2 p3 p4 p5 p6 p7 p8 p9 r) := by
  refine Fn_of Try.func88 rfl (Nat.le_of_ble_eq_true rfl) fun Γ => ?_
  refine TC_seq ?_
  refine TC_reg ?_
  refine TL_ev env 2 rfl ⟨trivial, ⟨trivial, trivial⟩⟩ ?_
  refine TL_end ?_
  refine TE_go ?_
  refine TC_seq ?_
  refine TC_seq ?_
  refine TC_reg ?_
  refine TL_ev env 3 rfl ⟨trivial, ⟨⟨trivial, trivial⟩, ⟨⟨trivial, ⟨trivial, trivial⟩⟩, trivial⟩⟩⟩ ?_
  refine TL_end ?_
  refine TE_go ?_
  refine TC_cond rfl (fun hb => ?_) (fun hb => ?_)
  · replace h0 := bif_t h0 hb
    refine TC_seq ?_
    refine TC_reg ?_
    refine TL_ev env 6 rfl ⟨trivial, ⟨⟨trivial, trivial⟩, ⟨trivial, ⟨⟨trivial, trivial⟩, ⟨⟨trivial, ⟨trivial, trivial⟩⟩, ⟨trivial, trivial⟩⟩⟩⟩⟩⟩ ?_
    refine TL_end ?_
    refine TE_go ?_
    refine TC_ret ?_
    refine tsr ?_
    obtain rfl := sinj h0
    exact TE_ret env rfl trivial trivial
  · replace h0 := bif_f h0 hb
    refine TC_skip ?_
    refine TE_go ?_
    refine TC_seq ?_
    refine TC_reg ?_
    refine TL_ev env 1 rfl ⟨⟨trivial, trivial⟩, trivial⟩ ?_
    obtain ⟨r3, hr, h0⟩ := bnd h0
    refine TL_callB [] (format_bits.ok0 hr) format_bits.fnb rfl ⟨trivial, ⟨trivial, trivial⟩⟩ rfl trivial rfl ?_
    refine TL_ev env 3 rfl ⟨⟨trivial, ⟨trivial, trivial⟩⟩, ⟨⟨trivial, ⟨trivial, (by decide)⟩⟩, ⟨trivial, trivial⟩⟩⟩ ?_
    refine TL_end ?_
    refine TE_go ?_
    refine TC_ret ?_
    obtain rfl := sinj h0
    exact TE_ret env rfl trivial trivial
theorem format_payload.ok0 {K : Nat} {p0 : Int} {p1 : Int} {p2 : Int} {p3 : Int} {p4 : Int} {p5 : Int} {p6 : Int} {p7 : Int} {p8 : Int} {p9 : Int} {q0 : Int} (h0 : format_payload K p0 p1 p2 p3 p4 p5 p6 p7 p8 p9 = some q0) : Fn Try.prog 88 [.agg [.int .i64 p0, .int .i64 p1, .int .i64 p2, .int .i64 p3, .int .i64 p4, .int .i64 p5, .int .i64 p6, .int .i64 p7, .int .i64 p8, .int .i64 p9]] [] (.int .i64 q0) [] := format_payload.ok h0
theorem format_payload.fnb : fnb Try.prog 88 = true := fnb_of Try.func88 rfl
def format_Check.res (_p0 : Int) (_p1 : Int) (_p2 : Int) (_p3 : Int) (_p4 : Int) (_p5 : Int) (_p6 : Int) (_p7 : Int) (_p8 : Int) (_p9 : Int) : Int → MV
  | q0 => .int .i64 q0
def format_Check.out (_p0 : Int) (_p1 : Int) (_p2 : Int) (_p3 : Int) (_p4 : Int) (_p5 : Int) (_p6 : Int) (_p7 : Int) (_p8 : Int) (_p9 : Int) : Int → List (Nat × Option MObj)
  | _ => []
theorem format_Check.ok {K : Nat} {p0 : Int} {p1 : Int} {p2 : Int} {p3 : Int} {p4 : Int} {p5 : Int} {p6 : Int} {p7 : Int} {p8 : Int} {p9 : Int} {r : Int} (h0 : format_Check K p0 p1 p2 p3 p4 p5 p6 p7 p8 p9 = some r) : Fn Try.prog 33 [.agg [.int .i64 p0, .int .i64 p1, .int .i64 p2, .int .i64 p3, .int .i64 p4, .int .i64 p5, .int .i64 p6, .int .i64 p7, .int .i64 p8, .int .i64 p9]] [] (format_Check.res p0 p1 p2 p3 p4 p5 p6 p7 p8 p9 r) (format_Check.out p0 p1 p2 p3 p4 p5 p6 p7 p8 p9 r) := by
  refine Fn_of Try.func33 rfl (Nat.le_of_ble_eq_true rfl) fun Γ => ?_
  refine TC_seq ?_
  refine TC_reg ?_
  refine TL_ev env 2 rfl ⟨trivial, ⟨trivial, trivial⟩⟩ ?_
  refine TL_end ?_
  refine TE_go ?_
  refine TC_seq ?_
  refine TC_seq ?_
  obtain ⟨z1, h1, h0⟩ := bnd h0
  refine TC_cut (α := Bool) (fun s => z1 = s) (fun s => [(10, .bool s)]) (fun s => []) ?_ ?_
  · refine TC_reg ?_
    refine TL_ev env 1 rfl ⟨⟨trivial, trivial⟩, trivial⟩ ?_
    obtain ⟨r7, hr, h1⟩ := bnd h1
    refine TL_callB [] (format_fields.ok0 hr) format_fields.fnb rfl ⟨trivial, ⟨trivial, trivial⟩⟩ rfl trivial rfl ?_
    refine TL_ev env 2 rfl ⟨trivial, ⟨trivial, trivial⟩⟩ ?_
    refine TL_split 6 rfl (fun hb => ?_) (fun hb => ?_)
    · replace h1 := bif_t h1 hb
      refine TL_gf (.bool false) rfl rfl rfl rfl rfl (by decide) ?_
      refine TL_gf (.bool false) rfl rfl rfl rfl rfl (by decide) ?_
      refine TL_gf (.bool false) rfl rfl rfl rfl rfl (by decide) ?_
      refine TL_ev env 1 rfl ⟨⟨trivial, ⟨trivial, fun e => e⟩⟩, trivial⟩ ?_
      refine TL_end ?_
      obtain rfl := sinj h1
      refine tsn ?_
      exact SP_ren [] _ rfl ⟨rfl, trivial⟩ trivial rfl
    · replace h1 := bif_f h1 hb
      refine TL_gt rfl rfl rfl rfl ?_
      refine TL_ev env 1 rfl ⟨⟨trivial, trivial⟩, trivial⟩ ?_
      refine TL_gt rfl rfl rfl rfl ?_
      obtain ⟨r8, hr, h1⟩ := bnd h1
      refine TL_callB [] (format_payload.ok0 hr) format_payload.fnb rfl ⟨trivial, ⟨trivial, trivial⟩⟩ rfl trivial rfl ?_
      refine TL_gt rfl rfl rfl rfl ?_
      refine TL_ev env 2 rfl ⟨⟨trivial, ⟨trivial, trivial⟩⟩, ⟨⟨trivial, ⟨trivial, trivial⟩⟩, trivial⟩⟩ ?_
      refine TL_end ?_
      obtain rfl := sinj h1
      refine tsn ?_
      exact SP_ren [] _ rfl ⟨rfl, trivial⟩ trivial rfl
  · rintro x6 hz
    obtain rfl := hz.symm
    refine TE_go ?_
    refine TC_cond rfl (fun hb => ?_) (fun hb => ?_)
    · replace h0 := bif_t h0 hb
      refine TC_seq ?_
      refine TC_reg ?_
      refine TL_ev env 1 rfl ⟨trivial, trivial⟩ ?_
      refine TL_end ?_
      refine TE_go ?_
      refine TC_ret ?_
      refine tsr ?_
      obtain rfl := sinj h0
      exact TE_ret env rfl trivial trivial
    · replace h0 := bif_f h0 hb
      refine TC_skip ?_
      refine TE_go ?_
      refine TC_seq ?_
      refine TC_reg ?_
      refine TL_ev env 1 rfl ⟨trivial, trivial⟩ ?_
      refine TL_end ?_
      refine TE_go ?_
      refine TC_ret ?_
      obtain rfl := sinj h0
      exact TE_ret env rfl trivial trivial
theorem format_Check.ok0 {K : Nat} {p0 : Int} {p1 : Int} {p2 : Int} {p3 : Int} {p4 : Int} {p5 : Int} {p6 : Int} {p7 : Int} {p8 : Int} {p9 : Int} {q0 : Int} (h0 : format_Check K p0 p1 p2 p3 p4 p5 p6 p7 p8 p9 = some q0) : Fn Try.prog 33 [.agg [.int .i64 p0, .int .i64 p1, .int .i64 p2, .int .i64 p3, .int .i64 p4, .int .i64 p5, .int .i64 p6, .int .i64 p7, .int .i64 p8, .int .i64 p9]] [] (.int .i64 q0) [] := format_Check.ok h0
theorem format_Check.fnb : fnb Try.prog 33 = true := fnb_of Try.func33 rfl
def caps_in.res (_p0 : Int) (_p1 : Int) : Bool → MV
  | q0 => .bool q0
def caps_in.out (_p0 : Int) (_p1 : Int) : Bool → List (Nat × Option MObj)
  | _ => []
theorem caps_in.ok {K : Nat} {p0 : Int} {p1 : Int} {r : Bool} (h0 : caps_in K p0 p1 = some r) : Fn Try.prog 94 [.int .i64 p0, .int .i64 p1] [] (caps_in.res p0 p1 r) (caps_in.out p0 p1 r) := by
  refine Fn_of Try.func94 rfl (Nat.le_of_ble_eq_true rfl) fun Γ => ?_
  refine TC_seq ?_
  refine TC_reg ?_
  refine TL_ev env 1 rfl ⟨trivial, trivial⟩ ?_
  refine TL_end ?_
  refine TE_go ?_
  refine TC_seq ?_
  refine TC_reg ?_
  obtain ⟨g, h0⟩ := gd_t h0
  refine TL_ev env 6 rfl ⟨trivial, ⟨trivial, ⟨⟨trivial, ⟨trivial, g⟩⟩, ⟨⟨trivial, ⟨trivial, trivial⟩⟩, ⟨⟨trivial, ⟨trivial, trivial⟩⟩, ⟨trivial, trivial⟩⟩⟩⟩⟩⟩ ?_
  refine TL_end ?_
  refine TE_go ?_
  refine TC_ret ?_
  obtain rfl := sinj h0
  exact TE_ret env rfl trivial trivial
theorem caps_in.ok0 {K : Nat} {p0 : Int} {p1 : Int} {q0 : Bool} (h0 : caps_in K p0 p1 = some q0) : Fn Try.prog 94 [.int .i64 p0, .int .i64 p1] [] (.bool q0) [] := caps_in.ok h0
theorem caps_in.fnb : fnb Try.prog 94 = true := fnb_of Try.func94 rfl
end Go.Fo
