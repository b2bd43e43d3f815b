/- Each call comes to the function that is written for it. -/
import Derived.Test.YtcaehpgdcjonfaaCbT
import Derived.Test.YtcaehpgdcjonfaaCbF
import Derived.Test.YtcaehpgdcjonfaaCbP0
import Derived.Test.YtcaehpgdcjonfaaCbP1
namespace Go.Fo
open Go.Proofs
set_option maxRecDepth 20000
set_option maxHeartbeats 4000000
def caps_Bytes.res (_p0 : Int) (_p1 : Int) (_p2 : Int) (_p3 : Int) (_p4 : Int) (_p5 : Int) (_p6 : Int) (_p7 : Int) (_p8 : Int) (_p9 : Int) (_p10 : Int) (_p11 : Int) (_p12 : Int) (_p13 : Int) (_p14 : Int) : (Int) ⊕ ((List (Int))) → MV
  | .inl q0 => .tup [.nils, .int .i64 q0]
  | .inr q0 => .tup [.im (.slice (.int .u8)) q0, .int .i64 0]
def caps_Bytes.out (_p0 : Int) (_p1 : Int) (_p2 : Int) (_p3 : Int) (_p4 : Int) (_p5 : Int) (_p6 : Int) (_p7 : Int) (_p8 : Int) (_p9 : Int) (_p10 : Int) (_p11 : Int) (_p12 : Int) (_p13 : Int) (_p14 : Int) : (Int) ⊕ ((List (Int))) → List (Nat × Option MObj)
  | .inl _ => []
  | .inr _ => []
theorem caps_Bytes.ok {K : Nat} {p0 : Int} {p1 : Int} {p2 : Int} {p3 : Int} {p4 : Int} {p5 : Int} {p6 : Int} {p7 : Int} {p8 : Int} {p9 : Int} {p10 : Int} {p11 : Int} {p12 : Int} {p13 : Int} {p14 : Int} {r : (Int) ⊕ ((List (Int)))} (h0 : caps_Bytes K p0 p1 p2 p3 p4 p5 p6 p7 p8 p9 p10 p11 p12 p13 p14 = some r) : Fn Try.prog 41 [.agg [.int .i64 p0, .int .i64 p1, .int .i64 p2, .int .i64 p3, .int .i64 p4, .int .i64 p5, .int .i64 p6, .int .i64 p7, .int .i64 p8, .int .i64 p9, .int .i64 p10, .int .i64 p11, .int .i64 p12, .int .i64 p13, .int .i64 p14]] [] (caps_Bytes.res p0 p1 p2 p3 p4 p5 p6 p7 p8 p9 p10 p11 p12 p13 p14 r) (caps_Bytes.out p0 p1 p2 p3 p4 p5 p6 p7 p8 p9 p10 p11 p12 p13 p14 r) := by
  refine Fn_of Try.func41 rfl (Nat.le_of_ble_eq_true rfl) fun Γ => ?_
  refine TC_seq ?_
  refine TC_reg ?_
  refine TL_ev env 3 rfl ⟨trivial, ⟨trivial, ⟨trivial, trivial⟩⟩⟩ ?_
  refine TL_end ?_
  refine TE_go ?_
  refine TC_seq ?_
  refine TC_seq ?_
  refine TC_reg ?_
  refine TL_ev env 1 rfl ⟨⟨trivial, trivial⟩, trivial⟩ ?_
  obtain ⟨r11, hr, h0⟩ := bnd h0
  refine TL_callB [] (caps_Check.ok0 hr) caps_Check.fnb rfl ⟨trivial, ⟨trivial, trivial⟩⟩ rfl trivial rfl ?_
  refine TL_ev env 1 rfl ⟨trivial, trivial⟩ ?_
  refine TL_end ?_
  refine TE_go ?_
  refine TC_seq ?_
  refine TC_reg ?_
  refine TL_ev env 2 rfl ⟨trivial, ⟨⟨trivial, ⟨trivial, trivial⟩⟩, trivial⟩⟩ ?_
  refine TL_end ?_
  refine TE_go ?_
  refine TC_cond rfl (fun hb => ?_) (fun hb => ?_)
  · replace h0 := bif_t h0 hb
    refine TC_seq ?_
    refine TC_reg ?_
    refine TL_ev env 3 rfl ⟨trivial, ⟨trivial, ⟨trivial, trivial⟩⟩⟩ ?_
    refine TL_end ?_
    refine TE_go ?_
    refine TC_ret ?_
    refine tsr ?_
    obtain rfl := sinj h0
    exact TE_ret env rfl trivial trivial
  · replace h0 := bif_f h0 hb
    refine TC_skip ?_
    refine TE_go ?_
    refine TC_seq ?_
    refine TC_reg ?_
    refine TL_ev env 1 rfl ⟨trivial, trivial⟩ ?_
    refine TL_end ?_
    refine TE_go ?_
    refine TC_seq ?_
    refine TC_seq ?_
    refine TC_reg ?_
    refine TL_ev env 2 rfl ⟨⟨trivial, ⟨trivial, ⟨trivial, trivial⟩⟩⟩, ⟨trivial, trivial⟩⟩ ?_
    refine TL_end ?_
    refine TE_go ?_
    obtain ⟨z1, h1, h0⟩ := bnd h0
    refine TC_cut (α := (List (Int))) (fun s => z1 = s) (fun s => [(5, .sl 11400)]) (fun s => [(11400, some (.rows (.int .u8) s))]) ?_ ?_
    · refine TC_blk ?_
      refine TC_loopU ?_
      refine TE_lb ?_
      refine TC_seq ?_
      refine TC_reg ?_
      refine TL_ev env 1 rfl ⟨⟨trivial, ⟨trivial, trivial⟩⟩, trivial⟩ ?_
      refine TL_end ?_
      refine TE_go ?_
      refine TC_seq ?_
      refine TC_cond rfl (fun hb => ?_) (fun hb => ?_)
      · refine TC_skip ?_
        refine TE_go ?_
        refine TC_seq ?_
        obtain ⟨z2, h2, h1⟩ := bnd h1
        refine TC_cut (α := Bool × (List (Int))) (fun s => z2 = s) (fun s => [(1, .p 11600 0), (5, .sl 11601), (16, .agg [.int .i64 1, .int .i64 2, .int .i64 3]), (17, .int .i64 0), (23, .p 11600 0), (24, .agg [.int .i64 p0, .int .i64 p1, .int .i64 p2, .int .i64 p3, .int .i64 p4, .int .i64 p5, .int .i64 p6, .int .i64 p7]), (25, .agg [.int .i64 0, .int .i64 0, .int .i64 0, .int .i64 0, .int .i64 0, .int .i64 0, .int .i64 0, .int .i64 0]), (26, .bool s.1)]) (fun s => [(11600, some (.cells [.int .i64 p0, .int .i64 p1, .int .i64 p2, .int .i64 p3, .int .i64 p4, .int .i64 p5, .int .i64 p6, .int .i64 p7, .int .i64 p8, .int .i64 p9, .int .i64 p10, .int .i64 p11, .int .i64 p12, .int .i64 p13, .int .i64 p14])), (11601, some (.rows (.int .u8) s.2))]) ?_ ?_
        · refine TC_blk ?_
          refine TC_seq ?_
          refine TC_reg ?_
          refine TL_ev env 2 rfl ⟨⟨trivial, ⟨trivial, ⟨(by decide), (by decide)⟩⟩⟩, ⟨trivial, trivial⟩⟩ ?_
          refine TL_end ?_
          refine TE_go ?_
          refine TC_seq ?_
          refine TC_seq ?_
          refine TC_reg ?_
          refine TL_ev env 3 rfl ⟨trivial, ⟨⟨trivial, ⟨trivial, trivial⟩⟩, ⟨trivial, trivial⟩⟩⟩ ?_
          refine TL_gt rfl rfl rfl rfl ?_
          refine TL_ev env 1 rfl ⟨trivial, trivial⟩ ?_
          refine TL_gt rfl rfl rfl rfl ?_
          refine TL_ev env 1 rfl ⟨⟨trivial, trivial⟩, trivial⟩ ?_
          refine TL_gt rfl rfl rfl rfl ?_
          refine TL_ev env 1 rfl ⟨trivial, trivial⟩ ?_
          refine TL_gt rfl rfl rfl rfl ?_
          refine TL_ev env 12 rfl ⟨⟨trivial, ⟨trivial, trivial⟩⟩, ⟨⟨trivial, ⟨trivial, trivial⟩⟩, ⟨trivial, ⟨fun eg => trivial, ⟨fun eg => ⟨fun e => e, ⟨trivial, trivial⟩⟩, ⟨fun eg => fun e => e, ⟨fun eg => trivial, ⟨fun eg => ⟨fun e => e, trivial⟩, ⟨fun eg => trivial, ⟨fun eg => ⟨fun e => e, ⟨fun e => e, trivial⟩⟩, ⟨fun eg => ⟨fun e => e, ⟨fun e => (ftf e).elim, trivial⟩⟩, ⟨⟨trivial, ⟨trivial, fun e => e⟩⟩, trivial⟩⟩⟩⟩⟩⟩⟩⟩⟩⟩⟩⟩ ?_
          refine TL_end ?_
          refine TE_go ?_
          refine TC_cond rfl (fun hb => ?_) (fun hb => ?_)
          · replace h2 := bif_t h2 hb
            refine TC_exit ?_
            refine tsx ?_
            refine tbe ?_
            obtain rfl := sinj h2
            refine tsn ?_
            refine TE_own 5 7005 (.int .u8) rfl (by decide) rfl rfl ?_
            exact SP_ren [(11600, 1001), (11601, 7005)] (_, _) rfl ⟨rfl, rfl, rfl, rfl, rfl, rfl, rfl, rfl, trivial⟩ ⟨rfl, rfl, trivial⟩ rfl
          · replace h2 := bif_f h2 hb
            refine TC_skip ?_
            refine TE_go ?_
            refine TC_seq ?_
            refine TC_reg ?_
            refine TL_ev env 1 rfl ⟨trivial, trivial⟩ ?_
            obtain ⟨⟨⟩, hr, h2⟩ := bnd h2
            refine TL_callB [(0, 1001), (1000, 500390)] (caps_Caps_fields_2.ok0 hr) caps_Caps_fields_2.fnb rfl ⟨trivial, ⟨trivial, ⟨trivial, trivial⟩⟩⟩ rfl ⟨.inr rfl, trivial⟩ rfl ?_
            refine TL_ev env 1 rfl ⟨trivial, trivial⟩ ?_
            refine TL_end ?_
            refine TE_go ?_
            refine TC_seq ?_
            refine TC_reg ?_
            obtain ⟨g, h2⟩ := gd_t h2
            refine TL_ev env 9 rfl ⟨trivial, ⟨trivial, ⟨trivial, ⟨trivial, ⟨⟨trivial, trivial⟩, ⟨trivial, ⟨⟨trivial, ⟨trivial, trivial⟩⟩, ⟨⟨⟨trivial, ⟨trivial, trivial⟩⟩, g⟩, ⟨trivial, trivial⟩⟩⟩⟩⟩⟩⟩⟩⟩ ?_
            refine TL_end ?_
            refine TE_go ?_
            refine TC_seq ?_
            refine TC_reg ?_
            refine TL_ev env 3 rfl ⟨trivial, ⟨⟨trivial, trivial⟩, ⟨trivial, trivial⟩⟩⟩ ?_
            refine TL_end ?_
            refine TE_go ?_
            obtain ⟨z3, h3, h2⟩ := bnd h2
            refine TC_cut (α := (List (Int))) (fun s => z3 = s) (fun s => [(1, .p 12200 0), (5, .sl 12201), (16, .agg [.int .i64 1, .int .i64 2, .int .i64 3]), (17, .int .i64 0), (23, .p 12200 0), (24, .agg [.int .i64 p0, .int .i64 p1, .int .i64 p2, .int .i64 p3, .int .i64 p4, .int .i64 p5, .int .i64 p6, .int .i64 p7]), (25, .agg [.int .i64 0, .int .i64 0, .int .i64 0, .int .i64 0, .int .i64 0, .int .i64 0, .int .i64 0, .int .i64 0]), (26, .bool ((p0 == 0) && ((p1 == 0) && ((p2 == 0) && ((p3 == 0) && ((p4 == 0) && ((p5 == 0) && ((p6 == 0) && (p7 == 0)))))))))]) (fun s => [(12200, some (.cells [.int .i64 p0, .int .i64 p1, .int .i64 p2, .int .i64 p3, .int .i64 p4, .int .i64 p5, .int .i64 p6, .int .i64 p7, .int .i64 p8, .int .i64 p9, .int .i64 p10, .int .i64 p11, .int .i64 p12, .int .i64 p13, .int .i64 p14])), (12201, some (.rows (.int .u8) s))]) ?_ ?_
            · refine TC_blk ?_
              refine TC_loopU ?_
              refine TE_lb ?_
              refine TC_seq ?_
              refine TC_reg ?_
              refine TL_ev env 1 rfl ⟨⟨trivial, ⟨trivial, trivial⟩⟩, trivial⟩ ?_
              refine TL_end ?_
              refine TE_go ?_
              refine TC_seq ?_
              refine TC_cond rfl (fun hb => ?_) (fun hb => ?_)
              · refine TC_skip ?_
                refine TE_go ?_
                refine TC_seq ?_
                refine TC_blk ?_
                refine TC_seq ?_
                refine TC_reg ?_
                refine TL_ev env 3 rfl ⟨⟨trivial, ⟨trivial, ⟨(by decide), (by decide)⟩⟩⟩, ⟨⟨trivial, trivial⟩, ⟨trivial, trivial⟩⟩⟩ ?_
                refine TL_end ?_
                refine TE_go ?_
                refine TC_reg ?_
                obtain ⟨g, h3⟩ := gd_t h3
                refine TL_ev env 8 rfl ⟨trivial, ⟨trivial, ⟨trivial, ⟨⟨trivial, trivial⟩, ⟨trivial, ⟨⟨trivial, trivial⟩, ⟨⟨⟨trivial, ⟨trivial, trivial⟩⟩, g⟩, ⟨trivial, trivial⟩⟩⟩⟩⟩⟩⟩⟩ ?_
                refine TL_end ?_
                refine tbn ?_
                refine TE_go ?_
                refine TC_reg ?_
                refine TL_ev env 2 rfl ⟨⟨trivial, ⟨trivial, trivial⟩⟩, ⟨trivial, trivial⟩⟩ ?_
                refine TL_end ?_
                refine tsn ?_
                refine TE_renw (A' := [(1, .p 1081000 0), (5, .sl 1081001), (16, .agg [.int .i64 1, .int .i64 2, .int .i64 3]), (17, .int .i64 0), (23, .p 1081000 0), (24, .agg [.int .i64 _, .int .i64 _, .int .i64 _, .int .i64 _, .int .i64 _, .int .i64 _, .int .i64 _, .int .i64 _]), (25, .agg [.int .i64 0, .int .i64 0, .int .i64 0, .int .i64 0, .int .i64 0, .int .i64 0, .int .i64 0, .int .i64 0]), (26, .bool _), (48, .hd 1081002 8), (49, .int .i64 8), (50, .int .i64 1)]) (L' := [(1081000, some (.cells [.int .i64 _, .int .i64 _, .int .i64 _, .int .i64 _, .int .i64 _, .int .i64 _, .int .i64 _, .int .i64 _, .int .i64 _, .int .i64 _, .int .i64 _, .int .i64 _, .int .i64 _, .int .i64 _, .int .i64 _])), (1081001, some (.rows (.int .u8) _)), (1081002, some (.cells [.p 1081000 0, .p 1081000 1, .p 1081000 2, .p 1081000 3, .p 1081000 4, .p 1081000 5, .p 1081000 6, .p 1081000 7]))]) [(1081000, 1001), (1081001, 1060), (1081002, 500390)] ⟨rfl, rfl, rfl, rfl, rfl, rfl, rfl, rfl, rfl, rfl, rfl, trivial⟩ ⟨rfl, rfl, rfl, trivial⟩ rfl ?_
                refine TE_lb ?_
                refine TC_seq ?_
                refine TC_reg ?_
                refine TL_ev env 1 rfl ⟨⟨trivial, ⟨trivial, trivial⟩⟩, trivial⟩ ?_
                refine TL_end ?_
                refine TE_go ?_
                refine TC_seq ?_
                refine TC_cond rfl (fun hb => ?_) (fun hb => ?_)
                · refine TC_skip ?_
                  refine TE_go ?_
                  refine TC_seq ?_
                  refine TC_blk ?_
                  refine TC_seq ?_
                  refine TC_reg ?_
                  refine TL_ev env 3 rfl ⟨⟨trivial, ⟨trivial, ⟨(by decide), (by decide)⟩⟩⟩, ⟨⟨trivial, trivial⟩, ⟨trivial, trivial⟩⟩⟩ ?_
                  refine TL_end ?_
                  refine TE_go ?_
                  refine TC_reg ?_
                  obtain ⟨g, h3⟩ := gd_t h3
                  refine TL_ev env 8 rfl ⟨trivial, ⟨trivial, ⟨trivial, ⟨⟨trivial, trivial⟩, ⟨trivial, ⟨⟨trivial, trivial⟩, ⟨⟨⟨trivial, ⟨trivial, trivial⟩⟩, g⟩, ⟨trivial, trivial⟩⟩⟩⟩⟩⟩⟩⟩ ?_
                  refine TL_end ?_
                  refine tbn ?_
                  refine TE_go ?_
                  refine TC_reg ?_
                  refine TL_ev env 2 rfl ⟨⟨trivial, ⟨trivial, trivial⟩⟩, ⟨trivial, trivial⟩⟩ ?_
                  refine TL_end ?_
                  refine tsn ?_
                  refine TE_renw (A' := [(1, .p 1082000 0), (5, .sl 1082001), (16, .agg [.int .i64 1, .int .i64 2, .int .i64 3]), (17, .int .i64 0), (23, .p 1082000 0), (24, .agg [.int .i64 _, .int .i64 _, .int .i64 _, .int .i64 _, .int .i64 _, .int .i64 _, .int .i64 _, .int .i64 _]), (25, .agg [.int .i64 0, .int .i64 0, .int .i64 0, .int .i64 0, .int .i64 0, .int .i64 0, .int .i64 0, .int .i64 0]), (26, .bool _), (48, .hd 1082002 8), (49, .int .i64 8), (50, .int .i64 2)]) (L' := [(1082000, some (.cells [.int .i64 _, .int .i64 _, .int .i64 _, .int .i64 _, .int .i64 _, .int .i64 _, .int .i64 _, .int .i64 _, .int .i64 _, .int .i64 _, .int .i64 _, .int .i64 _, .int .i64 _, .int .i64 _, .int .i64 _])), (1082001, some (.rows (.int .u8) _)), (1082002, some (.cells [.p 1082000 0, .p 1082000 1, .p 1082000 2, .p 1082000 3, .p 1082000 4, .p 1082000 5, .p 1082000 6, .p 1082000 7]))]) [(1082000, 1081000), (1082001, 1060), (1082002, 1081002)] ⟨rfl, rfl, rfl, rfl, rfl, rfl, rfl, rfl, rfl, rfl, rfl, trivial⟩ ⟨rfl, rfl, rfl, trivial⟩ rfl ?_
                  refine TE_lb ?_
                  refine TC_seq ?_
                  refine TC_reg ?_
                  refine TL_ev env 1 rfl ⟨⟨trivial, ⟨trivial, trivial⟩⟩, trivial⟩ ?_
                  refine TL_end ?_
                  refine TE_go ?_
                  refine TC_seq ?_
                  refine TC_cond rfl (fun hb => ?_) (fun hb => ?_)
                  · refine TC_skip ?_
                    refine TE_go ?_
                    refine TC_seq ?_
                    refine TC_blk ?_
                    refine TC_seq ?_
                    refine TC_reg ?_
                    refine TL_ev env 3 rfl ⟨⟨trivial, ⟨trivial, ⟨(by decide), (by decide)⟩⟩⟩, ⟨⟨trivial, trivial⟩, ⟨trivial, trivial⟩⟩⟩ ?_
                    refine TL_end ?_
                    refine TE_go ?_
                    refine TC_reg ?_
                    obtain ⟨g, h3⟩ := gd_t h3
                    refine TL_ev env 8 rfl ⟨trivial, ⟨trivial, ⟨trivial, ⟨⟨trivial, trivial⟩, ⟨trivial, ⟨⟨trivial, trivial⟩, ⟨⟨⟨trivial, ⟨trivial, trivial⟩⟩, g⟩, ⟨trivial, trivial⟩⟩⟩⟩⟩⟩⟩⟩ ?_
                    refine TL_end ?_
                    refine tbn ?_
                    refine TE_go ?_
                    refine TC_reg ?_
                    refine TL_ev env 2 rfl ⟨⟨trivial, ⟨trivial, trivial⟩⟩, ⟨trivial, trivial⟩⟩ ?_
                    refine TL_end ?_
                    refine tsn ?_
                    refine TE_renw (A' := [(1, .p 1083000 0), (5, .sl 1083001), (16, .agg [.int .i64 1, .int .i64 2, .int .i64 3]), (17, .int .i64 0), (23, .p 1083000 0), (24, .agg [.int .i64 _, .int .i64 _, .int .i64 _, .int .i64 _, .int .i64 _, .int .i64 _, .int .i64 _, .int .i64 _]), (25, .agg [.int .i64 0, .int .i64 0, .int .i64 0, .int .i64 0, .int .i64 0, .int .i64 0, .int .i64 0, .int .i64 0]), (26, .bool _), (48, .hd 1083002 8), (49, .int .i64 8), (50, .int .i64 3)]) (L' := [(1083000, some (.cells [.int .i64 _, .int .i64 _, .int .i64 _, .int .i64 _, .int .i64 _, .int .i64 _, .int .i64 _, .int .i64 _, .int .i64 _, .int .i64 _, .int .i64 _, .int .i64 _, .int .i64 _, .int .i64 _, .int .i64 _])), (1083001, some (.rows (.int .u8) _)), (1083002, some (.cells [.p 1083000 0, .p 1083000 1, .p 1083000 2, .p 1083000 3, .p 1083000 4, .p 1083000 5, .p 1083000 6, .p 1083000 7]))]) [(1083000, 1082000), (1083001, 1060), (1083002, 1082002)] ⟨rfl, rfl, rfl, rfl, rfl, rfl, rfl, rfl, rfl, rfl, rfl, trivial⟩ ⟨rfl, rfl, rfl, trivial⟩ rfl ?_
                    refine TE_lb ?_
                    refine TC_seq ?_
                    refine TC_reg ?_
                    refine TL_ev env 1 rfl ⟨⟨trivial, ⟨trivial, trivial⟩⟩, trivial⟩ ?_
                    refine TL_end ?_
                    refine TE_go ?_
                    refine TC_seq ?_
                    refine TC_cond rfl (fun hb => ?_) (fun hb => ?_)
                    · refine TC_skip ?_
                      refine TE_go ?_
                      refine TC_seq ?_
                      refine TC_blk ?_
                      refine TC_seq ?_
                      refine TC_reg ?_
                      refine TL_ev env 3 rfl ⟨⟨trivial, ⟨trivial, ⟨(by decide), (by decide)⟩⟩⟩, ⟨⟨trivial, trivial⟩, ⟨trivial, trivial⟩⟩⟩ ?_
                      refine TL_end ?_
                      refine TE_go ?_
                      refine TC_reg ?_
                      obtain ⟨g, h3⟩ := gd_t h3
                      refine TL_ev env 8 rfl ⟨trivial, ⟨trivial, ⟨trivial, ⟨⟨trivial, trivial⟩, ⟨trivial, ⟨⟨trivial, trivial⟩, ⟨⟨⟨trivial, ⟨trivial, trivial⟩⟩, g⟩, ⟨trivial, trivial⟩⟩⟩⟩⟩⟩⟩⟩ ?_
                      refine TL_end ?_
                      refine tbn ?_
                      refine TE_go ?_
                      refine TC_reg ?_
                      refine TL_ev env 2 rfl ⟨⟨trivial, ⟨trivial, trivial⟩⟩, ⟨trivial, trivial⟩⟩ ?_
                      refine TL_end ?_
                      refine tsn ?_
                      refine TE_renw (A' := [(1, .p 1084000 0), (5, .sl 1084001), (16, .agg [.int .i64 1, .int .i64 2, .int .i64 3]), (17, .int .i64 0), (23, .p 1084000 0), (24, .agg [.int .i64 _, .int .i64 _, .int .i64 _, .int .i64 _, .int .i64 _, .int .i64 _, .int .i64 _, .int .i64 _]), (25, .agg [.int .i64 0, .int .i64 0, .int .i64 0, .int .i64 0, .int .i64 0, .int .i64 0, .int .i64 0, .int .i64 0]), (26, .bool _), (48, .hd 1084002 8), (49, .int .i64 8), (50, .int .i64 4)]) (L' := [(1084000, some (.cells [.int .i64 _, .int .i64 _, .int .i64 _, .int .i64 _, .int .i64 _, .int .i64 _, .int .i64 _, .int .i64 _, .int .i64 _, .int .i64 _, .int .i64 _, .int .i64 _, .int .i64 _, .int .i64 _, .int .i64 _])), (1084001, some (.rows (.int .u8) _)), (1084002, some (.cells [.p 1084000 0, .p 1084000 1, .p 1084000 2, .p 1084000 3, .p 1084000 4, .p 1084000 5, .p 1084000 6, .p 1084000 7]))]) [(1084000, 1083000), (1084001, 1060), (1084002, 1083002)] ⟨rfl, rfl, rfl, rfl, rfl, rfl, rfl, rfl, rfl, rfl, rfl, trivial⟩ ⟨rfl, rfl, rfl, trivial⟩ rfl ?_
                      refine TE_lb ?_
                      refine TC_seq ?_
                      refine TC_reg ?_
                      refine TL_ev env 1 rfl ⟨⟨trivial, ⟨trivial, trivial⟩⟩, trivial⟩ ?_
                      refine TL_end ?_
                      refine TE_go ?_
                      refine TC_seq ?_
                      refine TC_cond rfl (fun hb => ?_) (fun hb => ?_)
                      · refine TC_skip ?_
                        refine TE_go ?_
                        refine TC_seq ?_
                        refine TC_blk ?_
                        refine TC_seq ?_
                        refine TC_reg ?_
                        refine TL_ev env 3 rfl ⟨⟨trivial, ⟨trivial, ⟨(by decide), (by decide)⟩⟩⟩, ⟨⟨trivial, trivial⟩, ⟨trivial, trivial⟩⟩⟩ ?_
                        refine TL_end ?_
                        refine TE_go ?_
                        refine TC_reg ?_
                        obtain ⟨g, h3⟩ := gd_t h3
                        refine TL_ev env 8 rfl ⟨trivial, ⟨trivial, ⟨trivial, ⟨⟨trivial, trivial⟩, ⟨trivial, ⟨⟨trivial, trivial⟩, ⟨⟨⟨trivial, ⟨trivial, trivial⟩⟩, g⟩, ⟨trivial, trivial⟩⟩⟩⟩⟩⟩⟩⟩ ?_
                        refine TL_end ?_
                        refine tbn ?_
                        refine TE_go ?_
                        refine TC_reg ?_
                        refine TL_ev env 2 rfl ⟨⟨trivial, ⟨trivial, trivial⟩⟩, ⟨trivial, trivial⟩⟩ ?_
                        refine TL_end ?_
                        refine tsn ?_
                        refine TE_renw (A' := [(1, .p 1085000 0), (5, .sl 1085001), (16, .agg [.int .i64 1, .int .i64 2, .int .i64 3]), (17, .int .i64 0), (23, .p 1085000 0), (24, .agg [.int .i64 _, .int .i64 _, .int .i64 _, .int .i64 _, .int .i64 _, .int .i64 _, .int .i64 _, .int .i64 _]), (25, .agg [.int .i64 0, .int .i64 0, .int .i64 0, .int .i64 0, .int .i64 0, .int .i64 0, .int .i64 0, .int .i64 0]), (26, .bool _), (48, .hd 1085002 8), (49, .int .i64 8), (50, .int .i64 5)]) (L' := [(1085000, some (.cells [.int .i64 _, .int .i64 _, .int .i64 _, .int .i64 _, .int .i64 _, .int .i64 _, .int .i64 _, .int .i64 _, .int .i64 _, .int .i64 _, .int .i64 _, .int .i64 _, .int .i64 _, .int .i64 _, .int .i64 _])), (1085001, some (.rows (.int .u8) _)), (1085002, some (.cells [.p 1085000 0, .p 1085000 1, .p 1085000 2, .p 1085000 3, .p 1085000 4, .p 1085000 5, .p 1085000 6, .p 1085000 7]))]) [(1085000, 1084000), (1085001, 1060), (1085002, 1084002)] ⟨rfl, rfl, rfl, rfl, rfl, rfl, rfl, rfl, rfl, rfl, rfl, trivial⟩ ⟨rfl, rfl, rfl, trivial⟩ rfl ?_
                        refine TE_lb ?_
                        refine TC_seq ?_
                        refine TC_reg ?_
                        refine TL_ev env 1 rfl ⟨⟨trivial, ⟨trivial, trivial⟩⟩, trivial⟩ ?_
                        refine TL_end ?_
                        refine TE_go ?_
                        refine TC_seq ?_
                        refine TC_cond rfl (fun hb => ?_) (fun hb => ?_)
                        · refine TC_skip ?_
                          refine TE_go ?_
                          refine TC_seq ?_
                          refine TC_blk ?_
                          refine TC_seq ?_
                          refine TC_reg ?_
                          refine TL_ev env 3 rfl ⟨⟨trivial, ⟨trivial, ⟨(by decide), (by decide)⟩⟩⟩, ⟨⟨trivial, trivial⟩, ⟨trivial, trivial⟩⟩⟩ ?_
                          refine TL_end ?_
                          refine TE_go ?_
                          refine TC_reg ?_
                          obtain ⟨g, h3⟩ := gd_t h3
                          refine TL_ev env 8 rfl ⟨trivial, ⟨trivial, ⟨trivial, ⟨⟨trivial, trivial⟩, ⟨trivial, ⟨⟨trivial, trivial⟩, ⟨⟨⟨trivial, ⟨trivial, trivial⟩⟩, g⟩, ⟨trivial, trivial⟩⟩⟩⟩⟩⟩⟩⟩ ?_
                          refine TL_end ?_
                          refine tbn ?_
                          refine TE_go ?_
                          refine TC_reg ?_
                          refine TL_ev env 2 rfl ⟨⟨trivial, ⟨trivial, trivial⟩⟩, ⟨trivial, trivial⟩⟩ ?_
                          refine TL_end ?_
                          refine tsn ?_
                          refine TE_renw (A' := [(1, .p 1086000 0), (5, .sl 1086001), (16, .agg [.int .i64 1, .int .i64 2, .int .i64 3]), (17, .int .i64 0), (23, .p 1086000 0), (24, .agg [.int .i64 _, .int .i64 _, .int .i64 _, .int .i64 _, .int .i64 _, .int .i64 _, .int .i64 _, .int .i64 _]), (25, .agg [.int .i64 0, .int .i64 0, .int .i64 0, .int .i64 0, .int .i64 0, .int .i64 0, .int .i64 0, .int .i64 0]), (26, .bool _), (48, .hd 1086002 8), (49, .int .i64 8), (50, .int .i64 6)]) (L' := [(1086000, some (.cells [.int .i64 _, .int .i64 _, .int .i64 _, .int .i64 _, .int .i64 _, .int .i64 _, .int .i64 _, .int .i64 _, .int .i64 _, .int .i64 _, .int .i64 _, .int .i64 _, .int .i64 _, .int .i64 _, .int .i64 _])), (1086001, some (.rows (.int .u8) _)), (1086002, some (.cells [.p 1086000 0, .p 1086000 1, .p 1086000 2, .p 1086000 3, .p 1086000 4, .p 1086000 5, .p 1086000 6, .p 1086000 7]))]) [(1086000, 1085000), (1086001, 1060), (1086002, 1085002)] ⟨rfl, rfl, rfl, rfl, rfl, rfl, rfl, rfl, rfl, rfl, rfl, trivial⟩ ⟨rfl, rfl, rfl, trivial⟩ rfl ?_
                          refine TE_lb ?_
                          refine TC_seq ?_
                          refine TC_reg ?_
                          refine TL_ev env 1 rfl ⟨⟨trivial, ⟨trivial, trivial⟩⟩, trivial⟩ ?_
                          refine TL_end ?_
                          refine TE_go ?_
                          refine TC_seq ?_
                          refine TC_cond rfl (fun hb => ?_) (fun hb => ?_)
                          · refine TC_skip ?_
                            refine TE_go ?_
                            refine TC_seq ?_
                            refine TC_blk ?_
                            refine TC_seq ?_
                            refine TC_reg ?_
                            refine TL_ev env 3 rfl ⟨⟨trivial, ⟨trivial, ⟨(by decide), (by decide)⟩⟩⟩, ⟨⟨trivial, trivial⟩, ⟨trivial, trivial⟩⟩⟩ ?_
                            refine TL_end ?_
                            refine TE_go ?_
                            refine TC_reg ?_
                            obtain ⟨g, h3⟩ := gd_t h3
                            refine TL_ev env 8 rfl ⟨trivial, ⟨trivial, ⟨trivial, ⟨⟨trivial, trivial⟩, ⟨trivial, ⟨⟨trivial, trivial⟩, ⟨⟨⟨trivial, ⟨trivial, trivial⟩⟩, g⟩, ⟨trivial, trivial⟩⟩⟩⟩⟩⟩⟩⟩ ?_
                            refine TL_end ?_
                            refine tbn ?_
                            refine TE_go ?_
                            refine TC_reg ?_
                            refine TL_ev env 2 rfl ⟨⟨trivial, ⟨trivial, trivial⟩⟩, ⟨trivial, trivial⟩⟩ ?_
                            refine TL_end ?_
                            refine tsn ?_
                            refine TE_renw (A' := [(1, .p 1087000 0), (5, .sl 1087001), (16, .agg [.int .i64 1, .int .i64 2, .int .i64 3]), (17, .int .i64 0), (23, .p 1087000 0), (24, .agg [.int .i64 _, .int .i64 _, .int .i64 _, .int .i64 _, .int .i64 _, .int .i64 _, .int .i64 _, .int .i64 _]), (25, .agg [.int .i64 0, .int .i64 0, .int .i64 0, .int .i64 0, .int .i64 0, .int .i64 0, .int .i64 0, .int .i64 0]), (26, .bool _), (48, .hd 1087002 8), (49, .int .i64 8), (50, .int .i64 7)]) (L' := [(1087000, some (.cells [.int .i64 _, .int .i64 _, .int .i64 _, .int .i64 _, .int .i64 _, .int .i64 _, .int .i64 _, .int .i64 _, .int .i64 _, .int .i64 _, .int .i64 _, .int .i64 _, .int .i64 _, .int .i64 _, .int .i64 _])), (1087001, some (.rows (.int .u8) _)), (1087002, some (.cells [.p 1087000 0, .p 1087000 1, .p 1087000 2, .p 1087000 3, .p 1087000 4, .p 1087000 5, .p 1087000 6, .p 1087000 7]))]) [(1087000, 1086000), (1087001, 1060), (1087002, 1086002)] ⟨rfl, rfl, rfl, rfl, rfl, rfl, rfl, rfl, rfl, rfl, rfl, trivial⟩ ⟨rfl, rfl, rfl, trivial⟩ rfl ?_
                            refine TE_lb ?_
                            refine TC_seq ?_
                            refine TC_reg ?_
                            refine TL_ev env 1 rfl ⟨⟨trivial, ⟨trivial, trivial⟩⟩, trivial⟩ ?_
                            refine TL_end ?_
                            refine TE_go ?_
                            refine TC_seq ?_
                            refine TC_cond rfl (fun hb => ?_) (fun hb => ?_)
                            · refine TC_skip ?_
                              refine TE_go ?_
                              refine TC_seq ?_
                              refine TC_blk ?_
                              refine TC_seq ?_
                              refine TC_reg ?_
                              refine TL_ev env 3 rfl ⟨⟨trivial, ⟨trivial, ⟨(by decide), (by decide)⟩⟩⟩, ⟨⟨trivial, trivial⟩, ⟨trivial, trivial⟩⟩⟩ ?_
                              refine TL_end ?_
                              refine TE_go ?_
                              refine TC_reg ?_
                              obtain ⟨g, h3⟩ := gd_t h3
                              refine TL_ev env 8 rfl ⟨trivial, ⟨trivial, ⟨trivial, ⟨⟨trivial, trivial⟩, ⟨trivial, ⟨⟨trivial, trivial⟩, ⟨⟨⟨trivial, ⟨trivial, trivial⟩⟩, g⟩, ⟨trivial, trivial⟩⟩⟩⟩⟩⟩⟩⟩ ?_
                              refine TL_end ?_
                              refine tbn ?_
                              refine TE_go ?_
                              refine TC_reg ?_
                              refine TL_ev env 2 rfl ⟨⟨trivial, ⟨trivial, trivial⟩⟩, ⟨trivial, trivial⟩⟩ ?_
                              refine TL_end ?_
                              refine tsn ?_
                              refine TE_renw (A' := [(1, .p 1088000 0), (5, .sl 1088001), (16, .agg [.int .i64 1, .int .i64 2, .int .i64 3]), (17, .int .i64 0), (23, .p 1088000 0), (24, .agg [.int .i64 _, .int .i64 _, .int .i64 _, .int .i64 _, .int .i64 _, .int .i64 _, .int .i64 _, .int .i64 _]), (25, .agg [.int .i64 0, .int .i64 0, .int .i64 0, .int .i64 0, .int .i64 0, .int .i64 0, .int .i64 0, .int .i64 0]), (26, .bool _), (48, .hd 1088002 8), (49, .int .i64 8), (50, .int .i64 8)]) (L' := [(1088000, some (.cells [.int .i64 _, .int .i64 _, .int .i64 _, .int .i64 _, .int .i64 _, .int .i64 _, .int .i64 _, .int .i64 _, .int .i64 _, .int .i64 _, .int .i64 _, .int .i64 _, .int .i64 _, .int .i64 _, .int .i64 _])), (1088001, some (.rows (.int .u8) _)), (1088002, some (.cells [.p 1088000 0, .p 1088000 1, .p 1088000 2, .p 1088000 3, .p 1088000 4, .p 1088000 5, .p 1088000 6, .p 1088000 7]))]) [(1088000, 1087000), (1088001, 1060), (1088002, 1087002)] ⟨rfl, rfl, rfl, rfl, rfl, rfl, rfl, rfl, rfl, rfl, rfl, trivial⟩ ⟨rfl, rfl, rfl, trivial⟩ rfl ?_
                              refine TE_lb ?_
                              refine TC_seq ?_
                              refine TC_reg ?_
                              refine TL_ev env 1 rfl ⟨⟨trivial, ⟨trivial, trivial⟩⟩, trivial⟩ ?_
                              refine TL_end ?_
                              refine TE_go ?_
                              refine TC_seq ?_
                              refine TC_cond rfl (fun hb => ?_) (fun hb => ?_)
                              · first | exact (ftf hb).elim | exact (tff hb).elim | exact absurd hb (by decide)
                              · refine TC_exit ?_
                                refine tsx ?_
                                refine tsx ?_
                                refine tbe ?_
                                obtain rfl := sinj h3
                                refine tsn ?_
                                exact SP_ren [(12200, 1088000), (12201, 1088001)] _ rfl ⟨rfl, rfl, rfl, rfl, rfl, rfl, rfl, rfl, trivial⟩ ⟨rfl, rfl, trivial⟩ rfl
                            · first | exact (ftf hb).elim | exact (tff hb).elim | exact absurd hb (by decide)
                          · first | exact (ftf hb).elim | exact (tff hb).elim | exact absurd hb (by decide)
                        · first | exact (ftf hb).elim | exact (tff hb).elim | exact absurd hb (by decide)
                      · first | exact (ftf hb).elim | exact (tff hb).elim | exact absurd hb (by decide)
                    · first | exact (ftf hb).elim | exact (tff hb).elim | exact absurd hb (by decide)
                  · first | exact (ftf hb).elim | exact (tff hb).elim | exact absurd hb (by decide)
                · first | exact (ftf hb).elim | exact (tff hb).elim | exact absurd hb (by decide)
              · first | exact (ftf hb).elim | exact (tff hb).elim | exact absurd hb (by decide)
            · rintro x46 hz
              obtain rfl := hz.symm
              refine tbn ?_
              obtain rfl := sinj h2
              refine tsn ?_
              exact SP_ren [(11600, 12200), (11601, 12201)] (_, _) rfl ⟨rfl, rfl, rfl, rfl, rfl, rfl, rfl, rfl, trivial⟩ ⟨rfl, rfl, trivial⟩ rfl
        · rintro ⟨x22, x23⟩ rfl
          refine TE_go ?_
          refine TC_reg ?_
          refine TL_ev env 2 rfl ⟨⟨trivial, ⟨trivial, trivial⟩⟩, ⟨trivial, trivial⟩⟩ ?_
          refine TL_end ?_
          refine tsn ?_
          refine TE_renw (A' := [(1, .p 1049000 0), (5, .sl 1049001), (16, .agg [.int .i64 1, .int .i64 2, .int .i64 3]), (17, .int .i64 1), (23, .p 1049000 0), (24, .agg [.int .i64 _, .int .i64 _, .int .i64 _, .int .i64 _, .int .i64 _, .int .i64 _, .int .i64 _, .int .i64 _]), (25, .agg [.int .i64 0, .int .i64 0, .int .i64 0, .int .i64 0, .int .i64 0, .int .i64 0, .int .i64 0, .int .i64 0]), (26, .bool _)]) (L' := [(1049000, some (.cells [.int .i64 _, .int .i64 _, .int .i64 _, .int .i64 _, .int .i64 _, .int .i64 _, .int .i64 _, .int .i64 _, .int .i64 _, .int .i64 _, .int .i64 _, .int .i64 _, .int .i64 _, .int .i64 _, .int .i64 _])), (1049001, some (.rows (.int .u8) _))]) [(1049000, 11600), (1049001, 11601)] ⟨rfl, rfl, rfl, rfl, rfl, rfl, rfl, rfl, trivial⟩ ⟨rfl, rfl, trivial⟩ rfl ?_
          refine TE_lb ?_
          refine TC_seq ?_
          refine TC_reg ?_
          refine TL_ev env 1 rfl ⟨⟨trivial, ⟨trivial, trivial⟩⟩, trivial⟩ ?_
          refine TL_end ?_
          refine TE_go ?_
          refine TC_seq ?_
          refine TC_cond rfl (fun hb => ?_) (fun hb => ?_)
          · refine TC_skip ?_
            refine TE_go ?_
            refine TC_seq ?_
            obtain ⟨z2, h2, h1⟩ := bnd h1
            refine TC_cut (α := Bool × (List (Int))) (fun s => z2 = s) (fun s => [(1, .p 11800 0), (5, .sl 11801), (16, .agg [.int .i64 1, .int .i64 2, .int .i64 3]), (17, .int .i64 1), (29, .int .i64 2), (30, .bool true), (31, .bool true), (32, .p 11800 8), (33, .agg [.int .i64 p8, .int .i64 p9, .int .i64 p10, .int .i64 p11, .int .i64 p12]), (34, .agg [.int .i64 0, .int .i64 0, .int .i64 0, .int .i64 0, .int .i64 0]), (35, .bool s.1), (36, .bool s.1)]) (fun s => [(11800, some (.cells [.int .i64 p0, .int .i64 p1, .int .i64 p2, .int .i64 p3, .int .i64 p4, .int .i64 p5, .int .i64 p6, .int .i64 p7, .int .i64 p8, .int .i64 p9, .int .i64 p10, .int .i64 p11, .int .i64 p12, .int .i64 p13, .int .i64 p14])), (11801, some (.rows (.int .u8) s.2))]) ?_ ?_
            · refine TC_blk ?_
              refine TC_seq ?_
              refine TC_reg ?_
              refine TL_ev env 2 rfl ⟨⟨trivial, ⟨trivial, ⟨(by decide), (by decide)⟩⟩⟩, ⟨trivial, trivial⟩⟩ ?_
              refine TL_end ?_
              refine TE_go ?_
              refine TC_seq ?_
              refine TC_seq ?_
              refine TC_reg ?_
              refine TL_ev env 3 rfl ⟨trivial, ⟨⟨trivial, ⟨trivial, trivial⟩⟩, ⟨trivial, trivial⟩⟩⟩ ?_
              refine TL_gf (.bool false) rfl rfl rfl rfl rfl (by decide) ?_
              refine TL_gf (.bool false) rfl rfl rfl rfl rfl (by decide) ?_
              refine TL_gf (.bool false) rfl rfl rfl rfl rfl (by decide) ?_
              refine TL_gf (.bool false) rfl rfl rfl rfl rfl (by decide) ?_
              refine TL_ev env 2 rfl ⟨⟨trivial, ⟨fun e => e, trivial⟩⟩, ⟨trivial, trivial⟩⟩ ?_
              refine TL_gt rfl rfl rfl rfl ?_
              refine TL_ev env 1 rfl ⟨trivial, trivial⟩ ?_
              refine TL_gt rfl rfl rfl rfl ?_
              refine TL_ev env 1 rfl ⟨⟨trivial, ⟨trivial, trivial⟩⟩, trivial⟩ ?_
              refine TL_gt rfl rfl rfl rfl ?_
              refine TL_ev env 1 rfl ⟨trivial, trivial⟩ ?_
              refine TL_gt rfl rfl rfl rfl ?_
              refine TL_ev env 1 rfl ⟨trivial, trivial⟩ ?_
              refine TL_gt rfl rfl rfl rfl ?_
              refine TL_ev env 1 rfl ⟨⟨trivial, trivial⟩, trivial⟩ ?_
              refine TL_gt rfl rfl rfl rfl ?_
              refine TL_ev env 1 rfl ⟨trivial, trivial⟩ ?_
              refine TL_gt rfl rfl rfl rfl ?_
              refine TL_ev env 1 rfl ⟨⟨trivial, ⟨trivial, trivial⟩⟩, trivial⟩ ?_
              refine TL_gt rfl rfl rfl rfl ?_
              refine TL_ev env 2 rfl ⟨⟨trivial, ⟨trivial, trivial⟩⟩, ⟨⟨trivial, ⟨trivial, trivial⟩⟩, trivial⟩⟩ ?_
              refine TL_end ?_
              refine TE_go ?_
              refine TC_cond rfl (fun hb => ?_) (fun hb => ?_)
              · replace h2 := bif_t h2 hb
                refine TC_exit ?_
                refine tsx ?_
                refine tbe ?_
                obtain rfl := sinj h2
                refine tsn ?_
                exact SP_ren [(11800, 1049000), (11801, 1049001)] (_, _) rfl ⟨rfl, rfl, rfl, rfl, rfl, rfl, rfl, rfl, rfl, rfl, rfl, rfl, trivial⟩ ⟨rfl, rfl, trivial⟩ rfl
              · replace h2 := bif_f h2 hb
                refine TC_skip ?_
                refine TE_go ?_
                refine TC_seq ?_
                refine TC_reg ?_
                refine TL_ev env 1 rfl ⟨trivial, trivial⟩ ?_
                obtain ⟨⟨⟩, hr, h2⟩ := bnd h2
                refine TL_callB [(0, 1049000), (1000, 500390)] (caps_Caps_fields_3.ok0 hr) caps_Caps_fields_3.fnb rfl ⟨trivial, ⟨trivial, ⟨trivial, trivial⟩⟩⟩ rfl ⟨.inr rfl, trivial⟩ rfl ?_
                refine TL_ev env 1 rfl ⟨trivial, trivial⟩ ?_
                refine TL_end ?_
                refine TE_go ?_
                refine TC_seq ?_
                refine TC_reg ?_
                obtain ⟨g, h2⟩ := gd_t h2
                refine TL_ev env 9 rfl ⟨trivial, ⟨trivial, ⟨trivial, ⟨trivial, ⟨⟨trivial, trivial⟩, ⟨trivial, ⟨⟨trivial, ⟨trivial, trivial⟩⟩, ⟨⟨⟨trivial, ⟨trivial, trivial⟩⟩, g⟩, ⟨trivial, trivial⟩⟩⟩⟩⟩⟩⟩⟩⟩ ?_
                refine TL_end ?_
                refine TE_go ?_
                refine TC_seq ?_
                refine TC_reg ?_
                refine TL_ev env 3 rfl ⟨trivial, ⟨⟨trivial, trivial⟩, ⟨trivial, trivial⟩⟩⟩ ?_
                refine TL_end ?_
                refine TE_go ?_
                obtain ⟨z3, h3, h2⟩ := bnd h2
                refine TC_cut (α := (List (Int))) (fun s => z3 = s) (fun s => [(1, .p 12100 0), (5, .sl 12101), (16, .agg [.int .i64 1, .int .i64 2, .int .i64 3]), (17, .int .i64 1), (29, .int .i64 2), (30, .bool true), (31, .bool true), (32, .p 12100 8), (33, .agg [.int .i64 p8, .int .i64 p9, .int .i64 p10, .int .i64 p11, .int .i64 p12]), (34, .agg [.int .i64 0, .int .i64 0, .int .i64 0, .int .i64 0, .int .i64 0]), (35, .bool ((p8 == 0) && ((p9 == 0) && ((p10 == 0) && ((p11 == 0) && (p12 == 0)))))), (36, .bool ((p8 == 0) && ((p9 == 0) && ((p10 == 0) && ((p11 == 0) && (p12 == 0))))))]) (fun s => [(12100, some (.cells [.int .i64 p0, .int .i64 p1, .int .i64 p2, .int .i64 p3, .int .i64 p4, .int .i64 p5, .int .i64 p6, .int .i64 p7, .int .i64 p8, .int .i64 p9, .int .i64 p10, .int .i64 p11, .int .i64 p12, .int .i64 p13, .int .i64 p14])), (12101, some (.rows (.int .u8) s))]) ?_ ?_
                · refine TC_blk ?_
                  refine TC_loopU ?_
                  refine TE_lb ?_
                  refine TC_seq ?_
                  refine TC_reg ?_
                  refine TL_ev env 1 rfl ⟨⟨trivial, ⟨trivial, trivial⟩⟩, trivial⟩ ?_
                  refine TL_end ?_
                  refine TE_go ?_
                  refine TC_seq ?_
                  refine TC_cond rfl (fun hb => ?_) (fun hb => ?_)
                  · refine TC_skip ?_
                    refine TE_go ?_
                    refine TC_seq ?_
                    refine TC_blk ?_
                    refine TC_seq ?_
                    refine TC_reg ?_
                    refine TL_ev env 3 rfl ⟨⟨trivial, ⟨trivial, ⟨(by decide), (by decide)⟩⟩⟩, ⟨⟨trivial, trivial⟩, ⟨trivial, trivial⟩⟩⟩ ?_
                    refine TL_end ?_
                    refine TE_go ?_
                    refine TC_reg ?_
                    obtain ⟨g, h3⟩ := gd_t h3
                    refine TL_ev env 8 rfl ⟨trivial, ⟨trivial, ⟨trivial, ⟨⟨trivial, trivial⟩, ⟨trivial, ⟨⟨trivial, trivial⟩, ⟨⟨⟨trivial, ⟨trivial, trivial⟩⟩, g⟩, ⟨trivial, trivial⟩⟩⟩⟩⟩⟩⟩⟩ ?_
                    refine TL_end ?_
                    refine tbn ?_
                    refine TE_go ?_
                    refine TC_reg ?_
                    refine TL_ev env 2 rfl ⟨⟨trivial, ⟨trivial, trivial⟩⟩, ⟨trivial, trivial⟩⟩ ?_
                    refine TL_end ?_
                    refine tsn ?_
                    refine TE_renw (A' := [(1, .p 1068000 0), (5, .sl 1068001), (16, .agg [.int .i64 1, .int .i64 2, .int .i64 3]), (17, .int .i64 1), (29, .int .i64 2), (30, .bool true), (31, .bool true), (32, .p 1068000 8), (33, .agg [.int .i64 _, .int .i64 _, .int .i64 _, .int .i64 _, .int .i64 _]), (34, .agg [.int .i64 0, .int .i64 0, .int .i64 0, .int .i64 0, .int .i64 0]), (35, .bool _), (36, .bool _), (48, .hd 1068002 5), (49, .int .i64 5), (50, .int .i64 1)]) (L' := [(1068000, some (.cells [.int .i64 _, .int .i64 _, .int .i64 _, .int .i64 _, .int .i64 _, .int .i64 _, .int .i64 _, .int .i64 _, .int .i64 _, .int .i64 _, .int .i64 _, .int .i64 _, .int .i64 _, .int .i64 _, .int .i64 _])), (1068001, some (.rows (.int .u8) _)), (1068002, some (.cells [.p 1068000 8, .p 1068000 9, .p 1068000 10, .p 1068000 11, .p 1068000 12]))]) [(1068000, 1049000), (1068001, 1060), (1068002, 500390)] ⟨rfl, rfl, rfl, rfl, rfl, rfl, rfl, rfl, rfl, rfl, rfl, rfl, rfl, rfl, rfl, trivial⟩ ⟨rfl, rfl, rfl, trivial⟩ rfl ?_
                    refine TE_lb ?_
                    refine TC_seq ?_
                    refine TC_reg ?_
                    refine TL_ev env 1 rfl ⟨⟨trivial, ⟨trivial, trivial⟩⟩, trivial⟩ ?_
                    refine TL_end ?_
                    refine TE_go ?_
                    refine TC_seq ?_
                    refine TC_cond rfl (fun hb => ?_) (fun hb => ?_)
                    · refine TC_skip ?_
                      refine TE_go ?_
                      refine TC_seq ?_
                      refine TC_blk ?_
                      refine TC_seq ?_
                      refine TC_reg ?_
                      refine TL_ev env 3 rfl ⟨⟨trivial, ⟨trivial, ⟨(by decide), (by decide)⟩⟩⟩, ⟨⟨trivial, trivial⟩, ⟨trivial, trivial⟩⟩⟩ ?_
                      refine TL_end ?_
                      refine TE_go ?_
                      refine TC_reg ?_
                      obtain ⟨g, h3⟩ := gd_t h3
                      refine TL_ev env 8 rfl ⟨trivial, ⟨trivial, ⟨trivial, ⟨⟨trivial, trivial⟩, ⟨trivial, ⟨⟨trivial, trivial⟩, ⟨⟨⟨trivial, ⟨trivial, trivial⟩⟩, g⟩, ⟨trivial, trivial⟩⟩⟩⟩⟩⟩⟩⟩ ?_
                      refine TL_end ?_
                      refine tbn ?_
                      refine TE_go ?_
                      refine TC_reg ?_
                      refine TL_ev env 2 rfl ⟨⟨trivial, ⟨trivial, trivial⟩⟩, ⟨trivial, trivial⟩⟩ ?_
                      refine TL_end ?_
                      refine tsn ?_
                      refine TE_renw (A' := [(1, .p 1069000 0), (5, .sl 1069001), (16, .agg [.int .i64 1, .int .i64 2, .int .i64 3]), (17, .int .i64 1), (29, .int .i64 2), (30, .bool true), (31, .bool true), (32, .p 1069000 8), (33, .agg [.int .i64 _, .int .i64 _, .int .i64 _, .int .i64 _, .int .i64 _]), (34, .agg [.int .i64 0, .int .i64 0, .int .i64 0, .int .i64 0, .int .i64 0]), (35, .bool _), (36, .bool _), (48, .hd 1069002 5), (49, .int .i64 5), (50, .int .i64 2)]) (L' := [(1069000, some (.cells [.int .i64 _, .int .i64 _, .int .i64 _, .int .i64 _, .int .i64 _, .int .i64 _, .int .i64 _, .int .i64 _, .int .i64 _, .int .i64 _, .int .i64 _, .int .i64 _, .int .i64 _, .int .i64 _, .int .i64 _])), (1069001, some (.rows (.int .u8) _)), (1069002, some (.cells [.p 1069000 8, .p 1069000 9, .p 1069000 10, .p 1069000 11, .p 1069000 12]))]) [(1069000, 1068000), (1069001, 1060), (1069002, 1068002)] ⟨rfl, rfl, rfl, rfl, rfl, rfl, rfl, rfl, rfl, rfl, rfl, rfl, rfl, rfl, rfl, trivial⟩ ⟨rfl, rfl, rfl, trivial⟩ rfl ?_
                      refine TE_lb ?_
                      refine TC_seq ?_
                      refine TC_reg ?_
                      refine TL_ev env 1 rfl ⟨⟨trivial, ⟨trivial, trivial⟩⟩, trivial⟩ ?_
                      refine TL_end ?_
                      refine TE_go ?_
                      refine TC_seq ?_
                      refine TC_cond rfl (fun hb => ?_) (fun hb => ?_)
                      · refine TC_skip ?_
                        refine TE_go ?_
                        refine TC_seq ?_
                        refine TC_blk ?_
                        refine TC_seq ?_
                        refine TC_reg ?_
                        refine TL_ev env 3 rfl ⟨⟨trivial, ⟨trivial, ⟨(by decide), (by decide)⟩⟩⟩, ⟨⟨trivial, trivial⟩, ⟨trivial, trivial⟩⟩⟩ ?_
                        refine TL_end ?_
                        refine TE_go ?_
                        refine TC_reg ?_
                        obtain ⟨g, h3⟩ := gd_t h3
                        refine TL_ev env 8 rfl ⟨trivial, ⟨trivial, ⟨trivial, ⟨⟨trivial, trivial⟩, ⟨trivial, ⟨⟨trivial, trivial⟩, ⟨⟨⟨trivial, ⟨trivial, trivial⟩⟩, g⟩, ⟨trivial, trivial⟩⟩⟩⟩⟩⟩⟩⟩ ?_
                        refine TL_end ?_
                        refine tbn ?_
                        refine TE_go ?_
                        refine TC_reg ?_
                        refine TL_ev env 2 rfl ⟨⟨trivial, ⟨trivial, trivial⟩⟩, ⟨trivial, trivial⟩⟩ ?_
                        refine TL_end ?_
                        refine tsn ?_
                        refine TE_renw (A' := [(1, .p 1070000 0), (5, .sl 1070001), (16, .agg [.int .i64 1, .int .i64 2, .int .i64 3]), (17, .int .i64 1), (29, .int .i64 2), (30, .bool true), (31, .bool true), (32, .p 1070000 8), (33, .agg [.int .i64 _, .int .i64 _, .int .i64 _, .int .i64 _, .int .i64 _]), (34, .agg [.int .i64 0, .int .i64 0, .int .i64 0, .int .i64 0, .int .i64 0]), (35, .bool _), (36, .bool _), (48, .hd 1070002 5), (49, .int .i64 5), (50, .int .i64 3)]) (L' := [(1070000, some (.cells [.int .i64 _, .int .i64 _, .int .i64 _, .int .i64 _, .int .i64 _, .int .i64 _, .int .i64 _, .int .i64 _, .int .i64 _, .int .i64 _, .int .i64 _, .int .i64 _, .int .i64 _, .int .i64 _, .int .i64 _])), (1070001, some (.rows (.int .u8) _)), (1070002, some (.cells [.p 1070000 8, .p 1070000 9, .p 1070000 10, .p 1070000 11, .p 1070000 12]))]) [(1070000, 1069000), (1070001, 1060), (1070002, 1069002)] ⟨rfl, rfl, rfl, rfl, rfl, rfl, rfl, rfl, rfl, rfl, rfl, rfl, rfl, rfl, rfl, trivial⟩ ⟨rfl, rfl, rfl, trivial⟩ rfl ?_
                        refine TE_lb ?_
                        refine TC_seq ?_
                        refine TC_reg ?_
                        refine TL_ev env 1 rfl ⟨⟨trivial, ⟨trivial, trivial⟩⟩, trivial⟩ ?_
                        refine TL_end ?_
                        refine TE_go ?_
                        refine TC_seq ?_
                        refine TC_cond rfl (fun hb => ?_) (fun hb => ?_)
                        · refine TC_skip ?_
                          refine TE_go ?_
                          refine TC_seq ?_
                          refine TC_blk ?_
                          refine TC_seq ?_
                          refine TC_reg ?_
                          refine TL_ev env 3 rfl ⟨⟨trivial, ⟨trivial, ⟨(by decide), (by decide)⟩⟩⟩, ⟨⟨trivial, trivial⟩, ⟨trivial, trivial⟩⟩⟩ ?_
                          refine TL_end ?_
                          refine TE_go ?_
                          refine TC_reg ?_
                          obtain ⟨g, h3⟩ := gd_t h3
                          refine TL_ev env 8 rfl ⟨trivial, ⟨trivial, ⟨trivial, ⟨⟨trivial, trivial⟩, ⟨trivial, ⟨⟨trivial, trivial⟩, ⟨⟨⟨trivial, ⟨trivial, trivial⟩⟩, g⟩, ⟨trivial, trivial⟩⟩⟩⟩⟩⟩⟩⟩ ?_
                          refine TL_end ?_
                          refine tbn ?_
                          refine TE_go ?_
                          refine TC_reg ?_
                          refine TL_ev env 2 rfl ⟨⟨trivial, ⟨trivial, trivial⟩⟩, ⟨trivial, trivial⟩⟩ ?_
                          refine TL_end ?_
                          refine tsn ?_
                          refine TE_renw (A' := [(1, .p 1071000 0), (5, .sl 1071001), (16, .agg [.int .i64 1, .int .i64 2, .int .i64 3]), (17, .int .i64 1), (29, .int .i64 2), (30, .bool true), (31, .bool true), (32, .p 1071000 8), (33, .agg [.int .i64 _, .int .i64 _, .int .i64 _, .int .i64 _, .int .i64 _]), (34, .agg [.int .i64 0, .int .i64 0, .int .i64 0, .int .i64 0, .int .i64 0]), (35, .bool _), (36, .bool _), (48, .hd 1071002 5), (49, .int .i64 5), (50, .int .i64 4)]) (L' := [(1071000, some (.cells [.int .i64 _, .int .i64 _, .int .i64 _, .int .i64 _, .int .i64 _, .int .i64 _, .int .i64 _, .int .i64 _, .int .i64 _, .int .i64 _, .int .i64 _, .int .i64 _, .int .i64 _, .int .i64 _, .int .i64 _])), (1071001, some (.rows (.int .u8) _)), (1071002, some (.cells [.p 1071000 8, .p 1071000 9, .p 1071000 10, .p 1071000 11, .p 1071000 12]))]) [(1071000, 1070000), (1071001, 1060), (1071002, 1070002)] ⟨rfl, rfl, rfl, rfl, rfl, rfl, rfl, rfl, rfl, rfl, rfl, rfl, rfl, rfl, rfl, trivial⟩ ⟨rfl, rfl, rfl, trivial⟩ rfl ?_
                          refine TE_lb ?_
                          refine TC_seq ?_
                          refine TC_reg ?_
                          refine TL_ev env 1 rfl ⟨⟨trivial, ⟨trivial, trivial⟩⟩, trivial⟩ ?_
                          refine TL_end ?_
                          refine TE_go ?_
                          refine TC_seq ?_
                          refine TC_cond rfl (fun hb => ?_) (fun hb => ?_)
                          · refine TC_skip ?_
                            refine TE_go ?_
                            refine TC_seq ?_
                            refine TC_blk ?_
                            refine TC_seq ?_
                            refine TC_reg ?_
                            refine TL_ev env 3 rfl ⟨⟨trivial, ⟨trivial, ⟨(by decide), (by decide)⟩⟩⟩, ⟨⟨trivial, trivial⟩, ⟨trivial, trivial⟩⟩⟩ ?_
                            refine TL_end ?_
                            refine TE_go ?_
                            refine TC_reg ?_
                            obtain ⟨g, h3⟩ := gd_t h3
                            refine TL_ev env 8 rfl ⟨trivial, ⟨trivial, ⟨trivial, ⟨⟨trivial, trivial⟩, ⟨trivial, ⟨⟨trivial, trivial⟩, ⟨⟨⟨trivial, ⟨trivial, trivial⟩⟩, g⟩, ⟨trivial, trivial⟩⟩⟩⟩⟩⟩⟩⟩ ?_
                            refine TL_end ?_
                            refine tbn ?_
                            refine TE_go ?_
                            refine TC_reg ?_
                            refine TL_ev env 2 rfl ⟨⟨trivial, ⟨trivial, trivial⟩⟩, ⟨trivial, trivial⟩⟩ ?_
                            refine TL_end ?_
                            refine tsn ?_
                            refine TE_renw (A' := [(1, .p 1072000 0), (5, .sl 1072001), (16, .agg [.int .i64 1, .int .i64 2, .int .i64 3]), (17, .int .i64 1), (29, .int .i64 2), (30, .bool true), (31, .bool true), (32, .p 1072000 8), (33, .agg [.int .i64 _, .int .i64 _, .int .i64 _, .int .i64 _, .int .i64 _]), (34, .agg [.int .i64 0, .int .i64 0, .int .i64 0, .int .i64 0, .int .i64 0]), (35, .bool _), (36, .bool _), (48, .hd 1072002 5), (49, .int .i64 5), (50, .int .i64 5)]) (L' := [(1072000, some (.cells [.int .i64 _, .int .i64 _, .int .i64 _, .int .i64 _, .int .i64 _, .int .i64 _, .int .i64 _, .int .i64 _, .int .i64 _, .int .i64 _, .int .i64 _, .int .i64 _, .int .i64 _, .int .i64 _, .int .i64 _])), (1072001, some (.rows (.int .u8) _)), (1072002, some (.cells [.p 1072000 8, .p 1072000 9, .p 1072000 10, .p 1072000 11, .p 1072000 12]))]) [(1072000, 1071000), (1072001, 1060), (1072002, 1071002)] ⟨rfl, rfl, rfl, rfl, rfl, rfl, rfl, rfl, rfl, rfl, rfl, rfl, rfl, rfl, rfl, trivial⟩ ⟨rfl, rfl, rfl, trivial⟩ rfl ?_
                            refine TE_lb ?_
                            refine TC_seq ?_
                            refine TC_reg ?_
                            refine TL_ev env 1 rfl ⟨⟨trivial, ⟨trivial, trivial⟩⟩, trivial⟩ ?_
                            refine TL_end ?_
                            refine TE_go ?_
                            refine TC_seq ?_
                            refine TC_cond rfl (fun hb => ?_) (fun hb => ?_)
                            · first | exact (ftf hb).elim | exact (tff hb).elim | exact absurd hb (by decide)
                            · refine TC_exit ?_
                              refine tsx ?_
                              refine tsx ?_
                              refine tbe ?_
                              obtain rfl := sinj h3
                              refine tsn ?_
                              exact SP_ren [(12100, 1072000), (12101, 1072001)] _ rfl ⟨rfl, rfl, rfl, rfl, rfl, rfl, rfl, rfl, rfl, rfl, rfl, rfl, trivial⟩ ⟨rfl, rfl, trivial⟩ rfl
                          · first | exact (ftf hb).elim | exact (tff hb).elim | exact absurd hb (by decide)
                        · first | exact (ftf hb).elim | exact (tff hb).elim | exact absurd hb (by decide)
                      · first | exact (ftf hb).elim | exact (tff hb).elim | exact absurd hb (by decide)
                    · first | exact (ftf hb).elim | exact (tff hb).elim | exact absurd hb (by decide)
                  · first | exact (ftf hb).elim | exact (tff hb).elim | exact absurd hb (by decide)
                · rintro x35 hz
                  obtain rfl := hz.symm
                  refine tbn ?_
                  obtain rfl := sinj h2
                  refine tsn ?_
                  exact SP_ren [(11800, 12100), (11801, 12101)] (_, _) rfl ⟨rfl, rfl, rfl, rfl, rfl, rfl, rfl, rfl, rfl, rfl, rfl, rfl, trivial⟩ ⟨rfl, rfl, trivial⟩ rfl
            · rintro ⟨x25, x26⟩ rfl
              refine TE_go ?_
              refine TC_reg ?_
              refine TL_ev env 2 rfl ⟨⟨trivial, ⟨trivial, trivial⟩⟩, ⟨trivial, trivial⟩⟩ ?_
              refine TL_end ?_
              refine tsn ?_
              refine TE_renw (A' := [(1, .p 1055000 0), (5, .sl 1055001), (16, .agg [.int .i64 1, .int .i64 2, .int .i64 3]), (17, .int .i64 2), (29, .int .i64 2), (30, .bool true), (31, .bool true), (32, .p 1055000 8), (33, .agg [.int .i64 _, .int .i64 _, .int .i64 _, .int .i64 _, .int .i64 _]), (34, .agg [.int .i64 0, .int .i64 0, .int .i64 0, .int .i64 0, .int .i64 0]), (35, .bool _), (36, .bool _)]) (L' := [(1055000, some (.cells [.int .i64 _, .int .i64 _, .int .i64 _, .int .i64 _, .int .i64 _, .int .i64 _, .int .i64 _, .int .i64 _, .int .i64 _, .int .i64 _, .int .i64 _, .int .i64 _, .int .i64 _, .int .i64 _, .int .i64 _])), (1055001, some (.rows (.int .u8) _))]) [(1055000, 11800), (1055001, 11801)] ⟨rfl, rfl, rfl, rfl, rfl, rfl, rfl, rfl, rfl, rfl, rfl, rfl, trivial⟩ ⟨rfl, rfl, trivial⟩ rfl ?_
              refine TE_lb ?_
              refine TC_seq ?_
              refine TC_reg ?_
              refine TL_ev env 1 rfl ⟨⟨trivial, ⟨trivial, trivial⟩⟩, trivial⟩ ?_
              refine TL_end ?_
              refine TE_go ?_
              refine TC_seq ?_
              refine TC_cond rfl (fun hb => ?_) (fun hb => ?_)
              · refine TC_skip ?_
                refine TE_go ?_
                refine TC_seq ?_
                refine TC_blk ?_
                refine TC_seq ?_
                refine TC_reg ?_
                refine TL_ev env 2 rfl ⟨⟨trivial, ⟨trivial, ⟨(by decide), (by decide)⟩⟩⟩, ⟨trivial, trivial⟩⟩ ?_
                refine TL_end ?_
                refine TE_go ?_
                refine TC_seq ?_
                refine TC_seq ?_
                refine TC_reg ?_
                refine TL_ev env 3 rfl ⟨trivial, ⟨⟨trivial, ⟨trivial, trivial⟩⟩, ⟨trivial, trivial⟩⟩⟩ ?_
                refine TL_gf (.bool false) rfl rfl rfl rfl rfl (by decide) ?_
                refine TL_gf (.bool false) rfl rfl rfl rfl rfl (by decide) ?_
                refine TL_gf (.bool false) rfl rfl rfl rfl rfl (by decide) ?_
                refine TL_gf (.bool false) rfl rfl rfl rfl rfl (by decide) ?_
                refine TL_ev env 2 rfl ⟨⟨trivial, ⟨fun e => e, trivial⟩⟩, ⟨trivial, trivial⟩⟩ ?_
                refine TL_gt rfl rfl rfl rfl ?_
                refine TL_ev env 1 rfl ⟨trivial, trivial⟩ ?_
                refine TL_gt rfl rfl rfl rfl ?_
                refine TL_ev env 1 rfl ⟨⟨trivial, ⟨trivial, trivial⟩⟩, trivial⟩ ?_
                refine TL_gt rfl rfl rfl rfl ?_
                refine TL_ev env 1 rfl ⟨trivial, trivial⟩ ?_
                refine TL_gf (.bool false) rfl rfl rfl rfl rfl (by decide) ?_
                refine TL_gf (.bool false) rfl rfl rfl rfl rfl (by decide) ?_
                refine TL_gf (.bool false) rfl rfl rfl rfl rfl (by decide) ?_
                refine TL_gf (.bool false) rfl rfl rfl rfl rfl (by decide) ?_
                refine TL_gt rfl rfl rfl rfl ?_
                refine TL_ev env 2 rfl ⟨⟨trivial, ⟨fun e => e, trivial⟩⟩, ⟨⟨trivial, ⟨trivial, trivial⟩⟩, trivial⟩⟩ ?_
                refine TL_end ?_
                refine TE_go ?_
                refine TC_cond rfl (fun hb => ?_) (fun hb => ?_)
                · first | exact (ftf hb).elim | exact (tff hb).elim | exact absurd hb (by decide)
                · refine TC_skip ?_
                  refine TE_go ?_
                  refine TC_seq ?_
                  refine TC_reg ?_
                  refine TL_ev env 1 rfl ⟨trivial, trivial⟩ ?_
                  obtain ⟨⟨⟩, hr, h1⟩ := bnd h1
                  refine TL_callB [(0, 1055000), (1000, 500390)] (caps_Caps_fields_4.ok0 hr) caps_Caps_fields_4.fnb rfl ⟨trivial, ⟨trivial, ⟨trivial, trivial⟩⟩⟩ rfl ⟨.inr rfl, trivial⟩ rfl ?_
                  refine TL_ev env 1 rfl ⟨trivial, trivial⟩ ?_
                  refine TL_end ?_
                  refine TE_go ?_
                  refine TC_seq ?_
                  refine TC_reg ?_
                  obtain ⟨g, h1⟩ := gd_t h1
                  refine TL_ev env 9 rfl ⟨trivial, ⟨trivial, ⟨trivial, ⟨trivial, ⟨⟨trivial, trivial⟩, ⟨trivial, ⟨⟨trivial, ⟨trivial, trivial⟩⟩, ⟨⟨⟨trivial, ⟨trivial, trivial⟩⟩, g⟩, ⟨trivial, trivial⟩⟩⟩⟩⟩⟩⟩⟩⟩ ?_
                  refine TL_end ?_
                  refine TE_go ?_
                  refine TC_seq ?_
                  refine TC_reg ?_
                  refine TL_ev env 3 rfl ⟨trivial, ⟨⟨trivial, trivial⟩, ⟨trivial, trivial⟩⟩⟩ ?_
                  refine TL_end ?_
                  refine TE_go ?_
                  obtain ⟨z2, h2, h1⟩ := bnd h1
                  refine TC_cut (α := (List (Int))) (fun s => z2 = s) (fun s => [(1, .p 12000 0), (5, .sl 12001), (16, .agg [.int .i64 1, .int .i64 2, .int .i64 3]), (17, .int .i64 2), (29, .int .i64 3), (30, .bool false), (31, .bool false), (36, .bool false)]) (fun s => [(12000, some (.cells [.int .i64 p0, .int .i64 p1, .int .i64 p2, .int .i64 p3, .int .i64 p4, .int .i64 p5, .int .i64 p6, .int .i64 p7, .int .i64 p8, .int .i64 p9, .int .i64 p10, .int .i64 p11, .int .i64 p12, .int .i64 p13, .int .i64 p14])), (12001, some (.rows (.int .u8) s))]) ?_ ?_
                  · refine TC_blk ?_
                    refine TC_loopU ?_
                    refine TE_lb ?_
                    refine TC_seq ?_
                    refine TC_reg ?_
                    refine TL_ev env 1 rfl ⟨⟨trivial, ⟨trivial, trivial⟩⟩, trivial⟩ ?_
                    refine TL_end ?_
                    refine TE_go ?_
                    refine TC_seq ?_
                    refine TC_cond rfl (fun hb => ?_) (fun hb => ?_)
                    · refine TC_skip ?_
                      refine TE_go ?_
                      refine TC_seq ?_
                      refine TC_blk ?_
                      refine TC_seq ?_
                      refine TC_reg ?_
                      refine TL_ev env 3 rfl ⟨⟨trivial, ⟨trivial, ⟨(by decide), (by decide)⟩⟩⟩, ⟨⟨trivial, trivial⟩, ⟨trivial, trivial⟩⟩⟩ ?_
                      refine TL_end ?_
                      refine TE_go ?_
                      refine TC_reg ?_
                      obtain ⟨g, h2⟩ := gd_t h2
                      refine TL_ev env 8 rfl ⟨trivial, ⟨trivial, ⟨trivial, ⟨⟨trivial, trivial⟩, ⟨trivial, ⟨⟨trivial, trivial⟩, ⟨⟨⟨trivial, ⟨trivial, trivial⟩⟩, g⟩, ⟨trivial, trivial⟩⟩⟩⟩⟩⟩⟩⟩ ?_
                      refine TL_end ?_
                      refine tbn ?_
                      refine TE_go ?_
                      refine TC_reg ?_
                      refine TL_ev env 2 rfl ⟨⟨trivial, ⟨trivial, trivial⟩⟩, ⟨trivial, trivial⟩⟩ ?_
                      refine TL_end ?_
                      refine tsn ?_
                      refine TE_renw (A' := [(1, .p 1061000 0), (5, .sl 1061001), (16, .agg [.int .i64 1, .int .i64 2, .int .i64 3]), (17, .int .i64 2), (29, .int .i64 3), (30, .bool false), (31, .bool false), (36, .bool false), (48, .hd 1061002 2), (49, .int .i64 2), (50, .int .i64 1)]) (L' := [(1061000, some (.cells [.int .i64 _, .int .i64 _, .int .i64 _, .int .i64 _, .int .i64 _, .int .i64 _, .int .i64 _, .int .i64 _, .int .i64 _, .int .i64 _, .int .i64 _, .int .i64 _, .int .i64 _, .int .i64 _, .int .i64 _])), (1061001, some (.rows (.int .u8) _)), (1061002, some (.cells [.p 1061000 13, .p 1061000 14]))]) [(1061000, 1055000), (1061001, 1060), (1061002, 500390)] ⟨rfl, rfl, rfl, rfl, rfl, rfl, rfl, rfl, rfl, rfl, rfl, trivial⟩ ⟨rfl, rfl, rfl, trivial⟩ rfl ?_
                      refine TE_lb ?_
                      refine TC_seq ?_
                      refine TC_reg ?_
                      refine TL_ev env 1 rfl ⟨⟨trivial, ⟨trivial, trivial⟩⟩, trivial⟩ ?_
                      refine TL_end ?_
                      refine TE_go ?_
                      refine TC_seq ?_
                      refine TC_cond rfl (fun hb => ?_) (fun hb => ?_)
                      · refine TC_skip ?_
                        refine TE_go ?_
                        refine TC_seq ?_
                        refine TC_blk ?_
                        refine TC_seq ?_
                        refine TC_reg ?_
                        refine TL_ev env 3 rfl ⟨⟨trivial, ⟨trivial, ⟨(by decide), (by decide)⟩⟩⟩, ⟨⟨trivial, trivial⟩, ⟨trivial, trivial⟩⟩⟩ ?_
                        refine TL_end ?_
                        refine TE_go ?_
                        refine TC_reg ?_
                        obtain ⟨g, h2⟩ := gd_t h2
                        refine TL_ev env 8 rfl ⟨trivial, ⟨trivial, ⟨trivial, ⟨⟨trivial, trivial⟩, ⟨trivial, ⟨⟨trivial, trivial⟩, ⟨⟨⟨trivial, ⟨trivial, trivial⟩⟩, g⟩, ⟨trivial, trivial⟩⟩⟩⟩⟩⟩⟩⟩ ?_
                        refine TL_end ?_
                        refine tbn ?_
                        refine TE_go ?_
                        refine TC_reg ?_
                        refine TL_ev env 2 rfl ⟨⟨trivial, ⟨trivial, trivial⟩⟩, ⟨trivial, trivial⟩⟩ ?_
                        refine TL_end ?_
                        refine tsn ?_
                        refine TE_renw (A' := [(1, .p 1062000 0), (5, .sl 1062001), (16, .agg [.int .i64 1, .int .i64 2, .int .i64 3]), (17, .int .i64 2), (29, .int .i64 3), (30, .bool false), (31, .bool false), (36, .bool false), (48, .hd 1062002 2), (49, .int .i64 2), (50, .int .i64 2)]) (L' := [(1062000, some (.cells [.int .i64 _, .int .i64 _, .int .i64 _, .int .i64 _, .int .i64 _, .int .i64 _, .int .i64 _, .int .i64 _, .int .i64 _, .int .i64 _, .int .i64 _, .int .i64 _, .int .i64 _, .int .i64 _, .int .i64 _])), (1062001, some (.rows (.int .u8) _)), (1062002, some (.cells [.p 1062000 13, .p 1062000 14]))]) [(1062000, 1061000), (1062001, 1060), (1062002, 1061002)] ⟨rfl, rfl, rfl, rfl, rfl, rfl, rfl, rfl, rfl, rfl, rfl, trivial⟩ ⟨rfl, rfl, rfl, trivial⟩ rfl ?_
                        refine TE_lb ?_
                        refine TC_seq ?_
                        refine TC_reg ?_
                        refine TL_ev env 1 rfl ⟨⟨trivial, ⟨trivial, trivial⟩⟩, trivial⟩ ?_
                        refine TL_end ?_
                        refine TE_go ?_
                        refine TC_seq ?_
                        refine TC_cond rfl (fun hb => ?_) (fun hb => ?_)
                        · first | exact (ftf hb).elim | exact (tff hb).elim | exact absurd hb (by decide)
                        · refine TC_exit ?_
                          refine tsx ?_
                          refine tsx ?_
                          refine tbe ?_
                          obtain rfl := sinj h2
                          refine tsn ?_
                          exact SP_ren [(12000, 1062000), (12001, 1062001)] _ rfl ⟨rfl, rfl, rfl, rfl, rfl, rfl, rfl, rfl, trivial⟩ ⟨rfl, rfl, trivial⟩ rfl
                      · first | exact (ftf hb).elim | exact (tff hb).elim | exact absurd hb (by decide)
                    · first | exact (ftf hb).elim | exact (tff hb).elim | exact absurd hb (by decide)
                  · rintro x29 hz
                    obtain rfl := hz.symm
                    refine tbn ?_
                    refine TE_go ?_
                    refine TC_reg ?_
                    refine TL_ev env 2 rfl ⟨⟨trivial, ⟨trivial, trivial⟩⟩, ⟨trivial, trivial⟩⟩ ?_
                    refine TL_end ?_
                    refine tsn ?_
                    refine TE_renw (A' := [(1, .p 1060000 0), (5, .sl 1060001), (16, .agg [.int .i64 1, .int .i64 2, .int .i64 3]), (17, .int .i64 3), (29, .int .i64 3), (30, .bool false), (31, .bool false), (36, .bool false)]) (L' := [(1060000, some (.cells [.int .i64 _, .int .i64 _, .int .i64 _, .int .i64 _, .int .i64 _, .int .i64 _, .int .i64 _, .int .i64 _, .int .i64 _, .int .i64 _, .int .i64 _, .int .i64 _, .int .i64 _, .int .i64 _, .int .i64 _])), (1060001, some (.rows (.int .u8) _))]) [(1060000, 12000), (1060001, 12001)] ⟨rfl, rfl, rfl, rfl, rfl, rfl, rfl, rfl, trivial⟩ ⟨rfl, rfl, trivial⟩ rfl ?_
                    refine TE_lb ?_
                    refine TC_seq ?_
                    refine TC_reg ?_
                    refine TL_ev env 1 rfl ⟨⟨trivial, ⟨trivial, trivial⟩⟩, trivial⟩ ?_
                    refine TL_end ?_
                    refine TE_go ?_
                    refine TC_seq ?_
                    refine TC_cond rfl (fun hb => ?_) (fun hb => ?_)
                    · first | exact (ftf hb).elim | exact (tff hb).elim | exact absurd hb (by decide)
                    · refine TC_exit ?_
                      refine tsx ?_
                      refine tsx ?_
                      refine tbe ?_
                      obtain rfl := sinj h1
                      refine tsn ?_
                      exact SP_ren [(11400, 1060001)] _ rfl ⟨rfl, trivial⟩ ⟨rfl, trivial⟩ rfl
              · first | exact (ftf hb).elim | exact (tff hb).elim | exact absurd hb (by decide)
          · first | exact (ftf hb).elim | exact (tff hb).elim | exact absurd hb (by decide)
      · first | exact (ftf hb).elim | exact (tff hb).elim | exact absurd hb (by decide)
    · rintro x20 hz
      obtain rfl := hz.symm
      refine TE_go ?_
      refine TC_seq ?_
      refine TC_reg ?_
      refine TL_ev env 3 rfl ⟨trivial, ⟨trivial, ⟨trivial, trivial⟩⟩⟩ ?_
      refine TL_end ?_
      refine TE_go ?_
      refine TC_ret ?_
      refine TE_frz 11400 rfl ?_
      obtain rfl := sinj h0
      exact TE_ret env rfl trivial trivial
theorem caps_Bytes.ok0 {K : Nat} {p0 : Int} {p1 : Int} {p2 : Int} {p3 : Int} {p4 : Int} {p5 : Int} {p6 : Int} {p7 : Int} {p8 : Int} {p9 : Int} {p10 : Int} {p11 : Int} {p12 : Int} {p13 : Int} {p14 : Int} {q0 : Int} (h0 : caps_Bytes K p0 p1 p2 p3 p4 p5 p6 p7 p8 p9 p10 p11 p12 p13 p14 = some (.inl q0)) : Fn Try.prog 41 [.agg [.int .i64 p0, .int .i64 p1, .int .i64 p2, .int .i64 p3, .int .i64 p4, .int .i64 p5, .int .i64 p6, .int .i64 p7, .int .i64 p8, .int .i64 p9, .int .i64 p10, .int .i64 p11, .int .i64 p12, .int .i64 p13, .int .i64 p14]] [] (.tup [.nils, .int .i64 q0]) [] := caps_Bytes.ok h0
theorem caps_Bytes.ok1 {K : Nat} {p0 : Int} {p1 : Int} {p2 : Int} {p3 : Int} {p4 : Int} {p5 : Int} {p6 : Int} {p7 : Int} {p8 : Int} {p9 : Int} {p10 : Int} {p11 : Int} {p12 : Int} {p13 : Int} {p14 : Int} {q0 : List (Int)} (h0 : caps_Bytes K p0 p1 p2 p3 p4 p5 p6 p7 p8 p9 p10 p11 p12 p13 p14 = some (.inr q0)) : Fn Try.prog 41 [.agg [.int .i64 p0, .int .i64 p1, .int .i64 p2, .int .i64 p3, .int .i64 p4, .int .i64 p5, .int .i64 p6, .int .i64 p7, .int .i64 p8, .int .i64 p9, .int .i64 p10, .int .i64 p11, .int .i64 p12, .int .i64 p13, .int .i64 p14]] [] (.tup [.im (.slice (.int .u8)) q0, .int .i64 0]) [] := caps_Bytes.ok h0
theorem caps_Bytes.fnb : fnb Try.prog 41 = true := fnb_of Try.func41 rfl
def caps_Parse_2.res  : Int → MV
  | q0 => .tup [.agg [.int .i64 0, .int .i64 0, .int .i64 0, .int .i64 0, .int .i64 0, .int .i64 0, .int .i64 0, .int .i64 0, .int .i64 0, .int .i64 0, .int .i64 0, .int .i64 0, .int .i64 0, .int .i64 0, .int .i64 0], .int .i64 q0]
def caps_Parse_2.out  : Int → List (Nat × Option MObj)
  | _ => []
theorem caps_Parse_2.ok {K : Nat}  {r : Int} (h0 : caps_Parse_2 K  = some r) : Fn Try.prog 43 [.nils] [] (caps_Parse_2.res  r) (caps_Parse_2.out  r) := by
  refine Fn_of Try.func43 rfl (Nat.le_of_ble_eq_true rfl) fun Γ => ?_
  refine TC_seq ?_
  refine TC_reg ?_
  refine TL_ev env 2 rfl ⟨trivial, ⟨trivial, trivial⟩⟩ ?_
  refine TL_end ?_
  refine TE_go ?_
  refine TC_seq ?_
  refine TC_reg ?_
  refine TL_ev env 1 rfl ⟨trivial, trivial⟩ ?_
  refine TL_end ?_
  refine TE_go ?_
  refine TC_seq ?_
  refine TC_reg ?_
  refine TL_ev env 1 rfl ⟨trivial, trivial⟩ ?_
  refine TL_end ?_
  refine TE_go ?_
  refine TC_seq ?_
  refine TC_seq ?_
  refine TC_reg ?_
  refine TL_ev env 3 rfl ⟨trivial, ⟨⟨trivial, trivial⟩, ⟨⟨trivial, ⟨trivial, trivial⟩⟩, trivial⟩⟩⟩ ?_
  refine TL_end ?_
  refine TE_go ?_
  refine TC_cond rfl (fun hb => ?_) (fun hb => ?_)
  · first | exact (ftf hb).elim | exact (tff hb).elim | exact absurd hb (by decide)
  · refine TC_skip ?_
    refine TE_go ?_
    refine TC_seq ?_
    obtain ⟨z1, h1, h0⟩ := bnd h0
    refine TC_cut (α := Unit) (fun _ => z1 = ()) (fun _ => [(2, .p 10600 0), (4, .p 10601 0)]) (fun _ => [(10600, some (.cells [.int .i64 0, .int .i64 0, .int .i64 0, .int .i64 0, .int .i64 0, .int .i64 0, .int .i64 0, .int .i64 0, .int .i64 0, .int .i64 0, .int .i64 0, .int .i64 0, .int .i64 0, .int .i64 0, .int .i64 0])), (10601, some (.cells [.int .i64 0, .int .i64 0, .int .i64 0, .int .i64 0, .int .i64 0, .int .i64 0, .int .i64 0, .int .i64 0, .int .i64 0, .int .i64 0, .int .i64 0, .int .i64 0, .int .i64 0, .int .i64 0, .int .i64 0]))]) ?_ ?_
    · refine TC_blk ?_
      refine TC_loop (α := Unit) (fun n _ => caps_Parse_2.l0 K n = some z1) (fun _ => [(0, .nils), (2, .p 10700 0), (4, .p 10701 0), (5, .p 10702 0)]) (fun _ => [(10700, some (.cells [.int .i64 0, .int .i64 0, .int .i64 0, .int .i64 0, .int .i64 0, .int .i64 0, .int .i64 0, .int .i64 0, .int .i64 0, .int .i64 0, .int .i64 0, .int .i64 0, .int .i64 0, .int .i64 0, .int .i64 0])), (10701, some (.cells [.int .i64 0, .int .i64 0, .int .i64 0, .int .i64 0, .int .i64 0, .int .i64 0, .int .i64 0, .int .i64 0, .int .i64 0, .int .i64 0, .int .i64 0, .int .i64 0, .int .i64 0, .int .i64 0, .int .i64 0])), (10702, some (.cells [.bool false, .bool false, .bool false, .bool false]))]) K ?_ ?_
      · exact SP_ren [(10700, 1002), (10701, 1004), (10702, 1005)] () h1 ⟨rfl, rfl, rfl, rfl, trivial⟩ ⟨rfl, rfl, rfl, trivial⟩ rfl
      rintro n ⟨⟩ h1
      rcases n with _ | n
      · exact (nsome h1).elim
      replace h1 : caps_Parse_2.r0 K (caps_Parse_2.l0 K n)  = some z1 := h1
      refine TC_seq ?_
      refine TC_seq ?_
      refine TC_reg ?_
      refine TL_ev env 3 rfl ⟨trivial, ⟨⟨trivial, trivial⟩, ⟨⟨trivial, ⟨trivial, trivial⟩⟩, trivial⟩⟩⟩ ?_
      refine TL_end ?_
      refine TE_go ?_
      refine TC_cond rfl (fun hb => ?_) (fun hb => ?_)
      · first | exact (ftf hb).elim | exact (tff hb).elim | exact absurd hb (by decide)
      · refine TC_exit ?_
        refine tsx ?_
        refine tsx ?_
        refine tbe ?_
        obtain rfl := sinj h1
        refine tsn ?_
        exact SP_ren [(10600, 10700), (10601, 10701)] () rfl ⟨rfl, rfl, trivial⟩ ⟨rfl, rfl, trivial⟩ rfl
    · rintro ⟨⟩ rfl
      refine TE_go ?_
      refine TC_seq ?_
      refine TC_seq ?_
      refine TC_reg ?_
      refine TL_ev env 1 rfl ⟨⟨trivial, trivial⟩, trivial⟩ ?_
      obtain ⟨r2, hr, h0⟩ := bnd h0
      refine TL_callB [] (caps_Check.ok0 hr) caps_Check.fnb rfl ⟨trivial, ⟨trivial, trivial⟩⟩ rfl trivial rfl ?_
      refine TL_ev env 1 rfl ⟨⟨trivial, ⟨trivial, trivial⟩⟩, trivial⟩ ?_
      refine TL_end ?_
      refine TE_go ?_
      refine TC_cond rfl (fun hb => ?_) (fun hb => ?_)
      · replace h0 := bif_t h0 hb
        refine TC_seq ?_
        refine TC_reg ?_
        refine TL_ev env 3 rfl ⟨trivial, ⟨⟨trivial, trivial⟩, ⟨trivial, trivial⟩⟩⟩ ?_
        refine TL_end ?_
        refine TE_go ?_
        refine TC_ret ?_
        refine tsr ?_
        obtain rfl := sinj h0
        exact TE_ret env rfl ⟨trivial, trivial⟩ trivial
      · replace h0 := bif_f h0 hb
        refine TC_skip ?_
        refine TE_go ?_
        refine TC_seq ?_
        refine TC_reg ?_
        refine TL_ev env 3 rfl ⟨⟨trivial, trivial⟩, ⟨⟨trivial, trivial⟩, ⟨trivial, trivial⟩⟩⟩ ?_
        refine TL_end ?_
        refine TE_go ?_
        refine TC_ret ?_
        obtain rfl := sinj h0
        exact TE_ret env rfl ⟨trivial, trivial⟩ trivial
theorem caps_Parse_2.ok0 {K : Nat}  {q0 : Int} (h0 : caps_Parse_2 K  = some q0) : Fn Try.prog 43 [.nils] [] (.tup [.agg [.int .i64 0, .int .i64 0, .int .i64 0, .int .i64 0, .int .i64 0, .int .i64 0, .int .i64 0, .int .i64 0, .int .i64 0, .int .i64 0, .int .i64 0, .int .i64 0, .int .i64 0, .int .i64 0, .int .i64 0], .int .i64 q0]) [] := caps_Parse_2.ok h0
theorem caps_Parse_2.fnb : fnb Try.prog 43 = true := fnb_of Try.func43 rfl
def psalterylaw23_To.res (p0 : Int) (p1 : Int) (p2 : Int) (p3 : Int) (p4 : Int) (p5 : Int) (p6 : Int) (p7 : Int) (p8 : Int) (p9 : Int) (p10 : Int) (p11 : Int) (p12 : Int) (p13 : Int) (p14 : Int) : Unit → MV
  | () => .agg [.int .i64 p0, .int .i64 p1, .int .i64 p2, .int .i64 p3, .int .i64 p4, .int .i64 p5, .int .i64 p6, .int .i64 p7, .int .i64 p8, .int .i64 p9, .int .i64 p10, .int .i64 p11, .int .i64 p12, .int .i64 p13, .int .i64 p14]
def psalterylaw23_To.out (_p0 : Int) (_p1 : Int) (_p2 : Int) (_p3 : Int) (_p4 : Int) (_p5 : Int) (_p6 : Int) (_p7 : Int) (_p8 : Int) (_p9 : Int) (_p10 : Int) (_p11 : Int) (_p12 : Int) (_p13 : Int) (_p14 : Int) : Unit → List (Nat × Option MObj)
  | () => []
theorem psalterylaw23_To.ok {K : Nat} {p0 : Int} {p1 : Int} {p2 : Int} {p3 : Int} {p4 : Int} {p5 : Int} {p6 : Int} {p7 : Int} {p8 : Int} {p9 : Int} {p10 : Int} {p11 : Int} {p12 : Int} {p13 : Int} {p14 : Int} {r : Unit} (h0 : psalterylaw23_To K p0 p1 p2 p3 p4 p5 p6 p7 p8 p9 p10 p11 p12 p13 p14 = some r) : Fn Try.prog 44 [.agg [.int .i64 p0, .int .i64 p1, .int .i64 p2, .int .i64 p3, .int .i64 p4, .int .i64 p5, .int .i64 p6, .int .i64 p7, .int .i64 p8, .int .i64 p9, .int .i64 p10, .int .i64 p11, .int .i64 p12, .int .i64 p13, .int .i64 p14]] [] (psalterylaw23_To.res p0 p1 p2 p3 p4 p5 p6 p7 p8 p9 p10 p11 p12 p13 p14 r) (psalterylaw23_To.out p0 p1 p2 p3 p4 p5 p6 p7 p8 p9 p10 p11 p12 p13 p14 r) := by
  refine Fn_of Try.func44 rfl (Nat.le_of_ble_eq_true rfl) fun Γ => ?_
  refine TC_seq ?_
  refine TC_reg ?_
  refine TL_ev env 2 rfl ⟨trivial, ⟨trivial, trivial⟩⟩ ?_
  refine TL_end ?_
  refine TE_go ?_
  refine TC_seq ?_
  refine TC_reg ?_
  refine TL_ev env 10 rfl ⟨trivial, ⟨⟨trivial, trivial⟩, ⟨trivial, ⟨⟨trivial, trivial⟩, ⟨trivial, ⟨⟨trivial, trivial⟩, ⟨trivial, ⟨⟨trivial, trivial⟩, ⟨⟨trivial, ⟨trivial, ⟨trivial, ⟨trivial, trivial⟩⟩⟩⟩, ⟨⟨trivial, trivial⟩, trivial⟩⟩⟩⟩⟩⟩⟩⟩⟩⟩ ?_
  refine TL_end ?_
  refine TE_go ?_
  refine TC_ret ?_
  obtain rfl := sinj h0
  exact TE_ret env rfl ⟨trivial, trivial⟩ trivial
theorem psalterylaw23_To.ok0 {K : Nat} {p0 : Int} {p1 : Int} {p2 : Int} {p3 : Int} {p4 : Int} {p5 : Int} {p6 : Int} {p7 : Int} {p8 : Int} {p9 : Int} {p10 : Int} {p11 : Int} {p12 : Int} {p13 : Int} {p14 : Int}  (h0 : psalterylaw23_To K p0 p1 p2 p3 p4 p5 p6 p7 p8 p9 p10 p11 p12 p13 p14 = some ()) : Fn Try.prog 44 [.agg [.int .i64 p0, .int .i64 p1, .int .i64 p2, .int .i64 p3, .int .i64 p4, .int .i64 p5, .int .i64 p6, .int .i64 p7, .int .i64 p8, .int .i64 p9, .int .i64 p10, .int .i64 p11, .int .i64 p12, .int .i64 p13, .int .i64 p14]] [] (.agg [.int .i64 p0, .int .i64 p1, .int .i64 p2, .int .i64 p3, .int .i64 p4, .int .i64 p5, .int .i64 p6, .int .i64 p7, .int .i64 p8, .int .i64 p9, .int .i64 p10, .int .i64 p11, .int .i64 p12, .int .i64 p13, .int .i64 p14]) [] := psalterylaw23_To.ok h0
theorem psalterylaw23_To.fnb : fnb Try.prog 44 = true := fnb_of Try.func44 rfl
end Go.Fo
