/- Each call comes to the function that is written for it. -/
import Derived.Test.YtcaehpgdcjonfaaCtT
import Derived.Test.YtcaehpgdcjonfaaCtF
import Derived.Test.YtcaehpgdcjonfaaCtP0
import Derived.Test.YtcaehpgdcjonfaaCtP1
import Derived.Test.YtcaehpgdcjonfaaCtP2
namespace Go.Fo
open Go.Proofs
set_option maxRecDepth 20000
set_option maxHeartbeats 4000000
def caps_Allows.res (_p0 : Int) (_p1 : Int) (_p2 : Int) (_p3 : Int) (_p4 : Int) (_p5 : Int) (_p6 : Int) (_p7 : Int) (_p8 : Int) (_p9 : Int) (_p10 : Int) (_p11 : Int) (_p12 : Int) (_p13 : Int) (_p14 : Int) (_p15 : Int) (_p16 : Int) (_p17 : Int) (_p18 : Int) (_p19 : Int) (_p20 : Int) (_p21 : Int) (_p22 : Int) (_p23 : Int) (_p24 : Int) (_p25 : Int) (_p26 : Int) : Bool → MV
  | q0 => .bool q0
def caps_Allows.out (_p0 : Int) (_p1 : Int) (_p2 : Int) (_p3 : Int) (_p4 : Int) (_p5 : Int) (_p6 : Int) (_p7 : Int) (_p8 : Int) (_p9 : Int) (_p10 : Int) (_p11 : Int) (_p12 : Int) (_p13 : Int) (_p14 : Int) (_p15 : Int) (_p16 : Int) (_p17 : Int) (_p18 : Int) (_p19 : Int) (_p20 : Int) (_p21 : Int) (_p22 : Int) (_p23 : Int) (_p24 : Int) (_p25 : Int) (_p26 : Int) : Bool → List (Nat × Option MObj)
  | _ => []
theorem caps_Allows.ok {K : Nat} {p0 : Int} {p1 : Int} {p2 : Int} {p3 : Int} {p4 : Int} {p5 : Int} {p6 : Int} {p7 : Int} {p8 : Int} {p9 : Int} {p10 : Int} {p11 : Int} {p12 : Int} {p13 : Int} {p14 : Int} {p15 : Int} {p16 : Int} {p17 : Int} {p18 : Int} {p19 : Int} {p20 : Int} {p21 : Int} {p22 : Int} {p23 : Int} {p24 : Int} {p25 : Int} {p26 : Int} {r : Bool} (h0 : caps_Allows K p0 p1 p2 p3 p4 p5 p6 p7 p8 p9 p10 p11 p12 p13 p14 p15 p16 p17 p18 p19 p20 p21 p22 p23 p24 p25 p26 = some r) : Fn Try.prog 45 [.agg [.int .i64 p0, .int .i64 p1, .int .i64 p2, .int .i64 p3, .int .i64 p4, .int .i64 p5, .int .i64 p6, .int .i64 p7, .int .i64 p8, .int .i64 p9, .int .i64 p10, .int .i64 p11, .int .i64 p12, .int .i64 p13, .int .i64 p14], .agg [.int .i64 p15, .int .i64 p16, .int .i64 p17, .int .i64 p18, .int .i64 p19, .int .i64 p20, .int .i64 p21, .int .i64 p22, .int .i64 p23, .int .i64 p24], .agg [.int .i64 p25, .int .i64 p26]] [] (caps_Allows.res p0 p1 p2 p3 p4 p5 p6 p7 p8 p9 p10 p11 p12 p13 p14 p15 p16 p17 p18 p19 p20 p21 p22 p23 p24 p25 p26 r) (caps_Allows.out p0 p1 p2 p3 p4 p5 p6 p7 p8 p9 p10 p11 p12 p13 p14 p15 p16 p17 p18 p19 p20 p21 p22 p23 p24 p25 p26 r) := by
  refine Fn_of Try.func45 rfl (Nat.le_of_ble_eq_true rfl) fun Γ => ?_
  refine TC_seq ?_
  refine TC_reg ?_
  refine TL_ev env 4 rfl ⟨trivial, ⟨trivial, ⟨trivial, ⟨trivial, trivial⟩⟩⟩⟩ ?_
  refine TL_end ?_
  refine TE_go ?_
  refine TC_seq ?_
  refine TC_seq ?_
  obtain ⟨z1, h1, h0⟩ := bnd h0
  refine TC_cut (α := Bool) (fun s => z1 = s) (fun s => [(3, .p 10500 0), (4, .p 10501 0), (32, .bool s)]) (fun s => [(10500, some (.cells [.int .i64 p0, .int .i64 p1, .int .i64 p2, .int .i64 p3, .int .i64 p4, .int .i64 p5, .int .i64 p6, .int .i64 p7, .int .i64 p8, .int .i64 p9, .int .i64 p10, .int .i64 p11, .int .i64 p12, .int .i64 p13, .int .i64 p14])), (10501, some (.cells [.int .i64 p15, .int .i64 p16, .int .i64 p17, .int .i64 p18, .int .i64 p19, .int .i64 p20, .int .i64 p21, .int .i64 p22, .int .i64 p23, .int .i64 p24]))]) ?_ ?_
  · refine TC_reg ?_
    refine TL_ev env 1 rfl ⟨⟨trivial, trivial⟩, trivial⟩ ?_
    obtain ⟨r128, hr, h1⟩ := bnd h1
    refine TL_callB [] (caps_Check.ok0 hr) caps_Check.fnb rfl ⟨trivial, ⟨trivial, trivial⟩⟩ rfl trivial rfl ?_
    refine TL_ev env 2 rfl ⟨⟨trivial, ⟨trivial, trivial⟩⟩, ⟨trivial, trivial⟩⟩ ?_
    refine TL_split 12 rfl (fun hb => ?_) (fun hb => ?_)
    · replace h1 := bif_t h1 hb
      refine TL_gf (.bool false) rfl rfl rfl rfl rfl (by decide) ?_
      refine TL_gf (.bool false) rfl rfl rfl rfl rfl (by decide) ?_
      refine TL_gf (.bool false) rfl rfl rfl rfl rfl (by decide) ?_
      refine TL_ev env 2 rfl ⟨⟨trivial, ⟨trivial, fun e => e⟩⟩, ⟨trivial, trivial⟩⟩ ?_
      refine TL_gf (.bool false) rfl rfl rfl rfl rfl (by decide) ?_
      refine TL_gf (.bool false) rfl rfl rfl rfl rfl (by decide) ?_
      refine TL_gf (.bool false) rfl rfl rfl rfl rfl (by decide) ?_
      refine TL_gf (.bool false) rfl rfl rfl rfl rfl (by decide) ?_
      refine TL_gf (.bool false) rfl rfl rfl rfl rfl (by decide) ?_
      refine TL_gf (.bool false) rfl rfl rfl rfl rfl (by decide) ?_
      refine TL_ev env 2 rfl ⟨⟨trivial, ⟨trivial, fun e => e⟩⟩, ⟨trivial, trivial⟩⟩ ?_
      refine TL_gf (.bool false) rfl rfl rfl rfl rfl (by decide) ?_
      refine TL_gf (.bool false) rfl rfl rfl rfl rfl (by decide) ?_
      refine TL_gf (.bool false) rfl rfl rfl rfl rfl (by decide) ?_
      refine TL_gf (.bool false) rfl rfl rfl rfl rfl (by decide) ?_
      refine TL_gf (.bool false) rfl rfl rfl rfl rfl (by decide) ?_
      refine TL_gf (.bool false) rfl rfl rfl rfl rfl (by decide) ?_
      refine TL_ev env 1 rfl ⟨⟨trivial, ⟨trivial, fun e => e⟩⟩, trivial⟩ ?_
      refine TL_end ?_
      obtain rfl := sinj h1
      refine tsn ?_
      exact SP_ren [(10500, 1003), (10501, 1004)] _ rfl ⟨rfl, rfl, rfl, trivial⟩ ⟨rfl, rfl, trivial⟩ rfl
    · replace h1 := bif_f h1 hb
      refine TL_gt rfl rfl rfl rfl ?_
      refine TL_ev env 1 rfl ⟨⟨trivial, trivial⟩, trivial⟩ ?_
      refine TL_gt rfl rfl rfl rfl ?_
      obtain ⟨r129, hr, h1⟩ := bnd h1
      refine TL_callB [] (format_Check.ok0 hr) format_Check.fnb rfl ⟨trivial, ⟨trivial, trivial⟩⟩ rfl trivial rfl ?_
      refine TL_gt rfl rfl rfl rfl ?_
      refine TL_ev env 3 rfl ⟨⟨trivial, ⟨trivial, trivial⟩⟩, ⟨⟨trivial, ⟨trivial, trivial⟩⟩, ⟨trivial, trivial⟩⟩⟩ ?_
      refine TL_split 17 rfl (fun hb => ?_) (fun hb => ?_)
      · replace h1 := bif_t h1 hb
        refine TL_gf (.bool false) rfl rfl rfl rfl rfl (by decide) ?_
        refine TL_gf (.bool false) rfl rfl rfl rfl rfl (by decide) ?_
        refine TL_gf (.bool false) rfl rfl rfl rfl rfl (by decide) ?_
        refine TL_gf (.bool false) rfl rfl rfl rfl rfl (by decide) ?_
        refine TL_gf (.bool false) rfl rfl rfl rfl rfl (by decide) ?_
        refine TL_gf (.bool false) rfl rfl rfl rfl rfl (by decide) ?_
        refine TL_ev env 2 rfl ⟨⟨trivial, ⟨trivial, fun e => e⟩⟩, ⟨trivial, trivial⟩⟩ ?_
        refine TL_gf (.bool false) rfl rfl rfl rfl rfl (by decide) ?_
        refine TL_gf (.bool false) rfl rfl rfl rfl rfl (by decide) ?_
        refine TL_gf (.bool false) rfl rfl rfl rfl rfl (by decide) ?_
        refine TL_gf (.bool false) rfl rfl rfl rfl rfl (by decide) ?_
        refine TL_gf (.bool false) rfl rfl rfl rfl rfl (by decide) ?_
        refine TL_gf (.bool false) rfl rfl rfl rfl rfl (by decide) ?_
        refine TL_ev env 1 rfl ⟨⟨trivial, ⟨trivial, fun e => e⟩⟩, trivial⟩ ?_
        refine TL_end ?_
        obtain rfl := sinj h1
        refine tsn ?_
        exact SP_ren [(10500, 1003), (10501, 1004)] _ rfl ⟨rfl, rfl, rfl, trivial⟩ ⟨rfl, rfl, trivial⟩ rfl
      · replace h1 := bif_f h1 hb
        refine TL_gt rfl rfl rfl rfl ?_
        refine TL_ev env 1 rfl ⟨trivial, trivial⟩ ?_
        refine TL_gt rfl rfl rfl rfl ?_
        refine TL_ev env 1 rfl ⟨⟨trivial, trivial⟩, trivial⟩ ?_
        refine TL_gt rfl rfl rfl rfl ?_
        refine TL_ev env 1 rfl ⟨trivial, trivial⟩ ?_
        refine TL_gt rfl rfl rfl rfl ?_
        refine TL_ev env 1 rfl ⟨⟨trivial, trivial⟩, trivial⟩ ?_
        refine TL_gt rfl rfl rfl rfl ?_
        obtain ⟨r130, hr, h1⟩ := bnd h1
        refine TL_callB [] (caps_span.ok0 hr) caps_span.fnb rfl ⟨trivial, ⟨trivial, ⟨trivial, ⟨trivial, ⟨trivial, trivial⟩⟩⟩⟩⟩ rfl trivial rfl ?_
        refine TL_gt rfl rfl rfl rfl ?_
        refine TL_ev env 3 rfl ⟨trivial, ⟨⟨trivial, ⟨trivial, trivial⟩⟩, ⟨trivial, trivial⟩⟩⟩ ?_
        refine TL_split 25 rfl (fun hb => ?_) (fun hb => ?_)
        · replace h1 := bif_t h1 hb
          refine TL_gf (.bool false) rfl rfl rfl rfl rfl (by decide) ?_
          refine TL_gf (.bool false) rfl rfl rfl rfl rfl (by decide) ?_
          refine TL_gf (.bool false) rfl rfl rfl rfl rfl (by decide) ?_
          refine TL_gf (.bool false) rfl rfl rfl rfl rfl (by decide) ?_
          refine TL_gf (.bool false) rfl rfl rfl rfl rfl (by decide) ?_
          refine TL_gf (.bool false) rfl rfl rfl rfl rfl (by decide) ?_
          refine TL_ev env 1 rfl ⟨⟨trivial, ⟨trivial, fun e => e⟩⟩, trivial⟩ ?_
          refine TL_end ?_
          obtain rfl := sinj h1
          refine tsn ?_
          exact SP_ren [(10500, 1003), (10501, 1004)] _ rfl ⟨rfl, rfl, rfl, trivial⟩ ⟨rfl, rfl, trivial⟩ rfl
        · replace h1 := bif_f h1 hb
          refine TL_gt rfl rfl rfl rfl ?_
          refine TL_ev env 1 rfl ⟨trivial, trivial⟩ ?_
          refine TL_gt rfl rfl rfl rfl ?_
          refine TL_ev env 1 rfl ⟨⟨trivial, trivial⟩, trivial⟩ ?_
          refine TL_gt rfl rfl rfl rfl ?_
          refine TL_ev env 1 rfl ⟨trivial, trivial⟩ ?_
          refine TL_gt rfl rfl rfl rfl ?_
          refine TL_ev env 1 rfl ⟨⟨trivial, trivial⟩, trivial⟩ ?_
          refine TL_gt rfl rfl rfl rfl ?_
          obtain ⟨r131, hr, h1⟩ := bnd h1
          refine TL_callB [] (caps_span.ok0 hr) caps_span.fnb rfl ⟨trivial, ⟨trivial, ⟨trivial, ⟨trivial, ⟨trivial, trivial⟩⟩⟩⟩⟩ rfl trivial rfl ?_
          refine TL_gt rfl rfl rfl rfl ?_
          refine TL_ev env 2 rfl ⟨trivial, ⟨⟨trivial, ⟨trivial, trivial⟩⟩, trivial⟩⟩ ?_
          refine TL_end ?_
          obtain rfl := sinj h1
          refine tsn ?_
          exact SP_ren [(10500, 1003), (10501, 1004)] _ rfl ⟨rfl, rfl, rfl, trivial⟩ ⟨rfl, rfl, trivial⟩ rfl
  · rintro x46 hz
    obtain rfl := hz.symm
    refine TE_go ?_
    refine TC_cond rfl (fun hb => ?_) (fun hb => ?_)
    · replace h0 := bif_t h0 hb
      refine TC_seq ?_
      refine TC_reg ?_
      refine TL_ev env 1 rfl ⟨trivial, trivial⟩ ?_
      refine TL_end ?_
      refine TE_go ?_
      refine TC_ret ?_
      refine tsr ?_
      obtain rfl := sinj h0
      exact TE_ret env rfl trivial trivial
    · replace h0 := bif_f h0 hb
      refine TC_skip ?_
      refine TE_go ?_
      refine TC_seq ?_
      refine TC_seq ?_
      refine TC_reg ?_
      refine TL_ev env 3 rfl ⟨trivial, ⟨⟨trivial, trivial⟩, ⟨⟨trivial, ⟨trivial, trivial⟩⟩, trivial⟩⟩⟩ ?_
      refine TL_end ?_
      refine TE_go ?_
      refine TC_cond rfl (fun hb => ?_) (fun hb => ?_)
      · replace h0 := bif_t h0 hb
        refine TC_seq ?_
        refine TC_reg ?_
        refine TL_ev env 4 rfl ⟨trivial, ⟨⟨trivial, trivial⟩, ⟨trivial, ⟨⟨trivial, trivial⟩, trivial⟩⟩⟩⟩ ?_
        refine TL_end ?_
        refine TE_go ?_
        refine TC_seq ?_
        obtain ⟨z1, h1, h0⟩ := bnd h0
        refine TC_cut (α := Bool) (fun s => z1 = s) (fun s => [(6, .bool s)]) (fun s => []) ?_ ?_
        · refine TC_reg ?_
          refine TL_ev env 4 rfl ⟨trivial, ⟨⟨trivial, trivial⟩, ⟨trivial, ⟨⟨trivial, trivial⟩, trivial⟩⟩⟩⟩ ?_
          obtain ⟨r63, hr, h1⟩ := bnd h1
          refine TL_callB [] (caps_in.ok0 hr) caps_in.fnb rfl ⟨trivial, ⟨trivial, ⟨trivial, trivial⟩⟩⟩ rfl trivial rfl ?_
          refine TL_ev env 1 rfl ⟨trivial, trivial⟩ ?_
          refine TL_split 43 rfl (fun hb => ?_) (fun hb => ?_)
          · replace h1 := bif_t h1 hb
            refine TL_gt rfl rfl rfl rfl ?_
            refine TL_ev env 1 rfl ⟨trivial, trivial⟩ ?_
            refine TL_gt rfl rfl rfl rfl ?_
            refine TL_ev env 1 rfl ⟨⟨trivial, trivial⟩, trivial⟩ ?_
            refine TL_gt rfl rfl rfl rfl ?_
            refine TL_ev env 1 rfl ⟨trivial, trivial⟩ ?_
            refine TL_gt rfl rfl rfl rfl ?_
            refine TL_ev env 1 rfl ⟨⟨trivial, trivial⟩, trivial⟩ ?_
            refine TL_gt rfl rfl rfl rfl ?_
            refine TL_ev env 1 rfl ⟨⟨trivial, ⟨trivial, trivial⟩⟩, trivial⟩ ?_
            refine TL_gt rfl rfl rfl rfl ?_
            obtain ⟨r65, hr, h1⟩ := bnd h1
            refine TL_callB [] (caps_in.ok0 hr) caps_in.fnb rfl ⟨trivial, ⟨trivial, ⟨trivial, trivial⟩⟩⟩ rfl trivial rfl ?_
            refine TL_ev env 2 rfl ⟨⟨trivial, ⟨trivial, trivial⟩⟩, ⟨trivial, trivial⟩⟩ ?_
            refine TL_split 51 rfl (fun hb => ?_) (fun hb => ?_)
            · replace h1 := bif_t h1 hb
              refine TL_gt rfl rfl rfl rfl ?_
              refine TL_ev env 1 rfl ⟨trivial, trivial⟩ ?_
              refine TL_gt rfl rfl rfl rfl ?_
              refine TL_ev env 1 rfl ⟨⟨trivial, trivial⟩, trivial⟩ ?_
              refine TL_gt rfl rfl rfl rfl ?_
              refine TL_ev env 1 rfl ⟨trivial, trivial⟩ ?_
              refine TL_gt rfl rfl rfl rfl ?_
              refine TL_ev env 1 rfl ⟨⟨trivial, trivial⟩, trivial⟩ ?_
              refine TL_gt rfl rfl rfl rfl ?_
              refine TL_ev env 1 rfl ⟨⟨trivial, ⟨trivial, (by decide)⟩⟩, trivial⟩ ?_
              refine TL_gt rfl rfl rfl rfl ?_
              obtain ⟨r67, hr, h1⟩ := bnd h1
              refine TL_callB [] (caps_in.ok0 hr) caps_in.fnb rfl ⟨trivial, ⟨trivial, ⟨trivial, trivial⟩⟩⟩ rfl trivial rfl ?_
              refine TL_ev env 2 rfl ⟨⟨trivial, ⟨trivial, trivial⟩⟩, ⟨trivial, trivial⟩⟩ ?_
              refine TL_split 59 rfl (fun hb => ?_) (fun hb => ?_)
              · replace h1 := bif_t h1 hb
                refine TL_gt rfl rfl rfl rfl ?_
                refine TL_ev env 1 rfl ⟨trivial, trivial⟩ ?_
                refine TL_gt rfl rfl rfl rfl ?_
                refine TL_ev env 1 rfl ⟨⟨trivial, trivial⟩, trivial⟩ ?_
                refine TL_gt rfl rfl rfl rfl ?_
                refine TL_ev env 1 rfl ⟨trivial, trivial⟩ ?_
                refine TL_gt rfl rfl rfl rfl ?_
                refine TL_ev env 1 rfl ⟨⟨trivial, trivial⟩, trivial⟩ ?_
                refine TL_gt rfl rfl rfl rfl ?_
                refine TL_ev env 1 rfl ⟨⟨trivial, ⟨trivial, (by decide)⟩⟩, trivial⟩ ?_
                refine TL_gt rfl rfl rfl rfl ?_
                refine TL_ev env 1 rfl ⟨⟨trivial, ⟨trivial, trivial⟩⟩, trivial⟩ ?_
                refine TL_gt rfl rfl rfl rfl ?_
                obtain ⟨r70, hr, h1⟩ := bnd h1
                refine TL_callB [] (caps_in.ok0 hr) caps_in.fnb rfl ⟨trivial, ⟨trivial, ⟨trivial, trivial⟩⟩⟩ rfl trivial rfl ?_
                refine TL_ev env 2 rfl ⟨⟨trivial, ⟨trivial, trivial⟩⟩, ⟨trivial, trivial⟩⟩ ?_
                refine TL_split 68 rfl (fun hb => ?_) (fun hb => ?_)
                · replace h1 := bif_t h1 hb
                  refine TL_gt rfl rfl rfl rfl ?_
                  refine TL_ev env 1 rfl ⟨trivial, trivial⟩ ?_
                  refine TL_gt rfl rfl rfl rfl ?_
                  refine TL_ev env 1 rfl ⟨⟨trivial, trivial⟩, trivial⟩ ?_
                  refine TL_gt rfl rfl rfl rfl ?_
                  refine TL_ev env 1 rfl ⟨trivial, trivial⟩ ?_
                  refine TL_gt rfl rfl rfl rfl ?_
                  refine TL_ev env 1 rfl ⟨⟨trivial, trivial⟩, trivial⟩ ?_
                  refine TL_gt rfl rfl rfl rfl ?_
                  obtain ⟨r71, hr, h1⟩ := bnd h1
                  refine TL_callB [] (caps_in.ok0 hr) caps_in.fnb rfl ⟨trivial, ⟨trivial, ⟨trivial, trivial⟩⟩⟩ rfl trivial rfl ?_
                  refine TL_ev env 2 rfl ⟨⟨trivial, ⟨trivial, trivial⟩⟩, ⟨trivial, trivial⟩⟩ ?_
                  refine TL_split 75 rfl (fun hb => ?_) (fun hb => ?_)
                  · replace h1 := bif_t h1 hb
                    refine TL_gt rfl rfl rfl rfl ?_
                    refine TL_ev env 1 rfl ⟨trivial, trivial⟩ ?_
                    refine TL_gt rfl rfl rfl rfl ?_
                    refine TL_ev env 1 rfl ⟨⟨trivial, trivial⟩, trivial⟩ ?_
                    refine TL_gt rfl rfl rfl rfl ?_
                    refine TL_ev env 1 rfl ⟨trivial, trivial⟩ ?_
                    refine TL_gt rfl rfl rfl rfl ?_
                    refine TL_ev env 1 rfl ⟨⟨trivial, trivial⟩, trivial⟩ ?_
                    refine TL_gt rfl rfl rfl rfl ?_
                    obtain ⟨r72, hr, h1⟩ := bnd h1
                    refine TL_callB [] (caps_in.ok0 hr) caps_in.fnb rfl ⟨trivial, ⟨trivial, ⟨trivial, trivial⟩⟩⟩ rfl trivial rfl ?_
                    refine TL_ev env 2 rfl ⟨⟨trivial, ⟨trivial, trivial⟩⟩, ⟨trivial, trivial⟩⟩ ?_
                    refine TL_split 82 rfl (fun hb => ?_) (fun hb => ?_)
                    · replace h1 := bif_t h1 hb
                      refine TL_gt rfl rfl rfl rfl ?_
                      refine TL_ev env 1 rfl ⟨trivial, trivial⟩ ?_
                      refine TL_gt rfl rfl rfl rfl ?_
                      refine TL_ev env 1 rfl ⟨⟨trivial, trivial⟩, trivial⟩ ?_
                      refine TL_gt rfl rfl rfl rfl ?_
                      refine TL_ev env 1 rfl ⟨trivial, trivial⟩ ?_
                      refine TL_gt rfl rfl rfl rfl ?_
                      refine TL_ev env 1 rfl ⟨⟨trivial, trivial⟩, trivial⟩ ?_
                      refine TL_gt rfl rfl rfl rfl ?_
                      refine TL_ev env 1 rfl ⟨trivial, trivial⟩ ?_
                      refine TL_gt rfl rfl rfl rfl ?_
                      refine TL_ev env 1 rfl ⟨⟨trivial, trivial⟩, trivial⟩ ?_
                      refine TL_gt rfl rfl rfl rfl ?_
                      refine TL_ev env 1 rfl ⟨trivial, trivial⟩ ?_
                      refine TL_gt rfl rfl rfl rfl ?_
                      refine TL_ev env 1 rfl ⟨⟨trivial, trivial⟩, trivial⟩ ?_
                      refine TL_gt rfl rfl rfl rfl ?_
                      obtain ⟨r73, hr, h1⟩ := bnd h1
                      refine TL_callB [] (caps_span.ok0 hr) caps_span.fnb rfl ⟨trivial, ⟨trivial, ⟨trivial, ⟨trivial, ⟨trivial, trivial⟩⟩⟩⟩⟩ rfl trivial rfl ?_
                      refine TL_ev env 2 rfl ⟨⟨trivial, ⟨trivial, trivial⟩⟩, ⟨trivial, trivial⟩⟩ ?_
                      refine TL_end ?_
                      obtain rfl := sinj h1
                      refine tsn ?_
                      exact SP_ren [] _ rfl ⟨rfl, trivial⟩ trivial rfl
                    · replace h1 := bif_f h1 hb
                      refine TL_gf (.bool false) rfl rfl rfl rfl rfl (by decide) ?_
                      refine TL_gf (.bool false) rfl rfl rfl rfl rfl (by decide) ?_
                      refine TL_gf (.bool false) rfl rfl rfl rfl rfl (by decide) ?_
                      refine TL_gf (.bool false) rfl rfl rfl rfl rfl (by decide) ?_
                      refine TL_gf (.bool false) rfl rfl rfl rfl rfl (by decide) ?_
                      refine TL_gf (.bool false) rfl rfl rfl rfl rfl (by decide) ?_
                      refine TL_gf (.bool false) rfl rfl rfl rfl rfl (by decide) ?_
                      refine TL_gf (.bool false) rfl rfl rfl rfl rfl (by decide) ?_
                      refine TL_gf (.bool false) rfl rfl rfl rfl rfl (by decide) ?_
                      refine TL_ev env 2 rfl ⟨⟨trivial, ⟨fun e => e, trivial⟩⟩, ⟨trivial, trivial⟩⟩ ?_
                      refine TL_end ?_
                      obtain rfl := sinj h1
                      refine tsn ?_
                      exact SP_ren [] _ rfl ⟨rfl, trivial⟩ trivial rfl
                  · replace h1 := bif_f h1 hb
                    refine TL_gf (.bool false) rfl rfl rfl rfl rfl (by decide) ?_
                    refine TL_gf (.bool false) rfl rfl rfl rfl rfl (by decide) ?_
                    refine TL_gf (.bool false) rfl rfl rfl rfl rfl (by decide) ?_
                    refine TL_gf (.bool false) rfl rfl rfl rfl rfl (by decide) ?_
                    refine TL_gf (.bool false) rfl rfl rfl rfl rfl (by decide) ?_
                    refine TL_ev env 2 rfl ⟨⟨trivial, ⟨fun e => e, trivial⟩⟩, ⟨trivial, trivial⟩⟩ ?_
                    refine TL_gf (.bool false) rfl rfl rfl rfl rfl (by decide) ?_
                    refine TL_gf (.bool false) rfl rfl rfl rfl rfl (by decide) ?_
                    refine TL_gf (.bool false) rfl rfl rfl rfl rfl (by decide) ?_
                    refine TL_gf (.bool false) rfl rfl rfl rfl rfl (by decide) ?_
                    refine TL_gf (.bool false) rfl rfl rfl rfl rfl (by decide) ?_
                    refine TL_gf (.bool false) rfl rfl rfl rfl rfl (by decide) ?_
                    refine TL_gf (.bool false) rfl rfl rfl rfl rfl (by decide) ?_
                    refine TL_gf (.bool false) rfl rfl rfl rfl rfl (by decide) ?_
                    refine TL_gf (.bool false) rfl rfl rfl rfl rfl (by decide) ?_
                    refine TL_ev env 2 rfl ⟨⟨trivial, ⟨fun e => e, trivial⟩⟩, ⟨trivial, trivial⟩⟩ ?_
                    refine TL_end ?_
                    obtain rfl := sinj h1
                    refine tsn ?_
                    exact SP_ren [] _ rfl ⟨rfl, trivial⟩ trivial rfl
                · replace h1 := bif_f h1 hb
                  refine TL_gf (.bool false) rfl rfl rfl rfl rfl (by decide) ?_
                  refine TL_gf (.bool false) rfl rfl rfl rfl rfl (by decide) ?_
                  refine TL_gf (.bool false) rfl rfl rfl rfl rfl (by decide) ?_
                  refine TL_gf (.bool false) rfl rfl rfl rfl rfl (by decide) ?_
                  refine TL_gf (.bool false) rfl rfl rfl rfl rfl (by decide) ?_
                  refine TL_ev env 2 rfl ⟨⟨trivial, ⟨fun e => e, trivial⟩⟩, ⟨trivial, trivial⟩⟩ ?_
                  refine TL_gf (.bool false) rfl rfl rfl rfl rfl (by decide) ?_
                  refine TL_gf (.bool false) rfl rfl rfl rfl rfl (by decide) ?_
                  refine TL_gf (.bool false) rfl rfl rfl rfl rfl (by decide) ?_
                  refine TL_gf (.bool false) rfl rfl rfl rfl rfl (by decide) ?_
                  refine TL_gf (.bool false) rfl rfl rfl rfl rfl (by decide) ?_
                  refine TL_ev env 2 rfl ⟨⟨trivial, ⟨fun e => e, trivial⟩⟩, ⟨trivial, trivial⟩⟩ ?_
                  refine TL_gf (.bool false) rfl rfl rfl rfl rfl (by decide) ?_
                  refine TL_gf (.bool false) rfl rfl rfl rfl rfl (by decide) ?_
                  refine TL_gf (.bool false) rfl rfl rfl rfl rfl (by decide) ?_
                  refine TL_gf (.bool false) rfl rfl rfl rfl rfl (by decide) ?_
                  refine TL_gf (.bool false) rfl rfl rfl rfl rfl (by decide) ?_
                  refine TL_gf (.bool false) rfl rfl rfl rfl rfl (by decide) ?_
                  refine TL_gf (.bool false) rfl rfl rfl rfl rfl (by decide) ?_
                  refine TL_gf (.bool false) rfl rfl rfl rfl rfl (by decide) ?_
                  refine TL_gf (.bool false) rfl rfl rfl rfl rfl (by decide) ?_
                  refine TL_ev env 2 rfl ⟨⟨trivial, ⟨fun e => e, trivial⟩⟩, ⟨trivial, trivial⟩⟩ ?_
                  refine TL_end ?_
                  obtain rfl := sinj h1
                  refine tsn ?_
                  exact SP_ren [] _ rfl ⟨rfl, trivial⟩ trivial rfl
              · replace h1 := bif_f h1 hb
                refine TL_gf (.bool false) rfl rfl rfl rfl rfl (by decide) ?_
                refine TL_gf (.bool false) rfl rfl rfl rfl rfl (by decide) ?_
                refine TL_gf (.bool false) rfl rfl rfl rfl rfl (by decide) ?_
                refine TL_gf (.bool false) rfl rfl rfl rfl rfl (by decide) ?_
                refine TL_gf (.bool false) rfl rfl rfl rfl rfl (by decide) ?_
                refine TL_gf (.bool false) rfl rfl rfl rfl rfl (by decide) ?_
                refine TL_gf (.bool false) rfl rfl rfl rfl rfl (by decide) ?_
                refine TL_ev env 2 rfl ⟨⟨trivial, ⟨fun e => e, trivial⟩⟩, ⟨trivial, trivial⟩⟩ ?_
                refine TL_gf (.bool false) rfl rfl rfl rfl rfl (by decide) ?_
                refine TL_gf (.bool false) rfl rfl rfl rfl rfl (by decide) ?_
                refine TL_gf (.bool false) rfl rfl rfl rfl rfl (by decide) ?_
                refine TL_gf (.bool false) rfl rfl rfl rfl rfl (by decide) ?_
                refine TL_gf (.bool false) rfl rfl rfl rfl rfl (by decide) ?_
                refine TL_ev env 2 rfl ⟨⟨trivial, ⟨fun e => e, trivial⟩⟩, ⟨trivial, trivial⟩⟩ ?_
                refine TL_gf (.bool false) rfl rfl rfl rfl rfl (by decide) ?_
                refine TL_gf (.bool false) rfl rfl rfl rfl rfl (by decide) ?_
                refine TL_gf (.bool false) rfl rfl rfl rfl rfl (by decide) ?_
                refine TL_gf (.bool false) rfl rfl rfl rfl rfl (by decide) ?_
                refine TL_gf (.bool false) rfl rfl rfl rfl rfl (by decide) ?_
                refine TL_ev env 2 rfl ⟨⟨trivial, ⟨fun e => e, trivial⟩⟩, ⟨trivial, trivial⟩⟩ ?_
                refine TL_gf (.bool false) rfl rfl rfl rfl rfl (by decide) ?_
                refine TL_gf (.bool false) rfl rfl rfl rfl rfl (by decide) ?_
                refine TL_gf (.bool false) rfl rfl rfl rfl rfl (by decide) ?_
                refine TL_gf (.bool false) rfl rfl rfl rfl rfl (by decide) ?_
                refine TL_gf (.bool false) rfl rfl rfl rfl rfl (by decide) ?_
                refine TL_gf (.bool false) rfl rfl rfl rfl rfl (by decide) ?_
                refine TL_gf (.bool false) rfl rfl rfl rfl rfl (by decide) ?_
                refine TL_gf (.bool false) rfl rfl rfl rfl rfl (by decide) ?_
                refine TL_gf (.bool false) rfl rfl rfl rfl rfl (by decide) ?_
                refine TL_ev env 2 rfl ⟨⟨trivial, ⟨fun e => e, trivial⟩⟩, ⟨trivial, trivial⟩⟩ ?_
                refine TL_end ?_
                obtain rfl := sinj h1
                refine tsn ?_
                exact SP_ren [] _ rfl ⟨rfl, trivial⟩ trivial rfl
            · replace h1 := bif_f h1 hb
              refine TL_gf (.bool false) rfl rfl rfl rfl rfl (by decide) ?_
              refine TL_gf (.bool false) rfl rfl rfl rfl rfl (by decide) ?_
              refine TL_gf (.bool false) rfl rfl rfl rfl rfl (by decide) ?_
              refine TL_gf (.bool false) rfl rfl rfl rfl rfl (by decide) ?_
              refine TL_gf (.bool false) rfl rfl rfl rfl rfl (by decide) ?_
              refine TL_gf (.bool false) rfl rfl rfl rfl rfl (by decide) ?_
              refine TL_ev env 2 rfl ⟨⟨trivial, ⟨fun e => e, trivial⟩⟩, ⟨trivial, trivial⟩⟩ ?_
              refine TL_gf (.bool false) rfl rfl rfl rfl rfl (by decide) ?_
              refine TL_gf (.bool false) rfl rfl rfl rfl rfl (by decide) ?_
              refine TL_gf (.bool false) rfl rfl rfl rfl rfl (by decide) ?_
              refine TL_gf (.bool false) rfl rfl rfl rfl rfl (by decide) ?_
              refine TL_gf (.bool false) rfl rfl rfl rfl rfl (by decide) ?_
              refine TL_gf (.bool false) rfl rfl rfl rfl rfl (by decide) ?_
              refine TL_gf (.bool false) rfl rfl rfl rfl rfl (by decide) ?_
              refine TL_ev env 2 rfl ⟨⟨trivial, ⟨fun e => e, trivial⟩⟩, ⟨trivial, trivial⟩⟩ ?_
              refine TL_gf (.bool false) rfl rfl rfl rfl rfl (by decide) ?_
              refine TL_gf (.bool false) rfl rfl rfl rfl rfl (by decide) ?_
              refine TL_gf (.bool false) rfl rfl rfl rfl rfl (by decide) ?_
              refine TL_gf (.bool false) rfl rfl rfl rfl rfl (by decide) ?_
              refine TL_gf (.bool false) rfl rfl rfl rfl rfl (by decide) ?_
              refine TL_ev env 2 rfl ⟨⟨trivial, ⟨fun e => e, trivial⟩⟩, ⟨trivial, trivial⟩⟩ ?_
              refine TL_gf (.bool false) rfl rfl rfl rfl rfl (by decide) ?_
              refine TL_gf (.bool false) rfl rfl rfl rfl rfl (by decide) ?_
              refine TL_gf (.bool false) rfl rfl rfl rfl rfl (by decide) ?_
              refine TL_gf (.bool false) rfl rfl rfl rfl rfl (by decide) ?_
              refine TL_gf (.bool false) rfl rfl rfl rfl rfl (by decide) ?_
              refine TL_ev env 2 rfl ⟨⟨trivial, ⟨fun e => e, trivial⟩⟩, ⟨trivial, trivial⟩⟩ ?_
              refine TL_gf (.bool false) rfl rfl rfl rfl rfl (by decide) ?_
              refine TL_gf (.bool false) rfl rfl rfl rfl rfl (by decide) ?_
              refine TL_gf (.bool false) rfl rfl rfl rfl rfl (by decide) ?_
              refine TL_gf (.bool false) rfl rfl rfl rfl rfl (by decide) ?_
              refine TL_gf (.bool false) rfl rfl rfl rfl rfl (by decide) ?_
              refine TL_gf (.bool false) rfl rfl rfl rfl rfl (by decide) ?_
              refine TL_gf (.bool false) rfl rfl rfl rfl rfl (by decide) ?_
              refine TL_gf (.bool false) rfl rfl rfl rfl rfl (by decide) ?_
              refine TL_gf (.bool false) rfl rfl rfl rfl rfl (by decide) ?_
              refine TL_ev env 2 rfl ⟨⟨trivial, ⟨fun e => e, trivial⟩⟩, ⟨trivial, trivial⟩⟩ ?_
              refine TL_end ?_
              obtain rfl := sinj h1
              refine tsn ?_
              exact SP_ren [] _ rfl ⟨rfl, trivial⟩ trivial rfl
          · replace h1 := bif_f h1 hb
            refine TL_gf (.bool false) rfl rfl rfl rfl rfl (by decide) ?_
            refine TL_gf (.bool false) rfl rfl rfl rfl rfl (by decide) ?_
            refine TL_gf (.bool false) rfl rfl rfl rfl rfl (by decide) ?_
            refine TL_gf (.bool false) rfl rfl rfl rfl rfl (by decide) ?_
            refine TL_gf (.bool false) rfl rfl rfl rfl rfl (by decide) ?_
            refine TL_gf (.bool false) rfl rfl rfl rfl rfl (by decide) ?_
            refine TL_ev env 2 rfl ⟨⟨trivial, ⟨fun e => e, trivial⟩⟩, ⟨trivial, trivial⟩⟩ ?_
            refine TL_gf (.bool false) rfl rfl rfl rfl rfl (by decide) ?_
            refine TL_gf (.bool false) rfl rfl rfl rfl rfl (by decide) ?_
            refine TL_gf (.bool false) rfl rfl rfl rfl rfl (by decide) ?_
            refine TL_gf (.bool false) rfl rfl rfl rfl rfl (by decide) ?_
            refine TL_gf (.bool false) rfl rfl rfl rfl rfl (by decide) ?_
            refine TL_gf (.bool false) rfl rfl rfl rfl rfl (by decide) ?_
            refine TL_ev env 2 rfl ⟨⟨trivial, ⟨fun e => e, trivial⟩⟩, ⟨trivial, trivial⟩⟩ ?_
            refine TL_gf (.bool false) rfl rfl rfl rfl rfl (by decide) ?_
            refine TL_gf (.bool false) rfl rfl rfl rfl rfl (by decide) ?_
            refine TL_gf (.bool false) rfl rfl rfl rfl rfl (by decide) ?_
            refine TL_gf (.bool false) rfl rfl rfl rfl rfl (by decide) ?_
            refine TL_gf (.bool false) rfl rfl rfl rfl rfl (by decide) ?_
            refine TL_gf (.bool false) rfl rfl rfl rfl rfl (by decide) ?_
            refine TL_gf (.bool false) rfl rfl rfl rfl rfl (by decide) ?_
            refine TL_ev env 2 rfl ⟨⟨trivial, ⟨fun e => e, trivial⟩⟩, ⟨trivial, trivial⟩⟩ ?_
            refine TL_gf (.bool false) rfl rfl rfl rfl rfl (by decide) ?_
            refine TL_gf (.bool false) rfl rfl rfl rfl rfl (by decide) ?_
            refine TL_gf (.bool false) rfl rfl rfl rfl rfl (by decide) ?_
            refine TL_gf (.bool false) rfl rfl rfl rfl rfl (by decide) ?_
            refine TL_gf (.bool false) rfl rfl rfl rfl rfl (by decide) ?_
            refine TL_ev env 2 rfl ⟨⟨trivial, ⟨fun e => e, trivial⟩⟩, ⟨trivial, trivial⟩⟩ ?_
            refine TL_gf (.bool false) rfl rfl rfl rfl rfl (by decide) ?_
            refine TL_gf (.bool false) rfl rfl rfl rfl rfl (by decide) ?_
            refine TL_gf (.bool false) rfl rfl rfl rfl rfl (by decide) ?_
            refine TL_gf (.bool false) rfl rfl rfl rfl rfl (by decide) ?_
            refine TL_gf (.bool false) rfl rfl rfl rfl rfl (by decide) ?_
            refine TL_ev env 2 rfl ⟨⟨trivial, ⟨fun e => e, trivial⟩⟩, ⟨trivial, trivial⟩⟩ ?_
            refine TL_gf (.bool false) rfl rfl rfl rfl rfl (by decide) ?_
            refine TL_gf (.bool false) rfl rfl rfl rfl rfl (by decide) ?_
            refine TL_gf (.bool false) rfl rfl rfl rfl rfl (by decide) ?_
            refine TL_gf (.bool false) rfl rfl rfl rfl rfl (by decide) ?_
            refine TL_gf (.bool false) rfl rfl rfl rfl rfl (by decide) ?_
            refine TL_gf (.bool false) rfl rfl rfl rfl rfl (by decide) ?_
            refine TL_gf (.bool false) rfl rfl rfl rfl rfl (by decide) ?_
            refine TL_gf (.bool false) rfl rfl rfl rfl rfl (by decide) ?_
            refine TL_gf (.bool false) rfl rfl rfl rfl rfl (by decide) ?_
            refine TL_ev env 2 rfl ⟨⟨trivial, ⟨fun e => e, trivial⟩⟩, ⟨trivial, trivial⟩⟩ ?_
            refine TL_end ?_
            obtain rfl := sinj h1
            refine tsn ?_
            exact SP_ren [] _ rfl ⟨rfl, trivial⟩ trivial rfl
        · rintro x62 hz
          obtain rfl := hz.symm
          refine TE_go ?_
          refine TC_ret ?_
          refine tsr ?_
          obtain rfl := sinj h0
          exact TE_ret env rfl trivial trivial
      · replace h0 := bif_f h0 hb
        refine TC_skip ?_
        refine TE_go ?_
        refine TC_seq ?_
        refine TC_reg ?_
        refine TL_ev env 4 rfl ⟨trivial, ⟨⟨trivial, trivial⟩, ⟨trivial, ⟨⟨trivial, trivial⟩, trivial⟩⟩⟩⟩ ?_
        refine TL_end ?_
        refine TE_go ?_
        refine TC_seq ?_
        obtain ⟨z1, h1, h0⟩ := bnd h0
        refine TC_cut (α := Bool) (fun s => z1 = s) (fun s => [(6, .bool s)]) (fun s => []) ?_ ?_
        · refine TC_renw (A' := [(4, .p 10501 0), (8, .p 1008 0)]) (L' := [(10501, some (.cells [.int .i64 _, .int .i64 _, .int .i64 _, .int .i64 _, .int .i64 _, .int .i64 _, .int .i64 _, .int .i64 _, .int .i64 _, .int .i64 _])), (1008, some (.cells [.int .i64 _, .int .i64 _, .int .i64 _, .int .i64 _, .int .i64 _]))]) [] ⟨rfl, rfl, trivial⟩ ⟨rfl, rfl, trivial⟩ rfl ?_
          refine TC_drawR ⟨_, fun i => ([[], [0], [], [2], [3, 2, 1, 0], [4, 3, 2, 1, 0], [5, 4, 3, 2, 1, 0], [6, 5, 4, 3, 2, 1, 0], [5, 4, 3, 2, 1, 0], [8, 5, 4, 3, 2, 1, 0], [9, 8, 5, 4, 3, 2, 1, 0], [10, 9, 8, 7, 6, 5, 4, 3, 2, 1, 0], [11, 10, 9, 8, 7, 6, 5, 4, 3, 2, 1, 0], [12, 11, 10, 9, 8, 7, 6, 5, 4, 3, 2, 1, 0], [13, 12, 11, 10, 9, 8, 7, 6, 5, 4, 3, 2, 1, 0], [14, 13, 12, 11, 10, 9, 8, 7, 6, 5, 4, 3, 2, 1, 0], [13, 12, 11, 10, 9, 8, 7, 6, 5, 4, 3, 2, 1, 0], [13, 12, 11, 10, 9, 8, 7, 6, 5, 4, 3, 2, 1, 0], [17, 13, 12, 11, 10, 9, 8, 7, 6, 5, 4, 3, 2, 1, 0], [18, 17, 16, 13, 12, 11, 10, 9, 8, 7, 6, 5, 4, 3, 2, 1, 0], [19, 18, 17, 16, 15, 14, 13, 12, 11, 10, 9, 8, 7, 6, 5, 4, 3, 2, 1, 0], [20, 19, 18, 17, 16, 15, 14, 13, 12, 11, 10, 9, 8, 7, 6, 5, 4, 3, 2, 1, 0], [21, 20, 19, 18, 17, 16, 15, 14, 13, 12, 11, 10, 9, 8, 7, 6, 5, 4, 3, 2, 1, 0], [22, 21, 20, 19, 18, 17, 16, 15, 14, 13, 12, 11, 10, 9, 8, 7, 6, 5, 4, 3, 2, 1, 0], [23, 22, 21, 20, 19, 18, 17, 16, 15, 14, 13, 12, 11, 10, 9, 8, 7, 6, 5, 4, 3, 2, 1, 0], [22, 21, 20, 19, 18, 17, 16, 15, 14, 13, 12, 11, 10, 9, 8, 7, 6, 5, 4, 3, 2, 1, 0], [25, 22, 21, 20, 19, 18, 17, 16, 15, 14, 13, 12, 11, 10, 9, 8, 7, 6, 5, 4, 3, 2, 1, 0], [22, 21, 20, 19, 18, 17, 16, 15, 14, 13, 12, 11, 10, 9, 8, 7, 6, 5, 4, 3, 2, 1, 0], [27, 22, 21, 20, 19, 18, 17, 16, 15, 14, 13, 12, 11, 10, 9, 8, 7, 6, 5, 4, 3, 2, 1, 0], [22, 21, 20, 19, 18, 17, 16, 15, 14, 13, 12, 11, 10, 9, 8, 7, 6, 5, 4, 3, 2, 1, 0], [29, 22, 21, 20, 19, 18, 17, 16, 15, 14, 13, 12, 11, 10, 9, 8, 7, 6, 5, 4, 3, 2, 1, 0], [30, 29, 28, 27, 26, 25, 24, 23, 22, 21, 20, 19, 18, 17, 16, 15, 14, 13, 12, 11, 10, 9, 8, 7, 6, 5, 4, 3, 2, 1, 0], [31, 30, 29, 28, 27, 26, 25, 24, 23, 22, 21, 20, 19, 18, 17, 16, 15, 14, 13, 12, 11, 10, 9, 8, 7, 6, 5, 4, 3, 2, 1, 0], [32, 31, 30, 29, 28, 27, 26, 25, 24, 23, 22, 21, 20, 19, 18, 17, 16, 15, 14, 13, 12, 11, 10, 9, 8, 7, 6, 5, 4, 3, 2, 1, 0]] : List (List Nat)).getD i [], fun i => ([[], [], [], [], [], [], [], [], [], [], [], [], [], [], [], [], [], [], [], [], [], [], [], [], [], [], [], [], [], [], [], [], [], []] : List (List Nat)).getD i [], fun i => ([[], [], [], [], [], [], [], [], [], [], [], [], [], [], [], [], [], [], [], [], [], [], [], [], [], [], [], [], [], [], [], [], [], []] : List (List Nat)).getD i []⟩ (fun i => ([[], [], [], [], [], [], [], [], [], [], [], [], [], [], [], [], [], [], [], [], [], [], [], [], [], [], [], [], [], [], [], [], [], []] : List (List Nat)).getD i []) (by kernel_rfl) (by kernel_rfl) ?_
          refine AJR_ev env 1 rfl (Nat.le_of_ble_eq_true rfl) rfl trivial ?_
          refine AJR_ev env 2 rfl (Nat.le_of_ble_eq_true rfl) rfl ⟨trivial, trivial⟩ ?_
          refine AJR_ev env 3 rfl (Nat.le_of_ble_eq_true rfl) rfl trivial ?_
          refine AJR_ev env 4 rfl (Nat.le_of_ble_eq_true rfl) rfl ⟨trivial, trivial⟩ ?_
          obtain ⟨r94, hr, h1⟩ := bnd h1
          refine AJR_call 5 rfl (Nat.le_of_ble_eq_true rfl) [] rfl (caps_in.ok0 hr) caps_in.fnb rfl ⟨trivial, ⟨trivial, ⟨trivial, trivial⟩⟩⟩ rfl trivial rfl ?_
          refine AJR_ev env 6 rfl (Nat.le_of_ble_eq_true rfl) rfl trivial ?_
          refine bif_split h1 (fun hb95 h1 => ?_) (fun hb95 h1 => ?_)
          · refine AJR_gev env 7 rfl (Nat.le_of_ble_eq_true rfl) hb95 rfl rfl rfl rfl rfl rfl trivial ?_
            refine AJR_gev env 8 rfl (Nat.le_of_ble_eq_true rfl) hb95 rfl rfl rfl rfl rfl rfl ⟨trivial, trivial⟩ ?_
            refine AJR_gev env 9 rfl (Nat.le_of_ble_eq_true rfl) hb95 rfl rfl rfl rfl rfl rfl trivial ?_
            refine AJR_gev env 10 rfl (Nat.le_of_ble_eq_true rfl) hb95 rfl rfl rfl rfl rfl rfl ⟨trivial, trivial⟩ ?_
            refine AJR_gev env 11 rfl (Nat.le_of_ble_eq_true rfl) hb95 rfl rfl rfl rfl rfl rfl ⟨trivial, ⟨trivial, trivial⟩⟩ ?_
            obtain ⟨r97, hr, h1⟩ := bnd h1
            refine AJR_gcall 12 rfl (Nat.le_of_ble_eq_true rfl) hb95 [] rfl rfl rfl rfl rfl (caps_in.ok0 hr) caps_in.fnb rfl ⟨trivial, ⟨trivial, ⟨trivial, trivial⟩⟩⟩ rfl trivial rfl ?_
            refine AJR_ev env 13 rfl (Nat.le_of_ble_eq_true rfl) rfl ⟨trivial, ⟨trivial, trivial⟩⟩ ?_
            refine AJR_ev env 14 rfl (Nat.le_of_ble_eq_true rfl) rfl trivial ?_
            refine bif_split h1 (fun hb99 h1 => ?_) (fun hb99 h1 => ?_)
            · refine AJR_gev env 15 rfl (Nat.le_of_ble_eq_true rfl) hb99 rfl rfl rfl rfl rfl rfl trivial ?_
              refine AJR_gev env 16 rfl (Nat.le_of_ble_eq_true rfl) hb99 rfl rfl rfl rfl rfl rfl ⟨trivial, trivial⟩ ?_
              obtain ⟨r100, hr, h1⟩ := bnd h1
              refine AJR_gcall 17 rfl (Nat.le_of_ble_eq_true rfl) hb99 [] rfl rfl rfl rfl rfl (lapped_Lengths.ok0 hr) lapped_Lengths.fnb rfl ⟨trivial, trivial⟩ rfl trivial rfl ?_
              refine AJR_gev env 18 rfl (Nat.le_of_ble_eq_true rfl) hb99 rfl rfl rfl rfl rfl rfl trivial ?_
              refine AJR_gev env 19 rfl (Nat.le_of_ble_eq_true rfl) hb99 rfl rfl rfl rfl rfl rfl ⟨trivial, trivial⟩ ?_
              obtain ⟨r101, hr, h1⟩ := bnd h1
              refine AJR_gcall 20 rfl (Nat.le_of_ble_eq_true rfl) hb99 [] rfl rfl rfl rfl rfl (slices_Index_int_int.ok0 hr) slices_Index_int_int.fnb rfl ⟨trivial, ⟨trivial, ⟨trivial, trivial⟩⟩⟩ rfl trivial rfl ?_
              obtain ⟨r102, hr, h1⟩ := bnd h1
              refine AJR_gcall 21 rfl (Nat.le_of_ble_eq_true rfl) hb99 [] rfl rfl rfl rfl rfl (caps_in.ok0 hr) caps_in.fnb rfl ⟨trivial, ⟨trivial, ⟨trivial, trivial⟩⟩⟩ rfl trivial rfl ?_
              refine AJR_ev env 22 rfl (Nat.le_of_ble_eq_true rfl) rfl ⟨trivial, ⟨trivial, trivial⟩⟩ ?_
              refine AJR_ev env 23 rfl (Nat.le_of_ble_eq_true rfl) rfl trivial ?_
              refine bif_split h1 (fun hb104 h1 => ?_) (fun hb104 h1 => ?_)
              · refine AJR_gev env 24 rfl (Nat.le_of_ble_eq_true rfl) hb104 rfl rfl rfl rfl rfl rfl trivial ?_
                refine AJR_gev env 25 rfl (Nat.le_of_ble_eq_true rfl) hb104 rfl rfl rfl rfl rfl rfl ⟨trivial, trivial⟩ ?_
                refine AJR_gev env 26 rfl (Nat.le_of_ble_eq_true rfl) hb104 rfl rfl rfl rfl rfl rfl trivial ?_
                refine AJR_gev env 27 rfl (Nat.le_of_ble_eq_true rfl) hb104 rfl rfl rfl rfl rfl rfl ⟨trivial, trivial⟩ ?_
                refine AJR_gev env 28 rfl (Nat.le_of_ble_eq_true rfl) hb104 rfl rfl rfl rfl rfl rfl trivial ?_
                refine AJR_gev env 29 rfl (Nat.le_of_ble_eq_true rfl) hb104 rfl rfl rfl rfl rfl rfl ⟨trivial, trivial⟩ ?_
                refine AJR_gev env 30 rfl (Nat.le_of_ble_eq_true rfl) hb104 rfl rfl rfl rfl rfl rfl trivial ?_
                refine AJR_gev env 31 rfl (Nat.le_of_ble_eq_true rfl) hb104 rfl rfl rfl rfl rfl rfl ⟨trivial, trivial⟩ ?_
                obtain ⟨r105, hr, h1⟩ := bnd h1
                refine AJR_gcall 32 rfl (Nat.le_of_ble_eq_true rfl) hb104 [] rfl rfl rfl rfl rfl (caps_span.ok0 hr) caps_span.fnb rfl ⟨trivial, ⟨trivial, ⟨trivial, ⟨trivial, ⟨trivial, trivial⟩⟩⟩⟩⟩ rfl trivial rfl ?_
                refine AJR_ev env 33 rfl (Nat.le_of_ble_eq_true rfl) rfl ⟨trivial, ⟨trivial, trivial⟩⟩ ?_
                refine AJR_ev env 34 rfl (Nat.le_of_ble_eq_true rfl) rfl trivial ?_
                refine AJR_end rfl rfl rfl ?_
                obtain rfl := sinj h1
                refine tsn ?_
                exact SP_ren [] _ rfl ⟨rfl, trivial⟩ trivial rfl
              · refine AJR_gskip (.bool false) 24 rfl (Nat.le_of_ble_eq_true rfl) hb104 rfl rfl rfl rfl rfl rfl (by decide) ?_
                refine AJR_gskip (.bool false) 25 rfl (Nat.le_of_ble_eq_true rfl) hb104 rfl rfl rfl rfl rfl rfl (by decide) ?_
                refine AJR_gskip (.bool false) 26 rfl (Nat.le_of_ble_eq_true rfl) hb104 rfl rfl rfl rfl rfl rfl (by decide) ?_
                refine AJR_gskip (.bool false) 27 rfl (Nat.le_of_ble_eq_true rfl) hb104 rfl rfl rfl rfl rfl rfl (by decide) ?_
                refine AJR_gskip (.bool false) 28 rfl (Nat.le_of_ble_eq_true rfl) hb104 rfl rfl rfl rfl rfl rfl (by decide) ?_
                refine AJR_gskip (.bool false) 29 rfl (Nat.le_of_ble_eq_true rfl) hb104 rfl rfl rfl rfl rfl rfl (by decide) ?_
                refine AJR_gskip (.bool false) 30 rfl (Nat.le_of_ble_eq_true rfl) hb104 rfl rfl rfl rfl rfl rfl (by decide) ?_
                refine AJR_gskip (.bool false) 31 rfl (Nat.le_of_ble_eq_true rfl) hb104 rfl rfl rfl rfl rfl rfl (by decide) ?_
                refine AJR_gskip (.bool false) 32 rfl (Nat.le_of_ble_eq_true rfl) hb104 rfl rfl rfl rfl rfl rfl (by decide) ?_
                refine AJR_ev env 33 rfl (Nat.le_of_ble_eq_true rfl) rfl ⟨trivial, ⟨fun e => (tff (e.symm.trans hb104)).elim, trivial⟩⟩ ?_
                refine AJR_ev env 34 rfl (Nat.le_of_ble_eq_true rfl) rfl trivial ?_
                refine AJR_end rfl rfl rfl ?_
                obtain rfl := sinj h1
                refine tsn ?_
                exact SP_ren [] _ rfl ⟨rfl, trivial⟩ trivial rfl
            · refine AJR_gskip (.bool false) 15 rfl (Nat.le_of_ble_eq_true rfl) hb99 rfl rfl rfl rfl rfl rfl (by decide) ?_
              refine AJR_gskip (.bool false) 16 rfl (Nat.le_of_ble_eq_true rfl) hb99 rfl rfl rfl rfl rfl rfl (by decide) ?_
              refine AJR_gskip (.bool false) 17 rfl (Nat.le_of_ble_eq_true rfl) hb99 rfl rfl rfl rfl rfl rfl (by decide) ?_
              refine AJR_gskip (.bool false) 18 rfl (Nat.le_of_ble_eq_true rfl) hb99 rfl rfl rfl rfl rfl rfl (by decide) ?_
              refine AJR_gskip (.bool false) 19 rfl (Nat.le_of_ble_eq_true rfl) hb99 rfl rfl rfl rfl rfl rfl (by decide) ?_
              refine AJR_gskip (.bool false) 20 rfl (Nat.le_of_ble_eq_true rfl) hb99 rfl rfl rfl rfl rfl rfl (by decide) ?_
              refine AJR_gskip (.bool false) 21 rfl (Nat.le_of_ble_eq_true rfl) hb99 rfl rfl rfl rfl rfl rfl (by decide) ?_
              refine AJR_ev env 22 rfl (Nat.le_of_ble_eq_true rfl) rfl ⟨trivial, ⟨fun e => (tff (e.symm.trans hb99)).elim, trivial⟩⟩ ?_
              refine AJR_ev env 23 rfl (Nat.le_of_ble_eq_true rfl) rfl trivial ?_
              refine bif_split h1 (fun hb109 h1 => ?_) (fun hb109 h1 => ?_)
              · refine AJR_gev env 24 rfl (Nat.le_of_ble_eq_true rfl) hb109 rfl rfl rfl rfl rfl rfl trivial ?_
                refine AJR_gev env 25 rfl (Nat.le_of_ble_eq_true rfl) hb109 rfl rfl rfl rfl rfl rfl ⟨trivial, trivial⟩ ?_
                refine AJR_gev env 26 rfl (Nat.le_of_ble_eq_true rfl) hb109 rfl rfl rfl rfl rfl rfl trivial ?_
                refine AJR_gev env 27 rfl (Nat.le_of_ble_eq_true rfl) hb109 rfl rfl rfl rfl rfl rfl ⟨trivial, trivial⟩ ?_
                refine AJR_gev env 28 rfl (Nat.le_of_ble_eq_true rfl) hb109 rfl rfl rfl rfl rfl rfl trivial ?_
                refine AJR_gev env 29 rfl (Nat.le_of_ble_eq_true rfl) hb109 rfl rfl rfl rfl rfl rfl ⟨trivial, trivial⟩ ?_
                refine AJR_gev env 30 rfl (Nat.le_of_ble_eq_true rfl) hb109 rfl rfl rfl rfl rfl rfl trivial ?_
                refine AJR_gev env 31 rfl (Nat.le_of_ble_eq_true rfl) hb109 rfl rfl rfl rfl rfl rfl ⟨trivial, trivial⟩ ?_
                obtain ⟨r110, hr, h1⟩ := bnd h1
                refine AJR_gcall 32 rfl (Nat.le_of_ble_eq_true rfl) hb109 [] rfl rfl rfl rfl rfl (caps_span.ok0 hr) caps_span.fnb rfl ⟨trivial, ⟨trivial, ⟨trivial, ⟨trivial, ⟨trivial, trivial⟩⟩⟩⟩⟩ rfl trivial rfl ?_
                refine AJR_ev env 33 rfl (Nat.le_of_ble_eq_true rfl) rfl ⟨trivial, ⟨trivial, trivial⟩⟩ ?_
                refine AJR_ev env 34 rfl (Nat.le_of_ble_eq_true rfl) rfl trivial ?_
                refine AJR_end rfl rfl rfl ?_
                obtain rfl := sinj h1
                refine tsn ?_
                exact SP_ren [] _ rfl ⟨rfl, trivial⟩ trivial rfl
              · refine AJR_gskip (.bool false) 24 rfl (Nat.le_of_ble_eq_true rfl) hb109 rfl rfl rfl rfl rfl rfl (by decide) ?_
                refine AJR_gskip (.bool false) 25 rfl (Nat.le_of_ble_eq_true rfl) hb109 rfl rfl rfl rfl rfl rfl (by decide) ?_
                refine AJR_gskip (.bool false) 26 rfl (Nat.le_of_ble_eq_true rfl) hb109 rfl rfl rfl rfl rfl rfl (by decide) ?_
                refine AJR_gskip (.bool false) 27 rfl (Nat.le_of_ble_eq_true rfl) hb109 rfl rfl rfl rfl rfl rfl (by decide) ?_
                refine AJR_gskip (.bool false) 28 rfl (Nat.le_of_ble_eq_true rfl) hb109 rfl rfl rfl rfl rfl rfl (by decide) ?_
                refine AJR_gskip (.bool false) 29 rfl (Nat.le_of_ble_eq_true rfl) hb109 rfl rfl rfl rfl rfl rfl (by decide) ?_
                refine AJR_gskip (.bool false) 30 rfl (Nat.le_of_ble_eq_true rfl) hb109 rfl rfl rfl rfl rfl rfl (by decide) ?_
                refine AJR_gskip (.bool false) 31 rfl (Nat.le_of_ble_eq_true rfl) hb109 rfl rfl rfl rfl rfl rfl (by decide) ?_
                refine AJR_gskip (.bool false) 32 rfl (Nat.le_of_ble_eq_true rfl) hb109 rfl rfl rfl rfl rfl rfl (by decide) ?_
                refine AJR_ev env 33 rfl (Nat.le_of_ble_eq_true rfl) rfl ⟨trivial, ⟨fun e => (tff (e.symm.trans hb109)).elim, trivial⟩⟩ ?_
                refine AJR_ev env 34 rfl (Nat.le_of_ble_eq_true rfl) rfl trivial ?_
                refine AJR_end rfl rfl rfl ?_
                obtain rfl := sinj h1
                refine tsn ?_
                exact SP_ren [] _ rfl ⟨rfl, trivial⟩ trivial rfl
          · refine AJR_gskip (.bool false) 7 rfl (Nat.le_of_ble_eq_true rfl) hb95 rfl rfl rfl rfl rfl rfl (by decide) ?_
            refine AJR_gskip (.bool false) 8 rfl (Nat.le_of_ble_eq_true rfl) hb95 rfl rfl rfl rfl rfl rfl (by decide) ?_
            refine AJR_gskip (.bool false) 9 rfl (Nat.le_of_ble_eq_true rfl) hb95 rfl rfl rfl rfl rfl rfl (by decide) ?_
            refine AJR_gskip (.bool false) 10 rfl (Nat.le_of_ble_eq_true rfl) hb95 rfl rfl rfl rfl rfl rfl (by decide) ?_
            refine AJR_gskip (.bool false) 11 rfl (Nat.le_of_ble_eq_true rfl) hb95 rfl rfl rfl rfl rfl rfl (by decide) ?_
            refine AJR_gskip (.bool false) 12 rfl (Nat.le_of_ble_eq_true rfl) hb95 rfl rfl rfl rfl rfl rfl (by decide) ?_
            refine AJR_ev env 13 rfl (Nat.le_of_ble_eq_true rfl) rfl ⟨trivial, ⟨fun e => (tff (e.symm.trans hb95)).elim, trivial⟩⟩ ?_
            refine AJR_ev env 14 rfl (Nat.le_of_ble_eq_true rfl) rfl trivial ?_
            refine bif_split h1 (fun hb114 h1 => ?_) (fun hb114 h1 => ?_)
            · refine AJR_gev env 15 rfl (Nat.le_of_ble_eq_true rfl) hb114 rfl rfl rfl rfl rfl rfl trivial ?_
              refine AJR_gev env 16 rfl (Nat.le_of_ble_eq_true rfl) hb114 rfl rfl rfl rfl rfl rfl ⟨trivial, trivial⟩ ?_
              obtain ⟨r115, hr, h1⟩ := bnd h1
              refine AJR_gcall 17 rfl (Nat.le_of_ble_eq_true rfl) hb114 [] rfl rfl rfl rfl rfl (lapped_Lengths.ok0 hr) lapped_Lengths.fnb rfl ⟨trivial, trivial⟩ rfl trivial rfl ?_
              refine AJR_gev env 18 rfl (Nat.le_of_ble_eq_true rfl) hb114 rfl rfl rfl rfl rfl rfl trivial ?_
              refine AJR_gev env 19 rfl (Nat.le_of_ble_eq_true rfl) hb114 rfl rfl rfl rfl rfl rfl ⟨trivial, trivial⟩ ?_
              obtain ⟨r116, hr, h1⟩ := bnd h1
              refine AJR_gcall 20 rfl (Nat.le_of_ble_eq_true rfl) hb114 [] rfl rfl rfl rfl rfl (slices_Index_int_int.ok0 hr) slices_Index_int_int.fnb rfl ⟨trivial, ⟨trivial, ⟨trivial, trivial⟩⟩⟩ rfl trivial rfl ?_
              obtain ⟨r117, hr, h1⟩ := bnd h1
              refine AJR_gcall 21 rfl (Nat.le_of_ble_eq_true rfl) hb114 [] rfl rfl rfl rfl rfl (caps_in.ok0 hr) caps_in.fnb rfl ⟨trivial, ⟨trivial, ⟨trivial, trivial⟩⟩⟩ rfl trivial rfl ?_
              refine AJR_ev env 22 rfl (Nat.le_of_ble_eq_true rfl) rfl ⟨trivial, ⟨trivial, trivial⟩⟩ ?_
              refine AJR_ev env 23 rfl (Nat.le_of_ble_eq_true rfl) rfl trivial ?_
              refine bif_split h1 (fun hb119 h1 => ?_) (fun hb119 h1 => ?_)
              · refine AJR_gev env 24 rfl (Nat.le_of_ble_eq_true rfl) hb119 rfl rfl rfl rfl rfl rfl trivial ?_
                refine AJR_gev env 25 rfl (Nat.le_of_ble_eq_true rfl) hb119 rfl rfl rfl rfl rfl rfl ⟨trivial, trivial⟩ ?_
                refine AJR_gev env 26 rfl (Nat.le_of_ble_eq_true rfl) hb119 rfl rfl rfl rfl rfl rfl trivial ?_
                refine AJR_gev env 27 rfl (Nat.le_of_ble_eq_true rfl) hb119 rfl rfl rfl rfl rfl rfl ⟨trivial, trivial⟩ ?_
                refine AJR_gev env 28 rfl (Nat.le_of_ble_eq_true rfl) hb119 rfl rfl rfl rfl rfl rfl trivial ?_
                refine AJR_gev env 29 rfl (Nat.le_of_ble_eq_true rfl) hb119 rfl rfl rfl rfl rfl rfl ⟨trivial, trivial⟩ ?_
                refine AJR_gev env 30 rfl (Nat.le_of_ble_eq_true rfl) hb119 rfl rfl rfl rfl rfl rfl trivial ?_
                refine AJR_gev env 31 rfl (Nat.le_of_ble_eq_true rfl) hb119 rfl rfl rfl rfl rfl rfl ⟨trivial, trivial⟩ ?_
                obtain ⟨r120, hr, h1⟩ := bnd h1
                refine AJR_gcall 32 rfl (Nat.le_of_ble_eq_true rfl) hb119 [] rfl rfl rfl rfl rfl (caps_span.ok0 hr) caps_span.fnb rfl ⟨trivial, ⟨trivial, ⟨trivial, ⟨trivial, ⟨trivial, trivial⟩⟩⟩⟩⟩ rfl trivial rfl ?_
                refine AJR_ev env 33 rfl (Nat.le_of_ble_eq_true rfl) rfl ⟨trivial, ⟨trivial, trivial⟩⟩ ?_
                refine AJR_ev env 34 rfl (Nat.le_of_ble_eq_true rfl) rfl trivial ?_
                refine AJR_end rfl rfl rfl ?_
                obtain rfl := sinj h1
                refine tsn ?_
                exact SP_ren [] _ rfl ⟨rfl, trivial⟩ trivial rfl
              · refine AJR_gskip (.bool false) 24 rfl (Nat.le_of_ble_eq_true rfl) hb119 rfl rfl rfl rfl rfl rfl (by decide) ?_
                refine AJR_gskip (.bool false) 25 rfl (Nat.le_of_ble_eq_true rfl) hb119 rfl rfl rfl rfl rfl rfl (by decide) ?_
                refine AJR_gskip (.bool false) 26 rfl (Nat.le_of_ble_eq_true rfl) hb119 rfl rfl rfl rfl rfl rfl (by decide) ?_
                refine AJR_gskip (.bool false) 27 rfl (Nat.le_of_ble_eq_true rfl) hb119 rfl rfl rfl rfl rfl rfl (by decide) ?_
                refine AJR_gskip (.bool false) 28 rfl (Nat.le_of_ble_eq_true rfl) hb119 rfl rfl rfl rfl rfl rfl (by decide) ?_
                refine AJR_gskip (.bool false) 29 rfl (Nat.le_of_ble_eq_true rfl) hb119 rfl rfl rfl rfl rfl rfl (by decide) ?_
                refine AJR_gskip (.bool false) 30 rfl (Nat.le_of_ble_eq_true rfl) hb119 rfl rfl rfl rfl rfl rfl (by decide) ?_
                refine AJR_gskip (.bool false) 31 rfl (Nat.le_of_ble_eq_true rfl) hb119 rfl rfl rfl rfl rfl rfl (by decide) ?_
                refine AJR_gskip (.bool false) 32 rfl (Nat.le_of_ble_eq_true rfl) hb119 rfl rfl rfl rfl rfl rfl (by decide) ?_
                refine AJR_ev env 33 rfl (Nat.le_of_ble_eq_true rfl) rfl ⟨trivial, ⟨fun e => (tff (e.symm.trans hb119)).elim, trivial⟩⟩ ?_
                refine AJR_ev env 34 rfl (Nat.le_of_ble_eq_true rfl) rfl trivial ?_
                refine AJR_end rfl rfl rfl ?_
                obtain rfl := sinj h1
                refine tsn ?_
                exact SP_ren [] _ rfl ⟨rfl, trivial⟩ trivial rfl
            · refine AJR_gskip (.bool false) 15 rfl (Nat.le_of_ble_eq_true rfl) hb114 rfl rfl rfl rfl rfl rfl (by decide) ?_
              refine AJR_gskip (.bool false) 16 rfl (Nat.le_of_ble_eq_true rfl) hb114 rfl rfl rfl rfl rfl rfl (by decide) ?_
              refine AJR_gskip (.bool false) 17 rfl (Nat.le_of_ble_eq_true rfl) hb114 rfl rfl rfl rfl rfl rfl (by decide) ?_
              refine AJR_gskip (.bool false) 18 rfl (Nat.le_of_ble_eq_true rfl) hb114 rfl rfl rfl rfl rfl rfl (by decide) ?_
              refine AJR_gskip (.bool false) 19 rfl (Nat.le_of_ble_eq_true rfl) hb114 rfl rfl rfl rfl rfl rfl (by decide) ?_
              refine AJR_gskip (.bool false) 20 rfl (Nat.le_of_ble_eq_true rfl) hb114 rfl rfl rfl rfl rfl rfl (by decide) ?_
              refine AJR_gskip (.bool false) 21 rfl (Nat.le_of_ble_eq_true rfl) hb114 rfl rfl rfl rfl rfl rfl (by decide) ?_
              refine AJR_ev env 22 rfl (Nat.le_of_ble_eq_true rfl) rfl ⟨trivial, ⟨fun e => (tff (e.symm.trans hb114)).elim, trivial⟩⟩ ?_
              refine AJR_ev env 23 rfl (Nat.le_of_ble_eq_true rfl) rfl trivial ?_
              refine bif_split h1 (fun hb124 h1 => ?_) (fun hb124 h1 => ?_)
              · refine AJR_gev env 24 rfl (Nat.le_of_ble_eq_true rfl) hb124 rfl rfl rfl rfl rfl rfl trivial ?_
                refine AJR_gev env 25 rfl (Nat.le_of_ble_eq_true rfl) hb124 rfl rfl rfl rfl rfl rfl ⟨trivial, trivial⟩ ?_
                refine AJR_gev env 26 rfl (Nat.le_of_ble_eq_true rfl) hb124 rfl rfl rfl rfl rfl rfl trivial ?_
                refine AJR_gev env 27 rfl (Nat.le_of_ble_eq_true rfl) hb124 rfl rfl rfl rfl rfl rfl ⟨trivial, trivial⟩ ?_
                refine AJR_gev env 28 rfl (Nat.le_of_ble_eq_true rfl) hb124 rfl rfl rfl rfl rfl rfl trivial ?_
                refine AJR_gev env 29 rfl (Nat.le_of_ble_eq_true rfl) hb124 rfl rfl rfl rfl rfl rfl ⟨trivial, trivial⟩ ?_
                refine AJR_gev env 30 rfl (Nat.le_of_ble_eq_true rfl) hb124 rfl rfl rfl rfl rfl rfl trivial ?_
                refine AJR_gev env 31 rfl (Nat.le_of_ble_eq_true rfl) hb124 rfl rfl rfl rfl rfl rfl ⟨trivial, trivial⟩ ?_
                obtain ⟨r125, hr, h1⟩ := bnd h1
                refine AJR_gcall 32 rfl (Nat.le_of_ble_eq_true rfl) hb124 [] rfl rfl rfl rfl rfl (caps_span.ok0 hr) caps_span.fnb rfl ⟨trivial, ⟨trivial, ⟨trivial, ⟨trivial, ⟨trivial, trivial⟩⟩⟩⟩⟩ rfl trivial rfl ?_
                refine AJR_ev env 33 rfl (Nat.le_of_ble_eq_true rfl) rfl ⟨trivial, ⟨trivial, trivial⟩⟩ ?_
                refine AJR_ev env 34 rfl (Nat.le_of_ble_eq_true rfl) rfl trivial ?_
                refine AJR_end rfl rfl rfl ?_
                obtain rfl := sinj h1
                refine tsn ?_
                exact SP_ren [] _ rfl ⟨rfl, trivial⟩ trivial rfl
              · refine AJR_gskip (.bool false) 24 rfl (Nat.le_of_ble_eq_true rfl) hb124 rfl rfl rfl rfl rfl rfl (by decide) ?_
                refine AJR_gskip (.bool false) 25 rfl (Nat.le_of_ble_eq_true rfl) hb124 rfl rfl rfl rfl rfl rfl (by decide) ?_
                refine AJR_gskip (.bool false) 26 rfl (Nat.le_of_ble_eq_true rfl) hb124 rfl rfl rfl rfl rfl rfl (by decide) ?_
                refine AJR_gskip (.bool false) 27 rfl (Nat.le_of_ble_eq_true rfl) hb124 rfl rfl rfl rfl rfl rfl (by decide) ?_
                refine AJR_gskip (.bool false) 28 rfl (Nat.le_of_ble_eq_true rfl) hb124 rfl rfl rfl rfl rfl rfl (by decide) ?_
                refine AJR_gskip (.bool false) 29 rfl (Nat.le_of_ble_eq_true rfl) hb124 rfl rfl rfl rfl rfl rfl (by decide) ?_
                refine AJR_gskip (.bool false) 30 rfl (Nat.le_of_ble_eq_true rfl) hb124 rfl rfl rfl rfl rfl rfl (by decide) ?_
                refine AJR_gskip (.bool false) 31 rfl (Nat.le_of_ble_eq_true rfl) hb124 rfl rfl rfl rfl rfl rfl (by decide) ?_
                refine AJR_gskip (.bool false) 32 rfl (Nat.le_of_ble_eq_true rfl) hb124 rfl rfl rfl rfl rfl rfl (by decide) ?_
                refine AJR_ev env 33 rfl (Nat.le_of_ble_eq_true rfl) rfl ⟨trivial, ⟨fun e => (tff (e.symm.trans hb124)).elim, trivial⟩⟩ ?_
                refine AJR_ev env 34 rfl (Nat.le_of_ble_eq_true rfl) rfl trivial ?_
                refine AJR_end rfl rfl rfl ?_
                obtain rfl := sinj h1
                refine tsn ?_
                exact SP_ren [] _ rfl ⟨rfl, trivial⟩ trivial rfl
        · rintro x93 hz
          obtain rfl := hz.symm
          refine TE_go ?_
          refine TC_ret ?_
          obtain rfl := sinj h0
          exact TE_ret env rfl trivial trivial
theorem caps_Allows.ok0 {K : Nat} {p0 : Int} {p1 : Int} {p2 : Int} {p3 : Int} {p4 : Int} {p5 : Int} {p6 : Int} {p7 : Int} {p8 : Int} {p9 : Int} {p10 : Int} {p11 : Int} {p12 : Int} {p13 : Int} {p14 : Int} {p15 : Int} {p16 : Int} {p17 : Int} {p18 : Int} {p19 : Int} {p20 : Int} {p21 : Int} {p22 : Int} {p23 : Int} {p24 : Int} {p25 : Int} {p26 : Int} {q0 : Bool} (h0 : caps_Allows K p0 p1 p2 p3 p4 p5 p6 p7 p8 p9 p10 p11 p12 p13 p14 p15 p16 p17 p18 p19 p20 p21 p22 p23 p24 p25 p26 = some q0) : Fn Try.prog 45 [.agg [.int .i64 p0, .int .i64 p1, .int .i64 p2, .int .i64 p3, .int .i64 p4, .int .i64 p5, .int .i64 p6, .int .i64 p7, .int .i64 p8, .int .i64 p9, .int .i64 p10, .int .i64 p11, .int .i64 p12, .int .i64 p13, .int .i64 p14], .agg [.int .i64 p15, .int .i64 p16, .int .i64 p17, .int .i64 p18, .int .i64 p19, .int .i64 p20, .int .i64 p21, .int .i64 p22, .int .i64 p23, .int .i64 p24], .agg [.int .i64 p25, .int .i64 p26]] [] (.bool q0) [] := caps_Allows.ok h0
theorem caps_Allows.fnb : fnb Try.prog 45 = true := fnb_of Try.func45 rfl
def psalteryref11_Bits.res (_p0 : Int) (_p1 : Int) (_p2 : Int) (_p3 : Int) (_p4 : Int) (_p5 : Int) (_p6 : Int) (_p7 : Int) (_p8 : Int) (_p9 : Int) : Int → MV
  | q0 => .int .i64 q0
def psalteryref11_Bits.out (_p0 : Int) (_p1 : Int) (_p2 : Int) (_p3 : Int) (_p4 : Int) (_p5 : Int) (_p6 : Int) (_p7 : Int) (_p8 : Int) (_p9 : Int) : Int → List (Nat × Option MObj)
  | _ => []
theorem psalteryref11_Bits.ok {K : Nat} {p0 : Int} {p1 : Int} {p2 : Int} {p3 : Int} {p4 : Int} {p5 : Int} {p6 : Int} {p7 : Int} {p8 : Int} {p9 : Int} {r : Int} (h0 : psalteryref11_Bits K p0 p1 p2 p3 p4 p5 p6 p7 p8 p9 = some r) : Fn Try.prog 38 [.agg [.int .i64 p0, .int .i64 p1, .int .i64 p2, .int .i64 p3, .int .i64 p4, .int .i64 p5, .int .i64 p6, .int .i64 p7, .int .i64 p8, .int .i64 p9]] [] (psalteryref11_Bits.res p0 p1 p2 p3 p4 p5 p6 p7 p8 p9 r) (psalteryref11_Bits.out p0 p1 p2 p3 p4 p5 p6 p7 p8 p9 r) := by
  refine Fn_of Try.func38 rfl (Nat.le_of_ble_eq_true rfl) fun Γ => ?_
  refine TC_seq ?_
  refine TC_reg ?_
  refine TL_ev env 2 rfl ⟨trivial, ⟨trivial, trivial⟩⟩ ?_
  refine TL_end ?_
  refine TE_go ?_
  refine TC_seq ?_
  refine TC_seq ?_
  refine TC_reg ?_
  refine TL_ev env 3 rfl ⟨trivial, ⟨⟨trivial, trivial⟩, ⟨⟨trivial, ⟨trivial, trivial⟩⟩, trivial⟩⟩⟩ ?_
  refine TL_end ?_
  refine TE_go ?_
  refine TC_cond rfl (fun hb => ?_) (fun hb => ?_)
  · replace h0 := bif_t h0 hb
    refine TC_seq ?_
    refine TC_reg ?_
    refine TL_ev env 4 rfl ⟨trivial, ⟨⟨trivial, trivial⟩, ⟨⟨trivial, ⟨trivial, trivial⟩⟩, ⟨trivial, trivial⟩⟩⟩⟩ ?_
    refine TL_end ?_
    refine TE_go ?_
    refine TC_ret ?_
    refine tsr ?_
    obtain rfl := sinj h0
    exact TE_ret env rfl trivial trivial
  · replace h0 := bif_f h0 hb
    refine TC_skip ?_
    refine TE_go ?_
    refine TC_seq ?_
    refine TC_reg ?_
    refine TL_ev env 7 rfl ⟨trivial, ⟨⟨trivial, trivial⟩, ⟨trivial, ⟨⟨trivial, trivial⟩, ⟨⟨trivial, ⟨trivial, trivial⟩⟩, ⟨⟨trivial, ⟨trivial, trivial⟩⟩, ⟨trivial, trivial⟩⟩⟩⟩⟩⟩⟩ ?_
    refine TL_end ?_
    refine TE_go ?_
    refine TC_seq ?_
    refine TC_seq ?_
    refine TC_reg ?_
    refine TL_ev env 1 rfl ⟨trivial, trivial⟩ ?_
    refine TL_end ?_
    refine TE_go ?_
    obtain ⟨z1, h1, h0⟩ := bnd h0
    refine TC_cut (α := Int) (fun s => z1 = s) (fun s => [(1, .p 10900 0), (3, .int .i64 s)]) (fun s => [(10900, some (.cells [.int .i64 p0, .int .i64 p1, .int .i64 p2, .int .i64 p3, .int .i64 p4, .int .i64 p5, .int .i64 p6, .int .i64 p7, .int .i64 p8, .int .i64 p9]))]) ?_ ?_
    · refine TC_blk ?_
      refine TC_loop (α := Int × Int) (fun n s => psalteryref11_Bits.l0 K p0 p1 p2 p3 p4 p5 p6 p7 p8 p9 n s.1 s.2 = some z1) (fun s => [(1, .p 11200 0), (3, .int .i64 s.1), (4, .int .i64 s.2)]) (fun s => [(11200, some (.cells [.int .i64 p0, .int .i64 p1, .int .i64 p2, .int .i64 p3, .int .i64 p4, .int .i64 p5, .int .i64 p6, .int .i64 p7, .int .i64 p8, .int .i64 p9]))]) K ?_ ?_
      · exact SP_ren [(11200, 1001)] (_, _) h1 ⟨rfl, rfl, rfl, trivial⟩ ⟨rfl, trivial⟩ rfl
      rintro n ⟨x17, x18⟩ h1
      rcases n with _ | n
      · exact (nsome h1).elim
      replace h1 : psalteryref11_Bits.r0 K p0 p1 p2 p3 p4 p5 p6 p7 p8 p9 (psalteryref11_Bits.l0 K p0 p1 p2 p3 p4 p5 p6 p7 p8 p9 n) x17 x18 = some z1 := h1
      refine TC_seq ?_
      refine TC_seq ?_
      refine TC_reg ?_
      refine TL_ev env 4 rfl ⟨trivial, ⟨trivial, ⟨⟨trivial, trivial⟩, ⟨⟨trivial, ⟨trivial, trivial⟩⟩, trivial⟩⟩⟩⟩ ?_
      refine TL_end ?_
      refine TE_go ?_
      refine TC_cond rfl (fun hb => ?_) (fun hb => ?_)
      · replace h1 := bif_t h1 hb
        refine TC_skip ?_
        refine TE_go ?_
        refine TC_seq ?_
        refine TC_blk ?_
        refine TC_reg ?_
        refine TL_ev env 6 rfl ⟨trivial, ⟨trivial, ⟨⟨trivial, trivial⟩, ⟨⟨trivial, ⟨trivial, trivial⟩⟩, ⟨⟨trivial, ⟨trivial, trivial⟩⟩, ⟨trivial, trivial⟩⟩⟩⟩⟩⟩ ?_
        refine TL_end ?_
        refine tbn ?_
        refine TE_go ?_
        refine TC_reg ?_
        refine TL_ev env 3 rfl ⟨trivial, ⟨⟨trivial, ⟨trivial, trivial⟩⟩, ⟨trivial, trivial⟩⟩⟩ ?_
        refine TL_end ?_
        refine tsn ?_
        exact TE_nextr [(11200, 11200)] n (Nat.lt_succ_self n) (_, _) h1 ⟨rfl, rfl, rfl, trivial⟩ ⟨rfl, trivial⟩ rfl
      · replace h1 := bif_f h1 hb
        refine TC_exit ?_
        refine tsx ?_
        refine tsx ?_
        refine tbe ?_
        obtain rfl := sinj h1
        refine tsn ?_
        exact SP_ren [(10900, 11200)] _ rfl ⟨rfl, rfl, trivial⟩ ⟨rfl, trivial⟩ rfl
    · rintro x14 hz
      obtain rfl := hz.symm
      refine TE_go ?_
      refine TC_seq ?_
      refine TC_seq ?_
      refine TC_reg ?_
      refine TL_ev env 3 rfl ⟨trivial, ⟨⟨trivial, trivial⟩, ⟨⟨trivial, ⟨trivial, trivial⟩⟩, trivial⟩⟩⟩ ?_
      refine TL_end ?_
      refine TE_go ?_
      obtain ⟨z1, h1, h0⟩ := bnd h0
      refine TC_cut (α := Int) (fun s => z1 = s) (fun s => [(3, .int .i64 s)]) (fun s => []) ?_ ?_
      · refine TC_cond rfl (fun hb => ?_) (fun hb => ?_)
        · replace h1 := bif_t h1 hb
          refine TC_reg ?_
          refine TL_ev env 5 rfl ⟨trivial, ⟨trivial, ⟨⟨trivial, trivial⟩, ⟨⟨trivial, ⟨trivial, trivial⟩⟩, ⟨trivial, trivial⟩⟩⟩⟩⟩ ?_
          refine TL_end ?_
          obtain rfl := sinj h1
          refine tsn ?_
          exact SP_ren [] _ rfl ⟨rfl, trivial⟩ trivial rfl
        · replace h1 := bif_f h1 hb
          refine TC_skip ?_
          obtain rfl := sinj h1
          refine tsn ?_
          exact SP_ren [] _ rfl ⟨rfl, trivial⟩ trivial rfl
      · rintro x15 hz
        obtain rfl := hz.symm
        refine TE_go ?_
        refine TC_seq ?_
        refine TC_reg ?_
        refine TL_ev env 2 rfl ⟨trivial, ⟨trivial, trivial⟩⟩ ?_
        refine TL_end ?_
        refine TE_go ?_
        refine TC_ret ?_
        obtain rfl := sinj h0
        exact TE_ret env rfl trivial trivial
theorem psalteryref11_Bits.ok0 {K : Nat} {p0 : Int} {p1 : Int} {p2 : Int} {p3 : Int} {p4 : Int} {p5 : Int} {p6 : Int} {p7 : Int} {p8 : Int} {p9 : Int} {q0 : Int} (h0 : psalteryref11_Bits K p0 p1 p2 p3 p4 p5 p6 p7 p8 p9 = some q0) : Fn Try.prog 38 [.agg [.int .i64 p0, .int .i64 p1, .int .i64 p2, .int .i64 p3, .int .i64 p4, .int .i64 p5, .int .i64 p6, .int .i64 p7, .int .i64 p8, .int .i64 p9]] [] (.int .i64 q0) [] := psalteryref11_Bits.ok h0
theorem psalteryref11_Bits.fnb : fnb Try.prog 38 = true := fnb_of Try.func38 rfl
def psalteryref11_Sub.res (_p0 : Int) (_p1 : Int) (_p2 : Int) (_p3 : Int) (_p4 : Int) (_p5 : Int) (_p6 : Int) (_p7 : Int) (_p8 : Int) (_p9 : Int) : Bool → MV
  | q0 => .bool q0
def psalteryref11_Sub.out (_p0 : Int) (_p1 : Int) (_p2 : Int) (_p3 : Int) (_p4 : Int) (_p5 : Int) (_p6 : Int) (_p7 : Int) (_p8 : Int) (_p9 : Int) : Bool → List (Nat × Option MObj)
  | _ => []
theorem psalteryref11_Sub.ok {K : Nat} {p0 : Int} {p1 : Int} {p2 : Int} {p3 : Int} {p4 : Int} {p5 : Int} {p6 : Int} {p7 : Int} {p8 : Int} {p9 : Int} {r : Bool} (h0 : psalteryref11_Sub K p0 p1 p2 p3 p4 p5 p6 p7 p8 p9 = some r) : Fn Try.prog 85 [.agg [.int .i64 p0, .int .i64 p1, .int .i64 p2, .int .i64 p3, .int .i64 p4, .int .i64 p5, .int .i64 p6, .int .i64 p7, .int .i64 p8, .int .i64 p9]] [] (psalteryref11_Sub.res p0 p1 p2 p3 p4 p5 p6 p7 p8 p9 r) (psalteryref11_Sub.out p0 p1 p2 p3 p4 p5 p6 p7 p8 p9 r) := by
  refine Fn_of Try.func85 rfl (Nat.le_of_ble_eq_true rfl) fun Γ => ?_
  refine TC_seq ?_
  refine TC_reg ?_
  refine TL_ev env 2 rfl ⟨trivial, ⟨trivial, trivial⟩⟩ ?_
  refine TL_end ?_
  refine TE_go ?_
  refine TC_seq ?_
  refine TC_seq ?_
  refine TC_reg ?_
  refine TL_ev env 13 rfl ⟨trivial, ⟨⟨trivial, trivial⟩, ⟨⟨trivial, ⟨trivial, trivial⟩⟩, ⟨trivial, ⟨fun eg => trivial, ⟨fun eg => ⟨fun e => e, trivial⟩, ⟨fun eg => ⟨fun e => e, ⟨trivial, trivial⟩⟩, ⟨⟨trivial, ⟨trivial, fun e => e⟩⟩, ⟨trivial, ⟨fun eg => trivial, ⟨fun eg => ⟨fun e => e, trivial⟩, ⟨fun eg => ⟨fun e => e, ⟨trivial, trivial⟩⟩, ⟨⟨trivial, ⟨trivial, fun e => e⟩⟩, trivial⟩⟩⟩⟩⟩⟩⟩⟩⟩⟩⟩⟩⟩ ?_
  refine TL_end ?_
  refine TE_go ?_
  refine TC_cond rfl (fun hb => ?_) (fun hb => ?_)
  · replace h0 := bif_t h0 hb
    refine TC_seq ?_
    refine TC_reg ?_
    refine TL_ev env 1 rfl ⟨trivial, trivial⟩ ?_
    refine TL_end ?_
    refine TE_go ?_
    refine TC_ret ?_
    refine tsr ?_
    obtain rfl := sinj h0
    exact TE_ret env rfl trivial trivial
  · replace h0 := bif_f h0 hb
    refine TC_skip ?_
    refine TE_go ?_
    refine TC_seq ?_
    refine TC_seq ?_
    refine TC_reg ?_
    refine TL_ev env 28 rfl ⟨trivial, ⟨⟨trivial, trivial⟩, ⟨⟨trivial, ⟨trivial, trivial⟩⟩, ⟨trivial, ⟨fun eg => trivial, ⟨fun eg => ⟨fun e => e, trivial⟩, ⟨fun eg => ⟨fun e => e, ⟨trivial, trivial⟩⟩, ⟨⟨trivial, ⟨trivial, fun e => e⟩⟩, ⟨trivial, ⟨fun eg => trivial, ⟨fun eg => ⟨fun e => e, trivial⟩, ⟨fun eg => ⟨fun e => e, ⟨trivial, trivial⟩⟩, ⟨⟨trivial, ⟨trivial, fun e => e⟩⟩, ⟨trivial, ⟨fun eg => trivial, ⟨fun eg => ⟨fun e => e, trivial⟩, ⟨fun eg => ⟨fun e => e, ⟨trivial, trivial⟩⟩, ⟨⟨trivial, ⟨trivial, fun e => e⟩⟩, ⟨trivial, ⟨fun eg => trivial, ⟨fun eg => ⟨fun e => e, trivial⟩, ⟨fun eg => ⟨fun e => e, ⟨trivial, trivial⟩⟩, ⟨⟨trivial, ⟨trivial, fun e => e⟩⟩, ⟨trivial, ⟨fun eg => trivial, ⟨fun eg => ⟨fun e => e, trivial⟩, ⟨fun eg => ⟨fun e => e, ⟨trivial, trivial⟩⟩, ⟨⟨trivial, ⟨trivial, fun e => e⟩⟩, trivial⟩⟩⟩⟩⟩⟩⟩⟩⟩⟩⟩⟩⟩⟩⟩⟩⟩⟩⟩⟩⟩⟩⟩⟩⟩⟩⟩⟩ ?_
    refine TL_end ?_
    refine TE_go ?_
    refine TC_cond rfl (fun hb => ?_) (fun hb => ?_)
    · replace h0 := bif_t h0 hb
      refine TC_seq ?_
      refine TC_reg ?_
      refine TL_ev env 1 rfl ⟨trivial, trivial⟩ ?_
      refine TL_end ?_
      refine TE_go ?_
      refine TC_ret ?_
      refine tsr ?_
      obtain rfl := sinj h0
      exact TE_ret env rfl trivial trivial
    · replace h0 := bif_f h0 hb
      refine TC_skip ?_
      refine TE_go ?_
      refine TC_seq ?_
      refine TC_seq ?_
      refine TC_reg ?_
      refine TL_ev env 28 rfl ⟨trivial, ⟨⟨trivial, trivial⟩, ⟨⟨trivial, ⟨trivial, trivial⟩⟩, ⟨trivial, ⟨fun eg => trivial, ⟨fun eg => ⟨fun e => e, trivial⟩, ⟨fun eg => ⟨fun e => e, ⟨trivial, trivial⟩⟩, ⟨⟨trivial, ⟨fun e => e, trivial⟩⟩, ⟨trivial, ⟨fun eg => trivial, ⟨fun eg => ⟨fun e => e, trivial⟩, ⟨fun eg => ⟨fun e => e, ⟨trivial, trivial⟩⟩, ⟨fun eg => fun e => e, ⟨fun eg => trivial, ⟨fun eg => ⟨fun e => e, trivial⟩, ⟨fun eg => ⟨fun e => e, ⟨trivial, trivial⟩⟩, ⟨fun eg => ⟨fun e => e, ⟨((by decide : ∀ b0 b1 b2 : Bool, (!(bif b1 then b2 else false)) = true → b0 = true → ((!(bif b1 then b2 else false)) && b0) = true) _ _ _ eg), trivial⟩⟩, ⟨fun eg => fun e => e, ⟨fun eg => trivial, ⟨fun eg => ⟨fun e => e, trivial⟩, ⟨fun eg => ⟨fun e => e, ⟨trivial, trivial⟩⟩, ⟨fun eg => ⟨fun e => e, ⟨((by decide : ∀ b0 b1 b2 b3 : Bool, (!(bif b2 then b3 else false)) = true → (bif b0 then b1 else false) = true → ((!(bif b2 then b3 else false)) && (bif b0 then b1 else false)) = true) _ _ _ _ eg), trivial⟩⟩, ⟨fun eg => fun e => e, ⟨fun eg => trivial, ⟨fun eg => ⟨fun e => e, trivial⟩, ⟨fun eg => ⟨fun e => e, ⟨trivial, trivial⟩⟩, ⟨fun eg => ⟨fun e => e, ⟨((by decide : ∀ b0 b1 b2 b3 b4 : Bool, (!(bif b3 then b4 else false)) = true → (bif (bif b0 then b1 else false) then b2 else false) = true → ((!(bif b3 then b4 else false)) && (bif (bif b0 then b1 else false) then b2 else false)) = true) _ _ _ _ _ eg), trivial⟩⟩, ⟨⟨trivial, ⟨trivial, fun e => e⟩⟩, trivial⟩⟩⟩⟩⟩⟩⟩⟩⟩⟩⟩⟩⟩⟩⟩⟩⟩⟩⟩⟩⟩⟩⟩⟩⟩⟩⟩⟩ ?_
      refine TL_end ?_
      refine TE_go ?_
      refine TC_cond rfl (fun hb => ?_) (fun hb => ?_)
      · replace h0 := bif_t h0 hb
        refine TC_seq ?_
        refine TC_reg ?_
        refine TL_ev env 1 rfl ⟨trivial, trivial⟩ ?_
        refine TL_end ?_
        refine TE_go ?_
        refine TC_ret ?_
        refine tsr ?_
        obtain rfl := sinj h0
        exact TE_ret env rfl trivial trivial
      · replace h0 := bif_f h0 hb
        refine TC_skip ?_
        refine TE_go ?_
        refine TC_seq ?_
        refine TC_seq ?_
        refine TC_reg ?_
        refine TL_ev env 13 rfl ⟨trivial, ⟨⟨trivial, trivial⟩, ⟨⟨trivial, ⟨trivial, trivial⟩⟩, ⟨trivial, ⟨fun eg => trivial, ⟨fun eg => ⟨fun e => e, trivial⟩, ⟨fun eg => ⟨fun e => e, ⟨trivial, trivial⟩⟩, ⟨fun eg => fun e => e, ⟨fun eg => trivial, ⟨fun eg => ⟨fun e => e, trivial⟩, ⟨fun eg => ⟨fun e => e, ⟨trivial, trivial⟩⟩, ⟨fun eg => ⟨fun e => e, ⟨trivial, ((by decide : ∀ b0 b1 : Bool, b1 = true → (!b0) = true → (b1 && (!b0)) = true) _ _ eg)⟩⟩, ⟨⟨trivial, ⟨fun e => e, trivial⟩⟩, trivial⟩⟩⟩⟩⟩⟩⟩⟩⟩⟩⟩⟩⟩ ?_
        refine TL_end ?_
        refine TE_go ?_
        refine TC_cond rfl (fun hb => ?_) (fun hb => ?_)
        · replace h0 := bif_t h0 hb
          refine TC_seq ?_
          refine TC_reg ?_
          refine TL_ev env 1 rfl ⟨trivial, trivial⟩ ?_
          refine TL_end ?_
          refine TE_go ?_
          refine TC_ret ?_
          refine tsr ?_
          obtain rfl := sinj h0
          exact TE_ret env rfl trivial trivial
        · replace h0 := bif_f h0 hb
          refine TC_skip ?_
          refine TE_go ?_
          refine TC_seq ?_
          obtain ⟨z1, h1, h0⟩ := bnd h0
          refine TC_cut (α := Bool) (fun s => z1 = s) (fun s => [(2, .bool s)]) (fun s => []) ?_ ?_
          · refine TC_reg ?_
            refine TL_ev env 20 rfl ⟨trivial, ⟨⟨trivial, trivial⟩, ⟨⟨trivial, ⟨trivial, trivial⟩⟩, ⟨trivial, ⟨fun eg => trivial, ⟨fun eg => ⟨fun e => e, trivial⟩, ⟨fun eg => ⟨fun e => e, ⟨trivial, trivial⟩⟩, ⟨⟨trivial, ⟨fun e => e, trivial⟩⟩, ⟨trivial, ⟨fun eg => trivial, ⟨fun eg => ⟨fun e => e, trivial⟩, ⟨fun eg => trivial, ⟨fun eg => ⟨fun e => e, trivial⟩, ⟨fun eg => ⟨trivial, ⟨fun e => e, trivial⟩⟩, ⟨fun eg => trivial, ⟨fun eg => ⟨fun e => e, trivial⟩, ⟨fun eg => ⟨fun e => e, ⟨fun e => e, trivial⟩⟩, ⟨fun eg => ⟨fun e => e, ⟨fun e => e, trivial⟩⟩, ⟨⟨trivial, ⟨fun e => e, trivial⟩⟩, ⟨trivial, trivial⟩⟩⟩⟩⟩⟩⟩⟩⟩⟩⟩⟩⟩⟩⟩⟩⟩⟩⟩⟩ ?_
            refine TL_split 104 rfl (fun hb => ?_) (fun hb => ?_)
            · replace h1 := bif_t h1 hb
              refine TL_gt rfl rfl rfl rfl ?_
              refine TL_ev env 1 rfl ⟨⟨trivial, trivial⟩, trivial⟩ ?_
              refine TL_gt rfl rfl rfl rfl ?_
              obtain ⟨r32, hr, h1⟩ := bnd h1
              refine TL_callB [] (psalteryref11_Bits.ok0 hr) psalteryref11_Bits.fnb rfl ⟨trivial, ⟨trivial, trivial⟩⟩ rfl trivial rfl ?_
              refine TL_gt rfl rfl rfl rfl ?_
              refine TL_ev env 3 rfl ⟨⟨trivial, ⟨trivial, trivial⟩⟩, ⟨⟨trivial, ⟨trivial, trivial⟩⟩, ⟨trivial, trivial⟩⟩⟩ ?_
              refine TL_end ?_
              obtain rfl := sinj h1
              refine tsn ?_
              exact SP_ren [] _ rfl ⟨rfl, trivial⟩ trivial rfl
            · replace h1 := bif_f h1 hb
              refine TL_gf (.bool false) rfl rfl rfl rfl rfl (by decide) ?_
              refine TL_gf (.bool false) rfl rfl rfl rfl rfl (by decide) ?_
              refine TL_gf (.bool false) rfl rfl rfl rfl rfl (by decide) ?_
              refine TL_ev env 2 rfl ⟨⟨trivial, ⟨fun e => e, trivial⟩⟩, ⟨trivial, trivial⟩⟩ ?_
              refine TL_end ?_
              obtain rfl := sinj h1
              refine tsn ?_
              exact SP_ren [] _ rfl ⟨rfl, trivial⟩ trivial rfl
          · rintro x24 hz
            obtain rfl := hz.symm
            refine TE_go ?_
            refine TC_ret ?_
            obtain rfl := sinj h0
            exact TE_ret env rfl trivial trivial
theorem psalteryref11_Sub.ok0 {K : Nat} {p0 : Int} {p1 : Int} {p2 : Int} {p3 : Int} {p4 : Int} {p5 : Int} {p6 : Int} {p7 : Int} {p8 : Int} {p9 : Int} {q0 : Bool} (h0 : psalteryref11_Sub K p0 p1 p2 p3 p4 p5 p6 p7 p8 p9 = some q0) : Fn Try.prog 85 [.agg [.int .i64 p0, .int .i64 p1, .int .i64 p2, .int .i64 p3, .int .i64 p4, .int .i64 p5, .int .i64 p6, .int .i64 p7, .int .i64 p8, .int .i64 p9]] [] (.bool q0) [] := psalteryref11_Sub.ok h0
theorem psalteryref11_Sub.fnb : fnb Try.prog 85 = true := fnb_of Try.func85 rfl
def psalteryref09_May.res (_p0 : Int) : Bool → MV
  | q0 => .bool q0
def psalteryref09_May.out (_p0 : Int) : Bool → List (Nat × Option MObj)
  | _ => []
theorem psalteryref09_May.ok {K : Nat} {p0 : Int} {r : Bool} (h0 : psalteryref09_May K p0 = some r) : Fn Try.prog 127 [.int .i64 p0] [] (psalteryref09_May.res p0 r) (psalteryref09_May.out p0 r) := by
  refine Fn_of Try.func127 rfl (Nat.le_of_ble_eq_true rfl) fun Γ => ?_
  refine TC_seq ?_
  refine TC_reg ?_
  refine TL_ev env 1 rfl ⟨trivial, trivial⟩ ?_
  refine TL_end ?_
  refine TE_go ?_
  refine TC_seq ?_
  refine TC_reg ?_
  refine TL_ev env 15 rfl ⟨trivial, ⟨⟨trivial, ⟨trivial, trivial⟩⟩, ⟨trivial, ⟨fun eg => trivial, ⟨fun eg => ⟨fun e => e, ⟨trivial, trivial⟩⟩, ⟨⟨trivial, ⟨trivial, fun e => e⟩⟩, ⟨trivial, ⟨fun eg => trivial, ⟨fun eg => ⟨fun e => e, ⟨trivial, trivial⟩⟩, ⟨⟨trivial, ⟨trivial, fun e => e⟩⟩, ⟨trivial, ⟨fun eg => trivial, ⟨fun eg => ⟨fun e => e, ⟨trivial, trivial⟩⟩, ⟨⟨trivial, ⟨trivial, fun e => e⟩⟩, ⟨trivial, trivial⟩⟩⟩⟩⟩⟩⟩⟩⟩⟩⟩⟩⟩⟩⟩ ?_
  refine TL_end ?_
  refine TE_go ?_
  refine TC_ret ?_
  obtain rfl := sinj h0
  exact TE_ret env rfl trivial trivial
theorem psalteryref09_May.ok0 {K : Nat} {p0 : Int} {q0 : Bool} (h0 : psalteryref09_May K p0 = some q0) : Fn Try.prog 127 [.int .i64 p0] [] (.bool q0) [] := psalteryref09_May.ok h0
theorem psalteryref09_May.fnb : fnb Try.prog 127 = true := fnb_of Try.func127 rfl
def psalteryref11_Lap.res (_p0 : Int) (_p1 : Int) (_p2 : Int) (_p3 : Int) (_p4 : Int) (_p5 : Int) (_p6 : Int) (_p7 : Int) (_p8 : Int) (_p9 : Int) : Bool → MV
  | q0 => .bool q0
def psalteryref11_Lap.out (_p0 : Int) (_p1 : Int) (_p2 : Int) (_p3 : Int) (_p4 : Int) (_p5 : Int) (_p6 : Int) (_p7 : Int) (_p8 : Int) (_p9 : Int) : Bool → List (Nat × Option MObj)
  | _ => []
theorem psalteryref11_Lap.ok {K : Nat} {p0 : Int} {p1 : Int} {p2 : Int} {p3 : Int} {p4 : Int} {p5 : Int} {p6 : Int} {p7 : Int} {p8 : Int} {p9 : Int} {r : Bool} (h0 : psalteryref11_Lap K p0 p1 p2 p3 p4 p5 p6 p7 p8 p9 = some r) : Fn Try.prog 86 [.agg [.int .i64 p0, .int .i64 p1, .int .i64 p2, .int .i64 p3, .int .i64 p4, .int .i64 p5, .int .i64 p6, .int .i64 p7, .int .i64 p8, .int .i64 p9]] [] (psalteryref11_Lap.res p0 p1 p2 p3 p4 p5 p6 p7 p8 p9 r) (psalteryref11_Lap.out p0 p1 p2 p3 p4 p5 p6 p7 p8 p9 r) := by
  refine Fn_of Try.func86 rfl (Nat.le_of_ble_eq_true rfl) fun Γ => ?_
  refine TC_seq ?_
  refine TC_reg ?_
  refine TL_ev env 2 rfl ⟨trivial, ⟨trivial, trivial⟩⟩ ?_
  refine TL_end ?_
  refine TE_go ?_
  refine TC_seq ?_
  refine TC_reg ?_
  refine TL_ev env 3 rfl ⟨⟨trivial, trivial⟩, ⟨trivial, ⟨⟨trivial, trivial⟩, trivial⟩⟩⟩ ?_
  refine TL_end ?_
  refine TE_go ?_
  refine TC_seq ?_
  refine TC_reg ?_
  refine TL_ev env 2 rfl ⟨trivial, ⟨⟨trivial, trivial⟩, trivial⟩⟩ ?_
  refine TL_end ?_
  refine TE_go ?_
  refine TC_seq ?_
  refine TC_reg ?_
  refine TL_ev env 2 rfl ⟨trivial, ⟨⟨trivial, trivial⟩, trivial⟩⟩ ?_
  refine TL_end ?_
  refine TE_go ?_
  refine TC_seq ?_
  refine TC_reg ?_
  refine TL_ev env 2 rfl ⟨trivial, ⟨⟨trivial, trivial⟩, trivial⟩⟩ ?_
  refine TL_end ?_
  refine TE_go ?_
  refine TC_seq ?_
  refine TC_reg ?_
  refine TL_ev env 2 rfl ⟨trivial, ⟨⟨trivial, trivial⟩, trivial⟩⟩ ?_
  refine TL_end ?_
  refine TE_go ?_
  refine TC_seq ?_
  obtain ⟨z1, h1, h0⟩ := bnd h0
  refine TC_cut (α := Bool) (fun s => z1 = s) (fun s => [(2, .bool s)]) (fun s => []) ?_ ?_
  · refine TC_reg ?_
    refine TL_ev env 24 rfl ⟨⟨trivial, trivial⟩, ⟨⟨trivial, trivial⟩, ⟨⟨trivial, ⟨trivial, trivial⟩⟩, ⟨trivial, ⟨fun eg => trivial, ⟨fun eg => ⟨fun e => e, trivial⟩, ⟨fun eg => ⟨fun e => e, ⟨trivial, trivial⟩⟩, ⟨⟨trivial, ⟨fun e => e, trivial⟩⟩, ⟨trivial, ⟨fun eg => trivial, ⟨fun eg => ⟨fun e => e, trivial⟩, ⟨fun eg => ⟨fun e => e, ⟨trivial, trivial⟩⟩, ⟨⟨trivial, ⟨fun e => e, trivial⟩⟩, ⟨trivial, ⟨fun eg => trivial, ⟨fun eg => ⟨fun e => e, trivial⟩, ⟨fun eg => ⟨fun e => e, ⟨trivial, trivial⟩⟩, ⟨⟨trivial, ⟨fun e => e, trivial⟩⟩, ⟨trivial, ⟨fun eg => trivial, ⟨fun eg => ⟨fun e => e, trivial⟩, ⟨fun eg => ⟨fun e => e, ⟨trivial, trivial⟩⟩, ⟨⟨trivial, ⟨fun e => e, trivial⟩⟩, ⟨trivial, trivial⟩⟩⟩⟩⟩⟩⟩⟩⟩⟩⟩⟩⟩⟩⟩⟩⟩⟩⟩⟩⟩⟩⟩⟩ ?_
    refine TL_split 32 rfl (fun hb => ?_) (fun hb => ?_)
    · replace h1 := bif_t h1 hb
      refine TL_gt rfl rfl rfl rfl ?_
      refine TL_ev env 1 rfl ⟨trivial, trivial⟩ ?_
      refine TL_gt rfl rfl rfl rfl ?_
      refine TL_ev env 1 rfl ⟨⟨trivial, trivial⟩, trivial⟩ ?_
      refine TL_gt rfl rfl rfl rfl ?_
      obtain ⟨r14, hr, h1⟩ := bnd h1
      refine TL_callB [] (psalteryref09_May.ok0 hr) psalteryref09_May.fnb rfl ⟨trivial, ⟨trivial, trivial⟩⟩ rfl trivial rfl ?_
      refine TL_ev env 12 rfl ⟨⟨trivial, ⟨trivial, trivial⟩⟩, ⟨trivial, ⟨fun eg => trivial, ⟨fun eg => ⟨fun e => e, trivial⟩, ⟨fun eg => ⟨fun e => e, ⟨trivial, trivial⟩⟩, ⟨⟨trivial, ⟨fun e => e, trivial⟩⟩, ⟨trivial, ⟨fun eg => trivial, ⟨fun eg => ⟨fun e => e, trivial⟩, ⟨fun eg => ⟨fun e => e, ⟨trivial, trivial⟩⟩, ⟨⟨trivial, ⟨fun e => e, trivial⟩⟩, ⟨trivial, trivial⟩⟩⟩⟩⟩⟩⟩⟩⟩⟩⟩⟩ ?_
      refine TL_end ?_
      obtain rfl := sinj h1
      refine tsn ?_
      exact SP_ren [] _ rfl ⟨rfl, trivial⟩ trivial rfl
    · replace h1 := bif_f h1 hb
      refine TL_gf (.bool false) rfl rfl rfl rfl rfl (by decide) ?_
      refine TL_gf (.bool false) rfl rfl rfl rfl rfl (by decide) ?_
      refine TL_gf (.bool false) rfl rfl rfl rfl rfl (by decide) ?_
      refine TL_ev env 2 rfl ⟨⟨trivial, ⟨fun e => e, trivial⟩⟩, ⟨trivial, trivial⟩⟩ ?_
      refine TL_gf (.bool false) rfl rfl rfl rfl rfl (by decide) ?_
      refine TL_gf (.bool false) rfl rfl rfl rfl rfl (by decide) ?_
      refine TL_gf (.bool false) rfl rfl rfl rfl rfl (by decide) ?_
      refine TL_ev env 2 rfl ⟨⟨trivial, ⟨fun e => e, trivial⟩⟩, ⟨trivial, trivial⟩⟩ ?_
      refine TL_gf (.bool false) rfl rfl rfl rfl rfl (by decide) ?_
      refine TL_gf (.bool false) rfl rfl rfl rfl rfl (by decide) ?_
      refine TL_gf (.bool false) rfl rfl rfl rfl rfl (by decide) ?_
      refine TL_ev env 2 rfl ⟨⟨trivial, ⟨fun e => e, trivial⟩⟩, ⟨trivial, trivial⟩⟩ ?_
      refine TL_end ?_
      obtain rfl := sinj h1
      refine tsn ?_
      exact SP_ren [] _ rfl ⟨rfl, trivial⟩ trivial rfl
  · rintro x4 hz
    obtain rfl := hz.symm
    refine TE_go ?_
    refine TC_ret ?_
    obtain rfl := sinj h0
    exact TE_ret env rfl trivial trivial
theorem psalteryref11_Lap.ok0 {K : Nat} {p0 : Int} {p1 : Int} {p2 : Int} {p3 : Int} {p4 : Int} {p5 : Int} {p6 : Int} {p7 : Int} {p8 : Int} {p9 : Int} {q0 : Bool} (h0 : psalteryref11_Lap K p0 p1 p2 p3 p4 p5 p6 p7 p8 p9 = some q0) : Fn Try.prog 86 [.agg [.int .i64 p0, .int .i64 p1, .int .i64 p2, .int .i64 p3, .int .i64 p4, .int .i64 p5, .int .i64 p6, .int .i64 p7, .int .i64 p8, .int .i64 p9]] [] (.bool q0) [] := psalteryref11_Lap.ok h0
theorem psalteryref11_Lap.fnb : fnb Try.prog 86 = true := fnb_of Try.func86 rfl
def psalteryref11_Check.res (_p0 : Int) (_p1 : Int) (_p2 : Int) (_p3 : Int) (_p4 : Int) (_p5 : Int) (_p6 : Int) (_p7 : Int) (_p8 : Int) (_p9 : Int) : Bool → MV
  | q0 => .bool q0
def psalteryref11_Check.out (_p0 : Int) (_p1 : Int) (_p2 : Int) (_p3 : Int) (_p4 : Int) (_p5 : Int) (_p6 : Int) (_p7 : Int) (_p8 : Int) (_p9 : Int) : Bool → List (Nat × Option MObj)
  | _ => []
theorem psalteryref11_Check.ok {K : Nat} {p0 : Int} {p1 : Int} {p2 : Int} {p3 : Int} {p4 : Int} {p5 : Int} {p6 : Int} {p7 : Int} {p8 : Int} {p9 : Int} {r : Bool} (h0 : psalteryref11_Check K p0 p1 p2 p3 p4 p5 p6 p7 p8 p9 = some r) : Fn Try.prog 32 [.agg [.int .i64 p0, .int .i64 p1, .int .i64 p2, .int .i64 p3, .int .i64 p4, .int .i64 p5, .int .i64 p6, .int .i64 p7, .int .i64 p8, .int .i64 p9]] [] (psalteryref11_Check.res p0 p1 p2 p3 p4 p5 p6 p7 p8 p9 r) (psalteryref11_Check.out p0 p1 p2 p3 p4 p5 p6 p7 p8 p9 r) := by
  refine Fn_of Try.func32 rfl (Nat.le_of_ble_eq_true rfl) fun Γ => ?_
  refine TC_seq ?_
  refine TC_reg ?_
  refine TL_ev env 2 rfl ⟨trivial, ⟨trivial, trivial⟩⟩ ?_
  refine TL_end ?_
  refine TE_go ?_
  refine TC_seq ?_
  obtain ⟨z1, h1, h0⟩ := bnd h0
  refine TC_cut (α := Bool) (fun s => z1 = s) (fun s => [(2, .bool s)]) (fun s => []) ?_ ?_
  · refine TC_reg ?_
    refine TL_ev env 1 rfl ⟨⟨trivial, trivial⟩, trivial⟩ ?_
    obtain ⟨r7, hr, h1⟩ := bnd h1
    refine TL_callB [] (psalteryref11_Sub.ok0 hr) psalteryref11_Sub.fnb rfl ⟨trivial, ⟨trivial, trivial⟩⟩ rfl trivial rfl ?_
    refine TL_ev env 1 rfl ⟨trivial, trivial⟩ ?_
    refine TL_split 5 rfl (fun hb => ?_) (fun hb => ?_)
    · replace h1 := bif_t h1 hb
      refine TL_gf (.bool false) rfl rfl rfl rfl rfl (by decide) ?_
      refine TL_gf (.bool false) rfl rfl rfl rfl rfl (by decide) ?_
      refine TL_ev env 2 rfl ⟨⟨trivial, ⟨trivial, fun e => e⟩⟩, ⟨trivial, trivial⟩⟩ ?_
      refine TL_end ?_
      obtain rfl := sinj h1
      refine tsn ?_
      exact SP_ren [] _ rfl ⟨rfl, trivial⟩ trivial rfl
    · replace h1 := bif_f h1 hb
      refine TL_gt rfl rfl rfl rfl ?_
      refine TL_ev env 1 rfl ⟨⟨trivial, trivial⟩, trivial⟩ ?_
      refine TL_gt rfl rfl rfl rfl ?_
      obtain ⟨r8, hr, h1⟩ := bnd h1
      refine TL_callB [] (psalteryref11_Lap.ok0 hr) psalteryref11_Lap.fnb rfl ⟨trivial, ⟨trivial, trivial⟩⟩ rfl trivial rfl ?_
      refine TL_ev env 2 rfl ⟨⟨trivial, ⟨trivial, trivial⟩⟩, ⟨trivial, trivial⟩⟩ ?_
      refine TL_end ?_
      obtain rfl := sinj h1
      refine tsn ?_
      exact SP_ren [] _ rfl ⟨rfl, trivial⟩ trivial rfl
  · rintro x6 hz
    obtain rfl := hz.symm
    refine TE_go ?_
    refine TC_ret ?_
    obtain rfl := sinj h0
    exact TE_ret env rfl trivial trivial
theorem psalteryref11_Check.ok0 {K : Nat} {p0 : Int} {p1 : Int} {p2 : Int} {p3 : Int} {p4 : Int} {p5 : Int} {p6 : Int} {p7 : Int} {p8 : Int} {p9 : Int} {q0 : Bool} (h0 : psalteryref11_Check K p0 p1 p2 p3 p4 p5 p6 p7 p8 p9 = some q0) : Fn Try.prog 32 [.agg [.int .i64 p0, .int .i64 p1, .int .i64 p2, .int .i64 p3, .int .i64 p4, .int .i64 p5, .int .i64 p6, .int .i64 p7, .int .i64 p8, .int .i64 p9]] [] (.bool q0) [] := psalteryref11_Check.ok h0
theorem psalteryref11_Check.fnb : fnb Try.prog 32 = true := fnb_of Try.func32 rfl
def psalteryref23_has.res (_p0 : Int) (_p1 : Int) : Bool → MV
  | q0 => .bool q0
def psalteryref23_has.out (_p0 : Int) (_p1 : Int) : Bool → List (Nat × Option MObj)
  | _ => []
theorem psalteryref23_has.ok {K : Nat} {p0 : Int} {p1 : Int} {r : Bool} (h0 : psalteryref23_has K p0 p1 = some r) : Fn Try.prog 99 [.int .i64 p0, .int .i64 p1] [] (psalteryref23_has.res p0 p1 r) (psalteryref23_has.out p0 p1 r) := by
  refine Fn_of Try.func99 rfl (Nat.le_of_ble_eq_true rfl) fun Γ => ?_
  refine TC_seq ?_
  refine TC_reg ?_
  refine TL_ev env 1 rfl ⟨trivial, trivial⟩ ?_
  refine TL_end ?_
  refine TE_go ?_
  refine TC_seq ?_
  refine TC_seq ?_
  refine TC_reg ?_
  refine TL_ev env 1 rfl ⟨trivial, trivial⟩ ?_
  refine TL_end ?_
  refine TE_go ?_
  obtain ⟨z1, h1, h0⟩ := bnd h0
  refine TC_cut (α := Int) (fun s => z1 = s) (fun s => [(0, .int .i64 s)]) (fun s => []) ?_ ?_
  · refine TC_blk ?_
    refine TC_loop (α := Int × Int) (fun n s => psalteryref23_has.l0 K p1 n s.1 s.2 = some z1) (fun s => [(0, .int .i64 s.1), (1, .int .i64 p1), (5, .int .i64 s.2)]) (fun s => []) K ?_ ?_
    · exact SP_ren [] (_, _) h1 ⟨rfl, rfl, rfl, trivial⟩ trivial rfl
    rintro n ⟨x12, x13⟩ h1
    rcases n with _ | n
    · exact (nsome h1).elim
    replace h1 : psalteryref23_has.r0 K p1 (psalteryref23_has.l0 K p1 n) x12 x13 = some z1 := h1
    refine TC_seq ?_
    refine TC_seq ?_
    refine TC_reg ?_
    refine TL_ev env 3 rfl ⟨trivial, ⟨trivial, ⟨⟨trivial, ⟨trivial, trivial⟩⟩, trivial⟩⟩⟩ ?_
    refine TL_end ?_
    refine TE_go ?_
    refine TC_cond rfl (fun hb => ?_) (fun hb => ?_)
    · replace h1 := bif_t h1 hb
      refine TC_skip ?_
      refine TE_go ?_
      refine TC_seq ?_
      refine TC_blk ?_
      refine TC_reg ?_
      refine TL_ev env 3 rfl ⟨trivial, ⟨⟨trivial, ⟨trivial, (by decide)⟩⟩, ⟨trivial, trivial⟩⟩⟩ ?_
      refine TL_end ?_
      refine tbn ?_
      refine TE_go ?_
      refine TC_reg ?_
      refine TL_ev env 3 rfl ⟨trivial, ⟨⟨trivial, ⟨trivial, trivial⟩⟩, ⟨trivial, trivial⟩⟩⟩ ?_
      refine TL_end ?_
      refine tsn ?_
      exact TE_nextr [] n (Nat.lt_succ_self n) (_, _) h1 ⟨rfl, rfl, rfl, trivial⟩ trivial rfl
    · replace h1 := bif_f h1 hb
      refine TC_exit ?_
      refine tsx ?_
      refine tsx ?_
      refine tbe ?_
      obtain rfl := sinj h1
      refine tsn ?_
      exact SP_ren [] _ rfl ⟨rfl, trivial⟩ trivial rfl
  · rintro x10 hz
    obtain rfl := hz.symm
    refine TE_go ?_
    refine TC_seq ?_
    refine TC_reg ?_
    refine TL_ev env 4 rfl ⟨trivial, ⟨⟨trivial, ⟨trivial, (by decide)⟩⟩, ⟨⟨trivial, ⟨trivial, trivial⟩⟩, ⟨trivial, trivial⟩⟩⟩⟩ ?_
    refine TL_end ?_
    refine TE_go ?_
    refine TC_ret ?_
    obtain rfl := sinj h0
    exact TE_ret env rfl trivial trivial
theorem psalteryref23_has.ok0 {K : Nat} {p0 : Int} {p1 : Int} {q0 : Bool} (h0 : psalteryref23_has K p0 p1 = some q0) : Fn Try.prog 99 [.int .i64 p0, .int .i64 p1] [] (.bool q0) [] := psalteryref23_has.ok h0
theorem psalteryref23_has.fnb : fnb Try.prog 99 = true := fnb_of Try.func99 rfl
def psalteryref23_Allows.res (_p0 : Int) (_p1 : Int) (_p2 : Int) (_p3 : Int) (_p4 : Int) (_p5 : Int) (_p6 : Int) (_p7 : Int) (_p8 : Int) (_p9 : Int) (_p10 : Int) (_p11 : Int) (_p12 : Int) (_p13 : Int) (_p14 : Int) (_p15 : Int) (_p16 : Int) (_p17 : Int) (_p18 : Int) (_p19 : Int) (_p20 : Int) (_p21 : Int) (_p22 : Int) (_p23 : Int) (_p24 : Int) (_p25 : Int) (_p26 : Int) : Bool → MV
  | q0 => .bool q0
def psalteryref23_Allows.out (_p0 : Int) (_p1 : Int) (_p2 : Int) (_p3 : Int) (_p4 : Int) (_p5 : Int) (_p6 : Int) (_p7 : Int) (_p8 : Int) (_p9 : Int) (_p10 : Int) (_p11 : Int) (_p12 : Int) (_p13 : Int) (_p14 : Int) (_p15 : Int) (_p16 : Int) (_p17 : Int) (_p18 : Int) (_p19 : Int) (_p20 : Int) (_p21 : Int) (_p22 : Int) (_p23 : Int) (_p24 : Int) (_p25 : Int) (_p26 : Int) : Bool → List (Nat × Option MObj)
  | _ => []
theorem psalteryref23_Allows.ok {K : Nat} {p0 : Int} {p1 : Int} {p2 : Int} {p3 : Int} {p4 : Int} {p5 : Int} {p6 : Int} {p7 : Int} {p8 : Int} {p9 : Int} {p10 : Int} {p11 : Int} {p12 : Int} {p13 : Int} {p14 : Int} {p15 : Int} {p16 : Int} {p17 : Int} {p18 : Int} {p19 : Int} {p20 : Int} {p21 : Int} {p22 : Int} {p23 : Int} {p24 : Int} {p25 : Int} {p26 : Int} {r : Bool} (h0 : psalteryref23_Allows K p0 p1 p2 p3 p4 p5 p6 p7 p8 p9 p10 p11 p12 p13 p14 p15 p16 p17 p18 p19 p20 p21 p22 p23 p24 p25 p26 = some r) : Fn Try.prog 48 [.agg [.int .i64 p0, .int .i64 p1, .int .i64 p2, .int .i64 p3, .int .i64 p4, .int .i64 p5, .int .i64 p6, .int .i64 p7, .int .i64 p8, .int .i64 p9, .int .i64 p10, .int .i64 p11, .int .i64 p12, .int .i64 p13, .int .i64 p14], .agg [.int .i64 p15, .int .i64 p16, .int .i64 p17, .int .i64 p18, .int .i64 p19, .int .i64 p20, .int .i64 p21, .int .i64 p22, .int .i64 p23, .int .i64 p24], .agg [.int .i64 p25, .int .i64 p26]] [] (psalteryref23_Allows.res p0 p1 p2 p3 p4 p5 p6 p7 p8 p9 p10 p11 p12 p13 p14 p15 p16 p17 p18 p19 p20 p21 p22 p23 p24 p25 p26 r) (psalteryref23_Allows.out p0 p1 p2 p3 p4 p5 p6 p7 p8 p9 p10 p11 p12 p13 p14 p15 p16 p17 p18 p19 p20 p21 p22 p23 p24 p25 p26 r) := by
  refine Fn_of Try.func48 rfl (Nat.le_of_ble_eq_true rfl) fun Γ => ?_
  refine TC_seq ?_
  refine TC_reg ?_
  refine TL_ev env 4 rfl ⟨trivial, ⟨trivial, ⟨trivial, ⟨trivial, trivial⟩⟩⟩⟩ ?_
  refine TL_end ?_
  refine TE_go ?_
  refine TC_seq ?_
  refine TC_seq ?_
  obtain ⟨z1, h1, h0⟩ := bnd h0
  refine TC_cut (α := Bool) (fun s => z1 = s) (fun s => [(3, .p 10800 0), (4, .p 10801 0), (42, .bool s)]) (fun s => [(10800, some (.cells [.int .i64 p0, .int .i64 p1, .int .i64 p2, .int .i64 p3, .int .i64 p4, .int .i64 p5, .int .i64 p6, .int .i64 p7, .int .i64 p8, .int .i64 p9, .int .i64 p10, .int .i64 p11, .int .i64 p12, .int .i64 p13, .int .i64 p14])), (10801, some (.cells [.int .i64 p15, .int .i64 p16, .int .i64 p17, .int .i64 p18, .int .i64 p19, .int .i64 p20, .int .i64 p21, .int .i64 p22, .int .i64 p23, .int .i64 p24]))]) ?_ ?_
  · refine TC_reg ?_
    refine TL_ev env 1 rfl ⟨⟨trivial, trivial⟩, trivial⟩ ?_
    obtain ⟨r70, hr, h1⟩ := bnd h1
    refine TL_callB [] (psalteryref23_Check.ok0 hr) psalteryref23_Check.fnb rfl ⟨trivial, ⟨trivial, trivial⟩⟩ rfl trivial rfl ?_
    refine TL_ev env 2 rfl ⟨trivial, ⟨trivial, trivial⟩⟩ ?_
    refine TL_split 14 rfl (fun hb => ?_) (fun hb => ?_)
    · replace h1 := bif_t h1 hb
      refine TL_gf (.bool false) rfl rfl rfl rfl rfl (by decide) ?_
      refine TL_gf (.bool false) rfl rfl rfl rfl rfl (by decide) ?_
      refine TL_gf (.bool false) rfl rfl rfl rfl rfl (by decide) ?_
      refine TL_ev env 2 rfl ⟨⟨trivial, ⟨trivial, fun e => e⟩⟩, ⟨trivial, trivial⟩⟩ ?_
      refine TL_gf (.bool false) rfl rfl rfl rfl rfl (by decide) ?_
      refine TL_gf (.bool false) rfl rfl rfl rfl rfl (by decide) ?_
      refine TL_gf (.bool false) rfl rfl rfl rfl rfl (by decide) ?_
      refine TL_ev env 2 rfl ⟨⟨trivial, ⟨trivial, fun e => e⟩⟩, ⟨trivial, trivial⟩⟩ ?_
      refine TL_gf (.bool false) rfl rfl rfl rfl rfl (by decide) ?_
      refine TL_gf (.bool false) rfl rfl rfl rfl rfl (by decide) ?_
      refine TL_gf (.bool false) rfl rfl rfl rfl rfl (by decide) ?_
      refine TL_gf (.bool false) rfl rfl rfl rfl rfl (by decide) ?_
      refine TL_gf (.bool false) rfl rfl rfl rfl rfl (by decide) ?_
      refine TL_ev env 2 rfl ⟨⟨trivial, ⟨trivial, fun e => e⟩⟩, ⟨trivial, trivial⟩⟩ ?_
      refine TL_gf (.bool false) rfl rfl rfl rfl rfl (by decide) ?_
      refine TL_gf (.bool false) rfl rfl rfl rfl rfl (by decide) ?_
      refine TL_gf (.bool false) rfl rfl rfl rfl rfl (by decide) ?_
      refine TL_ev env 2 rfl ⟨⟨trivial, ⟨trivial, fun e => e⟩⟩, ⟨trivial, trivial⟩⟩ ?_
      refine TL_gf (.bool false) rfl rfl rfl rfl rfl (by decide) ?_
      refine TL_gf (.bool false) rfl rfl rfl rfl rfl (by decide) ?_
      refine TL_gf (.bool false) rfl rfl rfl rfl rfl (by decide) ?_
      refine TL_gf (.bool false) rfl rfl rfl rfl rfl (by decide) ?_
      refine TL_gf (.bool false) rfl rfl rfl rfl rfl (by decide) ?_
      refine TL_ev env 1 rfl ⟨⟨trivial, ⟨trivial, fun e => e⟩⟩, trivial⟩ ?_
      refine TL_end ?_
      obtain rfl := sinj h1
      refine tsn ?_
      exact SP_ren [(10800, 1003), (10801, 1004)] _ rfl ⟨rfl, rfl, rfl, trivial⟩ ⟨rfl, rfl, trivial⟩ rfl
    · replace h1 := bif_f h1 hb
      refine TL_gt rfl rfl rfl rfl ?_
      refine TL_ev env 1 rfl ⟨⟨trivial, trivial⟩, trivial⟩ ?_
      refine TL_gt rfl rfl rfl rfl ?_
      obtain ⟨r71, hr, h1⟩ := bnd h1
      refine TL_callB [] (psalteryref11_Check.ok0 hr) psalteryref11_Check.fnb rfl ⟨trivial, ⟨trivial, trivial⟩⟩ rfl trivial rfl ?_
      refine TL_gt rfl rfl rfl rfl ?_
      refine TL_ev env 26 rfl ⟨trivial, ⟨⟨trivial, ⟨trivial, trivial⟩⟩, ⟨trivial, ⟨fun eg => trivial, ⟨fun eg => ⟨fun e => e, trivial⟩, ⟨fun eg => ⟨fun e => e, ⟨trivial, trivial⟩⟩, ⟨⟨trivial, ⟨trivial, fun e => e⟩⟩, ⟨trivial, ⟨fun eg => trivial, ⟨fun eg => ⟨fun e => e, trivial⟩, ⟨fun eg => trivial, ⟨fun eg => ⟨fun e => e, trivial⟩, ⟨fun eg => ⟨fun e => e, ⟨fun e => e, trivial⟩⟩, ⟨⟨trivial, ⟨trivial, fun e => e⟩⟩, ⟨trivial, ⟨fun eg => trivial, ⟨fun eg => ⟨fun e => e, trivial⟩, ⟨fun eg => ⟨fun e => e, ⟨trivial, trivial⟩⟩, ⟨⟨trivial, ⟨trivial, fun e => e⟩⟩, ⟨trivial, ⟨fun eg => trivial, ⟨fun eg => ⟨fun e => e, trivial⟩, ⟨fun eg => trivial, ⟨fun eg => ⟨fun e => e, trivial⟩, ⟨fun eg => ⟨fun e => e, ⟨fun e => e, trivial⟩⟩, ⟨⟨trivial, ⟨trivial, fun e => e⟩⟩, trivial⟩⟩⟩⟩⟩⟩⟩⟩⟩⟩⟩⟩⟩⟩⟩⟩⟩⟩⟩⟩⟩⟩⟩⟩⟩⟩ ?_
      refine TL_end ?_
      obtain rfl := sinj h1
      refine tsn ?_
      exact SP_ren [(10800, 1003), (10801, 1004)] _ rfl ⟨rfl, rfl, rfl, trivial⟩ ⟨rfl, rfl, trivial⟩ rfl
  · rintro x27 hz
    obtain rfl := hz.symm
    refine TE_go ?_
    refine TC_cond rfl (fun hb => ?_) (fun hb => ?_)
    · replace h0 := bif_t h0 hb
      refine TC_seq ?_
      refine TC_reg ?_
      refine TL_ev env 1 rfl ⟨trivial, trivial⟩ ?_
      refine TL_end ?_
      refine TE_go ?_
      refine TC_ret ?_
      refine tsr ?_
      obtain rfl := sinj h0
      exact TE_ret env rfl trivial trivial
    · replace h0 := bif_f h0 hb
      refine TC_skip ?_
      refine TE_go ?_
      refine TC_seq ?_
      refine TC_seq ?_
      refine TC_reg ?_
      refine TL_ev env 3 rfl ⟨trivial, ⟨⟨trivial, trivial⟩, ⟨⟨trivial, ⟨trivial, trivial⟩⟩, trivial⟩⟩⟩ ?_
      refine TL_end ?_
      refine TE_go ?_
      refine TC_cond rfl (fun hb => ?_) (fun hb => ?_)
      · replace h0 := bif_t h0 hb
        refine TC_seq ?_
        refine TC_reg ?_
        refine TL_ev env 4 rfl ⟨trivial, ⟨⟨trivial, trivial⟩, ⟨trivial, ⟨⟨trivial, trivial⟩, trivial⟩⟩⟩⟩ ?_
        refine TL_end ?_
        refine TE_go ?_
        refine TC_seq ?_
        refine TC_reg ?_
        refine TL_ev env 1 rfl ⟨trivial, trivial⟩ ?_
        refine TL_end ?_
        refine TE_go ?_
        refine TC_seq ?_
        refine TC_seq ?_
        refine TC_reg ?_
        refine TL_ev env 3 rfl ⟨trivial, ⟨⟨trivial, trivial⟩, ⟨⟨trivial, ⟨trivial, trivial⟩⟩, trivial⟩⟩⟩ ?_
        refine TL_end ?_
        refine TE_go ?_
        obtain ⟨z1, h1, h0⟩ := bnd h0
        refine TC_cut (α := Int) (fun s => z1 = s) (fun s => [(4, .p 11100 0), (7, .p 11101 0), (8, .int .i64 s)]) (fun s => [(11100, some (.cells [.int .i64 p15, .int .i64 p16, .int .i64 p17, .int .i64 p18, .int .i64 p19, .int .i64 p20, .int .i64 p21, .int .i64 p22, .int .i64 p23, .int .i64 p24])), (11101, some (.cells [.int .i64 p0, .int .i64 p1, .int .i64 p2, .int .i64 p3, .int .i64 p4, .int .i64 p5, .int .i64 p6, .int .i64 p7]))]) ?_ ?_
        · refine TC_cond rfl (fun hb => ?_) (fun hb => ?_)
          · replace h1 := bif_t h1 hb
            refine TC_reg ?_
            refine TL_ev env 1 rfl ⟨trivial, trivial⟩ ?_
            refine TL_end ?_
            obtain rfl := sinj h1
            refine tsn ?_
            exact SP_ren [(11100, 10801), (11101, 1007)] _ rfl ⟨rfl, rfl, rfl, trivial⟩ ⟨rfl, rfl, trivial⟩ rfl
          · replace h1 := bif_f h1 hb
            refine TC_skip ?_
            obtain rfl := sinj h1
            refine tsn ?_
            exact SP_ren [(11100, 10801), (11101, 1007)] _ rfl ⟨rfl, rfl, rfl, trivial⟩ ⟨rfl, rfl, trivial⟩ rfl
        · rintro x36 hz
          obtain rfl := hz.symm
          refine TE_go ?_
          refine TC_seq ?_
          obtain ⟨z1, h1, h0⟩ := bnd h0
          refine TC_cut (α := Bool) (fun s => z1 = s) (fun s => [(6, .bool s)]) (fun s => []) ?_ ?_
          · refine TC_reg ?_
            refine TL_ev env 4 rfl ⟨trivial, ⟨⟨trivial, trivial⟩, ⟨trivial, ⟨⟨trivial, trivial⟩, trivial⟩⟩⟩⟩ ?_
            obtain ⟨r44, hr, h1⟩ := bnd h1
            refine TL_callB [] (psalteryref23_has.ok0 hr) psalteryref23_has.fnb rfl ⟨trivial, ⟨trivial, ⟨trivial, trivial⟩⟩⟩ rfl trivial rfl ?_
            refine TL_ev env 1 rfl ⟨trivial, trivial⟩ ?_
            refine TL_split 56 rfl (fun hb => ?_) (fun hb => ?_)
            · replace h1 := bif_t h1 hb
              refine TL_gt rfl rfl rfl rfl ?_
              refine TL_ev env 1 rfl ⟨trivial, trivial⟩ ?_
              refine TL_gt rfl rfl rfl rfl ?_
              refine TL_ev env 1 rfl ⟨⟨trivial, trivial⟩, trivial⟩ ?_
              refine TL_gt rfl rfl rfl rfl ?_
              refine TL_ev env 1 rfl ⟨trivial, trivial⟩ ?_
              refine TL_gt rfl rfl rfl rfl ?_
              refine TL_ev env 1 rfl ⟨⟨trivial, trivial⟩, trivial⟩ ?_
              refine TL_gt rfl rfl rfl rfl ?_
              refine TL_ev env 1 rfl ⟨⟨trivial, ⟨trivial, trivial⟩⟩, trivial⟩ ?_
              refine TL_gt rfl rfl rfl rfl ?_
              obtain ⟨r46, hr, h1⟩ := bnd h1
              refine TL_callB [] (psalteryref23_has.ok0 hr) psalteryref23_has.fnb rfl ⟨trivial, ⟨trivial, ⟨trivial, trivial⟩⟩⟩ rfl trivial rfl ?_
              refine TL_ev env 2 rfl ⟨⟨trivial, ⟨trivial, trivial⟩⟩, ⟨trivial, trivial⟩⟩ ?_
              refine TL_split 64 rfl (fun hb => ?_) (fun hb => ?_)
              · replace h1 := bif_t h1 hb
                refine TL_gt rfl rfl rfl rfl ?_
                refine TL_ev env 1 rfl ⟨trivial, trivial⟩ ?_
                refine TL_gt rfl rfl rfl rfl ?_
                refine TL_ev env 1 rfl ⟨⟨trivial, trivial⟩, trivial⟩ ?_
                refine TL_gt rfl rfl rfl rfl ?_
                refine TL_ev env 1 rfl ⟨trivial, trivial⟩ ?_
                refine TL_gt rfl rfl rfl rfl ?_
                obtain ⟨r47, hr, h1⟩ := bnd h1
                refine TL_callB [] (psalteryref23_has.ok0 hr) psalteryref23_has.fnb rfl ⟨trivial, ⟨trivial, ⟨trivial, trivial⟩⟩⟩ rfl trivial rfl ?_
                refine TL_ev env 2 rfl ⟨⟨trivial, ⟨trivial, trivial⟩⟩, ⟨trivial, trivial⟩⟩ ?_
                refine TL_split 70 rfl (fun hb => ?_) (fun hb => ?_)
                · replace h1 := bif_t h1 hb
                  refine TL_gt rfl rfl rfl rfl ?_
                  refine TL_ev env 1 rfl ⟨trivial, trivial⟩ ?_
                  refine TL_gt rfl rfl rfl rfl ?_
                  refine TL_ev env 1 rfl ⟨⟨trivial, trivial⟩, trivial⟩ ?_
                  refine TL_gt rfl rfl rfl rfl ?_
                  refine TL_ev env 1 rfl ⟨trivial, trivial⟩ ?_
                  refine TL_gt rfl rfl rfl rfl ?_
                  refine TL_ev env 1 rfl ⟨⟨trivial, trivial⟩, trivial⟩ ?_
                  refine TL_gt rfl rfl rfl rfl ?_
                  refine TL_ev env 1 rfl ⟨⟨trivial, ⟨trivial, (by decide)⟩⟩, trivial⟩ ?_
                  refine TL_gt rfl rfl rfl rfl ?_
                  refine TL_ev env 1 rfl ⟨⟨trivial, ⟨trivial, trivial⟩⟩, trivial⟩ ?_
                  refine TL_gt rfl rfl rfl rfl ?_
                  obtain ⟨r50, hr, h1⟩ := bnd h1
                  refine TL_callB [] (psalteryref23_has.ok0 hr) psalteryref23_has.fnb rfl ⟨trivial, ⟨trivial, ⟨trivial, trivial⟩⟩⟩ rfl trivial rfl ?_
                  refine TL_ev env 2 rfl ⟨⟨trivial, ⟨trivial, trivial⟩⟩, ⟨trivial, trivial⟩⟩ ?_
                  refine TL_split 79 rfl (fun hb => ?_) (fun hb => ?_)
                  · replace h1 := bif_t h1 hb
                    refine TL_gt rfl rfl rfl rfl ?_
                    refine TL_ev env 1 rfl ⟨trivial, trivial⟩ ?_
                    refine TL_gt rfl rfl rfl rfl ?_
                    refine TL_ev env 1 rfl ⟨⟨trivial, trivial⟩, trivial⟩ ?_
                    refine TL_gt rfl rfl rfl rfl ?_
                    refine TL_ev env 1 rfl ⟨trivial, trivial⟩ ?_
                    refine TL_gt rfl rfl rfl rfl ?_
                    refine TL_ev env 1 rfl ⟨⟨trivial, trivial⟩, trivial⟩ ?_
                    refine TL_gt rfl rfl rfl rfl ?_
                    obtain ⟨r51, hr, h1⟩ := bnd h1
                    refine TL_callB [] (psalteryref23_has.ok0 hr) psalteryref23_has.fnb rfl ⟨trivial, ⟨trivial, ⟨trivial, trivial⟩⟩⟩ rfl trivial rfl ?_
                    refine TL_ev env 2 rfl ⟨⟨trivial, ⟨trivial, trivial⟩⟩, ⟨trivial, trivial⟩⟩ ?_
                    refine TL_split 86 rfl (fun hb => ?_) (fun hb => ?_)
                    · replace h1 := bif_t h1 hb
                      refine TL_gt rfl rfl rfl rfl ?_
                      refine TL_ev env 1 rfl ⟨trivial, trivial⟩ ?_
                      refine TL_gt rfl rfl rfl rfl ?_
                      refine TL_ev env 1 rfl ⟨⟨trivial, trivial⟩, trivial⟩ ?_
                      refine TL_gt rfl rfl rfl rfl ?_
                      refine TL_ev env 1 rfl ⟨trivial, trivial⟩ ?_
                      refine TL_gt rfl rfl rfl rfl ?_
                      refine TL_ev env 1 rfl ⟨⟨trivial, trivial⟩, trivial⟩ ?_
                      refine TL_gt rfl rfl rfl rfl ?_
                      obtain ⟨r52, hr, h1⟩ := bnd h1
                      refine TL_callB [] (psalteryref23_has.ok0 hr) psalteryref23_has.fnb rfl ⟨trivial, ⟨trivial, ⟨trivial, trivial⟩⟩⟩ rfl trivial rfl ?_
                      refine TL_ev env 16 rfl ⟨⟨trivial, ⟨trivial, trivial⟩⟩, ⟨trivial, ⟨fun eg => trivial, ⟨fun eg => ⟨fun e => e, trivial⟩, ⟨fun eg => trivial, ⟨fun eg => ⟨fun e => e, trivial⟩, ⟨fun eg => ⟨fun e => e, ⟨fun e => e, trivial⟩⟩, ⟨⟨trivial, ⟨fun e => e, trivial⟩⟩, ⟨trivial, ⟨fun eg => trivial, ⟨fun eg => ⟨fun e => e, trivial⟩, ⟨fun eg => trivial, ⟨fun eg => ⟨fun e => e, trivial⟩, ⟨fun eg => ⟨fun e => e, ⟨fun e => e, trivial⟩⟩, ⟨⟨trivial, ⟨fun e => e, trivial⟩⟩, ⟨trivial, trivial⟩⟩⟩⟩⟩⟩⟩⟩⟩⟩⟩⟩⟩⟩⟩⟩ ?_
                      refine TL_end ?_
                      obtain rfl := sinj h1
                      refine tsn ?_
                      exact SP_ren [] _ rfl ⟨rfl, trivial⟩ trivial rfl
                    · replace h1 := bif_f h1 hb
                      refine TL_gf (.bool false) rfl rfl rfl rfl rfl (by decide) ?_
                      refine TL_gf (.bool false) rfl rfl rfl rfl rfl (by decide) ?_
                      refine TL_gf (.bool false) rfl rfl rfl rfl rfl (by decide) ?_
                      refine TL_gf (.bool false) rfl rfl rfl rfl rfl (by decide) ?_
                      refine TL_gf (.bool false) rfl rfl rfl rfl rfl (by decide) ?_
                      refine TL_ev env 2 rfl ⟨⟨trivial, ⟨fun e => e, trivial⟩⟩, ⟨trivial, trivial⟩⟩ ?_
                      refine TL_gf (.bool false) rfl rfl rfl rfl rfl (by decide) ?_
                      refine TL_gf (.bool false) rfl rfl rfl rfl rfl (by decide) ?_
                      refine TL_gf (.bool false) rfl rfl rfl rfl rfl (by decide) ?_
                      refine TL_gf (.bool false) rfl rfl rfl rfl rfl (by decide) ?_
                      refine TL_gf (.bool false) rfl rfl rfl rfl rfl (by decide) ?_
                      refine TL_ev env 2 rfl ⟨⟨trivial, ⟨fun e => e, trivial⟩⟩, ⟨trivial, trivial⟩⟩ ?_
                      refine TL_gf (.bool false) rfl rfl rfl rfl rfl (by decide) ?_
                      refine TL_gf (.bool false) rfl rfl rfl rfl rfl (by decide) ?_
                      refine TL_gf (.bool false) rfl rfl rfl rfl rfl (by decide) ?_
                      refine TL_gf (.bool false) rfl rfl rfl rfl rfl (by decide) ?_
                      refine TL_gf (.bool false) rfl rfl rfl rfl rfl (by decide) ?_
                      refine TL_ev env 2 rfl ⟨⟨trivial, ⟨fun e => e, trivial⟩⟩, ⟨trivial, trivial⟩⟩ ?_
                      refine TL_end ?_
                      obtain rfl := sinj h1
                      refine tsn ?_
                      exact SP_ren [] _ rfl ⟨rfl, trivial⟩ trivial rfl
                  · replace h1 := bif_f h1 hb
                    refine TL_gf (.bool false) rfl rfl rfl rfl rfl (by decide) ?_
                    refine TL_gf (.bool false) rfl rfl rfl rfl rfl (by decide) ?_
                    refine TL_gf (.bool false) rfl rfl rfl rfl rfl (by decide) ?_
                    refine TL_gf (.bool false) rfl rfl rfl rfl rfl (by decide) ?_
                    refine TL_gf (.bool false) rfl rfl rfl rfl rfl (by decide) ?_
                    refine TL_ev env 2 rfl ⟨⟨trivial, ⟨fun e => e, trivial⟩⟩, ⟨trivial, trivial⟩⟩ ?_
                    refine TL_gf (.bool false) rfl rfl rfl rfl rfl (by decide) ?_
                    refine TL_gf (.bool false) rfl rfl rfl rfl rfl (by decide) ?_
                    refine TL_gf (.bool false) rfl rfl rfl rfl rfl (by decide) ?_
                    refine TL_gf (.bool false) rfl rfl rfl rfl rfl (by decide) ?_
                    refine TL_gf (.bool false) rfl rfl rfl rfl rfl (by decide) ?_
                    refine TL_ev env 2 rfl ⟨⟨trivial, ⟨fun e => e, trivial⟩⟩, ⟨trivial, trivial⟩⟩ ?_
                    refine TL_gf (.bool false) rfl rfl rfl rfl rfl (by decide) ?_
                    refine TL_gf (.bool false) rfl rfl rfl rfl rfl (by decide) ?_
                    refine TL_gf (.bool false) rfl rfl rfl rfl rfl (by decide) ?_
                    refine TL_gf (.bool false) rfl rfl rfl rfl rfl (by decide) ?_
                    refine TL_gf (.bool false) rfl rfl rfl rfl rfl (by decide) ?_
                    refine TL_ev env 2 rfl ⟨⟨trivial, ⟨fun e => e, trivial⟩⟩, ⟨trivial, trivial⟩⟩ ?_
                    refine TL_gf (.bool false) rfl rfl rfl rfl rfl (by decide) ?_
                    refine TL_gf (.bool false) rfl rfl rfl rfl rfl (by decide) ?_
                    refine TL_gf (.bool false) rfl rfl rfl rfl rfl (by decide) ?_
                    refine TL_gf (.bool false) rfl rfl rfl rfl rfl (by decide) ?_
                    refine TL_gf (.bool false) rfl rfl rfl rfl rfl (by decide) ?_
                    refine TL_ev env 2 rfl ⟨⟨trivial, ⟨fun e => e, trivial⟩⟩, ⟨trivial, trivial⟩⟩ ?_
                    refine TL_end ?_
                    obtain rfl := sinj h1
                    refine tsn ?_
                    exact SP_ren [] _ rfl ⟨rfl, trivial⟩ trivial rfl
                · replace h1 := bif_f h1 hb
                  refine TL_gf (.bool false) rfl rfl rfl rfl rfl (by decide) ?_
                  refine TL_gf (.bool false) rfl rfl rfl rfl rfl (by decide) ?_
                  refine TL_gf (.bool false) rfl rfl rfl rfl rfl (by decide) ?_
                  refine TL_gf (.bool false) rfl rfl rfl rfl rfl (by decide) ?_
                  refine TL_gf (.bool false) rfl rfl rfl rfl rfl (by decide) ?_
                  refine TL_gf (.bool false) rfl rfl rfl rfl rfl (by decide) ?_
                  refine TL_gf (.bool false) rfl rfl rfl rfl rfl (by decide) ?_
                  refine TL_ev env 2 rfl ⟨⟨trivial, ⟨fun e => e, trivial⟩⟩, ⟨trivial, trivial⟩⟩ ?_
                  refine TL_gf (.bool false) rfl rfl rfl rfl rfl (by decide) ?_
                  refine TL_gf (.bool false) rfl rfl rfl rfl rfl (by decide) ?_
                  refine TL_gf (.bool false) rfl rfl rfl rfl rfl (by decide) ?_
                  refine TL_gf (.bool false) rfl rfl rfl rfl rfl (by decide) ?_
                  refine TL_gf (.bool false) rfl rfl rfl rfl rfl (by decide) ?_
                  refine TL_ev env 2 rfl ⟨⟨trivial, ⟨fun e => e, trivial⟩⟩, ⟨trivial, trivial⟩⟩ ?_
                  refine TL_gf (.bool false) rfl rfl rfl rfl rfl (by decide) ?_
                  refine TL_gf (.bool false) rfl rfl rfl rfl rfl (by decide) ?_
                  refine TL_gf (.bool false) rfl rfl rfl rfl rfl (by decide) ?_
                  refine TL_gf (.bool false) rfl rfl rfl rfl rfl (by decide) ?_
                  refine TL_gf (.bool false) rfl rfl rfl rfl rfl (by decide) ?_
                  refine TL_ev env 2 rfl ⟨⟨trivial, ⟨fun e => e, trivial⟩⟩, ⟨trivial, trivial⟩⟩ ?_
                  refine TL_gf (.bool false) rfl rfl rfl rfl rfl (by decide) ?_
                  refine TL_gf (.bool false) rfl rfl rfl rfl rfl (by decide) ?_
                  refine TL_gf (.bool false) rfl rfl rfl rfl rfl (by decide) ?_
                  refine TL_gf (.bool false) rfl rfl rfl rfl rfl (by decide) ?_
                  refine TL_gf (.bool false) rfl rfl rfl rfl rfl (by decide) ?_
                  refine TL_ev env 2 rfl ⟨⟨trivial, ⟨fun e => e, trivial⟩⟩, ⟨trivial, trivial⟩⟩ ?_
                  refine TL_gf (.bool false) rfl rfl rfl rfl rfl (by decide) ?_
                  refine TL_gf (.bool false) rfl rfl rfl rfl rfl (by decide) ?_
                  refine TL_gf (.bool false) rfl rfl rfl rfl rfl (by decide) ?_
                  refine TL_gf (.bool false) rfl rfl rfl rfl rfl (by decide) ?_
                  refine TL_gf (.bool false) rfl rfl rfl rfl rfl (by decide) ?_
                  refine TL_ev env 2 rfl ⟨⟨trivial, ⟨fun e => e, trivial⟩⟩, ⟨trivial, trivial⟩⟩ ?_
                  refine TL_end ?_
                  obtain rfl := sinj h1
                  refine tsn ?_
                  exact SP_ren [] _ rfl ⟨rfl, trivial⟩ trivial rfl
              · replace h1 := bif_f h1 hb
                refine TL_gf (.bool false) rfl rfl rfl rfl rfl (by decide) ?_
                refine TL_gf (.bool false) rfl rfl rfl rfl rfl (by decide) ?_
                refine TL_gf (.bool false) rfl rfl rfl rfl rfl (by decide) ?_
                refine TL_gf (.bool false) rfl rfl rfl rfl rfl (by decide) ?_
                refine TL_ev env 2 rfl ⟨⟨trivial, ⟨fun e => e, trivial⟩⟩, ⟨trivial, trivial⟩⟩ ?_
                refine TL_gf (.bool false) rfl rfl rfl rfl rfl (by decide) ?_
                refine TL_gf (.bool false) rfl rfl rfl rfl rfl (by decide) ?_
                refine TL_gf (.bool false) rfl rfl rfl rfl rfl (by decide) ?_
                refine TL_gf (.bool false) rfl rfl rfl rfl rfl (by decide) ?_
                refine TL_gf (.bool false) rfl rfl rfl rfl rfl (by decide) ?_
                refine TL_gf (.bool false) rfl rfl rfl rfl rfl (by decide) ?_
                refine TL_gf (.bool false) rfl rfl rfl rfl rfl (by decide) ?_
                refine TL_ev env 2 rfl ⟨⟨trivial, ⟨fun e => e, trivial⟩⟩, ⟨trivial, trivial⟩⟩ ?_
                refine TL_gf (.bool false) rfl rfl rfl rfl rfl (by decide) ?_
                refine TL_gf (.bool false) rfl rfl rfl rfl rfl (by decide) ?_
                refine TL_gf (.bool false) rfl rfl rfl rfl rfl (by decide) ?_
                refine TL_gf (.bool false) rfl rfl rfl rfl rfl (by decide) ?_
                refine TL_gf (.bool false) rfl rfl rfl rfl rfl (by decide) ?_
                refine TL_ev env 2 rfl ⟨⟨trivial, ⟨fun e => e, trivial⟩⟩, ⟨trivial, trivial⟩⟩ ?_
                refine TL_gf (.bool false) rfl rfl rfl rfl rfl (by decide) ?_
                refine TL_gf (.bool false) rfl rfl rfl rfl rfl (by decide) ?_
                refine TL_gf (.bool false) rfl rfl rfl rfl rfl (by decide) ?_
                refine TL_gf (.bool false) rfl rfl rfl rfl rfl (by decide) ?_
                refine TL_gf (.bool false) rfl rfl rfl rfl rfl (by decide) ?_
                refine TL_ev env 2 rfl ⟨⟨trivial, ⟨fun e => e, trivial⟩⟩, ⟨trivial, trivial⟩⟩ ?_
                refine TL_gf (.bool false) rfl rfl rfl rfl rfl (by decide) ?_
                refine TL_gf (.bool false) rfl rfl rfl rfl rfl (by decide) ?_
                refine TL_gf (.bool false) rfl rfl rfl rfl rfl (by decide) ?_
                refine TL_gf (.bool false) rfl rfl rfl rfl rfl (by decide) ?_
                refine TL_gf (.bool false) rfl rfl rfl rfl rfl (by decide) ?_
                refine TL_ev env 2 rfl ⟨⟨trivial, ⟨fun e => e, trivial⟩⟩, ⟨trivial, trivial⟩⟩ ?_
                refine TL_gf (.bool false) rfl rfl rfl rfl rfl (by decide) ?_
                refine TL_gf (.bool false) rfl rfl rfl rfl rfl (by decide) ?_
                refine TL_gf (.bool false) rfl rfl rfl rfl rfl (by decide) ?_
                refine TL_gf (.bool false) rfl rfl rfl rfl rfl (by decide) ?_
                refine TL_gf (.bool false) rfl rfl rfl rfl rfl (by decide) ?_
                refine TL_ev env 2 rfl ⟨⟨trivial, ⟨fun e => e, trivial⟩⟩, ⟨trivial, trivial⟩⟩ ?_
                refine TL_end ?_
                obtain rfl := sinj h1
                refine tsn ?_
                exact SP_ren [] _ rfl ⟨rfl, trivial⟩ trivial rfl
            · replace h1 := bif_f h1 hb
              refine TL_gf (.bool false) rfl rfl rfl rfl rfl (by decide) ?_
              refine TL_gf (.bool false) rfl rfl rfl rfl rfl (by decide) ?_
              refine TL_gf (.bool false) rfl rfl rfl rfl rfl (by decide) ?_
              refine TL_gf (.bool false) rfl rfl rfl rfl rfl (by decide) ?_
              refine TL_gf (.bool false) rfl rfl rfl rfl rfl (by decide) ?_
              refine TL_gf (.bool false) rfl rfl rfl rfl rfl (by decide) ?_
              refine TL_ev env 2 rfl ⟨⟨trivial, ⟨fun e => e, trivial⟩⟩, ⟨trivial, trivial⟩⟩ ?_
              refine TL_gf (.bool false) rfl rfl rfl rfl rfl (by decide) ?_
              refine TL_gf (.bool false) rfl rfl rfl rfl rfl (by decide) ?_
              refine TL_gf (.bool false) rfl rfl rfl rfl rfl (by decide) ?_
              refine TL_gf (.bool false) rfl rfl rfl rfl rfl (by decide) ?_
              refine TL_ev env 2 rfl ⟨⟨trivial, ⟨fun e => e, trivial⟩⟩, ⟨trivial, trivial⟩⟩ ?_
              refine TL_gf (.bool false) rfl rfl rfl rfl rfl (by decide) ?_
              refine TL_gf (.bool false) rfl rfl rfl rfl rfl (by decide) ?_
              refine TL_gf (.bool false) rfl rfl rfl rfl rfl (by decide) ?_
              refine TL_gf (.bool false) rfl rfl rfl rfl rfl (by decide) ?_
              refine TL_gf (.bool false) rfl rfl rfl rfl rfl (by decide) ?_
              refine TL_gf (.bool false) rfl rfl rfl rfl rfl (by decide) ?_
              refine TL_gf (.bool false) rfl rfl rfl rfl rfl (by decide) ?_
              refine TL_ev env 2 rfl ⟨⟨trivial, ⟨fun e => e, trivial⟩⟩, ⟨trivial, trivial⟩⟩ ?_
              refine TL_gf (.bool false) rfl rfl rfl rfl rfl (by decide) ?_
              refine TL_gf (.bool false) rfl rfl rfl rfl rfl (by decide) ?_
              refine TL_gf (.bool false) rfl rfl rfl rfl rfl (by decide) ?_
              refine TL_gf (.bool false) rfl rfl rfl rfl rfl (by decide) ?_
              refine TL_gf (.bool false) rfl rfl rfl rfl rfl (by decide) ?_
              refine TL_ev env 2 rfl ⟨⟨trivial, ⟨fun e => e, trivial⟩⟩, ⟨trivial, trivial⟩⟩ ?_
              refine TL_gf (.bool false) rfl rfl rfl rfl rfl (by decide) ?_
              refine TL_gf (.bool false) rfl rfl rfl rfl rfl (by decide) ?_
              refine TL_gf (.bool false) rfl rfl rfl rfl rfl (by decide) ?_
              refine TL_gf (.bool false) rfl rfl rfl rfl rfl (by decide) ?_
              refine TL_gf (.bool false) rfl rfl rfl rfl rfl (by decide) ?_
              refine TL_ev env 2 rfl ⟨⟨trivial, ⟨fun e => e, trivial⟩⟩, ⟨trivial, trivial⟩⟩ ?_
              refine TL_gf (.bool false) rfl rfl rfl rfl rfl (by decide) ?_
              refine TL_gf (.bool false) rfl rfl rfl rfl rfl (by decide) ?_
              refine TL_gf (.bool false) rfl rfl rfl rfl rfl (by decide) ?_
              refine TL_gf (.bool false) rfl rfl rfl rfl rfl (by decide) ?_
              refine TL_gf (.bool false) rfl rfl rfl rfl rfl (by decide) ?_
              refine TL_ev env 2 rfl ⟨⟨trivial, ⟨fun e => e, trivial⟩⟩, ⟨trivial, trivial⟩⟩ ?_
              refine TL_gf (.bool false) rfl rfl rfl rfl rfl (by decide) ?_
              refine TL_gf (.bool false) rfl rfl rfl rfl rfl (by decide) ?_
              refine TL_gf (.bool false) rfl rfl rfl rfl rfl (by decide) ?_
              refine TL_gf (.bool false) rfl rfl rfl rfl rfl (by decide) ?_
              refine TL_gf (.bool false) rfl rfl rfl rfl rfl (by decide) ?_
              refine TL_ev env 2 rfl ⟨⟨trivial, ⟨fun e => e, trivial⟩⟩, ⟨trivial, trivial⟩⟩ ?_
              refine TL_end ?_
              obtain rfl := sinj h1
              refine tsn ?_
              exact SP_ren [] _ rfl ⟨rfl, trivial⟩ trivial rfl
          · rintro x43 hz
            obtain rfl := hz.symm
            refine TE_go ?_
            refine TC_ret ?_
            refine tsr ?_
            obtain rfl := sinj h0
            exact TE_ret env rfl trivial trivial
      · replace h0 := bif_f h0 hb
        refine TC_skip ?_
        refine TE_go ?_
        refine TC_seq ?_
        refine TC_reg ?_
        refine TL_ev env 4 rfl ⟨trivial, ⟨⟨trivial, trivial⟩, ⟨trivial, ⟨⟨trivial, trivial⟩, trivial⟩⟩⟩⟩ ?_
        refine TL_end ?_
        refine TE_go ?_
        refine TC_seq ?_
        refine TC_reg ?_
        refine TL_ev env 1 rfl ⟨trivial, trivial⟩ ?_
        refine TL_end ?_
        refine TE_go ?_
        refine TC_seq ?_
        refine TC_seq ?_
        refine TC_reg ?_
        refine TL_ev env 2 rfl ⟨trivial, ⟨⟨trivial, trivial⟩, trivial⟩⟩ ?_
        refine TL_end ?_
        refine TE_go ?_
        obtain ⟨z1, h1, h0⟩ := bnd h0
        refine TC_cut (α := Int) (fun s => z1 = s) (fun s => [(4, .p 11300 0), (9, .p 11301 0), (10, .int .i64 s)]) (fun s => [(11300, some (.cells [.int .i64 p15, .int .i64 p16, .int .i64 p17, .int .i64 p18, .int .i64 p19, .int .i64 p20, .int .i64 p21, .int .i64 p22, .int .i64 p23, .int .i64 p24])), (11301, some (.cells [.int .i64 p8, .int .i64 p9, .int .i64 p10, .int .i64 p11, .int .i64 p12]))]) ?_ ?_
        · refine TC_blk ?_
          refine TC_seq ?_
          refine TC_reg ?_
          refine TL_ev env 2 rfl ⟨⟨trivial, ⟨trivial, trivial⟩⟩, ⟨trivial, trivial⟩⟩ ?_
          refine TL_end ?_
          refine TE_go ?_
          refine TC_cond rfl (fun hb => ?_) (fun hb => ?_)
          · replace h1 := bif_t h1 hb
            refine TC_reg ?_
            refine TL_ev env 1 rfl ⟨trivial, trivial⟩ ?_
            refine TL_end ?_
            refine tbn ?_
            obtain rfl := sinj h1
            refine tsn ?_
            exact SP_ren [(11300, 10801), (11301, 1009)] _ rfl ⟨rfl, rfl, rfl, trivial⟩ ⟨rfl, rfl, trivial⟩ rfl
          · replace h1 := bif_f h1 hb
            refine TC_seq ?_
            refine TC_reg ?_
            refine TL_ev env 2 rfl ⟨⟨trivial, ⟨trivial, trivial⟩⟩, ⟨trivial, trivial⟩⟩ ?_
            refine TL_end ?_
            refine TE_go ?_
            refine TC_cond rfl (fun hb => ?_) (fun hb => ?_)
            · replace h1 := bif_t h1 hb
              refine TC_reg ?_
              refine TL_ev env 1 rfl ⟨trivial, trivial⟩ ?_
              refine TL_end ?_
              refine tbn ?_
              obtain rfl := sinj h1
              refine tsn ?_
              exact SP_ren [(11300, 10801), (11301, 1009)] _ rfl ⟨rfl, rfl, rfl, trivial⟩ ⟨rfl, rfl, trivial⟩ rfl
            · replace h1 := bif_f h1 hb
              refine TC_seq ?_
              refine TC_reg ?_
              refine TL_ev env 2 rfl ⟨⟨trivial, ⟨trivial, trivial⟩⟩, ⟨trivial, trivial⟩⟩ ?_
              refine TL_end ?_
              refine TE_go ?_
              refine TC_cond rfl (fun hb => ?_) (fun hb => ?_)
              · replace h1 := bif_t h1 hb
                refine TC_reg ?_
                refine TL_ev env 1 rfl ⟨trivial, trivial⟩ ?_
                refine TL_end ?_
                refine tbn ?_
                obtain rfl := sinj h1
                refine tsn ?_
                exact SP_ren [(11300, 10801), (11301, 1009)] _ rfl ⟨rfl, rfl, rfl, trivial⟩ ⟨rfl, rfl, trivial⟩ rfl
              · replace h1 := bif_f h1 hb
                refine TC_skip ?_
                refine tbn ?_
                obtain rfl := sinj h1
                refine tsn ?_
                exact SP_ren [(11300, 10801), (11301, 1009)] _ rfl ⟨rfl, rfl, rfl, trivial⟩ ⟨rfl, rfl, trivial⟩ rfl
        · rintro x57 hz
          obtain rfl := hz.symm
          refine TE_go ?_
          refine TC_seq ?_
          obtain ⟨z1, h1, h0⟩ := bnd h0
          refine TC_cut (α := Bool) (fun s => z1 = s) (fun s => [(6, .bool s)]) (fun s => []) ?_ ?_
          · refine TC_reg ?_
            refine TL_ev env 4 rfl ⟨trivial, ⟨⟨trivial, trivial⟩, ⟨trivial, ⟨⟨trivial, trivial⟩, trivial⟩⟩⟩⟩ ?_
            obtain ⟨r62, hr, h1⟩ := bnd h1
            refine TL_callB [] (psalteryref23_has.ok0 hr) psalteryref23_has.fnb rfl ⟨trivial, ⟨trivial, ⟨trivial, trivial⟩⟩⟩ rfl trivial rfl ?_
            refine TL_ev env 1 rfl ⟨trivial, trivial⟩ ?_
            refine TL_split 122 rfl (fun hb => ?_) (fun hb => ?_)
            · replace h1 := bif_t h1 hb
              refine TL_gt rfl rfl rfl rfl ?_
              refine TL_ev env 1 rfl ⟨trivial, trivial⟩ ?_
              refine TL_gt rfl rfl rfl rfl ?_
              refine TL_ev env 1 rfl ⟨⟨trivial, trivial⟩, trivial⟩ ?_
              refine TL_gt rfl rfl rfl rfl ?_
              refine TL_ev env 1 rfl ⟨trivial, trivial⟩ ?_
              refine TL_gt rfl rfl rfl rfl ?_
              refine TL_ev env 1 rfl ⟨⟨trivial, trivial⟩, trivial⟩ ?_
              refine TL_gt rfl rfl rfl rfl ?_
              refine TL_ev env 1 rfl ⟨⟨trivial, ⟨trivial, trivial⟩⟩, trivial⟩ ?_
              refine TL_gt rfl rfl rfl rfl ?_
              obtain ⟨r64, hr, h1⟩ := bnd h1
              refine TL_callB [] (psalteryref23_has.ok0 hr) psalteryref23_has.fnb rfl ⟨trivial, ⟨trivial, ⟨trivial, trivial⟩⟩⟩ rfl trivial rfl ?_
              refine TL_ev env 2 rfl ⟨⟨trivial, ⟨trivial, trivial⟩⟩, ⟨trivial, trivial⟩⟩ ?_
              refine TL_split 130 rfl (fun hb => ?_) (fun hb => ?_)
              · replace h1 := bif_t h1 hb
                refine TL_gt rfl rfl rfl rfl ?_
                refine TL_ev env 1 rfl ⟨trivial, trivial⟩ ?_
                refine TL_gt rfl rfl rfl rfl ?_
                refine TL_ev env 1 rfl ⟨⟨trivial, trivial⟩, trivial⟩ ?_
                refine TL_gt rfl rfl rfl rfl ?_
                refine TL_ev env 1 rfl ⟨trivial, trivial⟩ ?_
                refine TL_gt rfl rfl rfl rfl ?_
                obtain ⟨r65, hr, h1⟩ := bnd h1
                refine TL_callB [] (psalteryref23_has.ok0 hr) psalteryref23_has.fnb rfl ⟨trivial, ⟨trivial, ⟨trivial, trivial⟩⟩⟩ rfl trivial rfl ?_
                refine TL_ev env 16 rfl ⟨⟨trivial, ⟨trivial, trivial⟩⟩, ⟨trivial, ⟨fun eg => trivial, ⟨fun eg => ⟨fun e => e, trivial⟩, ⟨fun eg => trivial, ⟨fun eg => ⟨fun e => e, trivial⟩, ⟨fun eg => ⟨fun e => e, ⟨fun e => e, trivial⟩⟩, ⟨⟨trivial, ⟨fun e => e, trivial⟩⟩, ⟨trivial, ⟨fun eg => trivial, ⟨fun eg => ⟨fun e => e, trivial⟩, ⟨fun eg => trivial, ⟨fun eg => ⟨fun e => e, trivial⟩, ⟨fun eg => ⟨fun e => e, ⟨fun e => e, trivial⟩⟩, ⟨⟨trivial, ⟨fun e => e, trivial⟩⟩, ⟨trivial, trivial⟩⟩⟩⟩⟩⟩⟩⟩⟩⟩⟩⟩⟩⟩⟩⟩ ?_
                refine TL_end ?_
                obtain rfl := sinj h1
                refine tsn ?_
                exact SP_ren [] _ rfl ⟨rfl, trivial⟩ trivial rfl
              · replace h1 := bif_f h1 hb
                refine TL_gf (.bool false) rfl rfl rfl rfl rfl (by decide) ?_
                refine TL_gf (.bool false) rfl rfl rfl rfl rfl (by decide) ?_
                refine TL_gf (.bool false) rfl rfl rfl rfl rfl (by decide) ?_
                refine TL_gf (.bool false) rfl rfl rfl rfl rfl (by decide) ?_
                refine TL_ev env 2 rfl ⟨⟨trivial, ⟨fun e => e, trivial⟩⟩, ⟨trivial, trivial⟩⟩ ?_
                refine TL_gf (.bool false) rfl rfl rfl rfl rfl (by decide) ?_
                refine TL_gf (.bool false) rfl rfl rfl rfl rfl (by decide) ?_
                refine TL_gf (.bool false) rfl rfl rfl rfl rfl (by decide) ?_
                refine TL_gf (.bool false) rfl rfl rfl rfl rfl (by decide) ?_
                refine TL_gf (.bool false) rfl rfl rfl rfl rfl (by decide) ?_
                refine TL_ev env 2 rfl ⟨⟨trivial, ⟨fun e => e, trivial⟩⟩, ⟨trivial, trivial⟩⟩ ?_
                refine TL_gf (.bool false) rfl rfl rfl rfl rfl (by decide) ?_
                refine TL_gf (.bool false) rfl rfl rfl rfl rfl (by decide) ?_
                refine TL_gf (.bool false) rfl rfl rfl rfl rfl (by decide) ?_
                refine TL_gf (.bool false) rfl rfl rfl rfl rfl (by decide) ?_
                refine TL_gf (.bool false) rfl rfl rfl rfl rfl (by decide) ?_
                refine TL_ev env 2 rfl ⟨⟨trivial, ⟨fun e => e, trivial⟩⟩, ⟨trivial, trivial⟩⟩ ?_
                refine TL_end ?_
                obtain rfl := sinj h1
                refine tsn ?_
                exact SP_ren [] _ rfl ⟨rfl, trivial⟩ trivial rfl
            · replace h1 := bif_f h1 hb
              refine TL_gf (.bool false) rfl rfl rfl rfl rfl (by decide) ?_
              refine TL_gf (.bool false) rfl rfl rfl rfl rfl (by decide) ?_
              refine TL_gf (.bool false) rfl rfl rfl rfl rfl (by decide) ?_
              refine TL_gf (.bool false) rfl rfl rfl rfl rfl (by decide) ?_
              refine TL_gf (.bool false) rfl rfl rfl rfl rfl (by decide) ?_
              refine TL_gf (.bool false) rfl rfl rfl rfl rfl (by decide) ?_
              refine TL_ev env 2 rfl ⟨⟨trivial, ⟨fun e => e, trivial⟩⟩, ⟨trivial, trivial⟩⟩ ?_
              refine TL_gf (.bool false) rfl rfl rfl rfl rfl (by decide) ?_
              refine TL_gf (.bool false) rfl rfl rfl rfl rfl (by decide) ?_
              refine TL_gf (.bool false) rfl rfl rfl rfl rfl (by decide) ?_
              refine TL_gf (.bool false) rfl rfl rfl rfl rfl (by decide) ?_
              refine TL_ev env 2 rfl ⟨⟨trivial, ⟨fun e => e, trivial⟩⟩, ⟨trivial, trivial⟩⟩ ?_
              refine TL_gf (.bool false) rfl rfl rfl rfl rfl (by decide) ?_
              refine TL_gf (.bool false) rfl rfl rfl rfl rfl (by decide) ?_
              refine TL_gf (.bool false) rfl rfl rfl rfl rfl (by decide) ?_
              refine TL_gf (.bool false) rfl rfl rfl rfl rfl (by decide) ?_
              refine TL_gf (.bool false) rfl rfl rfl rfl rfl (by decide) ?_
              refine TL_ev env 2 rfl ⟨⟨trivial, ⟨fun e => e, trivial⟩⟩, ⟨trivial, trivial⟩⟩ ?_
              refine TL_gf (.bool false) rfl rfl rfl rfl rfl (by decide) ?_
              refine TL_gf (.bool false) rfl rfl rfl rfl rfl (by decide) ?_
              refine TL_gf (.bool false) rfl rfl rfl rfl rfl (by decide) ?_
              refine TL_gf (.bool false) rfl rfl rfl rfl rfl (by decide) ?_
              refine TL_gf (.bool false) rfl rfl rfl rfl rfl (by decide) ?_
              refine TL_ev env 2 rfl ⟨⟨trivial, ⟨fun e => e, trivial⟩⟩, ⟨trivial, trivial⟩⟩ ?_
              refine TL_end ?_
              obtain rfl := sinj h1
              refine tsn ?_
              exact SP_ren [] _ rfl ⟨rfl, trivial⟩ trivial rfl
          · rintro x61 hz
            obtain rfl := hz.symm
            refine TE_go ?_
            refine TC_ret ?_
            obtain rfl := sinj h0
            exact TE_ret env rfl trivial trivial
theorem psalteryref23_Allows.ok0 {K : Nat} {p0 : Int} {p1 : Int} {p2 : Int} {p3 : Int} {p4 : Int} {p5 : Int} {p6 : Int} {p7 : Int} {p8 : Int} {p9 : Int} {p10 : Int} {p11 : Int} {p12 : Int} {p13 : Int} {p14 : Int} {p15 : Int} {p16 : Int} {p17 : Int} {p18 : Int} {p19 : Int} {p20 : Int} {p21 : Int} {p22 : Int} {p23 : Int} {p24 : Int} {p25 : Int} {p26 : Int} {q0 : Bool} (h0 : psalteryref23_Allows K p0 p1 p2 p3 p4 p5 p6 p7 p8 p9 p10 p11 p12 p13 p14 p15 p16 p17 p18 p19 p20 p21 p22 p23 p24 p25 p26 = some q0) : Fn Try.prog 48 [.agg [.int .i64 p0, .int .i64 p1, .int .i64 p2, .int .i64 p3, .int .i64 p4, .int .i64 p5, .int .i64 p6, .int .i64 p7, .int .i64 p8, .int .i64 p9, .int .i64 p10, .int .i64 p11, .int .i64 p12, .int .i64 p13, .int .i64 p14], .agg [.int .i64 p15, .int .i64 p16, .int .i64 p17, .int .i64 p18, .int .i64 p19, .int .i64 p20, .int .i64 p21, .int .i64 p22, .int .i64 p23, .int .i64 p24], .agg [.int .i64 p25, .int .i64 p26]] [] (.bool q0) [] := psalteryref23_Allows.ok h0
theorem psalteryref23_Allows.fnb : fnb Try.prog 48 = true := fnb_of Try.func48 rfl
def psalteryref23_record.res (_p0 : Int) (_p1 : List (Int)) : ByteArray → MV
  | q0 => .str q0
def psalteryref23_record.out (_p0 : Int) (_p1 : List (Int)) : ByteArray → List (Nat × Option MObj)
  | _ => []
theorem psalteryref23_record.ok {K : Nat} {p0 : Int} {p1 : List (Int)} {r : ByteArray} (h0 : psalteryref23_record K p0 p1 = some r) : Fn Try.prog 100 [.int .i64 p0, .im (.slice (.int .i64)) p1] [] (psalteryref23_record.res p0 p1 r) (psalteryref23_record.out p0 p1 r) := by
  refine Fn_of Try.func100 rfl (Nat.le_of_ble_eq_true rfl) fun Γ => ?_
  refine TC_seq ?_
  refine TC_reg ?_
  refine TL_ev env 1 rfl ⟨trivial, trivial⟩ ?_
  refine TL_end ?_
  refine TE_go ?_
  refine TC_seq ?_
  refine TC_reg ?_
  refine TL_ev env 7 rfl ⟨trivial, ⟨trivial, ⟨trivial, ⟨⟨trivial, trivial⟩, ⟨trivial, ⟨⟨trivial, ⟨trivial, trivial⟩⟩, ⟨trivial, trivial⟩⟩⟩⟩⟩⟩⟩ ?_
  refine TL_end ?_
  refine TE_go ?_
  refine TC_seq ?_
  refine TC_seq ?_
  refine TC_reg ?_
  refine TL_ev env 1 rfl ⟨trivial, trivial⟩ ?_
  refine TL_end ?_
  refine TE_go ?_
  obtain ⟨z1, h1, h0⟩ := bnd h0
  refine TC_cut (α := (List (Int))) (fun s => z1 = s) (fun s => [(5, .sl 10800)]) (fun s => [(10800, some (.rows (.int .u8) s))]) ?_ ?_
  · refine TC_blk ?_
    refine TC_loop (α := Int × (List (Int))) (fun n s => psalteryref23_record.l0 K p1 n s.1 s.2 = some z1) (fun s => [(1, .im (.slice (.int .i64)) p1), (5, .sl 11000), (6, .int .i64 s.1)]) (fun s => [(11000, some (.rows (.int .u8) s.2))]) K ?_ ?_
    · exact SP_ren [(11000, 1012)] (_, _) h1 ⟨rfl, rfl, rfl, trivial⟩ ⟨rfl, trivial⟩ rfl
    rintro n ⟨x13, x14⟩ h1
    rcases n with _ | n
    · exact (nsome h1).elim
    replace h1 : psalteryref23_record.r0 K p1 (psalteryref23_record.l0 K p1 n) x13 x14 = some z1 := h1
    refine TC_seq ?_
    refine TC_seq ?_
    refine TC_reg ?_
    refine TL_ev env 4 rfl ⟨trivial, ⟨trivial, ⟨⟨trivial, trivial⟩, ⟨⟨trivial, ⟨trivial, trivial⟩⟩, trivial⟩⟩⟩⟩ ?_
    refine TL_end ?_
    refine TE_go ?_
    refine TC_cond rfl (fun hb => ?_) (fun hb => ?_)
    · replace h1 := bif_t h1 hb
      refine TC_skip ?_
      refine TE_go ?_
      refine TC_seq ?_
      refine TC_blk ?_
      refine TC_reg ?_
      obtain ⟨g, h1⟩ := gd_t h1
      refine TL_ev env 9 rfl ⟨trivial, ⟨trivial, ⟨trivial, ⟨⟨trivial, ⟨trivial, ⟨g.1, g.2.1⟩⟩⟩, ⟨⟨trivial, trivial⟩, ⟨trivial, ⟨⟨trivial, trivial⟩, ⟨⟨⟨trivial, ⟨trivial, trivial⟩⟩, g.2.2⟩, ⟨trivial, trivial⟩⟩⟩⟩⟩⟩⟩⟩⟩ ?_
      refine TL_end ?_
      refine tbn ?_
      refine TE_go ?_
      refine TC_reg ?_
      refine TL_ev env 3 rfl ⟨trivial, ⟨⟨trivial, ⟨trivial, trivial⟩⟩, ⟨trivial, trivial⟩⟩⟩ ?_
      refine TL_end ?_
      refine tsn ?_
      exact TE_nextr [(11000, 1026)] n (Nat.lt_succ_self n) (_, _) h1 ⟨rfl, rfl, rfl, trivial⟩ ⟨rfl, trivial⟩ rfl
    · replace h1 := bif_f h1 hb
      refine TC_exit ?_
      refine tsx ?_
      refine tsx ?_
      refine tbe ?_
      obtain rfl := sinj h1
      refine tsn ?_
      exact SP_ren [(10800, 11000)] _ rfl ⟨rfl, trivial⟩ ⟨rfl, trivial⟩ rfl
  · rintro x12 hz
    obtain rfl := hz.symm
    refine TE_go ?_
    refine TC_seq ?_
    refine TC_reg ?_
    refine TL_ev env 1 rfl ⟨trivial, trivial⟩ ?_
    refine TL_frz 10800 rfl ?_
    refine TL_ev env 2 rfl ⟨trivial, ⟨trivial, trivial⟩⟩ ?_
    refine TL_end ?_
    refine TE_go ?_
    refine TC_ret ?_
    obtain rfl := sinj h0
    exact TE_ret env rfl trivial trivial
theorem psalteryref23_record.ok0 {K : Nat} {p0 : Int} {p1 : List (Int)} {q0 : ByteArray} (h0 : psalteryref23_record K p0 p1 = some q0) : Fn Try.prog 100 [.int .i64 p0, .im (.slice (.int .i64)) p1] [] (.str q0) [] := psalteryref23_record.ok h0
theorem psalteryref23_record.fnb : fnb Try.prog 100 = true := fnb_of Try.func100 rfl
def psalteryref23_Bytes.res (_p0 : Int) (_p1 : Int) (_p2 : Int) (_p3 : Int) (_p4 : Int) (_p5 : Int) (_p6 : Int) (_p7 : Int) (_p8 : Int) (_p9 : Int) (_p10 : Int) (_p11 : Int) (_p12 : Int) (_p13 : Int) (_p14 : Int) : ByteArray → MV
  | q0 => .str q0
def psalteryref23_Bytes.out (_p0 : Int) (_p1 : Int) (_p2 : Int) (_p3 : Int) (_p4 : Int) (_p5 : Int) (_p6 : Int) (_p7 : Int) (_p8 : Int) (_p9 : Int) (_p10 : Int) (_p11 : Int) (_p12 : Int) (_p13 : Int) (_p14 : Int) : ByteArray → List (Nat × Option MObj)
  | _ => []
theorem psalteryref23_Bytes.ok {K : Nat} {p0 : Int} {p1 : Int} {p2 : Int} {p3 : Int} {p4 : Int} {p5 : Int} {p6 : Int} {p7 : Int} {p8 : Int} {p9 : Int} {p10 : Int} {p11 : Int} {p12 : Int} {p13 : Int} {p14 : Int} {r : ByteArray} (h0 : psalteryref23_Bytes K p0 p1 p2 p3 p4 p5 p6 p7 p8 p9 p10 p11 p12 p13 p14 = some r) : Fn Try.prog 49 [.agg [.int .i64 p0, .int .i64 p1, .int .i64 p2, .int .i64 p3, .int .i64 p4, .int .i64 p5, .int .i64 p6, .int .i64 p7, .int .i64 p8, .int .i64 p9, .int .i64 p10, .int .i64 p11, .int .i64 p12, .int .i64 p13, .int .i64 p14]] [] (psalteryref23_Bytes.res p0 p1 p2 p3 p4 p5 p6 p7 p8 p9 p10 p11 p12 p13 p14 r) (psalteryref23_Bytes.out p0 p1 p2 p3 p4 p5 p6 p7 p8 p9 p10 p11 p12 p13 p14 r) := by
  refine Fn_of Try.func49 rfl (Nat.le_of_ble_eq_true rfl) fun Γ => ?_
  refine TC_seq ?_
  refine TC_reg ?_
  refine TL_ev env 2 rfl ⟨trivial, ⟨trivial, trivial⟩⟩ ?_
  refine TL_end ?_
  refine TE_go ?_
  refine TC_seq ?_
  refine TC_reg ?_
  refine TL_ev env 1 rfl ⟨trivial, trivial⟩ ?_
  refine TL_end ?_
  refine TE_go ?_
  refine TC_seq ?_
  refine TC_reg ?_
  refine TL_ev env 4 rfl ⟨trivial, ⟨⟨trivial, trivial⟩, ⟨trivial, ⟨⟨trivial, trivial⟩, trivial⟩⟩⟩⟩ ?_
  refine TL_end ?_
  refine TE_go ?_
  refine TC_seq ?_
  refine TC_reg ?_
  refine TL_ev env 4 rfl ⟨trivial, ⟨⟨trivial, trivial⟩, ⟨trivial, ⟨⟨trivial, trivial⟩, trivial⟩⟩⟩⟩ ?_
  refine TL_end ?_
  refine TE_go ?_
  refine TC_seq ?_
  refine TC_seq ?_
  refine TC_reg ?_
  refine TL_ev env 3 rfl ⟨trivial, ⟨⟨trivial, trivial⟩, ⟨⟨trivial, ⟨trivial, trivial⟩⟩, trivial⟩⟩⟩ ?_
  refine TL_end ?_
  refine TE_go ?_
  obtain ⟨z1, h1, h0⟩ := bnd h0
  refine TC_cut (α := ByteArray) (fun s => z1 = s) (fun s => [(1, .p 10300 0), (3, .str s), (5, .p 10301 0)]) (fun s => [(10300, some (.cells [.int .i64 p0, .int .i64 p1, .int .i64 p2, .int .i64 p3, .int .i64 p4, .int .i64 p5, .int .i64 p6, .int .i64 p7, .int .i64 p8, .int .i64 p9, .int .i64 p10, .int .i64 p11, .int .i64 p12, .int .i64 p13, .int .i64 p14])), (10301, some (.cells [.int .i64 p8, .int .i64 p9, .int .i64 p10, .int .i64 p11, .int .i64 p12]))]) ?_ ?_
  · refine TC_cond rfl (fun hb => ?_) (fun hb => ?_)
    · replace h1 := bif_t h1 hb
      refine TC_reg ?_
      refine TL_ev env 18 rfl ⟨trivial, ⟨trivial, ⟨⟨trivial, trivial⟩, ⟨trivial, ⟨⟨trivial, trivial⟩, ⟨trivial, ⟨⟨trivial, trivial⟩, ⟨trivial, ⟨⟨trivial, trivial⟩, ⟨trivial, ⟨⟨trivial, trivial⟩, ⟨trivial, ⟨⟨trivial, trivial⟩, ⟨trivial, ⟨⟨trivial, trivial⟩, ⟨trivial, ⟨⟨trivial, trivial⟩, ⟨⟨trivial, ⟨trivial, ⟨trivial, ⟨trivial, ⟨trivial, ⟨trivial, ⟨trivial, ⟨trivial, trivial⟩⟩⟩⟩⟩⟩⟩⟩, trivial⟩⟩⟩⟩⟩⟩⟩⟩⟩⟩⟩⟩⟩⟩⟩⟩⟩⟩ ?_
      refine TL_frz 1030 rfl ?_
      obtain ⟨r16, hr, h1⟩ := bnd h1
      refine TL_callB [] (psalteryref23_record.ok0 hr) psalteryref23_record.fnb rfl ⟨trivial, ⟨trivial, ⟨trivial, trivial⟩⟩⟩ rfl trivial rfl ?_
      obtain ⟨g, h1⟩ := gd_t h1
      refine TL_ev env 2 rfl ⟨⟨trivial, ⟨trivial, g⟩⟩, ⟨trivial, trivial⟩⟩ ?_
      refine TL_end ?_
      obtain rfl := sinj h1
      refine tsn ?_
      exact SP_ren [(10300, 1001), (10301, 1005)] _ rfl ⟨rfl, rfl, rfl, trivial⟩ ⟨rfl, rfl, trivial⟩ rfl
    · replace h1 := bif_f h1 hb
      refine TC_skip ?_
      obtain rfl := sinj h1
      refine tsn ?_
      exact SP_ren [(10300, 1001), (10301, 1005)] _ rfl ⟨rfl, rfl, rfl, trivial⟩ ⟨rfl, rfl, trivial⟩ rfl
  · rintro x8 hz
    obtain rfl := hz.symm
    refine TE_go ?_
    refine TC_seq ?_
    refine TC_seq ?_
    refine TC_reg ?_
    refine TL_ev env 3 rfl ⟨trivial, ⟨⟨trivial, trivial⟩, ⟨⟨trivial, ⟨trivial, trivial⟩⟩, trivial⟩⟩⟩ ?_
    refine TL_end ?_
    refine TE_go ?_
    obtain ⟨z1, h1, h0⟩ := bnd h0
    refine TC_cut (α := ByteArray) (fun s => z1 = s) (fun s => [(1, .p 10400 0), (3, .str s)]) (fun s => [(10400, some (.cells [.int .i64 p0, .int .i64 p1, .int .i64 p2, .int .i64 p3, .int .i64 p4, .int .i64 p5, .int .i64 p6, .int .i64 p7, .int .i64 p8, .int .i64 p9, .int .i64 p10, .int .i64 p11, .int .i64 p12, .int .i64 p13, .int .i64 p14]))]) ?_ ?_
    · refine TC_cond rfl (fun hb => ?_) (fun hb => ?_)
      · replace h1 := bif_t h1 hb
        refine TC_reg ?_
        refine TL_ev env 12 rfl ⟨trivial, ⟨trivial, ⟨⟨trivial, trivial⟩, ⟨trivial, ⟨⟨trivial, trivial⟩, ⟨trivial, ⟨⟨trivial, trivial⟩, ⟨trivial, ⟨⟨trivial, trivial⟩, ⟨trivial, ⟨⟨trivial, trivial⟩, ⟨⟨trivial, ⟨trivial, ⟨trivial, ⟨trivial, ⟨trivial, trivial⟩⟩⟩⟩⟩, trivial⟩⟩⟩⟩⟩⟩⟩⟩⟩⟩⟩⟩ ?_
        refine TL_frz 1047 rfl ?_
        obtain ⟨r14, hr, h1⟩ := bnd h1
        refine TL_callB [] (psalteryref23_record.ok0 hr) psalteryref23_record.fnb rfl ⟨trivial, ⟨trivial, ⟨trivial, trivial⟩⟩⟩ rfl trivial rfl ?_
        obtain ⟨g, h1⟩ := gd_t h1
        refine TL_ev env 2 rfl ⟨⟨trivial, ⟨trivial, g⟩⟩, ⟨trivial, trivial⟩⟩ ?_
        refine TL_end ?_
        obtain rfl := sinj h1
        refine tsn ?_
        exact SP_ren [(10400, 10300)] _ rfl ⟨rfl, rfl, trivial⟩ ⟨rfl, trivial⟩ rfl
      · replace h1 := bif_f h1 hb
        refine TC_skip ?_
        obtain rfl := sinj h1
        refine tsn ?_
        exact SP_ren [(10400, 10300)] _ rfl ⟨rfl, rfl, trivial⟩ ⟨rfl, trivial⟩ rfl
    · rintro x11 hz
      obtain rfl := hz.symm
      refine TE_go ?_
      refine TC_seq ?_
      refine TC_reg ?_
      refine TL_ev env 6 rfl ⟨trivial, ⟨trivial, ⟨⟨trivial, trivial⟩, ⟨trivial, ⟨⟨trivial, trivial⟩, ⟨⟨trivial, ⟨trivial, trivial⟩⟩, trivial⟩⟩⟩⟩⟩⟩ ?_
      refine TL_frz 1055 rfl ?_
      obtain ⟨r12, hr, h0⟩ := bnd h0
      refine TL_callB [] (psalteryref23_record.ok0 hr) psalteryref23_record.fnb rfl ⟨trivial, ⟨trivial, ⟨trivial, trivial⟩⟩⟩ rfl trivial rfl ?_
      obtain ⟨g, h0⟩ := gd_t h0
      refine TL_ev env 2 rfl ⟨⟨trivial, ⟨trivial, g⟩⟩, ⟨trivial, trivial⟩⟩ ?_
      refine TL_end ?_
      refine TE_go ?_
      refine TC_ret ?_
      obtain rfl := sinj h0
      exact TE_ret env rfl trivial trivial
theorem psalteryref23_Bytes.ok0 {K : Nat} {p0 : Int} {p1 : Int} {p2 : Int} {p3 : Int} {p4 : Int} {p5 : Int} {p6 : Int} {p7 : Int} {p8 : Int} {p9 : Int} {p10 : Int} {p11 : Int} {p12 : Int} {p13 : Int} {p14 : Int} {q0 : ByteArray} (h0 : psalteryref23_Bytes K p0 p1 p2 p3 p4 p5 p6 p7 p8 p9 p10 p11 p12 p13 p14 = some q0) : Fn Try.prog 49 [.agg [.int .i64 p0, .int .i64 p1, .int .i64 p2, .int .i64 p3, .int .i64 p4, .int .i64 p5, .int .i64 p6, .int .i64 p7, .int .i64 p8, .int .i64 p9, .int .i64 p10, .int .i64 p11, .int .i64 p12, .int .i64 p13, .int .i64 p14]] [] (.str q0) [] := psalteryref23_Bytes.ok h0
theorem psalteryref23_Bytes.fnb : fnb Try.prog 49 = true := fnb_of Try.func49 rfl
end Go.Fo
