/- Each call comes to the function that is written for it. -/
import Derived.Test.YtcaehpgdcjonfaaObT
import Derived.Test.YtcaehpgdcjonfaaObF
import Derived.Test.YtcaehpgdcjonfaaObP0
namespace Go.Fo
open Go.Proofs
set_option maxRecDepth 20000
set_option maxHeartbeats 4000000
def caps_Allows.res (_p0 : Int) (_p1 : Int) (_p2 : Int) (_p3 : Int) (_p4 : Int) (_p5 : Int) (_p6 : Int) (_p7 : Int) (_p8 : Int) (_p9 : Int) (_p10 : Int) (_p11 : Int) (_p12 : Int) (_p13 : Int) (_p14 : Int) (_p15 : Int) (_p16 : Int) (_p17 : Int) (_p18 : Int) (_p19 : Int) (_p20 : Int) (_p21 : Int) (_p22 : Int) (_p23 : Int) (_p24 : Int) (_p25 : Int) (_p26 : Int) : Bool → MV
  | q0 => .bool q0
def caps_Allows.out (_p0 : Int) (_p1 : Int) (_p2 : Int) (_p3 : Int) (_p4 : Int) (_p5 : Int) (_p6 : Int) (_p7 : Int) (_p8 : Int) (_p9 : Int) (_p10 : Int) (_p11 : Int) (_p12 : Int) (_p13 : Int) (_p14 : Int) (_p15 : Int) (_p16 : Int) (_p17 : Int) (_p18 : Int) (_p19 : Int) (_p20 : Int) (_p21 : Int) (_p22 : Int) (_p23 : Int) (_p24 : Int) (_p25 : Int) (_p26 : Int) : Bool → List (Nat × Option MObj)
  | _ => []
theorem caps_Allows.ok {K : Nat} {p0 : Int} {p1 : Int} {p2 : Int} {p3 : Int} {p4 : Int} {p5 : Int} {p6 : Int} {p7 : Int} {p8 : Int} {p9 : Int} {p10 : Int} {p11 : Int} {p12 : Int} {p13 : Int} {p14 : Int} {p15 : Int} {p16 : Int} {p17 : Int} {p18 : Int} {p19 : Int} {p20 : Int} {p21 : Int} {p22 : Int} {p23 : Int} {p24 : Int} {p25 : Int} {p26 : Int} {r : Bool} (h0 : caps_Allows K p0 p1 p2 p3 p4 p5 p6 p7 p8 p9 p10 p11 p12 p13 p14 p15 p16 p17 p18 p19 p20 p21 p22 p23 p24 p25 p26 = some r) : Fn Try.prog 45 [.agg [.int .i64 p0, .int .i64 p1, .int .i64 p2, .int .i64 p3, .int .i64 p4, .int .i64 p5, .int .i64 p6, .int .i64 p7, .int .i64 p8, .int .i64 p9, .int .i64 p10, .int .i64 p11, .int .i64 p12, .int .i64 p13, .int .i64 p14], .agg [.int .i64 p15, .int .i64 p16, .int .i64 p17, .int .i64 p18, .int .i64 p19, .int .i64 p20, .int .i64 p21, .int .i64 p22, .int .i64 p23, .int .i64 p24], .agg [.int .i64 p25, .int .i64 p26]] [] (caps_Allows.res p0 p1 p2 p3 p4 p5 p6 p7 p8 p9 p10 p11 p12 p13 p14 p15 p16 p17 p18 p19 p20 p21 p22 p23 p24 p25 p26 r) (caps_Allows.out p0 p1 p2 p3 p4 p5 p6 p7 p8 p9 p10 p11 p12 p13 p14 p15 p16 p17 p18 p19 p20 p21 p22 p23 p24 p25 p26 r) := by
  refine Fn_of Try.func45 rfl (Nat.le_of_ble_eq_true rfl) fun Γ => ?_
  refine TC_seq ?_
  refine TC_reg ?_
  refine TL_ev env 4 rfl ⟨tv, ⟨tv, ⟨tv, ⟨tv, tv⟩⟩⟩⟩ ?_
  refine TL_end ?_
  refine TE_go ?_
  refine TC_seq ?_
  refine TC_seq ?_
  obtain ⟨z1, h1, h0⟩ := bnd h0
  refine TC_cut (α := Bool) (fun s => z1 = s) (fun s => [(3, .p 10500 0), (4, .p 10501 0), (32, .bool s)]) (fun s => [(10500, some (.cells [.int .i64 p0, .int .i64 p1, .int .i64 p2, .int .i64 p3, .int .i64 p4, .int .i64 p5, .int .i64 p6, .int .i64 p7, .int .i64 p8, .int .i64 p9, .int .i64 p10, .int .i64 p11, .int .i64 p12, .int .i64 p13, .int .i64 p14])), (10501, some (.cells [.int .i64 p15, .int .i64 p16, .int .i64 p17, .int .i64 p18, .int .i64 p19, .int .i64 p20, .int .i64 p21, .int .i64 p22, .int .i64 p23, .int .i64 p24]))]) ?_ ?_
  · refine TC_reg ?_
    refine TL_ev env 1 rfl ⟨⟨tv, tv⟩, tv⟩ ?_
    obtain ⟨r128, hr, h1⟩ := bnd h1
    refine TL_callB [] (caps_Check.ok0 hr) caps_Check.fnb rfl ⟨tv, ⟨tv, tv⟩⟩ rfl tv rfl ?_
    refine TL_ev env 2 rfl ⟨⟨tv, ⟨tv, tv⟩⟩, ⟨tv, tv⟩⟩ ?_
    refine TL_split 12 rfl (fun hb => ?_) (fun hb => ?_)
    · replace h1 := bif_t h1 hb
      refine TL_gf (.bool false) rfl rfl rfl rfl rfl (by decide) ?_
      refine TL_gf (.bool false) rfl rfl rfl rfl rfl (by decide) ?_
      refine TL_gf (.bool false) rfl rfl rfl rfl rfl (by decide) ?_
      refine TL_ev env 2 rfl ⟨⟨tv, ⟨tv, fun e => e⟩⟩, ⟨tv, tv⟩⟩ ?_
      refine TL_gf (.bool false) rfl rfl rfl rfl rfl (by decide) ?_
      refine TL_gf (.bool false) rfl rfl rfl rfl rfl (by decide) ?_
      refine TL_gf (.bool false) rfl rfl rfl rfl rfl (by decide) ?_
      refine TL_gf (.bool false) rfl rfl rfl rfl rfl (by decide) ?_
      refine TL_gf (.bool false) rfl rfl rfl rfl rfl (by decide) ?_
      refine TL_gf (.bool false) rfl rfl rfl rfl rfl (by decide) ?_
      refine TL_ev env 2 rfl ⟨⟨tv, ⟨tv, fun e => e⟩⟩, ⟨tv, tv⟩⟩ ?_
      refine TL_gf (.bool false) rfl rfl rfl rfl rfl (by decide) ?_
      refine TL_gf (.bool false) rfl rfl rfl rfl rfl (by decide) ?_
      refine TL_gf (.bool false) rfl rfl rfl rfl rfl (by decide) ?_
      refine TL_gf (.bool false) rfl rfl rfl rfl rfl (by decide) ?_
      refine TL_gf (.bool false) rfl rfl rfl rfl rfl (by decide) ?_
      refine TL_gf (.bool false) rfl rfl rfl rfl rfl (by decide) ?_
      refine TL_ev env 1 rfl ⟨⟨tv, ⟨tv, fun e => e⟩⟩, tv⟩ ?_
      refine TL_end ?_
      obtain rfl := sinj h1
      refine tsn ?_
      exact SP_ren [(10500, 1003), (10501, 1004)] _ rfl ⟨rfl, rfl, rfl, tv⟩ ⟨rfl, rfl, tv⟩ rfl
    · replace h1 := bif_f h1 hb
      refine TL_gt rfl rfl rfl rfl ?_
      refine TL_ev env 1 rfl ⟨⟨tv, tv⟩, tv⟩ ?_
      refine TL_gt rfl rfl rfl rfl ?_
      obtain ⟨r129, hr, h1⟩ := bnd h1
      refine TL_callB [] (format_Check.ok0 hr) format_Check.fnb rfl ⟨tv, ⟨tv, tv⟩⟩ rfl tv rfl ?_
      refine TL_gt rfl rfl rfl rfl ?_
      refine TL_ev env 3 rfl ⟨⟨tv, ⟨tv, tv⟩⟩, ⟨⟨tv, ⟨tv, tv⟩⟩, ⟨tv, tv⟩⟩⟩ ?_
      refine TL_split 17 rfl (fun hb => ?_) (fun hb => ?_)
      · replace h1 := bif_t h1 hb
        refine TL_gf (.bool false) rfl rfl rfl rfl rfl (by decide) ?_
        refine TL_gf (.bool false) rfl rfl rfl rfl rfl (by decide) ?_
        refine TL_gf (.bool false) rfl rfl rfl rfl rfl (by decide) ?_
        refine TL_gf (.bool false) rfl rfl rfl rfl rfl (by decide) ?_
        refine TL_gf (.bool false) rfl rfl rfl rfl rfl (by decide) ?_
        refine TL_gf (.bool false) rfl rfl rfl rfl rfl (by decide) ?_
        refine TL_ev env 2 rfl ⟨⟨tv, ⟨tv, fun e => e⟩⟩, ⟨tv, tv⟩⟩ ?_
        refine TL_gf (.bool false) rfl rfl rfl rfl rfl (by decide) ?_
        refine TL_gf (.bool false) rfl rfl rfl rfl rfl (by decide) ?_
        refine TL_gf (.bool false) rfl rfl rfl rfl rfl (by decide) ?_
        refine TL_gf (.bool false) rfl rfl rfl rfl rfl (by decide) ?_
        refine TL_gf (.bool false) rfl rfl rfl rfl rfl (by decide) ?_
        refine TL_gf (.bool false) rfl rfl rfl rfl rfl (by decide) ?_
        refine TL_ev env 1 rfl ⟨⟨tv, ⟨tv, fun e => e⟩⟩, tv⟩ ?_
        refine TL_end ?_
        obtain rfl := sinj h1
        refine tsn ?_
        exact SP_ren [(10500, 1003), (10501, 1004)] _ rfl ⟨rfl, rfl, rfl, tv⟩ ⟨rfl, rfl, tv⟩ rfl
      · replace h1 := bif_f h1 hb
        refine TL_gt rfl rfl rfl rfl ?_
        refine TL_ev env 1 rfl ⟨tv, tv⟩ ?_
        refine TL_gt rfl rfl rfl rfl ?_
        refine TL_ev env 1 rfl ⟨⟨tv, tv⟩, tv⟩ ?_
        refine TL_gt rfl rfl rfl rfl ?_
        refine TL_ev env 1 rfl ⟨tv, tv⟩ ?_
        refine TL_gt rfl rfl rfl rfl ?_
        refine TL_ev env 1 rfl ⟨⟨tv, tv⟩, tv⟩ ?_
        refine TL_gt rfl rfl rfl rfl ?_
        obtain ⟨r130, hr, h1⟩ := bnd h1
        refine TL_callB [] (caps_span.ok0 hr) caps_span.fnb rfl ⟨tv, ⟨tv, ⟨tv, ⟨tv, ⟨tv, tv⟩⟩⟩⟩⟩ rfl tv rfl ?_
        refine TL_gt rfl rfl rfl rfl ?_
        refine TL_ev env 3 rfl ⟨tv, ⟨⟨tv, ⟨tv, tv⟩⟩, ⟨tv, tv⟩⟩⟩ ?_
        refine TL_split 25 rfl (fun hb => ?_) (fun hb => ?_)
        · replace h1 := bif_t h1 hb
          refine TL_gf (.bool false) rfl rfl rfl rfl rfl (by decide) ?_
          refine TL_gf (.bool false) rfl rfl rfl rfl rfl (by decide) ?_
          refine TL_gf (.bool false) rfl rfl rfl rfl rfl (by decide) ?_
          refine TL_gf (.bool false) rfl rfl rfl rfl rfl (by decide) ?_
          refine TL_gf (.bool false) rfl rfl rfl rfl rfl (by decide) ?_
          refine TL_gf (.bool false) rfl rfl rfl rfl rfl (by decide) ?_
          refine TL_ev env 1 rfl ⟨⟨tv, ⟨tv, fun e => e⟩⟩, tv⟩ ?_
          refine TL_end ?_
          obtain rfl := sinj h1
          refine tsn ?_
          exact SP_ren [(10500, 1003), (10501, 1004)] _ rfl ⟨rfl, rfl, rfl, tv⟩ ⟨rfl, rfl, tv⟩ rfl
        · replace h1 := bif_f h1 hb
          refine TL_gt rfl rfl rfl rfl ?_
          refine TL_ev env 1 rfl ⟨tv, tv⟩ ?_
          refine TL_gt rfl rfl rfl rfl ?_
          refine TL_ev env 1 rfl ⟨⟨tv, tv⟩, tv⟩ ?_
          refine TL_gt rfl rfl rfl rfl ?_
          refine TL_ev env 1 rfl ⟨tv, tv⟩ ?_
          refine TL_gt rfl rfl rfl rfl ?_
          refine TL_ev env 1 rfl ⟨⟨tv, tv⟩, tv⟩ ?_
          refine TL_gt rfl rfl rfl rfl ?_
          obtain ⟨r131, hr, h1⟩ := bnd h1
          refine TL_callB [] (caps_span.ok0 hr) caps_span.fnb rfl ⟨tv, ⟨tv, ⟨tv, ⟨tv, ⟨tv, tv⟩⟩⟩⟩⟩ rfl tv rfl ?_
          refine TL_gt rfl rfl rfl rfl ?_
          refine TL_ev env 2 rfl ⟨tv, ⟨⟨tv, ⟨tv, tv⟩⟩, tv⟩⟩ ?_
          refine TL_end ?_
          obtain rfl := sinj h1
          refine tsn ?_
          exact SP_ren [(10500, 1003), (10501, 1004)] _ rfl ⟨rfl, rfl, rfl, tv⟩ ⟨rfl, rfl, tv⟩ rfl
  · rintro x46 hz
    obtain rfl := hz.symm
    refine TE_go ?_
    refine TC_cond rfl (fun hb => ?_) (fun hb => ?_)
    · replace h0 := bif_t h0 hb
      refine TC_seq ?_
      refine TC_reg ?_
      refine TL_ev env 1 rfl ⟨tv, tv⟩ ?_
      refine TL_end ?_
      refine TE_go ?_
      refine TC_ret ?_
      refine tsr ?_
      obtain rfl := sinj h0
      exact TE_ret env rfl tv tv
    · replace h0 := bif_f h0 hb
      refine TC_skip ?_
      refine TE_go ?_
      refine TC_seq ?_
      refine TC_seq ?_
      refine TC_reg ?_
      refine TL_ev env 3 rfl ⟨tv, ⟨⟨tv, tv⟩, ⟨⟨tv, ⟨tv, tv⟩⟩, tv⟩⟩⟩ ?_
      refine TL_end ?_
      refine TE_go ?_
      refine TC_cond rfl (fun hb => ?_) (fun hb => ?_)
      · replace h0 := bif_t h0 hb
        refine TC_seq ?_
        refine TC_reg ?_
        refine TL_ev env 4 rfl ⟨tv, ⟨⟨tv, tv⟩, ⟨tv, ⟨⟨tv, tv⟩, tv⟩⟩⟩⟩ ?_
        refine TL_end ?_
        refine TE_go ?_
        refine TC_seq ?_
        obtain ⟨z1, h1, h0⟩ := bnd h0
        refine TC_cut (α := Bool) (fun s => z1 = s) (fun s => [(6, .bool s)]) (fun s => []) ?_ ?_
        · refine TC_reg ?_
          refine TL_ev env 4 rfl ⟨tv, ⟨⟨tv, tv⟩, ⟨tv, ⟨⟨tv, tv⟩, tv⟩⟩⟩⟩ ?_
          obtain ⟨r63, hr, h1⟩ := bnd h1
          refine TL_callB [] (caps_in.ok0 hr) caps_in.fnb rfl ⟨tv, ⟨tv, ⟨tv, tv⟩⟩⟩ rfl tv rfl ?_
          refine TL_ev env 1 rfl ⟨tv, tv⟩ ?_
          refine TL_split 43 rfl (fun hb => ?_) (fun hb => ?_)
          · replace h1 := bif_t h1 hb
            refine TL_gt rfl rfl rfl rfl ?_
            refine TL_ev env 1 rfl ⟨tv, tv⟩ ?_
            refine TL_gt rfl rfl rfl rfl ?_
            refine TL_ev env 1 rfl ⟨⟨tv, tv⟩, tv⟩ ?_
            refine TL_gt rfl rfl rfl rfl ?_
            refine TL_ev env 1 rfl ⟨tv, tv⟩ ?_
            refine TL_gt rfl rfl rfl rfl ?_
            refine TL_ev env 1 rfl ⟨⟨tv, tv⟩, tv⟩ ?_
            refine TL_gt rfl rfl rfl rfl ?_
            refine TL_ev env 1 rfl ⟨⟨tv, ⟨tv, tv⟩⟩, tv⟩ ?_
            refine TL_gt rfl rfl rfl rfl ?_
            obtain ⟨r65, hr, h1⟩ := bnd h1
            refine TL_callB [] (caps_in.ok0 hr) caps_in.fnb rfl ⟨tv, ⟨tv, ⟨tv, tv⟩⟩⟩ rfl tv rfl ?_
            refine TL_ev env 2 rfl ⟨⟨tv, ⟨tv, tv⟩⟩, ⟨tv, tv⟩⟩ ?_
            refine TL_split 51 rfl (fun hb => ?_) (fun hb => ?_)
            · replace h1 := bif_t h1 hb
              refine TL_gt rfl rfl rfl rfl ?_
              refine TL_ev env 1 rfl ⟨tv, tv⟩ ?_
              refine TL_gt rfl rfl rfl rfl ?_
              refine TL_ev env 1 rfl ⟨⟨tv, tv⟩, tv⟩ ?_
              refine TL_gt rfl rfl rfl rfl ?_
              refine TL_ev env 1 rfl ⟨tv, tv⟩ ?_
              refine TL_gt rfl rfl rfl rfl ?_
              refine TL_ev env 1 rfl ⟨⟨tv, tv⟩, tv⟩ ?_
              refine TL_gt rfl rfl rfl rfl ?_
              refine TL_ev env 1 rfl ⟨⟨tv, ⟨tv, (by decide)⟩⟩, tv⟩ ?_
              refine TL_gt rfl rfl rfl rfl ?_
              obtain ⟨r67, hr, h1⟩ := bnd h1
              refine TL_callB [] (caps_in.ok0 hr) caps_in.fnb rfl ⟨tv, ⟨tv, ⟨tv, tv⟩⟩⟩ rfl tv rfl ?_
              refine TL_ev env 2 rfl ⟨⟨tv, ⟨tv, tv⟩⟩, ⟨tv, tv⟩⟩ ?_
              refine TL_split 59 rfl (fun hb => ?_) (fun hb => ?_)
              · replace h1 := bif_t h1 hb
                refine TL_gt rfl rfl rfl rfl ?_
                refine TL_ev env 1 rfl ⟨tv, tv⟩ ?_
                refine TL_gt rfl rfl rfl rfl ?_
                refine TL_ev env 1 rfl ⟨⟨tv, tv⟩, tv⟩ ?_
                refine TL_gt rfl rfl rfl rfl ?_
                refine TL_ev env 1 rfl ⟨tv, tv⟩ ?_
                refine TL_gt rfl rfl rfl rfl ?_
                refine TL_ev env 1 rfl ⟨⟨tv, tv⟩, tv⟩ ?_
                refine TL_gt rfl rfl rfl rfl ?_
                refine TL_ev env 1 rfl ⟨⟨tv, ⟨tv, (by decide)⟩⟩, tv⟩ ?_
                refine TL_gt rfl rfl rfl rfl ?_
                refine TL_ev env 1 rfl ⟨⟨tv, ⟨tv, tv⟩⟩, tv⟩ ?_
                refine TL_gt rfl rfl rfl rfl ?_
                obtain ⟨r70, hr, h1⟩ := bnd h1
                refine TL_callB [] (caps_in.ok0 hr) caps_in.fnb rfl ⟨tv, ⟨tv, ⟨tv, tv⟩⟩⟩ rfl tv rfl ?_
                refine TL_ev env 2 rfl ⟨⟨tv, ⟨tv, tv⟩⟩, ⟨tv, tv⟩⟩ ?_
                refine TL_split 68 rfl (fun hb => ?_) (fun hb => ?_)
                · replace h1 := bif_t h1 hb
                  refine TL_gt rfl rfl rfl rfl ?_
                  refine TL_ev env 1 rfl ⟨tv, tv⟩ ?_
                  refine TL_gt rfl rfl rfl rfl ?_
                  refine TL_ev env 1 rfl ⟨⟨tv, tv⟩, tv⟩ ?_
                  refine TL_gt rfl rfl rfl rfl ?_
                  refine TL_ev env 1 rfl ⟨tv, tv⟩ ?_
                  refine TL_gt rfl rfl rfl rfl ?_
                  refine TL_ev env 1 rfl ⟨⟨tv, tv⟩, tv⟩ ?_
                  refine TL_gt rfl rfl rfl rfl ?_
                  obtain ⟨r71, hr, h1⟩ := bnd h1
                  refine TL_callB [] (caps_in.ok0 hr) caps_in.fnb rfl ⟨tv, ⟨tv, ⟨tv, tv⟩⟩⟩ rfl tv rfl ?_
                  refine TL_ev env 2 rfl ⟨⟨tv, ⟨tv, tv⟩⟩, ⟨tv, tv⟩⟩ ?_
                  refine TL_split 75 rfl (fun hb => ?_) (fun hb => ?_)
                  · replace h1 := bif_t h1 hb
                    refine TL_gt rfl rfl rfl rfl ?_
                    refine TL_ev env 1 rfl ⟨tv, tv⟩ ?_
                    refine TL_gt rfl rfl rfl rfl ?_
                    refine TL_ev env 1 rfl ⟨⟨tv, tv⟩, tv⟩ ?_
                    refine TL_gt rfl rfl rfl rfl ?_
                    refine TL_ev env 1 rfl ⟨tv, tv⟩ ?_
                    refine TL_gt rfl rfl rfl rfl ?_
                    refine TL_ev env 1 rfl ⟨⟨tv, tv⟩, tv⟩ ?_
                    refine TL_gt rfl rfl rfl rfl ?_
                    obtain ⟨r72, hr, h1⟩ := bnd h1
                    refine TL_callB [] (caps_in.ok0 hr) caps_in.fnb rfl ⟨tv, ⟨tv, ⟨tv, tv⟩⟩⟩ rfl tv rfl ?_
                    refine TL_ev env 2 rfl ⟨⟨tv, ⟨tv, tv⟩⟩, ⟨tv, tv⟩⟩ ?_
                    refine TL_split 82 rfl (fun hb => ?_) (fun hb => ?_)
                    · replace h1 := bif_t h1 hb
                      refine TL_gt rfl rfl rfl rfl ?_
                      refine TL_ev env 1 rfl ⟨tv, tv⟩ ?_
                      refine TL_gt rfl rfl rfl rfl ?_
                      refine TL_ev env 1 rfl ⟨⟨tv, tv⟩, tv⟩ ?_
                      refine TL_gt rfl rfl rfl rfl ?_
                      refine TL_ev env 1 rfl ⟨tv, tv⟩ ?_
                      refine TL_gt rfl rfl rfl rfl ?_
                      refine TL_ev env 1 rfl ⟨⟨tv, tv⟩, tv⟩ ?_
                      refine TL_gt rfl rfl rfl rfl ?_
                      refine TL_ev env 1 rfl ⟨tv, tv⟩ ?_
                      refine TL_gt rfl rfl rfl rfl ?_
                      refine TL_ev env 1 rfl ⟨⟨tv, tv⟩, tv⟩ ?_
                      refine TL_gt rfl rfl rfl rfl ?_
                      refine TL_ev env 1 rfl ⟨tv, tv⟩ ?_
                      refine TL_gt rfl rfl rfl rfl ?_
                      refine TL_ev env 1 rfl ⟨⟨tv, tv⟩, tv⟩ ?_
                      refine TL_gt rfl rfl rfl rfl ?_
                      obtain ⟨r73, hr, h1⟩ := bnd h1
                      refine TL_callB [] (caps_span.ok0 hr) caps_span.fnb rfl ⟨tv, ⟨tv, ⟨tv, ⟨tv, ⟨tv, tv⟩⟩⟩⟩⟩ rfl tv rfl ?_
                      refine TL_ev env 2 rfl ⟨⟨tv, ⟨tv, tv⟩⟩, ⟨tv, tv⟩⟩ ?_
                      refine TL_end ?_
                      obtain rfl := sinj h1
                      refine tsn ?_
                      exact SP_ren [] _ rfl ⟨rfl, tv⟩ tv rfl
                    · replace h1 := bif_f h1 hb
                      refine TL_gf (.bool false) rfl rfl rfl rfl rfl (by decide) ?_
                      refine TL_gf (.bool false) rfl rfl rfl rfl rfl (by decide) ?_
                      refine TL_gf (.bool false) rfl rfl rfl rfl rfl (by decide) ?_
                      refine TL_gf (.bool false) rfl rfl rfl rfl rfl (by decide) ?_
                      refine TL_gf (.bool false) rfl rfl rfl rfl rfl (by decide) ?_
                      refine TL_gf (.bool false) rfl rfl rfl rfl rfl (by decide) ?_
                      refine TL_gf (.bool false) rfl rfl rfl rfl rfl (by decide) ?_
                      refine TL_gf (.bool false) rfl rfl rfl rfl rfl (by decide) ?_
                      refine TL_gf (.bool false) rfl rfl rfl rfl rfl (by decide) ?_
                      refine TL_ev env 2 rfl ⟨⟨tv, ⟨fun e => e, tv⟩⟩, ⟨tv, tv⟩⟩ ?_
                      refine TL_end ?_
                      obtain rfl := sinj h1
                      refine tsn ?_
                      exact SP_ren [] _ rfl ⟨rfl, tv⟩ tv rfl
                  · replace h1 := bif_f h1 hb
                    refine TL_gf (.bool false) rfl rfl rfl rfl rfl (by decide) ?_
                    refine TL_gf (.bool false) rfl rfl rfl rfl rfl (by decide) ?_
                    refine TL_gf (.bool false) rfl rfl rfl rfl rfl (by decide) ?_
                    refine TL_gf (.bool false) rfl rfl rfl rfl rfl (by decide) ?_
                    refine TL_gf (.bool false) rfl rfl rfl rfl rfl (by decide) ?_
                    refine TL_ev env 2 rfl ⟨⟨tv, ⟨fun e => e, tv⟩⟩, ⟨tv, tv⟩⟩ ?_
                    refine TL_gf (.bool false) rfl rfl rfl rfl rfl (by decide) ?_
                    refine TL_gf (.bool false) rfl rfl rfl rfl rfl (by decide) ?_
                    refine TL_gf (.bool false) rfl rfl rfl rfl rfl (by decide) ?_
                    refine TL_gf (.bool false) rfl rfl rfl rfl rfl (by decide) ?_
                    refine TL_gf (.bool false) rfl rfl rfl rfl rfl (by decide) ?_
                    refine TL_gf (.bool false) rfl rfl rfl rfl rfl (by decide) ?_
                    refine TL_gf (.bool false) rfl rfl rfl rfl rfl (by decide) ?_
                    refine TL_gf (.bool false) rfl rfl rfl rfl rfl (by decide) ?_
                    refine TL_gf (.bool false) rfl rfl rfl rfl rfl (by decide) ?_
                    refine TL_ev env 2 rfl ⟨⟨tv, ⟨fun e => e, tv⟩⟩, ⟨tv, tv⟩⟩ ?_
                    refine TL_end ?_
                    obtain rfl := sinj h1
                    refine tsn ?_
                    exact SP_ren [] _ rfl ⟨rfl, tv⟩ tv rfl
                · replace h1 := bif_f h1 hb
                  refine TL_gf (.bool false) rfl rfl rfl rfl rfl (by decide) ?_
                  refine TL_gf (.bool false) rfl rfl rfl rfl rfl (by decide) ?_
                  refine TL_gf (.bool false) rfl rfl rfl rfl rfl (by decide) ?_
                  refine TL_gf (.bool false) rfl rfl rfl rfl rfl (by decide) ?_
                  refine TL_gf (.bool false) rfl rfl rfl rfl rfl (by decide) ?_
                  refine TL_ev env 2 rfl ⟨⟨tv, ⟨fun e => e, tv⟩⟩, ⟨tv, tv⟩⟩ ?_
                  refine TL_gf (.bool false) rfl rfl rfl rfl rfl (by decide) ?_
                  refine TL_gf (.bool false) rfl rfl rfl rfl rfl (by decide) ?_
                  refine TL_gf (.bool false) rfl rfl rfl rfl rfl (by decide) ?_
                  refine TL_gf (.bool false) rfl rfl rfl rfl rfl (by decide) ?_
                  refine TL_gf (.bool false) rfl rfl rfl rfl rfl (by decide) ?_
                  refine TL_ev env 2 rfl ⟨⟨tv, ⟨fun e => e, tv⟩⟩, ⟨tv, tv⟩⟩ ?_
                  refine TL_gf (.bool false) rfl rfl rfl rfl rfl (by decide) ?_
                  refine TL_gf (.bool false) rfl rfl rfl rfl rfl (by decide) ?_
                  refine TL_gf (.bool false) rfl rfl rfl rfl rfl (by decide) ?_
                  refine TL_gf (.bool false) rfl rfl rfl rfl rfl (by decide) ?_
                  refine TL_gf (.bool false) rfl rfl rfl rfl rfl (by decide) ?_
                  refine TL_gf (.bool false) rfl rfl rfl rfl rfl (by decide) ?_
                  refine TL_gf (.bool false) rfl rfl rfl rfl rfl (by decide) ?_
                  refine TL_gf (.bool false) rfl rfl rfl rfl rfl (by decide) ?_
                  refine TL_gf (.bool false) rfl rfl rfl rfl rfl (by decide) ?_
                  refine TL_ev env 2 rfl ⟨⟨tv, ⟨fun e => e, tv⟩⟩, ⟨tv, tv⟩⟩ ?_
                  refine TL_end ?_
                  obtain rfl := sinj h1
                  refine tsn ?_
                  exact SP_ren [] _ rfl ⟨rfl, tv⟩ tv rfl
              · replace h1 := bif_f h1 hb
                refine TL_gf (.bool false) rfl rfl rfl rfl rfl (by decide) ?_
                refine TL_gf (.bool false) rfl rfl rfl rfl rfl (by decide) ?_
                refine TL_gf (.bool false) rfl rfl rfl rfl rfl (by decide) ?_
                refine TL_gf (.bool false) rfl rfl rfl rfl rfl (by decide) ?_
                refine TL_gf (.bool false) rfl rfl rfl rfl rfl (by decide) ?_
                refine TL_gf (.bool false) rfl rfl rfl rfl rfl (by decide) ?_
                refine TL_gf (.bool false) rfl rfl rfl rfl rfl (by decide) ?_
                refine TL_ev env 2 rfl ⟨⟨tv, ⟨fun e => e, tv⟩⟩, ⟨tv, tv⟩⟩ ?_
                refine TL_gf (.bool false) rfl rfl rfl rfl rfl (by decide) ?_
                refine TL_gf (.bool false) rfl rfl rfl rfl rfl (by decide) ?_
                refine TL_gf (.bool false) rfl rfl rfl rfl rfl (by decide) ?_
                refine TL_gf (.bool false) rfl rfl rfl rfl rfl (by decide) ?_
                refine TL_gf (.bool false) rfl rfl rfl rfl rfl (by decide) ?_
                refine TL_ev env 2 rfl ⟨⟨tv, ⟨fun e => e, tv⟩⟩, ⟨tv, tv⟩⟩ ?_
                refine TL_gf (.bool false) rfl rfl rfl rfl rfl (by decide) ?_
                refine TL_gf (.bool false) rfl rfl rfl rfl rfl (by decide) ?_
                refine TL_gf (.bool false) rfl rfl rfl rfl rfl (by decide) ?_
                refine TL_gf (.bool false) rfl rfl rfl rfl rfl (by decide) ?_
                refine TL_gf (.bool false) rfl rfl rfl rfl rfl (by decide) ?_
                refine TL_ev env 2 rfl ⟨⟨tv, ⟨fun e => e, tv⟩⟩, ⟨tv, tv⟩⟩ ?_
                refine TL_gf (.bool false) rfl rfl rfl rfl rfl (by decide) ?_
                refine TL_gf (.bool false) rfl rfl rfl rfl rfl (by decide) ?_
                refine TL_gf (.bool false) rfl rfl rfl rfl rfl (by decide) ?_
                refine TL_gf (.bool false) rfl rfl rfl rfl rfl (by decide) ?_
                refine TL_gf (.bool false) rfl rfl rfl rfl rfl (by decide) ?_
                refine TL_gf (.bool false) rfl rfl rfl rfl rfl (by decide) ?_
                refine TL_gf (.bool false) rfl rfl rfl rfl rfl (by decide) ?_
                refine TL_gf (.bool false) rfl rfl rfl rfl rfl (by decide) ?_
                refine TL_gf (.bool false) rfl rfl rfl rfl rfl (by decide) ?_
                refine TL_ev env 2 rfl ⟨⟨tv, ⟨fun e => e, tv⟩⟩, ⟨tv, tv⟩⟩ ?_
                refine TL_end ?_
                obtain rfl := sinj h1
                refine tsn ?_
                exact SP_ren [] _ rfl ⟨rfl, tv⟩ tv rfl
            · replace h1 := bif_f h1 hb
              refine TL_gf (.bool false) rfl rfl rfl rfl rfl (by decide) ?_
              refine TL_gf (.bool false) rfl rfl rfl rfl rfl (by decide) ?_
              refine TL_gf (.bool false) rfl rfl rfl rfl rfl (by decide) ?_
              refine TL_gf (.bool false) rfl rfl rfl rfl rfl (by decide) ?_
              refine TL_gf (.bool false) rfl rfl rfl rfl rfl (by decide) ?_
              refine TL_gf (.bool false) rfl rfl rfl rfl rfl (by decide) ?_
              refine TL_ev env 2 rfl ⟨⟨tv, ⟨fun e => e, tv⟩⟩, ⟨tv, tv⟩⟩ ?_
              refine TL_gf (.bool false) rfl rfl rfl rfl rfl (by decide) ?_
              refine TL_gf (.bool false) rfl rfl rfl rfl rfl (by decide) ?_
              refine TL_gf (.bool false) rfl rfl rfl rfl rfl (by decide) ?_
              refine TL_gf (.bool false) rfl rfl rfl rfl rfl (by decide) ?_
              refine TL_gf (.bool false) rfl rfl rfl rfl rfl (by decide) ?_
              refine TL_gf (.bool false) rfl rfl rfl rfl rfl (by decide) ?_
              refine TL_gf (.bool false) rfl rfl rfl rfl rfl (by decide) ?_
              refine TL_ev env 2 rfl ⟨⟨tv, ⟨fun e => e, tv⟩⟩, ⟨tv, tv⟩⟩ ?_
              refine TL_gf (.bool false) rfl rfl rfl rfl rfl (by decide) ?_
              refine TL_gf (.bool false) rfl rfl rfl rfl rfl (by decide) ?_
              refine TL_gf (.bool false) rfl rfl rfl rfl rfl (by decide) ?_
              refine TL_gf (.bool false) rfl rfl rfl rfl rfl (by decide) ?_
              refine TL_gf (.bool false) rfl rfl rfl rfl rfl (by decide) ?_
              refine TL_ev env 2 rfl ⟨⟨tv, ⟨fun e => e, tv⟩⟩, ⟨tv, tv⟩⟩ ?_
              refine TL_gf (.bool false) rfl rfl rfl rfl rfl (by decide) ?_
              refine TL_gf (.bool false) rfl rfl rfl rfl rfl (by decide) ?_
              refine TL_gf (.bool false) rfl rfl rfl rfl rfl (by decide) ?_
              refine TL_gf (.bool false) rfl rfl rfl rfl rfl (by decide) ?_
              refine TL_gf (.bool false) rfl rfl rfl rfl rfl (by decide) ?_
              refine TL_ev env 2 rfl ⟨⟨tv, ⟨fun e => e, tv⟩⟩, ⟨tv, tv⟩⟩ ?_
              refine TL_gf (.bool false) rfl rfl rfl rfl rfl (by decide) ?_
              refine TL_gf (.bool false) rfl rfl rfl rfl rfl (by decide) ?_
              refine TL_gf (.bool false) rfl rfl rfl rfl rfl (by decide) ?_
              refine TL_gf (.bool false) rfl rfl rfl rfl rfl (by decide) ?_
              refine TL_gf (.bool false) rfl rfl rfl rfl rfl (by decide) ?_
              refine TL_gf (.bool false) rfl rfl rfl rfl rfl (by decide) ?_
              refine TL_gf (.bool false) rfl rfl rfl rfl rfl (by decide) ?_
              refine TL_gf (.bool false) rfl rfl rfl rfl rfl (by decide) ?_
              refine TL_gf (.bool false) rfl rfl rfl rfl rfl (by decide) ?_
              refine TL_ev env 2 rfl ⟨⟨tv, ⟨fun e => e, tv⟩⟩, ⟨tv, tv⟩⟩ ?_
              refine TL_end ?_
              obtain rfl := sinj h1
              refine tsn ?_
              exact SP_ren [] _ rfl ⟨rfl, tv⟩ tv rfl
          · replace h1 := bif_f h1 hb
            refine TL_gf (.bool false) rfl rfl rfl rfl rfl (by decide) ?_
            refine TL_gf (.bool false) rfl rfl rfl rfl rfl (by decide) ?_
            refine TL_gf (.bool false) rfl rfl rfl rfl rfl (by decide) ?_
            refine TL_gf (.bool false) rfl rfl rfl rfl rfl (by decide) ?_
            refine TL_gf (.bool false) rfl rfl rfl rfl rfl (by decide) ?_
            refine TL_gf (.bool false) rfl rfl rfl rfl rfl (by decide) ?_
            refine TL_ev env 2 rfl ⟨⟨tv, ⟨fun e => e, tv⟩⟩, ⟨tv, tv⟩⟩ ?_
            refine TL_gf (.bool false) rfl rfl rfl rfl rfl (by decide) ?_
            refine TL_gf (.bool false) rfl rfl rfl rfl rfl (by decide) ?_
            refine TL_gf (.bool false) rfl rfl rfl rfl rfl (by decide) ?_
            refine TL_gf (.bool false) rfl rfl rfl rfl rfl (by decide) ?_
            refine TL_gf (.bool false) rfl rfl rfl rfl rfl (by decide) ?_
            refine TL_gf (.bool false) rfl rfl rfl rfl rfl (by decide) ?_
            refine TL_ev env 2 rfl ⟨⟨tv, ⟨fun e => e, tv⟩⟩, ⟨tv, tv⟩⟩ ?_
            refine TL_gf (.bool false) rfl rfl rfl rfl rfl (by decide) ?_
            refine TL_gf (.bool false) rfl rfl rfl rfl rfl (by decide) ?_
            refine TL_gf (.bool false) rfl rfl rfl rfl rfl (by decide) ?_
            refine TL_gf (.bool false) rfl rfl rfl rfl rfl (by decide) ?_
            refine TL_gf (.bool false) rfl rfl rfl rfl rfl (by decide) ?_
            refine TL_gf (.bool false) rfl rfl rfl rfl rfl (by decide) ?_
            refine TL_gf (.bool false) rfl rfl rfl rfl rfl (by decide) ?_
            refine TL_ev env 2 rfl ⟨⟨tv, ⟨fun e => e, tv⟩⟩, ⟨tv, tv⟩⟩ ?_
            refine TL_gf (.bool false) rfl rfl rfl rfl rfl (by decide) ?_
            refine TL_gf (.bool false) rfl rfl rfl rfl rfl (by decide) ?_
            refine TL_gf (.bool false) rfl rfl rfl rfl rfl (by decide) ?_
            refine TL_gf (.bool false) rfl rfl rfl rfl rfl (by decide) ?_
            refine TL_gf (.bool false) rfl rfl rfl rfl rfl (by decide) ?_
            refine TL_ev env 2 rfl ⟨⟨tv, ⟨fun e => e, tv⟩⟩, ⟨tv, tv⟩⟩ ?_
            refine TL_gf (.bool false) rfl rfl rfl rfl rfl (by decide) ?_
            refine TL_gf (.bool false) rfl rfl rfl rfl rfl (by decide) ?_
            refine TL_gf (.bool false) rfl rfl rfl rfl rfl (by decide) ?_
            refine TL_gf (.bool false) rfl rfl rfl rfl rfl (by decide) ?_
            refine TL_gf (.bool false) rfl rfl rfl rfl rfl (by decide) ?_
            refine TL_ev env 2 rfl ⟨⟨tv, ⟨fun e => e, tv⟩⟩, ⟨tv, tv⟩⟩ ?_
            refine TL_gf (.bool false) rfl rfl rfl rfl rfl (by decide) ?_
            refine TL_gf (.bool false) rfl rfl rfl rfl rfl (by decide) ?_
            refine TL_gf (.bool false) rfl rfl rfl rfl rfl (by decide) ?_
            refine TL_gf (.bool false) rfl rfl rfl rfl rfl (by decide) ?_
            refine TL_gf (.bool false) rfl rfl rfl rfl rfl (by decide) ?_
            refine TL_gf (.bool false) rfl rfl rfl rfl rfl (by decide) ?_
            refine TL_gf (.bool false) rfl rfl rfl rfl rfl (by decide) ?_
            refine TL_gf (.bool false) rfl rfl rfl rfl rfl (by decide) ?_
            refine TL_gf (.bool false) rfl rfl rfl rfl rfl (by decide) ?_
            refine TL_ev env 2 rfl ⟨⟨tv, ⟨fun e => e, tv⟩⟩, ⟨tv, tv⟩⟩ ?_
            refine TL_end ?_
            obtain rfl := sinj h1
            refine tsn ?_
            exact SP_ren [] _ rfl ⟨rfl, tv⟩ tv rfl
        · rintro x62 hz
          obtain rfl := hz.symm
          refine TE_go ?_
          refine TC_ret ?_
          refine tsr ?_
          obtain rfl := sinj h0
          exact TE_ret env rfl tv tv
      · replace h0 := bif_f h0 hb
        refine TC_skip ?_
        refine TE_go ?_
        refine TC_seq ?_
        refine TC_reg ?_
        refine TL_ev env 4 rfl ⟨tv, ⟨⟨tv, tv⟩, ⟨tv, ⟨⟨tv, tv⟩, tv⟩⟩⟩⟩ ?_
        refine TL_end ?_
        refine TE_go ?_
        refine TC_seq ?_
        obtain ⟨z1, h1, h0⟩ := bnd h0
        refine TC_cut (α := Bool) (fun s => z1 = s) (fun s => [(6, .bool s)]) (fun s => []) ?_ ?_
        · refine TC_renw (A' := [(4, .p 10501 0), (8, .p 1008 0)]) (L' := [(10501, some (.cells [.int .i64 _, .int .i64 _, .int .i64 _, .int .i64 _, .int .i64 _, .int .i64 _, .int .i64 _, .int .i64 _, .int .i64 _, .int .i64 _])), (1008, some (.cells [.int .i64 _, .int .i64 _, .int .i64 _, .int .i64 _, .int .i64 _]))]) [] ⟨rfl, rfl, tv⟩ ⟨rfl, rfl, tv⟩ rfl ?_
          refine TC_drawR ⟨_, fun i => ([[], [0], [], [2], [3, 2, 1, 0], [4, 3, 2, 1, 0], [5, 4, 3, 2, 1, 0], [6, 5, 4, 3, 2, 1, 0], [5, 4, 3, 2, 1, 0], [8, 5, 4, 3, 2, 1, 0], [9, 8, 5, 4, 3, 2, 1, 0], [10, 9, 8, 7, 6, 5, 4, 3, 2, 1, 0], [11, 10, 9, 8, 7, 6, 5, 4, 3, 2, 1, 0], [12, 11, 10, 9, 8, 7, 6, 5, 4, 3, 2, 1, 0], [13, 12, 11, 10, 9, 8, 7, 6, 5, 4, 3, 2, 1, 0], [14, 13, 12, 11, 10, 9, 8, 7, 6, 5, 4, 3, 2, 1, 0], [13, 12, 11, 10, 9, 8, 7, 6, 5, 4, 3, 2, 1, 0], [13, 12, 11, 10, 9, 8, 7, 6, 5, 4, 3, 2, 1, 0], [17, 13, 12, 11, 10, 9, 8, 7, 6, 5, 4, 3, 2, 1, 0], [18, 17, 16, 13, 12, 11, 10, 9, 8, 7, 6, 5, 4, 3, 2, 1, 0], [19, 18, 17, 16, 15, 14, 13, 12, 11, 10, 9, 8, 7, 6, 5, 4, 3, 2, 1, 0], [20, 19, 18, 17, 16, 15, 14, 13, 12, 11, 10, 9, 8, 7, 6, 5, 4, 3, 2, 1, 0], [21, 20, 19, 18, 17, 16, 15, 14, 13, 12, 11, 10, 9, 8, 7, 6, 5, 4, 3, 2, 1, 0], [22, 21, 20, 19, 18, 17, 16, 15, 14, 13, 12, 11, 10, 9, 8, 7, 6, 5, 4, 3, 2, 1, 0], [23, 22, 21, 20, 19, 18, 17, 16, 15, 14, 13, 12, 11, 10, 9, 8, 7, 6, 5, 4, 3, 2, 1, 0], [22, 21, 20, 19, 18, 17, 16, 15, 14, 13, 12, 11, 10, 9, 8, 7, 6, 5, 4, 3, 2, 1, 0], [25, 22, 21, 20, 19, 18, 17, 16, 15, 14, 13, 12, 11, 10, 9, 8, 7, 6, 5, 4, 3, 2, 1, 0], [22, 21, 20, 19, 18, 17, 16, 15, 14, 13, 12, 11, 10, 9, 8, 7, 6, 5, 4, 3, 2, 1, 0], [27, 22, 21, 20, 19, 18, 17, 16, 15, 14, 13, 12, 11, 10, 9, 8, 7, 6, 5, 4, 3, 2, 1, 0], [22, 21, 20, 19, 18, 17, 16, 15, 14, 13, 12, 11, 10, 9, 8, 7, 6, 5, 4, 3, 2, 1, 0], [29, 22, 21, 20, 19, 18, 17, 16, 15, 14, 13, 12, 11, 10, 9, 8, 7, 6, 5, 4, 3, 2, 1, 0], [30, 29, 28, 27, 26, 25, 24, 23, 22, 21, 20, 19, 18, 17, 16, 15, 14, 13, 12, 11, 10, 9, 8, 7, 6, 5, 4, 3, 2, 1, 0], [31, 30, 29, 28, 27, 26, 25, 24, 23, 22, 21, 20, 19, 18, 17, 16, 15, 14, 13, 12, 11, 10, 9, 8, 7, 6, 5, 4, 3, 2, 1, 0], [32, 31, 30, 29, 28, 27, 26, 25, 24, 23, 22, 21, 20, 19, 18, 17, 16, 15, 14, 13, 12, 11, 10, 9, 8, 7, 6, 5, 4, 3, 2, 1, 0]] : List (List Nat)).getD i [], fun i => ([[], [], [], [], [], [], [], [], [], [], [], [], [], [], [], [], [], [], [], [], [], [], [], [], [], [], [], [], [], [], [], [], [], []] : List (List Nat)).getD i [], fun i => ([[], [], [], [], [], [], [], [], [], [], [], [], [], [], [], [], [], [], [], [], [], [], [], [], [], [], [], [], [], [], [], [], [], []] : List (List Nat)).getD i []⟩ (fun i => ([[], [], [], [], [], [], [], [], [], [], [], [], [], [], [], [], [], [], [], [], [], [], [], [], [], [], [], [], [], [], [], [], [], []] : List (List Nat)).getD i []) (by kernel_rfl) (by kernel_rfl) ?_
          refine AJR_ev env 1 rfl (Nat.le_of_ble_eq_true rfl) rfl tv ?_
          refine AJR_ev env 2 rfl (Nat.le_of_ble_eq_true rfl) rfl ⟨tv, tv⟩ ?_
          refine AJR_ev env 3 rfl (Nat.le_of_ble_eq_true rfl) rfl tv ?_
          refine AJR_ev env 4 rfl (Nat.le_of_ble_eq_true rfl) rfl ⟨tv, tv⟩ ?_
          obtain ⟨r94, hr, h1⟩ := bnd h1
          refine AJR_call 5 rfl (Nat.le_of_ble_eq_true rfl) [] rfl (caps_in.ok0 hr) caps_in.fnb rfl ⟨tv, ⟨tv, ⟨tv, tv⟩⟩⟩ rfl tv rfl ?_
          refine AJR_ev env 6 rfl (Nat.le_of_ble_eq_true rfl) rfl tv ?_
          refine bif_split h1 (fun hb95 h1 => ?_) (fun hb95 h1 => ?_)
          · refine AJR_gev env 7 rfl (Nat.le_of_ble_eq_true rfl) hb95 rfl rfl rfl rfl rfl rfl tv ?_
            refine AJR_gev env 8 rfl (Nat.le_of_ble_eq_true rfl) hb95 rfl rfl rfl rfl rfl rfl ⟨tv, tv⟩ ?_
            refine AJR_gev env 9 rfl (Nat.le_of_ble_eq_true rfl) hb95 rfl rfl rfl rfl rfl rfl tv ?_
            refine AJR_gev env 10 rfl (Nat.le_of_ble_eq_true rfl) hb95 rfl rfl rfl rfl rfl rfl ⟨tv, tv⟩ ?_
            refine AJR_gev env 11 rfl (Nat.le_of_ble_eq_true rfl) hb95 rfl rfl rfl rfl rfl rfl ⟨tv, ⟨tv, tv⟩⟩ ?_
            obtain ⟨r97, hr, h1⟩ := bnd h1
            refine AJR_gcall 12 rfl (Nat.le_of_ble_eq_true rfl) hb95 [] rfl rfl rfl rfl rfl (caps_in.ok0 hr) caps_in.fnb rfl ⟨tv, ⟨tv, ⟨tv, tv⟩⟩⟩ rfl tv rfl ?_
            refine AJR_ev env 13 rfl (Nat.le_of_ble_eq_true rfl) rfl ⟨tv, ⟨tv, tv⟩⟩ ?_
            refine AJR_ev env 14 rfl (Nat.le_of_ble_eq_true rfl) rfl tv ?_
            refine bif_split h1 (fun hb99 h1 => ?_) (fun hb99 h1 => ?_)
            · refine AJR_gev env 15 rfl (Nat.le_of_ble_eq_true rfl) hb99 rfl rfl rfl rfl rfl rfl tv ?_
              refine AJR_gev env 16 rfl (Nat.le_of_ble_eq_true rfl) hb99 rfl rfl rfl rfl rfl rfl ⟨tv, tv⟩ ?_
              obtain ⟨r100, hr, h1⟩ := bnd h1
              refine AJR_gcall 17 rfl (Nat.le_of_ble_eq_true rfl) hb99 [] rfl rfl rfl rfl rfl (lapped_Lengths.ok0 hr) lapped_Lengths.fnb rfl ⟨tv, tv⟩ rfl tv rfl ?_
              refine AJR_gev env 18 rfl (Nat.le_of_ble_eq_true rfl) hb99 rfl rfl rfl rfl rfl rfl tv ?_
              refine AJR_gev env 19 rfl (Nat.le_of_ble_eq_true rfl) hb99 rfl rfl rfl rfl rfl rfl ⟨tv, tv⟩ ?_
              obtain ⟨r101, hr, h1⟩ := bnd h1
              refine AJR_gcall 20 rfl (Nat.le_of_ble_eq_true rfl) hb99 [] rfl rfl rfl rfl rfl (slices_Index_int_int.ok0 hr) slices_Index_int_int.fnb rfl ⟨tv, ⟨tv, ⟨tv, tv⟩⟩⟩ rfl tv rfl ?_
              obtain ⟨r102, hr, h1⟩ := bnd h1
              refine AJR_gcall 21 rfl (Nat.le_of_ble_eq_true rfl) hb99 [] rfl rfl rfl rfl rfl (caps_in.ok0 hr) caps_in.fnb rfl ⟨tv, ⟨tv, ⟨tv, tv⟩⟩⟩ rfl tv rfl ?_
              refine AJR_ev env 22 rfl (Nat.le_of_ble_eq_true rfl) rfl ⟨tv, ⟨tv, tv⟩⟩ ?_
              refine AJR_ev env 23 rfl (Nat.le_of_ble_eq_true rfl) rfl tv ?_
              refine bif_split h1 (fun hb104 h1 => ?_) (fun hb104 h1 => ?_)
              · refine AJR_gev env 24 rfl (Nat.le_of_ble_eq_true rfl) hb104 rfl rfl rfl rfl rfl rfl tv ?_
                refine AJR_gev env 25 rfl (Nat.le_of_ble_eq_true rfl) hb104 rfl rfl rfl rfl rfl rfl ⟨tv, tv⟩ ?_
                refine AJR_gev env 26 rfl (Nat.le_of_ble_eq_true rfl) hb104 rfl rfl rfl rfl rfl rfl tv ?_
                refine AJR_gev env 27 rfl (Nat.le_of_ble_eq_true rfl) hb104 rfl rfl rfl rfl rfl rfl ⟨tv, tv⟩ ?_
                refine AJR_gev env 28 rfl (Nat.le_of_ble_eq_true rfl) hb104 rfl rfl rfl rfl rfl rfl tv ?_
                refine AJR_gev env 29 rfl (Nat.le_of_ble_eq_true rfl) hb104 rfl rfl rfl rfl rfl rfl ⟨tv, tv⟩ ?_
                refine AJR_gev env 30 rfl (Nat.le_of_ble_eq_true rfl) hb104 rfl rfl rfl rfl rfl rfl tv ?_
                refine AJR_gev env 31 rfl (Nat.le_of_ble_eq_true rfl) hb104 rfl rfl rfl rfl rfl rfl ⟨tv, tv⟩ ?_
                obtain ⟨r105, hr, h1⟩ := bnd h1
                refine AJR_gcall 32 rfl (Nat.le_of_ble_eq_true rfl) hb104 [] rfl rfl rfl rfl rfl (caps_span.ok0 hr) caps_span.fnb rfl ⟨tv, ⟨tv, ⟨tv, ⟨tv, ⟨tv, tv⟩⟩⟩⟩⟩ rfl tv rfl ?_
                refine AJR_ev env 33 rfl (Nat.le_of_ble_eq_true rfl) rfl ⟨tv, ⟨tv, tv⟩⟩ ?_
                refine AJR_ev env 34 rfl (Nat.le_of_ble_eq_true rfl) rfl tv ?_
                refine AJR_end rfl rfl rfl ?_
                obtain rfl := sinj h1
                refine tsn ?_
                exact SP_ren [] _ rfl ⟨rfl, tv⟩ tv rfl
              · refine AJR_gskip (.bool false) 24 rfl (Nat.le_of_ble_eq_true rfl) hb104 rfl rfl rfl rfl rfl rfl (by decide) ?_
                refine AJR_gskip (.bool false) 25 rfl (Nat.le_of_ble_eq_true rfl) hb104 rfl rfl rfl rfl rfl rfl (by decide) ?_
                refine AJR_gskip (.bool false) 26 rfl (Nat.le_of_ble_eq_true rfl) hb104 rfl rfl rfl rfl rfl rfl (by decide) ?_
                refine AJR_gskip (.bool false) 27 rfl (Nat.le_of_ble_eq_true rfl) hb104 rfl rfl rfl rfl rfl rfl (by decide) ?_
                refine AJR_gskip (.bool false) 28 rfl (Nat.le_of_ble_eq_true rfl) hb104 rfl rfl rfl rfl rfl rfl (by decide) ?_
                refine AJR_gskip (.bool false) 29 rfl (Nat.le_of_ble_eq_true rfl) hb104 rfl rfl rfl rfl rfl rfl (by decide) ?_
                refine AJR_gskip (.bool false) 30 rfl (Nat.le_of_ble_eq_true rfl) hb104 rfl rfl rfl rfl rfl rfl (by decide) ?_
                refine AJR_gskip (.bool false) 31 rfl (Nat.le_of_ble_eq_true rfl) hb104 rfl rfl rfl rfl rfl rfl (by decide) ?_
                refine AJR_gskip (.bool false) 32 rfl (Nat.le_of_ble_eq_true rfl) hb104 rfl rfl rfl rfl rfl rfl (by decide) ?_
                refine AJR_ev env 33 rfl (Nat.le_of_ble_eq_true rfl) rfl ⟨tv, ⟨fun e => (tff (e.symm.trans hb104)).elim, tv⟩⟩ ?_
                refine AJR_ev env 34 rfl (Nat.le_of_ble_eq_true rfl) rfl tv ?_
                refine AJR_end rfl rfl rfl ?_
                obtain rfl := sinj h1
                refine tsn ?_
                exact SP_ren [] _ rfl ⟨rfl, tv⟩ tv rfl
            · refine AJR_gskip (.bool false) 15 rfl (Nat.le_of_ble_eq_true rfl) hb99 rfl rfl rfl rfl rfl rfl (by decide) ?_
              refine AJR_gskip (.bool false) 16 rfl (Nat.le_of_ble_eq_true rfl) hb99 rfl rfl rfl rfl rfl rfl (by decide) ?_
              refine AJR_gskip (.bool false) 17 rfl (Nat.le_of_ble_eq_true rfl) hb99 rfl rfl rfl rfl rfl rfl (by decide) ?_
              refine AJR_gskip (.bool false) 18 rfl (Nat.le_of_ble_eq_true rfl) hb99 rfl rfl rfl rfl rfl rfl (by decide) ?_
              refine AJR_gskip (.bool false) 19 rfl (Nat.le_of_ble_eq_true rfl) hb99 rfl rfl rfl rfl rfl rfl (by decide) ?_
              refine AJR_gskip (.bool false) 20 rfl (Nat.le_of_ble_eq_true rfl) hb99 rfl rfl rfl rfl rfl rfl (by decide) ?_
              refine AJR_gskip (.bool false) 21 rfl (Nat.le_of_ble_eq_true rfl) hb99 rfl rfl rfl rfl rfl rfl (by decide) ?_
              refine AJR_ev env 22 rfl (Nat.le_of_ble_eq_true rfl) rfl ⟨tv, ⟨fun e => (tff (e.symm.trans hb99)).elim, tv⟩⟩ ?_
              refine AJR_ev env 23 rfl (Nat.le_of_ble_eq_true rfl) rfl tv ?_
              refine bif_split h1 (fun hb109 h1 => ?_) (fun hb109 h1 => ?_)
              · refine AJR_gev env 24 rfl (Nat.le_of_ble_eq_true rfl) hb109 rfl rfl rfl rfl rfl rfl tv ?_
                refine AJR_gev env 25 rfl (Nat.le_of_ble_eq_true rfl) hb109 rfl rfl rfl rfl rfl rfl ⟨tv, tv⟩ ?_
                refine AJR_gev env 26 rfl (Nat.le_of_ble_eq_true rfl) hb109 rfl rfl rfl rfl rfl rfl tv ?_
                refine AJR_gev env 27 rfl (Nat.le_of_ble_eq_true rfl) hb109 rfl rfl rfl rfl rfl rfl ⟨tv, tv⟩ ?_
                refine AJR_gev env 28 rfl (Nat.le_of_ble_eq_true rfl) hb109 rfl rfl rfl rfl rfl rfl tv ?_
                refine AJR_gev env 29 rfl (Nat.le_of_ble_eq_true rfl) hb109 rfl rfl rfl rfl rfl rfl ⟨tv, tv⟩ ?_
                refine AJR_gev env 30 rfl (Nat.le_of_ble_eq_true rfl) hb109 rfl rfl rfl rfl rfl rfl tv ?_
                refine AJR_gev env 31 rfl (Nat.le_of_ble_eq_true rfl) hb109 rfl rfl rfl rfl rfl rfl ⟨tv, tv⟩ ?_
                obtain ⟨r110, hr, h1⟩ := bnd h1
                refine AJR_gcall 32 rfl (Nat.le_of_ble_eq_true rfl) hb109 [] rfl rfl rfl rfl rfl (caps_span.ok0 hr) caps_span.fnb rfl ⟨tv, ⟨tv, ⟨tv, ⟨tv, ⟨tv, tv⟩⟩⟩⟩⟩ rfl tv rfl ?_
                refine AJR_ev env 33 rfl (Nat.le_of_ble_eq_true rfl) rfl ⟨tv, ⟨tv, tv⟩⟩ ?_
                refine AJR_ev env 34 rfl (Nat.le_of_ble_eq_true rfl) rfl tv ?_
                refine AJR_end rfl rfl rfl ?_
                obtain rfl := sinj h1
                refine tsn ?_
                exact SP_ren [] _ rfl ⟨rfl, tv⟩ tv rfl
              · refine AJR_gskip (.bool false) 24 rfl (Nat.le_of_ble_eq_true rfl) hb109 rfl rfl rfl rfl rfl rfl (by decide) ?_
                refine AJR_gskip (.bool false) 25 rfl (Nat.le_of_ble_eq_true rfl) hb109 rfl rfl rfl rfl rfl rfl (by decide) ?_
                refine AJR_gskip (.bool false) 26 rfl (Nat.le_of_ble_eq_true rfl) hb109 rfl rfl rfl rfl rfl rfl (by decide) ?_
                refine AJR_gskip (.bool false) 27 rfl (Nat.le_of_ble_eq_true rfl) hb109 rfl rfl rfl rfl rfl rfl (by decide) ?_
                refine AJR_gskip (.bool false) 28 rfl (Nat.le_of_ble_eq_true rfl) hb109 rfl rfl rfl rfl rfl rfl (by decide) ?_
                refine AJR_gskip (.bool false) 29 rfl (Nat.le_of_ble_eq_true rfl) hb109 rfl rfl rfl rfl rfl rfl (by decide) ?_
                refine AJR_gskip (.bool false) 30 rfl (Nat.le_of_ble_eq_true rfl) hb109 rfl rfl rfl rfl rfl rfl (by decide) ?_
                refine AJR_gskip (.bool false) 31 rfl (Nat.le_of_ble_eq_true rfl) hb109 rfl rfl rfl rfl rfl rfl (by decide) ?_
                refine AJR_gskip (.bool false) 32 rfl (Nat.le_of_ble_eq_true rfl) hb109 rfl rfl rfl rfl rfl rfl (by decide) ?_
                refine AJR_ev env 33 rfl (Nat.le_of_ble_eq_true rfl) rfl ⟨tv, ⟨fun e => (tff (e.symm.trans hb109)).elim, tv⟩⟩ ?_
                refine AJR_ev env 34 rfl (Nat.le_of_ble_eq_true rfl) rfl tv ?_
                refine AJR_end rfl rfl rfl ?_
                obtain rfl := sinj h1
                refine tsn ?_
                exact SP_ren [] _ rfl ⟨rfl, tv⟩ tv rfl
          · refine AJR_gskip (.bool false) 7 rfl (Nat.le_of_ble_eq_true rfl) hb95 rfl rfl rfl rfl rfl rfl (by decide) ?_
            refine AJR_gskip (.bool false) 8 rfl (Nat.le_of_ble_eq_true rfl) hb95 rfl rfl rfl rfl rfl rfl (by decide) ?_
            refine AJR_gskip (.bool false) 9 rfl (Nat.le_of_ble_eq_true rfl) hb95 rfl rfl rfl rfl rfl rfl (by decide) ?_
            refine AJR_gskip (.bool false) 10 rfl (Nat.le_of_ble_eq_true rfl) hb95 rfl rfl rfl rfl rfl rfl (by decide) ?_
            refine AJR_gskip (.bool false) 11 rfl (Nat.le_of_ble_eq_true rfl) hb95 rfl rfl rfl rfl rfl rfl (by decide) ?_
            refine AJR_gskip (.bool false) 12 rfl (Nat.le_of_ble_eq_true rfl) hb95 rfl rfl rfl rfl rfl rfl (by decide) ?_
            refine AJR_ev env 13 rfl (Nat.le_of_ble_eq_true rfl) rfl ⟨tv, ⟨fun e => (tff (e.symm.trans hb95)).elim, tv⟩⟩ ?_
            refine AJR_ev env 14 rfl (Nat.le_of_ble_eq_true rfl) rfl tv ?_
            refine bif_split h1 (fun hb114 h1 => ?_) (fun hb114 h1 => ?_)
            · refine AJR_gev env 15 rfl (Nat.le_of_ble_eq_true rfl) hb114 rfl rfl rfl rfl rfl rfl tv ?_
              refine AJR_gev env 16 rfl (Nat.le_of_ble_eq_true rfl) hb114 rfl rfl rfl rfl rfl rfl ⟨tv, tv⟩ ?_
              obtain ⟨r115, hr, h1⟩ := bnd h1
              refine AJR_gcall 17 rfl (Nat.le_of_ble_eq_true rfl) hb114 [] rfl rfl rfl rfl rfl (lapped_Lengths.ok0 hr) lapped_Lengths.fnb rfl ⟨tv, tv⟩ rfl tv rfl ?_
              refine AJR_gev env 18 rfl (Nat.le_of_ble_eq_true rfl) hb114 rfl rfl rfl rfl rfl rfl tv ?_
              refine AJR_gev env 19 rfl (Nat.le_of_ble_eq_true rfl) hb114 rfl rfl rfl rfl rfl rfl ⟨tv, tv⟩ ?_
              obtain ⟨r116, hr, h1⟩ := bnd h1
              refine AJR_gcall 20 rfl (Nat.le_of_ble_eq_true rfl) hb114 [] rfl rfl rfl rfl rfl (slices_Index_int_int.ok0 hr) slices_Index_int_int.fnb rfl ⟨tv, ⟨tv, ⟨tv, tv⟩⟩⟩ rfl tv rfl ?_
              obtain ⟨r117, hr, h1⟩ := bnd h1
              refine AJR_gcall 21 rfl (Nat.le_of_ble_eq_true rfl) hb114 [] rfl rfl rfl rfl rfl (caps_in.ok0 hr) caps_in.fnb rfl ⟨tv, ⟨tv, ⟨tv, tv⟩⟩⟩ rfl tv rfl ?_
              refine AJR_ev env 22 rfl (Nat.le_of_ble_eq_true rfl) rfl ⟨tv, ⟨tv, tv⟩⟩ ?_
              refine AJR_ev env 23 rfl (Nat.le_of_ble_eq_true rfl) rfl tv ?_
              refine bif_split h1 (fun hb119 h1 => ?_) (fun hb119 h1 => ?_)
              · refine AJR_gev env 24 rfl (Nat.le_of_ble_eq_true rfl) hb119 rfl rfl rfl rfl rfl rfl tv ?_
                refine AJR_gev env 25 rfl (Nat.le_of_ble_eq_true rfl) hb119 rfl rfl rfl rfl rfl rfl ⟨tv, tv⟩ ?_
                refine AJR_gev env 26 rfl (Nat.le_of_ble_eq_true rfl) hb119 rfl rfl rfl rfl rfl rfl tv ?_
                refine AJR_gev env 27 rfl (Nat.le_of_ble_eq_true rfl) hb119 rfl rfl rfl rfl rfl rfl ⟨tv, tv⟩ ?_
                refine AJR_gev env 28 rfl (Nat.le_of_ble_eq_true rfl) hb119 rfl rfl rfl rfl rfl rfl tv ?_
                refine AJR_gev env 29 rfl (Nat.le_of_ble_eq_true rfl) hb119 rfl rfl rfl rfl rfl rfl ⟨tv, tv⟩ ?_
                refine AJR_gev env 30 rfl (Nat.le_of_ble_eq_true rfl) hb119 rfl rfl rfl rfl rfl rfl tv ?_
                refine AJR_gev env 31 rfl (Nat.le_of_ble_eq_true rfl) hb119 rfl rfl rfl rfl rfl rfl ⟨tv, tv⟩ ?_
                obtain ⟨r120, hr, h1⟩ := bnd h1
                refine AJR_gcall 32 rfl (Nat.le_of_ble_eq_true rfl) hb119 [] rfl rfl rfl rfl rfl (caps_span.ok0 hr) caps_span.fnb rfl ⟨tv, ⟨tv, ⟨tv, ⟨tv, ⟨tv, tv⟩⟩⟩⟩⟩ rfl tv rfl ?_
                refine AJR_ev env 33 rfl (Nat.le_of_ble_eq_true rfl) rfl ⟨tv, ⟨tv, tv⟩⟩ ?_
                refine AJR_ev env 34 rfl (Nat.le_of_ble_eq_true rfl) rfl tv ?_
                refine AJR_end rfl rfl rfl ?_
                obtain rfl := sinj h1
                refine tsn ?_
                exact SP_ren [] _ rfl ⟨rfl, tv⟩ tv rfl
              · refine AJR_gskip (.bool false) 24 rfl (Nat.le_of_ble_eq_true rfl) hb119 rfl rfl rfl rfl rfl rfl (by decide) ?_
                refine AJR_gskip (.bool false) 25 rfl (Nat.le_of_ble_eq_true rfl) hb119 rfl rfl rfl rfl rfl rfl (by decide) ?_
                refine AJR_gskip (.bool false) 26 rfl (Nat.le_of_ble_eq_true rfl) hb119 rfl rfl rfl rfl rfl rfl (by decide) ?_
                refine AJR_gskip (.bool false) 27 rfl (Nat.le_of_ble_eq_true rfl) hb119 rfl rfl rfl rfl rfl rfl (by decide) ?_
                refine AJR_gskip (.bool false) 28 rfl (Nat.le_of_ble_eq_true rfl) hb119 rfl rfl rfl rfl rfl rfl (by decide) ?_
                refine AJR_gskip (.bool false) 29 rfl (Nat.le_of_ble_eq_true rfl) hb119 rfl rfl rfl rfl rfl rfl (by decide) ?_
                refine AJR_gskip (.bool false) 30 rfl (Nat.le_of_ble_eq_true rfl) hb119 rfl rfl rfl rfl rfl rfl (by decide) ?_
                refine AJR_gskip (.bool false) 31 rfl (Nat.le_of_ble_eq_true rfl) hb119 rfl rfl rfl rfl rfl rfl (by decide) ?_
                refine AJR_gskip (.bool false) 32 rfl (Nat.le_of_ble_eq_true rfl) hb119 rfl rfl rfl rfl rfl rfl (by decide) ?_
                refine AJR_ev env 33 rfl (Nat.le_of_ble_eq_true rfl) rfl ⟨tv, ⟨fun e => (tff (e.symm.trans hb119)).elim, tv⟩⟩ ?_
                refine AJR_ev env 34 rfl (Nat.le_of_ble_eq_true rfl) rfl tv ?_
                refine AJR_end rfl rfl rfl ?_
                obtain rfl := sinj h1
                refine tsn ?_
                exact SP_ren [] _ rfl ⟨rfl, tv⟩ tv rfl
            · refine AJR_gskip (.bool false) 15 rfl (Nat.le_of_ble_eq_true rfl) hb114 rfl rfl rfl rfl rfl rfl (by decide) ?_
              refine AJR_gskip (.bool false) 16 rfl (Nat.le_of_ble_eq_true rfl) hb114 rfl rfl rfl rfl rfl rfl (by decide) ?_
              refine AJR_gskip (.bool false) 17 rfl (Nat.le_of_ble_eq_true rfl) hb114 rfl rfl rfl rfl rfl rfl (by decide) ?_
              refine AJR_gskip (.bool false) 18 rfl (Nat.le_of_ble_eq_true rfl) hb114 rfl rfl rfl rfl rfl rfl (by decide) ?_
              refine AJR_gskip (.bool false) 19 rfl (Nat.le_of_ble_eq_true rfl) hb114 rfl rfl rfl rfl rfl rfl (by decide) ?_
              refine AJR_gskip (.bool false) 20 rfl (Nat.le_of_ble_eq_true rfl) hb114 rfl rfl rfl rfl rfl rfl (by decide) ?_
              refine AJR_gskip (.bool false) 21 rfl (Nat.le_of_ble_eq_true rfl) hb114 rfl rfl rfl rfl rfl rfl (by decide) ?_
              refine AJR_ev env 22 rfl (Nat.le_of_ble_eq_true rfl) rfl ⟨tv, ⟨fun e => (tff (e.symm.trans hb114)).elim, tv⟩⟩ ?_
              refine AJR_ev env 23 rfl (Nat.le_of_ble_eq_true rfl) rfl tv ?_
              refine bif_split h1 (fun hb124 h1 => ?_) (fun hb124 h1 => ?_)
              · refine AJR_gev env 24 rfl (Nat.le_of_ble_eq_true rfl) hb124 rfl rfl rfl rfl rfl rfl tv ?_
                refine AJR_gev env 25 rfl (Nat.le_of_ble_eq_true rfl) hb124 rfl rfl rfl rfl rfl rfl ⟨tv, tv⟩ ?_
                refine AJR_gev env 26 rfl (Nat.le_of_ble_eq_true rfl) hb124 rfl rfl rfl rfl rfl rfl tv ?_
                refine AJR_gev env 27 rfl (Nat.le_of_ble_eq_true rfl) hb124 rfl rfl rfl rfl rfl rfl ⟨tv, tv⟩ ?_
                refine AJR_gev env 28 rfl (Nat.le_of_ble_eq_true rfl) hb124 rfl rfl rfl rfl rfl rfl tv ?_
                refine AJR_gev env 29 rfl (Nat.le_of_ble_eq_true rfl) hb124 rfl rfl rfl rfl rfl rfl ⟨tv, tv⟩ ?_
                refine AJR_gev env 30 rfl (Nat.le_of_ble_eq_true rfl) hb124 rfl rfl rfl rfl rfl rfl tv ?_
                refine AJR_gev env 31 rfl (Nat.le_of_ble_eq_true rfl) hb124 rfl rfl rfl rfl rfl rfl ⟨tv, tv⟩ ?_
                obtain ⟨r125, hr, h1⟩ := bnd h1
                refine AJR_gcall 32 rfl (Nat.le_of_ble_eq_true rfl) hb124 [] rfl rfl rfl rfl rfl (caps_span.ok0 hr) caps_span.fnb rfl ⟨tv, ⟨tv, ⟨tv, ⟨tv, ⟨tv, tv⟩⟩⟩⟩⟩ rfl tv rfl ?_
                refine AJR_ev env 33 rfl (Nat.le_of_ble_eq_true rfl) rfl ⟨tv, ⟨tv, tv⟩⟩ ?_
                refine AJR_ev env 34 rfl (Nat.le_of_ble_eq_true rfl) rfl tv ?_
                refine AJR_end rfl rfl rfl ?_
                obtain rfl := sinj h1
                refine tsn ?_
                exact SP_ren [] _ rfl ⟨rfl, tv⟩ tv rfl
              · refine AJR_gskip (.bool false) 24 rfl (Nat.le_of_ble_eq_true rfl) hb124 rfl rfl rfl rfl rfl rfl (by decide) ?_
                refine AJR_gskip (.bool false) 25 rfl (Nat.le_of_ble_eq_true rfl) hb124 rfl rfl rfl rfl rfl rfl (by decide) ?_
                refine AJR_gskip (.bool false) 26 rfl (Nat.le_of_ble_eq_true rfl) hb124 rfl rfl rfl rfl rfl rfl (by decide) ?_
                refine AJR_gskip (.bool false) 27 rfl (Nat.le_of_ble_eq_true rfl) hb124 rfl rfl rfl rfl rfl rfl (by decide) ?_
                refine AJR_gskip (.bool false) 28 rfl (Nat.le_of_ble_eq_true rfl) hb124 rfl rfl rfl rfl rfl rfl (by decide) ?_
                refine AJR_gskip (.bool false) 29 rfl (Nat.le_of_ble_eq_true rfl) hb124 rfl rfl rfl rfl rfl rfl (by decide) ?_
                refine AJR_gskip (.bool false) 30 rfl (Nat.le_of_ble_eq_true rfl) hb124 rfl rfl rfl rfl rfl rfl (by decide) ?_
                refine AJR_gskip (.bool false) 31 rfl (Nat.le_of_ble_eq_true rfl) hb124 rfl rfl rfl rfl rfl rfl (by decide) ?_
                refine AJR_gskip (.bool false) 32 rfl (Nat.le_of_ble_eq_true rfl) hb124 rfl rfl rfl rfl rfl rfl (by decide) ?_
                refine AJR_ev env 33 rfl (Nat.le_of_ble_eq_true rfl) rfl ⟨tv, ⟨fun e => (tff (e.symm.trans hb124)).elim, tv⟩⟩ ?_
                refine AJR_ev env 34 rfl (Nat.le_of_ble_eq_true rfl) rfl tv ?_
                refine AJR_end rfl rfl rfl ?_
                obtain rfl := sinj h1
                refine tsn ?_
                exact SP_ren [] _ rfl ⟨rfl, tv⟩ tv rfl
        · rintro x93 hz
          obtain rfl := hz.symm
          refine TE_go ?_
          refine TC_ret ?_
          obtain rfl := sinj h0
          exact TE_ret env rfl tv tv
theorem caps_Allows.ok0 {K : Nat} {p0 : Int} {p1 : Int} {p2 : Int} {p3 : Int} {p4 : Int} {p5 : Int} {p6 : Int} {p7 : Int} {p8 : Int} {p9 : Int} {p10 : Int} {p11 : Int} {p12 : Int} {p13 : Int} {p14 : Int} {p15 : Int} {p16 : Int} {p17 : Int} {p18 : Int} {p19 : Int} {p20 : Int} {p21 : Int} {p22 : Int} {p23 : Int} {p24 : Int} {p25 : Int} {p26 : Int} {q0 : Bool} (h0 : caps_Allows K p0 p1 p2 p3 p4 p5 p6 p7 p8 p9 p10 p11 p12 p13 p14 p15 p16 p17 p18 p19 p20 p21 p22 p23 p24 p25 p26 = some q0) : Fn Try.prog 45 [.agg [.int .i64 p0, .int .i64 p1, .int .i64 p2, .int .i64 p3, .int .i64 p4, .int .i64 p5, .int .i64 p6, .int .i64 p7, .int .i64 p8, .int .i64 p9, .int .i64 p10, .int .i64 p11, .int .i64 p12, .int .i64 p13, .int .i64 p14], .agg [.int .i64 p15, .int .i64 p16, .int .i64 p17, .int .i64 p18, .int .i64 p19, .int .i64 p20, .int .i64 p21, .int .i64 p22, .int .i64 p23, .int .i64 p24], .agg [.int .i64 p25, .int .i64 p26]] [] (.bool q0) [] := caps_Allows.ok h0
theorem caps_Allows.fnb : fnb Try.prog 45 = true := fnb_of Try.func45 rfl
def offer_Choose_1.res (_p0 : Int) (_p1 : Int) (_p2 : Int) (_p3 : Int) (_p4 : Int) (_p5 : Int) (_p6 : Int) (_p7 : Int) (_p8 : Int) (_p9 : Int) (_p10 : Int) (_p11 : Int) (_p12 : Int) (_p13 : Int) (_p14 : Int) (_p15 : Int) (_p16 : Int) (_p17 : Int) (_p18 : Int) (_p19 : Int) (_p20 : Int) (_p21 : Int) (_p22 : Int) (_p23 : Int) (_p24 : Int) (_p25 : Int) (_p26 : Int) (_p27 : Int) (_p28 : Int) (_p29 : Int) (_p30 : Int) (_p31 : Int) (_p32 : Int) (_p33 : Int) (_p34 : Int) (_p35 : Int) (_p36 : Int) : Bool × Int × Int × Int × Int × Int × Int × Int × Int × Int × Int → MV
  | (q0, _, _, _, _, _, _, _, _, _, _) => .bool q0
def offer_Choose_1.out (_p0 : Int) (_p1 : Int) (_p2 : Int) (_p3 : Int) (_p4 : Int) (_p5 : Int) (_p6 : Int) (_p7 : Int) (_p8 : Int) (_p9 : Int) (p10 : Int) (p11 : Int) (p12 : Int) (p13 : Int) (p14 : Int) (p15 : Int) (p16 : Int) (p17 : Int) (p18 : Int) (p19 : Int) (p20 : Int) (p21 : Int) (p22 : Int) (p23 : Int) (p24 : Int) (p25 : Int) (p26 : Int) (_p27 : Int) (_p28 : Int) (_p29 : Int) (_p30 : Int) (_p31 : Int) (_p32 : Int) (_p33 : Int) (_p34 : Int) (_p35 : Int) (_p36 : Int) : Bool × Int × Int × Int × Int × Int × Int × Int × Int × Int × Int → List (Nat × Option MObj)
  | (_, q1, q2, q3, q4, q5, q6, q7, q8, q9, q10) => [(0, some (.cells [.int .i64 p10, .int .i64 p11, .int .i64 p12, .int .i64 p13, .int .i64 p14, .int .i64 p15, .int .i64 p16, .int .i64 p17, .int .i64 p18, .int .i64 p19, .int .i64 p20, .int .i64 p21, .int .i64 p22, .int .i64 p23, .int .i64 p24])), (1, some (.cells [.int .i64 p25, .int .i64 p26])), (2, some (.cells [.int .i64 q1, .int .i64 q2, .int .i64 q3, .int .i64 q4, .int .i64 q5, .int .i64 q6, .int .i64 q7, .int .i64 q8, .int .i64 q9, .int .i64 q10]))]
theorem offer_Choose_1.ok {K : Nat} {p0 : Int} {p1 : Int} {p2 : Int} {p3 : Int} {p4 : Int} {p5 : Int} {p6 : Int} {p7 : Int} {p8 : Int} {p9 : Int} {p10 : Int} {p11 : Int} {p12 : Int} {p13 : Int} {p14 : Int} {p15 : Int} {p16 : Int} {p17 : Int} {p18 : Int} {p19 : Int} {p20 : Int} {p21 : Int} {p22 : Int} {p23 : Int} {p24 : Int} {p25 : Int} {p26 : Int} {p27 : Int} {p28 : Int} {p29 : Int} {p30 : Int} {p31 : Int} {p32 : Int} {p33 : Int} {p34 : Int} {p35 : Int} {p36 : Int} {r : Bool × Int × Int × Int × Int × Int × Int × Int × Int × Int × Int} (h0 : offer_Choose_1 K p0 p1 p2 p3 p4 p5 p6 p7 p8 p9 p10 p11 p12 p13 p14 p15 p16 p17 p18 p19 p20 p21 p22 p23 p24 p25 p26 p27 p28 p29 p30 p31 p32 p33 p34 p35 p36 = some r) : Fn Try.prog 116 [.agg [.int .i64 p0, .int .i64 p1, .int .i64 p2, .int .i64 p3, .int .i64 p4, .int .i64 p5, .int .i64 p6, .int .i64 p7, .int .i64 p8, .int .i64 p9], .p 0 0, .p 1 0, .p 2 0] [(0, some (.cells [.int .i64 p10, .int .i64 p11, .int .i64 p12, .int .i64 p13, .int .i64 p14, .int .i64 p15, .int .i64 p16, .int .i64 p17, .int .i64 p18, .int .i64 p19, .int .i64 p20, .int .i64 p21, .int .i64 p22, .int .i64 p23, .int .i64 p24])), (1, some (.cells [.int .i64 p25, .int .i64 p26])), (2, some (.cells [.int .i64 p27, .int .i64 p28, .int .i64 p29, .int .i64 p30, .int .i64 p31, .int .i64 p32, .int .i64 p33, .int .i64 p34, .int .i64 p35, .int .i64 p36]))] (offer_Choose_1.res p0 p1 p2 p3 p4 p5 p6 p7 p8 p9 p10 p11 p12 p13 p14 p15 p16 p17 p18 p19 p20 p21 p22 p23 p24 p25 p26 p27 p28 p29 p30 p31 p32 p33 p34 p35 p36 r) (offer_Choose_1.out p0 p1 p2 p3 p4 p5 p6 p7 p8 p9 p10 p11 p12 p13 p14 p15 p16 p17 p18 p19 p20 p21 p22 p23 p24 p25 p26 p27 p28 p29 p30 p31 p32 p33 p34 p35 p36 r) := by
  refine Fn_of Try.func116 rfl (Nat.le_of_ble_eq_true rfl) fun Γ => ?_
  refine TC_seq ?_
  refine TC_reg ?_
  refine TL_ev env 2 rfl ⟨tv, ⟨tv, tv⟩⟩ ?_
  refine TL_end ?_
  refine TE_go ?_
  refine TC_seq ?_
  refine TC_seq ?_
  refine TC_reg ?_
  refine TL_ev env 3 rfl ⟨⟨tv, tv⟩, ⟨⟨tv, tv⟩, ⟨⟨tv, tv⟩, tv⟩⟩⟩ ?_
  obtain ⟨r2, hr, h0⟩ := bnd h0
  refine TL_callB [] (caps_Allows.ok0 hr) caps_Allows.fnb rfl ⟨tv, ⟨tv, ⟨tv, ⟨tv, tv⟩⟩⟩⟩ rfl tv rfl ?_
  refine TL_ev env 1 rfl ⟨tv, tv⟩ ?_
  refine TL_end ?_
  refine TE_go ?_
  refine TC_cond rfl (fun hb => ?_) (fun hb => ?_)
  · replace h0 := bif_t h0 hb
    refine TC_seq ?_
    refine TC_reg ?_
    refine TL_ev env 1 rfl ⟨tv, tv⟩ ?_
    refine TL_end ?_
    refine TE_go ?_
    refine TC_ret ?_
    refine tsr ?_
    obtain rfl := sinj h0
    exact TE_ret env rfl tv ⟨.inr rfl, .inr rfl, .inr rfl, tv⟩
  · replace h0 := bif_f h0 hb
    refine TC_skip ?_
    refine TE_go ?_
    refine TC_seq ?_
    refine TC_reg ?_
    refine TL_ev env 2 rfl ⟨⟨tv, tv⟩, ⟨⟨tv, tv⟩, tv⟩⟩ ?_
    refine TL_end ?_
    refine TE_go ?_
    refine TC_seq ?_
    refine TC_reg ?_
    refine TL_ev env 1 rfl ⟨tv, tv⟩ ?_
    refine TL_end ?_
    refine TE_go ?_
    refine TC_ret ?_
    obtain rfl := sinj h0
    exact TE_ret env rfl tv ⟨.inr rfl, .inr rfl, .inr rfl, tv⟩
theorem offer_Choose_1.ok0 {K : Nat} {p0 : Int} {p1 : Int} {p2 : Int} {p3 : Int} {p4 : Int} {p5 : Int} {p6 : Int} {p7 : Int} {p8 : Int} {p9 : Int} {p10 : Int} {p11 : Int} {p12 : Int} {p13 : Int} {p14 : Int} {p15 : Int} {p16 : Int} {p17 : Int} {p18 : Int} {p19 : Int} {p20 : Int} {p21 : Int} {p22 : Int} {p23 : Int} {p24 : Int} {p25 : Int} {p26 : Int} {p27 : Int} {p28 : Int} {p29 : Int} {p30 : Int} {p31 : Int} {p32 : Int} {p33 : Int} {p34 : Int} {p35 : Int} {p36 : Int} {q0 : Bool} {q1 : Int} {q2 : Int} {q3 : Int} {q4 : Int} {q5 : Int} {q6 : Int} {q7 : Int} {q8 : Int} {q9 : Int} {q10 : Int} (h0 : offer_Choose_1 K p0 p1 p2 p3 p4 p5 p6 p7 p8 p9 p10 p11 p12 p13 p14 p15 p16 p17 p18 p19 p20 p21 p22 p23 p24 p25 p26 p27 p28 p29 p30 p31 p32 p33 p34 p35 p36 = some (q0, q1, q2, q3, q4, q5, q6, q7, q8, q9, q10)) : Fn Try.prog 116 [.agg [.int .i64 p0, .int .i64 p1, .int .i64 p2, .int .i64 p3, .int .i64 p4, .int .i64 p5, .int .i64 p6, .int .i64 p7, .int .i64 p8, .int .i64 p9], .p 0 0, .p 1 0, .p 2 0] [(0, some (.cells [.int .i64 p10, .int .i64 p11, .int .i64 p12, .int .i64 p13, .int .i64 p14, .int .i64 p15, .int .i64 p16, .int .i64 p17, .int .i64 p18, .int .i64 p19, .int .i64 p20, .int .i64 p21, .int .i64 p22, .int .i64 p23, .int .i64 p24])), (1, some (.cells [.int .i64 p25, .int .i64 p26])), (2, some (.cells [.int .i64 p27, .int .i64 p28, .int .i64 p29, .int .i64 p30, .int .i64 p31, .int .i64 p32, .int .i64 p33, .int .i64 p34, .int .i64 p35, .int .i64 p36]))] (.bool q0) [(0, some (.cells [.int .i64 p10, .int .i64 p11, .int .i64 p12, .int .i64 p13, .int .i64 p14, .int .i64 p15, .int .i64 p16, .int .i64 p17, .int .i64 p18, .int .i64 p19, .int .i64 p20, .int .i64 p21, .int .i64 p22, .int .i64 p23, .int .i64 p24])), (1, some (.cells [.int .i64 p25, .int .i64 p26])), (2, some (.cells [.int .i64 q1, .int .i64 q2, .int .i64 q3, .int .i64 q4, .int .i64 q5, .int .i64 q6, .int .i64 q7, .int .i64 q8, .int .i64 q9, .int .i64 q10]))] := offer_Choose_1.ok h0
theorem offer_Choose_1.fnb : fnb Try.prog 116 = true := fnb_of Try.func116 rfl
def offer_laps_1_1.res (_p0 : Int) (_p1 : Int) (_p2 : Int) (_p3 : Int) (_p4 : Int) (_p5 : Int) (_p6 : Int) (_p7 : Int) (_p8 : Int) (_p9 : Int) (_p10 : Int) (_p11 : Int) (_p12 : Int) (_p13 : Int) (_p14 : Int) (_p15 : Int) (_p16 : Int) (_p17 : Int) (_p18 : Int) (_p19 : Int) (_p20 : Int) (_p21 : Int) (_p22 : Int) (_p23 : Int) (_p24 : Int) (_p25 : Int) (_p26 : Int) (_p27 : Int) (_p28 : Int) (_p29 : Int) (_p30 : Int) (_p31 : Int) (_p32 : Int) (_p33 : Int) (_p34 : Int) (_p35 : Int) (_p36 : Int) (_p37 : Int) : Bool × Int × Int × Int × Int × Int × Int × Int × Int × Int × Int → MV
  | (q0, _, _, _, _, _, _, _, _, _, _) => .bool q0
def offer_laps_1_1.out (p0 : Int) (p1 : Int) (p2 : Int) (p3 : Int) (p4 : Int) (p5 : Int) (p6 : Int) (p7 : Int) (p8 : Int) (p9 : Int) (_p10 : Int) (p11 : Int) (p12 : Int) (p13 : Int) (p14 : Int) (p15 : Int) (p16 : Int) (p17 : Int) (p18 : Int) (p19 : Int) (p20 : Int) (p21 : Int) (p22 : Int) (p23 : Int) (p24 : Int) (p25 : Int) (p26 : Int) (p27 : Int) (_p28 : Int) (_p29 : Int) (_p30 : Int) (_p31 : Int) (_p32 : Int) (_p33 : Int) (_p34 : Int) (_p35 : Int) (_p36 : Int) (_p37 : Int) : Bool × Int × Int × Int × Int × Int × Int × Int × Int × Int × Int → List (Nat × Option MObj)
  | (_, q1, q2, q3, q4, q5, q6, q7, q8, q9, q10) => [(0, some (.cells [.int .i64 p1, .int .i64 p2, .int .i64 p3, .int .i64 p4, .int .i64 p5, .int .i64 p6, .int .i64 p7, .int .i64 p8, .int .i64 p9, .int .i64 p0])), (1, some (.cells [.fn 116 [.p 2 0, .p 3 0, .p 4 0]])), (2, some (.cells [.int .i64 p11, .int .i64 p12, .int .i64 p13, .int .i64 p14, .int .i64 p15, .int .i64 p16, .int .i64 p17, .int .i64 p18, .int .i64 p19, .int .i64 p20, .int .i64 p21, .int .i64 p22, .int .i64 p23, .int .i64 p24, .int .i64 p25])), (3, some (.cells [.int .i64 p26, .int .i64 p27])), (4, some (.cells [.int .i64 q1, .int .i64 q2, .int .i64 q3, .int .i64 q4, .int .i64 q5, .int .i64 q6, .int .i64 q7, .int .i64 q8, .int .i64 q9, .int .i64 q10]))]
theorem offer_laps_1_1.ok {K : Nat} {p0 : Int} {p1 : Int} {p2 : Int} {p3 : Int} {p4 : Int} {p5 : Int} {p6 : Int} {p7 : Int} {p8 : Int} {p9 : Int} {p10 : Int} {p11 : Int} {p12 : Int} {p13 : Int} {p14 : Int} {p15 : Int} {p16 : Int} {p17 : Int} {p18 : Int} {p19 : Int} {p20 : Int} {p21 : Int} {p22 : Int} {p23 : Int} {p24 : Int} {p25 : Int} {p26 : Int} {p27 : Int} {p28 : Int} {p29 : Int} {p30 : Int} {p31 : Int} {p32 : Int} {p33 : Int} {p34 : Int} {p35 : Int} {p36 : Int} {p37 : Int} {r : Bool × Int × Int × Int × Int × Int × Int × Int × Int × Int × Int} (h0 : offer_laps_1_1 K p0 p1 p2 p3 p4 p5 p6 p7 p8 p9 p10 p11 p12 p13 p14 p15 p16 p17 p18 p19 p20 p21 p22 p23 p24 p25 p26 p27 p28 p29 p30 p31 p32 p33 p34 p35 p36 p37 = some r) : Fn Try.prog 150 [.int .i64 p0, .p 0 0, .p 1 0] [(0, some (.cells [.int .i64 p1, .int .i64 p2, .int .i64 p3, .int .i64 p4, .int .i64 p5, .int .i64 p6, .int .i64 p7, .int .i64 p8, .int .i64 p9, .int .i64 p10])), (1, some (.cells [.fn 116 [.p 2 0, .p 3 0, .p 4 0]])), (2, some (.cells [.int .i64 p11, .int .i64 p12, .int .i64 p13, .int .i64 p14, .int .i64 p15, .int .i64 p16, .int .i64 p17, .int .i64 p18, .int .i64 p19, .int .i64 p20, .int .i64 p21, .int .i64 p22, .int .i64 p23, .int .i64 p24, .int .i64 p25])), (3, some (.cells [.int .i64 p26, .int .i64 p27])), (4, some (.cells [.int .i64 p28, .int .i64 p29, .int .i64 p30, .int .i64 p31, .int .i64 p32, .int .i64 p33, .int .i64 p34, .int .i64 p35, .int .i64 p36, .int .i64 p37]))] (offer_laps_1_1.res p0 p1 p2 p3 p4 p5 p6 p7 p8 p9 p10 p11 p12 p13 p14 p15 p16 p17 p18 p19 p20 p21 p22 p23 p24 p25 p26 p27 p28 p29 p30 p31 p32 p33 p34 p35 p36 p37 r) (offer_laps_1_1.out p0 p1 p2 p3 p4 p5 p6 p7 p8 p9 p10 p11 p12 p13 p14 p15 p16 p17 p18 p19 p20 p21 p22 p23 p24 p25 p26 p27 p28 p29 p30 p31 p32 p33 p34 p35 p36 p37 r) := by
  refine Fn_of Try.func150 rfl (Nat.le_of_ble_eq_true rfl) fun Γ => ?_
  refine TC_seq ?_
  refine TC_reg ?_
  refine TL_ev env 1 rfl ⟨tv, tv⟩ ?_
  refine TL_end ?_
  refine TE_go ?_
  refine TC_seq ?_
  refine TC_reg ?_
  refine TL_ev env 3 rfl ⟨tv, ⟨tv, ⟨⟨tv, tv⟩, tv⟩⟩⟩ ?_
  refine TL_end ?_
  refine TE_go ?_
  refine TC_seq ?_
  refine TC_reg ?_
  refine TL_ev env 2 rfl ⟨⟨tv, tv⟩, ⟨⟨tv, tv⟩, tv⟩⟩ ?_
  obtain ⟨⟨r12, r13, r14, r15, r16, r17, r18, r19, r20, r21, r22⟩, hr, h0⟩ := bnd h0
  refine TL_callB [(0, 2), (1, 3), (2, 4)] (offer_Choose_1.ok0 hr) offer_Choose_1.fnb rfl ⟨tv, ⟨tv, tv⟩⟩ rfl ⟨.inr rfl, .inr rfl, .inr rfl, tv⟩ rfl ?_
  refine TL_ev env 1 rfl ⟨tv, tv⟩ ?_
  refine TL_end ?_
  refine TE_go ?_
  refine TC_ret ?_
  obtain rfl := sinj h0
  exact TE_ret env rfl tv ⟨.inr rfl, .inr rfl, .inr rfl, .inr rfl, .inr rfl, tv⟩
theorem offer_laps_1_1.ok0 {K : Nat} {p0 : Int} {p1 : Int} {p2 : Int} {p3 : Int} {p4 : Int} {p5 : Int} {p6 : Int} {p7 : Int} {p8 : Int} {p9 : Int} {p10 : Int} {p11 : Int} {p12 : Int} {p13 : Int} {p14 : Int} {p15 : Int} {p16 : Int} {p17 : Int} {p18 : Int} {p19 : Int} {p20 : Int} {p21 : Int} {p22 : Int} {p23 : Int} {p24 : Int} {p25 : Int} {p26 : Int} {p27 : Int} {p28 : Int} {p29 : Int} {p30 : Int} {p31 : Int} {p32 : Int} {p33 : Int} {p34 : Int} {p35 : Int} {p36 : Int} {p37 : Int} {q0 : Bool} {q1 : Int} {q2 : Int} {q3 : Int} {q4 : Int} {q5 : Int} {q6 : Int} {q7 : Int} {q8 : Int} {q9 : Int} {q10 : Int} (h0 : offer_laps_1_1 K p0 p1 p2 p3 p4 p5 p6 p7 p8 p9 p10 p11 p12 p13 p14 p15 p16 p17 p18 p19 p20 p21 p22 p23 p24 p25 p26 p27 p28 p29 p30 p31 p32 p33 p34 p35 p36 p37 = some (q0, q1, q2, q3, q4, q5, q6, q7, q8, q9, q10)) : Fn Try.prog 150 [.int .i64 p0, .p 0 0, .p 1 0] [(0, some (.cells [.int .i64 p1, .int .i64 p2, .int .i64 p3, .int .i64 p4, .int .i64 p5, .int .i64 p6, .int .i64 p7, .int .i64 p8, .int .i64 p9, .int .i64 p10])), (1, some (.cells [.fn 116 [.p 2 0, .p 3 0, .p 4 0]])), (2, some (.cells [.int .i64 p11, .int .i64 p12, .int .i64 p13, .int .i64 p14, .int .i64 p15, .int .i64 p16, .int .i64 p17, .int .i64 p18, .int .i64 p19, .int .i64 p20, .int .i64 p21, .int .i64 p22, .int .i64 p23, .int .i64 p24, .int .i64 p25])), (3, some (.cells [.int .i64 p26, .int .i64 p27])), (4, some (.cells [.int .i64 p28, .int .i64 p29, .int .i64 p30, .int .i64 p31, .int .i64 p32, .int .i64 p33, .int .i64 p34, .int .i64 p35, .int .i64 p36, .int .i64 p37]))] (.bool q0) [(0, some (.cells [.int .i64 p1, .int .i64 p2, .int .i64 p3, .int .i64 p4, .int .i64 p5, .int .i64 p6, .int .i64 p7, .int .i64 p8, .int .i64 p9, .int .i64 p0])), (1, some (.cells [.fn 116 [.p 2 0, .p 3 0, .p 4 0]])), (2, some (.cells [.int .i64 p11, .int .i64 p12, .int .i64 p13, .int .i64 p14, .int .i64 p15, .int .i64 p16, .int .i64 p17, .int .i64 p18, .int .i64 p19, .int .i64 p20, .int .i64 p21, .int .i64 p22, .int .i64 p23, .int .i64 p24, .int .i64 p25])), (3, some (.cells [.int .i64 p26, .int .i64 p27])), (4, some (.cells [.int .i64 q1, .int .i64 q2, .int .i64 q3, .int .i64 q4, .int .i64 q5, .int .i64 q6, .int .i64 q7, .int .i64 q8, .int .i64 q9, .int .i64 q10]))] := offer_laps_1_1.ok h0
theorem offer_laps_1_1.fnb : fnb Try.prog 150 = true := fnb_of Try.func150 rfl
def offer_down.res (_p0 : Int) (_p1 : Int) (_p2 : Int) (_p3 : Int) (_p4 : Int) (_p5 : Int) (_p6 : Int) (_p7 : Int) (_p8 : Int) (_p9 : Int) (_p10 : Int) (_p11 : Int) (_p12 : Int) (_p13 : Int) (_p14 : Int) (_p15 : Int) (_p16 : Int) (_p17 : Int) (_p18 : Int) (_p19 : Int) (_p20 : Int) (_p21 : Int) (_p22 : Int) (_p23 : Int) (_p24 : Int) (_p25 : Int) (_p26 : Int) (_p27 : Int) (_p28 : Int) (_p29 : Int) (_p30 : Int) (_p31 : Int) (_p32 : Int) (_p33 : Int) (_p34 : Int) (_p35 : Int) (_p36 : Int) (_p37 : Int) (_p38 : Int) : Bool × Int × Int × Int × Int × Int × Int × Int × Int × Int × Int × Int → MV
  | (q0, _, _, _, _, _, _, _, _, _, _, _) => .bool q0
def offer_down.out (_p0 : Int) (_p1 : Int) (p2 : Int) (p3 : Int) (p4 : Int) (p5 : Int) (p6 : Int) (p7 : Int) (p8 : Int) (p9 : Int) (p10 : Int) (_p11 : Int) (p12 : Int) (p13 : Int) (p14 : Int) (p15 : Int) (p16 : Int) (p17 : Int) (p18 : Int) (p19 : Int) (p20 : Int) (p21 : Int) (p22 : Int) (p23 : Int) (p24 : Int) (p25 : Int) (p26 : Int) (p27 : Int) (p28 : Int) (_p29 : Int) (_p30 : Int) (_p31 : Int) (_p32 : Int) (_p33 : Int) (_p34 : Int) (_p35 : Int) (_p36 : Int) (_p37 : Int) (_p38 : Int) : Bool × Int × Int × Int × Int × Int × Int × Int × Int × Int × Int × Int → List (Nat × Option MObj)
  | (_, q1, q2, q3, q4, q5, q6, q7, q8, q9, q10, q11) => [(0, some (.cells [.int .i64 p2, .int .i64 p3, .int .i64 p4, .int .i64 p5, .int .i64 p6, .int .i64 p7, .int .i64 p8, .int .i64 p9, .int .i64 p10, .int .i64 q1])), (1, some (.cells [.fn 116 [.p 2 0, .p 3 0, .p 4 0]])), (2, some (.cells [.int .i64 p12, .int .i64 p13, .int .i64 p14, .int .i64 p15, .int .i64 p16, .int .i64 p17, .int .i64 p18, .int .i64 p19, .int .i64 p20, .int .i64 p21, .int .i64 p22, .int .i64 p23, .int .i64 p24, .int .i64 p25, .int .i64 p26])), (3, some (.cells [.int .i64 p27, .int .i64 p28])), (4, some (.cells [.int .i64 q2, .int .i64 q3, .int .i64 q4, .int .i64 q5, .int .i64 q6, .int .i64 q7, .int .i64 q8, .int .i64 q9, .int .i64 q10, .int .i64 q11]))]
theorem offer_down.ok {K : Nat} {p0 : Int} {p1 : Int} {p2 : Int} {p3 : Int} {p4 : Int} {p5 : Int} {p6 : Int} {p7 : Int} {p8 : Int} {p9 : Int} {p10 : Int} {p11 : Int} {p12 : Int} {p13 : Int} {p14 : Int} {p15 : Int} {p16 : Int} {p17 : Int} {p18 : Int} {p19 : Int} {p20 : Int} {p21 : Int} {p22 : Int} {p23 : Int} {p24 : Int} {p25 : Int} {p26 : Int} {p27 : Int} {p28 : Int} {p29 : Int} {p30 : Int} {p31 : Int} {p32 : Int} {p33 : Int} {p34 : Int} {p35 : Int} {p36 : Int} {p37 : Int} {p38 : Int} {r : Bool × Int × Int × Int × Int × Int × Int × Int × Int × Int × Int × Int} (h0 : offer_down K p0 p1 p2 p3 p4 p5 p6 p7 p8 p9 p10 p11 p12 p13 p14 p15 p16 p17 p18 p19 p20 p21 p22 p23 p24 p25 p26 p27 p28 p29 p30 p31 p32 p33 p34 p35 p36 p37 p38 = some r) : Fn Try.prog 117 [.int .i64 p0, .int .i64 p1, .fn 150 [.p 0 0, .p 1 0]] [(0, some (.cells [.int .i64 p2, .int .i64 p3, .int .i64 p4, .int .i64 p5, .int .i64 p6, .int .i64 p7, .int .i64 p8, .int .i64 p9, .int .i64 p10, .int .i64 p11])), (1, some (.cells [.fn 116 [.p 2 0, .p 3 0, .p 4 0]])), (2, some (.cells [.int .i64 p12, .int .i64 p13, .int .i64 p14, .int .i64 p15, .int .i64 p16, .int .i64 p17, .int .i64 p18, .int .i64 p19, .int .i64 p20, .int .i64 p21, .int .i64 p22, .int .i64 p23, .int .i64 p24, .int .i64 p25, .int .i64 p26])), (3, some (.cells [.int .i64 p27, .int .i64 p28])), (4, some (.cells [.int .i64 p29, .int .i64 p30, .int .i64 p31, .int .i64 p32, .int .i64 p33, .int .i64 p34, .int .i64 p35, .int .i64 p36, .int .i64 p37, .int .i64 p38]))] (offer_down.res p0 p1 p2 p3 p4 p5 p6 p7 p8 p9 p10 p11 p12 p13 p14 p15 p16 p17 p18 p19 p20 p21 p22 p23 p24 p25 p26 p27 p28 p29 p30 p31 p32 p33 p34 p35 p36 p37 p38 r) (offer_down.out p0 p1 p2 p3 p4 p5 p6 p7 p8 p9 p10 p11 p12 p13 p14 p15 p16 p17 p18 p19 p20 p21 p22 p23 p24 p25 p26 p27 p28 p29 p30 p31 p32 p33 p34 p35 p36 p37 p38 r) := by
  refine Fn_of Try.func117 rfl (Nat.le_of_ble_eq_true rfl) fun Γ => ?_
  refine TC_seq ?_
  refine TC_reg ?_
  refine TL_ev env 1 rfl ⟨tv, tv⟩ ?_
  refine TL_end ?_
  refine TE_go ?_
  refine TC_seq ?_
  refine TC_seq ?_
  refine TC_reg ?_
  refine TL_ev env 2 rfl ⟨tv, ⟨tv, tv⟩⟩ ?_
  refine TL_end ?_
  refine TE_go ?_
  obtain ⟨z1, h1, h0⟩ := bnd h0
  refine TC_cut (α := Int × Int × Int × Int × Int × Int × Int × Int × Int × Int × Int) (fun s => z1 = .inl s) (fun s => []) (fun s => [(0, some (.cells [.int .i64 p2, .int .i64 p3, .int .i64 p4, .int .i64 p5, .int .i64 p6, .int .i64 p7, .int .i64 p8, .int .i64 p9, .int .i64 p10, .int .i64 s.1])), (1, some (.cells [.fn 116 [.p 2 0, .p 3 0, .p 4 0]])), (2, some (.cells [.int .i64 p12, .int .i64 p13, .int .i64 p14, .int .i64 p15, .int .i64 p16, .int .i64 p17, .int .i64 p18, .int .i64 p19, .int .i64 p20, .int .i64 p21, .int .i64 p22, .int .i64 p23, .int .i64 p24, .int .i64 p25, .int .i64 p26])), (3, some (.cells [.int .i64 p27, .int .i64 p28])), (4, some (.cells [.int .i64 s.2.1, .int .i64 s.2.2.1, .int .i64 s.2.2.2.1, .int .i64 s.2.2.2.2.1, .int .i64 s.2.2.2.2.2.1, .int .i64 s.2.2.2.2.2.2.1, .int .i64 s.2.2.2.2.2.2.2.1, .int .i64 s.2.2.2.2.2.2.2.2.1, .int .i64 s.2.2.2.2.2.2.2.2.2.1, .int .i64 s.2.2.2.2.2.2.2.2.2.2]))]) ?_ ?_
  · refine TC_blk ?_
    refine TC_loop (α := Int × Int × Int × Int × Int × Int × Int × Int × Int × Int × Int × Int) (fun n s => offer_down.l0 K p1 p2 p3 p4 p5 p6 p7 p8 p9 p10 p12 p13 p14 p15 p16 p17 p18 p19 p20 p21 p22 p23 p24 p25 p26 p27 p28 n s.1 s.2.1 s.2.2.1 s.2.2.2.1 s.2.2.2.2.1 s.2.2.2.2.2.1 s.2.2.2.2.2.2.1 s.2.2.2.2.2.2.2.1 s.2.2.2.2.2.2.2.2.1 s.2.2.2.2.2.2.2.2.2.1 s.2.2.2.2.2.2.2.2.2.2.1 s.2.2.2.2.2.2.2.2.2.2.2 = some z1) (fun s => [(1, .int .i64 p1), (2, .fn 150 [.p 0 0, .p 1 0]), (7, .int .i64 s.1)]) (fun s => [(0, some (.cells [.int .i64 p2, .int .i64 p3, .int .i64 p4, .int .i64 p5, .int .i64 p6, .int .i64 p7, .int .i64 p8, .int .i64 p9, .int .i64 p10, .int .i64 s.2.1])), (1, some (.cells [.fn 116 [.p 2 0, .p 3 0, .p 4 0]])), (2, some (.cells [.int .i64 p12, .int .i64 p13, .int .i64 p14, .int .i64 p15, .int .i64 p16, .int .i64 p17, .int .i64 p18, .int .i64 p19, .int .i64 p20, .int .i64 p21, .int .i64 p22, .int .i64 p23, .int .i64 p24, .int .i64 p25, .int .i64 p26])), (3, some (.cells [.int .i64 p27, .int .i64 p28])), (4, some (.cells [.int .i64 s.2.2.1, .int .i64 s.2.2.2.1, .int .i64 s.2.2.2.2.1, .int .i64 s.2.2.2.2.2.1, .int .i64 s.2.2.2.2.2.2.1, .int .i64 s.2.2.2.2.2.2.2.1, .int .i64 s.2.2.2.2.2.2.2.2.1, .int .i64 s.2.2.2.2.2.2.2.2.2.1, .int .i64 s.2.2.2.2.2.2.2.2.2.2.1, .int .i64 s.2.2.2.2.2.2.2.2.2.2.2]))]) K ?_ ?_
    · exact SP_ren [] (_, _, _, _, _, _, _, _, _, _, _, _) h1 ⟨rfl, rfl, rfl, tv⟩ ⟨rfl, rfl, rfl, rfl, rfl, tv⟩ rfl
    rintro n ⟨x181, x182, x183, x184, x185, x186, x187, x188, x189, x190, x191, x192⟩ h1
    rcases n with _ | n
    · exact (nsome h1).elim
    replace h1 : offer_down.r0 K p1 p2 p3 p4 p5 p6 p7 p8 p9 p10 p12 p13 p14 p15 p16 p17 p18 p19 p20 p21 p22 p23 p24 p25 p26 p27 p28 (offer_down.l0 K p1 p2 p3 p4 p5 p6 p7 p8 p9 p10 p12 p13 p14 p15 p16 p17 p18 p19 p20 p21 p22 p23 p24 p25 p26 p27 p28 n) x181 x182 x183 x184 x185 x186 x187 x188 x189 x190 x191 x192 = some z1 := h1
    refine TC_seq ?_
    refine TC_seq ?_
    refine TC_reg ?_
    refine TL_ev env 3 rfl ⟨tv, ⟨tv, ⟨⟨tv, ⟨tv, tv⟩⟩, tv⟩⟩⟩ ?_
    refine TL_end ?_
    refine TE_go ?_
    refine TC_cond rfl (fun hb => ?_) (fun hb => ?_)
    · replace h1 := bif_t h1 hb
      refine TC_skip ?_
      refine TE_go ?_
      refine TC_seq ?_
      refine TC_blk ?_
      refine TC_seq ?_
      refine TC_reg ?_
      refine TL_ev env 2 rfl ⟨tv, ⟨tv, tv⟩⟩ ?_
      obtain ⟨⟨r239, r240, r241, r242, r243, r244, r245, r246, r247, r248, r249⟩, hr, h1⟩ := bnd h1
      refine TL_callB [(0, 0), (1, 1), (2, 2), (3, 3), (4, 4)] (offer_laps_1_1.ok0 hr) offer_laps_1_1.fnb rfl ⟨tv, ⟨tv, tv⟩⟩ rfl ⟨.inr rfl, .inr rfl, .inr rfl, .inr rfl, .inr rfl, tv⟩ rfl ?_
      refine TL_end ?_
      refine TE_go ?_
      refine TC_cond rfl (fun hb => ?_) (fun hb => ?_)
      · replace h1 := bif_t h1 hb
        refine TC_seq ?_
        refine TC_reg ?_
        refine TL_ev env 1 rfl ⟨tv, tv⟩ ?_
        refine TL_end ?_
        refine TE_go ?_
        refine TC_ret ?_
        refine tbr ?_
        refine tsr ?_
        refine tsr ?_
        refine tbr ?_
        refine tsr ?_
        refine tsr ?_
        obtain rfl := sinj h1
        obtain rfl := sinj h0
        exact TE_ret env rfl tv ⟨.inr rfl, .inr rfl, .inr rfl, .inr rfl, .inr rfl, tv⟩
      · replace h1 := bif_f h1 hb
        refine TC_skip ?_
        refine tbn ?_
        refine TE_go ?_
        refine TC_reg ?_
        refine TL_ev env 3 rfl ⟨tv, ⟨⟨tv, ⟨tv, tv⟩⟩, ⟨tv, tv⟩⟩⟩ ?_
        refine TL_end ?_
        refine tsn ?_
        exact TE_nextr [] n (Nat.lt_succ_self n) (_, _, _, _, _, _, _, _, _, _, _, _) h1 ⟨rfl, rfl, rfl, tv⟩ ⟨rfl, rfl, rfl, rfl, rfl, tv⟩ rfl
    · replace h1 := bif_f h1 hb
      refine TC_exit ?_
      refine tsx ?_
      refine tsx ?_
      refine tbe ?_
      obtain rfl := sinj h1
      refine tsn ?_
      exact SP_ren [] (_, _, _, _, _, _, _, _, _, _, _) rfl tv ⟨rfl, rfl, rfl, rfl, rfl, tv⟩ rfl
  · rintro ⟨x148, x149, x150, x151, x152, x153, x154, x155, x156, x157, x158⟩ rfl
    refine TE_go ?_
    refine TC_seq ?_
    refine TC_reg ?_
    refine TL_ev env 1 rfl ⟨tv, tv⟩ ?_
    refine TL_end ?_
    refine TE_go ?_
    refine TC_ret ?_
    obtain rfl := sinj h0
    exact TE_ret env rfl tv ⟨.inr rfl, .inr rfl, .inr rfl, .inr rfl, .inr rfl, tv⟩
theorem offer_down.ok0 {K : Nat} {p0 : Int} {p1 : Int} {p2 : Int} {p3 : Int} {p4 : Int} {p5 : Int} {p6 : Int} {p7 : Int} {p8 : Int} {p9 : Int} {p10 : Int} {p11 : Int} {p12 : Int} {p13 : Int} {p14 : Int} {p15 : Int} {p16 : Int} {p17 : Int} {p18 : Int} {p19 : Int} {p20 : Int} {p21 : Int} {p22 : Int} {p23 : Int} {p24 : Int} {p25 : Int} {p26 : Int} {p27 : Int} {p28 : Int} {p29 : Int} {p30 : Int} {p31 : Int} {p32 : Int} {p33 : Int} {p34 : Int} {p35 : Int} {p36 : Int} {p37 : Int} {p38 : Int} {q0 : Bool} {q1 : Int} {q2 : Int} {q3 : Int} {q4 : Int} {q5 : Int} {q6 : Int} {q7 : Int} {q8 : Int} {q9 : Int} {q10 : Int} {q11 : Int} (h0 : offer_down K p0 p1 p2 p3 p4 p5 p6 p7 p8 p9 p10 p11 p12 p13 p14 p15 p16 p17 p18 p19 p20 p21 p22 p23 p24 p25 p26 p27 p28 p29 p30 p31 p32 p33 p34 p35 p36 p37 p38 = some (q0, q1, q2, q3, q4, q5, q6, q7, q8, q9, q10, q11)) : Fn Try.prog 117 [.int .i64 p0, .int .i64 p1, .fn 150 [.p 0 0, .p 1 0]] [(0, some (.cells [.int .i64 p2, .int .i64 p3, .int .i64 p4, .int .i64 p5, .int .i64 p6, .int .i64 p7, .int .i64 p8, .int .i64 p9, .int .i64 p10, .int .i64 p11])), (1, some (.cells [.fn 116 [.p 2 0, .p 3 0, .p 4 0]])), (2, some (.cells [.int .i64 p12, .int .i64 p13, .int .i64 p14, .int .i64 p15, .int .i64 p16, .int .i64 p17, .int .i64 p18, .int .i64 p19, .int .i64 p20, .int .i64 p21, .int .i64 p22, .int .i64 p23, .int .i64 p24, .int .i64 p25, .int .i64 p26])), (3, some (.cells [.int .i64 p27, .int .i64 p28])), (4, some (.cells [.int .i64 p29, .int .i64 p30, .int .i64 p31, .int .i64 p32, .int .i64 p33, .int .i64 p34, .int .i64 p35, .int .i64 p36, .int .i64 p37, .int .i64 p38]))] (.bool q0) [(0, some (.cells [.int .i64 p2, .int .i64 p3, .int .i64 p4, .int .i64 p5, .int .i64 p6, .int .i64 p7, .int .i64 p8, .int .i64 p9, .int .i64 p10, .int .i64 q1])), (1, some (.cells [.fn 116 [.p 2 0, .p 3 0, .p 4 0]])), (2, some (.cells [.int .i64 p12, .int .i64 p13, .int .i64 p14, .int .i64 p15, .int .i64 p16, .int .i64 p17, .int .i64 p18, .int .i64 p19, .int .i64 p20, .int .i64 p21, .int .i64 p22, .int .i64 p23, .int .i64 p24, .int .i64 p25, .int .i64 p26])), (3, some (.cells [.int .i64 p27, .int .i64 p28])), (4, some (.cells [.int .i64 q2, .int .i64 q3, .int .i64 q4, .int .i64 q5, .int .i64 q6, .int .i64 q7, .int .i64 q8, .int .i64 q9, .int .i64 q10, .int .i64 q11]))] := offer_down.ok h0
theorem offer_down.fnb : fnb Try.prog 117 = true := fnb_of Try.func117 rfl
def offer_laps_1.res (_p0 : Int) (_p1 : Int) (_p2 : Int) (_p3 : Int) (_p4 : Int) (_p5 : Int) (_p6 : Int) (_p7 : Int) (_p8 : Int) (_p9 : Int) (_p10 : Int) (_p11 : Int) (_p12 : Int) (_p13 : Int) (_p14 : Int) (_p15 : Int) (_p16 : Int) (_p17 : Int) (_p18 : Int) (_p19 : Int) (_p20 : Int) (_p21 : Int) (_p22 : Int) (_p23 : Int) (_p24 : Int) (_p25 : Int) (_p26 : Int) (_p27 : Int) (_p28 : Int) (_p29 : Int) (_p30 : Int) (_p31 : Int) (_p32 : Int) (_p33 : Int) (_p34 : Int) (_p35 : Int) (_p36 : Int) (_p37 : Int) (_p38 : Int) (_p39 : Int) (_p40 : Int) (_p41 : Int) (_p42 : Int) : Bool × Int × Int × Int × Int × Int × Int × Int × Int × Int × Int × Int × Int → MV
  | (q0, _, _, _, _, _, _, _, _, _, _, _, _) => .bool q0
def offer_laps_1.out (_p0 : Int) (p1 : Int) (p2 : Int) (p3 : Int) (p4 : Int) (p5 : Int) (p6 : Int) (p7 : Int) (p8 : Int) (_p9 : Int) (_p10 : Int) (p11 : Int) (p12 : Int) (p13 : Int) (p14 : Int) (p15 : Int) (p16 : Int) (p17 : Int) (p18 : Int) (p19 : Int) (p20 : Int) (p21 : Int) (p22 : Int) (p23 : Int) (p24 : Int) (p25 : Int) (p26 : Int) (p27 : Int) (p28 : Int) (p29 : Int) (p30 : Int) (p31 : Int) (p32 : Int) (_p33 : Int) (_p34 : Int) (_p35 : Int) (_p36 : Int) (_p37 : Int) (_p38 : Int) (_p39 : Int) (_p40 : Int) (_p41 : Int) (_p42 : Int) : Bool × Int × Int × Int × Int × Int × Int × Int × Int × Int × Int × Int × Int → List (Nat × Option MObj)
  | (_, q1, q2, q3, q4, q5, q6, q7, q8, q9, q10, q11, q12) => [(0, some (.cells [.int .i64 p1, .int .i64 p2, .int .i64 p3, .int .i64 p4, .int .i64 p5, .int .i64 p6, .int .i64 p7, .int .i64 p8, .int .i64 q1, .int .i64 q2])), (1, some (.cells [.int .i64 p11, .int .i64 p12, .int .i64 p13, .int .i64 p14, .int .i64 p15])), (2, some (.cells [.fn 116 [.p 3 0, .p 4 0, .p 5 0]])), (3, some (.cells [.int .i64 p16, .int .i64 p17, .int .i64 p18, .int .i64 p19, .int .i64 p20, .int .i64 p21, .int .i64 p22, .int .i64 p23, .int .i64 p24, .int .i64 p25, .int .i64 p26, .int .i64 p27, .int .i64 p28, .int .i64 p29, .int .i64 p30])), (4, some (.cells [.int .i64 p31, .int .i64 p32])), (5, some (.cells [.int .i64 q3, .int .i64 q4, .int .i64 q5, .int .i64 q6, .int .i64 q7, .int .i64 q8, .int .i64 q9, .int .i64 q10, .int .i64 q11, .int .i64 q12]))]
theorem offer_laps_1.ok {K : Nat} {p0 : Int} {p1 : Int} {p2 : Int} {p3 : Int} {p4 : Int} {p5 : Int} {p6 : Int} {p7 : Int} {p8 : Int} {p9 : Int} {p10 : Int} {p11 : Int} {p12 : Int} {p13 : Int} {p14 : Int} {p15 : Int} {p16 : Int} {p17 : Int} {p18 : Int} {p19 : Int} {p20 : Int} {p21 : Int} {p22 : Int} {p23 : Int} {p24 : Int} {p25 : Int} {p26 : Int} {p27 : Int} {p28 : Int} {p29 : Int} {p30 : Int} {p31 : Int} {p32 : Int} {p33 : Int} {p34 : Int} {p35 : Int} {p36 : Int} {p37 : Int} {p38 : Int} {p39 : Int} {p40 : Int} {p41 : Int} {p42 : Int} {r : Bool × Int × Int × Int × Int × Int × Int × Int × Int × Int × Int × Int × Int} (h0 : offer_laps_1 K p0 p1 p2 p3 p4 p5 p6 p7 p8 p9 p10 p11 p12 p13 p14 p15 p16 p17 p18 p19 p20 p21 p22 p23 p24 p25 p26 p27 p28 p29 p30 p31 p32 p33 p34 p35 p36 p37 p38 p39 p40 p41 p42 = some r) : Fn Try.prog 149 [.int .i64 p0, .p 0 0, .p 1 0, .p 2 0] [(0, some (.cells [.int .i64 p1, .int .i64 p2, .int .i64 p3, .int .i64 p4, .int .i64 p5, .int .i64 p6, .int .i64 p7, .int .i64 p8, .int .i64 p9, .int .i64 p10])), (1, some (.cells [.int .i64 p11, .int .i64 p12, .int .i64 p13, .int .i64 p14, .int .i64 p15])), (2, some (.cells [.fn 116 [.p 3 0, .p 4 0, .p 5 0]])), (3, some (.cells [.int .i64 p16, .int .i64 p17, .int .i64 p18, .int .i64 p19, .int .i64 p20, .int .i64 p21, .int .i64 p22, .int .i64 p23, .int .i64 p24, .int .i64 p25, .int .i64 p26, .int .i64 p27, .int .i64 p28, .int .i64 p29, .int .i64 p30])), (4, some (.cells [.int .i64 p31, .int .i64 p32])), (5, some (.cells [.int .i64 p33, .int .i64 p34, .int .i64 p35, .int .i64 p36, .int .i64 p37, .int .i64 p38, .int .i64 p39, .int .i64 p40, .int .i64 p41, .int .i64 p42]))] (offer_laps_1.res p0 p1 p2 p3 p4 p5 p6 p7 p8 p9 p10 p11 p12 p13 p14 p15 p16 p17 p18 p19 p20 p21 p22 p23 p24 p25 p26 p27 p28 p29 p30 p31 p32 p33 p34 p35 p36 p37 p38 p39 p40 p41 p42 r) (offer_laps_1.out p0 p1 p2 p3 p4 p5 p6 p7 p8 p9 p10 p11 p12 p13 p14 p15 p16 p17 p18 p19 p20 p21 p22 p23 p24 p25 p26 p27 p28 p29 p30 p31 p32 p33 p34 p35 p36 p37 p38 p39 p40 p41 p42 r) := by
  refine Fn_of Try.func149 rfl (Nat.le_of_ble_eq_true rfl) fun Γ => ?_
  refine TC_seq ?_
  refine TC_reg ?_
  refine TL_ev env 1 rfl ⟨tv, tv⟩ ?_
  refine TL_end ?_
  refine TE_go ?_
  refine TC_seq ?_
  refine TC_reg ?_
  obtain ⟨r14, hr, h0⟩ := bnd h0
  refine TL_callB [] (lapped_Lengths.ok0 hr) lapped_Lengths.fnb rfl ⟨tv, tv⟩ rfl tv rfl ?_
  obtain ⟨g, h0⟩ := gd_t h0
  refine TL_ev env 5 rfl ⟨tv, ⟨⟨tv, ⟨tv, ⟨g.1, g.2⟩⟩⟩, ⟨⟨tv, tv⟩, ⟨tv, ⟨⟨tv, tv⟩, tv⟩⟩⟩⟩⟩ ?_
  refine TL_end ?_
  refine TE_go ?_
  refine TC_seq ?_
  refine TC_reg ?_
  refine TL_ev env 5 rfl ⟨tv, ⟨⟨tv, tv⟩, ⟨tv, ⟨⟨tv, tv⟩, ⟨⟨tv, ⟨tv, tv⟩⟩, tv⟩⟩⟩⟩⟩ ?_
  obtain ⟨⟨r16, r17, r18, r19, r20, r21, r22, r23, r24, r25, r26, r27⟩, hr, h0⟩ := bnd h0
  refine TL_callB [(0, 0), (1, 2), (2, 3), (3, 4), (4, 5)] (offer_down.ok0 hr) offer_down.fnb rfl ⟨tv, ⟨tv, ⟨tv, ⟨tv, tv⟩⟩⟩⟩ rfl ⟨.inr rfl, .inr rfl, .inr rfl, .inr rfl, .inr rfl, tv⟩ rfl ?_
  refine TL_ev env 1 rfl ⟨tv, tv⟩ ?_
  refine TL_end ?_
  refine TE_go ?_
  refine TC_ret ?_
  obtain rfl := sinj h0
  exact TE_ret env rfl tv ⟨.inr rfl, .inr rfl, .inr rfl, .inr rfl, .inr rfl, .inr rfl, tv⟩
theorem offer_laps_1.ok0 {K : Nat} {p0 : Int} {p1 : Int} {p2 : Int} {p3 : Int} {p4 : Int} {p5 : Int} {p6 : Int} {p7 : Int} {p8 : Int} {p9 : Int} {p10 : Int} {p11 : Int} {p12 : Int} {p13 : Int} {p14 : Int} {p15 : Int} {p16 : Int} {p17 : Int} {p18 : Int} {p19 : Int} {p20 : Int} {p21 : Int} {p22 : Int} {p23 : Int} {p24 : Int} {p25 : Int} {p26 : Int} {p27 : Int} {p28 : Int} {p29 : Int} {p30 : Int} {p31 : Int} {p32 : Int} {p33 : Int} {p34 : Int} {p35 : Int} {p36 : Int} {p37 : Int} {p38 : Int} {p39 : Int} {p40 : Int} {p41 : Int} {p42 : Int} {q0 : Bool} {q1 : Int} {q2 : Int} {q3 : Int} {q4 : Int} {q5 : Int} {q6 : Int} {q7 : Int} {q8 : Int} {q9 : Int} {q10 : Int} {q11 : Int} {q12 : Int} (h0 : offer_laps_1 K p0 p1 p2 p3 p4 p5 p6 p7 p8 p9 p10 p11 p12 p13 p14 p15 p16 p17 p18 p19 p20 p21 p22 p23 p24 p25 p26 p27 p28 p29 p30 p31 p32 p33 p34 p35 p36 p37 p38 p39 p40 p41 p42 = some (q0, q1, q2, q3, q4, q5, q6, q7, q8, q9, q10, q11, q12)) : Fn Try.prog 149 [.int .i64 p0, .p 0 0, .p 1 0, .p 2 0] [(0, some (.cells [.int .i64 p1, .int .i64 p2, .int .i64 p3, .int .i64 p4, .int .i64 p5, .int .i64 p6, .int .i64 p7, .int .i64 p8, .int .i64 p9, .int .i64 p10])), (1, some (.cells [.int .i64 p11, .int .i64 p12, .int .i64 p13, .int .i64 p14, .int .i64 p15])), (2, some (.cells [.fn 116 [.p 3 0, .p 4 0, .p 5 0]])), (3, some (.cells [.int .i64 p16, .int .i64 p17, .int .i64 p18, .int .i64 p19, .int .i64 p20, .int .i64 p21, .int .i64 p22, .int .i64 p23, .int .i64 p24, .int .i64 p25, .int .i64 p26, .int .i64 p27, .int .i64 p28, .int .i64 p29, .int .i64 p30])), (4, some (.cells [.int .i64 p31, .int .i64 p32])), (5, some (.cells [.int .i64 p33, .int .i64 p34, .int .i64 p35, .int .i64 p36, .int .i64 p37, .int .i64 p38, .int .i64 p39, .int .i64 p40, .int .i64 p41, .int .i64 p42]))] (.bool q0) [(0, some (.cells [.int .i64 p1, .int .i64 p2, .int .i64 p3, .int .i64 p4, .int .i64 p5, .int .i64 p6, .int .i64 p7, .int .i64 p8, .int .i64 q1, .int .i64 q2])), (1, some (.cells [.int .i64 p11, .int .i64 p12, .int .i64 p13, .int .i64 p14, .int .i64 p15])), (2, some (.cells [.fn 116 [.p 3 0, .p 4 0, .p 5 0]])), (3, some (.cells [.int .i64 p16, .int .i64 p17, .int .i64 p18, .int .i64 p19, .int .i64 p20, .int .i64 p21, .int .i64 p22, .int .i64 p23, .int .i64 p24, .int .i64 p25, .int .i64 p26, .int .i64 p27, .int .i64 p28, .int .i64 p29, .int .i64 p30])), (4, some (.cells [.int .i64 p31, .int .i64 p32])), (5, some (.cells [.int .i64 q3, .int .i64 q4, .int .i64 q5, .int .i64 q6, .int .i64 q7, .int .i64 q8, .int .i64 q9, .int .i64 q10, .int .i64 q11, .int .i64 q12]))] := offer_laps_1.ok h0
theorem offer_laps_1.fnb : fnb Try.prog 149 = true := fnb_of Try.func149 rfl
def offer_down_2.res (_p0 : Int) (_p1 : Int) (_p2 : Int) (_p3 : Int) (_p4 : Int) (_p5 : Int) (_p6 : Int) (_p7 : Int) (_p8 : Int) (_p9 : Int) (_p10 : Int) (_p11 : Int) (_p12 : Int) (_p13 : Int) (_p14 : Int) (_p15 : Int) (_p16 : Int) (_p17 : Int) (_p18 : Int) (_p19 : Int) (_p20 : Int) (_p21 : Int) (_p22 : Int) (_p23 : Int) (_p24 : Int) (_p25 : Int) (_p26 : Int) (_p27 : Int) (_p28 : Int) (_p29 : Int) (_p30 : Int) (_p31 : Int) (_p32 : Int) (_p33 : Int) (_p34 : Int) (_p35 : Int) (_p36 : Int) (_p37 : Int) (_p38 : Int) (_p39 : Int) (_p40 : Int) (_p41 : Int) (_p42 : Int) (_p43 : Int) : Bool × Int × Int × Int × Int × Int × Int × Int × Int × Int × Int × Int × Int → MV
  | (q0, _, _, _, _, _, _, _, _, _, _, _, _) => .bool q0
def offer_down_2.out (_p0 : Int) (_p1 : Int) (p2 : Int) (p3 : Int) (p4 : Int) (p5 : Int) (p6 : Int) (p7 : Int) (p8 : Int) (p9 : Int) (_p10 : Int) (_p11 : Int) (p12 : Int) (p13 : Int) (p14 : Int) (p15 : Int) (p16 : Int) (p17 : Int) (p18 : Int) (p19 : Int) (p20 : Int) (p21 : Int) (p22 : Int) (p23 : Int) (p24 : Int) (p25 : Int) (p26 : Int) (p27 : Int) (p28 : Int) (p29 : Int) (p30 : Int) (p31 : Int) (p32 : Int) (p33 : Int) (_p34 : Int) (_p35 : Int) (_p36 : Int) (_p37 : Int) (_p38 : Int) (_p39 : Int) (_p40 : Int) (_p41 : Int) (_p42 : Int) (_p43 : Int) : Bool × Int × Int × Int × Int × Int × Int × Int × Int × Int × Int × Int × Int → List (Nat × Option MObj)
  | (_, q1, q2, q3, q4, q5, q6, q7, q8, q9, q10, q11, q12) => [(0, some (.cells [.int .i64 p2, .int .i64 p3, .int .i64 p4, .int .i64 p5, .int .i64 p6, .int .i64 p7, .int .i64 p8, .int .i64 p9, .int .i64 q1, .int .i64 q2])), (1, some (.cells [.int .i64 p12, .int .i64 p13, .int .i64 p14, .int .i64 p15, .int .i64 p16])), (2, some (.cells [.fn 116 [.p 3 0, .p 4 0, .p 5 0]])), (3, some (.cells [.int .i64 p17, .int .i64 p18, .int .i64 p19, .int .i64 p20, .int .i64 p21, .int .i64 p22, .int .i64 p23, .int .i64 p24, .int .i64 p25, .int .i64 p26, .int .i64 p27, .int .i64 p28, .int .i64 p29, .int .i64 p30, .int .i64 p31])), (4, some (.cells [.int .i64 p32, .int .i64 p33])), (5, some (.cells [.int .i64 q3, .int .i64 q4, .int .i64 q5, .int .i64 q6, .int .i64 q7, .int .i64 q8, .int .i64 q9, .int .i64 q10, .int .i64 q11, .int .i64 q12]))]
theorem offer_down_2.ok {K : Nat} {p0 : Int} {p1 : Int} {p2 : Int} {p3 : Int} {p4 : Int} {p5 : Int} {p6 : Int} {p7 : Int} {p8 : Int} {p9 : Int} {p10 : Int} {p11 : Int} {p12 : Int} {p13 : Int} {p14 : Int} {p15 : Int} {p16 : Int} {p17 : Int} {p18 : Int} {p19 : Int} {p20 : Int} {p21 : Int} {p22 : Int} {p23 : Int} {p24 : Int} {p25 : Int} {p26 : Int} {p27 : Int} {p28 : Int} {p29 : Int} {p30 : Int} {p31 : Int} {p32 : Int} {p33 : Int} {p34 : Int} {p35 : Int} {p36 : Int} {p37 : Int} {p38 : Int} {p39 : Int} {p40 : Int} {p41 : Int} {p42 : Int} {p43 : Int} {r : Bool × Int × Int × Int × Int × Int × Int × Int × Int × Int × Int × Int × Int} (h0 : offer_down_2 K p0 p1 p2 p3 p4 p5 p6 p7 p8 p9 p10 p11 p12 p13 p14 p15 p16 p17 p18 p19 p20 p21 p22 p23 p24 p25 p26 p27 p28 p29 p30 p31 p32 p33 p34 p35 p36 p37 p38 p39 p40 p41 p42 p43 = some r) : Fn Try.prog 117 [.int .i64 p0, .int .i64 p1, .fn 149 [.p 0 0, .p 1 0, .p 2 0]] [(0, some (.cells [.int .i64 p2, .int .i64 p3, .int .i64 p4, .int .i64 p5, .int .i64 p6, .int .i64 p7, .int .i64 p8, .int .i64 p9, .int .i64 p10, .int .i64 p11])), (1, some (.cells [.int .i64 p12, .int .i64 p13, .int .i64 p14, .int .i64 p15, .int .i64 p16])), (2, some (.cells [.fn 116 [.p 3 0, .p 4 0, .p 5 0]])), (3, some (.cells [.int .i64 p17, .int .i64 p18, .int .i64 p19, .int .i64 p20, .int .i64 p21, .int .i64 p22, .int .i64 p23, .int .i64 p24, .int .i64 p25, .int .i64 p26, .int .i64 p27, .int .i64 p28, .int .i64 p29, .int .i64 p30, .int .i64 p31])), (4, some (.cells [.int .i64 p32, .int .i64 p33])), (5, some (.cells [.int .i64 p34, .int .i64 p35, .int .i64 p36, .int .i64 p37, .int .i64 p38, .int .i64 p39, .int .i64 p40, .int .i64 p41, .int .i64 p42, .int .i64 p43]))] (offer_down_2.res p0 p1 p2 p3 p4 p5 p6 p7 p8 p9 p10 p11 p12 p13 p14 p15 p16 p17 p18 p19 p20 p21 p22 p23 p24 p25 p26 p27 p28 p29 p30 p31 p32 p33 p34 p35 p36 p37 p38 p39 p40 p41 p42 p43 r) (offer_down_2.out p0 p1 p2 p3 p4 p5 p6 p7 p8 p9 p10 p11 p12 p13 p14 p15 p16 p17 p18 p19 p20 p21 p22 p23 p24 p25 p26 p27 p28 p29 p30 p31 p32 p33 p34 p35 p36 p37 p38 p39 p40 p41 p42 p43 r) := by
  refine Fn_of Try.func117 rfl (Nat.le_of_ble_eq_true rfl) fun Γ => ?_
  refine TC_seq ?_
  refine TC_reg ?_
  refine TL_ev env 1 rfl ⟨tv, tv⟩ ?_
  refine TL_end ?_
  refine TE_go ?_
  refine TC_seq ?_
  refine TC_seq ?_
  refine TC_reg ?_
  refine TL_ev env 2 rfl ⟨tv, ⟨tv, tv⟩⟩ ?_
  refine TL_end ?_
  refine TE_go ?_
  obtain ⟨z1, h1, h0⟩ := bnd h0
  refine TC_cut (α := Int × Int × Int × Int × Int × Int × Int × Int × Int × Int × Int × Int) (fun s => z1 = .inl s) (fun s => []) (fun s => [(0, some (.cells [.int .i64 p2, .int .i64 p3, .int .i64 p4, .int .i64 p5, .int .i64 p6, .int .i64 p7, .int .i64 p8, .int .i64 p9, .int .i64 s.1, .int .i64 s.2.1])), (1, some (.cells [.int .i64 p12, .int .i64 p13, .int .i64 p14, .int .i64 p15, .int .i64 p16])), (2, some (.cells [.fn 116 [.p 3 0, .p 4 0, .p 5 0]])), (3, some (.cells [.int .i64 p17, .int .i64 p18, .int .i64 p19, .int .i64 p20, .int .i64 p21, .int .i64 p22, .int .i64 p23, .int .i64 p24, .int .i64 p25, .int .i64 p26, .int .i64 p27, .int .i64 p28, .int .i64 p29, .int .i64 p30, .int .i64 p31])), (4, some (.cells [.int .i64 p32, .int .i64 p33])), (5, some (.cells [.int .i64 s.2.2.1, .int .i64 s.2.2.2.1, .int .i64 s.2.2.2.2.1, .int .i64 s.2.2.2.2.2.1, .int .i64 s.2.2.2.2.2.2.1, .int .i64 s.2.2.2.2.2.2.2.1, .int .i64 s.2.2.2.2.2.2.2.2.1, .int .i64 s.2.2.2.2.2.2.2.2.2.1, .int .i64 s.2.2.2.2.2.2.2.2.2.2.1, .int .i64 s.2.2.2.2.2.2.2.2.2.2.2]))]) ?_ ?_
  · refine TC_blk ?_
    refine TC_loop (α := Int × Int × Int × Int × Int × Int × Int × Int × Int × Int × Int × Int × Int) (fun n s => offer_down_2.l0 K p1 p2 p3 p4 p5 p6 p7 p8 p9 p12 p13 p14 p15 p16 p17 p18 p19 p20 p21 p22 p23 p24 p25 p26 p27 p28 p29 p30 p31 p32 p33 n s.1 s.2.1 s.2.2.1 s.2.2.2.1 s.2.2.2.2.1 s.2.2.2.2.2.1 s.2.2.2.2.2.2.1 s.2.2.2.2.2.2.2.1 s.2.2.2.2.2.2.2.2.1 s.2.2.2.2.2.2.2.2.2.1 s.2.2.2.2.2.2.2.2.2.2.1 s.2.2.2.2.2.2.2.2.2.2.2.1 s.2.2.2.2.2.2.2.2.2.2.2.2 = some z1) (fun s => [(1, .int .i64 p1), (2, .fn 149 [.p 0 0, .p 1 0, .p 2 0]), (7, .int .i64 s.1)]) (fun s => [(0, some (.cells [.int .i64 p2, .int .i64 p3, .int .i64 p4, .int .i64 p5, .int .i64 p6, .int .i64 p7, .int .i64 p8, .int .i64 p9, .int .i64 s.2.1, .int .i64 s.2.2.1])), (1, some (.cells [.int .i64 p12, .int .i64 p13, .int .i64 p14, .int .i64 p15, .int .i64 p16])), (2, some (.cells [.fn 116 [.p 3 0, .p 4 0, .p 5 0]])), (3, some (.cells [.int .i64 p17, .int .i64 p18, .int .i64 p19, .int .i64 p20, .int .i64 p21, .int .i64 p22, .int .i64 p23, .int .i64 p24, .int .i64 p25, .int .i64 p26, .int .i64 p27, .int .i64 p28, .int .i64 p29, .int .i64 p30, .int .i64 p31])), (4, some (.cells [.int .i64 p32, .int .i64 p33])), (5, some (.cells [.int .i64 s.2.2.2.1, .int .i64 s.2.2.2.2.1, .int .i64 s.2.2.2.2.2.1, .int .i64 s.2.2.2.2.2.2.1, .int .i64 s.2.2.2.2.2.2.2.1, .int .i64 s.2.2.2.2.2.2.2.2.1, .int .i64 s.2.2.2.2.2.2.2.2.2.1, .int .i64 s.2.2.2.2.2.2.2.2.2.2.1, .int .i64 s.2.2.2.2.2.2.2.2.2.2.2.1, .int .i64 s.2.2.2.2.2.2.2.2.2.2.2.2]))]) K ?_ ?_
    · exact SP_ren [] (_, _, _, _, _, _, _, _, _, _, _, _, _) h1 ⟨rfl, rfl, rfl, tv⟩ ⟨rfl, rfl, rfl, rfl, rfl, rfl, tv⟩ rfl
    rintro n ⟨x207, x208, x209, x210, x211, x212, x213, x214, x215, x216, x217, x218, x219⟩ h1
    rcases n with _ | n
    · exact (nsome h1).elim
    replace h1 : offer_down_2.r0 K p1 p2 p3 p4 p5 p6 p7 p8 p9 p12 p13 p14 p15 p16 p17 p18 p19 p20 p21 p22 p23 p24 p25 p26 p27 p28 p29 p30 p31 p32 p33 (offer_down_2.l0 K p1 p2 p3 p4 p5 p6 p7 p8 p9 p12 p13 p14 p15 p16 p17 p18 p19 p20 p21 p22 p23 p24 p25 p26 p27 p28 p29 p30 p31 p32 p33 n) x207 x208 x209 x210 x211 x212 x213 x214 x215 x216 x217 x218 x219 = some z1 := h1
    refine TC_seq ?_
    refine TC_seq ?_
    refine TC_reg ?_
    refine TL_ev env 3 rfl ⟨tv, ⟨tv, ⟨⟨tv, ⟨tv, tv⟩⟩, tv⟩⟩⟩ ?_
    refine TL_end ?_
    refine TE_go ?_
    refine TC_cond rfl (fun hb => ?_) (fun hb => ?_)
    · replace h1 := bif_t h1 hb
      refine TC_skip ?_
      refine TE_go ?_
      refine TC_seq ?_
      refine TC_blk ?_
      refine TC_seq ?_
      refine TC_reg ?_
      refine TL_ev env 2 rfl ⟨tv, ⟨tv, tv⟩⟩ ?_
      obtain ⟨⟨r273, r274, r275, r276, r277, r278, r279, r280, r281, r282, r283, r284, r285⟩, hr, h1⟩ := bnd h1
      refine TL_callB [(0, 0), (1, 1), (2, 2), (3, 3), (4, 4), (5, 5)] (offer_laps_1.ok0 hr) offer_laps_1.fnb rfl ⟨tv, ⟨tv, tv⟩⟩ rfl ⟨.inr rfl, .inr rfl, .inr rfl, .inr rfl, .inr rfl, .inr rfl, tv⟩ rfl ?_
      refine TL_end ?_
      refine TE_go ?_
      refine TC_cond rfl (fun hb => ?_) (fun hb => ?_)
      · replace h1 := bif_t h1 hb
        refine TC_seq ?_
        refine TC_reg ?_
        refine TL_ev env 1 rfl ⟨tv, tv⟩ ?_
        refine TL_end ?_
        refine TE_go ?_
        refine TC_ret ?_
        refine tbr ?_
        refine tsr ?_
        refine tsr ?_
        refine tbr ?_
        refine tsr ?_
        refine tsr ?_
        obtain rfl := sinj h1
        obtain rfl := sinj h0
        exact TE_ret env rfl tv ⟨.inr rfl, .inr rfl, .inr rfl, .inr rfl, .inr rfl, .inr rfl, tv⟩
      · replace h1 := bif_f h1 hb
        refine TC_skip ?_
        refine tbn ?_
        refine TE_go ?_
        refine TC_reg ?_
        refine TL_ev env 3 rfl ⟨tv, ⟨⟨tv, ⟨tv, tv⟩⟩, ⟨tv, tv⟩⟩⟩ ?_
        refine TL_end ?_
        refine tsn ?_
        exact TE_nextr [] n (Nat.lt_succ_self n) (_, _, _, _, _, _, _, _, _, _, _, _, _) h1 ⟨rfl, rfl, rfl, tv⟩ ⟨rfl, rfl, rfl, rfl, rfl, rfl, tv⟩ rfl
    · replace h1 := bif_f h1 hb
      refine TC_exit ?_
      refine tsx ?_
      refine tsx ?_
      refine tbe ?_
      obtain rfl := sinj h1
      refine tsn ?_
      exact SP_ren [] (_, _, _, _, _, _, _, _, _, _, _, _) rfl tv ⟨rfl, rfl, rfl, rfl, rfl, rfl, tv⟩ rfl
  · rintro ⟨x169, x170, x171, x172, x173, x174, x175, x176, x177, x178, x179, x180⟩ rfl
    refine TE_go ?_
    refine TC_seq ?_
    refine TC_reg ?_
    refine TL_ev env 1 rfl ⟨tv, tv⟩ ?_
    refine TL_end ?_
    refine TE_go ?_
    refine TC_ret ?_
    obtain rfl := sinj h0
    exact TE_ret env rfl tv ⟨.inr rfl, .inr rfl, .inr rfl, .inr rfl, .inr rfl, .inr rfl, tv⟩
theorem offer_down_2.ok0 {K : Nat} {p0 : Int} {p1 : Int} {p2 : Int} {p3 : Int} {p4 : Int} {p5 : Int} {p6 : Int} {p7 : Int} {p8 : Int} {p9 : Int} {p10 : Int} {p11 : Int} {p12 : Int} {p13 : Int} {p14 : Int} {p15 : Int} {p16 : Int} {p17 : Int} {p18 : Int} {p19 : Int} {p20 : Int} {p21 : Int} {p22 : Int} {p23 : Int} {p24 : Int} {p25 : Int} {p26 : Int} {p27 : Int} {p28 : Int} {p29 : Int} {p30 : Int} {p31 : Int} {p32 : Int} {p33 : Int} {p34 : Int} {p35 : Int} {p36 : Int} {p37 : Int} {p38 : Int} {p39 : Int} {p40 : Int} {p41 : Int} {p42 : Int} {p43 : Int} {q0 : Bool} {q1 : Int} {q2 : Int} {q3 : Int} {q4 : Int} {q5 : Int} {q6 : Int} {q7 : Int} {q8 : Int} {q9 : Int} {q10 : Int} {q11 : Int} {q12 : Int} (h0 : offer_down_2 K p0 p1 p2 p3 p4 p5 p6 p7 p8 p9 p10 p11 p12 p13 p14 p15 p16 p17 p18 p19 p20 p21 p22 p23 p24 p25 p26 p27 p28 p29 p30 p31 p32 p33 p34 p35 p36 p37 p38 p39 p40 p41 p42 p43 = some (q0, q1, q2, q3, q4, q5, q6, q7, q8, q9, q10, q11, q12)) : Fn Try.prog 117 [.int .i64 p0, .int .i64 p1, .fn 149 [.p 0 0, .p 1 0, .p 2 0]] [(0, some (.cells [.int .i64 p2, .int .i64 p3, .int .i64 p4, .int .i64 p5, .int .i64 p6, .int .i64 p7, .int .i64 p8, .int .i64 p9, .int .i64 p10, .int .i64 p11])), (1, some (.cells [.int .i64 p12, .int .i64 p13, .int .i64 p14, .int .i64 p15, .int .i64 p16])), (2, some (.cells [.fn 116 [.p 3 0, .p 4 0, .p 5 0]])), (3, some (.cells [.int .i64 p17, .int .i64 p18, .int .i64 p19, .int .i64 p20, .int .i64 p21, .int .i64 p22, .int .i64 p23, .int .i64 p24, .int .i64 p25, .int .i64 p26, .int .i64 p27, .int .i64 p28, .int .i64 p29, .int .i64 p30, .int .i64 p31])), (4, some (.cells [.int .i64 p32, .int .i64 p33])), (5, some (.cells [.int .i64 p34, .int .i64 p35, .int .i64 p36, .int .i64 p37, .int .i64 p38, .int .i64 p39, .int .i64 p40, .int .i64 p41, .int .i64 p42, .int .i64 p43]))] (.bool q0) [(0, some (.cells [.int .i64 p2, .int .i64 p3, .int .i64 p4, .int .i64 p5, .int .i64 p6, .int .i64 p7, .int .i64 p8, .int .i64 p9, .int .i64 q1, .int .i64 q2])), (1, some (.cells [.int .i64 p12, .int .i64 p13, .int .i64 p14, .int .i64 p15, .int .i64 p16])), (2, some (.cells [.fn 116 [.p 3 0, .p 4 0, .p 5 0]])), (3, some (.cells [.int .i64 p17, .int .i64 p18, .int .i64 p19, .int .i64 p20, .int .i64 p21, .int .i64 p22, .int .i64 p23, .int .i64 p24, .int .i64 p25, .int .i64 p26, .int .i64 p27, .int .i64 p28, .int .i64 p29, .int .i64 p30, .int .i64 p31])), (4, some (.cells [.int .i64 p32, .int .i64 p33])), (5, some (.cells [.int .i64 q3, .int .i64 q4, .int .i64 q5, .int .i64 q6, .int .i64 q7, .int .i64 q8, .int .i64 q9, .int .i64 q10, .int .i64 q11, .int .i64 q12]))] := offer_down_2.ok h0
theorem offer_down_2.fnb : fnb Try.prog 117 = true := fnb_of Try.func117 rfl
def offer_laps.res (_p0 : Int) (_p1 : Int) (_p2 : Int) (_p3 : Int) (_p4 : Int) (_p5 : Int) (_p6 : Int) (_p7 : Int) (_p8 : Int) (_p9 : Int) (_p10 : Int) (_p11 : Int) (_p12 : Int) (_p13 : Int) (_p14 : Int) (_p15 : Int) (_p16 : Int) (_p17 : Int) (_p18 : Int) (_p19 : Int) (_p20 : Int) (_p21 : Int) (_p22 : Int) (_p23 : Int) (_p24 : Int) (_p25 : Int) (_p26 : Int) (_p27 : Int) (_p28 : Int) (_p29 : Int) (_p30 : Int) (_p31 : Int) (_p32 : Int) (_p33 : Int) (_p34 : Int) (_p35 : Int) (_p36 : Int) (_p37 : Int) (_p38 : Int) (_p39 : Int) (_p40 : Int) (_p41 : Int) : Bool × Int × Int × Int × Int × Int × Int × Int × Int × Int × Int → MV
  | (q0, _, _, _, _, _, _, _, _, _, _) => .bool q0
def offer_laps.out (_p0 : Int) (_p1 : Int) (_p2 : Int) (_p3 : Int) (_p4 : Int) (_p5 : Int) (_p6 : Int) (_p7 : Int) (_p8 : Int) (_p9 : Int) (_p10 : Int) (_p11 : Int) (_p12 : Int) (_p13 : Int) (_p14 : Int) (p15 : Int) (p16 : Int) (p17 : Int) (p18 : Int) (p19 : Int) (p20 : Int) (p21 : Int) (p22 : Int) (p23 : Int) (p24 : Int) (p25 : Int) (p26 : Int) (p27 : Int) (p28 : Int) (p29 : Int) (p30 : Int) (p31 : Int) (_p32 : Int) (_p33 : Int) (_p34 : Int) (_p35 : Int) (_p36 : Int) (_p37 : Int) (_p38 : Int) (_p39 : Int) (_p40 : Int) (_p41 : Int) : Bool × Int × Int × Int × Int × Int × Int × Int × Int × Int × Int → List (Nat × Option MObj)
  | (_, q1, q2, q3, q4, q5, q6, q7, q8, q9, q10) => [(0, some (.cells [.int .i64 p15, .int .i64 p16, .int .i64 p17, .int .i64 p18, .int .i64 p19, .int .i64 p20, .int .i64 p21, .int .i64 p22, .int .i64 p23, .int .i64 p24, .int .i64 p25, .int .i64 p26, .int .i64 p27, .int .i64 p28, .int .i64 p29])), (1, some (.cells [.int .i64 p30, .int .i64 p31])), (2, some (.cells [.int .i64 q1, .int .i64 q2, .int .i64 q3, .int .i64 q4, .int .i64 q5, .int .i64 q6, .int .i64 q7, .int .i64 q8, .int .i64 q9, .int .i64 q10]))]
theorem offer_laps.ok {K : Nat} {p0 : Int} {p1 : Int} {p2 : Int} {p3 : Int} {p4 : Int} {p5 : Int} {p6 : Int} {p7 : Int} {p8 : Int} {p9 : Int} {p10 : Int} {p11 : Int} {p12 : Int} {p13 : Int} {p14 : Int} {p15 : Int} {p16 : Int} {p17 : Int} {p18 : Int} {p19 : Int} {p20 : Int} {p21 : Int} {p22 : Int} {p23 : Int} {p24 : Int} {p25 : Int} {p26 : Int} {p27 : Int} {p28 : Int} {p29 : Int} {p30 : Int} {p31 : Int} {p32 : Int} {p33 : Int} {p34 : Int} {p35 : Int} {p36 : Int} {p37 : Int} {p38 : Int} {p39 : Int} {p40 : Int} {p41 : Int} {r : Bool × Int × Int × Int × Int × Int × Int × Int × Int × Int × Int} (h0 : offer_laps K p0 p1 p2 p3 p4 p5 p6 p7 p8 p9 p10 p11 p12 p13 p14 p15 p16 p17 p18 p19 p20 p21 p22 p23 p24 p25 p26 p27 p28 p29 p30 p31 p32 p33 p34 p35 p36 p37 p38 p39 p40 p41 = some r) : Fn Try.prog 121 [.fn 116 [.p 0 0, .p 1 0, .p 2 0], .agg [.int .i64 p0, .int .i64 p1, .int .i64 p2, .int .i64 p3, .int .i64 p4, .int .i64 p5, .int .i64 p6, .int .i64 p7, .int .i64 p8, .int .i64 p9], .agg [.int .i64 p10, .int .i64 p11, .int .i64 p12, .int .i64 p13, .int .i64 p14]] [(0, some (.cells [.int .i64 p15, .int .i64 p16, .int .i64 p17, .int .i64 p18, .int .i64 p19, .int .i64 p20, .int .i64 p21, .int .i64 p22, .int .i64 p23, .int .i64 p24, .int .i64 p25, .int .i64 p26, .int .i64 p27, .int .i64 p28, .int .i64 p29])), (1, some (.cells [.int .i64 p30, .int .i64 p31])), (2, some (.cells [.int .i64 p32, .int .i64 p33, .int .i64 p34, .int .i64 p35, .int .i64 p36, .int .i64 p37, .int .i64 p38, .int .i64 p39, .int .i64 p40, .int .i64 p41]))] (offer_laps.res p0 p1 p2 p3 p4 p5 p6 p7 p8 p9 p10 p11 p12 p13 p14 p15 p16 p17 p18 p19 p20 p21 p22 p23 p24 p25 p26 p27 p28 p29 p30 p31 p32 p33 p34 p35 p36 p37 p38 p39 p40 p41 r) (offer_laps.out p0 p1 p2 p3 p4 p5 p6 p7 p8 p9 p10 p11 p12 p13 p14 p15 p16 p17 p18 p19 p20 p21 p22 p23 p24 p25 p26 p27 p28 p29 p30 p31 p32 p33 p34 p35 p36 p37 p38 p39 p40 p41 r) := by
  refine Fn_of Try.func121 rfl (Nat.le_of_ble_eq_true rfl) fun Γ => ?_
  refine TC_seq ?_
  refine TC_reg ?_
  refine TL_ev env 4 rfl ⟨tv, ⟨tv, ⟨tv, ⟨tv, tv⟩⟩⟩⟩ ?_
  refine TL_end ?_
  refine TE_go ?_
  refine TC_seq ?_
  refine TC_reg ?_
  refine TL_ev env 1 rfl ⟨⟨tv, ⟨tv, ⟨tv, tv⟩⟩⟩, tv⟩ ?_
  obtain ⟨⟨r14, r15, r16, r17, r18, r19, r20, r21, r22, r23, r24, r25, r26⟩, hr, h0⟩ := bnd h0
  refine TL_callB [(0, 1004), (1, 1005), (2, 1003), (3, 0), (4, 1), (5, 2)] (offer_down_2.ok0 hr) offer_down_2.fnb rfl ⟨tv, ⟨tv, ⟨tv, ⟨tv, tv⟩⟩⟩⟩ rfl ⟨.inr rfl, .inr rfl, .inr rfl, .inr rfl, .inr rfl, .inr rfl, tv⟩ rfl ?_
  refine TL_ev env 1 rfl ⟨tv, tv⟩ ?_
  refine TL_end ?_
  refine TE_go ?_
  refine TC_ret ?_
  obtain rfl := sinj h0
  exact TE_ret env rfl tv ⟨.inr rfl, .inr rfl, .inr rfl, tv⟩
theorem offer_laps.ok0 {K : Nat} {p0 : Int} {p1 : Int} {p2 : Int} {p3 : Int} {p4 : Int} {p5 : Int} {p6 : Int} {p7 : Int} {p8 : Int} {p9 : Int} {p10 : Int} {p11 : Int} {p12 : Int} {p13 : Int} {p14 : Int} {p15 : Int} {p16 : Int} {p17 : Int} {p18 : Int} {p19 : Int} {p20 : Int} {p21 : Int} {p22 : Int} {p23 : Int} {p24 : Int} {p25 : Int} {p26 : Int} {p27 : Int} {p28 : Int} {p29 : Int} {p30 : Int} {p31 : Int} {p32 : Int} {p33 : Int} {p34 : Int} {p35 : Int} {p36 : Int} {p37 : Int} {p38 : Int} {p39 : Int} {p40 : Int} {p41 : Int} {q0 : Bool} {q1 : Int} {q2 : Int} {q3 : Int} {q4 : Int} {q5 : Int} {q6 : Int} {q7 : Int} {q8 : Int} {q9 : Int} {q10 : Int} (h0 : offer_laps K p0 p1 p2 p3 p4 p5 p6 p7 p8 p9 p10 p11 p12 p13 p14 p15 p16 p17 p18 p19 p20 p21 p22 p23 p24 p25 p26 p27 p28 p29 p30 p31 p32 p33 p34 p35 p36 p37 p38 p39 p40 p41 = some (q0, q1, q2, q3, q4, q5, q6, q7, q8, q9, q10)) : Fn Try.prog 121 [.fn 116 [.p 0 0, .p 1 0, .p 2 0], .agg [.int .i64 p0, .int .i64 p1, .int .i64 p2, .int .i64 p3, .int .i64 p4, .int .i64 p5, .int .i64 p6, .int .i64 p7, .int .i64 p8, .int .i64 p9], .agg [.int .i64 p10, .int .i64 p11, .int .i64 p12, .int .i64 p13, .int .i64 p14]] [(0, some (.cells [.int .i64 p15, .int .i64 p16, .int .i64 p17, .int .i64 p18, .int .i64 p19, .int .i64 p20, .int .i64 p21, .int .i64 p22, .int .i64 p23, .int .i64 p24, .int .i64 p25, .int .i64 p26, .int .i64 p27, .int .i64 p28, .int .i64 p29])), (1, some (.cells [.int .i64 p30, .int .i64 p31])), (2, some (.cells [.int .i64 p32, .int .i64 p33, .int .i64 p34, .int .i64 p35, .int .i64 p36, .int .i64 p37, .int .i64 p38, .int .i64 p39, .int .i64 p40, .int .i64 p41]))] (.bool q0) [(0, some (.cells [.int .i64 p15, .int .i64 p16, .int .i64 p17, .int .i64 p18, .int .i64 p19, .int .i64 p20, .int .i64 p21, .int .i64 p22, .int .i64 p23, .int .i64 p24, .int .i64 p25, .int .i64 p26, .int .i64 p27, .int .i64 p28, .int .i64 p29])), (1, some (.cells [.int .i64 p30, .int .i64 p31])), (2, some (.cells [.int .i64 q1, .int .i64 q2, .int .i64 q3, .int .i64 q4, .int .i64 q5, .int .i64 q6, .int .i64 q7, .int .i64 q8, .int .i64 q9, .int .i64 q10]))] := offer_laps.ok h0
theorem offer_laps.fnb : fnb Try.prog 121 = true := fnb_of Try.func121 rfl
def offer_subs_1_1_1_1_1.res (_p0 : Int) (_p1 : Int) (_p2 : Int) (_p3 : Int) (_p4 : Int) (_p5 : Int) (_p6 : Int) (_p7 : Int) (_p8 : Int) (_p9 : Int) (_p10 : Int) (_p11 : Int) (_p12 : Int) (_p13 : Int) (_p14 : Int) (_p15 : Int) (_p16 : Int) (_p17 : Int) (_p18 : Int) (_p19 : Int) (_p20 : Int) (_p21 : Int) (_p22 : Int) (_p23 : Int) (_p24 : Int) (_p25 : Int) (_p26 : Int) (_p27 : Int) (_p28 : Int) (_p29 : Int) (_p30 : Int) (_p31 : Int) (_p32 : Int) (_p33 : Int) (_p34 : Int) (_p35 : Int) (_p36 : Int) (_p37 : Int) : Bool × Int × Int × Int × Int × Int × Int × Int × Int × Int × Int → MV
  | (q0, _, _, _, _, _, _, _, _, _, _) => .bool q0
def offer_subs_1_1_1_1_1.out (p0 : Int) (p1 : Int) (p2 : Int) (p3 : Int) (p4 : Int) (p5 : Int) (p6 : Int) (p7 : Int) (_p8 : Int) (p9 : Int) (p10 : Int) (p11 : Int) (p12 : Int) (p13 : Int) (p14 : Int) (p15 : Int) (p16 : Int) (p17 : Int) (p18 : Int) (p19 : Int) (p20 : Int) (p21 : Int) (p22 : Int) (p23 : Int) (p24 : Int) (p25 : Int) (p26 : Int) (p27 : Int) (_p28 : Int) (_p29 : Int) (_p30 : Int) (_p31 : Int) (_p32 : Int) (_p33 : Int) (_p34 : Int) (_p35 : Int) (_p36 : Int) (_p37 : Int) : Bool × Int × Int × Int × Int × Int × Int × Int × Int × Int × Int → List (Nat × Option MObj)
  | (_, q1, q2, q3, q4, q5, q6, q7, q8, q9, q10) => [(0, some (.cells [.int .i64 p1, .int .i64 p2, .int .i64 p3, .int .i64 p4, .int .i64 p5, .int .i64 p6, .int .i64 p7, .int .i64 p0, .int .i64 p9, .int .i64 p10])), (1, some (.cells [.fn 116 [.p 2 0, .p 3 0, .p 4 0]])), (2, some (.cells [.int .i64 p11, .int .i64 p12, .int .i64 p13, .int .i64 p14, .int .i64 p15, .int .i64 p16, .int .i64 p17, .int .i64 p18, .int .i64 p19, .int .i64 p20, .int .i64 p21, .int .i64 p22, .int .i64 p23, .int .i64 p24, .int .i64 p25])), (3, some (.cells [.int .i64 p26, .int .i64 p27])), (4, some (.cells [.int .i64 q1, .int .i64 q2, .int .i64 q3, .int .i64 q4, .int .i64 q5, .int .i64 q6, .int .i64 q7, .int .i64 q8, .int .i64 q9, .int .i64 q10]))]
theorem offer_subs_1_1_1_1_1.ok {K : Nat} {p0 : Int} {p1 : Int} {p2 : Int} {p3 : Int} {p4 : Int} {p5 : Int} {p6 : Int} {p7 : Int} {p8 : Int} {p9 : Int} {p10 : Int} {p11 : Int} {p12 : Int} {p13 : Int} {p14 : Int} {p15 : Int} {p16 : Int} {p17 : Int} {p18 : Int} {p19 : Int} {p20 : Int} {p21 : Int} {p22 : Int} {p23 : Int} {p24 : Int} {p25 : Int} {p26 : Int} {p27 : Int} {p28 : Int} {p29 : Int} {p30 : Int} {p31 : Int} {p32 : Int} {p33 : Int} {p34 : Int} {p35 : Int} {p36 : Int} {p37 : Int} {r : Bool × Int × Int × Int × Int × Int × Int × Int × Int × Int × Int} (h0 : offer_subs_1_1_1_1_1 K p0 p1 p2 p3 p4 p5 p6 p7 p8 p9 p10 p11 p12 p13 p14 p15 p16 p17 p18 p19 p20 p21 p22 p23 p24 p25 p26 p27 p28 p29 p30 p31 p32 p33 p34 p35 p36 p37 = some r) : Fn Try.prog 155 [.int .i64 p0, .p 0 0, .p 1 0] [(0, some (.cells [.int .i64 p1, .int .i64 p2, .int .i64 p3, .int .i64 p4, .int .i64 p5, .int .i64 p6, .int .i64 p7, .int .i64 p8, .int .i64 p9, .int .i64 p10])), (1, some (.cells [.fn 116 [.p 2 0, .p 3 0, .p 4 0]])), (2, some (.cells [.int .i64 p11, .int .i64 p12, .int .i64 p13, .int .i64 p14, .int .i64 p15, .int .i64 p16, .int .i64 p17, .int .i64 p18, .int .i64 p19, .int .i64 p20, .int .i64 p21, .int .i64 p22, .int .i64 p23, .int .i64 p24, .int .i64 p25])), (3, some (.cells [.int .i64 p26, .int .i64 p27])), (4, some (.cells [.int .i64 p28, .int .i64 p29, .int .i64 p30, .int .i64 p31, .int .i64 p32, .int .i64 p33, .int .i64 p34, .int .i64 p35, .int .i64 p36, .int .i64 p37]))] (offer_subs_1_1_1_1_1.res p0 p1 p2 p3 p4 p5 p6 p7 p8 p9 p10 p11 p12 p13 p14 p15 p16 p17 p18 p19 p20 p21 p22 p23 p24 p25 p26 p27 p28 p29 p30 p31 p32 p33 p34 p35 p36 p37 r) (offer_subs_1_1_1_1_1.out p0 p1 p2 p3 p4 p5 p6 p7 p8 p9 p10 p11 p12 p13 p14 p15 p16 p17 p18 p19 p20 p21 p22 p23 p24 p25 p26 p27 p28 p29 p30 p31 p32 p33 p34 p35 p36 p37 r) := by
  refine Fn_of Try.func155 rfl (Nat.le_of_ble_eq_true rfl) fun Γ => ?_
  refine TC_seq ?_
  refine TC_reg ?_
  refine TL_ev env 1 rfl ⟨tv, tv⟩ ?_
  refine TL_end ?_
  refine TE_go ?_
  refine TC_seq ?_
  refine TC_reg ?_
  refine TL_ev env 3 rfl ⟨tv, ⟨tv, ⟨⟨tv, tv⟩, tv⟩⟩⟩ ?_
  refine TL_end ?_
  refine TE_go ?_
  refine TC_seq ?_
  refine TC_reg ?_
  refine TL_ev env 2 rfl ⟨⟨tv, tv⟩, ⟨⟨tv, tv⟩, tv⟩⟩ ?_
  obtain ⟨⟨r12, r13, r14, r15, r16, r17, r18, r19, r20, r21, r22⟩, hr, h0⟩ := bnd h0
  refine TL_callB [(0, 2), (1, 3), (2, 4)] (offer_Choose_1.ok0 hr) offer_Choose_1.fnb rfl ⟨tv, ⟨tv, tv⟩⟩ rfl ⟨.inr rfl, .inr rfl, .inr rfl, tv⟩ rfl ?_
  refine TL_ev env 1 rfl ⟨tv, tv⟩ ?_
  refine TL_end ?_
  refine TE_go ?_
  refine TC_ret ?_
  obtain rfl := sinj h0
  exact TE_ret env rfl tv ⟨.inr rfl, .inr rfl, .inr rfl, .inr rfl, .inr rfl, tv⟩
theorem offer_subs_1_1_1_1_1.ok0 {K : Nat} {p0 : Int} {p1 : Int} {p2 : Int} {p3 : Int} {p4 : Int} {p5 : Int} {p6 : Int} {p7 : Int} {p8 : Int} {p9 : Int} {p10 : Int} {p11 : Int} {p12 : Int} {p13 : Int} {p14 : Int} {p15 : Int} {p16 : Int} {p17 : Int} {p18 : Int} {p19 : Int} {p20 : Int} {p21 : Int} {p22 : Int} {p23 : Int} {p24 : Int} {p25 : Int} {p26 : Int} {p27 : Int} {p28 : Int} {p29 : Int} {p30 : Int} {p31 : Int} {p32 : Int} {p33 : Int} {p34 : Int} {p35 : Int} {p36 : Int} {p37 : Int} {q0 : Bool} {q1 : Int} {q2 : Int} {q3 : Int} {q4 : Int} {q5 : Int} {q6 : Int} {q7 : Int} {q8 : Int} {q9 : Int} {q10 : Int} (h0 : offer_subs_1_1_1_1_1 K p0 p1 p2 p3 p4 p5 p6 p7 p8 p9 p10 p11 p12 p13 p14 p15 p16 p17 p18 p19 p20 p21 p22 p23 p24 p25 p26 p27 p28 p29 p30 p31 p32 p33 p34 p35 p36 p37 = some (q0, q1, q2, q3, q4, q5, q6, q7, q8, q9, q10)) : Fn Try.prog 155 [.int .i64 p0, .p 0 0, .p 1 0] [(0, some (.cells [.int .i64 p1, .int .i64 p2, .int .i64 p3, .int .i64 p4, .int .i64 p5, .int .i64 p6, .int .i64 p7, .int .i64 p8, .int .i64 p9, .int .i64 p10])), (1, some (.cells [.fn 116 [.p 2 0, .p 3 0, .p 4 0]])), (2, some (.cells [.int .i64 p11, .int .i64 p12, .int .i64 p13, .int .i64 p14, .int .i64 p15, .int .i64 p16, .int .i64 p17, .int .i64 p18, .int .i64 p19, .int .i64 p20, .int .i64 p21, .int .i64 p22, .int .i64 p23, .int .i64 p24, .int .i64 p25])), (3, some (.cells [.int .i64 p26, .int .i64 p27])), (4, some (.cells [.int .i64 p28, .int .i64 p29, .int .i64 p30, .int .i64 p31, .int .i64 p32, .int .i64 p33, .int .i64 p34, .int .i64 p35, .int .i64 p36, .int .i64 p37]))] (.bool q0) [(0, some (.cells [.int .i64 p1, .int .i64 p2, .int .i64 p3, .int .i64 p4, .int .i64 p5, .int .i64 p6, .int .i64 p7, .int .i64 p0, .int .i64 p9, .int .i64 p10])), (1, some (.cells [.fn 116 [.p 2 0, .p 3 0, .p 4 0]])), (2, some (.cells [.int .i64 p11, .int .i64 p12, .int .i64 p13, .int .i64 p14, .int .i64 p15, .int .i64 p16, .int .i64 p17, .int .i64 p18, .int .i64 p19, .int .i64 p20, .int .i64 p21, .int .i64 p22, .int .i64 p23, .int .i64 p24, .int .i64 p25])), (3, some (.cells [.int .i64 p26, .int .i64 p27])), (4, some (.cells [.int .i64 q1, .int .i64 q2, .int .i64 q3, .int .i64 q4, .int .i64 q5, .int .i64 q6, .int .i64 q7, .int .i64 q8, .int .i64 q9, .int .i64 q10]))] := offer_subs_1_1_1_1_1.ok h0
theorem offer_subs_1_1_1_1_1.fnb : fnb Try.prog 155 = true := fnb_of Try.func155 rfl
def offer_down_3.res (_p0 : Int) (_p1 : Int) (_p2 : Int) (_p3 : Int) (_p4 : Int) (_p5 : Int) (_p6 : Int) (_p7 : Int) (_p8 : Int) (_p9 : Int) (_p10 : Int) (_p11 : Int) (_p12 : Int) (_p13 : Int) (_p14 : Int) (_p15 : Int) (_p16 : Int) (_p17 : Int) (_p18 : Int) (_p19 : Int) (_p20 : Int) (_p21 : Int) (_p22 : Int) (_p23 : Int) (_p24 : Int) (_p25 : Int) (_p26 : Int) (_p27 : Int) (_p28 : Int) (_p29 : Int) (_p30 : Int) (_p31 : Int) (_p32 : Int) (_p33 : Int) (_p34 : Int) (_p35 : Int) (_p36 : Int) (_p37 : Int) (_p38 : Int) : Bool × Int × Int × Int × Int × Int × Int × Int × Int × Int × Int × Int → MV
  | (q0, _, _, _, _, _, _, _, _, _, _, _) => .bool q0
def offer_down_3.out (_p0 : Int) (_p1 : Int) (p2 : Int) (p3 : Int) (p4 : Int) (p5 : Int) (p6 : Int) (p7 : Int) (p8 : Int) (_p9 : Int) (p10 : Int) (p11 : Int) (p12 : Int) (p13 : Int) (p14 : Int) (p15 : Int) (p16 : Int) (p17 : Int) (p18 : Int) (p19 : Int) (p20 : Int) (p21 : Int) (p22 : Int) (p23 : Int) (p24 : Int) (p25 : Int) (p26 : Int) (p27 : Int) (p28 : Int) (_p29 : Int) (_p30 : Int) (_p31 : Int) (_p32 : Int) (_p33 : Int) (_p34 : Int) (_p35 : Int) (_p36 : Int) (_p37 : Int) (_p38 : Int) : Bool × Int × Int × Int × Int × Int × Int × Int × Int × Int × Int × Int → List (Nat × Option MObj)
  | (_, q1, q2, q3, q4, q5, q6, q7, q8, q9, q10, q11) => [(0, some (.cells [.int .i64 p2, .int .i64 p3, .int .i64 p4, .int .i64 p5, .int .i64 p6, .int .i64 p7, .int .i64 p8, .int .i64 q1, .int .i64 p10, .int .i64 p11])), (1, some (.cells [.fn 116 [.p 2 0, .p 3 0, .p 4 0]])), (2, some (.cells [.int .i64 p12, .int .i64 p13, .int .i64 p14, .int .i64 p15, .int .i64 p16, .int .i64 p17, .int .i64 p18, .int .i64 p19, .int .i64 p20, .int .i64 p21, .int .i64 p22, .int .i64 p23, .int .i64 p24, .int .i64 p25, .int .i64 p26])), (3, some (.cells [.int .i64 p27, .int .i64 p28])), (4, some (.cells [.int .i64 q2, .int .i64 q3, .int .i64 q4, .int .i64 q5, .int .i64 q6, .int .i64 q7, .int .i64 q8, .int .i64 q9, .int .i64 q10, .int .i64 q11]))]
theorem offer_down_3.ok {K : Nat} {p0 : Int} {p1 : Int} {p2 : Int} {p3 : Int} {p4 : Int} {p5 : Int} {p6 : Int} {p7 : Int} {p8 : Int} {p9 : Int} {p10 : Int} {p11 : Int} {p12 : Int} {p13 : Int} {p14 : Int} {p15 : Int} {p16 : Int} {p17 : Int} {p18 : Int} {p19 : Int} {p20 : Int} {p21 : Int} {p22 : Int} {p23 : Int} {p24 : Int} {p25 : Int} {p26 : Int} {p27 : Int} {p28 : Int} {p29 : Int} {p30 : Int} {p31 : Int} {p32 : Int} {p33 : Int} {p34 : Int} {p35 : Int} {p36 : Int} {p37 : Int} {p38 : Int} {r : Bool × Int × Int × Int × Int × Int × Int × Int × Int × Int × Int × Int} (h0 : offer_down_3 K p0 p1 p2 p3 p4 p5 p6 p7 p8 p9 p10 p11 p12 p13 p14 p15 p16 p17 p18 p19 p20 p21 p22 p23 p24 p25 p26 p27 p28 p29 p30 p31 p32 p33 p34 p35 p36 p37 p38 = some r) : Fn Try.prog 117 [.int .i64 p0, .int .i64 p1, .fn 155 [.p 0 0, .p 1 0]] [(0, some (.cells [.int .i64 p2, .int .i64 p3, .int .i64 p4, .int .i64 p5, .int .i64 p6, .int .i64 p7, .int .i64 p8, .int .i64 p9, .int .i64 p10, .int .i64 p11])), (1, some (.cells [.fn 116 [.p 2 0, .p 3 0, .p 4 0]])), (2, some (.cells [.int .i64 p12, .int .i64 p13, .int .i64 p14, .int .i64 p15, .int .i64 p16, .int .i64 p17, .int .i64 p18, .int .i64 p19, .int .i64 p20, .int .i64 p21, .int .i64 p22, .int .i64 p23, .int .i64 p24, .int .i64 p25, .int .i64 p26])), (3, some (.cells [.int .i64 p27, .int .i64 p28])), (4, some (.cells [.int .i64 p29, .int .i64 p30, .int .i64 p31, .int .i64 p32, .int .i64 p33, .int .i64 p34, .int .i64 p35, .int .i64 p36, .int .i64 p37, .int .i64 p38]))] (offer_down_3.res p0 p1 p2 p3 p4 p5 p6 p7 p8 p9 p10 p11 p12 p13 p14 p15 p16 p17 p18 p19 p20 p21 p22 p23 p24 p25 p26 p27 p28 p29 p30 p31 p32 p33 p34 p35 p36 p37 p38 r) (offer_down_3.out p0 p1 p2 p3 p4 p5 p6 p7 p8 p9 p10 p11 p12 p13 p14 p15 p16 p17 p18 p19 p20 p21 p22 p23 p24 p25 p26 p27 p28 p29 p30 p31 p32 p33 p34 p35 p36 p37 p38 r) := by
  refine Fn_of Try.func117 rfl (Nat.le_of_ble_eq_true rfl) fun Γ => ?_
  refine TC_seq ?_
  refine TC_reg ?_
  refine TL_ev env 1 rfl ⟨tv, tv⟩ ?_
  refine TL_end ?_
  refine TE_go ?_
  refine TC_seq ?_
  refine TC_seq ?_
  refine TC_reg ?_
  refine TL_ev env 2 rfl ⟨tv, ⟨tv, tv⟩⟩ ?_
  refine TL_end ?_
  refine TE_go ?_
  obtain ⟨z1, h1, h0⟩ := bnd h0
  refine TC_cut (α := Int × Int × Int × Int × Int × Int × Int × Int × Int × Int × Int) (fun s => z1 = .inl s) (fun s => []) (fun s => [(0, some (.cells [.int .i64 p2, .int .i64 p3, .int .i64 p4, .int .i64 p5, .int .i64 p6, .int .i64 p7, .int .i64 p8, .int .i64 s.1, .int .i64 p10, .int .i64 p11])), (1, some (.cells [.fn 116 [.p 2 0, .p 3 0, .p 4 0]])), (2, some (.cells [.int .i64 p12, .int .i64 p13, .int .i64 p14, .int .i64 p15, .int .i64 p16, .int .i64 p17, .int .i64 p18, .int .i64 p19, .int .i64 p20, .int .i64 p21, .int .i64 p22, .int .i64 p23, .int .i64 p24, .int .i64 p25, .int .i64 p26])), (3, some (.cells [.int .i64 p27, .int .i64 p28])), (4, some (.cells [.int .i64 s.2.1, .int .i64 s.2.2.1, .int .i64 s.2.2.2.1, .int .i64 s.2.2.2.2.1, .int .i64 s.2.2.2.2.2.1, .int .i64 s.2.2.2.2.2.2.1, .int .i64 s.2.2.2.2.2.2.2.1, .int .i64 s.2.2.2.2.2.2.2.2.1, .int .i64 s.2.2.2.2.2.2.2.2.2.1, .int .i64 s.2.2.2.2.2.2.2.2.2.2]))]) ?_ ?_
  · refine TC_blk ?_
    refine TC_loop (α := Int × Int × Int × Int × Int × Int × Int × Int × Int × Int × Int × Int) (fun n s => offer_down_3.l0 K p1 p2 p3 p4 p5 p6 p7 p8 p10 p11 p12 p13 p14 p15 p16 p17 p18 p19 p20 p21 p22 p23 p24 p25 p26 p27 p28 n s.1 s.2.1 s.2.2.1 s.2.2.2.1 s.2.2.2.2.1 s.2.2.2.2.2.1 s.2.2.2.2.2.2.1 s.2.2.2.2.2.2.2.1 s.2.2.2.2.2.2.2.2.1 s.2.2.2.2.2.2.2.2.2.1 s.2.2.2.2.2.2.2.2.2.2.1 s.2.2.2.2.2.2.2.2.2.2.2 = some z1) (fun s => [(1, .int .i64 p1), (2, .fn 155 [.p 0 0, .p 1 0]), (7, .int .i64 s.1)]) (fun s => [(0, some (.cells [.int .i64 p2, .int .i64 p3, .int .i64 p4, .int .i64 p5, .int .i64 p6, .int .i64 p7, .int .i64 p8, .int .i64 s.2.1, .int .i64 p10, .int .i64 p11])), (1, some (.cells [.fn 116 [.p 2 0, .p 3 0, .p 4 0]])), (2, some (.cells [.int .i64 p12, .int .i64 p13, .int .i64 p14, .int .i64 p15, .int .i64 p16, .int .i64 p17, .int .i64 p18, .int .i64 p19, .int .i64 p20, .int .i64 p21, .int .i64 p22, .int .i64 p23, .int .i64 p24, .int .i64 p25, .int .i64 p26])), (3, some (.cells [.int .i64 p27, .int .i64 p28])), (4, some (.cells [.int .i64 s.2.2.1, .int .i64 s.2.2.2.1, .int .i64 s.2.2.2.2.1, .int .i64 s.2.2.2.2.2.1, .int .i64 s.2.2.2.2.2.2.1, .int .i64 s.2.2.2.2.2.2.2.1, .int .i64 s.2.2.2.2.2.2.2.2.1, .int .i64 s.2.2.2.2.2.2.2.2.2.1, .int .i64 s.2.2.2.2.2.2.2.2.2.2.1, .int .i64 s.2.2.2.2.2.2.2.2.2.2.2]))]) K ?_ ?_
    · exact SP_ren [] (_, _, _, _, _, _, _, _, _, _, _, _) h1 ⟨rfl, rfl, rfl, tv⟩ ⟨rfl, rfl, rfl, rfl, rfl, tv⟩ rfl
    rintro n ⟨x181, x182, x183, x184, x185, x186, x187, x188, x189, x190, x191, x192⟩ h1
    rcases n with _ | n
    · exact (nsome h1).elim
    replace h1 : offer_down_3.r0 K p1 p2 p3 p4 p5 p6 p7 p8 p10 p11 p12 p13 p14 p15 p16 p17 p18 p19 p20 p21 p22 p23 p24 p25 p26 p27 p28 (offer_down_3.l0 K p1 p2 p3 p4 p5 p6 p7 p8 p10 p11 p12 p13 p14 p15 p16 p17 p18 p19 p20 p21 p22 p23 p24 p25 p26 p27 p28 n) x181 x182 x183 x184 x185 x186 x187 x188 x189 x190 x191 x192 = some z1 := h1
    refine TC_seq ?_
    refine TC_seq ?_
    refine TC_reg ?_
    refine TL_ev env 3 rfl ⟨tv, ⟨tv, ⟨⟨tv, ⟨tv, tv⟩⟩, tv⟩⟩⟩ ?_
    refine TL_end ?_
    refine TE_go ?_
    refine TC_cond rfl (fun hb => ?_) (fun hb => ?_)
    · replace h1 := bif_t h1 hb
      refine TC_skip ?_
      refine TE_go ?_
      refine TC_seq ?_
      refine TC_blk ?_
      refine TC_seq ?_
      refine TC_reg ?_
      refine TL_ev env 2 rfl ⟨tv, ⟨tv, tv⟩⟩ ?_
      obtain ⟨⟨r239, r240, r241, r242, r243, r244, r245, r246, r247, r248, r249⟩, hr, h1⟩ := bnd h1
      refine TL_callB [(0, 0), (1, 1), (2, 2), (3, 3), (4, 4)] (offer_subs_1_1_1_1_1.ok0 hr) offer_subs_1_1_1_1_1.fnb rfl ⟨tv, ⟨tv, tv⟩⟩ rfl ⟨.inr rfl, .inr rfl, .inr rfl, .inr rfl, .inr rfl, tv⟩ rfl ?_
      refine TL_end ?_
      refine TE_go ?_
      refine TC_cond rfl (fun hb => ?_) (fun hb => ?_)
      · replace h1 := bif_t h1 hb
        refine TC_seq ?_
        refine TC_reg ?_
        refine TL_ev env 1 rfl ⟨tv, tv⟩ ?_
        refine TL_end ?_
        refine TE_go ?_
        refine TC_ret ?_
        refine tbr ?_
        refine tsr ?_
        refine tsr ?_
        refine tbr ?_
        refine tsr ?_
        refine tsr ?_
        obtain rfl := sinj h1
        obtain rfl := sinj h0
        exact TE_ret env rfl tv ⟨.inr rfl, .inr rfl, .inr rfl, .inr rfl, .inr rfl, tv⟩
      · replace h1 := bif_f h1 hb
        refine TC_skip ?_
        refine tbn ?_
        refine TE_go ?_
        refine TC_reg ?_
        refine TL_ev env 3 rfl ⟨tv, ⟨⟨tv, ⟨tv, tv⟩⟩, ⟨tv, tv⟩⟩⟩ ?_
        refine TL_end ?_
        refine tsn ?_
        exact TE_nextr [] n (Nat.lt_succ_self n) (_, _, _, _, _, _, _, _, _, _, _, _) h1 ⟨rfl, rfl, rfl, tv⟩ ⟨rfl, rfl, rfl, rfl, rfl, tv⟩ rfl
    · replace h1 := bif_f h1 hb
      refine TC_exit ?_
      refine tsx ?_
      refine tsx ?_
      refine tbe ?_
      obtain rfl := sinj h1
      refine tsn ?_
      exact SP_ren [] (_, _, _, _, _, _, _, _, _, _, _) rfl tv ⟨rfl, rfl, rfl, rfl, rfl, tv⟩ rfl
  · rintro ⟨x148, x149, x150, x151, x152, x153, x154, x155, x156, x157, x158⟩ rfl
    refine TE_go ?_
    refine TC_seq ?_
    refine TC_reg ?_
    refine TL_ev env 1 rfl ⟨tv, tv⟩ ?_
    refine TL_end ?_
    refine TE_go ?_
    refine TC_ret ?_
    obtain rfl := sinj h0
    exact TE_ret env rfl tv ⟨.inr rfl, .inr rfl, .inr rfl, .inr rfl, .inr rfl, tv⟩
theorem offer_down_3.ok0 {K : Nat} {p0 : Int} {p1 : Int} {p2 : Int} {p3 : Int} {p4 : Int} {p5 : Int} {p6 : Int} {p7 : Int} {p8 : Int} {p9 : Int} {p10 : Int} {p11 : Int} {p12 : Int} {p13 : Int} {p14 : Int} {p15 : Int} {p16 : Int} {p17 : Int} {p18 : Int} {p19 : Int} {p20 : Int} {p21 : Int} {p22 : Int} {p23 : Int} {p24 : Int} {p25 : Int} {p26 : Int} {p27 : Int} {p28 : Int} {p29 : Int} {p30 : Int} {p31 : Int} {p32 : Int} {p33 : Int} {p34 : Int} {p35 : Int} {p36 : Int} {p37 : Int} {p38 : Int} {q0 : Bool} {q1 : Int} {q2 : Int} {q3 : Int} {q4 : Int} {q5 : Int} {q6 : Int} {q7 : Int} {q8 : Int} {q9 : Int} {q10 : Int} {q11 : Int} (h0 : offer_down_3 K p0 p1 p2 p3 p4 p5 p6 p7 p8 p9 p10 p11 p12 p13 p14 p15 p16 p17 p18 p19 p20 p21 p22 p23 p24 p25 p26 p27 p28 p29 p30 p31 p32 p33 p34 p35 p36 p37 p38 = some (q0, q1, q2, q3, q4, q5, q6, q7, q8, q9, q10, q11)) : Fn Try.prog 117 [.int .i64 p0, .int .i64 p1, .fn 155 [.p 0 0, .p 1 0]] [(0, some (.cells [.int .i64 p2, .int .i64 p3, .int .i64 p4, .int .i64 p5, .int .i64 p6, .int .i64 p7, .int .i64 p8, .int .i64 p9, .int .i64 p10, .int .i64 p11])), (1, some (.cells [.fn 116 [.p 2 0, .p 3 0, .p 4 0]])), (2, some (.cells [.int .i64 p12, .int .i64 p13, .int .i64 p14, .int .i64 p15, .int .i64 p16, .int .i64 p17, .int .i64 p18, .int .i64 p19, .int .i64 p20, .int .i64 p21, .int .i64 p22, .int .i64 p23, .int .i64 p24, .int .i64 p25, .int .i64 p26])), (3, some (.cells [.int .i64 p27, .int .i64 p28])), (4, some (.cells [.int .i64 p29, .int .i64 p30, .int .i64 p31, .int .i64 p32, .int .i64 p33, .int .i64 p34, .int .i64 p35, .int .i64 p36, .int .i64 p37, .int .i64 p38]))] (.bool q0) [(0, some (.cells [.int .i64 p2, .int .i64 p3, .int .i64 p4, .int .i64 p5, .int .i64 p6, .int .i64 p7, .int .i64 p8, .int .i64 q1, .int .i64 p10, .int .i64 p11])), (1, some (.cells [.fn 116 [.p 2 0, .p 3 0, .p 4 0]])), (2, some (.cells [.int .i64 p12, .int .i64 p13, .int .i64 p14, .int .i64 p15, .int .i64 p16, .int .i64 p17, .int .i64 p18, .int .i64 p19, .int .i64 p20, .int .i64 p21, .int .i64 p22, .int .i64 p23, .int .i64 p24, .int .i64 p25, .int .i64 p26])), (3, some (.cells [.int .i64 p27, .int .i64 p28])), (4, some (.cells [.int .i64 q2, .int .i64 q3, .int .i64 q4, .int .i64 q5, .int .i64 q6, .int .i64 q7, .int .i64 q8, .int .i64 q9, .int .i64 q10, .int .i64 q11]))] := offer_down_3.ok h0
theorem offer_down_3.fnb : fnb Try.prog 117 = true := fnb_of Try.func117 rfl
def offer_subs_1_1_1_1.res (_p0 : Int) (_p1 : Int) (_p2 : Int) (_p3 : Int) (_p4 : Int) (_p5 : Int) (_p6 : Int) (_p7 : Int) (_p8 : Int) (_p9 : Int) (_p10 : Int) (_p11 : Int) (_p12 : Int) (_p13 : Int) (_p14 : Int) (_p15 : Int) (_p16 : Int) (_p17 : Int) (_p18 : Int) (_p19 : Int) (_p20 : Int) (_p21 : Int) (_p22 : Int) (_p23 : Int) (_p24 : Int) (_p25 : Int) (_p26 : Int) (_p27 : Int) (_p28 : Int) (_p29 : Int) (_p30 : Int) (_p31 : Int) (_p32 : Int) (_p33 : Int) (_p34 : Int) (_p35 : Int) (_p36 : Int) (_p37 : Int) (_p38 : Int) (_p39 : Int) (_p40 : Int) (_p41 : Int) (_p42 : Int) (_p43 : Int) (_p44 : Int) (_p45 : Int) (_p46 : Int) (_p47 : Int) (_p48 : Int) : Bool × Int × Int × Int × Int × Int × Int × Int × Int × Int × Int × Int × Int × Int → MV
  | (q0, _, _, _, _, _, _, _, _, _, _, _, _, _) => .bool q0
def offer_subs_1_1_1_1.out (p0 : Int) (p1 : Int) (p2 : Int) (p3 : Int) (p4 : Int) (p5 : Int) (p6 : Int) (_p7 : Int) (_p8 : Int) (_p9 : Int) (_p10 : Int) (_p11 : Int) (p12 : Int) (p13 : Int) (p14 : Int) (p15 : Int) (p16 : Int) (p17 : Int) (p18 : Int) (p19 : Int) (p20 : Int) (p21 : Int) (p22 : Int) (p23 : Int) (p24 : Int) (p25 : Int) (p26 : Int) (p27 : Int) (p28 : Int) (p29 : Int) (p30 : Int) (p31 : Int) (p32 : Int) (p33 : Int) (p34 : Int) (p35 : Int) (p36 : Int) (p37 : Int) (p38 : Int) (_p39 : Int) (_p40 : Int) (_p41 : Int) (_p42 : Int) (_p43 : Int) (_p44 : Int) (_p45 : Int) (_p46 : Int) (_p47 : Int) (_p48 : Int) : Bool × Int × Int × Int × Int × Int × Int × Int × Int × Int × Int × Int × Int × Int → List (Nat × Option MObj)
  | (_, q1, q2, q3, q4, q5, q6, q7, q8, q9, q10, q11, q12, q13) => [(0, some (.cells [.int .i64 p1])), (1, some (.cells [.int .i64 p2])), (2, some (.cells [.int .i64 p3])), (3, some (.cells [.int .i64 p4, .int .i64 p5, .int .i64 p6, .int .i64 q1, .int .i64 q2, .int .i64 p0, .int .i64 p3, .int .i64 q3, .int .i64 p12, .int .i64 p13])), (4, some (.cells [.int .i64 p14, .int .i64 p15, .int .i64 p16, .int .i64 p17, .int .i64 p18, .int .i64 p19, .int .i64 p20, .int .i64 p21])), (5, some (.cells [.fn 116 [.p 6 0, .p 7 0, .p 8 0]])), (6, some (.cells [.int .i64 p22, .int .i64 p23, .int .i64 p24, .int .i64 p25, .int .i64 p26, .int .i64 p27, .int .i64 p28, .int .i64 p29, .int .i64 p30, .int .i64 p31, .int .i64 p32, .int .i64 p33, .int .i64 p34, .int .i64 p35, .int .i64 p36])), (7, some (.cells [.int .i64 p37, .int .i64 p38])), (8, some (.cells [.int .i64 q4, .int .i64 q5, .int .i64 q6, .int .i64 q7, .int .i64 q8, .int .i64 q9, .int .i64 q10, .int .i64 q11, .int .i64 q12, .int .i64 q13]))]
theorem offer_subs_1_1_1_1.ok {K : Nat} {p0 : Int} {p1 : Int} {p2 : Int} {p3 : Int} {p4 : Int} {p5 : Int} {p6 : Int} {p7 : Int} {p8 : Int} {p9 : Int} {p10 : Int} {p11 : Int} {p12 : Int} {p13 : Int} {p14 : Int} {p15 : Int} {p16 : Int} {p17 : Int} {p18 : Int} {p19 : Int} {p20 : Int} {p21 : Int} {p22 : Int} {p23 : Int} {p24 : Int} {p25 : Int} {p26 : Int} {p27 : Int} {p28 : Int} {p29 : Int} {p30 : Int} {p31 : Int} {p32 : Int} {p33 : Int} {p34 : Int} {p35 : Int} {p36 : Int} {p37 : Int} {p38 : Int} {p39 : Int} {p40 : Int} {p41 : Int} {p42 : Int} {p43 : Int} {p44 : Int} {p45 : Int} {p46 : Int} {p47 : Int} {p48 : Int} {r : Bool × Int × Int × Int × Int × Int × Int × Int × Int × Int × Int × Int × Int × Int} (h0 : offer_subs_1_1_1_1 K p0 p1 p2 p3 p4 p5 p6 p7 p8 p9 p10 p11 p12 p13 p14 p15 p16 p17 p18 p19 p20 p21 p22 p23 p24 p25 p26 p27 p28 p29 p30 p31 p32 p33 p34 p35 p36 p37 p38 p39 p40 p41 p42 p43 p44 p45 p46 p47 p48 = some r) : Fn Try.prog 154 [.int .i64 p0, .p 0 0, .p 1 0, .p 2 0, .p 3 0, .p 4 0, .p 5 0] [(0, some (.cells [.int .i64 p1])), (1, some (.cells [.int .i64 p2])), (2, some (.cells [.int .i64 p3])), (3, some (.cells [.int .i64 p4, .int .i64 p5, .int .i64 p6, .int .i64 p7, .int .i64 p8, .int .i64 p9, .int .i64 p10, .int .i64 p11, .int .i64 p12, .int .i64 p13])), (4, some (.cells [.int .i64 p14, .int .i64 p15, .int .i64 p16, .int .i64 p17, .int .i64 p18, .int .i64 p19, .int .i64 p20, .int .i64 p21])), (5, some (.cells [.fn 116 [.p 6 0, .p 7 0, .p 8 0]])), (6, some (.cells [.int .i64 p22, .int .i64 p23, .int .i64 p24, .int .i64 p25, .int .i64 p26, .int .i64 p27, .int .i64 p28, .int .i64 p29, .int .i64 p30, .int .i64 p31, .int .i64 p32, .int .i64 p33, .int .i64 p34, .int .i64 p35, .int .i64 p36])), (7, some (.cells [.int .i64 p37, .int .i64 p38])), (8, some (.cells [.int .i64 p39, .int .i64 p40, .int .i64 p41, .int .i64 p42, .int .i64 p43, .int .i64 p44, .int .i64 p45, .int .i64 p46, .int .i64 p47, .int .i64 p48]))] (offer_subs_1_1_1_1.res p0 p1 p2 p3 p4 p5 p6 p7 p8 p9 p10 p11 p12 p13 p14 p15 p16 p17 p18 p19 p20 p21 p22 p23 p24 p25 p26 p27 p28 p29 p30 p31 p32 p33 p34 p35 p36 p37 p38 p39 p40 p41 p42 p43 p44 p45 p46 p47 p48 r) (offer_subs_1_1_1_1.out p0 p1 p2 p3 p4 p5 p6 p7 p8 p9 p10 p11 p12 p13 p14 p15 p16 p17 p18 p19 p20 p21 p22 p23 p24 p25 p26 p27 p28 p29 p30 p31 p32 p33 p34 p35 p36 p37 p38 p39 p40 p41 p42 p43 p44 p45 p46 p47 p48 r) := by
  refine Fn_of Try.func154 rfl (Nat.le_of_ble_eq_true rfl) fun Γ => ?_
  refine TC_seq ?_
  refine TC_reg ?_
  refine TL_ev env 1 rfl ⟨tv, tv⟩ ?_
  refine TL_end ?_
  refine TE_go ?_
  refine TC_seq ?_
  refine TC_renw (A' := [(0, .int .i64 _), (1, .p 0 0), (2, .p 1 0), (3, .p 2 0), (4, .p 3 0), (5, .p 4 0), (6, .p 5 0)]) (L' := [(0, some (.cells [.int .i64 _])), (1, some (.cells [.int .i64 _])), (2, some (.cells [.int .i64 _])), (3, some (.cells [.int .i64 _, .int .i64 _, .int .i64 _, .int .i64 _, .int .i64 _, .int .i64 _, .int .i64 _, .int .i64 _, .int .i64 _, .int .i64 _])), (4, some (.cells [.int .i64 _, .int .i64 _, .int .i64 _, .int .i64 _, .int .i64 _, .int .i64 _, .int .i64 _, .int .i64 _])), (5, some (.cells [.fn 116 [.p 6 0, .p 7 0, .p 8 0]])), (6, some (.cells [.int .i64 _, .int .i64 _, .int .i64 _, .int .i64 _, .int .i64 _, .int .i64 _, .int .i64 _, .int .i64 _, .int .i64 _, .int .i64 _, .int .i64 _, .int .i64 _, .int .i64 _, .int .i64 _, .int .i64 _])), (7, some (.cells [.int .i64 _, .int .i64 _])), (8, some (.cells [.int .i64 _, .int .i64 _, .int .i64 _, .int .i64 _, .int .i64 _, .int .i64 _, .int .i64 _, .int .i64 _, .int .i64 _, .int .i64 _]))]) [] ⟨rfl, rfl, rfl, rfl, rfl, rfl, rfl, tv⟩ ⟨rfl, rfl, rfl, rfl, rfl, rfl, rfl, rfl, rfl, tv⟩ rfl ?_
  refine TC_drawR ⟨_, fun i => ([[], [0], [1, 0], [], [3], [], [], [2, 1, 0], [7, 2, 1, 0], [8, 7, 4, 3, 2, 1, 0], [9, 8, 7, 4, 3, 2, 1, 0], [10, 9, 8, 7, 5, 4, 3, 2, 1, 0], [11, 10, 9, 8, 7, 5, 4, 3, 2, 1, 0], [12, 11, 10, 9, 8, 7, 6, 5, 4, 3, 2, 1, 0], [13, 12, 11, 10, 9, 8, 7, 6, 5, 4, 3, 2, 1, 0]] : List (List Nat)).getD i [], fun i => ([[], [], [], [], [], [], [], [], [3], [], [3], [], [3], [], [3]] : List (List Nat)).getD i [], fun i => ([[], [], [], [], [], [], [], [], [], [], [], [], [], [], []] : List (List Nat)).getD i []⟩ (fun i => ([[], [], [], [3], [3], [3], [3], [], [], [], [], [], [], [], []] : List (List Nat)).getD i []) (by kernel_rfl) (by kernel_rfl) ?_
  refine AJR_ev env 1 rfl (Nat.le_of_ble_eq_true rfl) rfl ⟨tv, tv⟩ ?_
  refine AJR_ev env 2 rfl (Nat.le_of_ble_eq_true rfl) rfl ⟨tv, ⟨tv, tv⟩⟩ ?_
  refine AJR_ev env 3 rfl (Nat.le_of_ble_eq_true rfl) rfl ⟨tv, ⟨tv, tv⟩⟩ ?_
  refine AJR_ev env 4 rfl (Nat.le_of_ble_eq_true rfl) rfl ⟨tv, tv⟩ ?_
  refine AJR_ev env 5 rfl (Nat.le_of_ble_eq_true rfl) rfl ⟨tv, ⟨tv, tv⟩⟩ ?_
  refine AJR_ev env 6 rfl (Nat.le_of_ble_eq_true rfl) rfl ⟨tv, tv⟩ ?_
  refine AJR_ev env 7 rfl (Nat.le_of_ble_eq_true rfl) rfl tv ?_
  refine AJR_ev env 8 rfl (Nat.le_of_ble_eq_true rfl) rfl tv ?_
  refine AJR_ev env 9 rfl (Nat.le_of_ble_eq_true rfl) rfl ⟨tv, tv⟩ ?_
  refine AJR_ev env 10 rfl (Nat.le_of_ble_eq_true rfl) rfl tv ?_
  refine AJR_ev env 11 rfl (Nat.le_of_ble_eq_true rfl) rfl ⟨tv, tv⟩ ?_
  refine AJR_ev env 12 rfl (Nat.le_of_ble_eq_true rfl) rfl tv ?_
  refine AJR_ev env 13 rfl (Nat.le_of_ble_eq_true rfl) rfl ⟨tv, tv⟩ ?_
  refine AJR_ev env 14 rfl (Nat.le_of_ble_eq_true rfl) rfl tv ?_
  refine AJR_ev env 15 rfl (Nat.le_of_ble_eq_true rfl) rfl ⟨tv, tv⟩ ?_
  refine AJR_end rfl rfl rfl ?_
  refine TE_go ?_
  refine TC_seq ?_
  refine TC_reg ?_
  refine TL_ev env 5 rfl ⟨tv, ⟨⟨tv, tv⟩, ⟨tv, ⟨⟨tv, tv⟩, ⟨⟨tv, ⟨tv, tv⟩⟩, tv⟩⟩⟩⟩⟩ ?_
  obtain ⟨⟨r16, r17, r18, r19, r20, r21, r22, r23, r24, r25, r26, r27⟩, hr, h0⟩ := bnd h0
  refine TL_callB [(0, 3), (1, 5), (2, 6), (3, 7), (4, 8)] (offer_down_3.ok0 hr) offer_down_3.fnb rfl ⟨tv, ⟨tv, ⟨tv, ⟨tv, tv⟩⟩⟩⟩ rfl ⟨.inr rfl, .inr rfl, .inr rfl, .inr rfl, .inr rfl, tv⟩ rfl ?_
  refine TL_ev env 1 rfl ⟨tv, tv⟩ ?_
  refine TL_end ?_
  refine TE_go ?_
  refine TC_ret ?_
  obtain rfl := sinj h0
  exact TE_ret env rfl tv ⟨.inr rfl, .inr rfl, .inr rfl, .inr rfl, .inr rfl, .inr rfl, .inr rfl, .inr rfl, .inr rfl, tv⟩
theorem offer_subs_1_1_1_1.ok0 {K : Nat} {p0 : Int} {p1 : Int} {p2 : Int} {p3 : Int} {p4 : Int} {p5 : Int} {p6 : Int} {p7 : Int} {p8 : Int} {p9 : Int} {p10 : Int} {p11 : Int} {p12 : Int} {p13 : Int} {p14 : Int} {p15 : Int} {p16 : Int} {p17 : Int} {p18 : Int} {p19 : Int} {p20 : Int} {p21 : Int} {p22 : Int} {p23 : Int} {p24 : Int} {p25 : Int} {p26 : Int} {p27 : Int} {p28 : Int} {p29 : Int} {p30 : Int} {p31 : Int} {p32 : Int} {p33 : Int} {p34 : Int} {p35 : Int} {p36 : Int} {p37 : Int} {p38 : Int} {p39 : Int} {p40 : Int} {p41 : Int} {p42 : Int} {p43 : Int} {p44 : Int} {p45 : Int} {p46 : Int} {p47 : Int} {p48 : Int} {q0 : Bool} {q1 : Int} {q2 : Int} {q3 : Int} {q4 : Int} {q5 : Int} {q6 : Int} {q7 : Int} {q8 : Int} {q9 : Int} {q10 : Int} {q11 : Int} {q12 : Int} {q13 : Int} (h0 : offer_subs_1_1_1_1 K p0 p1 p2 p3 p4 p5 p6 p7 p8 p9 p10 p11 p12 p13 p14 p15 p16 p17 p18 p19 p20 p21 p22 p23 p24 p25 p26 p27 p28 p29 p30 p31 p32 p33 p34 p35 p36 p37 p38 p39 p40 p41 p42 p43 p44 p45 p46 p47 p48 = some (q0, q1, q2, q3, q4, q5, q6, q7, q8, q9, q10, q11, q12, q13)) : Fn Try.prog 154 [.int .i64 p0, .p 0 0, .p 1 0, .p 2 0, .p 3 0, .p 4 0, .p 5 0] [(0, some (.cells [.int .i64 p1])), (1, some (.cells [.int .i64 p2])), (2, some (.cells [.int .i64 p3])), (3, some (.cells [.int .i64 p4, .int .i64 p5, .int .i64 p6, .int .i64 p7, .int .i64 p8, .int .i64 p9, .int .i64 p10, .int .i64 p11, .int .i64 p12, .int .i64 p13])), (4, some (.cells [.int .i64 p14, .int .i64 p15, .int .i64 p16, .int .i64 p17, .int .i64 p18, .int .i64 p19, .int .i64 p20, .int .i64 p21])), (5, some (.cells [.fn 116 [.p 6 0, .p 7 0, .p 8 0]])), (6, some (.cells [.int .i64 p22, .int .i64 p23, .int .i64 p24, .int .i64 p25, .int .i64 p26, .int .i64 p27, .int .i64 p28, .int .i64 p29, .int .i64 p30, .int .i64 p31, .int .i64 p32, .int .i64 p33, .int .i64 p34, .int .i64 p35, .int .i64 p36])), (7, some (.cells [.int .i64 p37, .int .i64 p38])), (8, some (.cells [.int .i64 p39, .int .i64 p40, .int .i64 p41, .int .i64 p42, .int .i64 p43, .int .i64 p44, .int .i64 p45, .int .i64 p46, .int .i64 p47, .int .i64 p48]))] (.bool q0) [(0, some (.cells [.int .i64 p1])), (1, some (.cells [.int .i64 p2])), (2, some (.cells [.int .i64 p3])), (3, some (.cells [.int .i64 p4, .int .i64 p5, .int .i64 p6, .int .i64 q1, .int .i64 q2, .int .i64 p0, .int .i64 p3, .int .i64 q3, .int .i64 p12, .int .i64 p13])), (4, some (.cells [.int .i64 p14, .int .i64 p15, .int .i64 p16, .int .i64 p17, .int .i64 p18, .int .i64 p19, .int .i64 p20, .int .i64 p21])), (5, some (.cells [.fn 116 [.p 6 0, .p 7 0, .p 8 0]])), (6, some (.cells [.int .i64 p22, .int .i64 p23, .int .i64 p24, .int .i64 p25, .int .i64 p26, .int .i64 p27, .int .i64 p28, .int .i64 p29, .int .i64 p30, .int .i64 p31, .int .i64 p32, .int .i64 p33, .int .i64 p34, .int .i64 p35, .int .i64 p36])), (7, some (.cells [.int .i64 p37, .int .i64 p38])), (8, some (.cells [.int .i64 q4, .int .i64 q5, .int .i64 q6, .int .i64 q7, .int .i64 q8, .int .i64 q9, .int .i64 q10, .int .i64 q11, .int .i64 q12, .int .i64 q13]))] := offer_subs_1_1_1_1.ok h0
theorem offer_subs_1_1_1_1.fnb : fnb Try.prog 154 = true := fnb_of Try.func154 rfl
def offer_down_4.res (_p0 : Int) (_p1 : Int) (_p2 : Int) (_p3 : Int) (_p4 : Int) (_p5 : Int) (_p6 : Int) (_p7 : Int) (_p8 : Int) (_p9 : Int) (_p10 : Int) (_p11 : Int) (_p12 : Int) (_p13 : Int) (_p14 : Int) (_p15 : Int) (_p16 : Int) (_p17 : Int) (_p18 : Int) (_p19 : Int) (_p20 : Int) (_p21 : Int) (_p22 : Int) (_p23 : Int) (_p24 : Int) (_p25 : Int) (_p26 : Int) (_p27 : Int) (_p28 : Int) (_p29 : Int) (_p30 : Int) (_p31 : Int) (_p32 : Int) (_p33 : Int) (_p34 : Int) (_p35 : Int) (_p36 : Int) (_p37 : Int) (_p38 : Int) (_p39 : Int) (_p40 : Int) (_p41 : Int) (_p42 : Int) (_p43 : Int) (_p44 : Int) (_p45 : Int) (_p46 : Int) (_p47 : Int) (_p48 : Int) (_p49 : Int) : Bool × Int × Int × Int × Int × Int × Int × Int × Int × Int × Int × Int × Int × Int × Int × Int → MV
  | (q0, _, _, _, _, _, _, _, _, _, _, _, _, _, _, _) => .bool q0
def offer_down_4.out (_p0 : Int) (_p1 : Int) (p2 : Int) (p3 : Int) (p4 : Int) (p5 : Int) (p6 : Int) (p7 : Int) (_p8 : Int) (_p9 : Int) (_p10 : Int) (_p11 : Int) (_p12 : Int) (p13 : Int) (p14 : Int) (p15 : Int) (p16 : Int) (p17 : Int) (p18 : Int) (p19 : Int) (p20 : Int) (p21 : Int) (p22 : Int) (p23 : Int) (p24 : Int) (p25 : Int) (p26 : Int) (p27 : Int) (p28 : Int) (p29 : Int) (p30 : Int) (p31 : Int) (p32 : Int) (p33 : Int) (p34 : Int) (p35 : Int) (p36 : Int) (p37 : Int) (p38 : Int) (p39 : Int) (_p40 : Int) (_p41 : Int) (_p42 : Int) (_p43 : Int) (_p44 : Int) (_p45 : Int) (_p46 : Int) (_p47 : Int) (_p48 : Int) (_p49 : Int) : Bool × Int × Int × Int × Int × Int × Int × Int × Int × Int × Int × Int × Int × Int × Int × Int → List (Nat × Option MObj)
  | (_, q1, q2, q3, q4, q5, q6, q7, q8, q9, q10, q11, q12, q13, q14, q15) => [(0, some (.cells [.int .i64 p2])), (1, some (.cells [.int .i64 p3])), (2, some (.cells [.int .i64 p4])), (3, some (.cells [.int .i64 p5, .int .i64 p6, .int .i64 p7, .int .i64 q1, .int .i64 q2, .int .i64 q3, .int .i64 q4, .int .i64 q5, .int .i64 p13, .int .i64 p14])), (4, some (.cells [.int .i64 p15, .int .i64 p16, .int .i64 p17, .int .i64 p18, .int .i64 p19, .int .i64 p20, .int .i64 p21, .int .i64 p22])), (5, some (.cells [.fn 116 [.p 6 0, .p 7 0, .p 8 0]])), (6, some (.cells [.int .i64 p23, .int .i64 p24, .int .i64 p25, .int .i64 p26, .int .i64 p27, .int .i64 p28, .int .i64 p29, .int .i64 p30, .int .i64 p31, .int .i64 p32, .int .i64 p33, .int .i64 p34, .int .i64 p35, .int .i64 p36, .int .i64 p37])), (7, some (.cells [.int .i64 p38, .int .i64 p39])), (8, some (.cells [.int .i64 q6, .int .i64 q7, .int .i64 q8, .int .i64 q9, .int .i64 q10, .int .i64 q11, .int .i64 q12, .int .i64 q13, .int .i64 q14, .int .i64 q15]))]
theorem offer_down_4.ok {K : Nat} {p0 : Int} {p1 : Int} {p2 : Int} {p3 : Int} {p4 : Int} {p5 : Int} {p6 : Int} {p7 : Int} {p8 : Int} {p9 : Int} {p10 : Int} {p11 : Int} {p12 : Int} {p13 : Int} {p14 : Int} {p15 : Int} {p16 : Int} {p17 : Int} {p18 : Int} {p19 : Int} {p20 : Int} {p21 : Int} {p22 : Int} {p23 : Int} {p24 : Int} {p25 : Int} {p26 : Int} {p27 : Int} {p28 : Int} {p29 : Int} {p30 : Int} {p31 : Int} {p32 : Int} {p33 : Int} {p34 : Int} {p35 : Int} {p36 : Int} {p37 : Int} {p38 : Int} {p39 : Int} {p40 : Int} {p41 : Int} {p42 : Int} {p43 : Int} {p44 : Int} {p45 : Int} {p46 : Int} {p47 : Int} {p48 : Int} {p49 : Int} {r : Bool × Int × Int × Int × Int × Int × Int × Int × Int × Int × Int × Int × Int × Int × Int × Int} (h0 : offer_down_4 K p0 p1 p2 p3 p4 p5 p6 p7 p8 p9 p10 p11 p12 p13 p14 p15 p16 p17 p18 p19 p20 p21 p22 p23 p24 p25 p26 p27 p28 p29 p30 p31 p32 p33 p34 p35 p36 p37 p38 p39 p40 p41 p42 p43 p44 p45 p46 p47 p48 p49 = some r) : Fn Try.prog 117 [.int .i64 p0, .int .i64 p1, .fn 154 [.p 0 0, .p 1 0, .p 2 0, .p 3 0, .p 4 0, .p 5 0]] [(0, some (.cells [.int .i64 p2])), (1, some (.cells [.int .i64 p3])), (2, some (.cells [.int .i64 p4])), (3, some (.cells [.int .i64 p5, .int .i64 p6, .int .i64 p7, .int .i64 p8, .int .i64 p9, .int .i64 p10, .int .i64 p11, .int .i64 p12, .int .i64 p13, .int .i64 p14])), (4, some (.cells [.int .i64 p15, .int .i64 p16, .int .i64 p17, .int .i64 p18, .int .i64 p19, .int .i64 p20, .int .i64 p21, .int .i64 p22])), (5, some (.cells [.fn 116 [.p 6 0, .p 7 0, .p 8 0]])), (6, some (.cells [.int .i64 p23, .int .i64 p24, .int .i64 p25, .int .i64 p26, .int .i64 p27, .int .i64 p28, .int .i64 p29, .int .i64 p30, .int .i64 p31, .int .i64 p32, .int .i64 p33, .int .i64 p34, .int .i64 p35, .int .i64 p36, .int .i64 p37])), (7, some (.cells [.int .i64 p38, .int .i64 p39])), (8, some (.cells [.int .i64 p40, .int .i64 p41, .int .i64 p42, .int .i64 p43, .int .i64 p44, .int .i64 p45, .int .i64 p46, .int .i64 p47, .int .i64 p48, .int .i64 p49]))] (offer_down_4.res p0 p1 p2 p3 p4 p5 p6 p7 p8 p9 p10 p11 p12 p13 p14 p15 p16 p17 p18 p19 p20 p21 p22 p23 p24 p25 p26 p27 p28 p29 p30 p31 p32 p33 p34 p35 p36 p37 p38 p39 p40 p41 p42 p43 p44 p45 p46 p47 p48 p49 r) (offer_down_4.out p0 p1 p2 p3 p4 p5 p6 p7 p8 p9 p10 p11 p12 p13 p14 p15 p16 p17 p18 p19 p20 p21 p22 p23 p24 p25 p26 p27 p28 p29 p30 p31 p32 p33 p34 p35 p36 p37 p38 p39 p40 p41 p42 p43 p44 p45 p46 p47 p48 p49 r) := by
  refine Fn_of Try.func117 rfl (Nat.le_of_ble_eq_true rfl) fun Γ => ?_
  refine TC_seq ?_
  refine TC_reg ?_
  refine TL_ev env 1 rfl ⟨tv, tv⟩ ?_
  refine TL_end ?_
  refine TE_go ?_
  refine TC_seq ?_
  refine TC_seq ?_
  refine TC_reg ?_
  refine TL_ev env 2 rfl ⟨tv, ⟨tv, tv⟩⟩ ?_
  refine TL_end ?_
  refine TE_go ?_
  obtain ⟨z1, h1, h0⟩ := bnd h0
  refine TC_cut (α := Int × Int × Int × Int × Int × Int × Int × Int × Int × Int × Int × Int × Int × Int × Int) (fun s => z1 = .inl s) (fun s => []) (fun s => [(0, some (.cells [.int .i64 p2])), (1, some (.cells [.int .i64 p3])), (2, some (.cells [.int .i64 p4])), (3, some (.cells [.int .i64 p5, .int .i64 p6, .int .i64 p7, .int .i64 s.1, .int .i64 s.2.1, .int .i64 s.2.2.1, .int .i64 s.2.2.2.1, .int .i64 s.2.2.2.2.1, .int .i64 p13, .int .i64 p14])), (4, some (.cells [.int .i64 p15, .int .i64 p16, .int .i64 p17, .int .i64 p18, .int .i64 p19, .int .i64 p20, .int .i64 p21, .int .i64 p22])), (5, some (.cells [.fn 116 [.p 6 0, .p 7 0, .p 8 0]])), (6, some (.cells [.int .i64 p23, .int .i64 p24, .int .i64 p25, .int .i64 p26, .int .i64 p27, .int .i64 p28, .int .i64 p29, .int .i64 p30, .int .i64 p31, .int .i64 p32, .int .i64 p33, .int .i64 p34, .int .i64 p35, .int .i64 p36, .int .i64 p37])), (7, some (.cells [.int .i64 p38, .int .i64 p39])), (8, some (.cells [.int .i64 s.2.2.2.2.2.1, .int .i64 s.2.2.2.2.2.2.1, .int .i64 s.2.2.2.2.2.2.2.1, .int .i64 s.2.2.2.2.2.2.2.2.1, .int .i64 s.2.2.2.2.2.2.2.2.2.1, .int .i64 s.2.2.2.2.2.2.2.2.2.2.1, .int .i64 s.2.2.2.2.2.2.2.2.2.2.2.1, .int .i64 s.2.2.2.2.2.2.2.2.2.2.2.2.1, .int .i64 s.2.2.2.2.2.2.2.2.2.2.2.2.2.1, .int .i64 s.2.2.2.2.2.2.2.2.2.2.2.2.2.2]))]) ?_ ?_
  · refine TC_blk ?_
    refine TC_loop (α := Int × Int × Int × Int × Int × Int × Int × Int × Int × Int × Int × Int × Int × Int × Int × Int) (fun n s => offer_down_4.l0 K p1 p2 p3 p4 p5 p6 p7 p13 p14 p15 p16 p17 p18 p19 p20 p21 p22 p23 p24 p25 p26 p27 p28 p29 p30 p31 p32 p33 p34 p35 p36 p37 p38 p39 n s.1 s.2.1 s.2.2.1 s.2.2.2.1 s.2.2.2.2.1 s.2.2.2.2.2.1 s.2.2.2.2.2.2.1 s.2.2.2.2.2.2.2.1 s.2.2.2.2.2.2.2.2.1 s.2.2.2.2.2.2.2.2.2.1 s.2.2.2.2.2.2.2.2.2.2.1 s.2.2.2.2.2.2.2.2.2.2.2.1 s.2.2.2.2.2.2.2.2.2.2.2.2.1 s.2.2.2.2.2.2.2.2.2.2.2.2.2.1 s.2.2.2.2.2.2.2.2.2.2.2.2.2.2.1 s.2.2.2.2.2.2.2.2.2.2.2.2.2.2.2 = some z1) (fun s => [(1, .int .i64 p1), (2, .fn 154 [.p 0 0, .p 1 0, .p 2 0, .p 3 0, .p 4 0, .p 5 0]), (7, .int .i64 s.1)]) (fun s => [(0, some (.cells [.int .i64 p2])), (1, some (.cells [.int .i64 p3])), (2, some (.cells [.int .i64 p4])), (3, some (.cells [.int .i64 p5, .int .i64 p6, .int .i64 p7, .int .i64 s.2.1, .int .i64 s.2.2.1, .int .i64 s.2.2.2.1, .int .i64 s.2.2.2.2.1, .int .i64 s.2.2.2.2.2.1, .int .i64 p13, .int .i64 p14])), (4, some (.cells [.int .i64 p15, .int .i64 p16, .int .i64 p17, .int .i64 p18, .int .i64 p19, .int .i64 p20, .int .i64 p21, .int .i64 p22])), (5, some (.cells [.fn 116 [.p 6 0, .p 7 0, .p 8 0]])), (6, some (.cells [.int .i64 p23, .int .i64 p24, .int .i64 p25, .int .i64 p26, .int .i64 p27, .int .i64 p28, .int .i64 p29, .int .i64 p30, .int .i64 p31, .int .i64 p32, .int .i64 p33, .int .i64 p34, .int .i64 p35, .int .i64 p36, .int .i64 p37])), (7, some (.cells [.int .i64 p38, .int .i64 p39])), (8, some (.cells [.int .i64 s.2.2.2.2.2.2.1, .int .i64 s.2.2.2.2.2.2.2.1, .int .i64 s.2.2.2.2.2.2.2.2.1, .int .i64 s.2.2.2.2.2.2.2.2.2.1, .int .i64 s.2.2.2.2.2.2.2.2.2.2.1, .int .i64 s.2.2.2.2.2.2.2.2.2.2.2.1, .int .i64 s.2.2.2.2.2.2.2.2.2.2.2.2.1, .int .i64 s.2.2.2.2.2.2.2.2.2.2.2.2.2.1, .int .i64 s.2.2.2.2.2.2.2.2.2.2.2.2.2.2.1, .int .i64 s.2.2.2.2.2.2.2.2.2.2.2.2.2.2.2]))]) K ?_ ?_
    · exact SP_ren [] (_, _, _, _, _, _, _, _, _, _, _, _, _, _, _, _) h1 ⟨rfl, rfl, rfl, tv⟩ ⟨rfl, rfl, rfl, rfl, rfl, rfl, rfl, rfl, rfl, tv⟩ rfl
    rintro n ⟨x235, x236, x237, x238, x239, x240, x241, x242, x243, x244, x245, x246, x247, x248, x249, x250⟩ h1
    rcases n with _ | n
    · exact (nsome h1).elim
    replace h1 : offer_down_4.r0 K p1 p2 p3 p4 p5 p6 p7 p13 p14 p15 p16 p17 p18 p19 p20 p21 p22 p23 p24 p25 p26 p27 p28 p29 p30 p31 p32 p33 p34 p35 p36 p37 p38 p39 (offer_down_4.l0 K p1 p2 p3 p4 p5 p6 p7 p13 p14 p15 p16 p17 p18 p19 p20 p21 p22 p23 p24 p25 p26 p27 p28 p29 p30 p31 p32 p33 p34 p35 p36 p37 p38 p39 n) x235 x236 x237 x238 x239 x240 x241 x242 x243 x244 x245 x246 x247 x248 x249 x250 = some z1 := h1
    refine TC_seq ?_
    refine TC_seq ?_
    refine TC_reg ?_
    refine TL_ev env 3 rfl ⟨tv, ⟨tv, ⟨⟨tv, ⟨tv, tv⟩⟩, tv⟩⟩⟩ ?_
    refine TL_end ?_
    refine TE_go ?_
    refine TC_cond rfl (fun hb => ?_) (fun hb => ?_)
    · replace h1 := bif_t h1 hb
      refine TC_skip ?_
      refine TE_go ?_
      refine TC_seq ?_
      refine TC_blk ?_
      refine TC_seq ?_
      refine TC_reg ?_
      refine TL_ev env 2 rfl ⟨tv, ⟨tv, tv⟩⟩ ?_
      obtain ⟨⟨r310, r311, r312, r313, r314, r315, r316, r317, r318, r319, r320, r321, r322, r323⟩, hr, h1⟩ := bnd h1
      refine TL_callB [(0, 0), (1, 1), (2, 2), (3, 3), (4, 4), (5, 5), (6, 6), (7, 7), (8, 8)] (offer_subs_1_1_1_1.ok0 hr) offer_subs_1_1_1_1.fnb rfl ⟨tv, ⟨tv, tv⟩⟩ rfl ⟨.inr rfl, .inr rfl, .inr rfl, .inr rfl, .inr rfl, .inr rfl, .inr rfl, .inr rfl, .inr rfl, tv⟩ rfl ?_
      refine TL_end ?_
      refine TE_go ?_
      refine TC_cond rfl (fun hb => ?_) (fun hb => ?_)
      · replace h1 := bif_t h1 hb
        refine TC_seq ?_
        refine TC_reg ?_
        refine TL_ev env 1 rfl ⟨tv, tv⟩ ?_
        refine TL_end ?_
        refine TE_go ?_
        refine TC_ret ?_
        refine tbr ?_
        refine tsr ?_
        refine tsr ?_
        refine tbr ?_
        refine tsr ?_
        refine tsr ?_
        obtain rfl := sinj h1
        obtain rfl := sinj h0
        exact TE_ret env rfl tv ⟨.inr rfl, .inr rfl, .inr rfl, .inr rfl, .inr rfl, .inr rfl, .inr rfl, .inr rfl, .inr rfl, tv⟩
      · replace h1 := bif_f h1 hb
        refine TC_skip ?_
        refine tbn ?_
        refine TE_go ?_
        refine TC_reg ?_
        refine TL_ev env 3 rfl ⟨tv, ⟨⟨tv, ⟨tv, tv⟩⟩, ⟨tv, tv⟩⟩⟩ ?_
        refine TL_end ?_
        refine tsn ?_
        exact TE_nextr [] n (Nat.lt_succ_self n) (_, _, _, _, _, _, _, _, _, _, _, _, _, _, _, _) h1 ⟨rfl, rfl, rfl, tv⟩ ⟨rfl, rfl, rfl, rfl, rfl, rfl, rfl, rfl, rfl, tv⟩ rfl
    · replace h1 := bif_f h1 hb
      refine TC_exit ?_
      refine tsx ?_
      refine tsx ?_
      refine tbe ?_
      obtain rfl := sinj h1
      refine tsn ?_
      exact SP_ren [] (_, _, _, _, _, _, _, _, _, _, _, _, _, _, _) rfl tv ⟨rfl, rfl, rfl, rfl, rfl, rfl, rfl, rfl, rfl, tv⟩ rfl
  · rintro ⟨x192, x193, x194, x195, x196, x197, x198, x199, x200, x201, x202, x203, x204, x205, x206⟩ rfl
    refine TE_go ?_
    refine TC_seq ?_
    refine TC_reg ?_
    refine TL_ev env 1 rfl ⟨tv, tv⟩ ?_
    refine TL_end ?_
    refine TE_go ?_
    refine TC_ret ?_
    obtain rfl := sinj h0
    exact TE_ret env rfl tv ⟨.inr rfl, .inr rfl, .inr rfl, .inr rfl, .inr rfl, .inr rfl, .inr rfl, .inr rfl, .inr rfl, tv⟩
theorem offer_down_4.ok0 {K : Nat} {p0 : Int} {p1 : Int} {p2 : Int} {p3 : Int} {p4 : Int} {p5 : Int} {p6 : Int} {p7 : Int} {p8 : Int} {p9 : Int} {p10 : Int} {p11 : Int} {p12 : Int} {p13 : Int} {p14 : Int} {p15 : Int} {p16 : Int} {p17 : Int} {p18 : Int} {p19 : Int} {p20 : Int} {p21 : Int} {p22 : Int} {p23 : Int} {p24 : Int} {p25 : Int} {p26 : Int} {p27 : Int} {p28 : Int} {p29 : Int} {p30 : Int} {p31 : Int} {p32 : Int} {p33 : Int} {p34 : Int} {p35 : Int} {p36 : Int} {p37 : Int} {p38 : Int} {p39 : Int} {p40 : Int} {p41 : Int} {p42 : Int} {p43 : Int} {p44 : Int} {p45 : Int} {p46 : Int} {p47 : Int} {p48 : Int} {p49 : Int} {q0 : Bool} {q1 : Int} {q2 : Int} {q3 : Int} {q4 : Int} {q5 : Int} {q6 : Int} {q7 : Int} {q8 : Int} {q9 : Int} {q10 : Int} {q11 : Int} {q12 : Int} {q13 : Int} {q14 : Int} {q15 : Int} (h0 : offer_down_4 K p0 p1 p2 p3 p4 p5 p6 p7 p8 p9 p10 p11 p12 p13 p14 p15 p16 p17 p18 p19 p20 p21 p22 p23 p24 p25 p26 p27 p28 p29 p30 p31 p32 p33 p34 p35 p36 p37 p38 p39 p40 p41 p42 p43 p44 p45 p46 p47 p48 p49 = some (q0, q1, q2, q3, q4, q5, q6, q7, q8, q9, q10, q11, q12, q13, q14, q15)) : Fn Try.prog 117 [.int .i64 p0, .int .i64 p1, .fn 154 [.p 0 0, .p 1 0, .p 2 0, .p 3 0, .p 4 0, .p 5 0]] [(0, some (.cells [.int .i64 p2])), (1, some (.cells [.int .i64 p3])), (2, some (.cells [.int .i64 p4])), (3, some (.cells [.int .i64 p5, .int .i64 p6, .int .i64 p7, .int .i64 p8, .int .i64 p9, .int .i64 p10, .int .i64 p11, .int .i64 p12, .int .i64 p13, .int .i64 p14])), (4, some (.cells [.int .i64 p15, .int .i64 p16, .int .i64 p17, .int .i64 p18, .int .i64 p19, .int .i64 p20, .int .i64 p21, .int .i64 p22])), (5, some (.cells [.fn 116 [.p 6 0, .p 7 0, .p 8 0]])), (6, some (.cells [.int .i64 p23, .int .i64 p24, .int .i64 p25, .int .i64 p26, .int .i64 p27, .int .i64 p28, .int .i64 p29, .int .i64 p30, .int .i64 p31, .int .i64 p32, .int .i64 p33, .int .i64 p34, .int .i64 p35, .int .i64 p36, .int .i64 p37])), (7, some (.cells [.int .i64 p38, .int .i64 p39])), (8, some (.cells [.int .i64 p40, .int .i64 p41, .int .i64 p42, .int .i64 p43, .int .i64 p44, .int .i64 p45, .int .i64 p46, .int .i64 p47, .int .i64 p48, .int .i64 p49]))] (.bool q0) [(0, some (.cells [.int .i64 p2])), (1, some (.cells [.int .i64 p3])), (2, some (.cells [.int .i64 p4])), (3, some (.cells [.int .i64 p5, .int .i64 p6, .int .i64 p7, .int .i64 q1, .int .i64 q2, .int .i64 q3, .int .i64 q4, .int .i64 q5, .int .i64 p13, .int .i64 p14])), (4, some (.cells [.int .i64 p15, .int .i64 p16, .int .i64 p17, .int .i64 p18, .int .i64 p19, .int .i64 p20, .int .i64 p21, .int .i64 p22])), (5, some (.cells [.fn 116 [.p 6 0, .p 7 0, .p 8 0]])), (6, some (.cells [.int .i64 p23, .int .i64 p24, .int .i64 p25, .int .i64 p26, .int .i64 p27, .int .i64 p28, .int .i64 p29, .int .i64 p30, .int .i64 p31, .int .i64 p32, .int .i64 p33, .int .i64 p34, .int .i64 p35, .int .i64 p36, .int .i64 p37])), (7, some (.cells [.int .i64 p38, .int .i64 p39])), (8, some (.cells [.int .i64 q6, .int .i64 q7, .int .i64 q8, .int .i64 q9, .int .i64 q10, .int .i64 q11, .int .i64 q12, .int .i64 q13, .int .i64 q14, .int .i64 q15]))] := offer_down_4.ok h0
theorem offer_down_4.fnb : fnb Try.prog 117 = true := fnb_of Try.func117 rfl
def offer_subs_1_1_1.res (_p0 : Int) (_p1 : Int) (_p2 : Int) (_p3 : Int) (_p4 : Int) (_p5 : Int) (_p6 : Int) (_p7 : Int) (_p8 : Int) (_p9 : Int) (_p10 : Int) (_p11 : Int) (_p12 : Int) (_p13 : Int) (_p14 : Int) (_p15 : Int) (_p16 : Int) (_p17 : Int) (_p18 : Int) (_p19 : Int) (_p20 : Int) (_p21 : Int) (_p22 : Int) (_p23 : Int) (_p24 : Int) (_p25 : Int) (_p26 : Int) (_p27 : Int) (_p28 : Int) (_p29 : Int) (_p30 : Int) (_p31 : Int) (_p32 : Int) (_p33 : Int) (_p34 : Int) (_p35 : Int) (_p36 : Int) (_p37 : Int) (_p38 : Int) (_p39 : Int) (_p40 : Int) (_p41 : Int) (_p42 : Int) (_p43 : Int) (_p44 : Int) (_p45 : Int) (_p46 : Int) (_p47 : Int) : Bool × Int × Int × Int × Int × Int × Int × Int × Int × Int × Int × Int × Int × Int × Int × Int → MV
  | (q0, _, _, _, _, _, _, _, _, _, _, _, _, _, _, _) => .bool q0
def offer_subs_1_1_1.out (_p0 : Int) (p1 : Int) (p2 : Int) (p3 : Int) (p4 : Int) (p5 : Int) (_p6 : Int) (_p7 : Int) (_p8 : Int) (_p9 : Int) (_p10 : Int) (p11 : Int) (p12 : Int) (p13 : Int) (p14 : Int) (p15 : Int) (p16 : Int) (p17 : Int) (p18 : Int) (p19 : Int) (p20 : Int) (p21 : Int) (p22 : Int) (p23 : Int) (p24 : Int) (p25 : Int) (p26 : Int) (p27 : Int) (p28 : Int) (p29 : Int) (p30 : Int) (p31 : Int) (p32 : Int) (p33 : Int) (p34 : Int) (p35 : Int) (p36 : Int) (p37 : Int) (_p38 : Int) (_p39 : Int) (_p40 : Int) (_p41 : Int) (_p42 : Int) (_p43 : Int) (_p44 : Int) (_p45 : Int) (_p46 : Int) (_p47 : Int) : Bool × Int × Int × Int × Int × Int × Int × Int × Int × Int × Int × Int × Int × Int × Int × Int → List (Nat × Option MObj)
  | (_, q1, q2, q3, q4, q5, q6, q7, q8, q9, q10, q11, q12, q13, q14, q15) => [(0, some (.cells [.int .i64 p1])), (1, some (.cells [.int .i64 p2])), (2, some (.cells [.int .i64 p3, .int .i64 p4, .int .i64 p5, .int .i64 q1, .int .i64 q2, .int .i64 q3, .int .i64 q4, .int .i64 q5, .int .i64 p11, .int .i64 p12])), (3, some (.cells [.int .i64 p13, .int .i64 p14, .int .i64 p15, .int .i64 p16, .int .i64 p17, .int .i64 p18, .int .i64 p19, .int .i64 p20])), (4, some (.cells [.fn 116 [.p 5 0, .p 6 0, .p 7 0]])), (5, some (.cells [.int .i64 p21, .int .i64 p22, .int .i64 p23, .int .i64 p24, .int .i64 p25, .int .i64 p26, .int .i64 p27, .int .i64 p28, .int .i64 p29, .int .i64 p30, .int .i64 p31, .int .i64 p32, .int .i64 p33, .int .i64 p34, .int .i64 p35])), (6, some (.cells [.int .i64 p36, .int .i64 p37])), (7, some (.cells [.int .i64 q6, .int .i64 q7, .int .i64 q8, .int .i64 q9, .int .i64 q10, .int .i64 q11, .int .i64 q12, .int .i64 q13, .int .i64 q14, .int .i64 q15]))]
theorem offer_subs_1_1_1.ok {K : Nat} {p0 : Int} {p1 : Int} {p2 : Int} {p3 : Int} {p4 : Int} {p5 : Int} {p6 : Int} {p7 : Int} {p8 : Int} {p9 : Int} {p10 : Int} {p11 : Int} {p12 : Int} {p13 : Int} {p14 : Int} {p15 : Int} {p16 : Int} {p17 : Int} {p18 : Int} {p19 : Int} {p20 : Int} {p21 : Int} {p22 : Int} {p23 : Int} {p24 : Int} {p25 : Int} {p26 : Int} {p27 : Int} {p28 : Int} {p29 : Int} {p30 : Int} {p31 : Int} {p32 : Int} {p33 : Int} {p34 : Int} {p35 : Int} {p36 : Int} {p37 : Int} {p38 : Int} {p39 : Int} {p40 : Int} {p41 : Int} {p42 : Int} {p43 : Int} {p44 : Int} {p45 : Int} {p46 : Int} {p47 : Int} {r : Bool × Int × Int × Int × Int × Int × Int × Int × Int × Int × Int × Int × Int × Int × Int × Int} (h0 : offer_subs_1_1_1 K p0 p1 p2 p3 p4 p5 p6 p7 p8 p9 p10 p11 p12 p13 p14 p15 p16 p17 p18 p19 p20 p21 p22 p23 p24 p25 p26 p27 p28 p29 p30 p31 p32 p33 p34 p35 p36 p37 p38 p39 p40 p41 p42 p43 p44 p45 p46 p47 = some r) : Fn Try.prog 153 [.int .i64 p0, .p 0 0, .p 1 0, .p 2 0, .p 3 0, .p 4 0] [(0, some (.cells [.int .i64 p1])), (1, some (.cells [.int .i64 p2])), (2, some (.cells [.int .i64 p3, .int .i64 p4, .int .i64 p5, .int .i64 p6, .int .i64 p7, .int .i64 p8, .int .i64 p9, .int .i64 p10, .int .i64 p11, .int .i64 p12])), (3, some (.cells [.int .i64 p13, .int .i64 p14, .int .i64 p15, .int .i64 p16, .int .i64 p17, .int .i64 p18, .int .i64 p19, .int .i64 p20])), (4, some (.cells [.fn 116 [.p 5 0, .p 6 0, .p 7 0]])), (5, some (.cells [.int .i64 p21, .int .i64 p22, .int .i64 p23, .int .i64 p24, .int .i64 p25, .int .i64 p26, .int .i64 p27, .int .i64 p28, .int .i64 p29, .int .i64 p30, .int .i64 p31, .int .i64 p32, .int .i64 p33, .int .i64 p34, .int .i64 p35])), (6, some (.cells [.int .i64 p36, .int .i64 p37])), (7, some (.cells [.int .i64 p38, .int .i64 p39, .int .i64 p40, .int .i64 p41, .int .i64 p42, .int .i64 p43, .int .i64 p44, .int .i64 p45, .int .i64 p46, .int .i64 p47]))] (offer_subs_1_1_1.res p0 p1 p2 p3 p4 p5 p6 p7 p8 p9 p10 p11 p12 p13 p14 p15 p16 p17 p18 p19 p20 p21 p22 p23 p24 p25 p26 p27 p28 p29 p30 p31 p32 p33 p34 p35 p36 p37 p38 p39 p40 p41 p42 p43 p44 p45 p46 p47 r) (offer_subs_1_1_1.out p0 p1 p2 p3 p4 p5 p6 p7 p8 p9 p10 p11 p12 p13 p14 p15 p16 p17 p18 p19 p20 p21 p22 p23 p24 p25 p26 p27 p28 p29 p30 p31 p32 p33 p34 p35 p36 p37 p38 p39 p40 p41 p42 p43 p44 p45 p46 p47 r) := by
  refine Fn_of Try.func153 rfl (Nat.le_of_ble_eq_true rfl) fun Γ => ?_
  refine TC_seq ?_
  refine TC_reg ?_
  refine TL_ev env 2 rfl ⟨tv, ⟨tv, tv⟩⟩ ?_
  refine TL_end ?_
  refine TE_go ?_
  refine TC_seq ?_
  refine TC_reg ?_
  refine TL_ev env 1 rfl ⟨⟨tv, ⟨tv, ⟨tv, ⟨tv, ⟨tv, ⟨tv, tv⟩⟩⟩⟩⟩⟩, tv⟩ ?_
  obtain ⟨⟨r17, r18, r19, r20, r21, r22, r23, r24, r25, r26, r27, r28, r29, r30, r31, r32⟩, hr, h0⟩ := bnd h0
  refine TL_callB [(0, 0), (1, 1), (2, 1006), (3, 2), (4, 3), (5, 4), (6, 5), (7, 6), (8, 7)] (offer_down_4.ok0 hr) offer_down_4.fnb rfl ⟨tv, ⟨tv, ⟨tv, ⟨tv, tv⟩⟩⟩⟩ rfl ⟨.inr rfl, .inr rfl, .inr rfl, .inr rfl, .inr rfl, .inr rfl, .inr rfl, .inr rfl, .inr rfl, tv⟩ rfl ?_
  refine TL_ev env 1 rfl ⟨tv, tv⟩ ?_
  refine TL_end ?_
  refine TE_go ?_
  refine TC_ret ?_
  obtain rfl := sinj h0
  exact TE_ret env rfl tv ⟨.inr rfl, .inr rfl, .inr rfl, .inr rfl, .inr rfl, .inr rfl, .inr rfl, .inr rfl, tv⟩
theorem offer_subs_1_1_1.ok0 {K : Nat} {p0 : Int} {p1 : Int} {p2 : Int} {p3 : Int} {p4 : Int} {p5 : Int} {p6 : Int} {p7 : Int} {p8 : Int} {p9 : Int} {p10 : Int} {p11 : Int} {p12 : Int} {p13 : Int} {p14 : Int} {p15 : Int} {p16 : Int} {p17 : Int} {p18 : Int} {p19 : Int} {p20 : Int} {p21 : Int} {p22 : Int} {p23 : Int} {p24 : Int} {p25 : Int} {p26 : Int} {p27 : Int} {p28 : Int} {p29 : Int} {p30 : Int} {p31 : Int} {p32 : Int} {p33 : Int} {p34 : Int} {p35 : Int} {p36 : Int} {p37 : Int} {p38 : Int} {p39 : Int} {p40 : Int} {p41 : Int} {p42 : Int} {p43 : Int} {p44 : Int} {p45 : Int} {p46 : Int} {p47 : Int} {q0 : Bool} {q1 : Int} {q2 : Int} {q3 : Int} {q4 : Int} {q5 : Int} {q6 : Int} {q7 : Int} {q8 : Int} {q9 : Int} {q10 : Int} {q11 : Int} {q12 : Int} {q13 : Int} {q14 : Int} {q15 : Int} (h0 : offer_subs_1_1_1 K p0 p1 p2 p3 p4 p5 p6 p7 p8 p9 p10 p11 p12 p13 p14 p15 p16 p17 p18 p19 p20 p21 p22 p23 p24 p25 p26 p27 p28 p29 p30 p31 p32 p33 p34 p35 p36 p37 p38 p39 p40 p41 p42 p43 p44 p45 p46 p47 = some (q0, q1, q2, q3, q4, q5, q6, q7, q8, q9, q10, q11, q12, q13, q14, q15)) : Fn Try.prog 153 [.int .i64 p0, .p 0 0, .p 1 0, .p 2 0, .p 3 0, .p 4 0] [(0, some (.cells [.int .i64 p1])), (1, some (.cells [.int .i64 p2])), (2, some (.cells [.int .i64 p3, .int .i64 p4, .int .i64 p5, .int .i64 p6, .int .i64 p7, .int .i64 p8, .int .i64 p9, .int .i64 p10, .int .i64 p11, .int .i64 p12])), (3, some (.cells [.int .i64 p13, .int .i64 p14, .int .i64 p15, .int .i64 p16, .int .i64 p17, .int .i64 p18, .int .i64 p19, .int .i64 p20])), (4, some (.cells [.fn 116 [.p 5 0, .p 6 0, .p 7 0]])), (5, some (.cells [.int .i64 p21, .int .i64 p22, .int .i64 p23, .int .i64 p24, .int .i64 p25, .int .i64 p26, .int .i64 p27, .int .i64 p28, .int .i64 p29, .int .i64 p30, .int .i64 p31, .int .i64 p32, .int .i64 p33, .int .i64 p34, .int .i64 p35])), (6, some (.cells [.int .i64 p36, .int .i64 p37])), (7, some (.cells [.int .i64 p38, .int .i64 p39, .int .i64 p40, .int .i64 p41, .int .i64 p42, .int .i64 p43, .int .i64 p44, .int .i64 p45, .int .i64 p46, .int .i64 p47]))] (.bool q0) [(0, some (.cells [.int .i64 p1])), (1, some (.cells [.int .i64 p2])), (2, some (.cells [.int .i64 p3, .int .i64 p4, .int .i64 p5, .int .i64 q1, .int .i64 q2, .int .i64 q3, .int .i64 q4, .int .i64 q5, .int .i64 p11, .int .i64 p12])), (3, some (.cells [.int .i64 p13, .int .i64 p14, .int .i64 p15, .int .i64 p16, .int .i64 p17, .int .i64 p18, .int .i64 p19, .int .i64 p20])), (4, some (.cells [.fn 116 [.p 5 0, .p 6 0, .p 7 0]])), (5, some (.cells [.int .i64 p21, .int .i64 p22, .int .i64 p23, .int .i64 p24, .int .i64 p25, .int .i64 p26, .int .i64 p27, .int .i64 p28, .int .i64 p29, .int .i64 p30, .int .i64 p31, .int .i64 p32, .int .i64 p33, .int .i64 p34, .int .i64 p35])), (6, some (.cells [.int .i64 p36, .int .i64 p37])), (7, some (.cells [.int .i64 q6, .int .i64 q7, .int .i64 q8, .int .i64 q9, .int .i64 q10, .int .i64 q11, .int .i64 q12, .int .i64 q13, .int .i64 q14, .int .i64 q15]))] := offer_subs_1_1_1.ok h0
theorem offer_subs_1_1_1.fnb : fnb Try.prog 153 = true := fnb_of Try.func153 rfl
def offer_down_5.res (_p0 : Int) (_p1 : Int) (_p2 : Int) (_p3 : Int) (_p4 : Int) (_p5 : Int) (_p6 : Int) (_p7 : Int) (_p8 : Int) (_p9 : Int) (_p10 : Int) (_p11 : Int) (_p12 : Int) (_p13 : Int) (_p14 : Int) (_p15 : Int) (_p16 : Int) (_p17 : Int) (_p18 : Int) (_p19 : Int) (_p20 : Int) (_p21 : Int) (_p22 : Int) (_p23 : Int) (_p24 : Int) (_p25 : Int) (_p26 : Int) (_p27 : Int) (_p28 : Int) (_p29 : Int) (_p30 : Int) (_p31 : Int) (_p32 : Int) (_p33 : Int) (_p34 : Int) (_p35 : Int) (_p36 : Int) (_p37 : Int) (_p38 : Int) (_p39 : Int) (_p40 : Int) (_p41 : Int) (_p42 : Int) (_p43 : Int) (_p44 : Int) (_p45 : Int) (_p46 : Int) (_p47 : Int) (_p48 : Int) : Bool × Int × Int × Int × Int × Int × Int × Int × Int × Int × Int × Int × Int × Int × Int × Int → MV
  | (q0, _, _, _, _, _, _, _, _, _, _, _, _, _, _, _) => .bool q0
def offer_down_5.out (_p0 : Int) (_p1 : Int) (p2 : Int) (p3 : Int) (p4 : Int) (p5 : Int) (p6 : Int) (_p7 : Int) (_p8 : Int) (_p9 : Int) (_p10 : Int) (_p11 : Int) (p12 : Int) (p13 : Int) (p14 : Int) (p15 : Int) (p16 : Int) (p17 : Int) (p18 : Int) (p19 : Int) (p20 : Int) (p21 : Int) (p22 : Int) (p23 : Int) (p24 : Int) (p25 : Int) (p26 : Int) (p27 : Int) (p28 : Int) (p29 : Int) (p30 : Int) (p31 : Int) (p32 : Int) (p33 : Int) (p34 : Int) (p35 : Int) (p36 : Int) (p37 : Int) (p38 : Int) (_p39 : Int) (_p40 : Int) (_p41 : Int) (_p42 : Int) (_p43 : Int) (_p44 : Int) (_p45 : Int) (_p46 : Int) (_p47 : Int) (_p48 : Int) : Bool × Int × Int × Int × Int × Int × Int × Int × Int × Int × Int × Int × Int × Int × Int × Int → List (Nat × Option MObj)
  | (_, q1, q2, q3, q4, q5, q6, q7, q8, q9, q10, q11, q12, q13, q14, q15) => [(0, some (.cells [.int .i64 p2])), (1, some (.cells [.int .i64 p3])), (2, some (.cells [.int .i64 p4, .int .i64 p5, .int .i64 p6, .int .i64 q1, .int .i64 q2, .int .i64 q3, .int .i64 q4, .int .i64 q5, .int .i64 p12, .int .i64 p13])), (3, some (.cells [.int .i64 p14, .int .i64 p15, .int .i64 p16, .int .i64 p17, .int .i64 p18, .int .i64 p19, .int .i64 p20, .int .i64 p21])), (4, some (.cells [.fn 116 [.p 5 0, .p 6 0, .p 7 0]])), (5, some (.cells [.int .i64 p22, .int .i64 p23, .int .i64 p24, .int .i64 p25, .int .i64 p26, .int .i64 p27, .int .i64 p28, .int .i64 p29, .int .i64 p30, .int .i64 p31, .int .i64 p32, .int .i64 p33, .int .i64 p34, .int .i64 p35, .int .i64 p36])), (6, some (.cells [.int .i64 p37, .int .i64 p38])), (7, some (.cells [.int .i64 q6, .int .i64 q7, .int .i64 q8, .int .i64 q9, .int .i64 q10, .int .i64 q11, .int .i64 q12, .int .i64 q13, .int .i64 q14, .int .i64 q15]))]
theorem offer_down_5.ok {K : Nat} {p0 : Int} {p1 : Int} {p2 : Int} {p3 : Int} {p4 : Int} {p5 : Int} {p6 : Int} {p7 : Int} {p8 : Int} {p9 : Int} {p10 : Int} {p11 : Int} {p12 : Int} {p13 : Int} {p14 : Int} {p15 : Int} {p16 : Int} {p17 : Int} {p18 : Int} {p19 : Int} {p20 : Int} {p21 : Int} {p22 : Int} {p23 : Int} {p24 : Int} {p25 : Int} {p26 : Int} {p27 : Int} {p28 : Int} {p29 : Int} {p30 : Int} {p31 : Int} {p32 : Int} {p33 : Int} {p34 : Int} {p35 : Int} {p36 : Int} {p37 : Int} {p38 : Int} {p39 : Int} {p40 : Int} {p41 : Int} {p42 : Int} {p43 : Int} {p44 : Int} {p45 : Int} {p46 : Int} {p47 : Int} {p48 : Int} {r : Bool × Int × Int × Int × Int × Int × Int × Int × Int × Int × Int × Int × Int × Int × Int × Int} (h0 : offer_down_5 K p0 p1 p2 p3 p4 p5 p6 p7 p8 p9 p10 p11 p12 p13 p14 p15 p16 p17 p18 p19 p20 p21 p22 p23 p24 p25 p26 p27 p28 p29 p30 p31 p32 p33 p34 p35 p36 p37 p38 p39 p40 p41 p42 p43 p44 p45 p46 p47 p48 = some r) : Fn Try.prog 117 [.int .i64 p0, .int .i64 p1, .fn 153 [.p 0 0, .p 1 0, .p 2 0, .p 3 0, .p 4 0]] [(0, some (.cells [.int .i64 p2])), (1, some (.cells [.int .i64 p3])), (2, some (.cells [.int .i64 p4, .int .i64 p5, .int .i64 p6, .int .i64 p7, .int .i64 p8, .int .i64 p9, .int .i64 p10, .int .i64 p11, .int .i64 p12, .int .i64 p13])), (3, some (.cells [.int .i64 p14, .int .i64 p15, .int .i64 p16, .int .i64 p17, .int .i64 p18, .int .i64 p19, .int .i64 p20, .int .i64 p21])), (4, some (.cells [.fn 116 [.p 5 0, .p 6 0, .p 7 0]])), (5, some (.cells [.int .i64 p22, .int .i64 p23, .int .i64 p24, .int .i64 p25, .int .i64 p26, .int .i64 p27, .int .i64 p28, .int .i64 p29, .int .i64 p30, .int .i64 p31, .int .i64 p32, .int .i64 p33, .int .i64 p34, .int .i64 p35, .int .i64 p36])), (6, some (.cells [.int .i64 p37, .int .i64 p38])), (7, some (.cells [.int .i64 p39, .int .i64 p40, .int .i64 p41, .int .i64 p42, .int .i64 p43, .int .i64 p44, .int .i64 p45, .int .i64 p46, .int .i64 p47, .int .i64 p48]))] (offer_down_5.res p0 p1 p2 p3 p4 p5 p6 p7 p8 p9 p10 p11 p12 p13 p14 p15 p16 p17 p18 p19 p20 p21 p22 p23 p24 p25 p26 p27 p28 p29 p30 p31 p32 p33 p34 p35 p36 p37 p38 p39 p40 p41 p42 p43 p44 p45 p46 p47 p48 r) (offer_down_5.out p0 p1 p2 p3 p4 p5 p6 p7 p8 p9 p10 p11 p12 p13 p14 p15 p16 p17 p18 p19 p20 p21 p22 p23 p24 p25 p26 p27 p28 p29 p30 p31 p32 p33 p34 p35 p36 p37 p38 p39 p40 p41 p42 p43 p44 p45 p46 p47 p48 r) := by
  refine Fn_of Try.func117 rfl (Nat.le_of_ble_eq_true rfl) fun Γ => ?_
  refine TC_seq ?_
  refine TC_reg ?_
  refine TL_ev env 1 rfl ⟨tv, tv⟩ ?_
  refine TL_end ?_
  refine TE_go ?_
  refine TC_seq ?_
  refine TC_seq ?_
  refine TC_reg ?_
  refine TL_ev env 2 rfl ⟨tv, ⟨tv, tv⟩⟩ ?_
  refine TL_end ?_
  refine TE_go ?_
  obtain ⟨z1, h1, h0⟩ := bnd h0
  refine TC_cut (α := Int × Int × Int × Int × Int × Int × Int × Int × Int × Int × Int × Int × Int × Int × Int) (fun s => z1 = .inl s) (fun s => []) (fun s => [(0, some (.cells [.int .i64 p2])), (1, some (.cells [.int .i64 p3])), (2, some (.cells [.int .i64 p4, .int .i64 p5, .int .i64 p6, .int .i64 s.1, .int .i64 s.2.1, .int .i64 s.2.2.1, .int .i64 s.2.2.2.1, .int .i64 s.2.2.2.2.1, .int .i64 p12, .int .i64 p13])), (3, some (.cells [.int .i64 p14, .int .i64 p15, .int .i64 p16, .int .i64 p17, .int .i64 p18, .int .i64 p19, .int .i64 p20, .int .i64 p21])), (4, some (.cells [.fn 116 [.p 5 0, .p 6 0, .p 7 0]])), (5, some (.cells [.int .i64 p22, .int .i64 p23, .int .i64 p24, .int .i64 p25, .int .i64 p26, .int .i64 p27, .int .i64 p28, .int .i64 p29, .int .i64 p30, .int .i64 p31, .int .i64 p32, .int .i64 p33, .int .i64 p34, .int .i64 p35, .int .i64 p36])), (6, some (.cells [.int .i64 p37, .int .i64 p38])), (7, some (.cells [.int .i64 s.2.2.2.2.2.1, .int .i64 s.2.2.2.2.2.2.1, .int .i64 s.2.2.2.2.2.2.2.1, .int .i64 s.2.2.2.2.2.2.2.2.1, .int .i64 s.2.2.2.2.2.2.2.2.2.1, .int .i64 s.2.2.2.2.2.2.2.2.2.2.1, .int .i64 s.2.2.2.2.2.2.2.2.2.2.2.1, .int .i64 s.2.2.2.2.2.2.2.2.2.2.2.2.1, .int .i64 s.2.2.2.2.2.2.2.2.2.2.2.2.2.1, .int .i64 s.2.2.2.2.2.2.2.2.2.2.2.2.2.2]))]) ?_ ?_
  · refine TC_blk ?_
    refine TC_loop (α := Int × Int × Int × Int × Int × Int × Int × Int × Int × Int × Int × Int × Int × Int × Int × Int) (fun n s => offer_down_5.l0 K p1 p2 p3 p4 p5 p6 p12 p13 p14 p15 p16 p17 p18 p19 p20 p21 p22 p23 p24 p25 p26 p27 p28 p29 p30 p31 p32 p33 p34 p35 p36 p37 p38 n s.1 s.2.1 s.2.2.1 s.2.2.2.1 s.2.2.2.2.1 s.2.2.2.2.2.1 s.2.2.2.2.2.2.1 s.2.2.2.2.2.2.2.1 s.2.2.2.2.2.2.2.2.1 s.2.2.2.2.2.2.2.2.2.1 s.2.2.2.2.2.2.2.2.2.2.1 s.2.2.2.2.2.2.2.2.2.2.2.1 s.2.2.2.2.2.2.2.2.2.2.2.2.1 s.2.2.2.2.2.2.2.2.2.2.2.2.2.1 s.2.2.2.2.2.2.2.2.2.2.2.2.2.2.1 s.2.2.2.2.2.2.2.2.2.2.2.2.2.2.2 = some z1) (fun s => [(1, .int .i64 p1), (2, .fn 153 [.p 0 0, .p 1 0, .p 2 0, .p 3 0, .p 4 0]), (7, .int .i64 s.1)]) (fun s => [(0, some (.cells [.int .i64 p2])), (1, some (.cells [.int .i64 p3])), (2, some (.cells [.int .i64 p4, .int .i64 p5, .int .i64 p6, .int .i64 s.2.1, .int .i64 s.2.2.1, .int .i64 s.2.2.2.1, .int .i64 s.2.2.2.2.1, .int .i64 s.2.2.2.2.2.1, .int .i64 p12, .int .i64 p13])), (3, some (.cells [.int .i64 p14, .int .i64 p15, .int .i64 p16, .int .i64 p17, .int .i64 p18, .int .i64 p19, .int .i64 p20, .int .i64 p21])), (4, some (.cells [.fn 116 [.p 5 0, .p 6 0, .p 7 0]])), (5, some (.cells [.int .i64 p22, .int .i64 p23, .int .i64 p24, .int .i64 p25, .int .i64 p26, .int .i64 p27, .int .i64 p28, .int .i64 p29, .int .i64 p30, .int .i64 p31, .int .i64 p32, .int .i64 p33, .int .i64 p34, .int .i64 p35, .int .i64 p36])), (6, some (.cells [.int .i64 p37, .int .i64 p38])), (7, some (.cells [.int .i64 s.2.2.2.2.2.2.1, .int .i64 s.2.2.2.2.2.2.2.1, .int .i64 s.2.2.2.2.2.2.2.2.1, .int .i64 s.2.2.2.2.2.2.2.2.2.1, .int .i64 s.2.2.2.2.2.2.2.2.2.2.1, .int .i64 s.2.2.2.2.2.2.2.2.2.2.2.1, .int .i64 s.2.2.2.2.2.2.2.2.2.2.2.2.1, .int .i64 s.2.2.2.2.2.2.2.2.2.2.2.2.2.1, .int .i64 s.2.2.2.2.2.2.2.2.2.2.2.2.2.2.1, .int .i64 s.2.2.2.2.2.2.2.2.2.2.2.2.2.2.2]))]) K ?_ ?_
    · exact SP_ren [] (_, _, _, _, _, _, _, _, _, _, _, _, _, _, _, _) h1 ⟨rfl, rfl, rfl, tv⟩ ⟨rfl, rfl, rfl, rfl, rfl, rfl, rfl, rfl, tv⟩ rfl
    rintro n ⟨x255, x256, x257, x258, x259, x260, x261, x262, x263, x264, x265, x266, x267, x268, x269, x270⟩ h1
    rcases n with _ | n
    · exact (nsome h1).elim
    replace h1 : offer_down_5.r0 K p1 p2 p3 p4 p5 p6 p12 p13 p14 p15 p16 p17 p18 p19 p20 p21 p22 p23 p24 p25 p26 p27 p28 p29 p30 p31 p32 p33 p34 p35 p36 p37 p38 (offer_down_5.l0 K p1 p2 p3 p4 p5 p6 p12 p13 p14 p15 p16 p17 p18 p19 p20 p21 p22 p23 p24 p25 p26 p27 p28 p29 p30 p31 p32 p33 p34 p35 p36 p37 p38 n) x255 x256 x257 x258 x259 x260 x261 x262 x263 x264 x265 x266 x267 x268 x269 x270 = some z1 := h1
    refine TC_seq ?_
    refine TC_seq ?_
    refine TC_reg ?_
    refine TL_ev env 3 rfl ⟨tv, ⟨tv, ⟨⟨tv, ⟨tv, tv⟩⟩, tv⟩⟩⟩ ?_
    refine TL_end ?_
    refine TE_go ?_
    refine TC_cond rfl (fun hb => ?_) (fun hb => ?_)
    · replace h1 := bif_t h1 hb
      refine TC_skip ?_
      refine TE_go ?_
      refine TC_seq ?_
      refine TC_blk ?_
      refine TC_seq ?_
      refine TC_reg ?_
      refine TL_ev env 2 rfl ⟨tv, ⟨tv, tv⟩⟩ ?_
      obtain ⟨⟨r336, r337, r338, r339, r340, r341, r342, r343, r344, r345, r346, r347, r348, r349, r350, r351⟩, hr, h1⟩ := bnd h1
      refine TL_callB [(0, 0), (1, 1), (2, 2), (3, 3), (4, 4), (5, 5), (6, 6), (7, 7)] (offer_subs_1_1_1.ok0 hr) offer_subs_1_1_1.fnb rfl ⟨tv, ⟨tv, tv⟩⟩ rfl ⟨.inr rfl, .inr rfl, .inr rfl, .inr rfl, .inr rfl, .inr rfl, .inr rfl, .inr rfl, tv⟩ rfl ?_
      refine TL_end ?_
      refine TE_go ?_
      refine TC_cond rfl (fun hb => ?_) (fun hb => ?_)
      · replace h1 := bif_t h1 hb
        refine TC_seq ?_
        refine TC_reg ?_
        refine TL_ev env 1 rfl ⟨tv, tv⟩ ?_
        refine TL_end ?_
        refine TE_go ?_
        refine TC_ret ?_
        refine tbr ?_
        refine tsr ?_
        refine tsr ?_
        refine tbr ?_
        refine tsr ?_
        refine tsr ?_
        obtain rfl := sinj h1
        obtain rfl := sinj h0
        exact TE_ret env rfl tv ⟨.inr rfl, .inr rfl, .inr rfl, .inr rfl, .inr rfl, .inr rfl, .inr rfl, .inr rfl, tv⟩
      · replace h1 := bif_f h1 hb
        refine TC_skip ?_
        refine tbn ?_
        refine TE_go ?_
        refine TC_reg ?_
        refine TL_ev env 3 rfl ⟨tv, ⟨⟨tv, ⟨tv, tv⟩⟩, ⟨tv, tv⟩⟩⟩ ?_
        refine TL_end ?_
        refine tsn ?_
        exact TE_nextr [] n (Nat.lt_succ_self n) (_, _, _, _, _, _, _, _, _, _, _, _, _, _, _, _) h1 ⟨rfl, rfl, rfl, tv⟩ ⟨rfl, rfl, rfl, rfl, rfl, rfl, rfl, rfl, tv⟩ rfl
    · replace h1 := bif_f h1 hb
      refine TC_exit ?_
      refine tsx ?_
      refine tsx ?_
      refine tbe ?_
      obtain rfl := sinj h1
      refine tsn ?_
      exact SP_ren [] (_, _, _, _, _, _, _, _, _, _, _, _, _, _, _) rfl tv ⟨rfl, rfl, rfl, rfl, rfl, rfl, rfl, rfl, tv⟩ rfl
  · rintro ⟨x208, x209, x210, x211, x212, x213, x214, x215, x216, x217, x218, x219, x220, x221, x222⟩ rfl
    refine TE_go ?_
    refine TC_seq ?_
    refine TC_reg ?_
    refine TL_ev env 1 rfl ⟨tv, tv⟩ ?_
    refine TL_end ?_
    refine TE_go ?_
    refine TC_ret ?_
    obtain rfl := sinj h0
    exact TE_ret env rfl tv ⟨.inr rfl, .inr rfl, .inr rfl, .inr rfl, .inr rfl, .inr rfl, .inr rfl, .inr rfl, tv⟩
theorem offer_down_5.ok0 {K : Nat} {p0 : Int} {p1 : Int} {p2 : Int} {p3 : Int} {p4 : Int} {p5 : Int} {p6 : Int} {p7 : Int} {p8 : Int} {p9 : Int} {p10 : Int} {p11 : Int} {p12 : Int} {p13 : Int} {p14 : Int} {p15 : Int} {p16 : Int} {p17 : Int} {p18 : Int} {p19 : Int} {p20 : Int} {p21 : Int} {p22 : Int} {p23 : Int} {p24 : Int} {p25 : Int} {p26 : Int} {p27 : Int} {p28 : Int} {p29 : Int} {p30 : Int} {p31 : Int} {p32 : Int} {p33 : Int} {p34 : Int} {p35 : Int} {p36 : Int} {p37 : Int} {p38 : Int} {p39 : Int} {p40 : Int} {p41 : Int} {p42 : Int} {p43 : Int} {p44 : Int} {p45 : Int} {p46 : Int} {p47 : Int} {p48 : Int} {q0 : Bool} {q1 : Int} {q2 : Int} {q3 : Int} {q4 : Int} {q5 : Int} {q6 : Int} {q7 : Int} {q8 : Int} {q9 : Int} {q10 : Int} {q11 : Int} {q12 : Int} {q13 : Int} {q14 : Int} {q15 : Int} (h0 : offer_down_5 K p0 p1 p2 p3 p4 p5 p6 p7 p8 p9 p10 p11 p12 p13 p14 p15 p16 p17 p18 p19 p20 p21 p22 p23 p24 p25 p26 p27 p28 p29 p30 p31 p32 p33 p34 p35 p36 p37 p38 p39 p40 p41 p42 p43 p44 p45 p46 p47 p48 = some (q0, q1, q2, q3, q4, q5, q6, q7, q8, q9, q10, q11, q12, q13, q14, q15)) : Fn Try.prog 117 [.int .i64 p0, .int .i64 p1, .fn 153 [.p 0 0, .p 1 0, .p 2 0, .p 3 0, .p 4 0]] [(0, some (.cells [.int .i64 p2])), (1, some (.cells [.int .i64 p3])), (2, some (.cells [.int .i64 p4, .int .i64 p5, .int .i64 p6, .int .i64 p7, .int .i64 p8, .int .i64 p9, .int .i64 p10, .int .i64 p11, .int .i64 p12, .int .i64 p13])), (3, some (.cells [.int .i64 p14, .int .i64 p15, .int .i64 p16, .int .i64 p17, .int .i64 p18, .int .i64 p19, .int .i64 p20, .int .i64 p21])), (4, some (.cells [.fn 116 [.p 5 0, .p 6 0, .p 7 0]])), (5, some (.cells [.int .i64 p22, .int .i64 p23, .int .i64 p24, .int .i64 p25, .int .i64 p26, .int .i64 p27, .int .i64 p28, .int .i64 p29, .int .i64 p30, .int .i64 p31, .int .i64 p32, .int .i64 p33, .int .i64 p34, .int .i64 p35, .int .i64 p36])), (6, some (.cells [.int .i64 p37, .int .i64 p38])), (7, some (.cells [.int .i64 p39, .int .i64 p40, .int .i64 p41, .int .i64 p42, .int .i64 p43, .int .i64 p44, .int .i64 p45, .int .i64 p46, .int .i64 p47, .int .i64 p48]))] (.bool q0) [(0, some (.cells [.int .i64 p2])), (1, some (.cells [.int .i64 p3])), (2, some (.cells [.int .i64 p4, .int .i64 p5, .int .i64 p6, .int .i64 q1, .int .i64 q2, .int .i64 q3, .int .i64 q4, .int .i64 q5, .int .i64 p12, .int .i64 p13])), (3, some (.cells [.int .i64 p14, .int .i64 p15, .int .i64 p16, .int .i64 p17, .int .i64 p18, .int .i64 p19, .int .i64 p20, .int .i64 p21])), (4, some (.cells [.fn 116 [.p 5 0, .p 6 0, .p 7 0]])), (5, some (.cells [.int .i64 p22, .int .i64 p23, .int .i64 p24, .int .i64 p25, .int .i64 p26, .int .i64 p27, .int .i64 p28, .int .i64 p29, .int .i64 p30, .int .i64 p31, .int .i64 p32, .int .i64 p33, .int .i64 p34, .int .i64 p35, .int .i64 p36])), (6, some (.cells [.int .i64 p37, .int .i64 p38])), (7, some (.cells [.int .i64 q6, .int .i64 q7, .int .i64 q8, .int .i64 q9, .int .i64 q10, .int .i64 q11, .int .i64 q12, .int .i64 q13, .int .i64 q14, .int .i64 q15]))] := offer_down_5.ok h0
theorem offer_down_5.fnb : fnb Try.prog 117 = true := fnb_of Try.func117 rfl
def offer_subs_1_1.res (_p0 : Int) (_p1 : Int) (_p2 : Int) (_p3 : Int) (_p4 : Int) (_p5 : Int) (_p6 : Int) (_p7 : Int) (_p8 : Int) (_p9 : Int) (_p10 : Int) (_p11 : Int) (_p12 : Int) (_p13 : Int) (_p14 : Int) (_p15 : Int) (_p16 : Int) (_p17 : Int) (_p18 : Int) (_p19 : Int) (_p20 : Int) (_p21 : Int) (_p22 : Int) (_p23 : Int) (_p24 : Int) (_p25 : Int) (_p26 : Int) (_p27 : Int) (_p28 : Int) (_p29 : Int) (_p30 : Int) (_p31 : Int) (_p32 : Int) (_p33 : Int) (_p34 : Int) (_p35 : Int) (_p36 : Int) (_p37 : Int) (_p38 : Int) (_p39 : Int) (_p40 : Int) (_p41 : Int) (_p42 : Int) (_p43 : Int) (_p44 : Int) (_p45 : Int) (_p46 : Int) : Bool × Int × Int × Int × Int × Int × Int × Int × Int × Int × Int × Int × Int × Int × Int × Int → MV
  | (q0, _, _, _, _, _, _, _, _, _, _, _, _, _, _, _) => .bool q0
def offer_subs_1_1.out (_p0 : Int) (p1 : Int) (p2 : Int) (p3 : Int) (p4 : Int) (_p5 : Int) (_p6 : Int) (_p7 : Int) (_p8 : Int) (_p9 : Int) (p10 : Int) (p11 : Int) (p12 : Int) (p13 : Int) (p14 : Int) (p15 : Int) (p16 : Int) (p17 : Int) (p18 : Int) (p19 : Int) (p20 : Int) (p21 : Int) (p22 : Int) (p23 : Int) (p24 : Int) (p25 : Int) (p26 : Int) (p27 : Int) (p28 : Int) (p29 : Int) (p30 : Int) (p31 : Int) (p32 : Int) (p33 : Int) (p34 : Int) (p35 : Int) (p36 : Int) (_p37 : Int) (_p38 : Int) (_p39 : Int) (_p40 : Int) (_p41 : Int) (_p42 : Int) (_p43 : Int) (_p44 : Int) (_p45 : Int) (_p46 : Int) : Bool × Int × Int × Int × Int × Int × Int × Int × Int × Int × Int × Int × Int × Int × Int × Int → List (Nat × Option MObj)
  | (_, q1, q2, q3, q4, q5, q6, q7, q8, q9, q10, q11, q12, q13, q14, q15) => [(0, some (.cells [.int .i64 p1])), (1, some (.cells [.int .i64 p2, .int .i64 p3, .int .i64 p4, .int .i64 q1, .int .i64 q2, .int .i64 q3, .int .i64 q4, .int .i64 q5, .int .i64 p10, .int .i64 p11])), (2, some (.cells [.int .i64 p12, .int .i64 p13, .int .i64 p14, .int .i64 p15, .int .i64 p16, .int .i64 p17, .int .i64 p18, .int .i64 p19])), (3, some (.cells [.fn 116 [.p 4 0, .p 5 0, .p 6 0]])), (4, some (.cells [.int .i64 p20, .int .i64 p21, .int .i64 p22, .int .i64 p23, .int .i64 p24, .int .i64 p25, .int .i64 p26, .int .i64 p27, .int .i64 p28, .int .i64 p29, .int .i64 p30, .int .i64 p31, .int .i64 p32, .int .i64 p33, .int .i64 p34])), (5, some (.cells [.int .i64 p35, .int .i64 p36])), (6, some (.cells [.int .i64 q6, .int .i64 q7, .int .i64 q8, .int .i64 q9, .int .i64 q10, .int .i64 q11, .int .i64 q12, .int .i64 q13, .int .i64 q14, .int .i64 q15]))]
theorem offer_subs_1_1.ok {K : Nat} {p0 : Int} {p1 : Int} {p2 : Int} {p3 : Int} {p4 : Int} {p5 : Int} {p6 : Int} {p7 : Int} {p8 : Int} {p9 : Int} {p10 : Int} {p11 : Int} {p12 : Int} {p13 : Int} {p14 : Int} {p15 : Int} {p16 : Int} {p17 : Int} {p18 : Int} {p19 : Int} {p20 : Int} {p21 : Int} {p22 : Int} {p23 : Int} {p24 : Int} {p25 : Int} {p26 : Int} {p27 : Int} {p28 : Int} {p29 : Int} {p30 : Int} {p31 : Int} {p32 : Int} {p33 : Int} {p34 : Int} {p35 : Int} {p36 : Int} {p37 : Int} {p38 : Int} {p39 : Int} {p40 : Int} {p41 : Int} {p42 : Int} {p43 : Int} {p44 : Int} {p45 : Int} {p46 : Int} {r : Bool × Int × Int × Int × Int × Int × Int × Int × Int × Int × Int × Int × Int × Int × Int × Int} (h0 : offer_subs_1_1 K p0 p1 p2 p3 p4 p5 p6 p7 p8 p9 p10 p11 p12 p13 p14 p15 p16 p17 p18 p19 p20 p21 p22 p23 p24 p25 p26 p27 p28 p29 p30 p31 p32 p33 p34 p35 p36 p37 p38 p39 p40 p41 p42 p43 p44 p45 p46 = some r) : Fn Try.prog 152 [.int .i64 p0, .p 0 0, .p 1 0, .p 2 0, .p 3 0] [(0, some (.cells [.int .i64 p1])), (1, some (.cells [.int .i64 p2, .int .i64 p3, .int .i64 p4, .int .i64 p5, .int .i64 p6, .int .i64 p7, .int .i64 p8, .int .i64 p9, .int .i64 p10, .int .i64 p11])), (2, some (.cells [.int .i64 p12, .int .i64 p13, .int .i64 p14, .int .i64 p15, .int .i64 p16, .int .i64 p17, .int .i64 p18, .int .i64 p19])), (3, some (.cells [.fn 116 [.p 4 0, .p 5 0, .p 6 0]])), (4, some (.cells [.int .i64 p20, .int .i64 p21, .int .i64 p22, .int .i64 p23, .int .i64 p24, .int .i64 p25, .int .i64 p26, .int .i64 p27, .int .i64 p28, .int .i64 p29, .int .i64 p30, .int .i64 p31, .int .i64 p32, .int .i64 p33, .int .i64 p34])), (5, some (.cells [.int .i64 p35, .int .i64 p36])), (6, some (.cells [.int .i64 p37, .int .i64 p38, .int .i64 p39, .int .i64 p40, .int .i64 p41, .int .i64 p42, .int .i64 p43, .int .i64 p44, .int .i64 p45, .int .i64 p46]))] (offer_subs_1_1.res p0 p1 p2 p3 p4 p5 p6 p7 p8 p9 p10 p11 p12 p13 p14 p15 p16 p17 p18 p19 p20 p21 p22 p23 p24 p25 p26 p27 p28 p29 p30 p31 p32 p33 p34 p35 p36 p37 p38 p39 p40 p41 p42 p43 p44 p45 p46 r) (offer_subs_1_1.out p0 p1 p2 p3 p4 p5 p6 p7 p8 p9 p10 p11 p12 p13 p14 p15 p16 p17 p18 p19 p20 p21 p22 p23 p24 p25 p26 p27 p28 p29 p30 p31 p32 p33 p34 p35 p36 p37 p38 p39 p40 p41 p42 p43 p44 p45 p46 r) := by
  refine Fn_of Try.func152 rfl (Nat.le_of_ble_eq_true rfl) fun Γ => ?_
  refine TC_seq ?_
  refine TC_reg ?_
  refine TL_ev env 2 rfl ⟨tv, ⟨tv, tv⟩⟩ ?_
  refine TL_end ?_
  refine TE_go ?_
  refine TC_seq ?_
  refine TC_reg ?_
  refine TL_ev env 1 rfl ⟨⟨tv, ⟨tv, ⟨tv, ⟨tv, ⟨tv, tv⟩⟩⟩⟩⟩, tv⟩ ?_
  obtain ⟨⟨r17, r18, r19, r20, r21, r22, r23, r24, r25, r26, r27, r28, r29, r30, r31, r32⟩, hr, h0⟩ := bnd h0
  refine TL_callB [(0, 0), (1, 1005), (2, 1), (3, 2), (4, 3), (5, 4), (6, 5), (7, 6)] (offer_down_5.ok0 hr) offer_down_5.fnb rfl ⟨tv, ⟨tv, ⟨tv, ⟨tv, tv⟩⟩⟩⟩ rfl ⟨.inr rfl, .inr rfl, .inr rfl, .inr rfl, .inr rfl, .inr rfl, .inr rfl, .inr rfl, tv⟩ rfl ?_
  refine TL_ev env 1 rfl ⟨tv, tv⟩ ?_
  refine TL_end ?_
  refine TE_go ?_
  refine TC_ret ?_
  obtain rfl := sinj h0
  exact TE_ret env rfl tv ⟨.inr rfl, .inr rfl, .inr rfl, .inr rfl, .inr rfl, .inr rfl, .inr rfl, tv⟩
theorem offer_subs_1_1.ok0 {K : Nat} {p0 : Int} {p1 : Int} {p2 : Int} {p3 : Int} {p4 : Int} {p5 : Int} {p6 : Int} {p7 : Int} {p8 : Int} {p9 : Int} {p10 : Int} {p11 : Int} {p12 : Int} {p13 : Int} {p14 : Int} {p15 : Int} {p16 : Int} {p17 : Int} {p18 : Int} {p19 : Int} {p20 : Int} {p21 : Int} {p22 : Int} {p23 : Int} {p24 : Int} {p25 : Int} {p26 : Int} {p27 : Int} {p28 : Int} {p29 : Int} {p30 : Int} {p31 : Int} {p32 : Int} {p33 : Int} {p34 : Int} {p35 : Int} {p36 : Int} {p37 : Int} {p38 : Int} {p39 : Int} {p40 : Int} {p41 : Int} {p42 : Int} {p43 : Int} {p44 : Int} {p45 : Int} {p46 : Int} {q0 : Bool} {q1 : Int} {q2 : Int} {q3 : Int} {q4 : Int} {q5 : Int} {q6 : Int} {q7 : Int} {q8 : Int} {q9 : Int} {q10 : Int} {q11 : Int} {q12 : Int} {q13 : Int} {q14 : Int} {q15 : Int} (h0 : offer_subs_1_1 K p0 p1 p2 p3 p4 p5 p6 p7 p8 p9 p10 p11 p12 p13 p14 p15 p16 p17 p18 p19 p20 p21 p22 p23 p24 p25 p26 p27 p28 p29 p30 p31 p32 p33 p34 p35 p36 p37 p38 p39 p40 p41 p42 p43 p44 p45 p46 = some (q0, q1, q2, q3, q4, q5, q6, q7, q8, q9, q10, q11, q12, q13, q14, q15)) : Fn Try.prog 152 [.int .i64 p0, .p 0 0, .p 1 0, .p 2 0, .p 3 0] [(0, some (.cells [.int .i64 p1])), (1, some (.cells [.int .i64 p2, .int .i64 p3, .int .i64 p4, .int .i64 p5, .int .i64 p6, .int .i64 p7, .int .i64 p8, .int .i64 p9, .int .i64 p10, .int .i64 p11])), (2, some (.cells [.int .i64 p12, .int .i64 p13, .int .i64 p14, .int .i64 p15, .int .i64 p16, .int .i64 p17, .int .i64 p18, .int .i64 p19])), (3, some (.cells [.fn 116 [.p 4 0, .p 5 0, .p 6 0]])), (4, some (.cells [.int .i64 p20, .int .i64 p21, .int .i64 p22, .int .i64 p23, .int .i64 p24, .int .i64 p25, .int .i64 p26, .int .i64 p27, .int .i64 p28, .int .i64 p29, .int .i64 p30, .int .i64 p31, .int .i64 p32, .int .i64 p33, .int .i64 p34])), (5, some (.cells [.int .i64 p35, .int .i64 p36])), (6, some (.cells [.int .i64 p37, .int .i64 p38, .int .i64 p39, .int .i64 p40, .int .i64 p41, .int .i64 p42, .int .i64 p43, .int .i64 p44, .int .i64 p45, .int .i64 p46]))] (.bool q0) [(0, some (.cells [.int .i64 p1])), (1, some (.cells [.int .i64 p2, .int .i64 p3, .int .i64 p4, .int .i64 q1, .int .i64 q2, .int .i64 q3, .int .i64 q4, .int .i64 q5, .int .i64 p10, .int .i64 p11])), (2, some (.cells [.int .i64 p12, .int .i64 p13, .int .i64 p14, .int .i64 p15, .int .i64 p16, .int .i64 p17, .int .i64 p18, .int .i64 p19])), (3, some (.cells [.fn 116 [.p 4 0, .p 5 0, .p 6 0]])), (4, some (.cells [.int .i64 p20, .int .i64 p21, .int .i64 p22, .int .i64 p23, .int .i64 p24, .int .i64 p25, .int .i64 p26, .int .i64 p27, .int .i64 p28, .int .i64 p29, .int .i64 p30, .int .i64 p31, .int .i64 p32, .int .i64 p33, .int .i64 p34])), (5, some (.cells [.int .i64 p35, .int .i64 p36])), (6, some (.cells [.int .i64 q6, .int .i64 q7, .int .i64 q8, .int .i64 q9, .int .i64 q10, .int .i64 q11, .int .i64 q12, .int .i64 q13, .int .i64 q14, .int .i64 q15]))] := offer_subs_1_1.ok h0
theorem offer_subs_1_1.fnb : fnb Try.prog 152 = true := fnb_of Try.func152 rfl
def offer_down_6.res (_p0 : Int) (_p1 : Int) (_p2 : Int) (_p3 : Int) (_p4 : Int) (_p5 : Int) (_p6 : Int) (_p7 : Int) (_p8 : Int) (_p9 : Int) (_p10 : Int) (_p11 : Int) (_p12 : Int) (_p13 : Int) (_p14 : Int) (_p15 : Int) (_p16 : Int) (_p17 : Int) (_p18 : Int) (_p19 : Int) (_p20 : Int) (_p21 : Int) (_p22 : Int) (_p23 : Int) (_p24 : Int) (_p25 : Int) (_p26 : Int) (_p27 : Int) (_p28 : Int) (_p29 : Int) (_p30 : Int) (_p31 : Int) (_p32 : Int) (_p33 : Int) (_p34 : Int) (_p35 : Int) (_p36 : Int) (_p37 : Int) (_p38 : Int) (_p39 : Int) (_p40 : Int) (_p41 : Int) (_p42 : Int) (_p43 : Int) (_p44 : Int) (_p45 : Int) (_p46 : Int) (_p47 : Int) : Bool × Int × Int × Int × Int × Int × Int × Int × Int × Int × Int × Int × Int × Int × Int × Int → MV
  | (q0, _, _, _, _, _, _, _, _, _, _, _, _, _, _, _) => .bool q0
def offer_down_6.out (_p0 : Int) (_p1 : Int) (p2 : Int) (p3 : Int) (p4 : Int) (p5 : Int) (_p6 : Int) (_p7 : Int) (_p8 : Int) (_p9 : Int) (_p10 : Int) (p11 : Int) (p12 : Int) (p13 : Int) (p14 : Int) (p15 : Int) (p16 : Int) (p17 : Int) (p18 : Int) (p19 : Int) (p20 : Int) (p21 : Int) (p22 : Int) (p23 : Int) (p24 : Int) (p25 : Int) (p26 : Int) (p27 : Int) (p28 : Int) (p29 : Int) (p30 : Int) (p31 : Int) (p32 : Int) (p33 : Int) (p34 : Int) (p35 : Int) (p36 : Int) (p37 : Int) (_p38 : Int) (_p39 : Int) (_p40 : Int) (_p41 : Int) (_p42 : Int) (_p43 : Int) (_p44 : Int) (_p45 : Int) (_p46 : Int) (_p47 : Int) : Bool × Int × Int × Int × Int × Int × Int × Int × Int × Int × Int × Int × Int × Int × Int × Int → List (Nat × Option MObj)
  | (_, q1, q2, q3, q4, q5, q6, q7, q8, q9, q10, q11, q12, q13, q14, q15) => [(0, some (.cells [.int .i64 p2])), (1, some (.cells [.int .i64 p3, .int .i64 p4, .int .i64 p5, .int .i64 q1, .int .i64 q2, .int .i64 q3, .int .i64 q4, .int .i64 q5, .int .i64 p11, .int .i64 p12])), (2, some (.cells [.int .i64 p13, .int .i64 p14, .int .i64 p15, .int .i64 p16, .int .i64 p17, .int .i64 p18, .int .i64 p19, .int .i64 p20])), (3, some (.cells [.fn 116 [.p 4 0, .p 5 0, .p 6 0]])), (4, some (.cells [.int .i64 p21, .int .i64 p22, .int .i64 p23, .int .i64 p24, .int .i64 p25, .int .i64 p26, .int .i64 p27, .int .i64 p28, .int .i64 p29, .int .i64 p30, .int .i64 p31, .int .i64 p32, .int .i64 p33, .int .i64 p34, .int .i64 p35])), (5, some (.cells [.int .i64 p36, .int .i64 p37])), (6, some (.cells [.int .i64 q6, .int .i64 q7, .int .i64 q8, .int .i64 q9, .int .i64 q10, .int .i64 q11, .int .i64 q12, .int .i64 q13, .int .i64 q14, .int .i64 q15]))]
theorem offer_down_6.ok {K : Nat} {p0 : Int} {p1 : Int} {p2 : Int} {p3 : Int} {p4 : Int} {p5 : Int} {p6 : Int} {p7 : Int} {p8 : Int} {p9 : Int} {p10 : Int} {p11 : Int} {p12 : Int} {p13 : Int} {p14 : Int} {p15 : Int} {p16 : Int} {p17 : Int} {p18 : Int} {p19 : Int} {p20 : Int} {p21 : Int} {p22 : Int} {p23 : Int} {p24 : Int} {p25 : Int} {p26 : Int} {p27 : Int} {p28 : Int} {p29 : Int} {p30 : Int} {p31 : Int} {p32 : Int} {p33 : Int} {p34 : Int} {p35 : Int} {p36 : Int} {p37 : Int} {p38 : Int} {p39 : Int} {p40 : Int} {p41 : Int} {p42 : Int} {p43 : Int} {p44 : Int} {p45 : Int} {p46 : Int} {p47 : Int} {r : Bool × Int × Int × Int × Int × Int × Int × Int × Int × Int × Int × Int × Int × Int × Int × Int} (h0 : offer_down_6 K p0 p1 p2 p3 p4 p5 p6 p7 p8 p9 p10 p11 p12 p13 p14 p15 p16 p17 p18 p19 p20 p21 p22 p23 p24 p25 p26 p27 p28 p29 p30 p31 p32 p33 p34 p35 p36 p37 p38 p39 p40 p41 p42 p43 p44 p45 p46 p47 = some r) : Fn Try.prog 117 [.int .i64 p0, .int .i64 p1, .fn 152 [.p 0 0, .p 1 0, .p 2 0, .p 3 0]] [(0, some (.cells [.int .i64 p2])), (1, some (.cells [.int .i64 p3, .int .i64 p4, .int .i64 p5, .int .i64 p6, .int .i64 p7, .int .i64 p8, .int .i64 p9, .int .i64 p10, .int .i64 p11, .int .i64 p12])), (2, some (.cells [.int .i64 p13, .int .i64 p14, .int .i64 p15, .int .i64 p16, .int .i64 p17, .int .i64 p18, .int .i64 p19, .int .i64 p20])), (3, some (.cells [.fn 116 [.p 4 0, .p 5 0, .p 6 0]])), (4, some (.cells [.int .i64 p21, .int .i64 p22, .int .i64 p23, .int .i64 p24, .int .i64 p25, .int .i64 p26, .int .i64 p27, .int .i64 p28, .int .i64 p29, .int .i64 p30, .int .i64 p31, .int .i64 p32, .int .i64 p33, .int .i64 p34, .int .i64 p35])), (5, some (.cells [.int .i64 p36, .int .i64 p37])), (6, some (.cells [.int .i64 p38, .int .i64 p39, .int .i64 p40, .int .i64 p41, .int .i64 p42, .int .i64 p43, .int .i64 p44, .int .i64 p45, .int .i64 p46, .int .i64 p47]))] (offer_down_6.res p0 p1 p2 p3 p4 p5 p6 p7 p8 p9 p10 p11 p12 p13 p14 p15 p16 p17 p18 p19 p20 p21 p22 p23 p24 p25 p26 p27 p28 p29 p30 p31 p32 p33 p34 p35 p36 p37 p38 p39 p40 p41 p42 p43 p44 p45 p46 p47 r) (offer_down_6.out p0 p1 p2 p3 p4 p5 p6 p7 p8 p9 p10 p11 p12 p13 p14 p15 p16 p17 p18 p19 p20 p21 p22 p23 p24 p25 p26 p27 p28 p29 p30 p31 p32 p33 p34 p35 p36 p37 p38 p39 p40 p41 p42 p43 p44 p45 p46 p47 r) := by
  refine Fn_of Try.func117 rfl (Nat.le_of_ble_eq_true rfl) fun Γ => ?_
  refine TC_seq ?_
  refine TC_reg ?_
  refine TL_ev env 1 rfl ⟨tv, tv⟩ ?_
  refine TL_end ?_
  refine TE_go ?_
  refine TC_seq ?_
  refine TC_seq ?_
  refine TC_reg ?_
  refine TL_ev env 2 rfl ⟨tv, ⟨tv, tv⟩⟩ ?_
  refine TL_end ?_
  refine TE_go ?_
  obtain ⟨z1, h1, h0⟩ := bnd h0
  refine TC_cut (α := Int × Int × Int × Int × Int × Int × Int × Int × Int × Int × Int × Int × Int × Int × Int) (fun s => z1 = .inl s) (fun s => []) (fun s => [(0, some (.cells [.int .i64 p2])), (1, some (.cells [.int .i64 p3, .int .i64 p4, .int .i64 p5, .int .i64 s.1, .int .i64 s.2.1, .int .i64 s.2.2.1, .int .i64 s.2.2.2.1, .int .i64 s.2.2.2.2.1, .int .i64 p11, .int .i64 p12])), (2, some (.cells [.int .i64 p13, .int .i64 p14, .int .i64 p15, .int .i64 p16, .int .i64 p17, .int .i64 p18, .int .i64 p19, .int .i64 p20])), (3, some (.cells [.fn 116 [.p 4 0, .p 5 0, .p 6 0]])), (4, some (.cells [.int .i64 p21, .int .i64 p22, .int .i64 p23, .int .i64 p24, .int .i64 p25, .int .i64 p26, .int .i64 p27, .int .i64 p28, .int .i64 p29, .int .i64 p30, .int .i64 p31, .int .i64 p32, .int .i64 p33, .int .i64 p34, .int .i64 p35])), (5, some (.cells [.int .i64 p36, .int .i64 p37])), (6, some (.cells [.int .i64 s.2.2.2.2.2.1, .int .i64 s.2.2.2.2.2.2.1, .int .i64 s.2.2.2.2.2.2.2.1, .int .i64 s.2.2.2.2.2.2.2.2.1, .int .i64 s.2.2.2.2.2.2.2.2.2.1, .int .i64 s.2.2.2.2.2.2.2.2.2.2.1, .int .i64 s.2.2.2.2.2.2.2.2.2.2.2.1, .int .i64 s.2.2.2.2.2.2.2.2.2.2.2.2.1, .int .i64 s.2.2.2.2.2.2.2.2.2.2.2.2.2.1, .int .i64 s.2.2.2.2.2.2.2.2.2.2.2.2.2.2]))]) ?_ ?_
  · refine TC_blk ?_
    refine TC_loop (α := Int × Int × Int × Int × Int × Int × Int × Int × Int × Int × Int × Int × Int × Int × Int × Int) (fun n s => offer_down_6.l0 K p1 p2 p3 p4 p5 p11 p12 p13 p14 p15 p16 p17 p18 p19 p20 p21 p22 p23 p24 p25 p26 p27 p28 p29 p30 p31 p32 p33 p34 p35 p36 p37 n s.1 s.2.1 s.2.2.1 s.2.2.2.1 s.2.2.2.2.1 s.2.2.2.2.2.1 s.2.2.2.2.2.2.1 s.2.2.2.2.2.2.2.1 s.2.2.2.2.2.2.2.2.1 s.2.2.2.2.2.2.2.2.2.1 s.2.2.2.2.2.2.2.2.2.2.1 s.2.2.2.2.2.2.2.2.2.2.2.1 s.2.2.2.2.2.2.2.2.2.2.2.2.1 s.2.2.2.2.2.2.2.2.2.2.2.2.2.1 s.2.2.2.2.2.2.2.2.2.2.2.2.2.2.1 s.2.2.2.2.2.2.2.2.2.2.2.2.2.2.2 = some z1) (fun s => [(1, .int .i64 p1), (2, .fn 152 [.p 0 0, .p 1 0, .p 2 0, .p 3 0]), (7, .int .i64 s.1)]) (fun s => [(0, some (.cells [.int .i64 p2])), (1, some (.cells [.int .i64 p3, .int .i64 p4, .int .i64 p5, .int .i64 s.2.1, .int .i64 s.2.2.1, .int .i64 s.2.2.2.1, .int .i64 s.2.2.2.2.1, .int .i64 s.2.2.2.2.2.1, .int .i64 p11, .int .i64 p12])), (2, some (.cells [.int .i64 p13, .int .i64 p14, .int .i64 p15, .int .i64 p16, .int .i64 p17, .int .i64 p18, .int .i64 p19, .int .i64 p20])), (3, some (.cells [.fn 116 [.p 4 0, .p 5 0, .p 6 0]])), (4, some (.cells [.int .i64 p21, .int .i64 p22, .int .i64 p23, .int .i64 p24, .int .i64 p25, .int .i64 p26, .int .i64 p27, .int .i64 p28, .int .i64 p29, .int .i64 p30, .int .i64 p31, .int .i64 p32, .int .i64 p33, .int .i64 p34, .int .i64 p35])), (5, some (.cells [.int .i64 p36, .int .i64 p37])), (6, some (.cells [.int .i64 s.2.2.2.2.2.2.1, .int .i64 s.2.2.2.2.2.2.2.1, .int .i64 s.2.2.2.2.2.2.2.2.1, .int .i64 s.2.2.2.2.2.2.2.2.2.1, .int .i64 s.2.2.2.2.2.2.2.2.2.2.1, .int .i64 s.2.2.2.2.2.2.2.2.2.2.2.1, .int .i64 s.2.2.2.2.2.2.2.2.2.2.2.2.1, .int .i64 s.2.2.2.2.2.2.2.2.2.2.2.2.2.1, .int .i64 s.2.2.2.2.2.2.2.2.2.2.2.2.2.2.1, .int .i64 s.2.2.2.2.2.2.2.2.2.2.2.2.2.2.2]))]) K ?_ ?_
    · exact SP_ren [] (_, _, _, _, _, _, _, _, _, _, _, _, _, _, _, _) h1 ⟨rfl, rfl, rfl, tv⟩ ⟨rfl, rfl, rfl, rfl, rfl, rfl, rfl, tv⟩ rfl
    rintro n ⟨x255, x256, x257, x258, x259, x260, x261, x262, x263, x264, x265, x266, x267, x268, x269, x270⟩ h1
    rcases n with _ | n
    · exact (nsome h1).elim
    replace h1 : offer_down_6.r0 K p1 p2 p3 p4 p5 p11 p12 p13 p14 p15 p16 p17 p18 p19 p20 p21 p22 p23 p24 p25 p26 p27 p28 p29 p30 p31 p32 p33 p34 p35 p36 p37 (offer_down_6.l0 K p1 p2 p3 p4 p5 p11 p12 p13 p14 p15 p16 p17 p18 p19 p20 p21 p22 p23 p24 p25 p26 p27 p28 p29 p30 p31 p32 p33 p34 p35 p36 p37 n) x255 x256 x257 x258 x259 x260 x261 x262 x263 x264 x265 x266 x267 x268 x269 x270 = some z1 := h1
    refine TC_seq ?_
    refine TC_seq ?_
    refine TC_reg ?_
    refine TL_ev env 3 rfl ⟨tv, ⟨tv, ⟨⟨tv, ⟨tv, tv⟩⟩, tv⟩⟩⟩ ?_
    refine TL_end ?_
    refine TE_go ?_
    refine TC_cond rfl (fun hb => ?_) (fun hb => ?_)
    · replace h1 := bif_t h1 hb
      refine TC_skip ?_
      refine TE_go ?_
      refine TC_seq ?_
      refine TC_blk ?_
      refine TC_seq ?_
      refine TC_reg ?_
      refine TL_ev env 2 rfl ⟨tv, ⟨tv, tv⟩⟩ ?_
      obtain ⟨⟨r336, r337, r338, r339, r340, r341, r342, r343, r344, r345, r346, r347, r348, r349, r350, r351⟩, hr, h1⟩ := bnd h1
      refine TL_callB [(0, 0), (1, 1), (2, 2), (3, 3), (4, 4), (5, 5), (6, 6)] (offer_subs_1_1.ok0 hr) offer_subs_1_1.fnb rfl ⟨tv, ⟨tv, tv⟩⟩ rfl ⟨.inr rfl, .inr rfl, .inr rfl, .inr rfl, .inr rfl, .inr rfl, .inr rfl, tv⟩ rfl ?_
      refine TL_end ?_
      refine TE_go ?_
      refine TC_cond rfl (fun hb => ?_) (fun hb => ?_)
      · replace h1 := bif_t h1 hb
        refine TC_seq ?_
        refine TC_reg ?_
        refine TL_ev env 1 rfl ⟨tv, tv⟩ ?_
        refine TL_end ?_
        refine TE_go ?_
        refine TC_ret ?_
        refine tbr ?_
        refine tsr ?_
        refine tsr ?_
        refine tbr ?_
        refine tsr ?_
        refine tsr ?_
        obtain rfl := sinj h1
        obtain rfl := sinj h0
        exact TE_ret env rfl tv ⟨.inr rfl, .inr rfl, .inr rfl, .inr rfl, .inr rfl, .inr rfl, .inr rfl, tv⟩
      · replace h1 := bif_f h1 hb
        refine TC_skip ?_
        refine tbn ?_
        refine TE_go ?_
        refine TC_reg ?_
        refine TL_ev env 3 rfl ⟨tv, ⟨⟨tv, ⟨tv, tv⟩⟩, ⟨tv, tv⟩⟩⟩ ?_
        refine TL_end ?_
        refine tsn ?_
        exact TE_nextr [] n (Nat.lt_succ_self n) (_, _, _, _, _, _, _, _, _, _, _, _, _, _, _, _) h1 ⟨rfl, rfl, rfl, tv⟩ ⟨rfl, rfl, rfl, rfl, rfl, rfl, rfl, tv⟩ rfl
    · replace h1 := bif_f h1 hb
      refine TC_exit ?_
      refine tsx ?_
      refine tsx ?_
      refine tbe ?_
      obtain rfl := sinj h1
      refine tsn ?_
      exact SP_ren [] (_, _, _, _, _, _, _, _, _, _, _, _, _, _, _) rfl tv ⟨rfl, rfl, rfl, rfl, rfl, rfl, rfl, tv⟩ rfl
  · rintro ⟨x208, x209, x210, x211, x212, x213, x214, x215, x216, x217, x218, x219, x220, x221, x222⟩ rfl
    refine TE_go ?_
    refine TC_seq ?_
    refine TC_reg ?_
    refine TL_ev env 1 rfl ⟨tv, tv⟩ ?_
    refine TL_end ?_
    refine TE_go ?_
    refine TC_ret ?_
    obtain rfl := sinj h0
    exact TE_ret env rfl tv ⟨.inr rfl, .inr rfl, .inr rfl, .inr rfl, .inr rfl, .inr rfl, .inr rfl, tv⟩
theorem offer_down_6.ok0 {K : Nat} {p0 : Int} {p1 : Int} {p2 : Int} {p3 : Int} {p4 : Int} {p5 : Int} {p6 : Int} {p7 : Int} {p8 : Int} {p9 : Int} {p10 : Int} {p11 : Int} {p12 : Int} {p13 : Int} {p14 : Int} {p15 : Int} {p16 : Int} {p17 : Int} {p18 : Int} {p19 : Int} {p20 : Int} {p21 : Int} {p22 : Int} {p23 : Int} {p24 : Int} {p25 : Int} {p26 : Int} {p27 : Int} {p28 : Int} {p29 : Int} {p30 : Int} {p31 : Int} {p32 : Int} {p33 : Int} {p34 : Int} {p35 : Int} {p36 : Int} {p37 : Int} {p38 : Int} {p39 : Int} {p40 : Int} {p41 : Int} {p42 : Int} {p43 : Int} {p44 : Int} {p45 : Int} {p46 : Int} {p47 : Int} {q0 : Bool} {q1 : Int} {q2 : Int} {q3 : Int} {q4 : Int} {q5 : Int} {q6 : Int} {q7 : Int} {q8 : Int} {q9 : Int} {q10 : Int} {q11 : Int} {q12 : Int} {q13 : Int} {q14 : Int} {q15 : Int} (h0 : offer_down_6 K p0 p1 p2 p3 p4 p5 p6 p7 p8 p9 p10 p11 p12 p13 p14 p15 p16 p17 p18 p19 p20 p21 p22 p23 p24 p25 p26 p27 p28 p29 p30 p31 p32 p33 p34 p35 p36 p37 p38 p39 p40 p41 p42 p43 p44 p45 p46 p47 = some (q0, q1, q2, q3, q4, q5, q6, q7, q8, q9, q10, q11, q12, q13, q14, q15)) : Fn Try.prog 117 [.int .i64 p0, .int .i64 p1, .fn 152 [.p 0 0, .p 1 0, .p 2 0, .p 3 0]] [(0, some (.cells [.int .i64 p2])), (1, some (.cells [.int .i64 p3, .int .i64 p4, .int .i64 p5, .int .i64 p6, .int .i64 p7, .int .i64 p8, .int .i64 p9, .int .i64 p10, .int .i64 p11, .int .i64 p12])), (2, some (.cells [.int .i64 p13, .int .i64 p14, .int .i64 p15, .int .i64 p16, .int .i64 p17, .int .i64 p18, .int .i64 p19, .int .i64 p20])), (3, some (.cells [.fn 116 [.p 4 0, .p 5 0, .p 6 0]])), (4, some (.cells [.int .i64 p21, .int .i64 p22, .int .i64 p23, .int .i64 p24, .int .i64 p25, .int .i64 p26, .int .i64 p27, .int .i64 p28, .int .i64 p29, .int .i64 p30, .int .i64 p31, .int .i64 p32, .int .i64 p33, .int .i64 p34, .int .i64 p35])), (5, some (.cells [.int .i64 p36, .int .i64 p37])), (6, some (.cells [.int .i64 p38, .int .i64 p39, .int .i64 p40, .int .i64 p41, .int .i64 p42, .int .i64 p43, .int .i64 p44, .int .i64 p45, .int .i64 p46, .int .i64 p47]))] (.bool q0) [(0, some (.cells [.int .i64 p2])), (1, some (.cells [.int .i64 p3, .int .i64 p4, .int .i64 p5, .int .i64 q1, .int .i64 q2, .int .i64 q3, .int .i64 q4, .int .i64 q5, .int .i64 p11, .int .i64 p12])), (2, some (.cells [.int .i64 p13, .int .i64 p14, .int .i64 p15, .int .i64 p16, .int .i64 p17, .int .i64 p18, .int .i64 p19, .int .i64 p20])), (3, some (.cells [.fn 116 [.p 4 0, .p 5 0, .p 6 0]])), (4, some (.cells [.int .i64 p21, .int .i64 p22, .int .i64 p23, .int .i64 p24, .int .i64 p25, .int .i64 p26, .int .i64 p27, .int .i64 p28, .int .i64 p29, .int .i64 p30, .int .i64 p31, .int .i64 p32, .int .i64 p33, .int .i64 p34, .int .i64 p35])), (5, some (.cells [.int .i64 p36, .int .i64 p37])), (6, some (.cells [.int .i64 q6, .int .i64 q7, .int .i64 q8, .int .i64 q9, .int .i64 q10, .int .i64 q11, .int .i64 q12, .int .i64 q13, .int .i64 q14, .int .i64 q15]))] := offer_down_6.ok h0
theorem offer_down_6.fnb : fnb Try.prog 117 = true := fnb_of Try.func117 rfl
def offer_subs_1.res (_p0 : Int) (_p1 : Int) (_p2 : Int) (_p3 : Int) (_p4 : Int) (_p5 : Int) (_p6 : Int) (_p7 : Int) (_p8 : Int) (_p9 : Int) (_p10 : Int) (_p11 : Int) (_p12 : Int) (_p13 : Int) (_p14 : Int) (_p15 : Int) (_p16 : Int) (_p17 : Int) (_p18 : Int) (_p19 : Int) (_p20 : Int) (_p21 : Int) (_p22 : Int) (_p23 : Int) (_p24 : Int) (_p25 : Int) (_p26 : Int) (_p27 : Int) (_p28 : Int) (_p29 : Int) (_p30 : Int) (_p31 : Int) (_p32 : Int) (_p33 : Int) (_p34 : Int) (_p35 : Int) (_p36 : Int) (_p37 : Int) (_p38 : Int) (_p39 : Int) (_p40 : Int) (_p41 : Int) (_p42 : Int) (_p43 : Int) (_p44 : Int) (_p45 : Int) : Bool × Int × Int × Int × Int × Int × Int × Int × Int × Int × Int × Int × Int × Int × Int × Int → MV
  | (q0, _, _, _, _, _, _, _, _, _, _, _, _, _, _, _) => .bool q0
def offer_subs_1.out (_p0 : Int) (p1 : Int) (p2 : Int) (p3 : Int) (_p4 : Int) (_p5 : Int) (_p6 : Int) (_p7 : Int) (_p8 : Int) (p9 : Int) (p10 : Int) (p11 : Int) (p12 : Int) (p13 : Int) (p14 : Int) (p15 : Int) (p16 : Int) (p17 : Int) (p18 : Int) (p19 : Int) (p20 : Int) (p21 : Int) (p22 : Int) (p23 : Int) (p24 : Int) (p25 : Int) (p26 : Int) (p27 : Int) (p28 : Int) (p29 : Int) (p30 : Int) (p31 : Int) (p32 : Int) (p33 : Int) (p34 : Int) (p35 : Int) (_p36 : Int) (_p37 : Int) (_p38 : Int) (_p39 : Int) (_p40 : Int) (_p41 : Int) (_p42 : Int) (_p43 : Int) (_p44 : Int) (_p45 : Int) : Bool × Int × Int × Int × Int × Int × Int × Int × Int × Int × Int × Int × Int × Int × Int × Int → List (Nat × Option MObj)
  | (_, q1, q2, q3, q4, q5, q6, q7, q8, q9, q10, q11, q12, q13, q14, q15) => [(0, some (.cells [.int .i64 p1, .int .i64 p2, .int .i64 p3, .int .i64 q1, .int .i64 q2, .int .i64 q3, .int .i64 q4, .int .i64 q5, .int .i64 p9, .int .i64 p10])), (1, some (.cells [.int .i64 p11, .int .i64 p12, .int .i64 p13, .int .i64 p14, .int .i64 p15, .int .i64 p16, .int .i64 p17, .int .i64 p18])), (2, some (.cells [.fn 116 [.p 3 0, .p 4 0, .p 5 0]])), (3, some (.cells [.int .i64 p19, .int .i64 p20, .int .i64 p21, .int .i64 p22, .int .i64 p23, .int .i64 p24, .int .i64 p25, .int .i64 p26, .int .i64 p27, .int .i64 p28, .int .i64 p29, .int .i64 p30, .int .i64 p31, .int .i64 p32, .int .i64 p33])), (4, some (.cells [.int .i64 p34, .int .i64 p35])), (5, some (.cells [.int .i64 q6, .int .i64 q7, .int .i64 q8, .int .i64 q9, .int .i64 q10, .int .i64 q11, .int .i64 q12, .int .i64 q13, .int .i64 q14, .int .i64 q15]))]
theorem offer_subs_1.ok {K : Nat} {p0 : Int} {p1 : Int} {p2 : Int} {p3 : Int} {p4 : Int} {p5 : Int} {p6 : Int} {p7 : Int} {p8 : Int} {p9 : Int} {p10 : Int} {p11 : Int} {p12 : Int} {p13 : Int} {p14 : Int} {p15 : Int} {p16 : Int} {p17 : Int} {p18 : Int} {p19 : Int} {p20 : Int} {p21 : Int} {p22 : Int} {p23 : Int} {p24 : Int} {p25 : Int} {p26 : Int} {p27 : Int} {p28 : Int} {p29 : Int} {p30 : Int} {p31 : Int} {p32 : Int} {p33 : Int} {p34 : Int} {p35 : Int} {p36 : Int} {p37 : Int} {p38 : Int} {p39 : Int} {p40 : Int} {p41 : Int} {p42 : Int} {p43 : Int} {p44 : Int} {p45 : Int} {r : Bool × Int × Int × Int × Int × Int × Int × Int × Int × Int × Int × Int × Int × Int × Int × Int} (h0 : offer_subs_1 K p0 p1 p2 p3 p4 p5 p6 p7 p8 p9 p10 p11 p12 p13 p14 p15 p16 p17 p18 p19 p20 p21 p22 p23 p24 p25 p26 p27 p28 p29 p30 p31 p32 p33 p34 p35 p36 p37 p38 p39 p40 p41 p42 p43 p44 p45 = some r) : Fn Try.prog 151 [.int .i64 p0, .p 0 0, .p 1 0, .p 2 0] [(0, some (.cells [.int .i64 p1, .int .i64 p2, .int .i64 p3, .int .i64 p4, .int .i64 p5, .int .i64 p6, .int .i64 p7, .int .i64 p8, .int .i64 p9, .int .i64 p10])), (1, some (.cells [.int .i64 p11, .int .i64 p12, .int .i64 p13, .int .i64 p14, .int .i64 p15, .int .i64 p16, .int .i64 p17, .int .i64 p18])), (2, some (.cells [.fn 116 [.p 3 0, .p 4 0, .p 5 0]])), (3, some (.cells [.int .i64 p19, .int .i64 p20, .int .i64 p21, .int .i64 p22, .int .i64 p23, .int .i64 p24, .int .i64 p25, .int .i64 p26, .int .i64 p27, .int .i64 p28, .int .i64 p29, .int .i64 p30, .int .i64 p31, .int .i64 p32, .int .i64 p33])), (4, some (.cells [.int .i64 p34, .int .i64 p35])), (5, some (.cells [.int .i64 p36, .int .i64 p37, .int .i64 p38, .int .i64 p39, .int .i64 p40, .int .i64 p41, .int .i64 p42, .int .i64 p43, .int .i64 p44, .int .i64 p45]))] (offer_subs_1.res p0 p1 p2 p3 p4 p5 p6 p7 p8 p9 p10 p11 p12 p13 p14 p15 p16 p17 p18 p19 p20 p21 p22 p23 p24 p25 p26 p27 p28 p29 p30 p31 p32 p33 p34 p35 p36 p37 p38 p39 p40 p41 p42 p43 p44 p45 r) (offer_subs_1.out p0 p1 p2 p3 p4 p5 p6 p7 p8 p9 p10 p11 p12 p13 p14 p15 p16 p17 p18 p19 p20 p21 p22 p23 p24 p25 p26 p27 p28 p29 p30 p31 p32 p33 p34 p35 p36 p37 p38 p39 p40 p41 p42 p43 p44 p45 r) := by
  refine Fn_of Try.func151 rfl (Nat.le_of_ble_eq_true rfl) fun Γ => ?_
  refine TC_seq ?_
  refine TC_reg ?_
  refine TL_ev env 2 rfl ⟨tv, ⟨tv, tv⟩⟩ ?_
  refine TL_end ?_
  refine TE_go ?_
  refine TC_seq ?_
  refine TC_reg ?_
  refine TL_ev env 1 rfl ⟨⟨tv, ⟨tv, ⟨tv, ⟨tv, tv⟩⟩⟩⟩, tv⟩ ?_
  obtain ⟨⟨r17, r18, r19, r20, r21, r22, r23, r24, r25, r26, r27, r28, r29, r30, r31, r32⟩, hr, h0⟩ := bnd h0
  refine TL_callB [(0, 1004), (1, 0), (2, 1), (3, 2), (4, 3), (5, 4), (6, 5)] (offer_down_6.ok0 hr) offer_down_6.fnb rfl ⟨tv, ⟨tv, ⟨tv, ⟨tv, tv⟩⟩⟩⟩ rfl ⟨.inr rfl, .inr rfl, .inr rfl, .inr rfl, .inr rfl, .inr rfl, .inr rfl, tv⟩ rfl ?_
  refine TL_ev env 1 rfl ⟨tv, tv⟩ ?_
  refine TL_end ?_
  refine TE_go ?_
  refine TC_ret ?_
  obtain rfl := sinj h0
  exact TE_ret env rfl tv ⟨.inr rfl, .inr rfl, .inr rfl, .inr rfl, .inr rfl, .inr rfl, tv⟩
theorem offer_subs_1.ok0 {K : Nat} {p0 : Int} {p1 : Int} {p2 : Int} {p3 : Int} {p4 : Int} {p5 : Int} {p6 : Int} {p7 : Int} {p8 : Int} {p9 : Int} {p10 : Int} {p11 : Int} {p12 : Int} {p13 : Int} {p14 : Int} {p15 : Int} {p16 : Int} {p17 : Int} {p18 : Int} {p19 : Int} {p20 : Int} {p21 : Int} {p22 : Int} {p23 : Int} {p24 : Int} {p25 : Int} {p26 : Int} {p27 : Int} {p28 : Int} {p29 : Int} {p30 : Int} {p31 : Int} {p32 : Int} {p33 : Int} {p34 : Int} {p35 : Int} {p36 : Int} {p37 : Int} {p38 : Int} {p39 : Int} {p40 : Int} {p41 : Int} {p42 : Int} {p43 : Int} {p44 : Int} {p45 : Int} {q0 : Bool} {q1 : Int} {q2 : Int} {q3 : Int} {q4 : Int} {q5 : Int} {q6 : Int} {q7 : Int} {q8 : Int} {q9 : Int} {q10 : Int} {q11 : Int} {q12 : Int} {q13 : Int} {q14 : Int} {q15 : Int} (h0 : offer_subs_1 K p0 p1 p2 p3 p4 p5 p6 p7 p8 p9 p10 p11 p12 p13 p14 p15 p16 p17 p18 p19 p20 p21 p22 p23 p24 p25 p26 p27 p28 p29 p30 p31 p32 p33 p34 p35 p36 p37 p38 p39 p40 p41 p42 p43 p44 p45 = some (q0, q1, q2, q3, q4, q5, q6, q7, q8, q9, q10, q11, q12, q13, q14, q15)) : Fn Try.prog 151 [.int .i64 p0, .p 0 0, .p 1 0, .p 2 0] [(0, some (.cells [.int .i64 p1, .int .i64 p2, .int .i64 p3, .int .i64 p4, .int .i64 p5, .int .i64 p6, .int .i64 p7, .int .i64 p8, .int .i64 p9, .int .i64 p10])), (1, some (.cells [.int .i64 p11, .int .i64 p12, .int .i64 p13, .int .i64 p14, .int .i64 p15, .int .i64 p16, .int .i64 p17, .int .i64 p18])), (2, some (.cells [.fn 116 [.p 3 0, .p 4 0, .p 5 0]])), (3, some (.cells [.int .i64 p19, .int .i64 p20, .int .i64 p21, .int .i64 p22, .int .i64 p23, .int .i64 p24, .int .i64 p25, .int .i64 p26, .int .i64 p27, .int .i64 p28, .int .i64 p29, .int .i64 p30, .int .i64 p31, .int .i64 p32, .int .i64 p33])), (4, some (.cells [.int .i64 p34, .int .i64 p35])), (5, some (.cells [.int .i64 p36, .int .i64 p37, .int .i64 p38, .int .i64 p39, .int .i64 p40, .int .i64 p41, .int .i64 p42, .int .i64 p43, .int .i64 p44, .int .i64 p45]))] (.bool q0) [(0, some (.cells [.int .i64 p1, .int .i64 p2, .int .i64 p3, .int .i64 q1, .int .i64 q2, .int .i64 q3, .int .i64 q4, .int .i64 q5, .int .i64 p9, .int .i64 p10])), (1, some (.cells [.int .i64 p11, .int .i64 p12, .int .i64 p13, .int .i64 p14, .int .i64 p15, .int .i64 p16, .int .i64 p17, .int .i64 p18])), (2, some (.cells [.fn 116 [.p 3 0, .p 4 0, .p 5 0]])), (3, some (.cells [.int .i64 p19, .int .i64 p20, .int .i64 p21, .int .i64 p22, .int .i64 p23, .int .i64 p24, .int .i64 p25, .int .i64 p26, .int .i64 p27, .int .i64 p28, .int .i64 p29, .int .i64 p30, .int .i64 p31, .int .i64 p32, .int .i64 p33])), (4, some (.cells [.int .i64 p34, .int .i64 p35])), (5, some (.cells [.int .i64 q6, .int .i64 q7, .int .i64 q8, .int .i64 q9, .int .i64 q10, .int .i64 q11, .int .i64 q12, .int .i64 q13, .int .i64 q14, .int .i64 q15]))] := offer_subs_1.ok h0
theorem offer_subs_1.fnb : fnb Try.prog 151 = true := fnb_of Try.func151 rfl
def offer_down_7.res (_p0 : Int) (_p1 : Int) (_p2 : Int) (_p3 : Int) (_p4 : Int) (_p5 : Int) (_p6 : Int) (_p7 : Int) (_p8 : Int) (_p9 : Int) (_p10 : Int) (_p11 : Int) (_p12 : Int) (_p13 : Int) (_p14 : Int) (_p15 : Int) (_p16 : Int) (_p17 : Int) (_p18 : Int) (_p19 : Int) (_p20 : Int) (_p21 : Int) (_p22 : Int) (_p23 : Int) (_p24 : Int) (_p25 : Int) (_p26 : Int) (_p27 : Int) (_p28 : Int) (_p29 : Int) (_p30 : Int) (_p31 : Int) (_p32 : Int) (_p33 : Int) (_p34 : Int) (_p35 : Int) (_p36 : Int) (_p37 : Int) (_p38 : Int) (_p39 : Int) (_p40 : Int) (_p41 : Int) (_p42 : Int) (_p43 : Int) (_p44 : Int) (_p45 : Int) (_p46 : Int) : Bool × Int × Int × Int × Int × Int × Int × Int × Int × Int × Int × Int × Int × Int × Int × Int → MV
  | (q0, _, _, _, _, _, _, _, _, _, _, _, _, _, _, _) => .bool q0
def offer_down_7.out (_p0 : Int) (_p1 : Int) (p2 : Int) (p3 : Int) (p4 : Int) (_p5 : Int) (_p6 : Int) (_p7 : Int) (_p8 : Int) (_p9 : Int) (p10 : Int) (p11 : Int) (p12 : Int) (p13 : Int) (p14 : Int) (p15 : Int) (p16 : Int) (p17 : Int) (p18 : Int) (p19 : Int) (p20 : Int) (p21 : Int) (p22 : Int) (p23 : Int) (p24 : Int) (p25 : Int) (p26 : Int) (p27 : Int) (p28 : Int) (p29 : Int) (p30 : Int) (p31 : Int) (p32 : Int) (p33 : Int) (p34 : Int) (p35 : Int) (p36 : Int) (_p37 : Int) (_p38 : Int) (_p39 : Int) (_p40 : Int) (_p41 : Int) (_p42 : Int) (_p43 : Int) (_p44 : Int) (_p45 : Int) (_p46 : Int) : Bool × Int × Int × Int × Int × Int × Int × Int × Int × Int × Int × Int × Int × Int × Int × Int → List (Nat × Option MObj)
  | (_, q1, q2, q3, q4, q5, q6, q7, q8, q9, q10, q11, q12, q13, q14, q15) => [(0, some (.cells [.int .i64 p2, .int .i64 p3, .int .i64 p4, .int .i64 q1, .int .i64 q2, .int .i64 q3, .int .i64 q4, .int .i64 q5, .int .i64 p10, .int .i64 p11])), (1, some (.cells [.int .i64 p12, .int .i64 p13, .int .i64 p14, .int .i64 p15, .int .i64 p16, .int .i64 p17, .int .i64 p18, .int .i64 p19])), (2, some (.cells [.fn 116 [.p 3 0, .p 4 0, .p 5 0]])), (3, some (.cells [.int .i64 p20, .int .i64 p21, .int .i64 p22, .int .i64 p23, .int .i64 p24, .int .i64 p25, .int .i64 p26, .int .i64 p27, .int .i64 p28, .int .i64 p29, .int .i64 p30, .int .i64 p31, .int .i64 p32, .int .i64 p33, .int .i64 p34])), (4, some (.cells [.int .i64 p35, .int .i64 p36])), (5, some (.cells [.int .i64 q6, .int .i64 q7, .int .i64 q8, .int .i64 q9, .int .i64 q10, .int .i64 q11, .int .i64 q12, .int .i64 q13, .int .i64 q14, .int .i64 q15]))]
theorem offer_down_7.ok {K : Nat} {p0 : Int} {p1 : Int} {p2 : Int} {p3 : Int} {p4 : Int} {p5 : Int} {p6 : Int} {p7 : Int} {p8 : Int} {p9 : Int} {p10 : Int} {p11 : Int} {p12 : Int} {p13 : Int} {p14 : Int} {p15 : Int} {p16 : Int} {p17 : Int} {p18 : Int} {p19 : Int} {p20 : Int} {p21 : Int} {p22 : Int} {p23 : Int} {p24 : Int} {p25 : Int} {p26 : Int} {p27 : Int} {p28 : Int} {p29 : Int} {p30 : Int} {p31 : Int} {p32 : Int} {p33 : Int} {p34 : Int} {p35 : Int} {p36 : Int} {p37 : Int} {p38 : Int} {p39 : Int} {p40 : Int} {p41 : Int} {p42 : Int} {p43 : Int} {p44 : Int} {p45 : Int} {p46 : Int} {r : Bool × Int × Int × Int × Int × Int × Int × Int × Int × Int × Int × Int × Int × Int × Int × Int} (h0 : offer_down_7 K p0 p1 p2 p3 p4 p5 p6 p7 p8 p9 p10 p11 p12 p13 p14 p15 p16 p17 p18 p19 p20 p21 p22 p23 p24 p25 p26 p27 p28 p29 p30 p31 p32 p33 p34 p35 p36 p37 p38 p39 p40 p41 p42 p43 p44 p45 p46 = some r) : Fn Try.prog 117 [.int .i64 p0, .int .i64 p1, .fn 151 [.p 0 0, .p 1 0, .p 2 0]] [(0, some (.cells [.int .i64 p2, .int .i64 p3, .int .i64 p4, .int .i64 p5, .int .i64 p6, .int .i64 p7, .int .i64 p8, .int .i64 p9, .int .i64 p10, .int .i64 p11])), (1, some (.cells [.int .i64 p12, .int .i64 p13, .int .i64 p14, .int .i64 p15, .int .i64 p16, .int .i64 p17, .int .i64 p18, .int .i64 p19])), (2, some (.cells [.fn 116 [.p 3 0, .p 4 0, .p 5 0]])), (3, some (.cells [.int .i64 p20, .int .i64 p21, .int .i64 p22, .int .i64 p23, .int .i64 p24, .int .i64 p25, .int .i64 p26, .int .i64 p27, .int .i64 p28, .int .i64 p29, .int .i64 p30, .int .i64 p31, .int .i64 p32, .int .i64 p33, .int .i64 p34])), (4, some (.cells [.int .i64 p35, .int .i64 p36])), (5, some (.cells [.int .i64 p37, .int .i64 p38, .int .i64 p39, .int .i64 p40, .int .i64 p41, .int .i64 p42, .int .i64 p43, .int .i64 p44, .int .i64 p45, .int .i64 p46]))] (offer_down_7.res p0 p1 p2 p3 p4 p5 p6 p7 p8 p9 p10 p11 p12 p13 p14 p15 p16 p17 p18 p19 p20 p21 p22 p23 p24 p25 p26 p27 p28 p29 p30 p31 p32 p33 p34 p35 p36 p37 p38 p39 p40 p41 p42 p43 p44 p45 p46 r) (offer_down_7.out p0 p1 p2 p3 p4 p5 p6 p7 p8 p9 p10 p11 p12 p13 p14 p15 p16 p17 p18 p19 p20 p21 p22 p23 p24 p25 p26 p27 p28 p29 p30 p31 p32 p33 p34 p35 p36 p37 p38 p39 p40 p41 p42 p43 p44 p45 p46 r) := by
  refine Fn_of Try.func117 rfl (Nat.le_of_ble_eq_true rfl) fun Γ => ?_
  refine TC_seq ?_
  refine TC_reg ?_
  refine TL_ev env 1 rfl ⟨tv, tv⟩ ?_
  refine TL_end ?_
  refine TE_go ?_
  refine TC_seq ?_
  refine TC_seq ?_
  refine TC_reg ?_
  refine TL_ev env 2 rfl ⟨tv, ⟨tv, tv⟩⟩ ?_
  refine TL_end ?_
  refine TE_go ?_
  obtain ⟨z1, h1, h0⟩ := bnd h0
  refine TC_cut (α := Int × Int × Int × Int × Int × Int × Int × Int × Int × Int × Int × Int × Int × Int × Int) (fun s => z1 = .inl s) (fun s => []) (fun s => [(0, some (.cells [.int .i64 p2, .int .i64 p3, .int .i64 p4, .int .i64 s.1, .int .i64 s.2.1, .int .i64 s.2.2.1, .int .i64 s.2.2.2.1, .int .i64 s.2.2.2.2.1, .int .i64 p10, .int .i64 p11])), (1, some (.cells [.int .i64 p12, .int .i64 p13, .int .i64 p14, .int .i64 p15, .int .i64 p16, .int .i64 p17, .int .i64 p18, .int .i64 p19])), (2, some (.cells [.fn 116 [.p 3 0, .p 4 0, .p 5 0]])), (3, some (.cells [.int .i64 p20, .int .i64 p21, .int .i64 p22, .int .i64 p23, .int .i64 p24, .int .i64 p25, .int .i64 p26, .int .i64 p27, .int .i64 p28, .int .i64 p29, .int .i64 p30, .int .i64 p31, .int .i64 p32, .int .i64 p33, .int .i64 p34])), (4, some (.cells [.int .i64 p35, .int .i64 p36])), (5, some (.cells [.int .i64 s.2.2.2.2.2.1, .int .i64 s.2.2.2.2.2.2.1, .int .i64 s.2.2.2.2.2.2.2.1, .int .i64 s.2.2.2.2.2.2.2.2.1, .int .i64 s.2.2.2.2.2.2.2.2.2.1, .int .i64 s.2.2.2.2.2.2.2.2.2.2.1, .int .i64 s.2.2.2.2.2.2.2.2.2.2.2.1, .int .i64 s.2.2.2.2.2.2.2.2.2.2.2.2.1, .int .i64 s.2.2.2.2.2.2.2.2.2.2.2.2.2.1, .int .i64 s.2.2.2.2.2.2.2.2.2.2.2.2.2.2]))]) ?_ ?_
  · refine TC_blk ?_
    refine TC_loop (α := Int × Int × Int × Int × Int × Int × Int × Int × Int × Int × Int × Int × Int × Int × Int × Int) (fun n s => offer_down_7.l0 K p1 p2 p3 p4 p10 p11 p12 p13 p14 p15 p16 p17 p18 p19 p20 p21 p22 p23 p24 p25 p26 p27 p28 p29 p30 p31 p32 p33 p34 p35 p36 n s.1 s.2.1 s.2.2.1 s.2.2.2.1 s.2.2.2.2.1 s.2.2.2.2.2.1 s.2.2.2.2.2.2.1 s.2.2.2.2.2.2.2.1 s.2.2.2.2.2.2.2.2.1 s.2.2.2.2.2.2.2.2.2.1 s.2.2.2.2.2.2.2.2.2.2.1 s.2.2.2.2.2.2.2.2.2.2.2.1 s.2.2.2.2.2.2.2.2.2.2.2.2.1 s.2.2.2.2.2.2.2.2.2.2.2.2.2.1 s.2.2.2.2.2.2.2.2.2.2.2.2.2.2.1 s.2.2.2.2.2.2.2.2.2.2.2.2.2.2.2 = some z1) (fun s => [(1, .int .i64 p1), (2, .fn 151 [.p 0 0, .p 1 0, .p 2 0]), (7, .int .i64 s.1)]) (fun s => [(0, some (.cells [.int .i64 p2, .int .i64 p3, .int .i64 p4, .int .i64 s.2.1, .int .i64 s.2.2.1, .int .i64 s.2.2.2.1, .int .i64 s.2.2.2.2.1, .int .i64 s.2.2.2.2.2.1, .int .i64 p10, .int .i64 p11])), (1, some (.cells [.int .i64 p12, .int .i64 p13, .int .i64 p14, .int .i64 p15, .int .i64 p16, .int .i64 p17, .int .i64 p18, .int .i64 p19])), (2, some (.cells [.fn 116 [.p 3 0, .p 4 0, .p 5 0]])), (3, some (.cells [.int .i64 p20, .int .i64 p21, .int .i64 p22, .int .i64 p23, .int .i64 p24, .int .i64 p25, .int .i64 p26, .int .i64 p27, .int .i64 p28, .int .i64 p29, .int .i64 p30, .int .i64 p31, .int .i64 p32, .int .i64 p33, .int .i64 p34])), (4, some (.cells [.int .i64 p35, .int .i64 p36])), (5, some (.cells [.int .i64 s.2.2.2.2.2.2.1, .int .i64 s.2.2.2.2.2.2.2.1, .int .i64 s.2.2.2.2.2.2.2.2.1, .int .i64 s.2.2.2.2.2.2.2.2.2.1, .int .i64 s.2.2.2.2.2.2.2.2.2.2.1, .int .i64 s.2.2.2.2.2.2.2.2.2.2.2.1, .int .i64 s.2.2.2.2.2.2.2.2.2.2.2.2.1, .int .i64 s.2.2.2.2.2.2.2.2.2.2.2.2.2.1, .int .i64 s.2.2.2.2.2.2.2.2.2.2.2.2.2.2.1, .int .i64 s.2.2.2.2.2.2.2.2.2.2.2.2.2.2.2]))]) K ?_ ?_
    · exact SP_ren [] (_, _, _, _, _, _, _, _, _, _, _, _, _, _, _, _) h1 ⟨rfl, rfl, rfl, tv⟩ ⟨rfl, rfl, rfl, rfl, rfl, rfl, tv⟩ rfl
    rintro n ⟨x255, x256, x257, x258, x259, x260, x261, x262, x263, x264, x265, x266, x267, x268, x269, x270⟩ h1
    rcases n with _ | n
    · exact (nsome h1).elim
    replace h1 : offer_down_7.r0 K p1 p2 p3 p4 p10 p11 p12 p13 p14 p15 p16 p17 p18 p19 p20 p21 p22 p23 p24 p25 p26 p27 p28 p29 p30 p31 p32 p33 p34 p35 p36 (offer_down_7.l0 K p1 p2 p3 p4 p10 p11 p12 p13 p14 p15 p16 p17 p18 p19 p20 p21 p22 p23 p24 p25 p26 p27 p28 p29 p30 p31 p32 p33 p34 p35 p36 n) x255 x256 x257 x258 x259 x260 x261 x262 x263 x264 x265 x266 x267 x268 x269 x270 = some z1 := h1
    refine TC_seq ?_
    refine TC_seq ?_
    refine TC_reg ?_
    refine TL_ev env 3 rfl ⟨tv, ⟨tv, ⟨⟨tv, ⟨tv, tv⟩⟩, tv⟩⟩⟩ ?_
    refine TL_end ?_
    refine TE_go ?_
    refine TC_cond rfl (fun hb => ?_) (fun hb => ?_)
    · replace h1 := bif_t h1 hb
      refine TC_skip ?_
      refine TE_go ?_
      refine TC_seq ?_
      refine TC_blk ?_
      refine TC_seq ?_
      refine TC_reg ?_
      refine TL_ev env 2 rfl ⟨tv, ⟨tv, tv⟩⟩ ?_
      obtain ⟨⟨r336, r337, r338, r339, r340, r341, r342, r343, r344, r345, r346, r347, r348, r349, r350, r351⟩, hr, h1⟩ := bnd h1
      refine TL_callB [(0, 0), (1, 1), (2, 2), (3, 3), (4, 4), (5, 5)] (offer_subs_1.ok0 hr) offer_subs_1.fnb rfl ⟨tv, ⟨tv, tv⟩⟩ rfl ⟨.inr rfl, .inr rfl, .inr rfl, .inr rfl, .inr rfl, .inr rfl, tv⟩ rfl ?_
      refine TL_end ?_
      refine TE_go ?_
      refine TC_cond rfl (fun hb => ?_) (fun hb => ?_)
      · replace h1 := bif_t h1 hb
        refine TC_seq ?_
        refine TC_reg ?_
        refine TL_ev env 1 rfl ⟨tv, tv⟩ ?_
        refine TL_end ?_
        refine TE_go ?_
        refine TC_ret ?_
        refine tbr ?_
        refine tsr ?_
        refine tsr ?_
        refine tbr ?_
        refine tsr ?_
        refine tsr ?_
        obtain rfl := sinj h1
        obtain rfl := sinj h0
        exact TE_ret env rfl tv ⟨.inr rfl, .inr rfl, .inr rfl, .inr rfl, .inr rfl, .inr rfl, tv⟩
      · replace h1 := bif_f h1 hb
        refine TC_skip ?_
        refine tbn ?_
        refine TE_go ?_
        refine TC_reg ?_
        refine TL_ev env 3 rfl ⟨tv, ⟨⟨tv, ⟨tv, tv⟩⟩, ⟨tv, tv⟩⟩⟩ ?_
        refine TL_end ?_
        refine tsn ?_
        exact TE_nextr [] n (Nat.lt_succ_self n) (_, _, _, _, _, _, _, _, _, _, _, _, _, _, _, _) h1 ⟨rfl, rfl, rfl, tv⟩ ⟨rfl, rfl, rfl, rfl, rfl, rfl, tv⟩ rfl
    · replace h1 := bif_f h1 hb
      refine TC_exit ?_
      refine tsx ?_
      refine tsx ?_
      refine tbe ?_
      obtain rfl := sinj h1
      refine tsn ?_
      exact SP_ren [] (_, _, _, _, _, _, _, _, _, _, _, _, _, _, _) rfl tv ⟨rfl, rfl, rfl, rfl, rfl, rfl, tv⟩ rfl
  · rintro ⟨x208, x209, x210, x211, x212, x213, x214, x215, x216, x217, x218, x219, x220, x221, x222⟩ rfl
    refine TE_go ?_
    refine TC_seq ?_
    refine TC_reg ?_
    refine TL_ev env 1 rfl ⟨tv, tv⟩ ?_
    refine TL_end ?_
    refine TE_go ?_
    refine TC_ret ?_
    obtain rfl := sinj h0
    exact TE_ret env rfl tv ⟨.inr rfl, .inr rfl, .inr rfl, .inr rfl, .inr rfl, .inr rfl, tv⟩
theorem offer_down_7.ok0 {K : Nat} {p0 : Int} {p1 : Int} {p2 : Int} {p3 : Int} {p4 : Int} {p5 : Int} {p6 : Int} {p7 : Int} {p8 : Int} {p9 : Int} {p10 : Int} {p11 : Int} {p12 : Int} {p13 : Int} {p14 : Int} {p15 : Int} {p16 : Int} {p17 : Int} {p18 : Int} {p19 : Int} {p20 : Int} {p21 : Int} {p22 : Int} {p23 : Int} {p24 : Int} {p25 : Int} {p26 : Int} {p27 : Int} {p28 : Int} {p29 : Int} {p30 : Int} {p31 : Int} {p32 : Int} {p33 : Int} {p34 : Int} {p35 : Int} {p36 : Int} {p37 : Int} {p38 : Int} {p39 : Int} {p40 : Int} {p41 : Int} {p42 : Int} {p43 : Int} {p44 : Int} {p45 : Int} {p46 : Int} {q0 : Bool} {q1 : Int} {q2 : Int} {q3 : Int} {q4 : Int} {q5 : Int} {q6 : Int} {q7 : Int} {q8 : Int} {q9 : Int} {q10 : Int} {q11 : Int} {q12 : Int} {q13 : Int} {q14 : Int} {q15 : Int} (h0 : offer_down_7 K p0 p1 p2 p3 p4 p5 p6 p7 p8 p9 p10 p11 p12 p13 p14 p15 p16 p17 p18 p19 p20 p21 p22 p23 p24 p25 p26 p27 p28 p29 p30 p31 p32 p33 p34 p35 p36 p37 p38 p39 p40 p41 p42 p43 p44 p45 p46 = some (q0, q1, q2, q3, q4, q5, q6, q7, q8, q9, q10, q11, q12, q13, q14, q15)) : Fn Try.prog 117 [.int .i64 p0, .int .i64 p1, .fn 151 [.p 0 0, .p 1 0, .p 2 0]] [(0, some (.cells [.int .i64 p2, .int .i64 p3, .int .i64 p4, .int .i64 p5, .int .i64 p6, .int .i64 p7, .int .i64 p8, .int .i64 p9, .int .i64 p10, .int .i64 p11])), (1, some (.cells [.int .i64 p12, .int .i64 p13, .int .i64 p14, .int .i64 p15, .int .i64 p16, .int .i64 p17, .int .i64 p18, .int .i64 p19])), (2, some (.cells [.fn 116 [.p 3 0, .p 4 0, .p 5 0]])), (3, some (.cells [.int .i64 p20, .int .i64 p21, .int .i64 p22, .int .i64 p23, .int .i64 p24, .int .i64 p25, .int .i64 p26, .int .i64 p27, .int .i64 p28, .int .i64 p29, .int .i64 p30, .int .i64 p31, .int .i64 p32, .int .i64 p33, .int .i64 p34])), (4, some (.cells [.int .i64 p35, .int .i64 p36])), (5, some (.cells [.int .i64 p37, .int .i64 p38, .int .i64 p39, .int .i64 p40, .int .i64 p41, .int .i64 p42, .int .i64 p43, .int .i64 p44, .int .i64 p45, .int .i64 p46]))] (.bool q0) [(0, some (.cells [.int .i64 p2, .int .i64 p3, .int .i64 p4, .int .i64 q1, .int .i64 q2, .int .i64 q3, .int .i64 q4, .int .i64 q5, .int .i64 p10, .int .i64 p11])), (1, some (.cells [.int .i64 p12, .int .i64 p13, .int .i64 p14, .int .i64 p15, .int .i64 p16, .int .i64 p17, .int .i64 p18, .int .i64 p19])), (2, some (.cells [.fn 116 [.p 3 0, .p 4 0, .p 5 0]])), (3, some (.cells [.int .i64 p20, .int .i64 p21, .int .i64 p22, .int .i64 p23, .int .i64 p24, .int .i64 p25, .int .i64 p26, .int .i64 p27, .int .i64 p28, .int .i64 p29, .int .i64 p30, .int .i64 p31, .int .i64 p32, .int .i64 p33, .int .i64 p34])), (4, some (.cells [.int .i64 p35, .int .i64 p36])), (5, some (.cells [.int .i64 q6, .int .i64 q7, .int .i64 q8, .int .i64 q9, .int .i64 q10, .int .i64 q11, .int .i64 q12, .int .i64 q13, .int .i64 q14, .int .i64 q15]))] := offer_down_7.ok h0
theorem offer_down_7.fnb : fnb Try.prog 117 = true := fnb_of Try.func117 rfl
def offer_subs.res (_p0 : Int) (_p1 : Int) (_p2 : Int) (_p3 : Int) (_p4 : Int) (_p5 : Int) (_p6 : Int) (_p7 : Int) (_p8 : Int) (_p9 : Int) (_p10 : Int) (_p11 : Int) (_p12 : Int) (_p13 : Int) (_p14 : Int) (_p15 : Int) (_p16 : Int) (_p17 : Int) (_p18 : Int) (_p19 : Int) (_p20 : Int) (_p21 : Int) (_p22 : Int) (_p23 : Int) (_p24 : Int) (_p25 : Int) (_p26 : Int) (_p27 : Int) (_p28 : Int) (_p29 : Int) (_p30 : Int) (_p31 : Int) (_p32 : Int) (_p33 : Int) (_p34 : Int) (_p35 : Int) (_p36 : Int) (_p37 : Int) (_p38 : Int) (_p39 : Int) (_p40 : Int) (_p41 : Int) (_p42 : Int) (_p43 : Int) (_p44 : Int) : Bool × Int × Int × Int × Int × Int × Int × Int × Int × Int × Int → MV
  | (q0, _, _, _, _, _, _, _, _, _, _) => .bool q0
def offer_subs.out (_p0 : Int) (_p1 : Int) (_p2 : Int) (_p3 : Int) (_p4 : Int) (_p5 : Int) (_p6 : Int) (_p7 : Int) (_p8 : Int) (_p9 : Int) (_p10 : Int) (_p11 : Int) (_p12 : Int) (_p13 : Int) (_p14 : Int) (_p15 : Int) (_p16 : Int) (_p17 : Int) (p18 : Int) (p19 : Int) (p20 : Int) (p21 : Int) (p22 : Int) (p23 : Int) (p24 : Int) (p25 : Int) (p26 : Int) (p27 : Int) (p28 : Int) (p29 : Int) (p30 : Int) (p31 : Int) (p32 : Int) (p33 : Int) (p34 : Int) (_p35 : Int) (_p36 : Int) (_p37 : Int) (_p38 : Int) (_p39 : Int) (_p40 : Int) (_p41 : Int) (_p42 : Int) (_p43 : Int) (_p44 : Int) : Bool × Int × Int × Int × Int × Int × Int × Int × Int × Int × Int → List (Nat × Option MObj)
  | (_, q1, q2, q3, q4, q5, q6, q7, q8, q9, q10) => [(0, some (.cells [.int .i64 p18, .int .i64 p19, .int .i64 p20, .int .i64 p21, .int .i64 p22, .int .i64 p23, .int .i64 p24, .int .i64 p25, .int .i64 p26, .int .i64 p27, .int .i64 p28, .int .i64 p29, .int .i64 p30, .int .i64 p31, .int .i64 p32])), (1, some (.cells [.int .i64 p33, .int .i64 p34])), (2, some (.cells [.int .i64 q1, .int .i64 q2, .int .i64 q3, .int .i64 q4, .int .i64 q5, .int .i64 q6, .int .i64 q7, .int .i64 q8, .int .i64 q9, .int .i64 q10]))]
theorem offer_subs.ok {K : Nat} {p0 : Int} {p1 : Int} {p2 : Int} {p3 : Int} {p4 : Int} {p5 : Int} {p6 : Int} {p7 : Int} {p8 : Int} {p9 : Int} {p10 : Int} {p11 : Int} {p12 : Int} {p13 : Int} {p14 : Int} {p15 : Int} {p16 : Int} {p17 : Int} {p18 : Int} {p19 : Int} {p20 : Int} {p21 : Int} {p22 : Int} {p23 : Int} {p24 : Int} {p25 : Int} {p26 : Int} {p27 : Int} {p28 : Int} {p29 : Int} {p30 : Int} {p31 : Int} {p32 : Int} {p33 : Int} {p34 : Int} {p35 : Int} {p36 : Int} {p37 : Int} {p38 : Int} {p39 : Int} {p40 : Int} {p41 : Int} {p42 : Int} {p43 : Int} {p44 : Int} {r : Bool × Int × Int × Int × Int × Int × Int × Int × Int × Int × Int} (h0 : offer_subs K p0 p1 p2 p3 p4 p5 p6 p7 p8 p9 p10 p11 p12 p13 p14 p15 p16 p17 p18 p19 p20 p21 p22 p23 p24 p25 p26 p27 p28 p29 p30 p31 p32 p33 p34 p35 p36 p37 p38 p39 p40 p41 p42 p43 p44 = some r) : Fn Try.prog 122 [.fn 116 [.p 0 0, .p 1 0, .p 2 0], .agg [.int .i64 p0, .int .i64 p1, .int .i64 p2, .int .i64 p3, .int .i64 p4, .int .i64 p5, .int .i64 p6, .int .i64 p7, .int .i64 p8, .int .i64 p9], .agg [.int .i64 p10, .int .i64 p11, .int .i64 p12, .int .i64 p13, .int .i64 p14, .int .i64 p15, .int .i64 p16, .int .i64 p17]] [(0, some (.cells [.int .i64 p18, .int .i64 p19, .int .i64 p20, .int .i64 p21, .int .i64 p22, .int .i64 p23, .int .i64 p24, .int .i64 p25, .int .i64 p26, .int .i64 p27, .int .i64 p28, .int .i64 p29, .int .i64 p30, .int .i64 p31, .int .i64 p32])), (1, some (.cells [.int .i64 p33, .int .i64 p34])), (2, some (.cells [.int .i64 p35, .int .i64 p36, .int .i64 p37, .int .i64 p38, .int .i64 p39, .int .i64 p40, .int .i64 p41, .int .i64 p42, .int .i64 p43, .int .i64 p44]))] (offer_subs.res p0 p1 p2 p3 p4 p5 p6 p7 p8 p9 p10 p11 p12 p13 p14 p15 p16 p17 p18 p19 p20 p21 p22 p23 p24 p25 p26 p27 p28 p29 p30 p31 p32 p33 p34 p35 p36 p37 p38 p39 p40 p41 p42 p43 p44 r) (offer_subs.out p0 p1 p2 p3 p4 p5 p6 p7 p8 p9 p10 p11 p12 p13 p14 p15 p16 p17 p18 p19 p20 p21 p22 p23 p24 p25 p26 p27 p28 p29 p30 p31 p32 p33 p34 p35 p36 p37 p38 p39 p40 p41 p42 p43 p44 r) := by
  refine Fn_of Try.func122 rfl (Nat.le_of_ble_eq_true rfl) fun Γ => ?_
  refine TC_seq ?_
  refine TC_reg ?_
  refine TL_ev env 4 rfl ⟨tv, ⟨tv, ⟨tv, ⟨tv, tv⟩⟩⟩⟩ ?_
  refine TL_end ?_
  refine TE_go ?_
  refine TC_seq ?_
  refine TC_reg ?_
  refine TL_ev env 1 rfl ⟨⟨tv, ⟨tv, ⟨tv, tv⟩⟩⟩, tv⟩ ?_
  obtain ⟨⟨r17, r18, r19, r20, r21, r22, r23, r24, r25, r26, r27, r28, r29, r30, r31, r32⟩, hr, h0⟩ := bnd h0
  refine TL_callB [(0, 1004), (1, 1005), (2, 1003), (3, 0), (4, 1), (5, 2)] (offer_down_7.ok0 hr) offer_down_7.fnb rfl ⟨tv, ⟨tv, ⟨tv, ⟨tv, tv⟩⟩⟩⟩ rfl ⟨.inr rfl, .inr rfl, .inr rfl, .inr rfl, .inr rfl, .inr rfl, tv⟩ rfl ?_
  refine TL_ev env 1 rfl ⟨tv, tv⟩ ?_
  refine TL_end ?_
  refine TE_go ?_
  refine TC_ret ?_
  obtain rfl := sinj h0
  exact TE_ret env rfl tv ⟨.inr rfl, .inr rfl, .inr rfl, tv⟩
theorem offer_subs.ok0 {K : Nat} {p0 : Int} {p1 : Int} {p2 : Int} {p3 : Int} {p4 : Int} {p5 : Int} {p6 : Int} {p7 : Int} {p8 : Int} {p9 : Int} {p10 : Int} {p11 : Int} {p12 : Int} {p13 : Int} {p14 : Int} {p15 : Int} {p16 : Int} {p17 : Int} {p18 : Int} {p19 : Int} {p20 : Int} {p21 : Int} {p22 : Int} {p23 : Int} {p24 : Int} {p25 : Int} {p26 : Int} {p27 : Int} {p28 : Int} {p29 : Int} {p30 : Int} {p31 : Int} {p32 : Int} {p33 : Int} {p34 : Int} {p35 : Int} {p36 : Int} {p37 : Int} {p38 : Int} {p39 : Int} {p40 : Int} {p41 : Int} {p42 : Int} {p43 : Int} {p44 : Int} {q0 : Bool} {q1 : Int} {q2 : Int} {q3 : Int} {q4 : Int} {q5 : Int} {q6 : Int} {q7 : Int} {q8 : Int} {q9 : Int} {q10 : Int} (h0 : offer_subs K p0 p1 p2 p3 p4 p5 p6 p7 p8 p9 p10 p11 p12 p13 p14 p15 p16 p17 p18 p19 p20 p21 p22 p23 p24 p25 p26 p27 p28 p29 p30 p31 p32 p33 p34 p35 p36 p37 p38 p39 p40 p41 p42 p43 p44 = some (q0, q1, q2, q3, q4, q5, q6, q7, q8, q9, q10)) : Fn Try.prog 122 [.fn 116 [.p 0 0, .p 1 0, .p 2 0], .agg [.int .i64 p0, .int .i64 p1, .int .i64 p2, .int .i64 p3, .int .i64 p4, .int .i64 p5, .int .i64 p6, .int .i64 p7, .int .i64 p8, .int .i64 p9], .agg [.int .i64 p10, .int .i64 p11, .int .i64 p12, .int .i64 p13, .int .i64 p14, .int .i64 p15, .int .i64 p16, .int .i64 p17]] [(0, some (.cells [.int .i64 p18, .int .i64 p19, .int .i64 p20, .int .i64 p21, .int .i64 p22, .int .i64 p23, .int .i64 p24, .int .i64 p25, .int .i64 p26, .int .i64 p27, .int .i64 p28, .int .i64 p29, .int .i64 p30, .int .i64 p31, .int .i64 p32])), (1, some (.cells [.int .i64 p33, .int .i64 p34])), (2, some (.cells [.int .i64 p35, .int .i64 p36, .int .i64 p37, .int .i64 p38, .int .i64 p39, .int .i64 p40, .int .i64 p41, .int .i64 p42, .int .i64 p43, .int .i64 p44]))] (.bool q0) [(0, some (.cells [.int .i64 p18, .int .i64 p19, .int .i64 p20, .int .i64 p21, .int .i64 p22, .int .i64 p23, .int .i64 p24, .int .i64 p25, .int .i64 p26, .int .i64 p27, .int .i64 p28, .int .i64 p29, .int .i64 p30, .int .i64 p31, .int .i64 p32])), (1, some (.cells [.int .i64 p33, .int .i64 p34])), (2, some (.cells [.int .i64 q1, .int .i64 q2, .int .i64 q3, .int .i64 q4, .int .i64 q5, .int .i64 q6, .int .i64 q7, .int .i64 q8, .int .i64 q9, .int .i64 q10]))] := offer_subs.ok h0
theorem offer_subs.fnb : fnb Try.prog 122 = true := fnb_of Try.func122 rfl
def offer_Choose_2_1_1.res (_p0 : Int) (_p1 : Int) (_p2 : Int) (_p3 : Int) (_p4 : Int) (_p5 : Int) (_p6 : Int) (_p7 : Int) (_p8 : Int) (_p9 : Int) (_p10 : Int) (_p11 : Int) (_p12 : Int) (_p13 : Int) (_p14 : Int) (_p15 : Int) (_p16 : Int) (_p17 : Int) (_p18 : Int) (_p19 : Int) (_p20 : Int) (_p21 : Int) (_p22 : Int) (_p23 : Int) (_p24 : Int) (_p25 : Int) (_p26 : Int) (_p27 : Int) (_p28 : Int) (_p29 : Int) : Bool × Int × Int × Int × Int × Int × Int × Int × Int × Int × Int → MV
  | (q0, _, _, _, _, _, _, _, _, _, _) => .bool q0
def offer_Choose_2_1_1.out (_p0 : Int) (p1 : Int) (p2 : Int) (p3 : Int) (p4 : Int) (p5 : Int) (p6 : Int) (p7 : Int) (p8 : Int) (p9 : Int) (p10 : Int) (p11 : Int) (p12 : Int) (p13 : Int) (p14 : Int) (p15 : Int) (p16 : Int) (p17 : Int) (p18 : Int) (p19 : Int) (_p20 : Int) (_p21 : Int) (_p22 : Int) (_p23 : Int) (_p24 : Int) (_p25 : Int) (_p26 : Int) (_p27 : Int) (_p28 : Int) (_p29 : Int) : Bool × Int × Int × Int × Int × Int × Int × Int × Int × Int × Int → List (Nat × Option MObj)
  | (_, q1, q2, q3, q4, q5, q6, q7, q8, q9, q10) => [(0, some (.cells [.int .i64 p1])), (1, some (.cells [.int .i64 p2])), (2, some (.cells [.int .i64 p3, .int .i64 p4, .int .i64 p5, .int .i64 p6, .int .i64 p7, .int .i64 p8, .int .i64 p9, .int .i64 p10, .int .i64 p11, .int .i64 p12, .int .i64 p13, .int .i64 p14, .int .i64 p15, .int .i64 p16, .int .i64 p17])), (3, some (.cells [.fn 116 [.p 2 0, .p 4 0, .p 5 0]])), (4, some (.cells [.int .i64 p18, .int .i64 p19])), (5, some (.cells [.int .i64 q1, .int .i64 q2, .int .i64 q3, .int .i64 q4, .int .i64 q5, .int .i64 q6, .int .i64 q7, .int .i64 q8, .int .i64 q9, .int .i64 q10]))]
theorem offer_Choose_2_1_1.ok {K : Nat} {p0 : Int} {p1 : Int} {p2 : Int} {p3 : Int} {p4 : Int} {p5 : Int} {p6 : Int} {p7 : Int} {p8 : Int} {p9 : Int} {p10 : Int} {p11 : Int} {p12 : Int} {p13 : Int} {p14 : Int} {p15 : Int} {p16 : Int} {p17 : Int} {p18 : Int} {p19 : Int} {p20 : Int} {p21 : Int} {p22 : Int} {p23 : Int} {p24 : Int} {p25 : Int} {p26 : Int} {p27 : Int} {p28 : Int} {p29 : Int} {r : Bool × Int × Int × Int × Int × Int × Int × Int × Int × Int × Int} (h0 : offer_Choose_2_1_1 K p0 p1 p2 p3 p4 p5 p6 p7 p8 p9 p10 p11 p12 p13 p14 p15 p16 p17 p18 p19 p20 p21 p22 p23 p24 p25 p26 p27 p28 p29 = some r) : Fn Try.prog 120 [.int .i64 p0, .p 0 0, .p 1 0, .p 2 0, .p 3 0] [(0, some (.cells [.int .i64 p1])), (1, some (.cells [.int .i64 p2])), (2, some (.cells [.int .i64 p3, .int .i64 p4, .int .i64 p5, .int .i64 p6, .int .i64 p7, .int .i64 p8, .int .i64 p9, .int .i64 p10, .int .i64 p11, .int .i64 p12, .int .i64 p13, .int .i64 p14, .int .i64 p15, .int .i64 p16, .int .i64 p17])), (3, some (.cells [.fn 116 [.p 2 0, .p 4 0, .p 5 0]])), (4, some (.cells [.int .i64 p18, .int .i64 p19])), (5, some (.cells [.int .i64 p20, .int .i64 p21, .int .i64 p22, .int .i64 p23, .int .i64 p24, .int .i64 p25, .int .i64 p26, .int .i64 p27, .int .i64 p28, .int .i64 p29]))] (offer_Choose_2_1_1.res p0 p1 p2 p3 p4 p5 p6 p7 p8 p9 p10 p11 p12 p13 p14 p15 p16 p17 p18 p19 p20 p21 p22 p23 p24 p25 p26 p27 p28 p29 r) (offer_Choose_2_1_1.out p0 p1 p2 p3 p4 p5 p6 p7 p8 p9 p10 p11 p12 p13 p14 p15 p16 p17 p18 p19 p20 p21 p22 p23 p24 p25 p26 p27 p28 p29 r) := by
  refine Fn_of Try.func120 rfl (Nat.le_of_ble_eq_true rfl) fun Γ => ?_
  refine TC_seq ?_
  refine TC_reg ?_
  refine TL_ev env 1 rfl ⟨tv, tv⟩ ?_
  refine TL_end ?_
  refine TE_go ?_
  refine TC_seq ?_
  refine TC_reg ?_
  refine TL_ev env 6 rfl ⟨⟨tv, tv⟩, ⟨⟨tv, tv⟩, ⟨tv, ⟨⟨tv, ⟨tv, ⟨tv, tv⟩⟩⟩, ⟨tv, ⟨⟨tv, tv⟩, tv⟩⟩⟩⟩⟩⟩ ?_
  refine TL_end ?_
  refine TE_go ?_
  refine TC_seq ?_
  refine TC_seq ?_
  refine TC_reg ?_
  refine TL_ev env 2 rfl ⟨⟨tv, tv⟩, ⟨⟨tv, ⟨tv, tv⟩⟩, tv⟩⟩ ?_
  refine TL_end ?_
  refine TE_go ?_
  refine TC_cond rfl (fun hb => ?_) (fun hb => ?_)
  · replace h0 := bif_t h0 hb
    refine TC_seq ?_
    obtain ⟨z1, h1, h0⟩ := bnd h0
    refine TC_cut (α := Bool × Int × Int × Int × Int × Int × Int × Int × Int × Int × Int) (fun s => z1 = s) (fun s => [(6, .bool s.1)]) (fun s => [(0, some (.cells [.int .i64 p1])), (1, some (.cells [.int .i64 p2])), (2, some (.cells [.int .i64 p3, .int .i64 p4, .int .i64 p5, .int .i64 p6, .int .i64 p7, .int .i64 p8, .int .i64 p9, .int .i64 p10, .int .i64 p11, .int .i64 p12, .int .i64 p13, .int .i64 p14, .int .i64 p15, .int .i64 p16, .int .i64 p17])), (3, some (.cells [.fn 116 [.p 2 0, .p 4 0, .p 5 0]])), (4, some (.cells [.int .i64 p18, .int .i64 p19])), (5, some (.cells [.int .i64 s.2.1, .int .i64 s.2.2.1, .int .i64 s.2.2.2.1, .int .i64 s.2.2.2.2.1, .int .i64 s.2.2.2.2.2.1, .int .i64 s.2.2.2.2.2.2.1, .int .i64 s.2.2.2.2.2.2.2.1, .int .i64 s.2.2.2.2.2.2.2.2.1, .int .i64 s.2.2.2.2.2.2.2.2.2.1, .int .i64 s.2.2.2.2.2.2.2.2.2.2]))]) ?_ ?_
    · refine TC_reg ?_
      refine TL_ev env 5 rfl ⟨tv, ⟨⟨tv, tv⟩, ⟨tv, ⟨⟨tv, ⟨tv, tv⟩⟩, ⟨tv, tv⟩⟩⟩⟩⟩ ?_
      refine TL_split 18 rfl (fun hb => ?_) (fun hb => ?_)
      · replace h1 := bif_t h1 hb
        refine TL_gt rfl rfl rfl rfl ?_
        refine TL_ev env 1 rfl ⟨⟨tv, tv⟩, tv⟩ ?_
        refine TL_gt rfl rfl rfl rfl ?_
        refine TL_ev env 1 rfl ⟨⟨tv, tv⟩, tv⟩ ?_
        refine TL_gt rfl rfl rfl rfl ?_
        refine TL_ev env 1 rfl ⟨tv, tv⟩ ?_
        refine TL_gt rfl rfl rfl rfl ?_
        refine TL_ev env 1 rfl ⟨⟨tv, tv⟩, tv⟩ ?_
        refine TL_gt rfl rfl rfl rfl ?_
        obtain ⟨⟨r112, r113, r114, r115, r116, r117, r118, r119, r120, r121, r122⟩, hr, h1⟩ := bnd h1
        refine TL_callB [(0, 2), (1, 4), (2, 5)] (offer_laps.ok0 hr) offer_laps.fnb rfl ⟨tv, ⟨tv, ⟨tv, ⟨tv, tv⟩⟩⟩⟩ rfl ⟨.inr rfl, .inr rfl, .inr rfl, tv⟩ rfl ?_
        refine TL_ev env 2 rfl ⟨⟨tv, ⟨tv, tv⟩⟩, ⟨tv, tv⟩⟩ ?_
        refine TL_end ?_
        obtain rfl := sinj h1
        refine tsn ?_
        exact SP_ren [] (_, _, _, _, _, _, _, _, _, _, _) rfl ⟨rfl, tv⟩ ⟨rfl, rfl, rfl, rfl, rfl, rfl, tv⟩ rfl
      · replace h1 := bif_f h1 hb
        refine TL_gf (.bool false) rfl rfl rfl rfl rfl (by decide) ?_
        refine TL_gf (.bool false) rfl rfl rfl rfl rfl (by decide) ?_
        refine TL_gf (.bool false) rfl rfl rfl rfl rfl (by decide) ?_
        refine TL_gf (.bool false) rfl rfl rfl rfl rfl (by decide) ?_
        refine TL_gf (.bool false) rfl rfl rfl rfl rfl (by decide) ?_
        refine TL_ev env 2 rfl ⟨⟨tv, ⟨fun e => e, tv⟩⟩, ⟨tv, tv⟩⟩ ?_
        refine TL_end ?_
        obtain rfl := sinj h1
        refine tsn ?_
        exact SP_ren [] (_, _, _, _, _, _, _, _, _, _, _) rfl ⟨rfl, tv⟩ ⟨rfl, rfl, rfl, rfl, rfl, rfl, tv⟩ rfl
    · rintro ⟨x100, x101, x102, x103, x104, x105, x106, x107, x108, x109, x110⟩ rfl
      refine TE_go ?_
      refine TC_ret ?_
      refine tsr ?_
      obtain rfl := sinj h0
      exact TE_ret env rfl tv ⟨.inr rfl, .inr rfl, .inr rfl, .inr rfl, .inr rfl, .inr rfl, tv⟩
  · replace h0 := bif_f h0 hb
    refine TC_skip ?_
    refine TE_go ?_
    refine TC_seq ?_
    obtain ⟨z1, h1, h0⟩ := bnd h0
    refine TC_cut (α := Bool × Int × Int × Int × Int × Int × Int × Int × Int × Int × Int) (fun s => z1 = s) (fun s => [(6, .bool s.1)]) (fun s => [(0, some (.cells [.int .i64 p1])), (1, some (.cells [.int .i64 p2])), (2, some (.cells [.int .i64 p3, .int .i64 p4, .int .i64 p5, .int .i64 p6, .int .i64 p7, .int .i64 p8, .int .i64 p9, .int .i64 p10, .int .i64 p11, .int .i64 p12, .int .i64 p13, .int .i64 p14, .int .i64 p15, .int .i64 p16, .int .i64 p17])), (3, some (.cells [.fn 116 [.p 2 0, .p 4 0, .p 5 0]])), (4, some (.cells [.int .i64 p18, .int .i64 p19])), (5, some (.cells [.int .i64 s.2.1, .int .i64 s.2.2.1, .int .i64 s.2.2.2.1, .int .i64 s.2.2.2.2.1, .int .i64 s.2.2.2.2.2.1, .int .i64 s.2.2.2.2.2.2.1, .int .i64 s.2.2.2.2.2.2.2.1, .int .i64 s.2.2.2.2.2.2.2.2.1, .int .i64 s.2.2.2.2.2.2.2.2.2.1, .int .i64 s.2.2.2.2.2.2.2.2.2.2]))]) ?_ ?_
    · refine TC_reg ?_
      refine TL_ev env 5 rfl ⟨tv, ⟨⟨tv, tv⟩, ⟨tv, ⟨⟨tv, ⟨tv, tv⟩⟩, ⟨tv, tv⟩⟩⟩⟩⟩ ?_
      refine TL_split 29 rfl (fun hb => ?_) (fun hb => ?_)
      · replace h1 := bif_t h1 hb
        refine TL_gt rfl rfl rfl rfl ?_
        refine TL_ev env 1 rfl ⟨⟨tv, tv⟩, tv⟩ ?_
        refine TL_gt rfl rfl rfl rfl ?_
        refine TL_ev env 1 rfl ⟨⟨tv, tv⟩, tv⟩ ?_
        refine TL_gt rfl rfl rfl rfl ?_
        refine TL_ev env 1 rfl ⟨tv, tv⟩ ?_
        refine TL_gt rfl rfl rfl rfl ?_
        refine TL_ev env 1 rfl ⟨⟨tv, tv⟩, tv⟩ ?_
        refine TL_gt rfl rfl rfl rfl ?_
        obtain ⟨⟨r146, r147, r148, r149, r150, r151, r152, r153, r154, r155, r156⟩, hr, h1⟩ := bnd h1
        refine TL_callB [(0, 2), (1, 4), (2, 5)] (offer_subs.ok0 hr) offer_subs.fnb rfl ⟨tv, ⟨tv, ⟨tv, ⟨tv, tv⟩⟩⟩⟩ rfl ⟨.inr rfl, .inr rfl, .inr rfl, tv⟩ rfl ?_
        refine TL_ev env 2 rfl ⟨⟨tv, ⟨tv, tv⟩⟩, ⟨tv, tv⟩⟩ ?_
        refine TL_end ?_
        obtain rfl := sinj h1
        refine tsn ?_
        exact SP_ren [] (_, _, _, _, _, _, _, _, _, _, _) rfl ⟨rfl, tv⟩ ⟨rfl, rfl, rfl, rfl, rfl, rfl, tv⟩ rfl
      · replace h1 := bif_f h1 hb
        refine TL_gf (.bool false) rfl rfl rfl rfl rfl (by decide) ?_
        refine TL_gf (.bool false) rfl rfl rfl rfl rfl (by decide) ?_
        refine TL_gf (.bool false) rfl rfl rfl rfl rfl (by decide) ?_
        refine TL_gf (.bool false) rfl rfl rfl rfl rfl (by decide) ?_
        refine TL_gf (.bool false) rfl rfl rfl rfl rfl (by decide) ?_
        refine TL_ev env 2 rfl ⟨⟨tv, ⟨fun e => e, tv⟩⟩, ⟨tv, tv⟩⟩ ?_
        refine TL_end ?_
        obtain rfl := sinj h1
        refine tsn ?_
        exact SP_ren [] (_, _, _, _, _, _, _, _, _, _, _) rfl ⟨rfl, tv⟩ ⟨rfl, rfl, rfl, rfl, rfl, rfl, tv⟩ rfl
    · rintro ⟨x134, x135, x136, x137, x138, x139, x140, x141, x142, x143, x144⟩ rfl
      refine TE_go ?_
      refine TC_ret ?_
      obtain rfl := sinj h0
      exact TE_ret env rfl tv ⟨.inr rfl, .inr rfl, .inr rfl, .inr rfl, .inr rfl, .inr rfl, tv⟩
theorem offer_Choose_2_1_1.ok0 {K : Nat} {p0 : Int} {p1 : Int} {p2 : Int} {p3 : Int} {p4 : Int} {p5 : Int} {p6 : Int} {p7 : Int} {p8 : Int} {p9 : Int} {p10 : Int} {p11 : Int} {p12 : Int} {p13 : Int} {p14 : Int} {p15 : Int} {p16 : Int} {p17 : Int} {p18 : Int} {p19 : Int} {p20 : Int} {p21 : Int} {p22 : Int} {p23 : Int} {p24 : Int} {p25 : Int} {p26 : Int} {p27 : Int} {p28 : Int} {p29 : Int} {q0 : Bool} {q1 : Int} {q2 : Int} {q3 : Int} {q4 : Int} {q5 : Int} {q6 : Int} {q7 : Int} {q8 : Int} {q9 : Int} {q10 : Int} (h0 : offer_Choose_2_1_1 K p0 p1 p2 p3 p4 p5 p6 p7 p8 p9 p10 p11 p12 p13 p14 p15 p16 p17 p18 p19 p20 p21 p22 p23 p24 p25 p26 p27 p28 p29 = some (q0, q1, q2, q3, q4, q5, q6, q7, q8, q9, q10)) : Fn Try.prog 120 [.int .i64 p0, .p 0 0, .p 1 0, .p 2 0, .p 3 0] [(0, some (.cells [.int .i64 p1])), (1, some (.cells [.int .i64 p2])), (2, some (.cells [.int .i64 p3, .int .i64 p4, .int .i64 p5, .int .i64 p6, .int .i64 p7, .int .i64 p8, .int .i64 p9, .int .i64 p10, .int .i64 p11, .int .i64 p12, .int .i64 p13, .int .i64 p14, .int .i64 p15, .int .i64 p16, .int .i64 p17])), (3, some (.cells [.fn 116 [.p 2 0, .p 4 0, .p 5 0]])), (4, some (.cells [.int .i64 p18, .int .i64 p19])), (5, some (.cells [.int .i64 p20, .int .i64 p21, .int .i64 p22, .int .i64 p23, .int .i64 p24, .int .i64 p25, .int .i64 p26, .int .i64 p27, .int .i64 p28, .int .i64 p29]))] (.bool q0) [(0, some (.cells [.int .i64 p1])), (1, some (.cells [.int .i64 p2])), (2, some (.cells [.int .i64 p3, .int .i64 p4, .int .i64 p5, .int .i64 p6, .int .i64 p7, .int .i64 p8, .int .i64 p9, .int .i64 p10, .int .i64 p11, .int .i64 p12, .int .i64 p13, .int .i64 p14, .int .i64 p15, .int .i64 p16, .int .i64 p17])), (3, some (.cells [.fn 116 [.p 2 0, .p 4 0, .p 5 0]])), (4, some (.cells [.int .i64 p18, .int .i64 p19])), (5, some (.cells [.int .i64 q1, .int .i64 q2, .int .i64 q3, .int .i64 q4, .int .i64 q5, .int .i64 q6, .int .i64 q7, .int .i64 q8, .int .i64 q9, .int .i64 q10]))] := offer_Choose_2_1_1.ok h0
theorem offer_Choose_2_1_1.fnb : fnb Try.prog 120 = true := fnb_of Try.func120 rfl
def offer_down_8.res (_p0 : Int) (_p1 : Int) (_p2 : Int) (_p3 : Int) (_p4 : Int) (_p5 : Int) (_p6 : Int) (_p7 : Int) (_p8 : Int) (_p9 : Int) (_p10 : Int) (_p11 : Int) (_p12 : Int) (_p13 : Int) (_p14 : Int) (_p15 : Int) (_p16 : Int) (_p17 : Int) (_p18 : Int) (_p19 : Int) (_p20 : Int) (_p21 : Int) (_p22 : Int) (_p23 : Int) (_p24 : Int) (_p25 : Int) (_p26 : Int) (_p27 : Int) (_p28 : Int) (_p29 : Int) (_p30 : Int) : Bool × Int × Int × Int × Int × Int × Int × Int × Int × Int × Int → MV
  | (q0, _, _, _, _, _, _, _, _, _, _) => .bool q0
def offer_down_8.out (_p0 : Int) (_p1 : Int) (p2 : Int) (p3 : Int) (p4 : Int) (p5 : Int) (p6 : Int) (p7 : Int) (p8 : Int) (p9 : Int) (p10 : Int) (p11 : Int) (p12 : Int) (p13 : Int) (p14 : Int) (p15 : Int) (p16 : Int) (p17 : Int) (p18 : Int) (p19 : Int) (p20 : Int) (_p21 : Int) (_p22 : Int) (_p23 : Int) (_p24 : Int) (_p25 : Int) (_p26 : Int) (_p27 : Int) (_p28 : Int) (_p29 : Int) (_p30 : Int) : Bool × Int × Int × Int × Int × Int × Int × Int × Int × Int × Int → List (Nat × Option MObj)
  | (_, q1, q2, q3, q4, q5, q6, q7, q8, q9, q10) => [(0, some (.cells [.int .i64 p2])), (1, some (.cells [.int .i64 p3])), (2, some (.cells [.int .i64 p4, .int .i64 p5, .int .i64 p6, .int .i64 p7, .int .i64 p8, .int .i64 p9, .int .i64 p10, .int .i64 p11, .int .i64 p12, .int .i64 p13, .int .i64 p14, .int .i64 p15, .int .i64 p16, .int .i64 p17, .int .i64 p18])), (3, some (.cells [.fn 116 [.p 2 0, .p 4 0, .p 5 0]])), (4, some (.cells [.int .i64 p19, .int .i64 p20])), (5, some (.cells [.int .i64 q1, .int .i64 q2, .int .i64 q3, .int .i64 q4, .int .i64 q5, .int .i64 q6, .int .i64 q7, .int .i64 q8, .int .i64 q9, .int .i64 q10]))]
theorem offer_down_8.ok {K : Nat} {p0 : Int} {p1 : Int} {p2 : Int} {p3 : Int} {p4 : Int} {p5 : Int} {p6 : Int} {p7 : Int} {p8 : Int} {p9 : Int} {p10 : Int} {p11 : Int} {p12 : Int} {p13 : Int} {p14 : Int} {p15 : Int} {p16 : Int} {p17 : Int} {p18 : Int} {p19 : Int} {p20 : Int} {p21 : Int} {p22 : Int} {p23 : Int} {p24 : Int} {p25 : Int} {p26 : Int} {p27 : Int} {p28 : Int} {p29 : Int} {p30 : Int} {r : Bool × Int × Int × Int × Int × Int × Int × Int × Int × Int × Int} (h0 : offer_down_8 K p0 p1 p2 p3 p4 p5 p6 p7 p8 p9 p10 p11 p12 p13 p14 p15 p16 p17 p18 p19 p20 p21 p22 p23 p24 p25 p26 p27 p28 p29 p30 = some r) : Fn Try.prog 117 [.int .i64 p0, .int .i64 p1, .fn 120 [.p 0 0, .p 1 0, .p 2 0, .p 3 0]] [(0, some (.cells [.int .i64 p2])), (1, some (.cells [.int .i64 p3])), (2, some (.cells [.int .i64 p4, .int .i64 p5, .int .i64 p6, .int .i64 p7, .int .i64 p8, .int .i64 p9, .int .i64 p10, .int .i64 p11, .int .i64 p12, .int .i64 p13, .int .i64 p14, .int .i64 p15, .int .i64 p16, .int .i64 p17, .int .i64 p18])), (3, some (.cells [.fn 116 [.p 2 0, .p 4 0, .p 5 0]])), (4, some (.cells [.int .i64 p19, .int .i64 p20])), (5, some (.cells [.int .i64 p21, .int .i64 p22, .int .i64 p23, .int .i64 p24, .int .i64 p25, .int .i64 p26, .int .i64 p27, .int .i64 p28, .int .i64 p29, .int .i64 p30]))] (offer_down_8.res p0 p1 p2 p3 p4 p5 p6 p7 p8 p9 p10 p11 p12 p13 p14 p15 p16 p17 p18 p19 p20 p21 p22 p23 p24 p25 p26 p27 p28 p29 p30 r) (offer_down_8.out p0 p1 p2 p3 p4 p5 p6 p7 p8 p9 p10 p11 p12 p13 p14 p15 p16 p17 p18 p19 p20 p21 p22 p23 p24 p25 p26 p27 p28 p29 p30 r) := by
  refine Fn_of Try.func117 rfl (Nat.le_of_ble_eq_true rfl) fun Γ => ?_
  refine TC_seq ?_
  refine TC_reg ?_
  refine TL_ev env 1 rfl ⟨tv, tv⟩ ?_
  refine TL_end ?_
  refine TE_go ?_
  refine TC_seq ?_
  refine TC_seq ?_
  refine TC_reg ?_
  refine TL_ev env 2 rfl ⟨tv, ⟨tv, tv⟩⟩ ?_
  refine TL_end ?_
  refine TE_go ?_
  obtain ⟨z1, h1, h0⟩ := bnd h0
  refine TC_cut (α := Int × Int × Int × Int × Int × Int × Int × Int × Int × Int) (fun s => z1 = .inl s) (fun s => []) (fun s => [(0, some (.cells [.int .i64 p2])), (1, some (.cells [.int .i64 p3])), (2, some (.cells [.int .i64 p4, .int .i64 p5, .int .i64 p6, .int .i64 p7, .int .i64 p8, .int .i64 p9, .int .i64 p10, .int .i64 p11, .int .i64 p12, .int .i64 p13, .int .i64 p14, .int .i64 p15, .int .i64 p16, .int .i64 p17, .int .i64 p18])), (3, some (.cells [.fn 116 [.p 2 0, .p 4 0, .p 5 0]])), (4, some (.cells [.int .i64 p19, .int .i64 p20])), (5, some (.cells [.int .i64 s.1, .int .i64 s.2.1, .int .i64 s.2.2.1, .int .i64 s.2.2.2.1, .int .i64 s.2.2.2.2.1, .int .i64 s.2.2.2.2.2.1, .int .i64 s.2.2.2.2.2.2.1, .int .i64 s.2.2.2.2.2.2.2.1, .int .i64 s.2.2.2.2.2.2.2.2.1, .int .i64 s.2.2.2.2.2.2.2.2.2]))]) ?_ ?_
  · refine TC_blk ?_
    refine TC_loop (α := Int × Int × Int × Int × Int × Int × Int × Int × Int × Int × Int) (fun n s => offer_down_8.l0 K p1 p2 p3 p4 p5 p6 p7 p8 p9 p10 p11 p12 p13 p14 p15 p16 p17 p18 p19 p20 n s.1 s.2.1 s.2.2.1 s.2.2.2.1 s.2.2.2.2.1 s.2.2.2.2.2.1 s.2.2.2.2.2.2.1 s.2.2.2.2.2.2.2.1 s.2.2.2.2.2.2.2.2.1 s.2.2.2.2.2.2.2.2.2.1 s.2.2.2.2.2.2.2.2.2.2 = some z1) (fun s => [(1, .int .i64 p1), (2, .fn 120 [.p 0 0, .p 1 0, .p 2 0, .p 3 0]), (7, .int .i64 s.1)]) (fun s => [(0, some (.cells [.int .i64 p2])), (1, some (.cells [.int .i64 p3])), (2, some (.cells [.int .i64 p4, .int .i64 p5, .int .i64 p6, .int .i64 p7, .int .i64 p8, .int .i64 p9, .int .i64 p10, .int .i64 p11, .int .i64 p12, .int .i64 p13, .int .i64 p14, .int .i64 p15, .int .i64 p16, .int .i64 p17, .int .i64 p18])), (3, some (.cells [.fn 116 [.p 2 0, .p 4 0, .p 5 0]])), (4, some (.cells [.int .i64 p19, .int .i64 p20])), (5, some (.cells [.int .i64 s.2.1, .int .i64 s.2.2.1, .int .i64 s.2.2.2.1, .int .i64 s.2.2.2.2.1, .int .i64 s.2.2.2.2.2.1, .int .i64 s.2.2.2.2.2.2.1, .int .i64 s.2.2.2.2.2.2.2.1, .int .i64 s.2.2.2.2.2.2.2.2.1, .int .i64 s.2.2.2.2.2.2.2.2.2.1, .int .i64 s.2.2.2.2.2.2.2.2.2.2]))]) K ?_ ?_
    · exact SP_ren [] (_, _, _, _, _, _, _, _, _, _, _) h1 ⟨rfl, rfl, rfl, tv⟩ ⟨rfl, rfl, rfl, rfl, rfl, rfl, tv⟩ rfl
    rintro n ⟨x175, x176, x177, x178, x179, x180, x181, x182, x183, x184, x185⟩ h1
    rcases n with _ | n
    · exact (nsome h1).elim
    replace h1 : offer_down_8.r0 K p1 p2 p3 p4 p5 p6 p7 p8 p9 p10 p11 p12 p13 p14 p15 p16 p17 p18 p19 p20 (offer_down_8.l0 K p1 p2 p3 p4 p5 p6 p7 p8 p9 p10 p11 p12 p13 p14 p15 p16 p17 p18 p19 p20 n) x175 x176 x177 x178 x179 x180 x181 x182 x183 x184 x185 = some z1 := h1
    refine TC_seq ?_
    refine TC_seq ?_
    refine TC_reg ?_
    refine TL_ev env 3 rfl ⟨tv, ⟨tv, ⟨⟨tv, ⟨tv, tv⟩⟩, tv⟩⟩⟩ ?_
    refine TL_end ?_
    refine TE_go ?_
    refine TC_cond rfl (fun hb => ?_) (fun hb => ?_)
    · replace h1 := bif_t h1 hb
      refine TC_skip ?_
      refine TE_go ?_
      refine TC_seq ?_
      refine TC_blk ?_
      refine TC_seq ?_
      refine TC_reg ?_
      refine TL_ev env 2 rfl ⟨tv, ⟨tv, tv⟩⟩ ?_
      obtain ⟨⟨r231, r232, r233, r234, r235, r236, r237, r238, r239, r240, r241⟩, hr, h1⟩ := bnd h1
      refine TL_callB [(0, 0), (1, 1), (2, 2), (3, 3), (4, 4), (5, 5)] (offer_Choose_2_1_1.ok0 hr) offer_Choose_2_1_1.fnb rfl ⟨tv, ⟨tv, tv⟩⟩ rfl ⟨.inr rfl, .inr rfl, .inr rfl, .inr rfl, .inr rfl, .inr rfl, tv⟩ rfl ?_
      refine TL_end ?_
      refine TE_go ?_
      refine TC_cond rfl (fun hb => ?_) (fun hb => ?_)
      · replace h1 := bif_t h1 hb
        refine TC_seq ?_
        refine TC_reg ?_
        refine TL_ev env 1 rfl ⟨tv, tv⟩ ?_
        refine TL_end ?_
        refine TE_go ?_
        refine TC_ret ?_
        refine tbr ?_
        refine tsr ?_
        refine tsr ?_
        refine tbr ?_
        refine tsr ?_
        refine tsr ?_
        obtain rfl := sinj h1
        obtain rfl := sinj h0
        exact TE_ret env rfl tv ⟨.inr rfl, .inr rfl, .inr rfl, .inr rfl, .inr rfl, .inr rfl, tv⟩
      · replace h1 := bif_f h1 hb
        refine TC_skip ?_
        refine tbn ?_
        refine TE_go ?_
        refine TC_reg ?_
        refine TL_ev env 3 rfl ⟨tv, ⟨⟨tv, ⟨tv, tv⟩⟩, ⟨tv, tv⟩⟩⟩ ?_
        refine TL_end ?_
        refine tsn ?_
        exact TE_nextr [] n (Nat.lt_succ_self n) (_, _, _, _, _, _, _, _, _, _, _) h1 ⟨rfl, rfl, rfl, tv⟩ ⟨rfl, rfl, rfl, rfl, rfl, rfl, tv⟩ rfl
    · replace h1 := bif_f h1 hb
      refine TC_exit ?_
      refine tsx ?_
      refine tsx ?_
      refine tbe ?_
      obtain rfl := sinj h1
      refine tsn ?_
      exact SP_ren [] (_, _, _, _, _, _, _, _, _, _) rfl tv ⟨rfl, rfl, rfl, rfl, rfl, rfl, tv⟩ rfl
  · rintro ⟨x143, x144, x145, x146, x147, x148, x149, x150, x151, x152⟩ rfl
    refine TE_go ?_
    refine TC_seq ?_
    refine TC_reg ?_
    refine TL_ev env 1 rfl ⟨tv, tv⟩ ?_
    refine TL_end ?_
    refine TE_go ?_
    refine TC_ret ?_
    obtain rfl := sinj h0
    exact TE_ret env rfl tv ⟨.inr rfl, .inr rfl, .inr rfl, .inr rfl, .inr rfl, .inr rfl, tv⟩
theorem offer_down_8.ok0 {K : Nat} {p0 : Int} {p1 : Int} {p2 : Int} {p3 : Int} {p4 : Int} {p5 : Int} {p6 : Int} {p7 : Int} {p8 : Int} {p9 : Int} {p10 : Int} {p11 : Int} {p12 : Int} {p13 : Int} {p14 : Int} {p15 : Int} {p16 : Int} {p17 : Int} {p18 : Int} {p19 : Int} {p20 : Int} {p21 : Int} {p22 : Int} {p23 : Int} {p24 : Int} {p25 : Int} {p26 : Int} {p27 : Int} {p28 : Int} {p29 : Int} {p30 : Int} {q0 : Bool} {q1 : Int} {q2 : Int} {q3 : Int} {q4 : Int} {q5 : Int} {q6 : Int} {q7 : Int} {q8 : Int} {q9 : Int} {q10 : Int} (h0 : offer_down_8 K p0 p1 p2 p3 p4 p5 p6 p7 p8 p9 p10 p11 p12 p13 p14 p15 p16 p17 p18 p19 p20 p21 p22 p23 p24 p25 p26 p27 p28 p29 p30 = some (q0, q1, q2, q3, q4, q5, q6, q7, q8, q9, q10)) : Fn Try.prog 117 [.int .i64 p0, .int .i64 p1, .fn 120 [.p 0 0, .p 1 0, .p 2 0, .p 3 0]] [(0, some (.cells [.int .i64 p2])), (1, some (.cells [.int .i64 p3])), (2, some (.cells [.int .i64 p4, .int .i64 p5, .int .i64 p6, .int .i64 p7, .int .i64 p8, .int .i64 p9, .int .i64 p10, .int .i64 p11, .int .i64 p12, .int .i64 p13, .int .i64 p14, .int .i64 p15, .int .i64 p16, .int .i64 p17, .int .i64 p18])), (3, some (.cells [.fn 116 [.p 2 0, .p 4 0, .p 5 0]])), (4, some (.cells [.int .i64 p19, .int .i64 p20])), (5, some (.cells [.int .i64 p21, .int .i64 p22, .int .i64 p23, .int .i64 p24, .int .i64 p25, .int .i64 p26, .int .i64 p27, .int .i64 p28, .int .i64 p29, .int .i64 p30]))] (.bool q0) [(0, some (.cells [.int .i64 p2])), (1, some (.cells [.int .i64 p3])), (2, some (.cells [.int .i64 p4, .int .i64 p5, .int .i64 p6, .int .i64 p7, .int .i64 p8, .int .i64 p9, .int .i64 p10, .int .i64 p11, .int .i64 p12, .int .i64 p13, .int .i64 p14, .int .i64 p15, .int .i64 p16, .int .i64 p17, .int .i64 p18])), (3, some (.cells [.fn 116 [.p 2 0, .p 4 0, .p 5 0]])), (4, some (.cells [.int .i64 p19, .int .i64 p20])), (5, some (.cells [.int .i64 q1, .int .i64 q2, .int .i64 q3, .int .i64 q4, .int .i64 q5, .int .i64 q6, .int .i64 q7, .int .i64 q8, .int .i64 q9, .int .i64 q10]))] := offer_down_8.ok h0
theorem offer_down_8.fnb : fnb Try.prog 117 = true := fnb_of Try.func117 rfl
def offer_Choose_2_1.res (_p0 : Int) (_p1 : Int) (_p2 : Int) (_p3 : Int) (_p4 : Int) (_p5 : Int) (_p6 : Int) (_p7 : Int) (_p8 : Int) (_p9 : Int) (_p10 : Int) (_p11 : Int) (_p12 : Int) (_p13 : Int) (_p14 : Int) (_p15 : Int) (_p16 : Int) (_p17 : Int) (_p18 : Int) (_p19 : Int) (_p20 : Int) (_p21 : Int) (_p22 : Int) (_p23 : Int) (_p24 : Int) (_p25 : Int) (_p26 : Int) (_p27 : Int) (_p28 : Int) : Bool × Int × Int × Int × Int × Int × Int × Int × Int × Int × Int → MV
  | (q0, _, _, _, _, _, _, _, _, _, _) => .bool q0
def offer_Choose_2_1.out (_p0 : Int) (p1 : Int) (p2 : Int) (p3 : Int) (p4 : Int) (p5 : Int) (p6 : Int) (p7 : Int) (p8 : Int) (p9 : Int) (p10 : Int) (p11 : Int) (p12 : Int) (p13 : Int) (p14 : Int) (p15 : Int) (p16 : Int) (p17 : Int) (p18 : Int) (_p19 : Int) (_p20 : Int) (_p21 : Int) (_p22 : Int) (_p23 : Int) (_p24 : Int) (_p25 : Int) (_p26 : Int) (_p27 : Int) (_p28 : Int) : Bool × Int × Int × Int × Int × Int × Int × Int × Int × Int × Int → List (Nat × Option MObj)
  | (_, q1, q2, q3, q4, q5, q6, q7, q8, q9, q10) => [(0, some (.cells [.int .i64 p1])), (1, some (.cells [.int .i64 p2, .int .i64 p3, .int .i64 p4, .int .i64 p5, .int .i64 p6, .int .i64 p7, .int .i64 p8, .int .i64 p9, .int .i64 p10, .int .i64 p11, .int .i64 p12, .int .i64 p13, .int .i64 p14, .int .i64 p15, .int .i64 p16])), (2, some (.cells [.fn 116 [.p 1 0, .p 3 0, .p 4 0]])), (3, some (.cells [.int .i64 p17, .int .i64 p18])), (4, some (.cells [.int .i64 q1, .int .i64 q2, .int .i64 q3, .int .i64 q4, .int .i64 q5, .int .i64 q6, .int .i64 q7, .int .i64 q8, .int .i64 q9, .int .i64 q10]))]
theorem offer_Choose_2_1.ok {K : Nat} {p0 : Int} {p1 : Int} {p2 : Int} {p3 : Int} {p4 : Int} {p5 : Int} {p6 : Int} {p7 : Int} {p8 : Int} {p9 : Int} {p10 : Int} {p11 : Int} {p12 : Int} {p13 : Int} {p14 : Int} {p15 : Int} {p16 : Int} {p17 : Int} {p18 : Int} {p19 : Int} {p20 : Int} {p21 : Int} {p22 : Int} {p23 : Int} {p24 : Int} {p25 : Int} {p26 : Int} {p27 : Int} {p28 : Int} {r : Bool × Int × Int × Int × Int × Int × Int × Int × Int × Int × Int} (h0 : offer_Choose_2_1 K p0 p1 p2 p3 p4 p5 p6 p7 p8 p9 p10 p11 p12 p13 p14 p15 p16 p17 p18 p19 p20 p21 p22 p23 p24 p25 p26 p27 p28 = some r) : Fn Try.prog 119 [.int .i64 p0, .p 0 0, .p 1 0, .p 2 0] [(0, some (.cells [.int .i64 p1])), (1, some (.cells [.int .i64 p2, .int .i64 p3, .int .i64 p4, .int .i64 p5, .int .i64 p6, .int .i64 p7, .int .i64 p8, .int .i64 p9, .int .i64 p10, .int .i64 p11, .int .i64 p12, .int .i64 p13, .int .i64 p14, .int .i64 p15, .int .i64 p16])), (2, some (.cells [.fn 116 [.p 1 0, .p 3 0, .p 4 0]])), (3, some (.cells [.int .i64 p17, .int .i64 p18])), (4, some (.cells [.int .i64 p19, .int .i64 p20, .int .i64 p21, .int .i64 p22, .int .i64 p23, .int .i64 p24, .int .i64 p25, .int .i64 p26, .int .i64 p27, .int .i64 p28]))] (offer_Choose_2_1.res p0 p1 p2 p3 p4 p5 p6 p7 p8 p9 p10 p11 p12 p13 p14 p15 p16 p17 p18 p19 p20 p21 p22 p23 p24 p25 p26 p27 p28 r) (offer_Choose_2_1.out p0 p1 p2 p3 p4 p5 p6 p7 p8 p9 p10 p11 p12 p13 p14 p15 p16 p17 p18 p19 p20 p21 p22 p23 p24 p25 p26 p27 p28 r) := by
  refine Fn_of Try.func119 rfl (Nat.le_of_ble_eq_true rfl) fun Γ => ?_
  refine TC_seq ?_
  refine TC_reg ?_
  refine TL_ev env 2 rfl ⟨tv, ⟨tv, tv⟩⟩ ?_
  refine TL_end ?_
  refine TE_go ?_
  refine TC_seq ?_
  refine TC_reg ?_
  refine TL_ev env 1 rfl ⟨⟨tv, ⟨tv, ⟨tv, ⟨tv, tv⟩⟩⟩⟩, tv⟩ ?_
  obtain ⟨⟨r12, r13, r14, r15, r16, r17, r18, r19, r20, r21, r22⟩, hr, h0⟩ := bnd h0
  refine TL_callB [(0, 0), (1, 1004), (2, 1), (3, 2), (4, 3), (5, 4)] (offer_down_8.ok0 hr) offer_down_8.fnb rfl ⟨tv, ⟨tv, ⟨tv, ⟨tv, tv⟩⟩⟩⟩ rfl ⟨.inr rfl, .inr rfl, .inr rfl, .inr rfl, .inr rfl, .inr rfl, tv⟩ rfl ?_
  refine TL_ev env 1 rfl ⟨tv, tv⟩ ?_
  refine TL_end ?_
  refine TE_go ?_
  refine TC_ret ?_
  obtain rfl := sinj h0
  exact TE_ret env rfl tv ⟨.inr rfl, .inr rfl, .inr rfl, .inr rfl, .inr rfl, tv⟩
theorem offer_Choose_2_1.ok0 {K : Nat} {p0 : Int} {p1 : Int} {p2 : Int} {p3 : Int} {p4 : Int} {p5 : Int} {p6 : Int} {p7 : Int} {p8 : Int} {p9 : Int} {p10 : Int} {p11 : Int} {p12 : Int} {p13 : Int} {p14 : Int} {p15 : Int} {p16 : Int} {p17 : Int} {p18 : Int} {p19 : Int} {p20 : Int} {p21 : Int} {p22 : Int} {p23 : Int} {p24 : Int} {p25 : Int} {p26 : Int} {p27 : Int} {p28 : Int} {q0 : Bool} {q1 : Int} {q2 : Int} {q3 : Int} {q4 : Int} {q5 : Int} {q6 : Int} {q7 : Int} {q8 : Int} {q9 : Int} {q10 : Int} (h0 : offer_Choose_2_1 K p0 p1 p2 p3 p4 p5 p6 p7 p8 p9 p10 p11 p12 p13 p14 p15 p16 p17 p18 p19 p20 p21 p22 p23 p24 p25 p26 p27 p28 = some (q0, q1, q2, q3, q4, q5, q6, q7, q8, q9, q10)) : Fn Try.prog 119 [.int .i64 p0, .p 0 0, .p 1 0, .p 2 0] [(0, some (.cells [.int .i64 p1])), (1, some (.cells [.int .i64 p2, .int .i64 p3, .int .i64 p4, .int .i64 p5, .int .i64 p6, .int .i64 p7, .int .i64 p8, .int .i64 p9, .int .i64 p10, .int .i64 p11, .int .i64 p12, .int .i64 p13, .int .i64 p14, .int .i64 p15, .int .i64 p16])), (2, some (.cells [.fn 116 [.p 1 0, .p 3 0, .p 4 0]])), (3, some (.cells [.int .i64 p17, .int .i64 p18])), (4, some (.cells [.int .i64 p19, .int .i64 p20, .int .i64 p21, .int .i64 p22, .int .i64 p23, .int .i64 p24, .int .i64 p25, .int .i64 p26, .int .i64 p27, .int .i64 p28]))] (.bool q0) [(0, some (.cells [.int .i64 p1])), (1, some (.cells [.int .i64 p2, .int .i64 p3, .int .i64 p4, .int .i64 p5, .int .i64 p6, .int .i64 p7, .int .i64 p8, .int .i64 p9, .int .i64 p10, .int .i64 p11, .int .i64 p12, .int .i64 p13, .int .i64 p14, .int .i64 p15, .int .i64 p16])), (2, some (.cells [.fn 116 [.p 1 0, .p 3 0, .p 4 0]])), (3, some (.cells [.int .i64 p17, .int .i64 p18])), (4, some (.cells [.int .i64 q1, .int .i64 q2, .int .i64 q3, .int .i64 q4, .int .i64 q5, .int .i64 q6, .int .i64 q7, .int .i64 q8, .int .i64 q9, .int .i64 q10]))] := offer_Choose_2_1.ok h0
theorem offer_Choose_2_1.fnb : fnb Try.prog 119 = true := fnb_of Try.func119 rfl
def offer_down_9.res (_p0 : Int) (_p1 : Int) (_p2 : Int) (_p3 : Int) (_p4 : Int) (_p5 : Int) (_p6 : Int) (_p7 : Int) (_p8 : Int) (_p9 : Int) (_p10 : Int) (_p11 : Int) (_p12 : Int) (_p13 : Int) (_p14 : Int) (_p15 : Int) (_p16 : Int) (_p17 : Int) (_p18 : Int) (_p19 : Int) (_p20 : Int) (_p21 : Int) (_p22 : Int) (_p23 : Int) (_p24 : Int) (_p25 : Int) (_p26 : Int) (_p27 : Int) (_p28 : Int) (_p29 : Int) : Bool × Int × Int × Int × Int × Int × Int × Int × Int × Int × Int → MV
  | (q0, _, _, _, _, _, _, _, _, _, _) => .bool q0
def offer_down_9.out (_p0 : Int) (_p1 : Int) (p2 : Int) (p3 : Int) (p4 : Int) (p5 : Int) (p6 : Int) (p7 : Int) (p8 : Int) (p9 : Int) (p10 : Int) (p11 : Int) (p12 : Int) (p13 : Int) (p14 : Int) (p15 : Int) (p16 : Int) (p17 : Int) (p18 : Int) (p19 : Int) (_p20 : Int) (_p21 : Int) (_p22 : Int) (_p23 : Int) (_p24 : Int) (_p25 : Int) (_p26 : Int) (_p27 : Int) (_p28 : Int) (_p29 : Int) : Bool × Int × Int × Int × Int × Int × Int × Int × Int × Int × Int → List (Nat × Option MObj)
  | (_, q1, q2, q3, q4, q5, q6, q7, q8, q9, q10) => [(0, some (.cells [.int .i64 p2])), (1, some (.cells [.int .i64 p3, .int .i64 p4, .int .i64 p5, .int .i64 p6, .int .i64 p7, .int .i64 p8, .int .i64 p9, .int .i64 p10, .int .i64 p11, .int .i64 p12, .int .i64 p13, .int .i64 p14, .int .i64 p15, .int .i64 p16, .int .i64 p17])), (2, some (.cells [.fn 116 [.p 1 0, .p 3 0, .p 4 0]])), (3, some (.cells [.int .i64 p18, .int .i64 p19])), (4, some (.cells [.int .i64 q1, .int .i64 q2, .int .i64 q3, .int .i64 q4, .int .i64 q5, .int .i64 q6, .int .i64 q7, .int .i64 q8, .int .i64 q9, .int .i64 q10]))]
theorem offer_down_9.ok {K : Nat} {p0 : Int} {p1 : Int} {p2 : Int} {p3 : Int} {p4 : Int} {p5 : Int} {p6 : Int} {p7 : Int} {p8 : Int} {p9 : Int} {p10 : Int} {p11 : Int} {p12 : Int} {p13 : Int} {p14 : Int} {p15 : Int} {p16 : Int} {p17 : Int} {p18 : Int} {p19 : Int} {p20 : Int} {p21 : Int} {p22 : Int} {p23 : Int} {p24 : Int} {p25 : Int} {p26 : Int} {p27 : Int} {p28 : Int} {p29 : Int} {r : Bool × Int × Int × Int × Int × Int × Int × Int × Int × Int × Int} (h0 : offer_down_9 K p0 p1 p2 p3 p4 p5 p6 p7 p8 p9 p10 p11 p12 p13 p14 p15 p16 p17 p18 p19 p20 p21 p22 p23 p24 p25 p26 p27 p28 p29 = some r) : Fn Try.prog 117 [.int .i64 p0, .int .i64 p1, .fn 119 [.p 0 0, .p 1 0, .p 2 0]] [(0, some (.cells [.int .i64 p2])), (1, some (.cells [.int .i64 p3, .int .i64 p4, .int .i64 p5, .int .i64 p6, .int .i64 p7, .int .i64 p8, .int .i64 p9, .int .i64 p10, .int .i64 p11, .int .i64 p12, .int .i64 p13, .int .i64 p14, .int .i64 p15, .int .i64 p16, .int .i64 p17])), (2, some (.cells [.fn 116 [.p 1 0, .p 3 0, .p 4 0]])), (3, some (.cells [.int .i64 p18, .int .i64 p19])), (4, some (.cells [.int .i64 p20, .int .i64 p21, .int .i64 p22, .int .i64 p23, .int .i64 p24, .int .i64 p25, .int .i64 p26, .int .i64 p27, .int .i64 p28, .int .i64 p29]))] (offer_down_9.res p0 p1 p2 p3 p4 p5 p6 p7 p8 p9 p10 p11 p12 p13 p14 p15 p16 p17 p18 p19 p20 p21 p22 p23 p24 p25 p26 p27 p28 p29 r) (offer_down_9.out p0 p1 p2 p3 p4 p5 p6 p7 p8 p9 p10 p11 p12 p13 p14 p15 p16 p17 p18 p19 p20 p21 p22 p23 p24 p25 p26 p27 p28 p29 r) := by
  refine Fn_of Try.func117 rfl (Nat.le_of_ble_eq_true rfl) fun Γ => ?_
  refine TC_seq ?_
  refine TC_reg ?_
  refine TL_ev env 1 rfl ⟨tv, tv⟩ ?_
  refine TL_end ?_
  refine TE_go ?_
  refine TC_seq ?_
  refine TC_seq ?_
  refine TC_reg ?_
  refine TL_ev env 2 rfl ⟨tv, ⟨tv, tv⟩⟩ ?_
  refine TL_end ?_
  refine TE_go ?_
  obtain ⟨z1, h1, h0⟩ := bnd h0
  refine TC_cut (α := Int × Int × Int × Int × Int × Int × Int × Int × Int × Int) (fun s => z1 = .inl s) (fun s => []) (fun s => [(0, some (.cells [.int .i64 p2])), (1, some (.cells [.int .i64 p3, .int .i64 p4, .int .i64 p5, .int .i64 p6, .int .i64 p7, .int .i64 p8, .int .i64 p9, .int .i64 p10, .int .i64 p11, .int .i64 p12, .int .i64 p13, .int .i64 p14, .int .i64 p15, .int .i64 p16, .int .i64 p17])), (2, some (.cells [.fn 116 [.p 1 0, .p 3 0, .p 4 0]])), (3, some (.cells [.int .i64 p18, .int .i64 p19])), (4, some (.cells [.int .i64 s.1, .int .i64 s.2.1, .int .i64 s.2.2.1, .int .i64 s.2.2.2.1, .int .i64 s.2.2.2.2.1, .int .i64 s.2.2.2.2.2.1, .int .i64 s.2.2.2.2.2.2.1, .int .i64 s.2.2.2.2.2.2.2.1, .int .i64 s.2.2.2.2.2.2.2.2.1, .int .i64 s.2.2.2.2.2.2.2.2.2]))]) ?_ ?_
  · refine TC_blk ?_
    refine TC_loop (α := Int × Int × Int × Int × Int × Int × Int × Int × Int × Int × Int) (fun n s => offer_down_9.l0 K p1 p2 p3 p4 p5 p6 p7 p8 p9 p10 p11 p12 p13 p14 p15 p16 p17 p18 p19 n s.1 s.2.1 s.2.2.1 s.2.2.2.1 s.2.2.2.2.1 s.2.2.2.2.2.1 s.2.2.2.2.2.2.1 s.2.2.2.2.2.2.2.1 s.2.2.2.2.2.2.2.2.1 s.2.2.2.2.2.2.2.2.2.1 s.2.2.2.2.2.2.2.2.2.2 = some z1) (fun s => [(1, .int .i64 p1), (2, .fn 119 [.p 0 0, .p 1 0, .p 2 0]), (7, .int .i64 s.1)]) (fun s => [(0, some (.cells [.int .i64 p2])), (1, some (.cells [.int .i64 p3, .int .i64 p4, .int .i64 p5, .int .i64 p6, .int .i64 p7, .int .i64 p8, .int .i64 p9, .int .i64 p10, .int .i64 p11, .int .i64 p12, .int .i64 p13, .int .i64 p14, .int .i64 p15, .int .i64 p16, .int .i64 p17])), (2, some (.cells [.fn 116 [.p 1 0, .p 3 0, .p 4 0]])), (3, some (.cells [.int .i64 p18, .int .i64 p19])), (4, some (.cells [.int .i64 s.2.1, .int .i64 s.2.2.1, .int .i64 s.2.2.2.1, .int .i64 s.2.2.2.2.1, .int .i64 s.2.2.2.2.2.1, .int .i64 s.2.2.2.2.2.2.1, .int .i64 s.2.2.2.2.2.2.2.1, .int .i64 s.2.2.2.2.2.2.2.2.1, .int .i64 s.2.2.2.2.2.2.2.2.2.1, .int .i64 s.2.2.2.2.2.2.2.2.2.2]))]) K ?_ ?_
    · exact SP_ren [] (_, _, _, _, _, _, _, _, _, _, _) h1 ⟨rfl, rfl, rfl, tv⟩ ⟨rfl, rfl, rfl, rfl, rfl, tv⟩ rfl
    rintro n ⟨x175, x176, x177, x178, x179, x180, x181, x182, x183, x184, x185⟩ h1
    rcases n with _ | n
    · exact (nsome h1).elim
    replace h1 : offer_down_9.r0 K p1 p2 p3 p4 p5 p6 p7 p8 p9 p10 p11 p12 p13 p14 p15 p16 p17 p18 p19 (offer_down_9.l0 K p1 p2 p3 p4 p5 p6 p7 p8 p9 p10 p11 p12 p13 p14 p15 p16 p17 p18 p19 n) x175 x176 x177 x178 x179 x180 x181 x182 x183 x184 x185 = some z1 := h1
    refine TC_seq ?_
    refine TC_seq ?_
    refine TC_reg ?_
    refine TL_ev env 3 rfl ⟨tv, ⟨tv, ⟨⟨tv, ⟨tv, tv⟩⟩, tv⟩⟩⟩ ?_
    refine TL_end ?_
    refine TE_go ?_
    refine TC_cond rfl (fun hb => ?_) (fun hb => ?_)
    · replace h1 := bif_t h1 hb
      refine TC_skip ?_
      refine TE_go ?_
      refine TC_seq ?_
      refine TC_blk ?_
      refine TC_seq ?_
      refine TC_reg ?_
      refine TL_ev env 2 rfl ⟨tv, ⟨tv, tv⟩⟩ ?_
      obtain ⟨⟨r231, r232, r233, r234, r235, r236, r237, r238, r239, r240, r241⟩, hr, h1⟩ := bnd h1
      refine TL_callB [(0, 0), (1, 1), (2, 2), (3, 3), (4, 4)] (offer_Choose_2_1.ok0 hr) offer_Choose_2_1.fnb rfl ⟨tv, ⟨tv, tv⟩⟩ rfl ⟨.inr rfl, .inr rfl, .inr rfl, .inr rfl, .inr rfl, tv⟩ rfl ?_
      refine TL_end ?_
      refine TE_go ?_
      refine TC_cond rfl (fun hb => ?_) (fun hb => ?_)
      · replace h1 := bif_t h1 hb
        refine TC_seq ?_
        refine TC_reg ?_
        refine TL_ev env 1 rfl ⟨tv, tv⟩ ?_
        refine TL_end ?_
        refine TE_go ?_
        refine TC_ret ?_
        refine tbr ?_
        refine tsr ?_
        refine tsr ?_
        refine tbr ?_
        refine tsr ?_
        refine tsr ?_
        obtain rfl := sinj h1
        obtain rfl := sinj h0
        exact TE_ret env rfl tv ⟨.inr rfl, .inr rfl, .inr rfl, .inr rfl, .inr rfl, tv⟩
      · replace h1 := bif_f h1 hb
        refine TC_skip ?_
        refine tbn ?_
        refine TE_go ?_
        refine TC_reg ?_
        refine TL_ev env 3 rfl ⟨tv, ⟨⟨tv, ⟨tv, tv⟩⟩, ⟨tv, tv⟩⟩⟩ ?_
        refine TL_end ?_
        refine tsn ?_
        exact TE_nextr [] n (Nat.lt_succ_self n) (_, _, _, _, _, _, _, _, _, _, _) h1 ⟨rfl, rfl, rfl, tv⟩ ⟨rfl, rfl, rfl, rfl, rfl, tv⟩ rfl
    · replace h1 := bif_f h1 hb
      refine TC_exit ?_
      refine tsx ?_
      refine tsx ?_
      refine tbe ?_
      obtain rfl := sinj h1
      refine tsn ?_
      exact SP_ren [] (_, _, _, _, _, _, _, _, _, _) rfl tv ⟨rfl, rfl, rfl, rfl, rfl, tv⟩ rfl
  · rintro ⟨x143, x144, x145, x146, x147, x148, x149, x150, x151, x152⟩ rfl
    refine TE_go ?_
    refine TC_seq ?_
    refine TC_reg ?_
    refine TL_ev env 1 rfl ⟨tv, tv⟩ ?_
    refine TL_end ?_
    refine TE_go ?_
    refine TC_ret ?_
    obtain rfl := sinj h0
    exact TE_ret env rfl tv ⟨.inr rfl, .inr rfl, .inr rfl, .inr rfl, .inr rfl, tv⟩
theorem offer_down_9.ok0 {K : Nat} {p0 : Int} {p1 : Int} {p2 : Int} {p3 : Int} {p4 : Int} {p5 : Int} {p6 : Int} {p7 : Int} {p8 : Int} {p9 : Int} {p10 : Int} {p11 : Int} {p12 : Int} {p13 : Int} {p14 : Int} {p15 : Int} {p16 : Int} {p17 : Int} {p18 : Int} {p19 : Int} {p20 : Int} {p21 : Int} {p22 : Int} {p23 : Int} {p24 : Int} {p25 : Int} {p26 : Int} {p27 : Int} {p28 : Int} {p29 : Int} {q0 : Bool} {q1 : Int} {q2 : Int} {q3 : Int} {q4 : Int} {q5 : Int} {q6 : Int} {q7 : Int} {q8 : Int} {q9 : Int} {q10 : Int} (h0 : offer_down_9 K p0 p1 p2 p3 p4 p5 p6 p7 p8 p9 p10 p11 p12 p13 p14 p15 p16 p17 p18 p19 p20 p21 p22 p23 p24 p25 p26 p27 p28 p29 = some (q0, q1, q2, q3, q4, q5, q6, q7, q8, q9, q10)) : Fn Try.prog 117 [.int .i64 p0, .int .i64 p1, .fn 119 [.p 0 0, .p 1 0, .p 2 0]] [(0, some (.cells [.int .i64 p2])), (1, some (.cells [.int .i64 p3, .int .i64 p4, .int .i64 p5, .int .i64 p6, .int .i64 p7, .int .i64 p8, .int .i64 p9, .int .i64 p10, .int .i64 p11, .int .i64 p12, .int .i64 p13, .int .i64 p14, .int .i64 p15, .int .i64 p16, .int .i64 p17])), (2, some (.cells [.fn 116 [.p 1 0, .p 3 0, .p 4 0]])), (3, some (.cells [.int .i64 p18, .int .i64 p19])), (4, some (.cells [.int .i64 p20, .int .i64 p21, .int .i64 p22, .int .i64 p23, .int .i64 p24, .int .i64 p25, .int .i64 p26, .int .i64 p27, .int .i64 p28, .int .i64 p29]))] (.bool q0) [(0, some (.cells [.int .i64 p2])), (1, some (.cells [.int .i64 p3, .int .i64 p4, .int .i64 p5, .int .i64 p6, .int .i64 p7, .int .i64 p8, .int .i64 p9, .int .i64 p10, .int .i64 p11, .int .i64 p12, .int .i64 p13, .int .i64 p14, .int .i64 p15, .int .i64 p16, .int .i64 p17])), (2, some (.cells [.fn 116 [.p 1 0, .p 3 0, .p 4 0]])), (3, some (.cells [.int .i64 p18, .int .i64 p19])), (4, some (.cells [.int .i64 q1, .int .i64 q2, .int .i64 q3, .int .i64 q4, .int .i64 q5, .int .i64 q6, .int .i64 q7, .int .i64 q8, .int .i64 q9, .int .i64 q10]))] := offer_down_9.ok h0
theorem offer_down_9.fnb : fnb Try.prog 117 = true := fnb_of Try.func117 rfl
def offer_Choose_2.res (_p0 : Int) (_p1 : Int) (_p2 : Int) (_p3 : Int) (_p4 : Int) (_p5 : Int) (_p6 : Int) (_p7 : Int) (_p8 : Int) (_p9 : Int) (_p10 : Int) (_p11 : Int) (_p12 : Int) (_p13 : Int) (_p14 : Int) (_p15 : Int) (_p16 : Int) (_p17 : Int) (_p18 : Int) (_p19 : Int) (_p20 : Int) (_p21 : Int) (_p22 : Int) (_p23 : Int) (_p24 : Int) (_p25 : Int) (_p26 : Int) (_p27 : Int) : Bool × Int × Int × Int × Int × Int × Int × Int × Int × Int × Int → MV
  | (q0, _, _, _, _, _, _, _, _, _, _) => .bool q0
def offer_Choose_2.out (_p0 : Int) (p1 : Int) (p2 : Int) (p3 : Int) (p4 : Int) (p5 : Int) (p6 : Int) (p7 : Int) (p8 : Int) (p9 : Int) (p10 : Int) (p11 : Int) (p12 : Int) (p13 : Int) (p14 : Int) (p15 : Int) (p16 : Int) (p17 : Int) (_p18 : Int) (_p19 : Int) (_p20 : Int) (_p21 : Int) (_p22 : Int) (_p23 : Int) (_p24 : Int) (_p25 : Int) (_p26 : Int) (_p27 : Int) : Bool × Int × Int × Int × Int × Int × Int × Int × Int × Int × Int → List (Nat × Option MObj)
  | (_, q1, q2, q3, q4, q5, q6, q7, q8, q9, q10) => [(0, some (.cells [.int .i64 p1, .int .i64 p2, .int .i64 p3, .int .i64 p4, .int .i64 p5, .int .i64 p6, .int .i64 p7, .int .i64 p8, .int .i64 p9, .int .i64 p10, .int .i64 p11, .int .i64 p12, .int .i64 p13, .int .i64 p14, .int .i64 p15])), (1, some (.cells [.fn 116 [.p 0 0, .p 2 0, .p 3 0]])), (2, some (.cells [.int .i64 p16, .int .i64 p17])), (3, some (.cells [.int .i64 q1, .int .i64 q2, .int .i64 q3, .int .i64 q4, .int .i64 q5, .int .i64 q6, .int .i64 q7, .int .i64 q8, .int .i64 q9, .int .i64 q10]))]
theorem offer_Choose_2.ok {K : Nat} {p0 : Int} {p1 : Int} {p2 : Int} {p3 : Int} {p4 : Int} {p5 : Int} {p6 : Int} {p7 : Int} {p8 : Int} {p9 : Int} {p10 : Int} {p11 : Int} {p12 : Int} {p13 : Int} {p14 : Int} {p15 : Int} {p16 : Int} {p17 : Int} {p18 : Int} {p19 : Int} {p20 : Int} {p21 : Int} {p22 : Int} {p23 : Int} {p24 : Int} {p25 : Int} {p26 : Int} {p27 : Int} {r : Bool × Int × Int × Int × Int × Int × Int × Int × Int × Int × Int} (h0 : offer_Choose_2 K p0 p1 p2 p3 p4 p5 p6 p7 p8 p9 p10 p11 p12 p13 p14 p15 p16 p17 p18 p19 p20 p21 p22 p23 p24 p25 p26 p27 = some r) : Fn Try.prog 118 [.int .i64 p0, .p 0 0, .p 1 0] [(0, some (.cells [.int .i64 p1, .int .i64 p2, .int .i64 p3, .int .i64 p4, .int .i64 p5, .int .i64 p6, .int .i64 p7, .int .i64 p8, .int .i64 p9, .int .i64 p10, .int .i64 p11, .int .i64 p12, .int .i64 p13, .int .i64 p14, .int .i64 p15])), (1, some (.cells [.fn 116 [.p 0 0, .p 2 0, .p 3 0]])), (2, some (.cells [.int .i64 p16, .int .i64 p17])), (3, some (.cells [.int .i64 p18, .int .i64 p19, .int .i64 p20, .int .i64 p21, .int .i64 p22, .int .i64 p23, .int .i64 p24, .int .i64 p25, .int .i64 p26, .int .i64 p27]))] (offer_Choose_2.res p0 p1 p2 p3 p4 p5 p6 p7 p8 p9 p10 p11 p12 p13 p14 p15 p16 p17 p18 p19 p20 p21 p22 p23 p24 p25 p26 p27 r) (offer_Choose_2.out p0 p1 p2 p3 p4 p5 p6 p7 p8 p9 p10 p11 p12 p13 p14 p15 p16 p17 p18 p19 p20 p21 p22 p23 p24 p25 p26 p27 r) := by
  refine Fn_of Try.func118 rfl (Nat.le_of_ble_eq_true rfl) fun Γ => ?_
  refine TC_seq ?_
  refine TC_reg ?_
  refine TL_ev env 2 rfl ⟨tv, ⟨tv, tv⟩⟩ ?_
  refine TL_end ?_
  refine TE_go ?_
  refine TC_seq ?_
  refine TC_reg ?_
  refine TL_ev env 1 rfl ⟨⟨tv, ⟨tv, ⟨tv, tv⟩⟩⟩, tv⟩ ?_
  obtain ⟨⟨r12, r13, r14, r15, r16, r17, r18, r19, r20, r21, r22⟩, hr, h0⟩ := bnd h0
  refine TL_callB [(0, 1003), (1, 0), (2, 1), (3, 2), (4, 3)] (offer_down_9.ok0 hr) offer_down_9.fnb rfl ⟨tv, ⟨tv, ⟨tv, ⟨tv, tv⟩⟩⟩⟩ rfl ⟨.inr rfl, .inr rfl, .inr rfl, .inr rfl, .inr rfl, tv⟩ rfl ?_
  refine TL_ev env 1 rfl ⟨tv, tv⟩ ?_
  refine TL_end ?_
  refine TE_go ?_
  refine TC_ret ?_
  obtain rfl := sinj h0
  exact TE_ret env rfl tv ⟨.inr rfl, .inr rfl, .inr rfl, .inr rfl, tv⟩
theorem offer_Choose_2.ok0 {K : Nat} {p0 : Int} {p1 : Int} {p2 : Int} {p3 : Int} {p4 : Int} {p5 : Int} {p6 : Int} {p7 : Int} {p8 : Int} {p9 : Int} {p10 : Int} {p11 : Int} {p12 : Int} {p13 : Int} {p14 : Int} {p15 : Int} {p16 : Int} {p17 : Int} {p18 : Int} {p19 : Int} {p20 : Int} {p21 : Int} {p22 : Int} {p23 : Int} {p24 : Int} {p25 : Int} {p26 : Int} {p27 : Int} {q0 : Bool} {q1 : Int} {q2 : Int} {q3 : Int} {q4 : Int} {q5 : Int} {q6 : Int} {q7 : Int} {q8 : Int} {q9 : Int} {q10 : Int} (h0 : offer_Choose_2 K p0 p1 p2 p3 p4 p5 p6 p7 p8 p9 p10 p11 p12 p13 p14 p15 p16 p17 p18 p19 p20 p21 p22 p23 p24 p25 p26 p27 = some (q0, q1, q2, q3, q4, q5, q6, q7, q8, q9, q10)) : Fn Try.prog 118 [.int .i64 p0, .p 0 0, .p 1 0] [(0, some (.cells [.int .i64 p1, .int .i64 p2, .int .i64 p3, .int .i64 p4, .int .i64 p5, .int .i64 p6, .int .i64 p7, .int .i64 p8, .int .i64 p9, .int .i64 p10, .int .i64 p11, .int .i64 p12, .int .i64 p13, .int .i64 p14, .int .i64 p15])), (1, some (.cells [.fn 116 [.p 0 0, .p 2 0, .p 3 0]])), (2, some (.cells [.int .i64 p16, .int .i64 p17])), (3, some (.cells [.int .i64 p18, .int .i64 p19, .int .i64 p20, .int .i64 p21, .int .i64 p22, .int .i64 p23, .int .i64 p24, .int .i64 p25, .int .i64 p26, .int .i64 p27]))] (.bool q0) [(0, some (.cells [.int .i64 p1, .int .i64 p2, .int .i64 p3, .int .i64 p4, .int .i64 p5, .int .i64 p6, .int .i64 p7, .int .i64 p8, .int .i64 p9, .int .i64 p10, .int .i64 p11, .int .i64 p12, .int .i64 p13, .int .i64 p14, .int .i64 p15])), (1, some (.cells [.fn 116 [.p 0 0, .p 2 0, .p 3 0]])), (2, some (.cells [.int .i64 p16, .int .i64 p17])), (3, some (.cells [.int .i64 q1, .int .i64 q2, .int .i64 q3, .int .i64 q4, .int .i64 q5, .int .i64 q6, .int .i64 q7, .int .i64 q8, .int .i64 q9, .int .i64 q10]))] := offer_Choose_2.ok h0
theorem offer_Choose_2.fnb : fnb Try.prog 118 = true := fnb_of Try.func118 rfl
end Go.Fo
