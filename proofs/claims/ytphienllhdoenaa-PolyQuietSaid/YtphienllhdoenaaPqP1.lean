/- Each call comes to the function that is written for it. -/
import Derived.Test.YtphienllhdoenaaPqT
import Derived.Test.YtphienllhdoenaaPqF
import Derived.Test.YtphienllhdoenaaBx
import Derived.Test.YtphienllhdoenaaPqP0
namespace Go.Fo
open Go.Proofs
set_option maxRecDepth 20000
set_option maxHeartbeats 4000000
def psalterylaw08_PolyQuiet.res (_p0 : Bool) (_p1 : List (Int)) : Bool → MV
  | q0 => .bool q0
def psalterylaw08_PolyQuiet.out (_p0 : Bool) (_p1 : List (Int)) : Bool → List (Nat × Option MObj)
  | _ => []
theorem psalterylaw08_PolyQuiet.ok {K : Nat} {p0 : Bool} {p1 : List (Int)} {r : Bool} (h0 : psalterylaw08_PolyQuiet K p0 p1 = some r) : Fn Try.prog 5 [.bool p0, .im (.slice (.int .i16)) p1] [] (psalterylaw08_PolyQuiet.res p0 p1 r) (psalterylaw08_PolyQuiet.out p0 p1 r) := by
  refine Fn_of Try.func5 rfl (Nat.le_of_ble_eq_true rfl) fun Γ => ?_
  refine TC_seq ?_
  refine TC_reg ?_
  refine TL_ev env 1 rfl ⟨trivial, trivial⟩ ?_
  refine TL_end ?_
  refine TE_go ?_
  refine TC_seq ?_
  refine TC_seq ?_
  refine TC_reg ?_
  obtain ⟨r89, hr, h0⟩ := bnd h0
  refine TL_callB [] (psalterylaw08_alive.ok0 hr) psalterylaw08_alive.fnb rfl ⟨trivial, trivial⟩ rfl trivial rfl ?_
  refine TL_ev env 1 rfl ⟨trivial, trivial⟩ ?_
  refine TL_end ?_
  refine TE_go ?_
  refine TC_cond rfl (fun hb => ?_) (fun hb => ?_)
  · replace h0 := bif_t h0 hb
    refine TC_seq ?_
    refine TC_reg ?_
    refine TL_ev env 1 rfl ⟨trivial, trivial⟩ ?_
    refine TL_end ?_
    refine TE_go ?_
    refine TC_ret ?_
    refine tsr ?_
    obtain rfl := sinj h0
    exact TE_ret env rfl trivial trivial
  · replace h0 := bif_f h0 hb
    refine TC_skip ?_
    refine TE_go ?_
    refine TC_seq ?_
    refine TC_seq ?_
    refine TC_reg ?_
    refine TL_ev env 3 rfl ⟨trivial, ⟨⟨trivial, trivial⟩, ⟨⟨trivial, ⟨trivial, trivial⟩⟩, trivial⟩⟩⟩ ?_
    refine TL_end ?_
    refine TE_go ?_
    refine TC_cond rfl (fun hb => ?_) (fun hb => ?_)
    · replace h0 := bif_t h0 hb
      refine TC_seq ?_
      refine TC_reg ?_
      refine TL_ev env 1 rfl ⟨trivial, trivial⟩ ?_
      refine TL_end ?_
      refine TE_go ?_
      refine TC_ret ?_
      refine tsr ?_
      obtain rfl := sinj h0
      exact TE_ret env rfl trivial trivial
    · replace h0 := bif_f h0 hb
      refine TC_skip ?_
      refine TE_go ?_
      refine TC_seq ?_
      refine TC_reg ?_
      refine TL_ev env 1 rfl ⟨trivial, trivial⟩ ?_
      refine TL_end ?_
      refine TE_go ?_
      refine TC_seq ?_
      refine TC_seq ?_
      refine TC_reg ?_
      refine TL_ev env 1 rfl ⟨trivial, trivial⟩ ?_
      refine TL_end ?_
      refine TE_go ?_
      obtain ⟨z1, h1, h0⟩ := bnd h0
      refine TC_cut (α := Int) (fun s => z1 = s) (fun s => [(1, .im (.slice (.int .i16)) p1), (5, .int .i64 s)]) (fun s => []) ?_ ?_
      · refine TC_cond rfl (fun hb => ?_) (fun hb => ?_)
        · replace h1 := bif_t h1 hb
          refine TC_reg ?_
          refine TL_ev env 1 rfl ⟨trivial, trivial⟩ ?_
          refine TL_end ?_
          obtain rfl := sinj h1
          refine tsn ?_
          exact SP_ren [] _ rfl ⟨rfl, rfl, trivial⟩ trivial rfl
        · replace h1 := bif_f h1 hb
          refine TC_skip ?_
          obtain rfl := sinj h1
          refine tsn ?_
          exact SP_ren [] _ rfl ⟨rfl, rfl, trivial⟩ trivial rfl
      · rintro x91 hz
        obtain rfl := hz.symm
        refine TE_go ?_
        refine TC_seq ?_
        refine TC_reg ?_
        obtain ⟨⟨⟩, hr, h0⟩ := bnd h0
        refine TL_callB [(1000, 500260)] (bank_New.ok0 hr) bank_New.fnb rfl ⟨trivial, trivial⟩ rfl trivial rfl ?_
        refine TL_ev env 1 rfl ⟨trivial, trivial⟩ ?_
        obtain ⟨z, hr, h0⟩ := bnd h0
        rcases z with ⟨r92, r93, r94⟩ | ⟨r95, r96, r97, r98, r99, r100⟩
        · refine TL_callB [(0, 500260)] (poly_NewSplitter.ok0 hr) poly_NewSplitter.fnb rfl ⟨trivial, ⟨trivial, ⟨trivial, trivial⟩⟩⟩ rfl ⟨.inr rfl, trivial⟩ rfl ?_
          refine TL_ev env 5 rfl ⟨trivial, ⟨trivial, ⟨trivial, ⟨trivial, ⟨trivial, trivial⟩⟩⟩⟩⟩ ?_
          refine TL_end ?_
          refine TE_go ?_
          refine TC_seq ?_
          refine TC_reg ?_
          obtain ⟨⟨⟩, hr, h0⟩ := bnd h0
          refine TL_callB [(1000, 500320)] (bank_New.ok0 hr) bank_New.fnb rfl ⟨trivial, trivial⟩ rfl trivial rfl ?_
          refine TL_ev env 1 rfl ⟨trivial, trivial⟩ ?_
          obtain ⟨z, hr, h0⟩ := bnd h0
          rcases z with ⟨r101, r102, r103⟩ | ⟨r104, r105, r106, r107, r108, r109⟩
          · refine TL_callB [(0, 500320)] (poly_NewJoiner.ok0 hr) poly_NewJoiner.fnb rfl ⟨trivial, ⟨trivial, ⟨trivial, trivial⟩⟩⟩ rfl ⟨.inr rfl, trivial⟩ rfl ?_
            refine TL_ev env 5 rfl ⟨trivial, ⟨trivial, ⟨trivial, ⟨trivial, ⟨trivial, trivial⟩⟩⟩⟩⟩ ?_
            refine TL_end ?_
            refine TE_go ?_
            refine TC_seq ?_
            refine TC_seq ?_
            refine TC_reg ?_
            refine TL_ev env 3 rfl ⟨trivial, ⟨⟨trivial, ⟨trivial, trivial⟩⟩, ⟨trivial, trivial⟩⟩⟩ ?_
            refine TL_gf (.bool false) rfl rfl rfl rfl rfl (by decide) ?_
            refine TL_gf (.bool false) rfl rfl rfl rfl rfl (by decide) ?_
            refine TL_ev env 1 rfl ⟨⟨trivial, ⟨trivial, fun e => e⟩⟩, trivial⟩ ?_
            refine TL_end ?_
            refine TE_go ?_
            refine TC_cond rfl (fun hb => ?_) (fun hb => ?_)
            · refine TC_seq ?_
              refine TC_reg ?_
              refine TL_ev env 1 rfl ⟨trivial, trivial⟩ ?_
              refine TL_end ?_
              refine TE_go ?_
              refine TC_ret ?_
              refine tsr ?_
              obtain rfl := sinj h0
              exact TE_ret env rfl trivial trivial
            · first | exact (ftf hb).elim | exact (tff hb).elim | exact absurd hb (by decide)
          · refine TL_callB [(0, 500320), (1000, 500340), (1001, 500341)] (poly_NewJoiner.ok1 hr) poly_NewJoiner.fnb rfl ⟨trivial, ⟨trivial, ⟨trivial, trivial⟩⟩⟩ rfl ⟨.inr rfl, trivial⟩ rfl ?_
            refine TL_ev env 5 rfl ⟨trivial, ⟨trivial, ⟨trivial, ⟨trivial, ⟨trivial, trivial⟩⟩⟩⟩⟩ ?_
            refine TL_end ?_
            refine TE_go ?_
            refine TC_seq ?_
            refine TC_seq ?_
            refine TC_reg ?_
            refine TL_ev env 3 rfl ⟨trivial, ⟨⟨trivial, ⟨trivial, trivial⟩⟩, ⟨trivial, trivial⟩⟩⟩ ?_
            refine TL_gf (.bool false) rfl rfl rfl rfl rfl (by decide) ?_
            refine TL_gf (.bool false) rfl rfl rfl rfl rfl (by decide) ?_
            refine TL_ev env 1 rfl ⟨⟨trivial, ⟨trivial, fun e => e⟩⟩, trivial⟩ ?_
            refine TL_end ?_
            refine TE_go ?_
            refine TC_cond rfl (fun hb => ?_) (fun hb => ?_)
            · refine TC_seq ?_
              refine TC_reg ?_
              refine TL_ev env 1 rfl ⟨trivial, trivial⟩ ?_
              refine TL_end ?_
              refine TE_go ?_
              refine TC_ret ?_
              refine tsr ?_
              obtain rfl := sinj h0
              exact TE_ret env rfl trivial trivial
            · first | exact (ftf hb).elim | exact (tff hb).elim | exact absurd hb (by decide)
        · refine TL_callB [(0, 500260), (1000, 500280), (1001, 500281)] (poly_NewSplitter.ok1 hr) poly_NewSplitter.fnb rfl ⟨trivial, ⟨trivial, ⟨trivial, trivial⟩⟩⟩ rfl ⟨.inr rfl, trivial⟩ rfl ?_
          refine TL_ev env 5 rfl ⟨trivial, ⟨trivial, ⟨trivial, ⟨trivial, ⟨trivial, trivial⟩⟩⟩⟩⟩ ?_
          refine TL_end ?_
          refine TE_go ?_
          refine TC_seq ?_
          refine TC_reg ?_
          obtain ⟨⟨⟩, hr, h0⟩ := bnd h0
          refine TL_callB [(1000, 500320)] (bank_New.ok0 hr) bank_New.fnb rfl ⟨trivial, trivial⟩ rfl trivial rfl ?_
          refine TL_ev env 1 rfl ⟨trivial, trivial⟩ ?_
          obtain ⟨z, hr, h0⟩ := bnd h0
          rcases z with ⟨r110, r111, r112⟩ | ⟨r113, r114, r115, r116, r117, r118⟩
          · refine TL_callB [(0, 500320)] (poly_NewJoiner.ok0 hr) poly_NewJoiner.fnb rfl ⟨trivial, ⟨trivial, ⟨trivial, trivial⟩⟩⟩ rfl ⟨.inr rfl, trivial⟩ rfl ?_
            refine TL_ev env 5 rfl ⟨trivial, ⟨trivial, ⟨trivial, ⟨trivial, ⟨trivial, trivial⟩⟩⟩⟩⟩ ?_
            refine TL_end ?_
            refine TE_go ?_
            refine TC_seq ?_
            refine TC_seq ?_
            refine TC_reg ?_
            refine TL_ev env 3 rfl ⟨trivial, ⟨⟨trivial, ⟨trivial, trivial⟩⟩, ⟨trivial, trivial⟩⟩⟩ ?_
            refine TL_gt rfl rfl rfl rfl ?_
            refine TL_ev env 1 rfl ⟨trivial, trivial⟩ ?_
            refine TL_gt rfl rfl rfl rfl ?_
            refine TL_ev env 2 rfl ⟨⟨trivial, ⟨trivial, trivial⟩⟩, ⟨⟨trivial, ⟨trivial, trivial⟩⟩, trivial⟩⟩ ?_
            refine TL_end ?_
            refine TE_go ?_
            refine TC_cond rfl (fun hb => ?_) (fun hb => ?_)
            · refine TC_seq ?_
              refine TC_reg ?_
              refine TL_ev env 1 rfl ⟨trivial, trivial⟩ ?_
              refine TL_end ?_
              refine TE_go ?_
              refine TC_ret ?_
              refine tsr ?_
              obtain rfl := sinj h0
              exact TE_ret env rfl trivial trivial
            · first | exact (ftf hb).elim | exact (tff hb).elim | exact absurd hb (by decide)
          · refine TL_callB [(0, 500320), (1000, 500340), (1001, 500341)] (poly_NewJoiner.ok1 hr) poly_NewJoiner.fnb rfl ⟨trivial, ⟨trivial, ⟨trivial, trivial⟩⟩⟩ rfl ⟨.inr rfl, trivial⟩ rfl ?_
            refine TL_ev env 5 rfl ⟨trivial, ⟨trivial, ⟨trivial, ⟨trivial, ⟨trivial, trivial⟩⟩⟩⟩⟩ ?_
            refine TL_end ?_
            refine TE_go ?_
            refine TC_seq ?_
            refine TC_seq ?_
            refine TC_reg ?_
            refine TL_ev env 3 rfl ⟨trivial, ⟨⟨trivial, ⟨trivial, trivial⟩⟩, ⟨trivial, trivial⟩⟩⟩ ?_
            refine TL_gt rfl rfl rfl rfl ?_
            refine TL_ev env 1 rfl ⟨trivial, trivial⟩ ?_
            refine TL_gt rfl rfl rfl rfl ?_
            refine TL_ev env 2 rfl ⟨⟨trivial, ⟨trivial, trivial⟩⟩, ⟨⟨trivial, ⟨trivial, trivial⟩⟩, trivial⟩⟩ ?_
            refine TL_end ?_
            refine TE_go ?_
            refine TC_cond rfl (fun hb => ?_) (fun hb => ?_)
            · first | exact (ftf hb).elim | exact (tff hb).elim | exact absurd hb (by decide)
            · refine TC_skip ?_
              refine TE_go ?_
              refine TC_seq ?_
              refine TC_seq ?_
              refine TC_reg ?_
              refine TL_ev env 2 rfl ⟨trivial, ⟨trivial, trivial⟩⟩ ?_
              obtain ⟨r119, hr, h0⟩ := bnd h0
              refine TL_callB [] (psalterylaw08_cut_int16.ok0 hr) psalterylaw08_cut_int16.fnb rfl ⟨trivial, ⟨trivial, ⟨trivial, trivial⟩⟩⟩ rfl trivial rfl ?_
              refine TL_ev env 2 rfl ⟨⟨trivial, trivial⟩, ⟨trivial, trivial⟩⟩ ?_
              refine TL_end ?_
              refine TE_go ?_
              obtain ⟨z1, h1, h0⟩ := bnd h0
              refine TC_cut (α := (List (Int)) × (List (Int))) (fun s => z1 = s) (fun s => [(5, .int .i64 x91), (6, .p 12400 0), (8, .p 12401 0)]) (fun s => [(12400, some (.cells [.int .i64 x91, .im (.slice (.int .i16)) r98, .im (.slice (.int .i16)) r99, .sl 12402])), (12401, some (.cells [.int .i64 x91, .im (.slice (.int .i16)) r116, .im (.slice (.int .i16)) r117, .sl 12403])), (12402, some (.rows (.int .i64) s.1)), (12403, some (.rows (.int .i64) s.2))]) ?_ ?_
              · refine TC_blk ?_
                refine TC_loop (α := Int × (List (Int)) × (List (Int))) (fun n s => psalterylaw08_PolyQuiet.l1 K x91 r119 (r119.length : Int) r98 r99 r116 r117 n s.1 s.2.1 s.2.2 = some z1) (fun s => [(5, .int .i64 x91), (6, .p 15500 0), (8, .p 15501 0), (45, .im (.slice (.slice (.int .i16))) r119), (46, .int .i64 (r119.length : Int)), (47, .int .i64 s.1)]) (fun s => [(15500, some (.cells [.int .i64 x91, .im (.slice (.int .i16)) r98, .im (.slice (.int .i16)) r99, .sl 15502])), (15501, some (.cells [.int .i64 x91, .im (.slice (.int .i16)) r116, .im (.slice (.int .i16)) r117, .sl 15503])), (15502, some (.rows (.int .i64) s.2.1)), (15503, some (.rows (.int .i64) s.2.2))]) K ?_ ?_
                · exact SP_ren [(15500, 500280), (15501, 500340), (15502, 500281), (15503, 500341)] (_, _, _) h1 ⟨rfl, rfl, rfl, rfl, rfl, rfl, trivial⟩ ⟨rfl, rfl, rfl, rfl, trivial⟩ rfl
                rintro n ⟨x273, x274, x275⟩ h1
                rcases n with _ | n
                · exact (nsome h1).elim
                replace h1 : psalterylaw08_PolyQuiet.r1 K x91 r119 (r119.length : Int) r98 r99 r116 r117 (psalterylaw08_PolyQuiet.l1 K x91 r119 (r119.length : Int) r98 r99 r116 r117 n) x273 x274 x275 = some z1 := h1
                refine TC_seq ?_
                refine TC_reg ?_
                refine TL_ev env 1 rfl ⟨⟨trivial, ⟨trivial, trivial⟩⟩, trivial⟩ ?_
                refine TL_end ?_
                refine TE_go ?_
                refine TC_seq ?_
                refine TC_cond rfl (fun hb => ?_) (fun hb => ?_)
                · replace h1 := bif_t h1 hb
                  refine TC_skip ?_
                  refine TE_go ?_
                  refine TC_seq ?_
                  obtain ⟨z2, h2, h1⟩ := bnd h1
                  refine TC_cut (α := (List (Int)) × (List (Int))) (fun s => z2 = s) (fun s => [(5, .int .i64 x91), (6, .p 15800 0), (8, .p 15801 0), (45, .im (.slice (.slice (.int .i16))) r119), (46, .int .i64 (r119.length : Int)), (47, .int .i64 x273)]) (fun s => [(15800, some (.cells [.int .i64 x91, .im (.slice (.int .i16)) r98, .im (.slice (.int .i16)) r99, .sl 15802])), (15801, some (.cells [.int .i64 x91, .im (.slice (.int .i16)) r116, .im (.slice (.int .i16)) r117, .sl 15803])), (15802, some (.rows (.int .i64) s.1)), (15803, some (.rows (.int .i64) s.2))]) ?_ ?_
                  · refine TC_blk ?_
                    refine TC_seq ?_
                    refine TC_reg ?_
                    obtain ⟨g, h2⟩ := gd_t h2
                    refine TL_ev env 3 rfl ⟨⟨trivial, ⟨trivial, ⟨g.1, g.2⟩⟩⟩, ⟨⟨trivial, trivial⟩, ⟨trivial, trivial⟩⟩⟩ ?_
                    refine TL_end ?_
                    refine TE_go ?_
                    refine TC_seq ?_
                    refine TC_reg ?_
                    refine TL_ev env 2 rfl ⟨trivial, ⟨trivial, trivial⟩⟩ ?_
                    obtain ⟨z, hr, h2⟩ := bnd h2
                    rcases z with ⟨⟩ | ⟨r298, r299⟩
                    · refine TL_callB [(0, 15500), (1, 15502)] (poly_Splitter_Feed.ok0 hr) poly_Splitter_Feed.fnb rfl ⟨trivial, ⟨trivial, ⟨trivial, trivial⟩⟩⟩ rfl ⟨.inr rfl, .inr rfl, trivial⟩ rfl ?_
                      refine TL_ev env 5 rfl ⟨trivial, ⟨trivial, ⟨trivial, ⟨trivial, ⟨trivial, trivial⟩⟩⟩⟩⟩ ?_
                      refine TL_end ?_
                      refine TE_go ?_
                      refine TC_reg ?_
                      refine TL_ev env 2 rfl ⟨trivial, ⟨trivial, trivial⟩⟩ ?_
                      obtain ⟨z, hr, h2⟩ := bnd h2
                      rcases z with ⟨⟩ | ⟨r300, r301⟩
                      · refine TL_callB [(0, 15501), (1, 15503)] (poly_Joiner_Feed.ok0 hr) poly_Joiner_Feed.fnb rfl ⟨trivial, ⟨trivial, ⟨trivial, trivial⟩⟩⟩ rfl ⟨.inr rfl, .inr rfl, trivial⟩ rfl ?_
                        refine TL_end ?_
                        refine tbn ?_
                        obtain rfl := sinj h2
                        refine tsn ?_
                        exact SP_ren [(15800, 15500), (15801, 15501), (15802, 15502), (15803, 15503)] (_, _) rfl ⟨rfl, rfl, rfl, rfl, rfl, rfl, trivial⟩ ⟨rfl, rfl, rfl, rfl, trivial⟩ rfl
                      · refine TL_callB [(0, 15501), (1, 15503)] (poly_Joiner_Feed.ok1 hr) poly_Joiner_Feed.fnb rfl ⟨trivial, ⟨trivial, ⟨trivial, trivial⟩⟩⟩ rfl ⟨.inr rfl, .inr rfl, trivial⟩ rfl ?_
                        refine TL_end ?_
                        refine tbn ?_
                        obtain rfl := sinj h2
                        refine tsn ?_
                        exact SP_ren [(15800, 15500), (15801, 15501), (15802, 15502), (15803, 15503)] (_, _) rfl ⟨rfl, rfl, rfl, rfl, rfl, rfl, trivial⟩ ⟨rfl, rfl, rfl, rfl, trivial⟩ rfl
                    · refine TL_callB [(0, 15500), (1, 15502)] (poly_Splitter_Feed.ok1 hr) poly_Splitter_Feed.fnb rfl ⟨trivial, ⟨trivial, ⟨trivial, trivial⟩⟩⟩ rfl ⟨.inr rfl, .inr rfl, trivial⟩ rfl ?_
                      refine TL_ev env 5 rfl ⟨trivial, ⟨trivial, ⟨trivial, ⟨trivial, ⟨trivial, trivial⟩⟩⟩⟩⟩ ?_
                      refine TL_end ?_
                      refine TE_go ?_
                      refine TC_reg ?_
                      refine TL_ev env 2 rfl ⟨trivial, ⟨trivial, trivial⟩⟩ ?_
                      obtain ⟨z, hr, h2⟩ := bnd h2
                      rcases z with ⟨⟩ | ⟨r302, r303⟩
                      · refine TL_callB [(0, 15501), (1, 15503)] (poly_Joiner_Feed_2.ok0 hr) poly_Joiner_Feed_2.fnb rfl ⟨trivial, ⟨trivial, ⟨trivial, trivial⟩⟩⟩ rfl ⟨.inr rfl, .inr rfl, trivial⟩ rfl ?_
                        refine TL_end ?_
                        refine tbn ?_
                        obtain rfl := sinj h2
                        refine tsn ?_
                        exact SP_ren [(15800, 15500), (15801, 15501), (15802, 15502), (15803, 15503)] (_, _) rfl ⟨rfl, rfl, rfl, rfl, rfl, rfl, trivial⟩ ⟨rfl, rfl, rfl, rfl, trivial⟩ rfl
                      · refine TL_callB [(0, 15501), (1, 15503)] (poly_Joiner_Feed_2.ok1 hr) poly_Joiner_Feed_2.fnb rfl ⟨trivial, ⟨trivial, ⟨trivial, trivial⟩⟩⟩ rfl ⟨.inr rfl, .inr rfl, trivial⟩ rfl ?_
                        refine TL_end ?_
                        refine tbn ?_
                        obtain rfl := sinj h2
                        refine tsn ?_
                        exact SP_ren [(15800, 15500), (15801, 15501), (15802, 15502), (15803, 15503)] (_, _) rfl ⟨rfl, rfl, rfl, rfl, rfl, rfl, trivial⟩ ⟨rfl, rfl, rfl, rfl, trivial⟩ rfl
                  · rintro ⟨x294, x295⟩ rfl
                    refine TE_go ?_
                    refine TC_reg ?_
                    refine TL_ev env 2 rfl ⟨⟨trivial, ⟨trivial, trivial⟩⟩, ⟨trivial, trivial⟩⟩ ?_
                    refine TL_end ?_
                    refine tsn ?_
                    exact TE_nextr [(15500, 15800), (15501, 15801), (15502, 15802), (15503, 15803)] n (Nat.lt_succ_self n) (_, _, _) h1 ⟨rfl, rfl, rfl, rfl, rfl, rfl, trivial⟩ ⟨rfl, rfl, rfl, rfl, trivial⟩ rfl
                · replace h1 := bif_f h1 hb
                  refine TC_exit ?_
                  refine tsx ?_
                  refine tsx ?_
                  refine tbe ?_
                  obtain rfl := sinj h1
                  refine tsn ?_
                  exact SP_ren [(12400, 15500), (12401, 15501), (12402, 15502), (12403, 15503)] (_, _) rfl ⟨rfl, rfl, rfl, trivial⟩ ⟨rfl, rfl, rfl, rfl, trivial⟩ rfl
              · rintro ⟨x142, x143⟩ rfl
                refine TE_go ?_
                refine TC_seq ?_
                refine TC_seq ?_
                refine TC_reg ?_
                refine TL_ev env 1 rfl ⟨trivial, trivial⟩ ?_
                refine TL_end ?_
                refine TE_go ?_
                obtain ⟨z1, h1, h0⟩ := bnd h0
                refine TC_cut (α := Unit) (fun _ => z1 = .inl ()) (fun _ => []) (fun _ => []) ?_ ?_
                · refine TC_blk ?_
                  refine TC_loop (α := Int × (List (Int)) × (List (Int))) (fun n s => psalterylaw08_PolyQuiet.l0 K x91 r98 r99 r116 r117 n s.1 s.2.1 s.2.2 = some z1) (fun s => [(5, .int .i64 x91), (6, .p 13700 0), (8, .p 13701 0), (14, .int .i64 s.1)]) (fun s => [(13700, some (.cells [.int .i64 x91, .im (.slice (.int .i16)) r98, .im (.slice (.int .i16)) r99, .sl 13702])), (13701, some (.cells [.int .i64 x91, .im (.slice (.int .i16)) r116, .im (.slice (.int .i16)) r117, .sl 13703])), (13702, some (.rows (.int .i64) s.2.1)), (13703, some (.rows (.int .i64) s.2.2))]) K ?_ ?_
                  · exact SP_ren [(13700, 12400), (13701, 12401), (13702, 12402), (13703, 12403)] (_, _, _) h1 ⟨rfl, rfl, rfl, rfl, trivial⟩ ⟨rfl, rfl, rfl, rfl, trivial⟩ rfl
                  rintro n ⟨x186, x187, x188⟩ h1
                  rcases n with _ | n
                  · exact (nsome h1).elim
                  replace h1 : psalterylaw08_PolyQuiet.r0 K x91 r98 r99 r116 r117 (psalterylaw08_PolyQuiet.l0 K x91 r98 r99 r116 r117 n) x186 x187 x188 = some z1 := h1
                  refine TC_seq ?_
                  refine TC_seq ?_
                  refine TC_reg ?_
                  refine TL_ev env 2 rfl ⟨trivial, ⟨⟨trivial, ⟨trivial, trivial⟩⟩, trivial⟩⟩ ?_
                  refine TL_end ?_
                  refine TE_go ?_
                  refine TC_cond rfl (fun hb => ?_) (fun hb => ?_)
                  · replace h1 := bif_t h1 hb
                    refine TC_skip ?_
                    refine TE_go ?_
                    refine TC_seq ?_
                    obtain ⟨z2, h2, h1⟩ := bnd h1
                    refine TC_cut (α := (List (Int)) × (List (Int))) (fun s => z2 = .inl s) (fun s => [(5, .int .i64 x91), (6, .p 14800 0), (8, .p 14801 0), (14, .int .i64 x186)]) (fun s => [(14800, some (.cells [.int .i64 x91, .im (.slice (.int .i16)) r98, .im (.slice (.int .i16)) r99, .sl 14802])), (14801, some (.cells [.int .i64 x91, .im (.slice (.int .i16)) r116, .im (.slice (.int .i16)) r117, .sl 14803])), (14802, some (.rows (.int .i64) s.1)), (14803, some (.rows (.int .i64) s.2))]) ?_ ?_
                    · refine TC_blk ?_
                      refine TC_seq ?_
                      refine TC_reg ?_
                      obtain ⟨g, h2⟩ := gd_t h2
                      refine TL_ev env 3 rfl ⟨trivial, ⟨trivial, ⟨⟨trivial, ⟨trivial, ⟨g.1, ⟨g.2.1, g.2.2⟩⟩⟩⟩, trivial⟩⟩⟩ ?_
                      refine TL_frz 1068 rfl ?_
                      obtain ⟨z, hr, h2⟩ := bnd h2
                      rcases z with ⟨⟩ | ⟨r235, r236⟩
                      · refine TL_callB [(0, 13700), (1, 13702)] (poly_Splitter_Feed.ok0 hr) poly_Splitter_Feed.fnb rfl ⟨trivial, ⟨trivial, ⟨trivial, trivial⟩⟩⟩ rfl ⟨.inr rfl, .inr rfl, trivial⟩ rfl ?_
                        refine TL_ev env 5 rfl ⟨trivial, ⟨trivial, ⟨trivial, ⟨trivial, ⟨trivial, trivial⟩⟩⟩⟩⟩ ?_
                        refine TL_end ?_
                        refine TE_go ?_
                        refine TC_seq ?_
                        refine TC_reg ?_
                        obtain ⟨g, h2⟩ := gd_t h2
                        refine TL_ev env 3 rfl ⟨trivial, ⟨trivial, ⟨⟨trivial, ⟨trivial, ⟨g.1, ⟨g.2.1, g.2.2⟩⟩⟩⟩, trivial⟩⟩⟩ ?_
                        refine TL_frz 1075 rfl ?_
                        obtain ⟨z, hr, h2⟩ := bnd h2
                        rcases z with ⟨⟩ | ⟨r237, r238⟩
                        · refine TL_callB [(0, 13701), (1, 13703)] (poly_Joiner_Feed_2.ok0 hr) poly_Joiner_Feed_2.fnb rfl ⟨trivial, ⟨trivial, ⟨trivial, trivial⟩⟩⟩ rfl ⟨.inr rfl, .inr rfl, trivial⟩ rfl ?_
                          refine TL_ev env 5 rfl ⟨trivial, ⟨trivial, ⟨trivial, ⟨trivial, ⟨trivial, trivial⟩⟩⟩⟩⟩ ?_
                          refine TL_end ?_
                          refine TE_go ?_
                          refine TC_seq ?_
                          obtain ⟨z3, h3, h2⟩ := bnd h2
                          refine TC_cut (α := Bool) (fun s => z3 = s) (fun s => [(5, .int .i64 x91), (6, .p 14900 0), (8, .p 14901 0), (14, .int .i64 x186), (94, .bool s)]) (fun s => [(14900, some (.cells [.int .i64 x91, .im (.slice (.int .i16)) r98, .im (.slice (.int .i16)) r99, .sl 14902])), (14901, some (.cells [.int .i64 x91, .im (.slice (.int .i16)) r116, .im (.slice (.int .i16)) r117, .sl 14903])), (14902, some (.rows (.int .i64) x187)), (14903, some (.rows (.int .i64) x188))]) ?_ ?_
                          · refine TC_reg ?_
                            refine TL_ev env 3 rfl ⟨trivial, ⟨⟨trivial, ⟨trivial, trivial⟩⟩, ⟨trivial, trivial⟩⟩⟩ ?_
                            refine TL_split 81 rfl (fun hb => ?_) (fun hb => ?_)
                            · replace h3 := bif_t h3 hb
                              refine TL_gt rfl rfl rfl rfl ?_
                              refine TL_ev env 1 rfl ⟨trivial, trivial⟩ ?_
                              refine TL_gt rfl rfl rfl rfl ?_
                              refine TL_ev env 1 rfl ⟨trivial, trivial⟩ ?_
                              refine TL_gt rfl rfl rfl rfl ?_
                              obtain ⟨g, h3⟩ := gd_t h3
                              refine TL_ev env 1 rfl ⟨⟨trivial, ⟨trivial, ⟨g.1, ⟨g.2.1, g.2.2⟩⟩⟩⟩, trivial⟩ ?_
                              refine TL_gt rfl rfl rfl rfl ?_
                              refine TL_frz 1084 rfl ?_
                              obtain ⟨r243, hr, h3⟩ := bnd h3
                              refine TL_callB [] (psalteryref08_Same32_2.ok0 hr) psalteryref08_Same32_2.fnb rfl ⟨trivial, ⟨trivial, ⟨trivial, trivial⟩⟩⟩ rfl trivial rfl ?_
                              refine TL_gt rfl rfl rfl rfl ?_
                              refine TL_ev env 1 rfl ⟨trivial, trivial⟩ ?_
                              refine TL_gt rfl rfl rfl rfl ?_
                              refine TL_ev env 1 rfl ⟨trivial, trivial⟩ ?_
                              refine TL_split 87 rfl (fun hb => ?_) (fun hb => ?_)
                              · replace h3 := bif_t h3 hb
                                refine TL_gf (.bool false) rfl rfl rfl rfl rfl (by decide) ?_
                                refine TL_gf (.bool false) rfl rfl rfl rfl rfl (by decide) ?_
                                refine TL_gf (.bool false) rfl rfl rfl rfl rfl (by decide) ?_
                                refine TL_gf (.bool false) rfl rfl rfl rfl rfl (by decide) ?_
                                refine TL_gf (.bool false) rfl rfl rfl rfl rfl (by decide) ?_
                                refine TL_gt rfl rfl rfl rfl ?_
                                refine TL_ev env 2 rfl ⟨⟨trivial, ⟨trivial, fun e => e⟩⟩, ⟨⟨trivial, ⟨trivial, trivial⟩⟩, trivial⟩⟩ ?_
                                refine TL_end ?_
                                obtain rfl := sinj h3
                                refine tsn ?_
                                exact SP_ren [(14900, 13700), (14901, 13701), (14902, 13702), (14903, 13703)] _ rfl ⟨rfl, rfl, rfl, rfl, rfl, trivial⟩ ⟨rfl, rfl, rfl, rfl, trivial⟩ rfl
                              · replace h3 := bif_f h3 hb
                                refine TL_gt rfl rfl rfl rfl ?_
                                refine TL_ev env 1 rfl ⟨trivial, trivial⟩ ?_
                                refine TL_gt rfl rfl rfl rfl ?_
                                refine TL_ev env 1 rfl ⟨trivial, trivial⟩ ?_
                                refine TL_gt rfl rfl rfl rfl ?_
                                obtain ⟨g, h3⟩ := gd_t h3
                                refine TL_ev env 1 rfl ⟨⟨trivial, ⟨trivial, ⟨g.1, ⟨g.2.1, g.2.2⟩⟩⟩⟩, trivial⟩ ?_
                                refine TL_gt rfl rfl rfl rfl ?_
                                refine TL_frz 1090 rfl ?_
                                obtain ⟨r244, hr, h3⟩ := bnd h3
                                refine TL_callB [] (psalteryref04_Same.ok0 hr) psalteryref04_Same.fnb rfl ⟨trivial, ⟨trivial, ⟨trivial, trivial⟩⟩⟩ rfl trivial rfl ?_
                                refine TL_gt rfl rfl rfl rfl ?_
                                refine TL_ev env 1 rfl ⟨trivial, trivial⟩ ?_
                                refine TL_gt rfl rfl rfl rfl ?_
                                refine TL_ev env 2 rfl ⟨⟨trivial, ⟨trivial, trivial⟩⟩, ⟨⟨trivial, ⟨trivial, trivial⟩⟩, trivial⟩⟩ ?_
                                refine TL_end ?_
                                obtain rfl := sinj h3
                                refine tsn ?_
                                exact SP_ren [(14900, 13700), (14901, 13701), (14902, 13702), (14903, 13703)] _ rfl ⟨rfl, rfl, rfl, rfl, rfl, trivial⟩ ⟨rfl, rfl, rfl, rfl, trivial⟩ rfl
                            · replace h3 := bif_f h3 hb
                              refine TL_gf (.bool false) rfl rfl rfl rfl rfl (by decide) ?_
                              refine TL_gf (.bool false) rfl rfl rfl rfl rfl (by decide) ?_
                              refine TL_gf (.bool false) rfl rfl rfl rfl rfl (by decide) ?_
                              refine TL_gf (.bool false) rfl rfl rfl rfl rfl (by decide) ?_
                              refine TL_gf (.bool false) rfl rfl rfl rfl rfl (by decide) ?_
                              refine TL_gf (.bool false) rfl rfl rfl rfl rfl (by decide) ?_
                              refine TL_gu (.bool false) rfl rfl rfl rfl rfl (by decide) ?_
                              refine TL_gu (.bool false) rfl rfl rfl rfl rfl (by decide) ?_
                              refine TL_gu (.bool false) rfl rfl rfl rfl rfl (by decide) ?_
                              refine TL_gu (.bool false) rfl rfl rfl rfl rfl (by decide) ?_
                              refine TL_gu (.bool false) rfl rfl rfl rfl rfl (by decide) ?_
                              refine TL_gf (.bool false) rfl rfl rfl rfl rfl (by decide) ?_
                              refine TL_ev env 1 rfl ⟨⟨trivial, ⟨fun e => e, trivial⟩⟩, trivial⟩ ?_
                              refine TL_end ?_
                              obtain rfl := sinj h3
                              refine tsn ?_
                              exact SP_ren [(14900, 13700), (14901, 13701), (14902, 13702), (14903, 13703)] _ rfl ⟨rfl, rfl, rfl, rfl, rfl, trivial⟩ ⟨rfl, rfl, rfl, rfl, trivial⟩ rfl
                          · rintro x241 hz
                            obtain rfl := hz.symm
                            refine TE_go ?_
                            refine TC_cond rfl (fun hb => ?_) (fun hb => ?_)
                            · replace h2 := bif_t h2 hb
                              refine TC_seq ?_
                              refine TC_reg ?_
                              refine TL_ev env 1 rfl ⟨trivial, trivial⟩ ?_
                              refine TL_end ?_
                              refine TE_go ?_
                              refine TC_ret ?_
                              refine tbr ?_
                              refine tsr ?_
                              refine tsr ?_
                              refine tsr ?_
                              refine tbr ?_
                              refine tsr ?_
                              refine tsr ?_
                              obtain rfl := sinj h2
                              obtain rfl := sinj h1
                              obtain rfl := sinj h0
                              exact TE_ret env rfl trivial trivial
                            · replace h2 := bif_f h2 hb
                              refine TC_skip ?_
                              refine tbn ?_
                              obtain rfl := sinj h2
                              refine tsn ?_
                              exact SP_ren [(14800, 14900), (14801, 14901), (14802, 14902), (14803, 14903)] (_, _) rfl ⟨rfl, rfl, rfl, rfl, trivial⟩ ⟨rfl, rfl, rfl, rfl, trivial⟩ rfl
                        · refine TL_callB [(0, 13701), (1, 13703)] (poly_Joiner_Feed_2.ok1 hr) poly_Joiner_Feed_2.fnb rfl ⟨trivial, ⟨trivial, ⟨trivial, trivial⟩⟩⟩ rfl ⟨.inr rfl, .inr rfl, trivial⟩ rfl ?_
                          refine TL_ev env 5 rfl ⟨trivial, ⟨trivial, ⟨trivial, ⟨trivial, ⟨trivial, trivial⟩⟩⟩⟩⟩ ?_
                          refine TL_end ?_
                          refine TE_go ?_
                          refine TC_seq ?_
                          obtain ⟨z3, h3, h2⟩ := bnd h2
                          refine TC_cut (α := Bool) (fun s => z3 = s) (fun s => [(5, .int .i64 x91), (6, .p 15000 0), (8, .p 15001 0), (14, .int .i64 x186), (94, .bool s)]) (fun s => [(15000, some (.cells [.int .i64 x91, .im (.slice (.int .i16)) r98, .im (.slice (.int .i16)) r99, .sl 15002])), (15001, some (.cells [.int .i64 x91, .im (.slice (.int .i16)) r116, .im (.slice (.int .i16)) r117, .sl 15003])), (15002, some (.rows (.int .i64) x187)), (15003, some (.rows (.int .i64) r238))]) ?_ ?_
                          · refine TC_reg ?_
                            refine TL_ev env 3 rfl ⟨trivial, ⟨⟨trivial, ⟨trivial, trivial⟩⟩, ⟨trivial, trivial⟩⟩⟩ ?_
                            refine TL_split 81 rfl (fun hb => ?_) (fun hb => ?_)
                            · replace h3 := bif_t h3 hb
                              refine TL_gt rfl rfl rfl rfl ?_
                              refine TL_ev env 1 rfl ⟨trivial, trivial⟩ ?_
                              refine TL_gt rfl rfl rfl rfl ?_
                              refine TL_ev env 1 rfl ⟨trivial, trivial⟩ ?_
                              refine TL_gt rfl rfl rfl rfl ?_
                              obtain ⟨g, h3⟩ := gd_t h3
                              refine TL_ev env 1 rfl ⟨⟨trivial, ⟨trivial, ⟨g.1, ⟨g.2.1, g.2.2⟩⟩⟩⟩, trivial⟩ ?_
                              refine TL_gt rfl rfl rfl rfl ?_
                              refine TL_frz 1084 rfl ?_
                              obtain ⟨r249, hr, h3⟩ := bnd h3
                              refine TL_callB [] (psalteryref08_Same32_2.ok0 hr) psalteryref08_Same32_2.fnb rfl ⟨trivial, ⟨trivial, ⟨trivial, trivial⟩⟩⟩ rfl trivial rfl ?_
                              refine TL_gt rfl rfl rfl rfl ?_
                              refine TL_ev env 1 rfl ⟨trivial, trivial⟩ ?_
                              refine TL_gt rfl rfl rfl rfl ?_
                              refine TL_ev env 1 rfl ⟨trivial, trivial⟩ ?_
                              refine TL_split 87 rfl (fun hb => ?_) (fun hb => ?_)
                              · replace h3 := bif_t h3 hb
                                refine TL_gf (.bool false) rfl rfl rfl rfl rfl (by decide) ?_
                                refine TL_gf (.bool false) rfl rfl rfl rfl rfl (by decide) ?_
                                refine TL_gf (.bool false) rfl rfl rfl rfl rfl (by decide) ?_
                                refine TL_gf (.bool false) rfl rfl rfl rfl rfl (by decide) ?_
                                refine TL_gf (.bool false) rfl rfl rfl rfl rfl (by decide) ?_
                                refine TL_gt rfl rfl rfl rfl ?_
                                refine TL_ev env 2 rfl ⟨⟨trivial, ⟨trivial, fun e => e⟩⟩, ⟨⟨trivial, ⟨trivial, trivial⟩⟩, trivial⟩⟩ ?_
                                refine TL_end ?_
                                obtain rfl := sinj h3
                                refine tsn ?_
                                exact SP_ren [(15000, 13700), (15001, 13701), (15002, 13702), (15003, 13703)] _ rfl ⟨rfl, rfl, rfl, rfl, rfl, trivial⟩ ⟨rfl, rfl, rfl, rfl, trivial⟩ rfl
                              · replace h3 := bif_f h3 hb
                                refine TL_gt rfl rfl rfl rfl ?_
                                refine TL_ev env 1 rfl ⟨trivial, trivial⟩ ?_
                                refine TL_gt rfl rfl rfl rfl ?_
                                refine TL_ev env 1 rfl ⟨trivial, trivial⟩ ?_
                                refine TL_gt rfl rfl rfl rfl ?_
                                obtain ⟨g, h3⟩ := gd_t h3
                                refine TL_ev env 1 rfl ⟨⟨trivial, ⟨trivial, ⟨g.1, ⟨g.2.1, g.2.2⟩⟩⟩⟩, trivial⟩ ?_
                                refine TL_gt rfl rfl rfl rfl ?_
                                refine TL_frz 1090 rfl ?_
                                obtain ⟨r250, hr, h3⟩ := bnd h3
                                refine TL_callB [] (psalteryref04_Same_2.ok0 hr) psalteryref04_Same_2.fnb rfl ⟨trivial, ⟨trivial, ⟨trivial, trivial⟩⟩⟩ rfl trivial rfl ?_
                                refine TL_gt rfl rfl rfl rfl ?_
                                refine TL_ev env 1 rfl ⟨trivial, trivial⟩ ?_
                                refine TL_gt rfl rfl rfl rfl ?_
                                refine TL_ev env 2 rfl ⟨⟨trivial, ⟨trivial, trivial⟩⟩, ⟨⟨trivial, ⟨trivial, trivial⟩⟩, trivial⟩⟩ ?_
                                refine TL_end ?_
                                obtain rfl := sinj h3
                                refine tsn ?_
                                exact SP_ren [(15000, 13700), (15001, 13701), (15002, 13702), (15003, 13703)] _ rfl ⟨rfl, rfl, rfl, rfl, rfl, trivial⟩ ⟨rfl, rfl, rfl, rfl, trivial⟩ rfl
                            · replace h3 := bif_f h3 hb
                              refine TL_gf (.bool false) rfl rfl rfl rfl rfl (by decide) ?_
                              refine TL_gf (.bool false) rfl rfl rfl rfl rfl (by decide) ?_
                              refine TL_gf (.bool false) rfl rfl rfl rfl rfl (by decide) ?_
                              refine TL_gf (.bool false) rfl rfl rfl rfl rfl (by decide) ?_
                              refine TL_gf (.bool false) rfl rfl rfl rfl rfl (by decide) ?_
                              refine TL_gf (.bool false) rfl rfl rfl rfl rfl (by decide) ?_
                              refine TL_gu (.bool false) rfl rfl rfl rfl rfl (by decide) ?_
                              refine TL_gu (.bool false) rfl rfl rfl rfl rfl (by decide) ?_
                              refine TL_gu (.bool false) rfl rfl rfl rfl rfl (by decide) ?_
                              refine TL_gu (.bool false) rfl rfl rfl rfl rfl (by decide) ?_
                              refine TL_gu (.bool false) rfl rfl rfl rfl rfl (by decide) ?_
                              refine TL_gf (.bool false) rfl rfl rfl rfl rfl (by decide) ?_
                              refine TL_ev env 1 rfl ⟨⟨trivial, ⟨fun e => e, trivial⟩⟩, trivial⟩ ?_
                              refine TL_end ?_
                              obtain rfl := sinj h3
                              refine tsn ?_
                              exact SP_ren [(15000, 13700), (15001, 13701), (15002, 13702), (15003, 13703)] _ rfl ⟨rfl, rfl, rfl, rfl, rfl, trivial⟩ ⟨rfl, rfl, rfl, rfl, trivial⟩ rfl
                          · rintro x247 hz
                            obtain rfl := hz.symm
                            refine TE_go ?_
                            refine TC_cond rfl (fun hb => ?_) (fun hb => ?_)
                            · replace h2 := bif_t h2 hb
                              refine TC_seq ?_
                              refine TC_reg ?_
                              refine TL_ev env 1 rfl ⟨trivial, trivial⟩ ?_
                              refine TL_end ?_
                              refine TE_go ?_
                              refine TC_ret ?_
                              refine tbr ?_
                              refine tsr ?_
                              refine tsr ?_
                              refine tsr ?_
                              refine tbr ?_
                              refine tsr ?_
                              refine tsr ?_
                              obtain rfl := sinj h2
                              obtain rfl := sinj h1
                              obtain rfl := sinj h0
                              exact TE_ret env rfl trivial trivial
                            · replace h2 := bif_f h2 hb
                              refine TC_skip ?_
                              refine tbn ?_
                              obtain rfl := sinj h2
                              refine tsn ?_
                              exact SP_ren [(14800, 15000), (14801, 15001), (14802, 15002), (14803, 15003)] (_, _) rfl ⟨rfl, rfl, rfl, rfl, trivial⟩ ⟨rfl, rfl, rfl, rfl, trivial⟩ rfl
                      · refine TL_callB [(0, 13700), (1, 13702)] (poly_Splitter_Feed.ok1 hr) poly_Splitter_Feed.fnb rfl ⟨trivial, ⟨trivial, ⟨trivial, trivial⟩⟩⟩ rfl ⟨.inr rfl, .inr rfl, trivial⟩ rfl ?_
                        refine TL_ev env 5 rfl ⟨trivial, ⟨trivial, ⟨trivial, ⟨trivial, ⟨trivial, trivial⟩⟩⟩⟩⟩ ?_
                        refine TL_end ?_
                        refine TE_go ?_
                        refine TC_seq ?_
                        refine TC_reg ?_
                        obtain ⟨g, h2⟩ := gd_t h2
                        refine TL_ev env 3 rfl ⟨trivial, ⟨trivial, ⟨⟨trivial, ⟨trivial, ⟨g.1, ⟨g.2.1, g.2.2⟩⟩⟩⟩, trivial⟩⟩⟩ ?_
                        refine TL_frz 1075 rfl ?_
                        obtain ⟨z, hr, h2⟩ := bnd h2
                        rcases z with ⟨⟩ | ⟨r251, r252⟩
                        · refine TL_callB [(0, 13701), (1, 13703)] (poly_Joiner_Feed_2.ok0 hr) poly_Joiner_Feed_2.fnb rfl ⟨trivial, ⟨trivial, ⟨trivial, trivial⟩⟩⟩ rfl ⟨.inr rfl, .inr rfl, trivial⟩ rfl ?_
                          refine TL_ev env 5 rfl ⟨trivial, ⟨trivial, ⟨trivial, ⟨trivial, ⟨trivial, trivial⟩⟩⟩⟩⟩ ?_
                          refine TL_end ?_
                          refine TE_go ?_
                          refine TC_seq ?_
                          obtain ⟨z3, h3, h2⟩ := bnd h2
                          refine TC_cut (α := Bool) (fun s => z3 = s) (fun s => [(5, .int .i64 x91), (6, .p 15100 0), (8, .p 15101 0), (14, .int .i64 x186), (94, .bool s)]) (fun s => [(15100, some (.cells [.int .i64 x91, .im (.slice (.int .i16)) r98, .im (.slice (.int .i16)) r99, .sl 15102])), (15101, some (.cells [.int .i64 x91, .im (.slice (.int .i16)) r116, .im (.slice (.int .i16)) r117, .sl 15103])), (15102, some (.rows (.int .i64) r236)), (15103, some (.rows (.int .i64) x188))]) ?_ ?_
                          · refine TC_reg ?_
                            refine TL_ev env 3 rfl ⟨trivial, ⟨⟨trivial, ⟨trivial, trivial⟩⟩, ⟨trivial, trivial⟩⟩⟩ ?_
                            refine TL_split 81 rfl (fun hb => ?_) (fun hb => ?_)
                            · replace h3 := bif_t h3 hb
                              refine TL_gt rfl rfl rfl rfl ?_
                              refine TL_ev env 1 rfl ⟨trivial, trivial⟩ ?_
                              refine TL_gt rfl rfl rfl rfl ?_
                              refine TL_ev env 1 rfl ⟨trivial, trivial⟩ ?_
                              refine TL_gt rfl rfl rfl rfl ?_
                              obtain ⟨g, h3⟩ := gd_t h3
                              refine TL_ev env 1 rfl ⟨⟨trivial, ⟨trivial, ⟨g.1, ⟨g.2.1, g.2.2⟩⟩⟩⟩, trivial⟩ ?_
                              refine TL_gt rfl rfl rfl rfl ?_
                              refine TL_frz 1084 rfl ?_
                              obtain ⟨r257, hr, h3⟩ := bnd h3
                              refine TL_callB [] (psalteryref08_Same32.ok0 hr) psalteryref08_Same32.fnb rfl ⟨trivial, ⟨trivial, ⟨trivial, trivial⟩⟩⟩ rfl trivial rfl ?_
                              refine TL_gt rfl rfl rfl rfl ?_
                              refine TL_ev env 1 rfl ⟨trivial, trivial⟩ ?_
                              refine TL_gt rfl rfl rfl rfl ?_
                              refine TL_ev env 1 rfl ⟨trivial, trivial⟩ ?_
                              refine TL_split 87 rfl (fun hb => ?_) (fun hb => ?_)
                              · replace h3 := bif_t h3 hb
                                refine TL_gf (.bool false) rfl rfl rfl rfl rfl (by decide) ?_
                                refine TL_gf (.bool false) rfl rfl rfl rfl rfl (by decide) ?_
                                refine TL_gf (.bool false) rfl rfl rfl rfl rfl (by decide) ?_
                                refine TL_gf (.bool false) rfl rfl rfl rfl rfl (by decide) ?_
                                refine TL_gf (.bool false) rfl rfl rfl rfl rfl (by decide) ?_
                                refine TL_gt rfl rfl rfl rfl ?_
                                refine TL_ev env 2 rfl ⟨⟨trivial, ⟨trivial, fun e => e⟩⟩, ⟨⟨trivial, ⟨trivial, trivial⟩⟩, trivial⟩⟩ ?_
                                refine TL_end ?_
                                obtain rfl := sinj h3
                                refine tsn ?_
                                exact SP_ren [(15100, 13700), (15101, 13701), (15102, 13702), (15103, 13703)] _ rfl ⟨rfl, rfl, rfl, rfl, rfl, trivial⟩ ⟨rfl, rfl, rfl, rfl, trivial⟩ rfl
                              · replace h3 := bif_f h3 hb
                                refine TL_gt rfl rfl rfl rfl ?_
                                refine TL_ev env 1 rfl ⟨trivial, trivial⟩ ?_
                                refine TL_gt rfl rfl rfl rfl ?_
                                refine TL_ev env 1 rfl ⟨trivial, trivial⟩ ?_
                                refine TL_gt rfl rfl rfl rfl ?_
                                obtain ⟨g, h3⟩ := gd_t h3
                                refine TL_ev env 1 rfl ⟨⟨trivial, ⟨trivial, ⟨g.1, ⟨g.2.1, g.2.2⟩⟩⟩⟩, trivial⟩ ?_
                                refine TL_gt rfl rfl rfl rfl ?_
                                refine TL_frz 1090 rfl ?_
                                obtain ⟨r258, hr, h3⟩ := bnd h3
                                refine TL_callB [] (psalteryref04_Same.ok0 hr) psalteryref04_Same.fnb rfl ⟨trivial, ⟨trivial, ⟨trivial, trivial⟩⟩⟩ rfl trivial rfl ?_
                                refine TL_gt rfl rfl rfl rfl ?_
                                refine TL_ev env 1 rfl ⟨trivial, trivial⟩ ?_
                                refine TL_gt rfl rfl rfl rfl ?_
                                refine TL_ev env 2 rfl ⟨⟨trivial, ⟨trivial, trivial⟩⟩, ⟨⟨trivial, ⟨trivial, trivial⟩⟩, trivial⟩⟩ ?_
                                refine TL_end ?_
                                obtain rfl := sinj h3
                                refine tsn ?_
                                exact SP_ren [(15100, 13700), (15101, 13701), (15102, 13702), (15103, 13703)] _ rfl ⟨rfl, rfl, rfl, rfl, rfl, trivial⟩ ⟨rfl, rfl, rfl, rfl, trivial⟩ rfl
                            · replace h3 := bif_f h3 hb
                              refine TL_gf (.bool false) rfl rfl rfl rfl rfl (by decide) ?_
                              refine TL_gf (.bool false) rfl rfl rfl rfl rfl (by decide) ?_
                              refine TL_gf (.bool false) rfl rfl rfl rfl rfl (by decide) ?_
                              refine TL_gf (.bool false) rfl rfl rfl rfl rfl (by decide) ?_
                              refine TL_gf (.bool false) rfl rfl rfl rfl rfl (by decide) ?_
                              refine TL_gf (.bool false) rfl rfl rfl rfl rfl (by decide) ?_
                              refine TL_gu (.bool false) rfl rfl rfl rfl rfl (by decide) ?_
                              refine TL_gu (.bool false) rfl rfl rfl rfl rfl (by decide) ?_
                              refine TL_gu (.bool false) rfl rfl rfl rfl rfl (by decide) ?_
                              refine TL_gu (.bool false) rfl rfl rfl rfl rfl (by decide) ?_
                              refine TL_gu (.bool false) rfl rfl rfl rfl rfl (by decide) ?_
                              refine TL_gf (.bool false) rfl rfl rfl rfl rfl (by decide) ?_
                              refine TL_ev env 1 rfl ⟨⟨trivial, ⟨fun e => e, trivial⟩⟩, trivial⟩ ?_
                              refine TL_end ?_
                              obtain rfl := sinj h3
                              refine tsn ?_
                              exact SP_ren [(15100, 13700), (15101, 13701), (15102, 13702), (15103, 13703)] _ rfl ⟨rfl, rfl, rfl, rfl, rfl, trivial⟩ ⟨rfl, rfl, rfl, rfl, trivial⟩ rfl
                          · rintro x255 hz
                            obtain rfl := hz.symm
                            refine TE_go ?_
                            refine TC_cond rfl (fun hb => ?_) (fun hb => ?_)
                            · replace h2 := bif_t h2 hb
                              refine TC_seq ?_
                              refine TC_reg ?_
                              refine TL_ev env 1 rfl ⟨trivial, trivial⟩ ?_
                              refine TL_end ?_
                              refine TE_go ?_
                              refine TC_ret ?_
                              refine tbr ?_
                              refine tsr ?_
                              refine tsr ?_
                              refine tsr ?_
                              refine tbr ?_
                              refine tsr ?_
                              refine tsr ?_
                              obtain rfl := sinj h2
                              obtain rfl := sinj h1
                              obtain rfl := sinj h0
                              exact TE_ret env rfl trivial trivial
                            · replace h2 := bif_f h2 hb
                              refine TC_skip ?_
                              refine tbn ?_
                              obtain rfl := sinj h2
                              refine tsn ?_
                              exact SP_ren [(14800, 15100), (14801, 15101), (14802, 15102), (14803, 15103)] (_, _) rfl ⟨rfl, rfl, rfl, rfl, trivial⟩ ⟨rfl, rfl, rfl, rfl, trivial⟩ rfl
                        · refine TL_callB [(0, 13701), (1, 13703)] (poly_Joiner_Feed_2.ok1 hr) poly_Joiner_Feed_2.fnb rfl ⟨trivial, ⟨trivial, ⟨trivial, trivial⟩⟩⟩ rfl ⟨.inr rfl, .inr rfl, trivial⟩ rfl ?_
                          refine TL_ev env 5 rfl ⟨trivial, ⟨trivial, ⟨trivial, ⟨trivial, ⟨trivial, trivial⟩⟩⟩⟩⟩ ?_
                          refine TL_end ?_
                          refine TE_go ?_
                          refine TC_seq ?_
                          obtain ⟨z3, h3, h2⟩ := bnd h2
                          refine TC_cut (α := Bool) (fun s => z3 = s) (fun s => [(5, .int .i64 x91), (6, .p 15200 0), (8, .p 15201 0), (14, .int .i64 x186), (94, .bool s)]) (fun s => [(15200, some (.cells [.int .i64 x91, .im (.slice (.int .i16)) r98, .im (.slice (.int .i16)) r99, .sl 15202])), (15201, some (.cells [.int .i64 x91, .im (.slice (.int .i16)) r116, .im (.slice (.int .i16)) r117, .sl 15203])), (15202, some (.rows (.int .i64) r236)), (15203, some (.rows (.int .i64) r252))]) ?_ ?_
                          · refine TC_reg ?_
                            refine TL_ev env 3 rfl ⟨trivial, ⟨⟨trivial, ⟨trivial, trivial⟩⟩, ⟨trivial, trivial⟩⟩⟩ ?_
                            refine TL_split 81 rfl (fun hb => ?_) (fun hb => ?_)
                            · replace h3 := bif_t h3 hb
                              refine TL_gt rfl rfl rfl rfl ?_
                              refine TL_ev env 1 rfl ⟨trivial, trivial⟩ ?_
                              refine TL_gt rfl rfl rfl rfl ?_
                              refine TL_ev env 1 rfl ⟨trivial, trivial⟩ ?_
                              refine TL_gt rfl rfl rfl rfl ?_
                              obtain ⟨g, h3⟩ := gd_t h3
                              refine TL_ev env 1 rfl ⟨⟨trivial, ⟨trivial, ⟨g.1, ⟨g.2.1, g.2.2⟩⟩⟩⟩, trivial⟩ ?_
                              refine TL_gt rfl rfl rfl rfl ?_
                              refine TL_frz 1084 rfl ?_
                              obtain ⟨r263, hr, h3⟩ := bnd h3
                              refine TL_callB [] (psalteryref08_Same32.ok0 hr) psalteryref08_Same32.fnb rfl ⟨trivial, ⟨trivial, ⟨trivial, trivial⟩⟩⟩ rfl trivial rfl ?_
                              refine TL_gt rfl rfl rfl rfl ?_
                              refine TL_ev env 1 rfl ⟨trivial, trivial⟩ ?_
                              refine TL_gt rfl rfl rfl rfl ?_
                              refine TL_ev env 1 rfl ⟨trivial, trivial⟩ ?_
                              refine TL_split 87 rfl (fun hb => ?_) (fun hb => ?_)
                              · replace h3 := bif_t h3 hb
                                refine TL_gf (.bool false) rfl rfl rfl rfl rfl (by decide) ?_
                                refine TL_gf (.bool false) rfl rfl rfl rfl rfl (by decide) ?_
                                refine TL_gf (.bool false) rfl rfl rfl rfl rfl (by decide) ?_
                                refine TL_gf (.bool false) rfl rfl rfl rfl rfl (by decide) ?_
                                refine TL_gf (.bool false) rfl rfl rfl rfl rfl (by decide) ?_
                                refine TL_gt rfl rfl rfl rfl ?_
                                refine TL_ev env 2 rfl ⟨⟨trivial, ⟨trivial, fun e => e⟩⟩, ⟨⟨trivial, ⟨trivial, trivial⟩⟩, trivial⟩⟩ ?_
                                refine TL_end ?_
                                obtain rfl := sinj h3
                                refine tsn ?_
                                exact SP_ren [(15200, 13700), (15201, 13701), (15202, 13702), (15203, 13703)] _ rfl ⟨rfl, rfl, rfl, rfl, rfl, trivial⟩ ⟨rfl, rfl, rfl, rfl, trivial⟩ rfl
                              · replace h3 := bif_f h3 hb
                                refine TL_gt rfl rfl rfl rfl ?_
                                refine TL_ev env 1 rfl ⟨trivial, trivial⟩ ?_
                                refine TL_gt rfl rfl rfl rfl ?_
                                refine TL_ev env 1 rfl ⟨trivial, trivial⟩ ?_
                                refine TL_gt rfl rfl rfl rfl ?_
                                obtain ⟨g, h3⟩ := gd_t h3
                                refine TL_ev env 1 rfl ⟨⟨trivial, ⟨trivial, ⟨g.1, ⟨g.2.1, g.2.2⟩⟩⟩⟩, trivial⟩ ?_
                                refine TL_gt rfl rfl rfl rfl ?_
                                refine TL_frz 1090 rfl ?_
                                obtain ⟨r264, hr, h3⟩ := bnd h3
                                refine TL_callB [] (psalteryref04_Same_2.ok0 hr) psalteryref04_Same_2.fnb rfl ⟨trivial, ⟨trivial, ⟨trivial, trivial⟩⟩⟩ rfl trivial rfl ?_
                                refine TL_gt rfl rfl rfl rfl ?_
                                refine TL_ev env 1 rfl ⟨trivial, trivial⟩ ?_
                                refine TL_gt rfl rfl rfl rfl ?_
                                refine TL_ev env 2 rfl ⟨⟨trivial, ⟨trivial, trivial⟩⟩, ⟨⟨trivial, ⟨trivial, trivial⟩⟩, trivial⟩⟩ ?_
                                refine TL_end ?_
                                obtain rfl := sinj h3
                                refine tsn ?_
                                exact SP_ren [(15200, 13700), (15201, 13701), (15202, 13702), (15203, 13703)] _ rfl ⟨rfl, rfl, rfl, rfl, rfl, trivial⟩ ⟨rfl, rfl, rfl, rfl, trivial⟩ rfl
                            · replace h3 := bif_f h3 hb
                              refine TL_gf (.bool false) rfl rfl rfl rfl rfl (by decide) ?_
                              refine TL_gf (.bool false) rfl rfl rfl rfl rfl (by decide) ?_
                              refine TL_gf (.bool false) rfl rfl rfl rfl rfl (by decide) ?_
                              refine TL_gf (.bool false) rfl rfl rfl rfl rfl (by decide) ?_
                              refine TL_gf (.bool false) rfl rfl rfl rfl rfl (by decide) ?_
                              refine TL_gf (.bool false) rfl rfl rfl rfl rfl (by decide) ?_
                              refine TL_gu (.bool false) rfl rfl rfl rfl rfl (by decide) ?_
                              refine TL_gu (.bool false) rfl rfl rfl rfl rfl (by decide) ?_
                              refine TL_gu (.bool false) rfl rfl rfl rfl rfl (by decide) ?_
                              refine TL_gu (.bool false) rfl rfl rfl rfl rfl (by decide) ?_
                              refine TL_gu (.bool false) rfl rfl rfl rfl rfl (by decide) ?_
                              refine TL_gf (.bool false) rfl rfl rfl rfl rfl (by decide) ?_
                              refine TL_ev env 1 rfl ⟨⟨trivial, ⟨fun e => e, trivial⟩⟩, trivial⟩ ?_
                              refine TL_end ?_
                              obtain rfl := sinj h3
                              refine tsn ?_
                              exact SP_ren [(15200, 13700), (15201, 13701), (15202, 13702), (15203, 13703)] _ rfl ⟨rfl, rfl, rfl, rfl, rfl, trivial⟩ ⟨rfl, rfl, rfl, rfl, trivial⟩ rfl
                          · rintro x261 hz
                            obtain rfl := hz.symm
                            refine TE_go ?_
                            refine TC_cond rfl (fun hb => ?_) (fun hb => ?_)
                            · replace h2 := bif_t h2 hb
                              refine TC_seq ?_
                              refine TC_reg ?_
                              refine TL_ev env 1 rfl ⟨trivial, trivial⟩ ?_
                              refine TL_end ?_
                              refine TE_go ?_
                              refine TC_ret ?_
                              refine tbr ?_
                              refine tsr ?_
                              refine tsr ?_
                              refine tsr ?_
                              refine tbr ?_
                              refine tsr ?_
                              refine tsr ?_
                              obtain rfl := sinj h2
                              obtain rfl := sinj h1
                              obtain rfl := sinj h0
                              exact TE_ret env rfl trivial trivial
                            · replace h2 := bif_f h2 hb
                              refine TC_skip ?_
                              refine tbn ?_
                              obtain rfl := sinj h2
                              refine tsn ?_
                              exact SP_ren [(14800, 15200), (14801, 15201), (14802, 15202), (14803, 15203)] (_, _) rfl ⟨rfl, rfl, rfl, rfl, trivial⟩ ⟨rfl, rfl, rfl, rfl, trivial⟩ rfl
                    · rintro ⟨x231, x232⟩ rfl
                      refine TE_go ?_
                      refine TC_reg ?_
                      refine TL_ev env 3 rfl ⟨trivial, ⟨⟨trivial, ⟨trivial, trivial⟩⟩, ⟨trivial, trivial⟩⟩⟩ ?_
                      refine TL_end ?_
                      refine tsn ?_
                      exact TE_nextr [(13700, 14800), (13701, 14801), (13702, 14802), (13703, 14803)] n (Nat.lt_succ_self n) (_, _, _) h1 ⟨rfl, rfl, rfl, rfl, trivial⟩ ⟨rfl, rfl, rfl, rfl, trivial⟩ rfl
                  · replace h1 := bif_f h1 hb
                    refine TC_exit ?_
                    refine tsx ?_
                    refine tsx ?_
                    refine tbe ?_
                    obtain rfl := sinj h1
                    refine tsn ?_
                    exact SP_ren [] () rfl trivial trivial rfl
                · rintro ⟨⟩ rfl
                  refine TE_go ?_
                  refine TC_seq ?_
                  refine TC_reg ?_
                  refine TL_ev env 1 rfl ⟨trivial, trivial⟩ ?_
                  refine TL_end ?_
                  refine TE_go ?_
                  refine TC_ret ?_
                  obtain rfl := sinj h0
                  exact TE_ret env rfl trivial trivial
theorem psalterylaw08_PolyQuiet.ok0 {K : Nat} {p0 : Bool} {p1 : List (Int)} {q0 : Bool} (h0 : psalterylaw08_PolyQuiet K p0 p1 = some q0) : Fn Try.prog 5 [.bool p0, .im (.slice (.int .i16)) p1] [] (.bool q0) [] := psalterylaw08_PolyQuiet.ok h0
theorem psalterylaw08_PolyQuiet.fnb : fnb Try.prog 5 = true := fnb_of Try.func5 rfl
end Go.Fo
