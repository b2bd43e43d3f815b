/- Each call comes to the function that is written for it. -/
import Derived.Test.YtphienllhdoenaaPoT
import Derived.Test.YtphienllhdoenaaPoF
import Derived.Test.YtphienllhdoenaaBx
import Derived.Test.YtphienllhdoenaaPoP0
namespace Go.Fo
open Go.Proofs
set_option maxRecDepth 20000
set_option maxHeartbeats 4000000
def psalterylaw08_PolySplits.res (_p0 : Bool) (_p1 : List (Int)) : Bool → MV
  | q0 => .bool q0
def psalterylaw08_PolySplits.out (_p0 : Bool) (_p1 : List (Int)) : Bool → List (Nat × Option MObj)
  | _ => []
theorem psalterylaw08_PolySplits.ok {K : Nat} {p0 : Bool} {p1 : List (Int)} {r : Bool} (h0 : psalterylaw08_PolySplits K p0 p1 = some r) : Fn Try.prog 3 [.bool p0, .im (.slice (.int .i16)) p1] [] (psalterylaw08_PolySplits.res p0 p1 r) (psalterylaw08_PolySplits.out p0 p1 r) := by
  refine Fn_of Try.func3 rfl (Nat.le_of_ble_eq_true rfl) fun Γ => ?_
  refine TC_seq ?_
  refine TC_reg ?_
  refine TL_ev env 1 rfl ⟨trivial, trivial⟩ ?_
  refine TL_end ?_
  refine TE_go ?_
  refine TC_seq ?_
  refine TC_seq ?_
  refine TC_reg ?_
  obtain ⟨r41, hr, h0⟩ := bnd h0
  refine TL_callB [] (psalterylaw08_alive.ok0 hr) psalterylaw08_alive.fnb rfl ⟨trivial, trivial⟩ rfl trivial rfl ?_
  refine TL_ev env 1 rfl ⟨trivial, trivial⟩ ?_
  refine TL_end ?_
  refine TE_go ?_
  refine TC_cond rfl (fun hb => ?_) (fun hb => ?_)
  · replace h0 := bif_t h0 hb
    refine TC_seq ?_
    refine TC_reg ?_
    refine TL_ev env 1 rfl ⟨trivial, trivial⟩ ?_
    refine TL_end ?_
    refine TE_go ?_
    refine TC_ret ?_
    refine tsr ?_
    obtain rfl := sinj h0
    exact TE_ret env rfl trivial trivial
  · replace h0 := bif_f h0 hb
    refine TC_skip ?_
    refine TE_go ?_
    refine TC_seq ?_
    refine TC_seq ?_
    refine TC_reg ?_
    refine TL_ev env 3 rfl ⟨trivial, ⟨⟨trivial, trivial⟩, ⟨⟨trivial, ⟨trivial, trivial⟩⟩, trivial⟩⟩⟩ ?_
    refine TL_end ?_
    refine TE_go ?_
    refine TC_cond rfl (fun hb => ?_) (fun hb => ?_)
    · replace h0 := bif_t h0 hb
      refine TC_seq ?_
      refine TC_reg ?_
      refine TL_ev env 1 rfl ⟨trivial, trivial⟩ ?_
      refine TL_end ?_
      refine TE_go ?_
      refine TC_ret ?_
      refine tsr ?_
      obtain rfl := sinj h0
      exact TE_ret env rfl trivial trivial
    · replace h0 := bif_f h0 hb
      refine TC_skip ?_
      refine TE_go ?_
      refine TC_seq ?_
      refine TC_reg ?_
      refine TL_ev env 1 rfl ⟨trivial, trivial⟩ ?_
      refine TL_end ?_
      refine TE_go ?_
      refine TC_seq ?_
      refine TC_seq ?_
      refine TC_reg ?_
      refine TL_ev env 1 rfl ⟨trivial, trivial⟩ ?_
      refine TL_end ?_
      refine TE_go ?_
      obtain ⟨z1, h1, h0⟩ := bnd h0
      refine TC_cut (α := Int) (fun s => z1 = s) (fun s => [(1, .im (.slice (.int .i16)) p1), (5, .int .i64 s)]) (fun s => []) ?_ ?_
      · refine TC_cond rfl (fun hb => ?_) (fun hb => ?_)
        · replace h1 := bif_t h1 hb
          refine TC_reg ?_
          refine TL_ev env 1 rfl ⟨trivial, trivial⟩ ?_
          refine TL_end ?_
          obtain rfl := sinj h1
          refine tsn ?_
          exact SP_ren [] _ rfl ⟨rfl, rfl, trivial⟩ trivial rfl
        · replace h1 := bif_f h1 hb
          refine TC_skip ?_
          obtain rfl := sinj h1
          refine tsn ?_
          exact SP_ren [] _ rfl ⟨rfl, rfl, trivial⟩ trivial rfl
      · rintro x43 hz
        obtain rfl := hz.symm
        refine TE_go ?_
        refine TC_seq ?_
        refine TC_reg ?_
        obtain ⟨⟨⟩, hr, h0⟩ := bnd h0
        refine TL_callB [(1000, 500190)] (bank_New.ok0 hr) bank_New.fnb rfl ⟨trivial, trivial⟩ rfl trivial rfl ?_
        refine TL_ev env 1 rfl ⟨trivial, trivial⟩ ?_
        obtain ⟨z, hr, h0⟩ := bnd h0
        rcases z with ⟨r44, r45, r46⟩ | ⟨r47, r48, r49, r50, r51, r52⟩
        · refine TL_callB [(0, 500190)] (poly_NewSplitter.ok0 hr) poly_NewSplitter.fnb rfl ⟨trivial, ⟨trivial, ⟨trivial, trivial⟩⟩⟩ rfl ⟨.inr rfl, trivial⟩ rfl ?_
          refine TL_ev env 5 rfl ⟨trivial, ⟨trivial, ⟨trivial, ⟨trivial, ⟨trivial, trivial⟩⟩⟩⟩⟩ ?_
          refine TL_end ?_
          refine TE_go ?_
          refine TC_seq ?_
          refine TC_seq ?_
          refine TC_reg ?_
          refine TL_ev env 2 rfl ⟨trivial, ⟨⟨trivial, ⟨trivial, trivial⟩⟩, trivial⟩⟩ ?_
          refine TL_end ?_
          refine TE_go ?_
          refine TC_cond rfl (fun hb => ?_) (fun hb => ?_)
          · refine TC_seq ?_
            refine TC_reg ?_
            refine TL_ev env 1 rfl ⟨trivial, trivial⟩ ?_
            refine TL_end ?_
            refine TE_go ?_
            refine TC_ret ?_
            refine tsr ?_
            obtain rfl := sinj h0
            exact TE_ret env rfl trivial trivial
          · first | exact (ftf hb).elim | exact (tff hb).elim | exact absurd hb (by decide)
        · refine TL_callB [(0, 500190), (1000, 500210), (1001, 500211)] (poly_NewSplitter.ok1 hr) poly_NewSplitter.fnb rfl ⟨trivial, ⟨trivial, ⟨trivial, trivial⟩⟩⟩ rfl ⟨.inr rfl, trivial⟩ rfl ?_
          refine TL_ev env 5 rfl ⟨trivial, ⟨trivial, ⟨trivial, ⟨trivial, ⟨trivial, trivial⟩⟩⟩⟩⟩ ?_
          refine TL_end ?_
          refine TE_go ?_
          refine TC_seq ?_
          refine TC_seq ?_
          refine TC_reg ?_
          refine TL_ev env 2 rfl ⟨trivial, ⟨⟨trivial, ⟨trivial, trivial⟩⟩, trivial⟩⟩ ?_
          refine TL_end ?_
          refine TE_go ?_
          refine TC_cond rfl (fun hb => ?_) (fun hb => ?_)
          · first | exact (ftf hb).elim | exact (tff hb).elim | exact absurd hb (by decide)
          · refine TC_skip ?_
            refine TE_go ?_
            refine TC_seq ?_
            refine TC_reg ?_
            refine TL_ev env 2 rfl ⟨trivial, ⟨trivial, trivial⟩⟩ ?_
            obtain ⟨r53, hr, h0⟩ := bnd h0
            refine TL_callB [] (psalterylaw08_cut_int16.ok0 hr) psalterylaw08_cut_int16.fnb rfl ⟨trivial, ⟨trivial, ⟨trivial, trivial⟩⟩⟩ rfl trivial rfl ?_
            refine TL_ev env 1 rfl ⟨trivial, trivial⟩ ?_
            refine TL_end ?_
            refine TE_go ?_
            refine TC_seq ?_
            refine TC_seq ?_
            refine TC_reg ?_
            refine TL_ev env 1 rfl ⟨trivial, trivial⟩ ?_
            refine TL_end ?_
            refine TE_go ?_
            obtain ⟨z1, h1, h0⟩ := bnd h0
            refine TC_cut (α := Unit) (fun _ => z1 = .inl ()) (fun _ => []) (fun _ => []) ?_ ?_
            · refine TC_blk ?_
              refine TC_loop (α := Int × (List (Int))) (fun n s => psalterylaw08_PolySplits.l0 K x43 r53 r50 r51 n s.1 s.2 = some z1) (fun s => [(5, .int .i64 x43), (6, .p 11200 0), (8, .im (.slice (.slice (.int .i16))) r53), (9, .int .i64 s.1)]) (fun s => [(11200, some (.cells [.int .i64 x43, .im (.slice (.int .i16)) r50, .im (.slice (.int .i16)) r51, .sl 11201])), (11201, some (.rows (.int .i64) s.2))]) K ?_ ?_
              · exact SP_ren [(11200, 500210), (11201, 500211)] (_, _) h1 ⟨rfl, rfl, rfl, rfl, trivial⟩ ⟨rfl, rfl, trivial⟩ rfl
              rintro n ⟨x94, x95⟩ h1
              rcases n with _ | n
              · exact (nsome h1).elim
              replace h1 : psalterylaw08_PolySplits.r0 K x43 r53 r50 r51 (psalterylaw08_PolySplits.l0 K x43 r53 r50 r51 n) x94 x95 = some z1 := h1
              refine TC_seq ?_
              refine TC_seq ?_
              refine TC_reg ?_
              refine TL_ev env 4 rfl ⟨trivial, ⟨trivial, ⟨⟨trivial, trivial⟩, ⟨⟨trivial, ⟨trivial, trivial⟩⟩, trivial⟩⟩⟩⟩ ?_
              refine TL_end ?_
              refine TE_go ?_
              refine TC_cond rfl (fun hb => ?_) (fun hb => ?_)
              · replace h1 := bif_t h1 hb
                refine TC_skip ?_
                refine TE_go ?_
                refine TC_seq ?_
                refine TC_blk ?_
                refine TC_seq ?_
                refine TC_reg ?_
                obtain ⟨g, h1⟩ := gd_t h1
                refine TL_ev env 5 rfl ⟨trivial, ⟨trivial, ⟨trivial, ⟨⟨trivial, ⟨trivial, ⟨g.1, g.2⟩⟩⟩, ⟨⟨trivial, trivial⟩, trivial⟩⟩⟩⟩⟩ ?_
                obtain ⟨z, hr, h1⟩ := bnd h1
                rcases z with ⟨⟩ | ⟨r118, r119⟩
                · refine TL_callB [(0, 11200), (1, 11201)] (poly_Splitter_Feed.ok0 hr) poly_Splitter_Feed.fnb rfl ⟨trivial, ⟨trivial, ⟨trivial, trivial⟩⟩⟩ rfl ⟨.inr rfl, .inr rfl, trivial⟩ rfl ?_
                  refine TL_ev env 5 rfl ⟨trivial, ⟨trivial, ⟨trivial, ⟨trivial, ⟨trivial, trivial⟩⟩⟩⟩⟩ ?_
                  refine TL_end ?_
                  refine TE_go ?_
                  refine TC_seq ?_
                  refine TC_reg ?_
                  refine TL_ev env 3 rfl ⟨trivial, ⟨⟨trivial, ⟨trivial, trivial⟩⟩, ⟨trivial, trivial⟩⟩⟩ ?_
                  refine TL_gf (.bool false) rfl rfl rfl rfl rfl (by decide) ?_
                  refine TL_gf (.bool false) rfl rfl rfl rfl rfl (by decide) ?_
                  refine TL_gf (.bool false) rfl rfl rfl rfl rfl (by decide) ?_
                  refine TL_gf (.bool false) rfl rfl rfl rfl rfl (by decide) ?_
                  refine TL_gf (.bool false) rfl rfl rfl rfl rfl (by decide) ?_
                  refine TL_gf (.bool false) rfl rfl rfl rfl rfl (by decide) ?_
                  refine TL_gf (.bool false) rfl rfl rfl rfl rfl (by decide) ?_
                  refine TL_gf (.bool false) rfl rfl rfl rfl rfl (by decide) ?_
                  refine TL_gf (.bool false) rfl rfl rfl rfl rfl (by decide) ?_
                  refine TL_ev env 1 rfl ⟨⟨trivial, ⟨trivial, fun e => e⟩⟩, trivial⟩ ?_
                  refine TL_end ?_
                  refine TE_go ?_
                  refine TC_cond rfl (fun hb => ?_) (fun hb => ?_)
                  · refine TC_seq ?_
                    refine TC_reg ?_
                    refine TL_ev env 1 rfl ⟨trivial, trivial⟩ ?_
                    refine TL_end ?_
                    refine TE_go ?_
                    refine TC_ret ?_
                    refine tbr ?_
                    refine tsr ?_
                    refine tsr ?_
                    refine tbr ?_
                    refine tsr ?_
                    refine tsr ?_
                    obtain rfl := sinj h1
                    obtain rfl := sinj h0
                    exact TE_ret env rfl trivial trivial
                  · first | exact (ftf hb).elim | exact (tff hb).elim | exact absurd hb (by decide)
                · refine TL_callB [(0, 11200), (1, 11201)] (poly_Splitter_Feed.ok1 hr) poly_Splitter_Feed.fnb rfl ⟨trivial, ⟨trivial, ⟨trivial, trivial⟩⟩⟩ rfl ⟨.inr rfl, .inr rfl, trivial⟩ rfl ?_
                  refine TL_ev env 5 rfl ⟨trivial, ⟨trivial, ⟨trivial, ⟨trivial, ⟨trivial, trivial⟩⟩⟩⟩⟩ ?_
                  refine TL_end ?_
                  refine TE_go ?_
                  refine TC_seq ?_
                  refine TC_reg ?_
                  refine TL_ev env 3 rfl ⟨trivial, ⟨⟨trivial, ⟨trivial, trivial⟩⟩, ⟨trivial, trivial⟩⟩⟩ ?_
                  refine TL_gt rfl rfl rfl rfl ?_
                  refine TL_ev env 1 rfl ⟨trivial, trivial⟩ ?_
                  refine TL_gt rfl rfl rfl rfl ?_
                  refine TL_ev env 1 rfl ⟨trivial, trivial⟩ ?_
                  refine TL_gt rfl rfl rfl rfl ?_
                  refine TL_ev env 1 rfl ⟨trivial, trivial⟩ ?_
                  refine TL_gt rfl rfl rfl rfl ?_
                  refine TL_ev env 1 rfl ⟨⟨trivial, ⟨trivial, trivial⟩⟩, trivial⟩ ?_
                  refine TL_gt rfl rfl rfl rfl ?_
                  obtain ⟨g, h1⟩ := gd_t h1
                  refine TL_ev env 1 rfl ⟨⟨trivial, ⟨trivial, ⟨trivial, ⟨(by decide), ⟨g.1, g.2⟩⟩⟩⟩⟩, trivial⟩ ?_
                  refine TL_gt rfl rfl rfl rfl ?_
                  refine TL_ev env 1 rfl ⟨trivial, trivial⟩ ?_
                  refine TL_gt rfl rfl rfl rfl ?_
                  obtain ⟨r124, hr, h1⟩ := bnd h1
                  refine TL_callB [] (psalteryref08_Split.ok0 hr) psalteryref08_Split.fnb rfl ⟨trivial, ⟨trivial, ⟨trivial, trivial⟩⟩⟩ rfl trivial rfl ?_
                  refine TL_gt rfl rfl rfl rfl ?_
                  obtain ⟨r125, hr, h1⟩ := bnd h1
                  refine TL_callB [] (psalteryref08_Same32.ok0 hr) psalteryref08_Same32.fnb rfl ⟨trivial, ⟨trivial, ⟨trivial, trivial⟩⟩⟩ rfl trivial rfl ?_
                  refine TL_gt rfl rfl rfl rfl ?_
                  refine TL_ev env 2 rfl ⟨trivial, ⟨⟨trivial, ⟨trivial, trivial⟩⟩, trivial⟩⟩ ?_
                  refine TL_end ?_
                  refine TE_go ?_
                  refine TC_cond rfl (fun hb => ?_) (fun hb => ?_)
                  · replace h1 := bif_t h1 hb
                    refine TC_seq ?_
                    refine TC_reg ?_
                    refine TL_ev env 1 rfl ⟨trivial, trivial⟩ ?_
                    refine TL_end ?_
                    refine TE_go ?_
                    refine TC_ret ?_
                    refine tbr ?_
                    refine tsr ?_
                    refine tsr ?_
                    refine tbr ?_
                    refine tsr ?_
                    refine tsr ?_
                    obtain rfl := sinj h1
                    obtain rfl := sinj h0
                    exact TE_ret env rfl trivial trivial
                  · replace h1 := bif_f h1 hb
                    refine TC_skip ?_
                    refine tbn ?_
                    refine TE_go ?_
                    refine TC_reg ?_
                    refine TL_ev env 3 rfl ⟨trivial, ⟨⟨trivial, ⟨trivial, trivial⟩⟩, ⟨trivial, trivial⟩⟩⟩ ?_
                    refine TL_end ?_
                    refine tsn ?_
                    exact TE_nextr [(11200, 11200), (11201, 11201)] n (Nat.lt_succ_self n) (_, _) h1 ⟨rfl, rfl, rfl, rfl, trivial⟩ ⟨rfl, rfl, trivial⟩ rfl
              · replace h1 := bif_f h1 hb
                refine TC_exit ?_
                refine tsx ?_
                refine tsx ?_
                refine tbe ?_
                obtain rfl := sinj h1
                refine tsn ?_
                exact SP_ren [] () rfl trivial trivial rfl
            · rintro ⟨⟩ rfl
              refine TE_go ?_
              refine TC_seq ?_
              refine TC_reg ?_
              refine TL_ev env 1 rfl ⟨trivial, trivial⟩ ?_
              refine TL_end ?_
              refine TE_go ?_
              refine TC_ret ?_
              obtain rfl := sinj h0
              exact TE_ret env rfl trivial trivial
theorem psalterylaw08_PolySplits.ok0 {K : Nat} {p0 : Bool} {p1 : List (Int)} {q0 : Bool} (h0 : psalterylaw08_PolySplits K p0 p1 = some q0) : Fn Try.prog 3 [.bool p0, .im (.slice (.int .i16)) p1] [] (.bool q0) [] := psalterylaw08_PolySplits.ok h0
theorem psalterylaw08_PolySplits.fnb : fnb Try.prog 3 = true := fnb_of Try.func3 rfl
end Go.Fo
