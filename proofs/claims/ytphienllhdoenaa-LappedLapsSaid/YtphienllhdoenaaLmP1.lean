/- Each call comes to the function that is written for it. -/
import Derived.Test.YtphienllhdoenaaLmT
import Derived.Test.YtphienllhdoenaaLmF
import Derived.Test.YtphienllhdoenaaBx
import Derived.Test.YtphienllhdoenaaGx
import Derived.Test.YtphienllhdoenaaLmP0
namespace Go.Fo
open Go.Proofs
set_option maxRecDepth 20000
set_option maxHeartbeats 4000000
def psalterylaw09_LappedLaps.res (_p0 : Int) (_p1 : List (Int)) : Bool → MV
  | q0 => .bool q0
def psalterylaw09_LappedLaps.out (_p0 : Int) (_p1 : List (Int)) : Bool → List (Nat × Option MObj)
  | _ => []
theorem psalterylaw09_LappedLaps.ok {K : Nat} {p0 : Int} {p1 : List (Int)} {r : Bool} (h0 : psalterylaw09_LappedLaps K p0 p1 = some r) : Fn Try.prog 8 [.int .u8 p0, .im (.slice (.int .i16)) p1] [] (psalterylaw09_LappedLaps.res p0 p1 r) (psalterylaw09_LappedLaps.out p0 p1 r) := by
  refine Fn_of Try.func8 rfl (Nat.le_of_ble_eq_true rfl) fun Γ => ?_
  refine TC_seq ?_
  refine TC_reg ?_
  refine TL_ev env 1 rfl ⟨tv, tv⟩ ?_
  refine TL_end ?_
  refine TE_go ?_
  refine TC_seq ?_
  refine TC_seq ?_
  refine TC_reg ?_
  obtain ⟨r46, hr, h0⟩ := bnd h0
  refine TL_callB [] (psalterylaw09_alive.ok0 hr) psalterylaw09_alive.fnb rfl ⟨tv, tv⟩ rfl tv rfl ?_
  refine TL_ev env 1 rfl ⟨tv, tv⟩ ?_
  refine TL_end ?_
  refine TE_go ?_
  refine TC_cond rfl (fun hb => ?_) (fun hb => ?_)
  · replace h0 := bif_t h0 hb
    refine TC_seq ?_
    refine TC_reg ?_
    refine TL_ev env 1 rfl ⟨tv, tv⟩ ?_
    refine TL_end ?_
    refine TE_go ?_
    refine TC_ret ?_
    refine tsr ?_
    obtain rfl := sinj h0
    exact TE_ret env rfl tv tv
  · replace h0 := bif_f h0 hb
    refine TC_skip ?_
    refine TE_go ?_
    refine TC_seq ?_
    refine TC_reg ?_
    refine TL_ev env 1 rfl ⟨tv, tv⟩ ?_
    obtain ⟨r47, hr, h0⟩ := bnd h0
    refine TL_callB [] (psalterylaw09_length.ok0 hr) psalterylaw09_length.fnb rfl ⟨tv, ⟨tv, tv⟩⟩ rfl tv rfl ?_
    refine TL_ev env 1 rfl ⟨tv, tv⟩ ?_
    refine TL_end ?_
    refine TE_go ?_
    refine TC_seq ?_
    refine TC_reg ?_
    obtain ⟨⟨⟩, hr, h0⟩ := bnd h0
    refine TL_callB [(1000, 500180)] (bank_New.ok0 hr) bank_New.fnb rfl ⟨tv, tv⟩ rfl tv rfl ?_
    refine TL_ev env 1 rfl ⟨tv, tv⟩ ?_
    obtain ⟨z, hr, h0⟩ := bnd h0
    rcases z with ⟨r48, r49, r50⟩ | ⟨r51, r52, r53, r54, r55, r56⟩
    · refine TL_callB [(0, 500180)] (lapped_NewLapper.ok0 hr) lapped_NewLapper.fnb rfl ⟨tv, ⟨tv, ⟨tv, tv⟩⟩⟩ rfl ⟨.inr rfl, tv⟩ rfl ?_
      refine TL_ev env 5 rfl ⟨tv, ⟨tv, ⟨tv, ⟨tv, ⟨tv, tv⟩⟩⟩⟩⟩ ?_
      refine TL_end ?_
      refine TE_go ?_
      refine TC_seq ?_
      refine TC_seq ?_
      refine TC_reg ?_
      refine TL_ev env 3 rfl ⟨tv, ⟨⟨tv, ⟨tv, tv⟩⟩, ⟨tv, tv⟩⟩⟩ ?_
      refine TL_gf (.bool false) rfl rfl rfl rfl rfl (by decide) ?_
      refine TL_gf (.bool false) rfl rfl rfl rfl rfl (by decide) ?_
      refine TL_gf (.bool false) rfl rfl rfl rfl rfl (by decide) ?_
      refine TL_ev env 1 rfl ⟨⟨tv, ⟨tv, fun e => e⟩⟩, tv⟩ ?_
      refine TL_end ?_
      refine TE_go ?_
      refine TC_cond rfl (fun hb => ?_) (fun hb => ?_)
      · refine TC_seq ?_
        refine TC_reg ?_
        refine TL_ev env 3 rfl ⟨tv, ⟨⟨tv, ⟨tv, tv⟩⟩, ⟨tv, tv⟩⟩⟩ ?_
        refine TL_end ?_
        refine TE_go ?_
        refine TC_ret ?_
        refine tsr ?_
        obtain rfl := sinj h0
        exact TE_ret env rfl tv tv
      · first | exact (ftf hb).elim | exact (tff hb).elim | exact absurd hb (by decide)
    · refine TL_callB [(0, 500180), (1000, 500200), (1001, 500201)] (lapped_NewLapper.ok1 hr) lapped_NewLapper.fnb rfl ⟨tv, ⟨tv, ⟨tv, tv⟩⟩⟩ rfl ⟨.inr rfl, tv⟩ rfl ?_
      refine TL_ev env 5 rfl ⟨tv, ⟨tv, ⟨tv, ⟨tv, ⟨tv, tv⟩⟩⟩⟩⟩ ?_
      refine TL_end ?_
      refine TE_go ?_
      refine TC_seq ?_
      refine TC_seq ?_
      refine TC_reg ?_
      refine TL_ev env 3 rfl ⟨tv, ⟨⟨tv, ⟨tv, tv⟩⟩, ⟨tv, tv⟩⟩⟩ ?_
      refine TL_gt rfl rfl rfl rfl ?_
      refine TL_ev env 1 rfl ⟨tv, tv⟩ ?_
      refine TL_gt rfl rfl rfl rfl ?_
      refine TL_ev env 1 rfl ⟨⟨tv, tv⟩, tv⟩ ?_
      refine TL_gt rfl rfl rfl rfl ?_
      refine TL_ev env 2 rfl ⟨⟨tv, ⟨tv, tv⟩⟩, ⟨⟨tv, ⟨tv, tv⟩⟩, tv⟩⟩ ?_
      refine TL_end ?_
      refine TE_go ?_
      refine TC_cond rfl (fun hb => ?_) (fun hb => ?_)
      · replace h0 := bif_t h0 hb
        refine TC_seq ?_
        refine TC_reg ?_
        refine TL_ev env 3 rfl ⟨tv, ⟨⟨tv, ⟨tv, tv⟩⟩, ⟨tv, tv⟩⟩⟩ ?_
        refine TL_end ?_
        refine TE_go ?_
        refine TC_ret ?_
        refine tsr ?_
        obtain rfl := sinj h0
        exact TE_ret env rfl tv tv
      · replace h0 := bif_f h0 hb
        refine TC_skip ?_
        refine TE_go ?_
        refine TC_seq ?_
        refine TC_reg ?_
        obtain ⟨g, h0⟩ := gd_t h0
        refine TL_ev env 3 rfl ⟨tv, ⟨⟨tv, ⟨tv, ⟨g.1, ⟨g.2.1, g.2.2⟩⟩⟩⟩, ⟨tv, tv⟩⟩⟩ ?_
        refine TL_end ?_
        refine TE_go ?_
        refine TC_seq ?_
        refine TC_seq ?_
        refine TC_reg ?_
        refine TL_ev env 1 rfl ⟨tv, tv⟩ ?_
        refine TL_end ?_
        refine TE_go ?_
        obtain ⟨z1, h1, h0⟩ := bnd h0
        refine TC_cut (α := Unit) (fun _ => z1 = .inl ()) (fun _ => []) (fun _ => []) ?_ ?_
        · refine TC_blk ?_
          refine TC_loop (α := (List (Int)) × Int × (List (Int))) (fun n s => psalterylaw09_LappedLaps.l0 K p1 r47 r54 r55 n s.1 s.2.1 s.2.2 = some z1) (fun s => [(1, .im (.slice (.int .i16)) p1), (5, .int .i64 r47), (6, .p 11000 0), (8, .im (.slice (.int .i16)) s.1), (9, .int .i64 s.2.1)]) (fun s => [(11000, some (.cells [.int .i64 r47, .im (.slice (.int .i16)) r54, .im (.slice (.int .i16)) r55, .sl 11001])), (11001, some (.rows (.int .i16) s.2.2))]) K ?_ ?_
          · refine TE_frz 1033 rfl ?_
            exact SP_ren [(11000, 500200), (11001, 500201)] (_, _, _) h1 ⟨rfl, rfl, rfl, rfl, rfl, tv⟩ ⟨rfl, rfl, tv⟩ rfl
          rintro n ⟨x107, x108, x109⟩ h1
          rcases n with _ | n
          · exact (nsome h1).elim
          replace h1 : psalterylaw09_LappedLaps.r0 K p1 r47 r54 r55 (psalterylaw09_LappedLaps.l0 K p1 r47 r54 r55 n) x107 x108 x109 = some z1 := h1
          refine TC_seq ?_
          refine TC_seq ?_
          refine TC_reg ?_
          refine TL_ev env 4 rfl ⟨tv, ⟨tv, ⟨⟨tv, tv⟩, ⟨⟨tv, ⟨tv, tv⟩⟩, tv⟩⟩⟩⟩ ?_
          refine TL_end ?_
          refine TE_go ?_
          refine TC_cond rfl (fun hb => ?_) (fun hb => ?_)
          · replace h1 := bif_t h1 hb
            refine TC_skip ?_
            refine TE_go ?_
            refine TC_seq ?_
            refine TC_blk ?_
            refine TC_seq ?_
            refine TC_reg ?_
            refine TL_ev env 3 rfl ⟨tv, ⟨tv, ⟨tv, tv⟩⟩⟩ ?_
            obtain ⟨r135, hr, h1⟩ := bnd h1
            refine TL_callB [] (psalterylaw09_padded.ok0 hr) psalterylaw09_padded.fnb rfl ⟨tv, ⟨tv, ⟨tv, ⟨tv, tv⟩⟩⟩⟩ rfl tv rfl ?_
            refine TL_ev env 1 rfl ⟨tv, tv⟩ ?_
            refine TL_end ?_
            refine TE_go ?_
            refine TC_seq ?_
            refine TC_reg ?_
            refine TL_ev env 2 rfl ⟨tv, ⟨tv, tv⟩⟩ ?_
            obtain ⟨z, hr, h1⟩ := bnd h1
            rcases z with ⟨⟩ | ⟨r136, r137⟩
            · refine TL_callB [(0, 11000), (1, 11001)] (lapped_Lapper_Feed.ok0 hr) lapped_Lapper_Feed.fnb rfl ⟨tv, ⟨tv, ⟨tv, tv⟩⟩⟩ rfl ⟨.inr rfl, .inr rfl, tv⟩ rfl ?_
              refine TL_ev env 5 rfl ⟨tv, ⟨tv, ⟨tv, ⟨tv, ⟨tv, tv⟩⟩⟩⟩⟩ ?_
              refine TL_end ?_
              refine TE_go ?_
              refine TC_seq ?_
              refine TC_seq ?_
              refine TC_reg ?_
              refine TL_ev env 3 rfl ⟨tv, ⟨⟨tv, ⟨tv, tv⟩⟩, ⟨tv, tv⟩⟩⟩ ?_
              refine TL_gf (.bool false) rfl rfl rfl rfl rfl (by decide) ?_
              refine TL_gf (.bool false) rfl rfl rfl rfl rfl (by decide) ?_
              refine TL_gf (.bool false) rfl rfl rfl rfl rfl (by decide) ?_
              refine TL_gf (.bool false) rfl rfl rfl rfl rfl (by decide) ?_
              refine TL_gf (.bool false) rfl rfl rfl rfl rfl (by decide) ?_
              refine TL_gf (.bool false) rfl rfl rfl rfl rfl (by decide) ?_
              refine TL_gf (.bool false) rfl rfl rfl rfl rfl (by decide) ?_
              refine TL_ev env 1 rfl ⟨⟨tv, ⟨tv, fun e => e⟩⟩, tv⟩ ?_
              refine TL_end ?_
              refine TE_go ?_
              refine TC_cond rfl (fun hb => ?_) (fun hb => ?_)
              · refine TC_seq ?_
                refine TC_reg ?_
                refine TL_ev env 1 rfl ⟨tv, tv⟩ ?_
                refine TL_end ?_
                refine TE_go ?_
                refine TC_ret ?_
                refine tsr ?_
                refine tbr ?_
                refine tsr ?_
                refine tsr ?_
                refine tbr ?_
                refine tsr ?_
                refine tsr ?_
                obtain rfl := sinj h1
                obtain rfl := sinj h0
                exact TE_ret env rfl tv tv
              · first | exact (ftf hb).elim | exact (tff hb).elim | exact absurd hb (by decide)
            · refine TL_callB [(0, 11000), (1, 11001)] (lapped_Lapper_Feed.ok1 hr) lapped_Lapper_Feed.fnb rfl ⟨tv, ⟨tv, ⟨tv, tv⟩⟩⟩ rfl ⟨.inr rfl, .inr rfl, tv⟩ rfl ?_
              refine TL_ev env 5 rfl ⟨tv, ⟨tv, ⟨tv, ⟨tv, ⟨tv, tv⟩⟩⟩⟩⟩ ?_
              refine TL_end ?_
              refine TE_go ?_
              refine TC_seq ?_
              refine TC_seq ?_
              refine TC_reg ?_
              refine TL_ev env 3 rfl ⟨tv, ⟨⟨tv, ⟨tv, tv⟩⟩, ⟨tv, tv⟩⟩⟩ ?_
              refine TL_gt rfl rfl rfl rfl ?_
              refine TL_ev env 1 rfl ⟨tv, tv⟩ ?_
              refine TL_gt rfl rfl rfl rfl ?_
              refine TL_ev env 1 rfl ⟨tv, tv⟩ ?_
              refine TL_gt rfl rfl rfl rfl ?_
              refine TL_ev env 1 rfl ⟨tv, tv⟩ ?_
              refine TL_gt rfl rfl rfl rfl ?_
              refine TL_ev env 1 rfl ⟨tv, tv⟩ ?_
              refine TL_gt rfl rfl rfl rfl ?_
              obtain ⟨r140, hr, h1⟩ := bnd h1
              refine TL_callB [] (psalteryref09_Lap.ok0 hr) psalteryref09_Lap.fnb rfl ⟨tv, ⟨tv, ⟨tv, ⟨tv, tv⟩⟩⟩⟩ rfl tv rfl ?_
              refine TL_gt rfl rfl rfl rfl ?_
              obtain ⟨r141, hr, h1⟩ := bnd h1
              refine TL_callB [] (psalteryref08_Same32.ok0 hr) psalteryref08_Same32.fnb rfl ⟨tv, ⟨tv, ⟨tv, tv⟩⟩⟩ rfl tv rfl ?_
              refine TL_gt rfl rfl rfl rfl ?_
              refine TL_ev env 2 rfl ⟨tv, ⟨⟨tv, ⟨tv, tv⟩⟩, tv⟩⟩ ?_
              refine TL_end ?_
              refine TE_go ?_
              refine TC_cond rfl (fun hb => ?_) (fun hb => ?_)
              · replace h1 := bif_t h1 hb
                refine TC_seq ?_
                refine TC_reg ?_
                refine TL_ev env 1 rfl ⟨tv, tv⟩ ?_
                refine TL_end ?_
                refine TE_go ?_
                refine TC_ret ?_
                refine tsr ?_
                refine tbr ?_
                refine tsr ?_
                refine tsr ?_
                refine tbr ?_
                refine tsr ?_
                refine tsr ?_
                obtain rfl := sinj h1
                obtain rfl := sinj h0
                exact TE_ret env rfl tv tv
              · replace h1 := bif_f h1 hb
                refine TC_skip ?_
                refine TE_go ?_
                refine TC_reg ?_
                refine TL_ev env 2 rfl ⟨tv, ⟨tv, tv⟩⟩ ?_
                refine TL_end ?_
                refine tbn ?_
                refine TE_go ?_
                refine TC_reg ?_
                refine TL_ev env 4 rfl ⟨tv, ⟨tv, ⟨⟨tv, ⟨tv, tv⟩⟩, ⟨tv, tv⟩⟩⟩⟩ ?_
                refine TL_end ?_
                refine tsn ?_
                exact TE_nextr [(11000, 11000), (11001, 11001)] n (Nat.lt_succ_self n) (_, _, _) h1 ⟨rfl, rfl, rfl, rfl, rfl, tv⟩ ⟨rfl, rfl, tv⟩ rfl
          · replace h1 := bif_f h1 hb
            refine TC_exit ?_
            refine tsx ?_
            refine tsx ?_
            refine tbe ?_
            obtain rfl := sinj h1
            refine tsn ?_
            exact SP_ren [] () rfl tv tv rfl
        · rintro ⟨⟩ rfl
          refine TE_go ?_
          refine TC_seq ?_
          refine TC_reg ?_
          refine TL_ev env 1 rfl ⟨tv, tv⟩ ?_
          refine TL_end ?_
          refine TE_go ?_
          refine TC_ret ?_
          obtain rfl := sinj h0
          exact TE_ret env rfl tv tv
theorem psalterylaw09_LappedLaps.ok0 {K : Nat} {p0 : Int} {p1 : List (Int)} {q0 : Bool} (h0 : psalterylaw09_LappedLaps K p0 p1 = some q0) : Fn Try.prog 8 [.int .u8 p0, .im (.slice (.int .i16)) p1] [] (.bool q0) [] := psalterylaw09_LappedLaps.ok h0
theorem psalterylaw09_LappedLaps.fnb : fnb Try.prog 8 = true := fnb_of Try.func8 rfl
end Go.Fo
