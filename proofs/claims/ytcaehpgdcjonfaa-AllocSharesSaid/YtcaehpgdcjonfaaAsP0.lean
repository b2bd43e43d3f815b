/- Each call comes to the function that is written for it. -/
import Derived.Test.YtcaehpgdcjonfaaAsT
import Derived.Test.YtcaehpgdcjonfaaAsF
namespace Go.Fo
open Go.Proofs
set_option maxRecDepth 20000
set_option maxHeartbeats 4000000
def format_within.res (_p0 : Int) (_p1 : Int) (_p2 : Int) : Bool → MV
  | q0 => .bool q0
def format_within.out (_p0 : Int) (_p1 : Int) (_p2 : Int) : Bool → List (Nat × Option MObj)
  | _ => []
theorem format_within.ok {K : Nat} {p0 : Int} {p1 : Int} {p2 : Int} {r : Bool} (h0 : format_within K p0 p1 p2 = some r) : Fn Try.prog 129 [.int .i64 p0, .int .i64 p1, .int .i64 p2] [] (format_within.res p0 p1 p2 r) (format_within.out p0 p1 p2 r) := by
  refine Fn_of Try.func129 rfl (Nat.le_of_ble_eq_true rfl) fun Γ => ?_
  refine TC_seq ?_
  refine TC_reg ?_
  refine TL_ev env 1 rfl ⟨tv, tv⟩ ?_
  refine TL_end ?_
  refine TE_go ?_
  refine TC_seq ?_
  refine TC_reg ?_
  refine TL_ev env 9 rfl ⟨tv, ⟨tv, ⟨⟨tv, ⟨tv, tv⟩⟩, ⟨tv, ⟨fun eg => tv, ⟨fun eg => tv, ⟨fun eg => ⟨fun e => e, ⟨fun e => e, tv⟩⟩, ⟨⟨tv, ⟨fun e => e, tv⟩⟩, ⟨tv, tv⟩⟩⟩⟩⟩⟩⟩⟩⟩ ?_
  refine TL_end ?_
  refine TE_go ?_
  refine TC_ret ?_
  obtain rfl := sinj h0
  exact TE_ret env rfl tv tv
theorem format_within.ok0 {K : Nat} {p0 : Int} {p1 : Int} {p2 : Int} {q0 : Bool} (h0 : format_within K p0 p1 p2 = some q0) : Fn Try.prog 129 [.int .i64 p0, .int .i64 p1, .int .i64 p2] [] (.bool q0) [] := format_within.ok h0
theorem format_within.fnb : fnb Try.prog 129 = true := fnb_of Try.func129 rfl
def slices_Index_bool_bool.res (_p0 : Bool) (_p1 : List (Bool)) : Int → MV
  | q0 => .int .i64 q0
def slices_Index_bool_bool.out (_p0 : Bool) (p1 : List (Bool)) : Int → List (Nat × Option MObj)
  | _ => [(0, some (.rows (.bool) p1))]
theorem slices_Index_bool_bool.ok {K : Nat} {p0 : Bool} {p1 : List (Bool)} {r : Int} (h0 : slices_Index_bool_bool K p0 p1 = some r) : Fn Try.prog 173 [.sl 0, .bool p0] [(0, some (.rows (.bool) p1))] (slices_Index_bool_bool.res p0 p1 r) (slices_Index_bool_bool.out p0 p1 r) := by
  refine Fn_of Try.func173 rfl (Nat.le_of_ble_eq_true rfl) fun Γ => ?_
  refine TC_seq ?_
  refine TC_reg ?_
  refine TL_ev env 1 rfl ⟨tv, tv⟩ ?_
  refine TL_end ?_
  refine TE_go ?_
  refine TC_seq ?_
  refine TC_seq ?_
  refine TC_reg ?_
  refine TL_ev env 3 rfl ⟨tv, ⟨⟨tv, tv⟩, ⟨tv, tv⟩⟩⟩ ?_
  refine TL_end ?_
  refine TE_go ?_
  obtain ⟨z1, h1, h0⟩ := bnd h0
  refine TC_cut (α := Unit) (fun _ => z1 = .inl ()) (fun _ => []) (fun _ => [(0, some (.rows (.bool) p1))]) ?_ ?_
  · refine TC_blk ?_
    refine TC_loop (α := Int) (fun n s => slices_Index_bool_bool.l0 K p0 (p1.length : Int) p1 n s = some z1) (fun s => [(0, .sl 0), (1, .bool p0), (7, .int .i64 (p1.length : Int)), (8, .int .i64 s)]) (fun s => [(0, some (.rows (.bool) p1))]) K ?_ ?_
    · exact SP_ren [] _ h1 ⟨rfl, rfl, rfl, rfl, tv⟩ ⟨rfl, tv⟩ rfl
    rintro n x5 h1
    rcases n with _ | n
    · exact (nsome h1).elim
    replace h1 : slices_Index_bool_bool.r0 K p0 (p1.length : Int) p1 (slices_Index_bool_bool.l0 K p0 (p1.length : Int) p1 n) x5 = some z1 := h1
    refine TC_seq ?_
    refine TC_reg ?_
    refine TL_ev env 1 rfl ⟨⟨tv, ⟨tv, tv⟩⟩, tv⟩ ?_
    refine TL_end ?_
    refine TE_go ?_
    refine TC_seq ?_
    refine TC_cond rfl (fun hb => ?_) (fun hb => ?_)
    · replace h1 := bif_t h1 hb
      refine TC_skip ?_
      refine TE_go ?_
      refine TC_seq ?_
      refine TC_blk ?_
      refine TC_seq ?_
      refine TC_reg ?_
      refine TL_ev env 2 rfl ⟨tv, ⟨tv, tv⟩⟩ ?_
      refine TL_end ?_
      refine TE_go ?_
      refine TC_seq ?_
      refine TC_reg ?_
      obtain ⟨g, h1⟩ := gd_t h1
      refine TL_ev env 6 rfl ⟨tv, ⟨tv, ⟨tv, ⟨⟨tv, ⟨tv, ⟨g.1, g.2.1⟩⟩⟩, ⟨⟨tv, g.2.2⟩, ⟨⟨tv, ⟨tv, tv⟩⟩, tv⟩⟩⟩⟩⟩⟩ ?_
      refine TL_end ?_
      refine TE_go ?_
      refine TC_cond rfl (fun hb => ?_) (fun hb => ?_)
      · replace h1 := bif_t h1 hb
        refine TC_seq ?_
        refine TC_reg ?_
        refine TL_ev env 2 rfl ⟨tv, ⟨tv, tv⟩⟩ ?_
        refine TL_end ?_
        refine TE_go ?_
        refine TC_ret ?_
        refine tbr ?_
        refine tsr ?_
        refine tsr ?_
        refine tbr ?_
        refine tsr ?_
        refine tsr ?_
        obtain rfl := sinj h1
        obtain rfl := sinj h0
        exact TE_ret env rfl tv ⟨.inr rfl, tv⟩
      · replace h1 := bif_f h1 hb
        refine TC_skip ?_
        refine tbn ?_
        refine TE_go ?_
        refine TC_reg ?_
        refine TL_ev env 2 rfl ⟨⟨tv, ⟨tv, tv⟩⟩, ⟨tv, tv⟩⟩ ?_
        refine TL_end ?_
        refine tsn ?_
        exact TE_nextr [] n (Nat.lt_succ_self n) _ h1 ⟨rfl, rfl, rfl, rfl, tv⟩ ⟨rfl, tv⟩ rfl
    · replace h1 := bif_f h1 hb
      refine TC_exit ?_
      refine tsx ?_
      refine tsx ?_
      refine tbe ?_
      obtain rfl := sinj h1
      refine tsn ?_
      exact SP_ren [] () rfl tv ⟨rfl, tv⟩ rfl
  · rintro ⟨⟩ rfl
    refine TE_go ?_
    refine TC_seq ?_
    refine TC_reg ?_
    refine TL_ev env 1 rfl ⟨tv, tv⟩ ?_
    refine TL_end ?_
    refine TE_go ?_
    refine TC_ret ?_
    obtain rfl := sinj h0
    exact TE_ret env rfl tv ⟨.inr rfl, tv⟩
theorem slices_Index_bool_bool.ok0 {K : Nat} {p0 : Bool} {p1 : List (Bool)} {q0 : Int} (h0 : slices_Index_bool_bool K p0 p1 = some q0) : Fn Try.prog 173 [.sl 0, .bool p0] [(0, some (.rows (.bool) p1))] (.int .i64 q0) [(0, some (.rows (.bool) p1))] := slices_Index_bool_bool.ok h0
theorem slices_Index_bool_bool.fnb : fnb Try.prog 173 = true := fnb_of Try.func173 rfl
def slices_Contains_bool_bool.res (_p0 : Bool) (_p1 : List (Bool)) : Bool → MV
  | q0 => .bool q0
def slices_Contains_bool_bool.out (_p0 : Bool) (p1 : List (Bool)) : Bool → List (Nat × Option MObj)
  | _ => [(0, some (.rows (.bool) p1))]
theorem slices_Contains_bool_bool.ok {K : Nat} {p0 : Bool} {p1 : List (Bool)} {r : Bool} (h0 : slices_Contains_bool_bool K p0 p1 = some r) : Fn Try.prog 157 [.sl 0, .bool p0] [(0, some (.rows (.bool) p1))] (slices_Contains_bool_bool.res p0 p1 r) (slices_Contains_bool_bool.out p0 p1 r) := by
  refine Fn_of Try.func157 rfl (Nat.le_of_ble_eq_true rfl) fun Γ => ?_
  refine TC_seq ?_
  refine TC_reg ?_
  refine TL_ev env 1 rfl ⟨tv, tv⟩ ?_
  refine TL_end ?_
  refine TE_go ?_
  refine TC_seq ?_
  refine TC_reg ?_
  refine TL_ev env 2 rfl ⟨tv, ⟨tv, tv⟩⟩ ?_
  obtain ⟨r2, hr, h0⟩ := bnd h0
  refine TL_callB [(0, 0)] (slices_Index_bool_bool.ok0 hr) slices_Index_bool_bool.fnb rfl ⟨tv, ⟨tv, ⟨tv, tv⟩⟩⟩ rfl ⟨.inr rfl, tv⟩ rfl ?_
  refine TL_ev env 2 rfl ⟨⟨tv, ⟨tv, tv⟩⟩, ⟨tv, tv⟩⟩ ?_
  refine TL_end ?_
  refine TE_go ?_
  refine TC_ret ?_
  obtain rfl := sinj h0
  exact TE_ret env rfl tv ⟨.inr rfl, tv⟩
theorem slices_Contains_bool_bool.ok0 {K : Nat} {p0 : Bool} {p1 : List (Bool)} {q0 : Bool} (h0 : slices_Contains_bool_bool K p0 p1 = some q0) : Fn Try.prog 157 [.sl 0, .bool p0] [(0, some (.rows (.bool) p1))] (.bool q0) [(0, some (.rows (.bool) p1))] := slices_Contains_bool_bool.ok h0
theorem slices_Contains_bool_bool.fnb : fnb Try.prog 157 = true := fnb_of Try.func157 rfl
def format_all.res (_p0 : List (Bool)) : Bool → MV
  | q0 => .bool q0
def format_all.out (p0 : List (Bool)) : Bool → List (Nat × Option MObj)
  | _ => [(0, some (.rows (.bool) p0))]
theorem format_all.ok {K : Nat} {p0 : List (Bool)} {r : Bool} (h0 : format_all K p0 = some r) : Fn Try.prog 128 [.sl 0] [(0, some (.rows (.bool) p0))] (format_all.res p0 r) (format_all.out p0 r) := by
  refine Fn_of Try.func128 rfl (Nat.le_of_ble_eq_true rfl) fun Γ => ?_
  refine TC_seq ?_
  refine TC_reg ?_
  refine TL_ev env 1 rfl ⟨tv, tv⟩ ?_
  refine TL_end ?_
  refine TE_go ?_
  refine TC_seq ?_
  refine TC_reg ?_
  refine TL_ev env 1 rfl ⟨tv, tv⟩ ?_
  obtain ⟨r2, hr, h0⟩ := bnd h0
  refine TL_callB [(0, 0)] (slices_Contains_bool_bool.ok0 hr) slices_Contains_bool_bool.fnb rfl ⟨tv, ⟨tv, ⟨tv, tv⟩⟩⟩ rfl ⟨.inr rfl, tv⟩ rfl ?_
  refine TL_ev env 2 rfl ⟨tv, ⟨tv, tv⟩⟩ ?_
  refine TL_end ?_
  refine TE_go ?_
  refine TC_ret ?_
  obtain rfl := sinj h0
  exact TE_ret env rfl tv ⟨.inr rfl, tv⟩
theorem format_all.ok0 {K : Nat} {p0 : List (Bool)} {q0 : Bool} (h0 : format_all K p0 = some q0) : Fn Try.prog 128 [.sl 0] [(0, some (.rows (.bool) p0))] (.bool q0) [(0, some (.rows (.bool) p0))] := format_all.ok h0
theorem format_all.fnb : fnb Try.prog 128 = true := fnb_of Try.func128 rfl
def lapped_lengths.res  : Unit → MV
  | () => .agg [.int .i64 40, .int .i64 60, .int .i64 80, .int .i64 120]
def lapped_lengths.out  : Unit → List (Nat × Option MObj)
  | () => []
theorem lapped_lengths.ok {K : Nat}  {r : Unit} (h0 : lapped_lengths K  = some r) : Fn Try.prog 131 [] [] (lapped_lengths.res  r) (lapped_lengths.out  r) := by
  refine Fn_of Try.func131 rfl (Nat.le_of_ble_eq_true rfl) fun Γ => ?_
  refine TC_seq ?_
  refine TC_reg ?_
  refine TL_ev env 1 rfl ⟨tv, tv⟩ ?_
  refine TL_end ?_
  refine TE_go ?_
  refine TC_seq ?_
  refine TC_reg ?_
  refine TL_ev env 2 rfl ⟨⟨tv, ⟨tv, ⟨tv, ⟨tv, tv⟩⟩⟩⟩, ⟨⟨tv, tv⟩, tv⟩⟩ ?_
  refine TL_end ?_
  refine TE_go ?_
  refine TC_ret ?_
  obtain rfl := sinj h0
  exact TE_ret env rfl ⟨tv, tv⟩ tv
theorem lapped_lengths.ok0 {K : Nat}   (h0 : lapped_lengths K  = some ()) : Fn Try.prog 131 [] [] (.agg [.int .i64 40, .int .i64 60, .int .i64 80, .int .i64 120]) [] := lapped_lengths.ok h0
theorem lapped_lengths.fnb : fnb Try.prog 131 = true := fnb_of Try.func131 rfl
def lapped_Lengths.res  : (List (Int)) → MV
  | q0 => .im (.slice (.int .i64)) q0
def lapped_Lengths.out  : (List (Int)) → List (Nat × Option MObj)
  | _ => []
theorem lapped_Lengths.ok {K : Nat}  {r : (List (Int))} (h0 : lapped_Lengths K  = some r) : Fn Try.prog 96 [] [] (lapped_Lengths.res  r) (lapped_Lengths.out  r) := by
  refine Fn_of Try.func96 rfl (Nat.le_of_ble_eq_true rfl) fun Γ => ?_
  refine TC_seq ?_
  refine TC_reg ?_
  refine TL_ev env 1 rfl ⟨tv, tv⟩ ?_
  refine TL_end ?_
  refine TE_go ?_
  refine TC_seq ?_
  refine TC_reg ?_
  obtain ⟨⟨⟩, hr, h0⟩ := bnd h0
  refine TL_callB [] (lapped_lengths.ok0 hr) lapped_lengths.fnb rfl ⟨tv, tv⟩ rfl tv rfl ?_
  refine TL_ev env 2 rfl ⟨tv, ⟨⟨tv, tv⟩, tv⟩⟩ ?_
  refine TL_end ?_
  refine TE_go ?_
  refine TC_seq ?_
  refine TC_reg ?_
  refine TL_frzc 1001 (.pair (.int .i64) (.pair (.int .i64) (.pair (.int .i64) (.int .i64)))) (40, (60, (80, 120))) rfl ?_
  refine TL_ev env 2 rfl ⟨⟨tv, ⟨tv, ⟨tv, ⟨(by decide), ⟨(by decide), (by decide)⟩⟩⟩⟩⟩, ⟨tv, tv⟩⟩ ?_
  refine TL_end ?_
  refine TE_go ?_
  refine TC_ret ?_
  obtain rfl := sinj h0
  exact TE_ret env rfl tv tv
theorem lapped_Lengths.ok0 {K : Nat}  {q0 : List (Int)} (h0 : lapped_Lengths K  = some q0) : Fn Try.prog 96 [] [] (.im (.slice (.int .i64)) q0) [] := lapped_Lengths.ok h0
theorem lapped_Lengths.fnb : fnb Try.prog 96 = true := fnb_of Try.func96 rfl
def slices_Index_int_int.res (_p0 : List (Int)) (_p1 : Int) : Int → MV
  | q0 => .int .i64 q0
def slices_Index_int_int.out (_p0 : List (Int)) (_p1 : Int) : Int → List (Nat × Option MObj)
  | _ => []
theorem slices_Index_int_int.ok {K : Nat} {p0 : List (Int)} {p1 : Int} {r : Int} (h0 : slices_Index_int_int K p0 p1 = some r) : Fn Try.prog 95 [.im (.slice (.int .i64)) p0, .int .i64 p1] [] (slices_Index_int_int.res p0 p1 r) (slices_Index_int_int.out p0 p1 r) := by
  refine Fn_of Try.func95 rfl (Nat.le_of_ble_eq_true rfl) fun Γ => ?_
  refine TC_seq ?_
  refine TC_reg ?_
  refine TL_ev env 1 rfl ⟨tv, tv⟩ ?_
  refine TL_end ?_
  refine TE_go ?_
  refine TC_seq ?_
  refine TC_seq ?_
  refine TC_reg ?_
  refine TL_ev env 3 rfl ⟨tv, ⟨⟨tv, tv⟩, ⟨tv, tv⟩⟩⟩ ?_
  refine TL_end ?_
  refine TE_go ?_
  obtain ⟨z1, h1, h0⟩ := bnd h0
  refine TC_cut (α := Unit) (fun _ => z1 = .inl ()) (fun _ => []) (fun _ => []) ?_ ?_
  · refine TC_blk ?_
    refine TC_loop (α := Int) (fun n s => slices_Index_int_int.l0 K p0 p1 (p0.length : Int) n s = some z1) (fun s => [(0, .im (.slice (.int .i64)) p0), (1, .int .i64 p1), (7, .int .i64 (p0.length : Int)), (8, .int .i64 s)]) (fun s => []) K ?_ ?_
    · exact SP_ren [] _ h1 ⟨rfl, rfl, rfl, rfl, tv⟩ tv rfl
    rintro n x5 h1
    rcases n with _ | n
    · exact (nsome h1).elim
    replace h1 : slices_Index_int_int.r0 K p0 p1 (p0.length : Int) (slices_Index_int_int.l0 K p0 p1 (p0.length : Int) n) x5 = some z1 := h1
    refine TC_seq ?_
    refine TC_reg ?_
    refine TL_ev env 1 rfl ⟨⟨tv, ⟨tv, tv⟩⟩, tv⟩ ?_
    refine TL_end ?_
    refine TE_go ?_
    refine TC_seq ?_
    refine TC_cond rfl (fun hb => ?_) (fun hb => ?_)
    · replace h1 := bif_t h1 hb
      refine TC_skip ?_
      refine TE_go ?_
      refine TC_seq ?_
      refine TC_blk ?_
      refine TC_seq ?_
      refine TC_reg ?_
      refine TL_ev env 2 rfl ⟨tv, ⟨tv, tv⟩⟩ ?_
      refine TL_end ?_
      refine TE_go ?_
      refine TC_seq ?_
      refine TC_reg ?_
      obtain ⟨g, h1⟩ := gd_t h1
      refine TL_ev env 6 rfl ⟨tv, ⟨tv, ⟨tv, ⟨⟨tv, ⟨tv, ⟨g.1, g.2⟩⟩⟩, ⟨⟨tv, tv⟩, ⟨⟨tv, ⟨tv, tv⟩⟩, tv⟩⟩⟩⟩⟩⟩ ?_
      refine TL_end ?_
      refine TE_go ?_
      refine TC_cond rfl (fun hb => ?_) (fun hb => ?_)
      · replace h1 := bif_t h1 hb
        refine TC_seq ?_
        refine TC_reg ?_
        refine TL_ev env 2 rfl ⟨tv, ⟨tv, tv⟩⟩ ?_
        refine TL_end ?_
        refine TE_go ?_
        refine TC_ret ?_
        refine tbr ?_
        refine tsr ?_
        refine tsr ?_
        refine tbr ?_
        refine tsr ?_
        refine tsr ?_
        obtain rfl := sinj h1
        obtain rfl := sinj h0
        exact TE_ret env rfl tv tv
      · replace h1 := bif_f h1 hb
        refine TC_skip ?_
        refine tbn ?_
        refine TE_go ?_
        refine TC_reg ?_
        refine TL_ev env 2 rfl ⟨⟨tv, ⟨tv, tv⟩⟩, ⟨tv, tv⟩⟩ ?_
        refine TL_end ?_
        refine tsn ?_
        exact TE_nextr [] n (Nat.lt_succ_self n) _ h1 ⟨rfl, rfl, rfl, rfl, tv⟩ tv rfl
    · replace h1 := bif_f h1 hb
      refine TC_exit ?_
      refine tsx ?_
      refine tsx ?_
      refine tbe ?_
      obtain rfl := sinj h1
      refine tsn ?_
      exact SP_ren [] () rfl tv tv rfl
  · rintro ⟨⟩ rfl
    refine TE_go ?_
    refine TC_seq ?_
    refine TC_reg ?_
    refine TL_ev env 1 rfl ⟨tv, tv⟩ ?_
    refine TL_end ?_
    refine TE_go ?_
    refine TC_ret ?_
    obtain rfl := sinj h0
    exact TE_ret env rfl tv tv
theorem slices_Index_int_int.ok0 {K : Nat} {p0 : List (Int)} {p1 : Int} {q0 : Int} (h0 : slices_Index_int_int K p0 p1 = some q0) : Fn Try.prog 95 [.im (.slice (.int .i64)) p0, .int .i64 p1] [] (.int .i64 q0) [] := slices_Index_int_int.ok h0
theorem slices_Index_int_int.fnb : fnb Try.prog 95 = true := fnb_of Try.func95 rfl
def slices_Contains_int_int.res (_p0 : List (Int)) (_p1 : Int) : Bool → MV
  | q0 => .bool q0
def slices_Contains_int_int.out (_p0 : List (Int)) (_p1 : Int) : Bool → List (Nat × Option MObj)
  | _ => []
theorem slices_Contains_int_int.ok {K : Nat} {p0 : List (Int)} {p1 : Int} {r : Bool} (h0 : slices_Contains_int_int K p0 p1 = some r) : Fn Try.prog 130 [.im (.slice (.int .i64)) p0, .int .i64 p1] [] (slices_Contains_int_int.res p0 p1 r) (slices_Contains_int_int.out p0 p1 r) := by
  refine Fn_of Try.func130 rfl (Nat.le_of_ble_eq_true rfl) fun Γ => ?_
  refine TC_seq ?_
  refine TC_reg ?_
  refine TL_ev env 1 rfl ⟨tv, tv⟩ ?_
  refine TL_end ?_
  refine TE_go ?_
  refine TC_seq ?_
  refine TC_reg ?_
  refine TL_ev env 2 rfl ⟨tv, ⟨tv, tv⟩⟩ ?_
  obtain ⟨r2, hr, h0⟩ := bnd h0
  refine TL_callB [] (slices_Index_int_int.ok0 hr) slices_Index_int_int.fnb rfl ⟨tv, ⟨tv, ⟨tv, tv⟩⟩⟩ rfl tv rfl ?_
  refine TL_ev env 2 rfl ⟨⟨tv, ⟨tv, tv⟩⟩, ⟨tv, tv⟩⟩ ?_
  refine TL_end ?_
  refine TE_go ?_
  refine TC_ret ?_
  obtain rfl := sinj h0
  exact TE_ret env rfl tv tv
theorem slices_Contains_int_int.ok0 {K : Nat} {p0 : List (Int)} {p1 : Int} {q0 : Bool} (h0 : slices_Contains_int_int K p0 p1 = some q0) : Fn Try.prog 130 [.im (.slice (.int .i64)) p0, .int .i64 p1] [] (.bool q0) [] := slices_Contains_int_int.ok h0
theorem slices_Contains_int_int.fnb : fnb Try.prog 130 = true := fnb_of Try.func130 rfl
def format_fields.res (_p0 : Int) (_p1 : Int) (_p2 : Int) (_p3 : Int) (_p4 : Int) (_p5 : Int) (_p6 : Int) (_p7 : Int) (_p8 : Int) (_p9 : Int) : Bool → MV
  | q0 => .bool q0
def format_fields.out (_p0 : Int) (_p1 : Int) (_p2 : Int) (_p3 : Int) (_p4 : Int) (_p5 : Int) (_p6 : Int) (_p7 : Int) (_p8 : Int) (_p9 : Int) : Bool → List (Nat × Option MObj)
  | _ => []
theorem format_fields.ok {K : Nat} {p0 : Int} {p1 : Int} {p2 : Int} {p3 : Int} {p4 : Int} {p5 : Int} {p6 : Int} {p7 : Int} {p8 : Int} {p9 : Int} {r : Bool} (h0 : format_fields K p0 p1 p2 p3 p4 p5 p6 p7 p8 p9 = some r) : Fn Try.prog 87 [.agg [.int .i64 p0, .int .i64 p1, .int .i64 p2, .int .i64 p3, .int .i64 p4, .int .i64 p5, .int .i64 p6, .int .i64 p7, .int .i64 p8, .int .i64 p9]] [] (format_fields.res p0 p1 p2 p3 p4 p5 p6 p7 p8 p9 r) (format_fields.out p0 p1 p2 p3 p4 p5 p6 p7 p8 p9 r) := by
  refine Fn_of Try.func87 rfl (Nat.le_of_ble_eq_true rfl) fun Γ => ?_
  refine TC_seq ?_
  refine TC_reg ?_
  refine TL_ev env 2 rfl ⟨tv, ⟨tv, tv⟩⟩ ?_
  refine TL_end ?_
  refine TE_go ?_
  refine TC_seq ?_
  refine TC_renw (A' := [(1, .p 1001 0)]) (L' := [(1001, some (.cells [.int .i64 _, .int .i64 _, .int .i64 _, .int .i64 _, .int .i64 _, .int .i64 _, .int .i64 _, .int .i64 _, .int .i64 _, .int .i64 _]))]) [] ⟨rfl, tv⟩ ⟨rfl, tv⟩ rfl ?_
  refine TC_drawR ⟨_, fun i => ([[], [0], [1, 0], [], [3], [4, 3, 2, 1, 0], [5, 4, 3, 2, 1, 0], [6, 5, 4, 3, 2, 1, 0], [7, 6, 5, 4, 3, 2, 1, 0]] : List (List Nat)).getD i [], fun i => ([[], [], [], [], [], [], [1010], [1010], []] : List (List Nat)).getD i [], fun i => ([[], [], [], [], [], [], [1010], [], []] : List (List Nat)).getD i []⟩ (fun i => ([[], [], [], [], [], [], [], [], []] : List (List Nat)).getD i []) (by kernel_rfl) (by kernel_rfl) ?_
  refine AJR_ev env 1 rfl (Nat.le_of_ble_eq_true rfl) rfl tv ?_
  refine AJR_ev env 2 rfl (Nat.le_of_ble_eq_true rfl) rfl ⟨tv, tv⟩ ?_
  obtain ⟨r64, hr, h0⟩ := bnd h0
  refine AJR_call 3 rfl (Nat.le_of_ble_eq_true rfl) [] rfl (format_within.ok0 hr) format_within.fnb rfl ⟨tv, ⟨tv, ⟨tv, ⟨tv, tv⟩⟩⟩⟩ rfl tv rfl ?_
  refine AJR_ev env 4 rfl (Nat.le_of_ble_eq_true rfl) rfl tv ?_
  refine AJR_ev env 5 rfl (Nat.le_of_ble_eq_true rfl) rfl ⟨tv, tv⟩ ?_
  obtain ⟨r65, hr, h0⟩ := bnd h0
  refine AJR_call 6 rfl (Nat.le_of_ble_eq_true rfl) [] rfl (format_within.ok0 hr) format_within.fnb rfl ⟨tv, ⟨tv, ⟨tv, ⟨tv, tv⟩⟩⟩⟩ rfl tv rfl ?_
  refine AJR_ev env 7 rfl (Nat.le_of_ble_eq_true rfl) rfl ⟨tv, ⟨tv, tv⟩⟩ ?_
  obtain ⟨r66, hr, h0⟩ := bnd h0
  refine AJR_call 8 rfl (Nat.le_of_ble_eq_true rfl) [(0, 1010)] rfl (format_all.ok0 hr) format_all.fnb rfl ⟨tv, ⟨tv, tv⟩⟩ rfl ⟨.inr rfl, tv⟩ rfl ?_
  refine AJR_ev env 9 rfl (Nat.le_of_ble_eq_true rfl) rfl tv ?_
  refine AJR_end rfl rfl rfl ?_
  refine TE_go ?_
  refine TC_seq ?_
  refine TC_seq ?_
  refine TC_reg ?_
  refine TL_ev env 2 rfl ⟨tv, ⟨⟨tv, tv⟩, tv⟩⟩ ?_
  refine TL_end ?_
  refine TE_go ?_
  refine TC_blk ?_
  refine TC_seq ?_
  refine TC_reg ?_
  refine TL_ev env 2 rfl ⟨⟨tv, ⟨tv, tv⟩⟩, ⟨tv, tv⟩⟩ ?_
  refine TL_end ?_
  refine TE_go ?_
  refine TC_cond rfl (fun hb => ?_) (fun hb => ?_)
  · replace h0 := bif_t h0 hb
    refine TC_seq ?_
    obtain ⟨z1, h1, h0⟩ := bnd h0
    refine TC_cut (α := Bool) (fun s => z1 = s) (fun s => [(2, .bool s)]) (fun s => []) ?_ ?_
    · refine TC_renw (A' := [(1, .p 1001 0), (3, .bool _)]) (L' := [(1001, some (.cells [.int .i64 _, .int .i64 _, .int .i64 _, .int .i64 _, .int .i64 _, .int .i64 _, .int .i64 _, .int .i64 _, .int .i64 _, .int .i64 _]))]) [] ⟨rfl, rfl, tv⟩ ⟨rfl, tv⟩ rfl ?_
      refine TC_drawR ⟨_, fun i => ([[], [0], [1, 0], [2, 1, 0], [3, 2, 1, 0], [4, 3, 2, 1, 0], [5, 4, 3, 2, 1, 0], [6, 5, 4, 3, 2, 1, 0], [7, 6, 5, 4, 3, 2, 1, 0], [8, 7, 6, 5, 4, 3, 2, 1, 0], [1, 0], [10, 1, 0], [11, 10, 1, 0], [12, 11, 10, 1, 0], [13, 12, 11, 10, 5, 4, 3, 2, 1, 0], [14, 13, 12, 11, 10, 5, 4, 3, 2, 1, 0], [15, 14, 13, 12, 11, 10, 5, 4, 3, 2, 1, 0], [16, 15, 14, 13, 12, 11, 10, 5, 4, 3, 2, 1, 0], [17, 16, 15, 14, 13, 12, 11, 10, 5, 4, 3, 2, 1, 0], [1, 0], [19, 1, 0], [20, 19, 17, 16, 15, 14, 13, 12, 11, 10, 5, 4, 3, 2, 1, 0], [1, 0], [22, 1, 0], [1, 0], [24, 1, 0], [25, 24, 1, 0], [26, 25, 24, 23, 22, 21, 20, 19, 17, 16, 15, 14, 13, 12, 11, 10, 5, 4, 3, 2, 1, 0], [1, 0], [28, 1, 0], [1, 0], [30, 1, 0], [31, 30, 1, 0], [1, 0], [33, 1, 0], [34, 33, 32, 31, 30, 1, 0], [35, 34, 33, 32, 31, 30, 1, 0], [36, 35, 34, 33, 32, 31, 30, 29, 28, 27, 26, 25, 24, 23, 22, 21, 20, 19, 17, 16, 15, 14, 13, 12, 11, 10, 5, 4, 3, 2, 1, 0], [1, 0], [38, 1, 0], [39, 38, 1, 0], [40, 39, 38, 37, 36, 35, 34, 33, 32, 31, 30, 29, 28, 27, 26, 25, 24, 23, 22, 21, 20, 19, 17, 16, 15, 14, 13, 12, 11, 10, 5, 4, 3, 2, 1, 0], [41, 40, 39, 38, 37, 36, 35, 34, 33, 32, 31, 30, 29, 28, 27, 26, 25, 24, 23, 22, 21, 20, 19, 17, 16, 15, 14, 13, 12, 11, 10, 5, 4, 3, 2, 1, 0], [42, 41, 40, 39, 38, 37, 36, 35, 34, 33, 32, 31, 30, 29, 28, 27, 26, 25, 24, 23, 22, 21, 20, 19, 17, 16, 15, 14, 13, 12, 11, 10, 5, 4, 3, 2, 1, 0], [43, 42, 41, 40, 39, 38, 37, 36, 35, 34, 33, 32, 31, 30, 29, 28, 27, 26, 25, 24, 23, 22, 21, 20, 19, 17, 16, 15, 14, 13, 12, 11, 10, 5, 4, 3, 2, 1, 0], [44, 43, 42, 41, 40, 39, 38, 37, 36, 35, 34, 33, 32, 31, 30, 29, 28, 27, 26, 25, 24, 23, 22, 21, 20, 19, 17, 16, 15, 14, 13, 12, 11, 10, 5, 4, 3, 2, 1, 0], [45, 44, 43, 42, 41, 40, 39, 38, 37, 36, 35, 34, 33, 32, 31, 30, 29, 28, 27, 26, 25, 24, 23, 22, 21, 20, 19, 18, 17, 16, 15, 14, 13, 12, 11, 10, 9, 8, 7, 6, 5, 4, 3, 2, 1, 0], [46, 45, 44, 43, 42, 41, 40, 39, 38, 37, 36, 35, 34, 33, 32, 31, 30, 29, 28, 27, 26, 25, 24, 23, 22, 21, 20, 19, 18, 17, 16, 15, 14, 13, 12, 11, 10, 9, 8, 7, 6, 5, 4, 3, 2, 1, 0], [47, 46, 45, 44, 43, 42, 41, 40, 39, 38, 37, 36, 35, 34, 33, 32, 31, 30, 29, 28, 27, 26, 25, 24, 23, 22, 21, 20, 19, 18, 17, 16, 15, 14, 13, 12, 11, 10, 9, 8, 7, 6, 5, 4, 3, 2, 1, 0], [48, 47, 46, 45, 44, 43, 42, 41, 40, 39, 38, 37, 36, 35, 34, 33, 32, 31, 30, 29, 28, 27, 26, 25, 24, 23, 22, 21, 20, 19, 18, 17, 16, 15, 14, 13, 12, 11, 10, 9, 8, 7, 6, 5, 4, 3, 2, 1, 0]] : List (List Nat)).getD i [], fun i => ([[], [], [], [], [], [], [], [], [], [], [], [], [], [], [], [], [], [], [], [], [], [], [], [], [], [], [], [], [], [], [], [], [], [], [], [], [], [], [], [], [], [], [], [], [], [], [1062], [1062], [], []] : List (List Nat)).getD i [], fun i => ([[], [], [], [], [], [], [], [], [], [], [], [], [], [], [], [], [], [], [], [], [], [], [], [], [], [], [], [], [], [], [], [], [], [], [], [], [], [], [], [], [], [], [], [], [], [], [1062], [], [], []] : List (List Nat)).getD i []⟩ (fun i => ([[], [], [], [], [], [], [], [], [], [], [], [], [], [], [], [], [], [], [], [], [], [], [], [], [], [], [], [], [], [], [], [], [], [], [], [], [], [], [], [], [], [], [], [], [], [], [], [], [], []] : List (List Nat)).getD i []) (by kernel_rfl) (by kernel_rfl) ?_
      refine AJR_ev env 1 rfl (Nat.le_of_ble_eq_true rfl) rfl tv ?_
      refine AJR_ev env 2 rfl (Nat.le_of_ble_eq_true rfl) rfl tv ?_
      refine bif_split h1 (fun hb115 h1 => ?_) (fun hb115 h1 => ?_)
      · refine AJR_gev env 3 rfl (Nat.le_of_ble_eq_true rfl) hb115 rfl rfl rfl rfl rfl rfl tv ?_
        refine AJR_gev env 4 rfl (Nat.le_of_ble_eq_true rfl) hb115 rfl rfl rfl rfl rfl rfl ⟨tv, tv⟩ ?_
        refine AJR_gev env 5 rfl (Nat.le_of_ble_eq_true rfl) hb115 rfl rfl rfl rfl rfl rfl ⟨tv, ⟨tv, tv⟩⟩ ?_
        refine AJR_gev env 6 rfl (Nat.le_of_ble_eq_true rfl) hb115 rfl rfl rfl rfl rfl rfl tv ?_
        refine AJR_ev env 7 rfl (Nat.le_of_ble_eq_true rfl) rfl (fun eg => tv) ?_
        refine AJR_ev env 8 rfl (Nat.le_of_ble_eq_true rfl) rfl (fun eg => ⟨fun e => e, tv⟩) ?_
        refine AJR_ev env 9 rfl (Nat.le_of_ble_eq_true rfl) rfl (fun eg => ⟨fun e => e, ⟨tv, tv⟩⟩) ?_
        refine AJR_gev env 10 rfl (Nat.le_of_ble_eq_true rfl) hb115 rfl rfl rfl rfl rfl rfl ⟨tv, ⟨tv, fun e => e⟩⟩ ?_
        refine AJR_gev env 11 rfl (Nat.le_of_ble_eq_true rfl) hb115 rfl rfl rfl rfl rfl rfl tv ?_
        refine AJR_gev env 12 rfl (Nat.le_of_ble_eq_true rfl) hb115 rfl rfl rfl rfl rfl rfl ⟨tv, tv⟩ ?_
        refine AJR_gev env 13 rfl (Nat.le_of_ble_eq_true rfl) hb115 rfl rfl rfl rfl rfl rfl ⟨tv, ⟨tv, (by decide)⟩⟩ ?_
        refine AJR_gev env 14 rfl (Nat.le_of_ble_eq_true rfl) hb115 rfl rfl rfl rfl rfl rfl ⟨tv, ⟨tv, tv⟩⟩ ?_
        refine AJR_gev env 15 rfl (Nat.le_of_ble_eq_true rfl) hb115 rfl rfl rfl rfl rfl rfl tv ?_
        refine bif_split h1 (fun hb118 h1 => ?_) (fun hb118 h1 => ?_)
        · refine AJR_gev env 16 rfl (Nat.le_of_ble_eq_true rfl) hb118 rfl rfl rfl rfl rfl rfl tv ?_
          refine AJR_gev env 17 rfl (Nat.le_of_ble_eq_true rfl) hb118 rfl rfl rfl rfl rfl rfl ⟨tv, tv⟩ ?_
          obtain ⟨r119, hr, h1⟩ := bnd h1
          refine AJR_gcall 18 rfl (Nat.le_of_ble_eq_true rfl) hb118 [] rfl rfl rfl rfl rfl (format_within.ok0 hr) format_within.fnb rfl ⟨tv, ⟨tv, ⟨tv, ⟨tv, tv⟩⟩⟩⟩ rfl tv rfl ?_
          refine AJR_gev env 19 rfl (Nat.le_of_ble_eq_true rfl) hb115 rfl rfl rfl rfl rfl rfl ⟨tv, ⟨tv, tv⟩⟩ ?_
          refine AJR_gev env 20 rfl (Nat.le_of_ble_eq_true rfl) hb115 rfl rfl rfl rfl rfl rfl tv ?_
          refine AJR_gev env 21 rfl (Nat.le_of_ble_eq_true rfl) hb115 rfl rfl rfl rfl rfl rfl ⟨tv, tv⟩ ?_
          obtain ⟨r121, hr, h1⟩ := bnd h1
          refine AJR_gcall 22 rfl (Nat.le_of_ble_eq_true rfl) hb115 [] rfl rfl rfl rfl rfl (format_within.ok0 hr) format_within.fnb rfl ⟨tv, ⟨tv, ⟨tv, ⟨tv, tv⟩⟩⟩⟩ rfl tv rfl ?_
          refine AJR_gev env 23 rfl (Nat.le_of_ble_eq_true rfl) hb115 rfl rfl rfl rfl rfl rfl tv ?_
          refine AJR_gev env 24 rfl (Nat.le_of_ble_eq_true rfl) hb115 rfl rfl rfl rfl rfl rfl ⟨tv, tv⟩ ?_
          refine AJR_gev env 25 rfl (Nat.le_of_ble_eq_true rfl) hb115 rfl rfl rfl rfl rfl rfl tv ?_
          refine AJR_gev env 26 rfl (Nat.le_of_ble_eq_true rfl) hb115 rfl rfl rfl rfl rfl rfl ⟨tv, tv⟩ ?_
          refine AJR_gev env 27 rfl (Nat.le_of_ble_eq_true rfl) hb115 rfl rfl rfl rfl rfl rfl ⟨tv, ⟨tv, tv⟩⟩ ?_
          obtain ⟨r123, hr, h1⟩ := bnd h1
          refine AJR_gcall 28 rfl (Nat.le_of_ble_eq_true rfl) hb115 [] rfl rfl rfl rfl rfl (format_within.ok0 hr) format_within.fnb rfl ⟨tv, ⟨tv, ⟨tv, ⟨tv, tv⟩⟩⟩⟩ rfl tv rfl ?_
          refine AJR_gev env 29 rfl (Nat.le_of_ble_eq_true rfl) hb115 rfl rfl rfl rfl rfl rfl tv ?_
          refine AJR_gev env 30 rfl (Nat.le_of_ble_eq_true rfl) hb115 rfl rfl rfl rfl rfl rfl ⟨tv, tv⟩ ?_
          refine AJR_gev env 31 rfl (Nat.le_of_ble_eq_true rfl) hb115 rfl rfl rfl rfl rfl rfl tv ?_
          refine AJR_gev env 32 rfl (Nat.le_of_ble_eq_true rfl) hb115 rfl rfl rfl rfl rfl rfl ⟨tv, tv⟩ ?_
          refine AJR_gev env 33 rfl (Nat.le_of_ble_eq_true rfl) hb115 rfl rfl rfl rfl rfl rfl ⟨tv, ⟨tv, tv⟩⟩ ?_
          refine AJR_gev env 34 rfl (Nat.le_of_ble_eq_true rfl) hb115 rfl rfl rfl rfl rfl rfl tv ?_
          refine AJR_gev env 35 rfl (Nat.le_of_ble_eq_true rfl) hb115 rfl rfl rfl rfl rfl rfl ⟨tv, tv⟩ ?_
          refine AJR_gev env 36 rfl (Nat.le_of_ble_eq_true rfl) hb115 rfl rfl rfl rfl rfl rfl ⟨tv, ⟨tv, tv⟩⟩ ?_
          refine AJR_gev env 37 rfl (Nat.le_of_ble_eq_true rfl) hb115 rfl rfl rfl rfl rfl rfl ⟨tv, ⟨tv, tv⟩⟩ ?_
          obtain ⟨r127, hr, h1⟩ := bnd h1
          refine AJR_gcall 38 rfl (Nat.le_of_ble_eq_true rfl) hb115 [] rfl rfl rfl rfl rfl (format_within.ok0 hr) format_within.fnb rfl ⟨tv, ⟨tv, ⟨tv, ⟨tv, tv⟩⟩⟩⟩ rfl tv rfl ?_
          refine AJR_gev env 39 rfl (Nat.le_of_ble_eq_true rfl) hb115 rfl rfl rfl rfl rfl rfl tv ?_
          refine AJR_gev env 40 rfl (Nat.le_of_ble_eq_true rfl) hb115 rfl rfl rfl rfl rfl rfl ⟨tv, tv⟩ ?_
          refine AJR_gev env 41 rfl (Nat.le_of_ble_eq_true rfl) hb115 rfl rfl rfl rfl rfl rfl ⟨tv, ⟨tv, tv⟩⟩ ?_
          refine AJR_gev env 42 rfl (Nat.le_of_ble_eq_true rfl) hb115 rfl rfl rfl rfl rfl rfl tv ?_
          refine AJR_ev env 43 rfl (Nat.le_of_ble_eq_true rfl) rfl (fun eg => tv) ?_
          refine AJR_ev env 44 rfl (Nat.le_of_ble_eq_true rfl) rfl (fun eg => ⟨fun e => e, tv⟩) ?_
          refine AJR_ev env 45 rfl (Nat.le_of_ble_eq_true rfl) rfl (fun eg => ⟨fun e => e, ⟨tv, tv⟩⟩) ?_
          refine AJR_gev env 46 rfl (Nat.le_of_ble_eq_true rfl) hb115 rfl rfl rfl rfl rfl rfl ⟨tv, ⟨fun e => e, tv⟩⟩ ?_
          refine AJR_gev env 47 rfl (Nat.le_of_ble_eq_true rfl) hb115 rfl rfl rfl rfl rfl rfl ⟨tv, ⟨tv, ⟨tv, ⟨tv, ⟨tv, ⟨tv, tv⟩⟩⟩⟩⟩⟩ ?_
          obtain ⟨r130, hr, h1⟩ := bnd h1
          refine AJR_gcall 48 rfl (Nat.le_of_ble_eq_true rfl) hb115 [(0, 1062)] rfl rfl rfl rfl rfl (format_all.ok0 hr) format_all.fnb rfl ⟨tv, ⟨tv, tv⟩⟩ rfl ⟨.inr rfl, tv⟩ rfl ?_
          refine AJR_ev env 49 rfl (Nat.le_of_ble_eq_true rfl) rfl ⟨tv, ⟨tv, tv⟩⟩ ?_
          refine AJR_ev env 50 rfl (Nat.le_of_ble_eq_true rfl) rfl tv ?_
          refine AJR_end rfl rfl rfl ?_
          obtain rfl := sinj h1
          refine tsn ?_
          exact SP_ren [] _ rfl ⟨rfl, tv⟩ tv rfl
        · refine AJR_gskip (.bool false) 16 rfl (Nat.le_of_ble_eq_true rfl) hb118 rfl rfl rfl rfl rfl rfl (by decide) ?_
          refine AJR_gskip (.bool false) 17 rfl (Nat.le_of_ble_eq_true rfl) hb118 rfl rfl rfl rfl rfl rfl (by decide) ?_
          refine AJR_gskip (.bool false) 18 rfl (Nat.le_of_ble_eq_true rfl) hb118 rfl rfl rfl rfl rfl rfl (by decide) ?_
          refine AJR_gev env 19 rfl (Nat.le_of_ble_eq_true rfl) hb115 rfl rfl rfl rfl rfl rfl ⟨tv, ⟨fun e => (tff (e.symm.trans hb118)).elim, tv⟩⟩ ?_
          refine AJR_gev env 20 rfl (Nat.le_of_ble_eq_true rfl) hb115 rfl rfl rfl rfl rfl rfl tv ?_
          refine AJR_gev env 21 rfl (Nat.le_of_ble_eq_true rfl) hb115 rfl rfl rfl rfl rfl rfl ⟨tv, tv⟩ ?_
          obtain ⟨r133, hr, h1⟩ := bnd h1
          refine AJR_gcall 22 rfl (Nat.le_of_ble_eq_true rfl) hb115 [] rfl rfl rfl rfl rfl (format_within.ok0 hr) format_within.fnb rfl ⟨tv, ⟨tv, ⟨tv, ⟨tv, tv⟩⟩⟩⟩ rfl tv rfl ?_
          refine AJR_gev env 23 rfl (Nat.le_of_ble_eq_true rfl) hb115 rfl rfl rfl rfl rfl rfl tv ?_
          refine AJR_gev env 24 rfl (Nat.le_of_ble_eq_true rfl) hb115 rfl rfl rfl rfl rfl rfl ⟨tv, tv⟩ ?_
          refine AJR_gev env 25 rfl (Nat.le_of_ble_eq_true rfl) hb115 rfl rfl rfl rfl rfl rfl tv ?_
          refine AJR_gev env 26 rfl (Nat.le_of_ble_eq_true rfl) hb115 rfl rfl rfl rfl rfl rfl ⟨tv, tv⟩ ?_
          refine AJR_gev env 27 rfl (Nat.le_of_ble_eq_true rfl) hb115 rfl rfl rfl rfl rfl rfl ⟨tv, ⟨tv, tv⟩⟩ ?_
          obtain ⟨r135, hr, h1⟩ := bnd h1
          refine AJR_gcall 28 rfl (Nat.le_of_ble_eq_true rfl) hb115 [] rfl rfl rfl rfl rfl (format_within.ok0 hr) format_within.fnb rfl ⟨tv, ⟨tv, ⟨tv, ⟨tv, tv⟩⟩⟩⟩ rfl tv rfl ?_
          refine AJR_gev env 29 rfl (Nat.le_of_ble_eq_true rfl) hb115 rfl rfl rfl rfl rfl rfl tv ?_
          refine AJR_gev env 30 rfl (Nat.le_of_ble_eq_true rfl) hb115 rfl rfl rfl rfl rfl rfl ⟨tv, tv⟩ ?_
          refine AJR_gev env 31 rfl (Nat.le_of_ble_eq_true rfl) hb115 rfl rfl rfl rfl rfl rfl tv ?_
          refine AJR_gev env 32 rfl (Nat.le_of_ble_eq_true rfl) hb115 rfl rfl rfl rfl rfl rfl ⟨tv, tv⟩ ?_
          refine AJR_gev env 33 rfl (Nat.le_of_ble_eq_true rfl) hb115 rfl rfl rfl rfl rfl rfl ⟨tv, ⟨tv, tv⟩⟩ ?_
          refine AJR_gev env 34 rfl (Nat.le_of_ble_eq_true rfl) hb115 rfl rfl rfl rfl rfl rfl tv ?_
          refine AJR_gev env 35 rfl (Nat.le_of_ble_eq_true rfl) hb115 rfl rfl rfl rfl rfl rfl ⟨tv, tv⟩ ?_
          refine AJR_gev env 36 rfl (Nat.le_of_ble_eq_true rfl) hb115 rfl rfl rfl rfl rfl rfl ⟨tv, ⟨tv, tv⟩⟩ ?_
          refine AJR_gev env 37 rfl (Nat.le_of_ble_eq_true rfl) hb115 rfl rfl rfl rfl rfl rfl ⟨tv, ⟨tv, tv⟩⟩ ?_
          obtain ⟨r139, hr, h1⟩ := bnd h1
          refine AJR_gcall 38 rfl (Nat.le_of_ble_eq_true rfl) hb115 [] rfl rfl rfl rfl rfl (format_within.ok0 hr) format_within.fnb rfl ⟨tv, ⟨tv, ⟨tv, ⟨tv, tv⟩⟩⟩⟩ rfl tv rfl ?_
          refine AJR_gev env 39 rfl (Nat.le_of_ble_eq_true rfl) hb115 rfl rfl rfl rfl rfl rfl tv ?_
          refine AJR_gev env 40 rfl (Nat.le_of_ble_eq_true rfl) hb115 rfl rfl rfl rfl rfl rfl ⟨tv, tv⟩ ?_
          refine AJR_gev env 41 rfl (Nat.le_of_ble_eq_true rfl) hb115 rfl rfl rfl rfl rfl rfl ⟨tv, ⟨tv, tv⟩⟩ ?_
          refine AJR_gev env 42 rfl (Nat.le_of_ble_eq_true rfl) hb115 rfl rfl rfl rfl rfl rfl tv ?_
          refine AJR_ev env 43 rfl (Nat.le_of_ble_eq_true rfl) rfl (fun eg => tv) ?_
          refine AJR_ev env 44 rfl (Nat.le_of_ble_eq_true rfl) rfl (fun eg => ⟨fun e => e, tv⟩) ?_
          refine AJR_ev env 45 rfl (Nat.le_of_ble_eq_true rfl) rfl (fun eg => ⟨fun e => e, ⟨tv, tv⟩⟩) ?_
          refine AJR_gev env 46 rfl (Nat.le_of_ble_eq_true rfl) hb115 rfl rfl rfl rfl rfl rfl ⟨tv, ⟨fun e => e, tv⟩⟩ ?_
          refine AJR_gev env 47 rfl (Nat.le_of_ble_eq_true rfl) hb115 rfl rfl rfl rfl rfl rfl ⟨tv, ⟨tv, ⟨tv, ⟨tv, ⟨tv, ⟨tv, tv⟩⟩⟩⟩⟩⟩ ?_
          obtain ⟨r142, hr, h1⟩ := bnd h1
          refine AJR_gcall 48 rfl (Nat.le_of_ble_eq_true rfl) hb115 [(0, 1062)] rfl rfl rfl rfl rfl (format_all.ok0 hr) format_all.fnb rfl ⟨tv, ⟨tv, tv⟩⟩ rfl ⟨.inr rfl, tv⟩ rfl ?_
          refine AJR_ev env 49 rfl (Nat.le_of_ble_eq_true rfl) rfl ⟨tv, ⟨tv, tv⟩⟩ ?_
          refine AJR_ev env 50 rfl (Nat.le_of_ble_eq_true rfl) rfl tv ?_
          refine AJR_end rfl rfl rfl ?_
          obtain rfl := sinj h1
          refine tsn ?_
          exact SP_ren [] _ rfl ⟨rfl, tv⟩ tv rfl
      · refine AJR_gskip (.bool false) 3 rfl (Nat.le_of_ble_eq_true rfl) hb115 rfl rfl rfl rfl rfl rfl (by decide) ?_
        refine AJR_gskip (.bool false) 4 rfl (Nat.le_of_ble_eq_true rfl) hb115 rfl rfl rfl rfl rfl rfl (by decide) ?_
        refine AJR_gskip (.bool false) 5 rfl (Nat.le_of_ble_eq_true rfl) hb115 rfl rfl rfl rfl rfl rfl (by decide) ?_
        refine AJR_gskip (.bool false) 6 rfl (Nat.le_of_ble_eq_true rfl) hb115 rfl rfl rfl rfl rfl rfl (by decide) ?_
        refine AJR_gskipU (.bool false) 7 rfl (Nat.le_of_ble_eq_true rfl) rfl rfl rfl rfl rfl rfl (by decide) ?_
        refine AJR_gskipU (.bool false) 8 rfl (Nat.le_of_ble_eq_true rfl) rfl rfl rfl rfl rfl rfl (by decide) ?_
        refine AJR_gskipU (.bool false) 9 rfl (Nat.le_of_ble_eq_true rfl) rfl rfl rfl rfl rfl rfl (by decide) ?_
        refine AJR_gskip (.bool false) 10 rfl (Nat.le_of_ble_eq_true rfl) hb115 rfl rfl rfl rfl rfl rfl (by decide) ?_
        refine AJR_gskip (.bool false) 11 rfl (Nat.le_of_ble_eq_true rfl) hb115 rfl rfl rfl rfl rfl rfl (by decide) ?_
        refine AJR_gskip (.bool false) 12 rfl (Nat.le_of_ble_eq_true rfl) hb115 rfl rfl rfl rfl rfl rfl (by decide) ?_
        refine AJR_gskip (.bool false) 13 rfl (Nat.le_of_ble_eq_true rfl) hb115 rfl rfl rfl rfl rfl rfl (by decide) ?_
        refine AJR_gskip (.bool false) 14 rfl (Nat.le_of_ble_eq_true rfl) hb115 rfl rfl rfl rfl rfl rfl (by decide) ?_
        refine AJR_gskip (.bool false) 15 rfl (Nat.le_of_ble_eq_true rfl) hb115 rfl rfl rfl rfl rfl rfl (by decide) ?_
        refine AJR_gskipU (.bool false) 16 rfl (Nat.le_of_ble_eq_true rfl) rfl rfl rfl rfl rfl rfl (by decide) ?_
        refine AJR_gskipU (.bool false) 17 rfl (Nat.le_of_ble_eq_true rfl) rfl rfl rfl rfl rfl rfl (by decide) ?_
        refine AJR_gskipU (.bool false) 18 rfl (Nat.le_of_ble_eq_true rfl) rfl rfl rfl rfl rfl rfl (by decide) ?_
        refine AJR_gskip (.bool false) 19 rfl (Nat.le_of_ble_eq_true rfl) hb115 rfl rfl rfl rfl rfl rfl (by decide) ?_
        refine AJR_gskip (.bool false) 20 rfl (Nat.le_of_ble_eq_true rfl) hb115 rfl rfl rfl rfl rfl rfl (by decide) ?_
        refine AJR_gskip (.bool false) 21 rfl (Nat.le_of_ble_eq_true rfl) hb115 rfl rfl rfl rfl rfl rfl (by decide) ?_
        refine AJR_gskip (.bool false) 22 rfl (Nat.le_of_ble_eq_true rfl) hb115 rfl rfl rfl rfl rfl rfl (by decide) ?_
        refine AJR_gskip (.bool false) 23 rfl (Nat.le_of_ble_eq_true rfl) hb115 rfl rfl rfl rfl rfl rfl (by decide) ?_
        refine AJR_gskip (.bool false) 24 rfl (Nat.le_of_ble_eq_true rfl) hb115 rfl rfl rfl rfl rfl rfl (by decide) ?_
        refine AJR_gskip (.bool false) 25 rfl (Nat.le_of_ble_eq_true rfl) hb115 rfl rfl rfl rfl rfl rfl (by decide) ?_
        refine AJR_gskip (.bool false) 26 rfl (Nat.le_of_ble_eq_true rfl) hb115 rfl rfl rfl rfl rfl rfl (by decide) ?_
        refine AJR_gskip (.bool false) 27 rfl (Nat.le_of_ble_eq_true rfl) hb115 rfl rfl rfl rfl rfl rfl (by decide) ?_
        refine AJR_gskip (.bool false) 28 rfl (Nat.le_of_ble_eq_true rfl) hb115 rfl rfl rfl rfl rfl rfl (by decide) ?_
        refine AJR_gskip (.bool false) 29 rfl (Nat.le_of_ble_eq_true rfl) hb115 rfl rfl rfl rfl rfl rfl (by decide) ?_
        refine AJR_gskip (.bool false) 30 rfl (Nat.le_of_ble_eq_true rfl) hb115 rfl rfl rfl rfl rfl rfl (by decide) ?_
        refine AJR_gskip (.bool false) 31 rfl (Nat.le_of_ble_eq_true rfl) hb115 rfl rfl rfl rfl rfl rfl (by decide) ?_
        refine AJR_gskip (.bool false) 32 rfl (Nat.le_of_ble_eq_true rfl) hb115 rfl rfl rfl rfl rfl rfl (by decide) ?_
        refine AJR_gskip (.bool false) 33 rfl (Nat.le_of_ble_eq_true rfl) hb115 rfl rfl rfl rfl rfl rfl (by decide) ?_
        refine AJR_gskip (.bool false) 34 rfl (Nat.le_of_ble_eq_true rfl) hb115 rfl rfl rfl rfl rfl rfl (by decide) ?_
        refine AJR_gskip (.bool false) 35 rfl (Nat.le_of_ble_eq_true rfl) hb115 rfl rfl rfl rfl rfl rfl (by decide) ?_
        refine AJR_gskip (.bool false) 36 rfl (Nat.le_of_ble_eq_true rfl) hb115 rfl rfl rfl rfl rfl rfl (by decide) ?_
        refine AJR_gskip (.bool false) 37 rfl (Nat.le_of_ble_eq_true rfl) hb115 rfl rfl rfl rfl rfl rfl (by decide) ?_
        refine AJR_gskip (.bool false) 38 rfl (Nat.le_of_ble_eq_true rfl) hb115 rfl rfl rfl rfl rfl rfl (by decide) ?_
        refine AJR_gskip (.bool false) 39 rfl (Nat.le_of_ble_eq_true rfl) hb115 rfl rfl rfl rfl rfl rfl (by decide) ?_
        refine AJR_gskip (.bool false) 40 rfl (Nat.le_of_ble_eq_true rfl) hb115 rfl rfl rfl rfl rfl rfl (by decide) ?_
        refine AJR_gskip (.bool false) 41 rfl (Nat.le_of_ble_eq_true rfl) hb115 rfl rfl rfl rfl rfl rfl (by decide) ?_
        refine AJR_gskip (.bool false) 42 rfl (Nat.le_of_ble_eq_true rfl) hb115 rfl rfl rfl rfl rfl rfl (by decide) ?_
        refine AJR_gskipU (.bool false) 43 rfl (Nat.le_of_ble_eq_true rfl) rfl rfl rfl rfl rfl rfl (by decide) ?_
        refine AJR_gskipU (.bool false) 44 rfl (Nat.le_of_ble_eq_true rfl) rfl rfl rfl rfl rfl rfl (by decide) ?_
        refine AJR_gskipU (.bool false) 45 rfl (Nat.le_of_ble_eq_true rfl) rfl rfl rfl rfl rfl rfl (by decide) ?_
        refine AJR_gskip (.bool false) 46 rfl (Nat.le_of_ble_eq_true rfl) hb115 rfl rfl rfl rfl rfl rfl (by decide) ?_
        refine AJR_gskip (.bool false) 47 rfl (Nat.le_of_ble_eq_true rfl) hb115 rfl rfl rfl rfl rfl rfl (by decide) ?_
        refine AJR_gskip (.bool false) 48 rfl (Nat.le_of_ble_eq_true rfl) hb115 rfl rfl rfl rfl rfl rfl (by decide) ?_
        refine AJR_ev env 49 rfl (Nat.le_of_ble_eq_true rfl) rfl ⟨tv, ⟨fun e => (tff (e.symm.trans hb115)).elim, tv⟩⟩ ?_
        refine AJR_ev env 50 rfl (Nat.le_of_ble_eq_true rfl) rfl tv ?_
        refine AJR_end rfl rfl rfl ?_
        obtain rfl := sinj h1
        refine tsn ?_
        exact SP_ren [] _ rfl ⟨rfl, tv⟩ tv rfl
    · rintro x114 hz
      obtain rfl := hz.symm
      refine TE_go ?_
      refine TC_ret ?_
      refine tbr ?_
      refine tsr ?_
      obtain rfl := sinj h0
      exact TE_ret env rfl tv tv
  · replace h0 := bif_f h0 hb
    refine TC_seq ?_
    refine TC_reg ?_
    refine TL_ev env 2 rfl ⟨⟨tv, ⟨tv, tv⟩⟩, ⟨tv, tv⟩⟩ ?_
    refine TL_end ?_
    refine TE_go ?_
    refine TC_cond rfl (fun hb => ?_) (fun hb => ?_)
    · replace h0 := bif_t h0 hb
      refine TC_seq ?_
      obtain ⟨z1, h1, h0⟩ := bnd h0
      refine TC_cut (α := Bool) (fun s => z1 = s) (fun s => [(2, .bool s)]) (fun s => []) ?_ ?_
      · refine TC_renw (A' := [(1, .p 1001 0), (3, .bool _)]) (L' := [(1001, some (.cells [.int .i64 _, .int .i64 _, .int .i64 _, .int .i64 _, .int .i64 _, .int .i64 _, .int .i64 _, .int .i64 _, .int .i64 _, .int .i64 _]))]) [] ⟨rfl, rfl, tv⟩ ⟨rfl, tv⟩ rfl ?_
        refine TC_drawR ⟨_, fun i => ([[], [0], [1, 0], [1, 0], [3, 1, 0], [4, 3, 2, 1, 0], [1, 0], [6, 1, 0], [7, 6, 5, 4, 3, 2, 1, 0], [1, 0], [9, 1, 0], [10, 9, 1, 0], [11, 10, 9, 8, 7, 6, 5, 4, 3, 2, 1, 0], [12, 11, 10, 9, 8, 7, 6, 5, 4, 3, 2, 1, 0], [13, 12, 11, 10, 9, 8, 7, 6, 5, 4, 3, 2, 1, 0], [14, 13, 12, 11, 10, 9, 8, 7, 6, 5, 4, 3, 2, 1, 0], [15, 14, 13, 12, 11, 10, 9, 8, 7, 6, 5, 4, 3, 2, 1, 0], [16, 15, 14, 13, 12, 11, 10, 9, 8, 7, 6, 5, 4, 3, 2, 1, 0], [17, 16, 15, 14, 13, 12, 11, 10, 9, 8, 7, 6, 5, 4, 3, 2, 1, 0], [18, 17, 16, 15, 14, 13, 12, 11, 10, 9, 8, 7, 6, 5, 4, 3, 2, 1, 0], [19, 18, 17, 16, 15, 14, 13, 12, 11, 10, 9, 8, 7, 6, 5, 4, 3, 2, 1, 0], [20, 19, 18, 17, 16, 15, 14, 13, 12, 11, 10, 9, 8, 7, 6, 5, 4, 3, 2, 1, 0], [21, 20, 19, 18, 17, 16, 15, 14, 13, 12, 11, 10, 9, 8, 7, 6, 5, 4, 3, 2, 1, 0], [22, 21, 20, 19, 18, 17, 16, 15, 14, 13, 12, 11, 10, 9, 8, 7, 6, 5, 4, 3, 2, 1, 0], [23, 22, 21, 20, 19, 18, 17, 16, 15, 14, 13, 12, 11, 10, 9, 8, 7, 6, 5, 4, 3, 2, 1, 0], [24, 23, 22, 21, 20, 19, 18, 17, 16, 15, 14, 13, 12, 11, 10, 9, 8, 7, 6, 5, 4, 3, 2, 1, 0], [25, 24, 23, 22, 21, 20, 19, 18, 17, 16, 15, 14, 13, 12, 11, 10, 9, 8, 7, 6, 5, 4, 3, 2, 1, 0], [26, 25, 24, 23, 22, 21, 20, 19, 18, 17, 16, 15, 14, 13, 12, 11, 10, 9, 8, 7, 6, 5, 4, 3, 2, 1, 0], [27, 26, 25, 24, 23, 22, 21, 20, 19, 18, 17, 16, 15, 14, 13, 12, 11, 10, 9, 8, 7, 6, 5, 4, 3, 2, 1, 0], [28, 27, 26, 25, 24, 23, 22, 21, 20, 19, 18, 17, 16, 15, 14, 13, 12, 11, 10, 9, 8, 7, 6, 5, 4, 3, 2, 1, 0], [29, 28, 27, 26, 25, 24, 23, 22, 21, 20, 19, 18, 17, 16, 15, 14, 13, 12, 11, 10, 9, 8, 7, 6, 5, 4, 3, 2, 1, 0], [30, 29, 28, 27, 26, 25, 24, 23, 22, 21, 20, 19, 18, 17, 16, 15, 14, 13, 12, 11, 10, 9, 8, 7, 6, 5, 4, 3, 2, 1, 0], [31, 30, 29, 28, 27, 26, 25, 24, 23, 22, 21, 20, 19, 18, 17, 16, 15, 14, 13, 12, 11, 10, 9, 8, 7, 6, 5, 4, 3, 2, 1, 0], [32, 31, 30, 29, 28, 27, 26, 25, 24, 23, 22, 21, 20, 19, 18, 17, 16, 15, 14, 13, 12, 11, 10, 9, 8, 7, 6, 5, 4, 3, 2, 1, 0], [33, 32, 31, 30, 29, 28, 27, 26, 25, 24, 23, 22, 21, 20, 19, 18, 17, 16, 15, 14, 13, 12, 11, 10, 9, 8, 7, 6, 5, 4, 3, 2, 1, 0], [34, 33, 32, 31, 30, 29, 28, 27, 26, 25, 24, 23, 22, 21, 20, 19, 18, 17, 16, 15, 14, 13, 12, 11, 10, 9, 8, 7, 6, 5, 4, 3, 2, 1, 0]] : List (List Nat)).getD i [], fun i => ([[], [], [], [], [], [], [], [], [], [], [], [], [], [], [], [], [], [], [], [], [], [], [], [], [], [], [], [], [], [], [], [], [1099], [1099], [], []] : List (List Nat)).getD i [], fun i => ([[], [], [], [], [], [], [], [], [], [], [], [], [], [], [], [], [], [], [], [], [], [], [], [], [], [], [], [], [], [], [], [], [1099], [], [], []] : List (List Nat)).getD i []⟩ (fun i => ([[], [], [], [], [], [], [], [], [], [], [], [], [], [], [], [], [], [], [], [], [], [], [], [], [], [], [], [], [], [], [], [], [], [], [], []] : List (List Nat)).getD i []) (by kernel_rfl) (by kernel_rfl) ?_
        refine AJR_ev env 1 rfl (Nat.le_of_ble_eq_true rfl) rfl tv ?_
        refine AJR_ev env 2 rfl (Nat.le_of_ble_eq_true rfl) rfl tv ?_
        refine bif_split h1 (fun hb157 h1 => ?_) (fun hb157 h1 => ?_)
        · obtain ⟨r158, hr, h1⟩ := bnd h1
          refine AJR_gcall 3 rfl (Nat.le_of_ble_eq_true rfl) hb157 [] rfl rfl rfl rfl rfl (lapped_Lengths.ok0 hr) lapped_Lengths.fnb rfl ⟨tv, tv⟩ rfl tv rfl ?_
          refine AJR_gev env 4 rfl (Nat.le_of_ble_eq_true rfl) hb157 rfl rfl rfl rfl rfl rfl tv ?_
          refine AJR_gev env 5 rfl (Nat.le_of_ble_eq_true rfl) hb157 rfl rfl rfl rfl rfl rfl ⟨tv, tv⟩ ?_
          obtain ⟨r159, hr, h1⟩ := bnd h1
          refine AJR_gcall 6 rfl (Nat.le_of_ble_eq_true rfl) hb157 [] rfl rfl rfl rfl rfl (slices_Contains_int_int.ok0 hr) slices_Contains_int_int.fnb rfl ⟨tv, ⟨tv, ⟨tv, tv⟩⟩⟩ rfl tv rfl ?_
          refine AJR_gev env 7 rfl (Nat.le_of_ble_eq_true rfl) hb157 rfl rfl rfl rfl rfl rfl tv ?_
          refine AJR_gev env 8 rfl (Nat.le_of_ble_eq_true rfl) hb157 rfl rfl rfl rfl rfl rfl ⟨tv, tv⟩ ?_
          obtain ⟨r160, hr, h1⟩ := bnd h1
          refine AJR_gcall 9 rfl (Nat.le_of_ble_eq_true rfl) hb157 [] rfl rfl rfl rfl rfl (format_within.ok0 hr) format_within.fnb rfl ⟨tv, ⟨tv, ⟨tv, ⟨tv, tv⟩⟩⟩⟩ rfl tv rfl ?_
          refine AJR_gev env 10 rfl (Nat.le_of_ble_eq_true rfl) hb157 rfl rfl rfl rfl rfl rfl tv ?_
          refine AJR_gev env 11 rfl (Nat.le_of_ble_eq_true rfl) hb157 rfl rfl rfl rfl rfl rfl ⟨tv, tv⟩ ?_
          refine AJR_gev env 12 rfl (Nat.le_of_ble_eq_true rfl) hb157 rfl rfl rfl rfl rfl rfl ⟨tv, ⟨tv, tv⟩⟩ ?_
          refine AJR_gev env 13 rfl (Nat.le_of_ble_eq_true rfl) hb157 rfl rfl rfl rfl rfl rfl tv ?_
          refine AJR_ev env 14 rfl (Nat.le_of_ble_eq_true rfl) rfl (fun eg => tv) ?_
          refine AJR_ev env 15 rfl (Nat.le_of_ble_eq_true rfl) rfl (fun eg => ⟨fun e => e, tv⟩) ?_
          refine AJR_ev env 16 rfl (Nat.le_of_ble_eq_true rfl) rfl (fun eg => ⟨fun e => e, ⟨tv, tv⟩⟩) ?_
          refine AJR_gev env 17 rfl (Nat.le_of_ble_eq_true rfl) hb157 rfl rfl rfl rfl rfl rfl ⟨tv, ⟨fun e => e, tv⟩⟩ ?_
          refine AJR_gev env 18 rfl (Nat.le_of_ble_eq_true rfl) hb157 rfl rfl rfl rfl rfl rfl tv ?_
          refine AJR_ev env 19 rfl (Nat.le_of_ble_eq_true rfl) rfl (fun eg => tv) ?_
          refine AJR_ev env 20 rfl (Nat.le_of_ble_eq_true rfl) rfl (fun eg => ⟨fun e => e, tv⟩) ?_
          refine AJR_ev env 21 rfl (Nat.le_of_ble_eq_true rfl) rfl (fun eg => ⟨fun e => e, ⟨tv, tv⟩⟩) ?_
          refine AJR_gev env 22 rfl (Nat.le_of_ble_eq_true rfl) hb157 rfl rfl rfl rfl rfl rfl ⟨tv, ⟨fun e => e, tv⟩⟩ ?_
          refine AJR_gev env 23 rfl (Nat.le_of_ble_eq_true rfl) hb157 rfl rfl rfl rfl rfl rfl tv ?_
          refine AJR_ev env 24 rfl (Nat.le_of_ble_eq_true rfl) rfl (fun eg => tv) ?_
          refine AJR_ev env 25 rfl (Nat.le_of_ble_eq_true rfl) rfl (fun eg => ⟨fun e => e, tv⟩) ?_
          refine AJR_ev env 26 rfl (Nat.le_of_ble_eq_true rfl) rfl (fun eg => ⟨fun e => e, ⟨tv, tv⟩⟩) ?_
          refine AJR_gev env 27 rfl (Nat.le_of_ble_eq_true rfl) hb157 rfl rfl rfl rfl rfl rfl ⟨tv, ⟨fun e => e, tv⟩⟩ ?_
          refine AJR_gev env 28 rfl (Nat.le_of_ble_eq_true rfl) hb157 rfl rfl rfl rfl rfl rfl tv ?_
          refine AJR_ev env 29 rfl (Nat.le_of_ble_eq_true rfl) rfl (fun eg => tv) ?_
          refine AJR_ev env 30 rfl (Nat.le_of_ble_eq_true rfl) rfl (fun eg => ⟨fun e => e, tv⟩) ?_
          refine AJR_ev env 31 rfl (Nat.le_of_ble_eq_true rfl) rfl (fun eg => ⟨fun e => e, ⟨tv, tv⟩⟩) ?_
          refine AJR_gev env 32 rfl (Nat.le_of_ble_eq_true rfl) hb157 rfl rfl rfl rfl rfl rfl ⟨tv, ⟨fun e => e, tv⟩⟩ ?_
          refine AJR_gev env 33 rfl (Nat.le_of_ble_eq_true rfl) hb157 rfl rfl rfl rfl rfl rfl ⟨tv, ⟨tv, ⟨tv, tv⟩⟩⟩ ?_
          obtain ⟨r166, hr, h1⟩ := bnd h1
          refine AJR_gcall 34 rfl (Nat.le_of_ble_eq_true rfl) hb157 [(0, 1099)] rfl rfl rfl rfl rfl (format_all.ok0 hr) format_all.fnb rfl ⟨tv, ⟨tv, tv⟩⟩ rfl ⟨.inr rfl, tv⟩ rfl ?_
          refine AJR_ev env 35 rfl (Nat.le_of_ble_eq_true rfl) rfl ⟨tv, ⟨tv, tv⟩⟩ ?_
          refine AJR_ev env 36 rfl (Nat.le_of_ble_eq_true rfl) rfl tv ?_
          refine AJR_end rfl rfl rfl ?_
          obtain rfl := sinj h1
          refine tsn ?_
          exact SP_ren [] _ rfl ⟨rfl, tv⟩ tv rfl
        · refine AJR_gskip (.bool false) 3 rfl (Nat.le_of_ble_eq_true rfl) hb157 rfl rfl rfl rfl rfl rfl (by decide) ?_
          refine AJR_gskip (.bool false) 4 rfl (Nat.le_of_ble_eq_true rfl) hb157 rfl rfl rfl rfl rfl rfl (by decide) ?_
          refine AJR_gskip (.bool false) 5 rfl (Nat.le_of_ble_eq_true rfl) hb157 rfl rfl rfl rfl rfl rfl (by decide) ?_
          refine AJR_gskip (.bool false) 6 rfl (Nat.le_of_ble_eq_true rfl) hb157 rfl rfl rfl rfl rfl rfl (by decide) ?_
          refine AJR_gskip (.bool false) 7 rfl (Nat.le_of_ble_eq_true rfl) hb157 rfl rfl rfl rfl rfl rfl (by decide) ?_
          refine AJR_gskip (.bool false) 8 rfl (Nat.le_of_ble_eq_true rfl) hb157 rfl rfl rfl rfl rfl rfl (by decide) ?_
          refine AJR_gskip (.bool false) 9 rfl (Nat.le_of_ble_eq_true rfl) hb157 rfl rfl rfl rfl rfl rfl (by decide) ?_
          refine AJR_gskip (.bool false) 10 rfl (Nat.le_of_ble_eq_true rfl) hb157 rfl rfl rfl rfl rfl rfl (by decide) ?_
          refine AJR_gskip (.bool false) 11 rfl (Nat.le_of_ble_eq_true rfl) hb157 rfl rfl rfl rfl rfl rfl (by decide) ?_
          refine AJR_gskip (.bool false) 12 rfl (Nat.le_of_ble_eq_true rfl) hb157 rfl rfl rfl rfl rfl rfl (by decide) ?_
          refine AJR_gskip (.bool false) 13 rfl (Nat.le_of_ble_eq_true rfl) hb157 rfl rfl rfl rfl rfl rfl (by decide) ?_
          refine AJR_gskipU (.bool false) 14 rfl (Nat.le_of_ble_eq_true rfl) rfl rfl rfl rfl rfl rfl (by decide) ?_
          refine AJR_gskipU (.bool false) 15 rfl (Nat.le_of_ble_eq_true rfl) rfl rfl rfl rfl rfl rfl (by decide) ?_
          refine AJR_gskipU (.bool false) 16 rfl (Nat.le_of_ble_eq_true rfl) rfl rfl rfl rfl rfl rfl (by decide) ?_
          refine AJR_gskip (.bool false) 17 rfl (Nat.le_of_ble_eq_true rfl) hb157 rfl rfl rfl rfl rfl rfl (by decide) ?_
          refine AJR_gskip (.bool false) 18 rfl (Nat.le_of_ble_eq_true rfl) hb157 rfl rfl rfl rfl rfl rfl (by decide) ?_
          refine AJR_gskipU (.bool false) 19 rfl (Nat.le_of_ble_eq_true rfl) rfl rfl rfl rfl rfl rfl (by decide) ?_
          refine AJR_gskipU (.bool false) 20 rfl (Nat.le_of_ble_eq_true rfl) rfl rfl rfl rfl rfl rfl (by decide) ?_
          refine AJR_gskipU (.bool false) 21 rfl (Nat.le_of_ble_eq_true rfl) rfl rfl rfl rfl rfl rfl (by decide) ?_
          refine AJR_gskip (.bool false) 22 rfl (Nat.le_of_ble_eq_true rfl) hb157 rfl rfl rfl rfl rfl rfl (by decide) ?_
          refine AJR_gskip (.bool false) 23 rfl (Nat.le_of_ble_eq_true rfl) hb157 rfl rfl rfl rfl rfl rfl (by decide) ?_
          refine AJR_gskipU (.bool false) 24 rfl (Nat.le_of_ble_eq_true rfl) rfl rfl rfl rfl rfl rfl (by decide) ?_
          refine AJR_gskipU (.bool false) 25 rfl (Nat.le_of_ble_eq_true rfl) rfl rfl rfl rfl rfl rfl (by decide) ?_
          refine AJR_gskipU (.bool false) 26 rfl (Nat.le_of_ble_eq_true rfl) rfl rfl rfl rfl rfl rfl (by decide) ?_
          refine AJR_gskip (.bool false) 27 rfl (Nat.le_of_ble_eq_true rfl) hb157 rfl rfl rfl rfl rfl rfl (by decide) ?_
          refine AJR_gskip (.bool false) 28 rfl (Nat.le_of_ble_eq_true rfl) hb157 rfl rfl rfl rfl rfl rfl (by decide) ?_
          refine AJR_gskipU (.bool false) 29 rfl (Nat.le_of_ble_eq_true rfl) rfl rfl rfl rfl rfl rfl (by decide) ?_
          refine AJR_gskipU (.bool false) 30 rfl (Nat.le_of_ble_eq_true rfl) rfl rfl rfl rfl rfl rfl (by decide) ?_
          refine AJR_gskipU (.bool false) 31 rfl (Nat.le_of_ble_eq_true rfl) rfl rfl rfl rfl rfl rfl (by decide) ?_
          refine AJR_gskip (.bool false) 32 rfl (Nat.le_of_ble_eq_true rfl) hb157 rfl rfl rfl rfl rfl rfl (by decide) ?_
          refine AJR_gskip (.bool false) 33 rfl (Nat.le_of_ble_eq_true rfl) hb157 rfl rfl rfl rfl rfl rfl (by decide) ?_
          refine AJR_gskip (.bool false) 34 rfl (Nat.le_of_ble_eq_true rfl) hb157 rfl rfl rfl rfl rfl rfl (by decide) ?_
          refine AJR_ev env 35 rfl (Nat.le_of_ble_eq_true rfl) rfl ⟨tv, ⟨fun e => (tff (e.symm.trans hb157)).elim, tv⟩⟩ ?_
          refine AJR_ev env 36 rfl (Nat.le_of_ble_eq_true rfl) rfl tv ?_
          refine AJR_end rfl rfl rfl ?_
          obtain rfl := sinj h1
          refine tsn ?_
          exact SP_ren [] _ rfl ⟨rfl, tv⟩ tv rfl
      · rintro x156 hz
        obtain rfl := hz.symm
        refine TE_go ?_
        refine TC_ret ?_
        refine tbr ?_
        refine tsr ?_
        obtain rfl := sinj h0
        exact TE_ret env rfl tv tv
    · replace h0 := bif_f h0 hb
      refine TC_skip ?_
      refine tbn ?_
      refine TE_go ?_
      refine TC_seq ?_
      refine TC_reg ?_
      refine TL_ev env 1 rfl ⟨tv, tv⟩ ?_
      refine TL_end ?_
      refine TE_go ?_
      refine TC_ret ?_
      obtain rfl := sinj h0
      exact TE_ret env rfl tv tv
theorem format_fields.ok0 {K : Nat} {p0 : Int} {p1 : Int} {p2 : Int} {p3 : Int} {p4 : Int} {p5 : Int} {p6 : Int} {p7 : Int} {p8 : Int} {p9 : Int} {q0 : Bool} (h0 : format_fields K p0 p1 p2 p3 p4 p5 p6 p7 p8 p9 = some q0) : Fn Try.prog 87 [.agg [.int .i64 p0, .int .i64 p1, .int .i64 p2, .int .i64 p3, .int .i64 p4, .int .i64 p5, .int .i64 p6, .int .i64 p7, .int .i64 p8, .int .i64 p9]] [] (.bool q0) [] := format_fields.ok h0
theorem format_fields.fnb : fnb Try.prog 87 = true := fnb_of Try.func87 rfl
def format_bits.res (_p0 : Int) (_p1 : Int) (_p2 : Int) (_p3 : Int) (_p4 : Int) (_p5 : Int) (_p6 : Int) (_p7 : Int) (_p8 : Int) (_p9 : Int) : Int → MV
  | q0 => .int .i64 q0
def format_bits.out (_p0 : Int) (_p1 : Int) (_p2 : Int) (_p3 : Int) (_p4 : Int) (_p5 : Int) (_p6 : Int) (_p7 : Int) (_p8 : Int) (_p9 : Int) : Int → List (Nat × Option MObj)
  | _ => []
theorem format_bits.ok {K : Nat} {p0 : Int} {p1 : Int} {p2 : Int} {p3 : Int} {p4 : Int} {p5 : Int} {p6 : Int} {p7 : Int} {p8 : Int} {p9 : Int} {r : Int} (h0 : format_bits K p0 p1 p2 p3 p4 p5 p6 p7 p8 p9 = some r) : Fn Try.prog 91 [.agg [.int .i64 p0, .int .i64 p1, .int .i64 p2, .int .i64 p3, .int .i64 p4, .int .i64 p5, .int .i64 p6, .int .i64 p7, .int .i64 p8, .int .i64 p9]] [] (format_bits.res p0 p1 p2 p3 p4 p5 p6 p7 p8 p9 r) (format_bits.out p0 p1 p2 p3 p4 p5 p6 p7 p8 p9 r) := by
  refine Fn_of Try.func91 rfl (Nat.le_of_ble_eq_true rfl) fun Γ => ?_
  refine TC_seq ?_
  refine TC_reg ?_
  refine TL_ev env 2 rfl ⟨tv, ⟨tv, tv⟩⟩ ?_
  refine TL_end ?_
  refine TE_go ?_
  refine TC_seq ?_
  refine TC_seq ?_
  refine TC_reg ?_
  refine TL_ev env 3 rfl ⟨tv, ⟨⟨tv, tv⟩, ⟨⟨tv, ⟨tv, tv⟩⟩, tv⟩⟩⟩ ?_
  refine TL_end ?_
  refine TE_go ?_
  refine TC_cond rfl (fun hb => ?_) (fun hb => ?_)
  · replace h0 := bif_t h0 hb
    refine TC_seq ?_
    refine TC_reg ?_
    refine TL_ev env 4 rfl ⟨tv, ⟨⟨tv, tv⟩, ⟨⟨tv, ⟨tv, tv⟩⟩, ⟨tv, tv⟩⟩⟩⟩ ?_
    refine TL_end ?_
    refine TE_go ?_
    refine TC_ret ?_
    refine tsr ?_
    obtain rfl := sinj h0
    exact TE_ret env rfl tv tv
  · replace h0 := bif_f h0 hb
    refine TC_skip ?_
    refine TE_go ?_
    refine TC_seq ?_
    refine TC_reg ?_
    refine TL_ev env 20 rfl ⟨tv, ⟨⟨tv, tv⟩, ⟨tv, ⟨⟨tv, tv⟩, ⟨⟨tv, ⟨tv, tv⟩⟩, ⟨⟨tv, ⟨tv, tv⟩⟩, ⟨tv, ⟨⟨tv, tv⟩, ⟨⟨tv, ⟨tv, tv⟩⟩, ⟨tv, ⟨⟨tv, tv⟩, ⟨⟨tv, ⟨tv, tv⟩⟩, ⟨⟨tv, ⟨tv, tv⟩⟩, ⟨tv, ⟨⟨tv, tv⟩, ⟨tv, ⟨⟨tv, tv⟩, ⟨⟨tv, ⟨tv, tv⟩⟩, ⟨⟨tv, ⟨tv, tv⟩⟩, ⟨tv, tv⟩⟩⟩⟩⟩⟩⟩⟩⟩⟩⟩⟩⟩⟩⟩⟩⟩⟩⟩⟩ ?_
    refine TL_end ?_
    refine TE_go ?_
    refine TC_ret ?_
    obtain rfl := sinj h0
    exact TE_ret env rfl tv tv
theorem format_bits.ok0 {K : Nat} {p0 : Int} {p1 : Int} {p2 : Int} {p3 : Int} {p4 : Int} {p5 : Int} {p6 : Int} {p7 : Int} {p8 : Int} {p9 : Int} {q0 : Int} (h0 : format_bits K p0 p1 p2 p3 p4 p5 p6 p7 p8 p9 = some q0) : Fn Try.prog 91 [.agg [.int .i64 p0, .int .i64 p1, .int .i64 p2, .int .i64 p3, .int .i64 p4, .int .i64 p5, .int .i64 p6, .int .i64 p7, .int .i64 p8, .int .i64 p9]] [] (.int .i64 q0) [] := format_bits.ok h0
theorem format_bits.fnb : fnb Try.prog 91 = true := fnb_of Try.func91 rfl
def format_payload.res (_p0 : Int) (_p1 : Int) (_p2 : Int) (_p3 : Int) (_p4 : Int) (_p5 : Int) (_p6 : Int) (_p7 : Int) (_p8 : Int) (_p9 : Int) : Int → MV
  | q0 => .int .i64 q0
def format_payload.out (_p0 : Int) (_p1 : Int) (_p2 : Int) (_p3 : Int) (_p4 : Int) (_p5 : Int) (_p6 : Int) (_p7 : Int) (_p8 : Int) (_p9 : Int) : Int → List (Nat × Option MObj)
  | _ => []
theorem format_payload.ok {K : Nat} {p0 : Int} {p1 : Int} {p2 : Int} {p3 : Int} {p4 : Int} {p5 : Int} {p6 : Int} {p7 : Int} {p8 : Int} {p9 : Int} {r : Int} (h0 : format_payload K p0 p1 p2 p3 p4 p5 p6 p7 p8 p9 = some r) : Fn Try.prog 88 [.agg [.int .i64 p0, .int .i64 p1, .int .i64 p2, .int .i64 p3, .int .i64 p4, .int .i64 p5, .int .i64 p6, .int .i64 p7, .int .i64 p8, .int .i64 p9]] [] (format_payload.res p0 p1 p2 p3 p4 p5 p6 p7 p8 p9 r) (format_payload.out p0 p1 p2 p3 p4 p5 p6 p7 p8 p9 r) := by
  refine Fn_of Try.func88 rfl (Nat.le_of_ble_eq_true rfl) fun Γ => ?_
  refine TC_seq ?_
  refine TC_reg ?_
  refine TL_ev env 2 rfl ⟨tv, ⟨tv, tv⟩⟩ ?_
  refine TL_end ?_
  refine TE_go ?_
  refine TC_seq ?_
  refine TC_seq ?_
  refine TC_reg ?_
  refine TL_ev env 3 rfl ⟨tv, ⟨⟨tv, tv⟩, ⟨⟨tv, ⟨tv, tv⟩⟩, tv⟩⟩⟩ ?_
  refine TL_end ?_
  refine TE_go ?_
  refine TC_cond rfl (fun hb => ?_) (fun hb => ?_)
  · replace h0 := bif_t h0 hb
    refine TC_seq ?_
    refine TC_reg ?_
    refine TL_ev env 6 rfl ⟨tv, ⟨⟨tv, tv⟩, ⟨tv, ⟨⟨tv, tv⟩, ⟨⟨tv, ⟨tv, tv⟩⟩, ⟨tv, tv⟩⟩⟩⟩⟩⟩ ?_
    refine TL_end ?_
    refine TE_go ?_
    refine TC_ret ?_
    refine tsr ?_
    obtain rfl := sinj h0
    exact TE_ret env rfl tv tv
  · replace h0 := bif_f h0 hb
    refine TC_skip ?_
    refine TE_go ?_
    refine TC_seq ?_
    refine TC_reg ?_
    refine TL_ev env 1 rfl ⟨⟨tv, tv⟩, tv⟩ ?_
    obtain ⟨r3, hr, h0⟩ := bnd h0
    refine TL_callB [] (format_bits.ok0 hr) format_bits.fnb rfl ⟨tv, ⟨tv, tv⟩⟩ rfl tv rfl ?_
    refine TL_ev env 3 rfl ⟨⟨tv, ⟨tv, tv⟩⟩, ⟨⟨tv, ⟨tv, (by decide)⟩⟩, ⟨tv, tv⟩⟩⟩ ?_
    refine TL_end ?_
    refine TE_go ?_
    refine TC_ret ?_
    obtain rfl := sinj h0
    exact TE_ret env rfl tv tv
theorem format_payload.ok0 {K : Nat} {p0 : Int} {p1 : Int} {p2 : Int} {p3 : Int} {p4 : Int} {p5 : Int} {p6 : Int} {p7 : Int} {p8 : Int} {p9 : Int} {q0 : Int} (h0 : format_payload K p0 p1 p2 p3 p4 p5 p6 p7 p8 p9 = some q0) : Fn Try.prog 88 [.agg [.int .i64 p0, .int .i64 p1, .int .i64 p2, .int .i64 p3, .int .i64 p4, .int .i64 p5, .int .i64 p6, .int .i64 p7, .int .i64 p8, .int .i64 p9]] [] (.int .i64 q0) [] := format_payload.ok h0
theorem format_payload.fnb : fnb Try.prog 88 = true := fnb_of Try.func88 rfl
def format_Check.res (_p0 : Int) (_p1 : Int) (_p2 : Int) (_p3 : Int) (_p4 : Int) (_p5 : Int) (_p6 : Int) (_p7 : Int) (_p8 : Int) (_p9 : Int) : Int → MV
  | q0 => .int .i64 q0
def format_Check.out (_p0 : Int) (_p1 : Int) (_p2 : Int) (_p3 : Int) (_p4 : Int) (_p5 : Int) (_p6 : Int) (_p7 : Int) (_p8 : Int) (_p9 : Int) : Int → List (Nat × Option MObj)
  | _ => []
theorem format_Check.ok {K : Nat} {p0 : Int} {p1 : Int} {p2 : Int} {p3 : Int} {p4 : Int} {p5 : Int} {p6 : Int} {p7 : Int} {p8 : Int} {p9 : Int} {r : Int} (h0 : format_Check K p0 p1 p2 p3 p4 p5 p6 p7 p8 p9 = some r) : Fn Try.prog 33 [.agg [.int .i64 p0, .int .i64 p1, .int .i64 p2, .int .i64 p3, .int .i64 p4, .int .i64 p5, .int .i64 p6, .int .i64 p7, .int .i64 p8, .int .i64 p9]] [] (format_Check.res p0 p1 p2 p3 p4 p5 p6 p7 p8 p9 r) (format_Check.out p0 p1 p2 p3 p4 p5 p6 p7 p8 p9 r) := by
  refine Fn_of Try.func33 rfl (Nat.le_of_ble_eq_true rfl) fun Γ => ?_
  refine TC_seq ?_
  refine TC_reg ?_
  refine TL_ev env 2 rfl ⟨tv, ⟨tv, tv⟩⟩ ?_
  refine TL_end ?_
  refine TE_go ?_
  refine TC_seq ?_
  refine TC_seq ?_
  obtain ⟨z1, h1, h0⟩ := bnd h0
  refine TC_cut (α := Bool) (fun s => z1 = s) (fun s => [(10, .bool s)]) (fun s => []) ?_ ?_
  · refine TC_reg ?_
    refine TL_ev env 1 rfl ⟨⟨tv, tv⟩, tv⟩ ?_
    obtain ⟨r7, hr, h1⟩ := bnd h1
    refine TL_callB [] (format_fields.ok0 hr) format_fields.fnb rfl ⟨tv, ⟨tv, tv⟩⟩ rfl tv rfl ?_
    refine TL_ev env 2 rfl ⟨tv, ⟨tv, tv⟩⟩ ?_
    refine TL_split 6 rfl (fun hb => ?_) (fun hb => ?_)
    · replace h1 := bif_t h1 hb
      refine TL_gf (.bool false) rfl rfl rfl rfl rfl (by decide) ?_
      refine TL_gf (.bool false) rfl rfl rfl rfl rfl (by decide) ?_
      refine TL_gf (.bool false) rfl rfl rfl rfl rfl (by decide) ?_
      refine TL_ev env 1 rfl ⟨⟨tv, ⟨tv, fun e => e⟩⟩, tv⟩ ?_
      refine TL_end ?_
      obtain rfl := sinj h1
      refine tsn ?_
      exact SP_ren [] _ rfl ⟨rfl, tv⟩ tv rfl
    · replace h1 := bif_f h1 hb
      refine TL_gt rfl rfl rfl rfl ?_
      refine TL_ev env 1 rfl ⟨⟨tv, tv⟩, tv⟩ ?_
      refine TL_gt rfl rfl rfl rfl ?_
      obtain ⟨r8, hr, h1⟩ := bnd h1
      refine TL_callB [] (format_payload.ok0 hr) format_payload.fnb rfl ⟨tv, ⟨tv, tv⟩⟩ rfl tv rfl ?_
      refine TL_gt rfl rfl rfl rfl ?_
      refine TL_ev env 2 rfl ⟨⟨tv, ⟨tv, tv⟩⟩, ⟨⟨tv, ⟨tv, tv⟩⟩, tv⟩⟩ ?_
      refine TL_end ?_
      obtain rfl := sinj h1
      refine tsn ?_
      exact SP_ren [] _ rfl ⟨rfl, tv⟩ tv rfl
  · rintro x6 hz
    obtain rfl := hz.symm
    refine TE_go ?_
    refine TC_cond rfl (fun hb => ?_) (fun hb => ?_)
    · replace h0 := bif_t h0 hb
      refine TC_seq ?_
      refine TC_reg ?_
      refine TL_ev env 1 rfl ⟨tv, tv⟩ ?_
      refine TL_end ?_
      refine TE_go ?_
      refine TC_ret ?_
      refine tsr ?_
      obtain rfl := sinj h0
      exact TE_ret env rfl tv tv
    · replace h0 := bif_f h0 hb
      refine TC_skip ?_
      refine TE_go ?_
      refine TC_seq ?_
      refine TC_reg ?_
      refine TL_ev env 1 rfl ⟨tv, tv⟩ ?_
      refine TL_end ?_
      refine TE_go ?_
      refine TC_ret ?_
      obtain rfl := sinj h0
      exact TE_ret env rfl tv tv
theorem format_Check.ok0 {K : Nat} {p0 : Int} {p1 : Int} {p2 : Int} {p3 : Int} {p4 : Int} {p5 : Int} {p6 : Int} {p7 : Int} {p8 : Int} {p9 : Int} {q0 : Int} (h0 : format_Check K p0 p1 p2 p3 p4 p5 p6 p7 p8 p9 = some q0) : Fn Try.prog 33 [.agg [.int .i64 p0, .int .i64 p1, .int .i64 p2, .int .i64 p3, .int .i64 p4, .int .i64 p5, .int .i64 p6, .int .i64 p7, .int .i64 p8, .int .i64 p9]] [] (.int .i64 q0) [] := format_Check.ok h0
theorem format_Check.fnb : fnb Try.prog 33 = true := fnb_of Try.func33 rfl
def alloc_may.res (_p0 : Int) (_p1 : Int) (_p2 : Int) (_p3 : Int) (_p4 : Int) (_p5 : Int) (_p6 : Int) (_p7 : Int) (_p8 : Int) (_p9 : Int) (_p10 : List (List (Int))) : Int → MV
  | q0 => .int .i64 q0
def alloc_may.out (_p0 : Int) (_p1 : Int) (_p2 : Int) (_p3 : Int) (_p4 : Int) (_p5 : Int) (_p6 : Int) (_p7 : Int) (_p8 : Int) (_p9 : Int) (_p10 : List (List (Int))) : Int → List (Nat × Option MObj)
  | _ => []
theorem alloc_may.ok {K : Nat} {p0 : Int} {p1 : Int} {p2 : Int} {p3 : Int} {p4 : Int} {p5 : Int} {p6 : Int} {p7 : Int} {p8 : Int} {p9 : Int} {p10 : List (List (Int))} {r : Int} (h0 : alloc_may K p0 p1 p2 p3 p4 p5 p6 p7 p8 p9 p10 = some r) : Fn Try.prog 101 [.agg [.int .i64 p0, .int .i64 p1, .int .i64 p2, .int .i64 p3, .int .i64 p4, .int .i64 p5, .int .i64 p6, .int .i64 p7, .int .i64 p8, .int .i64 p9], .im (.slice (.slice (.int .i64))) p10] [] (alloc_may.res p0 p1 p2 p3 p4 p5 p6 p7 p8 p9 p10 r) (alloc_may.out p0 p1 p2 p3 p4 p5 p6 p7 p8 p9 p10 r) := by
  refine Fn_of Try.func101 rfl (Nat.le_of_ble_eq_true rfl) fun Γ => ?_
  refine TC_seq ?_
  refine TC_reg ?_
  refine TL_ev env 2 rfl ⟨tv, ⟨tv, tv⟩⟩ ?_
  refine TL_end ?_
  refine TE_go ?_
  refine TC_seq ?_
  refine TC_seq ?_
  refine TC_reg ?_
  refine TL_ev env 1 rfl ⟨⟨tv, tv⟩, tv⟩ ?_
  obtain ⟨r12, hr, h0⟩ := bnd h0
  refine TL_callB [] (format_Check.ok0 hr) format_Check.fnb rfl ⟨tv, ⟨tv, tv⟩⟩ rfl tv rfl ?_
  refine TL_ev env 6 rfl ⟨⟨tv, ⟨tv, tv⟩⟩, ⟨tv, ⟨fun eg => tv, ⟨fun eg => ⟨fun e => e, tv⟩, ⟨fun eg => ⟨fun e => e, ⟨tv, tv⟩⟩, ⟨⟨tv, ⟨tv, fun e => e⟩⟩, tv⟩⟩⟩⟩⟩⟩ ?_
  refine TL_end ?_
  refine TE_go ?_
  refine TC_cond rfl (fun hb => ?_) (fun hb => ?_)
  · replace h0 := bif_t h0 hb
    refine TC_seq ?_
    refine TC_reg ?_
    refine TL_ev env 1 rfl ⟨tv, tv⟩ ?_
    refine TL_end ?_
    refine TE_go ?_
    refine TC_ret ?_
    refine tsr ?_
    obtain rfl := sinj h0
    exact TE_ret env rfl tv tv
  · replace h0 := bif_f h0 hb
    refine TC_skip ?_
    refine TE_go ?_
    refine TC_seq ?_
    refine TC_seq ?_
    refine TC_reg ?_
    refine TL_ev env 5 rfl ⟨tv, ⟨⟨tv, tv⟩, ⟨tv, ⟨⟨tv, tv⟩, ⟨⟨tv, ⟨tv, tv⟩⟩, tv⟩⟩⟩⟩⟩ ?_
    refine TL_end ?_
    refine TE_go ?_
    refine TC_cond rfl (fun hb => ?_) (fun hb => ?_)
    · replace h0 := bif_t h0 hb
      refine TC_seq ?_
      refine TC_reg ?_
      refine TL_ev env 1 rfl ⟨tv, tv⟩ ?_
      refine TL_end ?_
      refine TE_go ?_
      refine TC_ret ?_
      refine tsr ?_
      obtain rfl := sinj h0
      exact TE_ret env rfl tv tv
    · replace h0 := bif_f h0 hb
      refine TC_skip ?_
      refine TE_go ?_
      refine TC_seq ?_
      refine TC_seq ?_
      refine TC_reg ?_
      refine TL_ev env 3 rfl ⟨tv, ⟨⟨tv, tv⟩, ⟨tv, tv⟩⟩⟩ ?_
      refine TL_end ?_
      refine TE_go ?_
      obtain ⟨z1, h1, h0⟩ := bnd h0
      refine TC_cut (α := Unit) (fun _ => z1 = .inl ()) (fun _ => []) (fun _ => []) ?_ ?_
      · refine TC_blk ?_
        refine TC_loop (α := Int) (fun n s => alloc_may.l0 K p10 (p10.length : Int) p0 p1 p2 p3 p4 p5 p6 p7 p8 p9 n s = some z1) (fun s => [(2, .p 15000 0), (22, .im (.slice (.slice (.int .i64))) p10), (23, .int .i64 (p10.length : Int)), (24, .int .i64 s)]) (fun s => [(15000, some (.cells [.int .i64 p0, .int .i64 p1, .int .i64 p2, .int .i64 p3, .int .i64 p4, .int .i64 p5, .int .i64 p6, .int .i64 p7, .int .i64 p8, .int .i64 p9]))]) K ?_ ?_
        · exact SP_ren [(15000, 1002)] _ h1 ⟨rfl, rfl, rfl, rfl, tv⟩ ⟨rfl, tv⟩ rfl
        rintro n x29 h1
        rcases n with _ | n
        · exact (nsome h1).elim
        replace h1 : alloc_may.r0 K p10 (p10.length : Int) p0 p1 p2 p3 p4 p5 p6 p7 p8 p9 (alloc_may.l0 K p10 (p10.length : Int) p0 p1 p2 p3 p4 p5 p6 p7 p8 p9 n) x29 = some z1 := h1
        refine TC_seq ?_
        refine TC_reg ?_
        refine TL_ev env 1 rfl ⟨⟨tv, ⟨tv, tv⟩⟩, tv⟩ ?_
        refine TL_end ?_
        refine TE_go ?_
        refine TC_seq ?_
        refine TC_cond rfl (fun hb => ?_) (fun hb => ?_)
        · replace h1 := bif_t h1 hb
          refine TC_skip ?_
          refine TE_go ?_
          refine TC_seq ?_
          refine TC_blk ?_
          refine TC_seq ?_
          refine TC_reg ?_
          obtain ⟨g, h1⟩ := gd_t h1
          refine TL_ev env 3 rfl ⟨⟨tv, ⟨tv, ⟨g.1, g.2⟩⟩⟩, ⟨⟨tv, tv⟩, ⟨tv, tv⟩⟩⟩ ?_
          refine TL_end ?_
          refine TE_go ?_
          refine TC_seq ?_
          refine TC_seq ?_
          refine TC_reg ?_
          refine TL_ev env 5 rfl ⟨tv, ⟨⟨tv, tv⟩, ⟨tv, ⟨⟨tv, tv⟩, ⟨⟨tv, ⟨tv, tv⟩⟩, tv⟩⟩⟩⟩⟩ ?_
          refine TL_end ?_
          refine TE_go ?_
          refine TC_cond rfl (fun hb => ?_) (fun hb => ?_)
          · replace h1 := bif_t h1 hb
            refine TC_seq ?_
            refine TC_reg ?_
            refine TL_ev env 1 rfl ⟨tv, tv⟩ ?_
            refine TL_end ?_
            refine TE_go ?_
            refine TC_ret ?_
            refine tsr ?_
            refine tbr ?_
            refine tsr ?_
            refine tsr ?_
            refine tbr ?_
            refine tsr ?_
            refine tsr ?_
            obtain rfl := sinj h1
            obtain rfl := sinj h0
            exact TE_ret env rfl tv tv
          · replace h1 := bif_f h1 hb
            refine TC_skip ?_
            refine TE_go ?_
            refine TC_seq ?_
            refine TC_reg ?_
            refine TL_ev env 3 rfl ⟨tv, ⟨⟨tv, tv⟩, ⟨tv, tv⟩⟩⟩ ?_
            refine TL_end ?_
            refine TE_go ?_
            obtain ⟨z2, h2, h1⟩ := bnd h1
            refine TC_cut (α := Unit) (fun _ => z2 = .inl ()) (fun _ => [(2, .p 16700 0), (22, .im (.slice (.slice (.int .i64))) p10), (23, .int .i64 (p10.length : Int)), (24, .int .i64 x29)]) (fun _ => [(16700, some (.cells [.int .i64 p0, .int .i64 p1, .int .i64 p2, .int .i64 p3, .int .i64 p4, .int .i64 p5, .int .i64 p6, .int .i64 p7, .int .i64 p8, .int .i64 p9]))]) ?_ ?_
            · refine TC_blk ?_
              refine TC_loop (α := Int) (fun n s => alloc_may.l1 K p10 (p10.length : Int) x29 (Kd.nth (.slice (.int .i64)) p10 (Int.toNat x29)) ((Kd.nth (.slice (.int .i64)) p10 (Int.toNat x29)).length : Int) p0 p1 p2 p3 p4 p5 p6 p7 p8 p9 n s = some z2) (fun s => [(2, .p 16900 0), (22, .im (.slice (.slice (.int .i64))) p10), (23, .int .i64 (p10.length : Int)), (24, .int .i64 x29), (33, .im (.slice (.int .i64)) (Kd.nth (.slice (.int .i64)) p10 (Int.toNat x29))), (34, .int .i64 ((Kd.nth (.slice (.int .i64)) p10 (Int.toNat x29)).length : Int)), (35, .int .i64 s)]) (fun s => [(16900, some (.cells [.int .i64 p0, .int .i64 p1, .int .i64 p2, .int .i64 p3, .int .i64 p4, .int .i64 p5, .int .i64 p6, .int .i64 p7, .int .i64 p8, .int .i64 p9]))]) K ?_ ?_
              · exact SP_ren [(16900, 15000)] _ h2 ⟨rfl, rfl, rfl, rfl, rfl, rfl, rfl, tv⟩ ⟨rfl, tv⟩ rfl
              rintro n x43 h2
              rcases n with _ | n
              · exact (nsome h2).elim
              replace h2 : alloc_may.r1 K p10 (p10.length : Int) x29 (Kd.nth (.slice (.int .i64)) p10 (Int.toNat x29)) ((Kd.nth (.slice (.int .i64)) p10 (Int.toNat x29)).length : Int) p0 p1 p2 p3 p4 p5 p6 p7 p8 p9 (alloc_may.l1 K p10 (p10.length : Int) x29 (Kd.nth (.slice (.int .i64)) p10 (Int.toNat x29)) ((Kd.nth (.slice (.int .i64)) p10 (Int.toNat x29)).length : Int) p0 p1 p2 p3 p4 p5 p6 p7 p8 p9 n) x43 = some z2 := h2
              refine TC_seq ?_
              refine TC_reg ?_
              refine TL_ev env 1 rfl ⟨⟨tv, ⟨tv, tv⟩⟩, tv⟩ ?_
              refine TL_end ?_
              refine TE_go ?_
              refine TC_seq ?_
              refine TC_cond rfl (fun hb => ?_) (fun hb => ?_)
              · replace h2 := bif_t h2 hb
                refine TC_skip ?_
                refine TE_go ?_
                refine TC_seq ?_
                refine TC_blk ?_
                refine TC_seq ?_
                refine TC_reg ?_
                obtain ⟨g, h2⟩ := gd_t h2
                refine TL_ev env 3 rfl ⟨⟨tv, ⟨tv, ⟨g.1, g.2⟩⟩⟩, ⟨⟨tv, tv⟩, ⟨tv, tv⟩⟩⟩ ?_
                refine TL_end ?_
                refine TE_go ?_
                refine TC_seq ?_
                refine TC_reg ?_
                refine TL_ev env 6 rfl ⟨tv, ⟨⟨tv, ⟨tv, tv⟩⟩, ⟨tv, ⟨fun eg => tv, ⟨fun eg => ⟨fun e => e, ⟨tv, tv⟩⟩, ⟨⟨tv, ⟨tv, fun e => e⟩⟩, tv⟩⟩⟩⟩⟩⟩ ?_
                refine TL_end ?_
                refine TE_go ?_
                refine TC_cond rfl (fun hb => ?_) (fun hb => ?_)
                · replace h2 := bif_t h2 hb
                  refine TC_seq ?_
                  refine TC_reg ?_
                  refine TL_ev env 1 rfl ⟨tv, tv⟩ ?_
                  refine TL_end ?_
                  refine TE_go ?_
                  refine TC_ret ?_
                  refine tbr ?_
                  refine tsr ?_
                  refine tsr ?_
                  refine tbr ?_
                  refine tsr ?_
                  refine tbr ?_
                  refine tsr ?_
                  refine tsr ?_
                  refine tbr ?_
                  refine tsr ?_
                  refine tsr ?_
                  obtain rfl := sinj h2
                  obtain rfl := sinj h1
                  obtain rfl := sinj h0
                  exact TE_ret env rfl tv tv
                · replace h2 := bif_f h2 hb
                  refine TC_skip ?_
                  refine tbn ?_
                  refine TE_go ?_
                  refine TC_reg ?_
                  refine TL_ev env 2 rfl ⟨⟨tv, ⟨tv, tv⟩⟩, ⟨tv, tv⟩⟩ ?_
                  refine TL_end ?_
                  refine tsn ?_
                  exact TE_nextr [(16900, 16900)] n (Nat.lt_succ_self n) _ h2 ⟨rfl, rfl, rfl, rfl, rfl, rfl, rfl, tv⟩ ⟨rfl, tv⟩ rfl
              · replace h2 := bif_f h2 hb
                refine TC_exit ?_
                refine tsx ?_
                refine tsx ?_
                refine tbe ?_
                obtain rfl := sinj h2
                refine tsn ?_
                exact SP_ren [(16700, 16900)] () rfl ⟨rfl, rfl, rfl, rfl, tv⟩ ⟨rfl, tv⟩ rfl
            · rintro ⟨⟩ rfl
              refine tbn ?_
              refine TE_go ?_
              refine TC_reg ?_
              refine TL_ev env 2 rfl ⟨⟨tv, ⟨tv, tv⟩⟩, ⟨tv, tv⟩⟩ ?_
              refine TL_end ?_
              refine tsn ?_
              exact TE_nextr [(15000, 16700)] n (Nat.lt_succ_self n) _ h1 ⟨rfl, rfl, rfl, rfl, tv⟩ ⟨rfl, tv⟩ rfl
        · replace h1 := bif_f h1 hb
          refine TC_exit ?_
          refine tsx ?_
          refine tsx ?_
          refine tbe ?_
          obtain rfl := sinj h1
          refine tsn ?_
          exact SP_ren [] () rfl tv tv rfl
      · rintro ⟨⟩ rfl
        refine TE_go ?_
        refine TC_seq ?_
        refine TC_reg ?_
        refine TL_ev env 1 rfl ⟨tv, tv⟩ ?_
        refine TL_end ?_
        refine TE_go ?_
        refine TC_ret ?_
        obtain rfl := sinj h0
        exact TE_ret env rfl tv tv
theorem alloc_may.ok0 {K : Nat} {p0 : Int} {p1 : Int} {p2 : Int} {p3 : Int} {p4 : Int} {p5 : Int} {p6 : Int} {p7 : Int} {p8 : Int} {p9 : Int} {p10 : List (List (Int))} {q0 : Int} (h0 : alloc_may K p0 p1 p2 p3 p4 p5 p6 p7 p8 p9 p10 = some q0) : Fn Try.prog 101 [.agg [.int .i64 p0, .int .i64 p1, .int .i64 p2, .int .i64 p3, .int .i64 p4, .int .i64 p5, .int .i64 p6, .int .i64 p7, .int .i64 p8, .int .i64 p9], .im (.slice (.slice (.int .i64))) p10] [] (.int .i64 q0) [] := alloc_may.ok h0
theorem alloc_may.fnb : fnb Try.prog 101 = true := fnb_of Try.func101 rfl
def alloc_four.res  : Unit → MV
  | () => .agg [.int .i64 (-1), .int .i64 0, .int .i64 0, .int .i64 0, .int .i64 (-2), .int .i64 0, .int .i64 0, .int .i64 1, .int .i64 (-2), .int .i64 0, .int .i64 0, .int .i64 1, .int .i64 (-2), .int .i64 0, .int .i64 0, .int .i64 1]
def alloc_four.out  : Unit → List (Nat × Option MObj)
  | () => []
theorem alloc_four.ok {K : Nat}  {r : Unit} (h0 : alloc_four K  = some r) : Fn Try.prog 158 [] [] (alloc_four.res  r) (alloc_four.out  r) := by
  refine Fn_of Try.func158 rfl (Nat.le_of_ble_eq_true rfl) fun Γ => ?_
  refine TC_seq ?_
  refine TC_reg ?_
  refine TL_ev env 1 rfl ⟨tv, tv⟩ ?_
  refine TL_end ?_
  refine TE_go ?_
  refine TC_seq ?_
  refine TC_reg ?_
  refine TL_ev env 6 rfl ⟨⟨tv, ⟨tv, ⟨tv, ⟨tv, tv⟩⟩⟩⟩, ⟨⟨tv, ⟨tv, ⟨tv, ⟨tv, tv⟩⟩⟩⟩, ⟨⟨tv, ⟨tv, ⟨tv, ⟨tv, tv⟩⟩⟩⟩, ⟨⟨tv, ⟨tv, ⟨tv, ⟨tv, tv⟩⟩⟩⟩, ⟨⟨tv, ⟨tv, ⟨tv, ⟨tv, tv⟩⟩⟩⟩, ⟨⟨tv, tv⟩, tv⟩⟩⟩⟩⟩⟩ ?_
  refine TL_end ?_
  refine TE_go ?_
  refine TC_ret ?_
  obtain rfl := sinj h0
  exact TE_ret env rfl ⟨tv, tv⟩ tv
theorem alloc_four.ok0 {K : Nat}   (h0 : alloc_four K  = some ()) : Fn Try.prog 158 [] [] (.agg [.int .i64 (-1), .int .i64 0, .int .i64 0, .int .i64 0, .int .i64 (-2), .int .i64 0, .int .i64 0, .int .i64 1, .int .i64 (-2), .int .i64 0, .int .i64 0, .int .i64 1, .int .i64 (-2), .int .i64 0, .int .i64 0, .int .i64 1]) [] := alloc_four.ok h0
theorem alloc_four.fnb : fnb Try.prog 158 = true := fnb_of Try.func158 rfl
def alloc_eight.res  : Unit → MV
  | () => .agg [.int .i64 (-2), .int .i64 0, .int .i64 0, .int .i64 0, .int .i64 0, .int .i64 0, .int .i64 0, .int .i64 1, .int .i64 (-3), .int .i64 0, .int .i64 0, .int .i64 0, .int .i64 0, .int .i64 0, .int .i64 1, .int .i64 2, .int .i64 (-4), .int .i64 0, .int .i64 0, .int .i64 0, .int .i64 0, .int .i64 0, .int .i64 1, .int .i64 2, .int .i64 (-4), .int .i64 0, .int .i64 0, .int .i64 0, .int .i64 0, .int .i64 0, .int .i64 1, .int .i64 2]
def alloc_eight.out  : Unit → List (Nat × Option MObj)
  | () => []
theorem alloc_eight.ok {K : Nat}  {r : Unit} (h0 : alloc_eight K  = some r) : Fn Try.prog 159 [] [] (alloc_eight.res  r) (alloc_eight.out  r) := by
  refine Fn_of Try.func159 rfl (Nat.le_of_ble_eq_true rfl) fun Γ => ?_
  refine TC_seq ?_
  refine TC_reg ?_
  refine TL_ev env 1 rfl ⟨tv, tv⟩ ?_
  refine TL_end ?_
  refine TE_go ?_
  refine TC_seq ?_
  refine TC_reg ?_
  refine TL_ev env 6 rfl ⟨⟨tv, ⟨tv, ⟨tv, ⟨tv, ⟨tv, ⟨tv, ⟨tv, ⟨tv, tv⟩⟩⟩⟩⟩⟩⟩⟩, ⟨⟨tv, ⟨tv, ⟨tv, ⟨tv, ⟨tv, ⟨tv, ⟨tv, ⟨tv, tv⟩⟩⟩⟩⟩⟩⟩⟩, ⟨⟨tv, ⟨tv, ⟨tv, ⟨tv, ⟨tv, ⟨tv, ⟨tv, ⟨tv, tv⟩⟩⟩⟩⟩⟩⟩⟩, ⟨⟨tv, ⟨tv, ⟨tv, ⟨tv, ⟨tv, ⟨tv, ⟨tv, ⟨tv, tv⟩⟩⟩⟩⟩⟩⟩⟩, ⟨⟨tv, ⟨tv, ⟨tv, ⟨tv, tv⟩⟩⟩⟩, ⟨⟨tv, tv⟩, tv⟩⟩⟩⟩⟩⟩ ?_
  refine TL_end ?_
  refine TE_go ?_
  refine TC_ret ?_
  obtain rfl := sinj h0
  exact TE_ret env rfl ⟨tv, tv⟩ tv
theorem alloc_eight.ok0 {K : Nat}   (h0 : alloc_eight K  = some ()) : Fn Try.prog 159 [] [] (.agg [.int .i64 (-2), .int .i64 0, .int .i64 0, .int .i64 0, .int .i64 0, .int .i64 0, .int .i64 0, .int .i64 1, .int .i64 (-3), .int .i64 0, .int .i64 0, .int .i64 0, .int .i64 0, .int .i64 0, .int .i64 1, .int .i64 2, .int .i64 (-4), .int .i64 0, .int .i64 0, .int .i64 0, .int .i64 0, .int .i64 0, .int .i64 1, .int .i64 2, .int .i64 (-4), .int .i64 0, .int .i64 0, .int .i64 0, .int .i64 0, .int .i64 0, .int .i64 1, .int .i64 2]) [] := alloc_eight.ok h0
theorem alloc_eight.fnb : fnb Try.prog 159 = true := fnb_of Try.func159 rfl
def alloc_offset.res (_p0 : Int) (_p1 : Int) (_p2 : Int) (_p3 : Int) (_p4 : Int) (_p5 : Int) (_p6 : Int) (_p7 : Int) (_p8 : Int) (_p9 : Int) (_p10 : Int) : Int → MV
  | q0 => .int .i64 q0
def alloc_offset.out (_p0 : Int) (_p1 : Int) (_p2 : Int) (_p3 : Int) (_p4 : Int) (_p5 : Int) (_p6 : Int) (_p7 : Int) (_p8 : Int) (_p9 : Int) (_p10 : Int) : Int → List (Nat × Option MObj)
  | _ => []
theorem alloc_offset.ok {K : Nat} {p0 : Int} {p1 : Int} {p2 : Int} {p3 : Int} {p4 : Int} {p5 : Int} {p6 : Int} {p7 : Int} {p8 : Int} {p9 : Int} {p10 : Int} {r : Int} (h0 : alloc_offset K p0 p1 p2 p3 p4 p5 p6 p7 p8 p9 p10 = some r) : Fn Try.prog 133 [.agg [.int .i64 p0, .int .i64 p1, .int .i64 p2, .int .i64 p3, .int .i64 p4, .int .i64 p5, .int .i64 p6, .int .i64 p7, .int .i64 p8, .int .i64 p9], .int .i64 p10] [] (alloc_offset.res p0 p1 p2 p3 p4 p5 p6 p7 p8 p9 p10 r) (alloc_offset.out p0 p1 p2 p3 p4 p5 p6 p7 p8 p9 p10 r) := by
  refine Fn_of Try.func133 rfl (Nat.le_of_ble_eq_true rfl) fun Γ => ?_
  refine TC_seq ?_
  refine TC_reg ?_
  refine TL_ev env 2 rfl ⟨tv, ⟨tv, tv⟩⟩ ?_
  refine TL_end ?_
  refine TE_go ?_
  refine TC_seq ?_
  refine TC_seq ?_
  refine TC_reg ?_
  refine TL_ev env 3 rfl ⟨tv, ⟨⟨tv, tv⟩, ⟨⟨tv, ⟨tv, tv⟩⟩, tv⟩⟩⟩ ?_
  refine TL_end ?_
  refine TE_go ?_
  refine TC_cond rfl (fun hb => ?_) (fun hb => ?_)
  · replace h0 := bif_t h0 hb
    refine TC_seq ?_
    refine TC_renw (A' := [(1, .int .i64 _), (2, .p 1002 0)]) (L' := [(1002, some (.cells [.int .i64 _, .int .i64 _, .int .i64 _, .int .i64 _, .int .i64 _, .int .i64 _, .int .i64 _, .int .i64 _, .int .i64 _, .int .i64 _]))]) [] ⟨rfl, rfl, tv⟩ ⟨rfl, tv⟩ rfl ?_
    refine TC_drawR ⟨_, fun i => ([[], [], [1], [2, 1, 0], [], [4, 3, 2, 1, 0], [5, 4, 3, 2, 1, 0]] : List (List Nat)).getD i [], fun i => ([[], [], [], [], [], [], []] : List (List Nat)).getD i [], fun i => ([[], [], [], [], [], [], []] : List (List Nat)).getD i []⟩ (fun i => ([[], [], [], [], [], [], []] : List (List Nat)).getD i []) (by kernel_rfl) (by kernel_rfl) ?_
    obtain ⟨⟨⟩, hr, h0⟩ := bnd h0
    refine AJR_call 1 rfl (Nat.le_of_ble_eq_true rfl) [] rfl (alloc_four.ok0 hr) alloc_four.fnb rfl ⟨tv, tv⟩ rfl tv rfl ?_
    refine AJR_ev env 2 rfl (Nat.le_of_ble_eq_true rfl) rfl tv ?_
    refine AJR_ev env 3 rfl (Nat.le_of_ble_eq_true rfl) rfl ⟨tv, tv⟩ ?_
    obtain ⟨g, h0⟩ := gd_t h0
    refine AJR_ev env 4 rfl (Nat.le_of_ble_eq_true rfl) rfl ⟨tv, ⟨tv, ⟨g.1, g.2⟩⟩⟩ ?_
    refine AJR_ev env 5 rfl (Nat.le_of_ble_eq_true rfl) rfl tv ?_
    obtain ⟨g, h0⟩ := gd_t h0
    refine AJR_ev env 6 rfl (Nat.le_of_ble_eq_true rfl) rfl ⟨tv, ⟨tv, ⟨g.1, g.2⟩⟩⟩ ?_
    refine AJR_ev env 7 rfl (Nat.le_of_ble_eq_true rfl) rfl tv ?_
    refine AJR_end rfl rfl rfl ?_
    refine TE_go ?_
    refine TC_ret ?_
    refine tsr ?_
    obtain rfl := sinj h0
    exact TE_ret env rfl tv tv
  · replace h0 := bif_f h0 hb
    refine TC_skip ?_
    refine TE_go ?_
    refine TC_seq ?_
    refine TC_renw (A' := [(1, .int .i64 _), (2, .p 1002 0)]) (L' := [(1002, some (.cells [.int .i64 _, .int .i64 _, .int .i64 _, .int .i64 _, .int .i64 _, .int .i64 _, .int .i64 _, .int .i64 _, .int .i64 _, .int .i64 _]))]) [] ⟨rfl, rfl, tv⟩ ⟨rfl, tv⟩ rfl ?_
    refine TC_drawR ⟨_, fun i => ([[], [], [1], [2, 1, 0], [], [4, 3, 2, 1, 0], [5, 4, 3, 2, 1, 0]] : List (List Nat)).getD i [], fun i => ([[], [], [], [], [], [], []] : List (List Nat)).getD i [], fun i => ([[], [], [], [], [], [], []] : List (List Nat)).getD i []⟩ (fun i => ([[], [], [], [], [], [], []] : List (List Nat)).getD i []) (by kernel_rfl) (by kernel_rfl) ?_
    obtain ⟨⟨⟩, hr, h0⟩ := bnd h0
    refine AJR_call 1 rfl (Nat.le_of_ble_eq_true rfl) [] rfl (alloc_eight.ok0 hr) alloc_eight.fnb rfl ⟨tv, tv⟩ rfl tv rfl ?_
    refine AJR_ev env 2 rfl (Nat.le_of_ble_eq_true rfl) rfl tv ?_
    refine AJR_ev env 3 rfl (Nat.le_of_ble_eq_true rfl) rfl ⟨tv, tv⟩ ?_
    obtain ⟨g, h0⟩ := gd_t h0
    refine AJR_ev env 4 rfl (Nat.le_of_ble_eq_true rfl) rfl ⟨tv, ⟨tv, ⟨g.1, g.2⟩⟩⟩ ?_
    refine AJR_ev env 5 rfl (Nat.le_of_ble_eq_true rfl) rfl tv ?_
    obtain ⟨g, h0⟩ := gd_t h0
    refine AJR_ev env 6 rfl (Nat.le_of_ble_eq_true rfl) rfl ⟨tv, ⟨tv, ⟨g.1, g.2⟩⟩⟩ ?_
    refine AJR_ev env 7 rfl (Nat.le_of_ble_eq_true rfl) rfl tv ?_
    refine AJR_end rfl rfl rfl ?_
    refine TE_go ?_
    refine TC_ret ?_
    obtain rfl := sinj h0
    exact TE_ret env rfl tv tv
theorem alloc_offset.ok0 {K : Nat} {p0 : Int} {p1 : Int} {p2 : Int} {p3 : Int} {p4 : Int} {p5 : Int} {p6 : Int} {p7 : Int} {p8 : Int} {p9 : Int} {p10 : Int} {q0 : Int} (h0 : alloc_offset K p0 p1 p2 p3 p4 p5 p6 p7 p8 p9 p10 = some q0) : Fn Try.prog 133 [.agg [.int .i64 p0, .int .i64 p1, .int .i64 p2, .int .i64 p3, .int .i64 p4, .int .i64 p5, .int .i64 p6, .int .i64 p7, .int .i64 p8, .int .i64 p9], .int .i64 p10] [] (.int .i64 q0) [] := alloc_offset.ok h0
theorem alloc_offset.fnb : fnb Try.prog 133 = true := fnb_of Try.func133 rfl
def alloc_need.res (_p0 : Int) (_p1 : Int) (_p2 : Int) (_p3 : Int) (_p4 : Int) (_p5 : Int) (_p6 : Int) (_p7 : Int) (_p8 : Int) (_p9 : Int) (_p10 : Int) (_p11 : Int) : Int → MV
  | q0 => .int .i64 q0
def alloc_need.out (_p0 : Int) (_p1 : Int) (_p2 : Int) (_p3 : Int) (_p4 : Int) (_p5 : Int) (_p6 : Int) (_p7 : Int) (_p8 : Int) (_p9 : Int) (_p10 : Int) (_p11 : Int) : Int → List (Nat × Option MObj)
  | _ => []
theorem alloc_need.ok {K : Nat} {p0 : Int} {p1 : Int} {p2 : Int} {p3 : Int} {p4 : Int} {p5 : Int} {p6 : Int} {p7 : Int} {p8 : Int} {p9 : Int} {p10 : Int} {p11 : Int} {r : Int} (h0 : alloc_need K p0 p1 p2 p3 p4 p5 p6 p7 p8 p9 p10 p11 = some r) : Fn Try.prog 102 [.agg [.int .i64 p0, .int .i64 p1, .int .i64 p2, .int .i64 p3, .int .i64 p4, .int .i64 p5, .int .i64 p6, .int .i64 p7, .int .i64 p8, .int .i64 p9], .int .i64 p10, .int .i64 p11] [] (alloc_need.res p0 p1 p2 p3 p4 p5 p6 p7 p8 p9 p10 p11 r) (alloc_need.out p0 p1 p2 p3 p4 p5 p6 p7 p8 p9 p10 p11 r) := by
  refine Fn_of Try.func102 rfl (Nat.le_of_ble_eq_true rfl) fun Γ => ?_
  refine TC_seq ?_
  refine TC_reg ?_
  refine TL_ev env 2 rfl ⟨tv, ⟨tv, tv⟩⟩ ?_
  refine TL_end ?_
  refine TE_go ?_
  refine TC_seq ?_
  refine TC_seq ?_
  refine TC_reg ?_
  refine TL_ev env 3 rfl ⟨tv, ⟨⟨tv, tv⟩, ⟨⟨tv, ⟨tv, tv⟩⟩, tv⟩⟩⟩ ?_
  refine TL_end ?_
  refine TE_go ?_
  refine TC_cond rfl (fun hb => ?_) (fun hb => ?_)
  · replace h0 := bif_t h0 hb
    refine TC_seq ?_
    refine TC_reg ?_
    refine TL_ev env 2 rfl ⟨tv, ⟨tv, tv⟩⟩ ?_
    refine TL_end ?_
    refine TE_go ?_
    refine TC_ret ?_
    refine tsr ?_
    obtain rfl := sinj h0
    exact TE_ret env rfl tv tv
  · replace h0 := bif_f h0 hb
    refine TC_skip ?_
    refine TE_go ?_
    refine TC_seq ?_
    refine TC_seq ?_
    refine TC_reg ?_
    refine TL_ev env 2 rfl ⟨tv, ⟨⟨tv, ⟨tv, tv⟩⟩, tv⟩⟩ ?_
    refine TL_end ?_
    refine TE_go ?_
    refine TC_cond rfl (fun hb => ?_) (fun hb => ?_)
    · replace h0 := bif_t h0 hb
      refine TC_seq ?_
      refine TC_reg ?_
      refine TL_ev env 1 rfl ⟨tv, tv⟩ ?_
      refine TL_end ?_
      refine TE_go ?_
      refine TC_ret ?_
      refine tsr ?_
      obtain rfl := sinj h0
      exact TE_ret env rfl tv tv
    · replace h0 := bif_f h0 hb
      refine TC_skip ?_
      refine TE_go ?_
      refine TC_seq ?_
      refine TC_reg ?_
      refine TL_ev env 3 rfl ⟨tv, ⟨⟨tv, tv⟩, ⟨tv, tv⟩⟩⟩ ?_
      obtain ⟨r3, hr, h0⟩ := bnd h0
      refine TL_callB [] (alloc_offset.ok0 hr) alloc_offset.fnb rfl ⟨tv, ⟨tv, ⟨tv, tv⟩⟩⟩ rfl tv rfl ?_
      refine TL_ev env 2 rfl ⟨⟨tv, ⟨tv, tv⟩⟩, ⟨tv, tv⟩⟩ ?_
      refine TL_end ?_
      refine TE_go ?_
      refine TC_seq ?_
      refine TC_seq ?_
      refine TC_reg ?_
      refine TL_ev env 2 rfl ⟨tv, ⟨⟨tv, ⟨tv, tv⟩⟩, tv⟩⟩ ?_
      refine TL_end ?_
      refine TE_go ?_
      obtain ⟨z1, h1, h0⟩ := bnd h0
      refine TC_cut (α := Int) (fun s => z1 = s) (fun s => [(7, .int .i64 s)]) (fun s => []) ?_ ?_
      · refine TC_cond rfl (fun hb => ?_) (fun hb => ?_)
        · replace h1 := bif_t h1 hb
          refine TC_reg ?_
          refine TL_ev env 3 rfl ⟨tv, ⟨⟨tv, ⟨tv, (by decide)⟩⟩, ⟨tv, tv⟩⟩⟩ ?_
          refine TL_end ?_
          obtain rfl := sinj h1
          refine tsn ?_
          exact SP_ren [] _ rfl ⟨rfl, tv⟩ tv rfl
        · replace h1 := bif_f h1 hb
          refine TC_skip ?_
          obtain rfl := sinj h1
          refine tsn ?_
          exact SP_ren [] _ rfl ⟨rfl, tv⟩ tv rfl
      · rintro x6 hz
        obtain rfl := hz.symm
        refine TE_go ?_
        refine TC_seq ?_
        refine TC_reg ?_
        refine TL_ev env 2 rfl ⟨tv, ⟨tv, tv⟩⟩ ?_
        refine TL_end ?_
        refine TE_go ?_
        refine TC_ret ?_
        obtain rfl := sinj h0
        exact TE_ret env rfl tv tv
theorem alloc_need.ok0 {K : Nat} {p0 : Int} {p1 : Int} {p2 : Int} {p3 : Int} {p4 : Int} {p5 : Int} {p6 : Int} {p7 : Int} {p8 : Int} {p9 : Int} {p10 : Int} {p11 : Int} {q0 : Int} (h0 : alloc_need K p0 p1 p2 p3 p4 p5 p6 p7 p8 p9 p10 p11 = some q0) : Fn Try.prog 102 [.agg [.int .i64 p0, .int .i64 p1, .int .i64 p2, .int .i64 p3, .int .i64 p4, .int .i64 p5, .int .i64 p6, .int .i64 p7, .int .i64 p8, .int .i64 p9], .int .i64 p10, .int .i64 p11] [] (.int .i64 q0) [] := alloc_need.ok h0
theorem alloc_need.fnb : fnb Try.prog 102 = true := fnb_of Try.func102 rfl
def alloc_Needs.res (_p0 : Int) (_p1 : Int) (_p2 : Int) (_p3 : Int) (_p4 : Int) (_p5 : Int) (_p6 : Int) (_p7 : Int) (_p8 : Int) (_p9 : Int) (_p10 : List (List (Int))) : (Int) ⊕ ((List (List (Int)))) → MV
  | .inl q0 => .tup [.nils, .int .i64 q0]
  | .inr q0 => .tup [.im (.slice (.slice (.int .i64))) q0, .int .i64 0]
def alloc_Needs.out (_p0 : Int) (_p1 : Int) (_p2 : Int) (_p3 : Int) (_p4 : Int) (_p5 : Int) (_p6 : Int) (_p7 : Int) (_p8 : Int) (_p9 : Int) (_p10 : List (List (Int))) : (Int) ⊕ ((List (List (Int)))) → List (Nat × Option MObj)
  | .inl _ => []
  | .inr _ => []
theorem alloc_Needs.ok {K : Nat} {p0 : Int} {p1 : Int} {p2 : Int} {p3 : Int} {p4 : Int} {p5 : Int} {p6 : Int} {p7 : Int} {p8 : Int} {p9 : Int} {p10 : List (List (Int))} {r : (Int) ⊕ ((List (List (Int))))} (h0 : alloc_Needs K p0 p1 p2 p3 p4 p5 p6 p7 p8 p9 p10 = some r) : Fn Try.prog 52 [.agg [.int .i64 p0, .int .i64 p1, .int .i64 p2, .int .i64 p3, .int .i64 p4, .int .i64 p5, .int .i64 p6, .int .i64 p7, .int .i64 p8, .int .i64 p9], .im (.slice (.slice (.int .i64))) p10] [] (alloc_Needs.res p0 p1 p2 p3 p4 p5 p6 p7 p8 p9 p10 r) (alloc_Needs.out p0 p1 p2 p3 p4 p5 p6 p7 p8 p9 p10 r) := by
  refine Fn_of Try.func52 rfl (Nat.le_of_ble_eq_true rfl) fun Γ => ?_
  refine TC_seq ?_
  refine TC_reg ?_
  refine TL_ev env 3 rfl ⟨tv, ⟨tv, ⟨tv, tv⟩⟩⟩ ?_
  refine TL_end ?_
  refine TE_go ?_
  refine TC_seq ?_
  refine TC_seq ?_
  refine TC_reg ?_
  refine TL_ev env 2 rfl ⟨⟨tv, tv⟩, ⟨tv, tv⟩⟩ ?_
  obtain ⟨r161, hr, h0⟩ := bnd h0
  refine TL_callB [] (alloc_may.ok0 hr) alloc_may.fnb rfl ⟨tv, ⟨tv, ⟨tv, tv⟩⟩⟩ rfl tv rfl ?_
  refine TL_ev env 1 rfl ⟨tv, tv⟩ ?_
  refine TL_end ?_
  refine TE_go ?_
  refine TC_seq ?_
  refine TC_reg ?_
  refine TL_ev env 2 rfl ⟨tv, ⟨⟨tv, ⟨tv, tv⟩⟩, tv⟩⟩ ?_
  refine TL_end ?_
  refine TE_go ?_
  refine TC_cond rfl (fun hb => ?_) (fun hb => ?_)
  · replace h0 := bif_t h0 hb
    refine TC_seq ?_
    refine TC_reg ?_
    refine TL_ev env 3 rfl ⟨tv, ⟨tv, ⟨tv, tv⟩⟩⟩ ?_
    refine TL_end ?_
    refine TE_go ?_
    refine TC_ret ?_
    refine tsr ?_
    obtain rfl := sinj h0
    exact TE_ret env rfl tv tv
  · replace h0 := bif_f h0 hb
    refine TC_skip ?_
    refine TE_go ?_
    refine TC_seq ?_
    refine TC_reg ?_
    refine TL_ev env 2 rfl ⟨tv, ⟨⟨tv, tv⟩, tv⟩⟩ ?_
    refine nums h0 (fun hx h0 => TL_num 18 1 hx rfl ?_) (fun h0 => ?_)
    · refine TL_ev env 1 rfl ⟨⟨tv, tv⟩, tv⟩ ?_
      refine TL_ownC 1019 0 600190 (.int .i64) rfl rfl (by decide) rfl rfl ?_
      refine TL_ev env 1 rfl ⟨tv, tv⟩ ?_
      refine TL_end ?_
      refine TE_go ?_
      refine TC_seq ?_
      refine TC_seq ?_
      refine TC_reg ?_
      refine TL_ev env 3 rfl ⟨tv, ⟨⟨tv, tv⟩, ⟨tv, tv⟩⟩⟩ ?_
      refine TL_end ?_
      refine TE_go ?_
      obtain ⟨z1, h1, h0⟩ := bnd h0
      refine TC_cut (α := (List (Int))) (fun s => z1 = s) (fun s => [(7, .hd 17700 1)]) (fun s => [(17700, some (.cells [.sl 17701])), (17701, some (.rows (.int .i64) s))]) ?_ ?_
      · refine TC_blk ?_
        refine TC_loop (α := Int × (List (Int))) (fun n s => alloc_Needs.l0 K p10 p0 p1 p2 p3 p4 p5 p6 p7 p8 p9 n s.1 s.2 = some z1) (fun s => [(1, .im (.slice (.slice (.int .i64))) p10), (2, .p 18700 0), (7, .hd 18701 1), (21, .int .i64 1), (22, .int .i64 s.1)]) (fun s => [(18700, some (.cells [.int .i64 p0, .int .i64 p1, .int .i64 p2, .int .i64 p3, .int .i64 p4, .int .i64 p5, .int .i64 p6, .int .i64 p7, .int .i64 p8, .int .i64 p9])), (18701, some (.cells [.sl 18702])), (18702, some (.rows (.int .i64) s.2))]) K ?_ ?_
        · exact SP_ren [(18700, 1002), (18701, 1019), (18702, 600190)] (_, _) h1 ⟨rfl, rfl, rfl, rfl, rfl, tv⟩ ⟨rfl, rfl, rfl, tv⟩ rfl
        rintro n ⟨x227, x228⟩ h1
        rcases n with _ | n
        · exact (nsome h1).elim
        replace h1 : alloc_Needs.r0 K p10 p0 p1 p2 p3 p4 p5 p6 p7 p8 p9 (alloc_Needs.l0 K p10 p0 p1 p2 p3 p4 p5 p6 p7 p8 p9 n) x227 x228 = some z1 := h1
        refine TC_seq ?_
        refine TC_reg ?_
        refine TL_ev env 1 rfl ⟨⟨tv, ⟨tv, tv⟩⟩, tv⟩ ?_
        refine TL_end ?_
        refine TE_go ?_
        refine TC_seq ?_
        refine TC_cond rfl (fun hb => ?_) (fun hb => ?_)
        · replace h1 := bif_t h1 hb
          refine TC_skip ?_
          refine TE_go ?_
          refine TC_seq ?_
          refine TC_blk ?_
          refine TC_seq ?_
          refine TC_reg ?_
          refine TL_ev env 2 rfl ⟨tv, ⟨tv, tv⟩⟩ ?_
          refine TL_end ?_
          refine TE_go ?_
          refine TC_seq ?_
          refine TC_reg ?_
          obtain ⟨g, h1⟩ := gd_t h1
          refine TL_ev env 6 rfl ⟨tv, ⟨tv, ⟨⟨tv, ⟨tv, ⟨g.1, g.2⟩⟩⟩, ⟨⟨tv, tv⟩, ⟨⟨tv, tv⟩, ⟨tv, tv⟩⟩⟩⟩⟩⟩ ?_
          refine TL_end ?_
          refine TE_go ?_
          obtain ⟨z2, h2, h1⟩ := bnd h1
          refine TC_cut (α := Int × (List (Int))) (fun s => z2 = s) (fun s => [(1, .im (.slice (.slice (.int .i64))) p10), (2, .p 20400 0), (7, .hd 20401 1), (21, .int .i64 1), (22, .int .i64 s.1)]) (fun s => [(20400, some (.cells [.int .i64 p0, .int .i64 p1, .int .i64 p2, .int .i64 p3, .int .i64 p4, .int .i64 p5, .int .i64 p6, .int .i64 p7, .int .i64 p8, .int .i64 p9])), (20401, some (.cells [.sl 20402])), (20402, some (.rows (.int .i64) s.2))]) ?_ ?_
          · refine TC_blk ?_
            refine TC_loop (α := Int × Int × (List (Int))) (fun n s => alloc_Needs.l1 K p10 (Kd.nth (.slice (.int .i64)) p10 (Int.toNat x227)) ((Kd.nth (.slice (.int .i64)) p10 (Int.toNat x227)).length : Int) p0 p1 p2 p3 p4 p5 p6 p7 p8 p9 n s.1 s.2.1 s.2.2 = some z2) (fun s => [(1, .im (.slice (.slice (.int .i64))) p10), (2, .p 20600 0), (7, .hd 20601 1), (8, .int .i64 s.1), (21, .int .i64 1), (22, .int .i64 s.1), (28, .im (.slice (.int .i64)) (Kd.nth (.slice (.int .i64)) p10 (Int.toNat x227))), (29, .int .i64 ((Kd.nth (.slice (.int .i64)) p10 (Int.toNat x227)).length : Int)), (30, .int .i64 s.2.1)]) (fun s => [(20600, some (.cells [.int .i64 p0, .int .i64 p1, .int .i64 p2, .int .i64 p3, .int .i64 p4, .int .i64 p5, .int .i64 p6, .int .i64 p7, .int .i64 p8, .int .i64 p9])), (20601, some (.cells [.sl 20602])), (20602, some (.rows (.int .i64) s.2.2))]) K ?_ ?_
            · exact SP_ren [(20600, 18700), (20601, 18701), (20602, 18702)] (_, _, _) h2 ⟨rfl, rfl, rfl, rfl, rfl, rfl, rfl, rfl, rfl, tv⟩ ⟨rfl, rfl, rfl, tv⟩ rfl
            rintro n ⟨x285, x286, x287⟩ h2
            rcases n with _ | n
            · exact (nsome h2).elim
            replace h2 : alloc_Needs.r1 K p10 (Kd.nth (.slice (.int .i64)) p10 (Int.toNat x227)) ((Kd.nth (.slice (.int .i64)) p10 (Int.toNat x227)).length : Int) p0 p1 p2 p3 p4 p5 p6 p7 p8 p9 (alloc_Needs.l1 K p10 (Kd.nth (.slice (.int .i64)) p10 (Int.toNat x227)) ((Kd.nth (.slice (.int .i64)) p10 (Int.toNat x227)).length : Int) p0 p1 p2 p3 p4 p5 p6 p7 p8 p9 n) x285 x286 x287 = some z2 := h2
            refine TC_seq ?_
            refine TC_reg ?_
            refine TL_ev env 1 rfl ⟨⟨tv, ⟨tv, tv⟩⟩, tv⟩ ?_
            refine TL_end ?_
            refine TE_go ?_
            refine TC_seq ?_
            refine TC_cond rfl (fun hb => ?_) (fun hb => ?_)
            · replace h2 := bif_t h2 hb
              refine TC_skip ?_
              refine TE_go ?_
              refine TC_seq ?_
              refine TC_blk ?_
              refine TC_seq ?_
              refine TC_reg ?_
              obtain ⟨g, h2⟩ := gd_t h2
              refine TL_ev env 5 rfl ⟨tv, ⟨⟨tv, ⟨tv, ⟨g.1, g.2⟩⟩⟩, ⟨⟨tv, tv⟩, ⟨tv, ⟨tv, tv⟩⟩⟩⟩⟩ ?_
              refine TL_end ?_
              refine TE_go ?_
              refine nums h2 (fun hx h2 => ?_) (fun h2 => ?_)
              · refine TC_num 8 0 hx rfl ?_
                refine TC_num 22 0 hx rfl ?_
                refine TC_renw (A' := [(1, .im (.slice (.slice (.int .i64))) _), (2, .p 20600 0), (7, .hd 20601 1), (8, .int .i64 0), (9, .int .i64 _), (10, .int .i64 _), (21, .int .i64 1), (22, .int .i64 0), (28, .im (.slice (.int .i64)) _), (29, .int .i64 _), (30, .int .i64 _)]) (L' := [(20600, some (.cells [.int .i64 _, .int .i64 _, .int .i64 _, .int .i64 _, .int .i64 _, .int .i64 _, .int .i64 _, .int .i64 _, .int .i64 _, .int .i64 _])), (20601, some (.cells [.sl 20602])), (20602, some (.rows (.int .i64) _))]) [] ⟨rfl, rfl, rfl, rfl, rfl, rfl, rfl, rfl, rfl, rfl, rfl, tv⟩ ⟨rfl, rfl, rfl, tv⟩ rfl ?_
                refine TC_drawR ⟨_, fun i => ([[], [], [], [], [3, 2], [4, 3, 2], [], [], [], [8, 7, 6], [9, 8, 7, 6], [10, 9, 8, 7, 6, 5, 4, 3, 2], [11, 10, 9, 8, 7, 6, 5, 4, 3, 2, 1, 0], [12, 11, 10, 9, 8, 7, 6, 5, 4, 3, 2, 1, 0]] : List (List Nat)).getD i [], fun i => ([[], [], [], [], [], [], [], [], [], [], [1045], [1046, 20602], [], [20601]] : List (List Nat)).getD i [], fun i => ([[], [], [], [], [], [], [], [], [], [], [1045], [1046], [], []] : List (List Nat)).getD i []⟩ (fun i => ([[1045, 1046, 20602], [1045, 1046, 20602], [1045], [1045], [1045], [1045], [], [], [], [], [], [], [], []] : List (List Nat)).getD i []) (by kernel_rfl) (by kernel_rfl) ?_
                refine AJR_ev env 1 rfl (Nat.le_of_ble_eq_true rfl) rfl tv ?_
                refine AJR_ev env 2 rfl (Nat.le_of_ble_eq_true rfl) rfl tv ?_
                refine AJR_ev env 3 rfl (Nat.le_of_ble_eq_true rfl) rfl tv ?_
                refine AJR_ev env 4 rfl (Nat.le_of_ble_eq_true rfl) rfl tv ?_
                refine AJR_ev env 5 rfl (Nat.le_of_ble_eq_true rfl) rfl ⟨tv, ⟨tv, ⟨(by decide), (by decide)⟩⟩⟩ ?_
                refine AJR_ev env 6 rfl (Nat.le_of_ble_eq_true rfl) rfl ⟨tv, tv⟩ ?_
                refine AJR_ev env 7 rfl (Nat.le_of_ble_eq_true rfl) rfl ⟨tv, tv⟩ ?_
                refine AJR_ev env 8 rfl (Nat.le_of_ble_eq_true rfl) rfl tv ?_
                refine AJR_ev env 9 rfl (Nat.le_of_ble_eq_true rfl) rfl tv ?_
                obtain ⟨r296, hr, h2⟩ := bnd h2
                refine AJR_call 10 rfl (Nat.le_of_ble_eq_true rfl) [] rfl (alloc_need.ok0 hr) alloc_need.fnb rfl ⟨tv, ⟨tv, ⟨tv, ⟨tv, tv⟩⟩⟩⟩ rfl tv rfl ?_
                refine AJR_ev env 11 rfl (Nat.le_of_ble_eq_true rfl) rfl ⟨tv, tv⟩ ?_
                obtain ⟨g, h2⟩ := gd_t h2
                refine AJR_ev env 12 rfl (Nat.le_of_ble_eq_true rfl) rfl ⟨⟨tv, ⟨tv, tv⟩⟩, g⟩ ?_
                refine AJR_ev env 13 rfl (Nat.le_of_ble_eq_true rfl) rfl ⟨tv, ⟨tv, ⟨(by decide), (by decide)⟩⟩⟩ ?_
                refine AJR_ev env 14 rfl (Nat.le_of_ble_eq_true rfl) rfl ⟨tv, tv⟩ ?_
                refine AJR_end rfl rfl rfl ?_
                refine tbn ?_
                refine TE_go ?_
                refine TC_reg ?_
                refine TL_ev env 2 rfl ⟨⟨tv, ⟨tv, tv⟩⟩, ⟨tv, tv⟩⟩ ?_
                refine TL_end ?_
                refine tsn ?_
                exact TE_nextr [(20600, 20600), (20601, 20601), (20602, 1046)] n (Nat.lt_succ_self n) (_, _, _) h2 ⟨rfl, rfl, rfl, rfl, rfl, rfl, rfl, rfl, rfl, tv⟩ ⟨rfl, rfl, rfl, tv⟩ rfl
              · exact (nsome h2).elim
            · replace h2 := bif_f h2 hb
              refine TC_exit ?_
              refine tsx ?_
              refine tsx ?_
              refine tbe ?_
              obtain rfl := sinj h2
              refine tsn ?_
              exact SP_ren [(20400, 20600), (20401, 20601), (20402, 20602)] (_, _) rfl ⟨rfl, rfl, rfl, rfl, rfl, tv⟩ ⟨rfl, rfl, rfl, tv⟩ rfl
          · rintro ⟨x280, x281⟩ rfl
            refine tbn ?_
            refine TE_go ?_
            refine TC_reg ?_
            refine TL_ev env 2 rfl ⟨⟨tv, ⟨tv, tv⟩⟩, ⟨tv, tv⟩⟩ ?_
            refine TL_end ?_
            refine tsn ?_
            exact TE_nextr [(18700, 20400), (18701, 20401), (18702, 20402)] n (Nat.lt_succ_self n) (_, _) h1 ⟨rfl, rfl, rfl, rfl, rfl, tv⟩ ⟨rfl, rfl, rfl, tv⟩ rfl
        · replace h1 := bif_f h1 hb
          refine TC_exit ?_
          refine tsx ?_
          refine tsx ?_
          refine tbe ?_
          obtain rfl := sinj h1
          refine tsn ?_
          exact SP_ren [(17700, 18701), (17701, 18702)] _ rfl ⟨rfl, tv⟩ ⟨rfl, rfl, tv⟩ rfl
      · rintro x208 hz
        obtain rfl := hz.symm
        refine TE_go ?_
        refine TC_seq ?_
        refine TC_reg ?_
        refine TL_ev env 3 rfl ⟨tv, ⟨tv, ⟨tv, tv⟩⟩⟩ ?_
        refine TL_end ?_
        refine TE_go ?_
        refine TC_ret ?_
        refine TE_frz 17701 rfl ?_
        refine TE_frh 17700 (.slice (.int .i64)) rfl rfl rfl ?_
        obtain rfl := sinj h0
        exact TE_ret env rfl tv tv
    · refine nums h0 (fun hx h0 => TL_num 18 2 hx rfl ?_) (fun h0 => ?_)
      · refine TL_ev env 1 rfl ⟨⟨tv, tv⟩, tv⟩ ?_
        refine TL_ownC 1019 0 600190 (.int .i64) rfl rfl (by decide) rfl rfl ?_
        refine TL_ownC 1019 1 600191 (.int .i64) rfl rfl (by decide) rfl rfl ?_
        refine TL_ev env 1 rfl ⟨tv, tv⟩ ?_
        refine TL_end ?_
        refine TE_go ?_
        refine TC_seq ?_
        refine TC_seq ?_
        refine TC_reg ?_
        refine TL_ev env 3 rfl ⟨tv, ⟨⟨tv, tv⟩, ⟨tv, tv⟩⟩⟩ ?_
        refine TL_end ?_
        refine TE_go ?_
        obtain ⟨z1, h1, h0⟩ := bnd h0
        refine TC_cut (α := (List (Int)) × (List (Int))) (fun s => z1 = s) (fun s => [(7, .hd 24400 2)]) (fun s => [(24400, some (.cells [.sl 24401, .sl 24402])), (24401, some (.rows (.int .i64) s.1)), (24402, some (.rows (.int .i64) s.2))]) ?_ ?_
        · refine TC_blk ?_
          refine TC_loop (α := Int × (List (Int)) × (List (Int))) (fun n s => alloc_Needs.l2 K p10 p0 p1 p2 p3 p4 p5 p6 p7 p8 p9 n s.1 s.2.1 s.2.2 = some z1) (fun s => [(1, .im (.slice (.slice (.int .i64))) p10), (2, .p 26700 0), (7, .hd 26701 2), (21, .int .i64 2), (22, .int .i64 s.1)]) (fun s => [(26700, some (.cells [.int .i64 p0, .int .i64 p1, .int .i64 p2, .int .i64 p3, .int .i64 p4, .int .i64 p5, .int .i64 p6, .int .i64 p7, .int .i64 p8, .int .i64 p9])), (26701, some (.cells [.sl 26702, .sl 26703])), (26702, some (.rows (.int .i64) s.2.1)), (26703, some (.rows (.int .i64) s.2.2))]) K ?_ ?_
          · exact SP_ren [(26700, 1002), (26701, 1019), (26702, 600190), (26703, 600191)] (_, _, _) h1 ⟨rfl, rfl, rfl, rfl, rfl, tv⟩ ⟨rfl, rfl, rfl, rfl, tv⟩ rfl
          rintro n ⟨x473, x474, x475⟩ h1
          rcases n with _ | n
          · exact (nsome h1).elim
          replace h1 : alloc_Needs.r2 K p10 p0 p1 p2 p3 p4 p5 p6 p7 p8 p9 (alloc_Needs.l2 K p10 p0 p1 p2 p3 p4 p5 p6 p7 p8 p9 n) x473 x474 x475 = some z1 := h1
          refine TC_seq ?_
          refine TC_reg ?_
          refine TL_ev env 1 rfl ⟨⟨tv, ⟨tv, tv⟩⟩, tv⟩ ?_
          refine TL_end ?_
          refine TE_go ?_
          refine TC_seq ?_
          refine TC_cond rfl (fun hb => ?_) (fun hb => ?_)
          · replace h1 := bif_t h1 hb
            refine TC_skip ?_
            refine TE_go ?_
            refine TC_seq ?_
            refine TC_blk ?_
            refine TC_seq ?_
            refine TC_reg ?_
            refine TL_ev env 2 rfl ⟨tv, ⟨tv, tv⟩⟩ ?_
            refine TL_end ?_
            refine TE_go ?_
            refine TC_seq ?_
            refine TC_reg ?_
            obtain ⟨g, h1⟩ := gd_t h1
            refine TL_ev env 6 rfl ⟨tv, ⟨tv, ⟨⟨tv, ⟨tv, ⟨g.1, g.2⟩⟩⟩, ⟨⟨tv, tv⟩, ⟨⟨tv, tv⟩, ⟨tv, tv⟩⟩⟩⟩⟩⟩ ?_
            refine TL_end ?_
            refine TE_go ?_
            obtain ⟨z2, h2, h1⟩ := bnd h1
            refine TC_cut (α := Int × (List (Int)) × (List (Int))) (fun s => z2 = s) (fun s => [(1, .im (.slice (.slice (.int .i64))) p10), (2, .p 29200 0), (7, .hd 29201 2), (21, .int .i64 2), (22, .int .i64 s.1)]) (fun s => [(29200, some (.cells [.int .i64 p0, .int .i64 p1, .int .i64 p2, .int .i64 p3, .int .i64 p4, .int .i64 p5, .int .i64 p6, .int .i64 p7, .int .i64 p8, .int .i64 p9])), (29201, some (.cells [.sl 29202, .sl 29203])), (29202, some (.rows (.int .i64) s.2.1)), (29203, some (.rows (.int .i64) s.2.2))]) ?_ ?_
            · refine TC_blk ?_
              refine TC_loop (α := Int × Int × (List (Int)) × (List (Int))) (fun n s => alloc_Needs.l3 K p10 (Kd.nth (.slice (.int .i64)) p10 (Int.toNat x473)) ((Kd.nth (.slice (.int .i64)) p10 (Int.toNat x473)).length : Int) p0 p1 p2 p3 p4 p5 p6 p7 p8 p9 n s.1 s.2.1 s.2.2.1 s.2.2.2 = some z2) (fun s => [(1, .im (.slice (.slice (.int .i64))) p10), (2, .p 29500 0), (7, .hd 29501 2), (8, .int .i64 s.1), (21, .int .i64 2), (22, .int .i64 s.1), (28, .im (.slice (.int .i64)) (Kd.nth (.slice (.int .i64)) p10 (Int.toNat x473))), (29, .int .i64 ((Kd.nth (.slice (.int .i64)) p10 (Int.toNat x473)).length : Int)), (30, .int .i64 s.2.1)]) (fun s => [(29500, some (.cells [.int .i64 p0, .int .i64 p1, .int .i64 p2, .int .i64 p3, .int .i64 p4, .int .i64 p5, .int .i64 p6, .int .i64 p7, .int .i64 p8, .int .i64 p9])), (29501, some (.cells [.sl 29502, .sl 29503])), (29502, some (.rows (.int .i64) s.2.2.1)), (29503, some (.rows (.int .i64) s.2.2.2))]) K ?_ ?_
              · exact SP_ren [(29500, 26700), (29501, 26701), (29502, 26702), (29503, 26703)] (_, _, _, _) h2 ⟨rfl, rfl, rfl, rfl, rfl, rfl, rfl, rfl, rfl, tv⟩ ⟨rfl, rfl, rfl, rfl, tv⟩ rfl
              rintro n ⟨x572, x573, x574, x575⟩ h2
              rcases n with _ | n
              · exact (nsome h2).elim
              replace h2 : alloc_Needs.r3 K p10 (Kd.nth (.slice (.int .i64)) p10 (Int.toNat x473)) ((Kd.nth (.slice (.int .i64)) p10 (Int.toNat x473)).length : Int) p0 p1 p2 p3 p4 p5 p6 p7 p8 p9 (alloc_Needs.l3 K p10 (Kd.nth (.slice (.int .i64)) p10 (Int.toNat x473)) ((Kd.nth (.slice (.int .i64)) p10 (Int.toNat x473)).length : Int) p0 p1 p2 p3 p4 p5 p6 p7 p8 p9 n) x572 x573 x574 x575 = some z2 := h2
              refine TC_seq ?_
              refine TC_reg ?_
              refine TL_ev env 1 rfl ⟨⟨tv, ⟨tv, tv⟩⟩, tv⟩ ?_
              refine TL_end ?_
              refine TE_go ?_
              refine TC_seq ?_
              refine TC_cond rfl (fun hb => ?_) (fun hb => ?_)
              · replace h2 := bif_t h2 hb
                refine TC_skip ?_
                refine TE_go ?_
                refine TC_seq ?_
                obtain ⟨z3, h3, h2⟩ := bnd h2
                refine TC_cut (α := Int × (List (Int)) × (List (Int))) (fun s => z3 = s) (fun s => [(1, .im (.slice (.slice (.int .i64))) p10), (2, .p 29800 0), (7, .hd 29801 2), (8, .int .i64 s.1), (21, .int .i64 2), (22, .int .i64 s.1), (28, .im (.slice (.int .i64)) (Kd.nth (.slice (.int .i64)) p10 (Int.toNat x473))), (29, .int .i64 ((Kd.nth (.slice (.int .i64)) p10 (Int.toNat x473)).length : Int)), (30, .int .i64 x573)]) (fun s => [(29800, some (.cells [.int .i64 p0, .int .i64 p1, .int .i64 p2, .int .i64 p3, .int .i64 p4, .int .i64 p5, .int .i64 p6, .int .i64 p7, .int .i64 p8, .int .i64 p9])), (29801, some (.cells [.sl 29802, .sl 29803])), (29802, some (.rows (.int .i64) s.2.1)), (29803, some (.rows (.int .i64) s.2.2))]) ?_ ?_
                · refine TC_blk ?_
                  refine TC_seq ?_
                  refine TC_reg ?_
                  obtain ⟨g, h3⟩ := gd_t h3
                  refine TL_ev env 5 rfl ⟨tv, ⟨⟨tv, ⟨tv, ⟨g.1, g.2⟩⟩⟩, ⟨⟨tv, tv⟩, ⟨tv, ⟨tv, tv⟩⟩⟩⟩⟩ ?_
                  refine TL_end ?_
                  refine TE_go ?_
                  refine nums h3 (fun hx h3 => ?_) (fun h3 => ?_)
                  · refine TC_num 8 0 hx rfl ?_
                    refine TC_num 22 0 hx rfl ?_
                    refine TC_renw (A' := [(1, .im (.slice (.slice (.int .i64))) _), (2, .p 29500 0), (7, .hd 29501 2), (8, .int .i64 0), (9, .int .i64 _), (10, .int .i64 _), (21, .int .i64 2), (22, .int .i64 0), (28, .im (.slice (.int .i64)) _), (29, .int .i64 _), (30, .int .i64 _)]) (L' := [(29500, some (.cells [.int .i64 _, .int .i64 _, .int .i64 _, .int .i64 _, .int .i64 _, .int .i64 _, .int .i64 _, .int .i64 _, .int .i64 _, .int .i64 _])), (29501, some (.cells [.sl 29502, .sl 29503])), (29502, some (.rows (.int .i64) _)), (29503, some (.rows (.int .i64) _))]) [] ⟨rfl, rfl, rfl, rfl, rfl, rfl, rfl, rfl, rfl, rfl, rfl, tv⟩ ⟨rfl, rfl, rfl, rfl, tv⟩ rfl ?_
                    refine TC_drawR ⟨_, fun i => ([[], [], [], [], [3, 2], [4, 3, 2], [], [], [], [8, 7, 6], [9, 8, 7, 6], [10, 9, 8, 7, 6, 5, 4, 3, 2], [11, 10, 9, 8, 7, 6, 5, 4, 3, 2, 1, 0], [12, 11, 10, 9, 8, 7, 6, 5, 4, 3, 2, 1, 0]] : List (List Nat)).getD i [], fun i => ([[], [], [], [], [], [], [], [], [], [], [1045], [1046, 29502], [], [29501]] : List (List Nat)).getD i [], fun i => ([[], [], [], [], [], [], [], [], [], [], [1045], [1046], [], []] : List (List Nat)).getD i []⟩ (fun i => ([[1045, 1046, 29502], [1045, 1046, 29502], [1045], [1045], [1045], [1045], [], [], [], [], [], [], [], []] : List (List Nat)).getD i []) (by kernel_rfl) (by kernel_rfl) ?_
                    refine AJR_ev env 1 rfl (Nat.le_of_ble_eq_true rfl) rfl tv ?_
                    refine AJR_ev env 2 rfl (Nat.le_of_ble_eq_true rfl) rfl tv ?_
                    refine AJR_ev env 3 rfl (Nat.le_of_ble_eq_true rfl) rfl tv ?_
                    refine AJR_ev env 4 rfl (Nat.le_of_ble_eq_true rfl) rfl tv ?_
                    refine AJR_ev env 5 rfl (Nat.le_of_ble_eq_true rfl) rfl ⟨tv, ⟨tv, ⟨(by decide), (by decide)⟩⟩⟩ ?_
                    refine AJR_ev env 6 rfl (Nat.le_of_ble_eq_true rfl) rfl ⟨tv, tv⟩ ?_
                    refine AJR_ev env 7 rfl (Nat.le_of_ble_eq_true rfl) rfl ⟨tv, tv⟩ ?_
                    refine AJR_ev env 8 rfl (Nat.le_of_ble_eq_true rfl) rfl tv ?_
                    refine AJR_ev env 9 rfl (Nat.le_of_ble_eq_true rfl) rfl tv ?_
                    obtain ⟨r593, hr, h3⟩ := bnd h3
                    refine AJR_call 10 rfl (Nat.le_of_ble_eq_true rfl) [] rfl (alloc_need.ok0 hr) alloc_need.fnb rfl ⟨tv, ⟨tv, ⟨tv, ⟨tv, tv⟩⟩⟩⟩ rfl tv rfl ?_
                    refine AJR_ev env 11 rfl (Nat.le_of_ble_eq_true rfl) rfl ⟨tv, tv⟩ ?_
                    obtain ⟨g, h3⟩ := gd_t h3
                    refine AJR_ev env 12 rfl (Nat.le_of_ble_eq_true rfl) rfl ⟨⟨tv, ⟨tv, tv⟩⟩, g⟩ ?_
                    refine AJR_ev env 13 rfl (Nat.le_of_ble_eq_true rfl) rfl ⟨tv, ⟨tv, ⟨(by decide), (by decide)⟩⟩⟩ ?_
                    refine AJR_ev env 14 rfl (Nat.le_of_ble_eq_true rfl) rfl ⟨tv, tv⟩ ?_
                    refine AJR_end rfl rfl rfl ?_
                    refine tbn ?_
                    obtain rfl := sinj h3
                    refine tsn ?_
                    exact SP_ren [(29800, 29500), (29801, 29501), (29802, 1046), (29803, 29503)] (_, _, _) rfl ⟨rfl, rfl, rfl, rfl, rfl, rfl, rfl, rfl, rfl, tv⟩ ⟨rfl, rfl, rfl, rfl, tv⟩ rfl
                  · refine nums h3 (fun hx h3 => ?_) (fun h3 => ?_)
                    · refine TC_num 8 1 hx rfl ?_
                      refine TC_num 22 1 hx rfl ?_
                      refine TC_renw (A' := [(1, .im (.slice (.slice (.int .i64))) _), (2, .p 29500 0), (7, .hd 29501 2), (8, .int .i64 1), (9, .int .i64 _), (10, .int .i64 _), (21, .int .i64 2), (22, .int .i64 1), (28, .im (.slice (.int .i64)) _), (29, .int .i64 _), (30, .int .i64 _)]) (L' := [(29500, some (.cells [.int .i64 _, .int .i64 _, .int .i64 _, .int .i64 _, .int .i64 _, .int .i64 _, .int .i64 _, .int .i64 _, .int .i64 _, .int .i64 _])), (29501, some (.cells [.sl 29502, .sl 29503])), (29502, some (.rows (.int .i64) _)), (29503, some (.rows (.int .i64) _))]) [] ⟨rfl, rfl, rfl, rfl, rfl, rfl, rfl, rfl, rfl, rfl, rfl, tv⟩ ⟨rfl, rfl, rfl, rfl, tv⟩ rfl ?_
                      refine TC_drawR ⟨_, fun i => ([[], [], [], [], [3, 2], [4, 3, 2], [], [], [], [8, 7, 6], [9, 8, 7, 6], [10, 9, 8, 7, 6, 5, 4, 3, 2], [11, 10, 9, 8, 7, 6, 5, 4, 3, 2, 1, 0], [12, 11, 10, 9, 8, 7, 6, 5, 4, 3, 2, 1, 0]] : List (List Nat)).getD i [], fun i => ([[], [], [], [], [], [], [], [], [], [], [1045], [1046, 29503], [], [29501]] : List (List Nat)).getD i [], fun i => ([[], [], [], [], [], [], [], [], [], [], [1045], [1046], [], []] : List (List Nat)).getD i []⟩ (fun i => ([[1045, 1046, 29503], [1045, 1046, 29503], [1045], [1045], [1045], [1045], [], [], [], [], [], [], [], []] : List (List Nat)).getD i []) (by kernel_rfl) (by kernel_rfl) ?_
                      refine AJR_ev env 1 rfl (Nat.le_of_ble_eq_true rfl) rfl tv ?_
                      refine AJR_ev env 2 rfl (Nat.le_of_ble_eq_true rfl) rfl tv ?_
                      refine AJR_ev env 3 rfl (Nat.le_of_ble_eq_true rfl) rfl tv ?_
                      refine AJR_ev env 4 rfl (Nat.le_of_ble_eq_true rfl) rfl tv ?_
                      refine AJR_ev env 5 rfl (Nat.le_of_ble_eq_true rfl) rfl ⟨tv, ⟨tv, ⟨(by decide), (by decide)⟩⟩⟩ ?_
                      refine AJR_ev env 6 rfl (Nat.le_of_ble_eq_true rfl) rfl ⟨tv, tv⟩ ?_
                      refine AJR_ev env 7 rfl (Nat.le_of_ble_eq_true rfl) rfl ⟨tv, tv⟩ ?_
                      refine AJR_ev env 8 rfl (Nat.le_of_ble_eq_true rfl) rfl tv ?_
                      refine AJR_ev env 9 rfl (Nat.le_of_ble_eq_true rfl) rfl tv ?_
                      obtain ⟨r595, hr, h3⟩ := bnd h3
                      refine AJR_call 10 rfl (Nat.le_of_ble_eq_true rfl) [] rfl (alloc_need.ok0 hr) alloc_need.fnb rfl ⟨tv, ⟨tv, ⟨tv, ⟨tv, tv⟩⟩⟩⟩ rfl tv rfl ?_
                      refine AJR_ev env 11 rfl (Nat.le_of_ble_eq_true rfl) rfl ⟨tv, tv⟩ ?_
                      obtain ⟨g, h3⟩ := gd_t h3
                      refine AJR_ev env 12 rfl (Nat.le_of_ble_eq_true rfl) rfl ⟨⟨tv, ⟨tv, tv⟩⟩, g⟩ ?_
                      refine AJR_ev env 13 rfl (Nat.le_of_ble_eq_true rfl) rfl ⟨tv, ⟨tv, ⟨(by decide), (by decide)⟩⟩⟩ ?_
                      refine AJR_ev env 14 rfl (Nat.le_of_ble_eq_true rfl) rfl ⟨tv, tv⟩ ?_
                      refine AJR_end rfl rfl rfl ?_
                      refine tbn ?_
                      obtain rfl := sinj h3
                      refine tsn ?_
                      exact SP_ren [(29800, 29500), (29801, 29501), (29802, 29502), (29803, 1046)] (_, _, _) rfl ⟨rfl, rfl, rfl, rfl, rfl, rfl, rfl, rfl, rfl, tv⟩ ⟨rfl, rfl, rfl, rfl, tv⟩ rfl
                    · exact (nsome h3).elim
                · rintro ⟨x588, x589, x590⟩ rfl
                  refine TE_go ?_
                  refine TC_reg ?_
                  refine TL_ev env 2 rfl ⟨⟨tv, ⟨tv, tv⟩⟩, ⟨tv, tv⟩⟩ ?_
                  refine TL_end ?_
                  refine tsn ?_
                  exact TE_nextr [(29500, 29800), (29501, 29801), (29502, 29802), (29503, 29803)] n (Nat.lt_succ_self n) (_, _, _, _) h2 ⟨rfl, rfl, rfl, rfl, rfl, rfl, rfl, rfl, rfl, tv⟩ ⟨rfl, rfl, rfl, rfl, tv⟩ rfl
              · replace h2 := bif_f h2 hb
                refine TC_exit ?_
                refine tsx ?_
                refine tsx ?_
                refine tbe ?_
                obtain rfl := sinj h2
                refine tsn ?_
                exact SP_ren [(29200, 29500), (29201, 29501), (29202, 29502), (29203, 29503)] (_, _, _) rfl ⟨rfl, rfl, rfl, rfl, rfl, tv⟩ ⟨rfl, rfl, rfl, rfl, tv⟩ rfl
            · rintro ⟨x563, x564, x565⟩ rfl
              refine tbn ?_
              refine TE_go ?_
              refine TC_reg ?_
              refine TL_ev env 2 rfl ⟨⟨tv, ⟨tv, tv⟩⟩, ⟨tv, tv⟩⟩ ?_
              refine TL_end ?_
              refine tsn ?_
              exact TE_nextr [(26700, 29200), (26701, 29201), (26702, 29202), (26703, 29203)] n (Nat.lt_succ_self n) (_, _, _) h1 ⟨rfl, rfl, rfl, rfl, rfl, tv⟩ ⟨rfl, rfl, rfl, rfl, tv⟩ rfl
          · replace h1 := bif_f h1 hb
            refine TC_exit ?_
            refine tsx ?_
            refine tsx ?_
            refine tbe ?_
            obtain rfl := sinj h1
            refine tsn ?_
            exact SP_ren [(24400, 26701), (24401, 26702), (24402, 26703)] (_, _) rfl ⟨rfl, tv⟩ ⟨rfl, rfl, rfl, tv⟩ rfl
        · rintro ⟨x409, x410⟩ rfl
          refine TE_go ?_
          refine TC_seq ?_
          refine TC_reg ?_
          refine TL_ev env 3 rfl ⟨tv, ⟨tv, ⟨tv, tv⟩⟩⟩ ?_
          refine TL_end ?_
          refine TE_go ?_
          refine TC_ret ?_
          refine TE_frz 24401 rfl ?_
          refine TE_frz 24402 rfl ?_
          refine TE_frh 24400 (.slice (.int .i64)) rfl rfl rfl ?_
          obtain rfl := sinj h0
          exact TE_ret env rfl tv tv
      · exact (nsome h0).elim
theorem alloc_Needs.ok0 {K : Nat} {p0 : Int} {p1 : Int} {p2 : Int} {p3 : Int} {p4 : Int} {p5 : Int} {p6 : Int} {p7 : Int} {p8 : Int} {p9 : Int} {p10 : List (List (Int))} {q0 : Int} (h0 : alloc_Needs K p0 p1 p2 p3 p4 p5 p6 p7 p8 p9 p10 = some (.inl q0)) : Fn Try.prog 52 [.agg [.int .i64 p0, .int .i64 p1, .int .i64 p2, .int .i64 p3, .int .i64 p4, .int .i64 p5, .int .i64 p6, .int .i64 p7, .int .i64 p8, .int .i64 p9], .im (.slice (.slice (.int .i64))) p10] [] (.tup [.nils, .int .i64 q0]) [] := alloc_Needs.ok h0
theorem alloc_Needs.ok1 {K : Nat} {p0 : Int} {p1 : Int} {p2 : Int} {p3 : Int} {p4 : Int} {p5 : Int} {p6 : Int} {p7 : Int} {p8 : Int} {p9 : Int} {p10 : List (List (Int))} {q0 : List (List (Int))} (h0 : alloc_Needs K p0 p1 p2 p3 p4 p5 p6 p7 p8 p9 p10 = some (.inr q0)) : Fn Try.prog 52 [.agg [.int .i64 p0, .int .i64 p1, .int .i64 p2, .int .i64 p3, .int .i64 p4, .int .i64 p5, .int .i64 p6, .int .i64 p7, .int .i64 p8, .int .i64 p9], .im (.slice (.slice (.int .i64))) p10] [] (.tup [.im (.slice (.slice (.int .i64))) q0, .int .i64 0]) [] := alloc_Needs.ok h0
theorem alloc_Needs.fnb : fnb Try.prog 52 = true := fnb_of Try.func52 rfl
def alloc_sharing_cut_1.res (_p0 : Int) (_p1 : Nat) (_p2 : List (Int)) (_p3 : Int) (_p4 : Int) (_p5 : Int) (_p6 : List (List (Int))) : Int → MV
  | _ => .bool true
def alloc_sharing_cut_1.out (_p0 : Int) (_p1 : Nat) (p2 : List (Int)) (p3 : Int) (_p4 : Int) (p5 : Int) (p6 : List (List (Int))) : Int → List (Nat × Option MObj)
  | q0 => [(0, some (.rows (.int .i64) p2)), (1, some (.cells [.p 2 0])), (2, some (.cells [.int .i64 p3, .int .i64 q0, .int .i64 p5, .im (.slice (.slice (.int .i64))) p6, .hd 3 1])), (3, some (.cells [.sl 0]))]
theorem alloc_sharing_cut_1.ok {K : Nat} {p0 : Int} {p1 : Nat} {p2 : List (Int)} {p3 : Int} {p4 : Int} {p5 : Int} {p6 : List (List (Int))} {r : Int} (h0 : alloc_sharing_cut_1 K p0 p1 p2 p3 p4 p5 p6 = some r) : Fn Try.prog 134 [.int .i64 p0, .pe 0 p1 0, .p 1 0] [(0, some (.rows (.int .i64) p2)), (1, some (.cells [.p 2 0])), (2, some (.cells [.int .i64 p3, .int .i64 p4, .int .i64 p5, .im (.slice (.slice (.int .i64))) p6, .hd 3 1])), (3, some (.cells [.sl 0]))] (alloc_sharing_cut_1.res p0 p1 p2 p3 p4 p5 p6 r) (alloc_sharing_cut_1.out p0 p1 p2 p3 p4 p5 p6 r) := by
  refine Fn_of Try.func134 rfl (Nat.le_of_ble_eq_true rfl) fun Γ => ?_
  refine TC_seq ?_
  refine TC_reg ?_
  refine TL_ev env 1 rfl ⟨tv, tv⟩ ?_
  refine TL_end ?_
  refine TE_go ?_
  refine TC_seq ?_
  refine TC_renw (A' := [(0, .int .i64 _), (2, .p 1 0)]) (L' := [(0, some (.rows (.int .i64) _)), (1, some (.cells [.p 2 0])), (2, some (.cells [.int .i64 _, .int .i64 _, .int .i64 _, .im (.slice (.slice (.int .i64))) _, .hd 3 1])), (3, some (.cells [.sl 0]))]) [] ⟨rfl, rfl, tv⟩ ⟨rfl, rfl, rfl, rfl, tv⟩ rfl ?_
  refine TC_drawR ⟨_, fun i => ([[], [], [1], [2, 1], [3, 2, 1], [], [5, 4, 3, 2, 1], [6, 5, 4, 3, 2, 1, 0], [7, 6, 5, 4, 3, 2, 1, 0], [8, 7, 6, 5, 4, 3, 2, 1, 0]] : List (List Nat)).getD i [], fun i => ([[], [], [], [], [], [], [], [], [], [2]] : List (List Nat)).getD i [], fun i => ([[], [], [], [], [], [], [], [], [], []] : List (List Nat)).getD i []⟩ (fun i => ([[], [], [], [], [], [], [], [], [], []] : List (List Nat)).getD i []) (by kernel_rfl) (by kernel_rfl) ?_
  refine AJR_ev env 1 rfl (Nat.le_of_ble_eq_true rfl) rfl ⟨tv, tv⟩ ?_
  refine AJR_ev env 2 rfl (Nat.le_of_ble_eq_true rfl) rfl ⟨tv, tv⟩ ?_
  refine AJR_ev env 3 rfl (Nat.le_of_ble_eq_true rfl) rfl tv ?_
  refine AJR_ev env 4 rfl (Nat.le_of_ble_eq_true rfl) rfl tv ?_
  refine AJR_ev env 5 rfl (Nat.le_of_ble_eq_true rfl) rfl ⟨tv, tv⟩ ?_
  refine AJR_ev env 6 rfl (Nat.le_of_ble_eq_true rfl) rfl tv ?_
  refine AJR_ev env 7 rfl (Nat.le_of_ble_eq_true rfl) rfl ⟨tv, ⟨tv, tv⟩⟩ ?_
  refine AJR_ev env 8 rfl (Nat.le_of_ble_eq_true rfl) rfl tv ?_
  refine AJR_ev env 9 rfl (Nat.le_of_ble_eq_true rfl) rfl tv ?_
  refine AJR_ev env 10 rfl (Nat.le_of_ble_eq_true rfl) rfl ⟨tv, tv⟩ ?_
  refine AJR_end rfl rfl rfl ?_
  refine TE_go ?_
  refine TC_seq ?_
  refine TC_reg ?_
  refine TL_ev env 1 rfl ⟨tv, tv⟩ ?_
  refine TL_end ?_
  refine TE_go ?_
  refine TC_ret ?_
  obtain rfl := sinj h0
  exact TE_ret env rfl tv ⟨.inr rfl, .inr rfl, .inr rfl, .inr rfl, tv⟩
theorem alloc_sharing_cut_1.ok0 {K : Nat} {p0 : Int} {p1 : Nat} {p2 : List (Int)} {p3 : Int} {p4 : Int} {p5 : Int} {p6 : List (List (Int))} {q0 : Int} (h0 : alloc_sharing_cut_1 K p0 p1 p2 p3 p4 p5 p6 = some q0) : Fn Try.prog 134 [.int .i64 p0, .pe 0 p1 0, .p 1 0] [(0, some (.rows (.int .i64) p2)), (1, some (.cells [.p 2 0])), (2, some (.cells [.int .i64 p3, .int .i64 p4, .int .i64 p5, .im (.slice (.slice (.int .i64))) p6, .hd 3 1])), (3, some (.cells [.sl 0]))] (.bool true) [(0, some (.rows (.int .i64) p2)), (1, some (.cells [.p 2 0])), (2, some (.cells [.int .i64 p3, .int .i64 q0, .int .i64 p5, .im (.slice (.slice (.int .i64))) p6, .hd 3 1])), (3, some (.cells [.sl 0]))] := alloc_sharing_cut_1.ok h0
theorem alloc_sharing_cut_1.fnb : fnb Try.prog 134 = true := fnb_of Try.func134 rfl
def alloc_sharing_each.res (_p0 : Int) (_p1 : Int) (_p2 : Int) (_p3 : List (List (Int))) (_p4 : List (Int)) : Int → MV
  | _ => .tup []
def alloc_sharing_each.out (p0 : Int) (_p1 : Int) (p2 : Int) (p3 : List (List (Int))) (p4 : List (Int)) : Int → List (Nat × Option MObj)
  | q0 => [(0, some (.cells [.int .i64 p0, .int .i64 q0, .int .i64 p2, .im (.slice (.slice (.int .i64))) p3, .hd 2 1])), (1, some (.cells [.p 0 0])), (2, some (.cells [.sl 3])), (3, some (.rows (.int .i64) p4))]
theorem alloc_sharing_each.ok {K : Nat} {p0 : Int} {p1 : Int} {p2 : Int} {p3 : List (List (Int))} {p4 : List (Int)} {r : Int} (h0 : alloc_sharing_each K p0 p1 p2 p3 p4 = some r) : Fn Try.prog 104 [.p 0 0, .fn 134 [.p 1 0]] [(0, some (.cells [.int .i64 p0, .int .i64 p1, .int .i64 p2, .im (.slice (.slice (.int .i64))) p3, .hd 2 1])), (1, some (.cells [.p 0 0])), (2, some (.cells [.sl 3])), (3, some (.rows (.int .i64) p4))] (alloc_sharing_each.res p0 p1 p2 p3 p4 r) (alloc_sharing_each.out p0 p1 p2 p3 p4 r) := by
  refine Fn_of Try.func104 rfl (Nat.le_of_ble_eq_true rfl) fun Γ => ?_
  refine TC_seq ?_
  refine TC_reg ?_
  obtain ⟨g, h0⟩ := gd_t h0
  refine TL_ev env 8 rfl ⟨tv, ⟨tv, ⟨tv, ⟨⟨tv, tv⟩, ⟨⟨tv, ⟨tv, ⟨(by decide), g⟩⟩⟩, ⟨⟨tv, tv⟩, ⟨⟨tv, tv⟩, ⟨tv, tv⟩⟩⟩⟩⟩⟩⟩⟩ ?_
  refine TL_end ?_
  refine TE_go ?_
  obtain ⟨z1, h1, h0⟩ := bnd h0
  refine TC_cut (α := Int) (fun s => z1 = s) (fun s => []) (fun s => [(0, some (.cells [.int .i64 p0, .int .i64 s, .int .i64 p2, .im (.slice (.slice (.int .i64))) p3, .hd 2 1])), (1, some (.cells [.p 0 0])), (2, some (.cells [.sl 3])), (3, some (.rows (.int .i64) p4))]) ?_ ?_
  · refine TC_blk ?_
    refine TC_loop (α := Int × Int) (fun n s => alloc_sharing_each.l0 K ((Kd.nth (.slice (.int .i64)) p3 0).length : Int) p0 p2 p3 p4 n s.1 s.2 = some z1) (fun s => [(0, .p 0 0), (1, .fn 134 [.p 1 0]), (12, .int .i64 ((Kd.nth (.slice (.int .i64)) p3 0).length : Int)), (13, .int .i64 s.1)]) (fun s => [(0, some (.cells [.int .i64 p0, .int .i64 s.2, .int .i64 p2, .im (.slice (.slice (.int .i64))) p3, .hd 2 1])), (1, some (.cells [.p 0 0])), (2, some (.cells [.sl 3])), (3, some (.rows (.int .i64) p4))]) K ?_ ?_
    · exact SP_ren [] (_, _) h1 ⟨rfl, rfl, rfl, rfl, tv⟩ ⟨rfl, rfl, rfl, rfl, tv⟩ rfl
    rintro n ⟨x103, x104⟩ h1
    rcases n with _ | n
    · exact (nsome h1).elim
    replace h1 : alloc_sharing_each.r0 K ((Kd.nth (.slice (.int .i64)) p3 0).length : Int) p0 p2 p3 p4 (alloc_sharing_each.l0 K ((Kd.nth (.slice (.int .i64)) p3 0).length : Int) p0 p2 p3 p4 n) x103 x104 = some z1 := h1
    refine TC_seq ?_
    refine TC_reg ?_
    refine TL_ev env 1 rfl ⟨⟨tv, ⟨tv, tv⟩⟩, tv⟩ ?_
    refine TL_end ?_
    refine TE_go ?_
    refine TC_seq ?_
    refine TC_cond rfl (fun hb => ?_) (fun hb => ?_)
    · replace h1 := bif_t h1 hb
      refine TC_skip ?_
      refine TE_go ?_
      refine TC_seq ?_
      refine TC_blk ?_
      refine TC_seq ?_
      refine TC_reg ?_
      refine TL_ev env 2 rfl ⟨tv, ⟨tv, tv⟩⟩ ?_
      refine TL_end ?_
      refine TE_go ?_
      refine TC_seq ?_
      refine TC_reg ?_
      refine TL_ev env 6 rfl ⟨tv, ⟨tv, ⟨tv, ⟨⟨tv, tv⟩, ⟨⟨tv, tv⟩, ⟨tv, tv⟩⟩⟩⟩⟩⟩ ?_
      refine TL_end ?_
      refine TE_go ?_
      obtain ⟨z2, h2, h1⟩ := bnd h1
      refine TC_cut (α := Int) (fun s => z2 = s) (fun s => [(0, .p 0 0), (1, .fn 134 [.p 1 0]), (12, .int .i64 ((Kd.nth (.slice (.int .i64)) p3 0).length : Int)), (13, .int .i64 x103)]) (fun s => [(0, some (.cells [.int .i64 p0, .int .i64 s, .int .i64 p2, .im (.slice (.slice (.int .i64))) p3, .hd 2 1])), (1, some (.cells [.p 0 0])), (2, some (.cells [.sl 3])), (3, some (.rows (.int .i64) p4))]) ?_ ?_
      · refine TC_blk ?_
        refine TC_loop (α := Int × Int) (fun n s => alloc_sharing_each.l1 K x103 ((Kd.nth (.slice (.int .i64)) p3 0).length : Int) (p3.length : Int) p0 p2 p3 p4 n s.1 s.2 = some z2) (fun s => [(0, .p 0 0), (1, .fn 134 [.p 1 0]), (4, .int .i64 x103), (12, .int .i64 ((Kd.nth (.slice (.int .i64)) p3 0).length : Int)), (13, .int .i64 x103), (20, .int .i64 (p3.length : Int)), (21, .int .i64 s.1)]) (fun s => [(0, some (.cells [.int .i64 p0, .int .i64 s.2, .int .i64 p2, .im (.slice (.slice (.int .i64))) p3, .hd 2 1])), (1, some (.cells [.p 0 0])), (2, some (.cells [.sl 3])), (3, some (.rows (.int .i64) p4))]) K ?_ ?_
        · exact SP_ren [] (_, _) h2 ⟨rfl, rfl, rfl, rfl, rfl, rfl, rfl, tv⟩ ⟨rfl, rfl, rfl, rfl, tv⟩ rfl
        rintro n ⟨x147, x148⟩ h2
        rcases n with _ | n
        · exact (nsome h2).elim
        replace h2 : alloc_sharing_each.r1 K x103 ((Kd.nth (.slice (.int .i64)) p3 0).length : Int) (p3.length : Int) p0 p2 p3 p4 (alloc_sharing_each.l1 K x103 ((Kd.nth (.slice (.int .i64)) p3 0).length : Int) (p3.length : Int) p0 p2 p3 p4 n) x147 x148 = some z2 := h2
        refine TC_seq ?_
        refine TC_reg ?_
        refine TL_ev env 1 rfl ⟨⟨tv, ⟨tv, tv⟩⟩, tv⟩ ?_
        refine TL_end ?_
        refine TE_go ?_
        refine TC_seq ?_
        refine TC_cond rfl (fun hb => ?_) (fun hb => ?_)
        · replace h2 := bif_t h2 hb
          refine TC_skip ?_
          refine TE_go ?_
          refine TC_seq ?_
          refine TC_blk ?_
          refine TC_seq ?_
          refine TC_reg ?_
          refine TL_ev env 2 rfl ⟨tv, ⟨tv, tv⟩⟩ ?_
          refine TL_end ?_
          refine TE_go ?_
          refine TC_seq ?_
          refine nums h2 (fun hx h2 => ?_) (fun h2 => ?_)
          · refine TC_num 21 0 hx rfl ?_
            refine TC_num 23 0 hx rfl ?_
            refine TC_num 5 0 hx rfl ?_
            refine TC_renw (A' := [(0, .p 0 0), (1, .fn 134 [.p 1 0]), (4, .int .i64 _), (5, .int .i64 0), (12, .int .i64 _), (13, .int .i64 _), (20, .int .i64 _), (21, .int .i64 0)]) (L' := [(0, some (.cells [.int .i64 _, .int .i64 _, .int .i64 _, .im (.slice (.slice (.int .i64))) _, .hd 2 1])), (1, some (.cells [.p 0 0])), (2, some (.cells [.sl 3])), (3, some (.rows (.int .i64) _))]) [] ⟨rfl, rfl, rfl, rfl, rfl, rfl, rfl, rfl, tv⟩ ⟨rfl, rfl, rfl, rfl, tv⟩ rfl ?_
            refine TC_drawR ⟨_, fun i => ([[], [], [1], [2, 1], [3, 2, 1], [], [5, 4, 3, 2, 1], [6, 5, 4, 3, 2, 1], [], [8, 7, 6, 5, 4, 3, 2, 1], [9, 8, 7, 6, 5, 4, 3, 2, 1], [], [11], [12, 11], [13, 12, 11], [], [15, 14, 13, 12, 11], [16, 15, 14, 13, 12, 11], [], [18, 17, 16, 15, 14, 13, 12, 11], [19, 18, 17, 16, 15, 14, 13, 12, 11, 10, 9, 8, 7, 6, 5, 4, 3, 2, 1, 0], [20, 19, 18, 17, 16, 15, 14, 13, 12, 11, 10, 9, 8, 7, 6, 5, 4, 3, 2, 1, 0]] : List (List Nat)).getD i [], fun i => ([[], [], [], [], [], [], [], [], [], [], [], [], [], [], [], [], [], [], [], [], [0, 1, 2, 3], []] : List (List Nat)).getD i [], fun i => ([[], [], [], [], [], [], [], [], [], [], [], [], [], [], [], [], [], [], [], [], [], []] : List (List Nat)).getD i []⟩ (fun i => ([[], [], [], [], [], [], [], [], [], [], [], [], [], [], [], [], [], [], [], [], [], []] : List (List Nat)).getD i []) (by kernel_rfl) (by kernel_rfl) ?_
            refine AJR_ev env 1 rfl (Nat.le_of_ble_eq_true rfl) rfl tv ?_
            refine AJR_ev env 2 rfl (Nat.le_of_ble_eq_true rfl) rfl tv ?_
            refine AJR_ev env 3 rfl (Nat.le_of_ble_eq_true rfl) rfl tv ?_
            refine AJR_ev env 4 rfl (Nat.le_of_ble_eq_true rfl) rfl tv ?_
            refine AJR_ev env 5 rfl (Nat.le_of_ble_eq_true rfl) rfl ⟨tv, tv⟩ ?_
            refine AJR_ev env 6 rfl (Nat.le_of_ble_eq_true rfl) rfl tv ?_
            obtain ⟨g, h2⟩ := gd_t h2
            refine AJR_ev env 7 rfl (Nat.le_of_ble_eq_true rfl) rfl ⟨tv, ⟨tv, ⟨(by decide), g⟩⟩⟩ ?_
            refine AJR_ev env 8 rfl (Nat.le_of_ble_eq_true rfl) rfl ⟨tv, tv⟩ ?_
            refine AJR_ev env 9 rfl (Nat.le_of_ble_eq_true rfl) rfl tv ?_
            obtain ⟨g, h2⟩ := gd_t h2
            refine AJR_ev env 10 rfl (Nat.le_of_ble_eq_true rfl) rfl ⟨tv, ⟨tv, ⟨g.1, g.2⟩⟩⟩ ?_
            refine AJR_ev env 11 rfl (Nat.le_of_ble_eq_true rfl) rfl ⟨tv, tv⟩ ?_
            refine AJR_ev env 12 rfl (Nat.le_of_ble_eq_true rfl) rfl tv ?_
            refine AJR_ev env 13 rfl (Nat.le_of_ble_eq_true rfl) rfl tv ?_
            refine AJR_ev env 14 rfl (Nat.le_of_ble_eq_true rfl) rfl tv ?_
            refine AJR_ev env 15 rfl (Nat.le_of_ble_eq_true rfl) rfl ⟨tv, tv⟩ ?_
            refine AJR_ev env 16 rfl (Nat.le_of_ble_eq_true rfl) rfl tv ?_
            refine AJR_ev env 17 rfl (Nat.le_of_ble_eq_true rfl) rfl ⟨tv, ⟨tv, ⟨(by decide), (by decide)⟩⟩⟩ ?_
            refine AJR_ev env 18 rfl (Nat.le_of_ble_eq_true rfl) rfl ⟨tv, tv⟩ ?_
            refine AJR_ev env 19 rfl (Nat.le_of_ble_eq_true rfl) rfl tv ?_
            obtain ⟨g, h2⟩ := gd_t h2
            refine AJR_ev env 20 rfl (Nat.le_of_ble_eq_true rfl) rfl ⟨tv, ⟨tv, ⟨g.1, g.2⟩⟩⟩ ?_
            obtain ⟨r157, hr, h2⟩ := bnd h2
            refine AJR_call 21 rfl (Nat.le_of_ble_eq_true rfl) [(0, 3), (1, 1), (2, 0), (3, 2)] rfl (alloc_sharing_cut_1.ok0 hr) alloc_sharing_cut_1.fnb rfl ⟨tv, ⟨tv, ⟨tv, tv⟩⟩⟩ rfl ⟨.inr rfl, .inr rfl, .inr rfl, .inr rfl, tv⟩ rfl ?_
            refine AJR_ev env 22 rfl (Nat.le_of_ble_eq_true rfl) rfl tv ?_
            refine AJR_end rfl rfl rfl ?_
            refine TE_go ?_
            refine TC_cond rfl (fun hb => ?_) (fun hb => ?_)
            · first | exact (ftf hb).elim | exact (tff hb).elim | exact absurd hb (by decide)
            · refine TC_skip ?_
              refine tbn ?_
              refine TE_go ?_
              refine TC_reg ?_
              refine TL_ev env 2 rfl ⟨⟨tv, ⟨tv, tv⟩⟩, ⟨tv, tv⟩⟩ ?_
              refine TL_end ?_
              refine tsn ?_
              exact TE_nextr [] n (Nat.lt_succ_self n) (_, _) h2 ⟨rfl, rfl, rfl, rfl, rfl, rfl, rfl, tv⟩ ⟨rfl, rfl, rfl, rfl, tv⟩ rfl
          · exact (nsome h2).elim
        · replace h2 := bif_f h2 hb
          refine TC_exit ?_
          refine tsx ?_
          refine tsx ?_
          refine tbe ?_
          obtain rfl := sinj h2
          refine tsn ?_
          exact SP_ren [] _ rfl ⟨rfl, rfl, rfl, rfl, tv⟩ ⟨rfl, rfl, rfl, rfl, tv⟩ rfl
      · rintro x143 hz
        obtain rfl := hz.symm
        refine tbn ?_
        refine TE_go ?_
        refine TC_reg ?_
        refine TL_ev env 2 rfl ⟨⟨tv, ⟨tv, tv⟩⟩, ⟨tv, tv⟩⟩ ?_
        refine TL_end ?_
        refine tsn ?_
        exact TE_nextr [] n (Nat.lt_succ_self n) (_, _) h1 ⟨rfl, rfl, rfl, rfl, tv⟩ ⟨rfl, rfl, rfl, rfl, tv⟩ rfl
    · replace h1 := bif_f h1 hb
      refine TC_exit ?_
      refine tsx ?_
      refine tsx ?_
      refine tbe ?_
      obtain rfl := sinj h1
      refine tsn ?_
      exact SP_ren [] _ rfl tv ⟨rfl, rfl, rfl, rfl, tv⟩ rfl
  · rintro x84 hz
    obtain rfl := hz.symm
    obtain rfl := sinj h0
    exact TE_end env rfl tv ⟨.inr rfl, .inr rfl, .inr rfl, .inr rfl, tv⟩
theorem alloc_sharing_each.ok0 {K : Nat} {p0 : Int} {p1 : Int} {p2 : Int} {p3 : List (List (Int))} {p4 : List (Int)} {q0 : Int} (h0 : alloc_sharing_each K p0 p1 p2 p3 p4 = some q0) : Fn Try.prog 104 [.p 0 0, .fn 134 [.p 1 0]] [(0, some (.cells [.int .i64 p0, .int .i64 p1, .int .i64 p2, .im (.slice (.slice (.int .i64))) p3, .hd 2 1])), (1, some (.cells [.p 0 0])), (2, some (.cells [.sl 3])), (3, some (.rows (.int .i64) p4))] (.tup []) [(0, some (.cells [.int .i64 p0, .int .i64 q0, .int .i64 p2, .im (.slice (.slice (.int .i64))) p3, .hd 2 1])), (1, some (.cells [.p 0 0])), (2, some (.cells [.sl 3])), (3, some (.rows (.int .i64) p4))] := alloc_sharing_each.ok h0
theorem alloc_sharing_each.fnb : fnb Try.prog 104 = true := fnb_of Try.func104 rfl
def alloc_sharing_costs_1.res (_p0 : Int) (_p1 : Nat) (_p2 : List (Int)) (_p3 : Int) (_p4 : Int) (_p5 : Int) (_p6 : Int) (_p7 : List (List (Int))) : Int → MV
  | _ => .bool true
def alloc_sharing_costs_1.out (_p0 : Int) (_p1 : Nat) (p2 : List (Int)) (_p3 : Int) (p4 : Int) (p5 : Int) (p6 : Int) (p7 : List (List (Int))) : Int → List (Nat × Option MObj)
  | q0 => [(0, some (.rows (.int .i64) p2)), (1, some (.cells [.p 3 0])), (2, some (.cells [.int .i64 q0])), (3, some (.cells [.int .i64 p4, .int .i64 p5, .int .i64 p6, .im (.slice (.slice (.int .i64))) p7, .hd 4 1])), (4, some (.cells [.sl 0]))]
theorem alloc_sharing_costs_1.ok {K : Nat} {p0 : Int} {p1 : Nat} {p2 : List (Int)} {p3 : Int} {p4 : Int} {p5 : Int} {p6 : Int} {p7 : List (List (Int))} {r : Int} (h0 : alloc_sharing_costs_1 K p0 p1 p2 p3 p4 p5 p6 p7 = some r) : Fn Try.prog 160 [.int .i64 p0, .pe 0 p1 0, .p 1 0, .p 2 0] [(0, some (.rows (.int .i64) p2)), (1, some (.cells [.p 3 0])), (2, some (.cells [.int .i64 p3])), (3, some (.cells [.int .i64 p4, .int .i64 p5, .int .i64 p6, .im (.slice (.slice (.int .i64))) p7, .hd 4 1])), (4, some (.cells [.sl 0]))] (alloc_sharing_costs_1.res p0 p1 p2 p3 p4 p5 p6 p7 r) (alloc_sharing_costs_1.out p0 p1 p2 p3 p4 p5 p6 p7 r) := by
  refine Fn_of Try.func160 rfl (Nat.le_of_ble_eq_true rfl) fun Γ => ?_
  refine TC_seq ?_
  refine TC_reg ?_
  refine TL_ev env 1 rfl ⟨tv, tv⟩ ?_
  refine TL_end ?_
  refine TE_go ?_
  refine TC_seq ?_
  refine TC_seq ?_
  refine TC_reg ?_
  refine TL_ev env 7 rfl ⟨tv, ⟨⟨tv, tv⟩, ⟨tv, ⟨tv, ⟨⟨tv, tv⟩, ⟨⟨tv, ⟨tv, tv⟩⟩, ⟨tv, tv⟩⟩⟩⟩⟩⟩⟩ ?_
  refine TL_end ?_
  refine TE_go ?_
  obtain ⟨z1, h1, h0⟩ := bnd h0
  refine TC_cut (α := Int) (fun s => z1 = s) (fun s => []) (fun s => [(0, some (.rows (.int .i64) p2)), (1, some (.cells [.p 3 0])), (2, some (.cells [.int .i64 s])), (3, some (.cells [.int .i64 p4, .int .i64 p5, .int .i64 p6, .im (.slice (.slice (.int .i64))) p7, .hd 4 1])), (4, some (.cells [.sl 0]))]) ?_ ?_
  · refine TC_blk ?_
    refine TC_seq ?_
    refine TC_reg ?_
    refine TL_ev env 3 rfl ⟨tv, ⟨⟨tv, ⟨tv, tv⟩⟩, ⟨tv, tv⟩⟩⟩ ?_
    refine TL_end ?_
    refine TE_go ?_
    refine TC_cond rfl (fun hb => ?_) (fun hb => ?_)
    · replace h1 := bif_t h1 hb
      refine TC_reg ?_
      refine TL_ev env 3 rfl ⟨⟨tv, tv⟩, ⟨⟨tv, ⟨tv, tv⟩⟩, ⟨⟨tv, tv⟩, tv⟩⟩⟩ ?_
      refine TL_end ?_
      refine tbn ?_
      obtain rfl := sinj h1
      refine tsn ?_
      exact SP_ren [] _ rfl tv ⟨rfl, rfl, rfl, rfl, rfl, tv⟩ rfl
    · replace h1 := bif_f h1 hb
      refine TC_seq ?_
      refine TC_reg ?_
      refine TL_ev env 7 rfl ⟨tv, ⟨⟨tv, ⟨tv, tv⟩⟩, ⟨tv, ⟨fun eg => tv, ⟨fun eg => ⟨fun e => e, ⟨tv, tv⟩⟩, ⟨⟨tv, ⟨fun e => e, tv⟩⟩, ⟨tv, tv⟩⟩⟩⟩⟩⟩⟩ ?_
      refine TL_end ?_
      refine TE_go ?_
      refine TC_cond rfl (fun hb => ?_) (fun hb => ?_)
      · replace h1 := bif_t h1 hb
        refine TC_reg ?_
        refine TL_ev env 3 rfl ⟨⟨tv, tv⟩, ⟨⟨tv, ⟨tv, tv⟩⟩, ⟨⟨tv, tv⟩, tv⟩⟩⟩ ?_
        refine TL_end ?_
        refine tbn ?_
        obtain rfl := sinj h1
        refine tsn ?_
        exact SP_ren [] _ rfl tv ⟨rfl, rfl, rfl, rfl, rfl, tv⟩ rfl
      · replace h1 := bif_f h1 hb
        refine TC_skip ?_
        refine tbn ?_
        obtain rfl := sinj h1
        refine tsn ?_
        exact SP_ren [] _ rfl tv ⟨rfl, rfl, rfl, rfl, rfl, tv⟩ rfl
  · rintro x3 hz
    obtain rfl := hz.symm
    refine TE_go ?_
    refine TC_seq ?_
    refine TC_reg ?_
    refine TL_ev env 1 rfl ⟨tv, tv⟩ ?_
    refine TL_end ?_
    refine TE_go ?_
    refine TC_ret ?_
    obtain rfl := sinj h0
    exact TE_ret env rfl tv ⟨.inr rfl, .inr rfl, .inr rfl, .inr rfl, .inr rfl, tv⟩
theorem alloc_sharing_costs_1.ok0 {K : Nat} {p0 : Int} {p1 : Nat} {p2 : List (Int)} {p3 : Int} {p4 : Int} {p5 : Int} {p6 : Int} {p7 : List (List (Int))} {q0 : Int} (h0 : alloc_sharing_costs_1 K p0 p1 p2 p3 p4 p5 p6 p7 = some q0) : Fn Try.prog 160 [.int .i64 p0, .pe 0 p1 0, .p 1 0, .p 2 0] [(0, some (.rows (.int .i64) p2)), (1, some (.cells [.p 3 0])), (2, some (.cells [.int .i64 p3])), (3, some (.cells [.int .i64 p4, .int .i64 p5, .int .i64 p6, .im (.slice (.slice (.int .i64))) p7, .hd 4 1])), (4, some (.cells [.sl 0]))] (.bool true) [(0, some (.rows (.int .i64) p2)), (1, some (.cells [.p 3 0])), (2, some (.cells [.int .i64 q0])), (3, some (.cells [.int .i64 p4, .int .i64 p5, .int .i64 p6, .im (.slice (.slice (.int .i64))) p7, .hd 4 1])), (4, some (.cells [.sl 0]))] := alloc_sharing_costs_1.ok h0
theorem alloc_sharing_costs_1.fnb : fnb Try.prog 160 = true := fnb_of Try.func160 rfl
def alloc_sharing_each_2.res (_p0 : Int) (_p1 : Int) (_p2 : Int) (_p3 : List (List (Int))) (_p4 : Int) (_p5 : List (Int)) : Int → MV
  | _ => .tup []
def alloc_sharing_each_2.out (p0 : Int) (p1 : Int) (p2 : Int) (p3 : List (List (Int))) (_p4 : Int) (p5 : List (Int)) : Int → List (Nat × Option MObj)
  | q0 => [(0, some (.cells [.int .i64 p0, .int .i64 p1, .int .i64 p2, .im (.slice (.slice (.int .i64))) p3, .hd 3 1])), (1, some (.cells [.p 0 0])), (2, some (.cells [.int .i64 q0])), (3, some (.cells [.sl 4])), (4, some (.rows (.int .i64) p5))]
theorem alloc_sharing_each_2.ok {K : Nat} {p0 : Int} {p1 : Int} {p2 : Int} {p3 : List (List (Int))} {p4 : Int} {p5 : List (Int)} {r : Int} (h0 : alloc_sharing_each_2 K p0 p1 p2 p3 p4 p5 = some r) : Fn Try.prog 104 [.p 0 0, .fn 160 [.p 1 0, .p 2 0]] [(0, some (.cells [.int .i64 p0, .int .i64 p1, .int .i64 p2, .im (.slice (.slice (.int .i64))) p3, .hd 3 1])), (1, some (.cells [.p 0 0])), (2, some (.cells [.int .i64 p4])), (3, some (.cells [.sl 4])), (4, some (.rows (.int .i64) p5))] (alloc_sharing_each_2.res p0 p1 p2 p3 p4 p5 r) (alloc_sharing_each_2.out p0 p1 p2 p3 p4 p5 r) := by
  refine Fn_of Try.func104 rfl (Nat.le_of_ble_eq_true rfl) fun Γ => ?_
  refine TC_seq ?_
  refine TC_reg ?_
  obtain ⟨g, h0⟩ := gd_t h0
  refine TL_ev env 8 rfl ⟨tv, ⟨tv, ⟨tv, ⟨⟨tv, tv⟩, ⟨⟨tv, ⟨tv, ⟨(by decide), g⟩⟩⟩, ⟨⟨tv, tv⟩, ⟨⟨tv, tv⟩, ⟨tv, tv⟩⟩⟩⟩⟩⟩⟩⟩ ?_
  refine TL_end ?_
  refine TE_go ?_
  obtain ⟨z1, h1, h0⟩ := bnd h0
  refine TC_cut (α := Int) (fun s => z1 = s) (fun s => []) (fun s => [(0, some (.cells [.int .i64 p0, .int .i64 p1, .int .i64 p2, .im (.slice (.slice (.int .i64))) p3, .hd 3 1])), (1, some (.cells [.p 0 0])), (2, some (.cells [.int .i64 s])), (3, some (.cells [.sl 4])), (4, some (.rows (.int .i64) p5))]) ?_ ?_
  · refine TC_blk ?_
    refine TC_loop (α := Int × Int) (fun n s => alloc_sharing_each_2.l0 K ((Kd.nth (.slice (.int .i64)) p3 0).length : Int) p0 p1 p2 p3 p5 n s.1 s.2 = some z1) (fun s => [(0, .p 0 0), (1, .fn 160 [.p 1 0, .p 2 0]), (12, .int .i64 ((Kd.nth (.slice (.int .i64)) p3 0).length : Int)), (13, .int .i64 s.1)]) (fun s => [(0, some (.cells [.int .i64 p0, .int .i64 p1, .int .i64 p2, .im (.slice (.slice (.int .i64))) p3, .hd 3 1])), (1, some (.cells [.p 0 0])), (2, some (.cells [.int .i64 s.2])), (3, some (.cells [.sl 4])), (4, some (.rows (.int .i64) p5))]) K ?_ ?_
    · exact SP_ren [] (_, _) h1 ⟨rfl, rfl, rfl, rfl, tv⟩ ⟨rfl, rfl, rfl, rfl, rfl, tv⟩ rfl
    rintro n ⟨x103, x104⟩ h1
    rcases n with _ | n
    · exact (nsome h1).elim
    replace h1 : alloc_sharing_each_2.r0 K ((Kd.nth (.slice (.int .i64)) p3 0).length : Int) p0 p1 p2 p3 p5 (alloc_sharing_each_2.l0 K ((Kd.nth (.slice (.int .i64)) p3 0).length : Int) p0 p1 p2 p3 p5 n) x103 x104 = some z1 := h1
    refine TC_seq ?_
    refine TC_reg ?_
    refine TL_ev env 1 rfl ⟨⟨tv, ⟨tv, tv⟩⟩, tv⟩ ?_
    refine TL_end ?_
    refine TE_go ?_
    refine TC_seq ?_
    refine TC_cond rfl (fun hb => ?_) (fun hb => ?_)
    · replace h1 := bif_t h1 hb
      refine TC_skip ?_
      refine TE_go ?_
      refine TC_seq ?_
      refine TC_blk ?_
      refine TC_seq ?_
      refine TC_reg ?_
      refine TL_ev env 2 rfl ⟨tv, ⟨tv, tv⟩⟩ ?_
      refine TL_end ?_
      refine TE_go ?_
      refine TC_seq ?_
      refine TC_reg ?_
      refine TL_ev env 6 rfl ⟨tv, ⟨tv, ⟨tv, ⟨⟨tv, tv⟩, ⟨⟨tv, tv⟩, ⟨tv, tv⟩⟩⟩⟩⟩⟩ ?_
      refine TL_end ?_
      refine TE_go ?_
      obtain ⟨z2, h2, h1⟩ := bnd h1
      refine TC_cut (α := Int) (fun s => z2 = s) (fun s => [(0, .p 0 0), (1, .fn 160 [.p 1 0, .p 2 0]), (12, .int .i64 ((Kd.nth (.slice (.int .i64)) p3 0).length : Int)), (13, .int .i64 x103)]) (fun s => [(0, some (.cells [.int .i64 p0, .int .i64 p1, .int .i64 p2, .im (.slice (.slice (.int .i64))) p3, .hd 3 1])), (1, some (.cells [.p 0 0])), (2, some (.cells [.int .i64 s])), (3, some (.cells [.sl 4])), (4, some (.rows (.int .i64) p5))]) ?_ ?_
      · refine TC_blk ?_
        refine TC_loop (α := Int × Int) (fun n s => alloc_sharing_each_2.l1 K x103 ((Kd.nth (.slice (.int .i64)) p3 0).length : Int) (p3.length : Int) p0 p1 p2 p3 p5 n s.1 s.2 = some z2) (fun s => [(0, .p 0 0), (1, .fn 160 [.p 1 0, .p 2 0]), (4, .int .i64 x103), (12, .int .i64 ((Kd.nth (.slice (.int .i64)) p3 0).length : Int)), (13, .int .i64 x103), (20, .int .i64 (p3.length : Int)), (21, .int .i64 s.1)]) (fun s => [(0, some (.cells [.int .i64 p0, .int .i64 p1, .int .i64 p2, .im (.slice (.slice (.int .i64))) p3, .hd 3 1])), (1, some (.cells [.p 0 0])), (2, some (.cells [.int .i64 s.2])), (3, some (.cells [.sl 4])), (4, some (.rows (.int .i64) p5))]) K ?_ ?_
        · exact SP_ren [] (_, _) h2 ⟨rfl, rfl, rfl, rfl, rfl, rfl, rfl, tv⟩ ⟨rfl, rfl, rfl, rfl, rfl, tv⟩ rfl
        rintro n ⟨x147, x148⟩ h2
        rcases n with _ | n
        · exact (nsome h2).elim
        replace h2 : alloc_sharing_each_2.r1 K x103 ((Kd.nth (.slice (.int .i64)) p3 0).length : Int) (p3.length : Int) p0 p1 p2 p3 p5 (alloc_sharing_each_2.l1 K x103 ((Kd.nth (.slice (.int .i64)) p3 0).length : Int) (p3.length : Int) p0 p1 p2 p3 p5 n) x147 x148 = some z2 := h2
        refine TC_seq ?_
        refine TC_reg ?_
        refine TL_ev env 1 rfl ⟨⟨tv, ⟨tv, tv⟩⟩, tv⟩ ?_
        refine TL_end ?_
        refine TE_go ?_
        refine TC_seq ?_
        refine TC_cond rfl (fun hb => ?_) (fun hb => ?_)
        · replace h2 := bif_t h2 hb
          refine TC_skip ?_
          refine TE_go ?_
          refine TC_seq ?_
          refine TC_blk ?_
          refine TC_seq ?_
          refine TC_reg ?_
          refine TL_ev env 2 rfl ⟨tv, ⟨tv, tv⟩⟩ ?_
          refine TL_end ?_
          refine TE_go ?_
          refine TC_seq ?_
          refine nums h2 (fun hx h2 => ?_) (fun h2 => ?_)
          · refine TC_num 21 0 hx rfl ?_
            refine TC_num 23 0 hx rfl ?_
            refine TC_num 5 0 hx rfl ?_
            refine TC_renw (A' := [(0, .p 0 0), (1, .fn 160 [.p 1 0, .p 2 0]), (4, .int .i64 _), (5, .int .i64 0), (12, .int .i64 _), (13, .int .i64 _), (20, .int .i64 _), (21, .int .i64 0)]) (L' := [(0, some (.cells [.int .i64 _, .int .i64 _, .int .i64 _, .im (.slice (.slice (.int .i64))) _, .hd 3 1])), (1, some (.cells [.p 0 0])), (2, some (.cells [.int .i64 _])), (3, some (.cells [.sl 4])), (4, some (.rows (.int .i64) _))]) [] ⟨rfl, rfl, rfl, rfl, rfl, rfl, rfl, rfl, tv⟩ ⟨rfl, rfl, rfl, rfl, rfl, tv⟩ rfl ?_
            refine TC_drawR ⟨_, fun i => ([[], [], [1], [2, 1], [3, 2, 1], [], [5, 4, 3, 2, 1], [6, 5, 4, 3, 2, 1], [], [8, 7, 6, 5, 4, 3, 2, 1], [9, 8, 7, 6, 5, 4, 3, 2, 1], [], [11], [12, 11], [13, 12, 11], [], [15, 14, 13, 12, 11], [16, 15, 14, 13, 12, 11], [], [18, 17, 16, 15, 14, 13, 12, 11], [19, 18, 17, 16, 15, 14, 13, 12, 11, 10, 9, 8, 7, 6, 5, 4, 3, 2, 1, 0], [20, 19, 18, 17, 16, 15, 14, 13, 12, 11, 10, 9, 8, 7, 6, 5, 4, 3, 2, 1, 0]] : List (List Nat)).getD i [], fun i => ([[], [], [], [], [], [], [], [], [], [], [], [], [], [], [], [], [], [], [], [], [0, 1, 2, 3, 4], []] : List (List Nat)).getD i [], fun i => ([[], [], [], [], [], [], [], [], [], [], [], [], [], [], [], [], [], [], [], [], [], []] : List (List Nat)).getD i []⟩ (fun i => ([[], [], [], [], [], [], [], [], [], [], [], [], [], [], [], [], [], [], [], [], [], []] : List (List Nat)).getD i []) (by kernel_rfl) (by kernel_rfl) ?_
            refine AJR_ev env 1 rfl (Nat.le_of_ble_eq_true rfl) rfl tv ?_
            refine AJR_ev env 2 rfl (Nat.le_of_ble_eq_true rfl) rfl tv ?_
            refine AJR_ev env 3 rfl (Nat.le_of_ble_eq_true rfl) rfl tv ?_
            refine AJR_ev env 4 rfl (Nat.le_of_ble_eq_true rfl) rfl tv ?_
            refine AJR_ev env 5 rfl (Nat.le_of_ble_eq_true rfl) rfl ⟨tv, tv⟩ ?_
            refine AJR_ev env 6 rfl (Nat.le_of_ble_eq_true rfl) rfl tv ?_
            obtain ⟨g, h2⟩ := gd_t h2
            refine AJR_ev env 7 rfl (Nat.le_of_ble_eq_true rfl) rfl ⟨tv, ⟨tv, ⟨(by decide), g⟩⟩⟩ ?_
            refine AJR_ev env 8 rfl (Nat.le_of_ble_eq_true rfl) rfl ⟨tv, tv⟩ ?_
            refine AJR_ev env 9 rfl (Nat.le_of_ble_eq_true rfl) rfl tv ?_
            obtain ⟨g, h2⟩ := gd_t h2
            refine AJR_ev env 10 rfl (Nat.le_of_ble_eq_true rfl) rfl ⟨tv, ⟨tv, ⟨g.1, g.2⟩⟩⟩ ?_
            refine AJR_ev env 11 rfl (Nat.le_of_ble_eq_true rfl) rfl ⟨tv, tv⟩ ?_
            refine AJR_ev env 12 rfl (Nat.le_of_ble_eq_true rfl) rfl tv ?_
            refine AJR_ev env 13 rfl (Nat.le_of_ble_eq_true rfl) rfl tv ?_
            refine AJR_ev env 14 rfl (Nat.le_of_ble_eq_true rfl) rfl tv ?_
            refine AJR_ev env 15 rfl (Nat.le_of_ble_eq_true rfl) rfl ⟨tv, tv⟩ ?_
            refine AJR_ev env 16 rfl (Nat.le_of_ble_eq_true rfl) rfl tv ?_
            refine AJR_ev env 17 rfl (Nat.le_of_ble_eq_true rfl) rfl ⟨tv, ⟨tv, ⟨(by decide), (by decide)⟩⟩⟩ ?_
            refine AJR_ev env 18 rfl (Nat.le_of_ble_eq_true rfl) rfl ⟨tv, tv⟩ ?_
            refine AJR_ev env 19 rfl (Nat.le_of_ble_eq_true rfl) rfl tv ?_
            obtain ⟨g, h2⟩ := gd_t h2
            refine AJR_ev env 20 rfl (Nat.le_of_ble_eq_true rfl) rfl ⟨tv, ⟨tv, ⟨g.1, g.2⟩⟩⟩ ?_
            obtain ⟨r157, hr, h2⟩ := bnd h2
            refine AJR_call 21 rfl (Nat.le_of_ble_eq_true rfl) [(0, 4), (1, 1), (2, 2), (3, 0), (4, 3)] rfl (alloc_sharing_costs_1.ok0 hr) alloc_sharing_costs_1.fnb rfl ⟨tv, ⟨tv, ⟨tv, tv⟩⟩⟩ rfl ⟨.inr rfl, .inr rfl, .inr rfl, .inr rfl, .inr rfl, tv⟩ rfl ?_
            refine AJR_ev env 22 rfl (Nat.le_of_ble_eq_true rfl) rfl tv ?_
            refine AJR_end rfl rfl rfl ?_
            refine TE_go ?_
            refine TC_cond rfl (fun hb => ?_) (fun hb => ?_)
            · first | exact (ftf hb).elim | exact (tff hb).elim | exact absurd hb (by decide)
            · refine TC_skip ?_
              refine tbn ?_
              refine TE_go ?_
              refine TC_reg ?_
              refine TL_ev env 2 rfl ⟨⟨tv, ⟨tv, tv⟩⟩, ⟨tv, tv⟩⟩ ?_
              refine TL_end ?_
              refine tsn ?_
              exact TE_nextr [] n (Nat.lt_succ_self n) (_, _) h2 ⟨rfl, rfl, rfl, rfl, rfl, rfl, rfl, tv⟩ ⟨rfl, rfl, rfl, rfl, rfl, tv⟩ rfl
          · exact (nsome h2).elim
        · replace h2 := bif_f h2 hb
          refine TC_exit ?_
          refine tsx ?_
          refine tsx ?_
          refine tbe ?_
          obtain rfl := sinj h2
          refine tsn ?_
          exact SP_ren [] _ rfl ⟨rfl, rfl, rfl, rfl, tv⟩ ⟨rfl, rfl, rfl, rfl, rfl, tv⟩ rfl
      · rintro x143 hz
        obtain rfl := hz.symm
        refine tbn ?_
        refine TE_go ?_
        refine TC_reg ?_
        refine TL_ev env 2 rfl ⟨⟨tv, ⟨tv, tv⟩⟩, ⟨tv, tv⟩⟩ ?_
        refine TL_end ?_
        refine tsn ?_
        exact TE_nextr [] n (Nat.lt_succ_self n) (_, _) h1 ⟨rfl, rfl, rfl, rfl, tv⟩ ⟨rfl, rfl, rfl, rfl, rfl, tv⟩ rfl
    · replace h1 := bif_f h1 hb
      refine TC_exit ?_
      refine tsx ?_
      refine tsx ?_
      refine tbe ?_
      obtain rfl := sinj h1
      refine tsn ?_
      exact SP_ren [] _ rfl tv ⟨rfl, rfl, rfl, rfl, rfl, tv⟩ rfl
  · rintro x84 hz
    obtain rfl := hz.symm
    obtain rfl := sinj h0
    exact TE_end env rfl tv ⟨.inr rfl, .inr rfl, .inr rfl, .inr rfl, .inr rfl, tv⟩
theorem alloc_sharing_each_2.ok0 {K : Nat} {p0 : Int} {p1 : Int} {p2 : Int} {p3 : List (List (Int))} {p4 : Int} {p5 : List (Int)} {q0 : Int} (h0 : alloc_sharing_each_2 K p0 p1 p2 p3 p4 p5 = some q0) : Fn Try.prog 104 [.p 0 0, .fn 160 [.p 1 0, .p 2 0]] [(0, some (.cells [.int .i64 p0, .int .i64 p1, .int .i64 p2, .im (.slice (.slice (.int .i64))) p3, .hd 3 1])), (1, some (.cells [.p 0 0])), (2, some (.cells [.int .i64 p4])), (3, some (.cells [.sl 4])), (4, some (.rows (.int .i64) p5))] (.tup []) [(0, some (.cells [.int .i64 p0, .int .i64 p1, .int .i64 p2, .im (.slice (.slice (.int .i64))) p3, .hd 3 1])), (1, some (.cells [.p 0 0])), (2, some (.cells [.int .i64 q0])), (3, some (.cells [.sl 4])), (4, some (.rows (.int .i64) p5))] := alloc_sharing_each_2.ok h0
theorem alloc_sharing_each_2.fnb : fnb Try.prog 104 = true := fnb_of Try.func104 rfl
def alloc_sharing_costs.res (_p0 : Int) (_p1 : Int) (_p2 : Int) (_p3 : List (List (Int))) (_p4 : List (Int)) : Int → MV
  | q0 => .int .i64 q0
def alloc_sharing_costs.out (p0 : Int) (p1 : Int) (p2 : Int) (p3 : List (List (Int))) (p4 : List (Int)) : Int → List (Nat × Option MObj)
  | _ => [(0, some (.cells [.int .i64 p0, .int .i64 p1, .int .i64 p2, .im (.slice (.slice (.int .i64))) p3, .hd 1 1])), (1, some (.cells [.sl 2])), (2, some (.rows (.int .i64) p4))]
theorem alloc_sharing_costs.ok {K : Nat} {p0 : Int} {p1 : Int} {p2 : Int} {p3 : List (List (Int))} {p4 : List (Int)} {r : Int} (h0 : alloc_sharing_costs K p0 p1 p2 p3 p4 = some r) : Fn Try.prog 135 [.p 0 0] [(0, some (.cells [.int .i64 p0, .int .i64 p1, .int .i64 p2, .im (.slice (.slice (.int .i64))) p3, .hd 1 1])), (1, some (.cells [.sl 2])), (2, some (.rows (.int .i64) p4))] (alloc_sharing_costs.res p0 p1 p2 p3 p4 r) (alloc_sharing_costs.out p0 p1 p2 p3 p4 r) := by
  refine Fn_of Try.func135 rfl (Nat.le_of_ble_eq_true rfl) fun Γ => ?_
  refine TC_seq ?_
  refine TC_reg ?_
  refine TL_ev env 2 rfl ⟨tv, ⟨tv, tv⟩⟩ ?_
  refine TL_end ?_
  refine TE_go ?_
  refine TC_seq ?_
  refine TC_reg ?_
  refine TL_ev env 2 rfl ⟨tv, ⟨⟨tv, tv⟩, tv⟩⟩ ?_
  refine TL_end ?_
  refine TE_go ?_
  refine TC_seq ?_
  refine TC_reg ?_
  refine TL_ev env 2 rfl ⟨⟨tv, tv⟩, ⟨⟨tv, ⟨tv, tv⟩⟩, tv⟩⟩ ?_
  obtain ⟨r2, hr, h0⟩ := bnd h0
  refine TL_callB [(0, 0), (1, 1001), (2, 1003), (3, 1), (4, 2)] (alloc_sharing_each_2.ok0 hr) alloc_sharing_each_2.fnb rfl ⟨tv, ⟨tv, ⟨tv, tv⟩⟩⟩ rfl ⟨.inr rfl, .inr rfl, .inr rfl, .inr rfl, .inr rfl, tv⟩ rfl ?_
  refine TL_end ?_
  refine TE_go ?_
  refine TC_seq ?_
  refine TC_reg ?_
  refine TL_ev env 2 rfl ⟨⟨tv, tv⟩, ⟨tv, tv⟩⟩ ?_
  refine TL_end ?_
  refine TE_go ?_
  refine TC_ret ?_
  obtain rfl := sinj h0
  exact TE_ret env rfl tv ⟨.inr rfl, .inr rfl, .inr rfl, tv⟩
theorem alloc_sharing_costs.ok0 {K : Nat} {p0 : Int} {p1 : Int} {p2 : Int} {p3 : List (List (Int))} {p4 : List (Int)} {q0 : Int} (h0 : alloc_sharing_costs K p0 p1 p2 p3 p4 = some q0) : Fn Try.prog 135 [.p 0 0] [(0, some (.cells [.int .i64 p0, .int .i64 p1, .int .i64 p2, .im (.slice (.slice (.int .i64))) p3, .hd 1 1])), (1, some (.cells [.sl 2])), (2, some (.rows (.int .i64) p4))] (.int .i64 q0) [(0, some (.cells [.int .i64 p0, .int .i64 p1, .int .i64 p2, .im (.slice (.slice (.int .i64))) p3, .hd 1 1])), (1, some (.cells [.sl 2])), (2, some (.rows (.int .i64) p4))] := alloc_sharing_costs.ok h0
theorem alloc_sharing_costs.fnb : fnb Try.prog 135 = true := fnb_of Try.func135 rfl
def alloc_sharing_cut.res (_p0 : Int) (_p1 : Int) (_p2 : Int) (_p3 : List (List (Int))) (_p4 : List (Int)) : Int × Int → MV
  | (_, _) => .tup []
def alloc_sharing_cut.out (p0 : Int) (_p1 : Int) (_p2 : Int) (p3 : List (List (Int))) (p4 : List (Int)) : Int × Int → List (Nat × Option MObj)
  | (q0, q1) => [(0, some (.cells [.int .i64 p0, .int .i64 q0, .int .i64 q1, .im (.slice (.slice (.int .i64))) p3, .hd 1 1])), (1, some (.cells [.sl 2])), (2, some (.rows (.int .i64) p4))]
theorem alloc_sharing_cut.ok {K : Nat} {p0 : Int} {p1 : Int} {p2 : Int} {p3 : List (List (Int))} {p4 : List (Int)} {r : Int × Int} (h0 : alloc_sharing_cut K p0 p1 p2 p3 p4 = some r) : Fn Try.prog 103 [.p 0 0] [(0, some (.cells [.int .i64 p0, .int .i64 p1, .int .i64 p2, .im (.slice (.slice (.int .i64))) p3, .hd 1 1])), (1, some (.cells [.sl 2])), (2, some (.rows (.int .i64) p4))] (alloc_sharing_cut.res p0 p1 p2 p3 p4 r) (alloc_sharing_cut.out p0 p1 p2 p3 p4 r) := by
  refine Fn_of Try.func103 rfl (Nat.le_of_ble_eq_true rfl) fun Γ => ?_
  refine TC_seq ?_
  refine TC_reg ?_
  refine TL_ev env 1 rfl ⟨tv, tv⟩ ?_
  refine TL_end ?_
  refine TE_go ?_
  refine TC_seq ?_
  refine TC_reg ?_
  refine TL_ev env 2 rfl ⟨⟨tv, tv⟩, ⟨⟨tv, tv⟩, tv⟩⟩ ?_
  obtain ⟨r14, hr, h0⟩ := bnd h0
  refine TL_callB [(0, 0), (1, 1001), (2, 1), (3, 2)] (alloc_sharing_each.ok0 hr) alloc_sharing_each.fnb rfl ⟨tv, ⟨tv, ⟨tv, tv⟩⟩⟩ rfl ⟨.inr rfl, .inr rfl, .inr rfl, .inr rfl, tv⟩ rfl ?_
  refine TL_end ?_
  refine TE_go ?_
  refine TC_seq ?_
  refine TC_reg ?_
  refine TL_ev env 1 rfl ⟨⟨tv, tv⟩, tv⟩ ?_
  obtain ⟨r15, hr, h0⟩ := bnd h0
  refine TL_callB [(0, 0), (1, 1), (2, 2)] (alloc_sharing_costs.ok0 hr) alloc_sharing_costs.fnb rfl ⟨tv, ⟨tv, tv⟩⟩ rfl ⟨.inr rfl, .inr rfl, .inr rfl, tv⟩ rfl ?_
  refine TL_ev env 1 rfl ⟨tv, tv⟩ ?_
  refine TL_end ?_
  refine TE_go ?_
  refine TC_seq ?_
  obtain ⟨z1, h1, h0⟩ := bnd h0
  refine TC_cut (α := Int × Int × Int) (fun s => z1 = s) (fun s => [(1, .p 10803 0), (2, .int .i64 s.1)]) (fun s => [(0, some (.cells [.int .i64 p0, .int .i64 s.2.1, .int .i64 s.2.2, .im (.slice (.slice (.int .i64))) p3, .hd 1 1])), (1, some (.cells [.sl 2])), (2, some (.rows (.int .i64) p4)), (10803, some (.cells [.p 0 0]))]) ?_ ?_
  · refine TC_blk ?_
    refine TC_loop (α := Int × Int × Int) (fun n s => alloc_sharing_cut.l0 K p0 p3 p4 n s.1 s.2.1 s.2.2 = some z1) (fun s => [(1, .p 11003 0), (2, .int .i64 s.1)]) (fun s => [(0, some (.cells [.int .i64 p0, .int .i64 s.2.1, .int .i64 s.2.2, .im (.slice (.slice (.int .i64))) p3, .hd 1 1])), (1, some (.cells [.sl 2])), (2, some (.rows (.int .i64) p4)), (11003, some (.cells [.p 0 0]))]) K ?_ ?_
    · exact SP_ren [(11003, 1001)] (_, _, _) h1 ⟨rfl, rfl, tv⟩ ⟨rfl, rfl, rfl, rfl, tv⟩ rfl
    rintro n ⟨x30, x31, x32⟩ h1
    rcases n with _ | n
    · exact (nsome h1).elim
    replace h1 : alloc_sharing_cut.r0 K p0 p3 p4 (alloc_sharing_cut.l0 K p0 p3 p4 n) x30 x31 x32 = some z1 := h1
    refine TC_seq ?_
    refine TC_seq ?_
    refine TC_renw (A' := [(1, .p 11003 0), (2, .int .i64 _)]) (L' := [(0, some (.cells [.int .i64 _, .int .i64 _, .int .i64 _, .im (.slice (.slice (.int .i64))) _, .hd 1 1])), (1, some (.cells [.sl 2])), (2, some (.rows (.int .i64) _)), (11003, some (.cells [.p 0 0]))]) [] ⟨rfl, rfl, tv⟩ ⟨rfl, rfl, rfl, rfl, tv⟩ rfl ?_
    refine TC_drawR ⟨_, fun i => ([[], [0], [1, 0], [2, 1, 0], [], [4, 3, 2, 1, 0], [], [6], [7, 6], [8, 7, 6], [9, 8, 7, 6, 5, 4, 3, 2, 1, 0]] : List (List Nat)).getD i [], fun i => ([[], [], [], [], [], [], [], [], [], [], []] : List (List Nat)).getD i [], fun i => ([[], [], [], [], [], [], [], [], [], [], []] : List (List Nat)).getD i []⟩ (fun i => ([[], [], [], [], [], [], [], [], [], [], []] : List (List Nat)).getD i []) (by kernel_rfl) (by kernel_rfl) ?_
    refine AJR_ev env 1 rfl (Nat.le_of_ble_eq_true rfl) rfl ⟨tv, tv⟩ ?_
    refine AJR_ev env 2 rfl (Nat.le_of_ble_eq_true rfl) rfl tv ?_
    refine AJR_ev env 3 rfl (Nat.le_of_ble_eq_true rfl) rfl tv ?_
    refine AJR_ev env 4 rfl (Nat.le_of_ble_eq_true rfl) rfl ⟨tv, tv⟩ ?_
    refine AJR_ev env 5 rfl (Nat.le_of_ble_eq_true rfl) rfl tv ?_
    refine AJR_ev env 6 rfl (Nat.le_of_ble_eq_true rfl) rfl ⟨tv, ⟨tv, tv⟩⟩ ?_
    refine AJR_ev env 7 rfl (Nat.le_of_ble_eq_true rfl) rfl ⟨tv, tv⟩ ?_
    refine AJR_ev env 8 rfl (Nat.le_of_ble_eq_true rfl) rfl tv ?_
    refine AJR_ev env 9 rfl (Nat.le_of_ble_eq_true rfl) rfl tv ?_
    refine AJR_ev env 10 rfl (Nat.le_of_ble_eq_true rfl) rfl ⟨tv, tv⟩ ?_
    refine AJR_ev env 11 rfl (Nat.le_of_ble_eq_true rfl) rfl ⟨tv, ⟨tv, tv⟩⟩ ?_
    refine AJR_end rfl rfl rfl ?_
    refine TE_go ?_
    refine TC_cond rfl (fun hb => ?_) (fun hb => ?_)
    · replace h1 := bif_t h1 hb
      refine TC_skip ?_
      refine TE_go ?_
      refine TC_blk ?_
      refine TC_seq ?_
      refine TC_reg ?_
      refine TL_ev env 9 rfl ⟨⟨tv, tv⟩, ⟨tv, ⟨tv, ⟨⟨tv, tv⟩, ⟨tv, ⟨⟨tv, ⟨tv, tv⟩⟩, ⟨tv, ⟨tv, ⟨⟨tv, tv⟩, tv⟩⟩⟩⟩⟩⟩⟩⟩⟩ ?_
      refine TL_end ?_
      refine TE_go ?_
      refine TC_seq ?_
      refine TC_reg ?_
      refine TL_ev env 8 rfl ⟨⟨tv, tv⟩, ⟨tv, ⟨tv, ⟨⟨tv, tv⟩, ⟨⟨tv, ⟨tv, tv⟩⟩, ⟨tv, ⟨tv, ⟨⟨tv, tv⟩, tv⟩⟩⟩⟩⟩⟩⟩⟩ ?_
      refine TL_end ?_
      refine TE_go ?_
      refine TC_reg ?_
      refine TL_ev env 1 rfl ⟨⟨tv, tv⟩, tv⟩ ?_
      obtain ⟨r40, hr, h1⟩ := bnd h1
      refine TL_callB [(0, 0), (1, 1), (2, 2)] (alloc_sharing_costs.ok0 hr) alloc_sharing_costs.fnb rfl ⟨tv, ⟨tv, tv⟩⟩ rfl ⟨.inr rfl, .inr rfl, .inr rfl, tv⟩ rfl ?_
      refine TL_ev env 1 rfl ⟨tv, tv⟩ ?_
      refine TL_end ?_
      refine tbn ?_
      refine tsn ?_
      exact TE_nextr [(11003, 11003)] n (Nat.lt_succ_self n) (_, _, _) h1 ⟨rfl, rfl, tv⟩ ⟨rfl, rfl, rfl, rfl, tv⟩ rfl
    · replace h1 := bif_f h1 hb
      refine TC_exit ?_
      refine tsx ?_
      refine tsx ?_
      refine tbe ?_
      obtain rfl := sinj h1
      refine tsn ?_
      exact SP_ren [(10803, 11003)] (_, _, _) rfl ⟨rfl, rfl, tv⟩ ⟨rfl, rfl, rfl, rfl, tv⟩ rfl
  · rintro ⟨x24, x25, x26⟩ rfl
    refine TE_go ?_
    refine TC_seq ?_
    refine TC_renw (A' := [(1, .p 10803 0), (2, .int .i64 _)]) (L' := [(0, some (.cells [.int .i64 _, .int .i64 _, .int .i64 _, .im (.slice (.slice (.int .i64))) _, .hd 1 1])), (1, some (.cells [.sl 2])), (2, some (.rows (.int .i64) _)), (10803, some (.cells [.p 0 0]))]) [] ⟨rfl, rfl, tv⟩ ⟨rfl, rfl, rfl, rfl, tv⟩ rfl ?_
    refine TC_drawR ⟨_, fun i => ([[], [0], [1, 0], [2, 1, 0], [], [4, 3, 2, 1, 0], [], [6], [7, 6], [8, 7, 6], [9, 8, 7, 6, 5, 4, 3, 2, 1, 0]] : List (List Nat)).getD i [], fun i => ([[], [], [], [], [], [], [], [], [], [], []] : List (List Nat)).getD i [], fun i => ([[], [], [], [], [], [], [], [], [], [], []] : List (List Nat)).getD i []⟩ (fun i => ([[], [], [], [], [], [], [], [], [], [], []] : List (List Nat)).getD i []) (by kernel_rfl) (by kernel_rfl) ?_
    refine AJR_ev env 1 rfl (Nat.le_of_ble_eq_true rfl) rfl ⟨tv, tv⟩ ?_
    refine AJR_ev env 2 rfl (Nat.le_of_ble_eq_true rfl) rfl tv ?_
    refine AJR_ev env 3 rfl (Nat.le_of_ble_eq_true rfl) rfl tv ?_
    refine AJR_ev env 4 rfl (Nat.le_of_ble_eq_true rfl) rfl ⟨tv, tv⟩ ?_
    refine AJR_ev env 5 rfl (Nat.le_of_ble_eq_true rfl) rfl tv ?_
    refine AJR_ev env 6 rfl (Nat.le_of_ble_eq_true rfl) rfl ⟨tv, ⟨tv, tv⟩⟩ ?_
    refine AJR_ev env 7 rfl (Nat.le_of_ble_eq_true rfl) rfl ⟨tv, tv⟩ ?_
    refine AJR_ev env 8 rfl (Nat.le_of_ble_eq_true rfl) rfl tv ?_
    refine AJR_ev env 9 rfl (Nat.le_of_ble_eq_true rfl) rfl tv ?_
    refine AJR_ev env 10 rfl (Nat.le_of_ble_eq_true rfl) rfl ⟨tv, tv⟩ ?_
    refine AJR_ev env 11 rfl (Nat.le_of_ble_eq_true rfl) rfl ⟨tv, ⟨tv, tv⟩⟩ ?_
    refine AJR_end rfl rfl rfl ?_
    refine TE_go ?_
    refine TC_cond rfl (fun hb => ?_) (fun hb => ?_)
    · replace h0 := bif_t h0 hb
      refine TC_seq ?_
      refine TC_reg ?_
      refine TL_ev env 9 rfl ⟨⟨tv, tv⟩, ⟨tv, ⟨tv, ⟨⟨tv, tv⟩, ⟨tv, ⟨⟨tv, ⟨tv, tv⟩⟩, ⟨tv, ⟨tv, ⟨⟨tv, tv⟩, tv⟩⟩⟩⟩⟩⟩⟩⟩⟩ ?_
      refine TL_end ?_
      refine TE_go ?_
      refine TC_reg ?_
      refine TL_ev env 8 rfl ⟨⟨tv, tv⟩, ⟨tv, ⟨tv, ⟨⟨tv, tv⟩, ⟨⟨tv, ⟨tv, tv⟩⟩, ⟨tv, ⟨tv, ⟨⟨tv, tv⟩, tv⟩⟩⟩⟩⟩⟩⟩⟩ ?_
      refine TL_end ?_
      obtain rfl := sinj h0
      exact TE_end env rfl tv ⟨.inr rfl, .inr rfl, .inr rfl, tv⟩
    · replace h0 := bif_f h0 hb
      refine TC_skip ?_
      obtain rfl := sinj h0
      exact TE_end env rfl tv ⟨.inr rfl, .inr rfl, .inr rfl, tv⟩
theorem alloc_sharing_cut.ok0 {K : Nat} {p0 : Int} {p1 : Int} {p2 : Int} {p3 : List (List (Int))} {p4 : List (Int)} {q0 : Int} {q1 : Int} (h0 : alloc_sharing_cut K p0 p1 p2 p3 p4 = some (q0, q1)) : Fn Try.prog 103 [.p 0 0] [(0, some (.cells [.int .i64 p0, .int .i64 p1, .int .i64 p2, .im (.slice (.slice (.int .i64))) p3, .hd 1 1])), (1, some (.cells [.sl 2])), (2, some (.rows (.int .i64) p4))] (.tup []) [(0, some (.cells [.int .i64 p0, .int .i64 q0, .int .i64 q1, .im (.slice (.slice (.int .i64))) p3, .hd 1 1])), (1, some (.cells [.sl 2])), (2, some (.rows (.int .i64) p4))] := alloc_sharing_cut.ok h0
theorem alloc_sharing_cut.fnb : fnb Try.prog 103 = true := fnb_of Try.func103 rfl
def alloc_Share_1.res (_p0 : Int) (_p1 : Nat) (_p2 : List (Int)) (_p3 : Int) (_p4 : Int) (_p5 : Int) (_p6 : List (List (Int))) : (List (Int)) → MV
  | _ => .bool true
def alloc_Share_1.out (_p0 : Int) (_p1 : Nat) (_p2 : List (Int)) (p3 : Int) (p4 : Int) (p5 : Int) (p6 : List (List (Int))) : (List (Int)) → List (Nat × Option MObj)
  | q0 => [(0, some (.rows (.int .i64) q0)), (1, some (.cells [.p 2 0])), (2, some (.cells [.int .i64 p3, .int .i64 p4, .int .i64 p5, .im (.slice (.slice (.int .i64))) p6, .hd 3 1])), (3, some (.cells [.sl 0]))]
theorem alloc_Share_1.ok {K : Nat} {p0 : Int} {p1 : Nat} {p2 : List (Int)} {p3 : Int} {p4 : Int} {p5 : Int} {p6 : List (List (Int))} {r : (List (Int))} (h0 : alloc_Share_1 K p0 p1 p2 p3 p4 p5 p6 = some r) : Fn Try.prog 105 [.int .i64 p0, .pe 0 p1 0, .p 1 0] [(0, some (.rows (.int .i64) p2)), (1, some (.cells [.p 2 0])), (2, some (.cells [.int .i64 p3, .int .i64 p4, .int .i64 p5, .im (.slice (.slice (.int .i64))) p6, .hd 3 1])), (3, some (.cells [.sl 0]))] (alloc_Share_1.res p0 p1 p2 p3 p4 p5 p6 r) (alloc_Share_1.out p0 p1 p2 p3 p4 p5 p6 r) := by
  refine Fn_of Try.func105 rfl (Nat.le_of_ble_eq_true rfl) fun Γ => ?_
  refine TC_seq ?_
  refine TC_reg ?_
  refine TL_ev env 1 rfl ⟨tv, tv⟩ ?_
  refine TL_end ?_
  refine TE_go ?_
  refine TC_seq ?_
  refine TC_seq ?_
  refine TC_reg ?_
  refine TL_ev env 7 rfl ⟨tv, ⟨⟨tv, tv⟩, ⟨tv, ⟨tv, ⟨⟨tv, tv⟩, ⟨⟨tv, ⟨tv, tv⟩⟩, ⟨⟨tv, ⟨tv, tv⟩⟩, tv⟩⟩⟩⟩⟩⟩⟩ ?_
  refine TL_end ?_
  refine TE_go ?_
  obtain ⟨z1, h1, h0⟩ := bnd h0
  refine TC_cut (α := (List (Int))) (fun s => z1 = s) (fun s => []) (fun s => [(0, some (.rows (.int .i64) s)), (1, some (.cells [.p 2 0])), (2, some (.cells [.int .i64 p3, .int .i64 p4, .int .i64 p5, .im (.slice (.slice (.int .i64))) p6, .hd 3 1])), (3, some (.cells [.sl 0]))]) ?_ ?_
  · refine TC_cond rfl (fun hb => ?_) (fun hb => ?_)
    · replace h1 := bif_t h1 hb
      refine TC_reg ?_
      obtain ⟨g, h1⟩ := gd_t h1
      refine TL_ev env 10 rfl ⟨tv, ⟨tv, ⟨⟨tv, tv⟩, ⟨tv, ⟨tv, ⟨⟨tv, tv⟩, ⟨⟨tv, ⟨tv, tv⟩⟩, ⟨⟨tv, ⟨tv, tv⟩⟩, ⟨tv, ⟨⟨tv, ⟨tv, g⟩⟩, tv⟩⟩⟩⟩⟩⟩⟩⟩⟩⟩ ?_
      refine TL_end ?_
      obtain rfl := sinj h1
      refine tsn ?_
      exact SP_ren [] _ rfl tv ⟨rfl, rfl, rfl, rfl, tv⟩ rfl
    · replace h1 := bif_f h1 hb
      refine TC_skip ?_
      obtain rfl := sinj h1
      refine tsn ?_
      exact SP_ren [] _ rfl tv ⟨rfl, rfl, rfl, rfl, tv⟩ rfl
  · rintro x4 hz
    obtain rfl := hz.symm
    refine TE_go ?_
    refine TC_seq ?_
    refine TC_reg ?_
    refine TL_ev env 1 rfl ⟨tv, tv⟩ ?_
    refine TL_end ?_
    refine TE_go ?_
    refine TC_ret ?_
    obtain rfl := sinj h0
    exact TE_ret env rfl tv ⟨.inr rfl, .inr rfl, .inr rfl, .inr rfl, tv⟩
theorem alloc_Share_1.ok0 {K : Nat} {p0 : Int} {p1 : Nat} {p2 : List (Int)} {p3 : Int} {p4 : Int} {p5 : Int} {p6 : List (List (Int))} {q0 : List (Int)} (h0 : alloc_Share_1 K p0 p1 p2 p3 p4 p5 p6 = some q0) : Fn Try.prog 105 [.int .i64 p0, .pe 0 p1 0, .p 1 0] [(0, some (.rows (.int .i64) p2)), (1, some (.cells [.p 2 0])), (2, some (.cells [.int .i64 p3, .int .i64 p4, .int .i64 p5, .im (.slice (.slice (.int .i64))) p6, .hd 3 1])), (3, some (.cells [.sl 0]))] (.bool true) [(0, some (.rows (.int .i64) q0)), (1, some (.cells [.p 2 0])), (2, some (.cells [.int .i64 p3, .int .i64 p4, .int .i64 p5, .im (.slice (.slice (.int .i64))) p6, .hd 3 1])), (3, some (.cells [.sl 0]))] := alloc_Share_1.ok h0
theorem alloc_Share_1.fnb : fnb Try.prog 105 = true := fnb_of Try.func105 rfl
def alloc_sharing_each_3.res (_p0 : Int) (_p1 : Int) (_p2 : Int) (_p3 : List (List (Int))) (_p4 : List (Int)) : (List (Int)) → MV
  | _ => .tup []
def alloc_sharing_each_3.out (p0 : Int) (p1 : Int) (p2 : Int) (p3 : List (List (Int))) (_p4 : List (Int)) : (List (Int)) → List (Nat × Option MObj)
  | q0 => [(0, some (.cells [.int .i64 p0, .int .i64 p1, .int .i64 p2, .im (.slice (.slice (.int .i64))) p3, .hd 2 1])), (1, some (.cells [.p 0 0])), (2, some (.cells [.sl 3])), (3, some (.rows (.int .i64) q0))]
theorem alloc_sharing_each_3.ok {K : Nat} {p0 : Int} {p1 : Int} {p2 : Int} {p3 : List (List (Int))} {p4 : List (Int)} {r : (List (Int))} (h0 : alloc_sharing_each_3 K p0 p1 p2 p3 p4 = some r) : Fn Try.prog 104 [.p 0 0, .fn 105 [.p 1 0]] [(0, some (.cells [.int .i64 p0, .int .i64 p1, .int .i64 p2, .im (.slice (.slice (.int .i64))) p3, .hd 2 1])), (1, some (.cells [.p 0 0])), (2, some (.cells [.sl 3])), (3, some (.rows (.int .i64) p4))] (alloc_sharing_each_3.res p0 p1 p2 p3 p4 r) (alloc_sharing_each_3.out p0 p1 p2 p3 p4 r) := by
  refine Fn_of Try.func104 rfl (Nat.le_of_ble_eq_true rfl) fun Γ => ?_
  refine TC_seq ?_
  refine TC_reg ?_
  obtain ⟨g, h0⟩ := gd_t h0
  refine TL_ev env 8 rfl ⟨tv, ⟨tv, ⟨tv, ⟨⟨tv, tv⟩, ⟨⟨tv, ⟨tv, ⟨(by decide), g⟩⟩⟩, ⟨⟨tv, tv⟩, ⟨⟨tv, tv⟩, ⟨tv, tv⟩⟩⟩⟩⟩⟩⟩⟩ ?_
  refine TL_end ?_
  refine TE_go ?_
  obtain ⟨z1, h1, h0⟩ := bnd h0
  refine TC_cut (α := (List (Int))) (fun s => z1 = s) (fun s => []) (fun s => [(0, some (.cells [.int .i64 p0, .int .i64 p1, .int .i64 p2, .im (.slice (.slice (.int .i64))) p3, .hd 2 1])), (1, some (.cells [.p 0 0])), (2, some (.cells [.sl 3])), (3, some (.rows (.int .i64) s))]) ?_ ?_
  · refine TC_blk ?_
    refine TC_loop (α := Int × (List (Int))) (fun n s => alloc_sharing_each_3.l0 K ((Kd.nth (.slice (.int .i64)) p3 0).length : Int) p0 p1 p2 p3 n s.1 s.2 = some z1) (fun s => [(0, .p 0 0), (1, .fn 105 [.p 1 0]), (12, .int .i64 ((Kd.nth (.slice (.int .i64)) p3 0).length : Int)), (13, .int .i64 s.1)]) (fun s => [(0, some (.cells [.int .i64 p0, .int .i64 p1, .int .i64 p2, .im (.slice (.slice (.int .i64))) p3, .hd 2 1])), (1, some (.cells [.p 0 0])), (2, some (.cells [.sl 3])), (3, some (.rows (.int .i64) s.2))]) K ?_ ?_
    · exact SP_ren [] (_, _) h1 ⟨rfl, rfl, rfl, rfl, tv⟩ ⟨rfl, rfl, rfl, rfl, tv⟩ rfl
    rintro n ⟨x103, x104⟩ h1
    rcases n with _ | n
    · exact (nsome h1).elim
    replace h1 : alloc_sharing_each_3.r0 K ((Kd.nth (.slice (.int .i64)) p3 0).length : Int) p0 p1 p2 p3 (alloc_sharing_each_3.l0 K ((Kd.nth (.slice (.int .i64)) p3 0).length : Int) p0 p1 p2 p3 n) x103 x104 = some z1 := h1
    refine TC_seq ?_
    refine TC_reg ?_
    refine TL_ev env 1 rfl ⟨⟨tv, ⟨tv, tv⟩⟩, tv⟩ ?_
    refine TL_end ?_
    refine TE_go ?_
    refine TC_seq ?_
    refine TC_cond rfl (fun hb => ?_) (fun hb => ?_)
    · replace h1 := bif_t h1 hb
      refine TC_skip ?_
      refine TE_go ?_
      refine TC_seq ?_
      refine TC_blk ?_
      refine TC_seq ?_
      refine TC_reg ?_
      refine TL_ev env 2 rfl ⟨tv, ⟨tv, tv⟩⟩ ?_
      refine TL_end ?_
      refine TE_go ?_
      refine TC_seq ?_
      refine TC_reg ?_
      refine TL_ev env 6 rfl ⟨tv, ⟨tv, ⟨tv, ⟨⟨tv, tv⟩, ⟨⟨tv, tv⟩, ⟨tv, tv⟩⟩⟩⟩⟩⟩ ?_
      refine TL_end ?_
      refine TE_go ?_
      obtain ⟨z2, h2, h1⟩ := bnd h1
      refine TC_cut (α := (List (Int))) (fun s => z2 = s) (fun s => [(0, .p 0 0), (1, .fn 105 [.p 1 0]), (12, .int .i64 ((Kd.nth (.slice (.int .i64)) p3 0).length : Int)), (13, .int .i64 x103)]) (fun s => [(0, some (.cells [.int .i64 p0, .int .i64 p1, .int .i64 p2, .im (.slice (.slice (.int .i64))) p3, .hd 2 1])), (1, some (.cells [.p 0 0])), (2, some (.cells [.sl 3])), (3, some (.rows (.int .i64) s))]) ?_ ?_
      · refine TC_blk ?_
        refine TC_loop (α := Int × (List (Int))) (fun n s => alloc_sharing_each_3.l1 K x103 ((Kd.nth (.slice (.int .i64)) p3 0).length : Int) (p3.length : Int) p0 p1 p2 p3 n s.1 s.2 = some z2) (fun s => [(0, .p 0 0), (1, .fn 105 [.p 1 0]), (4, .int .i64 x103), (12, .int .i64 ((Kd.nth (.slice (.int .i64)) p3 0).length : Int)), (13, .int .i64 x103), (20, .int .i64 (p3.length : Int)), (21, .int .i64 s.1)]) (fun s => [(0, some (.cells [.int .i64 p0, .int .i64 p1, .int .i64 p2, .im (.slice (.slice (.int .i64))) p3, .hd 2 1])), (1, some (.cells [.p 0 0])), (2, some (.cells [.sl 3])), (3, some (.rows (.int .i64) s.2))]) K ?_ ?_
        · exact SP_ren [] (_, _) h2 ⟨rfl, rfl, rfl, rfl, rfl, rfl, rfl, tv⟩ ⟨rfl, rfl, rfl, rfl, tv⟩ rfl
        rintro n ⟨x147, x148⟩ h2
        rcases n with _ | n
        · exact (nsome h2).elim
        replace h2 : alloc_sharing_each_3.r1 K x103 ((Kd.nth (.slice (.int .i64)) p3 0).length : Int) (p3.length : Int) p0 p1 p2 p3 (alloc_sharing_each_3.l1 K x103 ((Kd.nth (.slice (.int .i64)) p3 0).length : Int) (p3.length : Int) p0 p1 p2 p3 n) x147 x148 = some z2 := h2
        refine TC_seq ?_
        refine TC_reg ?_
        refine TL_ev env 1 rfl ⟨⟨tv, ⟨tv, tv⟩⟩, tv⟩ ?_
        refine TL_end ?_
        refine TE_go ?_
        refine TC_seq ?_
        refine TC_cond rfl (fun hb => ?_) (fun hb => ?_)
        · replace h2 := bif_t h2 hb
          refine TC_skip ?_
          refine TE_go ?_
          refine TC_seq ?_
          refine TC_blk ?_
          refine TC_seq ?_
          refine TC_reg ?_
          refine TL_ev env 2 rfl ⟨tv, ⟨tv, tv⟩⟩ ?_
          refine TL_end ?_
          refine TE_go ?_
          refine TC_seq ?_
          refine nums h2 (fun hx h2 => ?_) (fun h2 => ?_)
          · refine TC_num 21 0 hx rfl ?_
            refine TC_num 23 0 hx rfl ?_
            refine TC_num 5 0 hx rfl ?_
            refine TC_renw (A' := [(0, .p 0 0), (1, .fn 105 [.p 1 0]), (4, .int .i64 _), (5, .int .i64 0), (12, .int .i64 _), (13, .int .i64 _), (20, .int .i64 _), (21, .int .i64 0)]) (L' := [(0, some (.cells [.int .i64 _, .int .i64 _, .int .i64 _, .im (.slice (.slice (.int .i64))) _, .hd 2 1])), (1, some (.cells [.p 0 0])), (2, some (.cells [.sl 3])), (3, some (.rows (.int .i64) _))]) [] ⟨rfl, rfl, rfl, rfl, rfl, rfl, rfl, rfl, tv⟩ ⟨rfl, rfl, rfl, rfl, tv⟩ rfl ?_
            refine TC_drawR ⟨_, fun i => ([[], [], [1], [2, 1], [3, 2, 1], [], [5, 4, 3, 2, 1], [6, 5, 4, 3, 2, 1], [], [8, 7, 6, 5, 4, 3, 2, 1], [9, 8, 7, 6, 5, 4, 3, 2, 1], [], [11], [12, 11], [13, 12, 11], [], [15, 14, 13, 12, 11], [16, 15, 14, 13, 12, 11], [], [18, 17, 16, 15, 14, 13, 12, 11], [19, 18, 17, 16, 15, 14, 13, 12, 11, 10, 9, 8, 7, 6, 5, 4, 3, 2, 1, 0], [20, 19, 18, 17, 16, 15, 14, 13, 12, 11, 10, 9, 8, 7, 6, 5, 4, 3, 2, 1, 0]] : List (List Nat)).getD i [], fun i => ([[], [], [], [], [], [], [], [], [], [], [], [], [], [], [], [], [], [], [], [], [0, 1, 2, 3], []] : List (List Nat)).getD i [], fun i => ([[], [], [], [], [], [], [], [], [], [], [], [], [], [], [], [], [], [], [], [], [], []] : List (List Nat)).getD i []⟩ (fun i => ([[], [], [], [], [], [], [], [], [], [], [], [], [], [], [], [], [], [], [], [], [], []] : List (List Nat)).getD i []) (by kernel_rfl) (by kernel_rfl) ?_
            refine AJR_ev env 1 rfl (Nat.le_of_ble_eq_true rfl) rfl tv ?_
            refine AJR_ev env 2 rfl (Nat.le_of_ble_eq_true rfl) rfl tv ?_
            refine AJR_ev env 3 rfl (Nat.le_of_ble_eq_true rfl) rfl tv ?_
            refine AJR_ev env 4 rfl (Nat.le_of_ble_eq_true rfl) rfl tv ?_
            refine AJR_ev env 5 rfl (Nat.le_of_ble_eq_true rfl) rfl ⟨tv, tv⟩ ?_
            refine AJR_ev env 6 rfl (Nat.le_of_ble_eq_true rfl) rfl tv ?_
            obtain ⟨g, h2⟩ := gd_t h2
            refine AJR_ev env 7 rfl (Nat.le_of_ble_eq_true rfl) rfl ⟨tv, ⟨tv, ⟨(by decide), g⟩⟩⟩ ?_
            refine AJR_ev env 8 rfl (Nat.le_of_ble_eq_true rfl) rfl ⟨tv, tv⟩ ?_
            refine AJR_ev env 9 rfl (Nat.le_of_ble_eq_true rfl) rfl tv ?_
            obtain ⟨g, h2⟩ := gd_t h2
            refine AJR_ev env 10 rfl (Nat.le_of_ble_eq_true rfl) rfl ⟨tv, ⟨tv, ⟨g.1, g.2⟩⟩⟩ ?_
            refine AJR_ev env 11 rfl (Nat.le_of_ble_eq_true rfl) rfl ⟨tv, tv⟩ ?_
            refine AJR_ev env 12 rfl (Nat.le_of_ble_eq_true rfl) rfl tv ?_
            refine AJR_ev env 13 rfl (Nat.le_of_ble_eq_true rfl) rfl tv ?_
            refine AJR_ev env 14 rfl (Nat.le_of_ble_eq_true rfl) rfl tv ?_
            refine AJR_ev env 15 rfl (Nat.le_of_ble_eq_true rfl) rfl ⟨tv, tv⟩ ?_
            refine AJR_ev env 16 rfl (Nat.le_of_ble_eq_true rfl) rfl tv ?_
            refine AJR_ev env 17 rfl (Nat.le_of_ble_eq_true rfl) rfl ⟨tv, ⟨tv, ⟨(by decide), (by decide)⟩⟩⟩ ?_
            refine AJR_ev env 18 rfl (Nat.le_of_ble_eq_true rfl) rfl ⟨tv, tv⟩ ?_
            refine AJR_ev env 19 rfl (Nat.le_of_ble_eq_true rfl) rfl tv ?_
            obtain ⟨g, h2⟩ := gd_t h2
            refine AJR_ev env 20 rfl (Nat.le_of_ble_eq_true rfl) rfl ⟨tv, ⟨tv, ⟨g.1, g.2⟩⟩⟩ ?_
            obtain ⟨r157, hr, h2⟩ := bnd h2
            refine AJR_call 21 rfl (Nat.le_of_ble_eq_true rfl) [(0, 3), (1, 1), (2, 0), (3, 2)] rfl (alloc_Share_1.ok0 hr) alloc_Share_1.fnb rfl ⟨tv, ⟨tv, ⟨tv, tv⟩⟩⟩ rfl ⟨.inr rfl, .inr rfl, .inr rfl, .inr rfl, tv⟩ rfl ?_
            refine AJR_ev env 22 rfl (Nat.le_of_ble_eq_true rfl) rfl tv ?_
            refine AJR_end rfl rfl rfl ?_
            refine TE_go ?_
            refine TC_cond rfl (fun hb => ?_) (fun hb => ?_)
            · first | exact (ftf hb).elim | exact (tff hb).elim | exact absurd hb (by decide)
            · refine TC_skip ?_
              refine tbn ?_
              refine TE_go ?_
              refine TC_reg ?_
              refine TL_ev env 2 rfl ⟨⟨tv, ⟨tv, tv⟩⟩, ⟨tv, tv⟩⟩ ?_
              refine TL_end ?_
              refine tsn ?_
              exact TE_nextr [] n (Nat.lt_succ_self n) (_, _) h2 ⟨rfl, rfl, rfl, rfl, rfl, rfl, rfl, tv⟩ ⟨rfl, rfl, rfl, rfl, tv⟩ rfl
          · exact (nsome h2).elim
        · replace h2 := bif_f h2 hb
          refine TC_exit ?_
          refine tsx ?_
          refine tsx ?_
          refine tbe ?_
          obtain rfl := sinj h2
          refine tsn ?_
          exact SP_ren [] _ rfl ⟨rfl, rfl, rfl, rfl, tv⟩ ⟨rfl, rfl, rfl, rfl, tv⟩ rfl
      · rintro x143 hz
        obtain rfl := hz.symm
        refine tbn ?_
        refine TE_go ?_
        refine TC_reg ?_
        refine TL_ev env 2 rfl ⟨⟨tv, ⟨tv, tv⟩⟩, ⟨tv, tv⟩⟩ ?_
        refine TL_end ?_
        refine tsn ?_
        exact TE_nextr [] n (Nat.lt_succ_self n) (_, _) h1 ⟨rfl, rfl, rfl, rfl, tv⟩ ⟨rfl, rfl, rfl, rfl, tv⟩ rfl
    · replace h1 := bif_f h1 hb
      refine TC_exit ?_
      refine tsx ?_
      refine tsx ?_
      refine tbe ?_
      obtain rfl := sinj h1
      refine tsn ?_
      exact SP_ren [] _ rfl tv ⟨rfl, rfl, rfl, rfl, tv⟩ rfl
  · rintro x84 hz
    obtain rfl := hz.symm
    obtain rfl := sinj h0
    exact TE_end env rfl tv ⟨.inr rfl, .inr rfl, .inr rfl, .inr rfl, tv⟩
theorem alloc_sharing_each_3.ok0 {K : Nat} {p0 : Int} {p1 : Int} {p2 : Int} {p3 : List (List (Int))} {p4 : List (Int)} {q0 : List (Int)} (h0 : alloc_sharing_each_3 K p0 p1 p2 p3 p4 = some q0) : Fn Try.prog 104 [.p 0 0, .fn 105 [.p 1 0]] [(0, some (.cells [.int .i64 p0, .int .i64 p1, .int .i64 p2, .im (.slice (.slice (.int .i64))) p3, .hd 2 1])), (1, some (.cells [.p 0 0])), (2, some (.cells [.sl 3])), (3, some (.rows (.int .i64) p4))] (.tup []) [(0, some (.cells [.int .i64 p0, .int .i64 p1, .int .i64 p2, .im (.slice (.slice (.int .i64))) p3, .hd 2 1])), (1, some (.cells [.p 0 0])), (2, some (.cells [.sl 3])), (3, some (.rows (.int .i64) q0))] := alloc_sharing_each_3.ok h0
theorem alloc_sharing_each_3.fnb : fnb Try.prog 104 = true := fnb_of Try.func104 rfl
def alloc_sharing_more_1.res (_p0 : Int) (_p1 : Nat) (_p2 : List (Int)) (_p3 : Bool) (_p4 : Int) (_p5 : Int) (_p6 : Int) (_p7 : List (List (Int))) : Bool × (List (Int)) × Int → MV
  | (q0, _, _) => .bool q0
def alloc_sharing_more_1.out (_p0 : Int) (_p1 : Nat) (_p2 : List (Int)) (p3 : Bool) (p4 : Int) (p5 : Int) (_p6 : Int) (p7 : List (List (Int))) : Bool × (List (Int)) × Int → List (Nat × Option MObj)
  | (_, q1, q2) => [(0, some (.rows (.int .i64) q1)), (1, some (.cells [.p 3 0])), (2, some (.cells [.bool p3])), (3, some (.cells [.int .i64 p4, .int .i64 p5, .int .i64 q2, .im (.slice (.slice (.int .i64))) p7, .hd 4 1])), (4, some (.cells [.sl 0]))]
theorem alloc_sharing_more_1.ok {K : Nat} {p0 : Int} {p1 : Nat} {p2 : List (Int)} {p3 : Bool} {p4 : Int} {p5 : Int} {p6 : Int} {p7 : List (List (Int))} {r : Bool × (List (Int)) × Int} (h0 : alloc_sharing_more_1 K p0 p1 p2 p3 p4 p5 p6 p7 = some r) : Fn Try.prog 136 [.int .i64 p0, .pe 0 p1 0, .p 1 0, .p 2 0] [(0, some (.rows (.int .i64) p2)), (1, some (.cells [.p 3 0])), (2, some (.cells [.bool p3])), (3, some (.cells [.int .i64 p4, .int .i64 p5, .int .i64 p6, .im (.slice (.slice (.int .i64))) p7, .hd 4 1])), (4, some (.cells [.sl 0]))] (alloc_sharing_more_1.res p0 p1 p2 p3 p4 p5 p6 p7 r) (alloc_sharing_more_1.out p0 p1 p2 p3 p4 p5 p6 p7 r) := by
  refine Fn_of Try.func136 rfl (Nat.le_of_ble_eq_true rfl) fun Γ => ?_
  refine TC_seq ?_
  refine TC_reg ?_
  refine TL_ev env 1 rfl ⟨tv, tv⟩ ?_
  refine TL_end ?_
  refine TE_go ?_
  refine TC_seq ?_
  obtain ⟨z1, h1, h0⟩ := bnd h0
  refine TC_cut (α := (List (Int)) × Int) (fun s => z1 = .inl s) (fun s => []) (fun s => [(0, some (.rows (.int .i64) s.1)), (1, some (.cells [.p 3 0])), (2, some (.cells [.bool p3])), (3, some (.cells [.int .i64 p4, .int .i64 p5, .int .i64 s.2, .im (.slice (.slice (.int .i64))) p7, .hd 4 1])), (4, some (.cells [.sl 0]))]) ?_ ?_
  · refine TC_blk ?_
    refine TC_seq ?_
    refine TC_renw (A' := [(0, .int .i64 _), (1, .pe 0 _ 0), (2, .p 1 0), (3, .p 2 0)]) (L' := [(0, some (.rows (.int .i64) _)), (1, some (.cells [.p 3 0])), (2, some (.cells [.bool _])), (3, some (.cells [.int .i64 _, .int .i64 _, .int .i64 _, .im (.slice (.slice (.int .i64))) _, .hd 4 1])), (4, some (.cells [.sl 0]))]) [] ⟨rfl, rfl, rfl, rfl, tv⟩ ⟨rfl, rfl, rfl, rfl, rfl, tv⟩ rfl ?_
    refine TC_drawR ⟨_, fun i => ([[], [0], [1, 0], [2, 1, 0], [], [4], [5, 4], [6, 5, 4], [7, 6, 5, 4, 3, 2, 1, 0], [8, 7, 6, 5, 4, 3, 2, 1, 0]] : List (List Nat)).getD i [], fun i => ([[], [], [], [], [], [], [], [], [], []] : List (List Nat)).getD i [], fun i => ([[], [], [], [], [], [], [], [], [], []] : List (List Nat)).getD i []⟩ (fun i => ([[], [], [], [], [], [], [], [], [], []] : List (List Nat)).getD i []) (by kernel_rfl) (by kernel_rfl) ?_
    refine AJR_ev env 1 rfl (Nat.le_of_ble_eq_true rfl) rfl ⟨tv, tv⟩ ?_
    refine AJR_ev env 2 rfl (Nat.le_of_ble_eq_true rfl) rfl tv ?_
    refine AJR_ev env 3 rfl (Nat.le_of_ble_eq_true rfl) rfl tv ?_
    refine AJR_ev env 4 rfl (Nat.le_of_ble_eq_true rfl) rfl ⟨tv, tv⟩ ?_
    refine AJR_ev env 5 rfl (Nat.le_of_ble_eq_true rfl) rfl ⟨tv, tv⟩ ?_
    refine AJR_ev env 6 rfl (Nat.le_of_ble_eq_true rfl) rfl tv ?_
    refine AJR_ev env 7 rfl (Nat.le_of_ble_eq_true rfl) rfl tv ?_
    refine AJR_ev env 8 rfl (Nat.le_of_ble_eq_true rfl) rfl ⟨tv, tv⟩ ?_
    refine AJR_ev env 9 rfl (Nat.le_of_ble_eq_true rfl) rfl ⟨tv, ⟨tv, tv⟩⟩ ?_
    refine AJR_ev env 10 rfl (Nat.le_of_ble_eq_true rfl) rfl tv ?_
    refine AJR_end rfl rfl rfl ?_
    refine TE_go ?_
    refine TC_cond rfl (fun hb => ?_) (fun hb => ?_)
    · replace h1 := bif_t h1 hb
      refine TC_seq ?_
      refine TC_reg ?_
      refine TL_ev env 1 rfl ⟨tv, tv⟩ ?_
      refine TL_end ?_
      refine TE_go ?_
      refine TC_ret ?_
      refine tbr ?_
      refine tsr ?_
      refine tsr ?_
      obtain rfl := sinj h1
      obtain rfl := sinj h0
      exact TE_ret env rfl tv ⟨.inr rfl, .inr rfl, .inr rfl, .inr rfl, .inr rfl, tv⟩
    · replace h1 := bif_f h1 hb
      refine TC_seq ?_
      refine TC_reg ?_
      obtain ⟨g, h1⟩ := gd_t h1
      refine TL_ev env 11 rfl ⟨tv, ⟨tv, ⟨⟨tv, g.1⟩, ⟨⟨tv, ⟨tv, tv⟩⟩, ⟨tv, ⟨fun eg => tv, ⟨fun eg => fun e => e, ⟨fun eg => ⟨fun e => e, (g.2 eg)⟩, ⟨fun eg => ⟨fun e => e, ⟨tv, tv⟩⟩, ⟨⟨tv, ⟨fun e => e, tv⟩⟩, ⟨tv, tv⟩⟩⟩⟩⟩⟩⟩⟩⟩⟩⟩ ?_
      refine TL_end ?_
      refine TE_go ?_
      refine TC_cond rfl (fun hb => ?_) (fun hb => ?_)
      · replace h1 := bif_t h1 hb
        refine TC_seq ?_
        refine TC_reg ?_
        obtain ⟨g, h1⟩ := gd_t h1
        refine TL_ev env 6 rfl ⟨tv, ⟨tv, ⟨⟨tv, g.1⟩, ⟨⟨tv, ⟨tv, tv⟩⟩, ⟨tv, ⟨⟨tv, ⟨tv, g.2⟩⟩, tv⟩⟩⟩⟩⟩⟩ ?_
        refine TL_end ?_
        refine TE_go ?_
        refine TC_reg ?_
        refine TL_ev env 8 rfl ⟨⟨tv, tv⟩, ⟨tv, ⟨tv, ⟨⟨tv, tv⟩, ⟨⟨tv, ⟨tv, tv⟩⟩, ⟨tv, ⟨tv, ⟨⟨tv, tv⟩, tv⟩⟩⟩⟩⟩⟩⟩⟩ ?_
        refine TL_end ?_
        refine tbn ?_
        obtain rfl := sinj h1
        refine tsn ?_
        exact SP_ren [] (_, _) rfl tv ⟨rfl, rfl, rfl, rfl, rfl, tv⟩ rfl
      · replace h1 := bif_f h1 hb
        refine TC_seq ?_
        refine TC_renw (A' := [(0, .int .i64 _), (1, .pe 0 _ 0), (2, .p 1 0), (3, .p 2 0)]) (L' := [(0, some (.rows (.int .i64) _)), (1, some (.cells [.p 3 0])), (2, some (.cells [.bool _])), (3, some (.cells [.int .i64 _, .int .i64 _, .int .i64 _, .im (.slice (.slice (.int .i64))) _, .hd 4 1])), (4, some (.cells [.sl 0]))]) [] ⟨rfl, rfl, rfl, rfl, tv⟩ ⟨rfl, rfl, rfl, rfl, rfl, tv⟩ rfl ?_
        refine TC_drawR ⟨_, fun i => ([[], [0], [1, 0], [1, 0], [3, 1, 0], [4, 3, 1, 0], [5, 4, 3, 1, 0], [6, 5, 4, 3, 1, 0], [7, 6, 5, 4, 3, 2, 1, 0], [8, 7, 6, 5, 4, 3, 2, 1, 0], [9, 8, 7, 6, 5, 4, 3, 2, 1, 0], [10, 9, 8, 7, 6, 5, 4, 3, 2, 1, 0], [11, 10, 9, 8, 7, 6, 5, 4, 3, 2, 1, 0], [12, 11, 10, 9, 8, 7, 6, 5, 4, 3, 2, 1, 0], [13, 12, 11, 10, 9, 8, 7, 6, 5, 4, 3, 2, 1, 0], [10, 9, 8, 7, 6, 5, 4, 3, 2, 1, 0], [15, 10, 9, 8, 7, 6, 5, 4, 3, 2, 1, 0], [16, 15, 10, 9, 8, 7, 6, 5, 4, 3, 2, 1, 0], [17, 16, 15, 10, 9, 8, 7, 6, 5, 4, 3, 2, 1, 0], [18, 17, 16, 15, 10, 9, 8, 7, 6, 5, 4, 3, 2, 1, 0], [19, 18, 17, 16, 15, 14, 13, 12, 11, 10, 9, 8, 7, 6, 5, 4, 3, 2, 1, 0], [20, 19, 18, 17, 16, 15, 14, 13, 12, 11, 10, 9, 8, 7, 6, 5, 4, 3, 2, 1, 0], [21, 20, 19, 18, 17, 16, 15, 14, 13, 12, 11, 10, 9, 8, 7, 6, 5, 4, 3, 2, 1, 0]] : List (List Nat)).getD i [], fun i => ([[], [], [], [], [], [], [], [], [], [], [], [], [], [], [], [], [], [], [], [], [], [], []] : List (List Nat)).getD i [], fun i => ([[], [], [], [], [], [], [], [], [], [], [], [], [], [], [], [], [], [], [], [], [], [], []] : List (List Nat)).getD i []⟩ (fun i => ([[], [], [], [], [], [], [], [], [], [], [], [], [], [], [], [], [], [], [], [], [], [], []] : List (List Nat)).getD i []) (by kernel_rfl) (by kernel_rfl) ?_
        refine AJR_ev env 1 rfl (Nat.le_of_ble_eq_true rfl) rfl ⟨tv, tv⟩ ?_
        refine AJR_ev env 2 rfl (Nat.le_of_ble_eq_true rfl) rfl tv ?_
        refine AJR_ev env 3 rfl (Nat.le_of_ble_eq_true rfl) rfl (fun eg => tv) ?_
        refine AJR_ev env 4 rfl (Nat.le_of_ble_eq_true rfl) rfl (fun eg => ⟨tv, tv⟩) ?_
        refine AJR_ev env 5 rfl (Nat.le_of_ble_eq_true rfl) rfl (fun eg => fun e => e) ?_
        refine AJR_ev env 6 rfl (Nat.le_of_ble_eq_true rfl) rfl (fun eg => fun e => e) ?_
        refine AJR_ev env 7 rfl (Nat.le_of_ble_eq_true rfl) rfl (fun eg => ⟨fun e => e, tv⟩) ?_
        refine AJR_ev env 8 rfl (Nat.le_of_ble_eq_true rfl) rfl (fun eg => ⟨fun e => e, ⟨tv, tv⟩⟩) ?_
        refine AJR_ev env 9 rfl (Nat.le_of_ble_eq_true rfl) rfl (fun eg => ⟨fun e => e, ⟨fun e => e, tv⟩⟩) ?_
        refine AJR_ev env 10 rfl (Nat.le_of_ble_eq_true rfl) rfl ⟨tv, ⟨fun e => e, tv⟩⟩ ?_
        refine AJR_ev env 11 rfl (Nat.le_of_ble_eq_true rfl) rfl tv ?_
        refine AJR_ev env 12 rfl (Nat.le_of_ble_eq_true rfl) rfl (fun eg => ⟨tv, tv⟩) ?_
        refine AJR_ev env 13 rfl (Nat.le_of_ble_eq_true rfl) rfl (fun eg => fun e => e) ?_
        refine AJR_ev env 14 rfl (Nat.le_of_ble_eq_true rfl) rfl (fun eg => fun e => e) ?_
        refine AJR_ev env 15 rfl (Nat.le_of_ble_eq_true rfl) rfl (fun eg => ⟨fun e => e, tv⟩) ?_
        refine AJR_ev env 16 rfl (Nat.le_of_ble_eq_true rfl) rfl (fun eg => ⟨tv, tv⟩) ?_
        refine AJR_ev env 17 rfl (Nat.le_of_ble_eq_true rfl) rfl (fun eg => fun e => e) ?_
        refine AJR_ev env 18 rfl (Nat.le_of_ble_eq_true rfl) rfl (fun eg => fun e => e) ?_
        refine AJR_ev env 19 rfl (Nat.le_of_ble_eq_true rfl) rfl (fun eg => ⟨fun e => e, tv⟩) ?_
        refine AJR_ev env 20 rfl (Nat.le_of_ble_eq_true rfl) rfl (fun eg => ⟨fun e => e, ⟨tv, tv⟩⟩) ?_
        refine AJR_ev env 21 rfl (Nat.le_of_ble_eq_true rfl) rfl (fun eg => ⟨fun e => e, ⟨fun e => e, tv⟩⟩) ?_
        refine AJR_ev env 22 rfl (Nat.le_of_ble_eq_true rfl) rfl ⟨tv, ⟨fun e => e, tv⟩⟩ ?_
        refine AJR_ev env 23 rfl (Nat.le_of_ble_eq_true rfl) rfl tv ?_
        refine AJR_end rfl rfl rfl ?_
        refine TE_go ?_
        refine TC_cond rfl (fun hb => ?_) (fun hb => ?_)
        · replace h1 := bif_t h1 hb
          refine TC_seq ?_
          refine TC_reg ?_
          obtain ⟨g, h1⟩ := gd_t h1
          refine TL_ev env 3 rfl ⟨tv, ⟨tv, ⟨⟨tv, ⟨tv, g⟩⟩, tv⟩⟩⟩ ?_
          refine TL_end ?_
          refine TE_go ?_
          refine TC_reg ?_
          refine TL_ev env 8 rfl ⟨⟨tv, tv⟩, ⟨tv, ⟨tv, ⟨⟨tv, tv⟩, ⟨⟨tv, ⟨tv, tv⟩⟩, ⟨tv, ⟨tv, ⟨⟨tv, tv⟩, tv⟩⟩⟩⟩⟩⟩⟩⟩ ?_
          refine TL_end ?_
          refine tbn ?_
          obtain rfl := sinj h1
          refine tsn ?_
          exact SP_ren [] (_, _) rfl tv ⟨rfl, rfl, rfl, rfl, rfl, tv⟩ rfl
        · replace h1 := bif_f h1 hb
          refine TC_skip ?_
          refine tbn ?_
          obtain rfl := sinj h1
          refine tsn ?_
          exact SP_ren [] (_, _) rfl tv ⟨rfl, rfl, rfl, rfl, rfl, tv⟩ rfl
  · rintro ⟨x3, x4⟩ rfl
    refine TE_go ?_
    refine TC_seq ?_
    refine TC_reg ?_
    refine TL_ev env 1 rfl ⟨tv, tv⟩ ?_
    refine TL_end ?_
    refine TE_go ?_
    refine TC_ret ?_
    obtain rfl := sinj h0
    exact TE_ret env rfl tv ⟨.inr rfl, .inr rfl, .inr rfl, .inr rfl, .inr rfl, tv⟩
theorem alloc_sharing_more_1.ok0 {K : Nat} {p0 : Int} {p1 : Nat} {p2 : List (Int)} {p3 : Bool} {p4 : Int} {p5 : Int} {p6 : Int} {p7 : List (List (Int))} {q0 : Bool} {q1 : List (Int)} {q2 : Int} (h0 : alloc_sharing_more_1 K p0 p1 p2 p3 p4 p5 p6 p7 = some (q0, q1, q2)) : Fn Try.prog 136 [.int .i64 p0, .pe 0 p1 0, .p 1 0, .p 2 0] [(0, some (.rows (.int .i64) p2)), (1, some (.cells [.p 3 0])), (2, some (.cells [.bool p3])), (3, some (.cells [.int .i64 p4, .int .i64 p5, .int .i64 p6, .im (.slice (.slice (.int .i64))) p7, .hd 4 1])), (4, some (.cells [.sl 0]))] (.bool q0) [(0, some (.rows (.int .i64) q1)), (1, some (.cells [.p 3 0])), (2, some (.cells [.bool p3])), (3, some (.cells [.int .i64 p4, .int .i64 p5, .int .i64 q2, .im (.slice (.slice (.int .i64))) p7, .hd 4 1])), (4, some (.cells [.sl 0]))] := alloc_sharing_more_1.ok h0
theorem alloc_sharing_more_1.fnb : fnb Try.prog 136 = true := fnb_of Try.func136 rfl
def alloc_sharing_each_4.res (_p0 : Int) (_p1 : Int) (_p2 : Int) (_p3 : List (List (Int))) (_p4 : Bool) (_p5 : List (Int)) : Int × (List (Int)) → MV
  | (_, _) => .tup []
def alloc_sharing_each_4.out (p0 : Int) (p1 : Int) (_p2 : Int) (p3 : List (List (Int))) (p4 : Bool) (_p5 : List (Int)) : Int × (List (Int)) → List (Nat × Option MObj)
  | (q0, q1) => [(0, some (.cells [.int .i64 p0, .int .i64 p1, .int .i64 q0, .im (.slice (.slice (.int .i64))) p3, .hd 3 1])), (1, some (.cells [.p 0 0])), (2, some (.cells [.bool p4])), (3, some (.cells [.sl 4])), (4, some (.rows (.int .i64) q1))]
theorem alloc_sharing_each_4.ok {K : Nat} {p0 : Int} {p1 : Int} {p2 : Int} {p3 : List (List (Int))} {p4 : Bool} {p5 : List (Int)} {r : Int × (List (Int))} (h0 : alloc_sharing_each_4 K p0 p1 p2 p3 p4 p5 = some r) : Fn Try.prog 104 [.p 0 0, .fn 136 [.p 1 0, .p 2 0]] [(0, some (.cells [.int .i64 p0, .int .i64 p1, .int .i64 p2, .im (.slice (.slice (.int .i64))) p3, .hd 3 1])), (1, some (.cells [.p 0 0])), (2, some (.cells [.bool p4])), (3, some (.cells [.sl 4])), (4, some (.rows (.int .i64) p5))] (alloc_sharing_each_4.res p0 p1 p2 p3 p4 p5 r) (alloc_sharing_each_4.out p0 p1 p2 p3 p4 p5 r) := by
  refine Fn_of Try.func104 rfl (Nat.le_of_ble_eq_true rfl) fun Γ => ?_
  refine TC_seq ?_
  refine TC_reg ?_
  obtain ⟨g, h0⟩ := gd_t h0
  refine TL_ev env 8 rfl ⟨tv, ⟨tv, ⟨tv, ⟨⟨tv, tv⟩, ⟨⟨tv, ⟨tv, ⟨(by decide), g⟩⟩⟩, ⟨⟨tv, tv⟩, ⟨⟨tv, tv⟩, ⟨tv, tv⟩⟩⟩⟩⟩⟩⟩⟩ ?_
  refine TL_end ?_
  refine TE_go ?_
  obtain ⟨z1, h1, h0⟩ := bnd h0
  refine TC_cut (α := Int × (List (Int))) (fun s => z1 = .inl s) (fun s => []) (fun s => [(0, some (.cells [.int .i64 p0, .int .i64 p1, .int .i64 s.1, .im (.slice (.slice (.int .i64))) p3, .hd 3 1])), (1, some (.cells [.p 0 0])), (2, some (.cells [.bool p4])), (3, some (.cells [.sl 4])), (4, some (.rows (.int .i64) s.2))]) ?_ ?_
  · refine TC_blk ?_
    refine TC_loop (α := Int × Int × (List (Int))) (fun n s => alloc_sharing_each_4.l0 K ((Kd.nth (.slice (.int .i64)) p3 0).length : Int) p0 p1 p3 p4 n s.1 s.2.1 s.2.2 = some z1) (fun s => [(0, .p 0 0), (1, .fn 136 [.p 1 0, .p 2 0]), (12, .int .i64 ((Kd.nth (.slice (.int .i64)) p3 0).length : Int)), (13, .int .i64 s.1)]) (fun s => [(0, some (.cells [.int .i64 p0, .int .i64 p1, .int .i64 s.2.1, .im (.slice (.slice (.int .i64))) p3, .hd 3 1])), (1, some (.cells [.p 0 0])), (2, some (.cells [.bool p4])), (3, some (.cells [.sl 4])), (4, some (.rows (.int .i64) s.2.2))]) K ?_ ?_
    · exact SP_ren [] (_, _, _) h1 ⟨rfl, rfl, rfl, rfl, tv⟩ ⟨rfl, rfl, rfl, rfl, rfl, tv⟩ rfl
    rintro n ⟨x219, x220, x221⟩ h1
    rcases n with _ | n
    · exact (nsome h1).elim
    replace h1 : alloc_sharing_each_4.r0 K ((Kd.nth (.slice (.int .i64)) p3 0).length : Int) p0 p1 p3 p4 (alloc_sharing_each_4.l0 K ((Kd.nth (.slice (.int .i64)) p3 0).length : Int) p0 p1 p3 p4 n) x219 x220 x221 = some z1 := h1
    refine TC_seq ?_
    refine TC_reg ?_
    refine TL_ev env 1 rfl ⟨⟨tv, ⟨tv, tv⟩⟩, tv⟩ ?_
    refine TL_end ?_
    refine TE_go ?_
    refine TC_seq ?_
    refine TC_cond rfl (fun hb => ?_) (fun hb => ?_)
    · replace h1 := bif_t h1 hb
      refine TC_skip ?_
      refine TE_go ?_
      refine TC_seq ?_
      refine TC_blk ?_
      refine TC_seq ?_
      refine TC_reg ?_
      refine TL_ev env 2 rfl ⟨tv, ⟨tv, tv⟩⟩ ?_
      refine TL_end ?_
      refine TE_go ?_
      refine TC_seq ?_
      refine TC_reg ?_
      refine TL_ev env 6 rfl ⟨tv, ⟨tv, ⟨tv, ⟨⟨tv, tv⟩, ⟨⟨tv, tv⟩, ⟨tv, tv⟩⟩⟩⟩⟩⟩ ?_
      refine TL_end ?_
      refine TE_go ?_
      obtain ⟨z2, h2, h1⟩ := bnd h1
      refine TC_cut (α := Int × (List (Int))) (fun s => z2 = .inl s) (fun s => [(0, .p 0 0), (1, .fn 136 [.p 1 0, .p 2 0]), (12, .int .i64 ((Kd.nth (.slice (.int .i64)) p3 0).length : Int)), (13, .int .i64 x219)]) (fun s => [(0, some (.cells [.int .i64 p0, .int .i64 p1, .int .i64 s.1, .im (.slice (.slice (.int .i64))) p3, .hd 3 1])), (1, some (.cells [.p 0 0])), (2, some (.cells [.bool p4])), (3, some (.cells [.sl 4])), (4, some (.rows (.int .i64) s.2))]) ?_ ?_
      · refine TC_blk ?_
        refine TC_loop (α := Int × Int × (List (Int))) (fun n s => alloc_sharing_each_4.l1 K x219 ((Kd.nth (.slice (.int .i64)) p3 0).length : Int) (p3.length : Int) p0 p1 p3 p4 n s.1 s.2.1 s.2.2 = some z2) (fun s => [(0, .p 0 0), (1, .fn 136 [.p 1 0, .p 2 0]), (4, .int .i64 x219), (12, .int .i64 ((Kd.nth (.slice (.int .i64)) p3 0).length : Int)), (13, .int .i64 x219), (20, .int .i64 (p3.length : Int)), (21, .int .i64 s.1)]) (fun s => [(0, some (.cells [.int .i64 p0, .int .i64 p1, .int .i64 s.2.1, .im (.slice (.slice (.int .i64))) p3, .hd 3 1])), (1, some (.cells [.p 0 0])), (2, some (.cells [.bool p4])), (3, some (.cells [.sl 4])), (4, some (.rows (.int .i64) s.2.2))]) K ?_ ?_
        · exact SP_ren [] (_, _, _) h2 ⟨rfl, rfl, rfl, rfl, rfl, rfl, rfl, tv⟩ ⟨rfl, rfl, rfl, rfl, rfl, tv⟩ rfl
        rintro n ⟨x313, x314, x315⟩ h2
        rcases n with _ | n
        · exact (nsome h2).elim
        replace h2 : alloc_sharing_each_4.r1 K x219 ((Kd.nth (.slice (.int .i64)) p3 0).length : Int) (p3.length : Int) p0 p1 p3 p4 (alloc_sharing_each_4.l1 K x219 ((Kd.nth (.slice (.int .i64)) p3 0).length : Int) (p3.length : Int) p0 p1 p3 p4 n) x313 x314 x315 = some z2 := h2
        refine TC_seq ?_
        refine TC_reg ?_
        refine TL_ev env 1 rfl ⟨⟨tv, ⟨tv, tv⟩⟩, tv⟩ ?_
        refine TL_end ?_
        refine TE_go ?_
        refine TC_seq ?_
        refine TC_cond rfl (fun hb => ?_) (fun hb => ?_)
        · replace h2 := bif_t h2 hb
          refine TC_skip ?_
          refine TE_go ?_
          refine TC_seq ?_
          refine TC_blk ?_
          refine TC_seq ?_
          refine TC_reg ?_
          refine TL_ev env 2 rfl ⟨tv, ⟨tv, tv⟩⟩ ?_
          refine TL_end ?_
          refine TE_go ?_
          refine TC_seq ?_
          refine nums h2 (fun hx h2 => ?_) (fun h2 => ?_)
          · refine TC_num 21 0 hx rfl ?_
            refine TC_num 23 0 hx rfl ?_
            refine TC_num 5 0 hx rfl ?_
            refine TC_renw (A' := [(0, .p 0 0), (1, .fn 136 [.p 1 0, .p 2 0]), (4, .int .i64 _), (5, .int .i64 0), (12, .int .i64 _), (13, .int .i64 _), (20, .int .i64 _), (21, .int .i64 0)]) (L' := [(0, some (.cells [.int .i64 _, .int .i64 _, .int .i64 _, .im (.slice (.slice (.int .i64))) _, .hd 3 1])), (1, some (.cells [.p 0 0])), (2, some (.cells [.bool _])), (3, some (.cells [.sl 4])), (4, some (.rows (.int .i64) _))]) [] ⟨rfl, rfl, rfl, rfl, rfl, rfl, rfl, rfl, tv⟩ ⟨rfl, rfl, rfl, rfl, rfl, tv⟩ rfl ?_
            refine TC_drawR ⟨_, fun i => ([[], [], [1], [2, 1], [3, 2, 1], [], [5, 4, 3, 2, 1], [6, 5, 4, 3, 2, 1], [], [8, 7, 6, 5, 4, 3, 2, 1], [9, 8, 7, 6, 5, 4, 3, 2, 1], [], [11], [12, 11], [13, 12, 11], [], [15, 14, 13, 12, 11], [16, 15, 14, 13, 12, 11], [], [18, 17, 16, 15, 14, 13, 12, 11], [19, 18, 17, 16, 15, 14, 13, 12, 11, 10, 9, 8, 7, 6, 5, 4, 3, 2, 1, 0], [20, 19, 18, 17, 16, 15, 14, 13, 12, 11, 10, 9, 8, 7, 6, 5, 4, 3, 2, 1, 0]] : List (List Nat)).getD i [], fun i => ([[], [], [], [], [], [], [], [], [], [], [], [], [], [], [], [], [], [], [], [], [0, 1, 2, 3, 4], []] : List (List Nat)).getD i [], fun i => ([[], [], [], [], [], [], [], [], [], [], [], [], [], [], [], [], [], [], [], [], [], []] : List (List Nat)).getD i []⟩ (fun i => ([[], [], [], [], [], [], [], [], [], [], [], [], [], [], [], [], [], [], [], [], [], []] : List (List Nat)).getD i []) (by kernel_rfl) (by kernel_rfl) ?_
            refine AJR_ev env 1 rfl (Nat.le_of_ble_eq_true rfl) rfl tv ?_
            refine AJR_ev env 2 rfl (Nat.le_of_ble_eq_true rfl) rfl tv ?_
            refine AJR_ev env 3 rfl (Nat.le_of_ble_eq_true rfl) rfl tv ?_
            refine AJR_ev env 4 rfl (Nat.le_of_ble_eq_true rfl) rfl tv ?_
            refine AJR_ev env 5 rfl (Nat.le_of_ble_eq_true rfl) rfl ⟨tv, tv⟩ ?_
            refine AJR_ev env 6 rfl (Nat.le_of_ble_eq_true rfl) rfl tv ?_
            obtain ⟨g, h2⟩ := gd_t h2
            refine AJR_ev env 7 rfl (Nat.le_of_ble_eq_true rfl) rfl ⟨tv, ⟨tv, ⟨(by decide), g⟩⟩⟩ ?_
            refine AJR_ev env 8 rfl (Nat.le_of_ble_eq_true rfl) rfl ⟨tv, tv⟩ ?_
            refine AJR_ev env 9 rfl (Nat.le_of_ble_eq_true rfl) rfl tv ?_
            obtain ⟨g, h2⟩ := gd_t h2
            refine AJR_ev env 10 rfl (Nat.le_of_ble_eq_true rfl) rfl ⟨tv, ⟨tv, ⟨g.1, g.2⟩⟩⟩ ?_
            refine AJR_ev env 11 rfl (Nat.le_of_ble_eq_true rfl) rfl ⟨tv, tv⟩ ?_
            refine AJR_ev env 12 rfl (Nat.le_of_ble_eq_true rfl) rfl tv ?_
            refine AJR_ev env 13 rfl (Nat.le_of_ble_eq_true rfl) rfl tv ?_
            refine AJR_ev env 14 rfl (Nat.le_of_ble_eq_true rfl) rfl tv ?_
            refine AJR_ev env 15 rfl (Nat.le_of_ble_eq_true rfl) rfl ⟨tv, tv⟩ ?_
            refine AJR_ev env 16 rfl (Nat.le_of_ble_eq_true rfl) rfl tv ?_
            refine AJR_ev env 17 rfl (Nat.le_of_ble_eq_true rfl) rfl ⟨tv, ⟨tv, ⟨(by decide), (by decide)⟩⟩⟩ ?_
            refine AJR_ev env 18 rfl (Nat.le_of_ble_eq_true rfl) rfl ⟨tv, tv⟩ ?_
            refine AJR_ev env 19 rfl (Nat.le_of_ble_eq_true rfl) rfl tv ?_
            obtain ⟨g, h2⟩ := gd_t h2
            refine AJR_ev env 20 rfl (Nat.le_of_ble_eq_true rfl) rfl ⟨tv, ⟨tv, ⟨g.1, g.2⟩⟩⟩ ?_
            obtain ⟨⟨r331, r332, r333⟩, hr, h2⟩ := bnd h2
            refine AJR_call 21 rfl (Nat.le_of_ble_eq_true rfl) [(0, 4), (1, 1), (2, 2), (3, 0), (4, 3)] rfl (alloc_sharing_more_1.ok0 hr) alloc_sharing_more_1.fnb rfl ⟨tv, ⟨tv, ⟨tv, tv⟩⟩⟩ rfl ⟨.inr rfl, .inr rfl, .inr rfl, .inr rfl, .inr rfl, tv⟩ rfl ?_
            refine AJR_ev env 22 rfl (Nat.le_of_ble_eq_true rfl) rfl tv ?_
            refine AJR_end rfl rfl rfl ?_
            refine TE_go ?_
            refine TC_cond rfl (fun hb => ?_) (fun hb => ?_)
            · replace h2 := bif_t h2 hb
              refine TC_ret ?_
              refine tbr ?_
              refine tsr ?_
              refine tsr ?_
              refine tbr ?_
              refine tsr ?_
              refine tbr ?_
              refine tsr ?_
              refine tsr ?_
              refine tbr ?_
              refine tsr ?_
              obtain rfl := sinj h2
              obtain rfl := sinj h1
              obtain rfl := sinj h0
              exact TE_ret env rfl tv ⟨.inr rfl, .inr rfl, .inr rfl, .inr rfl, .inr rfl, tv⟩
            · replace h2 := bif_f h2 hb
              refine TC_skip ?_
              refine tbn ?_
              refine TE_go ?_
              refine TC_reg ?_
              refine TL_ev env 2 rfl ⟨⟨tv, ⟨tv, tv⟩⟩, ⟨tv, tv⟩⟩ ?_
              refine TL_end ?_
              refine tsn ?_
              exact TE_nextr [] n (Nat.lt_succ_self n) (_, _, _) h2 ⟨rfl, rfl, rfl, rfl, rfl, rfl, rfl, tv⟩ ⟨rfl, rfl, rfl, rfl, rfl, tv⟩ rfl
          · exact (nsome h2).elim
        · replace h2 := bif_f h2 hb
          refine TC_exit ?_
          refine tsx ?_
          refine tsx ?_
          refine tbe ?_
          obtain rfl := sinj h2
          refine tsn ?_
          exact SP_ren [] (_, _) rfl ⟨rfl, rfl, rfl, rfl, tv⟩ ⟨rfl, rfl, rfl, rfl, rfl, tv⟩ rfl
      · rintro ⟨x304, x305⟩ rfl
        refine tbn ?_
        refine TE_go ?_
        refine TC_reg ?_
        refine TL_ev env 2 rfl ⟨⟨tv, ⟨tv, tv⟩⟩, ⟨tv, tv⟩⟩ ?_
        refine TL_end ?_
        refine tsn ?_
        exact TE_nextr [] n (Nat.lt_succ_self n) (_, _, _) h1 ⟨rfl, rfl, rfl, rfl, tv⟩ ⟨rfl, rfl, rfl, rfl, rfl, tv⟩ rfl
    · replace h1 := bif_f h1 hb
      refine TC_exit ?_
      refine tsx ?_
      refine tsx ?_
      refine tbe ?_
      obtain rfl := sinj h1
      refine tsn ?_
      exact SP_ren [] (_, _) rfl tv ⟨rfl, rfl, rfl, rfl, rfl, tv⟩ rfl
  · rintro ⟨x177, x178⟩ rfl
    obtain rfl := sinj h0
    exact TE_end env rfl tv ⟨.inr rfl, .inr rfl, .inr rfl, .inr rfl, .inr rfl, tv⟩
theorem alloc_sharing_each_4.ok0 {K : Nat} {p0 : Int} {p1 : Int} {p2 : Int} {p3 : List (List (Int))} {p4 : Bool} {p5 : List (Int)} {q0 : Int} {q1 : List (Int)} (h0 : alloc_sharing_each_4 K p0 p1 p2 p3 p4 p5 = some (q0, q1)) : Fn Try.prog 104 [.p 0 0, .fn 136 [.p 1 0, .p 2 0]] [(0, some (.cells [.int .i64 p0, .int .i64 p1, .int .i64 p2, .im (.slice (.slice (.int .i64))) p3, .hd 3 1])), (1, some (.cells [.p 0 0])), (2, some (.cells [.bool p4])), (3, some (.cells [.sl 4])), (4, some (.rows (.int .i64) p5))] (.tup []) [(0, some (.cells [.int .i64 p0, .int .i64 p1, .int .i64 q0, .im (.slice (.slice (.int .i64))) p3, .hd 3 1])), (1, some (.cells [.p 0 0])), (2, some (.cells [.bool p4])), (3, some (.cells [.sl 4])), (4, some (.rows (.int .i64) q1))] := alloc_sharing_each_4.ok h0
theorem alloc_sharing_each_4.fnb : fnb Try.prog 104 = true := fnb_of Try.func104 rfl
def alloc_sharing_more.res (_p0 : Bool) (_p1 : Int) (_p2 : Int) (_p3 : Int) (_p4 : List (List (Int))) (_p5 : List (Int)) : Int × (List (Int)) → MV
  | (_, _) => .tup []
def alloc_sharing_more.out (_p0 : Bool) (p1 : Int) (p2 : Int) (_p3 : Int) (p4 : List (List (Int))) (_p5 : List (Int)) : Int × (List (Int)) → List (Nat × Option MObj)
  | (q0, q1) => [(0, some (.cells [.int .i64 p1, .int .i64 p2, .int .i64 q0, .im (.slice (.slice (.int .i64))) p4, .hd 1 1])), (1, some (.cells [.sl 2])), (2, some (.rows (.int .i64) q1))]
theorem alloc_sharing_more.ok {K : Nat} {p0 : Bool} {p1 : Int} {p2 : Int} {p3 : Int} {p4 : List (List (Int))} {p5 : List (Int)} {r : Int × (List (Int))} (h0 : alloc_sharing_more K p0 p1 p2 p3 p4 p5 = some r) : Fn Try.prog 106 [.p 0 0, .bool p0] [(0, some (.cells [.int .i64 p1, .int .i64 p2, .int .i64 p3, .im (.slice (.slice (.int .i64))) p4, .hd 1 1])), (1, some (.cells [.sl 2])), (2, some (.rows (.int .i64) p5))] (alloc_sharing_more.res p0 p1 p2 p3 p4 p5 r) (alloc_sharing_more.out p0 p1 p2 p3 p4 p5 r) := by
  refine Fn_of Try.func106 rfl (Nat.le_of_ble_eq_true rfl) fun Γ => ?_
  refine TC_seq ?_
  refine TC_reg ?_
  refine TL_ev env 2 rfl ⟨tv, ⟨tv, tv⟩⟩ ?_
  refine TL_end ?_
  refine TE_go ?_
  refine TC_reg ?_
  refine TL_ev env 2 rfl ⟨⟨tv, tv⟩, ⟨⟨tv, ⟨tv, tv⟩⟩, tv⟩⟩ ?_
  obtain ⟨⟨r3, r4⟩, hr, h0⟩ := bnd h0
  refine TL_callB [(0, 0), (1, 1002), (2, 1003), (3, 1), (4, 2)] (alloc_sharing_each_4.ok0 hr) alloc_sharing_each_4.fnb rfl ⟨tv, ⟨tv, ⟨tv, tv⟩⟩⟩ rfl ⟨.inr rfl, .inr rfl, .inr rfl, .inr rfl, .inr rfl, tv⟩ rfl ?_
  refine TL_end ?_
  obtain rfl := sinj h0
  exact TE_end env rfl tv ⟨.inr rfl, .inr rfl, .inr rfl, tv⟩
theorem alloc_sharing_more.ok0 {K : Nat} {p0 : Bool} {p1 : Int} {p2 : Int} {p3 : Int} {p4 : List (List (Int))} {p5 : List (Int)} {q0 : Int} {q1 : List (Int)} (h0 : alloc_sharing_more K p0 p1 p2 p3 p4 p5 = some (q0, q1)) : Fn Try.prog 106 [.p 0 0, .bool p0] [(0, some (.cells [.int .i64 p1, .int .i64 p2, .int .i64 p3, .im (.slice (.slice (.int .i64))) p4, .hd 1 1])), (1, some (.cells [.sl 2])), (2, some (.rows (.int .i64) p5))] (.tup []) [(0, some (.cells [.int .i64 p1, .int .i64 p2, .int .i64 q0, .im (.slice (.slice (.int .i64))) p4, .hd 1 1])), (1, some (.cells [.sl 2])), (2, some (.rows (.int .i64) q1))] := alloc_sharing_more.ok h0
theorem alloc_sharing_more.fnb : fnb Try.prog 106 = true := fnb_of Try.func106 rfl
def alloc_sharing_cut_1_2.res (_p0 : Int) (_p1 : Nat) (_p2 : List (Int)) (_p3 : Int) (_p4 : Int) (_p5 : Int) (_p6 : List (List (Int))) (_p7 : List (Int)) : Int → MV
  | _ => .bool true
def alloc_sharing_cut_1_2.out (_p0 : Int) (_p1 : Nat) (p2 : List (Int)) (p3 : Int) (_p4 : Int) (p5 : Int) (p6 : List (List (Int))) (p7 : List (Int)) : Int → List (Nat × Option MObj)
  | q0 => [(0, some (.rows (.int .i64) p2)), (1, some (.cells [.p 2 0])), (2, some (.cells [.int .i64 p3, .int .i64 q0, .int .i64 p5, .im (.slice (.slice (.int .i64))) p6, .hd 3 2])), (3, some (.cells [.sl 0, .sl 4])), (4, some (.rows (.int .i64) p7))]
theorem alloc_sharing_cut_1_2.ok {K : Nat} {p0 : Int} {p1 : Nat} {p2 : List (Int)} {p3 : Int} {p4 : Int} {p5 : Int} {p6 : List (List (Int))} {p7 : List (Int)} {r : Int} (h0 : alloc_sharing_cut_1_2 K p0 p1 p2 p3 p4 p5 p6 p7 = some r) : Fn Try.prog 134 [.int .i64 p0, .pe 0 p1 0, .p 1 0] [(0, some (.rows (.int .i64) p2)), (1, some (.cells [.p 2 0])), (2, some (.cells [.int .i64 p3, .int .i64 p4, .int .i64 p5, .im (.slice (.slice (.int .i64))) p6, .hd 3 2])), (3, some (.cells [.sl 0, .sl 4])), (4, some (.rows (.int .i64) p7))] (alloc_sharing_cut_1_2.res p0 p1 p2 p3 p4 p5 p6 p7 r) (alloc_sharing_cut_1_2.out p0 p1 p2 p3 p4 p5 p6 p7 r) := by
  refine Fn_of Try.func134 rfl (Nat.le_of_ble_eq_true rfl) fun Γ => ?_
  refine TC_seq ?_
  refine TC_reg ?_
  refine TL_ev env 1 rfl ⟨tv, tv⟩ ?_
  refine TL_end ?_
  refine TE_go ?_
  refine TC_seq ?_
  refine TC_renw (A' := [(0, .int .i64 _), (2, .p 1 0)]) (L' := [(0, some (.rows (.int .i64) _)), (1, some (.cells [.p 2 0])), (2, some (.cells [.int .i64 _, .int .i64 _, .int .i64 _, .im (.slice (.slice (.int .i64))) _, .hd 3 2])), (3, some (.cells [.sl 0, .sl 4])), (4, some (.rows (.int .i64) _))]) [] ⟨rfl, rfl, tv⟩ ⟨rfl, rfl, rfl, rfl, rfl, tv⟩ rfl ?_
  refine TC_drawR ⟨_, fun i => ([[], [], [1], [2, 1], [3, 2, 1], [], [5, 4, 3, 2, 1], [6, 5, 4, 3, 2, 1, 0], [7, 6, 5, 4, 3, 2, 1, 0], [8, 7, 6, 5, 4, 3, 2, 1, 0]] : List (List Nat)).getD i [], fun i => ([[], [], [], [], [], [], [], [], [], [2]] : List (List Nat)).getD i [], fun i => ([[], [], [], [], [], [], [], [], [], []] : List (List Nat)).getD i []⟩ (fun i => ([[], [], [], [], [], [], [], [], [], []] : List (List Nat)).getD i []) (by kernel_rfl) (by kernel_rfl) ?_
  refine AJR_ev env 1 rfl (Nat.le_of_ble_eq_true rfl) rfl ⟨tv, tv⟩ ?_
  refine AJR_ev env 2 rfl (Nat.le_of_ble_eq_true rfl) rfl ⟨tv, tv⟩ ?_
  refine AJR_ev env 3 rfl (Nat.le_of_ble_eq_true rfl) rfl tv ?_
  refine AJR_ev env 4 rfl (Nat.le_of_ble_eq_true rfl) rfl tv ?_
  refine AJR_ev env 5 rfl (Nat.le_of_ble_eq_true rfl) rfl ⟨tv, tv⟩ ?_
  refine AJR_ev env 6 rfl (Nat.le_of_ble_eq_true rfl) rfl tv ?_
  refine AJR_ev env 7 rfl (Nat.le_of_ble_eq_true rfl) rfl ⟨tv, ⟨tv, tv⟩⟩ ?_
  refine AJR_ev env 8 rfl (Nat.le_of_ble_eq_true rfl) rfl tv ?_
  refine AJR_ev env 9 rfl (Nat.le_of_ble_eq_true rfl) rfl tv ?_
  refine AJR_ev env 10 rfl (Nat.le_of_ble_eq_true rfl) rfl ⟨tv, tv⟩ ?_
  refine AJR_end rfl rfl rfl ?_
  refine TE_go ?_
  refine TC_seq ?_
  refine TC_reg ?_
  refine TL_ev env 1 rfl ⟨tv, tv⟩ ?_
  refine TL_end ?_
  refine TE_go ?_
  refine TC_ret ?_
  obtain rfl := sinj h0
  exact TE_ret env rfl tv ⟨.inr rfl, .inr rfl, .inr rfl, .inr rfl, .inr rfl, tv⟩
theorem alloc_sharing_cut_1_2.ok0 {K : Nat} {p0 : Int} {p1 : Nat} {p2 : List (Int)} {p3 : Int} {p4 : Int} {p5 : Int} {p6 : List (List (Int))} {p7 : List (Int)} {q0 : Int} (h0 : alloc_sharing_cut_1_2 K p0 p1 p2 p3 p4 p5 p6 p7 = some q0) : Fn Try.prog 134 [.int .i64 p0, .pe 0 p1 0, .p 1 0] [(0, some (.rows (.int .i64) p2)), (1, some (.cells [.p 2 0])), (2, some (.cells [.int .i64 p3, .int .i64 p4, .int .i64 p5, .im (.slice (.slice (.int .i64))) p6, .hd 3 2])), (3, some (.cells [.sl 0, .sl 4])), (4, some (.rows (.int .i64) p7))] (.bool true) [(0, some (.rows (.int .i64) p2)), (1, some (.cells [.p 2 0])), (2, some (.cells [.int .i64 p3, .int .i64 q0, .int .i64 p5, .im (.slice (.slice (.int .i64))) p6, .hd 3 2])), (3, some (.cells [.sl 0, .sl 4])), (4, some (.rows (.int .i64) p7))] := alloc_sharing_cut_1_2.ok h0
theorem alloc_sharing_cut_1_2.fnb : fnb Try.prog 134 = true := fnb_of Try.func134 rfl
def alloc_sharing_cut_1_3.res (_p0 : Int) (_p1 : Nat) (_p2 : List (Int)) (_p3 : Int) (_p4 : Int) (_p5 : Int) (_p6 : List (List (Int))) (_p7 : List (Int)) : Int → MV
  | _ => .bool true
def alloc_sharing_cut_1_3.out (_p0 : Int) (_p1 : Nat) (p2 : List (Int)) (p3 : Int) (_p4 : Int) (p5 : Int) (p6 : List (List (Int))) (p7 : List (Int)) : Int → List (Nat × Option MObj)
  | q0 => [(0, some (.rows (.int .i64) p2)), (1, some (.cells [.p 2 0])), (2, some (.cells [.int .i64 p3, .int .i64 q0, .int .i64 p5, .im (.slice (.slice (.int .i64))) p6, .hd 3 2])), (3, some (.cells [.sl 4, .sl 0])), (4, some (.rows (.int .i64) p7))]
theorem alloc_sharing_cut_1_3.ok {K : Nat} {p0 : Int} {p1 : Nat} {p2 : List (Int)} {p3 : Int} {p4 : Int} {p5 : Int} {p6 : List (List (Int))} {p7 : List (Int)} {r : Int} (h0 : alloc_sharing_cut_1_3 K p0 p1 p2 p3 p4 p5 p6 p7 = some r) : Fn Try.prog 134 [.int .i64 p0, .pe 0 p1 0, .p 1 0] [(0, some (.rows (.int .i64) p2)), (1, some (.cells [.p 2 0])), (2, some (.cells [.int .i64 p3, .int .i64 p4, .int .i64 p5, .im (.slice (.slice (.int .i64))) p6, .hd 3 2])), (3, some (.cells [.sl 4, .sl 0])), (4, some (.rows (.int .i64) p7))] (alloc_sharing_cut_1_3.res p0 p1 p2 p3 p4 p5 p6 p7 r) (alloc_sharing_cut_1_3.out p0 p1 p2 p3 p4 p5 p6 p7 r) := by
  refine Fn_of Try.func134 rfl (Nat.le_of_ble_eq_true rfl) fun Γ => ?_
  refine TC_seq ?_
  refine TC_reg ?_
  refine TL_ev env 1 rfl ⟨tv, tv⟩ ?_
  refine TL_end ?_
  refine TE_go ?_
  refine TC_seq ?_
  refine TC_renw (A' := [(0, .int .i64 _), (2, .p 1 0)]) (L' := [(0, some (.rows (.int .i64) _)), (1, some (.cells [.p 2 0])), (2, some (.cells [.int .i64 _, .int .i64 _, .int .i64 _, .im (.slice (.slice (.int .i64))) _, .hd 3 2])), (3, some (.cells [.sl 4, .sl 0])), (4, some (.rows (.int .i64) _))]) [] ⟨rfl, rfl, tv⟩ ⟨rfl, rfl, rfl, rfl, rfl, tv⟩ rfl ?_
  refine TC_drawR ⟨_, fun i => ([[], [], [1], [2, 1], [3, 2, 1], [], [5, 4, 3, 2, 1], [6, 5, 4, 3, 2, 1, 0], [7, 6, 5, 4, 3, 2, 1, 0], [8, 7, 6, 5, 4, 3, 2, 1, 0]] : List (List Nat)).getD i [], fun i => ([[], [], [], [], [], [], [], [], [], [2]] : List (List Nat)).getD i [], fun i => ([[], [], [], [], [], [], [], [], [], []] : List (List Nat)).getD i []⟩ (fun i => ([[], [], [], [], [], [], [], [], [], []] : List (List Nat)).getD i []) (by kernel_rfl) (by kernel_rfl) ?_
  refine AJR_ev env 1 rfl (Nat.le_of_ble_eq_true rfl) rfl ⟨tv, tv⟩ ?_
  refine AJR_ev env 2 rfl (Nat.le_of_ble_eq_true rfl) rfl ⟨tv, tv⟩ ?_
  refine AJR_ev env 3 rfl (Nat.le_of_ble_eq_true rfl) rfl tv ?_
  refine AJR_ev env 4 rfl (Nat.le_of_ble_eq_true rfl) rfl tv ?_
  refine AJR_ev env 5 rfl (Nat.le_of_ble_eq_true rfl) rfl ⟨tv, tv⟩ ?_
  refine AJR_ev env 6 rfl (Nat.le_of_ble_eq_true rfl) rfl tv ?_
  refine AJR_ev env 7 rfl (Nat.le_of_ble_eq_true rfl) rfl ⟨tv, ⟨tv, tv⟩⟩ ?_
  refine AJR_ev env 8 rfl (Nat.le_of_ble_eq_true rfl) rfl tv ?_
  refine AJR_ev env 9 rfl (Nat.le_of_ble_eq_true rfl) rfl tv ?_
  refine AJR_ev env 10 rfl (Nat.le_of_ble_eq_true rfl) rfl ⟨tv, tv⟩ ?_
  refine AJR_end rfl rfl rfl ?_
  refine TE_go ?_
  refine TC_seq ?_
  refine TC_reg ?_
  refine TL_ev env 1 rfl ⟨tv, tv⟩ ?_
  refine TL_end ?_
  refine TE_go ?_
  refine TC_ret ?_
  obtain rfl := sinj h0
  exact TE_ret env rfl tv ⟨.inr rfl, .inr rfl, .inr rfl, .inr rfl, .inr rfl, tv⟩
theorem alloc_sharing_cut_1_3.ok0 {K : Nat} {p0 : Int} {p1 : Nat} {p2 : List (Int)} {p3 : Int} {p4 : Int} {p5 : Int} {p6 : List (List (Int))} {p7 : List (Int)} {q0 : Int} (h0 : alloc_sharing_cut_1_3 K p0 p1 p2 p3 p4 p5 p6 p7 = some q0) : Fn Try.prog 134 [.int .i64 p0, .pe 0 p1 0, .p 1 0] [(0, some (.rows (.int .i64) p2)), (1, some (.cells [.p 2 0])), (2, some (.cells [.int .i64 p3, .int .i64 p4, .int .i64 p5, .im (.slice (.slice (.int .i64))) p6, .hd 3 2])), (3, some (.cells [.sl 4, .sl 0])), (4, some (.rows (.int .i64) p7))] (.bool true) [(0, some (.rows (.int .i64) p2)), (1, some (.cells [.p 2 0])), (2, some (.cells [.int .i64 p3, .int .i64 q0, .int .i64 p5, .im (.slice (.slice (.int .i64))) p6, .hd 3 2])), (3, some (.cells [.sl 4, .sl 0])), (4, some (.rows (.int .i64) p7))] := alloc_sharing_cut_1_3.ok h0
theorem alloc_sharing_cut_1_3.fnb : fnb Try.prog 134 = true := fnb_of Try.func134 rfl
def alloc_sharing_each_5.res (_p0 : Int) (_p1 : Int) (_p2 : Int) (_p3 : List (List (Int))) (_p4 : List (Int)) (_p5 : List (Int)) : Int → MV
  | _ => .tup []
def alloc_sharing_each_5.out (p0 : Int) (_p1 : Int) (p2 : Int) (p3 : List (List (Int))) (p4 : List (Int)) (p5 : List (Int)) : Int → List (Nat × Option MObj)
  | q0 => [(0, some (.cells [.int .i64 p0, .int .i64 q0, .int .i64 p2, .im (.slice (.slice (.int .i64))) p3, .hd 2 2])), (1, some (.cells [.p 0 0])), (2, some (.cells [.sl 3, .sl 4])), (3, some (.rows (.int .i64) p4)), (4, some (.rows (.int .i64) p5))]
theorem alloc_sharing_each_5.ok {K : Nat} {p0 : Int} {p1 : Int} {p2 : Int} {p3 : List (List (Int))} {p4 : List (Int)} {p5 : List (Int)} {r : Int} (h0 : alloc_sharing_each_5 K p0 p1 p2 p3 p4 p5 = some r) : Fn Try.prog 104 [.p 0 0, .fn 134 [.p 1 0]] [(0, some (.cells [.int .i64 p0, .int .i64 p1, .int .i64 p2, .im (.slice (.slice (.int .i64))) p3, .hd 2 2])), (1, some (.cells [.p 0 0])), (2, some (.cells [.sl 3, .sl 4])), (3, some (.rows (.int .i64) p4)), (4, some (.rows (.int .i64) p5))] (alloc_sharing_each_5.res p0 p1 p2 p3 p4 p5 r) (alloc_sharing_each_5.out p0 p1 p2 p3 p4 p5 r) := by
  refine Fn_of Try.func104 rfl (Nat.le_of_ble_eq_true rfl) fun Γ => ?_
  refine TC_seq ?_
  refine TC_reg ?_
  obtain ⟨g, h0⟩ := gd_t h0
  refine TL_ev env 8 rfl ⟨tv, ⟨tv, ⟨tv, ⟨⟨tv, tv⟩, ⟨⟨tv, ⟨tv, ⟨(by decide), g⟩⟩⟩, ⟨⟨tv, tv⟩, ⟨⟨tv, tv⟩, ⟨tv, tv⟩⟩⟩⟩⟩⟩⟩⟩ ?_
  refine TL_end ?_
  refine TE_go ?_
  obtain ⟨z1, h1, h0⟩ := bnd h0
  refine TC_cut (α := Int) (fun s => z1 = s) (fun s => []) (fun s => [(0, some (.cells [.int .i64 p0, .int .i64 s, .int .i64 p2, .im (.slice (.slice (.int .i64))) p3, .hd 2 2])), (1, some (.cells [.p 0 0])), (2, some (.cells [.sl 3, .sl 4])), (3, some (.rows (.int .i64) p4)), (4, some (.rows (.int .i64) p5))]) ?_ ?_
  · refine TC_blk ?_
    refine TC_loop (α := Int × Int) (fun n s => alloc_sharing_each_5.l0 K ((Kd.nth (.slice (.int .i64)) p3 0).length : Int) p0 p2 p3 p4 p5 n s.1 s.2 = some z1) (fun s => [(0, .p 0 0), (1, .fn 134 [.p 1 0]), (12, .int .i64 ((Kd.nth (.slice (.int .i64)) p3 0).length : Int)), (13, .int .i64 s.1)]) (fun s => [(0, some (.cells [.int .i64 p0, .int .i64 s.2, .int .i64 p2, .im (.slice (.slice (.int .i64))) p3, .hd 2 2])), (1, some (.cells [.p 0 0])), (2, some (.cells [.sl 3, .sl 4])), (3, some (.rows (.int .i64) p4)), (4, some (.rows (.int .i64) p5))]) K ?_ ?_
    · exact SP_ren [] (_, _) h1 ⟨rfl, rfl, rfl, rfl, tv⟩ ⟨rfl, rfl, rfl, rfl, rfl, tv⟩ rfl
    rintro n ⟨x123, x124⟩ h1
    rcases n with _ | n
    · exact (nsome h1).elim
    replace h1 : alloc_sharing_each_5.r0 K ((Kd.nth (.slice (.int .i64)) p3 0).length : Int) p0 p2 p3 p4 p5 (alloc_sharing_each_5.l0 K ((Kd.nth (.slice (.int .i64)) p3 0).length : Int) p0 p2 p3 p4 p5 n) x123 x124 = some z1 := h1
    refine TC_seq ?_
    refine TC_reg ?_
    refine TL_ev env 1 rfl ⟨⟨tv, ⟨tv, tv⟩⟩, tv⟩ ?_
    refine TL_end ?_
    refine TE_go ?_
    refine TC_seq ?_
    refine TC_cond rfl (fun hb => ?_) (fun hb => ?_)
    · replace h1 := bif_t h1 hb
      refine TC_skip ?_
      refine TE_go ?_
      refine TC_seq ?_
      refine TC_blk ?_
      refine TC_seq ?_
      refine TC_reg ?_
      refine TL_ev env 2 rfl ⟨tv, ⟨tv, tv⟩⟩ ?_
      refine TL_end ?_
      refine TE_go ?_
      refine TC_seq ?_
      refine TC_reg ?_
      refine TL_ev env 6 rfl ⟨tv, ⟨tv, ⟨tv, ⟨⟨tv, tv⟩, ⟨⟨tv, tv⟩, ⟨tv, tv⟩⟩⟩⟩⟩⟩ ?_
      refine TL_end ?_
      refine TE_go ?_
      obtain ⟨z2, h2, h1⟩ := bnd h1
      refine TC_cut (α := Int) (fun s => z2 = s) (fun s => [(0, .p 0 0), (1, .fn 134 [.p 1 0]), (12, .int .i64 ((Kd.nth (.slice (.int .i64)) p3 0).length : Int)), (13, .int .i64 x123)]) (fun s => [(0, some (.cells [.int .i64 p0, .int .i64 s, .int .i64 p2, .im (.slice (.slice (.int .i64))) p3, .hd 2 2])), (1, some (.cells [.p 0 0])), (2, some (.cells [.sl 3, .sl 4])), (3, some (.rows (.int .i64) p4)), (4, some (.rows (.int .i64) p5))]) ?_ ?_
      · refine TC_blk ?_
        refine TC_loop (α := Int × Int) (fun n s => alloc_sharing_each_5.l1 K x123 ((Kd.nth (.slice (.int .i64)) p3 0).length : Int) (p3.length : Int) p0 p2 p3 p4 p5 n s.1 s.2 = some z2) (fun s => [(0, .p 0 0), (1, .fn 134 [.p 1 0]), (4, .int .i64 x123), (12, .int .i64 ((Kd.nth (.slice (.int .i64)) p3 0).length : Int)), (13, .int .i64 x123), (20, .int .i64 (p3.length : Int)), (21, .int .i64 s.1)]) (fun s => [(0, some (.cells [.int .i64 p0, .int .i64 s.2, .int .i64 p2, .im (.slice (.slice (.int .i64))) p3, .hd 2 2])), (1, some (.cells [.p 0 0])), (2, some (.cells [.sl 3, .sl 4])), (3, some (.rows (.int .i64) p4)), (4, some (.rows (.int .i64) p5))]) K ?_ ?_
        · exact SP_ren [] (_, _) h2 ⟨rfl, rfl, rfl, rfl, rfl, rfl, rfl, tv⟩ ⟨rfl, rfl, rfl, rfl, rfl, tv⟩ rfl
        rintro n ⟨x175, x176⟩ h2
        rcases n with _ | n
        · exact (nsome h2).elim
        replace h2 : alloc_sharing_each_5.r1 K x123 ((Kd.nth (.slice (.int .i64)) p3 0).length : Int) (p3.length : Int) p0 p2 p3 p4 p5 (alloc_sharing_each_5.l1 K x123 ((Kd.nth (.slice (.int .i64)) p3 0).length : Int) (p3.length : Int) p0 p2 p3 p4 p5 n) x175 x176 = some z2 := h2
        refine TC_seq ?_
        refine TC_reg ?_
        refine TL_ev env 1 rfl ⟨⟨tv, ⟨tv, tv⟩⟩, tv⟩ ?_
        refine TL_end ?_
        refine TE_go ?_
        refine TC_seq ?_
        refine TC_cond rfl (fun hb => ?_) (fun hb => ?_)
        · replace h2 := bif_t h2 hb
          refine TC_skip ?_
          refine TE_go ?_
          refine TC_seq ?_
          obtain ⟨z3, h3, h2⟩ := bnd h2
          refine TC_cut (α := Int × Int) (fun s => z3 = s) (fun s => [(0, .p 0 0), (1, .fn 134 [.p 1 0]), (4, .int .i64 x123), (12, .int .i64 ((Kd.nth (.slice (.int .i64)) p3 0).length : Int)), (13, .int .i64 x123), (20, .int .i64 (p3.length : Int)), (21, .int .i64 s.1)]) (fun s => [(0, some (.cells [.int .i64 p0, .int .i64 s.2, .int .i64 p2, .im (.slice (.slice (.int .i64))) p3, .hd 2 2])), (1, some (.cells [.p 0 0])), (2, some (.cells [.sl 3, .sl 4])), (3, some (.rows (.int .i64) p4)), (4, some (.rows (.int .i64) p5))]) ?_ ?_
          · refine TC_blk ?_
            refine TC_seq ?_
            refine TC_reg ?_
            refine TL_ev env 2 rfl ⟨tv, ⟨tv, tv⟩⟩ ?_
            refine TL_end ?_
            refine TE_go ?_
            refine TC_seq ?_
            refine nums h3 (fun hx h3 => ?_) (fun h3 => ?_)
            · refine TC_num 21 0 hx rfl ?_
              refine TC_num 23 0 hx rfl ?_
              refine TC_num 5 0 hx rfl ?_
              refine TC_renw (A' := [(0, .p 0 0), (1, .fn 134 [.p 1 0]), (4, .int .i64 _), (5, .int .i64 0), (12, .int .i64 _), (13, .int .i64 _), (20, .int .i64 _), (21, .int .i64 0)]) (L' := [(0, some (.cells [.int .i64 _, .int .i64 _, .int .i64 _, .im (.slice (.slice (.int .i64))) _, .hd 2 2])), (1, some (.cells [.p 0 0])), (2, some (.cells [.sl 3, .sl 4])), (3, some (.rows (.int .i64) _)), (4, some (.rows (.int .i64) _))]) [] ⟨rfl, rfl, rfl, rfl, rfl, rfl, rfl, rfl, tv⟩ ⟨rfl, rfl, rfl, rfl, rfl, tv⟩ rfl ?_
              refine TC_drawR ⟨_, fun i => ([[], [], [1], [2, 1], [3, 2, 1], [], [5, 4, 3, 2, 1], [6, 5, 4, 3, 2, 1], [], [8, 7, 6, 5, 4, 3, 2, 1], [9, 8, 7, 6, 5, 4, 3, 2, 1], [], [11], [12, 11], [13, 12, 11], [], [15, 14, 13, 12, 11], [16, 15, 14, 13, 12, 11], [], [18, 17, 16, 15, 14, 13, 12, 11], [19, 18, 17, 16, 15, 14, 13, 12, 11, 10, 9, 8, 7, 6, 5, 4, 3, 2, 1, 0], [20, 19, 18, 17, 16, 15, 14, 13, 12, 11, 10, 9, 8, 7, 6, 5, 4, 3, 2, 1, 0]] : List (List Nat)).getD i [], fun i => ([[], [], [], [], [], [], [], [], [], [], [], [], [], [], [], [], [], [], [], [], [0, 1, 2, 3, 4], []] : List (List Nat)).getD i [], fun i => ([[], [], [], [], [], [], [], [], [], [], [], [], [], [], [], [], [], [], [], [], [], []] : List (List Nat)).getD i []⟩ (fun i => ([[], [], [], [], [], [], [], [], [], [], [], [], [], [], [], [], [], [], [], [], [], []] : List (List Nat)).getD i []) (by kernel_rfl) (by kernel_rfl) ?_
              refine AJR_ev env 1 rfl (Nat.le_of_ble_eq_true rfl) rfl tv ?_
              refine AJR_ev env 2 rfl (Nat.le_of_ble_eq_true rfl) rfl tv ?_
              refine AJR_ev env 3 rfl (Nat.le_of_ble_eq_true rfl) rfl tv ?_
              refine AJR_ev env 4 rfl (Nat.le_of_ble_eq_true rfl) rfl tv ?_
              refine AJR_ev env 5 rfl (Nat.le_of_ble_eq_true rfl) rfl ⟨tv, tv⟩ ?_
              refine AJR_ev env 6 rfl (Nat.le_of_ble_eq_true rfl) rfl tv ?_
              obtain ⟨g, h3⟩ := gd_t h3
              refine AJR_ev env 7 rfl (Nat.le_of_ble_eq_true rfl) rfl ⟨tv, ⟨tv, ⟨(by decide), g⟩⟩⟩ ?_
              refine AJR_ev env 8 rfl (Nat.le_of_ble_eq_true rfl) rfl ⟨tv, tv⟩ ?_
              refine AJR_ev env 9 rfl (Nat.le_of_ble_eq_true rfl) rfl tv ?_
              obtain ⟨g, h3⟩ := gd_t h3
              refine AJR_ev env 10 rfl (Nat.le_of_ble_eq_true rfl) rfl ⟨tv, ⟨tv, ⟨g.1, g.2⟩⟩⟩ ?_
              refine AJR_ev env 11 rfl (Nat.le_of_ble_eq_true rfl) rfl ⟨tv, tv⟩ ?_
              refine AJR_ev env 12 rfl (Nat.le_of_ble_eq_true rfl) rfl tv ?_
              refine AJR_ev env 13 rfl (Nat.le_of_ble_eq_true rfl) rfl tv ?_
              refine AJR_ev env 14 rfl (Nat.le_of_ble_eq_true rfl) rfl tv ?_
              refine AJR_ev env 15 rfl (Nat.le_of_ble_eq_true rfl) rfl ⟨tv, tv⟩ ?_
              refine AJR_ev env 16 rfl (Nat.le_of_ble_eq_true rfl) rfl tv ?_
              refine AJR_ev env 17 rfl (Nat.le_of_ble_eq_true rfl) rfl ⟨tv, ⟨tv, ⟨(by decide), (by decide)⟩⟩⟩ ?_
              refine AJR_ev env 18 rfl (Nat.le_of_ble_eq_true rfl) rfl ⟨tv, tv⟩ ?_
              refine AJR_ev env 19 rfl (Nat.le_of_ble_eq_true rfl) rfl tv ?_
              obtain ⟨g, h3⟩ := gd_t h3
              refine AJR_ev env 20 rfl (Nat.le_of_ble_eq_true rfl) rfl ⟨tv, ⟨tv, ⟨g.1, g.2⟩⟩⟩ ?_
              obtain ⟨r191, hr, h3⟩ := bnd h3
              refine AJR_call 21 rfl (Nat.le_of_ble_eq_true rfl) [(0, 3), (1, 1), (2, 0), (3, 2), (4, 4)] rfl (alloc_sharing_cut_1_2.ok0 hr) alloc_sharing_cut_1_2.fnb rfl ⟨tv, ⟨tv, ⟨tv, tv⟩⟩⟩ rfl ⟨.inr rfl, .inr rfl, .inr rfl, .inr rfl, .inr rfl, tv⟩ rfl ?_
              refine AJR_ev env 22 rfl (Nat.le_of_ble_eq_true rfl) rfl tv ?_
              refine AJR_end rfl rfl rfl ?_
              refine TE_go ?_
              refine TC_cond rfl (fun hb => ?_) (fun hb => ?_)
              · first | exact (ftf hb).elim | exact (tff hb).elim | exact absurd hb (by decide)
              · refine TC_skip ?_
                refine tbn ?_
                obtain rfl := sinj h3
                refine tsn ?_
                exact SP_ren [] (_, _) rfl ⟨rfl, rfl, rfl, rfl, rfl, rfl, rfl, tv⟩ ⟨rfl, rfl, rfl, rfl, rfl, tv⟩ rfl
            · refine nums h3 (fun hx h3 => ?_) (fun h3 => ?_)
              · refine TC_num 21 1 hx rfl ?_
                refine TC_num 23 1 hx rfl ?_
                refine TC_num 5 1 hx rfl ?_
                refine TC_renw (A' := [(0, .p 0 0), (1, .fn 134 [.p 1 0]), (4, .int .i64 _), (5, .int .i64 1), (12, .int .i64 _), (13, .int .i64 _), (20, .int .i64 _), (21, .int .i64 1)]) (L' := [(0, some (.cells [.int .i64 _, .int .i64 _, .int .i64 _, .im (.slice (.slice (.int .i64))) _, .hd 2 2])), (1, some (.cells [.p 0 0])), (2, some (.cells [.sl 3, .sl 4])), (3, some (.rows (.int .i64) _)), (4, some (.rows (.int .i64) _))]) [] ⟨rfl, rfl, rfl, rfl, rfl, rfl, rfl, rfl, tv⟩ ⟨rfl, rfl, rfl, rfl, rfl, tv⟩ rfl ?_
                refine TC_drawR ⟨_, fun i => ([[], [], [1], [2, 1], [3, 2, 1], [], [5, 4, 3, 2, 1], [6, 5, 4, 3, 2, 1], [], [8, 7, 6, 5, 4, 3, 2, 1], [9, 8, 7, 6, 5, 4, 3, 2, 1], [], [11], [12, 11], [13, 12, 11], [], [15, 14, 13, 12, 11], [16, 15, 14, 13, 12, 11], [], [18, 17, 16, 15, 14, 13, 12, 11], [19, 18, 17, 16, 15, 14, 13, 12, 11, 10, 9, 8, 7, 6, 5, 4, 3, 2, 1, 0], [20, 19, 18, 17, 16, 15, 14, 13, 12, 11, 10, 9, 8, 7, 6, 5, 4, 3, 2, 1, 0]] : List (List Nat)).getD i [], fun i => ([[], [], [], [], [], [], [], [], [], [], [], [], [], [], [], [], [], [], [], [], [0, 1, 2, 3, 4], []] : List (List Nat)).getD i [], fun i => ([[], [], [], [], [], [], [], [], [], [], [], [], [], [], [], [], [], [], [], [], [], []] : List (List Nat)).getD i []⟩ (fun i => ([[], [], [], [], [], [], [], [], [], [], [], [], [], [], [], [], [], [], [], [], [], []] : List (List Nat)).getD i []) (by kernel_rfl) (by kernel_rfl) ?_
                refine AJR_ev env 1 rfl (Nat.le_of_ble_eq_true rfl) rfl tv ?_
                refine AJR_ev env 2 rfl (Nat.le_of_ble_eq_true rfl) rfl tv ?_
                refine AJR_ev env 3 rfl (Nat.le_of_ble_eq_true rfl) rfl tv ?_
                refine AJR_ev env 4 rfl (Nat.le_of_ble_eq_true rfl) rfl tv ?_
                refine AJR_ev env 5 rfl (Nat.le_of_ble_eq_true rfl) rfl ⟨tv, tv⟩ ?_
                refine AJR_ev env 6 rfl (Nat.le_of_ble_eq_true rfl) rfl tv ?_
                obtain ⟨g, h3⟩ := gd_t h3
                refine AJR_ev env 7 rfl (Nat.le_of_ble_eq_true rfl) rfl ⟨tv, ⟨tv, ⟨(by decide), g⟩⟩⟩ ?_
                refine AJR_ev env 8 rfl (Nat.le_of_ble_eq_true rfl) rfl ⟨tv, tv⟩ ?_
                refine AJR_ev env 9 rfl (Nat.le_of_ble_eq_true rfl) rfl tv ?_
                obtain ⟨g, h3⟩ := gd_t h3
                refine AJR_ev env 10 rfl (Nat.le_of_ble_eq_true rfl) rfl ⟨tv, ⟨tv, ⟨g.1, g.2⟩⟩⟩ ?_
                refine AJR_ev env 11 rfl (Nat.le_of_ble_eq_true rfl) rfl ⟨tv, tv⟩ ?_
                refine AJR_ev env 12 rfl (Nat.le_of_ble_eq_true rfl) rfl tv ?_
                refine AJR_ev env 13 rfl (Nat.le_of_ble_eq_true rfl) rfl tv ?_
                refine AJR_ev env 14 rfl (Nat.le_of_ble_eq_true rfl) rfl tv ?_
                refine AJR_ev env 15 rfl (Nat.le_of_ble_eq_true rfl) rfl ⟨tv, tv⟩ ?_
                refine AJR_ev env 16 rfl (Nat.le_of_ble_eq_true rfl) rfl tv ?_
                refine AJR_ev env 17 rfl (Nat.le_of_ble_eq_true rfl) rfl ⟨tv, ⟨tv, ⟨(by decide), (by decide)⟩⟩⟩ ?_
                refine AJR_ev env 18 rfl (Nat.le_of_ble_eq_true rfl) rfl ⟨tv, tv⟩ ?_
                refine AJR_ev env 19 rfl (Nat.le_of_ble_eq_true rfl) rfl tv ?_
                obtain ⟨g, h3⟩ := gd_t h3
                refine AJR_ev env 20 rfl (Nat.le_of_ble_eq_true rfl) rfl ⟨tv, ⟨tv, ⟨g.1, g.2⟩⟩⟩ ?_
                obtain ⟨r194, hr, h3⟩ := bnd h3
                refine AJR_call 21 rfl (Nat.le_of_ble_eq_true rfl) [(0, 4), (1, 1), (2, 0), (3, 2), (4, 3)] rfl (alloc_sharing_cut_1_3.ok0 hr) alloc_sharing_cut_1_3.fnb rfl ⟨tv, ⟨tv, ⟨tv, tv⟩⟩⟩ rfl ⟨.inr rfl, .inr rfl, .inr rfl, .inr rfl, .inr rfl, tv⟩ rfl ?_
                refine AJR_ev env 22 rfl (Nat.le_of_ble_eq_true rfl) rfl tv ?_
                refine AJR_end rfl rfl rfl ?_
                refine TE_go ?_
                refine TC_cond rfl (fun hb => ?_) (fun hb => ?_)
                · first | exact (ftf hb).elim | exact (tff hb).elim | exact absurd hb (by decide)
                · refine TC_skip ?_
                  refine tbn ?_
                  obtain rfl := sinj h3
                  refine tsn ?_
                  exact SP_ren [] (_, _) rfl ⟨rfl, rfl, rfl, rfl, rfl, rfl, rfl, tv⟩ ⟨rfl, rfl, rfl, rfl, rfl, tv⟩ rfl
              · exact (nsome h3).elim
          · rintro ⟨x186, x187⟩ rfl
            refine TE_go ?_
            refine TC_reg ?_
            refine TL_ev env 2 rfl ⟨⟨tv, ⟨tv, tv⟩⟩, ⟨tv, tv⟩⟩ ?_
            refine TL_end ?_
            refine tsn ?_
            exact TE_nextr [] n (Nat.lt_succ_self n) (_, _) h2 ⟨rfl, rfl, rfl, rfl, rfl, rfl, rfl, tv⟩ ⟨rfl, rfl, rfl, rfl, rfl, tv⟩ rfl
        · replace h2 := bif_f h2 hb
          refine TC_exit ?_
          refine tsx ?_
          refine tsx ?_
          refine tbe ?_
          obtain rfl := sinj h2
          refine tsn ?_
          exact SP_ren [] _ rfl ⟨rfl, rfl, rfl, rfl, tv⟩ ⟨rfl, rfl, rfl, rfl, rfl, tv⟩ rfl
      · rintro x171 hz
        obtain rfl := hz.symm
        refine tbn ?_
        refine TE_go ?_
        refine TC_reg ?_
        refine TL_ev env 2 rfl ⟨⟨tv, ⟨tv, tv⟩⟩, ⟨tv, tv⟩⟩ ?_
        refine TL_end ?_
        refine tsn ?_
        exact TE_nextr [] n (Nat.lt_succ_self n) (_, _) h1 ⟨rfl, rfl, rfl, rfl, tv⟩ ⟨rfl, rfl, rfl, rfl, rfl, tv⟩ rfl
    · replace h1 := bif_f h1 hb
      refine TC_exit ?_
      refine tsx ?_
      refine tsx ?_
      refine tbe ?_
      obtain rfl := sinj h1
      refine tsn ?_
      exact SP_ren [] _ rfl tv ⟨rfl, rfl, rfl, rfl, rfl, tv⟩ rfl
  · rintro x100 hz
    obtain rfl := hz.symm
    obtain rfl := sinj h0
    exact TE_end env rfl tv ⟨.inr rfl, .inr rfl, .inr rfl, .inr rfl, .inr rfl, tv⟩
theorem alloc_sharing_each_5.ok0 {K : Nat} {p0 : Int} {p1 : Int} {p2 : Int} {p3 : List (List (Int))} {p4 : List (Int)} {p5 : List (Int)} {q0 : Int} (h0 : alloc_sharing_each_5 K p0 p1 p2 p3 p4 p5 = some q0) : Fn Try.prog 104 [.p 0 0, .fn 134 [.p 1 0]] [(0, some (.cells [.int .i64 p0, .int .i64 p1, .int .i64 p2, .im (.slice (.slice (.int .i64))) p3, .hd 2 2])), (1, some (.cells [.p 0 0])), (2, some (.cells [.sl 3, .sl 4])), (3, some (.rows (.int .i64) p4)), (4, some (.rows (.int .i64) p5))] (.tup []) [(0, some (.cells [.int .i64 p0, .int .i64 q0, .int .i64 p2, .im (.slice (.slice (.int .i64))) p3, .hd 2 2])), (1, some (.cells [.p 0 0])), (2, some (.cells [.sl 3, .sl 4])), (3, some (.rows (.int .i64) p4)), (4, some (.rows (.int .i64) p5))] := alloc_sharing_each_5.ok h0
theorem alloc_sharing_each_5.fnb : fnb Try.prog 104 = true := fnb_of Try.func104 rfl
def alloc_sharing_costs_1_2.res (_p0 : Int) (_p1 : Nat) (_p2 : List (Int)) (_p3 : Int) (_p4 : Int) (_p5 : Int) (_p6 : Int) (_p7 : List (List (Int))) (_p8 : List (Int)) : Int → MV
  | _ => .bool true
def alloc_sharing_costs_1_2.out (_p0 : Int) (_p1 : Nat) (p2 : List (Int)) (_p3 : Int) (p4 : Int) (p5 : Int) (p6 : Int) (p7 : List (List (Int))) (p8 : List (Int)) : Int → List (Nat × Option MObj)
  | q0 => [(0, some (.rows (.int .i64) p2)), (1, some (.cells [.p 3 0])), (2, some (.cells [.int .i64 q0])), (3, some (.cells [.int .i64 p4, .int .i64 p5, .int .i64 p6, .im (.slice (.slice (.int .i64))) p7, .hd 4 2])), (4, some (.cells [.sl 0, .sl 5])), (5, some (.rows (.int .i64) p8))]
theorem alloc_sharing_costs_1_2.ok {K : Nat} {p0 : Int} {p1 : Nat} {p2 : List (Int)} {p3 : Int} {p4 : Int} {p5 : Int} {p6 : Int} {p7 : List (List (Int))} {p8 : List (Int)} {r : Int} (h0 : alloc_sharing_costs_1_2 K p0 p1 p2 p3 p4 p5 p6 p7 p8 = some r) : Fn Try.prog 160 [.int .i64 p0, .pe 0 p1 0, .p 1 0, .p 2 0] [(0, some (.rows (.int .i64) p2)), (1, some (.cells [.p 3 0])), (2, some (.cells [.int .i64 p3])), (3, some (.cells [.int .i64 p4, .int .i64 p5, .int .i64 p6, .im (.slice (.slice (.int .i64))) p7, .hd 4 2])), (4, some (.cells [.sl 0, .sl 5])), (5, some (.rows (.int .i64) p8))] (alloc_sharing_costs_1_2.res p0 p1 p2 p3 p4 p5 p6 p7 p8 r) (alloc_sharing_costs_1_2.out p0 p1 p2 p3 p4 p5 p6 p7 p8 r) := by
  refine Fn_of Try.func160 rfl (Nat.le_of_ble_eq_true rfl) fun Γ => ?_
  refine TC_seq ?_
  refine TC_reg ?_
  refine TL_ev env 1 rfl ⟨tv, tv⟩ ?_
  refine TL_end ?_
  refine TE_go ?_
  refine TC_seq ?_
  refine TC_seq ?_
  refine TC_reg ?_
  refine TL_ev env 7 rfl ⟨tv, ⟨⟨tv, tv⟩, ⟨tv, ⟨tv, ⟨⟨tv, tv⟩, ⟨⟨tv, ⟨tv, tv⟩⟩, ⟨tv, tv⟩⟩⟩⟩⟩⟩⟩ ?_
  refine TL_end ?_
  refine TE_go ?_
  obtain ⟨z1, h1, h0⟩ := bnd h0
  refine TC_cut (α := Int) (fun s => z1 = s) (fun s => []) (fun s => [(0, some (.rows (.int .i64) p2)), (1, some (.cells [.p 3 0])), (2, some (.cells [.int .i64 s])), (3, some (.cells [.int .i64 p4, .int .i64 p5, .int .i64 p6, .im (.slice (.slice (.int .i64))) p7, .hd 4 2])), (4, some (.cells [.sl 0, .sl 5])), (5, some (.rows (.int .i64) p8))]) ?_ ?_
  · refine TC_blk ?_
    refine TC_seq ?_
    refine TC_reg ?_
    refine TL_ev env 3 rfl ⟨tv, ⟨⟨tv, ⟨tv, tv⟩⟩, ⟨tv, tv⟩⟩⟩ ?_
    refine TL_end ?_
    refine TE_go ?_
    refine TC_cond rfl (fun hb => ?_) (fun hb => ?_)
    · replace h1 := bif_t h1 hb
      refine TC_reg ?_
      refine TL_ev env 3 rfl ⟨⟨tv, tv⟩, ⟨⟨tv, ⟨tv, tv⟩⟩, ⟨⟨tv, tv⟩, tv⟩⟩⟩ ?_
      refine TL_end ?_
      refine tbn ?_
      obtain rfl := sinj h1
      refine tsn ?_
      exact SP_ren [] _ rfl tv ⟨rfl, rfl, rfl, rfl, rfl, rfl, tv⟩ rfl
    · replace h1 := bif_f h1 hb
      refine TC_seq ?_
      refine TC_reg ?_
      refine TL_ev env 7 rfl ⟨tv, ⟨⟨tv, ⟨tv, tv⟩⟩, ⟨tv, ⟨fun eg => tv, ⟨fun eg => ⟨fun e => e, ⟨tv, tv⟩⟩, ⟨⟨tv, ⟨fun e => e, tv⟩⟩, ⟨tv, tv⟩⟩⟩⟩⟩⟩⟩ ?_
      refine TL_end ?_
      refine TE_go ?_
      refine TC_cond rfl (fun hb => ?_) (fun hb => ?_)
      · replace h1 := bif_t h1 hb
        refine TC_reg ?_
        refine TL_ev env 3 rfl ⟨⟨tv, tv⟩, ⟨⟨tv, ⟨tv, tv⟩⟩, ⟨⟨tv, tv⟩, tv⟩⟩⟩ ?_
        refine TL_end ?_
        refine tbn ?_
        obtain rfl := sinj h1
        refine tsn ?_
        exact SP_ren [] _ rfl tv ⟨rfl, rfl, rfl, rfl, rfl, rfl, tv⟩ rfl
      · replace h1 := bif_f h1 hb
        refine TC_skip ?_
        refine tbn ?_
        obtain rfl := sinj h1
        refine tsn ?_
        exact SP_ren [] _ rfl tv ⟨rfl, rfl, rfl, rfl, rfl, rfl, tv⟩ rfl
  · rintro x3 hz
    obtain rfl := hz.symm
    refine TE_go ?_
    refine TC_seq ?_
    refine TC_reg ?_
    refine TL_ev env 1 rfl ⟨tv, tv⟩ ?_
    refine TL_end ?_
    refine TE_go ?_
    refine TC_ret ?_
    obtain rfl := sinj h0
    exact TE_ret env rfl tv ⟨.inr rfl, .inr rfl, .inr rfl, .inr rfl, .inr rfl, .inr rfl, tv⟩
theorem alloc_sharing_costs_1_2.ok0 {K : Nat} {p0 : Int} {p1 : Nat} {p2 : List (Int)} {p3 : Int} {p4 : Int} {p5 : Int} {p6 : Int} {p7 : List (List (Int))} {p8 : List (Int)} {q0 : Int} (h0 : alloc_sharing_costs_1_2 K p0 p1 p2 p3 p4 p5 p6 p7 p8 = some q0) : Fn Try.prog 160 [.int .i64 p0, .pe 0 p1 0, .p 1 0, .p 2 0] [(0, some (.rows (.int .i64) p2)), (1, some (.cells [.p 3 0])), (2, some (.cells [.int .i64 p3])), (3, some (.cells [.int .i64 p4, .int .i64 p5, .int .i64 p6, .im (.slice (.slice (.int .i64))) p7, .hd 4 2])), (4, some (.cells [.sl 0, .sl 5])), (5, some (.rows (.int .i64) p8))] (.bool true) [(0, some (.rows (.int .i64) p2)), (1, some (.cells [.p 3 0])), (2, some (.cells [.int .i64 q0])), (3, some (.cells [.int .i64 p4, .int .i64 p5, .int .i64 p6, .im (.slice (.slice (.int .i64))) p7, .hd 4 2])), (4, some (.cells [.sl 0, .sl 5])), (5, some (.rows (.int .i64) p8))] := alloc_sharing_costs_1_2.ok h0
theorem alloc_sharing_costs_1_2.fnb : fnb Try.prog 160 = true := fnb_of Try.func160 rfl
def alloc_sharing_costs_1_3.res (_p0 : Int) (_p1 : Nat) (_p2 : List (Int)) (_p3 : Int) (_p4 : Int) (_p5 : Int) (_p6 : Int) (_p7 : List (List (Int))) (_p8 : List (Int)) : Int → MV
  | _ => .bool true
def alloc_sharing_costs_1_3.out (_p0 : Int) (_p1 : Nat) (p2 : List (Int)) (_p3 : Int) (p4 : Int) (p5 : Int) (p6 : Int) (p7 : List (List (Int))) (p8 : List (Int)) : Int → List (Nat × Option MObj)
  | q0 => [(0, some (.rows (.int .i64) p2)), (1, some (.cells [.p 3 0])), (2, some (.cells [.int .i64 q0])), (3, some (.cells [.int .i64 p4, .int .i64 p5, .int .i64 p6, .im (.slice (.slice (.int .i64))) p7, .hd 4 2])), (4, some (.cells [.sl 5, .sl 0])), (5, some (.rows (.int .i64) p8))]
theorem alloc_sharing_costs_1_3.ok {K : Nat} {p0 : Int} {p1 : Nat} {p2 : List (Int)} {p3 : Int} {p4 : Int} {p5 : Int} {p6 : Int} {p7 : List (List (Int))} {p8 : List (Int)} {r : Int} (h0 : alloc_sharing_costs_1_3 K p0 p1 p2 p3 p4 p5 p6 p7 p8 = some r) : Fn Try.prog 160 [.int .i64 p0, .pe 0 p1 0, .p 1 0, .p 2 0] [(0, some (.rows (.int .i64) p2)), (1, some (.cells [.p 3 0])), (2, some (.cells [.int .i64 p3])), (3, some (.cells [.int .i64 p4, .int .i64 p5, .int .i64 p6, .im (.slice (.slice (.int .i64))) p7, .hd 4 2])), (4, some (.cells [.sl 5, .sl 0])), (5, some (.rows (.int .i64) p8))] (alloc_sharing_costs_1_3.res p0 p1 p2 p3 p4 p5 p6 p7 p8 r) (alloc_sharing_costs_1_3.out p0 p1 p2 p3 p4 p5 p6 p7 p8 r) := by
  refine Fn_of Try.func160 rfl (Nat.le_of_ble_eq_true rfl) fun Γ => ?_
  refine TC_seq ?_
  refine TC_reg ?_
  refine TL_ev env 1 rfl ⟨tv, tv⟩ ?_
  refine TL_end ?_
  refine TE_go ?_
  refine TC_seq ?_
  refine TC_seq ?_
  refine TC_reg ?_
  refine TL_ev env 7 rfl ⟨tv, ⟨⟨tv, tv⟩, ⟨tv, ⟨tv, ⟨⟨tv, tv⟩, ⟨⟨tv, ⟨tv, tv⟩⟩, ⟨tv, tv⟩⟩⟩⟩⟩⟩⟩ ?_
  refine TL_end ?_
  refine TE_go ?_
  obtain ⟨z1, h1, h0⟩ := bnd h0
  refine TC_cut (α := Int) (fun s => z1 = s) (fun s => []) (fun s => [(0, some (.rows (.int .i64) p2)), (1, some (.cells [.p 3 0])), (2, some (.cells [.int .i64 s])), (3, some (.cells [.int .i64 p4, .int .i64 p5, .int .i64 p6, .im (.slice (.slice (.int .i64))) p7, .hd 4 2])), (4, some (.cells [.sl 5, .sl 0])), (5, some (.rows (.int .i64) p8))]) ?_ ?_
  · refine TC_blk ?_
    refine TC_seq ?_
    refine TC_reg ?_
    refine TL_ev env 3 rfl ⟨tv, ⟨⟨tv, ⟨tv, tv⟩⟩, ⟨tv, tv⟩⟩⟩ ?_
    refine TL_end ?_
    refine TE_go ?_
    refine TC_cond rfl (fun hb => ?_) (fun hb => ?_)
    · replace h1 := bif_t h1 hb
      refine TC_reg ?_
      refine TL_ev env 3 rfl ⟨⟨tv, tv⟩, ⟨⟨tv, ⟨tv, tv⟩⟩, ⟨⟨tv, tv⟩, tv⟩⟩⟩ ?_
      refine TL_end ?_
      refine tbn ?_
      obtain rfl := sinj h1
      refine tsn ?_
      exact SP_ren [] _ rfl tv ⟨rfl, rfl, rfl, rfl, rfl, rfl, tv⟩ rfl
    · replace h1 := bif_f h1 hb
      refine TC_seq ?_
      refine TC_reg ?_
      refine TL_ev env 7 rfl ⟨tv, ⟨⟨tv, ⟨tv, tv⟩⟩, ⟨tv, ⟨fun eg => tv, ⟨fun eg => ⟨fun e => e, ⟨tv, tv⟩⟩, ⟨⟨tv, ⟨fun e => e, tv⟩⟩, ⟨tv, tv⟩⟩⟩⟩⟩⟩⟩ ?_
      refine TL_end ?_
      refine TE_go ?_
      refine TC_cond rfl (fun hb => ?_) (fun hb => ?_)
      · replace h1 := bif_t h1 hb
        refine TC_reg ?_
        refine TL_ev env 3 rfl ⟨⟨tv, tv⟩, ⟨⟨tv, ⟨tv, tv⟩⟩, ⟨⟨tv, tv⟩, tv⟩⟩⟩ ?_
        refine TL_end ?_
        refine tbn ?_
        obtain rfl := sinj h1
        refine tsn ?_
        exact SP_ren [] _ rfl tv ⟨rfl, rfl, rfl, rfl, rfl, rfl, tv⟩ rfl
      · replace h1 := bif_f h1 hb
        refine TC_skip ?_
        refine tbn ?_
        obtain rfl := sinj h1
        refine tsn ?_
        exact SP_ren [] _ rfl tv ⟨rfl, rfl, rfl, rfl, rfl, rfl, tv⟩ rfl
  · rintro x3 hz
    obtain rfl := hz.symm
    refine TE_go ?_
    refine TC_seq ?_
    refine TC_reg ?_
    refine TL_ev env 1 rfl ⟨tv, tv⟩ ?_
    refine TL_end ?_
    refine TE_go ?_
    refine TC_ret ?_
    obtain rfl := sinj h0
    exact TE_ret env rfl tv ⟨.inr rfl, .inr rfl, .inr rfl, .inr rfl, .inr rfl, .inr rfl, tv⟩
theorem alloc_sharing_costs_1_3.ok0 {K : Nat} {p0 : Int} {p1 : Nat} {p2 : List (Int)} {p3 : Int} {p4 : Int} {p5 : Int} {p6 : Int} {p7 : List (List (Int))} {p8 : List (Int)} {q0 : Int} (h0 : alloc_sharing_costs_1_3 K p0 p1 p2 p3 p4 p5 p6 p7 p8 = some q0) : Fn Try.prog 160 [.int .i64 p0, .pe 0 p1 0, .p 1 0, .p 2 0] [(0, some (.rows (.int .i64) p2)), (1, some (.cells [.p 3 0])), (2, some (.cells [.int .i64 p3])), (3, some (.cells [.int .i64 p4, .int .i64 p5, .int .i64 p6, .im (.slice (.slice (.int .i64))) p7, .hd 4 2])), (4, some (.cells [.sl 5, .sl 0])), (5, some (.rows (.int .i64) p8))] (.bool true) [(0, some (.rows (.int .i64) p2)), (1, some (.cells [.p 3 0])), (2, some (.cells [.int .i64 q0])), (3, some (.cells [.int .i64 p4, .int .i64 p5, .int .i64 p6, .im (.slice (.slice (.int .i64))) p7, .hd 4 2])), (4, some (.cells [.sl 5, .sl 0])), (5, some (.rows (.int .i64) p8))] := alloc_sharing_costs_1_3.ok h0
theorem alloc_sharing_costs_1_3.fnb : fnb Try.prog 160 = true := fnb_of Try.func160 rfl
def alloc_sharing_each_6.res (_p0 : Int) (_p1 : Int) (_p2 : Int) (_p3 : List (List (Int))) (_p4 : Int) (_p5 : List (Int)) (_p6 : List (Int)) : Int → MV
  | _ => .tup []
def alloc_sharing_each_6.out (p0 : Int) (p1 : Int) (p2 : Int) (p3 : List (List (Int))) (_p4 : Int) (p5 : List (Int)) (p6 : List (Int)) : Int → List (Nat × Option MObj)
  | q0 => [(0, some (.cells [.int .i64 p0, .int .i64 p1, .int .i64 p2, .im (.slice (.slice (.int .i64))) p3, .hd 3 2])), (1, some (.cells [.p 0 0])), (2, some (.cells [.int .i64 q0])), (3, some (.cells [.sl 4, .sl 5])), (4, some (.rows (.int .i64) p5)), (5, some (.rows (.int .i64) p6))]
theorem alloc_sharing_each_6.ok {K : Nat} {p0 : Int} {p1 : Int} {p2 : Int} {p3 : List (List (Int))} {p4 : Int} {p5 : List (Int)} {p6 : List (Int)} {r : Int} (h0 : alloc_sharing_each_6 K p0 p1 p2 p3 p4 p5 p6 = some r) : Fn Try.prog 104 [.p 0 0, .fn 160 [.p 1 0, .p 2 0]] [(0, some (.cells [.int .i64 p0, .int .i64 p1, .int .i64 p2, .im (.slice (.slice (.int .i64))) p3, .hd 3 2])), (1, some (.cells [.p 0 0])), (2, some (.cells [.int .i64 p4])), (3, some (.cells [.sl 4, .sl 5])), (4, some (.rows (.int .i64) p5)), (5, some (.rows (.int .i64) p6))] (alloc_sharing_each_6.res p0 p1 p2 p3 p4 p5 p6 r) (alloc_sharing_each_6.out p0 p1 p2 p3 p4 p5 p6 r) := by
  refine Fn_of Try.func104 rfl (Nat.le_of_ble_eq_true rfl) fun Γ => ?_
  refine TC_seq ?_
  refine TC_reg ?_
  obtain ⟨g, h0⟩ := gd_t h0
  refine TL_ev env 8 rfl ⟨tv, ⟨tv, ⟨tv, ⟨⟨tv, tv⟩, ⟨⟨tv, ⟨tv, ⟨(by decide), g⟩⟩⟩, ⟨⟨tv, tv⟩, ⟨⟨tv, tv⟩, ⟨tv, tv⟩⟩⟩⟩⟩⟩⟩⟩ ?_
  refine TL_end ?_
  refine TE_go ?_
  obtain ⟨z1, h1, h0⟩ := bnd h0
  refine TC_cut (α := Int) (fun s => z1 = s) (fun s => []) (fun s => [(0, some (.cells [.int .i64 p0, .int .i64 p1, .int .i64 p2, .im (.slice (.slice (.int .i64))) p3, .hd 3 2])), (1, some (.cells [.p 0 0])), (2, some (.cells [.int .i64 s])), (3, some (.cells [.sl 4, .sl 5])), (4, some (.rows (.int .i64) p5)), (5, some (.rows (.int .i64) p6))]) ?_ ?_
  · refine TC_blk ?_
    refine TC_loop (α := Int × Int) (fun n s => alloc_sharing_each_6.l0 K ((Kd.nth (.slice (.int .i64)) p3 0).length : Int) p0 p1 p2 p3 p5 p6 n s.1 s.2 = some z1) (fun s => [(0, .p 0 0), (1, .fn 160 [.p 1 0, .p 2 0]), (12, .int .i64 ((Kd.nth (.slice (.int .i64)) p3 0).length : Int)), (13, .int .i64 s.1)]) (fun s => [(0, some (.cells [.int .i64 p0, .int .i64 p1, .int .i64 p2, .im (.slice (.slice (.int .i64))) p3, .hd 3 2])), (1, some (.cells [.p 0 0])), (2, some (.cells [.int .i64 s.2])), (3, some (.cells [.sl 4, .sl 5])), (4, some (.rows (.int .i64) p5)), (5, some (.rows (.int .i64) p6))]) K ?_ ?_
    · exact SP_ren [] (_, _) h1 ⟨rfl, rfl, rfl, rfl, tv⟩ ⟨rfl, rfl, rfl, rfl, rfl, rfl, tv⟩ rfl
    rintro n ⟨x123, x124⟩ h1
    rcases n with _ | n
    · exact (nsome h1).elim
    replace h1 : alloc_sharing_each_6.r0 K ((Kd.nth (.slice (.int .i64)) p3 0).length : Int) p0 p1 p2 p3 p5 p6 (alloc_sharing_each_6.l0 K ((Kd.nth (.slice (.int .i64)) p3 0).length : Int) p0 p1 p2 p3 p5 p6 n) x123 x124 = some z1 := h1
    refine TC_seq ?_
    refine TC_reg ?_
    refine TL_ev env 1 rfl ⟨⟨tv, ⟨tv, tv⟩⟩, tv⟩ ?_
    refine TL_end ?_
    refine TE_go ?_
    refine TC_seq ?_
    refine TC_cond rfl (fun hb => ?_) (fun hb => ?_)
    · replace h1 := bif_t h1 hb
      refine TC_skip ?_
      refine TE_go ?_
      refine TC_seq ?_
      refine TC_blk ?_
      refine TC_seq ?_
      refine TC_reg ?_
      refine TL_ev env 2 rfl ⟨tv, ⟨tv, tv⟩⟩ ?_
      refine TL_end ?_
      refine TE_go ?_
      refine TC_seq ?_
      refine TC_reg ?_
      refine TL_ev env 6 rfl ⟨tv, ⟨tv, ⟨tv, ⟨⟨tv, tv⟩, ⟨⟨tv, tv⟩, ⟨tv, tv⟩⟩⟩⟩⟩⟩ ?_
      refine TL_end ?_
      refine TE_go ?_
      obtain ⟨z2, h2, h1⟩ := bnd h1
      refine TC_cut (α := Int) (fun s => z2 = s) (fun s => [(0, .p 0 0), (1, .fn 160 [.p 1 0, .p 2 0]), (12, .int .i64 ((Kd.nth (.slice (.int .i64)) p3 0).length : Int)), (13, .int .i64 x123)]) (fun s => [(0, some (.cells [.int .i64 p0, .int .i64 p1, .int .i64 p2, .im (.slice (.slice (.int .i64))) p3, .hd 3 2])), (1, some (.cells [.p 0 0])), (2, some (.cells [.int .i64 s])), (3, some (.cells [.sl 4, .sl 5])), (4, some (.rows (.int .i64) p5)), (5, some (.rows (.int .i64) p6))]) ?_ ?_
      · refine TC_blk ?_
        refine TC_loop (α := Int × Int) (fun n s => alloc_sharing_each_6.l1 K x123 ((Kd.nth (.slice (.int .i64)) p3 0).length : Int) (p3.length : Int) p0 p1 p2 p3 p5 p6 n s.1 s.2 = some z2) (fun s => [(0, .p 0 0), (1, .fn 160 [.p 1 0, .p 2 0]), (4, .int .i64 x123), (12, .int .i64 ((Kd.nth (.slice (.int .i64)) p3 0).length : Int)), (13, .int .i64 x123), (20, .int .i64 (p3.length : Int)), (21, .int .i64 s.1)]) (fun s => [(0, some (.cells [.int .i64 p0, .int .i64 p1, .int .i64 p2, .im (.slice (.slice (.int .i64))) p3, .hd 3 2])), (1, some (.cells [.p 0 0])), (2, some (.cells [.int .i64 s.2])), (3, some (.cells [.sl 4, .sl 5])), (4, some (.rows (.int .i64) p5)), (5, some (.rows (.int .i64) p6))]) K ?_ ?_
        · exact SP_ren [] (_, _) h2 ⟨rfl, rfl, rfl, rfl, rfl, rfl, rfl, tv⟩ ⟨rfl, rfl, rfl, rfl, rfl, rfl, tv⟩ rfl
        rintro n ⟨x175, x176⟩ h2
        rcases n with _ | n
        · exact (nsome h2).elim
        replace h2 : alloc_sharing_each_6.r1 K x123 ((Kd.nth (.slice (.int .i64)) p3 0).length : Int) (p3.length : Int) p0 p1 p2 p3 p5 p6 (alloc_sharing_each_6.l1 K x123 ((Kd.nth (.slice (.int .i64)) p3 0).length : Int) (p3.length : Int) p0 p1 p2 p3 p5 p6 n) x175 x176 = some z2 := h2
        refine TC_seq ?_
        refine TC_reg ?_
        refine TL_ev env 1 rfl ⟨⟨tv, ⟨tv, tv⟩⟩, tv⟩ ?_
        refine TL_end ?_
        refine TE_go ?_
        refine TC_seq ?_
        refine TC_cond rfl (fun hb => ?_) (fun hb => ?_)
        · replace h2 := bif_t h2 hb
          refine TC_skip ?_
          refine TE_go ?_
          refine TC_seq ?_
          obtain ⟨z3, h3, h2⟩ := bnd h2
          refine TC_cut (α := Int × Int) (fun s => z3 = s) (fun s => [(0, .p 0 0), (1, .fn 160 [.p 1 0, .p 2 0]), (4, .int .i64 x123), (12, .int .i64 ((Kd.nth (.slice (.int .i64)) p3 0).length : Int)), (13, .int .i64 x123), (20, .int .i64 (p3.length : Int)), (21, .int .i64 s.1)]) (fun s => [(0, some (.cells [.int .i64 p0, .int .i64 p1, .int .i64 p2, .im (.slice (.slice (.int .i64))) p3, .hd 3 2])), (1, some (.cells [.p 0 0])), (2, some (.cells [.int .i64 s.2])), (3, some (.cells [.sl 4, .sl 5])), (4, some (.rows (.int .i64) p5)), (5, some (.rows (.int .i64) p6))]) ?_ ?_
          · refine TC_blk ?_
            refine TC_seq ?_
            refine TC_reg ?_
            refine TL_ev env 2 rfl ⟨tv, ⟨tv, tv⟩⟩ ?_
            refine TL_end ?_
            refine TE_go ?_
            refine TC_seq ?_
            refine nums h3 (fun hx h3 => ?_) (fun h3 => ?_)
            · refine TC_num 21 0 hx rfl ?_
              refine TC_num 23 0 hx rfl ?_
              refine TC_num 5 0 hx rfl ?_
              refine TC_renw (A' := [(0, .p 0 0), (1, .fn 160 [.p 1 0, .p 2 0]), (4, .int .i64 _), (5, .int .i64 0), (12, .int .i64 _), (13, .int .i64 _), (20, .int .i64 _), (21, .int .i64 0)]) (L' := [(0, some (.cells [.int .i64 _, .int .i64 _, .int .i64 _, .im (.slice (.slice (.int .i64))) _, .hd 3 2])), (1, some (.cells [.p 0 0])), (2, some (.cells [.int .i64 _])), (3, some (.cells [.sl 4, .sl 5])), (4, some (.rows (.int .i64) _)), (5, some (.rows (.int .i64) _))]) [] ⟨rfl, rfl, rfl, rfl, rfl, rfl, rfl, rfl, tv⟩ ⟨rfl, rfl, rfl, rfl, rfl, rfl, tv⟩ rfl ?_
              refine TC_drawR ⟨_, fun i => ([[], [], [1], [2, 1], [3, 2, 1], [], [5, 4, 3, 2, 1], [6, 5, 4, 3, 2, 1], [], [8, 7, 6, 5, 4, 3, 2, 1], [9, 8, 7, 6, 5, 4, 3, 2, 1], [], [11], [12, 11], [13, 12, 11], [], [15, 14, 13, 12, 11], [16, 15, 14, 13, 12, 11], [], [18, 17, 16, 15, 14, 13, 12, 11], [19, 18, 17, 16, 15, 14, 13, 12, 11, 10, 9, 8, 7, 6, 5, 4, 3, 2, 1, 0], [20, 19, 18, 17, 16, 15, 14, 13, 12, 11, 10, 9, 8, 7, 6, 5, 4, 3, 2, 1, 0]] : List (List Nat)).getD i [], fun i => ([[], [], [], [], [], [], [], [], [], [], [], [], [], [], [], [], [], [], [], [], [0, 1, 2, 3, 4, 5], []] : List (List Nat)).getD i [], fun i => ([[], [], [], [], [], [], [], [], [], [], [], [], [], [], [], [], [], [], [], [], [], []] : List (List Nat)).getD i []⟩ (fun i => ([[], [], [], [], [], [], [], [], [], [], [], [], [], [], [], [], [], [], [], [], [], []] : List (List Nat)).getD i []) (by kernel_rfl) (by kernel_rfl) ?_
              refine AJR_ev env 1 rfl (Nat.le_of_ble_eq_true rfl) rfl tv ?_
              refine AJR_ev env 2 rfl (Nat.le_of_ble_eq_true rfl) rfl tv ?_
              refine AJR_ev env 3 rfl (Nat.le_of_ble_eq_true rfl) rfl tv ?_
              refine AJR_ev env 4 rfl (Nat.le_of_ble_eq_true rfl) rfl tv ?_
              refine AJR_ev env 5 rfl (Nat.le_of_ble_eq_true rfl) rfl ⟨tv, tv⟩ ?_
              refine AJR_ev env 6 rfl (Nat.le_of_ble_eq_true rfl) rfl tv ?_
              obtain ⟨g, h3⟩ := gd_t h3
              refine AJR_ev env 7 rfl (Nat.le_of_ble_eq_true rfl) rfl ⟨tv, ⟨tv, ⟨(by decide), g⟩⟩⟩ ?_
              refine AJR_ev env 8 rfl (Nat.le_of_ble_eq_true rfl) rfl ⟨tv, tv⟩ ?_
              refine AJR_ev env 9 rfl (Nat.le_of_ble_eq_true rfl) rfl tv ?_
              obtain ⟨g, h3⟩ := gd_t h3
              refine AJR_ev env 10 rfl (Nat.le_of_ble_eq_true rfl) rfl ⟨tv, ⟨tv, ⟨g.1, g.2⟩⟩⟩ ?_
              refine AJR_ev env 11 rfl (Nat.le_of_ble_eq_true rfl) rfl ⟨tv, tv⟩ ?_
              refine AJR_ev env 12 rfl (Nat.le_of_ble_eq_true rfl) rfl tv ?_
              refine AJR_ev env 13 rfl (Nat.le_of_ble_eq_true rfl) rfl tv ?_
              refine AJR_ev env 14 rfl (Nat.le_of_ble_eq_true rfl) rfl tv ?_
              refine AJR_ev env 15 rfl (Nat.le_of_ble_eq_true rfl) rfl ⟨tv, tv⟩ ?_
              refine AJR_ev env 16 rfl (Nat.le_of_ble_eq_true rfl) rfl tv ?_
              refine AJR_ev env 17 rfl (Nat.le_of_ble_eq_true rfl) rfl ⟨tv, ⟨tv, ⟨(by decide), (by decide)⟩⟩⟩ ?_
              refine AJR_ev env 18 rfl (Nat.le_of_ble_eq_true rfl) rfl ⟨tv, tv⟩ ?_
              refine AJR_ev env 19 rfl (Nat.le_of_ble_eq_true rfl) rfl tv ?_
              obtain ⟨g, h3⟩ := gd_t h3
              refine AJR_ev env 20 rfl (Nat.le_of_ble_eq_true rfl) rfl ⟨tv, ⟨tv, ⟨g.1, g.2⟩⟩⟩ ?_
              obtain ⟨r191, hr, h3⟩ := bnd h3
              refine AJR_call 21 rfl (Nat.le_of_ble_eq_true rfl) [(0, 4), (1, 1), (2, 2), (3, 0), (4, 3), (5, 5)] rfl (alloc_sharing_costs_1_2.ok0 hr) alloc_sharing_costs_1_2.fnb rfl ⟨tv, ⟨tv, ⟨tv, tv⟩⟩⟩ rfl ⟨.inr rfl, .inr rfl, .inr rfl, .inr rfl, .inr rfl, .inr rfl, tv⟩ rfl ?_
              refine AJR_ev env 22 rfl (Nat.le_of_ble_eq_true rfl) rfl tv ?_
              refine AJR_end rfl rfl rfl ?_
              refine TE_go ?_
              refine TC_cond rfl (fun hb => ?_) (fun hb => ?_)
              · first | exact (ftf hb).elim | exact (tff hb).elim | exact absurd hb (by decide)
              · refine TC_skip ?_
                refine tbn ?_
                obtain rfl := sinj h3
                refine tsn ?_
                exact SP_ren [] (_, _) rfl ⟨rfl, rfl, rfl, rfl, rfl, rfl, rfl, tv⟩ ⟨rfl, rfl, rfl, rfl, rfl, rfl, tv⟩ rfl
            · refine nums h3 (fun hx h3 => ?_) (fun h3 => ?_)
              · refine TC_num 21 1 hx rfl ?_
                refine TC_num 23 1 hx rfl ?_
                refine TC_num 5 1 hx rfl ?_
                refine TC_renw (A' := [(0, .p 0 0), (1, .fn 160 [.p 1 0, .p 2 0]), (4, .int .i64 _), (5, .int .i64 1), (12, .int .i64 _), (13, .int .i64 _), (20, .int .i64 _), (21, .int .i64 1)]) (L' := [(0, some (.cells [.int .i64 _, .int .i64 _, .int .i64 _, .im (.slice (.slice (.int .i64))) _, .hd 3 2])), (1, some (.cells [.p 0 0])), (2, some (.cells [.int .i64 _])), (3, some (.cells [.sl 4, .sl 5])), (4, some (.rows (.int .i64) _)), (5, some (.rows (.int .i64) _))]) [] ⟨rfl, rfl, rfl, rfl, rfl, rfl, rfl, rfl, tv⟩ ⟨rfl, rfl, rfl, rfl, rfl, rfl, tv⟩ rfl ?_
                refine TC_drawR ⟨_, fun i => ([[], [], [1], [2, 1], [3, 2, 1], [], [5, 4, 3, 2, 1], [6, 5, 4, 3, 2, 1], [], [8, 7, 6, 5, 4, 3, 2, 1], [9, 8, 7, 6, 5, 4, 3, 2, 1], [], [11], [12, 11], [13, 12, 11], [], [15, 14, 13, 12, 11], [16, 15, 14, 13, 12, 11], [], [18, 17, 16, 15, 14, 13, 12, 11], [19, 18, 17, 16, 15, 14, 13, 12, 11, 10, 9, 8, 7, 6, 5, 4, 3, 2, 1, 0], [20, 19, 18, 17, 16, 15, 14, 13, 12, 11, 10, 9, 8, 7, 6, 5, 4, 3, 2, 1, 0]] : List (List Nat)).getD i [], fun i => ([[], [], [], [], [], [], [], [], [], [], [], [], [], [], [], [], [], [], [], [], [0, 1, 2, 3, 4, 5], []] : List (List Nat)).getD i [], fun i => ([[], [], [], [], [], [], [], [], [], [], [], [], [], [], [], [], [], [], [], [], [], []] : List (List Nat)).getD i []⟩ (fun i => ([[], [], [], [], [], [], [], [], [], [], [], [], [], [], [], [], [], [], [], [], [], []] : List (List Nat)).getD i []) (by kernel_rfl) (by kernel_rfl) ?_
                refine AJR_ev env 1 rfl (Nat.le_of_ble_eq_true rfl) rfl tv ?_
                refine AJR_ev env 2 rfl (Nat.le_of_ble_eq_true rfl) rfl tv ?_
                refine AJR_ev env 3 rfl (Nat.le_of_ble_eq_true rfl) rfl tv ?_
                refine AJR_ev env 4 rfl (Nat.le_of_ble_eq_true rfl) rfl tv ?_
                refine AJR_ev env 5 rfl (Nat.le_of_ble_eq_true rfl) rfl ⟨tv, tv⟩ ?_
                refine AJR_ev env 6 rfl (Nat.le_of_ble_eq_true rfl) rfl tv ?_
                obtain ⟨g, h3⟩ := gd_t h3
                refine AJR_ev env 7 rfl (Nat.le_of_ble_eq_true rfl) rfl ⟨tv, ⟨tv, ⟨(by decide), g⟩⟩⟩ ?_
                refine AJR_ev env 8 rfl (Nat.le_of_ble_eq_true rfl) rfl ⟨tv, tv⟩ ?_
                refine AJR_ev env 9 rfl (Nat.le_of_ble_eq_true rfl) rfl tv ?_
                obtain ⟨g, h3⟩ := gd_t h3
                refine AJR_ev env 10 rfl (Nat.le_of_ble_eq_true rfl) rfl ⟨tv, ⟨tv, ⟨g.1, g.2⟩⟩⟩ ?_
                refine AJR_ev env 11 rfl (Nat.le_of_ble_eq_true rfl) rfl ⟨tv, tv⟩ ?_
                refine AJR_ev env 12 rfl (Nat.le_of_ble_eq_true rfl) rfl tv ?_
                refine AJR_ev env 13 rfl (Nat.le_of_ble_eq_true rfl) rfl tv ?_
                refine AJR_ev env 14 rfl (Nat.le_of_ble_eq_true rfl) rfl tv ?_
                refine AJR_ev env 15 rfl (Nat.le_of_ble_eq_true rfl) rfl ⟨tv, tv⟩ ?_
                refine AJR_ev env 16 rfl (Nat.le_of_ble_eq_true rfl) rfl tv ?_
                refine AJR_ev env 17 rfl (Nat.le_of_ble_eq_true rfl) rfl ⟨tv, ⟨tv, ⟨(by decide), (by decide)⟩⟩⟩ ?_
                refine AJR_ev env 18 rfl (Nat.le_of_ble_eq_true rfl) rfl ⟨tv, tv⟩ ?_
                refine AJR_ev env 19 rfl (Nat.le_of_ble_eq_true rfl) rfl tv ?_
                obtain ⟨g, h3⟩ := gd_t h3
                refine AJR_ev env 20 rfl (Nat.le_of_ble_eq_true rfl) rfl ⟨tv, ⟨tv, ⟨g.1, g.2⟩⟩⟩ ?_
                obtain ⟨r194, hr, h3⟩ := bnd h3
                refine AJR_call 21 rfl (Nat.le_of_ble_eq_true rfl) [(0, 5), (1, 1), (2, 2), (3, 0), (4, 3), (5, 4)] rfl (alloc_sharing_costs_1_3.ok0 hr) alloc_sharing_costs_1_3.fnb rfl ⟨tv, ⟨tv, ⟨tv, tv⟩⟩⟩ rfl ⟨.inr rfl, .inr rfl, .inr rfl, .inr rfl, .inr rfl, .inr rfl, tv⟩ rfl ?_
                refine AJR_ev env 22 rfl (Nat.le_of_ble_eq_true rfl) rfl tv ?_
                refine AJR_end rfl rfl rfl ?_
                refine TE_go ?_
                refine TC_cond rfl (fun hb => ?_) (fun hb => ?_)
                · first | exact (ftf hb).elim | exact (tff hb).elim | exact absurd hb (by decide)
                · refine TC_skip ?_
                  refine tbn ?_
                  obtain rfl := sinj h3
                  refine tsn ?_
                  exact SP_ren [] (_, _) rfl ⟨rfl, rfl, rfl, rfl, rfl, rfl, rfl, tv⟩ ⟨rfl, rfl, rfl, rfl, rfl, rfl, tv⟩ rfl
              · exact (nsome h3).elim
          · rintro ⟨x186, x187⟩ rfl
            refine TE_go ?_
            refine TC_reg ?_
            refine TL_ev env 2 rfl ⟨⟨tv, ⟨tv, tv⟩⟩, ⟨tv, tv⟩⟩ ?_
            refine TL_end ?_
            refine tsn ?_
            exact TE_nextr [] n (Nat.lt_succ_self n) (_, _) h2 ⟨rfl, rfl, rfl, rfl, rfl, rfl, rfl, tv⟩ ⟨rfl, rfl, rfl, rfl, rfl, rfl, tv⟩ rfl
        · replace h2 := bif_f h2 hb
          refine TC_exit ?_
          refine tsx ?_
          refine tsx ?_
          refine tbe ?_
          obtain rfl := sinj h2
          refine tsn ?_
          exact SP_ren [] _ rfl ⟨rfl, rfl, rfl, rfl, tv⟩ ⟨rfl, rfl, rfl, rfl, rfl, rfl, tv⟩ rfl
      · rintro x171 hz
        obtain rfl := hz.symm
        refine tbn ?_
        refine TE_go ?_
        refine TC_reg ?_
        refine TL_ev env 2 rfl ⟨⟨tv, ⟨tv, tv⟩⟩, ⟨tv, tv⟩⟩ ?_
        refine TL_end ?_
        refine tsn ?_
        exact TE_nextr [] n (Nat.lt_succ_self n) (_, _) h1 ⟨rfl, rfl, rfl, rfl, tv⟩ ⟨rfl, rfl, rfl, rfl, rfl, rfl, tv⟩ rfl
    · replace h1 := bif_f h1 hb
      refine TC_exit ?_
      refine tsx ?_
      refine tsx ?_
      refine tbe ?_
      obtain rfl := sinj h1
      refine tsn ?_
      exact SP_ren [] _ rfl tv ⟨rfl, rfl, rfl, rfl, rfl, rfl, tv⟩ rfl
  · rintro x100 hz
    obtain rfl := hz.symm
    obtain rfl := sinj h0
    exact TE_end env rfl tv ⟨.inr rfl, .inr rfl, .inr rfl, .inr rfl, .inr rfl, .inr rfl, tv⟩
theorem alloc_sharing_each_6.ok0 {K : Nat} {p0 : Int} {p1 : Int} {p2 : Int} {p3 : List (List (Int))} {p4 : Int} {p5 : List (Int)} {p6 : List (Int)} {q0 : Int} (h0 : alloc_sharing_each_6 K p0 p1 p2 p3 p4 p5 p6 = some q0) : Fn Try.prog 104 [.p 0 0, .fn 160 [.p 1 0, .p 2 0]] [(0, some (.cells [.int .i64 p0, .int .i64 p1, .int .i64 p2, .im (.slice (.slice (.int .i64))) p3, .hd 3 2])), (1, some (.cells [.p 0 0])), (2, some (.cells [.int .i64 p4])), (3, some (.cells [.sl 4, .sl 5])), (4, some (.rows (.int .i64) p5)), (5, some (.rows (.int .i64) p6))] (.tup []) [(0, some (.cells [.int .i64 p0, .int .i64 p1, .int .i64 p2, .im (.slice (.slice (.int .i64))) p3, .hd 3 2])), (1, some (.cells [.p 0 0])), (2, some (.cells [.int .i64 q0])), (3, some (.cells [.sl 4, .sl 5])), (4, some (.rows (.int .i64) p5)), (5, some (.rows (.int .i64) p6))] := alloc_sharing_each_6.ok h0
theorem alloc_sharing_each_6.fnb : fnb Try.prog 104 = true := fnb_of Try.func104 rfl
def alloc_sharing_costs_2.res (_p0 : Int) (_p1 : Int) (_p2 : Int) (_p3 : List (List (Int))) (_p4 : List (Int)) (_p5 : List (Int)) : Int → MV
  | q0 => .int .i64 q0
def alloc_sharing_costs_2.out (p0 : Int) (p1 : Int) (p2 : Int) (p3 : List (List (Int))) (p4 : List (Int)) (p5 : List (Int)) : Int → List (Nat × Option MObj)
  | _ => [(0, some (.cells [.int .i64 p0, .int .i64 p1, .int .i64 p2, .im (.slice (.slice (.int .i64))) p3, .hd 1 2])), (1, some (.cells [.sl 2, .sl 3])), (2, some (.rows (.int .i64) p4)), (3, some (.rows (.int .i64) p5))]
theorem alloc_sharing_costs_2.ok {K : Nat} {p0 : Int} {p1 : Int} {p2 : Int} {p3 : List (List (Int))} {p4 : List (Int)} {p5 : List (Int)} {r : Int} (h0 : alloc_sharing_costs_2 K p0 p1 p2 p3 p4 p5 = some r) : Fn Try.prog 135 [.p 0 0] [(0, some (.cells [.int .i64 p0, .int .i64 p1, .int .i64 p2, .im (.slice (.slice (.int .i64))) p3, .hd 1 2])), (1, some (.cells [.sl 2, .sl 3])), (2, some (.rows (.int .i64) p4)), (3, some (.rows (.int .i64) p5))] (alloc_sharing_costs_2.res p0 p1 p2 p3 p4 p5 r) (alloc_sharing_costs_2.out p0 p1 p2 p3 p4 p5 r) := by
  refine Fn_of Try.func135 rfl (Nat.le_of_ble_eq_true rfl) fun Γ => ?_
  refine TC_seq ?_
  refine TC_reg ?_
  refine TL_ev env 2 rfl ⟨tv, ⟨tv, tv⟩⟩ ?_
  refine TL_end ?_
  refine TE_go ?_
  refine TC_seq ?_
  refine TC_reg ?_
  refine TL_ev env 2 rfl ⟨tv, ⟨⟨tv, tv⟩, tv⟩⟩ ?_
  refine TL_end ?_
  refine TE_go ?_
  refine TC_seq ?_
  refine TC_reg ?_
  refine TL_ev env 2 rfl ⟨⟨tv, tv⟩, ⟨⟨tv, ⟨tv, tv⟩⟩, tv⟩⟩ ?_
  obtain ⟨r2, hr, h0⟩ := bnd h0
  refine TL_callB [(0, 0), (1, 1001), (2, 1003), (3, 1), (4, 2), (5, 3)] (alloc_sharing_each_6.ok0 hr) alloc_sharing_each_6.fnb rfl ⟨tv, ⟨tv, ⟨tv, tv⟩⟩⟩ rfl ⟨.inr rfl, .inr rfl, .inr rfl, .inr rfl, .inr rfl, .inr rfl, tv⟩ rfl ?_
  refine TL_end ?_
  refine TE_go ?_
  refine TC_seq ?_
  refine TC_reg ?_
  refine TL_ev env 2 rfl ⟨⟨tv, tv⟩, ⟨tv, tv⟩⟩ ?_
  refine TL_end ?_
  refine TE_go ?_
  refine TC_ret ?_
  obtain rfl := sinj h0
  exact TE_ret env rfl tv ⟨.inr rfl, .inr rfl, .inr rfl, .inr rfl, tv⟩
theorem alloc_sharing_costs_2.ok0 {K : Nat} {p0 : Int} {p1 : Int} {p2 : Int} {p3 : List (List (Int))} {p4 : List (Int)} {p5 : List (Int)} {q0 : Int} (h0 : alloc_sharing_costs_2 K p0 p1 p2 p3 p4 p5 = some q0) : Fn Try.prog 135 [.p 0 0] [(0, some (.cells [.int .i64 p0, .int .i64 p1, .int .i64 p2, .im (.slice (.slice (.int .i64))) p3, .hd 1 2])), (1, some (.cells [.sl 2, .sl 3])), (2, some (.rows (.int .i64) p4)), (3, some (.rows (.int .i64) p5))] (.int .i64 q0) [(0, some (.cells [.int .i64 p0, .int .i64 p1, .int .i64 p2, .im (.slice (.slice (.int .i64))) p3, .hd 1 2])), (1, some (.cells [.sl 2, .sl 3])), (2, some (.rows (.int .i64) p4)), (3, some (.rows (.int .i64) p5))] := alloc_sharing_costs_2.ok h0
theorem alloc_sharing_costs_2.fnb : fnb Try.prog 135 = true := fnb_of Try.func135 rfl
def alloc_sharing_cut_2.res (_p0 : Int) (_p1 : Int) (_p2 : Int) (_p3 : List (List (Int))) (_p4 : List (Int)) (_p5 : List (Int)) : Int × Int → MV
  | (_, _) => .tup []
def alloc_sharing_cut_2.out (p0 : Int) (_p1 : Int) (_p2 : Int) (p3 : List (List (Int))) (p4 : List (Int)) (p5 : List (Int)) : Int × Int → List (Nat × Option MObj)
  | (q0, q1) => [(0, some (.cells [.int .i64 p0, .int .i64 q0, .int .i64 q1, .im (.slice (.slice (.int .i64))) p3, .hd 1 2])), (1, some (.cells [.sl 2, .sl 3])), (2, some (.rows (.int .i64) p4)), (3, some (.rows (.int .i64) p5))]
theorem alloc_sharing_cut_2.ok {K : Nat} {p0 : Int} {p1 : Int} {p2 : Int} {p3 : List (List (Int))} {p4 : List (Int)} {p5 : List (Int)} {r : Int × Int} (h0 : alloc_sharing_cut_2 K p0 p1 p2 p3 p4 p5 = some r) : Fn Try.prog 103 [.p 0 0] [(0, some (.cells [.int .i64 p0, .int .i64 p1, .int .i64 p2, .im (.slice (.slice (.int .i64))) p3, .hd 1 2])), (1, some (.cells [.sl 2, .sl 3])), (2, some (.rows (.int .i64) p4)), (3, some (.rows (.int .i64) p5))] (alloc_sharing_cut_2.res p0 p1 p2 p3 p4 p5 r) (alloc_sharing_cut_2.out p0 p1 p2 p3 p4 p5 r) := by
  refine Fn_of Try.func103 rfl (Nat.le_of_ble_eq_true rfl) fun Γ => ?_
  refine TC_seq ?_
  refine TC_reg ?_
  refine TL_ev env 1 rfl ⟨tv, tv⟩ ?_
  refine TL_end ?_
  refine TE_go ?_
  refine TC_seq ?_
  refine TC_reg ?_
  refine TL_ev env 2 rfl ⟨⟨tv, tv⟩, ⟨⟨tv, tv⟩, tv⟩⟩ ?_
  obtain ⟨r14, hr, h0⟩ := bnd h0
  refine TL_callB [(0, 0), (1, 1001), (2, 1), (3, 2), (4, 3)] (alloc_sharing_each_5.ok0 hr) alloc_sharing_each_5.fnb rfl ⟨tv, ⟨tv, ⟨tv, tv⟩⟩⟩ rfl ⟨.inr rfl, .inr rfl, .inr rfl, .inr rfl, .inr rfl, tv⟩ rfl ?_
  refine TL_end ?_
  refine TE_go ?_
  refine TC_seq ?_
  refine TC_reg ?_
  refine TL_ev env 1 rfl ⟨⟨tv, tv⟩, tv⟩ ?_
  obtain ⟨r15, hr, h0⟩ := bnd h0
  refine TL_callB [(0, 0), (1, 1), (2, 2), (3, 3)] (alloc_sharing_costs_2.ok0 hr) alloc_sharing_costs_2.fnb rfl ⟨tv, ⟨tv, tv⟩⟩ rfl ⟨.inr rfl, .inr rfl, .inr rfl, .inr rfl, tv⟩ rfl ?_
  refine TL_ev env 1 rfl ⟨tv, tv⟩ ?_
  refine TL_end ?_
  refine TE_go ?_
  refine TC_seq ?_
  obtain ⟨z1, h1, h0⟩ := bnd h0
  refine TC_cut (α := Int × Int × Int) (fun s => z1 = s) (fun s => [(1, .p 10804 0), (2, .int .i64 s.1)]) (fun s => [(0, some (.cells [.int .i64 p0, .int .i64 s.2.1, .int .i64 s.2.2, .im (.slice (.slice (.int .i64))) p3, .hd 1 2])), (1, some (.cells [.sl 2, .sl 3])), (2, some (.rows (.int .i64) p4)), (3, some (.rows (.int .i64) p5)), (10804, some (.cells [.p 0 0]))]) ?_ ?_
  · refine TC_blk ?_
    refine TC_loop (α := Int × Int × Int) (fun n s => alloc_sharing_cut_2.l0 K p0 p3 p4 p5 n s.1 s.2.1 s.2.2 = some z1) (fun s => [(1, .p 11004 0), (2, .int .i64 s.1)]) (fun s => [(0, some (.cells [.int .i64 p0, .int .i64 s.2.1, .int .i64 s.2.2, .im (.slice (.slice (.int .i64))) p3, .hd 1 2])), (1, some (.cells [.sl 2, .sl 3])), (2, some (.rows (.int .i64) p4)), (3, some (.rows (.int .i64) p5)), (11004, some (.cells [.p 0 0]))]) K ?_ ?_
    · exact SP_ren [(11004, 1001)] (_, _, _) h1 ⟨rfl, rfl, tv⟩ ⟨rfl, rfl, rfl, rfl, rfl, tv⟩ rfl
    rintro n ⟨x30, x31, x32⟩ h1
    rcases n with _ | n
    · exact (nsome h1).elim
    replace h1 : alloc_sharing_cut_2.r0 K p0 p3 p4 p5 (alloc_sharing_cut_2.l0 K p0 p3 p4 p5 n) x30 x31 x32 = some z1 := h1
    refine TC_seq ?_
    refine TC_seq ?_
    refine TC_renw (A' := [(1, .p 11004 0), (2, .int .i64 _)]) (L' := [(0, some (.cells [.int .i64 _, .int .i64 _, .int .i64 _, .im (.slice (.slice (.int .i64))) _, .hd 1 2])), (1, some (.cells [.sl 2, .sl 3])), (2, some (.rows (.int .i64) _)), (3, some (.rows (.int .i64) _)), (11004, some (.cells [.p 0 0]))]) [] ⟨rfl, rfl, tv⟩ ⟨rfl, rfl, rfl, rfl, rfl, tv⟩ rfl ?_
    refine TC_drawR ⟨_, fun i => ([[], [0], [1, 0], [2, 1, 0], [], [4, 3, 2, 1, 0], [], [6], [7, 6], [8, 7, 6], [9, 8, 7, 6, 5, 4, 3, 2, 1, 0]] : List (List Nat)).getD i [], fun i => ([[], [], [], [], [], [], [], [], [], [], []] : List (List Nat)).getD i [], fun i => ([[], [], [], [], [], [], [], [], [], [], []] : List (List Nat)).getD i []⟩ (fun i => ([[], [], [], [], [], [], [], [], [], [], []] : List (List Nat)).getD i []) (by kernel_rfl) (by kernel_rfl) ?_
    refine AJR_ev env 1 rfl (Nat.le_of_ble_eq_true rfl) rfl ⟨tv, tv⟩ ?_
    refine AJR_ev env 2 rfl (Nat.le_of_ble_eq_true rfl) rfl tv ?_
    refine AJR_ev env 3 rfl (Nat.le_of_ble_eq_true rfl) rfl tv ?_
    refine AJR_ev env 4 rfl (Nat.le_of_ble_eq_true rfl) rfl ⟨tv, tv⟩ ?_
    refine AJR_ev env 5 rfl (Nat.le_of_ble_eq_true rfl) rfl tv ?_
    refine AJR_ev env 6 rfl (Nat.le_of_ble_eq_true rfl) rfl ⟨tv, ⟨tv, tv⟩⟩ ?_
    refine AJR_ev env 7 rfl (Nat.le_of_ble_eq_true rfl) rfl ⟨tv, tv⟩ ?_
    refine AJR_ev env 8 rfl (Nat.le_of_ble_eq_true rfl) rfl tv ?_
    refine AJR_ev env 9 rfl (Nat.le_of_ble_eq_true rfl) rfl tv ?_
    refine AJR_ev env 10 rfl (Nat.le_of_ble_eq_true rfl) rfl ⟨tv, tv⟩ ?_
    refine AJR_ev env 11 rfl (Nat.le_of_ble_eq_true rfl) rfl ⟨tv, ⟨tv, tv⟩⟩ ?_
    refine AJR_end rfl rfl rfl ?_
    refine TE_go ?_
    refine TC_cond rfl (fun hb => ?_) (fun hb => ?_)
    · replace h1 := bif_t h1 hb
      refine TC_skip ?_
      refine TE_go ?_
      refine TC_blk ?_
      refine TC_seq ?_
      refine TC_reg ?_
      refine TL_ev env 9 rfl ⟨⟨tv, tv⟩, ⟨tv, ⟨tv, ⟨⟨tv, tv⟩, ⟨tv, ⟨⟨tv, ⟨tv, tv⟩⟩, ⟨tv, ⟨tv, ⟨⟨tv, tv⟩, tv⟩⟩⟩⟩⟩⟩⟩⟩⟩ ?_
      refine TL_end ?_
      refine TE_go ?_
      refine TC_seq ?_
      refine TC_reg ?_
      refine TL_ev env 8 rfl ⟨⟨tv, tv⟩, ⟨tv, ⟨tv, ⟨⟨tv, tv⟩, ⟨⟨tv, ⟨tv, tv⟩⟩, ⟨tv, ⟨tv, ⟨⟨tv, tv⟩, tv⟩⟩⟩⟩⟩⟩⟩⟩ ?_
      refine TL_end ?_
      refine TE_go ?_
      refine TC_reg ?_
      refine TL_ev env 1 rfl ⟨⟨tv, tv⟩, tv⟩ ?_
      obtain ⟨r40, hr, h1⟩ := bnd h1
      refine TL_callB [(0, 0), (1, 1), (2, 2), (3, 3)] (alloc_sharing_costs_2.ok0 hr) alloc_sharing_costs_2.fnb rfl ⟨tv, ⟨tv, tv⟩⟩ rfl ⟨.inr rfl, .inr rfl, .inr rfl, .inr rfl, tv⟩ rfl ?_
      refine TL_ev env 1 rfl ⟨tv, tv⟩ ?_
      refine TL_end ?_
      refine tbn ?_
      refine tsn ?_
      exact TE_nextr [(11004, 11004)] n (Nat.lt_succ_self n) (_, _, _) h1 ⟨rfl, rfl, tv⟩ ⟨rfl, rfl, rfl, rfl, rfl, tv⟩ rfl
    · replace h1 := bif_f h1 hb
      refine TC_exit ?_
      refine tsx ?_
      refine tsx ?_
      refine tbe ?_
      obtain rfl := sinj h1
      refine tsn ?_
      exact SP_ren [(10804, 11004)] (_, _, _) rfl ⟨rfl, rfl, tv⟩ ⟨rfl, rfl, rfl, rfl, rfl, tv⟩ rfl
  · rintro ⟨x24, x25, x26⟩ rfl
    refine TE_go ?_
    refine TC_seq ?_
    refine TC_renw (A' := [(1, .p 10804 0), (2, .int .i64 _)]) (L' := [(0, some (.cells [.int .i64 _, .int .i64 _, .int .i64 _, .im (.slice (.slice (.int .i64))) _, .hd 1 2])), (1, some (.cells [.sl 2, .sl 3])), (2, some (.rows (.int .i64) _)), (3, some (.rows (.int .i64) _)), (10804, some (.cells [.p 0 0]))]) [] ⟨rfl, rfl, tv⟩ ⟨rfl, rfl, rfl, rfl, rfl, tv⟩ rfl ?_
    refine TC_drawR ⟨_, fun i => ([[], [0], [1, 0], [2, 1, 0], [], [4, 3, 2, 1, 0], [], [6], [7, 6], [8, 7, 6], [9, 8, 7, 6, 5, 4, 3, 2, 1, 0]] : List (List Nat)).getD i [], fun i => ([[], [], [], [], [], [], [], [], [], [], []] : List (List Nat)).getD i [], fun i => ([[], [], [], [], [], [], [], [], [], [], []] : List (List Nat)).getD i []⟩ (fun i => ([[], [], [], [], [], [], [], [], [], [], []] : List (List Nat)).getD i []) (by kernel_rfl) (by kernel_rfl) ?_
    refine AJR_ev env 1 rfl (Nat.le_of_ble_eq_true rfl) rfl ⟨tv, tv⟩ ?_
    refine AJR_ev env 2 rfl (Nat.le_of_ble_eq_true rfl) rfl tv ?_
    refine AJR_ev env 3 rfl (Nat.le_of_ble_eq_true rfl) rfl tv ?_
    refine AJR_ev env 4 rfl (Nat.le_of_ble_eq_true rfl) rfl ⟨tv, tv⟩ ?_
    refine AJR_ev env 5 rfl (Nat.le_of_ble_eq_true rfl) rfl tv ?_
    refine AJR_ev env 6 rfl (Nat.le_of_ble_eq_true rfl) rfl ⟨tv, ⟨tv, tv⟩⟩ ?_
    refine AJR_ev env 7 rfl (Nat.le_of_ble_eq_true rfl) rfl ⟨tv, tv⟩ ?_
    refine AJR_ev env 8 rfl (Nat.le_of_ble_eq_true rfl) rfl tv ?_
    refine AJR_ev env 9 rfl (Nat.le_of_ble_eq_true rfl) rfl tv ?_
    refine AJR_ev env 10 rfl (Nat.le_of_ble_eq_true rfl) rfl ⟨tv, tv⟩ ?_
    refine AJR_ev env 11 rfl (Nat.le_of_ble_eq_true rfl) rfl ⟨tv, ⟨tv, tv⟩⟩ ?_
    refine AJR_end rfl rfl rfl ?_
    refine TE_go ?_
    refine TC_cond rfl (fun hb => ?_) (fun hb => ?_)
    · replace h0 := bif_t h0 hb
      refine TC_seq ?_
      refine TC_reg ?_
      refine TL_ev env 9 rfl ⟨⟨tv, tv⟩, ⟨tv, ⟨tv, ⟨⟨tv, tv⟩, ⟨tv, ⟨⟨tv, ⟨tv, tv⟩⟩, ⟨tv, ⟨tv, ⟨⟨tv, tv⟩, tv⟩⟩⟩⟩⟩⟩⟩⟩⟩ ?_
      refine TL_end ?_
      refine TE_go ?_
      refine TC_reg ?_
      refine TL_ev env 8 rfl ⟨⟨tv, tv⟩, ⟨tv, ⟨tv, ⟨⟨tv, tv⟩, ⟨⟨tv, ⟨tv, tv⟩⟩, ⟨tv, ⟨tv, ⟨⟨tv, tv⟩, tv⟩⟩⟩⟩⟩⟩⟩⟩ ?_
      refine TL_end ?_
      obtain rfl := sinj h0
      exact TE_end env rfl tv ⟨.inr rfl, .inr rfl, .inr rfl, .inr rfl, tv⟩
    · replace h0 := bif_f h0 hb
      refine TC_skip ?_
      obtain rfl := sinj h0
      exact TE_end env rfl tv ⟨.inr rfl, .inr rfl, .inr rfl, .inr rfl, tv⟩
theorem alloc_sharing_cut_2.ok0 {K : Nat} {p0 : Int} {p1 : Int} {p2 : Int} {p3 : List (List (Int))} {p4 : List (Int)} {p5 : List (Int)} {q0 : Int} {q1 : Int} (h0 : alloc_sharing_cut_2 K p0 p1 p2 p3 p4 p5 = some (q0, q1)) : Fn Try.prog 103 [.p 0 0] [(0, some (.cells [.int .i64 p0, .int .i64 p1, .int .i64 p2, .im (.slice (.slice (.int .i64))) p3, .hd 1 2])), (1, some (.cells [.sl 2, .sl 3])), (2, some (.rows (.int .i64) p4)), (3, some (.rows (.int .i64) p5))] (.tup []) [(0, some (.cells [.int .i64 p0, .int .i64 q0, .int .i64 q1, .im (.slice (.slice (.int .i64))) p3, .hd 1 2])), (1, some (.cells [.sl 2, .sl 3])), (2, some (.rows (.int .i64) p4)), (3, some (.rows (.int .i64) p5))] := alloc_sharing_cut_2.ok h0
theorem alloc_sharing_cut_2.fnb : fnb Try.prog 103 = true := fnb_of Try.func103 rfl
end Go.Fo
