/- Each call comes to the function that is written for it. -/
import Derived.Test.YtcaehpgdcjonfaaFoT
import Derived.Test.YtcaehpgdcjonfaaFoF
namespace Go.Fo
open Go.Proofs
set_option maxRecDepth 20000
set_option maxHeartbeats 4000000
def format_within.res (_p0 : Int) (_p1 : Int) (_p2 : Int) : Bool → MV
  | q0 => .bool q0
def format_within.out (_p0 : Int) (_p1 : Int) (_p2 : Int) : Bool → List (Nat × Option MObj)
  | _ => []
theorem format_within.ok {K : Nat} {p0 : Int} {p1 : Int} {p2 : Int} {r : Bool} (h0 : format_within K p0 p1 p2 = some r) : Fn Try.prog 129 [.int .i64 p0, .int .i64 p1, .int .i64 p2] [] (format_within.res p0 p1 p2 r) (format_within.out p0 p1 p2 r) := by
  refine Fn_of Try.func129 rfl (Nat.le_of_ble_eq_true rfl) fun Γ => ?_
  refine TC_seq ?_
  refine TC_reg ?_
  refine TL_ev env 1 rfl ⟨trivial, trivial⟩ ?_
  refine TL_end ?_
  refine TE_go ?_
  refine TC_seq ?_
  refine TC_reg ?_
  refine TL_ev env 9 rfl ⟨trivial, ⟨trivial, ⟨⟨trivial, ⟨trivial, trivial⟩⟩, ⟨trivial, ⟨fun eg => trivial, ⟨fun eg => trivial, ⟨fun eg => ⟨fun e => e, ⟨fun e => e, trivial⟩⟩, ⟨⟨trivial, ⟨fun e => e, trivial⟩⟩, ⟨trivial, trivial⟩⟩⟩⟩⟩⟩⟩⟩⟩ ?_
  refine TL_end ?_
  refine TE_go ?_
  refine TC_ret ?_
  obtain rfl := sinj h0
  exact TE_ret env rfl trivial trivial
theorem format_within.ok0 {K : Nat} {p0 : Int} {p1 : Int} {p2 : Int} {q0 : Bool} (h0 : format_within K p0 p1 p2 = some q0) : Fn Try.prog 129 [.int .i64 p0, .int .i64 p1, .int .i64 p2] [] (.bool q0) [] := format_within.ok h0
theorem format_within.fnb : fnb Try.prog 129 = true := fnb_of Try.func129 rfl
def slices_Index_bool_bool.res (_p0 : Bool) (_p1 : List (Bool)) : Int → MV
  | q0 => .int .i64 q0
def slices_Index_bool_bool.out (_p0 : Bool) (p1 : List (Bool)) : Int → List (Nat × Option MObj)
  | _ => [(0, some (.rows (.bool) p1))]
theorem slices_Index_bool_bool.ok {K : Nat} {p0 : Bool} {p1 : List (Bool)} {r : Int} (h0 : slices_Index_bool_bool K p0 p1 = some r) : Fn Try.prog 173 [.sl 0, .bool p0] [(0, some (.rows (.bool) p1))] (slices_Index_bool_bool.res p0 p1 r) (slices_Index_bool_bool.out p0 p1 r) := by
  refine Fn_of Try.func173 rfl (Nat.le_of_ble_eq_true rfl) fun Γ => ?_
  refine TC_seq ?_
  refine TC_reg ?_
  refine TL_ev env 1 rfl ⟨trivial, trivial⟩ ?_
  refine TL_end ?_
  refine TE_go ?_
  refine TC_seq ?_
  refine TC_seq ?_
  refine TC_reg ?_
  refine TL_ev env 3 rfl ⟨trivial, ⟨⟨trivial, trivial⟩, ⟨trivial, trivial⟩⟩⟩ ?_
  refine TL_end ?_
  refine TE_go ?_
  obtain ⟨z1, h1, h0⟩ := bnd h0
  refine TC_cut (α := Unit) (fun _ => z1 = .inl ()) (fun _ => []) (fun _ => [(0, some (.rows (.bool) p1))]) ?_ ?_
  · refine TC_blk ?_
    refine TC_loop (α := Int) (fun n s => slices_Index_bool_bool.l0 K p0 (p1.length : Int) p1 n s = some z1) (fun s => [(0, .sl 0), (1, .bool p0), (7, .int .i64 (p1.length : Int)), (8, .int .i64 s)]) (fun s => [(0, some (.rows (.bool) p1))]) K ?_ ?_
    · exact SP_ren [] _ h1 ⟨rfl, rfl, rfl, rfl, trivial⟩ ⟨rfl, trivial⟩ rfl
    rintro n x5 h1
    rcases n with _ | n
    · exact (nsome h1).elim
    replace h1 : slices_Index_bool_bool.r0 K p0 (p1.length : Int) p1 (slices_Index_bool_bool.l0 K p0 (p1.length : Int) p1 n) x5 = some z1 := h1
    refine TC_seq ?_
    refine TC_reg ?_
    refine TL_ev env 1 rfl ⟨⟨trivial, ⟨trivial, trivial⟩⟩, trivial⟩ ?_
    refine TL_end ?_
    refine TE_go ?_
    refine TC_seq ?_
    refine TC_cond rfl (fun hb => ?_) (fun hb => ?_)
    · replace h1 := bif_t h1 hb
      refine TC_skip ?_
      refine TE_go ?_
      refine TC_seq ?_
      refine TC_blk ?_
      refine TC_seq ?_
      refine TC_reg ?_
      refine TL_ev env 2 rfl ⟨trivial, ⟨trivial, trivial⟩⟩ ?_
      refine TL_end ?_
      refine TE_go ?_
      refine TC_seq ?_
      refine TC_reg ?_
      obtain ⟨g, h1⟩ := gd_t h1
      refine TL_ev env 6 rfl ⟨trivial, ⟨trivial, ⟨trivial, ⟨⟨trivial, ⟨trivial, ⟨g.1, g.2.1⟩⟩⟩, ⟨⟨trivial, g.2.2⟩, ⟨⟨trivial, ⟨trivial, trivial⟩⟩, trivial⟩⟩⟩⟩⟩⟩ ?_
      refine TL_end ?_
      refine TE_go ?_
      refine TC_cond rfl (fun hb => ?_) (fun hb => ?_)
      · replace h1 := bif_t h1 hb
        refine TC_seq ?_
        refine TC_reg ?_
        refine TL_ev env 2 rfl ⟨trivial, ⟨trivial, trivial⟩⟩ ?_
        refine TL_end ?_
        refine TE_go ?_
        refine TC_ret ?_
        refine tbr ?_
        refine tsr ?_
        refine tsr ?_
        refine tbr ?_
        refine tsr ?_
        refine tsr ?_
        obtain rfl := sinj h1
        obtain rfl := sinj h0
        exact TE_ret env rfl trivial ⟨.inr rfl, trivial⟩
      · replace h1 := bif_f h1 hb
        refine TC_skip ?_
        refine tbn ?_
        refine TE_go ?_
        refine TC_reg ?_
        refine TL_ev env 2 rfl ⟨⟨trivial, ⟨trivial, trivial⟩⟩, ⟨trivial, trivial⟩⟩ ?_
        refine TL_end ?_
        refine tsn ?_
        exact TE_nextr [] n (Nat.lt_succ_self n) _ h1 ⟨rfl, rfl, rfl, rfl, trivial⟩ ⟨rfl, trivial⟩ rfl
    · replace h1 := bif_f h1 hb
      refine TC_exit ?_
      refine tsx ?_
      refine tsx ?_
      refine tbe ?_
      obtain rfl := sinj h1
      refine tsn ?_
      exact SP_ren [] () rfl trivial ⟨rfl, trivial⟩ rfl
  · rintro ⟨⟩ rfl
    refine TE_go ?_
    refine TC_seq ?_
    refine TC_reg ?_
    refine TL_ev env 1 rfl ⟨trivial, trivial⟩ ?_
    refine TL_end ?_
    refine TE_go ?_
    refine TC_ret ?_
    obtain rfl := sinj h0
    exact TE_ret env rfl trivial ⟨.inr rfl, trivial⟩
theorem slices_Index_bool_bool.ok0 {K : Nat} {p0 : Bool} {p1 : List (Bool)} {q0 : Int} (h0 : slices_Index_bool_bool K p0 p1 = some q0) : Fn Try.prog 173 [.sl 0, .bool p0] [(0, some (.rows (.bool) p1))] (.int .i64 q0) [(0, some (.rows (.bool) p1))] := slices_Index_bool_bool.ok h0
theorem slices_Index_bool_bool.fnb : fnb Try.prog 173 = true := fnb_of Try.func173 rfl
def slices_Contains_bool_bool.res (_p0 : Bool) (_p1 : List (Bool)) : Bool → MV
  | q0 => .bool q0
def slices_Contains_bool_bool.out (_p0 : Bool) (p1 : List (Bool)) : Bool → List (Nat × Option MObj)
  | _ => [(0, some (.rows (.bool) p1))]
theorem slices_Contains_bool_bool.ok {K : Nat} {p0 : Bool} {p1 : List (Bool)} {r : Bool} (h0 : slices_Contains_bool_bool K p0 p1 = some r) : Fn Try.prog 157 [.sl 0, .bool p0] [(0, some (.rows (.bool) p1))] (slices_Contains_bool_bool.res p0 p1 r) (slices_Contains_bool_bool.out p0 p1 r) := by
  refine Fn_of Try.func157 rfl (Nat.le_of_ble_eq_true rfl) fun Γ => ?_
  refine TC_seq ?_
  refine TC_reg ?_
  refine TL_ev env 1 rfl ⟨trivial, trivial⟩ ?_
  refine TL_end ?_
  refine TE_go ?_
  refine TC_seq ?_
  refine TC_reg ?_
  refine TL_ev env 2 rfl ⟨trivial, ⟨trivial, trivial⟩⟩ ?_
  obtain ⟨r2, hr, h0⟩ := bnd h0
  refine TL_callB [(0, 0)] (slices_Index_bool_bool.ok0 hr) slices_Index_bool_bool.fnb rfl ⟨trivial, ⟨trivial, ⟨trivial, trivial⟩⟩⟩ rfl ⟨.inr rfl, trivial⟩ rfl ?_
  refine TL_ev env 2 rfl ⟨⟨trivial, ⟨trivial, trivial⟩⟩, ⟨trivial, trivial⟩⟩ ?_
  refine TL_end ?_
  refine TE_go ?_
  refine TC_ret ?_
  obtain rfl := sinj h0
  exact TE_ret env rfl trivial ⟨.inr rfl, trivial⟩
theorem slices_Contains_bool_bool.ok0 {K : Nat} {p0 : Bool} {p1 : List (Bool)} {q0 : Bool} (h0 : slices_Contains_bool_bool K p0 p1 = some q0) : Fn Try.prog 157 [.sl 0, .bool p0] [(0, some (.rows (.bool) p1))] (.bool q0) [(0, some (.rows (.bool) p1))] := slices_Contains_bool_bool.ok h0
theorem slices_Contains_bool_bool.fnb : fnb Try.prog 157 = true := fnb_of Try.func157 rfl
def format_all.res (_p0 : List (Bool)) : Bool → MV
  | q0 => .bool q0
def format_all.out (p0 : List (Bool)) : Bool → List (Nat × Option MObj)
  | _ => [(0, some (.rows (.bool) p0))]
theorem format_all.ok {K : Nat} {p0 : List (Bool)} {r : Bool} (h0 : format_all K p0 = some r) : Fn Try.prog 128 [.sl 0] [(0, some (.rows (.bool) p0))] (format_all.res p0 r) (format_all.out p0 r) := by
  refine Fn_of Try.func128 rfl (Nat.le_of_ble_eq_true rfl) fun Γ => ?_
  refine TC_seq ?_
  refine TC_reg ?_
  refine TL_ev env 1 rfl ⟨trivial, trivial⟩ ?_
  refine TL_end ?_
  refine TE_go ?_
  refine TC_seq ?_
  refine TC_reg ?_
  refine TL_ev env 1 rfl ⟨trivial, trivial⟩ ?_
  obtain ⟨r2, hr, h0⟩ := bnd h0
  refine TL_callB [(0, 0)] (slices_Contains_bool_bool.ok0 hr) slices_Contains_bool_bool.fnb rfl ⟨trivial, ⟨trivial, ⟨trivial, trivial⟩⟩⟩ rfl ⟨.inr rfl, trivial⟩ rfl ?_
  refine TL_ev env 2 rfl ⟨trivial, ⟨trivial, trivial⟩⟩ ?_
  refine TL_end ?_
  refine TE_go ?_
  refine TC_ret ?_
  obtain rfl := sinj h0
  exact TE_ret env rfl trivial ⟨.inr rfl, trivial⟩
theorem format_all.ok0 {K : Nat} {p0 : List (Bool)} {q0 : Bool} (h0 : format_all K p0 = some q0) : Fn Try.prog 128 [.sl 0] [(0, some (.rows (.bool) p0))] (.bool q0) [(0, some (.rows (.bool) p0))] := format_all.ok h0
theorem format_all.fnb : fnb Try.prog 128 = true := fnb_of Try.func128 rfl
def lapped_lengths.res  : Unit → MV
  | () => .agg [.int .i64 40, .int .i64 60, .int .i64 80, .int .i64 120]
def lapped_lengths.out  : Unit → List (Nat × Option MObj)
  | () => []
theorem lapped_lengths.ok {K : Nat}  {r : Unit} (h0 : lapped_lengths K  = some r) : Fn Try.prog 131 [] [] (lapped_lengths.res  r) (lapped_lengths.out  r) := by
  refine Fn_of Try.func131 rfl (Nat.le_of_ble_eq_true rfl) fun Γ => ?_
  refine TC_seq ?_
  refine TC_reg ?_
  refine TL_ev env 1 rfl ⟨trivial, trivial⟩ ?_
  refine TL_end ?_
  refine TE_go ?_
  refine TC_seq ?_
  refine TC_reg ?_
  refine TL_ev env 2 rfl ⟨⟨trivial, ⟨trivial, ⟨trivial, ⟨trivial, trivial⟩⟩⟩⟩, ⟨⟨trivial, trivial⟩, trivial⟩⟩ ?_
  refine TL_end ?_
  refine TE_go ?_
  refine TC_ret ?_
  obtain rfl := sinj h0
  exact TE_ret env rfl ⟨trivial, trivial⟩ trivial
theorem lapped_lengths.ok0 {K : Nat}   (h0 : lapped_lengths K  = some ()) : Fn Try.prog 131 [] [] (.agg [.int .i64 40, .int .i64 60, .int .i64 80, .int .i64 120]) [] := lapped_lengths.ok h0
theorem lapped_lengths.fnb : fnb Try.prog 131 = true := fnb_of Try.func131 rfl
def lapped_Lengths.res  : (List (Int)) → MV
  | q0 => .im (.slice (.int .i64)) q0
def lapped_Lengths.out  : (List (Int)) → List (Nat × Option MObj)
  | _ => []
theorem lapped_Lengths.ok {K : Nat}  {r : (List (Int))} (h0 : lapped_Lengths K  = some r) : Fn Try.prog 96 [] [] (lapped_Lengths.res  r) (lapped_Lengths.out  r) := by
  refine Fn_of Try.func96 rfl (Nat.le_of_ble_eq_true rfl) fun Γ => ?_
  refine TC_seq ?_
  refine TC_reg ?_
  refine TL_ev env 1 rfl ⟨trivial, trivial⟩ ?_
  refine TL_end ?_
  refine TE_go ?_
  refine TC_seq ?_
  refine TC_reg ?_
  obtain ⟨⟨⟩, hr, h0⟩ := bnd h0
  refine TL_callB [] (lapped_lengths.ok0 hr) lapped_lengths.fnb rfl ⟨trivial, trivial⟩ rfl trivial rfl ?_
  refine TL_ev env 2 rfl ⟨trivial, ⟨⟨trivial, trivial⟩, trivial⟩⟩ ?_
  refine TL_end ?_
  refine TE_go ?_
  refine TC_seq ?_
  refine TC_reg ?_
  refine TL_frzc 1001 (.pair (.int .i64) (.pair (.int .i64) (.pair (.int .i64) (.int .i64)))) (40, (60, (80, 120))) rfl ?_
  refine TL_ev env 2 rfl ⟨⟨trivial, ⟨trivial, ⟨trivial, ⟨(by decide), ⟨(by decide), (by decide)⟩⟩⟩⟩⟩, ⟨trivial, trivial⟩⟩ ?_
  refine TL_end ?_
  refine TE_go ?_
  refine TC_ret ?_
  obtain rfl := sinj h0
  exact TE_ret env rfl trivial trivial
theorem lapped_Lengths.ok0 {K : Nat}  {q0 : List (Int)} (h0 : lapped_Lengths K  = some q0) : Fn Try.prog 96 [] [] (.im (.slice (.int .i64)) q0) [] := lapped_Lengths.ok h0
theorem lapped_Lengths.fnb : fnb Try.prog 96 = true := fnb_of Try.func96 rfl
def slices_Index_int_int.res (_p0 : List (Int)) (_p1 : Int) : Int → MV
  | q0 => .int .i64 q0
def slices_Index_int_int.out (_p0 : List (Int)) (_p1 : Int) : Int → List (Nat × Option MObj)
  | _ => []
theorem slices_Index_int_int.ok {K : Nat} {p0 : List (Int)} {p1 : Int} {r : Int} (h0 : slices_Index_int_int K p0 p1 = some r) : Fn Try.prog 95 [.im (.slice (.int .i64)) p0, .int .i64 p1] [] (slices_Index_int_int.res p0 p1 r) (slices_Index_int_int.out p0 p1 r) := by
  refine Fn_of Try.func95 rfl (Nat.le_of_ble_eq_true rfl) fun Γ => ?_
  refine TC_seq ?_
  refine TC_reg ?_
  refine TL_ev env 1 rfl ⟨trivial, trivial⟩ ?_
  refine TL_end ?_
  refine TE_go ?_
  refine TC_seq ?_
  refine TC_seq ?_
  refine TC_reg ?_
  refine TL_ev env 3 rfl ⟨trivial, ⟨⟨trivial, trivial⟩, ⟨trivial, trivial⟩⟩⟩ ?_
  refine TL_end ?_
  refine TE_go ?_
  obtain ⟨z1, h1, h0⟩ := bnd h0
  refine TC_cut (α := Unit) (fun _ => z1 = .inl ()) (fun _ => []) (fun _ => []) ?_ ?_
  · refine TC_blk ?_
    refine TC_loop (α := Int) (fun n s => slices_Index_int_int.l0 K p0 p1 (p0.length : Int) n s = some z1) (fun s => [(0, .im (.slice (.int .i64)) p0), (1, .int .i64 p1), (7, .int .i64 (p0.length : Int)), (8, .int .i64 s)]) (fun s => []) K ?_ ?_
    · exact SP_ren [] _ h1 ⟨rfl, rfl, rfl, rfl, trivial⟩ trivial rfl
    rintro n x5 h1
    rcases n with _ | n
    · exact (nsome h1).elim
    replace h1 : slices_Index_int_int.r0 K p0 p1 (p0.length : Int) (slices_Index_int_int.l0 K p0 p1 (p0.length : Int) n) x5 = some z1 := h1
    refine TC_seq ?_
    refine TC_reg ?_
    refine TL_ev env 1 rfl ⟨⟨trivial, ⟨trivial, trivial⟩⟩, trivial⟩ ?_
    refine TL_end ?_
    refine TE_go ?_
    refine TC_seq ?_
    refine TC_cond rfl (fun hb => ?_) (fun hb => ?_)
    · replace h1 := bif_t h1 hb
      refine TC_skip ?_
      refine TE_go ?_
      refine TC_seq ?_
      refine TC_blk ?_
      refine TC_seq ?_
      refine TC_reg ?_
      refine TL_ev env 2 rfl ⟨trivial, ⟨trivial, trivial⟩⟩ ?_
      refine TL_end ?_
      refine TE_go ?_
      refine TC_seq ?_
      refine TC_reg ?_
      obtain ⟨g, h1⟩ := gd_t h1
      refine TL_ev env 6 rfl ⟨trivial, ⟨trivial, ⟨trivial, ⟨⟨trivial, ⟨trivial, ⟨g.1, g.2⟩⟩⟩, ⟨⟨trivial, trivial⟩, ⟨⟨trivial, ⟨trivial, trivial⟩⟩, trivial⟩⟩⟩⟩⟩⟩ ?_
      refine TL_end ?_
      refine TE_go ?_
      refine TC_cond rfl (fun hb => ?_) (fun hb => ?_)
      · replace h1 := bif_t h1 hb
        refine TC_seq ?_
        refine TC_reg ?_
        refine TL_ev env 2 rfl ⟨trivial, ⟨trivial, trivial⟩⟩ ?_
        refine TL_end ?_
        refine TE_go ?_
        refine TC_ret ?_
        refine tbr ?_
        refine tsr ?_
        refine tsr ?_
        refine tbr ?_
        refine tsr ?_
        refine tsr ?_
        obtain rfl := sinj h1
        obtain rfl := sinj h0
        exact TE_ret env rfl trivial trivial
      · replace h1 := bif_f h1 hb
        refine TC_skip ?_
        refine tbn ?_
        refine TE_go ?_
        refine TC_reg ?_
        refine TL_ev env 2 rfl ⟨⟨trivial, ⟨trivial, trivial⟩⟩, ⟨trivial, trivial⟩⟩ ?_
        refine TL_end ?_
        refine tsn ?_
        exact TE_nextr [] n (Nat.lt_succ_self n) _ h1 ⟨rfl, rfl, rfl, rfl, trivial⟩ trivial rfl
    · replace h1 := bif_f h1 hb
      refine TC_exit ?_
      refine tsx ?_
      refine tsx ?_
      refine tbe ?_
      obtain rfl := sinj h1
      refine tsn ?_
      exact SP_ren [] () rfl trivial trivial rfl
  · rintro ⟨⟩ rfl
    refine TE_go ?_
    refine TC_seq ?_
    refine TC_reg ?_
    refine TL_ev env 1 rfl ⟨trivial, trivial⟩ ?_
    refine TL_end ?_
    refine TE_go ?_
    refine TC_ret ?_
    obtain rfl := sinj h0
    exact TE_ret env rfl trivial trivial
theorem slices_Index_int_int.ok0 {K : Nat} {p0 : List (Int)} {p1 : Int} {q0 : Int} (h0 : slices_Index_int_int K p0 p1 = some q0) : Fn Try.prog 95 [.im (.slice (.int .i64)) p0, .int .i64 p1] [] (.int .i64 q0) [] := slices_Index_int_int.ok h0
theorem slices_Index_int_int.fnb : fnb Try.prog 95 = true := fnb_of Try.func95 rfl
def slices_Contains_int_int.res (_p0 : List (Int)) (_p1 : Int) : Bool → MV
  | q0 => .bool q0
def slices_Contains_int_int.out (_p0 : List (Int)) (_p1 : Int) : Bool → List (Nat × Option MObj)
  | _ => []
theorem slices_Contains_int_int.ok {K : Nat} {p0 : List (Int)} {p1 : Int} {r : Bool} (h0 : slices_Contains_int_int K p0 p1 = some r) : Fn Try.prog 130 [.im (.slice (.int .i64)) p0, .int .i64 p1] [] (slices_Contains_int_int.res p0 p1 r) (slices_Contains_int_int.out p0 p1 r) := by
  refine Fn_of Try.func130 rfl (Nat.le_of_ble_eq_true rfl) fun Γ => ?_
  refine TC_seq ?_
  refine TC_reg ?_
  refine TL_ev env 1 rfl ⟨trivial, trivial⟩ ?_
  refine TL_end ?_
  refine TE_go ?_
  refine TC_seq ?_
  refine TC_reg ?_
  refine TL_ev env 2 rfl ⟨trivial, ⟨trivial, trivial⟩⟩ ?_
  obtain ⟨r2, hr, h0⟩ := bnd h0
  refine TL_callB [] (slices_Index_int_int.ok0 hr) slices_Index_int_int.fnb rfl ⟨trivial, ⟨trivial, ⟨trivial, trivial⟩⟩⟩ rfl trivial rfl ?_
  refine TL_ev env 2 rfl ⟨⟨trivial, ⟨trivial, trivial⟩⟩, ⟨trivial, trivial⟩⟩ ?_
  refine TL_end ?_
  refine TE_go ?_
  refine TC_ret ?_
  obtain rfl := sinj h0
  exact TE_ret env rfl trivial trivial
theorem slices_Contains_int_int.ok0 {K : Nat} {p0 : List (Int)} {p1 : Int} {q0 : Bool} (h0 : slices_Contains_int_int K p0 p1 = some q0) : Fn Try.prog 130 [.im (.slice (.int .i64)) p0, .int .i64 p1] [] (.bool q0) [] := slices_Contains_int_int.ok h0
theorem slices_Contains_int_int.fnb : fnb Try.prog 130 = true := fnb_of Try.func130 rfl
def format_fields.res (_p0 : Int) (_p1 : Int) (_p2 : Int) (_p3 : Int) (_p4 : Int) (_p5 : Int) (_p6 : Int) (_p7 : Int) (_p8 : Int) (_p9 : Int) : Bool → MV
  | q0 => .bool q0
def format_fields.out (_p0 : Int) (_p1 : Int) (_p2 : Int) (_p3 : Int) (_p4 : Int) (_p5 : Int) (_p6 : Int) (_p7 : Int) (_p8 : Int) (_p9 : Int) : Bool → List (Nat × Option MObj)
  | _ => []
theorem format_fields.ok {K : Nat} {p0 : Int} {p1 : Int} {p2 : Int} {p3 : Int} {p4 : Int} {p5 : Int} {p6 : Int} {p7 : Int} {p8 : Int} {p9 : Int} {r : Bool} (h0 : format_fields K p0 p1 p2 p3 p4 p5 p6 p7 p8 p9 = some r) : Fn Try.prog 87 [.agg [.int .i64 p0, .int .i64 p1, .int .i64 p2, .int .i64 p3, .int .i64 p4, .int .i64 p5, .int .i64 p6, .int .i64 p7, .int .i64 p8, .int .i64 p9]] [] (format_fields.res p0 p1 p2 p3 p4 p5 p6 p7 p8 p9 r) (format_fields.out p0 p1 p2 p3 p4 p5 p6 p7 p8 p9 r) := by
  refine Fn_of Try.func87 rfl (Nat.le_of_ble_eq_true rfl) fun Γ => ?_
  refine TC_seq ?_
  refine TC_reg ?_
  refine TL_ev env 2 rfl ⟨trivial, ⟨trivial, trivial⟩⟩ ?_
  refine TL_end ?_
  refine TE_go ?_
  refine TC_seq ?_
  refine TC_renw (A' := [(1, .p 1001 0)]) (L' := [(1001, some (.cells [.int .i64 _, .int .i64 _, .int .i64 _, .int .i64 _, .int .i64 _, .int .i64 _, .int .i64 _, .int .i64 _, .int .i64 _, .int .i64 _]))]) [] ⟨rfl, trivial⟩ ⟨rfl, trivial⟩ rfl ?_
  refine TC_drawR ⟨_, fun i => ([[], [0], [1, 0], [], [3], [4, 3, 2, 1, 0], [5, 4, 3, 2, 1, 0], [6, 5, 4, 3, 2, 1, 0], [7, 6, 5, 4, 3, 2, 1, 0]] : List (List Nat)).getD i [], fun i => ([[], [], [], [], [], [], [1010], [1010], []] : List (List Nat)).getD i [], fun i => ([[], [], [], [], [], [], [1010], [], []] : List (List Nat)).getD i []⟩ (fun i => ([[], [], [], [], [], [], [], [], []] : List (List Nat)).getD i []) (by kernel_rfl) (by kernel_rfl) ?_
  refine AJR_ev env 1 rfl (Nat.le_of_ble_eq_true rfl) rfl trivial ?_
  refine AJR_ev env 2 rfl (Nat.le_of_ble_eq_true rfl) rfl ⟨trivial, trivial⟩ ?_
  obtain ⟨r64, hr, h0⟩ := bnd h0
  refine AJR_call 3 rfl (Nat.le_of_ble_eq_true rfl) [] rfl (format_within.ok0 hr) format_within.fnb rfl ⟨trivial, ⟨trivial, ⟨trivial, ⟨trivial, trivial⟩⟩⟩⟩ rfl trivial rfl ?_
  refine AJR_ev env 4 rfl (Nat.le_of_ble_eq_true rfl) rfl trivial ?_
  refine AJR_ev env 5 rfl (Nat.le_of_ble_eq_true rfl) rfl ⟨trivial, trivial⟩ ?_
  obtain ⟨r65, hr, h0⟩ := bnd h0
  refine AJR_call 6 rfl (Nat.le_of_ble_eq_true rfl) [] rfl (format_within.ok0 hr) format_within.fnb rfl ⟨trivial, ⟨trivial, ⟨trivial, ⟨trivial, trivial⟩⟩⟩⟩ rfl trivial rfl ?_
  refine AJR_ev env 7 rfl (Nat.le_of_ble_eq_true rfl) rfl ⟨trivial, ⟨trivial, trivial⟩⟩ ?_
  obtain ⟨r66, hr, h0⟩ := bnd h0
  refine AJR_call 8 rfl (Nat.le_of_ble_eq_true rfl) [(0, 1010)] rfl (format_all.ok0 hr) format_all.fnb rfl ⟨trivial, ⟨trivial, trivial⟩⟩ rfl ⟨.inr rfl, trivial⟩ rfl ?_
  refine AJR_ev env 9 rfl (Nat.le_of_ble_eq_true rfl) rfl trivial ?_
  refine AJR_end rfl rfl rfl ?_
  refine TE_go ?_
  refine TC_seq ?_
  refine TC_seq ?_
  refine TC_reg ?_
  refine TL_ev env 2 rfl ⟨trivial, ⟨⟨trivial, trivial⟩, trivial⟩⟩ ?_
  refine TL_end ?_
  refine TE_go ?_
  refine TC_blk ?_
  refine TC_seq ?_
  refine TC_reg ?_
  refine TL_ev env 2 rfl ⟨⟨trivial, ⟨trivial, trivial⟩⟩, ⟨trivial, trivial⟩⟩ ?_
  refine TL_end ?_
  refine TE_go ?_
  refine TC_cond rfl (fun hb => ?_) (fun hb => ?_)
  · replace h0 := bif_t h0 hb
    refine TC_seq ?_
    obtain ⟨z1, h1, h0⟩ := bnd h0
    refine TC_cut (α := Bool) (fun s => z1 = s) (fun s => [(2, .bool s)]) (fun s => []) ?_ ?_
    · refine TC_renw (A' := [(1, .p 1001 0), (3, .bool _)]) (L' := [(1001, some (.cells [.int .i64 _, .int .i64 _, .int .i64 _, .int .i64 _, .int .i64 _, .int .i64 _, .int .i64 _, .int .i64 _, .int .i64 _, .int .i64 _]))]) [] ⟨rfl, rfl, trivial⟩ ⟨rfl, trivial⟩ rfl ?_
      refine TC_drawR ⟨_, fun i => ([[], [0], [1, 0], [2, 1, 0], [3, 2, 1, 0], [4, 3, 2, 1, 0], [5, 4, 3, 2, 1, 0], [6, 5, 4, 3, 2, 1, 0], [7, 6, 5, 4, 3, 2, 1, 0], [8, 7, 6, 5, 4, 3, 2, 1, 0], [1, 0], [10, 1, 0], [11, 10, 1, 0], [12, 11, 10, 1, 0], [13, 12, 11, 10, 5, 4, 3, 2, 1, 0], [14, 13, 12, 11, 10, 5, 4, 3, 2, 1, 0], [15, 14, 13, 12, 11, 10, 5, 4, 3, 2, 1, 0], [16, 15, 14, 13, 12, 11, 10, 5, 4, 3, 2, 1, 0], [17, 16, 15, 14, 13, 12, 11, 10, 5, 4, 3, 2, 1, 0], [1, 0], [19, 1, 0], [20, 19, 17, 16, 15, 14, 13, 12, 11, 10, 5, 4, 3, 2, 1, 0], [1, 0], [22, 1, 0], [1, 0], [24, 1, 0], [25, 24, 1, 0], [26, 25, 24, 23, 22, 21, 20, 19, 17, 16, 15, 14, 13, 12, 11, 10, 5, 4, 3, 2, 1, 0], [1, 0], [28, 1, 0], [1, 0], [30, 1, 0], [31, 30, 1, 0], [1, 0], [33, 1, 0], [34, 33, 32, 31, 30, 1, 0], [35, 34, 33, 32, 31, 30, 1, 0], [36, 35, 34, 33, 32, 31, 30, 29, 28, 27, 26, 25, 24, 23, 22, 21, 20, 19, 17, 16, 15, 14, 13, 12, 11, 10, 5, 4, 3, 2, 1, 0], [1, 0], [38, 1, 0], [39, 38, 1, 0], [40, 39, 38, 37, 36, 35, 34, 33, 32, 31, 30, 29, 28, 27, 26, 25, 24, 23, 22, 21, 20, 19, 17, 16, 15, 14, 13, 12, 11, 10, 5, 4, 3, 2, 1, 0], [41, 40, 39, 38, 37, 36, 35, 34, 33, 32, 31, 30, 29, 28, 27, 26, 25, 24, 23, 22, 21, 20, 19, 17, 16, 15, 14, 13, 12, 11, 10, 5, 4, 3, 2, 1, 0], [42, 41, 40, 39, 38, 37, 36, 35, 34, 33, 32, 31, 30, 29, 28, 27, 26, 25, 24, 23, 22, 21, 20, 19, 17, 16, 15, 14, 13, 12, 11, 10, 5, 4, 3, 2, 1, 0], [43, 42, 41, 40, 39, 38, 37, 36, 35, 34, 33, 32, 31, 30, 29, 28, 27, 26, 25, 24, 23, 22, 21, 20, 19, 17, 16, 15, 14, 13, 12, 11, 10, 5, 4, 3, 2, 1, 0], [44, 43, 42, 41, 40, 39, 38, 37, 36, 35, 34, 33, 32, 31, 30, 29, 28, 27, 26, 25, 24, 23, 22, 21, 20, 19, 17, 16, 15, 14, 13, 12, 11, 10, 5, 4, 3, 2, 1, 0], [45, 44, 43, 42, 41, 40, 39, 38, 37, 36, 35, 34, 33, 32, 31, 30, 29, 28, 27, 26, 25, 24, 23, 22, 21, 20, 19, 18, 17, 16, 15, 14, 13, 12, 11, 10, 9, 8, 7, 6, 5, 4, 3, 2, 1, 0], [46, 45, 44, 43, 42, 41, 40, 39, 38, 37, 36, 35, 34, 33, 32, 31, 30, 29, 28, 27, 26, 25, 24, 23, 22, 21, 20, 19, 18, 17, 16, 15, 14, 13, 12, 11, 10, 9, 8, 7, 6, 5, 4, 3, 2, 1, 0], [47, 46, 45, 44, 43, 42, 41, 40, 39, 38, 37, 36, 35, 34, 33, 32, 31, 30, 29, 28, 27, 26, 25, 24, 23, 22, 21, 20, 19, 18, 17, 16, 15, 14, 13, 12, 11, 10, 9, 8, 7, 6, 5, 4, 3, 2, 1, 0], [48, 47, 46, 45, 44, 43, 42, 41, 40, 39, 38, 37, 36, 35, 34, 33, 32, 31, 30, 29, 28, 27, 26, 25, 24, 23, 22, 21, 20, 19, 18, 17, 16, 15, 14, 13, 12, 11, 10, 9, 8, 7, 6, 5, 4, 3, 2, 1, 0]] : List (List Nat)).getD i [], fun i => ([[], [], [], [], [], [], [], [], [], [], [], [], [], [], [], [], [], [], [], [], [], [], [], [], [], [], [], [], [], [], [], [], [], [], [], [], [], [], [], [], [], [], [], [], [], [], [1062], [1062], [], []] : List (List Nat)).getD i [], fun i => ([[], [], [], [], [], [], [], [], [], [], [], [], [], [], [], [], [], [], [], [], [], [], [], [], [], [], [], [], [], [], [], [], [], [], [], [], [], [], [], [], [], [], [], [], [], [], [1062], [], [], []] : List (List Nat)).getD i []⟩ (fun i => ([[], [], [], [], [], [], [], [], [], [], [], [], [], [], [], [], [], [], [], [], [], [], [], [], [], [], [], [], [], [], [], [], [], [], [], [], [], [], [], [], [], [], [], [], [], [], [], [], [], []] : List (List Nat)).getD i []) (by kernel_rfl) (by kernel_rfl) ?_
      refine AJR_ev env 1 rfl (Nat.le_of_ble_eq_true rfl) rfl trivial ?_
      refine AJR_ev env 2 rfl (Nat.le_of_ble_eq_true rfl) rfl trivial ?_
      refine bif_split h1 (fun hb115 h1 => ?_) (fun hb115 h1 => ?_)
      · refine AJR_gev env 3 rfl (Nat.le_of_ble_eq_true rfl) hb115 rfl rfl rfl rfl rfl rfl trivial ?_
        refine AJR_gev env 4 rfl (Nat.le_of_ble_eq_true rfl) hb115 rfl rfl rfl rfl rfl rfl ⟨trivial, trivial⟩ ?_
        refine AJR_gev env 5 rfl (Nat.le_of_ble_eq_true rfl) hb115 rfl rfl rfl rfl rfl rfl ⟨trivial, ⟨trivial, trivial⟩⟩ ?_
        refine AJR_gev env 6 rfl (Nat.le_of_ble_eq_true rfl) hb115 rfl rfl rfl rfl rfl rfl trivial ?_
        refine AJR_ev env 7 rfl (Nat.le_of_ble_eq_true rfl) rfl (fun eg => trivial) ?_
        refine AJR_ev env 8 rfl (Nat.le_of_ble_eq_true rfl) rfl (fun eg => ⟨fun e => e, trivial⟩) ?_
        refine AJR_ev env 9 rfl (Nat.le_of_ble_eq_true rfl) rfl (fun eg => ⟨fun e => e, ⟨trivial, trivial⟩⟩) ?_
        refine AJR_gev env 10 rfl (Nat.le_of_ble_eq_true rfl) hb115 rfl rfl rfl rfl rfl rfl ⟨trivial, ⟨trivial, fun e => e⟩⟩ ?_
        refine AJR_gev env 11 rfl (Nat.le_of_ble_eq_true rfl) hb115 rfl rfl rfl rfl rfl rfl trivial ?_
        refine AJR_gev env 12 rfl (Nat.le_of_ble_eq_true rfl) hb115 rfl rfl rfl rfl rfl rfl ⟨trivial, trivial⟩ ?_
        refine AJR_gev env 13 rfl (Nat.le_of_ble_eq_true rfl) hb115 rfl rfl rfl rfl rfl rfl ⟨trivial, ⟨trivial, (by decide)⟩⟩ ?_
        refine AJR_gev env 14 rfl (Nat.le_of_ble_eq_true rfl) hb115 rfl rfl rfl rfl rfl rfl ⟨trivial, ⟨trivial, trivial⟩⟩ ?_
        refine AJR_gev env 15 rfl (Nat.le_of_ble_eq_true rfl) hb115 rfl rfl rfl rfl rfl rfl trivial ?_
        refine bif_split h1 (fun hb118 h1 => ?_) (fun hb118 h1 => ?_)
        · refine AJR_gev env 16 rfl (Nat.le_of_ble_eq_true rfl) hb118 rfl rfl rfl rfl rfl rfl trivial ?_
          refine AJR_gev env 17 rfl (Nat.le_of_ble_eq_true rfl) hb118 rfl rfl rfl rfl rfl rfl ⟨trivial, trivial⟩ ?_
          obtain ⟨r119, hr, h1⟩ := bnd h1
          refine AJR_gcall 18 rfl (Nat.le_of_ble_eq_true rfl) hb118 [] rfl rfl rfl rfl rfl (format_within.ok0 hr) format_within.fnb rfl ⟨trivial, ⟨trivial, ⟨trivial, ⟨trivial, trivial⟩⟩⟩⟩ rfl trivial rfl ?_
          refine AJR_gev env 19 rfl (Nat.le_of_ble_eq_true rfl) hb115 rfl rfl rfl rfl rfl rfl ⟨trivial, ⟨trivial, trivial⟩⟩ ?_
          refine AJR_gev env 20 rfl (Nat.le_of_ble_eq_true rfl) hb115 rfl rfl rfl rfl rfl rfl trivial ?_
          refine AJR_gev env 21 rfl (Nat.le_of_ble_eq_true rfl) hb115 rfl rfl rfl rfl rfl rfl ⟨trivial, trivial⟩ ?_
          obtain ⟨r121, hr, h1⟩ := bnd h1
          refine AJR_gcall 22 rfl (Nat.le_of_ble_eq_true rfl) hb115 [] rfl rfl rfl rfl rfl (format_within.ok0 hr) format_within.fnb rfl ⟨trivial, ⟨trivial, ⟨trivial, ⟨trivial, trivial⟩⟩⟩⟩ rfl trivial rfl ?_
          refine AJR_gev env 23 rfl (Nat.le_of_ble_eq_true rfl) hb115 rfl rfl rfl rfl rfl rfl trivial ?_
          refine AJR_gev env 24 rfl (Nat.le_of_ble_eq_true rfl) hb115 rfl rfl rfl rfl rfl rfl ⟨trivial, trivial⟩ ?_
          refine AJR_gev env 25 rfl (Nat.le_of_ble_eq_true rfl) hb115 rfl rfl rfl rfl rfl rfl trivial ?_
          refine AJR_gev env 26 rfl (Nat.le_of_ble_eq_true rfl) hb115 rfl rfl rfl rfl rfl rfl ⟨trivial, trivial⟩ ?_
          refine AJR_gev env 27 rfl (Nat.le_of_ble_eq_true rfl) hb115 rfl rfl rfl rfl rfl rfl ⟨trivial, ⟨trivial, trivial⟩⟩ ?_
          obtain ⟨r123, hr, h1⟩ := bnd h1
          refine AJR_gcall 28 rfl (Nat.le_of_ble_eq_true rfl) hb115 [] rfl rfl rfl rfl rfl (format_within.ok0 hr) format_within.fnb rfl ⟨trivial, ⟨trivial, ⟨trivial, ⟨trivial, trivial⟩⟩⟩⟩ rfl trivial rfl ?_
          refine AJR_gev env 29 rfl (Nat.le_of_ble_eq_true rfl) hb115 rfl rfl rfl rfl rfl rfl trivial ?_
          refine AJR_gev env 30 rfl (Nat.le_of_ble_eq_true rfl) hb115 rfl rfl rfl rfl rfl rfl ⟨trivial, trivial⟩ ?_
          refine AJR_gev env 31 rfl (Nat.le_of_ble_eq_true rfl) hb115 rfl rfl rfl rfl rfl rfl trivial ?_
          refine AJR_gev env 32 rfl (Nat.le_of_ble_eq_true rfl) hb115 rfl rfl rfl rfl rfl rfl ⟨trivial, trivial⟩ ?_
          refine AJR_gev env 33 rfl (Nat.le_of_ble_eq_true rfl) hb115 rfl rfl rfl rfl rfl rfl ⟨trivial, ⟨trivial, trivial⟩⟩ ?_
          refine AJR_gev env 34 rfl (Nat.le_of_ble_eq_true rfl) hb115 rfl rfl rfl rfl rfl rfl trivial ?_
          refine AJR_gev env 35 rfl (Nat.le_of_ble_eq_true rfl) hb115 rfl rfl rfl rfl rfl rfl ⟨trivial, trivial⟩ ?_
          refine AJR_gev env 36 rfl (Nat.le_of_ble_eq_true rfl) hb115 rfl rfl rfl rfl rfl rfl ⟨trivial, ⟨trivial, trivial⟩⟩ ?_
          refine AJR_gev env 37 rfl (Nat.le_of_ble_eq_true rfl) hb115 rfl rfl rfl rfl rfl rfl ⟨trivial, ⟨trivial, trivial⟩⟩ ?_
          obtain ⟨r127, hr, h1⟩ := bnd h1
          refine AJR_gcall 38 rfl (Nat.le_of_ble_eq_true rfl) hb115 [] rfl rfl rfl rfl rfl (format_within.ok0 hr) format_within.fnb rfl ⟨trivial, ⟨trivial, ⟨trivial, ⟨trivial, trivial⟩⟩⟩⟩ rfl trivial rfl ?_
          refine AJR_gev env 39 rfl (Nat.le_of_ble_eq_true rfl) hb115 rfl rfl rfl rfl rfl rfl trivial ?_
          refine AJR_gev env 40 rfl (Nat.le_of_ble_eq_true rfl) hb115 rfl rfl rfl rfl rfl rfl ⟨trivial, trivial⟩ ?_
          refine AJR_gev env 41 rfl (Nat.le_of_ble_eq_true rfl) hb115 rfl rfl rfl rfl rfl rfl ⟨trivial, ⟨trivial, trivial⟩⟩ ?_
          refine AJR_gev env 42 rfl (Nat.le_of_ble_eq_true rfl) hb115 rfl rfl rfl rfl rfl rfl trivial ?_
          refine AJR_ev env 43 rfl (Nat.le_of_ble_eq_true rfl) rfl (fun eg => trivial) ?_
          refine AJR_ev env 44 rfl (Nat.le_of_ble_eq_true rfl) rfl (fun eg => ⟨fun e => e, trivial⟩) ?_
          refine AJR_ev env 45 rfl (Nat.le_of_ble_eq_true rfl) rfl (fun eg => ⟨fun e => e, ⟨trivial, trivial⟩⟩) ?_
          refine AJR_gev env 46 rfl (Nat.le_of_ble_eq_true rfl) hb115 rfl rfl rfl rfl rfl rfl ⟨trivial, ⟨fun e => e, trivial⟩⟩ ?_
          refine AJR_gev env 47 rfl (Nat.le_of_ble_eq_true rfl) hb115 rfl rfl rfl rfl rfl rfl ⟨trivial, ⟨trivial, ⟨trivial, ⟨trivial, ⟨trivial, ⟨trivial, trivial⟩⟩⟩⟩⟩⟩ ?_
          obtain ⟨r130, hr, h1⟩ := bnd h1
          refine AJR_gcall 48 rfl (Nat.le_of_ble_eq_true rfl) hb115 [(0, 1062)] rfl rfl rfl rfl rfl (format_all.ok0 hr) format_all.fnb rfl ⟨trivial, ⟨trivial, trivial⟩⟩ rfl ⟨.inr rfl, trivial⟩ rfl ?_
          refine AJR_ev env 49 rfl (Nat.le_of_ble_eq_true rfl) rfl ⟨trivial, ⟨trivial, trivial⟩⟩ ?_
          refine AJR_ev env 50 rfl (Nat.le_of_ble_eq_true rfl) rfl trivial ?_
          refine AJR_end rfl rfl rfl ?_
          obtain rfl := sinj h1
          refine tsn ?_
          exact SP_ren [] _ rfl ⟨rfl, trivial⟩ trivial rfl
        · refine AJR_gskip (.bool false) 16 rfl (Nat.le_of_ble_eq_true rfl) hb118 rfl rfl rfl rfl rfl rfl (by decide) ?_
          refine AJR_gskip (.bool false) 17 rfl (Nat.le_of_ble_eq_true rfl) hb118 rfl rfl rfl rfl rfl rfl (by decide) ?_
          refine AJR_gskip (.bool false) 18 rfl (Nat.le_of_ble_eq_true rfl) hb118 rfl rfl rfl rfl rfl rfl (by decide) ?_
          refine AJR_gev env 19 rfl (Nat.le_of_ble_eq_true rfl) hb115 rfl rfl rfl rfl rfl rfl ⟨trivial, ⟨fun e => (tff (e.symm.trans hb118)).elim, trivial⟩⟩ ?_
          refine AJR_gev env 20 rfl (Nat.le_of_ble_eq_true rfl) hb115 rfl rfl rfl rfl rfl rfl trivial ?_
          refine AJR_gev env 21 rfl (Nat.le_of_ble_eq_true rfl) hb115 rfl rfl rfl rfl rfl rfl ⟨trivial, trivial⟩ ?_
          obtain ⟨r133, hr, h1⟩ := bnd h1
          refine AJR_gcall 22 rfl (Nat.le_of_ble_eq_true rfl) hb115 [] rfl rfl rfl rfl rfl (format_within.ok0 hr) format_within.fnb rfl ⟨trivial, ⟨trivial, ⟨trivial, ⟨trivial, trivial⟩⟩⟩⟩ rfl trivial rfl ?_
          refine AJR_gev env 23 rfl (Nat.le_of_ble_eq_true rfl) hb115 rfl rfl rfl rfl rfl rfl trivial ?_
          refine AJR_gev env 24 rfl (Nat.le_of_ble_eq_true rfl) hb115 rfl rfl rfl rfl rfl rfl ⟨trivial, trivial⟩ ?_
          refine AJR_gev env 25 rfl (Nat.le_of_ble_eq_true rfl) hb115 rfl rfl rfl rfl rfl rfl trivial ?_
          refine AJR_gev env 26 rfl (Nat.le_of_ble_eq_true rfl) hb115 rfl rfl rfl rfl rfl rfl ⟨trivial, trivial⟩ ?_
          refine AJR_gev env 27 rfl (Nat.le_of_ble_eq_true rfl) hb115 rfl rfl rfl rfl rfl rfl ⟨trivial, ⟨trivial, trivial⟩⟩ ?_
          obtain ⟨r135, hr, h1⟩ := bnd h1
          refine AJR_gcall 28 rfl (Nat.le_of_ble_eq_true rfl) hb115 [] rfl rfl rfl rfl rfl (format_within.ok0 hr) format_within.fnb rfl ⟨trivial, ⟨trivial, ⟨trivial, ⟨trivial, trivial⟩⟩⟩⟩ rfl trivial rfl ?_
          refine AJR_gev env 29 rfl (Nat.le_of_ble_eq_true rfl) hb115 rfl rfl rfl rfl rfl rfl trivial ?_
          refine AJR_gev env 30 rfl (Nat.le_of_ble_eq_true rfl) hb115 rfl rfl rfl rfl rfl rfl ⟨trivial, trivial⟩ ?_
          refine AJR_gev env 31 rfl (Nat.le_of_ble_eq_true rfl) hb115 rfl rfl rfl rfl rfl rfl trivial ?_
          refine AJR_gev env 32 rfl (Nat.le_of_ble_eq_true rfl) hb115 rfl rfl rfl rfl rfl rfl ⟨trivial, trivial⟩ ?_
          refine AJR_gev env 33 rfl (Nat.le_of_ble_eq_true rfl) hb115 rfl rfl rfl rfl rfl rfl ⟨trivial, ⟨trivial, trivial⟩⟩ ?_
          refine AJR_gev env 34 rfl (Nat.le_of_ble_eq_true rfl) hb115 rfl rfl rfl rfl rfl rfl trivial ?_
          refine AJR_gev env 35 rfl (Nat.le_of_ble_eq_true rfl) hb115 rfl rfl rfl rfl rfl rfl ⟨trivial, trivial⟩ ?_
          refine AJR_gev env 36 rfl (Nat.le_of_ble_eq_true rfl) hb115 rfl rfl rfl rfl rfl rfl ⟨trivial, ⟨trivial, trivial⟩⟩ ?_
          refine AJR_gev env 37 rfl (Nat.le_of_ble_eq_true rfl) hb115 rfl rfl rfl rfl rfl rfl ⟨trivial, ⟨trivial, trivial⟩⟩ ?_
          obtain ⟨r139, hr, h1⟩ := bnd h1
          refine AJR_gcall 38 rfl (Nat.le_of_ble_eq_true rfl) hb115 [] rfl rfl rfl rfl rfl (format_within.ok0 hr) format_within.fnb rfl ⟨trivial, ⟨trivial, ⟨trivial, ⟨trivial, trivial⟩⟩⟩⟩ rfl trivial rfl ?_
          refine AJR_gev env 39 rfl (Nat.le_of_ble_eq_true rfl) hb115 rfl rfl rfl rfl rfl rfl trivial ?_
          refine AJR_gev env 40 rfl (Nat.le_of_ble_eq_true rfl) hb115 rfl rfl rfl rfl rfl rfl ⟨trivial, trivial⟩ ?_
          refine AJR_gev env 41 rfl (Nat.le_of_ble_eq_true rfl) hb115 rfl rfl rfl rfl rfl rfl ⟨trivial, ⟨trivial, trivial⟩⟩ ?_
          refine AJR_gev env 42 rfl (Nat.le_of_ble_eq_true rfl) hb115 rfl rfl rfl rfl rfl rfl trivial ?_
          refine AJR_ev env 43 rfl (Nat.le_of_ble_eq_true rfl) rfl (fun eg => trivial) ?_
          refine AJR_ev env 44 rfl (Nat.le_of_ble_eq_true rfl) rfl (fun eg => ⟨fun e => e, trivial⟩) ?_
          refine AJR_ev env 45 rfl (Nat.le_of_ble_eq_true rfl) rfl (fun eg => ⟨fun e => e, ⟨trivial, trivial⟩⟩) ?_
          refine AJR_gev env 46 rfl (Nat.le_of_ble_eq_true rfl) hb115 rfl rfl rfl rfl rfl rfl ⟨trivial, ⟨fun e => e, trivial⟩⟩ ?_
          refine AJR_gev env 47 rfl (Nat.le_of_ble_eq_true rfl) hb115 rfl rfl rfl rfl rfl rfl ⟨trivial, ⟨trivial, ⟨trivial, ⟨trivial, ⟨trivial, ⟨trivial, trivial⟩⟩⟩⟩⟩⟩ ?_
          obtain ⟨r142, hr, h1⟩ := bnd h1
          refine AJR_gcall 48 rfl (Nat.le_of_ble_eq_true rfl) hb115 [(0, 1062)] rfl rfl rfl rfl rfl (format_all.ok0 hr) format_all.fnb rfl ⟨trivial, ⟨trivial, trivial⟩⟩ rfl ⟨.inr rfl, trivial⟩ rfl ?_
          refine AJR_ev env 49 rfl (Nat.le_of_ble_eq_true rfl) rfl ⟨trivial, ⟨trivial, trivial⟩⟩ ?_
          refine AJR_ev env 50 rfl (Nat.le_of_ble_eq_true rfl) rfl trivial ?_
          refine AJR_end rfl rfl rfl ?_
          obtain rfl := sinj h1
          refine tsn ?_
          exact SP_ren [] _ rfl ⟨rfl, trivial⟩ trivial rfl
      · refine AJR_gskip (.bool false) 3 rfl (Nat.le_of_ble_eq_true rfl) hb115 rfl rfl rfl rfl rfl rfl (by decide) ?_
        refine AJR_gskip (.bool false) 4 rfl (Nat.le_of_ble_eq_true rfl) hb115 rfl rfl rfl rfl rfl rfl (by decide) ?_
        refine AJR_gskip (.bool false) 5 rfl (Nat.le_of_ble_eq_true rfl) hb115 rfl rfl rfl rfl rfl rfl (by decide) ?_
        refine AJR_gskip (.bool false) 6 rfl (Nat.le_of_ble_eq_true rfl) hb115 rfl rfl rfl rfl rfl rfl (by decide) ?_
        refine AJR_gskipU (.bool false) 7 rfl (Nat.le_of_ble_eq_true rfl) rfl rfl rfl rfl rfl rfl (by decide) ?_
        refine AJR_gskipU (.bool false) 8 rfl (Nat.le_of_ble_eq_true rfl) rfl rfl rfl rfl rfl rfl (by decide) ?_
        refine AJR_gskipU (.bool false) 9 rfl (Nat.le_of_ble_eq_true rfl) rfl rfl rfl rfl rfl rfl (by decide) ?_
        refine AJR_gskip (.bool false) 10 rfl (Nat.le_of_ble_eq_true rfl) hb115 rfl rfl rfl rfl rfl rfl (by decide) ?_
        refine AJR_gskip (.bool false) 11 rfl (Nat.le_of_ble_eq_true rfl) hb115 rfl rfl rfl rfl rfl rfl (by decide) ?_
        refine AJR_gskip (.bool false) 12 rfl (Nat.le_of_ble_eq_true rfl) hb115 rfl rfl rfl rfl rfl rfl (by decide) ?_
        refine AJR_gskip (.bool false) 13 rfl (Nat.le_of_ble_eq_true rfl) hb115 rfl rfl rfl rfl rfl rfl (by decide) ?_
        refine AJR_gskip (.bool false) 14 rfl (Nat.le_of_ble_eq_true rfl) hb115 rfl rfl rfl rfl rfl rfl (by decide) ?_
        refine AJR_gskip (.bool false) 15 rfl (Nat.le_of_ble_eq_true rfl) hb115 rfl rfl rfl rfl rfl rfl (by decide) ?_
        refine AJR_gskipU (.bool false) 16 rfl (Nat.le_of_ble_eq_true rfl) rfl rfl rfl rfl rfl rfl (by decide) ?_
        refine AJR_gskipU (.bool false) 17 rfl (Nat.le_of_ble_eq_true rfl) rfl rfl rfl rfl rfl rfl (by decide) ?_
        refine AJR_gskipU (.bool false) 18 rfl (Nat.le_of_ble_eq_true rfl) rfl rfl rfl rfl rfl rfl (by decide) ?_
        refine AJR_gskip (.bool false) 19 rfl (Nat.le_of_ble_eq_true rfl) hb115 rfl rfl rfl rfl rfl rfl (by decide) ?_
        refine AJR_gskip (.bool false) 20 rfl (Nat.le_of_ble_eq_true rfl) hb115 rfl rfl rfl rfl rfl rfl (by decide) ?_
        refine AJR_gskip (.bool false) 21 rfl (Nat.le_of_ble_eq_true rfl) hb115 rfl rfl rfl rfl rfl rfl (by decide) ?_
        refine AJR_gskip (.bool false) 22 rfl (Nat.le_of_ble_eq_true rfl) hb115 rfl rfl rfl rfl rfl rfl (by decide) ?_
        refine AJR_gskip (.bool false) 23 rfl (Nat.le_of_ble_eq_true rfl) hb115 rfl rfl rfl rfl rfl rfl (by decide) ?_
        refine AJR_gskip (.bool false) 24 rfl (Nat.le_of_ble_eq_true rfl) hb115 rfl rfl rfl rfl rfl rfl (by decide) ?_
        refine AJR_gskip (.bool false) 25 rfl (Nat.le_of_ble_eq_true rfl) hb115 rfl rfl rfl rfl rfl rfl (by decide) ?_
        refine AJR_gskip (.bool false) 26 rfl (Nat.le_of_ble_eq_true rfl) hb115 rfl rfl rfl rfl rfl rfl (by decide) ?_
        refine AJR_gskip (.bool false) 27 rfl (Nat.le_of_ble_eq_true rfl) hb115 rfl rfl rfl rfl rfl rfl (by decide) ?_
        refine AJR_gskip (.bool false) 28 rfl (Nat.le_of_ble_eq_true rfl) hb115 rfl rfl rfl rfl rfl rfl (by decide) ?_
        refine AJR_gskip (.bool false) 29 rfl (Nat.le_of_ble_eq_true rfl) hb115 rfl rfl rfl rfl rfl rfl (by decide) ?_
        refine AJR_gskip (.bool false) 30 rfl (Nat.le_of_ble_eq_true rfl) hb115 rfl rfl rfl rfl rfl rfl (by decide) ?_
        refine AJR_gskip (.bool false) 31 rfl (Nat.le_of_ble_eq_true rfl) hb115 rfl rfl rfl rfl rfl rfl (by decide) ?_
        refine AJR_gskip (.bool false) 32 rfl (Nat.le_of_ble_eq_true rfl) hb115 rfl rfl rfl rfl rfl rfl (by decide) ?_
        refine AJR_gskip (.bool false) 33 rfl (Nat.le_of_ble_eq_true rfl) hb115 rfl rfl rfl rfl rfl rfl (by decide) ?_
        refine AJR_gskip (.bool false) 34 rfl (Nat.le_of_ble_eq_true rfl) hb115 rfl rfl rfl rfl rfl rfl (by decide) ?_
        refine AJR_gskip (.bool false) 35 rfl (Nat.le_of_ble_eq_true rfl) hb115 rfl rfl rfl rfl rfl rfl (by decide) ?_
        refine AJR_gskip (.bool false) 36 rfl (Nat.le_of_ble_eq_true rfl) hb115 rfl rfl rfl rfl rfl rfl (by decide) ?_
        refine AJR_gskip (.bool false) 37 rfl (Nat.le_of_ble_eq_true rfl) hb115 rfl rfl rfl rfl rfl rfl (by decide) ?_
        refine AJR_gskip (.bool false) 38 rfl (Nat.le_of_ble_eq_true rfl) hb115 rfl rfl rfl rfl rfl rfl (by decide) ?_
        refine AJR_gskip (.bool false) 39 rfl (Nat.le_of_ble_eq_true rfl) hb115 rfl rfl rfl rfl rfl rfl (by decide) ?_
        refine AJR_gskip (.bool false) 40 rfl (Nat.le_of_ble_eq_true rfl) hb115 rfl rfl rfl rfl rfl rfl (by decide) ?_
        refine AJR_gskip (.bool false) 41 rfl (Nat.le_of_ble_eq_true rfl) hb115 rfl rfl rfl rfl rfl rfl (by decide) ?_
        refine AJR_gskip (.bool false) 42 rfl (Nat.le_of_ble_eq_true rfl) hb115 rfl rfl rfl rfl rfl rfl (by decide) ?_
        refine AJR_gskipU (.bool false) 43 rfl (Nat.le_of_ble_eq_true rfl) rfl rfl rfl rfl rfl rfl (by decide) ?_
        refine AJR_gskipU (.bool false) 44 rfl (Nat.le_of_ble_eq_true rfl) rfl rfl rfl rfl rfl rfl (by decide) ?_
        refine AJR_gskipU (.bool false) 45 rfl (Nat.le_of_ble_eq_true rfl) rfl rfl rfl rfl rfl rfl (by decide) ?_
        refine AJR_gskip (.bool false) 46 rfl (Nat.le_of_ble_eq_true rfl) hb115 rfl rfl rfl rfl rfl rfl (by decide) ?_
        refine AJR_gskip (.bool false) 47 rfl (Nat.le_of_ble_eq_true rfl) hb115 rfl rfl rfl rfl rfl rfl (by decide) ?_
        refine AJR_gskip (.bool false) 48 rfl (Nat.le_of_ble_eq_true rfl) hb115 rfl rfl rfl rfl rfl rfl (by decide) ?_
        refine AJR_ev env 49 rfl (Nat.le_of_ble_eq_true rfl) rfl ⟨trivial, ⟨fun e => (tff (e.symm.trans hb115)).elim, trivial⟩⟩ ?_
        refine AJR_ev env 50 rfl (Nat.le_of_ble_eq_true rfl) rfl trivial ?_
        refine AJR_end rfl rfl rfl ?_
        obtain rfl := sinj h1
        refine tsn ?_
        exact SP_ren [] _ rfl ⟨rfl, trivial⟩ trivial rfl
    · rintro x114 rfl
      refine TE_go ?_
      refine TC_ret ?_
      refine tbr ?_
      refine tsr ?_
      obtain rfl := sinj h0
      exact TE_ret env rfl trivial trivial
  · replace h0 := bif_f h0 hb
    refine TC_seq ?_
    refine TC_reg ?_
    refine TL_ev env 2 rfl ⟨⟨trivial, ⟨trivial, trivial⟩⟩, ⟨trivial, trivial⟩⟩ ?_
    refine TL_end ?_
    refine TE_go ?_
    refine TC_cond rfl (fun hb => ?_) (fun hb => ?_)
    · replace h0 := bif_t h0 hb
      refine TC_seq ?_
      obtain ⟨z1, h1, h0⟩ := bnd h0
      refine TC_cut (α := Bool) (fun s => z1 = s) (fun s => [(2, .bool s)]) (fun s => []) ?_ ?_
      · refine TC_renw (A' := [(1, .p 1001 0), (3, .bool _)]) (L' := [(1001, some (.cells [.int .i64 _, .int .i64 _, .int .i64 _, .int .i64 _, .int .i64 _, .int .i64 _, .int .i64 _, .int .i64 _, .int .i64 _, .int .i64 _]))]) [] ⟨rfl, rfl, trivial⟩ ⟨rfl, trivial⟩ rfl ?_
        refine TC_drawR ⟨_, fun i => ([[], [0], [1, 0], [1, 0], [3, 1, 0], [4, 3, 2, 1, 0], [1, 0], [6, 1, 0], [7, 6, 5, 4, 3, 2, 1, 0], [1, 0], [9, 1, 0], [10, 9, 1, 0], [11, 10, 9, 8, 7, 6, 5, 4, 3, 2, 1, 0], [12, 11, 10, 9, 8, 7, 6, 5, 4, 3, 2, 1, 0], [13, 12, 11, 10, 9, 8, 7, 6, 5, 4, 3, 2, 1, 0], [14, 13, 12, 11, 10, 9, 8, 7, 6, 5, 4, 3, 2, 1, 0], [15, 14, 13, 12, 11, 10, 9, 8, 7, 6, 5, 4, 3, 2, 1, 0], [16, 15, 14, 13, 12, 11, 10, 9, 8, 7, 6, 5, 4, 3, 2, 1, 0], [17, 16, 15, 14, 13, 12, 11, 10, 9, 8, 7, 6, 5, 4, 3, 2, 1, 0], [18, 17, 16, 15, 14, 13, 12, 11, 10, 9, 8, 7, 6, 5, 4, 3, 2, 1, 0], [19, 18, 17, 16, 15, 14, 13, 12, 11, 10, 9, 8, 7, 6, 5, 4, 3, 2, 1, 0], [20, 19, 18, 17, 16, 15, 14, 13, 12, 11, 10, 9, 8, 7, 6, 5, 4, 3, 2, 1, 0], [21, 20, 19, 18, 17, 16, 15, 14, 13, 12, 11, 10, 9, 8, 7, 6, 5, 4, 3, 2, 1, 0], [22, 21, 20, 19, 18, 17, 16, 15, 14, 13, 12, 11, 10, 9, 8, 7, 6, 5, 4, 3, 2, 1, 0], [23, 22, 21, 20, 19, 18, 17, 16, 15, 14, 13, 12, 11, 10, 9, 8, 7, 6, 5, 4, 3, 2, 1, 0], [24, 23, 22, 21, 20, 19, 18, 17, 16, 15, 14, 13, 12, 11, 10, 9, 8, 7, 6, 5, 4, 3, 2, 1, 0], [25, 24, 23, 22, 21, 20, 19, 18, 17, 16, 15, 14, 13, 12, 11, 10, 9, 8, 7, 6, 5, 4, 3, 2, 1, 0], [26, 25, 24, 23, 22, 21, 20, 19, 18, 17, 16, 15, 14, 13, 12, 11, 10, 9, 8, 7, 6, 5, 4, 3, 2, 1, 0], [27, 26, 25, 24, 23, 22, 21, 20, 19, 18, 17, 16, 15, 14, 13, 12, 11, 10, 9, 8, 7, 6, 5, 4, 3, 2, 1, 0], [28, 27, 26, 25, 24, 23, 22, 21, 20, 19, 18, 17, 16, 15, 14, 13, 12, 11, 10, 9, 8, 7, 6, 5, 4, 3, 2, 1, 0], [29, 28, 27, 26, 25, 24, 23, 22, 21, 20, 19, 18, 17, 16, 15, 14, 13, 12, 11, 10, 9, 8, 7, 6, 5, 4, 3, 2, 1, 0], [30, 29, 28, 27, 26, 25, 24, 23, 22, 21, 20, 19, 18, 17, 16, 15, 14, 13, 12, 11, 10, 9, 8, 7, 6, 5, 4, 3, 2, 1, 0], [31, 30, 29, 28, 27, 26, 25, 24, 23, 22, 21, 20, 19, 18, 17, 16, 15, 14, 13, 12, 11, 10, 9, 8, 7, 6, 5, 4, 3, 2, 1, 0], [32, 31, 30, 29, 28, 27, 26, 25, 24, 23, 22, 21, 20, 19, 18, 17, 16, 15, 14, 13, 12, 11, 10, 9, 8, 7, 6, 5, 4, 3, 2, 1, 0], [33, 32, 31, 30, 29, 28, 27, 26, 25, 24, 23, 22, 21, 20, 19, 18, 17, 16, 15, 14, 13, 12, 11, 10, 9, 8, 7, 6, 5, 4, 3, 2, 1, 0], [34, 33, 32, 31, 30, 29, 28, 27, 26, 25, 24, 23, 22, 21, 20, 19, 18, 17, 16, 15, 14, 13, 12, 11, 10, 9, 8, 7, 6, 5, 4, 3, 2, 1, 0]] : List (List Nat)).getD i [], fun i => ([[], [], [], [], [], [], [], [], [], [], [], [], [], [], [], [], [], [], [], [], [], [], [], [], [], [], [], [], [], [], [], [], [1099], [1099], [], []] : List (List Nat)).getD i [], fun i => ([[], [], [], [], [], [], [], [], [], [], [], [], [], [], [], [], [], [], [], [], [], [], [], [], [], [], [], [], [], [], [], [], [1099], [], [], []] : List (List Nat)).getD i []⟩ (fun i => ([[], [], [], [], [], [], [], [], [], [], [], [], [], [], [], [], [], [], [], [], [], [], [], [], [], [], [], [], [], [], [], [], [], [], [], []] : List (List Nat)).getD i []) (by kernel_rfl) (by kernel_rfl) ?_
        refine AJR_ev env 1 rfl (Nat.le_of_ble_eq_true rfl) rfl trivial ?_
        refine AJR_ev env 2 rfl (Nat.le_of_ble_eq_true rfl) rfl trivial ?_
        refine bif_split h1 (fun hb157 h1 => ?_) (fun hb157 h1 => ?_)
        · obtain ⟨r158, hr, h1⟩ := bnd h1
          refine AJR_gcall 3 rfl (Nat.le_of_ble_eq_true rfl) hb157 [] rfl rfl rfl rfl rfl (lapped_Lengths.ok0 hr) lapped_Lengths.fnb rfl ⟨trivial, trivial⟩ rfl trivial rfl ?_
          refine AJR_gev env 4 rfl (Nat.le_of_ble_eq_true rfl) hb157 rfl rfl rfl rfl rfl rfl trivial ?_
          refine AJR_gev env 5 rfl (Nat.le_of_ble_eq_true rfl) hb157 rfl rfl rfl rfl rfl rfl ⟨trivial, trivial⟩ ?_
          obtain ⟨r159, hr, h1⟩ := bnd h1
          refine AJR_gcall 6 rfl (Nat.le_of_ble_eq_true rfl) hb157 [] rfl rfl rfl rfl rfl (slices_Contains_int_int.ok0 hr) slices_Contains_int_int.fnb rfl ⟨trivial, ⟨trivial, ⟨trivial, trivial⟩⟩⟩ rfl trivial rfl ?_
          refine AJR_gev env 7 rfl (Nat.le_of_ble_eq_true rfl) hb157 rfl rfl rfl rfl rfl rfl trivial ?_
          refine AJR_gev env 8 rfl (Nat.le_of_ble_eq_true rfl) hb157 rfl rfl rfl rfl rfl rfl ⟨trivial, trivial⟩ ?_
          obtain ⟨r160, hr, h1⟩ := bnd h1
          refine AJR_gcall 9 rfl (Nat.le_of_ble_eq_true rfl) hb157 [] rfl rfl rfl rfl rfl (format_within.ok0 hr) format_within.fnb rfl ⟨trivial, ⟨trivial, ⟨trivial, ⟨trivial, trivial⟩⟩⟩⟩ rfl trivial rfl ?_
          refine AJR_gev env 10 rfl (Nat.le_of_ble_eq_true rfl) hb157 rfl rfl rfl rfl rfl rfl trivial ?_
          refine AJR_gev env 11 rfl (Nat.le_of_ble_eq_true rfl) hb157 rfl rfl rfl rfl rfl rfl ⟨trivial, trivial⟩ ?_
          refine AJR_gev env 12 rfl (Nat.le_of_ble_eq_true rfl) hb157 rfl rfl rfl rfl rfl rfl ⟨trivial, ⟨trivial, trivial⟩⟩ ?_
          refine AJR_gev env 13 rfl (Nat.le_of_ble_eq_true rfl) hb157 rfl rfl rfl rfl rfl rfl trivial ?_
          refine AJR_ev env 14 rfl (Nat.le_of_ble_eq_true rfl) rfl (fun eg => trivial) ?_
          refine AJR_ev env 15 rfl (Nat.le_of_ble_eq_true rfl) rfl (fun eg => ⟨fun e => e, trivial⟩) ?_
          refine AJR_ev env 16 rfl (Nat.le_of_ble_eq_true rfl) rfl (fun eg => ⟨fun e => e, ⟨trivial, trivial⟩⟩) ?_
          refine AJR_gev env 17 rfl (Nat.le_of_ble_eq_true rfl) hb157 rfl rfl rfl rfl rfl rfl ⟨trivial, ⟨fun e => e, trivial⟩⟩ ?_
          refine AJR_gev env 18 rfl (Nat.le_of_ble_eq_true rfl) hb157 rfl rfl rfl rfl rfl rfl trivial ?_
          refine AJR_ev env 19 rfl (Nat.le_of_ble_eq_true rfl) rfl (fun eg => trivial) ?_
          refine AJR_ev env 20 rfl (Nat.le_of_ble_eq_true rfl) rfl (fun eg => ⟨fun e => e, trivial⟩) ?_
          refine AJR_ev env 21 rfl (Nat.le_of_ble_eq_true rfl) rfl (fun eg => ⟨fun e => e, ⟨trivial, trivial⟩⟩) ?_
          refine AJR_gev env 22 rfl (Nat.le_of_ble_eq_true rfl) hb157 rfl rfl rfl rfl rfl rfl ⟨trivial, ⟨fun e => e, trivial⟩⟩ ?_
          refine AJR_gev env 23 rfl (Nat.le_of_ble_eq_true rfl) hb157 rfl rfl rfl rfl rfl rfl trivial ?_
          refine AJR_ev env 24 rfl (Nat.le_of_ble_eq_true rfl) rfl (fun eg => trivial) ?_
          refine AJR_ev env 25 rfl (Nat.le_of_ble_eq_true rfl) rfl (fun eg => ⟨fun e => e, trivial⟩) ?_
          refine AJR_ev env 26 rfl (Nat.le_of_ble_eq_true rfl) rfl (fun eg => ⟨fun e => e, ⟨trivial, trivial⟩⟩) ?_
          refine AJR_gev env 27 rfl (Nat.le_of_ble_eq_true rfl) hb157 rfl rfl rfl rfl rfl rfl ⟨trivial, ⟨fun e => e, trivial⟩⟩ ?_
          refine AJR_gev env 28 rfl (Nat.le_of_ble_eq_true rfl) hb157 rfl rfl rfl rfl rfl rfl trivial ?_
          refine AJR_ev env 29 rfl (Nat.le_of_ble_eq_true rfl) rfl (fun eg => trivial) ?_
          refine AJR_ev env 30 rfl (Nat.le_of_ble_eq_true rfl) rfl (fun eg => ⟨fun e => e, trivial⟩) ?_
          refine AJR_ev env 31 rfl (Nat.le_of_ble_eq_true rfl) rfl (fun eg => ⟨fun e => e, ⟨trivial, trivial⟩⟩) ?_
          refine AJR_gev env 32 rfl (Nat.le_of_ble_eq_true rfl) hb157 rfl rfl rfl rfl rfl rfl ⟨trivial, ⟨fun e => e, trivial⟩⟩ ?_
          refine AJR_gev env 33 rfl (Nat.le_of_ble_eq_true rfl) hb157 rfl rfl rfl rfl rfl rfl ⟨trivial, ⟨trivial, ⟨trivial, trivial⟩⟩⟩ ?_
          obtain ⟨r166, hr, h1⟩ := bnd h1
          refine AJR_gcall 34 rfl (Nat.le_of_ble_eq_true rfl) hb157 [(0, 1099)] rfl rfl rfl rfl rfl (format_all.ok0 hr) format_all.fnb rfl ⟨trivial, ⟨trivial, trivial⟩⟩ rfl ⟨.inr rfl, trivial⟩ rfl ?_
          refine AJR_ev env 35 rfl (Nat.le_of_ble_eq_true rfl) rfl ⟨trivial, ⟨trivial, trivial⟩⟩ ?_
          refine AJR_ev env 36 rfl (Nat.le_of_ble_eq_true rfl) rfl trivial ?_
          refine AJR_end rfl rfl rfl ?_
          obtain rfl := sinj h1
          refine tsn ?_
          exact SP_ren [] _ rfl ⟨rfl, trivial⟩ trivial rfl
        · refine AJR_gskip (.bool false) 3 rfl (Nat.le_of_ble_eq_true rfl) hb157 rfl rfl rfl rfl rfl rfl (by decide) ?_
          refine AJR_gskip (.bool false) 4 rfl (Nat.le_of_ble_eq_true rfl) hb157 rfl rfl rfl rfl rfl rfl (by decide) ?_
          refine AJR_gskip (.bool false) 5 rfl (Nat.le_of_ble_eq_true rfl) hb157 rfl rfl rfl rfl rfl rfl (by decide) ?_
          refine AJR_gskip (.bool false) 6 rfl (Nat.le_of_ble_eq_true rfl) hb157 rfl rfl rfl rfl rfl rfl (by decide) ?_
          refine AJR_gskip (.bool false) 7 rfl (Nat.le_of_ble_eq_true rfl) hb157 rfl rfl rfl rfl rfl rfl (by decide) ?_
          refine AJR_gskip (.bool false) 8 rfl (Nat.le_of_ble_eq_true rfl) hb157 rfl rfl rfl rfl rfl rfl (by decide) ?_
          refine AJR_gskip (.bool false) 9 rfl (Nat.le_of_ble_eq_true rfl) hb157 rfl rfl rfl rfl rfl rfl (by decide) ?_
          refine AJR_gskip (.bool false) 10 rfl (Nat.le_of_ble_eq_true rfl) hb157 rfl rfl rfl rfl rfl rfl (by decide) ?_
          refine AJR_gskip (.bool false) 11 rfl (Nat.le_of_ble_eq_true rfl) hb157 rfl rfl rfl rfl rfl rfl (by decide) ?_
          refine AJR_gskip (.bool false) 12 rfl (Nat.le_of_ble_eq_true rfl) hb157 rfl rfl rfl rfl rfl rfl (by decide) ?_
          refine AJR_gskip (.bool false) 13 rfl (Nat.le_of_ble_eq_true rfl) hb157 rfl rfl rfl rfl rfl rfl (by decide) ?_
          refine AJR_gskipU (.bool false) 14 rfl (Nat.le_of_ble_eq_true rfl) rfl rfl rfl rfl rfl rfl (by decide) ?_
          refine AJR_gskipU (.bool false) 15 rfl (Nat.le_of_ble_eq_true rfl) rfl rfl rfl rfl rfl rfl (by decide) ?_
          refine AJR_gskipU (.bool false) 16 rfl (Nat.le_of_ble_eq_true rfl) rfl rfl rfl rfl rfl rfl (by decide) ?_
          refine AJR_gskip (.bool false) 17 rfl (Nat.le_of_ble_eq_true rfl) hb157 rfl rfl rfl rfl rfl rfl (by decide) ?_
          refine AJR_gskip (.bool false) 18 rfl (Nat.le_of_ble_eq_true rfl) hb157 rfl rfl rfl rfl rfl rfl (by decide) ?_
          refine AJR_gskipU (.bool false) 19 rfl (Nat.le_of_ble_eq_true rfl) rfl rfl rfl rfl rfl rfl (by decide) ?_
          refine AJR_gskipU (.bool false) 20 rfl (Nat.le_of_ble_eq_true rfl) rfl rfl rfl rfl rfl rfl (by decide) ?_
          refine AJR_gskipU (.bool false) 21 rfl (Nat.le_of_ble_eq_true rfl) rfl rfl rfl rfl rfl rfl (by decide) ?_
          refine AJR_gskip (.bool false) 22 rfl (Nat.le_of_ble_eq_true rfl) hb157 rfl rfl rfl rfl rfl rfl (by decide) ?_
          refine AJR_gskip (.bool false) 23 rfl (Nat.le_of_ble_eq_true rfl) hb157 rfl rfl rfl rfl rfl rfl (by decide) ?_
          refine AJR_gskipU (.bool false) 24 rfl (Nat.le_of_ble_eq_true rfl) rfl rfl rfl rfl rfl rfl (by decide) ?_
          refine AJR_gskipU (.bool false) 25 rfl (Nat.le_of_ble_eq_true rfl) rfl rfl rfl rfl rfl rfl (by decide) ?_
          refine AJR_gskipU (.bool false) 26 rfl (Nat.le_of_ble_eq_true rfl) rfl rfl rfl rfl rfl rfl (by decide) ?_
          refine AJR_gskip (.bool false) 27 rfl (Nat.le_of_ble_eq_true rfl) hb157 rfl rfl rfl rfl rfl rfl (by decide) ?_
          refine AJR_gskip (.bool false) 28 rfl (Nat.le_of_ble_eq_true rfl) hb157 rfl rfl rfl rfl rfl rfl (by decide) ?_
          refine AJR_gskipU (.bool false) 29 rfl (Nat.le_of_ble_eq_true rfl) rfl rfl rfl rfl rfl rfl (by decide) ?_
          refine AJR_gskipU (.bool false) 30 rfl (Nat.le_of_ble_eq_true rfl) rfl rfl rfl rfl rfl rfl (by decide) ?_
          refine AJR_gskipU (.bool false) 31 rfl (Nat.le_of_ble_eq_true rfl) rfl rfl rfl rfl rfl rfl (by decide) ?_
          refine AJR_gskip (.bool false) 32 rfl (Nat.le_of_ble_eq_true rfl) hb157 rfl rfl rfl rfl rfl rfl (by decide) ?_
          refine AJR_gskip (.bool false) 33 rfl (Nat.le_of_ble_eq_true rfl) hb157 rfl rfl rfl rfl rfl rfl (by decide) ?_
          refine AJR_gskip (.bool false) 34 rfl (Nat.le_of_ble_eq_true rfl) hb157 rfl rfl rfl rfl rfl rfl (by decide) ?_
          refine AJR_ev env 35 rfl (Nat.le_of_ble_eq_true rfl) rfl ⟨trivial, ⟨fun e => (tff (e.symm.trans hb157)).elim, trivial⟩⟩ ?_
          refine AJR_ev env 36 rfl (Nat.le_of_ble_eq_true rfl) rfl trivial ?_
          refine AJR_end rfl rfl rfl ?_
          obtain rfl := sinj h1
          refine tsn ?_
          exact SP_ren [] _ rfl ⟨rfl, trivial⟩ trivial rfl
      · rintro x156 rfl
        refine TE_go ?_
        refine TC_ret ?_
        refine tbr ?_
        refine tsr ?_
        obtain rfl := sinj h0
        exact TE_ret env rfl trivial trivial
    · replace h0 := bif_f h0 hb
      refine TC_skip ?_
      refine tbn ?_
      refine TE_go ?_
      refine TC_seq ?_
      refine TC_reg ?_
      refine TL_ev env 1 rfl ⟨trivial, trivial⟩ ?_
      refine TL_end ?_
      refine TE_go ?_
      refine TC_ret ?_
      obtain rfl := sinj h0
      exact TE_ret env rfl trivial trivial
theorem format_fields.ok0 {K : Nat} {p0 : Int} {p1 : Int} {p2 : Int} {p3 : Int} {p4 : Int} {p5 : Int} {p6 : Int} {p7 : Int} {p8 : Int} {p9 : Int} {q0 : Bool} (h0 : format_fields K p0 p1 p2 p3 p4 p5 p6 p7 p8 p9 = some q0) : Fn Try.prog 87 [.agg [.int .i64 p0, .int .i64 p1, .int .i64 p2, .int .i64 p3, .int .i64 p4, .int .i64 p5, .int .i64 p6, .int .i64 p7, .int .i64 p8, .int .i64 p9]] [] (.bool q0) [] := format_fields.ok h0
theorem format_fields.fnb : fnb Try.prog 87 = true := fnb_of Try.func87 rfl
def format_bits.res (_p0 : Int) (_p1 : Int) (_p2 : Int) (_p3 : Int) (_p4 : Int) (_p5 : Int) (_p6 : Int) (_p7 : Int) (_p8 : Int) (_p9 : Int) : Int → MV
  | q0 => .int .i64 q0
def format_bits.out (_p0 : Int) (_p1 : Int) (_p2 : Int) (_p3 : Int) (_p4 : Int) (_p5 : Int) (_p6 : Int) (_p7 : Int) (_p8 : Int) (_p9 : Int) : Int → List (Nat × Option MObj)
  | _ => []
theorem format_bits.ok {K : Nat} {p0 : Int} {p1 : Int} {p2 : Int} {p3 : Int} {p4 : Int} {p5 : Int} {p6 : Int} {p7 : Int} {p8 : Int} {p9 : Int} {r : Int} (h0 : format_bits K p0 p1 p2 p3 p4 p5 p6 p7 p8 p9 = some r) : Fn Try.prog 91 [.agg [.int .i64 p0, .int .i64 p1, .int .i64 p2, .int .i64 p3, .int .i64 p4, .int .i64 p5, .int .i64 p6, .int .i64 p7, .int .i64 p8, .int .i64 p9]] [] (format_bits.res p0 p1 p2 p3 p4 p5 p6 p7 p8 p9 r) (format_bits.out p0 p1 p2 p3 p4 p5 p6 p7 p8 p9 r) := by
  refine Fn_of Try.func91 rfl (Nat.le_of_ble_eq_true rfl) fun Γ => ?_
  refine TC_seq ?_
  refine TC_reg ?_
  refine TL_ev env 2 rfl ⟨trivial, ⟨trivial, trivial⟩⟩ ?_
  refine TL_end ?_
  refine TE_go ?_
  refine TC_seq ?_
  refine TC_seq ?_
  refine TC_reg ?_
  refine TL_ev env 3 rfl ⟨trivial, ⟨⟨trivial, trivial⟩, ⟨⟨trivial, ⟨trivial, trivial⟩⟩, trivial⟩⟩⟩ ?_
  refine TL_end ?_
  refine TE_go ?_
  refine TC_cond rfl (fun hb => ?_) (fun hb => ?_)
  · replace h0 := bif_t h0 hb
    refine TC_seq ?_
    refine TC_reg ?_
    refine TL_ev env 4 rfl ⟨trivial, ⟨⟨trivial, trivial⟩, ⟨⟨trivial, ⟨trivial, trivial⟩⟩, ⟨trivial, trivial⟩⟩⟩⟩ ?_
    refine TL_end ?_
    refine TE_go ?_
    refine TC_ret ?_
    refine tsr ?_
    obtain rfl := sinj h0
    exact TE_ret env rfl trivial trivial
  · replace h0 := bif_f h0 hb
    refine TC_skip ?_
    refine TE_go ?_
    refine TC_seq ?_
    refine TC_reg ?_
    refine TL_ev env 20 rfl ⟨trivial, ⟨⟨trivial, trivial⟩, ⟨trivial, ⟨⟨trivial, trivial⟩, ⟨⟨trivial, ⟨trivial, trivial⟩⟩, ⟨⟨trivial, ⟨trivial, trivial⟩⟩, ⟨trivial, ⟨⟨trivial, trivial⟩, ⟨⟨trivial, ⟨trivial, trivial⟩⟩, ⟨trivial, ⟨⟨trivial, trivial⟩, ⟨⟨trivial, ⟨trivial, trivial⟩⟩, ⟨⟨trivial, ⟨trivial, trivial⟩⟩, ⟨trivial, ⟨⟨trivial, trivial⟩, ⟨trivial, ⟨⟨trivial, trivial⟩, ⟨⟨trivial, ⟨trivial, trivial⟩⟩, ⟨⟨trivial, ⟨trivial, trivial⟩⟩, ⟨trivial, trivial⟩⟩⟩⟩⟩⟩⟩⟩⟩⟩⟩⟩⟩⟩⟩⟩⟩⟩⟩⟩ ?_
    refine TL_end ?_
    refine TE_go ?_
    refine TC_ret ?_
    obtain rfl := sinj h0
    exact TE_ret env rfl trivial trivial
theorem format_bits.ok0 {K : Nat} {p0 : Int} {p1 : Int} {p2 : Int} {p3 : Int} {p4 : Int} {p5 : Int} {p6 : Int} {p7 : Int} {p8 : Int} {p9 : Int} {q0 : Int} (h0 : format_bits K p0 p1 p2 p3 p4 p5 p6 p7 p8 p9 = some q0) : Fn Try.prog 91 [.agg [.int .i64 p0, .int .i64 p1, .int .i64 p2, .int .i64 p3, .int .i64 p4, .int .i64 p5, .int .i64 p6, .int .i64 p7, .int .i64 p8, .int .i64 p9]] [] (.int .i64 q0) [] := format_bits.ok h0
theorem format_bits.fnb : fnb Try.prog 91 = true := fnb_of Try.func91 rfl
def format_payload.res (_p0 : Int) (_p1 : Int) (_p2 : Int) (_p3 : Int) (_p4 : Int) (_p5 : Int) (_p6 : Int) (_p7 : Int) (_p8 : Int) (_p9 : Int) : Int → MV
  | q0 => .int .i64 q0
def format_payload.out (_p0 : Int) (_p1 : Int) (_p2 : Int) (_p3 : Int) (_p4 : Int) (_p5 : Int) (_p6 : Int) (_p7 : Int) (_p8 : Int) (_p9 : Int) : Int → List (Nat × Option MObj)
  | _ => []
theorem format_payload.ok {K : Nat} {p0 : Int} {p1 : Int} {p2 : Int} {p3 : Int} {p4 : Int} {p5 : Int} {p6 : Int} {p7 : Int} {p8 : Int} {p9 : Int} {r : Int} (h0 : format_payload K p0 p1 p2 p3 p4 p5 p6 p7 p8 p9 = some r) : Fn Try.prog 88 [.agg [.int .i64 p0, .int .i64 p1, .int .i64 p2, .int .i64 p3, .int .i64 p4, .int .i64 p5, .int .i64 p6, .int .i64 p7, .int .i64 p8, .int .i64 p9]] [] (format_payload.res p0 p1 p2 p3 p4 p5 p6 p7 p8 p9 r) (format_payload.out p0 p1 p2 p3 p4 p5 p6 p7 p8 p9 r) := by
  refine Fn_of Try.func88 rfl (Nat.le_of_ble_eq_true rfl) fun Γ => ?_
  refine TC_seq ?_
  refine TC_reg ?_
  refine TL_ev env 2 rfl ⟨trivial, ⟨trivial, trivial⟩⟩ ?_
  refine TL_end ?_
  refine TE_go ?_
  refine TC_seq ?_
  refine TC_seq ?_
  refine TC_reg ?_
  refine TL_ev env 3 rfl ⟨trivial, ⟨⟨trivial, trivial⟩, ⟨⟨trivial, ⟨trivial, trivial⟩⟩, trivial⟩⟩⟩ ?_
  refine TL_end ?_
  refine TE_go ?_
  refine TC_cond rfl (fun hb => ?_) (fun hb => ?_)
  · replace h0 := bif_t h0 hb
    refine TC_seq ?_
    refine TC_reg ?_
    refine TL_ev env 6 rfl ⟨trivial, ⟨⟨trivial, trivial⟩, ⟨trivial, ⟨⟨trivial, trivial⟩, ⟨⟨trivial, ⟨trivial, trivial⟩⟩, ⟨trivial, trivial⟩⟩⟩⟩⟩⟩ ?_
    refine TL_end ?_
    refine TE_go ?_
    refine TC_ret ?_
    refine tsr ?_
    obtain rfl := sinj h0
    exact TE_ret env rfl trivial trivial
  · replace h0 := bif_f h0 hb
    refine TC_skip ?_
    refine TE_go ?_
    refine TC_seq ?_
    refine TC_reg ?_
    refine TL_ev env 1 rfl ⟨⟨trivial, trivial⟩, trivial⟩ ?_
    obtain ⟨r3, hr, h0⟩ := bnd h0
    refine TL_callB [] (format_bits.ok0 hr) format_bits.fnb rfl ⟨trivial, ⟨trivial, trivial⟩⟩ rfl trivial rfl ?_
    refine TL_ev env 3 rfl ⟨⟨trivial, ⟨trivial, trivial⟩⟩, ⟨⟨trivial, ⟨trivial, (by decide)⟩⟩, ⟨trivial, trivial⟩⟩⟩ ?_
    refine TL_end ?_
    refine TE_go ?_
    refine TC_ret ?_
    obtain rfl := sinj h0
    exact TE_ret env rfl trivial trivial
theorem format_payload.ok0 {K : Nat} {p0 : Int} {p1 : Int} {p2 : Int} {p3 : Int} {p4 : Int} {p5 : Int} {p6 : Int} {p7 : Int} {p8 : Int} {p9 : Int} {q0 : Int} (h0 : format_payload K p0 p1 p2 p3 p4 p5 p6 p7 p8 p9 = some q0) : Fn Try.prog 88 [.agg [.int .i64 p0, .int .i64 p1, .int .i64 p2, .int .i64 p3, .int .i64 p4, .int .i64 p5, .int .i64 p6, .int .i64 p7, .int .i64 p8, .int .i64 p9]] [] (.int .i64 q0) [] := format_payload.ok h0
theorem format_payload.fnb : fnb Try.prog 88 = true := fnb_of Try.func88 rfl
def format_Check.res (_p0 : Int) (_p1 : Int) (_p2 : Int) (_p3 : Int) (_p4 : Int) (_p5 : Int) (_p6 : Int) (_p7 : Int) (_p8 : Int) (_p9 : Int) : Int → MV
  | q0 => .int .i64 q0
def format_Check.out (_p0 : Int) (_p1 : Int) (_p2 : Int) (_p3 : Int) (_p4 : Int) (_p5 : Int) (_p6 : Int) (_p7 : Int) (_p8 : Int) (_p9 : Int) : Int → List (Nat × Option MObj)
  | _ => []
theorem format_Check.ok {K : Nat} {p0 : Int} {p1 : Int} {p2 : Int} {p3 : Int} {p4 : Int} {p5 : Int} {p6 : Int} {p7 : Int} {p8 : Int} {p9 : Int} {r : Int} (h0 : format_Check K p0 p1 p2 p3 p4 p5 p6 p7 p8 p9 = some r) : Fn Try.prog 33 [.agg [.int .i64 p0, .int .i64 p1, .int .i64 p2, .int .i64 p3, .int .i64 p4, .int .i64 p5, .int .i64 p6, .int .i64 p7, .int .i64 p8, .int .i64 p9]] [] (format_Check.res p0 p1 p2 p3 p4 p5 p6 p7 p8 p9 r) (format_Check.out p0 p1 p2 p3 p4 p5 p6 p7 p8 p9 r) := by
  refine Fn_of Try.func33 rfl (Nat.le_of_ble_eq_true rfl) fun Γ => ?_
  refine TC_seq ?_
  refine TC_reg ?_
  refine TL_ev env 2 rfl ⟨trivial, ⟨trivial, trivial⟩⟩ ?_
  refine TL_end ?_
  refine TE_go ?_
  refine TC_seq ?_
  refine TC_seq ?_
  obtain ⟨z1, h1, h0⟩ := bnd h0
  refine TC_cut (α := Bool) (fun s => z1 = s) (fun s => [(10, .bool s)]) (fun s => []) ?_ ?_
  · refine TC_reg ?_
    refine TL_ev env 1 rfl ⟨⟨trivial, trivial⟩, trivial⟩ ?_
    obtain ⟨r7, hr, h1⟩ := bnd h1
    refine TL_callB [] (format_fields.ok0 hr) format_fields.fnb rfl ⟨trivial, ⟨trivial, trivial⟩⟩ rfl trivial rfl ?_
    refine TL_ev env 2 rfl ⟨trivial, ⟨trivial, trivial⟩⟩ ?_
    refine TL_split 6 rfl (fun hb => ?_) (fun hb => ?_)
    · replace h1 := bif_t h1 hb
      refine TL_gf (.bool false) rfl rfl rfl rfl rfl (by decide) ?_
      refine TL_gf (.bool false) rfl rfl rfl rfl rfl (by decide) ?_
      refine TL_gf (.bool false) rfl rfl rfl rfl rfl (by decide) ?_
      refine TL_ev env 1 rfl ⟨⟨trivial, ⟨trivial, fun e => e⟩⟩, trivial⟩ ?_
      refine TL_end ?_
      obtain rfl := sinj h1
      refine tsn ?_
      exact SP_ren [] _ rfl ⟨rfl, trivial⟩ trivial rfl
    · replace h1 := bif_f h1 hb
      refine TL_gt rfl rfl rfl rfl ?_
      refine TL_ev env 1 rfl ⟨⟨trivial, trivial⟩, trivial⟩ ?_
      refine TL_gt rfl rfl rfl rfl ?_
      obtain ⟨r8, hr, h1⟩ := bnd h1
      refine TL_callB [] (format_payload.ok0 hr) format_payload.fnb rfl ⟨trivial, ⟨trivial, trivial⟩⟩ rfl trivial rfl ?_
      refine TL_gt rfl rfl rfl rfl ?_
      refine TL_ev env 2 rfl ⟨⟨trivial, ⟨trivial, trivial⟩⟩, ⟨⟨trivial, ⟨trivial, trivial⟩⟩, trivial⟩⟩ ?_
      refine TL_end ?_
      obtain rfl := sinj h1
      refine tsn ?_
      exact SP_ren [] _ rfl ⟨rfl, trivial⟩ trivial rfl
  · rintro x6 rfl
    refine TE_go ?_
    refine TC_cond rfl (fun hb => ?_) (fun hb => ?_)
    · replace h0 := bif_t h0 hb
      refine TC_seq ?_
      refine TC_reg ?_
      refine TL_ev env 1 rfl ⟨trivial, trivial⟩ ?_
      refine TL_end ?_
      refine TE_go ?_
      refine TC_ret ?_
      refine tsr ?_
      obtain rfl := sinj h0
      exact TE_ret env rfl trivial trivial
    · replace h0 := bif_f h0 hb
      refine TC_skip ?_
      refine TE_go ?_
      refine TC_seq ?_
      refine TC_reg ?_
      refine TL_ev env 1 rfl ⟨trivial, trivial⟩ ?_
      refine TL_end ?_
      refine TE_go ?_
      refine TC_ret ?_
      obtain rfl := sinj h0
      exact TE_ret env rfl trivial trivial
theorem format_Check.ok0 {K : Nat} {p0 : Int} {p1 : Int} {p2 : Int} {p3 : Int} {p4 : Int} {p5 : Int} {p6 : Int} {p7 : Int} {p8 : Int} {p9 : Int} {q0 : Int} (h0 : format_Check K p0 p1 p2 p3 p4 p5 p6 p7 p8 p9 = some q0) : Fn Try.prog 33 [.agg [.int .i64 p0, .int .i64 p1, .int .i64 p2, .int .i64 p3, .int .i64 p4, .int .i64 p5, .int .i64 p6, .int .i64 p7, .int .i64 p8, .int .i64 p9]] [] (.int .i64 q0) [] := format_Check.ok h0
theorem format_Check.fnb : fnb Try.prog 33 = true := fnb_of Try.func33 rfl
def format_Samples_1.res (_p0 : Int) (_p1 : Int) (_p2 : Int) (_p3 : Int) (_p4 : Int) (_p5 : Int) (_p6 : Int) (_p7 : Int) (_p8 : Int) (_p9 : Int) : Int → MV
  | q0 => .int .i64 q0
def format_Samples_1.out (_p0 : Int) (_p1 : Int) (_p2 : Int) (_p3 : Int) (_p4 : Int) (_p5 : Int) (_p6 : Int) (_p7 : Int) (_p8 : Int) (_p9 : Int) : Int → List (Nat × Option MObj)
  | _ => []
theorem format_Samples_1.ok {K : Nat} {p0 : Int} {p1 : Int} {p2 : Int} {p3 : Int} {p4 : Int} {p5 : Int} {p6 : Int} {p7 : Int} {p8 : Int} {p9 : Int} {r : Int} (h0 : format_Samples_1 K p0 p1 p2 p3 p4 p5 p6 p7 p8 p9 = some r) : Fn Try.prog 90 [.agg [.int .i64 p0, .int .i64 p1, .int .i64 p2, .int .i64 p3, .int .i64 p4, .int .i64 p5, .int .i64 p6, .int .i64 p7, .int .i64 p8, .int .i64 p9]] [] (format_Samples_1.res p0 p1 p2 p3 p4 p5 p6 p7 p8 p9 r) (format_Samples_1.out p0 p1 p2 p3 p4 p5 p6 p7 p8 p9 r) := by
  refine Fn_of Try.func90 rfl (Nat.le_of_ble_eq_true rfl) fun Γ => ?_
  refine TC_seq ?_
  refine TC_reg ?_
  refine TL_ev env 2 rfl ⟨trivial, ⟨trivial, trivial⟩⟩ ?_
  refine TL_end ?_
  refine TE_go ?_
  refine TC_seq ?_
  refine TC_reg ?_
  refine TL_ev env 9 rfl ⟨trivial, ⟨⟨trivial, trivial⟩, ⟨trivial, ⟨⟨trivial, trivial⟩, ⟨⟨trivial, ⟨trivial, trivial⟩⟩, ⟨trivial, ⟨⟨trivial, trivial⟩, ⟨⟨trivial, ⟨trivial, trivial⟩⟩, ⟨trivial, trivial⟩⟩⟩⟩⟩⟩⟩⟩⟩ ?_
  refine TL_end ?_
  refine TE_go ?_
  refine TC_ret ?_
  obtain rfl := sinj h0
  exact TE_ret env rfl trivial trivial
theorem format_Samples_1.ok0 {K : Nat} {p0 : Int} {p1 : Int} {p2 : Int} {p3 : Int} {p4 : Int} {p5 : Int} {p6 : Int} {p7 : Int} {p8 : Int} {p9 : Int} {q0 : Int} (h0 : format_Samples_1 K p0 p1 p2 p3 p4 p5 p6 p7 p8 p9 = some q0) : Fn Try.prog 90 [.agg [.int .i64 p0, .int .i64 p1, .int .i64 p2, .int .i64 p3, .int .i64 p4, .int .i64 p5, .int .i64 p6, .int .i64 p7, .int .i64 p8, .int .i64 p9]] [] (.int .i64 q0) [] := format_Samples_1.ok h0
theorem format_Samples_1.fnb : fnb Try.prog 90 = true := fnb_of Try.func90 rfl
def format_of.res (_p0 : Int) (_p1 : Int) (_p2 : Int) (_p3 : Int) (_p4 : Int) (_p5 : Int) (_p6 : Int) (_p7 : Int) (_p8 : Int) (_p9 : Int) : Int → MV
  | q0 => .int .i64 q0
def format_of.out (_p0 : Int) (_p1 : Int) (_p2 : Int) (_p3 : Int) (_p4 : Int) (_p5 : Int) (_p6 : Int) (_p7 : Int) (_p8 : Int) (_p9 : Int) : Int → List (Nat × Option MObj)
  | _ => []
theorem format_of.ok {K : Nat} {p0 : Int} {p1 : Int} {p2 : Int} {p3 : Int} {p4 : Int} {p5 : Int} {p6 : Int} {p7 : Int} {p8 : Int} {p9 : Int} {r : Int} (h0 : format_of K p0 p1 p2 p3 p4 p5 p6 p7 p8 p9 = some r) : Fn Try.prog 89 [.agg [.int .i64 p0, .int .i64 p1, .int .i64 p2, .int .i64 p3, .int .i64 p4, .int .i64 p5, .int .i64 p6, .int .i64 p7, .int .i64 p8, .int .i64 p9], .fn 90 []] [] (format_of.res p0 p1 p2 p3 p4 p5 p6 p7 p8 p9 r) (format_of.out p0 p1 p2 p3 p4 p5 p6 p7 p8 p9 r) := by
  refine Fn_of Try.func89 rfl (Nat.le_of_ble_eq_true rfl) fun Γ => ?_
  refine TC_seq ?_
  refine TC_reg ?_
  refine TL_ev env 2 rfl ⟨trivial, ⟨trivial, trivial⟩⟩ ?_
  refine TL_end ?_
  refine TE_go ?_
  refine TC_seq ?_
  refine TC_seq ?_
  refine TC_reg ?_
  refine TL_ev env 1 rfl ⟨⟨trivial, trivial⟩, trivial⟩ ?_
  obtain ⟨r3, hr, h0⟩ := bnd h0
  refine TL_callB [] (format_Check.ok0 hr) format_Check.fnb rfl ⟨trivial, ⟨trivial, trivial⟩⟩ rfl trivial rfl ?_
  refine TL_ev env 1 rfl ⟨⟨trivial, ⟨trivial, trivial⟩⟩, trivial⟩ ?_
  refine TL_end ?_
  refine TE_go ?_
  refine TC_cond rfl (fun hb => ?_) (fun hb => ?_)
  · replace h0 := bif_t h0 hb
    refine TC_seq ?_
    refine TC_reg ?_
    refine TL_ev env 1 rfl ⟨trivial, trivial⟩ ?_
    refine TL_end ?_
    refine TE_go ?_
    refine TC_ret ?_
    refine tsr ?_
    obtain rfl := sinj h0
    exact TE_ret env rfl trivial trivial
  · replace h0 := bif_f h0 hb
    refine TC_skip ?_
    refine TE_go ?_
    refine TC_seq ?_
    refine TC_reg ?_
    refine TL_ev env 2 rfl ⟨trivial, ⟨⟨trivial, trivial⟩, trivial⟩⟩ ?_
    obtain ⟨r4, hr, h0⟩ := bnd h0
    refine TL_callB [] (format_Samples_1.ok0 hr) format_Samples_1.fnb rfl ⟨trivial, ⟨trivial, trivial⟩⟩ rfl trivial rfl ?_
    refine TL_ev env 1 rfl ⟨trivial, trivial⟩ ?_
    refine TL_end ?_
    refine TE_go ?_
    refine TC_ret ?_
    obtain rfl := sinj h0
    exact TE_ret env rfl trivial trivial
theorem format_of.ok0 {K : Nat} {p0 : Int} {p1 : Int} {p2 : Int} {p3 : Int} {p4 : Int} {p5 : Int} {p6 : Int} {p7 : Int} {p8 : Int} {p9 : Int} {q0 : Int} (h0 : format_of K p0 p1 p2 p3 p4 p5 p6 p7 p8 p9 = some q0) : Fn Try.prog 89 [.agg [.int .i64 p0, .int .i64 p1, .int .i64 p2, .int .i64 p3, .int .i64 p4, .int .i64 p5, .int .i64 p6, .int .i64 p7, .int .i64 p8, .int .i64 p9], .fn 90 []] [] (.int .i64 q0) [] := format_of.ok h0
theorem format_of.fnb : fnb Try.prog 89 = true := fnb_of Try.func89 rfl
def format_Samples.res (_p0 : Int) (_p1 : Int) (_p2 : Int) (_p3 : Int) (_p4 : Int) (_p5 : Int) (_p6 : Int) (_p7 : Int) (_p8 : Int) (_p9 : Int) : Int → MV
  | q0 => .int .i64 q0
def format_Samples.out (_p0 : Int) (_p1 : Int) (_p2 : Int) (_p3 : Int) (_p4 : Int) (_p5 : Int) (_p6 : Int) (_p7 : Int) (_p8 : Int) (_p9 : Int) : Int → List (Nat × Option MObj)
  | _ => []
theorem format_Samples.ok {K : Nat} {p0 : Int} {p1 : Int} {p2 : Int} {p3 : Int} {p4 : Int} {p5 : Int} {p6 : Int} {p7 : Int} {p8 : Int} {p9 : Int} {r : Int} (h0 : format_Samples K p0 p1 p2 p3 p4 p5 p6 p7 p8 p9 = some r) : Fn Try.prog 34 [.agg [.int .i64 p0, .int .i64 p1, .int .i64 p2, .int .i64 p3, .int .i64 p4, .int .i64 p5, .int .i64 p6, .int .i64 p7, .int .i64 p8, .int .i64 p9]] [] (format_Samples.res p0 p1 p2 p3 p4 p5 p6 p7 p8 p9 r) (format_Samples.out p0 p1 p2 p3 p4 p5 p6 p7 p8 p9 r) := by
  refine Fn_of Try.func34 rfl (Nat.le_of_ble_eq_true rfl) fun Γ => ?_
  refine TC_seq ?_
  refine TC_reg ?_
  refine TL_ev env 2 rfl ⟨trivial, ⟨trivial, trivial⟩⟩ ?_
  refine TL_end ?_
  refine TE_go ?_
  refine TC_seq ?_
  refine TC_reg ?_
  refine TL_ev env 1 rfl ⟨⟨trivial, trivial⟩, trivial⟩ ?_
  obtain ⟨r2, hr, h0⟩ := bnd h0
  refine TL_callB [] (format_of.ok0 hr) format_of.fnb rfl ⟨trivial, ⟨trivial, ⟨trivial, trivial⟩⟩⟩ rfl trivial rfl ?_
  refine TL_ev env 1 rfl ⟨trivial, trivial⟩ ?_
  refine TL_end ?_
  refine TE_go ?_
  refine TC_ret ?_
  obtain rfl := sinj h0
  exact TE_ret env rfl trivial trivial
theorem format_Samples.ok0 {K : Nat} {p0 : Int} {p1 : Int} {p2 : Int} {p3 : Int} {p4 : Int} {p5 : Int} {p6 : Int} {p7 : Int} {p8 : Int} {p9 : Int} {q0 : Int} (h0 : format_Samples K p0 p1 p2 p3 p4 p5 p6 p7 p8 p9 = some q0) : Fn Try.prog 34 [.agg [.int .i64 p0, .int .i64 p1, .int .i64 p2, .int .i64 p3, .int .i64 p4, .int .i64 p5, .int .i64 p6, .int .i64 p7, .int .i64 p8, .int .i64 p9]] [] (.int .i64 q0) [] := format_Samples.ok h0
theorem format_Samples.fnb : fnb Try.prog 34 = true := fnb_of Try.func34 rfl
def format_of_2.res (_p0 : Int) (_p1 : Int) (_p2 : Int) (_p3 : Int) (_p4 : Int) (_p5 : Int) (_p6 : Int) (_p7 : Int) (_p8 : Int) (_p9 : Int) : Int → MV
  | q0 => .int .i64 q0
def format_of_2.out (_p0 : Int) (_p1 : Int) (_p2 : Int) (_p3 : Int) (_p4 : Int) (_p5 : Int) (_p6 : Int) (_p7 : Int) (_p8 : Int) (_p9 : Int) : Int → List (Nat × Option MObj)
  | _ => []
theorem format_of_2.ok {K : Nat} {p0 : Int} {p1 : Int} {p2 : Int} {p3 : Int} {p4 : Int} {p5 : Int} {p6 : Int} {p7 : Int} {p8 : Int} {p9 : Int} {r : Int} (h0 : format_of_2 K p0 p1 p2 p3 p4 p5 p6 p7 p8 p9 = some r) : Fn Try.prog 89 [.agg [.int .i64 p0, .int .i64 p1, .int .i64 p2, .int .i64 p3, .int .i64 p4, .int .i64 p5, .int .i64 p6, .int .i64 p7, .int .i64 p8, .int .i64 p9], .fn 91 []] [] (format_of_2.res p0 p1 p2 p3 p4 p5 p6 p7 p8 p9 r) (format_of_2.out p0 p1 p2 p3 p4 p5 p6 p7 p8 p9 r) := by
  refine Fn_of Try.func89 rfl (Nat.le_of_ble_eq_true rfl) fun Γ => ?_
  refine TC_seq ?_
  refine TC_reg ?_
  refine TL_ev env 2 rfl ⟨trivial, ⟨trivial, trivial⟩⟩ ?_
  refine TL_end ?_
  refine TE_go ?_
  refine TC_seq ?_
  refine TC_seq ?_
  refine TC_reg ?_
  refine TL_ev env 1 rfl ⟨⟨trivial, trivial⟩, trivial⟩ ?_
  obtain ⟨r3, hr, h0⟩ := bnd h0
  refine TL_callB [] (format_Check.ok0 hr) format_Check.fnb rfl ⟨trivial, ⟨trivial, trivial⟩⟩ rfl trivial rfl ?_
  refine TL_ev env 1 rfl ⟨⟨trivial, ⟨trivial, trivial⟩⟩, trivial⟩ ?_
  refine TL_end ?_
  refine TE_go ?_
  refine TC_cond rfl (fun hb => ?_) (fun hb => ?_)
  · replace h0 := bif_t h0 hb
    refine TC_seq ?_
    refine TC_reg ?_
    refine TL_ev env 1 rfl ⟨trivial, trivial⟩ ?_
    refine TL_end ?_
    refine TE_go ?_
    refine TC_ret ?_
    refine tsr ?_
    obtain rfl := sinj h0
    exact TE_ret env rfl trivial trivial
  · replace h0 := bif_f h0 hb
    refine TC_skip ?_
    refine TE_go ?_
    refine TC_seq ?_
    refine TC_reg ?_
    refine TL_ev env 2 rfl ⟨trivial, ⟨⟨trivial, trivial⟩, trivial⟩⟩ ?_
    obtain ⟨r4, hr, h0⟩ := bnd h0
    refine TL_callB [] (format_bits.ok0 hr) format_bits.fnb rfl ⟨trivial, ⟨trivial, trivial⟩⟩ rfl trivial rfl ?_
    refine TL_ev env 1 rfl ⟨trivial, trivial⟩ ?_
    refine TL_end ?_
    refine TE_go ?_
    refine TC_ret ?_
    obtain rfl := sinj h0
    exact TE_ret env rfl trivial trivial
theorem format_of_2.ok0 {K : Nat} {p0 : Int} {p1 : Int} {p2 : Int} {p3 : Int} {p4 : Int} {p5 : Int} {p6 : Int} {p7 : Int} {p8 : Int} {p9 : Int} {q0 : Int} (h0 : format_of_2 K p0 p1 p2 p3 p4 p5 p6 p7 p8 p9 = some q0) : Fn Try.prog 89 [.agg [.int .i64 p0, .int .i64 p1, .int .i64 p2, .int .i64 p3, .int .i64 p4, .int .i64 p5, .int .i64 p6, .int .i64 p7, .int .i64 p8, .int .i64 p9], .fn 91 []] [] (.int .i64 q0) [] := format_of_2.ok h0
theorem format_of_2.fnb : fnb Try.prog 89 = true := fnb_of Try.func89 rfl
def format_Bits.res (_p0 : Int) (_p1 : Int) (_p2 : Int) (_p3 : Int) (_p4 : Int) (_p5 : Int) (_p6 : Int) (_p7 : Int) (_p8 : Int) (_p9 : Int) : Int → MV
  | q0 => .int .i64 q0
def format_Bits.out (_p0 : Int) (_p1 : Int) (_p2 : Int) (_p3 : Int) (_p4 : Int) (_p5 : Int) (_p6 : Int) (_p7 : Int) (_p8 : Int) (_p9 : Int) : Int → List (Nat × Option MObj)
  | _ => []
theorem format_Bits.ok {K : Nat} {p0 : Int} {p1 : Int} {p2 : Int} {p3 : Int} {p4 : Int} {p5 : Int} {p6 : Int} {p7 : Int} {p8 : Int} {p9 : Int} {r : Int} (h0 : format_Bits K p0 p1 p2 p3 p4 p5 p6 p7 p8 p9 = some r) : Fn Try.prog 35 [.agg [.int .i64 p0, .int .i64 p1, .int .i64 p2, .int .i64 p3, .int .i64 p4, .int .i64 p5, .int .i64 p6, .int .i64 p7, .int .i64 p8, .int .i64 p9]] [] (format_Bits.res p0 p1 p2 p3 p4 p5 p6 p7 p8 p9 r) (format_Bits.out p0 p1 p2 p3 p4 p5 p6 p7 p8 p9 r) := by
  refine Fn_of Try.func35 rfl (Nat.le_of_ble_eq_true rfl) fun Γ => ?_
  refine TC_seq ?_
  refine TC_reg ?_
  refine TL_ev env 2 rfl ⟨trivial, ⟨trivial, trivial⟩⟩ ?_
  refine TL_end ?_
  refine TE_go ?_
  refine TC_seq ?_
  refine TC_reg ?_
  refine TL_ev env 1 rfl ⟨⟨trivial, trivial⟩, trivial⟩ ?_
  obtain ⟨r2, hr, h0⟩ := bnd h0
  refine TL_callB [] (format_of_2.ok0 hr) format_of_2.fnb rfl ⟨trivial, ⟨trivial, ⟨trivial, trivial⟩⟩⟩ rfl trivial rfl ?_
  refine TL_ev env 1 rfl ⟨trivial, trivial⟩ ?_
  refine TL_end ?_
  refine TE_go ?_
  refine TC_ret ?_
  obtain rfl := sinj h0
  exact TE_ret env rfl trivial trivial
theorem format_Bits.ok0 {K : Nat} {p0 : Int} {p1 : Int} {p2 : Int} {p3 : Int} {p4 : Int} {p5 : Int} {p6 : Int} {p7 : Int} {p8 : Int} {p9 : Int} {q0 : Int} (h0 : format_Bits K p0 p1 p2 p3 p4 p5 p6 p7 p8 p9 = some q0) : Fn Try.prog 35 [.agg [.int .i64 p0, .int .i64 p1, .int .i64 p2, .int .i64 p3, .int .i64 p4, .int .i64 p5, .int .i64 p6, .int .i64 p7, .int .i64 p8, .int .i64 p9]] [] (.int .i64 q0) [] := format_Bits.ok h0
theorem format_Bits.fnb : fnb Try.prog 35 = true := fnb_of Try.func35 rfl
def format_of_3.res (_p0 : Int) (_p1 : Int) (_p2 : Int) (_p3 : Int) (_p4 : Int) (_p5 : Int) (_p6 : Int) (_p7 : Int) (_p8 : Int) (_p9 : Int) : Int → MV
  | q0 => .int .i64 q0
def format_of_3.out (_p0 : Int) (_p1 : Int) (_p2 : Int) (_p3 : Int) (_p4 : Int) (_p5 : Int) (_p6 : Int) (_p7 : Int) (_p8 : Int) (_p9 : Int) : Int → List (Nat × Option MObj)
  | _ => []
theorem format_of_3.ok {K : Nat} {p0 : Int} {p1 : Int} {p2 : Int} {p3 : Int} {p4 : Int} {p5 : Int} {p6 : Int} {p7 : Int} {p8 : Int} {p9 : Int} {r : Int} (h0 : format_of_3 K p0 p1 p2 p3 p4 p5 p6 p7 p8 p9 = some r) : Fn Try.prog 89 [.agg [.int .i64 p0, .int .i64 p1, .int .i64 p2, .int .i64 p3, .int .i64 p4, .int .i64 p5, .int .i64 p6, .int .i64 p7, .int .i64 p8, .int .i64 p9], .fn 88 []] [] (format_of_3.res p0 p1 p2 p3 p4 p5 p6 p7 p8 p9 r) (format_of_3.out p0 p1 p2 p3 p4 p5 p6 p7 p8 p9 r) := by
  refine Fn_of Try.func89 rfl (Nat.le_of_ble_eq_true rfl) fun Γ => ?_
  refine TC_seq ?_
  refine TC_reg ?_
  refine TL_ev env 2 rfl ⟨trivial, ⟨trivial, trivial⟩⟩ ?_
  refine TL_end ?_
  refine TE_go ?_
  refine TC_seq ?_
  refine TC_seq ?_
  refine TC_reg ?_
  refine TL_ev env 1 rfl ⟨⟨trivial, trivial⟩, trivial⟩ ?_
  obtain ⟨r3, hr, h0⟩ := bnd h0
  refine TL_callB [] (format_Check.ok0 hr) format_Check.fnb rfl ⟨trivial, ⟨trivial, trivial⟩⟩ rfl trivial rfl ?_
  refine TL_ev env 1 rfl ⟨⟨trivial, ⟨trivial, trivial⟩⟩, trivial⟩ ?_
  refine TL_end ?_
  refine TE_go ?_
  refine TC_cond rfl (fun hb => ?_) (fun hb => ?_)
  · replace h0 := bif_t h0 hb
    refine TC_seq ?_
    refine TC_reg ?_
    refine TL_ev env 1 rfl ⟨trivial, trivial⟩ ?_
    refine TL_end ?_
    refine TE_go ?_
    refine TC_ret ?_
    refine tsr ?_
    obtain rfl := sinj h0
    exact TE_ret env rfl trivial trivial
  · replace h0 := bif_f h0 hb
    refine TC_skip ?_
    refine TE_go ?_
    refine TC_seq ?_
    refine TC_reg ?_
    refine TL_ev env 2 rfl ⟨trivial, ⟨⟨trivial, trivial⟩, trivial⟩⟩ ?_
    obtain ⟨r4, hr, h0⟩ := bnd h0
    refine TL_callB [] (format_payload.ok0 hr) format_payload.fnb rfl ⟨trivial, ⟨trivial, trivial⟩⟩ rfl trivial rfl ?_
    refine TL_ev env 1 rfl ⟨trivial, trivial⟩ ?_
    refine TL_end ?_
    refine TE_go ?_
    refine TC_ret ?_
    obtain rfl := sinj h0
    exact TE_ret env rfl trivial trivial
theorem format_of_3.ok0 {K : Nat} {p0 : Int} {p1 : Int} {p2 : Int} {p3 : Int} {p4 : Int} {p5 : Int} {p6 : Int} {p7 : Int} {p8 : Int} {p9 : Int} {q0 : Int} (h0 : format_of_3 K p0 p1 p2 p3 p4 p5 p6 p7 p8 p9 = some q0) : Fn Try.prog 89 [.agg [.int .i64 p0, .int .i64 p1, .int .i64 p2, .int .i64 p3, .int .i64 p4, .int .i64 p5, .int .i64 p6, .int .i64 p7, .int .i64 p8, .int .i64 p9], .fn 88 []] [] (.int .i64 q0) [] := format_of_3.ok h0
theorem format_of_3.fnb : fnb Try.prog 89 = true := fnb_of Try.func89 rfl
def format_Payload.res (_p0 : Int) (_p1 : Int) (_p2 : Int) (_p3 : Int) (_p4 : Int) (_p5 : Int) (_p6 : Int) (_p7 : Int) (_p8 : Int) (_p9 : Int) : Int → MV
  | q0 => .int .i64 q0
def format_Payload.out (_p0 : Int) (_p1 : Int) (_p2 : Int) (_p3 : Int) (_p4 : Int) (_p5 : Int) (_p6 : Int) (_p7 : Int) (_p8 : Int) (_p9 : Int) : Int → List (Nat × Option MObj)
  | _ => []
theorem format_Payload.ok {K : Nat} {p0 : Int} {p1 : Int} {p2 : Int} {p3 : Int} {p4 : Int} {p5 : Int} {p6 : Int} {p7 : Int} {p8 : Int} {p9 : Int} {r : Int} (h0 : format_Payload K p0 p1 p2 p3 p4 p5 p6 p7 p8 p9 = some r) : Fn Try.prog 36 [.agg [.int .i64 p0, .int .i64 p1, .int .i64 p2, .int .i64 p3, .int .i64 p4, .int .i64 p5, .int .i64 p6, .int .i64 p7, .int .i64 p8, .int .i64 p9]] [] (format_Payload.res p0 p1 p2 p3 p4 p5 p6 p7 p8 p9 r) (format_Payload.out p0 p1 p2 p3 p4 p5 p6 p7 p8 p9 r) := by
  refine Fn_of Try.func36 rfl (Nat.le_of_ble_eq_true rfl) fun Γ => ?_
  refine TC_seq ?_
  refine TC_reg ?_
  refine TL_ev env 2 rfl ⟨trivial, ⟨trivial, trivial⟩⟩ ?_
  refine TL_end ?_
  refine TE_go ?_
  refine TC_seq ?_
  refine TC_reg ?_
  refine TL_ev env 1 rfl ⟨⟨trivial, trivial⟩, trivial⟩ ?_
  obtain ⟨r2, hr, h0⟩ := bnd h0
  refine TL_callB [] (format_of_3.ok0 hr) format_of_3.fnb rfl ⟨trivial, ⟨trivial, ⟨trivial, trivial⟩⟩⟩ rfl trivial rfl ?_
  refine TL_ev env 1 rfl ⟨trivial, trivial⟩ ?_
  refine TL_end ?_
  refine TE_go ?_
  refine TC_ret ?_
  obtain rfl := sinj h0
  exact TE_ret env rfl trivial trivial
theorem format_Payload.ok0 {K : Nat} {p0 : Int} {p1 : Int} {p2 : Int} {p3 : Int} {p4 : Int} {p5 : Int} {p6 : Int} {p7 : Int} {p8 : Int} {p9 : Int} {q0 : Int} (h0 : format_Payload K p0 p1 p2 p3 p4 p5 p6 p7 p8 p9 = some q0) : Fn Try.prog 36 [.agg [.int .i64 p0, .int .i64 p1, .int .i64 p2, .int .i64 p3, .int .i64 p4, .int .i64 p5, .int .i64 p6, .int .i64 p7, .int .i64 p8, .int .i64 p9]] [] (.int .i64 q0) [] := format_Payload.ok h0
theorem format_Payload.fnb : fnb Try.prog 36 = true := fnb_of Try.func36 rfl
def psalterylaw11_alive.res  : Bool → MV
  | q0 => .bool q0
def psalterylaw11_alive.out  : Bool → List (Nat × Option MObj)
  | _ => []
theorem psalterylaw11_alive.ok {K : Nat}  {r : Bool} (h0 : psalterylaw11_alive K  = some r) : Fn Try.prog 31 [] [] (psalterylaw11_alive.res  r) (psalterylaw11_alive.out  r) := by
  refine Fn_of Try.func31 rfl (Nat.le_of_ble_eq_true rfl) fun Γ => ?_
  refine TC_seq ?_
  refine TC_reg ?_
  refine TL_ev env 1 rfl ⟨trivial, trivial⟩ ?_
  refine TL_end ?_
  refine TE_go ?_
  refine TC_seq ?_
  refine TC_reg ?_
  refine TL_ev env 3 rfl ⟨⟨trivial, ⟨trivial, ⟨trivial, ⟨trivial, ⟨trivial, trivial⟩⟩⟩⟩⟩, ⟨trivial, ⟨⟨trivial, trivial⟩, trivial⟩⟩⟩ ?_
  refine TL_end ?_
  refine TE_go ?_
  refine TC_seq ?_
  obtain ⟨z1, h1, h0⟩ := bnd h0
  refine TC_cut (α := Bool) (fun s => z1 = s) (fun s => [(0, .bool s)]) (fun s => []) ?_ ?_
  · refine TC_reg ?_
    refine TL_ev env 1 rfl ⟨⟨trivial, trivial⟩, trivial⟩ ?_
    obtain ⟨r13, hr, h1⟩ := bnd h1
    refine TL_callB [] (format_Check.ok0 hr) format_Check.fnb rfl ⟨trivial, ⟨trivial, trivial⟩⟩ rfl trivial rfl ?_
    refine TL_ev env 2 rfl ⟨⟨trivial, ⟨trivial, trivial⟩⟩, ⟨trivial, trivial⟩⟩ ?_
    refine TL_split 6 rfl (fun hb => ?_) (fun hb => ?_)
    · replace h1 := bif_t h1 hb
      refine TL_gt rfl rfl rfl rfl ?_
      refine TL_ev env 1 rfl ⟨⟨trivial, trivial⟩, trivial⟩ ?_
      refine TL_gt rfl rfl rfl rfl ?_
      obtain ⟨r14, hr, h1⟩ := bnd h1
      refine TL_callB [] (format_Samples.ok0 hr) format_Samples.fnb rfl ⟨trivial, ⟨trivial, trivial⟩⟩ rfl trivial rfl ?_
      refine TL_gt rfl rfl rfl rfl ?_
      refine TL_ev env 3 rfl ⟨⟨trivial, ⟨trivial, trivial⟩⟩, ⟨⟨trivial, ⟨trivial, trivial⟩⟩, ⟨trivial, trivial⟩⟩⟩ ?_
      refine TL_split 11 rfl (fun hb => ?_) (fun hb => ?_)
      · replace h1 := bif_t h1 hb
        refine TL_gt rfl rfl rfl rfl ?_
        refine TL_ev env 1 rfl ⟨⟨trivial, trivial⟩, trivial⟩ ?_
        refine TL_gt rfl rfl rfl rfl ?_
        obtain ⟨r15, hr, h1⟩ := bnd h1
        refine TL_callB [] (format_Bits.ok0 hr) format_Bits.fnb rfl ⟨trivial, ⟨trivial, trivial⟩⟩ rfl trivial rfl ?_
        refine TL_gt rfl rfl rfl rfl ?_
        refine TL_ev env 3 rfl ⟨⟨trivial, ⟨trivial, trivial⟩⟩, ⟨⟨trivial, ⟨trivial, trivial⟩⟩, ⟨trivial, trivial⟩⟩⟩ ?_
        refine TL_split 16 rfl (fun hb => ?_) (fun hb => ?_)
        · replace h1 := bif_t h1 hb
          refine TL_gt rfl rfl rfl rfl ?_
          refine TL_ev env 1 rfl ⟨⟨trivial, trivial⟩, trivial⟩ ?_
          refine TL_gt rfl rfl rfl rfl ?_
          obtain ⟨r16, hr, h1⟩ := bnd h1
          refine TL_callB [] (format_Payload.ok0 hr) format_Payload.fnb rfl ⟨trivial, ⟨trivial, trivial⟩⟩ rfl trivial rfl ?_
          refine TL_gt rfl rfl rfl rfl ?_
          refine TL_ev env 3 rfl ⟨⟨trivial, ⟨trivial, trivial⟩⟩, ⟨⟨trivial, ⟨trivial, trivial⟩⟩, ⟨trivial, trivial⟩⟩⟩ ?_
          refine TL_split 21 rfl (fun hb => ?_) (fun hb => ?_)
          · replace h1 := bif_t h1 hb
            refine TL_gt rfl rfl rfl rfl ?_
            refine TL_ev env 1 rfl ⟨trivial, trivial⟩ ?_
            refine TL_gt rfl rfl rfl rfl ?_
            obtain ⟨r17, hr, h1⟩ := bnd h1
            refine TL_callB [] (format_Check.ok0 hr) format_Check.fnb rfl ⟨trivial, ⟨trivial, trivial⟩⟩ rfl trivial rfl ?_
            refine TL_gt rfl rfl rfl rfl ?_
            refine TL_ev env 3 rfl ⟨⟨trivial, ⟨trivial, trivial⟩⟩, ⟨⟨trivial, ⟨trivial, trivial⟩⟩, ⟨trivial, trivial⟩⟩⟩ ?_
            refine TL_end ?_
            obtain rfl := sinj h1
            refine tsn ?_
            exact SP_ren [] _ rfl ⟨rfl, trivial⟩ trivial rfl
          · replace h1 := bif_f h1 hb
            refine TL_gf (.bool false) rfl rfl rfl rfl rfl (by decide) ?_
            refine TL_gf (.bool false) rfl rfl rfl rfl rfl (by decide) ?_
            refine TL_gf (.bool false) rfl rfl rfl rfl rfl (by decide) ?_
            refine TL_ev env 2 rfl ⟨⟨trivial, ⟨fun e => e, trivial⟩⟩, ⟨trivial, trivial⟩⟩ ?_
            refine TL_end ?_
            obtain rfl := sinj h1
            refine tsn ?_
            exact SP_ren [] _ rfl ⟨rfl, trivial⟩ trivial rfl
        · replace h1 := bif_f h1 hb
          refine TL_gf (.bool false) rfl rfl rfl rfl rfl (by decide) ?_
          refine TL_gf (.bool false) rfl rfl rfl rfl rfl (by decide) ?_
          refine TL_gf (.bool false) rfl rfl rfl rfl rfl (by decide) ?_
          refine TL_ev env 2 rfl ⟨⟨trivial, ⟨fun e => e, trivial⟩⟩, ⟨trivial, trivial⟩⟩ ?_
          refine TL_gf (.bool false) rfl rfl rfl rfl rfl (by decide) ?_
          refine TL_gf (.bool false) rfl rfl rfl rfl rfl (by decide) ?_
          refine TL_gf (.bool false) rfl rfl rfl rfl rfl (by decide) ?_
          refine TL_ev env 2 rfl ⟨⟨trivial, ⟨fun e => e, trivial⟩⟩, ⟨trivial, trivial⟩⟩ ?_
          refine TL_end ?_
          obtain rfl := sinj h1
          refine tsn ?_
          exact SP_ren [] _ rfl ⟨rfl, trivial⟩ trivial rfl
      · replace h1 := bif_f h1 hb
        refine TL_gf (.bool false) rfl rfl rfl rfl rfl (by decide) ?_
        refine TL_gf (.bool false) rfl rfl rfl rfl rfl (by decide) ?_
        refine TL_gf (.bool false) rfl rfl rfl rfl rfl (by decide) ?_
        refine TL_ev env 2 rfl ⟨⟨trivial, ⟨fun e => e, trivial⟩⟩, ⟨trivial, trivial⟩⟩ ?_
        refine TL_gf (.bool false) rfl rfl rfl rfl rfl (by decide) ?_
        refine TL_gf (.bool false) rfl rfl rfl rfl rfl (by decide) ?_
        refine TL_gf (.bool false) rfl rfl rfl rfl rfl (by decide) ?_
        refine TL_ev env 2 rfl ⟨⟨trivial, ⟨fun e => e, trivial⟩⟩, ⟨trivial, trivial⟩⟩ ?_
        refine TL_gf (.bool false) rfl rfl rfl rfl rfl (by decide) ?_
        refine TL_gf (.bool false) rfl rfl rfl rfl rfl (by decide) ?_
        refine TL_gf (.bool false) rfl rfl rfl rfl rfl (by decide) ?_
        refine TL_ev env 2 rfl ⟨⟨trivial, ⟨fun e => e, trivial⟩⟩, ⟨trivial, trivial⟩⟩ ?_
        refine TL_end ?_
        obtain rfl := sinj h1
        refine tsn ?_
        exact SP_ren [] _ rfl ⟨rfl, trivial⟩ trivial rfl
    · replace h1 := bif_f h1 hb
      refine TL_gf (.bool false) rfl rfl rfl rfl rfl (by decide) ?_
      refine TL_gf (.bool false) rfl rfl rfl rfl rfl (by decide) ?_
      refine TL_gf (.bool false) rfl rfl rfl rfl rfl (by decide) ?_
      refine TL_ev env 2 rfl ⟨⟨trivial, ⟨fun e => e, trivial⟩⟩, ⟨trivial, trivial⟩⟩ ?_
      refine TL_gf (.bool false) rfl rfl rfl rfl rfl (by decide) ?_
      refine TL_gf (.bool false) rfl rfl rfl rfl rfl (by decide) ?_
      refine TL_gf (.bool false) rfl rfl rfl rfl rfl (by decide) ?_
      refine TL_ev env 2 rfl ⟨⟨trivial, ⟨fun e => e, trivial⟩⟩, ⟨trivial, trivial⟩⟩ ?_
      refine TL_gf (.bool false) rfl rfl rfl rfl rfl (by decide) ?_
      refine TL_gf (.bool false) rfl rfl rfl rfl rfl (by decide) ?_
      refine TL_gf (.bool false) rfl rfl rfl rfl rfl (by decide) ?_
      refine TL_ev env 2 rfl ⟨⟨trivial, ⟨fun e => e, trivial⟩⟩, ⟨trivial, trivial⟩⟩ ?_
      refine TL_gf (.bool false) rfl rfl rfl rfl rfl (by decide) ?_
      refine TL_gf (.bool false) rfl rfl rfl rfl rfl (by decide) ?_
      refine TL_gf (.bool false) rfl rfl rfl rfl rfl (by decide) ?_
      refine TL_ev env 2 rfl ⟨⟨trivial, ⟨fun e => e, trivial⟩⟩, ⟨trivial, trivial⟩⟩ ?_
      refine TL_end ?_
      obtain rfl := sinj h1
      refine tsn ?_
      exact SP_ren [] _ rfl ⟨rfl, trivial⟩ trivial rfl
  · rintro x12 rfl
    refine TE_go ?_
    refine TC_ret ?_
    obtain rfl := sinj h0
    exact TE_ret env rfl trivial trivial
theorem psalterylaw11_alive.ok0 {K : Nat}  {q0 : Bool} (h0 : psalterylaw11_alive K  = some q0) : Fn Try.prog 31 [] [] (.bool q0) [] := psalterylaw11_alive.ok h0
theorem psalterylaw11_alive.fnb : fnb Try.prog 31 = true := fnb_of Try.func31 rfl
def psalteryref11_Bits.res (_p0 : Int) (_p1 : Int) (_p2 : Int) (_p3 : Int) (_p4 : Int) (_p5 : Int) (_p6 : Int) (_p7 : Int) (_p8 : Int) (_p9 : Int) : Int → MV
  | q0 => .int .i64 q0
def psalteryref11_Bits.out (_p0 : Int) (_p1 : Int) (_p2 : Int) (_p3 : Int) (_p4 : Int) (_p5 : Int) (_p6 : Int) (_p7 : Int) (_p8 : Int) (_p9 : Int) : Int → List (Nat × Option MObj)
  | _ => []
theorem psalteryref11_Bits.ok {K : Nat} {p0 : Int} {p1 : Int} {p2 : Int} {p3 : Int} {p4 : Int} {p5 : Int} {p6 : Int} {p7 : Int} {p8 : Int} {p9 : Int} {r : Int} (h0 : psalteryref11_Bits K p0 p1 p2 p3 p4 p5 p6 p7 p8 p9 = some r) : Fn Try.prog 38 [.agg [.int .i64 p0, .int .i64 p1, .int .i64 p2, .int .i64 p3, .int .i64 p4, .int .i64 p5, .int .i64 p6, .int .i64 p7, .int .i64 p8, .int .i64 p9]] [] (psalteryref11_Bits.res p0 p1 p2 p3 p4 p5 p6 p7 p8 p9 r) (psalteryref11_Bits.out p0 p1 p2 p3 p4 p5 p6 p7 p8 p9 r) := by
  refine Fn_of Try.func38 rfl (Nat.le_of_ble_eq_true rfl) fun Γ => ?_
  refine TC_seq ?_
  refine TC_reg ?_
  refine TL_ev env 2 rfl ⟨trivial, ⟨trivial, trivial⟩⟩ ?_
  refine TL_end ?_
  refine TE_go ?_
  refine TC_seq ?_
  refine TC_seq ?_
  refine TC_reg ?_
  refine TL_ev env 3 rfl ⟨trivial, ⟨⟨trivial, trivial⟩, ⟨⟨trivial, ⟨trivial, trivial⟩⟩, trivial⟩⟩⟩ ?_
  refine TL_end ?_
  refine TE_go ?_
  refine TC_cond rfl (fun hb => ?_) (fun hb => ?_)
  · replace h0 := bif_t h0 hb
    refine TC_seq ?_
    refine TC_reg ?_
    refine TL_ev env 4 rfl ⟨trivial, ⟨⟨trivial, trivial⟩, ⟨⟨trivial, ⟨trivial, trivial⟩⟩, ⟨trivial, trivial⟩⟩⟩⟩ ?_
    refine TL_end ?_
    refine TE_go ?_
    refine TC_ret ?_
    refine tsr ?_
    obtain rfl := sinj h0
    exact TE_ret env rfl trivial trivial
  · replace h0 := bif_f h0 hb
    refine TC_skip ?_
    refine TE_go ?_
    refine TC_seq ?_
    refine TC_reg ?_
    refine TL_ev env 7 rfl ⟨trivial, ⟨⟨trivial, trivial⟩, ⟨trivial, ⟨⟨trivial, trivial⟩, ⟨⟨trivial, ⟨trivial, trivial⟩⟩, ⟨⟨trivial, ⟨trivial, trivial⟩⟩, ⟨trivial, trivial⟩⟩⟩⟩⟩⟩⟩ ?_
    refine TL_end ?_
    refine TE_go ?_
    refine TC_seq ?_
    refine TC_seq ?_
    refine TC_reg ?_
    refine TL_ev env 1 rfl ⟨trivial, trivial⟩ ?_
    refine TL_end ?_
    refine TE_go ?_
    obtain ⟨z1, h1, h0⟩ := bnd h0
    refine TC_cut (α := Int) (fun s => z1 = s) (fun s => [(1, .p 10900 0), (3, .int .i64 s)]) (fun s => [(10900, some (.cells [.int .i64 p0, .int .i64 p1, .int .i64 p2, .int .i64 p3, .int .i64 p4, .int .i64 p5, .int .i64 p6, .int .i64 p7, .int .i64 p8, .int .i64 p9]))]) ?_ ?_
    · refine TC_blk ?_
      refine TC_loop (α := Int × Int) (fun n s => psalteryref11_Bits.l0 K p0 p1 p2 p3 p4 p5 p6 p7 p8 p9 n s.1 s.2 = some z1) (fun s => [(1, .p 11200 0), (3, .int .i64 s.1), (4, .int .i64 s.2)]) (fun s => [(11200, some (.cells [.int .i64 p0, .int .i64 p1, .int .i64 p2, .int .i64 p3, .int .i64 p4, .int .i64 p5, .int .i64 p6, .int .i64 p7, .int .i64 p8, .int .i64 p9]))]) K ?_ ?_
      · exact SP_ren [(11200, 1001)] (_, _) h1 ⟨rfl, rfl, rfl, trivial⟩ ⟨rfl, trivial⟩ rfl
      rintro n ⟨x17, x18⟩ h1
      rcases n with _ | n
      · exact (nsome h1).elim
      replace h1 : psalteryref11_Bits.r0 K p0 p1 p2 p3 p4 p5 p6 p7 p8 p9 (psalteryref11_Bits.l0 K p0 p1 p2 p3 p4 p5 p6 p7 p8 p9 n) x17 x18 = some z1 := h1
      refine TC_seq ?_
      refine TC_seq ?_
      refine TC_reg ?_
      refine TL_ev env 4 rfl ⟨trivial, ⟨trivial, ⟨⟨trivial, trivial⟩, ⟨⟨trivial, ⟨trivial, trivial⟩⟩, trivial⟩⟩⟩⟩ ?_
      refine TL_end ?_
      refine TE_go ?_
      refine TC_cond rfl (fun hb => ?_) (fun hb => ?_)
      · replace h1 := bif_t h1 hb
        refine TC_skip ?_
        refine TE_go ?_
        refine TC_seq ?_
        refine TC_blk ?_
        refine TC_reg ?_
        refine TL_ev env 6 rfl ⟨trivial, ⟨trivial, ⟨⟨trivial, trivial⟩, ⟨⟨trivial, ⟨trivial, trivial⟩⟩, ⟨⟨trivial, ⟨trivial, trivial⟩⟩, ⟨trivial, trivial⟩⟩⟩⟩⟩⟩ ?_
        refine TL_end ?_
        refine tbn ?_
        refine TE_go ?_
        refine TC_reg ?_
        refine TL_ev env 3 rfl ⟨trivial, ⟨⟨trivial, ⟨trivial, trivial⟩⟩, ⟨trivial, trivial⟩⟩⟩ ?_
        refine TL_end ?_
        refine tsn ?_
        exact TE_nextr [(11200, 11200)] n (Nat.lt_succ_self n) (_, _) h1 ⟨rfl, rfl, rfl, trivial⟩ ⟨rfl, trivial⟩ rfl
      · replace h1 := bif_f h1 hb
        refine TC_exit ?_
        refine tsx ?_
        refine tsx ?_
        refine tbe ?_
        obtain rfl := sinj h1
        refine tsn ?_
        exact SP_ren [(10900, 11200)] _ rfl ⟨rfl, rfl, trivial⟩ ⟨rfl, trivial⟩ rfl
    · rintro x14 rfl
      refine TE_go ?_
      refine TC_seq ?_
      refine TC_seq ?_
      refine TC_reg ?_
      refine TL_ev env 3 rfl ⟨trivial, ⟨⟨trivial, trivial⟩, ⟨⟨trivial, ⟨trivial, trivial⟩⟩, trivial⟩⟩⟩ ?_
      refine TL_end ?_
      refine TE_go ?_
      obtain ⟨z1, h1, h0⟩ := bnd h0
      refine TC_cut (α := Int) (fun s => z1 = s) (fun s => [(3, .int .i64 s)]) (fun s => []) ?_ ?_
      · refine TC_cond rfl (fun hb => ?_) (fun hb => ?_)
        · replace h1 := bif_t h1 hb
          refine TC_reg ?_
          refine TL_ev env 5 rfl ⟨trivial, ⟨trivial, ⟨⟨trivial, trivial⟩, ⟨⟨trivial, ⟨trivial, trivial⟩⟩, ⟨trivial, trivial⟩⟩⟩⟩⟩ ?_
          refine TL_end ?_
          obtain rfl := sinj h1
          refine tsn ?_
          exact SP_ren [] _ rfl ⟨rfl, trivial⟩ trivial rfl
        · replace h1 := bif_f h1 hb
          refine TC_skip ?_
          obtain rfl := sinj h1
          refine tsn ?_
          exact SP_ren [] _ rfl ⟨rfl, trivial⟩ trivial rfl
      · rintro x15 rfl
        refine TE_go ?_
        refine TC_seq ?_
        refine TC_reg ?_
        refine TL_ev env 2 rfl ⟨trivial, ⟨trivial, trivial⟩⟩ ?_
        refine TL_end ?_
        refine TE_go ?_
        refine TC_ret ?_
        obtain rfl := sinj h0
        exact TE_ret env rfl trivial trivial
theorem psalteryref11_Bits.ok0 {K : Nat} {p0 : Int} {p1 : Int} {p2 : Int} {p3 : Int} {p4 : Int} {p5 : Int} {p6 : Int} {p7 : Int} {p8 : Int} {p9 : Int} {q0 : Int} (h0 : psalteryref11_Bits K p0 p1 p2 p3 p4 p5 p6 p7 p8 p9 = some q0) : Fn Try.prog 38 [.agg [.int .i64 p0, .int .i64 p1, .int .i64 p2, .int .i64 p3, .int .i64 p4, .int .i64 p5, .int .i64 p6, .int .i64 p7, .int .i64 p8, .int .i64 p9]] [] (.int .i64 q0) [] := psalteryref11_Bits.ok h0
theorem psalteryref11_Bits.fnb : fnb Try.prog 38 = true := fnb_of Try.func38 rfl
def psalteryref11_Sub.res (_p0 : Int) (_p1 : Int) (_p2 : Int) (_p3 : Int) (_p4 : Int) (_p5 : Int) (_p6 : Int) (_p7 : Int) (_p8 : Int) (_p9 : Int) : Bool → MV
  | q0 => .bool q0
def psalteryref11_Sub.out (_p0 : Int) (_p1 : Int) (_p2 : Int) (_p3 : Int) (_p4 : Int) (_p5 : Int) (_p6 : Int) (_p7 : Int) (_p8 : Int) (_p9 : Int) : Bool → List (Nat × Option MObj)
  | _ => []
theorem psalteryref11_Sub.ok {K : Nat} {p0 : Int} {p1 : Int} {p2 : Int} {p3 : Int} {p4 : Int} {p5 : Int} {p6 : Int} {p7 : Int} {p8 : Int} {p9 : Int} {r : Bool} (h0 : psalteryref11_Sub K p0 p1 p2 p3 p4 p5 p6 p7 p8 p9 = some r) : Fn Try.prog 85 [.agg [.int .i64 p0, .int .i64 p1, .int .i64 p2, .int .i64 p3, .int .i64 p4, .int .i64 p5, .int .i64 p6, .int .i64 p7, .int .i64 p8, .int .i64 p9]] [] (psalteryref11_Sub.res p0 p1 p2 p3 p4 p5 p6 p7 p8 p9 r) (psalteryref11_Sub.out p0 p1 p2 p3 p4 p5 p6 p7 p8 p9 r) := by
  refine Fn_of Try.func85 rfl (Nat.le_of_ble_eq_true rfl) fun Γ => ?_
  refine TC_seq ?_
  refine TC_reg ?_
  refine TL_ev env 2 rfl ⟨trivial, ⟨trivial, trivial⟩⟩ ?_
  refine TL_end ?_
  refine TE_go ?_
  refine TC_seq ?_
  refine TC_seq ?_
  refine TC_reg ?_
  refine TL_ev env 13 rfl ⟨trivial, ⟨⟨trivial, trivial⟩, ⟨⟨trivial, ⟨trivial, trivial⟩⟩, ⟨trivial, ⟨fun eg => trivial, ⟨fun eg => ⟨fun e => e, trivial⟩, ⟨fun eg => ⟨fun e => e, ⟨trivial, trivial⟩⟩, ⟨⟨trivial, ⟨trivial, fun e => e⟩⟩, ⟨trivial, ⟨fun eg => trivial, ⟨fun eg => ⟨fun e => e, trivial⟩, ⟨fun eg => ⟨fun e => e, ⟨trivial, trivial⟩⟩, ⟨⟨trivial, ⟨trivial, fun e => e⟩⟩, trivial⟩⟩⟩⟩⟩⟩⟩⟩⟩⟩⟩⟩⟩ ?_
  refine TL_end ?_
  refine TE_go ?_
  refine TC_cond rfl (fun hb => ?_) (fun hb => ?_)
  · replace h0 := bif_t h0 hb
    refine TC_seq ?_
    refine TC_reg ?_
    refine TL_ev env 1 rfl ⟨trivial, trivial⟩ ?_
    refine TL_end ?_
    refine TE_go ?_
    refine TC_ret ?_
    refine tsr ?_
    obtain rfl := sinj h0
    exact TE_ret env rfl trivial trivial
  · replace h0 := bif_f h0 hb
    refine TC_skip ?_
    refine TE_go ?_
    refine TC_seq ?_
    refine TC_seq ?_
    refine TC_reg ?_
    refine TL_ev env 28 rfl ⟨trivial, ⟨⟨trivial, trivial⟩, ⟨⟨trivial, ⟨trivial, trivial⟩⟩, ⟨trivial, ⟨fun eg => trivial, ⟨fun eg => ⟨fun e => e, trivial⟩, ⟨fun eg => ⟨fun e => e, ⟨trivial, trivial⟩⟩, ⟨⟨trivial, ⟨trivial, fun e => e⟩⟩, ⟨trivial, ⟨fun eg => trivial, ⟨fun eg => ⟨fun e => e, trivial⟩, ⟨fun eg => ⟨fun e => e, ⟨trivial, trivial⟩⟩, ⟨⟨trivial, ⟨trivial, fun e => e⟩⟩, ⟨trivial, ⟨fun eg => trivial, ⟨fun eg => ⟨fun e => e, trivial⟩, ⟨fun eg => ⟨fun e => e, ⟨trivial, trivial⟩⟩, ⟨⟨trivial, ⟨trivial, fun e => e⟩⟩, ⟨trivial, ⟨fun eg => trivial, ⟨fun eg => ⟨fun e => e, trivial⟩, ⟨fun eg => ⟨fun e => e, ⟨trivial, trivial⟩⟩, ⟨⟨trivial, ⟨trivial, fun e => e⟩⟩, ⟨trivial, ⟨fun eg => trivial, ⟨fun eg => ⟨fun e => e, trivial⟩, ⟨fun eg => ⟨fun e => e, ⟨trivial, trivial⟩⟩, ⟨⟨trivial, ⟨trivial, fun e => e⟩⟩, trivial⟩⟩⟩⟩⟩⟩⟩⟩⟩⟩⟩⟩⟩⟩⟩⟩⟩⟩⟩⟩⟩⟩⟩⟩⟩⟩⟩⟩ ?_
    refine TL_end ?_
    refine TE_go ?_
    refine TC_cond rfl (fun hb => ?_) (fun hb => ?_)
    · replace h0 := bif_t h0 hb
      refine TC_seq ?_
      refine TC_reg ?_
      refine TL_ev env 1 rfl ⟨trivial, trivial⟩ ?_
      refine TL_end ?_
      refine TE_go ?_
      refine TC_ret ?_
      refine tsr ?_
      obtain rfl := sinj h0
      exact TE_ret env rfl trivial trivial
    · replace h0 := bif_f h0 hb
      refine TC_skip ?_
      refine TE_go ?_
      refine TC_seq ?_
      refine TC_seq ?_
      refine TC_reg ?_
      refine TL_ev env 28 rfl ⟨trivial, ⟨⟨trivial, trivial⟩, ⟨⟨trivial, ⟨trivial, trivial⟩⟩, ⟨trivial, ⟨fun eg => trivial, ⟨fun eg => ⟨fun e => e, trivial⟩, ⟨fun eg => ⟨fun e => e, ⟨trivial, trivial⟩⟩, ⟨⟨trivial, ⟨fun e => e, trivial⟩⟩, ⟨trivial, ⟨fun eg => trivial, ⟨fun eg => ⟨fun e => e, trivial⟩, ⟨fun eg => ⟨fun e => e, ⟨trivial, trivial⟩⟩, ⟨fun eg => fun e => e, ⟨fun eg => trivial, ⟨fun eg => ⟨fun e => e, trivial⟩, ⟨fun eg => ⟨fun e => e, ⟨trivial, trivial⟩⟩, ⟨fun eg => ⟨fun e => e, ⟨((by decide : ∀ b0 b1 b2 : Bool, (!(bif b1 then b2 else false)) = true → b0 = true → ((!(bif b1 then b2 else false)) && b0) = true) _ _ _ eg), trivial⟩⟩, ⟨fun eg => fun e => e, ⟨fun eg => trivial, ⟨fun eg => ⟨fun e => e, trivial⟩, ⟨fun eg => ⟨fun e => e, ⟨trivial, trivial⟩⟩, ⟨fun eg => ⟨fun e => e, ⟨((by decide : ∀ b0 b1 b2 b3 : Bool, (!(bif b2 then b3 else false)) = true → (bif b0 then b1 else false) = true → ((!(bif b2 then b3 else false)) && (bif b0 then b1 else false)) = true) _ _ _ _ eg), trivial⟩⟩, ⟨fun eg => fun e => e, ⟨fun eg => trivial, ⟨fun eg => ⟨fun e => e, trivial⟩, ⟨fun eg => ⟨fun e => e, ⟨trivial, trivial⟩⟩, ⟨fun eg => ⟨fun e => e, ⟨((by decide : ∀ b0 b1 b2 b3 b4 : Bool, (!(bif b3 then b4 else false)) = true → (bif (bif b0 then b1 else false) then b2 else false) = true → ((!(bif b3 then b4 else false)) && (bif (bif b0 then b1 else false) then b2 else false)) = true) _ _ _ _ _ eg), trivial⟩⟩, ⟨⟨trivial, ⟨trivial, fun e => e⟩⟩, trivial⟩⟩⟩⟩⟩⟩⟩⟩⟩⟩⟩⟩⟩⟩⟩⟩⟩⟩⟩⟩⟩⟩⟩⟩⟩⟩⟩⟩ ?_
      refine TL_end ?_
      refine TE_go ?_
      refine TC_cond rfl (fun hb => ?_) (fun hb => ?_)
      · replace h0 := bif_t h0 hb
        refine TC_seq ?_
        refine TC_reg ?_
        refine TL_ev env 1 rfl ⟨trivial, trivial⟩ ?_
        refine TL_end ?_
        refine TE_go ?_
        refine TC_ret ?_
        refine tsr ?_
        obtain rfl := sinj h0
        exact TE_ret env rfl trivial trivial
      · replace h0 := bif_f h0 hb
        refine TC_skip ?_
        refine TE_go ?_
        refine TC_seq ?_
        refine TC_seq ?_
        refine TC_reg ?_
        refine TL_ev env 13 rfl ⟨trivial, ⟨⟨trivial, trivial⟩, ⟨⟨trivial, ⟨trivial, trivial⟩⟩, ⟨trivial, ⟨fun eg => trivial, ⟨fun eg => ⟨fun e => e, trivial⟩, ⟨fun eg => ⟨fun e => e, ⟨trivial, trivial⟩⟩, ⟨fun eg => fun e => e, ⟨fun eg => trivial, ⟨fun eg => ⟨fun e => e, trivial⟩, ⟨fun eg => ⟨fun e => e, ⟨trivial, trivial⟩⟩, ⟨fun eg => ⟨fun e => e, ⟨trivial, ((by decide : ∀ b0 b1 : Bool, b1 = true → (!b0) = true → (b1 && (!b0)) = true) _ _ eg)⟩⟩, ⟨⟨trivial, ⟨fun e => e, trivial⟩⟩, trivial⟩⟩⟩⟩⟩⟩⟩⟩⟩⟩⟩⟩⟩ ?_
        refine TL_end ?_
        refine TE_go ?_
        refine TC_cond rfl (fun hb => ?_) (fun hb => ?_)
        · replace h0 := bif_t h0 hb
          refine TC_seq ?_
          refine TC_reg ?_
          refine TL_ev env 1 rfl ⟨trivial, trivial⟩ ?_
          refine TL_end ?_
          refine TE_go ?_
          refine TC_ret ?_
          refine tsr ?_
          obtain rfl := sinj h0
          exact TE_ret env rfl trivial trivial
        · replace h0 := bif_f h0 hb
          refine TC_skip ?_
          refine TE_go ?_
          refine TC_seq ?_
          obtain ⟨z1, h1, h0⟩ := bnd h0
          refine TC_cut (α := Bool) (fun s => z1 = s) (fun s => [(2, .bool s)]) (fun s => []) ?_ ?_
          · refine TC_reg ?_
            refine TL_ev env 20 rfl ⟨trivial, ⟨⟨trivial, trivial⟩, ⟨⟨trivial, ⟨trivial, trivial⟩⟩, ⟨trivial, ⟨fun eg => trivial, ⟨fun eg => ⟨fun e => e, trivial⟩, ⟨fun eg => ⟨fun e => e, ⟨trivial, trivial⟩⟩, ⟨⟨trivial, ⟨fun e => e, trivial⟩⟩, ⟨trivial, ⟨fun eg => trivial, ⟨fun eg => ⟨fun e => e, trivial⟩, ⟨fun eg => trivial, ⟨fun eg => ⟨fun e => e, trivial⟩, ⟨fun eg => ⟨trivial, ⟨fun e => e, trivial⟩⟩, ⟨fun eg => trivial, ⟨fun eg => ⟨fun e => e, trivial⟩, ⟨fun eg => ⟨fun e => e, ⟨fun e => e, trivial⟩⟩, ⟨fun eg => ⟨fun e => e, ⟨fun e => e, trivial⟩⟩, ⟨⟨trivial, ⟨fun e => e, trivial⟩⟩, ⟨trivial, trivial⟩⟩⟩⟩⟩⟩⟩⟩⟩⟩⟩⟩⟩⟩⟩⟩⟩⟩⟩⟩ ?_
            refine TL_split 104 rfl (fun hb => ?_) (fun hb => ?_)
            · replace h1 := bif_t h1 hb
              refine TL_gt rfl rfl rfl rfl ?_
              refine TL_ev env 1 rfl ⟨⟨trivial, trivial⟩, trivial⟩ ?_
              refine TL_gt rfl rfl rfl rfl ?_
              obtain ⟨r32, hr, h1⟩ := bnd h1
              refine TL_callB [] (psalteryref11_Bits.ok0 hr) psalteryref11_Bits.fnb rfl ⟨trivial, ⟨trivial, trivial⟩⟩ rfl trivial rfl ?_
              refine TL_gt rfl rfl rfl rfl ?_
              refine TL_ev env 3 rfl ⟨⟨trivial, ⟨trivial, trivial⟩⟩, ⟨⟨trivial, ⟨trivial, trivial⟩⟩, ⟨trivial, trivial⟩⟩⟩ ?_
              refine TL_end ?_
              obtain rfl := sinj h1
              refine tsn ?_
              exact SP_ren [] _ rfl ⟨rfl, trivial⟩ trivial rfl
            · replace h1 := bif_f h1 hb
              refine TL_gf (.bool false) rfl rfl rfl rfl rfl (by decide) ?_
              refine TL_gf (.bool false) rfl rfl rfl rfl rfl (by decide) ?_
              refine TL_gf (.bool false) rfl rfl rfl rfl rfl (by decide) ?_
              refine TL_ev env 2 rfl ⟨⟨trivial, ⟨fun e => e, trivial⟩⟩, ⟨trivial, trivial⟩⟩ ?_
              refine TL_end ?_
              obtain rfl := sinj h1
              refine tsn ?_
              exact SP_ren [] _ rfl ⟨rfl, trivial⟩ trivial rfl
          · rintro x24 rfl
            refine TE_go ?_
            refine TC_ret ?_
            obtain rfl := sinj h0
            exact TE_ret env rfl trivial trivial
theorem psalteryref11_Sub.ok0 {K : Nat} {p0 : Int} {p1 : Int} {p2 : Int} {p3 : Int} {p4 : Int} {p5 : Int} {p6 : Int} {p7 : Int} {p8 : Int} {p9 : Int} {q0 : Bool} (h0 : psalteryref11_Sub K p0 p1 p2 p3 p4 p5 p6 p7 p8 p9 = some q0) : Fn Try.prog 85 [.agg [.int .i64 p0, .int .i64 p1, .int .i64 p2, .int .i64 p3, .int .i64 p4, .int .i64 p5, .int .i64 p6, .int .i64 p7, .int .i64 p8, .int .i64 p9]] [] (.bool q0) [] := psalteryref11_Sub.ok h0
theorem psalteryref11_Sub.fnb : fnb Try.prog 85 = true := fnb_of Try.func85 rfl
def psalteryref09_May.res (_p0 : Int) : Bool → MV
  | q0 => .bool q0
def psalteryref09_May.out (_p0 : Int) : Bool → List (Nat × Option MObj)
  | _ => []
theorem psalteryref09_May.ok {K : Nat} {p0 : Int} {r : Bool} (h0 : psalteryref09_May K p0 = some r) : Fn Try.prog 127 [.int .i64 p0] [] (psalteryref09_May.res p0 r) (psalteryref09_May.out p0 r) := by
  refine Fn_of Try.func127 rfl (Nat.le_of_ble_eq_true rfl) fun Γ => ?_
  refine TC_seq ?_
  refine TC_reg ?_
  refine TL_ev env 1 rfl ⟨trivial, trivial⟩ ?_
  refine TL_end ?_
  refine TE_go ?_
  refine TC_seq ?_
  refine TC_reg ?_
  refine TL_ev env 15 rfl ⟨trivial, ⟨⟨trivial, ⟨trivial, trivial⟩⟩, ⟨trivial, ⟨fun eg => trivial, ⟨fun eg => ⟨fun e => e, ⟨trivial, trivial⟩⟩, ⟨⟨trivial, ⟨trivial, fun e => e⟩⟩, ⟨trivial, ⟨fun eg => trivial, ⟨fun eg => ⟨fun e => e, ⟨trivial, trivial⟩⟩, ⟨⟨trivial, ⟨trivial, fun e => e⟩⟩, ⟨trivial, ⟨fun eg => trivial, ⟨fun eg => ⟨fun e => e, ⟨trivial, trivial⟩⟩, ⟨⟨trivial, ⟨trivial, fun e => e⟩⟩, ⟨trivial, trivial⟩⟩⟩⟩⟩⟩⟩⟩⟩⟩⟩⟩⟩⟩⟩ ?_
  refine TL_end ?_
  refine TE_go ?_
  refine TC_ret ?_
  obtain rfl := sinj h0
  exact TE_ret env rfl trivial trivial
theorem psalteryref09_May.ok0 {K : Nat} {p0 : Int} {q0 : Bool} (h0 : psalteryref09_May K p0 = some q0) : Fn Try.prog 127 [.int .i64 p0] [] (.bool q0) [] := psalteryref09_May.ok h0
theorem psalteryref09_May.fnb : fnb Try.prog 127 = true := fnb_of Try.func127 rfl
def psalteryref11_Lap.res (_p0 : Int) (_p1 : Int) (_p2 : Int) (_p3 : Int) (_p4 : Int) (_p5 : Int) (_p6 : Int) (_p7 : Int) (_p8 : Int) (_p9 : Int) : Bool → MV
  | q0 => .bool q0
def psalteryref11_Lap.out (_p0 : Int) (_p1 : Int) (_p2 : Int) (_p3 : Int) (_p4 : Int) (_p5 : Int) (_p6 : Int) (_p7 : Int) (_p8 : Int) (_p9 : Int) : Bool → List (Nat × Option MObj)
  | _ => []
theorem psalteryref11_Lap.ok {K : Nat} {p0 : Int} {p1 : Int} {p2 : Int} {p3 : Int} {p4 : Int} {p5 : Int} {p6 : Int} {p7 : Int} {p8 : Int} {p9 : Int} {r : Bool} (h0 : psalteryref11_Lap K p0 p1 p2 p3 p4 p5 p6 p7 p8 p9 = some r) : Fn Try.prog 86 [.agg [.int .i64 p0, .int .i64 p1, .int .i64 p2, .int .i64 p3, .int .i64 p4, .int .i64 p5, .int .i64 p6, .int .i64 p7, .int .i64 p8, .int .i64 p9]] [] (psalteryref11_Lap.res p0 p1 p2 p3 p4 p5 p6 p7 p8 p9 r) (psalteryref11_Lap.out p0 p1 p2 p3 p4 p5 p6 p7 p8 p9 r) := by
  refine Fn_of Try.func86 rfl (Nat.le_of_ble_eq_true rfl) fun Γ => ?_
  refine TC_seq ?_
  refine TC_reg ?_
  refine TL_ev env 2 rfl ⟨trivial, ⟨trivial, trivial⟩⟩ ?_
  refine TL_end ?_
  refine TE_go ?_
  refine TC_seq ?_
  refine TC_reg ?_
  refine TL_ev env 3 rfl ⟨⟨trivial, trivial⟩, ⟨trivial, ⟨⟨trivial, trivial⟩, trivial⟩⟩⟩ ?_
  refine TL_end ?_
  refine TE_go ?_
  refine TC_seq ?_
  refine TC_reg ?_
  refine TL_ev env 2 rfl ⟨trivial, ⟨⟨trivial, trivial⟩, trivial⟩⟩ ?_
  refine TL_end ?_
  refine TE_go ?_
  refine TC_seq ?_
  refine TC_reg ?_
  refine TL_ev env 2 rfl ⟨trivial, ⟨⟨trivial, trivial⟩, trivial⟩⟩ ?_
  refine TL_end ?_
  refine TE_go ?_
  refine TC_seq ?_
  refine TC_reg ?_
  refine TL_ev env 2 rfl ⟨trivial, ⟨⟨trivial, trivial⟩, trivial⟩⟩ ?_
  refine TL_end ?_
  refine TE_go ?_
  refine TC_seq ?_
  refine TC_reg ?_
  refine TL_ev env 2 rfl ⟨trivial, ⟨⟨trivial, trivial⟩, trivial⟩⟩ ?_
  refine TL_end ?_
  refine TE_go ?_
  refine TC_seq ?_
  obtain ⟨z1, h1, h0⟩ := bnd h0
  refine TC_cut (α := Bool) (fun s => z1 = s) (fun s => [(2, .bool s)]) (fun s => []) ?_ ?_
  · refine TC_reg ?_
    refine TL_ev env 24 rfl ⟨⟨trivial, trivial⟩, ⟨⟨trivial, trivial⟩, ⟨⟨trivial, ⟨trivial, trivial⟩⟩, ⟨trivial, ⟨fun eg => trivial, ⟨fun eg => ⟨fun e => e, trivial⟩, ⟨fun eg => ⟨fun e => e, ⟨trivial, trivial⟩⟩, ⟨⟨trivial, ⟨fun e => e, trivial⟩⟩, ⟨trivial, ⟨fun eg => trivial, ⟨fun eg => ⟨fun e => e, trivial⟩, ⟨fun eg => ⟨fun e => e, ⟨trivial, trivial⟩⟩, ⟨⟨trivial, ⟨fun e => e, trivial⟩⟩, ⟨trivial, ⟨fun eg => trivial, ⟨fun eg => ⟨fun e => e, trivial⟩, ⟨fun eg => ⟨fun e => e, ⟨trivial, trivial⟩⟩, ⟨⟨trivial, ⟨fun e => e, trivial⟩⟩, ⟨trivial, ⟨fun eg => trivial, ⟨fun eg => ⟨fun e => e, trivial⟩, ⟨fun eg => ⟨fun e => e, ⟨trivial, trivial⟩⟩, ⟨⟨trivial, ⟨fun e => e, trivial⟩⟩, ⟨trivial, trivial⟩⟩⟩⟩⟩⟩⟩⟩⟩⟩⟩⟩⟩⟩⟩⟩⟩⟩⟩⟩⟩⟩⟩⟩ ?_
    refine TL_split 32 rfl (fun hb => ?_) (fun hb => ?_)
    · replace h1 := bif_t h1 hb
      refine TL_gt rfl rfl rfl rfl ?_
      refine TL_ev env 1 rfl ⟨trivial, trivial⟩ ?_
      refine TL_gt rfl rfl rfl rfl ?_
      refine TL_ev env 1 rfl ⟨⟨trivial, trivial⟩, trivial⟩ ?_
      refine TL_gt rfl rfl rfl rfl ?_
      obtain ⟨r14, hr, h1⟩ := bnd h1
      refine TL_callB [] (psalteryref09_May.ok0 hr) psalteryref09_May.fnb rfl ⟨trivial, ⟨trivial, trivial⟩⟩ rfl trivial rfl ?_
      refine TL_ev env 12 rfl ⟨⟨trivial, ⟨trivial, trivial⟩⟩, ⟨trivial, ⟨fun eg => trivial, ⟨fun eg => ⟨fun e => e, trivial⟩, ⟨fun eg => ⟨fun e => e, ⟨trivial, trivial⟩⟩, ⟨⟨trivial, ⟨fun e => e, trivial⟩⟩, ⟨trivial, ⟨fun eg => trivial, ⟨fun eg => ⟨fun e => e, trivial⟩, ⟨fun eg => ⟨fun e => e, ⟨trivial, trivial⟩⟩, ⟨⟨trivial, ⟨fun e => e, trivial⟩⟩, ⟨trivial, trivial⟩⟩⟩⟩⟩⟩⟩⟩⟩⟩⟩⟩ ?_
      refine TL_end ?_
      obtain rfl := sinj h1
      refine tsn ?_
      exact SP_ren [] _ rfl ⟨rfl, trivial⟩ trivial rfl
    · replace h1 := bif_f h1 hb
      refine TL_gf (.bool false) rfl rfl rfl rfl rfl (by decide) ?_
      refine TL_gf (.bool false) rfl rfl rfl rfl rfl (by decide) ?_
      refine TL_gf (.bool false) rfl rfl rfl rfl rfl (by decide) ?_
      refine TL_ev env 2 rfl ⟨⟨trivial, ⟨fun e => e, trivial⟩⟩, ⟨trivial, trivial⟩⟩ ?_
      refine TL_gf (.bool false) rfl rfl rfl rfl rfl (by decide) ?_
      refine TL_gf (.bool false) rfl rfl rfl rfl rfl (by decide) ?_
      refine TL_gf (.bool false) rfl rfl rfl rfl rfl (by decide) ?_
      refine TL_ev env 2 rfl ⟨⟨trivial, ⟨fun e => e, trivial⟩⟩, ⟨trivial, trivial⟩⟩ ?_
      refine TL_gf (.bool false) rfl rfl rfl rfl rfl (by decide) ?_
      refine TL_gf (.bool false) rfl rfl rfl rfl rfl (by decide) ?_
      refine TL_gf (.bool false) rfl rfl rfl rfl rfl (by decide) ?_
      refine TL_ev env 2 rfl ⟨⟨trivial, ⟨fun e => e, trivial⟩⟩, ⟨trivial, trivial⟩⟩ ?_
      refine TL_end ?_
      obtain rfl := sinj h1
      refine tsn ?_
      exact SP_ren [] _ rfl ⟨rfl, trivial⟩ trivial rfl
  · rintro x4 rfl
    refine TE_go ?_
    refine TC_ret ?_
    obtain rfl := sinj h0
    exact TE_ret env rfl trivial trivial
theorem psalteryref11_Lap.ok0 {K : Nat} {p0 : Int} {p1 : Int} {p2 : Int} {p3 : Int} {p4 : Int} {p5 : Int} {p6 : Int} {p7 : Int} {p8 : Int} {p9 : Int} {q0 : Bool} (h0 : psalteryref11_Lap K p0 p1 p2 p3 p4 p5 p6 p7 p8 p9 = some q0) : Fn Try.prog 86 [.agg [.int .i64 p0, .int .i64 p1, .int .i64 p2, .int .i64 p3, .int .i64 p4, .int .i64 p5, .int .i64 p6, .int .i64 p7, .int .i64 p8, .int .i64 p9]] [] (.bool q0) [] := psalteryref11_Lap.ok h0
theorem psalteryref11_Lap.fnb : fnb Try.prog 86 = true := fnb_of Try.func86 rfl
def psalteryref11_Check.res (_p0 : Int) (_p1 : Int) (_p2 : Int) (_p3 : Int) (_p4 : Int) (_p5 : Int) (_p6 : Int) (_p7 : Int) (_p8 : Int) (_p9 : Int) : Bool → MV
  | q0 => .bool q0
def psalteryref11_Check.out (_p0 : Int) (_p1 : Int) (_p2 : Int) (_p3 : Int) (_p4 : Int) (_p5 : Int) (_p6 : Int) (_p7 : Int) (_p8 : Int) (_p9 : Int) : Bool → List (Nat × Option MObj)
  | _ => []
theorem psalteryref11_Check.ok {K : Nat} {p0 : Int} {p1 : Int} {p2 : Int} {p3 : Int} {p4 : Int} {p5 : Int} {p6 : Int} {p7 : Int} {p8 : Int} {p9 : Int} {r : Bool} (h0 : psalteryref11_Check K p0 p1 p2 p3 p4 p5 p6 p7 p8 p9 = some r) : Fn Try.prog 32 [.agg [.int .i64 p0, .int .i64 p1, .int .i64 p2, .int .i64 p3, .int .i64 p4, .int .i64 p5, .int .i64 p6, .int .i64 p7, .int .i64 p8, .int .i64 p9]] [] (psalteryref11_Check.res p0 p1 p2 p3 p4 p5 p6 p7 p8 p9 r) (psalteryref11_Check.out p0 p1 p2 p3 p4 p5 p6 p7 p8 p9 r) := by
  refine Fn_of Try.func32 rfl (Nat.le_of_ble_eq_true rfl) fun Γ => ?_
  refine TC_seq ?_
  refine TC_reg ?_
  refine TL_ev env 2 rfl ⟨trivial, ⟨trivial, trivial⟩⟩ ?_
  refine TL_end ?_
  refine TE_go ?_
  refine TC_seq ?_
  obtain ⟨z1, h1, h0⟩ := bnd h0
  refine TC_cut (α := Bool) (fun s => z1 = s) (fun s => [(2, .bool s)]) (fun s => []) ?_ ?_
  · refine TC_reg ?_
    refine TL_ev env 1 rfl ⟨⟨trivial, trivial⟩, trivial⟩ ?_
    obtain ⟨r7, hr, h1⟩ := bnd h1
    refine TL_callB [] (psalteryref11_Sub.ok0 hr) psalteryref11_Sub.fnb rfl ⟨trivial, ⟨trivial, trivial⟩⟩ rfl trivial rfl ?_
    refine TL_ev env 1 rfl ⟨trivial, trivial⟩ ?_
    refine TL_split 5 rfl (fun hb => ?_) (fun hb => ?_)
    · replace h1 := bif_t h1 hb
      refine TL_gf (.bool false) rfl rfl rfl rfl rfl (by decide) ?_
      refine TL_gf (.bool false) rfl rfl rfl rfl rfl (by decide) ?_
      refine TL_ev env 2 rfl ⟨⟨trivial, ⟨trivial, fun e => e⟩⟩, ⟨trivial, trivial⟩⟩ ?_
      refine TL_end ?_
      obtain rfl := sinj h1
      refine tsn ?_
      exact SP_ren [] _ rfl ⟨rfl, trivial⟩ trivial rfl
    · replace h1 := bif_f h1 hb
      refine TL_gt rfl rfl rfl rfl ?_
      refine TL_ev env 1 rfl ⟨⟨trivial, trivial⟩, trivial⟩ ?_
      refine TL_gt rfl rfl rfl rfl ?_
      obtain ⟨r8, hr, h1⟩ := bnd h1
      refine TL_callB [] (psalteryref11_Lap.ok0 hr) psalteryref11_Lap.fnb rfl ⟨trivial, ⟨trivial, trivial⟩⟩ rfl trivial rfl ?_
      refine TL_ev env 2 rfl ⟨⟨trivial, ⟨trivial, trivial⟩⟩, ⟨trivial, trivial⟩⟩ ?_
      refine TL_end ?_
      obtain rfl := sinj h1
      refine tsn ?_
      exact SP_ren [] _ rfl ⟨rfl, trivial⟩ trivial rfl
  · rintro x6 rfl
    refine TE_go ?_
    refine TC_ret ?_
    obtain rfl := sinj h0
    exact TE_ret env rfl trivial trivial
theorem psalteryref11_Check.ok0 {K : Nat} {p0 : Int} {p1 : Int} {p2 : Int} {p3 : Int} {p4 : Int} {p5 : Int} {p6 : Int} {p7 : Int} {p8 : Int} {p9 : Int} {q0 : Bool} (h0 : psalteryref11_Check K p0 p1 p2 p3 p4 p5 p6 p7 p8 p9 = some q0) : Fn Try.prog 32 [.agg [.int .i64 p0, .int .i64 p1, .int .i64 p2, .int .i64 p3, .int .i64 p4, .int .i64 p5, .int .i64 p6, .int .i64 p7, .int .i64 p8, .int .i64 p9]] [] (.bool q0) [] := psalteryref11_Check.ok h0
theorem psalteryref11_Check.fnb : fnb Try.prog 32 = true := fnb_of Try.func32 rfl
def psalteryref11_Samples.res (_p0 : Int) (_p1 : Int) (_p2 : Int) (_p3 : Int) (_p4 : Int) (_p5 : Int) (_p6 : Int) (_p7 : Int) (_p8 : Int) (_p9 : Int) : Int → MV
  | q0 => .int .i64 q0
def psalteryref11_Samples.out (_p0 : Int) (_p1 : Int) (_p2 : Int) (_p3 : Int) (_p4 : Int) (_p5 : Int) (_p6 : Int) (_p7 : Int) (_p8 : Int) (_p9 : Int) : Int → List (Nat × Option MObj)
  | _ => []
theorem psalteryref11_Samples.ok {K : Nat} {p0 : Int} {p1 : Int} {p2 : Int} {p3 : Int} {p4 : Int} {p5 : Int} {p6 : Int} {p7 : Int} {p8 : Int} {p9 : Int} {r : Int} (h0 : psalteryref11_Samples K p0 p1 p2 p3 p4 p5 p6 p7 p8 p9 = some r) : Fn Try.prog 37 [.agg [.int .i64 p0, .int .i64 p1, .int .i64 p2, .int .i64 p3, .int .i64 p4, .int .i64 p5, .int .i64 p6, .int .i64 p7, .int .i64 p8, .int .i64 p9]] [] (psalteryref11_Samples.res p0 p1 p2 p3 p4 p5 p6 p7 p8 p9 r) (psalteryref11_Samples.out p0 p1 p2 p3 p4 p5 p6 p7 p8 p9 r) := by
  refine Fn_of Try.func37 rfl (Nat.le_of_ble_eq_true rfl) fun Γ => ?_
  refine TC_seq ?_
  refine TC_reg ?_
  refine TL_ev env 2 rfl ⟨trivial, ⟨trivial, trivial⟩⟩ ?_
  refine TL_end ?_
  refine TE_go ?_
  refine TC_seq ?_
  refine TC_seq ?_
  refine TC_reg ?_
  refine TL_ev env 3 rfl ⟨trivial, ⟨⟨trivial, trivial⟩, ⟨⟨trivial, ⟨trivial, trivial⟩⟩, trivial⟩⟩⟩ ?_
  refine TL_end ?_
  refine TE_go ?_
  refine TC_cond rfl (fun hb => ?_) (fun hb => ?_)
  · replace h0 := bif_t h0 hb
    refine TC_seq ?_
    refine TC_reg ?_
    refine TL_ev env 3 rfl ⟨trivial, ⟨⟨trivial, trivial⟩, ⟨trivial, trivial⟩⟩⟩ ?_
    refine TL_end ?_
    refine TE_go ?_
    refine TC_ret ?_
    refine tsr ?_
    obtain rfl := sinj h0
    exact TE_ret env rfl trivial trivial
  · replace h0 := bif_f h0 hb
    refine TC_skip ?_
    refine TE_go ?_
    refine TC_seq ?_
    refine TC_reg ?_
    refine TL_ev env 6 rfl ⟨trivial, ⟨⟨trivial, trivial⟩, ⟨trivial, ⟨⟨trivial, trivial⟩, ⟨⟨trivial, ⟨trivial, trivial⟩⟩, ⟨trivial, trivial⟩⟩⟩⟩⟩⟩ ?_
    refine TL_end ?_
    refine TE_go ?_
    refine TC_ret ?_
    obtain rfl := sinj h0
    exact TE_ret env rfl trivial trivial
theorem psalteryref11_Samples.ok0 {K : Nat} {p0 : Int} {p1 : Int} {p2 : Int} {p3 : Int} {p4 : Int} {p5 : Int} {p6 : Int} {p7 : Int} {p8 : Int} {p9 : Int} {q0 : Int} (h0 : psalteryref11_Samples K p0 p1 p2 p3 p4 p5 p6 p7 p8 p9 = some q0) : Fn Try.prog 37 [.agg [.int .i64 p0, .int .i64 p1, .int .i64 p2, .int .i64 p3, .int .i64 p4, .int .i64 p5, .int .i64 p6, .int .i64 p7, .int .i64 p8, .int .i64 p9]] [] (.int .i64 q0) [] := psalteryref11_Samples.ok h0
theorem psalteryref11_Samples.fnb : fnb Try.prog 37 = true := fnb_of Try.func37 rfl
def psalteryref11_Payload.res (_p0 : Int) (_p1 : Int) (_p2 : Int) (_p3 : Int) (_p4 : Int) (_p5 : Int) (_p6 : Int) (_p7 : Int) (_p8 : Int) (_p9 : Int) : Int → MV
  | q0 => .int .i64 q0
def psalteryref11_Payload.out (_p0 : Int) (_p1 : Int) (_p2 : Int) (_p3 : Int) (_p4 : Int) (_p5 : Int) (_p6 : Int) (_p7 : Int) (_p8 : Int) (_p9 : Int) : Int → List (Nat × Option MObj)
  | _ => []
theorem psalteryref11_Payload.ok {K : Nat} {p0 : Int} {p1 : Int} {p2 : Int} {p3 : Int} {p4 : Int} {p5 : Int} {p6 : Int} {p7 : Int} {p8 : Int} {p9 : Int} {r : Int} (h0 : psalteryref11_Payload K p0 p1 p2 p3 p4 p5 p6 p7 p8 p9 = some r) : Fn Try.prog 39 [.agg [.int .i64 p0, .int .i64 p1, .int .i64 p2, .int .i64 p3, .int .i64 p4, .int .i64 p5, .int .i64 p6, .int .i64 p7, .int .i64 p8, .int .i64 p9]] [] (psalteryref11_Payload.res p0 p1 p2 p3 p4 p5 p6 p7 p8 p9 r) (psalteryref11_Payload.out p0 p1 p2 p3 p4 p5 p6 p7 p8 p9 r) := by
  refine Fn_of Try.func39 rfl (Nat.le_of_ble_eq_true rfl) fun Γ => ?_
  refine TC_seq ?_
  refine TC_reg ?_
  refine TL_ev env 2 rfl ⟨trivial, ⟨trivial, trivial⟩⟩ ?_
  refine TL_end ?_
  refine TE_go ?_
  refine TC_seq ?_
  refine TC_seq ?_
  refine TC_reg ?_
  refine TL_ev env 3 rfl ⟨trivial, ⟨⟨trivial, trivial⟩, ⟨⟨trivial, ⟨trivial, trivial⟩⟩, trivial⟩⟩⟩ ?_
  refine TL_end ?_
  refine TE_go ?_
  refine TC_cond rfl (fun hb => ?_) (fun hb => ?_)
  · replace h0 := bif_t h0 hb
    refine TC_seq ?_
    refine TC_reg ?_
    refine TL_ev env 6 rfl ⟨trivial, ⟨⟨trivial, trivial⟩, ⟨trivial, ⟨⟨trivial, trivial⟩, ⟨⟨trivial, ⟨trivial, trivial⟩⟩, ⟨trivial, trivial⟩⟩⟩⟩⟩⟩ ?_
    refine TL_end ?_
    refine TE_go ?_
    refine TC_ret ?_
    refine tsr ?_
    obtain rfl := sinj h0
    exact TE_ret env rfl trivial trivial
  · replace h0 := bif_f h0 hb
    refine TC_skip ?_
    refine TE_go ?_
    refine TC_seq ?_
    refine TC_reg ?_
    refine TL_ev env 1 rfl ⟨⟨trivial, trivial⟩, trivial⟩ ?_
    obtain ⟨r6, hr, h0⟩ := bnd h0
    refine TL_callB [] (psalteryref11_Bits.ok0 hr) psalteryref11_Bits.fnb rfl ⟨trivial, ⟨trivial, trivial⟩⟩ rfl trivial rfl ?_
    refine TL_ev env 1 rfl ⟨trivial, trivial⟩ ?_
    refine TL_end ?_
    refine TE_go ?_
    refine TC_seq ?_
    obtain ⟨z1, h1, h0⟩ := bnd h0
    refine TC_cut (α := Int) (fun s => z1 = s) (fun s => [(3, .int .i64 s)]) (fun s => []) ?_ ?_
    · refine TC_blk ?_
      refine TC_loop (α := Int) (fun n s => psalteryref11_Payload.l0 K n s = some z1) (fun s => [(3, .int .i64 s)]) (fun s => []) K ?_ ?_
      · exact SP_ren [] _ h1 ⟨rfl, trivial⟩ trivial rfl
      rintro n x11 h1
      rcases n with _ | n
      · exact (nsome h1).elim
      replace h1 : psalteryref11_Payload.r0 K (psalteryref11_Payload.l0 K n) x11 = some z1 := h1
      refine TC_seq ?_
      refine TC_seq ?_
      refine TC_reg ?_
      refine TL_ev env 3 rfl ⟨trivial, ⟨⟨trivial, ⟨trivial, (by decide)⟩⟩, ⟨⟨trivial, ⟨trivial, trivial⟩⟩, trivial⟩⟩⟩ ?_
      refine TL_end ?_
      refine TE_go ?_
      refine TC_cond rfl (fun hb => ?_) (fun hb => ?_)
      · replace h1 := bif_t h1 hb
        refine TC_skip ?_
        refine TE_go ?_
        refine TC_blk ?_
        refine TC_reg ?_
        refine TL_ev env 3 rfl ⟨trivial, ⟨⟨trivial, ⟨trivial, trivial⟩⟩, ⟨trivial, trivial⟩⟩⟩ ?_
        refine TL_end ?_
        refine tbn ?_
        refine tsn ?_
        exact TE_nextr [] n (Nat.lt_succ_self n) _ h1 ⟨rfl, trivial⟩ trivial rfl
      · replace h1 := bif_f h1 hb
        refine TC_exit ?_
        refine tsx ?_
        refine tsx ?_
        refine tbe ?_
        obtain rfl := sinj h1
        refine tsn ?_
        exact SP_ren [] _ rfl ⟨rfl, trivial⟩ trivial rfl
    · rintro x9 rfl
      refine TE_go ?_
      refine TC_seq ?_
      refine TC_reg ?_
      refine TL_ev env 3 rfl ⟨trivial, ⟨⟨trivial, ⟨trivial, (by decide)⟩⟩, ⟨trivial, trivial⟩⟩⟩ ?_
      refine TL_end ?_
      refine TE_go ?_
      refine TC_ret ?_
      obtain rfl := sinj h0
      exact TE_ret env rfl trivial trivial
theorem psalteryref11_Payload.ok0 {K : Nat} {p0 : Int} {p1 : Int} {p2 : Int} {p3 : Int} {p4 : Int} {p5 : Int} {p6 : Int} {p7 : Int} {p8 : Int} {p9 : Int} {q0 : Int} (h0 : psalteryref11_Payload K p0 p1 p2 p3 p4 p5 p6 p7 p8 p9 = some q0) : Fn Try.prog 39 [.agg [.int .i64 p0, .int .i64 p1, .int .i64 p2, .int .i64 p3, .int .i64 p4, .int .i64 p5, .int .i64 p6, .int .i64 p7, .int .i64 p8, .int .i64 p9]] [] (.int .i64 q0) [] := psalteryref11_Payload.ok h0
theorem psalteryref11_Payload.fnb : fnb Try.prog 39 = true := fnb_of Try.func39 rfl
def psalterylaw11_FormTells.res (_p0 : Int) (_p1 : Int) (_p2 : Int) (_p3 : Int) (_p4 : Int) (_p5 : Int) (_p6 : Int) (_p7 : Int) (_p8 : Int) (_p9 : Int) : Bool → MV
  | q0 => .bool q0
def psalterylaw11_FormTells.out (_p0 : Int) (_p1 : Int) (_p2 : Int) (_p3 : Int) (_p4 : Int) (_p5 : Int) (_p6 : Int) (_p7 : Int) (_p8 : Int) (_p9 : Int) : Bool → List (Nat × Option MObj)
  | _ => []
theorem psalterylaw11_FormTells.ok {K : Nat} {p0 : Int} {p1 : Int} {p2 : Int} {p3 : Int} {p4 : Int} {p5 : Int} {p6 : Int} {p7 : Int} {p8 : Int} {p9 : Int} {r : Bool} (h0 : psalterylaw11_FormTells K p0 p1 p2 p3 p4 p5 p6 p7 p8 p9 = some r) : Fn Try.prog 6 [.agg [.int .i64 p0, .int .i64 p1, .int .i64 p2, .int .i64 p3, .int .i64 p4, .int .i64 p5, .int .i64 p6, .int .i64 p7, .int .i64 p8, .int .i64 p9]] [] (psalterylaw11_FormTells.res p0 p1 p2 p3 p4 p5 p6 p7 p8 p9 r) (psalterylaw11_FormTells.out p0 p1 p2 p3 p4 p5 p6 p7 p8 p9 r) := by
  refine Fn_of Try.func6 rfl (Nat.le_of_ble_eq_true rfl) fun Γ => ?_
  refine TC_seq ?_
  refine TC_reg ?_
  refine TL_ev env 2 rfl ⟨trivial, ⟨trivial, trivial⟩⟩ ?_
  refine TL_end ?_
  refine TE_go ?_
  refine TC_seq ?_
  refine TC_seq ?_
  refine TC_reg ?_
  obtain ⟨r36, hr, h0⟩ := bnd h0
  refine TL_callB [] (psalterylaw11_alive.ok0 hr) psalterylaw11_alive.fnb rfl ⟨trivial, trivial⟩ rfl trivial rfl ?_
  refine TL_ev env 1 rfl ⟨trivial, trivial⟩ ?_
  refine TL_end ?_
  refine TE_go ?_
  refine TC_cond rfl (fun hb => ?_) (fun hb => ?_)
  · replace h0 := bif_t h0 hb
    refine TC_seq ?_
    refine TC_reg ?_
    refine TL_ev env 1 rfl ⟨trivial, trivial⟩ ?_
    refine TL_end ?_
    refine TE_go ?_
    refine TC_ret ?_
    refine tsr ?_
    obtain rfl := sinj h0
    exact TE_ret env rfl trivial trivial
  · replace h0 := bif_f h0 hb
    refine TC_skip ?_
    refine TE_go ?_
    refine TC_seq ?_
    refine TC_seq ?_
    refine TC_reg ?_
    refine TL_ev env 1 rfl ⟨⟨trivial, trivial⟩, trivial⟩ ?_
    obtain ⟨r37, hr, h0⟩ := bnd h0
    refine TL_callB [] (psalteryref11_Check.ok0 hr) psalteryref11_Check.fnb rfl ⟨trivial, ⟨trivial, trivial⟩⟩ rfl trivial rfl ?_
    refine TL_ev env 1 rfl ⟨trivial, trivial⟩ ?_
    refine TL_end ?_
    refine TE_go ?_
    refine TC_cond rfl (fun hb => ?_) (fun hb => ?_)
    · replace h0 := bif_t h0 hb
      refine TC_seq ?_
      obtain ⟨z1, h1, h0⟩ := bnd h0
      refine TC_cut (α := Bool) (fun s => z1 = s) (fun s => [(2, .bool s)]) (fun s => []) ?_ ?_
      · refine TC_reg ?_
        refine TL_ev env 1 rfl ⟨⟨trivial, trivial⟩, trivial⟩ ?_
        obtain ⟨r48, hr, h1⟩ := bnd h1
        refine TL_callB [] (format_Check.ok0 hr) format_Check.fnb rfl ⟨trivial, ⟨trivial, trivial⟩⟩ rfl trivial rfl ?_
        refine TL_ev env 2 rfl ⟨⟨trivial, ⟨trivial, trivial⟩⟩, ⟨trivial, trivial⟩⟩ ?_
        refine TL_split 11 rfl (fun hb => ?_) (fun hb => ?_)
        · replace h1 := bif_t h1 hb
          refine TL_gt rfl rfl rfl rfl ?_
          refine TL_ev env 1 rfl ⟨⟨trivial, trivial⟩, trivial⟩ ?_
          refine TL_gt rfl rfl rfl rfl ?_
          obtain ⟨r49, hr, h1⟩ := bnd h1
          refine TL_callB [] (format_Samples.ok0 hr) format_Samples.fnb rfl ⟨trivial, ⟨trivial, trivial⟩⟩ rfl trivial rfl ?_
          refine TL_gt rfl rfl rfl rfl ?_
          refine TL_ev env 3 rfl ⟨⟨trivial, ⟨trivial, trivial⟩⟩, ⟨⟨trivial, ⟨trivial, trivial⟩⟩, ⟨trivial, trivial⟩⟩⟩ ?_
          refine TL_split 16 rfl (fun hb => ?_) (fun hb => ?_)
          · replace h1 := bif_t h1 hb
            refine TL_gt rfl rfl rfl rfl ?_
            refine TL_ev env 1 rfl ⟨⟨trivial, trivial⟩, trivial⟩ ?_
            refine TL_gt rfl rfl rfl rfl ?_
            obtain ⟨r50, hr, h1⟩ := bnd h1
            refine TL_callB [] (format_Bits.ok0 hr) format_Bits.fnb rfl ⟨trivial, ⟨trivial, trivial⟩⟩ rfl trivial rfl ?_
            refine TL_gt rfl rfl rfl rfl ?_
            refine TL_ev env 3 rfl ⟨⟨trivial, ⟨trivial, trivial⟩⟩, ⟨⟨trivial, ⟨trivial, trivial⟩⟩, ⟨trivial, trivial⟩⟩⟩ ?_
            refine TL_split 21 rfl (fun hb => ?_) (fun hb => ?_)
            · replace h1 := bif_t h1 hb
              refine TL_gt rfl rfl rfl rfl ?_
              refine TL_ev env 1 rfl ⟨⟨trivial, trivial⟩, trivial⟩ ?_
              refine TL_gt rfl rfl rfl rfl ?_
              obtain ⟨r51, hr, h1⟩ := bnd h1
              refine TL_callB [] (format_Payload.ok0 hr) format_Payload.fnb rfl ⟨trivial, ⟨trivial, trivial⟩⟩ rfl trivial rfl ?_
              refine TL_gt rfl rfl rfl rfl ?_
              refine TL_ev env 3 rfl ⟨⟨trivial, ⟨trivial, trivial⟩⟩, ⟨⟨trivial, ⟨trivial, trivial⟩⟩, ⟨trivial, trivial⟩⟩⟩ ?_
              refine TL_end ?_
              obtain rfl := sinj h1
              refine tsn ?_
              exact SP_ren [] _ rfl ⟨rfl, trivial⟩ trivial rfl
            · replace h1 := bif_f h1 hb
              refine TL_gf (.bool false) rfl rfl rfl rfl rfl (by decide) ?_
              refine TL_gf (.bool false) rfl rfl rfl rfl rfl (by decide) ?_
              refine TL_gf (.bool false) rfl rfl rfl rfl rfl (by decide) ?_
              refine TL_ev env 2 rfl ⟨⟨trivial, ⟨fun e => e, trivial⟩⟩, ⟨trivial, trivial⟩⟩ ?_
              refine TL_end ?_
              obtain rfl := sinj h1
              refine tsn ?_
              exact SP_ren [] _ rfl ⟨rfl, trivial⟩ trivial rfl
          · replace h1 := bif_f h1 hb
            refine TL_gf (.bool false) rfl rfl rfl rfl rfl (by decide) ?_
            refine TL_gf (.bool false) rfl rfl rfl rfl rfl (by decide) ?_
            refine TL_gf (.bool false) rfl rfl rfl rfl rfl (by decide) ?_
            refine TL_ev env 2 rfl ⟨⟨trivial, ⟨fun e => e, trivial⟩⟩, ⟨trivial, trivial⟩⟩ ?_
            refine TL_gf (.bool false) rfl rfl rfl rfl rfl (by decide) ?_
            refine TL_gf (.bool false) rfl rfl rfl rfl rfl (by decide) ?_
            refine TL_gf (.bool false) rfl rfl rfl rfl rfl (by decide) ?_
            refine TL_ev env 2 rfl ⟨⟨trivial, ⟨fun e => e, trivial⟩⟩, ⟨trivial, trivial⟩⟩ ?_
            refine TL_end ?_
            obtain rfl := sinj h1
            refine tsn ?_
            exact SP_ren [] _ rfl ⟨rfl, trivial⟩ trivial rfl
        · replace h1 := bif_f h1 hb
          refine TL_gf (.bool false) rfl rfl rfl rfl rfl (by decide) ?_
          refine TL_gf (.bool false) rfl rfl rfl rfl rfl (by decide) ?_
          refine TL_gf (.bool false) rfl rfl rfl rfl rfl (by decide) ?_
          refine TL_ev env 2 rfl ⟨⟨trivial, ⟨fun e => e, trivial⟩⟩, ⟨trivial, trivial⟩⟩ ?_
          refine TL_gf (.bool false) rfl rfl rfl rfl rfl (by decide) ?_
          refine TL_gf (.bool false) rfl rfl rfl rfl rfl (by decide) ?_
          refine TL_gf (.bool false) rfl rfl rfl rfl rfl (by decide) ?_
          refine TL_ev env 2 rfl ⟨⟨trivial, ⟨fun e => e, trivial⟩⟩, ⟨trivial, trivial⟩⟩ ?_
          refine TL_gf (.bool false) rfl rfl rfl rfl rfl (by decide) ?_
          refine TL_gf (.bool false) rfl rfl rfl rfl rfl (by decide) ?_
          refine TL_gf (.bool false) rfl rfl rfl rfl rfl (by decide) ?_
          refine TL_ev env 2 rfl ⟨⟨trivial, ⟨fun e => e, trivial⟩⟩, ⟨trivial, trivial⟩⟩ ?_
          refine TL_end ?_
          obtain rfl := sinj h1
          refine tsn ?_
          exact SP_ren [] _ rfl ⟨rfl, trivial⟩ trivial rfl
      · rintro x47 rfl
        refine TE_go ?_
        refine TC_ret ?_
        refine tsr ?_
        obtain rfl := sinj h0
        exact TE_ret env rfl trivial trivial
    · replace h0 := bif_f h0 hb
      refine TC_skip ?_
      refine TE_go ?_
      refine TC_seq ?_
      obtain ⟨z1, h1, h0⟩ := bnd h0
      refine TC_cut (α := Bool) (fun s => z1 = s) (fun s => [(2, .bool s)]) (fun s => []) ?_ ?_
      · refine TC_renw (A' := [(1, .p 1001 0)]) (L' := [(1001, some (.cells [.int .i64 _, .int .i64 _, .int .i64 _, .int .i64 _, .int .i64 _, .int .i64 _, .int .i64 _, .int .i64 _, .int .i64 _, .int .i64 _]))]) [] ⟨rfl, trivial⟩ ⟨rfl, trivial⟩ rfl ?_
        refine TC_drawR ⟨_, fun i => ([[], [0], [1, 0], [2, 1, 0], [3, 2, 1, 0], [4, 3, 2, 1, 0], [3, 2, 1, 0], [6, 5, 4, 3, 2, 1, 0], [7, 6, 5, 4, 3, 2, 1, 0], [8, 7, 6, 5, 4, 3, 2, 1, 0], [9, 8, 7, 6, 5, 4, 3, 2, 1, 0], [10, 9, 8, 7, 6, 5, 4, 3, 2, 1, 0], [11, 10, 9, 8, 7, 6, 5, 4, 3, 2, 1, 0], [10, 9, 8, 7, 6, 5, 4, 3, 2, 1, 0], [13, 12, 11, 10, 9, 8, 7, 6, 5, 4, 3, 2, 1, 0], [14, 13, 12, 11, 10, 9, 8, 7, 6, 5, 4, 3, 2, 1, 0], [15, 14, 13, 12, 11, 10, 9, 8, 7, 6, 5, 4, 3, 2, 1, 0], [16, 15, 14, 13, 12, 11, 10, 9, 8, 7, 6, 5, 4, 3, 2, 1, 0], [17, 16, 15, 14, 13, 12, 11, 10, 9, 8, 7, 6, 5, 4, 3, 2, 1, 0], [18, 17, 16, 15, 14, 13, 12, 11, 10, 9, 8, 7, 6, 5, 4, 3, 2, 1, 0], [17, 16, 15, 14, 13, 12, 11, 10, 9, 8, 7, 6, 5, 4, 3, 2, 1, 0], [20, 19, 18, 17, 16, 15, 14, 13, 12, 11, 10, 9, 8, 7, 6, 5, 4, 3, 2, 1, 0], [21, 20, 19, 18, 17, 16, 15, 14, 13, 12, 11, 10, 9, 8, 7, 6, 5, 4, 3, 2, 1, 0], [22, 21, 20, 19, 18, 17, 16, 15, 14, 13, 12, 11, 10, 9, 8, 7, 6, 5, 4, 3, 2, 1, 0], [23, 22, 21, 20, 19, 18, 17, 16, 15, 14, 13, 12, 11, 10, 9, 8, 7, 6, 5, 4, 3, 2, 1, 0]] : List (List Nat)).getD i [], fun i => ([[], [], [], [], [], [], [], [], [], [], [], [], [], [], [], [], [], [], [], [], [], [], [], [], []] : List (List Nat)).getD i [], fun i => ([[], [], [], [], [], [], [], [], [], [], [], [], [], [], [], [], [], [], [], [], [], [], [], [], []] : List (List Nat)).getD i []⟩ (fun i => ([[], [], [], [], [], [], [], [], [], [], [], [], [], [], [], [], [], [], [], [], [], [], [], [], []] : List (List Nat)).getD i []) (by kernel_rfl) (by kernel_rfl) ?_
        refine AJR_ev env 1 rfl (Nat.le_of_ble_eq_true rfl) rfl ⟨trivial, trivial⟩ ?_
        obtain ⟨r75, hr, h1⟩ := bnd h1
        refine AJR_call 2 rfl (Nat.le_of_ble_eq_true rfl) [] rfl (format_Check.ok0 hr) format_Check.fnb rfl ⟨trivial, ⟨trivial, trivial⟩⟩ rfl trivial rfl ?_
        refine AJR_ev env 3 rfl (Nat.le_of_ble_eq_true rfl) rfl ⟨trivial, ⟨trivial, trivial⟩⟩ ?_
        refine AJR_ev env 4 rfl (Nat.le_of_ble_eq_true rfl) rfl trivial ?_
        refine bif_split h1 (fun hb76 h1 => ?_) (fun hb76 h1 => ?_)
        · refine AJR_gev env 5 rfl (Nat.le_of_ble_eq_true rfl) hb76 rfl rfl rfl rfl rfl rfl ⟨trivial, trivial⟩ ?_
          obtain ⟨r77, hr, h1⟩ := bnd h1
          refine AJR_gcall 6 rfl (Nat.le_of_ble_eq_true rfl) hb76 [] rfl rfl rfl rfl rfl (format_Samples.ok0 hr) format_Samples.fnb rfl ⟨trivial, ⟨trivial, trivial⟩⟩ rfl trivial rfl ?_
          refine AJR_gev env 7 rfl (Nat.le_of_ble_eq_true rfl) hb76 rfl rfl rfl rfl rfl rfl ⟨trivial, trivial⟩ ?_
          obtain ⟨r78, hr, h1⟩ := bnd h1
          refine AJR_gcall 8 rfl (Nat.le_of_ble_eq_true rfl) hb76 [] rfl rfl rfl rfl rfl (psalteryref11_Samples.ok0 hr) psalteryref11_Samples.fnb rfl ⟨trivial, ⟨trivial, trivial⟩⟩ rfl trivial rfl ?_
          refine AJR_gev env 9 rfl (Nat.le_of_ble_eq_true rfl) hb76 rfl rfl rfl rfl rfl rfl ⟨trivial, ⟨trivial, trivial⟩⟩ ?_
          refine AJR_ev env 10 rfl (Nat.le_of_ble_eq_true rfl) rfl ⟨trivial, ⟨trivial, trivial⟩⟩ ?_
          refine AJR_ev env 11 rfl (Nat.le_of_ble_eq_true rfl) rfl trivial ?_
          refine bif_split h1 (fun hb80 h1 => ?_) (fun hb80 h1 => ?_)
          · refine AJR_gev env 12 rfl (Nat.le_of_ble_eq_true rfl) hb80 rfl rfl rfl rfl rfl rfl ⟨trivial, trivial⟩ ?_
            obtain ⟨r81, hr, h1⟩ := bnd h1
            refine AJR_gcall 13 rfl (Nat.le_of_ble_eq_true rfl) hb80 [] rfl rfl rfl rfl rfl (format_Bits.ok0 hr) format_Bits.fnb rfl ⟨trivial, ⟨trivial, trivial⟩⟩ rfl trivial rfl ?_
            refine AJR_gev env 14 rfl (Nat.le_of_ble_eq_true rfl) hb80 rfl rfl rfl rfl rfl rfl ⟨trivial, trivial⟩ ?_
            obtain ⟨r82, hr, h1⟩ := bnd h1
            refine AJR_gcall 15 rfl (Nat.le_of_ble_eq_true rfl) hb80 [] rfl rfl rfl rfl rfl (psalteryref11_Bits.ok0 hr) psalteryref11_Bits.fnb rfl ⟨trivial, ⟨trivial, trivial⟩⟩ rfl trivial rfl ?_
            refine AJR_gev env 16 rfl (Nat.le_of_ble_eq_true rfl) hb80 rfl rfl rfl rfl rfl rfl ⟨trivial, ⟨trivial, trivial⟩⟩ ?_
            refine AJR_ev env 17 rfl (Nat.le_of_ble_eq_true rfl) rfl ⟨trivial, ⟨trivial, trivial⟩⟩ ?_
            refine AJR_ev env 18 rfl (Nat.le_of_ble_eq_true rfl) rfl trivial ?_
            refine bif_split h1 (fun hb84 h1 => ?_) (fun hb84 h1 => ?_)
            · refine AJR_gev env 19 rfl (Nat.le_of_ble_eq_true rfl) hb84 rfl rfl rfl rfl rfl rfl ⟨trivial, trivial⟩ ?_
              obtain ⟨r85, hr, h1⟩ := bnd h1
              refine AJR_gcall 20 rfl (Nat.le_of_ble_eq_true rfl) hb84 [] rfl rfl rfl rfl rfl (format_Payload.ok0 hr) format_Payload.fnb rfl ⟨trivial, ⟨trivial, trivial⟩⟩ rfl trivial rfl ?_
              refine AJR_gev env 21 rfl (Nat.le_of_ble_eq_true rfl) hb84 rfl rfl rfl rfl rfl rfl ⟨trivial, trivial⟩ ?_
              obtain ⟨r86, hr, h1⟩ := bnd h1
              refine AJR_gcall 22 rfl (Nat.le_of_ble_eq_true rfl) hb84 [] rfl rfl rfl rfl rfl (psalteryref11_Payload.ok0 hr) psalteryref11_Payload.fnb rfl ⟨trivial, ⟨trivial, trivial⟩⟩ rfl trivial rfl ?_
              refine AJR_gev env 23 rfl (Nat.le_of_ble_eq_true rfl) hb84 rfl rfl rfl rfl rfl rfl ⟨trivial, ⟨trivial, trivial⟩⟩ ?_
              refine AJR_ev env 24 rfl (Nat.le_of_ble_eq_true rfl) rfl ⟨trivial, ⟨trivial, trivial⟩⟩ ?_
              refine AJR_ev env 25 rfl (Nat.le_of_ble_eq_true rfl) rfl trivial ?_
              refine AJR_end rfl rfl rfl ?_
              obtain rfl := sinj h1
              refine tsn ?_
              exact SP_ren [] _ rfl ⟨rfl, trivial⟩ trivial rfl
            · refine AJR_gskip (.bool false) 19 rfl (Nat.le_of_ble_eq_true rfl) hb84 rfl rfl rfl rfl rfl rfl (by decide) ?_
              refine AJR_gskip (.bool false) 20 rfl (Nat.le_of_ble_eq_true rfl) hb84 rfl rfl rfl rfl rfl rfl (by decide) ?_
              refine AJR_gskip (.bool false) 21 rfl (Nat.le_of_ble_eq_true rfl) hb84 rfl rfl rfl rfl rfl rfl (by decide) ?_
              refine AJR_gskip (.bool false) 22 rfl (Nat.le_of_ble_eq_true rfl) hb84 rfl rfl rfl rfl rfl rfl (by decide) ?_
              refine AJR_gskip (.bool false) 23 rfl (Nat.le_of_ble_eq_true rfl) hb84 rfl rfl rfl rfl rfl rfl (by decide) ?_
              refine AJR_ev env 24 rfl (Nat.le_of_ble_eq_true rfl) rfl ⟨trivial, ⟨fun e => (tff (e.symm.trans hb84)).elim, trivial⟩⟩ ?_
              refine AJR_ev env 25 rfl (Nat.le_of_ble_eq_true rfl) rfl trivial ?_
              refine AJR_end rfl rfl rfl ?_
              obtain rfl := sinj h1
              refine tsn ?_
              exact SP_ren [] _ rfl ⟨rfl, trivial⟩ trivial rfl
          · refine AJR_gskip (.bool false) 12 rfl (Nat.le_of_ble_eq_true rfl) hb80 rfl rfl rfl rfl rfl rfl (by decide) ?_
            refine AJR_gskip (.bool false) 13 rfl (Nat.le_of_ble_eq_true rfl) hb80 rfl rfl rfl rfl rfl rfl (by decide) ?_
            refine AJR_gskip (.bool false) 14 rfl (Nat.le_of_ble_eq_true rfl) hb80 rfl rfl rfl rfl rfl rfl (by decide) ?_
            refine AJR_gskip (.bool false) 15 rfl (Nat.le_of_ble_eq_true rfl) hb80 rfl rfl rfl rfl rfl rfl (by decide) ?_
            refine AJR_gskip (.bool false) 16 rfl (Nat.le_of_ble_eq_true rfl) hb80 rfl rfl rfl rfl rfl rfl (by decide) ?_
            refine AJR_ev env 17 rfl (Nat.le_of_ble_eq_true rfl) rfl ⟨trivial, ⟨fun e => (tff (e.symm.trans hb80)).elim, trivial⟩⟩ ?_
            refine AJR_ev env 18 rfl (Nat.le_of_ble_eq_true rfl) rfl trivial ?_
            refine bif_split h1 (fun hb90 h1 => ?_) (fun hb90 h1 => ?_)
            · refine AJR_gev env 19 rfl (Nat.le_of_ble_eq_true rfl) hb90 rfl rfl rfl rfl rfl rfl ⟨trivial, trivial⟩ ?_
              obtain ⟨r91, hr, h1⟩ := bnd h1
              refine AJR_gcall 20 rfl (Nat.le_of_ble_eq_true rfl) hb90 [] rfl rfl rfl rfl rfl (format_Payload.ok0 hr) format_Payload.fnb rfl ⟨trivial, ⟨trivial, trivial⟩⟩ rfl trivial rfl ?_
              refine AJR_gev env 21 rfl (Nat.le_of_ble_eq_true rfl) hb90 rfl rfl rfl rfl rfl rfl ⟨trivial, trivial⟩ ?_
              obtain ⟨r92, hr, h1⟩ := bnd h1
              refine AJR_gcall 22 rfl (Nat.le_of_ble_eq_true rfl) hb90 [] rfl rfl rfl rfl rfl (psalteryref11_Payload.ok0 hr) psalteryref11_Payload.fnb rfl ⟨trivial, ⟨trivial, trivial⟩⟩ rfl trivial rfl ?_
              refine AJR_gev env 23 rfl (Nat.le_of_ble_eq_true rfl) hb90 rfl rfl rfl rfl rfl rfl ⟨trivial, ⟨trivial, trivial⟩⟩ ?_
              refine AJR_ev env 24 rfl (Nat.le_of_ble_eq_true rfl) rfl ⟨trivial, ⟨trivial, trivial⟩⟩ ?_
              refine AJR_ev env 25 rfl (Nat.le_of_ble_eq_true rfl) rfl trivial ?_
              refine AJR_end rfl rfl rfl ?_
              obtain rfl := sinj h1
              refine tsn ?_
              exact SP_ren [] _ rfl ⟨rfl, trivial⟩ trivial rfl
            · refine AJR_gskip (.bool false) 19 rfl (Nat.le_of_ble_eq_true rfl) hb90 rfl rfl rfl rfl rfl rfl (by decide) ?_
              refine AJR_gskip (.bool false) 20 rfl (Nat.le_of_ble_eq_true rfl) hb90 rfl rfl rfl rfl rfl rfl (by decide) ?_
              refine AJR_gskip (.bool false) 21 rfl (Nat.le_of_ble_eq_true rfl) hb90 rfl rfl rfl rfl rfl rfl (by decide) ?_
              refine AJR_gskip (.bool false) 22 rfl (Nat.le_of_ble_eq_true rfl) hb90 rfl rfl rfl rfl rfl rfl (by decide) ?_
              refine AJR_gskip (.bool false) 23 rfl (Nat.le_of_ble_eq_true rfl) hb90 rfl rfl rfl rfl rfl rfl (by decide) ?_
              refine AJR_ev env 24 rfl (Nat.le_of_ble_eq_true rfl) rfl ⟨trivial, ⟨fun e => (tff (e.symm.trans hb90)).elim, trivial⟩⟩ ?_
              refine AJR_ev env 25 rfl (Nat.le_of_ble_eq_true rfl) rfl trivial ?_
              refine AJR_end rfl rfl rfl ?_
              obtain rfl := sinj h1
              refine tsn ?_
              exact SP_ren [] _ rfl ⟨rfl, trivial⟩ trivial rfl
        · refine AJR_gskip (.bool false) 5 rfl (Nat.le_of_ble_eq_true rfl) hb76 rfl rfl rfl rfl rfl rfl (by decide) ?_
          refine AJR_gskip (.bool false) 6 rfl (Nat.le_of_ble_eq_true rfl) hb76 rfl rfl rfl rfl rfl rfl (by decide) ?_
          refine AJR_gskip (.bool false) 7 rfl (Nat.le_of_ble_eq_true rfl) hb76 rfl rfl rfl rfl rfl rfl (by decide) ?_
          refine AJR_gskip (.bool false) 8 rfl (Nat.le_of_ble_eq_true rfl) hb76 rfl rfl rfl rfl rfl rfl (by decide) ?_
          refine AJR_gskip (.bool false) 9 rfl (Nat.le_of_ble_eq_true rfl) hb76 rfl rfl rfl rfl rfl rfl (by decide) ?_
          refine AJR_ev env 10 rfl (Nat.le_of_ble_eq_true rfl) rfl ⟨trivial, ⟨fun e => (tff (e.symm.trans hb76)).elim, trivial⟩⟩ ?_
          refine AJR_ev env 11 rfl (Nat.le_of_ble_eq_true rfl) rfl trivial ?_
          refine bif_split h1 (fun hb96 h1 => ?_) (fun hb96 h1 => ?_)
          · refine AJR_gev env 12 rfl (Nat.le_of_ble_eq_true rfl) hb96 rfl rfl rfl rfl rfl rfl ⟨trivial, trivial⟩ ?_
            obtain ⟨r97, hr, h1⟩ := bnd h1
            refine AJR_gcall 13 rfl (Nat.le_of_ble_eq_true rfl) hb96 [] rfl rfl rfl rfl rfl (format_Bits.ok0 hr) format_Bits.fnb rfl ⟨trivial, ⟨trivial, trivial⟩⟩ rfl trivial rfl ?_
            refine AJR_gev env 14 rfl (Nat.le_of_ble_eq_true rfl) hb96 rfl rfl rfl rfl rfl rfl ⟨trivial, trivial⟩ ?_
            obtain ⟨r98, hr, h1⟩ := bnd h1
            refine AJR_gcall 15 rfl (Nat.le_of_ble_eq_true rfl) hb96 [] rfl rfl rfl rfl rfl (psalteryref11_Bits.ok0 hr) psalteryref11_Bits.fnb rfl ⟨trivial, ⟨trivial, trivial⟩⟩ rfl trivial rfl ?_
            refine AJR_gev env 16 rfl (Nat.le_of_ble_eq_true rfl) hb96 rfl rfl rfl rfl rfl rfl ⟨trivial, ⟨trivial, trivial⟩⟩ ?_
            refine AJR_ev env 17 rfl (Nat.le_of_ble_eq_true rfl) rfl ⟨trivial, ⟨trivial, trivial⟩⟩ ?_
            refine AJR_ev env 18 rfl (Nat.le_of_ble_eq_true rfl) rfl trivial ?_
            refine bif_split h1 (fun hb100 h1 => ?_) (fun hb100 h1 => ?_)
            · refine AJR_gev env 19 rfl (Nat.le_of_ble_eq_true rfl) hb100 rfl rfl rfl rfl rfl rfl ⟨trivial, trivial⟩ ?_
              obtain ⟨r101, hr, h1⟩ := bnd h1
              refine AJR_gcall 20 rfl (Nat.le_of_ble_eq_true rfl) hb100 [] rfl rfl rfl rfl rfl (format_Payload.ok0 hr) format_Payload.fnb rfl ⟨trivial, ⟨trivial, trivial⟩⟩ rfl trivial rfl ?_
              refine AJR_gev env 21 rfl (Nat.le_of_ble_eq_true rfl) hb100 rfl rfl rfl rfl rfl rfl ⟨trivial, trivial⟩ ?_
              obtain ⟨r102, hr, h1⟩ := bnd h1
              refine AJR_gcall 22 rfl (Nat.le_of_ble_eq_true rfl) hb100 [] rfl rfl rfl rfl rfl (psalteryref11_Payload.ok0 hr) psalteryref11_Payload.fnb rfl ⟨trivial, ⟨trivial, trivial⟩⟩ rfl trivial rfl ?_
              refine AJR_gev env 23 rfl (Nat.le_of_ble_eq_true rfl) hb100 rfl rfl rfl rfl rfl rfl ⟨trivial, ⟨trivial, trivial⟩⟩ ?_
              refine AJR_ev env 24 rfl (Nat.le_of_ble_eq_true rfl) rfl ⟨trivial, ⟨trivial, trivial⟩⟩ ?_
              refine AJR_ev env 25 rfl (Nat.le_of_ble_eq_true rfl) rfl trivial ?_
              refine AJR_end rfl rfl rfl ?_
              obtain rfl := sinj h1
              refine tsn ?_
              exact SP_ren [] _ rfl ⟨rfl, trivial⟩ trivial rfl
            · refine AJR_gskip (.bool false) 19 rfl (Nat.le_of_ble_eq_true rfl) hb100 rfl rfl rfl rfl rfl rfl (by decide) ?_
              refine AJR_gskip (.bool false) 20 rfl (Nat.le_of_ble_eq_true rfl) hb100 rfl rfl rfl rfl rfl rfl (by decide) ?_
              refine AJR_gskip (.bool false) 21 rfl (Nat.le_of_ble_eq_true rfl) hb100 rfl rfl rfl rfl rfl rfl (by decide) ?_
              refine AJR_gskip (.bool false) 22 rfl (Nat.le_of_ble_eq_true rfl) hb100 rfl rfl rfl rfl rfl rfl (by decide) ?_
              refine AJR_gskip (.bool false) 23 rfl (Nat.le_of_ble_eq_true rfl) hb100 rfl rfl rfl rfl rfl rfl (by decide) ?_
              refine AJR_ev env 24 rfl (Nat.le_of_ble_eq_true rfl) rfl ⟨trivial, ⟨fun e => (tff (e.symm.trans hb100)).elim, trivial⟩⟩ ?_
              refine AJR_ev env 25 rfl (Nat.le_of_ble_eq_true rfl) rfl trivial ?_
              refine AJR_end rfl rfl rfl ?_
              obtain rfl := sinj h1
              refine tsn ?_
              exact SP_ren [] _ rfl ⟨rfl, trivial⟩ trivial rfl
          · refine AJR_gskip (.bool false) 12 rfl (Nat.le_of_ble_eq_true rfl) hb96 rfl rfl rfl rfl rfl rfl (by decide) ?_
            refine AJR_gskip (.bool false) 13 rfl (Nat.le_of_ble_eq_true rfl) hb96 rfl rfl rfl rfl rfl rfl (by decide) ?_
            refine AJR_gskip (.bool false) 14 rfl (Nat.le_of_ble_eq_true rfl) hb96 rfl rfl rfl rfl rfl rfl (by decide) ?_
            refine AJR_gskip (.bool false) 15 rfl (Nat.le_of_ble_eq_true rfl) hb96 rfl rfl rfl rfl rfl rfl (by decide) ?_
            refine AJR_gskip (.bool false) 16 rfl (Nat.le_of_ble_eq_true rfl) hb96 rfl rfl rfl rfl rfl rfl (by decide) ?_
            refine AJR_ev env 17 rfl (Nat.le_of_ble_eq_true rfl) rfl ⟨trivial, ⟨fun e => (tff (e.symm.trans hb96)).elim, trivial⟩⟩ ?_
            refine AJR_ev env 18 rfl (Nat.le_of_ble_eq_true rfl) rfl trivial ?_
            refine bif_split h1 (fun hb107 h1 => ?_) (fun hb107 h1 => ?_)
            · refine AJR_gev env 19 rfl (Nat.le_of_ble_eq_true rfl) hb107 rfl rfl rfl rfl rfl rfl ⟨trivial, trivial⟩ ?_
              obtain ⟨r108, hr, h1⟩ := bnd h1
              refine AJR_gcall 20 rfl (Nat.le_of_ble_eq_true rfl) hb107 [] rfl rfl rfl rfl rfl (format_Payload.ok0 hr) format_Payload.fnb rfl ⟨trivial, ⟨trivial, trivial⟩⟩ rfl trivial rfl ?_
              refine AJR_gev env 21 rfl (Nat.le_of_ble_eq_true rfl) hb107 rfl rfl rfl rfl rfl rfl ⟨trivial, trivial⟩ ?_
              obtain ⟨r109, hr, h1⟩ := bnd h1
              refine AJR_gcall 22 rfl (Nat.le_of_ble_eq_true rfl) hb107 [] rfl rfl rfl rfl rfl (psalteryref11_Payload.ok0 hr) psalteryref11_Payload.fnb rfl ⟨trivial, ⟨trivial, trivial⟩⟩ rfl trivial rfl ?_
              refine AJR_gev env 23 rfl (Nat.le_of_ble_eq_true rfl) hb107 rfl rfl rfl rfl rfl rfl ⟨trivial, ⟨trivial, trivial⟩⟩ ?_
              refine AJR_ev env 24 rfl (Nat.le_of_ble_eq_true rfl) rfl ⟨trivial, ⟨trivial, trivial⟩⟩ ?_
              refine AJR_ev env 25 rfl (Nat.le_of_ble_eq_true rfl) rfl trivial ?_
              refine AJR_end rfl rfl rfl ?_
              obtain rfl := sinj h1
              refine tsn ?_
              exact SP_ren [] _ rfl ⟨rfl, trivial⟩ trivial rfl
            · refine AJR_gskip (.bool false) 19 rfl (Nat.le_of_ble_eq_true rfl) hb107 rfl rfl rfl rfl rfl rfl (by decide) ?_
              refine AJR_gskip (.bool false) 20 rfl (Nat.le_of_ble_eq_true rfl) hb107 rfl rfl rfl rfl rfl rfl (by decide) ?_
              refine AJR_gskip (.bool false) 21 rfl (Nat.le_of_ble_eq_true rfl) hb107 rfl rfl rfl rfl rfl rfl (by decide) ?_
              refine AJR_gskip (.bool false) 22 rfl (Nat.le_of_ble_eq_true rfl) hb107 rfl rfl rfl rfl rfl rfl (by decide) ?_
              refine AJR_gskip (.bool false) 23 rfl (Nat.le_of_ble_eq_true rfl) hb107 rfl rfl rfl rfl rfl rfl (by decide) ?_
              refine AJR_ev env 24 rfl (Nat.le_of_ble_eq_true rfl) rfl ⟨trivial, ⟨fun e => (tff (e.symm.trans hb107)).elim, trivial⟩⟩ ?_
              refine AJR_ev env 25 rfl (Nat.le_of_ble_eq_true rfl) rfl trivial ?_
              refine AJR_end rfl rfl rfl ?_
              obtain rfl := sinj h1
              refine tsn ?_
              exact SP_ren [] _ rfl ⟨rfl, trivial⟩ trivial rfl
      · rintro x74 rfl
        refine TE_go ?_
        refine TC_ret ?_
        obtain rfl := sinj h0
        exact TE_ret env rfl trivial trivial
theorem psalterylaw11_FormTells.ok0 {K : Nat} {p0 : Int} {p1 : Int} {p2 : Int} {p3 : Int} {p4 : Int} {p5 : Int} {p6 : Int} {p7 : Int} {p8 : Int} {p9 : Int} {q0 : Bool} (h0 : psalterylaw11_FormTells K p0 p1 p2 p3 p4 p5 p6 p7 p8 p9 = some q0) : Fn Try.prog 6 [.agg [.int .i64 p0, .int .i64 p1, .int .i64 p2, .int .i64 p3, .int .i64 p4, .int .i64 p5, .int .i64 p6, .int .i64 p7, .int .i64 p8, .int .i64 p9]] [] (.bool q0) [] := psalterylaw11_FormTells.ok h0
theorem psalterylaw11_FormTells.fnb : fnb Try.prog 6 = true := fnb_of Try.func6 rfl
def psalterylaw11_FormEnds.res (_p0 : Int) (_p1 : Int) (_p2 : Int) (_p3 : Int) (_p4 : Int) (_p5 : Int) (_p6 : Int) (_p7 : Int) (_p8 : Int) (_p9 : Int) : Bool → MV
  | q0 => .bool q0
def psalterylaw11_FormEnds.out (_p0 : Int) (_p1 : Int) (_p2 : Int) (_p3 : Int) (_p4 : Int) (_p5 : Int) (_p6 : Int) (_p7 : Int) (_p8 : Int) (_p9 : Int) : Bool → List (Nat × Option MObj)
  | _ => []
theorem psalterylaw11_FormEnds.ok {K : Nat} {p0 : Int} {p1 : Int} {p2 : Int} {p3 : Int} {p4 : Int} {p5 : Int} {p6 : Int} {p7 : Int} {p8 : Int} {p9 : Int} {r : Bool} (h0 : psalterylaw11_FormEnds K p0 p1 p2 p3 p4 p5 p6 p7 p8 p9 = some r) : Fn Try.prog 7 [.agg [.int .i64 p0, .int .i64 p1, .int .i64 p2, .int .i64 p3, .int .i64 p4, .int .i64 p5, .int .i64 p6, .int .i64 p7, .int .i64 p8, .int .i64 p9]] [] (psalterylaw11_FormEnds.res p0 p1 p2 p3 p4 p5 p6 p7 p8 p9 r) (psalterylaw11_FormEnds.out p0 p1 p2 p3 p4 p5 p6 p7 p8 p9 r) := by
  refine Fn_of Try.func7 rfl (Nat.le_of_ble_eq_true rfl) fun Γ => ?_
  refine TC_seq ?_
  refine TC_reg ?_
  refine TL_ev env 2 rfl ⟨trivial, ⟨trivial, trivial⟩⟩ ?_
  refine TL_end ?_
  refine TE_go ?_
  refine TC_seq ?_
  refine TC_seq ?_
  refine TC_reg ?_
  obtain ⟨r12, hr, h0⟩ := bnd h0
  refine TL_callB [] (psalterylaw11_alive.ok0 hr) psalterylaw11_alive.fnb rfl ⟨trivial, trivial⟩ rfl trivial rfl ?_
  refine TL_ev env 1 rfl ⟨trivial, trivial⟩ ?_
  refine TL_end ?_
  refine TE_go ?_
  refine TC_cond rfl (fun hb => ?_) (fun hb => ?_)
  · replace h0 := bif_t h0 hb
    refine TC_seq ?_
    refine TC_reg ?_
    refine TL_ev env 1 rfl ⟨trivial, trivial⟩ ?_
    refine TL_end ?_
    refine TE_go ?_
    refine TC_ret ?_
    refine tsr ?_
    obtain rfl := sinj h0
    exact TE_ret env rfl trivial trivial
  · replace h0 := bif_f h0 hb
    refine TC_skip ?_
    refine TE_go ?_
    refine TC_seq ?_
    refine TC_seq ?_
    refine TC_reg ?_
    refine TL_ev env 1 rfl ⟨⟨trivial, trivial⟩, trivial⟩ ?_
    obtain ⟨r13, hr, h0⟩ := bnd h0
    refine TL_callB [] (format_Check.ok0 hr) format_Check.fnb rfl ⟨trivial, ⟨trivial, trivial⟩⟩ rfl trivial rfl ?_
    refine TL_ev env 1 rfl ⟨⟨trivial, ⟨trivial, trivial⟩⟩, trivial⟩ ?_
    refine TL_end ?_
    refine TE_go ?_
    refine TC_cond rfl (fun hb => ?_) (fun hb => ?_)
    · replace h0 := bif_t h0 hb
      refine TC_seq ?_
      refine TC_reg ?_
      refine TL_ev env 1 rfl ⟨trivial, trivial⟩ ?_
      refine TL_end ?_
      refine TE_go ?_
      refine TC_ret ?_
      refine tsr ?_
      obtain rfl := sinj h0
      exact TE_ret env rfl trivial trivial
    · replace h0 := bif_f h0 hb
      refine TC_skip ?_
      refine TE_go ?_
      refine TC_seq ?_
      refine TC_renw (A' := [(1, .p 1001 0)]) (L' := [(1001, some (.cells [.int .i64 _, .int .i64 _, .int .i64 _, .int .i64 _, .int .i64 _, .int .i64 _, .int .i64 _, .int .i64 _, .int .i64 _, .int .i64 _]))]) [] ⟨rfl, trivial⟩ ⟨rfl, trivial⟩ rfl ?_
      refine TC_drawR ⟨_, fun i => ([[], [0], [], [2, 1, 0], [3, 2, 1, 0], [4, 3, 2, 1, 0]] : List (List Nat)).getD i [], fun i => ([[], [], [], [], [], []] : List (List Nat)).getD i [], fun i => ([[], [], [], [], [], []] : List (List Nat)).getD i []⟩ (fun i => ([[], [], [], [], [], []] : List (List Nat)).getD i []) (by kernel_rfl) (by kernel_rfl) ?_
      refine AJR_ev env 1 rfl (Nat.le_of_ble_eq_true rfl) rfl ⟨trivial, trivial⟩ ?_
      obtain ⟨r14, hr, h0⟩ := bnd h0
      refine AJR_call 2 rfl (Nat.le_of_ble_eq_true rfl) [] rfl (format_Samples.ok0 hr) format_Samples.fnb rfl ⟨trivial, ⟨trivial, trivial⟩⟩ rfl trivial rfl ?_
      refine AJR_ev env 3 rfl (Nat.le_of_ble_eq_true rfl) rfl ⟨trivial, trivial⟩ ?_
      obtain ⟨r15, hr, h0⟩ := bnd h0
      refine AJR_call 4 rfl (Nat.le_of_ble_eq_true rfl) [] rfl (format_Payload.ok0 hr) format_Payload.fnb rfl ⟨trivial, ⟨trivial, trivial⟩⟩ rfl trivial rfl ?_
      refine AJR_ev env 5 rfl (Nat.le_of_ble_eq_true rfl) rfl trivial ?_
      refine AJR_ev env 6 rfl (Nat.le_of_ble_eq_true rfl) rfl trivial ?_
      refine AJR_end rfl rfl rfl ?_
      refine TE_go ?_
      refine TC_seq ?_
      refine TC_seq ?_
      obtain ⟨z1, h1, h0⟩ := bnd h0
      refine TC_cut (α := Bool) (fun s => z1 = s) (fun s => [(1, .p 10400 0), (4, .int .i64 r15), (35, .bool s)]) (fun s => [(10400, some (.cells [.int .i64 p0, .int .i64 p1, .int .i64 p2, .int .i64 p3, .int .i64 p4, .int .i64 p5, .int .i64 p6, .int .i64 p7, .int .i64 p8, .int .i64 p9]))]) ?_ ?_
      · refine TC_reg ?_
        refine TL_ev env 15 rfl ⟨trivial, ⟨⟨trivial, ⟨trivial, trivial⟩⟩, ⟨trivial, ⟨fun eg => trivial, ⟨fun eg => ⟨fun e => e, ⟨trivial, trivial⟩⟩, ⟨⟨trivial, ⟨trivial, fun e => e⟩⟩, ⟨trivial, ⟨fun eg => trivial, ⟨fun eg => ⟨fun e => e, ⟨trivial, trivial⟩⟩, ⟨⟨trivial, ⟨trivial, fun e => e⟩⟩, ⟨trivial, ⟨fun eg => trivial, ⟨fun eg => ⟨fun e => e, ⟨trivial, trivial⟩⟩, ⟨⟨trivial, ⟨trivial, fun e => e⟩⟩, ⟨trivial, trivial⟩⟩⟩⟩⟩⟩⟩⟩⟩⟩⟩⟩⟩⟩⟩ ?_
        refine TL_split 29 rfl (fun hb => ?_) (fun hb => ?_)
        · replace h1 := bif_t h1 hb
          refine TL_gf (.bool false) rfl rfl rfl rfl rfl (by decide) ?_
          refine TL_gf (.bool false) rfl rfl rfl rfl rfl (by decide) ?_
          refine TL_gf (.bool false) rfl rfl rfl rfl rfl (by decide) ?_
          refine TL_gf (.bool false) rfl rfl rfl rfl rfl (by decide) ?_
          refine TL_gf (.bool false) rfl rfl rfl rfl rfl (by decide) ?_
          refine TL_ev env 1 rfl ⟨⟨trivial, ⟨trivial, fun e => e⟩⟩, trivial⟩ ?_
          refine TL_end ?_
          obtain rfl := sinj h1
          refine tsn ?_
          exact SP_ren [(10400, 1001)] _ rfl ⟨rfl, rfl, rfl, trivial⟩ ⟨rfl, trivial⟩ rfl
        · replace h1 := bif_f h1 hb
          refine TL_gt rfl rfl rfl rfl ?_
          refine TL_ev env 1 rfl ⟨⟨trivial, trivial⟩, trivial⟩ ?_
          refine TL_gt rfl rfl rfl rfl ?_
          obtain ⟨r35, hr, h1⟩ := bnd h1
          refine TL_callB [] (format_Bits.ok0 hr) format_Bits.fnb rfl ⟨trivial, ⟨trivial, trivial⟩⟩ rfl trivial rfl ?_
          refine TL_gt rfl rfl rfl rfl ?_
          refine TL_ev env 1 rfl ⟨trivial, trivial⟩ ?_
          refine TL_gt rfl rfl rfl rfl ?_
          refine TL_ev env 1 rfl ⟨⟨trivial, ⟨trivial, trivial⟩⟩, trivial⟩ ?_
          refine TL_gt rfl rfl rfl rfl ?_
          refine TL_ev env 2 rfl ⟨⟨trivial, ⟨trivial, trivial⟩⟩, ⟨⟨trivial, ⟨trivial, trivial⟩⟩, trivial⟩⟩ ?_
          refine TL_end ?_
          obtain rfl := sinj h1
          refine tsn ?_
          exact SP_ren [(10400, 1001)] _ rfl ⟨rfl, rfl, rfl, trivial⟩ ⟨rfl, trivial⟩ rfl
      · rintro x17 rfl
        refine TE_go ?_
        refine TC_cond rfl (fun hb => ?_) (fun hb => ?_)
        · replace h0 := bif_t h0 hb
          refine TC_seq ?_
          refine TC_reg ?_
          refine TL_ev env 1 rfl ⟨trivial, trivial⟩ ?_
          refine TL_end ?_
          refine TE_go ?_
          refine TC_ret ?_
          refine tsr ?_
          obtain rfl := sinj h0
          exact TE_ret env rfl trivial trivial
        · replace h0 := bif_f h0 hb
          refine TC_skip ?_
          refine TE_go ?_
          refine TC_seq ?_
          refine TC_reg ?_
          refine TL_ev env 3 rfl ⟨⟨trivial, trivial⟩, ⟨trivial, ⟨⟨trivial, trivial⟩, trivial⟩⟩⟩ ?_
          refine TL_end ?_
          refine TE_go ?_
          refine TC_seq ?_
          refine TC_reg ?_
          refine TL_ev env 5 rfl ⟨trivial, ⟨⟨trivial, trivial⟩, ⟨⟨trivial, ⟨trivial, trivial⟩⟩, ⟨trivial, ⟨⟨trivial, trivial⟩, trivial⟩⟩⟩⟩⟩ ?_
          refine TL_end ?_
          refine TE_go ?_
          refine TC_seq ?_
          refine TC_reg ?_
          refine TL_ev env 5 rfl ⟨trivial, ⟨⟨trivial, trivial⟩, ⟨⟨trivial, ⟨trivial, trivial⟩⟩, ⟨trivial, ⟨⟨trivial, trivial⟩, trivial⟩⟩⟩⟩⟩ ?_
          refine TL_end ?_
          refine TE_go ?_
          refine TC_seq ?_
          refine TC_seq ?_
          refine TC_reg ?_
          refine TL_ev env 3 rfl ⟨trivial, ⟨⟨trivial, trivial⟩, ⟨⟨trivial, ⟨trivial, trivial⟩⟩, trivial⟩⟩⟩ ?_
          refine TL_end ?_
          refine TE_go ?_
          obtain ⟨z1, h1, h0⟩ := bnd h0
          refine TC_cut (α := Int × Int) (fun s => z1 = s) (fun s => [(4, .int .i64 r15), (5, .p 10500 0)]) (fun s => [(10500, some (.cells [.int .i64 p0, .int .i64 p1, .int .i64 p2, .int .i64 p3, .int .i64 p4, .int .i64 p5, .int .i64 p6, .int .i64 s.1, .int .i64 p8, .int .i64 s.2]))]) ?_ ?_
          · refine TC_cond rfl (fun hb => ?_) (fun hb => ?_)
            · replace h1 := bif_t h1 hb
              refine TC_reg ?_
              refine TL_ev env 2 rfl ⟨trivial, ⟨⟨trivial, trivial⟩, trivial⟩⟩ ?_
              refine TL_end ?_
              obtain rfl := sinj h1
              refine tsn ?_
              exact SP_ren [(10500, 1005)] (_, _) rfl ⟨rfl, rfl, trivial⟩ ⟨rfl, trivial⟩ rfl
            · replace h1 := bif_f h1 hb
              refine TC_reg ?_
              refine TL_ev env 2 rfl ⟨trivial, ⟨⟨trivial, trivial⟩, trivial⟩⟩ ?_
              refine TL_end ?_
              obtain rfl := sinj h1
              refine tsn ?_
              exact SP_ren [(10500, 1005)] (_, _) rfl ⟨rfl, rfl, trivial⟩ ⟨rfl, trivial⟩ rfl
          · rintro ⟨x20, x21⟩ rfl
            refine TE_go ?_
            refine TC_seq ?_
            obtain ⟨z1, h1, h0⟩ := bnd h0
            refine TC_cut (α := Bool) (fun s => z1 = s) (fun s => [(2, .bool s)]) (fun s => []) ?_ ?_
            · refine TC_reg ?_
              refine TL_ev env 1 rfl ⟨⟨trivial, trivial⟩, trivial⟩ ?_
              obtain ⟨r25, hr, h1⟩ := bnd h1
              refine TL_callB [] (format_Check.ok0 hr) format_Check.fnb rfl ⟨trivial, ⟨trivial, trivial⟩⟩ rfl trivial rfl ?_
              refine TL_ev env 2 rfl ⟨⟨trivial, ⟨trivial, trivial⟩⟩, ⟨trivial, trivial⟩⟩ ?_
              refine TL_split 53 rfl (fun hb => ?_) (fun hb => ?_)
              · replace h1 := bif_t h1 hb
                refine TL_gf (.bool false) rfl rfl rfl rfl rfl (by decide) ?_
                refine TL_gf (.bool false) rfl rfl rfl rfl rfl (by decide) ?_
                refine TL_gf (.bool false) rfl rfl rfl rfl rfl (by decide) ?_
                refine TL_gf (.bool false) rfl rfl rfl rfl rfl (by decide) ?_
                refine TL_ev env 2 rfl ⟨⟨trivial, ⟨trivial, fun e => e⟩⟩, ⟨trivial, trivial⟩⟩ ?_
                refine TL_end ?_
                obtain rfl := sinj h1
                refine tsn ?_
                exact SP_ren [] _ rfl ⟨rfl, trivial⟩ trivial rfl
              · replace h1 := bif_f h1 hb
                refine TL_gt rfl rfl rfl rfl ?_
                refine TL_ev env 1 rfl ⟨⟨trivial, trivial⟩, trivial⟩ ?_
                refine TL_gt rfl rfl rfl rfl ?_
                obtain ⟨r26, hr, h1⟩ := bnd h1
                refine TL_callB [] (format_Payload.ok0 hr) format_Payload.fnb rfl ⟨trivial, ⟨trivial, trivial⟩⟩ rfl trivial rfl ?_
                refine TL_gt rfl rfl rfl rfl ?_
                refine TL_ev env 1 rfl ⟨trivial, trivial⟩ ?_
                refine TL_gt rfl rfl rfl rfl ?_
                refine TL_ev env 3 rfl ⟨⟨trivial, ⟨trivial, trivial⟩⟩, ⟨⟨trivial, ⟨trivial, trivial⟩⟩, ⟨trivial, trivial⟩⟩⟩ ?_
                refine TL_end ?_
                obtain rfl := sinj h1
                refine tsn ?_
                exact SP_ren [] _ rfl ⟨rfl, trivial⟩ trivial rfl
            · rintro x24 rfl
              refine TE_go ?_
              refine TC_ret ?_
              obtain rfl := sinj h0
              exact TE_ret env rfl trivial trivial
theorem psalterylaw11_FormEnds.ok0 {K : Nat} {p0 : Int} {p1 : Int} {p2 : Int} {p3 : Int} {p4 : Int} {p5 : Int} {p6 : Int} {p7 : Int} {p8 : Int} {p9 : Int} {q0 : Bool} (h0 : psalterylaw11_FormEnds K p0 p1 p2 p3 p4 p5 p6 p7 p8 p9 = some q0) : Fn Try.prog 7 [.agg [.int .i64 p0, .int .i64 p1, .int .i64 p2, .int .i64 p3, .int .i64 p4, .int .i64 p5, .int .i64 p6, .int .i64 p7, .int .i64 p8, .int .i64 p9]] [] (.bool q0) [] := psalterylaw11_FormEnds.ok h0
theorem psalterylaw11_FormEnds.fnb : fnb Try.prog 7 = true := fnb_of Try.func7 rfl
def psalterylaw11_FormatOnly.res (_p0 : Int) (_p1 : Int) (_p2 : Int) (_p3 : Int) (_p4 : Int) (_p5 : Int) (_p6 : Int) (_p7 : Int) (_p8 : Int) (_p9 : Int) (_p10 : Int) : Bool → MV
  | q0 => .bool q0
def psalterylaw11_FormatOnly.out (_p0 : Int) (_p1 : Int) (_p2 : Int) (_p3 : Int) (_p4 : Int) (_p5 : Int) (_p6 : Int) (_p7 : Int) (_p8 : Int) (_p9 : Int) (_p10 : Int) : Bool → List (Nat × Option MObj)
  | _ => []
theorem psalterylaw11_FormatOnly.ok {K : Nat} {p0 : Int} {p1 : Int} {p2 : Int} {p3 : Int} {p4 : Int} {p5 : Int} {p6 : Int} {p7 : Int} {p8 : Int} {p9 : Int} {p10 : Int} {r : Bool} (h0 : psalterylaw11_FormatOnly K p0 p1 p2 p3 p4 p5 p6 p7 p8 p9 p10 = some r) : Fn Try.prog 8 [.agg [.int .i64 p0, .int .i64 p1, .int .i64 p2, .int .i64 p3, .int .i64 p4, .int .i64 p5, .int .i64 p6, .int .i64 p7, .int .i64 p8, .int .i64 p9], .int .i64 p10] [] (psalterylaw11_FormatOnly.res p0 p1 p2 p3 p4 p5 p6 p7 p8 p9 p10 r) (psalterylaw11_FormatOnly.out p0 p1 p2 p3 p4 p5 p6 p7 p8 p9 p10 r) := by
  refine Fn_of Try.func8 rfl (Nat.le_of_ble_eq_true rfl) fun Γ => ?_
  refine TC_seq ?_
  refine TC_reg ?_
  refine TL_ev env 2 rfl ⟨trivial, ⟨trivial, trivial⟩⟩ ?_
  refine TL_end ?_
  refine TE_go ?_
  refine TC_seq ?_
  refine TC_seq ?_
  refine TC_reg ?_
  obtain ⟨r37, hr, h0⟩ := bnd h0
  refine TL_callB [] (psalterylaw11_alive.ok0 hr) psalterylaw11_alive.fnb rfl ⟨trivial, trivial⟩ rfl trivial rfl ?_
  refine TL_ev env 1 rfl ⟨trivial, trivial⟩ ?_
  refine TL_end ?_
  refine TE_go ?_
  refine TC_cond rfl (fun hb => ?_) (fun hb => ?_)
  · replace h0 := bif_t h0 hb
    refine TC_seq ?_
    refine TC_reg ?_
    refine TL_ev env 1 rfl ⟨trivial, trivial⟩ ?_
    refine TL_end ?_
    refine TE_go ?_
    refine TC_ret ?_
    refine tsr ?_
    obtain rfl := sinj h0
    exact TE_ret env rfl trivial trivial
  · replace h0 := bif_f h0 hb
    refine TC_skip ?_
    refine TE_go ?_
    refine TC_seq ?_
    refine TC_seq ?_
    refine TC_reg ?_
    refine TL_ev env 1 rfl ⟨⟨trivial, trivial⟩, trivial⟩ ?_
    obtain ⟨r38, hr, h0⟩ := bnd h0
    refine TL_callB [] (format_Check.ok0 hr) format_Check.fnb rfl ⟨trivial, ⟨trivial, trivial⟩⟩ rfl trivial rfl ?_
    refine TL_ev env 5 rfl ⟨⟨trivial, ⟨trivial, trivial⟩⟩, ⟨trivial, ⟨fun eg => trivial, ⟨fun eg => ⟨fun e => e, ⟨trivial, trivial⟩⟩, ⟨⟨trivial, ⟨trivial, fun e => e⟩⟩, trivial⟩⟩⟩⟩⟩ ?_
    refine TL_end ?_
    refine TE_go ?_
    refine TC_cond rfl (fun hb => ?_) (fun hb => ?_)
    · replace h0 := bif_t h0 hb
      refine TC_seq ?_
      refine TC_reg ?_
      refine TL_ev env 1 rfl ⟨trivial, trivial⟩ ?_
      refine TL_end ?_
      refine TE_go ?_
      refine TC_ret ?_
      refine tsr ?_
      obtain rfl := sinj h0
      exact TE_ret env rfl trivial trivial
    · replace h0 := bif_f h0 hb
      refine TC_skip ?_
      refine TE_go ?_
      refine TC_seq ?_
      refine TC_seq ?_
      refine TC_reg ?_
      refine TL_ev env 1 rfl ⟨trivial, trivial⟩ ?_
      refine TL_end ?_
      refine TE_go ?_
      obtain ⟨z1, h1, h0⟩ := bnd h0
      refine TC_cut (α := Unit) (fun _ => z1 = .inl ()) (fun _ => []) (fun _ => []) ?_ ?_
      · refine TC_blk ?_
        refine TC_loop (α := Int) (fun n s => psalterylaw11_FormatOnly.l0 K p10 p0 p1 p2 p3 p4 p5 p6 p7 p8 p9 n s = some z1) (fun s => [(1, .int .i64 p10), (2, .p 13000 0), (5, .int .i64 s)]) (fun s => [(13000, some (.cells [.int .i64 p0, .int .i64 p1, .int .i64 p2, .int .i64 p3, .int .i64 p4, .int .i64 p5, .int .i64 p6, .int .i64 p7, .int .i64 p8, .int .i64 p9]))]) K ?_ ?_
        · exact SP_ren [(13000, 1002)] _ h1 ⟨rfl, rfl, rfl, trivial⟩ ⟨rfl, trivial⟩ rfl
        rintro n x86 h1
        rcases n with _ | n
        · exact (nsome h1).elim
        replace h1 : psalterylaw11_FormatOnly.r0 K p10 p0 p1 p2 p3 p4 p5 p6 p7 p8 p9 (psalterylaw11_FormatOnly.l0 K p10 p0 p1 p2 p3 p4 p5 p6 p7 p8 p9 n) x86 = some z1 := h1
        refine TC_seq ?_
        refine TC_seq ?_
        refine TC_reg ?_
        refine TL_ev env 2 rfl ⟨trivial, ⟨⟨trivial, ⟨trivial, trivial⟩⟩, trivial⟩⟩ ?_
        refine TL_end ?_
        refine TE_go ?_
        refine TC_cond rfl (fun hb => ?_) (fun hb => ?_)
        · replace h1 := bif_t h1 hb
          refine TC_skip ?_
          refine TE_go ?_
          refine TC_seq ?_
          refine TC_blk ?_
          refine TC_seq ?_
          refine TC_reg ?_
          refine TL_ev env 3 rfl ⟨⟨trivial, trivial⟩, ⟨trivial, ⟨⟨trivial, trivial⟩, trivial⟩⟩⟩ ?_
          refine TL_end ?_
          refine TE_go ?_
          refine TC_seq ?_
          obtain ⟨z2, h2, h1⟩ := bnd h1
          refine TC_cut (α := Int × Int × Int × Int × Int × Int × Int) (fun s => z2 = s) (fun s => [(1, .int .i64 p10), (2, .p 13800 0), (5, .int .i64 x86), (6, .p 13801 0)]) (fun s => [(13800, some (.cells [.int .i64 p0, .int .i64 p1, .int .i64 p2, .int .i64 p3, .int .i64 p4, .int .i64 p5, .int .i64 p6, .int .i64 p7, .int .i64 p8, .int .i64 p9])), (13801, some (.cells [.int .i64 p0, .int .i64 p1, .int .i64 p2, .int .i64 s.1, .int .i64 s.2.1, .int .i64 s.2.2.1, .int .i64 s.2.2.2.1, .int .i64 s.2.2.2.2.1, .int .i64 s.2.2.2.2.2.1, .int .i64 s.2.2.2.2.2.2]))]) ?_ ?_
          · refine TC_blk ?_
            refine TC_seq ?_
            refine TC_reg ?_
            refine TL_ev env 8 rfl ⟨trivial, ⟨⟨trivial, trivial⟩, ⟨⟨trivial, ⟨trivial, trivial⟩⟩, ⟨trivial, ⟨fun eg => trivial, ⟨fun eg => ⟨fun e => e, ⟨trivial, trivial⟩⟩, ⟨⟨trivial, ⟨fun e => e, trivial⟩⟩, ⟨trivial, trivial⟩⟩⟩⟩⟩⟩⟩⟩ ?_
            refine TL_end ?_
            refine TE_go ?_
            refine TC_cond rfl (fun hb => ?_) (fun hb => ?_)
            · replace h2 := bif_t h2 hb
              refine TC_reg ?_
              refine TL_ev env 3 rfl ⟨trivial, ⟨trivial, ⟨⟨trivial, trivial⟩, trivial⟩⟩⟩ ?_
              refine TL_end ?_
              refine tbn ?_
              obtain rfl := sinj h2
              refine tsn ?_
              exact SP_ren [(13800, 13000), (13801, 1006)] (_, _, _, _, _, _, _) rfl ⟨rfl, rfl, rfl, rfl, trivial⟩ ⟨rfl, rfl, trivial⟩ rfl
            · replace h2 := bif_f h2 hb
              refine TC_seq ?_
              refine TC_reg ?_
              refine TL_ev env 4 rfl ⟨trivial, ⟨⟨trivial, trivial⟩, ⟨⟨trivial, ⟨trivial, trivial⟩⟩, ⟨trivial, trivial⟩⟩⟩⟩ ?_
              refine TL_end ?_
              refine TE_go ?_
              refine TC_cond rfl (fun hb => ?_) (fun hb => ?_)
              · replace h2 := bif_t h2 hb
                refine TC_reg ?_
                refine TL_ev env 3 rfl ⟨trivial, ⟨trivial, ⟨⟨trivial, trivial⟩, trivial⟩⟩⟩ ?_
                refine TL_end ?_
                refine tbn ?_
                obtain rfl := sinj h2
                refine tsn ?_
                exact SP_ren [(13800, 13000), (13801, 1006)] (_, _, _, _, _, _, _) rfl ⟨rfl, rfl, rfl, rfl, trivial⟩ ⟨rfl, rfl, trivial⟩ rfl
              · replace h2 := bif_f h2 hb
                refine TC_seq ?_
                refine TC_reg ?_
                refine TL_ev env 3 rfl ⟨trivial, ⟨⟨trivial, ⟨trivial, trivial⟩⟩, ⟨trivial, trivial⟩⟩⟩ ?_
                refine TL_end ?_
                refine TE_go ?_
                refine TC_cond rfl (fun hb => ?_) (fun hb => ?_)
                · replace h2 := bif_t h2 hb
                  refine TC_reg ?_
                  refine TL_ev env 3 rfl ⟨trivial, ⟨trivial, ⟨⟨trivial, trivial⟩, trivial⟩⟩⟩ ?_
                  refine TL_end ?_
                  refine tbn ?_
                  obtain rfl := sinj h2
                  refine tsn ?_
                  exact SP_ren [(13800, 13000), (13801, 1006)] (_, _, _, _, _, _, _) rfl ⟨rfl, rfl, rfl, rfl, trivial⟩ ⟨rfl, rfl, trivial⟩ rfl
                · replace h2 := bif_f h2 hb
                  refine TC_seq ?_
                  refine TC_reg ?_
                  refine TL_ev env 3 rfl ⟨trivial, ⟨⟨trivial, ⟨trivial, trivial⟩⟩, ⟨trivial, trivial⟩⟩⟩ ?_
                  refine TL_end ?_
                  refine TE_go ?_
                  refine TC_cond rfl (fun hb => ?_) (fun hb => ?_)
                  · replace h2 := bif_t h2 hb
                    refine TC_reg ?_
                    refine TL_ev env 3 rfl ⟨trivial, ⟨trivial, ⟨⟨trivial, trivial⟩, trivial⟩⟩⟩ ?_
                    refine TL_end ?_
                    refine tbn ?_
                    obtain rfl := sinj h2
                    refine tsn ?_
                    exact SP_ren [(13800, 13000), (13801, 1006)] (_, _, _, _, _, _, _) rfl ⟨rfl, rfl, rfl, rfl, trivial⟩ ⟨rfl, rfl, trivial⟩ rfl
                  · replace h2 := bif_f h2 hb
                    refine TC_seq ?_
                    refine TC_reg ?_
                    refine TL_ev env 3 rfl ⟨trivial, ⟨⟨trivial, ⟨trivial, trivial⟩⟩, ⟨trivial, trivial⟩⟩⟩ ?_
                    refine TL_end ?_
                    refine TE_go ?_
                    refine TC_cond rfl (fun hb => ?_) (fun hb => ?_)
                    · replace h2 := bif_t h2 hb
                      refine TC_reg ?_
                      refine TL_ev env 3 rfl ⟨trivial, ⟨trivial, ⟨⟨trivial, trivial⟩, trivial⟩⟩⟩ ?_
                      refine TL_end ?_
                      refine tbn ?_
                      obtain rfl := sinj h2
                      refine tsn ?_
                      exact SP_ren [(13800, 13000), (13801, 1006)] (_, _, _, _, _, _, _) rfl ⟨rfl, rfl, rfl, rfl, trivial⟩ ⟨rfl, rfl, trivial⟩ rfl
                    · replace h2 := bif_f h2 hb
                      refine TC_seq ?_
                      refine TC_reg ?_
                      refine TL_ev env 3 rfl ⟨trivial, ⟨⟨trivial, ⟨trivial, trivial⟩⟩, ⟨trivial, trivial⟩⟩⟩ ?_
                      refine TL_end ?_
                      refine TE_go ?_
                      refine TC_cond rfl (fun hb => ?_) (fun hb => ?_)
                      · replace h2 := bif_t h2 hb
                        refine TC_reg ?_
                        refine TL_ev env 3 rfl ⟨trivial, ⟨trivial, ⟨⟨trivial, trivial⟩, trivial⟩⟩⟩ ?_
                        refine TL_end ?_
                        refine tbn ?_
                        obtain rfl := sinj h2
                        refine tsn ?_
                        exact SP_ren [(13800, 13000), (13801, 1006)] (_, _, _, _, _, _, _) rfl ⟨rfl, rfl, rfl, rfl, trivial⟩ ⟨rfl, rfl, trivial⟩ rfl
                      · replace h2 := bif_f h2 hb
                        refine TC_reg ?_
                        refine TL_ev env 3 rfl ⟨trivial, ⟨trivial, ⟨⟨trivial, trivial⟩, trivial⟩⟩⟩ ?_
                        refine TL_end ?_
                        refine tbn ?_
                        obtain rfl := sinj h2
                        refine tsn ?_
                        exact SP_ren [(13800, 13000), (13801, 1006)] (_, _, _, _, _, _, _) rfl ⟨rfl, rfl, rfl, rfl, trivial⟩ ⟨rfl, rfl, trivial⟩ rfl
          · rintro ⟨x119, x120, x121, x122, x123, x124, x125⟩ rfl
            refine TE_go ?_
            refine TC_seq ?_
            obtain ⟨z2, h2, h1⟩ := bnd h1
            refine TC_cut (α := Bool) (fun s => z2 = s) (fun s => [(1, .int .i64 p10), (2, .p 13900 0), (5, .int .i64 x86), (66, .bool s)]) (fun s => [(13900, some (.cells [.int .i64 p0, .int .i64 p1, .int .i64 p2, .int .i64 p3, .int .i64 p4, .int .i64 p5, .int .i64 p6, .int .i64 p7, .int .i64 p8, .int .i64 p9]))]) ?_ ?_
            · refine TC_reg ?_
              refine TL_ev env 1 rfl ⟨⟨trivial, trivial⟩, trivial⟩ ?_
              obtain ⟨r130, hr, h2⟩ := bnd h2
              refine TL_callB [] (format_Check.ok0 hr) format_Check.fnb rfl ⟨trivial, ⟨trivial, trivial⟩⟩ rfl trivial rfl ?_
              refine TL_ev env 2 rfl ⟨⟨trivial, ⟨trivial, trivial⟩⟩, ⟨trivial, trivial⟩⟩ ?_
              refine TL_split 62 rfl (fun hb => ?_) (fun hb => ?_)
              · replace h2 := bif_t h2 hb
                refine TL_gf (.bool false) rfl rfl rfl rfl rfl (by decide) ?_
                refine TL_gf (.bool false) rfl rfl rfl rfl rfl (by decide) ?_
                refine TL_gf (.bool false) rfl rfl rfl rfl rfl (by decide) ?_
                refine TL_ev env 1 rfl ⟨⟨trivial, ⟨trivial, fun e => e⟩⟩, trivial⟩ ?_
                refine TL_end ?_
                obtain rfl := sinj h2
                refine tsn ?_
                exact SP_ren [(13900, 13800)] _ rfl ⟨rfl, rfl, rfl, rfl, trivial⟩ ⟨rfl, trivial⟩ rfl
              · replace h2 := bif_f h2 hb
                refine TL_gt rfl rfl rfl rfl ?_
                refine TL_ev env 1 rfl ⟨⟨trivial, trivial⟩, trivial⟩ ?_
                refine TL_gt rfl rfl rfl rfl ?_
                obtain ⟨r131, hr, h2⟩ := bnd h2
                refine TL_callB [] (format_Payload.ok0 hr) format_Payload.fnb rfl ⟨trivial, ⟨trivial, trivial⟩⟩ rfl trivial rfl ?_
                refine TL_gt rfl rfl rfl rfl ?_
                refine TL_ev env 2 rfl ⟨⟨trivial, ⟨trivial, trivial⟩⟩, ⟨⟨trivial, ⟨trivial, trivial⟩⟩, trivial⟩⟩ ?_
                refine TL_end ?_
                obtain rfl := sinj h2
                refine tsn ?_
                exact SP_ren [(13900, 13800)] _ rfl ⟨rfl, rfl, rfl, rfl, trivial⟩ ⟨rfl, trivial⟩ rfl
            · rintro x128 rfl
              refine TE_go ?_
              refine TC_cond rfl (fun hb => ?_) (fun hb => ?_)
              · replace h1 := bif_t h1 hb
                refine TC_seq ?_
                refine TC_reg ?_
                refine TL_ev env 1 rfl ⟨trivial, trivial⟩ ?_
                refine TL_end ?_
                refine TE_go ?_
                refine TC_ret ?_
                refine tbr ?_
                refine tsr ?_
                refine tsr ?_
                refine tbr ?_
                refine tsr ?_
                refine tsr ?_
                obtain rfl := sinj h1
                obtain rfl := sinj h0
                exact TE_ret env rfl trivial trivial
              · replace h1 := bif_f h1 hb
                refine TC_skip ?_
                refine tbn ?_
                refine TE_go ?_
                refine TC_reg ?_
                refine TL_ev env 3 rfl ⟨trivial, ⟨⟨trivial, ⟨trivial, trivial⟩⟩, ⟨trivial, trivial⟩⟩⟩ ?_
                refine TL_end ?_
                refine tsn ?_
                exact TE_nextr [(13000, 13900)] n (Nat.lt_succ_self n) _ h1 ⟨rfl, rfl, rfl, trivial⟩ ⟨rfl, trivial⟩ rfl
        · replace h1 := bif_f h1 hb
          refine TC_exit ?_
          refine tsx ?_
          refine tsx ?_
          refine tbe ?_
          obtain rfl := sinj h1
          refine tsn ?_
          exact SP_ren [] () rfl trivial trivial rfl
      · rintro ⟨⟩ rfl
        refine TE_go ?_
        refine TC_seq ?_
        refine TC_reg ?_
        refine TL_ev env 1 rfl ⟨trivial, trivial⟩ ?_
        refine TL_end ?_
        refine TE_go ?_
        refine TC_ret ?_
        obtain rfl := sinj h0
        exact TE_ret env rfl trivial trivial
theorem psalterylaw11_FormatOnly.ok0 {K : Nat} {p0 : Int} {p1 : Int} {p2 : Int} {p3 : Int} {p4 : Int} {p5 : Int} {p6 : Int} {p7 : Int} {p8 : Int} {p9 : Int} {p10 : Int} {q0 : Bool} (h0 : psalterylaw11_FormatOnly K p0 p1 p2 p3 p4 p5 p6 p7 p8 p9 p10 = some q0) : Fn Try.prog 8 [.agg [.int .i64 p0, .int .i64 p1, .int .i64 p2, .int .i64 p3, .int .i64 p4, .int .i64 p5, .int .i64 p6, .int .i64 p7, .int .i64 p8, .int .i64 p9], .int .i64 p10] [] (.bool q0) [] := psalterylaw11_FormatOnly.ok h0
theorem psalterylaw11_FormatOnly.fnb : fnb Try.prog 8 = true := fnb_of Try.func8 rfl
end Go.Fo
