/- Each call comes to the function that is written for it. -/
import Derived.Test.YtcaehpgdcjonfaaBoT
import Derived.Test.YtcaehpgdcjonfaaBoF
import Derived.Test.YtcaehpgdcjonfaaBx
import Derived.Test.YtcaehpgdcjonfaaBoP0
namespace Go.Fo
open Go.Proofs
set_option maxRecDepth 20000
set_option maxHeartbeats 4000000
def psalteryref03_Of.res (_p0 : Int) (_p1 : Int) : Int → MV
  | q0 => .int .i16 q0
def psalteryref03_Of.out (_p0 : Int) (_p1 : Int) : Int → List (Nat × Option MObj)
  | _ => []
theorem psalteryref03_Of.ok {K : Nat} {p0 : Int} {p1 : Int} {r : Int} (h0 : psalteryref03_Of K p0 p1 = some r) : Fn Try.prog 146 [.int .i64 p0, .int .i64 p1] [] (psalteryref03_Of.res p0 p1 r) (psalteryref03_Of.out p0 p1 r) := by
  refine Fn_of Try.func146 rfl (Nat.le_of_ble_eq_true rfl) fun Γ => ?_
  refine TC_seq ?_
  refine TC_reg ?_
  refine TL_ev env 1 rfl ⟨tv, tv⟩ ?_
  refine TL_end ?_
  refine TE_go ?_
  refine TC_seq ?_
  refine TC_reg ?_
  obtain ⟨g, h0⟩ := gd_t h0
  refine TL_ev env 4 rfl ⟨tv, ⟨tv, ⟨⟨tv, ⟨tv, g⟩⟩, ⟨tv, tv⟩⟩⟩⟩ ?_
  refine TL_end ?_
  refine TE_go ?_
  refine TC_seq ?_
  refine TC_seq ?_
  refine TC_reg ?_
  refine TL_ev env 2 rfl ⟨tv, ⟨⟨tv, ⟨tv, tv⟩⟩, tv⟩⟩ ?_
  refine TL_end ?_
  refine TE_go ?_
  obtain ⟨z1, h1, h0⟩ := bnd h0
  refine TC_cut (α := Int) (fun s => z1 = s) (fun s => [(0, .int .i64 p0), (1, .int .i64 p1), (5, .int .i64 s)]) (fun s => []) ?_ ?_
  · refine TC_cond rfl (fun hb => ?_) (fun hb => ?_)
    · replace h1 := bif_t h1 hb
      refine TC_reg ?_
      refine TL_ev env 4 rfl ⟨tv, ⟨tv, ⟨⟨tv, ⟨tv, tv⟩⟩, ⟨tv, tv⟩⟩⟩⟩ ?_
      refine TL_end ?_
      obtain rfl := sinj h1
      refine tsn ?_
      exact SP_ren [] _ rfl ⟨rfl, rfl, rfl, tv⟩ tv rfl
    · replace h1 := bif_f h1 hb
      refine TC_skip ?_
      obtain rfl := sinj h1
      refine tsn ?_
      exact SP_ren [] _ rfl ⟨rfl, rfl, rfl, tv⟩ tv rfl
  · rintro x7 hz
    obtain rfl := hz.symm
    refine TE_go ?_
    refine TC_seq ?_
    refine TC_reg ?_
    refine TL_ev env 5 rfl ⟨tv, ⟨⟨tv, ⟨tv, tv⟩⟩, ⟨tv, ⟨⟨tv, ⟨tv, tv⟩⟩, ⟨tv, tv⟩⟩⟩⟩⟩ ?_
    refine TL_end ?_
    refine TE_go ?_
    refine TC_seq ?_
    refine TC_seq ?_
    refine TC_reg ?_
    refine TL_ev env 1 rfl ⟨tv, tv⟩ ?_
    refine TL_end ?_
    refine TE_go ?_
    obtain ⟨z1, h1, h0⟩ := bnd h0
    refine TC_cut (α := Int) (fun s => z1 = .inl s) (fun s => [(1, .int .i64 p1), (5, .int .i64 s), (6, .bool (decide ((kwrap .i64 (2 * x7)) ≥ p1)))]) (fun s => []) ?_ ?_
    · refine TC_cond rfl (fun hb => ?_) (fun hb => ?_)
      · replace h1 := bif_t h1 hb
        refine TC_seq ?_
        refine TC_reg ?_
        refine TL_ev env 5 rfl ⟨tv, ⟨tv, ⟨⟨tv, ⟨tv, (by decide)⟩⟩, ⟨⟨tv, ⟨tv, tv⟩⟩, ⟨tv, tv⟩⟩⟩⟩⟩ ?_
        refine TL_end ?_
        refine TE_go ?_
        refine TC_seq ?_
        refine TC_reg ?_
        refine TL_ev env 3 rfl ⟨tv, ⟨⟨tv, ⟨tv, (by decide)⟩⟩, ⟨⟨tv, ⟨tv, tv⟩⟩, tv⟩⟩⟩ ?_
        refine TL_end ?_
        refine TE_go ?_
        refine TC_cond rfl (fun hb => ?_) (fun hb => ?_)
        · replace h1 := bif_t h1 hb
          refine TC_seq ?_
          refine TC_reg ?_
          obtain ⟨g, h1⟩ := gd_t h1
          refine TL_ev env 6 rfl ⟨tv, ⟨tv, ⟨⟨tv, ⟨tv, g⟩⟩, ⟨⟨tv, ⟨tv, tv⟩⟩, ⟨tv, ⟨⟨tv, ⟨tv, tv⟩⟩, tv⟩⟩⟩⟩⟩⟩ ?_
          obtain ⟨r18, hr, h1⟩ := bnd h1
          refine TL_callB [] (psalteryref03_of.ok0 hr) psalteryref03_of.fnb rfl ⟨tv, ⟨tv, ⟨tv, tv⟩⟩⟩ rfl tv rfl ?_
          refine TL_ev env 1 rfl ⟨tv, tv⟩ ?_
          refine TL_end ?_
          refine TE_go ?_
          refine TC_ret ?_
          refine tsr ?_
          refine tsr ?_
          obtain rfl := sinj h1
          obtain rfl := sinj h0
          exact TE_ret env rfl tv tv
        · replace h1 := bif_f h1 hb
          refine TC_skip ?_
          obtain rfl := sinj h1
          refine tsn ?_
          exact SP_ren [] _ rfl ⟨rfl, rfl, rfl, tv⟩ tv rfl
      · replace h1 := bif_f h1 hb
        refine TC_skip ?_
        obtain rfl := sinj h1
        refine tsn ?_
        exact SP_ren [] _ rfl ⟨rfl, rfl, rfl, tv⟩ tv rfl
    · rintro x11 hz
      obtain rfl := hz.symm
      refine TE_go ?_
      refine TC_seq ?_
      refine TC_reg ?_
      refine TL_ev env 3 rfl ⟨tv, ⟨tv, ⟨tv, tv⟩⟩⟩ ?_
      obtain ⟨r12, hr, h0⟩ := bnd h0
      refine TL_callB [] (psalteryref03_signed.ok0 hr) psalteryref03_signed.fnb rfl ⟨tv, ⟨tv, ⟨tv, ⟨tv, tv⟩⟩⟩⟩ rfl tv rfl ?_
      refine TL_ev env 1 rfl ⟨tv, tv⟩ ?_
      refine TL_end ?_
      refine TE_go ?_
      refine TC_ret ?_
      obtain rfl := sinj h0
      exact TE_ret env rfl tv tv
theorem psalteryref03_Of.ok0 {K : Nat} {p0 : Int} {p1 : Int} {q0 : Int} (h0 : psalteryref03_Of K p0 p1 = some q0) : Fn Try.prog 146 [.int .i64 p0, .int .i64 p1] [] (.int .i16 q0) [] := psalteryref03_Of.ok h0
theorem psalteryref03_Of.fnb : fnb Try.prog 146 = true := fnb_of Try.func146 rfl
def psalteryref03_Cosine.res (_p0 : Int) (_p1 : Int) : Int × Int → MV
  | (q0, q1) => .tup [.int .i16 q0, .int .i64 q1]
def psalteryref03_Cosine.out (_p0 : Int) (_p1 : Int) : Int × Int → List (Nat × Option MObj)
  | (_, _) => []
theorem psalteryref03_Cosine.ok {K : Nat} {p0 : Int} {p1 : Int} {r : Int × Int} (h0 : psalteryref03_Cosine K p0 p1 = some r) : Fn Try.prog 145 [.int .i64 p0, .int .i64 p1] [] (psalteryref03_Cosine.res p0 p1 r) (psalteryref03_Cosine.out p0 p1 r) := by
  refine Fn_of Try.func145 rfl (Nat.le_of_ble_eq_true rfl) fun Γ => ?_
  refine TC_seq ?_
  refine TC_reg ?_
  refine TL_ev env 2 rfl ⟨tv, ⟨tv, tv⟩⟩ ?_
  refine TL_end ?_
  refine TE_go ?_
  refine TC_seq ?_
  refine TC_seq ?_
  refine TC_reg ?_
  refine TL_ev env 6 rfl ⟨tv, ⟨⟨tv, ⟨tv, tv⟩⟩, ⟨tv, ⟨fun eg => tv, ⟨fun eg => ⟨fun e => e, ⟨tv, tv⟩⟩, ⟨⟨tv, ⟨tv, fun e => e⟩⟩, tv⟩⟩⟩⟩⟩⟩ ?_
  refine TL_end ?_
  refine TE_go ?_
  refine TC_cond rfl (fun hb => ?_) (fun hb => ?_)
  · replace h0 := bif_t h0 hb
    refine TC_seq ?_
    refine TC_reg ?_
    refine TL_ev env 2 rfl ⟨tv, ⟨tv, tv⟩⟩ ?_
    refine TL_end ?_
    refine TE_go ?_
    refine TC_ret ?_
    refine tsr ?_
    obtain rfl := sinj h0
    exact TE_ret env rfl tv tv
  · replace h0 := bif_f h0 hb
    refine TC_skip ?_
    refine TE_go ?_
    refine TC_seq ?_
    refine TC_reg ?_
    obtain ⟨g, h0⟩ := gd_t h0
    refine TL_ev env 4 rfl ⟨tv, ⟨tv, ⟨⟨tv, ⟨tv, g⟩⟩, ⟨tv, tv⟩⟩⟩⟩ ?_
    refine TL_end ?_
    refine TE_go ?_
    refine TC_seq ?_
    refine TC_reg ?_
    refine TL_ev env 6 rfl ⟨tv, ⟨⟨tv, ⟨tv, tv⟩⟩, ⟨tv, ⟨⟨tv, ⟨tv, tv⟩⟩, ⟨tv, ⟨⟨tv, ⟨tv, tv⟩⟩, tv⟩⟩⟩⟩⟩⟩ ?_
    obtain ⟨r9, hr, h0⟩ := bnd h0
    refine TL_callB [] (psalteryref03_Of.ok0 hr) psalteryref03_Of.fnb rfl ⟨tv, ⟨tv, ⟨tv, tv⟩⟩⟩ rfl tv rfl ?_
    refine TL_ev env 2 rfl ⟨tv, ⟨tv, tv⟩⟩ ?_
    refine TL_end ?_
    refine TE_go ?_
    refine TC_ret ?_
    obtain rfl := sinj h0
    exact TE_ret env rfl tv tv
theorem psalteryref03_Cosine.ok0 {K : Nat} {p0 : Int} {p1 : Int} {q0 : Int} {q1 : Int} (h0 : psalteryref03_Cosine K p0 p1 = some (q0, q1)) : Fn Try.prog 145 [.int .i64 p0, .int .i64 p1] [] (.tup [.int .i16 q0, .int .i64 q1]) [] := psalteryref03_Cosine.ok h0
theorem psalteryref03_Cosine.fnb : fnb Try.prog 145 = true := fnb_of Try.func145 rfl
def psalteryref04_Turn.res (_p0 : Int) : (Unit) ⊕ ((List (Int))) → MV
  | .inl () => .nils
  | .inr q0 => .im (.slice (.int .i16)) q0
def psalteryref04_Turn.out (_p0 : Int) : (Unit) ⊕ ((List (Int))) → List (Nat × Option MObj)
  | .inl () => []
  | .inr _ => []
theorem psalteryref04_Turn.ok {K : Nat} {p0 : Int} {r : (Unit) ⊕ ((List (Int)))} (h0 : psalteryref04_Turn K p0 = some r) : Fn Try.prog 112 [.int .i64 p0] [] (psalteryref04_Turn.res p0 r) (psalteryref04_Turn.out p0 r) := by
  refine Fn_of Try.func112 rfl (Nat.le_of_ble_eq_true rfl) fun Γ => ?_
  refine TC_seq ?_
  refine TC_reg ?_
  refine TL_ev env 1 rfl ⟨tv, tv⟩ ?_
  refine TL_end ?_
  refine TE_go ?_
  refine TC_seq ?_
  refine TC_seq ?_
  refine TC_reg ?_
  refine TL_ev env 11 rfl ⟨tv, ⟨⟨tv, ⟨tv, tv⟩⟩, ⟨tv, ⟨fun eg => tv, ⟨fun eg => ⟨fun e => e, ⟨tv, tv⟩⟩, ⟨⟨tv, ⟨tv, fun e => e⟩⟩, ⟨tv, ⟨fun eg => tv, ⟨fun eg => ⟨fun e => e, ⟨tv, (by decide)⟩⟩, ⟨fun eg => ⟨fun e => e, ⟨tv, tv⟩⟩, ⟨⟨tv, ⟨tv, fun e => e⟩⟩, tv⟩⟩⟩⟩⟩⟩⟩⟩⟩⟩⟩ ?_
  refine TL_end ?_
  refine TE_go ?_
  refine TC_cond rfl (fun hb => ?_) (fun hb => ?_)
  · replace h0 := bif_t h0 hb
    refine TC_seq ?_
    refine TC_reg ?_
    refine TL_ev env 1 rfl ⟨tv, tv⟩ ?_
    refine TL_end ?_
    refine TE_go ?_
    refine TC_ret ?_
    refine tsr ?_
    obtain rfl := sinj h0
    exact TE_ret env rfl tv tv
  · replace h0 := bif_f h0 hb
    refine TC_skip ?_
    refine TE_go ?_
    refine TC_seq ?_
    refine TC_reg ?_
    refine TL_ev env 1 rfl ⟨tv, tv⟩ ?_
    refine TL_end ?_
    refine TE_go ?_
    refine TC_seq ?_
    refine TC_seq ?_
    refine TC_reg ?_
    refine TL_ev env 1 rfl ⟨tv, tv⟩ ?_
    refine TL_end ?_
    refine TE_go ?_
    obtain ⟨z1, h1, h0⟩ := bnd h0
    refine TC_cut (α := (List (Int))) (fun s => z1 = s) (fun s => [(3, .sl 10800)]) (fun s => [(10800, some (.rows (.int .i16) s))]) ?_ ?_
    · refine TC_blk ?_
      refine TC_loop (α := Int × (List (Int))) (fun n s => psalteryref04_Turn.l0 K p0 n s.1 s.2 = some z1) (fun s => [(0, .int .i64 p0), (3, .sl 11000), (4, .int .i64 s.1)]) (fun s => [(11000, some (.rows (.int .i16) s.2))]) K ?_ ?_
      · refine TE_own 3 7003 (.int .i16) rfl (by decide) rfl rfl ?_
        exact SP_ren [(11000, 7003)] (_, _) h1 ⟨rfl, rfl, rfl, tv⟩ ⟨rfl, tv⟩ rfl
      rintro n ⟨x36, x37⟩ h1
      rcases n with _ | n
      · exact (nsome h1).elim
      replace h1 : psalteryref04_Turn.r0 K p0 (psalteryref04_Turn.l0 K p0 n) x36 x37 = some z1 := h1
      refine TC_seq ?_
      refine TC_seq ?_
      refine TC_reg ?_
      refine TL_ev env 3 rfl ⟨tv, ⟨tv, ⟨⟨tv, ⟨tv, tv⟩⟩, tv⟩⟩⟩ ?_
      refine TL_end ?_
      refine TE_go ?_
      refine TC_cond rfl (fun hb => ?_) (fun hb => ?_)
      · replace h1 := bif_t h1 hb
        refine TC_skip ?_
        refine TE_go ?_
        refine TC_seq ?_
        refine TC_blk ?_
        refine TC_seq ?_
        refine TC_reg ?_
        refine TL_ev env 2 rfl ⟨tv, ⟨tv, tv⟩⟩ ?_
        obtain ⟨⟨r47, r48⟩, hr, h1⟩ := bnd h1
        refine TL_callB [] (psalteryref03_Cosine.ok0 hr) psalteryref03_Cosine.fnb rfl ⟨tv, ⟨tv, ⟨tv, tv⟩⟩⟩ rfl tv rfl ?_
        refine TL_ev env 5 rfl ⟨tv, ⟨tv, ⟨tv, ⟨tv, ⟨tv, tv⟩⟩⟩⟩⟩ ?_
        refine TL_end ?_
        refine TE_go ?_
        refine TC_reg ?_
        obtain ⟨g, h1⟩ := gd_t h1
        refine TL_ev env 5 rfl ⟨tv, ⟨tv, ⟨⟨tv, tv⟩, ⟨⟨⟨tv, ⟨tv, tv⟩⟩, g⟩, ⟨tv, tv⟩⟩⟩⟩⟩ ?_
        refine TL_end ?_
        refine tbn ?_
        refine TE_go ?_
        refine TC_reg ?_
        refine TL_ev env 3 rfl ⟨tv, ⟨⟨tv, ⟨tv, tv⟩⟩, ⟨tv, tv⟩⟩⟩ ?_
        refine TL_end ?_
        refine tsn ?_
        exact TE_nextr [(11000, 1032)] n (Nat.lt_succ_self n) (_, _) h1 ⟨rfl, rfl, rfl, tv⟩ ⟨rfl, tv⟩ rfl
      · replace h1 := bif_f h1 hb
        refine TC_exit ?_
        refine tsx ?_
        refine tsx ?_
        refine tbe ?_
        obtain rfl := sinj h1
        refine tsn ?_
        exact SP_ren [(10800, 11000)] _ rfl ⟨rfl, tv⟩ ⟨rfl, tv⟩ rfl
    · rintro x31 hz
      obtain rfl := hz.symm
      refine TE_go ?_
      refine TC_seq ?_
      refine TC_reg ?_
      refine TL_ev env 2 rfl ⟨tv, ⟨tv, tv⟩⟩ ?_
      refine TL_end ?_
      refine TE_go ?_
      refine TC_ret ?_
      refine TE_frz 10800 rfl ?_
      obtain rfl := sinj h0
      exact TE_ret env rfl tv tv
theorem psalteryref04_Turn.ok0 {K : Nat} {p0 : Int}  (h0 : psalteryref04_Turn K p0 = some (.inl ())) : Fn Try.prog 112 [.int .i64 p0] [] (.nils) [] := psalteryref04_Turn.ok h0
theorem psalteryref04_Turn.ok1 {K : Nat} {p0 : Int} {q0 : List (Int)} (h0 : psalteryref04_Turn K p0 = some (.inr q0)) : Fn Try.prog 112 [.int .i64 p0] [] (.im (.slice (.int .i16)) q0) [] := psalteryref04_Turn.ok h0
theorem psalteryref04_Turn.fnb : fnb Try.prog 112 = true := fnb_of Try.func112 rfl
def psalteryref04_Slope.res (_p0 : Int) : (Unit) ⊕ ((List (Int))) → MV
  | .inl () => .nils
  | .inr q0 => .im (.slice (.int .i16)) q0
def psalteryref04_Slope.out (_p0 : Int) : (Unit) ⊕ ((List (Int))) → List (Nat × Option MObj)
  | .inl () => []
  | .inr _ => []
theorem psalteryref04_Slope.ok {K : Nat} {p0 : Int} {r : (Unit) ⊕ ((List (Int)))} (h0 : psalteryref04_Slope K p0 = some r) : Fn Try.prog 113 [.int .i64 p0] [] (psalteryref04_Slope.res p0 r) (psalteryref04_Slope.out p0 r) := by
  refine Fn_of Try.func113 rfl (Nat.le_of_ble_eq_true rfl) fun Γ => ?_
  refine TC_seq ?_
  refine TC_reg ?_
  refine TL_ev env 1 rfl ⟨tv, tv⟩ ?_
  refine TL_end ?_
  refine TE_go ?_
  refine TC_seq ?_
  refine TC_seq ?_
  refine TC_reg ?_
  refine TL_ev env 6 rfl ⟨tv, ⟨⟨tv, ⟨tv, tv⟩⟩, ⟨tv, ⟨fun eg => tv, ⟨fun eg => ⟨fun e => e, ⟨tv, tv⟩⟩, ⟨⟨tv, ⟨tv, fun e => e⟩⟩, tv⟩⟩⟩⟩⟩⟩ ?_
  refine TL_end ?_
  refine TE_go ?_
  refine TC_cond rfl (fun hb => ?_) (fun hb => ?_)
  · replace h0 := bif_t h0 hb
    refine TC_seq ?_
    refine TC_reg ?_
    refine TL_ev env 1 rfl ⟨tv, tv⟩ ?_
    refine TL_end ?_
    refine TE_go ?_
    refine TC_ret ?_
    refine tsr ?_
    obtain rfl := sinj h0
    exact TE_ret env rfl tv tv
  · replace h0 := bif_f h0 hb
    refine TC_skip ?_
    refine TE_go ?_
    refine TC_seq ?_
    refine TC_reg ?_
    refine TL_ev env 1 rfl ⟨tv, tv⟩ ?_
    refine TL_end ?_
    refine TE_go ?_
    refine TC_seq ?_
    refine TC_seq ?_
    refine TC_reg ?_
    refine TL_ev env 1 rfl ⟨tv, tv⟩ ?_
    refine TL_end ?_
    refine TE_go ?_
    obtain ⟨z1, h1, h0⟩ := bnd h0
    refine TC_cut (α := (List (Int))) (fun s => z1 = s) (fun s => [(3, .sl 10800)]) (fun s => [(10800, some (.rows (.int .i16) s))]) ?_ ?_
    · refine TC_blk ?_
      refine TC_loop (α := Int × (List (Int))) (fun n s => psalteryref04_Slope.l0 K p0 n s.1 s.2 = some z1) (fun s => [(0, .int .i64 p0), (3, .sl 11000), (4, .int .i64 s.1)]) (fun s => [(11000, some (.rows (.int .i16) s.2))]) K ?_ ?_
      · refine TE_own 3 7003 (.int .i16) rfl (by decide) rfl rfl ?_
        exact SP_ren [(11000, 7003)] (_, _) h1 ⟨rfl, rfl, rfl, tv⟩ ⟨rfl, tv⟩ rfl
      rintro n ⟨x24, x25⟩ h1
      rcases n with _ | n
      · exact (nsome h1).elim
      replace h1 : psalteryref04_Slope.r0 K p0 (psalteryref04_Slope.l0 K p0 n) x24 x25 = some z1 := h1
      refine TC_seq ?_
      refine TC_seq ?_
      refine TC_reg ?_
      refine TL_ev env 4 rfl ⟨tv, ⟨tv, ⟨⟨tv, ⟨tv, tv⟩⟩, ⟨⟨tv, ⟨tv, tv⟩⟩, tv⟩⟩⟩⟩ ?_
      refine TL_end ?_
      refine TE_go ?_
      refine TC_cond rfl (fun hb => ?_) (fun hb => ?_)
      · replace h1 := bif_t h1 hb
        refine TC_skip ?_
        refine TE_go ?_
        refine TC_seq ?_
        refine TC_blk ?_
        refine TC_reg ?_
        refine TL_ev env 4 rfl ⟨tv, ⟨tv, ⟨tv, ⟨⟨tv, ⟨tv, tv⟩⟩, tv⟩⟩⟩⟩ ?_
        obtain ⟨r34, hr, h1⟩ := bnd h1
        refine TL_callB [] (psalteryref03_Of.ok0 hr) psalteryref03_Of.fnb rfl ⟨tv, ⟨tv, ⟨tv, tv⟩⟩⟩ rfl tv rfl ?_
        obtain ⟨g, h1⟩ := gd_t h1
        refine TL_ev env 3 rfl ⟨⟨tv, tv⟩, ⟨⟨⟨tv, ⟨tv, tv⟩⟩, g⟩, ⟨tv, tv⟩⟩⟩ ?_
        refine TL_end ?_
        refine tbn ?_
        refine TE_go ?_
        refine TC_reg ?_
        refine TL_ev env 3 rfl ⟨tv, ⟨⟨tv, ⟨tv, tv⟩⟩, ⟨tv, tv⟩⟩⟩ ?_
        refine TL_end ?_
        refine tsn ?_
        exact TE_nextr [(11000, 1023)] n (Nat.lt_succ_self n) (_, _) h1 ⟨rfl, rfl, rfl, tv⟩ ⟨rfl, tv⟩ rfl
      · replace h1 := bif_f h1 hb
        refine TC_exit ?_
        refine tsx ?_
        refine tsx ?_
        refine tbe ?_
        obtain rfl := sinj h1
        refine tsn ?_
        exact SP_ren [(10800, 11000)] _ rfl ⟨rfl, tv⟩ ⟨rfl, tv⟩ rfl
    · rintro x21 hz
      obtain rfl := hz.symm
      refine TE_go ?_
      refine TC_seq ?_
      refine TC_reg ?_
      refine TL_ev env 2 rfl ⟨tv, ⟨tv, tv⟩⟩ ?_
      refine TL_end ?_
      refine TE_go ?_
      refine TC_ret ?_
      refine TE_frz 10800 rfl ?_
      obtain rfl := sinj h0
      exact TE_ret env rfl tv tv
theorem psalteryref04_Slope.ok0 {K : Nat} {p0 : Int}  (h0 : psalteryref04_Slope K p0 = some (.inl ())) : Fn Try.prog 113 [.int .i64 p0] [] (.nils) [] := psalteryref04_Slope.ok h0
theorem psalteryref04_Slope.ok1 {K : Nat} {p0 : Int} {q0 : List (Int)} (h0 : psalteryref04_Slope K p0 = some (.inr q0)) : Fn Try.prog 113 [.int .i64 p0] [] (.im (.slice (.int .i16)) q0) [] := psalteryref04_Slope.ok h0
theorem psalteryref04_Slope.fnb : fnb Try.prog 113 = true := fnb_of Try.func113 rfl
def psalteryref04_Filter.res (_p0 : Int) : (Unit) ⊕ ((List (Int))) → MV
  | .inl () => .nils
  | .inr q0 => .im (.slice (.int .i16)) q0
def psalteryref04_Filter.out (_p0 : Int) : (Unit) ⊕ ((List (Int))) → List (Nat × Option MObj)
  | .inl () => []
  | .inr _ => []
theorem psalteryref04_Filter.ok {K : Nat} {p0 : Int} {r : (Unit) ⊕ ((List (Int)))} (h0 : psalteryref04_Filter K p0 = some r) : Fn Try.prog 114 [.int .i64 p0] [] (psalteryref04_Filter.res p0 r) (psalteryref04_Filter.out p0 r) := by
  refine Fn_of Try.func114 rfl (Nat.le_of_ble_eq_true rfl) fun Γ => ?_
  refine TC_seq ?_
  refine TC_reg ?_
  refine TL_ev env 1 rfl ⟨tv, tv⟩ ?_
  refine TL_end ?_
  refine TE_go ?_
  refine TC_seq ?_
  refine TC_seq ?_
  refine TC_reg ?_
  refine TL_ev env 6 rfl ⟨tv, ⟨⟨tv, ⟨tv, tv⟩⟩, ⟨tv, ⟨fun eg => tv, ⟨fun eg => ⟨fun e => e, ⟨tv, tv⟩⟩, ⟨⟨tv, ⟨fun e => e, tv⟩⟩, tv⟩⟩⟩⟩⟩⟩ ?_
  refine TL_end ?_
  refine TE_go ?_
  refine TC_cond rfl (fun hb => ?_) (fun hb => ?_)
  · replace h0 := bif_t h0 hb
    refine TC_seq ?_
    refine TC_reg ?_
    refine TL_ev env 1 rfl ⟨tv, tv⟩ ?_
    refine TL_end ?_
    refine TE_go ?_
    refine TC_ret ?_
    refine tsr ?_
    obtain rfl := sinj h0
    exact TE_ret env rfl tv tv
  · replace h0 := bif_f h0 hb
    refine TC_skip ?_
    refine TE_go ?_
    refine TC_seq ?_
    refine TC_reg ?_
    refine TL_ev env 1 rfl ⟨tv, tv⟩ ?_
    refine TL_end ?_
    refine TE_go ?_
    refine TC_seq ?_
    refine TC_seq ?_
    refine TC_reg ?_
    refine TL_ev env 3 rfl ⟨tv, ⟨⟨tv, ⟨tv, tv⟩⟩, ⟨tv, tv⟩⟩⟩ ?_
    refine TL_end ?_
    refine TE_go ?_
    obtain ⟨z1, h1, h0⟩ := bnd h0
    refine TC_cut (α := (List (Int))) (fun s => z1 = s) (fun s => [(3, .sl 11600)]) (fun s => [(11600, some (.rows (.int .i16) s))]) ?_ ?_
    · refine TC_blk ?_
      refine TC_loop (α := Int × (List (Int))) (fun n s => psalteryref04_Filter.l0 K p0 n s.1 s.2 = some z1) (fun s => [(0, .int .i64 p0), (3, .sl 12000), (4, .int .i64 s.1)]) (fun s => [(12000, some (.rows (.int .i16) s.2))]) K ?_ ?_
      · refine TE_own 3 7003 (.int .i16) rfl (by decide) rfl rfl ?_
        exact SP_ren [(12000, 7003)] (_, _) h1 ⟨rfl, rfl, rfl, tv⟩ ⟨rfl, tv⟩ rfl
      rintro n ⟨x93, x94⟩ h1
      rcases n with _ | n
      · exact (nsome h1).elim
      replace h1 : psalteryref04_Filter.r0 K p0 (psalteryref04_Filter.l0 K p0 n) x93 x94 = some z1 := h1
      refine TC_seq ?_
      refine TC_seq ?_
      refine TC_reg ?_
      refine TL_ev env 4 rfl ⟨tv, ⟨tv, ⟨⟨tv, ⟨tv, tv⟩⟩, ⟨⟨tv, ⟨tv, tv⟩⟩, tv⟩⟩⟩⟩ ?_
      refine TL_end ?_
      refine TE_go ?_
      refine TC_cond rfl (fun hb => ?_) (fun hb => ?_)
      · replace h1 := bif_t h1 hb
        refine TC_skip ?_
        refine TE_go ?_
        refine TC_seq ?_
        refine TC_blk ?_
        refine TC_seq ?_
        refine TC_reg ?_
        refine TL_ev env 1 rfl ⟨tv, tv⟩ ?_
        refine TL_end ?_
        refine TE_go ?_
        refine TC_seq ?_
        refine TC_seq ?_
        refine TC_reg ?_
        refine TL_ev env 2 rfl ⟨tv, ⟨⟨tv, ⟨tv, tv⟩⟩, tv⟩⟩ ?_
        refine TL_end ?_
        refine TE_go ?_
        obtain ⟨z2, h2, h1⟩ := bnd h1
        refine TC_cut (α := Int) (fun s => z2 = s) (fun s => [(0, .int .i64 p0), (3, .sl 12500), (4, .int .i64 x93), (5, .int .i64 s)]) (fun s => [(12500, some (.rows (.int .i16) x94))]) ?_ ?_
        · refine TC_cond rfl (fun hb => ?_) (fun hb => ?_)
          · replace h2 := bif_t h2 hb
            refine TC_reg ?_
            refine TL_ev env 4 rfl ⟨tv, ⟨⟨tv, ⟨tv, tv⟩⟩, ⟨tv, ⟨⟨tv, ⟨tv, tv⟩⟩, tv⟩⟩⟩⟩ ?_
            obtain ⟨r145, hr, h2⟩ := bnd h2
            refine TL_callB [] (psalteryref03_Of.ok0 hr) psalteryref03_Of.fnb rfl ⟨tv, ⟨tv, ⟨tv, tv⟩⟩⟩ rfl tv rfl ?_
            obtain ⟨g, h2⟩ := gd_t h2
            refine TL_ev env 8 rfl ⟨tv, ⟨tv, ⟨⟨tv, ⟨tv, tv⟩⟩, ⟨⟨tv, ⟨tv, tv⟩⟩, ⟨tv, ⟨⟨tv, ⟨tv, tv⟩⟩, ⟨⟨tv, ⟨tv, g⟩⟩, ⟨tv, tv⟩⟩⟩⟩⟩⟩⟩⟩ ?_
            refine TL_end ?_
            obtain rfl := sinj h2
            refine tsn ?_
            exact SP_ren [(12500, 12000)] _ rfl ⟨rfl, rfl, rfl, rfl, tv⟩ ⟨rfl, tv⟩ rfl
          · replace h2 := bif_f h2 hb
            refine TC_skip ?_
            obtain rfl := sinj h2
            refine tsn ?_
            exact SP_ren [(12500, 12000)] _ rfl ⟨rfl, rfl, rfl, rfl, tv⟩ ⟨rfl, tv⟩ rfl
        · rintro x124 hz
          obtain rfl := hz.symm
          refine TE_go ?_
          refine TC_seq ?_
          refine TC_reg ?_
          refine TL_ev env 5 rfl ⟨tv, ⟨tv, ⟨⟨tv, ⟨tv, tv⟩⟩, ⟨⟨tv, ⟨tv, tv⟩⟩, ⟨tv, tv⟩⟩⟩⟩⟩ ?_
          refine TL_end ?_
          refine TE_go ?_
          refine TC_seq ?_
          refine TC_reg ?_
          refine TL_ev env 3 rfl ⟨tv, ⟨tv, ⟨⟨tv, ⟨tv, tv⟩⟩, tv⟩⟩⟩ ?_
          obtain ⟨⟨r127, r128⟩, hr, h1⟩ := bnd h1
          refine TL_callB [] (psalteryref03_Cosine.ok0 hr) psalteryref03_Cosine.fnb rfl ⟨tv, ⟨tv, ⟨tv, tv⟩⟩⟩ rfl tv rfl ?_
          refine TL_ev env 5 rfl ⟨tv, ⟨tv, ⟨tv, ⟨tv, ⟨tv, tv⟩⟩⟩⟩⟩ ?_
          refine TL_end ?_
          refine TE_go ?_
          refine TC_seq ?_
          refine TC_reg ?_
          refine TL_ev env 4 rfl ⟨tv, ⟨⟨tv, ⟨tv, tv⟩⟩, ⟨tv, ⟨⟨tv, ⟨tv, tv⟩⟩, tv⟩⟩⟩⟩ ?_
          obtain ⟨⟨r130, r131⟩, hr, h1⟩ := bnd h1
          refine TL_callB [] (psalteryref03_Cosine.ok0 hr) psalteryref03_Cosine.fnb rfl ⟨tv, ⟨tv, ⟨tv, tv⟩⟩⟩ rfl tv rfl ?_
          refine TL_ev env 5 rfl ⟨tv, ⟨tv, ⟨tv, ⟨tv, ⟨tv, tv⟩⟩⟩⟩⟩ ?_
          refine TL_end ?_
          refine TE_go ?_
          refine TC_seq ?_
          refine TC_reg ?_
          refine TL_ev env 10 rfl ⟨tv, ⟨tv, ⟨⟨tv, ⟨tv, tv⟩⟩, ⟨⟨tv, ⟨tv, tv⟩⟩, ⟨tv, ⟨tv, ⟨⟨tv, ⟨tv, tv⟩⟩, ⟨⟨tv, ⟨tv, tv⟩⟩, ⟨⟨tv, ⟨tv, (by decide)⟩⟩, ⟨tv, tv⟩⟩⟩⟩⟩⟩⟩⟩⟩⟩ ?_
          refine TL_end ?_
          refine TE_go ?_
          refine TC_reg ?_
          refine TL_ev env 4 rfl ⟨tv, ⟨tv, ⟨tv, ⟨⟨tv, ⟨tv, tv⟩⟩, tv⟩⟩⟩⟩ ?_
          obtain ⟨r138, hr, h1⟩ := bnd h1
          refine TL_callB [] (psalteryref01_Round.ok0 hr) psalteryref01_Round.fnb rfl ⟨tv, ⟨tv, ⟨tv, tv⟩⟩⟩ rfl tv rfl ?_
          refine TL_ev env 1 rfl ⟨⟨tv, ⟨tv, tv⟩⟩, tv⟩ ?_
          obtain ⟨r140, hr, h1⟩ := bnd h1
          refine TL_callB [] (psalteryref01_Round.ok0 hr) psalteryref01_Round.fnb rfl ⟨tv, ⟨tv, ⟨tv, tv⟩⟩⟩ rfl tv rfl ?_
          obtain ⟨g, h1⟩ := gd_t h1
          refine TL_ev env 4 rfl ⟨tv, ⟨⟨tv, tv⟩, ⟨⟨⟨tv, ⟨tv, tv⟩⟩, g⟩, ⟨tv, tv⟩⟩⟩⟩ ?_
          refine TL_end ?_
          refine tbn ?_
          refine TE_go ?_
          refine TC_reg ?_
          refine TL_ev env 3 rfl ⟨tv, ⟨⟨tv, ⟨tv, tv⟩⟩, ⟨tv, tv⟩⟩⟩ ?_
          refine TL_end ?_
          refine tsn ?_
          exact TE_nextr [(12000, 1077)] n (Nat.lt_succ_self n) (_, _) h1 ⟨rfl, rfl, rfl, tv⟩ ⟨rfl, tv⟩ rfl
      · replace h1 := bif_f h1 hb
        refine TC_exit ?_
        refine tsx ?_
        refine tsx ?_
        refine tbe ?_
        obtain rfl := sinj h1
        refine tsn ?_
        exact SP_ren [(11600, 12000)] _ rfl ⟨rfl, tv⟩ ⟨rfl, tv⟩ rfl
    · rintro x76 hz
      obtain rfl := hz.symm
      refine TE_go ?_
      refine TC_seq ?_
      refine TC_reg ?_
      refine TL_ev env 2 rfl ⟨tv, ⟨tv, tv⟩⟩ ?_
      refine TL_end ?_
      refine TE_go ?_
      refine TC_ret ?_
      refine TE_frz 11600 rfl ?_
      obtain rfl := sinj h0
      exact TE_ret env rfl tv tv
theorem psalteryref04_Filter.ok0 {K : Nat} {p0 : Int}  (h0 : psalteryref04_Filter K p0 = some (.inl ())) : Fn Try.prog 114 [.int .i64 p0] [] (.nils) [] := psalteryref04_Filter.ok h0
theorem psalteryref04_Filter.ok1 {K : Nat} {p0 : Int} {q0 : List (Int)} (h0 : psalteryref04_Filter K p0 = some (.inr q0)) : Fn Try.prog 114 [.int .i64 p0] [] (.im (.slice (.int .i16)) q0) [] := psalteryref04_Filter.ok h0
theorem psalteryref04_Filter.fnb : fnb Try.prog 114 = true := fnb_of Try.func114 rfl
def psalterylaw04_ask.res (_p0 : Int) (_p1 : Int) (_p2 : List (Option (List (Int)))) (_p3 : Int) (_p4 : Int) : (Int) ⊕ (Int × (List (Int))) ⊕ ((List (Option (List (Int)))) × Int × Int × (List (Int))) ⊕ ((List (Int)) × (List (Option (List (Int)))) × Int × Int × (List (Int))) → MV
  | .inl q0 => .tup [.nils, .int .i64 q0, .nils]
  | .inr (.inl (q0, q1)) => .tup [.nils, .int .i64 q0, .im (.slice (.int .i16)) q1]
  | .inr (.inr (.inl (_, _, _, _))) => .tup [.sl 1000, .int .i64 0, .nils]
  | .inr (.inr (.inr (q0, _, _, _, _))) => .tup [.sl 1000, .int .i64 0, .im (.slice (.int .i16)) q0]
def psalterylaw04_ask.out (_p0 : Int) (_p1 : Int) (p2 : List (Option (List (Int)))) (p3 : Int) (p4 : Int) : (Int) ⊕ (Int × (List (Int))) ⊕ ((List (Option (List (Int)))) × Int × Int × (List (Int))) ⊕ ((List (Int)) × (List (Option (List (Int)))) × Int × Int × (List (Int))) → List (Nat × Option MObj)
  | .inl _ => [(0, some (.ab (bkA p2 p3 p4)))]
  | .inr (.inl (_, _)) => [(0, some (.ab (bkA p2 p3 p4)))]
  | .inr (.inr (.inl (q0, q1, q2, q3))) => [(0, some (.ab (bkA q0 q1 q2))), (1000, some (.rows (.int .i16) q3))]
  | .inr (.inr (.inr (_, q1, q2, q3, q4))) => [(0, some (.ab (bkA q1 q2 q3))), (1000, some (.rows (.int .i16) q4))]
theorem psalterylaw04_ask.ok {K : Nat} {p0 : Int} {p1 : Int} {p2 : List (Option (List (Int)))} {p3 : Int} {p4 : Int} {r : (Int) ⊕ (Int × (List (Int))) ⊕ ((List (Option (List (Int)))) × Int × Int × (List (Int))) ⊕ ((List (Int)) × (List (Option (List (Int)))) × Int × Int × (List (Int)))} (h0 : psalterylaw04_ask K p0 p1 p2 p3 p4 = some r) : Fn Try.prog 60 [.p 0 0, .agg [.int .i64 p0, .int .i64 p1]] [(0, some (.ab (bkA p2 p3 p4)))] (psalterylaw04_ask.res p0 p1 p2 p3 p4 r) (psalterylaw04_ask.out p0 p1 p2 p3 p4 r) := by
  refine Fn_of Try.func60 rfl (Nat.le_of_ble_eq_true rfl) fun Γ => ?_
  refine TC_seq ?_
  refine TC_reg ?_
  refine TL_ev env 4 rfl ⟨tv, ⟨tv, ⟨tv, ⟨tv, tv⟩⟩⟩⟩ ?_
  refine TL_end ?_
  refine TE_go ?_
  refine TC_seq ?_
  refine TC_seq ?_
  refine TC_reg ?_
  refine TL_ev env 2 rfl ⟨tv, ⟨⟨tv, tv⟩, tv⟩⟩ ?_
  refine TL_end ?_
  refine TE_go ?_
  refine TC_blk ?_
  refine TC_seq ?_
  refine TC_reg ?_
  refine TL_ev env 2 rfl ⟨⟨tv, ⟨tv, tv⟩⟩, ⟨tv, tv⟩⟩ ?_
  refine TL_end ?_
  refine TE_go ?_
  refine TC_cond rfl (fun hb => ?_) (fun hb => ?_)
  · replace h0 := bif_t h0 hb
    refine TC_seq ?_
    refine TC_reg ?_
    refine TL_ev env 3 rfl ⟨tv, ⟨tv, ⟨⟨tv, tv⟩, tv⟩⟩⟩ ?_
    obtain ⟨z, hr, h0⟩ := bnd h0
    rcases z with r85 | ⟨r86, r87, r88, r89⟩
    · refine TL_callB [(0, 0)] (bank_Bank_Turn.ok0 hr) bank_Bank_Turn.fnb rfl ⟨tv, ⟨tv, ⟨tv, tv⟩⟩⟩ rfl ⟨.inr rfl, tv⟩ rfl ?_
      refine TL_ev env 5 rfl ⟨tv, ⟨tv, ⟨tv, ⟨tv, ⟨tv, tv⟩⟩⟩⟩⟩ ?_
      refine TL_end ?_
      refine TE_go ?_
      refine TC_seq ?_
      refine TC_reg ?_
      refine TL_ev env 4 rfl ⟨tv, ⟨tv, ⟨tv, ⟨⟨tv, tv⟩, tv⟩⟩⟩⟩ ?_
      obtain ⟨z, hr, h0⟩ := bnd h0
      rcases z with ⟨⟩ | r90
      · refine TL_callB [] (psalteryref04_Turn.ok0 hr) psalteryref04_Turn.fnb rfl ⟨tv, ⟨tv, tv⟩⟩ rfl tv rfl ?_
        refine TL_ev env 3 rfl ⟨tv, ⟨tv, ⟨tv, tv⟩⟩⟩ ?_
        refine TL_end ?_
        refine TE_go ?_
        refine TC_ret ?_
        refine tbr ?_
        refine tsr ?_
        obtain rfl := sinj h0
        exact TE_ret env rfl tv ⟨.inr rfl, tv⟩
      · refine TL_callB [] (psalteryref04_Turn.ok1 hr) psalteryref04_Turn.fnb rfl ⟨tv, ⟨tv, tv⟩⟩ rfl tv rfl ?_
        refine TL_ev env 3 rfl ⟨tv, ⟨tv, ⟨tv, tv⟩⟩⟩ ?_
        refine TL_end ?_
        refine TE_go ?_
        refine TC_ret ?_
        refine tbr ?_
        refine tsr ?_
        obtain rfl := sinj h0
        exact TE_ret env rfl tv ⟨.inr rfl, tv⟩
    · refine TL_callB [(0, 0), (1000, 500210)] (bank_Bank_Turn.ok1 hr) bank_Bank_Turn.fnb rfl ⟨tv, ⟨tv, ⟨tv, tv⟩⟩⟩ rfl ⟨.inr rfl, tv⟩ rfl ?_
      refine TL_ev env 5 rfl ⟨tv, ⟨tv, ⟨tv, ⟨tv, ⟨tv, tv⟩⟩⟩⟩⟩ ?_
      refine TL_end ?_
      refine TE_go ?_
      refine TC_seq ?_
      refine TC_reg ?_
      refine TL_ev env 4 rfl ⟨tv, ⟨tv, ⟨tv, ⟨⟨tv, tv⟩, tv⟩⟩⟩⟩ ?_
      obtain ⟨z, hr, h0⟩ := bnd h0
      rcases z with ⟨⟩ | r91
      · refine TL_callB [] (psalteryref04_Turn.ok0 hr) psalteryref04_Turn.fnb rfl ⟨tv, ⟨tv, tv⟩⟩ rfl tv rfl ?_
        refine TL_ev env 3 rfl ⟨tv, ⟨tv, ⟨tv, tv⟩⟩⟩ ?_
        refine TL_end ?_
        refine TE_go ?_
        refine TC_ret ?_
        refine tbr ?_
        refine tsr ?_
        obtain rfl := sinj h0
        refine TE_renw (A' := [(4, .sl 1000), (5, .int .i64 0), (6, .nils)]) (L' := [(0, some (.ab (bkA _ _ _))), (1000, some (.rows (.int .i16) _))]) [(1000, 500210)] ⟨rfl, rfl, rfl, tv⟩ ⟨rfl, rfl, tv⟩ rfl ?_
        exact TE_ret env rfl tv ⟨.inr rfl, .inr rfl, tv⟩
      · refine TL_callB [] (psalteryref04_Turn.ok1 hr) psalteryref04_Turn.fnb rfl ⟨tv, ⟨tv, tv⟩⟩ rfl tv rfl ?_
        refine TL_ev env 3 rfl ⟨tv, ⟨tv, ⟨tv, tv⟩⟩⟩ ?_
        refine TL_end ?_
        refine TE_go ?_
        refine TC_ret ?_
        refine tbr ?_
        refine tsr ?_
        obtain rfl := sinj h0
        refine TE_renw (A' := [(4, .sl 1000), (5, .int .i64 0), (6, .im (.slice (.int .i16)) _)]) (L' := [(0, some (.ab (bkA _ _ _))), (1000, some (.rows (.int .i16) _))]) [(1000, 500210)] ⟨rfl, rfl, rfl, tv⟩ ⟨rfl, rfl, tv⟩ rfl ?_
        exact TE_ret env rfl tv ⟨.inr rfl, .inr rfl, tv⟩
  · replace h0 := bif_f h0 hb
    refine TC_seq ?_
    refine TC_reg ?_
    refine TL_ev env 2 rfl ⟨⟨tv, ⟨tv, tv⟩⟩, ⟨tv, tv⟩⟩ ?_
    refine TL_end ?_
    refine TE_go ?_
    refine TC_cond rfl (fun hb => ?_) (fun hb => ?_)
    · replace h0 := bif_t h0 hb
      refine TC_seq ?_
      refine TC_reg ?_
      refine TL_ev env 3 rfl ⟨tv, ⟨tv, ⟨⟨tv, tv⟩, tv⟩⟩⟩ ?_
      obtain ⟨z, hr, h0⟩ := bnd h0
      rcases z with r99 | ⟨r100, r101, r102, r103⟩
      · refine TL_callB [(0, 0)] (bank_Bank_Slope.ok0 hr) bank_Bank_Slope.fnb rfl ⟨tv, ⟨tv, ⟨tv, tv⟩⟩⟩ rfl ⟨.inr rfl, tv⟩ rfl ?_
        refine TL_ev env 5 rfl ⟨tv, ⟨tv, ⟨tv, ⟨tv, ⟨tv, tv⟩⟩⟩⟩⟩ ?_
        refine TL_end ?_
        refine TE_go ?_
        refine TC_seq ?_
        refine TC_reg ?_
        refine TL_ev env 4 rfl ⟨tv, ⟨tv, ⟨tv, ⟨⟨tv, tv⟩, tv⟩⟩⟩⟩ ?_
        obtain ⟨z, hr, h0⟩ := bnd h0
        rcases z with ⟨⟩ | r104
        · refine TL_callB [] (psalteryref04_Slope.ok0 hr) psalteryref04_Slope.fnb rfl ⟨tv, ⟨tv, tv⟩⟩ rfl tv rfl ?_
          refine TL_ev env 3 rfl ⟨tv, ⟨tv, ⟨tv, tv⟩⟩⟩ ?_
          refine TL_end ?_
          refine TE_go ?_
          refine TC_ret ?_
          refine tbr ?_
          refine tsr ?_
          obtain rfl := sinj h0
          exact TE_ret env rfl tv ⟨.inr rfl, tv⟩
        · refine TL_callB [] (psalteryref04_Slope.ok1 hr) psalteryref04_Slope.fnb rfl ⟨tv, ⟨tv, tv⟩⟩ rfl tv rfl ?_
          refine TL_ev env 3 rfl ⟨tv, ⟨tv, ⟨tv, tv⟩⟩⟩ ?_
          refine TL_end ?_
          refine TE_go ?_
          refine TC_ret ?_
          refine tbr ?_
          refine tsr ?_
          obtain rfl := sinj h0
          exact TE_ret env rfl tv ⟨.inr rfl, tv⟩
      · refine TL_callB [(0, 0), (1000, 500350)] (bank_Bank_Slope.ok1 hr) bank_Bank_Slope.fnb rfl ⟨tv, ⟨tv, ⟨tv, tv⟩⟩⟩ rfl ⟨.inr rfl, tv⟩ rfl ?_
        refine TL_ev env 5 rfl ⟨tv, ⟨tv, ⟨tv, ⟨tv, ⟨tv, tv⟩⟩⟩⟩⟩ ?_
        refine TL_end ?_
        refine TE_go ?_
        refine TC_seq ?_
        refine TC_reg ?_
        refine TL_ev env 4 rfl ⟨tv, ⟨tv, ⟨tv, ⟨⟨tv, tv⟩, tv⟩⟩⟩⟩ ?_
        obtain ⟨z, hr, h0⟩ := bnd h0
        rcases z with ⟨⟩ | r105
        · refine TL_callB [] (psalteryref04_Slope.ok0 hr) psalteryref04_Slope.fnb rfl ⟨tv, ⟨tv, tv⟩⟩ rfl tv rfl ?_
          refine TL_ev env 3 rfl ⟨tv, ⟨tv, ⟨tv, tv⟩⟩⟩ ?_
          refine TL_end ?_
          refine TE_go ?_
          refine TC_ret ?_
          refine tbr ?_
          refine tsr ?_
          obtain rfl := sinj h0
          refine TE_renw (A' := [(4, .sl 1000), (5, .int .i64 0), (6, .nils)]) (L' := [(0, some (.ab (bkA _ _ _))), (1000, some (.rows (.int .i16) _))]) [(1000, 500350)] ⟨rfl, rfl, rfl, tv⟩ ⟨rfl, rfl, tv⟩ rfl ?_
          exact TE_ret env rfl tv ⟨.inr rfl, .inr rfl, tv⟩
        · refine TL_callB [] (psalteryref04_Slope.ok1 hr) psalteryref04_Slope.fnb rfl ⟨tv, ⟨tv, tv⟩⟩ rfl tv rfl ?_
          refine TL_ev env 3 rfl ⟨tv, ⟨tv, ⟨tv, tv⟩⟩⟩ ?_
          refine TL_end ?_
          refine TE_go ?_
          refine TC_ret ?_
          refine tbr ?_
          refine tsr ?_
          obtain rfl := sinj h0
          refine TE_renw (A' := [(4, .sl 1000), (5, .int .i64 0), (6, .im (.slice (.int .i16)) _)]) (L' := [(0, some (.ab (bkA _ _ _))), (1000, some (.rows (.int .i16) _))]) [(1000, 500350)] ⟨rfl, rfl, rfl, tv⟩ ⟨rfl, rfl, tv⟩ rfl ?_
          exact TE_ret env rfl tv ⟨.inr rfl, .inr rfl, tv⟩
    · replace h0 := bif_f h0 hb
      refine TC_skip ?_
      refine tbn ?_
      refine TE_go ?_
      refine TC_seq ?_
      refine TC_reg ?_
      refine TL_ev env 3 rfl ⟨tv, ⟨tv, ⟨⟨tv, tv⟩, tv⟩⟩⟩ ?_
      obtain ⟨z, hr, h0⟩ := bnd h0
      rcases z with r106 | ⟨r107, r108, r109, r110⟩
      · refine TL_callB [(0, 0)] (bank_Bank_Filter.ok0 hr) bank_Bank_Filter.fnb rfl ⟨tv, ⟨tv, ⟨tv, tv⟩⟩⟩ rfl ⟨.inr rfl, tv⟩ rfl ?_
        refine TL_ev env 5 rfl ⟨tv, ⟨tv, ⟨tv, ⟨tv, ⟨tv, tv⟩⟩⟩⟩⟩ ?_
        refine TL_end ?_
        refine TE_go ?_
        refine TC_seq ?_
        refine TC_reg ?_
        refine TL_ev env 4 rfl ⟨tv, ⟨tv, ⟨tv, ⟨⟨tv, tv⟩, tv⟩⟩⟩⟩ ?_
        obtain ⟨z, hr, h0⟩ := bnd h0
        rcases z with ⟨⟩ | r111
        · refine TL_callB [] (psalteryref04_Filter.ok0 hr) psalteryref04_Filter.fnb rfl ⟨tv, ⟨tv, tv⟩⟩ rfl tv rfl ?_
          refine TL_ev env 3 rfl ⟨tv, ⟨tv, ⟨tv, tv⟩⟩⟩ ?_
          refine TL_end ?_
          refine TE_go ?_
          refine TC_ret ?_
          obtain rfl := sinj h0
          exact TE_ret env rfl tv ⟨.inr rfl, tv⟩
        · refine TL_callB [] (psalteryref04_Filter.ok1 hr) psalteryref04_Filter.fnb rfl ⟨tv, ⟨tv, tv⟩⟩ rfl tv rfl ?_
          refine TL_ev env 3 rfl ⟨tv, ⟨tv, ⟨tv, tv⟩⟩⟩ ?_
          refine TL_end ?_
          refine TE_go ?_
          refine TC_ret ?_
          obtain rfl := sinj h0
          exact TE_ret env rfl tv ⟨.inr rfl, tv⟩
      · refine TL_callB [(0, 0), (1000, 500470)] (bank_Bank_Filter.ok1 hr) bank_Bank_Filter.fnb rfl ⟨tv, ⟨tv, ⟨tv, tv⟩⟩⟩ rfl ⟨.inr rfl, tv⟩ rfl ?_
        refine TL_ev env 5 rfl ⟨tv, ⟨tv, ⟨tv, ⟨tv, ⟨tv, tv⟩⟩⟩⟩⟩ ?_
        refine TL_end ?_
        refine TE_go ?_
        refine TC_seq ?_
        refine TC_reg ?_
        refine TL_ev env 4 rfl ⟨tv, ⟨tv, ⟨tv, ⟨⟨tv, tv⟩, tv⟩⟩⟩⟩ ?_
        obtain ⟨z, hr, h0⟩ := bnd h0
        rcases z with ⟨⟩ | r112
        · refine TL_callB [] (psalteryref04_Filter.ok0 hr) psalteryref04_Filter.fnb rfl ⟨tv, ⟨tv, tv⟩⟩ rfl tv rfl ?_
          refine TL_ev env 3 rfl ⟨tv, ⟨tv, ⟨tv, tv⟩⟩⟩ ?_
          refine TL_end ?_
          refine TE_go ?_
          refine TC_ret ?_
          obtain rfl := sinj h0
          refine TE_renw (A' := [(4, .sl 1000), (5, .int .i64 0), (6, .nils)]) (L' := [(0, some (.ab (bkA _ _ _))), (1000, some (.rows (.int .i16) _))]) [(1000, 500470)] ⟨rfl, rfl, rfl, tv⟩ ⟨rfl, rfl, tv⟩ rfl ?_
          exact TE_ret env rfl tv ⟨.inr rfl, .inr rfl, tv⟩
        · refine TL_callB [] (psalteryref04_Filter.ok1 hr) psalteryref04_Filter.fnb rfl ⟨tv, ⟨tv, tv⟩⟩ rfl tv rfl ?_
          refine TL_ev env 3 rfl ⟨tv, ⟨tv, ⟨tv, tv⟩⟩⟩ ?_
          refine TL_end ?_
          refine TE_go ?_
          refine TC_ret ?_
          obtain rfl := sinj h0
          refine TE_renw (A' := [(4, .sl 1000), (5, .int .i64 0), (6, .im (.slice (.int .i16)) _)]) (L' := [(0, some (.ab (bkA _ _ _))), (1000, some (.rows (.int .i16) _))]) [(1000, 500470)] ⟨rfl, rfl, rfl, tv⟩ ⟨rfl, rfl, tv⟩ rfl ?_
          exact TE_ret env rfl tv ⟨.inr rfl, .inr rfl, tv⟩
theorem psalterylaw04_ask.ok0 {K : Nat} {p0 : Int} {p1 : Int} {p2 : List (Option (List (Int)))} {p3 : Int} {p4 : Int} {q0 : Int} (h0 : psalterylaw04_ask K p0 p1 p2 p3 p4 = some (.inl q0)) : Fn Try.prog 60 [.p 0 0, .agg [.int .i64 p0, .int .i64 p1]] [(0, some (.ab (bkA p2 p3 p4)))] (.tup [.nils, .int .i64 q0, .nils]) [(0, some (.ab (bkA p2 p3 p4)))] := psalterylaw04_ask.ok h0
theorem psalterylaw04_ask.ok1 {K : Nat} {p0 : Int} {p1 : Int} {p2 : List (Option (List (Int)))} {p3 : Int} {p4 : Int} {q0 : Int} {q1 : List (Int)} (h0 : psalterylaw04_ask K p0 p1 p2 p3 p4 = some (.inr (.inl (q0, q1)))) : Fn Try.prog 60 [.p 0 0, .agg [.int .i64 p0, .int .i64 p1]] [(0, some (.ab (bkA p2 p3 p4)))] (.tup [.nils, .int .i64 q0, .im (.slice (.int .i16)) q1]) [(0, some (.ab (bkA p2 p3 p4)))] := psalterylaw04_ask.ok h0
theorem psalterylaw04_ask.ok2 {K : Nat} {p0 : Int} {p1 : Int} {p2 : List (Option (List (Int)))} {p3 : Int} {p4 : Int} {q0 : List (Option (List (Int)))} {q1 : Int} {q2 : Int} {q3 : List (Int)} (h0 : psalterylaw04_ask K p0 p1 p2 p3 p4 = some (.inr (.inr (.inl (q0, q1, q2, q3))))) : Fn Try.prog 60 [.p 0 0, .agg [.int .i64 p0, .int .i64 p1]] [(0, some (.ab (bkA p2 p3 p4)))] (.tup [.sl 1000, .int .i64 0, .nils]) [(0, some (.ab (bkA q0 q1 q2))), (1000, some (.rows (.int .i16) q3))] := psalterylaw04_ask.ok h0
theorem psalterylaw04_ask.ok3 {K : Nat} {p0 : Int} {p1 : Int} {p2 : List (Option (List (Int)))} {p3 : Int} {p4 : Int} {q0 : List (Int)} {q1 : List (Option (List (Int)))} {q2 : Int} {q3 : Int} {q4 : List (Int)} (h0 : psalterylaw04_ask K p0 p1 p2 p3 p4 = some (.inr (.inr (.inr (q0, q1, q2, q3, q4))))) : Fn Try.prog 60 [.p 0 0, .agg [.int .i64 p0, .int .i64 p1]] [(0, some (.ab (bkA p2 p3 p4)))] (.tup [.sl 1000, .int .i64 0, .im (.slice (.int .i16)) q0]) [(0, some (.ab (bkA q1 q2 q3))), (1000, some (.rows (.int .i16) q4))] := psalterylaw04_ask.ok h0
theorem psalterylaw04_ask.fnb : fnb Try.prog 60 = true := fnb_of Try.func60 rfl
def psalteryref04_Same_3.res  : Unit → MV
  | () => .bool true
def psalteryref04_Same_3.out  : Unit → List (Nat × Option MObj)
  | () => []
theorem psalteryref04_Same_3.ok {K : Nat}  {r : Unit} (h0 : psalteryref04_Same_3 K  = some r) : Fn Try.prog 61 [.nils, .nils] [] (psalteryref04_Same_3.res  r) (psalteryref04_Same_3.out  r) := by
  refine Fn_of Try.func61 rfl (Nat.le_of_ble_eq_true rfl) fun Γ => ?_
  unfold psalteryref04_Same_3 at h0
  refine TC_seq ?_
  refine TC_reg ?_
  refine TL_ev env 1 rfl ⟨tv, tv⟩ ?_
  refine TL_end ?_
  refine TE_go ?_
  refine TC_seq ?_
  refine TC_seq ?_
  refine TC_reg ?_
  refine TL_ev env 5 rfl ⟨tv, ⟨⟨tv, tv⟩, ⟨tv, ⟨⟨tv, tv⟩, ⟨⟨tv, ⟨tv, tv⟩⟩, tv⟩⟩⟩⟩⟩ ?_
  refine TL_end ?_
  refine TE_go ?_
  refine TC_cond rfl (fun hb => ?_) (fun hb => ?_)
  · first | exact (ftf hb).elim | exact (tff hb).elim | exact absurd hb (by decide)
  · refine TC_skip ?_
    refine TE_go ?_
    refine TC_seq ?_
    refine TC_seq ?_
    refine TC_reg ?_
    refine TL_ev env 1 rfl ⟨tv, tv⟩ ?_
    refine TL_end ?_
    refine TE_go ?_
    obtain ⟨z1, h1, h0⟩ := bnd h0
    refine TC_cut (α := Unit) (fun _ => z1 = ()) (fun _ => []) (fun _ => []) ?_ ?_
    · refine TC_blk ?_
      refine TC_loop (α := Unit) (fun n _ => psalteryref04_Same_3.l0 K n = some z1) (fun _ => [(0, .nils), (1, .nils), (5, .int .i64 0)]) (fun _ => []) K ?_ ?_
      · exact SP_ren [] () h1 ⟨rfl, rfl, rfl, tv⟩ tv rfl
      rintro n ⟨⟩ h1
      rcases n with _ | n
      · exact (nsome h1).elim
      replace h1 : psalteryref04_Same_3.r0 K (psalteryref04_Same_3.l0 K n)  = some z1 := h1
      refine TC_seq ?_
      refine TC_seq ?_
      refine TC_reg ?_
      refine TL_ev env 4 rfl ⟨tv, ⟨tv, ⟨⟨tv, tv⟩, ⟨⟨tv, ⟨tv, tv⟩⟩, tv⟩⟩⟩⟩ ?_
      refine TL_end ?_
      refine TE_go ?_
      refine TC_cond rfl (fun hb => ?_) (fun hb => ?_)
      · first | exact (ftf hb).elim | exact (tff hb).elim | exact absurd hb (by decide)
      · refine TC_exit ?_
        refine tsx ?_
        refine tsx ?_
        refine tbe ?_
        obtain rfl := sinj h1
        refine tsn ?_
        exact SP_ren [] () rfl tv tv rfl
    · rintro ⟨⟩ rfl
      refine TE_go ?_
      refine TC_seq ?_
      refine TC_reg ?_
      refine TL_ev env 1 rfl ⟨tv, tv⟩ ?_
      refine TL_end ?_
      refine TE_go ?_
      refine TC_ret ?_
      obtain rfl := sinj h0
      exact TE_ret env rfl tv tv
theorem psalteryref04_Same_3.ok0 {K : Nat}   (h0 : psalteryref04_Same_3 K  = some ()) : Fn Try.prog 61 [.nils, .nils] [] (.bool true) [] := psalteryref04_Same_3.ok h0
theorem psalteryref04_Same_3.fnb : fnb Try.prog 61 = true := fnb_of Try.func61 rfl
def psalteryref04_Same_4.res (_p0 : List (Int)) : Bool → MV
  | q0 => .bool q0
def psalteryref04_Same_4.out (_p0 : List (Int)) : Bool → List (Nat × Option MObj)
  | _ => []
theorem psalteryref04_Same_4.ok {K : Nat} {p0 : List (Int)} {r : Bool} (h0 : psalteryref04_Same_4 K p0 = some r) : Fn Try.prog 61 [.im (.slice (.int .i16)) p0, .nils] [] (psalteryref04_Same_4.res p0 r) (psalteryref04_Same_4.out p0 r) := by
  refine Fn_of Try.func61 rfl (Nat.le_of_ble_eq_true rfl) fun Γ => ?_
  refine TC_seq ?_
  refine TC_reg ?_
  refine TL_ev env 1 rfl ⟨tv, tv⟩ ?_
  refine TL_end ?_
  refine TE_go ?_
  refine TC_seq ?_
  refine TC_seq ?_
  refine TC_reg ?_
  refine TL_ev env 5 rfl ⟨tv, ⟨⟨tv, tv⟩, ⟨tv, ⟨⟨tv, tv⟩, ⟨⟨tv, ⟨tv, tv⟩⟩, tv⟩⟩⟩⟩⟩ ?_
  refine TL_end ?_
  refine TE_go ?_
  refine TC_cond rfl (fun hb => ?_) (fun hb => ?_)
  · replace h0 := bif_t h0 hb
    refine TC_seq ?_
    refine TC_reg ?_
    refine TL_ev env 1 rfl ⟨tv, tv⟩ ?_
    refine TL_end ?_
    refine TE_go ?_
    refine TC_ret ?_
    refine tsr ?_
    obtain rfl := sinj h0
    exact TE_ret env rfl tv tv
  · replace h0 := bif_f h0 hb
    refine TC_skip ?_
    refine TE_go ?_
    refine TC_seq ?_
    refine TC_seq ?_
    refine TC_reg ?_
    refine TL_ev env 1 rfl ⟨tv, tv⟩ ?_
    refine TL_end ?_
    refine TE_go ?_
    obtain ⟨z1, h1, h0⟩ := bnd h0
    refine TC_cut (α := Unit) (fun _ => z1 = ()) (fun _ => []) (fun _ => []) ?_ ?_
    · refine TC_blk ?_
      refine TC_loop (α := Unit) (fun n _ => psalteryref04_Same_4.l0 K p0 n = some z1) (fun _ => [(0, .im (.slice (.int .i16)) p0), (1, .nils), (5, .int .i64 0)]) (fun _ => []) K ?_ ?_
      · exact SP_ren [] () h1 ⟨rfl, rfl, rfl, tv⟩ tv rfl
      rintro n ⟨⟩ h1
      rcases n with _ | n
      · exact (nsome h1).elim
      replace h1 : psalteryref04_Same_4.r0 K p0 (psalteryref04_Same_4.l0 K p0 n)  = some z1 := h1
      refine TC_seq ?_
      refine TC_seq ?_
      refine TC_reg ?_
      refine TL_ev env 4 rfl ⟨tv, ⟨tv, ⟨⟨tv, tv⟩, ⟨⟨tv, ⟨tv, tv⟩⟩, tv⟩⟩⟩⟩ ?_
      refine TL_end ?_
      refine TE_go ?_
      refine TC_cond rfl (fun hb => ?_) (fun hb => ?_)
      · replace h1 := bif_t h1 hb
        refine TC_skip ?_
        refine TE_go ?_
        refine TC_seq ?_
        refine TC_blk ?_
        refine TC_seq ?_
        refine TC_renw (A' := [(0, .im (.slice (.int .i16)) _), (1, .nils), (5, .int .i64 0)]) (L' := []) [] ⟨rfl, rfl, rfl, tv⟩ tv rfl ?_
        refine TC_drawR ⟨_, fun i => ([[], [], [1, 0], [2, 1, 0], [], [], [5, 4], [6, 5, 4], [7, 6, 5, 4, 3, 2, 1, 0]] : List (List Nat)).getD i [], fun i => ([[], [], [], [], [], [], [], [], []] : List (List Nat)).getD i [], fun i => ([[], [], [], [], [], [], [], [], []] : List (List Nat)).getD i []⟩ (fun i => ([[], [], [], [], [], [], [], [], []] : List (List Nat)).getD i []) (by kernel_rfl) (by kernel_rfl) ?_
        obtain ⟨g, h1⟩ := gd_t h1
        exact (nsome h1).elim
      · replace h1 := bif_f h1 hb
        refine TC_exit ?_
        refine tsx ?_
        refine tsx ?_
        refine tbe ?_
        obtain rfl := sinj h1
        refine tsn ?_
        exact SP_ren [] () rfl tv tv rfl
    · rintro ⟨⟩ rfl
      refine TE_go ?_
      refine TC_seq ?_
      refine TC_reg ?_
      refine TL_ev env 1 rfl ⟨tv, tv⟩ ?_
      refine TL_end ?_
      refine TE_go ?_
      refine TC_ret ?_
      obtain rfl := sinj h0
      exact TE_ret env rfl tv tv
theorem psalteryref04_Same_4.ok0 {K : Nat} {p0 : List (Int)} {q0 : Bool} (h0 : psalteryref04_Same_4 K p0 = some q0) : Fn Try.prog 61 [.im (.slice (.int .i16)) p0, .nils] [] (.bool q0) [] := psalteryref04_Same_4.ok h0
theorem psalteryref04_Same_4.fnb : fnb Try.prog 61 = true := fnb_of Try.func61 rfl
def psalterylaw04_BankOnce.res (_p0 : List ((Int × Int))) (_p1 : Int) (_p2 : Int) : Bool → MV
  | q0 => .bool q0
def psalterylaw04_BankOnce.out (_p0 : List ((Int × Int))) (_p1 : Int) (_p2 : Int) : Bool → List (Nat × Option MObj)
  | _ => []
theorem psalterylaw04_BankOnce.ok {K : Nat} {p0 : List ((Int × Int))} {p1 : Int} {p2 : Int} {r : Bool} (h0 : psalterylaw04_BankOnce K p0 p1 p2 = some r) : Fn Try.prog 14 [.im (.slice (.pair (.int .i64) (.int .i64))) p0, .agg [.int .i64 p1, .int .i64 p2]] [] (psalterylaw04_BankOnce.res p0 p1 p2 r) (psalterylaw04_BankOnce.out p0 p1 p2 r) := by
  refine Fn_of Try.func14 rfl (Nat.le_of_ble_eq_true rfl) fun Γ => ?_
  refine TC_seq ?_
  refine TC_reg ?_
  refine TL_ev env 2 rfl ⟨tv, ⟨tv, tv⟩⟩ ?_
  refine TL_end ?_
  refine TE_go ?_
  refine TC_seq ?_
  refine TC_seq ?_
  refine TC_reg ?_
  obtain ⟨r204, hr, h0⟩ := bnd h0
  refine TL_callB [] (psalterylaw04_alive.ok0 hr) psalterylaw04_alive.fnb rfl ⟨tv, tv⟩ rfl tv rfl ?_
  refine TL_ev env 1 rfl ⟨tv, tv⟩ ?_
  refine TL_end ?_
  refine TE_go ?_
  refine TC_cond rfl (fun hb => ?_) (fun hb => ?_)
  · replace h0 := bif_t h0 hb
    refine TC_seq ?_
    refine TC_reg ?_
    refine TL_ev env 1 rfl ⟨tv, tv⟩ ?_
    refine TL_end ?_
    refine TE_go ?_
    refine TC_ret ?_
    refine tsr ?_
    obtain rfl := sinj h0
    exact TE_ret env rfl tv tv
  · replace h0 := bif_f h0 hb
    refine TC_skip ?_
    refine TE_go ?_
    refine TC_seq ?_
    refine TC_seq ?_
    refine TC_reg ?_
    refine TL_ev env 3 rfl ⟨tv, ⟨⟨tv, tv⟩, ⟨⟨tv, ⟨tv, tv⟩⟩, tv⟩⟩⟩ ?_
    refine TL_end ?_
    refine TE_go ?_
    refine TC_cond rfl (fun hb => ?_) (fun hb => ?_)
    · replace h0 := bif_t h0 hb
      refine TC_seq ?_
      refine TC_reg ?_
      refine TL_ev env 1 rfl ⟨tv, tv⟩ ?_
      refine TL_end ?_
      refine TE_go ?_
      refine TC_ret ?_
      refine tsr ?_
      obtain rfl := sinj h0
      exact TE_ret env rfl tv tv
    · replace h0 := bif_f h0 hb
      refine TC_skip ?_
      refine TE_go ?_
      refine TC_seq ?_
      refine TC_reg ?_
      obtain ⟨⟨⟩, hr, h0⟩ := bnd h0
      refine TL_callB [(1000, 500280)] (bank_New.ok0 hr) bank_New.fnb rfl ⟨tv, tv⟩ rfl tv rfl ?_
      obtain ⟨⟨⟩, hr, h0⟩ := bnd h0
      refine TL_callB [(1000, 500290)] (bank_New.ok0 hr) bank_New.fnb rfl ⟨tv, tv⟩ rfl tv rfl ?_
      refine TL_ev env 2 rfl ⟨tv, ⟨tv, tv⟩⟩ ?_
      refine TL_end ?_
      refine TE_go ?_
      refine TC_seq ?_
      refine TC_reg ?_
      refine TL_ev env 2 rfl ⟨tv, ⟨⟨tv, tv⟩, tv⟩⟩ ?_
      obtain ⟨z, hr, h0⟩ := bnd h0
      rcases z with r206 | ⟨r207, r208⟩ | ⟨r209, r210, r211, r212⟩ | ⟨r213, r214, r215, r216, r217⟩
      · refine TL_callB [(0, 500290)] (psalterylaw04_ask.ok0 hr) psalterylaw04_ask.fnb rfl ⟨tv, ⟨tv, ⟨tv, tv⟩⟩⟩ rfl ⟨.inr rfl, tv⟩ rfl ?_
        refine TL_ev env 7 rfl ⟨tv, ⟨tv, ⟨tv, ⟨tv, ⟨tv, ⟨tv, ⟨tv, tv⟩⟩⟩⟩⟩⟩⟩ ?_
        refine TL_end ?_
        refine TE_go ?_
        refine TC_seq ?_
        refine TC_seq ?_
        refine TC_reg ?_
        refine TL_ev env 1 rfl ⟨tv, tv⟩ ?_
        refine TL_end ?_
        refine TE_go ?_
        obtain ⟨z1, h1, h0⟩ := bnd h0
        refine TC_cut (α := (List (Option (List (Int)))) × Int × Int) (fun s => z1 = s) (fun s => [(3, .p 16800 0), (5, .p 16801 0), (7, .nils), (8, .int .i64 r206)]) (fun s => [(16800, some (.cells [.int .i64 p1, .int .i64 p2])), (16801, some (.ab (bkA s.1 s.2.1 s.2.2)))]) ?_ ?_
        · refine TC_blk ?_
          refine TC_loop (α := Int × (List (Option (List (Int)))) × Int × Int) (fun n s => psalterylaw04_BankOnce.l0 K p0 r206 p1 p2 n s.1 s.2.1 s.2.2.1 s.2.2.2 = some z1) (fun s => [(0, .im (.slice (.pair (.int .i64) (.int .i64))) p0), (3, .p 18200 0), (5, .p 18201 0), (7, .nils), (8, .int .i64 r206), (10, .int .i64 s.1)]) (fun s => [(18200, some (.cells [.int .i64 p1, .int .i64 p2])), (18201, some (.ab (bkA s.2.1 s.2.2.1 s.2.2.2)))]) K ?_ ?_
          · exact SP_ren [(18200, 1003), (18201, 500280)] (_, _, _, _) h1 ⟨rfl, rfl, rfl, rfl, rfl, rfl, tv⟩ ⟨rfl, rfl, tv⟩ rfl
          rintro n ⟨x358, x359, x360, x361⟩ h1
          rcases n with _ | n
          · exact (nsome h1).elim
          replace h1 : psalterylaw04_BankOnce.r0 K p0 r206 p1 p2 (psalterylaw04_BankOnce.l0 K p0 r206 p1 p2 n) x358 x359 x360 x361 = some z1 := h1
          refine TC_seq ?_
          refine TC_seq ?_
          refine TC_reg ?_
          refine TL_ev env 4 rfl ⟨tv, ⟨tv, ⟨⟨tv, tv⟩, ⟨⟨tv, ⟨tv, tv⟩⟩, tv⟩⟩⟩⟩ ?_
          refine TL_end ?_
          refine TE_go ?_
          refine TC_cond rfl (fun hb => ?_) (fun hb => ?_)
          · replace h1 := bif_t h1 hb
            refine TC_skip ?_
            refine TE_go ?_
            refine TC_seq ?_
            obtain ⟨z2, h2, h1⟩ := bnd h1
            refine TC_cut (α := (List (Option (List (Int)))) × Int × Int) (fun s => z2 = s) (fun s => [(0, .im (.slice (.pair (.int .i64) (.int .i64))) p0), (3, .p 19900 0), (5, .p 19901 0), (7, .nils), (8, .int .i64 r206), (10, .int .i64 x358)]) (fun s => [(19900, some (.cells [.int .i64 p1, .int .i64 p2])), (19901, some (.ab (bkA s.1 s.2.1 s.2.2)))]) ?_ ?_
            · refine TC_blk ?_
              refine TC_seq ?_
              refine TC_reg ?_
              obtain ⟨g, h2⟩ := gd_t h2
              refine TL_ev env 5 rfl ⟨tv, ⟨tv, ⟨tv, ⟨⟨tv, ⟨tv, ⟨g.1, g.2⟩⟩⟩, ⟨⟨tv, tv⟩, tv⟩⟩⟩⟩⟩ ?_
              obtain ⟨z, hr, h2⟩ := bnd h2
              rcases z with r407 | ⟨r408, r409⟩ | ⟨r410, r411, r412, r413⟩ | ⟨r414, r415, r416, r417, r418⟩
              · refine TL_callB [(0, 18201)] (psalterylaw04_ask.ok0 hr) psalterylaw04_ask.fnb rfl ⟨tv, ⟨tv, ⟨tv, tv⟩⟩⟩ rfl ⟨.inr rfl, tv⟩ rfl ?_
                refine TL_ev env 7 rfl ⟨tv, ⟨tv, ⟨tv, ⟨tv, ⟨tv, ⟨tv, ⟨tv, tv⟩⟩⟩⟩⟩⟩⟩ ?_
                refine TL_end ?_
                refine TE_go ?_
                refine TC_seq ?_
                refine TC_reg ?_
                refine TL_ev env 1 rfl ⟨tv, tv⟩ ?_
                refine TL_end ?_
                refine TE_go ?_
                obtain ⟨z3, h3, h2⟩ := bnd h2
                refine TC_cut (α := Unit) (fun _ => z3 = ()) (fun _ => [(0, .im (.slice (.pair (.int .i64) (.int .i64))) p0), (3, .p 20200 0), (5, .p 20201 0), (7, .nils), (8, .int .i64 r206), (10, .int .i64 x358)]) (fun _ => [(20200, some (.cells [.int .i64 p1, .int .i64 p2])), (20201, some (.ab (bkA x359 x360 x361)))]) ?_ ?_
                · refine TC_blk ?_
                  refine TC_loop (α := Unit) (fun n _ => psalterylaw04_BankOnce.l1 K p0 r206 x358 p1 p2 x359 x360 x361 n = some z3) (fun _ => [(0, .im (.slice (.pair (.int .i64) (.int .i64))) p0), (3, .p 20300 0), (5, .p 20301 0), (7, .nils), (8, .int .i64 r206), (10, .int .i64 x358), (11, .nils), (14, .int .i64 0)]) (fun _ => [(20300, some (.cells [.int .i64 p1, .int .i64 p2])), (20301, some (.ab (bkA x359 x360 x361)))]) K ?_ ?_
                  · exact SP_ren [(20300, 18200), (20301, 18201)] () h3 ⟨rfl, rfl, rfl, rfl, rfl, rfl, rfl, rfl, tv⟩ ⟨rfl, rfl, tv⟩ rfl
                  rintro n ⟨⟩ h3
                  rcases n with _ | n
                  · exact (nsome h3).elim
                  replace h3 : psalterylaw04_BankOnce.r1 K p0 r206 x358 p1 p2 x359 x360 x361 (psalterylaw04_BankOnce.l1 K p0 r206 x358 p1 p2 x359 x360 x361 n)  = some z3 := h3
                  refine TC_seq ?_
                  refine TC_seq ?_
                  refine TC_reg ?_
                  refine TL_ev env 4 rfl ⟨tv, ⟨tv, ⟨⟨tv, tv⟩, ⟨⟨tv, ⟨tv, tv⟩⟩, tv⟩⟩⟩⟩ ?_
                  refine TL_end ?_
                  refine TE_go ?_
                  refine TC_cond rfl (fun hb => ?_) (fun hb => ?_)
                  · first | exact (ftf hb).elim | exact (tff hb).elim | exact absurd hb (by decide)
                  · refine TC_exit ?_
                    refine tsx ?_
                    refine tsx ?_
                    refine tbe ?_
                    obtain rfl := sinj h3
                    refine tsn ?_
                    exact SP_ren [(20200, 20300), (20201, 20301)] () rfl ⟨rfl, rfl, rfl, rfl, rfl, rfl, tv⟩ ⟨rfl, rfl, tv⟩ rfl
                · rintro ⟨⟩ rfl
                  refine tbn ?_
                  obtain rfl := sinj h2
                  refine tsn ?_
                  exact SP_ren [(19900, 20200), (19901, 20201)] (_, _, _) rfl ⟨rfl, rfl, rfl, rfl, rfl, rfl, tv⟩ ⟨rfl, rfl, tv⟩ rfl
              · exact (nsome h2).elim
              · exact (nsome h2).elim
              · refine TL_callB [(0, 18201), (1000, 500490)] (psalterylaw04_ask.ok3 hr) psalterylaw04_ask.fnb rfl ⟨tv, ⟨tv, ⟨tv, tv⟩⟩⟩ rfl ⟨.inr rfl, tv⟩ rfl ?_
                refine TL_ev env 7 rfl ⟨tv, ⟨tv, ⟨tv, ⟨tv, ⟨tv, ⟨tv, ⟨tv, tv⟩⟩⟩⟩⟩⟩⟩ ?_
                refine TL_end ?_
                refine TE_go ?_
                refine TC_seq ?_
                refine TC_reg ?_
                refine TL_ev env 1 rfl ⟨tv, tv⟩ ?_
                refine TL_end ?_
                refine TE_go ?_
                obtain ⟨z3, h3, h2⟩ := bnd h2
                refine TC_cut (α := Unit) (fun _ => z3 = ()) (fun _ => [(0, .im (.slice (.pair (.int .i64) (.int .i64))) p0), (3, .p 20800 0), (5, .p 20801 0), (7, .nils), (8, .int .i64 r206), (10, .int .i64 x358)]) (fun _ => [(20800, some (.cells [.int .i64 p1, .int .i64 p2])), (20801, some (.ab (bkA r415 r416 r417)))]) ?_ ?_
                · refine TC_blk ?_
                  refine TC_loop (α := Int × (List (Int))) (fun n s => psalterylaw04_BankOnce.l2 K p0 r206 x358 p1 p2 r415 r416 r417 n s.1 s.2 = some z3) (fun s => [(0, .im (.slice (.pair (.int .i64) (.int .i64))) p0), (3, .p 21000 0), (5, .p 21001 0), (7, .nils), (8, .int .i64 r206), (10, .int .i64 x358), (11, .sl 21002), (14, .int .i64 s.1)]) (fun s => [(21000, some (.cells [.int .i64 p1, .int .i64 p2])), (21001, some (.ab (bkA r415 r416 r417))), (21002, some (.rows (.int .i16) s.2))]) K ?_ ?_
                  · exact SP_ren [(21000, 18200), (21001, 18201), (21002, 500490)] (_, _) h3 ⟨rfl, rfl, rfl, rfl, rfl, rfl, rfl, rfl, tv⟩ ⟨rfl, rfl, rfl, tv⟩ rfl
                  rintro n ⟨x423, x424⟩ h3
                  rcases n with _ | n
                  · exact (nsome h3).elim
                  replace h3 : psalterylaw04_BankOnce.r2 K p0 r206 x358 p1 p2 r415 r416 r417 (psalterylaw04_BankOnce.l2 K p0 r206 x358 p1 p2 r415 r416 r417 n) x423 x424 = some z3 := h3
                  refine TC_seq ?_
                  refine TC_seq ?_
                  refine TC_reg ?_
                  refine TL_ev env 4 rfl ⟨tv, ⟨tv, ⟨⟨tv, tv⟩, ⟨⟨tv, ⟨tv, tv⟩⟩, tv⟩⟩⟩⟩ ?_
                  refine TL_end ?_
                  refine TE_go ?_
                  refine TC_cond rfl (fun hb => ?_) (fun hb => ?_)
                  · replace h3 := bif_t h3 hb
                    refine TC_skip ?_
                    refine TE_go ?_
                    refine TC_seq ?_
                    refine TC_blk ?_
                    refine TC_reg ?_
                    obtain ⟨g, h3⟩ := gd_t h3
                    refine TL_ev env 4 rfl ⟨tv, ⟨tv, ⟨⟨tv, ⟨tv, ⟨g.1, g.2.1⟩⟩⟩, ⟨⟨tv, ⟨tv, g.2.2⟩⟩, tv⟩⟩⟩⟩ ?_
                    refine TL_end ?_
                    refine tbn ?_
                    refine TE_go ?_
                    refine TC_reg ?_
                    refine TL_ev env 3 rfl ⟨tv, ⟨⟨tv, ⟨tv, tv⟩⟩, ⟨tv, tv⟩⟩⟩ ?_
                    refine TL_end ?_
                    refine tsn ?_
                    exact TE_nextr [(21000, 21000), (21001, 21001), (21002, 21002)] n (Nat.lt_succ_self n) (_, _) h3 ⟨rfl, rfl, rfl, rfl, rfl, rfl, rfl, rfl, tv⟩ ⟨rfl, rfl, rfl, tv⟩ rfl
                  · replace h3 := bif_f h3 hb
                    refine TC_exit ?_
                    refine tsx ?_
                    refine tsx ?_
                    refine tbe ?_
                    obtain rfl := sinj h3
                    refine tsn ?_
                    exact SP_ren [(20800, 21000), (20801, 21001)] () rfl ⟨rfl, rfl, rfl, rfl, rfl, rfl, tv⟩ ⟨rfl, rfl, tv⟩ rfl
                · rintro ⟨⟩ rfl
                  refine tbn ?_
                  obtain rfl := sinj h2
                  refine tsn ?_
                  exact SP_ren [(19900, 20800), (19901, 20801)] (_, _, _) rfl ⟨rfl, rfl, rfl, rfl, rfl, rfl, tv⟩ ⟨rfl, rfl, tv⟩ rfl
            · rintro ⟨x402, x403, x404⟩ rfl
              refine TE_go ?_
              refine TC_reg ?_
              refine TL_ev env 3 rfl ⟨tv, ⟨⟨tv, ⟨tv, tv⟩⟩, ⟨tv, tv⟩⟩⟩ ?_
              refine TL_end ?_
              refine tsn ?_
              exact TE_nextr [(18200, 19900), (18201, 19901)] n (Nat.lt_succ_self n) (_, _, _, _) h1 ⟨rfl, rfl, rfl, rfl, rfl, rfl, tv⟩ ⟨rfl, rfl, tv⟩ rfl
          · replace h1 := bif_f h1 hb
            refine TC_exit ?_
            refine tsx ?_
            refine tsx ?_
            refine tbe ?_
            obtain rfl := sinj h1
            refine tsn ?_
            exact SP_ren [(16800, 18200), (16801, 18201)] (_, _, _) rfl ⟨rfl, rfl, rfl, rfl, tv⟩ ⟨rfl, rfl, tv⟩ rfl
        · rintro ⟨x264, x265, x266⟩ rfl
          refine TE_go ?_
          refine TC_seq ?_
          refine TC_reg ?_
          refine TL_ev env 1 rfl ⟨tv, tv⟩ ?_
          obtain ⟨⟨⟩, hr, h0⟩ := bnd h0
          refine TL_callB [(0, 16801)] (bank_Bank_Made.ok0 hr) bank_Bank_Made.fnb rfl ⟨tv, ⟨tv, tv⟩⟩ rfl ⟨.inr rfl, tv⟩ rfl ?_
          refine TL_ev env 1 rfl ⟨tv, tv⟩ ?_
          refine TL_end ?_
          refine TE_go ?_
          refine TC_seq ?_
          refine TC_reg ?_
          refine TL_ev env 2 rfl ⟨tv, ⟨⟨tv, tv⟩, tv⟩⟩ ?_
          obtain ⟨z, hr, h0⟩ := bnd h0
          rcases z with r267 | ⟨r268, r269⟩ | ⟨r270, r271, r272, r273⟩ | ⟨r274, r275, r276, r277, r278⟩
          · refine TL_callB [(0, 16801)] (psalterylaw04_ask.ok0 hr) psalterylaw04_ask.fnb rfl ⟨tv, ⟨tv, ⟨tv, tv⟩⟩⟩ rfl ⟨.inr rfl, tv⟩ rfl ?_
            refine TL_ev env 7 rfl ⟨tv, ⟨tv, ⟨tv, ⟨tv, ⟨tv, ⟨tv, ⟨tv, tv⟩⟩⟩⟩⟩⟩⟩ ?_
            refine TL_end ?_
            refine TE_go ?_
            refine TC_seq ?_
            refine TC_reg ?_
            refine TL_ev env 1 rfl ⟨tv, tv⟩ ?_
            obtain ⟨⟨⟩, hr, h0⟩ := bnd h0
            refine TL_callB [(0, 16801)] (bank_Bank_Made.ok0 hr) bank_Bank_Made.fnb rfl ⟨tv, ⟨tv, tv⟩⟩ rfl ⟨.inr rfl, tv⟩ rfl ?_
            refine TL_ev env 1 rfl ⟨tv, tv⟩ ?_
            refine TL_end ?_
            refine TE_go ?_
            refine TC_seq ?_
            refine TC_reg ?_
            refine TL_ev env 2 rfl ⟨tv, ⟨⟨tv, tv⟩, tv⟩⟩ ?_
            obtain ⟨z, hr, h0⟩ := bnd h0
            rcases z with r279 | ⟨r280, r281⟩ | ⟨r282, r283, r284, r285⟩ | ⟨r286, r287, r288, r289, r290⟩
            · refine TL_callB [(0, 16801)] (psalterylaw04_ask.ok0 hr) psalterylaw04_ask.fnb rfl ⟨tv, ⟨tv, ⟨tv, tv⟩⟩⟩ rfl ⟨.inr rfl, tv⟩ rfl ?_
              refine TL_ev env 7 rfl ⟨tv, ⟨tv, ⟨tv, ⟨tv, ⟨tv, ⟨tv, ⟨tv, tv⟩⟩⟩⟩⟩⟩⟩ ?_
              refine TL_end ?_
              refine TE_go ?_
              refine TC_seq ?_
              obtain ⟨z1, h1, h0⟩ := bnd h0
              refine TC_cut (α := Bool) (fun s => z1 = s) (fun s => [(4, .bool s)]) (fun s => []) ?_ ?_
              · refine TC_reg ?_
                refine TL_ev env 9 rfl ⟨tv, ⟨tv, ⟨⟨tv, ⟨tv, tv⟩⟩, ⟨tv, ⟨fun eg => tv, ⟨fun eg => tv, ⟨fun eg => ⟨fun e => e, ⟨fun e => e, tv⟩⟩, ⟨⟨tv, ⟨fun e => e, tv⟩⟩, ⟨tv, tv⟩⟩⟩⟩⟩⟩⟩⟩⟩ ?_
                refine TL_split 88 rfl (fun hb => ?_) (fun hb => ?_)
                · replace h1 := bif_t h1 hb
                  refine TL_gt rfl rfl rfl rfl ?_
                  refine TL_ev env 1 rfl ⟨tv, tv⟩ ?_
                  refine TL_gt rfl rfl rfl rfl ?_
                  refine TL_ev env 1 rfl ⟨tv, tv⟩ ?_
                  refine TL_gt rfl rfl rfl rfl ?_
                  obtain ⟨⟨⟩, hr, h1⟩ := bnd h1
                  refine TL_callB [] (psalteryref04_Same_3.ok0 hr) psalteryref04_Same_3.fnb rfl ⟨tv, ⟨tv, ⟨tv, tv⟩⟩⟩ rfl tv rfl ?_
                  refine TL_ev env 2 rfl ⟨⟨tv, ⟨tv, tv⟩⟩, ⟨tv, tv⟩⟩ ?_
                  refine TL_gt rfl rfl rfl rfl ?_
                  refine TL_ev env 1 rfl ⟨tv, tv⟩ ?_
                  refine TL_gt rfl rfl rfl rfl ?_
                  refine TL_ev env 1 rfl ⟨tv, tv⟩ ?_
                  refine TL_gt rfl rfl rfl rfl ?_
                  obtain ⟨⟨⟩, hr, h1⟩ := bnd h1
                  refine TL_callB [] (psalteryref04_Same_3.ok0 hr) psalteryref04_Same_3.fnb rfl ⟨tv, ⟨tv, ⟨tv, tv⟩⟩⟩ rfl tv rfl ?_
                  refine TL_ev env 2 rfl ⟨⟨tv, ⟨tv, tv⟩⟩, ⟨tv, tv⟩⟩ ?_
                  refine TL_gt rfl rfl rfl rfl ?_
                  refine TL_ev env 1 rfl ⟨tv, tv⟩ ?_
                  refine TL_gt rfl rfl rfl rfl ?_
                  refine TL_ev env 1 rfl ⟨tv, tv⟩ ?_
                  refine TL_gt rfl rfl rfl rfl ?_
                  refine TL_ev env 1 rfl ⟨⟨tv, ⟨tv, tv⟩⟩, tv⟩ ?_
                  refine TL_gt rfl rfl rfl rfl ?_
                  refine TL_ev env 3 rfl ⟨⟨tv, ⟨tv, tv⟩⟩, ⟨⟨tv, ⟨tv, tv⟩⟩, ⟨tv, tv⟩⟩⟩ ?_
                  refine TL_split 104 rfl (fun hb => ?_) (fun hb => ?_)
                  · replace h1 := bif_t h1 hb
                    refine TL_gt rfl rfl rfl rfl ?_
                    refine TL_ev env 1 rfl ⟨tv, tv⟩ ?_
                    refine TL_gt rfl rfl rfl rfl ?_
                    obtain ⟨⟨⟩, hr, h1⟩ := bnd h1
                    refine TL_callB [(0, 16801)] (bank_Bank_Made.ok0 hr) bank_Bank_Made.fnb rfl ⟨tv, ⟨tv, tv⟩⟩ rfl ⟨.inr rfl, tv⟩ rfl ?_
                    refine TL_gt rfl rfl rfl rfl ?_
                    refine TL_ev env 1 rfl ⟨tv, tv⟩ ?_
                    refine TL_gt rfl rfl rfl rfl ?_
                    refine TL_ev env 3 rfl ⟨⟨tv, ⟨tv, tv⟩⟩, ⟨⟨tv, ⟨tv, tv⟩⟩, ⟨tv, tv⟩⟩⟩ ?_
                    refine TL_end ?_
                    obtain rfl := sinj h1
                    refine tsn ?_
                    exact SP_ren [] _ rfl ⟨rfl, tv⟩ tv rfl
                  · replace h1 := bif_f h1 hb
                    refine TL_gf (.bool false) rfl rfl rfl rfl rfl (by decide) ?_
                    refine TL_gf (.bool false) rfl rfl rfl rfl rfl (by decide) ?_
                    refine TL_gf (.bool false) rfl rfl rfl rfl rfl (by decide) ?_
                    refine TL_gf (.bool false) rfl rfl rfl rfl rfl (by decide) ?_
                    refine TL_ev env 2 rfl ⟨⟨tv, ⟨fun e => e, tv⟩⟩, ⟨tv, tv⟩⟩ ?_
                    refine TL_end ?_
                    obtain rfl := sinj h1
                    refine tsn ?_
                    exact SP_ren [] _ rfl ⟨rfl, tv⟩ tv rfl
                · replace h1 := bif_f h1 hb
                  refine TL_gf (.bool false) rfl rfl rfl rfl rfl (by decide) ?_
                  refine TL_gf (.bool false) rfl rfl rfl rfl rfl (by decide) ?_
                  refine TL_gf (.bool false) rfl rfl rfl rfl rfl (by decide) ?_
                  refine TL_ev env 2 rfl ⟨⟨tv, ⟨fun e => e, tv⟩⟩, ⟨tv, tv⟩⟩ ?_
                  refine TL_gf (.bool false) rfl rfl rfl rfl rfl (by decide) ?_
                  refine TL_gf (.bool false) rfl rfl rfl rfl rfl (by decide) ?_
                  refine TL_gf (.bool false) rfl rfl rfl rfl rfl (by decide) ?_
                  refine TL_ev env 2 rfl ⟨⟨tv, ⟨fun e => e, tv⟩⟩, ⟨tv, tv⟩⟩ ?_
                  refine TL_gf (.bool false) rfl rfl rfl rfl rfl (by decide) ?_
                  refine TL_gf (.bool false) rfl rfl rfl rfl rfl (by decide) ?_
                  refine TL_gf (.bool false) rfl rfl rfl rfl rfl (by decide) ?_
                  refine TL_gf (.bool false) rfl rfl rfl rfl rfl (by decide) ?_
                  refine TL_ev env 2 rfl ⟨⟨tv, ⟨fun e => e, tv⟩⟩, ⟨tv, tv⟩⟩ ?_
                  refine TL_gf (.bool false) rfl rfl rfl rfl rfl (by decide) ?_
                  refine TL_gf (.bool false) rfl rfl rfl rfl rfl (by decide) ?_
                  refine TL_gf (.bool false) rfl rfl rfl rfl rfl (by decide) ?_
                  refine TL_gf (.bool false) rfl rfl rfl rfl rfl (by decide) ?_
                  refine TL_ev env 2 rfl ⟨⟨tv, ⟨fun e => e, tv⟩⟩, ⟨tv, tv⟩⟩ ?_
                  refine TL_end ?_
                  obtain rfl := sinj h1
                  refine tsn ?_
                  exact SP_ren [] _ rfl ⟨rfl, tv⟩ tv rfl
              · rintro x291 hz
                obtain rfl := hz.symm
                refine TE_go ?_
                refine TC_ret ?_
                obtain rfl := sinj h0
                exact TE_ret env rfl tv tv
            · exact (nsome h0).elim
            · exact (nsome h0).elim
            · refine TL_callB [(0, 16801), (1000, 500760)] (psalterylaw04_ask.ok3 hr) psalterylaw04_ask.fnb rfl ⟨tv, ⟨tv, ⟨tv, tv⟩⟩⟩ rfl ⟨.inr rfl, tv⟩ rfl ?_
              refine TL_ev env 7 rfl ⟨tv, ⟨tv, ⟨tv, ⟨tv, ⟨tv, ⟨tv, ⟨tv, tv⟩⟩⟩⟩⟩⟩⟩ ?_
              refine TL_end ?_
              refine TE_go ?_
              refine TC_seq ?_
              obtain ⟨z1, h1, h0⟩ := bnd h0
              refine TC_cut (α := Bool) (fun s => z1 = s) (fun s => [(4, .bool s)]) (fun s => []) ?_ ?_
              · refine TC_reg ?_
                refine TL_ev env 9 rfl ⟨tv, ⟨tv, ⟨⟨tv, ⟨tv, tv⟩⟩, ⟨tv, ⟨fun eg => tv, ⟨fun eg => tv, ⟨fun eg => ⟨fun e => e, ⟨fun e => e, tv⟩⟩, ⟨⟨tv, ⟨fun e => e, tv⟩⟩, ⟨tv, tv⟩⟩⟩⟩⟩⟩⟩⟩⟩ ?_
                refine TL_split 88 rfl (fun hb => ?_) (fun hb => ?_)
                · replace h1 := bif_t h1 hb
                  refine TL_gt rfl rfl rfl rfl ?_
                  refine TL_ev env 1 rfl ⟨tv, tv⟩ ?_
                  refine TL_gt rfl rfl rfl rfl ?_
                  refine TL_ev env 1 rfl ⟨tv, tv⟩ ?_
                  refine TL_gt rfl rfl rfl rfl ?_
                  obtain ⟨⟨⟩, hr, h1⟩ := bnd h1
                  refine TL_callB [] (psalteryref04_Same_3.ok0 hr) psalteryref04_Same_3.fnb rfl ⟨tv, ⟨tv, ⟨tv, tv⟩⟩⟩ rfl tv rfl ?_
                  refine TL_ev env 2 rfl ⟨⟨tv, ⟨tv, tv⟩⟩, ⟨tv, tv⟩⟩ ?_
                  refine TL_gt rfl rfl rfl rfl ?_
                  refine TL_ev env 1 rfl ⟨tv, tv⟩ ?_
                  refine TL_gt rfl rfl rfl rfl ?_
                  refine TL_ev env 1 rfl ⟨tv, tv⟩ ?_
                  refine TL_gt rfl rfl rfl rfl ?_
                  refine TL_frz 500760 rfl ?_
                  obtain ⟨r302, hr, h1⟩ := bnd h1
                  refine TL_callB [] (psalteryref04_Same.ok0 hr) psalteryref04_Same.fnb rfl ⟨tv, ⟨tv, ⟨tv, tv⟩⟩⟩ rfl tv rfl ?_
                  refine TL_ev env 8 rfl ⟨⟨tv, ⟨tv, tv⟩⟩, ⟨tv, ⟨fun eg => tv, ⟨fun eg => tv, ⟨fun eg => ⟨fun e => e, ⟨fun e => e, tv⟩⟩, ⟨fun eg => ⟨fun e => e, ⟨tv, tv⟩⟩, ⟨⟨tv, ⟨fun e => e, tv⟩⟩, ⟨tv, tv⟩⟩⟩⟩⟩⟩⟩⟩ ?_
                  refine TL_split 104 rfl (fun hb => ?_) (fun hb => ?_)
                  · replace h1 := bif_t h1 hb
                    refine TL_gt rfl rfl rfl rfl ?_
                    refine TL_ev env 1 rfl ⟨tv, tv⟩ ?_
                    refine TL_gt rfl rfl rfl rfl ?_
                    obtain ⟨⟨⟩, hr, h1⟩ := bnd h1
                    refine TL_callB [(0, 16801)] (bank_Bank_Made.ok0 hr) bank_Bank_Made.fnb rfl ⟨tv, ⟨tv, tv⟩⟩ rfl ⟨.inr rfl, tv⟩ rfl ?_
                    refine TL_gt rfl rfl rfl rfl ?_
                    refine TL_ev env 1 rfl ⟨tv, tv⟩ ?_
                    refine TL_gt rfl rfl rfl rfl ?_
                    refine TL_ev env 3 rfl ⟨⟨tv, ⟨tv, tv⟩⟩, ⟨⟨tv, ⟨tv, tv⟩⟩, ⟨tv, tv⟩⟩⟩ ?_
                    refine TL_end ?_
                    obtain rfl := sinj h1
                    refine tsn ?_
                    exact SP_ren [] _ rfl ⟨rfl, tv⟩ tv rfl
                  · replace h1 := bif_f h1 hb
                    refine TL_gf (.bool false) rfl rfl rfl rfl rfl (by decide) ?_
                    refine TL_gf (.bool false) rfl rfl rfl rfl rfl (by decide) ?_
                    refine TL_gf (.bool false) rfl rfl rfl rfl rfl (by decide) ?_
                    refine TL_gf (.bool false) rfl rfl rfl rfl rfl (by decide) ?_
                    refine TL_ev env 2 rfl ⟨⟨tv, ⟨fun e => e, tv⟩⟩, ⟨tv, tv⟩⟩ ?_
                    refine TL_end ?_
                    obtain rfl := sinj h1
                    refine tsn ?_
                    exact SP_ren [] _ rfl ⟨rfl, tv⟩ tv rfl
                · replace h1 := bif_f h1 hb
                  refine TL_gf (.bool false) rfl rfl rfl rfl rfl (by decide) ?_
                  refine TL_gf (.bool false) rfl rfl rfl rfl rfl (by decide) ?_
                  refine TL_gf (.bool false) rfl rfl rfl rfl rfl (by decide) ?_
                  refine TL_ev env 2 rfl ⟨⟨tv, ⟨fun e => e, tv⟩⟩, ⟨tv, tv⟩⟩ ?_
                  refine TL_gf (.bool false) rfl rfl rfl rfl rfl (by decide) ?_
                  refine TL_gf (.bool false) rfl rfl rfl rfl rfl (by decide) ?_
                  refine TL_gf (.bool false) rfl rfl rfl rfl rfl (by decide) ?_
                  refine TL_ev env 2 rfl ⟨⟨tv, ⟨fun e => e, tv⟩⟩, ⟨tv, tv⟩⟩ ?_
                  refine TL_gf (.bool false) rfl rfl rfl rfl rfl (by decide) ?_
                  refine TL_gf (.bool false) rfl rfl rfl rfl rfl (by decide) ?_
                  refine TL_gf (.bool false) rfl rfl rfl rfl rfl (by decide) ?_
                  refine TL_gf (.bool false) rfl rfl rfl rfl rfl (by decide) ?_
                  refine TL_ev env 2 rfl ⟨⟨tv, ⟨fun e => e, tv⟩⟩, ⟨tv, tv⟩⟩ ?_
                  refine TL_gf (.bool false) rfl rfl rfl rfl rfl (by decide) ?_
                  refine TL_gf (.bool false) rfl rfl rfl rfl rfl (by decide) ?_
                  refine TL_gf (.bool false) rfl rfl rfl rfl rfl (by decide) ?_
                  refine TL_gf (.bool false) rfl rfl rfl rfl rfl (by decide) ?_
                  refine TL_ev env 2 rfl ⟨⟨tv, ⟨fun e => e, tv⟩⟩, ⟨tv, tv⟩⟩ ?_
                  refine TL_end ?_
                  obtain rfl := sinj h1
                  refine tsn ?_
                  exact SP_ren [] _ rfl ⟨rfl, tv⟩ tv rfl
              · rintro x299 hz
                obtain rfl := hz.symm
                refine TE_go ?_
                refine TC_ret ?_
                obtain rfl := sinj h0
                exact TE_ret env rfl tv tv
          · exact (nsome h0).elim
          · exact (nsome h0).elim
          · refine TL_callB [(0, 16801), (1000, 500670)] (psalterylaw04_ask.ok3 hr) psalterylaw04_ask.fnb rfl ⟨tv, ⟨tv, ⟨tv, tv⟩⟩⟩ rfl ⟨.inr rfl, tv⟩ rfl ?_
            refine TL_ev env 7 rfl ⟨tv, ⟨tv, ⟨tv, ⟨tv, ⟨tv, ⟨tv, ⟨tv, tv⟩⟩⟩⟩⟩⟩⟩ ?_
            refine TL_end ?_
            refine TE_go ?_
            refine TC_seq ?_
            refine TC_reg ?_
            refine TL_ev env 1 rfl ⟨tv, tv⟩ ?_
            obtain ⟨⟨⟩, hr, h0⟩ := bnd h0
            refine TL_callB [(0, 16801)] (bank_Bank_Made.ok0 hr) bank_Bank_Made.fnb rfl ⟨tv, ⟨tv, tv⟩⟩ rfl ⟨.inr rfl, tv⟩ rfl ?_
            refine TL_ev env 1 rfl ⟨tv, tv⟩ ?_
            refine TL_end ?_
            refine TE_go ?_
            refine TC_seq ?_
            refine TC_reg ?_
            refine TL_ev env 2 rfl ⟨tv, ⟨⟨tv, tv⟩, tv⟩⟩ ?_
            obtain ⟨z, hr, h0⟩ := bnd h0
            rcases z with r307 | ⟨r308, r309⟩ | ⟨r310, r311, r312, r313⟩ | ⟨r314, r315, r316, r317, r318⟩
            · refine TL_callB [(0, 16801)] (psalterylaw04_ask.ok0 hr) psalterylaw04_ask.fnb rfl ⟨tv, ⟨tv, ⟨tv, tv⟩⟩⟩ rfl ⟨.inr rfl, tv⟩ rfl ?_
              refine TL_ev env 7 rfl ⟨tv, ⟨tv, ⟨tv, ⟨tv, ⟨tv, ⟨tv, ⟨tv, tv⟩⟩⟩⟩⟩⟩⟩ ?_
              refine TL_end ?_
              refine TE_go ?_
              refine TC_seq ?_
              obtain ⟨z1, h1, h0⟩ := bnd h0
              refine TC_cut (α := Bool) (fun s => z1 = s) (fun s => [(4, .bool s)]) (fun s => []) ?_ ?_
              · refine TC_reg ?_
                refine TL_ev env 9 rfl ⟨tv, ⟨tv, ⟨⟨tv, ⟨tv, tv⟩⟩, ⟨tv, ⟨fun eg => tv, ⟨fun eg => tv, ⟨fun eg => ⟨fun e => e, ⟨fun e => e, tv⟩⟩, ⟨⟨tv, ⟨fun e => e, tv⟩⟩, ⟨tv, tv⟩⟩⟩⟩⟩⟩⟩⟩⟩ ?_
                refine TL_split 88 rfl (fun hb => ?_) (fun hb => ?_)
                · replace h1 := bif_t h1 hb
                  refine TL_gt rfl rfl rfl rfl ?_
                  refine TL_ev env 1 rfl ⟨tv, tv⟩ ?_
                  refine TL_gt rfl rfl rfl rfl ?_
                  refine TL_ev env 1 rfl ⟨tv, tv⟩ ?_
                  refine TL_gt rfl rfl rfl rfl ?_
                  refine TL_frz 500670 rfl ?_
                  obtain ⟨r323, hr, h1⟩ := bnd h1
                  refine TL_callB [] (psalteryref04_Same.ok0 hr) psalteryref04_Same.fnb rfl ⟨tv, ⟨tv, ⟨tv, tv⟩⟩⟩ rfl tv rfl ?_
                  refine TL_ev env 2 rfl ⟨⟨tv, ⟨tv, tv⟩⟩, ⟨tv, tv⟩⟩ ?_
                  refine TL_split 93 rfl (fun hb => ?_) (fun hb => ?_)
                  · replace h1 := bif_t h1 hb
                    refine TL_gt rfl rfl rfl rfl ?_
                    refine TL_ev env 1 rfl ⟨tv, tv⟩ ?_
                    refine TL_gt rfl rfl rfl rfl ?_
                    refine TL_ev env 1 rfl ⟨tv, tv⟩ ?_
                    refine TL_gt rfl rfl rfl rfl ?_
                    obtain ⟨r324, hr, h1⟩ := bnd h1
                    refine TL_callB [] (psalteryref04_Same_4.ok0 hr) psalteryref04_Same_4.fnb rfl ⟨tv, ⟨tv, ⟨tv, tv⟩⟩⟩ rfl tv rfl ?_
                    refine TL_ev env 8 rfl ⟨⟨tv, ⟨tv, tv⟩⟩, ⟨tv, ⟨fun eg => tv, ⟨fun eg => tv, ⟨fun eg => ⟨fun e => e, ⟨fun e => e, tv⟩⟩, ⟨fun eg => ⟨fun e => e, ⟨tv, tv⟩⟩, ⟨⟨tv, ⟨fun e => e, tv⟩⟩, ⟨tv, tv⟩⟩⟩⟩⟩⟩⟩⟩ ?_
                    refine TL_split 104 rfl (fun hb => ?_) (fun hb => ?_)
                    · replace h1 := bif_t h1 hb
                      refine TL_gt rfl rfl rfl rfl ?_
                      refine TL_ev env 1 rfl ⟨tv, tv⟩ ?_
                      refine TL_gt rfl rfl rfl rfl ?_
                      obtain ⟨⟨⟩, hr, h1⟩ := bnd h1
                      refine TL_callB [(0, 16801)] (bank_Bank_Made.ok0 hr) bank_Bank_Made.fnb rfl ⟨tv, ⟨tv, tv⟩⟩ rfl ⟨.inr rfl, tv⟩ rfl ?_
                      refine TL_gt rfl rfl rfl rfl ?_
                      refine TL_ev env 1 rfl ⟨tv, tv⟩ ?_
                      refine TL_gt rfl rfl rfl rfl ?_
                      refine TL_ev env 3 rfl ⟨⟨tv, ⟨tv, tv⟩⟩, ⟨⟨tv, ⟨tv, tv⟩⟩, ⟨tv, tv⟩⟩⟩ ?_
                      refine TL_end ?_
                      obtain rfl := sinj h1
                      refine tsn ?_
                      exact SP_ren [] _ rfl ⟨rfl, tv⟩ tv rfl
                    · replace h1 := bif_f h1 hb
                      refine TL_gf (.bool false) rfl rfl rfl rfl rfl (by decide) ?_
                      refine TL_gf (.bool false) rfl rfl rfl rfl rfl (by decide) ?_
                      refine TL_gf (.bool false) rfl rfl rfl rfl rfl (by decide) ?_
                      refine TL_gf (.bool false) rfl rfl rfl rfl rfl (by decide) ?_
                      refine TL_ev env 2 rfl ⟨⟨tv, ⟨fun e => e, tv⟩⟩, ⟨tv, tv⟩⟩ ?_
                      refine TL_end ?_
                      obtain rfl := sinj h1
                      refine tsn ?_
                      exact SP_ren [] _ rfl ⟨rfl, tv⟩ tv rfl
                  · replace h1 := bif_f h1 hb
                    refine TL_gf (.bool false) rfl rfl rfl rfl rfl (by decide) ?_
                    refine TL_gf (.bool false) rfl rfl rfl rfl rfl (by decide) ?_
                    refine TL_gf (.bool false) rfl rfl rfl rfl rfl (by decide) ?_
                    refine TL_ev env 2 rfl ⟨⟨tv, ⟨fun e => e, tv⟩⟩, ⟨tv, tv⟩⟩ ?_
                    refine TL_gf (.bool false) rfl rfl rfl rfl rfl (by decide) ?_
                    refine TL_gf (.bool false) rfl rfl rfl rfl rfl (by decide) ?_
                    refine TL_gf (.bool false) rfl rfl rfl rfl rfl (by decide) ?_
                    refine TL_gf (.bool false) rfl rfl rfl rfl rfl (by decide) ?_
                    refine TL_ev env 2 rfl ⟨⟨tv, ⟨fun e => e, tv⟩⟩, ⟨tv, tv⟩⟩ ?_
                    refine TL_gf (.bool false) rfl rfl rfl rfl rfl (by decide) ?_
                    refine TL_gf (.bool false) rfl rfl rfl rfl rfl (by decide) ?_
                    refine TL_gf (.bool false) rfl rfl rfl rfl rfl (by decide) ?_
                    refine TL_gf (.bool false) rfl rfl rfl rfl rfl (by decide) ?_
                    refine TL_ev env 2 rfl ⟨⟨tv, ⟨fun e => e, tv⟩⟩, ⟨tv, tv⟩⟩ ?_
                    refine TL_end ?_
                    obtain rfl := sinj h1
                    refine tsn ?_
                    exact SP_ren [] _ rfl ⟨rfl, tv⟩ tv rfl
                · replace h1 := bif_f h1 hb
                  refine TL_gf (.bool false) rfl rfl rfl rfl rfl (by decide) ?_
                  refine TL_gf (.bool false) rfl rfl rfl rfl rfl (by decide) ?_
                  refine TL_gf (.bool false) rfl rfl rfl rfl rfl (by decide) ?_
                  refine TL_ev env 2 rfl ⟨⟨tv, ⟨fun e => e, tv⟩⟩, ⟨tv, tv⟩⟩ ?_
                  refine TL_gf (.bool false) rfl rfl rfl rfl rfl (by decide) ?_
                  refine TL_gf (.bool false) rfl rfl rfl rfl rfl (by decide) ?_
                  refine TL_gf (.bool false) rfl rfl rfl rfl rfl (by decide) ?_
                  refine TL_ev env 2 rfl ⟨⟨tv, ⟨fun e => e, tv⟩⟩, ⟨tv, tv⟩⟩ ?_
                  refine TL_gf (.bool false) rfl rfl rfl rfl rfl (by decide) ?_
                  refine TL_gf (.bool false) rfl rfl rfl rfl rfl (by decide) ?_
                  refine TL_gf (.bool false) rfl rfl rfl rfl rfl (by decide) ?_
                  refine TL_gf (.bool false) rfl rfl rfl rfl rfl (by decide) ?_
                  refine TL_ev env 2 rfl ⟨⟨tv, ⟨fun e => e, tv⟩⟩, ⟨tv, tv⟩⟩ ?_
                  refine TL_gf (.bool false) rfl rfl rfl rfl rfl (by decide) ?_
                  refine TL_gf (.bool false) rfl rfl rfl rfl rfl (by decide) ?_
                  refine TL_gf (.bool false) rfl rfl rfl rfl rfl (by decide) ?_
                  refine TL_gf (.bool false) rfl rfl rfl rfl rfl (by decide) ?_
                  refine TL_ev env 2 rfl ⟨⟨tv, ⟨fun e => e, tv⟩⟩, ⟨tv, tv⟩⟩ ?_
                  refine TL_end ?_
                  obtain rfl := sinj h1
                  refine tsn ?_
                  exact SP_ren [] _ rfl ⟨rfl, tv⟩ tv rfl
              · rintro x321 hz
                obtain rfl := hz.symm
                refine TE_go ?_
                refine TC_ret ?_
                obtain rfl := sinj h0
                exact TE_ret env rfl tv tv
            · exact (nsome h0).elim
            · exact (nsome h0).elim
            · refine TL_callB [(0, 16801), (1000, 500760)] (psalterylaw04_ask.ok3 hr) psalterylaw04_ask.fnb rfl ⟨tv, ⟨tv, ⟨tv, tv⟩⟩⟩ rfl ⟨.inr rfl, tv⟩ rfl ?_
              refine TL_ev env 7 rfl ⟨tv, ⟨tv, ⟨tv, ⟨tv, ⟨tv, ⟨tv, ⟨tv, tv⟩⟩⟩⟩⟩⟩⟩ ?_
              refine TL_end ?_
              refine TE_go ?_
              refine TC_seq ?_
              obtain ⟨z1, h1, h0⟩ := bnd h0
              refine TC_cut (α := Bool) (fun s => z1 = s) (fun s => [(4, .bool s)]) (fun s => []) ?_ ?_
              · refine TC_reg ?_
                refine TL_ev env 9 rfl ⟨tv, ⟨tv, ⟨⟨tv, ⟨tv, tv⟩⟩, ⟨tv, ⟨fun eg => tv, ⟨fun eg => tv, ⟨fun eg => ⟨fun e => e, ⟨fun e => e, tv⟩⟩, ⟨⟨tv, ⟨fun e => e, tv⟩⟩, ⟨tv, tv⟩⟩⟩⟩⟩⟩⟩⟩⟩ ?_
                refine TL_split 88 rfl (fun hb => ?_) (fun hb => ?_)
                · replace h1 := bif_t h1 hb
                  refine TL_gt rfl rfl rfl rfl ?_
                  refine TL_ev env 1 rfl ⟨tv, tv⟩ ?_
                  refine TL_gt rfl rfl rfl rfl ?_
                  refine TL_ev env 1 rfl ⟨tv, tv⟩ ?_
                  refine TL_gt rfl rfl rfl rfl ?_
                  refine TL_frz 500670 rfl ?_
                  obtain ⟨r333, hr, h1⟩ := bnd h1
                  refine TL_callB [] (psalteryref04_Same.ok0 hr) psalteryref04_Same.fnb rfl ⟨tv, ⟨tv, ⟨tv, tv⟩⟩⟩ rfl tv rfl ?_
                  refine TL_ev env 2 rfl ⟨⟨tv, ⟨tv, tv⟩⟩, ⟨tv, tv⟩⟩ ?_
                  refine TL_split 93 rfl (fun hb => ?_) (fun hb => ?_)
                  · replace h1 := bif_t h1 hb
                    refine TL_gt rfl rfl rfl rfl ?_
                    refine TL_ev env 1 rfl ⟨tv, tv⟩ ?_
                    refine TL_gt rfl rfl rfl rfl ?_
                    refine TL_ev env 1 rfl ⟨tv, tv⟩ ?_
                    refine TL_gt rfl rfl rfl rfl ?_
                    refine TL_frz 500760 rfl ?_
                    obtain ⟨r334, hr, h1⟩ := bnd h1
                    refine TL_callB [] (psalteryref04_Same_2.ok0 hr) psalteryref04_Same_2.fnb rfl ⟨tv, ⟨tv, ⟨tv, tv⟩⟩⟩ rfl tv rfl ?_
                    refine TL_ev env 8 rfl ⟨⟨tv, ⟨tv, tv⟩⟩, ⟨tv, ⟨fun eg => tv, ⟨fun eg => tv, ⟨fun eg => ⟨fun e => e, ⟨fun e => e, tv⟩⟩, ⟨fun eg => ⟨fun e => e, ⟨tv, tv⟩⟩, ⟨⟨tv, ⟨fun e => e, tv⟩⟩, ⟨tv, tv⟩⟩⟩⟩⟩⟩⟩⟩ ?_
                    refine TL_split 104 rfl (fun hb => ?_) (fun hb => ?_)
                    · replace h1 := bif_t h1 hb
                      refine TL_gt rfl rfl rfl rfl ?_
                      refine TL_ev env 1 rfl ⟨tv, tv⟩ ?_
                      refine TL_gt rfl rfl rfl rfl ?_
                      obtain ⟨⟨⟩, hr, h1⟩ := bnd h1
                      refine TL_callB [(0, 16801)] (bank_Bank_Made.ok0 hr) bank_Bank_Made.fnb rfl ⟨tv, ⟨tv, tv⟩⟩ rfl ⟨.inr rfl, tv⟩ rfl ?_
                      refine TL_gt rfl rfl rfl rfl ?_
                      refine TL_ev env 1 rfl ⟨tv, tv⟩ ?_
                      refine TL_gt rfl rfl rfl rfl ?_
                      refine TL_ev env 3 rfl ⟨⟨tv, ⟨tv, tv⟩⟩, ⟨⟨tv, ⟨tv, tv⟩⟩, ⟨tv, tv⟩⟩⟩ ?_
                      refine TL_end ?_
                      obtain rfl := sinj h1
                      refine tsn ?_
                      exact SP_ren [] _ rfl ⟨rfl, tv⟩ tv rfl
                    · replace h1 := bif_f h1 hb
                      refine TL_gf (.bool false) rfl rfl rfl rfl rfl (by decide) ?_
                      refine TL_gf (.bool false) rfl rfl rfl rfl rfl (by decide) ?_
                      refine TL_gf (.bool false) rfl rfl rfl rfl rfl (by decide) ?_
                      refine TL_gf (.bool false) rfl rfl rfl rfl rfl (by decide) ?_
                      refine TL_ev env 2 rfl ⟨⟨tv, ⟨fun e => e, tv⟩⟩, ⟨tv, tv⟩⟩ ?_
                      refine TL_end ?_
                      obtain rfl := sinj h1
                      refine tsn ?_
                      exact SP_ren [] _ rfl ⟨rfl, tv⟩ tv rfl
                  · replace h1 := bif_f h1 hb
                    refine TL_gf (.bool false) rfl rfl rfl rfl rfl (by decide) ?_
                    refine TL_gf (.bool false) rfl rfl rfl rfl rfl (by decide) ?_
                    refine TL_gf (.bool false) rfl rfl rfl rfl rfl (by decide) ?_
                    refine TL_ev env 2 rfl ⟨⟨tv, ⟨fun e => e, tv⟩⟩, ⟨tv, tv⟩⟩ ?_
                    refine TL_gf (.bool false) rfl rfl rfl rfl rfl (by decide) ?_
                    refine TL_gf (.bool false) rfl rfl rfl rfl rfl (by decide) ?_
                    refine TL_gf (.bool false) rfl rfl rfl rfl rfl (by decide) ?_
                    refine TL_gf (.bool false) rfl rfl rfl rfl rfl (by decide) ?_
                    refine TL_ev env 2 rfl ⟨⟨tv, ⟨fun e => e, tv⟩⟩, ⟨tv, tv⟩⟩ ?_
                    refine TL_gf (.bool false) rfl rfl rfl rfl rfl (by decide) ?_
                    refine TL_gf (.bool false) rfl rfl rfl rfl rfl (by decide) ?_
                    refine TL_gf (.bool false) rfl rfl rfl rfl rfl (by decide) ?_
                    refine TL_gf (.bool false) rfl rfl rfl rfl rfl (by decide) ?_
                    refine TL_ev env 2 rfl ⟨⟨tv, ⟨fun e => e, tv⟩⟩, ⟨tv, tv⟩⟩ ?_
                    refine TL_end ?_
                    obtain rfl := sinj h1
                    refine tsn ?_
                    exact SP_ren [] _ rfl ⟨rfl, tv⟩ tv rfl
                · replace h1 := bif_f h1 hb
                  refine TL_gf (.bool false) rfl rfl rfl rfl rfl (by decide) ?_
                  refine TL_gf (.bool false) rfl rfl rfl rfl rfl (by decide) ?_
                  refine TL_gf (.bool false) rfl rfl rfl rfl rfl (by decide) ?_
                  refine TL_ev env 2 rfl ⟨⟨tv, ⟨fun e => e, tv⟩⟩, ⟨tv, tv⟩⟩ ?_
                  refine TL_gf (.bool false) rfl rfl rfl rfl rfl (by decide) ?_
                  refine TL_gf (.bool false) rfl rfl rfl rfl rfl (by decide) ?_
                  refine TL_gf (.bool false) rfl rfl rfl rfl rfl (by decide) ?_
                  refine TL_ev env 2 rfl ⟨⟨tv, ⟨fun e => e, tv⟩⟩, ⟨tv, tv⟩⟩ ?_
                  refine TL_gf (.bool false) rfl rfl rfl rfl rfl (by decide) ?_
                  refine TL_gf (.bool false) rfl rfl rfl rfl rfl (by decide) ?_
                  refine TL_gf (.bool false) rfl rfl rfl rfl rfl (by decide) ?_
                  refine TL_gf (.bool false) rfl rfl rfl rfl rfl (by decide) ?_
                  refine TL_ev env 2 rfl ⟨⟨tv, ⟨fun e => e, tv⟩⟩, ⟨tv, tv⟩⟩ ?_
                  refine TL_gf (.bool false) rfl rfl rfl rfl rfl (by decide) ?_
                  refine TL_gf (.bool false) rfl rfl rfl rfl rfl (by decide) ?_
                  refine TL_gf (.bool false) rfl rfl rfl rfl rfl (by decide) ?_
                  refine TL_gf (.bool false) rfl rfl rfl rfl rfl (by decide) ?_
                  refine TL_ev env 2 rfl ⟨⟨tv, ⟨fun e => e, tv⟩⟩, ⟨tv, tv⟩⟩ ?_
                  refine TL_end ?_
                  obtain rfl := sinj h1
                  refine tsn ?_
                  exact SP_ren [] _ rfl ⟨rfl, tv⟩ tv rfl
              · rintro x331 hz
                obtain rfl := hz.symm
                refine TE_go ?_
                refine TC_ret ?_
                obtain rfl := sinj h0
                exact TE_ret env rfl tv tv
      · exact (nsome h0).elim
      · exact (nsome h0).elim
      · refine TL_callB [(0, 500290), (1000, 500330)] (psalterylaw04_ask.ok3 hr) psalterylaw04_ask.fnb rfl ⟨tv, ⟨tv, ⟨tv, tv⟩⟩⟩ rfl ⟨.inr rfl, tv⟩ rfl ?_
        refine TL_ev env 7 rfl ⟨tv, ⟨tv, ⟨tv, ⟨tv, ⟨tv, ⟨tv, ⟨tv, tv⟩⟩⟩⟩⟩⟩⟩ ?_
        refine TL_end ?_
        refine TE_go ?_
        refine TC_seq ?_
        refine TC_seq ?_
        refine TC_reg ?_
        refine TL_ev env 1 rfl ⟨tv, tv⟩ ?_
        refine TL_end ?_
        refine TE_go ?_
        obtain ⟨z1, h1, h0⟩ := bnd h0
        refine TC_cut (α := (List (Option (List (Int)))) × Int × Int) (fun s => z1 = s) (fun s => [(3, .p 23100 0), (5, .p 23101 0), (7, .sl 23102), (8, .int .i64 0)]) (fun s => [(23100, some (.cells [.int .i64 p1, .int .i64 p2])), (23101, some (.ab (bkA s.1 s.2.1 s.2.2))), (23102, some (.rows (.int .i16) r217))]) ?_ ?_
        · refine TC_blk ?_
          refine TC_loop (α := Int × (List (Option (List (Int)))) × Int × Int) (fun n s => psalterylaw04_BankOnce.l3 K p0 p1 p2 r217 n s.1 s.2.1 s.2.2.1 s.2.2.2 = some z1) (fun s => [(0, .im (.slice (.pair (.int .i64) (.int .i64))) p0), (3, .p 24500 0), (5, .p 24501 0), (7, .sl 24502), (8, .int .i64 0), (10, .int .i64 s.1)]) (fun s => [(24500, some (.cells [.int .i64 p1, .int .i64 p2])), (24501, some (.ab (bkA s.2.1 s.2.2.1 s.2.2.2))), (24502, some (.rows (.int .i16) r217))]) K ?_ ?_
          · exact SP_ren [(24500, 1003), (24501, 500280), (24502, 500330)] (_, _, _, _) h1 ⟨rfl, rfl, rfl, rfl, rfl, rfl, tv⟩ ⟨rfl, rfl, rfl, tv⟩ rfl
          rintro n ⟨x570, x571, x572, x573⟩ h1
          rcases n with _ | n
          · exact (nsome h1).elim
          replace h1 : psalterylaw04_BankOnce.r3 K p0 p1 p2 r217 (psalterylaw04_BankOnce.l3 K p0 p1 p2 r217 n) x570 x571 x572 x573 = some z1 := h1
          refine TC_seq ?_
          refine TC_seq ?_
          refine TC_reg ?_
          refine TL_ev env 4 rfl ⟨tv, ⟨tv, ⟨⟨tv, tv⟩, ⟨⟨tv, ⟨tv, tv⟩⟩, tv⟩⟩⟩⟩ ?_
          refine TL_end ?_
          refine TE_go ?_
          refine TC_cond rfl (fun hb => ?_) (fun hb => ?_)
          · replace h1 := bif_t h1 hb
            refine TC_skip ?_
            refine TE_go ?_
            refine TC_seq ?_
            obtain ⟨z2, h2, h1⟩ := bnd h1
            refine TC_cut (α := (List (Option (List (Int)))) × Int × Int) (fun s => z2 = s) (fun s => [(0, .im (.slice (.pair (.int .i64) (.int .i64))) p0), (3, .p 26200 0), (5, .p 26201 0), (7, .sl 26202), (8, .int .i64 0), (10, .int .i64 x570)]) (fun s => [(26200, some (.cells [.int .i64 p1, .int .i64 p2])), (26201, some (.ab (bkA s.1 s.2.1 s.2.2))), (26202, some (.rows (.int .i16) r217))]) ?_ ?_
            · refine TC_blk ?_
              refine TC_seq ?_
              refine TC_reg ?_
              obtain ⟨g, h2⟩ := gd_t h2
              refine TL_ev env 5 rfl ⟨tv, ⟨tv, ⟨tv, ⟨⟨tv, ⟨tv, ⟨g.1, g.2⟩⟩⟩, ⟨⟨tv, tv⟩, tv⟩⟩⟩⟩⟩ ?_
              obtain ⟨z, hr, h2⟩ := bnd h2
              rcases z with r619 | ⟨r620, r621⟩ | ⟨r622, r623, r624, r625⟩ | ⟨r626, r627, r628, r629, r630⟩
              · refine TL_callB [(0, 24501)] (psalterylaw04_ask.ok0 hr) psalterylaw04_ask.fnb rfl ⟨tv, ⟨tv, ⟨tv, tv⟩⟩⟩ rfl ⟨.inr rfl, tv⟩ rfl ?_
                refine TL_ev env 7 rfl ⟨tv, ⟨tv, ⟨tv, ⟨tv, ⟨tv, ⟨tv, ⟨tv, tv⟩⟩⟩⟩⟩⟩⟩ ?_
                refine TL_end ?_
                refine TE_go ?_
                refine TC_seq ?_
                refine TC_reg ?_
                refine TL_ev env 1 rfl ⟨tv, tv⟩ ?_
                refine TL_end ?_
                refine TE_go ?_
                obtain ⟨z3, h3, h2⟩ := bnd h2
                refine TC_cut (α := Unit) (fun _ => z3 = ()) (fun _ => [(0, .im (.slice (.pair (.int .i64) (.int .i64))) p0), (3, .p 26500 0), (5, .p 26501 0), (7, .sl 26502), (8, .int .i64 0), (10, .int .i64 x570)]) (fun _ => [(26500, some (.cells [.int .i64 p1, .int .i64 p2])), (26501, some (.ab (bkA x571 x572 x573))), (26502, some (.rows (.int .i16) r217))]) ?_ ?_
                · refine TC_blk ?_
                  refine TC_loop (α := Unit) (fun n _ => psalterylaw04_BankOnce.l4 K p0 x570 p1 p2 x571 x572 x573 r217 n = some z3) (fun _ => [(0, .im (.slice (.pair (.int .i64) (.int .i64))) p0), (3, .p 26600 0), (5, .p 26601 0), (7, .sl 26602), (8, .int .i64 0), (10, .int .i64 x570), (11, .nils), (14, .int .i64 0)]) (fun _ => [(26600, some (.cells [.int .i64 p1, .int .i64 p2])), (26601, some (.ab (bkA x571 x572 x573))), (26602, some (.rows (.int .i16) r217))]) K ?_ ?_
                  · exact SP_ren [(26600, 24500), (26601, 24501), (26602, 24502)] () h3 ⟨rfl, rfl, rfl, rfl, rfl, rfl, rfl, rfl, tv⟩ ⟨rfl, rfl, rfl, tv⟩ rfl
                  rintro n ⟨⟩ h3
                  rcases n with _ | n
                  · exact (nsome h3).elim
                  replace h3 : psalterylaw04_BankOnce.r4 K p0 x570 p1 p2 x571 x572 x573 r217 (psalterylaw04_BankOnce.l4 K p0 x570 p1 p2 x571 x572 x573 r217 n)  = some z3 := h3
                  refine TC_seq ?_
                  refine TC_seq ?_
                  refine TC_reg ?_
                  refine TL_ev env 4 rfl ⟨tv, ⟨tv, ⟨⟨tv, tv⟩, ⟨⟨tv, ⟨tv, tv⟩⟩, tv⟩⟩⟩⟩ ?_
                  refine TL_end ?_
                  refine TE_go ?_
                  refine TC_cond rfl (fun hb => ?_) (fun hb => ?_)
                  · first | exact (ftf hb).elim | exact (tff hb).elim | exact absurd hb (by decide)
                  · refine TC_exit ?_
                    refine tsx ?_
                    refine tsx ?_
                    refine tbe ?_
                    obtain rfl := sinj h3
                    refine tsn ?_
                    exact SP_ren [(26500, 26600), (26501, 26601), (26502, 26602)] () rfl ⟨rfl, rfl, rfl, rfl, rfl, rfl, tv⟩ ⟨rfl, rfl, rfl, tv⟩ rfl
                · rintro ⟨⟩ rfl
                  refine tbn ?_
                  obtain rfl := sinj h2
                  refine tsn ?_
                  exact SP_ren [(26200, 26500), (26201, 26501), (26202, 26502)] (_, _, _) rfl ⟨rfl, rfl, rfl, rfl, rfl, rfl, tv⟩ ⟨rfl, rfl, rfl, tv⟩ rfl
              · exact (nsome h2).elim
              · exact (nsome h2).elim
              · refine TL_callB [(0, 24501), (1000, 500490)] (psalterylaw04_ask.ok3 hr) psalterylaw04_ask.fnb rfl ⟨tv, ⟨tv, ⟨tv, tv⟩⟩⟩ rfl ⟨.inr rfl, tv⟩ rfl ?_
                refine TL_ev env 7 rfl ⟨tv, ⟨tv, ⟨tv, ⟨tv, ⟨tv, ⟨tv, ⟨tv, tv⟩⟩⟩⟩⟩⟩⟩ ?_
                refine TL_end ?_
                refine TE_go ?_
                refine TC_seq ?_
                refine TC_reg ?_
                refine TL_ev env 1 rfl ⟨tv, tv⟩ ?_
                refine TL_end ?_
                refine TE_go ?_
                obtain ⟨z3, h3, h2⟩ := bnd h2
                refine TC_cut (α := Unit) (fun _ => z3 = ()) (fun _ => [(0, .im (.slice (.pair (.int .i64) (.int .i64))) p0), (3, .p 27100 0), (5, .p 27101 0), (7, .sl 27102), (8, .int .i64 0), (10, .int .i64 x570)]) (fun _ => [(27100, some (.cells [.int .i64 p1, .int .i64 p2])), (27101, some (.ab (bkA r627 r628 r629))), (27102, some (.rows (.int .i16) r217))]) ?_ ?_
                · refine TC_blk ?_
                  refine TC_loop (α := Int × (List (Int))) (fun n s => psalterylaw04_BankOnce.l5 K p0 x570 p1 p2 r627 r628 r629 r217 n s.1 s.2 = some z3) (fun s => [(0, .im (.slice (.pair (.int .i64) (.int .i64))) p0), (3, .p 27300 0), (5, .p 27301 0), (7, .sl 27302), (8, .int .i64 0), (10, .int .i64 x570), (11, .sl 27303), (14, .int .i64 s.1)]) (fun s => [(27300, some (.cells [.int .i64 p1, .int .i64 p2])), (27301, some (.ab (bkA r627 r628 r629))), (27302, some (.rows (.int .i16) r217)), (27303, some (.rows (.int .i16) s.2))]) K ?_ ?_
                  · exact SP_ren [(27300, 24500), (27301, 24501), (27302, 24502), (27303, 500490)] (_, _) h3 ⟨rfl, rfl, rfl, rfl, rfl, rfl, rfl, rfl, tv⟩ ⟨rfl, rfl, rfl, rfl, tv⟩ rfl
                  rintro n ⟨x635, x636⟩ h3
                  rcases n with _ | n
                  · exact (nsome h3).elim
                  replace h3 : psalterylaw04_BankOnce.r5 K p0 x570 p1 p2 r627 r628 r629 r217 (psalterylaw04_BankOnce.l5 K p0 x570 p1 p2 r627 r628 r629 r217 n) x635 x636 = some z3 := h3
                  refine TC_seq ?_
                  refine TC_seq ?_
                  refine TC_reg ?_
                  refine TL_ev env 4 rfl ⟨tv, ⟨tv, ⟨⟨tv, tv⟩, ⟨⟨tv, ⟨tv, tv⟩⟩, tv⟩⟩⟩⟩ ?_
                  refine TL_end ?_
                  refine TE_go ?_
                  refine TC_cond rfl (fun hb => ?_) (fun hb => ?_)
                  · replace h3 := bif_t h3 hb
                    refine TC_skip ?_
                    refine TE_go ?_
                    refine TC_seq ?_
                    refine TC_blk ?_
                    refine TC_reg ?_
                    obtain ⟨g, h3⟩ := gd_t h3
                    refine TL_ev env 4 rfl ⟨tv, ⟨tv, ⟨⟨tv, ⟨tv, ⟨g.1, g.2.1⟩⟩⟩, ⟨⟨tv, ⟨tv, g.2.2⟩⟩, tv⟩⟩⟩⟩ ?_
                    refine TL_end ?_
                    refine tbn ?_
                    refine TE_go ?_
                    refine TC_reg ?_
                    refine TL_ev env 3 rfl ⟨tv, ⟨⟨tv, ⟨tv, tv⟩⟩, ⟨tv, tv⟩⟩⟩ ?_
                    refine TL_end ?_
                    refine tsn ?_
                    exact TE_nextr [(27300, 27300), (27301, 27301), (27302, 27302), (27303, 27303)] n (Nat.lt_succ_self n) (_, _) h3 ⟨rfl, rfl, rfl, rfl, rfl, rfl, rfl, rfl, tv⟩ ⟨rfl, rfl, rfl, rfl, tv⟩ rfl
                  · replace h3 := bif_f h3 hb
                    refine TC_exit ?_
                    refine tsx ?_
                    refine tsx ?_
                    refine tbe ?_
                    obtain rfl := sinj h3
                    refine tsn ?_
                    exact SP_ren [(27100, 27300), (27101, 27301), (27102, 27302)] () rfl ⟨rfl, rfl, rfl, rfl, rfl, rfl, tv⟩ ⟨rfl, rfl, rfl, tv⟩ rfl
                · rintro ⟨⟩ rfl
                  refine tbn ?_
                  obtain rfl := sinj h2
                  refine tsn ?_
                  exact SP_ren [(26200, 27100), (26201, 27101), (26202, 27102)] (_, _, _) rfl ⟨rfl, rfl, rfl, rfl, rfl, rfl, tv⟩ ⟨rfl, rfl, rfl, tv⟩ rfl
            · rintro ⟨x614, x615, x616⟩ rfl
              refine TE_go ?_
              refine TC_reg ?_
              refine TL_ev env 3 rfl ⟨tv, ⟨⟨tv, ⟨tv, tv⟩⟩, ⟨tv, tv⟩⟩⟩ ?_
              refine TL_end ?_
              refine tsn ?_
              exact TE_nextr [(24500, 26200), (24501, 26201), (24502, 26202)] n (Nat.lt_succ_self n) (_, _, _, _) h1 ⟨rfl, rfl, rfl, rfl, rfl, rfl, tv⟩ ⟨rfl, rfl, rfl, tv⟩ rfl
          · replace h1 := bif_f h1 hb
            refine TC_exit ?_
            refine tsx ?_
            refine tsx ?_
            refine tbe ?_
            obtain rfl := sinj h1
            refine tsn ?_
            exact SP_ren [(23100, 24500), (23101, 24501), (23102, 24502)] (_, _, _) rfl ⟨rfl, rfl, rfl, rfl, tv⟩ ⟨rfl, rfl, rfl, tv⟩ rfl
        · rintro ⟨x476, x477, x478⟩ rfl
          refine TE_go ?_
          refine TC_seq ?_
          refine TC_reg ?_
          refine TL_ev env 1 rfl ⟨tv, tv⟩ ?_
          obtain ⟨⟨⟩, hr, h0⟩ := bnd h0
          refine TL_callB [(0, 23101)] (bank_Bank_Made.ok0 hr) bank_Bank_Made.fnb rfl ⟨tv, ⟨tv, tv⟩⟩ rfl ⟨.inr rfl, tv⟩ rfl ?_
          refine TL_ev env 1 rfl ⟨tv, tv⟩ ?_
          refine TL_end ?_
          refine TE_go ?_
          refine TC_seq ?_
          refine TC_reg ?_
          refine TL_ev env 2 rfl ⟨tv, ⟨⟨tv, tv⟩, tv⟩⟩ ?_
          obtain ⟨z, hr, h0⟩ := bnd h0
          rcases z with r479 | ⟨r480, r481⟩ | ⟨r482, r483, r484, r485⟩ | ⟨r486, r487, r488, r489, r490⟩
          · refine TL_callB [(0, 23101)] (psalterylaw04_ask.ok0 hr) psalterylaw04_ask.fnb rfl ⟨tv, ⟨tv, ⟨tv, tv⟩⟩⟩ rfl ⟨.inr rfl, tv⟩ rfl ?_
            refine TL_ev env 7 rfl ⟨tv, ⟨tv, ⟨tv, ⟨tv, ⟨tv, ⟨tv, ⟨tv, tv⟩⟩⟩⟩⟩⟩⟩ ?_
            refine TL_end ?_
            refine TE_go ?_
            refine TC_seq ?_
            refine TC_reg ?_
            refine TL_ev env 1 rfl ⟨tv, tv⟩ ?_
            obtain ⟨⟨⟩, hr, h0⟩ := bnd h0
            refine TL_callB [(0, 23101)] (bank_Bank_Made.ok0 hr) bank_Bank_Made.fnb rfl ⟨tv, ⟨tv, tv⟩⟩ rfl ⟨.inr rfl, tv⟩ rfl ?_
            refine TL_ev env 1 rfl ⟨tv, tv⟩ ?_
            refine TL_end ?_
            refine TE_go ?_
            refine TC_seq ?_
            refine TC_reg ?_
            refine TL_ev env 2 rfl ⟨tv, ⟨⟨tv, tv⟩, tv⟩⟩ ?_
            obtain ⟨z, hr, h0⟩ := bnd h0
            rcases z with r491 | ⟨r492, r493⟩ | ⟨r494, r495, r496, r497⟩ | ⟨r498, r499, r500, r501, r502⟩
            · refine TL_callB [(0, 23101)] (psalterylaw04_ask.ok0 hr) psalterylaw04_ask.fnb rfl ⟨tv, ⟨tv, ⟨tv, tv⟩⟩⟩ rfl ⟨.inr rfl, tv⟩ rfl ?_
              refine TL_ev env 7 rfl ⟨tv, ⟨tv, ⟨tv, ⟨tv, ⟨tv, ⟨tv, ⟨tv, tv⟩⟩⟩⟩⟩⟩⟩ ?_
              refine TL_end ?_
              refine TE_go ?_
              refine TC_seq ?_
              obtain ⟨z1, h1, h0⟩ := bnd h0
              refine TC_cut (α := Bool) (fun s => z1 = s) (fun s => [(4, .bool s)]) (fun s => []) ?_ ?_
              · refine TC_reg ?_
                refine TL_ev env 9 rfl ⟨tv, ⟨tv, ⟨⟨tv, ⟨tv, tv⟩⟩, ⟨tv, ⟨fun eg => tv, ⟨fun eg => tv, ⟨fun eg => ⟨fun e => e, ⟨fun e => e, tv⟩⟩, ⟨⟨tv, ⟨fun e => e, tv⟩⟩, ⟨tv, tv⟩⟩⟩⟩⟩⟩⟩⟩⟩ ?_
                refine TL_split 88 rfl (fun hb => ?_) (fun hb => ?_)
                · replace h1 := bif_t h1 hb
                  refine TL_gt rfl rfl rfl rfl ?_
                  refine TL_ev env 1 rfl ⟨tv, tv⟩ ?_
                  refine TL_gt rfl rfl rfl rfl ?_
                  refine TL_ev env 1 rfl ⟨tv, tv⟩ ?_
                  refine TL_gt rfl rfl rfl rfl ?_
                  refine TL_frz 23102 rfl ?_
                  obtain ⟨r507, hr, h1⟩ := bnd h1
                  refine TL_callB [] (psalteryref04_Same_4.ok0 hr) psalteryref04_Same_4.fnb rfl ⟨tv, ⟨tv, ⟨tv, tv⟩⟩⟩ rfl tv rfl ?_
                  refine TL_ev env 2 rfl ⟨⟨tv, ⟨tv, tv⟩⟩, ⟨tv, tv⟩⟩ ?_
                  refine TL_split 93 rfl (fun hb => ?_) (fun hb => ?_)
                  · replace h1 := bif_t h1 hb
                    refine TL_gt rfl rfl rfl rfl ?_
                    refine TL_ev env 1 rfl ⟨tv, tv⟩ ?_
                    refine TL_gt rfl rfl rfl rfl ?_
                    refine TL_ev env 1 rfl ⟨tv, tv⟩ ?_
                    refine TL_gt rfl rfl rfl rfl ?_
                    obtain ⟨⟨⟩, hr, h1⟩ := bnd h1
                    refine TL_callB [] (psalteryref04_Same_3.ok0 hr) psalteryref04_Same_3.fnb rfl ⟨tv, ⟨tv, ⟨tv, tv⟩⟩⟩ rfl tv rfl ?_
                    refine TL_ev env 2 rfl ⟨⟨tv, ⟨tv, tv⟩⟩, ⟨tv, tv⟩⟩ ?_
                    refine TL_gt rfl rfl rfl rfl ?_
                    refine TL_ev env 1 rfl ⟨tv, tv⟩ ?_
                    refine TL_gt rfl rfl rfl rfl ?_
                    refine TL_ev env 1 rfl ⟨tv, tv⟩ ?_
                    refine TL_gt rfl rfl rfl rfl ?_
                    refine TL_ev env 1 rfl ⟨⟨tv, ⟨tv, tv⟩⟩, tv⟩ ?_
                    refine TL_gt rfl rfl rfl rfl ?_
                    refine TL_ev env 3 rfl ⟨⟨tv, ⟨tv, tv⟩⟩, ⟨⟨tv, ⟨tv, tv⟩⟩, ⟨tv, tv⟩⟩⟩ ?_
                    refine TL_split 104 rfl (fun hb => ?_) (fun hb => ?_)
                    · replace h1 := bif_t h1 hb
                      refine TL_gt rfl rfl rfl rfl ?_
                      refine TL_ev env 1 rfl ⟨tv, tv⟩ ?_
                      refine TL_gt rfl rfl rfl rfl ?_
                      obtain ⟨⟨⟩, hr, h1⟩ := bnd h1
                      refine TL_callB [(0, 23101)] (bank_Bank_Made.ok0 hr) bank_Bank_Made.fnb rfl ⟨tv, ⟨tv, tv⟩⟩ rfl ⟨.inr rfl, tv⟩ rfl ?_
                      refine TL_gt rfl rfl rfl rfl ?_
                      refine TL_ev env 1 rfl ⟨tv, tv⟩ ?_
                      refine TL_gt rfl rfl rfl rfl ?_
                      refine TL_ev env 3 rfl ⟨⟨tv, ⟨tv, tv⟩⟩, ⟨⟨tv, ⟨tv, tv⟩⟩, ⟨tv, tv⟩⟩⟩ ?_
                      refine TL_end ?_
                      obtain rfl := sinj h1
                      refine tsn ?_
                      exact SP_ren [] _ rfl ⟨rfl, tv⟩ tv rfl
                    · replace h1 := bif_f h1 hb
                      refine TL_gf (.bool false) rfl rfl rfl rfl rfl (by decide) ?_
                      refine TL_gf (.bool false) rfl rfl rfl rfl rfl (by decide) ?_
                      refine TL_gf (.bool false) rfl rfl rfl rfl rfl (by decide) ?_
                      refine TL_gf (.bool false) rfl rfl rfl rfl rfl (by decide) ?_
                      refine TL_ev env 2 rfl ⟨⟨tv, ⟨fun e => e, tv⟩⟩, ⟨tv, tv⟩⟩ ?_
                      refine TL_end ?_
                      obtain rfl := sinj h1
                      refine tsn ?_
                      exact SP_ren [] _ rfl ⟨rfl, tv⟩ tv rfl
                  · replace h1 := bif_f h1 hb
                    refine TL_gf (.bool false) rfl rfl rfl rfl rfl (by decide) ?_
                    refine TL_gf (.bool false) rfl rfl rfl rfl rfl (by decide) ?_
                    refine TL_gf (.bool false) rfl rfl rfl rfl rfl (by decide) ?_
                    refine TL_ev env 2 rfl ⟨⟨tv, ⟨fun e => e, tv⟩⟩, ⟨tv, tv⟩⟩ ?_
                    refine TL_gf (.bool false) rfl rfl rfl rfl rfl (by decide) ?_
                    refine TL_gf (.bool false) rfl rfl rfl rfl rfl (by decide) ?_
                    refine TL_gf (.bool false) rfl rfl rfl rfl rfl (by decide) ?_
                    refine TL_gf (.bool false) rfl rfl rfl rfl rfl (by decide) ?_
                    refine TL_ev env 2 rfl ⟨⟨tv, ⟨fun e => e, tv⟩⟩, ⟨tv, tv⟩⟩ ?_
                    refine TL_gf (.bool false) rfl rfl rfl rfl rfl (by decide) ?_
                    refine TL_gf (.bool false) rfl rfl rfl rfl rfl (by decide) ?_
                    refine TL_gf (.bool false) rfl rfl rfl rfl rfl (by decide) ?_
                    refine TL_gf (.bool false) rfl rfl rfl rfl rfl (by decide) ?_
                    refine TL_ev env 2 rfl ⟨⟨tv, ⟨fun e => e, tv⟩⟩, ⟨tv, tv⟩⟩ ?_
                    refine TL_end ?_
                    obtain rfl := sinj h1
                    refine tsn ?_
                    exact SP_ren [] _ rfl ⟨rfl, tv⟩ tv rfl
                · replace h1 := bif_f h1 hb
                  refine TL_gf (.bool false) rfl rfl rfl rfl rfl (by decide) ?_
                  refine TL_gf (.bool false) rfl rfl rfl rfl rfl (by decide) ?_
                  refine TL_gf (.bool false) rfl rfl rfl rfl rfl (by decide) ?_
                  refine TL_ev env 2 rfl ⟨⟨tv, ⟨fun e => e, tv⟩⟩, ⟨tv, tv⟩⟩ ?_
                  refine TL_gf (.bool false) rfl rfl rfl rfl rfl (by decide) ?_
                  refine TL_gf (.bool false) rfl rfl rfl rfl rfl (by decide) ?_
                  refine TL_gf (.bool false) rfl rfl rfl rfl rfl (by decide) ?_
                  refine TL_ev env 2 rfl ⟨⟨tv, ⟨fun e => e, tv⟩⟩, ⟨tv, tv⟩⟩ ?_
                  refine TL_gf (.bool false) rfl rfl rfl rfl rfl (by decide) ?_
                  refine TL_gf (.bool false) rfl rfl rfl rfl rfl (by decide) ?_
                  refine TL_gf (.bool false) rfl rfl rfl rfl rfl (by decide) ?_
                  refine TL_gf (.bool false) rfl rfl rfl rfl rfl (by decide) ?_
                  refine TL_ev env 2 rfl ⟨⟨tv, ⟨fun e => e, tv⟩⟩, ⟨tv, tv⟩⟩ ?_
                  refine TL_gf (.bool false) rfl rfl rfl rfl rfl (by decide) ?_
                  refine TL_gf (.bool false) rfl rfl rfl rfl rfl (by decide) ?_
                  refine TL_gf (.bool false) rfl rfl rfl rfl rfl (by decide) ?_
                  refine TL_gf (.bool false) rfl rfl rfl rfl rfl (by decide) ?_
                  refine TL_ev env 2 rfl ⟨⟨tv, ⟨fun e => e, tv⟩⟩, ⟨tv, tv⟩⟩ ?_
                  refine TL_end ?_
                  obtain rfl := sinj h1
                  refine tsn ?_
                  exact SP_ren [] _ rfl ⟨rfl, tv⟩ tv rfl
              · rintro x504 hz
                obtain rfl := hz.symm
                refine TE_go ?_
                refine TC_ret ?_
                obtain rfl := sinj h0
                exact TE_ret env rfl tv tv
            · exact (nsome h0).elim
            · exact (nsome h0).elim
            · refine TL_callB [(0, 23101), (1000, 500760)] (psalterylaw04_ask.ok3 hr) psalterylaw04_ask.fnb rfl ⟨tv, ⟨tv, ⟨tv, tv⟩⟩⟩ rfl ⟨.inr rfl, tv⟩ rfl ?_
              refine TL_ev env 7 rfl ⟨tv, ⟨tv, ⟨tv, ⟨tv, ⟨tv, ⟨tv, ⟨tv, tv⟩⟩⟩⟩⟩⟩⟩ ?_
              refine TL_end ?_
              refine TE_go ?_
              refine TC_seq ?_
              obtain ⟨z1, h1, h0⟩ := bnd h0
              refine TC_cut (α := Bool) (fun s => z1 = s) (fun s => [(4, .bool s)]) (fun s => []) ?_ ?_
              · refine TC_reg ?_
                refine TL_ev env 9 rfl ⟨tv, ⟨tv, ⟨⟨tv, ⟨tv, tv⟩⟩, ⟨tv, ⟨fun eg => tv, ⟨fun eg => tv, ⟨fun eg => ⟨fun e => e, ⟨fun e => e, tv⟩⟩, ⟨⟨tv, ⟨fun e => e, tv⟩⟩, ⟨tv, tv⟩⟩⟩⟩⟩⟩⟩⟩⟩ ?_
                refine TL_split 88 rfl (fun hb => ?_) (fun hb => ?_)
                · replace h1 := bif_t h1 hb
                  refine TL_gt rfl rfl rfl rfl ?_
                  refine TL_ev env 1 rfl ⟨tv, tv⟩ ?_
                  refine TL_gt rfl rfl rfl rfl ?_
                  refine TL_ev env 1 rfl ⟨tv, tv⟩ ?_
                  refine TL_gt rfl rfl rfl rfl ?_
                  refine TL_frz 23102 rfl ?_
                  obtain ⟨r515, hr, h1⟩ := bnd h1
                  refine TL_callB [] (psalteryref04_Same_4.ok0 hr) psalteryref04_Same_4.fnb rfl ⟨tv, ⟨tv, ⟨tv, tv⟩⟩⟩ rfl tv rfl ?_
                  refine TL_ev env 2 rfl ⟨⟨tv, ⟨tv, tv⟩⟩, ⟨tv, tv⟩⟩ ?_
                  refine TL_split 93 rfl (fun hb => ?_) (fun hb => ?_)
                  · replace h1 := bif_t h1 hb
                    refine TL_gt rfl rfl rfl rfl ?_
                    refine TL_ev env 1 rfl ⟨tv, tv⟩ ?_
                    refine TL_gt rfl rfl rfl rfl ?_
                    refine TL_ev env 1 rfl ⟨tv, tv⟩ ?_
                    refine TL_gt rfl rfl rfl rfl ?_
                    refine TL_frz 500760 rfl ?_
                    obtain ⟨r516, hr, h1⟩ := bnd h1
                    refine TL_callB [] (psalteryref04_Same.ok0 hr) psalteryref04_Same.fnb rfl ⟨tv, ⟨tv, ⟨tv, tv⟩⟩⟩ rfl tv rfl ?_
                    refine TL_ev env 8 rfl ⟨⟨tv, ⟨tv, tv⟩⟩, ⟨tv, ⟨fun eg => tv, ⟨fun eg => tv, ⟨fun eg => ⟨fun e => e, ⟨fun e => e, tv⟩⟩, ⟨fun eg => ⟨fun e => e, ⟨tv, tv⟩⟩, ⟨⟨tv, ⟨fun e => e, tv⟩⟩, ⟨tv, tv⟩⟩⟩⟩⟩⟩⟩⟩ ?_
                    refine TL_split 104 rfl (fun hb => ?_) (fun hb => ?_)
                    · replace h1 := bif_t h1 hb
                      refine TL_gt rfl rfl rfl rfl ?_
                      refine TL_ev env 1 rfl ⟨tv, tv⟩ ?_
                      refine TL_gt rfl rfl rfl rfl ?_
                      obtain ⟨⟨⟩, hr, h1⟩ := bnd h1
                      refine TL_callB [(0, 23101)] (bank_Bank_Made.ok0 hr) bank_Bank_Made.fnb rfl ⟨tv, ⟨tv, tv⟩⟩ rfl ⟨.inr rfl, tv⟩ rfl ?_
                      refine TL_gt rfl rfl rfl rfl ?_
                      refine TL_ev env 1 rfl ⟨tv, tv⟩ ?_
                      refine TL_gt rfl rfl rfl rfl ?_
                      refine TL_ev env 3 rfl ⟨⟨tv, ⟨tv, tv⟩⟩, ⟨⟨tv, ⟨tv, tv⟩⟩, ⟨tv, tv⟩⟩⟩ ?_
                      refine TL_end ?_
                      obtain rfl := sinj h1
                      refine tsn ?_
                      exact SP_ren [] _ rfl ⟨rfl, tv⟩ tv rfl
                    · replace h1 := bif_f h1 hb
                      refine TL_gf (.bool false) rfl rfl rfl rfl rfl (by decide) ?_
                      refine TL_gf (.bool false) rfl rfl rfl rfl rfl (by decide) ?_
                      refine TL_gf (.bool false) rfl rfl rfl rfl rfl (by decide) ?_
                      refine TL_gf (.bool false) rfl rfl rfl rfl rfl (by decide) ?_
                      refine TL_ev env 2 rfl ⟨⟨tv, ⟨fun e => e, tv⟩⟩, ⟨tv, tv⟩⟩ ?_
                      refine TL_end ?_
                      obtain rfl := sinj h1
                      refine tsn ?_
                      exact SP_ren [] _ rfl ⟨rfl, tv⟩ tv rfl
                  · replace h1 := bif_f h1 hb
                    refine TL_gf (.bool false) rfl rfl rfl rfl rfl (by decide) ?_
                    refine TL_gf (.bool false) rfl rfl rfl rfl rfl (by decide) ?_
                    refine TL_gf (.bool false) rfl rfl rfl rfl rfl (by decide) ?_
                    refine TL_ev env 2 rfl ⟨⟨tv, ⟨fun e => e, tv⟩⟩, ⟨tv, tv⟩⟩ ?_
                    refine TL_gf (.bool false) rfl rfl rfl rfl rfl (by decide) ?_
                    refine TL_gf (.bool false) rfl rfl rfl rfl rfl (by decide) ?_
                    refine TL_gf (.bool false) rfl rfl rfl rfl rfl (by decide) ?_
                    refine TL_gf (.bool false) rfl rfl rfl rfl rfl (by decide) ?_
                    refine TL_ev env 2 rfl ⟨⟨tv, ⟨fun e => e, tv⟩⟩, ⟨tv, tv⟩⟩ ?_
                    refine TL_gf (.bool false) rfl rfl rfl rfl rfl (by decide) ?_
                    refine TL_gf (.bool false) rfl rfl rfl rfl rfl (by decide) ?_
                    refine TL_gf (.bool false) rfl rfl rfl rfl rfl (by decide) ?_
                    refine TL_gf (.bool false) rfl rfl rfl rfl rfl (by decide) ?_
                    refine TL_ev env 2 rfl ⟨⟨tv, ⟨fun e => e, tv⟩⟩, ⟨tv, tv⟩⟩ ?_
                    refine TL_end ?_
                    obtain rfl := sinj h1
                    refine tsn ?_
                    exact SP_ren [] _ rfl ⟨rfl, tv⟩ tv rfl
                · replace h1 := bif_f h1 hb
                  refine TL_gf (.bool false) rfl rfl rfl rfl rfl (by decide) ?_
                  refine TL_gf (.bool false) rfl rfl rfl rfl rfl (by decide) ?_
                  refine TL_gf (.bool false) rfl rfl rfl rfl rfl (by decide) ?_
                  refine TL_ev env 2 rfl ⟨⟨tv, ⟨fun e => e, tv⟩⟩, ⟨tv, tv⟩⟩ ?_
                  refine TL_gf (.bool false) rfl rfl rfl rfl rfl (by decide) ?_
                  refine TL_gf (.bool false) rfl rfl rfl rfl rfl (by decide) ?_
                  refine TL_gf (.bool false) rfl rfl rfl rfl rfl (by decide) ?_
                  refine TL_ev env 2 rfl ⟨⟨tv, ⟨fun e => e, tv⟩⟩, ⟨tv, tv⟩⟩ ?_
                  refine TL_gf (.bool false) rfl rfl rfl rfl rfl (by decide) ?_
                  refine TL_gf (.bool false) rfl rfl rfl rfl rfl (by decide) ?_
                  refine TL_gf (.bool false) rfl rfl rfl rfl rfl (by decide) ?_
                  refine TL_gf (.bool false) rfl rfl rfl rfl rfl (by decide) ?_
                  refine TL_ev env 2 rfl ⟨⟨tv, ⟨fun e => e, tv⟩⟩, ⟨tv, tv⟩⟩ ?_
                  refine TL_gf (.bool false) rfl rfl rfl rfl rfl (by decide) ?_
                  refine TL_gf (.bool false) rfl rfl rfl rfl rfl (by decide) ?_
                  refine TL_gf (.bool false) rfl rfl rfl rfl rfl (by decide) ?_
                  refine TL_gf (.bool false) rfl rfl rfl rfl rfl (by decide) ?_
                  refine TL_ev env 2 rfl ⟨⟨tv, ⟨fun e => e, tv⟩⟩, ⟨tv, tv⟩⟩ ?_
                  refine TL_end ?_
                  obtain rfl := sinj h1
                  refine tsn ?_
                  exact SP_ren [] _ rfl ⟨rfl, tv⟩ tv rfl
              · rintro x513 hz
                obtain rfl := hz.symm
                refine TE_go ?_
                refine TC_ret ?_
                obtain rfl := sinj h0
                exact TE_ret env rfl tv tv
          · exact (nsome h0).elim
          · exact (nsome h0).elim
          · refine TL_callB [(0, 23101), (1000, 500670)] (psalterylaw04_ask.ok3 hr) psalterylaw04_ask.fnb rfl ⟨tv, ⟨tv, ⟨tv, tv⟩⟩⟩ rfl ⟨.inr rfl, tv⟩ rfl ?_
            refine TL_ev env 7 rfl ⟨tv, ⟨tv, ⟨tv, ⟨tv, ⟨tv, ⟨tv, ⟨tv, tv⟩⟩⟩⟩⟩⟩⟩ ?_
            refine TL_end ?_
            refine TE_go ?_
            refine TC_seq ?_
            refine TC_reg ?_
            refine TL_ev env 1 rfl ⟨tv, tv⟩ ?_
            obtain ⟨⟨⟩, hr, h0⟩ := bnd h0
            refine TL_callB [(0, 23101)] (bank_Bank_Made.ok0 hr) bank_Bank_Made.fnb rfl ⟨tv, ⟨tv, tv⟩⟩ rfl ⟨.inr rfl, tv⟩ rfl ?_
            refine TL_ev env 1 rfl ⟨tv, tv⟩ ?_
            refine TL_end ?_
            refine TE_go ?_
            refine TC_seq ?_
            refine TC_reg ?_
            refine TL_ev env 2 rfl ⟨tv, ⟨⟨tv, tv⟩, tv⟩⟩ ?_
            obtain ⟨z, hr, h0⟩ := bnd h0
            rcases z with r521 | ⟨r522, r523⟩ | ⟨r524, r525, r526, r527⟩ | ⟨r528, r529, r530, r531, r532⟩
            · refine TL_callB [(0, 23101)] (psalterylaw04_ask.ok0 hr) psalterylaw04_ask.fnb rfl ⟨tv, ⟨tv, ⟨tv, tv⟩⟩⟩ rfl ⟨.inr rfl, tv⟩ rfl ?_
              refine TL_ev env 7 rfl ⟨tv, ⟨tv, ⟨tv, ⟨tv, ⟨tv, ⟨tv, ⟨tv, tv⟩⟩⟩⟩⟩⟩⟩ ?_
              refine TL_end ?_
              refine TE_go ?_
              refine TC_seq ?_
              obtain ⟨z1, h1, h0⟩ := bnd h0
              refine TC_cut (α := Bool) (fun s => z1 = s) (fun s => [(4, .bool s)]) (fun s => []) ?_ ?_
              · refine TC_reg ?_
                refine TL_ev env 4 rfl ⟨tv, ⟨tv, ⟨⟨tv, ⟨tv, tv⟩⟩, ⟨tv, tv⟩⟩⟩⟩ ?_
                refine TL_gt rfl rfl rfl rfl ?_
                refine TL_ev env 1 rfl ⟨tv, tv⟩ ?_
                refine TL_gt rfl rfl rfl rfl ?_
                refine TL_ev env 1 rfl ⟨tv, tv⟩ ?_
                refine TL_gt rfl rfl rfl rfl ?_
                refine TL_ev env 3 rfl ⟨⟨tv, ⟨tv, tv⟩⟩, ⟨⟨tv, ⟨tv, tv⟩⟩, ⟨tv, tv⟩⟩⟩ ?_
                refine TL_split 88 rfl (fun hb => ?_) (fun hb => ?_)
                · replace h1 := bif_t h1 hb
                  refine TL_gt rfl rfl rfl rfl ?_
                  refine TL_ev env 1 rfl ⟨tv, tv⟩ ?_
                  refine TL_gt rfl rfl rfl rfl ?_
                  refine TL_ev env 1 rfl ⟨tv, tv⟩ ?_
                  refine TL_gt rfl rfl rfl rfl ?_
                  refine TL_frz 23102 rfl ?_
                  refine TL_frz 500670 rfl ?_
                  obtain ⟨r536, hr, h1⟩ := bnd h1
                  refine TL_callB [] (psalteryref04_Same_2.ok0 hr) psalteryref04_Same_2.fnb rfl ⟨tv, ⟨tv, ⟨tv, tv⟩⟩⟩ rfl tv rfl ?_
                  refine TL_ev env 2 rfl ⟨⟨tv, ⟨tv, tv⟩⟩, ⟨tv, tv⟩⟩ ?_
                  refine TL_split 93 rfl (fun hb => ?_) (fun hb => ?_)
                  · replace h1 := bif_t h1 hb
                    refine TL_gt rfl rfl rfl rfl ?_
                    refine TL_ev env 1 rfl ⟨tv, tv⟩ ?_
                    refine TL_gt rfl rfl rfl rfl ?_
                    refine TL_ev env 1 rfl ⟨tv, tv⟩ ?_
                    refine TL_gt rfl rfl rfl rfl ?_
                    obtain ⟨r537, hr, h1⟩ := bnd h1
                    refine TL_callB [] (psalteryref04_Same_4.ok0 hr) psalteryref04_Same_4.fnb rfl ⟨tv, ⟨tv, ⟨tv, tv⟩⟩⟩ rfl tv rfl ?_
                    refine TL_ev env 8 rfl ⟨⟨tv, ⟨tv, tv⟩⟩, ⟨tv, ⟨fun eg => tv, ⟨fun eg => tv, ⟨fun eg => ⟨fun e => e, ⟨fun e => e, tv⟩⟩, ⟨fun eg => ⟨fun e => e, ⟨tv, tv⟩⟩, ⟨⟨tv, ⟨fun e => e, tv⟩⟩, ⟨tv, tv⟩⟩⟩⟩⟩⟩⟩⟩ ?_
                    refine TL_split 104 rfl (fun hb => ?_) (fun hb => ?_)
                    · replace h1 := bif_t h1 hb
                      refine TL_gt rfl rfl rfl rfl ?_
                      refine TL_ev env 1 rfl ⟨tv, tv⟩ ?_
                      refine TL_gt rfl rfl rfl rfl ?_
                      obtain ⟨⟨⟩, hr, h1⟩ := bnd h1
                      refine TL_callB [(0, 23101)] (bank_Bank_Made.ok0 hr) bank_Bank_Made.fnb rfl ⟨tv, ⟨tv, tv⟩⟩ rfl ⟨.inr rfl, tv⟩ rfl ?_
                      refine TL_gt rfl rfl rfl rfl ?_
                      refine TL_ev env 1 rfl ⟨tv, tv⟩ ?_
                      refine TL_gt rfl rfl rfl rfl ?_
                      refine TL_ev env 3 rfl ⟨⟨tv, ⟨tv, tv⟩⟩, ⟨⟨tv, ⟨tv, tv⟩⟩, ⟨tv, tv⟩⟩⟩ ?_
                      refine TL_end ?_
                      obtain rfl := sinj h1
                      refine tsn ?_
                      exact SP_ren [] _ rfl ⟨rfl, tv⟩ tv rfl
                    · replace h1 := bif_f h1 hb
                      refine TL_gf (.bool false) rfl rfl rfl rfl rfl (by decide) ?_
                      refine TL_gf (.bool false) rfl rfl rfl rfl rfl (by decide) ?_
                      refine TL_gf (.bool false) rfl rfl rfl rfl rfl (by decide) ?_
                      refine TL_gf (.bool false) rfl rfl rfl rfl rfl (by decide) ?_
                      refine TL_ev env 2 rfl ⟨⟨tv, ⟨fun e => e, tv⟩⟩, ⟨tv, tv⟩⟩ ?_
                      refine TL_end ?_
                      obtain rfl := sinj h1
                      refine tsn ?_
                      exact SP_ren [] _ rfl ⟨rfl, tv⟩ tv rfl
                  · replace h1 := bif_f h1 hb
                    refine TL_gf (.bool false) rfl rfl rfl rfl rfl (by decide) ?_
                    refine TL_gf (.bool false) rfl rfl rfl rfl rfl (by decide) ?_
                    refine TL_gf (.bool false) rfl rfl rfl rfl rfl (by decide) ?_
                    refine TL_ev env 2 rfl ⟨⟨tv, ⟨fun e => e, tv⟩⟩, ⟨tv, tv⟩⟩ ?_
                    refine TL_gf (.bool false) rfl rfl rfl rfl rfl (by decide) ?_
                    refine TL_gf (.bool false) rfl rfl rfl rfl rfl (by decide) ?_
                    refine TL_gf (.bool false) rfl rfl rfl rfl rfl (by decide) ?_
                    refine TL_gf (.bool false) rfl rfl rfl rfl rfl (by decide) ?_
                    refine TL_ev env 2 rfl ⟨⟨tv, ⟨fun e => e, tv⟩⟩, ⟨tv, tv⟩⟩ ?_
                    refine TL_gf (.bool false) rfl rfl rfl rfl rfl (by decide) ?_
                    refine TL_gf (.bool false) rfl rfl rfl rfl rfl (by decide) ?_
                    refine TL_gf (.bool false) rfl rfl rfl rfl rfl (by decide) ?_
                    refine TL_gf (.bool false) rfl rfl rfl rfl rfl (by decide) ?_
                    refine TL_ev env 2 rfl ⟨⟨tv, ⟨fun e => e, tv⟩⟩, ⟨tv, tv⟩⟩ ?_
                    refine TL_end ?_
                    obtain rfl := sinj h1
                    refine tsn ?_
                    exact SP_ren [] _ rfl ⟨rfl, tv⟩ tv rfl
                · replace h1 := bif_f h1 hb
                  refine TL_gf (.bool false) rfl rfl rfl rfl rfl (by decide) ?_
                  refine TL_gf (.bool false) rfl rfl rfl rfl rfl (by decide) ?_
                  refine TL_gf (.bool false) rfl rfl rfl rfl rfl (by decide) ?_
                  refine TL_ev env 2 rfl ⟨⟨tv, ⟨fun e => e, tv⟩⟩, ⟨tv, tv⟩⟩ ?_
                  refine TL_gf (.bool false) rfl rfl rfl rfl rfl (by decide) ?_
                  refine TL_gf (.bool false) rfl rfl rfl rfl rfl (by decide) ?_
                  refine TL_gf (.bool false) rfl rfl rfl rfl rfl (by decide) ?_
                  refine TL_ev env 2 rfl ⟨⟨tv, ⟨fun e => e, tv⟩⟩, ⟨tv, tv⟩⟩ ?_
                  refine TL_gf (.bool false) rfl rfl rfl rfl rfl (by decide) ?_
                  refine TL_gf (.bool false) rfl rfl rfl rfl rfl (by decide) ?_
                  refine TL_gf (.bool false) rfl rfl rfl rfl rfl (by decide) ?_
                  refine TL_gf (.bool false) rfl rfl rfl rfl rfl (by decide) ?_
                  refine TL_ev env 2 rfl ⟨⟨tv, ⟨fun e => e, tv⟩⟩, ⟨tv, tv⟩⟩ ?_
                  refine TL_gf (.bool false) rfl rfl rfl rfl rfl (by decide) ?_
                  refine TL_gf (.bool false) rfl rfl rfl rfl rfl (by decide) ?_
                  refine TL_gf (.bool false) rfl rfl rfl rfl rfl (by decide) ?_
                  refine TL_gf (.bool false) rfl rfl rfl rfl rfl (by decide) ?_
                  refine TL_ev env 2 rfl ⟨⟨tv, ⟨fun e => e, tv⟩⟩, ⟨tv, tv⟩⟩ ?_
                  refine TL_end ?_
                  obtain rfl := sinj h1
                  refine tsn ?_
                  exact SP_ren [] _ rfl ⟨rfl, tv⟩ tv rfl
              · rintro x535 hz
                obtain rfl := hz.symm
                refine TE_go ?_
                refine TC_ret ?_
                obtain rfl := sinj h0
                exact TE_ret env rfl tv tv
            · exact (nsome h0).elim
            · exact (nsome h0).elim
            · refine TL_callB [(0, 23101), (1000, 500760)] (psalterylaw04_ask.ok3 hr) psalterylaw04_ask.fnb rfl ⟨tv, ⟨tv, ⟨tv, tv⟩⟩⟩ rfl ⟨.inr rfl, tv⟩ rfl ?_
              refine TL_ev env 7 rfl ⟨tv, ⟨tv, ⟨tv, ⟨tv, ⟨tv, ⟨tv, ⟨tv, tv⟩⟩⟩⟩⟩⟩⟩ ?_
              refine TL_end ?_
              refine TE_go ?_
              refine TC_seq ?_
              obtain ⟨z1, h1, h0⟩ := bnd h0
              refine TC_cut (α := Bool) (fun s => z1 = s) (fun s => [(4, .bool s)]) (fun s => []) ?_ ?_
              · refine TC_reg ?_
                refine TL_ev env 4 rfl ⟨tv, ⟨tv, ⟨⟨tv, ⟨tv, tv⟩⟩, ⟨tv, tv⟩⟩⟩⟩ ?_
                refine TL_gt rfl rfl rfl rfl ?_
                refine TL_ev env 1 rfl ⟨tv, tv⟩ ?_
                refine TL_gt rfl rfl rfl rfl ?_
                refine TL_ev env 1 rfl ⟨tv, tv⟩ ?_
                refine TL_gt rfl rfl rfl rfl ?_
                refine TL_ev env 3 rfl ⟨⟨tv, ⟨tv, tv⟩⟩, ⟨⟨tv, ⟨tv, tv⟩⟩, ⟨tv, tv⟩⟩⟩ ?_
                refine TL_gt rfl rfl rfl rfl ?_
                refine TL_ev env 1 rfl ⟨tv, tv⟩ ?_
                refine TL_gt rfl rfl rfl rfl ?_
                refine TL_ev env 1 rfl ⟨tv, tv⟩ ?_
                refine TL_gt rfl rfl rfl rfl ?_
                refine TL_frz 23102 rfl ?_
                refine TL_frz 500670 rfl ?_
                obtain ⟨r545, hr, h1⟩ := bnd h1
                refine TL_callB [] (psalteryref04_Same_2.ok0 hr) psalteryref04_Same_2.fnb rfl ⟨tv, ⟨tv, ⟨tv, tv⟩⟩⟩ rfl tv rfl ?_
                refine TL_ev env 2 rfl ⟨⟨tv, ⟨tv, tv⟩⟩, ⟨tv, tv⟩⟩ ?_
                refine TL_split 93 rfl (fun hb => ?_) (fun hb => ?_)
                · replace h1 := bif_t h1 hb
                  refine TL_gt rfl rfl rfl rfl ?_
                  refine TL_ev env 1 rfl ⟨tv, tv⟩ ?_
                  refine TL_gt rfl rfl rfl rfl ?_
                  refine TL_ev env 1 rfl ⟨tv, tv⟩ ?_
                  refine TL_gt rfl rfl rfl rfl ?_
                  refine TL_frz 500760 rfl ?_
                  obtain ⟨r546, hr, h1⟩ := bnd h1
                  refine TL_callB [] (psalteryref04_Same_2.ok0 hr) psalteryref04_Same_2.fnb rfl ⟨tv, ⟨tv, ⟨tv, tv⟩⟩⟩ rfl tv rfl ?_
                  refine TL_ev env 8 rfl ⟨⟨tv, ⟨tv, tv⟩⟩, ⟨tv, ⟨fun eg => tv, ⟨fun eg => tv, ⟨fun eg => ⟨fun e => e, ⟨fun e => e, tv⟩⟩, ⟨fun eg => ⟨fun e => e, ⟨tv, tv⟩⟩, ⟨⟨tv, ⟨fun e => e, tv⟩⟩, ⟨tv, tv⟩⟩⟩⟩⟩⟩⟩⟩ ?_
                  refine TL_split 104 rfl (fun hb => ?_) (fun hb => ?_)
                  · replace h1 := bif_t h1 hb
                    refine TL_gt rfl rfl rfl rfl ?_
                    refine TL_ev env 1 rfl ⟨tv, tv⟩ ?_
                    refine TL_gt rfl rfl rfl rfl ?_
                    obtain ⟨⟨⟩, hr, h1⟩ := bnd h1
                    refine TL_callB [(0, 23101)] (bank_Bank_Made.ok0 hr) bank_Bank_Made.fnb rfl ⟨tv, ⟨tv, tv⟩⟩ rfl ⟨.inr rfl, tv⟩ rfl ?_
                    refine TL_gt rfl rfl rfl rfl ?_
                    refine TL_ev env 1 rfl ⟨tv, tv⟩ ?_
                    refine TL_gt rfl rfl rfl rfl ?_
                    refine TL_ev env 3 rfl ⟨⟨tv, ⟨tv, tv⟩⟩, ⟨⟨tv, ⟨tv, tv⟩⟩, ⟨tv, tv⟩⟩⟩ ?_
                    refine TL_end ?_
                    obtain rfl := sinj h1
                    refine tsn ?_
                    exact SP_ren [] _ rfl ⟨rfl, tv⟩ tv rfl
                  · replace h1 := bif_f h1 hb
                    refine TL_gf (.bool false) rfl rfl rfl rfl rfl (by decide) ?_
                    refine TL_gf (.bool false) rfl rfl rfl rfl rfl (by decide) ?_
                    refine TL_gf (.bool false) rfl rfl rfl rfl rfl (by decide) ?_
                    refine TL_gf (.bool false) rfl rfl rfl rfl rfl (by decide) ?_
                    refine TL_ev env 2 rfl ⟨⟨tv, ⟨fun e => e, tv⟩⟩, ⟨tv, tv⟩⟩ ?_
                    refine TL_end ?_
                    obtain rfl := sinj h1
                    refine tsn ?_
                    exact SP_ren [] _ rfl ⟨rfl, tv⟩ tv rfl
                · replace h1 := bif_f h1 hb
                  refine TL_gf (.bool false) rfl rfl rfl rfl rfl (by decide) ?_
                  refine TL_gf (.bool false) rfl rfl rfl rfl rfl (by decide) ?_
                  refine TL_gf (.bool false) rfl rfl rfl rfl rfl (by decide) ?_
                  refine TL_ev env 2 rfl ⟨⟨tv, ⟨fun e => e, tv⟩⟩, ⟨tv, tv⟩⟩ ?_
                  refine TL_gf (.bool false) rfl rfl rfl rfl rfl (by decide) ?_
                  refine TL_gf (.bool false) rfl rfl rfl rfl rfl (by decide) ?_
                  refine TL_gf (.bool false) rfl rfl rfl rfl rfl (by decide) ?_
                  refine TL_gf (.bool false) rfl rfl rfl rfl rfl (by decide) ?_
                  refine TL_ev env 2 rfl ⟨⟨tv, ⟨fun e => e, tv⟩⟩, ⟨tv, tv⟩⟩ ?_
                  refine TL_gf (.bool false) rfl rfl rfl rfl rfl (by decide) ?_
                  refine TL_gf (.bool false) rfl rfl rfl rfl rfl (by decide) ?_
                  refine TL_gf (.bool false) rfl rfl rfl rfl rfl (by decide) ?_
                  refine TL_gf (.bool false) rfl rfl rfl rfl rfl (by decide) ?_
                  refine TL_ev env 2 rfl ⟨⟨tv, ⟨fun e => e, tv⟩⟩, ⟨tv, tv⟩⟩ ?_
                  refine TL_end ?_
                  obtain rfl := sinj h1
                  refine tsn ?_
                  exact SP_ren [] _ rfl ⟨rfl, tv⟩ tv rfl
              · rintro x544 hz
                obtain rfl := hz.symm
                refine TE_go ?_
                refine TC_ret ?_
                obtain rfl := sinj h0
                exact TE_ret env rfl tv tv
theorem psalterylaw04_BankOnce.ok0 {K : Nat} {p0 : List ((Int × Int))} {p1 : Int} {p2 : Int} {q0 : Bool} (h0 : psalterylaw04_BankOnce K p0 p1 p2 = some q0) : Fn Try.prog 14 [.im (.slice (.pair (.int .i64) (.int .i64))) p0, .agg [.int .i64 p1, .int .i64 p2]] [] (.bool q0) [] := psalterylaw04_BankOnce.ok h0
theorem psalterylaw04_BankOnce.fnb : fnb Try.prog 14 = true := fnb_of Try.func14 rfl
end Go.Fo
