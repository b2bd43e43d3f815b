/- Each call comes to the function that is written for it. -/
import Derived.Test.YtcaehpgdcjonfaaWpT
import Derived.Test.YtcaehpgdcjonfaaWpF
namespace Go.Fo
open Go.Proofs
set_option maxRecDepth 20000
def weather_Check.res (_p0 : Int) (_p1 : Int) (_p2 : Int) (_p3 : Int) : Int → MV
  | q0 => .int .i64 q0
def weather_Check.out (_p0 : Int) (_p1 : Int) (_p2 : Int) (_p3 : Int) : Int → List (Nat × Option MObj)
  | _ => []
theorem weather_Check.ok {K : Nat} {p0 : Int} {p1 : Int} {p2 : Int} {p3 : Int} {r : Int} (h0 : weather_Check K p0 p1 p2 p3 = some r) : Fn Try.prog 24 [.agg [.int .i64 p0, .int .i64 p1, .int .i64 p2, .int .i64 p3]] [] (weather_Check.res p0 p1 p2 p3 r) (weather_Check.out p0 p1 p2 p3 r) := by
  refine Fn_of Try.func24 rfl (Nat.le_of_ble_eq_true rfl) fun Γ => ?_
  refine TC_seq ?_
  refine TC_reg ?_
  refine TL_ev env 2 rfl ⟨trivial, ⟨trivial, trivial⟩⟩ ?_
  refine TL_end ?_
  refine TE_go ?_
  refine TC_seq ?_
  refine TC_seq ?_
  refine TC_reg ?_
  refine TL_ev env 10 rfl ⟨trivial, ⟨⟨trivial, trivial⟩, ⟨trivial, ⟨⟨trivial, trivial⟩, ⟨trivial, ⟨⟨trivial, trivial⟩, ⟨trivial, ⟨⟨trivial, trivial⟩, ⟨⟨trivial, ⟨trivial, ⟨trivial, ⟨trivial, trivial⟩⟩⟩⟩, ⟨trivial, trivial⟩⟩⟩⟩⟩⟩⟩⟩⟩⟩ ?_
  refine TL_end ?_
  refine TE_go ?_
  obtain ⟨z1, h1, h0⟩ := bnd h0
  refine TC_cut (α := Unit) (fun _ => z1 = .inl ()) (fun _ => []) (fun _ => []) ?_ ?_
  · refine TC_blk ?_
    refine TC_loop (α := Int) (fun n s => weather_Check.l0 K p0 p1 p2 p3 n s = some z1) (fun s => [(13, .agg [.int .i64 p0, .int .i64 p1, .int .i64 p2, .int .i64 p3]), (14, .int .i64 s)]) (fun s => []) K ?_ ?_
    · exact SP_ren [] _ h1 ⟨rfl, rfl, trivial⟩ trivial rfl
    rintro n x5 h1
    rcases n with _ | n
    · exact (nsome h1).elim
    replace h1 : weather_Check.r0 K p0 p1 p2 p3 (weather_Check.l0 K p0 p1 p2 p3 n) x5 = some z1 := h1
    refine TC_seq ?_
    refine TC_reg ?_
    refine TL_ev env 1 rfl ⟨⟨trivial, ⟨trivial, trivial⟩⟩, trivial⟩ ?_
    refine TL_end ?_
    refine TE_go ?_
    refine TC_seq ?_
    refine TC_cond rfl (fun hb => ?_) (fun hb => ?_)
    · replace h1 := bif_t h1 hb
      refine TC_skip ?_
      refine TE_go ?_
      refine TC_seq ?_
      refine TC_blk ?_
      refine TC_seq ?_
      refine TC_reg ?_
      obtain ⟨g, h1⟩ := gd_t h1
      refine TL_ev env 2 rfl ⟨⟨trivial, ⟨trivial, ⟨g.1, g.2⟩⟩⟩, ⟨trivial, trivial⟩⟩ ?_
      refine TL_end ?_
      refine TE_go ?_
      refine TC_seq ?_
      refine TC_reg ?_
      refine TL_ev env 6 rfl ⟨trivial, ⟨⟨trivial, ⟨trivial, trivial⟩⟩, ⟨trivial, ⟨fun _ => trivial, ⟨fun _ => ⟨fun e => e, ⟨trivial, trivial⟩⟩, ⟨⟨trivial, ⟨trivial, fun e => e⟩⟩, trivial⟩⟩⟩⟩⟩⟩ ?_
      refine TL_end ?_
      refine TE_go ?_
      refine TC_cond rfl (fun hb => ?_) (fun hb => ?_)
      · replace h1 := bif_t h1 hb
        refine TC_seq ?_
        refine TC_reg ?_
        refine TL_ev env 1 rfl ⟨trivial, trivial⟩ ?_
        refine TL_end ?_
        refine TE_go ?_
        refine TC_ret ?_
        refine tbr ?_
        refine tsr ?_
        refine tsr ?_
        refine tbr ?_
        refine tsr ?_
        refine tsr ?_
        obtain rfl := sinj h1
        obtain rfl := sinj h0
        exact TE_ret env rfl trivial trivial
      · replace h1 := bif_f h1 hb
        refine TC_skip ?_
        refine tbn ?_
        refine TE_go ?_
        refine TC_reg ?_
        refine TL_ev env 2 rfl ⟨⟨trivial, ⟨trivial, trivial⟩⟩, ⟨trivial, trivial⟩⟩ ?_
        refine TL_end ?_
        refine tsn ?_
        exact TE_nextr [] n (Nat.lt_succ_self n) _ h1 ⟨rfl, rfl, trivial⟩ trivial rfl
    · replace h1 := bif_f h1 hb
      refine TC_exit ?_
      refine tsx ?_
      refine tsx ?_
      refine tbe ?_
      obtain rfl := sinj h1
      refine tsn ?_
      exact SP_ren [] () rfl trivial trivial rfl
  · rintro ⟨⟩ rfl
    refine TE_go ?_
    refine TC_seq ?_
    refine TC_reg ?_
    refine TL_ev env 1 rfl ⟨trivial, trivial⟩ ?_
    refine TL_end ?_
    refine TE_go ?_
    refine TC_ret ?_
    obtain rfl := sinj h0
    exact TE_ret env rfl trivial trivial
theorem weather_Check.ok0 {K : Nat} {p0 : Int} {p1 : Int} {p2 : Int} {p3 : Int} {q0 : Int} (h0 : weather_Check K p0 p1 p2 p3 = some q0) : Fn Try.prog 24 [.agg [.int .i64 p0, .int .i64 p1, .int .i64 p2, .int .i64 p3]] [] (.int .i64 q0) [] := weather_Check.ok h0
theorem weather_Check.fnb : fnb Try.prog 24 = true := fnb_of Try.func24 rfl
def weather_New.res (_p0 : Int) (_p1 : Int) (_p2 : Int) (_p3 : Int) (_p4 : Int) : (Int) ⊕ (Unit) → MV
  | .inl q0 => .tup [.nilp, .int .i64 q0]
  | .inr () => .tup [.p 1000 0, .int .i64 0]
def weather_New.out (p0 : Int) (p1 : Int) (p2 : Int) (p3 : Int) (p4 : Int) : (Int) ⊕ (Unit) → List (Nat × Option MObj)
  | .inl _ => []
  | .inr () => [(1000, some (.cells [.int .i64 p0, .int .i64 p1, .int .i64 p2, .int .i64 p3, .int .u32 p4, .bool false]))]
theorem weather_New.ok {K : Nat} {p0 : Int} {p1 : Int} {p2 : Int} {p3 : Int} {p4 : Int} {r : (Int) ⊕ (Unit)} (h0 : weather_New K p0 p1 p2 p3 p4 = some r) : Fn Try.prog 22 [.agg [.int .i64 p0, .int .i64 p1, .int .i64 p2, .int .i64 p3], .int .u32 p4] [] (weather_New.res p0 p1 p2 p3 p4 r) (weather_New.out p0 p1 p2 p3 p4 r) := by
  refine Fn_of Try.func22 rfl (Nat.le_of_ble_eq_true rfl) fun Γ => ?_
  refine TC_seq ?_
  refine TC_reg ?_
  refine TL_ev env 3 rfl ⟨trivial, ⟨trivial, ⟨trivial, trivial⟩⟩⟩ ?_
  refine TL_end ?_
  refine TE_go ?_
  refine TC_seq ?_
  refine TC_seq ?_
  refine TC_reg ?_
  refine TL_ev env 1 rfl ⟨⟨trivial, trivial⟩, trivial⟩ ?_
  obtain ⟨r2, hr, h0⟩ := bnd h0
  refine TL_callB [] (weather_Check.ok0 hr) weather_Check.fnb rfl ⟨trivial, ⟨trivial, trivial⟩⟩ rfl trivial rfl ?_
  refine TL_ev env 1 rfl ⟨trivial, trivial⟩ ?_
  refine TL_end ?_
  refine TE_go ?_
  refine TC_seq ?_
  refine TC_reg ?_
  refine TL_ev env 2 rfl ⟨trivial, ⟨⟨trivial, ⟨trivial, trivial⟩⟩, trivial⟩⟩ ?_
  refine TL_end ?_
  refine TE_go ?_
  refine TC_cond rfl (fun hb => ?_) (fun hb => ?_)
  · replace h0 := bif_t h0 hb
    refine TC_seq ?_
    refine TC_reg ?_
    refine TL_ev env 3 rfl ⟨trivial, ⟨trivial, ⟨trivial, trivial⟩⟩⟩ ?_
    refine TL_end ?_
    refine TE_go ?_
    refine TC_ret ?_
    refine tsr ?_
    obtain rfl := sinj h0
    exact TE_ret env rfl trivial trivial
  · replace h0 := bif_f h0 hb
    refine TC_skip ?_
    refine TE_go ?_
    refine TC_seq ?_
    refine TC_reg ?_
    refine TL_ev env 6 rfl ⟨⟨trivial, trivial⟩, ⟨trivial, ⟨⟨trivial, ⟨trivial, trivial⟩⟩, ⟨trivial, ⟨trivial, ⟨trivial, trivial⟩⟩⟩⟩⟩⟩ ?_
    refine TL_end ?_
    refine TE_go ?_
    refine TC_ret ?_
    obtain rfl := sinj h0
    refine TE_renw (A' := [(4, .p 1000 0), (5, .int .i64 0)]) (L' := [(1000, some (.cells [.int .i64 _, .int .i64 _, .int .i64 _, .int .i64 _, .int .u32 _, .bool false]))]) [(1000, 1015)] ⟨rfl, rfl, trivial⟩ ⟨rfl, trivial⟩ rfl ?_
    exact TE_ret env rfl trivial ⟨.inr rfl, trivial⟩
theorem weather_New.ok0 {K : Nat} {p0 : Int} {p1 : Int} {p2 : Int} {p3 : Int} {p4 : Int} {q0 : Int} (h0 : weather_New K p0 p1 p2 p3 p4 = some (.inl q0)) : Fn Try.prog 22 [.agg [.int .i64 p0, .int .i64 p1, .int .i64 p2, .int .i64 p3], .int .u32 p4] [] (.tup [.nilp, .int .i64 q0]) [] := weather_New.ok h0
theorem weather_New.ok1 {K : Nat} {p0 : Int} {p1 : Int} {p2 : Int} {p3 : Int} {p4 : Int}  (h0 : weather_New K p0 p1 p2 p3 p4 = some (.inr ())) : Fn Try.prog 22 [.agg [.int .i64 p0, .int .i64 p1, .int .i64 p2, .int .i64 p3], .int .u32 p4] [] (.tup [.p 1000 0, .int .i64 0]) [(1000, some (.cells [.int .i64 p0, .int .i64 p1, .int .i64 p2, .int .i64 p3, .int .u32 p4, .bool false]))] := weather_New.ok h0
theorem weather_New.fnb : fnb Try.prog 22 = true := fnb_of Try.func22 rfl
def weather_Weather_Draw.res  : Unit → MV
  | () => .int .i64 0
def weather_Weather_Draw.out  : Unit → List (Nat × Option MObj)
  | () => []
theorem weather_Weather_Draw.ok {K : Nat}  {r : Unit} (h0 : weather_Weather_Draw K  = some r) : Fn Try.prog 26 [.nilp] [] (weather_Weather_Draw.res  r) (weather_Weather_Draw.out  r) := by
  refine Fn_of Try.func26 rfl (Nat.le_of_ble_eq_true rfl) fun Γ => ?_
  refine TC_seq ?_
  refine TC_reg ?_
  refine TL_ev env 1 rfl ⟨trivial, trivial⟩ ?_
  refine TL_end ?_
  refine TE_go ?_
  refine TC_seq ?_
  refine TC_seq ?_
  refine TC_reg ?_
  refine TL_ev env 2 rfl ⟨trivial, ⟨⟨trivial, ⟨trivial, trivial⟩⟩, trivial⟩⟩ ?_
  refine TL_end ?_
  refine TE_go ?_
  refine TC_cond rfl (fun hb => ?_) (fun hb => ?_)
  · refine TC_seq ?_
    refine TC_reg ?_
    refine TL_ev env 1 rfl ⟨trivial, trivial⟩ ?_
    refine TL_end ?_
    refine TE_go ?_
    refine TC_ret ?_
    refine tsr ?_
    obtain rfl := sinj h0
    exact TE_ret env rfl trivial trivial
  · first | exact (ftf hb).elim | exact (tff hb).elim | exact absurd hb (by decide)
theorem weather_Weather_Draw.ok0 {K : Nat}   (h0 : weather_Weather_Draw K  = some ()) : Fn Try.prog 26 [.nilp] [] (.int .i64 0) [] := weather_Weather_Draw.ok h0
theorem weather_Weather_Draw.fnb : fnb Try.prog 26 = true := fnb_of Try.func26 rfl
def weather_Weather_Draw_2.res (_p0 : Int) (_p1 : Int) (_p2 : Int) (_p3 : Int) (_p4 : Int) (_p5 : Bool) : Int × Int → MV
  | (q0, _) => .int .i64 q0
def weather_Weather_Draw_2.out (p0 : Int) (p1 : Int) (p2 : Int) (p3 : Int) (_p4 : Int) (p5 : Bool) : Int × Int → List (Nat × Option MObj)
  | (_, q1) => [(0, some (.cells [.int .i64 p0, .int .i64 p1, .int .i64 p2, .int .i64 p3, .int .u32 q1, .bool p5]))]
theorem weather_Weather_Draw_2.ok {K : Nat} {p0 : Int} {p1 : Int} {p2 : Int} {p3 : Int} {p4 : Int} {p5 : Bool} {r : Int × Int} (h0 : weather_Weather_Draw_2 K p0 p1 p2 p3 p4 p5 = some r) : Fn Try.prog 26 [.p 0 0] [(0, some (.cells [.int .i64 p0, .int .i64 p1, .int .i64 p2, .int .i64 p3, .int .u32 p4, .bool p5]))] (weather_Weather_Draw_2.res p0 p1 p2 p3 p4 p5 r) (weather_Weather_Draw_2.out p0 p1 p2 p3 p4 p5 r) := by
  refine Fn_of Try.func26 rfl (Nat.le_of_ble_eq_true rfl) fun Γ => ?_
  refine TC_seq ?_
  refine TC_reg ?_
  refine TL_ev env 1 rfl ⟨trivial, trivial⟩ ?_
  refine TL_end ?_
  refine TE_go ?_
  refine TC_seq ?_
  refine TC_seq ?_
  refine TC_reg ?_
  refine TL_ev env 2 rfl ⟨trivial, ⟨⟨trivial, ⟨trivial, trivial⟩⟩, trivial⟩⟩ ?_
  refine TL_end ?_
  refine TE_go ?_
  refine TC_cond rfl (fun hb => ?_) (fun hb => ?_)
  · first | exact (ftf hb).elim | exact (tff hb).elim | exact absurd hb (by decide)
  · refine TC_skip ?_
    refine TE_go ?_
    refine TC_seq ?_
    refine TC_reg ?_
    refine TL_ev env 10 rfl ⟨trivial, ⟨trivial, ⟨trivial, ⟨trivial, ⟨⟨trivial, trivial⟩, ⟨⟨trivial, ⟨trivial, trivial⟩⟩, ⟨⟨trivial, ⟨trivial, trivial⟩⟩, ⟨trivial, ⟨trivial, ⟨⟨trivial, trivial⟩, trivial⟩⟩⟩⟩⟩⟩⟩⟩⟩⟩ ?_
    refine TL_end ?_
    refine TE_go ?_
    refine TC_seq ?_
    refine TC_reg ?_
    refine TL_ev env 7 rfl ⟨trivial, ⟨trivial, ⟨trivial, ⟨⟨trivial, trivial⟩, ⟨⟨trivial, ⟨trivial, (by decide)⟩⟩, ⟨trivial, ⟨trivial, trivial⟩⟩⟩⟩⟩⟩⟩ ?_
    refine TL_end ?_
    refine TE_go ?_
    refine TC_ret ?_
    obtain rfl := sinj h0
    exact TE_ret env rfl trivial ⟨.inr rfl, trivial⟩
theorem weather_Weather_Draw_2.ok0 {K : Nat} {p0 : Int} {p1 : Int} {p2 : Int} {p3 : Int} {p4 : Int} {p5 : Bool} {q0 : Int} {q1 : Int} (h0 : weather_Weather_Draw_2 K p0 p1 p2 p3 p4 p5 = some (q0, q1)) : Fn Try.prog 26 [.p 0 0] [(0, some (.cells [.int .i64 p0, .int .i64 p1, .int .i64 p2, .int .i64 p3, .int .u32 p4, .bool p5]))] (.int .i64 q0) [(0, some (.cells [.int .i64 p0, .int .i64 p1, .int .i64 p2, .int .i64 p3, .int .u32 q1, .bool p5]))] := weather_Weather_Draw_2.ok h0
theorem weather_Weather_Draw_2.fnb : fnb Try.prog 26 = true := fnb_of Try.func26 rfl
def weather_Weather_Fair.res (_p0 : Int) (_p1 : Int) (_p2 : Int) (_p3 : Int) (_p4 : Int) (_p5 : Bool) : Bool → MV
  | q0 => .bool q0
def weather_Weather_Fair.out (p0 : Int) (p1 : Int) (p2 : Int) (p3 : Int) (p4 : Int) (p5 : Bool) : Bool → List (Nat × Option MObj)
  | _ => [(0, some (.cells [.int .i64 p0, .int .i64 p1, .int .i64 p2, .int .i64 p3, .int .u32 p4, .bool p5]))]
theorem weather_Weather_Fair.ok {K : Nat} {p0 : Int} {p1 : Int} {p2 : Int} {p3 : Int} {p4 : Int} {p5 : Bool} {r : Bool} (h0 : weather_Weather_Fair K p0 p1 p2 p3 p4 p5 = some r) : Fn Try.prog 30 [.p 0 0] [(0, some (.cells [.int .i64 p0, .int .i64 p1, .int .i64 p2, .int .i64 p3, .int .u32 p4, .bool p5]))] (weather_Weather_Fair.res p0 p1 p2 p3 p4 p5 r) (weather_Weather_Fair.out p0 p1 p2 p3 p4 p5 r) := by
  refine Fn_of Try.func30 rfl (Nat.le_of_ble_eq_true rfl) fun Γ => ?_
  refine TC_seq ?_
  refine TC_reg ?_
  refine TL_ev env 1 rfl ⟨trivial, trivial⟩ ?_
  refine TL_end ?_
  refine TE_go ?_
  refine TC_seq ?_
  refine TC_reg ?_
  refine TL_ev env 3 rfl ⟨trivial, ⟨⟨trivial, ⟨trivial, trivial⟩⟩, ⟨trivial, trivial⟩⟩⟩ ?_
  refine TL_gt rfl rfl rfl rfl ?_
  refine TL_ev env 1 rfl ⟨trivial, trivial⟩ ?_
  refine TL_gt rfl rfl rfl rfl ?_
  refine TL_ev env 1 rfl ⟨trivial, trivial⟩ ?_
  refine TL_gt rfl rfl rfl rfl ?_
  refine TL_ev env 1 rfl ⟨trivial, trivial⟩ ?_
  refine TL_gt rfl rfl rfl rfl ?_
  refine TL_ev env 1 rfl ⟨⟨trivial, trivial⟩, trivial⟩ ?_
  refine TL_gt rfl rfl rfl rfl ?_
  refine TL_ev env 3 rfl ⟨trivial, ⟨⟨trivial, ⟨trivial, trivial⟩⟩, ⟨trivial, trivial⟩⟩⟩ ?_
  refine TL_end ?_
  refine TE_go ?_
  refine TC_ret ?_
  obtain rfl := sinj h0
  exact TE_ret env rfl trivial ⟨.inr rfl, trivial⟩
theorem weather_Weather_Fair.ok0 {K : Nat} {p0 : Int} {p1 : Int} {p2 : Int} {p3 : Int} {p4 : Int} {p5 : Bool} {q0 : Bool} (h0 : weather_Weather_Fair K p0 p1 p2 p3 p4 p5 = some q0) : Fn Try.prog 30 [.p 0 0] [(0, some (.cells [.int .i64 p0, .int .i64 p1, .int .i64 p2, .int .i64 p3, .int .u32 p4, .bool p5]))] (.bool q0) [(0, some (.cells [.int .i64 p0, .int .i64 p1, .int .i64 p2, .int .i64 p3, .int .u32 p4, .bool p5]))] := weather_Weather_Fair.ok h0
theorem weather_Weather_Fair.fnb : fnb Try.prog 30 = true := fnb_of Try.func30 rfl
def weather_Weather_of.res (_p0 : Int) (_p1 : Int) (_p2 : Int) (_p3 : Int) (_p4 : Int) (_p5 : Int) (_p6 : Int) (_p7 : Bool) : Int → MV
  | q0 => .int .i64 q0
def weather_Weather_of.out (_p0 : Int) (_p1 : Int) (p2 : Int) (p3 : Int) (p4 : Int) (p5 : Int) (p6 : Int) (p7 : Bool) : Int → List (Nat × Option MObj)
  | _ => [(0, some (.cells [.int .i64 p2, .int .i64 p3, .int .i64 p4, .int .i64 p5, .int .u32 p6, .bool p7]))]
theorem weather_Weather_of.ok {K : Nat} {p0 : Int} {p1 : Int} {p2 : Int} {p3 : Int} {p4 : Int} {p5 : Int} {p6 : Int} {p7 : Bool} {r : Int} (h0 : weather_Weather_of K p0 p1 p2 p3 p4 p5 p6 p7 = some r) : Fn Try.prog 83 [.p 0 0, .int .i64 p0, .int .i64 p1] [(0, some (.cells [.int .i64 p2, .int .i64 p3, .int .i64 p4, .int .i64 p5, .int .u32 p6, .bool p7]))] (weather_Weather_of.res p0 p1 p2 p3 p4 p5 p6 p7 r) (weather_Weather_of.out p0 p1 p2 p3 p4 p5 p6 p7 r) := by
  refine Fn_of Try.func83 rfl (Nat.le_of_ble_eq_true rfl) fun Γ => ?_
  refine TC_seq ?_
  refine TC_reg ?_
  refine TL_ev env 1 rfl ⟨trivial, trivial⟩ ?_
  refine TL_end ?_
  refine TE_go ?_
  refine TC_seq ?_
  refine TC_seq ?_
  refine TC_reg ?_
  refine TL_ev env 4 rfl ⟨trivial, ⟨trivial, ⟨trivial, ⟨⟨trivial, trivial⟩, trivial⟩⟩⟩⟩ ?_
  refine TL_end ?_
  refine TE_go ?_
  refine TC_cond rfl (fun hb => ?_) (fun hb => ?_)
  · replace h0 := bif_t h0 hb
    refine TC_seq ?_
    refine TC_reg ?_
    refine TL_ev env 2 rfl ⟨trivial, ⟨trivial, trivial⟩⟩ ?_
    refine TL_end ?_
    refine TE_go ?_
    refine TC_ret ?_
    refine tsr ?_
    obtain rfl := sinj h0
    exact TE_ret env rfl trivial ⟨.inr rfl, trivial⟩
  · replace h0 := bif_f h0 hb
    refine TC_skip ?_
    refine TE_go ?_
    refine TC_seq ?_
    refine TC_reg ?_
    refine TL_ev env 2 rfl ⟨trivial, ⟨trivial, trivial⟩⟩ ?_
    refine TL_end ?_
    refine TE_go ?_
    refine TC_ret ?_
    obtain rfl := sinj h0
    exact TE_ret env rfl trivial ⟨.inr rfl, trivial⟩
theorem weather_Weather_of.ok0 {K : Nat} {p0 : Int} {p1 : Int} {p2 : Int} {p3 : Int} {p4 : Int} {p5 : Int} {p6 : Int} {p7 : Bool} {q0 : Int} (h0 : weather_Weather_of K p0 p1 p2 p3 p4 p5 p6 p7 = some q0) : Fn Try.prog 83 [.p 0 0, .int .i64 p0, .int .i64 p1] [(0, some (.cells [.int .i64 p2, .int .i64 p3, .int .i64 p4, .int .i64 p5, .int .u32 p6, .bool p7]))] (.int .i64 q0) [(0, some (.cells [.int .i64 p2, .int .i64 p3, .int .i64 p4, .int .i64 p5, .int .u32 p6, .bool p7]))] := weather_Weather_of.ok h0
theorem weather_Weather_of.fnb : fnb Try.prog 83 = true := fnb_of Try.func83 rfl
def weather_Weather_comes.res (_p0 : Int) (_p1 : Int) (_p2 : Int) (_p3 : Int) (_p4 : Int) (_p5 : Int) (_p6 : Bool) : Bool × Int → MV
  | (q0, _) => .bool q0
def weather_Weather_comes.out (_p0 : Int) (p1 : Int) (p2 : Int) (p3 : Int) (p4 : Int) (_p5 : Int) (p6 : Bool) : Bool × Int → List (Nat × Option MObj)
  | (_, q1) => [(0, some (.cells [.int .i64 p1, .int .i64 p2, .int .i64 p3, .int .i64 p4, .int .u32 q1, .bool p6]))]
theorem weather_Weather_comes.ok {K : Nat} {p0 : Int} {p1 : Int} {p2 : Int} {p3 : Int} {p4 : Int} {p5 : Int} {p6 : Bool} {r : Bool × Int} (h0 : weather_Weather_comes K p0 p1 p2 p3 p4 p5 p6 = some r) : Fn Try.prog 82 [.p 0 0, .int .i64 p0] [(0, some (.cells [.int .i64 p1, .int .i64 p2, .int .i64 p3, .int .i64 p4, .int .u32 p5, .bool p6]))] (weather_Weather_comes.res p0 p1 p2 p3 p4 p5 p6 r) (weather_Weather_comes.out p0 p1 p2 p3 p4 p5 p6 r) := by
  refine Fn_of Try.func82 rfl (Nat.le_of_ble_eq_true rfl) fun Γ => ?_
  refine TC_seq ?_
  refine TC_reg ?_
  refine TL_ev env 1 rfl ⟨trivial, trivial⟩ ?_
  refine TL_end ?_
  refine TE_go ?_
  refine TC_seq ?_
  refine TC_reg ?_
  refine TL_ev env 1 rfl ⟨trivial, trivial⟩ ?_
  obtain ⟨⟨r3, r4⟩, hr, h0⟩ := bnd h0
  refine TL_callB [(0, 0)] (weather_Weather_Draw_2.ok0 hr) weather_Weather_Draw_2.fnb rfl ⟨trivial, ⟨trivial, trivial⟩⟩ rfl ⟨.inr rfl, trivial⟩ rfl ?_
  refine TL_ev env 3 rfl ⟨trivial, ⟨⟨trivial, ⟨trivial, trivial⟩⟩, ⟨trivial, trivial⟩⟩⟩ ?_
  refine TL_end ?_
  refine TE_go ?_
  refine TC_ret ?_
  obtain rfl := sinj h0
  exact TE_ret env rfl trivial ⟨.inr rfl, trivial⟩
theorem weather_Weather_comes.ok0 {K : Nat} {p0 : Int} {p1 : Int} {p2 : Int} {p3 : Int} {p4 : Int} {p5 : Int} {p6 : Bool} {q0 : Bool} {q1 : Int} (h0 : weather_Weather_comes K p0 p1 p2 p3 p4 p5 p6 = some (q0, q1)) : Fn Try.prog 82 [.p 0 0, .int .i64 p0] [(0, some (.cells [.int .i64 p1, .int .i64 p2, .int .i64 p3, .int .i64 p4, .int .u32 p5, .bool p6]))] (.bool q0) [(0, some (.cells [.int .i64 p1, .int .i64 p2, .int .i64 p3, .int .i64 p4, .int .u32 q1, .bool p6]))] := weather_Weather_comes.ok h0
theorem weather_Weather_comes.fnb : fnb Try.prog 82 = true := fnb_of Try.func82 rfl
def weather_Weather_Lost.res (_p0 : Int) (_p1 : Int) (_p2 : Int) (_p3 : Int) (_p4 : Int) (_p5 : Bool) : Bool × Int × Bool → MV
  | (q0, _, _) => .bool q0
def weather_Weather_Lost.out (p0 : Int) (p1 : Int) (p2 : Int) (p3 : Int) (_p4 : Int) (_p5 : Bool) : Bool × Int × Bool → List (Nat × Option MObj)
  | (_, q1, q2) => [(0, some (.cells [.int .i64 p0, .int .i64 p1, .int .i64 p2, .int .i64 p3, .int .u32 q1, .bool q2]))]
theorem weather_Weather_Lost.ok {K : Nat} {p0 : Int} {p1 : Int} {p2 : Int} {p3 : Int} {p4 : Int} {p5 : Bool} {r : Bool × Int × Bool} (h0 : weather_Weather_Lost K p0 p1 p2 p3 p4 p5 = some r) : Fn Try.prog 28 [.p 0 0] [(0, some (.cells [.int .i64 p0, .int .i64 p1, .int .i64 p2, .int .i64 p3, .int .u32 p4, .bool p5]))] (weather_Weather_Lost.res p0 p1 p2 p3 p4 p5 r) (weather_Weather_Lost.out p0 p1 p2 p3 p4 p5 r) := by
  refine Fn_of Try.func28 rfl (Nat.le_of_ble_eq_true rfl) fun Γ => ?_
  refine TC_seq ?_
  refine TC_reg ?_
  refine TL_ev env 1 rfl ⟨trivial, trivial⟩ ?_
  refine TL_end ?_
  refine TE_go ?_
  refine TC_seq ?_
  refine TC_seq ?_
  refine TC_reg ?_
  refine TL_ev env 2 rfl ⟨trivial, ⟨⟨trivial, ⟨trivial, trivial⟩⟩, trivial⟩⟩ ?_
  refine TL_end ?_
  refine TE_go ?_
  refine TC_cond rfl (fun hb => ?_) (fun hb => ?_)
  · first | exact (ftf hb).elim | exact (tff hb).elim | exact absurd hb (by decide)
  · refine TC_skip ?_
    refine TE_go ?_
    refine TC_seq ?_
    refine TC_seq ?_
    refine TC_renw (A' := [(0, .p 0 0)]) (L' := [(0, some (.cells [.int .i64 _, .int .i64 _, .int .i64 _, .int .i64 _, .int .u32 _, .bool _]))]) [] ⟨rfl, trivial⟩ ⟨rfl, trivial⟩ rfl ?_
    refine TC_drawR ⟨_, fun i => ([[], [], [], [2], [3, 2], [4, 3, 2], [5, 4, 3, 2], [], [7], [8, 7], [9, 8, 7], [10, 9, 8, 7], [11, 10, 9, 8, 7, 6, 5, 4, 3, 2, 1], [12, 11, 10, 9, 8, 7, 6, 5, 4, 3, 2, 1, 0]] : List (List Nat)).getD i [], fun i => ([[], [], [], [], [], [], [], [], [], [], [], [], [0], [0]] : List (List Nat)).getD i [], fun i => ([[], [], [], [], [], [], [], [], [], [], [], [], [], []] : List (List Nat)).getD i []⟩ (fun i => ([[0], [], [], [], [], [], [], [], [], [], [], [], [], []] : List (List Nat)).getD i []) rfl rfl ?_
    refine AJR_ev env 1 rfl (Nat.le_of_ble_eq_true rfl) rfl trivial ?_
    refine AJR_ev env 2 rfl (Nat.le_of_ble_eq_true rfl) rfl trivial ?_
    refine AJR_ev env 3 rfl (Nat.le_of_ble_eq_true rfl) rfl trivial ?_
    refine AJR_ev env 4 rfl (Nat.le_of_ble_eq_true rfl) rfl trivial ?_
    refine AJR_ev env 5 rfl (Nat.le_of_ble_eq_true rfl) rfl trivial ?_
    refine AJR_ev env 6 rfl (Nat.le_of_ble_eq_true rfl) rfl trivial ?_
    refine AJR_ev env 7 rfl (Nat.le_of_ble_eq_true rfl) rfl ⟨trivial, trivial⟩ ?_
    refine AJR_ev env 8 rfl (Nat.le_of_ble_eq_true rfl) rfl trivial ?_
    refine AJR_ev env 9 rfl (Nat.le_of_ble_eq_true rfl) rfl trivial ?_
    refine AJR_ev env 10 rfl (Nat.le_of_ble_eq_true rfl) rfl trivial ?_
    refine AJR_ev env 11 rfl (Nat.le_of_ble_eq_true rfl) rfl trivial ?_
    refine AJR_ev env 12 rfl (Nat.le_of_ble_eq_true rfl) rfl ⟨trivial, trivial⟩ ?_
    obtain ⟨r8, hr, h0⟩ := bnd h0
    refine AJR_call 13 rfl (Nat.le_of_ble_eq_true rfl) [(0, 0)] rfl (weather_Weather_of.ok0 hr) weather_Weather_of.fnb rfl ⟨trivial, ⟨trivial, ⟨trivial, ⟨trivial, trivial⟩⟩⟩⟩ rfl ⟨.inr rfl, trivial⟩ rfl ?_
    obtain ⟨⟨r9, r10⟩, hr, h0⟩ := bnd h0
    refine AJR_call 14 rfl (Nat.le_of_ble_eq_true rfl) [(0, 0)] rfl (weather_Weather_comes.ok0 hr) weather_Weather_comes.fnb rfl ⟨trivial, ⟨trivial, ⟨trivial, trivial⟩⟩⟩ rfl ⟨.inr rfl, trivial⟩ rfl ?_
    refine AJR_end rfl rfl rfl ?_
    refine TE_go ?_
    obtain ⟨z1, h1, h0⟩ := bnd h0
    refine TC_cut (α := Bool) (fun s => z1 = s) (fun s => [(0, .p 0 0)]) (fun s => [(0, some (.cells [.int .i64 p0, .int .i64 p1, .int .i64 p2, .int .i64 p3, .int .u32 r10, .bool s]))]) ?_ ?_
    · refine TC_cond rfl (fun hb => ?_) (fun hb => ?_)
      · replace h1 := bif_t h1 hb
        refine TC_reg ?_
        refine TL_ev env 9 rfl ⟨trivial, ⟨trivial, ⟨trivial, ⟨trivial, ⟨⟨trivial, trivial⟩, ⟨trivial, ⟨trivial, ⟨trivial, ⟨⟨trivial, trivial⟩, trivial⟩⟩⟩⟩⟩⟩⟩⟩⟩ ?_
        refine TL_end ?_
        obtain rfl := sinj h1
        refine tsn ?_
        exact SP_ren [] _ rfl ⟨rfl, trivial⟩ ⟨rfl, trivial⟩ rfl
      · replace h1 := bif_f h1 hb
        refine TC_skip ?_
        obtain rfl := sinj h1
        refine tsn ?_
        exact SP_ren [] _ rfl ⟨rfl, trivial⟩ ⟨rfl, trivial⟩ rfl
    · rintro x11 rfl
      refine TE_go ?_
      refine TC_seq ?_
      refine TC_renw (A' := [(0, .p 0 0)]) (L' := [(0, some (.cells [.int .i64 _, .int .i64 _, .int .i64 _, .int .i64 _, .int .u32 _, .bool _]))]) [] ⟨rfl, trivial⟩ ⟨rfl, trivial⟩ rfl ?_
      refine TC_drawR ⟨_, fun i => ([[], [], [], [2], [3, 2], [4, 3, 2], [5, 4, 3, 2], [], [7], [8, 7], [9, 8, 7], [10, 9, 8, 7], [11, 10, 9, 8, 7, 6, 5, 4, 3, 2, 1], [12, 11, 10, 9, 8, 7, 6, 5, 4, 3, 2, 1, 0], [13, 12, 11, 10, 9, 8, 7, 6, 5, 4, 3, 2, 1, 0]] : List (List Nat)).getD i [], fun i => ([[], [], [], [], [], [], [], [], [], [], [], [], [0], [0], []] : List (List Nat)).getD i [], fun i => ([[], [], [], [], [], [], [], [], [], [], [], [], [], [], []] : List (List Nat)).getD i []⟩ (fun i => ([[0], [], [], [], [], [], [], [], [], [], [], [], [], [], []] : List (List Nat)).getD i []) rfl rfl ?_
      refine AJR_ev env 1 rfl (Nat.le_of_ble_eq_true rfl) rfl trivial ?_
      refine AJR_ev env 2 rfl (Nat.le_of_ble_eq_true rfl) rfl trivial ?_
      refine AJR_ev env 3 rfl (Nat.le_of_ble_eq_true rfl) rfl trivial ?_
      refine AJR_ev env 4 rfl (Nat.le_of_ble_eq_true rfl) rfl trivial ?_
      refine AJR_ev env 5 rfl (Nat.le_of_ble_eq_true rfl) rfl trivial ?_
      refine AJR_ev env 6 rfl (Nat.le_of_ble_eq_true rfl) rfl trivial ?_
      refine AJR_ev env 7 rfl (Nat.le_of_ble_eq_true rfl) rfl ⟨trivial, trivial⟩ ?_
      refine AJR_ev env 8 rfl (Nat.le_of_ble_eq_true rfl) rfl trivial ?_
      refine AJR_ev env 9 rfl (Nat.le_of_ble_eq_true rfl) rfl trivial ?_
      refine AJR_ev env 10 rfl (Nat.le_of_ble_eq_true rfl) rfl trivial ?_
      refine AJR_ev env 11 rfl (Nat.le_of_ble_eq_true rfl) rfl trivial ?_
      refine AJR_ev env 12 rfl (Nat.le_of_ble_eq_true rfl) rfl ⟨trivial, trivial⟩ ?_
      obtain ⟨r12, hr, h0⟩ := bnd h0
      refine AJR_call 13 rfl (Nat.le_of_ble_eq_true rfl) [(0, 0)] rfl (weather_Weather_of.ok0 hr) weather_Weather_of.fnb rfl ⟨trivial, ⟨trivial, ⟨trivial, ⟨trivial, trivial⟩⟩⟩⟩ rfl ⟨.inr rfl, trivial⟩ rfl ?_
      obtain ⟨⟨r13, r14⟩, hr, h0⟩ := bnd h0
      refine AJR_call 14 rfl (Nat.le_of_ble_eq_true rfl) [(0, 0)] rfl (weather_Weather_comes.ok0 hr) weather_Weather_comes.fnb rfl ⟨trivial, ⟨trivial, ⟨trivial, trivial⟩⟩⟩ rfl ⟨.inr rfl, trivial⟩ rfl ?_
      refine AJR_ev env 15 rfl (Nat.le_of_ble_eq_true rfl) rfl trivial ?_
      refine AJR_end rfl rfl rfl ?_
      refine TE_go ?_
      refine TC_ret ?_
      obtain rfl := sinj h0
      exact TE_ret env rfl trivial ⟨.inr rfl, trivial⟩
theorem weather_Weather_Lost.ok0 {K : Nat} {p0 : Int} {p1 : Int} {p2 : Int} {p3 : Int} {p4 : Int} {p5 : Bool} {q0 : Bool} {q1 : Int} {q2 : Bool} (h0 : weather_Weather_Lost K p0 p1 p2 p3 p4 p5 = some (q0, q1, q2)) : Fn Try.prog 28 [.p 0 0] [(0, some (.cells [.int .i64 p0, .int .i64 p1, .int .i64 p2, .int .i64 p3, .int .u32 p4, .bool p5]))] (.bool q0) [(0, some (.cells [.int .i64 p0, .int .i64 p1, .int .i64 p2, .int .i64 p3, .int .u32 q1, .bool q2]))] := weather_Weather_Lost.ok h0
theorem weather_Weather_Lost.fnb : fnb Try.prog 28 = true := fnb_of Try.func28 rfl
def psalterylaw32_alive.res  : Bool → MV
  | q0 => .bool q0
def psalterylaw32_alive.out  : Bool → List (Nat × Option MObj)
  | _ => []
theorem psalterylaw32_alive.ok {K : Nat}  {r : Bool} (h0 : psalterylaw32_alive K  = some r) : Fn Try.prog 21 [] [] (psalterylaw32_alive.res  r) (psalterylaw32_alive.out  r) := by
  refine Fn_of Try.func21 rfl (Nat.le_of_ble_eq_true rfl) fun Γ => ?_
  refine TC_seq ?_
  refine TC_reg ?_
  refine TL_ev env 1 rfl ⟨trivial, trivial⟩ ?_
  refine TL_end ?_
  refine TE_go ?_
  refine TC_seq ?_
  refine TC_reg ?_
  refine TL_ev env 1 rfl ⟨trivial, trivial⟩ ?_
  obtain ⟨z, hr, h0⟩ := bnd h0
  rcases z with r18 | ⟨⟩
  · refine TL_callB [] (weather_New.ok0 hr) weather_New.fnb rfl ⟨trivial, ⟨trivial, ⟨trivial, trivial⟩⟩⟩ rfl trivial rfl ?_
    refine TL_ev env 5 rfl ⟨trivial, ⟨trivial, ⟨trivial, ⟨trivial, ⟨trivial, trivial⟩⟩⟩⟩⟩ ?_
    refine TL_end ?_
    refine TE_go ?_
    refine TC_seq ?_
    refine TC_reg ?_
    refine TL_ev env 1 rfl ⟨⟨trivial, trivial⟩, trivial⟩ ?_
    obtain ⟨z, hr, h0⟩ := bnd h0
    rcases z with r19 | ⟨⟩
    · refine TL_callB [] (weather_New.ok0 hr) weather_New.fnb rfl ⟨trivial, ⟨trivial, ⟨trivial, trivial⟩⟩⟩ rfl trivial rfl ?_
      refine TL_ev env 5 rfl ⟨trivial, ⟨trivial, ⟨trivial, ⟨trivial, ⟨trivial, trivial⟩⟩⟩⟩⟩ ?_
      refine TL_end ?_
      refine TE_go ?_
      refine TC_seq ?_
      obtain ⟨z1, h1, h0⟩ := bnd h0
      refine TC_cut (α := Unit) (fun _ => z1 = ()) (fun _ => [(0, .bool false)]) (fun _ => []) ?_ ?_
      · refine TC_reg ?_
        refine TL_ev env 7 rfl ⟨trivial, ⟨⟨trivial, ⟨trivial, trivial⟩⟩, ⟨trivial, ⟨fun _ => trivial, ⟨fun _ => ⟨fun e => e, ⟨trivial, trivial⟩⟩, ⟨⟨trivial, ⟨fun e => e, trivial⟩⟩, ⟨trivial, trivial⟩⟩⟩⟩⟩⟩⟩ ?_
        refine TL_split 21 rfl (fun hb => ?_) (fun hb => ?_)
        · replace h1 := bif_t h1 hb
          refine TL_gt rfl rfl rfl rfl ?_
          refine TL_ev env 1 rfl ⟨trivial, trivial⟩ ?_
          refine TL_gt rfl rfl rfl rfl ?_
          obtain ⟨⟨⟩, hr, h1⟩ := bnd h1
          refine TL_callB [] (weather_Weather_Draw.ok0 hr) weather_Weather_Draw.fnb rfl ⟨trivial, ⟨trivial, trivial⟩⟩ rfl trivial rfl ?_
          refine TL_gt rfl rfl rfl rfl ?_
          refine TL_ev env 3 rfl ⟨⟨trivial, ⟨trivial, trivial⟩⟩, ⟨⟨trivial, ⟨trivial, trivial⟩⟩, ⟨trivial, trivial⟩⟩⟩ ?_
          refine TL_gf (.bool false) rfl rfl rfl rfl rfl (by decide) ?_
          refine TL_gf (.bool false) rfl rfl rfl rfl rfl (by decide) ?_
          refine TL_ev env 2 rfl ⟨⟨trivial, ⟨fun e => e, trivial⟩⟩, ⟨trivial, trivial⟩⟩ ?_
          refine TL_gf (.bool false) rfl rfl rfl rfl rfl (by decide) ?_
          refine TL_gf (.bool false) rfl rfl rfl rfl rfl (by decide) ?_
          refine TL_gf (.bool false) rfl rfl rfl rfl rfl (by decide) ?_
          refine TL_ev env 2 rfl ⟨⟨trivial, ⟨fun e => e, trivial⟩⟩, ⟨trivial, trivial⟩⟩ ?_
          refine TL_gf (.bool false) rfl rfl rfl rfl rfl (by decide) ?_
          refine TL_gf (.bool false) rfl rfl rfl rfl rfl (by decide) ?_
          refine TL_ev env 2 rfl ⟨⟨trivial, ⟨fun e => e, trivial⟩⟩, ⟨trivial, trivial⟩⟩ ?_
          refine TL_end ?_
          obtain rfl := sinj h1
          refine tsn ?_
          exact SP_ren [] () rfl ⟨rfl, trivial⟩ trivial rfl
        · replace h1 := bif_f h1 hb
          refine TL_gf (.bool false) rfl rfl rfl rfl rfl (by decide) ?_
          refine TL_gf (.bool false) rfl rfl rfl rfl rfl (by decide) ?_
          refine TL_gf (.bool false) rfl rfl rfl rfl rfl (by decide) ?_
          refine TL_ev env 2 rfl ⟨⟨trivial, ⟨fun e => e, trivial⟩⟩, ⟨trivial, trivial⟩⟩ ?_
          refine TL_gf (.bool false) rfl rfl rfl rfl rfl (by decide) ?_
          refine TL_gf (.bool false) rfl rfl rfl rfl rfl (by decide) ?_
          refine TL_ev env 2 rfl ⟨⟨trivial, ⟨fun e => e, trivial⟩⟩, ⟨trivial, trivial⟩⟩ ?_
          refine TL_gf (.bool false) rfl rfl rfl rfl rfl (by decide) ?_
          refine TL_gf (.bool false) rfl rfl rfl rfl rfl (by decide) ?_
          refine TL_gf (.bool false) rfl rfl rfl rfl rfl (by decide) ?_
          refine TL_ev env 2 rfl ⟨⟨trivial, ⟨fun e => e, trivial⟩⟩, ⟨trivial, trivial⟩⟩ ?_
          refine TL_gf (.bool false) rfl rfl rfl rfl rfl (by decide) ?_
          refine TL_gf (.bool false) rfl rfl rfl rfl rfl (by decide) ?_
          refine TL_ev env 2 rfl ⟨⟨trivial, ⟨fun e => e, trivial⟩⟩, ⟨trivial, trivial⟩⟩ ?_
          refine TL_end ?_
          obtain rfl := sinj h1
          refine tsn ?_
          exact SP_ren [] () rfl ⟨rfl, trivial⟩ trivial rfl
      · rintro ⟨⟩ rfl
        refine TE_go ?_
        refine TC_ret ?_
        obtain rfl := sinj h0
        exact TE_ret env rfl trivial trivial
    · refine TL_callB [(1000, 500120)] (weather_New.ok1 hr) weather_New.fnb rfl ⟨trivial, ⟨trivial, ⟨trivial, trivial⟩⟩⟩ rfl trivial rfl ?_
      refine TL_ev env 5 rfl ⟨trivial, ⟨trivial, ⟨trivial, ⟨trivial, ⟨trivial, trivial⟩⟩⟩⟩⟩ ?_
      refine TL_end ?_
      refine TE_go ?_
      refine TC_seq ?_
      obtain ⟨z1, h1, h0⟩ := bnd h0
      refine TC_cut (α := Unit) (fun _ => z1 = ()) (fun _ => [(0, .bool false)]) (fun _ => []) ?_ ?_
      · refine TC_reg ?_
        refine TL_ev env 7 rfl ⟨trivial, ⟨⟨trivial, ⟨trivial, trivial⟩⟩, ⟨trivial, ⟨fun _ => trivial, ⟨fun _ => ⟨fun e => e, ⟨trivial, trivial⟩⟩, ⟨⟨trivial, ⟨fun e => e, trivial⟩⟩, ⟨trivial, trivial⟩⟩⟩⟩⟩⟩⟩ ?_
        refine TL_split 21 rfl (fun hb => ?_) (fun hb => ?_)
        · replace h1 := bif_t h1 hb
          refine TL_gt rfl rfl rfl rfl ?_
          refine TL_ev env 1 rfl ⟨trivial, trivial⟩ ?_
          refine TL_gt rfl rfl rfl rfl ?_
          obtain ⟨⟨⟩, hr, h1⟩ := bnd h1
          refine TL_callB [] (weather_Weather_Draw.ok0 hr) weather_Weather_Draw.fnb rfl ⟨trivial, ⟨trivial, trivial⟩⟩ rfl trivial rfl ?_
          refine TL_gt rfl rfl rfl rfl ?_
          refine TL_ev env 3 rfl ⟨⟨trivial, ⟨trivial, trivial⟩⟩, ⟨⟨trivial, ⟨trivial, trivial⟩⟩, ⟨trivial, trivial⟩⟩⟩ ?_
          refine TL_gf (.bool false) rfl rfl rfl rfl rfl (by decide) ?_
          refine TL_gf (.bool false) rfl rfl rfl rfl rfl (by decide) ?_
          refine TL_ev env 2 rfl ⟨⟨trivial, ⟨fun e => e, trivial⟩⟩, ⟨trivial, trivial⟩⟩ ?_
          refine TL_gf (.bool false) rfl rfl rfl rfl rfl (by decide) ?_
          refine TL_gf (.bool false) rfl rfl rfl rfl rfl (by decide) ?_
          refine TL_gf (.bool false) rfl rfl rfl rfl rfl (by decide) ?_
          refine TL_ev env 2 rfl ⟨⟨trivial, ⟨fun e => e, trivial⟩⟩, ⟨trivial, trivial⟩⟩ ?_
          refine TL_gf (.bool false) rfl rfl rfl rfl rfl (by decide) ?_
          refine TL_gf (.bool false) rfl rfl rfl rfl rfl (by decide) ?_
          refine TL_ev env 2 rfl ⟨⟨trivial, ⟨fun e => e, trivial⟩⟩, ⟨trivial, trivial⟩⟩ ?_
          refine TL_end ?_
          obtain rfl := sinj h1
          refine tsn ?_
          exact SP_ren [] () rfl ⟨rfl, trivial⟩ trivial rfl
        · replace h1 := bif_f h1 hb
          refine TL_gf (.bool false) rfl rfl rfl rfl rfl (by decide) ?_
          refine TL_gf (.bool false) rfl rfl rfl rfl rfl (by decide) ?_
          refine TL_gf (.bool false) rfl rfl rfl rfl rfl (by decide) ?_
          refine TL_ev env 2 rfl ⟨⟨trivial, ⟨fun e => e, trivial⟩⟩, ⟨trivial, trivial⟩⟩ ?_
          refine TL_gf (.bool false) rfl rfl rfl rfl rfl (by decide) ?_
          refine TL_gf (.bool false) rfl rfl rfl rfl rfl (by decide) ?_
          refine TL_ev env 2 rfl ⟨⟨trivial, ⟨fun e => e, trivial⟩⟩, ⟨trivial, trivial⟩⟩ ?_
          refine TL_gf (.bool false) rfl rfl rfl rfl rfl (by decide) ?_
          refine TL_gf (.bool false) rfl rfl rfl rfl rfl (by decide) ?_
          refine TL_gf (.bool false) rfl rfl rfl rfl rfl (by decide) ?_
          refine TL_ev env 2 rfl ⟨⟨trivial, ⟨fun e => e, trivial⟩⟩, ⟨trivial, trivial⟩⟩ ?_
          refine TL_gf (.bool false) rfl rfl rfl rfl rfl (by decide) ?_
          refine TL_gf (.bool false) rfl rfl rfl rfl rfl (by decide) ?_
          refine TL_ev env 2 rfl ⟨⟨trivial, ⟨fun e => e, trivial⟩⟩, ⟨trivial, trivial⟩⟩ ?_
          refine TL_end ?_
          obtain rfl := sinj h1
          refine tsn ?_
          exact SP_ren [] () rfl ⟨rfl, trivial⟩ trivial rfl
      · rintro ⟨⟩ rfl
        refine TE_go ?_
        refine TC_ret ?_
        obtain rfl := sinj h0
        exact TE_ret env rfl trivial trivial
  · refine TL_callB [(1000, 500070)] (weather_New.ok1 hr) weather_New.fnb rfl ⟨trivial, ⟨trivial, ⟨trivial, trivial⟩⟩⟩ rfl trivial rfl ?_
    refine TL_ev env 5 rfl ⟨trivial, ⟨trivial, ⟨trivial, ⟨trivial, ⟨trivial, trivial⟩⟩⟩⟩⟩ ?_
    refine TL_end ?_
    refine TE_go ?_
    refine TC_seq ?_
    refine TC_reg ?_
    refine TL_ev env 1 rfl ⟨⟨trivial, trivial⟩, trivial⟩ ?_
    obtain ⟨z, hr, h0⟩ := bnd h0
    rcases z with r22 | ⟨⟩
    · refine TL_callB [] (weather_New.ok0 hr) weather_New.fnb rfl ⟨trivial, ⟨trivial, ⟨trivial, trivial⟩⟩⟩ rfl trivial rfl ?_
      refine TL_ev env 5 rfl ⟨trivial, ⟨trivial, ⟨trivial, ⟨trivial, ⟨trivial, trivial⟩⟩⟩⟩⟩ ?_
      refine TL_end ?_
      refine TE_go ?_
      refine TC_seq ?_
      obtain ⟨z1, h1, h0⟩ := bnd h0
      refine TC_cut (α := Bool) (fun s => z1 = s) (fun s => [(0, .bool s)]) (fun s => []) ?_ ?_
      · refine TC_reg ?_
        refine TL_ev env 3 rfl ⟨trivial, ⟨⟨trivial, ⟨trivial, trivial⟩⟩, ⟨trivial, trivial⟩⟩⟩ ?_
        refine TL_gt rfl rfl rfl rfl ?_
        refine TL_ev env 1 rfl ⟨trivial, trivial⟩ ?_
        refine TL_gt rfl rfl rfl rfl ?_
        refine TL_ev env 3 rfl ⟨⟨trivial, ⟨trivial, trivial⟩⟩, ⟨⟨trivial, ⟨trivial, trivial⟩⟩, ⟨trivial, trivial⟩⟩⟩ ?_
        refine TL_gt rfl rfl rfl rfl ?_
        refine TL_ev env 1 rfl ⟨trivial, trivial⟩ ?_
        refine TL_gt rfl rfl rfl rfl ?_
        obtain ⟨⟨r30, r31⟩, hr, h1⟩ := bnd h1
        refine TL_callB [(0, 500070)] (weather_Weather_Draw_2.ok0 hr) weather_Weather_Draw_2.fnb rfl ⟨trivial, ⟨trivial, trivial⟩⟩ rfl ⟨.inr rfl, trivial⟩ rfl ?_
        refine TL_gt rfl rfl rfl rfl ?_
        refine TL_ev env 3 rfl ⟨⟨trivial, ⟨trivial, trivial⟩⟩, ⟨⟨trivial, ⟨trivial, trivial⟩⟩, ⟨trivial, trivial⟩⟩⟩ ?_
        refine TL_split 26 rfl (fun hb => ?_) (fun hb => ?_)
        · replace h1 := bif_t h1 hb
          refine TL_gt rfl rfl rfl rfl ?_
          refine TL_ev env 1 rfl ⟨trivial, trivial⟩ ?_
          refine TL_gt rfl rfl rfl rfl ?_
          obtain ⟨r33, hr, h1⟩ := bnd h1
          refine TL_callB [(0, 500070)] (weather_Weather_Fair.ok0 hr) weather_Weather_Fair.fnb rfl ⟨trivial, ⟨trivial, trivial⟩⟩ rfl ⟨.inr rfl, trivial⟩ rfl ?_
          refine TL_ev env 2 rfl ⟨⟨trivial, ⟨trivial, trivial⟩⟩, ⟨trivial, trivial⟩⟩ ?_
          refine TL_split 30 rfl (fun hb => ?_) (fun hb => ?_)
          · replace h1 := bif_t h1 hb
            refine TL_gt rfl rfl rfl rfl ?_
            refine TL_ev env 1 rfl ⟨trivial, trivial⟩ ?_
            refine TL_gt rfl rfl rfl rfl ?_
            obtain ⟨⟨r34, r35, r36⟩, hr, h1⟩ := bnd h1
            refine TL_callB [(0, 500070)] (weather_Weather_Lost.ok0 hr) weather_Weather_Lost.fnb rfl ⟨trivial, ⟨trivial, trivial⟩⟩ rfl ⟨.inr rfl, trivial⟩ rfl ?_
            refine TL_gt rfl rfl rfl rfl ?_
            refine TL_ev env 7 rfl ⟨trivial, ⟨⟨trivial, ⟨trivial, trivial⟩⟩, ⟨trivial, ⟨fun _ => trivial, ⟨fun _ => ⟨fun e => e, ⟨trivial, trivial⟩⟩, ⟨⟨trivial, ⟨fun e => e, trivial⟩⟩, ⟨trivial, trivial⟩⟩⟩⟩⟩⟩⟩ ?_
            refine TL_end ?_
            obtain rfl := sinj h1
            refine tsn ?_
            exact SP_ren [] _ rfl ⟨rfl, trivial⟩ trivial rfl
          · replace h1 := bif_f h1 hb
            refine TL_gf (.bool false) rfl rfl rfl rfl rfl (by decide) ?_
            refine TL_gf (.bool false) rfl rfl rfl rfl rfl (by decide) ?_
            refine TL_gf (.bool false) rfl rfl rfl rfl rfl (by decide) ?_
            refine TL_ev env 2 rfl ⟨⟨trivial, ⟨fun e => e, trivial⟩⟩, ⟨trivial, trivial⟩⟩ ?_
            refine TL_gf (.bool false) rfl rfl rfl rfl rfl (by decide) ?_
            refine TL_gf (.bool false) rfl rfl rfl rfl rfl (by decide) ?_
            refine TL_ev env 2 rfl ⟨⟨trivial, ⟨fun e => e, trivial⟩⟩, ⟨trivial, trivial⟩⟩ ?_
            refine TL_end ?_
            obtain rfl := sinj h1
            refine tsn ?_
            exact SP_ren [] _ rfl ⟨rfl, trivial⟩ trivial rfl
        · replace h1 := bif_f h1 hb
          refine TL_gf (.bool false) rfl rfl rfl rfl rfl (by decide) ?_
          refine TL_gf (.bool false) rfl rfl rfl rfl rfl (by decide) ?_
          refine TL_ev env 2 rfl ⟨⟨trivial, ⟨fun e => e, trivial⟩⟩, ⟨trivial, trivial⟩⟩ ?_
          refine TL_gf (.bool false) rfl rfl rfl rfl rfl (by decide) ?_
          refine TL_gf (.bool false) rfl rfl rfl rfl rfl (by decide) ?_
          refine TL_gf (.bool false) rfl rfl rfl rfl rfl (by decide) ?_
          refine TL_ev env 2 rfl ⟨⟨trivial, ⟨fun e => e, trivial⟩⟩, ⟨trivial, trivial⟩⟩ ?_
          refine TL_gf (.bool false) rfl rfl rfl rfl rfl (by decide) ?_
          refine TL_gf (.bool false) rfl rfl rfl rfl rfl (by decide) ?_
          refine TL_ev env 2 rfl ⟨⟨trivial, ⟨fun e => e, trivial⟩⟩, ⟨trivial, trivial⟩⟩ ?_
          refine TL_end ?_
          obtain rfl := sinj h1
          refine tsn ?_
          exact SP_ren [] _ rfl ⟨rfl, trivial⟩ trivial rfl
      · rintro x29 rfl
        refine TE_go ?_
        refine TC_ret ?_
        obtain rfl := sinj h0
        exact TE_ret env rfl trivial trivial
    · refine TL_callB [(1000, 500120)] (weather_New.ok1 hr) weather_New.fnb rfl ⟨trivial, ⟨trivial, ⟨trivial, trivial⟩⟩⟩ rfl trivial rfl ?_
      refine TL_ev env 5 rfl ⟨trivial, ⟨trivial, ⟨trivial, ⟨trivial, ⟨trivial, trivial⟩⟩⟩⟩⟩ ?_
      refine TL_end ?_
      refine TE_go ?_
      refine TC_seq ?_
      obtain ⟨z1, h1, h0⟩ := bnd h0
      refine TC_cut (α := Bool) (fun s => z1 = s) (fun s => [(0, .bool s)]) (fun s => []) ?_ ?_
      · refine TC_reg ?_
        refine TL_ev env 3 rfl ⟨trivial, ⟨⟨trivial, ⟨trivial, trivial⟩⟩, ⟨trivial, trivial⟩⟩⟩ ?_
        refine TL_gt rfl rfl rfl rfl ?_
        refine TL_ev env 1 rfl ⟨trivial, trivial⟩ ?_
        refine TL_gt rfl rfl rfl rfl ?_
        refine TL_ev env 3 rfl ⟨⟨trivial, ⟨trivial, trivial⟩⟩, ⟨⟨trivial, ⟨trivial, trivial⟩⟩, ⟨trivial, trivial⟩⟩⟩ ?_
        refine TL_gt rfl rfl rfl rfl ?_
        refine TL_ev env 1 rfl ⟨trivial, trivial⟩ ?_
        refine TL_gt rfl rfl rfl rfl ?_
        obtain ⟨⟨r45, r46⟩, hr, h1⟩ := bnd h1
        refine TL_callB [(0, 500070)] (weather_Weather_Draw_2.ok0 hr) weather_Weather_Draw_2.fnb rfl ⟨trivial, ⟨trivial, trivial⟩⟩ rfl ⟨.inr rfl, trivial⟩ rfl ?_
        refine TL_gt rfl rfl rfl rfl ?_
        refine TL_ev env 3 rfl ⟨⟨trivial, ⟨trivial, trivial⟩⟩, ⟨⟨trivial, ⟨trivial, trivial⟩⟩, ⟨trivial, trivial⟩⟩⟩ ?_
        refine TL_split 26 rfl (fun hb => ?_) (fun hb => ?_)
        · replace h1 := bif_t h1 hb
          refine TL_gt rfl rfl rfl rfl ?_
          refine TL_ev env 1 rfl ⟨trivial, trivial⟩ ?_
          refine TL_gt rfl rfl rfl rfl ?_
          obtain ⟨r48, hr, h1⟩ := bnd h1
          refine TL_callB [(0, 500070)] (weather_Weather_Fair.ok0 hr) weather_Weather_Fair.fnb rfl ⟨trivial, ⟨trivial, trivial⟩⟩ rfl ⟨.inr rfl, trivial⟩ rfl ?_
          refine TL_ev env 2 rfl ⟨⟨trivial, ⟨trivial, trivial⟩⟩, ⟨trivial, trivial⟩⟩ ?_
          refine TL_split 30 rfl (fun hb => ?_) (fun hb => ?_)
          · replace h1 := bif_t h1 hb
            refine TL_gt rfl rfl rfl rfl ?_
            refine TL_ev env 1 rfl ⟨trivial, trivial⟩ ?_
            refine TL_gt rfl rfl rfl rfl ?_
            obtain ⟨⟨r49, r50, r51⟩, hr, h1⟩ := bnd h1
            refine TL_callB [(0, 500070)] (weather_Weather_Lost.ok0 hr) weather_Weather_Lost.fnb rfl ⟨trivial, ⟨trivial, trivial⟩⟩ rfl ⟨.inr rfl, trivial⟩ rfl ?_
            refine TL_gt rfl rfl rfl rfl ?_
            refine TL_ev env 7 rfl ⟨trivial, ⟨⟨trivial, ⟨trivial, trivial⟩⟩, ⟨trivial, ⟨fun _ => trivial, ⟨fun _ => ⟨fun e => e, ⟨trivial, trivial⟩⟩, ⟨⟨trivial, ⟨fun e => e, trivial⟩⟩, ⟨trivial, trivial⟩⟩⟩⟩⟩⟩⟩ ?_
            refine TL_end ?_
            obtain rfl := sinj h1
            refine tsn ?_
            exact SP_ren [] _ rfl ⟨rfl, trivial⟩ trivial rfl
          · replace h1 := bif_f h1 hb
            refine TL_gf (.bool false) rfl rfl rfl rfl rfl (by decide) ?_
            refine TL_gf (.bool false) rfl rfl rfl rfl rfl (by decide) ?_
            refine TL_gf (.bool false) rfl rfl rfl rfl rfl (by decide) ?_
            refine TL_ev env 2 rfl ⟨⟨trivial, ⟨fun e => e, trivial⟩⟩, ⟨trivial, trivial⟩⟩ ?_
            refine TL_gf (.bool false) rfl rfl rfl rfl rfl (by decide) ?_
            refine TL_gf (.bool false) rfl rfl rfl rfl rfl (by decide) ?_
            refine TL_ev env 2 rfl ⟨⟨trivial, ⟨fun e => e, trivial⟩⟩, ⟨trivial, trivial⟩⟩ ?_
            refine TL_end ?_
            obtain rfl := sinj h1
            refine tsn ?_
            exact SP_ren [] _ rfl ⟨rfl, trivial⟩ trivial rfl
        · replace h1 := bif_f h1 hb
          refine TL_gf (.bool false) rfl rfl rfl rfl rfl (by decide) ?_
          refine TL_gf (.bool false) rfl rfl rfl rfl rfl (by decide) ?_
          refine TL_ev env 2 rfl ⟨⟨trivial, ⟨fun e => e, trivial⟩⟩, ⟨trivial, trivial⟩⟩ ?_
          refine TL_gf (.bool false) rfl rfl rfl rfl rfl (by decide) ?_
          refine TL_gf (.bool false) rfl rfl rfl rfl rfl (by decide) ?_
          refine TL_gf (.bool false) rfl rfl rfl rfl rfl (by decide) ?_
          refine TL_ev env 2 rfl ⟨⟨trivial, ⟨fun e => e, trivial⟩⟩, ⟨trivial, trivial⟩⟩ ?_
          refine TL_gf (.bool false) rfl rfl rfl rfl rfl (by decide) ?_
          refine TL_gf (.bool false) rfl rfl rfl rfl rfl (by decide) ?_
          refine TL_ev env 2 rfl ⟨⟨trivial, ⟨fun e => e, trivial⟩⟩, ⟨trivial, trivial⟩⟩ ?_
          refine TL_end ?_
          obtain rfl := sinj h1
          refine tsn ?_
          exact SP_ren [] _ rfl ⟨rfl, trivial⟩ trivial rfl
      · rintro x44 rfl
        refine TE_go ?_
        refine TC_ret ?_
        obtain rfl := sinj h0
        exact TE_ret env rfl trivial trivial
theorem psalterylaw32_alive.ok0 {K : Nat}  {q0 : Bool} (h0 : psalterylaw32_alive K  = some q0) : Fn Try.prog 21 [] [] (.bool q0) [] := psalterylaw32_alive.ok h0
theorem psalterylaw32_alive.fnb : fnb Try.prog 21 = true := fnb_of Try.func21 rfl
def psalteryref32_Check.res (_p0 : Int) (_p1 : Int) (_p2 : Int) (_p3 : Int) : Bool → MV
  | q0 => .bool q0
def psalteryref32_Check.out (_p0 : Int) (_p1 : Int) (_p2 : Int) (_p3 : Int) : Bool → List (Nat × Option MObj)
  | _ => []
theorem psalteryref32_Check.ok {K : Nat} {p0 : Int} {p1 : Int} {p2 : Int} {p3 : Int} {r : Bool} (h0 : psalteryref32_Check K p0 p1 p2 p3 = some r) : Fn Try.prog 23 [.agg [.int .i64 p0, .int .i64 p1, .int .i64 p2, .int .i64 p3]] [] (psalteryref32_Check.res p0 p1 p2 p3 r) (psalteryref32_Check.out p0 p1 p2 p3 r) := by
  refine Fn_of Try.func23 rfl (Nat.le_of_ble_eq_true rfl) fun Γ => ?_
  refine TC_seq ?_
  refine TC_reg ?_
  refine TL_ev env 2 rfl ⟨trivial, ⟨trivial, trivial⟩⟩ ?_
  refine TL_end ?_
  refine TE_go ?_
  refine TC_seq ?_
  refine TC_reg ?_
  refine TL_ev env 39 rfl ⟨trivial, ⟨⟨trivial, trivial⟩, ⟨⟨trivial, ⟨trivial, trivial⟩⟩, ⟨trivial, ⟨fun _ => trivial, ⟨fun _ => ⟨fun e => e, trivial⟩, ⟨fun _ => ⟨fun e => e, ⟨trivial, trivial⟩⟩, ⟨⟨trivial, ⟨fun e => e, trivial⟩⟩, ⟨trivial, ⟨fun _ => trivial, ⟨fun _ => ⟨fun e => e, trivial⟩, ⟨fun _ => ⟨fun e => e, ⟨trivial, trivial⟩⟩, ⟨⟨trivial, ⟨fun e => e, trivial⟩⟩, ⟨trivial, ⟨fun _ => trivial, ⟨fun _ => ⟨fun e => e, trivial⟩, ⟨fun _ => ⟨fun e => e, ⟨trivial, trivial⟩⟩, ⟨⟨trivial, ⟨fun e => e, trivial⟩⟩, ⟨trivial, ⟨fun _ => trivial, ⟨fun _ => ⟨fun e => e, trivial⟩, ⟨fun _ => ⟨fun e => e, ⟨trivial, trivial⟩⟩, ⟨⟨trivial, ⟨fun e => e, trivial⟩⟩, ⟨trivial, ⟨fun _ => trivial, ⟨fun _ => ⟨fun e => e, trivial⟩, ⟨fun _ => ⟨fun e => e, ⟨trivial, trivial⟩⟩, ⟨⟨trivial, ⟨fun e => e, trivial⟩⟩, ⟨trivial, ⟨fun _ => trivial, ⟨fun _ => ⟨fun e => e, trivial⟩, ⟨fun _ => ⟨fun e => e, ⟨trivial, trivial⟩⟩, ⟨⟨trivial, ⟨fun e => e, trivial⟩⟩, ⟨trivial, ⟨fun _ => trivial, ⟨fun _ => ⟨fun e => e, trivial⟩, ⟨fun _ => ⟨fun e => e, ⟨trivial, trivial⟩⟩, ⟨⟨trivial, ⟨fun e => e, trivial⟩⟩, ⟨trivial, trivial⟩⟩⟩⟩⟩⟩⟩⟩⟩⟩⟩⟩⟩⟩⟩⟩⟩⟩⟩⟩⟩⟩⟩⟩⟩⟩⟩⟩⟩⟩⟩⟩⟩⟩⟩⟩⟩⟩⟩ ?_
  refine TL_end ?_
  refine TE_go ?_
  refine TC_ret ?_
  obtain rfl := sinj h0
  exact TE_ret env rfl trivial trivial
theorem psalteryref32_Check.ok0 {K : Nat} {p0 : Int} {p1 : Int} {p2 : Int} {p3 : Int} {q0 : Bool} (h0 : psalteryref32_Check K p0 p1 p2 p3 = some q0) : Fn Try.prog 23 [.agg [.int .i64 p0, .int .i64 p1, .int .i64 p2, .int .i64 p3]] [] (.bool q0) [] := psalteryref32_Check.ok h0
theorem psalteryref32_Check.fnb : fnb Try.prog 23 = true := fnb_of Try.func23 rfl
def psalteryref32_Weather_Draw.res (p0 : Int) (p1 : Int) (p2 : Int) (p3 : Int) (_p4 : Int) (p5 : Bool) : Int × Int → MV
  | (q0, q1) => .tup [.agg [.int .i64 p0, .int .i64 p1, .int .i64 p2, .int .i64 p3, .int .u64 q0, .bool p5], .int .i64 q1]
def psalteryref32_Weather_Draw.out (_p0 : Int) (_p1 : Int) (_p2 : Int) (_p3 : Int) (_p4 : Int) (_p5 : Bool) : Int × Int → List (Nat × Option MObj)
  | (_, _) => []
theorem psalteryref32_Weather_Draw.ok {K : Nat} {p0 : Int} {p1 : Int} {p2 : Int} {p3 : Int} {p4 : Int} {p5 : Bool} {r : Int × Int} (h0 : psalteryref32_Weather_Draw K p0 p1 p2 p3 p4 p5 = some r) : Fn Try.prog 25 [.agg [.int .i64 p0, .int .i64 p1, .int .i64 p2, .int .i64 p3, .int .u64 p4, .bool p5]] [] (psalteryref32_Weather_Draw.res p0 p1 p2 p3 p4 p5 r) (psalteryref32_Weather_Draw.out p0 p1 p2 p3 p4 p5 r) := by
  refine Fn_of Try.func25 rfl (Nat.le_of_ble_eq_true rfl) fun Γ => ?_
  refine TC_seq ?_
  refine TC_reg ?_
  refine TL_ev env 3 rfl ⟨trivial, ⟨trivial, ⟨trivial, trivial⟩⟩⟩ ?_
  refine TL_end ?_
  refine TE_go ?_
  refine TC_seq ?_
  refine TC_reg ?_
  refine TL_ev env 7 rfl ⟨trivial, ⟨⟨trivial, trivial⟩, ⟨⟨trivial, ⟨trivial, trivial⟩⟩, ⟨⟨trivial, ⟨trivial, trivial⟩⟩, ⟨⟨trivial, ⟨trivial, (by decide)⟩⟩, ⟨trivial, ⟨⟨trivial, trivial⟩, trivial⟩⟩⟩⟩⟩⟩⟩ ?_
  refine TL_end ?_
  refine TE_go ?_
  refine TC_seq ?_
  refine TC_renw (A' := [(1, .p 1001 0), (2, .p 1002 0)]) (L' := [(1001, some (.cells [.int .i64 _, .int .i64 _, .int .i64 _, .int .i64 _, .int .u64 _, .bool _])), (1002, some (.cells [.int .i64 0, .int .i64 0, .int .i64 0, .int .i64 0, .int .u64 0, .bool false]))]) [] ⟨rfl, rfl, trivial⟩ ⟨rfl, rfl, trivial⟩ rfl ?_
  refine TC_drawR ⟨_, fun i => ([[], [], [1], [2, 1], [3, 2, 1], [0], [5, 4, 3, 2, 1, 0]] : List (List Nat)).getD i [], fun i => ([[], [], [], [], [], [1002], []] : List (List Nat)).getD i [], fun i => ([[], [], [], [], [], [], []] : List (List Nat)).getD i []⟩ (fun i => ([[], [1002], [1002], [1002], [1002], [], []] : List (List Nat)).getD i []) rfl rfl ?_
  refine AJR_ev env 1 rfl (Nat.le_of_ble_eq_true rfl) rfl ⟨trivial, trivial⟩ ?_
  refine AJR_ev env 2 rfl (Nat.le_of_ble_eq_true rfl) rfl trivial ?_
  refine AJR_ev env 3 rfl (Nat.le_of_ble_eq_true rfl) rfl ⟨trivial, trivial⟩ ?_
  refine AJR_ev env 4 rfl (Nat.le_of_ble_eq_true rfl) rfl ⟨trivial, ⟨trivial, (by decide)⟩⟩ ?_
  refine AJR_ev env 5 rfl (Nat.le_of_ble_eq_true rfl) rfl trivial ?_
  refine AJR_ev env 6 rfl (Nat.le_of_ble_eq_true rfl) rfl ⟨trivial, trivial⟩ ?_
  refine AJR_ev env 7 rfl (Nat.le_of_ble_eq_true rfl) rfl trivial ?_
  refine AJR_end rfl rfl rfl ?_
  refine TE_go ?_
  refine TC_ret ?_
  obtain rfl := sinj h0
  exact TE_ret env rfl ⟨trivial, trivial⟩ trivial
theorem psalteryref32_Weather_Draw.ok0 {K : Nat} {p0 : Int} {p1 : Int} {p2 : Int} {p3 : Int} {p4 : Int} {p5 : Bool} {q0 : Int} {q1 : Int} (h0 : psalteryref32_Weather_Draw K p0 p1 p2 p3 p4 p5 = some (q0, q1)) : Fn Try.prog 25 [.agg [.int .i64 p0, .int .i64 p1, .int .i64 p2, .int .i64 p3, .int .u64 p4, .bool p5]] [] (.tup [.agg [.int .i64 p0, .int .i64 p1, .int .i64 p2, .int .i64 p3, .int .u64 q0, .bool p5], .int .i64 q1]) [] := psalteryref32_Weather_Draw.ok h0
theorem psalteryref32_Weather_Draw.fnb : fnb Try.prog 25 = true := fnb_of Try.func25 rfl
def psalteryref32_Weather_Lost.res (p0 : Int) (p1 : Int) (p2 : Int) (p3 : Int) (_p4 : Int) (_p5 : Bool) : Int × Bool × Bool → MV
  | (q0, q1, q2) => .tup [.agg [.int .i64 p0, .int .i64 p1, .int .i64 p2, .int .i64 p3, .int .u64 q0, .bool q1], .bool q2]
def psalteryref32_Weather_Lost.out (_p0 : Int) (_p1 : Int) (_p2 : Int) (_p3 : Int) (_p4 : Int) (_p5 : Bool) : Int × Bool × Bool → List (Nat × Option MObj)
  | (_, _, _) => []
theorem psalteryref32_Weather_Lost.ok {K : Nat} {p0 : Int} {p1 : Int} {p2 : Int} {p3 : Int} {p4 : Int} {p5 : Bool} {r : Int × Bool × Bool} (h0 : psalteryref32_Weather_Lost K p0 p1 p2 p3 p4 p5 = some r) : Fn Try.prog 27 [.agg [.int .i64 p0, .int .i64 p1, .int .i64 p2, .int .i64 p3, .int .u64 p4, .bool p5]] [] (psalteryref32_Weather_Lost.res p0 p1 p2 p3 p4 p5 r) (psalteryref32_Weather_Lost.out p0 p1 p2 p3 p4 p5 r) := by
  refine Fn_of Try.func27 rfl (Nat.le_of_ble_eq_true rfl) fun Γ => ?_
  refine TC_seq ?_
  refine TC_reg ?_
  refine TL_ev env 3 rfl ⟨trivial, ⟨trivial, ⟨trivial, trivial⟩⟩⟩ ?_
  refine TL_end ?_
  refine TE_go ?_
  refine TC_seq ?_
  refine TC_reg ?_
  refine TL_ev env 1 rfl ⟨⟨trivial, trivial⟩, trivial⟩ ?_
  obtain ⟨⟨r6, r7⟩, hr, h0⟩ := bnd h0
  refine TL_callB [] (psalteryref32_Weather_Draw.ok0 hr) psalteryref32_Weather_Draw.fnb rfl ⟨trivial, ⟨trivial, trivial⟩⟩ rfl trivial rfl ?_
  refine TL_ev env 5 rfl ⟨trivial, ⟨trivial, ⟨trivial, ⟨⟨trivial, trivial⟩, ⟨trivial, trivial⟩⟩⟩⟩⟩ ?_
  refine TL_end ?_
  refine TE_go ?_
  refine TC_seq ?_
  refine TC_seq ?_
  refine TC_reg ?_
  refine TL_ev env 9 rfl ⟨trivial, ⟨⟨trivial, trivial⟩, ⟨trivial, ⟨fun _ => trivial, ⟨fun _ => trivial, ⟨fun _ => fun e => e, ⟨fun _ => ⟨fun e => e, trivial⟩, ⟨fun _ => ⟨fun e => e, ⟨fun e => e, trivial⟩⟩, ⟨⟨trivial, ⟨fun e => e, trivial⟩⟩, trivial⟩⟩⟩⟩⟩⟩⟩⟩⟩ ?_
  refine TL_end ?_
  refine TE_go ?_
  obtain ⟨z1, h1, h0⟩ := bnd h0
  refine TC_cut (α := Bool) (fun s => z1 = s) (fun s => [(1, .p 10200 0), (2, .p 10201 0)]) (fun s => [(10200, some (.cells [.int .i64 p0, .int .i64 p1, .int .i64 p2, .int .i64 p3, .int .u64 r6, .bool s])), (10201, some (.cells [.int .i64 0, .int .i64 0, .int .i64 0, .int .i64 0, .int .u64 0, .bool false]))]) ?_ ?_
  · refine TC_cond rfl (fun hb => ?_) (fun hb => ?_)
    · replace h1 := bif_t h1 hb
      refine TC_reg ?_
      refine TL_ev env 2 rfl ⟨trivial, ⟨⟨trivial, trivial⟩, trivial⟩⟩ ?_
      refine TL_end ?_
      obtain rfl := sinj h1
      refine tsn ?_
      exact SP_ren [(10200, 1001), (10201, 1002)] _ rfl ⟨rfl, rfl, trivial⟩ ⟨rfl, rfl, trivial⟩ rfl
    · replace h1 := bif_f h1 hb
      refine TC_seq ?_
      refine TC_reg ?_
      refine TL_ev env 10 rfl ⟨trivial, ⟨⟨trivial, trivial⟩, ⟨trivial, ⟨trivial, ⟨fun _ => trivial, ⟨fun _ => trivial, ⟨fun _ => fun e => e, ⟨fun _ => ⟨fun e => e, trivial⟩, ⟨fun _ => ⟨fun e => e, ⟨fun e => e, trivial⟩⟩, ⟨⟨trivial, ⟨fun e => e, trivial⟩⟩, trivial⟩⟩⟩⟩⟩⟩⟩⟩⟩⟩ ?_
      refine TL_end ?_
      refine TE_go ?_
      refine TC_cond rfl (fun hb => ?_) (fun hb => ?_)
      · replace h1 := bif_t h1 hb
        refine TC_reg ?_
        refine TL_ev env 2 rfl ⟨trivial, ⟨⟨trivial, trivial⟩, trivial⟩⟩ ?_
        refine TL_end ?_
        obtain rfl := sinj h1
        refine tsn ?_
        exact SP_ren [(10200, 1001), (10201, 1002)] _ rfl ⟨rfl, rfl, trivial⟩ ⟨rfl, rfl, trivial⟩ rfl
      · replace h1 := bif_f h1 hb
        refine TC_skip ?_
        obtain rfl := sinj h1
        refine tsn ?_
        exact SP_ren [(10200, 1001), (10201, 1002)] _ rfl ⟨rfl, rfl, trivial⟩ ⟨rfl, rfl, trivial⟩ rfl
  · rintro x10 rfl
    refine TE_go ?_
    refine TC_seq ?_
    refine TC_reg ?_
    refine TL_ev env 1 rfl ⟨⟨trivial, trivial⟩, trivial⟩ ?_
    obtain ⟨⟨r11, r12⟩, hr, h0⟩ := bnd h0
    refine TL_callB [] (psalteryref32_Weather_Draw.ok0 hr) psalteryref32_Weather_Draw.fnb rfl ⟨trivial, ⟨trivial, trivial⟩⟩ rfl trivial rfl ?_
    refine TL_ev env 5 rfl ⟨trivial, ⟨trivial, ⟨trivial, ⟨⟨trivial, trivial⟩, ⟨trivial, trivial⟩⟩⟩⟩⟩ ?_
    refine TL_end ?_
    refine TE_go ?_
    refine TC_seq ?_
    refine TC_seq ?_
    refine TC_reg ?_
    refine TL_ev env 2 rfl ⟨trivial, ⟨⟨trivial, trivial⟩, trivial⟩⟩ ?_
    refine TL_end ?_
    refine TE_go ?_
    refine TC_cond rfl (fun hb => ?_) (fun hb => ?_)
    · replace h0 := bif_t h0 hb
      refine TC_seq ?_
      refine TC_renw (A' := [(1, .p 10200 0), (2, .p 10201 0), (4, .int .i64 _)]) (L' := [(10200, some (.cells [.int .i64 _, .int .i64 _, .int .i64 _, .int .i64 _, .int .u64 _, .bool _])), (10201, some (.cells [.int .i64 0, .int .i64 0, .int .i64 0, .int .i64 0, .int .u64 0, .bool false]))]) [] ⟨rfl, rfl, rfl, trivial⟩ ⟨rfl, rfl, trivial⟩ rfl ?_
      refine TC_drawR ⟨_, fun i => ([[], [], [], [2], [3, 2], [4, 3, 2, 1], [0], [6, 5, 4, 3, 2, 1, 0]] : List (List Nat)).getD i [], fun i => ([[], [], [], [], [], [], [10201], []] : List (List Nat)).getD i [], fun i => ([[], [], [], [], [], [], [], []] : List (List Nat)).getD i []⟩ (fun i => ([[], [10201], [10201], [10201], [10201], [10201], [], []] : List (List Nat)).getD i []) rfl rfl ?_
      refine AJR_ev env 1 rfl (Nat.le_of_ble_eq_true rfl) rfl ⟨trivial, trivial⟩ ?_
      refine AJR_ev env 2 rfl (Nat.le_of_ble_eq_true rfl) rfl trivial ?_
      refine AJR_ev env 3 rfl (Nat.le_of_ble_eq_true rfl) rfl trivial ?_
      refine AJR_ev env 4 rfl (Nat.le_of_ble_eq_true rfl) rfl trivial ?_
      refine AJR_ev env 5 rfl (Nat.le_of_ble_eq_true rfl) rfl ⟨trivial, trivial⟩ ?_
      refine AJR_ev env 6 rfl (Nat.le_of_ble_eq_true rfl) rfl ⟨trivial, ⟨trivial, trivial⟩⟩ ?_
      refine AJR_ev env 7 rfl (Nat.le_of_ble_eq_true rfl) rfl ⟨trivial, trivial⟩ ?_
      refine AJR_ev env 8 rfl (Nat.le_of_ble_eq_true rfl) rfl trivial ?_
      refine AJR_end rfl rfl rfl ?_
      refine TE_go ?_
      refine TC_ret ?_
      refine tsr ?_
      obtain rfl := sinj h0
      exact TE_ret env rfl ⟨trivial, trivial⟩ trivial
    · replace h0 := bif_f h0 hb
      refine TC_skip ?_
      refine TE_go ?_
      refine TC_seq ?_
      refine TC_renw (A' := [(1, .p 10200 0), (2, .p 10201 0), (4, .int .i64 _)]) (L' := [(10200, some (.cells [.int .i64 _, .int .i64 _, .int .i64 _, .int .i64 _, .int .u64 _, .bool _])), (10201, some (.cells [.int .i64 0, .int .i64 0, .int .i64 0, .int .i64 0, .int .u64 0, .bool false]))]) [] ⟨rfl, rfl, rfl, trivial⟩ ⟨rfl, rfl, trivial⟩ rfl ?_
      refine TC_drawR ⟨_, fun i => ([[], [], [], [2], [3, 2], [4, 3, 2, 1], [0], [6, 5, 4, 3, 2, 1, 0]] : List (List Nat)).getD i [], fun i => ([[], [], [], [], [], [], [10201], []] : List (List Nat)).getD i [], fun i => ([[], [], [], [], [], [], [], []] : List (List Nat)).getD i []⟩ (fun i => ([[], [10201], [10201], [10201], [10201], [10201], [], []] : List (List Nat)).getD i []) rfl rfl ?_
      refine AJR_ev env 1 rfl (Nat.le_of_ble_eq_true rfl) rfl ⟨trivial, trivial⟩ ?_
      refine AJR_ev env 2 rfl (Nat.le_of_ble_eq_true rfl) rfl trivial ?_
      refine AJR_ev env 3 rfl (Nat.le_of_ble_eq_true rfl) rfl trivial ?_
      refine AJR_ev env 4 rfl (Nat.le_of_ble_eq_true rfl) rfl trivial ?_
      refine AJR_ev env 5 rfl (Nat.le_of_ble_eq_true rfl) rfl ⟨trivial, trivial⟩ ?_
      refine AJR_ev env 6 rfl (Nat.le_of_ble_eq_true rfl) rfl ⟨trivial, ⟨trivial, trivial⟩⟩ ?_
      refine AJR_ev env 7 rfl (Nat.le_of_ble_eq_true rfl) rfl ⟨trivial, trivial⟩ ?_
      refine AJR_ev env 8 rfl (Nat.le_of_ble_eq_true rfl) rfl trivial ?_
      refine AJR_end rfl rfl rfl ?_
      refine TE_go ?_
      refine TC_ret ?_
      obtain rfl := sinj h0
      exact TE_ret env rfl ⟨trivial, trivial⟩ trivial
theorem psalteryref32_Weather_Lost.ok0 {K : Nat} {p0 : Int} {p1 : Int} {p2 : Int} {p3 : Int} {p4 : Int} {p5 : Bool} {q0 : Int} {q1 : Bool} {q2 : Bool} (h0 : psalteryref32_Weather_Lost K p0 p1 p2 p3 p4 p5 = some (q0, q1, q2)) : Fn Try.prog 27 [.agg [.int .i64 p0, .int .i64 p1, .int .i64 p2, .int .i64 p3, .int .u64 p4, .bool p5]] [] (.tup [.agg [.int .i64 p0, .int .i64 p1, .int .i64 p2, .int .i64 p3, .int .u64 q0, .bool q1], .bool q2]) [] := psalteryref32_Weather_Lost.ok h0
theorem psalteryref32_Weather_Lost.fnb : fnb Try.prog 27 = true := fnb_of Try.func27 rfl
def weather_Weather_Lost_2.res  : Unit → MV
  | () => .bool false
def weather_Weather_Lost_2.out  : Unit → List (Nat × Option MObj)
  | () => []
theorem weather_Weather_Lost_2.ok {K : Nat}  {r : Unit} (h0 : weather_Weather_Lost_2 K  = some r) : Fn Try.prog 28 [.nilp] [] (weather_Weather_Lost_2.res  r) (weather_Weather_Lost_2.out  r) := by
  refine Fn_of Try.func28 rfl (Nat.le_of_ble_eq_true rfl) fun Γ => ?_
  refine TC_seq ?_
  refine TC_reg ?_
  refine TL_ev env 1 rfl ⟨trivial, trivial⟩ ?_
  refine TL_end ?_
  refine TE_go ?_
  refine TC_seq ?_
  refine TC_seq ?_
  refine TC_reg ?_
  refine TL_ev env 2 rfl ⟨trivial, ⟨⟨trivial, ⟨trivial, trivial⟩⟩, trivial⟩⟩ ?_
  refine TL_end ?_
  refine TE_go ?_
  refine TC_cond rfl (fun hb => ?_) (fun hb => ?_)
  · refine TC_seq ?_
    refine TC_reg ?_
    refine TL_ev env 1 rfl ⟨trivial, trivial⟩ ?_
    refine TL_end ?_
    refine TE_go ?_
    refine TC_ret ?_
    refine tsr ?_
    obtain rfl := sinj h0
    exact TE_ret env rfl trivial trivial
  · first | exact (ftf hb).elim | exact (tff hb).elim | exact absurd hb (by decide)
theorem weather_Weather_Lost_2.ok0 {K : Nat}   (h0 : weather_Weather_Lost_2 K  = some ()) : Fn Try.prog 28 [.nilp] [] (.bool false) [] := weather_Weather_Lost_2.ok h0
theorem weather_Weather_Lost_2.fnb : fnb Try.prog 28 = true := fnb_of Try.func28 rfl
def weather_Weather_Row.res (_p0 : Int) : Unit → MV
  | () => .nils
def weather_Weather_Row.out (_p0 : Int) : Unit → List (Nat × Option MObj)
  | () => []
theorem weather_Weather_Row.ok {K : Nat} {p0 : Int} {r : Unit} (h0 : weather_Weather_Row K p0 = some r) : Fn Try.prog 29 [.nilp, .int .i64 p0] [] (weather_Weather_Row.res p0 r) (weather_Weather_Row.out p0 r) := by
  refine Fn_of Try.func29 rfl (Nat.le_of_ble_eq_true rfl) fun Γ => ?_
  refine TC_seq ?_
  refine TC_reg ?_
  refine TL_ev env 1 rfl ⟨trivial, trivial⟩ ?_
  refine TL_end ?_
  refine TE_go ?_
  refine TC_seq ?_
  refine TC_seq ?_
  refine TC_reg ?_
  refine TL_ev env 2 rfl ⟨trivial, ⟨⟨trivial, ⟨trivial, trivial⟩⟩, trivial⟩⟩ ?_
  refine TL_end ?_
  refine TE_go ?_
  refine TC_cond rfl (fun hb => ?_) (fun hb => ?_)
  · refine TC_seq ?_
    refine TC_reg ?_
    refine TL_ev env 1 rfl ⟨trivial, trivial⟩ ?_
    refine TL_end ?_
    refine TE_go ?_
    refine TC_ret ?_
    refine tsr ?_
    obtain rfl := sinj h0
    exact TE_ret env rfl trivial trivial
  · first | exact (ftf hb).elim | exact (tff hb).elim | exact absurd hb (by decide)
theorem weather_Weather_Row.ok0 {K : Nat} {p0 : Int}  (h0 : weather_Weather_Row K p0 = some ()) : Fn Try.prog 29 [.nilp, .int .i64 p0] [] (.nils) [] := weather_Weather_Row.ok h0
theorem weather_Weather_Row.fnb : fnb Try.prog 29 = true := fnb_of Try.func29 rfl
def weather_Weather_Fair_2.res  : Unit → MV
  | () => .bool false
def weather_Weather_Fair_2.out  : Unit → List (Nat × Option MObj)
  | () => []
theorem weather_Weather_Fair_2.ok {K : Nat}  {r : Unit} (h0 : weather_Weather_Fair_2 K  = some r) : Fn Try.prog 30 [.nilp] [] (weather_Weather_Fair_2.res  r) (weather_Weather_Fair_2.out  r) := by
  refine Fn_of Try.func30 rfl (Nat.le_of_ble_eq_true rfl) fun Γ => ?_
  refine TC_seq ?_
  refine TC_reg ?_
  refine TL_ev env 1 rfl ⟨trivial, trivial⟩ ?_
  refine TL_end ?_
  refine TE_go ?_
  refine TC_seq ?_
  refine TC_reg ?_
  refine TL_ev env 3 rfl ⟨trivial, ⟨⟨trivial, ⟨trivial, trivial⟩⟩, ⟨trivial, trivial⟩⟩⟩ ?_
  refine TL_gf (.bool false) rfl rfl rfl rfl rfl (by decide) ?_
  refine TL_gf (.bool false) rfl rfl rfl rfl rfl (by decide) ?_
  refine TL_gf (.bool false) rfl rfl rfl rfl rfl (by decide) ?_
  refine TL_gf (.bool false) rfl rfl rfl rfl rfl (by decide) ?_
  refine TL_gf (.bool false) rfl rfl rfl rfl rfl (by decide) ?_
  refine TL_ev env 2 rfl ⟨⟨trivial, ⟨fun e => e, trivial⟩⟩, ⟨trivial, trivial⟩⟩ ?_
  refine TL_end ?_
  refine TE_go ?_
  refine TC_ret ?_
  obtain rfl := sinj h0
  exact TE_ret env rfl trivial trivial
theorem weather_Weather_Fair_2.ok0 {K : Nat}   (h0 : weather_Weather_Fair_2 K  = some ()) : Fn Try.prog 30 [.nilp] [] (.bool false) [] := weather_Weather_Fair_2.ok h0
theorem weather_Weather_Fair_2.fnb : fnb Try.prog 30 = true := fnb_of Try.func30 rfl
def weather_bit.res (_p0 : Bool) : Int → MV
  | q0 => .int .i64 q0
def weather_bit.out (_p0 : Bool) : Int → List (Nat × Option MObj)
  | _ => []
theorem weather_bit.ok {K : Nat} {p0 : Bool} {r : Int} (h0 : weather_bit K p0 = some r) : Fn Try.prog 84 [.bool p0] [] (weather_bit.res p0 r) (weather_bit.out p0 r) := by
  refine Fn_of Try.func84 rfl (Nat.le_of_ble_eq_true rfl) fun Γ => ?_
  refine TC_seq ?_
  refine TC_reg ?_
  refine TL_ev env 1 rfl ⟨trivial, trivial⟩ ?_
  refine TL_end ?_
  refine TE_go ?_
  refine TC_seq ?_
  refine TC_seq ?_
  refine TC_reg ?_
  refine TL_ev env 1 rfl ⟨trivial, trivial⟩ ?_
  refine TL_end ?_
  refine TE_go ?_
  refine TC_cond rfl (fun hb => ?_) (fun hb => ?_)
  · replace h0 := bif_t h0 hb
    refine TC_seq ?_
    refine TC_reg ?_
    refine TL_ev env 1 rfl ⟨trivial, trivial⟩ ?_
    refine TL_end ?_
    refine TE_go ?_
    refine TC_ret ?_
    refine tsr ?_
    obtain rfl := sinj h0
    exact TE_ret env rfl trivial trivial
  · replace h0 := bif_f h0 hb
    refine TC_skip ?_
    refine TE_go ?_
    refine TC_seq ?_
    refine TC_reg ?_
    refine TL_ev env 1 rfl ⟨trivial, trivial⟩ ?_
    refine TL_end ?_
    refine TE_go ?_
    refine TC_ret ?_
    obtain rfl := sinj h0
    exact TE_ret env rfl trivial trivial
theorem weather_bit.ok0 {K : Nat} {p0 : Bool} {q0 : Int} (h0 : weather_bit K p0 = some q0) : Fn Try.prog 84 [.bool p0] [] (.int .i64 q0) [] := weather_bit.ok h0
theorem weather_bit.fnb : fnb Try.prog 84 = true := fnb_of Try.func84 rfl
def weather_Weather_Row_2.res (_p0 : Int) (_p1 : Int) (_p2 : Int) (_p3 : Int) (_p4 : Int) (_p5 : Int) (_p6 : Bool) : (List ((Int × (Int × (Int × Int))))) × Int × Bool → MV
  | (q0, _, _) => .im (.slice (.pair (.int .i64) (.pair (.int .i64) (.pair (.int .i64) (.int .u32))))) q0
def weather_Weather_Row_2.out (_p0 : Int) (p1 : Int) (p2 : Int) (p3 : Int) (p4 : Int) (_p5 : Int) (_p6 : Bool) : (List ((Int × (Int × (Int × Int))))) × Int × Bool → List (Nat × Option MObj)
  | (_, q1, q2) => [(0, some (.cells [.int .i64 p1, .int .i64 p2, .int .i64 p3, .int .i64 p4, .int .u32 q1, .bool q2]))]
theorem weather_Weather_Row_2.ok {K : Nat} {p0 : Int} {p1 : Int} {p2 : Int} {p3 : Int} {p4 : Int} {p5 : Int} {p6 : Bool} {r : (List ((Int × (Int × (Int × Int))))) × Int × Bool} (h0 : weather_Weather_Row_2 K p0 p1 p2 p3 p4 p5 p6 = some r) : Fn Try.prog 29 [.p 0 0, .int .i64 p0] [(0, some (.cells [.int .i64 p1, .int .i64 p2, .int .i64 p3, .int .i64 p4, .int .u32 p5, .bool p6]))] (weather_Weather_Row_2.res p0 p1 p2 p3 p4 p5 p6 r) (weather_Weather_Row_2.out p0 p1 p2 p3 p4 p5 p6 r) := by
  refine Fn_of Try.func29 rfl (Nat.le_of_ble_eq_true rfl) fun Γ => ?_
  refine TC_seq ?_
  refine TC_reg ?_
  refine TL_ev env 1 rfl ⟨trivial, trivial⟩ ?_
  refine TL_end ?_
  refine TE_go ?_
  refine TC_seq ?_
  refine TC_seq ?_
  refine TC_reg ?_
  refine TL_ev env 2 rfl ⟨trivial, ⟨⟨trivial, ⟨trivial, trivial⟩⟩, trivial⟩⟩ ?_
  refine TL_end ?_
  refine TE_go ?_
  refine TC_cond rfl (fun hb => ?_) (fun hb => ?_)
  · first | exact (ftf hb).elim | exact (tff hb).elim | exact absurd hb (by decide)
  · refine TC_skip ?_
    refine TE_go ?_
    refine TC_seq ?_
    refine TC_reg ?_
    refine TL_ev env 1 rfl ⟨trivial, trivial⟩ ?_
    refine TL_end ?_
    refine TE_go ?_
    refine TC_seq ?_
    refine TC_seq ?_
    refine TC_reg ?_
    refine TL_ev env 4 rfl ⟨trivial, ⟨⟨trivial, ⟨trivial, trivial⟩⟩, ⟨⟨trivial, ⟨trivial, trivial⟩⟩, ⟨trivial, trivial⟩⟩⟩⟩ ?_
    refine TL_end ?_
    refine TE_go ?_
    obtain ⟨z1, h1, h0⟩ := bnd h0
    refine TC_cut (α := Int × Bool × (List ((Int × (Int × (Int × Int)))))) (fun s => z1 = s) (fun s => [(5, .sl 10801)]) (fun s => [(0, some (.cells [.int .i64 p1, .int .i64 p2, .int .i64 p3, .int .i64 p4, .int .u32 s.1, .bool s.2.1])), (10801, some (.rows (.pair (.int .i64) (.pair (.int .i64) (.pair (.int .i64) (.int .u32)))) s.2.2))]) ?_ ?_
    · refine TC_blk ?_
      refine TC_loop (α := Int × Int × Bool × (List ((Int × (Int × (Int × Int)))))) (fun n s => weather_Weather_Row_2.l0 K (imin (imax p0 0) 64) p1 p2 p3 p4 n s.1 s.2.1 s.2.2.1 s.2.2.2 = some z1) (fun s => [(0, .p 0 0), (5, .sl 11001), (11, .int .i64 (imin (imax p0 0) 64)), (12, .int .i64 s.1)]) (fun s => [(0, some (.cells [.int .i64 p1, .int .i64 p2, .int .i64 p3, .int .i64 p4, .int .u32 s.2.1, .bool s.2.2.1])), (11001, some (.rows (.pair (.int .i64) (.pair (.int .i64) (.pair (.int .i64) (.int .u32)))) s.2.2.2))]) K ?_ ?_
      · refine TE_own 5 7005 (.pair (.int .i64) (.pair (.int .i64) (.pair (.int .i64) (.int .u32)))) rfl (by decide) rfl rfl ?_
        exact SP_ren [(11001, 7005)] (_, _, _, _) h1 ⟨rfl, rfl, rfl, rfl, trivial⟩ ⟨rfl, rfl, trivial⟩ rfl
      rintro n ⟨x104, x105, x106, x107⟩ h1
      rcases n with _ | n
      · exact (nsome h1).elim
      replace h1 : weather_Weather_Row_2.r0 K (imin (imax p0 0) 64) p1 p2 p3 p4 (weather_Weather_Row_2.l0 K (imin (imax p0 0) 64) p1 p2 p3 p4 n) x104 x105 x106 x107 = some z1 := h1
      refine TC_seq ?_
      refine TC_reg ?_
      refine TL_ev env 1 rfl ⟨⟨trivial, ⟨trivial, trivial⟩⟩, trivial⟩ ?_
      refine TL_end ?_
      refine TE_go ?_
      refine TC_seq ?_
      refine TC_cond rfl (fun hb => ?_) (fun hb => ?_)
      · replace h1 := bif_t h1 hb
        refine TC_skip ?_
        refine TE_go ?_
        refine TC_seq ?_
        refine TC_blk ?_
        refine TC_seq ?_
        refine TC_reg ?_
        refine TL_ev env 1 rfl ⟨trivial, trivial⟩ ?_
        obtain ⟨⟨r137, r138, r139⟩, hr, h1⟩ := bnd h1
        refine TL_callB [(0, 0)] (weather_Weather_Lost.ok0 hr) weather_Weather_Lost.fnb rfl ⟨trivial, ⟨trivial, trivial⟩⟩ rfl ⟨.inr rfl, trivial⟩ rfl ?_
        obtain ⟨r140, hr, h1⟩ := bnd h1
        refine TL_callB [] (weather_bit.ok0 hr) weather_bit.fnb rfl ⟨trivial, ⟨trivial, trivial⟩⟩ rfl trivial rfl ?_
        refine TL_ev env 1 rfl ⟨trivial, trivial⟩ ?_
        refine TL_end ?_
        refine TE_go ?_
        refine TC_reg ?_
        refine TL_ev env 3 rfl ⟨trivial, ⟨trivial, ⟨trivial, trivial⟩⟩⟩ ?_
        obtain ⟨⟨r141, r142, r143⟩, hr, h1⟩ := bnd h1
        refine TL_callB [(0, 0)] (weather_Weather_Lost.ok0 hr) weather_Weather_Lost.fnb rfl ⟨trivial, ⟨trivial, trivial⟩⟩ rfl ⟨.inr rfl, trivial⟩ rfl ?_
        obtain ⟨r144, hr, h1⟩ := bnd h1
        refine TL_callB [] (weather_bit.ok0 hr) weather_bit.fnb rfl ⟨trivial, ⟨trivial, trivial⟩⟩ rfl trivial rfl ?_
        obtain ⟨g, h1⟩ := gd_t h1
        refine TL_ev env 4 rfl ⟨⟨trivial, ⟨trivial, trivial⟩⟩, ⟨⟨trivial, trivial⟩, ⟨⟨⟨trivial, ⟨trivial, trivial⟩⟩, g⟩, ⟨trivial, trivial⟩⟩⟩⟩ ?_
        refine TL_end ?_
        refine tbn ?_
        refine TE_go ?_
        refine TC_reg ?_
        refine TL_ev env 2 rfl ⟨⟨trivial, ⟨trivial, trivial⟩⟩, ⟨trivial, trivial⟩⟩ ?_
        refine TL_end ?_
        refine tsn ?_
        exact TE_nextr [(11001, 1024)] n (Nat.lt_succ_self n) (_, _, _, _) h1 ⟨rfl, rfl, rfl, rfl, trivial⟩ ⟨rfl, rfl, trivial⟩ rfl
      · replace h1 := bif_f h1 hb
        refine TC_exit ?_
        refine tsx ?_
        refine tsx ?_
        refine tbe ?_
        obtain rfl := sinj h1
        refine tsn ?_
        exact SP_ren [(10801, 11001)] (_, _, _) rfl ⟨rfl, trivial⟩ ⟨rfl, rfl, trivial⟩ rfl
    · rintro ⟨x85, x86, x87⟩ rfl
      refine TE_go ?_
      refine TC_seq ?_
      refine TC_reg ?_
      refine TL_ev env 2 rfl ⟨trivial, ⟨trivial, trivial⟩⟩ ?_
      refine TL_end ?_
      refine TE_go ?_
      refine TC_ret ?_
      refine TE_frz 10801 rfl ?_
      obtain rfl := sinj h0
      exact TE_ret env rfl trivial ⟨.inr rfl, trivial⟩
theorem weather_Weather_Row_2.ok0 {K : Nat} {p0 : Int} {p1 : Int} {p2 : Int} {p3 : Int} {p4 : Int} {p5 : Int} {p6 : Bool} {q0 : List ((Int × (Int × (Int × Int))))} {q1 : Int} {q2 : Bool} (h0 : weather_Weather_Row_2 K p0 p1 p2 p3 p4 p5 p6 = some (q0, q1, q2)) : Fn Try.prog 29 [.p 0 0, .int .i64 p0] [(0, some (.cells [.int .i64 p1, .int .i64 p2, .int .i64 p3, .int .i64 p4, .int .u32 p5, .bool p6]))] (.im (.slice (.pair (.int .i64) (.pair (.int .i64) (.pair (.int .i64) (.int .u32))))) q0) [(0, some (.cells [.int .i64 p1, .int .i64 p2, .int .i64 p3, .int .i64 p4, .int .u32 q1, .bool q2]))] := weather_Weather_Row_2.ok h0
theorem weather_Weather_Row_2.fnb : fnb Try.prog 29 = true := fnb_of Try.func29 rfl
def psalterylaw32_WeatherPlays.res (_p0 : Int) (_p1 : Int) (_p2 : Int) (_p3 : Int) (_p4 : Int) (_p5 : List (Int)) : Bool → MV
  | q0 => .bool q0
def psalterylaw32_WeatherPlays.out (_p0 : Int) (_p1 : Int) (_p2 : Int) (_p3 : Int) (_p4 : Int) (_p5 : List (Int)) : Bool → List (Nat × Option MObj)
  | _ => []
theorem psalterylaw32_WeatherPlays.ok {K : Nat} {p0 : Int} {p1 : Int} {p2 : Int} {p3 : Int} {p4 : Int} {p5 : List (Int)} {r : Bool} (h0 : psalterylaw32_WeatherPlays K p0 p1 p2 p3 p4 p5 = some r) : Fn Try.prog 3 [.agg [.int .i64 p0, .int .i64 p1, .int .i64 p2, .int .i64 p3], .int .u32 p4, .im (.slice (.int .i64)) p5] [] (psalterylaw32_WeatherPlays.res p0 p1 p2 p3 p4 p5 r) (psalterylaw32_WeatherPlays.out p0 p1 p2 p3 p4 p5 r) := by
  refine Fn_of Try.func3 rfl (Nat.le_of_ble_eq_true rfl) fun Γ => ?_
  refine TC_seq ?_
  refine TC_reg ?_
  refine TL_ev env 2 rfl ⟨trivial, ⟨trivial, trivial⟩⟩ ?_
  refine TL_end ?_
  refine TE_go ?_
  refine TC_seq ?_
  refine TC_seq ?_
  refine TC_reg ?_
  obtain ⟨r301, hr, h0⟩ := bnd h0
  refine TL_callB [] (psalterylaw32_alive.ok0 hr) psalterylaw32_alive.fnb rfl ⟨trivial, trivial⟩ rfl trivial rfl ?_
  refine TL_ev env 1 rfl ⟨trivial, trivial⟩ ?_
  refine TL_end ?_
  refine TE_go ?_
  refine TC_cond rfl (fun hb => ?_) (fun hb => ?_)
  · replace h0 := bif_t h0 hb
    refine TC_seq ?_
    refine TC_reg ?_
    refine TL_ev env 1 rfl ⟨trivial, trivial⟩ ?_
    refine TL_end ?_
    refine TE_go ?_
    refine TC_ret ?_
    refine tsr ?_
    obtain rfl := sinj h0
    exact TE_ret env rfl trivial trivial
  · replace h0 := bif_f h0 hb
    refine TC_skip ?_
    refine TE_go ?_
    refine TC_seq ?_
    refine TC_seq ?_
    refine TC_reg ?_
    refine TL_ev env 3 rfl ⟨trivial, ⟨⟨trivial, trivial⟩, ⟨⟨trivial, ⟨trivial, trivial⟩⟩, trivial⟩⟩⟩ ?_
    refine TL_end ?_
    refine TE_go ?_
    refine TC_cond rfl (fun hb => ?_) (fun hb => ?_)
    · replace h0 := bif_t h0 hb
      refine TC_seq ?_
      refine TC_reg ?_
      refine TL_ev env 1 rfl ⟨trivial, trivial⟩ ?_
      refine TL_end ?_
      refine TE_go ?_
      refine TC_ret ?_
      refine tsr ?_
      obtain rfl := sinj h0
      exact TE_ret env rfl trivial trivial
    · replace h0 := bif_f h0 hb
      refine TC_skip ?_
      refine TE_go ?_
      refine TC_seq ?_
      refine TC_reg ?_
      refine TL_ev env 2 rfl ⟨⟨trivial, trivial⟩, ⟨trivial, trivial⟩⟩ ?_
      obtain ⟨z, hr, h0⟩ := bnd h0
      rcases z with r303 | ⟨⟩
      · refine TL_callB [] (weather_New.ok0 hr) weather_New.fnb rfl ⟨trivial, ⟨trivial, ⟨trivial, trivial⟩⟩⟩ rfl trivial rfl ?_
        refine TL_ev env 5 rfl ⟨trivial, ⟨trivial, ⟨trivial, ⟨trivial, ⟨trivial, trivial⟩⟩⟩⟩⟩ ?_
        refine TL_end ?_
        refine TE_go ?_
        refine TC_seq ?_
        refine TC_seq ?_
        refine TC_reg ?_
        refine TL_ev env 1 rfl ⟨⟨trivial, trivial⟩, trivial⟩ ?_
        obtain ⟨r304, hr, h0⟩ := bnd h0
        refine TL_callB [] (psalteryref32_Check.ok0 hr) psalteryref32_Check.fnb rfl ⟨trivial, ⟨trivial, trivial⟩⟩ rfl trivial rfl ?_
        refine TL_ev env 1 rfl ⟨trivial, trivial⟩ ?_
        refine TL_end ?_
        refine TE_go ?_
        refine TC_cond rfl (fun hb => ?_) (fun hb => ?_)
        · replace h0 := bif_t h0 hb
          refine TC_seq ?_
          obtain ⟨z1, h1, h0⟩ := bnd h0
          refine TC_cut (α := Bool) (fun s => z1 = s) (fun s => [(6, .bool s)]) (fun s => []) ?_ ?_
          · refine TC_reg ?_
            refine TL_ev env 3 rfl ⟨trivial, ⟨⟨trivial, ⟨trivial, trivial⟩⟩, ⟨trivial, trivial⟩⟩⟩ ?_
            refine TL_gt rfl rfl rfl rfl ?_
            refine TL_ev env 1 rfl ⟨trivial, trivial⟩ ?_
            refine TL_gt rfl rfl rfl rfl ?_
            refine TL_ev env 3 rfl ⟨⟨trivial, ⟨trivial, trivial⟩⟩, ⟨⟨trivial, ⟨trivial, trivial⟩⟩, ⟨trivial, trivial⟩⟩⟩ ?_
            refine TL_split 36 rfl (fun hb => ?_) (fun hb => ?_)
            · replace h1 := bif_t h1 hb
              refine TL_gt rfl rfl rfl rfl ?_
              refine TL_ev env 1 rfl ⟨⟨trivial, trivial⟩, trivial⟩ ?_
              refine TL_gt rfl rfl rfl rfl ?_
              obtain ⟨r309, hr, h1⟩ := bnd h1
              refine TL_callB [] (weather_Check.ok0 hr) weather_Check.fnb rfl ⟨trivial, ⟨trivial, trivial⟩⟩ rfl trivial rfl ?_
              refine TL_gt rfl rfl rfl rfl ?_
              refine TL_ev env 3 rfl ⟨⟨trivial, ⟨trivial, trivial⟩⟩, ⟨⟨trivial, ⟨trivial, trivial⟩⟩, ⟨trivial, trivial⟩⟩⟩ ?_
              refine TL_end ?_
              obtain rfl := sinj h1
              refine tsn ?_
              exact SP_ren [] _ rfl ⟨rfl, trivial⟩ trivial rfl
            · replace h1 := bif_f h1 hb
              refine TL_gf (.bool false) rfl rfl rfl rfl rfl (by decide) ?_
              refine TL_gf (.bool false) rfl rfl rfl rfl rfl (by decide) ?_
              refine TL_gf (.bool false) rfl rfl rfl rfl rfl (by decide) ?_
              refine TL_ev env 2 rfl ⟨⟨trivial, ⟨fun e => e, trivial⟩⟩, ⟨trivial, trivial⟩⟩ ?_
              refine TL_end ?_
              obtain rfl := sinj h1
              refine tsn ?_
              exact SP_ren [] _ rfl ⟨rfl, trivial⟩ trivial rfl
          · rintro x308 rfl
            refine TE_go ?_
            refine TC_ret ?_
            refine tsr ?_
            obtain rfl := sinj h0
            exact TE_ret env rfl trivial trivial
        · replace h0 := bif_f h0 hb
          refine TC_skip ?_
          refine TE_go ?_
          refine TC_seq ?_
          refine TC_reg ?_
          refine TL_ev env 6 rfl ⟨⟨trivial, trivial⟩, ⟨trivial, ⟨trivial, ⟨⟨trivial, ⟨trivial, ⟨trivial, trivial⟩⟩⟩, ⟨trivial, ⟨⟨trivial, trivial⟩, trivial⟩⟩⟩⟩⟩⟩ ?_
          refine TL_end ?_
          refine TE_go ?_
          refine TC_seq ?_
          refine TC_seq ?_
          refine TC_reg ?_
          refine TL_ev env 2 rfl ⟨trivial, ⟨⟨trivial, ⟨trivial, trivial⟩⟩, trivial⟩⟩ ?_
          refine TL_end ?_
          refine TE_go ?_
          refine TC_cond rfl (fun hb => ?_) (fun hb => ?_)
          · replace h0 := bif_t h0 hb
            refine TC_seq ?_
            refine TC_reg ?_
            refine TL_ev env 1 rfl ⟨trivial, trivial⟩ ?_
            refine TL_end ?_
            refine TE_go ?_
            refine TC_ret ?_
            refine tsr ?_
            obtain rfl := sinj h0
            exact TE_ret env rfl trivial trivial
          · replace h0 := bif_f h0 hb
            refine TC_skip ?_
            refine TE_go ?_
            refine TC_seq ?_
            refine TC_seq ?_
            refine TC_reg ?_
            refine TL_ev env 1 rfl ⟨trivial, trivial⟩ ?_
            refine TL_end ?_
            refine TE_go ?_
            obtain ⟨z1, h1, h0⟩ := bnd h0
            refine TC_cut (α := Unit) (fun _ => z1 = .inl ()) (fun _ => []) (fun _ => []) ?_ ?_
            · refine TC_blk ?_
              refine TC_loop (α := Int × Int × Bool) (fun n s => psalterylaw32_WeatherPlays.l0 K p5 p0 p1 p2 p3 n s.1 s.2.1 s.2.2 = some z1) (fun s => [(2, .im (.slice (.int .i64)) p5), (7, .nilp), (9, .p 17800 0), (10, .int .i64 s.1)]) (fun s => [(17800, some (.cells [.int .i64 p0, .int .i64 p1, .int .i64 p2, .int .i64 p3, .int .u64 s.2.1, .bool s.2.2]))]) K ?_ ?_
              · exact SP_ren [(17800, 1009)] (_, _, _) h1 ⟨rfl, rfl, rfl, rfl, trivial⟩ ⟨rfl, trivial⟩ rfl
              rintro n ⟨x430, x431, x432⟩ h1
              rcases n with _ | n
              · exact (nsome h1).elim
              replace h1 : psalterylaw32_WeatherPlays.r0 K p5 p0 p1 p2 p3 (psalterylaw32_WeatherPlays.l0 K p5 p0 p1 p2 p3 n) x430 x431 x432 = some z1 := h1
              refine TC_seq ?_
              refine TC_seq ?_
              refine TC_reg ?_
              refine TL_ev env 4 rfl ⟨trivial, ⟨trivial, ⟨⟨trivial, trivial⟩, ⟨⟨trivial, ⟨trivial, trivial⟩⟩, trivial⟩⟩⟩⟩ ?_
              refine TL_end ?_
              refine TE_go ?_
              refine TC_cond rfl (fun hb => ?_) (fun hb => ?_)
              · replace h1 := bif_t h1 hb
                refine TC_skip ?_
                refine TE_go ?_
                refine TC_seq ?_
                refine TC_blk ?_
                refine TC_seq ?_
                refine TC_reg ?_
                refine TL_ev env 1 rfl ⟨trivial, trivial⟩ ?_
                refine TL_end ?_
                refine TE_go ?_
                refine TC_seq ?_
                refine TC_reg ?_
                refine TL_ev env 1 rfl ⟨trivial, trivial⟩ ?_
                refine TL_end ?_
                refine TE_go ?_
                refine TC_seq ?_
                refine TC_seq ?_
                refine TC_reg ?_
                obtain ⟨g, h1⟩ := gd_t h1
                refine TL_ev env 4 rfl ⟨trivial, ⟨trivial, ⟨⟨trivial, ⟨trivial, ⟨g.1, g.2⟩⟩⟩, ⟨⟨trivial, trivial⟩, trivial⟩⟩⟩⟩ ?_
                refine TL_end ?_
                refine TE_go ?_
                obtain ⟨z2, h2, h1⟩ := bnd h1
                refine TC_cut (α := Int × Bool) (fun s => z2 = .inl s) (fun s => [(2, .im (.slice (.int .i64)) p5), (7, .nilp), (9, .p 19500 0), (10, .int .i64 x430)]) (fun s => [(19500, some (.cells [.int .i64 p0, .int .i64 p1, .int .i64 p2, .int .i64 p3, .int .u64 s.1, .bool s.2]))]) ?_ ?_
                · refine TC_blk ?_
                  refine TC_seq ?_
                  refine TC_reg ?_
                  refine TL_ev env 2 rfl ⟨⟨trivial, ⟨trivial, trivial⟩⟩, ⟨trivial, trivial⟩⟩ ?_
                  refine TL_end ?_
                  refine TE_go ?_
                  refine TC_cond rfl (fun hb => ?_) (fun hb => ?_)
                  · replace h2 := bif_t h2 hb
                    refine TC_seq ?_
                    refine TC_reg ?_
                    refine TL_ev env 1 rfl ⟨⟨trivial, trivial⟩, trivial⟩ ?_
                    obtain ⟨⟨r516, r517⟩, hr, h2⟩ := bnd h2
                    refine TL_callB [] (psalteryref32_Weather_Draw.ok0 hr) psalteryref32_Weather_Draw.fnb rfl ⟨trivial, ⟨trivial, trivial⟩⟩ rfl trivial rfl ?_
                    refine TL_ev env 5 rfl ⟨trivial, ⟨trivial, ⟨trivial, ⟨⟨trivial, trivial⟩, ⟨trivial, trivial⟩⟩⟩⟩⟩ ?_
                    refine TL_end ?_
                    refine TE_go ?_
                    refine TC_seq ?_
                    refine TC_reg ?_
                    refine TL_ev env 1 rfl ⟨trivial, trivial⟩ ?_
                    obtain ⟨⟨⟩, hr, h2⟩ := bnd h2
                    refine TL_callB [] (weather_Weather_Draw.ok0 hr) weather_Weather_Draw.fnb rfl ⟨trivial, ⟨trivial, trivial⟩⟩ rfl trivial rfl ?_
                    refine TL_ev env 2 rfl ⟨trivial, ⟨⟨trivial, ⟨trivial, trivial⟩⟩, trivial⟩⟩ ?_
                    refine TL_end ?_
                    refine TE_go ?_
                    refine TC_cond rfl (fun hb => ?_) (fun hb => ?_)
                    · replace h2 := bif_t h2 hb
                      refine TC_seq ?_
                      refine TC_reg ?_
                      refine TL_ev env 1 rfl ⟨trivial, trivial⟩ ?_
                      refine TL_end ?_
                      refine TE_go ?_
                      refine TC_ret ?_
                      refine tbr ?_
                      refine tsr ?_
                      refine tsr ?_
                      refine tbr ?_
                      refine tsr ?_
                      refine tsr ?_
                      refine tbr ?_
                      refine tsr ?_
                      refine tsr ?_
                      obtain rfl := sinj h2
                      obtain rfl := sinj h1
                      obtain rfl := sinj h0
                      exact TE_ret env rfl trivial trivial
                    · replace h2 := bif_f h2 hb
                      refine TC_skip ?_
                      refine tbn ?_
                      obtain rfl := sinj h2
                      refine tsn ?_
                      exact SP_ren [(19500, 17800)] (_, _) rfl ⟨rfl, rfl, rfl, rfl, trivial⟩ ⟨rfl, trivial⟩ rfl
                  · replace h2 := bif_f h2 hb
                    refine TC_seq ?_
                    refine TC_reg ?_
                    refine TL_ev env 2 rfl ⟨⟨trivial, ⟨trivial, trivial⟩⟩, ⟨trivial, trivial⟩⟩ ?_
                    refine TL_end ?_
                    refine TE_go ?_
                    refine TC_cond rfl (fun hb => ?_) (fun hb => ?_)
                    · replace h2 := bif_t h2 hb
                      refine TC_seq ?_
                      refine TC_reg ?_
                      refine TL_ev env 1 rfl ⟨⟨trivial, trivial⟩, trivial⟩ ?_
                      obtain ⟨⟨r518, r519, r520⟩, hr, h2⟩ := bnd h2
                      refine TL_callB [] (psalteryref32_Weather_Lost.ok0 hr) psalteryref32_Weather_Lost.fnb rfl ⟨trivial, ⟨trivial, trivial⟩⟩ rfl trivial rfl ?_
                      refine TL_ev env 5 rfl ⟨trivial, ⟨trivial, ⟨trivial, ⟨⟨trivial, trivial⟩, ⟨trivial, trivial⟩⟩⟩⟩⟩ ?_
                      refine TL_end ?_
                      refine TE_go ?_
                      refine TC_seq ?_
                      refine TC_reg ?_
                      refine TL_ev env 1 rfl ⟨trivial, trivial⟩ ?_
                      obtain ⟨⟨⟩, hr, h2⟩ := bnd h2
                      refine TL_callB [] (weather_Weather_Lost_2.ok0 hr) weather_Weather_Lost_2.fnb rfl ⟨trivial, ⟨trivial, trivial⟩⟩ rfl trivial rfl ?_
                      refine TL_ev env 2 rfl ⟨trivial, ⟨⟨trivial, ⟨trivial, trivial⟩⟩, trivial⟩⟩ ?_
                      refine TL_end ?_
                      refine TE_go ?_
                      refine TC_cond rfl (fun hb => ?_) (fun hb => ?_)
                      · replace h2 := bif_t h2 hb
                        refine TC_seq ?_
                        refine TC_reg ?_
                        refine TL_ev env 1 rfl ⟨trivial, trivial⟩ ?_
                        refine TL_end ?_
                        refine TE_go ?_
                        refine TC_ret ?_
                        refine tbr ?_
                        refine tsr ?_
                        refine tsr ?_
                        refine tbr ?_
                        refine tsr ?_
                        refine tsr ?_
                        refine tbr ?_
                        refine tsr ?_
                        refine tsr ?_
                        obtain rfl := sinj h2
                        obtain rfl := sinj h1
                        obtain rfl := sinj h0
                        exact TE_ret env rfl trivial trivial
                      · replace h2 := bif_f h2 hb
                        refine TC_skip ?_
                        refine tbn ?_
                        obtain rfl := sinj h2
                        refine tsn ?_
                        exact SP_ren [(19500, 17800)] (_, _) rfl ⟨rfl, rfl, rfl, rfl, trivial⟩ ⟨rfl, trivial⟩ rfl
                    · replace h2 := bif_f h2 hb
                      refine TC_seq ?_
                      refine TC_reg ?_
                      obtain ⟨g, h2⟩ := gd_t h2
                      refine TL_ev env 5 rfl ⟨trivial, ⟨trivial, ⟨trivial, ⟨⟨trivial, ⟨trivial, ⟨g.1, g.2⟩⟩⟩, ⟨⟨trivial, trivial⟩, trivial⟩⟩⟩⟩⟩ ?_
                      obtain ⟨⟨⟩, hr, h2⟩ := bnd h2
                      refine TL_callB [] (weather_Weather_Row.ok0 hr) weather_Weather_Row.fnb rfl ⟨trivial, ⟨trivial, ⟨trivial, trivial⟩⟩⟩ rfl trivial rfl ?_
                      refine TL_ev env 1 rfl ⟨trivial, trivial⟩ ?_
                      refine TL_end ?_
                      refine TE_go ?_
                      refine TC_seq ?_
                      refine TC_reg ?_
                      obtain ⟨g, h2⟩ := gd_t h2
                      refine TL_ev env 7 rfl ⟨trivial, ⟨trivial, ⟨⟨trivial, ⟨trivial, ⟨g.1, g.2⟩⟩⟩, ⟨⟨trivial, trivial⟩, ⟨⟨trivial, ⟨trivial, trivial⟩⟩, ⟨⟨trivial, ⟨trivial, trivial⟩⟩, ⟨trivial, trivial⟩⟩⟩⟩⟩⟩⟩ ?_
                      refine TL_end ?_
                      refine TE_go ?_
                      refine TC_seq ?_
                      refine TC_seq ?_
                      refine TC_reg ?_
                      refine TL_ev env 4 rfl ⟨trivial, ⟨⟨trivial, trivial⟩, ⟨trivial, ⟨⟨trivial, ⟨trivial, trivial⟩⟩, trivial⟩⟩⟩⟩ ?_
                      refine TL_end ?_
                      refine TE_go ?_
                      refine TC_cond rfl (fun hb => ?_) (fun hb => ?_)
                      · replace h2 := bif_t h2 hb
                        refine TC_seq ?_
                        refine TC_reg ?_
                        refine TL_ev env 1 rfl ⟨trivial, trivial⟩ ?_
                        refine TL_end ?_
                        refine TE_go ?_
                        refine TC_ret ?_
                        refine tsr ?_
                        refine tbr ?_
                        refine tsr ?_
                        refine tsr ?_
                        refine tbr ?_
                        refine tsr ?_
                        refine tsr ?_
                        refine tbr ?_
                        refine tsr ?_
                        refine tsr ?_
                        obtain rfl := sinj h2
                        obtain rfl := sinj h1
                        obtain rfl := sinj h0
                        exact TE_ret env rfl trivial trivial
                      · replace h2 := bif_f h2 hb
                        refine TC_skip ?_
                        refine TE_go ?_
                        refine TC_seq ?_
                        refine TC_reg ?_
                        refine TL_ev env 1 rfl ⟨trivial, trivial⟩ ?_
                        refine TL_end ?_
                        refine TE_go ?_
                        obtain ⟨z3, h3, h2⟩ := bnd h2
                        refine TC_cut (α := Unit) (fun _ => z3 = ()) (fun _ => [(2, .im (.slice (.int .i64)) p5), (7, .nilp), (9, .p 19800 0), (10, .int .i64 x430)]) (fun _ => [(19800, some (.cells [.int .i64 p0, .int .i64 p1, .int .i64 p2, .int .i64 p3, .int .u64 x431, .bool x432]))]) ?_ ?_
                        · refine TC_blk ?_
                          refine TC_loop (α := Unit) (fun n _ => psalterylaw32_WeatherPlays.l1 K p5 x430 (imin (imax (Kd.nth (.int .i64) p5 (Int.toNat x430)) 0) 64) p0 p1 p2 p3 x431 x432 n = some z3) (fun _ => [(2, .im (.slice (.int .i64)) p5), (7, .nilp), (9, .p 19900 0), (10, .int .i64 x430), (11, .int .i64 (imin (imax (Kd.nth (.int .i64) p5 (Int.toNat x430)) 0) 64)), (13, .nils), (14, .int .i64 0)]) (fun _ => [(19900, some (.cells [.int .i64 p0, .int .i64 p1, .int .i64 p2, .int .i64 p3, .int .u64 x431, .bool x432]))]) K ?_ ?_
                          · exact SP_ren [(19900, 17800)] () h3 ⟨rfl, rfl, rfl, rfl, rfl, rfl, rfl, trivial⟩ ⟨rfl, trivial⟩ rfl
                          rintro n ⟨⟩ h3
                          rcases n with _ | n
                          · exact (nsome h3).elim
                          replace h3 : psalterylaw32_WeatherPlays.r1 K p5 x430 (imin (imax (Kd.nth (.int .i64) p5 (Int.toNat x430)) 0) 64) p0 p1 p2 p3 x431 x432 (psalterylaw32_WeatherPlays.l1 K p5 x430 (imin (imax (Kd.nth (.int .i64) p5 (Int.toNat x430)) 0) 64) p0 p1 p2 p3 x431 x432 n)  = some z3 := h3
                          refine TC_seq ?_
                          refine TC_seq ?_
                          refine TC_reg ?_
                          refine TL_ev env 3 rfl ⟨trivial, ⟨trivial, ⟨⟨trivial, ⟨trivial, trivial⟩⟩, trivial⟩⟩⟩ ?_
                          refine TL_end ?_
                          refine TE_go ?_
                          refine TC_cond rfl (fun hb => ?_) (fun hb => ?_)
                          · replace h3 := bif_t h3 hb
                            refine TC_skip ?_
                            refine TE_go ?_
                            refine TC_seq ?_
                            refine TC_blk ?_
                            refine TC_seq ?_
                            refine TC_reg ?_
                            refine TL_ev env 1 rfl ⟨trivial, trivial⟩ ?_
                            refine TL_end ?_
                            refine TE_go ?_
                            refine TC_seq ?_
                            refine TC_reg ?_
                            refine TL_ev env 1 rfl ⟨⟨trivial, trivial⟩, trivial⟩ ?_
                            obtain ⟨⟨r554, r555, r556⟩, hr, h3⟩ := bnd h3
                            refine TL_callB [] (psalteryref32_Weather_Lost.ok0 hr) psalteryref32_Weather_Lost.fnb rfl ⟨trivial, ⟨trivial, trivial⟩⟩ rfl trivial rfl ?_
                            refine TL_ev env 5 rfl ⟨trivial, ⟨trivial, ⟨trivial, ⟨⟨trivial, trivial⟩, ⟨trivial, trivial⟩⟩⟩⟩⟩ ?_
                            refine TL_end ?_
                            refine TE_go ?_
                            refine TC_seq ?_
                            refine TC_reg ?_
                            refine TL_ev env 1 rfl ⟨⟨trivial, trivial⟩, trivial⟩ ?_
                            obtain ⟨⟨r557, r558, r559⟩, hr, h3⟩ := bnd h3
                            refine TL_callB [] (psalteryref32_Weather_Lost.ok0 hr) psalteryref32_Weather_Lost.fnb rfl ⟨trivial, ⟨trivial, trivial⟩⟩ rfl trivial rfl ?_
                            refine TL_ev env 5 rfl ⟨trivial, ⟨trivial, ⟨trivial, ⟨⟨trivial, trivial⟩, ⟨trivial, trivial⟩⟩⟩⟩⟩ ?_
                            refine TL_end ?_
                            refine TE_go ?_
                            refine TC_seq ?_
                            refine TC_reg ?_
                            refine TL_ev env 2 rfl ⟨trivial, ⟨trivial, trivial⟩⟩ ?_
                            exact (nsome h3).elim
                          · replace h3 := bif_f h3 hb
                            refine TC_exit ?_
                            refine tsx ?_
                            refine tsx ?_
                            refine tbe ?_
                            obtain rfl := sinj h3
                            refine tsn ?_
                            exact SP_ren [(19800, 19900)] () rfl ⟨rfl, rfl, rfl, rfl, trivial⟩ ⟨rfl, trivial⟩ rfl
                        · rintro ⟨⟩ rfl
                          refine tbn ?_
                          obtain rfl := sinj h2
                          refine tsn ?_
                          exact SP_ren [(19500, 19800)] (_, _) rfl ⟨rfl, rfl, rfl, rfl, trivial⟩ ⟨rfl, trivial⟩ rfl
                · rintro ⟨x512, x513⟩ rfl
                  refine TE_go ?_
                  refine TC_seq ?_
                  refine TC_renw (A' := [(2, .im (.slice (.int .i64)) _), (7, .nilp), (9, .p 19500 0), (10, .int .i64 _)]) (L' := [(19500, some (.cells [.int .i64 _, .int .i64 _, .int .i64 _, .int .i64 _, .int .u64 _, .bool _]))]) [] ⟨rfl, rfl, rfl, rfl, trivial⟩ ⟨rfl, trivial⟩ rfl ?_
                  refine TC_drawR ⟨_, fun i => ([[], [0], [], [2], [3, 2, 1, 0]] : List (List Nat)).getD i [], fun i => ([[], [], [], [], []] : List (List Nat)).getD i [], fun i => ([[], [], [], [], []] : List (List Nat)).getD i []⟩ (fun i => ([[], [], [], [], []] : List (List Nat)).getD i []) rfl rfl ?_
                  refine AJR_ev env 1 rfl (Nat.le_of_ble_eq_true rfl) rfl trivial ?_
                  obtain ⟨⟨⟩, hr, h1⟩ := bnd h1
                  refine AJR_call 2 rfl (Nat.le_of_ble_eq_true rfl) [] rfl (weather_Weather_Fair_2.ok0 hr) weather_Weather_Fair_2.fnb rfl ⟨trivial, ⟨trivial, trivial⟩⟩ rfl trivial rfl ?_
                  refine AJR_ev env 3 rfl (Nat.le_of_ble_eq_true rfl) rfl trivial ?_
                  refine AJR_ev env 4 rfl (Nat.le_of_ble_eq_true rfl) rfl ⟨trivial, trivial⟩ ?_
                  refine AJR_ev env 5 rfl (Nat.le_of_ble_eq_true rfl) rfl ⟨trivial, ⟨trivial, trivial⟩⟩ ?_
                  refine AJR_end rfl rfl rfl ?_
                  refine TE_go ?_
                  refine TC_cond rfl (fun hb => ?_) (fun hb => ?_)
                  · replace h1 := bif_t h1 hb
                    refine TC_seq ?_
                    refine TC_reg ?_
                    refine TL_ev env 1 rfl ⟨trivial, trivial⟩ ?_
                    refine TL_end ?_
                    refine TE_go ?_
                    refine TC_ret ?_
                    refine tbr ?_
                    refine tsr ?_
                    refine tsr ?_
                    refine tbr ?_
                    refine tsr ?_
                    refine tsr ?_
                    obtain rfl := sinj h1
                    obtain rfl := sinj h0
                    exact TE_ret env rfl trivial trivial
                  · replace h1 := bif_f h1 hb
                    refine TC_skip ?_
                    refine tbn ?_
                    refine TE_go ?_
                    refine TC_reg ?_
                    refine TL_ev env 3 rfl ⟨trivial, ⟨⟨trivial, ⟨trivial, trivial⟩⟩, ⟨trivial, trivial⟩⟩⟩ ?_
                    refine TL_end ?_
                    refine tsn ?_
                    exact TE_nextr [(17800, 19500)] n (Nat.lt_succ_self n) (_, _, _) h1 ⟨rfl, rfl, rfl, rfl, trivial⟩ ⟨rfl, trivial⟩ rfl
              · replace h1 := bif_f h1 hb
                refine TC_exit ?_
                refine tsx ?_
                refine tsx ?_
                refine tbe ?_
                obtain rfl := sinj h1
                refine tsn ?_
                exact SP_ren [] () rfl trivial trivial rfl
            · rintro ⟨⟩ rfl
              refine TE_go ?_
              refine TC_seq ?_
              refine TC_reg ?_
              refine TL_ev env 1 rfl ⟨trivial, trivial⟩ ?_
              refine TL_end ?_
              refine TE_go ?_
              refine TC_ret ?_
              obtain rfl := sinj h0
              exact TE_ret env rfl trivial trivial
      · refine TL_callB [(1000, 500240)] (weather_New.ok1 hr) weather_New.fnb rfl ⟨trivial, ⟨trivial, ⟨trivial, trivial⟩⟩⟩ rfl trivial rfl ?_
        refine TL_ev env 5 rfl ⟨trivial, ⟨trivial, ⟨trivial, ⟨trivial, ⟨trivial, trivial⟩⟩⟩⟩⟩ ?_
        refine TL_end ?_
        refine TE_go ?_
        refine TC_seq ?_
        refine TC_seq ?_
        refine TC_reg ?_
        refine TL_ev env 1 rfl ⟨⟨trivial, trivial⟩, trivial⟩ ?_
        obtain ⟨r560, hr, h0⟩ := bnd h0
        refine TL_callB [] (psalteryref32_Check.ok0 hr) psalteryref32_Check.fnb rfl ⟨trivial, ⟨trivial, trivial⟩⟩ rfl trivial rfl ?_
        refine TL_ev env 1 rfl ⟨trivial, trivial⟩ ?_
        refine TL_end ?_
        refine TE_go ?_
        refine TC_cond rfl (fun hb => ?_) (fun hb => ?_)
        · replace h0 := bif_t h0 hb
          refine TC_seq ?_
          refine TC_reg ?_
          refine TL_ev env 3 rfl ⟨trivial, ⟨⟨trivial, ⟨trivial, trivial⟩⟩, ⟨trivial, trivial⟩⟩⟩ ?_
          refine TL_gf (.bool false) rfl rfl rfl rfl rfl (by decide) ?_
          refine TL_gf (.bool false) rfl rfl rfl rfl rfl (by decide) ?_
          refine TL_ev env 2 rfl ⟨⟨trivial, ⟨fun e => e, trivial⟩⟩, ⟨trivial, trivial⟩⟩ ?_
          refine TL_gf (.bool false) rfl rfl rfl rfl rfl (by decide) ?_
          refine TL_gf (.bool false) rfl rfl rfl rfl rfl (by decide) ?_
          refine TL_gf (.bool false) rfl rfl rfl rfl rfl (by decide) ?_
          refine TL_ev env 2 rfl ⟨⟨trivial, ⟨fun e => e, trivial⟩⟩, ⟨trivial, trivial⟩⟩ ?_
          refine TL_end ?_
          refine TE_go ?_
          refine TC_ret ?_
          refine tsr ?_
          obtain rfl := sinj h0
          exact TE_ret env rfl trivial trivial
        · replace h0 := bif_f h0 hb
          refine TC_skip ?_
          refine TE_go ?_
          refine TC_seq ?_
          refine TC_reg ?_
          refine TL_ev env 6 rfl ⟨⟨trivial, trivial⟩, ⟨trivial, ⟨trivial, ⟨⟨trivial, ⟨trivial, ⟨trivial, trivial⟩⟩⟩, ⟨trivial, ⟨⟨trivial, trivial⟩, trivial⟩⟩⟩⟩⟩⟩ ?_
          refine TL_end ?_
          refine TE_go ?_
          refine TC_seq ?_
          refine TC_seq ?_
          refine TC_reg ?_
          refine TL_ev env 2 rfl ⟨trivial, ⟨⟨trivial, ⟨trivial, trivial⟩⟩, trivial⟩⟩ ?_
          refine TL_end ?_
          refine TE_go ?_
          refine TC_cond rfl (fun hb => ?_) (fun hb => ?_)
          · first | exact (ftf hb).elim | exact (tff hb).elim | exact absurd hb (by decide)
          · refine TC_skip ?_
            refine TE_go ?_
            refine TC_seq ?_
            refine TC_seq ?_
            refine TC_reg ?_
            refine TL_ev env 1 rfl ⟨trivial, trivial⟩ ?_
            refine TL_end ?_
            refine TE_go ?_
            obtain ⟨z1, h1, h0⟩ := bnd h0
            refine TC_cut (α := Unit) (fun _ => z1 = .inl ()) (fun _ => []) (fun _ => []) ?_ ?_
            · refine TC_blk ?_
              refine TC_loop (α := Int × Int × Bool × Int × Bool) (fun n s => psalterylaw32_WeatherPlays.l2 K p5 p0 p1 p2 p3 n s.1 s.2.1 s.2.2.1 s.2.2.2.1 s.2.2.2.2 = some z1) (fun s => [(2, .im (.slice (.int .i64)) p5), (7, .p 23600 0), (9, .p 23601 0), (10, .int .i64 s.1)]) (fun s => [(23600, some (.cells [.int .i64 p0, .int .i64 p1, .int .i64 p2, .int .i64 p3, .int .u32 s.2.1, .bool s.2.2.1])), (23601, some (.cells [.int .i64 p0, .int .i64 p1, .int .i64 p2, .int .i64 p3, .int .u64 s.2.2.2.1, .bool s.2.2.2.2]))]) K ?_ ?_
              · exact SP_ren [(23600, 500240), (23601, 1009)] (_, _, _, _, _) h1 ⟨rfl, rfl, rfl, rfl, trivial⟩ ⟨rfl, rfl, trivial⟩ rfl
              rintro n ⟨x871, x872, x873, x874, x875⟩ h1
              rcases n with _ | n
              · exact (nsome h1).elim
              replace h1 : psalterylaw32_WeatherPlays.r2 K p5 p0 p1 p2 p3 (psalterylaw32_WeatherPlays.l2 K p5 p0 p1 p2 p3 n) x871 x872 x873 x874 x875 = some z1 := h1
              refine TC_seq ?_
              refine TC_seq ?_
              refine TC_reg ?_
              refine TL_ev env 4 rfl ⟨trivial, ⟨trivial, ⟨⟨trivial, trivial⟩, ⟨⟨trivial, ⟨trivial, trivial⟩⟩, trivial⟩⟩⟩⟩ ?_
              refine TL_end ?_
              refine TE_go ?_
              refine TC_cond rfl (fun hb => ?_) (fun hb => ?_)
              · replace h1 := bif_t h1 hb
                refine TC_skip ?_
                refine TE_go ?_
                refine TC_seq ?_
                refine TC_blk ?_
                refine TC_seq ?_
                refine TC_reg ?_
                refine TL_ev env 1 rfl ⟨trivial, trivial⟩ ?_
                refine TL_end ?_
                refine TE_go ?_
                refine TC_seq ?_
                refine TC_reg ?_
                refine TL_ev env 1 rfl ⟨trivial, trivial⟩ ?_
                refine TL_end ?_
                refine TE_go ?_
                refine TC_seq ?_
                refine TC_seq ?_
                refine TC_reg ?_
                obtain ⟨g, h1⟩ := gd_t h1
                refine TL_ev env 4 rfl ⟨trivial, ⟨trivial, ⟨⟨trivial, ⟨trivial, ⟨g.1, g.2⟩⟩⟩, ⟨⟨trivial, trivial⟩, trivial⟩⟩⟩⟩ ?_
                refine TL_end ?_
                refine TE_go ?_
                obtain ⟨z2, h2, h1⟩ := bnd h1
                refine TC_cut (α := Int × Bool × Int × Bool) (fun s => z2 = .inl s) (fun s => [(2, .im (.slice (.int .i64)) p5), (7, .p 25700 0), (9, .p 25701 0), (10, .int .i64 x871)]) (fun s => [(25700, some (.cells [.int .i64 p0, .int .i64 p1, .int .i64 p2, .int .i64 p3, .int .u32 s.1, .bool s.2.1])), (25701, some (.cells [.int .i64 p0, .int .i64 p1, .int .i64 p2, .int .i64 p3, .int .u64 s.2.2.1, .bool s.2.2.2]))]) ?_ ?_
                · refine TC_blk ?_
                  refine TC_seq ?_
                  refine TC_reg ?_
                  refine TL_ev env 2 rfl ⟨⟨trivial, ⟨trivial, trivial⟩⟩, ⟨trivial, trivial⟩⟩ ?_
                  refine TL_end ?_
                  refine TE_go ?_
                  refine TC_cond rfl (fun hb => ?_) (fun hb => ?_)
                  · replace h2 := bif_t h2 hb
                    refine TC_seq ?_
                    refine TC_reg ?_
                    refine TL_ev env 1 rfl ⟨⟨trivial, trivial⟩, trivial⟩ ?_
                    obtain ⟨⟨r1085, r1086⟩, hr, h2⟩ := bnd h2
                    refine TL_callB [] (psalteryref32_Weather_Draw.ok0 hr) psalteryref32_Weather_Draw.fnb rfl ⟨trivial, ⟨trivial, trivial⟩⟩ rfl trivial rfl ?_
                    refine TL_ev env 5 rfl ⟨trivial, ⟨trivial, ⟨trivial, ⟨⟨trivial, trivial⟩, ⟨trivial, trivial⟩⟩⟩⟩⟩ ?_
                    refine TL_end ?_
                    refine TE_go ?_
                    refine TC_seq ?_
                    refine TC_reg ?_
                    refine TL_ev env 1 rfl ⟨trivial, trivial⟩ ?_
                    obtain ⟨⟨r1087, r1088⟩, hr, h2⟩ := bnd h2
                    refine TL_callB [(0, 23600)] (weather_Weather_Draw_2.ok0 hr) weather_Weather_Draw_2.fnb rfl ⟨trivial, ⟨trivial, trivial⟩⟩ rfl ⟨.inr rfl, trivial⟩ rfl ?_
                    refine TL_ev env 2 rfl ⟨trivial, ⟨⟨trivial, ⟨trivial, trivial⟩⟩, trivial⟩⟩ ?_
                    refine TL_end ?_
                    refine TE_go ?_
                    refine TC_cond rfl (fun hb => ?_) (fun hb => ?_)
                    · replace h2 := bif_t h2 hb
                      refine TC_seq ?_
                      refine TC_reg ?_
                      refine TL_ev env 1 rfl ⟨trivial, trivial⟩ ?_
                      refine TL_end ?_
                      refine TE_go ?_
                      refine TC_ret ?_
                      refine tbr ?_
                      refine tsr ?_
                      refine tsr ?_
                      refine tbr ?_
                      refine tsr ?_
                      refine tsr ?_
                      refine tbr ?_
                      refine tsr ?_
                      refine tsr ?_
                      obtain rfl := sinj h2
                      obtain rfl := sinj h1
                      obtain rfl := sinj h0
                      exact TE_ret env rfl trivial trivial
                    · replace h2 := bif_f h2 hb
                      refine TC_skip ?_
                      refine tbn ?_
                      obtain rfl := sinj h2
                      refine tsn ?_
                      exact SP_ren [(25700, 23600), (25701, 23601)] (_, _, _, _) rfl ⟨rfl, rfl, rfl, rfl, trivial⟩ ⟨rfl, rfl, trivial⟩ rfl
                  · replace h2 := bif_f h2 hb
                    refine TC_seq ?_
                    refine TC_reg ?_
                    refine TL_ev env 2 rfl ⟨⟨trivial, ⟨trivial, trivial⟩⟩, ⟨trivial, trivial⟩⟩ ?_
                    refine TL_end ?_
                    refine TE_go ?_
                    refine TC_cond rfl (fun hb => ?_) (fun hb => ?_)
                    · replace h2 := bif_t h2 hb
                      refine TC_seq ?_
                      refine TC_reg ?_
                      refine TL_ev env 1 rfl ⟨⟨trivial, trivial⟩, trivial⟩ ?_
                      obtain ⟨⟨r1090, r1091, r1092⟩, hr, h2⟩ := bnd h2
                      refine TL_callB [] (psalteryref32_Weather_Lost.ok0 hr) psalteryref32_Weather_Lost.fnb rfl ⟨trivial, ⟨trivial, trivial⟩⟩ rfl trivial rfl ?_
                      refine TL_ev env 5 rfl ⟨trivial, ⟨trivial, ⟨trivial, ⟨⟨trivial, trivial⟩, ⟨trivial, trivial⟩⟩⟩⟩⟩ ?_
                      refine TL_end ?_
                      refine TE_go ?_
                      refine TC_seq ?_
                      refine TC_reg ?_
                      refine TL_ev env 1 rfl ⟨trivial, trivial⟩ ?_
                      obtain ⟨⟨r1093, r1094, r1095⟩, hr, h2⟩ := bnd h2
                      refine TL_callB [(0, 23600)] (weather_Weather_Lost.ok0 hr) weather_Weather_Lost.fnb rfl ⟨trivial, ⟨trivial, trivial⟩⟩ rfl ⟨.inr rfl, trivial⟩ rfl ?_
                      refine TL_ev env 2 rfl ⟨trivial, ⟨⟨trivial, ⟨trivial, trivial⟩⟩, trivial⟩⟩ ?_
                      refine TL_end ?_
                      refine TE_go ?_
                      refine TC_cond rfl (fun hb => ?_) (fun hb => ?_)
                      · replace h2 := bif_t h2 hb
                        refine TC_seq ?_
                        refine TC_reg ?_
                        refine TL_ev env 1 rfl ⟨trivial, trivial⟩ ?_
                        refine TL_end ?_
                        refine TE_go ?_
                        refine TC_ret ?_
                        refine tbr ?_
                        refine tsr ?_
                        refine tsr ?_
                        refine tbr ?_
                        refine tsr ?_
                        refine tsr ?_
                        refine tbr ?_
                        refine tsr ?_
                        refine tsr ?_
                        obtain rfl := sinj h2
                        obtain rfl := sinj h1
                        obtain rfl := sinj h0
                        exact TE_ret env rfl trivial trivial
                      · replace h2 := bif_f h2 hb
                        refine TC_skip ?_
                        refine tbn ?_
                        obtain rfl := sinj h2
                        refine tsn ?_
                        exact SP_ren [(25700, 23600), (25701, 23601)] (_, _, _, _) rfl ⟨rfl, rfl, rfl, rfl, trivial⟩ ⟨rfl, rfl, trivial⟩ rfl
                    · replace h2 := bif_f h2 hb
                      refine TC_seq ?_
                      refine TC_reg ?_
                      obtain ⟨g, h2⟩ := gd_t h2
                      refine TL_ev env 5 rfl ⟨trivial, ⟨trivial, ⟨trivial, ⟨⟨trivial, ⟨trivial, ⟨g.1, g.2⟩⟩⟩, ⟨⟨trivial, trivial⟩, trivial⟩⟩⟩⟩⟩ ?_
                      obtain ⟨⟨r1097, r1098, r1099⟩, hr, h2⟩ := bnd h2
                      refine TL_callB [(0, 23600)] (weather_Weather_Row_2.ok0 hr) weather_Weather_Row_2.fnb rfl ⟨trivial, ⟨trivial, ⟨trivial, trivial⟩⟩⟩ rfl ⟨.inr rfl, trivial⟩ rfl ?_
                      refine TL_ev env 1 rfl ⟨trivial, trivial⟩ ?_
                      refine TL_end ?_
                      refine TE_go ?_
                      refine TC_seq ?_
                      refine TC_reg ?_
                      obtain ⟨g, h2⟩ := gd_t h2
                      refine TL_ev env 7 rfl ⟨trivial, ⟨trivial, ⟨⟨trivial, ⟨trivial, ⟨g.1, g.2⟩⟩⟩, ⟨⟨trivial, trivial⟩, ⟨⟨trivial, ⟨trivial, trivial⟩⟩, ⟨⟨trivial, ⟨trivial, trivial⟩⟩, ⟨trivial, trivial⟩⟩⟩⟩⟩⟩⟩ ?_
                      refine TL_end ?_
                      refine TE_go ?_
                      refine TC_seq ?_
                      refine TC_seq ?_
                      refine TC_reg ?_
                      refine TL_ev env 4 rfl ⟨trivial, ⟨⟨trivial, trivial⟩, ⟨trivial, ⟨⟨trivial, ⟨trivial, trivial⟩⟩, trivial⟩⟩⟩⟩ ?_
                      refine TL_end ?_
                      refine TE_go ?_
                      refine TC_cond rfl (fun hb => ?_) (fun hb => ?_)
                      · replace h2 := bif_t h2 hb
                        refine TC_seq ?_
                        refine TC_reg ?_
                        refine TL_ev env 1 rfl ⟨trivial, trivial⟩ ?_
                        refine TL_end ?_
                        refine TE_go ?_
                        refine TC_ret ?_
                        refine tsr ?_
                        refine tbr ?_
                        refine tsr ?_
                        refine tsr ?_
                        refine tbr ?_
                        refine tsr ?_
                        refine tsr ?_
                        refine tbr ?_
                        refine tsr ?_
                        refine tsr ?_
                        obtain rfl := sinj h2
                        obtain rfl := sinj h1
                        obtain rfl := sinj h0
                        exact TE_ret env rfl trivial trivial
                      · replace h2 := bif_f h2 hb
                        refine TC_skip ?_
                        refine TE_go ?_
                        refine TC_seq ?_
                        refine TC_reg ?_
                        refine TL_ev env 1 rfl ⟨trivial, trivial⟩ ?_
                        refine TL_end ?_
                        refine TE_go ?_
                        obtain ⟨z3, h3, h2⟩ := bnd h2
                        refine TC_cut (α := Int × Bool) (fun s => z3 = .inl s) (fun s => [(2, .im (.slice (.int .i64)) p5), (7, .p 26100 0), (9, .p 26101 0), (10, .int .i64 x871)]) (fun s => [(26100, some (.cells [.int .i64 p0, .int .i64 p1, .int .i64 p2, .int .i64 p3, .int .u32 r1098, .bool r1099])), (26101, some (.cells [.int .i64 p0, .int .i64 p1, .int .i64 p2, .int .i64 p3, .int .u64 s.1, .bool s.2]))]) ?_ ?_
                        · refine TC_blk ?_
                          refine TC_loop (α := Int × Int × Bool) (fun n s => psalterylaw32_WeatherPlays.l3 K p5 x871 (imin (imax (Kd.nth (.int .i64) p5 (Int.toNat x871)) 0) 64) r1097 p0 p1 p2 p3 r1098 r1099 n s.1 s.2.1 s.2.2 = some z3) (fun s => [(2, .im (.slice (.int .i64)) p5), (7, .p 26300 0), (9, .p 26301 0), (10, .int .i64 x871), (11, .int .i64 (imin (imax (Kd.nth (.int .i64) p5 (Int.toNat x871)) 0) 64)), (13, .im (.slice (.pair (.int .i64) (.pair (.int .i64) (.pair (.int .i64) (.int .u32))))) r1097), (14, .int .i64 s.1)]) (fun s => [(26300, some (.cells [.int .i64 p0, .int .i64 p1, .int .i64 p2, .int .i64 p3, .int .u32 r1098, .bool r1099])), (26301, some (.cells [.int .i64 p0, .int .i64 p1, .int .i64 p2, .int .i64 p3, .int .u64 s.2.1, .bool s.2.2]))]) K ?_ ?_
                          · exact SP_ren [(26300, 23600), (26301, 23601)] (_, _, _) h3 ⟨rfl, rfl, rfl, rfl, rfl, rfl, rfl, trivial⟩ ⟨rfl, rfl, trivial⟩ rfl
                          rintro n ⟨x1147, x1148, x1149⟩ h3
                          rcases n with _ | n
                          · exact (nsome h3).elim
                          replace h3 : psalterylaw32_WeatherPlays.r3 K p5 x871 (imin (imax (Kd.nth (.int .i64) p5 (Int.toNat x871)) 0) 64) r1097 p0 p1 p2 p3 r1098 r1099 (psalterylaw32_WeatherPlays.l3 K p5 x871 (imin (imax (Kd.nth (.int .i64) p5 (Int.toNat x871)) 0) 64) r1097 p0 p1 p2 p3 r1098 r1099 n) x1147 x1148 x1149 = some z3 := h3
                          refine TC_seq ?_
                          refine TC_seq ?_
                          refine TC_reg ?_
                          refine TL_ev env 3 rfl ⟨trivial, ⟨trivial, ⟨⟨trivial, ⟨trivial, trivial⟩⟩, trivial⟩⟩⟩ ?_
                          refine TL_end ?_
                          refine TE_go ?_
                          refine TC_cond rfl (fun hb => ?_) (fun hb => ?_)
                          · replace h3 := bif_t h3 hb
                            refine TC_skip ?_
                            refine TE_go ?_
                            refine TC_seq ?_
                            refine TC_blk ?_
                            refine TC_seq ?_
                            refine TC_reg ?_
                            refine TL_ev env 1 rfl ⟨trivial, trivial⟩ ?_
                            refine TL_end ?_
                            refine TE_go ?_
                            refine TC_seq ?_
                            refine TC_reg ?_
                            refine TL_ev env 1 rfl ⟨⟨trivial, trivial⟩, trivial⟩ ?_
                            obtain ⟨⟨r1172, r1173, r1174⟩, hr, h3⟩ := bnd h3
                            refine TL_callB [] (psalteryref32_Weather_Lost.ok0 hr) psalteryref32_Weather_Lost.fnb rfl ⟨trivial, ⟨trivial, trivial⟩⟩ rfl trivial rfl ?_
                            refine TL_ev env 5 rfl ⟨trivial, ⟨trivial, ⟨trivial, ⟨⟨trivial, trivial⟩, ⟨trivial, trivial⟩⟩⟩⟩⟩ ?_
                            refine TL_end ?_
                            refine TE_go ?_
                            refine TC_seq ?_
                            refine TC_reg ?_
                            refine TL_ev env 1 rfl ⟨⟨trivial, trivial⟩, trivial⟩ ?_
                            obtain ⟨⟨r1175, r1176, r1177⟩, hr, h3⟩ := bnd h3
                            refine TL_callB [] (psalteryref32_Weather_Lost.ok0 hr) psalteryref32_Weather_Lost.fnb rfl ⟨trivial, ⟨trivial, trivial⟩⟩ rfl trivial rfl ?_
                            refine TL_ev env 5 rfl ⟨trivial, ⟨trivial, ⟨trivial, ⟨⟨trivial, trivial⟩, ⟨trivial, trivial⟩⟩⟩⟩⟩ ?_
                            refine TL_end ?_
                            refine TE_go ?_
                            refine TC_seq ?_
                            refine TC_reg ?_
                            obtain ⟨g, h3⟩ := gd_t h3
                            refine TL_ev env 50 rfl ⟨trivial, ⟨trivial, ⟨⟨trivial, ⟨trivial, ⟨g.1, g.2.1⟩⟩⟩, ⟨trivial, ⟨⟨trivial, trivial⟩, ⟨⟨trivial, ⟨trivial, trivial⟩⟩, ⟨trivial, ⟨⟨trivial, ⟨trivial, trivial⟩⟩, ⟨trivial, ⟨fun _ => trivial, ⟨fun _ => trivial, ⟨fun e => ⟨fun e => e, ⟨fun e => e, ⟨(g.2.2.1 e), (g.2.2.2.1 e)⟩⟩⟩, ⟨fun _ => fun e => e, ⟨fun _ => ⟨fun e => e, trivial⟩, ⟨fun _ => ⟨fun e => e, ⟨trivial, trivial⟩⟩, ⟨fun _ => trivial, ⟨fun _ => ⟨fun e => e, ⟨fun e => e, trivial⟩⟩, ⟨⟨trivial, ⟨trivial, fun e => e⟩⟩, ⟨trivial, ⟨fun _ => trivial, ⟨fun _ => trivial, ⟨fun e => ⟨fun e => e, ⟨fun e => e, ⟨(g.2.2.2.2.1 e), (g.2.2.2.2.2.1 e)⟩⟩⟩, ⟨fun _ => fun e => e, ⟨fun _ => ⟨fun e => e, trivial⟩, ⟨fun _ => ⟨fun e => e, ⟨trivial, trivial⟩⟩, ⟨⟨trivial, ⟨trivial, fun e => e⟩⟩, ⟨trivial, ⟨fun _ => trivial, ⟨fun _ => trivial, ⟨fun e => ⟨fun e => e, ⟨fun e => e, ⟨(g.2.2.2.2.2.2.1 e), (g.2.2.2.2.2.2.2.1 e)⟩⟩⟩, ⟨fun _ => fun e => e, ⟨fun _ => ⟨fun e => e, trivial⟩, ⟨fun _ => ⟨fun e => e, ⟨trivial, trivial⟩⟩, ⟨⟨trivial, ⟨trivial, fun e => e⟩⟩, ⟨trivial, ⟨fun _ => trivial, ⟨fun _ => trivial, ⟨fun e => ⟨fun e => e, ⟨fun e => e, ⟨(g.2.2.2.2.2.2.2.2.1 e), (g.2.2.2.2.2.2.2.2.2.1 e)⟩⟩⟩, ⟨fun _ => fun e => e, ⟨fun _ => ⟨fun e => e, trivial⟩, ⟨fun _ => ⟨fun e => e, ⟨trivial, trivial⟩⟩, ⟨⟨trivial, ⟨trivial, fun e => e⟩⟩, ⟨trivial, ⟨fun _ => trivial, ⟨fun _ => trivial, ⟨fun e => ⟨fun e => e, ⟨fun e => e, ⟨(g.2.2.2.2.2.2.2.2.2.2.1 e), (g.2.2.2.2.2.2.2.2.2.2.2 e)⟩⟩⟩, ⟨fun _ => fun e => e, ⟨fun _ => ⟨fun e => e, trivial⟩, ⟨fun _ => ⟨fun e => e, ⟨trivial, trivial⟩⟩, ⟨⟨trivial, ⟨trivial, fun e => e⟩⟩, trivial⟩⟩⟩⟩⟩⟩⟩⟩⟩⟩⟩⟩⟩⟩⟩⟩⟩⟩⟩⟩⟩⟩⟩⟩⟩⟩⟩⟩⟩⟩⟩⟩⟩⟩⟩⟩⟩⟩⟩⟩⟩⟩⟩⟩⟩⟩⟩⟩⟩⟩ ?_
                            refine TL_end ?_
                            refine TE_go ?_
                            refine TC_cond rfl (fun hb => ?_) (fun hb => ?_)
                            · replace h3 := bif_t h3 hb
                              refine TC_seq ?_
                              refine TC_reg ?_
                              refine TL_ev env 1 rfl ⟨trivial, trivial⟩ ?_
                              refine TL_end ?_
                              refine TE_go ?_
                              refine TC_ret ?_
                              refine tbr ?_
                              refine tsr ?_
                              refine tsr ?_
                              refine tbr ?_
                              refine tsr ?_
                              refine tbr ?_
                              refine tsr ?_
                              refine tsr ?_
                              refine tbr ?_
                              refine tsr ?_
                              refine tsr ?_
                              refine tbr ?_
                              refine tsr ?_
                              refine tsr ?_
                              obtain rfl := sinj h3
                              obtain rfl := sinj h2
                              obtain rfl := sinj h1
                              obtain rfl := sinj h0
                              exact TE_ret env rfl trivial trivial
                            · replace h3 := bif_f h3 hb
                              refine TC_skip ?_
                              refine tbn ?_
                              refine TE_go ?_
                              refine TC_reg ?_
                              refine TL_ev env 3 rfl ⟨trivial, ⟨⟨trivial, ⟨trivial, trivial⟩⟩, ⟨trivial, trivial⟩⟩⟩ ?_
                              refine TL_end ?_
                              refine tsn ?_
                              exact TE_nextr [(26300, 26300), (26301, 26301)] n (Nat.lt_succ_self n) (_, _, _) h3 ⟨rfl, rfl, rfl, rfl, rfl, rfl, rfl, trivial⟩ ⟨rfl, rfl, trivial⟩ rfl
                          · replace h3 := bif_f h3 hb
                            refine TC_exit ?_
                            refine tsx ?_
                            refine tsx ?_
                            refine tbe ?_
                            obtain rfl := sinj h3
                            refine tsn ?_
                            exact SP_ren [(26100, 26300), (26101, 26301)] (_, _) rfl ⟨rfl, rfl, rfl, rfl, trivial⟩ ⟨rfl, rfl, trivial⟩ rfl
                        · rintro ⟨x1133, x1134⟩ rfl
                          refine tbn ?_
                          obtain rfl := sinj h2
                          refine tsn ?_
                          exact SP_ren [(25700, 26100), (25701, 26101)] (_, _, _, _) rfl ⟨rfl, rfl, rfl, rfl, trivial⟩ ⟨rfl, rfl, trivial⟩ rfl
                · rintro ⟨x1078, x1079, x1080, x1081⟩ rfl
                  refine TE_go ?_
                  refine TC_seq ?_
                  refine TC_renw (A' := [(2, .im (.slice (.int .i64)) _), (7, .p 25700 0), (9, .p 25701 0), (10, .int .i64 _)]) (L' := [(25700, some (.cells [.int .i64 _, .int .i64 _, .int .i64 _, .int .i64 _, .int .u32 _, .bool _])), (25701, some (.cells [.int .i64 _, .int .i64 _, .int .i64 _, .int .i64 _, .int .u64 _, .bool _]))]) [] ⟨rfl, rfl, rfl, rfl, trivial⟩ ⟨rfl, rfl, trivial⟩ rfl ?_
                  refine TC_drawR ⟨_, fun i => ([[], [0], [], [2], [3, 2, 1, 0]] : List (List Nat)).getD i [], fun i => ([[], [25700], [], [], []] : List (List Nat)).getD i [], fun i => ([[], [], [], [], []] : List (List Nat)).getD i []⟩ (fun i => ([[], [], [25700], [25700], []] : List (List Nat)).getD i []) rfl rfl ?_
                  refine AJR_ev env 1 rfl (Nat.le_of_ble_eq_true rfl) rfl trivial ?_
                  obtain ⟨r1082, hr, h1⟩ := bnd h1
                  refine AJR_call 2 rfl (Nat.le_of_ble_eq_true rfl) [(0, 25700)] rfl (weather_Weather_Fair.ok0 hr) weather_Weather_Fair.fnb rfl ⟨trivial, ⟨trivial, trivial⟩⟩ rfl ⟨.inr rfl, trivial⟩ rfl ?_
                  refine AJR_ev env 3 rfl (Nat.le_of_ble_eq_true rfl) rfl trivial ?_
                  refine AJR_ev env 4 rfl (Nat.le_of_ble_eq_true rfl) rfl ⟨trivial, trivial⟩ ?_
                  refine AJR_ev env 5 rfl (Nat.le_of_ble_eq_true rfl) rfl ⟨trivial, ⟨trivial, trivial⟩⟩ ?_
                  refine AJR_end rfl rfl rfl ?_
                  refine TE_go ?_
                  refine TC_cond rfl (fun hb => ?_) (fun hb => ?_)
                  · replace h1 := bif_t h1 hb
                    refine TC_seq ?_
                    refine TC_reg ?_
                    refine TL_ev env 1 rfl ⟨trivial, trivial⟩ ?_
                    refine TL_end ?_
                    refine TE_go ?_
                    refine TC_ret ?_
                    refine tbr ?_
                    refine tsr ?_
                    refine tsr ?_
                    refine tbr ?_
                    refine tsr ?_
                    refine tsr ?_
                    obtain rfl := sinj h1
                    obtain rfl := sinj h0
                    exact TE_ret env rfl trivial trivial
                  · replace h1 := bif_f h1 hb
                    refine TC_skip ?_
                    refine tbn ?_
                    refine TE_go ?_
                    refine TC_reg ?_
                    refine TL_ev env 3 rfl ⟨trivial, ⟨⟨trivial, ⟨trivial, trivial⟩⟩, ⟨trivial, trivial⟩⟩⟩ ?_
                    refine TL_end ?_
                    refine tsn ?_
                    exact TE_nextr [(23600, 25700), (23601, 25701)] n (Nat.lt_succ_self n) (_, _, _, _, _) h1 ⟨rfl, rfl, rfl, rfl, trivial⟩ ⟨rfl, rfl, trivial⟩ rfl
              · replace h1 := bif_f h1 hb
                refine TC_exit ?_
                refine tsx ?_
                refine tsx ?_
                refine tbe ?_
                obtain rfl := sinj h1
                refine tsn ?_
                exact SP_ren [] () rfl trivial trivial rfl
            · rintro ⟨⟩ rfl
              refine TE_go ?_
              refine TC_seq ?_
              refine TC_reg ?_
              refine TL_ev env 1 rfl ⟨trivial, trivial⟩ ?_
              refine TL_end ?_
              refine TE_go ?_
              refine TC_ret ?_
              obtain rfl := sinj h0
              exact TE_ret env rfl trivial trivial
theorem psalterylaw32_WeatherPlays.ok0 {K : Nat} {p0 : Int} {p1 : Int} {p2 : Int} {p3 : Int} {p4 : Int} {p5 : List (Int)} {q0 : Bool} (h0 : psalterylaw32_WeatherPlays K p0 p1 p2 p3 p4 p5 = some q0) : Fn Try.prog 3 [.agg [.int .i64 p0, .int .i64 p1, .int .i64 p2, .int .i64 p3], .int .u32 p4, .im (.slice (.int .i64)) p5] [] (.bool q0) [] := psalterylaw32_WeatherPlays.ok h0
theorem psalterylaw32_WeatherPlays.fnb : fnb Try.prog 3 = true := fnb_of Try.func3 rfl
def psalterylaw32_WeatherEnds.res (_p0 : Int) (_p1 : Int) (_p2 : Int) (_p3 : Int) (_p4 : Int) (_p5 : Int) : Bool → MV
  | q0 => .bool q0
def psalterylaw32_WeatherEnds.out (_p0 : Int) (_p1 : Int) (_p2 : Int) (_p3 : Int) (_p4 : Int) (_p5 : Int) : Bool → List (Nat × Option MObj)
  | _ => []
theorem psalterylaw32_WeatherEnds.ok {K : Nat} {p0 : Int} {p1 : Int} {p2 : Int} {p3 : Int} {p4 : Int} {p5 : Int} {r : Bool} (h0 : psalterylaw32_WeatherEnds K p0 p1 p2 p3 p4 p5 = some r) : Fn Try.prog 4 [.agg [.int .i64 p0, .int .i64 p1, .int .i64 p2, .int .i64 p3], .int .u32 p4, .int .u8 p5] [] (psalterylaw32_WeatherEnds.res p0 p1 p2 p3 p4 p5 r) (psalterylaw32_WeatherEnds.out p0 p1 p2 p3 p4 p5 r) := by
  refine Fn_of Try.func4 rfl (Nat.le_of_ble_eq_true rfl) fun Γ => ?_
  refine TC_seq ?_
  refine TC_reg ?_
  refine TL_ev env 2 rfl ⟨trivial, ⟨trivial, trivial⟩⟩ ?_
  refine TL_end ?_
  refine TE_go ?_
  refine TC_seq ?_
  refine TC_seq ?_
  refine TC_reg ?_
  obtain ⟨r487, hr, h0⟩ := bnd h0
  refine TL_callB [] (psalterylaw32_alive.ok0 hr) psalterylaw32_alive.fnb rfl ⟨trivial, trivial⟩ rfl trivial rfl ?_
  refine TL_ev env 1 rfl ⟨trivial, trivial⟩ ?_
  refine TL_end ?_
  refine TE_go ?_
  refine TC_cond rfl (fun hb => ?_) (fun hb => ?_)
  · replace h0 := bif_t h0 hb
    refine TC_seq ?_
    refine TC_reg ?_
    refine TL_ev env 1 rfl ⟨trivial, trivial⟩ ?_
    refine TL_end ?_
    refine TE_go ?_
    refine TC_ret ?_
    refine tsr ?_
    obtain rfl := sinj h0
    exact TE_ret env rfl trivial trivial
  · replace h0 := bif_f h0 hb
    refine TC_skip ?_
    refine TE_go ?_
    refine TC_seq ?_
    refine TC_reg ?_
    refine TL_ev env 2 rfl ⟨⟨trivial, trivial⟩, ⟨trivial, trivial⟩⟩ ?_
    obtain ⟨z, hr, h0⟩ := bnd h0
    rcases z with r488 | ⟨⟩
    · refine TL_callB [] (weather_New.ok0 hr) weather_New.fnb rfl ⟨trivial, ⟨trivial, ⟨trivial, trivial⟩⟩⟩ rfl trivial rfl ?_
      refine TL_ev env 5 rfl ⟨trivial, ⟨trivial, ⟨trivial, ⟨trivial, ⟨trivial, trivial⟩⟩⟩⟩⟩ ?_
      refine TL_end ?_
      refine TE_go ?_
      refine TC_seq ?_
      refine TC_reg ?_
      refine TL_ev env 2 rfl ⟨⟨trivial, trivial⟩, ⟨trivial, trivial⟩⟩ ?_
      obtain ⟨z, hr, h0⟩ := bnd h0
      rcases z with r489 | ⟨⟩
      · refine TL_callB [] (weather_New.ok0 hr) weather_New.fnb rfl ⟨trivial, ⟨trivial, ⟨trivial, trivial⟩⟩⟩ rfl trivial rfl ?_
        refine TL_ev env 5 rfl ⟨trivial, ⟨trivial, ⟨trivial, ⟨trivial, ⟨trivial, trivial⟩⟩⟩⟩⟩ ?_
        refine TL_end ?_
        refine TE_go ?_
        refine TC_seq ?_
        refine TC_seq ?_
        refine TC_reg ?_
        refine TL_ev env 3 rfl ⟨trivial, ⟨trivial, ⟨⟨trivial, ⟨trivial, trivial⟩⟩, trivial⟩⟩⟩ ?_
        refine TL_end ?_
        refine TE_go ?_
        refine TC_cond rfl (fun hb => ?_) (fun hb => ?_)
        · replace h0 := bif_t h0 hb
          refine TC_seq ?_
          refine TC_reg ?_
          refine TL_ev env 1 rfl ⟨trivial, trivial⟩ ?_
          refine TL_end ?_
          refine TE_go ?_
          refine TC_ret ?_
          refine tsr ?_
          obtain rfl := sinj h0
          exact TE_ret env rfl trivial trivial
        · replace h0 := bif_f h0 hb
          refine TC_skip ?_
          refine TE_go ?_
          refine TC_seq ?_
          refine TC_seq ?_
          refine TC_reg ?_
          refine TL_ev env 2 rfl ⟨trivial, ⟨⟨trivial, ⟨trivial, trivial⟩⟩, trivial⟩⟩ ?_
          refine TL_end ?_
          refine TE_go ?_
          obtain ⟨z1, h1, h0⟩ := bnd h0
          refine TC_cut (α := Unit) (fun _ => z1 = ()) (fun _ => [(1, .int .u32 p4), (2, .int .u8 p5), (3, .p 21500 0)]) (fun _ => [(21500, some (.cells [.int .i64 p0, .int .i64 p1, .int .i64 p2, .int .i64 p3]))]) ?_ ?_
          · refine TC_cond rfl (fun hb => ?_) (fun hb => ?_)
            · replace h1 := bif_t h1 hb
              refine TC_seq ?_
              refine TC_reg ?_
              refine TL_ev env 3 rfl ⟨trivial, ⟨trivial, ⟨trivial, trivial⟩⟩⟩ ?_
              obtain ⟨⟨⟩, hr, h1⟩ := bnd h1
              refine TL_callB [] (weather_Weather_Row.ok0 hr) weather_Weather_Row.fnb rfl ⟨trivial, ⟨trivial, ⟨trivial, trivial⟩⟩⟩ rfl trivial rfl ?_
              refine TL_ev env 3 rfl ⟨trivial, ⟨trivial, ⟨trivial, trivial⟩⟩⟩ ?_
              obtain ⟨⟨⟩, hr, h1⟩ := bnd h1
              refine TL_callB [] (weather_Weather_Row.ok0 hr) weather_Weather_Row.fnb rfl ⟨trivial, ⟨trivial, ⟨trivial, trivial⟩⟩⟩ rfl trivial rfl ?_
              refine TL_ev env 2 rfl ⟨trivial, ⟨trivial, trivial⟩⟩ ?_
              refine TL_end ?_
              refine TE_go ?_
              refine TC_seq ?_
              refine TC_reg ?_
              refine TL_ev env 1 rfl ⟨trivial, trivial⟩ ?_
              refine TL_end ?_
              refine TE_go ?_
              obtain ⟨z2, h2, h1⟩ := bnd h1
              refine TC_cut (α := Unit) (fun _ => z2 = ()) (fun _ => [(1, .int .u32 p4), (2, .int .u8 p5), (3, .p 26800 0)]) (fun _ => [(26800, some (.cells [.int .i64 p0, .int .i64 p1, .int .i64 p2, .int .i64 p3]))]) ?_ ?_
              · refine TC_blk ?_
                refine TC_loop (α := Unit) (fun n _ => psalterylaw32_WeatherEnds.l4 K p4 p5 p0 p1 p2 p3 n = some z2) (fun _ => [(1, .int .u32 p4), (2, .int .u8 p5), (3, .p 26900 0), (11, .nils), (12, .nils), (13, .int .i64 0)]) (fun _ => [(26900, some (.cells [.int .i64 p0, .int .i64 p1, .int .i64 p2, .int .i64 p3]))]) K ?_ ?_
                · exact SP_ren [(26900, 1003)] () h2 ⟨rfl, rfl, rfl, rfl, rfl, rfl, trivial⟩ ⟨rfl, trivial⟩ rfl
                rintro n ⟨⟩ h2
                rcases n with _ | n
                · exact (nsome h2).elim
                replace h2 : psalterylaw32_WeatherEnds.r4 K p4 p5 p0 p1 p2 p3 (psalterylaw32_WeatherEnds.l4 K p4 p5 p0 p1 p2 p3 n)  = some z2 := h2
                refine TC_seq ?_
                refine TC_seq ?_
                refine TC_reg ?_
                refine TL_ev env 4 rfl ⟨trivial, ⟨trivial, ⟨⟨trivial, trivial⟩, ⟨⟨trivial, ⟨trivial, trivial⟩⟩, trivial⟩⟩⟩⟩ ?_
                refine TL_end ?_
                refine TE_go ?_
                refine TC_cond rfl (fun hb => ?_) (fun hb => ?_)
                · first | exact (ftf hb).elim | exact (tff hb).elim | exact absurd hb (by decide)
                · refine TC_exit ?_
                  refine tsx ?_
                  refine tsx ?_
                  refine tbe ?_
                  obtain rfl := sinj h2
                  refine tsn ?_
                  exact SP_ren [(26800, 26900)] () rfl ⟨rfl, rfl, rfl, trivial⟩ ⟨rfl, trivial⟩ rfl
              · rintro ⟨⟩ rfl
                obtain rfl := sinj h1
                refine tsn ?_
                exact SP_ren [(21500, 26800)] () rfl ⟨rfl, rfl, rfl, trivial⟩ ⟨rfl, trivial⟩ rfl
            · replace h1 := bif_f h1 hb
              refine TC_skip ?_
              obtain rfl := sinj h1
              refine tsn ?_
              exact SP_ren [(21500, 1003)] () rfl ⟨rfl, rfl, rfl, trivial⟩ ⟨rfl, trivial⟩ rfl
          · rintro ⟨⟩ rfl
            refine TE_go ?_
            refine TC_seq ?_
            refine TC_reg ?_
            refine TL_ev env 8 rfl ⟨trivial, ⟨⟨trivial, trivial⟩, ⟨⟨trivial, ⟨trivial, trivial⟩⟩, ⟨trivial, ⟨⟨trivial, trivial⟩, ⟨⟨trivial, ⟨trivial, trivial⟩⟩, ⟨⟨trivial, ⟨trivial, trivial⟩⟩, ⟨trivial, trivial⟩⟩⟩⟩⟩⟩⟩⟩ ?_
            obtain ⟨z, hr, h0⟩ := bnd h0
            rcases z with r493 | ⟨⟩
            · refine TL_callB [] (weather_New.ok0 hr) weather_New.fnb rfl ⟨trivial, ⟨trivial, ⟨trivial, trivial⟩⟩⟩ rfl trivial rfl ?_
              refine TL_ev env 5 rfl ⟨trivial, ⟨trivial, ⟨trivial, ⟨trivial, ⟨trivial, trivial⟩⟩⟩⟩⟩ ?_
              refine TL_end ?_
              refine TE_go ?_
              refine TC_seq ?_
              refine TC_reg ?_
              refine TL_ev env 8 rfl ⟨trivial, ⟨⟨trivial, trivial⟩, ⟨⟨trivial, ⟨trivial, trivial⟩⟩, ⟨trivial, ⟨⟨trivial, trivial⟩, ⟨⟨trivial, ⟨trivial, trivial⟩⟩, ⟨⟨trivial, ⟨trivial, ⟨trivial, ⟨trivial, trivial⟩⟩⟩⟩, ⟨trivial, trivial⟩⟩⟩⟩⟩⟩⟩⟩ ?_
              obtain ⟨z, hr, h0⟩ := bnd h0
              rcases z with r494 | ⟨⟩
              · refine TL_callB [] (weather_New.ok0 hr) weather_New.fnb rfl ⟨trivial, ⟨trivial, ⟨trivial, trivial⟩⟩⟩ rfl trivial rfl ?_
                refine TL_ev env 5 rfl ⟨trivial, ⟨trivial, ⟨trivial, ⟨trivial, ⟨trivial, trivial⟩⟩⟩⟩⟩ ?_
                refine TL_end ?_
                refine TE_go ?_
                refine TC_seq ?_
                refine TC_seq ?_
                refine TC_reg ?_
                refine TL_ev env 1 rfl ⟨trivial, trivial⟩ ?_
                refine TL_end ?_
                refine TE_go ?_
                obtain ⟨z1, h1, h0⟩ := bnd h0
                refine TC_cut (α := Unit) (fun _ => z1 = .inl ()) (fun _ => []) (fun _ => []) ?_ ?_
                · refine TC_blk ?_
                  refine TC_loop (α := Unit) (fun n _ => psalterylaw32_WeatherEnds.l0 K p5 n = some z1) (fun _ => [(2, .int .u8 p5), (14, .nilp), (16, .nilp), (18, .int .i64 0)]) (fun _ => []) K ?_ ?_
                  · exact SP_ren [] () h1 ⟨rfl, rfl, rfl, rfl, trivial⟩ trivial rfl
                  rintro n ⟨⟩ h1
                  rcases n with _ | n
                  · exact (nsome h1).elim
                  replace h1 : psalterylaw32_WeatherEnds.r0 K p5 (psalterylaw32_WeatherEnds.l0 K p5 n)  = some z1 := h1
                  refine TC_seq ?_
                  refine TC_seq ?_
                  refine TC_reg ?_
                  refine TL_ev env 4 rfl ⟨trivial, ⟨trivial, ⟨trivial, ⟨⟨trivial, ⟨trivial, trivial⟩⟩, trivial⟩⟩⟩⟩ ?_
                  refine TL_end ?_
                  refine TE_go ?_
                  refine TC_cond rfl (fun hb => ?_) (fun hb => ?_)
                  · replace h1 := bif_t h1 hb
                    refine TC_skip ?_
                    refine TE_go ?_
                    refine TC_seq ?_
                    refine TC_blk ?_
                    refine TC_seq ?_
                    refine TC_reg ?_
                    refine TL_ev env 1 rfl ⟨trivial, trivial⟩ ?_
                    obtain ⟨⟨⟩, hr, h1⟩ := bnd h1
                    refine TL_callB [] (weather_Weather_Lost_2.ok0 hr) weather_Weather_Lost_2.fnb rfl ⟨trivial, ⟨trivial, trivial⟩⟩ rfl trivial rfl ?_
                    refine TL_ev env 1 rfl ⟨trivial, trivial⟩ ?_
                    refine TL_gt rfl rfl rfl rfl ?_
                    refine TL_ev env 1 rfl ⟨trivial, trivial⟩ ?_
                    refine TL_gt rfl rfl rfl rfl ?_
                    obtain ⟨⟨⟩, hr, h1⟩ := bnd h1
                    refine TL_callB [] (weather_Weather_Lost_2.ok0 hr) weather_Weather_Lost_2.fnb rfl ⟨trivial, ⟨trivial, trivial⟩⟩ rfl trivial rfl ?_
                    refine TL_gt rfl rfl rfl rfl ?_
                    refine TL_ev env 3 rfl ⟨trivial, ⟨⟨trivial, ⟨trivial, trivial⟩⟩, ⟨trivial, trivial⟩⟩⟩ ?_
                    refine TL_gf (.bool false) rfl rfl rfl rfl rfl (by decide) ?_
                    refine TL_gf (.bool false) rfl rfl rfl rfl rfl (by decide) ?_
                    refine TL_gf (.bool false) rfl rfl rfl rfl rfl (by decide) ?_
                    refine TL_gf (.bool false) rfl rfl rfl rfl rfl (by decide) ?_
                    refine TL_gf (.bool false) rfl rfl rfl rfl rfl (by decide) ?_
                    refine TL_ev env 1 rfl ⟨⟨trivial, ⟨trivial, fun e => e⟩⟩, trivial⟩ ?_
                    refine TL_end ?_
                    refine TE_go ?_
                    refine TC_cond rfl (fun hb => ?_) (fun hb => ?_)
                    · refine TC_seq ?_
                      refine TC_reg ?_
                      refine TL_ev env 1 rfl ⟨trivial, trivial⟩ ?_
                      refine TL_end ?_
                      refine TE_go ?_
                      refine TC_ret ?_
                      refine tbr ?_
                      refine tsr ?_
                      refine tsr ?_
                      refine tbr ?_
                      refine tsr ?_
                      refine tsr ?_
                      obtain rfl := sinj h1
                      obtain rfl := sinj h0
                      exact TE_ret env rfl trivial trivial
                    · first | exact (ftf hb).elim | exact (tff hb).elim | exact absurd hb (by decide)
                  · replace h1 := bif_f h1 hb
                    refine TC_exit ?_
                    refine tsx ?_
                    refine tsx ?_
                    refine tbe ?_
                    obtain rfl := sinj h1
                    refine tsn ?_
                    exact SP_ren [] () rfl trivial trivial rfl
                · rintro ⟨⟩ rfl
                  refine TE_go ?_
                  refine TC_seq ?_
                  refine TC_reg ?_
                  refine TL_ev env 1 rfl ⟨trivial, trivial⟩ ?_
                  refine TL_end ?_
                  refine TE_go ?_
                  refine TC_ret ?_
                  obtain rfl := sinj h0
                  exact TE_ret env rfl trivial trivial
              · refine TL_callB [(1000, 500880)] (weather_New.ok1 hr) weather_New.fnb rfl ⟨trivial, ⟨trivial, ⟨trivial, trivial⟩⟩⟩ rfl trivial rfl ?_
                refine TL_ev env 5 rfl ⟨trivial, ⟨trivial, ⟨trivial, ⟨trivial, ⟨trivial, trivial⟩⟩⟩⟩⟩ ?_
                refine TL_end ?_
                refine TE_go ?_
                refine TC_seq ?_
                refine TC_seq ?_
                refine TC_reg ?_
                refine TL_ev env 1 rfl ⟨trivial, trivial⟩ ?_
                refine TL_end ?_
                refine TE_go ?_
                obtain ⟨z1, h1, h0⟩ := bnd h0
                refine TC_cut (α := Unit) (fun _ => z1 = .inl ()) (fun _ => []) (fun _ => []) ?_ ?_
                · refine TC_blk ?_
                  refine TC_loop (α := Int × Int × Bool) (fun n s => psalterylaw32_WeatherEnds.l1 K p5 (kand .i64 p0 65535) (kand .i64 p1 65535) n s.1 s.2.1 s.2.2 = some z1) (fun s => [(2, .int .u8 p5), (14, .nilp), (16, .p 23200 0), (18, .int .i64 s.1)]) (fun s => [(23200, some (.cells [.int .i64 (kand .i64 p0 65535), .int .i64 (kand .i64 p1 65535), .int .i64 65536, .int .i64 65536, .int .u32 s.2.1, .bool s.2.2]))]) K ?_ ?_
                  · exact SP_ren [(23200, 500880)] (_, _, _) h1 ⟨rfl, rfl, rfl, rfl, trivial⟩ ⟨rfl, trivial⟩ rfl
                  rintro n ⟨x556, x557, x558⟩ h1
                  rcases n with _ | n
                  · exact (nsome h1).elim
                  replace h1 : psalterylaw32_WeatherEnds.r1 K p5 (kand .i64 p0 65535) (kand .i64 p1 65535) (psalterylaw32_WeatherEnds.l1 K p5 (kand .i64 p0 65535) (kand .i64 p1 65535) n) x556 x557 x558 = some z1 := h1
                  refine TC_seq ?_
                  refine TC_seq ?_
                  refine TC_reg ?_
                  refine TL_ev env 4 rfl ⟨trivial, ⟨trivial, ⟨trivial, ⟨⟨trivial, ⟨trivial, trivial⟩⟩, trivial⟩⟩⟩⟩ ?_
                  refine TL_end ?_
                  refine TE_go ?_
                  refine TC_cond rfl (fun hb => ?_) (fun hb => ?_)
                  · replace h1 := bif_t h1 hb
                    refine TC_skip ?_
                    refine TE_go ?_
                    refine TC_seq ?_
                    refine TC_blk ?_
                    refine TC_seq ?_
                    obtain ⟨z2, h2, h1⟩ := bnd h1
                    refine TC_cut (α := Bool × Bool × Bool × Int × Bool) (fun s => z2 = s) (fun s => [(2, .int .u8 p5), (14, .nilp), (16, .p 23700 0), (18, .int .i64 x556), (100, .p 23700 0), (101, .bool s.1), (102, .bool s.2.1), (110, .bool s.2.2.1)]) (fun s => [(23700, some (.cells [.int .i64 (kand .i64 p0 65535), .int .i64 (kand .i64 p1 65535), .int .i64 65536, .int .i64 65536, .int .u32 s.2.2.2.1, .bool s.2.2.2.2]))]) ?_ ?_
                    · refine TC_reg ?_
                      refine TL_ev env 1 rfl ⟨trivial, trivial⟩ ?_
                      obtain ⟨⟨⟩, hr, h2⟩ := bnd h2
                      refine TL_callB [] (weather_Weather_Lost_2.ok0 hr) weather_Weather_Lost_2.fnb rfl ⟨trivial, ⟨trivial, trivial⟩⟩ rfl trivial rfl ?_
                      refine TL_ev env 1 rfl ⟨trivial, trivial⟩ ?_
                      refine TL_gt rfl rfl rfl rfl ?_
                      refine TL_ev env 1 rfl ⟨trivial, trivial⟩ ?_
                      refine TL_gt rfl rfl rfl rfl ?_
                      obtain ⟨⟨r600, r601, r602⟩, hr, h2⟩ := bnd h2
                      refine TL_callB [(0, 23200)] (weather_Weather_Lost.ok0 hr) weather_Weather_Lost.fnb rfl ⟨trivial, ⟨trivial, trivial⟩⟩ rfl ⟨.inr rfl, trivial⟩ rfl ?_
                      refine TL_gt rfl rfl rfl rfl ?_
                      refine TL_ev env 3 rfl ⟨trivial, ⟨⟨trivial, ⟨trivial, trivial⟩⟩, ⟨trivial, trivial⟩⟩⟩ ?_
                      refine TL_split 104 rfl (fun hb => ?_) (fun hb => ?_)
                      · replace h2 := bif_t h2 hb
                        refine TL_gf (.bool false) rfl rfl rfl rfl rfl (by decide) ?_
                        refine TL_gf (.bool false) rfl rfl rfl rfl rfl (by decide) ?_
                        refine TL_gf (.bool false) rfl rfl rfl rfl rfl (by decide) ?_
                        refine TL_gf (.bool false) rfl rfl rfl rfl rfl (by decide) ?_
                        refine TL_gf (.bool false) rfl rfl rfl rfl rfl (by decide) ?_
                        refine TL_ev env 1 rfl ⟨⟨trivial, ⟨trivial, fun e => e⟩⟩, trivial⟩ ?_
                        refine TL_end ?_
                        obtain rfl := sinj h2
                        refine tsn ?_
                        exact SP_ren [(23700, 23200)] (_, _, _, _, _) rfl ⟨rfl, rfl, rfl, rfl, rfl, rfl, rfl, rfl, trivial⟩ ⟨rfl, trivial⟩ rfl
                      · replace h2 := bif_f h2 hb
                        refine TL_gt rfl rfl rfl rfl ?_
                        refine TL_ev env 1 rfl ⟨trivial, trivial⟩ ?_
                        refine TL_gt rfl rfl rfl rfl ?_
                        obtain ⟨⟨⟩, hr, h2⟩ := bnd h2
                        refine TL_callB [] (weather_Weather_Fair_2.ok0 hr) weather_Weather_Fair_2.fnb rfl ⟨trivial, ⟨trivial, trivial⟩⟩ rfl trivial rfl ?_
                        refine TL_gt rfl rfl rfl rfl ?_
                        refine TL_ev env 1 rfl ⟨trivial, trivial⟩ ?_
                        refine TL_gt rfl rfl rfl rfl ?_
                        obtain ⟨r603, hr, h2⟩ := bnd h2
                        refine TL_callB [(0, 23200)] (weather_Weather_Fair.ok0 hr) weather_Weather_Fair.fnb rfl ⟨trivial, ⟨trivial, trivial⟩⟩ rfl ⟨.inr rfl, trivial⟩ rfl ?_
                        refine TL_gt rfl rfl rfl rfl ?_
                        refine TL_ev env 2 rfl ⟨⟨trivial, ⟨trivial, trivial⟩⟩, ⟨⟨trivial, ⟨trivial, trivial⟩⟩, trivial⟩⟩ ?_
                        refine TL_end ?_
                        obtain rfl := sinj h2
                        refine tsn ?_
                        exact SP_ren [(23700, 23200)] (_, _, _, _, _) rfl ⟨rfl, rfl, rfl, rfl, rfl, rfl, rfl, rfl, trivial⟩ ⟨rfl, trivial⟩ rfl
                    · rintro ⟨x594, x595, x596, x597, x598⟩ rfl
                      refine TE_go ?_
                      refine TC_cond rfl (fun hb => ?_) (fun hb => ?_)
                      · replace h1 := bif_t h1 hb
                        refine TC_seq ?_
                        refine TC_reg ?_
                        refine TL_ev env 1 rfl ⟨trivial, trivial⟩ ?_
                        refine TL_end ?_
                        refine TE_go ?_
                        refine TC_ret ?_
                        refine tbr ?_
                        refine tsr ?_
                        refine tsr ?_
                        refine tbr ?_
                        refine tsr ?_
                        refine tsr ?_
                        obtain rfl := sinj h1
                        obtain rfl := sinj h0
                        exact TE_ret env rfl trivial trivial
                      · replace h1 := bif_f h1 hb
                        refine TC_skip ?_
                        refine tbn ?_
                        refine TE_go ?_
                        refine TC_reg ?_
                        refine TL_ev env 3 rfl ⟨trivial, ⟨⟨trivial, ⟨trivial, trivial⟩⟩, ⟨trivial, trivial⟩⟩⟩ ?_
                        refine TL_end ?_
                        refine tsn ?_
                        exact TE_nextr [(23200, 23700)] n (Nat.lt_succ_self n) (_, _, _) h1 ⟨rfl, rfl, rfl, rfl, trivial⟩ ⟨rfl, trivial⟩ rfl
                  · replace h1 := bif_f h1 hb
                    refine TC_exit ?_
                    refine tsx ?_
                    refine tsx ?_
                    refine tbe ?_
                    obtain rfl := sinj h1
                    refine tsn ?_
                    exact SP_ren [] () rfl trivial trivial rfl
                · rintro ⟨⟩ rfl
                  refine TE_go ?_
                  refine TC_seq ?_
                  refine TC_reg ?_
                  refine TL_ev env 1 rfl ⟨trivial, trivial⟩ ?_
                  refine TL_end ?_
                  refine TE_go ?_
                  refine TC_ret ?_
                  obtain rfl := sinj h0
                  exact TE_ret env rfl trivial trivial
            · refine TL_callB [(1000, 500760)] (weather_New.ok1 hr) weather_New.fnb rfl ⟨trivial, ⟨trivial, ⟨trivial, trivial⟩⟩⟩ rfl trivial rfl ?_
              refine TL_ev env 5 rfl ⟨trivial, ⟨trivial, ⟨trivial, ⟨trivial, ⟨trivial, trivial⟩⟩⟩⟩⟩ ?_
              refine TL_end ?_
              refine TE_go ?_
              refine TC_seq ?_
              refine TC_reg ?_
              refine TL_ev env 8 rfl ⟨trivial, ⟨⟨trivial, trivial⟩, ⟨⟨trivial, ⟨trivial, trivial⟩⟩, ⟨trivial, ⟨⟨trivial, trivial⟩, ⟨⟨trivial, ⟨trivial, trivial⟩⟩, ⟨⟨trivial, ⟨trivial, ⟨trivial, ⟨trivial, trivial⟩⟩⟩⟩, ⟨trivial, trivial⟩⟩⟩⟩⟩⟩⟩⟩ ?_
              obtain ⟨z, hr, h0⟩ := bnd h0
              rcases z with r605 | ⟨⟩
              · refine TL_callB [] (weather_New.ok0 hr) weather_New.fnb rfl ⟨trivial, ⟨trivial, ⟨trivial, trivial⟩⟩⟩ rfl trivial rfl ?_
                refine TL_ev env 5 rfl ⟨trivial, ⟨trivial, ⟨trivial, ⟨trivial, ⟨trivial, trivial⟩⟩⟩⟩⟩ ?_
                refine TL_end ?_
                refine TE_go ?_
                refine TC_seq ?_
                refine TC_seq ?_
                refine TC_reg ?_
                refine TL_ev env 1 rfl ⟨trivial, trivial⟩ ?_
                refine TL_end ?_
                refine TE_go ?_
                obtain ⟨z1, h1, h0⟩ := bnd h0
                refine TC_cut (α := Unit) (fun _ => z1 = .inl ()) (fun _ => []) (fun _ => []) ?_ ?_
                · refine TC_blk ?_
                  refine TC_loop (α := Unit) (fun n _ => psalterylaw32_WeatherEnds.l2 K p5 (kand .i64 p0 65535) (kand .i64 p1 65535) p4 n = some z1) (fun _ => [(2, .int .u8 p5), (14, .p 24300 0), (16, .nilp), (18, .int .i64 0)]) (fun _ => [(24300, some (.cells [.int .i64 (kand .i64 p0 65535), .int .i64 (kand .i64 p1 65535), .int .i64 0, .int .i64 0, .int .u32 p4, .bool false]))]) K ?_ ?_
                  · exact SP_ren [(24300, 500760)] () h1 ⟨rfl, rfl, rfl, rfl, trivial⟩ ⟨rfl, trivial⟩ rfl
                  rintro n ⟨⟩ h1
                  rcases n with _ | n
                  · exact (nsome h1).elim
                  replace h1 : psalterylaw32_WeatherEnds.r2 K p5 (kand .i64 p0 65535) (kand .i64 p1 65535) p4 (psalterylaw32_WeatherEnds.l2 K p5 (kand .i64 p0 65535) (kand .i64 p1 65535) p4 n)  = some z1 := h1
                  refine TC_seq ?_
                  refine TC_seq ?_
                  refine TC_reg ?_
                  refine TL_ev env 4 rfl ⟨trivial, ⟨trivial, ⟨trivial, ⟨⟨trivial, ⟨trivial, trivial⟩⟩, trivial⟩⟩⟩⟩ ?_
                  refine TL_end ?_
                  refine TE_go ?_
                  refine TC_cond rfl (fun hb => ?_) (fun hb => ?_)
                  · replace h1 := bif_t h1 hb
                    refine TC_skip ?_
                    refine TE_go ?_
                    refine TC_seq ?_
                    refine TC_blk ?_
                    refine TC_seq ?_
                    obtain ⟨z2, h2, h1⟩ := bnd h1
                    refine TC_cut (α := Int × Bool) (fun s => z2 = s) (fun s => [(2, .int .u8 p5), (14, .p 24800 0), (16, .nilp), (18, .int .i64 0), (110, .bool true)]) (fun s => [(24800, some (.cells [.int .i64 (kand .i64 p0 65535), .int .i64 (kand .i64 p1 65535), .int .i64 0, .int .i64 0, .int .u32 s.1, .bool s.2]))]) ?_ ?_
                    · refine TC_reg ?_
                      refine TL_ev env 1 rfl ⟨trivial, trivial⟩ ?_
                      obtain ⟨⟨r637, r638, r639⟩, hr, h2⟩ := bnd h2
                      refine TL_callB [(0, 24300)] (weather_Weather_Lost.ok0 hr) weather_Weather_Lost.fnb rfl ⟨trivial, ⟨trivial, trivial⟩⟩ rfl ⟨.inr rfl, trivial⟩ rfl ?_
                      refine TL_ev env 1 rfl ⟨trivial, trivial⟩ ?_
                      refine TL_split 99 rfl (fun hb => ?_) (fun hb => ?_)
                      · replace h2 := bif_t h2 hb
                        refine TL_gf (.bool false) rfl rfl rfl rfl rfl (by decide) ?_
                        refine TL_gf (.bool false) rfl rfl rfl rfl rfl (by decide) ?_
                        refine TL_gf (.bool false) rfl rfl rfl rfl rfl (by decide) ?_
                        refine TL_ev env 2 rfl ⟨⟨trivial, ⟨trivial, fun e => e⟩⟩, ⟨trivial, trivial⟩⟩ ?_
                        refine TL_gf (.bool false) rfl rfl rfl rfl rfl (by decide) ?_
                        refine TL_gf (.bool false) rfl rfl rfl rfl rfl (by decide) ?_
                        refine TL_gf (.bool false) rfl rfl rfl rfl rfl (by decide) ?_
                        refine TL_gf (.bool false) rfl rfl rfl rfl rfl (by decide) ?_
                        refine TL_gf (.bool false) rfl rfl rfl rfl rfl (by decide) ?_
                        refine TL_ev env 1 rfl ⟨⟨trivial, ⟨trivial, fun e => e⟩⟩, trivial⟩ ?_
                        refine TL_end ?_
                        obtain rfl := sinj h2
                        refine tsn ?_
                        exact SP_ren [(24800, 24300)] (_, _) rfl ⟨rfl, rfl, rfl, rfl, rfl, trivial⟩ ⟨rfl, trivial⟩ rfl
                      · replace h2 := bif_f h2 hb
                        refine TL_gt rfl rfl rfl rfl ?_
                        refine TL_ev env 1 rfl ⟨trivial, trivial⟩ ?_
                        refine TL_gt rfl rfl rfl rfl ?_
                        obtain ⟨⟨⟩, hr, h2⟩ := bnd h2
                        refine TL_callB [] (weather_Weather_Lost_2.ok0 hr) weather_Weather_Lost_2.fnb rfl ⟨trivial, ⟨trivial, trivial⟩⟩ rfl trivial rfl ?_
                        refine TL_gt rfl rfl rfl rfl ?_
                        refine TL_ev env 3 rfl ⟨trivial, ⟨⟨trivial, ⟨trivial, trivial⟩⟩, ⟨trivial, trivial⟩⟩⟩ ?_
                        refine TL_gf (.bool false) rfl rfl rfl rfl rfl (by decide) ?_
                        refine TL_gf (.bool false) rfl rfl rfl rfl rfl (by decide) ?_
                        refine TL_gf (.bool false) rfl rfl rfl rfl rfl (by decide) ?_
                        refine TL_gf (.bool false) rfl rfl rfl rfl rfl (by decide) ?_
                        refine TL_gf (.bool false) rfl rfl rfl rfl rfl (by decide) ?_
                        refine TL_ev env 1 rfl ⟨⟨trivial, ⟨trivial, fun e => e⟩⟩, trivial⟩ ?_
                        refine TL_end ?_
                        obtain rfl := sinj h2
                        refine tsn ?_
                        exact SP_ren [(24800, 24300)] (_, _) rfl ⟨rfl, rfl, rfl, rfl, rfl, trivial⟩ ⟨rfl, trivial⟩ rfl
                    · rintro ⟨x635, x636⟩ rfl
                      refine TE_go ?_
                      refine TC_cond rfl (fun hb => ?_) (fun hb => ?_)
                      · refine TC_seq ?_
                        refine TC_reg ?_
                        refine TL_ev env 1 rfl ⟨trivial, trivial⟩ ?_
                        refine TL_end ?_
                        refine TE_go ?_
                        refine TC_ret ?_
                        refine tbr ?_
                        refine tsr ?_
                        refine tsr ?_
                        refine tbr ?_
                        refine tsr ?_
                        refine tsr ?_
                        obtain rfl := sinj h1
                        obtain rfl := sinj h0
                        exact TE_ret env rfl trivial trivial
                      · first | exact (ftf hb).elim | exact (tff hb).elim | exact absurd hb (by decide)
                  · replace h1 := bif_f h1 hb
                    refine TC_exit ?_
                    refine tsx ?_
                    refine tsx ?_
                    refine tbe ?_
                    obtain rfl := sinj h1
                    refine tsn ?_
                    exact SP_ren [] () rfl trivial trivial rfl
                · rintro ⟨⟩ rfl
                  refine TE_go ?_
                  refine TC_seq ?_
                  refine TC_reg ?_
                  refine TL_ev env 1 rfl ⟨trivial, trivial⟩ ?_
                  refine TL_end ?_
                  refine TE_go ?_
                  refine TC_ret ?_
                  obtain rfl := sinj h0
                  exact TE_ret env rfl trivial trivial
              · refine TL_callB [(1000, 500880)] (weather_New.ok1 hr) weather_New.fnb rfl ⟨trivial, ⟨trivial, ⟨trivial, trivial⟩⟩⟩ rfl trivial rfl ?_
                refine TL_ev env 5 rfl ⟨trivial, ⟨trivial, ⟨trivial, ⟨trivial, ⟨trivial, trivial⟩⟩⟩⟩⟩ ?_
                refine TL_end ?_
                refine TE_go ?_
                refine TC_seq ?_
                refine TC_seq ?_
                refine TC_reg ?_
                refine TL_ev env 1 rfl ⟨trivial, trivial⟩ ?_
                refine TL_end ?_
                refine TE_go ?_
                obtain ⟨z1, h1, h0⟩ := bnd h0
                refine TC_cut (α := Unit) (fun _ => z1 = .inl ()) (fun _ => []) (fun _ => []) ?_ ?_
                · refine TC_blk ?_
                  refine TC_loop (α := Int × Int × Bool × Int × Bool) (fun n s => psalterylaw32_WeatherEnds.l3 K p5 (kand .i64 p0 65535) (kand .i64 p1 65535) n s.1 s.2.1 s.2.2.1 s.2.2.2.1 s.2.2.2.2 = some z1) (fun s => [(2, .int .u8 p5), (14, .p 26000 0), (16, .p 26001 0), (18, .int .i64 s.1)]) (fun s => [(26000, some (.cells [.int .i64 (kand .i64 p0 65535), .int .i64 (kand .i64 p1 65535), .int .i64 0, .int .i64 0, .int .u32 s.2.1, .bool s.2.2.1])), (26001, some (.cells [.int .i64 (kand .i64 p0 65535), .int .i64 (kand .i64 p1 65535), .int .i64 65536, .int .i64 65536, .int .u32 s.2.2.2.1, .bool s.2.2.2.2]))]) K ?_ ?_
                  · exact SP_ren [(26000, 500760), (26001, 500880)] (_, _, _, _, _) h1 ⟨rfl, rfl, rfl, rfl, trivial⟩ ⟨rfl, rfl, trivial⟩ rfl
                  rintro n ⟨x728, x729, x730, x731, x732⟩ h1
                  rcases n with _ | n
                  · exact (nsome h1).elim
                  replace h1 : psalterylaw32_WeatherEnds.r3 K p5 (kand .i64 p0 65535) (kand .i64 p1 65535) (psalterylaw32_WeatherEnds.l3 K p5 (kand .i64 p0 65535) (kand .i64 p1 65535) n) x728 x729 x730 x731 x732 = some z1 := h1
                  refine TC_seq ?_
                  refine TC_seq ?_
                  refine TC_reg ?_
                  refine TL_ev env 4 rfl ⟨trivial, ⟨trivial, ⟨trivial, ⟨⟨trivial, ⟨trivial, trivial⟩⟩, trivial⟩⟩⟩⟩ ?_
                  refine TL_end ?_
                  refine TE_go ?_
                  refine TC_cond rfl (fun hb => ?_) (fun hb => ?_)
                  · replace h1 := bif_t h1 hb
                    refine TC_skip ?_
                    refine TE_go ?_
                    refine TC_seq ?_
                    refine TC_blk ?_
                    refine TC_seq ?_
                    obtain ⟨z2, h2, h1⟩ := bnd h1
                    refine TC_cut (α := Bool × Int × Bool × Int × Bool) (fun s => z2 = s) (fun s => [(2, .int .u8 p5), (14, .p 26500 0), (16, .p 26501 0), (18, .int .i64 x728), (110, .bool s.1)]) (fun s => [(26500, some (.cells [.int .i64 (kand .i64 p0 65535), .int .i64 (kand .i64 p1 65535), .int .i64 0, .int .i64 0, .int .u32 s.2.1, .bool s.2.2.1])), (26501, some (.cells [.int .i64 (kand .i64 p0 65535), .int .i64 (kand .i64 p1 65535), .int .i64 65536, .int .i64 65536, .int .u32 s.2.2.2.1, .bool s.2.2.2.2]))]) ?_ ?_
                    · refine TC_reg ?_
                      refine TL_ev env 1 rfl ⟨trivial, trivial⟩ ?_
                      obtain ⟨⟨r792, r793, r794⟩, hr, h2⟩ := bnd h2
                      refine TL_callB [(0, 26000)] (weather_Weather_Lost.ok0 hr) weather_Weather_Lost.fnb rfl ⟨trivial, ⟨trivial, trivial⟩⟩ rfl ⟨.inr rfl, trivial⟩ rfl ?_
                      refine TL_ev env 1 rfl ⟨trivial, trivial⟩ ?_
                      refine TL_split 99 rfl (fun hb => ?_) (fun hb => ?_)
                      · replace h2 := bif_t h2 hb
                        refine TL_gf (.bool false) rfl rfl rfl rfl rfl (by decide) ?_
                        refine TL_gf (.bool false) rfl rfl rfl rfl rfl (by decide) ?_
                        refine TL_gf (.bool false) rfl rfl rfl rfl rfl (by decide) ?_
                        refine TL_ev env 2 rfl ⟨⟨trivial, ⟨trivial, fun e => e⟩⟩, ⟨trivial, trivial⟩⟩ ?_
                        refine TL_gf (.bool false) rfl rfl rfl rfl rfl (by decide) ?_
                        refine TL_gf (.bool false) rfl rfl rfl rfl rfl (by decide) ?_
                        refine TL_gf (.bool false) rfl rfl rfl rfl rfl (by decide) ?_
                        refine TL_gf (.bool false) rfl rfl rfl rfl rfl (by decide) ?_
                        refine TL_gf (.bool false) rfl rfl rfl rfl rfl (by decide) ?_
                        refine TL_ev env 1 rfl ⟨⟨trivial, ⟨trivial, fun e => e⟩⟩, trivial⟩ ?_
                        refine TL_end ?_
                        obtain rfl := sinj h2
                        refine tsn ?_
                        exact SP_ren [(26500, 26000), (26501, 26001)] (_, _, _, _, _) rfl ⟨rfl, rfl, rfl, rfl, rfl, trivial⟩ ⟨rfl, rfl, trivial⟩ rfl
                      · replace h2 := bif_f h2 hb
                        refine TL_gt rfl rfl rfl rfl ?_
                        refine TL_ev env 1 rfl ⟨trivial, trivial⟩ ?_
                        refine TL_gt rfl rfl rfl rfl ?_
                        obtain ⟨⟨r795, r796, r797⟩, hr, h2⟩ := bnd h2
                        refine TL_callB [(0, 26001)] (weather_Weather_Lost.ok0 hr) weather_Weather_Lost.fnb rfl ⟨trivial, ⟨trivial, trivial⟩⟩ rfl ⟨.inr rfl, trivial⟩ rfl ?_
                        refine TL_gt rfl rfl rfl rfl ?_
                        refine TL_ev env 3 rfl ⟨trivial, ⟨⟨trivial, ⟨trivial, trivial⟩⟩, ⟨trivial, trivial⟩⟩⟩ ?_
                        refine TL_split 104 rfl (fun hb => ?_) (fun hb => ?_)
                        · replace h2 := bif_t h2 hb
                          refine TL_gf (.bool false) rfl rfl rfl rfl rfl (by decide) ?_
                          refine TL_gf (.bool false) rfl rfl rfl rfl rfl (by decide) ?_
                          refine TL_gf (.bool false) rfl rfl rfl rfl rfl (by decide) ?_
                          refine TL_gf (.bool false) rfl rfl rfl rfl rfl (by decide) ?_
                          refine TL_gf (.bool false) rfl rfl rfl rfl rfl (by decide) ?_
                          refine TL_ev env 1 rfl ⟨⟨trivial, ⟨trivial, fun e => e⟩⟩, trivial⟩ ?_
                          refine TL_end ?_
                          obtain rfl := sinj h2
                          refine tsn ?_
                          exact SP_ren [(26500, 26000), (26501, 26001)] (_, _, _, _, _) rfl ⟨rfl, rfl, rfl, rfl, rfl, trivial⟩ ⟨rfl, rfl, trivial⟩ rfl
                        · replace h2 := bif_f h2 hb
                          refine TL_gt rfl rfl rfl rfl ?_
                          refine TL_ev env 1 rfl ⟨trivial, trivial⟩ ?_
                          refine TL_gt rfl rfl rfl rfl ?_
                          obtain ⟨r798, hr, h2⟩ := bnd h2
                          refine TL_callB [(0, 26000)] (weather_Weather_Fair.ok0 hr) weather_Weather_Fair.fnb rfl ⟨trivial, ⟨trivial, trivial⟩⟩ rfl ⟨.inr rfl, trivial⟩ rfl ?_
                          refine TL_gt rfl rfl rfl rfl ?_
                          refine TL_ev env 1 rfl ⟨trivial, trivial⟩ ?_
                          refine TL_gt rfl rfl rfl rfl ?_
                          obtain ⟨r799, hr, h2⟩ := bnd h2
                          refine TL_callB [(0, 26001)] (weather_Weather_Fair.ok0 hr) weather_Weather_Fair.fnb rfl ⟨trivial, ⟨trivial, trivial⟩⟩ rfl ⟨.inr rfl, trivial⟩ rfl ?_
                          refine TL_gt rfl rfl rfl rfl ?_
                          refine TL_ev env 2 rfl ⟨⟨trivial, ⟨trivial, trivial⟩⟩, ⟨⟨trivial, ⟨trivial, trivial⟩⟩, trivial⟩⟩ ?_
                          refine TL_end ?_
                          obtain rfl := sinj h2
                          refine tsn ?_
                          exact SP_ren [(26500, 26000), (26501, 26001)] (_, _, _, _, _) rfl ⟨rfl, rfl, rfl, rfl, rfl, trivial⟩ ⟨rfl, rfl, trivial⟩ rfl
                    · rintro ⟨x786, x787, x788, x789, x790⟩ rfl
                      refine TE_go ?_
                      refine TC_cond rfl (fun hb => ?_) (fun hb => ?_)
                      · replace h1 := bif_t h1 hb
                        refine TC_seq ?_
                        refine TC_reg ?_
                        refine TL_ev env 1 rfl ⟨trivial, trivial⟩ ?_
                        refine TL_end ?_
                        refine TE_go ?_
                        refine TC_ret ?_
                        refine tbr ?_
                        refine tsr ?_
                        refine tsr ?_
                        refine tbr ?_
                        refine tsr ?_
                        refine tsr ?_
                        obtain rfl := sinj h1
                        obtain rfl := sinj h0
                        exact TE_ret env rfl trivial trivial
                      · replace h1 := bif_f h1 hb
                        refine TC_skip ?_
                        refine tbn ?_
                        refine TE_go ?_
                        refine TC_reg ?_
                        refine TL_ev env 3 rfl ⟨trivial, ⟨⟨trivial, ⟨trivial, trivial⟩⟩, ⟨trivial, trivial⟩⟩⟩ ?_
                        refine TL_end ?_
                        refine tsn ?_
                        exact TE_nextr [(26000, 26500), (26001, 26501)] n (Nat.lt_succ_self n) (_, _, _, _, _) h1 ⟨rfl, rfl, rfl, rfl, trivial⟩ ⟨rfl, rfl, trivial⟩ rfl
                  · replace h1 := bif_f h1 hb
                    refine TC_exit ?_
                    refine tsx ?_
                    refine tsx ?_
                    refine tbe ?_
                    obtain rfl := sinj h1
                    refine tsn ?_
                    exact SP_ren [] () rfl trivial trivial rfl
                · rintro ⟨⟩ rfl
                  refine TE_go ?_
                  refine TC_seq ?_
                  refine TC_reg ?_
                  refine TL_ev env 1 rfl ⟨trivial, trivial⟩ ?_
                  refine TL_end ?_
                  refine TE_go ?_
                  refine TC_ret ?_
                  obtain rfl := sinj h0
                  exact TE_ret env rfl trivial trivial
      · refine TL_callB [(1000, 500300)] (weather_New.ok1 hr) weather_New.fnb rfl ⟨trivial, ⟨trivial, ⟨trivial, trivial⟩⟩⟩ rfl trivial rfl ?_
        refine TL_ev env 5 rfl ⟨trivial, ⟨trivial, ⟨trivial, ⟨trivial, ⟨trivial, trivial⟩⟩⟩⟩⟩ ?_
        refine TL_end ?_
        refine TE_go ?_
        refine TC_seq ?_
        refine TC_seq ?_
        refine TC_reg ?_
        refine TL_ev env 3 rfl ⟨trivial, ⟨trivial, ⟨⟨trivial, ⟨trivial, trivial⟩⟩, trivial⟩⟩⟩ ?_
        refine TL_end ?_
        refine TE_go ?_
        refine TC_cond rfl (fun hb => ?_) (fun hb => ?_)
        · replace h0 := bif_t h0 hb
          refine TC_seq ?_
          refine TC_reg ?_
          refine TL_ev env 1 rfl ⟨trivial, trivial⟩ ?_
          refine TL_end ?_
          refine TE_go ?_
          refine TC_ret ?_
          refine tsr ?_
          obtain rfl := sinj h0
          exact TE_ret env rfl trivial trivial
        · replace h0 := bif_f h0 hb
          refine TC_skip ?_
          refine TE_go ?_
          refine TC_seq ?_
          refine TC_seq ?_
          refine TC_reg ?_
          refine TL_ev env 2 rfl ⟨trivial, ⟨⟨trivial, ⟨trivial, trivial⟩⟩, trivial⟩⟩ ?_
          refine TL_end ?_
          refine TE_go ?_
          obtain ⟨z1, h1, h0⟩ := bnd h0
          refine TC_cut (α := Unit) (fun _ => z1 = ()) (fun _ => [(1, .int .u32 p4), (2, .int .u8 p5), (3, .p 27400 0)]) (fun _ => [(27400, some (.cells [.int .i64 p0, .int .i64 p1, .int .i64 p2, .int .i64 p3]))]) ?_ ?_
          · refine TC_cond rfl (fun hb => ?_) (fun hb => ?_)
            · replace h1 := bif_t h1 hb
              refine TC_seq ?_
              refine TC_reg ?_
              refine TL_ev env 3 rfl ⟨trivial, ⟨trivial, ⟨trivial, trivial⟩⟩⟩ ?_
              obtain ⟨⟨⟩, hr, h1⟩ := bnd h1
              refine TL_callB [] (weather_Weather_Row.ok0 hr) weather_Weather_Row.fnb rfl ⟨trivial, ⟨trivial, ⟨trivial, trivial⟩⟩⟩ rfl trivial rfl ?_
              refine TL_ev env 3 rfl ⟨trivial, ⟨trivial, ⟨trivial, trivial⟩⟩⟩ ?_
              obtain ⟨⟨r1114, r1115, r1116⟩, hr, h1⟩ := bnd h1
              refine TL_callB [(0, 500300)] (weather_Weather_Row_2.ok0 hr) weather_Weather_Row_2.fnb rfl ⟨trivial, ⟨trivial, ⟨trivial, trivial⟩⟩⟩ rfl ⟨.inr rfl, trivial⟩ rfl ?_
              refine TL_ev env 2 rfl ⟨trivial, ⟨trivial, trivial⟩⟩ ?_
              refine TL_end ?_
              refine TE_go ?_
              refine TC_seq ?_
              refine TC_reg ?_
              refine TL_ev env 1 rfl ⟨trivial, trivial⟩ ?_
              refine TL_end ?_
              refine TE_go ?_
              obtain ⟨z2, h2, h1⟩ := bnd h1
              refine TC_cut (α := Unit) (fun _ => z2 = ()) (fun _ => [(1, .int .u32 p4), (2, .int .u8 p5), (3, .p 32700 0)]) (fun _ => [(32700, some (.cells [.int .i64 p0, .int .i64 p1, .int .i64 p2, .int .i64 p3]))]) ?_ ?_
              · refine TC_blk ?_
                refine TC_loop (α := Unit) (fun n _ => psalterylaw32_WeatherEnds.l9 K p4 p5 r1114 p0 p1 p2 p3 n = some z2) (fun _ => [(1, .int .u32 p4), (2, .int .u8 p5), (3, .p 32800 0), (11, .nils), (12, .im (.slice (.pair (.int .i64) (.pair (.int .i64) (.pair (.int .i64) (.int .u32))))) r1114), (13, .int .i64 0)]) (fun _ => [(32800, some (.cells [.int .i64 p0, .int .i64 p1, .int .i64 p2, .int .i64 p3]))]) K ?_ ?_
                · exact SP_ren [(32800, 1003)] () h2 ⟨rfl, rfl, rfl, rfl, rfl, rfl, trivial⟩ ⟨rfl, trivial⟩ rfl
                rintro n ⟨⟩ h2
                rcases n with _ | n
                · exact (nsome h2).elim
                replace h2 : psalterylaw32_WeatherEnds.r9 K p4 p5 r1114 p0 p1 p2 p3 (psalterylaw32_WeatherEnds.l9 K p4 p5 r1114 p0 p1 p2 p3 n)  = some z2 := h2
                refine TC_seq ?_
                refine TC_seq ?_
                refine TC_reg ?_
                refine TL_ev env 4 rfl ⟨trivial, ⟨trivial, ⟨⟨trivial, trivial⟩, ⟨⟨trivial, ⟨trivial, trivial⟩⟩, trivial⟩⟩⟩⟩ ?_
                refine TL_end ?_
                refine TE_go ?_
                refine TC_cond rfl (fun hb => ?_) (fun hb => ?_)
                · first | exact (ftf hb).elim | exact (tff hb).elim | exact absurd hb (by decide)
                · refine TC_exit ?_
                  refine tsx ?_
                  refine tsx ?_
                  refine tbe ?_
                  obtain rfl := sinj h2
                  refine tsn ?_
                  exact SP_ren [(32700, 32800)] () rfl ⟨rfl, rfl, rfl, trivial⟩ ⟨rfl, trivial⟩ rfl
              · rintro ⟨⟩ rfl
                obtain rfl := sinj h1
                refine tsn ?_
                exact SP_ren [(27400, 32700)] () rfl ⟨rfl, rfl, rfl, trivial⟩ ⟨rfl, trivial⟩ rfl
            · replace h1 := bif_f h1 hb
              refine TC_skip ?_
              obtain rfl := sinj h1
              refine tsn ?_
              exact SP_ren [(27400, 1003)] () rfl ⟨rfl, rfl, rfl, trivial⟩ ⟨rfl, trivial⟩ rfl
          · rintro ⟨⟩ rfl
            refine TE_go ?_
            refine TC_seq ?_
            refine TC_reg ?_
            refine TL_ev env 8 rfl ⟨trivial, ⟨⟨trivial, trivial⟩, ⟨⟨trivial, ⟨trivial, trivial⟩⟩, ⟨trivial, ⟨⟨trivial, trivial⟩, ⟨⟨trivial, ⟨trivial, trivial⟩⟩, ⟨⟨trivial, ⟨trivial, trivial⟩⟩, ⟨trivial, trivial⟩⟩⟩⟩⟩⟩⟩⟩ ?_
            obtain ⟨z, hr, h0⟩ := bnd h0
            rcases z with r806 | ⟨⟩
            · refine TL_callB [] (weather_New.ok0 hr) weather_New.fnb rfl ⟨trivial, ⟨trivial, ⟨trivial, trivial⟩⟩⟩ rfl trivial rfl ?_
              refine TL_ev env 5 rfl ⟨trivial, ⟨trivial, ⟨trivial, ⟨trivial, ⟨trivial, trivial⟩⟩⟩⟩⟩ ?_
              refine TL_end ?_
              refine TE_go ?_
              refine TC_seq ?_
              refine TC_reg ?_
              refine TL_ev env 8 rfl ⟨trivial, ⟨⟨trivial, trivial⟩, ⟨⟨trivial, ⟨trivial, trivial⟩⟩, ⟨trivial, ⟨⟨trivial, trivial⟩, ⟨⟨trivial, ⟨trivial, trivial⟩⟩, ⟨⟨trivial, ⟨trivial, ⟨trivial, ⟨trivial, trivial⟩⟩⟩⟩, ⟨trivial, trivial⟩⟩⟩⟩⟩⟩⟩⟩ ?_
              obtain ⟨z, hr, h0⟩ := bnd h0
              rcases z with r807 | ⟨⟩
              · refine TL_callB [] (weather_New.ok0 hr) weather_New.fnb rfl ⟨trivial, ⟨trivial, ⟨trivial, trivial⟩⟩⟩ rfl trivial rfl ?_
                refine TL_ev env 5 rfl ⟨trivial, ⟨trivial, ⟨trivial, ⟨trivial, ⟨trivial, trivial⟩⟩⟩⟩⟩ ?_
                refine TL_end ?_
                refine TE_go ?_
                refine TC_seq ?_
                refine TC_seq ?_
                refine TC_reg ?_
                refine TL_ev env 1 rfl ⟨trivial, trivial⟩ ?_
                refine TL_end ?_
                refine TE_go ?_
                obtain ⟨z1, h1, h0⟩ := bnd h0
                refine TC_cut (α := Unit) (fun _ => z1 = .inl ()) (fun _ => []) (fun _ => []) ?_ ?_
                · refine TC_blk ?_
                  refine TC_loop (α := Unit) (fun n _ => psalterylaw32_WeatherEnds.l5 K p5 n = some z1) (fun _ => [(2, .int .u8 p5), (14, .nilp), (16, .nilp), (18, .int .i64 0)]) (fun _ => []) K ?_ ?_
                  · exact SP_ren [] () h1 ⟨rfl, rfl, rfl, rfl, trivial⟩ trivial rfl
                  rintro n ⟨⟩ h1
                  rcases n with _ | n
                  · exact (nsome h1).elim
                  replace h1 : psalterylaw32_WeatherEnds.r5 K p5 (psalterylaw32_WeatherEnds.l5 K p5 n)  = some z1 := h1
                  refine TC_seq ?_
                  refine TC_seq ?_
                  refine TC_reg ?_
                  refine TL_ev env 4 rfl ⟨trivial, ⟨trivial, ⟨trivial, ⟨⟨trivial, ⟨trivial, trivial⟩⟩, trivial⟩⟩⟩⟩ ?_
                  refine TL_end ?_
                  refine TE_go ?_
                  refine TC_cond rfl (fun hb => ?_) (fun hb => ?_)
                  · replace h1 := bif_t h1 hb
                    refine TC_skip ?_
                    refine TE_go ?_
                    refine TC_seq ?_
                    refine TC_blk ?_
                    refine TC_seq ?_
                    refine TC_reg ?_
                    refine TL_ev env 1 rfl ⟨trivial, trivial⟩ ?_
                    obtain ⟨⟨⟩, hr, h1⟩ := bnd h1
                    refine TL_callB [] (weather_Weather_Lost_2.ok0 hr) weather_Weather_Lost_2.fnb rfl ⟨trivial, ⟨trivial, trivial⟩⟩ rfl trivial rfl ?_
                    refine TL_ev env 1 rfl ⟨trivial, trivial⟩ ?_
                    refine TL_gt rfl rfl rfl rfl ?_
                    refine TL_ev env 1 rfl ⟨trivial, trivial⟩ ?_
                    refine TL_gt rfl rfl rfl rfl ?_
                    obtain ⟨⟨⟩, hr, h1⟩ := bnd h1
                    refine TL_callB [] (weather_Weather_Lost_2.ok0 hr) weather_Weather_Lost_2.fnb rfl ⟨trivial, ⟨trivial, trivial⟩⟩ rfl trivial rfl ?_
                    refine TL_gt rfl rfl rfl rfl ?_
                    refine TL_ev env 3 rfl ⟨trivial, ⟨⟨trivial, ⟨trivial, trivial⟩⟩, ⟨trivial, trivial⟩⟩⟩ ?_
                    refine TL_gf (.bool false) rfl rfl rfl rfl rfl (by decide) ?_
                    refine TL_gf (.bool false) rfl rfl rfl rfl rfl (by decide) ?_
                    refine TL_gf (.bool false) rfl rfl rfl rfl rfl (by decide) ?_
                    refine TL_gf (.bool false) rfl rfl rfl rfl rfl (by decide) ?_
                    refine TL_gf (.bool false) rfl rfl rfl rfl rfl (by decide) ?_
                    refine TL_ev env 1 rfl ⟨⟨trivial, ⟨trivial, fun e => e⟩⟩, trivial⟩ ?_
                    refine TL_end ?_
                    refine TE_go ?_
                    refine TC_cond rfl (fun hb => ?_) (fun hb => ?_)
                    · refine TC_seq ?_
                      refine TC_reg ?_
                      refine TL_ev env 1 rfl ⟨trivial, trivial⟩ ?_
                      refine TL_end ?_
                      refine TE_go ?_
                      refine TC_ret ?_
                      refine tbr ?_
                      refine tsr ?_
                      refine tsr ?_
                      refine tbr ?_
                      refine tsr ?_
                      refine tsr ?_
                      obtain rfl := sinj h1
                      obtain rfl := sinj h0
                      exact TE_ret env rfl trivial trivial
                    · first | exact (ftf hb).elim | exact (tff hb).elim | exact absurd hb (by decide)
                  · replace h1 := bif_f h1 hb
                    refine TC_exit ?_
                    refine tsx ?_
                    refine tsx ?_
                    refine tbe ?_
                    obtain rfl := sinj h1
                    refine tsn ?_
                    exact SP_ren [] () rfl trivial trivial rfl
                · rintro ⟨⟩ rfl
                  refine TE_go ?_
                  refine TC_seq ?_
                  refine TC_reg ?_
                  refine TL_ev env 1 rfl ⟨trivial, trivial⟩ ?_
                  refine TL_end ?_
                  refine TE_go ?_
                  refine TC_ret ?_
                  obtain rfl := sinj h0
                  exact TE_ret env rfl trivial trivial
              · refine TL_callB [(1000, 500880)] (weather_New.ok1 hr) weather_New.fnb rfl ⟨trivial, ⟨trivial, ⟨trivial, trivial⟩⟩⟩ rfl trivial rfl ?_
                refine TL_ev env 5 rfl ⟨trivial, ⟨trivial, ⟨trivial, ⟨trivial, ⟨trivial, trivial⟩⟩⟩⟩⟩ ?_
                refine TL_end ?_
                refine TE_go ?_
                refine TC_seq ?_
                refine TC_seq ?_
                refine TC_reg ?_
                refine TL_ev env 1 rfl ⟨trivial, trivial⟩ ?_
                refine TL_end ?_
                refine TE_go ?_
                obtain ⟨z1, h1, h0⟩ := bnd h0
                refine TC_cut (α := Unit) (fun _ => z1 = .inl ()) (fun _ => []) (fun _ => []) ?_ ?_
                · refine TC_blk ?_
                  refine TC_loop (α := Int × Int × Bool) (fun n s => psalterylaw32_WeatherEnds.l6 K p5 (kand .i64 p0 65535) (kand .i64 p1 65535) n s.1 s.2.1 s.2.2 = some z1) (fun s => [(2, .int .u8 p5), (14, .nilp), (16, .p 29100 0), (18, .int .i64 s.1)]) (fun s => [(29100, some (.cells [.int .i64 (kand .i64 p0 65535), .int .i64 (kand .i64 p1 65535), .int .i64 65536, .int .i64 65536, .int .u32 s.2.1, .bool s.2.2]))]) K ?_ ?_
                  · exact SP_ren [(29100, 500880)] (_, _, _) h1 ⟨rfl, rfl, rfl, rfl, trivial⟩ ⟨rfl, trivial⟩ rfl
                  rintro n ⟨x869, x870, x871⟩ h1
                  rcases n with _ | n
                  · exact (nsome h1).elim
                  replace h1 : psalterylaw32_WeatherEnds.r6 K p5 (kand .i64 p0 65535) (kand .i64 p1 65535) (psalterylaw32_WeatherEnds.l6 K p5 (kand .i64 p0 65535) (kand .i64 p1 65535) n) x869 x870 x871 = some z1 := h1
                  refine TC_seq ?_
                  refine TC_seq ?_
                  refine TC_reg ?_
                  refine TL_ev env 4 rfl ⟨trivial, ⟨trivial, ⟨trivial, ⟨⟨trivial, ⟨trivial, trivial⟩⟩, trivial⟩⟩⟩⟩ ?_
                  refine TL_end ?_
                  refine TE_go ?_
                  refine TC_cond rfl (fun hb => ?_) (fun hb => ?_)
                  · replace h1 := bif_t h1 hb
                    refine TC_skip ?_
                    refine TE_go ?_
                    refine TC_seq ?_
                    refine TC_blk ?_
                    refine TC_seq ?_
                    obtain ⟨z2, h2, h1⟩ := bnd h1
                    refine TC_cut (α := Bool × Bool × Bool × Int × Bool) (fun s => z2 = s) (fun s => [(2, .int .u8 p5), (14, .nilp), (16, .p 29600 0), (18, .int .i64 x869), (100, .p 29600 0), (101, .bool s.1), (102, .bool s.2.1), (110, .bool s.2.2.1)]) (fun s => [(29600, some (.cells [.int .i64 (kand .i64 p0 65535), .int .i64 (kand .i64 p1 65535), .int .i64 65536, .int .i64 65536, .int .u32 s.2.2.2.1, .bool s.2.2.2.2]))]) ?_ ?_
                    · refine TC_reg ?_
                      refine TL_ev env 1 rfl ⟨trivial, trivial⟩ ?_
                      obtain ⟨⟨⟩, hr, h2⟩ := bnd h2
                      refine TL_callB [] (weather_Weather_Lost_2.ok0 hr) weather_Weather_Lost_2.fnb rfl ⟨trivial, ⟨trivial, trivial⟩⟩ rfl trivial rfl ?_
                      refine TL_ev env 1 rfl ⟨trivial, trivial⟩ ?_
                      refine TL_gt rfl rfl rfl rfl ?_
                      refine TL_ev env 1 rfl ⟨trivial, trivial⟩ ?_
                      refine TL_gt rfl rfl rfl rfl ?_
                      obtain ⟨⟨r913, r914, r915⟩, hr, h2⟩ := bnd h2
                      refine TL_callB [(0, 29100)] (weather_Weather_Lost.ok0 hr) weather_Weather_Lost.fnb rfl ⟨trivial, ⟨trivial, trivial⟩⟩ rfl ⟨.inr rfl, trivial⟩ rfl ?_
                      refine TL_gt rfl rfl rfl rfl ?_
                      refine TL_ev env 3 rfl ⟨trivial, ⟨⟨trivial, ⟨trivial, trivial⟩⟩, ⟨trivial, trivial⟩⟩⟩ ?_
                      refine TL_split 104 rfl (fun hb => ?_) (fun hb => ?_)
                      · replace h2 := bif_t h2 hb
                        refine TL_gf (.bool false) rfl rfl rfl rfl rfl (by decide) ?_
                        refine TL_gf (.bool false) rfl rfl rfl rfl rfl (by decide) ?_
                        refine TL_gf (.bool false) rfl rfl rfl rfl rfl (by decide) ?_
                        refine TL_gf (.bool false) rfl rfl rfl rfl rfl (by decide) ?_
                        refine TL_gf (.bool false) rfl rfl rfl rfl rfl (by decide) ?_
                        refine TL_ev env 1 rfl ⟨⟨trivial, ⟨trivial, fun e => e⟩⟩, trivial⟩ ?_
                        refine TL_end ?_
                        obtain rfl := sinj h2
                        refine tsn ?_
                        exact SP_ren [(29600, 29100)] (_, _, _, _, _) rfl ⟨rfl, rfl, rfl, rfl, rfl, rfl, rfl, rfl, trivial⟩ ⟨rfl, trivial⟩ rfl
                      · replace h2 := bif_f h2 hb
                        refine TL_gt rfl rfl rfl rfl ?_
                        refine TL_ev env 1 rfl ⟨trivial, trivial⟩ ?_
                        refine TL_gt rfl rfl rfl rfl ?_
                        obtain ⟨⟨⟩, hr, h2⟩ := bnd h2
                        refine TL_callB [] (weather_Weather_Fair_2.ok0 hr) weather_Weather_Fair_2.fnb rfl ⟨trivial, ⟨trivial, trivial⟩⟩ rfl trivial rfl ?_
                        refine TL_gt rfl rfl rfl rfl ?_
                        refine TL_ev env 1 rfl ⟨trivial, trivial⟩ ?_
                        refine TL_gt rfl rfl rfl rfl ?_
                        obtain ⟨r916, hr, h2⟩ := bnd h2
                        refine TL_callB [(0, 29100)] (weather_Weather_Fair.ok0 hr) weather_Weather_Fair.fnb rfl ⟨trivial, ⟨trivial, trivial⟩⟩ rfl ⟨.inr rfl, trivial⟩ rfl ?_
                        refine TL_gt rfl rfl rfl rfl ?_
                        refine TL_ev env 2 rfl ⟨⟨trivial, ⟨trivial, trivial⟩⟩, ⟨⟨trivial, ⟨trivial, trivial⟩⟩, trivial⟩⟩ ?_
                        refine TL_end ?_
                        obtain rfl := sinj h2
                        refine tsn ?_
                        exact SP_ren [(29600, 29100)] (_, _, _, _, _) rfl ⟨rfl, rfl, rfl, rfl, rfl, rfl, rfl, rfl, trivial⟩ ⟨rfl, trivial⟩ rfl
                    · rintro ⟨x907, x908, x909, x910, x911⟩ rfl
                      refine TE_go ?_
                      refine TC_cond rfl (fun hb => ?_) (fun hb => ?_)
                      · replace h1 := bif_t h1 hb
                        refine TC_seq ?_
                        refine TC_reg ?_
                        refine TL_ev env 1 rfl ⟨trivial, trivial⟩ ?_
                        refine TL_end ?_
                        refine TE_go ?_
                        refine TC_ret ?_
                        refine tbr ?_
                        refine tsr ?_
                        refine tsr ?_
                        refine tbr ?_
                        refine tsr ?_
                        refine tsr ?_
                        obtain rfl := sinj h1
                        obtain rfl := sinj h0
                        exact TE_ret env rfl trivial trivial
                      · replace h1 := bif_f h1 hb
                        refine TC_skip ?_
                        refine tbn ?_
                        refine TE_go ?_
                        refine TC_reg ?_
                        refine TL_ev env 3 rfl ⟨trivial, ⟨⟨trivial, ⟨trivial, trivial⟩⟩, ⟨trivial, trivial⟩⟩⟩ ?_
                        refine TL_end ?_
                        refine tsn ?_
                        exact TE_nextr [(29100, 29600)] n (Nat.lt_succ_self n) (_, _, _) h1 ⟨rfl, rfl, rfl, rfl, trivial⟩ ⟨rfl, trivial⟩ rfl
                  · replace h1 := bif_f h1 hb
                    refine TC_exit ?_
                    refine tsx ?_
                    refine tsx ?_
                    refine tbe ?_
                    obtain rfl := sinj h1
                    refine tsn ?_
                    exact SP_ren [] () rfl trivial trivial rfl
                · rintro ⟨⟩ rfl
                  refine TE_go ?_
                  refine TC_seq ?_
                  refine TC_reg ?_
                  refine TL_ev env 1 rfl ⟨trivial, trivial⟩ ?_
                  refine TL_end ?_
                  refine TE_go ?_
                  refine TC_ret ?_
                  obtain rfl := sinj h0
                  exact TE_ret env rfl trivial trivial
            · refine TL_callB [(1000, 500760)] (weather_New.ok1 hr) weather_New.fnb rfl ⟨trivial, ⟨trivial, ⟨trivial, trivial⟩⟩⟩ rfl trivial rfl ?_
              refine TL_ev env 5 rfl ⟨trivial, ⟨trivial, ⟨trivial, ⟨trivial, ⟨trivial, trivial⟩⟩⟩⟩⟩ ?_
              refine TL_end ?_
              refine TE_go ?_
              refine TC_seq ?_
              refine TC_reg ?_
              refine TL_ev env 8 rfl ⟨trivial, ⟨⟨trivial, trivial⟩, ⟨⟨trivial, ⟨trivial, trivial⟩⟩, ⟨trivial, ⟨⟨trivial, trivial⟩, ⟨⟨trivial, ⟨trivial, trivial⟩⟩, ⟨⟨trivial, ⟨trivial, ⟨trivial, ⟨trivial, trivial⟩⟩⟩⟩, ⟨trivial, trivial⟩⟩⟩⟩⟩⟩⟩⟩ ?_
              obtain ⟨z, hr, h0⟩ := bnd h0
              rcases z with r918 | ⟨⟩
              · refine TL_callB [] (weather_New.ok0 hr) weather_New.fnb rfl ⟨trivial, ⟨trivial, ⟨trivial, trivial⟩⟩⟩ rfl trivial rfl ?_
                refine TL_ev env 5 rfl ⟨trivial, ⟨trivial, ⟨trivial, ⟨trivial, ⟨trivial, trivial⟩⟩⟩⟩⟩ ?_
                refine TL_end ?_
                refine TE_go ?_
                refine TC_seq ?_
                refine TC_seq ?_
                refine TC_reg ?_
                refine TL_ev env 1 rfl ⟨trivial, trivial⟩ ?_
                refine TL_end ?_
                refine TE_go ?_
                obtain ⟨z1, h1, h0⟩ := bnd h0
                refine TC_cut (α := Unit) (fun _ => z1 = .inl ()) (fun _ => []) (fun _ => []) ?_ ?_
                · refine TC_blk ?_
                  refine TC_loop (α := Unit) (fun n _ => psalterylaw32_WeatherEnds.l7 K p5 (kand .i64 p0 65535) (kand .i64 p1 65535) p4 n = some z1) (fun _ => [(2, .int .u8 p5), (14, .p 30200 0), (16, .nilp), (18, .int .i64 0)]) (fun _ => [(30200, some (.cells [.int .i64 (kand .i64 p0 65535), .int .i64 (kand .i64 p1 65535), .int .i64 0, .int .i64 0, .int .u32 p4, .bool false]))]) K ?_ ?_
                  · exact SP_ren [(30200, 500760)] () h1 ⟨rfl, rfl, rfl, rfl, trivial⟩ ⟨rfl, trivial⟩ rfl
                  rintro n ⟨⟩ h1
                  rcases n with _ | n
                  · exact (nsome h1).elim
                  replace h1 : psalterylaw32_WeatherEnds.r7 K p5 (kand .i64 p0 65535) (kand .i64 p1 65535) p4 (psalterylaw32_WeatherEnds.l7 K p5 (kand .i64 p0 65535) (kand .i64 p1 65535) p4 n)  = some z1 := h1
                  refine TC_seq ?_
                  refine TC_seq ?_
                  refine TC_reg ?_
                  refine TL_ev env 4 rfl ⟨trivial, ⟨trivial, ⟨trivial, ⟨⟨trivial, ⟨trivial, trivial⟩⟩, trivial⟩⟩⟩⟩ ?_
                  refine TL_end ?_
                  refine TE_go ?_
                  refine TC_cond rfl (fun hb => ?_) (fun hb => ?_)
                  · replace h1 := bif_t h1 hb
                    refine TC_skip ?_
                    refine TE_go ?_
                    refine TC_seq ?_
                    refine TC_blk ?_
                    refine TC_seq ?_
                    obtain ⟨z2, h2, h1⟩ := bnd h1
                    refine TC_cut (α := Int × Bool) (fun s => z2 = s) (fun s => [(2, .int .u8 p5), (14, .p 30700 0), (16, .nilp), (18, .int .i64 0), (110, .bool true)]) (fun s => [(30700, some (.cells [.int .i64 (kand .i64 p0 65535), .int .i64 (kand .i64 p1 65535), .int .i64 0, .int .i64 0, .int .u32 s.1, .bool s.2]))]) ?_ ?_
                    · refine TC_reg ?_
                      refine TL_ev env 1 rfl ⟨trivial, trivial⟩ ?_
                      obtain ⟨⟨r950, r951, r952⟩, hr, h2⟩ := bnd h2
                      refine TL_callB [(0, 30200)] (weather_Weather_Lost.ok0 hr) weather_Weather_Lost.fnb rfl ⟨trivial, ⟨trivial, trivial⟩⟩ rfl ⟨.inr rfl, trivial⟩ rfl ?_
                      refine TL_ev env 1 rfl ⟨trivial, trivial⟩ ?_
                      refine TL_split 99 rfl (fun hb => ?_) (fun hb => ?_)
                      · replace h2 := bif_t h2 hb
                        refine TL_gf (.bool false) rfl rfl rfl rfl rfl (by decide) ?_
                        refine TL_gf (.bool false) rfl rfl rfl rfl rfl (by decide) ?_
                        refine TL_gf (.bool false) rfl rfl rfl rfl rfl (by decide) ?_
                        refine TL_ev env 2 rfl ⟨⟨trivial, ⟨trivial, fun e => e⟩⟩, ⟨trivial, trivial⟩⟩ ?_
                        refine TL_gf (.bool false) rfl rfl rfl rfl rfl (by decide) ?_
                        refine TL_gf (.bool false) rfl rfl rfl rfl rfl (by decide) ?_
                        refine TL_gf (.bool false) rfl rfl rfl rfl rfl (by decide) ?_
                        refine TL_gf (.bool false) rfl rfl rfl rfl rfl (by decide) ?_
                        refine TL_gf (.bool false) rfl rfl rfl rfl rfl (by decide) ?_
                        refine TL_ev env 1 rfl ⟨⟨trivial, ⟨trivial, fun e => e⟩⟩, trivial⟩ ?_
                        refine TL_end ?_
                        obtain rfl := sinj h2
                        refine tsn ?_
                        exact SP_ren [(30700, 30200)] (_, _) rfl ⟨rfl, rfl, rfl, rfl, rfl, trivial⟩ ⟨rfl, trivial⟩ rfl
                      · replace h2 := bif_f h2 hb
                        refine TL_gt rfl rfl rfl rfl ?_
                        refine TL_ev env 1 rfl ⟨trivial, trivial⟩ ?_
                        refine TL_gt rfl rfl rfl rfl ?_
                        obtain ⟨⟨⟩, hr, h2⟩ := bnd h2
                        refine TL_callB [] (weather_Weather_Lost_2.ok0 hr) weather_Weather_Lost_2.fnb rfl ⟨trivial, ⟨trivial, trivial⟩⟩ rfl trivial rfl ?_
                        refine TL_gt rfl rfl rfl rfl ?_
                        refine TL_ev env 3 rfl ⟨trivial, ⟨⟨trivial, ⟨trivial, trivial⟩⟩, ⟨trivial, trivial⟩⟩⟩ ?_
                        refine TL_gf (.bool false) rfl rfl rfl rfl rfl (by decide) ?_
                        refine TL_gf (.bool false) rfl rfl rfl rfl rfl (by decide) ?_
                        refine TL_gf (.bool false) rfl rfl rfl rfl rfl (by decide) ?_
                        refine TL_gf (.bool false) rfl rfl rfl rfl rfl (by decide) ?_
                        refine TL_gf (.bool false) rfl rfl rfl rfl rfl (by decide) ?_
                        refine TL_ev env 1 rfl ⟨⟨trivial, ⟨trivial, fun e => e⟩⟩, trivial⟩ ?_
                        refine TL_end ?_
                        obtain rfl := sinj h2
                        refine tsn ?_
                        exact SP_ren [(30700, 30200)] (_, _) rfl ⟨rfl, rfl, rfl, rfl, rfl, trivial⟩ ⟨rfl, trivial⟩ rfl
                    · rintro ⟨x948, x949⟩ rfl
                      refine TE_go ?_
                      refine TC_cond rfl (fun hb => ?_) (fun hb => ?_)
                      · refine TC_seq ?_
                        refine TC_reg ?_
                        refine TL_ev env 1 rfl ⟨trivial, trivial⟩ ?_
                        refine TL_end ?_
                        refine TE_go ?_
                        refine TC_ret ?_
                        refine tbr ?_
                        refine tsr ?_
                        refine tsr ?_
                        refine tbr ?_
                        refine tsr ?_
                        refine tsr ?_
                        obtain rfl := sinj h1
                        obtain rfl := sinj h0
                        exact TE_ret env rfl trivial trivial
                      · first | exact (ftf hb).elim | exact (tff hb).elim | exact absurd hb (by decide)
                  · replace h1 := bif_f h1 hb
                    refine TC_exit ?_
                    refine tsx ?_
                    refine tsx ?_
                    refine tbe ?_
                    obtain rfl := sinj h1
                    refine tsn ?_
                    exact SP_ren [] () rfl trivial trivial rfl
                · rintro ⟨⟩ rfl
                  refine TE_go ?_
                  refine TC_seq ?_
                  refine TC_reg ?_
                  refine TL_ev env 1 rfl ⟨trivial, trivial⟩ ?_
                  refine TL_end ?_
                  refine TE_go ?_
                  refine TC_ret ?_
                  obtain rfl := sinj h0
                  exact TE_ret env rfl trivial trivial
              · refine TL_callB [(1000, 500880)] (weather_New.ok1 hr) weather_New.fnb rfl ⟨trivial, ⟨trivial, ⟨trivial, trivial⟩⟩⟩ rfl trivial rfl ?_
                refine TL_ev env 5 rfl ⟨trivial, ⟨trivial, ⟨trivial, ⟨trivial, ⟨trivial, trivial⟩⟩⟩⟩⟩ ?_
                refine TL_end ?_
                refine TE_go ?_
                refine TC_seq ?_
                refine TC_seq ?_
                refine TC_reg ?_
                refine TL_ev env 1 rfl ⟨trivial, trivial⟩ ?_
                refine TL_end ?_
                refine TE_go ?_
                obtain ⟨z1, h1, h0⟩ := bnd h0
                refine TC_cut (α := Unit) (fun _ => z1 = .inl ()) (fun _ => []) (fun _ => []) ?_ ?_
                · refine TC_blk ?_
                  refine TC_loop (α := Int × Int × Bool × Int × Bool) (fun n s => psalterylaw32_WeatherEnds.l8 K p5 (kand .i64 p0 65535) (kand .i64 p1 65535) n s.1 s.2.1 s.2.2.1 s.2.2.2.1 s.2.2.2.2 = some z1) (fun s => [(2, .int .u8 p5), (14, .p 31900 0), (16, .p 31901 0), (18, .int .i64 s.1)]) (fun s => [(31900, some (.cells [.int .i64 (kand .i64 p0 65535), .int .i64 (kand .i64 p1 65535), .int .i64 0, .int .i64 0, .int .u32 s.2.1, .bool s.2.2.1])), (31901, some (.cells [.int .i64 (kand .i64 p0 65535), .int .i64 (kand .i64 p1 65535), .int .i64 65536, .int .i64 65536, .int .u32 s.2.2.2.1, .bool s.2.2.2.2]))]) K ?_ ?_
                  · exact SP_ren [(31900, 500760), (31901, 500880)] (_, _, _, _, _) h1 ⟨rfl, rfl, rfl, rfl, trivial⟩ ⟨rfl, rfl, trivial⟩ rfl
                  rintro n ⟨x1041, x1042, x1043, x1044, x1045⟩ h1
                  rcases n with _ | n
                  · exact (nsome h1).elim
                  replace h1 : psalterylaw32_WeatherEnds.r8 K p5 (kand .i64 p0 65535) (kand .i64 p1 65535) (psalterylaw32_WeatherEnds.l8 K p5 (kand .i64 p0 65535) (kand .i64 p1 65535) n) x1041 x1042 x1043 x1044 x1045 = some z1 := h1
                  refine TC_seq ?_
                  refine TC_seq ?_
                  refine TC_reg ?_
                  refine TL_ev env 4 rfl ⟨trivial, ⟨trivial, ⟨trivial, ⟨⟨trivial, ⟨trivial, trivial⟩⟩, trivial⟩⟩⟩⟩ ?_
                  refine TL_end ?_
                  refine TE_go ?_
                  refine TC_cond rfl (fun hb => ?_) (fun hb => ?_)
                  · replace h1 := bif_t h1 hb
                    refine TC_skip ?_
                    refine TE_go ?_
                    refine TC_seq ?_
                    refine TC_blk ?_
                    refine TC_seq ?_
                    obtain ⟨z2, h2, h1⟩ := bnd h1
                    refine TC_cut (α := Bool × Int × Bool × Int × Bool) (fun s => z2 = s) (fun s => [(2, .int .u8 p5), (14, .p 32400 0), (16, .p 32401 0), (18, .int .i64 x1041), (110, .bool s.1)]) (fun s => [(32400, some (.cells [.int .i64 (kand .i64 p0 65535), .int .i64 (kand .i64 p1 65535), .int .i64 0, .int .i64 0, .int .u32 s.2.1, .bool s.2.2.1])), (32401, some (.cells [.int .i64 (kand .i64 p0 65535), .int .i64 (kand .i64 p1 65535), .int .i64 65536, .int .i64 65536, .int .u32 s.2.2.2.1, .bool s.2.2.2.2]))]) ?_ ?_
                    · refine TC_reg ?_
                      refine TL_ev env 1 rfl ⟨trivial, trivial⟩ ?_
                      obtain ⟨⟨r1105, r1106, r1107⟩, hr, h2⟩ := bnd h2
                      refine TL_callB [(0, 31900)] (weather_Weather_Lost.ok0 hr) weather_Weather_Lost.fnb rfl ⟨trivial, ⟨trivial, trivial⟩⟩ rfl ⟨.inr rfl, trivial⟩ rfl ?_
                      refine TL_ev env 1 rfl ⟨trivial, trivial⟩ ?_
                      refine TL_split 99 rfl (fun hb => ?_) (fun hb => ?_)
                      · replace h2 := bif_t h2 hb
                        refine TL_gf (.bool false) rfl rfl rfl rfl rfl (by decide) ?_
                        refine TL_gf (.bool false) rfl rfl rfl rfl rfl (by decide) ?_
                        refine TL_gf (.bool false) rfl rfl rfl rfl rfl (by decide) ?_
                        refine TL_ev env 2 rfl ⟨⟨trivial, ⟨trivial, fun e => e⟩⟩, ⟨trivial, trivial⟩⟩ ?_
                        refine TL_gf (.bool false) rfl rfl rfl rfl rfl (by decide) ?_
                        refine TL_gf (.bool false) rfl rfl rfl rfl rfl (by decide) ?_
                        refine TL_gf (.bool false) rfl rfl rfl rfl rfl (by decide) ?_
                        refine TL_gf (.bool false) rfl rfl rfl rfl rfl (by decide) ?_
                        refine TL_gf (.bool false) rfl rfl rfl rfl rfl (by decide) ?_
                        refine TL_ev env 1 rfl ⟨⟨trivial, ⟨trivial, fun e => e⟩⟩, trivial⟩ ?_
                        refine TL_end ?_
                        obtain rfl := sinj h2
                        refine tsn ?_
                        exact SP_ren [(32400, 31900), (32401, 31901)] (_, _, _, _, _) rfl ⟨rfl, rfl, rfl, rfl, rfl, trivial⟩ ⟨rfl, rfl, trivial⟩ rfl
                      · replace h2 := bif_f h2 hb
                        refine TL_gt rfl rfl rfl rfl ?_
                        refine TL_ev env 1 rfl ⟨trivial, trivial⟩ ?_
                        refine TL_gt rfl rfl rfl rfl ?_
                        obtain ⟨⟨r1108, r1109, r1110⟩, hr, h2⟩ := bnd h2
                        refine TL_callB [(0, 31901)] (weather_Weather_Lost.ok0 hr) weather_Weather_Lost.fnb rfl ⟨trivial, ⟨trivial, trivial⟩⟩ rfl ⟨.inr rfl, trivial⟩ rfl ?_
                        refine TL_gt rfl rfl rfl rfl ?_
                        refine TL_ev env 3 rfl ⟨trivial, ⟨⟨trivial, ⟨trivial, trivial⟩⟩, ⟨trivial, trivial⟩⟩⟩ ?_
                        refine TL_split 104 rfl (fun hb => ?_) (fun hb => ?_)
                        · replace h2 := bif_t h2 hb
                          refine TL_gf (.bool false) rfl rfl rfl rfl rfl (by decide) ?_
                          refine TL_gf (.bool false) rfl rfl rfl rfl rfl (by decide) ?_
                          refine TL_gf (.bool false) rfl rfl rfl rfl rfl (by decide) ?_
                          refine TL_gf (.bool false) rfl rfl rfl rfl rfl (by decide) ?_
                          refine TL_gf (.bool false) rfl rfl rfl rfl rfl (by decide) ?_
                          refine TL_ev env 1 rfl ⟨⟨trivial, ⟨trivial, fun e => e⟩⟩, trivial⟩ ?_
                          refine TL_end ?_
                          obtain rfl := sinj h2
                          refine tsn ?_
                          exact SP_ren [(32400, 31900), (32401, 31901)] (_, _, _, _, _) rfl ⟨rfl, rfl, rfl, rfl, rfl, trivial⟩ ⟨rfl, rfl, trivial⟩ rfl
                        · replace h2 := bif_f h2 hb
                          refine TL_gt rfl rfl rfl rfl ?_
                          refine TL_ev env 1 rfl ⟨trivial, trivial⟩ ?_
                          refine TL_gt rfl rfl rfl rfl ?_
                          obtain ⟨r1111, hr, h2⟩ := bnd h2
                          refine TL_callB [(0, 31900)] (weather_Weather_Fair.ok0 hr) weather_Weather_Fair.fnb rfl ⟨trivial, ⟨trivial, trivial⟩⟩ rfl ⟨.inr rfl, trivial⟩ rfl ?_
                          refine TL_gt rfl rfl rfl rfl ?_
                          refine TL_ev env 1 rfl ⟨trivial, trivial⟩ ?_
                          refine TL_gt rfl rfl rfl rfl ?_
                          obtain ⟨r1112, hr, h2⟩ := bnd h2
                          refine TL_callB [(0, 31901)] (weather_Weather_Fair.ok0 hr) weather_Weather_Fair.fnb rfl ⟨trivial, ⟨trivial, trivial⟩⟩ rfl ⟨.inr rfl, trivial⟩ rfl ?_
                          refine TL_gt rfl rfl rfl rfl ?_
                          refine TL_ev env 2 rfl ⟨⟨trivial, ⟨trivial, trivial⟩⟩, ⟨⟨trivial, ⟨trivial, trivial⟩⟩, trivial⟩⟩ ?_
                          refine TL_end ?_
                          obtain rfl := sinj h2
                          refine tsn ?_
                          exact SP_ren [(32400, 31900), (32401, 31901)] (_, _, _, _, _) rfl ⟨rfl, rfl, rfl, rfl, rfl, trivial⟩ ⟨rfl, rfl, trivial⟩ rfl
                    · rintro ⟨x1099, x1100, x1101, x1102, x1103⟩ rfl
                      refine TE_go ?_
                      refine TC_cond rfl (fun hb => ?_) (fun hb => ?_)
                      · replace h1 := bif_t h1 hb
                        refine TC_seq ?_
                        refine TC_reg ?_
                        refine TL_ev env 1 rfl ⟨trivial, trivial⟩ ?_
                        refine TL_end ?_
                        refine TE_go ?_
                        refine TC_ret ?_
                        refine tbr ?_
                        refine tsr ?_
                        refine tsr ?_
                        refine tbr ?_
                        refine tsr ?_
                        refine tsr ?_
                        obtain rfl := sinj h1
                        obtain rfl := sinj h0
                        exact TE_ret env rfl trivial trivial
                      · replace h1 := bif_f h1 hb
                        refine TC_skip ?_
                        refine tbn ?_
                        refine TE_go ?_
                        refine TC_reg ?_
                        refine TL_ev env 3 rfl ⟨trivial, ⟨⟨trivial, ⟨trivial, trivial⟩⟩, ⟨trivial, trivial⟩⟩⟩ ?_
                        refine TL_end ?_
                        refine tsn ?_
                        exact TE_nextr [(31900, 32400), (31901, 32401)] n (Nat.lt_succ_self n) (_, _, _, _, _) h1 ⟨rfl, rfl, rfl, rfl, trivial⟩ ⟨rfl, rfl, trivial⟩ rfl
                  · replace h1 := bif_f h1 hb
                    refine TC_exit ?_
                    refine tsx ?_
                    refine tsx ?_
                    refine tbe ?_
                    obtain rfl := sinj h1
                    refine tsn ?_
                    exact SP_ren [] () rfl trivial trivial rfl
                · rintro ⟨⟩ rfl
                  refine TE_go ?_
                  refine TC_seq ?_
                  refine TC_reg ?_
                  refine TL_ev env 1 rfl ⟨trivial, trivial⟩ ?_
                  refine TL_end ?_
                  refine TE_go ?_
                  refine TC_ret ?_
                  obtain rfl := sinj h0
                  exact TE_ret env rfl trivial trivial
    · refine TL_callB [(1000, 500240)] (weather_New.ok1 hr) weather_New.fnb rfl ⟨trivial, ⟨trivial, ⟨trivial, trivial⟩⟩⟩ rfl trivial rfl ?_
      refine TL_ev env 5 rfl ⟨trivial, ⟨trivial, ⟨trivial, ⟨trivial, ⟨trivial, trivial⟩⟩⟩⟩⟩ ?_
      refine TL_end ?_
      refine TE_go ?_
      refine TC_seq ?_
      refine TC_reg ?_
      refine TL_ev env 2 rfl ⟨⟨trivial, trivial⟩, ⟨trivial, trivial⟩⟩ ?_
      obtain ⟨z, hr, h0⟩ := bnd h0
      rcases z with r1117 | ⟨⟩
      · refine TL_callB [] (weather_New.ok0 hr) weather_New.fnb rfl ⟨trivial, ⟨trivial, ⟨trivial, trivial⟩⟩⟩ rfl trivial rfl ?_
        refine TL_ev env 5 rfl ⟨trivial, ⟨trivial, ⟨trivial, ⟨trivial, ⟨trivial, trivial⟩⟩⟩⟩⟩ ?_
        refine TL_end ?_
        refine TE_go ?_
        refine TC_seq ?_
        refine TC_seq ?_
        refine TC_reg ?_
        refine TL_ev env 3 rfl ⟨trivial, ⟨trivial, ⟨⟨trivial, ⟨trivial, trivial⟩⟩, trivial⟩⟩⟩ ?_
        refine TL_end ?_
        refine TE_go ?_
        refine TC_cond rfl (fun hb => ?_) (fun hb => ?_)
        · replace h0 := bif_t h0 hb
          refine TC_seq ?_
          refine TC_reg ?_
          refine TL_ev env 1 rfl ⟨trivial, trivial⟩ ?_
          refine TL_end ?_
          refine TE_go ?_
          refine TC_ret ?_
          refine tsr ?_
          obtain rfl := sinj h0
          exact TE_ret env rfl trivial trivial
        · replace h0 := bif_f h0 hb
          refine TC_skip ?_
          refine TE_go ?_
          refine TC_seq ?_
          refine TC_seq ?_
          refine TC_reg ?_
          refine TL_ev env 2 rfl ⟨trivial, ⟨⟨trivial, ⟨trivial, trivial⟩⟩, trivial⟩⟩ ?_
          refine TL_end ?_
          refine TE_go ?_
          refine TC_cond rfl (fun hb => ?_) (fun hb => ?_)
          · refine TC_seq ?_
            refine TC_reg ?_
            refine TL_ev env 3 rfl ⟨trivial, ⟨trivial, ⟨trivial, trivial⟩⟩⟩ ?_
            obtain ⟨⟨r1118, r1119, r1120⟩, hr, h0⟩ := bnd h0
            refine TL_callB [(0, 500240)] (weather_Weather_Row_2.ok0 hr) weather_Weather_Row_2.fnb rfl ⟨trivial, ⟨trivial, ⟨trivial, trivial⟩⟩⟩ rfl ⟨.inr rfl, trivial⟩ rfl ?_
            refine TL_ev env 3 rfl ⟨trivial, ⟨trivial, ⟨trivial, trivial⟩⟩⟩ ?_
            obtain ⟨⟨⟩, hr, h0⟩ := bnd h0
            refine TL_callB [] (weather_Weather_Row.ok0 hr) weather_Weather_Row.fnb rfl ⟨trivial, ⟨trivial, ⟨trivial, trivial⟩⟩⟩ rfl trivial rfl ?_
            refine TL_ev env 2 rfl ⟨trivial, ⟨trivial, trivial⟩⟩ ?_
            refine TL_end ?_
            refine TE_go ?_
            refine TC_seq ?_
            refine TC_reg ?_
            refine TL_ev env 1 rfl ⟨trivial, trivial⟩ ?_
            refine TL_end ?_
            refine TE_go ?_
            obtain ⟨z1, h1, h0⟩ := bnd h0
            refine TC_cut (α := Unit) (fun _ => z1 = ()) (fun _ => [(1, .int .u32 p4), (2, .int .u8 p5), (3, .p 33200 0)]) (fun _ => [(33200, some (.cells [.int .i64 p0, .int .i64 p1, .int .i64 p2, .int .i64 p3]))]) ?_ ?_
            · refine TC_blk ?_
              refine TC_loop (α := Unit) (fun n _ => psalterylaw32_WeatherEnds.l14 K p4 p5 r1118 p0 p1 p2 p3 n = some z1) (fun _ => [(1, .int .u32 p4), (2, .int .u8 p5), (3, .p 38300 0), (11, .im (.slice (.pair (.int .i64) (.pair (.int .i64) (.pair (.int .i64) (.int .u32))))) r1118), (12, .nils), (13, .int .i64 0)]) (fun _ => [(38300, some (.cells [.int .i64 p0, .int .i64 p1, .int .i64 p2, .int .i64 p3]))]) K ?_ ?_
              · exact SP_ren [(38300, 1003)] () h1 ⟨rfl, rfl, rfl, rfl, rfl, rfl, trivial⟩ ⟨rfl, trivial⟩ rfl
              rintro n ⟨⟩ h1
              rcases n with _ | n
              · exact (nsome h1).elim
              replace h1 : psalterylaw32_WeatherEnds.r14 K p4 p5 r1118 p0 p1 p2 p3 (psalterylaw32_WeatherEnds.l14 K p4 p5 r1118 p0 p1 p2 p3 n)  = some z1 := h1
              refine TC_seq ?_
              refine TC_seq ?_
              refine TC_reg ?_
              refine TL_ev env 4 rfl ⟨trivial, ⟨trivial, ⟨⟨trivial, trivial⟩, ⟨⟨trivial, ⟨trivial, trivial⟩⟩, trivial⟩⟩⟩⟩ ?_
              refine TL_end ?_
              refine TE_go ?_
              refine TC_cond rfl (fun hb => ?_) (fun hb => ?_)
              · replace h1 := bif_t h1 hb
                refine TC_skip ?_
                refine TE_go ?_
                refine TC_seq ?_
                refine TC_blk ?_
                refine TC_seq ?_
                refine TC_renw (A' := [(1, .int .u32 _), (2, .int .u8 _), (3, .p 38300 0), (11, .im (.slice (.pair (.int .i64) (.pair (.int .i64) (.pair (.int .i64) (.int .u32))))) _), (12, .nils), (13, .int .i64 0)]) (L' := [(38300, some (.cells [.int .i64 _, .int .i64 _, .int .i64 _, .int .i64 _]))]) [] ⟨rfl, rfl, rfl, rfl, rfl, rfl, trivial⟩ ⟨rfl, trivial⟩ rfl ?_
                refine TC_drawR ⟨_, fun i => ([[], [], [1], [2, 1, 0], [3, 2, 1, 0], [4, 3, 2, 1, 0], [4, 3, 2, 1, 0], [6, 5, 4, 3, 2, 1, 0], [7, 6, 5, 4, 3, 2, 1, 0], [4, 3, 2, 1, 0], [4, 3, 2, 1, 0], [10, 9, 4, 3, 2, 1, 0], [11, 10, 9, 4, 3, 2, 1, 0], [12, 11, 10, 9, 8, 7, 6, 5, 4, 3, 2, 1, 0], [13, 12, 11, 10, 9, 8, 7, 6, 5, 4, 3, 2, 1, 0]] : List (List Nat)).getD i [], fun i => ([[], [], [], [], [], [], [], [], [], [], [], [], [], [], []] : List (List Nat)).getD i [], fun i => ([[], [], [], [], [], [], [], [], [], [], [], [], [], [], []] : List (List Nat)).getD i []⟩ (fun i => ([[], [], [], [], [], [], [], [], [], [], [], [], [], [], []] : List (List Nat)).getD i []) rfl rfl ?_
                obtain ⟨g, h1⟩ := gd_t h1
                exact (nsome h1).elim
              · replace h1 := bif_f h1 hb
                refine TC_exit ?_
                refine tsx ?_
                refine tsx ?_
                refine tbe ?_
                obtain rfl := sinj h1
                refine tsn ?_
                exact SP_ren [(33200, 38300)] () rfl ⟨rfl, rfl, rfl, trivial⟩ ⟨rfl, trivial⟩ rfl
            · rintro ⟨⟩ rfl
              refine TE_go ?_
              refine TC_seq ?_
              refine TC_reg ?_
              refine TL_ev env 8 rfl ⟨trivial, ⟨⟨trivial, trivial⟩, ⟨⟨trivial, ⟨trivial, trivial⟩⟩, ⟨trivial, ⟨⟨trivial, trivial⟩, ⟨⟨trivial, ⟨trivial, trivial⟩⟩, ⟨⟨trivial, ⟨trivial, trivial⟩⟩, ⟨trivial, trivial⟩⟩⟩⟩⟩⟩⟩⟩ ?_
              obtain ⟨z, hr, h0⟩ := bnd h0
              rcases z with r1123 | ⟨⟩
              · refine TL_callB [] (weather_New.ok0 hr) weather_New.fnb rfl ⟨trivial, ⟨trivial, ⟨trivial, trivial⟩⟩⟩ rfl trivial rfl ?_
                refine TL_ev env 5 rfl ⟨trivial, ⟨trivial, ⟨trivial, ⟨trivial, ⟨trivial, trivial⟩⟩⟩⟩⟩ ?_
                refine TL_end ?_
                refine TE_go ?_
                refine TC_seq ?_
                refine TC_reg ?_
                refine TL_ev env 8 rfl ⟨trivial, ⟨⟨trivial, trivial⟩, ⟨⟨trivial, ⟨trivial, trivial⟩⟩, ⟨trivial, ⟨⟨trivial, trivial⟩, ⟨⟨trivial, ⟨trivial, trivial⟩⟩, ⟨⟨trivial, ⟨trivial, ⟨trivial, ⟨trivial, trivial⟩⟩⟩⟩, ⟨trivial, trivial⟩⟩⟩⟩⟩⟩⟩⟩ ?_
                obtain ⟨z, hr, h0⟩ := bnd h0
                rcases z with r1124 | ⟨⟩
                · refine TL_callB [] (weather_New.ok0 hr) weather_New.fnb rfl ⟨trivial, ⟨trivial, ⟨trivial, trivial⟩⟩⟩ rfl trivial rfl ?_
                  refine TL_ev env 5 rfl ⟨trivial, ⟨trivial, ⟨trivial, ⟨trivial, ⟨trivial, trivial⟩⟩⟩⟩⟩ ?_
                  refine TL_end ?_
                  refine TE_go ?_
                  refine TC_seq ?_
                  refine TC_seq ?_
                  refine TC_reg ?_
                  refine TL_ev env 1 rfl ⟨trivial, trivial⟩ ?_
                  refine TL_end ?_
                  refine TE_go ?_
                  obtain ⟨z1, h1, h0⟩ := bnd h0
                  refine TC_cut (α := Unit) (fun _ => z1 = .inl ()) (fun _ => []) (fun _ => []) ?_ ?_
                  · refine TC_blk ?_
                    refine TC_loop (α := Unit) (fun n _ => psalterylaw32_WeatherEnds.l10 K p5 n = some z1) (fun _ => [(2, .int .u8 p5), (14, .nilp), (16, .nilp), (18, .int .i64 0)]) (fun _ => []) K ?_ ?_
                    · exact SP_ren [] () h1 ⟨rfl, rfl, rfl, rfl, trivial⟩ trivial rfl
                    rintro n ⟨⟩ h1
                    rcases n with _ | n
                    · exact (nsome h1).elim
                    replace h1 : psalterylaw32_WeatherEnds.r10 K p5 (psalterylaw32_WeatherEnds.l10 K p5 n)  = some z1 := h1
                    refine TC_seq ?_
                    refine TC_seq ?_
                    refine TC_reg ?_
                    refine TL_ev env 4 rfl ⟨trivial, ⟨trivial, ⟨trivial, ⟨⟨trivial, ⟨trivial, trivial⟩⟩, trivial⟩⟩⟩⟩ ?_
                    refine TL_end ?_
                    refine TE_go ?_
                    refine TC_cond rfl (fun hb => ?_) (fun hb => ?_)
                    · replace h1 := bif_t h1 hb
                      refine TC_skip ?_
                      refine TE_go ?_
                      refine TC_seq ?_
                      refine TC_blk ?_
                      refine TC_seq ?_
                      refine TC_reg ?_
                      refine TL_ev env 1 rfl ⟨trivial, trivial⟩ ?_
                      obtain ⟨⟨⟩, hr, h1⟩ := bnd h1
                      refine TL_callB [] (weather_Weather_Lost_2.ok0 hr) weather_Weather_Lost_2.fnb rfl ⟨trivial, ⟨trivial, trivial⟩⟩ rfl trivial rfl ?_
                      refine TL_ev env 1 rfl ⟨trivial, trivial⟩ ?_
                      refine TL_gt rfl rfl rfl rfl ?_
                      refine TL_ev env 1 rfl ⟨trivial, trivial⟩ ?_
                      refine TL_gt rfl rfl rfl rfl ?_
                      obtain ⟨⟨⟩, hr, h1⟩ := bnd h1
                      refine TL_callB [] (weather_Weather_Lost_2.ok0 hr) weather_Weather_Lost_2.fnb rfl ⟨trivial, ⟨trivial, trivial⟩⟩ rfl trivial rfl ?_
                      refine TL_gt rfl rfl rfl rfl ?_
                      refine TL_ev env 3 rfl ⟨trivial, ⟨⟨trivial, ⟨trivial, trivial⟩⟩, ⟨trivial, trivial⟩⟩⟩ ?_
                      refine TL_gf (.bool false) rfl rfl rfl rfl rfl (by decide) ?_
                      refine TL_gf (.bool false) rfl rfl rfl rfl rfl (by decide) ?_
                      refine TL_gf (.bool false) rfl rfl rfl rfl rfl (by decide) ?_
                      refine TL_gf (.bool false) rfl rfl rfl rfl rfl (by decide) ?_
                      refine TL_gf (.bool false) rfl rfl rfl rfl rfl (by decide) ?_
                      refine TL_ev env 1 rfl ⟨⟨trivial, ⟨trivial, fun e => e⟩⟩, trivial⟩ ?_
                      refine TL_end ?_
                      refine TE_go ?_
                      refine TC_cond rfl (fun hb => ?_) (fun hb => ?_)
                      · refine TC_seq ?_
                        refine TC_reg ?_
                        refine TL_ev env 1 rfl ⟨trivial, trivial⟩ ?_
                        refine TL_end ?_
                        refine TE_go ?_
                        refine TC_ret ?_
                        refine tbr ?_
                        refine tsr ?_
                        refine tsr ?_
                        refine tbr ?_
                        refine tsr ?_
                        refine tsr ?_
                        obtain rfl := sinj h1
                        obtain rfl := sinj h0
                        exact TE_ret env rfl trivial trivial
                      · first | exact (ftf hb).elim | exact (tff hb).elim | exact absurd hb (by decide)
                    · replace h1 := bif_f h1 hb
                      refine TC_exit ?_
                      refine tsx ?_
                      refine tsx ?_
                      refine tbe ?_
                      obtain rfl := sinj h1
                      refine tsn ?_
                      exact SP_ren [] () rfl trivial trivial rfl
                  · rintro ⟨⟩ rfl
                    refine TE_go ?_
                    refine TC_seq ?_
                    refine TC_reg ?_
                    refine TL_ev env 1 rfl ⟨trivial, trivial⟩ ?_
                    refine TL_end ?_
                    refine TE_go ?_
                    refine TC_ret ?_
                    obtain rfl := sinj h0
                    exact TE_ret env rfl trivial trivial
                · refine TL_callB [(1000, 500880)] (weather_New.ok1 hr) weather_New.fnb rfl ⟨trivial, ⟨trivial, ⟨trivial, trivial⟩⟩⟩ rfl trivial rfl ?_
                  refine TL_ev env 5 rfl ⟨trivial, ⟨trivial, ⟨trivial, ⟨trivial, ⟨trivial, trivial⟩⟩⟩⟩⟩ ?_
                  refine TL_end ?_
                  refine TE_go ?_
                  refine TC_seq ?_
                  refine TC_seq ?_
                  refine TC_reg ?_
                  refine TL_ev env 1 rfl ⟨trivial, trivial⟩ ?_
                  refine TL_end ?_
                  refine TE_go ?_
                  obtain ⟨z1, h1, h0⟩ := bnd h0
                  refine TC_cut (α := Unit) (fun _ => z1 = .inl ()) (fun _ => []) (fun _ => []) ?_ ?_
                  · refine TC_blk ?_
                    refine TC_loop (α := Int × Int × Bool) (fun n s => psalterylaw32_WeatherEnds.l11 K p5 (kand .i64 p0 65535) (kand .i64 p1 65535) n s.1 s.2.1 s.2.2 = some z1) (fun s => [(2, .int .u8 p5), (14, .nilp), (16, .p 34900 0), (18, .int .i64 s.1)]) (fun s => [(34900, some (.cells [.int .i64 (kand .i64 p0 65535), .int .i64 (kand .i64 p1 65535), .int .i64 65536, .int .i64 65536, .int .u32 s.2.1, .bool s.2.2]))]) K ?_ ?_
                    · exact SP_ren [(34900, 500880)] (_, _, _) h1 ⟨rfl, rfl, rfl, rfl, trivial⟩ ⟨rfl, trivial⟩ rfl
                    rintro n ⟨x1186, x1187, x1188⟩ h1
                    rcases n with _ | n
                    · exact (nsome h1).elim
                    replace h1 : psalterylaw32_WeatherEnds.r11 K p5 (kand .i64 p0 65535) (kand .i64 p1 65535) (psalterylaw32_WeatherEnds.l11 K p5 (kand .i64 p0 65535) (kand .i64 p1 65535) n) x1186 x1187 x1188 = some z1 := h1
                    refine TC_seq ?_
                    refine TC_seq ?_
                    refine TC_reg ?_
                    refine TL_ev env 4 rfl ⟨trivial, ⟨trivial, ⟨trivial, ⟨⟨trivial, ⟨trivial, trivial⟩⟩, trivial⟩⟩⟩⟩ ?_
                    refine TL_end ?_
                    refine TE_go ?_
                    refine TC_cond rfl (fun hb => ?_) (fun hb => ?_)
                    · replace h1 := bif_t h1 hb
                      refine TC_skip ?_
                      refine TE_go ?_
                      refine TC_seq ?_
                      refine TC_blk ?_
                      refine TC_seq ?_
                      obtain ⟨z2, h2, h1⟩ := bnd h1
                      refine TC_cut (α := Bool × Bool × Bool × Int × Bool) (fun s => z2 = s) (fun s => [(2, .int .u8 p5), (14, .nilp), (16, .p 35400 0), (18, .int .i64 x1186), (100, .p 35400 0), (101, .bool s.1), (102, .bool s.2.1), (110, .bool s.2.2.1)]) (fun s => [(35400, some (.cells [.int .i64 (kand .i64 p0 65535), .int .i64 (kand .i64 p1 65535), .int .i64 65536, .int .i64 65536, .int .u32 s.2.2.2.1, .bool s.2.2.2.2]))]) ?_ ?_
                      · refine TC_reg ?_
                        refine TL_ev env 1 rfl ⟨trivial, trivial⟩ ?_
                        obtain ⟨⟨⟩, hr, h2⟩ := bnd h2
                        refine TL_callB [] (weather_Weather_Lost_2.ok0 hr) weather_Weather_Lost_2.fnb rfl ⟨trivial, ⟨trivial, trivial⟩⟩ rfl trivial rfl ?_
                        refine TL_ev env 1 rfl ⟨trivial, trivial⟩ ?_
                        refine TL_gt rfl rfl rfl rfl ?_
                        refine TL_ev env 1 rfl ⟨trivial, trivial⟩ ?_
                        refine TL_gt rfl rfl rfl rfl ?_
                        obtain ⟨⟨r1230, r1231, r1232⟩, hr, h2⟩ := bnd h2
                        refine TL_callB [(0, 34900)] (weather_Weather_Lost.ok0 hr) weather_Weather_Lost.fnb rfl ⟨trivial, ⟨trivial, trivial⟩⟩ rfl ⟨.inr rfl, trivial⟩ rfl ?_
                        refine TL_gt rfl rfl rfl rfl ?_
                        refine TL_ev env 3 rfl ⟨trivial, ⟨⟨trivial, ⟨trivial, trivial⟩⟩, ⟨trivial, trivial⟩⟩⟩ ?_
                        refine TL_split 104 rfl (fun hb => ?_) (fun hb => ?_)
                        · replace h2 := bif_t h2 hb
                          refine TL_gf (.bool false) rfl rfl rfl rfl rfl (by decide) ?_
                          refine TL_gf (.bool false) rfl rfl rfl rfl rfl (by decide) ?_
                          refine TL_gf (.bool false) rfl rfl rfl rfl rfl (by decide) ?_
                          refine TL_gf (.bool false) rfl rfl rfl rfl rfl (by decide) ?_
                          refine TL_gf (.bool false) rfl rfl rfl rfl rfl (by decide) ?_
                          refine TL_ev env 1 rfl ⟨⟨trivial, ⟨trivial, fun e => e⟩⟩, trivial⟩ ?_
                          refine TL_end ?_
                          obtain rfl := sinj h2
                          refine tsn ?_
                          exact SP_ren [(35400, 34900)] (_, _, _, _, _) rfl ⟨rfl, rfl, rfl, rfl, rfl, rfl, rfl, rfl, trivial⟩ ⟨rfl, trivial⟩ rfl
                        · replace h2 := bif_f h2 hb
                          refine TL_gt rfl rfl rfl rfl ?_
                          refine TL_ev env 1 rfl ⟨trivial, trivial⟩ ?_
                          refine TL_gt rfl rfl rfl rfl ?_
                          obtain ⟨⟨⟩, hr, h2⟩ := bnd h2
                          refine TL_callB [] (weather_Weather_Fair_2.ok0 hr) weather_Weather_Fair_2.fnb rfl ⟨trivial, ⟨trivial, trivial⟩⟩ rfl trivial rfl ?_
                          refine TL_gt rfl rfl rfl rfl ?_
                          refine TL_ev env 1 rfl ⟨trivial, trivial⟩ ?_
                          refine TL_gt rfl rfl rfl rfl ?_
                          obtain ⟨r1233, hr, h2⟩ := bnd h2
                          refine TL_callB [(0, 34900)] (weather_Weather_Fair.ok0 hr) weather_Weather_Fair.fnb rfl ⟨trivial, ⟨trivial, trivial⟩⟩ rfl ⟨.inr rfl, trivial⟩ rfl ?_
                          refine TL_gt rfl rfl rfl rfl ?_
                          refine TL_ev env 2 rfl ⟨⟨trivial, ⟨trivial, trivial⟩⟩, ⟨⟨trivial, ⟨trivial, trivial⟩⟩, trivial⟩⟩ ?_
                          refine TL_end ?_
                          obtain rfl := sinj h2
                          refine tsn ?_
                          exact SP_ren [(35400, 34900)] (_, _, _, _, _) rfl ⟨rfl, rfl, rfl, rfl, rfl, rfl, rfl, rfl, trivial⟩ ⟨rfl, trivial⟩ rfl
                      · rintro ⟨x1224, x1225, x1226, x1227, x1228⟩ rfl
                        refine TE_go ?_
                        refine TC_cond rfl (fun hb => ?_) (fun hb => ?_)
                        · replace h1 := bif_t h1 hb
                          refine TC_seq ?_
                          refine TC_reg ?_
                          refine TL_ev env 1 rfl ⟨trivial, trivial⟩ ?_
                          refine TL_end ?_
                          refine TE_go ?_
                          refine TC_ret ?_
                          refine tbr ?_
                          refine tsr ?_
                          refine tsr ?_
                          refine tbr ?_
                          refine tsr ?_
                          refine tsr ?_
                          obtain rfl := sinj h1
                          obtain rfl := sinj h0
                          exact TE_ret env rfl trivial trivial
                        · replace h1 := bif_f h1 hb
                          refine TC_skip ?_
                          refine tbn ?_
                          refine TE_go ?_
                          refine TC_reg ?_
                          refine TL_ev env 3 rfl ⟨trivial, ⟨⟨trivial, ⟨trivial, trivial⟩⟩, ⟨trivial, trivial⟩⟩⟩ ?_
                          refine TL_end ?_
                          refine tsn ?_
                          exact TE_nextr [(34900, 35400)] n (Nat.lt_succ_self n) (_, _, _) h1 ⟨rfl, rfl, rfl, rfl, trivial⟩ ⟨rfl, trivial⟩ rfl
                    · replace h1 := bif_f h1 hb
                      refine TC_exit ?_
                      refine tsx ?_
                      refine tsx ?_
                      refine tbe ?_
                      obtain rfl := sinj h1
                      refine tsn ?_
                      exact SP_ren [] () rfl trivial trivial rfl
                  · rintro ⟨⟩ rfl
                    refine TE_go ?_
                    refine TC_seq ?_
                    refine TC_reg ?_
                    refine TL_ev env 1 rfl ⟨trivial, trivial⟩ ?_
                    refine TL_end ?_
                    refine TE_go ?_
                    refine TC_ret ?_
                    obtain rfl := sinj h0
                    exact TE_ret env rfl trivial trivial
              · refine TL_callB [(1000, 500760)] (weather_New.ok1 hr) weather_New.fnb rfl ⟨trivial, ⟨trivial, ⟨trivial, trivial⟩⟩⟩ rfl trivial rfl ?_
                refine TL_ev env 5 rfl ⟨trivial, ⟨trivial, ⟨trivial, ⟨trivial, ⟨trivial, trivial⟩⟩⟩⟩⟩ ?_
                refine TL_end ?_
                refine TE_go ?_
                refine TC_seq ?_
                refine TC_reg ?_
                refine TL_ev env 8 rfl ⟨trivial, ⟨⟨trivial, trivial⟩, ⟨⟨trivial, ⟨trivial, trivial⟩⟩, ⟨trivial, ⟨⟨trivial, trivial⟩, ⟨⟨trivial, ⟨trivial, trivial⟩⟩, ⟨⟨trivial, ⟨trivial, ⟨trivial, ⟨trivial, trivial⟩⟩⟩⟩, ⟨trivial, trivial⟩⟩⟩⟩⟩⟩⟩⟩ ?_
                obtain ⟨z, hr, h0⟩ := bnd h0
                rcases z with r1235 | ⟨⟩
                · refine TL_callB [] (weather_New.ok0 hr) weather_New.fnb rfl ⟨trivial, ⟨trivial, ⟨trivial, trivial⟩⟩⟩ rfl trivial rfl ?_
                  refine TL_ev env 5 rfl ⟨trivial, ⟨trivial, ⟨trivial, ⟨trivial, ⟨trivial, trivial⟩⟩⟩⟩⟩ ?_
                  refine TL_end ?_
                  refine TE_go ?_
                  refine TC_seq ?_
                  refine TC_seq ?_
                  refine TC_reg ?_
                  refine TL_ev env 1 rfl ⟨trivial, trivial⟩ ?_
                  refine TL_end ?_
                  refine TE_go ?_
                  obtain ⟨z1, h1, h0⟩ := bnd h0
                  refine TC_cut (α := Unit) (fun _ => z1 = .inl ()) (fun _ => []) (fun _ => []) ?_ ?_
                  · refine TC_blk ?_
                    refine TC_loop (α := Unit) (fun n _ => psalterylaw32_WeatherEnds.l12 K p5 (kand .i64 p0 65535) (kand .i64 p1 65535) p4 n = some z1) (fun _ => [(2, .int .u8 p5), (14, .p 36000 0), (16, .nilp), (18, .int .i64 0)]) (fun _ => [(36000, some (.cells [.int .i64 (kand .i64 p0 65535), .int .i64 (kand .i64 p1 65535), .int .i64 0, .int .i64 0, .int .u32 p4, .bool false]))]) K ?_ ?_
                    · exact SP_ren [(36000, 500760)] () h1 ⟨rfl, rfl, rfl, rfl, trivial⟩ ⟨rfl, trivial⟩ rfl
                    rintro n ⟨⟩ h1
                    rcases n with _ | n
                    · exact (nsome h1).elim
                    replace h1 : psalterylaw32_WeatherEnds.r12 K p5 (kand .i64 p0 65535) (kand .i64 p1 65535) p4 (psalterylaw32_WeatherEnds.l12 K p5 (kand .i64 p0 65535) (kand .i64 p1 65535) p4 n)  = some z1 := h1
                    refine TC_seq ?_
                    refine TC_seq ?_
                    refine TC_reg ?_
                    refine TL_ev env 4 rfl ⟨trivial, ⟨trivial, ⟨trivial, ⟨⟨trivial, ⟨trivial, trivial⟩⟩, trivial⟩⟩⟩⟩ ?_
                    refine TL_end ?_
                    refine TE_go ?_
                    refine TC_cond rfl (fun hb => ?_) (fun hb => ?_)
                    · replace h1 := bif_t h1 hb
                      refine TC_skip ?_
                      refine TE_go ?_
                      refine TC_seq ?_
                      refine TC_blk ?_
                      refine TC_seq ?_
                      obtain ⟨z2, h2, h1⟩ := bnd h1
                      refine TC_cut (α := Int × Bool) (fun s => z2 = s) (fun s => [(2, .int .u8 p5), (14, .p 36500 0), (16, .nilp), (18, .int .i64 0), (110, .bool true)]) (fun s => [(36500, some (.cells [.int .i64 (kand .i64 p0 65535), .int .i64 (kand .i64 p1 65535), .int .i64 0, .int .i64 0, .int .u32 s.1, .bool s.2]))]) ?_ ?_
                      · refine TC_reg ?_
                        refine TL_ev env 1 rfl ⟨trivial, trivial⟩ ?_
                        obtain ⟨⟨r1267, r1268, r1269⟩, hr, h2⟩ := bnd h2
                        refine TL_callB [(0, 36000)] (weather_Weather_Lost.ok0 hr) weather_Weather_Lost.fnb rfl ⟨trivial, ⟨trivial, trivial⟩⟩ rfl ⟨.inr rfl, trivial⟩ rfl ?_
                        refine TL_ev env 1 rfl ⟨trivial, trivial⟩ ?_
                        refine TL_split 99 rfl (fun hb => ?_) (fun hb => ?_)
                        · replace h2 := bif_t h2 hb
                          refine TL_gf (.bool false) rfl rfl rfl rfl rfl (by decide) ?_
                          refine TL_gf (.bool false) rfl rfl rfl rfl rfl (by decide) ?_
                          refine TL_gf (.bool false) rfl rfl rfl rfl rfl (by decide) ?_
                          refine TL_ev env 2 rfl ⟨⟨trivial, ⟨trivial, fun e => e⟩⟩, ⟨trivial, trivial⟩⟩ ?_
                          refine TL_gf (.bool false) rfl rfl rfl rfl rfl (by decide) ?_
                          refine TL_gf (.bool false) rfl rfl rfl rfl rfl (by decide) ?_
                          refine TL_gf (.bool false) rfl rfl rfl rfl rfl (by decide) ?_
                          refine TL_gf (.bool false) rfl rfl rfl rfl rfl (by decide) ?_
                          refine TL_gf (.bool false) rfl rfl rfl rfl rfl (by decide) ?_
                          refine TL_ev env 1 rfl ⟨⟨trivial, ⟨trivial, fun e => e⟩⟩, trivial⟩ ?_
                          refine TL_end ?_
                          obtain rfl := sinj h2
                          refine tsn ?_
                          exact SP_ren [(36500, 36000)] (_, _) rfl ⟨rfl, rfl, rfl, rfl, rfl, trivial⟩ ⟨rfl, trivial⟩ rfl
                        · replace h2 := bif_f h2 hb
                          refine TL_gt rfl rfl rfl rfl ?_
                          refine TL_ev env 1 rfl ⟨trivial, trivial⟩ ?_
                          refine TL_gt rfl rfl rfl rfl ?_
                          obtain ⟨⟨⟩, hr, h2⟩ := bnd h2
                          refine TL_callB [] (weather_Weather_Lost_2.ok0 hr) weather_Weather_Lost_2.fnb rfl ⟨trivial, ⟨trivial, trivial⟩⟩ rfl trivial rfl ?_
                          refine TL_gt rfl rfl rfl rfl ?_
                          refine TL_ev env 3 rfl ⟨trivial, ⟨⟨trivial, ⟨trivial, trivial⟩⟩, ⟨trivial, trivial⟩⟩⟩ ?_
                          refine TL_gf (.bool false) rfl rfl rfl rfl rfl (by decide) ?_
                          refine TL_gf (.bool false) rfl rfl rfl rfl rfl (by decide) ?_
                          refine TL_gf (.bool false) rfl rfl rfl rfl rfl (by decide) ?_
                          refine TL_gf (.bool false) rfl rfl rfl rfl rfl (by decide) ?_
                          refine TL_gf (.bool false) rfl rfl rfl rfl rfl (by decide) ?_
                          refine TL_ev env 1 rfl ⟨⟨trivial, ⟨trivial, fun e => e⟩⟩, trivial⟩ ?_
                          refine TL_end ?_
                          obtain rfl := sinj h2
                          refine tsn ?_
                          exact SP_ren [(36500, 36000)] (_, _) rfl ⟨rfl, rfl, rfl, rfl, rfl, trivial⟩ ⟨rfl, trivial⟩ rfl
                      · rintro ⟨x1265, x1266⟩ rfl
                        refine TE_go ?_
                        refine TC_cond rfl (fun hb => ?_) (fun hb => ?_)
                        · refine TC_seq ?_
                          refine TC_reg ?_
                          refine TL_ev env 1 rfl ⟨trivial, trivial⟩ ?_
                          refine TL_end ?_
                          refine TE_go ?_
                          refine TC_ret ?_
                          refine tbr ?_
                          refine tsr ?_
                          refine tsr ?_
                          refine tbr ?_
                          refine tsr ?_
                          refine tsr ?_
                          obtain rfl := sinj h1
                          obtain rfl := sinj h0
                          exact TE_ret env rfl trivial trivial
                        · first | exact (ftf hb).elim | exact (tff hb).elim | exact absurd hb (by decide)
                    · replace h1 := bif_f h1 hb
                      refine TC_exit ?_
                      refine tsx ?_
                      refine tsx ?_
                      refine tbe ?_
                      obtain rfl := sinj h1
                      refine tsn ?_
                      exact SP_ren [] () rfl trivial trivial rfl
                  · rintro ⟨⟩ rfl
                    refine TE_go ?_
                    refine TC_seq ?_
                    refine TC_reg ?_
                    refine TL_ev env 1 rfl ⟨trivial, trivial⟩ ?_
                    refine TL_end ?_
                    refine TE_go ?_
                    refine TC_ret ?_
                    obtain rfl := sinj h0
                    exact TE_ret env rfl trivial trivial
                · refine TL_callB [(1000, 500880)] (weather_New.ok1 hr) weather_New.fnb rfl ⟨trivial, ⟨trivial, ⟨trivial, trivial⟩⟩⟩ rfl trivial rfl ?_
                  refine TL_ev env 5 rfl ⟨trivial, ⟨trivial, ⟨trivial, ⟨trivial, ⟨trivial, trivial⟩⟩⟩⟩⟩ ?_
                  refine TL_end ?_
                  refine TE_go ?_
                  refine TC_seq ?_
                  refine TC_seq ?_
                  refine TC_reg ?_
                  refine TL_ev env 1 rfl ⟨trivial, trivial⟩ ?_
                  refine TL_end ?_
                  refine TE_go ?_
                  obtain ⟨z1, h1, h0⟩ := bnd h0
                  refine TC_cut (α := Unit) (fun _ => z1 = .inl ()) (fun _ => []) (fun _ => []) ?_ ?_
                  · refine TC_blk ?_
                    refine TC_loop (α := Int × Int × Bool × Int × Bool) (fun n s => psalterylaw32_WeatherEnds.l13 K p5 (kand .i64 p0 65535) (kand .i64 p1 65535) n s.1 s.2.1 s.2.2.1 s.2.2.2.1 s.2.2.2.2 = some z1) (fun s => [(2, .int .u8 p5), (14, .p 37700 0), (16, .p 37701 0), (18, .int .i64 s.1)]) (fun s => [(37700, some (.cells [.int .i64 (kand .i64 p0 65535), .int .i64 (kand .i64 p1 65535), .int .i64 0, .int .i64 0, .int .u32 s.2.1, .bool s.2.2.1])), (37701, some (.cells [.int .i64 (kand .i64 p0 65535), .int .i64 (kand .i64 p1 65535), .int .i64 65536, .int .i64 65536, .int .u32 s.2.2.2.1, .bool s.2.2.2.2]))]) K ?_ ?_
                    · exact SP_ren [(37700, 500760), (37701, 500880)] (_, _, _, _, _) h1 ⟨rfl, rfl, rfl, rfl, trivial⟩ ⟨rfl, rfl, trivial⟩ rfl
                    rintro n ⟨x1358, x1359, x1360, x1361, x1362⟩ h1
                    rcases n with _ | n
                    · exact (nsome h1).elim
                    replace h1 : psalterylaw32_WeatherEnds.r13 K p5 (kand .i64 p0 65535) (kand .i64 p1 65535) (psalterylaw32_WeatherEnds.l13 K p5 (kand .i64 p0 65535) (kand .i64 p1 65535) n) x1358 x1359 x1360 x1361 x1362 = some z1 := h1
                    refine TC_seq ?_
                    refine TC_seq ?_
                    refine TC_reg ?_
                    refine TL_ev env 4 rfl ⟨trivial, ⟨trivial, ⟨trivial, ⟨⟨trivial, ⟨trivial, trivial⟩⟩, trivial⟩⟩⟩⟩ ?_
                    refine TL_end ?_
                    refine TE_go ?_
                    refine TC_cond rfl (fun hb => ?_) (fun hb => ?_)
                    · replace h1 := bif_t h1 hb
                      refine TC_skip ?_
                      refine TE_go ?_
                      refine TC_seq ?_
                      refine TC_blk ?_
                      refine TC_seq ?_
                      obtain ⟨z2, h2, h1⟩ := bnd h1
                      refine TC_cut (α := Bool × Int × Bool × Int × Bool) (fun s => z2 = s) (fun s => [(2, .int .u8 p5), (14, .p 38200 0), (16, .p 38201 0), (18, .int .i64 x1358), (110, .bool s.1)]) (fun s => [(38200, some (.cells [.int .i64 (kand .i64 p0 65535), .int .i64 (kand .i64 p1 65535), .int .i64 0, .int .i64 0, .int .u32 s.2.1, .bool s.2.2.1])), (38201, some (.cells [.int .i64 (kand .i64 p0 65535), .int .i64 (kand .i64 p1 65535), .int .i64 65536, .int .i64 65536, .int .u32 s.2.2.2.1, .bool s.2.2.2.2]))]) ?_ ?_
                      · refine TC_reg ?_
                        refine TL_ev env 1 rfl ⟨trivial, trivial⟩ ?_
                        obtain ⟨⟨r1422, r1423, r1424⟩, hr, h2⟩ := bnd h2
                        refine TL_callB [(0, 37700)] (weather_Weather_Lost.ok0 hr) weather_Weather_Lost.fnb rfl ⟨trivial, ⟨trivial, trivial⟩⟩ rfl ⟨.inr rfl, trivial⟩ rfl ?_
                        refine TL_ev env 1 rfl ⟨trivial, trivial⟩ ?_
                        refine TL_split 99 rfl (fun hb => ?_) (fun hb => ?_)
                        · replace h2 := bif_t h2 hb
                          refine TL_gf (.bool false) rfl rfl rfl rfl rfl (by decide) ?_
                          refine TL_gf (.bool false) rfl rfl rfl rfl rfl (by decide) ?_
                          refine TL_gf (.bool false) rfl rfl rfl rfl rfl (by decide) ?_
                          refine TL_ev env 2 rfl ⟨⟨trivial, ⟨trivial, fun e => e⟩⟩, ⟨trivial, trivial⟩⟩ ?_
                          refine TL_gf (.bool false) rfl rfl rfl rfl rfl (by decide) ?_
                          refine TL_gf (.bool false) rfl rfl rfl rfl rfl (by decide) ?_
                          refine TL_gf (.bool false) rfl rfl rfl rfl rfl (by decide) ?_
                          refine TL_gf (.bool false) rfl rfl rfl rfl rfl (by decide) ?_
                          refine TL_gf (.bool false) rfl rfl rfl rfl rfl (by decide) ?_
                          refine TL_ev env 1 rfl ⟨⟨trivial, ⟨trivial, fun e => e⟩⟩, trivial⟩ ?_
                          refine TL_end ?_
                          obtain rfl := sinj h2
                          refine tsn ?_
                          exact SP_ren [(38200, 37700), (38201, 37701)] (_, _, _, _, _) rfl ⟨rfl, rfl, rfl, rfl, rfl, trivial⟩ ⟨rfl, rfl, trivial⟩ rfl
                        · replace h2 := bif_f h2 hb
                          refine TL_gt rfl rfl rfl rfl ?_
                          refine TL_ev env 1 rfl ⟨trivial, trivial⟩ ?_
                          refine TL_gt rfl rfl rfl rfl ?_
                          obtain ⟨⟨r1425, r1426, r1427⟩, hr, h2⟩ := bnd h2
                          refine TL_callB [(0, 37701)] (weather_Weather_Lost.ok0 hr) weather_Weather_Lost.fnb rfl ⟨trivial, ⟨trivial, trivial⟩⟩ rfl ⟨.inr rfl, trivial⟩ rfl ?_
                          refine TL_gt rfl rfl rfl rfl ?_
                          refine TL_ev env 3 rfl ⟨trivial, ⟨⟨trivial, ⟨trivial, trivial⟩⟩, ⟨trivial, trivial⟩⟩⟩ ?_
                          refine TL_split 104 rfl (fun hb => ?_) (fun hb => ?_)
                          · replace h2 := bif_t h2 hb
                            refine TL_gf (.bool false) rfl rfl rfl rfl rfl (by decide) ?_
                            refine TL_gf (.bool false) rfl rfl rfl rfl rfl (by decide) ?_
                            refine TL_gf (.bool false) rfl rfl rfl rfl rfl (by decide) ?_
                            refine TL_gf (.bool false) rfl rfl rfl rfl rfl (by decide) ?_
                            refine TL_gf (.bool false) rfl rfl rfl rfl rfl (by decide) ?_
                            refine TL_ev env 1 rfl ⟨⟨trivial, ⟨trivial, fun e => e⟩⟩, trivial⟩ ?_
                            refine TL_end ?_
                            obtain rfl := sinj h2
                            refine tsn ?_
                            exact SP_ren [(38200, 37700), (38201, 37701)] (_, _, _, _, _) rfl ⟨rfl, rfl, rfl, rfl, rfl, trivial⟩ ⟨rfl, rfl, trivial⟩ rfl
                          · replace h2 := bif_f h2 hb
                            refine TL_gt rfl rfl rfl rfl ?_
                            refine TL_ev env 1 rfl ⟨trivial, trivial⟩ ?_
                            refine TL_gt rfl rfl rfl rfl ?_
                            obtain ⟨r1428, hr, h2⟩ := bnd h2
                            refine TL_callB [(0, 37700)] (weather_Weather_Fair.ok0 hr) weather_Weather_Fair.fnb rfl ⟨trivial, ⟨trivial, trivial⟩⟩ rfl ⟨.inr rfl, trivial⟩ rfl ?_
                            refine TL_gt rfl rfl rfl rfl ?_
                            refine TL_ev env 1 rfl ⟨trivial, trivial⟩ ?_
                            refine TL_gt rfl rfl rfl rfl ?_
                            obtain ⟨r1429, hr, h2⟩ := bnd h2
                            refine TL_callB [(0, 37701)] (weather_Weather_Fair.ok0 hr) weather_Weather_Fair.fnb rfl ⟨trivial, ⟨trivial, trivial⟩⟩ rfl ⟨.inr rfl, trivial⟩ rfl ?_
                            refine TL_gt rfl rfl rfl rfl ?_
                            refine TL_ev env 2 rfl ⟨⟨trivial, ⟨trivial, trivial⟩⟩, ⟨⟨trivial, ⟨trivial, trivial⟩⟩, trivial⟩⟩ ?_
                            refine TL_end ?_
                            obtain rfl := sinj h2
                            refine tsn ?_
                            exact SP_ren [(38200, 37700), (38201, 37701)] (_, _, _, _, _) rfl ⟨rfl, rfl, rfl, rfl, rfl, trivial⟩ ⟨rfl, rfl, trivial⟩ rfl
                      · rintro ⟨x1416, x1417, x1418, x1419, x1420⟩ rfl
                        refine TE_go ?_
                        refine TC_cond rfl (fun hb => ?_) (fun hb => ?_)
                        · replace h1 := bif_t h1 hb
                          refine TC_seq ?_
                          refine TC_reg ?_
                          refine TL_ev env 1 rfl ⟨trivial, trivial⟩ ?_
                          refine TL_end ?_
                          refine TE_go ?_
                          refine TC_ret ?_
                          refine tbr ?_
                          refine tsr ?_
                          refine tsr ?_
                          refine tbr ?_
                          refine tsr ?_
                          refine tsr ?_
                          obtain rfl := sinj h1
                          obtain rfl := sinj h0
                          exact TE_ret env rfl trivial trivial
                        · replace h1 := bif_f h1 hb
                          refine TC_skip ?_
                          refine tbn ?_
                          refine TE_go ?_
                          refine TC_reg ?_
                          refine TL_ev env 3 rfl ⟨trivial, ⟨⟨trivial, ⟨trivial, trivial⟩⟩, ⟨trivial, trivial⟩⟩⟩ ?_
                          refine TL_end ?_
                          refine tsn ?_
                          exact TE_nextr [(37700, 38200), (37701, 38201)] n (Nat.lt_succ_self n) (_, _, _, _, _) h1 ⟨rfl, rfl, rfl, rfl, trivial⟩ ⟨rfl, rfl, trivial⟩ rfl
                    · replace h1 := bif_f h1 hb
                      refine TC_exit ?_
                      refine tsx ?_
                      refine tsx ?_
                      refine tbe ?_
                      obtain rfl := sinj h1
                      refine tsn ?_
                      exact SP_ren [] () rfl trivial trivial rfl
                  · rintro ⟨⟩ rfl
                    refine TE_go ?_
                    refine TC_seq ?_
                    refine TC_reg ?_
                    refine TL_ev env 1 rfl ⟨trivial, trivial⟩ ?_
                    refine TL_end ?_
                    refine TE_go ?_
                    refine TC_ret ?_
                    obtain rfl := sinj h0
                    exact TE_ret env rfl trivial trivial
          · first | exact (ftf hb).elim | exact (tff hb).elim | exact absurd hb (by decide)
      · refine TL_callB [(1000, 500300)] (weather_New.ok1 hr) weather_New.fnb rfl ⟨trivial, ⟨trivial, ⟨trivial, trivial⟩⟩⟩ rfl trivial rfl ?_
        refine TL_ev env 5 rfl ⟨trivial, ⟨trivial, ⟨trivial, ⟨trivial, ⟨trivial, trivial⟩⟩⟩⟩⟩ ?_
        refine TL_end ?_
        refine TE_go ?_
        refine TC_seq ?_
        refine TC_seq ?_
        refine TC_reg ?_
        refine TL_ev env 3 rfl ⟨trivial, ⟨trivial, ⟨⟨trivial, ⟨trivial, trivial⟩⟩, trivial⟩⟩⟩ ?_
        refine TL_end ?_
        refine TE_go ?_
        refine TC_cond rfl (fun hb => ?_) (fun hb => ?_)
        · first | exact (ftf hb).elim | exact (tff hb).elim | exact absurd hb (by decide)
        · refine TC_skip ?_
          refine TE_go ?_
          refine TC_seq ?_
          refine TC_seq ?_
          refine TC_reg ?_
          refine TL_ev env 2 rfl ⟨trivial, ⟨⟨trivial, ⟨trivial, trivial⟩⟩, trivial⟩⟩ ?_
          refine TL_end ?_
          refine TE_go ?_
          refine TC_cond rfl (fun hb => ?_) (fun hb => ?_)
          · refine TC_seq ?_
            refine TC_reg ?_
            refine TL_ev env 3 rfl ⟨trivial, ⟨trivial, ⟨trivial, trivial⟩⟩⟩ ?_
            obtain ⟨⟨r1433, r1434, r1435⟩, hr, h0⟩ := bnd h0
            refine TL_callB [(0, 500240)] (weather_Weather_Row_2.ok0 hr) weather_Weather_Row_2.fnb rfl ⟨trivial, ⟨trivial, ⟨trivial, trivial⟩⟩⟩ rfl ⟨.inr rfl, trivial⟩ rfl ?_
            refine TL_ev env 3 rfl ⟨trivial, ⟨trivial, ⟨trivial, trivial⟩⟩⟩ ?_
            obtain ⟨⟨r1436, r1437, r1438⟩, hr, h0⟩ := bnd h0
            refine TL_callB [(0, 500300)] (weather_Weather_Row_2.ok0 hr) weather_Weather_Row_2.fnb rfl ⟨trivial, ⟨trivial, ⟨trivial, trivial⟩⟩⟩ rfl ⟨.inr rfl, trivial⟩ rfl ?_
            refine TL_ev env 2 rfl ⟨trivial, ⟨trivial, trivial⟩⟩ ?_
            refine TL_end ?_
            refine TE_go ?_
            refine TC_seq ?_
            refine TC_reg ?_
            refine TL_ev env 1 rfl ⟨trivial, trivial⟩ ?_
            refine TL_end ?_
            refine TE_go ?_
            obtain ⟨z1, h1, h0⟩ := bnd h0
            refine TC_cut (α := Unit) (fun _ => z1 = .inl ()) (fun _ => [(1, .int .u32 p4), (2, .int .u8 p5), (3, .p 38800 0)]) (fun _ => [(38800, some (.cells [.int .i64 p0, .int .i64 p1, .int .i64 p2, .int .i64 p3]))]) ?_ ?_
            · refine TC_blk ?_
              refine TC_loop (α := Int) (fun n s => psalterylaw32_WeatherEnds.l19 K p4 p5 r1433 r1436 p0 p1 p2 p3 n s = some z1) (fun s => [(1, .int .u32 p4), (2, .int .u8 p5), (3, .p 44000 0), (11, .im (.slice (.pair (.int .i64) (.pair (.int .i64) (.pair (.int .i64) (.int .u32))))) r1433), (12, .im (.slice (.pair (.int .i64) (.pair (.int .i64) (.pair (.int .i64) (.int .u32))))) r1436), (13, .int .i64 s)]) (fun s => [(44000, some (.cells [.int .i64 p0, .int .i64 p1, .int .i64 p2, .int .i64 p3]))]) K ?_ ?_
              · exact SP_ren [(44000, 1003)] _ h1 ⟨rfl, rfl, rfl, rfl, rfl, rfl, trivial⟩ ⟨rfl, trivial⟩ rfl
              rintro n x1751 h1
              rcases n with _ | n
              · exact (nsome h1).elim
              replace h1 : psalterylaw32_WeatherEnds.r19 K p4 p5 r1433 r1436 p0 p1 p2 p3 (psalterylaw32_WeatherEnds.l19 K p4 p5 r1433 r1436 p0 p1 p2 p3 n) x1751 = some z1 := h1
              refine TC_seq ?_
              refine TC_seq ?_
              refine TC_reg ?_
              refine TL_ev env 4 rfl ⟨trivial, ⟨trivial, ⟨⟨trivial, trivial⟩, ⟨⟨trivial, ⟨trivial, trivial⟩⟩, trivial⟩⟩⟩⟩ ?_
              refine TL_end ?_
              refine TE_go ?_
              refine TC_cond rfl (fun hb => ?_) (fun hb => ?_)
              · replace h1 := bif_t h1 hb
                refine TC_skip ?_
                refine TE_go ?_
                refine TC_seq ?_
                refine TC_blk ?_
                refine TC_seq ?_
                refine TC_renw (A' := [(1, .int .u32 _), (2, .int .u8 _), (3, .p 44000 0), (11, .im (.slice (.pair (.int .i64) (.pair (.int .i64) (.pair (.int .i64) (.int .u32))))) _), (12, .im (.slice (.pair (.int .i64) (.pair (.int .i64) (.pair (.int .i64) (.int .u32))))) _), (13, .int .i64 _)]) (L' := [(44000, some (.cells [.int .i64 _, .int .i64 _, .int .i64 _, .int .i64 _]))]) [] ⟨rfl, rfl, rfl, rfl, rfl, rfl, trivial⟩ ⟨rfl, trivial⟩ rfl ?_
                refine TC_drawR ⟨_, fun i => ([[], [], [1], [2, 1, 0], [3, 2, 1, 0], [4, 3, 2, 1, 0], [4, 3, 2, 1, 0], [6, 5, 4, 3, 2, 1, 0], [7, 6, 5, 4, 3, 2, 1, 0], [4, 3, 2, 1, 0], [4, 3, 2, 1, 0], [10, 9, 4, 3, 2, 1, 0], [11, 10, 9, 4, 3, 2, 1, 0], [12, 11, 10, 9, 8, 7, 6, 5, 4, 3, 2, 1, 0], [13, 12, 11, 10, 9, 8, 7, 6, 5, 4, 3, 2, 1, 0]] : List (List Nat)).getD i [], fun i => ([[], [], [], [], [], [], [], [], [], [], [], [], [], [], []] : List (List Nat)).getD i [], fun i => ([[], [], [], [], [], [], [], [], [], [], [], [], [], [], []] : List (List Nat)).getD i []⟩ (fun i => ([[], [], [], [], [], [], [], [], [], [], [], [], [], [], []] : List (List Nat)).getD i []) rfl rfl ?_
                refine AJR_ev env 1 rfl (Nat.le_of_ble_eq_true rfl) rfl trivial ?_
                refine AJR_ev env 2 rfl (Nat.le_of_ble_eq_true rfl) rfl trivial ?_
                refine AJR_ev env 3 rfl (Nat.le_of_ble_eq_true rfl) rfl ⟨trivial, trivial⟩ ?_
                refine AJR_ev env 4 rfl (Nat.le_of_ble_eq_true rfl) rfl ⟨trivial, ⟨trivial, trivial⟩⟩ ?_
                refine AJR_ev env 5 rfl (Nat.le_of_ble_eq_true rfl) rfl trivial ?_
                refine AJR_ev env 6 rfl (Nat.le_of_ble_eq_true rfl) rfl (fun _ => trivial) ?_
                refine AJR_ev env 7 rfl (Nat.le_of_ble_eq_true rfl) rfl (fun _ => trivial) ?_
                obtain ⟨g, h1⟩ := gd_t h1
                refine AJR_ev env 8 rfl (Nat.le_of_ble_eq_true rfl) rfl (fun e => ⟨fun e => e, ⟨fun e => e, ⟨(g.1 e), (g.2 e)⟩⟩⟩) ?_
                refine AJR_ev env 9 rfl (Nat.le_of_ble_eq_true rfl) rfl (fun _ => ⟨fun e => e, trivial⟩) ?_
                refine AJR_ev env 10 rfl (Nat.le_of_ble_eq_true rfl) rfl (fun _ => trivial) ?_
                refine AJR_ev env 11 rfl (Nat.le_of_ble_eq_true rfl) rfl (fun _ => trivial) ?_
                obtain ⟨g, h1⟩ := gd_t h1
                refine AJR_ev env 12 rfl (Nat.le_of_ble_eq_true rfl) rfl (fun e => ⟨fun e => e, ⟨fun e => e, ⟨(g.1 e), (g.2 e)⟩⟩⟩) ?_
                refine AJR_ev env 13 rfl (Nat.le_of_ble_eq_true rfl) rfl (fun _ => ⟨fun e => e, trivial⟩) ?_
                refine AJR_ev env 14 rfl (Nat.le_of_ble_eq_true rfl) rfl (fun _ => ⟨fun e => e, ⟨fun e => e, trivial⟩⟩) ?_
                refine AJR_ev env 15 rfl (Nat.le_of_ble_eq_true rfl) rfl ⟨trivial, ⟨trivial, fun e => e⟩⟩ ?_
                refine AJR_end rfl rfl rfl ?_
                refine TE_go ?_
                refine TC_cond rfl (fun hb => ?_) (fun hb => ?_)
                · replace h1 := bif_t h1 hb
                  refine TC_seq ?_
                  refine TC_reg ?_
                  refine TL_ev env 1 rfl ⟨trivial, trivial⟩ ?_
                  refine TL_end ?_
                  refine TE_go ?_
                  refine TC_ret ?_
                  refine tbr ?_
                  refine tsr ?_
                  refine tsr ?_
                  refine tbr ?_
                  refine tsr ?_
                  refine tsr ?_
                  obtain rfl := sinj h1
                  obtain rfl := sinj h0
                  exact TE_ret env rfl trivial trivial
                · replace h1 := bif_f h1 hb
                  refine TC_skip ?_
                  refine tbn ?_
                  refine TE_go ?_
                  refine TC_reg ?_
                  refine TL_ev env 3 rfl ⟨trivial, ⟨⟨trivial, ⟨trivial, trivial⟩⟩, ⟨trivial, trivial⟩⟩⟩ ?_
                  refine TL_end ?_
                  refine tsn ?_
                  exact TE_nextr [(44000, 44000)] n (Nat.lt_succ_self n) _ h1 ⟨rfl, rfl, rfl, rfl, rfl, rfl, trivial⟩ ⟨rfl, trivial⟩ rfl
              · replace h1 := bif_f h1 hb
                refine TC_exit ?_
                refine tsx ?_
                refine tsx ?_
                refine tbe ?_
                obtain rfl := sinj h1
                refine tsn ?_
                exact SP_ren [(38800, 44000)] () rfl ⟨rfl, rfl, rfl, trivial⟩ ⟨rfl, trivial⟩ rfl
            · rintro ⟨⟩ rfl
              refine TE_go ?_
              refine TC_seq ?_
              refine TC_reg ?_
              refine TL_ev env 8 rfl ⟨trivial, ⟨⟨trivial, trivial⟩, ⟨⟨trivial, ⟨trivial, trivial⟩⟩, ⟨trivial, ⟨⟨trivial, trivial⟩, ⟨⟨trivial, ⟨trivial, trivial⟩⟩, ⟨⟨trivial, ⟨trivial, trivial⟩⟩, ⟨trivial, trivial⟩⟩⟩⟩⟩⟩⟩⟩ ?_
              obtain ⟨z, hr, h0⟩ := bnd h0
              rcases z with r1443 | ⟨⟩
              · refine TL_callB [] (weather_New.ok0 hr) weather_New.fnb rfl ⟨trivial, ⟨trivial, ⟨trivial, trivial⟩⟩⟩ rfl trivial rfl ?_
                refine TL_ev env 5 rfl ⟨trivial, ⟨trivial, ⟨trivial, ⟨trivial, ⟨trivial, trivial⟩⟩⟩⟩⟩ ?_
                refine TL_end ?_
                refine TE_go ?_
                refine TC_seq ?_
                refine TC_reg ?_
                refine TL_ev env 8 rfl ⟨trivial, ⟨⟨trivial, trivial⟩, ⟨⟨trivial, ⟨trivial, trivial⟩⟩, ⟨trivial, ⟨⟨trivial, trivial⟩, ⟨⟨trivial, ⟨trivial, trivial⟩⟩, ⟨⟨trivial, ⟨trivial, ⟨trivial, ⟨trivial, trivial⟩⟩⟩⟩, ⟨trivial, trivial⟩⟩⟩⟩⟩⟩⟩⟩ ?_
                obtain ⟨z, hr, h0⟩ := bnd h0
                rcases z with r1444 | ⟨⟩
                · refine TL_callB [] (weather_New.ok0 hr) weather_New.fnb rfl ⟨trivial, ⟨trivial, ⟨trivial, trivial⟩⟩⟩ rfl trivial rfl ?_
                  refine TL_ev env 5 rfl ⟨trivial, ⟨trivial, ⟨trivial, ⟨trivial, ⟨trivial, trivial⟩⟩⟩⟩⟩ ?_
                  refine TL_end ?_
                  refine TE_go ?_
                  refine TC_seq ?_
                  refine TC_seq ?_
                  refine TC_reg ?_
                  refine TL_ev env 1 rfl ⟨trivial, trivial⟩ ?_
                  refine TL_end ?_
                  refine TE_go ?_
                  obtain ⟨z1, h1, h0⟩ := bnd h0
                  refine TC_cut (α := Unit) (fun _ => z1 = .inl ()) (fun _ => []) (fun _ => []) ?_ ?_
                  · refine TC_blk ?_
                    refine TC_loop (α := Unit) (fun n _ => psalterylaw32_WeatherEnds.l15 K p5 n = some z1) (fun _ => [(2, .int .u8 p5), (14, .nilp), (16, .nilp), (18, .int .i64 0)]) (fun _ => []) K ?_ ?_
                    · exact SP_ren [] () h1 ⟨rfl, rfl, rfl, rfl, trivial⟩ trivial rfl
                    rintro n ⟨⟩ h1
                    rcases n with _ | n
                    · exact (nsome h1).elim
                    replace h1 : psalterylaw32_WeatherEnds.r15 K p5 (psalterylaw32_WeatherEnds.l15 K p5 n)  = some z1 := h1
                    refine TC_seq ?_
                    refine TC_seq ?_
                    refine TC_reg ?_
                    refine TL_ev env 4 rfl ⟨trivial, ⟨trivial, ⟨trivial, ⟨⟨trivial, ⟨trivial, trivial⟩⟩, trivial⟩⟩⟩⟩ ?_
                    refine TL_end ?_
                    refine TE_go ?_
                    refine TC_cond rfl (fun hb => ?_) (fun hb => ?_)
                    · replace h1 := bif_t h1 hb
                      refine TC_skip ?_
                      refine TE_go ?_
                      refine TC_seq ?_
                      refine TC_blk ?_
                      refine TC_seq ?_
                      refine TC_reg ?_
                      refine TL_ev env 1 rfl ⟨trivial, trivial⟩ ?_
                      obtain ⟨⟨⟩, hr, h1⟩ := bnd h1
                      refine TL_callB [] (weather_Weather_Lost_2.ok0 hr) weather_Weather_Lost_2.fnb rfl ⟨trivial, ⟨trivial, trivial⟩⟩ rfl trivial rfl ?_
                      refine TL_ev env 1 rfl ⟨trivial, trivial⟩ ?_
                      refine TL_gt rfl rfl rfl rfl ?_
                      refine TL_ev env 1 rfl ⟨trivial, trivial⟩ ?_
                      refine TL_gt rfl rfl rfl rfl ?_
                      obtain ⟨⟨⟩, hr, h1⟩ := bnd h1
                      refine TL_callB [] (weather_Weather_Lost_2.ok0 hr) weather_Weather_Lost_2.fnb rfl ⟨trivial, ⟨trivial, trivial⟩⟩ rfl trivial rfl ?_
                      refine TL_gt rfl rfl rfl rfl ?_
                      refine TL_ev env 3 rfl ⟨trivial, ⟨⟨trivial, ⟨trivial, trivial⟩⟩, ⟨trivial, trivial⟩⟩⟩ ?_
                      refine TL_gf (.bool false) rfl rfl rfl rfl rfl (by decide) ?_
                      refine TL_gf (.bool false) rfl rfl rfl rfl rfl (by decide) ?_
                      refine TL_gf (.bool false) rfl rfl rfl rfl rfl (by decide) ?_
                      refine TL_gf (.bool false) rfl rfl rfl rfl rfl (by decide) ?_
                      refine TL_gf (.bool false) rfl rfl rfl rfl rfl (by decide) ?_
                      refine TL_ev env 1 rfl ⟨⟨trivial, ⟨trivial, fun e => e⟩⟩, trivial⟩ ?_
                      refine TL_end ?_
                      refine TE_go ?_
                      refine TC_cond rfl (fun hb => ?_) (fun hb => ?_)
                      · refine TC_seq ?_
                        refine TC_reg ?_
                        refine TL_ev env 1 rfl ⟨trivial, trivial⟩ ?_
                        refine TL_end ?_
                        refine TE_go ?_
                        refine TC_ret ?_
                        refine tbr ?_
                        refine tsr ?_
                        refine tsr ?_
                        refine tbr ?_
                        refine tsr ?_
                        refine tsr ?_
                        obtain rfl := sinj h1
                        obtain rfl := sinj h0
                        exact TE_ret env rfl trivial trivial
                      · first | exact (ftf hb).elim | exact (tff hb).elim | exact absurd hb (by decide)
                    · replace h1 := bif_f h1 hb
                      refine TC_exit ?_
                      refine tsx ?_
                      refine tsx ?_
                      refine tbe ?_
                      obtain rfl := sinj h1
                      refine tsn ?_
                      exact SP_ren [] () rfl trivial trivial rfl
                  · rintro ⟨⟩ rfl
                    refine TE_go ?_
                    refine TC_seq ?_
                    refine TC_reg ?_
                    refine TL_ev env 1 rfl ⟨trivial, trivial⟩ ?_
                    refine TL_end ?_
                    refine TE_go ?_
                    refine TC_ret ?_
                    obtain rfl := sinj h0
                    exact TE_ret env rfl trivial trivial
                · refine TL_callB [(1000, 500880)] (weather_New.ok1 hr) weather_New.fnb rfl ⟨trivial, ⟨trivial, ⟨trivial, trivial⟩⟩⟩ rfl trivial rfl ?_
                  refine TL_ev env 5 rfl ⟨trivial, ⟨trivial, ⟨trivial, ⟨trivial, ⟨trivial, trivial⟩⟩⟩⟩⟩ ?_
                  refine TL_end ?_
                  refine TE_go ?_
                  refine TC_seq ?_
                  refine TC_seq ?_
                  refine TC_reg ?_
                  refine TL_ev env 1 rfl ⟨trivial, trivial⟩ ?_
                  refine TL_end ?_
                  refine TE_go ?_
                  obtain ⟨z1, h1, h0⟩ := bnd h0
                  refine TC_cut (α := Unit) (fun _ => z1 = .inl ()) (fun _ => []) (fun _ => []) ?_ ?_
                  · refine TC_blk ?_
                    refine TC_loop (α := Int × Int × Bool) (fun n s => psalterylaw32_WeatherEnds.l16 K p5 (kand .i64 p0 65535) (kand .i64 p1 65535) n s.1 s.2.1 s.2.2 = some z1) (fun s => [(2, .int .u8 p5), (14, .nilp), (16, .p 40500 0), (18, .int .i64 s.1)]) (fun s => [(40500, some (.cells [.int .i64 (kand .i64 p0 65535), .int .i64 (kand .i64 p1 65535), .int .i64 65536, .int .i64 65536, .int .u32 s.2.1, .bool s.2.2]))]) K ?_ ?_
                    · exact SP_ren [(40500, 500880)] (_, _, _) h1 ⟨rfl, rfl, rfl, rfl, trivial⟩ ⟨rfl, trivial⟩ rfl
                    rintro n ⟨x1506, x1507, x1508⟩ h1
                    rcases n with _ | n
                    · exact (nsome h1).elim
                    replace h1 : psalterylaw32_WeatherEnds.r16 K p5 (kand .i64 p0 65535) (kand .i64 p1 65535) (psalterylaw32_WeatherEnds.l16 K p5 (kand .i64 p0 65535) (kand .i64 p1 65535) n) x1506 x1507 x1508 = some z1 := h1
                    refine TC_seq ?_
                    refine TC_seq ?_
                    refine TC_reg ?_
                    refine TL_ev env 4 rfl ⟨trivial, ⟨trivial, ⟨trivial, ⟨⟨trivial, ⟨trivial, trivial⟩⟩, trivial⟩⟩⟩⟩ ?_
                    refine TL_end ?_
                    refine TE_go ?_
                    refine TC_cond rfl (fun hb => ?_) (fun hb => ?_)
                    · replace h1 := bif_t h1 hb
                      refine TC_skip ?_
                      refine TE_go ?_
                      refine TC_seq ?_
                      refine TC_blk ?_
                      refine TC_seq ?_
                      obtain ⟨z2, h2, h1⟩ := bnd h1
                      refine TC_cut (α := Bool × Bool × Bool × Int × Bool) (fun s => z2 = s) (fun s => [(2, .int .u8 p5), (14, .nilp), (16, .p 41000 0), (18, .int .i64 x1506), (100, .p 41000 0), (101, .bool s.1), (102, .bool s.2.1), (110, .bool s.2.2.1)]) (fun s => [(41000, some (.cells [.int .i64 (kand .i64 p0 65535), .int .i64 (kand .i64 p1 65535), .int .i64 65536, .int .i64 65536, .int .u32 s.2.2.2.1, .bool s.2.2.2.2]))]) ?_ ?_
                      · refine TC_reg ?_
                        refine TL_ev env 1 rfl ⟨trivial, trivial⟩ ?_
                        obtain ⟨⟨⟩, hr, h2⟩ := bnd h2
                        refine TL_callB [] (weather_Weather_Lost_2.ok0 hr) weather_Weather_Lost_2.fnb rfl ⟨trivial, ⟨trivial, trivial⟩⟩ rfl trivial rfl ?_
                        refine TL_ev env 1 rfl ⟨trivial, trivial⟩ ?_
                        refine TL_gt rfl rfl rfl rfl ?_
                        refine TL_ev env 1 rfl ⟨trivial, trivial⟩ ?_
                        refine TL_gt rfl rfl rfl rfl ?_
                        obtain ⟨⟨r1550, r1551, r1552⟩, hr, h2⟩ := bnd h2
                        refine TL_callB [(0, 40500)] (weather_Weather_Lost.ok0 hr) weather_Weather_Lost.fnb rfl ⟨trivial, ⟨trivial, trivial⟩⟩ rfl ⟨.inr rfl, trivial⟩ rfl ?_
                        refine TL_gt rfl rfl rfl rfl ?_
                        refine TL_ev env 3 rfl ⟨trivial, ⟨⟨trivial, ⟨trivial, trivial⟩⟩, ⟨trivial, trivial⟩⟩⟩ ?_
                        refine TL_split 104 rfl (fun hb => ?_) (fun hb => ?_)
                        · replace h2 := bif_t h2 hb
                          refine TL_gf (.bool false) rfl rfl rfl rfl rfl (by decide) ?_
                          refine TL_gf (.bool false) rfl rfl rfl rfl rfl (by decide) ?_
                          refine TL_gf (.bool false) rfl rfl rfl rfl rfl (by decide) ?_
                          refine TL_gf (.bool false) rfl rfl rfl rfl rfl (by decide) ?_
                          refine TL_gf (.bool false) rfl rfl rfl rfl rfl (by decide) ?_
                          refine TL_ev env 1 rfl ⟨⟨trivial, ⟨trivial, fun e => e⟩⟩, trivial⟩ ?_
                          refine TL_end ?_
                          obtain rfl := sinj h2
                          refine tsn ?_
                          exact SP_ren [(41000, 40500)] (_, _, _, _, _) rfl ⟨rfl, rfl, rfl, rfl, rfl, rfl, rfl, rfl, trivial⟩ ⟨rfl, trivial⟩ rfl
                        · replace h2 := bif_f h2 hb
                          refine TL_gt rfl rfl rfl rfl ?_
                          refine TL_ev env 1 rfl ⟨trivial, trivial⟩ ?_
                          refine TL_gt rfl rfl rfl rfl ?_
                          obtain ⟨⟨⟩, hr, h2⟩ := bnd h2
                          refine TL_callB [] (weather_Weather_Fair_2.ok0 hr) weather_Weather_Fair_2.fnb rfl ⟨trivial, ⟨trivial, trivial⟩⟩ rfl trivial rfl ?_
                          refine TL_gt rfl rfl rfl rfl ?_
                          refine TL_ev env 1 rfl ⟨trivial, trivial⟩ ?_
                          refine TL_gt rfl rfl rfl rfl ?_
                          obtain ⟨r1553, hr, h2⟩ := bnd h2
                          refine TL_callB [(0, 40500)] (weather_Weather_Fair.ok0 hr) weather_Weather_Fair.fnb rfl ⟨trivial, ⟨trivial, trivial⟩⟩ rfl ⟨.inr rfl, trivial⟩ rfl ?_
                          refine TL_gt rfl rfl rfl rfl ?_
                          refine TL_ev env 2 rfl ⟨⟨trivial, ⟨trivial, trivial⟩⟩, ⟨⟨trivial, ⟨trivial, trivial⟩⟩, trivial⟩⟩ ?_
                          refine TL_end ?_
                          obtain rfl := sinj h2
                          refine tsn ?_
                          exact SP_ren [(41000, 40500)] (_, _, _, _, _) rfl ⟨rfl, rfl, rfl, rfl, rfl, rfl, rfl, rfl, trivial⟩ ⟨rfl, trivial⟩ rfl
                      · rintro ⟨x1544, x1545, x1546, x1547, x1548⟩ rfl
                        refine TE_go ?_
                        refine TC_cond rfl (fun hb => ?_) (fun hb => ?_)
                        · replace h1 := bif_t h1 hb
                          refine TC_seq ?_
                          refine TC_reg ?_
                          refine TL_ev env 1 rfl ⟨trivial, trivial⟩ ?_
                          refine TL_end ?_
                          refine TE_go ?_
                          refine TC_ret ?_
                          refine tbr ?_
                          refine tsr ?_
                          refine tsr ?_
                          refine tbr ?_
                          refine tsr ?_
                          refine tsr ?_
                          obtain rfl := sinj h1
                          obtain rfl := sinj h0
                          exact TE_ret env rfl trivial trivial
                        · replace h1 := bif_f h1 hb
                          refine TC_skip ?_
                          refine tbn ?_
                          refine TE_go ?_
                          refine TC_reg ?_
                          refine TL_ev env 3 rfl ⟨trivial, ⟨⟨trivial, ⟨trivial, trivial⟩⟩, ⟨trivial, trivial⟩⟩⟩ ?_
                          refine TL_end ?_
                          refine tsn ?_
                          exact TE_nextr [(40500, 41000)] n (Nat.lt_succ_self n) (_, _, _) h1 ⟨rfl, rfl, rfl, rfl, trivial⟩ ⟨rfl, trivial⟩ rfl
                    · replace h1 := bif_f h1 hb
                      refine TC_exit ?_
                      refine tsx ?_
                      refine tsx ?_
                      refine tbe ?_
                      obtain rfl := sinj h1
                      refine tsn ?_
                      exact SP_ren [] () rfl trivial trivial rfl
                  · rintro ⟨⟩ rfl
                    refine TE_go ?_
                    refine TC_seq ?_
                    refine TC_reg ?_
                    refine TL_ev env 1 rfl ⟨trivial, trivial⟩ ?_
                    refine TL_end ?_
                    refine TE_go ?_
                    refine TC_ret ?_
                    obtain rfl := sinj h0
                    exact TE_ret env rfl trivial trivial
              · refine TL_callB [(1000, 500760)] (weather_New.ok1 hr) weather_New.fnb rfl ⟨trivial, ⟨trivial, ⟨trivial, trivial⟩⟩⟩ rfl trivial rfl ?_
                refine TL_ev env 5 rfl ⟨trivial, ⟨trivial, ⟨trivial, ⟨trivial, ⟨trivial, trivial⟩⟩⟩⟩⟩ ?_
                refine TL_end ?_
                refine TE_go ?_
                refine TC_seq ?_
                refine TC_reg ?_
                refine TL_ev env 8 rfl ⟨trivial, ⟨⟨trivial, trivial⟩, ⟨⟨trivial, ⟨trivial, trivial⟩⟩, ⟨trivial, ⟨⟨trivial, trivial⟩, ⟨⟨trivial, ⟨trivial, trivial⟩⟩, ⟨⟨trivial, ⟨trivial, ⟨trivial, ⟨trivial, trivial⟩⟩⟩⟩, ⟨trivial, trivial⟩⟩⟩⟩⟩⟩⟩⟩ ?_
                obtain ⟨z, hr, h0⟩ := bnd h0
                rcases z with r1555 | ⟨⟩
                · refine TL_callB [] (weather_New.ok0 hr) weather_New.fnb rfl ⟨trivial, ⟨trivial, ⟨trivial, trivial⟩⟩⟩ rfl trivial rfl ?_
                  refine TL_ev env 5 rfl ⟨trivial, ⟨trivial, ⟨trivial, ⟨trivial, ⟨trivial, trivial⟩⟩⟩⟩⟩ ?_
                  refine TL_end ?_
                  refine TE_go ?_
                  refine TC_seq ?_
                  refine TC_seq ?_
                  refine TC_reg ?_
                  refine TL_ev env 1 rfl ⟨trivial, trivial⟩ ?_
                  refine TL_end ?_
                  refine TE_go ?_
                  obtain ⟨z1, h1, h0⟩ := bnd h0
                  refine TC_cut (α := Unit) (fun _ => z1 = .inl ()) (fun _ => []) (fun _ => []) ?_ ?_
                  · refine TC_blk ?_
                    refine TC_loop (α := Unit) (fun n _ => psalterylaw32_WeatherEnds.l17 K p5 (kand .i64 p0 65535) (kand .i64 p1 65535) p4 n = some z1) (fun _ => [(2, .int .u8 p5), (14, .p 41600 0), (16, .nilp), (18, .int .i64 0)]) (fun _ => [(41600, some (.cells [.int .i64 (kand .i64 p0 65535), .int .i64 (kand .i64 p1 65535), .int .i64 0, .int .i64 0, .int .u32 p4, .bool false]))]) K ?_ ?_
                    · exact SP_ren [(41600, 500760)] () h1 ⟨rfl, rfl, rfl, rfl, trivial⟩ ⟨rfl, trivial⟩ rfl
                    rintro n ⟨⟩ h1
                    rcases n with _ | n
                    · exact (nsome h1).elim
                    replace h1 : psalterylaw32_WeatherEnds.r17 K p5 (kand .i64 p0 65535) (kand .i64 p1 65535) p4 (psalterylaw32_WeatherEnds.l17 K p5 (kand .i64 p0 65535) (kand .i64 p1 65535) p4 n)  = some z1 := h1
                    refine TC_seq ?_
                    refine TC_seq ?_
                    refine TC_reg ?_
                    refine TL_ev env 4 rfl ⟨trivial, ⟨trivial, ⟨trivial, ⟨⟨trivial, ⟨trivial, trivial⟩⟩, trivial⟩⟩⟩⟩ ?_
                    refine TL_end ?_
                    refine TE_go ?_
                    refine TC_cond rfl (fun hb => ?_) (fun hb => ?_)
                    · replace h1 := bif_t h1 hb
                      refine TC_skip ?_
                      refine TE_go ?_
                      refine TC_seq ?_
                      refine TC_blk ?_
                      refine TC_seq ?_
                      obtain ⟨z2, h2, h1⟩ := bnd h1
                      refine TC_cut (α := Int × Bool) (fun s => z2 = s) (fun s => [(2, .int .u8 p5), (14, .p 42100 0), (16, .nilp), (18, .int .i64 0), (110, .bool true)]) (fun s => [(42100, some (.cells [.int .i64 (kand .i64 p0 65535), .int .i64 (kand .i64 p1 65535), .int .i64 0, .int .i64 0, .int .u32 s.1, .bool s.2]))]) ?_ ?_
                      · refine TC_reg ?_
                        refine TL_ev env 1 rfl ⟨trivial, trivial⟩ ?_
                        obtain ⟨⟨r1587, r1588, r1589⟩, hr, h2⟩ := bnd h2
                        refine TL_callB [(0, 41600)] (weather_Weather_Lost.ok0 hr) weather_Weather_Lost.fnb rfl ⟨trivial, ⟨trivial, trivial⟩⟩ rfl ⟨.inr rfl, trivial⟩ rfl ?_
                        refine TL_ev env 1 rfl ⟨trivial, trivial⟩ ?_
                        refine TL_split 99 rfl (fun hb => ?_) (fun hb => ?_)
                        · replace h2 := bif_t h2 hb
                          refine TL_gf (.bool false) rfl rfl rfl rfl rfl (by decide) ?_
                          refine TL_gf (.bool false) rfl rfl rfl rfl rfl (by decide) ?_
                          refine TL_gf (.bool false) rfl rfl rfl rfl rfl (by decide) ?_
                          refine TL_ev env 2 rfl ⟨⟨trivial, ⟨trivial, fun e => e⟩⟩, ⟨trivial, trivial⟩⟩ ?_
                          refine TL_gf (.bool false) rfl rfl rfl rfl rfl (by decide) ?_
                          refine TL_gf (.bool false) rfl rfl rfl rfl rfl (by decide) ?_
                          refine TL_gf (.bool false) rfl rfl rfl rfl rfl (by decide) ?_
                          refine TL_gf (.bool false) rfl rfl rfl rfl rfl (by decide) ?_
                          refine TL_gf (.bool false) rfl rfl rfl rfl rfl (by decide) ?_
                          refine TL_ev env 1 rfl ⟨⟨trivial, ⟨trivial, fun e => e⟩⟩, trivial⟩ ?_
                          refine TL_end ?_
                          obtain rfl := sinj h2
                          refine tsn ?_
                          exact SP_ren [(42100, 41600)] (_, _) rfl ⟨rfl, rfl, rfl, rfl, rfl, trivial⟩ ⟨rfl, trivial⟩ rfl
                        · replace h2 := bif_f h2 hb
                          refine TL_gt rfl rfl rfl rfl ?_
                          refine TL_ev env 1 rfl ⟨trivial, trivial⟩ ?_
                          refine TL_gt rfl rfl rfl rfl ?_
                          obtain ⟨⟨⟩, hr, h2⟩ := bnd h2
                          refine TL_callB [] (weather_Weather_Lost_2.ok0 hr) weather_Weather_Lost_2.fnb rfl ⟨trivial, ⟨trivial, trivial⟩⟩ rfl trivial rfl ?_
                          refine TL_gt rfl rfl rfl rfl ?_
                          refine TL_ev env 3 rfl ⟨trivial, ⟨⟨trivial, ⟨trivial, trivial⟩⟩, ⟨trivial, trivial⟩⟩⟩ ?_
                          refine TL_gf (.bool false) rfl rfl rfl rfl rfl (by decide) ?_
                          refine TL_gf (.bool false) rfl rfl rfl rfl rfl (by decide) ?_
                          refine TL_gf (.bool false) rfl rfl rfl rfl rfl (by decide) ?_
                          refine TL_gf (.bool false) rfl rfl rfl rfl rfl (by decide) ?_
                          refine TL_gf (.bool false) rfl rfl rfl rfl rfl (by decide) ?_
                          refine TL_ev env 1 rfl ⟨⟨trivial, ⟨trivial, fun e => e⟩⟩, trivial⟩ ?_
                          refine TL_end ?_
                          obtain rfl := sinj h2
                          refine tsn ?_
                          exact SP_ren [(42100, 41600)] (_, _) rfl ⟨rfl, rfl, rfl, rfl, rfl, trivial⟩ ⟨rfl, trivial⟩ rfl
                      · rintro ⟨x1585, x1586⟩ rfl
                        refine TE_go ?_
                        refine TC_cond rfl (fun hb => ?_) (fun hb => ?_)
                        · refine TC_seq ?_
                          refine TC_reg ?_
                          refine TL_ev env 1 rfl ⟨trivial, trivial⟩ ?_
                          refine TL_end ?_
                          refine TE_go ?_
                          refine TC_ret ?_
                          refine tbr ?_
                          refine tsr ?_
                          refine tsr ?_
                          refine tbr ?_
                          refine tsr ?_
                          refine tsr ?_
                          obtain rfl := sinj h1
                          obtain rfl := sinj h0
                          exact TE_ret env rfl trivial trivial
                        · first | exact (ftf hb).elim | exact (tff hb).elim | exact absurd hb (by decide)
                    · replace h1 := bif_f h1 hb
                      refine TC_exit ?_
                      refine tsx ?_
                      refine tsx ?_
                      refine tbe ?_
                      obtain rfl := sinj h1
                      refine tsn ?_
                      exact SP_ren [] () rfl trivial trivial rfl
                  · rintro ⟨⟩ rfl
                    refine TE_go ?_
                    refine TC_seq ?_
                    refine TC_reg ?_
                    refine TL_ev env 1 rfl ⟨trivial, trivial⟩ ?_
                    refine TL_end ?_
                    refine TE_go ?_
                    refine TC_ret ?_
                    obtain rfl := sinj h0
                    exact TE_ret env rfl trivial trivial
                · refine TL_callB [(1000, 500880)] (weather_New.ok1 hr) weather_New.fnb rfl ⟨trivial, ⟨trivial, ⟨trivial, trivial⟩⟩⟩ rfl trivial rfl ?_
                  refine TL_ev env 5 rfl ⟨trivial, ⟨trivial, ⟨trivial, ⟨trivial, ⟨trivial, trivial⟩⟩⟩⟩⟩ ?_
                  refine TL_end ?_
                  refine TE_go ?_
                  refine TC_seq ?_
                  refine TC_seq ?_
                  refine TC_reg ?_
                  refine TL_ev env 1 rfl ⟨trivial, trivial⟩ ?_
                  refine TL_end ?_
                  refine TE_go ?_
                  obtain ⟨z1, h1, h0⟩ := bnd h0
                  refine TC_cut (α := Unit) (fun _ => z1 = .inl ()) (fun _ => []) (fun _ => []) ?_ ?_
                  · refine TC_blk ?_
                    refine TC_loop (α := Int × Int × Bool × Int × Bool) (fun n s => psalterylaw32_WeatherEnds.l18 K p5 (kand .i64 p0 65535) (kand .i64 p1 65535) n s.1 s.2.1 s.2.2.1 s.2.2.2.1 s.2.2.2.2 = some z1) (fun s => [(2, .int .u8 p5), (14, .p 43300 0), (16, .p 43301 0), (18, .int .i64 s.1)]) (fun s => [(43300, some (.cells [.int .i64 (kand .i64 p0 65535), .int .i64 (kand .i64 p1 65535), .int .i64 0, .int .i64 0, .int .u32 s.2.1, .bool s.2.2.1])), (43301, some (.cells [.int .i64 (kand .i64 p0 65535), .int .i64 (kand .i64 p1 65535), .int .i64 65536, .int .i64 65536, .int .u32 s.2.2.2.1, .bool s.2.2.2.2]))]) K ?_ ?_
                    · exact SP_ren [(43300, 500760), (43301, 500880)] (_, _, _, _, _) h1 ⟨rfl, rfl, rfl, rfl, trivial⟩ ⟨rfl, rfl, trivial⟩ rfl
                    rintro n ⟨x1678, x1679, x1680, x1681, x1682⟩ h1
                    rcases n with _ | n
                    · exact (nsome h1).elim
                    replace h1 : psalterylaw32_WeatherEnds.r18 K p5 (kand .i64 p0 65535) (kand .i64 p1 65535) (psalterylaw32_WeatherEnds.l18 K p5 (kand .i64 p0 65535) (kand .i64 p1 65535) n) x1678 x1679 x1680 x1681 x1682 = some z1 := h1
                    refine TC_seq ?_
                    refine TC_seq ?_
                    refine TC_reg ?_
                    refine TL_ev env 4 rfl ⟨trivial, ⟨trivial, ⟨trivial, ⟨⟨trivial, ⟨trivial, trivial⟩⟩, trivial⟩⟩⟩⟩ ?_
                    refine TL_end ?_
                    refine TE_go ?_
                    refine TC_cond rfl (fun hb => ?_) (fun hb => ?_)
                    · replace h1 := bif_t h1 hb
                      refine TC_skip ?_
                      refine TE_go ?_
                      refine TC_seq ?_
                      refine TC_blk ?_
                      refine TC_seq ?_
                      obtain ⟨z2, h2, h1⟩ := bnd h1
                      refine TC_cut (α := Bool × Int × Bool × Int × Bool) (fun s => z2 = s) (fun s => [(2, .int .u8 p5), (14, .p 43800 0), (16, .p 43801 0), (18, .int .i64 x1678), (110, .bool s.1)]) (fun s => [(43800, some (.cells [.int .i64 (kand .i64 p0 65535), .int .i64 (kand .i64 p1 65535), .int .i64 0, .int .i64 0, .int .u32 s.2.1, .bool s.2.2.1])), (43801, some (.cells [.int .i64 (kand .i64 p0 65535), .int .i64 (kand .i64 p1 65535), .int .i64 65536, .int .i64 65536, .int .u32 s.2.2.2.1, .bool s.2.2.2.2]))]) ?_ ?_
                      · refine TC_reg ?_
                        refine TL_ev env 1 rfl ⟨trivial, trivial⟩ ?_
                        obtain ⟨⟨r1742, r1743, r1744⟩, hr, h2⟩ := bnd h2
                        refine TL_callB [(0, 43300)] (weather_Weather_Lost.ok0 hr) weather_Weather_Lost.fnb rfl ⟨trivial, ⟨trivial, trivial⟩⟩ rfl ⟨.inr rfl, trivial⟩ rfl ?_
                        refine TL_ev env 1 rfl ⟨trivial, trivial⟩ ?_
                        refine TL_split 99 rfl (fun hb => ?_) (fun hb => ?_)
                        · replace h2 := bif_t h2 hb
                          refine TL_gf (.bool false) rfl rfl rfl rfl rfl (by decide) ?_
                          refine TL_gf (.bool false) rfl rfl rfl rfl rfl (by decide) ?_
                          refine TL_gf (.bool false) rfl rfl rfl rfl rfl (by decide) ?_
                          refine TL_ev env 2 rfl ⟨⟨trivial, ⟨trivial, fun e => e⟩⟩, ⟨trivial, trivial⟩⟩ ?_
                          refine TL_gf (.bool false) rfl rfl rfl rfl rfl (by decide) ?_
                          refine TL_gf (.bool false) rfl rfl rfl rfl rfl (by decide) ?_
                          refine TL_gf (.bool false) rfl rfl rfl rfl rfl (by decide) ?_
                          refine TL_gf (.bool false) rfl rfl rfl rfl rfl (by decide) ?_
                          refine TL_gf (.bool false) rfl rfl rfl rfl rfl (by decide) ?_
                          refine TL_ev env 1 rfl ⟨⟨trivial, ⟨trivial, fun e => e⟩⟩, trivial⟩ ?_
                          refine TL_end ?_
                          obtain rfl := sinj h2
                          refine tsn ?_
                          exact SP_ren [(43800, 43300), (43801, 43301)] (_, _, _, _, _) rfl ⟨rfl, rfl, rfl, rfl, rfl, trivial⟩ ⟨rfl, rfl, trivial⟩ rfl
                        · replace h2 := bif_f h2 hb
                          refine TL_gt rfl rfl rfl rfl ?_
                          refine TL_ev env 1 rfl ⟨trivial, trivial⟩ ?_
                          refine TL_gt rfl rfl rfl rfl ?_
                          obtain ⟨⟨r1745, r1746, r1747⟩, hr, h2⟩ := bnd h2
                          refine TL_callB [(0, 43301)] (weather_Weather_Lost.ok0 hr) weather_Weather_Lost.fnb rfl ⟨trivial, ⟨trivial, trivial⟩⟩ rfl ⟨.inr rfl, trivial⟩ rfl ?_
                          refine TL_gt rfl rfl rfl rfl ?_
                          refine TL_ev env 3 rfl ⟨trivial, ⟨⟨trivial, ⟨trivial, trivial⟩⟩, ⟨trivial, trivial⟩⟩⟩ ?_
                          refine TL_split 104 rfl (fun hb => ?_) (fun hb => ?_)
                          · replace h2 := bif_t h2 hb
                            refine TL_gf (.bool false) rfl rfl rfl rfl rfl (by decide) ?_
                            refine TL_gf (.bool false) rfl rfl rfl rfl rfl (by decide) ?_
                            refine TL_gf (.bool false) rfl rfl rfl rfl rfl (by decide) ?_
                            refine TL_gf (.bool false) rfl rfl rfl rfl rfl (by decide) ?_
                            refine TL_gf (.bool false) rfl rfl rfl rfl rfl (by decide) ?_
                            refine TL_ev env 1 rfl ⟨⟨trivial, ⟨trivial, fun e => e⟩⟩, trivial⟩ ?_
                            refine TL_end ?_
                            obtain rfl := sinj h2
                            refine tsn ?_
                            exact SP_ren [(43800, 43300), (43801, 43301)] (_, _, _, _, _) rfl ⟨rfl, rfl, rfl, rfl, rfl, trivial⟩ ⟨rfl, rfl, trivial⟩ rfl
                          · replace h2 := bif_f h2 hb
                            refine TL_gt rfl rfl rfl rfl ?_
                            refine TL_ev env 1 rfl ⟨trivial, trivial⟩ ?_
                            refine TL_gt rfl rfl rfl rfl ?_
                            obtain ⟨r1748, hr, h2⟩ := bnd h2
                            refine TL_callB [(0, 43300)] (weather_Weather_Fair.ok0 hr) weather_Weather_Fair.fnb rfl ⟨trivial, ⟨trivial, trivial⟩⟩ rfl ⟨.inr rfl, trivial⟩ rfl ?_
                            refine TL_gt rfl rfl rfl rfl ?_
                            refine TL_ev env 1 rfl ⟨trivial, trivial⟩ ?_
                            refine TL_gt rfl rfl rfl rfl ?_
                            obtain ⟨r1749, hr, h2⟩ := bnd h2
                            refine TL_callB [(0, 43301)] (weather_Weather_Fair.ok0 hr) weather_Weather_Fair.fnb rfl ⟨trivial, ⟨trivial, trivial⟩⟩ rfl ⟨.inr rfl, trivial⟩ rfl ?_
                            refine TL_gt rfl rfl rfl rfl ?_
                            refine TL_ev env 2 rfl ⟨⟨trivial, ⟨trivial, trivial⟩⟩, ⟨⟨trivial, ⟨trivial, trivial⟩⟩, trivial⟩⟩ ?_
                            refine TL_end ?_
                            obtain rfl := sinj h2
                            refine tsn ?_
                            exact SP_ren [(43800, 43300), (43801, 43301)] (_, _, _, _, _) rfl ⟨rfl, rfl, rfl, rfl, rfl, trivial⟩ ⟨rfl, rfl, trivial⟩ rfl
                      · rintro ⟨x1736, x1737, x1738, x1739, x1740⟩ rfl
                        refine TE_go ?_
                        refine TC_cond rfl (fun hb => ?_) (fun hb => ?_)
                        · replace h1 := bif_t h1 hb
                          refine TC_seq ?_
                          refine TC_reg ?_
                          refine TL_ev env 1 rfl ⟨trivial, trivial⟩ ?_
                          refine TL_end ?_
                          refine TE_go ?_
                          refine TC_ret ?_
                          refine tbr ?_
                          refine tsr ?_
                          refine tsr ?_
                          refine tbr ?_
                          refine tsr ?_
                          refine tsr ?_
                          obtain rfl := sinj h1
                          obtain rfl := sinj h0
                          exact TE_ret env rfl trivial trivial
                        · replace h1 := bif_f h1 hb
                          refine TC_skip ?_
                          refine tbn ?_
                          refine TE_go ?_
                          refine TC_reg ?_
                          refine TL_ev env 3 rfl ⟨trivial, ⟨⟨trivial, ⟨trivial, trivial⟩⟩, ⟨trivial, trivial⟩⟩⟩ ?_
                          refine TL_end ?_
                          refine tsn ?_
                          exact TE_nextr [(43300, 43800), (43301, 43801)] n (Nat.lt_succ_self n) (_, _, _, _, _) h1 ⟨rfl, rfl, rfl, rfl, trivial⟩ ⟨rfl, rfl, trivial⟩ rfl
                    · replace h1 := bif_f h1 hb
                      refine TC_exit ?_
                      refine tsx ?_
                      refine tsx ?_
                      refine tbe ?_
                      obtain rfl := sinj h1
                      refine tsn ?_
                      exact SP_ren [] () rfl trivial trivial rfl
                  · rintro ⟨⟩ rfl
                    refine TE_go ?_
                    refine TC_seq ?_
                    refine TC_reg ?_
                    refine TL_ev env 1 rfl ⟨trivial, trivial⟩ ?_
                    refine TL_end ?_
                    refine TE_go ?_
                    refine TC_ret ?_
                    obtain rfl := sinj h0
                    exact TE_ret env rfl trivial trivial
          · first | exact (ftf hb).elim | exact (tff hb).elim | exact absurd hb (by decide)
theorem psalterylaw32_WeatherEnds.ok0 {K : Nat} {p0 : Int} {p1 : Int} {p2 : Int} {p3 : Int} {p4 : Int} {p5 : Int} {q0 : Bool} (h0 : psalterylaw32_WeatherEnds K p0 p1 p2 p3 p4 p5 = some q0) : Fn Try.prog 4 [.agg [.int .i64 p0, .int .i64 p1, .int .i64 p2, .int .i64 p3], .int .u32 p4, .int .u8 p5] [] (.bool q0) [] := psalterylaw32_WeatherEnds.ok h0
theorem psalterylaw32_WeatherEnds.fnb : fnb Try.prog 4 = true := fnb_of Try.func4 rfl
end Go.Fo
