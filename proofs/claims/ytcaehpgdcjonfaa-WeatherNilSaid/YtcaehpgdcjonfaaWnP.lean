/- Each call comes to the function that is written for it. -/
import Derived.Test.YtcaehpgdcjonfaaWnT
import Derived.Test.YtcaehpgdcjonfaaWnF
namespace Go.Fo
open Go.Proofs
set_option maxRecDepth 20000
def weather_Check.res (_p0 : Int) (_p1 : Int) (_p2 : Int) (_p3 : Int) : Int → MV
  | q0 => .int .i64 q0
def weather_Check.out (_p0 : Int) (_p1 : Int) (_p2 : Int) (_p3 : Int) : Int → List (Nat × Option MObj)
  | _ => []
theorem weather_Check.ok {K : Nat} {p0 : Int} {p1 : Int} {p2 : Int} {p3 : Int} {r : Int} (h0 : weather_Check K p0 p1 p2 p3 = some r) : Fn Try.prog 24 [.agg [.int .i64 p0, .int .i64 p1, .int .i64 p2, .int .i64 p3]] [] (weather_Check.res p0 p1 p2 p3 r) (weather_Check.out p0 p1 p2 p3 r) := by
  refine Fn_of Try.func24 rfl (Nat.le_of_ble_eq_true rfl) fun Γ => ?_
  refine TC_seq ?_
  refine TC_reg ?_
  refine TL_ev env 2 rfl ⟨trivial, ⟨trivial, trivial⟩⟩ ?_
  refine TL_end ?_
  refine TE_go ?_
  refine TC_seq ?_
  refine TC_seq ?_
  refine TC_reg ?_
  refine TL_ev env 10 rfl ⟨trivial, ⟨⟨trivial, trivial⟩, ⟨trivial, ⟨⟨trivial, trivial⟩, ⟨trivial, ⟨⟨trivial, trivial⟩, ⟨trivial, ⟨⟨trivial, trivial⟩, ⟨⟨trivial, ⟨trivial, ⟨trivial, ⟨trivial, trivial⟩⟩⟩⟩, ⟨trivial, trivial⟩⟩⟩⟩⟩⟩⟩⟩⟩⟩ ?_
  refine TL_end ?_
  refine TE_go ?_
  obtain ⟨z1, h1, h0⟩ := bnd h0
  refine TC_cut (α := Unit) (fun _ => z1 = .inl ()) (fun _ => []) (fun _ => []) ?_ ?_
  · refine TC_blk ?_
    refine TC_loop (α := Int × Int × Int × Int × Int) (fun n s => weather_Check.l0 K n s.1 s.2.1 s.2.2.1 s.2.2.2.1 s.2.2.2.2 = some z1) (fun s => [(13, .agg [.int .i64 s.1, .int .i64 s.2.1, .int .i64 s.2.2.1, .int .i64 s.2.2.2.1]), (14, .int .i64 s.2.2.2.2)]) (fun s => []) K ?_ ?_
    · exact SP_ren [] (_, _, _, _, _) h1 ⟨rfl, rfl, trivial⟩ trivial rfl
    rintro n ⟨x33, x34, x35, x36, x37⟩ h1
    rcases n with _ | n
    · exact (nsome h1).elim
    replace h1 : weather_Check.r0 K (weather_Check.l0 K n) x33 x34 x35 x36 x37 = some z1 := h1
    refine TC_seq ?_
    refine TC_reg ?_
    refine TL_ev env 1 rfl ⟨⟨trivial, ⟨trivial, trivial⟩⟩, trivial⟩ ?_
    refine TL_end ?_
    refine TE_go ?_
    refine TC_seq ?_
    refine TC_cond rfl (fun hb => ?_) (fun hb => ?_)
    · replace h1 := bif_t h1 hb
      refine TC_skip ?_
      refine TE_go ?_
      refine TC_seq ?_
      refine TC_blk ?_
      refine TC_seq ?_
      refine TC_reg ?_
      obtain ⟨g, h1⟩ := gd_t h1
      refine TL_ev env 2 rfl ⟨⟨trivial, ⟨trivial, ⟨g.1, g.2⟩⟩⟩, ⟨trivial, trivial⟩⟩ ?_
      refine TL_end ?_
      refine TE_go ?_
      refine TC_seq ?_
      refine TC_reg ?_
      refine TL_ev env 6 rfl ⟨trivial, ⟨⟨trivial, ⟨trivial, trivial⟩⟩, ⟨trivial, ⟨fun _ => trivial, ⟨fun _ => ⟨fun e => e, ⟨trivial, trivial⟩⟩, ⟨⟨trivial, ⟨trivial, fun e => e⟩⟩, trivial⟩⟩⟩⟩⟩⟩ ?_
      refine TL_end ?_
      refine TE_go ?_
      refine TC_cond rfl (fun hb => ?_) (fun hb => ?_)
      · replace h1 := bif_t h1 hb
        refine TC_seq ?_
        refine TC_reg ?_
        refine TL_ev env 1 rfl ⟨trivial, trivial⟩ ?_
        refine TL_end ?_
        refine TE_go ?_
        refine TC_ret ?_
        refine tbr ?_
        refine tsr ?_
        refine tsr ?_
        refine tbr ?_
        refine tsr ?_
        refine tsr ?_
        obtain rfl := sinj h1
        obtain rfl := sinj h0
        exact TE_ret env rfl trivial trivial
      · replace h1 := bif_f h1 hb
        refine TC_skip ?_
        refine tbn ?_
        refine TE_go ?_
        refine TC_reg ?_
        refine TL_ev env 2 rfl ⟨⟨trivial, ⟨trivial, trivial⟩⟩, ⟨trivial, trivial⟩⟩ ?_
        refine TL_end ?_
        refine tsn ?_
        exact TE_nextr [] n (Nat.lt_succ_self n) (_, _, _, _, _) h1 ⟨rfl, rfl, trivial⟩ trivial rfl
    · replace h1 := bif_f h1 hb
      refine TC_exit ?_
      refine tsx ?_
      refine tsx ?_
      refine tbe ?_
      obtain rfl := sinj h1
      refine tsn ?_
      exact SP_ren [] () rfl trivial trivial rfl
  · rintro ⟨⟩ rfl
    refine TE_go ?_
    refine TC_seq ?_
    refine TC_reg ?_
    refine TL_ev env 1 rfl ⟨trivial, trivial⟩ ?_
    refine TL_end ?_
    refine TE_go ?_
    refine TC_ret ?_
    obtain rfl := sinj h0
    exact TE_ret env rfl trivial trivial
theorem weather_Check.ok0 {K : Nat} {p0 : Int} {p1 : Int} {p2 : Int} {p3 : Int} {q0 : Int} (h0 : weather_Check K p0 p1 p2 p3 = some q0) : Fn Try.prog 24 [.agg [.int .i64 p0, .int .i64 p1, .int .i64 p2, .int .i64 p3]] [] (.int .i64 q0) [] := weather_Check.ok h0
theorem weather_Check.fnb : fnb Try.prog 24 = true := fnb_of Try.func24 rfl
def weather_New.res (_p0 : Int) (_p1 : Int) (_p2 : Int) (_p3 : Int) (_p4 : Int) : (Int) ⊕ (Unit) → MV
  | .inl q0 => .tup [.nilp, .int .i64 q0]
  | .inr () => .tup [.p 1000 0, .int .i64 0]
def weather_New.out (p0 : Int) (p1 : Int) (p2 : Int) (p3 : Int) (p4 : Int) : (Int) ⊕ (Unit) → List (Nat × Option MObj)
  | .inl _ => []
  | .inr () => [(1000, some (.cells [.int .i64 p0, .int .i64 p1, .int .i64 p2, .int .i64 p3, .int .u32 p4, .bool false]))]
theorem weather_New.ok {K : Nat} {p0 : Int} {p1 : Int} {p2 : Int} {p3 : Int} {p4 : Int} {r : (Int) ⊕ (Unit)} (h0 : weather_New K p0 p1 p2 p3 p4 = some r) : Fn Try.prog 22 [.agg [.int .i64 p0, .int .i64 p1, .int .i64 p2, .int .i64 p3], .int .u32 p4] [] (weather_New.res p0 p1 p2 p3 p4 r) (weather_New.out p0 p1 p2 p3 p4 r) := by
  refine Fn_of Try.func22 rfl (Nat.le_of_ble_eq_true rfl) fun Γ => ?_
  refine TC_seq ?_
  refine TC_reg ?_
  refine TL_ev env 3 rfl ⟨trivial, ⟨trivial, ⟨trivial, trivial⟩⟩⟩ ?_
  refine TL_end ?_
  refine TE_go ?_
  refine TC_seq ?_
  refine TC_seq ?_
  refine TC_reg ?_
  refine TL_ev env 1 rfl ⟨⟨trivial, trivial⟩, trivial⟩ ?_
  obtain ⟨r2, hr, h0⟩ := bnd h0
  refine TL_callB [] (weather_Check.ok0 hr) weather_Check.fnb rfl ⟨trivial, ⟨trivial, trivial⟩⟩ rfl trivial rfl ?_
  refine TL_ev env 1 rfl ⟨trivial, trivial⟩ ?_
  refine TL_end ?_
  refine TE_go ?_
  refine TC_seq ?_
  refine TC_reg ?_
  refine TL_ev env 2 rfl ⟨trivial, ⟨⟨trivial, ⟨trivial, trivial⟩⟩, trivial⟩⟩ ?_
  refine TL_end ?_
  refine TE_go ?_
  refine TC_cond rfl (fun hb => ?_) (fun hb => ?_)
  · replace h0 := bif_t h0 hb
    refine TC_seq ?_
    refine TC_reg ?_
    refine TL_ev env 3 rfl ⟨trivial, ⟨trivial, ⟨trivial, trivial⟩⟩⟩ ?_
    refine TL_end ?_
    refine TE_go ?_
    refine TC_ret ?_
    refine tsr ?_
    obtain rfl := sinj h0
    exact TE_ret env rfl trivial trivial
  · replace h0 := bif_f h0 hb
    refine TC_skip ?_
    refine TE_go ?_
    refine TC_seq ?_
    refine TC_reg ?_
    refine TL_ev env 6 rfl ⟨⟨trivial, trivial⟩, ⟨trivial, ⟨⟨trivial, ⟨trivial, trivial⟩⟩, ⟨trivial, ⟨trivial, ⟨trivial, trivial⟩⟩⟩⟩⟩⟩ ?_
    refine TL_end ?_
    refine TE_go ?_
    refine TC_ret ?_
    obtain rfl := sinj h0
    refine TE_renw (A' := [(4, .p 1000 0), (5, .int .i64 0)]) (L' := [(1000, some (.cells [.int .i64 _, .int .i64 _, .int .i64 _, .int .i64 _, .int .u32 _, .bool false]))]) [(1000, 1015)] ⟨rfl, rfl, trivial⟩ ⟨rfl, trivial⟩ rfl ?_
    exact TE_ret env rfl trivial ⟨.inr rfl, trivial⟩
theorem weather_New.ok0 {K : Nat} {p0 : Int} {p1 : Int} {p2 : Int} {p3 : Int} {p4 : Int} {q0 : Int} (h0 : weather_New K p0 p1 p2 p3 p4 = some (.inl q0)) : Fn Try.prog 22 [.agg [.int .i64 p0, .int .i64 p1, .int .i64 p2, .int .i64 p3], .int .u32 p4] [] (.tup [.nilp, .int .i64 q0]) [] := weather_New.ok h0
theorem weather_New.ok1 {K : Nat} {p0 : Int} {p1 : Int} {p2 : Int} {p3 : Int} {p4 : Int}  (h0 : weather_New K p0 p1 p2 p3 p4 = some (.inr ())) : Fn Try.prog 22 [.agg [.int .i64 p0, .int .i64 p1, .int .i64 p2, .int .i64 p3], .int .u32 p4] [] (.tup [.p 1000 0, .int .i64 0]) [(1000, some (.cells [.int .i64 p0, .int .i64 p1, .int .i64 p2, .int .i64 p3, .int .u32 p4, .bool false]))] := weather_New.ok h0
theorem weather_New.fnb : fnb Try.prog 22 = true := fnb_of Try.func22 rfl
def weather_Weather_Draw.res  : Unit → MV
  | () => .int .i64 0
def weather_Weather_Draw.out  : Unit → List (Nat × Option MObj)
  | () => []
theorem weather_Weather_Draw.ok {K : Nat}  {r : Unit} (h0 : weather_Weather_Draw K  = some r) : Fn Try.prog 26 [.nilp] [] (weather_Weather_Draw.res  r) (weather_Weather_Draw.out  r) := by
  refine Fn_of Try.func26 rfl (Nat.le_of_ble_eq_true rfl) fun Γ => ?_
  refine TC_seq ?_
  refine TC_reg ?_
  refine TL_ev env 1 rfl ⟨trivial, trivial⟩ ?_
  refine TL_end ?_
  refine TE_go ?_
  refine TC_seq ?_
  refine TC_seq ?_
  refine TC_reg ?_
  refine TL_ev env 2 rfl ⟨trivial, ⟨⟨trivial, ⟨trivial, trivial⟩⟩, trivial⟩⟩ ?_
  refine TL_end ?_
  refine TE_go ?_
  refine TC_cond rfl (fun hb => ?_) (fun hb => ?_)
  · refine TC_seq ?_
    refine TC_reg ?_
    refine TL_ev env 1 rfl ⟨trivial, trivial⟩ ?_
    refine TL_end ?_
    refine TE_go ?_
    refine TC_ret ?_
    refine tsr ?_
    obtain rfl := sinj h0
    exact TE_ret env rfl trivial trivial
  · first | exact (ftf hb).elim | exact (tff hb).elim | exact absurd hb (by decide)
theorem weather_Weather_Draw.ok0 {K : Nat}   (h0 : weather_Weather_Draw K  = some ()) : Fn Try.prog 26 [.nilp] [] (.int .i64 0) [] := weather_Weather_Draw.ok h0
theorem weather_Weather_Draw.fnb : fnb Try.prog 26 = true := fnb_of Try.func26 rfl
def weather_Weather_Draw_2.res (_p0 : Int) (_p1 : Int) (_p2 : Int) (_p3 : Int) (_p4 : Int) (_p5 : Bool) : Int × Int → MV
  | (q0, _) => .int .i64 q0
def weather_Weather_Draw_2.out (p0 : Int) (p1 : Int) (p2 : Int) (p3 : Int) (_p4 : Int) (p5 : Bool) : Int × Int → List (Nat × Option MObj)
  | (_, q1) => [(0, some (.cells [.int .i64 p0, .int .i64 p1, .int .i64 p2, .int .i64 p3, .int .u32 q1, .bool p5]))]
theorem weather_Weather_Draw_2.ok {K : Nat} {p0 : Int} {p1 : Int} {p2 : Int} {p3 : Int} {p4 : Int} {p5 : Bool} {r : Int × Int} (h0 : weather_Weather_Draw_2 K p0 p1 p2 p3 p4 p5 = some r) : Fn Try.prog 26 [.p 0 0] [(0, some (.cells [.int .i64 p0, .int .i64 p1, .int .i64 p2, .int .i64 p3, .int .u32 p4, .bool p5]))] (weather_Weather_Draw_2.res p0 p1 p2 p3 p4 p5 r) (weather_Weather_Draw_2.out p0 p1 p2 p3 p4 p5 r) := by
  refine Fn_of Try.func26 rfl (Nat.le_of_ble_eq_true rfl) fun Γ => ?_
  refine TC_seq ?_
  refine TC_reg ?_
  refine TL_ev env 1 rfl ⟨trivial, trivial⟩ ?_
  refine TL_end ?_
  refine TE_go ?_
  refine TC_seq ?_
  refine TC_seq ?_
  refine TC_reg ?_
  refine TL_ev env 2 rfl ⟨trivial, ⟨⟨trivial, ⟨trivial, trivial⟩⟩, trivial⟩⟩ ?_
  refine TL_end ?_
  refine TE_go ?_
  refine TC_cond rfl (fun hb => ?_) (fun hb => ?_)
  · first | exact (ftf hb).elim | exact (tff hb).elim | exact absurd hb (by decide)
  · refine TC_skip ?_
    refine TE_go ?_
    refine TC_seq ?_
    refine TC_reg ?_
    refine TL_ev env 10 rfl ⟨trivial, ⟨trivial, ⟨trivial, ⟨trivial, ⟨⟨trivial, trivial⟩, ⟨⟨trivial, ⟨trivial, trivial⟩⟩, ⟨⟨trivial, ⟨trivial, trivial⟩⟩, ⟨trivial, ⟨trivial, ⟨⟨trivial, trivial⟩, trivial⟩⟩⟩⟩⟩⟩⟩⟩⟩⟩ ?_
    refine TL_end ?_
    refine TE_go ?_
    refine TC_seq ?_
    refine TC_reg ?_
    refine TL_ev env 7 rfl ⟨trivial, ⟨trivial, ⟨trivial, ⟨⟨trivial, trivial⟩, ⟨⟨trivial, ⟨trivial, (by decide)⟩⟩, ⟨trivial, ⟨trivial, trivial⟩⟩⟩⟩⟩⟩⟩ ?_
    refine TL_end ?_
    refine TE_go ?_
    refine TC_ret ?_
    obtain rfl := sinj h0
    exact TE_ret env rfl trivial ⟨.inr rfl, trivial⟩
theorem weather_Weather_Draw_2.ok0 {K : Nat} {p0 : Int} {p1 : Int} {p2 : Int} {p3 : Int} {p4 : Int} {p5 : Bool} {q0 : Int} {q1 : Int} (h0 : weather_Weather_Draw_2 K p0 p1 p2 p3 p4 p5 = some (q0, q1)) : Fn Try.prog 26 [.p 0 0] [(0, some (.cells [.int .i64 p0, .int .i64 p1, .int .i64 p2, .int .i64 p3, .int .u32 p4, .bool p5]))] (.int .i64 q0) [(0, some (.cells [.int .i64 p0, .int .i64 p1, .int .i64 p2, .int .i64 p3, .int .u32 q1, .bool p5]))] := weather_Weather_Draw_2.ok h0
theorem weather_Weather_Draw_2.fnb : fnb Try.prog 26 = true := fnb_of Try.func26 rfl
def weather_Weather_Fair.res (_p0 : Int) (_p1 : Int) (_p2 : Int) (_p3 : Int) (_p4 : Int) (_p5 : Bool) : Bool → MV
  | q0 => .bool q0
def weather_Weather_Fair.out (p0 : Int) (p1 : Int) (p2 : Int) (p3 : Int) (p4 : Int) (p5 : Bool) : Bool → List (Nat × Option MObj)
  | _ => [(0, some (.cells [.int .i64 p0, .int .i64 p1, .int .i64 p2, .int .i64 p3, .int .u32 p4, .bool p5]))]
theorem weather_Weather_Fair.ok {K : Nat} {p0 : Int} {p1 : Int} {p2 : Int} {p3 : Int} {p4 : Int} {p5 : Bool} {r : Bool} (h0 : weather_Weather_Fair K p0 p1 p2 p3 p4 p5 = some r) : Fn Try.prog 30 [.p 0 0] [(0, some (.cells [.int .i64 p0, .int .i64 p1, .int .i64 p2, .int .i64 p3, .int .u32 p4, .bool p5]))] (weather_Weather_Fair.res p0 p1 p2 p3 p4 p5 r) (weather_Weather_Fair.out p0 p1 p2 p3 p4 p5 r) := by
  refine Fn_of Try.func30 rfl (Nat.le_of_ble_eq_true rfl) fun Γ => ?_
  refine TC_seq ?_
  refine TC_reg ?_
  refine TL_ev env 1 rfl ⟨trivial, trivial⟩ ?_
  refine TL_end ?_
  refine TE_go ?_
  refine TC_seq ?_
  refine TC_reg ?_
  refine TL_ev env 3 rfl ⟨trivial, ⟨⟨trivial, ⟨trivial, trivial⟩⟩, ⟨trivial, trivial⟩⟩⟩ ?_
  refine TL_gt rfl rfl rfl rfl ?_
  refine TL_ev env 1 rfl ⟨trivial, trivial⟩ ?_
  refine TL_gt rfl rfl rfl rfl ?_
  refine TL_ev env 1 rfl ⟨trivial, trivial⟩ ?_
  refine TL_gt rfl rfl rfl rfl ?_
  refine TL_ev env 1 rfl ⟨trivial, trivial⟩ ?_
  refine TL_gt rfl rfl rfl rfl ?_
  refine TL_ev env 1 rfl ⟨⟨trivial, trivial⟩, trivial⟩ ?_
  refine TL_gt rfl rfl rfl rfl ?_
  refine TL_ev env 3 rfl ⟨trivial, ⟨⟨trivial, ⟨trivial, trivial⟩⟩, ⟨trivial, trivial⟩⟩⟩ ?_
  refine TL_end ?_
  refine TE_go ?_
  refine TC_ret ?_
  obtain rfl := sinj h0
  exact TE_ret env rfl trivial ⟨.inr rfl, trivial⟩
theorem weather_Weather_Fair.ok0 {K : Nat} {p0 : Int} {p1 : Int} {p2 : Int} {p3 : Int} {p4 : Int} {p5 : Bool} {q0 : Bool} (h0 : weather_Weather_Fair K p0 p1 p2 p3 p4 p5 = some q0) : Fn Try.prog 30 [.p 0 0] [(0, some (.cells [.int .i64 p0, .int .i64 p1, .int .i64 p2, .int .i64 p3, .int .u32 p4, .bool p5]))] (.bool q0) [(0, some (.cells [.int .i64 p0, .int .i64 p1, .int .i64 p2, .int .i64 p3, .int .u32 p4, .bool p5]))] := weather_Weather_Fair.ok h0
theorem weather_Weather_Fair.fnb : fnb Try.prog 30 = true := fnb_of Try.func30 rfl
def weather_Weather_of.res (_p0 : Int) (_p1 : Int) (_p2 : Int) (_p3 : Int) (_p4 : Int) (_p5 : Int) (_p6 : Int) (_p7 : Bool) : Int → MV
  | q0 => .int .i64 q0
def weather_Weather_of.out (_p0 : Int) (_p1 : Int) (p2 : Int) (p3 : Int) (p4 : Int) (p5 : Int) (p6 : Int) (p7 : Bool) : Int → List (Nat × Option MObj)
  | _ => [(0, some (.cells [.int .i64 p2, .int .i64 p3, .int .i64 p4, .int .i64 p5, .int .u32 p6, .bool p7]))]
theorem weather_Weather_of.ok {K : Nat} {p0 : Int} {p1 : Int} {p2 : Int} {p3 : Int} {p4 : Int} {p5 : Int} {p6 : Int} {p7 : Bool} {r : Int} (h0 : weather_Weather_of K p0 p1 p2 p3 p4 p5 p6 p7 = some r) : Fn Try.prog 83 [.p 0 0, .int .i64 p0, .int .i64 p1] [(0, some (.cells [.int .i64 p2, .int .i64 p3, .int .i64 p4, .int .i64 p5, .int .u32 p6, .bool p7]))] (weather_Weather_of.res p0 p1 p2 p3 p4 p5 p6 p7 r) (weather_Weather_of.out p0 p1 p2 p3 p4 p5 p6 p7 r) := by
  refine Fn_of Try.func83 rfl (Nat.le_of_ble_eq_true rfl) fun Γ => ?_
  refine TC_seq ?_
  refine TC_reg ?_
  refine TL_ev env 1 rfl ⟨trivial, trivial⟩ ?_
  refine TL_end ?_
  refine TE_go ?_
  refine TC_seq ?_
  refine TC_seq ?_
  refine TC_reg ?_
  refine TL_ev env 4 rfl ⟨trivial, ⟨trivial, ⟨trivial, ⟨⟨trivial, trivial⟩, trivial⟩⟩⟩⟩ ?_
  refine TL_end ?_
  refine TE_go ?_
  refine TC_cond rfl (fun hb => ?_) (fun hb => ?_)
  · replace h0 := bif_t h0 hb
    refine TC_seq ?_
    refine TC_reg ?_
    refine TL_ev env 2 rfl ⟨trivial, ⟨trivial, trivial⟩⟩ ?_
    refine TL_end ?_
    refine TE_go ?_
    refine TC_ret ?_
    refine tsr ?_
    obtain rfl := sinj h0
    exact TE_ret env rfl trivial ⟨.inr rfl, trivial⟩
  · replace h0 := bif_f h0 hb
    refine TC_skip ?_
    refine TE_go ?_
    refine TC_seq ?_
    refine TC_reg ?_
    refine TL_ev env 2 rfl ⟨trivial, ⟨trivial, trivial⟩⟩ ?_
    refine TL_end ?_
    refine TE_go ?_
    refine TC_ret ?_
    obtain rfl := sinj h0
    exact TE_ret env rfl trivial ⟨.inr rfl, trivial⟩
theorem weather_Weather_of.ok0 {K : Nat} {p0 : Int} {p1 : Int} {p2 : Int} {p3 : Int} {p4 : Int} {p5 : Int} {p6 : Int} {p7 : Bool} {q0 : Int} (h0 : weather_Weather_of K p0 p1 p2 p3 p4 p5 p6 p7 = some q0) : Fn Try.prog 83 [.p 0 0, .int .i64 p0, .int .i64 p1] [(0, some (.cells [.int .i64 p2, .int .i64 p3, .int .i64 p4, .int .i64 p5, .int .u32 p6, .bool p7]))] (.int .i64 q0) [(0, some (.cells [.int .i64 p2, .int .i64 p3, .int .i64 p4, .int .i64 p5, .int .u32 p6, .bool p7]))] := weather_Weather_of.ok h0
theorem weather_Weather_of.fnb : fnb Try.prog 83 = true := fnb_of Try.func83 rfl
def weather_Weather_comes.res (_p0 : Int) (_p1 : Int) (_p2 : Int) (_p3 : Int) (_p4 : Int) (_p5 : Int) (_p6 : Bool) : Bool × Int → MV
  | (q0, _) => .bool q0
def weather_Weather_comes.out (_p0 : Int) (p1 : Int) (p2 : Int) (p3 : Int) (p4 : Int) (_p5 : Int) (p6 : Bool) : Bool × Int → List (Nat × Option MObj)
  | (_, q1) => [(0, some (.cells [.int .i64 p1, .int .i64 p2, .int .i64 p3, .int .i64 p4, .int .u32 q1, .bool p6]))]
theorem weather_Weather_comes.ok {K : Nat} {p0 : Int} {p1 : Int} {p2 : Int} {p3 : Int} {p4 : Int} {p5 : Int} {p6 : Bool} {r : Bool × Int} (h0 : weather_Weather_comes K p0 p1 p2 p3 p4 p5 p6 = some r) : Fn Try.prog 82 [.p 0 0, .int .i64 p0] [(0, some (.cells [.int .i64 p1, .int .i64 p2, .int .i64 p3, .int .i64 p4, .int .u32 p5, .bool p6]))] (weather_Weather_comes.res p0 p1 p2 p3 p4 p5 p6 r) (weather_Weather_comes.out p0 p1 p2 p3 p4 p5 p6 r) := by
  refine Fn_of Try.func82 rfl (Nat.le_of_ble_eq_true rfl) fun Γ => ?_
  refine TC_seq ?_
  refine TC_reg ?_
  refine TL_ev env 1 rfl ⟨trivial, trivial⟩ ?_
  refine TL_end ?_
  refine TE_go ?_
  refine TC_seq ?_
  refine TC_reg ?_
  refine TL_ev env 1 rfl ⟨trivial, trivial⟩ ?_
  obtain ⟨⟨r3, r4⟩, hr, h0⟩ := bnd h0
  refine TL_callB [(0, 0)] (weather_Weather_Draw_2.ok0 hr) weather_Weather_Draw_2.fnb rfl ⟨trivial, ⟨trivial, trivial⟩⟩ rfl ⟨.inr rfl, trivial⟩ rfl ?_
  refine TL_ev env 3 rfl ⟨trivial, ⟨⟨trivial, ⟨trivial, trivial⟩⟩, ⟨trivial, trivial⟩⟩⟩ ?_
  refine TL_end ?_
  refine TE_go ?_
  refine TC_ret ?_
  obtain rfl := sinj h0
  exact TE_ret env rfl trivial ⟨.inr rfl, trivial⟩
theorem weather_Weather_comes.ok0 {K : Nat} {p0 : Int} {p1 : Int} {p2 : Int} {p3 : Int} {p4 : Int} {p5 : Int} {p6 : Bool} {q0 : Bool} {q1 : Int} (h0 : weather_Weather_comes K p0 p1 p2 p3 p4 p5 p6 = some (q0, q1)) : Fn Try.prog 82 [.p 0 0, .int .i64 p0] [(0, some (.cells [.int .i64 p1, .int .i64 p2, .int .i64 p3, .int .i64 p4, .int .u32 p5, .bool p6]))] (.bool q0) [(0, some (.cells [.int .i64 p1, .int .i64 p2, .int .i64 p3, .int .i64 p4, .int .u32 q1, .bool p6]))] := weather_Weather_comes.ok h0
theorem weather_Weather_comes.fnb : fnb Try.prog 82 = true := fnb_of Try.func82 rfl
def weather_Weather_Lost.res (_p0 : Int) (_p1 : Int) (_p2 : Int) (_p3 : Int) (_p4 : Int) (_p5 : Bool) : Bool × Int × Int × Int × Int × Int × Bool → MV
  | (q0, _, _, _, _, _, _) => .bool q0
def weather_Weather_Lost.out (_p0 : Int) (_p1 : Int) (_p2 : Int) (_p3 : Int) (_p4 : Int) (_p5 : Bool) : Bool × Int × Int × Int × Int × Int × Bool → List (Nat × Option MObj)
  | (_, q1, q2, q3, q4, q5, q6) => [(0, some (.cells [.int .i64 q1, .int .i64 q2, .int .i64 q3, .int .i64 q4, .int .u32 q5, .bool q6]))]
theorem weather_Weather_Lost.ok {K : Nat} {p0 : Int} {p1 : Int} {p2 : Int} {p3 : Int} {p4 : Int} {p5 : Bool} {r : Bool × Int × Int × Int × Int × Int × Bool} (h0 : weather_Weather_Lost K p0 p1 p2 p3 p4 p5 = some r) : Fn Try.prog 28 [.p 0 0] [(0, some (.cells [.int .i64 p0, .int .i64 p1, .int .i64 p2, .int .i64 p3, .int .u32 p4, .bool p5]))] (weather_Weather_Lost.res p0 p1 p2 p3 p4 p5 r) (weather_Weather_Lost.out p0 p1 p2 p3 p4 p5 r) := by
  refine Fn_of Try.func28 rfl (Nat.le_of_ble_eq_true rfl) fun Γ => ?_
  refine TC_seq ?_
  refine TC_reg ?_
  refine TL_ev env 1 rfl ⟨trivial, trivial⟩ ?_
  refine TL_end ?_
  refine TE_go ?_
  refine TC_seq ?_
  refine TC_seq ?_
  refine TC_reg ?_
  refine TL_ev env 2 rfl ⟨trivial, ⟨⟨trivial, ⟨trivial, trivial⟩⟩, trivial⟩⟩ ?_
  refine TL_end ?_
  refine TE_go ?_
  refine TC_cond rfl (fun hb => ?_) (fun hb => ?_)
  · first | exact (ftf hb).elim | exact (tff hb).elim | exact absurd hb (by decide)
  · refine TC_skip ?_
    refine TE_go ?_
    refine TC_seq ?_
    refine TC_seq ?_
    refine TC_renw (A' := [(0, .p 0 0)]) (L' := [(0, some (.cells [.int .i64 _, .int .i64 _, .int .i64 _, .int .i64 _, .int .u32 _, .bool _]))]) [] ⟨rfl, trivial⟩ ⟨rfl, trivial⟩ rfl ?_
    refine TC_drawR ⟨_, fun i => ([[], [], [], [2], [3, 2], [4, 3, 2], [5, 4, 3, 2], [], [7], [8, 7], [9, 8, 7], [10, 9, 8, 7], [11, 10, 9, 8, 7, 6, 5, 4, 3, 2, 1], [12, 11, 10, 9, 8, 7, 6, 5, 4, 3, 2, 1, 0]] : List (List Nat)).getD i [], fun i => ([[], [], [], [], [], [], [], [], [], [], [], [], [0], [0]] : List (List Nat)).getD i [], fun i => ([[], [], [], [], [], [], [], [], [], [], [], [], [], []] : List (List Nat)).getD i []⟩ (fun i => ([[0], [], [], [], [], [], [], [], [], [], [], [], [], []] : List (List Nat)).getD i []) rfl rfl ?_
    refine AJR_ev env 1 rfl (Nat.le_of_ble_eq_true rfl) rfl trivial ?_
    refine AJR_ev env 2 rfl (Nat.le_of_ble_eq_true rfl) rfl trivial ?_
    refine AJR_ev env 3 rfl (Nat.le_of_ble_eq_true rfl) rfl trivial ?_
    refine AJR_ev env 4 rfl (Nat.le_of_ble_eq_true rfl) rfl trivial ?_
    refine AJR_ev env 5 rfl (Nat.le_of_ble_eq_true rfl) rfl trivial ?_
    refine AJR_ev env 6 rfl (Nat.le_of_ble_eq_true rfl) rfl trivial ?_
    refine AJR_ev env 7 rfl (Nat.le_of_ble_eq_true rfl) rfl ⟨trivial, trivial⟩ ?_
    refine AJR_ev env 8 rfl (Nat.le_of_ble_eq_true rfl) rfl trivial ?_
    refine AJR_ev env 9 rfl (Nat.le_of_ble_eq_true rfl) rfl trivial ?_
    refine AJR_ev env 10 rfl (Nat.le_of_ble_eq_true rfl) rfl trivial ?_
    refine AJR_ev env 11 rfl (Nat.le_of_ble_eq_true rfl) rfl trivial ?_
    refine AJR_ev env 12 rfl (Nat.le_of_ble_eq_true rfl) rfl ⟨trivial, trivial⟩ ?_
    obtain ⟨r13, hr, h0⟩ := bnd h0
    refine AJR_call 13 rfl (Nat.le_of_ble_eq_true rfl) [(0, 0)] rfl (weather_Weather_of.ok0 hr) weather_Weather_of.fnb rfl ⟨trivial, ⟨trivial, ⟨trivial, ⟨trivial, trivial⟩⟩⟩⟩ rfl ⟨.inr rfl, trivial⟩ rfl ?_
    obtain ⟨⟨r14, r15⟩, hr, h0⟩ := bnd h0
    refine AJR_call 14 rfl (Nat.le_of_ble_eq_true rfl) [(0, 0)] rfl (weather_Weather_comes.ok0 hr) weather_Weather_comes.fnb rfl ⟨trivial, ⟨trivial, ⟨trivial, trivial⟩⟩⟩ rfl ⟨.inr rfl, trivial⟩ rfl ?_
    refine AJR_end rfl rfl rfl ?_
    refine TE_go ?_
    obtain ⟨z1, h1, h0⟩ := bnd h0
    refine TC_cut (α := Int × Int × Int × Int × Int × Bool) (fun s => z1 = s) (fun s => [(0, .p 0 0)]) (fun s => [(0, some (.cells [.int .i64 s.1, .int .i64 s.2.1, .int .i64 s.2.2.1, .int .i64 s.2.2.2.1, .int .u32 s.2.2.2.2.1, .bool s.2.2.2.2.2]))]) ?_ ?_
    · refine TC_cond rfl (fun hb => ?_) (fun hb => ?_)
      · replace h1 := bif_t h1 hb
        refine TC_reg ?_
        refine TL_ev env 9 rfl ⟨trivial, ⟨trivial, ⟨trivial, ⟨trivial, ⟨⟨trivial, trivial⟩, ⟨trivial, ⟨trivial, ⟨trivial, ⟨⟨trivial, trivial⟩, trivial⟩⟩⟩⟩⟩⟩⟩⟩⟩ ?_
        refine TL_end ?_
        obtain rfl := sinj h1
        refine tsn ?_
        exact SP_ren [] (_, _, _, _, _, _) rfl ⟨rfl, trivial⟩ ⟨rfl, trivial⟩ rfl
      · replace h1 := bif_f h1 hb
        refine TC_skip ?_
        obtain rfl := sinj h1
        refine tsn ?_
        exact SP_ren [] (_, _, _, _, _, _) rfl ⟨rfl, trivial⟩ ⟨rfl, trivial⟩ rfl
    · rintro ⟨x16, x17, x18, x19, x20, x21⟩ rfl
      refine TE_go ?_
      refine TC_seq ?_
      refine TC_renw (A' := [(0, .p 0 0)]) (L' := [(0, some (.cells [.int .i64 _, .int .i64 _, .int .i64 _, .int .i64 _, .int .u32 _, .bool _]))]) [] ⟨rfl, trivial⟩ ⟨rfl, trivial⟩ rfl ?_
      refine TC_drawR ⟨_, fun i => ([[], [], [], [2], [3, 2], [4, 3, 2], [5, 4, 3, 2], [], [7], [8, 7], [9, 8, 7], [10, 9, 8, 7], [11, 10, 9, 8, 7, 6, 5, 4, 3, 2, 1], [12, 11, 10, 9, 8, 7, 6, 5, 4, 3, 2, 1, 0], [13, 12, 11, 10, 9, 8, 7, 6, 5, 4, 3, 2, 1, 0]] : List (List Nat)).getD i [], fun i => ([[], [], [], [], [], [], [], [], [], [], [], [], [0], [0], []] : List (List Nat)).getD i [], fun i => ([[], [], [], [], [], [], [], [], [], [], [], [], [], [], []] : List (List Nat)).getD i []⟩ (fun i => ([[0], [], [], [], [], [], [], [], [], [], [], [], [], [], []] : List (List Nat)).getD i []) rfl rfl ?_
      refine AJR_ev env 1 rfl (Nat.le_of_ble_eq_true rfl) rfl trivial ?_
      refine AJR_ev env 2 rfl (Nat.le_of_ble_eq_true rfl) rfl trivial ?_
      refine AJR_ev env 3 rfl (Nat.le_of_ble_eq_true rfl) rfl trivial ?_
      refine AJR_ev env 4 rfl (Nat.le_of_ble_eq_true rfl) rfl trivial ?_
      refine AJR_ev env 5 rfl (Nat.le_of_ble_eq_true rfl) rfl trivial ?_
      refine AJR_ev env 6 rfl (Nat.le_of_ble_eq_true rfl) rfl trivial ?_
      refine AJR_ev env 7 rfl (Nat.le_of_ble_eq_true rfl) rfl ⟨trivial, trivial⟩ ?_
      refine AJR_ev env 8 rfl (Nat.le_of_ble_eq_true rfl) rfl trivial ?_
      refine AJR_ev env 9 rfl (Nat.le_of_ble_eq_true rfl) rfl trivial ?_
      refine AJR_ev env 10 rfl (Nat.le_of_ble_eq_true rfl) rfl trivial ?_
      refine AJR_ev env 11 rfl (Nat.le_of_ble_eq_true rfl) rfl trivial ?_
      refine AJR_ev env 12 rfl (Nat.le_of_ble_eq_true rfl) rfl ⟨trivial, trivial⟩ ?_
      obtain ⟨r22, hr, h0⟩ := bnd h0
      refine AJR_call 13 rfl (Nat.le_of_ble_eq_true rfl) [(0, 0)] rfl (weather_Weather_of.ok0 hr) weather_Weather_of.fnb rfl ⟨trivial, ⟨trivial, ⟨trivial, ⟨trivial, trivial⟩⟩⟩⟩ rfl ⟨.inr rfl, trivial⟩ rfl ?_
      obtain ⟨⟨r23, r24⟩, hr, h0⟩ := bnd h0
      refine AJR_call 14 rfl (Nat.le_of_ble_eq_true rfl) [(0, 0)] rfl (weather_Weather_comes.ok0 hr) weather_Weather_comes.fnb rfl ⟨trivial, ⟨trivial, ⟨trivial, trivial⟩⟩⟩ rfl ⟨.inr rfl, trivial⟩ rfl ?_
      refine AJR_ev env 15 rfl (Nat.le_of_ble_eq_true rfl) rfl trivial ?_
      refine AJR_end rfl rfl rfl ?_
      refine TE_go ?_
      refine TC_ret ?_
      obtain rfl := sinj h0
      exact TE_ret env rfl trivial ⟨.inr rfl, trivial⟩
theorem weather_Weather_Lost.ok0 {K : Nat} {p0 : Int} {p1 : Int} {p2 : Int} {p3 : Int} {p4 : Int} {p5 : Bool} {q0 : Bool} {q1 : Int} {q2 : Int} {q3 : Int} {q4 : Int} {q5 : Int} {q6 : Bool} (h0 : weather_Weather_Lost K p0 p1 p2 p3 p4 p5 = some (q0, q1, q2, q3, q4, q5, q6)) : Fn Try.prog 28 [.p 0 0] [(0, some (.cells [.int .i64 p0, .int .i64 p1, .int .i64 p2, .int .i64 p3, .int .u32 p4, .bool p5]))] (.bool q0) [(0, some (.cells [.int .i64 q1, .int .i64 q2, .int .i64 q3, .int .i64 q4, .int .u32 q5, .bool q6]))] := weather_Weather_Lost.ok h0
theorem weather_Weather_Lost.fnb : fnb Try.prog 28 = true := fnb_of Try.func28 rfl
def psalterylaw32_alive.res  : Bool → MV
  | q0 => .bool q0
def psalterylaw32_alive.out  : Bool → List (Nat × Option MObj)
  | _ => []
theorem psalterylaw32_alive.ok {K : Nat}  {r : Bool} (h0 : psalterylaw32_alive K  = some r) : Fn Try.prog 21 [] [] (psalterylaw32_alive.res  r) (psalterylaw32_alive.out  r) := by
  refine Fn_of Try.func21 rfl (Nat.le_of_ble_eq_true rfl) fun Γ => ?_
  refine TC_seq ?_
  refine TC_reg ?_
  refine TL_ev env 1 rfl ⟨trivial, trivial⟩ ?_
  refine TL_end ?_
  refine TE_go ?_
  refine TC_seq ?_
  refine TC_reg ?_
  refine TL_ev env 1 rfl ⟨trivial, trivial⟩ ?_
  obtain ⟨z, hr, h0⟩ := bnd h0
  rcases z with r26 | ⟨⟩
  · refine TL_callB [] (weather_New.ok0 hr) weather_New.fnb rfl ⟨trivial, ⟨trivial, ⟨trivial, trivial⟩⟩⟩ rfl trivial rfl ?_
    refine TL_ev env 5 rfl ⟨trivial, ⟨trivial, ⟨trivial, ⟨trivial, ⟨trivial, trivial⟩⟩⟩⟩⟩ ?_
    refine TL_end ?_
    refine TE_go ?_
    refine TC_seq ?_
    refine TC_reg ?_
    refine TL_ev env 1 rfl ⟨⟨trivial, trivial⟩, trivial⟩ ?_
    obtain ⟨z, hr, h0⟩ := bnd h0
    rcases z with r27 | ⟨⟩
    · refine TL_callB [] (weather_New.ok0 hr) weather_New.fnb rfl ⟨trivial, ⟨trivial, ⟨trivial, trivial⟩⟩⟩ rfl trivial rfl ?_
      refine TL_ev env 5 rfl ⟨trivial, ⟨trivial, ⟨trivial, ⟨trivial, ⟨trivial, trivial⟩⟩⟩⟩⟩ ?_
      refine TL_end ?_
      refine TE_go ?_
      refine TC_seq ?_
      obtain ⟨z1, h1, h0⟩ := bnd h0
      refine TC_cut (α := Unit) (fun _ => z1 = ()) (fun _ => [(0, .bool false)]) (fun _ => []) ?_ ?_
      · refine TC_reg ?_
        refine TL_ev env 7 rfl ⟨trivial, ⟨⟨trivial, ⟨trivial, trivial⟩⟩, ⟨trivial, ⟨fun _ => trivial, ⟨fun _ => ⟨fun e => e, ⟨trivial, trivial⟩⟩, ⟨⟨trivial, ⟨fun e => e, trivial⟩⟩, ⟨trivial, trivial⟩⟩⟩⟩⟩⟩⟩ ?_
        refine TL_split 21 rfl (fun hb => ?_) (fun hb => ?_)
        · replace h1 := bif_t h1 hb
          refine TL_gt rfl rfl rfl rfl ?_
          refine TL_ev env 1 rfl ⟨trivial, trivial⟩ ?_
          refine TL_gt rfl rfl rfl rfl ?_
          obtain ⟨⟨⟩, hr, h1⟩ := bnd h1
          refine TL_callB [] (weather_Weather_Draw.ok0 hr) weather_Weather_Draw.fnb rfl ⟨trivial, ⟨trivial, trivial⟩⟩ rfl trivial rfl ?_
          refine TL_gt rfl rfl rfl rfl ?_
          refine TL_ev env 3 rfl ⟨⟨trivial, ⟨trivial, trivial⟩⟩, ⟨⟨trivial, ⟨trivial, trivial⟩⟩, ⟨trivial, trivial⟩⟩⟩ ?_
          refine TL_gf (.bool false) rfl rfl rfl rfl rfl (by decide) ?_
          refine TL_gf (.bool false) rfl rfl rfl rfl rfl (by decide) ?_
          refine TL_ev env 2 rfl ⟨⟨trivial, ⟨fun e => e, trivial⟩⟩, ⟨trivial, trivial⟩⟩ ?_
          refine TL_gf (.bool false) rfl rfl rfl rfl rfl (by decide) ?_
          refine TL_gf (.bool false) rfl rfl rfl rfl rfl (by decide) ?_
          refine TL_gf (.bool false) rfl rfl rfl rfl rfl (by decide) ?_
          refine TL_ev env 2 rfl ⟨⟨trivial, ⟨fun e => e, trivial⟩⟩, ⟨trivial, trivial⟩⟩ ?_
          refine TL_gf (.bool false) rfl rfl rfl rfl rfl (by decide) ?_
          refine TL_gf (.bool false) rfl rfl rfl rfl rfl (by decide) ?_
          refine TL_ev env 2 rfl ⟨⟨trivial, ⟨fun e => e, trivial⟩⟩, ⟨trivial, trivial⟩⟩ ?_
          refine TL_end ?_
          obtain rfl := sinj h1
          refine tsn ?_
          exact SP_ren [] () rfl ⟨rfl, trivial⟩ trivial rfl
        · replace h1 := bif_f h1 hb
          refine TL_gf (.bool false) rfl rfl rfl rfl rfl (by decide) ?_
          refine TL_gf (.bool false) rfl rfl rfl rfl rfl (by decide) ?_
          refine TL_gf (.bool false) rfl rfl rfl rfl rfl (by decide) ?_
          refine TL_ev env 2 rfl ⟨⟨trivial, ⟨fun e => e, trivial⟩⟩, ⟨trivial, trivial⟩⟩ ?_
          refine TL_gf (.bool false) rfl rfl rfl rfl rfl (by decide) ?_
          refine TL_gf (.bool false) rfl rfl rfl rfl rfl (by decide) ?_
          refine TL_ev env 2 rfl ⟨⟨trivial, ⟨fun e => e, trivial⟩⟩, ⟨trivial, trivial⟩⟩ ?_
          refine TL_gf (.bool false) rfl rfl rfl rfl rfl (by decide) ?_
          refine TL_gf (.bool false) rfl rfl rfl rfl rfl (by decide) ?_
          refine TL_gf (.bool false) rfl rfl rfl rfl rfl (by decide) ?_
          refine TL_ev env 2 rfl ⟨⟨trivial, ⟨fun e => e, trivial⟩⟩, ⟨trivial, trivial⟩⟩ ?_
          refine TL_gf (.bool false) rfl rfl rfl rfl rfl (by decide) ?_
          refine TL_gf (.bool false) rfl rfl rfl rfl rfl (by decide) ?_
          refine TL_ev env 2 rfl ⟨⟨trivial, ⟨fun e => e, trivial⟩⟩, ⟨trivial, trivial⟩⟩ ?_
          refine TL_end ?_
          obtain rfl := sinj h1
          refine tsn ?_
          exact SP_ren [] () rfl ⟨rfl, trivial⟩ trivial rfl
      · rintro ⟨⟩ rfl
        refine TE_go ?_
        refine TC_ret ?_
        obtain rfl := sinj h0
        exact TE_ret env rfl trivial trivial
    · refine TL_callB [(1000, 500120)] (weather_New.ok1 hr) weather_New.fnb rfl ⟨trivial, ⟨trivial, ⟨trivial, trivial⟩⟩⟩ rfl trivial rfl ?_
      refine TL_ev env 5 rfl ⟨trivial, ⟨trivial, ⟨trivial, ⟨trivial, ⟨trivial, trivial⟩⟩⟩⟩⟩ ?_
      refine TL_end ?_
      refine TE_go ?_
      refine TC_seq ?_
      obtain ⟨z1, h1, h0⟩ := bnd h0
      refine TC_cut (α := Unit) (fun _ => z1 = ()) (fun _ => [(0, .bool false)]) (fun _ => []) ?_ ?_
      · refine TC_reg ?_
        refine TL_ev env 7 rfl ⟨trivial, ⟨⟨trivial, ⟨trivial, trivial⟩⟩, ⟨trivial, ⟨fun _ => trivial, ⟨fun _ => ⟨fun e => e, ⟨trivial, trivial⟩⟩, ⟨⟨trivial, ⟨fun e => e, trivial⟩⟩, ⟨trivial, trivial⟩⟩⟩⟩⟩⟩⟩ ?_
        refine TL_split 21 rfl (fun hb => ?_) (fun hb => ?_)
        · replace h1 := bif_t h1 hb
          refine TL_gt rfl rfl rfl rfl ?_
          refine TL_ev env 1 rfl ⟨trivial, trivial⟩ ?_
          refine TL_gt rfl rfl rfl rfl ?_
          obtain ⟨⟨⟩, hr, h1⟩ := bnd h1
          refine TL_callB [] (weather_Weather_Draw.ok0 hr) weather_Weather_Draw.fnb rfl ⟨trivial, ⟨trivial, trivial⟩⟩ rfl trivial rfl ?_
          refine TL_gt rfl rfl rfl rfl ?_
          refine TL_ev env 3 rfl ⟨⟨trivial, ⟨trivial, trivial⟩⟩, ⟨⟨trivial, ⟨trivial, trivial⟩⟩, ⟨trivial, trivial⟩⟩⟩ ?_
          refine TL_gf (.bool false) rfl rfl rfl rfl rfl (by decide) ?_
          refine TL_gf (.bool false) rfl rfl rfl rfl rfl (by decide) ?_
          refine TL_ev env 2 rfl ⟨⟨trivial, ⟨fun e => e, trivial⟩⟩, ⟨trivial, trivial⟩⟩ ?_
          refine TL_gf (.bool false) rfl rfl rfl rfl rfl (by decide) ?_
          refine TL_gf (.bool false) rfl rfl rfl rfl rfl (by decide) ?_
          refine TL_gf (.bool false) rfl rfl rfl rfl rfl (by decide) ?_
          refine TL_ev env 2 rfl ⟨⟨trivial, ⟨fun e => e, trivial⟩⟩, ⟨trivial, trivial⟩⟩ ?_
          refine TL_gf (.bool false) rfl rfl rfl rfl rfl (by decide) ?_
          refine TL_gf (.bool false) rfl rfl rfl rfl rfl (by decide) ?_
          refine TL_ev env 2 rfl ⟨⟨trivial, ⟨fun e => e, trivial⟩⟩, ⟨trivial, trivial⟩⟩ ?_
          refine TL_end ?_
          obtain rfl := sinj h1
          refine tsn ?_
          exact SP_ren [] () rfl ⟨rfl, trivial⟩ trivial rfl
        · replace h1 := bif_f h1 hb
          refine TL_gf (.bool false) rfl rfl rfl rfl rfl (by decide) ?_
          refine TL_gf (.bool false) rfl rfl rfl rfl rfl (by decide) ?_
          refine TL_gf (.bool false) rfl rfl rfl rfl rfl (by decide) ?_
          refine TL_ev env 2 rfl ⟨⟨trivial, ⟨fun e => e, trivial⟩⟩, ⟨trivial, trivial⟩⟩ ?_
          refine TL_gf (.bool false) rfl rfl rfl rfl rfl (by decide) ?_
          refine TL_gf (.bool false) rfl rfl rfl rfl rfl (by decide) ?_
          refine TL_ev env 2 rfl ⟨⟨trivial, ⟨fun e => e, trivial⟩⟩, ⟨trivial, trivial⟩⟩ ?_
          refine TL_gf (.bool false) rfl rfl rfl rfl rfl (by decide) ?_
          refine TL_gf (.bool false) rfl rfl rfl rfl rfl (by decide) ?_
          refine TL_gf (.bool false) rfl rfl rfl rfl rfl (by decide) ?_
          refine TL_ev env 2 rfl ⟨⟨trivial, ⟨fun e => e, trivial⟩⟩, ⟨trivial, trivial⟩⟩ ?_
          refine TL_gf (.bool false) rfl rfl rfl rfl rfl (by decide) ?_
          refine TL_gf (.bool false) rfl rfl rfl rfl rfl (by decide) ?_
          refine TL_ev env 2 rfl ⟨⟨trivial, ⟨fun e => e, trivial⟩⟩, ⟨trivial, trivial⟩⟩ ?_
          refine TL_end ?_
          obtain rfl := sinj h1
          refine tsn ?_
          exact SP_ren [] () rfl ⟨rfl, trivial⟩ trivial rfl
      · rintro ⟨⟩ rfl
        refine TE_go ?_
        refine TC_ret ?_
        obtain rfl := sinj h0
        exact TE_ret env rfl trivial trivial
  · refine TL_callB [(1000, 500070)] (weather_New.ok1 hr) weather_New.fnb rfl ⟨trivial, ⟨trivial, ⟨trivial, trivial⟩⟩⟩ rfl trivial rfl ?_
    refine TL_ev env 5 rfl ⟨trivial, ⟨trivial, ⟨trivial, ⟨trivial, ⟨trivial, trivial⟩⟩⟩⟩⟩ ?_
    refine TL_end ?_
    refine TE_go ?_
    refine TC_seq ?_
    refine TC_reg ?_
    refine TL_ev env 1 rfl ⟨⟨trivial, trivial⟩, trivial⟩ ?_
    obtain ⟨z, hr, h0⟩ := bnd h0
    rcases z with r30 | ⟨⟩
    · refine TL_callB [] (weather_New.ok0 hr) weather_New.fnb rfl ⟨trivial, ⟨trivial, ⟨trivial, trivial⟩⟩⟩ rfl trivial rfl ?_
      refine TL_ev env 5 rfl ⟨trivial, ⟨trivial, ⟨trivial, ⟨trivial, ⟨trivial, trivial⟩⟩⟩⟩⟩ ?_
      refine TL_end ?_
      refine TE_go ?_
      refine TC_seq ?_
      obtain ⟨z1, h1, h0⟩ := bnd h0
      refine TC_cut (α := Bool) (fun s => z1 = s) (fun s => [(0, .bool s)]) (fun s => []) ?_ ?_
      · refine TC_reg ?_
        refine TL_ev env 3 rfl ⟨trivial, ⟨⟨trivial, ⟨trivial, trivial⟩⟩, ⟨trivial, trivial⟩⟩⟩ ?_
        refine TL_gt rfl rfl rfl rfl ?_
        refine TL_ev env 1 rfl ⟨trivial, trivial⟩ ?_
        refine TL_gt rfl rfl rfl rfl ?_
        refine TL_ev env 3 rfl ⟨⟨trivial, ⟨trivial, trivial⟩⟩, ⟨⟨trivial, ⟨trivial, trivial⟩⟩, ⟨trivial, trivial⟩⟩⟩ ?_
        refine TL_gt rfl rfl rfl rfl ?_
        refine TL_ev env 1 rfl ⟨trivial, trivial⟩ ?_
        refine TL_gt rfl rfl rfl rfl ?_
        obtain ⟨⟨r42, r43⟩, hr, h1⟩ := bnd h1
        refine TL_callB [(0, 500070)] (weather_Weather_Draw_2.ok0 hr) weather_Weather_Draw_2.fnb rfl ⟨trivial, ⟨trivial, trivial⟩⟩ rfl ⟨.inr rfl, trivial⟩ rfl ?_
        refine TL_gt rfl rfl rfl rfl ?_
        refine TL_ev env 3 rfl ⟨⟨trivial, ⟨trivial, trivial⟩⟩, ⟨⟨trivial, ⟨trivial, trivial⟩⟩, ⟨trivial, trivial⟩⟩⟩ ?_
        refine TL_split 26 rfl (fun hb => ?_) (fun hb => ?_)
        · replace h1 := bif_t h1 hb
          refine TL_gt rfl rfl rfl rfl ?_
          refine TL_ev env 1 rfl ⟨trivial, trivial⟩ ?_
          refine TL_gt rfl rfl rfl rfl ?_
          obtain ⟨r45, hr, h1⟩ := bnd h1
          refine TL_callB [(0, 500070)] (weather_Weather_Fair.ok0 hr) weather_Weather_Fair.fnb rfl ⟨trivial, ⟨trivial, trivial⟩⟩ rfl ⟨.inr rfl, trivial⟩ rfl ?_
          refine TL_ev env 2 rfl ⟨⟨trivial, ⟨trivial, trivial⟩⟩, ⟨trivial, trivial⟩⟩ ?_
          refine TL_split 30 rfl (fun hb => ?_) (fun hb => ?_)
          · replace h1 := bif_t h1 hb
            refine TL_gt rfl rfl rfl rfl ?_
            refine TL_ev env 1 rfl ⟨trivial, trivial⟩ ?_
            refine TL_gt rfl rfl rfl rfl ?_
            obtain ⟨⟨r46, r47, r48, r49, r50, r51, r52⟩, hr, h1⟩ := bnd h1
            refine TL_callB [(0, 500070)] (weather_Weather_Lost.ok0 hr) weather_Weather_Lost.fnb rfl ⟨trivial, ⟨trivial, trivial⟩⟩ rfl ⟨.inr rfl, trivial⟩ rfl ?_
            refine TL_gt rfl rfl rfl rfl ?_
            refine TL_ev env 7 rfl ⟨trivial, ⟨⟨trivial, ⟨trivial, trivial⟩⟩, ⟨trivial, ⟨fun _ => trivial, ⟨fun _ => ⟨fun e => e, ⟨trivial, trivial⟩⟩, ⟨⟨trivial, ⟨fun e => e, trivial⟩⟩, ⟨trivial, trivial⟩⟩⟩⟩⟩⟩⟩ ?_
            refine TL_end ?_
            obtain rfl := sinj h1
            refine tsn ?_
            exact SP_ren [] _ rfl ⟨rfl, trivial⟩ trivial rfl
          · replace h1 := bif_f h1 hb
            refine TL_gf (.bool false) rfl rfl rfl rfl rfl (by decide) ?_
            refine TL_gf (.bool false) rfl rfl rfl rfl rfl (by decide) ?_
            refine TL_gf (.bool false) rfl rfl rfl rfl rfl (by decide) ?_
            refine TL_ev env 2 rfl ⟨⟨trivial, ⟨fun e => e, trivial⟩⟩, ⟨trivial, trivial⟩⟩ ?_
            refine TL_gf (.bool false) rfl rfl rfl rfl rfl (by decide) ?_
            refine TL_gf (.bool false) rfl rfl rfl rfl rfl (by decide) ?_
            refine TL_ev env 2 rfl ⟨⟨trivial, ⟨fun e => e, trivial⟩⟩, ⟨trivial, trivial⟩⟩ ?_
            refine TL_end ?_
            obtain rfl := sinj h1
            refine tsn ?_
            exact SP_ren [] _ rfl ⟨rfl, trivial⟩ trivial rfl
        · replace h1 := bif_f h1 hb
          refine TL_gf (.bool false) rfl rfl rfl rfl rfl (by decide) ?_
          refine TL_gf (.bool false) rfl rfl rfl rfl rfl (by decide) ?_
          refine TL_ev env 2 rfl ⟨⟨trivial, ⟨fun e => e, trivial⟩⟩, ⟨trivial, trivial⟩⟩ ?_
          refine TL_gf (.bool false) rfl rfl rfl rfl rfl (by decide) ?_
          refine TL_gf (.bool false) rfl rfl rfl rfl rfl (by decide) ?_
          refine TL_gf (.bool false) rfl rfl rfl rfl rfl (by decide) ?_
          refine TL_ev env 2 rfl ⟨⟨trivial, ⟨fun e => e, trivial⟩⟩, ⟨trivial, trivial⟩⟩ ?_
          refine TL_gf (.bool false) rfl rfl rfl rfl rfl (by decide) ?_
          refine TL_gf (.bool false) rfl rfl rfl rfl rfl (by decide) ?_
          refine TL_ev env 2 rfl ⟨⟨trivial, ⟨fun e => e, trivial⟩⟩, ⟨trivial, trivial⟩⟩ ?_
          refine TL_end ?_
          obtain rfl := sinj h1
          refine tsn ?_
          exact SP_ren [] _ rfl ⟨rfl, trivial⟩ trivial rfl
      · rintro x41 rfl
        refine TE_go ?_
        refine TC_ret ?_
        obtain rfl := sinj h0
        exact TE_ret env rfl trivial trivial
    · refine TL_callB [(1000, 500120)] (weather_New.ok1 hr) weather_New.fnb rfl ⟨trivial, ⟨trivial, ⟨trivial, trivial⟩⟩⟩ rfl trivial rfl ?_
      refine TL_ev env 5 rfl ⟨trivial, ⟨trivial, ⟨trivial, ⟨trivial, ⟨trivial, trivial⟩⟩⟩⟩⟩ ?_
      refine TL_end ?_
      refine TE_go ?_
      refine TC_seq ?_
      obtain ⟨z1, h1, h0⟩ := bnd h0
      refine TC_cut (α := Bool) (fun s => z1 = s) (fun s => [(0, .bool s)]) (fun s => []) ?_ ?_
      · refine TC_reg ?_
        refine TL_ev env 3 rfl ⟨trivial, ⟨⟨trivial, ⟨trivial, trivial⟩⟩, ⟨trivial, trivial⟩⟩⟩ ?_
        refine TL_gt rfl rfl rfl rfl ?_
        refine TL_ev env 1 rfl ⟨trivial, trivial⟩ ?_
        refine TL_gt rfl rfl rfl rfl ?_
        refine TL_ev env 3 rfl ⟨⟨trivial, ⟨trivial, trivial⟩⟩, ⟨⟨trivial, ⟨trivial, trivial⟩⟩, ⟨trivial, trivial⟩⟩⟩ ?_
        refine TL_gt rfl rfl rfl rfl ?_
        refine TL_ev env 1 rfl ⟨trivial, trivial⟩ ?_
        refine TL_gt rfl rfl rfl rfl ?_
        obtain ⟨⟨r65, r66⟩, hr, h1⟩ := bnd h1
        refine TL_callB [(0, 500070)] (weather_Weather_Draw_2.ok0 hr) weather_Weather_Draw_2.fnb rfl ⟨trivial, ⟨trivial, trivial⟩⟩ rfl ⟨.inr rfl, trivial⟩ rfl ?_
        refine TL_gt rfl rfl rfl rfl ?_
        refine TL_ev env 3 rfl ⟨⟨trivial, ⟨trivial, trivial⟩⟩, ⟨⟨trivial, ⟨trivial, trivial⟩⟩, ⟨trivial, trivial⟩⟩⟩ ?_
        refine TL_split 26 rfl (fun hb => ?_) (fun hb => ?_)
        · replace h1 := bif_t h1 hb
          refine TL_gt rfl rfl rfl rfl ?_
          refine TL_ev env 1 rfl ⟨trivial, trivial⟩ ?_
          refine TL_gt rfl rfl rfl rfl ?_
          obtain ⟨r68, hr, h1⟩ := bnd h1
          refine TL_callB [(0, 500070)] (weather_Weather_Fair.ok0 hr) weather_Weather_Fair.fnb rfl ⟨trivial, ⟨trivial, trivial⟩⟩ rfl ⟨.inr rfl, trivial⟩ rfl ?_
          refine TL_ev env 2 rfl ⟨⟨trivial, ⟨trivial, trivial⟩⟩, ⟨trivial, trivial⟩⟩ ?_
          refine TL_split 30 rfl (fun hb => ?_) (fun hb => ?_)
          · replace h1 := bif_t h1 hb
            refine TL_gt rfl rfl rfl rfl ?_
            refine TL_ev env 1 rfl ⟨trivial, trivial⟩ ?_
            refine TL_gt rfl rfl rfl rfl ?_
            obtain ⟨⟨r69, r70, r71, r72, r73, r74, r75⟩, hr, h1⟩ := bnd h1
            refine TL_callB [(0, 500070)] (weather_Weather_Lost.ok0 hr) weather_Weather_Lost.fnb rfl ⟨trivial, ⟨trivial, trivial⟩⟩ rfl ⟨.inr rfl, trivial⟩ rfl ?_
            refine TL_gt rfl rfl rfl rfl ?_
            refine TL_ev env 7 rfl ⟨trivial, ⟨⟨trivial, ⟨trivial, trivial⟩⟩, ⟨trivial, ⟨fun _ => trivial, ⟨fun _ => ⟨fun e => e, ⟨trivial, trivial⟩⟩, ⟨⟨trivial, ⟨fun e => e, trivial⟩⟩, ⟨trivial, trivial⟩⟩⟩⟩⟩⟩⟩ ?_
            refine TL_end ?_
            obtain rfl := sinj h1
            refine tsn ?_
            exact SP_ren [] _ rfl ⟨rfl, trivial⟩ trivial rfl
          · replace h1 := bif_f h1 hb
            refine TL_gf (.bool false) rfl rfl rfl rfl rfl (by decide) ?_
            refine TL_gf (.bool false) rfl rfl rfl rfl rfl (by decide) ?_
            refine TL_gf (.bool false) rfl rfl rfl rfl rfl (by decide) ?_
            refine TL_ev env 2 rfl ⟨⟨trivial, ⟨fun e => e, trivial⟩⟩, ⟨trivial, trivial⟩⟩ ?_
            refine TL_gf (.bool false) rfl rfl rfl rfl rfl (by decide) ?_
            refine TL_gf (.bool false) rfl rfl rfl rfl rfl (by decide) ?_
            refine TL_ev env 2 rfl ⟨⟨trivial, ⟨fun e => e, trivial⟩⟩, ⟨trivial, trivial⟩⟩ ?_
            refine TL_end ?_
            obtain rfl := sinj h1
            refine tsn ?_
            exact SP_ren [] _ rfl ⟨rfl, trivial⟩ trivial rfl
        · replace h1 := bif_f h1 hb
          refine TL_gf (.bool false) rfl rfl rfl rfl rfl (by decide) ?_
          refine TL_gf (.bool false) rfl rfl rfl rfl rfl (by decide) ?_
          refine TL_ev env 2 rfl ⟨⟨trivial, ⟨fun e => e, trivial⟩⟩, ⟨trivial, trivial⟩⟩ ?_
          refine TL_gf (.bool false) rfl rfl rfl rfl rfl (by decide) ?_
          refine TL_gf (.bool false) rfl rfl rfl rfl rfl (by decide) ?_
          refine TL_gf (.bool false) rfl rfl rfl rfl rfl (by decide) ?_
          refine TL_ev env 2 rfl ⟨⟨trivial, ⟨fun e => e, trivial⟩⟩, ⟨trivial, trivial⟩⟩ ?_
          refine TL_gf (.bool false) rfl rfl rfl rfl rfl (by decide) ?_
          refine TL_gf (.bool false) rfl rfl rfl rfl rfl (by decide) ?_
          refine TL_ev env 2 rfl ⟨⟨trivial, ⟨fun e => e, trivial⟩⟩, ⟨trivial, trivial⟩⟩ ?_
          refine TL_end ?_
          obtain rfl := sinj h1
          refine tsn ?_
          exact SP_ren [] _ rfl ⟨rfl, trivial⟩ trivial rfl
      · rintro x64 rfl
        refine TE_go ?_
        refine TC_ret ?_
        obtain rfl := sinj h0
        exact TE_ret env rfl trivial trivial
theorem psalterylaw32_alive.ok0 {K : Nat}  {q0 : Bool} (h0 : psalterylaw32_alive K  = some q0) : Fn Try.prog 21 [] [] (.bool q0) [] := psalterylaw32_alive.ok h0
theorem psalterylaw32_alive.fnb : fnb Try.prog 21 = true := fnb_of Try.func21 rfl
def weather_Weather_Lost_2.res  : Unit → MV
  | () => .bool false
def weather_Weather_Lost_2.out  : Unit → List (Nat × Option MObj)
  | () => []
theorem weather_Weather_Lost_2.ok {K : Nat}  {r : Unit} (h0 : weather_Weather_Lost_2 K  = some r) : Fn Try.prog 28 [.nilp] [] (weather_Weather_Lost_2.res  r) (weather_Weather_Lost_2.out  r) := by
  refine Fn_of Try.func28 rfl (Nat.le_of_ble_eq_true rfl) fun Γ => ?_
  refine TC_seq ?_
  refine TC_reg ?_
  refine TL_ev env 1 rfl ⟨trivial, trivial⟩ ?_
  refine TL_end ?_
  refine TE_go ?_
  refine TC_seq ?_
  refine TC_seq ?_
  refine TC_reg ?_
  refine TL_ev env 2 rfl ⟨trivial, ⟨⟨trivial, ⟨trivial, trivial⟩⟩, trivial⟩⟩ ?_
  refine TL_end ?_
  refine TE_go ?_
  refine TC_cond rfl (fun hb => ?_) (fun hb => ?_)
  · refine TC_seq ?_
    refine TC_reg ?_
    refine TL_ev env 1 rfl ⟨trivial, trivial⟩ ?_
    refine TL_end ?_
    refine TE_go ?_
    refine TC_ret ?_
    refine tsr ?_
    obtain rfl := sinj h0
    exact TE_ret env rfl trivial trivial
  · first | exact (ftf hb).elim | exact (tff hb).elim | exact absurd hb (by decide)
theorem weather_Weather_Lost_2.ok0 {K : Nat}   (h0 : weather_Weather_Lost_2 K  = some ()) : Fn Try.prog 28 [.nilp] [] (.bool false) [] := weather_Weather_Lost_2.ok h0
theorem weather_Weather_Lost_2.fnb : fnb Try.prog 28 = true := fnb_of Try.func28 rfl
def weather_Weather_Row.res (_p0 : Int) : Unit → MV
  | () => .nils
def weather_Weather_Row.out (_p0 : Int) : Unit → List (Nat × Option MObj)
  | () => []
theorem weather_Weather_Row.ok {K : Nat} {p0 : Int} {r : Unit} (h0 : weather_Weather_Row K p0 = some r) : Fn Try.prog 29 [.nilp, .int .i64 p0] [] (weather_Weather_Row.res p0 r) (weather_Weather_Row.out p0 r) := by
  refine Fn_of Try.func29 rfl (Nat.le_of_ble_eq_true rfl) fun Γ => ?_
  refine TC_seq ?_
  refine TC_reg ?_
  refine TL_ev env 1 rfl ⟨trivial, trivial⟩ ?_
  refine TL_end ?_
  refine TE_go ?_
  refine TC_seq ?_
  refine TC_seq ?_
  refine TC_reg ?_
  refine TL_ev env 2 rfl ⟨trivial, ⟨⟨trivial, ⟨trivial, trivial⟩⟩, trivial⟩⟩ ?_
  refine TL_end ?_
  refine TE_go ?_
  refine TC_cond rfl (fun hb => ?_) (fun hb => ?_)
  · refine TC_seq ?_
    refine TC_reg ?_
    refine TL_ev env 1 rfl ⟨trivial, trivial⟩ ?_
    refine TL_end ?_
    refine TE_go ?_
    refine TC_ret ?_
    refine tsr ?_
    obtain rfl := sinj h0
    exact TE_ret env rfl trivial trivial
  · first | exact (ftf hb).elim | exact (tff hb).elim | exact absurd hb (by decide)
theorem weather_Weather_Row.ok0 {K : Nat} {p0 : Int}  (h0 : weather_Weather_Row K p0 = some ()) : Fn Try.prog 29 [.nilp, .int .i64 p0] [] (.nils) [] := weather_Weather_Row.ok h0
theorem weather_Weather_Row.fnb : fnb Try.prog 29 = true := fnb_of Try.func29 rfl
def weather_Weather_Fair_2.res  : Unit → MV
  | () => .bool false
def weather_Weather_Fair_2.out  : Unit → List (Nat × Option MObj)
  | () => []
theorem weather_Weather_Fair_2.ok {K : Nat}  {r : Unit} (h0 : weather_Weather_Fair_2 K  = some r) : Fn Try.prog 30 [.nilp] [] (weather_Weather_Fair_2.res  r) (weather_Weather_Fair_2.out  r) := by
  refine Fn_of Try.func30 rfl (Nat.le_of_ble_eq_true rfl) fun Γ => ?_
  refine TC_seq ?_
  refine TC_reg ?_
  refine TL_ev env 1 rfl ⟨trivial, trivial⟩ ?_
  refine TL_end ?_
  refine TE_go ?_
  refine TC_seq ?_
  refine TC_reg ?_
  refine TL_ev env 3 rfl ⟨trivial, ⟨⟨trivial, ⟨trivial, trivial⟩⟩, ⟨trivial, trivial⟩⟩⟩ ?_
  refine TL_gf (.bool false) rfl rfl rfl rfl rfl (by decide) ?_
  refine TL_gf (.bool false) rfl rfl rfl rfl rfl (by decide) ?_
  refine TL_gf (.bool false) rfl rfl rfl rfl rfl (by decide) ?_
  refine TL_gf (.bool false) rfl rfl rfl rfl rfl (by decide) ?_
  refine TL_gf (.bool false) rfl rfl rfl rfl rfl (by decide) ?_
  refine TL_ev env 2 rfl ⟨⟨trivial, ⟨fun e => e, trivial⟩⟩, ⟨trivial, trivial⟩⟩ ?_
  refine TL_end ?_
  refine TE_go ?_
  refine TC_ret ?_
  obtain rfl := sinj h0
  exact TE_ret env rfl trivial trivial
theorem weather_Weather_Fair_2.ok0 {K : Nat}   (h0 : weather_Weather_Fair_2 K  = some ()) : Fn Try.prog 30 [.nilp] [] (.bool false) [] := weather_Weather_Fair_2.ok h0
theorem weather_Weather_Fair_2.fnb : fnb Try.prog 30 = true := fnb_of Try.func30 rfl
def psalterylaw32_WeatherNil.res (_p0 : Int) : Bool → MV
  | q0 => .bool q0
def psalterylaw32_WeatherNil.out (_p0 : Int) : Bool → List (Nat × Option MObj)
  | _ => []
theorem psalterylaw32_WeatherNil.ok {K : Nat} {p0 : Int} {r : Bool} (h0 : psalterylaw32_WeatherNil K p0 = some r) : Fn Try.prog 5 [.int .i64 p0] [] (psalterylaw32_WeatherNil.res p0 r) (psalterylaw32_WeatherNil.out p0 r) := by
  refine Fn_of Try.func5 rfl (Nat.le_of_ble_eq_true rfl) fun Γ => ?_
  refine TC_seq ?_
  refine TC_reg ?_
  refine TL_ev env 1 rfl ⟨trivial, trivial⟩ ?_
  refine TL_end ?_
  refine TE_go ?_
  refine TC_seq ?_
  refine TC_seq ?_
  refine TC_reg ?_
  obtain ⟨r2, hr, h0⟩ := bnd h0
  refine TL_callB [] (psalterylaw32_alive.ok0 hr) psalterylaw32_alive.fnb rfl ⟨trivial, trivial⟩ rfl trivial rfl ?_
  refine TL_ev env 1 rfl ⟨trivial, trivial⟩ ?_
  refine TL_end ?_
  refine TE_go ?_
  refine TC_cond rfl (fun hb => ?_) (fun hb => ?_)
  · replace h0 := bif_t h0 hb
    refine TC_seq ?_
    refine TC_reg ?_
    refine TL_ev env 1 rfl ⟨trivial, trivial⟩ ?_
    refine TL_end ?_
    refine TE_go ?_
    refine TC_ret ?_
    refine tsr ?_
    obtain rfl := sinj h0
    exact TE_ret env rfl trivial trivial
  · replace h0 := bif_f h0 hb
    refine TC_skip ?_
    refine TE_go ?_
    refine TC_seq ?_
    refine TC_reg ?_
    refine TL_ev env 1 rfl ⟨trivial, trivial⟩ ?_
    refine TL_end ?_
    refine TE_go ?_
    refine TC_seq ?_
    refine TC_reg ?_
    refine TL_ev env 1 rfl ⟨trivial, trivial⟩ ?_
    obtain ⟨⟨⟩, hr, h0⟩ := bnd h0
    refine TL_callB [] (weather_Weather_Draw.ok0 hr) weather_Weather_Draw.fnb rfl ⟨trivial, ⟨trivial, trivial⟩⟩ rfl trivial rfl ?_
    refine TL_ev env 2 rfl ⟨⟨trivial, ⟨trivial, trivial⟩⟩, ⟨trivial, trivial⟩⟩ ?_
    refine TL_gt rfl rfl rfl rfl ?_
    refine TL_ev env 1 rfl ⟨trivial, trivial⟩ ?_
    refine TL_gt rfl rfl rfl rfl ?_
    obtain ⟨⟨⟩, hr, h0⟩ := bnd h0
    refine TL_callB [] (weather_Weather_Lost_2.ok0 hr) weather_Weather_Lost_2.fnb rfl ⟨trivial, ⟨trivial, trivial⟩⟩ rfl trivial rfl ?_
    refine TL_gt rfl rfl rfl rfl ?_
    refine TL_ev env 3 rfl ⟨trivial, ⟨⟨trivial, ⟨trivial, trivial⟩⟩, ⟨trivial, trivial⟩⟩⟩ ?_
    refine TL_gt rfl rfl rfl rfl ?_
    refine TL_ev env 1 rfl ⟨trivial, trivial⟩ ?_
    refine TL_gt rfl rfl rfl rfl ?_
    refine TL_ev env 1 rfl ⟨trivial, trivial⟩ ?_
    refine TL_gt rfl rfl rfl rfl ?_
    obtain ⟨⟨⟩, hr, h0⟩ := bnd h0
    refine TL_callB [] (weather_Weather_Row.ok0 hr) weather_Weather_Row.fnb rfl ⟨trivial, ⟨trivial, ⟨trivial, trivial⟩⟩⟩ rfl trivial rfl ?_
    refine TL_gt rfl rfl rfl rfl ?_
    refine TL_ev env 1 rfl ⟨⟨trivial, trivial⟩, trivial⟩ ?_
    refine TL_gt rfl rfl rfl rfl ?_
    refine TL_ev env 3 rfl ⟨⟨trivial, ⟨trivial, trivial⟩⟩, ⟨⟨trivial, ⟨trivial, trivial⟩⟩, ⟨trivial, trivial⟩⟩⟩ ?_
    refine TL_gt rfl rfl rfl rfl ?_
    refine TL_ev env 1 rfl ⟨trivial, trivial⟩ ?_
    refine TL_gt rfl rfl rfl rfl ?_
    obtain ⟨⟨⟩, hr, h0⟩ := bnd h0
    refine TL_callB [] (weather_Weather_Fair_2.ok0 hr) weather_Weather_Fair_2.fnb rfl ⟨trivial, ⟨trivial, trivial⟩⟩ rfl trivial rfl ?_
    refine TL_gt rfl rfl rfl rfl ?_
    refine TL_ev env 3 rfl ⟨trivial, ⟨⟨trivial, ⟨trivial, trivial⟩⟩, ⟨trivial, trivial⟩⟩⟩ ?_
    refine TL_end ?_
    refine TE_go ?_
    refine TC_ret ?_
    obtain rfl := sinj h0
    exact TE_ret env rfl trivial trivial
theorem psalterylaw32_WeatherNil.ok0 {K : Nat} {p0 : Int} {q0 : Bool} (h0 : psalterylaw32_WeatherNil K p0 = some q0) : Fn Try.prog 5 [.int .i64 p0] [] (.bool q0) [] := psalterylaw32_WeatherNil.ok h0
theorem psalterylaw32_WeatherNil.fnb : fnb Try.prog 5 = true := fnb_of Try.func5 rfl
end Go.Fo
