/- Each call comes to the function that is written for it. -/
import Derived.Test.YtcaehpgdcjonfaaBnT
import Derived.Test.YtcaehpgdcjonfaaBnF
import Derived.Test.YtcaehpgdcjonfaaBx
import Derived.Test.YtcaehpgdcjonfaaBnP0
namespace Go.Fo
open Go.Proofs
set_option maxRecDepth 20000
set_option maxHeartbeats 4000000
def psalteryref03_Of.res (_p0 : Int) (_p1 : Int) : Int → MV
  | q0 => .int .i16 q0
def psalteryref03_Of.out (_p0 : Int) (_p1 : Int) : Int → List (Nat × Option MObj)
  | _ => []
theorem psalteryref03_Of.ok {K : Nat} {p0 : Int} {p1 : Int} {r : Int} (h0 : psalteryref03_Of K p0 p1 = some r) : Fn Try.prog 146 [.int .i64 p0, .int .i64 p1] [] (psalteryref03_Of.res p0 p1 r) (psalteryref03_Of.out p0 p1 r) := by
  refine Fn_of Try.func146 rfl (Nat.le_of_ble_eq_true rfl) fun Γ => ?_
  refine TC_seq ?_
  refine TC_reg ?_
  refine TL_ev env 1 rfl ⟨trivial, trivial⟩ ?_
  refine TL_end ?_
  refine TE_go ?_
  refine TC_seq ?_
  refine TC_reg ?_
  obtain ⟨g, h0⟩ := gd_t h0
  refine TL_ev env 4 rfl ⟨trivial, ⟨trivial, ⟨⟨trivial, ⟨trivial, g⟩⟩, ⟨trivial, trivial⟩⟩⟩⟩ ?_
  refine TL_end ?_
  refine TE_go ?_
  refine TC_seq ?_
  refine TC_seq ?_
  refine TC_reg ?_
  refine TL_ev env 2 rfl ⟨trivial, ⟨⟨trivial, ⟨trivial, trivial⟩⟩, trivial⟩⟩ ?_
  refine TL_end ?_
  refine TE_go ?_
  obtain ⟨z1, h1, h0⟩ := bnd h0
  refine TC_cut (α := Int) (fun s => z1 = s) (fun s => [(0, .int .i64 p0), (1, .int .i64 p1), (5, .int .i64 s)]) (fun s => []) ?_ ?_
  · refine TC_cond rfl (fun hb => ?_) (fun hb => ?_)
    · replace h1 := bif_t h1 hb
      refine TC_reg ?_
      refine TL_ev env 4 rfl ⟨trivial, ⟨trivial, ⟨⟨trivial, ⟨trivial, trivial⟩⟩, ⟨trivial, trivial⟩⟩⟩⟩ ?_
      refine TL_end ?_
      obtain rfl := sinj h1
      refine tsn ?_
      exact SP_ren [] _ rfl ⟨rfl, rfl, rfl, trivial⟩ trivial rfl
    · replace h1 := bif_f h1 hb
      refine TC_skip ?_
      obtain rfl := sinj h1
      refine tsn ?_
      exact SP_ren [] _ rfl ⟨rfl, rfl, rfl, trivial⟩ trivial rfl
  · rintro x7 hz
    obtain rfl := hz.symm
    refine TE_go ?_
    refine TC_seq ?_
    refine TC_reg ?_
    refine TL_ev env 5 rfl ⟨trivial, ⟨⟨trivial, ⟨trivial, trivial⟩⟩, ⟨trivial, ⟨⟨trivial, ⟨trivial, trivial⟩⟩, ⟨trivial, trivial⟩⟩⟩⟩⟩ ?_
    refine TL_end ?_
    refine TE_go ?_
    refine TC_seq ?_
    refine TC_seq ?_
    refine TC_reg ?_
    refine TL_ev env 1 rfl ⟨trivial, trivial⟩ ?_
    refine TL_end ?_
    refine TE_go ?_
    obtain ⟨z1, h1, h0⟩ := bnd h0
    refine TC_cut (α := Int) (fun s => z1 = .inl s) (fun s => [(1, .int .i64 p1), (5, .int .i64 s), (6, .bool (decide ((kwrap .i64 (2 * x7)) ≥ p1)))]) (fun s => []) ?_ ?_
    · refine TC_cond rfl (fun hb => ?_) (fun hb => ?_)
      · replace h1 := bif_t h1 hb
        refine TC_seq ?_
        refine TC_reg ?_
        refine TL_ev env 5 rfl ⟨trivial, ⟨trivial, ⟨⟨trivial, ⟨trivial, (by decide)⟩⟩, ⟨⟨trivial, ⟨trivial, trivial⟩⟩, ⟨trivial, trivial⟩⟩⟩⟩⟩ ?_
        refine TL_end ?_
        refine TE_go ?_
        refine TC_seq ?_
        refine TC_reg ?_
        refine TL_ev env 3 rfl ⟨trivial, ⟨⟨trivial, ⟨trivial, (by decide)⟩⟩, ⟨⟨trivial, ⟨trivial, trivial⟩⟩, trivial⟩⟩⟩ ?_
        refine TL_end ?_
        refine TE_go ?_
        refine TC_cond rfl (fun hb => ?_) (fun hb => ?_)
        · replace h1 := bif_t h1 hb
          refine TC_seq ?_
          refine TC_reg ?_
          obtain ⟨g, h1⟩ := gd_t h1
          refine TL_ev env 6 rfl ⟨trivial, ⟨trivial, ⟨⟨trivial, ⟨trivial, g⟩⟩, ⟨⟨trivial, ⟨trivial, trivial⟩⟩, ⟨trivial, ⟨⟨trivial, ⟨trivial, trivial⟩⟩, trivial⟩⟩⟩⟩⟩⟩ ?_
          obtain ⟨r18, hr, h1⟩ := bnd h1
          refine TL_callB [] (psalteryref03_of.ok0 hr) psalteryref03_of.fnb rfl ⟨trivial, ⟨trivial, ⟨trivial, trivial⟩⟩⟩ rfl trivial rfl ?_
          refine TL_ev env 1 rfl ⟨trivial, trivial⟩ ?_
          refine TL_end ?_
          refine TE_go ?_
          refine TC_ret ?_
          refine tsr ?_
          refine tsr ?_
          obtain rfl := sinj h1
          obtain rfl := sinj h0
          exact TE_ret env rfl trivial trivial
        · replace h1 := bif_f h1 hb
          refine TC_skip ?_
          obtain rfl := sinj h1
          refine tsn ?_
          exact SP_ren [] _ rfl ⟨rfl, rfl, rfl, trivial⟩ trivial rfl
      · replace h1 := bif_f h1 hb
        refine TC_skip ?_
        obtain rfl := sinj h1
        refine tsn ?_
        exact SP_ren [] _ rfl ⟨rfl, rfl, rfl, trivial⟩ trivial rfl
    · rintro x11 hz
      obtain rfl := hz.symm
      refine TE_go ?_
      refine TC_seq ?_
      refine TC_reg ?_
      refine TL_ev env 3 rfl ⟨trivial, ⟨trivial, ⟨trivial, trivial⟩⟩⟩ ?_
      obtain ⟨r12, hr, h0⟩ := bnd h0
      refine TL_callB [] (psalteryref03_signed.ok0 hr) psalteryref03_signed.fnb rfl ⟨trivial, ⟨trivial, ⟨trivial, ⟨trivial, trivial⟩⟩⟩⟩ rfl trivial rfl ?_
      refine TL_ev env 1 rfl ⟨trivial, trivial⟩ ?_
      refine TL_end ?_
      refine TE_go ?_
      refine TC_ret ?_
      obtain rfl := sinj h0
      exact TE_ret env rfl trivial trivial
theorem psalteryref03_Of.ok0 {K : Nat} {p0 : Int} {p1 : Int} {q0 : Int} (h0 : psalteryref03_Of K p0 p1 = some q0) : Fn Try.prog 146 [.int .i64 p0, .int .i64 p1] [] (.int .i16 q0) [] := psalteryref03_Of.ok h0
theorem psalteryref03_Of.fnb : fnb Try.prog 146 = true := fnb_of Try.func146 rfl
def psalteryref03_Cosine.res (_p0 : Int) (_p1 : Int) : Int × Int → MV
  | (q0, q1) => .tup [.int .i16 q0, .int .i64 q1]
def psalteryref03_Cosine.out (_p0 : Int) (_p1 : Int) : Int × Int → List (Nat × Option MObj)
  | (_, _) => []
theorem psalteryref03_Cosine.ok {K : Nat} {p0 : Int} {p1 : Int} {r : Int × Int} (h0 : psalteryref03_Cosine K p0 p1 = some r) : Fn Try.prog 145 [.int .i64 p0, .int .i64 p1] [] (psalteryref03_Cosine.res p0 p1 r) (psalteryref03_Cosine.out p0 p1 r) := by
  refine Fn_of Try.func145 rfl (Nat.le_of_ble_eq_true rfl) fun Γ => ?_
  refine TC_seq ?_
  refine TC_reg ?_
  refine TL_ev env 2 rfl ⟨trivial, ⟨trivial, trivial⟩⟩ ?_
  refine TL_end ?_
  refine TE_go ?_
  refine TC_seq ?_
  refine TC_seq ?_
  refine TC_reg ?_
  refine TL_ev env 6 rfl ⟨trivial, ⟨⟨trivial, ⟨trivial, trivial⟩⟩, ⟨trivial, ⟨fun eg => trivial, ⟨fun eg => ⟨fun e => e, ⟨trivial, trivial⟩⟩, ⟨⟨trivial, ⟨trivial, fun e => e⟩⟩, trivial⟩⟩⟩⟩⟩⟩ ?_
  refine TL_end ?_
  refine TE_go ?_
  refine TC_cond rfl (fun hb => ?_) (fun hb => ?_)
  · replace h0 := bif_t h0 hb
    refine TC_seq ?_
    refine TC_reg ?_
    refine TL_ev env 2 rfl ⟨trivial, ⟨trivial, trivial⟩⟩ ?_
    refine TL_end ?_
    refine TE_go ?_
    refine TC_ret ?_
    refine tsr ?_
    obtain rfl := sinj h0
    exact TE_ret env rfl trivial trivial
  · replace h0 := bif_f h0 hb
    refine TC_skip ?_
    refine TE_go ?_
    refine TC_seq ?_
    refine TC_reg ?_
    obtain ⟨g, h0⟩ := gd_t h0
    refine TL_ev env 4 rfl ⟨trivial, ⟨trivial, ⟨⟨trivial, ⟨trivial, g⟩⟩, ⟨trivial, trivial⟩⟩⟩⟩ ?_
    refine TL_end ?_
    refine TE_go ?_
    refine TC_seq ?_
    refine TC_reg ?_
    refine TL_ev env 6 rfl ⟨trivial, ⟨⟨trivial, ⟨trivial, trivial⟩⟩, ⟨trivial, ⟨⟨trivial, ⟨trivial, trivial⟩⟩, ⟨trivial, ⟨⟨trivial, ⟨trivial, trivial⟩⟩, trivial⟩⟩⟩⟩⟩⟩ ?_
    obtain ⟨r9, hr, h0⟩ := bnd h0
    refine TL_callB [] (psalteryref03_Of.ok0 hr) psalteryref03_Of.fnb rfl ⟨trivial, ⟨trivial, ⟨trivial, trivial⟩⟩⟩ rfl trivial rfl ?_
    refine TL_ev env 2 rfl ⟨trivial, ⟨trivial, trivial⟩⟩ ?_
    refine TL_end ?_
    refine TE_go ?_
    refine TC_ret ?_
    obtain rfl := sinj h0
    exact TE_ret env rfl trivial trivial
theorem psalteryref03_Cosine.ok0 {K : Nat} {p0 : Int} {p1 : Int} {q0 : Int} {q1 : Int} (h0 : psalteryref03_Cosine K p0 p1 = some (q0, q1)) : Fn Try.prog 145 [.int .i64 p0, .int .i64 p1] [] (.tup [.int .i16 q0, .int .i64 q1]) [] := psalteryref03_Cosine.ok h0
theorem psalteryref03_Cosine.fnb : fnb Try.prog 145 = true := fnb_of Try.func145 rfl
def psalteryref04_Turn.res (_p0 : Int) : (Unit) ⊕ ((List (Int))) → MV
  | .inl () => .nils
  | .inr q0 => .im (.slice (.int .i16)) q0
def psalteryref04_Turn.out (_p0 : Int) : (Unit) ⊕ ((List (Int))) → List (Nat × Option MObj)
  | .inl () => []
  | .inr _ => []
theorem psalteryref04_Turn.ok {K : Nat} {p0 : Int} {r : (Unit) ⊕ ((List (Int)))} (h0 : psalteryref04_Turn K p0 = some r) : Fn Try.prog 112 [.int .i64 p0] [] (psalteryref04_Turn.res p0 r) (psalteryref04_Turn.out p0 r) := by
  refine Fn_of Try.func112 rfl (Nat.le_of_ble_eq_true rfl) fun Γ => ?_
  refine TC_seq ?_
  refine TC_reg ?_
  refine TL_ev env 1 rfl ⟨trivial, trivial⟩ ?_
  refine TL_end ?_
  refine TE_go ?_
  refine TC_seq ?_
  refine TC_seq ?_
  refine TC_reg ?_
  refine TL_ev env 11 rfl ⟨trivial, ⟨⟨trivial, ⟨trivial, trivial⟩⟩, ⟨trivial, ⟨fun eg => trivial, ⟨fun eg => ⟨fun e => e, ⟨trivial, trivial⟩⟩, ⟨⟨trivial, ⟨trivial, fun e => e⟩⟩, ⟨trivial, ⟨fun eg => trivial, ⟨fun eg => ⟨fun e => e, ⟨trivial, (by decide)⟩⟩, ⟨fun eg => ⟨fun e => e, ⟨trivial, trivial⟩⟩, ⟨⟨trivial, ⟨trivial, fun e => e⟩⟩, trivial⟩⟩⟩⟩⟩⟩⟩⟩⟩⟩⟩ ?_
  refine TL_end ?_
  refine TE_go ?_
  refine TC_cond rfl (fun hb => ?_) (fun hb => ?_)
  · replace h0 := bif_t h0 hb
    refine TC_seq ?_
    refine TC_reg ?_
    refine TL_ev env 1 rfl ⟨trivial, trivial⟩ ?_
    refine TL_end ?_
    refine TE_go ?_
    refine TC_ret ?_
    refine tsr ?_
    obtain rfl := sinj h0
    exact TE_ret env rfl trivial trivial
  · replace h0 := bif_f h0 hb
    refine TC_skip ?_
    refine TE_go ?_
    refine TC_seq ?_
    refine TC_reg ?_
    refine TL_ev env 1 rfl ⟨trivial, trivial⟩ ?_
    refine TL_end ?_
    refine TE_go ?_
    refine TC_seq ?_
    refine TC_seq ?_
    refine TC_reg ?_
    refine TL_ev env 1 rfl ⟨trivial, trivial⟩ ?_
    refine TL_end ?_
    refine TE_go ?_
    obtain ⟨z1, h1, h0⟩ := bnd h0
    refine TC_cut (α := (List (Int))) (fun s => z1 = s) (fun s => [(3, .sl 10800)]) (fun s => [(10800, some (.rows (.int .i16) s))]) ?_ ?_
    · refine TC_blk ?_
      refine TC_loop (α := Int × (List (Int))) (fun n s => psalteryref04_Turn.l0 K p0 n s.1 s.2 = some z1) (fun s => [(0, .int .i64 p0), (3, .sl 11000), (4, .int .i64 s.1)]) (fun s => [(11000, some (.rows (.int .i16) s.2))]) K ?_ ?_
      · refine TE_own 3 7003 (.int .i16) rfl (by decide) rfl rfl ?_
        exact SP_ren [(11000, 7003)] (_, _) h1 ⟨rfl, rfl, rfl, trivial⟩ ⟨rfl, trivial⟩ rfl
      rintro n ⟨x36, x37⟩ h1
      rcases n with _ | n
      · exact (nsome h1).elim
      replace h1 : psalteryref04_Turn.r0 K p0 (psalteryref04_Turn.l0 K p0 n) x36 x37 = some z1 := h1
      refine TC_seq ?_
      refine TC_seq ?_
      refine TC_reg ?_
      refine TL_ev env 3 rfl ⟨trivial, ⟨trivial, ⟨⟨trivial, ⟨trivial, trivial⟩⟩, trivial⟩⟩⟩ ?_
      refine TL_end ?_
      refine TE_go ?_
      refine TC_cond rfl (fun hb => ?_) (fun hb => ?_)
      · replace h1 := bif_t h1 hb
        refine TC_skip ?_
        refine TE_go ?_
        refine TC_seq ?_
        refine TC_blk ?_
        refine TC_seq ?_
        refine TC_reg ?_
        refine TL_ev env 2 rfl ⟨trivial, ⟨trivial, trivial⟩⟩ ?_
        obtain ⟨⟨r47, r48⟩, hr, h1⟩ := bnd h1
        refine TL_callB [] (psalteryref03_Cosine.ok0 hr) psalteryref03_Cosine.fnb rfl ⟨trivial, ⟨trivial, ⟨trivial, trivial⟩⟩⟩ rfl trivial rfl ?_
        refine TL_ev env 5 rfl ⟨trivial, ⟨trivial, ⟨trivial, ⟨trivial, ⟨trivial, trivial⟩⟩⟩⟩⟩ ?_
        refine TL_end ?_
        refine TE_go ?_
        refine TC_reg ?_
        obtain ⟨g, h1⟩ := gd_t h1
        refine TL_ev env 5 rfl ⟨trivial, ⟨trivial, ⟨⟨trivial, trivial⟩, ⟨⟨⟨trivial, ⟨trivial, trivial⟩⟩, g⟩, ⟨trivial, trivial⟩⟩⟩⟩⟩ ?_
        refine TL_end ?_
        refine tbn ?_
        refine TE_go ?_
        refine TC_reg ?_
        refine TL_ev env 3 rfl ⟨trivial, ⟨⟨trivial, ⟨trivial, trivial⟩⟩, ⟨trivial, trivial⟩⟩⟩ ?_
        refine TL_end ?_
        refine tsn ?_
        exact TE_nextr [(11000, 1032)] n (Nat.lt_succ_self n) (_, _) h1 ⟨rfl, rfl, rfl, trivial⟩ ⟨rfl, trivial⟩ rfl
      · replace h1 := bif_f h1 hb
        refine TC_exit ?_
        refine tsx ?_
        refine tsx ?_
        refine tbe ?_
        obtain rfl := sinj h1
        refine tsn ?_
        exact SP_ren [(10800, 11000)] _ rfl ⟨rfl, trivial⟩ ⟨rfl, trivial⟩ rfl
    · rintro x31 hz
      obtain rfl := hz.symm
      refine TE_go ?_
      refine TC_seq ?_
      refine TC_reg ?_
      refine TL_ev env 2 rfl ⟨trivial, ⟨trivial, trivial⟩⟩ ?_
      refine TL_end ?_
      refine TE_go ?_
      refine TC_ret ?_
      refine TE_frz 10800 rfl ?_
      obtain rfl := sinj h0
      exact TE_ret env rfl trivial trivial
theorem psalteryref04_Turn.ok0 {K : Nat} {p0 : Int}  (h0 : psalteryref04_Turn K p0 = some (.inl ())) : Fn Try.prog 112 [.int .i64 p0] [] (.nils) [] := psalteryref04_Turn.ok h0
theorem psalteryref04_Turn.ok1 {K : Nat} {p0 : Int} {q0 : List (Int)} (h0 : psalteryref04_Turn K p0 = some (.inr q0)) : Fn Try.prog 112 [.int .i64 p0] [] (.im (.slice (.int .i16)) q0) [] := psalteryref04_Turn.ok h0
theorem psalteryref04_Turn.fnb : fnb Try.prog 112 = true := fnb_of Try.func112 rfl
def bank_Bank_Slope_2.res (_p0 : Int) : Unit → MV
  | () => .tup [.nils, .int .i64 3]
def bank_Bank_Slope_2.out (_p0 : Int) : Unit → List (Nat × Option MObj)
  | () => []
theorem bank_Bank_Slope_2.ok {K : Nat} {p0 : Int} {r : Unit} (h0 : bank_Bank_Slope_2 K p0 = some r) : Fn Try.prog 110 [.nilp, .int .i64 p0] [] (bank_Bank_Slope_2.res p0 r) (bank_Bank_Slope_2.out p0 r) := by
  refine Fn_of Try.func110 rfl (Nat.le_of_ble_eq_true rfl) fun Γ => ?_
  unfold bank_Bank_Slope_2 at h0
  refine TC_seq ?_
  refine TC_reg ?_
  refine TL_ev env 3 rfl ⟨trivial, ⟨trivial, ⟨trivial, trivial⟩⟩⟩ ?_
  refine TL_end ?_
  refine TE_go ?_
  refine TC_seq ?_
  refine TC_seq ?_
  refine TC_reg ?_
  refine TL_ev env 7 rfl ⟨trivial, ⟨⟨trivial, trivial⟩, ⟨⟨trivial, ⟨trivial, trivial⟩⟩, ⟨trivial, ⟨fun eg => ⟨trivial, trivial⟩, ⟨fun eg => ⟨fun e => e, ⟨trivial, trivial⟩⟩, ⟨⟨trivial, ⟨fun e => e, trivial⟩⟩, trivial⟩⟩⟩⟩⟩⟩⟩ ?_
  obtain ⟨⟨⟩, hr, h0⟩ := bnd h0
  refine TL_callB [] (bank_Bank_may_2.ok0 hr) bank_Bank_may_2.fnb rfl ⟨trivial, ⟨trivial, ⟨trivial, trivial⟩⟩⟩ rfl trivial rfl ?_
  refine TL_ev env 1 rfl ⟨trivial, trivial⟩ ?_
  refine TL_end ?_
  refine TE_go ?_
  refine TC_seq ?_
  refine TC_reg ?_
  refine TL_ev env 2 rfl ⟨trivial, ⟨⟨trivial, ⟨trivial, trivial⟩⟩, trivial⟩⟩ ?_
  refine TL_end ?_
  refine TE_go ?_
  refine TC_cond rfl (fun hb => ?_) (fun hb => ?_)
  · refine TC_seq ?_
    refine TC_reg ?_
    refine TL_ev env 3 rfl ⟨trivial, ⟨trivial, ⟨trivial, trivial⟩⟩⟩ ?_
    refine TL_end ?_
    refine TE_go ?_
    refine TC_ret ?_
    refine tsr ?_
    obtain rfl := sinj h0
    exact TE_ret env rfl trivial trivial
  · first | exact (ftf hb).elim | exact (tff hb).elim | exact absurd hb (by decide)
theorem bank_Bank_Slope_2.ok0 {K : Nat} {p0 : Int}  (h0 : bank_Bank_Slope_2 K p0 = some ()) : Fn Try.prog 110 [.nilp, .int .i64 p0] [] (.tup [.nils, .int .i64 3]) [] := bank_Bank_Slope_2.ok h0
theorem bank_Bank_Slope_2.fnb : fnb Try.prog 110 = true := fnb_of Try.func110 rfl
def psalteryref04_Slope.res (_p0 : Int) : (Unit) ⊕ ((List (Int))) → MV
  | .inl () => .nils
  | .inr q0 => .im (.slice (.int .i16)) q0
def psalteryref04_Slope.out (_p0 : Int) : (Unit) ⊕ ((List (Int))) → List (Nat × Option MObj)
  | .inl () => []
  | .inr _ => []
theorem psalteryref04_Slope.ok {K : Nat} {p0 : Int} {r : (Unit) ⊕ ((List (Int)))} (h0 : psalteryref04_Slope K p0 = some r) : Fn Try.prog 113 [.int .i64 p0] [] (psalteryref04_Slope.res p0 r) (psalteryref04_Slope.out p0 r) := by
  refine Fn_of Try.func113 rfl (Nat.le_of_ble_eq_true rfl) fun Γ => ?_
  refine TC_seq ?_
  refine TC_reg ?_
  refine TL_ev env 1 rfl ⟨trivial, trivial⟩ ?_
  refine TL_end ?_
  refine TE_go ?_
  refine TC_seq ?_
  refine TC_seq ?_
  refine TC_reg ?_
  refine TL_ev env 6 rfl ⟨trivial, ⟨⟨trivial, ⟨trivial, trivial⟩⟩, ⟨trivial, ⟨fun eg => trivial, ⟨fun eg => ⟨fun e => e, ⟨trivial, trivial⟩⟩, ⟨⟨trivial, ⟨trivial, fun e => e⟩⟩, trivial⟩⟩⟩⟩⟩⟩ ?_
  refine TL_end ?_
  refine TE_go ?_
  refine TC_cond rfl (fun hb => ?_) (fun hb => ?_)
  · replace h0 := bif_t h0 hb
    refine TC_seq ?_
    refine TC_reg ?_
    refine TL_ev env 1 rfl ⟨trivial, trivial⟩ ?_
    refine TL_end ?_
    refine TE_go ?_
    refine TC_ret ?_
    refine tsr ?_
    obtain rfl := sinj h0
    exact TE_ret env rfl trivial trivial
  · replace h0 := bif_f h0 hb
    refine TC_skip ?_
    refine TE_go ?_
    refine TC_seq ?_
    refine TC_reg ?_
    refine TL_ev env 1 rfl ⟨trivial, trivial⟩ ?_
    refine TL_end ?_
    refine TE_go ?_
    refine TC_seq ?_
    refine TC_seq ?_
    refine TC_reg ?_
    refine TL_ev env 1 rfl ⟨trivial, trivial⟩ ?_
    refine TL_end ?_
    refine TE_go ?_
    obtain ⟨z1, h1, h0⟩ := bnd h0
    refine TC_cut (α := (List (Int))) (fun s => z1 = s) (fun s => [(3, .sl 10800)]) (fun s => [(10800, some (.rows (.int .i16) s))]) ?_ ?_
    · refine TC_blk ?_
      refine TC_loop (α := Int × (List (Int))) (fun n s => psalteryref04_Slope.l0 K p0 n s.1 s.2 = some z1) (fun s => [(0, .int .i64 p0), (3, .sl 11000), (4, .int .i64 s.1)]) (fun s => [(11000, some (.rows (.int .i16) s.2))]) K ?_ ?_
      · refine TE_own 3 7003 (.int .i16) rfl (by decide) rfl rfl ?_
        exact SP_ren [(11000, 7003)] (_, _) h1 ⟨rfl, rfl, rfl, trivial⟩ ⟨rfl, trivial⟩ rfl
      rintro n ⟨x24, x25⟩ h1
      rcases n with _ | n
      · exact (nsome h1).elim
      replace h1 : psalteryref04_Slope.r0 K p0 (psalteryref04_Slope.l0 K p0 n) x24 x25 = some z1 := h1
      refine TC_seq ?_
      refine TC_seq ?_
      refine TC_reg ?_
      refine TL_ev env 4 rfl ⟨trivial, ⟨trivial, ⟨⟨trivial, ⟨trivial, trivial⟩⟩, ⟨⟨trivial, ⟨trivial, trivial⟩⟩, trivial⟩⟩⟩⟩ ?_
      refine TL_end ?_
      refine TE_go ?_
      refine TC_cond rfl (fun hb => ?_) (fun hb => ?_)
      · replace h1 := bif_t h1 hb
        refine TC_skip ?_
        refine TE_go ?_
        refine TC_seq ?_
        refine TC_blk ?_
        refine TC_reg ?_
        refine TL_ev env 4 rfl ⟨trivial, ⟨trivial, ⟨trivial, ⟨⟨trivial, ⟨trivial, trivial⟩⟩, trivial⟩⟩⟩⟩ ?_
        obtain ⟨r34, hr, h1⟩ := bnd h1
        refine TL_callB [] (psalteryref03_Of.ok0 hr) psalteryref03_Of.fnb rfl ⟨trivial, ⟨trivial, ⟨trivial, trivial⟩⟩⟩ rfl trivial rfl ?_
        obtain ⟨g, h1⟩ := gd_t h1
        refine TL_ev env 3 rfl ⟨⟨trivial, trivial⟩, ⟨⟨⟨trivial, ⟨trivial, trivial⟩⟩, g⟩, ⟨trivial, trivial⟩⟩⟩ ?_
        refine TL_end ?_
        refine tbn ?_
        refine TE_go ?_
        refine TC_reg ?_
        refine TL_ev env 3 rfl ⟨trivial, ⟨⟨trivial, ⟨trivial, trivial⟩⟩, ⟨trivial, trivial⟩⟩⟩ ?_
        refine TL_end ?_
        refine tsn ?_
        exact TE_nextr [(11000, 1023)] n (Nat.lt_succ_self n) (_, _) h1 ⟨rfl, rfl, rfl, trivial⟩ ⟨rfl, trivial⟩ rfl
      · replace h1 := bif_f h1 hb
        refine TC_exit ?_
        refine tsx ?_
        refine tsx ?_
        refine tbe ?_
        obtain rfl := sinj h1
        refine tsn ?_
        exact SP_ren [(10800, 11000)] _ rfl ⟨rfl, trivial⟩ ⟨rfl, trivial⟩ rfl
    · rintro x21 hz
      obtain rfl := hz.symm
      refine TE_go ?_
      refine TC_seq ?_
      refine TC_reg ?_
      refine TL_ev env 2 rfl ⟨trivial, ⟨trivial, trivial⟩⟩ ?_
      refine TL_end ?_
      refine TE_go ?_
      refine TC_ret ?_
      refine TE_frz 10800 rfl ?_
      obtain rfl := sinj h0
      exact TE_ret env rfl trivial trivial
theorem psalteryref04_Slope.ok0 {K : Nat} {p0 : Int}  (h0 : psalteryref04_Slope K p0 = some (.inl ())) : Fn Try.prog 113 [.int .i64 p0] [] (.nils) [] := psalteryref04_Slope.ok h0
theorem psalteryref04_Slope.ok1 {K : Nat} {p0 : Int} {q0 : List (Int)} (h0 : psalteryref04_Slope K p0 = some (.inr q0)) : Fn Try.prog 113 [.int .i64 p0] [] (.im (.slice (.int .i16)) q0) [] := psalteryref04_Slope.ok h0
theorem psalteryref04_Slope.fnb : fnb Try.prog 113 = true := fnb_of Try.func113 rfl
def bank_Bank_Filter_2.res (_p0 : Int) : Unit → MV
  | () => .tup [.nils, .int .i64 3]
def bank_Bank_Filter_2.out (_p0 : Int) : Unit → List (Nat × Option MObj)
  | () => []
theorem bank_Bank_Filter_2.ok {K : Nat} {p0 : Int} {r : Unit} (h0 : bank_Bank_Filter_2 K p0 = some r) : Fn Try.prog 111 [.nilp, .int .i64 p0] [] (bank_Bank_Filter_2.res p0 r) (bank_Bank_Filter_2.out p0 r) := by
  refine Fn_of Try.func111 rfl (Nat.le_of_ble_eq_true rfl) fun Γ => ?_
  unfold bank_Bank_Filter_2 at h0
  refine TC_seq ?_
  refine TC_reg ?_
  refine TL_ev env 3 rfl ⟨trivial, ⟨trivial, ⟨trivial, trivial⟩⟩⟩ ?_
  refine TL_end ?_
  refine TE_go ?_
  refine TC_seq ?_
  refine TC_seq ?_
  refine TC_reg ?_
  refine TL_ev env 7 rfl ⟨trivial, ⟨⟨trivial, trivial⟩, ⟨⟨trivial, ⟨trivial, trivial⟩⟩, ⟨trivial, ⟨fun eg => ⟨trivial, trivial⟩, ⟨fun eg => ⟨fun e => e, ⟨trivial, trivial⟩⟩, ⟨⟨trivial, ⟨trivial, fun e => e⟩⟩, trivial⟩⟩⟩⟩⟩⟩⟩ ?_
  obtain ⟨⟨⟩, hr, h0⟩ := bnd h0
  refine TL_callB [] (bank_Bank_may_2.ok0 hr) bank_Bank_may_2.fnb rfl ⟨trivial, ⟨trivial, ⟨trivial, trivial⟩⟩⟩ rfl trivial rfl ?_
  refine TL_ev env 1 rfl ⟨trivial, trivial⟩ ?_
  refine TL_end ?_
  refine TE_go ?_
  refine TC_seq ?_
  refine TC_reg ?_
  refine TL_ev env 2 rfl ⟨trivial, ⟨⟨trivial, ⟨trivial, trivial⟩⟩, trivial⟩⟩ ?_
  refine TL_end ?_
  refine TE_go ?_
  refine TC_cond rfl (fun hb => ?_) (fun hb => ?_)
  · refine TC_seq ?_
    refine TC_reg ?_
    refine TL_ev env 3 rfl ⟨trivial, ⟨trivial, ⟨trivial, trivial⟩⟩⟩ ?_
    refine TL_end ?_
    refine TE_go ?_
    refine TC_ret ?_
    refine tsr ?_
    obtain rfl := sinj h0
    exact TE_ret env rfl trivial trivial
  · first | exact (ftf hb).elim | exact (tff hb).elim | exact absurd hb (by decide)
theorem bank_Bank_Filter_2.ok0 {K : Nat} {p0 : Int}  (h0 : bank_Bank_Filter_2 K p0 = some ()) : Fn Try.prog 111 [.nilp, .int .i64 p0] [] (.tup [.nils, .int .i64 3]) [] := bank_Bank_Filter_2.ok h0
theorem bank_Bank_Filter_2.fnb : fnb Try.prog 111 = true := fnb_of Try.func111 rfl
def psalteryref04_Filter.res (_p0 : Int) : (Unit) ⊕ ((List (Int))) → MV
  | .inl () => .nils
  | .inr q0 => .im (.slice (.int .i16)) q0
def psalteryref04_Filter.out (_p0 : Int) : (Unit) ⊕ ((List (Int))) → List (Nat × Option MObj)
  | .inl () => []
  | .inr _ => []
theorem psalteryref04_Filter.ok {K : Nat} {p0 : Int} {r : (Unit) ⊕ ((List (Int)))} (h0 : psalteryref04_Filter K p0 = some r) : Fn Try.prog 114 [.int .i64 p0] [] (psalteryref04_Filter.res p0 r) (psalteryref04_Filter.out p0 r) := by
  refine Fn_of Try.func114 rfl (Nat.le_of_ble_eq_true rfl) fun Γ => ?_
  refine TC_seq ?_
  refine TC_reg ?_
  refine TL_ev env 1 rfl ⟨trivial, trivial⟩ ?_
  refine TL_end ?_
  refine TE_go ?_
  refine TC_seq ?_
  refine TC_seq ?_
  refine TC_reg ?_
  refine TL_ev env 6 rfl ⟨trivial, ⟨⟨trivial, ⟨trivial, trivial⟩⟩, ⟨trivial, ⟨fun eg => trivial, ⟨fun eg => ⟨fun e => e, ⟨trivial, trivial⟩⟩, ⟨⟨trivial, ⟨fun e => e, trivial⟩⟩, trivial⟩⟩⟩⟩⟩⟩ ?_
  refine TL_end ?_
  refine TE_go ?_
  refine TC_cond rfl (fun hb => ?_) (fun hb => ?_)
  · replace h0 := bif_t h0 hb
    refine TC_seq ?_
    refine TC_reg ?_
    refine TL_ev env 1 rfl ⟨trivial, trivial⟩ ?_
    refine TL_end ?_
    refine TE_go ?_
    refine TC_ret ?_
    refine tsr ?_
    obtain rfl := sinj h0
    exact TE_ret env rfl trivial trivial
  · replace h0 := bif_f h0 hb
    refine TC_skip ?_
    refine TE_go ?_
    refine TC_seq ?_
    refine TC_reg ?_
    refine TL_ev env 1 rfl ⟨trivial, trivial⟩ ?_
    refine TL_end ?_
    refine TE_go ?_
    refine TC_seq ?_
    refine TC_seq ?_
    refine TC_reg ?_
    refine TL_ev env 3 rfl ⟨trivial, ⟨⟨trivial, ⟨trivial, trivial⟩⟩, ⟨trivial, trivial⟩⟩⟩ ?_
    refine TL_end ?_
    refine TE_go ?_
    obtain ⟨z1, h1, h0⟩ := bnd h0
    refine TC_cut (α := (List (Int))) (fun s => z1 = s) (fun s => [(3, .sl 11600)]) (fun s => [(11600, some (.rows (.int .i16) s))]) ?_ ?_
    · refine TC_blk ?_
      refine TC_loop (α := Int × (List (Int))) (fun n s => psalteryref04_Filter.l0 K p0 n s.1 s.2 = some z1) (fun s => [(0, .int .i64 p0), (3, .sl 12000), (4, .int .i64 s.1)]) (fun s => [(12000, some (.rows (.int .i16) s.2))]) K ?_ ?_
      · refine TE_own 3 7003 (.int .i16) rfl (by decide) rfl rfl ?_
        exact SP_ren [(12000, 7003)] (_, _) h1 ⟨rfl, rfl, rfl, trivial⟩ ⟨rfl, trivial⟩ rfl
      rintro n ⟨x93, x94⟩ h1
      rcases n with _ | n
      · exact (nsome h1).elim
      replace h1 : psalteryref04_Filter.r0 K p0 (psalteryref04_Filter.l0 K p0 n) x93 x94 = some z1 := h1
      refine TC_seq ?_
      refine TC_seq ?_
      refine TC_reg ?_
      refine TL_ev env 4 rfl ⟨trivial, ⟨trivial, ⟨⟨trivial, ⟨trivial, trivial⟩⟩, ⟨⟨trivial, ⟨trivial, trivial⟩⟩, trivial⟩⟩⟩⟩ ?_
      refine TL_end ?_
      refine TE_go ?_
      refine TC_cond rfl (fun hb => ?_) (fun hb => ?_)
      · replace h1 := bif_t h1 hb
        refine TC_skip ?_
        refine TE_go ?_
        refine TC_seq ?_
        refine TC_blk ?_
        refine TC_seq ?_
        refine TC_reg ?_
        refine TL_ev env 1 rfl ⟨trivial, trivial⟩ ?_
        refine TL_end ?_
        refine TE_go ?_
        refine TC_seq ?_
        refine TC_seq ?_
        refine TC_reg ?_
        refine TL_ev env 2 rfl ⟨trivial, ⟨⟨trivial, ⟨trivial, trivial⟩⟩, trivial⟩⟩ ?_
        refine TL_end ?_
        refine TE_go ?_
        obtain ⟨z2, h2, h1⟩ := bnd h1
        refine TC_cut (α := Int) (fun s => z2 = s) (fun s => [(0, .int .i64 p0), (3, .sl 12500), (4, .int .i64 x93), (5, .int .i64 s)]) (fun s => [(12500, some (.rows (.int .i16) x94))]) ?_ ?_
        · refine TC_cond rfl (fun hb => ?_) (fun hb => ?_)
          · replace h2 := bif_t h2 hb
            refine TC_reg ?_
            refine TL_ev env 4 rfl ⟨trivial, ⟨⟨trivial, ⟨trivial, trivial⟩⟩, ⟨trivial, ⟨⟨trivial, ⟨trivial, trivial⟩⟩, trivial⟩⟩⟩⟩ ?_
            obtain ⟨r145, hr, h2⟩ := bnd h2
            refine TL_callB [] (psalteryref03_Of.ok0 hr) psalteryref03_Of.fnb rfl ⟨trivial, ⟨trivial, ⟨trivial, trivial⟩⟩⟩ rfl trivial rfl ?_
            obtain ⟨g, h2⟩ := gd_t h2
            refine TL_ev env 8 rfl ⟨trivial, ⟨trivial, ⟨⟨trivial, ⟨trivial, trivial⟩⟩, ⟨⟨trivial, ⟨trivial, trivial⟩⟩, ⟨trivial, ⟨⟨trivial, ⟨trivial, trivial⟩⟩, ⟨⟨trivial, ⟨trivial, g⟩⟩, ⟨trivial, trivial⟩⟩⟩⟩⟩⟩⟩⟩ ?_
            refine TL_end ?_
            obtain rfl := sinj h2
            refine tsn ?_
            exact SP_ren [(12500, 12000)] _ rfl ⟨rfl, rfl, rfl, rfl, trivial⟩ ⟨rfl, trivial⟩ rfl
          · replace h2 := bif_f h2 hb
            refine TC_skip ?_
            obtain rfl := sinj h2
            refine tsn ?_
            exact SP_ren [(12500, 12000)] _ rfl ⟨rfl, rfl, rfl, rfl, trivial⟩ ⟨rfl, trivial⟩ rfl
        · rintro x124 hz
          obtain rfl := hz.symm
          refine TE_go ?_
          refine TC_seq ?_
          refine TC_reg ?_
          refine TL_ev env 5 rfl ⟨trivial, ⟨trivial, ⟨⟨trivial, ⟨trivial, trivial⟩⟩, ⟨⟨trivial, ⟨trivial, trivial⟩⟩, ⟨trivial, trivial⟩⟩⟩⟩⟩ ?_
          refine TL_end ?_
          refine TE_go ?_
          refine TC_seq ?_
          refine TC_reg ?_
          refine TL_ev env 3 rfl ⟨trivial, ⟨trivial, ⟨⟨trivial, ⟨trivial, trivial⟩⟩, trivial⟩⟩⟩ ?_
          obtain ⟨⟨r127, r128⟩, hr, h1⟩ := bnd h1
          refine TL_callB [] (psalteryref03_Cosine.ok0 hr) psalteryref03_Cosine.fnb rfl ⟨trivial, ⟨trivial, ⟨trivial, trivial⟩⟩⟩ rfl trivial rfl ?_
          refine TL_ev env 5 rfl ⟨trivial, ⟨trivial, ⟨trivial, ⟨trivial, ⟨trivial, trivial⟩⟩⟩⟩⟩ ?_
          refine TL_end ?_
          refine TE_go ?_
          refine TC_seq ?_
          refine TC_reg ?_
          refine TL_ev env 4 rfl ⟨trivial, ⟨⟨trivial, ⟨trivial, trivial⟩⟩, ⟨trivial, ⟨⟨trivial, ⟨trivial, trivial⟩⟩, trivial⟩⟩⟩⟩ ?_
          obtain ⟨⟨r130, r131⟩, hr, h1⟩ := bnd h1
          refine TL_callB [] (psalteryref03_Cosine.ok0 hr) psalteryref03_Cosine.fnb rfl ⟨trivial, ⟨trivial, ⟨trivial, trivial⟩⟩⟩ rfl trivial rfl ?_
          refine TL_ev env 5 rfl ⟨trivial, ⟨trivial, ⟨trivial, ⟨trivial, ⟨trivial, trivial⟩⟩⟩⟩⟩ ?_
          refine TL_end ?_
          refine TE_go ?_
          refine TC_seq ?_
          refine TC_reg ?_
          refine TL_ev env 10 rfl ⟨trivial, ⟨trivial, ⟨⟨trivial, ⟨trivial, trivial⟩⟩, ⟨⟨trivial, ⟨trivial, trivial⟩⟩, ⟨trivial, ⟨trivial, ⟨⟨trivial, ⟨trivial, trivial⟩⟩, ⟨⟨trivial, ⟨trivial, trivial⟩⟩, ⟨⟨trivial, ⟨trivial, (by decide)⟩⟩, ⟨trivial, trivial⟩⟩⟩⟩⟩⟩⟩⟩⟩⟩ ?_
          refine TL_end ?_
          refine TE_go ?_
          refine TC_reg ?_
          refine TL_ev env 4 rfl ⟨trivial, ⟨trivial, ⟨trivial, ⟨⟨trivial, ⟨trivial, trivial⟩⟩, trivial⟩⟩⟩⟩ ?_
          obtain ⟨r138, hr, h1⟩ := bnd h1
          refine TL_callB [] (psalteryref01_Round.ok0 hr) psalteryref01_Round.fnb rfl ⟨trivial, ⟨trivial, ⟨trivial, trivial⟩⟩⟩ rfl trivial rfl ?_
          refine TL_ev env 1 rfl ⟨⟨trivial, ⟨trivial, trivial⟩⟩, trivial⟩ ?_
          obtain ⟨r140, hr, h1⟩ := bnd h1
          refine TL_callB [] (psalteryref01_Round.ok0 hr) psalteryref01_Round.fnb rfl ⟨trivial, ⟨trivial, ⟨trivial, trivial⟩⟩⟩ rfl trivial rfl ?_
          obtain ⟨g, h1⟩ := gd_t h1
          refine TL_ev env 4 rfl ⟨trivial, ⟨⟨trivial, trivial⟩, ⟨⟨⟨trivial, ⟨trivial, trivial⟩⟩, g⟩, ⟨trivial, trivial⟩⟩⟩⟩ ?_
          refine TL_end ?_
          refine tbn ?_
          refine TE_go ?_
          refine TC_reg ?_
          refine TL_ev env 3 rfl ⟨trivial, ⟨⟨trivial, ⟨trivial, trivial⟩⟩, ⟨trivial, trivial⟩⟩⟩ ?_
          refine TL_end ?_
          refine tsn ?_
          exact TE_nextr [(12000, 1077)] n (Nat.lt_succ_self n) (_, _) h1 ⟨rfl, rfl, rfl, trivial⟩ ⟨rfl, trivial⟩ rfl
      · replace h1 := bif_f h1 hb
        refine TC_exit ?_
        refine tsx ?_
        refine tsx ?_
        refine tbe ?_
        obtain rfl := sinj h1
        refine tsn ?_
        exact SP_ren [(11600, 12000)] _ rfl ⟨rfl, trivial⟩ ⟨rfl, trivial⟩ rfl
    · rintro x76 hz
      obtain rfl := hz.symm
      refine TE_go ?_
      refine TC_seq ?_
      refine TC_reg ?_
      refine TL_ev env 2 rfl ⟨trivial, ⟨trivial, trivial⟩⟩ ?_
      refine TL_end ?_
      refine TE_go ?_
      refine TC_ret ?_
      refine TE_frz 11600 rfl ?_
      obtain rfl := sinj h0
      exact TE_ret env rfl trivial trivial
theorem psalteryref04_Filter.ok0 {K : Nat} {p0 : Int}  (h0 : psalteryref04_Filter K p0 = some (.inl ())) : Fn Try.prog 114 [.int .i64 p0] [] (.nils) [] := psalteryref04_Filter.ok h0
theorem psalteryref04_Filter.ok1 {K : Nat} {p0 : Int} {q0 : List (Int)} (h0 : psalteryref04_Filter K p0 = some (.inr q0)) : Fn Try.prog 114 [.int .i64 p0] [] (.im (.slice (.int .i16)) q0) [] := psalteryref04_Filter.ok h0
theorem psalteryref04_Filter.fnb : fnb Try.prog 114 = true := fnb_of Try.func114 rfl
def psalterylaw04_ask.res (_p0 : Int) (_p1 : Int) : (Unit) ⊕ ((List (Int))) → MV
  | .inl () => .tup [.nils, .int .i64 3, .nils]
  | .inr q0 => .tup [.nils, .int .i64 3, .im (.slice (.int .i16)) q0]
def psalterylaw04_ask.out (_p0 : Int) (_p1 : Int) : (Unit) ⊕ ((List (Int))) → List (Nat × Option MObj)
  | .inl () => []
  | .inr _ => []
theorem psalterylaw04_ask.ok {K : Nat} {p0 : Int} {p1 : Int} {r : (Unit) ⊕ ((List (Int)))} (h0 : psalterylaw04_ask K p0 p1 = some r) : Fn Try.prog 60 [.nilp, .agg [.int .i64 p0, .int .i64 p1]] [] (psalterylaw04_ask.res p0 p1 r) (psalterylaw04_ask.out p0 p1 r) := by
  refine Fn_of Try.func60 rfl (Nat.le_of_ble_eq_true rfl) fun Γ => ?_
  refine TC_seq ?_
  refine TC_reg ?_
  refine TL_ev env 4 rfl ⟨trivial, ⟨trivial, ⟨trivial, ⟨trivial, trivial⟩⟩⟩⟩ ?_
  refine TL_end ?_
  refine TE_go ?_
  refine TC_seq ?_
  refine TC_seq ?_
  refine TC_reg ?_
  refine TL_ev env 2 rfl ⟨trivial, ⟨⟨trivial, trivial⟩, trivial⟩⟩ ?_
  refine TL_end ?_
  refine TE_go ?_
  refine TC_blk ?_
  refine TC_seq ?_
  refine TC_reg ?_
  refine TL_ev env 2 rfl ⟨⟨trivial, ⟨trivial, trivial⟩⟩, ⟨trivial, trivial⟩⟩ ?_
  refine TL_end ?_
  refine TE_go ?_
  refine TC_cond rfl (fun hb => ?_) (fun hb => ?_)
  · replace h0 := bif_t h0 hb
    refine TC_seq ?_
    refine TC_reg ?_
    refine TL_ev env 3 rfl ⟨trivial, ⟨trivial, ⟨⟨trivial, trivial⟩, trivial⟩⟩⟩ ?_
    obtain ⟨⟨⟩, hr, h0⟩ := bnd h0
    refine TL_callB [] (bank_Bank_Turn_2.ok0 hr) bank_Bank_Turn_2.fnb rfl ⟨trivial, ⟨trivial, ⟨trivial, trivial⟩⟩⟩ rfl trivial rfl ?_
    refine TL_ev env 5 rfl ⟨trivial, ⟨trivial, ⟨trivial, ⟨trivial, ⟨trivial, trivial⟩⟩⟩⟩⟩ ?_
    refine TL_end ?_
    refine TE_go ?_
    refine TC_seq ?_
    refine TC_reg ?_
    refine TL_ev env 4 rfl ⟨trivial, ⟨trivial, ⟨trivial, ⟨⟨trivial, trivial⟩, trivial⟩⟩⟩⟩ ?_
    obtain ⟨z, hr, h0⟩ := bnd h0
    rcases z with ⟨⟩ | r13
    · refine TL_callB [] (psalteryref04_Turn.ok0 hr) psalteryref04_Turn.fnb rfl ⟨trivial, ⟨trivial, trivial⟩⟩ rfl trivial rfl ?_
      refine TL_ev env 3 rfl ⟨trivial, ⟨trivial, ⟨trivial, trivial⟩⟩⟩ ?_
      refine TL_end ?_
      refine TE_go ?_
      refine TC_ret ?_
      refine tbr ?_
      refine tsr ?_
      obtain rfl := sinj h0
      exact TE_ret env rfl trivial trivial
    · refine TL_callB [] (psalteryref04_Turn.ok1 hr) psalteryref04_Turn.fnb rfl ⟨trivial, ⟨trivial, trivial⟩⟩ rfl trivial rfl ?_
      refine TL_ev env 3 rfl ⟨trivial, ⟨trivial, ⟨trivial, trivial⟩⟩⟩ ?_
      refine TL_end ?_
      refine TE_go ?_
      refine TC_ret ?_
      refine tbr ?_
      refine tsr ?_
      obtain rfl := sinj h0
      exact TE_ret env rfl trivial trivial
  · replace h0 := bif_f h0 hb
    refine TC_seq ?_
    refine TC_reg ?_
    refine TL_ev env 2 rfl ⟨⟨trivial, ⟨trivial, trivial⟩⟩, ⟨trivial, trivial⟩⟩ ?_
    refine TL_end ?_
    refine TE_go ?_
    refine TC_cond rfl (fun hb => ?_) (fun hb => ?_)
    · replace h0 := bif_t h0 hb
      refine TC_seq ?_
      refine TC_reg ?_
      refine TL_ev env 3 rfl ⟨trivial, ⟨trivial, ⟨⟨trivial, trivial⟩, trivial⟩⟩⟩ ?_
      obtain ⟨⟨⟩, hr, h0⟩ := bnd h0
      refine TL_callB [] (bank_Bank_Slope_2.ok0 hr) bank_Bank_Slope_2.fnb rfl ⟨trivial, ⟨trivial, ⟨trivial, trivial⟩⟩⟩ rfl trivial rfl ?_
      refine TL_ev env 5 rfl ⟨trivial, ⟨trivial, ⟨trivial, ⟨trivial, ⟨trivial, trivial⟩⟩⟩⟩⟩ ?_
      refine TL_end ?_
      refine TE_go ?_
      refine TC_seq ?_
      refine TC_reg ?_
      refine TL_ev env 4 rfl ⟨trivial, ⟨trivial, ⟨trivial, ⟨⟨trivial, trivial⟩, trivial⟩⟩⟩⟩ ?_
      obtain ⟨z, hr, h0⟩ := bnd h0
      rcases z with ⟨⟩ | r15
      · refine TL_callB [] (psalteryref04_Slope.ok0 hr) psalteryref04_Slope.fnb rfl ⟨trivial, ⟨trivial, trivial⟩⟩ rfl trivial rfl ?_
        refine TL_ev env 3 rfl ⟨trivial, ⟨trivial, ⟨trivial, trivial⟩⟩⟩ ?_
        refine TL_end ?_
        refine TE_go ?_
        refine TC_ret ?_
        refine tbr ?_
        refine tsr ?_
        obtain rfl := sinj h0
        exact TE_ret env rfl trivial trivial
      · refine TL_callB [] (psalteryref04_Slope.ok1 hr) psalteryref04_Slope.fnb rfl ⟨trivial, ⟨trivial, trivial⟩⟩ rfl trivial rfl ?_
        refine TL_ev env 3 rfl ⟨trivial, ⟨trivial, ⟨trivial, trivial⟩⟩⟩ ?_
        refine TL_end ?_
        refine TE_go ?_
        refine TC_ret ?_
        refine tbr ?_
        refine tsr ?_
        obtain rfl := sinj h0
        exact TE_ret env rfl trivial trivial
    · replace h0 := bif_f h0 hb
      refine TC_skip ?_
      refine tbn ?_
      refine TE_go ?_
      refine TC_seq ?_
      refine TC_reg ?_
      refine TL_ev env 3 rfl ⟨trivial, ⟨trivial, ⟨⟨trivial, trivial⟩, trivial⟩⟩⟩ ?_
      obtain ⟨⟨⟩, hr, h0⟩ := bnd h0
      refine TL_callB [] (bank_Bank_Filter_2.ok0 hr) bank_Bank_Filter_2.fnb rfl ⟨trivial, ⟨trivial, ⟨trivial, trivial⟩⟩⟩ rfl trivial rfl ?_
      refine TL_ev env 5 rfl ⟨trivial, ⟨trivial, ⟨trivial, ⟨trivial, ⟨trivial, trivial⟩⟩⟩⟩⟩ ?_
      refine TL_end ?_
      refine TE_go ?_
      refine TC_seq ?_
      refine TC_reg ?_
      refine TL_ev env 4 rfl ⟨trivial, ⟨trivial, ⟨trivial, ⟨⟨trivial, trivial⟩, trivial⟩⟩⟩⟩ ?_
      obtain ⟨z, hr, h0⟩ := bnd h0
      rcases z with ⟨⟩ | r16
      · refine TL_callB [] (psalteryref04_Filter.ok0 hr) psalteryref04_Filter.fnb rfl ⟨trivial, ⟨trivial, trivial⟩⟩ rfl trivial rfl ?_
        refine TL_ev env 3 rfl ⟨trivial, ⟨trivial, ⟨trivial, trivial⟩⟩⟩ ?_
        refine TL_end ?_
        refine TE_go ?_
        refine TC_ret ?_
        obtain rfl := sinj h0
        exact TE_ret env rfl trivial trivial
      · refine TL_callB [] (psalteryref04_Filter.ok1 hr) psalteryref04_Filter.fnb rfl ⟨trivial, ⟨trivial, trivial⟩⟩ rfl trivial rfl ?_
        refine TL_ev env 3 rfl ⟨trivial, ⟨trivial, ⟨trivial, trivial⟩⟩⟩ ?_
        refine TL_end ?_
        refine TE_go ?_
        refine TC_ret ?_
        obtain rfl := sinj h0
        exact TE_ret env rfl trivial trivial
theorem psalterylaw04_ask.ok0 {K : Nat} {p0 : Int} {p1 : Int}  (h0 : psalterylaw04_ask K p0 p1 = some (.inl ())) : Fn Try.prog 60 [.nilp, .agg [.int .i64 p0, .int .i64 p1]] [] (.tup [.nils, .int .i64 3, .nils]) [] := psalterylaw04_ask.ok h0
theorem psalterylaw04_ask.ok1 {K : Nat} {p0 : Int} {p1 : Int} {q0 : List (Int)} (h0 : psalterylaw04_ask K p0 p1 = some (.inr q0)) : Fn Try.prog 60 [.nilp, .agg [.int .i64 p0, .int .i64 p1]] [] (.tup [.nils, .int .i64 3, .im (.slice (.int .i16)) q0]) [] := psalterylaw04_ask.ok h0
theorem psalterylaw04_ask.fnb : fnb Try.prog 60 = true := fnb_of Try.func60 rfl
def bank_Bank_Made_2.res  : Unit → MV
  | () => .int .i64 0
def bank_Bank_Made_2.out  : Unit → List (Nat × Option MObj)
  | () => []
theorem bank_Bank_Made_2.ok {K : Nat}  {r : Unit} (h0 : bank_Bank_Made_2 K  = some r) : Fn Try.prog 62 [.nilp] [] (bank_Bank_Made_2.res  r) (bank_Bank_Made_2.out  r) := by
  refine Fn_of Try.func62 rfl (Nat.le_of_ble_eq_true rfl) fun Γ => ?_
  refine TC_seq ?_
  refine TC_reg ?_
  refine TL_ev env 1 rfl ⟨trivial, trivial⟩ ?_
  refine TL_end ?_
  refine TE_go ?_
  refine TC_seq ?_
  refine TC_seq ?_
  refine TC_reg ?_
  refine TL_ev env 2 rfl ⟨trivial, ⟨⟨trivial, ⟨trivial, trivial⟩⟩, trivial⟩⟩ ?_
  refine TL_end ?_
  refine TE_go ?_
  refine TC_cond rfl (fun hb => ?_) (fun hb => ?_)
  · refine TC_seq ?_
    refine TC_reg ?_
    refine TL_ev env 1 rfl ⟨trivial, trivial⟩ ?_
    refine TL_end ?_
    refine TE_go ?_
    refine TC_ret ?_
    refine tsr ?_
    obtain rfl := sinj h0
    exact TE_ret env rfl trivial trivial
  · first | exact (ftf hb).elim | exact (tff hb).elim | exact absurd hb (by decide)
theorem bank_Bank_Made_2.ok0 {K : Nat}   (h0 : bank_Bank_Made_2 K  = some ()) : Fn Try.prog 62 [.nilp] [] (.int .i64 0) [] := bank_Bank_Made_2.ok h0
theorem bank_Bank_Made_2.fnb : fnb Try.prog 62 = true := fnb_of Try.func62 rfl
def bank_Bank_Told_2.res  : Unit → MV
  | () => .int .i64 0
def bank_Bank_Told_2.out  : Unit → List (Nat × Option MObj)
  | () => []
theorem bank_Bank_Told_2.ok {K : Nat}  {r : Unit} (h0 : bank_Bank_Told_2 K  = some r) : Fn Try.prog 63 [.nilp] [] (bank_Bank_Told_2.res  r) (bank_Bank_Told_2.out  r) := by
  refine Fn_of Try.func63 rfl (Nat.le_of_ble_eq_true rfl) fun Γ => ?_
  refine TC_seq ?_
  refine TC_reg ?_
  refine TL_ev env 1 rfl ⟨trivial, trivial⟩ ?_
  refine TL_end ?_
  refine TE_go ?_
  refine TC_seq ?_
  refine TC_seq ?_
  refine TC_reg ?_
  refine TL_ev env 2 rfl ⟨trivial, ⟨⟨trivial, ⟨trivial, trivial⟩⟩, trivial⟩⟩ ?_
  refine TL_end ?_
  refine TE_go ?_
  refine TC_cond rfl (fun hb => ?_) (fun hb => ?_)
  · refine TC_seq ?_
    refine TC_reg ?_
    refine TL_ev env 1 rfl ⟨trivial, trivial⟩ ?_
    refine TL_end ?_
    refine TE_go ?_
    refine TC_ret ?_
    refine tsr ?_
    obtain rfl := sinj h0
    exact TE_ret env rfl trivial trivial
  · first | exact (ftf hb).elim | exact (tff hb).elim | exact absurd hb (by decide)
theorem bank_Bank_Told_2.ok0 {K : Nat}   (h0 : bank_Bank_Told_2 K  = some ()) : Fn Try.prog 63 [.nilp] [] (.int .i64 0) [] := bank_Bank_Told_2.ok h0
theorem bank_Bank_Told_2.fnb : fnb Try.prog 63 = true := fnb_of Try.func63 rfl
def psalterylaw04_BankNil.res (_p0 : Int) (_p1 : Int) : Bool → MV
  | q0 => .bool q0
def psalterylaw04_BankNil.out (_p0 : Int) (_p1 : Int) : Bool → List (Nat × Option MObj)
  | _ => []
theorem psalterylaw04_BankNil.ok {K : Nat} {p0 : Int} {p1 : Int} {r : Bool} (h0 : psalterylaw04_BankNil K p0 p1 = some r) : Fn Try.prog 15 [.agg [.int .i64 p0, .int .i64 p1]] [] (psalterylaw04_BankNil.res p0 p1 r) (psalterylaw04_BankNil.out p0 p1 r) := by
  refine Fn_of Try.func15 rfl (Nat.le_of_ble_eq_true rfl) fun Γ => ?_
  refine TC_seq ?_
  refine TC_reg ?_
  refine TL_ev env 2 rfl ⟨trivial, ⟨trivial, trivial⟩⟩ ?_
  refine TL_end ?_
  refine TE_go ?_
  refine TC_seq ?_
  refine TC_seq ?_
  refine TC_reg ?_
  obtain ⟨r3, hr, h0⟩ := bnd h0
  refine TL_callB [] (psalterylaw04_alive.ok0 hr) psalterylaw04_alive.fnb rfl ⟨trivial, trivial⟩ rfl trivial rfl ?_
  refine TL_ev env 1 rfl ⟨trivial, trivial⟩ ?_
  refine TL_end ?_
  refine TE_go ?_
  refine TC_cond rfl (fun hb => ?_) (fun hb => ?_)
  · replace h0 := bif_t h0 hb
    refine TC_seq ?_
    refine TC_reg ?_
    refine TL_ev env 1 rfl ⟨trivial, trivial⟩ ?_
    refine TL_end ?_
    refine TE_go ?_
    refine TC_ret ?_
    refine tsr ?_
    obtain rfl := sinj h0
    exact TE_ret env rfl trivial trivial
  · replace h0 := bif_f h0 hb
    refine TC_skip ?_
    refine TE_go ?_
    refine TC_seq ?_
    refine TC_reg ?_
    refine TL_ev env 1 rfl ⟨⟨trivial, trivial⟩, trivial⟩ ?_
    obtain ⟨z, hr, h0⟩ := bnd h0
    rcases z with ⟨⟩ | r4
    · refine TL_callB [] (psalterylaw04_ask.ok0 hr) psalterylaw04_ask.fnb rfl ⟨trivial, ⟨trivial, ⟨trivial, trivial⟩⟩⟩ rfl trivial rfl ?_
      refine TL_ev env 7 rfl ⟨trivial, ⟨trivial, ⟨trivial, ⟨trivial, ⟨trivial, ⟨trivial, ⟨trivial, trivial⟩⟩⟩⟩⟩⟩⟩ ?_
      refine TL_end ?_
      refine TE_go ?_
      refine TC_seq ?_
      refine TC_reg ?_
      refine TL_ev env 1 rfl ⟨trivial, trivial⟩ ?_
      refine TL_end ?_
      refine TE_go ?_
      refine TC_seq ?_
      refine TC_reg ?_
      refine TL_ev env 4 rfl ⟨trivial, ⟨⟨trivial, trivial⟩, ⟨⟨trivial, ⟨trivial, trivial⟩⟩, ⟨trivial, trivial⟩⟩⟩⟩ ?_
      refine TL_gt rfl rfl rfl rfl ?_
      refine TL_ev env 1 rfl ⟨trivial, trivial⟩ ?_
      refine TL_gt rfl rfl rfl rfl ?_
      refine TL_ev env 3 rfl ⟨⟨trivial, ⟨trivial, trivial⟩⟩, ⟨⟨trivial, ⟨trivial, trivial⟩⟩, ⟨trivial, trivial⟩⟩⟩ ?_
      refine TL_gt rfl rfl rfl rfl ?_
      refine TL_ev env 1 rfl ⟨trivial, trivial⟩ ?_
      refine TL_gt rfl rfl rfl rfl ?_
      obtain ⟨⟨⟩, hr, h0⟩ := bnd h0
      refine TL_callB [] (bank_Bank_Made_2.ok0 hr) bank_Bank_Made_2.fnb rfl ⟨trivial, ⟨trivial, trivial⟩⟩ rfl trivial rfl ?_
      refine TL_gt rfl rfl rfl rfl ?_
      refine TL_ev env 1 rfl ⟨trivial, trivial⟩ ?_
      refine TL_gt rfl rfl rfl rfl ?_
      obtain ⟨⟨⟩, hr, h0⟩ := bnd h0
      refine TL_callB [] (bank_Bank_Told_2.ok0 hr) bank_Bank_Told_2.fnb rfl ⟨trivial, ⟨trivial, trivial⟩⟩ rfl trivial rfl ?_
      refine TL_gt rfl rfl rfl rfl ?_
      refine TL_ev env 1 rfl ⟨⟨trivial, ⟨trivial, trivial⟩⟩, trivial⟩ ?_
      refine TL_gt rfl rfl rfl rfl ?_
      refine TL_ev env 3 rfl ⟨⟨trivial, ⟨trivial, trivial⟩⟩, ⟨⟨trivial, ⟨trivial, trivial⟩⟩, ⟨trivial, trivial⟩⟩⟩ ?_
      refine TL_end ?_
      refine TE_go ?_
      refine TC_ret ?_
      obtain rfl := sinj h0
      exact TE_ret env rfl trivial trivial
    · refine TL_callB [] (psalterylaw04_ask.ok1 hr) psalterylaw04_ask.fnb rfl ⟨trivial, ⟨trivial, ⟨trivial, trivial⟩⟩⟩ rfl trivial rfl ?_
      refine TL_ev env 7 rfl ⟨trivial, ⟨trivial, ⟨trivial, ⟨trivial, ⟨trivial, ⟨trivial, ⟨trivial, trivial⟩⟩⟩⟩⟩⟩⟩ ?_
      refine TL_end ?_
      refine TE_go ?_
      refine TC_seq ?_
      refine TC_reg ?_
      refine TL_ev env 1 rfl ⟨trivial, trivial⟩ ?_
      refine TL_end ?_
      refine TE_go ?_
      refine TC_seq ?_
      refine TC_reg ?_
      refine TL_ev env 4 rfl ⟨trivial, ⟨⟨trivial, trivial⟩, ⟨⟨trivial, ⟨trivial, trivial⟩⟩, ⟨trivial, trivial⟩⟩⟩⟩ ?_
      refine TL_gt rfl rfl rfl rfl ?_
      refine TL_ev env 1 rfl ⟨trivial, trivial⟩ ?_
      refine TL_gt rfl rfl rfl rfl ?_
      refine TL_ev env 3 rfl ⟨⟨trivial, ⟨trivial, trivial⟩⟩, ⟨⟨trivial, ⟨trivial, trivial⟩⟩, ⟨trivial, trivial⟩⟩⟩ ?_
      refine TL_gt rfl rfl rfl rfl ?_
      refine TL_ev env 1 rfl ⟨trivial, trivial⟩ ?_
      refine TL_gt rfl rfl rfl rfl ?_
      obtain ⟨⟨⟩, hr, h0⟩ := bnd h0
      refine TL_callB [] (bank_Bank_Made_2.ok0 hr) bank_Bank_Made_2.fnb rfl ⟨trivial, ⟨trivial, trivial⟩⟩ rfl trivial rfl ?_
      refine TL_gt rfl rfl rfl rfl ?_
      refine TL_ev env 1 rfl ⟨trivial, trivial⟩ ?_
      refine TL_gt rfl rfl rfl rfl ?_
      obtain ⟨⟨⟩, hr, h0⟩ := bnd h0
      refine TL_callB [] (bank_Bank_Told_2.ok0 hr) bank_Bank_Told_2.fnb rfl ⟨trivial, ⟨trivial, trivial⟩⟩ rfl trivial rfl ?_
      refine TL_gt rfl rfl rfl rfl ?_
      refine TL_ev env 1 rfl ⟨⟨trivial, ⟨trivial, trivial⟩⟩, trivial⟩ ?_
      refine TL_gt rfl rfl rfl rfl ?_
      refine TL_ev env 3 rfl ⟨⟨trivial, ⟨trivial, trivial⟩⟩, ⟨⟨trivial, ⟨trivial, trivial⟩⟩, ⟨trivial, trivial⟩⟩⟩ ?_
      refine TL_end ?_
      refine TE_go ?_
      refine TC_ret ?_
      obtain rfl := sinj h0
      exact TE_ret env rfl trivial trivial
theorem psalterylaw04_BankNil.ok0 {K : Nat} {p0 : Int} {p1 : Int} {q0 : Bool} (h0 : psalterylaw04_BankNil K p0 p1 = some q0) : Fn Try.prog 15 [.agg [.int .i64 p0, .int .i64 p1]] [] (.bool q0) [] := psalterylaw04_BankNil.ok h0
theorem psalterylaw04_BankNil.fnb : fnb Try.prog 15 = true := fnb_of Try.func15 rfl
end Go.Fo
