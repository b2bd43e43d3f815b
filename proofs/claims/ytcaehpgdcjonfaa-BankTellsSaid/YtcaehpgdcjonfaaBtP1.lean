/- Each call comes to the function that is written for it. -/
import Derived.Test.YtcaehpgdcjonfaaBtT
import Derived.Test.YtcaehpgdcjonfaaBtF
import Derived.Test.YtcaehpgdcjonfaaBx
import Derived.Test.YtcaehpgdcjonfaaBtP0
namespace Go.Fo
open Go.Proofs
set_option maxRecDepth 20000
set_option maxHeartbeats 4000000
def psalteryref04_Turn.res (_p0 : Int) : (Unit) ⊕ ((List (Int))) → MV
  | .inl () => .nils
  | .inr q0 => .im (.slice (.int .i16)) q0
def psalteryref04_Turn.out (_p0 : Int) : (Unit) ⊕ ((List (Int))) → List (Nat × Option MObj)
  | .inl () => []
  | .inr _ => []
theorem psalteryref04_Turn.ok {K : Nat} {p0 : Int} {r : (Unit) ⊕ ((List (Int)))} (h0 : psalteryref04_Turn K p0 = some r) : Fn Try.prog 112 [.int .i64 p0] [] (psalteryref04_Turn.res p0 r) (psalteryref04_Turn.out p0 r) := by
  refine Fn_of Try.func112 rfl (Nat.le_of_ble_eq_true rfl) fun Γ => ?_
  refine TC_seq ?_
  refine TC_reg ?_
  refine TL_ev env 1 rfl ⟨trivial, trivial⟩ ?_
  refine TL_end ?_
  refine TE_go ?_
  refine TC_seq ?_
  refine TC_seq ?_
  refine TC_reg ?_
  refine TL_ev env 11 rfl ⟨trivial, ⟨⟨trivial, ⟨trivial, trivial⟩⟩, ⟨trivial, ⟨fun eg => trivial, ⟨fun eg => ⟨fun e => e, ⟨trivial, trivial⟩⟩, ⟨⟨trivial, ⟨trivial, fun e => e⟩⟩, ⟨trivial, ⟨fun eg => trivial, ⟨fun eg => ⟨fun e => e, ⟨trivial, (by decide)⟩⟩, ⟨fun eg => ⟨fun e => e, ⟨trivial, trivial⟩⟩, ⟨⟨trivial, ⟨trivial, fun e => e⟩⟩, trivial⟩⟩⟩⟩⟩⟩⟩⟩⟩⟩⟩ ?_
  refine TL_end ?_
  refine TE_go ?_
  refine TC_cond rfl (fun hb => ?_) (fun hb => ?_)
  · replace h0 := bif_t h0 hb
    refine TC_seq ?_
    refine TC_reg ?_
    refine TL_ev env 1 rfl ⟨trivial, trivial⟩ ?_
    refine TL_end ?_
    refine TE_go ?_
    refine TC_ret ?_
    refine tsr ?_
    obtain rfl := sinj h0
    exact TE_ret env rfl trivial trivial
  · replace h0 := bif_f h0 hb
    refine TC_skip ?_
    refine TE_go ?_
    refine TC_seq ?_
    refine TC_reg ?_
    refine TL_ev env 1 rfl ⟨trivial, trivial⟩ ?_
    refine TL_end ?_
    refine TE_go ?_
    refine TC_seq ?_
    refine TC_seq ?_
    refine TC_reg ?_
    refine TL_ev env 1 rfl ⟨trivial, trivial⟩ ?_
    refine TL_end ?_
    refine TE_go ?_
    obtain ⟨z1, h1, h0⟩ := bnd h0
    refine TC_cut (α := (List (Int))) (fun s => z1 = s) (fun s => [(3, .sl 10800)]) (fun s => [(10800, some (.rows (.int .i16) s))]) ?_ ?_
    · refine TC_blk ?_
      refine TC_loop (α := Int × (List (Int))) (fun n s => psalteryref04_Turn.l0 K p0 n s.1 s.2 = some z1) (fun s => [(0, .int .i64 p0), (3, .sl 11000), (4, .int .i64 s.1)]) (fun s => [(11000, some (.rows (.int .i16) s.2))]) K ?_ ?_
      · refine TE_own 3 7003 (.int .i16) rfl (by decide) rfl rfl ?_
        exact SP_ren [(11000, 7003)] (_, _) h1 ⟨rfl, rfl, rfl, trivial⟩ ⟨rfl, trivial⟩ rfl
      rintro n ⟨x36, x37⟩ h1
      rcases n with _ | n
      · exact (nsome h1).elim
      replace h1 : psalteryref04_Turn.r0 K p0 (psalteryref04_Turn.l0 K p0 n) x36 x37 = some z1 := h1
      refine TC_seq ?_
      refine TC_seq ?_
      refine TC_reg ?_
      refine TL_ev env 3 rfl ⟨trivial, ⟨trivial, ⟨⟨trivial, ⟨trivial, trivial⟩⟩, trivial⟩⟩⟩ ?_
      refine TL_end ?_
      refine TE_go ?_
      refine TC_cond rfl (fun hb => ?_) (fun hb => ?_)
      · replace h1 := bif_t h1 hb
        refine TC_skip ?_
        refine TE_go ?_
        refine TC_seq ?_
        refine TC_blk ?_
        refine TC_seq ?_
        refine TC_reg ?_
        refine TL_ev env 2 rfl ⟨trivial, ⟨trivial, trivial⟩⟩ ?_
        obtain ⟨⟨r47, r48⟩, hr, h1⟩ := bnd h1
        refine TL_callB [] (psalteryref03_Cosine.ok0 hr) psalteryref03_Cosine.fnb rfl ⟨trivial, ⟨trivial, ⟨trivial, trivial⟩⟩⟩ rfl trivial rfl ?_
        refine TL_ev env 5 rfl ⟨trivial, ⟨trivial, ⟨trivial, ⟨trivial, ⟨trivial, trivial⟩⟩⟩⟩⟩ ?_
        refine TL_end ?_
        refine TE_go ?_
        refine TC_reg ?_
        obtain ⟨g, h1⟩ := gd_t h1
        refine TL_ev env 5 rfl ⟨trivial, ⟨trivial, ⟨⟨trivial, trivial⟩, ⟨⟨⟨trivial, ⟨trivial, trivial⟩⟩, g⟩, ⟨trivial, trivial⟩⟩⟩⟩⟩ ?_
        refine TL_end ?_
        refine tbn ?_
        refine TE_go ?_
        refine TC_reg ?_
        refine TL_ev env 3 rfl ⟨trivial, ⟨⟨trivial, ⟨trivial, trivial⟩⟩, ⟨trivial, trivial⟩⟩⟩ ?_
        refine TL_end ?_
        refine tsn ?_
        exact TE_nextr [(11000, 1032)] n (Nat.lt_succ_self n) (_, _) h1 ⟨rfl, rfl, rfl, trivial⟩ ⟨rfl, trivial⟩ rfl
      · replace h1 := bif_f h1 hb
        refine TC_exit ?_
        refine tsx ?_
        refine tsx ?_
        refine tbe ?_
        obtain rfl := sinj h1
        refine tsn ?_
        exact SP_ren [(10800, 11000)] _ rfl ⟨rfl, trivial⟩ ⟨rfl, trivial⟩ rfl
    · rintro x31 hz
      obtain rfl := hz.symm
      refine TE_go ?_
      refine TC_seq ?_
      refine TC_reg ?_
      refine TL_ev env 2 rfl ⟨trivial, ⟨trivial, trivial⟩⟩ ?_
      refine TL_end ?_
      refine TE_go ?_
      refine TC_ret ?_
      refine TE_frz 10800 rfl ?_
      obtain rfl := sinj h0
      exact TE_ret env rfl trivial trivial
theorem psalteryref04_Turn.ok0 {K : Nat} {p0 : Int}  (h0 : psalteryref04_Turn K p0 = some (.inl ())) : Fn Try.prog 112 [.int .i64 p0] [] (.nils) [] := psalteryref04_Turn.ok h0
theorem psalteryref04_Turn.ok1 {K : Nat} {p0 : Int} {q0 : List (Int)} (h0 : psalteryref04_Turn K p0 = some (.inr q0)) : Fn Try.prog 112 [.int .i64 p0] [] (.im (.slice (.int .i16)) q0) [] := psalteryref04_Turn.ok h0
theorem psalteryref04_Turn.fnb : fnb Try.prog 112 = true := fnb_of Try.func112 rfl
def psalteryref04_Slope.res (_p0 : Int) : (Unit) ⊕ ((List (Int))) → MV
  | .inl () => .nils
  | .inr q0 => .im (.slice (.int .i16)) q0
def psalteryref04_Slope.out (_p0 : Int) : (Unit) ⊕ ((List (Int))) → List (Nat × Option MObj)
  | .inl () => []
  | .inr _ => []
theorem psalteryref04_Slope.ok {K : Nat} {p0 : Int} {r : (Unit) ⊕ ((List (Int)))} (h0 : psalteryref04_Slope K p0 = some r) : Fn Try.prog 113 [.int .i64 p0] [] (psalteryref04_Slope.res p0 r) (psalteryref04_Slope.out p0 r) := by
  refine Fn_of Try.func113 rfl (Nat.le_of_ble_eq_true rfl) fun Γ => ?_
  refine TC_seq ?_
  refine TC_reg ?_
  refine TL_ev env 1 rfl ⟨trivial, trivial⟩ ?_
  refine TL_end ?_
  refine TE_go ?_
  refine TC_seq ?_
  refine TC_seq ?_
  refine TC_reg ?_
  refine TL_ev env 6 rfl ⟨trivial, ⟨⟨trivial, ⟨trivial, trivial⟩⟩, ⟨trivial, ⟨fun eg => trivial, ⟨fun eg => ⟨fun e => e, ⟨trivial, trivial⟩⟩, ⟨⟨trivial, ⟨trivial, fun e => e⟩⟩, trivial⟩⟩⟩⟩⟩⟩ ?_
  refine TL_end ?_
  refine TE_go ?_
  refine TC_cond rfl (fun hb => ?_) (fun hb => ?_)
  · replace h0 := bif_t h0 hb
    refine TC_seq ?_
    refine TC_reg ?_
    refine TL_ev env 1 rfl ⟨trivial, trivial⟩ ?_
    refine TL_end ?_
    refine TE_go ?_
    refine TC_ret ?_
    refine tsr ?_
    obtain rfl := sinj h0
    exact TE_ret env rfl trivial trivial
  · replace h0 := bif_f h0 hb
    refine TC_skip ?_
    refine TE_go ?_
    refine TC_seq ?_
    refine TC_reg ?_
    refine TL_ev env 1 rfl ⟨trivial, trivial⟩ ?_
    refine TL_end ?_
    refine TE_go ?_
    refine TC_seq ?_
    refine TC_seq ?_
    refine TC_reg ?_
    refine TL_ev env 1 rfl ⟨trivial, trivial⟩ ?_
    refine TL_end ?_
    refine TE_go ?_
    obtain ⟨z1, h1, h0⟩ := bnd h0
    refine TC_cut (α := (List (Int))) (fun s => z1 = s) (fun s => [(3, .sl 10800)]) (fun s => [(10800, some (.rows (.int .i16) s))]) ?_ ?_
    · refine TC_blk ?_
      refine TC_loop (α := Int × (List (Int))) (fun n s => psalteryref04_Slope.l0 K p0 n s.1 s.2 = some z1) (fun s => [(0, .int .i64 p0), (3, .sl 11000), (4, .int .i64 s.1)]) (fun s => [(11000, some (.rows (.int .i16) s.2))]) K ?_ ?_
      · refine TE_own 3 7003 (.int .i16) rfl (by decide) rfl rfl ?_
        exact SP_ren [(11000, 7003)] (_, _) h1 ⟨rfl, rfl, rfl, trivial⟩ ⟨rfl, trivial⟩ rfl
      rintro n ⟨x24, x25⟩ h1
      rcases n with _ | n
      · exact (nsome h1).elim
      replace h1 : psalteryref04_Slope.r0 K p0 (psalteryref04_Slope.l0 K p0 n) x24 x25 = some z1 := h1
      refine TC_seq ?_
      refine TC_seq ?_
      refine TC_reg ?_
      refine TL_ev env 4 rfl ⟨trivial, ⟨trivial, ⟨⟨trivial, ⟨trivial, trivial⟩⟩, ⟨⟨trivial, ⟨trivial, trivial⟩⟩, trivial⟩⟩⟩⟩ ?_
      refine TL_end ?_
      refine TE_go ?_
      refine TC_cond rfl (fun hb => ?_) (fun hb => ?_)
      · replace h1 := bif_t h1 hb
        refine TC_skip ?_
        refine TE_go ?_
        refine TC_seq ?_
        refine TC_blk ?_
        refine TC_reg ?_
        refine TL_ev env 4 rfl ⟨trivial, ⟨trivial, ⟨trivial, ⟨⟨trivial, ⟨trivial, trivial⟩⟩, trivial⟩⟩⟩⟩ ?_
        obtain ⟨r34, hr, h1⟩ := bnd h1
        refine TL_callB [] (psalteryref03_Of.ok0 hr) psalteryref03_Of.fnb rfl ⟨trivial, ⟨trivial, ⟨trivial, trivial⟩⟩⟩ rfl trivial rfl ?_
        obtain ⟨g, h1⟩ := gd_t h1
        refine TL_ev env 3 rfl ⟨⟨trivial, trivial⟩, ⟨⟨⟨trivial, ⟨trivial, trivial⟩⟩, g⟩, ⟨trivial, trivial⟩⟩⟩ ?_
        refine TL_end ?_
        refine tbn ?_
        refine TE_go ?_
        refine TC_reg ?_
        refine TL_ev env 3 rfl ⟨trivial, ⟨⟨trivial, ⟨trivial, trivial⟩⟩, ⟨trivial, trivial⟩⟩⟩ ?_
        refine TL_end ?_
        refine tsn ?_
        exact TE_nextr [(11000, 1023)] n (Nat.lt_succ_self n) (_, _) h1 ⟨rfl, rfl, rfl, trivial⟩ ⟨rfl, trivial⟩ rfl
      · replace h1 := bif_f h1 hb
        refine TC_exit ?_
        refine tsx ?_
        refine tsx ?_
        refine tbe ?_
        obtain rfl := sinj h1
        refine tsn ?_
        exact SP_ren [(10800, 11000)] _ rfl ⟨rfl, trivial⟩ ⟨rfl, trivial⟩ rfl
    · rintro x21 hz
      obtain rfl := hz.symm
      refine TE_go ?_
      refine TC_seq ?_
      refine TC_reg ?_
      refine TL_ev env 2 rfl ⟨trivial, ⟨trivial, trivial⟩⟩ ?_
      refine TL_end ?_
      refine TE_go ?_
      refine TC_ret ?_
      refine TE_frz 10800 rfl ?_
      obtain rfl := sinj h0
      exact TE_ret env rfl trivial trivial
theorem psalteryref04_Slope.ok0 {K : Nat} {p0 : Int}  (h0 : psalteryref04_Slope K p0 = some (.inl ())) : Fn Try.prog 113 [.int .i64 p0] [] (.nils) [] := psalteryref04_Slope.ok h0
theorem psalteryref04_Slope.ok1 {K : Nat} {p0 : Int} {q0 : List (Int)} (h0 : psalteryref04_Slope K p0 = some (.inr q0)) : Fn Try.prog 113 [.int .i64 p0] [] (.im (.slice (.int .i16)) q0) [] := psalteryref04_Slope.ok h0
theorem psalteryref04_Slope.fnb : fnb Try.prog 113 = true := fnb_of Try.func113 rfl
def psalteryref04_Filter.res (_p0 : Int) : (Unit) ⊕ ((List (Int))) → MV
  | .inl () => .nils
  | .inr q0 => .im (.slice (.int .i16)) q0
def psalteryref04_Filter.out (_p0 : Int) : (Unit) ⊕ ((List (Int))) → List (Nat × Option MObj)
  | .inl () => []
  | .inr _ => []
theorem psalteryref04_Filter.ok {K : Nat} {p0 : Int} {r : (Unit) ⊕ ((List (Int)))} (h0 : psalteryref04_Filter K p0 = some r) : Fn Try.prog 114 [.int .i64 p0] [] (psalteryref04_Filter.res p0 r) (psalteryref04_Filter.out p0 r) := by
  refine Fn_of Try.func114 rfl (Nat.le_of_ble_eq_true rfl) fun Γ => ?_
  refine TC_seq ?_
  refine TC_reg ?_
  refine TL_ev env 1 rfl ⟨trivial, trivial⟩ ?_
  refine TL_end ?_
  refine TE_go ?_
  refine TC_seq ?_
  refine TC_seq ?_
  refine TC_reg ?_
  refine TL_ev env 6 rfl ⟨trivial, ⟨⟨trivial, ⟨trivial, trivial⟩⟩, ⟨trivial, ⟨fun eg => trivial, ⟨fun eg => ⟨fun e => e, ⟨trivial, trivial⟩⟩, ⟨⟨trivial, ⟨fun e => e, trivial⟩⟩, trivial⟩⟩⟩⟩⟩⟩ ?_
  refine TL_end ?_
  refine TE_go ?_
  refine TC_cond rfl (fun hb => ?_) (fun hb => ?_)
  · replace h0 := bif_t h0 hb
    refine TC_seq ?_
    refine TC_reg ?_
    refine TL_ev env 1 rfl ⟨trivial, trivial⟩ ?_
    refine TL_end ?_
    refine TE_go ?_
    refine TC_ret ?_
    refine tsr ?_
    obtain rfl := sinj h0
    exact TE_ret env rfl trivial trivial
  · replace h0 := bif_f h0 hb
    refine TC_skip ?_
    refine TE_go ?_
    refine TC_seq ?_
    refine TC_reg ?_
    refine TL_ev env 1 rfl ⟨trivial, trivial⟩ ?_
    refine TL_end ?_
    refine TE_go ?_
    refine TC_seq ?_
    refine TC_seq ?_
    refine TC_reg ?_
    refine TL_ev env 3 rfl ⟨trivial, ⟨⟨trivial, ⟨trivial, trivial⟩⟩, ⟨trivial, trivial⟩⟩⟩ ?_
    refine TL_end ?_
    refine TE_go ?_
    obtain ⟨z1, h1, h0⟩ := bnd h0
    refine TC_cut (α := (List (Int))) (fun s => z1 = s) (fun s => [(3, .sl 11600)]) (fun s => [(11600, some (.rows (.int .i16) s))]) ?_ ?_
    · refine TC_blk ?_
      refine TC_loop (α := Int × (List (Int))) (fun n s => psalteryref04_Filter.l0 K p0 n s.1 s.2 = some z1) (fun s => [(0, .int .i64 p0), (3, .sl 12000), (4, .int .i64 s.1)]) (fun s => [(12000, some (.rows (.int .i16) s.2))]) K ?_ ?_
      · refine TE_own 3 7003 (.int .i16) rfl (by decide) rfl rfl ?_
        exact SP_ren [(12000, 7003)] (_, _) h1 ⟨rfl, rfl, rfl, trivial⟩ ⟨rfl, trivial⟩ rfl
      rintro n ⟨x93, x94⟩ h1
      rcases n with _ | n
      · exact (nsome h1).elim
      replace h1 : psalteryref04_Filter.r0 K p0 (psalteryref04_Filter.l0 K p0 n) x93 x94 = some z1 := h1
      refine TC_seq ?_
      refine TC_seq ?_
      refine TC_reg ?_
      refine TL_ev env 4 rfl ⟨trivial, ⟨trivial, ⟨⟨trivial, ⟨trivial, trivial⟩⟩, ⟨⟨trivial, ⟨trivial, trivial⟩⟩, trivial⟩⟩⟩⟩ ?_
      refine TL_end ?_
      refine TE_go ?_
      refine TC_cond rfl (fun hb => ?_) (fun hb => ?_)
      · replace h1 := bif_t h1 hb
        refine TC_skip ?_
        refine TE_go ?_
        refine TC_seq ?_
        refine TC_blk ?_
        refine TC_seq ?_
        refine TC_reg ?_
        refine TL_ev env 1 rfl ⟨trivial, trivial⟩ ?_
        refine TL_end ?_
        refine TE_go ?_
        refine TC_seq ?_
        refine TC_seq ?_
        refine TC_reg ?_
        refine TL_ev env 2 rfl ⟨trivial, ⟨⟨trivial, ⟨trivial, trivial⟩⟩, trivial⟩⟩ ?_
        refine TL_end ?_
        refine TE_go ?_
        obtain ⟨z2, h2, h1⟩ := bnd h1
        refine TC_cut (α := Int) (fun s => z2 = s) (fun s => [(0, .int .i64 p0), (3, .sl 12500), (4, .int .i64 x93), (5, .int .i64 s)]) (fun s => [(12500, some (.rows (.int .i16) x94))]) ?_ ?_
        · refine TC_cond rfl (fun hb => ?_) (fun hb => ?_)
          · replace h2 := bif_t h2 hb
            refine TC_reg ?_
            refine TL_ev env 4 rfl ⟨trivial, ⟨⟨trivial, ⟨trivial, trivial⟩⟩, ⟨trivial, ⟨⟨trivial, ⟨trivial, trivial⟩⟩, trivial⟩⟩⟩⟩ ?_
            obtain ⟨r145, hr, h2⟩ := bnd h2
            refine TL_callB [] (psalteryref03_Of.ok0 hr) psalteryref03_Of.fnb rfl ⟨trivial, ⟨trivial, ⟨trivial, trivial⟩⟩⟩ rfl trivial rfl ?_
            obtain ⟨g, h2⟩ := gd_t h2
            refine TL_ev env 8 rfl ⟨trivial, ⟨trivial, ⟨⟨trivial, ⟨trivial, trivial⟩⟩, ⟨⟨trivial, ⟨trivial, trivial⟩⟩, ⟨trivial, ⟨⟨trivial, ⟨trivial, trivial⟩⟩, ⟨⟨trivial, ⟨trivial, g⟩⟩, ⟨trivial, trivial⟩⟩⟩⟩⟩⟩⟩⟩ ?_
            refine TL_end ?_
            obtain rfl := sinj h2
            refine tsn ?_
            exact SP_ren [(12500, 12000)] _ rfl ⟨rfl, rfl, rfl, rfl, trivial⟩ ⟨rfl, trivial⟩ rfl
          · replace h2 := bif_f h2 hb
            refine TC_skip ?_
            obtain rfl := sinj h2
            refine tsn ?_
            exact SP_ren [(12500, 12000)] _ rfl ⟨rfl, rfl, rfl, rfl, trivial⟩ ⟨rfl, trivial⟩ rfl
        · rintro x124 hz
          obtain rfl := hz.symm
          refine TE_go ?_
          refine TC_seq ?_
          refine TC_reg ?_
          refine TL_ev env 5 rfl ⟨trivial, ⟨trivial, ⟨⟨trivial, ⟨trivial, trivial⟩⟩, ⟨⟨trivial, ⟨trivial, trivial⟩⟩, ⟨trivial, trivial⟩⟩⟩⟩⟩ ?_
          refine TL_end ?_
          refine TE_go ?_
          refine TC_seq ?_
          refine TC_reg ?_
          refine TL_ev env 3 rfl ⟨trivial, ⟨trivial, ⟨⟨trivial, ⟨trivial, trivial⟩⟩, trivial⟩⟩⟩ ?_
          obtain ⟨⟨r127, r128⟩, hr, h1⟩ := bnd h1
          refine TL_callB [] (psalteryref03_Cosine.ok0 hr) psalteryref03_Cosine.fnb rfl ⟨trivial, ⟨trivial, ⟨trivial, trivial⟩⟩⟩ rfl trivial rfl ?_
          refine TL_ev env 5 rfl ⟨trivial, ⟨trivial, ⟨trivial, ⟨trivial, ⟨trivial, trivial⟩⟩⟩⟩⟩ ?_
          refine TL_end ?_
          refine TE_go ?_
          refine TC_seq ?_
          refine TC_reg ?_
          refine TL_ev env 4 rfl ⟨trivial, ⟨⟨trivial, ⟨trivial, trivial⟩⟩, ⟨trivial, ⟨⟨trivial, ⟨trivial, trivial⟩⟩, trivial⟩⟩⟩⟩ ?_
          obtain ⟨⟨r130, r131⟩, hr, h1⟩ := bnd h1
          refine TL_callB [] (psalteryref03_Cosine.ok0 hr) psalteryref03_Cosine.fnb rfl ⟨trivial, ⟨trivial, ⟨trivial, trivial⟩⟩⟩ rfl trivial rfl ?_
          refine TL_ev env 5 rfl ⟨trivial, ⟨trivial, ⟨trivial, ⟨trivial, ⟨trivial, trivial⟩⟩⟩⟩⟩ ?_
          refine TL_end ?_
          refine TE_go ?_
          refine TC_seq ?_
          refine TC_reg ?_
          refine TL_ev env 10 rfl ⟨trivial, ⟨trivial, ⟨⟨trivial, ⟨trivial, trivial⟩⟩, ⟨⟨trivial, ⟨trivial, trivial⟩⟩, ⟨trivial, ⟨trivial, ⟨⟨trivial, ⟨trivial, trivial⟩⟩, ⟨⟨trivial, ⟨trivial, trivial⟩⟩, ⟨⟨trivial, ⟨trivial, (by decide)⟩⟩, ⟨trivial, trivial⟩⟩⟩⟩⟩⟩⟩⟩⟩⟩ ?_
          refine TL_end ?_
          refine TE_go ?_
          refine TC_reg ?_
          refine TL_ev env 4 rfl ⟨trivial, ⟨trivial, ⟨trivial, ⟨⟨trivial, ⟨trivial, trivial⟩⟩, trivial⟩⟩⟩⟩ ?_
          obtain ⟨r138, hr, h1⟩ := bnd h1
          refine TL_callB [] (psalteryref01_Round.ok0 hr) psalteryref01_Round.fnb rfl ⟨trivial, ⟨trivial, ⟨trivial, trivial⟩⟩⟩ rfl trivial rfl ?_
          refine TL_ev env 1 rfl ⟨⟨trivial, ⟨trivial, trivial⟩⟩, trivial⟩ ?_
          obtain ⟨r140, hr, h1⟩ := bnd h1
          refine TL_callB [] (psalteryref01_Round.ok0 hr) psalteryref01_Round.fnb rfl ⟨trivial, ⟨trivial, ⟨trivial, trivial⟩⟩⟩ rfl trivial rfl ?_
          obtain ⟨g, h1⟩ := gd_t h1
          refine TL_ev env 4 rfl ⟨trivial, ⟨⟨trivial, trivial⟩, ⟨⟨⟨trivial, ⟨trivial, trivial⟩⟩, g⟩, ⟨trivial, trivial⟩⟩⟩⟩ ?_
          refine TL_end ?_
          refine tbn ?_
          refine TE_go ?_
          refine TC_reg ?_
          refine TL_ev env 3 rfl ⟨trivial, ⟨⟨trivial, ⟨trivial, trivial⟩⟩, ⟨trivial, trivial⟩⟩⟩ ?_
          refine TL_end ?_
          refine tsn ?_
          exact TE_nextr [(12000, 1077)] n (Nat.lt_succ_self n) (_, _) h1 ⟨rfl, rfl, rfl, trivial⟩ ⟨rfl, trivial⟩ rfl
      · replace h1 := bif_f h1 hb
        refine TC_exit ?_
        refine tsx ?_
        refine tsx ?_
        refine tbe ?_
        obtain rfl := sinj h1
        refine tsn ?_
        exact SP_ren [(11600, 12000)] _ rfl ⟨rfl, trivial⟩ ⟨rfl, trivial⟩ rfl
    · rintro x76 hz
      obtain rfl := hz.symm
      refine TE_go ?_
      refine TC_seq ?_
      refine TC_reg ?_
      refine TL_ev env 2 rfl ⟨trivial, ⟨trivial, trivial⟩⟩ ?_
      refine TL_end ?_
      refine TE_go ?_
      refine TC_ret ?_
      refine TE_frz 11600 rfl ?_
      obtain rfl := sinj h0
      exact TE_ret env rfl trivial trivial
theorem psalteryref04_Filter.ok0 {K : Nat} {p0 : Int}  (h0 : psalteryref04_Filter K p0 = some (.inl ())) : Fn Try.prog 114 [.int .i64 p0] [] (.nils) [] := psalteryref04_Filter.ok h0
theorem psalteryref04_Filter.ok1 {K : Nat} {p0 : Int} {q0 : List (Int)} (h0 : psalteryref04_Filter K p0 = some (.inr q0)) : Fn Try.prog 114 [.int .i64 p0] [] (.im (.slice (.int .i16)) q0) [] := psalteryref04_Filter.ok h0
theorem psalteryref04_Filter.fnb : fnb Try.prog 114 = true := fnb_of Try.func114 rfl
def psalterylaw04_ask.res (_p0 : Int) (_p1 : Int) (_p2 : List (Option (List (Int)))) (_p3 : Int) (_p4 : Int) : (Int) ⊕ (Int × (List (Int))) ⊕ ((List (Int)) × (List (Option (List (Int)))) × Int × Int) ⊕ ((List (Int)) × (List (Int)) × (List (Option (List (Int)))) × Int × Int) → MV
  | .inl q0 => .tup [.nils, .int .i64 q0, .nils]
  | .inr (.inl (q0, q1)) => .tup [.nils, .int .i64 q0, .im (.slice (.int .i16)) q1]
  | .inr (.inr (.inl (q0, _, _, _))) => .tup [.im (.slice (.int .i16)) q0, .int .i64 0, .nils]
  | .inr (.inr (.inr (q0, q1, _, _, _))) => .tup [.im (.slice (.int .i16)) q0, .int .i64 0, .im (.slice (.int .i16)) q1]
def psalterylaw04_ask.out (_p0 : Int) (_p1 : Int) (p2 : List (Option (List (Int)))) (p3 : Int) (p4 : Int) : (Int) ⊕ (Int × (List (Int))) ⊕ ((List (Int)) × (List (Option (List (Int)))) × Int × Int) ⊕ ((List (Int)) × (List (Int)) × (List (Option (List (Int)))) × Int × Int) → List (Nat × Option MObj)
  | .inl _ => [(0, some (.ab (bkA p2 p3 p4)))]
  | .inr (.inl (_, _)) => [(0, some (.ab (bkA p2 p3 p4)))]
  | .inr (.inr (.inl (_, q1, q2, q3))) => [(0, some (.ab (bkA q1 q2 q3)))]
  | .inr (.inr (.inr (_, _, q2, q3, q4))) => [(0, some (.ab (bkA q2 q3 q4)))]
theorem psalterylaw04_ask.ok {K : Nat} {p0 : Int} {p1 : Int} {p2 : List (Option (List (Int)))} {p3 : Int} {p4 : Int} {r : (Int) ⊕ (Int × (List (Int))) ⊕ ((List (Int)) × (List (Option (List (Int)))) × Int × Int) ⊕ ((List (Int)) × (List (Int)) × (List (Option (List (Int)))) × Int × Int)} (h0 : psalterylaw04_ask K p0 p1 p2 p3 p4 = some r) : Fn Try.prog 60 [.p 0 0, .agg [.int .i64 p0, .int .i64 p1]] [(0, some (.ab (bkA p2 p3 p4)))] (psalterylaw04_ask.res p0 p1 p2 p3 p4 r) (psalterylaw04_ask.out p0 p1 p2 p3 p4 r) := by
  refine Fn_of Try.func60 rfl (Nat.le_of_ble_eq_true rfl) fun Γ => ?_
  refine TC_seq ?_
  refine TC_reg ?_
  refine TL_ev env 4 rfl ⟨trivial, ⟨trivial, ⟨trivial, ⟨trivial, trivial⟩⟩⟩⟩ ?_
  refine TL_end ?_
  refine TE_go ?_
  refine TC_seq ?_
  refine TC_seq ?_
  refine TC_reg ?_
  refine TL_ev env 2 rfl ⟨trivial, ⟨⟨trivial, trivial⟩, trivial⟩⟩ ?_
  refine TL_end ?_
  refine TE_go ?_
  refine TC_blk ?_
  refine TC_seq ?_
  refine TC_reg ?_
  refine TL_ev env 2 rfl ⟨⟨trivial, ⟨trivial, trivial⟩⟩, ⟨trivial, trivial⟩⟩ ?_
  refine TL_end ?_
  refine TE_go ?_
  refine TC_cond rfl (fun hb => ?_) (fun hb => ?_)
  · replace h0 := bif_t h0 hb
    refine TC_seq ?_
    refine TC_reg ?_
    refine TL_ev env 3 rfl ⟨trivial, ⟨trivial, ⟨⟨trivial, trivial⟩, trivial⟩⟩⟩ ?_
    obtain ⟨z, hr, h0⟩ := bnd h0
    rcases z with r85 | ⟨r86, r87, r88, r89⟩
    · refine TL_callB [(0, 0)] (bank_Bank_Turn.ok0 hr) bank_Bank_Turn.fnb rfl ⟨trivial, ⟨trivial, ⟨trivial, trivial⟩⟩⟩ rfl ⟨.inr rfl, trivial⟩ rfl ?_
      refine TL_ev env 5 rfl ⟨trivial, ⟨trivial, ⟨trivial, ⟨trivial, ⟨trivial, trivial⟩⟩⟩⟩⟩ ?_
      refine TL_end ?_
      refine TE_go ?_
      refine TC_seq ?_
      refine TC_reg ?_
      refine TL_ev env 4 rfl ⟨trivial, ⟨trivial, ⟨trivial, ⟨⟨trivial, trivial⟩, trivial⟩⟩⟩⟩ ?_
      obtain ⟨z, hr, h0⟩ := bnd h0
      rcases z with ⟨⟩ | r90
      · refine TL_callB [] (psalteryref04_Turn.ok0 hr) psalteryref04_Turn.fnb rfl ⟨trivial, ⟨trivial, trivial⟩⟩ rfl trivial rfl ?_
        refine TL_ev env 3 rfl ⟨trivial, ⟨trivial, ⟨trivial, trivial⟩⟩⟩ ?_
        refine TL_end ?_
        refine TE_go ?_
        refine TC_ret ?_
        refine tbr ?_
        refine tsr ?_
        obtain rfl := sinj h0
        exact TE_ret env rfl trivial ⟨.inr rfl, trivial⟩
      · refine TL_callB [] (psalteryref04_Turn.ok1 hr) psalteryref04_Turn.fnb rfl ⟨trivial, ⟨trivial, trivial⟩⟩ rfl trivial rfl ?_
        refine TL_ev env 3 rfl ⟨trivial, ⟨trivial, ⟨trivial, trivial⟩⟩⟩ ?_
        refine TL_end ?_
        refine TE_go ?_
        refine TC_ret ?_
        refine tbr ?_
        refine tsr ?_
        obtain rfl := sinj h0
        exact TE_ret env rfl trivial ⟨.inr rfl, trivial⟩
    · refine TL_callB [(0, 0)] (bank_Bank_Turn.ok1 hr) bank_Bank_Turn.fnb rfl ⟨trivial, ⟨trivial, ⟨trivial, trivial⟩⟩⟩ rfl ⟨.inr rfl, trivial⟩ rfl ?_
      refine TL_ev env 5 rfl ⟨trivial, ⟨trivial, ⟨trivial, ⟨trivial, ⟨trivial, trivial⟩⟩⟩⟩⟩ ?_
      refine TL_end ?_
      refine TE_go ?_
      refine TC_seq ?_
      refine TC_reg ?_
      refine TL_ev env 4 rfl ⟨trivial, ⟨trivial, ⟨trivial, ⟨⟨trivial, trivial⟩, trivial⟩⟩⟩⟩ ?_
      obtain ⟨z, hr, h0⟩ := bnd h0
      rcases z with ⟨⟩ | r91
      · refine TL_callB [] (psalteryref04_Turn.ok0 hr) psalteryref04_Turn.fnb rfl ⟨trivial, ⟨trivial, trivial⟩⟩ rfl trivial rfl ?_
        refine TL_ev env 3 rfl ⟨trivial, ⟨trivial, ⟨trivial, trivial⟩⟩⟩ ?_
        refine TL_end ?_
        refine TE_go ?_
        refine TC_ret ?_
        refine tbr ?_
        refine tsr ?_
        obtain rfl := sinj h0
        exact TE_ret env rfl trivial ⟨.inr rfl, trivial⟩
      · refine TL_callB [] (psalteryref04_Turn.ok1 hr) psalteryref04_Turn.fnb rfl ⟨trivial, ⟨trivial, trivial⟩⟩ rfl trivial rfl ?_
        refine TL_ev env 3 rfl ⟨trivial, ⟨trivial, ⟨trivial, trivial⟩⟩⟩ ?_
        refine TL_end ?_
        refine TE_go ?_
        refine TC_ret ?_
        refine tbr ?_
        refine tsr ?_
        obtain rfl := sinj h0
        exact TE_ret env rfl trivial ⟨.inr rfl, trivial⟩
  · replace h0 := bif_f h0 hb
    refine TC_seq ?_
    refine TC_reg ?_
    refine TL_ev env 2 rfl ⟨⟨trivial, ⟨trivial, trivial⟩⟩, ⟨trivial, trivial⟩⟩ ?_
    refine TL_end ?_
    refine TE_go ?_
    refine TC_cond rfl (fun hb => ?_) (fun hb => ?_)
    · replace h0 := bif_t h0 hb
      refine TC_seq ?_
      refine TC_reg ?_
      refine TL_ev env 3 rfl ⟨trivial, ⟨trivial, ⟨⟨trivial, trivial⟩, trivial⟩⟩⟩ ?_
      obtain ⟨z, hr, h0⟩ := bnd h0
      rcases z with r99 | ⟨r100, r101, r102, r103⟩
      · refine TL_callB [(0, 0)] (bank_Bank_Slope.ok0 hr) bank_Bank_Slope.fnb rfl ⟨trivial, ⟨trivial, ⟨trivial, trivial⟩⟩⟩ rfl ⟨.inr rfl, trivial⟩ rfl ?_
        refine TL_ev env 5 rfl ⟨trivial, ⟨trivial, ⟨trivial, ⟨trivial, ⟨trivial, trivial⟩⟩⟩⟩⟩ ?_
        refine TL_end ?_
        refine TE_go ?_
        refine TC_seq ?_
        refine TC_reg ?_
        refine TL_ev env 4 rfl ⟨trivial, ⟨trivial, ⟨trivial, ⟨⟨trivial, trivial⟩, trivial⟩⟩⟩⟩ ?_
        obtain ⟨z, hr, h0⟩ := bnd h0
        rcases z with ⟨⟩ | r104
        · refine TL_callB [] (psalteryref04_Slope.ok0 hr) psalteryref04_Slope.fnb rfl ⟨trivial, ⟨trivial, trivial⟩⟩ rfl trivial rfl ?_
          refine TL_ev env 3 rfl ⟨trivial, ⟨trivial, ⟨trivial, trivial⟩⟩⟩ ?_
          refine TL_end ?_
          refine TE_go ?_
          refine TC_ret ?_
          refine tbr ?_
          refine tsr ?_
          obtain rfl := sinj h0
          exact TE_ret env rfl trivial ⟨.inr rfl, trivial⟩
        · refine TL_callB [] (psalteryref04_Slope.ok1 hr) psalteryref04_Slope.fnb rfl ⟨trivial, ⟨trivial, trivial⟩⟩ rfl trivial rfl ?_
          refine TL_ev env 3 rfl ⟨trivial, ⟨trivial, ⟨trivial, trivial⟩⟩⟩ ?_
          refine TL_end ?_
          refine TE_go ?_
          refine TC_ret ?_
          refine tbr ?_
          refine tsr ?_
          obtain rfl := sinj h0
          exact TE_ret env rfl trivial ⟨.inr rfl, trivial⟩
      · refine TL_callB [(0, 0)] (bank_Bank_Slope.ok1 hr) bank_Bank_Slope.fnb rfl ⟨trivial, ⟨trivial, ⟨trivial, trivial⟩⟩⟩ rfl ⟨.inr rfl, trivial⟩ rfl ?_
        refine TL_ev env 5 rfl ⟨trivial, ⟨trivial, ⟨trivial, ⟨trivial, ⟨trivial, trivial⟩⟩⟩⟩⟩ ?_
        refine TL_end ?_
        refine TE_go ?_
        refine TC_seq ?_
        refine TC_reg ?_
        refine TL_ev env 4 rfl ⟨trivial, ⟨trivial, ⟨trivial, ⟨⟨trivial, trivial⟩, trivial⟩⟩⟩⟩ ?_
        obtain ⟨z, hr, h0⟩ := bnd h0
        rcases z with ⟨⟩ | r105
        · refine TL_callB [] (psalteryref04_Slope.ok0 hr) psalteryref04_Slope.fnb rfl ⟨trivial, ⟨trivial, trivial⟩⟩ rfl trivial rfl ?_
          refine TL_ev env 3 rfl ⟨trivial, ⟨trivial, ⟨trivial, trivial⟩⟩⟩ ?_
          refine TL_end ?_
          refine TE_go ?_
          refine TC_ret ?_
          refine tbr ?_
          refine tsr ?_
          obtain rfl := sinj h0
          exact TE_ret env rfl trivial ⟨.inr rfl, trivial⟩
        · refine TL_callB [] (psalteryref04_Slope.ok1 hr) psalteryref04_Slope.fnb rfl ⟨trivial, ⟨trivial, trivial⟩⟩ rfl trivial rfl ?_
          refine TL_ev env 3 rfl ⟨trivial, ⟨trivial, ⟨trivial, trivial⟩⟩⟩ ?_
          refine TL_end ?_
          refine TE_go ?_
          refine TC_ret ?_
          refine tbr ?_
          refine tsr ?_
          obtain rfl := sinj h0
          exact TE_ret env rfl trivial ⟨.inr rfl, trivial⟩
    · replace h0 := bif_f h0 hb
      refine TC_skip ?_
      refine tbn ?_
      refine TE_go ?_
      refine TC_seq ?_
      refine TC_reg ?_
      refine TL_ev env 3 rfl ⟨trivial, ⟨trivial, ⟨⟨trivial, trivial⟩, trivial⟩⟩⟩ ?_
      obtain ⟨z, hr, h0⟩ := bnd h0
      rcases z with r106 | ⟨r107, r108, r109, r110⟩
      · refine TL_callB [(0, 0)] (bank_Bank_Filter.ok0 hr) bank_Bank_Filter.fnb rfl ⟨trivial, ⟨trivial, ⟨trivial, trivial⟩⟩⟩ rfl ⟨.inr rfl, trivial⟩ rfl ?_
        refine TL_ev env 5 rfl ⟨trivial, ⟨trivial, ⟨trivial, ⟨trivial, ⟨trivial, trivial⟩⟩⟩⟩⟩ ?_
        refine TL_end ?_
        refine TE_go ?_
        refine TC_seq ?_
        refine TC_reg ?_
        refine TL_ev env 4 rfl ⟨trivial, ⟨trivial, ⟨trivial, ⟨⟨trivial, trivial⟩, trivial⟩⟩⟩⟩ ?_
        obtain ⟨z, hr, h0⟩ := bnd h0
        rcases z with ⟨⟩ | r111
        · refine TL_callB [] (psalteryref04_Filter.ok0 hr) psalteryref04_Filter.fnb rfl ⟨trivial, ⟨trivial, trivial⟩⟩ rfl trivial rfl ?_
          refine TL_ev env 3 rfl ⟨trivial, ⟨trivial, ⟨trivial, trivial⟩⟩⟩ ?_
          refine TL_end ?_
          refine TE_go ?_
          refine TC_ret ?_
          obtain rfl := sinj h0
          exact TE_ret env rfl trivial ⟨.inr rfl, trivial⟩
        · refine TL_callB [] (psalteryref04_Filter.ok1 hr) psalteryref04_Filter.fnb rfl ⟨trivial, ⟨trivial, trivial⟩⟩ rfl trivial rfl ?_
          refine TL_ev env 3 rfl ⟨trivial, ⟨trivial, ⟨trivial, trivial⟩⟩⟩ ?_
          refine TL_end ?_
          refine TE_go ?_
          refine TC_ret ?_
          obtain rfl := sinj h0
          exact TE_ret env rfl trivial ⟨.inr rfl, trivial⟩
      · refine TL_callB [(0, 0)] (bank_Bank_Filter.ok1 hr) bank_Bank_Filter.fnb rfl ⟨trivial, ⟨trivial, ⟨trivial, trivial⟩⟩⟩ rfl ⟨.inr rfl, trivial⟩ rfl ?_
        refine TL_ev env 5 rfl ⟨trivial, ⟨trivial, ⟨trivial, ⟨trivial, ⟨trivial, trivial⟩⟩⟩⟩⟩ ?_
        refine TL_end ?_
        refine TE_go ?_
        refine TC_seq ?_
        refine TC_reg ?_
        refine TL_ev env 4 rfl ⟨trivial, ⟨trivial, ⟨trivial, ⟨⟨trivial, trivial⟩, trivial⟩⟩⟩⟩ ?_
        obtain ⟨z, hr, h0⟩ := bnd h0
        rcases z with ⟨⟩ | r112
        · refine TL_callB [] (psalteryref04_Filter.ok0 hr) psalteryref04_Filter.fnb rfl ⟨trivial, ⟨trivial, trivial⟩⟩ rfl trivial rfl ?_
          refine TL_ev env 3 rfl ⟨trivial, ⟨trivial, ⟨trivial, trivial⟩⟩⟩ ?_
          refine TL_end ?_
          refine TE_go ?_
          refine TC_ret ?_
          obtain rfl := sinj h0
          exact TE_ret env rfl trivial ⟨.inr rfl, trivial⟩
        · refine TL_callB [] (psalteryref04_Filter.ok1 hr) psalteryref04_Filter.fnb rfl ⟨trivial, ⟨trivial, trivial⟩⟩ rfl trivial rfl ?_
          refine TL_ev env 3 rfl ⟨trivial, ⟨trivial, ⟨trivial, trivial⟩⟩⟩ ?_
          refine TL_end ?_
          refine TE_go ?_
          refine TC_ret ?_
          obtain rfl := sinj h0
          exact TE_ret env rfl trivial ⟨.inr rfl, trivial⟩
theorem psalterylaw04_ask.ok0 {K : Nat} {p0 : Int} {p1 : Int} {p2 : List (Option (List (Int)))} {p3 : Int} {p4 : Int} {q0 : Int} (h0 : psalterylaw04_ask K p0 p1 p2 p3 p4 = some (.inl q0)) : Fn Try.prog 60 [.p 0 0, .agg [.int .i64 p0, .int .i64 p1]] [(0, some (.ab (bkA p2 p3 p4)))] (.tup [.nils, .int .i64 q0, .nils]) [(0, some (.ab (bkA p2 p3 p4)))] := psalterylaw04_ask.ok h0
theorem psalterylaw04_ask.ok1 {K : Nat} {p0 : Int} {p1 : Int} {p2 : List (Option (List (Int)))} {p3 : Int} {p4 : Int} {q0 : Int} {q1 : List (Int)} (h0 : psalterylaw04_ask K p0 p1 p2 p3 p4 = some (.inr (.inl (q0, q1)))) : Fn Try.prog 60 [.p 0 0, .agg [.int .i64 p0, .int .i64 p1]] [(0, some (.ab (bkA p2 p3 p4)))] (.tup [.nils, .int .i64 q0, .im (.slice (.int .i16)) q1]) [(0, some (.ab (bkA p2 p3 p4)))] := psalterylaw04_ask.ok h0
theorem psalterylaw04_ask.ok2 {K : Nat} {p0 : Int} {p1 : Int} {p2 : List (Option (List (Int)))} {p3 : Int} {p4 : Int} {q0 : List (Int)} {q1 : List (Option (List (Int)))} {q2 : Int} {q3 : Int} (h0 : psalterylaw04_ask K p0 p1 p2 p3 p4 = some (.inr (.inr (.inl (q0, q1, q2, q3))))) : Fn Try.prog 60 [.p 0 0, .agg [.int .i64 p0, .int .i64 p1]] [(0, some (.ab (bkA p2 p3 p4)))] (.tup [.im (.slice (.int .i16)) q0, .int .i64 0, .nils]) [(0, some (.ab (bkA q1 q2 q3)))] := psalterylaw04_ask.ok h0
theorem psalterylaw04_ask.ok3 {K : Nat} {p0 : Int} {p1 : Int} {p2 : List (Option (List (Int)))} {p3 : Int} {p4 : Int} {q0 : List (Int)} {q1 : List (Int)} {q2 : List (Option (List (Int)))} {q3 : Int} {q4 : Int} (h0 : psalterylaw04_ask K p0 p1 p2 p3 p4 = some (.inr (.inr (.inr (q0, q1, q2, q3, q4))))) : Fn Try.prog 60 [.p 0 0, .agg [.int .i64 p0, .int .i64 p1]] [(0, some (.ab (bkA p2 p3 p4)))] (.tup [.im (.slice (.int .i16)) q0, .int .i64 0, .im (.slice (.int .i16)) q1]) [(0, some (.ab (bkA q2 q3 q4)))] := psalterylaw04_ask.ok h0
theorem psalterylaw04_ask.fnb : fnb Try.prog 60 = true := fnb_of Try.func60 rfl
def psalteryref04_Same_3.res  : Unit → MV
  | () => .bool true
def psalteryref04_Same_3.out  : Unit → List (Nat × Option MObj)
  | () => []
theorem psalteryref04_Same_3.ok {K : Nat}  {r : Unit} (h0 : psalteryref04_Same_3 K  = some r) : Fn Try.prog 61 [.nils, .nils] [] (psalteryref04_Same_3.res  r) (psalteryref04_Same_3.out  r) := by
  refine Fn_of Try.func61 rfl (Nat.le_of_ble_eq_true rfl) fun Γ => ?_
  unfold psalteryref04_Same_3 at h0
  refine TC_seq ?_
  refine TC_reg ?_
  refine TL_ev env 1 rfl ⟨trivial, trivial⟩ ?_
  refine TL_end ?_
  refine TE_go ?_
  refine TC_seq ?_
  refine TC_seq ?_
  refine TC_reg ?_
  refine TL_ev env 5 rfl ⟨trivial, ⟨⟨trivial, trivial⟩, ⟨trivial, ⟨⟨trivial, trivial⟩, ⟨⟨trivial, ⟨trivial, trivial⟩⟩, trivial⟩⟩⟩⟩⟩ ?_
  refine TL_end ?_
  refine TE_go ?_
  refine TC_cond rfl (fun hb => ?_) (fun hb => ?_)
  · first | exact (ftf hb).elim | exact (tff hb).elim | exact absurd hb (by decide)
  · refine TC_skip ?_
    refine TE_go ?_
    refine TC_seq ?_
    refine TC_seq ?_
    refine TC_reg ?_
    refine TL_ev env 1 rfl ⟨trivial, trivial⟩ ?_
    refine TL_end ?_
    refine TE_go ?_
    obtain ⟨z1, h1, h0⟩ := bnd h0
    refine TC_cut (α := Unit) (fun _ => z1 = ()) (fun _ => []) (fun _ => []) ?_ ?_
    · refine TC_blk ?_
      refine TC_loop (α := Unit) (fun n _ => psalteryref04_Same_3.l0 K n = some z1) (fun _ => [(0, .nils), (1, .nils), (5, .int .i64 0)]) (fun _ => []) K ?_ ?_
      · exact SP_ren [] () h1 ⟨rfl, rfl, rfl, trivial⟩ trivial rfl
      rintro n ⟨⟩ h1
      rcases n with _ | n
      · exact (nsome h1).elim
      replace h1 : psalteryref04_Same_3.r0 K (psalteryref04_Same_3.l0 K n)  = some z1 := h1
      refine TC_seq ?_
      refine TC_seq ?_
      refine TC_reg ?_
      refine TL_ev env 4 rfl ⟨trivial, ⟨trivial, ⟨⟨trivial, trivial⟩, ⟨⟨trivial, ⟨trivial, trivial⟩⟩, trivial⟩⟩⟩⟩ ?_
      refine TL_end ?_
      refine TE_go ?_
      refine TC_cond rfl (fun hb => ?_) (fun hb => ?_)
      · first | exact (ftf hb).elim | exact (tff hb).elim | exact absurd hb (by decide)
      · refine TC_exit ?_
        refine tsx ?_
        refine tsx ?_
        refine tbe ?_
        obtain rfl := sinj h1
        refine tsn ?_
        exact SP_ren [] () rfl trivial trivial rfl
    · rintro ⟨⟩ rfl
      refine TE_go ?_
      refine TC_seq ?_
      refine TC_reg ?_
      refine TL_ev env 1 rfl ⟨trivial, trivial⟩ ?_
      refine TL_end ?_
      refine TE_go ?_
      refine TC_ret ?_
      obtain rfl := sinj h0
      exact TE_ret env rfl trivial trivial
theorem psalteryref04_Same_3.ok0 {K : Nat}   (h0 : psalteryref04_Same_3 K  = some ()) : Fn Try.prog 61 [.nils, .nils] [] (.bool true) [] := psalteryref04_Same_3.ok h0
theorem psalteryref04_Same_3.fnb : fnb Try.prog 61 = true := fnb_of Try.func61 rfl
def psalteryref04_Same_4.res (_p0 : List (Int)) : Bool → MV
  | q0 => .bool q0
def psalteryref04_Same_4.out (_p0 : List (Int)) : Bool → List (Nat × Option MObj)
  | _ => []
theorem psalteryref04_Same_4.ok {K : Nat} {p0 : List (Int)} {r : Bool} (h0 : psalteryref04_Same_4 K p0 = some r) : Fn Try.prog 61 [.im (.slice (.int .i16)) p0, .nils] [] (psalteryref04_Same_4.res p0 r) (psalteryref04_Same_4.out p0 r) := by
  refine Fn_of Try.func61 rfl (Nat.le_of_ble_eq_true rfl) fun Γ => ?_
  refine TC_seq ?_
  refine TC_reg ?_
  refine TL_ev env 1 rfl ⟨trivial, trivial⟩ ?_
  refine TL_end ?_
  refine TE_go ?_
  refine TC_seq ?_
  refine TC_seq ?_
  refine TC_reg ?_
  refine TL_ev env 5 rfl ⟨trivial, ⟨⟨trivial, trivial⟩, ⟨trivial, ⟨⟨trivial, trivial⟩, ⟨⟨trivial, ⟨trivial, trivial⟩⟩, trivial⟩⟩⟩⟩⟩ ?_
  refine TL_end ?_
  refine TE_go ?_
  refine TC_cond rfl (fun hb => ?_) (fun hb => ?_)
  · replace h0 := bif_t h0 hb
    refine TC_seq ?_
    refine TC_reg ?_
    refine TL_ev env 1 rfl ⟨trivial, trivial⟩ ?_
    refine TL_end ?_
    refine TE_go ?_
    refine TC_ret ?_
    refine tsr ?_
    obtain rfl := sinj h0
    exact TE_ret env rfl trivial trivial
  · replace h0 := bif_f h0 hb
    refine TC_skip ?_
    refine TE_go ?_
    refine TC_seq ?_
    refine TC_seq ?_
    refine TC_reg ?_
    refine TL_ev env 1 rfl ⟨trivial, trivial⟩ ?_
    refine TL_end ?_
    refine TE_go ?_
    obtain ⟨z1, h1, h0⟩ := bnd h0
    refine TC_cut (α := Unit) (fun _ => z1 = ()) (fun _ => []) (fun _ => []) ?_ ?_
    · refine TC_blk ?_
      refine TC_loop (α := Unit) (fun n _ => psalteryref04_Same_4.l0 K p0 n = some z1) (fun _ => [(0, .im (.slice (.int .i16)) p0), (1, .nils), (5, .int .i64 0)]) (fun _ => []) K ?_ ?_
      · exact SP_ren [] () h1 ⟨rfl, rfl, rfl, trivial⟩ trivial rfl
      rintro n ⟨⟩ h1
      rcases n with _ | n
      · exact (nsome h1).elim
      replace h1 : psalteryref04_Same_4.r0 K p0 (psalteryref04_Same_4.l0 K p0 n)  = some z1 := h1
      refine TC_seq ?_
      refine TC_seq ?_
      refine TC_reg ?_
      refine TL_ev env 4 rfl ⟨trivial, ⟨trivial, ⟨⟨trivial, trivial⟩, ⟨⟨trivial, ⟨trivial, trivial⟩⟩, trivial⟩⟩⟩⟩ ?_
      refine TL_end ?_
      refine TE_go ?_
      refine TC_cond rfl (fun hb => ?_) (fun hb => ?_)
      · replace h1 := bif_t h1 hb
        refine TC_skip ?_
        refine TE_go ?_
        refine TC_seq ?_
        refine TC_blk ?_
        refine TC_seq ?_
        refine TC_renw (A' := [(0, .im (.slice (.int .i16)) _), (1, .nils), (5, .int .i64 0)]) (L' := []) [] ⟨rfl, rfl, rfl, trivial⟩ trivial rfl ?_
        refine TC_drawR ⟨_, fun i => ([[], [], [1, 0], [2, 1, 0], [], [], [5, 4], [6, 5, 4], [7, 6, 5, 4, 3, 2, 1, 0]] : List (List Nat)).getD i [], fun i => ([[], [], [], [], [], [], [], [], []] : List (List Nat)).getD i [], fun i => ([[], [], [], [], [], [], [], [], []] : List (List Nat)).getD i []⟩ (fun i => ([[], [], [], [], [], [], [], [], []] : List (List Nat)).getD i []) (by kernel_rfl) (by kernel_rfl) ?_
        obtain ⟨g, h1⟩ := gd_t h1
        exact (nsome h1).elim
      · replace h1 := bif_f h1 hb
        refine TC_exit ?_
        refine tsx ?_
        refine tsx ?_
        refine tbe ?_
        obtain rfl := sinj h1
        refine tsn ?_
        exact SP_ren [] () rfl trivial trivial rfl
    · rintro ⟨⟩ rfl
      refine TE_go ?_
      refine TC_seq ?_
      refine TC_reg ?_
      refine TL_ev env 1 rfl ⟨trivial, trivial⟩ ?_
      refine TL_end ?_
      refine TE_go ?_
      refine TC_ret ?_
      obtain rfl := sinj h0
      exact TE_ret env rfl trivial trivial
theorem psalteryref04_Same_4.ok0 {K : Nat} {p0 : List (Int)} {q0 : Bool} (h0 : psalteryref04_Same_4 K p0 = some q0) : Fn Try.prog 61 [.im (.slice (.int .i16)) p0, .nils] [] (.bool q0) [] := psalteryref04_Same_4.ok h0
theorem psalteryref04_Same_4.fnb : fnb Try.prog 61 = true := fnb_of Try.func61 rfl
def psalterylaw04_BankTells.res (_p0 : List ((Int × Int))) : Bool → MV
  | q0 => .bool q0
def psalterylaw04_BankTells.out (_p0 : List ((Int × Int))) : Bool → List (Nat × Option MObj)
  | _ => []
theorem psalterylaw04_BankTells.ok {K : Nat} {p0 : List ((Int × Int))} {r : Bool} (h0 : psalterylaw04_BankTells K p0 = some r) : Fn Try.prog 13 [.im (.slice (.pair (.int .i64) (.int .i64))) p0] [] (psalterylaw04_BankTells.res p0 r) (psalterylaw04_BankTells.out p0 r) := by
  refine Fn_of Try.func13 rfl (Nat.le_of_ble_eq_true rfl) fun Γ => ?_
  refine TC_seq ?_
  refine TC_reg ?_
  refine TL_ev env 1 rfl ⟨trivial, trivial⟩ ?_
  refine TL_end ?_
  refine TE_go ?_
  refine TC_seq ?_
  refine TC_seq ?_
  refine TC_reg ?_
  obtain ⟨r100, hr, h0⟩ := bnd h0
  refine TL_callB [] (psalterylaw04_alive.ok0 hr) psalterylaw04_alive.fnb rfl ⟨trivial, trivial⟩ rfl trivial rfl ?_
  refine TL_ev env 1 rfl ⟨trivial, trivial⟩ ?_
  refine TL_end ?_
  refine TE_go ?_
  refine TC_cond rfl (fun hb => ?_) (fun hb => ?_)
  · replace h0 := bif_t h0 hb
    refine TC_seq ?_
    refine TC_reg ?_
    refine TL_ev env 1 rfl ⟨trivial, trivial⟩ ?_
    refine TL_end ?_
    refine TE_go ?_
    refine TC_ret ?_
    refine tsr ?_
    obtain rfl := sinj h0
    exact TE_ret env rfl trivial trivial
  · replace h0 := bif_f h0 hb
    refine TC_skip ?_
    refine TE_go ?_
    refine TC_seq ?_
    refine TC_seq ?_
    refine TC_reg ?_
    refine TL_ev env 3 rfl ⟨trivial, ⟨⟨trivial, trivial⟩, ⟨⟨trivial, ⟨trivial, trivial⟩⟩, trivial⟩⟩⟩ ?_
    refine TL_end ?_
    refine TE_go ?_
    refine TC_cond rfl (fun hb => ?_) (fun hb => ?_)
    · replace h0 := bif_t h0 hb
      refine TC_seq ?_
      refine TC_reg ?_
      refine TL_ev env 1 rfl ⟨trivial, trivial⟩ ?_
      refine TL_end ?_
      refine TE_go ?_
      refine TC_ret ?_
      refine tsr ?_
      obtain rfl := sinj h0
      exact TE_ret env rfl trivial trivial
    · replace h0 := bif_f h0 hb
      refine TC_skip ?_
      refine TE_go ?_
      refine TC_seq ?_
      refine TC_reg ?_
      obtain ⟨⟨⟩, hr, h0⟩ := bnd h0
      refine TL_callB [(1000, 500180)] (bank_New.ok0 hr) bank_New.fnb rfl ⟨trivial, trivial⟩ rfl trivial rfl ?_
      refine TL_ev env 1 rfl ⟨trivial, trivial⟩ ?_
      refine TL_end ?_
      refine TE_go ?_
      refine TC_seq ?_
      refine TC_reg ?_
      refine TL_ev env 1 rfl ⟨trivial, trivial⟩ ?_
      refine TL_end ?_
      refine TE_go ?_
      refine TC_seq ?_
      refine TC_reg ?_
      refine TL_ev env 1 rfl ⟨trivial, trivial⟩ ?_
      refine TL_end ?_
      refine TE_go ?_
      refine TC_seq ?_
      refine TC_seq ?_
      refine TC_reg ?_
      refine TL_ev env 1 rfl ⟨trivial, trivial⟩ ?_
      refine TL_end ?_
      refine TE_go ?_
      obtain ⟨z1, h1, h0⟩ := bnd h0
      refine TC_cut (α := Unit) (fun _ => z1 = .inl ()) (fun _ => []) (fun _ => []) ?_ ?_
      · refine TC_blk ?_
        refine TC_loop (α := Int × Int × (List (Option (List (Int)))) × Int × Int × (List ((Int × Int)))) (fun n s => psalterylaw04_BankTells.l0 K p0 n s.1 s.2.1 s.2.2.1 s.2.2.2.1 s.2.2.2.2.1 s.2.2.2.2.2 = some z1) (fun s => [(0, .im (.slice (.pair (.int .i64) (.int .i64))) p0), (3, .p 23700 0), (4, .sl 23701), (5, .int .i64 s.1), (6, .int .i64 s.2.1)]) (fun s => [(23700, some (.ab (bkA s.2.2.1 s.2.2.2.1 s.2.2.2.2.1))), (23701, some (.rows (.pair (.int .i64) (.int .i64)) s.2.2.2.2.2))]) K ?_ ?_
        · refine TE_own 4 7004 (.pair (.int .i64) (.int .i64)) rfl (by decide) rfl rfl ?_
          exact SP_ren [(23700, 500180), (23701, 7004)] (_, _, _, _, _, _) h1 ⟨rfl, rfl, rfl, rfl, rfl, trivial⟩ ⟨rfl, rfl, trivial⟩ rfl
        rintro n ⟨x232, x233, x234, x235, x236, x237⟩ h1
        rcases n with _ | n
        · exact (nsome h1).elim
        replace h1 : psalterylaw04_BankTells.r0 K p0 (psalterylaw04_BankTells.l0 K p0 n) x232 x233 x234 x235 x236 x237 = some z1 := h1
        refine TC_seq ?_
        refine TC_seq ?_
        refine TC_reg ?_
        refine TL_ev env 4 rfl ⟨trivial, ⟨trivial, ⟨⟨trivial, trivial⟩, ⟨⟨trivial, ⟨trivial, trivial⟩⟩, trivial⟩⟩⟩⟩ ?_
        refine TL_end ?_
        refine TE_go ?_
        refine TC_cond rfl (fun hb => ?_) (fun hb => ?_)
        · replace h1 := bif_t h1 hb
          refine TC_skip ?_
          refine TE_go ?_
          refine TC_seq ?_
          obtain ⟨z2, h2, h1⟩ := bnd h1
          refine TC_cut (α := Int × (List (Option (List (Int)))) × Int × Int × (List ((Int × Int)))) (fun s => z2 = .inl s) (fun s => [(0, .im (.slice (.pair (.int .i64) (.int .i64))) p0), (3, .p 29600 0), (4, .sl 29601), (5, .int .i64 s.1), (6, .int .i64 x233)]) (fun s => [(29600, some (.ab (bkA s.2.1 s.2.2.1 s.2.2.2.1))), (29601, some (.rows (.pair (.int .i64) (.int .i64)) s.2.2.2.2))]) ?_ ?_
          · refine TC_blk ?_
            refine TC_seq ?_
            refine TC_reg ?_
            obtain ⟨g, h2⟩ := gd_t h2
            refine TL_ev env 5 rfl ⟨trivial, ⟨trivial, ⟨trivial, ⟨⟨trivial, ⟨trivial, ⟨g.1, g.2⟩⟩⟩, ⟨⟨trivial, trivial⟩, trivial⟩⟩⟩⟩⟩ ?_
            obtain ⟨z, hr, h2⟩ := bnd h2
            rcases z with r355 | ⟨r356, r357⟩ | ⟨r358, r359, r360, r361⟩ | ⟨r362, r363, r364, r365, r366⟩
            · refine TL_callB [(0, 23700)] (psalterylaw04_ask.ok0 hr) psalterylaw04_ask.fnb rfl ⟨trivial, ⟨trivial, ⟨trivial, trivial⟩⟩⟩ rfl ⟨.inr rfl, trivial⟩ rfl ?_
              refine TL_ev env 7 rfl ⟨trivial, ⟨trivial, ⟨trivial, ⟨trivial, ⟨trivial, ⟨trivial, ⟨trivial, trivial⟩⟩⟩⟩⟩⟩⟩ ?_
              refine TL_end ?_
              refine TE_go ?_
              refine TC_seq ?_
              refine TC_seq ?_
              refine TC_reg ?_
              refine TL_ev env 2 rfl ⟨trivial, ⟨trivial, trivial⟩⟩ ?_
              obtain ⟨⟨⟩, hr, h2⟩ := bnd h2
              refine TL_callB [] (psalteryref04_Same_3.ok0 hr) psalteryref04_Same_3.fnb rfl ⟨trivial, ⟨trivial, ⟨trivial, trivial⟩⟩⟩ rfl trivial rfl ?_
              refine TL_ev env 2 rfl ⟨trivial, ⟨trivial, trivial⟩⟩ ?_
              refine TL_gt rfl rfl rfl rfl ?_
              refine TL_ev env 1 rfl ⟨trivial, trivial⟩ ?_
              refine TL_gt rfl rfl rfl rfl ?_
              refine TL_ev env 1 rfl ⟨⟨trivial, ⟨trivial, trivial⟩⟩, trivial⟩ ?_
              refine TL_gt rfl rfl rfl rfl ?_
              refine TL_ev env 1 rfl ⟨trivial, trivial⟩ ?_
              refine TL_gt rfl rfl rfl rfl ?_
              refine TL_ev env 1 rfl ⟨⟨trivial, trivial⟩, trivial⟩ ?_
              refine TL_gt rfl rfl rfl rfl ?_
              refine TL_ev env 1 rfl ⟨⟨trivial, ⟨trivial, trivial⟩⟩, trivial⟩ ?_
              refine TL_gt rfl rfl rfl rfl ?_
              refine TL_ev env 10 rfl ⟨⟨trivial, ⟨trivial, trivial⟩⟩, ⟨⟨trivial, ⟨trivial, trivial⟩⟩, ⟨trivial, ⟨fun eg => trivial, ⟨fun eg => ⟨fun e => e, ⟨trivial, trivial⟩⟩, ⟨fun eg => fun e => e, ⟨fun eg => trivial, ⟨fun eg => ⟨fun e => e, ⟨trivial, trivial⟩⟩, ⟨fun eg => ⟨fun e => e, ⟨((by decide : ∀ b0 b1 : Bool, (!(!b1)) = true → b0 = true → ((!(!b1)) && b0) = true) _ _ eg), trivial⟩⟩, ⟨⟨trivial, ⟨trivial, fun e => e⟩⟩, trivial⟩⟩⟩⟩⟩⟩⟩⟩⟩⟩ ?_
              refine TL_end ?_
              refine TE_go ?_
              refine TC_cond rfl (fun hb => ?_) (fun hb => ?_)
              · replace h2 := bif_t h2 hb
                refine TC_seq ?_
                refine TC_reg ?_
                refine TL_ev env 1 rfl ⟨trivial, trivial⟩ ?_
                refine TL_end ?_
                refine TE_go ?_
                refine TC_ret ?_
                refine tsr ?_
                refine tbr ?_
                refine tsr ?_
                refine tsr ?_
                refine tsr ?_
                refine tbr ?_
                refine tsr ?_
                refine tsr ?_
                obtain rfl := sinj h2
                obtain rfl := sinj h1
                obtain rfl := sinj h0
                exact TE_ret env rfl trivial trivial
              · replace h2 := bif_f h2 hb
                refine TC_skip ?_
                refine TE_go ?_
                refine TC_seq ?_
                refine TC_seq ?_
                refine TC_reg ?_
                refine TL_ev env 2 rfl ⟨trivial, ⟨⟨trivial, ⟨trivial, trivial⟩⟩, trivial⟩⟩ ?_
                refine TL_end ?_
                refine TE_go ?_
                obtain ⟨z3, h3, h2⟩ := bnd h2
                refine TC_cut (α := Int × (List ((Int × Int)))) (fun s => z3 = s) (fun s => [(0, .im (.slice (.pair (.int .i64) (.int .i64))) p0), (3, .p 30200 0), (4, .sl 30201), (5, .int .i64 s.1), (6, .int .i64 x233), (40, .int .i64 r355), (41, .bool (r355 == 0)), (42, .nils), (43, .int .i64 0), (44, .bool false), (45, .bool (!((r355 == 0) == false)))]) (fun s => [(30200, some (.ab (bkA x234 x235 x236))), (30201, some (.rows (.pair (.int .i64) (.int .i64)) s.2))]) ?_ ?_
                · refine TC_cond rfl (fun hb => ?_) (fun hb => ?_)
                  · replace h3 := bif_t h3 hb
                    refine TC_seq ?_
                    refine TC_reg ?_
                    refine TL_ev env 3 rfl ⟨trivial, ⟨⟨trivial, ⟨trivial, trivial⟩⟩, ⟨trivial, trivial⟩⟩⟩ ?_
                    refine TL_end ?_
                    refine TE_go ?_
                    refine TC_seq ?_
                    refine TC_reg ?_
                    obtain ⟨g, h3⟩ := gd_t h3
                    refine TL_ev env 6 rfl ⟨trivial, ⟨trivial, ⟨⟨trivial, ⟨trivial, ⟨g.1, g.2⟩⟩⟩, ⟨⟨trivial, trivial⟩, ⟨trivial, ⟨⟨trivial, trivial⟩, trivial⟩⟩⟩⟩⟩⟩ ?_
                    refine TL_end ?_
                    refine TE_go ?_
                    refine TC_seq ?_
                    refine TC_seq ?_
                    refine TC_reg ?_
                    refine TL_ev env 8 rfl ⟨trivial, ⟨⟨trivial, trivial⟩, ⟨⟨trivial, ⟨trivial, trivial⟩⟩, ⟨trivial, ⟨fun eg => trivial, ⟨fun eg => ⟨fun e => e, trivial⟩, ⟨fun eg => ⟨fun e => e, ⟨trivial, trivial⟩⟩, ⟨⟨trivial, ⟨fun e => e, trivial⟩⟩, trivial⟩⟩⟩⟩⟩⟩⟩⟩ ?_
                    refine TL_end ?_
                    refine TE_go ?_
                    obtain ⟨z4, h4, h3⟩ := bnd h3
                    refine TC_cut (α := Int) (fun s => z4 = s) (fun s => [(0, .im (.slice (.pair (.int .i64) (.int .i64))) p0), (3, .p 30400 0), (4, .sl 30401), (5, .int .i64 (kwrap .i64 (x232 + 1))), (6, .int .i64 x233), (10, .p 30402 0), (40, .int .i64 r355), (41, .bool (r355 == 0)), (42, .nils), (43, .int .i64 0), (44, .bool false), (45, .bool (!((r355 == 0) == false)))]) (fun s => [(30400, some (.ab (bkA x234 x235 x236))), (30401, some (.rows (.pair (.int .i64) (.int .i64)) x237)), (30402, some (.cells [.int .i64 s, .int .i64 (Kd.nth (.pair (.int .i64) (.int .i64)) p0 (Int.toNat x233)).2]))]) ?_ ?_
                    · refine TC_cond rfl (fun hb => ?_) (fun hb => ?_)
                      · replace h4 := bif_t h4 hb
                        refine TC_reg ?_
                        refine TL_ev env 2 rfl ⟨trivial, ⟨⟨trivial, trivial⟩, trivial⟩⟩ ?_
                        refine TL_end ?_
                        obtain rfl := sinj h4
                        refine tsn ?_
                        exact SP_ren [(30400, 23700), (30401, 23701), (30402, 1010)] _ rfl ⟨rfl, rfl, rfl, rfl, rfl, rfl, rfl, rfl, rfl, rfl, rfl, rfl, trivial⟩ ⟨rfl, rfl, rfl, trivial⟩ rfl
                      · replace h4 := bif_f h4 hb
                        refine TC_skip ?_
                        obtain rfl := sinj h4
                        refine tsn ?_
                        exact SP_ren [(30400, 23700), (30401, 23701), (30402, 1010)] _ rfl ⟨rfl, rfl, rfl, rfl, rfl, rfl, rfl, rfl, rfl, rfl, rfl, rfl, trivial⟩ ⟨rfl, rfl, rfl, trivial⟩ rfl
                    · rintro x383 hz
                      obtain rfl := hz.symm
                      refine TE_go ?_
                      refine TC_seq ?_
                      refine TC_reg ?_
                      refine TL_ev env 1 rfl ⟨trivial, trivial⟩ ?_
                      refine TL_end ?_
                      refine TE_go ?_
                      refine TC_seq ?_
                      refine TC_seq ?_
                      refine TC_reg ?_
                      refine TL_ev env 1 rfl ⟨trivial, trivial⟩ ?_
                      refine TL_end ?_
                      refine TE_go ?_
                      obtain ⟨z4, h4, h3⟩ := bnd h3
                      refine TC_cut (α := Bool) (fun s => z4 = s) (fun s => [(0, .im (.slice (.pair (.int .i64) (.int .i64))) p0), (3, .p 30800 0), (4, .sl 30801), (5, .int .i64 (kwrap .i64 (x232 + 1))), (6, .int .i64 x233), (10, .p 30802 0), (11, .bool s), (40, .int .i64 r355), (41, .bool (r355 == 0)), (42, .nils), (43, .int .i64 0), (44, .bool false), (45, .bool (!((r355 == 0) == false)))]) (fun s => [(30800, some (.ab (bkA x234 x235 x236))), (30801, some (.rows (.pair (.int .i64) (.int .i64)) x237)), (30802, some (.cells [.int .i64 x383, .int .i64 (Kd.nth (.pair (.int .i64) (.int .i64)) p0 (Int.toNat x233)).2]))]) ?_ ?_
                      · refine TC_blk ?_
                        refine TC_loop (α := Bool × Int) (fun n s => psalterylaw04_BankTells.l1 K p0 (kwrap .i64 (x232 + 1)) x233 r355 (r355 == 0) (!((r355 == 0) == false)) x234 x235 x236 x237 x383 ((Kd.nth (.pair (.int .i64) (.int .i64)) p0 (Int.toNat x233)).2) n s.1 s.2 = some z4) (fun s => [(0, .im (.slice (.pair (.int .i64) (.int .i64))) p0), (3, .p 31000 0), (4, .sl 31001), (5, .int .i64 (kwrap .i64 (x232 + 1))), (6, .int .i64 x233), (10, .p 31002 0), (11, .bool s.1), (12, .int .i64 s.2), (40, .int .i64 r355), (41, .bool (r355 == 0)), (42, .nils), (43, .int .i64 0), (44, .bool false), (45, .bool (!((r355 == 0) == false)))]) (fun s => [(31000, some (.ab (bkA x234 x235 x236))), (31001, some (.rows (.pair (.int .i64) (.int .i64)) x237)), (31002, some (.cells [.int .i64 x383, .int .i64 (Kd.nth (.pair (.int .i64) (.int .i64)) p0 (Int.toNat x233)).2]))]) K ?_ ?_
                        · exact SP_ren [(31000, 30400), (31001, 30401), (31002, 30402)] (_, _) h4 ⟨rfl, rfl, rfl, rfl, rfl, rfl, rfl, rfl, rfl, rfl, rfl, rfl, rfl, rfl, trivial⟩ ⟨rfl, rfl, rfl, trivial⟩ rfl
                        rintro n ⟨x391, x392⟩ h4
                        rcases n with _ | n
                        · exact (nsome h4).elim
                        replace h4 : psalterylaw04_BankTells.r1 K p0 (kwrap .i64 (x232 + 1)) x233 r355 (r355 == 0) (!((r355 == 0) == false)) x234 x235 x236 x237 x383 ((Kd.nth (.pair (.int .i64) (.int .i64)) p0 (Int.toNat x233)).2) (psalterylaw04_BankTells.l1 K p0 (kwrap .i64 (x232 + 1)) x233 r355 (r355 == 0) (!((r355 == 0) == false)) x234 x235 x236 x237 x383 ((Kd.nth (.pair (.int .i64) (.int .i64)) p0 (Int.toNat x233)).2) n) x391 x392 = some z4 := h4
                        refine TC_seq ?_
                        refine TC_seq ?_
                        refine TC_reg ?_
                        refine TL_ev env 4 rfl ⟨trivial, ⟨trivial, ⟨⟨trivial, trivial⟩, ⟨⟨trivial, ⟨trivial, trivial⟩⟩, trivial⟩⟩⟩⟩ ?_
                        refine TL_end ?_
                        refine TE_go ?_
                        refine TC_cond rfl (fun hb => ?_) (fun hb => ?_)
                        · replace h4 := bif_t h4 hb
                          refine TC_skip ?_
                          refine TE_go ?_
                          refine TC_seq ?_
                          refine TC_blk ?_
                          refine TC_renw (A' := [(0, .im (.slice (.pair (.int .i64) (.int .i64))) _), (3, .p 31000 0), (4, .sl 31001), (5, .int .i64 _), (6, .int .i64 _), (10, .p 31002 0), (11, .bool _), (12, .int .i64 _), (40, .int .i64 _), (41, .bool _), (42, .nils), (43, .int .i64 0), (44, .bool false), (45, .bool _)]) (L' := [(31000, some (.ab (bkA _ _ _))), (31001, some (.rows (.pair (.int .i64) (.int .i64)) _)), (31002, some (.cells [.int .i64 _, .int .i64 _]))]) [] ⟨rfl, rfl, rfl, rfl, rfl, rfl, rfl, rfl, rfl, rfl, rfl, rfl, rfl, rfl, trivial⟩ ⟨rfl, rfl, rfl, trivial⟩ rfl ?_
                          refine TC_drawR ⟨_, fun i => ([[], [0], [1, 0], [1, 0], [3, 2, 1, 0], [4, 3, 2, 1, 0], [1, 0], [6, 5, 4, 3, 2, 1, 0], [7, 6, 5, 4, 3, 2, 1, 0], [8, 7, 6, 5, 4, 3, 2, 1, 0]] : List (List Nat)).getD i [], fun i => ([[], [], [], [], [], [], [], [], [], []] : List (List Nat)).getD i [], fun i => ([[], [], [], [], [], [], [], [], [], []] : List (List Nat)).getD i []⟩ (fun i => ([[], [], [], [], [], [], [], [], [], []] : List (List Nat)).getD i []) (by kernel_rfl) (by kernel_rfl) ?_
                          refine AJR_ev env 1 rfl (Nat.le_of_ble_eq_true rfl) rfl trivial ?_
                          refine AJR_ev env 2 rfl (Nat.le_of_ble_eq_true rfl) rfl trivial ?_
                          refine AJR_ev env 3 rfl (Nat.le_of_ble_eq_true rfl) rfl (fun eg => trivial) ?_
                          refine AJR_ev env 4 rfl (Nat.le_of_ble_eq_true rfl) rfl (fun eg => trivial) ?_
                          obtain ⟨g, h4⟩ := gd_t h4
                          refine AJR_ev env 5 rfl (Nat.le_of_ble_eq_true rfl) rfl (fun eg => ⟨fun e => e, ⟨fun e => e, ⟨(g.1 eg), (g.2 eg)⟩⟩⟩) ?_
                          obtain ⟨g, h4⟩ := gd_t h4
                          refine AJR_ev env 6 rfl (Nat.le_of_ble_eq_true rfl) rfl (fun eg => ⟨fun e => e, (g eg)⟩) ?_
                          refine AJR_ev env 7 rfl (Nat.le_of_ble_eq_true rfl) rfl (fun eg => ⟨trivial, trivial⟩) ?_
                          refine AJR_ev env 8 rfl (Nat.le_of_ble_eq_true rfl) rfl (fun eg => ⟨fun e => e, ⟨fun e => e, trivial⟩⟩) ?_
                          refine AJR_ev env 9 rfl (Nat.le_of_ble_eq_true rfl) rfl ⟨trivial, ⟨trivial, fun e => e⟩⟩ ?_
                          refine AJR_ev env 10 rfl (Nat.le_of_ble_eq_true rfl) rfl trivial ?_
                          refine AJR_end rfl rfl rfl ?_
                          refine tbn ?_
                          refine TE_go ?_
                          refine TC_reg ?_
                          refine TL_ev env 3 rfl ⟨trivial, ⟨⟨trivial, ⟨trivial, trivial⟩⟩, ⟨trivial, trivial⟩⟩⟩ ?_
                          refine TL_end ?_
                          refine tsn ?_
                          exact TE_nextr [(31000, 31000), (31001, 31001), (31002, 31002)] n (Nat.lt_succ_self n) (_, _) h4 ⟨rfl, rfl, rfl, rfl, rfl, rfl, rfl, rfl, rfl, rfl, rfl, rfl, rfl, rfl, trivial⟩ ⟨rfl, rfl, rfl, trivial⟩ rfl
                        · replace h4 := bif_f h4 hb
                          refine TC_exit ?_
                          refine tsx ?_
                          refine tsx ?_
                          refine tbe ?_
                          obtain rfl := sinj h4
                          refine tsn ?_
                          exact SP_ren [(30800, 31000), (30801, 31001), (30802, 31002)] _ rfl ⟨rfl, rfl, rfl, rfl, rfl, rfl, rfl, rfl, rfl, rfl, rfl, rfl, rfl, trivial⟩ ⟨rfl, rfl, rfl, trivial⟩ rfl
                      · rintro x388 hz
                        obtain rfl := hz.symm
                        refine TE_go ?_
                        refine TC_seq ?_
                        refine TC_reg ?_
                        refine TL_ev env 2 rfl ⟨trivial, ⟨trivial, trivial⟩⟩ ?_
                        refine TL_end ?_
                        refine TE_go ?_
                        refine TC_cond rfl (fun hb => ?_) (fun hb => ?_)
                        · replace h3 := bif_t h3 hb
                          refine TC_reg ?_
                          obtain ⟨g, h3⟩ := gd_t h3
                          refine TL_ev env 5 rfl ⟨trivial, ⟨⟨trivial, trivial⟩, ⟨⟨trivial, trivial⟩, ⟨⟨⟨trivial, ⟨trivial, trivial⟩⟩, g⟩, ⟨trivial, trivial⟩⟩⟩⟩⟩ ?_
                          refine TL_end ?_
                          obtain rfl := sinj h3
                          refine tsn ?_
                          exact SP_ren [(30200, 30800), (30201, 1092)] (_, _) rfl ⟨rfl, rfl, rfl, rfl, rfl, rfl, rfl, rfl, rfl, rfl, rfl, trivial⟩ ⟨rfl, rfl, trivial⟩ rfl
                        · replace h3 := bif_f h3 hb
                          refine TC_skip ?_
                          obtain rfl := sinj h3
                          refine tsn ?_
                          exact SP_ren [(30200, 30800), (30201, 30801)] (_, _) rfl ⟨rfl, rfl, rfl, rfl, rfl, rfl, rfl, rfl, rfl, rfl, rfl, trivial⟩ ⟨rfl, rfl, trivial⟩ rfl
                  · replace h3 := bif_f h3 hb
                    refine TC_skip ?_
                    obtain rfl := sinj h3
                    refine tsn ?_
                    exact SP_ren [(30200, 23700), (30201, 23701)] (_, _) rfl ⟨rfl, rfl, rfl, rfl, rfl, rfl, rfl, rfl, rfl, rfl, rfl, trivial⟩ ⟨rfl, rfl, trivial⟩ rfl
                · rintro ⟨x376, x377⟩ rfl
                  refine TE_go ?_
                  refine TC_seq ?_
                  obtain ⟨z3, h3, h2⟩ := bnd h2
                  refine TC_cut (α := Bool) (fun s => z3 = s) (fun s => [(0, .im (.slice (.pair (.int .i64) (.int .i64))) p0), (3, .p 30300 0), (4, .sl 30301), (5, .int .i64 x376), (6, .int .i64 x233), (40, .int .i64 r355), (41, .bool (r355 == 0)), (42, .nils), (43, .int .i64 0), (44, .bool false), (45, .bool (!((r355 == 0) == false))), (103, .bool s)]) (fun s => [(30300, some (.ab (bkA x234 x235 x236))), (30301, some (.rows (.pair (.int .i64) (.int .i64)) x377))]) ?_ ?_
                  · refine TC_reg ?_
                    refine TL_ev env 1 rfl ⟨trivial, trivial⟩ ?_
                    obtain ⟨⟨⟩, hr, h3⟩ := bnd h3
                    refine TL_callB [(0, 30200)] (bank_Bank_Made.ok0 hr) bank_Bank_Made.fnb rfl ⟨trivial, ⟨trivial, trivial⟩⟩ rfl ⟨.inr rfl, trivial⟩ rfl ?_
                    refine TL_ev env 4 rfl ⟨trivial, ⟨⟨trivial, trivial⟩, ⟨⟨trivial, ⟨trivial, trivial⟩⟩, ⟨trivial, trivial⟩⟩⟩⟩ ?_
                    refine TL_split 98 rfl (fun hb => ?_) (fun hb => ?_)
                    · replace h3 := bif_t h3 hb
                      refine TL_gf (.bool false) rfl rfl rfl rfl rfl (by decide) ?_
                      refine TL_gf (.bool false) rfl rfl rfl rfl rfl (by decide) ?_
                      refine TL_gf (.bool false) rfl rfl rfl rfl rfl (by decide) ?_
                      refine TL_gf (.bool false) rfl rfl rfl rfl rfl (by decide) ?_
                      refine TL_ev env 1 rfl ⟨⟨trivial, ⟨trivial, fun e => e⟩⟩, trivial⟩ ?_
                      refine TL_end ?_
                      obtain rfl := sinj h3
                      refine tsn ?_
                      exact SP_ren [(30300, 30200), (30301, 30201)] _ rfl ⟨rfl, rfl, rfl, rfl, rfl, rfl, rfl, rfl, rfl, rfl, rfl, rfl, trivial⟩ ⟨rfl, rfl, trivial⟩ rfl
                    · replace h3 := bif_f h3 hb
                      refine TL_gt rfl rfl rfl rfl ?_
                      refine TL_ev env 1 rfl ⟨trivial, trivial⟩ ?_
                      refine TL_gt rfl rfl rfl rfl ?_
                      obtain ⟨⟨⟩, hr, h3⟩ := bnd h3
                      refine TL_callB [(0, 30200)] (bank_Bank_Told.ok0 hr) bank_Bank_Told.fnb rfl ⟨trivial, ⟨trivial, trivial⟩⟩ rfl ⟨.inr rfl, trivial⟩ rfl ?_
                      refine TL_gt rfl rfl rfl rfl ?_
                      refine TL_ev env 1 rfl ⟨trivial, trivial⟩ ?_
                      refine TL_gt rfl rfl rfl rfl ?_
                      refine TL_ev env 2 rfl ⟨⟨trivial, ⟨trivial, trivial⟩⟩, ⟨⟨trivial, ⟨trivial, trivial⟩⟩, trivial⟩⟩ ?_
                      refine TL_end ?_
                      obtain rfl := sinj h3
                      refine tsn ?_
                      exact SP_ren [(30300, 30200), (30301, 30201)] _ rfl ⟨rfl, rfl, rfl, rfl, rfl, rfl, rfl, rfl, rfl, rfl, rfl, rfl, trivial⟩ ⟨rfl, rfl, trivial⟩ rfl
                  · rintro x378 hz
                    obtain rfl := hz.symm
                    refine TE_go ?_
                    refine TC_cond rfl (fun hb => ?_) (fun hb => ?_)
                    · replace h2 := bif_t h2 hb
                      refine TC_seq ?_
                      refine TC_reg ?_
                      refine TL_ev env 1 rfl ⟨trivial, trivial⟩ ?_
                      refine TL_end ?_
                      refine TE_go ?_
                      refine TC_ret ?_
                      refine tbr ?_
                      refine tsr ?_
                      refine tsr ?_
                      refine tsr ?_
                      refine tbr ?_
                      refine tsr ?_
                      refine tsr ?_
                      obtain rfl := sinj h2
                      obtain rfl := sinj h1
                      obtain rfl := sinj h0
                      exact TE_ret env rfl trivial trivial
                    · replace h2 := bif_f h2 hb
                      refine TC_skip ?_
                      refine tbn ?_
                      obtain rfl := sinj h2
                      refine tsn ?_
                      exact SP_ren [(29600, 30300), (29601, 30301)] (_, _, _, _, _) rfl ⟨rfl, rfl, rfl, rfl, rfl, trivial⟩ ⟨rfl, rfl, trivial⟩ rfl
            · refine TL_callB [(0, 23700)] (psalterylaw04_ask.ok1 hr) psalterylaw04_ask.fnb rfl ⟨trivial, ⟨trivial, ⟨trivial, trivial⟩⟩⟩ rfl ⟨.inr rfl, trivial⟩ rfl ?_
              refine TL_ev env 7 rfl ⟨trivial, ⟨trivial, ⟨trivial, ⟨trivial, ⟨trivial, ⟨trivial, ⟨trivial, trivial⟩⟩⟩⟩⟩⟩⟩ ?_
              refine TL_end ?_
              refine TE_go ?_
              refine TC_seq ?_
              refine TC_seq ?_
              refine TC_reg ?_
              refine TL_ev env 2 rfl ⟨trivial, ⟨trivial, trivial⟩⟩ ?_
              obtain ⟨r401, hr, h2⟩ := bnd h2
              refine TL_callB [] (psalteryref04_Same.ok0 hr) psalteryref04_Same.fnb rfl ⟨trivial, ⟨trivial, ⟨trivial, trivial⟩⟩⟩ rfl trivial rfl ?_
              refine TL_ev env 17 rfl ⟨trivial, ⟨trivial, ⟨fun eg => trivial, ⟨fun eg => ⟨fun e => e, ⟨trivial, trivial⟩⟩, ⟨fun eg => trivial, ⟨fun eg => ⟨fun e => e, trivial⟩, ⟨fun eg => ⟨fun e => e, ⟨trivial, trivial⟩⟩, ⟨fun eg => ⟨fun e => e, ⟨fun e => e, trivial⟩⟩, ⟨⟨trivial, ⟨trivial, fun e => e⟩⟩, ⟨trivial, ⟨fun eg => trivial, ⟨fun eg => ⟨fun e => e, ⟨trivial, trivial⟩⟩, ⟨fun eg => fun e => e, ⟨fun eg => trivial, ⟨fun eg => ⟨fun e => e, ⟨trivial, trivial⟩⟩, ⟨fun eg => ⟨fun e => e, ⟨((by decide : ∀ b0 b1 b2 : Bool, (!(bif (!b1) then true else (!b2))) = true → b0 = true → ((!(bif (!b1) then true else (!b2))) && b0) = true) _ _ _ eg), trivial⟩⟩, ⟨⟨trivial, ⟨trivial, fun e => e⟩⟩, trivial⟩⟩⟩⟩⟩⟩⟩⟩⟩⟩⟩⟩⟩⟩⟩⟩⟩ ?_
              refine TL_end ?_
              refine TE_go ?_
              refine TC_cond rfl (fun hb => ?_) (fun hb => ?_)
              · replace h2 := bif_t h2 hb
                refine TC_seq ?_
                refine TC_reg ?_
                refine TL_ev env 1 rfl ⟨trivial, trivial⟩ ?_
                refine TL_end ?_
                refine TE_go ?_
                refine TC_ret ?_
                refine tsr ?_
                refine tbr ?_
                refine tsr ?_
                refine tsr ?_
                refine tsr ?_
                refine tbr ?_
                refine tsr ?_
                refine tsr ?_
                obtain rfl := sinj h2
                obtain rfl := sinj h1
                obtain rfl := sinj h0
                exact TE_ret env rfl trivial trivial
              · replace h2 := bif_f h2 hb
                refine TC_skip ?_
                refine TE_go ?_
                refine TC_seq ?_
                refine TC_seq ?_
                refine TC_reg ?_
                refine TL_ev env 2 rfl ⟨trivial, ⟨⟨trivial, ⟨trivial, trivial⟩⟩, trivial⟩⟩ ?_
                refine TL_end ?_
                refine TE_go ?_
                obtain ⟨z3, h3, h2⟩ := bnd h2
                refine TC_cut (α := Int × (List ((Int × Int)))) (fun s => z3 = s) (fun s => [(0, .im (.slice (.pair (.int .i64) (.int .i64))) p0), (3, .p 31700 0), (4, .sl 31701), (5, .int .i64 s.1), (6, .int .i64 x233)]) (fun s => [(31700, some (.ab (bkA x234 x235 x236))), (31701, some (.rows (.pair (.int .i64) (.int .i64)) s.2))]) ?_ ?_
                · refine TC_cond rfl (fun hb => ?_) (fun hb => ?_)
                  · replace h3 := bif_t h3 hb
                    refine TC_seq ?_
                    refine TC_reg ?_
                    refine TL_ev env 3 rfl ⟨trivial, ⟨⟨trivial, ⟨trivial, trivial⟩⟩, ⟨trivial, trivial⟩⟩⟩ ?_
                    refine TL_end ?_
                    refine TE_go ?_
                    refine TC_seq ?_
                    refine TC_reg ?_
                    obtain ⟨g, h3⟩ := gd_t h3
                    refine TL_ev env 6 rfl ⟨trivial, ⟨trivial, ⟨⟨trivial, ⟨trivial, ⟨g.1, g.2⟩⟩⟩, ⟨⟨trivial, trivial⟩, ⟨trivial, ⟨⟨trivial, trivial⟩, trivial⟩⟩⟩⟩⟩⟩ ?_
                    refine TL_end ?_
                    refine TE_go ?_
                    refine TC_seq ?_
                    refine TC_seq ?_
                    refine TC_reg ?_
                    refine TL_ev env 8 rfl ⟨trivial, ⟨⟨trivial, trivial⟩, ⟨⟨trivial, ⟨trivial, trivial⟩⟩, ⟨trivial, ⟨fun eg => trivial, ⟨fun eg => ⟨fun e => e, trivial⟩, ⟨fun eg => ⟨fun e => e, ⟨trivial, trivial⟩⟩, ⟨⟨trivial, ⟨fun e => e, trivial⟩⟩, trivial⟩⟩⟩⟩⟩⟩⟩⟩ ?_
                    refine TL_end ?_
                    refine TE_go ?_
                    obtain ⟨z4, h4, h3⟩ := bnd h3
                    refine TC_cut (α := Int) (fun s => z4 = s) (fun s => [(0, .im (.slice (.pair (.int .i64) (.int .i64))) p0), (3, .p 31900 0), (4, .sl 31901), (5, .int .i64 (kwrap .i64 (x232 + 1))), (6, .int .i64 x233), (10, .p 31902 0)]) (fun s => [(31900, some (.ab (bkA x234 x235 x236))), (31901, some (.rows (.pair (.int .i64) (.int .i64)) x237)), (31902, some (.cells [.int .i64 s, .int .i64 (Kd.nth (.pair (.int .i64) (.int .i64)) p0 (Int.toNat x233)).2]))]) ?_ ?_
                    · refine TC_cond rfl (fun hb => ?_) (fun hb => ?_)
                      · replace h4 := bif_t h4 hb
                        refine TC_reg ?_
                        refine TL_ev env 2 rfl ⟨trivial, ⟨⟨trivial, trivial⟩, trivial⟩⟩ ?_
                        refine TL_end ?_
                        obtain rfl := sinj h4
                        refine tsn ?_
                        exact SP_ren [(31900, 23700), (31901, 23701), (31902, 1010)] _ rfl ⟨rfl, rfl, rfl, rfl, rfl, rfl, trivial⟩ ⟨rfl, rfl, rfl, trivial⟩ rfl
                      · replace h4 := bif_f h4 hb
                        refine TC_skip ?_
                        obtain rfl := sinj h4
                        refine tsn ?_
                        exact SP_ren [(31900, 23700), (31901, 23701), (31902, 1010)] _ rfl ⟨rfl, rfl, rfl, rfl, rfl, rfl, trivial⟩ ⟨rfl, rfl, rfl, trivial⟩ rfl
                    · rintro x420 hz
                      obtain rfl := hz.symm
                      refine TE_go ?_
                      refine TC_seq ?_
                      refine TC_reg ?_
                      refine TL_ev env 1 rfl ⟨trivial, trivial⟩ ?_
                      refine TL_end ?_
                      refine TE_go ?_
                      refine TC_seq ?_
                      refine TC_seq ?_
                      refine TC_reg ?_
                      refine TL_ev env 1 rfl ⟨trivial, trivial⟩ ?_
                      refine TL_end ?_
                      refine TE_go ?_
                      obtain ⟨z4, h4, h3⟩ := bnd h3
                      refine TC_cut (α := Bool) (fun s => z4 = s) (fun s => [(0, .im (.slice (.pair (.int .i64) (.int .i64))) p0), (3, .p 32300 0), (4, .sl 32301), (5, .int .i64 (kwrap .i64 (x232 + 1))), (6, .int .i64 x233), (10, .p 32302 0), (11, .bool s)]) (fun s => [(32300, some (.ab (bkA x234 x235 x236))), (32301, some (.rows (.pair (.int .i64) (.int .i64)) x237)), (32302, some (.cells [.int .i64 x420, .int .i64 (Kd.nth (.pair (.int .i64) (.int .i64)) p0 (Int.toNat x233)).2]))]) ?_ ?_
                      · refine TC_blk ?_
                        refine TC_loop (α := Bool × Int) (fun n s => psalterylaw04_BankTells.l2 K p0 (kwrap .i64 (x232 + 1)) x233 x234 x235 x236 x237 x420 ((Kd.nth (.pair (.int .i64) (.int .i64)) p0 (Int.toNat x233)).2) n s.1 s.2 = some z4) (fun s => [(0, .im (.slice (.pair (.int .i64) (.int .i64))) p0), (3, .p 32500 0), (4, .sl 32501), (5, .int .i64 (kwrap .i64 (x232 + 1))), (6, .int .i64 x233), (10, .p 32502 0), (11, .bool s.1), (12, .int .i64 s.2)]) (fun s => [(32500, some (.ab (bkA x234 x235 x236))), (32501, some (.rows (.pair (.int .i64) (.int .i64)) x237)), (32502, some (.cells [.int .i64 x420, .int .i64 (Kd.nth (.pair (.int .i64) (.int .i64)) p0 (Int.toNat x233)).2]))]) K ?_ ?_
                        · exact SP_ren [(32500, 31900), (32501, 31901), (32502, 31902)] (_, _) h4 ⟨rfl, rfl, rfl, rfl, rfl, rfl, rfl, rfl, trivial⟩ ⟨rfl, rfl, rfl, trivial⟩ rfl
                        rintro n ⟨x428, x429⟩ h4
                        rcases n with _ | n
                        · exact (nsome h4).elim
                        replace h4 : psalterylaw04_BankTells.r2 K p0 (kwrap .i64 (x232 + 1)) x233 x234 x235 x236 x237 x420 ((Kd.nth (.pair (.int .i64) (.int .i64)) p0 (Int.toNat x233)).2) (psalterylaw04_BankTells.l2 K p0 (kwrap .i64 (x232 + 1)) x233 x234 x235 x236 x237 x420 ((Kd.nth (.pair (.int .i64) (.int .i64)) p0 (Int.toNat x233)).2) n) x428 x429 = some z4 := h4
                        refine TC_seq ?_
                        refine TC_seq ?_
                        refine TC_reg ?_
                        refine TL_ev env 4 rfl ⟨trivial, ⟨trivial, ⟨⟨trivial, trivial⟩, ⟨⟨trivial, ⟨trivial, trivial⟩⟩, trivial⟩⟩⟩⟩ ?_
                        refine TL_end ?_
                        refine TE_go ?_
                        refine TC_cond rfl (fun hb => ?_) (fun hb => ?_)
                        · replace h4 := bif_t h4 hb
                          refine TC_skip ?_
                          refine TE_go ?_
                          refine TC_seq ?_
                          refine TC_blk ?_
                          refine TC_renw (A' := [(0, .im (.slice (.pair (.int .i64) (.int .i64))) _), (3, .p 32500 0), (4, .sl 32501), (5, .int .i64 _), (6, .int .i64 _), (10, .p 32502 0), (11, .bool _), (12, .int .i64 _)]) (L' := [(32500, some (.ab (bkA _ _ _))), (32501, some (.rows (.pair (.int .i64) (.int .i64)) _)), (32502, some (.cells [.int .i64 _, .int .i64 _]))]) [] ⟨rfl, rfl, rfl, rfl, rfl, rfl, rfl, rfl, trivial⟩ ⟨rfl, rfl, rfl, trivial⟩ rfl ?_
                          refine TC_drawR ⟨_, fun i => ([[], [0], [1, 0], [1, 0], [3, 2, 1, 0], [4, 3, 2, 1, 0], [1, 0], [6, 5, 4, 3, 2, 1, 0], [7, 6, 5, 4, 3, 2, 1, 0], [8, 7, 6, 5, 4, 3, 2, 1, 0]] : List (List Nat)).getD i [], fun i => ([[], [], [], [], [], [], [], [], [], []] : List (List Nat)).getD i [], fun i => ([[], [], [], [], [], [], [], [], [], []] : List (List Nat)).getD i []⟩ (fun i => ([[], [], [], [], [], [], [], [], [], []] : List (List Nat)).getD i []) (by kernel_rfl) (by kernel_rfl) ?_
                          refine AJR_ev env 1 rfl (Nat.le_of_ble_eq_true rfl) rfl trivial ?_
                          refine AJR_ev env 2 rfl (Nat.le_of_ble_eq_true rfl) rfl trivial ?_
                          refine AJR_ev env 3 rfl (Nat.le_of_ble_eq_true rfl) rfl (fun eg => trivial) ?_
                          refine AJR_ev env 4 rfl (Nat.le_of_ble_eq_true rfl) rfl (fun eg => trivial) ?_
                          obtain ⟨g, h4⟩ := gd_t h4
                          refine AJR_ev env 5 rfl (Nat.le_of_ble_eq_true rfl) rfl (fun eg => ⟨fun e => e, ⟨fun e => e, ⟨(g.1 eg), (g.2 eg)⟩⟩⟩) ?_
                          obtain ⟨g, h4⟩ := gd_t h4
                          refine AJR_ev env 6 rfl (Nat.le_of_ble_eq_true rfl) rfl (fun eg => ⟨fun e => e, (g eg)⟩) ?_
                          refine AJR_ev env 7 rfl (Nat.le_of_ble_eq_true rfl) rfl (fun eg => ⟨trivial, trivial⟩) ?_
                          refine AJR_ev env 8 rfl (Nat.le_of_ble_eq_true rfl) rfl (fun eg => ⟨fun e => e, ⟨fun e => e, trivial⟩⟩) ?_
                          refine AJR_ev env 9 rfl (Nat.le_of_ble_eq_true rfl) rfl ⟨trivial, ⟨trivial, fun e => e⟩⟩ ?_
                          refine AJR_ev env 10 rfl (Nat.le_of_ble_eq_true rfl) rfl trivial ?_
                          refine AJR_end rfl rfl rfl ?_
                          refine tbn ?_
                          refine TE_go ?_
                          refine TC_reg ?_
                          refine TL_ev env 3 rfl ⟨trivial, ⟨⟨trivial, ⟨trivial, trivial⟩⟩, ⟨trivial, trivial⟩⟩⟩ ?_
                          refine TL_end ?_
                          refine tsn ?_
                          exact TE_nextr [(32500, 32500), (32501, 32501), (32502, 32502)] n (Nat.lt_succ_self n) (_, _) h4 ⟨rfl, rfl, rfl, rfl, rfl, rfl, rfl, rfl, trivial⟩ ⟨rfl, rfl, rfl, trivial⟩ rfl
                        · replace h4 := bif_f h4 hb
                          refine TC_exit ?_
                          refine tsx ?_
                          refine tsx ?_
                          refine tbe ?_
                          obtain rfl := sinj h4
                          refine tsn ?_
                          exact SP_ren [(32300, 32500), (32301, 32501), (32302, 32502)] _ rfl ⟨rfl, rfl, rfl, rfl, rfl, rfl, rfl, trivial⟩ ⟨rfl, rfl, rfl, trivial⟩ rfl
                      · rintro x425 hz
                        obtain rfl := hz.symm
                        refine TE_go ?_
                        refine TC_seq ?_
                        refine TC_reg ?_
                        refine TL_ev env 2 rfl ⟨trivial, ⟨trivial, trivial⟩⟩ ?_
                        refine TL_end ?_
                        refine TE_go ?_
                        refine TC_cond rfl (fun hb => ?_) (fun hb => ?_)
                        · replace h3 := bif_t h3 hb
                          refine TC_reg ?_
                          obtain ⟨g, h3⟩ := gd_t h3
                          refine TL_ev env 5 rfl ⟨trivial, ⟨⟨trivial, trivial⟩, ⟨⟨trivial, trivial⟩, ⟨⟨⟨trivial, ⟨trivial, trivial⟩⟩, g⟩, ⟨trivial, trivial⟩⟩⟩⟩⟩ ?_
                          refine TL_end ?_
                          obtain rfl := sinj h3
                          refine tsn ?_
                          exact SP_ren [(31700, 32300), (31701, 1092)] (_, _) rfl ⟨rfl, rfl, rfl, rfl, rfl, trivial⟩ ⟨rfl, rfl, trivial⟩ rfl
                        · replace h3 := bif_f h3 hb
                          refine TC_skip ?_
                          obtain rfl := sinj h3
                          refine tsn ?_
                          exact SP_ren [(31700, 32300), (31701, 32301)] (_, _) rfl ⟨rfl, rfl, rfl, rfl, rfl, trivial⟩ ⟨rfl, rfl, trivial⟩ rfl
                  · replace h3 := bif_f h3 hb
                    refine TC_skip ?_
                    obtain rfl := sinj h3
                    refine tsn ?_
                    exact SP_ren [(31700, 23700), (31701, 23701)] (_, _) rfl ⟨rfl, rfl, rfl, rfl, rfl, trivial⟩ ⟨rfl, rfl, trivial⟩ rfl
                · rintro ⟨x413, x414⟩ rfl
                  refine TE_go ?_
                  refine TC_seq ?_
                  obtain ⟨z3, h3, h2⟩ := bnd h2
                  refine TC_cut (α := Bool) (fun s => z3 = s) (fun s => [(0, .im (.slice (.pair (.int .i64) (.int .i64))) p0), (3, .p 31800 0), (4, .sl 31801), (5, .int .i64 x413), (6, .int .i64 x233), (103, .bool s)]) (fun s => [(31800, some (.ab (bkA x234 x235 x236))), (31801, some (.rows (.pair (.int .i64) (.int .i64)) x414))]) ?_ ?_
                  · refine TC_reg ?_
                    refine TL_ev env 1 rfl ⟨trivial, trivial⟩ ?_
                    obtain ⟨⟨⟩, hr, h3⟩ := bnd h3
                    refine TL_callB [(0, 31700)] (bank_Bank_Made.ok0 hr) bank_Bank_Made.fnb rfl ⟨trivial, ⟨trivial, trivial⟩⟩ rfl ⟨.inr rfl, trivial⟩ rfl ?_
                    refine TL_ev env 4 rfl ⟨trivial, ⟨⟨trivial, trivial⟩, ⟨⟨trivial, ⟨trivial, trivial⟩⟩, ⟨trivial, trivial⟩⟩⟩⟩ ?_
                    refine TL_split 98 rfl (fun hb => ?_) (fun hb => ?_)
                    · replace h3 := bif_t h3 hb
                      refine TL_gf (.bool false) rfl rfl rfl rfl rfl (by decide) ?_
                      refine TL_gf (.bool false) rfl rfl rfl rfl rfl (by decide) ?_
                      refine TL_gf (.bool false) rfl rfl rfl rfl rfl (by decide) ?_
                      refine TL_gf (.bool false) rfl rfl rfl rfl rfl (by decide) ?_
                      refine TL_ev env 1 rfl ⟨⟨trivial, ⟨trivial, fun e => e⟩⟩, trivial⟩ ?_
                      refine TL_end ?_
                      obtain rfl := sinj h3
                      refine tsn ?_
                      exact SP_ren [(31800, 31700), (31801, 31701)] _ rfl ⟨rfl, rfl, rfl, rfl, rfl, rfl, trivial⟩ ⟨rfl, rfl, trivial⟩ rfl
                    · replace h3 := bif_f h3 hb
                      refine TL_gt rfl rfl rfl rfl ?_
                      refine TL_ev env 1 rfl ⟨trivial, trivial⟩ ?_
                      refine TL_gt rfl rfl rfl rfl ?_
                      obtain ⟨⟨⟩, hr, h3⟩ := bnd h3
                      refine TL_callB [(0, 31700)] (bank_Bank_Told.ok0 hr) bank_Bank_Told.fnb rfl ⟨trivial, ⟨trivial, trivial⟩⟩ rfl ⟨.inr rfl, trivial⟩ rfl ?_
                      refine TL_gt rfl rfl rfl rfl ?_
                      refine TL_ev env 1 rfl ⟨trivial, trivial⟩ ?_
                      refine TL_gt rfl rfl rfl rfl ?_
                      refine TL_ev env 2 rfl ⟨⟨trivial, ⟨trivial, trivial⟩⟩, ⟨⟨trivial, ⟨trivial, trivial⟩⟩, trivial⟩⟩ ?_
                      refine TL_end ?_
                      obtain rfl := sinj h3
                      refine tsn ?_
                      exact SP_ren [(31800, 31700), (31801, 31701)] _ rfl ⟨rfl, rfl, rfl, rfl, rfl, rfl, trivial⟩ ⟨rfl, rfl, trivial⟩ rfl
                  · rintro x415 hz
                    obtain rfl := hz.symm
                    refine TE_go ?_
                    refine TC_cond rfl (fun hb => ?_) (fun hb => ?_)
                    · replace h2 := bif_t h2 hb
                      refine TC_seq ?_
                      refine TC_reg ?_
                      refine TL_ev env 1 rfl ⟨trivial, trivial⟩ ?_
                      refine TL_end ?_
                      refine TE_go ?_
                      refine TC_ret ?_
                      refine tbr ?_
                      refine tsr ?_
                      refine tsr ?_
                      refine tsr ?_
                      refine tbr ?_
                      refine tsr ?_
                      refine tsr ?_
                      obtain rfl := sinj h2
                      obtain rfl := sinj h1
                      obtain rfl := sinj h0
                      exact TE_ret env rfl trivial trivial
                    · replace h2 := bif_f h2 hb
                      refine TC_skip ?_
                      refine tbn ?_
                      obtain rfl := sinj h2
                      refine tsn ?_
                      exact SP_ren [(29600, 31800), (29601, 31801)] (_, _, _, _, _) rfl ⟨rfl, rfl, rfl, rfl, rfl, trivial⟩ ⟨rfl, rfl, trivial⟩ rfl
            · refine TL_callB [(0, 23700)] (psalterylaw04_ask.ok2 hr) psalterylaw04_ask.fnb rfl ⟨trivial, ⟨trivial, ⟨trivial, trivial⟩⟩⟩ rfl ⟨.inr rfl, trivial⟩ rfl ?_
              refine TL_ev env 7 rfl ⟨trivial, ⟨trivial, ⟨trivial, ⟨trivial, ⟨trivial, ⟨trivial, ⟨trivial, trivial⟩⟩⟩⟩⟩⟩⟩ ?_
              refine TL_end ?_
              refine TE_go ?_
              refine TC_seq ?_
              refine TC_seq ?_
              refine TC_reg ?_
              refine TL_ev env 2 rfl ⟨trivial, ⟨trivial, trivial⟩⟩ ?_
              obtain ⟨r438, hr, h2⟩ := bnd h2
              refine TL_callB [] (psalteryref04_Same_4.ok0 hr) psalteryref04_Same_4.fnb rfl ⟨trivial, ⟨trivial, ⟨trivial, trivial⟩⟩⟩ rfl trivial rfl ?_
              refine TL_ev env 17 rfl ⟨trivial, ⟨trivial, ⟨fun eg => trivial, ⟨fun eg => ⟨fun e => e, ⟨trivial, trivial⟩⟩, ⟨fun eg => trivial, ⟨fun eg => ⟨fun e => e, trivial⟩, ⟨fun eg => ⟨fun e => e, ⟨trivial, trivial⟩⟩, ⟨fun eg => ⟨fun e => e, ⟨fun e => e, trivial⟩⟩, ⟨⟨trivial, ⟨trivial, fun e => e⟩⟩, ⟨trivial, ⟨fun eg => trivial, ⟨fun eg => ⟨fun e => e, ⟨trivial, trivial⟩⟩, ⟨fun eg => fun e => e, ⟨fun eg => trivial, ⟨fun eg => ⟨fun e => e, ⟨trivial, trivial⟩⟩, ⟨fun eg => ⟨fun e => e, ⟨fun e => (ftf e).elim, trivial⟩⟩, ⟨⟨trivial, ⟨trivial, fun e => e⟩⟩, trivial⟩⟩⟩⟩⟩⟩⟩⟩⟩⟩⟩⟩⟩⟩⟩⟩⟩ ?_
              refine TL_end ?_
              refine TE_go ?_
              refine TC_cond rfl (fun hb => ?_) (fun hb => ?_)
              · replace h2 := bif_t h2 hb
                refine TC_seq ?_
                refine TC_reg ?_
                refine TL_ev env 1 rfl ⟨trivial, trivial⟩ ?_
                refine TL_end ?_
                refine TE_go ?_
                refine TC_ret ?_
                refine tsr ?_
                refine tbr ?_
                refine tsr ?_
                refine tsr ?_
                refine tsr ?_
                refine tbr ?_
                refine tsr ?_
                refine tsr ?_
                obtain rfl := sinj h2
                obtain rfl := sinj h1
                obtain rfl := sinj h0
                exact TE_ret env rfl trivial trivial
              · replace h2 := bif_f h2 hb
                refine TC_skip ?_
                refine TE_go ?_
                refine TC_seq ?_
                refine TC_seq ?_
                refine TC_reg ?_
                refine TL_ev env 2 rfl ⟨trivial, ⟨⟨trivial, ⟨trivial, trivial⟩⟩, trivial⟩⟩ ?_
                refine TL_end ?_
                refine TE_go ?_
                refine TC_cond rfl (fun hb => ?_) (fun hb => ?_)
                · refine TC_seq ?_
                  refine TC_reg ?_
                  refine TL_ev env 3 rfl ⟨trivial, ⟨⟨trivial, ⟨trivial, trivial⟩⟩, ⟨trivial, trivial⟩⟩⟩ ?_
                  refine TL_end ?_
                  refine TE_go ?_
                  refine TC_seq ?_
                  refine TC_reg ?_
                  obtain ⟨g, h2⟩ := gd_t h2
                  refine TL_ev env 6 rfl ⟨trivial, ⟨trivial, ⟨⟨trivial, ⟨trivial, ⟨g.1, g.2⟩⟩⟩, ⟨⟨trivial, trivial⟩, ⟨trivial, ⟨⟨trivial, trivial⟩, trivial⟩⟩⟩⟩⟩⟩ ?_
                  refine TL_end ?_
                  refine TE_go ?_
                  refine TC_seq ?_
                  refine TC_seq ?_
                  refine TC_reg ?_
                  refine TL_ev env 8 rfl ⟨trivial, ⟨⟨trivial, trivial⟩, ⟨⟨trivial, ⟨trivial, trivial⟩⟩, ⟨trivial, ⟨fun eg => trivial, ⟨fun eg => ⟨fun e => e, trivial⟩, ⟨fun eg => ⟨fun e => e, ⟨trivial, trivial⟩⟩, ⟨⟨trivial, ⟨fun e => e, trivial⟩⟩, trivial⟩⟩⟩⟩⟩⟩⟩⟩ ?_
                  refine TL_end ?_
                  refine TE_go ?_
                  obtain ⟨z3, h3, h2⟩ := bnd h2
                  refine TC_cut (α := Int) (fun s => z3 = s) (fun s => [(0, .im (.slice (.pair (.int .i64) (.int .i64))) p0), (3, .p 32700 0), (4, .sl 32701), (5, .int .i64 (kwrap .i64 (x232 + 1))), (6, .int .i64 x233), (10, .p 32702 0)]) (fun s => [(32700, some (.ab (bkA r359 r360 r361))), (32701, some (.rows (.pair (.int .i64) (.int .i64)) x237)), (32702, some (.cells [.int .i64 s, .int .i64 (Kd.nth (.pair (.int .i64) (.int .i64)) p0 (Int.toNat x233)).2]))]) ?_ ?_
                  · refine TC_cond rfl (fun hb => ?_) (fun hb => ?_)
                    · replace h3 := bif_t h3 hb
                      refine TC_reg ?_
                      refine TL_ev env 2 rfl ⟨trivial, ⟨⟨trivial, trivial⟩, trivial⟩⟩ ?_
                      refine TL_end ?_
                      obtain rfl := sinj h3
                      refine tsn ?_
                      exact SP_ren [(32700, 23700), (32701, 23701), (32702, 1010)] _ rfl ⟨rfl, rfl, rfl, rfl, rfl, rfl, trivial⟩ ⟨rfl, rfl, rfl, trivial⟩ rfl
                    · replace h3 := bif_f h3 hb
                      refine TC_skip ?_
                      obtain rfl := sinj h3
                      refine tsn ?_
                      exact SP_ren [(32700, 23700), (32701, 23701), (32702, 1010)] _ rfl ⟨rfl, rfl, rfl, rfl, rfl, rfl, trivial⟩ ⟨rfl, rfl, rfl, trivial⟩ rfl
                  · rintro x443 hz
                    obtain rfl := hz.symm
                    refine TE_go ?_
                    refine TC_seq ?_
                    refine TC_reg ?_
                    refine TL_ev env 1 rfl ⟨trivial, trivial⟩ ?_
                    refine TL_end ?_
                    refine TE_go ?_
                    refine TC_seq ?_
                    refine TC_seq ?_
                    refine TC_reg ?_
                    refine TL_ev env 1 rfl ⟨trivial, trivial⟩ ?_
                    refine TL_end ?_
                    refine TE_go ?_
                    obtain ⟨z3, h3, h2⟩ := bnd h2
                    refine TC_cut (α := Bool) (fun s => z3 = s) (fun s => [(0, .im (.slice (.pair (.int .i64) (.int .i64))) p0), (3, .p 33100 0), (4, .sl 33101), (5, .int .i64 (kwrap .i64 (x232 + 1))), (6, .int .i64 x233), (10, .p 33102 0), (11, .bool s)]) (fun s => [(33100, some (.ab (bkA r359 r360 r361))), (33101, some (.rows (.pair (.int .i64) (.int .i64)) x237)), (33102, some (.cells [.int .i64 x443, .int .i64 (Kd.nth (.pair (.int .i64) (.int .i64)) p0 (Int.toNat x233)).2]))]) ?_ ?_
                    · refine TC_blk ?_
                      refine TC_loop (α := Bool × Int) (fun n s => psalterylaw04_BankTells.l3 K p0 (kwrap .i64 (x232 + 1)) x233 r359 r360 r361 x237 x443 ((Kd.nth (.pair (.int .i64) (.int .i64)) p0 (Int.toNat x233)).2) n s.1 s.2 = some z3) (fun s => [(0, .im (.slice (.pair (.int .i64) (.int .i64))) p0), (3, .p 33500 0), (4, .sl 33501), (5, .int .i64 (kwrap .i64 (x232 + 1))), (6, .int .i64 x233), (10, .p 33502 0), (11, .bool s.1), (12, .int .i64 s.2)]) (fun s => [(33500, some (.ab (bkA r359 r360 r361))), (33501, some (.rows (.pair (.int .i64) (.int .i64)) x237)), (33502, some (.cells [.int .i64 x443, .int .i64 (Kd.nth (.pair (.int .i64) (.int .i64)) p0 (Int.toNat x233)).2]))]) K ?_ ?_
                      · exact SP_ren [(33500, 32700), (33501, 32701), (33502, 32702)] (_, _) h3 ⟨rfl, rfl, rfl, rfl, rfl, rfl, rfl, rfl, trivial⟩ ⟨rfl, rfl, rfl, trivial⟩ rfl
                      rintro n ⟨x455, x456⟩ h3
                      rcases n with _ | n
                      · exact (nsome h3).elim
                      replace h3 : psalterylaw04_BankTells.r3 K p0 (kwrap .i64 (x232 + 1)) x233 r359 r360 r361 x237 x443 ((Kd.nth (.pair (.int .i64) (.int .i64)) p0 (Int.toNat x233)).2) (psalterylaw04_BankTells.l3 K p0 (kwrap .i64 (x232 + 1)) x233 r359 r360 r361 x237 x443 ((Kd.nth (.pair (.int .i64) (.int .i64)) p0 (Int.toNat x233)).2) n) x455 x456 = some z3 := h3
                      refine TC_seq ?_
                      refine TC_seq ?_
                      refine TC_reg ?_
                      refine TL_ev env 4 rfl ⟨trivial, ⟨trivial, ⟨⟨trivial, trivial⟩, ⟨⟨trivial, ⟨trivial, trivial⟩⟩, trivial⟩⟩⟩⟩ ?_
                      refine TL_end ?_
                      refine TE_go ?_
                      refine TC_cond rfl (fun hb => ?_) (fun hb => ?_)
                      · replace h3 := bif_t h3 hb
                        refine TC_skip ?_
                        refine TE_go ?_
                        refine TC_seq ?_
                        refine TC_blk ?_
                        refine TC_renw (A' := [(0, .im (.slice (.pair (.int .i64) (.int .i64))) _), (3, .p 33500 0), (4, .sl 33501), (5, .int .i64 _), (6, .int .i64 _), (10, .p 33502 0), (11, .bool _), (12, .int .i64 _)]) (L' := [(33500, some (.ab (bkA _ _ _))), (33501, some (.rows (.pair (.int .i64) (.int .i64)) _)), (33502, some (.cells [.int .i64 _, .int .i64 _]))]) [] ⟨rfl, rfl, rfl, rfl, rfl, rfl, rfl, rfl, trivial⟩ ⟨rfl, rfl, rfl, trivial⟩ rfl ?_
                        refine TC_drawR ⟨_, fun i => ([[], [0], [1, 0], [1, 0], [3, 2, 1, 0], [4, 3, 2, 1, 0], [1, 0], [6, 5, 4, 3, 2, 1, 0], [7, 6, 5, 4, 3, 2, 1, 0], [8, 7, 6, 5, 4, 3, 2, 1, 0]] : List (List Nat)).getD i [], fun i => ([[], [], [], [], [], [], [], [], [], []] : List (List Nat)).getD i [], fun i => ([[], [], [], [], [], [], [], [], [], []] : List (List Nat)).getD i []⟩ (fun i => ([[], [], [], [], [], [], [], [], [], []] : List (List Nat)).getD i []) (by kernel_rfl) (by kernel_rfl) ?_
                        refine AJR_ev env 1 rfl (Nat.le_of_ble_eq_true rfl) rfl trivial ?_
                        refine AJR_ev env 2 rfl (Nat.le_of_ble_eq_true rfl) rfl trivial ?_
                        refine AJR_ev env 3 rfl (Nat.le_of_ble_eq_true rfl) rfl (fun eg => trivial) ?_
                        refine AJR_ev env 4 rfl (Nat.le_of_ble_eq_true rfl) rfl (fun eg => trivial) ?_
                        obtain ⟨g, h3⟩ := gd_t h3
                        refine AJR_ev env 5 rfl (Nat.le_of_ble_eq_true rfl) rfl (fun eg => ⟨fun e => e, ⟨fun e => e, ⟨(g.1 eg), (g.2 eg)⟩⟩⟩) ?_
                        obtain ⟨g, h3⟩ := gd_t h3
                        refine AJR_ev env 6 rfl (Nat.le_of_ble_eq_true rfl) rfl (fun eg => ⟨fun e => e, (g eg)⟩) ?_
                        refine AJR_ev env 7 rfl (Nat.le_of_ble_eq_true rfl) rfl (fun eg => ⟨trivial, trivial⟩) ?_
                        refine AJR_ev env 8 rfl (Nat.le_of_ble_eq_true rfl) rfl (fun eg => ⟨fun e => e, ⟨fun e => e, trivial⟩⟩) ?_
                        refine AJR_ev env 9 rfl (Nat.le_of_ble_eq_true rfl) rfl ⟨trivial, ⟨trivial, fun e => e⟩⟩ ?_
                        refine AJR_ev env 10 rfl (Nat.le_of_ble_eq_true rfl) rfl trivial ?_
                        refine AJR_end rfl rfl rfl ?_
                        refine tbn ?_
                        refine TE_go ?_
                        refine TC_reg ?_
                        refine TL_ev env 3 rfl ⟨trivial, ⟨⟨trivial, ⟨trivial, trivial⟩⟩, ⟨trivial, trivial⟩⟩⟩ ?_
                        refine TL_end ?_
                        refine tsn ?_
                        exact TE_nextr [(33500, 33500), (33501, 33501), (33502, 33502)] n (Nat.lt_succ_self n) (_, _) h3 ⟨rfl, rfl, rfl, rfl, rfl, rfl, rfl, rfl, trivial⟩ ⟨rfl, rfl, rfl, trivial⟩ rfl
                      · replace h3 := bif_f h3 hb
                        refine TC_exit ?_
                        refine tsx ?_
                        refine tsx ?_
                        refine tbe ?_
                        obtain rfl := sinj h3
                        refine tsn ?_
                        exact SP_ren [(33100, 33500), (33101, 33501), (33102, 33502)] _ rfl ⟨rfl, rfl, rfl, rfl, rfl, rfl, rfl, trivial⟩ ⟨rfl, rfl, rfl, trivial⟩ rfl
                    · rintro x448 hz
                      obtain rfl := hz.symm
                      refine TE_go ?_
                      refine TC_seq ?_
                      refine TC_reg ?_
                      refine TL_ev env 2 rfl ⟨trivial, ⟨trivial, trivial⟩⟩ ?_
                      refine TL_end ?_
                      refine TE_go ?_
                      obtain ⟨z3, h3, h2⟩ := bnd h2
                      refine TC_cut (α := (List ((Int × Int)))) (fun s => z3 = s) (fun s => [(0, .im (.slice (.pair (.int .i64) (.int .i64))) p0), (3, .p 33200 0), (4, .sl 33201), (5, .int .i64 (kwrap .i64 (x232 + 1))), (6, .int .i64 x233)]) (fun s => [(33200, some (.ab (bkA r359 r360 r361))), (33201, some (.rows (.pair (.int .i64) (.int .i64)) s))]) ?_ ?_
                      · refine TC_cond rfl (fun hb => ?_) (fun hb => ?_)
                        · replace h3 := bif_t h3 hb
                          refine TC_reg ?_
                          obtain ⟨g, h3⟩ := gd_t h3
                          refine TL_ev env 5 rfl ⟨trivial, ⟨⟨trivial, trivial⟩, ⟨⟨trivial, trivial⟩, ⟨⟨⟨trivial, ⟨trivial, trivial⟩⟩, g⟩, ⟨trivial, trivial⟩⟩⟩⟩⟩ ?_
                          refine TL_end ?_
                          obtain rfl := sinj h3
                          refine tsn ?_
                          exact SP_ren [(33200, 33100), (33201, 1092)] _ rfl ⟨rfl, rfl, rfl, rfl, rfl, trivial⟩ ⟨rfl, rfl, trivial⟩ rfl
                        · replace h3 := bif_f h3 hb
                          refine TC_skip ?_
                          obtain rfl := sinj h3
                          refine tsn ?_
                          exact SP_ren [(33200, 33100), (33201, 33101)] _ rfl ⟨rfl, rfl, rfl, rfl, rfl, trivial⟩ ⟨rfl, rfl, trivial⟩ rfl
                      · rintro x449 hz
                        obtain rfl := hz.symm
                        refine TE_go ?_
                        refine TC_seq ?_
                        obtain ⟨z3, h3, h2⟩ := bnd h2
                        refine TC_cut (α := Bool) (fun s => z3 = s) (fun s => [(0, .im (.slice (.pair (.int .i64) (.int .i64))) p0), (3, .p 33300 0), (4, .sl 33301), (5, .int .i64 (kwrap .i64 (x232 + 1))), (6, .int .i64 x233), (103, .bool s)]) (fun s => [(33300, some (.ab (bkA r359 r360 r361))), (33301, some (.rows (.pair (.int .i64) (.int .i64)) x449))]) ?_ ?_
                        · refine TC_reg ?_
                          refine TL_ev env 1 rfl ⟨trivial, trivial⟩ ?_
                          obtain ⟨⟨⟩, hr, h3⟩ := bnd h3
                          refine TL_callB [(0, 33200)] (bank_Bank_Made.ok0 hr) bank_Bank_Made.fnb rfl ⟨trivial, ⟨trivial, trivial⟩⟩ rfl ⟨.inr rfl, trivial⟩ rfl ?_
                          refine TL_ev env 4 rfl ⟨trivial, ⟨⟨trivial, trivial⟩, ⟨⟨trivial, ⟨trivial, trivial⟩⟩, ⟨trivial, trivial⟩⟩⟩⟩ ?_
                          refine TL_split 98 rfl (fun hb => ?_) (fun hb => ?_)
                          · replace h3 := bif_t h3 hb
                            refine TL_gf (.bool false) rfl rfl rfl rfl rfl (by decide) ?_
                            refine TL_gf (.bool false) rfl rfl rfl rfl rfl (by decide) ?_
                            refine TL_gf (.bool false) rfl rfl rfl rfl rfl (by decide) ?_
                            refine TL_gf (.bool false) rfl rfl rfl rfl rfl (by decide) ?_
                            refine TL_ev env 1 rfl ⟨⟨trivial, ⟨trivial, fun e => e⟩⟩, trivial⟩ ?_
                            refine TL_end ?_
                            obtain rfl := sinj h3
                            refine tsn ?_
                            exact SP_ren [(33300, 33200), (33301, 33201)] _ rfl ⟨rfl, rfl, rfl, rfl, rfl, rfl, trivial⟩ ⟨rfl, rfl, trivial⟩ rfl
                          · replace h3 := bif_f h3 hb
                            refine TL_gt rfl rfl rfl rfl ?_
                            refine TL_ev env 1 rfl ⟨trivial, trivial⟩ ?_
                            refine TL_gt rfl rfl rfl rfl ?_
                            obtain ⟨⟨⟩, hr, h3⟩ := bnd h3
                            refine TL_callB [(0, 33200)] (bank_Bank_Told.ok0 hr) bank_Bank_Told.fnb rfl ⟨trivial, ⟨trivial, trivial⟩⟩ rfl ⟨.inr rfl, trivial⟩ rfl ?_
                            refine TL_gt rfl rfl rfl rfl ?_
                            refine TL_ev env 1 rfl ⟨trivial, trivial⟩ ?_
                            refine TL_gt rfl rfl rfl rfl ?_
                            refine TL_ev env 2 rfl ⟨⟨trivial, ⟨trivial, trivial⟩⟩, ⟨⟨trivial, ⟨trivial, trivial⟩⟩, trivial⟩⟩ ?_
                            refine TL_end ?_
                            obtain rfl := sinj h3
                            refine tsn ?_
                            exact SP_ren [(33300, 33200), (33301, 33201)] _ rfl ⟨rfl, rfl, rfl, rfl, rfl, rfl, trivial⟩ ⟨rfl, rfl, trivial⟩ rfl
                        · rintro x450 hz
                          obtain rfl := hz.symm
                          refine TE_go ?_
                          refine TC_cond rfl (fun hb => ?_) (fun hb => ?_)
                          · replace h2 := bif_t h2 hb
                            refine TC_seq ?_
                            refine TC_reg ?_
                            refine TL_ev env 1 rfl ⟨trivial, trivial⟩ ?_
                            refine TL_end ?_
                            refine TE_go ?_
                            refine TC_ret ?_
                            refine tbr ?_
                            refine tsr ?_
                            refine tsr ?_
                            refine tsr ?_
                            refine tbr ?_
                            refine tsr ?_
                            refine tsr ?_
                            obtain rfl := sinj h2
                            obtain rfl := sinj h1
                            obtain rfl := sinj h0
                            exact TE_ret env rfl trivial trivial
                          · replace h2 := bif_f h2 hb
                            refine TC_skip ?_
                            refine tbn ?_
                            obtain rfl := sinj h2
                            refine tsn ?_
                            exact SP_ren [(29600, 33300), (29601, 33301)] (_, _, _, _, _) rfl ⟨rfl, rfl, rfl, rfl, rfl, trivial⟩ ⟨rfl, rfl, trivial⟩ rfl
                · first | exact (ftf hb).elim | exact (tff hb).elim | exact absurd hb (by decide)
            · refine TL_callB [(0, 23700)] (psalterylaw04_ask.ok3 hr) psalterylaw04_ask.fnb rfl ⟨trivial, ⟨trivial, ⟨trivial, trivial⟩⟩⟩ rfl ⟨.inr rfl, trivial⟩ rfl ?_
              refine TL_ev env 7 rfl ⟨trivial, ⟨trivial, ⟨trivial, ⟨trivial, ⟨trivial, ⟨trivial, ⟨trivial, trivial⟩⟩⟩⟩⟩⟩⟩ ?_
              refine TL_end ?_
              refine TE_go ?_
              refine TC_seq ?_
              refine TC_seq ?_
              refine TC_reg ?_
              refine TL_ev env 2 rfl ⟨trivial, ⟨trivial, trivial⟩⟩ ?_
              obtain ⟨r465, hr, h2⟩ := bnd h2
              refine TL_callB [] (psalteryref04_Same_2.ok0 hr) psalteryref04_Same_2.fnb rfl ⟨trivial, ⟨trivial, ⟨trivial, trivial⟩⟩⟩ rfl trivial rfl ?_
              refine TL_ev env 17 rfl ⟨trivial, ⟨trivial, ⟨fun eg => trivial, ⟨fun eg => ⟨fun e => e, ⟨trivial, trivial⟩⟩, ⟨fun eg => trivial, ⟨fun eg => ⟨fun e => e, trivial⟩, ⟨fun eg => ⟨fun e => e, ⟨trivial, trivial⟩⟩, ⟨fun eg => ⟨fun e => e, ⟨fun e => e, trivial⟩⟩, ⟨⟨trivial, ⟨trivial, fun e => e⟩⟩, ⟨trivial, ⟨fun eg => trivial, ⟨fun eg => ⟨fun e => e, ⟨trivial, trivial⟩⟩, ⟨fun eg => fun e => e, ⟨fun eg => trivial, ⟨fun eg => ⟨fun e => e, ⟨trivial, trivial⟩⟩, ⟨fun eg => ⟨fun e => e, ⟨fun e => (ftf e).elim, trivial⟩⟩, ⟨⟨trivial, ⟨trivial, fun e => e⟩⟩, trivial⟩⟩⟩⟩⟩⟩⟩⟩⟩⟩⟩⟩⟩⟩⟩⟩⟩ ?_
              refine TL_end ?_
              refine TE_go ?_
              refine TC_cond rfl (fun hb => ?_) (fun hb => ?_)
              · replace h2 := bif_t h2 hb
                refine TC_seq ?_
                refine TC_reg ?_
                refine TL_ev env 1 rfl ⟨trivial, trivial⟩ ?_
                refine TL_end ?_
                refine TE_go ?_
                refine TC_ret ?_
                refine tsr ?_
                refine tbr ?_
                refine tsr ?_
                refine tsr ?_
                refine tsr ?_
                refine tbr ?_
                refine tsr ?_
                refine tsr ?_
                obtain rfl := sinj h2
                obtain rfl := sinj h1
                obtain rfl := sinj h0
                exact TE_ret env rfl trivial trivial
              · replace h2 := bif_f h2 hb
                refine TC_skip ?_
                refine TE_go ?_
                refine TC_seq ?_
                refine TC_seq ?_
                refine TC_reg ?_
                refine TL_ev env 2 rfl ⟨trivial, ⟨⟨trivial, ⟨trivial, trivial⟩⟩, trivial⟩⟩ ?_
                refine TL_end ?_
                refine TE_go ?_
                refine TC_cond rfl (fun hb => ?_) (fun hb => ?_)
                · refine TC_seq ?_
                  refine TC_reg ?_
                  refine TL_ev env 3 rfl ⟨trivial, ⟨⟨trivial, ⟨trivial, trivial⟩⟩, ⟨trivial, trivial⟩⟩⟩ ?_
                  refine TL_end ?_
                  refine TE_go ?_
                  refine TC_seq ?_
                  refine TC_reg ?_
                  obtain ⟨g, h2⟩ := gd_t h2
                  refine TL_ev env 6 rfl ⟨trivial, ⟨trivial, ⟨⟨trivial, ⟨trivial, ⟨g.1, g.2⟩⟩⟩, ⟨⟨trivial, trivial⟩, ⟨trivial, ⟨⟨trivial, trivial⟩, trivial⟩⟩⟩⟩⟩⟩ ?_
                  refine TL_end ?_
                  refine TE_go ?_
                  refine TC_seq ?_
                  refine TC_seq ?_
                  refine TC_reg ?_
                  refine TL_ev env 8 rfl ⟨trivial, ⟨⟨trivial, trivial⟩, ⟨⟨trivial, ⟨trivial, trivial⟩⟩, ⟨trivial, ⟨fun eg => trivial, ⟨fun eg => ⟨fun e => e, trivial⟩, ⟨fun eg => ⟨fun e => e, ⟨trivial, trivial⟩⟩, ⟨⟨trivial, ⟨fun e => e, trivial⟩⟩, trivial⟩⟩⟩⟩⟩⟩⟩⟩ ?_
                  refine TL_end ?_
                  refine TE_go ?_
                  obtain ⟨z3, h3, h2⟩ := bnd h2
                  refine TC_cut (α := Int) (fun s => z3 = s) (fun s => [(0, .im (.slice (.pair (.int .i64) (.int .i64))) p0), (3, .p 33700 0), (4, .sl 33701), (5, .int .i64 (kwrap .i64 (x232 + 1))), (6, .int .i64 x233), (10, .p 33702 0)]) (fun s => [(33700, some (.ab (bkA r364 r365 r366))), (33701, some (.rows (.pair (.int .i64) (.int .i64)) x237)), (33702, some (.cells [.int .i64 s, .int .i64 (Kd.nth (.pair (.int .i64) (.int .i64)) p0 (Int.toNat x233)).2]))]) ?_ ?_
                  · refine TC_cond rfl (fun hb => ?_) (fun hb => ?_)
                    · replace h3 := bif_t h3 hb
                      refine TC_reg ?_
                      refine TL_ev env 2 rfl ⟨trivial, ⟨⟨trivial, trivial⟩, trivial⟩⟩ ?_
                      refine TL_end ?_
                      obtain rfl := sinj h3
                      refine tsn ?_
                      exact SP_ren [(33700, 23700), (33701, 23701), (33702, 1010)] _ rfl ⟨rfl, rfl, rfl, rfl, rfl, rfl, trivial⟩ ⟨rfl, rfl, rfl, trivial⟩ rfl
                    · replace h3 := bif_f h3 hb
                      refine TC_skip ?_
                      obtain rfl := sinj h3
                      refine tsn ?_
                      exact SP_ren [(33700, 23700), (33701, 23701), (33702, 1010)] _ rfl ⟨rfl, rfl, rfl, rfl, rfl, rfl, trivial⟩ ⟨rfl, rfl, rfl, trivial⟩ rfl
                  · rintro x472 hz
                    obtain rfl := hz.symm
                    refine TE_go ?_
                    refine TC_seq ?_
                    refine TC_reg ?_
                    refine TL_ev env 1 rfl ⟨trivial, trivial⟩ ?_
                    refine TL_end ?_
                    refine TE_go ?_
                    refine TC_seq ?_
                    refine TC_seq ?_
                    refine TC_reg ?_
                    refine TL_ev env 1 rfl ⟨trivial, trivial⟩ ?_
                    refine TL_end ?_
                    refine TE_go ?_
                    obtain ⟨z3, h3, h2⟩ := bnd h2
                    refine TC_cut (α := Bool) (fun s => z3 = s) (fun s => [(0, .im (.slice (.pair (.int .i64) (.int .i64))) p0), (3, .p 34100 0), (4, .sl 34101), (5, .int .i64 (kwrap .i64 (x232 + 1))), (6, .int .i64 x233), (10, .p 34102 0), (11, .bool s)]) (fun s => [(34100, some (.ab (bkA r364 r365 r366))), (34101, some (.rows (.pair (.int .i64) (.int .i64)) x237)), (34102, some (.cells [.int .i64 x472, .int .i64 (Kd.nth (.pair (.int .i64) (.int .i64)) p0 (Int.toNat x233)).2]))]) ?_ ?_
                    · refine TC_blk ?_
                      refine TC_loop (α := Bool × Int) (fun n s => psalterylaw04_BankTells.l4 K p0 (kwrap .i64 (x232 + 1)) x233 r364 r365 r366 x237 x472 ((Kd.nth (.pair (.int .i64) (.int .i64)) p0 (Int.toNat x233)).2) n s.1 s.2 = some z3) (fun s => [(0, .im (.slice (.pair (.int .i64) (.int .i64))) p0), (3, .p 34500 0), (4, .sl 34501), (5, .int .i64 (kwrap .i64 (x232 + 1))), (6, .int .i64 x233), (10, .p 34502 0), (11, .bool s.1), (12, .int .i64 s.2)]) (fun s => [(34500, some (.ab (bkA r364 r365 r366))), (34501, some (.rows (.pair (.int .i64) (.int .i64)) x237)), (34502, some (.cells [.int .i64 x472, .int .i64 (Kd.nth (.pair (.int .i64) (.int .i64)) p0 (Int.toNat x233)).2]))]) K ?_ ?_
                      · exact SP_ren [(34500, 33700), (34501, 33701), (34502, 33702)] (_, _) h3 ⟨rfl, rfl, rfl, rfl, rfl, rfl, rfl, rfl, trivial⟩ ⟨rfl, rfl, rfl, trivial⟩ rfl
                      rintro n ⟨x484, x485⟩ h3
                      rcases n with _ | n
                      · exact (nsome h3).elim
                      replace h3 : psalterylaw04_BankTells.r4 K p0 (kwrap .i64 (x232 + 1)) x233 r364 r365 r366 x237 x472 ((Kd.nth (.pair (.int .i64) (.int .i64)) p0 (Int.toNat x233)).2) (psalterylaw04_BankTells.l4 K p0 (kwrap .i64 (x232 + 1)) x233 r364 r365 r366 x237 x472 ((Kd.nth (.pair (.int .i64) (.int .i64)) p0 (Int.toNat x233)).2) n) x484 x485 = some z3 := h3
                      refine TC_seq ?_
                      refine TC_seq ?_
                      refine TC_reg ?_
                      refine TL_ev env 4 rfl ⟨trivial, ⟨trivial, ⟨⟨trivial, trivial⟩, ⟨⟨trivial, ⟨trivial, trivial⟩⟩, trivial⟩⟩⟩⟩ ?_
                      refine TL_end ?_
                      refine TE_go ?_
                      refine TC_cond rfl (fun hb => ?_) (fun hb => ?_)
                      · replace h3 := bif_t h3 hb
                        refine TC_skip ?_
                        refine TE_go ?_
                        refine TC_seq ?_
                        refine TC_blk ?_
                        refine TC_renw (A' := [(0, .im (.slice (.pair (.int .i64) (.int .i64))) _), (3, .p 34500 0), (4, .sl 34501), (5, .int .i64 _), (6, .int .i64 _), (10, .p 34502 0), (11, .bool _), (12, .int .i64 _)]) (L' := [(34500, some (.ab (bkA _ _ _))), (34501, some (.rows (.pair (.int .i64) (.int .i64)) _)), (34502, some (.cells [.int .i64 _, .int .i64 _]))]) [] ⟨rfl, rfl, rfl, rfl, rfl, rfl, rfl, rfl, trivial⟩ ⟨rfl, rfl, rfl, trivial⟩ rfl ?_
                        refine TC_drawR ⟨_, fun i => ([[], [0], [1, 0], [1, 0], [3, 2, 1, 0], [4, 3, 2, 1, 0], [1, 0], [6, 5, 4, 3, 2, 1, 0], [7, 6, 5, 4, 3, 2, 1, 0], [8, 7, 6, 5, 4, 3, 2, 1, 0]] : List (List Nat)).getD i [], fun i => ([[], [], [], [], [], [], [], [], [], []] : List (List Nat)).getD i [], fun i => ([[], [], [], [], [], [], [], [], [], []] : List (List Nat)).getD i []⟩ (fun i => ([[], [], [], [], [], [], [], [], [], []] : List (List Nat)).getD i []) (by kernel_rfl) (by kernel_rfl) ?_
                        refine AJR_ev env 1 rfl (Nat.le_of_ble_eq_true rfl) rfl trivial ?_
                        refine AJR_ev env 2 rfl (Nat.le_of_ble_eq_true rfl) rfl trivial ?_
                        refine AJR_ev env 3 rfl (Nat.le_of_ble_eq_true rfl) rfl (fun eg => trivial) ?_
                        refine AJR_ev env 4 rfl (Nat.le_of_ble_eq_true rfl) rfl (fun eg => trivial) ?_
                        obtain ⟨g, h3⟩ := gd_t h3
                        refine AJR_ev env 5 rfl (Nat.le_of_ble_eq_true rfl) rfl (fun eg => ⟨fun e => e, ⟨fun e => e, ⟨(g.1 eg), (g.2 eg)⟩⟩⟩) ?_
                        obtain ⟨g, h3⟩ := gd_t h3
                        refine AJR_ev env 6 rfl (Nat.le_of_ble_eq_true rfl) rfl (fun eg => ⟨fun e => e, (g eg)⟩) ?_
                        refine AJR_ev env 7 rfl (Nat.le_of_ble_eq_true rfl) rfl (fun eg => ⟨trivial, trivial⟩) ?_
                        refine AJR_ev env 8 rfl (Nat.le_of_ble_eq_true rfl) rfl (fun eg => ⟨fun e => e, ⟨fun e => e, trivial⟩⟩) ?_
                        refine AJR_ev env 9 rfl (Nat.le_of_ble_eq_true rfl) rfl ⟨trivial, ⟨trivial, fun e => e⟩⟩ ?_
                        refine AJR_ev env 10 rfl (Nat.le_of_ble_eq_true rfl) rfl trivial ?_
                        refine AJR_end rfl rfl rfl ?_
                        refine tbn ?_
                        refine TE_go ?_
                        refine TC_reg ?_
                        refine TL_ev env 3 rfl ⟨trivial, ⟨⟨trivial, ⟨trivial, trivial⟩⟩, ⟨trivial, trivial⟩⟩⟩ ?_
                        refine TL_end ?_
                        refine tsn ?_
                        exact TE_nextr [(34500, 34500), (34501, 34501), (34502, 34502)] n (Nat.lt_succ_self n) (_, _) h3 ⟨rfl, rfl, rfl, rfl, rfl, rfl, rfl, rfl, trivial⟩ ⟨rfl, rfl, rfl, trivial⟩ rfl
                      · replace h3 := bif_f h3 hb
                        refine TC_exit ?_
                        refine tsx ?_
                        refine tsx ?_
                        refine tbe ?_
                        obtain rfl := sinj h3
                        refine tsn ?_
                        exact SP_ren [(34100, 34500), (34101, 34501), (34102, 34502)] _ rfl ⟨rfl, rfl, rfl, rfl, rfl, rfl, rfl, trivial⟩ ⟨rfl, rfl, rfl, trivial⟩ rfl
                    · rintro x477 hz
                      obtain rfl := hz.symm
                      refine TE_go ?_
                      refine TC_seq ?_
                      refine TC_reg ?_
                      refine TL_ev env 2 rfl ⟨trivial, ⟨trivial, trivial⟩⟩ ?_
                      refine TL_end ?_
                      refine TE_go ?_
                      obtain ⟨z3, h3, h2⟩ := bnd h2
                      refine TC_cut (α := (List ((Int × Int)))) (fun s => z3 = s) (fun s => [(0, .im (.slice (.pair (.int .i64) (.int .i64))) p0), (3, .p 34200 0), (4, .sl 34201), (5, .int .i64 (kwrap .i64 (x232 + 1))), (6, .int .i64 x233)]) (fun s => [(34200, some (.ab (bkA r364 r365 r366))), (34201, some (.rows (.pair (.int .i64) (.int .i64)) s))]) ?_ ?_
                      · refine TC_cond rfl (fun hb => ?_) (fun hb => ?_)
                        · replace h3 := bif_t h3 hb
                          refine TC_reg ?_
                          obtain ⟨g, h3⟩ := gd_t h3
                          refine TL_ev env 5 rfl ⟨trivial, ⟨⟨trivial, trivial⟩, ⟨⟨trivial, trivial⟩, ⟨⟨⟨trivial, ⟨trivial, trivial⟩⟩, g⟩, ⟨trivial, trivial⟩⟩⟩⟩⟩ ?_
                          refine TL_end ?_
                          obtain rfl := sinj h3
                          refine tsn ?_
                          exact SP_ren [(34200, 34100), (34201, 1092)] _ rfl ⟨rfl, rfl, rfl, rfl, rfl, trivial⟩ ⟨rfl, rfl, trivial⟩ rfl
                        · replace h3 := bif_f h3 hb
                          refine TC_skip ?_
                          obtain rfl := sinj h3
                          refine tsn ?_
                          exact SP_ren [(34200, 34100), (34201, 34101)] _ rfl ⟨rfl, rfl, rfl, rfl, rfl, trivial⟩ ⟨rfl, rfl, trivial⟩ rfl
                      · rintro x478 hz
                        obtain rfl := hz.symm
                        refine TE_go ?_
                        refine TC_seq ?_
                        obtain ⟨z3, h3, h2⟩ := bnd h2
                        refine TC_cut (α := Bool) (fun s => z3 = s) (fun s => [(0, .im (.slice (.pair (.int .i64) (.int .i64))) p0), (3, .p 34300 0), (4, .sl 34301), (5, .int .i64 (kwrap .i64 (x232 + 1))), (6, .int .i64 x233), (103, .bool s)]) (fun s => [(34300, some (.ab (bkA r364 r365 r366))), (34301, some (.rows (.pair (.int .i64) (.int .i64)) x478))]) ?_ ?_
                        · refine TC_reg ?_
                          refine TL_ev env 1 rfl ⟨trivial, trivial⟩ ?_
                          obtain ⟨⟨⟩, hr, h3⟩ := bnd h3
                          refine TL_callB [(0, 34200)] (bank_Bank_Made.ok0 hr) bank_Bank_Made.fnb rfl ⟨trivial, ⟨trivial, trivial⟩⟩ rfl ⟨.inr rfl, trivial⟩ rfl ?_
                          refine TL_ev env 4 rfl ⟨trivial, ⟨⟨trivial, trivial⟩, ⟨⟨trivial, ⟨trivial, trivial⟩⟩, ⟨trivial, trivial⟩⟩⟩⟩ ?_
                          refine TL_split 98 rfl (fun hb => ?_) (fun hb => ?_)
                          · replace h3 := bif_t h3 hb
                            refine TL_gf (.bool false) rfl rfl rfl rfl rfl (by decide) ?_
                            refine TL_gf (.bool false) rfl rfl rfl rfl rfl (by decide) ?_
                            refine TL_gf (.bool false) rfl rfl rfl rfl rfl (by decide) ?_
                            refine TL_gf (.bool false) rfl rfl rfl rfl rfl (by decide) ?_
                            refine TL_ev env 1 rfl ⟨⟨trivial, ⟨trivial, fun e => e⟩⟩, trivial⟩ ?_
                            refine TL_end ?_
                            obtain rfl := sinj h3
                            refine tsn ?_
                            exact SP_ren [(34300, 34200), (34301, 34201)] _ rfl ⟨rfl, rfl, rfl, rfl, rfl, rfl, trivial⟩ ⟨rfl, rfl, trivial⟩ rfl
                          · replace h3 := bif_f h3 hb
                            refine TL_gt rfl rfl rfl rfl ?_
                            refine TL_ev env 1 rfl ⟨trivial, trivial⟩ ?_
                            refine TL_gt rfl rfl rfl rfl ?_
                            obtain ⟨⟨⟩, hr, h3⟩ := bnd h3
                            refine TL_callB [(0, 34200)] (bank_Bank_Told.ok0 hr) bank_Bank_Told.fnb rfl ⟨trivial, ⟨trivial, trivial⟩⟩ rfl ⟨.inr rfl, trivial⟩ rfl ?_
                            refine TL_gt rfl rfl rfl rfl ?_
                            refine TL_ev env 1 rfl ⟨trivial, trivial⟩ ?_
                            refine TL_gt rfl rfl rfl rfl ?_
                            refine TL_ev env 2 rfl ⟨⟨trivial, ⟨trivial, trivial⟩⟩, ⟨⟨trivial, ⟨trivial, trivial⟩⟩, trivial⟩⟩ ?_
                            refine TL_end ?_
                            obtain rfl := sinj h3
                            refine tsn ?_
                            exact SP_ren [(34300, 34200), (34301, 34201)] _ rfl ⟨rfl, rfl, rfl, rfl, rfl, rfl, trivial⟩ ⟨rfl, rfl, trivial⟩ rfl
                        · rintro x479 hz
                          obtain rfl := hz.symm
                          refine TE_go ?_
                          refine TC_cond rfl (fun hb => ?_) (fun hb => ?_)
                          · replace h2 := bif_t h2 hb
                            refine TC_seq ?_
                            refine TC_reg ?_
                            refine TL_ev env 1 rfl ⟨trivial, trivial⟩ ?_
                            refine TL_end ?_
                            refine TE_go ?_
                            refine TC_ret ?_
                            refine tbr ?_
                            refine tsr ?_
                            refine tsr ?_
                            refine tsr ?_
                            refine tbr ?_
                            refine tsr ?_
                            refine tsr ?_
                            obtain rfl := sinj h2
                            obtain rfl := sinj h1
                            obtain rfl := sinj h0
                            exact TE_ret env rfl trivial trivial
                          · replace h2 := bif_f h2 hb
                            refine TC_skip ?_
                            refine tbn ?_
                            obtain rfl := sinj h2
                            refine tsn ?_
                            exact SP_ren [(29600, 34300), (29601, 34301)] (_, _, _, _, _) rfl ⟨rfl, rfl, rfl, rfl, rfl, trivial⟩ ⟨rfl, rfl, trivial⟩ rfl
                · first | exact (ftf hb).elim | exact (tff hb).elim | exact absurd hb (by decide)
          · rintro ⟨x348, x349, x350, x351, x352⟩ rfl
            refine TE_go ?_
            refine TC_reg ?_
            refine TL_ev env 3 rfl ⟨trivial, ⟨⟨trivial, ⟨trivial, trivial⟩⟩, ⟨trivial, trivial⟩⟩⟩ ?_
            refine TL_end ?_
            refine tsn ?_
            exact TE_nextr [(23700, 29600), (23701, 29601)] n (Nat.lt_succ_self n) (_, _, _, _, _, _) h1 ⟨rfl, rfl, rfl, rfl, rfl, trivial⟩ ⟨rfl, rfl, trivial⟩ rfl
        · replace h1 := bif_f h1 hb
          refine TC_exit ?_
          refine tsx ?_
          refine tsx ?_
          refine tbe ?_
          obtain rfl := sinj h1
          refine tsn ?_
          exact SP_ren [] () rfl trivial trivial rfl
      · rintro ⟨⟩ rfl
        refine TE_go ?_
        refine TC_seq ?_
        refine TC_reg ?_
        refine TL_ev env 1 rfl ⟨trivial, trivial⟩ ?_
        refine TL_end ?_
        refine TE_go ?_
        refine TC_ret ?_
        obtain rfl := sinj h0
        exact TE_ret env rfl trivial trivial
theorem psalterylaw04_BankTells.ok0 {K : Nat} {p0 : List ((Int × Int))} {q0 : Bool} (h0 : psalterylaw04_BankTells K p0 = some q0) : Fn Try.prog 13 [.im (.slice (.pair (.int .i64) (.int .i64))) p0] [] (.bool q0) [] := psalterylaw04_BankTells.ok h0
theorem psalterylaw04_BankTells.fnb : fnb Try.prog 13 = true := fnb_of Try.func13 rfl
end Go.Fo
