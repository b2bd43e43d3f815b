/- Each call comes to the function that is written for it. -/
import Derived.Test.YtphienllhdoenaaLnT
import Derived.Test.YtphienllhdoenaaLnF
import Derived.Test.YtphienllhdoenaaBx
import Derived.Test.YtphienllhdoenaaGx
import Derived.Test.YtphienllhdoenaaLnP0
namespace Go.Fo
open Go.Proofs
set_option maxRecDepth 20000
set_option maxHeartbeats 4000000
def psalteryref04_Slope.res (_p0 : Int) : (Unit) ⊕ ((List (Int))) → MV
  | .inl () => .nils
  | .inr q0 => .im (.slice (.int .i16)) q0
def psalteryref04_Slope.out (_p0 : Int) : (Unit) ⊕ ((List (Int))) → List (Nat × Option MObj)
  | .inl () => []
  | .inr _ => []
theorem psalteryref04_Slope.ok {K : Nat} {p0 : Int} {r : (Unit) ⊕ ((List (Int)))} (h0 : psalteryref04_Slope K p0 = some r) : Fn Try.prog 65 [.int .i64 p0] [] (psalteryref04_Slope.res p0 r) (psalteryref04_Slope.out p0 r) := by
  refine Fn_of Try.func65 rfl (Nat.le_of_ble_eq_true rfl) fun Γ => ?_
  refine TC_seq ?_
  refine TC_reg ?_
  refine TL_ev env 1 rfl ⟨tv, tv⟩ ?_
  refine TL_end ?_
  refine TE_go ?_
  refine TC_seq ?_
  refine TC_seq ?_
  refine TC_reg ?_
  refine TL_ev env 6 rfl ⟨tv, ⟨⟨tv, ⟨tv, tv⟩⟩, ⟨tv, ⟨fun eg => tv, ⟨fun eg => ⟨fun e => e, ⟨tv, tv⟩⟩, ⟨⟨tv, ⟨tv, fun e => e⟩⟩, tv⟩⟩⟩⟩⟩⟩ ?_
  refine TL_end ?_
  refine TE_go ?_
  refine TC_cond rfl (fun hb => ?_) (fun hb => ?_)
  · replace h0 := bif_t h0 hb
    refine TC_seq ?_
    refine TC_reg ?_
    refine TL_ev env 1 rfl ⟨tv, tv⟩ ?_
    refine TL_end ?_
    refine TE_go ?_
    refine TC_ret ?_
    refine tsr ?_
    obtain rfl := sinj h0
    exact TE_ret env rfl tv tv
  · replace h0 := bif_f h0 hb
    refine TC_skip ?_
    refine TE_go ?_
    refine TC_seq ?_
    refine TC_reg ?_
    refine TL_ev env 1 rfl ⟨tv, tv⟩ ?_
    refine TL_end ?_
    refine TE_go ?_
    refine TC_seq ?_
    refine TC_seq ?_
    refine TC_reg ?_
    refine TL_ev env 1 rfl ⟨tv, tv⟩ ?_
    refine TL_end ?_
    refine TE_go ?_
    obtain ⟨z1, h1, h0⟩ := bnd h0
    refine TC_cut (α := (List (Int))) (fun s => z1 = s) (fun s => [(3, .sl 10800)]) (fun s => [(10800, some (.rows (.int .i16) s))]) ?_ ?_
    · refine TC_blk ?_
      refine TC_loop (α := Int × (List (Int))) (fun n s => psalteryref04_Slope.l0 K p0 n s.1 s.2 = some z1) (fun s => [(0, .int .i64 p0), (3, .sl 11000), (4, .int .i64 s.1)]) (fun s => [(11000, some (.rows (.int .i16) s.2))]) K ?_ ?_
      · refine TE_own 3 7003 (.int .i16) rfl (by decide) rfl rfl ?_
        exact SP_ren [(11000, 7003)] (_, _) h1 ⟨rfl, rfl, rfl, tv⟩ ⟨rfl, tv⟩ rfl
      rintro n ⟨x24, x25⟩ h1
      rcases n with _ | n
      · exact (nsome h1).elim
      replace h1 : psalteryref04_Slope.r0 K p0 (psalteryref04_Slope.l0 K p0 n) x24 x25 = some z1 := h1
      refine TC_seq ?_
      refine TC_seq ?_
      refine TC_reg ?_
      refine TL_ev env 4 rfl ⟨tv, ⟨tv, ⟨⟨tv, ⟨tv, tv⟩⟩, ⟨⟨tv, ⟨tv, tv⟩⟩, tv⟩⟩⟩⟩ ?_
      refine TL_end ?_
      refine TE_go ?_
      refine TC_cond rfl (fun hb => ?_) (fun hb => ?_)
      · replace h1 := bif_t h1 hb
        refine TC_skip ?_
        refine TE_go ?_
        refine TC_seq ?_
        refine TC_blk ?_
        refine TC_reg ?_
        refine TL_ev env 4 rfl ⟨tv, ⟨tv, ⟨tv, ⟨⟨tv, ⟨tv, tv⟩⟩, tv⟩⟩⟩⟩ ?_
        obtain ⟨r34, hr, h1⟩ := bnd h1
        refine TL_callB [] (psalteryref03_Of.ok0 hr) psalteryref03_Of.fnb rfl ⟨tv, ⟨tv, ⟨tv, tv⟩⟩⟩ rfl tv rfl ?_
        obtain ⟨g, h1⟩ := gd_t h1
        refine TL_ev env 3 rfl ⟨⟨tv, tv⟩, ⟨⟨⟨tv, ⟨tv, tv⟩⟩, g⟩, ⟨tv, tv⟩⟩⟩ ?_
        refine TL_end ?_
        refine tbn ?_
        refine TE_go ?_
        refine TC_reg ?_
        refine TL_ev env 3 rfl ⟨tv, ⟨⟨tv, ⟨tv, tv⟩⟩, ⟨tv, tv⟩⟩⟩ ?_
        refine TL_end ?_
        refine tsn ?_
        exact TE_nextr [(11000, 1023)] n (Nat.lt_succ_self n) (_, _) h1 ⟨rfl, rfl, rfl, tv⟩ ⟨rfl, tv⟩ rfl
      · replace h1 := bif_f h1 hb
        refine TC_exit ?_
        refine tsx ?_
        refine tsx ?_
        refine tbe ?_
        obtain rfl := sinj h1
        refine tsn ?_
        exact SP_ren [(10800, 11000)] _ rfl ⟨rfl, tv⟩ ⟨rfl, tv⟩ rfl
    · rintro x21 hz
      obtain rfl := hz.symm
      refine TE_go ?_
      refine TC_seq ?_
      refine TC_reg ?_
      refine TL_ev env 2 rfl ⟨tv, ⟨tv, tv⟩⟩ ?_
      refine TL_end ?_
      refine TE_go ?_
      refine TC_ret ?_
      refine TE_frz 10800 rfl ?_
      obtain rfl := sinj h0
      exact TE_ret env rfl tv tv
theorem psalteryref04_Slope.ok0 {K : Nat} {p0 : Int}  (h0 : psalteryref04_Slope K p0 = some (.inl ())) : Fn Try.prog 65 [.int .i64 p0] [] (.nils) [] := psalteryref04_Slope.ok h0
theorem psalteryref04_Slope.ok1 {K : Nat} {p0 : Int} {q0 : List (Int)} (h0 : psalteryref04_Slope K p0 = some (.inr q0)) : Fn Try.prog 65 [.int .i64 p0] [] (.im (.slice (.int .i16)) q0) [] := psalteryref04_Slope.ok h0
theorem psalteryref04_Slope.fnb : fnb Try.prog 65 = true := fnb_of Try.func65 rfl
def psalteryref09_Window.res (_p0 : Int) : (List (Int)) → MV
  | q0 => .im (.slice (.int .i16)) q0
def psalteryref09_Window.out (_p0 : Int) : (List (Int)) → List (Nat × Option MObj)
  | _ => []
theorem psalteryref09_Window.ok {K : Nat} {p0 : Int} {r : (List (Int))} (h0 : psalteryref09_Window K p0 = some r) : Fn Try.prog 35 [.int .i64 p0] [] (psalteryref09_Window.res p0 r) (psalteryref09_Window.out p0 r) := by
  refine Fn_of Try.func35 rfl (Nat.le_of_ble_eq_true rfl) fun Γ => ?_
  refine TC_seq ?_
  refine TC_reg ?_
  refine TL_ev env 1 rfl ⟨tv, tv⟩ ?_
  refine TL_end ?_
  refine TE_go ?_
  refine TC_seq ?_
  refine TC_reg ?_
  refine TL_ev env 2 rfl ⟨tv, ⟨⟨tv, ⟨tv, (by decide)⟩⟩, tv⟩⟩ ?_
  obtain ⟨z, hr, h0⟩ := bnd h0
  rcases z with ⟨⟩ | r21
  · refine TL_callB [] (psalteryref04_Slope.ok0 hr) psalteryref04_Slope.fnb rfl ⟨tv, ⟨tv, tv⟩⟩ rfl tv rfl ?_
    refine TL_ev env 1 rfl ⟨tv, tv⟩ ?_
    refine TL_end ?_
    refine TE_go ?_
    refine TC_seq ?_
    refine TC_reg ?_
    obtain ⟨g, h0⟩ := gd_t h0
    refine TL_ev env 4 rfl ⟨tv, ⟨⟨tv, ⟨tv, tv⟩⟩, ⟨⟨tv, ⟨tv, ⟨g.1, ⟨g.2.1, g.2.2⟩⟩⟩⟩, ⟨tv, tv⟩⟩⟩⟩ ?_
    refine TL_end ?_
    refine TE_go ?_
    refine TC_seq ?_
    refine TC_seq ?_
    refine TC_reg ?_
    refine TL_ev env 1 rfl ⟨tv, tv⟩ ?_
    refine TL_end ?_
    refine TE_go ?_
    obtain ⟨z1, h1, h0⟩ := bnd h0
    refine TC_cut (α := (List (Int))) (fun s => z1 = s) (fun s => [(4, .sl 12400)]) (fun s => [(12400, some (.rows (.int .i16) s))]) ?_ ?_
    · refine TC_blk ?_
      refine TC_loop (α := Int × (List (Int))) (fun n s => psalteryref09_Window.l0 K p0 n s.1 s.2 = some z1) (fun s => [(0, .int .i64 p0), (3, .nils), (4, .sl 12800), (5, .int .i64 s.1)]) (fun s => [(12800, some (.rows (.int .i16) s.2))]) K ?_ ?_
      · exact SP_ren [(12800, 1012)] (_, _) h1 ⟨rfl, rfl, rfl, rfl, tv⟩ ⟨rfl, tv⟩ rfl
      rintro n ⟨x35, x36⟩ h1
      rcases n with _ | n
      · exact (nsome h1).elim
      replace h1 : psalteryref09_Window.r0 K p0 (psalteryref09_Window.l0 K p0 n) x35 x36 = some z1 := h1
      refine TC_seq ?_
      refine TC_seq ?_
      refine TC_reg ?_
      refine TL_ev env 3 rfl ⟨tv, ⟨tv, ⟨⟨tv, ⟨tv, tv⟩⟩, tv⟩⟩⟩ ?_
      refine TL_end ?_
      refine TE_go ?_
      refine TC_cond rfl (fun hb => ?_) (fun hb => ?_)
      · replace h1 := bif_t h1 hb
        refine TC_skip ?_
        refine TE_go ?_
        refine TC_seq ?_
        refine TC_blk ?_
        refine TC_seq ?_
        refine TC_reg ?_
        refine TL_ev env 1 rfl ⟨tv, tv⟩ ?_
        refine TL_end ?_
        refine TE_go ?_
        refine TC_seq ?_
        refine TC_seq ?_
        refine TC_reg ?_
        refine TL_ev env 4 rfl ⟨tv, ⟨tv, ⟨⟨tv, ⟨tv, (by decide)⟩⟩, ⟨⟨tv, ⟨tv, tv⟩⟩, tv⟩⟩⟩⟩ ?_
        refine TL_end ?_
        refine TE_go ?_
        obtain ⟨z2, h2, h1⟩ := bnd h1
        refine TC_cut (α := Int) (fun s => z2 = s) (fun s => [(0, .int .i64 p0), (3, .nils), (4, .sl 13300), (5, .int .i64 x35), (6, .int .i16 s)]) (fun s => [(13300, some (.rows (.int .i16) x36))]) ?_ ?_
        · refine TC_cond rfl (fun hb => ?_) (fun hb => ?_)
          · replace h2 := bif_t h2 hb
            refine TC_reg ?_
            refine TL_ev env 1 rfl ⟨tv, tv⟩ ?_
            refine TL_end ?_
            obtain rfl := sinj h2
            refine tsn ?_
            exact SP_ren [(13300, 12800)] _ rfl ⟨rfl, rfl, rfl, rfl, rfl, tv⟩ ⟨rfl, tv⟩ rfl
          · replace h2 := bif_f h2 hb
            refine TC_seq ?_
            refine TC_reg ?_
            refine TL_ev env 7 rfl ⟨tv, ⟨tv, ⟨⟨tv, ⟨tv, (by decide)⟩⟩, ⟨tv, ⟨⟨tv, ⟨tv, (by decide)⟩⟩, ⟨⟨tv, ⟨tv, tv⟩⟩, ⟨⟨tv, ⟨tv, tv⟩⟩, tv⟩⟩⟩⟩⟩⟩⟩ ?_
            refine TL_end ?_
            refine TE_go ?_
            refine TC_cond rfl (fun hb => ?_) (fun hb => ?_)
            · replace h2 := bif_t h2 hb
              refine TC_reg ?_
              refine TL_ev env 5 rfl ⟨tv, ⟨tv, ⟨tv, ⟨⟨tv, ⟨tv, (by decide)⟩⟩, ⟨⟨tv, ⟨tv, tv⟩⟩, tv⟩⟩⟩⟩⟩ ?_
              exact (nsome h2).elim
            · replace h2 := bif_f h2 hb
              refine TC_skip ?_
              obtain rfl := sinj h2
              refine tsn ?_
              exact SP_ren [(13300, 12800)] _ rfl ⟨rfl, rfl, rfl, rfl, rfl, tv⟩ ⟨rfl, tv⟩ rfl
        · rintro x45 hz
          obtain rfl := hz.symm
          refine TE_go ?_
          refine TC_seq ?_
          refine TC_reg ?_
          obtain ⟨g, h1⟩ := gd_t h1
          refine TL_ev env 5 rfl ⟨tv, ⟨tv, ⟨tv, ⟨⟨tv, ⟨tv, ⟨g.1, g.2.1⟩⟩⟩, ⟨⟨tv, ⟨tv, g.2.2⟩⟩, tv⟩⟩⟩⟩⟩ ?_
          refine TL_end ?_
          refine TE_go ?_
          refine TC_reg ?_
          obtain ⟨g, h1⟩ := gd_t h1
          refine TL_ev env 9 rfl ⟨tv, ⟨tv, ⟨⟨tv, ⟨tv, tv⟩⟩, ⟨⟨tv, ⟨tv, tv⟩⟩, ⟨tv, ⟨⟨tv, ⟨tv, tv⟩⟩, ⟨tv, ⟨⟨tv, ⟨tv, ⟨g.1, g.2.1⟩⟩⟩, ⟨⟨tv, ⟨tv, g.2.2⟩⟩, tv⟩⟩⟩⟩⟩⟩⟩⟩⟩ ?_
          refine TL_end ?_
          refine tbn ?_
          refine TE_go ?_
          refine TC_reg ?_
          refine TL_ev env 3 rfl ⟨tv, ⟨⟨tv, ⟨tv, tv⟩⟩, ⟨tv, tv⟩⟩⟩ ?_
          refine TL_end ?_
          refine tsn ?_
          exact TE_nextr [(12800, 13300)] n (Nat.lt_succ_self n) (_, _) h1 ⟨rfl, rfl, rfl, rfl, tv⟩ ⟨rfl, tv⟩ rfl
      · replace h1 := bif_f h1 hb
        refine TC_exit ?_
        refine tsx ?_
        refine tsx ?_
        refine tbe ?_
        obtain rfl := sinj h1
        refine tsn ?_
        exact SP_ren [(12400, 12800)] _ rfl ⟨rfl, tv⟩ ⟨rfl, tv⟩ rfl
    · rintro x32 hz
      obtain rfl := hz.symm
      refine TE_go ?_
      refine TC_seq ?_
      refine TC_reg ?_
      refine TL_ev env 2 rfl ⟨tv, ⟨tv, tv⟩⟩ ?_
      refine TL_end ?_
      refine TE_go ?_
      refine TC_ret ?_
      refine TE_frz 12400 rfl ?_
      obtain rfl := sinj h0
      exact TE_ret env rfl tv tv
  · refine TL_callB [] (psalteryref04_Slope.ok1 hr) psalteryref04_Slope.fnb rfl ⟨tv, ⟨tv, tv⟩⟩ rfl tv rfl ?_
    refine TL_ev env 1 rfl ⟨tv, tv⟩ ?_
    refine TL_end ?_
    refine TE_go ?_
    refine TC_seq ?_
    refine TC_reg ?_
    obtain ⟨g, h0⟩ := gd_t h0
    refine TL_ev env 4 rfl ⟨tv, ⟨⟨tv, ⟨tv, tv⟩⟩, ⟨⟨tv, ⟨tv, ⟨g.1, ⟨g.2.1, g.2.2⟩⟩⟩⟩, ⟨tv, tv⟩⟩⟩⟩ ?_
    refine TL_end ?_
    refine TE_go ?_
    refine TC_seq ?_
    refine TC_seq ?_
    refine TC_reg ?_
    refine TL_ev env 1 rfl ⟨tv, tv⟩ ?_
    refine TL_end ?_
    refine TE_go ?_
    obtain ⟨z1, h1, h0⟩ := bnd h0
    refine TC_cut (α := (List (Int))) (fun s => z1 = s) (fun s => [(4, .sl 14100)]) (fun s => [(14100, some (.rows (.int .i16) s))]) ?_ ?_
    · refine TC_blk ?_
      refine TC_loop (α := Int × (List (Int))) (fun n s => psalteryref09_Window.l1 K p0 r21 n s.1 s.2 = some z1) (fun s => [(0, .int .i64 p0), (3, .im (.slice (.int .i16)) r21), (4, .sl 14500), (5, .int .i64 s.1)]) (fun s => [(14500, some (.rows (.int .i16) s.2))]) K ?_ ?_
      · exact SP_ren [(14500, 1012)] (_, _) h1 ⟨rfl, rfl, rfl, rfl, tv⟩ ⟨rfl, tv⟩ rfl
      rintro n ⟨x70, x71⟩ h1
      rcases n with _ | n
      · exact (nsome h1).elim
      replace h1 : psalteryref09_Window.r1 K p0 r21 (psalteryref09_Window.l1 K p0 r21 n) x70 x71 = some z1 := h1
      refine TC_seq ?_
      refine TC_seq ?_
      refine TC_reg ?_
      refine TL_ev env 3 rfl ⟨tv, ⟨tv, ⟨⟨tv, ⟨tv, tv⟩⟩, tv⟩⟩⟩ ?_
      refine TL_end ?_
      refine TE_go ?_
      refine TC_cond rfl (fun hb => ?_) (fun hb => ?_)
      · replace h1 := bif_t h1 hb
        refine TC_skip ?_
        refine TE_go ?_
        refine TC_seq ?_
        refine TC_blk ?_
        refine TC_seq ?_
        refine TC_reg ?_
        refine TL_ev env 1 rfl ⟨tv, tv⟩ ?_
        refine TL_end ?_
        refine TE_go ?_
        refine TC_seq ?_
        refine TC_seq ?_
        refine TC_reg ?_
        refine TL_ev env 4 rfl ⟨tv, ⟨tv, ⟨⟨tv, ⟨tv, (by decide)⟩⟩, ⟨⟨tv, ⟨tv, tv⟩⟩, tv⟩⟩⟩⟩ ?_
        refine TL_end ?_
        refine TE_go ?_
        obtain ⟨z2, h2, h1⟩ := bnd h1
        refine TC_cut (α := Int) (fun s => z2 = s) (fun s => [(0, .int .i64 p0), (3, .im (.slice (.int .i16)) r21), (4, .sl 15000), (5, .int .i64 x70), (6, .int .i16 s)]) (fun s => [(15000, some (.rows (.int .i16) x71))]) ?_ ?_
        · refine TC_cond rfl (fun hb => ?_) (fun hb => ?_)
          · replace h2 := bif_t h2 hb
            refine TC_reg ?_
            refine TL_ev env 1 rfl ⟨tv, tv⟩ ?_
            refine TL_end ?_
            obtain rfl := sinj h2
            refine tsn ?_
            exact SP_ren [(15000, 14500)] _ rfl ⟨rfl, rfl, rfl, rfl, rfl, tv⟩ ⟨rfl, tv⟩ rfl
          · replace h2 := bif_f h2 hb
            refine TC_seq ?_
            refine TC_reg ?_
            refine TL_ev env 7 rfl ⟨tv, ⟨tv, ⟨⟨tv, ⟨tv, (by decide)⟩⟩, ⟨tv, ⟨⟨tv, ⟨tv, (by decide)⟩⟩, ⟨⟨tv, ⟨tv, tv⟩⟩, ⟨⟨tv, ⟨tv, tv⟩⟩, tv⟩⟩⟩⟩⟩⟩⟩ ?_
            refine TL_end ?_
            refine TE_go ?_
            refine TC_cond rfl (fun hb => ?_) (fun hb => ?_)
            · replace h2 := bif_t h2 hb
              refine TC_reg ?_
              obtain ⟨g, h2⟩ := gd_t h2
              refine TL_ev env 8 rfl ⟨tv, ⟨tv, ⟨tv, ⟨⟨tv, ⟨tv, (by decide)⟩⟩, ⟨⟨tv, ⟨tv, tv⟩⟩, ⟨⟨tv, ⟨tv, ⟨g.1, g.2⟩⟩⟩, ⟨⟨tv, tv⟩, ⟨tv, tv⟩⟩⟩⟩⟩⟩⟩⟩ ?_
              refine TL_end ?_
              obtain rfl := sinj h2
              refine tsn ?_
              exact SP_ren [(15000, 14500)] _ rfl ⟨rfl, rfl, rfl, rfl, rfl, tv⟩ ⟨rfl, tv⟩ rfl
            · replace h2 := bif_f h2 hb
              refine TC_skip ?_
              obtain rfl := sinj h2
              refine tsn ?_
              exact SP_ren [(15000, 14500)] _ rfl ⟨rfl, rfl, rfl, rfl, rfl, tv⟩ ⟨rfl, tv⟩ rfl
        · rintro x80 hz
          obtain rfl := hz.symm
          refine TE_go ?_
          refine TC_seq ?_
          refine TC_reg ?_
          obtain ⟨g, h1⟩ := gd_t h1
          refine TL_ev env 5 rfl ⟨tv, ⟨tv, ⟨tv, ⟨⟨tv, ⟨tv, ⟨g.1, g.2.1⟩⟩⟩, ⟨⟨tv, ⟨tv, g.2.2⟩⟩, tv⟩⟩⟩⟩⟩ ?_
          refine TL_end ?_
          refine TE_go ?_
          refine TC_reg ?_
          obtain ⟨g, h1⟩ := gd_t h1
          refine TL_ev env 9 rfl ⟨tv, ⟨tv, ⟨⟨tv, ⟨tv, tv⟩⟩, ⟨⟨tv, ⟨tv, tv⟩⟩, ⟨tv, ⟨⟨tv, ⟨tv, tv⟩⟩, ⟨tv, ⟨⟨tv, ⟨tv, ⟨g.1, g.2.1⟩⟩⟩, ⟨⟨tv, ⟨tv, g.2.2⟩⟩, tv⟩⟩⟩⟩⟩⟩⟩⟩⟩ ?_
          refine TL_end ?_
          refine tbn ?_
          refine TE_go ?_
          refine TC_reg ?_
          refine TL_ev env 3 rfl ⟨tv, ⟨⟨tv, ⟨tv, tv⟩⟩, ⟨tv, tv⟩⟩⟩ ?_
          refine TL_end ?_
          refine tsn ?_
          exact TE_nextr [(14500, 15000)] n (Nat.lt_succ_self n) (_, _) h1 ⟨rfl, rfl, rfl, rfl, tv⟩ ⟨rfl, tv⟩ rfl
      · replace h1 := bif_f h1 hb
        refine TC_exit ?_
        refine tsx ?_
        refine tsx ?_
        refine tbe ?_
        obtain rfl := sinj h1
        refine tsn ?_
        exact SP_ren [(14100, 14500)] _ rfl ⟨rfl, tv⟩ ⟨rfl, tv⟩ rfl
    · rintro x67 hz
      obtain rfl := hz.symm
      refine TE_go ?_
      refine TC_seq ?_
      refine TC_reg ?_
      refine TL_ev env 2 rfl ⟨tv, ⟨tv, tv⟩⟩ ?_
      refine TL_end ?_
      refine TE_go ?_
      refine TC_ret ?_
      refine TE_frz 14100 rfl ?_
      obtain rfl := sinj h0
      exact TE_ret env rfl tv tv
theorem psalteryref09_Window.ok0 {K : Nat} {p0 : Int} {q0 : List (Int)} (h0 : psalteryref09_Window K p0 = some q0) : Fn Try.prog 35 [.int .i64 p0] [] (.im (.slice (.int .i16)) q0) [] := psalteryref09_Window.ok h0
theorem psalteryref09_Window.fnb : fnb Try.prog 35 = true := fnb_of Try.func35 rfl
def psalteryref03_Cosine.res (_p0 : Int) (_p1 : Int) : Int × Int → MV
  | (q0, q1) => .tup [.int .i16 q0, .int .i64 q1]
def psalteryref03_Cosine.out (_p0 : Int) (_p1 : Int) : Int × Int → List (Nat × Option MObj)
  | (_, _) => []
theorem psalteryref03_Cosine.ok {K : Nat} {p0 : Int} {p1 : Int} {r : Int × Int} (h0 : psalteryref03_Cosine K p0 p1 = some r) : Fn Try.prog 71 [.int .i64 p0, .int .i64 p1] [] (psalteryref03_Cosine.res p0 p1 r) (psalteryref03_Cosine.out p0 p1 r) := by
  refine Fn_of Try.func71 rfl (Nat.le_of_ble_eq_true rfl) fun Γ => ?_
  refine TC_seq ?_
  refine TC_reg ?_
  refine TL_ev env 2 rfl ⟨tv, ⟨tv, tv⟩⟩ ?_
  refine TL_end ?_
  refine TE_go ?_
  refine TC_seq ?_
  refine TC_seq ?_
  refine TC_reg ?_
  refine TL_ev env 6 rfl ⟨tv, ⟨⟨tv, ⟨tv, tv⟩⟩, ⟨tv, ⟨fun eg => tv, ⟨fun eg => ⟨fun e => e, ⟨tv, tv⟩⟩, ⟨⟨tv, ⟨tv, fun e => e⟩⟩, tv⟩⟩⟩⟩⟩⟩ ?_
  refine TL_end ?_
  refine TE_go ?_
  refine TC_cond rfl (fun hb => ?_) (fun hb => ?_)
  · replace h0 := bif_t h0 hb
    refine TC_seq ?_
    refine TC_reg ?_
    refine TL_ev env 2 rfl ⟨tv, ⟨tv, tv⟩⟩ ?_
    refine TL_end ?_
    refine TE_go ?_
    refine TC_ret ?_
    refine tsr ?_
    obtain rfl := sinj h0
    exact TE_ret env rfl tv tv
  · replace h0 := bif_f h0 hb
    refine TC_skip ?_
    refine TE_go ?_
    refine TC_seq ?_
    refine TC_reg ?_
    obtain ⟨g, h0⟩ := gd_t h0
    refine TL_ev env 4 rfl ⟨tv, ⟨tv, ⟨⟨tv, ⟨tv, g⟩⟩, ⟨tv, tv⟩⟩⟩⟩ ?_
    refine TL_end ?_
    refine TE_go ?_
    refine TC_seq ?_
    refine TC_reg ?_
    refine TL_ev env 6 rfl ⟨tv, ⟨⟨tv, ⟨tv, tv⟩⟩, ⟨tv, ⟨⟨tv, ⟨tv, tv⟩⟩, ⟨tv, ⟨⟨tv, ⟨tv, tv⟩⟩, tv⟩⟩⟩⟩⟩⟩ ?_
    obtain ⟨r9, hr, h0⟩ := bnd h0
    refine TL_callB [] (psalteryref03_Of.ok0 hr) psalteryref03_Of.fnb rfl ⟨tv, ⟨tv, ⟨tv, tv⟩⟩⟩ rfl tv rfl ?_
    refine TL_ev env 2 rfl ⟨tv, ⟨tv, tv⟩⟩ ?_
    refine TL_end ?_
    refine TE_go ?_
    refine TC_ret ?_
    obtain rfl := sinj h0
    exact TE_ret env rfl tv tv
theorem psalteryref03_Cosine.ok0 {K : Nat} {p0 : Int} {p1 : Int} {q0 : Int} {q1 : Int} (h0 : psalteryref03_Cosine K p0 p1 = some (q0, q1)) : Fn Try.prog 71 [.int .i64 p0, .int .i64 p1] [] (.tup [.int .i16 q0, .int .i64 q1]) [] := psalteryref03_Cosine.ok h0
theorem psalteryref03_Cosine.fnb : fnb Try.prog 71 = true := fnb_of Try.func71 rfl
def psalteryref09_Waves.res (_p0 : Int) : (List (Int)) → MV
  | q0 => .im (.slice (.int .i64)) q0
def psalteryref09_Waves.out (_p0 : Int) : (List (Int)) → List (Nat × Option MObj)
  | _ => []
theorem psalteryref09_Waves.ok {K : Nat} {p0 : Int} {r : (List (Int))} (h0 : psalteryref09_Waves K p0 = some r) : Fn Try.prog 57 [.int .i64 p0] [] (psalteryref09_Waves.res p0 r) (psalteryref09_Waves.out p0 r) := by
  refine Fn_of Try.func57 rfl (Nat.le_of_ble_eq_true rfl) fun Γ => ?_
  refine TC_seq ?_
  refine TC_reg ?_
  refine TL_ev env 1 rfl ⟨tv, tv⟩ ?_
  refine TL_end ?_
  refine TE_go ?_
  refine TC_seq ?_
  refine TC_reg ?_
  refine TL_ev env 1 rfl ⟨tv, tv⟩ ?_
  refine TL_end ?_
  refine TE_go ?_
  refine TC_seq ?_
  refine TC_seq ?_
  refine TC_reg ?_
  refine TL_ev env 1 rfl ⟨tv, tv⟩ ?_
  refine TL_end ?_
  refine TE_go ?_
  obtain ⟨z1, h1, h0⟩ := bnd h0
  refine TC_cut (α := (List (Int))) (fun s => z1 = s) (fun s => [(3, .sl 10800)]) (fun s => [(10800, some (.rows (.int .i64) s))]) ?_ ?_
  · refine TC_blk ?_
    refine TC_loop (α := Int × (List (Int))) (fun n s => psalteryref09_Waves.l0 K p0 n s.1 s.2 = some z1) (fun s => [(0, .int .i64 p0), (3, .sl 11000), (4, .int .i64 s.1)]) (fun s => [(11000, some (.rows (.int .i64) s.2))]) K ?_ ?_
    · refine TE_own 3 7003 (.int .i64) rfl (by decide) rfl rfl ?_
      exact SP_ren [(11000, 7003)] (_, _) h1 ⟨rfl, rfl, rfl, tv⟩ ⟨rfl, tv⟩ rfl
    rintro n ⟨x31, x32⟩ h1
    rcases n with _ | n
    · exact (nsome h1).elim
    replace h1 : psalteryref09_Waves.r0 K p0 (psalteryref09_Waves.l0 K p0 n) x31 x32 = some z1 := h1
    refine TC_seq ?_
    refine TC_seq ?_
    refine TC_reg ?_
    refine TL_ev env 4 rfl ⟨tv, ⟨tv, ⟨⟨tv, ⟨tv, tv⟩⟩, ⟨⟨tv, ⟨tv, tv⟩⟩, tv⟩⟩⟩⟩ ?_
    refine TL_end ?_
    refine TE_go ?_
    refine TC_cond rfl (fun hb => ?_) (fun hb => ?_)
    · replace h1 := bif_t h1 hb
      refine TC_skip ?_
      refine TE_go ?_
      refine TC_seq ?_
      refine TC_blk ?_
      refine TC_seq ?_
      refine TC_reg ?_
      refine TL_ev env 3 rfl ⟨tv, ⟨tv, ⟨⟨tv, ⟨tv, tv⟩⟩, tv⟩⟩⟩ ?_
      obtain ⟨⟨r43, r44⟩, hr, h1⟩ := bnd h1
      refine TL_callB [] (psalteryref03_Cosine.ok0 hr) psalteryref03_Cosine.fnb rfl ⟨tv, ⟨tv, ⟨tv, tv⟩⟩⟩ rfl tv rfl ?_
      refine TL_ev env 5 rfl ⟨tv, ⟨tv, ⟨tv, ⟨tv, ⟨tv, tv⟩⟩⟩⟩⟩ ?_
      refine TL_end ?_
      refine TE_go ?_
      refine TC_reg ?_
      obtain ⟨g, h1⟩ := gd_t h1
      refine TL_ev env 6 rfl ⟨tv, ⟨tv, ⟨tv, ⟨⟨tv, tv⟩, ⟨⟨⟨tv, ⟨tv, tv⟩⟩, g⟩, ⟨tv, tv⟩⟩⟩⟩⟩⟩ ?_
      refine TL_end ?_
      refine tbn ?_
      refine TE_go ?_
      refine TC_reg ?_
      refine TL_ev env 3 rfl ⟨tv, ⟨⟨tv, ⟨tv, tv⟩⟩, ⟨tv, tv⟩⟩⟩ ?_
      refine TL_end ?_
      refine tsn ?_
      exact TE_nextr [(11000, 1024)] n (Nat.lt_succ_self n) (_, _) h1 ⟨rfl, rfl, rfl, tv⟩ ⟨rfl, tv⟩ rfl
    · replace h1 := bif_f h1 hb
      refine TC_exit ?_
      refine tsx ?_
      refine tsx ?_
      refine tbe ?_
      obtain rfl := sinj h1
      refine tsn ?_
      exact SP_ren [(10800, 11000)] _ rfl ⟨rfl, tv⟩ ⟨rfl, tv⟩ rfl
  · rintro x26 hz
    obtain rfl := hz.symm
    refine TE_go ?_
    refine TC_seq ?_
    refine TC_reg ?_
    refine TL_ev env 2 rfl ⟨tv, ⟨tv, tv⟩⟩ ?_
    refine TL_end ?_
    refine TE_go ?_
    refine TC_ret ?_
    refine TE_frz 10800 rfl ?_
    obtain rfl := sinj h0
    exact TE_ret env rfl tv tv
theorem psalteryref09_Waves.ok0 {K : Nat} {p0 : Int} {q0 : List (Int)} (h0 : psalteryref09_Waves K p0 = some q0) : Fn Try.prog 57 [.int .i64 p0] [] (.im (.slice (.int .i64)) q0) [] := psalteryref09_Waves.ok h0
theorem psalteryref09_Waves.fnb : fnb Try.prog 57 = true := fnb_of Try.func57 rfl
def psalteryref01_Sat.res (_p0 : Int) (_p1 : Int) : Int → MV
  | q0 => .int .i64 q0
def psalteryref01_Sat.out (_p0 : Int) (_p1 : Int) : Int → List (Nat × Option MObj)
  | _ => []
theorem psalteryref01_Sat.ok {K : Nat} {p0 : Int} {p1 : Int} {r : Int} (h0 : psalteryref01_Sat K p0 p1 = some r) : Fn Try.prog 49 [.int .i64 p0, .int .i64 p1] [] (psalteryref01_Sat.res p0 p1 r) (psalteryref01_Sat.out p0 p1 r) := by
  refine Fn_of Try.func49 rfl (Nat.le_of_ble_eq_true rfl) fun Γ => ?_
  refine TC_seq ?_
  refine TC_reg ?_
  refine TL_ev env 1 rfl ⟨tv, tv⟩ ?_
  refine TL_end ?_
  refine TE_go ?_
  refine TC_seq ?_
  refine TC_reg ?_
  obtain ⟨g, h0⟩ := gd_t h0
  refine TL_ev env 6 rfl ⟨tv, ⟨⟨tv, ⟨tv, tv⟩⟩, ⟨tv, ⟨⟨tv, ⟨tv, g⟩⟩, ⟨⟨tv, ⟨tv, tv⟩⟩, ⟨tv, tv⟩⟩⟩⟩⟩⟩ ?_
  refine TL_end ?_
  refine TE_go ?_
  refine TC_seq ?_
  refine TC_seq ?_
  refine TC_reg ?_
  refine TL_ev env 3 rfl ⟨tv, ⟨tv, ⟨⟨tv, ⟨tv, tv⟩⟩, tv⟩⟩⟩ ?_
  refine TL_end ?_
  refine TE_go ?_
  refine TC_cond rfl (fun hb => ?_) (fun hb => ?_)
  · replace h0 := bif_t h0 hb
    refine TC_seq ?_
    refine TC_reg ?_
    refine TL_ev env 2 rfl ⟨tv, ⟨tv, tv⟩⟩ ?_
    refine TL_end ?_
    refine TE_go ?_
    refine TC_ret ?_
    refine tsr ?_
    obtain rfl := sinj h0
    exact TE_ret env rfl tv tv
  · replace h0 := bif_f h0 hb
    refine TC_skip ?_
    refine TE_go ?_
    refine TC_seq ?_
    refine TC_seq ?_
    refine TC_reg ?_
    refine TL_ev env 5 rfl ⟨tv, ⟨tv, ⟨tv, ⟨⟨tv, ⟨tv, tv⟩⟩, ⟨⟨tv, ⟨tv, tv⟩⟩, tv⟩⟩⟩⟩⟩ ?_
    refine TL_end ?_
    refine TE_go ?_
    refine TC_cond rfl (fun hb => ?_) (fun hb => ?_)
    · replace h0 := bif_t h0 hb
      refine TC_seq ?_
      refine TC_reg ?_
      refine TL_ev env 4 rfl ⟨tv, ⟨tv, ⟨⟨tv, ⟨tv, tv⟩⟩, ⟨tv, tv⟩⟩⟩⟩ ?_
      refine TL_end ?_
      refine TE_go ?_
      refine TC_ret ?_
      refine tsr ?_
      obtain rfl := sinj h0
      exact TE_ret env rfl tv tv
    · replace h0 := bif_f h0 hb
      refine TC_skip ?_
      refine TE_go ?_
      refine TC_seq ?_
      refine TC_reg ?_
      refine TL_ev env 2 rfl ⟨tv, ⟨tv, tv⟩⟩ ?_
      refine TL_end ?_
      refine TE_go ?_
      refine TC_ret ?_
      obtain rfl := sinj h0
      exact TE_ret env rfl tv tv
theorem psalteryref01_Sat.ok0 {K : Nat} {p0 : Int} {p1 : Int} {q0 : Int} (h0 : psalteryref01_Sat K p0 p1 = some q0) : Fn Try.prog 49 [.int .i64 p0, .int .i64 p1] [] (.int .i64 q0) [] := psalteryref01_Sat.ok h0
theorem psalteryref01_Sat.fnb : fnb Try.prog 49 = true := fnb_of Try.func49 rfl
def psalteryref09_sat.res (_p0 : Int) : Int → MV
  | q0 => .int .i64 q0
def psalteryref09_sat.out (_p0 : Int) : Int → List (Nat × Option MObj)
  | _ => []
theorem psalteryref09_sat.ok {K : Nat} {p0 : Int} {r : Int} (h0 : psalteryref09_sat K p0 = some r) : Fn Try.prog 58 [.int .i64 p0] [] (psalteryref09_sat.res p0 r) (psalteryref09_sat.out p0 r) := by
  refine Fn_of Try.func58 rfl (Nat.le_of_ble_eq_true rfl) fun Γ => ?_
  refine TC_seq ?_
  refine TC_reg ?_
  refine TL_ev env 1 rfl ⟨tv, tv⟩ ?_
  refine TL_end ?_
  refine TE_go ?_
  refine TC_seq ?_
  refine TC_reg ?_
  refine TL_ev env 1 rfl ⟨tv, tv⟩ ?_
  obtain ⟨r2, hr, h0⟩ := bnd h0
  refine TL_callB [] (psalteryref01_Sat.ok0 hr) psalteryref01_Sat.fnb rfl ⟨tv, ⟨tv, ⟨tv, tv⟩⟩⟩ rfl tv rfl ?_
  refine TL_ev env 1 rfl ⟨tv, tv⟩ ?_
  refine TL_end ?_
  refine TE_go ?_
  refine TC_ret ?_
  obtain rfl := sinj h0
  exact TE_ret env rfl tv tv
theorem psalteryref09_sat.ok0 {K : Nat} {p0 : Int} {q0 : Int} (h0 : psalteryref09_sat K p0 = some q0) : Fn Try.prog 58 [.int .i64 p0] [] (.int .i64 q0) [] := psalteryref09_sat.ok h0
theorem psalteryref09_sat.fnb : fnb Try.prog 58 = true := fnb_of Try.func58 rfl
def psalteryref09_Back.res (_p0 : List (Int)) (_p1 : Int) : (List (Int)) → MV
  | q0 => .im (.slice (.int .i64)) q0
def psalteryref09_Back.out (_p0 : List (Int)) (_p1 : Int) : (List (Int)) → List (Nat × Option MObj)
  | _ => []
theorem psalteryref09_Back.ok {K : Nat} {p0 : List (Int)} {p1 : Int} {r : (List (Int))} (h0 : psalteryref09_Back K p0 p1 = some r) : Fn Try.prog 38 [.im (.slice (.int .i32)) p0, .int .i64 p1] [] (psalteryref09_Back.res p0 p1 r) (psalteryref09_Back.out p0 p1 r) := by
  refine Fn_of Try.func38 rfl (Nat.le_of_ble_eq_true rfl) fun Γ => ?_
  refine TC_seq ?_
  refine TC_reg ?_
  refine TL_ev env 1 rfl ⟨tv, tv⟩ ?_
  refine TL_end ?_
  refine TE_go ?_
  refine TC_seq ?_
  refine TC_reg ?_
  refine TL_ev env 1 rfl ⟨tv, tv⟩ ?_
  obtain ⟨r48, hr, h0⟩ := bnd h0
  refine TL_callB [] (psalteryref09_Window.ok0 hr) psalteryref09_Window.fnb rfl ⟨tv, ⟨tv, tv⟩⟩ rfl tv rfl ?_
  refine TL_ev env 1 rfl ⟨tv, tv⟩ ?_
  refine TL_end ?_
  refine TE_go ?_
  refine TC_seq ?_
  refine TC_reg ?_
  refine TL_ev env 1 rfl ⟨tv, tv⟩ ?_
  obtain ⟨r49, hr, h0⟩ := bnd h0
  refine TL_callB [] (psalteryref09_Waves.ok0 hr) psalteryref09_Waves.fnb rfl ⟨tv, ⟨tv, tv⟩⟩ rfl tv rfl ?_
  refine TL_ev env 1 rfl ⟨tv, tv⟩ ?_
  refine TL_end ?_
  refine TE_go ?_
  refine TC_seq ?_
  refine TC_reg ?_
  refine TL_ev env 1 rfl ⟨tv, tv⟩ ?_
  refine TL_end ?_
  refine TE_go ?_
  refine TC_seq ?_
  refine TC_seq ?_
  refine TC_reg ?_
  refine TL_ev env 1 rfl ⟨tv, tv⟩ ?_
  refine TL_end ?_
  refine TE_go ?_
  obtain ⟨z1, h1, h0⟩ := bnd h0
  refine TC_cut (α := (List (Int))) (fun s => z1 = s) (fun s => [(7, .sl 14800)]) (fun s => [(14800, some (.rows (.int .i64) s))]) ?_ ?_
  · refine TC_blk ?_
    refine TC_loop (α := Int × (List (Int))) (fun n s => psalteryref09_Back.l0 K p0 p1 r48 r49 n s.1 s.2 = some z1) (fun s => [(0, .im (.slice (.int .i32)) p0), (1, .int .i64 p1), (5, .im (.slice (.int .i16)) r48), (6, .im (.slice (.int .i64)) r49), (7, .sl 16000), (8, .int .i64 s.1)]) (fun s => [(16000, some (.rows (.int .i64) s.2))]) K ?_ ?_
    · refine TE_own 7 7007 (.int .i64) rfl (by decide) rfl rfl ?_
      exact SP_ren [(16000, 7007)] (_, _) h1 ⟨rfl, rfl, rfl, rfl, rfl, rfl, tv⟩ ⟨rfl, tv⟩ rfl
    rintro n ⟨x115, x116⟩ h1
    rcases n with _ | n
    · exact (nsome h1).elim
    replace h1 : psalteryref09_Back.r0 K p0 p1 r48 r49 (psalteryref09_Back.l0 K p0 p1 r48 r49 n) x115 x116 = some z1 := h1
    refine TC_seq ?_
    refine TC_seq ?_
    refine TC_reg ?_
    refine TL_ev env 4 rfl ⟨tv, ⟨tv, ⟨⟨tv, ⟨tv, tv⟩⟩, ⟨⟨tv, ⟨tv, tv⟩⟩, tv⟩⟩⟩⟩ ?_
    refine TL_end ?_
    refine TE_go ?_
    refine TC_cond rfl (fun hb => ?_) (fun hb => ?_)
    · replace h1 := bif_t h1 hb
      refine TC_skip ?_
      refine TE_go ?_
      refine TC_seq ?_
      refine TC_blk ?_
      refine TC_seq ?_
      refine TC_reg ?_
      refine TL_ev env 1 rfl ⟨tv, tv⟩ ?_
      refine TL_end ?_
      refine TE_go ?_
      refine TC_seq ?_
      refine TC_seq ?_
      refine TC_reg ?_
      refine TL_ev env 1 rfl ⟨tv, tv⟩ ?_
      refine TL_end ?_
      refine TE_go ?_
      obtain ⟨z2, h2, h1⟩ := bnd h1
      refine TC_cut (α := Int) (fun s => z2 = s) (fun s => [(0, .im (.slice (.int .i32)) p0), (1, .int .i64 p1), (5, .im (.slice (.int .i16)) r48), (6, .im (.slice (.int .i64)) r49), (7, .sl 18000), (8, .int .i64 x115), (9, .int .i64 s)]) (fun s => [(18000, some (.rows (.int .i64) x116))]) ?_ ?_
      · refine TC_blk ?_
        refine TC_loop (α := Int × Int) (fun n s => psalteryref09_Back.l1 K p0 p1 r48 r49 x115 x116 n s.1 s.2 = some z2) (fun s => [(0, .im (.slice (.int .i32)) p0), (1, .int .i64 p1), (5, .im (.slice (.int .i16)) r48), (6, .im (.slice (.int .i64)) r49), (7, .sl 18300), (8, .int .i64 x115), (9, .int .i64 s.1), (10, .int .i64 s.2)]) (fun s => [(18300, some (.rows (.int .i64) x116))]) K ?_ ?_
        · exact SP_ren [(18300, 16000)] (_, _) h2 ⟨rfl, rfl, rfl, rfl, rfl, rfl, rfl, rfl, tv⟩ ⟨rfl, tv⟩ rfl
        rintro n ⟨x175, x176⟩ h2
        rcases n with _ | n
        · exact (nsome h2).elim
        replace h2 : psalteryref09_Back.r1 K p0 p1 r48 r49 x115 x116 (psalteryref09_Back.l1 K p0 p1 r48 r49 x115 x116 n) x175 x176 = some z2 := h2
        refine TC_seq ?_
        refine TC_seq ?_
        refine TC_reg ?_
        refine TL_ev env 3 rfl ⟨tv, ⟨tv, ⟨⟨tv, ⟨tv, tv⟩⟩, tv⟩⟩⟩ ?_
        refine TL_end ?_
        refine TE_go ?_
        refine TC_cond rfl (fun hb => ?_) (fun hb => ?_)
        · replace h2 := bif_t h2 hb
          refine TC_skip ?_
          refine TE_go ?_
          refine TC_seq ?_
          refine TC_blk ?_
          refine TC_renw (A' := [(0, .im (.slice (.int .i32)) _), (1, .int .i64 _), (5, .im (.slice (.int .i16)) _), (6, .im (.slice (.int .i64)) _), (7, .sl 18300), (8, .int .i64 _), (9, .int .i64 _), (10, .int .i64 _)]) (L' := [(18300, some (.rows (.int .i64) _))]) [] ⟨rfl, rfl, rfl, rfl, rfl, rfl, rfl, rfl, tv⟩ ⟨rfl, tv⟩ rfl ?_
          refine TC_drawR ⟨_, fun i => ([[], [], [], [2, 1], [3, 2, 1], [4, 3, 2, 1], [], [], [7], [8, 7], [], [10, 9, 8, 7], [], [12], [13, 12], [14, 13, 12, 11, 10, 9, 8, 7], [], [16], [17, 16, 15, 14, 13, 12, 11, 10, 9, 8, 7], [18, 17, 16, 15, 14, 13, 12, 11, 10, 9, 8, 7, 6], [19, 18, 17, 16, 15, 14, 13, 12, 11, 10, 9, 8, 7, 6], [20, 19, 18, 17, 16, 15, 14, 13, 12, 11, 10, 9, 8, 7, 6, 5, 4, 3, 2, 1], [21, 20, 19, 18, 17, 16, 15, 14, 13, 12, 11, 10, 9, 8, 7, 6, 5, 4, 3, 2, 1, 0], [22, 21, 20, 19, 18, 17, 16, 15, 14, 13, 12, 11, 10, 9, 8, 7, 6, 5, 4, 3, 2, 1, 0]] : List (List Nat)).getD i [], fun i => ([[], [], [], [], [], [], [], [], [], [], [], [], [], [], [], [], [], [], [], [], [], [], [], []] : List (List Nat)).getD i [], fun i => ([[], [], [], [], [], [], [], [], [], [], [], [], [], [], [], [], [], [], [], [], [], [], [], []] : List (List Nat)).getD i []⟩ (fun i => ([[], [], [], [], [], [], [], [], [], [], [], [], [], [], [], [], [], [], [], [], [], [], [], []] : List (List Nat)).getD i []) (by kernel_rfl) (by kernel_rfl) ?_
          refine AJR_ev env 1 rfl (Nat.le_of_ble_eq_true rfl) rfl tv ?_
          refine AJR_ev env 2 rfl (Nat.le_of_ble_eq_true rfl) rfl tv ?_
          refine AJR_ev env 3 rfl (Nat.le_of_ble_eq_true rfl) rfl tv ?_
          obtain ⟨g, h2⟩ := gd_t h2
          refine AJR_ev env 4 rfl (Nat.le_of_ble_eq_true rfl) rfl ⟨tv, ⟨tv, ⟨g.1, g.2⟩⟩⟩ ?_
          refine AJR_ev env 5 rfl (Nat.le_of_ble_eq_true rfl) rfl ⟨tv, tv⟩ ?_
          refine AJR_ev env 6 rfl (Nat.le_of_ble_eq_true rfl) rfl tv ?_
          refine AJR_ev env 7 rfl (Nat.le_of_ble_eq_true rfl) rfl tv ?_
          refine AJR_ev env 8 rfl (Nat.le_of_ble_eq_true rfl) rfl tv ?_
          refine AJR_ev env 9 rfl (Nat.le_of_ble_eq_true rfl) rfl ⟨tv, ⟨tv, tv⟩⟩ ?_
          refine AJR_ev env 10 rfl (Nat.le_of_ble_eq_true rfl) rfl ⟨tv, ⟨tv, tv⟩⟩ ?_
          refine AJR_ev env 11 rfl (Nat.le_of_ble_eq_true rfl) rfl tv ?_
          refine AJR_ev env 12 rfl (Nat.le_of_ble_eq_true rfl) rfl ⟨tv, ⟨tv, tv⟩⟩ ?_
          refine AJR_ev env 13 rfl (Nat.le_of_ble_eq_true rfl) rfl tv ?_
          refine AJR_ev env 14 rfl (Nat.le_of_ble_eq_true rfl) rfl ⟨tv, ⟨tv, tv⟩⟩ ?_
          refine AJR_ev env 15 rfl (Nat.le_of_ble_eq_true rfl) rfl ⟨tv, ⟨tv, tv⟩⟩ ?_
          refine AJR_ev env 16 rfl (Nat.le_of_ble_eq_true rfl) rfl ⟨tv, ⟨tv, tv⟩⟩ ?_
          refine AJR_ev env 17 rfl (Nat.le_of_ble_eq_true rfl) rfl tv ?_
          refine AJR_ev env 18 rfl (Nat.le_of_ble_eq_true rfl) rfl ⟨tv, ⟨tv, tv⟩⟩ ?_
          obtain ⟨g, h2⟩ := gd_t h2
          refine AJR_ev env 19 rfl (Nat.le_of_ble_eq_true rfl) rfl ⟨tv, ⟨tv, g⟩⟩ ?_
          obtain ⟨g, h2⟩ := gd_t h2
          refine AJR_ev env 20 rfl (Nat.le_of_ble_eq_true rfl) rfl ⟨tv, ⟨tv, ⟨g.1, g.2⟩⟩⟩ ?_
          refine AJR_ev env 21 rfl (Nat.le_of_ble_eq_true rfl) rfl ⟨tv, tv⟩ ?_
          refine AJR_ev env 22 rfl (Nat.le_of_ble_eq_true rfl) rfl ⟨tv, ⟨tv, tv⟩⟩ ?_
          refine AJR_ev env 23 rfl (Nat.le_of_ble_eq_true rfl) rfl ⟨tv, ⟨tv, tv⟩⟩ ?_
          refine AJR_ev env 24 rfl (Nat.le_of_ble_eq_true rfl) rfl tv ?_
          refine AJR_end rfl rfl rfl ?_
          refine tbn ?_
          refine TE_go ?_
          refine TC_reg ?_
          refine TL_ev env 3 rfl ⟨tv, ⟨⟨tv, ⟨tv, tv⟩⟩, ⟨tv, tv⟩⟩⟩ ?_
          refine TL_end ?_
          refine tsn ?_
          exact TE_nextr [(18300, 18300)] n (Nat.lt_succ_self n) (_, _) h2 ⟨rfl, rfl, rfl, rfl, rfl, rfl, rfl, rfl, tv⟩ ⟨rfl, tv⟩ rfl
        · replace h2 := bif_f h2 hb
          refine TC_exit ?_
          refine tsx ?_
          refine tsx ?_
          refine tbe ?_
          obtain rfl := sinj h2
          refine tsn ?_
          exact SP_ren [(18000, 18300)] _ rfl ⟨rfl, rfl, rfl, rfl, rfl, rfl, rfl, tv⟩ ⟨rfl, tv⟩ rfl
      · rintro x155 hz
        obtain rfl := hz.symm
        refine TE_go ?_
        refine TC_seq ?_
        refine TC_reg ?_
        refine TL_ev env 1 rfl ⟨tv, tv⟩ ?_
        obtain ⟨r156, hr, h1⟩ := bnd h1
        refine TL_callB [] (psalteryref01_Round.ok0 hr) psalteryref01_Round.fnb rfl ⟨tv, ⟨tv, ⟨tv, tv⟩⟩⟩ rfl tv rfl ?_
        refine TL_ev env 5 rfl ⟨⟨tv, ⟨tv, tv⟩⟩, ⟨tv, ⟨⟨tv, ⟨tv, (by decide)⟩⟩, ⟨⟨tv, ⟨tv, tv⟩⟩, ⟨tv, tv⟩⟩⟩⟩⟩ ?_
        refine TL_end ?_
        refine TE_go ?_
        refine TC_seq ?_
        refine TC_reg ?_
        obtain ⟨g, h1⟩ := gd_t h1
        refine TL_ev env 4 rfl ⟨tv, ⟨tv, ⟨⟨tv, ⟨tv, g⟩⟩, ⟨tv, tv⟩⟩⟩⟩ ?_
        refine TL_end ?_
        refine TE_go ?_
        refine TC_seq ?_
        refine TC_seq ?_
        refine TC_reg ?_
        refine TL_ev env 9 rfl ⟨tv, ⟨⟨tv, ⟨tv, tv⟩⟩, ⟨tv, ⟨fun eg => tv, ⟨fun eg => tv, ⟨fun eg => ⟨fun e => e, ⟨fun e => e, tv⟩⟩, ⟨fun eg => tv, ⟨fun eg => ⟨fun e => e, ⟨fun e => e, tv⟩⟩, ⟨⟨tv, ⟨fun e => e, tv⟩⟩, tv⟩⟩⟩⟩⟩⟩⟩⟩⟩ ?_
        refine TL_end ?_
        refine TE_go ?_
        obtain ⟨z2, h2, h1⟩ := bnd h1
        refine TC_cut (α := Int) (fun s => z2 = s) (fun s => [(0, .im (.slice (.int .i32)) p0), (1, .int .i64 p1), (5, .im (.slice (.int .i16)) r48), (6, .im (.slice (.int .i64)) r49), (7, .sl 18100), (8, .int .i64 x115), (12, .int .i64 s)]) (fun s => [(18100, some (.rows (.int .i64) x116))]) ?_ ?_
        · refine TC_cond rfl (fun hb => ?_) (fun hb => ?_)
          · replace h2 := bif_t h2 hb
            refine TC_reg ?_
            refine TL_ev env 3 rfl ⟨tv, ⟨⟨tv, ⟨tv, tv⟩⟩, ⟨tv, tv⟩⟩⟩ ?_
            refine TL_end ?_
            obtain rfl := sinj h2
            refine tsn ?_
            exact SP_ren [(18100, 18000)] _ rfl ⟨rfl, rfl, rfl, rfl, rfl, rfl, rfl, tv⟩ ⟨rfl, tv⟩ rfl
          · replace h2 := bif_f h2 hb
            refine TC_skip ?_
            obtain rfl := sinj h2
            refine tsn ?_
            exact SP_ren [(18100, 18000)] _ rfl ⟨rfl, rfl, rfl, rfl, rfl, rfl, rfl, tv⟩ ⟨rfl, tv⟩ rfl
        · rintro x165 hz
          obtain rfl := hz.symm
          refine TE_go ?_
          refine TC_renw (A' := [(0, .im (.slice (.int .i32)) _), (1, .int .i64 _), (5, .im (.slice (.int .i16)) _), (6, .im (.slice (.int .i64)) _), (7, .sl 18100), (8, .int .i64 _), (12, .int .i64 _)]) (L' := [(18100, some (.rows (.int .i64) _))]) [] ⟨rfl, rfl, rfl, rfl, rfl, rfl, rfl, tv⟩ ⟨rfl, tv⟩ rfl ?_
          refine TC_drawR ⟨_, fun i => ([[], [], [1], [], [], [4, 3], [5, 4, 3], [6, 5, 4, 3], [7, 6, 5, 4, 3, 2, 1], [8, 7, 6, 5, 4, 3, 2, 1], [9, 8, 7, 6, 5, 4, 3, 2, 1], [10, 9, 8, 7, 6, 5, 4, 3, 2, 1], [11, 10, 9, 8, 7, 6, 5, 4, 3, 2, 1, 0], [12, 11, 10, 9, 8, 7, 6, 5, 4, 3, 2, 1, 0]] : List (List Nat)).getD i [], fun i => ([[], [], [], [], [], [], [], [], [], [], [], [1082], [1083, 18100], []] : List (List Nat)).getD i [], fun i => ([[], [], [], [], [], [], [], [], [], [], [], [1082], [1083], []] : List (List Nat)).getD i []⟩ (fun i => ([[1082], [], [], [], [], [], [], [], [], [], [], [], [], []] : List (List Nat)).getD i []) (by kernel_rfl) (by kernel_rfl) ?_
          refine AJR_ev env 1 rfl (Nat.le_of_ble_eq_true rfl) rfl tv ?_
          refine AJR_ev env 2 rfl (Nat.le_of_ble_eq_true rfl) rfl tv ?_
          obtain ⟨r166, hr, h1⟩ := bnd h1
          refine AJR_call 3 rfl (Nat.le_of_ble_eq_true rfl) [] rfl (psalteryref09_sat.ok0 hr) psalteryref09_sat.fnb rfl ⟨tv, ⟨tv, tv⟩⟩ rfl tv rfl ?_
          refine AJR_ev env 4 rfl (Nat.le_of_ble_eq_true rfl) rfl tv ?_
          refine AJR_ev env 5 rfl (Nat.le_of_ble_eq_true rfl) rfl tv ?_
          obtain ⟨g, h1⟩ := gd_t h1
          refine AJR_ev env 6 rfl (Nat.le_of_ble_eq_true rfl) rfl ⟨tv, ⟨tv, ⟨g.1, g.2⟩⟩⟩ ?_
          refine AJR_ev env 7 rfl (Nat.le_of_ble_eq_true rfl) rfl ⟨tv, tv⟩ ?_
          refine AJR_ev env 8 rfl (Nat.le_of_ble_eq_true rfl) rfl tv ?_
          refine AJR_ev env 9 rfl (Nat.le_of_ble_eq_true rfl) rfl ⟨tv, ⟨tv, tv⟩⟩ ?_
          obtain ⟨r170, hr, h1⟩ := bnd h1
          refine AJR_call 10 rfl (Nat.le_of_ble_eq_true rfl) [] rfl (psalteryref01_Round.ok0 hr) psalteryref01_Round.fnb rfl ⟨tv, ⟨tv, ⟨tv, tv⟩⟩⟩ rfl tv rfl ?_
          obtain ⟨r171, hr, h1⟩ := bnd h1
          refine AJR_call 11 rfl (Nat.le_of_ble_eq_true rfl) [] rfl (psalteryref09_sat.ok0 hr) psalteryref09_sat.fnb rfl ⟨tv, ⟨tv, tv⟩⟩ rfl tv rfl ?_
          refine AJR_ev env 12 rfl (Nat.le_of_ble_eq_true rfl) rfl ⟨tv, tv⟩ ?_
          obtain ⟨g, h1⟩ := gd_t h1
          refine AJR_ev env 13 rfl (Nat.le_of_ble_eq_true rfl) rfl ⟨⟨tv, ⟨tv, tv⟩⟩, g⟩ ?_
          refine AJR_ev env 14 rfl (Nat.le_of_ble_eq_true rfl) rfl tv ?_
          refine AJR_end rfl rfl rfl ?_
          refine tbn ?_
          refine TE_go ?_
          refine TC_reg ?_
          refine TL_ev env 3 rfl ⟨tv, ⟨⟨tv, ⟨tv, tv⟩⟩, ⟨tv, tv⟩⟩⟩ ?_
          refine TL_end ?_
          refine tsn ?_
          exact TE_nextr [(16000, 1083)] n (Nat.lt_succ_self n) (_, _) h1 ⟨rfl, rfl, rfl, rfl, rfl, rfl, tv⟩ ⟨rfl, tv⟩ rfl
    · replace h1 := bif_f h1 hb
      refine TC_exit ?_
      refine tsx ?_
      refine tsx ?_
      refine tbe ?_
      obtain rfl := sinj h1
      refine tsn ?_
      exact SP_ren [(14800, 16000)] _ rfl ⟨rfl, tv⟩ ⟨rfl, tv⟩ rfl
  · rintro x94 hz
    obtain rfl := hz.symm
    refine TE_go ?_
    refine TC_seq ?_
    refine TC_reg ?_
    refine TL_ev env 2 rfl ⟨tv, ⟨tv, tv⟩⟩ ?_
    refine TL_end ?_
    refine TE_go ?_
    refine TC_ret ?_
    refine TE_frz 14800 rfl ?_
    obtain rfl := sinj h0
    exact TE_ret env rfl tv tv
theorem psalteryref09_Back.ok0 {K : Nat} {p0 : List (Int)} {p1 : Int} {q0 : List (Int)} (h0 : psalteryref09_Back K p0 p1 = some q0) : Fn Try.prog 38 [.im (.slice (.int .i32)) p0, .int .i64 p1] [] (.im (.slice (.int .i64)) q0) [] := psalteryref09_Back.ok h0
theorem psalteryref09_Back.fnb : fnb Try.prog 38 = true := fnb_of Try.func38 rfl
def psalteryref09_Unlap.res (_p0 : List (Int)) (_p1 : Int) : (List (Int)) → MV
  | q0 => .im (.slice (.int .i32)) q0
def psalteryref09_Unlap.out (_p0 : List (Int)) (_p1 : Int) : (List (Int)) → List (Nat × Option MObj)
  | _ => []
theorem psalteryref09_Unlap.ok {K : Nat} {p0 : List (Int)} {p1 : Int} {r : (List (Int))} (h0 : psalteryref09_Unlap K p0 p1 = some r) : Fn Try.prog 37 [.nils, .im (.slice (.int .i32)) p0, .int .i64 p1] [] (psalteryref09_Unlap.res p0 p1 r) (psalteryref09_Unlap.out p0 p1 r) := by
  refine Fn_of Try.func37 rfl (Nat.le_of_ble_eq_true rfl) fun Γ => ?_
  refine TC_seq ?_
  refine TC_reg ?_
  refine TL_ev env 1 rfl ⟨tv, tv⟩ ?_
  refine TL_end ?_
  refine TE_go ?_
  refine TC_seq ?_
  refine TC_reg ?_
  refine TL_ev env 2 rfl ⟨tv, ⟨tv, tv⟩⟩ ?_
  obtain ⟨r11, hr, h0⟩ := bnd h0
  refine TL_callB [] (psalteryref09_Back.ok0 hr) psalteryref09_Back.fnb rfl ⟨tv, ⟨tv, ⟨tv, tv⟩⟩⟩ rfl tv rfl ?_
  refine TL_ev env 1 rfl ⟨tv, tv⟩ ?_
  refine TL_end ?_
  refine TE_go ?_
  refine TC_seq ?_
  refine TC_reg ?_
  refine TL_ev env 1 rfl ⟨tv, tv⟩ ?_
  refine TL_end ?_
  refine TE_go ?_
  refine TC_seq ?_
  refine TC_seq ?_
  refine TC_reg ?_
  refine TL_ev env 1 rfl ⟨tv, tv⟩ ?_
  refine TL_end ?_
  refine TE_go ?_
  obtain ⟨z1, h1, h0⟩ := bnd h0
  refine TC_cut (α := (List (Int))) (fun s => z1 = s) (fun s => [(8, .sl 10800)]) (fun s => [(10800, some (.rows (.int .i32) s))]) ?_ ?_
  · refine TC_blk ?_
    refine TC_loop (α := Int × (List (Int))) (fun n s => psalteryref09_Unlap.l0 K p1 r11 n s.1 s.2 = some z1) (fun s => [(0, .nils), (2, .int .i64 p1), (7, .im (.slice (.int .i64)) r11), (8, .sl 11000), (9, .int .i64 s.1)]) (fun s => [(11000, some (.rows (.int .i32) s.2))]) K ?_ ?_
    · refine TE_own 8 7008 (.int .i32) rfl (by decide) rfl rfl ?_
      exact SP_ren [(11000, 7008)] (_, _) h1 ⟨rfl, rfl, rfl, rfl, rfl, tv⟩ ⟨rfl, tv⟩ rfl
    rintro n ⟨x23, x24⟩ h1
    rcases n with _ | n
    · exact (nsome h1).elim
    replace h1 : psalteryref09_Unlap.r0 K p1 r11 (psalteryref09_Unlap.l0 K p1 r11 n) x23 x24 = some z1 := h1
    refine TC_seq ?_
    refine TC_seq ?_
    refine TC_reg ?_
    refine TL_ev env 3 rfl ⟨tv, ⟨tv, ⟨⟨tv, ⟨tv, tv⟩⟩, tv⟩⟩⟩ ?_
    refine TL_end ?_
    refine TE_go ?_
    refine TC_cond rfl (fun hb => ?_) (fun hb => ?_)
    · replace h1 := bif_t h1 hb
      refine TC_skip ?_
      refine TE_go ?_
      refine TC_seq ?_
      refine TC_blk ?_
      refine TC_seq ?_
      refine TC_reg ?_
      refine TL_ev env 1 rfl ⟨tv, tv⟩ ?_
      refine TL_end ?_
      refine TE_go ?_
      refine TC_seq ?_
      refine TC_seq ?_
      refine TC_reg ?_
      refine TL_ev env 3 rfl ⟨tv, ⟨⟨tv, tv⟩, ⟨⟨tv, ⟨tv, tv⟩⟩, tv⟩⟩⟩ ?_
      refine TL_end ?_
      refine TE_go ?_
      refine TC_cond rfl (fun hb => ?_) (fun hb => ?_)
      · first | exact (ftf hb).elim | exact (tff hb).elim | exact absurd hb (by decide)
      · refine TC_skip ?_
        refine TE_go ?_
        refine TC_reg ?_
        obtain ⟨g, h1⟩ := gd_t h1
        refine TL_ev env 7 rfl ⟨tv, ⟨tv, ⟨tv, ⟨tv, ⟨⟨tv, ⟨tv, ⟨g.1, g.2⟩⟩⟩, ⟨⟨tv, tv⟩, ⟨⟨tv, ⟨tv, tv⟩⟩, tv⟩⟩⟩⟩⟩⟩⟩ ?_
        obtain ⟨r33, hr, h1⟩ := bnd h1
        refine TL_callB [] (psalteryref09_sat.ok0 hr) psalteryref09_sat.fnb rfl ⟨tv, ⟨tv, tv⟩⟩ rfl tv rfl ?_
        obtain ⟨g, h1⟩ := gd_t h1
        refine TL_ev env 4 rfl ⟨tv, ⟨⟨tv, tv⟩, ⟨⟨⟨tv, ⟨tv, tv⟩⟩, g⟩, ⟨tv, tv⟩⟩⟩⟩ ?_
        refine TL_end ?_
        refine tbn ?_
        refine TE_go ?_
        refine TC_reg ?_
        refine TL_ev env 3 rfl ⟨tv, ⟨⟨tv, ⟨tv, tv⟩⟩, ⟨tv, tv⟩⟩⟩ ?_
        refine TL_end ?_
        refine tsn ?_
        exact TE_nextr [(11000, 1038)] n (Nat.lt_succ_self n) (_, _) h1 ⟨rfl, rfl, rfl, rfl, rfl, tv⟩ ⟨rfl, tv⟩ rfl
    · replace h1 := bif_f h1 hb
      refine TC_exit ?_
      refine tsx ?_
      refine tsx ?_
      refine tbe ?_
      obtain rfl := sinj h1
      refine tsn ?_
      exact SP_ren [(10800, 11000)] _ rfl ⟨rfl, tv⟩ ⟨rfl, tv⟩ rfl
  · rintro x20 hz
    obtain rfl := hz.symm
    refine TE_go ?_
    refine TC_seq ?_
    refine TC_reg ?_
    refine TL_ev env 2 rfl ⟨tv, ⟨tv, tv⟩⟩ ?_
    refine TL_end ?_
    refine TE_go ?_
    refine TC_ret ?_
    refine TE_frz 10800 rfl ?_
    obtain rfl := sinj h0
    exact TE_ret env rfl tv tv
theorem psalteryref09_Unlap.ok0 {K : Nat} {p0 : List (Int)} {p1 : Int} {q0 : List (Int)} (h0 : psalteryref09_Unlap K p0 p1 = some q0) : Fn Try.prog 37 [.nils, .im (.slice (.int .i32)) p0, .int .i64 p1] [] (.im (.slice (.int .i32)) q0) [] := psalteryref09_Unlap.ok h0
theorem psalteryref09_Unlap.fnb : fnb Try.prog 37 = true := fnb_of Try.func37 rfl
def psalteryref09_Unlap_2.res (_p0 : List (Int)) (_p1 : List (Int)) (_p2 : Int) : (List (Int)) → MV
  | q0 => .im (.slice (.int .i32)) q0
def psalteryref09_Unlap_2.out (_p0 : List (Int)) (_p1 : List (Int)) (_p2 : Int) : (List (Int)) → List (Nat × Option MObj)
  | _ => []
theorem psalteryref09_Unlap_2.ok {K : Nat} {p0 : List (Int)} {p1 : List (Int)} {p2 : Int} {r : (List (Int))} (h0 : psalteryref09_Unlap_2 K p0 p1 p2 = some r) : Fn Try.prog 37 [.im (.slice (.int .i64)) p0, .im (.slice (.int .i32)) p1, .int .i64 p2] [] (psalteryref09_Unlap_2.res p0 p1 p2 r) (psalteryref09_Unlap_2.out p0 p1 p2 r) := by
  refine Fn_of Try.func37 rfl (Nat.le_of_ble_eq_true rfl) fun Γ => ?_
  refine TC_seq ?_
  refine TC_reg ?_
  refine TL_ev env 1 rfl ⟨tv, tv⟩ ?_
  refine TL_end ?_
  refine TE_go ?_
  refine TC_seq ?_
  refine TC_reg ?_
  refine TL_ev env 2 rfl ⟨tv, ⟨tv, tv⟩⟩ ?_
  obtain ⟨r15, hr, h0⟩ := bnd h0
  refine TL_callB [] (psalteryref09_Back.ok0 hr) psalteryref09_Back.fnb rfl ⟨tv, ⟨tv, ⟨tv, tv⟩⟩⟩ rfl tv rfl ?_
  refine TL_ev env 1 rfl ⟨tv, tv⟩ ?_
  refine TL_end ?_
  refine TE_go ?_
  refine TC_seq ?_
  refine TC_reg ?_
  refine TL_ev env 1 rfl ⟨tv, tv⟩ ?_
  refine TL_end ?_
  refine TE_go ?_
  refine TC_seq ?_
  refine TC_seq ?_
  refine TC_reg ?_
  refine TL_ev env 1 rfl ⟨tv, tv⟩ ?_
  refine TL_end ?_
  refine TE_go ?_
  obtain ⟨z1, h1, h0⟩ := bnd h0
  refine TC_cut (α := (List (Int))) (fun s => z1 = s) (fun s => [(8, .sl 11600)]) (fun s => [(11600, some (.rows (.int .i32) s))]) ?_ ?_
  · refine TC_blk ?_
    refine TC_loop (α := Int × (List (Int))) (fun n s => psalteryref09_Unlap_2.l0 K p0 p2 r15 n s.1 s.2 = some z1) (fun s => [(0, .im (.slice (.int .i64)) p0), (2, .int .i64 p2), (7, .im (.slice (.int .i64)) r15), (8, .sl 12000), (9, .int .i64 s.1)]) (fun s => [(12000, some (.rows (.int .i32) s.2))]) K ?_ ?_
    · refine TE_own 8 7008 (.int .i32) rfl (by decide) rfl rfl ?_
      exact SP_ren [(12000, 7008)] (_, _) h1 ⟨rfl, rfl, rfl, rfl, rfl, tv⟩ ⟨rfl, tv⟩ rfl
    rintro n ⟨x33, x34⟩ h1
    rcases n with _ | n
    · exact (nsome h1).elim
    replace h1 : psalteryref09_Unlap_2.r0 K p0 p2 r15 (psalteryref09_Unlap_2.l0 K p0 p2 r15 n) x33 x34 = some z1 := h1
    refine TC_seq ?_
    refine TC_seq ?_
    refine TC_reg ?_
    refine TL_ev env 3 rfl ⟨tv, ⟨tv, ⟨⟨tv, ⟨tv, tv⟩⟩, tv⟩⟩⟩ ?_
    refine TL_end ?_
    refine TE_go ?_
    refine TC_cond rfl (fun hb => ?_) (fun hb => ?_)
    · replace h1 := bif_t h1 hb
      refine TC_skip ?_
      refine TE_go ?_
      refine TC_seq ?_
      refine TC_blk ?_
      refine TC_seq ?_
      refine TC_reg ?_
      refine TL_ev env 1 rfl ⟨tv, tv⟩ ?_
      refine TL_end ?_
      refine TE_go ?_
      refine TC_seq ?_
      refine TC_seq ?_
      refine TC_reg ?_
      refine TL_ev env 3 rfl ⟨tv, ⟨⟨tv, tv⟩, ⟨⟨tv, ⟨tv, tv⟩⟩, tv⟩⟩⟩ ?_
      refine TL_end ?_
      refine TE_go ?_
      obtain ⟨z2, h2, h1⟩ := bnd h1
      refine TC_cut (α := Int) (fun s => z2 = s) (fun s => [(0, .im (.slice (.int .i64)) p0), (2, .int .i64 p2), (7, .im (.slice (.int .i64)) r15), (8, .sl 12500), (9, .int .i64 x33), (10, .int .i64 s)]) (fun s => [(12500, some (.rows (.int .i32) x34))]) ?_ ?_
      · refine TC_cond rfl (fun hb => ?_) (fun hb => ?_)
        · replace h2 := bif_t h2 hb
          refine TC_reg ?_
          obtain ⟨g, h2⟩ := gd_t h2
          refine TL_ev env 7 rfl ⟨tv, ⟨tv, ⟨tv, ⟨⟨tv, ⟨tv, tv⟩⟩, ⟨⟨tv, ⟨tv, ⟨g.1, g.2⟩⟩⟩, ⟨⟨tv, tv⟩, ⟨tv, tv⟩⟩⟩⟩⟩⟩⟩ ?_
          refine TL_end ?_
          obtain rfl := sinj h2
          refine tsn ?_
          exact SP_ren [(12500, 12000)] _ rfl ⟨rfl, rfl, rfl, rfl, rfl, rfl, tv⟩ ⟨rfl, tv⟩ rfl
        · replace h2 := bif_f h2 hb
          refine TC_skip ?_
          obtain rfl := sinj h2
          refine tsn ?_
          exact SP_ren [(12500, 12000)] _ rfl ⟨rfl, rfl, rfl, rfl, rfl, rfl, tv⟩ ⟨rfl, tv⟩ rfl
      · rintro x45 hz
        obtain rfl := hz.symm
        refine TE_go ?_
        refine TC_reg ?_
        obtain ⟨g, h1⟩ := gd_t h1
        refine TL_ev env 7 rfl ⟨tv, ⟨tv, ⟨tv, ⟨tv, ⟨⟨tv, ⟨tv, ⟨g.1, g.2⟩⟩⟩, ⟨⟨tv, tv⟩, ⟨⟨tv, ⟨tv, tv⟩⟩, tv⟩⟩⟩⟩⟩⟩⟩ ?_
        obtain ⟨r48, hr, h1⟩ := bnd h1
        refine TL_callB [] (psalteryref09_sat.ok0 hr) psalteryref09_sat.fnb rfl ⟨tv, ⟨tv, tv⟩⟩ rfl tv rfl ?_
        obtain ⟨g, h1⟩ := gd_t h1
        refine TL_ev env 4 rfl ⟨tv, ⟨⟨tv, tv⟩, ⟨⟨⟨tv, ⟨tv, tv⟩⟩, g⟩, ⟨tv, tv⟩⟩⟩⟩ ?_
        refine TL_end ?_
        refine tbn ?_
        refine TE_go ?_
        refine TC_reg ?_
        refine TL_ev env 3 rfl ⟨tv, ⟨⟨tv, ⟨tv, tv⟩⟩, ⟨tv, tv⟩⟩⟩ ?_
        refine TL_end ?_
        refine tsn ?_
        exact TE_nextr [(12000, 1038)] n (Nat.lt_succ_self n) (_, _) h1 ⟨rfl, rfl, rfl, rfl, rfl, tv⟩ ⟨rfl, tv⟩ rfl
    · replace h1 := bif_f h1 hb
      refine TC_exit ?_
      refine tsx ?_
      refine tsx ?_
      refine tbe ?_
      obtain rfl := sinj h1
      refine tsn ?_
      exact SP_ren [(11600, 12000)] _ rfl ⟨rfl, tv⟩ ⟨rfl, tv⟩ rfl
  · rintro x28 hz
    obtain rfl := hz.symm
    refine TE_go ?_
    refine TC_seq ?_
    refine TC_reg ?_
    refine TL_ev env 2 rfl ⟨tv, ⟨tv, tv⟩⟩ ?_
    refine TL_end ?_
    refine TE_go ?_
    refine TC_ret ?_
    refine TE_frz 11600 rfl ?_
    obtain rfl := sinj h0
    exact TE_ret env rfl tv tv
theorem psalteryref09_Unlap_2.ok0 {K : Nat} {p0 : List (Int)} {p1 : List (Int)} {p2 : Int} {q0 : List (Int)} (h0 : psalteryref09_Unlap_2 K p0 p1 p2 = some q0) : Fn Try.prog 37 [.im (.slice (.int .i64)) p0, .im (.slice (.int .i32)) p1, .int .i64 p2] [] (.im (.slice (.int .i32)) q0) [] := psalteryref09_Unlap_2.ok h0
theorem psalteryref09_Unlap_2.fnb : fnb Try.prog 37 = true := fnb_of Try.func37 rfl
def psalterylaw09_LappedUnlaps.res (_p0 : Int) (_p1 : List (Int)) : Bool → MV
  | q0 => .bool q0
def psalterylaw09_LappedUnlaps.out (_p0 : Int) (_p1 : List (Int)) : Bool → List (Nat × Option MObj)
  | _ => []
theorem psalterylaw09_LappedUnlaps.ok {K : Nat} {p0 : Int} {p1 : List (Int)} {r : Bool} (h0 : psalterylaw09_LappedUnlaps K p0 p1 = some r) : Fn Try.prog 10 [.int .u8 p0, .im (.slice (.int .i32)) p1] [] (psalterylaw09_LappedUnlaps.res p0 p1 r) (psalterylaw09_LappedUnlaps.out p0 p1 r) := by
  refine Fn_of Try.func10 rfl (Nat.le_of_ble_eq_true rfl) fun Γ => ?_
  refine TC_seq ?_
  refine TC_reg ?_
  refine TL_ev env 1 rfl ⟨tv, tv⟩ ?_
  refine TL_end ?_
  refine TE_go ?_
  refine TC_seq ?_
  refine TC_seq ?_
  refine TC_reg ?_
  obtain ⟨r66, hr, h0⟩ := bnd h0
  refine TL_callB [] (psalterylaw09_alive.ok0 hr) psalterylaw09_alive.fnb rfl ⟨tv, tv⟩ rfl tv rfl ?_
  refine TL_ev env 1 rfl ⟨tv, tv⟩ ?_
  refine TL_end ?_
  refine TE_go ?_
  refine TC_cond rfl (fun hb => ?_) (fun hb => ?_)
  · replace h0 := bif_t h0 hb
    refine TC_seq ?_
    refine TC_reg ?_
    refine TL_ev env 1 rfl ⟨tv, tv⟩ ?_
    refine TL_end ?_
    refine TE_go ?_
    refine TC_ret ?_
    refine tsr ?_
    obtain rfl := sinj h0
    exact TE_ret env rfl tv tv
  · replace h0 := bif_f h0 hb
    refine TC_skip ?_
    refine TE_go ?_
    refine TC_seq ?_
    refine TC_reg ?_
    refine TL_ev env 1 rfl ⟨tv, tv⟩ ?_
    obtain ⟨r67, hr, h0⟩ := bnd h0
    refine TL_callB [] (psalterylaw09_length.ok0 hr) psalterylaw09_length.fnb rfl ⟨tv, ⟨tv, tv⟩⟩ rfl tv rfl ?_
    refine TL_ev env 1 rfl ⟨tv, tv⟩ ?_
    refine TL_end ?_
    refine TE_go ?_
    refine TC_seq ?_
    refine TC_reg ?_
    obtain ⟨⟨⟩, hr, h0⟩ := bnd h0
    refine TL_callB [(1000, 500190)] (bank_New.ok0 hr) bank_New.fnb rfl ⟨tv, tv⟩ rfl tv rfl ?_
    refine TL_ev env 1 rfl ⟨tv, tv⟩ ?_
    obtain ⟨z, hr, h0⟩ := bnd h0
    rcases z with ⟨r68, r69, r70⟩ | ⟨r71, r72, r73, r74, r75, r76⟩
    · refine TL_callB [(0, 500190)] (lapped_NewUnlapper.ok0 hr) lapped_NewUnlapper.fnb rfl ⟨tv, ⟨tv, ⟨tv, tv⟩⟩⟩ rfl ⟨.inr rfl, tv⟩ rfl ?_
      refine TL_ev env 5 rfl ⟨tv, ⟨tv, ⟨tv, ⟨tv, ⟨tv, tv⟩⟩⟩⟩⟩ ?_
      refine TL_end ?_
      refine TE_go ?_
      refine TC_seq ?_
      refine TC_seq ?_
      refine TC_reg ?_
      refine TL_ev env 3 rfl ⟨tv, ⟨⟨tv, ⟨tv, tv⟩⟩, ⟨tv, tv⟩⟩⟩ ?_
      refine TL_gf (.bool false) rfl rfl rfl rfl rfl (by decide) ?_
      refine TL_gf (.bool false) rfl rfl rfl rfl rfl (by decide) ?_
      refine TL_gf (.bool false) rfl rfl rfl rfl rfl (by decide) ?_
      refine TL_ev env 1 rfl ⟨⟨tv, ⟨tv, fun e => e⟩⟩, tv⟩ ?_
      refine TL_end ?_
      refine TE_go ?_
      refine TC_cond rfl (fun hb => ?_) (fun hb => ?_)
      · refine TC_seq ?_
        refine TC_reg ?_
        refine TL_ev env 3 rfl ⟨tv, ⟨⟨tv, ⟨tv, tv⟩⟩, ⟨tv, tv⟩⟩⟩ ?_
        refine TL_end ?_
        refine TE_go ?_
        refine TC_ret ?_
        refine tsr ?_
        obtain rfl := sinj h0
        exact TE_ret env rfl tv tv
      · first | exact (ftf hb).elim | exact (tff hb).elim | exact absurd hb (by decide)
    · refine TL_callB [(0, 500190), (1000, 500210), (1001, 500211)] (lapped_NewUnlapper.ok1 hr) lapped_NewUnlapper.fnb rfl ⟨tv, ⟨tv, ⟨tv, tv⟩⟩⟩ rfl ⟨.inr rfl, tv⟩ rfl ?_
      refine TL_ev env 5 rfl ⟨tv, ⟨tv, ⟨tv, ⟨tv, ⟨tv, tv⟩⟩⟩⟩⟩ ?_
      refine TL_end ?_
      refine TE_go ?_
      refine TC_seq ?_
      refine TC_seq ?_
      refine TC_reg ?_
      refine TL_ev env 3 rfl ⟨tv, ⟨⟨tv, ⟨tv, tv⟩⟩, ⟨tv, tv⟩⟩⟩ ?_
      refine TL_gt rfl rfl rfl rfl ?_
      refine TL_ev env 1 rfl ⟨tv, tv⟩ ?_
      refine TL_gt rfl rfl rfl rfl ?_
      refine TL_ev env 1 rfl ⟨⟨tv, tv⟩, tv⟩ ?_
      refine TL_gt rfl rfl rfl rfl ?_
      refine TL_ev env 2 rfl ⟨⟨tv, ⟨tv, tv⟩⟩, ⟨⟨tv, ⟨tv, tv⟩⟩, tv⟩⟩ ?_
      refine TL_end ?_
      refine TE_go ?_
      refine TC_cond rfl (fun hb => ?_) (fun hb => ?_)
      · replace h0 := bif_t h0 hb
        refine TC_seq ?_
        refine TC_reg ?_
        refine TL_ev env 3 rfl ⟨tv, ⟨⟨tv, ⟨tv, tv⟩⟩, ⟨tv, tv⟩⟩⟩ ?_
        refine TL_end ?_
        refine TE_go ?_
        refine TC_ret ?_
        refine tsr ?_
        obtain rfl := sinj h0
        exact TE_ret env rfl tv tv
      · replace h0 := bif_f h0 hb
        refine TC_skip ?_
        refine TE_go ?_
        refine TC_seq ?_
        refine TC_reg ?_
        refine TL_ev env 1 rfl ⟨tv, tv⟩ ?_
        refine TL_end ?_
        refine TE_go ?_
        refine TC_seq ?_
        refine TC_seq ?_
        refine TC_reg ?_
        refine TL_ev env 1 rfl ⟨tv, tv⟩ ?_
        refine TL_end ?_
        refine TE_go ?_
        obtain ⟨z1, h1, h0⟩ := bnd h0
        refine TC_cut (α := Unit) (fun _ => z1 = .inl ()) (fun _ => []) (fun _ => []) ?_ ?_
        · refine TC_blk ?_
          refine TC_loop (α := (List (Int)) × Int × (List (Int))) (fun n s => psalterylaw09_LappedUnlaps.l0 K p1 r67 r74 r75 n s.1 s.2.1 s.2.2 = some z1) (fun s => [(1, .im (.slice (.int .i32)) p1), (5, .int .i64 r67), (6, .p 15000 0), (8, .im (.slice (.int .i64)) s.1), (9, .int .i64 s.2.1)]) (fun s => [(15000, some (.cells [.int .i64 r67, .im (.slice (.int .i16)) r74, .im (.slice (.int .i16)) r75, .sl 15001])), (15001, some (.rows (.int .i32) s.2.2))]) K ?_ ?_
          · refine TE_imn 8 (.int .i64) rfl ?_
            exact SP_ren [(15000, 500210), (15001, 500211)] (_, _, _) h1 ⟨rfl, rfl, rfl, rfl, rfl, tv⟩ ⟨rfl, rfl, tv⟩ rfl
          rintro n ⟨x156, x157, x158⟩ h1
          rcases n with _ | n
          · exact (nsome h1).elim
          replace h1 : psalterylaw09_LappedUnlaps.r0 K p1 r67 r74 r75 (psalterylaw09_LappedUnlaps.l0 K p1 r67 r74 r75 n) x156 x157 x158 = some z1 := h1
          refine TC_seq ?_
          refine TC_seq ?_
          refine TC_reg ?_
          refine TL_ev env 4 rfl ⟨tv, ⟨tv, ⟨⟨tv, tv⟩, ⟨⟨tv, ⟨tv, tv⟩⟩, tv⟩⟩⟩⟩ ?_
          refine TL_end ?_
          refine TE_go ?_
          refine TC_cond rfl (fun hb => ?_) (fun hb => ?_)
          · replace h1 := bif_t h1 hb
            refine TC_skip ?_
            refine TE_go ?_
            refine TC_seq ?_
            refine TC_blk ?_
            refine TC_seq ?_
            refine TC_reg ?_
            obtain ⟨g, h1⟩ := gd_t h1
            refine TL_ev env 3 rfl ⟨tv, ⟨⟨tv, ⟨tv, ⟨g.1, ⟨g.2.1, g.2.2⟩⟩⟩⟩, ⟨tv, tv⟩⟩⟩ ?_
            refine TL_end ?_
            refine TE_go ?_
            refine TC_seq ?_
            refine TC_seq ?_
            refine TC_reg ?_
            refine TL_ev env 1 rfl ⟨tv, tv⟩ ?_
            refine TL_end ?_
            refine TE_go ?_
            obtain ⟨z2, h2, h1⟩ := bnd h1
            refine TC_cut (α := (List (Int))) (fun s => z2 = s) (fun s => [(1, .im (.slice (.int .i32)) p1), (5, .int .i64 r67), (6, .p 16700 0), (8, .im (.slice (.int .i64)) x156), (9, .int .i64 x157), (10, .sl 16701)]) (fun s => [(16700, some (.cells [.int .i64 r67, .im (.slice (.int .i16)) r74, .im (.slice (.int .i16)) r75, .sl 16702])), (16701, some (.rows (.int .i32) s)), (16702, some (.rows (.int .i32) x158))]) ?_ ?_
            · refine TC_blk ?_
              refine TC_loop (α := Int × (List (Int))) (fun n s => psalterylaw09_LappedUnlaps.l1 K p1 r67 x156 x157 r74 r75 x158 n s.1 s.2 = some z2) (fun s => [(1, .im (.slice (.int .i32)) p1), (5, .int .i64 r67), (6, .p 16900 0), (8, .im (.slice (.int .i64)) x156), (9, .int .i64 x157), (10, .sl 16901), (11, .int .i64 s.1)]) (fun s => [(16900, some (.cells [.int .i64 r67, .im (.slice (.int .i16)) r74, .im (.slice (.int .i16)) r75, .sl 16902])), (16901, some (.rows (.int .i32) s.2)), (16902, some (.rows (.int .i32) x158))]) K ?_ ?_
              · exact SP_ren [(16900, 15000), (16901, 1041), (16902, 15001)] (_, _) h2 ⟨rfl, rfl, rfl, rfl, rfl, rfl, rfl, tv⟩ ⟨rfl, rfl, rfl, tv⟩ rfl
              rintro n ⟨x213, x214⟩ h2
              rcases n with _ | n
              · exact (nsome h2).elim
              replace h2 : psalterylaw09_LappedUnlaps.r1 K p1 r67 x156 x157 r74 r75 x158 (psalterylaw09_LappedUnlaps.l1 K p1 r67 x156 x157 r74 r75 x158 n) x213 x214 = some z2 := h2
              refine TC_seq ?_
              refine TC_seq ?_
              refine TC_reg ?_
              refine TL_ev env 11 rfl ⟨tv, ⟨tv, ⟨⟨tv, ⟨tv, tv⟩⟩, ⟨tv, ⟨fun eg => tv, ⟨fun eg => tv, ⟨fun eg => ⟨fun e => e, ⟨fun e => e, tv⟩⟩, ⟨fun eg => tv, ⟨fun eg => ⟨fun e => e, tv⟩, ⟨fun eg => ⟨fun e => e, ⟨fun e => e, tv⟩⟩, ⟨⟨tv, ⟨fun e => e, tv⟩⟩, tv⟩⟩⟩⟩⟩⟩⟩⟩⟩⟩⟩ ?_
              refine TL_end ?_
              refine TE_go ?_
              refine TC_cond rfl (fun hb => ?_) (fun hb => ?_)
              · replace h2 := bif_t h2 hb
                refine TC_skip ?_
                refine TE_go ?_
                refine TC_seq ?_
                refine TC_blk ?_
                refine TC_reg ?_
                obtain ⟨g, h2⟩ := gd_t h2
                refine TL_ev env 10 rfl ⟨tv, ⟨tv, ⟨tv, ⟨tv, ⟨tv, ⟨⟨tv, ⟨tv, tv⟩⟩, ⟨⟨tv, ⟨tv, ⟨g.1, g.2.1⟩⟩⟩, ⟨⟨tv, tv⟩, ⟨⟨tv, ⟨tv, ⟨g.2.2.1, g.2.2.2.1⟩⟩⟩, ⟨⟨tv, ⟨tv, g.2.2.2.2⟩⟩, tv⟩⟩⟩⟩⟩⟩⟩⟩⟩⟩ ?_
                refine TL_end ?_
                refine tbn ?_
                refine TE_go ?_
                refine TC_reg ?_
                refine TL_ev env 3 rfl ⟨tv, ⟨⟨tv, ⟨tv, tv⟩⟩, ⟨tv, tv⟩⟩⟩ ?_
                refine TL_end ?_
                refine tsn ?_
                exact TE_nextr [(16900, 16900), (16901, 16901), (16902, 16902)] n (Nat.lt_succ_self n) (_, _) h2 ⟨rfl, rfl, rfl, rfl, rfl, rfl, rfl, tv⟩ ⟨rfl, rfl, rfl, tv⟩ rfl
              · replace h2 := bif_f h2 hb
                refine TC_exit ?_
                refine tsx ?_
                refine tsx ?_
                refine tbe ?_
                obtain rfl := sinj h2
                refine tsn ?_
                exact SP_ren [(16700, 16900), (16701, 16901), (16702, 16902)] _ rfl ⟨rfl, rfl, rfl, rfl, rfl, rfl, tv⟩ ⟨rfl, rfl, rfl, tv⟩ rfl
            · rintro x204 hz
              obtain rfl := hz.symm
              refine TE_go ?_
              refine TC_seq ?_
              refine TC_reg ?_
              refine TL_ev env 2 rfl ⟨tv, ⟨tv, tv⟩⟩ ?_
              refine TL_frz 16701 rfl ?_
              obtain ⟨z, hr, h1⟩ := bnd h1
              rcases z with ⟨⟩ | ⟨r205, r206⟩
              · refine TL_callB [(0, 16700), (1, 16702)] (lapped_Unlapper_Feed.ok0 hr) lapped_Unlapper_Feed.fnb rfl ⟨tv, ⟨tv, ⟨tv, tv⟩⟩⟩ rfl ⟨.inr rfl, .inr rfl, tv⟩ rfl ?_
                refine TL_ev env 5 rfl ⟨tv, ⟨tv, ⟨tv, ⟨tv, ⟨tv, tv⟩⟩⟩⟩⟩ ?_
                refine TL_end ?_
                refine TE_go ?_
                refine TC_seq ?_
                refine TC_seq ?_
                refine TC_reg ?_
                refine TL_ev env 3 rfl ⟨tv, ⟨⟨tv, ⟨tv, tv⟩⟩, ⟨tv, tv⟩⟩⟩ ?_
                refine TL_gf (.bool false) rfl rfl rfl rfl rfl (by decide) ?_
                refine TL_gf (.bool false) rfl rfl rfl rfl rfl (by decide) ?_
                refine TL_gf (.bool false) rfl rfl rfl rfl rfl (by decide) ?_
                refine TL_gf (.bool false) rfl rfl rfl rfl rfl (by decide) ?_
                refine TL_gf (.bool false) rfl rfl rfl rfl rfl (by decide) ?_
                refine TL_gf (.bool false) rfl rfl rfl rfl rfl (by decide) ?_
                refine TL_gf (.bool false) rfl rfl rfl rfl rfl (by decide) ?_
                refine TL_ev env 1 rfl ⟨⟨tv, ⟨tv, fun e => e⟩⟩, tv⟩ ?_
                refine TL_end ?_
                refine TE_go ?_
                refine TC_cond rfl (fun hb => ?_) (fun hb => ?_)
                · refine TC_seq ?_
                  refine TC_reg ?_
                  refine TL_ev env 1 rfl ⟨tv, tv⟩ ?_
                  refine TL_end ?_
                  refine TE_go ?_
                  refine TC_ret ?_
                  refine tsr ?_
                  refine tbr ?_
                  refine tsr ?_
                  refine tsr ?_
                  refine tbr ?_
                  refine tsr ?_
                  refine tsr ?_
                  obtain rfl := sinj h1
                  obtain rfl := sinj h0
                  exact TE_ret env rfl tv tv
                · first | exact (ftf hb).elim | exact (tff hb).elim | exact absurd hb (by decide)
              · refine TL_callB [(0, 16700), (1, 16702)] (lapped_Unlapper_Feed.ok1 hr) lapped_Unlapper_Feed.fnb rfl ⟨tv, ⟨tv, ⟨tv, tv⟩⟩⟩ rfl ⟨.inr rfl, .inr rfl, tv⟩ rfl ?_
                refine TL_ev env 5 rfl ⟨tv, ⟨tv, ⟨tv, ⟨tv, ⟨tv, tv⟩⟩⟩⟩⟩ ?_
                refine TL_end ?_
                refine TE_go ?_
                refine TC_seq ?_
                refine TC_seq ?_
                refine TC_reg ?_
                refine TL_ev env 3 rfl ⟨tv, ⟨⟨tv, ⟨tv, tv⟩⟩, ⟨tv, tv⟩⟩⟩ ?_
                refine TL_gt rfl rfl rfl rfl ?_
                refine TL_ev env 1 rfl ⟨tv, tv⟩ ?_
                refine TL_gt rfl rfl rfl rfl ?_
                refine TL_ev env 1 rfl ⟨tv, tv⟩ ?_
                refine TL_gt rfl rfl rfl rfl ?_
                refine TL_ev env 1 rfl ⟨tv, tv⟩ ?_
                refine TL_gt rfl rfl rfl rfl ?_
                refine TL_ev env 1 rfl ⟨tv, tv⟩ ?_
                refine TL_gt rfl rfl rfl rfl ?_
                obtain ⟨r209, hr, h1⟩ := bnd h1
                refine TL_callB [] (psalteryref09_Unlap_2.ok0 hr) psalteryref09_Unlap_2.fnb rfl ⟨tv, ⟨tv, ⟨tv, ⟨tv, tv⟩⟩⟩⟩ rfl tv rfl ?_
                refine TL_gt rfl rfl rfl rfl ?_
                obtain ⟨r210, hr, h1⟩ := bnd h1
                refine TL_callB [] (psalteryref08_Same32.ok0 hr) psalteryref08_Same32.fnb rfl ⟨tv, ⟨tv, ⟨tv, tv⟩⟩⟩ rfl tv rfl ?_
                refine TL_gt rfl rfl rfl rfl ?_
                refine TL_ev env 2 rfl ⟨tv, ⟨⟨tv, ⟨tv, tv⟩⟩, tv⟩⟩ ?_
                refine TL_end ?_
                refine TE_go ?_
                refine TC_cond rfl (fun hb => ?_) (fun hb => ?_)
                · replace h1 := bif_t h1 hb
                  refine TC_seq ?_
                  refine TC_reg ?_
                  refine TL_ev env 1 rfl ⟨tv, tv⟩ ?_
                  refine TL_end ?_
                  refine TE_go ?_
                  refine TC_ret ?_
                  refine tsr ?_
                  refine tbr ?_
                  refine tsr ?_
                  refine tsr ?_
                  refine tbr ?_
                  refine tsr ?_
                  refine tsr ?_
                  obtain rfl := sinj h1
                  obtain rfl := sinj h0
                  exact TE_ret env rfl tv tv
                · replace h1 := bif_f h1 hb
                  refine TC_skip ?_
                  refine TE_go ?_
                  refine TC_reg ?_
                  refine TL_ev env 2 rfl ⟨tv, ⟨tv, tv⟩⟩ ?_
                  obtain ⟨r211, hr, h1⟩ := bnd h1
                  refine TL_callB [] (psalteryref09_Back.ok0 hr) psalteryref09_Back.fnb rfl ⟨tv, ⟨tv, ⟨tv, tv⟩⟩⟩ rfl tv rfl ?_
                  refine TL_ev env 1 rfl ⟨tv, tv⟩ ?_
                  refine TL_end ?_
                  refine tbn ?_
                  refine TE_go ?_
                  refine TC_reg ?_
                  refine TL_ev env 4 rfl ⟨tv, ⟨tv, ⟨⟨tv, ⟨tv, tv⟩⟩, ⟨tv, tv⟩⟩⟩⟩ ?_
                  refine TL_end ?_
                  refine tsn ?_
                  exact TE_nextr [(15000, 16700), (15001, 16702)] n (Nat.lt_succ_self n) (_, _, _) h1 ⟨rfl, rfl, rfl, rfl, rfl, tv⟩ ⟨rfl, rfl, tv⟩ rfl
          · replace h1 := bif_f h1 hb
            refine TC_exit ?_
            refine tsx ?_
            refine tsx ?_
            refine tbe ?_
            obtain rfl := sinj h1
            refine tsn ?_
            exact SP_ren [] () rfl tv tv rfl
        · rintro ⟨⟩ rfl
          refine TE_go ?_
          refine TC_seq ?_
          refine TC_reg ?_
          refine TL_ev env 1 rfl ⟨tv, tv⟩ ?_
          refine TL_end ?_
          refine TE_go ?_
          refine TC_ret ?_
          obtain rfl := sinj h0
          exact TE_ret env rfl tv tv
theorem psalterylaw09_LappedUnlaps.ok0 {K : Nat} {p0 : Int} {p1 : List (Int)} {q0 : Bool} (h0 : psalterylaw09_LappedUnlaps K p0 p1 = some q0) : Fn Try.prog 10 [.int .u8 p0, .im (.slice (.int .i32)) p1] [] (.bool q0) [] := psalterylaw09_LappedUnlaps.ok h0
theorem psalterylaw09_LappedUnlaps.fnb : fnb Try.prog 10 = true := fnb_of Try.func10 rfl
end Go.Fo
