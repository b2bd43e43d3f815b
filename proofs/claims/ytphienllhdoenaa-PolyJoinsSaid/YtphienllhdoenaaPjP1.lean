/- Each call comes to the function that is written for it. -/
import Derived.Test.YtphienllhdoenaaPjT
import Derived.Test.YtphienllhdoenaaPjF
import Derived.Test.YtphienllhdoenaaBx
import Derived.Test.YtphienllhdoenaaPjP0
namespace Go.Fo
open Go.Proofs
set_option maxRecDepth 20000
set_option maxHeartbeats 4000000
def psalteryref08_Join.res (_p0 : List (List (Int))) (_p1 : Int) : (Unit) ⊕ ((List (Int))) → MV
  | .inl () => .nils
  | .inr q0 => .im (.slice (.int .i16)) q0
def psalteryref08_Join.out (_p0 : List (List (Int))) (_p1 : Int) : (Unit) ⊕ ((List (Int))) → List (Nat × Option MObj)
  | .inl () => []
  | .inr _ => []
theorem psalteryref08_Join.ok {K : Nat} {p0 : List (List (Int))} {p1 : Int} {r : (Unit) ⊕ ((List (Int)))} (h0 : psalteryref08_Join K p0 p1 = some r) : Fn Try.prog 23 [.im (.slice (.slice (.int .i32))) p0, .int .i64 p1] [] (psalteryref08_Join.res p0 p1 r) (psalteryref08_Join.out p0 p1 r) := by
  refine Fn_of Try.func23 rfl (Nat.le_of_ble_eq_true rfl) fun Γ => ?_
  refine TC_seq ?_
  refine TC_reg ?_
  refine TL_ev env 1 rfl ⟨trivial, trivial⟩ ?_
  refine TL_end ?_
  refine TE_go ?_
  refine TC_seq ?_
  refine TC_reg ?_
  refine TL_ev env 1 rfl ⟨trivial, trivial⟩ ?_
  refine TL_end ?_
  refine TE_go ?_
  refine TC_seq ?_
  refine TC_seq ?_
  refine TC_reg ?_
  refine TL_ev env 4 rfl ⟨trivial, ⟨⟨trivial, trivial⟩, ⟨⟨trivial, ⟨trivial, trivial⟩⟩, ⟨trivial, trivial⟩⟩⟩⟩ ?_
  refine TL_end ?_
  refine TE_go ?_
  obtain ⟨z1, h1, h0⟩ := bnd h0
  refine TC_cut (α := (List (Int))) (fun s => z1 = s) (fun s => [(1, .int .i64 p1), (5, .sl 31500)]) (fun s => [(31500, some (.rows (.int .i64) s))]) ?_ ?_
  · refine TC_blk ?_
    refine TC_loop (α := Int × (List (Int))) (fun n s => psalteryref08_Join.l5 K p0 p1 n s.1 s.2 = some z1) (fun s => [(0, .im (.slice (.slice (.int .i32))) p0), (1, .int .i64 p1), (5, .sl 47900), (6, .int .i64 s.1)]) (fun s => [(47900, some (.rows (.int .i64) s.2))]) K ?_ ?_
    · refine TE_own 5 7005 (.int .i64) rfl (by decide) rfl rfl ?_
      exact SP_ren [(47900, 7005)] (_, _) h1 ⟨rfl, rfl, rfl, rfl, trivial⟩ ⟨rfl, trivial⟩ rfl
    rintro n ⟨x692, x693⟩ h1
    rcases n with _ | n
    · exact (nsome h1).elim
    replace h1 : psalteryref08_Join.r5 K p0 p1 (psalteryref08_Join.l5 K p0 p1 n) x692 x693 = some z1 := h1
    refine TC_seq ?_
    refine TC_seq ?_
    refine TC_reg ?_
    refine TL_ev env 9 rfl ⟨trivial, ⟨⟨trivial, ⟨trivial, trivial⟩⟩, ⟨trivial, ⟨fun eg => trivial, ⟨fun eg => ⟨fun e => e, trivial⟩, ⟨fun eg => trivial, ⟨fun eg => ⟨trivial, ⟨fun e => e, trivial⟩⟩, ⟨fun eg => ⟨fun e => e, ⟨fun e => e, trivial⟩⟩, ⟨⟨trivial, ⟨fun e => e, trivial⟩⟩, trivial⟩⟩⟩⟩⟩⟩⟩⟩⟩ ?_
    refine TL_end ?_
    refine TE_go ?_
    refine TC_cond rfl (fun hb => ?_) (fun hb => ?_)
    · replace h1 := bif_t h1 hb
      refine TC_skip ?_
      refine TE_go ?_
      refine TC_seq ?_
      refine TC_blk ?_
      refine TC_seq ?_
      refine TC_reg ?_
      refine TL_ev env 1 rfl ⟨trivial, trivial⟩ ?_
      refine TL_end ?_
      refine TE_go ?_
      obtain ⟨z2, h2, h1⟩ := bnd h1
      refine TC_cut (α := (List (Int))) (fun s => z2 = s) (fun s => [(0, .im (.slice (.slice (.int .i32))) p0), (1, .int .i64 p1), (5, .sl 56000), (6, .int .i64 x692)]) (fun s => [(56000, some (.rows (.int .i64) s))]) ?_ ?_
      · refine TC_blk ?_
        refine TC_loop (α := Int × (List (Int))) (fun n s => psalteryref08_Join.l6 K p0 p1 x692 n s.1 s.2 = some z2) (fun s => [(0, .im (.slice (.slice (.int .i32))) p0), (1, .int .i64 p1), (5, .sl 57000), (6, .int .i64 x692), (7, .int .i64 s.1)]) (fun s => [(57000, some (.rows (.int .i64) s.2))]) K ?_ ?_
        · exact SP_ren [(57000, 47900)] (_, _) h2 ⟨rfl, rfl, rfl, rfl, rfl, trivial⟩ ⟨rfl, trivial⟩ rfl
        rintro n ⟨x901, x902⟩ h2
        rcases n with _ | n
        · exact (nsome h2).elim
        replace h2 : psalteryref08_Join.r6 K p0 p1 x692 (psalteryref08_Join.l6 K p0 p1 x692 n) x901 x902 = some z2 := h2
        refine TC_seq ?_
        refine TC_seq ?_
        refine TC_reg ?_
        refine TL_ev env 4 rfl ⟨trivial, ⟨trivial, ⟨⟨trivial, ⟨trivial, trivial⟩⟩, ⟨⟨trivial, ⟨trivial, trivial⟩⟩, trivial⟩⟩⟩⟩ ?_
        refine TL_end ?_
        refine TE_go ?_
        refine TC_cond rfl (fun hb => ?_) (fun hb => ?_)
        · replace h2 := bif_t h2 hb
          refine TC_skip ?_
          refine TE_go ?_
          refine TC_seq ?_
          refine TC_blk ?_
          refine TC_seq ?_
          refine TC_reg ?_
          refine TL_ev env 1 rfl ⟨trivial, trivial⟩ ?_
          refine TL_end ?_
          refine TE_go ?_
          refine TC_seq ?_
          refine TC_seq ?_
          refine TC_reg ?_
          refine TL_ev env 1 rfl ⟨trivial, trivial⟩ ?_
          refine TL_end ?_
          refine TE_go ?_
          obtain ⟨z3, h3, h2⟩ := bnd h2
          refine TC_cut (α := Int) (fun s => z3 = s) (fun s => [(0, .im (.slice (.slice (.int .i32))) p0), (1, .int .i64 p1), (5, .sl 58700), (6, .int .i64 x692), (7, .int .i64 x901), (8, .int .i64 s)]) (fun s => [(58700, some (.rows (.int .i64) x902))]) ?_ ?_
          · refine TC_blk ?_
            refine TC_loop (α := Int × Int) (fun n s => psalteryref08_Join.l7 K p0 p1 x692 x901 x902 n s.1 s.2 = some z3) (fun s => [(0, .im (.slice (.slice (.int .i32))) p0), (1, .int .i64 p1), (5, .sl 58900), (6, .int .i64 x692), (7, .int .i64 x901), (8, .int .i64 s.1), (9, .int .i64 s.2)]) (fun s => [(58900, some (.rows (.int .i64) x902))]) K ?_ ?_
            · exact SP_ren [(58900, 57000)] (_, _) h3 ⟨rfl, rfl, rfl, rfl, rfl, rfl, rfl, trivial⟩ ⟨rfl, trivial⟩ rfl
            rintro n ⟨x951, x952⟩ h3
            rcases n with _ | n
            · exact (nsome h3).elim
            replace h3 : psalteryref08_Join.r7 K p0 p1 x692 x901 x902 (psalteryref08_Join.l7 K p0 p1 x692 x901 x902 n) x951 x952 = some z3 := h3
            refine TC_seq ?_
            refine TC_seq ?_
            refine TC_reg ?_
            refine TL_ev env 3 rfl ⟨trivial, ⟨trivial, ⟨⟨trivial, ⟨trivial, trivial⟩⟩, trivial⟩⟩⟩ ?_
            refine TL_end ?_
            refine TE_go ?_
            refine TC_cond rfl (fun hb => ?_) (fun hb => ?_)
            · replace h3 := bif_t h3 hb
              refine TC_skip ?_
              refine TE_go ?_
              refine TC_seq ?_
              refine TC_blk ?_
              refine TC_renw (A' := [(0, .im (.slice (.slice (.int .i32))) _), (1, .int .i64 _), (5, .sl 58900), (6, .int .i64 _), (7, .int .i64 _), (8, .int .i64 _), (9, .int .i64 _)]) (L' := [(58900, some (.rows (.int .i64) _))]) [] ⟨rfl, rfl, rfl, rfl, rfl, rfl, rfl, trivial⟩ ⟨rfl, trivial⟩ rfl ?_
              refine TC_drawR ⟨_, fun i => ([[], [], [], [2, 1], [3, 2, 1], [], [5, 4, 3, 2, 1], [6, 5, 4, 3, 2, 1], [7, 6, 5, 4, 3, 2, 1], [], [9], [10, 9], [], [12], [], [14, 13, 12], [], [16, 15, 14, 13, 12, 11, 10, 9], [17, 16, 15, 14, 13, 12, 11, 10, 9, 8, 7, 6, 5, 4, 3, 2, 1], [18, 17, 16, 15, 14, 13, 12, 11, 10, 9, 8, 7, 6, 5, 4, 3, 2, 1, 0], [19, 18, 17, 16, 15, 14, 13, 12, 11, 10, 9, 8, 7, 6, 5, 4, 3, 2, 1, 0]] : List (List Nat)).getD i [], fun i => ([[], [], [], [], [], [], [], [], [], [], [], [], [], [], [], [], [], [], [], [], []] : List (List Nat)).getD i [], fun i => ([[], [], [], [], [], [], [], [], [], [], [], [], [], [], [], [], [], [], [], [], []] : List (List Nat)).getD i []⟩ (fun i => ([[], [], [], [], [], [], [], [], [], [], [], [], [], [], [], [], [], [], [], [], []] : List (List Nat)).getD i []) (by kernel_rfl) (by kernel_rfl) ?_
              refine AJR_ev env 1 rfl (Nat.le_of_ble_eq_true rfl) rfl trivial ?_
              refine AJR_ev env 2 rfl (Nat.le_of_ble_eq_true rfl) rfl trivial ?_
              refine AJR_ev env 3 rfl (Nat.le_of_ble_eq_true rfl) rfl trivial ?_
              obtain ⟨g, h3⟩ := gd_t h3
              refine AJR_ev env 4 rfl (Nat.le_of_ble_eq_true rfl) rfl ⟨trivial, ⟨trivial, ⟨g.1, g.2⟩⟩⟩ ?_
              refine AJR_ev env 5 rfl (Nat.le_of_ble_eq_true rfl) rfl ⟨trivial, trivial⟩ ?_
              refine AJR_ev env 6 rfl (Nat.le_of_ble_eq_true rfl) rfl trivial ?_
              obtain ⟨g, h3⟩ := gd_t h3
              refine AJR_ev env 7 rfl (Nat.le_of_ble_eq_true rfl) rfl ⟨trivial, ⟨trivial, ⟨g.1, g.2⟩⟩⟩ ?_
              refine AJR_ev env 8 rfl (Nat.le_of_ble_eq_true rfl) rfl ⟨trivial, trivial⟩ ?_
              refine AJR_ev env 9 rfl (Nat.le_of_ble_eq_true rfl) rfl trivial ?_
              refine AJR_ev env 10 rfl (Nat.le_of_ble_eq_true rfl) rfl trivial ?_
              refine AJR_ev env 11 rfl (Nat.le_of_ble_eq_true rfl) rfl ⟨trivial, ⟨trivial, trivial⟩⟩ ?_
              refine AJR_ev env 12 rfl (Nat.le_of_ble_eq_true rfl) rfl ⟨trivial, ⟨trivial, trivial⟩⟩ ?_
              refine AJR_ev env 13 rfl (Nat.le_of_ble_eq_true rfl) rfl trivial ?_
              refine AJR_ev env 14 rfl (Nat.le_of_ble_eq_true rfl) rfl ⟨trivial, ⟨trivial, trivial⟩⟩ ?_
              refine AJR_ev env 15 rfl (Nat.le_of_ble_eq_true rfl) rfl trivial ?_
              refine AJR_ev env 16 rfl (Nat.le_of_ble_eq_true rfl) rfl ⟨trivial, ⟨trivial, trivial⟩⟩ ?_
              refine AJR_ev env 17 rfl (Nat.le_of_ble_eq_true rfl) rfl trivial ?_
              obtain ⟨r966, hr, h3⟩ := bnd h3
              refine AJR_call 18 rfl (Nat.le_of_ble_eq_true rfl) [] rfl (psalteryref08_wave.ok0 hr) psalteryref08_wave.fnb rfl ⟨trivial, ⟨trivial, ⟨trivial, ⟨trivial, trivial⟩⟩⟩⟩ rfl trivial rfl ?_
              refine AJR_ev env 19 rfl (Nat.le_of_ble_eq_true rfl) rfl ⟨trivial, ⟨trivial, trivial⟩⟩ ?_
              refine AJR_ev env 20 rfl (Nat.le_of_ble_eq_true rfl) rfl ⟨trivial, ⟨trivial, trivial⟩⟩ ?_
              refine AJR_ev env 21 rfl (Nat.le_of_ble_eq_true rfl) rfl trivial ?_
              refine AJR_end rfl rfl rfl ?_
              refine tbn ?_
              refine TE_go ?_
              refine TC_reg ?_
              refine TL_ev env 3 rfl ⟨trivial, ⟨⟨trivial, ⟨trivial, trivial⟩⟩, ⟨trivial, trivial⟩⟩⟩ ?_
              refine TL_end ?_
              refine tsn ?_
              exact TE_nextr [(58900, 58900)] n (Nat.lt_succ_self n) (_, _) h3 ⟨rfl, rfl, rfl, rfl, rfl, rfl, rfl, trivial⟩ ⟨rfl, trivial⟩ rfl
            · replace h3 := bif_f h3 hb
              refine TC_exit ?_
              refine tsx ?_
              refine tsx ?_
              refine tbe ?_
              obtain rfl := sinj h3
              refine tsn ?_
              exact SP_ren [(58700, 58900)] _ rfl ⟨rfl, rfl, rfl, rfl, rfl, rfl, trivial⟩ ⟨rfl, trivial⟩ rfl
          · rintro x945 hz
            obtain rfl := hz.symm
            refine TE_go ?_
            refine TC_reg ?_
            refine TL_ev env 2 rfl ⟨trivial, ⟨trivial, trivial⟩⟩ ?_
            obtain ⟨r946, hr, h2⟩ := bnd h2
            refine TL_callB [] (psalteryref08_round.ok0 hr) psalteryref08_round.fnb rfl ⟨trivial, ⟨trivial, ⟨trivial, trivial⟩⟩⟩ rfl trivial rfl ?_
            obtain ⟨g, h2⟩ := gd_t h2
            refine TL_ev env 3 rfl ⟨⟨trivial, trivial⟩, ⟨⟨⟨trivial, ⟨trivial, trivial⟩⟩, g⟩, ⟨trivial, trivial⟩⟩⟩ ?_
            refine TL_end ?_
            refine tbn ?_
            refine TE_go ?_
            refine TC_reg ?_
            refine TL_ev env 3 rfl ⟨trivial, ⟨⟨trivial, ⟨trivial, trivial⟩⟩, ⟨trivial, trivial⟩⟩⟩ ?_
            refine TL_end ?_
            refine tsn ?_
            exact TE_nextr [(57000, 1065)] n (Nat.lt_succ_self n) (_, _) h2 ⟨rfl, rfl, rfl, rfl, rfl, trivial⟩ ⟨rfl, trivial⟩ rfl
        · replace h2 := bif_f h2 hb
          refine TC_exit ?_
          refine tsx ?_
          refine tsx ?_
          refine tbe ?_
          obtain rfl := sinj h2
          refine tsn ?_
          exact SP_ren [(56000, 57000)] _ rfl ⟨rfl, rfl, rfl, rfl, trivial⟩ ⟨rfl, trivial⟩ rfl
      · rintro x879 hz
        obtain rfl := hz.symm
        refine tbn ?_
        refine TE_go ?_
        refine TC_reg ?_
        refine TL_ev env 3 rfl ⟨trivial, ⟨⟨trivial, ⟨trivial, trivial⟩⟩, ⟨trivial, trivial⟩⟩⟩ ?_
        refine TL_end ?_
        refine tsn ?_
        exact TE_nextr [(47900, 56000)] n (Nat.lt_succ_self n) (_, _) h1 ⟨rfl, rfl, rfl, rfl, trivial⟩ ⟨rfl, trivial⟩ rfl
    · replace h1 := bif_f h1 hb
      refine TC_exit ?_
      refine tsx ?_
      refine tsx ?_
      refine tbe ?_
      obtain rfl := sinj h1
      refine tsn ?_
      exact SP_ren [(31500, 47900)] _ rfl ⟨rfl, rfl, trivial⟩ ⟨rfl, trivial⟩ rfl
  · rintro x424 hz
    obtain rfl := hz.symm
    refine TE_go ?_
    refine TC_seq ?_
    obtain ⟨z1, h1, h0⟩ := bnd h0
    refine TC_cut (α := (List (Int))) (fun s => z1 = s) (fun s => [(1, .int .i64 p1), (5, .sl 31900)]) (fun s => [(31900, some (.rows (.int .i64) s))]) ?_ ?_
    · refine TC_blk ?_
      refine TC_loop (α := (List (Int))) (fun n s => psalteryref08_Join.l4 K p1 n s = some z1) (fun s => [(1, .int .i64 p1), (5, .sl 43600)]) (fun s => [(43600, some (.rows (.int .i64) s))]) K ?_ ?_
      · exact SP_ren [(43600, 31500)] _ h1 ⟨rfl, rfl, trivial⟩ ⟨rfl, trivial⟩ rfl
      rintro n x598 h1
      rcases n with _ | n
      · exact (nsome h1).elim
      replace h1 : psalteryref08_Join.r4 K p1 (psalteryref08_Join.l4 K p1 n) x598 = some z1 := h1
      refine TC_seq ?_
      refine TC_seq ?_
      refine TC_reg ?_
      refine TL_ev env 5 rfl ⟨trivial, ⟨⟨trivial, trivial⟩, ⟨trivial, ⟨⟨trivial, ⟨trivial, trivial⟩⟩, ⟨⟨trivial, ⟨trivial, trivial⟩⟩, trivial⟩⟩⟩⟩⟩ ?_
      refine TL_end ?_
      refine TE_go ?_
      refine TC_cond rfl (fun hb => ?_) (fun hb => ?_)
      · replace h1 := bif_t h1 hb
        refine TC_skip ?_
        refine TE_go ?_
        refine TC_blk ?_
        refine TC_reg ?_
        obtain ⟨g, h1⟩ := gd_t h1
        refine TL_ev env 4 rfl ⟨trivial, ⟨⟨trivial, trivial⟩, ⟨⟨⟨trivial, ⟨trivial, trivial⟩⟩, g⟩, ⟨trivial, trivial⟩⟩⟩⟩ ?_
        refine TL_end ?_
        refine tbn ?_
        refine tsn ?_
        exact TE_nextr [(43600, 1073)] n (Nat.lt_succ_self n) _ h1 ⟨rfl, rfl, trivial⟩ ⟨rfl, trivial⟩ rfl
      · replace h1 := bif_f h1 hb
        refine TC_exit ?_
        refine tsx ?_
        refine tsx ?_
        refine tbe ?_
        obtain rfl := sinj h1
        refine tsn ?_
        exact SP_ren [(31900, 43600)] _ rfl ⟨rfl, rfl, trivial⟩ ⟨rfl, trivial⟩ rfl
    · rintro x427 hz
      obtain rfl := hz.symm
      refine TE_go ?_
      refine TC_seq ?_
      refine TC_reg ?_
      refine TL_ev env 1 rfl ⟨trivial, trivial⟩ ?_
      obtain ⟨z, hr, h0⟩ := bnd h0
      rcases z with ⟨⟩ | r428
      · refine TL_callB [] (psalteryref04_Filter.ok0 hr) psalteryref04_Filter.fnb rfl ⟨trivial, ⟨trivial, trivial⟩⟩ rfl trivial rfl ?_
        refine TL_ev env 1 rfl ⟨trivial, trivial⟩ ?_
        refine TL_end ?_
        refine TE_go ?_
        refine TC_seq ?_
        refine TC_reg ?_
        refine TL_ev env 1 rfl ⟨trivial, trivial⟩ ?_
        refine TL_end ?_
        refine TE_go ?_
        refine TC_seq ?_
        refine TC_seq ?_
        refine TC_reg ?_
        refine TL_ev env 1 rfl ⟨trivial, trivial⟩ ?_
        refine TL_end ?_
        refine TE_go ?_
        obtain ⟨z1, h1, h0⟩ := bnd h0
        refine TC_cut (α := Unit) (fun _ => z1 = ()) (fun _ => [(11, .nils)]) (fun _ => []) ?_ ?_
        · refine TC_blk ?_
          refine TC_loop (α := Unit) (fun n _ => psalteryref08_Join.l0 K p1 x427 n = some z1) (fun _ => [(1, .int .i64 p1), (5, .sl 32700), (10, .nils), (11, .nils), (12, .int .i64 0)]) (fun _ => [(32700, some (.rows (.int .i64) x427))]) K ?_ ?_
          · exact SP_ren [(32700, 31900)] () h1 ⟨rfl, rfl, rfl, rfl, rfl, trivial⟩ ⟨rfl, trivial⟩ rfl
          rintro n ⟨⟩ h1
          rcases n with _ | n
          · exact (nsome h1).elim
          replace h1 : psalteryref08_Join.r0 K p1 x427 (psalteryref08_Join.l0 K p1 x427 n)  = some z1 := h1
          refine TC_seq ?_
          refine TC_seq ?_
          refine TC_reg ?_
          refine TL_ev env 3 rfl ⟨trivial, ⟨trivial, ⟨⟨trivial, ⟨trivial, trivial⟩⟩, trivial⟩⟩⟩ ?_
          refine TL_end ?_
          refine TE_go ?_
          refine TC_cond rfl (fun hb => ?_) (fun hb => ?_)
          · replace h1 := bif_t h1 hb
            refine TC_skip ?_
            refine TE_go ?_
            refine TC_seq ?_
            refine TC_blk ?_
            refine TC_seq ?_
            refine TC_reg ?_
            refine TL_ev env 1 rfl ⟨trivial, trivial⟩ ?_
            refine TL_end ?_
            refine TE_go ?_
            refine TC_seq ?_
            refine TC_seq ?_
            refine TC_reg ?_
            refine TL_ev env 1 rfl ⟨trivial, trivial⟩ ?_
            refine TL_end ?_
            refine TE_go ?_
            obtain ⟨z2, h2, h1⟩ := bnd h1
            refine TC_cut (α := Unit) (fun _ => False) (fun _ => []) (fun _ => []) ?_ ?_
            · refine TC_blk ?_
              refine TC_loop (α := Unit) (fun n _ => psalteryref08_Join.l1 K p1 x427 n = some z2) (fun _ => [(1, .int .i64 p1), (5, .sl 33700), (10, .nils), (11, .nils), (12, .int .i64 0), (13, .int .i64 0), (14, .int .i64 0)]) (fun _ => [(33700, some (.rows (.int .i64) x427))]) K ?_ ?_
              · exact SP_ren [(33700, 32700)] () h2 ⟨rfl, rfl, rfl, rfl, rfl, rfl, rfl, trivial⟩ ⟨rfl, trivial⟩ rfl
              rintro n ⟨⟩ h2
              rcases n with _ | n
              · exact (nsome h2).elim
              replace h2 : psalteryref08_Join.r1 K p1 x427 (psalteryref08_Join.l1 K p1 x427 n)  = some z2 := h2
              refine TC_seq ?_
              refine TC_seq ?_
              refine TC_reg ?_
              refine TL_ev env 2 rfl ⟨trivial, ⟨⟨trivial, ⟨trivial, trivial⟩⟩, trivial⟩⟩ ?_
              refine TL_end ?_
              refine TE_go ?_
              refine TC_cond rfl (fun hb => ?_) (fun hb => ?_)
              · refine TC_skip ?_
                refine TE_go ?_
                refine TC_seq ?_
                refine TC_blk ?_
                refine TC_seq ?_
                refine TC_renw (A' := [(1, .int .i64 _), (5, .sl 33700), (10, .nils), (11, .nils), (12, .int .i64 0), (13, .int .i64 0), (14, .int .i64 0)]) (L' := [(33700, some (.rows (.int .i64) _))]) [] ⟨rfl, rfl, rfl, rfl, rfl, rfl, rfl, trivial⟩ ⟨rfl, trivial⟩ rfl ?_
                refine TC_drawR ⟨_, fun i => ([[], [], [1], [], [3, 2, 1], [], [5, 4, 3, 2, 1], [6, 5, 4, 3, 2, 1, 0], [7, 6, 5, 4, 3, 2, 1, 0], [], [], [10], [], [12, 11, 10], [], [14, 13, 12, 11, 10], [15, 14, 13, 12, 11, 10, 9], [16, 15, 14, 13, 12, 11, 10, 9], [17, 16, 15, 14, 13, 12, 11, 10, 9], [18, 17, 16, 15, 14, 13, 12, 11, 10, 9, 8, 7, 6, 5, 4, 3, 2, 1, 0], [], [], [21], [], [23, 22, 21], [], [25], [26, 25, 24, 23, 22, 21], [], [28, 27, 26, 25, 24, 23, 22, 21], [29, 28, 27, 26, 25, 24, 23, 22, 21, 20], [30, 29, 28, 27, 26, 25, 24, 23, 22, 21, 20], [], [], [33], [], [35, 34, 33], [], [37, 36, 35, 34, 33], [], [39, 38, 37, 36, 35, 34, 33], [40, 39, 38, 37, 36, 35, 34, 33, 32], [41, 40, 39, 38, 37, 36, 35, 34, 33, 32], [42, 41, 40, 39, 38, 37, 36, 35, 34, 33, 32], [43, 42, 41, 40, 39, 38, 37, 36, 35, 34, 33, 32, 31, 30, 29, 28, 27, 26, 25, 24, 23, 22, 21, 20], [44, 43, 42, 41, 40, 39, 38, 37, 36, 35, 34, 33, 32, 31, 30, 29, 28, 27, 26, 25, 24, 23, 22, 21, 20, 19, 18, 17, 16, 15, 14, 13, 12, 11, 10, 9, 8, 7, 6, 5, 4, 3, 2, 1, 0], [45, 44, 43, 42, 41, 40, 39, 38, 37, 36, 35, 34, 33, 32, 31, 30, 29, 28, 27, 26, 25, 24, 23, 22, 21, 20, 19, 18, 17, 16, 15, 14, 13, 12, 11, 10, 9, 8, 7, 6, 5, 4, 3, 2, 1, 0]] : List (List Nat)).getD i [], fun i => ([[], [], [], [], [], [], [], [], [], [], [], [], [], [], [], [], [], [], [], [], [], [], [], [], [], [], [], [], [], [], [], [], [], [], [], [], [], [], [], [], [], [], [], [], [], [], []] : List (List Nat)).getD i [], fun i => ([[], [], [], [], [], [], [], [], [], [], [], [], [], [], [], [], [], [], [], [], [], [], [], [], [], [], [], [], [], [], [], [], [], [], [], [], [], [], [], [], [], [], [], [], [], [], []] : List (List Nat)).getD i []⟩ (fun i => ([[], [], [], [], [], [], [], [], [], [], [], [], [], [], [], [], [], [], [], [], [], [], [], [], [], [], [], [], [], [], [], [], [], [], [], [], [], [], [], [], [], [], [], [], [], [], []] : List (List Nat)).getD i []) (by kernel_rfl) (by kernel_rfl) ?_
                obtain ⟨g, h2⟩ := gd_t h2
                obtain ⟨g, h2⟩ := gd_t h2
                exact (nsome h2).elim
              · first | exact (ftf hb).elim | exact (tff hb).elim | exact absurd hb (by decide)
            · intro _ hf
              exact hf.elim
          · replace h1 := bif_f h1 hb
            refine TC_exit ?_
            refine tsx ?_
            refine tsx ?_
            refine tbe ?_
            obtain rfl := sinj h1
            refine tsn ?_
            exact SP_ren [] () rfl ⟨rfl, trivial⟩ trivial rfl
        · rintro ⟨⟩ rfl
          refine TE_go ?_
          refine TC_seq ?_
          refine TC_reg ?_
          refine TL_ev env 2 rfl ⟨trivial, ⟨trivial, trivial⟩⟩ ?_
          refine TL_end ?_
          refine TE_go ?_
          refine TC_ret ?_
          obtain rfl := sinj h0
          exact TE_ret env rfl trivial trivial
      · refine TL_callB [] (psalteryref04_Filter.ok1 hr) psalteryref04_Filter.fnb rfl ⟨trivial, ⟨trivial, trivial⟩⟩ rfl trivial rfl ?_
        refine TL_ev env 1 rfl ⟨trivial, trivial⟩ ?_
        refine TL_end ?_
        refine TE_go ?_
        refine TC_seq ?_
        refine TC_reg ?_
        refine TL_ev env 1 rfl ⟨trivial, trivial⟩ ?_
        refine TL_end ?_
        refine TE_go ?_
        refine TC_seq ?_
        refine TC_seq ?_
        refine TC_reg ?_
        refine TL_ev env 1 rfl ⟨trivial, trivial⟩ ?_
        refine TL_end ?_
        refine TE_go ?_
        obtain ⟨z1, h1, h0⟩ := bnd h0
        refine TC_cut (α := (List (Int))) (fun s => z1 = s) (fun s => [(11, .sl 37400)]) (fun s => [(37400, some (.rows (.int .i16) s))]) ?_ ?_
        · refine TC_blk ?_
          refine TC_loop (α := Int × (List (Int))) (fun n s => psalteryref08_Join.l2 K p1 r428 x427 n s.1 s.2 = some z1) (fun s => [(1, .int .i64 p1), (5, .sl 39200), (10, .im (.slice (.int .i16)) r428), (11, .sl 39201), (12, .int .i64 s.1)]) (fun s => [(39200, some (.rows (.int .i64) x427)), (39201, some (.rows (.int .i16) s.2))]) K ?_ ?_
          · refine TE_own 11 7011 (.int .i16) rfl (by decide) rfl rfl ?_
            exact SP_ren [(39200, 31900), (39201, 7011)] (_, _) h1 ⟨rfl, rfl, rfl, rfl, rfl, trivial⟩ ⟨rfl, rfl, trivial⟩ rfl
          rintro n ⟨x509, x510⟩ h1
          rcases n with _ | n
          · exact (nsome h1).elim
          replace h1 : psalteryref08_Join.r2 K p1 r428 x427 (psalteryref08_Join.l2 K p1 r428 x427 n) x509 x510 = some z1 := h1
          refine TC_seq ?_
          refine TC_seq ?_
          refine TC_reg ?_
          refine TL_ev env 3 rfl ⟨trivial, ⟨trivial, ⟨⟨trivial, ⟨trivial, trivial⟩⟩, trivial⟩⟩⟩ ?_
          refine TL_end ?_
          refine TE_go ?_
          refine TC_cond rfl (fun hb => ?_) (fun hb => ?_)
          · replace h1 := bif_t h1 hb
            refine TC_skip ?_
            refine TE_go ?_
            refine TC_seq ?_
            refine TC_blk ?_
            refine TC_seq ?_
            refine TC_reg ?_
            refine TL_ev env 1 rfl ⟨trivial, trivial⟩ ?_
            refine TL_end ?_
            refine TE_go ?_
            refine TC_seq ?_
            refine TC_seq ?_
            refine TC_reg ?_
            refine TL_ev env 1 rfl ⟨trivial, trivial⟩ ?_
            refine TL_end ?_
            refine TE_go ?_
            obtain ⟨z2, h2, h1⟩ := bnd h1
            refine TC_cut (α := Int) (fun s => z2 = s) (fun s => [(1, .int .i64 p1), (5, .sl 42500), (10, .im (.slice (.int .i16)) r428), (11, .sl 42501), (12, .int .i64 x509), (13, .int .i64 s)]) (fun s => [(42500, some (.rows (.int .i64) x427)), (42501, some (.rows (.int .i16) x510))]) ?_ ?_
            · refine TC_blk ?_
              refine TC_loop (α := Int × Int) (fun n s => psalteryref08_Join.l3 K p1 r428 x509 x427 x510 n s.1 s.2 = some z2) (fun s => [(1, .int .i64 p1), (5, .sl 42900), (10, .im (.slice (.int .i16)) r428), (11, .sl 42901), (12, .int .i64 x509), (13, .int .i64 s.1), (14, .int .i64 s.2)]) (fun s => [(42900, some (.rows (.int .i64) x427)), (42901, some (.rows (.int .i16) x510))]) K ?_ ?_
              · exact SP_ren [(42900, 39200), (42901, 39201)] (_, _) h2 ⟨rfl, rfl, rfl, rfl, rfl, rfl, rfl, trivial⟩ ⟨rfl, rfl, trivial⟩ rfl
              rintro n ⟨x563, x564⟩ h2
              rcases n with _ | n
              · exact (nsome h2).elim
              replace h2 : psalteryref08_Join.r3 K p1 r428 x509 x427 x510 (psalteryref08_Join.l3 K p1 r428 x509 x427 x510 n) x563 x564 = some z2 := h2
              refine TC_seq ?_
              refine TC_seq ?_
              refine TC_reg ?_
              refine TL_ev env 2 rfl ⟨trivial, ⟨⟨trivial, ⟨trivial, trivial⟩⟩, trivial⟩⟩ ?_
              refine TL_end ?_
              refine TE_go ?_
              refine TC_cond rfl (fun hb => ?_) (fun hb => ?_)
              · replace h2 := bif_t h2 hb
                refine TC_skip ?_
                refine TE_go ?_
                refine TC_seq ?_
                refine TC_blk ?_
                refine TC_seq ?_
                refine TC_renw (A' := [(1, .int .i64 _), (5, .sl 42900), (10, .im (.slice (.int .i16)) _), (11, .sl 42901), (12, .int .i64 _), (13, .int .i64 _), (14, .int .i64 _)]) (L' := [(42900, some (.rows (.int .i64) _)), (42901, some (.rows (.int .i16) _))]) [] ⟨rfl, rfl, rfl, rfl, rfl, rfl, rfl, trivial⟩ ⟨rfl, rfl, trivial⟩ rfl ?_
                refine TC_drawR ⟨_, fun i => ([[], [], [1], [], [3, 2, 1], [], [5, 4, 3, 2, 1], [6, 5, 4, 3, 2, 1, 0], [7, 6, 5, 4, 3, 2, 1, 0], [], [], [10], [], [12, 11, 10], [], [14, 13, 12, 11, 10], [15, 14, 13, 12, 11, 10, 9], [16, 15, 14, 13, 12, 11, 10, 9], [17, 16, 15, 14, 13, 12, 11, 10, 9], [18, 17, 16, 15, 14, 13, 12, 11, 10, 9, 8, 7, 6, 5, 4, 3, 2, 1, 0], [], [], [21], [], [23, 22, 21], [], [25], [26, 25, 24, 23, 22, 21], [], [28, 27, 26, 25, 24, 23, 22, 21], [29, 28, 27, 26, 25, 24, 23, 22, 21, 20], [30, 29, 28, 27, 26, 25, 24, 23, 22, 21, 20], [], [], [33], [], [35, 34, 33], [], [37, 36, 35, 34, 33], [], [39, 38, 37, 36, 35, 34, 33], [40, 39, 38, 37, 36, 35, 34, 33, 32], [41, 40, 39, 38, 37, 36, 35, 34, 33, 32], [42, 41, 40, 39, 38, 37, 36, 35, 34, 33, 32], [43, 42, 41, 40, 39, 38, 37, 36, 35, 34, 33, 32, 31, 30, 29, 28, 27, 26, 25, 24, 23, 22, 21, 20], [44, 43, 42, 41, 40, 39, 38, 37, 36, 35, 34, 33, 32, 31, 30, 29, 28, 27, 26, 25, 24, 23, 22, 21, 20, 19, 18, 17, 16, 15, 14, 13, 12, 11, 10, 9, 8, 7, 6, 5, 4, 3, 2, 1, 0], [45, 44, 43, 42, 41, 40, 39, 38, 37, 36, 35, 34, 33, 32, 31, 30, 29, 28, 27, 26, 25, 24, 23, 22, 21, 20, 19, 18, 17, 16, 15, 14, 13, 12, 11, 10, 9, 8, 7, 6, 5, 4, 3, 2, 1, 0]] : List (List Nat)).getD i [], fun i => ([[], [], [], [], [], [], [], [], [], [], [], [], [], [], [], [], [], [], [], [], [], [], [], [], [], [], [], [], [], [], [], [], [], [], [], [], [], [], [], [], [], [], [], [], [], [], []] : List (List Nat)).getD i [], fun i => ([[], [], [], [], [], [], [], [], [], [], [], [], [], [], [], [], [], [], [], [], [], [], [], [], [], [], [], [], [], [], [], [], [], [], [], [], [], [], [], [], [], [], [], [], [], [], []] : List (List Nat)).getD i []⟩ (fun i => ([[], [], [], [], [], [], [], [], [], [], [], [], [], [], [], [], [], [], [], [], [], [], [], [], [], [], [], [], [], [], [], [], [], [], [], [], [], [], [], [], [], [], [], [], [], [], []] : List (List Nat)).getD i []) (by kernel_rfl) (by kernel_rfl) ?_
                refine AJR_ev env 1 rfl (Nat.le_of_ble_eq_true rfl) rfl trivial ?_
                refine AJR_ev env 2 rfl (Nat.le_of_ble_eq_true rfl) rfl trivial ?_
                refine AJR_ev env 3 rfl (Nat.le_of_ble_eq_true rfl) rfl ⟨trivial, ⟨trivial, trivial⟩⟩ ?_
                refine AJR_ev env 4 rfl (Nat.le_of_ble_eq_true rfl) rfl trivial ?_
                refine AJR_ev env 5 rfl (Nat.le_of_ble_eq_true rfl) rfl ⟨trivial, ⟨trivial, trivial⟩⟩ ?_
                refine AJR_ev env 6 rfl (Nat.le_of_ble_eq_true rfl) rfl trivial ?_
                refine AJR_ev env 7 rfl (Nat.le_of_ble_eq_true rfl) rfl ⟨trivial, ⟨trivial, trivial⟩⟩ ?_
                obtain ⟨g, h2⟩ := gd_t h2
                refine AJR_ev env 8 rfl (Nat.le_of_ble_eq_true rfl) rfl ⟨trivial, ⟨trivial, ⟨g.1, g.2⟩⟩⟩ ?_
                obtain ⟨g, h2⟩ := gd_t h2
                refine AJR_ev env 9 rfl (Nat.le_of_ble_eq_true rfl) rfl ⟨trivial, g⟩ ?_
                refine AJR_ev env 10 rfl (Nat.le_of_ble_eq_true rfl) rfl trivial ?_
                refine AJR_ev env 11 rfl (Nat.le_of_ble_eq_true rfl) rfl trivial ?_
                refine AJR_ev env 12 rfl (Nat.le_of_ble_eq_true rfl) rfl ⟨trivial, ⟨trivial, trivial⟩⟩ ?_
                refine AJR_ev env 13 rfl (Nat.le_of_ble_eq_true rfl) rfl trivial ?_
                refine AJR_ev env 14 rfl (Nat.le_of_ble_eq_true rfl) rfl ⟨trivial, ⟨trivial, trivial⟩⟩ ?_
                refine AJR_ev env 15 rfl (Nat.le_of_ble_eq_true rfl) rfl trivial ?_
                refine AJR_ev env 16 rfl (Nat.le_of_ble_eq_true rfl) rfl ⟨trivial, ⟨trivial, trivial⟩⟩ ?_
                obtain ⟨g, h2⟩ := gd_t h2
                refine AJR_ev env 17 rfl (Nat.le_of_ble_eq_true rfl) rfl ⟨trivial, ⟨trivial, ⟨g.1, g.2⟩⟩⟩ ?_
                refine AJR_ev env 18 rfl (Nat.le_of_ble_eq_true rfl) rfl ⟨trivial, trivial⟩ ?_
                refine AJR_ev env 19 rfl (Nat.le_of_ble_eq_true rfl) rfl trivial ?_
                refine AJR_ev env 20 rfl (Nat.le_of_ble_eq_true rfl) rfl ⟨trivial, ⟨trivial, trivial⟩⟩ ?_
                refine AJR_ev env 21 rfl (Nat.le_of_ble_eq_true rfl) rfl trivial ?_
                refine AJR_ev env 22 rfl (Nat.le_of_ble_eq_true rfl) rfl trivial ?_
                refine AJR_ev env 23 rfl (Nat.le_of_ble_eq_true rfl) rfl ⟨trivial, ⟨trivial, trivial⟩⟩ ?_
                refine AJR_ev env 24 rfl (Nat.le_of_ble_eq_true rfl) rfl trivial ?_
                refine AJR_ev env 25 rfl (Nat.le_of_ble_eq_true rfl) rfl ⟨trivial, ⟨trivial, trivial⟩⟩ ?_
                refine AJR_ev env 26 rfl (Nat.le_of_ble_eq_true rfl) rfl trivial ?_
                refine AJR_ev env 27 rfl (Nat.le_of_ble_eq_true rfl) rfl ⟨trivial, ⟨trivial, trivial⟩⟩ ?_
                refine AJR_ev env 28 rfl (Nat.le_of_ble_eq_true rfl) rfl ⟨trivial, ⟨trivial, trivial⟩⟩ ?_
                refine AJR_ev env 29 rfl (Nat.le_of_ble_eq_true rfl) rfl trivial ?_
                refine AJR_ev env 30 rfl (Nat.le_of_ble_eq_true rfl) rfl ⟨trivial, ⟨trivial, trivial⟩⟩ ?_
                obtain ⟨g, h2⟩ := gd_t h2
                refine AJR_ev env 31 rfl (Nat.le_of_ble_eq_true rfl) rfl ⟨trivial, ⟨trivial, ⟨g.1, g.2⟩⟩⟩ ?_
                obtain ⟨g, h2⟩ := gd_t h2
                refine AJR_ev env 32 rfl (Nat.le_of_ble_eq_true rfl) rfl ⟨trivial, g⟩ ?_
                refine AJR_ev env 33 rfl (Nat.le_of_ble_eq_true rfl) rfl trivial ?_
                refine AJR_ev env 34 rfl (Nat.le_of_ble_eq_true rfl) rfl trivial ?_
                refine AJR_ev env 35 rfl (Nat.le_of_ble_eq_true rfl) rfl ⟨trivial, ⟨trivial, trivial⟩⟩ ?_
                refine AJR_ev env 36 rfl (Nat.le_of_ble_eq_true rfl) rfl trivial ?_
                refine AJR_ev env 37 rfl (Nat.le_of_ble_eq_true rfl) rfl ⟨trivial, ⟨trivial, trivial⟩⟩ ?_
                refine AJR_ev env 38 rfl (Nat.le_of_ble_eq_true rfl) rfl trivial ?_
                refine AJR_ev env 39 rfl (Nat.le_of_ble_eq_true rfl) rfl ⟨trivial, ⟨trivial, trivial⟩⟩ ?_
                refine AJR_ev env 40 rfl (Nat.le_of_ble_eq_true rfl) rfl trivial ?_
                refine AJR_ev env 41 rfl (Nat.le_of_ble_eq_true rfl) rfl ⟨trivial, ⟨trivial, trivial⟩⟩ ?_
                obtain ⟨g, h2⟩ := gd_t h2
                refine AJR_ev env 42 rfl (Nat.le_of_ble_eq_true rfl) rfl ⟨trivial, ⟨trivial, ⟨g.1, g.2⟩⟩⟩ ?_
                refine AJR_ev env 43 rfl (Nat.le_of_ble_eq_true rfl) rfl ⟨trivial, trivial⟩ ?_
                refine AJR_ev env 44 rfl (Nat.le_of_ble_eq_true rfl) rfl trivial ?_
                refine AJR_ev env 45 rfl (Nat.le_of_ble_eq_true rfl) rfl ⟨trivial, ⟨trivial, trivial⟩⟩ ?_
                refine AJR_ev env 46 rfl (Nat.le_of_ble_eq_true rfl) rfl ⟨trivial, ⟨trivial, trivial⟩⟩ ?_
                refine AJR_ev env 47 rfl (Nat.le_of_ble_eq_true rfl) rfl trivial ?_
                refine AJR_end rfl rfl rfl ?_
                refine TE_go ?_
                refine TC_seq ?_
                refine TC_seq ?_
                refine TC_reg ?_
                refine TL_ev env 3 rfl ⟨trivial, ⟨⟨trivial, ⟨trivial, (by decide)⟩⟩, ⟨⟨trivial, ⟨trivial, trivial⟩⟩, trivial⟩⟩⟩ ?_
                refine TL_end ?_
                refine TE_go ?_
                obtain ⟨z3, h3, h2⟩ := bnd h2
                refine TC_cut (α := Int) (fun s => z3 = s) (fun s => [(1, .int .i64 p1), (5, .sl 43400), (10, .im (.slice (.int .i16)) r428), (11, .sl 43401), (12, .int .i64 x509), (13, .int .i64 x563), (14, .int .i64 x564), (15, .int .i64 s)]) (fun s => [(43400, some (.rows (.int .i64) x427)), (43401, some (.rows (.int .i16) x510))]) ?_ ?_
                · refine TC_cond rfl (fun hb => ?_) (fun hb => ?_)
                  · replace h3 := bif_t h3 hb
                    refine TC_reg ?_
                    refine TL_ev env 3 rfl ⟨trivial, ⟨trivial, ⟨trivial, trivial⟩⟩⟩ ?_
                    refine TL_end ?_
                    obtain rfl := sinj h3
                    refine tsn ?_
                    exact SP_ren [(43400, 42900), (43401, 42901)] _ rfl ⟨rfl, rfl, rfl, rfl, rfl, rfl, rfl, rfl, trivial⟩ ⟨rfl, rfl, trivial⟩ rfl
                  · replace h3 := bif_f h3 hb
                    refine TC_skip ?_
                    obtain rfl := sinj h3
                    refine tsn ?_
                    exact SP_ren [(43400, 42900), (43401, 42901)] _ rfl ⟨rfl, rfl, rfl, rfl, rfl, rfl, rfl, rfl, trivial⟩ ⟨rfl, rfl, trivial⟩ rfl
                · rintro x594 hz
                  obtain rfl := hz.symm
                  refine TE_go ?_
                  refine TC_reg ?_
                  refine TL_ev env 4 rfl ⟨trivial, ⟨trivial, ⟨⟨trivial, ⟨trivial, trivial⟩⟩, ⟨trivial, trivial⟩⟩⟩⟩ ?_
                  refine TL_end ?_
                  refine tbn ?_
                  refine TE_go ?_
                  refine TC_reg ?_
                  refine TL_ev env 3 rfl ⟨trivial, ⟨⟨trivial, ⟨trivial, trivial⟩⟩, ⟨trivial, trivial⟩⟩⟩ ?_
                  refine TL_end ?_
                  refine tsn ?_
                  exact TE_nextr [(42900, 43400), (42901, 43401)] n (Nat.lt_succ_self n) (_, _) h2 ⟨rfl, rfl, rfl, rfl, rfl, rfl, rfl, trivial⟩ ⟨rfl, rfl, trivial⟩ rfl
              · replace h2 := bif_f h2 hb
                refine TC_exit ?_
                refine tsx ?_
                refine tsx ?_
                refine tbe ?_
                obtain rfl := sinj h2
                refine tsn ?_
                exact SP_ren [(42500, 42900), (42501, 42901)] _ rfl ⟨rfl, rfl, rfl, rfl, rfl, rfl, trivial⟩ ⟨rfl, rfl, trivial⟩ rfl
            · rintro x555 hz
              obtain rfl := hz.symm
              refine TE_go ?_
              refine TC_reg ?_
              refine TL_ev env 2 rfl ⟨trivial, ⟨trivial, trivial⟩⟩ ?_
              obtain ⟨r556, hr, h1⟩ := bnd h1
              refine TL_callB [] (psalteryref01_Round.ok0 hr) psalteryref01_Round.fnb rfl ⟨trivial, ⟨trivial, ⟨trivial, trivial⟩⟩⟩ rfl trivial rfl ?_
              obtain ⟨r557, hr, h1⟩ := bnd h1
              refine TL_callB [] (psalteryref01_Sat.ok0 hr) psalteryref01_Sat.fnb rfl ⟨trivial, ⟨trivial, ⟨trivial, trivial⟩⟩⟩ rfl trivial rfl ?_
              obtain ⟨g, h1⟩ := gd_t h1
              refine TL_ev env 4 rfl ⟨trivial, ⟨⟨trivial, trivial⟩, ⟨⟨⟨trivial, ⟨trivial, trivial⟩⟩, g⟩, ⟨trivial, trivial⟩⟩⟩⟩ ?_
              refine TL_end ?_
              refine tbn ?_
              refine TE_go ?_
              refine TC_reg ?_
              refine TL_ev env 3 rfl ⟨trivial, ⟨⟨trivial, ⟨trivial, trivial⟩⟩, ⟨trivial, trivial⟩⟩⟩ ?_
              refine TL_end ?_
              refine tsn ?_
              exact TE_nextr [(39200, 42500), (39201, 1145)] n (Nat.lt_succ_self n) (_, _) h1 ⟨rfl, rfl, rfl, rfl, rfl, trivial⟩ ⟨rfl, rfl, trivial⟩ rfl
          · replace h1 := bif_f h1 hb
            refine TC_exit ?_
            refine tsx ?_
            refine tsx ?_
            refine tbe ?_
            obtain rfl := sinj h1
            refine tsn ?_
            exact SP_ren [(37400, 39201)] _ rfl ⟨rfl, trivial⟩ ⟨rfl, trivial⟩ rfl
        · rintro x486 hz
          obtain rfl := hz.symm
          refine TE_go ?_
          refine TC_seq ?_
          refine TC_reg ?_
          refine TL_ev env 2 rfl ⟨trivial, ⟨trivial, trivial⟩⟩ ?_
          refine TL_end ?_
          refine TE_go ?_
          refine TC_ret ?_
          refine TE_frz 37400 rfl ?_
          obtain rfl := sinj h0
          exact TE_ret env rfl trivial trivial
theorem psalteryref08_Join.ok0 {K : Nat} {p0 : List (List (Int))} {p1 : Int}  (h0 : psalteryref08_Join K p0 p1 = some (.inl ())) : Fn Try.prog 23 [.im (.slice (.slice (.int .i32))) p0, .int .i64 p1] [] (.nils) [] := psalteryref08_Join.ok h0
theorem psalteryref08_Join.ok1 {K : Nat} {p0 : List (List (Int))} {p1 : Int} {q0 : List (Int)} (h0 : psalteryref08_Join K p0 p1 = some (.inr q0)) : Fn Try.prog 23 [.im (.slice (.slice (.int .i32))) p0, .int .i64 p1] [] (.im (.slice (.int .i16)) q0) [] := psalteryref08_Join.ok h0
theorem psalteryref08_Join.fnb : fnb Try.prog 23 = true := fnb_of Try.func23 rfl
def psalteryref04_Same.res (_p0 : List (Int)) : Bool → MV
  | q0 => .bool q0
def psalteryref04_Same.out (_p0 : List (Int)) : Bool → List (Nat × Option MObj)
  | _ => []
theorem psalteryref04_Same.ok {K : Nat} {p0 : List (Int)} {r : Bool} (h0 : psalteryref04_Same K p0 = some r) : Fn Try.prog 22 [.im (.slice (.int .i16)) p0, .nils] [] (psalteryref04_Same.res p0 r) (psalteryref04_Same.out p0 r) := by
  refine Fn_of Try.func22 rfl (Nat.le_of_ble_eq_true rfl) fun Γ => ?_
  refine TC_seq ?_
  refine TC_reg ?_
  refine TL_ev env 1 rfl ⟨trivial, trivial⟩ ?_
  refine TL_end ?_
  refine TE_go ?_
  refine TC_seq ?_
  refine TC_seq ?_
  refine TC_reg ?_
  refine TL_ev env 5 rfl ⟨trivial, ⟨⟨trivial, trivial⟩, ⟨trivial, ⟨⟨trivial, trivial⟩, ⟨⟨trivial, ⟨trivial, trivial⟩⟩, trivial⟩⟩⟩⟩⟩ ?_
  refine TL_end ?_
  refine TE_go ?_
  refine TC_cond rfl (fun hb => ?_) (fun hb => ?_)
  · replace h0 := bif_t h0 hb
    refine TC_seq ?_
    refine TC_reg ?_
    refine TL_ev env 1 rfl ⟨trivial, trivial⟩ ?_
    refine TL_end ?_
    refine TE_go ?_
    refine TC_ret ?_
    refine tsr ?_
    obtain rfl := sinj h0
    exact TE_ret env rfl trivial trivial
  · replace h0 := bif_f h0 hb
    refine TC_skip ?_
    refine TE_go ?_
    refine TC_seq ?_
    refine TC_seq ?_
    refine TC_reg ?_
    refine TL_ev env 1 rfl ⟨trivial, trivial⟩ ?_
    refine TL_end ?_
    refine TE_go ?_
    obtain ⟨z1, h1, h0⟩ := bnd h0
    refine TC_cut (α := Unit) (fun _ => z1 = ()) (fun _ => []) (fun _ => []) ?_ ?_
    · refine TC_blk ?_
      refine TC_loop (α := Unit) (fun n _ => psalteryref04_Same.l0 K p0 n = some z1) (fun _ => [(0, .im (.slice (.int .i16)) p0), (1, .nils), (5, .int .i64 0)]) (fun _ => []) K ?_ ?_
      · exact SP_ren [] () h1 ⟨rfl, rfl, rfl, trivial⟩ trivial rfl
      rintro n ⟨⟩ h1
      rcases n with _ | n
      · exact (nsome h1).elim
      replace h1 : psalteryref04_Same.r0 K p0 (psalteryref04_Same.l0 K p0 n)  = some z1 := h1
      refine TC_seq ?_
      refine TC_seq ?_
      refine TC_reg ?_
      refine TL_ev env 4 rfl ⟨trivial, ⟨trivial, ⟨⟨trivial, trivial⟩, ⟨⟨trivial, ⟨trivial, trivial⟩⟩, trivial⟩⟩⟩⟩ ?_
      refine TL_end ?_
      refine TE_go ?_
      refine TC_cond rfl (fun hb => ?_) (fun hb => ?_)
      · replace h1 := bif_t h1 hb
        refine TC_skip ?_
        refine TE_go ?_
        refine TC_seq ?_
        refine TC_blk ?_
        refine TC_seq ?_
        refine TC_renw (A' := [(0, .im (.slice (.int .i16)) _), (1, .nils), (5, .int .i64 0)]) (L' := []) [] ⟨rfl, rfl, rfl, trivial⟩ trivial rfl ?_
        refine TC_drawR ⟨_, fun i => ([[], [], [1, 0], [2, 1, 0], [], [], [5, 4], [6, 5, 4], [7, 6, 5, 4, 3, 2, 1, 0]] : List (List Nat)).getD i [], fun i => ([[], [], [], [], [], [], [], [], []] : List (List Nat)).getD i [], fun i => ([[], [], [], [], [], [], [], [], []] : List (List Nat)).getD i []⟩ (fun i => ([[], [], [], [], [], [], [], [], []] : List (List Nat)).getD i []) (by kernel_rfl) (by kernel_rfl) ?_
        obtain ⟨g, h1⟩ := gd_t h1
        exact (nsome h1).elim
      · replace h1 := bif_f h1 hb
        refine TC_exit ?_
        refine tsx ?_
        refine tsx ?_
        refine tbe ?_
        obtain rfl := sinj h1
        refine tsn ?_
        exact SP_ren [] () rfl trivial trivial rfl
    · rintro ⟨⟩ rfl
      refine TE_go ?_
      refine TC_seq ?_
      refine TC_reg ?_
      refine TL_ev env 1 rfl ⟨trivial, trivial⟩ ?_
      refine TL_end ?_
      refine TE_go ?_
      refine TC_ret ?_
      obtain rfl := sinj h0
      exact TE_ret env rfl trivial trivial
theorem psalteryref04_Same.ok0 {K : Nat} {p0 : List (Int)} {q0 : Bool} (h0 : psalteryref04_Same K p0 = some q0) : Fn Try.prog 22 [.im (.slice (.int .i16)) p0, .nils] [] (.bool q0) [] := psalteryref04_Same.ok h0
theorem psalteryref04_Same.fnb : fnb Try.prog 22 = true := fnb_of Try.func22 rfl
def psalteryref04_Same_2.res (_p0 : List (Int)) (_p1 : List (Int)) : Bool → MV
  | q0 => .bool q0
def psalteryref04_Same_2.out (_p0 : List (Int)) (_p1 : List (Int)) : Bool → List (Nat × Option MObj)
  | _ => []
theorem psalteryref04_Same_2.ok {K : Nat} {p0 : List (Int)} {p1 : List (Int)} {r : Bool} (h0 : psalteryref04_Same_2 K p0 p1 = some r) : Fn Try.prog 22 [.im (.slice (.int .i16)) p0, .im (.slice (.int .i16)) p1] [] (psalteryref04_Same_2.res p0 p1 r) (psalteryref04_Same_2.out p0 p1 r) := by
  refine Fn_of Try.func22 rfl (Nat.le_of_ble_eq_true rfl) fun Γ => ?_
  refine TC_seq ?_
  refine TC_reg ?_
  refine TL_ev env 1 rfl ⟨trivial, trivial⟩ ?_
  refine TL_end ?_
  refine TE_go ?_
  refine TC_seq ?_
  refine TC_seq ?_
  refine TC_reg ?_
  refine TL_ev env 5 rfl ⟨trivial, ⟨⟨trivial, trivial⟩, ⟨trivial, ⟨⟨trivial, trivial⟩, ⟨⟨trivial, ⟨trivial, trivial⟩⟩, trivial⟩⟩⟩⟩⟩ ?_
  refine TL_end ?_
  refine TE_go ?_
  refine TC_cond rfl (fun hb => ?_) (fun hb => ?_)
  · replace h0 := bif_t h0 hb
    refine TC_seq ?_
    refine TC_reg ?_
    refine TL_ev env 1 rfl ⟨trivial, trivial⟩ ?_
    refine TL_end ?_
    refine TE_go ?_
    refine TC_ret ?_
    refine tsr ?_
    obtain rfl := sinj h0
    exact TE_ret env rfl trivial trivial
  · replace h0 := bif_f h0 hb
    refine TC_skip ?_
    refine TE_go ?_
    refine TC_seq ?_
    refine TC_seq ?_
    refine TC_reg ?_
    refine TL_ev env 1 rfl ⟨trivial, trivial⟩ ?_
    refine TL_end ?_
    refine TE_go ?_
    obtain ⟨z1, h1, h0⟩ := bnd h0
    refine TC_cut (α := Unit) (fun _ => z1 = .inl ()) (fun _ => []) (fun _ => []) ?_ ?_
    · refine TC_blk ?_
      refine TC_loop (α := Int) (fun n s => psalteryref04_Same_2.l0 K p0 p1 n s = some z1) (fun s => [(0, .im (.slice (.int .i16)) p0), (1, .im (.slice (.int .i16)) p1), (5, .int .i64 s)]) (fun s => []) K ?_ ?_
      · exact SP_ren [] _ h1 ⟨rfl, rfl, rfl, trivial⟩ trivial rfl
      rintro n x6 h1
      rcases n with _ | n
      · exact (nsome h1).elim
      replace h1 : psalteryref04_Same_2.r0 K p0 p1 (psalteryref04_Same_2.l0 K p0 p1 n) x6 = some z1 := h1
      refine TC_seq ?_
      refine TC_seq ?_
      refine TC_reg ?_
      refine TL_ev env 4 rfl ⟨trivial, ⟨trivial, ⟨⟨trivial, trivial⟩, ⟨⟨trivial, ⟨trivial, trivial⟩⟩, trivial⟩⟩⟩⟩ ?_
      refine TL_end ?_
      refine TE_go ?_
      refine TC_cond rfl (fun hb => ?_) (fun hb => ?_)
      · replace h1 := bif_t h1 hb
        refine TC_skip ?_
        refine TE_go ?_
        refine TC_seq ?_
        refine TC_blk ?_
        refine TC_seq ?_
        refine TC_renw (A' := [(0, .im (.slice (.int .i16)) _), (1, .im (.slice (.int .i16)) _), (5, .int .i64 _)]) (L' := []) [] ⟨rfl, rfl, rfl, trivial⟩ trivial rfl ?_
        refine TC_drawR ⟨_, fun i => ([[], [], [1, 0], [2, 1, 0], [], [], [5, 4], [6, 5, 4], [7, 6, 5, 4, 3, 2, 1, 0]] : List (List Nat)).getD i [], fun i => ([[], [], [], [], [], [], [], [], []] : List (List Nat)).getD i [], fun i => ([[], [], [], [], [], [], [], [], []] : List (List Nat)).getD i []⟩ (fun i => ([[], [], [], [], [], [], [], [], []] : List (List Nat)).getD i []) (by kernel_rfl) (by kernel_rfl) ?_
        refine AJR_ev env 1 rfl (Nat.le_of_ble_eq_true rfl) rfl trivial ?_
        refine AJR_ev env 2 rfl (Nat.le_of_ble_eq_true rfl) rfl trivial ?_
        obtain ⟨g, h1⟩ := gd_t h1
        refine AJR_ev env 3 rfl (Nat.le_of_ble_eq_true rfl) rfl ⟨trivial, ⟨trivial, ⟨g.1, g.2⟩⟩⟩ ?_
        refine AJR_ev env 4 rfl (Nat.le_of_ble_eq_true rfl) rfl ⟨trivial, trivial⟩ ?_
        refine AJR_ev env 5 rfl (Nat.le_of_ble_eq_true rfl) rfl trivial ?_
        refine AJR_ev env 6 rfl (Nat.le_of_ble_eq_true rfl) rfl trivial ?_
        obtain ⟨g, h1⟩ := gd_t h1
        refine AJR_ev env 7 rfl (Nat.le_of_ble_eq_true rfl) rfl ⟨trivial, ⟨trivial, ⟨g.1, g.2⟩⟩⟩ ?_
        refine AJR_ev env 8 rfl (Nat.le_of_ble_eq_true rfl) rfl ⟨trivial, trivial⟩ ?_
        refine AJR_ev env 9 rfl (Nat.le_of_ble_eq_true rfl) rfl ⟨trivial, ⟨trivial, trivial⟩⟩ ?_
        refine AJR_end rfl rfl rfl ?_
        refine TE_go ?_
        refine TC_cond rfl (fun hb => ?_) (fun hb => ?_)
        · replace h1 := bif_t h1 hb
          refine TC_seq ?_
          refine TC_reg ?_
          refine TL_ev env 1 rfl ⟨trivial, trivial⟩ ?_
          refine TL_end ?_
          refine TE_go ?_
          refine TC_ret ?_
          refine tbr ?_
          refine tsr ?_
          refine tsr ?_
          refine tbr ?_
          refine tsr ?_
          refine tsr ?_
          obtain rfl := sinj h1
          obtain rfl := sinj h0
          exact TE_ret env rfl trivial trivial
        · replace h1 := bif_f h1 hb
          refine TC_skip ?_
          refine tbn ?_
          refine TE_go ?_
          refine TC_reg ?_
          refine TL_ev env 3 rfl ⟨trivial, ⟨⟨trivial, ⟨trivial, trivial⟩⟩, ⟨trivial, trivial⟩⟩⟩ ?_
          refine TL_end ?_
          refine tsn ?_
          exact TE_nextr [] n (Nat.lt_succ_self n) _ h1 ⟨rfl, rfl, rfl, trivial⟩ trivial rfl
      · replace h1 := bif_f h1 hb
        refine TC_exit ?_
        refine tsx ?_
        refine tsx ?_
        refine tbe ?_
        obtain rfl := sinj h1
        refine tsn ?_
        exact SP_ren [] () rfl trivial trivial rfl
    · rintro ⟨⟩ rfl
      refine TE_go ?_
      refine TC_seq ?_
      refine TC_reg ?_
      refine TL_ev env 1 rfl ⟨trivial, trivial⟩ ?_
      refine TL_end ?_
      refine TE_go ?_
      refine TC_ret ?_
      obtain rfl := sinj h0
      exact TE_ret env rfl trivial trivial
theorem psalteryref04_Same_2.ok0 {K : Nat} {p0 : List (Int)} {p1 : List (Int)} {q0 : Bool} (h0 : psalteryref04_Same_2 K p0 p1 = some q0) : Fn Try.prog 22 [.im (.slice (.int .i16)) p0, .im (.slice (.int .i16)) p1] [] (.bool q0) [] := psalteryref04_Same_2.ok h0
theorem psalteryref04_Same_2.fnb : fnb Try.prog 22 = true := fnb_of Try.func22 rfl
def psalterylaw08_PolyJoins.res (_p0 : Bool) (_p1 : List (Int)) : Bool → MV
  | q0 => .bool q0
def psalterylaw08_PolyJoins.out (_p0 : Bool) (_p1 : List (Int)) : Bool → List (Nat × Option MObj)
  | _ => []
theorem psalterylaw08_PolyJoins.ok {K : Nat} {p0 : Bool} {p1 : List (Int)} {r : Bool} (h0 : psalterylaw08_PolyJoins K p0 p1 = some r) : Fn Try.prog 4 [.bool p0, .im (.slice (.int .i32)) p1] [] (psalterylaw08_PolyJoins.res p0 p1 r) (psalterylaw08_PolyJoins.out p0 p1 r) := by
  refine Fn_of Try.func4 rfl (Nat.le_of_ble_eq_true rfl) fun Γ => ?_
  refine TC_seq ?_
  refine TC_reg ?_
  refine TL_ev env 1 rfl ⟨trivial, trivial⟩ ?_
  refine TL_end ?_
  refine TE_go ?_
  refine TC_seq ?_
  refine TC_seq ?_
  refine TC_reg ?_
  obtain ⟨r55, hr, h0⟩ := bnd h0
  refine TL_callB [] (psalterylaw08_alive.ok0 hr) psalterylaw08_alive.fnb rfl ⟨trivial, trivial⟩ rfl trivial rfl ?_
  refine TL_ev env 1 rfl ⟨trivial, trivial⟩ ?_
  refine TL_end ?_
  refine TE_go ?_
  refine TC_cond rfl (fun hb => ?_) (fun hb => ?_)
  · replace h0 := bif_t h0 hb
    refine TC_seq ?_
    refine TC_reg ?_
    refine TL_ev env 1 rfl ⟨trivial, trivial⟩ ?_
    refine TL_end ?_
    refine TE_go ?_
    refine TC_ret ?_
    refine tsr ?_
    obtain rfl := sinj h0
    exact TE_ret env rfl trivial trivial
  · replace h0 := bif_f h0 hb
    refine TC_skip ?_
    refine TE_go ?_
    refine TC_seq ?_
    refine TC_seq ?_
    refine TC_reg ?_
    refine TL_ev env 3 rfl ⟨trivial, ⟨⟨trivial, trivial⟩, ⟨⟨trivial, ⟨trivial, trivial⟩⟩, trivial⟩⟩⟩ ?_
    refine TL_end ?_
    refine TE_go ?_
    refine TC_cond rfl (fun hb => ?_) (fun hb => ?_)
    · replace h0 := bif_t h0 hb
      refine TC_seq ?_
      refine TC_reg ?_
      refine TL_ev env 1 rfl ⟨trivial, trivial⟩ ?_
      refine TL_end ?_
      refine TE_go ?_
      refine TC_ret ?_
      refine tsr ?_
      obtain rfl := sinj h0
      exact TE_ret env rfl trivial trivial
    · replace h0 := bif_f h0 hb
      refine TC_skip ?_
      refine TE_go ?_
      refine TC_seq ?_
      refine TC_reg ?_
      refine TL_ev env 1 rfl ⟨trivial, trivial⟩ ?_
      refine TL_end ?_
      refine TE_go ?_
      refine TC_seq ?_
      refine TC_seq ?_
      refine TC_reg ?_
      refine TL_ev env 1 rfl ⟨trivial, trivial⟩ ?_
      refine TL_end ?_
      refine TE_go ?_
      obtain ⟨z1, h1, h0⟩ := bnd h0
      refine TC_cut (α := Int) (fun s => z1 = s) (fun s => [(1, .im (.slice (.int .i32)) p1), (5, .int .i64 s)]) (fun s => []) ?_ ?_
      · refine TC_cond rfl (fun hb => ?_) (fun hb => ?_)
        · replace h1 := bif_t h1 hb
          refine TC_reg ?_
          refine TL_ev env 1 rfl ⟨trivial, trivial⟩ ?_
          refine TL_end ?_
          obtain rfl := sinj h1
          refine tsn ?_
          exact SP_ren [] _ rfl ⟨rfl, rfl, trivial⟩ trivial rfl
        · replace h1 := bif_f h1 hb
          refine TC_skip ?_
          obtain rfl := sinj h1
          refine tsn ?_
          exact SP_ren [] _ rfl ⟨rfl, rfl, trivial⟩ trivial rfl
      · rintro x57 hz
        obtain rfl := hz.symm
        refine TE_go ?_
        refine TC_seq ?_
        refine TC_reg ?_
        obtain ⟨⟨⟩, hr, h0⟩ := bnd h0
        refine TL_callB [(1000, 500190)] (bank_New.ok0 hr) bank_New.fnb rfl ⟨trivial, trivial⟩ rfl trivial rfl ?_
        refine TL_ev env 1 rfl ⟨trivial, trivial⟩ ?_
        obtain ⟨z, hr, h0⟩ := bnd h0
        rcases z with ⟨r58, r59, r60⟩ | ⟨r61, r62, r63, r64, r65, r66⟩
        · refine TL_callB [(0, 500190)] (poly_NewJoiner.ok0 hr) poly_NewJoiner.fnb rfl ⟨trivial, ⟨trivial, ⟨trivial, trivial⟩⟩⟩ rfl ⟨.inr rfl, trivial⟩ rfl ?_
          refine TL_ev env 5 rfl ⟨trivial, ⟨trivial, ⟨trivial, ⟨trivial, ⟨trivial, trivial⟩⟩⟩⟩⟩ ?_
          refine TL_end ?_
          refine TE_go ?_
          refine TC_seq ?_
          refine TC_seq ?_
          refine TC_reg ?_
          refine TL_ev env 2 rfl ⟨trivial, ⟨⟨trivial, ⟨trivial, trivial⟩⟩, trivial⟩⟩ ?_
          refine TL_end ?_
          refine TE_go ?_
          refine TC_cond rfl (fun hb => ?_) (fun hb => ?_)
          · refine TC_seq ?_
            refine TC_reg ?_
            refine TL_ev env 1 rfl ⟨trivial, trivial⟩ ?_
            refine TL_end ?_
            refine TE_go ?_
            refine TC_ret ?_
            refine tsr ?_
            obtain rfl := sinj h0
            exact TE_ret env rfl trivial trivial
          · first | exact (ftf hb).elim | exact (tff hb).elim | exact absurd hb (by decide)
        · refine TL_callB [(0, 500190), (1000, 500210), (1001, 500211)] (poly_NewJoiner.ok1 hr) poly_NewJoiner.fnb rfl ⟨trivial, ⟨trivial, ⟨trivial, trivial⟩⟩⟩ rfl ⟨.inr rfl, trivial⟩ rfl ?_
          refine TL_ev env 5 rfl ⟨trivial, ⟨trivial, ⟨trivial, ⟨trivial, ⟨trivial, trivial⟩⟩⟩⟩⟩ ?_
          refine TL_end ?_
          refine TE_go ?_
          refine TC_seq ?_
          refine TC_seq ?_
          refine TC_reg ?_
          refine TL_ev env 2 rfl ⟨trivial, ⟨⟨trivial, ⟨trivial, trivial⟩⟩, trivial⟩⟩ ?_
          refine TL_end ?_
          refine TE_go ?_
          refine TC_cond rfl (fun hb => ?_) (fun hb => ?_)
          · first | exact (ftf hb).elim | exact (tff hb).elim | exact absurd hb (by decide)
          · refine TC_skip ?_
            refine TE_go ?_
            refine TC_seq ?_
            refine TC_reg ?_
            refine TL_ev env 2 rfl ⟨trivial, ⟨trivial, trivial⟩⟩ ?_
            obtain ⟨r67, hr, h0⟩ := bnd h0
            refine TL_callB [] (psalterylaw08_cut_int32.ok0 hr) psalterylaw08_cut_int32.fnb rfl ⟨trivial, ⟨trivial, ⟨trivial, trivial⟩⟩⟩ rfl trivial rfl ?_
            refine TL_ev env 1 rfl ⟨trivial, trivial⟩ ?_
            refine TL_end ?_
            refine TE_go ?_
            refine TC_seq ?_
            refine TC_seq ?_
            refine TC_reg ?_
            refine TL_ev env 1 rfl ⟨trivial, trivial⟩ ?_
            refine TL_end ?_
            refine TE_go ?_
            obtain ⟨z1, h1, h0⟩ := bnd h0
            refine TC_cut (α := Unit) (fun _ => z1 = .inl ()) (fun _ => []) (fun _ => []) ?_ ?_
            · refine TC_blk ?_
              refine TC_loop (α := Int × (List (Int))) (fun n s => psalterylaw08_PolyJoins.l0 K x57 r67 r64 r65 n s.1 s.2 = some z1) (fun s => [(5, .int .i64 x57), (6, .p 12200 0), (8, .im (.slice (.slice (.int .i32))) r67), (9, .int .i64 s.1)]) (fun s => [(12200, some (.cells [.int .i64 x57, .im (.slice (.int .i16)) r64, .im (.slice (.int .i16)) r65, .sl 12201])), (12201, some (.rows (.int .i64) s.2))]) K ?_ ?_
              · exact SP_ren [(12200, 500210), (12201, 500211)] (_, _) h1 ⟨rfl, rfl, rfl, rfl, trivial⟩ ⟨rfl, rfl, trivial⟩ rfl
              rintro n ⟨x128, x129⟩ h1
              rcases n with _ | n
              · exact (nsome h1).elim
              replace h1 : psalterylaw08_PolyJoins.r0 K x57 r67 r64 r65 (psalterylaw08_PolyJoins.l0 K x57 r67 r64 r65 n) x128 x129 = some z1 := h1
              refine TC_seq ?_
              refine TC_seq ?_
              refine TC_reg ?_
              refine TL_ev env 4 rfl ⟨trivial, ⟨trivial, ⟨⟨trivial, trivial⟩, ⟨⟨trivial, ⟨trivial, trivial⟩⟩, trivial⟩⟩⟩⟩ ?_
              refine TL_end ?_
              refine TE_go ?_
              refine TC_cond rfl (fun hb => ?_) (fun hb => ?_)
              · replace h1 := bif_t h1 hb
                refine TC_skip ?_
                refine TE_go ?_
                refine TC_seq ?_
                refine TC_blk ?_
                refine TC_seq ?_
                refine TC_reg ?_
                obtain ⟨g, h1⟩ := gd_t h1
                refine TL_ev env 5 rfl ⟨trivial, ⟨trivial, ⟨trivial, ⟨⟨trivial, ⟨trivial, ⟨g.1, g.2⟩⟩⟩, ⟨⟨trivial, trivial⟩, trivial⟩⟩⟩⟩⟩ ?_
                obtain ⟨z, hr, h1⟩ := bnd h1
                rcases z with ⟨⟩ | ⟨r164, r165⟩
                · refine TL_callB [(0, 12200), (1, 12201)] (poly_Joiner_Feed.ok0 hr) poly_Joiner_Feed.fnb rfl ⟨trivial, ⟨trivial, ⟨trivial, trivial⟩⟩⟩ rfl ⟨.inr rfl, .inr rfl, trivial⟩ rfl ?_
                  refine TL_ev env 5 rfl ⟨trivial, ⟨trivial, ⟨trivial, ⟨trivial, ⟨trivial, trivial⟩⟩⟩⟩⟩ ?_
                  refine TL_end ?_
                  refine TE_go ?_
                  refine TC_seq ?_
                  refine TC_reg ?_
                  refine TL_ev env 3 rfl ⟨trivial, ⟨⟨trivial, ⟨trivial, trivial⟩⟩, ⟨trivial, trivial⟩⟩⟩ ?_
                  refine TL_gf (.bool false) rfl rfl rfl rfl rfl (by decide) ?_
                  refine TL_gf (.bool false) rfl rfl rfl rfl rfl (by decide) ?_
                  refine TL_gf (.bool false) rfl rfl rfl rfl rfl (by decide) ?_
                  refine TL_gf (.bool false) rfl rfl rfl rfl rfl (by decide) ?_
                  refine TL_gf (.bool false) rfl rfl rfl rfl rfl (by decide) ?_
                  refine TL_gf (.bool false) rfl rfl rfl rfl rfl (by decide) ?_
                  refine TL_gf (.bool false) rfl rfl rfl rfl rfl (by decide) ?_
                  refine TL_gf (.bool false) rfl rfl rfl rfl rfl (by decide) ?_
                  refine TL_gf (.bool false) rfl rfl rfl rfl rfl (by decide) ?_
                  refine TL_ev env 1 rfl ⟨⟨trivial, ⟨trivial, fun e => e⟩⟩, trivial⟩ ?_
                  refine TL_end ?_
                  refine TE_go ?_
                  refine TC_cond rfl (fun hb => ?_) (fun hb => ?_)
                  · refine TC_seq ?_
                    refine TC_reg ?_
                    refine TL_ev env 1 rfl ⟨trivial, trivial⟩ ?_
                    refine TL_end ?_
                    refine TE_go ?_
                    refine TC_ret ?_
                    refine tbr ?_
                    refine tsr ?_
                    refine tsr ?_
                    refine tbr ?_
                    refine tsr ?_
                    refine tsr ?_
                    obtain rfl := sinj h1
                    obtain rfl := sinj h0
                    exact TE_ret env rfl trivial trivial
                  · first | exact (ftf hb).elim | exact (tff hb).elim | exact absurd hb (by decide)
                · refine TL_callB [(0, 12200), (1, 12201)] (poly_Joiner_Feed.ok1 hr) poly_Joiner_Feed.fnb rfl ⟨trivial, ⟨trivial, ⟨trivial, trivial⟩⟩⟩ rfl ⟨.inr rfl, .inr rfl, trivial⟩ rfl ?_
                  refine TL_ev env 5 rfl ⟨trivial, ⟨trivial, ⟨trivial, ⟨trivial, ⟨trivial, trivial⟩⟩⟩⟩⟩ ?_
                  refine TL_end ?_
                  refine TE_go ?_
                  refine TC_seq ?_
                  obtain ⟨z2, h2, h1⟩ := bnd h1
                  refine TC_cut (α := Int × (List (List (Int))) × (List (Int)) × Bool × Bool) (fun s => z2 = s) (fun s => [(5, .int .i64 x57), (6, .p 12700 0), (8, .im (.slice (.slice (.int .i32))) r67), (9, .int .i64 x128), (47, .im (.slice (.int .i16)) r164), (48, .im (.slice (.slice (.int .i32))) r67), (49, .int .i64 x128), (50, .int .i64 s.1), (51, .im (.slice (.slice (.int .i32))) s.2.1), (52, .int .i64 x57), (53, .im (.slice (.int .i16)) s.2.2.1), (54, .bool s.2.2.2.1), (55, .bool s.2.2.2.2), (56, .bool s.2.2.2.2)]) (fun s => [(12700, some (.cells [.int .i64 x57, .im (.slice (.int .i16)) r64, .im (.slice (.int .i16)) r65, .sl 12701])), (12701, some (.rows (.int .i64) r165))]) ?_ ?_
                  · refine TC_reg ?_
                    refine TL_ev env 3 rfl ⟨trivial, ⟨⟨trivial, ⟨trivial, trivial⟩⟩, ⟨trivial, trivial⟩⟩⟩ ?_
                    refine TL_gt rfl rfl rfl rfl ?_
                    refine TL_ev env 1 rfl ⟨trivial, trivial⟩ ?_
                    refine TL_gt rfl rfl rfl rfl ?_
                    refine TL_ev env 1 rfl ⟨trivial, trivial⟩ ?_
                    refine TL_gt rfl rfl rfl rfl ?_
                    refine TL_ev env 1 rfl ⟨trivial, trivial⟩ ?_
                    refine TL_gt rfl rfl rfl rfl ?_
                    refine TL_ev env 1 rfl ⟨⟨trivial, ⟨trivial, trivial⟩⟩, trivial⟩ ?_
                    refine TL_gt rfl rfl rfl rfl ?_
                    obtain ⟨g, h2⟩ := gd_t h2
                    refine TL_ev env 1 rfl ⟨⟨trivial, ⟨trivial, ⟨trivial, ⟨(by decide), ⟨g.1, g.2⟩⟩⟩⟩⟩, trivial⟩ ?_
                    refine TL_gt rfl rfl rfl rfl ?_
                    refine TL_ev env 1 rfl ⟨trivial, trivial⟩ ?_
                    refine TL_gt rfl rfl rfl rfl ?_
                    obtain ⟨z, hr, h2⟩ := bnd h2
                    rcases z with ⟨⟩ | r177
                    · refine TL_callB [] (psalteryref08_Join.ok0 hr) psalteryref08_Join.fnb rfl ⟨trivial, ⟨trivial, ⟨trivial, trivial⟩⟩⟩ rfl trivial rfl ?_
                      refine TL_gt rfl rfl rfl rfl ?_
                      obtain ⟨r178, hr, h2⟩ := bnd h2
                      refine TL_callB [] (psalteryref04_Same.ok0 hr) psalteryref04_Same.fnb rfl ⟨trivial, ⟨trivial, ⟨trivial, trivial⟩⟩⟩ rfl trivial rfl ?_
                      refine TL_gt rfl rfl rfl rfl ?_
                      refine TL_ev env 2 rfl ⟨trivial, ⟨⟨trivial, ⟨trivial, trivial⟩⟩, trivial⟩⟩ ?_
                      refine TL_end ?_
                      obtain rfl := sinj h2
                      refine tsn ?_
                      refine TE_imn 53 (.int .i16) rfl ?_
                      exact SP_ren [(12700, 12200), (12701, 12201)] (_, _, _, _, _) rfl ⟨rfl, rfl, rfl, rfl, rfl, rfl, rfl, rfl, rfl, rfl, rfl, rfl, rfl, rfl, trivial⟩ ⟨rfl, rfl, trivial⟩ rfl
                    · refine TL_callB [] (psalteryref08_Join.ok1 hr) psalteryref08_Join.fnb rfl ⟨trivial, ⟨trivial, ⟨trivial, trivial⟩⟩⟩ rfl trivial rfl ?_
                      refine TL_gt rfl rfl rfl rfl ?_
                      obtain ⟨r179, hr, h2⟩ := bnd h2
                      refine TL_callB [] (psalteryref04_Same_2.ok0 hr) psalteryref04_Same_2.fnb rfl ⟨trivial, ⟨trivial, ⟨trivial, trivial⟩⟩⟩ rfl trivial rfl ?_
                      refine TL_gt rfl rfl rfl rfl ?_
                      refine TL_ev env 2 rfl ⟨trivial, ⟨⟨trivial, ⟨trivial, trivial⟩⟩, trivial⟩⟩ ?_
                      refine TL_end ?_
                      obtain rfl := sinj h2
                      refine tsn ?_
                      exact SP_ren [(12700, 12200), (12701, 12201)] (_, _, _, _, _) rfl ⟨rfl, rfl, rfl, rfl, rfl, rfl, rfl, rfl, rfl, rfl, rfl, rfl, rfl, rfl, trivial⟩ ⟨rfl, rfl, trivial⟩ rfl
                  · rintro ⟨x169, x170, x171, x172, x173⟩ rfl
                    refine TE_go ?_
                    refine TC_cond rfl (fun hb => ?_) (fun hb => ?_)
                    · replace h1 := bif_t h1 hb
                      refine TC_seq ?_
                      refine TC_reg ?_
                      refine TL_ev env 1 rfl ⟨trivial, trivial⟩ ?_
                      refine TL_end ?_
                      refine TE_go ?_
                      refine TC_ret ?_
                      refine tbr ?_
                      refine tsr ?_
                      refine tsr ?_
                      refine tbr ?_
                      refine tsr ?_
                      refine tsr ?_
                      obtain rfl := sinj h1
                      obtain rfl := sinj h0
                      exact TE_ret env rfl trivial trivial
                    · replace h1 := bif_f h1 hb
                      refine TC_skip ?_
                      refine tbn ?_
                      refine TE_go ?_
                      refine TC_reg ?_
                      refine TL_ev env 3 rfl ⟨trivial, ⟨⟨trivial, ⟨trivial, trivial⟩⟩, ⟨trivial, trivial⟩⟩⟩ ?_
                      refine TL_end ?_
                      refine tsn ?_
                      exact TE_nextr [(12200, 12700), (12201, 12701)] n (Nat.lt_succ_self n) (_, _) h1 ⟨rfl, rfl, rfl, rfl, trivial⟩ ⟨rfl, rfl, trivial⟩ rfl
              · replace h1 := bif_f h1 hb
                refine TC_exit ?_
                refine tsx ?_
                refine tsx ?_
                refine tbe ?_
                obtain rfl := sinj h1
                refine tsn ?_
                exact SP_ren [] () rfl trivial trivial rfl
            · rintro ⟨⟩ rfl
              refine TE_go ?_
              refine TC_seq ?_
              refine TC_reg ?_
              refine TL_ev env 1 rfl ⟨trivial, trivial⟩ ?_
              refine TL_end ?_
              refine TE_go ?_
              refine TC_ret ?_
              obtain rfl := sinj h0
              exact TE_ret env rfl trivial trivial
theorem psalterylaw08_PolyJoins.ok0 {K : Nat} {p0 : Bool} {p1 : List (Int)} {q0 : Bool} (h0 : psalterylaw08_PolyJoins K p0 p1 = some q0) : Fn Try.prog 4 [.bool p0, .im (.slice (.int .i32)) p1] [] (.bool q0) [] := psalterylaw08_PolyJoins.ok h0
theorem psalterylaw08_PolyJoins.fnb : fnb Try.prog 4 = true := fnb_of Try.func4 rfl
end Go.Fo
