/- Each call comes to the function that is written for it. -/
import Derived.Test.YtphienllhdoenaaLoT
import Derived.Test.YtphienllhdoenaaLoF
import Derived.Test.YtphienllhdoenaaBx
import Derived.Test.YtphienllhdoenaaGx
import Derived.Test.YtphienllhdoenaaLoP0
namespace Go.Fo
open Go.Proofs
set_option maxRecDepth 20000
set_option maxHeartbeats 4000000
def lapped_Unlapper_Feed_2.res (_p0 : List (Int)) (_p1 : Int) (_p2 : List (Int)) (_p3 : List (Int)) (_p4 : List (Int)) : (Unit) ⊕ ((List (Int)) × (List (Int))) → MV
  | .inl () => .tup [.nils, .int .i64 1]
  | .inr (q0, _) => .tup [.im (.slice (.int .i32)) q0, .int .i64 0]
def lapped_Unlapper_Feed_2.out (_p0 : List (Int)) (p1 : Int) (p2 : List (Int)) (p3 : List (Int)) (p4 : List (Int)) : (Unit) ⊕ ((List (Int)) × (List (Int))) → List (Nat × Option MObj)
  | .inl () => [(0, some (.cells [.int .i64 p1, .im (.slice (.int .i16)) p2, .im (.slice (.int .i16)) p3, .sl 1])), (1, some (.rows (.int .i32) p4))]
  | .inr (_, q1) => [(0, some (.cells [.int .i64 p1, .im (.slice (.int .i16)) p2, .im (.slice (.int .i16)) p3, .sl 1])), (1, some (.rows (.int .i32) q1))]
theorem lapped_Unlapper_Feed_2.ok {K : Nat} {p0 : List (Int)} {p1 : Int} {p2 : List (Int)} {p3 : List (Int)} {p4 : List (Int)} {r : (Unit) ⊕ ((List (Int)) × (List (Int)))} (h0 : lapped_Unlapper_Feed_2 K p0 p1 p2 p3 p4 = some r) : Fn Try.prog 36 [.p 0 0, .im (.slice (.int .i32)) p0] [(0, some (.cells [.int .i64 p1, .im (.slice (.int .i16)) p2, .im (.slice (.int .i16)) p3, .sl 1])), (1, some (.rows (.int .i32) p4))] (lapped_Unlapper_Feed_2.res p0 p1 p2 p3 p4 r) (lapped_Unlapper_Feed_2.out p0 p1 p2 p3 p4 r) := by
  refine Fn_of Try.func36 rfl (Nat.le_of_ble_eq_true rfl) fun Γ => ?_
  refine TC_seq ?_
  refine TC_reg ?_
  refine TL_ev env 2 rfl ⟨tv, ⟨tv, tv⟩⟩ ?_
  refine TL_end ?_
  refine TE_go ?_
  refine TC_seq ?_
  refine TC_blk ?_
  refine TC_seq ?_
  refine TC_reg ?_
  refine TL_ev env 3 rfl ⟨tv, ⟨⟨tv, ⟨tv, tv⟩⟩, ⟨tv, tv⟩⟩⟩ ?_
  refine TL_end ?_
  refine TE_go ?_
  refine TC_cond rfl (fun hb => ?_) (fun hb => ?_)
  · first | exact (ftf hb).elim | exact (tff hb).elim | exact absurd hb (by decide)
  · refine TC_seq ?_
    refine TC_reg ?_
    refine TL_ev env 9 rfl ⟨tv, ⟨⟨tv, tv⟩, ⟨tv, ⟨tv, ⟨tv, ⟨tv, ⟨⟨tv, tv⟩, ⟨⟨tv, ⟨tv, tv⟩⟩, ⟨tv, tv⟩⟩⟩⟩⟩⟩⟩⟩⟩ ?_
    refine TL_end ?_
    refine TE_go ?_
    refine TC_cond rfl (fun hb => ?_) (fun hb => ?_)
    · replace h0 := bif_t h0 hb
      refine TC_seq ?_
      refine TC_reg ?_
      refine TL_ev env 2 rfl ⟨tv, ⟨tv, tv⟩⟩ ?_
      refine TL_end ?_
      refine TE_go ?_
      refine TC_ret ?_
      refine tbr ?_
      refine tsr ?_
      obtain rfl := sinj h0
      exact TE_ret env rfl tv ⟨.inr rfl, .inr rfl, tv⟩
    · replace h0 := bif_f h0 hb
      refine TC_skip ?_
      refine tbn ?_
      refine TE_go ?_
      refine TC_seq ?_
      refine TC_reg ?_
      obtain ⟨g, h0⟩ := gd_t h0
      refine TL_ev env 7 rfl ⟨tv, ⟨tv, ⟨tv, ⟨tv, ⟨⟨tv, tv⟩, ⟨⟨tv, ⟨tv, ⟨g.1, ⟨g.2.1, g.2.2⟩⟩⟩⟩, ⟨tv, tv⟩⟩⟩⟩⟩⟩⟩ ?_
      refine TL_end ?_
      refine TE_go ?_
      refine TC_seq ?_
      refine TC_seq ?_
      refine TC_reg ?_
      refine TL_ev env 3 rfl ⟨tv, ⟨⟨tv, tv⟩, ⟨tv, tv⟩⟩⟩ ?_
      refine TL_end ?_
      refine TE_go ?_
      obtain ⟨z1, h1, h0⟩ := bnd h0
      refine TC_cut (α := (List (Int))) (fun s => z1 = s) (fun s => [(0, .p 0 0), (1, .im (.slice (.int .i32)) p0), (6, .sl 11202)]) (fun s => [(0, some (.cells [.int .i64 p1, .im (.slice (.int .i16)) p2, .im (.slice (.int .i16)) p3, .sl 1])), (1, some (.rows (.int .i32) p4)), (11202, some (.rows (.int .i32) s))]) ?_ ?_
      · refine TC_blk ?_
        refine TC_loop (α := Int × (List (Int))) (fun n s => lapped_Unlapper_Feed_2.l1 K p0 ((List.replicate (Int.toNat p1) (0 : Int)).length : Int) p1 p2 p3 p4 n s.1 s.2 = some z1) (fun s => [(0, .p 0 0), (1, .im (.slice (.int .i32)) p0), (6, .sl 12102), (28, .int .i64 ((List.replicate (Int.toNat p1) (0 : Int)).length : Int)), (29, .int .i64 s.1)]) (fun s => [(0, some (.cells [.int .i64 p1, .im (.slice (.int .i16)) p2, .im (.slice (.int .i16)) p3, .sl 1])), (1, some (.rows (.int .i32) p4)), (12102, some (.rows (.int .i32) s.2))]) K ?_ ?_
        · exact SP_ren [(12102, 1026)] (_, _) h1 ⟨rfl, rfl, rfl, rfl, rfl, tv⟩ ⟨rfl, rfl, rfl, tv⟩ rfl
        rintro n ⟨x66, x67⟩ h1
        rcases n with _ | n
        · exact (nsome h1).elim
        replace h1 : lapped_Unlapper_Feed_2.r1 K p0 ((List.replicate (Int.toNat p1) (0 : Int)).length : Int) p1 p2 p3 p4 (lapped_Unlapper_Feed_2.l1 K p0 ((List.replicate (Int.toNat p1) (0 : Int)).length : Int) p1 p2 p3 p4 n) x66 x67 = some z1 := h1
        refine TC_seq ?_
        refine TC_reg ?_
        refine TL_ev env 1 rfl ⟨⟨tv, ⟨tv, tv⟩⟩, tv⟩ ?_
        refine TL_end ?_
        refine TE_go ?_
        refine TC_seq ?_
        refine TC_cond rfl (fun hb => ?_) (fun hb => ?_)
        · replace h1 := bif_t h1 hb
          refine TC_skip ?_
          refine TE_go ?_
          refine TC_seq ?_
          refine TC_blk ?_
          refine TC_seq ?_
          refine TC_reg ?_
          refine TL_ev env 2 rfl ⟨tv, ⟨tv, tv⟩⟩ ?_
          refine TL_end ?_
          refine TE_go ?_
          refine TC_renw (A' := [(0, .p 0 0), (1, .im (.slice (.int .i32)) _), (6, .sl 12102), (7, .int .i64 _), (28, .int .i64 _), (29, .int .i64 _)]) (L' := [(0, some (.cells [.int .i64 _, .im (.slice (.int .i16)) _, .im (.slice (.int .i16)) _, .sl 1])), (1, some (.rows (.int .i32) _)), (12102, some (.rows (.int .i32) _))]) [] ⟨rfl, rfl, rfl, rfl, rfl, rfl, tv⟩ ⟨rfl, rfl, rfl, tv⟩ rfl ?_
          refine TC_drawR ⟨_, fun i => ([[], [], [], [2], [3, 2], [4, 3, 2], [], [6, 5, 4, 3, 2], [7, 6, 5, 4, 3, 2], [], [], [], [11, 10, 9], [12, 11, 10, 9, 8, 7, 6, 5, 4, 3, 2], [13, 12, 11, 10, 9, 8, 7, 6, 5, 4, 3, 2, 1, 0], [14, 13, 12, 11, 10, 9, 8, 7, 6, 5, 4, 3, 2, 1, 0]] : List (List Nat)).getD i [], fun i => ([[], [], [], [], [], [], [], [], [], [], [], [], [], [], [], [12102]] : List (List Nat)).getD i [], fun i => ([[], [], [], [], [], [], [], [], [], [], [], [], [], [], [], []] : List (List Nat)).getD i []⟩ (fun i => ([[], [], [], [], [], [], [], [], [], [], [], [], [], [], [], []] : List (List Nat)).getD i []) (by kernel_rfl) (by kernel_rfl) ?_
          refine AJR_ev env 1 rfl (Nat.le_of_ble_eq_true rfl) rfl tv ?_
          refine AJR_ev env 2 rfl (Nat.le_of_ble_eq_true rfl) rfl tv ?_
          refine AJR_ev env 3 rfl (Nat.le_of_ble_eq_true rfl) rfl tv ?_
          refine AJR_ev env 4 rfl (Nat.le_of_ble_eq_true rfl) rfl tv ?_
          refine AJR_ev env 5 rfl (Nat.le_of_ble_eq_true rfl) rfl tv ?_
          refine AJR_ev env 6 rfl (Nat.le_of_ble_eq_true rfl) rfl ⟨tv, tv⟩ ?_
          refine AJR_ev env 7 rfl (Nat.le_of_ble_eq_true rfl) rfl tv ?_
          obtain ⟨g, h1⟩ := gd_t h1
          refine AJR_ev env 8 rfl (Nat.le_of_ble_eq_true rfl) rfl ⟨tv, ⟨tv, ⟨g.1, g.2⟩⟩⟩ ?_
          obtain ⟨g, h1⟩ := gd_t h1
          refine AJR_ev env 9 rfl (Nat.le_of_ble_eq_true rfl) rfl ⟨tv, g⟩ ?_
          refine AJR_ev env 10 rfl (Nat.le_of_ble_eq_true rfl) rfl tv ?_
          refine AJR_ev env 11 rfl (Nat.le_of_ble_eq_true rfl) rfl tv ?_
          refine AJR_ev env 12 rfl (Nat.le_of_ble_eq_true rfl) rfl tv ?_
          obtain ⟨r78, hr, h1⟩ := bnd h1
          refine AJR_callS 13 rfl (Nat.le_of_ble_eq_true rfl) [(0, 0), (1, 1)] rfl (lapped_Unlapper_sample_2.ok0 hr) lapped_Unlapper_sample_2.fnb rfl ⟨tv, ⟨tv, ⟨tv, ⟨tv, tv⟩⟩⟩⟩ rfl ⟨.inr rfl, .inr rfl, tv⟩ rfl ⟨⟨rfl, rfl⟩, ⟨rfl, rfl⟩, tv⟩ ?_
          obtain ⟨r79, hr, h1⟩ := bnd h1
          refine AJR_call 14 rfl (Nat.le_of_ble_eq_true rfl) [] rfl (fix_Add.ok0 hr) fix_Add.fnb rfl ⟨tv, ⟨tv, ⟨tv, tv⟩⟩⟩ rfl tv rfl ?_
          obtain ⟨g, h1⟩ := gd_t h1
          refine AJR_ev env 15 rfl (Nat.le_of_ble_eq_true rfl) rfl ⟨tv, ⟨tv, ⟨g.1, g.2⟩⟩⟩ ?_
          obtain ⟨g, h1⟩ := gd_t h1
          refine AJR_ev env 16 rfl (Nat.le_of_ble_eq_true rfl) rfl ⟨tv, ⟨tv, g⟩⟩ ?_
          refine AJR_end rfl rfl rfl ?_
          refine tbn ?_
          refine TE_go ?_
          refine TC_reg ?_
          refine TL_ev env 2 rfl ⟨⟨tv, ⟨tv, tv⟩⟩, ⟨tv, tv⟩⟩ ?_
          refine TL_end ?_
          refine tsn ?_
          exact TE_nextr [(12102, 12102)] n (Nat.lt_succ_self n) (_, _) h1 ⟨rfl, rfl, rfl, rfl, rfl, tv⟩ ⟨rfl, rfl, rfl, tv⟩ rfl
        · replace h1 := bif_f h1 hb
          refine TC_exit ?_
          refine tsx ?_
          refine tsx ?_
          refine tbe ?_
          obtain rfl := sinj h1
          refine tsn ?_
          exact SP_ren [(11202, 12102)] _ rfl ⟨rfl, rfl, rfl, tv⟩ ⟨rfl, rfl, rfl, tv⟩ rfl
      · rintro x38 hz
        obtain rfl := hz.symm
        refine TE_go ?_
        refine TC_seq ?_
        refine TC_seq ?_
        refine TC_reg ?_
        refine TL_ev env 6 rfl ⟨tv, ⟨tv, ⟨tv, ⟨⟨tv, tv⟩, ⟨⟨tv, tv⟩, ⟨tv, tv⟩⟩⟩⟩⟩⟩ ?_
        refine TL_end ?_
        refine TE_go ?_
        obtain ⟨z1, h1, h0⟩ := bnd h0
        refine TC_cut (α := (List (Int))) (fun s => z1 = s) (fun s => [(6, .sl 11602)]) (fun s => [(0, some (.cells [.int .i64 p1, .im (.slice (.int .i16)) p2, .im (.slice (.int .i16)) p3, .sl 1])), (1, some (.rows (.int .i32) s)), (11602, some (.rows (.int .i32) x38))]) ?_ ?_
        · refine TC_blk ?_
          refine TC_loop (α := Int × (List (Int))) (fun n s => lapped_Unlapper_Feed_2.l0 K p0 (p4.length : Int) p1 p2 p3 x38 n s.1 s.2 = some z1) (fun s => [(0, .p 0 0), (1, .im (.slice (.int .i32)) p0), (6, .sl 11802), (52, .int .i64 (p4.length : Int)), (53, .int .i64 s.1)]) (fun s => [(0, some (.cells [.int .i64 p1, .im (.slice (.int .i16)) p2, .im (.slice (.int .i16)) p3, .sl 1])), (1, some (.rows (.int .i32) s.2)), (11802, some (.rows (.int .i32) x38))]) K ?_ ?_
          · exact SP_ren [(11802, 11202)] (_, _) h1 ⟨rfl, rfl, rfl, rfl, rfl, tv⟩ ⟨rfl, rfl, rfl, tv⟩ rfl
          rintro n ⟨x50, x51⟩ h1
          rcases n with _ | n
          · exact (nsome h1).elim
          replace h1 : lapped_Unlapper_Feed_2.r0 K p0 (p4.length : Int) p1 p2 p3 x38 (lapped_Unlapper_Feed_2.l0 K p0 (p4.length : Int) p1 p2 p3 x38 n) x50 x51 = some z1 := h1
          refine TC_seq ?_
          refine TC_reg ?_
          refine TL_ev env 1 rfl ⟨⟨tv, ⟨tv, tv⟩⟩, tv⟩ ?_
          refine TL_end ?_
          refine TE_go ?_
          refine TC_seq ?_
          refine TC_cond rfl (fun hb => ?_) (fun hb => ?_)
          · replace h1 := bif_t h1 hb
            refine TC_skip ?_
            refine TE_go ?_
            refine TC_seq ?_
            refine TC_blk ?_
            refine TC_seq ?_
            refine TC_reg ?_
            refine TL_ev env 2 rfl ⟨tv, ⟨tv, tv⟩⟩ ?_
            refine TL_end ?_
            refine TE_go ?_
            refine TC_renw (A' := [(0, .p 0 0), (1, .im (.slice (.int .i32)) _), (6, .sl 11802), (8, .int .i64 _), (52, .int .i64 _), (53, .int .i64 _)]) (L' := [(0, some (.cells [.int .i64 _, .im (.slice (.int .i16)) _, .im (.slice (.int .i16)) _, .sl 1])), (1, some (.rows (.int .i32) _)), (11802, some (.rows (.int .i32) _))]) [] ⟨rfl, rfl, rfl, rfl, rfl, rfl, tv⟩ ⟨rfl, rfl, rfl, tv⟩ rfl ?_
            refine TC_drawR ⟨_, fun i => ([[], [0], [1, 0], [2, 1, 0], [], [], [], [], [7], [8, 7], [9, 8, 7], [10, 9, 8, 7], [], [12, 11, 10, 9, 8, 7], [13, 12, 11, 10, 9, 8, 7, 6, 5], [14, 13, 12, 11, 10, 9, 8, 7, 6, 5, 4, 3, 2, 1, 0], [15, 14, 13, 12, 11, 10, 9, 8, 7, 6, 5, 4, 3, 2, 1, 0]] : List (List Nat)).getD i [], fun i => ([[], [], [], [], [], [], [], [], [], [], [], [], [], [], [], [], [1]] : List (List Nat)).getD i [], fun i => ([[], [], [], [], [], [], [], [], [], [], [], [], [], [], [], [], []] : List (List Nat)).getD i []⟩ (fun i => ([[], [], [], [], [], [], [], [], [], [], [], [], [], [], [], [], []] : List (List Nat)).getD i []) (by kernel_rfl) (by kernel_rfl) ?_
            refine AJR_ev env 1 rfl (Nat.le_of_ble_eq_true rfl) rfl tv ?_
            refine AJR_ev env 2 rfl (Nat.le_of_ble_eq_true rfl) rfl tv ?_
            refine AJR_ev env 3 rfl (Nat.le_of_ble_eq_true rfl) rfl tv ?_
            refine AJR_ev env 4 rfl (Nat.le_of_ble_eq_true rfl) rfl ⟨tv, tv⟩ ?_
            refine AJR_ev env 5 rfl (Nat.le_of_ble_eq_true rfl) rfl tv ?_
            refine AJR_ev env 6 rfl (Nat.le_of_ble_eq_true rfl) rfl tv ?_
            refine AJR_ev env 7 rfl (Nat.le_of_ble_eq_true rfl) rfl tv ?_
            refine AJR_ev env 8 rfl (Nat.le_of_ble_eq_true rfl) rfl tv ?_
            refine AJR_ev env 9 rfl (Nat.le_of_ble_eq_true rfl) rfl tv ?_
            refine AJR_ev env 10 rfl (Nat.le_of_ble_eq_true rfl) rfl tv ?_
            refine AJR_ev env 11 rfl (Nat.le_of_ble_eq_true rfl) rfl tv ?_
            refine AJR_ev env 12 rfl (Nat.le_of_ble_eq_true rfl) rfl ⟨tv, tv⟩ ?_
            refine AJR_ev env 13 rfl (Nat.le_of_ble_eq_true rfl) rfl tv ?_
            refine AJR_ev env 14 rfl (Nat.le_of_ble_eq_true rfl) rfl ⟨tv, ⟨tv, tv⟩⟩ ?_
            obtain ⟨r59, hr, h1⟩ := bnd h1
            refine AJR_callS 15 rfl (Nat.le_of_ble_eq_true rfl) [(0, 0), (1, 1)] rfl (lapped_Unlapper_sample_2.ok0 hr) lapped_Unlapper_sample_2.fnb rfl ⟨tv, ⟨tv, ⟨tv, ⟨tv, tv⟩⟩⟩⟩ rfl ⟨.inr rfl, .inr rfl, tv⟩ rfl ⟨⟨rfl, rfl⟩, ⟨rfl, rfl⟩, tv⟩ ?_
            obtain ⟨g, h1⟩ := gd_t h1
            refine AJR_ev env 16 rfl (Nat.le_of_ble_eq_true rfl) rfl ⟨tv, ⟨tv, ⟨g.1, g.2⟩⟩⟩ ?_
            obtain ⟨g, h1⟩ := gd_t h1
            refine AJR_ev env 17 rfl (Nat.le_of_ble_eq_true rfl) rfl ⟨tv, ⟨tv, g⟩⟩ ?_
            refine AJR_end rfl rfl rfl ?_
            refine tbn ?_
            refine TE_go ?_
            refine TC_reg ?_
            refine TL_ev env 2 rfl ⟨⟨tv, ⟨tv, tv⟩⟩, ⟨tv, tv⟩⟩ ?_
            refine TL_end ?_
            refine tsn ?_
            exact TE_nextr [(11802, 11802)] n (Nat.lt_succ_self n) (_, _) h1 ⟨rfl, rfl, rfl, rfl, rfl, tv⟩ ⟨rfl, rfl, rfl, tv⟩ rfl
          · replace h1 := bif_f h1 hb
            refine TC_exit ?_
            refine tsx ?_
            refine tsx ?_
            refine tbe ?_
            obtain rfl := sinj h1
            refine tsn ?_
            exact SP_ren [(11602, 11802)] _ rfl ⟨rfl, tv⟩ ⟨rfl, rfl, rfl, tv⟩ rfl
        · rintro x47 hz
          obtain rfl := hz.symm
          refine TE_go ?_
          refine TC_seq ?_
          refine TC_reg ?_
          refine TL_ev env 3 rfl ⟨tv, ⟨tv, ⟨tv, tv⟩⟩⟩ ?_
          refine TL_end ?_
          refine TE_go ?_
          refine TC_ret ?_
          refine TE_frz 11602 rfl ?_
          obtain rfl := sinj h0
          exact TE_ret env rfl tv ⟨.inr rfl, .inr rfl, tv⟩
theorem lapped_Unlapper_Feed_2.ok0 {K : Nat} {p0 : List (Int)} {p1 : Int} {p2 : List (Int)} {p3 : List (Int)} {p4 : List (Int)}  (h0 : lapped_Unlapper_Feed_2 K p0 p1 p2 p3 p4 = some (.inl ())) : Fn Try.prog 36 [.p 0 0, .im (.slice (.int .i32)) p0] [(0, some (.cells [.int .i64 p1, .im (.slice (.int .i16)) p2, .im (.slice (.int .i16)) p3, .sl 1])), (1, some (.rows (.int .i32) p4))] (.tup [.nils, .int .i64 1]) [(0, some (.cells [.int .i64 p1, .im (.slice (.int .i16)) p2, .im (.slice (.int .i16)) p3, .sl 1])), (1, some (.rows (.int .i32) p4))] := lapped_Unlapper_Feed_2.ok h0
theorem lapped_Unlapper_Feed_2.ok1 {K : Nat} {p0 : List (Int)} {p1 : Int} {p2 : List (Int)} {p3 : List (Int)} {p4 : List (Int)} {q0 : List (Int)} {q1 : List (Int)} (h0 : lapped_Unlapper_Feed_2 K p0 p1 p2 p3 p4 = some (.inr (q0, q1))) : Fn Try.prog 36 [.p 0 0, .im (.slice (.int .i32)) p0] [(0, some (.cells [.int .i64 p1, .im (.slice (.int .i16)) p2, .im (.slice (.int .i16)) p3, .sl 1])), (1, some (.rows (.int .i32) p4))] (.tup [.im (.slice (.int .i32)) q0, .int .i64 0]) [(0, some (.cells [.int .i64 p1, .im (.slice (.int .i16)) p2, .im (.slice (.int .i16)) p3, .sl 1])), (1, some (.rows (.int .i32) q1))] := lapped_Unlapper_Feed_2.ok h0
theorem lapped_Unlapper_Feed_2.fnb : fnb Try.prog 36 = true := fnb_of Try.func36 rfl
def lapped_Lapper_Reset.res (_p0 : Int) (_p1 : List (Int)) (_p2 : List (Int)) (_p3 : List (Int)) : (List (Int)) → MV
  | _ => .tup []
def lapped_Lapper_Reset.out (p0 : Int) (p1 : List (Int)) (p2 : List (Int)) (_p3 : List (Int)) : (List (Int)) → List (Nat × Option MObj)
  | q0 => [(0, some (.cells [.int .i64 p0, .im (.slice (.int .i16)) p1, .im (.slice (.int .i16)) p2, .sl 1])), (1, some (.rows (.int .i16) q0))]
theorem lapped_Lapper_Reset.ok {K : Nat} {p0 : Int} {p1 : List (Int)} {p2 : List (Int)} {p3 : List (Int)} {r : (List (Int))} (h0 : lapped_Lapper_Reset K p0 p1 p2 p3 = some r) : Fn Try.prog 39 [.p 0 0] [(0, some (.cells [.int .i64 p0, .im (.slice (.int .i16)) p1, .im (.slice (.int .i16)) p2, .sl 1])), (1, some (.rows (.int .i16) p3))] (lapped_Lapper_Reset.res p0 p1 p2 p3 r) (lapped_Lapper_Reset.out p0 p1 p2 p3 r) := by
  refine Fn_of Try.func39 rfl (Nat.le_of_ble_eq_true rfl) fun Γ => ?_
  refine TC_seq ?_
  refine TC_reg ?_
  refine TL_ev env 2 rfl ⟨tv, ⟨⟨tv, ⟨tv, tv⟩⟩, tv⟩⟩ ?_
  refine TL_end ?_
  refine TE_go ?_
  refine TC_cond rfl (fun hb => ?_) (fun hb => ?_)
  · refine TC_reg ?_
    refine TL_ev env 5 rfl ⟨tv, ⟨tv, ⟨tv, ⟨⟨tv, tv⟩, ⟨⟨tv, tv⟩, tv⟩⟩⟩⟩⟩ ?_
    refine TL_end ?_
    obtain rfl := sinj h0
    exact TE_end env rfl tv ⟨.inr rfl, .inr rfl, tv⟩
  · first | exact (ftf hb).elim | exact (tff hb).elim | exact absurd hb (by decide)
theorem lapped_Lapper_Reset.ok0 {K : Nat} {p0 : Int} {p1 : List (Int)} {p2 : List (Int)} {p3 : List (Int)} {q0 : List (Int)} (h0 : lapped_Lapper_Reset K p0 p1 p2 p3 = some q0) : Fn Try.prog 39 [.p 0 0] [(0, some (.cells [.int .i64 p0, .im (.slice (.int .i16)) p1, .im (.slice (.int .i16)) p2, .sl 1])), (1, some (.rows (.int .i16) p3))] (.tup []) [(0, some (.cells [.int .i64 p0, .im (.slice (.int .i16)) p1, .im (.slice (.int .i16)) p2, .sl 1])), (1, some (.rows (.int .i16) q0))] := lapped_Lapper_Reset.ok h0
theorem lapped_Lapper_Reset.fnb : fnb Try.prog 39 = true := fnb_of Try.func39 rfl
def lapped_Unlapper_Reset.res (_p0 : Int) (_p1 : List (Int)) (_p2 : List (Int)) (_p3 : List (Int)) : (List (Int)) → MV
  | _ => .tup []
def lapped_Unlapper_Reset.out (p0 : Int) (p1 : List (Int)) (p2 : List (Int)) (_p3 : List (Int)) : (List (Int)) → List (Nat × Option MObj)
  | q0 => [(0, some (.cells [.int .i64 p0, .im (.slice (.int .i16)) p1, .im (.slice (.int .i16)) p2, .sl 1])), (1, some (.rows (.int .i32) q0))]
theorem lapped_Unlapper_Reset.ok {K : Nat} {p0 : Int} {p1 : List (Int)} {p2 : List (Int)} {p3 : List (Int)} {r : (List (Int))} (h0 : lapped_Unlapper_Reset K p0 p1 p2 p3 = some r) : Fn Try.prog 40 [.p 0 0] [(0, some (.cells [.int .i64 p0, .im (.slice (.int .i16)) p1, .im (.slice (.int .i16)) p2, .sl 1])), (1, some (.rows (.int .i32) p3))] (lapped_Unlapper_Reset.res p0 p1 p2 p3 r) (lapped_Unlapper_Reset.out p0 p1 p2 p3 r) := by
  refine Fn_of Try.func40 rfl (Nat.le_of_ble_eq_true rfl) fun Γ => ?_
  refine TC_seq ?_
  refine TC_reg ?_
  refine TL_ev env 2 rfl ⟨tv, ⟨⟨tv, ⟨tv, tv⟩⟩, tv⟩⟩ ?_
  refine TL_end ?_
  refine TE_go ?_
  refine TC_cond rfl (fun hb => ?_) (fun hb => ?_)
  · refine TC_reg ?_
    refine TL_ev env 5 rfl ⟨tv, ⟨tv, ⟨tv, ⟨⟨tv, tv⟩, ⟨⟨tv, tv⟩, tv⟩⟩⟩⟩⟩ ?_
    refine TL_end ?_
    obtain rfl := sinj h0
    exact TE_end env rfl tv ⟨.inr rfl, .inr rfl, tv⟩
  · first | exact (ftf hb).elim | exact (tff hb).elim | exact absurd hb (by decide)
theorem lapped_Unlapper_Reset.ok0 {K : Nat} {p0 : Int} {p1 : List (Int)} {p2 : List (Int)} {p3 : List (Int)} {q0 : List (Int)} (h0 : lapped_Unlapper_Reset K p0 p1 p2 p3 = some q0) : Fn Try.prog 40 [.p 0 0] [(0, some (.cells [.int .i64 p0, .im (.slice (.int .i16)) p1, .im (.slice (.int .i16)) p2, .sl 1])), (1, some (.rows (.int .i32) p3))] (.tup []) [(0, some (.cells [.int .i64 p0, .im (.slice (.int .i16)) p1, .im (.slice (.int .i16)) p2, .sl 1])), (1, some (.rows (.int .i32) q0))] := lapped_Unlapper_Reset.ok h0
theorem lapped_Unlapper_Reset.fnb : fnb Try.prog 40 = true := fnb_of Try.func40 rfl
def lapped_Lapper_Reset_2.res  : Unit → MV
  | () => .tup []
def lapped_Lapper_Reset_2.out  : Unit → List (Nat × Option MObj)
  | () => []
theorem lapped_Lapper_Reset_2.ok {K : Nat}  {r : Unit} (h0 : lapped_Lapper_Reset_2 K  = some r) : Fn Try.prog 39 [.nilp] [] (lapped_Lapper_Reset_2.res  r) (lapped_Lapper_Reset_2.out  r) := by
  refine Fn_of Try.func39 rfl (Nat.le_of_ble_eq_true rfl) fun Γ => ?_
  refine TC_seq ?_
  refine TC_reg ?_
  refine TL_ev env 2 rfl ⟨tv, ⟨⟨tv, ⟨tv, tv⟩⟩, tv⟩⟩ ?_
  refine TL_end ?_
  refine TE_go ?_
  refine TC_cond rfl (fun hb => ?_) (fun hb => ?_)
  · first | exact (ftf hb).elim | exact (tff hb).elim | exact absurd hb (by decide)
  · refine TC_skip ?_
    obtain rfl := sinj h0
    exact TE_end env rfl tv tv
theorem lapped_Lapper_Reset_2.ok0 {K : Nat}   (h0 : lapped_Lapper_Reset_2 K  = some ()) : Fn Try.prog 39 [.nilp] [] (.tup []) [] := lapped_Lapper_Reset_2.ok h0
theorem lapped_Lapper_Reset_2.fnb : fnb Try.prog 39 = true := fnb_of Try.func39 rfl
def lapped_Unlapper_Reset_2.res  : Unit → MV
  | () => .tup []
def lapped_Unlapper_Reset_2.out  : Unit → List (Nat × Option MObj)
  | () => []
theorem lapped_Unlapper_Reset_2.ok {K : Nat}  {r : Unit} (h0 : lapped_Unlapper_Reset_2 K  = some r) : Fn Try.prog 40 [.nilp] [] (lapped_Unlapper_Reset_2.res  r) (lapped_Unlapper_Reset_2.out  r) := by
  refine Fn_of Try.func40 rfl (Nat.le_of_ble_eq_true rfl) fun Γ => ?_
  refine TC_seq ?_
  refine TC_reg ?_
  refine TL_ev env 2 rfl ⟨tv, ⟨⟨tv, ⟨tv, tv⟩⟩, tv⟩⟩ ?_
  refine TL_end ?_
  refine TE_go ?_
  refine TC_cond rfl (fun hb => ?_) (fun hb => ?_)
  · first | exact (ftf hb).elim | exact (tff hb).elim | exact absurd hb (by decide)
  · refine TC_skip ?_
    obtain rfl := sinj h0
    exact TE_end env rfl tv tv
theorem lapped_Unlapper_Reset_2.ok0 {K : Nat}   (h0 : lapped_Unlapper_Reset_2 K  = some ()) : Fn Try.prog 40 [.nilp] [] (.tup []) [] := lapped_Unlapper_Reset_2.ok h0
theorem lapped_Unlapper_Reset_2.fnb : fnb Try.prog 40 = true := fnb_of Try.func40 rfl
def lapped_Lapper_Feed_2.res (_p0 : List (Int)) : Unit → MV
  | () => .tup [.nils, .int .i64 3]
def lapped_Lapper_Feed_2.out (_p0 : List (Int)) : Unit → List (Nat × Option MObj)
  | () => []
theorem lapped_Lapper_Feed_2.ok {K : Nat} {p0 : List (Int)} {r : Unit} (h0 : lapped_Lapper_Feed_2 K p0 = some r) : Fn Try.prog 30 [.nilp, .im (.slice (.int .i16)) p0] [] (lapped_Lapper_Feed_2.res p0 r) (lapped_Lapper_Feed_2.out p0 r) := by
  refine Fn_of Try.func30 rfl (Nat.le_of_ble_eq_true rfl) fun Γ => ?_
  refine TC_seq ?_
  refine TC_reg ?_
  refine TL_ev env 2 rfl ⟨tv, ⟨tv, tv⟩⟩ ?_
  refine TL_end ?_
  refine TE_go ?_
  refine TC_seq ?_
  refine TC_blk ?_
  refine TC_seq ?_
  refine TC_reg ?_
  refine TL_ev env 3 rfl ⟨tv, ⟨⟨tv, ⟨tv, tv⟩⟩, ⟨tv, tv⟩⟩⟩ ?_
  refine TL_end ?_
  refine TE_go ?_
  refine TC_cond rfl (fun hb => ?_) (fun hb => ?_)
  · refine TC_seq ?_
    refine TC_reg ?_
    refine TL_ev env 2 rfl ⟨tv, ⟨tv, tv⟩⟩ ?_
    refine TL_end ?_
    refine TE_go ?_
    refine TC_ret ?_
    refine tbr ?_
    refine tsr ?_
    obtain rfl := sinj h0
    exact TE_ret env rfl tv tv
  · first | exact (ftf hb).elim | exact (tff hb).elim | exact absurd hb (by decide)
theorem lapped_Lapper_Feed_2.ok0 {K : Nat} {p0 : List (Int)}  (h0 : lapped_Lapper_Feed_2 K p0 = some ()) : Fn Try.prog 30 [.nilp, .im (.slice (.int .i16)) p0] [] (.tup [.nils, .int .i64 3]) [] := lapped_Lapper_Feed_2.ok h0
theorem lapped_Lapper_Feed_2.fnb : fnb Try.prog 30 = true := fnb_of Try.func30 rfl
def lapped_Unlapper_Feed_3.res  : Unit → MV
  | () => .tup [.nils, .int .i64 3]
def lapped_Unlapper_Feed_3.out  : Unit → List (Nat × Option MObj)
  | () => []
theorem lapped_Unlapper_Feed_3.ok {K : Nat}  {r : Unit} (h0 : lapped_Unlapper_Feed_3 K  = some r) : Fn Try.prog 36 [.nilp, .nils] [] (lapped_Unlapper_Feed_3.res  r) (lapped_Unlapper_Feed_3.out  r) := by
  refine Fn_of Try.func36 rfl (Nat.le_of_ble_eq_true rfl) fun Γ => ?_
  refine TC_seq ?_
  refine TC_reg ?_
  refine TL_ev env 2 rfl ⟨tv, ⟨tv, tv⟩⟩ ?_
  refine TL_end ?_
  refine TE_go ?_
  refine TC_seq ?_
  refine TC_blk ?_
  refine TC_seq ?_
  refine TC_reg ?_
  refine TL_ev env 3 rfl ⟨tv, ⟨⟨tv, ⟨tv, tv⟩⟩, ⟨tv, tv⟩⟩⟩ ?_
  refine TL_end ?_
  refine TE_go ?_
  refine TC_cond rfl (fun hb => ?_) (fun hb => ?_)
  · refine TC_seq ?_
    refine TC_reg ?_
    refine TL_ev env 2 rfl ⟨tv, ⟨tv, tv⟩⟩ ?_
    refine TL_end ?_
    refine TE_go ?_
    refine TC_ret ?_
    refine tbr ?_
    refine tsr ?_
    obtain rfl := sinj h0
    exact TE_ret env rfl tv tv
  · first | exact (ftf hb).elim | exact (tff hb).elim | exact absurd hb (by decide)
theorem lapped_Unlapper_Feed_3.ok0 {K : Nat}   (h0 : lapped_Unlapper_Feed_3 K  = some ()) : Fn Try.prog 36 [.nilp, .nils] [] (.tup [.nils, .int .i64 3]) [] := lapped_Unlapper_Feed_3.ok h0
theorem lapped_Unlapper_Feed_3.fnb : fnb Try.prog 36 = true := fnb_of Try.func36 rfl
def psalterylaw09_LappedForgets.res (_p0 : Int) (_p1 : List (Int)) (_p2 : List (Int)) (_p3 : Bool) : Bool → MV
  | q0 => .bool q0
def psalterylaw09_LappedForgets.out (_p0 : Int) (_p1 : List (Int)) (_p2 : List (Int)) (_p3 : Bool) : Bool → List (Nat × Option MObj)
  | _ => []
theorem psalterylaw09_LappedForgets.ok {K : Nat} {p0 : Int} {p1 : List (Int)} {p2 : List (Int)} {p3 : Bool} {r : Bool} (h0 : psalterylaw09_LappedForgets K p0 p1 p2 p3 = some r) : Fn Try.prog 11 [.int .u8 p0, .im (.slice (.int .i16)) p1, .im (.slice (.int .i16)) p2, .bool p3] [] (psalterylaw09_LappedForgets.res p0 p1 p2 p3 r) (psalterylaw09_LappedForgets.out p0 p1 p2 p3 r) := by
  refine Fn_of Try.func11 rfl (Nat.le_of_ble_eq_true rfl) fun Γ => ?_
  refine TC_seq ?_
  refine TC_reg ?_
  refine TL_ev env 1 rfl ⟨tv, tv⟩ ?_
  refine TL_end ?_
  refine TE_go ?_
  refine TC_seq ?_
  refine TC_seq ?_
  refine TC_reg ?_
  obtain ⟨r237, hr, h0⟩ := bnd h0
  refine TL_callB [] (psalterylaw09_alive.ok0 hr) psalterylaw09_alive.fnb rfl ⟨tv, tv⟩ rfl tv rfl ?_
  refine TL_ev env 1 rfl ⟨tv, tv⟩ ?_
  refine TL_end ?_
  refine TE_go ?_
  refine TC_cond rfl (fun hb => ?_) (fun hb => ?_)
  · replace h0 := bif_t h0 hb
    refine TC_seq ?_
    refine TC_reg ?_
    refine TL_ev env 1 rfl ⟨tv, tv⟩ ?_
    refine TL_end ?_
    refine TE_go ?_
    refine TC_ret ?_
    refine tsr ?_
    obtain rfl := sinj h0
    exact TE_ret env rfl tv tv
  · replace h0 := bif_f h0 hb
    refine TC_skip ?_
    refine TE_go ?_
    refine TC_seq ?_
    refine TC_reg ?_
    refine TL_ev env 1 rfl ⟨tv, tv⟩ ?_
    obtain ⟨r238, hr, h0⟩ := bnd h0
    refine TL_callB [] (psalterylaw09_length.ok0 hr) psalterylaw09_length.fnb rfl ⟨tv, ⟨tv, tv⟩⟩ rfl tv rfl ?_
    refine TL_ev env 1 rfl ⟨tv, tv⟩ ?_
    refine TL_end ?_
    refine TE_go ?_
    refine TC_seq ?_
    refine TC_seq ?_
    refine TC_reg ?_
    refine TL_ev env 8 rfl ⟨tv, ⟨⟨tv, tv⟩, ⟨⟨tv, ⟨tv, tv⟩⟩, ⟨tv, ⟨fun eg => tv, ⟨fun eg => ⟨fun e => e, tv⟩, ⟨fun eg => ⟨fun e => e, ⟨tv, tv⟩⟩, ⟨⟨tv, ⟨tv, fun e => e⟩⟩, tv⟩⟩⟩⟩⟩⟩⟩⟩ ?_
    refine TL_end ?_
    refine TE_go ?_
    refine TC_cond rfl (fun hb => ?_) (fun hb => ?_)
    · replace h0 := bif_t h0 hb
      refine TC_seq ?_
      refine TC_reg ?_
      refine TL_ev env 1 rfl ⟨tv, tv⟩ ?_
      refine TL_end ?_
      refine TE_go ?_
      refine TC_ret ?_
      refine tsr ?_
      obtain rfl := sinj h0
      exact TE_ret env rfl tv tv
    · replace h0 := bif_f h0 hb
      refine TC_skip ?_
      refine TE_go ?_
      refine TC_seq ?_
      refine TC_reg ?_
      obtain ⟨⟨⟩, hr, h0⟩ := bnd h0
      refine TL_callB [(1000, 500490)] (bank_New.ok0 hr) bank_New.fnb rfl ⟨tv, tv⟩ rfl tv rfl ?_
      refine TL_ev env 1 rfl ⟨tv, tv⟩ ?_
      refine TL_end ?_
      refine TE_go ?_
      refine TC_seq ?_
      refine TC_reg ?_
      refine TL_ev env 2 rfl ⟨tv, ⟨tv, tv⟩⟩ ?_
      obtain ⟨z, hr, h0⟩ := bnd h0
      rcases z with ⟨r242, r243, r244⟩ | ⟨r245, r246, r247, r248, r249, r250⟩
      · exact (nsome h0).elim
      · refine TL_callB [(0, 500490), (1000, 500530), (1001, 500531)] (lapped_NewLapper.ok1 hr) lapped_NewLapper.fnb rfl ⟨tv, ⟨tv, ⟨tv, tv⟩⟩⟩ rfl ⟨.inr rfl, tv⟩ rfl ?_
        refine TL_ev env 5 rfl ⟨tv, ⟨tv, ⟨tv, ⟨tv, ⟨tv, tv⟩⟩⟩⟩⟩ ?_
        refine TL_end ?_
        refine TE_go ?_
        refine TC_seq ?_
        refine TC_reg ?_
        refine TL_ev env 2 rfl ⟨tv, ⟨tv, tv⟩⟩ ?_
        obtain ⟨z, hr, h0⟩ := bnd h0
        rcases z with ⟨r251, r252, r253⟩ | ⟨r254, r255, r256, r257, r258, r259⟩
        · exact (nsome h0).elim
        · refine TL_callB [(0, 500490), (1000, 500590), (1001, 500591)] (lapped_NewLapper.ok1 hr) lapped_NewLapper.fnb rfl ⟨tv, ⟨tv, ⟨tv, tv⟩⟩⟩ rfl ⟨.inr rfl, tv⟩ rfl ?_
          refine TL_ev env 5 rfl ⟨tv, ⟨tv, ⟨tv, ⟨tv, ⟨tv, tv⟩⟩⟩⟩⟩ ?_
          refine TL_end ?_
          refine TE_go ?_
          refine TC_seq ?_
          refine TC_reg ?_
          refine TL_ev env 2 rfl ⟨tv, ⟨tv, tv⟩⟩ ?_
          obtain ⟨z, hr, h0⟩ := bnd h0
          rcases z with ⟨r260, r261, r262⟩ | ⟨r263, r264, r265, r266, r267, r268⟩
          · exact (nsome h0).elim
          · refine TL_callB [(0, 500490), (1000, 500650), (1001, 500651)] (lapped_NewUnlapper.ok1 hr) lapped_NewUnlapper.fnb rfl ⟨tv, ⟨tv, ⟨tv, tv⟩⟩⟩ rfl ⟨.inr rfl, tv⟩ rfl ?_
            refine TL_ev env 5 rfl ⟨tv, ⟨tv, ⟨tv, ⟨tv, ⟨tv, tv⟩⟩⟩⟩⟩ ?_
            refine TL_end ?_
            refine TE_go ?_
            refine TC_seq ?_
            refine TC_reg ?_
            refine TL_ev env 2 rfl ⟨tv, ⟨tv, tv⟩⟩ ?_
            obtain ⟨z, hr, h0⟩ := bnd h0
            rcases z with ⟨r269, r270, r271⟩ | ⟨r272, r273, r274, r275, r276, r277⟩
            · exact (nsome h0).elim
            · refine TL_callB [(0, 500490), (1000, 500710), (1001, 500711)] (lapped_NewUnlapper.ok1 hr) lapped_NewUnlapper.fnb rfl ⟨tv, ⟨tv, ⟨tv, tv⟩⟩⟩ rfl ⟨.inr rfl, tv⟩ rfl ?_
              refine TL_ev env 5 rfl ⟨tv, ⟨tv, ⟨tv, ⟨tv, ⟨tv, tv⟩⟩⟩⟩⟩ ?_
              refine TL_end ?_
              refine TE_go ?_
              refine TC_seq ?_
              refine TC_seq ?_
              refine TC_reg ?_
              refine TL_ev env 1 rfl ⟨tv, tv⟩ ?_
              refine TL_end ?_
              refine TE_go ?_
              obtain ⟨z1, h1, h0⟩ := bnd h0
              refine TC_cut (α := (List (Int)) × (List (Int))) (fun s => z1 = s) (fun s => [(1, .im (.slice (.int .i16)) p1), (2, .im (.slice (.int .i16)) p2), (3, .bool p3), (9, .int .i64 r238), (11, .p 12100 0), (13, .p 12101 0), (15, .p 12102 0), (17, .p 12103 0)]) (fun s => [(12100, some (.cells [.int .i64 r238, .im (.slice (.int .i16)) r248, .im (.slice (.int .i16)) r249, .sl 12104])), (12101, some (.cells [.int .i64 r238, .im (.slice (.int .i16)) r257, .im (.slice (.int .i16)) r258, .sl 12105])), (12102, some (.cells [.int .i64 r238, .im (.slice (.int .i16)) r266, .im (.slice (.int .i16)) r267, .sl 12106])), (12103, some (.cells [.int .i64 r238, .im (.slice (.int .i16)) r275, .im (.slice (.int .i16)) r276, .sl 12107])), (12104, some (.rows (.int .i16) s.1)), (12105, some (.rows (.int .i16) r259)), (12106, some (.rows (.int .i32) s.2)), (12107, some (.rows (.int .i32) r277))]) ?_ ?_
              · refine TC_blk ?_
                refine TC_loop (α := Int × (List (Int)) × (List (Int))) (fun n s => psalterylaw09_LappedForgets.l1 K p1 p2 p3 r238 r248 r249 r257 r258 r266 r267 r275 r276 r259 r277 n s.1 s.2.1 s.2.2 = some z1) (fun s => [(1, .im (.slice (.int .i16)) p1), (2, .im (.slice (.int .i16)) p2), (3, .bool p3), (9, .int .i64 r238), (11, .p 14200 0), (13, .p 14201 0), (15, .p 14202 0), (17, .p 14203 0), (19, .int .i64 s.1)]) (fun s => [(14200, some (.cells [.int .i64 r238, .im (.slice (.int .i16)) r248, .im (.slice (.int .i16)) r249, .sl 14204])), (14201, some (.cells [.int .i64 r238, .im (.slice (.int .i16)) r257, .im (.slice (.int .i16)) r258, .sl 14205])), (14202, some (.cells [.int .i64 r238, .im (.slice (.int .i16)) r266, .im (.slice (.int .i16)) r267, .sl 14206])), (14203, some (.cells [.int .i64 r238, .im (.slice (.int .i16)) r275, .im (.slice (.int .i16)) r276, .sl 14207])), (14204, some (.rows (.int .i16) s.2.1)), (14205, some (.rows (.int .i16) r259)), (14206, some (.rows (.int .i32) s.2.2)), (14207, some (.rows (.int .i32) r277))]) K ?_ ?_
                · exact SP_ren [(14200, 500530), (14201, 500590), (14202, 500650), (14203, 500710), (14204, 500531), (14205, 500591), (14206, 500651), (14207, 500711)] (_, _, _) h1 ⟨rfl, rfl, rfl, rfl, rfl, rfl, rfl, rfl, rfl, tv⟩ ⟨rfl, rfl, rfl, rfl, rfl, rfl, rfl, rfl, tv⟩ rfl
                rintro n ⟨x736, x737, x738⟩ h1
                rcases n with _ | n
                · exact (nsome h1).elim
                replace h1 : psalterylaw09_LappedForgets.r1 K p1 p2 p3 r238 r248 r249 r257 r258 r266 r267 r275 r276 r259 r277 (psalterylaw09_LappedForgets.l1 K p1 p2 p3 r238 r248 r249 r257 r258 r266 r267 r275 r276 r259 r277 n) x736 x737 x738 = some z1 := h1
                refine TC_seq ?_
                refine TC_seq ?_
                refine TC_reg ?_
                refine TL_ev env 4 rfl ⟨tv, ⟨tv, ⟨⟨tv, tv⟩, ⟨⟨tv, ⟨tv, tv⟩⟩, tv⟩⟩⟩⟩ ?_
                refine TL_end ?_
                refine TE_go ?_
                refine TC_cond rfl (fun hb => ?_) (fun hb => ?_)
                · replace h1 := bif_t h1 hb
                  refine TC_skip ?_
                  refine TE_go ?_
                  refine TC_seq ?_
                  obtain ⟨z2, h2, h1⟩ := bnd h1
                  refine TC_cut (α := (List (Int)) × (List (Int))) (fun s => z2 = s) (fun s => [(1, .im (.slice (.int .i16)) p1), (2, .im (.slice (.int .i16)) p2), (3, .bool p3), (9, .int .i64 r238), (11, .p 14500 0), (13, .p 14501 0), (15, .p 14502 0), (17, .p 14503 0), (19, .int .i64 x736)]) (fun s => [(14500, some (.cells [.int .i64 r238, .im (.slice (.int .i16)) r248, .im (.slice (.int .i16)) r249, .sl 14504])), (14501, some (.cells [.int .i64 r238, .im (.slice (.int .i16)) r257, .im (.slice (.int .i16)) r258, .sl 14505])), (14502, some (.cells [.int .i64 r238, .im (.slice (.int .i16)) r266, .im (.slice (.int .i16)) r267, .sl 14506])), (14503, some (.cells [.int .i64 r238, .im (.slice (.int .i16)) r275, .im (.slice (.int .i16)) r276, .sl 14507])), (14504, some (.rows (.int .i16) s.1)), (14505, some (.rows (.int .i16) r259)), (14506, some (.rows (.int .i32) s.2)), (14507, some (.rows (.int .i32) r277))]) ?_ ?_
                  · refine TC_blk ?_
                    refine TC_seq ?_
                    refine TC_reg ?_
                    refine TL_ev env 4 rfl ⟨tv, ⟨tv, ⟨tv, ⟨tv, tv⟩⟩⟩⟩ ?_
                    obtain ⟨r762, hr, h2⟩ := bnd h2
                    refine TL_callB [] (psalterylaw09_padded.ok0 hr) psalterylaw09_padded.fnb rfl ⟨tv, ⟨tv, ⟨tv, ⟨tv, tv⟩⟩⟩⟩ rfl tv rfl ?_
                    obtain ⟨z, hr, h2⟩ := bnd h2
                    rcases z with ⟨⟩ | ⟨r763, r764⟩
                    · refine TL_callB [(0, 14200), (1, 14204)] (lapped_Lapper_Feed.ok0 hr) lapped_Lapper_Feed.fnb rfl ⟨tv, ⟨tv, ⟨tv, tv⟩⟩⟩ rfl ⟨.inr rfl, .inr rfl, tv⟩ rfl ?_
                      refine TL_ev env 5 rfl ⟨tv, ⟨tv, ⟨tv, ⟨tv, ⟨tv, tv⟩⟩⟩⟩⟩ ?_
                      refine TL_end ?_
                      refine TE_go ?_
                      refine TC_reg ?_
                      refine TL_ev env 2 rfl ⟨tv, ⟨tv, tv⟩⟩ ?_
                      obtain ⟨z, hr, h2⟩ := bnd h2
                      rcases z with ⟨⟩ | ⟨r765, r766⟩
                      · refine TL_callB [(0, 14202), (1, 14206)] (lapped_Unlapper_Feed.ok0 hr) lapped_Unlapper_Feed.fnb rfl ⟨tv, ⟨tv, ⟨tv, tv⟩⟩⟩ rfl ⟨.inr rfl, .inr rfl, tv⟩ rfl ?_
                        refine TL_end ?_
                        refine tbn ?_
                        obtain rfl := sinj h2
                        refine tsn ?_
                        exact SP_ren [(14500, 14200), (14501, 14201), (14502, 14202), (14503, 14203), (14504, 14204), (14505, 14205), (14506, 14206), (14507, 14207)] (_, _) rfl ⟨rfl, rfl, rfl, rfl, rfl, rfl, rfl, rfl, rfl, tv⟩ ⟨rfl, rfl, rfl, rfl, rfl, rfl, rfl, rfl, tv⟩ rfl
                      · refine TL_callB [(0, 14202), (1, 14206)] (lapped_Unlapper_Feed.ok1 hr) lapped_Unlapper_Feed.fnb rfl ⟨tv, ⟨tv, ⟨tv, tv⟩⟩⟩ rfl ⟨.inr rfl, .inr rfl, tv⟩ rfl ?_
                        refine TL_end ?_
                        refine tbn ?_
                        obtain rfl := sinj h2
                        refine tsn ?_
                        exact SP_ren [(14500, 14200), (14501, 14201), (14502, 14202), (14503, 14203), (14504, 14204), (14505, 14205), (14506, 14206), (14507, 14207)] (_, _) rfl ⟨rfl, rfl, rfl, rfl, rfl, rfl, rfl, rfl, rfl, tv⟩ ⟨rfl, rfl, rfl, rfl, rfl, rfl, rfl, rfl, tv⟩ rfl
                    · refine TL_callB [(0, 14200), (1, 14204)] (lapped_Lapper_Feed.ok1 hr) lapped_Lapper_Feed.fnb rfl ⟨tv, ⟨tv, ⟨tv, tv⟩⟩⟩ rfl ⟨.inr rfl, .inr rfl, tv⟩ rfl ?_
                      refine TL_ev env 5 rfl ⟨tv, ⟨tv, ⟨tv, ⟨tv, ⟨tv, tv⟩⟩⟩⟩⟩ ?_
                      refine TL_end ?_
                      refine TE_go ?_
                      refine TC_reg ?_
                      refine TL_ev env 2 rfl ⟨tv, ⟨tv, tv⟩⟩ ?_
                      obtain ⟨z, hr, h2⟩ := bnd h2
                      rcases z with ⟨⟩ | ⟨r767, r768⟩
                      · refine TL_callB [(0, 14202), (1, 14206)] (lapped_Unlapper_Feed_2.ok0 hr) lapped_Unlapper_Feed_2.fnb rfl ⟨tv, ⟨tv, ⟨tv, tv⟩⟩⟩ rfl ⟨.inr rfl, .inr rfl, tv⟩ rfl ?_
                        refine TL_end ?_
                        refine tbn ?_
                        obtain rfl := sinj h2
                        refine tsn ?_
                        exact SP_ren [(14500, 14200), (14501, 14201), (14502, 14202), (14503, 14203), (14504, 14204), (14505, 14205), (14506, 14206), (14507, 14207)] (_, _) rfl ⟨rfl, rfl, rfl, rfl, rfl, rfl, rfl, rfl, rfl, tv⟩ ⟨rfl, rfl, rfl, rfl, rfl, rfl, rfl, rfl, tv⟩ rfl
                      · refine TL_callB [(0, 14202), (1, 14206)] (lapped_Unlapper_Feed_2.ok1 hr) lapped_Unlapper_Feed_2.fnb rfl ⟨tv, ⟨tv, ⟨tv, tv⟩⟩⟩ rfl ⟨.inr rfl, .inr rfl, tv⟩ rfl ?_
                        refine TL_end ?_
                        refine tbn ?_
                        obtain rfl := sinj h2
                        refine tsn ?_
                        exact SP_ren [(14500, 14200), (14501, 14201), (14502, 14202), (14503, 14203), (14504, 14204), (14505, 14205), (14506, 14206), (14507, 14207)] (_, _) rfl ⟨rfl, rfl, rfl, rfl, rfl, rfl, rfl, rfl, rfl, tv⟩ ⟨rfl, rfl, rfl, rfl, rfl, rfl, rfl, rfl, tv⟩ rfl
                  · rintro ⟨x759, x760⟩ rfl
                    refine TE_go ?_
                    refine TC_reg ?_
                    refine TL_ev env 4 rfl ⟨tv, ⟨tv, ⟨⟨tv, ⟨tv, tv⟩⟩, ⟨tv, tv⟩⟩⟩⟩ ?_
                    refine TL_end ?_
                    refine tsn ?_
                    exact TE_nextr [(14200, 14500), (14201, 14501), (14202, 14502), (14203, 14503), (14204, 14504), (14205, 14505), (14206, 14506), (14207, 14507)] n (Nat.lt_succ_self n) (_, _, _) h1 ⟨rfl, rfl, rfl, rfl, rfl, rfl, rfl, rfl, rfl, tv⟩ ⟨rfl, rfl, rfl, rfl, rfl, rfl, rfl, rfl, tv⟩ rfl
                · replace h1 := bif_f h1 hb
                  refine TC_exit ?_
                  refine tsx ?_
                  refine tsx ?_
                  refine tbe ?_
                  obtain rfl := sinj h1
                  refine tsn ?_
                  exact SP_ren [(12100, 14200), (12101, 14201), (12102, 14202), (12103, 14203), (12104, 14204), (12105, 14205), (12106, 14206), (12107, 14207)] (_, _) rfl ⟨rfl, rfl, rfl, rfl, rfl, rfl, rfl, rfl, tv⟩ ⟨rfl, rfl, rfl, rfl, rfl, rfl, rfl, rfl, tv⟩ rfl
              · rintro ⟨x302, x303⟩ rfl
                refine TE_go ?_
                refine TC_seq ?_
                refine TC_seq ?_
                refine TC_reg ?_
                refine TL_ev env 1 rfl ⟨tv, tv⟩ ?_
                refine TL_end ?_
                refine TE_go ?_
                obtain ⟨z1, h1, h0⟩ := bnd h0
                refine TC_cut (α := (List (Int)) × (List (Int))) (fun s => z1 = s) (fun s => [(1, .im (.slice (.int .i16)) p1), (2, .im (.slice (.int .i16)) p2), (9, .int .i64 r238), (11, .p 12200 0), (13, .p 12201 0), (15, .p 12202 0), (17, .p 12203 0)]) (fun s => [(12200, some (.cells [.int .i64 r238, .im (.slice (.int .i16)) r248, .im (.slice (.int .i16)) r249, .sl 12204])), (12201, some (.cells [.int .i64 r238, .im (.slice (.int .i16)) r257, .im (.slice (.int .i16)) r258, .sl 12205])), (12202, some (.cells [.int .i64 r238, .im (.slice (.int .i16)) r266, .im (.slice (.int .i16)) r267, .sl 12206])), (12203, some (.cells [.int .i64 r238, .im (.slice (.int .i16)) r275, .im (.slice (.int .i16)) r276, .sl 12207])), (12204, some (.rows (.int .i16) s.1)), (12205, some (.rows (.int .i16) r259)), (12206, some (.rows (.int .i32) s.2)), (12207, some (.rows (.int .i32) r277))]) ?_ ?_
                · refine TC_cond rfl (fun hb => ?_) (fun hb => ?_)
                  · replace h1 := bif_t h1 hb
                    refine TC_seq ?_
                    refine TC_reg ?_
                    refine TL_ev env 1 rfl ⟨tv, tv⟩ ?_
                    obtain ⟨r718, hr, h1⟩ := bnd h1
                    refine TL_callB [(0, 12100), (1, 12104)] (lapped_Lapper_Reset.ok0 hr) lapped_Lapper_Reset.fnb rfl ⟨tv, ⟨tv, tv⟩⟩ rfl ⟨.inr rfl, .inr rfl, tv⟩ rfl ?_
                    refine TL_end ?_
                    refine TE_go ?_
                    refine TC_reg ?_
                    refine TL_ev env 1 rfl ⟨tv, tv⟩ ?_
                    obtain ⟨r719, hr, h1⟩ := bnd h1
                    refine TL_callB [(0, 12102), (1, 12106)] (lapped_Unlapper_Reset.ok0 hr) lapped_Unlapper_Reset.fnb rfl ⟨tv, ⟨tv, tv⟩⟩ rfl ⟨.inr rfl, .inr rfl, tv⟩ rfl ?_
                    refine TL_end ?_
                    obtain rfl := sinj h1
                    refine tsn ?_
                    exact SP_ren [(12200, 12100), (12201, 12101), (12202, 12102), (12203, 12103), (12204, 12104), (12205, 12105), (12206, 12106), (12207, 12107)] (_, _) rfl ⟨rfl, rfl, rfl, rfl, rfl, rfl, rfl, tv⟩ ⟨rfl, rfl, rfl, rfl, rfl, rfl, rfl, rfl, tv⟩ rfl
                  · replace h1 := bif_f h1 hb
                    refine TC_seq ?_
                    refine TC_reg ?_
                    obtain ⟨g, h1⟩ := gd_t h1
                    refine TL_ev env 3 rfl ⟨tv, ⟨tv, ⟨⟨tv, ⟨tv, ⟨g.1, ⟨g.2.1, g.2.2⟩⟩⟩⟩, tv⟩⟩⟩ ?_
                    refine TL_frz 1100 rfl ?_
                    obtain ⟨z, hr, h1⟩ := bnd h1
                    rcases z with ⟨⟩ | ⟨r721, r722⟩
                    · refine TL_callB [(0, 12100), (1, 12104)] (lapped_Lapper_Feed.ok0 hr) lapped_Lapper_Feed.fnb rfl ⟨tv, ⟨tv, ⟨tv, tv⟩⟩⟩ rfl ⟨.inr rfl, .inr rfl, tv⟩ rfl ?_
                      refine TL_end ?_
                      refine TE_go ?_
                      refine TC_reg ?_
                      obtain ⟨g, h1⟩ := gd_t h1
                      refine TL_ev env 3 rfl ⟨tv, ⟨tv, ⟨⟨tv, ⟨tv, ⟨g.1, ⟨g.2.1, g.2.2⟩⟩⟩⟩, tv⟩⟩⟩ ?_
                      refine TL_frz 1104 rfl ?_
                      obtain ⟨z, hr, h1⟩ := bnd h1
                      rcases z with ⟨⟩ | ⟨r723, r724⟩
                      · refine TL_callB [(0, 12102), (1, 12106)] (lapped_Unlapper_Feed_2.ok0 hr) lapped_Unlapper_Feed_2.fnb rfl ⟨tv, ⟨tv, ⟨tv, tv⟩⟩⟩ rfl ⟨.inr rfl, .inr rfl, tv⟩ rfl ?_
                        refine TL_end ?_
                        obtain rfl := sinj h1
                        refine tsn ?_
                        exact SP_ren [(12200, 12100), (12201, 12101), (12202, 12102), (12203, 12103), (12204, 12104), (12205, 12105), (12206, 12106), (12207, 12107)] (_, _) rfl ⟨rfl, rfl, rfl, rfl, rfl, rfl, rfl, tv⟩ ⟨rfl, rfl, rfl, rfl, rfl, rfl, rfl, rfl, tv⟩ rfl
                      · refine TL_callB [(0, 12102), (1, 12106)] (lapped_Unlapper_Feed_2.ok1 hr) lapped_Unlapper_Feed_2.fnb rfl ⟨tv, ⟨tv, ⟨tv, tv⟩⟩⟩ rfl ⟨.inr rfl, .inr rfl, tv⟩ rfl ?_
                        refine TL_end ?_
                        obtain rfl := sinj h1
                        refine tsn ?_
                        exact SP_ren [(12200, 12100), (12201, 12101), (12202, 12102), (12203, 12103), (12204, 12104), (12205, 12105), (12206, 12106), (12207, 12107)] (_, _) rfl ⟨rfl, rfl, rfl, rfl, rfl, rfl, rfl, tv⟩ ⟨rfl, rfl, rfl, rfl, rfl, rfl, rfl, rfl, tv⟩ rfl
                    · refine TL_callB [(0, 12100), (1, 12104)] (lapped_Lapper_Feed.ok1 hr) lapped_Lapper_Feed.fnb rfl ⟨tv, ⟨tv, ⟨tv, tv⟩⟩⟩ rfl ⟨.inr rfl, .inr rfl, tv⟩ rfl ?_
                      refine TL_end ?_
                      refine TE_go ?_
                      refine TC_reg ?_
                      obtain ⟨g, h1⟩ := gd_t h1
                      refine TL_ev env 3 rfl ⟨tv, ⟨tv, ⟨⟨tv, ⟨tv, ⟨g.1, ⟨g.2.1, g.2.2⟩⟩⟩⟩, tv⟩⟩⟩ ?_
                      refine TL_frz 1104 rfl ?_
                      obtain ⟨z, hr, h1⟩ := bnd h1
                      rcases z with ⟨⟩ | ⟨r725, r726⟩
                      · refine TL_callB [(0, 12102), (1, 12106)] (lapped_Unlapper_Feed_2.ok0 hr) lapped_Unlapper_Feed_2.fnb rfl ⟨tv, ⟨tv, ⟨tv, tv⟩⟩⟩ rfl ⟨.inr rfl, .inr rfl, tv⟩ rfl ?_
                        refine TL_end ?_
                        obtain rfl := sinj h1
                        refine tsn ?_
                        exact SP_ren [(12200, 12100), (12201, 12101), (12202, 12102), (12203, 12103), (12204, 12104), (12205, 12105), (12206, 12106), (12207, 12107)] (_, _) rfl ⟨rfl, rfl, rfl, rfl, rfl, rfl, rfl, tv⟩ ⟨rfl, rfl, rfl, rfl, rfl, rfl, rfl, rfl, tv⟩ rfl
                      · refine TL_callB [(0, 12102), (1, 12106)] (lapped_Unlapper_Feed_2.ok1 hr) lapped_Unlapper_Feed_2.fnb rfl ⟨tv, ⟨tv, ⟨tv, tv⟩⟩⟩ rfl ⟨.inr rfl, .inr rfl, tv⟩ rfl ?_
                        refine TL_end ?_
                        obtain rfl := sinj h1
                        refine tsn ?_
                        exact SP_ren [(12200, 12100), (12201, 12101), (12202, 12102), (12203, 12103), (12204, 12104), (12205, 12105), (12206, 12106), (12207, 12107)] (_, _) rfl ⟨rfl, rfl, rfl, rfl, rfl, rfl, rfl, tv⟩ ⟨rfl, rfl, rfl, rfl, rfl, rfl, rfl, rfl, tv⟩ rfl
                · rintro ⟨x312, x313⟩ rfl
                  refine TE_go ?_
                  refine TC_seq ?_
                  refine TC_seq ?_
                  refine TC_reg ?_
                  refine TL_ev env 1 rfl ⟨tv, tv⟩ ?_
                  refine TL_end ?_
                  refine TE_go ?_
                  obtain ⟨z1, h1, h0⟩ := bnd h0
                  refine TC_cut (α := Unit) (fun _ => z1 = .inl ()) (fun _ => [(1, .im (.slice (.int .i16)) p1)]) (fun _ => []) ?_ ?_
                  · refine TC_blk ?_
                    refine TC_loop (α := Int × (List (Int)) × (List (Int)) × (List (Int)) × (List (Int))) (fun n s => psalterylaw09_LappedForgets.l0 K p1 p2 r238 r248 r249 r257 r258 r266 r267 r275 r276 n s.1 s.2.1 s.2.2.1 s.2.2.2.1 s.2.2.2.2 = some z1) (fun s => [(1, .im (.slice (.int .i16)) p1), (2, .im (.slice (.int .i16)) p2), (9, .int .i64 r238), (11, .p 13400 0), (13, .p 13401 0), (15, .p 13402 0), (17, .p 13403 0), (22, .int .i64 s.1)]) (fun s => [(13400, some (.cells [.int .i64 r238, .im (.slice (.int .i16)) r248, .im (.slice (.int .i16)) r249, .sl 13404])), (13401, some (.cells [.int .i64 r238, .im (.slice (.int .i16)) r257, .im (.slice (.int .i16)) r258, .sl 13405])), (13402, some (.cells [.int .i64 r238, .im (.slice (.int .i16)) r266, .im (.slice (.int .i16)) r267, .sl 13406])), (13403, some (.cells [.int .i64 r238, .im (.slice (.int .i16)) r275, .im (.slice (.int .i16)) r276, .sl 13407])), (13404, some (.rows (.int .i16) s.2.1)), (13405, some (.rows (.int .i16) s.2.2.1)), (13406, some (.rows (.int .i32) s.2.2.2.1)), (13407, some (.rows (.int .i32) s.2.2.2.2))]) K ?_ ?_
                    · exact SP_ren [(13400, 12200), (13401, 12201), (13402, 12202), (13403, 12203), (13404, 12204), (13405, 12205), (13406, 12206), (13407, 12207)] (_, _, _, _, _) h1 ⟨rfl, rfl, rfl, rfl, rfl, rfl, rfl, rfl, tv⟩ ⟨rfl, rfl, rfl, rfl, rfl, rfl, rfl, rfl, tv⟩ rfl
                    rintro n ⟨x552, x553, x554, x555, x556⟩ h1
                    rcases n with _ | n
                    · exact (nsome h1).elim
                    replace h1 : psalterylaw09_LappedForgets.r0 K p1 p2 r238 r248 r249 r257 r258 r266 r267 r275 r276 (psalterylaw09_LappedForgets.l0 K p1 p2 r238 r248 r249 r257 r258 r266 r267 r275 r276 n) x552 x553 x554 x555 x556 = some z1 := h1
                    refine TC_seq ?_
                    refine TC_seq ?_
                    refine TC_reg ?_
                    refine TL_ev env 4 rfl ⟨tv, ⟨tv, ⟨⟨tv, tv⟩, ⟨⟨tv, ⟨tv, tv⟩⟩, tv⟩⟩⟩⟩ ?_
                    refine TL_end ?_
                    refine TE_go ?_
                    refine TC_cond rfl (fun hb => ?_) (fun hb => ?_)
                    · replace h1 := bif_t h1 hb
                      refine TC_skip ?_
                      refine TE_go ?_
                      refine TC_seq ?_
                      refine TC_blk ?_
                      refine TC_seq ?_
                      refine TC_reg ?_
                      refine TL_ev env 4 rfl ⟨tv, ⟨tv, ⟨tv, ⟨tv, tv⟩⟩⟩⟩ ?_
                      obtain ⟨r677, hr, h1⟩ := bnd h1
                      refine TL_callB [] (psalterylaw09_padded.ok0 hr) psalterylaw09_padded.fnb rfl ⟨tv, ⟨tv, ⟨tv, ⟨tv, tv⟩⟩⟩⟩ rfl tv rfl ?_
                      obtain ⟨z, hr, h1⟩ := bnd h1
                      rcases z with ⟨⟩ | ⟨r678, r679⟩
                      · refine TL_callB [(0, 13400), (1, 13404)] (lapped_Lapper_Feed.ok0 hr) lapped_Lapper_Feed.fnb rfl ⟨tv, ⟨tv, ⟨tv, tv⟩⟩⟩ rfl ⟨.inr rfl, .inr rfl, tv⟩ rfl ?_
                        refine TL_ev env 5 rfl ⟨tv, ⟨tv, ⟨tv, ⟨tv, ⟨tv, tv⟩⟩⟩⟩⟩ ?_
                        refine TL_end ?_
                        refine TE_go ?_
                        refine TC_seq ?_
                        refine TC_reg ?_
                        refine TL_ev env 4 rfl ⟨tv, ⟨tv, ⟨tv, ⟨tv, tv⟩⟩⟩⟩ ?_
                        obtain ⟨r680, hr, h1⟩ := bnd h1
                        refine TL_callB [] (psalterylaw09_padded.ok0 hr) psalterylaw09_padded.fnb rfl ⟨tv, ⟨tv, ⟨tv, ⟨tv, tv⟩⟩⟩⟩ rfl tv rfl ?_
                        obtain ⟨z, hr, h1⟩ := bnd h1
                        rcases z with ⟨⟩ | ⟨r681, r682⟩
                        · refine TL_callB [(0, 13401), (1, 13405)] (lapped_Lapper_Feed.ok0 hr) lapped_Lapper_Feed.fnb rfl ⟨tv, ⟨tv, ⟨tv, tv⟩⟩⟩ rfl ⟨.inr rfl, .inr rfl, tv⟩ rfl ?_
                          refine TL_ev env 5 rfl ⟨tv, ⟨tv, ⟨tv, ⟨tv, ⟨tv, tv⟩⟩⟩⟩⟩ ?_
                          refine TL_end ?_
                          refine TE_go ?_
                          refine TC_seq ?_
                          refine TC_reg ?_
                          refine TL_ev env 2 rfl ⟨tv, ⟨tv, tv⟩⟩ ?_
                          obtain ⟨z, hr, h1⟩ := bnd h1
                          rcases z with ⟨⟩ | ⟨r683, r684⟩
                          · refine TL_callB [(0, 13402), (1, 13406)] (lapped_Unlapper_Feed.ok0 hr) lapped_Unlapper_Feed.fnb rfl ⟨tv, ⟨tv, ⟨tv, tv⟩⟩⟩ rfl ⟨.inr rfl, .inr rfl, tv⟩ rfl ?_
                            refine TL_ev env 5 rfl ⟨tv, ⟨tv, ⟨tv, ⟨tv, ⟨tv, tv⟩⟩⟩⟩⟩ ?_
                            refine TL_end ?_
                            refine TE_go ?_
                            refine TC_seq ?_
                            refine TC_reg ?_
                            refine TL_ev env 2 rfl ⟨tv, ⟨tv, tv⟩⟩ ?_
                            obtain ⟨z, hr, h1⟩ := bnd h1
                            rcases z with ⟨⟩ | ⟨r685, r686⟩
                            · refine TL_callB [(0, 13403), (1, 13407)] (lapped_Unlapper_Feed.ok0 hr) lapped_Unlapper_Feed.fnb rfl ⟨tv, ⟨tv, ⟨tv, tv⟩⟩⟩ rfl ⟨.inr rfl, .inr rfl, tv⟩ rfl ?_
                              refine TL_ev env 5 rfl ⟨tv, ⟨tv, ⟨tv, ⟨tv, ⟨tv, tv⟩⟩⟩⟩⟩ ?_
                              refine TL_end ?_
                              refine TE_go ?_
                              refine TC_seq ?_
                              refine TC_reg ?_
                              refine TL_ev env 3 rfl ⟨tv, ⟨⟨tv, ⟨tv, tv⟩⟩, ⟨tv, tv⟩⟩⟩ ?_
                              refine TL_gf (.bool false) rfl rfl rfl rfl rfl (by decide) ?_
                              refine TL_gf (.bool false) rfl rfl rfl rfl rfl (by decide) ?_
                              refine TL_ev env 2 rfl ⟨⟨tv, ⟨tv, fun e => e⟩⟩, ⟨tv, tv⟩⟩ ?_
                              refine TL_gf (.bool false) rfl rfl rfl rfl rfl (by decide) ?_
                              refine TL_gf (.bool false) rfl rfl rfl rfl rfl (by decide) ?_
                              refine TL_ev env 2 rfl ⟨⟨tv, ⟨tv, fun e => e⟩⟩, ⟨tv, tv⟩⟩ ?_
                              refine TL_gf (.bool false) rfl rfl rfl rfl rfl (by decide) ?_
                              refine TL_gf (.bool false) rfl rfl rfl rfl rfl (by decide) ?_
                              refine TL_ev env 2 rfl ⟨⟨tv, ⟨tv, fun e => e⟩⟩, ⟨tv, tv⟩⟩ ?_
                              refine TL_gf (.bool false) rfl rfl rfl rfl rfl (by decide) ?_
                              refine TL_gf (.bool false) rfl rfl rfl rfl rfl (by decide) ?_
                              refine TL_gf (.bool false) rfl rfl rfl rfl rfl (by decide) ?_
                              refine TL_gf (.bool false) rfl rfl rfl rfl rfl (by decide) ?_
                              refine TL_ev env 2 rfl ⟨⟨tv, ⟨tv, fun e => e⟩⟩, ⟨tv, tv⟩⟩ ?_
                              refine TL_gf (.bool false) rfl rfl rfl rfl rfl (by decide) ?_
                              refine TL_gf (.bool false) rfl rfl rfl rfl rfl (by decide) ?_
                              refine TL_gf (.bool false) rfl rfl rfl rfl rfl (by decide) ?_
                              refine TL_gf (.bool false) rfl rfl rfl rfl rfl (by decide) ?_
                              refine TL_ev env 1 rfl ⟨⟨tv, ⟨tv, fun e => e⟩⟩, tv⟩ ?_
                              refine TL_end ?_
                              refine TE_go ?_
                              refine TC_cond rfl (fun hb => ?_) (fun hb => ?_)
                              · refine TC_seq ?_
                                refine TC_reg ?_
                                refine TL_ev env 1 rfl ⟨tv, tv⟩ ?_
                                refine TL_end ?_
                                refine TE_go ?_
                                refine TC_ret ?_
                                refine tbr ?_
                                refine tsr ?_
                                refine tsr ?_
                                refine tbr ?_
                                refine tsr ?_
                                refine tsr ?_
                                obtain rfl := sinj h1
                                obtain rfl := sinj h0
                                exact TE_ret env rfl tv tv
                              · first | exact (ftf hb).elim | exact (tff hb).elim | exact absurd hb (by decide)
                            · refine TL_callB [(0, 13403), (1, 13407)] (lapped_Unlapper_Feed.ok1 hr) lapped_Unlapper_Feed.fnb rfl ⟨tv, ⟨tv, ⟨tv, tv⟩⟩⟩ rfl ⟨.inr rfl, .inr rfl, tv⟩ rfl ?_
                              refine TL_ev env 5 rfl ⟨tv, ⟨tv, ⟨tv, ⟨tv, ⟨tv, tv⟩⟩⟩⟩⟩ ?_
                              refine TL_end ?_
                              refine TE_go ?_
                              refine TC_seq ?_
                              refine TC_reg ?_
                              refine TL_ev env 3 rfl ⟨tv, ⟨⟨tv, ⟨tv, tv⟩⟩, ⟨tv, tv⟩⟩⟩ ?_
                              refine TL_gf (.bool false) rfl rfl rfl rfl rfl (by decide) ?_
                              refine TL_gf (.bool false) rfl rfl rfl rfl rfl (by decide) ?_
                              refine TL_ev env 2 rfl ⟨⟨tv, ⟨tv, fun e => e⟩⟩, ⟨tv, tv⟩⟩ ?_
                              refine TL_gf (.bool false) rfl rfl rfl rfl rfl (by decide) ?_
                              refine TL_gf (.bool false) rfl rfl rfl rfl rfl (by decide) ?_
                              refine TL_ev env 2 rfl ⟨⟨tv, ⟨tv, fun e => e⟩⟩, ⟨tv, tv⟩⟩ ?_
                              refine TL_gf (.bool false) rfl rfl rfl rfl rfl (by decide) ?_
                              refine TL_gf (.bool false) rfl rfl rfl rfl rfl (by decide) ?_
                              refine TL_ev env 2 rfl ⟨⟨tv, ⟨tv, fun e => e⟩⟩, ⟨tv, tv⟩⟩ ?_
                              refine TL_gf (.bool false) rfl rfl rfl rfl rfl (by decide) ?_
                              refine TL_gf (.bool false) rfl rfl rfl rfl rfl (by decide) ?_
                              refine TL_gf (.bool false) rfl rfl rfl rfl rfl (by decide) ?_
                              refine TL_gf (.bool false) rfl rfl rfl rfl rfl (by decide) ?_
                              refine TL_ev env 2 rfl ⟨⟨tv, ⟨tv, fun e => e⟩⟩, ⟨tv, tv⟩⟩ ?_
                              refine TL_gf (.bool false) rfl rfl rfl rfl rfl (by decide) ?_
                              refine TL_gf (.bool false) rfl rfl rfl rfl rfl (by decide) ?_
                              refine TL_gf (.bool false) rfl rfl rfl rfl rfl (by decide) ?_
                              refine TL_gf (.bool false) rfl rfl rfl rfl rfl (by decide) ?_
                              refine TL_ev env 1 rfl ⟨⟨tv, ⟨tv, fun e => e⟩⟩, tv⟩ ?_
                              refine TL_end ?_
                              refine TE_go ?_
                              refine TC_cond rfl (fun hb => ?_) (fun hb => ?_)
                              · refine TC_seq ?_
                                refine TC_reg ?_
                                refine TL_ev env 1 rfl ⟨tv, tv⟩ ?_
                                refine TL_end ?_
                                refine TE_go ?_
                                refine TC_ret ?_
                                refine tbr ?_
                                refine tsr ?_
                                refine tsr ?_
                                refine tbr ?_
                                refine tsr ?_
                                refine tsr ?_
                                obtain rfl := sinj h1
                                obtain rfl := sinj h0
                                exact TE_ret env rfl tv tv
                              · first | exact (ftf hb).elim | exact (tff hb).elim | exact absurd hb (by decide)
                          · refine TL_callB [(0, 13402), (1, 13406)] (lapped_Unlapper_Feed.ok1 hr) lapped_Unlapper_Feed.fnb rfl ⟨tv, ⟨tv, ⟨tv, tv⟩⟩⟩ rfl ⟨.inr rfl, .inr rfl, tv⟩ rfl ?_
                            refine TL_ev env 5 rfl ⟨tv, ⟨tv, ⟨tv, ⟨tv, ⟨tv, tv⟩⟩⟩⟩⟩ ?_
                            refine TL_end ?_
                            refine TE_go ?_
                            refine TC_seq ?_
                            refine TC_reg ?_
                            refine TL_ev env 2 rfl ⟨tv, ⟨tv, tv⟩⟩ ?_
                            obtain ⟨z, hr, h1⟩ := bnd h1
                            rcases z with ⟨⟩ | ⟨r687, r688⟩
                            · refine TL_callB [(0, 13403), (1, 13407)] (lapped_Unlapper_Feed.ok0 hr) lapped_Unlapper_Feed.fnb rfl ⟨tv, ⟨tv, ⟨tv, tv⟩⟩⟩ rfl ⟨.inr rfl, .inr rfl, tv⟩ rfl ?_
                              refine TL_ev env 5 rfl ⟨tv, ⟨tv, ⟨tv, ⟨tv, ⟨tv, tv⟩⟩⟩⟩⟩ ?_
                              refine TL_end ?_
                              refine TE_go ?_
                              refine TC_seq ?_
                              refine TC_reg ?_
                              refine TL_ev env 3 rfl ⟨tv, ⟨⟨tv, ⟨tv, tv⟩⟩, ⟨tv, tv⟩⟩⟩ ?_
                              refine TL_gf (.bool false) rfl rfl rfl rfl rfl (by decide) ?_
                              refine TL_gf (.bool false) rfl rfl rfl rfl rfl (by decide) ?_
                              refine TL_ev env 2 rfl ⟨⟨tv, ⟨tv, fun e => e⟩⟩, ⟨tv, tv⟩⟩ ?_
                              refine TL_gf (.bool false) rfl rfl rfl rfl rfl (by decide) ?_
                              refine TL_gf (.bool false) rfl rfl rfl rfl rfl (by decide) ?_
                              refine TL_ev env 2 rfl ⟨⟨tv, ⟨tv, fun e => e⟩⟩, ⟨tv, tv⟩⟩ ?_
                              refine TL_gf (.bool false) rfl rfl rfl rfl rfl (by decide) ?_
                              refine TL_gf (.bool false) rfl rfl rfl rfl rfl (by decide) ?_
                              refine TL_ev env 2 rfl ⟨⟨tv, ⟨tv, fun e => e⟩⟩, ⟨tv, tv⟩⟩ ?_
                              refine TL_gf (.bool false) rfl rfl rfl rfl rfl (by decide) ?_
                              refine TL_gf (.bool false) rfl rfl rfl rfl rfl (by decide) ?_
                              refine TL_gf (.bool false) rfl rfl rfl rfl rfl (by decide) ?_
                              refine TL_gf (.bool false) rfl rfl rfl rfl rfl (by decide) ?_
                              refine TL_ev env 2 rfl ⟨⟨tv, ⟨tv, fun e => e⟩⟩, ⟨tv, tv⟩⟩ ?_
                              refine TL_gf (.bool false) rfl rfl rfl rfl rfl (by decide) ?_
                              refine TL_gf (.bool false) rfl rfl rfl rfl rfl (by decide) ?_
                              refine TL_gf (.bool false) rfl rfl rfl rfl rfl (by decide) ?_
                              refine TL_gf (.bool false) rfl rfl rfl rfl rfl (by decide) ?_
                              refine TL_ev env 1 rfl ⟨⟨tv, ⟨tv, fun e => e⟩⟩, tv⟩ ?_
                              refine TL_end ?_
                              refine TE_go ?_
                              refine TC_cond rfl (fun hb => ?_) (fun hb => ?_)
                              · refine TC_seq ?_
                                refine TC_reg ?_
                                refine TL_ev env 1 rfl ⟨tv, tv⟩ ?_
                                refine TL_end ?_
                                refine TE_go ?_
                                refine TC_ret ?_
                                refine tbr ?_
                                refine tsr ?_
                                refine tsr ?_
                                refine tbr ?_
                                refine tsr ?_
                                refine tsr ?_
                                obtain rfl := sinj h1
                                obtain rfl := sinj h0
                                exact TE_ret env rfl tv tv
                              · first | exact (ftf hb).elim | exact (tff hb).elim | exact absurd hb (by decide)
                            · refine TL_callB [(0, 13403), (1, 13407)] (lapped_Unlapper_Feed.ok1 hr) lapped_Unlapper_Feed.fnb rfl ⟨tv, ⟨tv, ⟨tv, tv⟩⟩⟩ rfl ⟨.inr rfl, .inr rfl, tv⟩ rfl ?_
                              refine TL_ev env 5 rfl ⟨tv, ⟨tv, ⟨tv, ⟨tv, ⟨tv, tv⟩⟩⟩⟩⟩ ?_
                              refine TL_end ?_
                              refine TE_go ?_
                              refine TC_seq ?_
                              refine TC_reg ?_
                              refine TL_ev env 3 rfl ⟨tv, ⟨⟨tv, ⟨tv, tv⟩⟩, ⟨tv, tv⟩⟩⟩ ?_
                              refine TL_gf (.bool false) rfl rfl rfl rfl rfl (by decide) ?_
                              refine TL_gf (.bool false) rfl rfl rfl rfl rfl (by decide) ?_
                              refine TL_ev env 2 rfl ⟨⟨tv, ⟨tv, fun e => e⟩⟩, ⟨tv, tv⟩⟩ ?_
                              refine TL_gf (.bool false) rfl rfl rfl rfl rfl (by decide) ?_
                              refine TL_gf (.bool false) rfl rfl rfl rfl rfl (by decide) ?_
                              refine TL_ev env 2 rfl ⟨⟨tv, ⟨tv, fun e => e⟩⟩, ⟨tv, tv⟩⟩ ?_
                              refine TL_gf (.bool false) rfl rfl rfl rfl rfl (by decide) ?_
                              refine TL_gf (.bool false) rfl rfl rfl rfl rfl (by decide) ?_
                              refine TL_ev env 2 rfl ⟨⟨tv, ⟨tv, fun e => e⟩⟩, ⟨tv, tv⟩⟩ ?_
                              refine TL_gf (.bool false) rfl rfl rfl rfl rfl (by decide) ?_
                              refine TL_gf (.bool false) rfl rfl rfl rfl rfl (by decide) ?_
                              refine TL_gf (.bool false) rfl rfl rfl rfl rfl (by decide) ?_
                              refine TL_gf (.bool false) rfl rfl rfl rfl rfl (by decide) ?_
                              refine TL_ev env 2 rfl ⟨⟨tv, ⟨tv, fun e => e⟩⟩, ⟨tv, tv⟩⟩ ?_
                              refine TL_gf (.bool false) rfl rfl rfl rfl rfl (by decide) ?_
                              refine TL_gf (.bool false) rfl rfl rfl rfl rfl (by decide) ?_
                              refine TL_gf (.bool false) rfl rfl rfl rfl rfl (by decide) ?_
                              refine TL_gf (.bool false) rfl rfl rfl rfl rfl (by decide) ?_
                              refine TL_ev env 1 rfl ⟨⟨tv, ⟨tv, fun e => e⟩⟩, tv⟩ ?_
                              refine TL_end ?_
                              refine TE_go ?_
                              refine TC_cond rfl (fun hb => ?_) (fun hb => ?_)
                              · refine TC_seq ?_
                                refine TC_reg ?_
                                refine TL_ev env 1 rfl ⟨tv, tv⟩ ?_
                                refine TL_end ?_
                                refine TE_go ?_
                                refine TC_ret ?_
                                refine tbr ?_
                                refine tsr ?_
                                refine tsr ?_
                                refine tbr ?_
                                refine tsr ?_
                                refine tsr ?_
                                obtain rfl := sinj h1
                                obtain rfl := sinj h0
                                exact TE_ret env rfl tv tv
                              · first | exact (ftf hb).elim | exact (tff hb).elim | exact absurd hb (by decide)
                        · refine TL_callB [(0, 13401), (1, 13405)] (lapped_Lapper_Feed.ok1 hr) lapped_Lapper_Feed.fnb rfl ⟨tv, ⟨tv, ⟨tv, tv⟩⟩⟩ rfl ⟨.inr rfl, .inr rfl, tv⟩ rfl ?_
                          refine TL_ev env 5 rfl ⟨tv, ⟨tv, ⟨tv, ⟨tv, ⟨tv, tv⟩⟩⟩⟩⟩ ?_
                          refine TL_end ?_
                          refine TE_go ?_
                          refine TC_seq ?_
                          refine TC_reg ?_
                          refine TL_ev env 2 rfl ⟨tv, ⟨tv, tv⟩⟩ ?_
                          obtain ⟨z, hr, h1⟩ := bnd h1
                          rcases z with ⟨⟩ | ⟨r689, r690⟩
                          · refine TL_callB [(0, 13402), (1, 13406)] (lapped_Unlapper_Feed.ok0 hr) lapped_Unlapper_Feed.fnb rfl ⟨tv, ⟨tv, ⟨tv, tv⟩⟩⟩ rfl ⟨.inr rfl, .inr rfl, tv⟩ rfl ?_
                            refine TL_ev env 5 rfl ⟨tv, ⟨tv, ⟨tv, ⟨tv, ⟨tv, tv⟩⟩⟩⟩⟩ ?_
                            refine TL_end ?_
                            refine TE_go ?_
                            refine TC_seq ?_
                            refine TC_reg ?_
                            refine TL_ev env 2 rfl ⟨tv, ⟨tv, tv⟩⟩ ?_
                            obtain ⟨z, hr, h1⟩ := bnd h1
                            rcases z with ⟨⟩ | ⟨r691, r692⟩
                            · refine TL_callB [(0, 13403), (1, 13407)] (lapped_Unlapper_Feed_2.ok0 hr) lapped_Unlapper_Feed_2.fnb rfl ⟨tv, ⟨tv, ⟨tv, tv⟩⟩⟩ rfl ⟨.inr rfl, .inr rfl, tv⟩ rfl ?_
                              refine TL_ev env 5 rfl ⟨tv, ⟨tv, ⟨tv, ⟨tv, ⟨tv, tv⟩⟩⟩⟩⟩ ?_
                              refine TL_end ?_
                              refine TE_go ?_
                              refine TC_seq ?_
                              refine TC_reg ?_
                              refine TL_ev env 3 rfl ⟨tv, ⟨⟨tv, ⟨tv, tv⟩⟩, ⟨tv, tv⟩⟩⟩ ?_
                              refine TL_gf (.bool false) rfl rfl rfl rfl rfl (by decide) ?_
                              refine TL_gf (.bool false) rfl rfl rfl rfl rfl (by decide) ?_
                              refine TL_ev env 2 rfl ⟨⟨tv, ⟨tv, fun e => e⟩⟩, ⟨tv, tv⟩⟩ ?_
                              refine TL_gf (.bool false) rfl rfl rfl rfl rfl (by decide) ?_
                              refine TL_gf (.bool false) rfl rfl rfl rfl rfl (by decide) ?_
                              refine TL_ev env 2 rfl ⟨⟨tv, ⟨tv, fun e => e⟩⟩, ⟨tv, tv⟩⟩ ?_
                              refine TL_gf (.bool false) rfl rfl rfl rfl rfl (by decide) ?_
                              refine TL_gf (.bool false) rfl rfl rfl rfl rfl (by decide) ?_
                              refine TL_ev env 2 rfl ⟨⟨tv, ⟨tv, fun e => e⟩⟩, ⟨tv, tv⟩⟩ ?_
                              refine TL_gf (.bool false) rfl rfl rfl rfl rfl (by decide) ?_
                              refine TL_gf (.bool false) rfl rfl rfl rfl rfl (by decide) ?_
                              refine TL_gf (.bool false) rfl rfl rfl rfl rfl (by decide) ?_
                              refine TL_gf (.bool false) rfl rfl rfl rfl rfl (by decide) ?_
                              refine TL_ev env 2 rfl ⟨⟨tv, ⟨tv, fun e => e⟩⟩, ⟨tv, tv⟩⟩ ?_
                              refine TL_gf (.bool false) rfl rfl rfl rfl rfl (by decide) ?_
                              refine TL_gf (.bool false) rfl rfl rfl rfl rfl (by decide) ?_
                              refine TL_gf (.bool false) rfl rfl rfl rfl rfl (by decide) ?_
                              refine TL_gf (.bool false) rfl rfl rfl rfl rfl (by decide) ?_
                              refine TL_ev env 1 rfl ⟨⟨tv, ⟨tv, fun e => e⟩⟩, tv⟩ ?_
                              refine TL_end ?_
                              refine TE_go ?_
                              refine TC_cond rfl (fun hb => ?_) (fun hb => ?_)
                              · refine TC_seq ?_
                                refine TC_reg ?_
                                refine TL_ev env 1 rfl ⟨tv, tv⟩ ?_
                                refine TL_end ?_
                                refine TE_go ?_
                                refine TC_ret ?_
                                refine tbr ?_
                                refine tsr ?_
                                refine tsr ?_
                                refine tbr ?_
                                refine tsr ?_
                                refine tsr ?_
                                obtain rfl := sinj h1
                                obtain rfl := sinj h0
                                exact TE_ret env rfl tv tv
                              · first | exact (ftf hb).elim | exact (tff hb).elim | exact absurd hb (by decide)
                            · refine TL_callB [(0, 13403), (1, 13407)] (lapped_Unlapper_Feed_2.ok1 hr) lapped_Unlapper_Feed_2.fnb rfl ⟨tv, ⟨tv, ⟨tv, tv⟩⟩⟩ rfl ⟨.inr rfl, .inr rfl, tv⟩ rfl ?_
                              refine TL_ev env 5 rfl ⟨tv, ⟨tv, ⟨tv, ⟨tv, ⟨tv, tv⟩⟩⟩⟩⟩ ?_
                              refine TL_end ?_
                              refine TE_go ?_
                              refine TC_seq ?_
                              refine TC_reg ?_
                              refine TL_ev env 3 rfl ⟨tv, ⟨⟨tv, ⟨tv, tv⟩⟩, ⟨tv, tv⟩⟩⟩ ?_
                              refine TL_gf (.bool false) rfl rfl rfl rfl rfl (by decide) ?_
                              refine TL_gf (.bool false) rfl rfl rfl rfl rfl (by decide) ?_
                              refine TL_ev env 2 rfl ⟨⟨tv, ⟨tv, fun e => e⟩⟩, ⟨tv, tv⟩⟩ ?_
                              refine TL_gf (.bool false) rfl rfl rfl rfl rfl (by decide) ?_
                              refine TL_gf (.bool false) rfl rfl rfl rfl rfl (by decide) ?_
                              refine TL_ev env 2 rfl ⟨⟨tv, ⟨tv, fun e => e⟩⟩, ⟨tv, tv⟩⟩ ?_
                              refine TL_gf (.bool false) rfl rfl rfl rfl rfl (by decide) ?_
                              refine TL_gf (.bool false) rfl rfl rfl rfl rfl (by decide) ?_
                              refine TL_ev env 2 rfl ⟨⟨tv, ⟨tv, fun e => e⟩⟩, ⟨tv, tv⟩⟩ ?_
                              refine TL_gf (.bool false) rfl rfl rfl rfl rfl (by decide) ?_
                              refine TL_gf (.bool false) rfl rfl rfl rfl rfl (by decide) ?_
                              refine TL_gf (.bool false) rfl rfl rfl rfl rfl (by decide) ?_
                              refine TL_gf (.bool false) rfl rfl rfl rfl rfl (by decide) ?_
                              refine TL_ev env 2 rfl ⟨⟨tv, ⟨tv, fun e => e⟩⟩, ⟨tv, tv⟩⟩ ?_
                              refine TL_gf (.bool false) rfl rfl rfl rfl rfl (by decide) ?_
                              refine TL_gf (.bool false) rfl rfl rfl rfl rfl (by decide) ?_
                              refine TL_gf (.bool false) rfl rfl rfl rfl rfl (by decide) ?_
                              refine TL_gf (.bool false) rfl rfl rfl rfl rfl (by decide) ?_
                              refine TL_ev env 1 rfl ⟨⟨tv, ⟨tv, fun e => e⟩⟩, tv⟩ ?_
                              refine TL_end ?_
                              refine TE_go ?_
                              refine TC_cond rfl (fun hb => ?_) (fun hb => ?_)
                              · refine TC_seq ?_
                                refine TC_reg ?_
                                refine TL_ev env 1 rfl ⟨tv, tv⟩ ?_
                                refine TL_end ?_
                                refine TE_go ?_
                                refine TC_ret ?_
                                refine tbr ?_
                                refine tsr ?_
                                refine tsr ?_
                                refine tbr ?_
                                refine tsr ?_
                                refine tsr ?_
                                obtain rfl := sinj h1
                                obtain rfl := sinj h0
                                exact TE_ret env rfl tv tv
                              · first | exact (ftf hb).elim | exact (tff hb).elim | exact absurd hb (by decide)
                          · refine TL_callB [(0, 13402), (1, 13406)] (lapped_Unlapper_Feed.ok1 hr) lapped_Unlapper_Feed.fnb rfl ⟨tv, ⟨tv, ⟨tv, tv⟩⟩⟩ rfl ⟨.inr rfl, .inr rfl, tv⟩ rfl ?_
                            refine TL_ev env 5 rfl ⟨tv, ⟨tv, ⟨tv, ⟨tv, ⟨tv, tv⟩⟩⟩⟩⟩ ?_
                            refine TL_end ?_
                            refine TE_go ?_
                            refine TC_seq ?_
                            refine TC_reg ?_
                            refine TL_ev env 2 rfl ⟨tv, ⟨tv, tv⟩⟩ ?_
                            obtain ⟨z, hr, h1⟩ := bnd h1
                            rcases z with ⟨⟩ | ⟨r693, r694⟩
                            · refine TL_callB [(0, 13403), (1, 13407)] (lapped_Unlapper_Feed_2.ok0 hr) lapped_Unlapper_Feed_2.fnb rfl ⟨tv, ⟨tv, ⟨tv, tv⟩⟩⟩ rfl ⟨.inr rfl, .inr rfl, tv⟩ rfl ?_
                              refine TL_ev env 5 rfl ⟨tv, ⟨tv, ⟨tv, ⟨tv, ⟨tv, tv⟩⟩⟩⟩⟩ ?_
                              refine TL_end ?_
                              refine TE_go ?_
                              refine TC_seq ?_
                              refine TC_reg ?_
                              refine TL_ev env 3 rfl ⟨tv, ⟨⟨tv, ⟨tv, tv⟩⟩, ⟨tv, tv⟩⟩⟩ ?_
                              refine TL_gf (.bool false) rfl rfl rfl rfl rfl (by decide) ?_
                              refine TL_gf (.bool false) rfl rfl rfl rfl rfl (by decide) ?_
                              refine TL_ev env 2 rfl ⟨⟨tv, ⟨tv, fun e => e⟩⟩, ⟨tv, tv⟩⟩ ?_
                              refine TL_gf (.bool false) rfl rfl rfl rfl rfl (by decide) ?_
                              refine TL_gf (.bool false) rfl rfl rfl rfl rfl (by decide) ?_
                              refine TL_ev env 2 rfl ⟨⟨tv, ⟨tv, fun e => e⟩⟩, ⟨tv, tv⟩⟩ ?_
                              refine TL_gf (.bool false) rfl rfl rfl rfl rfl (by decide) ?_
                              refine TL_gf (.bool false) rfl rfl rfl rfl rfl (by decide) ?_
                              refine TL_ev env 2 rfl ⟨⟨tv, ⟨tv, fun e => e⟩⟩, ⟨tv, tv⟩⟩ ?_
                              refine TL_gf (.bool false) rfl rfl rfl rfl rfl (by decide) ?_
                              refine TL_gf (.bool false) rfl rfl rfl rfl rfl (by decide) ?_
                              refine TL_gf (.bool false) rfl rfl rfl rfl rfl (by decide) ?_
                              refine TL_gf (.bool false) rfl rfl rfl rfl rfl (by decide) ?_
                              refine TL_ev env 2 rfl ⟨⟨tv, ⟨tv, fun e => e⟩⟩, ⟨tv, tv⟩⟩ ?_
                              refine TL_gf (.bool false) rfl rfl rfl rfl rfl (by decide) ?_
                              refine TL_gf (.bool false) rfl rfl rfl rfl rfl (by decide) ?_
                              refine TL_gf (.bool false) rfl rfl rfl rfl rfl (by decide) ?_
                              refine TL_gf (.bool false) rfl rfl rfl rfl rfl (by decide) ?_
                              refine TL_ev env 1 rfl ⟨⟨tv, ⟨tv, fun e => e⟩⟩, tv⟩ ?_
                              refine TL_end ?_
                              refine TE_go ?_
                              refine TC_cond rfl (fun hb => ?_) (fun hb => ?_)
                              · refine TC_seq ?_
                                refine TC_reg ?_
                                refine TL_ev env 1 rfl ⟨tv, tv⟩ ?_
                                refine TL_end ?_
                                refine TE_go ?_
                                refine TC_ret ?_
                                refine tbr ?_
                                refine tsr ?_
                                refine tsr ?_
                                refine tbr ?_
                                refine tsr ?_
                                refine tsr ?_
                                obtain rfl := sinj h1
                                obtain rfl := sinj h0
                                exact TE_ret env rfl tv tv
                              · first | exact (ftf hb).elim | exact (tff hb).elim | exact absurd hb (by decide)
                            · refine TL_callB [(0, 13403), (1, 13407)] (lapped_Unlapper_Feed_2.ok1 hr) lapped_Unlapper_Feed_2.fnb rfl ⟨tv, ⟨tv, ⟨tv, tv⟩⟩⟩ rfl ⟨.inr rfl, .inr rfl, tv⟩ rfl ?_
                              refine TL_ev env 5 rfl ⟨tv, ⟨tv, ⟨tv, ⟨tv, ⟨tv, tv⟩⟩⟩⟩⟩ ?_
                              refine TL_end ?_
                              refine TE_go ?_
                              refine TC_seq ?_
                              refine TC_reg ?_
                              refine TL_ev env 3 rfl ⟨tv, ⟨⟨tv, ⟨tv, tv⟩⟩, ⟨tv, tv⟩⟩⟩ ?_
                              refine TL_gf (.bool false) rfl rfl rfl rfl rfl (by decide) ?_
                              refine TL_gf (.bool false) rfl rfl rfl rfl rfl (by decide) ?_
                              refine TL_ev env 2 rfl ⟨⟨tv, ⟨tv, fun e => e⟩⟩, ⟨tv, tv⟩⟩ ?_
                              refine TL_gf (.bool false) rfl rfl rfl rfl rfl (by decide) ?_
                              refine TL_gf (.bool false) rfl rfl rfl rfl rfl (by decide) ?_
                              refine TL_ev env 2 rfl ⟨⟨tv, ⟨tv, fun e => e⟩⟩, ⟨tv, tv⟩⟩ ?_
                              refine TL_gf (.bool false) rfl rfl rfl rfl rfl (by decide) ?_
                              refine TL_gf (.bool false) rfl rfl rfl rfl rfl (by decide) ?_
                              refine TL_ev env 2 rfl ⟨⟨tv, ⟨tv, fun e => e⟩⟩, ⟨tv, tv⟩⟩ ?_
                              refine TL_gf (.bool false) rfl rfl rfl rfl rfl (by decide) ?_
                              refine TL_gf (.bool false) rfl rfl rfl rfl rfl (by decide) ?_
                              refine TL_gf (.bool false) rfl rfl rfl rfl rfl (by decide) ?_
                              refine TL_gf (.bool false) rfl rfl rfl rfl rfl (by decide) ?_
                              refine TL_ev env 2 rfl ⟨⟨tv, ⟨tv, fun e => e⟩⟩, ⟨tv, tv⟩⟩ ?_
                              refine TL_gf (.bool false) rfl rfl rfl rfl rfl (by decide) ?_
                              refine TL_gf (.bool false) rfl rfl rfl rfl rfl (by decide) ?_
                              refine TL_gf (.bool false) rfl rfl rfl rfl rfl (by decide) ?_
                              refine TL_gf (.bool false) rfl rfl rfl rfl rfl (by decide) ?_
                              refine TL_ev env 1 rfl ⟨⟨tv, ⟨tv, fun e => e⟩⟩, tv⟩ ?_
                              refine TL_end ?_
                              refine TE_go ?_
                              refine TC_cond rfl (fun hb => ?_) (fun hb => ?_)
                              · refine TC_seq ?_
                                refine TC_reg ?_
                                refine TL_ev env 1 rfl ⟨tv, tv⟩ ?_
                                refine TL_end ?_
                                refine TE_go ?_
                                refine TC_ret ?_
                                refine tbr ?_
                                refine tsr ?_
                                refine tsr ?_
                                refine tbr ?_
                                refine tsr ?_
                                refine tsr ?_
                                obtain rfl := sinj h1
                                obtain rfl := sinj h0
                                exact TE_ret env rfl tv tv
                              · first | exact (ftf hb).elim | exact (tff hb).elim | exact absurd hb (by decide)
                      · refine TL_callB [(0, 13400), (1, 13404)] (lapped_Lapper_Feed.ok1 hr) lapped_Lapper_Feed.fnb rfl ⟨tv, ⟨tv, ⟨tv, tv⟩⟩⟩ rfl ⟨.inr rfl, .inr rfl, tv⟩ rfl ?_
                        refine TL_ev env 5 rfl ⟨tv, ⟨tv, ⟨tv, ⟨tv, ⟨tv, tv⟩⟩⟩⟩⟩ ?_
                        refine TL_end ?_
                        refine TE_go ?_
                        refine TC_seq ?_
                        refine TC_reg ?_
                        refine TL_ev env 4 rfl ⟨tv, ⟨tv, ⟨tv, ⟨tv, tv⟩⟩⟩⟩ ?_
                        obtain ⟨r695, hr, h1⟩ := bnd h1
                        refine TL_callB [] (psalterylaw09_padded.ok0 hr) psalterylaw09_padded.fnb rfl ⟨tv, ⟨tv, ⟨tv, ⟨tv, tv⟩⟩⟩⟩ rfl tv rfl ?_
                        obtain ⟨z, hr, h1⟩ := bnd h1
                        rcases z with ⟨⟩ | ⟨r696, r697⟩
                        · refine TL_callB [(0, 13401), (1, 13405)] (lapped_Lapper_Feed.ok0 hr) lapped_Lapper_Feed.fnb rfl ⟨tv, ⟨tv, ⟨tv, tv⟩⟩⟩ rfl ⟨.inr rfl, .inr rfl, tv⟩ rfl ?_
                          refine TL_ev env 5 rfl ⟨tv, ⟨tv, ⟨tv, ⟨tv, ⟨tv, tv⟩⟩⟩⟩⟩ ?_
                          refine TL_end ?_
                          refine TE_go ?_
                          refine TC_seq ?_
                          refine TC_reg ?_
                          refine TL_ev env 2 rfl ⟨tv, ⟨tv, tv⟩⟩ ?_
                          obtain ⟨z, hr, h1⟩ := bnd h1
                          rcases z with ⟨⟩ | ⟨r698, r699⟩
                          · refine TL_callB [(0, 13402), (1, 13406)] (lapped_Unlapper_Feed_2.ok0 hr) lapped_Unlapper_Feed_2.fnb rfl ⟨tv, ⟨tv, ⟨tv, tv⟩⟩⟩ rfl ⟨.inr rfl, .inr rfl, tv⟩ rfl ?_
                            refine TL_ev env 5 rfl ⟨tv, ⟨tv, ⟨tv, ⟨tv, ⟨tv, tv⟩⟩⟩⟩⟩ ?_
                            refine TL_end ?_
                            refine TE_go ?_
                            refine TC_seq ?_
                            refine TC_reg ?_
                            refine TL_ev env 2 rfl ⟨tv, ⟨tv, tv⟩⟩ ?_
                            obtain ⟨z, hr, h1⟩ := bnd h1
                            rcases z with ⟨⟩ | ⟨r700, r701⟩
                            · refine TL_callB [(0, 13403), (1, 13407)] (lapped_Unlapper_Feed.ok0 hr) lapped_Unlapper_Feed.fnb rfl ⟨tv, ⟨tv, ⟨tv, tv⟩⟩⟩ rfl ⟨.inr rfl, .inr rfl, tv⟩ rfl ?_
                              refine TL_ev env 5 rfl ⟨tv, ⟨tv, ⟨tv, ⟨tv, ⟨tv, tv⟩⟩⟩⟩⟩ ?_
                              refine TL_end ?_
                              refine TE_go ?_
                              refine TC_seq ?_
                              refine TC_reg ?_
                              refine TL_ev env 3 rfl ⟨tv, ⟨⟨tv, ⟨tv, tv⟩⟩, ⟨tv, tv⟩⟩⟩ ?_
                              refine TL_gt rfl rfl rfl rfl ?_
                              refine TL_ev env 1 rfl ⟨tv, tv⟩ ?_
                              refine TL_gt rfl rfl rfl rfl ?_
                              refine TL_ev env 3 rfl ⟨⟨tv, ⟨tv, tv⟩⟩, ⟨⟨tv, ⟨tv, tv⟩⟩, ⟨tv, tv⟩⟩⟩ ?_
                              refine TL_gf (.bool false) rfl rfl rfl rfl rfl (by decide) ?_
                              refine TL_gf (.bool false) rfl rfl rfl rfl rfl (by decide) ?_
                              refine TL_ev env 2 rfl ⟨⟨tv, ⟨tv, fun e => e⟩⟩, ⟨tv, tv⟩⟩ ?_
                              refine TL_gf (.bool false) rfl rfl rfl rfl rfl (by decide) ?_
                              refine TL_gf (.bool false) rfl rfl rfl rfl rfl (by decide) ?_
                              refine TL_ev env 2 rfl ⟨⟨tv, ⟨tv, fun e => e⟩⟩, ⟨tv, tv⟩⟩ ?_
                              refine TL_gf (.bool false) rfl rfl rfl rfl rfl (by decide) ?_
                              refine TL_gf (.bool false) rfl rfl rfl rfl rfl (by decide) ?_
                              refine TL_gf (.bool false) rfl rfl rfl rfl rfl (by decide) ?_
                              refine TL_gf (.bool false) rfl rfl rfl rfl rfl (by decide) ?_
                              refine TL_ev env 2 rfl ⟨⟨tv, ⟨tv, fun e => e⟩⟩, ⟨tv, tv⟩⟩ ?_
                              refine TL_gf (.bool false) rfl rfl rfl rfl rfl (by decide) ?_
                              refine TL_gf (.bool false) rfl rfl rfl rfl rfl (by decide) ?_
                              refine TL_gf (.bool false) rfl rfl rfl rfl rfl (by decide) ?_
                              refine TL_gf (.bool false) rfl rfl rfl rfl rfl (by decide) ?_
                              refine TL_ev env 1 rfl ⟨⟨tv, ⟨tv, fun e => e⟩⟩, tv⟩ ?_
                              refine TL_end ?_
                              refine TE_go ?_
                              refine TC_cond rfl (fun hb => ?_) (fun hb => ?_)
                              · refine TC_seq ?_
                                refine TC_reg ?_
                                refine TL_ev env 1 rfl ⟨tv, tv⟩ ?_
                                refine TL_end ?_
                                refine TE_go ?_
                                refine TC_ret ?_
                                refine tbr ?_
                                refine tsr ?_
                                refine tsr ?_
                                refine tbr ?_
                                refine tsr ?_
                                refine tsr ?_
                                obtain rfl := sinj h1
                                obtain rfl := sinj h0
                                exact TE_ret env rfl tv tv
                              · first | exact (ftf hb).elim | exact (tff hb).elim | exact absurd hb (by decide)
                            · refine TL_callB [(0, 13403), (1, 13407)] (lapped_Unlapper_Feed.ok1 hr) lapped_Unlapper_Feed.fnb rfl ⟨tv, ⟨tv, ⟨tv, tv⟩⟩⟩ rfl ⟨.inr rfl, .inr rfl, tv⟩ rfl ?_
                              refine TL_ev env 5 rfl ⟨tv, ⟨tv, ⟨tv, ⟨tv, ⟨tv, tv⟩⟩⟩⟩⟩ ?_
                              refine TL_end ?_
                              refine TE_go ?_
                              refine TC_seq ?_
                              refine TC_reg ?_
                              refine TL_ev env 3 rfl ⟨tv, ⟨⟨tv, ⟨tv, tv⟩⟩, ⟨tv, tv⟩⟩⟩ ?_
                              refine TL_gt rfl rfl rfl rfl ?_
                              refine TL_ev env 1 rfl ⟨tv, tv⟩ ?_
                              refine TL_gt rfl rfl rfl rfl ?_
                              refine TL_ev env 3 rfl ⟨⟨tv, ⟨tv, tv⟩⟩, ⟨⟨tv, ⟨tv, tv⟩⟩, ⟨tv, tv⟩⟩⟩ ?_
                              refine TL_gf (.bool false) rfl rfl rfl rfl rfl (by decide) ?_
                              refine TL_gf (.bool false) rfl rfl rfl rfl rfl (by decide) ?_
                              refine TL_ev env 2 rfl ⟨⟨tv, ⟨tv, fun e => e⟩⟩, ⟨tv, tv⟩⟩ ?_
                              refine TL_gf (.bool false) rfl rfl rfl rfl rfl (by decide) ?_
                              refine TL_gf (.bool false) rfl rfl rfl rfl rfl (by decide) ?_
                              refine TL_ev env 2 rfl ⟨⟨tv, ⟨tv, fun e => e⟩⟩, ⟨tv, tv⟩⟩ ?_
                              refine TL_gf (.bool false) rfl rfl rfl rfl rfl (by decide) ?_
                              refine TL_gf (.bool false) rfl rfl rfl rfl rfl (by decide) ?_
                              refine TL_gf (.bool false) rfl rfl rfl rfl rfl (by decide) ?_
                              refine TL_gf (.bool false) rfl rfl rfl rfl rfl (by decide) ?_
                              refine TL_ev env 2 rfl ⟨⟨tv, ⟨tv, fun e => e⟩⟩, ⟨tv, tv⟩⟩ ?_
                              refine TL_gf (.bool false) rfl rfl rfl rfl rfl (by decide) ?_
                              refine TL_gf (.bool false) rfl rfl rfl rfl rfl (by decide) ?_
                              refine TL_gf (.bool false) rfl rfl rfl rfl rfl (by decide) ?_
                              refine TL_gf (.bool false) rfl rfl rfl rfl rfl (by decide) ?_
                              refine TL_ev env 1 rfl ⟨⟨tv, ⟨tv, fun e => e⟩⟩, tv⟩ ?_
                              refine TL_end ?_
                              refine TE_go ?_
                              refine TC_cond rfl (fun hb => ?_) (fun hb => ?_)
                              · refine TC_seq ?_
                                refine TC_reg ?_
                                refine TL_ev env 1 rfl ⟨tv, tv⟩ ?_
                                refine TL_end ?_
                                refine TE_go ?_
                                refine TC_ret ?_
                                refine tbr ?_
                                refine tsr ?_
                                refine tsr ?_
                                refine tbr ?_
                                refine tsr ?_
                                refine tsr ?_
                                obtain rfl := sinj h1
                                obtain rfl := sinj h0
                                exact TE_ret env rfl tv tv
                              · first | exact (ftf hb).elim | exact (tff hb).elim | exact absurd hb (by decide)
                          · refine TL_callB [(0, 13402), (1, 13406)] (lapped_Unlapper_Feed_2.ok1 hr) lapped_Unlapper_Feed_2.fnb rfl ⟨tv, ⟨tv, ⟨tv, tv⟩⟩⟩ rfl ⟨.inr rfl, .inr rfl, tv⟩ rfl ?_
                            refine TL_ev env 5 rfl ⟨tv, ⟨tv, ⟨tv, ⟨tv, ⟨tv, tv⟩⟩⟩⟩⟩ ?_
                            refine TL_end ?_
                            refine TE_go ?_
                            refine TC_seq ?_
                            refine TC_reg ?_
                            refine TL_ev env 2 rfl ⟨tv, ⟨tv, tv⟩⟩ ?_
                            obtain ⟨z, hr, h1⟩ := bnd h1
                            rcases z with ⟨⟩ | ⟨r702, r703⟩
                            · refine TL_callB [(0, 13403), (1, 13407)] (lapped_Unlapper_Feed.ok0 hr) lapped_Unlapper_Feed.fnb rfl ⟨tv, ⟨tv, ⟨tv, tv⟩⟩⟩ rfl ⟨.inr rfl, .inr rfl, tv⟩ rfl ?_
                              refine TL_ev env 5 rfl ⟨tv, ⟨tv, ⟨tv, ⟨tv, ⟨tv, tv⟩⟩⟩⟩⟩ ?_
                              refine TL_end ?_
                              refine TE_go ?_
                              refine TC_seq ?_
                              refine TC_reg ?_
                              refine TL_ev env 3 rfl ⟨tv, ⟨⟨tv, ⟨tv, tv⟩⟩, ⟨tv, tv⟩⟩⟩ ?_
                              refine TL_gt rfl rfl rfl rfl ?_
                              refine TL_ev env 1 rfl ⟨tv, tv⟩ ?_
                              refine TL_gt rfl rfl rfl rfl ?_
                              refine TL_ev env 3 rfl ⟨⟨tv, ⟨tv, tv⟩⟩, ⟨⟨tv, ⟨tv, tv⟩⟩, ⟨tv, tv⟩⟩⟩ ?_
                              refine TL_gf (.bool false) rfl rfl rfl rfl rfl (by decide) ?_
                              refine TL_gf (.bool false) rfl rfl rfl rfl rfl (by decide) ?_
                              refine TL_ev env 2 rfl ⟨⟨tv, ⟨tv, fun e => e⟩⟩, ⟨tv, tv⟩⟩ ?_
                              refine TL_gf (.bool false) rfl rfl rfl rfl rfl (by decide) ?_
                              refine TL_gf (.bool false) rfl rfl rfl rfl rfl (by decide) ?_
                              refine TL_ev env 2 rfl ⟨⟨tv, ⟨tv, fun e => e⟩⟩, ⟨tv, tv⟩⟩ ?_
                              refine TL_gf (.bool false) rfl rfl rfl rfl rfl (by decide) ?_
                              refine TL_gf (.bool false) rfl rfl rfl rfl rfl (by decide) ?_
                              refine TL_gf (.bool false) rfl rfl rfl rfl rfl (by decide) ?_
                              refine TL_gf (.bool false) rfl rfl rfl rfl rfl (by decide) ?_
                              refine TL_ev env 2 rfl ⟨⟨tv, ⟨tv, fun e => e⟩⟩, ⟨tv, tv⟩⟩ ?_
                              refine TL_gf (.bool false) rfl rfl rfl rfl rfl (by decide) ?_
                              refine TL_gf (.bool false) rfl rfl rfl rfl rfl (by decide) ?_
                              refine TL_gf (.bool false) rfl rfl rfl rfl rfl (by decide) ?_
                              refine TL_gf (.bool false) rfl rfl rfl rfl rfl (by decide) ?_
                              refine TL_ev env 1 rfl ⟨⟨tv, ⟨tv, fun e => e⟩⟩, tv⟩ ?_
                              refine TL_end ?_
                              refine TE_go ?_
                              refine TC_cond rfl (fun hb => ?_) (fun hb => ?_)
                              · refine TC_seq ?_
                                refine TC_reg ?_
                                refine TL_ev env 1 rfl ⟨tv, tv⟩ ?_
                                refine TL_end ?_
                                refine TE_go ?_
                                refine TC_ret ?_
                                refine tbr ?_
                                refine tsr ?_
                                refine tsr ?_
                                refine tbr ?_
                                refine tsr ?_
                                refine tsr ?_
                                obtain rfl := sinj h1
                                obtain rfl := sinj h0
                                exact TE_ret env rfl tv tv
                              · first | exact (ftf hb).elim | exact (tff hb).elim | exact absurd hb (by decide)
                            · refine TL_callB [(0, 13403), (1, 13407)] (lapped_Unlapper_Feed.ok1 hr) lapped_Unlapper_Feed.fnb rfl ⟨tv, ⟨tv, ⟨tv, tv⟩⟩⟩ rfl ⟨.inr rfl, .inr rfl, tv⟩ rfl ?_
                              refine TL_ev env 5 rfl ⟨tv, ⟨tv, ⟨tv, ⟨tv, ⟨tv, tv⟩⟩⟩⟩⟩ ?_
                              refine TL_end ?_
                              refine TE_go ?_
                              refine TC_seq ?_
                              refine TC_reg ?_
                              refine TL_ev env 3 rfl ⟨tv, ⟨⟨tv, ⟨tv, tv⟩⟩, ⟨tv, tv⟩⟩⟩ ?_
                              refine TL_gt rfl rfl rfl rfl ?_
                              refine TL_ev env 1 rfl ⟨tv, tv⟩ ?_
                              refine TL_gt rfl rfl rfl rfl ?_
                              refine TL_ev env 3 rfl ⟨⟨tv, ⟨tv, tv⟩⟩, ⟨⟨tv, ⟨tv, tv⟩⟩, ⟨tv, tv⟩⟩⟩ ?_
                              refine TL_gf (.bool false) rfl rfl rfl rfl rfl (by decide) ?_
                              refine TL_gf (.bool false) rfl rfl rfl rfl rfl (by decide) ?_
                              refine TL_ev env 2 rfl ⟨⟨tv, ⟨tv, fun e => e⟩⟩, ⟨tv, tv⟩⟩ ?_
                              refine TL_gf (.bool false) rfl rfl rfl rfl rfl (by decide) ?_
                              refine TL_gf (.bool false) rfl rfl rfl rfl rfl (by decide) ?_
                              refine TL_ev env 2 rfl ⟨⟨tv, ⟨tv, fun e => e⟩⟩, ⟨tv, tv⟩⟩ ?_
                              refine TL_gf (.bool false) rfl rfl rfl rfl rfl (by decide) ?_
                              refine TL_gf (.bool false) rfl rfl rfl rfl rfl (by decide) ?_
                              refine TL_gf (.bool false) rfl rfl rfl rfl rfl (by decide) ?_
                              refine TL_gf (.bool false) rfl rfl rfl rfl rfl (by decide) ?_
                              refine TL_ev env 2 rfl ⟨⟨tv, ⟨tv, fun e => e⟩⟩, ⟨tv, tv⟩⟩ ?_
                              refine TL_gf (.bool false) rfl rfl rfl rfl rfl (by decide) ?_
                              refine TL_gf (.bool false) rfl rfl rfl rfl rfl (by decide) ?_
                              refine TL_gf (.bool false) rfl rfl rfl rfl rfl (by decide) ?_
                              refine TL_gf (.bool false) rfl rfl rfl rfl rfl (by decide) ?_
                              refine TL_ev env 1 rfl ⟨⟨tv, ⟨tv, fun e => e⟩⟩, tv⟩ ?_
                              refine TL_end ?_
                              refine TE_go ?_
                              refine TC_cond rfl (fun hb => ?_) (fun hb => ?_)
                              · refine TC_seq ?_
                                refine TC_reg ?_
                                refine TL_ev env 1 rfl ⟨tv, tv⟩ ?_
                                refine TL_end ?_
                                refine TE_go ?_
                                refine TC_ret ?_
                                refine tbr ?_
                                refine tsr ?_
                                refine tsr ?_
                                refine tbr ?_
                                refine tsr ?_
                                refine tsr ?_
                                obtain rfl := sinj h1
                                obtain rfl := sinj h0
                                exact TE_ret env rfl tv tv
                              · first | exact (ftf hb).elim | exact (tff hb).elim | exact absurd hb (by decide)
                        · refine TL_callB [(0, 13401), (1, 13405)] (lapped_Lapper_Feed.ok1 hr) lapped_Lapper_Feed.fnb rfl ⟨tv, ⟨tv, ⟨tv, tv⟩⟩⟩ rfl ⟨.inr rfl, .inr rfl, tv⟩ rfl ?_
                          refine TL_ev env 5 rfl ⟨tv, ⟨tv, ⟨tv, ⟨tv, ⟨tv, tv⟩⟩⟩⟩⟩ ?_
                          refine TL_end ?_
                          refine TE_go ?_
                          refine TC_seq ?_
                          refine TC_reg ?_
                          refine TL_ev env 2 rfl ⟨tv, ⟨tv, tv⟩⟩ ?_
                          obtain ⟨z, hr, h1⟩ := bnd h1
                          rcases z with ⟨⟩ | ⟨r704, r705⟩
                          · refine TL_callB [(0, 13402), (1, 13406)] (lapped_Unlapper_Feed_2.ok0 hr) lapped_Unlapper_Feed_2.fnb rfl ⟨tv, ⟨tv, ⟨tv, tv⟩⟩⟩ rfl ⟨.inr rfl, .inr rfl, tv⟩ rfl ?_
                            refine TL_ev env 5 rfl ⟨tv, ⟨tv, ⟨tv, ⟨tv, ⟨tv, tv⟩⟩⟩⟩⟩ ?_
                            refine TL_end ?_
                            refine TE_go ?_
                            refine TC_seq ?_
                            refine TC_reg ?_
                            refine TL_ev env 2 rfl ⟨tv, ⟨tv, tv⟩⟩ ?_
                            obtain ⟨z, hr, h1⟩ := bnd h1
                            rcases z with ⟨⟩ | ⟨r706, r707⟩
                            · refine TL_callB [(0, 13403), (1, 13407)] (lapped_Unlapper_Feed_2.ok0 hr) lapped_Unlapper_Feed_2.fnb rfl ⟨tv, ⟨tv, ⟨tv, tv⟩⟩⟩ rfl ⟨.inr rfl, .inr rfl, tv⟩ rfl ?_
                              refine TL_ev env 5 rfl ⟨tv, ⟨tv, ⟨tv, ⟨tv, ⟨tv, tv⟩⟩⟩⟩⟩ ?_
                              refine TL_end ?_
                              refine TE_go ?_
                              refine TC_seq ?_
                              refine TC_reg ?_
                              refine TL_ev env 3 rfl ⟨tv, ⟨⟨tv, ⟨tv, tv⟩⟩, ⟨tv, tv⟩⟩⟩ ?_
                              refine TL_gt rfl rfl rfl rfl ?_
                              refine TL_ev env 1 rfl ⟨tv, tv⟩ ?_
                              refine TL_gt rfl rfl rfl rfl ?_
                              refine TL_ev env 3 rfl ⟨⟨tv, ⟨tv, tv⟩⟩, ⟨⟨tv, ⟨tv, tv⟩⟩, ⟨tv, tv⟩⟩⟩ ?_
                              refine TL_gt rfl rfl rfl rfl ?_
                              refine TL_ev env 1 rfl ⟨tv, tv⟩ ?_
                              refine TL_gt rfl rfl rfl rfl ?_
                              refine TL_ev env 3 rfl ⟨⟨tv, ⟨tv, tv⟩⟩, ⟨⟨tv, ⟨tv, tv⟩⟩, ⟨tv, tv⟩⟩⟩ ?_
                              refine TL_gf (.bool false) rfl rfl rfl rfl rfl (by decide) ?_
                              refine TL_gf (.bool false) rfl rfl rfl rfl rfl (by decide) ?_
                              refine TL_ev env 2 rfl ⟨⟨tv, ⟨tv, fun e => e⟩⟩, ⟨tv, tv⟩⟩ ?_
                              refine TL_gf (.bool false) rfl rfl rfl rfl rfl (by decide) ?_
                              refine TL_gf (.bool false) rfl rfl rfl rfl rfl (by decide) ?_
                              refine TL_gf (.bool false) rfl rfl rfl rfl rfl (by decide) ?_
                              refine TL_gf (.bool false) rfl rfl rfl rfl rfl (by decide) ?_
                              refine TL_ev env 2 rfl ⟨⟨tv, ⟨tv, fun e => e⟩⟩, ⟨tv, tv⟩⟩ ?_
                              refine TL_gf (.bool false) rfl rfl rfl rfl rfl (by decide) ?_
                              refine TL_gf (.bool false) rfl rfl rfl rfl rfl (by decide) ?_
                              refine TL_gf (.bool false) rfl rfl rfl rfl rfl (by decide) ?_
                              refine TL_gf (.bool false) rfl rfl rfl rfl rfl (by decide) ?_
                              refine TL_ev env 1 rfl ⟨⟨tv, ⟨tv, fun e => e⟩⟩, tv⟩ ?_
                              refine TL_end ?_
                              refine TE_go ?_
                              refine TC_cond rfl (fun hb => ?_) (fun hb => ?_)
                              · refine TC_seq ?_
                                refine TC_reg ?_
                                refine TL_ev env 1 rfl ⟨tv, tv⟩ ?_
                                refine TL_end ?_
                                refine TE_go ?_
                                refine TC_ret ?_
                                refine tbr ?_
                                refine tsr ?_
                                refine tsr ?_
                                refine tbr ?_
                                refine tsr ?_
                                refine tsr ?_
                                obtain rfl := sinj h1
                                obtain rfl := sinj h0
                                exact TE_ret env rfl tv tv
                              · first | exact (ftf hb).elim | exact (tff hb).elim | exact absurd hb (by decide)
                            · refine TL_callB [(0, 13403), (1, 13407)] (lapped_Unlapper_Feed_2.ok1 hr) lapped_Unlapper_Feed_2.fnb rfl ⟨tv, ⟨tv, ⟨tv, tv⟩⟩⟩ rfl ⟨.inr rfl, .inr rfl, tv⟩ rfl ?_
                              refine TL_ev env 5 rfl ⟨tv, ⟨tv, ⟨tv, ⟨tv, ⟨tv, tv⟩⟩⟩⟩⟩ ?_
                              refine TL_end ?_
                              refine TE_go ?_
                              refine TC_seq ?_
                              refine TC_reg ?_
                              refine TL_ev env 3 rfl ⟨tv, ⟨⟨tv, ⟨tv, tv⟩⟩, ⟨tv, tv⟩⟩⟩ ?_
                              refine TL_gt rfl rfl rfl rfl ?_
                              refine TL_ev env 1 rfl ⟨tv, tv⟩ ?_
                              refine TL_gt rfl rfl rfl rfl ?_
                              refine TL_ev env 3 rfl ⟨⟨tv, ⟨tv, tv⟩⟩, ⟨⟨tv, ⟨tv, tv⟩⟩, ⟨tv, tv⟩⟩⟩ ?_
                              refine TL_gt rfl rfl rfl rfl ?_
                              refine TL_ev env 1 rfl ⟨tv, tv⟩ ?_
                              refine TL_gt rfl rfl rfl rfl ?_
                              refine TL_ev env 3 rfl ⟨⟨tv, ⟨tv, tv⟩⟩, ⟨⟨tv, ⟨tv, tv⟩⟩, ⟨tv, tv⟩⟩⟩ ?_
                              refine TL_gf (.bool false) rfl rfl rfl rfl rfl (by decide) ?_
                              refine TL_gf (.bool false) rfl rfl rfl rfl rfl (by decide) ?_
                              refine TL_ev env 2 rfl ⟨⟨tv, ⟨tv, fun e => e⟩⟩, ⟨tv, tv⟩⟩ ?_
                              refine TL_gf (.bool false) rfl rfl rfl rfl rfl (by decide) ?_
                              refine TL_gf (.bool false) rfl rfl rfl rfl rfl (by decide) ?_
                              refine TL_gf (.bool false) rfl rfl rfl rfl rfl (by decide) ?_
                              refine TL_gf (.bool false) rfl rfl rfl rfl rfl (by decide) ?_
                              refine TL_ev env 2 rfl ⟨⟨tv, ⟨tv, fun e => e⟩⟩, ⟨tv, tv⟩⟩ ?_
                              refine TL_gf (.bool false) rfl rfl rfl rfl rfl (by decide) ?_
                              refine TL_gf (.bool false) rfl rfl rfl rfl rfl (by decide) ?_
                              refine TL_gf (.bool false) rfl rfl rfl rfl rfl (by decide) ?_
                              refine TL_gf (.bool false) rfl rfl rfl rfl rfl (by decide) ?_
                              refine TL_ev env 1 rfl ⟨⟨tv, ⟨tv, fun e => e⟩⟩, tv⟩ ?_
                              refine TL_end ?_
                              refine TE_go ?_
                              refine TC_cond rfl (fun hb => ?_) (fun hb => ?_)
                              · refine TC_seq ?_
                                refine TC_reg ?_
                                refine TL_ev env 1 rfl ⟨tv, tv⟩ ?_
                                refine TL_end ?_
                                refine TE_go ?_
                                refine TC_ret ?_
                                refine tbr ?_
                                refine tsr ?_
                                refine tsr ?_
                                refine tbr ?_
                                refine tsr ?_
                                refine tsr ?_
                                obtain rfl := sinj h1
                                obtain rfl := sinj h0
                                exact TE_ret env rfl tv tv
                              · first | exact (ftf hb).elim | exact (tff hb).elim | exact absurd hb (by decide)
                          · refine TL_callB [(0, 13402), (1, 13406)] (lapped_Unlapper_Feed_2.ok1 hr) lapped_Unlapper_Feed_2.fnb rfl ⟨tv, ⟨tv, ⟨tv, tv⟩⟩⟩ rfl ⟨.inr rfl, .inr rfl, tv⟩ rfl ?_
                            refine TL_ev env 5 rfl ⟨tv, ⟨tv, ⟨tv, ⟨tv, ⟨tv, tv⟩⟩⟩⟩⟩ ?_
                            refine TL_end ?_
                            refine TE_go ?_
                            refine TC_seq ?_
                            refine TC_reg ?_
                            refine TL_ev env 2 rfl ⟨tv, ⟨tv, tv⟩⟩ ?_
                            obtain ⟨z, hr, h1⟩ := bnd h1
                            rcases z with ⟨⟩ | ⟨r708, r709⟩
                            · refine TL_callB [(0, 13403), (1, 13407)] (lapped_Unlapper_Feed_2.ok0 hr) lapped_Unlapper_Feed_2.fnb rfl ⟨tv, ⟨tv, ⟨tv, tv⟩⟩⟩ rfl ⟨.inr rfl, .inr rfl, tv⟩ rfl ?_
                              refine TL_ev env 5 rfl ⟨tv, ⟨tv, ⟨tv, ⟨tv, ⟨tv, tv⟩⟩⟩⟩⟩ ?_
                              refine TL_end ?_
                              refine TE_go ?_
                              refine TC_seq ?_
                              refine TC_reg ?_
                              refine TL_ev env 3 rfl ⟨tv, ⟨⟨tv, ⟨tv, tv⟩⟩, ⟨tv, tv⟩⟩⟩ ?_
                              refine TL_gt rfl rfl rfl rfl ?_
                              refine TL_ev env 1 rfl ⟨tv, tv⟩ ?_
                              refine TL_gt rfl rfl rfl rfl ?_
                              refine TL_ev env 3 rfl ⟨⟨tv, ⟨tv, tv⟩⟩, ⟨⟨tv, ⟨tv, tv⟩⟩, ⟨tv, tv⟩⟩⟩ ?_
                              refine TL_gt rfl rfl rfl rfl ?_
                              refine TL_ev env 1 rfl ⟨tv, tv⟩ ?_
                              refine TL_gt rfl rfl rfl rfl ?_
                              refine TL_ev env 3 rfl ⟨⟨tv, ⟨tv, tv⟩⟩, ⟨⟨tv, ⟨tv, tv⟩⟩, ⟨tv, tv⟩⟩⟩ ?_
                              refine TL_gt rfl rfl rfl rfl ?_
                              refine TL_ev env 1 rfl ⟨tv, tv⟩ ?_
                              refine TL_gt rfl rfl rfl rfl ?_
                              refine TL_ev env 3 rfl ⟨⟨tv, ⟨tv, tv⟩⟩, ⟨⟨tv, ⟨tv, tv⟩⟩, ⟨tv, tv⟩⟩⟩ ?_
                              refine TL_gf (.bool false) rfl rfl rfl rfl rfl (by decide) ?_
                              refine TL_gf (.bool false) rfl rfl rfl rfl rfl (by decide) ?_
                              refine TL_gf (.bool false) rfl rfl rfl rfl rfl (by decide) ?_
                              refine TL_gf (.bool false) rfl rfl rfl rfl rfl (by decide) ?_
                              refine TL_ev env 2 rfl ⟨⟨tv, ⟨tv, fun e => e⟩⟩, ⟨tv, tv⟩⟩ ?_
                              refine TL_gf (.bool false) rfl rfl rfl rfl rfl (by decide) ?_
                              refine TL_gf (.bool false) rfl rfl rfl rfl rfl (by decide) ?_
                              refine TL_gf (.bool false) rfl rfl rfl rfl rfl (by decide) ?_
                              refine TL_gf (.bool false) rfl rfl rfl rfl rfl (by decide) ?_
                              refine TL_ev env 1 rfl ⟨⟨tv, ⟨tv, fun e => e⟩⟩, tv⟩ ?_
                              refine TL_end ?_
                              refine TE_go ?_
                              refine TC_cond rfl (fun hb => ?_) (fun hb => ?_)
                              · refine TC_seq ?_
                                refine TC_reg ?_
                                refine TL_ev env 1 rfl ⟨tv, tv⟩ ?_
                                refine TL_end ?_
                                refine TE_go ?_
                                refine TC_ret ?_
                                refine tbr ?_
                                refine tsr ?_
                                refine tsr ?_
                                refine tbr ?_
                                refine tsr ?_
                                refine tsr ?_
                                obtain rfl := sinj h1
                                obtain rfl := sinj h0
                                exact TE_ret env rfl tv tv
                              · first | exact (ftf hb).elim | exact (tff hb).elim | exact absurd hb (by decide)
                            · refine TL_callB [(0, 13403), (1, 13407)] (lapped_Unlapper_Feed_2.ok1 hr) lapped_Unlapper_Feed_2.fnb rfl ⟨tv, ⟨tv, ⟨tv, tv⟩⟩⟩ rfl ⟨.inr rfl, .inr rfl, tv⟩ rfl ?_
                              refine TL_ev env 5 rfl ⟨tv, ⟨tv, ⟨tv, ⟨tv, ⟨tv, tv⟩⟩⟩⟩⟩ ?_
                              refine TL_end ?_
                              refine TE_go ?_
                              refine TC_seq ?_
                              obtain ⟨z2, h2, h1⟩ := bnd h1
                              refine TC_cut (α := Bool × Bool × Bool) (fun s => z2 = s) (fun s => [(1, .im (.slice (.int .i16)) p1), (2, .im (.slice (.int .i16)) p2), (9, .int .i64 r238), (11, .p 13900 0), (13, .p 13901 0), (15, .p 13902 0), (17, .p 13903 0), (22, .int .i64 x552), (146, .int .i64 0), (147, .bool false), (150, .int .i64 0), (151, .bool false), (154, .int .i64 0), (155, .bool false), (158, .im (.slice (.int .i32)) r678), (159, .im (.slice (.int .i32)) r696), (160, .bool s.1), (161, .bool s.2.1), (168, .bool s.2.2)]) (fun s => [(13900, some (.cells [.int .i64 r238, .im (.slice (.int .i16)) r248, .im (.slice (.int .i16)) r249, .sl 13904])), (13901, some (.cells [.int .i64 r238, .im (.slice (.int .i16)) r257, .im (.slice (.int .i16)) r258, .sl 13905])), (13902, some (.cells [.int .i64 r238, .im (.slice (.int .i16)) r266, .im (.slice (.int .i16)) r267, .sl 13906])), (13903, some (.cells [.int .i64 r238, .im (.slice (.int .i16)) r275, .im (.slice (.int .i16)) r276, .sl 13907])), (13904, some (.rows (.int .i16) r679)), (13905, some (.rows (.int .i16) r697)), (13906, some (.rows (.int .i32) r705)), (13907, some (.rows (.int .i32) r709))]) ?_ ?_
                              · refine TC_reg ?_
                                refine TL_ev env 3 rfl ⟨tv, ⟨⟨tv, ⟨tv, tv⟩⟩, ⟨tv, tv⟩⟩⟩ ?_
                                refine TL_gt rfl rfl rfl rfl ?_
                                refine TL_ev env 1 rfl ⟨tv, tv⟩ ?_
                                refine TL_gt rfl rfl rfl rfl ?_
                                refine TL_ev env 3 rfl ⟨⟨tv, ⟨tv, tv⟩⟩, ⟨⟨tv, ⟨tv, tv⟩⟩, ⟨tv, tv⟩⟩⟩ ?_
                                refine TL_gt rfl rfl rfl rfl ?_
                                refine TL_ev env 1 rfl ⟨tv, tv⟩ ?_
                                refine TL_gt rfl rfl rfl rfl ?_
                                refine TL_ev env 3 rfl ⟨⟨tv, ⟨tv, tv⟩⟩, ⟨⟨tv, ⟨tv, tv⟩⟩, ⟨tv, tv⟩⟩⟩ ?_
                                refine TL_gt rfl rfl rfl rfl ?_
                                refine TL_ev env 1 rfl ⟨tv, tv⟩ ?_
                                refine TL_gt rfl rfl rfl rfl ?_
                                refine TL_ev env 3 rfl ⟨⟨tv, ⟨tv, tv⟩⟩, ⟨⟨tv, ⟨tv, tv⟩⟩, ⟨tv, tv⟩⟩⟩ ?_
                                refine TL_gt rfl rfl rfl rfl ?_
                                refine TL_ev env 1 rfl ⟨tv, tv⟩ ?_
                                refine TL_gt rfl rfl rfl rfl ?_
                                refine TL_ev env 1 rfl ⟨tv, tv⟩ ?_
                                refine TL_gt rfl rfl rfl rfl ?_
                                obtain ⟨r716, hr, h2⟩ := bnd h2
                                refine TL_callB [] (psalteryref08_Same32.ok0 hr) psalteryref08_Same32.fnb rfl ⟨tv, ⟨tv, ⟨tv, tv⟩⟩⟩ rfl tv rfl ?_
                                refine TL_gt rfl rfl rfl rfl ?_
                                refine TL_ev env 3 rfl ⟨tv, ⟨⟨tv, ⟨tv, tv⟩⟩, ⟨tv, tv⟩⟩⟩ ?_
                                refine TL_split 163 rfl (fun hb => ?_) (fun hb => ?_)
                                · replace h2 := bif_t h2 hb
                                  refine TL_gf (.bool false) rfl rfl rfl rfl rfl (by decide) ?_
                                  refine TL_gf (.bool false) rfl rfl rfl rfl rfl (by decide) ?_
                                  refine TL_gf (.bool false) rfl rfl rfl rfl rfl (by decide) ?_
                                  refine TL_gf (.bool false) rfl rfl rfl rfl rfl (by decide) ?_
                                  refine TL_ev env 1 rfl ⟨⟨tv, ⟨tv, fun e => e⟩⟩, tv⟩ ?_
                                  refine TL_end ?_
                                  obtain rfl := sinj h2
                                  refine tsn ?_
                                  exact SP_ren [(13900, 13400), (13901, 13401), (13902, 13402), (13903, 13403), (13904, 13404), (13905, 13405), (13906, 13406), (13907, 13407)] (_, _, _) rfl ⟨rfl, rfl, rfl, rfl, rfl, rfl, rfl, rfl, rfl, rfl, rfl, rfl, rfl, rfl, rfl, rfl, rfl, rfl, rfl, tv⟩ ⟨rfl, rfl, rfl, rfl, rfl, rfl, rfl, rfl, tv⟩ rfl
                                · replace h2 := bif_f h2 hb
                                  refine TL_gt rfl rfl rfl rfl ?_
                                  refine TL_ev env 1 rfl ⟨tv, tv⟩ ?_
                                  refine TL_gt rfl rfl rfl rfl ?_
                                  refine TL_ev env 1 rfl ⟨tv, tv⟩ ?_
                                  refine TL_gt rfl rfl rfl rfl ?_
                                  obtain ⟨r717, hr, h2⟩ := bnd h2
                                  refine TL_callB [] (psalteryref08_Same32.ok0 hr) psalteryref08_Same32.fnb rfl ⟨tv, ⟨tv, ⟨tv, tv⟩⟩⟩ rfl tv rfl ?_
                                  refine TL_gt rfl rfl rfl rfl ?_
                                  refine TL_ev env 2 rfl ⟨tv, ⟨⟨tv, ⟨tv, tv⟩⟩, tv⟩⟩ ?_
                                  refine TL_end ?_
                                  obtain rfl := sinj h2
                                  refine tsn ?_
                                  exact SP_ren [(13900, 13400), (13901, 13401), (13902, 13402), (13903, 13403), (13904, 13404), (13905, 13405), (13906, 13406), (13907, 13407)] (_, _, _) rfl ⟨rfl, rfl, rfl, rfl, rfl, rfl, rfl, rfl, rfl, rfl, rfl, rfl, rfl, rfl, rfl, rfl, rfl, rfl, rfl, tv⟩ ⟨rfl, rfl, rfl, rfl, rfl, rfl, rfl, rfl, tv⟩ rfl
                              · rintro ⟨x712, x713, x714⟩ rfl
                                refine TE_go ?_
                                refine TC_cond rfl (fun hb => ?_) (fun hb => ?_)
                                · replace h1 := bif_t h1 hb
                                  refine TC_seq ?_
                                  refine TC_reg ?_
                                  refine TL_ev env 1 rfl ⟨tv, tv⟩ ?_
                                  refine TL_end ?_
                                  refine TE_go ?_
                                  refine TC_ret ?_
                                  refine tbr ?_
                                  refine tsr ?_
                                  refine tsr ?_
                                  refine tbr ?_
                                  refine tsr ?_
                                  refine tsr ?_
                                  obtain rfl := sinj h1
                                  obtain rfl := sinj h0
                                  exact TE_ret env rfl tv tv
                                · replace h1 := bif_f h1 hb
                                  refine TC_skip ?_
                                  refine tbn ?_
                                  refine TE_go ?_
                                  refine TC_reg ?_
                                  refine TL_ev env 4 rfl ⟨tv, ⟨tv, ⟨⟨tv, ⟨tv, tv⟩⟩, ⟨tv, tv⟩⟩⟩⟩ ?_
                                  refine TL_end ?_
                                  refine tsn ?_
                                  exact TE_nextr [(13400, 13900), (13401, 13901), (13402, 13902), (13403, 13903), (13404, 13904), (13405, 13905), (13406, 13906), (13407, 13907)] n (Nat.lt_succ_self n) (_, _, _, _, _) h1 ⟨rfl, rfl, rfl, rfl, rfl, rfl, rfl, rfl, tv⟩ ⟨rfl, rfl, rfl, rfl, rfl, rfl, rfl, rfl, tv⟩ rfl
                    · replace h1 := bif_f h1 hb
                      refine TC_exit ?_
                      refine tsx ?_
                      refine tsx ?_
                      refine tbe ?_
                      obtain rfl := sinj h1
                      refine tsn ?_
                      exact SP_ren [] () rfl ⟨rfl, tv⟩ tv rfl
                  · rintro ⟨⟩ rfl
                    refine TE_go ?_
                    refine TC_seq ?_
                    refine TC_reg ?_
                    refine TL_ev env 1 rfl ⟨tv, tv⟩ ?_
                    refine TL_end ?_
                    refine TE_go ?_
                    refine TC_seq ?_
                    refine TC_reg ?_
                    refine TL_ev env 1 rfl ⟨tv, tv⟩ ?_
                    refine TL_end ?_
                    refine TE_go ?_
                    refine TC_seq ?_
                    refine TC_reg ?_
                    refine TL_ev env 1 rfl ⟨tv, tv⟩ ?_
                    obtain ⟨⟨⟩, hr, h0⟩ := bnd h0
                    refine TL_callB [] (lapped_Lapper_Reset_2.ok0 hr) lapped_Lapper_Reset_2.fnb rfl ⟨tv, ⟨tv, tv⟩⟩ rfl tv rfl ?_
                    refine TL_end ?_
                    refine TE_go ?_
                    refine TC_seq ?_
                    refine TC_reg ?_
                    refine TL_ev env 1 rfl ⟨tv, tv⟩ ?_
                    obtain ⟨⟨⟩, hr, h0⟩ := bnd h0
                    refine TL_callB [] (lapped_Unlapper_Reset_2.ok0 hr) lapped_Unlapper_Reset_2.fnb rfl ⟨tv, ⟨tv, tv⟩⟩ rfl tv rfl ?_
                    refine TL_end ?_
                    refine TE_go ?_
                    refine TC_seq ?_
                    refine TC_reg ?_
                    refine TL_ev env 2 rfl ⟨tv, ⟨tv, tv⟩⟩ ?_
                    obtain ⟨⟨⟩, hr, h0⟩ := bnd h0
                    refine TL_callB [] (lapped_Lapper_Feed_2.ok0 hr) lapped_Lapper_Feed_2.fnb rfl ⟨tv, ⟨tv, ⟨tv, tv⟩⟩⟩ rfl tv rfl ?_
                    refine TL_ev env 5 rfl ⟨tv, ⟨tv, ⟨tv, ⟨tv, ⟨tv, tv⟩⟩⟩⟩⟩ ?_
                    refine TL_end ?_
                    refine TE_go ?_
                    refine TC_seq ?_
                    refine TC_reg ?_
                    refine TL_ev env 1 rfl ⟨tv, tv⟩ ?_
                    obtain ⟨⟨⟩, hr, h0⟩ := bnd h0
                    refine TL_callB [] (lapped_Unlapper_Feed_3.ok0 hr) lapped_Unlapper_Feed_3.fnb rfl ⟨tv, ⟨tv, ⟨tv, tv⟩⟩⟩ rfl tv rfl ?_
                    refine TL_ev env 5 rfl ⟨tv, ⟨tv, ⟨tv, ⟨tv, ⟨tv, tv⟩⟩⟩⟩⟩ ?_
                    refine TL_end ?_
                    refine TE_go ?_
                    refine TC_seq ?_
                    refine TC_reg ?_
                    refine TL_ev env 3 rfl ⟨tv, ⟨⟨tv, ⟨tv, tv⟩⟩, ⟨tv, tv⟩⟩⟩ ?_
                    refine TL_gt rfl rfl rfl rfl ?_
                    refine TL_ev env 1 rfl ⟨tv, tv⟩ ?_
                    refine TL_gt rfl rfl rfl rfl ?_
                    refine TL_ev env 3 rfl ⟨⟨tv, ⟨tv, tv⟩⟩, ⟨⟨tv, ⟨tv, tv⟩⟩, ⟨tv, tv⟩⟩⟩ ?_
                    refine TL_end ?_
                    refine TE_go ?_
                    refine TC_ret ?_
                    obtain rfl := sinj h0
                    exact TE_ret env rfl tv tv
theorem psalterylaw09_LappedForgets.ok0 {K : Nat} {p0 : Int} {p1 : List (Int)} {p2 : List (Int)} {p3 : Bool} {q0 : Bool} (h0 : psalterylaw09_LappedForgets K p0 p1 p2 p3 = some q0) : Fn Try.prog 11 [.int .u8 p0, .im (.slice (.int .i16)) p1, .im (.slice (.int .i16)) p2, .bool p3] [] (.bool q0) [] := psalterylaw09_LappedForgets.ok h0
theorem psalterylaw09_LappedForgets.fnb : fnb Try.prog 11 = true := fnb_of Try.func11 rfl
end Go.Fo
