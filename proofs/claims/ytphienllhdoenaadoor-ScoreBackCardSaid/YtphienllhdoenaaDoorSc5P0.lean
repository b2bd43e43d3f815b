/- Each call comes to the function that is written for it. -/
import Derived.Test.YtphienllhdoenaaDoorSc5T
import Derived.Test.YtphienllhdoenaaDoorSc5F
import Derived.Test.YtphienllhdoenaaDoorSx
import Derived.Test.YtphienllhdoenaaDoorSb
namespace Go.Fo
open Go.Proofs
set_option maxRecDepth 20000
set_option maxHeartbeats 4000000
theorem internal_stringslite_IndexByte.ok0 {K : Nat} {p0 : ByteArray} {p1 : Int} {q0 : Int} (h0 : internal_stringslite_IndexByte K p0 p1 = some q0) : Fn Tryd.prog 69 [.str p0, .int .u8 p1] [] (.int .i64 q0) [] := by
  obtain rfl := sinj h0
  exact find_fn
theorem internal_stringslite_IndexByte.fnb : fnb Tryd.prog 69 = true := fnb_of Tryd.func69 rfl
def internal_stringslite_Index.res (_p0 : ByteArray) (_p1 : ByteArray) : Int → MV
  | q0 => .int .i64 q0
def internal_stringslite_Index.out (_p0 : ByteArray) (_p1 : ByteArray) : Int → List (Nat × Option MObj)
  | _ => []
theorem internal_stringslite_Index.ok {K : Nat} {p0 : ByteArray} {p1 : ByteArray} {r : Int} (h0 : internal_stringslite_Index K p0 p1 = some r) : Fn Tryd.prog 50 [.str p0, .str p1] [] (internal_stringslite_Index.res p0 p1 r) (internal_stringslite_Index.out p0 p1 r) := by
  refine Fn_of Tryd.func50 rfl (Nat.le_of_ble_eq_true rfl) fun Γ => ?_
  refine TC_seq ?_
  refine TC_reg ?_
  refine TL_ev env 1 rfl ⟨tv, tv⟩ ?_
  refine TL_end ?_
  refine TE_go ?_
  refine TC_seq ?_
  refine TC_reg ?_
  refine TL_ev env 3 rfl ⟨tv, ⟨⟨tv, tv⟩, ⟨tv, tv⟩⟩⟩ ?_
  refine TL_end ?_
  refine TE_go ?_
  refine TC_seq ?_
  refine TC_blk ?_
  refine TC_seq ?_
  refine TC_reg ?_
  refine TL_ev env 8 rfl ⟨tv, ⟨⟨tv, ⟨tv, tv⟩⟩, ⟨tv, ⟨fun eg => tv, ⟨fun eg => tv, ⟨fun eg => ⟨fun e => e, ⟨fun e => e, tv⟩⟩, ⟨⟨tv, ⟨tv, fun e => e⟩⟩, ⟨tv, tv⟩⟩⟩⟩⟩⟩⟩⟩ ?_
  refine TL_end ?_
  refine TE_go ?_
  refine TC_cond rfl (fun hb => ?_) (fun hb => ?_)
  · replace h0 := bif_t h0 hb
    refine TC_seq ?_
    refine TC_reg ?_
    refine TL_ev env 1 rfl ⟨tv, tv⟩ ?_
    refine TL_end ?_
    refine TE_go ?_
    refine TC_ret ?_
    refine tbr ?_
    refine tsr ?_
    obtain rfl := sinj h0
    exact TE_ret env rfl tv tv
  · replace h0 := bif_f h0 hb
    refine TC_seq ?_
    refine TC_reg ?_
    refine TL_ev env 3 rfl ⟨tv, ⟨⟨tv, ⟨tv, tv⟩⟩, ⟨tv, tv⟩⟩⟩ ?_
    refine TL_end ?_
    refine TE_go ?_
    refine TC_cond rfl (fun hb => ?_) (fun hb => ?_)
    · replace h0 := bif_t h0 hb
      refine TC_seq ?_
      refine TC_reg ?_
      obtain ⟨g, h0⟩ := gd_t h0
      refine TL_ev env 3 rfl ⟨tv, ⟨tv, ⟨⟨tv, ⟨tv, ⟨(by decide), g⟩⟩⟩, tv⟩⟩⟩ ?_
      obtain ⟨r11, hr, h0⟩ := bnd h0
      refine TL_callB [] (internal_stringslite_IndexByte.ok0 hr) internal_stringslite_IndexByte.fnb rfl ⟨tv, ⟨tv, ⟨tv, tv⟩⟩⟩ rfl tv rfl ?_
      refine TL_ev env 1 rfl ⟨tv, tv⟩ ?_
      refine TL_end ?_
      refine TE_go ?_
      refine TC_ret ?_
      refine tbr ?_
      refine tsr ?_
      obtain rfl := sinj h0
      exact TE_ret env rfl tv tv
    · replace h0 := bif_f h0 hb
      refine TC_seq ?_
      refine TC_reg ?_
      refine TL_ev env 5 rfl ⟨tv, ⟨tv, ⟨⟨tv, tv⟩, ⟨⟨tv, ⟨tv, tv⟩⟩, ⟨tv, tv⟩⟩⟩⟩⟩ ?_
      refine TL_end ?_
      refine TE_go ?_
      refine TC_cond rfl (fun hb => ?_) (fun hb => ?_)
      · replace h0 := bif_t h0 hb
        refine TC_seq ?_
        refine TC_reg ?_
        refine TL_ev env 1 rfl ⟨tv, tv⟩ ?_
        refine TL_end ?_
        refine TE_go ?_
        refine TC_ret ?_
        refine tbr ?_
        refine tsr ?_
        obtain rfl := sinj h0
        exact TE_ret env rfl tv tv
      · replace h0 := bif_f h0 hb
        refine TC_seq ?_
        refine TC_reg ?_
        refine TL_ev env 1 rfl ⟨tv, tv⟩ ?_
        exact (nsome h0).elim
theorem internal_stringslite_Index.ok0 {K : Nat} {p0 : ByteArray} {p1 : ByteArray} {q0 : Int} (h0 : internal_stringslite_Index K p0 p1 = some q0) : Fn Tryd.prog 50 [.str p0, .str p1] [] (.int .i64 q0) [] := internal_stringslite_Index.ok h0
theorem internal_stringslite_Index.fnb : fnb Tryd.prog 50 = true := fnb_of Tryd.func50 rfl
def internal_stringslite_Cut.res (_p0 : ByteArray) (_p1 : ByteArray) : ByteArray × ByteArray × Bool → MV
  | (q0, q1, q2) => .tup [.str q0, .str q1, .bool q2]
def internal_stringslite_Cut.out (_p0 : ByteArray) (_p1 : ByteArray) : ByteArray × ByteArray × Bool → List (Nat × Option MObj)
  | (_, _, _) => []
theorem internal_stringslite_Cut.ok {K : Nat} {p0 : ByteArray} {p1 : ByteArray} {r : ByteArray × ByteArray × Bool} (h0 : internal_stringslite_Cut K p0 p1 = some r) : Fn Tryd.prog 27 [.str p0, .str p1] [] (internal_stringslite_Cut.res p0 p1 r) (internal_stringslite_Cut.out p0 p1 r) := by
  refine Fn_of Tryd.func27 rfl (Nat.le_of_ble_eq_true rfl) fun Γ => ?_
  refine TC_seq ?_
  refine TC_reg ?_
  refine TL_ev env 3 rfl ⟨tv, ⟨tv, ⟨tv, tv⟩⟩⟩ ?_
  refine TL_end ?_
  refine TE_go ?_
  refine TC_seq ?_
  refine TC_seq ?_
  refine TC_reg ?_
  refine TL_ev env 2 rfl ⟨tv, ⟨tv, tv⟩⟩ ?_
  obtain ⟨r2, hr, h0⟩ := bnd h0
  refine TL_callB [] (internal_stringslite_Index.ok0 hr) internal_stringslite_Index.fnb rfl ⟨tv, ⟨tv, ⟨tv, tv⟩⟩⟩ rfl tv rfl ?_
  refine TL_ev env 1 rfl ⟨tv, tv⟩ ?_
  refine TL_end ?_
  refine TE_go ?_
  refine TC_seq ?_
  refine TC_reg ?_
  refine TL_ev env 2 rfl ⟨tv, ⟨⟨tv, ⟨tv, tv⟩⟩, tv⟩⟩ ?_
  refine TL_end ?_
  refine TE_go ?_
  refine TC_cond rfl (fun hb => ?_) (fun hb => ?_)
  · replace h0 := bif_t h0 hb
    refine TC_seq ?_
    refine TC_renw (A' := [(0, .str _), (1, .str _), (5, .str _), (6, .bool false), (7, .int .i64 _)]) (L' := []) [] ⟨rfl, rfl, rfl, rfl, rfl, tv⟩ tv rfl ?_
    refine TC_drawR ⟨_, fun i => ([[], [], [1, 0], [], [], [], [5], [6, 5, 4], [7, 6, 5, 4, 3], [2, 1, 0], [9, 8, 7, 6, 5, 4, 3, 2, 1, 0], [10, 9, 8, 7, 6, 5, 4, 3, 2, 1, 0]] : List (List Nat)).getD i [], fun i => ([[], [], [], [], [], [], [], [], [], [], [], []] : List (List Nat)).getD i [], fun i => ([[], [], [], [], [], [], [], [], [], [], [], []] : List (List Nat)).getD i []⟩ (fun i => ([[], [], [], [], [], [], [], [], [], [], [], []] : List (List Nat)).getD i []) (by kernel_rfl) (by kernel_rfl) ?_
    refine AJR_ev env 1 rfl (Nat.le_of_ble_eq_true rfl) rfl tv ?_
    refine AJR_ev env 2 rfl (Nat.le_of_ble_eq_true rfl) rfl tv ?_
    obtain ⟨g, h0⟩ := gd_t h0
    refine AJR_ev env 3 rfl (Nat.le_of_ble_eq_true rfl) rfl ⟨tv, ⟨tv, ⟨tv, ⟨(by decide), ⟨g.1, g.2⟩⟩⟩⟩⟩ ?_
    refine AJR_ev env 4 rfl (Nat.le_of_ble_eq_true rfl) rfl tv ?_
    refine AJR_ev env 5 rfl (Nat.le_of_ble_eq_true rfl) rfl tv ?_
    refine AJR_ev env 6 rfl (Nat.le_of_ble_eq_true rfl) rfl tv ?_
    refine AJR_ev env 7 rfl (Nat.le_of_ble_eq_true rfl) rfl ⟨tv, tv⟩ ?_
    refine AJR_ev env 8 rfl (Nat.le_of_ble_eq_true rfl) rfl ⟨tv, ⟨tv, tv⟩⟩ ?_
    obtain ⟨g, h0⟩ := gd_t h0
    refine AJR_ev env 9 rfl (Nat.le_of_ble_eq_true rfl) rfl ⟨tv, ⟨tv, ⟨tv, ⟨g.1, ⟨g.2.1, g.2.2⟩⟩⟩⟩⟩ ?_
    refine AJR_ev env 10 rfl (Nat.le_of_ble_eq_true rfl) rfl tv ?_
    refine AJR_ev env 11 rfl (Nat.le_of_ble_eq_true rfl) rfl tv ?_
    refine AJR_ev env 12 rfl (Nat.le_of_ble_eq_true rfl) rfl tv ?_
    refine AJR_end rfl rfl rfl ?_
    refine TE_go ?_
    refine TC_ret ?_
    refine tsr ?_
    obtain rfl := sinj h0
    exact TE_ret env rfl tv tv
  · replace h0 := bif_f h0 hb
    refine TC_skip ?_
    refine TE_go ?_
    refine TC_seq ?_
    refine TC_reg ?_
    refine TL_ev env 4 rfl ⟨tv, ⟨tv, ⟨tv, ⟨tv, tv⟩⟩⟩⟩ ?_
    refine TL_end ?_
    refine TE_go ?_
    refine TC_ret ?_
    obtain rfl := sinj h0
    exact TE_ret env rfl tv tv
theorem internal_stringslite_Cut.ok0 {K : Nat} {p0 : ByteArray} {p1 : ByteArray} {q0 : ByteArray} {q1 : ByteArray} {q2 : Bool} (h0 : internal_stringslite_Cut K p0 p1 = some (q0, q1, q2)) : Fn Tryd.prog 27 [.str p0, .str p1] [] (.tup [.str q0, .str q1, .bool q2]) [] := internal_stringslite_Cut.ok h0
theorem internal_stringslite_Cut.fnb : fnb Tryd.prog 27 = true := fnb_of Tryd.func27 rfl
def strings_Cut.res (_p0 : ByteArray) (_p1 : ByteArray) : ByteArray × ByteArray × Bool → MV
  | (q0, q1, q2) => .tup [.str q0, .str q1, .bool q2]
def strings_Cut.out (_p0 : ByteArray) (_p1 : ByteArray) : ByteArray × ByteArray × Bool → List (Nat × Option MObj)
  | (_, _, _) => []
theorem strings_Cut.ok {K : Nat} {p0 : ByteArray} {p1 : ByteArray} {r : ByteArray × ByteArray × Bool} (h0 : strings_Cut K p0 p1 = some r) : Fn Tryd.prog 15 [.str p0, .str p1] [] (strings_Cut.res p0 p1 r) (strings_Cut.out p0 p1 r) := by
  refine Fn_of Tryd.func15 rfl (Nat.le_of_ble_eq_true rfl) fun Γ => ?_
  refine TC_seq ?_
  refine TC_reg ?_
  refine TL_ev env 3 rfl ⟨tv, ⟨tv, ⟨tv, tv⟩⟩⟩ ?_
  refine TL_end ?_
  refine TE_go ?_
  refine TC_seq ?_
  refine TC_reg ?_
  refine TL_ev env 2 rfl ⟨tv, ⟨tv, tv⟩⟩ ?_
  obtain ⟨⟨r4, r5, r6⟩, hr, h0⟩ := bnd h0
  refine TL_callB [] (internal_stringslite_Cut.ok0 hr) internal_stringslite_Cut.fnb rfl ⟨tv, ⟨tv, ⟨tv, tv⟩⟩⟩ rfl tv rfl ?_
  refine TL_ev env 6 rfl ⟨tv, ⟨tv, ⟨tv, ⟨tv, ⟨tv, ⟨tv, tv⟩⟩⟩⟩⟩⟩ ?_
  refine TL_end ?_
  refine TE_go ?_
  refine TC_ret ?_
  obtain rfl := sinj h0
  exact TE_ret env rfl tv tv
theorem strings_Cut.ok0 {K : Nat} {p0 : ByteArray} {p1 : ByteArray} {q0 : ByteArray} {q1 : ByteArray} {q2 : Bool} (h0 : strings_Cut K p0 p1 = some (q0, q1, q2)) : Fn Tryd.prog 15 [.str p0, .str p1] [] (.tup [.str q0, .str q1, .bool q2]) [] := strings_Cut.ok h0
theorem strings_Cut.fnb : fnb Tryd.prog 15 = true := fnb_of Tryd.func15 rfl
theorem strings_Count.ok0 {K : Nat} {p0 : ByteArray} {p1 : ByteArray} {q0 : Int} (h0 : strings_Count K p0 p1 = some q0) : Fn Tryd.prog 52 [.str p0, .str p1] [] (.int .i64 q0) [] := by
  obtain ⟨g, h0⟩ := gd_t h0
  obtain rfl := sinj h0
  exact count_fn g
theorem strings_Count.fnb : fnb Tryd.prog 52 = true := fnb_of Tryd.func52 rfl
def strings_Index.res (_p0 : ByteArray) (_p1 : ByteArray) : Int → MV
  | q0 => .int .i64 q0
def strings_Index.out (_p0 : ByteArray) (_p1 : ByteArray) : Int → List (Nat × Option MObj)
  | _ => []
theorem strings_Index.ok {K : Nat} {p0 : ByteArray} {p1 : ByteArray} {r : Int} (h0 : strings_Index K p0 p1 = some r) : Fn Tryd.prog 53 [.str p0, .str p1] [] (strings_Index.res p0 p1 r) (strings_Index.out p0 p1 r) := by
  refine Fn_of Tryd.func53 rfl (Nat.le_of_ble_eq_true rfl) fun Γ => ?_
  refine TC_seq ?_
  refine TC_reg ?_
  refine TL_ev env 1 rfl ⟨tv, tv⟩ ?_
  refine TL_end ?_
  refine TE_go ?_
  refine TC_seq ?_
  refine TC_reg ?_
  refine TL_ev env 2 rfl ⟨tv, ⟨tv, tv⟩⟩ ?_
  obtain ⟨r2, hr, h0⟩ := bnd h0
  refine TL_callB [] (internal_stringslite_Index.ok0 hr) internal_stringslite_Index.fnb rfl ⟨tv, ⟨tv, ⟨tv, tv⟩⟩⟩ rfl tv rfl ?_
  refine TL_ev env 1 rfl ⟨tv, tv⟩ ?_
  refine TL_end ?_
  refine TE_go ?_
  refine TC_ret ?_
  obtain rfl := sinj h0
  exact TE_ret env rfl tv tv
theorem strings_Index.ok0 {K : Nat} {p0 : ByteArray} {p1 : ByteArray} {q0 : Int} (h0 : strings_Index K p0 p1 = some q0) : Fn Tryd.prog 53 [.str p0, .str p1] [] (.int .i64 q0) [] := strings_Index.ok h0
theorem strings_Index.fnb : fnb Tryd.prog 53 = true := fnb_of Tryd.func53 rfl
def strings_genSplit.res (_p0 : ByteArray) (_p1 : ByteArray) (_p2 : Int) (_p3 : Int) : (Unit) ⊕ ((List (ByteArray))) → MV
  | .inl () => .nils
  | .inr q0 => .im (.slice (.str)) q0
def strings_genSplit.out (_p0 : ByteArray) (_p1 : ByteArray) (_p2 : Int) (_p3 : Int) : (Unit) ⊕ ((List (ByteArray))) → List (Nat × Option MObj)
  | .inl () => []
  | .inr _ => []
theorem strings_genSplit.ok {K : Nat} {p0 : ByteArray} {p1 : ByteArray} {p2 : Int} {p3 : Int} {r : (Unit) ⊕ ((List (ByteArray)))} (h0 : strings_genSplit K p0 p1 p2 p3 = some r) : Fn Tryd.prog 28 [.str p0, .str p1, .int .i64 p2, .int .i64 p3] [] (strings_genSplit.res p0 p1 p2 p3 r) (strings_genSplit.out p0 p1 p2 p3 r) := by
  refine Fn_of Tryd.func28 rfl (Nat.le_of_ble_eq_true rfl) fun Γ => ?_
  refine TC_seq ?_
  refine TC_reg ?_
  refine TL_ev env 1 rfl ⟨tv, tv⟩ ?_
  refine TL_end ?_
  refine TE_go ?_
  refine TC_seq ?_
  refine TC_seq ?_
  refine TC_reg ?_
  refine TL_ev env 2 rfl ⟨tv, ⟨⟨tv, ⟨tv, tv⟩⟩, tv⟩⟩ ?_
  refine TL_end ?_
  refine TE_go ?_
  refine TC_cond rfl (fun hb => ?_) (fun hb => ?_)
  · replace h0 := bif_t h0 hb
    refine TC_seq ?_
    refine TC_reg ?_
    refine TL_ev env 1 rfl ⟨tv, tv⟩ ?_
    refine TL_end ?_
    refine TE_go ?_
    refine TC_ret ?_
    refine tsr ?_
    obtain rfl := sinj h0
    exact TE_ret env rfl tv tv
  · replace h0 := bif_f h0 hb
    refine TC_skip ?_
    refine TE_go ?_
    refine TC_seq ?_
    refine TC_seq ?_
    refine TC_reg ?_
    refine TL_ev env 2 rfl ⟨tv, ⟨⟨tv, ⟨tv, tv⟩⟩, tv⟩⟩ ?_
    refine TL_end ?_
    refine TE_go ?_
    refine TC_cond rfl (fun hb => ?_) (fun hb => ?_)
    · replace h0 := bif_t h0 hb
      refine TC_seq ?_
      refine TC_reg ?_
      refine TL_ev env 2 rfl ⟨tv, ⟨tv, tv⟩⟩ ?_
      exact (nsome h0).elim
    · replace h0 := bif_f h0 hb
      refine TC_skip ?_
      refine TE_go ?_
      refine TC_seq ?_
      refine TC_seq ?_
      refine TC_reg ?_
      refine TL_ev env 2 rfl ⟨tv, ⟨⟨tv, ⟨tv, tv⟩⟩, tv⟩⟩ ?_
      refine TL_end ?_
      refine TE_go ?_
      obtain ⟨z1, h1, h0⟩ := bnd h0
      refine TC_cut (α := Int) (fun s => z1 = s) (fun s => [(0, .str p0), (1, .str p1), (2, .int .i64 p2), (3, .int .i64 s)]) (fun s => []) ?_ ?_
      · refine TC_cond rfl (fun hb => ?_) (fun hb => ?_)
        · replace h1 := bif_t h1 hb
          refine TC_reg ?_
          refine TL_ev env 2 rfl ⟨tv, ⟨tv, tv⟩⟩ ?_
          obtain ⟨r53, hr, h1⟩ := bnd h1
          refine TL_callB [] (strings_Count.ok0 hr) strings_Count.fnb rfl ⟨tv, ⟨tv, ⟨tv, tv⟩⟩⟩ rfl tv rfl ?_
          refine TL_ev env 2 rfl ⟨⟨tv, ⟨tv, tv⟩⟩, ⟨tv, tv⟩⟩ ?_
          refine TL_end ?_
          obtain rfl := sinj h1
          refine tsn ?_
          exact SP_ren [] _ rfl ⟨rfl, rfl, rfl, rfl, tv⟩ tv rfl
        · replace h1 := bif_f h1 hb
          refine TC_skip ?_
          obtain rfl := sinj h1
          refine tsn ?_
          exact SP_ren [] _ rfl ⟨rfl, rfl, rfl, rfl, tv⟩ tv rfl
      · rintro x17 hz
        obtain rfl := hz.symm
        refine TE_go ?_
        refine TC_seq ?_
        refine TC_reg ?_
        refine TL_ev env 6 rfl ⟨tv, ⟨tv, ⟨⟨tv, tv⟩, ⟨⟨tv, ⟨tv, tv⟩⟩, ⟨⟨tv, ⟨tv, tv⟩⟩, ⟨tv, tv⟩⟩⟩⟩⟩⟩ ?_
        refine TL_end ?_
        refine TE_go ?_
        refine TC_seq ?_
        refine TC_reg ?_
        obtain ⟨g, h0⟩ := gd_t h0
        refine TL_ev env 3 rfl ⟨tv, ⟨⟨tv, ⟨tv, ⟨g.1, ⟨g.2.1, g.2.2⟩⟩⟩⟩, ⟨tv, tv⟩⟩⟩ ?_
        refine TL_end ?_
        refine TE_go ?_
        refine TC_seq ?_
        refine TC_reg ?_
        refine TL_ev env 3 rfl ⟨tv, ⟨⟨tv, ⟨tv, tv⟩⟩, ⟨tv, tv⟩⟩⟩ ?_
        refine TL_end ?_
        refine TE_go ?_
        refine TC_seq ?_
        refine TC_reg ?_
        refine TL_ev env 1 rfl ⟨tv, tv⟩ ?_
        refine TL_end ?_
        refine TE_go ?_
        refine TC_seq ?_
        obtain ⟨z1, h1, h0⟩ := bnd h0
        refine TC_cut (α := ByteArray × Int × (List (ByteArray))) (fun s => z1 = s) (fun s => [(0, .str s.1), (9, .sl 11000), (10, .int .i64 s.2.1)]) (fun s => [(11000, some (.rows (.str) s.2.2))]) ?_ ?_
        · refine TC_blk ?_
          refine TC_loop (α := ByteArray × Int × (List (ByteArray))) (fun n s => strings_genSplit.l0 K p1 p2 (kwrap .i64 ((imin x17 (kwrap .i64 ((p0.size : Int) + 1))) - 1)) n s.1 s.2.1 s.2.2 = some z1) (fun s => [(0, .str s.1), (1, .str p1), (2, .int .i64 p2), (3, .int .i64 (kwrap .i64 ((imin x17 (kwrap .i64 ((p0.size : Int) + 1))) - 1))), (9, .sl 11200), (10, .int .i64 s.2.1)]) (fun s => [(11200, some (.rows (.str) s.2.2))]) K ?_ ?_
          · exact SP_ren [(11200, 1031)] (_, _, _) h1 ⟨rfl, rfl, rfl, rfl, rfl, rfl, tv⟩ ⟨rfl, tv⟩ rfl
          rintro n ⟨x37, x38, x39⟩ h1
          rcases n with _ | n
          · exact (nsome h1).elim
          replace h1 : strings_genSplit.r0 K p1 p2 (kwrap .i64 ((imin x17 (kwrap .i64 ((p0.size : Int) + 1))) - 1)) (strings_genSplit.l0 K p1 p2 (kwrap .i64 ((imin x17 (kwrap .i64 ((p0.size : Int) + 1))) - 1)) n) x37 x38 x39 = some z1 := h1
          refine TC_seq ?_
          refine TC_seq ?_
          refine TC_reg ?_
          refine TL_ev env 3 rfl ⟨tv, ⟨tv, ⟨⟨tv, ⟨tv, tv⟩⟩, tv⟩⟩⟩ ?_
          refine TL_end ?_
          refine TE_go ?_
          refine TC_cond rfl (fun hb => ?_) (fun hb => ?_)
          · replace h1 := bif_t h1 hb
            refine TC_skip ?_
            refine TE_go ?_
            refine TC_blk ?_
            refine TC_seq ?_
            refine TC_reg ?_
            refine TL_ev env 2 rfl ⟨tv, ⟨tv, tv⟩⟩ ?_
            obtain ⟨r45, hr, h1⟩ := bnd h1
            refine TL_callB [] (strings_Index.ok0 hr) strings_Index.fnb rfl ⟨tv, ⟨tv, ⟨tv, tv⟩⟩⟩ rfl tv rfl ?_
            refine TL_ev env 1 rfl ⟨tv, tv⟩ ?_
            refine TL_end ?_
            refine TE_go ?_
            refine TC_seq ?_
            refine TC_seq ?_
            refine TC_reg ?_
            refine TL_ev env 2 rfl ⟨tv, ⟨⟨tv, ⟨tv, tv⟩⟩, tv⟩⟩ ?_
            refine TL_end ?_
            refine TE_go ?_
            refine TC_cond rfl (fun hb => ?_) (fun hb => ?_)
            · replace h1 := bif_t h1 hb
              refine TC_exit ?_
              refine tsx ?_
              refine tbx (by decide) ?_
              refine tsx ?_
              refine tbe ?_
              obtain rfl := sinj h1
              refine tsn ?_
              exact SP_ren [(11000, 11200)] (_, _, _) rfl ⟨rfl, rfl, rfl, tv⟩ ⟨rfl, tv⟩ rfl
            · replace h1 := bif_f h1 hb
              refine TC_skip ?_
              refine TE_go ?_
              refine TC_seq ?_
              refine TC_reg ?_
              obtain ⟨g, h1⟩ := gd_t h1
              refine TL_ev env 9 rfl ⟨tv, ⟨tv, ⟨tv, ⟨tv, ⟨tv, ⟨⟨tv, ⟨tv, tv⟩⟩, ⟨⟨tv, ⟨tv, ⟨tv, ⟨(by decide), ⟨g.1, g.2.1⟩⟩⟩⟩⟩, ⟨⟨tv, ⟨tv, ⟨g.2.2.1, g.2.2.2.1⟩⟩⟩, ⟨⟨tv, ⟨tv, g.2.2.2.2⟩⟩, tv⟩⟩⟩⟩⟩⟩⟩⟩⟩ ?_
              refine TL_end ?_
              refine TE_go ?_
              refine TC_seq ?_
              refine TC_reg ?_
              obtain ⟨g, h1⟩ := gd_t h1
              refine TL_ev env 7 rfl ⟨tv, ⟨tv, ⟨tv, ⟨⟨tv, tv⟩, ⟨⟨tv, ⟨tv, tv⟩⟩, ⟨⟨tv, ⟨tv, ⟨tv, ⟨g.1, ⟨g.2.1, g.2.2⟩⟩⟩⟩⟩, ⟨tv, tv⟩⟩⟩⟩⟩⟩⟩ ?_
              refine TL_end ?_
              refine TE_go ?_
              refine TC_reg ?_
              refine TL_ev env 3 rfl ⟨tv, ⟨⟨tv, ⟨tv, tv⟩⟩, ⟨tv, tv⟩⟩⟩ ?_
              refine TL_end ?_
              refine tbn ?_
              refine tsn ?_
              exact TE_nextr [(11200, 11200)] n (Nat.lt_succ_self n) (_, _, _) h1 ⟨rfl, rfl, rfl, rfl, rfl, rfl, tv⟩ ⟨rfl, tv⟩ rfl
          · replace h1 := bif_f h1 hb
            refine TC_exit ?_
            refine tsx ?_
            refine tsx ?_
            refine tbe ?_
            obtain rfl := sinj h1
            refine tsn ?_
            exact SP_ren [(11000, 11200)] (_, _, _) rfl ⟨rfl, rfl, rfl, tv⟩ ⟨rfl, tv⟩ rfl
        · rintro ⟨x30, x31, x32⟩ rfl
          refine TE_go ?_
          refine TC_seq ?_
          refine TC_reg ?_
          obtain ⟨g, h0⟩ := gd_t h0
          refine TL_ev env 5 rfl ⟨tv, ⟨tv, ⟨tv, ⟨⟨tv, ⟨tv, ⟨g.1, g.2.1⟩⟩⟩, ⟨⟨tv, ⟨tv, g.2.2⟩⟩, tv⟩⟩⟩⟩⟩ ?_
          refine TL_end ?_
          refine TE_go ?_
          refine TC_seq ?_
          refine TC_reg ?_
          refine TL_ev env 3 rfl ⟨tv, ⟨tv, ⟨⟨tv, ⟨tv, tv⟩⟩, tv⟩⟩⟩ ?_
          refine TL_frz 11000 rfl ?_
          obtain ⟨g, h0⟩ := gd_t h0
          refine TL_ev env 2 rfl ⟨⟨tv, ⟨tv, ⟨tv, ⟨(by decide), ⟨g.1, g.2⟩⟩⟩⟩⟩, ⟨tv, tv⟩⟩ ?_
          refine TL_end ?_
          refine TE_go ?_
          refine TC_ret ?_
          obtain rfl := sinj h0
          exact TE_ret env rfl tv tv
theorem strings_genSplit.ok0 {K : Nat} {p0 : ByteArray} {p1 : ByteArray} {p2 : Int} {p3 : Int}  (h0 : strings_genSplit K p0 p1 p2 p3 = some (.inl ())) : Fn Tryd.prog 28 [.str p0, .str p1, .int .i64 p2, .int .i64 p3] [] (.nils) [] := strings_genSplit.ok h0
theorem strings_genSplit.ok1 {K : Nat} {p0 : ByteArray} {p1 : ByteArray} {p2 : Int} {p3 : Int} {q0 : List (ByteArray)} (h0 : strings_genSplit K p0 p1 p2 p3 = some (.inr q0)) : Fn Tryd.prog 28 [.str p0, .str p1, .int .i64 p2, .int .i64 p3] [] (.im (.slice (.str)) q0) [] := strings_genSplit.ok h0
theorem strings_genSplit.fnb : fnb Tryd.prog 28 = true := fnb_of Tryd.func28 rfl
def strings_Split.res (_p0 : ByteArray) (_p1 : ByteArray) : (Unit) ⊕ ((List (ByteArray))) → MV
  | .inl () => .nils
  | .inr q0 => .im (.slice (.str)) q0
def strings_Split.out (_p0 : ByteArray) (_p1 : ByteArray) : (Unit) ⊕ ((List (ByteArray))) → List (Nat × Option MObj)
  | .inl () => []
  | .inr _ => []
theorem strings_Split.ok {K : Nat} {p0 : ByteArray} {p1 : ByteArray} {r : (Unit) ⊕ ((List (ByteArray)))} (h0 : strings_Split K p0 p1 = some r) : Fn Tryd.prog 16 [.str p0, .str p1] [] (strings_Split.res p0 p1 r) (strings_Split.out p0 p1 r) := by
  refine Fn_of Tryd.func16 rfl (Nat.le_of_ble_eq_true rfl) fun Γ => ?_
  refine TC_seq ?_
  refine TC_reg ?_
  refine TL_ev env 1 rfl ⟨tv, tv⟩ ?_
  refine TL_end ?_
  refine TE_go ?_
  refine TC_seq ?_
  refine TC_reg ?_
  refine TL_ev env 2 rfl ⟨tv, ⟨tv, tv⟩⟩ ?_
  obtain ⟨z, hr, h0⟩ := bnd h0
  rcases z with ⟨⟩ | r2
  · refine TL_callB [] (strings_genSplit.ok0 hr) strings_genSplit.fnb rfl ⟨tv, ⟨tv, ⟨tv, ⟨tv, ⟨tv, tv⟩⟩⟩⟩⟩ rfl tv rfl ?_
    refine TL_ev env 1 rfl ⟨tv, tv⟩ ?_
    refine TL_end ?_
    refine TE_go ?_
    refine TC_ret ?_
    obtain rfl := sinj h0
    exact TE_ret env rfl tv tv
  · refine TL_callB [] (strings_genSplit.ok1 hr) strings_genSplit.fnb rfl ⟨tv, ⟨tv, ⟨tv, ⟨tv, ⟨tv, tv⟩⟩⟩⟩⟩ rfl tv rfl ?_
    refine TL_ev env 1 rfl ⟨tv, tv⟩ ?_
    refine TL_end ?_
    refine TE_go ?_
    refine TC_ret ?_
    obtain rfl := sinj h0
    exact TE_ret env rfl tv tv
theorem strings_Split.ok0 {K : Nat} {p0 : ByteArray} {p1 : ByteArray}  (h0 : strings_Split K p0 p1 = some (.inl ())) : Fn Tryd.prog 16 [.str p0, .str p1] [] (.nils) [] := strings_Split.ok h0
theorem strings_Split.ok1 {K : Nat} {p0 : ByteArray} {p1 : ByteArray} {q0 : List (ByteArray)} (h0 : strings_Split K p0 p1 = some (.inr q0)) : Fn Tryd.prog 16 [.str p0, .str p1] [] (.im (.slice (.str)) q0) [] := strings_Split.ok h0
theorem strings_Split.fnb : fnb Tryd.prog 16 = true := fnb_of Tryd.func16 rfl
def score_reader_word.res (_p0 : Bool) : ByteArray → MV
  | q0 => .str q0
def score_reader_word.out (_p0 : Bool) : ByteArray → List (Nat × Option MObj)
  | _ => [(0, some (.cells [.nils, .bool true]))]
theorem score_reader_word.ok {K : Nat} {p0 : Bool} {r : ByteArray} (h0 : score_reader_word K p0 = some r) : Fn Tryd.prog 29 [.p 0 0] [(0, some (.cells [.nils, .bool p0]))] (score_reader_word.res p0 r) (score_reader_word.out p0 r) := by
  refine Fn_of Tryd.func29 rfl (Nat.le_of_ble_eq_true rfl) fun Γ => ?_
  refine TC_seq ?_
  refine TC_reg ?_
  refine TL_ev env 1 rfl ⟨tv, tv⟩ ?_
  refine TL_end ?_
  refine TE_go ?_
  refine TC_seq ?_
  refine TC_seq ?_
  refine TC_reg ?_
  refine TL_ev env 6 rfl ⟨tv, ⟨tv, ⟨tv, ⟨⟨tv, tv⟩, ⟨⟨tv, tv⟩, ⟨⟨tv, ⟨tv, tv⟩⟩, tv⟩⟩⟩⟩⟩⟩ ?_
  refine TL_end ?_
  refine TE_go ?_
  refine TC_cond rfl (fun hb => ?_) (fun hb => ?_)
  · refine TC_seq ?_
    refine TC_reg ?_
    refine TL_ev env 4 rfl ⟨tv, ⟨tv, ⟨tv, ⟨⟨tv, tv⟩, tv⟩⟩⟩⟩ ?_
    refine TL_end ?_
    refine TE_go ?_
    refine TC_seq ?_
    refine TC_reg ?_
    refine TL_ev env 1 rfl ⟨tv, tv⟩ ?_
    refine TL_end ?_
    refine TE_go ?_
    refine TC_ret ?_
    refine tsr ?_
    obtain rfl := sinj h0
    exact TE_ret env rfl tv ⟨.inr rfl, tv⟩
  · first | exact (ftf hb).elim | exact (tff hb).elim | exact absurd hb (by decide)
theorem score_reader_word.ok0 {K : Nat} {p0 : Bool} {q0 : ByteArray} (h0 : score_reader_word K p0 = some q0) : Fn Tryd.prog 29 [.p 0 0] [(0, some (.cells [.nils, .bool p0]))] (.str q0) [(0, some (.cells [.nils, .bool true]))] := score_reader_word.ok h0
theorem score_reader_word.fnb : fnb Tryd.prog 29 = true := fnb_of Tryd.func29 rfl
def score_reader_value.res (_p0 : ByteArray) (_p1 : Int) (_p2 : Bool) : Int × Bool → MV
  | (q0, _) => .int .i64 q0
def score_reader_value.out (_p0 : ByteArray) (_p1 : Int) (_p2 : Bool) : Int × Bool → List (Nat × Option MObj)
  | (_, q1) => [(0, some (.cells [.nils, .bool q1]))]
theorem score_reader_value.ok {K : Nat} {p0 : ByteArray} {p1 : Int} {p2 : Bool} {r : Int × Bool} (h0 : score_reader_value K p0 p1 p2 = some r) : Fn Tryd.prog 55 [.p 0 0, .str p0, .int .i64 p1] [(0, some (.cells [.nils, .bool p2]))] (score_reader_value.res p0 p1 p2 r) (score_reader_value.out p0 p1 p2 r) := by
  refine Fn_of Tryd.func55 rfl (Nat.le_of_ble_eq_true rfl) fun Γ => ?_
  refine TC_seq ?_
  refine TC_reg ?_
  refine TL_ev env 1 rfl ⟨tv, tv⟩ ?_
  refine TL_end ?_
  refine TE_go ?_
  refine TC_seq ?_
  refine TC_reg ?_
  refine TL_ev env 1 rfl ⟨tv, tv⟩ ?_
  refine TL_end ?_
  refine TE_go ?_
  refine TC_seq ?_
  refine TC_seq ?_
  refine TC_reg ?_
  refine TL_ev env 3 rfl ⟨tv, ⟨⟨tv, tv⟩, ⟨tv, tv⟩⟩⟩ ?_
  refine TL_end ?_
  refine TE_go ?_
  obtain ⟨z1, h1, h0⟩ := bnd h0
  refine TC_cut (α := Int) (fun s => z1 = .inl s) (fun s => [(0, .p 0 0), (1, .str p0), (2, .int .i64 p1), (7, .int .i64 s)]) (fun s => [(0, some (.cells [.nils, .bool p2]))]) ?_ ?_
  · refine TC_blk ?_
    refine TC_loop (α := Int × Int) (fun n s => score_reader_value.l0 K p0 p1 (p0.size : Int) p2 n s.1 s.2 = some z1) (fun s => [(0, .p 0 0), (1, .str p0), (2, .int .i64 p1), (7, .int .i64 s.1), (10, .int .i64 (p0.size : Int)), (11, .int .i64 s.2)]) (fun s => [(0, some (.cells [.nils, .bool p2]))]) K ?_ ?_
    · exact SP_ren [] (_, _) h1 ⟨rfl, rfl, rfl, rfl, rfl, rfl, tv⟩ ⟨rfl, tv⟩ rfl
    rintro n ⟨x22, x23⟩ h1
    rcases n with _ | n
    · exact (nsome h1).elim
    replace h1 : score_reader_value.r0 K p0 p1 (p0.size : Int) p2 (score_reader_value.l0 K p0 p1 (p0.size : Int) p2 n) x22 x23 = some z1 := h1
    refine TC_seq ?_
    refine TC_reg ?_
    refine TL_ev env 1 rfl ⟨⟨tv, ⟨tv, tv⟩⟩, tv⟩ ?_
    refine TL_end ?_
    refine TE_go ?_
    refine TC_seq ?_
    refine TC_cond rfl (fun hb => ?_) (fun hb => ?_)
    · replace h1 := bif_t h1 hb
      refine TC_skip ?_
      refine TE_go ?_
      refine TC_seq ?_
      obtain ⟨z2, h2, h1⟩ := bnd h1
      refine TC_cut (α := Int) (fun s => z2 = .inl s) (fun s => [(0, .p 0 0), (1, .str p0), (2, .int .i64 p1), (7, .int .i64 s), (10, .int .i64 (p0.size : Int)), (11, .int .i64 x23)]) (fun s => [(0, some (.cells [.nils, .bool p2]))]) ?_ ?_
      · refine TC_blk ?_
        refine TC_seq ?_
        refine TC_reg ?_
        refine TL_ev env 2 rfl ⟨tv, ⟨tv, tv⟩⟩ ?_
        refine TL_end ?_
        refine TE_go ?_
        refine TC_seq ?_
        refine TC_seq ?_
        refine TC_reg ?_
        obtain ⟨g, h2⟩ := gd_t h2
        refine TL_ev env 10 rfl ⟨tv, ⟨tv, ⟨⟨tv, ⟨tv, ⟨g.1, g.2.1⟩⟩⟩, ⟨⟨tv, ⟨tv, tv⟩⟩, ⟨tv, ⟨fun eg => tv, ⟨fun eg => tv, ⟨fun eg => ⟨fun e => e, ⟨fun e => e, ⟨(g.2.2.1 eg), (g.2.2.2 eg)⟩⟩⟩, ⟨fun eg => ⟨fun e => e, ⟨tv, tv⟩⟩, ⟨⟨tv, ⟨tv, fun e => e⟩⟩, tv⟩⟩⟩⟩⟩⟩⟩⟩⟩⟩ ?_
        refine TL_end ?_
        refine TE_go ?_
        refine TC_cond rfl (fun hb => ?_) (fun hb => ?_)
        · replace h2 := bif_t h2 hb
          refine TC_seq ?_
          refine TC_reg ?_
          refine TL_ev env 4 rfl ⟨tv, ⟨tv, ⟨tv, ⟨⟨tv, tv⟩, tv⟩⟩⟩⟩ ?_
          refine TL_end ?_
          refine TE_go ?_
          refine TC_seq ?_
          refine TC_reg ?_
          refine TL_ev env 1 rfl ⟨tv, tv⟩ ?_
          refine TL_end ?_
          refine TE_go ?_
          refine TC_ret ?_
          refine tsr ?_
          refine tbr ?_
          refine tsr ?_
          refine tsr ?_
          refine tsr ?_
          refine tbr ?_
          refine tsr ?_
          refine tsr ?_
          obtain rfl := sinj h2
          obtain rfl := sinj h1
          obtain rfl := sinj h0
          exact TE_ret env rfl tv ⟨.inr rfl, tv⟩
        · replace h2 := bif_f h2 hb
          refine TC_skip ?_
          refine TE_go ?_
          refine TC_seq ?_
          refine TC_reg ?_
          refine TL_ev env 2 rfl ⟨tv, ⟨⟨tv, ⟨tv, tv⟩⟩, tv⟩⟩ ?_
          refine TL_end ?_
          refine TE_go ?_
          refine TC_cond rfl (fun hb => ?_) (fun hb => ?_)
          · replace h2 := bif_t h2 hb
            refine TC_reg ?_
            obtain ⟨g, h2⟩ := gd_t h2
            refine TL_ev env 9 rfl ⟨tv, ⟨⟨tv, ⟨tv, tv⟩⟩, ⟨tv, ⟨tv, ⟨⟨tv, ⟨tv, ⟨g.1, g.2⟩⟩⟩, ⟨⟨tv, ⟨tv, tv⟩⟩, ⟨tv, ⟨⟨tv, ⟨tv, tv⟩⟩, ⟨tv, tv⟩⟩⟩⟩⟩⟩⟩⟩⟩ ?_
            refine TL_end ?_
            refine tbn ?_
            obtain rfl := sinj h2
            refine tsn ?_
            exact SP_ren [] _ rfl ⟨rfl, rfl, rfl, rfl, rfl, rfl, tv⟩ ⟨rfl, tv⟩ rfl
          · replace h2 := bif_f h2 hb
            refine TC_skip ?_
            refine tbn ?_
            obtain rfl := sinj h2
            refine tsn ?_
            exact SP_ren [] _ rfl ⟨rfl, rfl, rfl, rfl, rfl, rfl, tv⟩ ⟨rfl, tv⟩ rfl
      · rintro x28 hz
        obtain rfl := hz.symm
        refine TE_go ?_
        refine TC_reg ?_
        refine TL_ev env 2 rfl ⟨⟨tv, ⟨tv, tv⟩⟩, ⟨tv, tv⟩⟩ ?_
        refine TL_end ?_
        refine tsn ?_
        exact TE_nextr [] n (Nat.lt_succ_self n) (_, _) h1 ⟨rfl, rfl, rfl, rfl, rfl, rfl, tv⟩ ⟨rfl, tv⟩ rfl
    · replace h1 := bif_f h1 hb
      refine TC_exit ?_
      refine tsx ?_
      refine tsx ?_
      refine tbe ?_
      obtain rfl := sinj h1
      refine tsn ?_
      exact SP_ren [] _ rfl ⟨rfl, rfl, rfl, rfl, tv⟩ ⟨rfl, tv⟩ rfl
  · rintro x12 hz
    obtain rfl := hz.symm
    refine TE_go ?_
    refine TC_seq ?_
    refine TC_seq ?_
    refine TC_reg ?_
    obtain ⟨g, h0⟩ := gd_t h0
    refine TL_ev env 22 rfl ⟨tv, ⟨⟨tv, ⟨tv, tv⟩⟩, ⟨tv, ⟨fun eg => tv, ⟨fun eg => ⟨fun e => e, tv⟩, ⟨fun eg => ⟨fun e => e, ⟨tv, tv⟩⟩, ⟨⟨tv, ⟨tv, fun e => e⟩⟩, ⟨tv, ⟨fun eg => tv, ⟨fun eg => ⟨fun e => e, tv⟩, ⟨fun eg => ⟨fun e => e, ⟨tv, tv⟩⟩, ⟨fun eg => fun e => e, ⟨fun eg => tv, ⟨fun eg => ⟨fun e => e, ⟨tv, ⟨(by decide), (g eg)⟩⟩⟩, ⟨fun eg => ⟨fun e => e, ⟨tv, tv⟩⟩, ⟨fun eg => ⟨fun e => e, ⟨((by decide : ∀ b0 b1 b2 : Bool, (!(bif b1 then true else b2)) = true → b0 = true → ((!(bif b1 then true else b2)) && b0) = true) _ _ _ eg), tv⟩⟩, ⟨⟨tv, ⟨tv, fun e => e⟩⟩, ⟨tv, ⟨fun eg => tv, ⟨fun eg => tv, ⟨fun eg => ⟨fun e => e, ⟨fun e => e, tv⟩⟩, ⟨⟨tv, ⟨tv, fun e => e⟩⟩, tv⟩⟩⟩⟩⟩⟩⟩⟩⟩⟩⟩⟩⟩⟩⟩⟩⟩⟩⟩⟩⟩⟩ ?_
    refine TL_end ?_
    refine TE_go ?_
    refine TC_cond rfl (fun hb => ?_) (fun hb => ?_)
    · replace h0 := bif_t h0 hb
      refine TC_seq ?_
      refine TC_reg ?_
      refine TL_ev env 4 rfl ⟨tv, ⟨tv, ⟨tv, ⟨⟨tv, tv⟩, tv⟩⟩⟩⟩ ?_
      refine TL_end ?_
      refine TE_go ?_
      refine TC_seq ?_
      refine TC_reg ?_
      refine TL_ev env 1 rfl ⟨tv, tv⟩ ?_
      refine TL_end ?_
      refine TE_go ?_
      refine TC_ret ?_
      refine tsr ?_
      obtain rfl := sinj h0
      exact TE_ret env rfl tv ⟨.inr rfl, tv⟩
    · replace h0 := bif_f h0 hb
      refine TC_skip ?_
      refine TE_go ?_
      refine TC_seq ?_
      refine TC_reg ?_
      refine TL_ev env 2 rfl ⟨tv, ⟨tv, tv⟩⟩ ?_
      refine TL_end ?_
      refine TE_go ?_
      refine TC_ret ?_
      obtain rfl := sinj h0
      exact TE_ret env rfl tv ⟨.inr rfl, tv⟩
theorem score_reader_value.ok0 {K : Nat} {p0 : ByteArray} {p1 : Int} {p2 : Bool} {q0 : Int} {q1 : Bool} (h0 : score_reader_value K p0 p1 p2 = some (q0, q1)) : Fn Tryd.prog 55 [.p 0 0, .str p0, .int .i64 p1] [(0, some (.cells [.nils, .bool p2]))] (.int .i64 q0) [(0, some (.cells [.nils, .bool q1]))] := score_reader_value.ok h0
theorem score_reader_value.fnb : fnb Tryd.prog 55 = true := fnb_of Tryd.func55 rfl
def score_reader_number.res (_p0 : Int) (_p1 : Bool) : Int × Bool → MV
  | (q0, _) => .int .i64 q0
def score_reader_number.out (_p0 : Int) (_p1 : Bool) : Int × Bool → List (Nat × Option MObj)
  | (_, q1) => [(0, some (.cells [.nils, .bool q1]))]
theorem score_reader_number.ok {K : Nat} {p0 : Int} {p1 : Bool} {r : Int × Bool} (h0 : score_reader_number K p0 p1 = some r) : Fn Tryd.prog 32 [.p 0 0, .int .i64 p0] [(0, some (.cells [.nils, .bool p1]))] (score_reader_number.res p0 p1 r) (score_reader_number.out p0 p1 r) := by
  refine Fn_of Tryd.func32 rfl (Nat.le_of_ble_eq_true rfl) fun Γ => ?_
  refine TC_seq ?_
  refine TC_reg ?_
  refine TL_ev env 1 rfl ⟨tv, tv⟩ ?_
  refine TL_end ?_
  refine TE_go ?_
  refine TC_seq ?_
  refine TC_reg ?_
  refine TL_ev env 2 rfl ⟨tv, ⟨tv, tv⟩⟩ ?_
  obtain ⟨r4, hr, h0⟩ := bnd h0
  refine TL_callB [(0, 0)] (score_reader_word.ok0 hr) score_reader_word.fnb rfl ⟨tv, ⟨tv, tv⟩⟩ rfl ⟨.inr rfl, tv⟩ rfl ?_
  refine TL_ev env 1 rfl ⟨tv, tv⟩ ?_
  obtain ⟨⟨r5, r6⟩, hr, h0⟩ := bnd h0
  refine TL_callB [(0, 0)] (score_reader_value.ok0 hr) score_reader_value.fnb rfl ⟨tv, ⟨tv, ⟨tv, ⟨tv, tv⟩⟩⟩⟩ rfl ⟨.inr rfl, tv⟩ rfl ?_
  refine TL_ev env 1 rfl ⟨tv, tv⟩ ?_
  refine TL_end ?_
  refine TE_go ?_
  refine TC_ret ?_
  obtain rfl := sinj h0
  exact TE_ret env rfl tv ⟨.inr rfl, tv⟩
theorem score_reader_number.ok0 {K : Nat} {p0 : Int} {p1 : Bool} {q0 : Int} {q1 : Bool} (h0 : score_reader_number K p0 p1 = some (q0, q1)) : Fn Tryd.prog 32 [.p 0 0, .int .i64 p0] [(0, some (.cells [.nils, .bool p1]))] (.int .i64 q0) [(0, some (.cells [.nils, .bool q1]))] := score_reader_number.ok h0
theorem score_reader_number.fnb : fnb Tryd.prog 32 = true := fnb_of Tryd.func32 rfl
def wave_modulo.res (_p0 : Int) (_p1 : Int) : Int → MV
  | q0 => .int .i64 q0
def wave_modulo.out (_p0 : Int) (_p1 : Int) : Int → List (Nat × Option MObj)
  | _ => []
theorem wave_modulo.ok {K : Nat} {p0 : Int} {p1 : Int} {r : Int} (h0 : wave_modulo K p0 p1 = some r) : Fn Tryd.prog 96 [.int .i64 p0, .int .i64 p1] [] (wave_modulo.res p0 p1 r) (wave_modulo.out p0 p1 r) := by
  refine Fn_of Tryd.func96 rfl (Nat.le_of_ble_eq_true rfl) fun Γ => ?_
  refine TC_seq ?_
  refine TC_reg ?_
  refine TL_ev env 1 rfl ⟨tv, tv⟩ ?_
  refine TL_end ?_
  refine TE_go ?_
  refine TC_seq ?_
  refine TC_reg ?_
  obtain ⟨g, h0⟩ := gd_t h0
  refine TL_ev env 4 rfl ⟨tv, ⟨tv, ⟨⟨tv, ⟨tv, g⟩⟩, ⟨tv, tv⟩⟩⟩⟩ ?_
  refine TL_end ?_
  refine TE_go ?_
  refine TC_seq ?_
  refine TC_seq ?_
  refine TC_reg ?_
  refine TL_ev env 2 rfl ⟨tv, ⟨⟨tv, ⟨tv, tv⟩⟩, tv⟩⟩ ?_
  refine TL_end ?_
  refine TE_go ?_
  obtain ⟨z1, h1, h0⟩ := bnd h0
  refine TC_cut (α := Int) (fun s => z1 = s) (fun s => [(0, .int .i64 s)]) (fun s => []) ?_ ?_
  · refine TC_cond rfl (fun hb => ?_) (fun hb => ?_)
    · replace h1 := bif_t h1 hb
      refine TC_reg ?_
      refine TL_ev env 4 rfl ⟨tv, ⟨tv, ⟨⟨tv, ⟨tv, tv⟩⟩, ⟨tv, tv⟩⟩⟩⟩ ?_
      refine TL_end ?_
      obtain rfl := sinj h1
      refine tsn ?_
      exact SP_ren [] _ rfl ⟨rfl, tv⟩ tv rfl
    · replace h1 := bif_f h1 hb
      refine TC_skip ?_
      obtain rfl := sinj h1
      refine tsn ?_
      exact SP_ren [] _ rfl ⟨rfl, tv⟩ tv rfl
  · rintro x4 hz
    obtain rfl := hz.symm
    refine TE_go ?_
    refine TC_seq ?_
    refine TC_reg ?_
    refine TL_ev env 2 rfl ⟨tv, ⟨tv, tv⟩⟩ ?_
    refine TL_end ?_
    refine TE_go ?_
    refine TC_ret ?_
    obtain rfl := sinj h0
    exact TE_ret env rfl tv tv
theorem wave_modulo.ok0 {K : Nat} {p0 : Int} {p1 : Int} {q0 : Int} (h0 : wave_modulo K p0 p1 = some q0) : Fn Tryd.prog 96 [.int .i64 p0, .int .i64 p1] [] (.int .i64 q0) [] := wave_modulo.ok h0
theorem wave_modulo.fnb : fnb Tryd.prog 96 = true := fnb_of Tryd.func96 rfl
def wave_height.res (_p0 : Int) (_p1 : Int) : Int × Int → MV
  | (q0, q1) => .tup [.int .u64 q0, .int .i64 q1]
def wave_height.out (_p0 : Int) (_p1 : Int) : Int × Int → List (Nat × Option MObj)
  | (_, _) => []
theorem wave_height.ok {K : Nat} {p0 : Int} {p1 : Int} {r : Int × Int} (h0 : wave_height K p0 p1 = some r) : Fn Tryd.prog 90 [.int .i64 p0, .int .i64 p1] [] (wave_height.res p0 p1 r) (wave_height.out p0 p1 r) := by
  refine Fn_of Tryd.func90 rfl (Nat.le_of_ble_eq_true rfl) fun Γ => ?_
  refine TC_seq ?_
  refine TC_reg ?_
  refine TL_ev env 2 rfl ⟨tv, ⟨tv, tv⟩⟩ ?_
  refine TL_end ?_
  refine TE_go ?_
  refine TC_seq ?_
  refine TC_reg ?_
  refine TL_ev env 2 rfl ⟨tv, ⟨tv, tv⟩⟩ ?_
  obtain ⟨r3, hr, h0⟩ := bnd h0
  refine TL_callB [] (wave_modulo.ok0 hr) wave_modulo.fnb rfl ⟨tv, ⟨tv, ⟨tv, tv⟩⟩⟩ rfl tv rfl ?_
  refine TL_ev env 2 rfl ⟨⟨tv, ⟨tv, tv⟩⟩, ⟨tv, tv⟩⟩ ?_
  refine TL_end ?_
  refine TE_go ?_
  refine TC_seq ?_
  refine TC_reg ?_
  obtain ⟨g, h0⟩ := gd_t h0
  refine TL_ev env 4 rfl ⟨tv, ⟨tv, ⟨⟨tv, ⟨tv, g⟩⟩, ⟨tv, tv⟩⟩⟩⟩ ?_
  refine TL_end ?_
  refine TE_go ?_
  refine TC_seq ?_
  refine TC_reg ?_
  obtain ⟨g, h0⟩ := gd_t h0
  refine TL_ev env 4 rfl ⟨tv, ⟨tv, ⟨⟨tv, ⟨tv, g⟩⟩, ⟨tv, tv⟩⟩⟩⟩ ?_
  refine TL_end ?_
  refine TE_go ?_
  refine TC_seq ?_
  refine TC_seq ?_
  refine TC_reg ?_
  refine TL_ev env 3 rfl ⟨tv, ⟨⟨tv, ⟨tv, tv⟩⟩, ⟨⟨tv, ⟨tv, tv⟩⟩, tv⟩⟩⟩ ?_
  refine TL_end ?_
  refine TE_go ?_
  obtain ⟨z1, h1, h0⟩ := bnd h0
  refine TC_cut (α := Int) (fun s => z1 = s) (fun s => [(1, .int .i64 p1), (5, .int .i64 (kwrap .i64 (Int.tdiv (kwrap .i64 (4 * r3)) p1))), (7, .int .i64 s)]) (fun s => []) ?_ ?_
  · refine TC_cond rfl (fun hb => ?_) (fun hb => ?_)
    · replace h1 := bif_t h1 hb
      refine TC_reg ?_
      refine TL_ev env 4 rfl ⟨tv, ⟨tv, ⟨⟨tv, ⟨tv, tv⟩⟩, ⟨tv, tv⟩⟩⟩⟩ ?_
      refine TL_end ?_
      obtain rfl := sinj h1
      refine tsn ?_
      exact SP_ren [] _ rfl ⟨rfl, rfl, rfl, tv⟩ tv rfl
    · replace h1 := bif_f h1 hb
      refine TC_skip ?_
      obtain rfl := sinj h1
      refine tsn ?_
      exact SP_ren [] _ rfl ⟨rfl, rfl, rfl, tv⟩ tv rfl
  · rintro x8 hz
    obtain rfl := hz.symm
    refine TE_go ?_
    refine TC_seq ?_
    refine TC_reg ?_
    obtain ⟨g, h0⟩ := gd_t h0
    refine TL_ev env 9 rfl ⟨tv, ⟨tv, ⟨⟨tv, ⟨tv, (by decide)⟩⟩, ⟨tv, ⟨tv, ⟨⟨tv, ⟨tv, g⟩⟩, ⟨tv, ⟨tv, ⟨tv, tv⟩⟩⟩⟩⟩⟩⟩⟩⟩ ?_
    refine TL_end ?_
    refine TE_go ?_
    refine TC_ret ?_
    obtain rfl := sinj h0
    exact TE_ret env rfl tv tv
theorem wave_height.ok0 {K : Nat} {p0 : Int} {p1 : Int} {q0 : Int} {q1 : Int} (h0 : wave_height K p0 p1 = some (q0, q1)) : Fn Tryd.prog 90 [.int .i64 p0, .int .i64 p1] [] (.tup [.int .u64 q0, .int .i64 q1]) [] := wave_height.ok h0
theorem wave_height.fnb : fnb Tryd.prog 90 = true := fnb_of Tryd.func90 rfl
def fix_within_int.res (_p0 : Int) (_p1 : Int) (_p2 : Int) : Int → MV
  | q0 => .int .i64 q0
def fix_within_int.out (_p0 : Int) (_p1 : Int) (_p2 : Int) : Int → List (Nat × Option MObj)
  | _ => []
theorem fix_within_int.ok {K : Nat} {p0 : Int} {p1 : Int} {p2 : Int} {r : Int} (h0 : fix_within_int K p0 p1 p2 = some r) : Fn Tryd.prog 93 [.int .i64 p0, .int .i64 p1, .int .i64 p2] [] (fix_within_int.res p0 p1 p2 r) (fix_within_int.out p0 p1 p2 r) := by
  refine Fn_of Tryd.func93 rfl (Nat.le_of_ble_eq_true rfl) fun Γ => ?_
  refine TC_seq ?_
  refine TC_reg ?_
  refine TL_ev env 1 rfl ⟨tv, tv⟩ ?_
  refine TL_end ?_
  refine TE_go ?_
  refine TC_seq ?_
  refine TC_blk ?_
  refine TC_seq ?_
  refine TC_reg ?_
  refine TL_ev env 4 rfl ⟨tv, ⟨tv, ⟨⟨tv, ⟨tv, tv⟩⟩, ⟨tv, tv⟩⟩⟩⟩ ?_
  refine TL_end ?_
  refine TE_go ?_
  refine TC_cond rfl (fun hb => ?_) (fun hb => ?_)
  · replace h0 := bif_t h0 hb
    refine TC_seq ?_
    refine TC_reg ?_
    refine TL_ev env 2 rfl ⟨tv, ⟨tv, tv⟩⟩ ?_
    refine TL_end ?_
    refine TE_go ?_
    refine TC_ret ?_
    refine tbr ?_
    refine tsr ?_
    obtain rfl := sinj h0
    exact TE_ret env rfl tv tv
  · replace h0 := bif_f h0 hb
    refine TC_seq ?_
    refine TC_reg ?_
    refine TL_ev env 4 rfl ⟨tv, ⟨tv, ⟨⟨tv, ⟨tv, tv⟩⟩, ⟨tv, tv⟩⟩⟩⟩ ?_
    refine TL_end ?_
    refine TE_go ?_
    refine TC_cond rfl (fun hb => ?_) (fun hb => ?_)
    · replace h0 := bif_t h0 hb
      refine TC_seq ?_
      refine TC_reg ?_
      refine TL_ev env 2 rfl ⟨tv, ⟨tv, tv⟩⟩ ?_
      refine TL_end ?_
      refine TE_go ?_
      refine TC_ret ?_
      refine tbr ?_
      refine tsr ?_
      obtain rfl := sinj h0
      exact TE_ret env rfl tv tv
    · replace h0 := bif_f h0 hb
      refine TC_skip ?_
      refine tbn ?_
      refine TE_go ?_
      refine TC_seq ?_
      refine TC_reg ?_
      refine TL_ev env 2 rfl ⟨tv, ⟨tv, tv⟩⟩ ?_
      refine TL_end ?_
      refine TE_go ?_
      refine TC_ret ?_
      obtain rfl := sinj h0
      exact TE_ret env rfl tv tv
theorem fix_within_int.ok0 {K : Nat} {p0 : Int} {p1 : Int} {p2 : Int} {q0 : Int} (h0 : fix_within_int K p0 p1 p2 = some q0) : Fn Tryd.prog 93 [.int .i64 p0, .int .i64 p1, .int .i64 p2] [] (.int .i64 q0) [] := fix_within_int.ok h0
theorem fix_within_int.fnb : fnb Tryd.prog 93 = true := fnb_of Tryd.func93 rfl
def fix_Round.res (_p0 : Int) (_p1 : Int) : Int → MV
  | q0 => .int .i64 q0
def fix_Round.out (_p0 : Int) (_p1 : Int) : Int → List (Nat × Option MObj)
  | _ => []
theorem fix_Round.ok {K : Nat} {p0 : Int} {p1 : Int} {r : Int} (h0 : fix_Round K p0 p1 = some r) : Fn Tryd.prog 79 [.int .i64 p0, .int .i64 p1] [] (fix_Round.res p0 p1 r) (fix_Round.out p0 p1 r) := by
  refine Fn_of Tryd.func79 rfl (Nat.le_of_ble_eq_true rfl) fun Γ => ?_
  refine TC_seq ?_
  refine TC_reg ?_
  refine TL_ev env 1 rfl ⟨tv, tv⟩ ?_
  refine TL_end ?_
  refine TE_go ?_
  refine TC_seq ?_
  refine TC_reg ?_
  refine TL_ev env 1 rfl ⟨tv, tv⟩ ?_
  obtain ⟨r2, hr, h0⟩ := bnd h0
  refine TL_callB [] (fix_within_int.ok0 hr) fix_within_int.fnb rfl ⟨tv, ⟨tv, ⟨tv, ⟨tv, tv⟩⟩⟩⟩ rfl tv rfl ?_
  refine TL_ev env 1 rfl ⟨tv, tv⟩ ?_
  refine TL_end ?_
  refine TE_go ?_
  refine TC_seq ?_
  refine TC_seq ?_
  refine TC_reg ?_
  refine TL_ev env 2 rfl ⟨tv, ⟨⟨tv, ⟨tv, tv⟩⟩, tv⟩⟩ ?_
  refine TL_end ?_
  refine TE_go ?_
  refine TC_cond rfl (fun hb => ?_) (fun hb => ?_)
  · replace h0 := bif_t h0 hb
    refine TC_seq ?_
    refine TC_reg ?_
    refine TL_ev env 2 rfl ⟨tv, ⟨tv, tv⟩⟩ ?_
    refine TL_end ?_
    refine TE_go ?_
    refine TC_ret ?_
    refine tsr ?_
    obtain rfl := sinj h0
    exact TE_ret env rfl tv tv
  · replace h0 := bif_f h0 hb
    refine TC_skip ?_
    refine TE_go ?_
    refine TC_seq ?_
    refine TC_renw (A' := [(0, .int .i64 _), (1, .int .i64 _), (4, .int .i64 0)]) (L' := []) [] ⟨rfl, rfl, rfl, tv⟩ tv rfl ?_
    refine TC_drawR ⟨_, fun i => ([[], [], [1, 0], [], [], [4], [5, 4, 3], [6, 5, 4, 3], [7, 6, 5, 4, 3, 2, 1, 0], [8, 7, 6, 5, 4, 3, 2, 1, 0]] : List (List Nat)).getD i [], fun i => ([[], [], [], [], [], [], [], [], [], []] : List (List Nat)).getD i [], fun i => ([[], [], [], [], [], [], [], [], [], []] : List (List Nat)).getD i []⟩ (fun i => ([[], [], [], [], [], [], [], [], [], []] : List (List Nat)).getD i []) (by kernel_rfl) (by kernel_rfl) ?_
    refine AJR_ev env 1 rfl (Nat.le_of_ble_eq_true rfl) rfl tv ?_
    refine AJR_ev env 2 rfl (Nat.le_of_ble_eq_true rfl) rfl tv ?_
    obtain ⟨g, h0⟩ := gd_t h0
    refine AJR_ev env 3 rfl (Nat.le_of_ble_eq_true rfl) rfl ⟨tv, ⟨tv, g⟩⟩ ?_
    refine AJR_ev env 4 rfl (Nat.le_of_ble_eq_true rfl) rfl tv ?_
    refine AJR_ev env 5 rfl (Nat.le_of_ble_eq_true rfl) rfl tv ?_
    refine AJR_ev env 6 rfl (Nat.le_of_ble_eq_true rfl) rfl ⟨tv, ⟨tv, tv⟩⟩ ?_
    obtain ⟨g, h0⟩ := gd_t h0
    refine AJR_ev env 7 rfl (Nat.le_of_ble_eq_true rfl) rfl ⟨tv, ⟨tv, g⟩⟩ ?_
    refine AJR_ev env 8 rfl (Nat.le_of_ble_eq_true rfl) rfl ⟨tv, ⟨tv, tv⟩⟩ ?_
    refine AJR_ev env 9 rfl (Nat.le_of_ble_eq_true rfl) rfl ⟨tv, ⟨tv, tv⟩⟩ ?_
    refine AJR_ev env 10 rfl (Nat.le_of_ble_eq_true rfl) rfl tv ?_
    refine AJR_end rfl rfl rfl ?_
    refine TE_go ?_
    refine TC_ret ?_
    obtain rfl := sinj h0
    exact TE_ret env rfl tv tv
theorem fix_Round.ok0 {K : Nat} {p0 : Int} {p1 : Int} {q0 : Int} (h0 : fix_Round K p0 p1 = some q0) : Fn Tryd.prog 79 [.int .i64 p0, .int .i64 p1] [] (.int .i64 q0) [] := fix_Round.ok h0
theorem fix_Round.fnb : fnb Tryd.prog 79 = true := fnb_of Tryd.func79 rfl
def fix_within_int64.res (_p0 : Int) (_p1 : Int) (_p2 : Int) : Int → MV
  | q0 => .int .i64 q0
def fix_within_int64.out (_p0 : Int) (_p1 : Int) (_p2 : Int) : Int → List (Nat × Option MObj)
  | _ => []
theorem fix_within_int64.ok {K : Nat} {p0 : Int} {p1 : Int} {p2 : Int} {r : Int} (h0 : fix_within_int64 K p0 p1 p2 = some r) : Fn Tryd.prog 92 [.int .i64 p0, .int .i64 p1, .int .i64 p2] [] (fix_within_int64.res p0 p1 p2 r) (fix_within_int64.out p0 p1 p2 r) := by
  refine Fn_of Tryd.func92 rfl (Nat.le_of_ble_eq_true rfl) fun Γ => ?_
  refine TC_seq ?_
  refine TC_reg ?_
  refine TL_ev env 1 rfl ⟨tv, tv⟩ ?_
  refine TL_end ?_
  refine TE_go ?_
  refine TC_seq ?_
  refine TC_blk ?_
  refine TC_seq ?_
  refine TC_reg ?_
  refine TL_ev env 4 rfl ⟨tv, ⟨tv, ⟨⟨tv, ⟨tv, tv⟩⟩, ⟨tv, tv⟩⟩⟩⟩ ?_
  refine TL_end ?_
  refine TE_go ?_
  refine TC_cond rfl (fun hb => ?_) (fun hb => ?_)
  · replace h0 := bif_t h0 hb
    refine TC_seq ?_
    refine TC_reg ?_
    refine TL_ev env 2 rfl ⟨tv, ⟨tv, tv⟩⟩ ?_
    refine TL_end ?_
    refine TE_go ?_
    refine TC_ret ?_
    refine tbr ?_
    refine tsr ?_
    obtain rfl := sinj h0
    exact TE_ret env rfl tv tv
  · replace h0 := bif_f h0 hb
    refine TC_seq ?_
    refine TC_reg ?_
    refine TL_ev env 4 rfl ⟨tv, ⟨tv, ⟨⟨tv, ⟨tv, tv⟩⟩, ⟨tv, tv⟩⟩⟩⟩ ?_
    refine TL_end ?_
    refine TE_go ?_
    refine TC_cond rfl (fun hb => ?_) (fun hb => ?_)
    · replace h0 := bif_t h0 hb
      refine TC_seq ?_
      refine TC_reg ?_
      refine TL_ev env 2 rfl ⟨tv, ⟨tv, tv⟩⟩ ?_
      refine TL_end ?_
      refine TE_go ?_
      refine TC_ret ?_
      refine tbr ?_
      refine tsr ?_
      obtain rfl := sinj h0
      exact TE_ret env rfl tv tv
    · replace h0 := bif_f h0 hb
      refine TC_skip ?_
      refine tbn ?_
      refine TE_go ?_
      refine TC_seq ?_
      refine TC_reg ?_
      refine TL_ev env 2 rfl ⟨tv, ⟨tv, tv⟩⟩ ?_
      refine TL_end ?_
      refine TE_go ?_
      refine TC_ret ?_
      obtain rfl := sinj h0
      exact TE_ret env rfl tv tv
theorem fix_within_int64.ok0 {K : Nat} {p0 : Int} {p1 : Int} {p2 : Int} {q0 : Int} (h0 : fix_within_int64 K p0 p1 p2 = some q0) : Fn Tryd.prog 92 [.int .i64 p0, .int .i64 p1, .int .i64 p2] [] (.int .i64 q0) [] := fix_within_int64.ok h0
theorem fix_within_int64.fnb : fnb Tryd.prog 92 = true := fnb_of Tryd.func92 rfl
def fix_Clip.res (_p0 : Int) (_p1 : Int) (_p2 : Int) : Int → MV
  | q0 => .int .i64 q0
def fix_Clip.out (_p0 : Int) (_p1 : Int) (_p2 : Int) : Int → List (Nat × Option MObj)
  | _ => []
theorem fix_Clip.ok {K : Nat} {p0 : Int} {p1 : Int} {p2 : Int} {r : Int} (h0 : fix_Clip K p0 p1 p2 = some r) : Fn Tryd.prog 91 [.int .i64 p0, .int .i64 p1, .int .i64 p2] [] (fix_Clip.res p0 p1 p2 r) (fix_Clip.out p0 p1 p2 r) := by
  refine Fn_of Tryd.func91 rfl (Nat.le_of_ble_eq_true rfl) fun Γ => ?_
  refine TC_seq ?_
  refine TC_reg ?_
  refine TL_ev env 1 rfl ⟨tv, tv⟩ ?_
  refine TL_end ?_
  refine TE_go ?_
  refine TC_seq ?_
  refine TC_reg ?_
  refine TL_ev env 3 rfl ⟨tv, ⟨tv, ⟨tv, tv⟩⟩⟩ ?_
  obtain ⟨r2, hr, h0⟩ := bnd h0
  refine TL_callB [] (fix_within_int64.ok0 hr) fix_within_int64.fnb rfl ⟨tv, ⟨tv, ⟨tv, ⟨tv, tv⟩⟩⟩⟩ rfl tv rfl ?_
  refine TL_ev env 1 rfl ⟨tv, tv⟩ ?_
  refine TL_end ?_
  refine TE_go ?_
  refine TC_ret ?_
  obtain rfl := sinj h0
  exact TE_ret env rfl tv tv
theorem fix_Clip.ok0 {K : Nat} {p0 : Int} {p1 : Int} {p2 : Int} {q0 : Int} (h0 : fix_Clip K p0 p1 p2 = some q0) : Fn Tryd.prog 91 [.int .i64 p0, .int .i64 p1, .int .i64 p2] [] (.int .i64 q0) [] := fix_Clip.ok h0
theorem fix_Clip.fnb : fnb Tryd.prog 91 = true := fnb_of Tryd.func91 rfl
def wave_sine.res (_p0 : Int) (_p1 : Int) : Int → MV
  | q0 => .int .i16 q0
def wave_sine.out (_p0 : Int) (_p1 : Int) : Int → List (Nat × Option MObj)
  | _ => []
theorem wave_sine.ok {K : Nat} {p0 : Int} {p1 : Int} {r : Int} (h0 : wave_sine K p0 p1 = some r) : Fn Tryd.prog 77 [.int .i64 p0, .int .i64 p1] [] (wave_sine.res p0 p1 r) (wave_sine.out p0 p1 r) := by
  refine Fn_of Tryd.func77 rfl (Nat.le_of_ble_eq_true rfl) fun Γ => ?_
  refine TC_seq ?_
  refine TC_reg ?_
  refine TL_ev env 1 rfl ⟨tv, tv⟩ ?_
  refine TL_end ?_
  refine TE_go ?_
  refine TC_seq ?_
  refine TC_reg ?_
  refine TL_ev env 2 rfl ⟨tv, ⟨tv, tv⟩⟩ ?_
  obtain ⟨⟨r11, r12⟩, hr, h0⟩ := bnd h0
  refine TL_callB [] (wave_height.ok0 hr) wave_height.fnb rfl ⟨tv, ⟨tv, ⟨tv, tv⟩⟩⟩ rfl tv rfl ?_
  refine TL_ev env 5 rfl ⟨tv, ⟨tv, ⟨tv, ⟨tv, ⟨tv, tv⟩⟩⟩⟩⟩ ?_
  refine TL_end ?_
  refine TE_go ?_
  refine TC_seq ?_
  refine TC_reg ?_
  refine TL_ev env 5 rfl ⟨tv, ⟨tv, ⟨⟨tv, ⟨tv, tv⟩⟩, ⟨⟨tv, ⟨tv, (by decide)⟩⟩, ⟨tv, tv⟩⟩⟩⟩⟩ ?_
  refine TL_end ?_
  refine TE_go ?_
  refine TC_seq ?_
  refine TC_reg ?_
  refine TL_ev env 1 rfl ⟨tv, tv⟩ ?_
  refine TL_end ?_
  refine TE_go ?_
  refine TC_seq ?_
  refine TC_seq ?_
  refine TC_reg ?_
  refine TL_ev env 2 rfl ⟨⟨tv, ⟨tv, ⟨tv, ⟨tv, tv⟩⟩⟩⟩, ⟨tv, tv⟩⟩ ?_
  refine TL_end ?_
  refine TE_go ?_
  obtain ⟨z1, h1, h0⟩ := bnd h0
  refine TC_cut (α := Int) (fun s => z1 = s) (fun s => [(5, .int .u64 r11), (6, .int .i64 r12), (8, .int .u64 s)]) (fun s => []) ?_ ?_
  · refine TC_blk ?_
    refine TC_loop (α := Int × Int) (fun n s => wave_sine.l0 K r11 r12 (kshr .u64 (kwrap .u64 (r11 * r11)) 30) n s.1 s.2 = some z1) (fun s => [(5, .int .u64 r11), (6, .int .i64 r12), (7, .int .u64 (kshr .u64 (kwrap .u64 (r11 * r11)) 30)), (8, .int .u64 s.1), (22, .agg [.int .u64 5026995, .int .u64 85569306, .int .u64 693598668, .int .u64 1686629713]), (23, .int .i64 s.2)]) (fun s => []) K ?_ ?_
    · exact SP_ren [] (_, _) h1 ⟨rfl, rfl, rfl, rfl, rfl, rfl, tv⟩ tv rfl
    rintro n ⟨x27, x28⟩ h1
    rcases n with _ | n
    · exact (nsome h1).elim
    replace h1 : wave_sine.r0 K r11 r12 (kshr .u64 (kwrap .u64 (r11 * r11)) 30) (wave_sine.l0 K r11 r12 (kshr .u64 (kwrap .u64 (r11 * r11)) 30) n) x27 x28 = some z1 := h1
    refine TC_seq ?_
    refine TC_reg ?_
    refine TL_ev env 1 rfl ⟨⟨tv, ⟨tv, tv⟩⟩, tv⟩ ?_
    refine TL_end ?_
    refine TE_go ?_
    refine TC_seq ?_
    refine TC_cond rfl (fun hb => ?_) (fun hb => ?_)
    · replace h1 := bif_t h1 hb
      refine TC_skip ?_
      refine TE_go ?_
      refine TC_seq ?_
      refine TC_blk ?_
      refine TC_seq ?_
      refine TC_reg ?_
      obtain ⟨g, h1⟩ := gd_t h1
      refine TL_ev env 2 rfl ⟨⟨tv, ⟨tv, ⟨g.1, g.2⟩⟩⟩, ⟨tv, tv⟩⟩ ?_
      refine TL_end ?_
      refine TE_go ?_
      refine TC_reg ?_
      refine TL_ev env 7 rfl ⟨tv, ⟨tv, ⟨tv, ⟨⟨tv, ⟨tv, tv⟩⟩, ⟨⟨tv, ⟨tv, (by decide)⟩⟩, ⟨⟨tv, ⟨tv, tv⟩⟩, ⟨tv, tv⟩⟩⟩⟩⟩⟩⟩ ?_
      refine TL_end ?_
      refine tbn ?_
      refine TE_go ?_
      refine TC_reg ?_
      refine TL_ev env 2 rfl ⟨⟨tv, ⟨tv, tv⟩⟩, ⟨tv, tv⟩⟩ ?_
      refine TL_end ?_
      refine tsn ?_
      exact TE_nextr [] n (Nat.lt_succ_self n) (_, _) h1 ⟨rfl, rfl, rfl, rfl, rfl, rfl, tv⟩ tv rfl
    · replace h1 := bif_f h1 hb
      refine TC_exit ?_
      refine tsx ?_
      refine tsx ?_
      refine tbe ?_
      obtain rfl := sinj h1
      refine tsn ?_
      exact SP_ren [] _ rfl ⟨rfl, rfl, rfl, tv⟩ tv rfl
  · rintro x19 hz
    obtain rfl := hz.symm
    refine TE_go ?_
    refine TC_seq ?_
    refine TC_reg ?_
    refine TL_ev env 5 rfl ⟨tv, ⟨tv, ⟨⟨tv, ⟨tv, tv⟩⟩, ⟨⟨tv, ⟨tv, (by decide)⟩⟩, ⟨tv, tv⟩⟩⟩⟩⟩ ?_
    obtain ⟨r23, hr, h0⟩ := bnd h0
    refine TL_callB [] (fix_Round.ok0 hr) fix_Round.fnb rfl ⟨tv, ⟨tv, ⟨tv, tv⟩⟩⟩ rfl tv rfl ?_
    obtain ⟨r24, hr, h0⟩ := bnd h0
    refine TL_callB [] (fix_Clip.ok0 hr) fix_Clip.fnb rfl ⟨tv, ⟨tv, ⟨tv, ⟨tv, tv⟩⟩⟩⟩ rfl tv rfl ?_
    refine TL_ev env 1 rfl ⟨tv, tv⟩ ?_
    refine TL_end ?_
    refine TE_go ?_
    refine TC_seq ?_
    refine TC_seq ?_
    refine TC_reg ?_
    refine TL_ev env 2 rfl ⟨tv, ⟨⟨tv, ⟨tv, tv⟩⟩, tv⟩⟩ ?_
    refine TL_end ?_
    refine TE_go ?_
    obtain ⟨z1, h1, h0⟩ := bnd h0
    refine TC_cut (α := Int) (fun s => z1 = s) (fun s => [(11, .int .i64 s)]) (fun s => []) ?_ ?_
    · refine TC_cond rfl (fun hb => ?_) (fun hb => ?_)
      · replace h1 := bif_t h1 hb
        refine TC_reg ?_
        refine TL_ev env 3 rfl ⟨tv, ⟨tv, ⟨tv, tv⟩⟩⟩ ?_
        refine TL_end ?_
        obtain rfl := sinj h1
        refine tsn ?_
        exact SP_ren [] _ rfl ⟨rfl, tv⟩ tv rfl
      · replace h1 := bif_f h1 hb
        refine TC_skip ?_
        obtain rfl := sinj h1
        refine tsn ?_
        exact SP_ren [] _ rfl ⟨rfl, tv⟩ tv rfl
    · rintro x26 hz
      obtain rfl := hz.symm
      refine TE_go ?_
      refine TC_seq ?_
      refine TC_reg ?_
      refine TL_ev env 3 rfl ⟨tv, ⟨tv, ⟨tv, tv⟩⟩⟩ ?_
      refine TL_end ?_
      refine TE_go ?_
      refine TC_ret ?_
      obtain rfl := sinj h0
      exact TE_ret env rfl tv tv
theorem wave_sine.ok0 {K : Nat} {p0 : Int} {p1 : Int} {q0 : Int} (h0 : wave_sine K p0 p1 = some q0) : Fn Tryd.prog 77 [.int .i64 p0, .int .i64 p1] [] (.int .i16 q0) [] := wave_sine.ok h0
theorem wave_sine.fnb : fnb Tryd.prog 77 = true := fnb_of Tryd.func77 rfl
def wave_Sine.res (_p0 : Int) (_p1 : Int) : Int × Int → MV
  | (q0, q1) => .tup [.int .i16 q0, .int .i64 q1]
def wave_Sine.out (_p0 : Int) (_p1 : Int) : Int × Int → List (Nat × Option MObj)
  | (_, _) => []
theorem wave_Sine.ok {K : Nat} {p0 : Int} {p1 : Int} {r : Int × Int} (h0 : wave_Sine K p0 p1 = some r) : Fn Tryd.prog 56 [.int .i64 p0, .int .i64 p1] [] (wave_Sine.res p0 p1 r) (wave_Sine.out p0 p1 r) := by
  refine Fn_of Tryd.func56 rfl (Nat.le_of_ble_eq_true rfl) fun Γ => ?_
  refine TC_seq ?_
  refine TC_reg ?_
  refine TL_ev env 2 rfl ⟨tv, ⟨tv, tv⟩⟩ ?_
  refine TL_end ?_
  refine TE_go ?_
  refine TC_seq ?_
  refine TC_seq ?_
  refine TC_reg ?_
  refine TL_ev env 6 rfl ⟨tv, ⟨⟨tv, ⟨tv, tv⟩⟩, ⟨tv, ⟨fun eg => tv, ⟨fun eg => ⟨fun e => e, ⟨tv, tv⟩⟩, ⟨⟨tv, ⟨tv, fun e => e⟩⟩, tv⟩⟩⟩⟩⟩⟩ ?_
  refine TL_end ?_
  refine TE_go ?_
  refine TC_cond rfl (fun hb => ?_) (fun hb => ?_)
  · replace h0 := bif_t h0 hb
    refine TC_seq ?_
    refine TC_reg ?_
    refine TL_ev env 2 rfl ⟨tv, ⟨tv, tv⟩⟩ ?_
    refine TL_end ?_
    refine TE_go ?_
    refine TC_ret ?_
    refine tsr ?_
    obtain rfl := sinj h0
    exact TE_ret env rfl tv tv
  · replace h0 := bif_f h0 hb
    refine TC_skip ?_
    refine TE_go ?_
    refine TC_seq ?_
    refine TC_reg ?_
    refine TL_ev env 2 rfl ⟨tv, ⟨tv, tv⟩⟩ ?_
    obtain ⟨r5, hr, h0⟩ := bnd h0
    refine TL_callB [] (wave_sine.ok0 hr) wave_sine.fnb rfl ⟨tv, ⟨tv, ⟨tv, tv⟩⟩⟩ rfl tv rfl ?_
    refine TL_ev env 2 rfl ⟨tv, ⟨tv, tv⟩⟩ ?_
    refine TL_end ?_
    refine TE_go ?_
    refine TC_ret ?_
    obtain rfl := sinj h0
    exact TE_ret env rfl tv tv
theorem wave_Sine.ok0 {K : Nat} {p0 : Int} {p1 : Int} {q0 : Int} {q1 : Int} (h0 : wave_Sine K p0 p1 = some (q0, q1)) : Fn Tryd.prog 56 [.int .i64 p0, .int .i64 p1] [] (.tup [.int .i16 q0, .int .i64 q1]) [] := wave_Sine.ok h0
theorem wave_Sine.fnb : fnb Tryd.prog 56 = true := fnb_of Tryd.func56 rfl
def fix_Sat32.res (_p0 : Int) : Int → MV
  | q0 => .int .i32 q0
def fix_Sat32.out (_p0 : Int) : Int → List (Nat × Option MObj)
  | _ => []
theorem fix_Sat32.ok {K : Nat} {p0 : Int} {r : Int} (h0 : fix_Sat32 K p0 = some r) : Fn Tryd.prog 78 [.int .i64 p0] [] (fix_Sat32.res p0 r) (fix_Sat32.out p0 r) := by
  refine Fn_of Tryd.func78 rfl (Nat.le_of_ble_eq_true rfl) fun Γ => ?_
  refine TC_seq ?_
  refine TC_reg ?_
  refine TL_ev env 1 rfl ⟨tv, tv⟩ ?_
  refine TL_end ?_
  refine TE_go ?_
  refine TC_seq ?_
  refine TC_reg ?_
  refine TL_ev env 1 rfl ⟨tv, tv⟩ ?_
  obtain ⟨r2, hr, h0⟩ := bnd h0
  refine TL_callB [] (fix_within_int64.ok0 hr) fix_within_int64.fnb rfl ⟨tv, ⟨tv, ⟨tv, ⟨tv, tv⟩⟩⟩⟩ rfl tv rfl ?_
  refine TL_ev env 2 rfl ⟨tv, ⟨tv, tv⟩⟩ ?_
  refine TL_end ?_
  refine TE_go ?_
  refine TC_ret ?_
  obtain rfl := sinj h0
  exact TE_ret env rfl tv tv
theorem fix_Sat32.ok0 {K : Nat} {p0 : Int} {q0 : Int} (h0 : fix_Sat32 K p0 = some q0) : Fn Tryd.prog 78 [.int .i64 p0] [] (.int .i32 q0) [] := fix_Sat32.ok h0
theorem fix_Sat32.fnb : fnb Tryd.prog 78 = true := fnb_of Tryd.func78 rfl
def fix_Mul15.res (_p0 : Int) (_p1 : Int) : Int → MV
  | q0 => .int .i32 q0
def fix_Mul15.out (_p0 : Int) (_p1 : Int) : Int → List (Nat × Option MObj)
  | _ => []
theorem fix_Mul15.ok {K : Nat} {p0 : Int} {p1 : Int} {r : Int} (h0 : fix_Mul15 K p0 p1 = some r) : Fn Tryd.prog 57 [.int .i32 p0, .int .i16 p1] [] (fix_Mul15.res p0 p1 r) (fix_Mul15.out p0 p1 r) := by
  refine Fn_of Tryd.func57 rfl (Nat.le_of_ble_eq_true rfl) fun Γ => ?_
  unfold fix_Mul15 at h0
  refine TC_seq ?_
  refine TC_reg ?_
  refine TL_ev env 1 rfl ⟨tv, tv⟩ ?_
  refine TL_end ?_
  refine TE_go ?_
  refine TC_seq ?_
  refine TC_reg ?_
  refine TL_ev env 5 rfl ⟨tv, ⟨tv, ⟨tv, ⟨tv, ⟨⟨tv, ⟨tv, tv⟩⟩, tv⟩⟩⟩⟩⟩ ?_
  obtain ⟨r4, hr, h0⟩ := bnd h0
  refine TL_callB [] (fix_Round.ok0 hr) fix_Round.fnb rfl ⟨tv, ⟨tv, ⟨tv, tv⟩⟩⟩ rfl tv rfl ?_
  obtain ⟨r5, hr, h0⟩ := bnd h0
  refine TL_callB [] (fix_Sat32.ok0 hr) fix_Sat32.fnb rfl ⟨tv, ⟨tv, tv⟩⟩ rfl tv rfl ?_
  refine TL_ev env 1 rfl ⟨tv, tv⟩ ?_
  refine TL_end ?_
  refine TE_go ?_
  refine TC_ret ?_
  obtain rfl := sinj h0
  exact TE_ret env rfl tv tv
theorem fix_Mul15.ok0 {K : Nat} {p0 : Int} {p1 : Int} {q0 : Int} (h0 : fix_Mul15 K p0 p1 = some q0) : Fn Tryd.prog 57 [.int .i32 p0, .int .i16 p1] [] (.int .i32 q0) [] := fix_Mul15.ok h0
theorem fix_Mul15.fnb : fnb Tryd.prog 57 = true := fnb_of Tryd.func57 rfl
def score_reader_tone.res (_p0 : Bool) : (Unit) ⊕ ((List (Int)) × Bool) → MV
  | .inl () => .nils
  | .inr (q0, _) => .im (.slice (.int .i16)) q0
def score_reader_tone.out (_p0 : Bool) : (Unit) ⊕ ((List (Int)) × Bool) → List (Nat × Option MObj)
  | .inl () => [(0, some (.cells [.nils, .bool true]))]
  | .inr (_, q1) => [(0, some (.cells [.nils, .bool q1]))]
theorem score_reader_tone.ok {K : Nat} {p0 : Bool} {r : (Unit) ⊕ ((List (Int)) × Bool)} (h0 : score_reader_tone K p0 = some r) : Fn Tryd.prog 31 [.p 0 0] [(0, some (.cells [.nils, .bool p0]))] (score_reader_tone.res p0 r) (score_reader_tone.out p0 r) := by
  refine Fn_of Tryd.func31 rfl (Nat.le_of_ble_eq_true rfl) fun Γ => ?_
  refine TC_seq ?_
  refine TC_reg ?_
  refine TL_ev env 1 rfl ⟨tv, tv⟩ ?_
  refine TL_end ?_
  refine TE_go ?_
  refine TC_seq ?_
  refine TC_reg ?_
  refine TL_ev env 1 rfl ⟨tv, tv⟩ ?_
  obtain ⟨⟨r26, r27⟩, hr, h0⟩ := bnd h0
  refine TL_callB [(0, 0)] (score_reader_number.ok0 hr) score_reader_number.fnb rfl ⟨tv, ⟨tv, ⟨tv, tv⟩⟩⟩ rfl ⟨.inr rfl, tv⟩ rfl ?_
  refine TL_ev env 1 rfl ⟨tv, tv⟩ ?_
  obtain ⟨⟨r28, r29⟩, hr, h0⟩ := bnd h0
  refine TL_callB [(0, 0)] (score_reader_number.ok0 hr) score_reader_number.fnb rfl ⟨tv, ⟨tv, ⟨tv, tv⟩⟩⟩ rfl ⟨.inr rfl, tv⟩ rfl ?_
  refine TL_ev env 1 rfl ⟨tv, tv⟩ ?_
  obtain ⟨⟨r30, r31⟩, hr, h0⟩ := bnd h0
  refine TL_callB [(0, 0)] (score_reader_number.ok0 hr) score_reader_number.fnb rfl ⟨tv, ⟨tv, ⟨tv, tv⟩⟩⟩ rfl ⟨.inr rfl, tv⟩ rfl ?_
  refine TL_ev env 1 rfl ⟨tv, tv⟩ ?_
  obtain ⟨⟨r32, r33⟩, hr, h0⟩ := bnd h0
  refine TL_callB [(0, 0)] (score_reader_number.ok0 hr) score_reader_number.fnb rfl ⟨tv, ⟨tv, ⟨tv, tv⟩⟩⟩ rfl ⟨.inr rfl, tv⟩ rfl ?_
  refine TL_ev env 4 rfl ⟨tv, ⟨tv, ⟨tv, ⟨tv, tv⟩⟩⟩⟩ ?_
  refine TL_end ?_
  refine TE_go ?_
  refine TC_seq ?_
  refine TC_seq ?_
  refine TC_reg ?_
  refine TL_ev env 8 rfl ⟨tv, ⟨tv, ⟨tv, ⟨⟨tv, tv⟩, ⟨tv, ⟨fun eg => tv, ⟨fun eg => ⟨fun e => e, ⟨tv, tv⟩⟩, ⟨⟨tv, ⟨tv, fun e => e⟩⟩, tv⟩⟩⟩⟩⟩⟩⟩⟩ ?_
  refine TL_end ?_
  refine TE_go ?_
  refine TC_cond rfl (fun hb => ?_) (fun hb => ?_)
  · replace h0 := bif_t h0 hb
    refine TC_seq ?_
    refine TC_reg ?_
    refine TL_ev env 4 rfl ⟨tv, ⟨tv, ⟨tv, ⟨⟨tv, tv⟩, tv⟩⟩⟩⟩ ?_
    refine TL_end ?_
    refine TE_go ?_
    refine TC_seq ?_
    refine TC_reg ?_
    refine TL_ev env 1 rfl ⟨tv, tv⟩ ?_
    refine TL_end ?_
    refine TE_go ?_
    refine TC_ret ?_
    refine tsr ?_
    obtain rfl := sinj h0
    exact TE_ret env rfl tv ⟨.inr rfl, tv⟩
  · replace h0 := bif_f h0 hb
    refine TC_skip ?_
    refine TE_go ?_
    refine TC_seq ?_
    refine TC_reg ?_
    obtain ⟨g, h0⟩ := gd_t h0
    refine TL_ev env 3 rfl ⟨tv, ⟨⟨tv, ⟨tv, ⟨g.1, ⟨g.2.1, g.2.2⟩⟩⟩⟩, ⟨tv, tv⟩⟩⟩ ?_
    refine TL_end ?_
    refine TE_go ?_
    refine TC_seq ?_
    refine TC_seq ?_
    refine TC_reg ?_
    refine TL_ev env 3 rfl ⟨tv, ⟨⟨tv, tv⟩, ⟨tv, tv⟩⟩⟩ ?_
    refine TL_end ?_
    refine TE_go ?_
    obtain ⟨z1, h1, h0⟩ := bnd h0
    refine TC_cut (α := (List (Int))) (fun s => z1 = s) (fun s => [(7, .sl 10801)]) (fun s => [(0, some (.cells [.nils, .bool r33])), (10801, some (.rows (.int .i16) s))]) ?_ ?_
    · refine TC_blk ?_
      refine TC_loop (α := Int × (List (Int))) (fun n s => score_reader_tone.l0 K r26 r28 r30 ((List.replicate (Int.toNat r32) (0 : Int)).length : Int) r33 n s.1 s.2 = some z1) (fun s => [(3, .int .i64 r26), (4, .int .i64 r28), (5, .int .i64 r30), (7, .sl 11001), (33, .int .i64 ((List.replicate (Int.toNat r32) (0 : Int)).length : Int)), (34, .int .i64 s.1)]) (fun s => [(0, some (.cells [.nils, .bool r33])), (11001, some (.rows (.int .i16) s.2))]) K ?_ ?_
      · exact SP_ren [(11001, 1031)] (_, _) h1 ⟨rfl, rfl, rfl, rfl, rfl, rfl, tv⟩ ⟨rfl, rfl, tv⟩ rfl
      rintro n ⟨x60, x61⟩ h1
      rcases n with _ | n
      · exact (nsome h1).elim
      replace h1 : score_reader_tone.r0 K r26 r28 r30 ((List.replicate (Int.toNat r32) (0 : Int)).length : Int) r33 (score_reader_tone.l0 K r26 r28 r30 ((List.replicate (Int.toNat r32) (0 : Int)).length : Int) r33 n) x60 x61 = some z1 := h1
      refine TC_seq ?_
      refine TC_reg ?_
      refine TL_ev env 1 rfl ⟨⟨tv, ⟨tv, tv⟩⟩, tv⟩ ?_
      refine TL_end ?_
      refine TE_go ?_
      refine TC_seq ?_
      refine TC_cond rfl (fun hb => ?_) (fun hb => ?_)
      · replace h1 := bif_t h1 hb
        refine TC_skip ?_
        refine TE_go ?_
        refine TC_seq ?_
        refine TC_blk ?_
        refine TC_seq ?_
        refine TC_reg ?_
        refine TL_ev env 2 rfl ⟨tv, ⟨tv, tv⟩⟩ ?_
        refine TL_end ?_
        refine TE_go ?_
        refine TC_seq ?_
        refine TC_reg ?_
        refine TL_ev env 4 rfl ⟨tv, ⟨tv, ⟨⟨tv, ⟨tv, tv⟩⟩, ⟨tv, tv⟩⟩⟩⟩ ?_
        obtain ⟨⟨r75, r76⟩, hr, h1⟩ := bnd h1
        refine TL_callB [] (wave_Sine.ok0 hr) wave_Sine.fnb rfl ⟨tv, ⟨tv, ⟨tv, tv⟩⟩⟩ rfl tv rfl ?_
        refine TL_ev env 5 rfl ⟨tv, ⟨tv, ⟨tv, ⟨tv, ⟨tv, tv⟩⟩⟩⟩⟩ ?_
        refine TL_end ?_
        refine TE_go ?_
        refine TC_reg ?_
        refine TL_ev env 5 rfl ⟨tv, ⟨tv, ⟨tv, ⟨tv, ⟨tv, tv⟩⟩⟩⟩⟩ ?_
        obtain ⟨r77, hr, h1⟩ := bnd h1
        refine TL_callB [] (fix_Mul15.ok0 hr) fix_Mul15.fnb rfl ⟨tv, ⟨tv, ⟨tv, tv⟩⟩⟩ rfl tv rfl ?_
        obtain ⟨g, h1⟩ := gd_t h1
        refine TL_ev env 3 rfl ⟨tv, ⟨⟨tv, ⟨tv, ⟨g.1, g.2.1⟩⟩⟩, ⟨⟨tv, ⟨tv, g.2.2⟩⟩, tv⟩⟩⟩ ?_
        refine TL_end ?_
        refine tbn ?_
        refine TE_go ?_
        refine TC_reg ?_
        refine TL_ev env 2 rfl ⟨⟨tv, ⟨tv, tv⟩⟩, ⟨tv, tv⟩⟩ ?_
        refine TL_end ?_
        refine tsn ?_
        exact TE_nextr [(11001, 11001)] n (Nat.lt_succ_self n) (_, _) h1 ⟨rfl, rfl, rfl, rfl, rfl, rfl, tv⟩ ⟨rfl, rfl, tv⟩ rfl
      · replace h1 := bif_f h1 hb
        refine TC_exit ?_
        refine tsx ?_
        refine tsx ?_
        refine tbe ?_
        obtain rfl := sinj h1
        refine tsn ?_
        exact SP_ren [(10801, 11001)] _ rfl ⟨rfl, tv⟩ ⟨rfl, rfl, tv⟩ rfl
    · rintro x53 hz
      obtain rfl := hz.symm
      refine TE_go ?_
      refine TC_seq ?_
      refine TC_reg ?_
      refine TL_ev env 2 rfl ⟨tv, ⟨tv, tv⟩⟩ ?_
      refine TL_end ?_
      refine TE_go ?_
      refine TC_ret ?_
      refine TE_frz 10801 rfl ?_
      obtain rfl := sinj h0
      exact TE_ret env rfl tv ⟨.inr rfl, tv⟩
theorem score_reader_tone.ok0 {K : Nat} {p0 : Bool}  (h0 : score_reader_tone K p0 = some (.inl ())) : Fn Tryd.prog 31 [.p 0 0] [(0, some (.cells [.nils, .bool p0]))] (.nils) [(0, some (.cells [.nils, .bool true]))] := score_reader_tone.ok h0
theorem score_reader_tone.ok1 {K : Nat} {p0 : Bool} {q0 : List (Int)} {q1 : Bool} (h0 : score_reader_tone K p0 = some (.inr (q0, q1))) : Fn Tryd.prog 31 [.p 0 0] [(0, some (.cells [.nils, .bool p0]))] (.im (.slice (.int .i16)) q0) [(0, some (.cells [.nils, .bool q1]))] := score_reader_tone.ok h0
theorem score_reader_tone.fnb : fnb Tryd.prog 31 = true := fnb_of Tryd.func31 rfl
def strings_IndexByte.res (_p0 : ByteArray) (_p1 : Int) : Int → MV
  | q0 => .int .i64 q0
def strings_IndexByte.out (_p0 : ByteArray) (_p1 : Int) : Int → List (Nat × Option MObj)
  | _ => []
theorem strings_IndexByte.ok {K : Nat} {p0 : ByteArray} {p1 : Int} {r : Int} (h0 : strings_IndexByte K p0 p1 = some r) : Fn Tryd.prog 80 [.str p0, .int .u8 p1] [] (strings_IndexByte.res p0 p1 r) (strings_IndexByte.out p0 p1 r) := by
  refine Fn_of Tryd.func80 rfl (Nat.le_of_ble_eq_true rfl) fun Γ => ?_
  refine TC_seq ?_
  refine TC_reg ?_
  refine TL_ev env 1 rfl ⟨tv, tv⟩ ?_
  refine TL_end ?_
  refine TE_go ?_
  refine TC_seq ?_
  refine TC_reg ?_
  refine TL_ev env 2 rfl ⟨tv, ⟨tv, tv⟩⟩ ?_
  obtain ⟨r2, hr, h0⟩ := bnd h0
  refine TL_callB [] (internal_stringslite_IndexByte.ok0 hr) internal_stringslite_IndexByte.fnb rfl ⟨tv, ⟨tv, ⟨tv, tv⟩⟩⟩ rfl tv rfl ?_
  refine TL_ev env 1 rfl ⟨tv, tv⟩ ?_
  refine TL_end ?_
  refine TE_go ?_
  refine TC_ret ?_
  obtain rfl := sinj h0
  exact TE_ret env rfl tv tv
theorem strings_IndexByte.ok0 {K : Nat} {p0 : ByteArray} {p1 : Int} {q0 : Int} (h0 : strings_IndexByte K p0 p1 = some q0) : Fn Tryd.prog 80 [.str p0, .int .u8 p1] [] (.int .i64 q0) [] := strings_IndexByte.ok h0
theorem strings_IndexByte.fnb : fnb Tryd.prog 80 = true := fnb_of Tryd.func80 rfl
def score_reader_digit.res (_p0 : Int) (_p1 : Bool) : Int × Bool → MV
  | (q0, _) => .int .u8 q0
def score_reader_digit.out (_p0 : Int) (_p1 : Bool) : Int × Bool → List (Nat × Option MObj)
  | (_, q1) => [(0, some (.cells [.nils, .bool q1]))]
theorem score_reader_digit.ok {K : Nat} {p0 : Int} {p1 : Bool} {r : Int × Bool} (h0 : score_reader_digit K p0 p1 = some r) : Fn Tryd.prog 58 [.p 0 0, .int .u8 p0] [(0, some (.cells [.nils, .bool p1]))] (score_reader_digit.res p0 p1 r) (score_reader_digit.out p0 p1 r) := by
  refine Fn_of Tryd.func58 rfl (Nat.le_of_ble_eq_true rfl) fun Γ => ?_
  refine TC_seq ?_
  refine TC_reg ?_
  refine TL_ev env 1 rfl ⟨tv, tv⟩ ?_
  refine TL_end ?_
  refine TE_go ?_
  refine TC_seq ?_
  refine TC_reg ?_
  refine TL_ev env 1 rfl ⟨tv, tv⟩ ?_
  obtain ⟨r2, hr, h0⟩ := bnd h0
  refine TL_callB [] (strings_IndexByte.ok0 hr) strings_IndexByte.fnb rfl ⟨tv, ⟨tv, ⟨tv, tv⟩⟩⟩ rfl tv rfl ?_
  refine TL_ev env 1 rfl ⟨tv, tv⟩ ?_
  refine TL_end ?_
  refine TE_go ?_
  refine TC_seq ?_
  refine TC_seq ?_
  refine TC_reg ?_
  refine TL_ev env 2 rfl ⟨tv, ⟨⟨tv, ⟨tv, tv⟩⟩, tv⟩⟩ ?_
  refine TL_end ?_
  refine TE_go ?_
  refine TC_cond rfl (fun hb => ?_) (fun hb => ?_)
  · replace h0 := bif_t h0 hb
    refine TC_seq ?_
    refine TC_reg ?_
    refine TL_ev env 4 rfl ⟨tv, ⟨tv, ⟨tv, ⟨⟨tv, tv⟩, tv⟩⟩⟩⟩ ?_
    refine TL_end ?_
    refine TE_go ?_
    refine TC_seq ?_
    refine TC_reg ?_
    refine TL_ev env 1 rfl ⟨tv, tv⟩ ?_
    refine TL_end ?_
    refine TE_go ?_
    refine TC_ret ?_
    refine tsr ?_
    obtain rfl := sinj h0
    exact TE_ret env rfl tv ⟨.inr rfl, tv⟩
  · replace h0 := bif_f h0 hb
    refine TC_skip ?_
    refine TE_go ?_
    refine TC_seq ?_
    refine TC_reg ?_
    refine TL_ev env 3 rfl ⟨tv, ⟨tv, ⟨tv, tv⟩⟩⟩ ?_
    refine TL_end ?_
    refine TE_go ?_
    refine TC_ret ?_
    obtain rfl := sinj h0
    exact TE_ret env rfl tv ⟨.inr rfl, tv⟩
theorem score_reader_digit.ok0 {K : Nat} {p0 : Int} {p1 : Bool} {q0 : Int} {q1 : Bool} (h0 : score_reader_digit K p0 p1 = some (q0, q1)) : Fn Tryd.prog 58 [.p 0 0, .int .u8 p0] [(0, some (.cells [.nils, .bool p1]))] (.int .u8 q0) [(0, some (.cells [.nils, .bool q1]))] := score_reader_digit.ok h0
theorem score_reader_digit.fnb : fnb Tryd.prog 58 = true := fnb_of Tryd.func58 rfl
def score_reader_bytes.res (_p0 : Bool) : (Unit) ⊕ ((List (Int)) × Bool) → MV
  | .inl () => .nils
  | .inr (q0, _) => .im (.slice (.int .u8)) q0
def score_reader_bytes.out (_p0 : Bool) : (Unit) ⊕ ((List (Int)) × Bool) → List (Nat × Option MObj)
  | .inl () => [(0, some (.cells [.nils, .bool true]))]
  | .inr (_, q1) => [(0, some (.cells [.nils, .bool q1]))]
theorem score_reader_bytes.ok {K : Nat} {p0 : Bool} {r : (Unit) ⊕ ((List (Int)) × Bool)} (h0 : score_reader_bytes K p0 = some r) : Fn Tryd.prog 33 [.p 0 0] [(0, some (.cells [.nils, .bool p0]))] (score_reader_bytes.res p0 r) (score_reader_bytes.out p0 r) := by
  refine Fn_of Tryd.func33 rfl (Nat.le_of_ble_eq_true rfl) fun Γ => ?_
  refine TC_seq ?_
  refine TC_reg ?_
  refine TL_ev env 1 rfl ⟨tv, tv⟩ ?_
  refine TL_end ?_
  refine TE_go ?_
  refine TC_seq ?_
  refine TC_reg ?_
  refine TL_ev env 1 rfl ⟨tv, tv⟩ ?_
  obtain ⟨r26, hr, h0⟩ := bnd h0
  refine TL_callB [(0, 0)] (score_reader_word.ok0 hr) score_reader_word.fnb rfl ⟨tv, ⟨tv, tv⟩⟩ rfl ⟨.inr rfl, tv⟩ rfl ?_
  refine TL_ev env 1 rfl ⟨tv, tv⟩ ?_
  refine TL_end ?_
  refine TE_go ?_
  refine TC_seq ?_
  refine TC_seq ?_
  refine TC_reg ?_
  refine TL_ev env 2 rfl ⟨tv, ⟨⟨tv, ⟨tv, tv⟩⟩, tv⟩⟩ ?_
  refine TL_end ?_
  refine TE_go ?_
  refine TC_cond rfl (fun hb => ?_) (fun hb => ?_)
  · replace h0 := bif_t h0 hb
    refine TC_seq ?_
    refine TC_reg ?_
    refine TL_ev env 1 rfl ⟨tv, tv⟩ ?_
    refine TL_end ?_
    refine TE_go ?_
    refine TC_ret ?_
    refine tsr ?_
    obtain rfl := sinj h0
    exact TE_ret env rfl tv ⟨.inr rfl, tv⟩
  · replace h0 := bif_f h0 hb
    refine TC_skip ?_
    refine TE_go ?_
    refine TC_seq ?_
    refine TC_seq ?_
    refine TC_reg ?_
    refine TL_ev env 8 rfl ⟨tv, ⟨⟨tv, ⟨tv, tv⟩⟩, ⟨tv, ⟨fun eg => tv, ⟨fun eg => ⟨fun e => e, tv⟩, ⟨fun eg => ⟨fun e => e, ⟨tv, (by decide)⟩⟩, ⟨fun eg => ⟨fun e => e, ⟨tv, tv⟩⟩, ⟨⟨tv, ⟨tv, fun e => e⟩⟩, tv⟩⟩⟩⟩⟩⟩⟩⟩ ?_
    refine TL_end ?_
    refine TE_go ?_
    refine TC_cond rfl (fun hb => ?_) (fun hb => ?_)
    · replace h0 := bif_t h0 hb
      refine TC_seq ?_
      refine TC_reg ?_
      refine TL_ev env 4 rfl ⟨tv, ⟨tv, ⟨tv, ⟨⟨tv, tv⟩, tv⟩⟩⟩⟩ ?_
      refine TL_end ?_
      refine TE_go ?_
      refine TC_seq ?_
      refine TC_reg ?_
      refine TL_ev env 1 rfl ⟨tv, tv⟩ ?_
      refine TL_end ?_
      refine TE_go ?_
      refine TC_ret ?_
      refine tsr ?_
      obtain rfl := sinj h0
      exact TE_ret env rfl tv ⟨.inr rfl, tv⟩
    · replace h0 := bif_f h0 hb
      refine TC_skip ?_
      refine TE_go ?_
      refine TC_seq ?_
      refine TC_reg ?_
      refine TL_ev env 1 rfl ⟨tv, tv⟩ ?_
      refine TL_end ?_
      refine TE_go ?_
      refine TC_seq ?_
      refine TC_seq ?_
      refine TC_reg ?_
      refine TL_ev env 1 rfl ⟨tv, tv⟩ ?_
      refine TL_end ?_
      refine TE_go ?_
      obtain ⟨z1, h1, h0⟩ := bnd h0
      refine TC_cut (α := Bool × (List (Int))) (fun s => z1 = s) (fun s => [(4, .sl 10801)]) (fun s => [(0, some (.cells [.nils, .bool s.1])), (10801, some (.rows (.int .u8) s.2))]) ?_ ?_
      · refine TC_blk ?_
        refine TC_loop (α := Int × Bool × (List (Int))) (fun n s => score_reader_bytes.l0 K r26 n s.1 s.2.1 s.2.2 = some z1) (fun s => [(0, .p 0 0), (3, .str r26), (4, .sl 11001), (5, .int .i64 s.1)]) (fun s => [(0, some (.cells [.nils, .bool s.2.1])), (11001, some (.rows (.int .u8) s.2.2))]) K ?_ ?_
        · refine TE_own 4 7004 (.int .u8) rfl (by decide) rfl rfl ?_
          exact SP_ren [(11001, 7004)] (_, _, _) h1 ⟨rfl, rfl, rfl, rfl, tv⟩ ⟨rfl, rfl, tv⟩ rfl
        rintro n ⟨x63, x64, x65⟩ h1
        rcases n with _ | n
        · exact (nsome h1).elim
        replace h1 : score_reader_bytes.r0 K r26 (score_reader_bytes.l0 K r26 n) x63 x64 x65 = some z1 := h1
        refine TC_seq ?_
        refine TC_seq ?_
        refine TC_reg ?_
        refine TL_ev env 4 rfl ⟨tv, ⟨tv, ⟨⟨tv, tv⟩, ⟨⟨tv, ⟨tv, tv⟩⟩, tv⟩⟩⟩⟩ ?_
        refine TL_end ?_
        refine TE_go ?_
        refine TC_cond rfl (fun hb => ?_) (fun hb => ?_)
        · replace h1 := bif_t h1 hb
          refine TC_skip ?_
          refine TE_go ?_
          refine TC_seq ?_
          refine TC_blk ?_
          refine TC_renw (A' := [(0, .p 0 0), (3, .str _), (4, .sl 11001), (5, .int .i64 _)]) (L' := [(0, some (.cells [.nils, .bool _])), (11001, some (.rows (.int .u8) _))]) [] ⟨rfl, rfl, rfl, rfl, tv⟩ ⟨rfl, rfl, tv⟩ rfl ?_
          refine TC_drawR ⟨_, fun i => ([[], [], [], [], [3, 2], [4, 3, 2, 1], [5, 4, 3, 2, 1], [], [], [], [9], [10, 9, 8], [11, 10, 9, 8, 7, 5, 4, 3, 2, 1], [12, 11, 10, 9, 8, 7, 6, 5, 4, 3, 2, 1], [13, 12, 11, 10, 9, 8, 7, 6, 5, 4, 3, 2, 1], [14, 13, 12, 11, 10, 9, 8, 7, 6, 5, 4, 3, 2, 1, 0], [15, 14, 13, 12, 11, 10, 9, 8, 7, 6, 5, 4, 3, 2, 1, 0]] : List (List Nat)).getD i [], fun i => ([[], [], [], [], [], [0], [], [], [], [], [], [], [0], [], [1041], [1042, 11001], []] : List (List Nat)).getD i [], fun i => ([[], [], [], [], [], [], [], [], [], [], [], [], [], [], [1041], [1042], []] : List (List Nat)).getD i []⟩ (fun i => ([[0, 1041], [], [], [], [], [], [0], [0], [0], [0], [0], [0], [], [], [], [], []] : List (List Nat)).getD i []) (by kernel_rfl) (by kernel_rfl) ?_
          refine AJR_ev env 1 rfl (Nat.le_of_ble_eq_true rfl) rfl tv ?_
          refine AJR_ev env 2 rfl (Nat.le_of_ble_eq_true rfl) rfl tv ?_
          refine AJR_ev env 3 rfl (Nat.le_of_ble_eq_true rfl) rfl tv ?_
          refine AJR_ev env 4 rfl (Nat.le_of_ble_eq_true rfl) rfl tv ?_
          obtain ⟨g, h1⟩ := gd_t h1
          refine AJR_ev env 5 rfl (Nat.le_of_ble_eq_true rfl) rfl ⟨tv, ⟨tv, ⟨g.1, g.2⟩⟩⟩ ?_
          obtain ⟨⟨r83, r84⟩, hr, h1⟩ := bnd h1
          refine AJR_call 6 rfl (Nat.le_of_ble_eq_true rfl) [(0, 0)] rfl (score_reader_digit.ok0 hr) score_reader_digit.fnb rfl ⟨tv, ⟨tv, ⟨tv, tv⟩⟩⟩ rfl ⟨.inr rfl, tv⟩ rfl ?_
          refine AJR_ev env 7 rfl (Nat.le_of_ble_eq_true rfl) rfl ⟨tv, ⟨tv, (by decide)⟩⟩ ?_
          refine AJR_ev env 8 rfl (Nat.le_of_ble_eq_true rfl) rfl tv ?_
          refine AJR_ev env 9 rfl (Nat.le_of_ble_eq_true rfl) rfl tv ?_
          refine AJR_ev env 10 rfl (Nat.le_of_ble_eq_true rfl) rfl tv ?_
          refine AJR_ev env 11 rfl (Nat.le_of_ble_eq_true rfl) rfl ⟨tv, ⟨tv, tv⟩⟩ ?_
          obtain ⟨g, h1⟩ := gd_t h1
          refine AJR_ev env 12 rfl (Nat.le_of_ble_eq_true rfl) rfl ⟨tv, ⟨tv, ⟨g.1, g.2⟩⟩⟩ ?_
          obtain ⟨⟨r88, r89⟩, hr, h1⟩ := bnd h1
          refine AJR_call 13 rfl (Nat.le_of_ble_eq_true rfl) [(0, 0)] rfl (score_reader_digit.ok0 hr) score_reader_digit.fnb rfl ⟨tv, ⟨tv, ⟨tv, tv⟩⟩⟩ rfl ⟨.inr rfl, tv⟩ rfl ?_
          refine AJR_ev env 14 rfl (Nat.le_of_ble_eq_true rfl) rfl ⟨tv, ⟨tv, tv⟩⟩ ?_
          refine AJR_ev env 15 rfl (Nat.le_of_ble_eq_true rfl) rfl ⟨tv, tv⟩ ?_
          obtain ⟨g, h1⟩ := gd_t h1
          refine AJR_ev env 16 rfl (Nat.le_of_ble_eq_true rfl) rfl ⟨⟨tv, ⟨tv, tv⟩⟩, g⟩ ?_
          refine AJR_ev env 17 rfl (Nat.le_of_ble_eq_true rfl) rfl tv ?_
          refine AJR_end rfl rfl rfl ?_
          refine tbn ?_
          refine TE_go ?_
          refine TC_reg ?_
          refine TL_ev env 3 rfl ⟨tv, ⟨⟨tv, ⟨tv, tv⟩⟩, ⟨tv, tv⟩⟩⟩ ?_
          refine TL_end ?_
          refine tsn ?_
          exact TE_nextr [(11001, 1042)] n (Nat.lt_succ_self n) (_, _, _) h1 ⟨rfl, rfl, rfl, rfl, tv⟩ ⟨rfl, rfl, tv⟩ rfl
        · replace h1 := bif_f h1 hb
          refine TC_exit ?_
          refine tsx ?_
          refine tsx ?_
          refine tbe ?_
          obtain rfl := sinj h1
          refine tsn ?_
          exact SP_ren [(10801, 11001)] (_, _) rfl ⟨rfl, tv⟩ ⟨rfl, rfl, tv⟩ rfl
      · rintro ⟨x53, x54⟩ rfl
        refine TE_go ?_
        refine TC_seq ?_
        refine TC_reg ?_
        refine TL_ev env 2 rfl ⟨tv, ⟨tv, tv⟩⟩ ?_
        refine TL_end ?_
        refine TE_go ?_
        refine TC_ret ?_
        refine TE_frz 10801 rfl ?_
        obtain rfl := sinj h0
        exact TE_ret env rfl tv ⟨.inr rfl, tv⟩
theorem score_reader_bytes.ok0 {K : Nat} {p0 : Bool}  (h0 : score_reader_bytes K p0 = some (.inl ())) : Fn Tryd.prog 33 [.p 0 0] [(0, some (.cells [.nils, .bool p0]))] (.nils) [(0, some (.cells [.nils, .bool true]))] := score_reader_bytes.ok h0
theorem score_reader_bytes.ok1 {K : Nat} {p0 : Bool} {q0 : List (Int)} {q1 : Bool} (h0 : score_reader_bytes K p0 = some (.inr (q0, q1))) : Fn Tryd.prog 33 [.p 0 0] [(0, some (.cells [.nils, .bool p0]))] (.im (.slice (.int .u8)) q0) [(0, some (.cells [.nils, .bool q1]))] := score_reader_bytes.ok h0
theorem score_reader_bytes.fnb : fnb Tryd.prog 33 = true := fnb_of Tryd.func33 rfl
def weather_Check.res (_p0 : Int) (_p1 : Int) (_p2 : Int) (_p3 : Int) : Int → MV
  | q0 => .int .i64 q0
def weather_Check.out (_p0 : Int) (_p1 : Int) (_p2 : Int) (_p3 : Int) : Int → List (Nat × Option MObj)
  | _ => []
theorem weather_Check.ok {K : Nat} {p0 : Int} {p1 : Int} {p2 : Int} {p3 : Int} {r : Int} (h0 : weather_Check K p0 p1 p2 p3 = some r) : Fn Tryd.prog 81 [.agg [.int .i64 p0, .int .i64 p1, .int .i64 p2, .int .i64 p3]] [] (weather_Check.res p0 p1 p2 p3 r) (weather_Check.out p0 p1 p2 p3 r) := by
  refine Fn_of Tryd.func81 rfl (Nat.le_of_ble_eq_true rfl) fun Γ => ?_
  refine TC_seq ?_
  refine TC_reg ?_
  refine TL_ev env 2 rfl ⟨tv, ⟨tv, tv⟩⟩ ?_
  refine TL_end ?_
  refine TE_go ?_
  refine TC_seq ?_
  refine TC_seq ?_
  refine TC_reg ?_
  refine TL_ev env 10 rfl ⟨tv, ⟨⟨tv, tv⟩, ⟨tv, ⟨⟨tv, tv⟩, ⟨tv, ⟨⟨tv, tv⟩, ⟨tv, ⟨⟨tv, tv⟩, ⟨⟨tv, ⟨tv, ⟨tv, ⟨tv, tv⟩⟩⟩⟩, ⟨tv, tv⟩⟩⟩⟩⟩⟩⟩⟩⟩⟩ ?_
  refine TL_end ?_
  refine TE_go ?_
  obtain ⟨z1, h1, h0⟩ := bnd h0
  refine TC_cut (α := Unit) (fun _ => z1 = .inl ()) (fun _ => []) (fun _ => []) ?_ ?_
  · refine TC_blk ?_
    refine TC_loop (α := Int) (fun n s => weather_Check.l0 K p0 p1 p2 p3 n s = some z1) (fun s => [(13, .agg [.int .i64 p0, .int .i64 p1, .int .i64 p2, .int .i64 p3]), (14, .int .i64 s)]) (fun s => []) K ?_ ?_
    · exact SP_ren [] _ h1 ⟨rfl, rfl, tv⟩ tv rfl
    rintro n x5 h1
    rcases n with _ | n
    · exact (nsome h1).elim
    replace h1 : weather_Check.r0 K p0 p1 p2 p3 (weather_Check.l0 K p0 p1 p2 p3 n) x5 = some z1 := h1
    refine TC_seq ?_
    refine TC_reg ?_
    refine TL_ev env 1 rfl ⟨⟨tv, ⟨tv, tv⟩⟩, tv⟩ ?_
    refine TL_end ?_
    refine TE_go ?_
    refine TC_seq ?_
    refine TC_cond rfl (fun hb => ?_) (fun hb => ?_)
    · replace h1 := bif_t h1 hb
      refine TC_skip ?_
      refine TE_go ?_
      refine TC_seq ?_
      refine TC_blk ?_
      refine TC_seq ?_
      refine TC_reg ?_
      obtain ⟨g, h1⟩ := gd_t h1
      refine TL_ev env 2 rfl ⟨⟨tv, ⟨tv, ⟨g.1, g.2⟩⟩⟩, ⟨tv, tv⟩⟩ ?_
      refine TL_end ?_
      refine TE_go ?_
      refine TC_seq ?_
      refine TC_reg ?_
      refine TL_ev env 6 rfl ⟨tv, ⟨⟨tv, ⟨tv, tv⟩⟩, ⟨tv, ⟨fun eg => tv, ⟨fun eg => ⟨fun e => e, ⟨tv, tv⟩⟩, ⟨⟨tv, ⟨tv, fun e => e⟩⟩, tv⟩⟩⟩⟩⟩⟩ ?_
      refine TL_end ?_
      refine TE_go ?_
      refine TC_cond rfl (fun hb => ?_) (fun hb => ?_)
      · replace h1 := bif_t h1 hb
        refine TC_seq ?_
        refine TC_reg ?_
        refine TL_ev env 1 rfl ⟨tv, tv⟩ ?_
        refine TL_end ?_
        refine TE_go ?_
        refine TC_ret ?_
        refine tbr ?_
        refine tsr ?_
        refine tsr ?_
        refine tbr ?_
        refine tsr ?_
        refine tsr ?_
        obtain rfl := sinj h1
        obtain rfl := sinj h0
        exact TE_ret env rfl tv tv
      · replace h1 := bif_f h1 hb
        refine TC_skip ?_
        refine tbn ?_
        refine TE_go ?_
        refine TC_reg ?_
        refine TL_ev env 2 rfl ⟨⟨tv, ⟨tv, tv⟩⟩, ⟨tv, tv⟩⟩ ?_
        refine TL_end ?_
        refine tsn ?_
        exact TE_nextr [] n (Nat.lt_succ_self n) _ h1 ⟨rfl, rfl, tv⟩ tv rfl
    · replace h1 := bif_f h1 hb
      refine TC_exit ?_
      refine tsx ?_
      refine tsx ?_
      refine tbe ?_
      obtain rfl := sinj h1
      refine tsn ?_
      exact SP_ren [] () rfl tv tv rfl
  · rintro ⟨⟩ rfl
    refine TE_go ?_
    refine TC_seq ?_
    refine TC_reg ?_
    refine TL_ev env 1 rfl ⟨tv, tv⟩ ?_
    refine TL_end ?_
    refine TE_go ?_
    refine TC_ret ?_
    obtain rfl := sinj h0
    exact TE_ret env rfl tv tv
theorem weather_Check.ok0 {K : Nat} {p0 : Int} {p1 : Int} {p2 : Int} {p3 : Int} {q0 : Int} (h0 : weather_Check K p0 p1 p2 p3 = some q0) : Fn Tryd.prog 81 [.agg [.int .i64 p0, .int .i64 p1, .int .i64 p2, .int .i64 p3]] [] (.int .i64 q0) [] := weather_Check.ok h0
theorem weather_Check.fnb : fnb Tryd.prog 81 = true := fnb_of Tryd.func81 rfl
def weather_New.res (_p0 : Int) (_p1 : Int) (_p2 : Int) (_p3 : Int) (_p4 : Int) : (Int) ⊕ (Unit) → MV
  | .inl q0 => .tup [.nilp, .int .i64 q0]
  | .inr () => .tup [.p 1000 0, .int .i64 0]
def weather_New.out (p0 : Int) (p1 : Int) (p2 : Int) (p3 : Int) (p4 : Int) : (Int) ⊕ (Unit) → List (Nat × Option MObj)
  | .inl _ => []
  | .inr () => [(1000, some (.cells [.int .i64 p0, .int .i64 p1, .int .i64 p2, .int .i64 p3, .int .u32 p4, .bool false]))]
theorem weather_New.ok {K : Nat} {p0 : Int} {p1 : Int} {p2 : Int} {p3 : Int} {p4 : Int} {r : (Int) ⊕ (Unit)} (h0 : weather_New K p0 p1 p2 p3 p4 = some r) : Fn Tryd.prog 60 [.agg [.int .i64 p0, .int .i64 p1, .int .i64 p2, .int .i64 p3], .int .u32 p4] [] (weather_New.res p0 p1 p2 p3 p4 r) (weather_New.out p0 p1 p2 p3 p4 r) := by
  refine Fn_of Tryd.func60 rfl (Nat.le_of_ble_eq_true rfl) fun Γ => ?_
  refine TC_seq ?_
  refine TC_reg ?_
  refine TL_ev env 3 rfl ⟨tv, ⟨tv, ⟨tv, tv⟩⟩⟩ ?_
  refine TL_end ?_
  refine TE_go ?_
  refine TC_seq ?_
  refine TC_seq ?_
  refine TC_reg ?_
  refine TL_ev env 1 rfl ⟨⟨tv, tv⟩, tv⟩ ?_
  obtain ⟨r2, hr, h0⟩ := bnd h0
  refine TL_callB [] (weather_Check.ok0 hr) weather_Check.fnb rfl ⟨tv, ⟨tv, tv⟩⟩ rfl tv rfl ?_
  refine TL_ev env 1 rfl ⟨tv, tv⟩ ?_
  refine TL_end ?_
  refine TE_go ?_
  refine TC_seq ?_
  refine TC_reg ?_
  refine TL_ev env 2 rfl ⟨tv, ⟨⟨tv, ⟨tv, tv⟩⟩, tv⟩⟩ ?_
  refine TL_end ?_
  refine TE_go ?_
  refine TC_cond rfl (fun hb => ?_) (fun hb => ?_)
  · replace h0 := bif_t h0 hb
    refine TC_seq ?_
    refine TC_reg ?_
    refine TL_ev env 3 rfl ⟨tv, ⟨tv, ⟨tv, tv⟩⟩⟩ ?_
    refine TL_end ?_
    refine TE_go ?_
    refine TC_ret ?_
    refine tsr ?_
    obtain rfl := sinj h0
    exact TE_ret env rfl tv tv
  · replace h0 := bif_f h0 hb
    refine TC_skip ?_
    refine TE_go ?_
    refine TC_seq ?_
    refine TC_reg ?_
    refine TL_ev env 6 rfl ⟨⟨tv, tv⟩, ⟨tv, ⟨⟨tv, ⟨tv, tv⟩⟩, ⟨tv, ⟨tv, ⟨tv, tv⟩⟩⟩⟩⟩⟩ ?_
    refine TL_end ?_
    refine TE_go ?_
    refine TC_ret ?_
    obtain rfl := sinj h0
    refine TE_renw (A' := [(4, .p 1000 0), (5, .int .i64 0)]) (L' := [(1000, some (.cells [.int .i64 _, .int .i64 _, .int .i64 _, .int .i64 _, .int .u32 _, .bool false]))]) [(1000, 1015)] ⟨rfl, rfl, tv⟩ ⟨rfl, tv⟩ rfl ?_
    exact TE_ret env rfl tv ⟨.inr rfl, tv⟩
theorem weather_New.ok0 {K : Nat} {p0 : Int} {p1 : Int} {p2 : Int} {p3 : Int} {p4 : Int} {q0 : Int} (h0 : weather_New K p0 p1 p2 p3 p4 = some (.inl q0)) : Fn Tryd.prog 60 [.agg [.int .i64 p0, .int .i64 p1, .int .i64 p2, .int .i64 p3], .int .u32 p4] [] (.tup [.nilp, .int .i64 q0]) [] := weather_New.ok h0
theorem weather_New.ok1 {K : Nat} {p0 : Int} {p1 : Int} {p2 : Int} {p3 : Int} {p4 : Int}  (h0 : weather_New K p0 p1 p2 p3 p4 = some (.inr ())) : Fn Tryd.prog 60 [.agg [.int .i64 p0, .int .i64 p1, .int .i64 p2, .int .i64 p3], .int .u32 p4] [] (.tup [.p 1000 0, .int .i64 0]) [(1000, some (.cells [.int .i64 p0, .int .i64 p1, .int .i64 p2, .int .i64 p3, .int .u32 p4, .bool false]))] := weather_New.ok h0
theorem weather_New.fnb : fnb Tryd.prog 60 = true := fnb_of Tryd.func60 rfl
def weather_Weather_Row.res (_p0 : Int) : Unit → MV
  | () => .nils
def weather_Weather_Row.out (_p0 : Int) : Unit → List (Nat × Option MObj)
  | () => []
theorem weather_Weather_Row.ok {K : Nat} {p0 : Int} {r : Unit} (h0 : weather_Weather_Row K p0 = some r) : Fn Tryd.prog 61 [.nilp, .int .i64 p0] [] (weather_Weather_Row.res p0 r) (weather_Weather_Row.out p0 r) := by
  refine Fn_of Tryd.func61 rfl (Nat.le_of_ble_eq_true rfl) fun Γ => ?_
  refine TC_seq ?_
  refine TC_reg ?_
  refine TL_ev env 1 rfl ⟨tv, tv⟩ ?_
  refine TL_end ?_
  refine TE_go ?_
  refine TC_seq ?_
  refine TC_seq ?_
  refine TC_reg ?_
  refine TL_ev env 2 rfl ⟨tv, ⟨⟨tv, ⟨tv, tv⟩⟩, tv⟩⟩ ?_
  refine TL_end ?_
  refine TE_go ?_
  refine TC_cond rfl (fun hb => ?_) (fun hb => ?_)
  · refine TC_seq ?_
    refine TC_reg ?_
    refine TL_ev env 1 rfl ⟨tv, tv⟩ ?_
    refine TL_end ?_
    refine TE_go ?_
    refine TC_ret ?_
    refine tsr ?_
    obtain rfl := sinj h0
    exact TE_ret env rfl tv tv
  · first | exact (ftf hb).elim | exact (tff hb).elim | exact absurd hb (by decide)
theorem weather_Weather_Row.ok0 {K : Nat} {p0 : Int}  (h0 : weather_Weather_Row K p0 = some ()) : Fn Tryd.prog 61 [.nilp, .int .i64 p0] [] (.nils) [] := weather_Weather_Row.ok h0
theorem weather_Weather_Row.fnb : fnb Tryd.prog 61 = true := fnb_of Tryd.func61 rfl
def weather_Weather_of.res (_p0 : Int) (_p1 : Int) (_p2 : Int) (_p3 : Int) (_p4 : Int) (_p5 : Int) (_p6 : Int) (_p7 : Bool) : Int → MV
  | q0 => .int .i64 q0
def weather_Weather_of.out (_p0 : Int) (_p1 : Int) (p2 : Int) (p3 : Int) (p4 : Int) (p5 : Int) (p6 : Int) (p7 : Bool) : Int → List (Nat × Option MObj)
  | _ => [(0, some (.cells [.int .i64 p2, .int .i64 p3, .int .i64 p4, .int .i64 p5, .int .u32 p6, .bool p7]))]
theorem weather_Weather_of.ok {K : Nat} {p0 : Int} {p1 : Int} {p2 : Int} {p3 : Int} {p4 : Int} {p5 : Int} {p6 : Int} {p7 : Bool} {r : Int} (h0 : weather_Weather_of K p0 p1 p2 p3 p4 p5 p6 p7 = some r) : Fn Tryd.prog 95 [.p 0 0, .int .i64 p0, .int .i64 p1] [(0, some (.cells [.int .i64 p2, .int .i64 p3, .int .i64 p4, .int .i64 p5, .int .u32 p6, .bool p7]))] (weather_Weather_of.res p0 p1 p2 p3 p4 p5 p6 p7 r) (weather_Weather_of.out p0 p1 p2 p3 p4 p5 p6 p7 r) := by
  refine Fn_of Tryd.func95 rfl (Nat.le_of_ble_eq_true rfl) fun Γ => ?_
  refine TC_seq ?_
  refine TC_reg ?_
  refine TL_ev env 1 rfl ⟨tv, tv⟩ ?_
  refine TL_end ?_
  refine TE_go ?_
  refine TC_seq ?_
  refine TC_seq ?_
  refine TC_reg ?_
  refine TL_ev env 4 rfl ⟨tv, ⟨tv, ⟨tv, ⟨⟨tv, tv⟩, tv⟩⟩⟩⟩ ?_
  refine TL_end ?_
  refine TE_go ?_
  refine TC_cond rfl (fun hb => ?_) (fun hb => ?_)
  · replace h0 := bif_t h0 hb
    refine TC_seq ?_
    refine TC_reg ?_
    refine TL_ev env 2 rfl ⟨tv, ⟨tv, tv⟩⟩ ?_
    refine TL_end ?_
    refine TE_go ?_
    refine TC_ret ?_
    refine tsr ?_
    obtain rfl := sinj h0
    exact TE_ret env rfl tv ⟨.inr rfl, tv⟩
  · replace h0 := bif_f h0 hb
    refine TC_skip ?_
    refine TE_go ?_
    refine TC_seq ?_
    refine TC_reg ?_
    refine TL_ev env 2 rfl ⟨tv, ⟨tv, tv⟩⟩ ?_
    refine TL_end ?_
    refine TE_go ?_
    refine TC_ret ?_
    obtain rfl := sinj h0
    exact TE_ret env rfl tv ⟨.inr rfl, tv⟩
theorem weather_Weather_of.ok0 {K : Nat} {p0 : Int} {p1 : Int} {p2 : Int} {p3 : Int} {p4 : Int} {p5 : Int} {p6 : Int} {p7 : Bool} {q0 : Int} (h0 : weather_Weather_of K p0 p1 p2 p3 p4 p5 p6 p7 = some q0) : Fn Tryd.prog 95 [.p 0 0, .int .i64 p0, .int .i64 p1] [(0, some (.cells [.int .i64 p2, .int .i64 p3, .int .i64 p4, .int .i64 p5, .int .u32 p6, .bool p7]))] (.int .i64 q0) [(0, some (.cells [.int .i64 p2, .int .i64 p3, .int .i64 p4, .int .i64 p5, .int .u32 p6, .bool p7]))] := weather_Weather_of.ok h0
theorem weather_Weather_of.fnb : fnb Tryd.prog 95 = true := fnb_of Tryd.func95 rfl
def weather_Weather_Draw.res (_p0 : Int) (_p1 : Int) (_p2 : Int) (_p3 : Int) (_p4 : Int) (_p5 : Bool) : Int × Int → MV
  | (q0, _) => .int .i64 q0
def weather_Weather_Draw.out (p0 : Int) (p1 : Int) (p2 : Int) (p3 : Int) (_p4 : Int) (p5 : Bool) : Int × Int → List (Nat × Option MObj)
  | (_, q1) => [(0, some (.cells [.int .i64 p0, .int .i64 p1, .int .i64 p2, .int .i64 p3, .int .u32 q1, .bool p5]))]
theorem weather_Weather_Draw.ok {K : Nat} {p0 : Int} {p1 : Int} {p2 : Int} {p3 : Int} {p4 : Int} {p5 : Bool} {r : Int × Int} (h0 : weather_Weather_Draw K p0 p1 p2 p3 p4 p5 = some r) : Fn Tryd.prog 97 [.p 0 0] [(0, some (.cells [.int .i64 p0, .int .i64 p1, .int .i64 p2, .int .i64 p3, .int .u32 p4, .bool p5]))] (weather_Weather_Draw.res p0 p1 p2 p3 p4 p5 r) (weather_Weather_Draw.out p0 p1 p2 p3 p4 p5 r) := by
  refine Fn_of Tryd.func97 rfl (Nat.le_of_ble_eq_true rfl) fun Γ => ?_
  refine TC_seq ?_
  refine TC_reg ?_
  refine TL_ev env 1 rfl ⟨tv, tv⟩ ?_
  refine TL_end ?_
  refine TE_go ?_
  refine TC_seq ?_
  refine TC_seq ?_
  refine TC_reg ?_
  refine TL_ev env 2 rfl ⟨tv, ⟨⟨tv, ⟨tv, tv⟩⟩, tv⟩⟩ ?_
  refine TL_end ?_
  refine TE_go ?_
  refine TC_cond rfl (fun hb => ?_) (fun hb => ?_)
  · first | exact (ftf hb).elim | exact (tff hb).elim | exact absurd hb (by decide)
  · refine TC_skip ?_
    refine TE_go ?_
    refine TC_seq ?_
    refine TC_reg ?_
    refine TL_ev env 10 rfl ⟨tv, ⟨tv, ⟨tv, ⟨tv, ⟨⟨tv, tv⟩, ⟨⟨tv, ⟨tv, tv⟩⟩, ⟨⟨tv, ⟨tv, tv⟩⟩, ⟨tv, ⟨tv, ⟨⟨tv, tv⟩, tv⟩⟩⟩⟩⟩⟩⟩⟩⟩⟩ ?_
    refine TL_end ?_
    refine TE_go ?_
    refine TC_seq ?_
    refine TC_reg ?_
    refine TL_ev env 7 rfl ⟨tv, ⟨tv, ⟨tv, ⟨⟨tv, tv⟩, ⟨⟨tv, ⟨tv, (by decide)⟩⟩, ⟨tv, ⟨tv, tv⟩⟩⟩⟩⟩⟩⟩ ?_
    refine TL_end ?_
    refine TE_go ?_
    refine TC_ret ?_
    obtain rfl := sinj h0
    exact TE_ret env rfl tv ⟨.inr rfl, tv⟩
theorem weather_Weather_Draw.ok0 {K : Nat} {p0 : Int} {p1 : Int} {p2 : Int} {p3 : Int} {p4 : Int} {p5 : Bool} {q0 : Int} {q1 : Int} (h0 : weather_Weather_Draw K p0 p1 p2 p3 p4 p5 = some (q0, q1)) : Fn Tryd.prog 97 [.p 0 0] [(0, some (.cells [.int .i64 p0, .int .i64 p1, .int .i64 p2, .int .i64 p3, .int .u32 p4, .bool p5]))] (.int .i64 q0) [(0, some (.cells [.int .i64 p0, .int .i64 p1, .int .i64 p2, .int .i64 p3, .int .u32 q1, .bool p5]))] := weather_Weather_Draw.ok h0
theorem weather_Weather_Draw.fnb : fnb Tryd.prog 97 = true := fnb_of Tryd.func97 rfl
def weather_Weather_comes.res (_p0 : Int) (_p1 : Int) (_p2 : Int) (_p3 : Int) (_p4 : Int) (_p5 : Int) (_p6 : Bool) : Bool × Int → MV
  | (q0, _) => .bool q0
def weather_Weather_comes.out (_p0 : Int) (p1 : Int) (p2 : Int) (p3 : Int) (p4 : Int) (_p5 : Int) (p6 : Bool) : Bool × Int → List (Nat × Option MObj)
  | (_, q1) => [(0, some (.cells [.int .i64 p1, .int .i64 p2, .int .i64 p3, .int .i64 p4, .int .u32 q1, .bool p6]))]
theorem weather_Weather_comes.ok {K : Nat} {p0 : Int} {p1 : Int} {p2 : Int} {p3 : Int} {p4 : Int} {p5 : Int} {p6 : Bool} {r : Bool × Int} (h0 : weather_Weather_comes K p0 p1 p2 p3 p4 p5 p6 = some r) : Fn Tryd.prog 94 [.p 0 0, .int .i64 p0] [(0, some (.cells [.int .i64 p1, .int .i64 p2, .int .i64 p3, .int .i64 p4, .int .u32 p5, .bool p6]))] (weather_Weather_comes.res p0 p1 p2 p3 p4 p5 p6 r) (weather_Weather_comes.out p0 p1 p2 p3 p4 p5 p6 r) := by
  refine Fn_of Tryd.func94 rfl (Nat.le_of_ble_eq_true rfl) fun Γ => ?_
  refine TC_seq ?_
  refine TC_reg ?_
  refine TL_ev env 1 rfl ⟨tv, tv⟩ ?_
  refine TL_end ?_
  refine TE_go ?_
  refine TC_seq ?_
  refine TC_reg ?_
  refine TL_ev env 1 rfl ⟨tv, tv⟩ ?_
  obtain ⟨⟨r3, r4⟩, hr, h0⟩ := bnd h0
  refine TL_callB [(0, 0)] (weather_Weather_Draw.ok0 hr) weather_Weather_Draw.fnb rfl ⟨tv, ⟨tv, tv⟩⟩ rfl ⟨.inr rfl, tv⟩ rfl ?_
  refine TL_ev env 3 rfl ⟨tv, ⟨⟨tv, ⟨tv, tv⟩⟩, ⟨tv, tv⟩⟩⟩ ?_
  refine TL_end ?_
  refine TE_go ?_
  refine TC_ret ?_
  obtain rfl := sinj h0
  exact TE_ret env rfl tv ⟨.inr rfl, tv⟩
theorem weather_Weather_comes.ok0 {K : Nat} {p0 : Int} {p1 : Int} {p2 : Int} {p3 : Int} {p4 : Int} {p5 : Int} {p6 : Bool} {q0 : Bool} {q1 : Int} (h0 : weather_Weather_comes K p0 p1 p2 p3 p4 p5 p6 = some (q0, q1)) : Fn Tryd.prog 94 [.p 0 0, .int .i64 p0] [(0, some (.cells [.int .i64 p1, .int .i64 p2, .int .i64 p3, .int .i64 p4, .int .u32 p5, .bool p6]))] (.bool q0) [(0, some (.cells [.int .i64 p1, .int .i64 p2, .int .i64 p3, .int .i64 p4, .int .u32 q1, .bool p6]))] := weather_Weather_comes.ok h0
theorem weather_Weather_comes.fnb : fnb Tryd.prog 94 = true := fnb_of Tryd.func94 rfl
def weather_Weather_Lost.res (_p0 : Int) (_p1 : Int) (_p2 : Int) (_p3 : Int) (_p4 : Int) (_p5 : Bool) : Bool × Int × Bool → MV
  | (q0, _, _) => .bool q0
def weather_Weather_Lost.out (p0 : Int) (p1 : Int) (p2 : Int) (p3 : Int) (_p4 : Int) (_p5 : Bool) : Bool × Int × Bool → List (Nat × Option MObj)
  | (_, q1, q2) => [(0, some (.cells [.int .i64 p0, .int .i64 p1, .int .i64 p2, .int .i64 p3, .int .u32 q1, .bool q2]))]
theorem weather_Weather_Lost.ok {K : Nat} {p0 : Int} {p1 : Int} {p2 : Int} {p3 : Int} {p4 : Int} {p5 : Bool} {r : Bool × Int × Bool} (h0 : weather_Weather_Lost K p0 p1 p2 p3 p4 p5 = some r) : Fn Tryd.prog 83 [.p 0 0] [(0, some (.cells [.int .i64 p0, .int .i64 p1, .int .i64 p2, .int .i64 p3, .int .u32 p4, .bool p5]))] (weather_Weather_Lost.res p0 p1 p2 p3 p4 p5 r) (weather_Weather_Lost.out p0 p1 p2 p3 p4 p5 r) := by
  refine Fn_of Tryd.func83 rfl (Nat.le_of_ble_eq_true rfl) fun Γ => ?_
  refine TC_seq ?_
  refine TC_reg ?_
  refine TL_ev env 1 rfl ⟨tv, tv⟩ ?_
  refine TL_end ?_
  refine TE_go ?_
  refine TC_seq ?_
  refine TC_seq ?_
  refine TC_reg ?_
  refine TL_ev env 2 rfl ⟨tv, ⟨⟨tv, ⟨tv, tv⟩⟩, tv⟩⟩ ?_
  refine TL_end ?_
  refine TE_go ?_
  refine TC_cond rfl (fun hb => ?_) (fun hb => ?_)
  · first | exact (ftf hb).elim | exact (tff hb).elim | exact absurd hb (by decide)
  · refine TC_skip ?_
    refine TE_go ?_
    refine TC_seq ?_
    refine TC_seq ?_
    refine TC_renw (A' := [(0, .p 0 0)]) (L' := [(0, some (.cells [.int .i64 _, .int .i64 _, .int .i64 _, .int .i64 _, .int .u32 _, .bool _]))]) [] ⟨rfl, tv⟩ ⟨rfl, tv⟩ rfl ?_
    refine TC_drawR ⟨_, fun i => ([[], [], [], [2], [3, 2], [4, 3, 2], [5, 4, 3, 2], [], [7], [8, 7], [9, 8, 7], [10, 9, 8, 7], [11, 10, 9, 8, 7, 6, 5, 4, 3, 2, 1], [12, 11, 10, 9, 8, 7, 6, 5, 4, 3, 2, 1, 0]] : List (List Nat)).getD i [], fun i => ([[], [], [], [], [], [], [], [], [], [], [], [], [], [0]] : List (List Nat)).getD i [], fun i => ([[], [], [], [], [], [], [], [], [], [], [], [], [], []] : List (List Nat)).getD i []⟩ (fun i => ([[], [], [], [], [], [], [], [], [], [], [], [], [], []] : List (List Nat)).getD i []) (by kernel_rfl) (by kernel_rfl) ?_
    refine AJR_ev env 1 rfl (Nat.le_of_ble_eq_true rfl) rfl tv ?_
    refine AJR_ev env 2 rfl (Nat.le_of_ble_eq_true rfl) rfl tv ?_
    refine AJR_ev env 3 rfl (Nat.le_of_ble_eq_true rfl) rfl tv ?_
    refine AJR_ev env 4 rfl (Nat.le_of_ble_eq_true rfl) rfl tv ?_
    refine AJR_ev env 5 rfl (Nat.le_of_ble_eq_true rfl) rfl tv ?_
    refine AJR_ev env 6 rfl (Nat.le_of_ble_eq_true rfl) rfl tv ?_
    refine AJR_ev env 7 rfl (Nat.le_of_ble_eq_true rfl) rfl ⟨tv, tv⟩ ?_
    refine AJR_ev env 8 rfl (Nat.le_of_ble_eq_true rfl) rfl tv ?_
    refine AJR_ev env 9 rfl (Nat.le_of_ble_eq_true rfl) rfl tv ?_
    refine AJR_ev env 10 rfl (Nat.le_of_ble_eq_true rfl) rfl tv ?_
    refine AJR_ev env 11 rfl (Nat.le_of_ble_eq_true rfl) rfl tv ?_
    refine AJR_ev env 12 rfl (Nat.le_of_ble_eq_true rfl) rfl ⟨tv, tv⟩ ?_
    obtain ⟨r8, hr, h0⟩ := bnd h0
    refine AJR_callS 13 rfl (Nat.le_of_ble_eq_true rfl) [(0, 0)] rfl (weather_Weather_of.ok0 hr) weather_Weather_of.fnb rfl ⟨tv, ⟨tv, ⟨tv, ⟨tv, tv⟩⟩⟩⟩ rfl ⟨.inr rfl, tv⟩ rfl ⟨⟨rfl, rfl⟩, tv⟩ ?_
    obtain ⟨⟨r9, r10⟩, hr, h0⟩ := bnd h0
    refine AJR_call 14 rfl (Nat.le_of_ble_eq_true rfl) [(0, 0)] rfl (weather_Weather_comes.ok0 hr) weather_Weather_comes.fnb rfl ⟨tv, ⟨tv, ⟨tv, tv⟩⟩⟩ rfl ⟨.inr rfl, tv⟩ rfl ?_
    refine AJR_end rfl rfl rfl ?_
    refine TE_go ?_
    obtain ⟨z1, h1, h0⟩ := bnd h0
    refine TC_cut (α := Bool) (fun s => z1 = s) (fun s => [(0, .p 0 0)]) (fun s => [(0, some (.cells [.int .i64 p0, .int .i64 p1, .int .i64 p2, .int .i64 p3, .int .u32 r10, .bool s]))]) ?_ ?_
    · refine TC_cond rfl (fun hb => ?_) (fun hb => ?_)
      · replace h1 := bif_t h1 hb
        refine TC_reg ?_
        refine TL_ev env 9 rfl ⟨tv, ⟨tv, ⟨tv, ⟨tv, ⟨⟨tv, tv⟩, ⟨tv, ⟨tv, ⟨tv, ⟨⟨tv, tv⟩, tv⟩⟩⟩⟩⟩⟩⟩⟩⟩ ?_
        refine TL_end ?_
        obtain rfl := sinj h1
        refine tsn ?_
        exact SP_ren [] _ rfl ⟨rfl, tv⟩ ⟨rfl, tv⟩ rfl
      · replace h1 := bif_f h1 hb
        refine TC_skip ?_
        obtain rfl := sinj h1
        refine tsn ?_
        exact SP_ren [] _ rfl ⟨rfl, tv⟩ ⟨rfl, tv⟩ rfl
    · rintro x11 hz
      obtain rfl := hz.symm
      refine TE_go ?_
      refine TC_seq ?_
      refine TC_renw (A' := [(0, .p 0 0)]) (L' := [(0, some (.cells [.int .i64 _, .int .i64 _, .int .i64 _, .int .i64 _, .int .u32 _, .bool _]))]) [] ⟨rfl, tv⟩ ⟨rfl, tv⟩ rfl ?_
      refine TC_drawR ⟨_, fun i => ([[], [], [], [2], [3, 2], [4, 3, 2], [5, 4, 3, 2], [], [7], [8, 7], [9, 8, 7], [10, 9, 8, 7], [11, 10, 9, 8, 7, 6, 5, 4, 3, 2, 1], [12, 11, 10, 9, 8, 7, 6, 5, 4, 3, 2, 1, 0], [13, 12, 11, 10, 9, 8, 7, 6, 5, 4, 3, 2, 1, 0]] : List (List Nat)).getD i [], fun i => ([[], [], [], [], [], [], [], [], [], [], [], [], [], [0], []] : List (List Nat)).getD i [], fun i => ([[], [], [], [], [], [], [], [], [], [], [], [], [], [], []] : List (List Nat)).getD i []⟩ (fun i => ([[], [], [], [], [], [], [], [], [], [], [], [], [], [], []] : List (List Nat)).getD i []) (by kernel_rfl) (by kernel_rfl) ?_
      refine AJR_ev env 1 rfl (Nat.le_of_ble_eq_true rfl) rfl tv ?_
      refine AJR_ev env 2 rfl (Nat.le_of_ble_eq_true rfl) rfl tv ?_
      refine AJR_ev env 3 rfl (Nat.le_of_ble_eq_true rfl) rfl tv ?_
      refine AJR_ev env 4 rfl (Nat.le_of_ble_eq_true rfl) rfl tv ?_
      refine AJR_ev env 5 rfl (Nat.le_of_ble_eq_true rfl) rfl tv ?_
      refine AJR_ev env 6 rfl (Nat.le_of_ble_eq_true rfl) rfl tv ?_
      refine AJR_ev env 7 rfl (Nat.le_of_ble_eq_true rfl) rfl ⟨tv, tv⟩ ?_
      refine AJR_ev env 8 rfl (Nat.le_of_ble_eq_true rfl) rfl tv ?_
      refine AJR_ev env 9 rfl (Nat.le_of_ble_eq_true rfl) rfl tv ?_
      refine AJR_ev env 10 rfl (Nat.le_of_ble_eq_true rfl) rfl tv ?_
      refine AJR_ev env 11 rfl (Nat.le_of_ble_eq_true rfl) rfl tv ?_
      refine AJR_ev env 12 rfl (Nat.le_of_ble_eq_true rfl) rfl ⟨tv, tv⟩ ?_
      obtain ⟨r12, hr, h0⟩ := bnd h0
      refine AJR_callS 13 rfl (Nat.le_of_ble_eq_true rfl) [(0, 0)] rfl (weather_Weather_of.ok0 hr) weather_Weather_of.fnb rfl ⟨tv, ⟨tv, ⟨tv, ⟨tv, tv⟩⟩⟩⟩ rfl ⟨.inr rfl, tv⟩ rfl ⟨⟨rfl, rfl⟩, tv⟩ ?_
      obtain ⟨⟨r13, r14⟩, hr, h0⟩ := bnd h0
      refine AJR_call 14 rfl (Nat.le_of_ble_eq_true rfl) [(0, 0)] rfl (weather_Weather_comes.ok0 hr) weather_Weather_comes.fnb rfl ⟨tv, ⟨tv, ⟨tv, tv⟩⟩⟩ rfl ⟨.inr rfl, tv⟩ rfl ?_
      refine AJR_ev env 15 rfl (Nat.le_of_ble_eq_true rfl) rfl tv ?_
      refine AJR_end rfl rfl rfl ?_
      refine TE_go ?_
      refine TC_ret ?_
      obtain rfl := sinj h0
      exact TE_ret env rfl tv ⟨.inr rfl, tv⟩
theorem weather_Weather_Lost.ok0 {K : Nat} {p0 : Int} {p1 : Int} {p2 : Int} {p3 : Int} {p4 : Int} {p5 : Bool} {q0 : Bool} {q1 : Int} {q2 : Bool} (h0 : weather_Weather_Lost K p0 p1 p2 p3 p4 p5 = some (q0, q1, q2)) : Fn Tryd.prog 83 [.p 0 0] [(0, some (.cells [.int .i64 p0, .int .i64 p1, .int .i64 p2, .int .i64 p3, .int .u32 p4, .bool p5]))] (.bool q0) [(0, some (.cells [.int .i64 p0, .int .i64 p1, .int .i64 p2, .int .i64 p3, .int .u32 q1, .bool q2]))] := weather_Weather_Lost.ok h0
theorem weather_Weather_Lost.fnb : fnb Tryd.prog 83 = true := fnb_of Tryd.func83 rfl
def weather_bit.res (_p0 : Bool) : Int → MV
  | q0 => .int .i64 q0
def weather_bit.out (_p0 : Bool) : Int → List (Nat × Option MObj)
  | _ => []
theorem weather_bit.ok {K : Nat} {p0 : Bool} {r : Int} (h0 : weather_bit K p0 = some r) : Fn Tryd.prog 82 [.bool p0] [] (weather_bit.res p0 r) (weather_bit.out p0 r) := by
  refine Fn_of Tryd.func82 rfl (Nat.le_of_ble_eq_true rfl) fun Γ => ?_
  refine TC_seq ?_
  refine TC_reg ?_
  refine TL_ev env 1 rfl ⟨tv, tv⟩ ?_
  refine TL_end ?_
  refine TE_go ?_
  refine TC_seq ?_
  refine TC_seq ?_
  refine TC_reg ?_
  refine TL_ev env 1 rfl ⟨tv, tv⟩ ?_
  refine TL_end ?_
  refine TE_go ?_
  refine TC_cond rfl (fun hb => ?_) (fun hb => ?_)
  · replace h0 := bif_t h0 hb
    refine TC_seq ?_
    refine TC_reg ?_
    refine TL_ev env 1 rfl ⟨tv, tv⟩ ?_
    refine TL_end ?_
    refine TE_go ?_
    refine TC_ret ?_
    refine tsr ?_
    obtain rfl := sinj h0
    exact TE_ret env rfl tv tv
  · replace h0 := bif_f h0 hb
    refine TC_skip ?_
    refine TE_go ?_
    refine TC_seq ?_
    refine TC_reg ?_
    refine TL_ev env 1 rfl ⟨tv, tv⟩ ?_
    refine TL_end ?_
    refine TE_go ?_
    refine TC_ret ?_
    obtain rfl := sinj h0
    exact TE_ret env rfl tv tv
theorem weather_bit.ok0 {K : Nat} {p0 : Bool} {q0 : Int} (h0 : weather_bit K p0 = some q0) : Fn Tryd.prog 82 [.bool p0] [] (.int .i64 q0) [] := weather_bit.ok h0
theorem weather_bit.fnb : fnb Tryd.prog 82 = true := fnb_of Tryd.func82 rfl
def weather_Weather_Row_2.res (_p0 : Int) (_p1 : Int) (_p2 : Int) (_p3 : Int) (_p4 : Int) (_p5 : Int) (_p6 : Bool) : (List ((Int × (Int × (Int × Int))))) × Int × Bool → MV
  | (q0, _, _) => .im (.slice (.pair (.int .i64) (.pair (.int .i64) (.pair (.int .i64) (.int .u32))))) q0
def weather_Weather_Row_2.out (_p0 : Int) (p1 : Int) (p2 : Int) (p3 : Int) (p4 : Int) (_p5 : Int) (_p6 : Bool) : (List ((Int × (Int × (Int × Int))))) × Int × Bool → List (Nat × Option MObj)
  | (_, q1, q2) => [(0, some (.cells [.int .i64 p1, .int .i64 p2, .int .i64 p3, .int .i64 p4, .int .u32 q1, .bool q2]))]
theorem weather_Weather_Row_2.ok {K : Nat} {p0 : Int} {p1 : Int} {p2 : Int} {p3 : Int} {p4 : Int} {p5 : Int} {p6 : Bool} {r : (List ((Int × (Int × (Int × Int))))) × Int × Bool} (h0 : weather_Weather_Row_2 K p0 p1 p2 p3 p4 p5 p6 = some r) : Fn Tryd.prog 61 [.p 0 0, .int .i64 p0] [(0, some (.cells [.int .i64 p1, .int .i64 p2, .int .i64 p3, .int .i64 p4, .int .u32 p5, .bool p6]))] (weather_Weather_Row_2.res p0 p1 p2 p3 p4 p5 p6 r) (weather_Weather_Row_2.out p0 p1 p2 p3 p4 p5 p6 r) := by
  refine Fn_of Tryd.func61 rfl (Nat.le_of_ble_eq_true rfl) fun Γ => ?_
  refine TC_seq ?_
  refine TC_reg ?_
  refine TL_ev env 1 rfl ⟨tv, tv⟩ ?_
  refine TL_end ?_
  refine TE_go ?_
  refine TC_seq ?_
  refine TC_seq ?_
  refine TC_reg ?_
  refine TL_ev env 2 rfl ⟨tv, ⟨⟨tv, ⟨tv, tv⟩⟩, tv⟩⟩ ?_
  refine TL_end ?_
  refine TE_go ?_
  refine TC_cond rfl (fun hb => ?_) (fun hb => ?_)
  · first | exact (ftf hb).elim | exact (tff hb).elim | exact absurd hb (by decide)
  · refine TC_skip ?_
    refine TE_go ?_
    refine TC_seq ?_
    refine TC_reg ?_
    refine TL_ev env 1 rfl ⟨tv, tv⟩ ?_
    refine TL_end ?_
    refine TE_go ?_
    refine TC_seq ?_
    refine TC_seq ?_
    refine TC_reg ?_
    refine TL_ev env 4 rfl ⟨tv, ⟨⟨tv, ⟨tv, tv⟩⟩, ⟨⟨tv, ⟨tv, tv⟩⟩, ⟨tv, tv⟩⟩⟩⟩ ?_
    refine TL_end ?_
    refine TE_go ?_
    obtain ⟨z1, h1, h0⟩ := bnd h0
    refine TC_cut (α := Int × Bool × (List ((Int × (Int × (Int × Int)))))) (fun s => z1 = s) (fun s => [(5, .sl 10801)]) (fun s => [(0, some (.cells [.int .i64 p1, .int .i64 p2, .int .i64 p3, .int .i64 p4, .int .u32 s.1, .bool s.2.1])), (10801, some (.rows (.pair (.int .i64) (.pair (.int .i64) (.pair (.int .i64) (.int .u32)))) s.2.2))]) ?_ ?_
    · refine TC_blk ?_
      refine TC_loop (α := Int × Int × Bool × (List ((Int × (Int × (Int × Int)))))) (fun n s => weather_Weather_Row_2.l0 K (imin (imax p0 0) 64) p1 p2 p3 p4 n s.1 s.2.1 s.2.2.1 s.2.2.2 = some z1) (fun s => [(0, .p 0 0), (5, .sl 11001), (11, .int .i64 (imin (imax p0 0) 64)), (12, .int .i64 s.1)]) (fun s => [(0, some (.cells [.int .i64 p1, .int .i64 p2, .int .i64 p3, .int .i64 p4, .int .u32 s.2.1, .bool s.2.2.1])), (11001, some (.rows (.pair (.int .i64) (.pair (.int .i64) (.pair (.int .i64) (.int .u32)))) s.2.2.2))]) K ?_ ?_
      · refine TE_own 5 7005 (.pair (.int .i64) (.pair (.int .i64) (.pair (.int .i64) (.int .u32)))) rfl (by decide) rfl rfl ?_
        exact SP_ren [(11001, 7005)] (_, _, _, _) h1 ⟨rfl, rfl, rfl, rfl, tv⟩ ⟨rfl, rfl, tv⟩ rfl
      rintro n ⟨x104, x105, x106, x107⟩ h1
      rcases n with _ | n
      · exact (nsome h1).elim
      replace h1 : weather_Weather_Row_2.r0 K (imin (imax p0 0) 64) p1 p2 p3 p4 (weather_Weather_Row_2.l0 K (imin (imax p0 0) 64) p1 p2 p3 p4 n) x104 x105 x106 x107 = some z1 := h1
      refine TC_seq ?_
      refine TC_reg ?_
      refine TL_ev env 1 rfl ⟨⟨tv, ⟨tv, tv⟩⟩, tv⟩ ?_
      refine TL_end ?_
      refine TE_go ?_
      refine TC_seq ?_
      refine TC_cond rfl (fun hb => ?_) (fun hb => ?_)
      · replace h1 := bif_t h1 hb
        refine TC_skip ?_
        refine TE_go ?_
        refine TC_seq ?_
        refine TC_blk ?_
        refine TC_seq ?_
        refine TC_reg ?_
        refine TL_ev env 1 rfl ⟨tv, tv⟩ ?_
        obtain ⟨⟨r137, r138, r139⟩, hr, h1⟩ := bnd h1
        refine TL_callB [(0, 0)] (weather_Weather_Lost.ok0 hr) weather_Weather_Lost.fnb rfl ⟨tv, ⟨tv, tv⟩⟩ rfl ⟨.inr rfl, tv⟩ rfl ?_
        obtain ⟨r140, hr, h1⟩ := bnd h1
        refine TL_callB [] (weather_bit.ok0 hr) weather_bit.fnb rfl ⟨tv, ⟨tv, tv⟩⟩ rfl tv rfl ?_
        refine TL_ev env 1 rfl ⟨tv, tv⟩ ?_
        refine TL_end ?_
        refine TE_go ?_
        refine TC_reg ?_
        refine TL_ev env 3 rfl ⟨tv, ⟨tv, ⟨tv, tv⟩⟩⟩ ?_
        obtain ⟨⟨r141, r142, r143⟩, hr, h1⟩ := bnd h1
        refine TL_callB [(0, 0)] (weather_Weather_Lost.ok0 hr) weather_Weather_Lost.fnb rfl ⟨tv, ⟨tv, tv⟩⟩ rfl ⟨.inr rfl, tv⟩ rfl ?_
        obtain ⟨r144, hr, h1⟩ := bnd h1
        refine TL_callB [] (weather_bit.ok0 hr) weather_bit.fnb rfl ⟨tv, ⟨tv, tv⟩⟩ rfl tv rfl ?_
        obtain ⟨g, h1⟩ := gd_t h1
        refine TL_ev env 4 rfl ⟨⟨tv, ⟨tv, tv⟩⟩, ⟨⟨tv, tv⟩, ⟨⟨⟨tv, ⟨tv, tv⟩⟩, g⟩, ⟨tv, tv⟩⟩⟩⟩ ?_
        refine TL_end ?_
        refine tbn ?_
        refine TE_go ?_
        refine TC_reg ?_
        refine TL_ev env 2 rfl ⟨⟨tv, ⟨tv, tv⟩⟩, ⟨tv, tv⟩⟩ ?_
        refine TL_end ?_
        refine tsn ?_
        exact TE_nextr [(11001, 1024)] n (Nat.lt_succ_self n) (_, _, _, _) h1 ⟨rfl, rfl, rfl, rfl, tv⟩ ⟨rfl, rfl, tv⟩ rfl
      · replace h1 := bif_f h1 hb
        refine TC_exit ?_
        refine tsx ?_
        refine tsx ?_
        refine tbe ?_
        obtain rfl := sinj h1
        refine tsn ?_
        exact SP_ren [(10801, 11001)] (_, _, _) rfl ⟨rfl, tv⟩ ⟨rfl, rfl, tv⟩ rfl
    · rintro ⟨x85, x86, x87⟩ rfl
      refine TE_go ?_
      refine TC_seq ?_
      refine TC_reg ?_
      refine TL_ev env 2 rfl ⟨tv, ⟨tv, tv⟩⟩ ?_
      refine TL_end ?_
      refine TE_go ?_
      refine TC_ret ?_
      refine TE_frz 10801 rfl ?_
      obtain rfl := sinj h0
      exact TE_ret env rfl tv ⟨.inr rfl, tv⟩
theorem weather_Weather_Row_2.ok0 {K : Nat} {p0 : Int} {p1 : Int} {p2 : Int} {p3 : Int} {p4 : Int} {p5 : Int} {p6 : Bool} {q0 : List ((Int × (Int × (Int × Int))))} {q1 : Int} {q2 : Bool} (h0 : weather_Weather_Row_2 K p0 p1 p2 p3 p4 p5 p6 = some (q0, q1, q2)) : Fn Tryd.prog 61 [.p 0 0, .int .i64 p0] [(0, some (.cells [.int .i64 p1, .int .i64 p2, .int .i64 p3, .int .i64 p4, .int .u32 p5, .bool p6]))] (.im (.slice (.pair (.int .i64) (.pair (.int .i64) (.pair (.int .i64) (.int .u32))))) q0) [(0, some (.cells [.int .i64 p1, .int .i64 p2, .int .i64 p3, .int .i64 p4, .int .u32 q1, .bool q2]))] := weather_Weather_Row_2.ok h0
theorem weather_Weather_Row_2.fnb : fnb Tryd.prog 61 = true := fnb_of Tryd.func61 rfl
def score_reader_storm.res (_p0 : Bool) : (Unit) ⊕ ((List ((Int × (Int × (List (Int) × (List (Int) × (List (Int) × List ((Int × (Int × (Int × Int))))))))))) × Bool) → MV
  | .inl () => .nils
  | .inr (q0, _) => .im (.slice (.pair (.int .i64) (.pair (.int .i64) (.pair (.slice (.int .i16)) (.pair (.slice (.int .u8)) (.pair (.slice (.int .u8)) (.slice (.pair (.int .i64) (.pair (.int .i64) (.pair (.int .i64) (.int .u32))))))))))) q0
def score_reader_storm.out (_p0 : Bool) : (Unit) ⊕ ((List ((Int × (Int × (List (Int) × (List (Int) × (List (Int) × List ((Int × (Int × (Int × Int))))))))))) × Bool) → List (Nat × Option MObj)
  | .inl () => [(0, some (.cells [.nils, .bool true]))]
  | .inr (_, q1) => [(0, some (.cells [.nils, .bool q1]))]
theorem score_reader_storm.ok {K : Nat} {p0 : Bool} {r : (Unit) ⊕ ((List ((Int × (Int × (List (Int) × (List (Int) × (List (Int) × List ((Int × (Int × (Int × Int))))))))))) × Bool)} (h0 : score_reader_storm K p0 = some r) : Fn Tryd.prog 35 [.p 0 0] [(0, some (.cells [.nils, .bool p0]))] (score_reader_storm.res p0 r) (score_reader_storm.out p0 r) := by
  refine Fn_of Tryd.func35 rfl (Nat.le_of_ble_eq_true rfl) fun Γ => ?_
  refine TC_seq ?_
  refine TC_reg ?_
  refine TL_ev env 1 rfl ⟨tv, tv⟩ ?_
  refine TL_end ?_
  refine TE_go ?_
  refine TC_seq ?_
  refine TC_reg ?_
  refine TL_ev env 1 rfl ⟨tv, tv⟩ ?_
  obtain ⟨⟨r42, r43⟩, hr, h0⟩ := bnd h0
  refine TL_callB [(0, 0)] (score_reader_number.ok0 hr) score_reader_number.fnb rfl ⟨tv, ⟨tv, ⟨tv, tv⟩⟩⟩ rfl ⟨.inr rfl, tv⟩ rfl ?_
  refine TL_ev env 2 rfl ⟨tv, ⟨tv, tv⟩⟩ ?_
  refine TL_end ?_
  refine TE_go ?_
  refine TC_seq ?_
  refine TC_reg ?_
  refine TL_ev env 1 rfl ⟨tv, tv⟩ ?_
  obtain ⟨⟨r44, r45⟩, hr, h0⟩ := bnd h0
  refine TL_callB [(0, 0)] (score_reader_number.ok0 hr) score_reader_number.fnb rfl ⟨tv, ⟨tv, ⟨tv, tv⟩⟩⟩ rfl ⟨.inr rfl, tv⟩ rfl ?_
  refine TL_ev env 1 rfl ⟨tv, tv⟩ ?_
  obtain ⟨⟨r46, r47⟩, hr, h0⟩ := bnd h0
  refine TL_callB [(0, 0)] (score_reader_number.ok0 hr) score_reader_number.fnb rfl ⟨tv, ⟨tv, ⟨tv, tv⟩⟩⟩ rfl ⟨.inr rfl, tv⟩ rfl ?_
  refine TL_ev env 1 rfl ⟨tv, tv⟩ ?_
  obtain ⟨⟨r48, r49⟩, hr, h0⟩ := bnd h0
  refine TL_callB [(0, 0)] (score_reader_number.ok0 hr) score_reader_number.fnb rfl ⟨tv, ⟨tv, ⟨tv, tv⟩⟩⟩ rfl ⟨.inr rfl, tv⟩ rfl ?_
  refine TL_ev env 1 rfl ⟨tv, tv⟩ ?_
  obtain ⟨⟨r50, r51⟩, hr, h0⟩ := bnd h0
  refine TL_callB [(0, 0)] (score_reader_number.ok0 hr) score_reader_number.fnb rfl ⟨tv, ⟨tv, ⟨tv, tv⟩⟩⟩ rfl ⟨.inr rfl, tv⟩ rfl ?_
  refine TL_ev env 3 rfl ⟨⟨tv, ⟨tv, ⟨tv, ⟨tv, tv⟩⟩⟩⟩, ⟨tv, ⟨⟨tv, tv⟩, tv⟩⟩⟩ ?_
  refine TL_end ?_
  refine TE_go ?_
  refine TC_seq ?_
  refine TC_reg ?_
  refine TL_ev env 1 rfl ⟨tv, tv⟩ ?_
  obtain ⟨⟨r52, r53⟩, hr, h0⟩ := bnd h0
  refine TL_callB [(0, 0)] (score_reader_number.ok0 hr) score_reader_number.fnb rfl ⟨tv, ⟨tv, ⟨tv, tv⟩⟩⟩ rfl ⟨.inr rfl, tv⟩ rfl ?_
  refine TL_ev env 1 rfl ⟨tv, tv⟩ ?_
  obtain ⟨⟨r54, r55⟩, hr, h0⟩ := bnd h0
  refine TL_callB [(0, 0)] (score_reader_number.ok0 hr) score_reader_number.fnb rfl ⟨tv, ⟨tv, ⟨tv, tv⟩⟩⟩ rfl ⟨.inr rfl, tv⟩ rfl ?_
  refine TL_ev env 2 rfl ⟨tv, ⟨tv, tv⟩⟩ ?_
  refine TL_end ?_
  refine TE_go ?_
  refine TC_seq ?_
  refine TC_reg ?_
  refine TL_ev env 2 rfl ⟨⟨tv, tv⟩, ⟨tv, tv⟩⟩ ?_
  obtain ⟨z, hr, h0⟩ := bnd h0
  rcases z with r56 | ⟨⟩
  · refine TL_callB [] (weather_New.ok0 hr) weather_New.fnb rfl ⟨tv, ⟨tv, ⟨tv, tv⟩⟩⟩ rfl tv rfl ?_
    refine TL_ev env 5 rfl ⟨tv, ⟨tv, ⟨tv, ⟨tv, ⟨tv, tv⟩⟩⟩⟩⟩ ?_
    refine TL_end ?_
    refine TE_go ?_
    refine TC_seq ?_
    refine TC_seq ?_
    refine TC_reg ?_
    refine TL_ev env 8 rfl ⟨tv, ⟨tv, ⟨tv, ⟨⟨tv, tv⟩, ⟨tv, ⟨fun eg => tv, ⟨fun eg => ⟨fun e => e, ⟨tv, tv⟩⟩, ⟨⟨tv, ⟨tv, fun e => e⟩⟩, tv⟩⟩⟩⟩⟩⟩⟩⟩ ?_
    refine TL_end ?_
    refine TE_go ?_
    refine TC_cond rfl (fun hb => ?_) (fun hb => ?_)
    · replace h0 := bif_t h0 hb
      refine TC_seq ?_
      refine TC_reg ?_
      refine TL_ev env 4 rfl ⟨tv, ⟨tv, ⟨tv, ⟨⟨tv, tv⟩, tv⟩⟩⟩⟩ ?_
      refine TL_end ?_
      refine TE_go ?_
      refine TC_seq ?_
      refine TC_reg ?_
      refine TL_ev env 1 rfl ⟨tv, tv⟩ ?_
      refine TL_end ?_
      refine TE_go ?_
      refine TC_ret ?_
      refine tsr ?_
      obtain rfl := sinj h0
      exact TE_ret env rfl tv ⟨.inr rfl, tv⟩
    · replace h0 := bif_f h0 hb
      refine TC_skip ?_
      refine TE_go ?_
      refine TC_seq ?_
      refine TC_reg ?_
      refine TL_ev env 1 rfl ⟨tv, tv⟩ ?_
      refine TL_end ?_
      refine TE_go ?_
      refine TC_seq ?_
      refine TC_seq ?_
      refine TC_reg ?_
      refine TL_ev env 2 rfl ⟨tv, ⟨tv, tv⟩⟩ ?_
      refine TL_end ?_
      refine TE_go ?_
      obtain ⟨z1, h1, h0⟩ := bnd h0
      refine TC_cut (α := (List ((Int × (Int × (List (Int) × (List (Int) × (List (Int) × List ((Int × (Int × (Int × Int)))))))))))) (fun s => z1 = s) (fun s => [(9, .sl 11201)]) (fun s => [(0, some (.cells [.nils, .bool r55])), (11201, some (.rows (.pair (.int .i64) (.pair (.int .i64) (.pair (.slice (.int .i16)) (.pair (.slice (.int .u8)) (.pair (.slice (.int .u8)) (.slice (.pair (.int .i64) (.pair (.int .i64) (.pair (.int .i64) (.int .u32)))))))))) s))]) ?_ ?_
      · refine TC_blk ?_
        refine TC_loop (α := Int × (List ((Int × (Int × (List (Int) × (List (Int) × (List (Int) × List ((Int × (Int × (Int × Int)))))))))))) (fun n s => score_reader_storm.l0 K r54 r52 r55 n s.1 s.2 = some z1) (fun s => [(6, .int .i64 r54), (7, .nilp), (9, .sl 11401), (43, .int .i64 r52), (44, .int .i64 s.1)]) (fun s => [(0, some (.cells [.nils, .bool r55])), (11401, some (.rows (.pair (.int .i64) (.pair (.int .i64) (.pair (.slice (.int .i16)) (.pair (.slice (.int .u8)) (.pair (.slice (.int .u8)) (.slice (.pair (.int .i64) (.pair (.int .i64) (.pair (.int .i64) (.int .u32)))))))))) s.2))]) K ?_ ?_
        · refine TE_own 9 7009 (.pair (.int .i64) (.pair (.int .i64) (.pair (.slice (.int .i16)) (.pair (.slice (.int .u8)) (.pair (.slice (.int .u8)) (.slice (.pair (.int .i64) (.pair (.int .i64) (.pair (.int .i64) (.int .u32)))))))))) rfl (by decide) rfl rfl ?_
          exact SP_ren [(11401, 7009)] (_, _) h1 ⟨rfl, rfl, rfl, rfl, rfl, tv⟩ ⟨rfl, rfl, tv⟩ rfl
        rintro n ⟨x63, x64⟩ h1
        rcases n with _ | n
        · exact (nsome h1).elim
        replace h1 : score_reader_storm.r0 K r54 r52 r55 (score_reader_storm.l0 K r54 r52 r55 n) x63 x64 = some z1 := h1
        refine TC_seq ?_
        refine TC_reg ?_
        refine TL_ev env 1 rfl ⟨⟨tv, ⟨tv, tv⟩⟩, tv⟩ ?_
        refine TL_end ?_
        refine TE_go ?_
        refine TC_seq ?_
        refine TC_cond rfl (fun hb => ?_) (fun hb => ?_)
        · replace h1 := bif_t h1 hb
          refine TC_skip ?_
          refine TE_go ?_
          refine TC_seq ?_
          refine TC_blk ?_
          refine TC_reg ?_
          refine TL_ev env 3 rfl ⟨tv, ⟨tv, ⟨tv, tv⟩⟩⟩ ?_
          obtain ⟨⟨⟩, hr, h1⟩ := bnd h1
          refine TL_callB [] (weather_Weather_Row.ok0 hr) weather_Weather_Row.fnb rfl ⟨tv, ⟨tv, ⟨tv, tv⟩⟩⟩ rfl tv rfl ?_
          obtain ⟨g, h1⟩ := gd_t h1
          refine TL_ev env 4 rfl ⟨⟨tv, ⟨tv, tv⟩⟩, ⟨⟨tv, tv⟩, ⟨⟨⟨tv, ⟨tv, tv⟩⟩, g⟩, ⟨tv, tv⟩⟩⟩⟩ ?_
          refine TL_end ?_
          refine tbn ?_
          refine TE_go ?_
          refine TC_reg ?_
          refine TL_ev env 2 rfl ⟨⟨tv, ⟨tv, tv⟩⟩, ⟨tv, tv⟩⟩ ?_
          refine TL_end ?_
          refine tsn ?_
          exact TE_nextr [(11401, 1052)] n (Nat.lt_succ_self n) (_, _) h1 ⟨rfl, rfl, rfl, rfl, rfl, tv⟩ ⟨rfl, rfl, tv⟩ rfl
        · replace h1 := bif_f h1 hb
          refine TC_exit ?_
          refine tsx ?_
          refine tsx ?_
          refine tbe ?_
          obtain rfl := sinj h1
          refine tsn ?_
          exact SP_ren [(11201, 11401)] _ rfl ⟨rfl, tv⟩ ⟨rfl, rfl, tv⟩ rfl
      · rintro x62 hz
        obtain rfl := hz.symm
        refine TE_go ?_
        refine TC_seq ?_
        refine TC_reg ?_
        refine TL_ev env 2 rfl ⟨tv, ⟨tv, tv⟩⟩ ?_
        refine TL_end ?_
        refine TE_go ?_
        refine TC_ret ?_
        refine TE_frz 11201 rfl ?_
        obtain rfl := sinj h0
        exact TE_ret env rfl tv ⟨.inr rfl, tv⟩
  · refine TL_callB [(1000, 500290)] (weather_New.ok1 hr) weather_New.fnb rfl ⟨tv, ⟨tv, ⟨tv, tv⟩⟩⟩ rfl tv rfl ?_
    refine TL_ev env 5 rfl ⟨tv, ⟨tv, ⟨tv, ⟨tv, ⟨tv, tv⟩⟩⟩⟩⟩ ?_
    refine TL_end ?_
    refine TE_go ?_
    refine TC_seq ?_
    refine TC_seq ?_
    refine TC_reg ?_
    refine TL_ev env 8 rfl ⟨tv, ⟨tv, ⟨tv, ⟨⟨tv, tv⟩, ⟨tv, ⟨fun eg => tv, ⟨fun eg => ⟨fun e => e, ⟨tv, tv⟩⟩, ⟨⟨tv, ⟨tv, fun e => e⟩⟩, tv⟩⟩⟩⟩⟩⟩⟩⟩ ?_
    refine TL_end ?_
    refine TE_go ?_
    refine TC_cond rfl (fun hb => ?_) (fun hb => ?_)
    · replace h0 := bif_t h0 hb
      refine TC_seq ?_
      refine TC_reg ?_
      refine TL_ev env 4 rfl ⟨tv, ⟨tv, ⟨tv, ⟨⟨tv, tv⟩, tv⟩⟩⟩⟩ ?_
      refine TL_end ?_
      refine TE_go ?_
      refine TC_seq ?_
      refine TC_reg ?_
      refine TL_ev env 1 rfl ⟨tv, tv⟩ ?_
      refine TL_end ?_
      refine TE_go ?_
      refine TC_ret ?_
      refine tsr ?_
      obtain rfl := sinj h0
      exact TE_ret env rfl tv ⟨.inr rfl, tv⟩
    · replace h0 := bif_f h0 hb
      refine TC_skip ?_
      refine TE_go ?_
      refine TC_seq ?_
      refine TC_reg ?_
      refine TL_ev env 1 rfl ⟨tv, tv⟩ ?_
      refine TL_end ?_
      refine TE_go ?_
      refine TC_seq ?_
      refine TC_seq ?_
      refine TC_reg ?_
      refine TL_ev env 2 rfl ⟨tv, ⟨tv, tv⟩⟩ ?_
      refine TL_end ?_
      refine TE_go ?_
      obtain ⟨z1, h1, h0⟩ := bnd h0
      refine TC_cut (α := (List ((Int × (Int × (List (Int) × (List (Int) × (List (Int) × List ((Int × (Int × (Int × Int)))))))))))) (fun s => z1 = s) (fun s => [(9, .sl 11901)]) (fun s => [(0, some (.cells [.nils, .bool r55])), (11901, some (.rows (.pair (.int .i64) (.pair (.int .i64) (.pair (.slice (.int .i16)) (.pair (.slice (.int .u8)) (.pair (.slice (.int .u8)) (.slice (.pair (.int .i64) (.pair (.int .i64) (.pair (.int .i64) (.int .u32)))))))))) s))]) ?_ ?_
      · refine TC_blk ?_
        refine TC_loop (α := Int × Int × Bool × (List ((Int × (Int × (List (Int) × (List (Int) × (List (Int) × List ((Int × (Int × (Int × Int)))))))))))) (fun n s => score_reader_storm.l1 K r54 r52 r55 r44 r46 r48 r50 n s.1 s.2.1 s.2.2.1 s.2.2.2 = some z1) (fun s => [(6, .int .i64 r54), (7, .p 12101 0), (9, .sl 12102), (43, .int .i64 r52), (44, .int .i64 s.1)]) (fun s => [(0, some (.cells [.nils, .bool r55])), (12101, some (.cells [.int .i64 r44, .int .i64 r46, .int .i64 r48, .int .i64 r50, .int .u32 s.2.1, .bool s.2.2.1])), (12102, some (.rows (.pair (.int .i64) (.pair (.int .i64) (.pair (.slice (.int .i16)) (.pair (.slice (.int .u8)) (.pair (.slice (.int .u8)) (.slice (.pair (.int .i64) (.pair (.int .i64) (.pair (.int .i64) (.int .u32)))))))))) s.2.2.2))]) K ?_ ?_
        · refine TE_own 9 7009 (.pair (.int .i64) (.pair (.int .i64) (.pair (.slice (.int .i16)) (.pair (.slice (.int .u8)) (.pair (.slice (.int .u8)) (.slice (.pair (.int .i64) (.pair (.int .i64) (.pair (.int .i64) (.int .u32)))))))))) rfl (by decide) rfl rfl ?_
          exact SP_ren [(12101, 500290), (12102, 7009)] (_, _, _, _) h1 ⟨rfl, rfl, rfl, rfl, rfl, tv⟩ ⟨rfl, rfl, rfl, tv⟩ rfl
        rintro n ⟨x98, x99, x100, x101⟩ h1
        rcases n with _ | n
        · exact (nsome h1).elim
        replace h1 : score_reader_storm.r1 K r54 r52 r55 r44 r46 r48 r50 (score_reader_storm.l1 K r54 r52 r55 r44 r46 r48 r50 n) x98 x99 x100 x101 = some z1 := h1
        refine TC_seq ?_
        refine TC_reg ?_
        refine TL_ev env 1 rfl ⟨⟨tv, ⟨tv, tv⟩⟩, tv⟩ ?_
        refine TL_end ?_
        refine TE_go ?_
        refine TC_seq ?_
        refine TC_cond rfl (fun hb => ?_) (fun hb => ?_)
        · replace h1 := bif_t h1 hb
          refine TC_skip ?_
          refine TE_go ?_
          refine TC_seq ?_
          refine TC_blk ?_
          refine TC_reg ?_
          refine TL_ev env 3 rfl ⟨tv, ⟨tv, ⟨tv, tv⟩⟩⟩ ?_
          obtain ⟨⟨r116, r117, r118⟩, hr, h1⟩ := bnd h1
          refine TL_callB [(0, 12101)] (weather_Weather_Row_2.ok0 hr) weather_Weather_Row_2.fnb rfl ⟨tv, ⟨tv, ⟨tv, tv⟩⟩⟩ rfl ⟨.inr rfl, tv⟩ rfl ?_
          obtain ⟨g, h1⟩ := gd_t h1
          refine TL_ev env 4 rfl ⟨⟨tv, ⟨tv, tv⟩⟩, ⟨⟨tv, tv⟩, ⟨⟨⟨tv, ⟨tv, tv⟩⟩, g⟩, ⟨tv, tv⟩⟩⟩⟩ ?_
          refine TL_end ?_
          refine tbn ?_
          refine TE_go ?_
          refine TC_reg ?_
          refine TL_ev env 2 rfl ⟨⟨tv, ⟨tv, tv⟩⟩, ⟨tv, tv⟩⟩ ?_
          refine TL_end ?_
          refine tsn ?_
          exact TE_nextr [(12101, 12101), (12102, 1052)] n (Nat.lt_succ_self n) (_, _, _, _) h1 ⟨rfl, rfl, rfl, rfl, rfl, tv⟩ ⟨rfl, rfl, rfl, tv⟩ rfl
        · replace h1 := bif_f h1 hb
          refine TC_exit ?_
          refine tsx ?_
          refine tsx ?_
          refine tbe ?_
          obtain rfl := sinj h1
          refine tsn ?_
          exact SP_ren [(11901, 12102)] _ rfl ⟨rfl, tv⟩ ⟨rfl, rfl, tv⟩ rfl
      · rintro x91 hz
        obtain rfl := hz.symm
        refine TE_go ?_
        refine TC_seq ?_
        refine TC_reg ?_
        refine TL_ev env 2 rfl ⟨tv, ⟨tv, tv⟩⟩ ?_
        refine TL_end ?_
        refine TE_go ?_
        refine TC_ret ?_
        refine TE_frz 11901 rfl ?_
        obtain rfl := sinj h0
        exact TE_ret env rfl tv ⟨.inr rfl, tv⟩
theorem score_reader_storm.ok0 {K : Nat} {p0 : Bool}  (h0 : score_reader_storm K p0 = some (.inl ())) : Fn Tryd.prog 35 [.p 0 0] [(0, some (.cells [.nils, .bool p0]))] (.nils) [(0, some (.cells [.nils, .bool true]))] := score_reader_storm.ok h0
theorem score_reader_storm.ok1 {K : Nat} {p0 : Bool} {q0 : List ((Int × (Int × (List (Int) × (List (Int) × (List (Int) × List ((Int × (Int × (Int × Int))))))))))} {q1 : Bool} (h0 : score_reader_storm K p0 = some (.inr (q0, q1))) : Fn Tryd.prog 35 [.p 0 0] [(0, some (.cells [.nils, .bool p0]))] (.im (.slice (.pair (.int .i64) (.pair (.int .i64) (.pair (.slice (.int .i16)) (.pair (.slice (.int .u8)) (.pair (.slice (.int .u8)) (.slice (.pair (.int .i64) (.pair (.int .i64) (.pair (.int .i64) (.int .u32))))))))))) q0) [(0, some (.cells [.nils, .bool q1]))] := score_reader_storm.ok h0
theorem score_reader_storm.fnb : fnb Tryd.prog 35 = true := fnb_of Tryd.func35 rfl
def score_reader_steps.res (_p0 : Bool) : (Unit) ⊕ ((List ((Int × (Int × (List (Int) × (List (Int) × (List (Int) × List ((Int × (Int × (Int × Int))))))))))) × Bool) → MV
  | .inl () => .nils
  | .inr (q0, _) => .im (.slice (.pair (.int .i64) (.pair (.int .i64) (.pair (.slice (.int .i16)) (.pair (.slice (.int .u8)) (.pair (.slice (.int .u8)) (.slice (.pair (.int .i64) (.pair (.int .i64) (.pair (.int .i64) (.int .u32))))))))))) q0
def score_reader_steps.out (_p0 : Bool) : (Unit) ⊕ ((List ((Int × (Int × (List (Int) × (List (Int) × (List (Int) × List ((Int × (Int × (Int × Int))))))))))) × Bool) → List (Nat × Option MObj)
  | .inl () => [(0, some (.cells [.nils, .bool true]))]
  | .inr (_, q1) => [(0, some (.cells [.nils, .bool q1]))]
theorem score_reader_steps.ok {K : Nat} {p0 : Bool} {r : (Unit) ⊕ ((List ((Int × (Int × (List (Int) × (List (Int) × (List (Int) × List ((Int × (Int × (Int × Int))))))))))) × Bool)} (h0 : score_reader_steps K p0 = some r) : Fn Tryd.prog 17 [.p 0 0] [(0, some (.cells [.nils, .bool p0]))] (score_reader_steps.res p0 r) (score_reader_steps.out p0 r) := by
  refine Fn_of Tryd.func17 rfl (Nat.le_of_ble_eq_true rfl) fun Γ => ?_
  refine TC_seq ?_
  refine TC_reg ?_
  refine TL_ev env 1 rfl ⟨tv, tv⟩ ?_
  refine TL_end ?_
  refine TE_go ?_
  refine TC_seq ?_
  refine TC_reg ?_
  refine TL_ev env 1 rfl ⟨tv, tv⟩ ?_
  refine TL_end ?_
  refine TE_go ?_
  refine TC_seq ?_
  refine TC_seq ?_
  refine TC_reg ?_
  refine TL_ev env 1 rfl ⟨tv, tv⟩ ?_
  obtain ⟨r83, hr, h0⟩ := bnd h0
  refine TL_callB [(0, 0)] (score_reader_word.ok0 hr) score_reader_word.fnb rfl ⟨tv, ⟨tv, tv⟩⟩ rfl ⟨.inr rfl, tv⟩ rfl ?_
  refine TL_end ?_
  refine TE_go ?_
  refine TC_blk ?_
  refine TC_seq ?_
  refine TC_reg ?_
  refine TL_ev env 2 rfl ⟨⟨tv, ⟨tv, tv⟩⟩, ⟨tv, tv⟩⟩ ?_
  refine TL_end ?_
  refine TE_go ?_
  refine TC_cond rfl (fun hb => ?_) (fun hb => ?_)
  · replace h0 := bif_t h0 hb
    refine TC_seq ?_
    refine TC_reg ?_
    refine TL_ev env 2 rfl ⟨tv, ⟨⟨tv, tv⟩, tv⟩⟩ ?_
    refine TL_end ?_
    refine TE_go ?_
    obtain ⟨z1, h1, h0⟩ := bnd h0
    refine TC_cut (α := Unit) (fun _ => z1 = ()) (fun _ => [(3, .p 15001 0)]) (fun _ => [(0, some (.cells [.nils, .bool true])), (15001, some (.cells [.int .i64 1, .int .i64 0, .nils, .nils, .nils, .nils]))]) ?_ ?_
    · refine TC_blk ?_
      refine TC_loop (α := Unit) (fun n _ => score_reader_steps.l0 K n = some z1) (fun _ => [(0, .p 0 0), (3, .p 15101 0)]) (fun _ => [(0, some (.cells [.nils, .bool true])), (15101, some (.cells [.int .i64 1, .int .i64 0, .nils, .nils, .nils, .nils]))]) K ?_ ?_
      · exact SP_ren [(15101, 1003)] () h1 ⟨rfl, rfl, tv⟩ ⟨rfl, rfl, tv⟩ rfl
      rintro n ⟨⟩ h1
      rcases n with _ | n
      · exact (nsome h1).elim
      replace h1 : score_reader_steps.r0 K (score_reader_steps.l0 K n)  = some z1 := h1
      refine TC_seq ?_
      refine TC_seq ?_
      refine TC_reg ?_
      refine TL_ev env 6 rfl ⟨tv, ⟨tv, ⟨tv, ⟨⟨tv, tv⟩, ⟨⟨tv, tv⟩, ⟨⟨tv, ⟨tv, tv⟩⟩, tv⟩⟩⟩⟩⟩⟩ ?_
      refine TL_end ?_
      refine TE_go ?_
      refine TC_cond rfl (fun hb => ?_) (fun hb => ?_)
      · first | exact (ftf hb).elim | exact (tff hb).elim | exact absurd hb (by decide)
      · refine TC_exit ?_
        refine tsx ?_
        refine tsx ?_
        refine tbe ?_
        obtain rfl := sinj h1
        refine tsn ?_
        exact SP_ren [(15001, 15101)] () rfl ⟨rfl, tv⟩ ⟨rfl, rfl, tv⟩ rfl
    · rintro ⟨⟩ rfl
      refine tbn ?_
      refine TE_go ?_
      refine TC_seq ?_
      refine TC_reg ?_
      refine TL_ev env 3 rfl ⟨⟨tv, tv⟩, ⟨⟨tv, tv⟩, ⟨tv, tv⟩⟩⟩ ?_
      refine TL_end ?_
      refine TE_go ?_
      refine TC_ret ?_
      refine TE_frz 1067 rfl ?_
      obtain rfl := sinj h0
      exact TE_ret env rfl tv ⟨.inr rfl, tv⟩
  · replace h0 := bif_f h0 hb
    refine TC_seq ?_
    refine TC_reg ?_
    refine TL_ev env 2 rfl ⟨⟨tv, ⟨tv, tv⟩⟩, ⟨tv, tv⟩⟩ ?_
    refine TL_end ?_
    refine TE_go ?_
    refine TC_cond rfl (fun hb => ?_) (fun hb => ?_)
    · replace h0 := bif_t h0 hb
      refine TC_reg ?_
      refine TL_ev env 1 rfl ⟨tv, tv⟩ ?_
      obtain ⟨z, hr, h0⟩ := bnd h0
      rcases z with ⟨⟩ | ⟨r132, r133⟩
      · refine TL_callB [(0, 0)] (score_reader_tone.ok0 hr) score_reader_tone.fnb rfl ⟨tv, ⟨tv, tv⟩⟩ rfl ⟨.inr rfl, tv⟩ rfl ?_
        refine TL_ev env 4 rfl ⟨tv, ⟨⟨tv, tv⟩, ⟨tv, ⟨⟨tv, tv⟩, tv⟩⟩⟩⟩ ?_
        refine TL_end ?_
        refine tbn ?_
        refine TE_go ?_
        refine TC_seq ?_
        refine TC_reg ?_
        refine TL_ev env 3 rfl ⟨⟨tv, tv⟩, ⟨⟨tv, tv⟩, ⟨tv, tv⟩⟩⟩ ?_
        refine TL_end ?_
        refine TE_go ?_
        refine TC_ret ?_
        refine TE_frz 1067 rfl ?_
        obtain rfl := sinj h0
        exact TE_ret env rfl tv ⟨.inr rfl, tv⟩
      · refine TL_callB [(0, 0)] (score_reader_tone.ok1 hr) score_reader_tone.fnb rfl ⟨tv, ⟨tv, tv⟩⟩ rfl ⟨.inr rfl, tv⟩ rfl ?_
        refine TL_ev env 4 rfl ⟨tv, ⟨⟨tv, tv⟩, ⟨tv, ⟨⟨tv, tv⟩, tv⟩⟩⟩⟩ ?_
        refine TL_end ?_
        refine tbn ?_
        refine TE_go ?_
        refine TC_seq ?_
        refine TC_reg ?_
        refine TL_ev env 3 rfl ⟨⟨tv, tv⟩, ⟨⟨tv, tv⟩, ⟨tv, tv⟩⟩⟩ ?_
        refine TL_end ?_
        refine TE_go ?_
        refine TC_ret ?_
        refine TE_frz 1067 rfl ?_
        obtain rfl := sinj h0
        exact TE_ret env rfl tv ⟨.inr rfl, tv⟩
    · replace h0 := bif_f h0 hb
      refine TC_seq ?_
      refine TC_reg ?_
      refine TL_ev env 2 rfl ⟨⟨tv, ⟨tv, tv⟩⟩, ⟨tv, tv⟩⟩ ?_
      refine TL_end ?_
      refine TE_go ?_
      refine TC_cond rfl (fun hb => ?_) (fun hb => ?_)
      · replace h0 := bif_t h0 hb
        refine TC_reg ?_
        refine TL_ev env 1 rfl ⟨tv, tv⟩ ?_
        obtain ⟨⟨r150, r151⟩, hr, h0⟩ := bnd h0
        refine TL_callB [(0, 0)] (score_reader_number.ok0 hr) score_reader_number.fnb rfl ⟨tv, ⟨tv, ⟨tv, tv⟩⟩⟩ rfl ⟨.inr rfl, tv⟩ rfl ?_
        refine TL_ev env 4 rfl ⟨tv, ⟨⟨tv, tv⟩, ⟨tv, ⟨⟨tv, tv⟩, tv⟩⟩⟩⟩ ?_
        refine TL_end ?_
        refine tbn ?_
        refine TE_go ?_
        refine TC_seq ?_
        refine TC_reg ?_
        refine TL_ev env 3 rfl ⟨⟨tv, tv⟩, ⟨⟨tv, tv⟩, ⟨tv, tv⟩⟩⟩ ?_
        refine TL_end ?_
        refine TE_go ?_
        refine TC_ret ?_
        refine TE_frz 1067 rfl ?_
        obtain rfl := sinj h0
        exact TE_ret env rfl tv ⟨.inr rfl, tv⟩
      · replace h0 := bif_f h0 hb
        refine TC_seq ?_
        refine TC_reg ?_
        refine TL_ev env 2 rfl ⟨⟨tv, ⟨tv, tv⟩⟩, ⟨tv, tv⟩⟩ ?_
        refine TL_end ?_
        refine TE_go ?_
        refine TC_cond rfl (fun hb => ?_) (fun hb => ?_)
        · replace h0 := bif_t h0 hb
          refine TC_seq ?_
          refine TC_reg ?_
          refine TL_ev env 1 rfl ⟨tv, tv⟩ ?_
          obtain ⟨z, hr, h0⟩ := bnd h0
          rcases z with ⟨⟩ | ⟨r164, r165⟩
          · refine TL_callB [(0, 0)] (score_reader_bytes.ok0 hr) score_reader_bytes.fnb rfl ⟨tv, ⟨tv, tv⟩⟩ rfl ⟨.inr rfl, tv⟩ rfl ?_
            refine TL_ev env 4 rfl ⟨tv, ⟨⟨tv, tv⟩, ⟨tv, ⟨⟨tv, tv⟩, tv⟩⟩⟩⟩ ?_
            refine TL_end ?_
            refine TE_go ?_
            refine TC_reg ?_
            refine TL_ev env 1 rfl ⟨tv, tv⟩ ?_
            obtain ⟨z, hr, h0⟩ := bnd h0
            rcases z with ⟨⟩ | ⟨r166, r167⟩
            · refine TL_callB [(0, 0)] (score_reader_bytes.ok0 hr) score_reader_bytes.fnb rfl ⟨tv, ⟨tv, tv⟩⟩ rfl ⟨.inr rfl, tv⟩ rfl ?_
              refine TL_ev env 2 rfl ⟨tv, ⟨⟨tv, tv⟩, tv⟩⟩ ?_
              refine TL_end ?_
              refine tbn ?_
              refine TE_go ?_
              refine TC_seq ?_
              refine TC_reg ?_
              refine TL_ev env 3 rfl ⟨⟨tv, tv⟩, ⟨⟨tv, tv⟩, ⟨tv, tv⟩⟩⟩ ?_
              refine TL_end ?_
              refine TE_go ?_
              refine TC_ret ?_
              refine TE_frz 1067 rfl ?_
              obtain rfl := sinj h0
              exact TE_ret env rfl tv ⟨.inr rfl, tv⟩
            · refine TL_callB [(0, 0)] (score_reader_bytes.ok1 hr) score_reader_bytes.fnb rfl ⟨tv, ⟨tv, tv⟩⟩ rfl ⟨.inr rfl, tv⟩ rfl ?_
              refine TL_ev env 2 rfl ⟨tv, ⟨⟨tv, tv⟩, tv⟩⟩ ?_
              refine TL_end ?_
              refine tbn ?_
              refine TE_go ?_
              refine TC_seq ?_
              refine TC_reg ?_
              refine TL_ev env 3 rfl ⟨⟨tv, tv⟩, ⟨⟨tv, tv⟩, ⟨tv, tv⟩⟩⟩ ?_
              refine TL_end ?_
              refine TE_go ?_
              refine TC_ret ?_
              refine TE_frz 1067 rfl ?_
              obtain rfl := sinj h0
              exact TE_ret env rfl tv ⟨.inr rfl, tv⟩
          · refine TL_callB [(0, 0)] (score_reader_bytes.ok1 hr) score_reader_bytes.fnb rfl ⟨tv, ⟨tv, tv⟩⟩ rfl ⟨.inr rfl, tv⟩ rfl ?_
            refine TL_ev env 4 rfl ⟨tv, ⟨⟨tv, tv⟩, ⟨tv, ⟨⟨tv, tv⟩, tv⟩⟩⟩⟩ ?_
            refine TL_end ?_
            refine TE_go ?_
            refine TC_reg ?_
            refine TL_ev env 1 rfl ⟨tv, tv⟩ ?_
            obtain ⟨z, hr, h0⟩ := bnd h0
            rcases z with ⟨⟩ | ⟨r170, r171⟩
            · refine TL_callB [(0, 0)] (score_reader_bytes.ok0 hr) score_reader_bytes.fnb rfl ⟨tv, ⟨tv, tv⟩⟩ rfl ⟨.inr rfl, tv⟩ rfl ?_
              refine TL_ev env 2 rfl ⟨tv, ⟨⟨tv, tv⟩, tv⟩⟩ ?_
              refine TL_end ?_
              refine tbn ?_
              refine TE_go ?_
              refine TC_seq ?_
              refine TC_reg ?_
              refine TL_ev env 3 rfl ⟨⟨tv, tv⟩, ⟨⟨tv, tv⟩, ⟨tv, tv⟩⟩⟩ ?_
              refine TL_end ?_
              refine TE_go ?_
              refine TC_ret ?_
              refine TE_frz 1067 rfl ?_
              obtain rfl := sinj h0
              exact TE_ret env rfl tv ⟨.inr rfl, tv⟩
            · refine TL_callB [(0, 0)] (score_reader_bytes.ok1 hr) score_reader_bytes.fnb rfl ⟨tv, ⟨tv, tv⟩⟩ rfl ⟨.inr rfl, tv⟩ rfl ?_
              refine TL_ev env 2 rfl ⟨tv, ⟨⟨tv, tv⟩, tv⟩⟩ ?_
              refine TL_end ?_
              refine tbn ?_
              refine TE_go ?_
              refine TC_seq ?_
              refine TC_reg ?_
              refine TL_ev env 3 rfl ⟨⟨tv, tv⟩, ⟨⟨tv, tv⟩, ⟨tv, tv⟩⟩⟩ ?_
              refine TL_end ?_
              refine TE_go ?_
              refine TC_ret ?_
              refine TE_frz 1067 rfl ?_
              obtain rfl := sinj h0
              exact TE_ret env rfl tv ⟨.inr rfl, tv⟩
        · replace h0 := bif_f h0 hb
          refine TC_seq ?_
          refine TC_reg ?_
          refine TL_ev env 2 rfl ⟨⟨tv, ⟨tv, tv⟩⟩, ⟨tv, tv⟩⟩ ?_
          refine TL_end ?_
          refine TE_go ?_
          obtain ⟨z1, h1, h0⟩ := bnd h0
          refine TC_cut (α := Int) (fun s => z1 = .inl s) (fun s => [(3, .p 16801 0)]) (fun s => [(0, some (.cells [.nils, .bool true])), (16801, some (.cells [.int .i64 s, .int .i64 0, .nils, .nils, .nils, .nils]))]) ?_ ?_
          · refine TC_cond rfl (fun hb => ?_) (fun hb => ?_)
            · replace h1 := bif_t h1 hb
              refine TC_seq ?_
              refine TC_reg ?_
              refine TL_ev env 2 rfl ⟨tv, ⟨⟨tv, tv⟩, tv⟩⟩ ?_
              refine TL_end ?_
              refine TE_go ?_
              obtain ⟨z2, h2, h1⟩ := bnd h1
              refine TC_cut (α := Unit) (fun _ => z2 = ()) (fun _ => [(3, .p 17101 0)]) (fun _ => [(0, some (.cells [.nils, .bool true])), (17101, some (.cells [.int .i64 4, .int .i64 0, .nils, .nils, .nils, .nils]))]) ?_ ?_
              · refine TC_blk ?_
                refine TC_loop (α := Unit) (fun n _ => score_reader_steps.l1 K n = some z2) (fun _ => [(0, .p 0 0), (3, .p 17201 0)]) (fun _ => [(0, some (.cells [.nils, .bool true])), (17201, some (.cells [.int .i64 4, .int .i64 0, .nils, .nils, .nils, .nils]))]) K ?_ ?_
                · exact SP_ren [(17201, 1003)] () h2 ⟨rfl, rfl, tv⟩ ⟨rfl, rfl, tv⟩ rfl
                rintro n ⟨⟩ h2
                rcases n with _ | n
                · exact (nsome h2).elim
                replace h2 : score_reader_steps.r1 K (score_reader_steps.l1 K n)  = some z2 := h2
                refine TC_seq ?_
                refine TC_seq ?_
                refine TC_reg ?_
                refine TL_ev env 6 rfl ⟨tv, ⟨tv, ⟨tv, ⟨⟨tv, tv⟩, ⟨⟨tv, tv⟩, ⟨⟨tv, ⟨tv, tv⟩⟩, tv⟩⟩⟩⟩⟩⟩ ?_
                refine TL_end ?_
                refine TE_go ?_
                refine TC_cond rfl (fun hb => ?_) (fun hb => ?_)
                · first | exact (ftf hb).elim | exact (tff hb).elim | exact absurd hb (by decide)
                · refine TC_exit ?_
                  refine tsx ?_
                  refine tsx ?_
                  refine tbe ?_
                  obtain rfl := sinj h2
                  refine tsn ?_
                  exact SP_ren [(17101, 17201)] () rfl ⟨rfl, tv⟩ ⟨rfl, rfl, tv⟩ rfl
              · rintro ⟨⟩ rfl
                obtain rfl := sinj h1
                refine tsn ?_
                exact SP_ren [(16801, 17101)] _ rfl ⟨rfl, tv⟩ ⟨rfl, rfl, tv⟩ rfl
            · replace h1 := bif_f h1 hb
              refine TC_seq ?_
              refine TC_reg ?_
              refine TL_ev env 2 rfl ⟨⟨tv, ⟨tv, tv⟩⟩, ⟨tv, tv⟩⟩ ?_
              refine TL_end ?_
              refine TE_go ?_
              refine TC_cond rfl (fun hb => ?_) (fun hb => ?_)
              · replace h1 := bif_t h1 hb
                refine TC_seq ?_
                refine TC_reg ?_
                refine TL_ev env 1 rfl ⟨tv, tv⟩ ?_
                obtain ⟨z, hr, h1⟩ := bnd h1
                rcases z with ⟨⟩ | ⟨r180, r181⟩
                · refine TL_callB [(0, 0)] (score_reader_storm.ok0 hr) score_reader_storm.fnb rfl ⟨tv, ⟨tv, tv⟩⟩ rfl ⟨.inr rfl, tv⟩ rfl ?_
                  refine TL_ev env 1 rfl ⟨tv, tv⟩ ?_
                  refine TL_end ?_
                  refine TE_go ?_
                  refine TC_ret ?_
                  refine tsr ?_
                  refine tbr ?_
                  refine tsr ?_
                  obtain rfl := sinj h1
                  obtain rfl := sinj h0
                  exact TE_ret env rfl tv ⟨.inr rfl, tv⟩
                · refine TL_callB [(0, 0)] (score_reader_storm.ok1 hr) score_reader_storm.fnb rfl ⟨tv, ⟨tv, tv⟩⟩ rfl ⟨.inr rfl, tv⟩ rfl ?_
                  refine TL_ev env 1 rfl ⟨tv, tv⟩ ?_
                  refine TL_end ?_
                  refine TE_go ?_
                  refine TC_ret ?_
                  refine tsr ?_
                  refine tbr ?_
                  refine tsr ?_
                  obtain rfl := sinj h1
                  obtain rfl := sinj h0
                  exact TE_ret env rfl tv ⟨.inr rfl, tv⟩
              · replace h1 := bif_f h1 hb
                refine TC_reg ?_
                refine TL_ev env 4 rfl ⟨tv, ⟨tv, ⟨tv, ⟨⟨tv, tv⟩, tv⟩⟩⟩⟩ ?_
                refine TL_end ?_
                obtain rfl := sinj h1
                refine tsn ?_
                exact SP_ren [(16801, 1003)] _ rfl ⟨rfl, tv⟩ ⟨rfl, rfl, tv⟩ rfl
          · rintro x177 hz
            obtain rfl := hz.symm
            refine tbn ?_
            refine TE_go ?_
            refine TC_seq ?_
            refine TC_reg ?_
            refine TL_ev env 3 rfl ⟨⟨tv, tv⟩, ⟨⟨tv, tv⟩, ⟨tv, tv⟩⟩⟩ ?_
            refine TL_end ?_
            refine TE_go ?_
            refine TC_ret ?_
            refine TE_frz 1067 rfl ?_
            obtain rfl := sinj h0
            exact TE_ret env rfl tv ⟨.inr rfl, tv⟩
theorem score_reader_steps.ok0 {K : Nat} {p0 : Bool}  (h0 : score_reader_steps K p0 = some (.inl ())) : Fn Tryd.prog 17 [.p 0 0] [(0, some (.cells [.nils, .bool p0]))] (.nils) [(0, some (.cells [.nils, .bool true]))] := score_reader_steps.ok h0
theorem score_reader_steps.ok1 {K : Nat} {p0 : Bool} {q0 : List ((Int × (Int × (List (Int) × (List (Int) × (List (Int) × List ((Int × (Int × (Int × Int))))))))))} {q1 : Bool} (h0 : score_reader_steps K p0 = some (.inr (q0, q1))) : Fn Tryd.prog 17 [.p 0 0] [(0, some (.cells [.nils, .bool p0]))] (.im (.slice (.pair (.int .i64) (.pair (.int .i64) (.pair (.slice (.int .i16)) (.pair (.slice (.int .u8)) (.pair (.slice (.int .u8)) (.slice (.pair (.int .i64) (.pair (.int .i64) (.pair (.int .i64) (.int .u32))))))))))) q0) [(0, some (.cells [.nils, .bool q1]))] := score_reader_steps.ok h0
theorem score_reader_steps.fnb : fnb Tryd.prog 17 = true := fnb_of Tryd.func17 rfl
def score_reader_word_2.res (_p0 : List (ByteArray)) (_p1 : Bool) : ByteArray × (List (ByteArray)) × Bool → MV
  | (q0, _, _) => .str q0
def score_reader_word_2.out (_p0 : List (ByteArray)) (_p1 : Bool) : ByteArray × (List (ByteArray)) × Bool → List (Nat × Option MObj)
  | (_, q1, q2) => [(0, some (.cells [.im (.slice (.str)) q1, .bool q2]))]
theorem score_reader_word_2.ok {K : Nat} {p0 : List (ByteArray)} {p1 : Bool} {r : ByteArray × (List (ByteArray)) × Bool} (h0 : score_reader_word_2 K p0 p1 = some r) : Fn Tryd.prog 29 [.p 0 0] [(0, some (.cells [.im (.slice (.str)) p0, .bool p1]))] (score_reader_word_2.res p0 p1 r) (score_reader_word_2.out p0 p1 r) := by
  refine Fn_of Tryd.func29 rfl (Nat.le_of_ble_eq_true rfl) fun Γ => ?_
  refine TC_seq ?_
  refine TC_reg ?_
  refine TL_ev env 1 rfl ⟨tv, tv⟩ ?_
  refine TL_end ?_
  refine TE_go ?_
  refine TC_seq ?_
  refine TC_seq ?_
  refine TC_reg ?_
  refine TL_ev env 6 rfl ⟨tv, ⟨tv, ⟨tv, ⟨⟨tv, tv⟩, ⟨⟨tv, tv⟩, ⟨⟨tv, ⟨tv, tv⟩⟩, tv⟩⟩⟩⟩⟩⟩ ?_
  refine TL_end ?_
  refine TE_go ?_
  refine TC_cond rfl (fun hb => ?_) (fun hb => ?_)
  · replace h0 := bif_t h0 hb
    refine TC_seq ?_
    refine TC_reg ?_
    refine TL_ev env 4 rfl ⟨tv, ⟨tv, ⟨tv, ⟨⟨tv, tv⟩, tv⟩⟩⟩⟩ ?_
    refine TL_end ?_
    refine TE_go ?_
    refine TC_seq ?_
    refine TC_reg ?_
    refine TL_ev env 1 rfl ⟨tv, tv⟩ ?_
    refine TL_end ?_
    refine TE_go ?_
    refine TC_ret ?_
    refine tsr ?_
    obtain rfl := sinj h0
    exact TE_ret env rfl tv ⟨.inr rfl, tv⟩
  · replace h0 := bif_f h0 hb
    refine TC_skip ?_
    refine TE_go ?_
    refine TC_seq ?_
    refine TC_reg ?_
    obtain ⟨g, h0⟩ := gd_t h0
    refine TL_ev env 7 rfl ⟨tv, ⟨tv, ⟨tv, ⟨⟨tv, tv⟩, ⟨⟨tv, ⟨tv, ⟨(by decide), g⟩⟩⟩, ⟨⟨tv, tv⟩, ⟨tv, tv⟩⟩⟩⟩⟩⟩⟩ ?_
    refine TL_end ?_
    refine TE_go ?_
    refine TC_seq ?_
    refine TC_reg ?_
    obtain ⟨g, h0⟩ := gd_t h0
    refine TL_ev env 9 rfl ⟨tv, ⟨tv, ⟨tv, ⟨tv, ⟨⟨tv, tv⟩, ⟨⟨tv, ⟨tv, ⟨tv, ⟨(by decide), ⟨g.1, g.2⟩⟩⟩⟩⟩, ⟨tv, ⟨tv, ⟨⟨tv, tv⟩, tv⟩⟩⟩⟩⟩⟩⟩⟩⟩ ?_
    refine TL_end ?_
    refine TE_go ?_
    refine TC_seq ?_
    refine TC_reg ?_
    refine TL_ev env 2 rfl ⟨tv, ⟨tv, tv⟩⟩ ?_
    refine TL_end ?_
    refine TE_go ?_
    refine TC_ret ?_
    obtain rfl := sinj h0
    exact TE_ret env rfl tv ⟨.inr rfl, tv⟩
theorem score_reader_word_2.ok0 {K : Nat} {p0 : List (ByteArray)} {p1 : Bool} {q0 : ByteArray} {q1 : List (ByteArray)} {q2 : Bool} (h0 : score_reader_word_2 K p0 p1 = some (q0, q1, q2)) : Fn Tryd.prog 29 [.p 0 0] [(0, some (.cells [.im (.slice (.str)) p0, .bool p1]))] (.str q0) [(0, some (.cells [.im (.slice (.str)) q1, .bool q2]))] := score_reader_word_2.ok h0
theorem score_reader_word_2.fnb : fnb Tryd.prog 29 = true := fnb_of Tryd.func29 rfl
def internal_stringslite_HasPrefix.res (_p0 : ByteArray) (_p1 : ByteArray) : Bool → MV
  | q0 => .bool q0
def internal_stringslite_HasPrefix.out (_p0 : ByteArray) (_p1 : ByteArray) : Bool → List (Nat × Option MObj)
  | _ => []
theorem internal_stringslite_HasPrefix.ok {K : Nat} {p0 : ByteArray} {p1 : ByteArray} {r : Bool} (h0 : internal_stringslite_HasPrefix K p0 p1 = some r) : Fn Tryd.prog 89 [.str p0, .str p1] [] (internal_stringslite_HasPrefix.res p0 p1 r) (internal_stringslite_HasPrefix.out p0 p1 r) := by
  refine Fn_of Tryd.func89 rfl (Nat.le_of_ble_eq_true rfl) fun Γ => ?_
  refine TC_seq ?_
  refine TC_reg ?_
  refine TL_ev env 1 rfl ⟨tv, tv⟩ ?_
  refine TL_end ?_
  refine TE_go ?_
  refine TC_seq ?_
  refine TC_reg ?_
  obtain ⟨g, h0⟩ := gd_t h0
  refine TL_ev env 14 rfl ⟨tv, ⟨⟨tv, tv⟩, ⟨tv, ⟨⟨tv, tv⟩, ⟨⟨tv, ⟨tv, tv⟩⟩, ⟨tv, ⟨fun eg => tv, ⟨fun eg => tv, ⟨fun eg => ⟨fun e => e, tv⟩, ⟨fun eg => ⟨fun e => e, ⟨tv, ⟨fun e => e, ⟨(by decide), ⟨(g.1 eg), (g.2 eg)⟩⟩⟩⟩⟩, ⟨fun eg => tv, ⟨fun eg => ⟨fun e => e, ⟨fun e => e, tv⟩⟩, ⟨⟨tv, ⟨fun e => e, tv⟩⟩, ⟨tv, tv⟩⟩⟩⟩⟩⟩⟩⟩⟩⟩⟩⟩⟩⟩ ?_
  refine TL_end ?_
  refine TE_go ?_
  refine TC_ret ?_
  obtain rfl := sinj h0
  exact TE_ret env rfl tv tv
theorem internal_stringslite_HasPrefix.ok0 {K : Nat} {p0 : ByteArray} {p1 : ByteArray} {q0 : Bool} (h0 : internal_stringslite_HasPrefix K p0 p1 = some q0) : Fn Tryd.prog 89 [.str p0, .str p1] [] (.bool q0) [] := internal_stringslite_HasPrefix.ok h0
theorem internal_stringslite_HasPrefix.fnb : fnb Tryd.prog 89 = true := fnb_of Tryd.func89 rfl
def internal_stringslite_CutPrefix.res (_p0 : ByteArray) (_p1 : ByteArray) : ByteArray × Bool → MV
  | (q0, q1) => .tup [.str q0, .bool q1]
def internal_stringslite_CutPrefix.out (_p0 : ByteArray) (_p1 : ByteArray) : ByteArray × Bool → List (Nat × Option MObj)
  | (_, _) => []
theorem internal_stringslite_CutPrefix.ok {K : Nat} {p0 : ByteArray} {p1 : ByteArray} {r : ByteArray × Bool} (h0 : internal_stringslite_CutPrefix K p0 p1 = some r) : Fn Tryd.prog 76 [.str p0, .str p1] [] (internal_stringslite_CutPrefix.res p0 p1 r) (internal_stringslite_CutPrefix.out p0 p1 r) := by
  refine Fn_of Tryd.func76 rfl (Nat.le_of_ble_eq_true rfl) fun Γ => ?_
  refine TC_seq ?_
  refine TC_reg ?_
  refine TL_ev env 2 rfl ⟨tv, ⟨tv, tv⟩⟩ ?_
  refine TL_end ?_
  refine TE_go ?_
  refine TC_seq ?_
  refine TC_seq ?_
  refine TC_reg ?_
  refine TL_ev env 2 rfl ⟨tv, ⟨tv, tv⟩⟩ ?_
  obtain ⟨r2, hr, h0⟩ := bnd h0
  refine TL_callB [] (internal_stringslite_HasPrefix.ok0 hr) internal_stringslite_HasPrefix.fnb rfl ⟨tv, ⟨tv, ⟨tv, tv⟩⟩⟩ rfl tv rfl ?_
  refine TL_ev env 1 rfl ⟨tv, tv⟩ ?_
  refine TL_end ?_
  refine TE_go ?_
  refine TC_cond rfl (fun hb => ?_) (fun hb => ?_)
  · replace h0 := bif_t h0 hb
    refine TC_seq ?_
    refine TC_reg ?_
    refine TL_ev env 3 rfl ⟨tv, ⟨tv, ⟨tv, tv⟩⟩⟩ ?_
    refine TL_end ?_
    refine TE_go ?_
    refine TC_ret ?_
    refine tsr ?_
    obtain rfl := sinj h0
    exact TE_ret env rfl tv tv
  · replace h0 := bif_f h0 hb
    refine TC_skip ?_
    refine TE_go ?_
    refine TC_seq ?_
    refine TC_reg ?_
    obtain ⟨g, h0⟩ := gd_t h0
    refine TL_ev env 6 rfl ⟨tv, ⟨tv, ⟨⟨tv, tv⟩, ⟨⟨tv, ⟨tv, ⟨tv, ⟨g.1, ⟨g.2.1, g.2.2⟩⟩⟩⟩⟩, ⟨tv, ⟨tv, tv⟩⟩⟩⟩⟩⟩ ?_
    refine TL_end ?_
    refine TE_go ?_
    refine TC_ret ?_
    obtain rfl := sinj h0
    exact TE_ret env rfl tv tv
theorem internal_stringslite_CutPrefix.ok0 {K : Nat} {p0 : ByteArray} {p1 : ByteArray} {q0 : ByteArray} {q1 : Bool} (h0 : internal_stringslite_CutPrefix K p0 p1 = some (q0, q1)) : Fn Tryd.prog 76 [.str p0, .str p1] [] (.tup [.str q0, .bool q1]) [] := internal_stringslite_CutPrefix.ok h0
theorem internal_stringslite_CutPrefix.fnb : fnb Tryd.prog 76 = true := fnb_of Tryd.func76 rfl
def strings_CutPrefix.res (_p0 : ByteArray) (_p1 : ByteArray) : ByteArray × Bool → MV
  | (q0, q1) => .tup [.str q0, .bool q1]
def strings_CutPrefix.out (_p0 : ByteArray) (_p1 : ByteArray) : ByteArray × Bool → List (Nat × Option MObj)
  | (_, _) => []
theorem strings_CutPrefix.ok {K : Nat} {p0 : ByteArray} {p1 : ByteArray} {r : ByteArray × Bool} (h0 : strings_CutPrefix K p0 p1 = some r) : Fn Tryd.prog 54 [.str p0, .str p1] [] (strings_CutPrefix.res p0 p1 r) (strings_CutPrefix.out p0 p1 r) := by
  refine Fn_of Tryd.func54 rfl (Nat.le_of_ble_eq_true rfl) fun Γ => ?_
  refine TC_seq ?_
  refine TC_reg ?_
  refine TL_ev env 2 rfl ⟨tv, ⟨tv, tv⟩⟩ ?_
  refine TL_end ?_
  refine TE_go ?_
  refine TC_seq ?_
  refine TC_reg ?_
  refine TL_ev env 2 rfl ⟨tv, ⟨tv, tv⟩⟩ ?_
  obtain ⟨⟨r3, r4⟩, hr, h0⟩ := bnd h0
  refine TL_callB [] (internal_stringslite_CutPrefix.ok0 hr) internal_stringslite_CutPrefix.fnb rfl ⟨tv, ⟨tv, ⟨tv, tv⟩⟩⟩ rfl tv rfl ?_
  refine TL_ev env 4 rfl ⟨tv, ⟨tv, ⟨tv, ⟨tv, tv⟩⟩⟩⟩ ?_
  refine TL_end ?_
  refine TE_go ?_
  refine TC_ret ?_
  obtain rfl := sinj h0
  exact TE_ret env rfl tv tv
theorem strings_CutPrefix.ok0 {K : Nat} {p0 : ByteArray} {p1 : ByteArray} {q0 : ByteArray} {q1 : Bool} (h0 : strings_CutPrefix K p0 p1 = some (q0, q1)) : Fn Tryd.prog 54 [.str p0, .str p1] [] (.tup [.str q0, .bool q1]) [] := strings_CutPrefix.ok h0
theorem strings_CutPrefix.fnb : fnb Tryd.prog 54 = true := fnb_of Tryd.func54 rfl
def score_reader_value_2.res (_p0 : ByteArray) (_p1 : Int) (_p2 : List (ByteArray)) (_p3 : Bool) : Int × Bool → MV
  | (q0, _) => .int .i64 q0
def score_reader_value_2.out (_p0 : ByteArray) (_p1 : Int) (p2 : List (ByteArray)) (_p3 : Bool) : Int × Bool → List (Nat × Option MObj)
  | (_, q1) => [(0, some (.cells [.im (.slice (.str)) p2, .bool q1]))]
theorem score_reader_value_2.ok {K : Nat} {p0 : ByteArray} {p1 : Int} {p2 : List (ByteArray)} {p3 : Bool} {r : Int × Bool} (h0 : score_reader_value_2 K p0 p1 p2 p3 = some r) : Fn Tryd.prog 55 [.p 0 0, .str p0, .int .i64 p1] [(0, some (.cells [.im (.slice (.str)) p2, .bool p3]))] (score_reader_value_2.res p0 p1 p2 p3 r) (score_reader_value_2.out p0 p1 p2 p3 r) := by
  refine Fn_of Tryd.func55 rfl (Nat.le_of_ble_eq_true rfl) fun Γ => ?_
  refine TC_seq ?_
  refine TC_reg ?_
  refine TL_ev env 1 rfl ⟨tv, tv⟩ ?_
  refine TL_end ?_
  refine TE_go ?_
  refine TC_seq ?_
  refine TC_reg ?_
  refine TL_ev env 1 rfl ⟨tv, tv⟩ ?_
  refine TL_end ?_
  refine TE_go ?_
  refine TC_seq ?_
  refine TC_seq ?_
  refine TC_reg ?_
  refine TL_ev env 3 rfl ⟨tv, ⟨⟨tv, tv⟩, ⟨tv, tv⟩⟩⟩ ?_
  refine TL_end ?_
  refine TE_go ?_
  obtain ⟨z1, h1, h0⟩ := bnd h0
  refine TC_cut (α := Int) (fun s => z1 = .inl s) (fun s => [(0, .p 0 0), (1, .str p0), (2, .int .i64 p1), (7, .int .i64 s)]) (fun s => [(0, some (.cells [.im (.slice (.str)) p2, .bool p3]))]) ?_ ?_
  · refine TC_blk ?_
    refine TC_loop (α := Int × Int) (fun n s => score_reader_value_2.l0 K p0 p1 (p0.size : Int) p2 p3 n s.1 s.2 = some z1) (fun s => [(0, .p 0 0), (1, .str p0), (2, .int .i64 p1), (7, .int .i64 s.1), (10, .int .i64 (p0.size : Int)), (11, .int .i64 s.2)]) (fun s => [(0, some (.cells [.im (.slice (.str)) p2, .bool p3]))]) K ?_ ?_
    · exact SP_ren [] (_, _) h1 ⟨rfl, rfl, rfl, rfl, rfl, rfl, tv⟩ ⟨rfl, tv⟩ rfl
    rintro n ⟨x22, x23⟩ h1
    rcases n with _ | n
    · exact (nsome h1).elim
    replace h1 : score_reader_value_2.r0 K p0 p1 (p0.size : Int) p2 p3 (score_reader_value_2.l0 K p0 p1 (p0.size : Int) p2 p3 n) x22 x23 = some z1 := h1
    refine TC_seq ?_
    refine TC_reg ?_
    refine TL_ev env 1 rfl ⟨⟨tv, ⟨tv, tv⟩⟩, tv⟩ ?_
    refine TL_end ?_
    refine TE_go ?_
    refine TC_seq ?_
    refine TC_cond rfl (fun hb => ?_) (fun hb => ?_)
    · replace h1 := bif_t h1 hb
      refine TC_skip ?_
      refine TE_go ?_
      refine TC_seq ?_
      obtain ⟨z2, h2, h1⟩ := bnd h1
      refine TC_cut (α := Int) (fun s => z2 = .inl s) (fun s => [(0, .p 0 0), (1, .str p0), (2, .int .i64 p1), (7, .int .i64 s), (10, .int .i64 (p0.size : Int)), (11, .int .i64 x23)]) (fun s => [(0, some (.cells [.im (.slice (.str)) p2, .bool p3]))]) ?_ ?_
      · refine TC_blk ?_
        refine TC_seq ?_
        refine TC_reg ?_
        refine TL_ev env 2 rfl ⟨tv, ⟨tv, tv⟩⟩ ?_
        refine TL_end ?_
        refine TE_go ?_
        refine TC_seq ?_
        refine TC_seq ?_
        refine TC_reg ?_
        obtain ⟨g, h2⟩ := gd_t h2
        refine TL_ev env 10 rfl ⟨tv, ⟨tv, ⟨⟨tv, ⟨tv, ⟨g.1, g.2.1⟩⟩⟩, ⟨⟨tv, ⟨tv, tv⟩⟩, ⟨tv, ⟨fun eg => tv, ⟨fun eg => tv, ⟨fun eg => ⟨fun e => e, ⟨fun e => e, ⟨(g.2.2.1 eg), (g.2.2.2 eg)⟩⟩⟩, ⟨fun eg => ⟨fun e => e, ⟨tv, tv⟩⟩, ⟨⟨tv, ⟨tv, fun e => e⟩⟩, tv⟩⟩⟩⟩⟩⟩⟩⟩⟩⟩ ?_
        refine TL_end ?_
        refine TE_go ?_
        refine TC_cond rfl (fun hb => ?_) (fun hb => ?_)
        · replace h2 := bif_t h2 hb
          refine TC_seq ?_
          refine TC_reg ?_
          refine TL_ev env 4 rfl ⟨tv, ⟨tv, ⟨tv, ⟨⟨tv, tv⟩, tv⟩⟩⟩⟩ ?_
          refine TL_end ?_
          refine TE_go ?_
          refine TC_seq ?_
          refine TC_reg ?_
          refine TL_ev env 1 rfl ⟨tv, tv⟩ ?_
          refine TL_end ?_
          refine TE_go ?_
          refine TC_ret ?_
          refine tsr ?_
          refine tbr ?_
          refine tsr ?_
          refine tsr ?_
          refine tsr ?_
          refine tbr ?_
          refine tsr ?_
          refine tsr ?_
          obtain rfl := sinj h2
          obtain rfl := sinj h1
          obtain rfl := sinj h0
          exact TE_ret env rfl tv ⟨.inr rfl, tv⟩
        · replace h2 := bif_f h2 hb
          refine TC_skip ?_
          refine TE_go ?_
          refine TC_seq ?_
          refine TC_reg ?_
          refine TL_ev env 2 rfl ⟨tv, ⟨⟨tv, ⟨tv, tv⟩⟩, tv⟩⟩ ?_
          refine TL_end ?_
          refine TE_go ?_
          refine TC_cond rfl (fun hb => ?_) (fun hb => ?_)
          · replace h2 := bif_t h2 hb
            refine TC_reg ?_
            obtain ⟨g, h2⟩ := gd_t h2
            refine TL_ev env 9 rfl ⟨tv, ⟨⟨tv, ⟨tv, tv⟩⟩, ⟨tv, ⟨tv, ⟨⟨tv, ⟨tv, ⟨g.1, g.2⟩⟩⟩, ⟨⟨tv, ⟨tv, tv⟩⟩, ⟨tv, ⟨⟨tv, ⟨tv, tv⟩⟩, ⟨tv, tv⟩⟩⟩⟩⟩⟩⟩⟩⟩ ?_
            refine TL_end ?_
            refine tbn ?_
            obtain rfl := sinj h2
            refine tsn ?_
            exact SP_ren [] _ rfl ⟨rfl, rfl, rfl, rfl, rfl, rfl, tv⟩ ⟨rfl, tv⟩ rfl
          · replace h2 := bif_f h2 hb
            refine TC_skip ?_
            refine tbn ?_
            obtain rfl := sinj h2
            refine tsn ?_
            exact SP_ren [] _ rfl ⟨rfl, rfl, rfl, rfl, rfl, rfl, tv⟩ ⟨rfl, tv⟩ rfl
      · rintro x28 hz
        obtain rfl := hz.symm
        refine TE_go ?_
        refine TC_reg ?_
        refine TL_ev env 2 rfl ⟨⟨tv, ⟨tv, tv⟩⟩, ⟨tv, tv⟩⟩ ?_
        refine TL_end ?_
        refine tsn ?_
        exact TE_nextr [] n (Nat.lt_succ_self n) (_, _) h1 ⟨rfl, rfl, rfl, rfl, rfl, rfl, tv⟩ ⟨rfl, tv⟩ rfl
    · replace h1 := bif_f h1 hb
      refine TC_exit ?_
      refine tsx ?_
      refine tsx ?_
      refine tbe ?_
      obtain rfl := sinj h1
      refine tsn ?_
      exact SP_ren [] _ rfl ⟨rfl, rfl, rfl, rfl, tv⟩ ⟨rfl, tv⟩ rfl
  · rintro x12 hz
    obtain rfl := hz.symm
    refine TE_go ?_
    refine TC_seq ?_
    refine TC_seq ?_
    refine TC_reg ?_
    obtain ⟨g, h0⟩ := gd_t h0
    refine TL_ev env 22 rfl ⟨tv, ⟨⟨tv, ⟨tv, tv⟩⟩, ⟨tv, ⟨fun eg => tv, ⟨fun eg => ⟨fun e => e, tv⟩, ⟨fun eg => ⟨fun e => e, ⟨tv, tv⟩⟩, ⟨⟨tv, ⟨tv, fun e => e⟩⟩, ⟨tv, ⟨fun eg => tv, ⟨fun eg => ⟨fun e => e, tv⟩, ⟨fun eg => ⟨fun e => e, ⟨tv, tv⟩⟩, ⟨fun eg => fun e => e, ⟨fun eg => tv, ⟨fun eg => ⟨fun e => e, ⟨tv, ⟨(by decide), (g eg)⟩⟩⟩, ⟨fun eg => ⟨fun e => e, ⟨tv, tv⟩⟩, ⟨fun eg => ⟨fun e => e, ⟨((by decide : ∀ b0 b1 b2 : Bool, (!(bif b1 then true else b2)) = true → b0 = true → ((!(bif b1 then true else b2)) && b0) = true) _ _ _ eg), tv⟩⟩, ⟨⟨tv, ⟨tv, fun e => e⟩⟩, ⟨tv, ⟨fun eg => tv, ⟨fun eg => tv, ⟨fun eg => ⟨fun e => e, ⟨fun e => e, tv⟩⟩, ⟨⟨tv, ⟨tv, fun e => e⟩⟩, tv⟩⟩⟩⟩⟩⟩⟩⟩⟩⟩⟩⟩⟩⟩⟩⟩⟩⟩⟩⟩⟩⟩ ?_
    refine TL_end ?_
    refine TE_go ?_
    refine TC_cond rfl (fun hb => ?_) (fun hb => ?_)
    · replace h0 := bif_t h0 hb
      refine TC_seq ?_
      refine TC_reg ?_
      refine TL_ev env 4 rfl ⟨tv, ⟨tv, ⟨tv, ⟨⟨tv, tv⟩, tv⟩⟩⟩⟩ ?_
      refine TL_end ?_
      refine TE_go ?_
      refine TC_seq ?_
      refine TC_reg ?_
      refine TL_ev env 1 rfl ⟨tv, tv⟩ ?_
      refine TL_end ?_
      refine TE_go ?_
      refine TC_ret ?_
      refine tsr ?_
      obtain rfl := sinj h0
      exact TE_ret env rfl tv ⟨.inr rfl, tv⟩
    · replace h0 := bif_f h0 hb
      refine TC_skip ?_
      refine TE_go ?_
      refine TC_seq ?_
      refine TC_reg ?_
      refine TL_ev env 2 rfl ⟨tv, ⟨tv, tv⟩⟩ ?_
      refine TL_end ?_
      refine TE_go ?_
      refine TC_ret ?_
      obtain rfl := sinj h0
      exact TE_ret env rfl tv ⟨.inr rfl, tv⟩
theorem score_reader_value_2.ok0 {K : Nat} {p0 : ByteArray} {p1 : Int} {p2 : List (ByteArray)} {p3 : Bool} {q0 : Int} {q1 : Bool} (h0 : score_reader_value_2 K p0 p1 p2 p3 = some (q0, q1)) : Fn Tryd.prog 55 [.p 0 0, .str p0, .int .i64 p1] [(0, some (.cells [.im (.slice (.str)) p2, .bool p3]))] (.int .i64 q0) [(0, some (.cells [.im (.slice (.str)) p2, .bool q1]))] := score_reader_value_2.ok h0
theorem score_reader_value_2.fnb : fnb Tryd.prog 55 = true := fnb_of Tryd.func55 rfl
def score_reader_sample.res (_p0 : List (ByteArray)) (_p1 : Bool) : Int × (List (ByteArray)) × Bool → MV
  | (q0, _, _) => .int .i16 q0
def score_reader_sample.out (_p0 : List (ByteArray)) (_p1 : Bool) : Int × (List (ByteArray)) × Bool → List (Nat × Option MObj)
  | (_, q1, q2) => [(0, some (.cells [.im (.slice (.str)) q1, .bool q2]))]
theorem score_reader_sample.ok {K : Nat} {p0 : List (ByteArray)} {p1 : Bool} {r : Int × (List (ByteArray)) × Bool} (h0 : score_reader_sample K p0 p1 = some r) : Fn Tryd.prog 30 [.p 0 0] [(0, some (.cells [.im (.slice (.str)) p0, .bool p1]))] (score_reader_sample.res p0 p1 r) (score_reader_sample.out p0 p1 r) := by
  refine Fn_of Tryd.func30 rfl (Nat.le_of_ble_eq_true rfl) fun Γ => ?_
  refine TC_seq ?_
  refine TC_reg ?_
  refine TL_ev env 1 rfl ⟨tv, tv⟩ ?_
  refine TL_end ?_
  refine TE_go ?_
  refine TC_seq ?_
  refine TC_reg ?_
  refine TL_ev env 1 rfl ⟨tv, tv⟩ ?_
  obtain ⟨⟨r12, r13, r14⟩, hr, h0⟩ := bnd h0
  refine TL_callB [(0, 0)] (score_reader_word_2.ok0 hr) score_reader_word_2.fnb rfl ⟨tv, ⟨tv, tv⟩⟩ rfl ⟨.inr rfl, tv⟩ rfl ?_
  obtain ⟨⟨r15, r16⟩, hr, h0⟩ := bnd h0
  refine TL_callB [] (strings_CutPrefix.ok0 hr) strings_CutPrefix.fnb rfl ⟨tv, ⟨tv, ⟨tv, tv⟩⟩⟩ rfl tv rfl ?_
  refine TL_ev env 5 rfl ⟨tv, ⟨tv, ⟨tv, ⟨tv, ⟨tv, tv⟩⟩⟩⟩⟩ ?_
  refine TL_end ?_
  refine TE_go ?_
  refine TC_seq ?_
  refine TC_seq ?_
  refine TC_reg ?_
  refine TL_ev env 1 rfl ⟨tv, tv⟩ ?_
  refine TL_end ?_
  refine TE_go ?_
  refine TC_cond rfl (fun hb => ?_) (fun hb => ?_)
  · replace h0 := bif_t h0 hb
    refine TC_seq ?_
    refine TC_reg ?_
    refine TL_ev env 2 rfl ⟨tv, ⟨tv, tv⟩⟩ ?_
    obtain ⟨⟨r19, r20⟩, hr, h0⟩ := bnd h0
    refine TL_callB [(0, 0)] (score_reader_value_2.ok0 hr) score_reader_value_2.fnb rfl ⟨tv, ⟨tv, ⟨tv, ⟨tv, tv⟩⟩⟩⟩ rfl ⟨.inr rfl, tv⟩ rfl ?_
    refine TL_ev env 3 rfl ⟨tv, ⟨tv, ⟨tv, tv⟩⟩⟩ ?_
    refine TL_end ?_
    refine TE_go ?_
    refine TC_ret ?_
    refine tsr ?_
    obtain rfl := sinj h0
    exact TE_ret env rfl tv ⟨.inr rfl, tv⟩
  · replace h0 := bif_f h0 hb
    refine TC_skip ?_
    refine TE_go ?_
    refine TC_seq ?_
    refine TC_reg ?_
    refine TL_ev env 2 rfl ⟨tv, ⟨tv, tv⟩⟩ ?_
    obtain ⟨⟨r22, r23⟩, hr, h0⟩ := bnd h0
    refine TL_callB [(0, 0)] (score_reader_value_2.ok0 hr) score_reader_value_2.fnb rfl ⟨tv, ⟨tv, ⟨tv, ⟨tv, tv⟩⟩⟩⟩ rfl ⟨.inr rfl, tv⟩ rfl ?_
    refine TL_ev env 2 rfl ⟨tv, ⟨tv, tv⟩⟩ ?_
    refine TL_end ?_
    refine TE_go ?_
    refine TC_ret ?_
    obtain rfl := sinj h0
    exact TE_ret env rfl tv ⟨.inr rfl, tv⟩
theorem score_reader_sample.ok0 {K : Nat} {p0 : List (ByteArray)} {p1 : Bool} {q0 : Int} {q1 : List (ByteArray)} {q2 : Bool} (h0 : score_reader_sample K p0 p1 = some (q0, q1, q2)) : Fn Tryd.prog 30 [.p 0 0] [(0, some (.cells [.im (.slice (.str)) p0, .bool p1]))] (.int .i16 q0) [(0, some (.cells [.im (.slice (.str)) q1, .bool q2]))] := score_reader_sample.ok h0
theorem score_reader_sample.fnb : fnb Tryd.prog 30 = true := fnb_of Tryd.func30 rfl
def score_reader_number_2.res (_p0 : Int) (_p1 : List (ByteArray)) (_p2 : Bool) : Int × (List (ByteArray)) × Bool → MV
  | (q0, _, _) => .int .i64 q0
def score_reader_number_2.out (_p0 : Int) (_p1 : List (ByteArray)) (_p2 : Bool) : Int × (List (ByteArray)) × Bool → List (Nat × Option MObj)
  | (_, q1, q2) => [(0, some (.cells [.im (.slice (.str)) q1, .bool q2]))]
theorem score_reader_number_2.ok {K : Nat} {p0 : Int} {p1 : List (ByteArray)} {p2 : Bool} {r : Int × (List (ByteArray)) × Bool} (h0 : score_reader_number_2 K p0 p1 p2 = some r) : Fn Tryd.prog 32 [.p 0 0, .int .i64 p0] [(0, some (.cells [.im (.slice (.str)) p1, .bool p2]))] (score_reader_number_2.res p0 p1 p2 r) (score_reader_number_2.out p0 p1 p2 r) := by
  refine Fn_of Tryd.func32 rfl (Nat.le_of_ble_eq_true rfl) fun Γ => ?_
  refine TC_seq ?_
  refine TC_reg ?_
  refine TL_ev env 1 rfl ⟨tv, tv⟩ ?_
  refine TL_end ?_
  refine TE_go ?_
  refine TC_seq ?_
  refine TC_reg ?_
  refine TL_ev env 2 rfl ⟨tv, ⟨tv, tv⟩⟩ ?_
  obtain ⟨⟨r6, r7, r8⟩, hr, h0⟩ := bnd h0
  refine TL_callB [(0, 0)] (score_reader_word_2.ok0 hr) score_reader_word_2.fnb rfl ⟨tv, ⟨tv, tv⟩⟩ rfl ⟨.inr rfl, tv⟩ rfl ?_
  refine TL_ev env 1 rfl ⟨tv, tv⟩ ?_
  obtain ⟨⟨r9, r10⟩, hr, h0⟩ := bnd h0
  refine TL_callB [(0, 0)] (score_reader_value_2.ok0 hr) score_reader_value_2.fnb rfl ⟨tv, ⟨tv, ⟨tv, ⟨tv, tv⟩⟩⟩⟩ rfl ⟨.inr rfl, tv⟩ rfl ?_
  refine TL_ev env 1 rfl ⟨tv, tv⟩ ?_
  refine TL_end ?_
  refine TE_go ?_
  refine TC_ret ?_
  obtain rfl := sinj h0
  exact TE_ret env rfl tv ⟨.inr rfl, tv⟩
theorem score_reader_number_2.ok0 {K : Nat} {p0 : Int} {p1 : List (ByteArray)} {p2 : Bool} {q0 : Int} {q1 : List (ByteArray)} {q2 : Bool} (h0 : score_reader_number_2 K p0 p1 p2 = some (q0, q1, q2)) : Fn Tryd.prog 32 [.p 0 0, .int .i64 p0] [(0, some (.cells [.im (.slice (.str)) p1, .bool p2]))] (.int .i64 q0) [(0, some (.cells [.im (.slice (.str)) q1, .bool q2]))] := score_reader_number_2.ok h0
theorem score_reader_number_2.fnb : fnb Tryd.prog 32 = true := fnb_of Tryd.func32 rfl
def score_reader_tone_2.res (_p0 : List (ByteArray)) (_p1 : Bool) : ((List (ByteArray))) ⊕ ((List (Int)) × (List (ByteArray)) × Bool) → MV
  | .inl _ => .nils
  | .inr (q0, _, _) => .im (.slice (.int .i16)) q0
def score_reader_tone_2.out (_p0 : List (ByteArray)) (_p1 : Bool) : ((List (ByteArray))) ⊕ ((List (Int)) × (List (ByteArray)) × Bool) → List (Nat × Option MObj)
  | .inl q0 => [(0, some (.cells [.im (.slice (.str)) q0, .bool true]))]
  | .inr (_, q1, q2) => [(0, some (.cells [.im (.slice (.str)) q1, .bool q2]))]
theorem score_reader_tone_2.ok {K : Nat} {p0 : List (ByteArray)} {p1 : Bool} {r : ((List (ByteArray))) ⊕ ((List (Int)) × (List (ByteArray)) × Bool)} (h0 : score_reader_tone_2 K p0 p1 = some r) : Fn Tryd.prog 31 [.p 0 0] [(0, some (.cells [.im (.slice (.str)) p0, .bool p1]))] (score_reader_tone_2.res p0 p1 r) (score_reader_tone_2.out p0 p1 r) := by
  refine Fn_of Tryd.func31 rfl (Nat.le_of_ble_eq_true rfl) fun Γ => ?_
  refine TC_seq ?_
  refine TC_reg ?_
  refine TL_ev env 1 rfl ⟨tv, tv⟩ ?_
  refine TL_end ?_
  refine TE_go ?_
  refine TC_seq ?_
  refine TC_reg ?_
  refine TL_ev env 1 rfl ⟨tv, tv⟩ ?_
  obtain ⟨⟨r30, r31, r32⟩, hr, h0⟩ := bnd h0
  refine TL_callB [(0, 0)] (score_reader_number_2.ok0 hr) score_reader_number_2.fnb rfl ⟨tv, ⟨tv, ⟨tv, tv⟩⟩⟩ rfl ⟨.inr rfl, tv⟩ rfl ?_
  refine TL_ev env 1 rfl ⟨tv, tv⟩ ?_
  obtain ⟨⟨r33, r34, r35⟩, hr, h0⟩ := bnd h0
  refine TL_callB [(0, 0)] (score_reader_number_2.ok0 hr) score_reader_number_2.fnb rfl ⟨tv, ⟨tv, ⟨tv, tv⟩⟩⟩ rfl ⟨.inr rfl, tv⟩ rfl ?_
  refine TL_ev env 1 rfl ⟨tv, tv⟩ ?_
  obtain ⟨⟨r36, r37, r38⟩, hr, h0⟩ := bnd h0
  refine TL_callB [(0, 0)] (score_reader_number_2.ok0 hr) score_reader_number_2.fnb rfl ⟨tv, ⟨tv, ⟨tv, tv⟩⟩⟩ rfl ⟨.inr rfl, tv⟩ rfl ?_
  refine TL_ev env 1 rfl ⟨tv, tv⟩ ?_
  obtain ⟨⟨r39, r40, r41⟩, hr, h0⟩ := bnd h0
  refine TL_callB [(0, 0)] (score_reader_number_2.ok0 hr) score_reader_number_2.fnb rfl ⟨tv, ⟨tv, ⟨tv, tv⟩⟩⟩ rfl ⟨.inr rfl, tv⟩ rfl ?_
  refine TL_ev env 4 rfl ⟨tv, ⟨tv, ⟨tv, ⟨tv, tv⟩⟩⟩⟩ ?_
  refine TL_end ?_
  refine TE_go ?_
  refine TC_seq ?_
  refine TC_seq ?_
  refine TC_reg ?_
  refine TL_ev env 8 rfl ⟨tv, ⟨tv, ⟨tv, ⟨⟨tv, tv⟩, ⟨tv, ⟨fun eg => tv, ⟨fun eg => ⟨fun e => e, ⟨tv, tv⟩⟩, ⟨⟨tv, ⟨tv, fun e => e⟩⟩, tv⟩⟩⟩⟩⟩⟩⟩⟩ ?_
  refine TL_end ?_
  refine TE_go ?_
  refine TC_cond rfl (fun hb => ?_) (fun hb => ?_)
  · replace h0 := bif_t h0 hb
    refine TC_seq ?_
    refine TC_reg ?_
    refine TL_ev env 4 rfl ⟨tv, ⟨tv, ⟨tv, ⟨⟨tv, tv⟩, tv⟩⟩⟩⟩ ?_
    refine TL_end ?_
    refine TE_go ?_
    refine TC_seq ?_
    refine TC_reg ?_
    refine TL_ev env 1 rfl ⟨tv, tv⟩ ?_
    refine TL_end ?_
    refine TE_go ?_
    refine TC_ret ?_
    refine tsr ?_
    obtain rfl := sinj h0
    exact TE_ret env rfl tv ⟨.inr rfl, tv⟩
  · replace h0 := bif_f h0 hb
    refine TC_skip ?_
    refine TE_go ?_
    refine TC_seq ?_
    refine TC_reg ?_
    obtain ⟨g, h0⟩ := gd_t h0
    refine TL_ev env 3 rfl ⟨tv, ⟨⟨tv, ⟨tv, ⟨g.1, ⟨g.2.1, g.2.2⟩⟩⟩⟩, ⟨tv, tv⟩⟩⟩ ?_
    refine TL_end ?_
    refine TE_go ?_
    refine TC_seq ?_
    refine TC_seq ?_
    refine TC_reg ?_
    refine TL_ev env 3 rfl ⟨tv, ⟨⟨tv, tv⟩, ⟨tv, tv⟩⟩⟩ ?_
    refine TL_end ?_
    refine TE_go ?_
    obtain ⟨z1, h1, h0⟩ := bnd h0
    refine TC_cut (α := (List (Int))) (fun s => z1 = s) (fun s => [(7, .sl 10801)]) (fun s => [(0, some (.cells [.im (.slice (.str)) r40, .bool r41])), (10801, some (.rows (.int .i16) s))]) ?_ ?_
    · refine TC_blk ?_
      refine TC_loop (α := Int × (List (Int))) (fun n s => score_reader_tone_2.l0 K r30 r33 r36 ((List.replicate (Int.toNat r39) (0 : Int)).length : Int) r40 r41 n s.1 s.2 = some z1) (fun s => [(3, .int .i64 r30), (4, .int .i64 r33), (5, .int .i64 r36), (7, .sl 11001), (33, .int .i64 ((List.replicate (Int.toNat r39) (0 : Int)).length : Int)), (34, .int .i64 s.1)]) (fun s => [(0, some (.cells [.im (.slice (.str)) r40, .bool r41])), (11001, some (.rows (.int .i16) s.2))]) K ?_ ?_
      · exact SP_ren [(11001, 1031)] (_, _) h1 ⟨rfl, rfl, rfl, rfl, rfl, rfl, tv⟩ ⟨rfl, rfl, tv⟩ rfl
      rintro n ⟨x68, x69⟩ h1
      rcases n with _ | n
      · exact (nsome h1).elim
      replace h1 : score_reader_tone_2.r0 K r30 r33 r36 ((List.replicate (Int.toNat r39) (0 : Int)).length : Int) r40 r41 (score_reader_tone_2.l0 K r30 r33 r36 ((List.replicate (Int.toNat r39) (0 : Int)).length : Int) r40 r41 n) x68 x69 = some z1 := h1
      refine TC_seq ?_
      refine TC_reg ?_
      refine TL_ev env 1 rfl ⟨⟨tv, ⟨tv, tv⟩⟩, tv⟩ ?_
      refine TL_end ?_
      refine TE_go ?_
      refine TC_seq ?_
      refine TC_cond rfl (fun hb => ?_) (fun hb => ?_)
      · replace h1 := bif_t h1 hb
        refine TC_skip ?_
        refine TE_go ?_
        refine TC_seq ?_
        refine TC_blk ?_
        refine TC_seq ?_
        refine TC_reg ?_
        refine TL_ev env 2 rfl ⟨tv, ⟨tv, tv⟩⟩ ?_
        refine TL_end ?_
        refine TE_go ?_
        refine TC_seq ?_
        refine TC_reg ?_
        refine TL_ev env 4 rfl ⟨tv, ⟨tv, ⟨⟨tv, ⟨tv, tv⟩⟩, ⟨tv, tv⟩⟩⟩⟩ ?_
        obtain ⟨⟨r83, r84⟩, hr, h1⟩ := bnd h1
        refine TL_callB [] (wave_Sine.ok0 hr) wave_Sine.fnb rfl ⟨tv, ⟨tv, ⟨tv, tv⟩⟩⟩ rfl tv rfl ?_
        refine TL_ev env 5 rfl ⟨tv, ⟨tv, ⟨tv, ⟨tv, ⟨tv, tv⟩⟩⟩⟩⟩ ?_
        refine TL_end ?_
        refine TE_go ?_
        refine TC_reg ?_
        refine TL_ev env 5 rfl ⟨tv, ⟨tv, ⟨tv, ⟨tv, ⟨tv, tv⟩⟩⟩⟩⟩ ?_
        obtain ⟨r85, hr, h1⟩ := bnd h1
        refine TL_callB [] (fix_Mul15.ok0 hr) fix_Mul15.fnb rfl ⟨tv, ⟨tv, ⟨tv, tv⟩⟩⟩ rfl tv rfl ?_
        obtain ⟨g, h1⟩ := gd_t h1
        refine TL_ev env 3 rfl ⟨tv, ⟨⟨tv, ⟨tv, ⟨g.1, g.2.1⟩⟩⟩, ⟨⟨tv, ⟨tv, g.2.2⟩⟩, tv⟩⟩⟩ ?_
        refine TL_end ?_
        refine tbn ?_
        refine TE_go ?_
        refine TC_reg ?_
        refine TL_ev env 2 rfl ⟨⟨tv, ⟨tv, tv⟩⟩, ⟨tv, tv⟩⟩ ?_
        refine TL_end ?_
        refine tsn ?_
        exact TE_nextr [(11001, 11001)] n (Nat.lt_succ_self n) (_, _) h1 ⟨rfl, rfl, rfl, rfl, rfl, rfl, tv⟩ ⟨rfl, rfl, tv⟩ rfl
      · replace h1 := bif_f h1 hb
        refine TC_exit ?_
        refine tsx ?_
        refine tsx ?_
        refine tbe ?_
        obtain rfl := sinj h1
        refine tsn ?_
        exact SP_ren [(10801, 11001)] _ rfl ⟨rfl, tv⟩ ⟨rfl, rfl, tv⟩ rfl
    · rintro x61 hz
      obtain rfl := hz.symm
      refine TE_go ?_
      refine TC_seq ?_
      refine TC_reg ?_
      refine TL_ev env 2 rfl ⟨tv, ⟨tv, tv⟩⟩ ?_
      refine TL_end ?_
      refine TE_go ?_
      refine TC_ret ?_
      refine TE_frz 10801 rfl ?_
      obtain rfl := sinj h0
      exact TE_ret env rfl tv ⟨.inr rfl, tv⟩
theorem score_reader_tone_2.ok0 {K : Nat} {p0 : List (ByteArray)} {p1 : Bool} {q0 : List (ByteArray)} (h0 : score_reader_tone_2 K p0 p1 = some (.inl q0)) : Fn Tryd.prog 31 [.p 0 0] [(0, some (.cells [.im (.slice (.str)) p0, .bool p1]))] (.nils) [(0, some (.cells [.im (.slice (.str)) q0, .bool true]))] := score_reader_tone_2.ok h0
theorem score_reader_tone_2.ok1 {K : Nat} {p0 : List (ByteArray)} {p1 : Bool} {q0 : List (Int)} {q1 : List (ByteArray)} {q2 : Bool} (h0 : score_reader_tone_2 K p0 p1 = some (.inr (q0, q1, q2))) : Fn Tryd.prog 31 [.p 0 0] [(0, some (.cells [.im (.slice (.str)) p0, .bool p1]))] (.im (.slice (.int .i16)) q0) [(0, some (.cells [.im (.slice (.str)) q1, .bool q2]))] := score_reader_tone_2.ok h0
theorem score_reader_tone_2.fnb : fnb Tryd.prog 31 = true := fnb_of Tryd.func31 rfl
def score_reader_digit_2.res (_p0 : Int) (_p1 : List (ByteArray)) (_p2 : Bool) : Int × Bool → MV
  | (q0, _) => .int .u8 q0
def score_reader_digit_2.out (_p0 : Int) (p1 : List (ByteArray)) (_p2 : Bool) : Int × Bool → List (Nat × Option MObj)
  | (_, q1) => [(0, some (.cells [.im (.slice (.str)) p1, .bool q1]))]
theorem score_reader_digit_2.ok {K : Nat} {p0 : Int} {p1 : List (ByteArray)} {p2 : Bool} {r : Int × Bool} (h0 : score_reader_digit_2 K p0 p1 p2 = some r) : Fn Tryd.prog 58 [.p 0 0, .int .u8 p0] [(0, some (.cells [.im (.slice (.str)) p1, .bool p2]))] (score_reader_digit_2.res p0 p1 p2 r) (score_reader_digit_2.out p0 p1 p2 r) := by
  refine Fn_of Tryd.func58 rfl (Nat.le_of_ble_eq_true rfl) fun Γ => ?_
  refine TC_seq ?_
  refine TC_reg ?_
  refine TL_ev env 1 rfl ⟨tv, tv⟩ ?_
  refine TL_end ?_
  refine TE_go ?_
  refine TC_seq ?_
  refine TC_reg ?_
  refine TL_ev env 1 rfl ⟨tv, tv⟩ ?_
  obtain ⟨r2, hr, h0⟩ := bnd h0
  refine TL_callB [] (strings_IndexByte.ok0 hr) strings_IndexByte.fnb rfl ⟨tv, ⟨tv, ⟨tv, tv⟩⟩⟩ rfl tv rfl ?_
  refine TL_ev env 1 rfl ⟨tv, tv⟩ ?_
  refine TL_end ?_
  refine TE_go ?_
  refine TC_seq ?_
  refine TC_seq ?_
  refine TC_reg ?_
  refine TL_ev env 2 rfl ⟨tv, ⟨⟨tv, ⟨tv, tv⟩⟩, tv⟩⟩ ?_
  refine TL_end ?_
  refine TE_go ?_
  refine TC_cond rfl (fun hb => ?_) (fun hb => ?_)
  · replace h0 := bif_t h0 hb
    refine TC_seq ?_
    refine TC_reg ?_
    refine TL_ev env 4 rfl ⟨tv, ⟨tv, ⟨tv, ⟨⟨tv, tv⟩, tv⟩⟩⟩⟩ ?_
    refine TL_end ?_
    refine TE_go ?_
    refine TC_seq ?_
    refine TC_reg ?_
    refine TL_ev env 1 rfl ⟨tv, tv⟩ ?_
    refine TL_end ?_
    refine TE_go ?_
    refine TC_ret ?_
    refine tsr ?_
    obtain rfl := sinj h0
    exact TE_ret env rfl tv ⟨.inr rfl, tv⟩
  · replace h0 := bif_f h0 hb
    refine TC_skip ?_
    refine TE_go ?_
    refine TC_seq ?_
    refine TC_reg ?_
    refine TL_ev env 3 rfl ⟨tv, ⟨tv, ⟨tv, tv⟩⟩⟩ ?_
    refine TL_end ?_
    refine TE_go ?_
    refine TC_ret ?_
    obtain rfl := sinj h0
    exact TE_ret env rfl tv ⟨.inr rfl, tv⟩
theorem score_reader_digit_2.ok0 {K : Nat} {p0 : Int} {p1 : List (ByteArray)} {p2 : Bool} {q0 : Int} {q1 : Bool} (h0 : score_reader_digit_2 K p0 p1 p2 = some (q0, q1)) : Fn Tryd.prog 58 [.p 0 0, .int .u8 p0] [(0, some (.cells [.im (.slice (.str)) p1, .bool p2]))] (.int .u8 q0) [(0, some (.cells [.im (.slice (.str)) p1, .bool q1]))] := score_reader_digit_2.ok h0
theorem score_reader_digit_2.fnb : fnb Tryd.prog 58 = true := fnb_of Tryd.func58 rfl
def score_reader_bytes_2.res (_p0 : List (ByteArray)) (_p1 : Bool) : ((List (ByteArray)) × Bool) ⊕ ((List (Int)) × (List (ByteArray)) × Bool) → MV
  | .inl (_, _) => .nils
  | .inr (q0, _, _) => .im (.slice (.int .u8)) q0
def score_reader_bytes_2.out (_p0 : List (ByteArray)) (_p1 : Bool) : ((List (ByteArray)) × Bool) ⊕ ((List (Int)) × (List (ByteArray)) × Bool) → List (Nat × Option MObj)
  | .inl (q0, q1) => [(0, some (.cells [.im (.slice (.str)) q0, .bool q1]))]
  | .inr (_, q1, q2) => [(0, some (.cells [.im (.slice (.str)) q1, .bool q2]))]
theorem score_reader_bytes_2.ok {K : Nat} {p0 : List (ByteArray)} {p1 : Bool} {r : ((List (ByteArray)) × Bool) ⊕ ((List (Int)) × (List (ByteArray)) × Bool)} (h0 : score_reader_bytes_2 K p0 p1 = some r) : Fn Tryd.prog 33 [.p 0 0] [(0, some (.cells [.im (.slice (.str)) p0, .bool p1]))] (score_reader_bytes_2.res p0 p1 r) (score_reader_bytes_2.out p0 p1 r) := by
  refine Fn_of Tryd.func33 rfl (Nat.le_of_ble_eq_true rfl) fun Γ => ?_
  refine TC_seq ?_
  refine TC_reg ?_
  refine TL_ev env 1 rfl ⟨tv, tv⟩ ?_
  refine TL_end ?_
  refine TE_go ?_
  refine TC_seq ?_
  refine TC_reg ?_
  refine TL_ev env 1 rfl ⟨tv, tv⟩ ?_
  obtain ⟨⟨r28, r29, r30⟩, hr, h0⟩ := bnd h0
  refine TL_callB [(0, 0)] (score_reader_word_2.ok0 hr) score_reader_word_2.fnb rfl ⟨tv, ⟨tv, tv⟩⟩ rfl ⟨.inr rfl, tv⟩ rfl ?_
  refine TL_ev env 1 rfl ⟨tv, tv⟩ ?_
  refine TL_end ?_
  refine TE_go ?_
  refine TC_seq ?_
  refine TC_seq ?_
  refine TC_reg ?_
  refine TL_ev env 2 rfl ⟨tv, ⟨⟨tv, ⟨tv, tv⟩⟩, tv⟩⟩ ?_
  refine TL_end ?_
  refine TE_go ?_
  refine TC_cond rfl (fun hb => ?_) (fun hb => ?_)
  · replace h0 := bif_t h0 hb
    refine TC_seq ?_
    refine TC_reg ?_
    refine TL_ev env 1 rfl ⟨tv, tv⟩ ?_
    refine TL_end ?_
    refine TE_go ?_
    refine TC_ret ?_
    refine tsr ?_
    obtain rfl := sinj h0
    exact TE_ret env rfl tv ⟨.inr rfl, tv⟩
  · replace h0 := bif_f h0 hb
    refine TC_skip ?_
    refine TE_go ?_
    refine TC_seq ?_
    refine TC_seq ?_
    refine TC_reg ?_
    refine TL_ev env 8 rfl ⟨tv, ⟨⟨tv, ⟨tv, tv⟩⟩, ⟨tv, ⟨fun eg => tv, ⟨fun eg => ⟨fun e => e, tv⟩, ⟨fun eg => ⟨fun e => e, ⟨tv, (by decide)⟩⟩, ⟨fun eg => ⟨fun e => e, ⟨tv, tv⟩⟩, ⟨⟨tv, ⟨tv, fun e => e⟩⟩, tv⟩⟩⟩⟩⟩⟩⟩⟩ ?_
    refine TL_end ?_
    refine TE_go ?_
    refine TC_cond rfl (fun hb => ?_) (fun hb => ?_)
    · replace h0 := bif_t h0 hb
      refine TC_seq ?_
      refine TC_reg ?_
      refine TL_ev env 4 rfl ⟨tv, ⟨tv, ⟨tv, ⟨⟨tv, tv⟩, tv⟩⟩⟩⟩ ?_
      refine TL_end ?_
      refine TE_go ?_
      refine TC_seq ?_
      refine TC_reg ?_
      refine TL_ev env 1 rfl ⟨tv, tv⟩ ?_
      refine TL_end ?_
      refine TE_go ?_
      refine TC_ret ?_
      refine tsr ?_
      obtain rfl := sinj h0
      exact TE_ret env rfl tv ⟨.inr rfl, tv⟩
    · replace h0 := bif_f h0 hb
      refine TC_skip ?_
      refine TE_go ?_
      refine TC_seq ?_
      refine TC_reg ?_
      refine TL_ev env 1 rfl ⟨tv, tv⟩ ?_
      refine TL_end ?_
      refine TE_go ?_
      refine TC_seq ?_
      refine TC_seq ?_
      refine TC_reg ?_
      refine TL_ev env 1 rfl ⟨tv, tv⟩ ?_
      refine TL_end ?_
      refine TE_go ?_
      obtain ⟨z1, h1, h0⟩ := bnd h0
      refine TC_cut (α := Bool × (List (Int))) (fun s => z1 = s) (fun s => [(4, .sl 10801)]) (fun s => [(0, some (.cells [.im (.slice (.str)) r29, .bool s.1])), (10801, some (.rows (.int .u8) s.2))]) ?_ ?_
      · refine TC_blk ?_
        refine TC_loop (α := Int × Bool × (List (Int))) (fun n s => score_reader_bytes_2.l0 K r28 r29 n s.1 s.2.1 s.2.2 = some z1) (fun s => [(0, .p 0 0), (3, .str r28), (4, .sl 11001), (5, .int .i64 s.1)]) (fun s => [(0, some (.cells [.im (.slice (.str)) r29, .bool s.2.1])), (11001, some (.rows (.int .u8) s.2.2))]) K ?_ ?_
        · refine TE_own 4 7004 (.int .u8) rfl (by decide) rfl rfl ?_
          exact SP_ren [(11001, 7004)] (_, _, _) h1 ⟨rfl, rfl, rfl, rfl, tv⟩ ⟨rfl, rfl, tv⟩ rfl
        rintro n ⟨x67, x68, x69⟩ h1
        rcases n with _ | n
        · exact (nsome h1).elim
        replace h1 : score_reader_bytes_2.r0 K r28 r29 (score_reader_bytes_2.l0 K r28 r29 n) x67 x68 x69 = some z1 := h1
        refine TC_seq ?_
        refine TC_seq ?_
        refine TC_reg ?_
        refine TL_ev env 4 rfl ⟨tv, ⟨tv, ⟨⟨tv, tv⟩, ⟨⟨tv, ⟨tv, tv⟩⟩, tv⟩⟩⟩⟩ ?_
        refine TL_end ?_
        refine TE_go ?_
        refine TC_cond rfl (fun hb => ?_) (fun hb => ?_)
        · replace h1 := bif_t h1 hb
          refine TC_skip ?_
          refine TE_go ?_
          refine TC_seq ?_
          refine TC_blk ?_
          refine TC_renw (A' := [(0, .p 0 0), (3, .str _), (4, .sl 11001), (5, .int .i64 _)]) (L' := [(0, some (.cells [.im (.slice (.str)) _, .bool _])), (11001, some (.rows (.int .u8) _))]) [] ⟨rfl, rfl, rfl, rfl, tv⟩ ⟨rfl, rfl, tv⟩ rfl ?_
          refine TC_drawR ⟨_, fun i => ([[], [], [], [], [3, 2], [4, 3, 2, 1], [5, 4, 3, 2, 1], [], [], [], [9], [10, 9, 8], [11, 10, 9, 8, 7, 5, 4, 3, 2, 1], [12, 11, 10, 9, 8, 7, 6, 5, 4, 3, 2, 1], [13, 12, 11, 10, 9, 8, 7, 6, 5, 4, 3, 2, 1], [14, 13, 12, 11, 10, 9, 8, 7, 6, 5, 4, 3, 2, 1, 0], [15, 14, 13, 12, 11, 10, 9, 8, 7, 6, 5, 4, 3, 2, 1, 0]] : List (List Nat)).getD i [], fun i => ([[], [], [], [], [], [0], [], [], [], [], [], [], [0], [], [1041], [1042, 11001], []] : List (List Nat)).getD i [], fun i => ([[], [], [], [], [], [], [], [], [], [], [], [], [], [], [1041], [1042], []] : List (List Nat)).getD i []⟩ (fun i => ([[0, 1041], [], [], [], [], [], [0], [0], [0], [0], [0], [0], [], [], [], [], []] : List (List Nat)).getD i []) (by kernel_rfl) (by kernel_rfl) ?_
          refine AJR_ev env 1 rfl (Nat.le_of_ble_eq_true rfl) rfl tv ?_
          refine AJR_ev env 2 rfl (Nat.le_of_ble_eq_true rfl) rfl tv ?_
          refine AJR_ev env 3 rfl (Nat.le_of_ble_eq_true rfl) rfl tv ?_
          refine AJR_ev env 4 rfl (Nat.le_of_ble_eq_true rfl) rfl tv ?_
          obtain ⟨g, h1⟩ := gd_t h1
          refine AJR_ev env 5 rfl (Nat.le_of_ble_eq_true rfl) rfl ⟨tv, ⟨tv, ⟨g.1, g.2⟩⟩⟩ ?_
          obtain ⟨⟨r87, r88⟩, hr, h1⟩ := bnd h1
          refine AJR_call 6 rfl (Nat.le_of_ble_eq_true rfl) [(0, 0)] rfl (score_reader_digit_2.ok0 hr) score_reader_digit_2.fnb rfl ⟨tv, ⟨tv, ⟨tv, tv⟩⟩⟩ rfl ⟨.inr rfl, tv⟩ rfl ?_
          refine AJR_ev env 7 rfl (Nat.le_of_ble_eq_true rfl) rfl ⟨tv, ⟨tv, (by decide)⟩⟩ ?_
          refine AJR_ev env 8 rfl (Nat.le_of_ble_eq_true rfl) rfl tv ?_
          refine AJR_ev env 9 rfl (Nat.le_of_ble_eq_true rfl) rfl tv ?_
          refine AJR_ev env 10 rfl (Nat.le_of_ble_eq_true rfl) rfl tv ?_
          refine AJR_ev env 11 rfl (Nat.le_of_ble_eq_true rfl) rfl ⟨tv, ⟨tv, tv⟩⟩ ?_
          obtain ⟨g, h1⟩ := gd_t h1
          refine AJR_ev env 12 rfl (Nat.le_of_ble_eq_true rfl) rfl ⟨tv, ⟨tv, ⟨g.1, g.2⟩⟩⟩ ?_
          obtain ⟨⟨r92, r93⟩, hr, h1⟩ := bnd h1
          refine AJR_call 13 rfl (Nat.le_of_ble_eq_true rfl) [(0, 0)] rfl (score_reader_digit_2.ok0 hr) score_reader_digit_2.fnb rfl ⟨tv, ⟨tv, ⟨tv, tv⟩⟩⟩ rfl ⟨.inr rfl, tv⟩ rfl ?_
          refine AJR_ev env 14 rfl (Nat.le_of_ble_eq_true rfl) rfl ⟨tv, ⟨tv, tv⟩⟩ ?_
          refine AJR_ev env 15 rfl (Nat.le_of_ble_eq_true rfl) rfl ⟨tv, tv⟩ ?_
          obtain ⟨g, h1⟩ := gd_t h1
          refine AJR_ev env 16 rfl (Nat.le_of_ble_eq_true rfl) rfl ⟨⟨tv, ⟨tv, tv⟩⟩, g⟩ ?_
          refine AJR_ev env 17 rfl (Nat.le_of_ble_eq_true rfl) rfl tv ?_
          refine AJR_end rfl rfl rfl ?_
          refine tbn ?_
          refine TE_go ?_
          refine TC_reg ?_
          refine TL_ev env 3 rfl ⟨tv, ⟨⟨tv, ⟨tv, tv⟩⟩, ⟨tv, tv⟩⟩⟩ ?_
          refine TL_end ?_
          refine tsn ?_
          exact TE_nextr [(11001, 1042)] n (Nat.lt_succ_self n) (_, _, _) h1 ⟨rfl, rfl, rfl, rfl, tv⟩ ⟨rfl, rfl, tv⟩ rfl
        · replace h1 := bif_f h1 hb
          refine TC_exit ?_
          refine tsx ?_
          refine tsx ?_
          refine tbe ?_
          obtain rfl := sinj h1
          refine tsn ?_
          exact SP_ren [(10801, 11001)] (_, _) rfl ⟨rfl, tv⟩ ⟨rfl, rfl, tv⟩ rfl
      · rintro ⟨x57, x58⟩ rfl
        refine TE_go ?_
        refine TC_seq ?_
        refine TC_reg ?_
        refine TL_ev env 2 rfl ⟨tv, ⟨tv, tv⟩⟩ ?_
        refine TL_end ?_
        refine TE_go ?_
        refine TC_ret ?_
        refine TE_frz 10801 rfl ?_
        obtain rfl := sinj h0
        exact TE_ret env rfl tv ⟨.inr rfl, tv⟩
theorem score_reader_bytes_2.ok0 {K : Nat} {p0 : List (ByteArray)} {p1 : Bool} {q0 : List (ByteArray)} {q1 : Bool} (h0 : score_reader_bytes_2 K p0 p1 = some (.inl (q0, q1))) : Fn Tryd.prog 33 [.p 0 0] [(0, some (.cells [.im (.slice (.str)) p0, .bool p1]))] (.nils) [(0, some (.cells [.im (.slice (.str)) q0, .bool q1]))] := score_reader_bytes_2.ok h0
theorem score_reader_bytes_2.ok1 {K : Nat} {p0 : List (ByteArray)} {p1 : Bool} {q0 : List (Int)} {q1 : List (ByteArray)} {q2 : Bool} (h0 : score_reader_bytes_2 K p0 p1 = some (.inr (q0, q1, q2))) : Fn Tryd.prog 33 [.p 0 0] [(0, some (.cells [.im (.slice (.str)) p0, .bool p1]))] (.im (.slice (.int .u8)) q0) [(0, some (.cells [.im (.slice (.str)) q1, .bool q2]))] := score_reader_bytes_2.ok h0
theorem score_reader_bytes_2.fnb : fnb Tryd.prog 33 = true := fnb_of Tryd.func33 rfl
def score_reader_slot_1.res (_p0 : Int) (_p1 : Int) (_p2 : List (ByteArray)) (_p3 : List (ByteArray)) (_p4 : Bool) : Int × Bool → MV
  | (q0, _) => .int .i64 q0
def score_reader_slot_1.out (_p0 : Int) (_p1 : Int) (p2 : List (ByteArray)) (p3 : List (ByteArray)) (_p4 : Bool) : Int × Bool → List (Nat × Option MObj)
  | (_, q1) => [(0, some (.cells [.p 2 0])), (1, some (.cells [.im (.slice (.str)) p2])), (2, some (.cells [.im (.slice (.str)) p3, .bool q1]))]
theorem score_reader_slot_1.ok {K : Nat} {p0 : Int} {p1 : Int} {p2 : List (ByteArray)} {p3 : List (ByteArray)} {p4 : Bool} {r : Int × Bool} (h0 : score_reader_slot_1 K p0 p1 p2 p3 p4 = some r) : Fn Tryd.prog 59 [.int .i64 p0, .int .i64 p1, .p 0 0, .p 1 0] [(0, some (.cells [.p 2 0])), (1, some (.cells [.im (.slice (.str)) p2])), (2, some (.cells [.im (.slice (.str)) p3, .bool p4]))] (score_reader_slot_1.res p0 p1 p2 p3 p4 r) (score_reader_slot_1.out p0 p1 p2 p3 p4 r) := by
  refine Fn_of Tryd.func59 rfl (Nat.le_of_ble_eq_true rfl) fun Γ => ?_
  refine TC_seq ?_
  refine TC_reg ?_
  refine TL_ev env 1 rfl ⟨tv, tv⟩ ?_
  refine TL_end ?_
  refine TE_go ?_
  refine TC_seq ?_
  refine TC_renw (A' := [(0, .int .i64 _), (1, .int .i64 _), (2, .p 0 0), (3, .p 1 0), (6, .int .i64 0)]) (L' := [(0, some (.cells [.p 2 0])), (1, some (.cells [.im (.slice (.str)) _])), (2, some (.cells [.im (.slice (.str)) _, .bool _]))]) [] ⟨rfl, rfl, rfl, rfl, rfl, tv⟩ ⟨rfl, rfl, rfl, tv⟩ rfl ?_
  refine TC_drawR ⟨_, fun i => ([[], [], [], [2, 1], [3, 2, 1], [], [5, 4, 3, 2, 1, 0], [6, 5, 4, 3, 2, 1, 0]] : List (List Nat)).getD i [], fun i => ([[], [], [], [], [], [], [2], []] : List (List Nat)).getD i [], fun i => ([[], [], [], [], [], [], [], []] : List (List Nat)).getD i []⟩ (fun i => ([[], [], [], [], [], [], [], []] : List (List Nat)).getD i []) (by kernel_rfl) (by kernel_rfl) ?_
  refine AJR_ev env 1 rfl (Nat.le_of_ble_eq_true rfl) rfl ⟨tv, tv⟩ ?_
  refine AJR_ev env 2 rfl (Nat.le_of_ble_eq_true rfl) rfl ⟨tv, tv⟩ ?_
  refine AJR_ev env 3 rfl (Nat.le_of_ble_eq_true rfl) rfl tv ?_
  obtain ⟨g, h0⟩ := gd_t h0
  refine AJR_ev env 4 rfl (Nat.le_of_ble_eq_true rfl) rfl ⟨tv, ⟨tv, ⟨g.1, g.2⟩⟩⟩ ?_
  refine AJR_ev env 5 rfl (Nat.le_of_ble_eq_true rfl) rfl ⟨tv, tv⟩ ?_
  refine AJR_ev env 6 rfl (Nat.le_of_ble_eq_true rfl) rfl tv ?_
  obtain ⟨⟨r4, r5⟩, hr, h0⟩ := bnd h0
  refine AJR_call 7 rfl (Nat.le_of_ble_eq_true rfl) [(0, 2)] rfl (score_reader_value_2.ok0 hr) score_reader_value_2.fnb rfl ⟨tv, ⟨tv, ⟨tv, ⟨tv, tv⟩⟩⟩⟩ rfl ⟨.inr rfl, tv⟩ rfl ?_
  refine AJR_ev env 8 rfl (Nat.le_of_ble_eq_true rfl) rfl tv ?_
  refine AJR_end rfl rfl rfl ?_
  refine TE_go ?_
  refine TC_ret ?_
  obtain rfl := sinj h0
  exact TE_ret env rfl tv ⟨.inr rfl, .inr rfl, .inr rfl, tv⟩
theorem score_reader_slot_1.ok0 {K : Nat} {p0 : Int} {p1 : Int} {p2 : List (ByteArray)} {p3 : List (ByteArray)} {p4 : Bool} {q0 : Int} {q1 : Bool} (h0 : score_reader_slot_1 K p0 p1 p2 p3 p4 = some (q0, q1)) : Fn Tryd.prog 59 [.int .i64 p0, .int .i64 p1, .p 0 0, .p 1 0] [(0, some (.cells [.p 2 0])), (1, some (.cells [.im (.slice (.str)) p2])), (2, some (.cells [.im (.slice (.str)) p3, .bool p4]))] (.int .i64 q0) [(0, some (.cells [.p 2 0])), (1, some (.cells [.im (.slice (.str)) p2])), (2, some (.cells [.im (.slice (.str)) p3, .bool q1]))] := score_reader_slot_1.ok h0
theorem score_reader_slot_1.fnb : fnb Tryd.prog 59 = true := fnb_of Tryd.func59 rfl
def score_reader_slot.res (_p0 : List (ByteArray)) (_p1 : Bool) : Int × Int × Int × Int × (List (ByteArray)) × Bool → MV
  | (q0, q1, q2, q3, _, _) => .agg [.int .i64 q0, .int .i64 q1, .int .i64 q2, .int .u32 q3]
def score_reader_slot.out (_p0 : List (ByteArray)) (_p1 : Bool) : Int × Int × Int × Int × (List (ByteArray)) × Bool → List (Nat × Option MObj)
  | (_, _, _, _, q4, q5) => [(0, some (.cells [.im (.slice (.str)) q4, .bool q5]))]
theorem score_reader_slot.ok {K : Nat} {p0 : List (ByteArray)} {p1 : Bool} {r : Int × Int × Int × Int × (List (ByteArray)) × Bool} (h0 : score_reader_slot K p0 p1 = some r) : Fn Tryd.prog 34 [.p 0 0] [(0, some (.cells [.im (.slice (.str)) p0, .bool p1]))] (score_reader_slot.res p0 p1 r) (score_reader_slot.out p0 p1 r) := by
  refine Fn_of Tryd.func34 rfl (Nat.le_of_ble_eq_true rfl) fun Γ => ?_
  refine TC_seq ?_
  refine TC_reg ?_
  refine TL_ev env 2 rfl ⟨tv, ⟨tv, tv⟩⟩ ?_
  refine TL_end ?_
  refine TE_go ?_
  refine TC_seq ?_
  refine TC_reg ?_
  refine TL_ev env 1 rfl ⟨⟨tv, tv⟩, tv⟩ ?_
  obtain ⟨⟨r13, r14, r15⟩, hr, h0⟩ := bnd h0
  refine TL_callB [(0, 0)] (score_reader_word_2.ok0 hr) score_reader_word_2.fnb rfl ⟨tv, ⟨tv, tv⟩⟩ rfl ⟨.inr rfl, tv⟩ rfl ?_
  refine TL_ev env 1 rfl ⟨tv, tv⟩ ?_
  refine TL_end ?_
  refine TE_go ?_
  refine TC_seq ?_
  refine TC_seq ?_
  refine TC_reg ?_
  refine TL_ev env 1 rfl ⟨tv, tv⟩ ?_
  refine TL_end ?_
  refine TE_go ?_
  refine TC_blk ?_
  refine TC_seq ?_
  refine TC_reg ?_
  refine TL_ev env 2 rfl ⟨⟨tv, ⟨tv, tv⟩⟩, ⟨tv, tv⟩⟩ ?_
  refine TL_end ?_
  refine TE_go ?_
  refine TC_cond rfl (fun hb => ?_) (fun hb => ?_)
  · replace h0 := bif_t h0 hb
    refine TC_seq ?_
    refine TC_reg ?_
    refine TL_ev env 2 rfl ⟨tv, ⟨⟨tv, tv⟩, tv⟩⟩ ?_
    refine TL_end ?_
    refine TE_go ?_
    refine TC_ret ?_
    refine tbr ?_
    refine tsr ?_
    obtain rfl := sinj h0
    exact TE_ret env rfl ⟨tv, tv⟩ ⟨.inr rfl, tv⟩
  · replace h0 := bif_f h0 hb
    refine TC_seq ?_
    refine TC_reg ?_
    refine TL_ev env 2 rfl ⟨⟨tv, ⟨tv, tv⟩⟩, ⟨tv, tv⟩⟩ ?_
    refine TL_end ?_
    refine TE_go ?_
    refine TC_cond rfl (fun hb => ?_) (fun hb => ?_)
    · replace h0 := bif_t h0 hb
      refine TC_seq ?_
      refine TC_reg ?_
      refine TL_ev env 2 rfl ⟨⟨tv, tv⟩, ⟨⟨tv, tv⟩, tv⟩⟩ ?_
      refine TL_end ?_
      refine TE_go ?_
      refine TC_ret ?_
      refine tbr ?_
      refine tsr ?_
      obtain rfl := sinj h0
      exact TE_ret env rfl ⟨tv, tv⟩ ⟨.inr rfl, tv⟩
    · replace h0 := bif_f h0 hb
      refine TC_seq ?_
      refine TC_reg ?_
      refine TL_ev env 2 rfl ⟨⟨tv, ⟨tv, tv⟩⟩, ⟨tv, tv⟩⟩ ?_
      refine TL_end ?_
      refine TE_go ?_
      refine TC_cond rfl (fun hb => ?_) (fun hb => ?_)
      · replace h0 := bif_t h0 hb
        refine TC_seq ?_
        refine TC_reg ?_
        refine TL_ev env 2 rfl ⟨⟨tv, tv⟩, ⟨⟨tv, tv⟩, tv⟩⟩ ?_
        refine TL_end ?_
        refine TE_go ?_
        refine TC_ret ?_
        refine tbr ?_
        refine tsr ?_
        obtain rfl := sinj h0
        exact TE_ret env rfl ⟨tv, tv⟩ ⟨.inr rfl, tv⟩
      · replace h0 := bif_f h0 hb
        refine TC_skip ?_
        refine tbn ?_
        refine TE_go ?_
        refine TC_seq ?_
        refine TC_reg ?_
        refine TL_ev env 1 rfl ⟨tv, tv⟩ ?_
        obtain ⟨z, hr, h0⟩ := bnd h0
        rcases z with ⟨⟩ | r19
        · refine TL_callB [] (strings_Split.ok0 hr) strings_Split.fnb rfl ⟨tv, ⟨tv, ⟨tv, tv⟩⟩⟩ rfl tv rfl ?_
          refine TL_ev env 2 rfl ⟨tv, ⟨⟨tv, tv⟩, tv⟩⟩ ?_
          refine TL_end ?_
          refine TE_go ?_
          refine TC_seq ?_
          refine TC_seq ?_
          refine TC_reg ?_
          refine TL_ev env 3 rfl ⟨⟨tv, tv⟩, ⟨⟨tv, tv⟩, ⟨⟨tv, ⟨tv, tv⟩⟩, tv⟩⟩⟩ ?_
          refine TL_end ?_
          refine TE_go ?_
          refine TC_cond rfl (fun hb => ?_) (fun hb => ?_)
          · refine TC_seq ?_
            refine TC_reg ?_
            refine TL_ev env 4 rfl ⟨⟨tv, tv⟩, ⟨tv, ⟨tv, ⟨⟨tv, tv⟩, tv⟩⟩⟩⟩ ?_
            refine TL_end ?_
            refine TE_go ?_
            refine TC_seq ?_
            refine TC_reg ?_
            refine TL_ev env 2 rfl ⟨tv, ⟨⟨tv, tv⟩, tv⟩⟩ ?_
            refine TL_end ?_
            refine TE_go ?_
            refine TC_ret ?_
            refine tsr ?_
            obtain rfl := sinj h0
            exact TE_ret env rfl ⟨tv, tv⟩ ⟨.inr rfl, tv⟩
          · first | exact (ftf hb).elim | exact (tff hb).elim | exact absurd hb (by decide)
        · refine TL_callB [] (strings_Split.ok1 hr) strings_Split.fnb rfl ⟨tv, ⟨tv, ⟨tv, tv⟩⟩⟩ rfl tv rfl ?_
          refine TL_ev env 2 rfl ⟨tv, ⟨⟨tv, tv⟩, tv⟩⟩ ?_
          refine TL_end ?_
          refine TE_go ?_
          refine TC_seq ?_
          refine TC_seq ?_
          refine TC_reg ?_
          refine TL_ev env 3 rfl ⟨⟨tv, tv⟩, ⟨⟨tv, tv⟩, ⟨⟨tv, ⟨tv, tv⟩⟩, tv⟩⟩⟩ ?_
          refine TL_end ?_
          refine TE_go ?_
          refine TC_cond rfl (fun hb => ?_) (fun hb => ?_)
          · replace h0 := bif_t h0 hb
            refine TC_seq ?_
            refine TC_reg ?_
            refine TL_ev env 4 rfl ⟨⟨tv, tv⟩, ⟨tv, ⟨tv, ⟨⟨tv, tv⟩, tv⟩⟩⟩⟩ ?_
            refine TL_end ?_
            refine TE_go ?_
            refine TC_seq ?_
            refine TC_reg ?_
            refine TL_ev env 2 rfl ⟨tv, ⟨⟨tv, tv⟩, tv⟩⟩ ?_
            refine TL_end ?_
            refine TE_go ?_
            refine TC_ret ?_
            refine tsr ?_
            obtain rfl := sinj h0
            exact TE_ret env rfl ⟨tv, tv⟩ ⟨.inr rfl, tv⟩
          · replace h0 := bif_f h0 hb
            refine TC_skip ?_
            refine TE_go ?_
            refine TC_seq ?_
            refine TC_reg ?_
            refine TL_ev env 2 rfl ⟨⟨tv, ⟨tv, tv⟩⟩, ⟨tv, tv⟩⟩ ?_
            refine TL_end ?_
            refine TE_go ?_
            refine TC_seq ?_
            refine TC_renw (A' := [(1, .p 1001 0), (2, .p 1002 0), (4, .p 1004 0), (5, .fn 59 [.p 1001 0, .p 1004 0])]) (L' := [(0, some (.cells [.im (.slice (.str)) _, .bool _])), (1001, some (.cells [.p 0 0])), (1002, some (.cells [.int .i64 0, .int .i64 0, .int .i64 0, .int .u32 0])), (1004, some (.cells [.im (.slice (.str)) _]))]) [] ⟨rfl, rfl, rfl, rfl, tv⟩ ⟨rfl, rfl, rfl, rfl, tv⟩ rfl ?_
            refine TC_drawR ⟨_, fun i => ([[], [0], [], [2, 1, 0], [], [4, 3, 2, 1, 0], [], [], [7], [8, 7], [9, 8, 7, 6, 5, 4, 3, 2, 1, 0], [10, 9, 8, 7, 6, 5, 4, 3, 2, 1, 0], [11, 10, 9, 8, 7, 6, 5, 4, 3, 2, 1, 0], [12, 11, 10, 9, 8, 7, 6, 5, 4, 3, 2, 1, 0]] : List (List Nat)).getD i [], fun i => ([[], [0], [], [0], [], [0], [], [], [], [], [0], [], [], [1002]] : List (List Nat)).getD i [], fun i => ([[], [], [], [], [], [], [], [], [], [], [], [], [], []] : List (List Nat)).getD i []⟩ (fun i => ([[], [], [0], [], [0], [], [0], [0], [0], [0], [], [], [], []] : List (List Nat)).getD i []) (by kernel_rfl) (by kernel_rfl) ?_
            refine AJR_ev env 1 rfl (Nat.le_of_ble_eq_true rfl) rfl tv ?_
            obtain ⟨⟨r21, r22⟩, hr, h0⟩ := bnd h0
            refine AJR_callS 2 rfl (Nat.le_of_ble_eq_true rfl) [(0, 1001), (1, 1004), (2, 0)] rfl (score_reader_slot_1.ok0 hr) score_reader_slot_1.fnb rfl ⟨tv, ⟨tv, ⟨tv, tv⟩⟩⟩ rfl ⟨.inr rfl, .inr rfl, .inr rfl, tv⟩ rfl ⟨⟨rfl, rfl⟩, ⟨rfl, rfl⟩, tv⟩ ?_
            refine AJR_ev env 3 rfl (Nat.le_of_ble_eq_true rfl) rfl tv ?_
            obtain ⟨⟨r23, r24⟩, hr, h0⟩ := bnd h0
            refine AJR_callS 4 rfl (Nat.le_of_ble_eq_true rfl) [(0, 1001), (1, 1004), (2, 0)] rfl (score_reader_slot_1.ok0 hr) score_reader_slot_1.fnb rfl ⟨tv, ⟨tv, ⟨tv, tv⟩⟩⟩ rfl ⟨.inr rfl, .inr rfl, .inr rfl, tv⟩ rfl ⟨⟨rfl, rfl⟩, ⟨rfl, rfl⟩, tv⟩ ?_
            refine AJR_ev env 5 rfl (Nat.le_of_ble_eq_true rfl) rfl tv ?_
            obtain ⟨⟨r25, r26⟩, hr, h0⟩ := bnd h0
            refine AJR_callS 6 rfl (Nat.le_of_ble_eq_true rfl) [(0, 1001), (1, 1004), (2, 0)] rfl (score_reader_slot_1.ok0 hr) score_reader_slot_1.fnb rfl ⟨tv, ⟨tv, ⟨tv, tv⟩⟩⟩ rfl ⟨.inr rfl, .inr rfl, .inr rfl, tv⟩ rfl ⟨⟨rfl, rfl⟩, ⟨rfl, rfl⟩, tv⟩ ?_
            refine AJR_ev env 7 rfl (Nat.le_of_ble_eq_true rfl) rfl ⟨tv, tv⟩ ?_
            refine AJR_ev env 8 rfl (Nat.le_of_ble_eq_true rfl) rfl ⟨tv, tv⟩ ?_
            obtain ⟨g, h0⟩ := gd_t h0
            refine AJR_ev env 9 rfl (Nat.le_of_ble_eq_true rfl) rfl ⟨tv, ⟨tv, ⟨(by decide), g⟩⟩⟩ ?_
            refine AJR_ev env 10 rfl (Nat.le_of_ble_eq_true rfl) rfl ⟨tv, tv⟩ ?_
            obtain ⟨⟨r28, r29⟩, hr, h0⟩ := bnd h0
            refine AJR_call 11 rfl (Nat.le_of_ble_eq_true rfl) [(0, 0)] rfl (score_reader_value_2.ok0 hr) score_reader_value_2.fnb rfl ⟨tv, ⟨tv, ⟨tv, ⟨tv, tv⟩⟩⟩⟩ rfl ⟨.inr rfl, tv⟩ rfl ?_
            refine AJR_ev env 12 rfl (Nat.le_of_ble_eq_true rfl) rfl tv ?_
            refine AJR_ev env 13 rfl (Nat.le_of_ble_eq_true rfl) rfl ⟨tv, ⟨tv, ⟨tv, ⟨tv, tv⟩⟩⟩⟩ ?_
            refine AJR_ev env 14 rfl (Nat.le_of_ble_eq_true rfl) rfl ⟨tv, tv⟩ ?_
            refine AJR_end rfl rfl rfl ?_
            refine TE_go ?_
            refine TC_ret ?_
            obtain rfl := sinj h0
            exact TE_ret env rfl ⟨tv, tv⟩ ⟨.inr rfl, tv⟩
theorem score_reader_slot.ok0 {K : Nat} {p0 : List (ByteArray)} {p1 : Bool} {q0 : Int} {q1 : Int} {q2 : Int} {q3 : Int} {q4 : List (ByteArray)} {q5 : Bool} (h0 : score_reader_slot K p0 p1 = some (q0, q1, q2, q3, q4, q5)) : Fn Tryd.prog 34 [.p 0 0] [(0, some (.cells [.im (.slice (.str)) p0, .bool p1]))] (.agg [.int .i64 q0, .int .i64 q1, .int .i64 q2, .int .u32 q3]) [(0, some (.cells [.im (.slice (.str)) q4, .bool q5]))] := score_reader_slot.ok h0
theorem score_reader_slot.fnb : fnb Tryd.prog 34 = true := fnb_of Tryd.func34 rfl
def score_reader_storm_2.res (_p0 : List (ByteArray)) (_p1 : Bool) : ((List (ByteArray))) ⊕ ((List ((Int × (Int × (List (Int) × (List (Int) × (List (Int) × List ((Int × (Int × (Int × Int))))))))))) × (List (ByteArray)) × Bool) → MV
  | .inl _ => .nils
  | .inr (q0, _, _) => .im (.slice (.pair (.int .i64) (.pair (.int .i64) (.pair (.slice (.int .i16)) (.pair (.slice (.int .u8)) (.pair (.slice (.int .u8)) (.slice (.pair (.int .i64) (.pair (.int .i64) (.pair (.int .i64) (.int .u32))))))))))) q0
def score_reader_storm_2.out (_p0 : List (ByteArray)) (_p1 : Bool) : ((List (ByteArray))) ⊕ ((List ((Int × (Int × (List (Int) × (List (Int) × (List (Int) × List ((Int × (Int × (Int × Int))))))))))) × (List (ByteArray)) × Bool) → List (Nat × Option MObj)
  | .inl q0 => [(0, some (.cells [.im (.slice (.str)) q0, .bool true]))]
  | .inr (_, q1, q2) => [(0, some (.cells [.im (.slice (.str)) q1, .bool q2]))]
theorem score_reader_storm_2.ok {K : Nat} {p0 : List (ByteArray)} {p1 : Bool} {r : ((List (ByteArray))) ⊕ ((List ((Int × (Int × (List (Int) × (List (Int) × (List (Int) × List ((Int × (Int × (Int × Int))))))))))) × (List (ByteArray)) × Bool)} (h0 : score_reader_storm_2 K p0 p1 = some r) : Fn Tryd.prog 35 [.p 0 0] [(0, some (.cells [.im (.slice (.str)) p0, .bool p1]))] (score_reader_storm_2.res p0 p1 r) (score_reader_storm_2.out p0 p1 r) := by
  refine Fn_of Tryd.func35 rfl (Nat.le_of_ble_eq_true rfl) fun Γ => ?_
  refine TC_seq ?_
  refine TC_reg ?_
  refine TL_ev env 1 rfl ⟨tv, tv⟩ ?_
  refine TL_end ?_
  refine TE_go ?_
  refine TC_seq ?_
  refine TC_reg ?_
  refine TL_ev env 1 rfl ⟨tv, tv⟩ ?_
  obtain ⟨⟨r49, r50, r51⟩, hr, h0⟩ := bnd h0
  refine TL_callB [(0, 0)] (score_reader_number_2.ok0 hr) score_reader_number_2.fnb rfl ⟨tv, ⟨tv, ⟨tv, tv⟩⟩⟩ rfl ⟨.inr rfl, tv⟩ rfl ?_
  refine TL_ev env 2 rfl ⟨tv, ⟨tv, tv⟩⟩ ?_
  refine TL_end ?_
  refine TE_go ?_
  refine TC_seq ?_
  refine TC_reg ?_
  refine TL_ev env 1 rfl ⟨tv, tv⟩ ?_
  obtain ⟨⟨r52, r53, r54⟩, hr, h0⟩ := bnd h0
  refine TL_callB [(0, 0)] (score_reader_number_2.ok0 hr) score_reader_number_2.fnb rfl ⟨tv, ⟨tv, ⟨tv, tv⟩⟩⟩ rfl ⟨.inr rfl, tv⟩ rfl ?_
  refine TL_ev env 1 rfl ⟨tv, tv⟩ ?_
  obtain ⟨⟨r55, r56, r57⟩, hr, h0⟩ := bnd h0
  refine TL_callB [(0, 0)] (score_reader_number_2.ok0 hr) score_reader_number_2.fnb rfl ⟨tv, ⟨tv, ⟨tv, tv⟩⟩⟩ rfl ⟨.inr rfl, tv⟩ rfl ?_
  refine TL_ev env 1 rfl ⟨tv, tv⟩ ?_
  obtain ⟨⟨r58, r59, r60⟩, hr, h0⟩ := bnd h0
  refine TL_callB [(0, 0)] (score_reader_number_2.ok0 hr) score_reader_number_2.fnb rfl ⟨tv, ⟨tv, ⟨tv, tv⟩⟩⟩ rfl ⟨.inr rfl, tv⟩ rfl ?_
  refine TL_ev env 1 rfl ⟨tv, tv⟩ ?_
  obtain ⟨⟨r61, r62, r63⟩, hr, h0⟩ := bnd h0
  refine TL_callB [(0, 0)] (score_reader_number_2.ok0 hr) score_reader_number_2.fnb rfl ⟨tv, ⟨tv, ⟨tv, tv⟩⟩⟩ rfl ⟨.inr rfl, tv⟩ rfl ?_
  refine TL_ev env 3 rfl ⟨⟨tv, ⟨tv, ⟨tv, ⟨tv, tv⟩⟩⟩⟩, ⟨tv, ⟨⟨tv, tv⟩, tv⟩⟩⟩ ?_
  refine TL_end ?_
  refine TE_go ?_
  refine TC_seq ?_
  refine TC_reg ?_
  refine TL_ev env 1 rfl ⟨tv, tv⟩ ?_
  obtain ⟨⟨r64, r65, r66⟩, hr, h0⟩ := bnd h0
  refine TL_callB [(0, 0)] (score_reader_number_2.ok0 hr) score_reader_number_2.fnb rfl ⟨tv, ⟨tv, ⟨tv, tv⟩⟩⟩ rfl ⟨.inr rfl, tv⟩ rfl ?_
  refine TL_ev env 1 rfl ⟨tv, tv⟩ ?_
  obtain ⟨⟨r67, r68, r69⟩, hr, h0⟩ := bnd h0
  refine TL_callB [(0, 0)] (score_reader_number_2.ok0 hr) score_reader_number_2.fnb rfl ⟨tv, ⟨tv, ⟨tv, tv⟩⟩⟩ rfl ⟨.inr rfl, tv⟩ rfl ?_
  refine TL_ev env 2 rfl ⟨tv, ⟨tv, tv⟩⟩ ?_
  refine TL_end ?_
  refine TE_go ?_
  refine TC_seq ?_
  refine TC_reg ?_
  refine TL_ev env 2 rfl ⟨⟨tv, tv⟩, ⟨tv, tv⟩⟩ ?_
  obtain ⟨z, hr, h0⟩ := bnd h0
  rcases z with r70 | ⟨⟩
  · refine TL_callB [] (weather_New.ok0 hr) weather_New.fnb rfl ⟨tv, ⟨tv, ⟨tv, tv⟩⟩⟩ rfl tv rfl ?_
    refine TL_ev env 5 rfl ⟨tv, ⟨tv, ⟨tv, ⟨tv, ⟨tv, tv⟩⟩⟩⟩⟩ ?_
    refine TL_end ?_
    refine TE_go ?_
    refine TC_seq ?_
    refine TC_seq ?_
    refine TC_reg ?_
    refine TL_ev env 8 rfl ⟨tv, ⟨tv, ⟨tv, ⟨⟨tv, tv⟩, ⟨tv, ⟨fun eg => tv, ⟨fun eg => ⟨fun e => e, ⟨tv, tv⟩⟩, ⟨⟨tv, ⟨tv, fun e => e⟩⟩, tv⟩⟩⟩⟩⟩⟩⟩⟩ ?_
    refine TL_end ?_
    refine TE_go ?_
    refine TC_cond rfl (fun hb => ?_) (fun hb => ?_)
    · replace h0 := bif_t h0 hb
      refine TC_seq ?_
      refine TC_reg ?_
      refine TL_ev env 4 rfl ⟨tv, ⟨tv, ⟨tv, ⟨⟨tv, tv⟩, tv⟩⟩⟩⟩ ?_
      refine TL_end ?_
      refine TE_go ?_
      refine TC_seq ?_
      refine TC_reg ?_
      refine TL_ev env 1 rfl ⟨tv, tv⟩ ?_
      refine TL_end ?_
      refine TE_go ?_
      refine TC_ret ?_
      refine tsr ?_
      obtain rfl := sinj h0
      exact TE_ret env rfl tv ⟨.inr rfl, tv⟩
    · replace h0 := bif_f h0 hb
      refine TC_skip ?_
      refine TE_go ?_
      refine TC_seq ?_
      refine TC_reg ?_
      refine TL_ev env 1 rfl ⟨tv, tv⟩ ?_
      refine TL_end ?_
      refine TE_go ?_
      refine TC_seq ?_
      refine TC_seq ?_
      refine TC_reg ?_
      refine TL_ev env 2 rfl ⟨tv, ⟨tv, tv⟩⟩ ?_
      refine TL_end ?_
      refine TE_go ?_
      obtain ⟨z1, h1, h0⟩ := bnd h0
      refine TC_cut (α := (List ((Int × (Int × (List (Int) × (List (Int) × (List (Int) × List ((Int × (Int × (Int × Int)))))))))))) (fun s => z1 = s) (fun s => [(9, .sl 11201)]) (fun s => [(0, some (.cells [.im (.slice (.str)) r68, .bool r69])), (11201, some (.rows (.pair (.int .i64) (.pair (.int .i64) (.pair (.slice (.int .i16)) (.pair (.slice (.int .u8)) (.pair (.slice (.int .u8)) (.slice (.pair (.int .i64) (.pair (.int .i64) (.pair (.int .i64) (.int .u32)))))))))) s))]) ?_ ?_
      · refine TC_blk ?_
        refine TC_loop (α := Int × (List ((Int × (Int × (List (Int) × (List (Int) × (List (Int) × List ((Int × (Int × (Int × Int)))))))))))) (fun n s => score_reader_storm_2.l0 K r67 r64 r68 r69 n s.1 s.2 = some z1) (fun s => [(6, .int .i64 r67), (7, .nilp), (9, .sl 11401), (43, .int .i64 r64), (44, .int .i64 s.1)]) (fun s => [(0, some (.cells [.im (.slice (.str)) r68, .bool r69])), (11401, some (.rows (.pair (.int .i64) (.pair (.int .i64) (.pair (.slice (.int .i16)) (.pair (.slice (.int .u8)) (.pair (.slice (.int .u8)) (.slice (.pair (.int .i64) (.pair (.int .i64) (.pair (.int .i64) (.int .u32)))))))))) s.2))]) K ?_ ?_
        · refine TE_own 9 7009 (.pair (.int .i64) (.pair (.int .i64) (.pair (.slice (.int .i16)) (.pair (.slice (.int .u8)) (.pair (.slice (.int .u8)) (.slice (.pair (.int .i64) (.pair (.int .i64) (.pair (.int .i64) (.int .u32)))))))))) rfl (by decide) rfl rfl ?_
          exact SP_ren [(11401, 7009)] (_, _) h1 ⟨rfl, rfl, rfl, rfl, rfl, tv⟩ ⟨rfl, rfl, tv⟩ rfl
        rintro n ⟨x77, x78⟩ h1
        rcases n with _ | n
        · exact (nsome h1).elim
        replace h1 : score_reader_storm_2.r0 K r67 r64 r68 r69 (score_reader_storm_2.l0 K r67 r64 r68 r69 n) x77 x78 = some z1 := h1
        refine TC_seq ?_
        refine TC_reg ?_
        refine TL_ev env 1 rfl ⟨⟨tv, ⟨tv, tv⟩⟩, tv⟩ ?_
        refine TL_end ?_
        refine TE_go ?_
        refine TC_seq ?_
        refine TC_cond rfl (fun hb => ?_) (fun hb => ?_)
        · replace h1 := bif_t h1 hb
          refine TC_skip ?_
          refine TE_go ?_
          refine TC_seq ?_
          refine TC_blk ?_
          refine TC_reg ?_
          refine TL_ev env 3 rfl ⟨tv, ⟨tv, ⟨tv, tv⟩⟩⟩ ?_
          obtain ⟨⟨⟩, hr, h1⟩ := bnd h1
          refine TL_callB [] (weather_Weather_Row.ok0 hr) weather_Weather_Row.fnb rfl ⟨tv, ⟨tv, ⟨tv, tv⟩⟩⟩ rfl tv rfl ?_
          obtain ⟨g, h1⟩ := gd_t h1
          refine TL_ev env 4 rfl ⟨⟨tv, ⟨tv, tv⟩⟩, ⟨⟨tv, tv⟩, ⟨⟨⟨tv, ⟨tv, tv⟩⟩, g⟩, ⟨tv, tv⟩⟩⟩⟩ ?_
          refine TL_end ?_
          refine tbn ?_
          refine TE_go ?_
          refine TC_reg ?_
          refine TL_ev env 2 rfl ⟨⟨tv, ⟨tv, tv⟩⟩, ⟨tv, tv⟩⟩ ?_
          refine TL_end ?_
          refine tsn ?_
          exact TE_nextr [(11401, 1052)] n (Nat.lt_succ_self n) (_, _) h1 ⟨rfl, rfl, rfl, rfl, rfl, tv⟩ ⟨rfl, rfl, tv⟩ rfl
        · replace h1 := bif_f h1 hb
          refine TC_exit ?_
          refine tsx ?_
          refine tsx ?_
          refine tbe ?_
          obtain rfl := sinj h1
          refine tsn ?_
          exact SP_ren [(11201, 11401)] _ rfl ⟨rfl, tv⟩ ⟨rfl, rfl, tv⟩ rfl
      · rintro x76 hz
        obtain rfl := hz.symm
        refine TE_go ?_
        refine TC_seq ?_
        refine TC_reg ?_
        refine TL_ev env 2 rfl ⟨tv, ⟨tv, tv⟩⟩ ?_
        refine TL_end ?_
        refine TE_go ?_
        refine TC_ret ?_
        refine TE_frz 11201 rfl ?_
        obtain rfl := sinj h0
        exact TE_ret env rfl tv ⟨.inr rfl, tv⟩
  · refine TL_callB [(1000, 500290)] (weather_New.ok1 hr) weather_New.fnb rfl ⟨tv, ⟨tv, ⟨tv, tv⟩⟩⟩ rfl tv rfl ?_
    refine TL_ev env 5 rfl ⟨tv, ⟨tv, ⟨tv, ⟨tv, ⟨tv, tv⟩⟩⟩⟩⟩ ?_
    refine TL_end ?_
    refine TE_go ?_
    refine TC_seq ?_
    refine TC_seq ?_
    refine TC_reg ?_
    refine TL_ev env 8 rfl ⟨tv, ⟨tv, ⟨tv, ⟨⟨tv, tv⟩, ⟨tv, ⟨fun eg => tv, ⟨fun eg => ⟨fun e => e, ⟨tv, tv⟩⟩, ⟨⟨tv, ⟨tv, fun e => e⟩⟩, tv⟩⟩⟩⟩⟩⟩⟩⟩ ?_
    refine TL_end ?_
    refine TE_go ?_
    refine TC_cond rfl (fun hb => ?_) (fun hb => ?_)
    · replace h0 := bif_t h0 hb
      refine TC_seq ?_
      refine TC_reg ?_
      refine TL_ev env 4 rfl ⟨tv, ⟨tv, ⟨tv, ⟨⟨tv, tv⟩, tv⟩⟩⟩⟩ ?_
      refine TL_end ?_
      refine TE_go ?_
      refine TC_seq ?_
      refine TC_reg ?_
      refine TL_ev env 1 rfl ⟨tv, tv⟩ ?_
      refine TL_end ?_
      refine TE_go ?_
      refine TC_ret ?_
      refine tsr ?_
      obtain rfl := sinj h0
      exact TE_ret env rfl tv ⟨.inr rfl, tv⟩
    · replace h0 := bif_f h0 hb
      refine TC_skip ?_
      refine TE_go ?_
      refine TC_seq ?_
      refine TC_reg ?_
      refine TL_ev env 1 rfl ⟨tv, tv⟩ ?_
      refine TL_end ?_
      refine TE_go ?_
      refine TC_seq ?_
      refine TC_seq ?_
      refine TC_reg ?_
      refine TL_ev env 2 rfl ⟨tv, ⟨tv, tv⟩⟩ ?_
      refine TL_end ?_
      refine TE_go ?_
      obtain ⟨z1, h1, h0⟩ := bnd h0
      refine TC_cut (α := (List ((Int × (Int × (List (Int) × (List (Int) × (List (Int) × List ((Int × (Int × (Int × Int)))))))))))) (fun s => z1 = s) (fun s => [(9, .sl 11901)]) (fun s => [(0, some (.cells [.im (.slice (.str)) r68, .bool r69])), (11901, some (.rows (.pair (.int .i64) (.pair (.int .i64) (.pair (.slice (.int .i16)) (.pair (.slice (.int .u8)) (.pair (.slice (.int .u8)) (.slice (.pair (.int .i64) (.pair (.int .i64) (.pair (.int .i64) (.int .u32)))))))))) s))]) ?_ ?_
      · refine TC_blk ?_
        refine TC_loop (α := Int × Int × Bool × (List ((Int × (Int × (List (Int) × (List (Int) × (List (Int) × List ((Int × (Int × (Int × Int)))))))))))) (fun n s => score_reader_storm_2.l1 K r67 r64 r68 r69 r52 r55 r58 r61 n s.1 s.2.1 s.2.2.1 s.2.2.2 = some z1) (fun s => [(6, .int .i64 r67), (7, .p 12101 0), (9, .sl 12102), (43, .int .i64 r64), (44, .int .i64 s.1)]) (fun s => [(0, some (.cells [.im (.slice (.str)) r68, .bool r69])), (12101, some (.cells [.int .i64 r52, .int .i64 r55, .int .i64 r58, .int .i64 r61, .int .u32 s.2.1, .bool s.2.2.1])), (12102, some (.rows (.pair (.int .i64) (.pair (.int .i64) (.pair (.slice (.int .i16)) (.pair (.slice (.int .u8)) (.pair (.slice (.int .u8)) (.slice (.pair (.int .i64) (.pair (.int .i64) (.pair (.int .i64) (.int .u32)))))))))) s.2.2.2))]) K ?_ ?_
        · refine TE_own 9 7009 (.pair (.int .i64) (.pair (.int .i64) (.pair (.slice (.int .i16)) (.pair (.slice (.int .u8)) (.pair (.slice (.int .u8)) (.slice (.pair (.int .i64) (.pair (.int .i64) (.pair (.int .i64) (.int .u32)))))))))) rfl (by decide) rfl rfl ?_
          exact SP_ren [(12101, 500290), (12102, 7009)] (_, _, _, _) h1 ⟨rfl, rfl, rfl, rfl, rfl, tv⟩ ⟨rfl, rfl, rfl, tv⟩ rfl
        rintro n ⟨x112, x113, x114, x115⟩ h1
        rcases n with _ | n
        · exact (nsome h1).elim
        replace h1 : score_reader_storm_2.r1 K r67 r64 r68 r69 r52 r55 r58 r61 (score_reader_storm_2.l1 K r67 r64 r68 r69 r52 r55 r58 r61 n) x112 x113 x114 x115 = some z1 := h1
        refine TC_seq ?_
        refine TC_reg ?_
        refine TL_ev env 1 rfl ⟨⟨tv, ⟨tv, tv⟩⟩, tv⟩ ?_
        refine TL_end ?_
        refine TE_go ?_
        refine TC_seq ?_
        refine TC_cond rfl (fun hb => ?_) (fun hb => ?_)
        · replace h1 := bif_t h1 hb
          refine TC_skip ?_
          refine TE_go ?_
          refine TC_seq ?_
          refine TC_blk ?_
          refine TC_reg ?_
          refine TL_ev env 3 rfl ⟨tv, ⟨tv, ⟨tv, tv⟩⟩⟩ ?_
          obtain ⟨⟨r130, r131, r132⟩, hr, h1⟩ := bnd h1
          refine TL_callB [(0, 12101)] (weather_Weather_Row_2.ok0 hr) weather_Weather_Row_2.fnb rfl ⟨tv, ⟨tv, ⟨tv, tv⟩⟩⟩ rfl ⟨.inr rfl, tv⟩ rfl ?_
          obtain ⟨g, h1⟩ := gd_t h1
          refine TL_ev env 4 rfl ⟨⟨tv, ⟨tv, tv⟩⟩, ⟨⟨tv, tv⟩, ⟨⟨⟨tv, ⟨tv, tv⟩⟩, g⟩, ⟨tv, tv⟩⟩⟩⟩ ?_
          refine TL_end ?_
          refine tbn ?_
          refine TE_go ?_
          refine TC_reg ?_
          refine TL_ev env 2 rfl ⟨⟨tv, ⟨tv, tv⟩⟩, ⟨tv, tv⟩⟩ ?_
          refine TL_end ?_
          refine tsn ?_
          exact TE_nextr [(12101, 12101), (12102, 1052)] n (Nat.lt_succ_self n) (_, _, _, _) h1 ⟨rfl, rfl, rfl, rfl, rfl, tv⟩ ⟨rfl, rfl, rfl, tv⟩ rfl
        · replace h1 := bif_f h1 hb
          refine TC_exit ?_
          refine tsx ?_
          refine tsx ?_
          refine tbe ?_
          obtain rfl := sinj h1
          refine tsn ?_
          exact SP_ren [(11901, 12102)] _ rfl ⟨rfl, tv⟩ ⟨rfl, rfl, tv⟩ rfl
      · rintro x105 hz
        obtain rfl := hz.symm
        refine TE_go ?_
        refine TC_seq ?_
        refine TC_reg ?_
        refine TL_ev env 2 rfl ⟨tv, ⟨tv, tv⟩⟩ ?_
        refine TL_end ?_
        refine TE_go ?_
        refine TC_ret ?_
        refine TE_frz 11901 rfl ?_
        obtain rfl := sinj h0
        exact TE_ret env rfl tv ⟨.inr rfl, tv⟩
theorem score_reader_storm_2.ok0 {K : Nat} {p0 : List (ByteArray)} {p1 : Bool} {q0 : List (ByteArray)} (h0 : score_reader_storm_2 K p0 p1 = some (.inl q0)) : Fn Tryd.prog 35 [.p 0 0] [(0, some (.cells [.im (.slice (.str)) p0, .bool p1]))] (.nils) [(0, some (.cells [.im (.slice (.str)) q0, .bool true]))] := score_reader_storm_2.ok h0
theorem score_reader_storm_2.ok1 {K : Nat} {p0 : List (ByteArray)} {p1 : Bool} {q0 : List ((Int × (Int × (List (Int) × (List (Int) × (List (Int) × List ((Int × (Int × (Int × Int))))))))))} {q1 : List (ByteArray)} {q2 : Bool} (h0 : score_reader_storm_2 K p0 p1 = some (.inr (q0, q1, q2))) : Fn Tryd.prog 35 [.p 0 0] [(0, some (.cells [.im (.slice (.str)) p0, .bool p1]))] (.im (.slice (.pair (.int .i64) (.pair (.int .i64) (.pair (.slice (.int .i16)) (.pair (.slice (.int .u8)) (.pair (.slice (.int .u8)) (.slice (.pair (.int .i64) (.pair (.int .i64) (.pair (.int .i64) (.int .u32))))))))))) q0) [(0, some (.cells [.im (.slice (.str)) q1, .bool q2]))] := score_reader_storm_2.ok h0
theorem score_reader_storm_2.fnb : fnb Tryd.prog 35 = true := fnb_of Tryd.func35 rfl
def score_reader_steps_2.res (_p0 : List (ByteArray)) (_p1 : Bool) : ((List (ByteArray))) ⊕ ((List ((Int × (Int × (List (Int) × (List (Int) × (List (Int) × List ((Int × (Int × (Int × Int))))))))))) × (List (ByteArray)) × Bool) → MV
  | .inl _ => .nils
  | .inr (q0, _, _) => .im (.slice (.pair (.int .i64) (.pair (.int .i64) (.pair (.slice (.int .i16)) (.pair (.slice (.int .u8)) (.pair (.slice (.int .u8)) (.slice (.pair (.int .i64) (.pair (.int .i64) (.pair (.int .i64) (.int .u32))))))))))) q0
def score_reader_steps_2.out (_p0 : List (ByteArray)) (_p1 : Bool) : ((List (ByteArray))) ⊕ ((List ((Int × (Int × (List (Int) × (List (Int) × (List (Int) × List ((Int × (Int × (Int × Int))))))))))) × (List (ByteArray)) × Bool) → List (Nat × Option MObj)
  | .inl q0 => [(0, some (.cells [.im (.slice (.str)) q0, .bool true]))]
  | .inr (_, q1, q2) => [(0, some (.cells [.im (.slice (.str)) q1, .bool q2]))]
theorem score_reader_steps_2.ok {K : Nat} {p0 : List (ByteArray)} {p1 : Bool} {r : ((List (ByteArray))) ⊕ ((List ((Int × (Int × (List (Int) × (List (Int) × (List (Int) × List ((Int × (Int × (Int × Int))))))))))) × (List (ByteArray)) × Bool)} (h0 : score_reader_steps_2 K p0 p1 = some r) : Fn Tryd.prog 17 [.p 0 0] [(0, some (.cells [.im (.slice (.str)) p0, .bool p1]))] (score_reader_steps_2.res p0 p1 r) (score_reader_steps_2.out p0 p1 r) := by
  refine Fn_of Tryd.func17 rfl (Nat.le_of_ble_eq_true rfl) fun Γ => ?_
  refine TC_seq ?_
  refine TC_reg ?_
  refine TL_ev env 1 rfl ⟨tv, tv⟩ ?_
  refine TL_end ?_
  refine TE_go ?_
  refine TC_seq ?_
  refine TC_reg ?_
  refine TL_ev env 1 rfl ⟨tv, tv⟩ ?_
  refine TL_end ?_
  refine TE_go ?_
  refine TC_seq ?_
  refine TC_seq ?_
  refine TC_reg ?_
  refine TL_ev env 1 rfl ⟨tv, tv⟩ ?_
  obtain ⟨⟨r343, r344, r345⟩, hr, h0⟩ := bnd h0
  refine TL_callB [(0, 0)] (score_reader_word_2.ok0 hr) score_reader_word_2.fnb rfl ⟨tv, ⟨tv, tv⟩⟩ rfl ⟨.inr rfl, tv⟩ rfl ?_
  refine TL_end ?_
  refine TE_go ?_
  refine TC_blk ?_
  refine TC_seq ?_
  refine TC_reg ?_
  refine TL_ev env 2 rfl ⟨⟨tv, ⟨tv, tv⟩⟩, ⟨tv, tv⟩⟩ ?_
  refine TL_end ?_
  refine TE_go ?_
  refine TC_cond rfl (fun hb => ?_) (fun hb => ?_)
  · replace h0 := bif_t h0 hb
    refine TC_seq ?_
    refine TC_reg ?_
    refine TL_ev env 2 rfl ⟨tv, ⟨⟨tv, tv⟩, tv⟩⟩ ?_
    refine TL_end ?_
    refine TE_go ?_
    obtain ⟨z1, h1, h0⟩ := bnd h0
    refine TC_cut (α := (List (ByteArray)) × Bool × (List (Int))) (fun s => z1 = s) (fun s => [(3, .p 16401 0)]) (fun s => [(0, some (.cells [.im (.slice (.str)) s.1, .bool s.2.1])), (16401, some (.cells [.int .i64 1, .int .i64 0, .sl 16402, .nils, .nils, .nils])), (16402, some (.rows (.int .i16) s.2.2))]) ?_ ?_
    · refine TC_blk ?_
      refine TC_loop (α := (List (ByteArray)) × Bool × (List (Int))) (fun n s => score_reader_steps_2.l0 K n s.1 s.2.1 s.2.2 = some z1) (fun s => [(0, .p 0 0), (3, .p 16601 0)]) (fun s => [(0, some (.cells [.im (.slice (.str)) s.1, .bool s.2.1])), (16601, some (.cells [.int .i64 1, .int .i64 0, .sl 16602, .nils, .nils, .nils])), (16602, some (.rows (.int .i16) s.2.2))]) K ?_ ?_
      · refine TE_ownC 1003 2 920062 (.int .i16) rfl rfl (by decide) rfl rfl ?_
        exact SP_ren [(16601, 1003), (16602, 920062)] (_, _, _) h1 ⟨rfl, rfl, tv⟩ ⟨rfl, rfl, rfl, tv⟩ rfl
      rintro n ⟨x498, x499, x500⟩ h1
      rcases n with _ | n
      · exact (nsome h1).elim
      replace h1 : score_reader_steps_2.r0 K (score_reader_steps_2.l0 K n) x498 x499 x500 = some z1 := h1
      refine TC_seq ?_
      refine TC_seq ?_
      refine TC_reg ?_
      refine TL_ev env 6 rfl ⟨tv, ⟨tv, ⟨tv, ⟨⟨tv, tv⟩, ⟨⟨tv, tv⟩, ⟨⟨tv, ⟨tv, tv⟩⟩, tv⟩⟩⟩⟩⟩⟩ ?_
      refine TL_end ?_
      refine TE_go ?_
      refine TC_cond rfl (fun hb => ?_) (fun hb => ?_)
      · replace h1 := bif_t h1 hb
        refine TC_skip ?_
        refine TE_go ?_
        refine TC_blk ?_
        refine TC_renw (A' := [(0, .p 0 0), (3, .p 16601 0)]) (L' := [(0, some (.cells [.im (.slice (.str)) _, .bool _])), (16601, some (.cells [.int .i64 1, .int .i64 0, .sl 16602, .nils, .nils, .nils])), (16602, some (.rows (.int .i16) _))]) [] ⟨rfl, rfl, tv⟩ ⟨rfl, rfl, rfl, tv⟩ rfl ?_
        refine TC_drawR ⟨_, fun i => ([[], [0], [], [2], [3, 2], [4, 3, 2, 1, 0], [5, 4, 3, 2, 1, 0], [6, 5, 4, 3, 2, 1, 0]] : List (List Nat)).getD i [], fun i => ([[], [], [], [0], [1022], [1023, 16602], [], [16601]] : List (List Nat)).getD i [], fun i => ([[], [], [], [], [1022], [1023], [], []] : List (List Nat)).getD i []⟩ (fun i => ([[0, 1022], [0, 1022], [], [], [], [], [], []] : List (List Nat)).getD i []) (by kernel_rfl) (by kernel_rfl) ?_
        refine AJR_ev env 1 rfl (Nat.le_of_ble_eq_true rfl) rfl tv ?_
        refine AJR_ev env 2 rfl (Nat.le_of_ble_eq_true rfl) rfl ⟨tv, tv⟩ ?_
        refine AJR_ev env 3 rfl (Nat.le_of_ble_eq_true rfl) rfl tv ?_
        obtain ⟨⟨r508, r509, r510⟩, hr, h1⟩ := bnd h1
        refine AJR_call 4 rfl (Nat.le_of_ble_eq_true rfl) [(0, 0)] rfl (score_reader_sample.ok0 hr) score_reader_sample.fnb rfl ⟨tv, ⟨tv, tv⟩⟩ rfl ⟨.inr rfl, tv⟩ rfl ?_
        refine AJR_ev env 5 rfl (Nat.le_of_ble_eq_true rfl) rfl ⟨tv, tv⟩ ?_
        obtain ⟨g, h1⟩ := gd_t h1
        refine AJR_ev env 6 rfl (Nat.le_of_ble_eq_true rfl) rfl ⟨⟨tv, ⟨tv, tv⟩⟩, g⟩ ?_
        refine AJR_ev env 7 rfl (Nat.le_of_ble_eq_true rfl) rfl tv ?_
        refine AJR_ev env 8 rfl (Nat.le_of_ble_eq_true rfl) rfl ⟨tv, tv⟩ ?_
        refine AJR_end rfl rfl rfl ?_
        refine tbn ?_
        refine tsn ?_
        exact TE_nextr [(16601, 16601), (16602, 1023)] n (Nat.lt_succ_self n) (_, _, _) h1 ⟨rfl, rfl, tv⟩ ⟨rfl, rfl, rfl, tv⟩ rfl
      · replace h1 := bif_f h1 hb
        refine TC_exit ?_
        refine tsx ?_
        refine tsx ?_
        refine tbe ?_
        obtain rfl := sinj h1
        refine tsn ?_
        exact SP_ren [(16401, 16601), (16402, 16602)] (_, _, _) rfl ⟨rfl, tv⟩ ⟨rfl, rfl, rfl, tv⟩ rfl
    · rintro ⟨x491, x492, x493⟩ rfl
      refine tbn ?_
      refine TE_go ?_
      refine TC_seq ?_
      refine TC_reg ?_
      refine TL_ev env 1 rfl ⟨⟨tv, tv⟩, tv⟩ ?_
      refine TL_frz 16402 rfl ?_
      refine TL_ev env 2 rfl ⟨⟨tv, tv⟩, ⟨tv, tv⟩⟩ ?_
      refine TL_end ?_
      refine TE_go ?_
      refine TC_ret ?_
      refine TE_frz 1067 rfl ?_
      obtain rfl := sinj h0
      exact TE_ret env rfl tv ⟨.inr rfl, tv⟩
  · replace h0 := bif_f h0 hb
    refine TC_seq ?_
    refine TC_reg ?_
    refine TL_ev env 2 rfl ⟨⟨tv, ⟨tv, tv⟩⟩, ⟨tv, tv⟩⟩ ?_
    refine TL_end ?_
    refine TE_go ?_
    refine TC_cond rfl (fun hb => ?_) (fun hb => ?_)
    · replace h0 := bif_t h0 hb
      refine TC_reg ?_
      refine TL_ev env 1 rfl ⟨tv, tv⟩ ?_
      obtain ⟨z, hr, h0⟩ := bnd h0
      rcases z with r564 | ⟨r565, r566, r567⟩
      · refine TL_callB [(0, 0)] (score_reader_tone_2.ok0 hr) score_reader_tone_2.fnb rfl ⟨tv, ⟨tv, tv⟩⟩ rfl ⟨.inr rfl, tv⟩ rfl ?_
        refine TL_ev env 4 rfl ⟨tv, ⟨⟨tv, tv⟩, ⟨tv, ⟨⟨tv, tv⟩, tv⟩⟩⟩⟩ ?_
        refine TL_end ?_
        refine tbn ?_
        refine TE_go ?_
        refine TC_seq ?_
        refine TC_reg ?_
        refine TL_ev env 3 rfl ⟨⟨tv, tv⟩, ⟨⟨tv, tv⟩, ⟨tv, tv⟩⟩⟩ ?_
        refine TL_end ?_
        refine TE_go ?_
        refine TC_ret ?_
        refine TE_frz 1067 rfl ?_
        obtain rfl := sinj h0
        exact TE_ret env rfl tv ⟨.inr rfl, tv⟩
      · refine TL_callB [(0, 0)] (score_reader_tone_2.ok1 hr) score_reader_tone_2.fnb rfl ⟨tv, ⟨tv, tv⟩⟩ rfl ⟨.inr rfl, tv⟩ rfl ?_
        refine TL_ev env 4 rfl ⟨tv, ⟨⟨tv, tv⟩, ⟨tv, ⟨⟨tv, tv⟩, tv⟩⟩⟩⟩ ?_
        refine TL_end ?_
        refine tbn ?_
        refine TE_go ?_
        refine TC_seq ?_
        refine TC_reg ?_
        refine TL_ev env 3 rfl ⟨⟨tv, tv⟩, ⟨⟨tv, tv⟩, ⟨tv, tv⟩⟩⟩ ?_
        refine TL_end ?_
        refine TE_go ?_
        refine TC_ret ?_
        refine TE_frz 1067 rfl ?_
        obtain rfl := sinj h0
        exact TE_ret env rfl tv ⟨.inr rfl, tv⟩
    · replace h0 := bif_f h0 hb
      refine TC_seq ?_
      refine TC_reg ?_
      refine TL_ev env 2 rfl ⟨⟨tv, ⟨tv, tv⟩⟩, ⟨tv, tv⟩⟩ ?_
      refine TL_end ?_
      refine TE_go ?_
      refine TC_cond rfl (fun hb => ?_) (fun hb => ?_)
      · replace h0 := bif_t h0 hb
        refine TC_reg ?_
        refine TL_ev env 1 rfl ⟨tv, tv⟩ ?_
        obtain ⟨⟨r618, r619, r620⟩, hr, h0⟩ := bnd h0
        refine TL_callB [(0, 0)] (score_reader_number_2.ok0 hr) score_reader_number_2.fnb rfl ⟨tv, ⟨tv, ⟨tv, tv⟩⟩⟩ rfl ⟨.inr rfl, tv⟩ rfl ?_
        refine TL_ev env 4 rfl ⟨tv, ⟨⟨tv, tv⟩, ⟨tv, ⟨⟨tv, tv⟩, tv⟩⟩⟩⟩ ?_
        refine TL_end ?_
        refine tbn ?_
        refine TE_go ?_
        refine TC_seq ?_
        refine TC_reg ?_
        refine TL_ev env 3 rfl ⟨⟨tv, tv⟩, ⟨⟨tv, tv⟩, ⟨tv, tv⟩⟩⟩ ?_
        refine TL_end ?_
        refine TE_go ?_
        refine TC_ret ?_
        refine TE_frz 1067 rfl ?_
        obtain rfl := sinj h0
        exact TE_ret env rfl tv ⟨.inr rfl, tv⟩
      · replace h0 := bif_f h0 hb
        refine TC_seq ?_
        refine TC_reg ?_
        refine TL_ev env 2 rfl ⟨⟨tv, ⟨tv, tv⟩⟩, ⟨tv, tv⟩⟩ ?_
        refine TL_end ?_
        refine TE_go ?_
        refine TC_cond rfl (fun hb => ?_) (fun hb => ?_)
        · replace h0 := bif_t h0 hb
          refine TC_seq ?_
          refine TC_reg ?_
          refine TL_ev env 1 rfl ⟨tv, tv⟩ ?_
          obtain ⟨z, hr, h0⟩ := bnd h0
          rcases z with ⟨r666, r667⟩ | ⟨r668, r669, r670⟩
          · refine TL_callB [(0, 0)] (score_reader_bytes_2.ok0 hr) score_reader_bytes_2.fnb rfl ⟨tv, ⟨tv, tv⟩⟩ rfl ⟨.inr rfl, tv⟩ rfl ?_
            refine TL_ev env 4 rfl ⟨tv, ⟨⟨tv, tv⟩, ⟨tv, ⟨⟨tv, tv⟩, tv⟩⟩⟩⟩ ?_
            refine TL_end ?_
            refine TE_go ?_
            refine TC_reg ?_
            refine TL_ev env 1 rfl ⟨tv, tv⟩ ?_
            obtain ⟨z, hr, h0⟩ := bnd h0
            rcases z with ⟨r671, r672⟩ | ⟨r673, r674, r675⟩
            · refine TL_callB [(0, 0)] (score_reader_bytes_2.ok0 hr) score_reader_bytes_2.fnb rfl ⟨tv, ⟨tv, tv⟩⟩ rfl ⟨.inr rfl, tv⟩ rfl ?_
              refine TL_ev env 2 rfl ⟨tv, ⟨⟨tv, tv⟩, tv⟩⟩ ?_
              refine TL_end ?_
              refine tbn ?_
              refine TE_go ?_
              refine TC_seq ?_
              refine TC_reg ?_
              refine TL_ev env 3 rfl ⟨⟨tv, tv⟩, ⟨⟨tv, tv⟩, ⟨tv, tv⟩⟩⟩ ?_
              refine TL_end ?_
              refine TE_go ?_
              refine TC_ret ?_
              refine TE_frz 1067 rfl ?_
              obtain rfl := sinj h0
              exact TE_ret env rfl tv ⟨.inr rfl, tv⟩
            · refine TL_callB [(0, 0)] (score_reader_bytes_2.ok1 hr) score_reader_bytes_2.fnb rfl ⟨tv, ⟨tv, tv⟩⟩ rfl ⟨.inr rfl, tv⟩ rfl ?_
              refine TL_ev env 2 rfl ⟨tv, ⟨⟨tv, tv⟩, tv⟩⟩ ?_
              refine TL_end ?_
              refine tbn ?_
              refine TE_go ?_
              refine TC_seq ?_
              refine TC_reg ?_
              refine TL_ev env 3 rfl ⟨⟨tv, tv⟩, ⟨⟨tv, tv⟩, ⟨tv, tv⟩⟩⟩ ?_
              refine TL_end ?_
              refine TE_go ?_
              refine TC_ret ?_
              refine TE_frz 1067 rfl ?_
              obtain rfl := sinj h0
              exact TE_ret env rfl tv ⟨.inr rfl, tv⟩
          · refine TL_callB [(0, 0)] (score_reader_bytes_2.ok1 hr) score_reader_bytes_2.fnb rfl ⟨tv, ⟨tv, tv⟩⟩ rfl ⟨.inr rfl, tv⟩ rfl ?_
            refine TL_ev env 4 rfl ⟨tv, ⟨⟨tv, tv⟩, ⟨tv, ⟨⟨tv, tv⟩, tv⟩⟩⟩⟩ ?_
            refine TL_end ?_
            refine TE_go ?_
            refine TC_reg ?_
            refine TL_ev env 1 rfl ⟨tv, tv⟩ ?_
            obtain ⟨z, hr, h0⟩ := bnd h0
            rcases z with ⟨r678, r679⟩ | ⟨r680, r681, r682⟩
            · refine TL_callB [(0, 0)] (score_reader_bytes_2.ok0 hr) score_reader_bytes_2.fnb rfl ⟨tv, ⟨tv, tv⟩⟩ rfl ⟨.inr rfl, tv⟩ rfl ?_
              refine TL_ev env 2 rfl ⟨tv, ⟨⟨tv, tv⟩, tv⟩⟩ ?_
              refine TL_end ?_
              refine tbn ?_
              refine TE_go ?_
              refine TC_seq ?_
              refine TC_reg ?_
              refine TL_ev env 3 rfl ⟨⟨tv, tv⟩, ⟨⟨tv, tv⟩, ⟨tv, tv⟩⟩⟩ ?_
              refine TL_end ?_
              refine TE_go ?_
              refine TC_ret ?_
              refine TE_frz 1067 rfl ?_
              obtain rfl := sinj h0
              exact TE_ret env rfl tv ⟨.inr rfl, tv⟩
            · refine TL_callB [(0, 0)] (score_reader_bytes_2.ok1 hr) score_reader_bytes_2.fnb rfl ⟨tv, ⟨tv, tv⟩⟩ rfl ⟨.inr rfl, tv⟩ rfl ?_
              refine TL_ev env 2 rfl ⟨tv, ⟨⟨tv, tv⟩, tv⟩⟩ ?_
              refine TL_end ?_
              refine tbn ?_
              refine TE_go ?_
              refine TC_seq ?_
              refine TC_reg ?_
              refine TL_ev env 3 rfl ⟨⟨tv, tv⟩, ⟨⟨tv, tv⟩, ⟨tv, tv⟩⟩⟩ ?_
              refine TL_end ?_
              refine TE_go ?_
              refine TC_ret ?_
              refine TE_frz 1067 rfl ?_
              obtain rfl := sinj h0
              exact TE_ret env rfl tv ⟨.inr rfl, tv⟩
        · replace h0 := bif_f h0 hb
          refine TC_seq ?_
          refine TC_reg ?_
          refine TL_ev env 2 rfl ⟨⟨tv, ⟨tv, tv⟩⟩, ⟨tv, tv⟩⟩ ?_
          refine TL_end ?_
          refine TE_go ?_
          obtain ⟨z1, h1, h0⟩ := bnd h0
          refine TC_cut (α := (List (ByteArray)) × Bool × Int × (List ((Int × (Int × (Int × Int)))))) (fun s => z1 = .inl s) (fun s => [(3, .p 18701 0)]) (fun s => [(0, some (.cells [.im (.slice (.str)) s.1, .bool s.2.1])), (18701, some (.cells [.int .i64 s.2.2.1, .int .i64 0, .nils, .nils, .nils, .sl 18702])), (18702, some (.rows (.pair (.int .i64) (.pair (.int .i64) (.pair (.int .i64) (.int .u32)))) s.2.2.2))]) ?_ ?_
          · refine TC_cond rfl (fun hb => ?_) (fun hb => ?_)
            · replace h1 := bif_t h1 hb
              refine TC_seq ?_
              refine TC_reg ?_
              refine TL_ev env 2 rfl ⟨tv, ⟨⟨tv, tv⟩, tv⟩⟩ ?_
              refine TL_end ?_
              refine TE_go ?_
              obtain ⟨z2, h2, h1⟩ := bnd h1
              refine TC_cut (α := (List (ByteArray)) × Bool × (List ((Int × (Int × (Int × Int)))))) (fun s => z2 = s) (fun s => [(3, .p 19101 0)]) (fun s => [(0, some (.cells [.im (.slice (.str)) s.1, .bool s.2.1])), (19101, some (.cells [.int .i64 4, .int .i64 0, .nils, .nils, .nils, .sl 19102])), (19102, some (.rows (.pair (.int .i64) (.pair (.int .i64) (.pair (.int .i64) (.int .u32)))) s.2.2))]) ?_ ?_
              · refine TC_blk ?_
                refine TC_loop (α := (List (ByteArray)) × Bool × (List ((Int × (Int × (Int × Int)))))) (fun n s => score_reader_steps_2.l1 K n s.1 s.2.1 s.2.2 = some z2) (fun s => [(0, .p 0 0), (3, .p 19301 0)]) (fun s => [(0, some (.cells [.im (.slice (.str)) s.1, .bool s.2.1])), (19301, some (.cells [.int .i64 4, .int .i64 0, .nils, .nils, .nils, .sl 19302])), (19302, some (.rows (.pair (.int .i64) (.pair (.int .i64) (.pair (.int .i64) (.int .u32)))) s.2.2))]) K ?_ ?_
                · refine TE_ownC 1003 5 920065 (.pair (.int .i64) (.pair (.int .i64) (.pair (.int .i64) (.int .u32)))) rfl rfl (by decide) rfl rfl ?_
                  exact SP_ren [(19301, 1003), (19302, 920065)] (_, _, _) h2 ⟨rfl, rfl, tv⟩ ⟨rfl, rfl, rfl, tv⟩ rfl
                rintro n ⟨x743, x744, x745⟩ h2
                rcases n with _ | n
                · exact (nsome h2).elim
                replace h2 : score_reader_steps_2.r1 K (score_reader_steps_2.l1 K n) x743 x744 x745 = some z2 := h2
                refine TC_seq ?_
                refine TC_seq ?_
                refine TC_reg ?_
                refine TL_ev env 6 rfl ⟨tv, ⟨tv, ⟨tv, ⟨⟨tv, tv⟩, ⟨⟨tv, tv⟩, ⟨⟨tv, ⟨tv, tv⟩⟩, tv⟩⟩⟩⟩⟩⟩ ?_
                refine TL_end ?_
                refine TE_go ?_
                refine TC_cond rfl (fun hb => ?_) (fun hb => ?_)
                · replace h2 := bif_t h2 hb
                  refine TC_skip ?_
                  refine TE_go ?_
                  refine TC_blk ?_
                  refine TC_renw (A' := [(0, .p 0 0), (3, .p 19301 0)]) (L' := [(0, some (.cells [.im (.slice (.str)) _, .bool _])), (19301, some (.cells [.int .i64 4, .int .i64 0, .nils, .nils, .nils, .sl 19302])), (19302, some (.rows (.pair (.int .i64) (.pair (.int .i64) (.pair (.int .i64) (.int .u32)))) _))]) [] ⟨rfl, rfl, tv⟩ ⟨rfl, rfl, rfl, tv⟩ rfl ?_
                  refine TC_drawR ⟨_, fun i => ([[], [0], [], [2], [3, 2], [4, 3, 2, 1, 0], [5, 4, 3, 2, 1, 0], [6, 5, 4, 3, 2, 1, 0]] : List (List Nat)).getD i [], fun i => ([[], [], [], [0], [1059], [1060, 19302], [], [19301]] : List (List Nat)).getD i [], fun i => ([[], [], [], [], [1059], [1060], [], []] : List (List Nat)).getD i []⟩ (fun i => ([[0, 1059], [0, 1059], [], [], [], [], [], []] : List (List Nat)).getD i []) (by kernel_rfl) (by kernel_rfl) ?_
                  refine AJR_ev env 1 rfl (Nat.le_of_ble_eq_true rfl) rfl tv ?_
                  refine AJR_ev env 2 rfl (Nat.le_of_ble_eq_true rfl) rfl ⟨tv, tv⟩ ?_
                  refine AJR_ev env 3 rfl (Nat.le_of_ble_eq_true rfl) rfl tv ?_
                  obtain ⟨⟨r756, r757, r758, r759, r760, r761⟩, hr, h2⟩ := bnd h2
                  refine AJR_call 4 rfl (Nat.le_of_ble_eq_true rfl) [(0, 0)] rfl (score_reader_slot.ok0 hr) score_reader_slot.fnb rfl ⟨tv, ⟨tv, tv⟩⟩ rfl ⟨.inr rfl, tv⟩ rfl ?_
                  refine AJR_ev env 5 rfl (Nat.le_of_ble_eq_true rfl) rfl ⟨tv, tv⟩ ?_
                  obtain ⟨g, h2⟩ := gd_t h2
                  refine AJR_ev env 6 rfl (Nat.le_of_ble_eq_true rfl) rfl ⟨⟨tv, ⟨tv, tv⟩⟩, g⟩ ?_
                  refine AJR_ev env 7 rfl (Nat.le_of_ble_eq_true rfl) rfl tv ?_
                  refine AJR_ev env 8 rfl (Nat.le_of_ble_eq_true rfl) rfl ⟨tv, tv⟩ ?_
                  refine AJR_end rfl rfl rfl ?_
                  refine tbn ?_
                  refine tsn ?_
                  exact TE_nextr [(19301, 19301), (19302, 1060)] n (Nat.lt_succ_self n) (_, _, _) h2 ⟨rfl, rfl, tv⟩ ⟨rfl, rfl, rfl, tv⟩ rfl
                · replace h2 := bif_f h2 hb
                  refine TC_exit ?_
                  refine tsx ?_
                  refine tsx ?_
                  refine tbe ?_
                  obtain rfl := sinj h2
                  refine tsn ?_
                  exact SP_ren [(19101, 19301), (19102, 19302)] (_, _, _) rfl ⟨rfl, tv⟩ ⟨rfl, rfl, rfl, tv⟩ rfl
              · rintro ⟨x734, x735, x736⟩ rfl
                obtain rfl := sinj h1
                refine tsn ?_
                exact SP_ren [(18701, 19101), (18702, 19102)] (_, _, _, _) rfl ⟨rfl, tv⟩ ⟨rfl, rfl, rfl, tv⟩ rfl
            · replace h1 := bif_f h1 hb
              refine TC_seq ?_
              refine TC_reg ?_
              refine TL_ev env 2 rfl ⟨⟨tv, ⟨tv, tv⟩⟩, ⟨tv, tv⟩⟩ ?_
              refine TL_end ?_
              refine TE_go ?_
              refine TC_cond rfl (fun hb => ?_) (fun hb => ?_)
              · replace h1 := bif_t h1 hb
                refine TC_seq ?_
                refine TC_reg ?_
                refine TL_ev env 1 rfl ⟨tv, tv⟩ ?_
                obtain ⟨z, hr, h1⟩ := bnd h1
                rcases z with r765 | ⟨r766, r767, r768⟩
                · refine TL_callB [(0, 0)] (score_reader_storm_2.ok0 hr) score_reader_storm_2.fnb rfl ⟨tv, ⟨tv, tv⟩⟩ rfl ⟨.inr rfl, tv⟩ rfl ?_
                  refine TL_ev env 1 rfl ⟨tv, tv⟩ ?_
                  refine TL_end ?_
                  refine TE_go ?_
                  refine TC_ret ?_
                  refine tsr ?_
                  refine tbr ?_
                  refine tsr ?_
                  obtain rfl := sinj h1
                  obtain rfl := sinj h0
                  exact TE_ret env rfl tv ⟨.inr rfl, tv⟩
                · refine TL_callB [(0, 0)] (score_reader_storm_2.ok1 hr) score_reader_storm_2.fnb rfl ⟨tv, ⟨tv, tv⟩⟩ rfl ⟨.inr rfl, tv⟩ rfl ?_
                  refine TL_ev env 1 rfl ⟨tv, tv⟩ ?_
                  refine TL_end ?_
                  refine TE_go ?_
                  refine TC_ret ?_
                  refine tsr ?_
                  refine tbr ?_
                  refine tsr ?_
                  obtain rfl := sinj h1
                  obtain rfl := sinj h0
                  exact TE_ret env rfl tv ⟨.inr rfl, tv⟩
              · replace h1 := bif_f h1 hb
                refine TC_reg ?_
                refine TL_ev env 4 rfl ⟨tv, ⟨tv, ⟨tv, ⟨⟨tv, tv⟩, tv⟩⟩⟩⟩ ?_
                refine TL_end ?_
                obtain rfl := sinj h1
                refine tsn ?_
                refine TE_ownC 1003 5 920065 (.pair (.int .i64) (.pair (.int .i64) (.pair (.int .i64) (.int .u32)))) rfl rfl (by decide) rfl rfl ?_
                exact SP_ren [(18701, 1003), (18702, 920065)] (_, _, _, _) rfl ⟨rfl, tv⟩ ⟨rfl, rfl, rfl, tv⟩ rfl
          · rintro ⟨x711, x712, x713, x714⟩ rfl
            refine tbn ?_
            refine TE_go ?_
            refine TC_seq ?_
            refine TC_reg ?_
            refine TL_ev env 1 rfl ⟨⟨tv, tv⟩, tv⟩ ?_
            refine TL_frz 18702 rfl ?_
            refine TL_ev env 2 rfl ⟨⟨tv, tv⟩, ⟨tv, tv⟩⟩ ?_
            refine TL_end ?_
            refine TE_go ?_
            refine TC_ret ?_
            refine TE_frz 1067 rfl ?_
            obtain rfl := sinj h0
            exact TE_ret env rfl tv ⟨.inr rfl, tv⟩
theorem score_reader_steps_2.ok0 {K : Nat} {p0 : List (ByteArray)} {p1 : Bool} {q0 : List (ByteArray)} (h0 : score_reader_steps_2 K p0 p1 = some (.inl q0)) : Fn Tryd.prog 17 [.p 0 0] [(0, some (.cells [.im (.slice (.str)) p0, .bool p1]))] (.nils) [(0, some (.cells [.im (.slice (.str)) q0, .bool true]))] := score_reader_steps_2.ok h0
theorem score_reader_steps_2.ok1 {K : Nat} {p0 : List (ByteArray)} {p1 : Bool} {q0 : List ((Int × (Int × (List (Int) × (List (Int) × (List (Int) × List ((Int × (Int × (Int × Int))))))))))} {q1 : List (ByteArray)} {q2 : Bool} (h0 : score_reader_steps_2 K p0 p1 = some (.inr (q0, q1, q2))) : Fn Tryd.prog 17 [.p 0 0] [(0, some (.cells [.im (.slice (.str)) p0, .bool p1]))] (.im (.slice (.pair (.int .i64) (.pair (.int .i64) (.pair (.slice (.int .i16)) (.pair (.slice (.int .u8)) (.pair (.slice (.int .u8)) (.slice (.pair (.int .i64) (.pair (.int .i64) (.pair (.int .i64) (.int .u32))))))))))) q0) [(0, some (.cells [.im (.slice (.str)) q1, .bool q2]))] := score_reader_steps_2.ok h0
theorem score_reader_steps_2.fnb : fnb Tryd.prog 17 = true := fnb_of Tryd.func17 rfl
def score_Parse.res (_p0 : ByteArray) : (Int × Int) ⊕ ((List ((Int × (Int × (List (Int) × (List (Int) × (List (Int) × List ((Int × (Int × (Int × Int)))))))))))) → MV
  | .inl (q0, q1) => .tup [.nils, .int .i64 q0, .int .i64 q1]
  | .inr q0 => .tup [.im (.slice (.pair (.int .i64) (.pair (.int .i64) (.pair (.slice (.int .i16)) (.pair (.slice (.int .u8)) (.pair (.slice (.int .u8)) (.slice (.pair (.int .i64) (.pair (.int .i64) (.pair (.int .i64) (.int .u32))))))))))) q0, .int .i64 0, .int .i64 0]
def score_Parse.out (_p0 : ByteArray) : (Int × Int) ⊕ ((List ((Int × (Int × (List (Int) × (List (Int) × (List (Int) × List ((Int × (Int × (Int × Int)))))))))))) → List (Nat × Option MObj)
  | .inl (_, _) => []
  | .inr _ => []
theorem score_Parse.ok {K : Nat} {p0 : ByteArray} {r : (Int × Int) ⊕ ((List ((Int × (Int × (List (Int) × (List (Int) × (List (Int) × List ((Int × (Int × (Int × Int))))))))))))} (h0 : score_Parse K p0 = some r) : Fn Tryd.prog 7 [.str p0] [] (score_Parse.res p0 r) (score_Parse.out p0 r) := by
  refine Fn_of Tryd.func7 rfl (Nat.le_of_ble_eq_true rfl) fun Γ => ?_
  refine TC_seq ?_
  refine TC_reg ?_
  refine TL_ev env 3 rfl ⟨tv, ⟨tv, ⟨tv, tv⟩⟩⟩ ?_
  refine TL_end ?_
  refine TE_go ?_
  refine TC_seq ?_
  refine TC_seq ?_
  refine TC_reg ?_
  refine TL_ev env 3 rfl ⟨tv, ⟨⟨tv, tv⟩, ⟨⟨tv, ⟨tv, tv⟩⟩, tv⟩⟩⟩ ?_
  refine TL_end ?_
  refine TE_go ?_
  refine TC_cond rfl (fun hb => ?_) (fun hb => ?_)
  · replace h0 := bif_t h0 hb
    refine TC_seq ?_
    refine TC_reg ?_
    refine TL_ev env 3 rfl ⟨tv, ⟨tv, ⟨tv, tv⟩⟩⟩ ?_
    refine TL_end ?_
    refine TE_go ?_
    refine TC_ret ?_
    refine tsr ?_
    obtain rfl := sinj h0
    exact TE_ret env rfl tv tv
  · replace h0 := bif_f h0 hb
    refine TC_skip ?_
    refine TE_go ?_
    refine TC_seq ?_
    refine TC_reg ?_
    refine TL_ev env 1 rfl ⟨tv, tv⟩ ?_
    refine TL_end ?_
    refine TE_go ?_
    refine TC_seq ?_
    refine TC_seq ?_
    refine TC_reg ?_
    refine TL_ev env 1 rfl ⟨tv, tv⟩ ?_
    refine TL_end ?_
    refine TE_go ?_
    obtain ⟨z1, h1, h0⟩ := bnd h0
    refine TC_cut (α := (List ((Int × (Int × (List (Int) × (List (Int) × (List (Int) × List ((Int × (Int × (Int × Int)))))))))))) (fun s => z1 = .inl s) (fun s => [(5, .sl 11200)]) (fun s => [(11200, some (.rows (.pair (.int .i64) (.pair (.int .i64) (.pair (.slice (.int .i16)) (.pair (.slice (.int .u8)) (.pair (.slice (.int .u8)) (.slice (.pair (.int .i64) (.pair (.int .i64) (.pair (.int .i64) (.int .u32)))))))))) s))]) ?_ ?_
    · refine TC_blk ?_
      refine TC_loop (α := ByteArray × Int × (List ((Int × (Int × (List (Int) × (List (Int) × (List (Int) × List ((Int × (Int × (Int × Int)))))))))))) (fun n s => score_Parse.l0 K n s.1 s.2.1 s.2.2 = some z1) (fun s => [(0, .str s.1), (5, .sl 11500), (6, .int .i64 s.2.1)]) (fun s => [(11500, some (.rows (.pair (.int .i64) (.pair (.int .i64) (.pair (.slice (.int .i16)) (.pair (.slice (.int .u8)) (.pair (.slice (.int .u8)) (.slice (.pair (.int .i64) (.pair (.int .i64) (.pair (.int .i64) (.int .u32)))))))))) s.2.2))]) K ?_ ?_
      · refine TE_own 5 7005 (.pair (.int .i64) (.pair (.int .i64) (.pair (.slice (.int .i16)) (.pair (.slice (.int .u8)) (.pair (.slice (.int .u8)) (.slice (.pair (.int .i64) (.pair (.int .i64) (.pair (.int .i64) (.int .u32)))))))))) rfl (by decide) rfl rfl ?_
        exact SP_ren [(11500, 7005)] (_, _, _) h1 ⟨rfl, rfl, rfl, tv⟩ ⟨rfl, tv⟩ rfl
      rintro n ⟨x76, x77, x78⟩ h1
      rcases n with _ | n
      · exact (nsome h1).elim
      replace h1 : score_Parse.r0 K (score_Parse.l0 K n) x76 x77 x78 = some z1 := h1
      refine TC_seq ?_
      refine TC_seq ?_
      refine TC_reg ?_
      refine TL_ev env 2 rfl ⟨tv, ⟨⟨tv, ⟨tv, tv⟩⟩, tv⟩⟩ ?_
      refine TL_end ?_
      refine TE_go ?_
      refine TC_cond rfl (fun hb => ?_) (fun hb => ?_)
      · replace h1 := bif_t h1 hb
        refine TC_skip ?_
        refine TE_go ?_
        refine TC_seq ?_
        obtain ⟨z2, h2, h1⟩ := bnd h1
        refine TC_cut (α := ByteArray × (List ((Int × (Int × (List (Int) × (List (Int) × (List (Int) × List ((Int × (Int × (Int × Int)))))))))))) (fun s => z2 = .inl s) (fun s => [(0, .str s.1), (5, .sl 11800), (6, .int .i64 x77)]) (fun s => [(11800, some (.rows (.pair (.int .i64) (.pair (.int .i64) (.pair (.slice (.int .i16)) (.pair (.slice (.int .u8)) (.pair (.slice (.int .u8)) (.slice (.pair (.int .i64) (.pair (.int .i64) (.pair (.int .i64) (.int .u32)))))))))) s.2))]) ?_ ?_
        · refine TC_blk ?_
          refine TC_seq ?_
          refine TC_reg ?_
          refine TL_ev env 1 rfl ⟨tv, tv⟩ ?_
          obtain ⟨⟨r108, r109, r110⟩, hr, h2⟩ := bnd h2
          refine TL_callB [] (strings_Cut.ok0 hr) strings_Cut.fnb rfl ⟨tv, ⟨tv, ⟨tv, tv⟩⟩⟩ rfl tv rfl ?_
          refine TL_ev env 7 rfl ⟨tv, ⟨tv, ⟨tv, ⟨tv, ⟨tv, ⟨tv, ⟨tv, tv⟩⟩⟩⟩⟩⟩⟩ ?_
          refine TL_end ?_
          refine TE_go ?_
          refine TC_seq ?_
          refine TC_reg ?_
          refine TL_ev env 2 rfl ⟨tv, ⟨tv, tv⟩⟩ ?_
          refine TL_end ?_
          refine TE_go ?_
          refine TC_seq ?_
          refine TC_seq ?_
          refine TC_reg ?_
          obtain ⟨g, h2⟩ := gd_t h2
          refine TL_ev env 10 rfl ⟨tv, ⟨tv, ⟨fun eg => tv, ⟨fun eg => ⟨fun e => e, ⟨tv, tv⟩⟩, ⟨fun eg => fun e => e, ⟨fun eg => tv, ⟨fun eg => ⟨fun e => e, ⟨tv, ⟨(by decide), (g eg)⟩⟩⟩, ⟨fun eg => ⟨fun e => e, ⟨tv, tv⟩⟩, ⟨fun eg => ⟨fun e => e, ⟨tv, ((by decide : ∀ b0 b1 : Bool, b1 = true → (!b0) = true → (b1 && (!b0)) = true) _ _ eg)⟩⟩, ⟨⟨tv, ⟨fun e => e, tv⟩⟩, tv⟩⟩⟩⟩⟩⟩⟩⟩⟩⟩ ?_
          refine TL_end ?_
          refine TE_go ?_
          refine TC_cond rfl (fun hb => ?_) (fun hb => ?_)
          · replace h2 := bif_t h2 hb
            refine TC_exit ?_
            refine tsx ?_
            refine tbe ?_
            obtain rfl := sinj h2
            refine tsn ?_
            exact SP_ren [(11800, 11500)] (_, _) rfl ⟨rfl, rfl, rfl, tv⟩ ⟨rfl, tv⟩ rfl
          · replace h2 := bif_f h2 hb
            refine TC_skip ?_
            refine TE_go ?_
            refine TC_seq ?_
            refine TC_reg ?_
            refine TL_ev env 1 rfl ⟨tv, tv⟩ ?_
            obtain ⟨z, hr, h2⟩ := bnd h2
            rcases z with ⟨⟩ | r115
            · refine TL_callB [] (strings_Split.ok0 hr) strings_Split.fnb rfl ⟨tv, ⟨tv, ⟨tv, tv⟩⟩⟩ rfl tv rfl ?_
              refine TL_ev env 3 rfl ⟨⟨tv, tv⟩, ⟨tv, ⟨⟨tv, tv⟩, tv⟩⟩⟩ ?_
              refine TL_end ?_
              refine TE_go ?_
              refine TC_seq ?_
              refine TC_reg ?_
              obtain ⟨z, hr, h2⟩ := bnd h2
              rcases z with ⟨⟩ | ⟨r116, r117⟩
              · refine TL_callB [(0, 1010)] (score_reader_steps.ok0 hr) score_reader_steps.fnb rfl ⟨tv, ⟨tv, tv⟩⟩ rfl ⟨.inr rfl, tv⟩ rfl ?_
                refine TL_ev env 1 rfl ⟨tv, tv⟩ ?_
                refine TL_end ?_
                refine TE_go ?_
                refine TC_seq ?_
                refine TC_reg ?_
                obtain ⟨g, h2⟩ := gd_t h2
                refine TL_ev env 4 rfl ⟨tv, ⟨tv, ⟨⟨⟨tv, ⟨tv, tv⟩⟩, g⟩, ⟨tv, tv⟩⟩⟩⟩ ?_
                refine TL_end ?_
                refine TE_go ?_
                refine TC_seq ?_
                refine TC_reg ?_
                refine TL_ev env 17 rfl ⟨tv, ⟨tv, ⟨tv, ⟨fun eg => tv, ⟨fun eg => ⟨fun e => e, tv⟩, ⟨⟨tv, ⟨tv, fun e => e⟩⟩, ⟨tv, ⟨fun eg => tv, ⟨fun eg => ⟨fun e => e, tv⟩, ⟨fun eg => ⟨fun e => e, tv⟩, ⟨fun eg => ⟨fun e => e, ⟨tv, tv⟩⟩, ⟨⟨tv, ⟨tv, fun e => e⟩⟩, ⟨tv, ⟨fun eg => tv, ⟨fun eg => ⟨fun e => e, tv⟩, ⟨fun eg => ⟨fun e => e, ⟨tv, tv⟩⟩, ⟨⟨tv, ⟨tv, fun e => e⟩⟩, tv⟩⟩⟩⟩⟩⟩⟩⟩⟩⟩⟩⟩⟩⟩⟩⟩⟩ ?_
                refine TL_end ?_
                refine TE_go ?_
                refine TC_cond rfl (fun hb => ?_) (fun hb => ?_)
                · replace h2 := bif_t h2 hb
                  refine TC_seq ?_
                  refine TC_reg ?_
                  refine TL_ev env 4 rfl ⟨tv, ⟨tv, ⟨tv, ⟨tv, tv⟩⟩⟩⟩ ?_
                  refine TL_end ?_
                  refine TE_go ?_
                  refine TC_ret ?_
                  refine tbr ?_
                  refine tsr ?_
                  refine tsr ?_
                  refine tsr ?_
                  refine tbr ?_
                  refine tsr ?_
                  refine tsr ?_
                  obtain rfl := sinj h2
                  obtain rfl := sinj h1
                  obtain rfl := sinj h0
                  exact TE_ret env rfl tv tv
                · replace h2 := bif_f h2 hb
                  refine TC_skip ?_
                  refine tbn ?_
                  obtain rfl := sinj h2
                  refine tsn ?_
                  exact SP_ren [(11800, 1042)] (_, _) rfl ⟨rfl, rfl, rfl, tv⟩ ⟨rfl, tv⟩ rfl
              · refine TL_callB [(0, 1010)] (score_reader_steps.ok1 hr) score_reader_steps.fnb rfl ⟨tv, ⟨tv, tv⟩⟩ rfl ⟨.inr rfl, tv⟩ rfl ?_
                refine TL_ev env 1 rfl ⟨tv, tv⟩ ?_
                refine TL_end ?_
                refine TE_go ?_
                refine TC_seq ?_
                refine TC_reg ?_
                obtain ⟨g, h2⟩ := gd_t h2
                refine TL_ev env 4 rfl ⟨tv, ⟨tv, ⟨⟨⟨tv, ⟨tv, tv⟩⟩, g⟩, ⟨tv, tv⟩⟩⟩⟩ ?_
                refine TL_end ?_
                refine TE_go ?_
                refine TC_seq ?_
                refine TC_reg ?_
                refine TL_ev env 17 rfl ⟨tv, ⟨tv, ⟨tv, ⟨fun eg => tv, ⟨fun eg => ⟨fun e => e, tv⟩, ⟨⟨tv, ⟨tv, fun e => e⟩⟩, ⟨tv, ⟨fun eg => tv, ⟨fun eg => ⟨fun e => e, tv⟩, ⟨fun eg => ⟨fun e => e, tv⟩, ⟨fun eg => ⟨fun e => e, ⟨tv, tv⟩⟩, ⟨⟨tv, ⟨tv, fun e => e⟩⟩, ⟨tv, ⟨fun eg => tv, ⟨fun eg => ⟨fun e => e, tv⟩, ⟨fun eg => ⟨fun e => e, ⟨tv, tv⟩⟩, ⟨⟨tv, ⟨tv, fun e => e⟩⟩, tv⟩⟩⟩⟩⟩⟩⟩⟩⟩⟩⟩⟩⟩⟩⟩⟩⟩ ?_
                refine TL_end ?_
                refine TE_go ?_
                refine TC_cond rfl (fun hb => ?_) (fun hb => ?_)
                · replace h2 := bif_t h2 hb
                  refine TC_seq ?_
                  refine TC_reg ?_
                  refine TL_ev env 4 rfl ⟨tv, ⟨tv, ⟨tv, ⟨tv, tv⟩⟩⟩⟩ ?_
                  refine TL_end ?_
                  refine TE_go ?_
                  refine TC_ret ?_
                  refine tbr ?_
                  refine tsr ?_
                  refine tsr ?_
                  refine tsr ?_
                  refine tbr ?_
                  refine tsr ?_
                  refine tsr ?_
                  obtain rfl := sinj h2
                  obtain rfl := sinj h1
                  obtain rfl := sinj h0
                  exact TE_ret env rfl tv tv
                · replace h2 := bif_f h2 hb
                  refine TC_skip ?_
                  refine tbn ?_
                  obtain rfl := sinj h2
                  refine tsn ?_
                  exact SP_ren [(11800, 1042)] (_, _) rfl ⟨rfl, rfl, rfl, tv⟩ ⟨rfl, tv⟩ rfl
            · refine TL_callB [] (strings_Split.ok1 hr) strings_Split.fnb rfl ⟨tv, ⟨tv, ⟨tv, tv⟩⟩⟩ rfl tv rfl ?_
              refine TL_ev env 3 rfl ⟨⟨tv, tv⟩, ⟨tv, ⟨⟨tv, tv⟩, tv⟩⟩⟩ ?_
              refine TL_end ?_
              refine TE_go ?_
              refine TC_seq ?_
              refine TC_reg ?_
              obtain ⟨z, hr, h2⟩ := bnd h2
              rcases z with r129 | ⟨r130, r131, r132⟩
              · refine TL_callB [(0, 1010)] (score_reader_steps_2.ok0 hr) score_reader_steps_2.fnb rfl ⟨tv, ⟨tv, tv⟩⟩ rfl ⟨.inr rfl, tv⟩ rfl ?_
                refine TL_ev env 1 rfl ⟨tv, tv⟩ ?_
                refine TL_end ?_
                refine TE_go ?_
                refine TC_seq ?_
                refine TC_reg ?_
                obtain ⟨g, h2⟩ := gd_t h2
                refine TL_ev env 4 rfl ⟨tv, ⟨tv, ⟨⟨⟨tv, ⟨tv, tv⟩⟩, g⟩, ⟨tv, tv⟩⟩⟩⟩ ?_
                refine TL_end ?_
                refine TE_go ?_
                refine TC_seq ?_
                refine TC_reg ?_
                refine TL_ev env 17 rfl ⟨tv, ⟨tv, ⟨tv, ⟨fun eg => tv, ⟨fun eg => ⟨fun e => e, tv⟩, ⟨⟨tv, ⟨tv, fun e => e⟩⟩, ⟨tv, ⟨fun eg => tv, ⟨fun eg => ⟨fun e => e, tv⟩, ⟨fun eg => ⟨fun e => e, tv⟩, ⟨fun eg => ⟨fun e => e, ⟨tv, tv⟩⟩, ⟨⟨tv, ⟨tv, fun e => e⟩⟩, ⟨tv, ⟨fun eg => tv, ⟨fun eg => ⟨fun e => e, tv⟩, ⟨fun eg => ⟨fun e => e, ⟨tv, tv⟩⟩, ⟨⟨tv, ⟨tv, fun e => e⟩⟩, tv⟩⟩⟩⟩⟩⟩⟩⟩⟩⟩⟩⟩⟩⟩⟩⟩⟩ ?_
                refine TL_end ?_
                refine TE_go ?_
                refine TC_cond rfl (fun hb => ?_) (fun hb => ?_)
                · replace h2 := bif_t h2 hb
                  refine TC_seq ?_
                  refine TC_reg ?_
                  refine TL_ev env 4 rfl ⟨tv, ⟨tv, ⟨tv, ⟨tv, tv⟩⟩⟩⟩ ?_
                  refine TL_end ?_
                  refine TE_go ?_
                  refine TC_ret ?_
                  refine tbr ?_
                  refine tsr ?_
                  refine tsr ?_
                  refine tsr ?_
                  refine tbr ?_
                  refine tsr ?_
                  refine tsr ?_
                  obtain rfl := sinj h2
                  obtain rfl := sinj h1
                  obtain rfl := sinj h0
                  exact TE_ret env rfl tv tv
                · replace h2 := bif_f h2 hb
                  refine TC_skip ?_
                  refine tbn ?_
                  obtain rfl := sinj h2
                  refine tsn ?_
                  exact SP_ren [(11800, 1042)] (_, _) rfl ⟨rfl, rfl, rfl, tv⟩ ⟨rfl, tv⟩ rfl
              · refine TL_callB [(0, 1010)] (score_reader_steps_2.ok1 hr) score_reader_steps_2.fnb rfl ⟨tv, ⟨tv, tv⟩⟩ rfl ⟨.inr rfl, tv⟩ rfl ?_
                refine TL_ev env 1 rfl ⟨tv, tv⟩ ?_
                refine TL_end ?_
                refine TE_go ?_
                refine TC_seq ?_
                refine TC_reg ?_
                obtain ⟨g, h2⟩ := gd_t h2
                refine TL_ev env 4 rfl ⟨tv, ⟨tv, ⟨⟨⟨tv, ⟨tv, tv⟩⟩, g⟩, ⟨tv, tv⟩⟩⟩⟩ ?_
                refine TL_end ?_
                refine TE_go ?_
                refine TC_seq ?_
                refine TC_reg ?_
                refine TL_ev env 17 rfl ⟨tv, ⟨tv, ⟨tv, ⟨fun eg => tv, ⟨fun eg => ⟨fun e => e, tv⟩, ⟨⟨tv, ⟨tv, fun e => e⟩⟩, ⟨tv, ⟨fun eg => tv, ⟨fun eg => ⟨fun e => e, tv⟩, ⟨fun eg => ⟨fun e => e, tv⟩, ⟨fun eg => ⟨fun e => e, ⟨tv, tv⟩⟩, ⟨⟨tv, ⟨tv, fun e => e⟩⟩, ⟨tv, ⟨fun eg => tv, ⟨fun eg => ⟨fun e => e, tv⟩, ⟨fun eg => ⟨fun e => e, ⟨tv, tv⟩⟩, ⟨⟨tv, ⟨tv, fun e => e⟩⟩, tv⟩⟩⟩⟩⟩⟩⟩⟩⟩⟩⟩⟩⟩⟩⟩⟩⟩ ?_
                refine TL_end ?_
                refine TE_go ?_
                refine TC_cond rfl (fun hb => ?_) (fun hb => ?_)
                · replace h2 := bif_t h2 hb
                  refine TC_seq ?_
                  refine TC_reg ?_
                  refine TL_ev env 4 rfl ⟨tv, ⟨tv, ⟨tv, ⟨tv, tv⟩⟩⟩⟩ ?_
                  refine TL_end ?_
                  refine TE_go ?_
                  refine TC_ret ?_
                  refine tbr ?_
                  refine tsr ?_
                  refine tsr ?_
                  refine tsr ?_
                  refine tbr ?_
                  refine tsr ?_
                  refine tsr ?_
                  obtain rfl := sinj h2
                  obtain rfl := sinj h1
                  obtain rfl := sinj h0
                  exact TE_ret env rfl tv tv
                · replace h2 := bif_f h2 hb
                  refine TC_skip ?_
                  refine tbn ?_
                  obtain rfl := sinj h2
                  refine tsn ?_
                  exact SP_ren [(11800, 1042)] (_, _) rfl ⟨rfl, rfl, rfl, tv⟩ ⟨rfl, tv⟩ rfl
        · rintro ⟨x105, x106⟩ rfl
          refine TE_go ?_
          refine TC_reg ?_
          refine TL_ev env 3 rfl ⟨tv, ⟨⟨tv, ⟨tv, tv⟩⟩, ⟨tv, tv⟩⟩⟩ ?_
          refine TL_end ?_
          refine tsn ?_
          exact TE_nextr [(11500, 11800)] n (Nat.lt_succ_self n) (_, _, _) h1 ⟨rfl, rfl, rfl, tv⟩ ⟨rfl, tv⟩ rfl
      · replace h1 := bif_f h1 hb
        refine TC_exit ?_
        refine tsx ?_
        refine tsx ?_
        refine tbe ?_
        obtain rfl := sinj h1
        refine tsn ?_
        exact SP_ren [(11200, 11500)] _ rfl ⟨rfl, tv⟩ ⟨rfl, tv⟩ rfl
    · rintro x63 hz
      obtain rfl := hz.symm
      refine TE_go ?_
      refine TC_seq ?_
      refine TC_reg ?_
      refine TL_ev env 4 rfl ⟨tv, ⟨tv, ⟨tv, ⟨tv, tv⟩⟩⟩⟩ ?_
      refine TL_end ?_
      refine TE_go ?_
      refine TC_ret ?_
      refine TE_frz 11200 rfl ?_
      obtain rfl := sinj h0
      exact TE_ret env rfl tv tv
theorem score_Parse.ok0 {K : Nat} {p0 : ByteArray} {q0 : Int} {q1 : Int} (h0 : score_Parse K p0 = some (.inl (q0, q1))) : Fn Tryd.prog 7 [.str p0] [] (.tup [.nils, .int .i64 q0, .int .i64 q1]) [] := score_Parse.ok h0
theorem score_Parse.ok1 {K : Nat} {p0 : ByteArray} {q0 : List ((Int × (Int × (List (Int) × (List (Int) × (List (Int) × List ((Int × (Int × (Int × Int))))))))))} (h0 : score_Parse K p0 = some (.inr q0)) : Fn Tryd.prog 7 [.str p0] [] (.tup [.im (.slice (.pair (.int .i64) (.pair (.int .i64) (.pair (.slice (.int .i16)) (.pair (.slice (.int .u8)) (.pair (.slice (.int .u8)) (.slice (.pair (.int .i64) (.pair (.int .i64) (.pair (.int .i64) (.int .u32))))))))))) q0, .int .i64 0, .int .i64 0]) [] := score_Parse.ok h0
theorem score_Parse.fnb : fnb Tryd.prog 7 = true := fnb_of Tryd.func7 rfl
end Go.Fo
