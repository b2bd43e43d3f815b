/- Each call comes to the function that is written for it. -/
import Derived.Test.YtcaehpgdcjonfaaBoT
import Derived.Test.YtcaehpgdcjonfaaBoF
import Derived.Test.YtcaehpgdcjonfaaBx
namespace Go.Fo
open Go.Proofs
set_option maxRecDepth 20000
set_option maxHeartbeats 4000000
theorem bank_New.ok0 {K : Nat} (h0 : bank_New K = some ()) : Fn Try.prog 59 [] [] (.p 1000 0) [(1000, some (.ab (bkA (List.replicate 388 none) 0 0)))] := by
  have h : Fn Try.prog 59 [] [] (.p 1000 0) [(1000, some (.cells (pst (List.replicate 388 none) 0 0)))] := by
    refine Fn_of Try.func59 rfl (Nat.le_of_ble_eq_true rfl) fun Γ => ?_
    refine TC_seq ?_
    refine TC_reg ?_
    refine TL_ev env 1 rfl (by decide) ?_
    refine TL_end ?_
    refine TE_go ?_
    refine TC_seq ?_
    refine TC_reg ?_
    refine TL_ev env 3 rfl (by decide) ?_
    refine TL_end ?_
    refine TE_go ?_
    refine TC_ret ?_
    refine TE_renw (A' := [(0, .p 1000 0)]) (L' := [(1000, some (.cells (pst (List.replicate 388 none) 0 0)))]) [(1000, 1002)] ⟨rfl, tv⟩ ⟨rfl, tv⟩ rfl ?_
    exact TE_ret env rfl tv ⟨.inr rfl, tv⟩
  intro X ρ m w vs hp hv
  refine (h X ρ m w vs hp hv).mono ?_
  rintro e w' ⟨ρ', m', v, rfl, h1, h2, h3, h4⟩
  exact ⟨ρ', m', v, rfl, h1, h2.conv (fun k o hk => by
    simp only [getO] at hk ⊢
    split at hk
    · rename_i e
      have e' : 1000 = k := beq_iff_eq.1 e
      subst e'
      simp only [Option.some.injEq] at hk; subst hk
      exact ⟨_, rfl, (osat_abcells (pst_kf _ _ _)).2 (h2.obj 1000 _ rfl)⟩
    · cases hk), h3, h4⟩
theorem bank_New.fnb : fnb Try.prog 59 = true := fnb_of Try.func59 rfl
def bank_Bank_may.res (_p0 : Bool) (_p1 : List (Option (List (Int)))) (_p2 : Int) (_p3 : Int) : Int → MV
  | q0 => .int .i64 q0
def bank_Bank_may.out (_p0 : Bool) (p1 : List (Option (List (Int)))) (p2 : Int) (p3 : Int) : Int → List (Nat × Option MObj)
  | _ => [(0, some (.ab (bkA p1 p2 p3)))]
theorem bank_Bank_may.ok {K : Nat} {p0 : Bool} {p1 : List (Option (List (Int)))} {p2 : Int} {p3 : Int} {r : Int} (h0 : bank_Bank_may K p0 p1 p2 p3 = some r) : Fn Try.prog 137 [.p 0 0, .bool p0] [(0, some (.ab (bkA p1 p2 p3)))] (bank_Bank_may.res p0 p1 p2 p3 r) (bank_Bank_may.out p0 p1 p2 p3 r) := by
  refine Fn_of Try.func137 rfl (Nat.le_of_ble_eq_true rfl) fun Γ => ?_
  refine TC_seq ?_
  refine TC_reg ?_
  refine TL_ev env 1 rfl ⟨tv, tv⟩ ?_
  refine TL_end ?_
  refine TE_go ?_
  refine TC_seq ?_
  refine TC_blk ?_
  refine TC_seq ?_
  refine TC_reg ?_
  refine TL_ev env 3 rfl ⟨tv, ⟨⟨tv, ⟨tv, tv⟩⟩, ⟨tv, tv⟩⟩⟩ ?_
  refine TL_end ?_
  refine TE_go ?_
  refine TC_cond rfl (fun hb => ?_) (fun hb => ?_)
  · first | exact (ftf hb).elim | exact (tff hb).elim | exact absurd hb (by decide)
  · refine TC_seq ?_
    refine TC_reg ?_
    refine TL_ev env 3 rfl ⟨tv, ⟨tv, ⟨tv, tv⟩⟩⟩ ?_
    refine TL_end ?_
    refine TE_go ?_
    refine TC_cond rfl (fun hb => ?_) (fun hb => ?_)
    · replace h0 := bif_t h0 hb
      refine TC_seq ?_
      refine TC_reg ?_
      refine TL_ev env 1 rfl ⟨tv, tv⟩ ?_
      refine TL_end ?_
      refine TE_go ?_
      refine TC_ret ?_
      refine tbr ?_
      refine tsr ?_
      obtain rfl := sinj h0
      exact TE_ret env rfl tv ⟨.inr rfl, tv⟩
    · replace h0 := bif_f h0 hb
      refine TC_skip ?_
      refine tbn ?_
      refine TE_go ?_
      refine TC_seq ?_
      refine TC_reg ?_
      refine TL_ev env 1 rfl ⟨tv, tv⟩ ?_
      refine TL_end ?_
      refine TE_go ?_
      refine TC_ret ?_
      obtain rfl := sinj h0
      exact TE_ret env rfl tv ⟨.inr rfl, tv⟩
theorem bank_Bank_may.ok0 {K : Nat} {p0 : Bool} {p1 : List (Option (List (Int)))} {p2 : Int} {p3 : Int} {q0 : Int} (h0 : bank_Bank_may K p0 p1 p2 p3 = some q0) : Fn Try.prog 137 [.p 0 0, .bool p0] [(0, some (.ab (bkA p1 p2 p3)))] (.int .i64 q0) [(0, some (.ab (bkA p1 p2 p3)))] := bank_Bank_may.ok h0
theorem bank_Bank_may.fnb : fnb Try.prog 137 = true := fnb_of Try.func137 rfl
theorem sync_atomic_Bool_Load.ok0 {K : Nat} {p0 : List (Option (List (Int)))} {p1 : List (Option (List (Int)))} {p2 : Int} {p3 : Int} (h0 : sync_atomic_Bool_Load K p0 p1 p2 p3 = some ()) : Fn Try.prog 174 [.pf 0 (tcs p0).length 0] [(0, some (.foc (tcs p0) [.int .u32 0, .int .i32 0, .int .u32 0, .nils] (pst p1 p2 p3)))] (.bool false) [(0, some (.foc (tcs p0) [.int .u32 0, .int .i32 0, .int .u32 0, .nils] (pst p1 p2 p3)))] := by
  exact boolLoad_fn rfl
theorem sync_atomic_Bool_Load.fnb : fnb Try.prog 174 = true := fnb_of Try.func174 rfl
def wave_modulo.res (_p0 : Int) (_p1 : Int) : Int → MV
  | q0 => .int .i64 q0
def wave_modulo.out (_p0 : Int) (_p1 : Int) : Int → List (Nat × Option MObj)
  | _ => []
theorem wave_modulo.ok {K : Nat} {p0 : Int} {p1 : Int} {r : Int} (h0 : wave_modulo K p0 p1 = some r) : Fn Try.prog 166 [.int .i64 p0, .int .i64 p1] [] (wave_modulo.res p0 p1 r) (wave_modulo.out p0 p1 r) := by
  refine Fn_of Try.func166 rfl (Nat.le_of_ble_eq_true rfl) fun Γ => ?_
  refine TC_seq ?_
  refine TC_reg ?_
  refine TL_ev env 1 rfl ⟨tv, tv⟩ ?_
  refine TL_end ?_
  refine TE_go ?_
  refine TC_seq ?_
  refine TC_reg ?_
  obtain ⟨g, h0⟩ := gd_t h0
  refine TL_ev env 4 rfl ⟨tv, ⟨tv, ⟨⟨tv, ⟨tv, g⟩⟩, ⟨tv, tv⟩⟩⟩⟩ ?_
  refine TL_end ?_
  refine TE_go ?_
  refine TC_seq ?_
  refine TC_seq ?_
  refine TC_reg ?_
  refine TL_ev env 2 rfl ⟨tv, ⟨⟨tv, ⟨tv, tv⟩⟩, tv⟩⟩ ?_
  refine TL_end ?_
  refine TE_go ?_
  obtain ⟨z1, h1, h0⟩ := bnd h0
  refine TC_cut (α := Int) (fun s => z1 = s) (fun s => [(0, .int .i64 s)]) (fun s => []) ?_ ?_
  · refine TC_cond rfl (fun hb => ?_) (fun hb => ?_)
    · replace h1 := bif_t h1 hb
      refine TC_reg ?_
      refine TL_ev env 4 rfl ⟨tv, ⟨tv, ⟨⟨tv, ⟨tv, tv⟩⟩, ⟨tv, tv⟩⟩⟩⟩ ?_
      refine TL_end ?_
      obtain rfl := sinj h1
      refine tsn ?_
      exact SP_ren [] _ rfl ⟨rfl, tv⟩ tv rfl
    · replace h1 := bif_f h1 hb
      refine TC_skip ?_
      obtain rfl := sinj h1
      refine tsn ?_
      exact SP_ren [] _ rfl ⟨rfl, tv⟩ tv rfl
  · rintro x4 hz
    obtain rfl := hz.symm
    refine TE_go ?_
    refine TC_seq ?_
    refine TC_reg ?_
    refine TL_ev env 2 rfl ⟨tv, ⟨tv, tv⟩⟩ ?_
    refine TL_end ?_
    refine TE_go ?_
    refine TC_ret ?_
    obtain rfl := sinj h0
    exact TE_ret env rfl tv tv
theorem wave_modulo.ok0 {K : Nat} {p0 : Int} {p1 : Int} {q0 : Int} (h0 : wave_modulo K p0 p1 = some q0) : Fn Try.prog 166 [.int .i64 p0, .int .i64 p1] [] (.int .i64 q0) [] := wave_modulo.ok h0
theorem wave_modulo.fnb : fnb Try.prog 166 = true := fnb_of Try.func166 rfl
def wave_height.res (_p0 : Int) (_p1 : Int) : Int × Int → MV
  | (q0, q1) => .tup [.int .u64 q0, .int .i64 q1]
def wave_height.out (_p0 : Int) (_p1 : Int) : Int × Int → List (Nat × Option MObj)
  | (_, _) => []
theorem wave_height.ok {K : Nat} {p0 : Int} {p1 : Int} {r : Int × Int} (h0 : wave_height K p0 p1 = some r) : Fn Try.prog 177 [.int .i64 p0, .int .i64 p1] [] (wave_height.res p0 p1 r) (wave_height.out p0 p1 r) := by
  refine Fn_of Try.func177 rfl (Nat.le_of_ble_eq_true rfl) fun Γ => ?_
  refine TC_seq ?_
  refine TC_reg ?_
  refine TL_ev env 2 rfl ⟨tv, ⟨tv, tv⟩⟩ ?_
  refine TL_end ?_
  refine TE_go ?_
  refine TC_seq ?_
  refine TC_reg ?_
  refine TL_ev env 2 rfl ⟨tv, ⟨tv, tv⟩⟩ ?_
  obtain ⟨r3, hr, h0⟩ := bnd h0
  refine TL_callB [] (wave_modulo.ok0 hr) wave_modulo.fnb rfl ⟨tv, ⟨tv, ⟨tv, tv⟩⟩⟩ rfl tv rfl ?_
  refine TL_ev env 2 rfl ⟨⟨tv, ⟨tv, tv⟩⟩, ⟨tv, tv⟩⟩ ?_
  refine TL_end ?_
  refine TE_go ?_
  refine TC_seq ?_
  refine TC_reg ?_
  obtain ⟨g, h0⟩ := gd_t h0
  refine TL_ev env 4 rfl ⟨tv, ⟨tv, ⟨⟨tv, ⟨tv, g⟩⟩, ⟨tv, tv⟩⟩⟩⟩ ?_
  refine TL_end ?_
  refine TE_go ?_
  refine TC_seq ?_
  refine TC_reg ?_
  obtain ⟨g, h0⟩ := gd_t h0
  refine TL_ev env 4 rfl ⟨tv, ⟨tv, ⟨⟨tv, ⟨tv, g⟩⟩, ⟨tv, tv⟩⟩⟩⟩ ?_
  refine TL_end ?_
  refine TE_go ?_
  refine TC_seq ?_
  refine TC_seq ?_
  refine TC_reg ?_
  refine TL_ev env 3 rfl ⟨tv, ⟨⟨tv, ⟨tv, tv⟩⟩, ⟨⟨tv, ⟨tv, tv⟩⟩, tv⟩⟩⟩ ?_
  refine TL_end ?_
  refine TE_go ?_
  obtain ⟨z1, h1, h0⟩ := bnd h0
  refine TC_cut (α := Int) (fun s => z1 = s) (fun s => [(1, .int .i64 p1), (5, .int .i64 (kwrap .i64 (Int.tdiv (kwrap .i64 (4 * r3)) p1))), (7, .int .i64 s)]) (fun s => []) ?_ ?_
  · refine TC_cond rfl (fun hb => ?_) (fun hb => ?_)
    · replace h1 := bif_t h1 hb
      refine TC_reg ?_
      refine TL_ev env 4 rfl ⟨tv, ⟨tv, ⟨⟨tv, ⟨tv, tv⟩⟩, ⟨tv, tv⟩⟩⟩⟩ ?_
      refine TL_end ?_
      obtain rfl := sinj h1
      refine tsn ?_
      exact SP_ren [] _ rfl ⟨rfl, rfl, rfl, tv⟩ tv rfl
    · replace h1 := bif_f h1 hb
      refine TC_skip ?_
      obtain rfl := sinj h1
      refine tsn ?_
      exact SP_ren [] _ rfl ⟨rfl, rfl, rfl, tv⟩ tv rfl
  · rintro x8 hz
    obtain rfl := hz.symm
    refine TE_go ?_
    refine TC_seq ?_
    refine TC_reg ?_
    obtain ⟨g, h0⟩ := gd_t h0
    refine TL_ev env 9 rfl ⟨tv, ⟨tv, ⟨⟨tv, ⟨tv, (by decide)⟩⟩, ⟨tv, ⟨tv, ⟨⟨tv, ⟨tv, g⟩⟩, ⟨tv, ⟨tv, ⟨tv, tv⟩⟩⟩⟩⟩⟩⟩⟩⟩ ?_
    refine TL_end ?_
    refine TE_go ?_
    refine TC_ret ?_
    obtain rfl := sinj h0
    exact TE_ret env rfl tv tv
theorem wave_height.ok0 {K : Nat} {p0 : Int} {p1 : Int} {q0 : Int} {q1 : Int} (h0 : wave_height K p0 p1 = some (q0, q1)) : Fn Try.prog 177 [.int .i64 p0, .int .i64 p1] [] (.tup [.int .u64 q0, .int .i64 q1]) [] := wave_height.ok h0
theorem wave_height.fnb : fnb Try.prog 177 = true := fnb_of Try.func177 rfl
def fix_within_int.res (_p0 : Int) (_p1 : Int) (_p2 : Int) : Int → MV
  | q0 => .int .i64 q0
def fix_within_int.out (_p0 : Int) (_p1 : Int) (_p2 : Int) : Int → List (Nat × Option MObj)
  | _ => []
theorem fix_within_int.ok {K : Nat} {p0 : Int} {p1 : Int} {p2 : Int} {r : Int} (h0 : fix_within_int K p0 p1 p2 = some r) : Fn Try.prog 180 [.int .i64 p0, .int .i64 p1, .int .i64 p2] [] (fix_within_int.res p0 p1 p2 r) (fix_within_int.out p0 p1 p2 r) := by
  refine Fn_of Try.func180 rfl (Nat.le_of_ble_eq_true rfl) fun Γ => ?_
  refine TC_seq ?_
  refine TC_reg ?_
  refine TL_ev env 1 rfl ⟨tv, tv⟩ ?_
  refine TL_end ?_
  refine TE_go ?_
  refine TC_seq ?_
  refine TC_blk ?_
  refine TC_seq ?_
  refine TC_reg ?_
  refine TL_ev env 4 rfl ⟨tv, ⟨tv, ⟨⟨tv, ⟨tv, tv⟩⟩, ⟨tv, tv⟩⟩⟩⟩ ?_
  refine TL_end ?_
  refine TE_go ?_
  refine TC_cond rfl (fun hb => ?_) (fun hb => ?_)
  · replace h0 := bif_t h0 hb
    refine TC_seq ?_
    refine TC_reg ?_
    refine TL_ev env 2 rfl ⟨tv, ⟨tv, tv⟩⟩ ?_
    refine TL_end ?_
    refine TE_go ?_
    refine TC_ret ?_
    refine tbr ?_
    refine tsr ?_
    obtain rfl := sinj h0
    exact TE_ret env rfl tv tv
  · replace h0 := bif_f h0 hb
    refine TC_seq ?_
    refine TC_reg ?_
    refine TL_ev env 4 rfl ⟨tv, ⟨tv, ⟨⟨tv, ⟨tv, tv⟩⟩, ⟨tv, tv⟩⟩⟩⟩ ?_
    refine TL_end ?_
    refine TE_go ?_
    refine TC_cond rfl (fun hb => ?_) (fun hb => ?_)
    · replace h0 := bif_t h0 hb
      refine TC_seq ?_
      refine TC_reg ?_
      refine TL_ev env 2 rfl ⟨tv, ⟨tv, tv⟩⟩ ?_
      refine TL_end ?_
      refine TE_go ?_
      refine TC_ret ?_
      refine tbr ?_
      refine tsr ?_
      obtain rfl := sinj h0
      exact TE_ret env rfl tv tv
    · replace h0 := bif_f h0 hb
      refine TC_skip ?_
      refine tbn ?_
      refine TE_go ?_
      refine TC_seq ?_
      refine TC_reg ?_
      refine TL_ev env 2 rfl ⟨tv, ⟨tv, tv⟩⟩ ?_
      refine TL_end ?_
      refine TE_go ?_
      refine TC_ret ?_
      obtain rfl := sinj h0
      exact TE_ret env rfl tv tv
theorem fix_within_int.ok0 {K : Nat} {p0 : Int} {p1 : Int} {p2 : Int} {q0 : Int} (h0 : fix_within_int K p0 p1 p2 = some q0) : Fn Try.prog 180 [.int .i64 p0, .int .i64 p1, .int .i64 p2] [] (.int .i64 q0) [] := fix_within_int.ok h0
theorem fix_within_int.fnb : fnb Try.prog 180 = true := fnb_of Try.func180 rfl
def fix_Round.res (_p0 : Int) (_p1 : Int) : Int → MV
  | q0 => .int .i64 q0
def fix_Round.out (_p0 : Int) (_p1 : Int) : Int → List (Nat × Option MObj)
  | _ => []
theorem fix_Round.ok {K : Nat} {p0 : Int} {p1 : Int} {r : Int} (h0 : fix_Round K p0 p1 = some r) : Fn Try.prog 168 [.int .i64 p0, .int .i64 p1] [] (fix_Round.res p0 p1 r) (fix_Round.out p0 p1 r) := by
  refine Fn_of Try.func168 rfl (Nat.le_of_ble_eq_true rfl) fun Γ => ?_
  refine TC_seq ?_
  refine TC_reg ?_
  refine TL_ev env 1 rfl ⟨tv, tv⟩ ?_
  refine TL_end ?_
  refine TE_go ?_
  refine TC_seq ?_
  refine TC_reg ?_
  refine TL_ev env 1 rfl ⟨tv, tv⟩ ?_
  obtain ⟨r2, hr, h0⟩ := bnd h0
  refine TL_callB [] (fix_within_int.ok0 hr) fix_within_int.fnb rfl ⟨tv, ⟨tv, ⟨tv, ⟨tv, tv⟩⟩⟩⟩ rfl tv rfl ?_
  refine TL_ev env 1 rfl ⟨tv, tv⟩ ?_
  refine TL_end ?_
  refine TE_go ?_
  refine TC_seq ?_
  refine TC_seq ?_
  refine TC_reg ?_
  refine TL_ev env 2 rfl ⟨tv, ⟨⟨tv, ⟨tv, tv⟩⟩, tv⟩⟩ ?_
  refine TL_end ?_
  refine TE_go ?_
  refine TC_cond rfl (fun hb => ?_) (fun hb => ?_)
  · replace h0 := bif_t h0 hb
    refine TC_seq ?_
    refine TC_reg ?_
    refine TL_ev env 2 rfl ⟨tv, ⟨tv, tv⟩⟩ ?_
    refine TL_end ?_
    refine TE_go ?_
    refine TC_ret ?_
    refine tsr ?_
    obtain rfl := sinj h0
    exact TE_ret env rfl tv tv
  · replace h0 := bif_f h0 hb
    refine TC_skip ?_
    refine TE_go ?_
    refine TC_seq ?_
    refine TC_renw (A' := [(0, .int .i64 _), (1, .int .i64 _), (4, .int .i64 0)]) (L' := []) [] ⟨rfl, rfl, rfl, tv⟩ tv rfl ?_
    refine TC_drawR ⟨_, fun i => ([[], [], [1, 0], [], [], [4], [5, 4, 3], [6, 5, 4, 3], [7, 6, 5, 4, 3, 2, 1, 0], [8, 7, 6, 5, 4, 3, 2, 1, 0]] : List (List Nat)).getD i [], fun i => ([[], [], [], [], [], [], [], [], [], []] : List (List Nat)).getD i [], fun i => ([[], [], [], [], [], [], [], [], [], []] : List (List Nat)).getD i []⟩ (fun i => ([[], [], [], [], [], [], [], [], [], []] : List (List Nat)).getD i []) (by kernel_rfl) (by kernel_rfl) ?_
    refine AJR_ev env 1 rfl (Nat.le_of_ble_eq_true rfl) rfl tv ?_
    refine AJR_ev env 2 rfl (Nat.le_of_ble_eq_true rfl) rfl tv ?_
    obtain ⟨g, h0⟩ := gd_t h0
    refine AJR_ev env 3 rfl (Nat.le_of_ble_eq_true rfl) rfl ⟨tv, ⟨tv, g⟩⟩ ?_
    refine AJR_ev env 4 rfl (Nat.le_of_ble_eq_true rfl) rfl tv ?_
    refine AJR_ev env 5 rfl (Nat.le_of_ble_eq_true rfl) rfl tv ?_
    refine AJR_ev env 6 rfl (Nat.le_of_ble_eq_true rfl) rfl ⟨tv, ⟨tv, tv⟩⟩ ?_
    obtain ⟨g, h0⟩ := gd_t h0
    refine AJR_ev env 7 rfl (Nat.le_of_ble_eq_true rfl) rfl ⟨tv, ⟨tv, g⟩⟩ ?_
    refine AJR_ev env 8 rfl (Nat.le_of_ble_eq_true rfl) rfl ⟨tv, ⟨tv, tv⟩⟩ ?_
    refine AJR_ev env 9 rfl (Nat.le_of_ble_eq_true rfl) rfl ⟨tv, ⟨tv, tv⟩⟩ ?_
    refine AJR_ev env 10 rfl (Nat.le_of_ble_eq_true rfl) rfl tv ?_
    refine AJR_end rfl rfl rfl ?_
    refine TE_go ?_
    refine TC_ret ?_
    obtain rfl := sinj h0
    exact TE_ret env rfl tv tv
theorem fix_Round.ok0 {K : Nat} {p0 : Int} {p1 : Int} {q0 : Int} (h0 : fix_Round K p0 p1 = some q0) : Fn Try.prog 168 [.int .i64 p0, .int .i64 p1] [] (.int .i64 q0) [] := fix_Round.ok h0
theorem fix_Round.fnb : fnb Try.prog 168 = true := fnb_of Try.func168 rfl
def fix_within_int64.res (_p0 : Int) (_p1 : Int) (_p2 : Int) : Int → MV
  | q0 => .int .i64 q0
def fix_within_int64.out (_p0 : Int) (_p1 : Int) (_p2 : Int) : Int → List (Nat × Option MObj)
  | _ => []
theorem fix_within_int64.ok {K : Nat} {p0 : Int} {p1 : Int} {p2 : Int} {r : Int} (h0 : fix_within_int64 K p0 p1 p2 = some r) : Fn Try.prog 179 [.int .i64 p0, .int .i64 p1, .int .i64 p2] [] (fix_within_int64.res p0 p1 p2 r) (fix_within_int64.out p0 p1 p2 r) := by
  refine Fn_of Try.func179 rfl (Nat.le_of_ble_eq_true rfl) fun Γ => ?_
  refine TC_seq ?_
  refine TC_reg ?_
  refine TL_ev env 1 rfl ⟨tv, tv⟩ ?_
  refine TL_end ?_
  refine TE_go ?_
  refine TC_seq ?_
  refine TC_blk ?_
  refine TC_seq ?_
  refine TC_reg ?_
  refine TL_ev env 4 rfl ⟨tv, ⟨tv, ⟨⟨tv, ⟨tv, tv⟩⟩, ⟨tv, tv⟩⟩⟩⟩ ?_
  refine TL_end ?_
  refine TE_go ?_
  refine TC_cond rfl (fun hb => ?_) (fun hb => ?_)
  · replace h0 := bif_t h0 hb
    refine TC_seq ?_
    refine TC_reg ?_
    refine TL_ev env 2 rfl ⟨tv, ⟨tv, tv⟩⟩ ?_
    refine TL_end ?_
    refine TE_go ?_
    refine TC_ret ?_
    refine tbr ?_
    refine tsr ?_
    obtain rfl := sinj h0
    exact TE_ret env rfl tv tv
  · replace h0 := bif_f h0 hb
    refine TC_seq ?_
    refine TC_reg ?_
    refine TL_ev env 4 rfl ⟨tv, ⟨tv, ⟨⟨tv, ⟨tv, tv⟩⟩, ⟨tv, tv⟩⟩⟩⟩ ?_
    refine TL_end ?_
    refine TE_go ?_
    refine TC_cond rfl (fun hb => ?_) (fun hb => ?_)
    · replace h0 := bif_t h0 hb
      refine TC_seq ?_
      refine TC_reg ?_
      refine TL_ev env 2 rfl ⟨tv, ⟨tv, tv⟩⟩ ?_
      refine TL_end ?_
      refine TE_go ?_
      refine TC_ret ?_
      refine tbr ?_
      refine tsr ?_
      obtain rfl := sinj h0
      exact TE_ret env rfl tv tv
    · replace h0 := bif_f h0 hb
      refine TC_skip ?_
      refine tbn ?_
      refine TE_go ?_
      refine TC_seq ?_
      refine TC_reg ?_
      refine TL_ev env 2 rfl ⟨tv, ⟨tv, tv⟩⟩ ?_
      refine TL_end ?_
      refine TE_go ?_
      refine TC_ret ?_
      obtain rfl := sinj h0
      exact TE_ret env rfl tv tv
theorem fix_within_int64.ok0 {K : Nat} {p0 : Int} {p1 : Int} {p2 : Int} {q0 : Int} (h0 : fix_within_int64 K p0 p1 p2 = some q0) : Fn Try.prog 179 [.int .i64 p0, .int .i64 p1, .int .i64 p2] [] (.int .i64 q0) [] := fix_within_int64.ok h0
theorem fix_within_int64.fnb : fnb Try.prog 179 = true := fnb_of Try.func179 rfl
def fix_Clip.res (_p0 : Int) (_p1 : Int) (_p2 : Int) : Int → MV
  | q0 => .int .i64 q0
def fix_Clip.out (_p0 : Int) (_p1 : Int) (_p2 : Int) : Int → List (Nat × Option MObj)
  | _ => []
theorem fix_Clip.ok {K : Nat} {p0 : Int} {p1 : Int} {p2 : Int} {r : Int} (h0 : fix_Clip K p0 p1 p2 = some r) : Fn Try.prog 178 [.int .i64 p0, .int .i64 p1, .int .i64 p2] [] (fix_Clip.res p0 p1 p2 r) (fix_Clip.out p0 p1 p2 r) := by
  refine Fn_of Try.func178 rfl (Nat.le_of_ble_eq_true rfl) fun Γ => ?_
  refine TC_seq ?_
  refine TC_reg ?_
  refine TL_ev env 1 rfl ⟨tv, tv⟩ ?_
  refine TL_end ?_
  refine TE_go ?_
  refine TC_seq ?_
  refine TC_reg ?_
  refine TL_ev env 3 rfl ⟨tv, ⟨tv, ⟨tv, tv⟩⟩⟩ ?_
  obtain ⟨r2, hr, h0⟩ := bnd h0
  refine TL_callB [] (fix_within_int64.ok0 hr) fix_within_int64.fnb rfl ⟨tv, ⟨tv, ⟨tv, ⟨tv, tv⟩⟩⟩⟩ rfl tv rfl ?_
  refine TL_ev env 1 rfl ⟨tv, tv⟩ ?_
  refine TL_end ?_
  refine TE_go ?_
  refine TC_ret ?_
  obtain rfl := sinj h0
  exact TE_ret env rfl tv tv
theorem fix_Clip.ok0 {K : Nat} {p0 : Int} {p1 : Int} {p2 : Int} {q0 : Int} (h0 : fix_Clip K p0 p1 p2 = some q0) : Fn Try.prog 178 [.int .i64 p0, .int .i64 p1, .int .i64 p2] [] (.int .i64 q0) [] := fix_Clip.ok h0
theorem fix_Clip.fnb : fnb Try.prog 178 = true := fnb_of Try.func178 rfl
def wave_sine.res (_p0 : Int) (_p1 : Int) : Int → MV
  | q0 => .int .i16 q0
def wave_sine.out (_p0 : Int) (_p1 : Int) : Int → List (Nat × Option MObj)
  | _ => []
theorem wave_sine.ok {K : Nat} {p0 : Int} {p1 : Int} {r : Int} (h0 : wave_sine K p0 p1 = some r) : Fn Try.prog 165 [.int .i64 p0, .int .i64 p1] [] (wave_sine.res p0 p1 r) (wave_sine.out p0 p1 r) := by
  refine Fn_of Try.func165 rfl (Nat.le_of_ble_eq_true rfl) fun Γ => ?_
  refine TC_seq ?_
  refine TC_reg ?_
  refine TL_ev env 1 rfl ⟨tv, tv⟩ ?_
  refine TL_end ?_
  refine TE_go ?_
  refine TC_seq ?_
  refine TC_reg ?_
  refine TL_ev env 2 rfl ⟨tv, ⟨tv, tv⟩⟩ ?_
  obtain ⟨⟨r11, r12⟩, hr, h0⟩ := bnd h0
  refine TL_callB [] (wave_height.ok0 hr) wave_height.fnb rfl ⟨tv, ⟨tv, ⟨tv, tv⟩⟩⟩ rfl tv rfl ?_
  refine TL_ev env 5 rfl ⟨tv, ⟨tv, ⟨tv, ⟨tv, ⟨tv, tv⟩⟩⟩⟩⟩ ?_
  refine TL_end ?_
  refine TE_go ?_
  refine TC_seq ?_
  refine TC_reg ?_
  refine TL_ev env 5 rfl ⟨tv, ⟨tv, ⟨⟨tv, ⟨tv, tv⟩⟩, ⟨⟨tv, ⟨tv, (by decide)⟩⟩, ⟨tv, tv⟩⟩⟩⟩⟩ ?_
  refine TL_end ?_
  refine TE_go ?_
  refine TC_seq ?_
  refine TC_reg ?_
  refine TL_ev env 1 rfl ⟨tv, tv⟩ ?_
  refine TL_end ?_
  refine TE_go ?_
  refine TC_seq ?_
  refine TC_seq ?_
  refine TC_reg ?_
  refine TL_ev env 2 rfl ⟨⟨tv, ⟨tv, ⟨tv, ⟨tv, tv⟩⟩⟩⟩, ⟨tv, tv⟩⟩ ?_
  refine TL_end ?_
  refine TE_go ?_
  obtain ⟨z1, h1, h0⟩ := bnd h0
  refine TC_cut (α := Int) (fun s => z1 = s) (fun s => [(5, .int .u64 r11), (6, .int .i64 r12), (8, .int .u64 s)]) (fun s => []) ?_ ?_
  · refine TC_blk ?_
    refine TC_loop (α := Int × Int) (fun n s => wave_sine.l0 K r11 r12 (kshr .u64 (kwrap .u64 (r11 * r11)) 30) n s.1 s.2 = some z1) (fun s => [(5, .int .u64 r11), (6, .int .i64 r12), (7, .int .u64 (kshr .u64 (kwrap .u64 (r11 * r11)) 30)), (8, .int .u64 s.1), (22, .agg [.int .u64 5026995, .int .u64 85569306, .int .u64 693598668, .int .u64 1686629713]), (23, .int .i64 s.2)]) (fun s => []) K ?_ ?_
    · exact SP_ren [] (_, _) h1 ⟨rfl, rfl, rfl, rfl, rfl, rfl, tv⟩ tv rfl
    rintro n ⟨x27, x28⟩ h1
    rcases n with _ | n
    · exact (nsome h1).elim
    replace h1 : wave_sine.r0 K r11 r12 (kshr .u64 (kwrap .u64 (r11 * r11)) 30) (wave_sine.l0 K r11 r12 (kshr .u64 (kwrap .u64 (r11 * r11)) 30) n) x27 x28 = some z1 := h1
    refine TC_seq ?_
    refine TC_reg ?_
    refine TL_ev env 1 rfl ⟨⟨tv, ⟨tv, tv⟩⟩, tv⟩ ?_
    refine TL_end ?_
    refine TE_go ?_
    refine TC_seq ?_
    refine TC_cond rfl (fun hb => ?_) (fun hb => ?_)
    · replace h1 := bif_t h1 hb
      refine TC_skip ?_
      refine TE_go ?_
      refine TC_seq ?_
      refine TC_blk ?_
      refine TC_seq ?_
      refine TC_reg ?_
      obtain ⟨g, h1⟩ := gd_t h1
      refine TL_ev env 2 rfl ⟨⟨tv, ⟨tv, ⟨g.1, g.2⟩⟩⟩, ⟨tv, tv⟩⟩ ?_
      refine TL_end ?_
      refine TE_go ?_
      refine TC_reg ?_
      refine TL_ev env 7 rfl ⟨tv, ⟨tv, ⟨tv, ⟨⟨tv, ⟨tv, tv⟩⟩, ⟨⟨tv, ⟨tv, (by decide)⟩⟩, ⟨⟨tv, ⟨tv, tv⟩⟩, ⟨tv, tv⟩⟩⟩⟩⟩⟩⟩ ?_
      refine TL_end ?_
      refine tbn ?_
      refine TE_go ?_
      refine TC_reg ?_
      refine TL_ev env 2 rfl ⟨⟨tv, ⟨tv, tv⟩⟩, ⟨tv, tv⟩⟩ ?_
      refine TL_end ?_
      refine tsn ?_
      exact TE_nextr [] n (Nat.lt_succ_self n) (_, _) h1 ⟨rfl, rfl, rfl, rfl, rfl, rfl, tv⟩ tv rfl
    · replace h1 := bif_f h1 hb
      refine TC_exit ?_
      refine tsx ?_
      refine tsx ?_
      refine tbe ?_
      obtain rfl := sinj h1
      refine tsn ?_
      exact SP_ren [] _ rfl ⟨rfl, rfl, rfl, tv⟩ tv rfl
  · rintro x19 hz
    obtain rfl := hz.symm
    refine TE_go ?_
    refine TC_seq ?_
    refine TC_reg ?_
    refine TL_ev env 5 rfl ⟨tv, ⟨tv, ⟨⟨tv, ⟨tv, tv⟩⟩, ⟨⟨tv, ⟨tv, (by decide)⟩⟩, ⟨tv, tv⟩⟩⟩⟩⟩ ?_
    obtain ⟨r23, hr, h0⟩ := bnd h0
    refine TL_callB [] (fix_Round.ok0 hr) fix_Round.fnb rfl ⟨tv, ⟨tv, ⟨tv, tv⟩⟩⟩ rfl tv rfl ?_
    obtain ⟨r24, hr, h0⟩ := bnd h0
    refine TL_callB [] (fix_Clip.ok0 hr) fix_Clip.fnb rfl ⟨tv, ⟨tv, ⟨tv, ⟨tv, tv⟩⟩⟩⟩ rfl tv rfl ?_
    refine TL_ev env 1 rfl ⟨tv, tv⟩ ?_
    refine TL_end ?_
    refine TE_go ?_
    refine TC_seq ?_
    refine TC_seq ?_
    refine TC_reg ?_
    refine TL_ev env 2 rfl ⟨tv, ⟨⟨tv, ⟨tv, tv⟩⟩, tv⟩⟩ ?_
    refine TL_end ?_
    refine TE_go ?_
    obtain ⟨z1, h1, h0⟩ := bnd h0
    refine TC_cut (α := Int) (fun s => z1 = s) (fun s => [(11, .int .i64 s)]) (fun s => []) ?_ ?_
    · refine TC_cond rfl (fun hb => ?_) (fun hb => ?_)
      · replace h1 := bif_t h1 hb
        refine TC_reg ?_
        refine TL_ev env 3 rfl ⟨tv, ⟨tv, ⟨tv, tv⟩⟩⟩ ?_
        refine TL_end ?_
        obtain rfl := sinj h1
        refine tsn ?_
        exact SP_ren [] _ rfl ⟨rfl, tv⟩ tv rfl
      · replace h1 := bif_f h1 hb
        refine TC_skip ?_
        obtain rfl := sinj h1
        refine tsn ?_
        exact SP_ren [] _ rfl ⟨rfl, tv⟩ tv rfl
    · rintro x26 hz
      obtain rfl := hz.symm
      refine TE_go ?_
      refine TC_seq ?_
      refine TC_reg ?_
      refine TL_ev env 3 rfl ⟨tv, ⟨tv, ⟨tv, tv⟩⟩⟩ ?_
      refine TL_end ?_
      refine TE_go ?_
      refine TC_ret ?_
      obtain rfl := sinj h0
      exact TE_ret env rfl tv tv
theorem wave_sine.ok0 {K : Nat} {p0 : Int} {p1 : Int} {q0 : Int} (h0 : wave_sine K p0 p1 = some q0) : Fn Try.prog 165 [.int .i64 p0, .int .i64 p1] [] (.int .i16 q0) [] := wave_sine.ok h0
theorem wave_sine.fnb : fnb Try.prog 165 = true := fnb_of Try.func165 rfl
def wave_Cosine.res (_p0 : Int) (_p1 : Int) : Int × Int → MV
  | (q0, q1) => .tup [.int .i16 q0, .int .i64 q1]
def wave_Cosine.out (_p0 : Int) (_p1 : Int) : Int × Int → List (Nat × Option MObj)
  | (_, _) => []
theorem wave_Cosine.ok {K : Nat} {p0 : Int} {p1 : Int} {r : Int × Int} (h0 : wave_Cosine K p0 p1 = some r) : Fn Try.prog 140 [.int .i64 p0, .int .i64 p1] [] (wave_Cosine.res p0 p1 r) (wave_Cosine.out p0 p1 r) := by
  refine Fn_of Try.func140 rfl (Nat.le_of_ble_eq_true rfl) fun Γ => ?_
  refine TC_seq ?_
  refine TC_reg ?_
  refine TL_ev env 2 rfl ⟨tv, ⟨tv, tv⟩⟩ ?_
  refine TL_end ?_
  refine TE_go ?_
  refine TC_seq ?_
  refine TC_seq ?_
  refine TC_reg ?_
  refine TL_ev env 6 rfl ⟨tv, ⟨⟨tv, ⟨tv, tv⟩⟩, ⟨tv, ⟨fun eg => tv, ⟨fun eg => ⟨fun e => e, ⟨tv, tv⟩⟩, ⟨⟨tv, ⟨tv, fun e => e⟩⟩, tv⟩⟩⟩⟩⟩⟩ ?_
  refine TL_end ?_
  refine TE_go ?_
  refine TC_cond rfl (fun hb => ?_) (fun hb => ?_)
  · replace h0 := bif_t h0 hb
    refine TC_seq ?_
    refine TC_reg ?_
    refine TL_ev env 2 rfl ⟨tv, ⟨tv, tv⟩⟩ ?_
    refine TL_end ?_
    refine TE_go ?_
    refine TC_ret ?_
    refine tsr ?_
    obtain rfl := sinj h0
    exact TE_ret env rfl tv tv
  · replace h0 := bif_f h0 hb
    refine TC_skip ?_
    refine TE_go ?_
    refine TC_seq ?_
    refine TC_reg ?_
    refine TL_ev env 2 rfl ⟨tv, ⟨tv, tv⟩⟩ ?_
    obtain ⟨r6, hr, h0⟩ := bnd h0
    refine TL_callB [] (wave_modulo.ok0 hr) wave_modulo.fnb rfl ⟨tv, ⟨tv, ⟨tv, tv⟩⟩⟩ rfl tv rfl ?_
    refine TL_ev env 5 rfl ⟨⟨tv, ⟨tv, tv⟩⟩, ⟨tv, ⟨⟨tv, ⟨tv, tv⟩⟩, ⟨tv, ⟨⟨tv, ⟨tv, tv⟩⟩, tv⟩⟩⟩⟩⟩ ?_
    obtain ⟨r10, hr, h0⟩ := bnd h0
    refine TL_callB [] (wave_sine.ok0 hr) wave_sine.fnb rfl ⟨tv, ⟨tv, ⟨tv, tv⟩⟩⟩ rfl tv rfl ?_
    refine TL_ev env 2 rfl ⟨tv, ⟨tv, tv⟩⟩ ?_
    refine TL_end ?_
    refine TE_go ?_
    refine TC_ret ?_
    obtain rfl := sinj h0
    exact TE_ret env rfl tv tv
theorem wave_Cosine.ok0 {K : Nat} {p0 : Int} {p1 : Int} {q0 : Int} {q1 : Int} (h0 : wave_Cosine K p0 p1 = some (q0, q1)) : Fn Try.prog 140 [.int .i64 p0, .int .i64 p1] [] (.tup [.int .i16 q0, .int .i64 q1]) [] := wave_Cosine.ok h0
theorem wave_Cosine.fnb : fnb Try.prog 140 = true := fnb_of Try.func140 rfl
def bank_Bank_Turn_1.res (_p0 : Int) (_p1 : Int) : Int → MV
  | q0 => .int .i16 q0
def bank_Bank_Turn_1.out (_p0 : Int) (p1 : Int) : Int → List (Nat × Option MObj)
  | _ => [(0, some (.cells [.int .i64 p1]))]
theorem bank_Bank_Turn_1.ok {K : Nat} {p0 : Int} {p1 : Int} {r : Int} (h0 : bank_Bank_Turn_1 K p0 p1 = some r) : Fn Try.prog 139 [.int .i64 p0, .p 0 0] [(0, some (.cells [.int .i64 p1]))] (bank_Bank_Turn_1.res p0 p1 r) (bank_Bank_Turn_1.out p0 p1 r) := by
  refine Fn_of Try.func139 rfl (Nat.le_of_ble_eq_true rfl) fun Γ => ?_
  refine TC_seq ?_
  refine TC_reg ?_
  refine TL_ev env 1 rfl ⟨tv, tv⟩ ?_
  refine TL_end ?_
  refine TE_go ?_
  refine TC_seq ?_
  refine TC_reg ?_
  refine TL_ev env 2 rfl ⟨tv, ⟨⟨tv, tv⟩, tv⟩⟩ ?_
  obtain ⟨⟨r3, r4⟩, hr, h0⟩ := bnd h0
  refine TL_callB [] (wave_Cosine.ok0 hr) wave_Cosine.fnb rfl ⟨tv, ⟨tv, ⟨tv, tv⟩⟩⟩ rfl tv rfl ?_
  refine TL_ev env 5 rfl ⟨tv, ⟨tv, ⟨tv, ⟨tv, ⟨tv, tv⟩⟩⟩⟩⟩ ?_
  refine TL_end ?_
  refine TE_go ?_
  refine TC_seq ?_
  refine TC_reg ?_
  refine TL_ev env 2 rfl ⟨tv, ⟨tv, tv⟩⟩ ?_
  refine TL_end ?_
  refine TE_go ?_
  refine TC_ret ?_
  obtain rfl := sinj h0
  exact TE_ret env rfl tv ⟨.inr rfl, tv⟩
theorem bank_Bank_Turn_1.ok0 {K : Nat} {p0 : Int} {p1 : Int} {q0 : Int} (h0 : bank_Bank_Turn_1 K p0 p1 = some q0) : Fn Try.prog 139 [.int .i64 p0, .p 0 0] [(0, some (.cells [.int .i64 p1]))] (.int .i16 q0) [(0, some (.cells [.int .i64 p1]))] := bank_Bank_Turn_1.ok h0
theorem bank_Bank_Turn_1.fnb : fnb Try.prog 139 = true := fnb_of Try.func139 rfl
theorem sync_atomic_Int64_Add.ok0 {K : Nat} {p0 : Int} {p1 : List (Option (List (Int)))} {p2 : List (Int)} {p3 : List (Option (List (Int)))} {p4 : Int} {p5 : Int} {q0 : Int} (h0 : sync_atomic_Int64_Add K p0 p1 p2 p3 p4 p5 = some q0) : Fn Try.prog 163 [.p 0 1552, .int .i64 p0] [(0, some (.foc (tcs p1) [.int .u32 0, .int .i32 1, .int .u32 0, .im (.slice (.int .i16)) p2] (pst p3 p4 p5)))] (.int .i64 q0) [(0, some (.foc (tcs p1) [.int .u32 0, .int .i32 1, .int .u32 0, .im (.slice (.int .i16)) p2] (pst p3 q0 p5)))] := by
  obtain ⟨g, h0⟩ := gd_t h0
  obtain rfl := sinj h0
  have hF := int64Add_fn (pre := tcs p1) (cs := [.int .u32 0, .int .i32 1, .int .u32 0, .im (.slice (.int .i16)) p2]) (y := p0) (c := 1552) (Lr := []) (by rw [tcs_len]; simp only [List.length_cons, List.length_nil]; omega) (pst_made p3 p4 p5)
  rw [pst_setm] at hF
  exact hF
theorem sync_atomic_Int64_Add.fnb : fnb Try.prog 163 = true := fnb_of Try.func163 rfl
def bank_Bank_tell_1.res (_p0 : List (Option (List (Int)))) (_p1 : List (Option (List (Int)))) (_p2 : Int) (_p3 : Int) (_p4 : Int) (_p5 : Int) : (List (Int)) × Int → MV
  | (_, _) => .tup []
def bank_Bank_tell_1.out (p0 : List (Option (List (Int)))) (p1 : List (Option (List (Int)))) (_p2 : Int) (p3 : Int) (p4 : Int) (p5 : Int) : (List (Int)) × Int → List (Nat × Option MObj)
  | (q0, q1) => [(0, some (.foc (tcs p0) [.int .u32 0, .int .i32 1, .int .u32 0, .im (.slice (.int .i16)) q0] (pst p1 q1 p3))), (1, some (.cells [.int .i64 p4])), (2, some (.cells [.pf 0 (tcs p0).length 0])), (3, some (.cells [.fn 139 [.p 5 0]])), (4, some (.cells [.p 0 0])), (5, some (.cells [.int .i64 p5]))]
theorem bank_Bank_tell_1.ok {K : Nat} {p0 : List (Option (List (Int)))} {p1 : List (Option (List (Int)))} {p2 : Int} {p3 : Int} {p4 : Int} {p5 : Int} {r : (List (Int)) × Int} (h0 : bank_Bank_tell_1 K p0 p1 p2 p3 p4 p5 = some r) : Fn Try.prog 162 [.p 1 0, .p 2 0, .p 3 0, .p 4 0] [(0, some (.foc (tcs p0) [.int .u32 0, .int .i32 1, .int .u32 0, .nils] (pst p1 p2 p3))), (1, some (.cells [.int .i64 p4])), (2, some (.cells [.pf 0 (tcs p0).length 0])), (3, some (.cells [.fn 139 [.p 5 0]])), (4, some (.cells [.p 0 0])), (5, some (.cells [.int .i64 p5]))] (bank_Bank_tell_1.res p0 p1 p2 p3 p4 p5 r) (bank_Bank_tell_1.out p0 p1 p2 p3 p4 p5 r) := by
  refine Fn_of Try.func162 rfl (Nat.le_of_ble_eq_true rfl) fun Γ => ?_
  refine TC_seq ?_
  refine TC_renw (A' := [(0, .p 1 0), (1, .p 2 0), (2, .p 3 0), (3, .p 4 0)]) (L' := [(0, some (.foc (tcs _) [.int .u32 0, .int .i32 1, .int .u32 0, .nils] (pst _ _ _))), (1, some (.cells [.int .i64 _])), (2, some (.cells [.pf 0 (tcs _).length 0])), (3, some (.cells [.fn 139 [.p 5 0]])), (4, some (.cells [.p 0 0])), (5, some (.cells [.int .i64 _]))]) [] ⟨rfl, rfl, rfl, rfl, tv⟩ ⟨rfl, rfl, rfl, rfl, rfl, rfl, tv⟩ rfl ?_
  refine TC_drawR ⟨_, fun i => ([[], [], [1], [2, 1, 0], [3, 2, 1, 0], [4, 3, 2, 1, 0]] : List (List Nat)).getD i [], fun i => ([[], [], [1007], [], [], [0]] : List (List Nat)).getD i [], fun i => ([[], [], [1007], [], [], []] : List (List Nat)).getD i []⟩ (fun i => ([[1007], [], [], [], [], []] : List (List Nat)).getD i []) (by kernel_rfl) (by kernel_rfl) ?_
  refine AJR_ev env 1 rfl (Nat.le_of_ble_eq_true rfl) rfl ⟨tv, tv⟩ ?_
  refine AJR_ev env 2 rfl (Nat.le_of_ble_eq_true rfl) rfl ⟨tv, tv⟩ ?_
  obtain ⟨g, h0⟩ := gd_t h0
  refine AJR_ev env 3 rfl (Nat.le_of_ble_eq_true rfl) rfl ⟨tv, ⟨tv, ⟨g.1, ⟨g.2.1, g.2.2⟩⟩⟩⟩ ?_
  refine AJR_ev env 4 rfl (Nat.le_of_ble_eq_true rfl) rfl tv ?_
  refine AJR_ev env 5 rfl (Nat.le_of_ble_eq_true rfl) rfl tv ?_
  refine AJR_ev env 6 rfl (Nat.le_of_ble_eq_true rfl) rfl ⟨tv, ⟨tv, rfl⟩⟩ ?_
  refine AJR_end rfl rfl rfl ?_
  refine TE_go ?_
  refine TC_seq ?_
  refine TC_seq ?_
  refine TC_reg ?_
  refine TL_ev env 6 rfl ⟨⟨tv, tv⟩, ⟨tv, ⟨tv, ⟨⟨tv, rfl⟩, ⟨⟨tv, tv⟩, ⟨tv, tv⟩⟩⟩⟩⟩⟩ ?_
  refine TL_end ?_
  refine TE_go ?_
  obtain ⟨z1, h1, h0⟩ := bnd h0
  refine TC_cut (α := (List (Int))) (fun s => z1 = s) (fun s => [(3, .p 4 0)]) (fun s => [(0, some (.foc (tcs p0) [.int .u32 0, .int .i32 1, .int .u32 0, .sl 10806] (pst p1 p2 p3))), (1, some (.cells [.int .i64 p4])), (2, some (.cells [.pf 0 (tcs p0).length 0])), (3, some (.cells [.fn 139 [.p 5 0]])), (4, some (.cells [.p 0 0])), (5, some (.cells [.int .i64 p5])), (10806, some (.rows (.int .i16) s))]) ?_ ?_
  · refine TC_blk ?_
    refine TC_loop (α := Int × (List (Int))) (fun n s => bank_Bank_tell_1.l0 K ((List.replicate (Int.toNat p4) (0 : Int)).length : Int) p0 p1 p2 p3 p4 p5 n s.1 s.2 = some z1) (fun s => [(1, .p 2 0), (2, .p 3 0), (3, .p 4 0), (14, .int .i64 ((List.replicate (Int.toNat p4) (0 : Int)).length : Int)), (15, .int .i64 s.1)]) (fun s => [(0, some (.foc (tcs p0) [.int .u32 0, .int .i32 1, .int .u32 0, .sl 11006] (pst p1 p2 p3))), (1, some (.cells [.int .i64 p4])), (2, some (.cells [.pf 0 (tcs p0).length 0])), (3, some (.cells [.fn 139 [.p 5 0]])), (4, some (.cells [.p 0 0])), (5, some (.cells [.int .i64 p5])), (11006, some (.rows (.int .i16) s.2))]) K ?_ ?_
    · exact SP_ren [(11006, 1007)] (_, _) h1 ⟨rfl, rfl, rfl, rfl, rfl, tv⟩ ⟨rfl, rfl, rfl, rfl, rfl, rfl, rfl, tv⟩ rfl
    rintro n ⟨x25, x26⟩ h1
    rcases n with _ | n
    · exact (nsome h1).elim
    replace h1 : bank_Bank_tell_1.r0 K ((List.replicate (Int.toNat p4) (0 : Int)).length : Int) p0 p1 p2 p3 p4 p5 (bank_Bank_tell_1.l0 K ((List.replicate (Int.toNat p4) (0 : Int)).length : Int) p0 p1 p2 p3 p4 p5 n) x25 x26 = some z1 := h1
    refine TC_seq ?_
    refine TC_reg ?_
    refine TL_ev env 1 rfl ⟨⟨tv, ⟨tv, tv⟩⟩, tv⟩ ?_
    refine TL_end ?_
    refine TE_go ?_
    refine TC_seq ?_
    refine TC_cond rfl (fun hb => ?_) (fun hb => ?_)
    · replace h1 := bif_t h1 hb
      refine TC_skip ?_
      refine TE_go ?_
      refine TC_seq ?_
      refine TC_blk ?_
      refine TC_seq ?_
      refine TC_reg ?_
      refine TL_ev env 2 rfl ⟨tv, ⟨tv, tv⟩⟩ ?_
      refine TL_end ?_
      refine TE_go ?_
      refine TC_renw (A' := [(1, .p 2 0), (2, .p 3 0), (3, .p 4 0), (4, .int .i64 _), (14, .int .i64 _), (15, .int .i64 _)]) (L' := [(0, some (.foc (tcs _) [.int .u32 0, .int .i32 1, .int .u32 0, .sl 11006] (pst _ _ _))), (1, some (.cells [.int .i64 _])), (2, some (.cells [.pf 0 (tcs _).length 0])), (3, some (.cells [.fn 139 [.p 5 0]])), (4, some (.cells [.p 0 0])), (5, some (.cells [.int .i64 _])), (11006, some (.rows (.int .i16) _))]) [] ⟨rfl, rfl, rfl, rfl, rfl, rfl, tv⟩ ⟨rfl, rfl, rfl, rfl, rfl, rfl, rfl, tv⟩ rfl ?_
      refine TC_drawR ⟨_, fun i => ([[], [0], [1, 0], [2, 1, 0], [], [], [], [6, 5], [7, 6, 5, 4, 3, 2, 1, 0], [8, 7, 6, 5, 4, 3, 2, 1, 0]] : List (List Nat)).getD i [], fun i => ([[], [], [], [], [], [], [], [5], [], [11006]] : List (List Nat)).getD i [], fun i => ([[], [], [], [], [], [], [], [], [], []] : List (List Nat)).getD i []⟩ (fun i => ([[5], [5], [5], [5], [5], [], [], [], [], []] : List (List Nat)).getD i []) (by kernel_rfl) (by kernel_rfl) ?_
      refine AJR_ev env 1 rfl (Nat.le_of_ble_eq_true rfl) rfl ⟨tv, tv⟩ ?_
      refine AJR_ev env 2 rfl (Nat.le_of_ble_eq_true rfl) rfl tv ?_
      refine AJR_ev env 3 rfl (Nat.le_of_ble_eq_true rfl) rfl tv ?_
      refine AJR_ev env 4 rfl (Nat.le_of_ble_eq_true rfl) rfl ⟨tv, rfl⟩ ?_
      refine AJR_ev env 5 rfl (Nat.le_of_ble_eq_true rfl) rfl tv ?_
      refine AJR_ev env 6 rfl (Nat.le_of_ble_eq_true rfl) rfl ⟨tv, tv⟩ ?_
      refine AJR_ev env 7 rfl (Nat.le_of_ble_eq_true rfl) rfl tv ?_
      obtain ⟨r33, hr, h1⟩ := bnd h1
      refine AJR_call 8 rfl (Nat.le_of_ble_eq_true rfl) [(0, 5)] rfl (bank_Bank_Turn_1.ok0 hr) bank_Bank_Turn_1.fnb rfl ⟨tv, ⟨tv, tv⟩⟩ rfl ⟨.inr rfl, tv⟩ rfl ?_
      obtain ⟨g, h1⟩ := gd_t h1
      refine AJR_ev env 9 rfl (Nat.le_of_ble_eq_true rfl) rfl ⟨tv, ⟨tv, ⟨g.1, g.2⟩⟩⟩ ?_
      obtain ⟨g, h1⟩ := gd_t h1
      refine AJR_ev env 10 rfl (Nat.le_of_ble_eq_true rfl) rfl ⟨tv, ⟨tv, g⟩⟩ ?_
      refine AJR_end rfl rfl rfl ?_
      refine tbn ?_
      refine TE_go ?_
      refine TC_reg ?_
      refine TL_ev env 2 rfl ⟨⟨tv, ⟨tv, tv⟩⟩, ⟨tv, tv⟩⟩ ?_
      refine TL_end ?_
      refine tsn ?_
      exact TE_nextr [(11006, 11006)] n (Nat.lt_succ_self n) (_, _) h1 ⟨rfl, rfl, rfl, rfl, rfl, tv⟩ ⟨rfl, rfl, rfl, rfl, rfl, rfl, rfl, tv⟩ rfl
    · replace h1 := bif_f h1 hb
      refine TC_exit ?_
      refine tsx ?_
      refine tsx ?_
      refine tbe ?_
      obtain rfl := sinj h1
      refine tsn ?_
      exact SP_ren [(10806, 11006)] _ rfl ⟨rfl, tv⟩ ⟨rfl, rfl, rfl, rfl, rfl, rfl, rfl, tv⟩ rfl
  · rintro x21 hz
    obtain rfl := hz.symm
    refine TE_go ?_
    refine TC_reg ?_
    refine TL_ev env 3 rfl ⟨⟨tv, tv⟩, ⟨tv, ⟨tv, tv⟩⟩⟩ ?_
    refine TL_frz 10806 rfl ?_
    obtain ⟨r22, hr, h0⟩ := bnd h0
    refine TL_callB [(0, 0)] (sync_atomic_Int64_Add.ok0 hr) sync_atomic_Int64_Add.fnb rfl ⟨tv, ⟨tv, ⟨tv, tv⟩⟩⟩ rfl ⟨.inr rfl, tv⟩ rfl ?_
    refine TL_end ?_
    obtain rfl := sinj h0
    exact TE_end env rfl tv ⟨.inr rfl, .inr rfl, .inr rfl, .inr rfl, .inr rfl, .inr rfl, tv⟩
theorem bank_Bank_tell_1.ok0 {K : Nat} {p0 : List (Option (List (Int)))} {p1 : List (Option (List (Int)))} {p2 : Int} {p3 : Int} {p4 : Int} {p5 : Int} {q0 : List (Int)} {q1 : Int} (h0 : bank_Bank_tell_1 K p0 p1 p2 p3 p4 p5 = some (q0, q1)) : Fn Try.prog 162 [.p 1 0, .p 2 0, .p 3 0, .p 4 0] [(0, some (.foc (tcs p0) [.int .u32 0, .int .i32 1, .int .u32 0, .nils] (pst p1 p2 p3))), (1, some (.cells [.int .i64 p4])), (2, some (.cells [.pf 0 (tcs p0).length 0])), (3, some (.cells [.fn 139 [.p 5 0]])), (4, some (.cells [.p 0 0])), (5, some (.cells [.int .i64 p5]))] (.tup []) [(0, some (.foc (tcs p0) [.int .u32 0, .int .i32 1, .int .u32 0, .im (.slice (.int .i16)) q0] (pst p1 q1 p3))), (1, some (.cells [.int .i64 p4])), (2, some (.cells [.pf 0 (tcs p0).length 0])), (3, some (.cells [.fn 139 [.p 5 0]])), (4, some (.cells [.p 0 0])), (5, some (.cells [.int .i64 p5]))] := bank_Bank_tell_1.ok h0
theorem bank_Bank_tell_1.fnb : fnb Try.prog 162 = true := fnb_of Try.func162 rfl
theorem sync_Once_doSlow.ok0 {K : Nat} {p0 : List (Option (List (Int)))} {p1 : List (Option (List (Int)))} {p2 : Int} {p3 : Int} {p4 : Int} {p5 : Int} {q0 : List (Int)} {q1 : Int} (h0 : sync_Once_doSlow K p0 p1 p2 p3 p4 p5 = some (q0, q1)) : Fn Try.prog 175 [.pf 0 (tcs p0).length 0, .fn 162 [.p 1 0, .p 2 0, .p 3 0, .p 4 0]] [(0, some (.foc (tcs p0) [.int .u32 0, .int .i32 0, .int .u32 0, .nils] (pst p1 p2 p3))), (1, some (.cells [.int .i64 p4])), (2, some (.cells [.pf 0 (tcs p0).length 0])), (3, some (.cells [.fn 139 [.p 5 0]])), (4, some (.cells [.p 0 0])), (5, some (.cells [.int .i64 p5]))] (.tup []) [(0, some (.foc (tcs p0) [.int .u32 1, .int .i32 0, .int .u32 0, .im (.slice (.int .i16)) q0] (pst p1 q1 p3))), (1, some (.cells [.int .i64 p4])), (2, some (.cells [.pf 0 (tcs p0).length 0])), (3, some (.cells [.fn 139 [.p 5 0]])), (4, some (.cells [.p 0 0])), (5, some (.cells [.int .i64 p5]))] := by
  exact slow_fn rfl (bank_Bank_tell_1.ok0 h0)
theorem sync_Once_doSlow.fnb : fnb Try.prog 175 = true := fnb_of Try.func175 rfl
def sync_Once_Do.res (_p0 : List (Option (List (Int)))) (_p1 : List (Option (List (Int)))) (_p2 : Int) (_p3 : Int) (_p4 : Int) (_p5 : Int) : (List (Int)) × Int → MV
  | (_, _) => .tup []
def sync_Once_Do.out (p0 : List (Option (List (Int)))) (p1 : List (Option (List (Int)))) (_p2 : Int) (p3 : Int) (p4 : Int) (p5 : Int) : (List (Int)) × Int → List (Nat × Option MObj)
  | (q0, q1) => [(0, some (.foc (tcs p0) [.int .u32 1, .int .i32 0, .int .u32 0, .im (.slice (.int .i16)) q0] (pst p1 q1 p3))), (1, some (.cells [.int .i64 p4])), (2, some (.cells [.pf 0 (tcs p0).length 0])), (3, some (.cells [.fn 139 [.p 5 0]])), (4, some (.cells [.p 0 0])), (5, some (.cells [.int .i64 p5]))]
theorem sync_Once_Do.ok {K : Nat} {p0 : List (Option (List (Int)))} {p1 : List (Option (List (Int)))} {p2 : Int} {p3 : Int} {p4 : Int} {p5 : Int} {r : (List (Int)) × Int} (h0 : sync_Once_Do K p0 p1 p2 p3 p4 p5 = some r) : Fn Try.prog 161 [.pf 0 (tcs p0).length 0, .fn 162 [.p 1 0, .p 2 0, .p 3 0, .p 4 0]] [(0, some (.foc (tcs p0) [.int .u32 0, .int .i32 0, .int .u32 0, .nils] (pst p1 p2 p3))), (1, some (.cells [.int .i64 p4])), (2, some (.cells [.pf 0 (tcs p0).length 0])), (3, some (.cells [.fn 139 [.p 5 0]])), (4, some (.cells [.p 0 0])), (5, some (.cells [.int .i64 p5]))] (sync_Once_Do.res p0 p1 p2 p3 p4 p5 r) (sync_Once_Do.out p0 p1 p2 p3 p4 p5 r) := by
  refine Fn_of Try.func161 rfl (Nat.le_of_ble_eq_true rfl) fun Γ => ?_
  refine TC_seq ?_
  refine TC_reg ?_
  refine TL_ev env 3 rfl ⟨tv, ⟨tv, ⟨tv, tv⟩⟩⟩ ?_
  obtain ⟨⟨⟩, hr, h0⟩ := bnd h0
  refine TL_callB [(0, 0)] (sync_atomic_Bool_Load.ok0 hr) sync_atomic_Bool_Load.fnb rfl ⟨tv, ⟨tv, tv⟩⟩ rfl ⟨.inr rfl, tv⟩ rfl ?_
  refine TL_ev env 1 rfl ⟨tv, tv⟩ ?_
  refine TL_end ?_
  refine TE_go ?_
  refine TC_cond rfl (fun hb => ?_) (fun hb => ?_)
  · refine TC_reg ?_
    refine TL_ev env 2 rfl ⟨tv, ⟨tv, tv⟩⟩ ?_
    obtain ⟨⟨r3, r4⟩, hr, h0⟩ := bnd h0
    refine TL_callB [(0, 0), (1, 1), (2, 2), (3, 3), (4, 4), (5, 5)] (sync_Once_doSlow.ok0 hr) sync_Once_doSlow.fnb rfl ⟨tv, ⟨tv, ⟨tv, tv⟩⟩⟩ rfl ⟨.inr rfl, .inr rfl, .inr rfl, .inr rfl, .inr rfl, .inr rfl, tv⟩ rfl ?_
    refine TL_end ?_
    obtain rfl := sinj h0
    exact TE_end env rfl tv ⟨.inr rfl, .inr rfl, .inr rfl, .inr rfl, .inr rfl, .inr rfl, tv⟩
  · first | exact (ftf hb).elim | exact (tff hb).elim | exact absurd hb (by decide)
theorem sync_Once_Do.ok0 {K : Nat} {p0 : List (Option (List (Int)))} {p1 : List (Option (List (Int)))} {p2 : Int} {p3 : Int} {p4 : Int} {p5 : Int} {q0 : List (Int)} {q1 : Int} (h0 : sync_Once_Do K p0 p1 p2 p3 p4 p5 = some (q0, q1)) : Fn Try.prog 161 [.pf 0 (tcs p0).length 0, .fn 162 [.p 1 0, .p 2 0, .p 3 0, .p 4 0]] [(0, some (.foc (tcs p0) [.int .u32 0, .int .i32 0, .int .u32 0, .nils] (pst p1 p2 p3))), (1, some (.cells [.int .i64 p4])), (2, some (.cells [.pf 0 (tcs p0).length 0])), (3, some (.cells [.fn 139 [.p 5 0]])), (4, some (.cells [.p 0 0])), (5, some (.cells [.int .i64 p5]))] (.tup []) [(0, some (.foc (tcs p0) [.int .u32 1, .int .i32 0, .int .u32 0, .im (.slice (.int .i16)) q0] (pst p1 q1 p3))), (1, some (.cells [.int .i64 p4])), (2, some (.cells [.pf 0 (tcs p0).length 0])), (3, some (.cells [.fn 139 [.p 5 0]])), (4, some (.cells [.p 0 0])), (5, some (.cells [.int .i64 p5]))] := sync_Once_Do.ok h0
theorem sync_Once_Do.fnb : fnb Try.prog 161 = true := fnb_of Try.func161 rfl
theorem sync_atomic_Int64_Add_2.ok0 {K : Nat} {p0 : Int} {p1 : List (Option (List (Int)))} {p2 : List (Int)} {p3 : List (Option (List (Int)))} {p4 : Int} {p5 : Int} {q0 : Int} (h0 : sync_atomic_Int64_Add_2 K p0 p1 p2 p3 p4 p5 = some q0) : Fn Try.prog 163 [.p 0 1553, .int .i64 p0] [(0, some (.foc (tcs p1) [.int .u32 1, .int .i32 0, .int .u32 0, .im (.slice (.int .i16)) p2] (pst p3 p4 p5)))] (.int .i64 q0) [(0, some (.foc (tcs p1) [.int .u32 1, .int .i32 0, .int .u32 0, .im (.slice (.int .i16)) p2] (pst p3 p4 q0)))] := by
  obtain ⟨g, h0⟩ := gd_t h0
  obtain rfl := sinj h0
  have hF := int64Add_fn (pre := tcs p1) (cs := [.int .u32 1, .int .i32 0, .int .u32 0, .im (.slice (.int .i16)) p2]) (y := p0) (c := 1553) (Lr := []) (by rw [tcs_len]; simp only [List.length_cons, List.length_nil]; omega) (pst_told p3 p4 p5)
  rw [pst_sett] at hF
  exact hF
theorem sync_atomic_Int64_Add_2.fnb : fnb Try.prog 163 = true := fnb_of Try.func163 rfl
def slices_Clone_int16_int16.res (_p0 : List (Int)) : (List (Int)) → MV
  | _ => .sl 1000
def slices_Clone_int16_int16.out (_p0 : List (Int)) : (List (Int)) → List (Nat × Option MObj)
  | q0 => [(1000, some (.rows (.int .i16) q0))]
theorem slices_Clone_int16_int16.ok {K : Nat} {p0 : List (Int)} {r : (List (Int))} (h0 : slices_Clone_int16_int16 K p0 = some r) : Fn Try.prog 164 [.im (.slice (.int .i16)) p0] [] (slices_Clone_int16_int16.res p0 r) (slices_Clone_int16_int16.out p0 r) := by
  refine Fn_of Try.func164 rfl (Nat.le_of_ble_eq_true rfl) fun Γ => ?_
  refine TC_seq ?_
  refine TC_reg ?_
  refine TL_ev env 1 rfl ⟨tv, tv⟩ ?_
  refine TL_end ?_
  refine TE_go ?_
  refine TC_seq ?_
  refine TC_seq ?_
  refine TC_reg ?_
  obtain ⟨g, h0⟩ := gd_t h0
  refine TL_ev env 2 rfl ⟨tv, ⟨⟨tv, ⟨tv, g⟩⟩, tv⟩⟩ ?_
  refine TL_end ?_
  refine TE_go ?_
  refine TC_cond rfl (fun hb => ?_) (fun hb => ?_)
  · first | exact (ftf hb).elim | exact (tff hb).elim | exact absurd hb (by decide)
  · refine TC_skip ?_
    refine TE_go ?_
    refine TC_seq ?_
    refine TC_reg ?_
    obtain ⟨g, h0⟩ := gd_t h0
    refine TL_ev env 4 rfl ⟨tv, ⟨tv, ⟨⟨⟨tv, ⟨tv, tv⟩⟩, g⟩, ⟨tv, tv⟩⟩⟩⟩ ?_
    refine TL_end ?_
    refine TE_go ?_
    refine TC_ret ?_
    obtain rfl := sinj h0
    refine TE_renw (A' := [(2, .sl 1000)]) (L' := [(1000, some (.rows (.int .i16) _))]) [(1000, 1007)] ⟨rfl, tv⟩ ⟨rfl, tv⟩ rfl ?_
    exact TE_ret env rfl tv ⟨.inr rfl, tv⟩
theorem slices_Clone_int16_int16.ok0 {K : Nat} {p0 : List (Int)} {q0 : List (Int)} (h0 : slices_Clone_int16_int16 K p0 = some q0) : Fn Try.prog 164 [.im (.slice (.int .i16)) p0] [] (.sl 1000) [(1000, some (.rows (.int .i16) q0))] := slices_Clone_int16_int16.ok h0
theorem slices_Clone_int16_int16.fnb : fnb Try.prog 164 = true := fnb_of Try.func164 rfl
def bank_Bank_tell.res (_t0 : List (Option (List (Int)))) (_t1 : List (Option (List (Int)))) (_p1 : Int) (_p3 : Int) (_p4 : Int) (_p5 : Int) : (List (Int)) × Int × Int × (List (Int)) → MV
  | (_, _, _, _) => .tup [.sl 1000, .int .i64 0]
def bank_Bank_tell.out (t0 : List (Option (List (Int)))) (t1 : List (Option (List (Int)))) (_p1 : Int) (_p3 : Int) (_p4 : Int) (p5 : Int) : (List (Int)) × Int × Int × (List (Int)) → List (Nat × Option MObj)
  | (q0, q1, q2, q3) => [(0, some (.foc (tcs t0) [.int .u32 1, .int .i32 0, .int .u32 0, .im (.slice (.int .i16)) q0] (pst t1 q1 q2))), (1, some (.cells [.int .i64 p5])), (1000, some (.rows (.int .i16) q3))]
theorem bank_Bank_tell.ok {K : Nat} {t0 : List (Option (List (Int)))} {t1 : List (Option (List (Int)))} {p1 : Int} {p3 : Int} {p4 : Int} {p5 : Int} {r : (List (Int)) × Int × Int × (List (Int))} (h0 : bank_Bank_tell K t0 t1 p1 p3 p4 p5 = some r) : Fn Try.prog 138 [.p 0 0, .pf 0 (tcs t0).length 0, .int .i64 p1, .fn 139 [.p 1 0]] [(0, some (.foc (tcs t0) [.int .u32 0, .int .i32 0, .int .u32 0, .nils] (pst t1 p3 p4))), (1, some (.cells [.int .i64 p5]))] (bank_Bank_tell.res t0 t1 p1 p3 p4 p5 r) (bank_Bank_tell.out t0 t1 p1 p3 p4 p5 r) := by
  refine Fn_of Try.func138 rfl (Nat.le_of_ble_eq_true rfl) fun Γ => ?_
  refine TC_seq ?_
  refine TC_reg ?_
  refine TL_ev env 6 rfl ⟨tv, ⟨tv, ⟨tv, ⟨tv, ⟨tv, ⟨tv, tv⟩⟩⟩⟩⟩⟩ ?_
  refine TL_end ?_
  refine TE_go ?_
  refine TC_seq ?_
  refine TC_reg ?_
  refine TL_ev env 4 rfl ⟨⟨tv, tv⟩, ⟨tv, ⟨tv, ⟨⟨tv, ⟨tv, ⟨tv, ⟨tv, tv⟩⟩⟩⟩, tv⟩⟩⟩⟩ ?_
  obtain ⟨⟨r5, r6⟩, hr, h0⟩ := bnd h0
  refine TL_callB [(0, 0), (1, 1006), (2, 1005), (3, 1007), (4, 1004), (5, 1)] (sync_Once_Do.ok0 hr) sync_Once_Do.fnb rfl ⟨tv, ⟨tv, ⟨tv, tv⟩⟩⟩ rfl ⟨.inr rfl, .inr rfl, .inr rfl, .inr rfl, .inr rfl, .inr rfl, tv⟩ rfl ?_
  refine TL_end ?_
  refine TE_go ?_
  refine TC_seq ?_
  refine TC_reg ?_
  refine TL_ev env 3 rfl ⟨⟨tv, tv⟩, ⟨tv, ⟨tv, tv⟩⟩⟩ ?_
  obtain ⟨r7, hr, h0⟩ := bnd h0
  refine TL_callB [(0, 0)] (sync_atomic_Int64_Add_2.ok0 hr) sync_atomic_Int64_Add_2.fnb rfl ⟨tv, ⟨tv, ⟨tv, tv⟩⟩⟩ rfl ⟨.inr rfl, tv⟩ rfl ?_
  refine TL_end ?_
  refine TE_go ?_
  refine TC_seq ?_
  refine TC_reg ?_
  refine TL_ev env 4 rfl ⟨⟨tv, tv⟩, ⟨tv, ⟨tv, ⟨⟨tv, rfl⟩, tv⟩⟩⟩⟩ ?_
  obtain ⟨r8, hr, h0⟩ := bnd h0
  refine TL_callB [(1000, 500230)] (slices_Clone_int16_int16.ok0 hr) slices_Clone_int16_int16.fnb rfl ⟨tv, ⟨tv, tv⟩⟩ rfl tv rfl ?_
  refine TL_ev env 2 rfl ⟨tv, ⟨tv, tv⟩⟩ ?_
  refine TL_end ?_
  refine TE_go ?_
  refine TC_ret ?_
  obtain rfl := sinj h0
  refine TE_renw (A' := [(8, .sl 1000), (9, .int .i64 0)]) (L' := [(0, some (.foc (tcs _) [.int .u32 1, .int .i32 0, .int .u32 0, .im (.slice (.int .i16)) _] (pst _ _ _))), (1, some (.cells [.int .i64 _])), (1000, some (.rows (.int .i16) _))]) [(1000, 500230)] ⟨rfl, rfl, tv⟩ ⟨rfl, rfl, rfl, tv⟩ rfl ?_
  exact TE_ret env rfl tv ⟨.inr rfl, .inr rfl, .inr rfl, tv⟩
theorem bank_Bank_tell.ok0 {K : Nat} {t0 : List (Option (List (Int)))} {t1 : List (Option (List (Int)))} {p1 : Int} {p3 : Int} {p4 : Int} {p5 : Int} {q0 : List (Int)} {q1 : Int} {q2 : Int} {q3 : List (Int)} (h0 : bank_Bank_tell K t0 t1 p1 p3 p4 p5 = some (q0, q1, q2, q3)) : Fn Try.prog 138 [.p 0 0, .pf 0 (tcs t0).length 0, .int .i64 p1, .fn 139 [.p 1 0]] [(0, some (.foc (tcs t0) [.int .u32 0, .int .i32 0, .int .u32 0, .nils] (pst t1 p3 p4))), (1, some (.cells [.int .i64 p5]))] (.tup [.sl 1000, .int .i64 0]) [(0, some (.foc (tcs t0) [.int .u32 1, .int .i32 0, .int .u32 0, .im (.slice (.int .i16)) q0] (pst t1 q1 q2))), (1, some (.cells [.int .i64 p5])), (1000, some (.rows (.int .i16) q3))] := bank_Bank_tell.ok h0
theorem bank_Bank_tell.fnb : fnb Try.prog 138 = true := fnb_of Try.func138 rfl
theorem sync_atomic_Bool_Load_2.ok0 {K : Nat} {p0 : List (Option (List (Int)))} {p1 : List (Int)} {p2 : List (Option (List (Int)))} {p3 : Int} {p4 : Int} (h0 : sync_atomic_Bool_Load_2 K p0 p1 p2 p3 p4 = some ()) : Fn Try.prog 174 [.pf 0 (tcs p0).length 0] [(0, some (.foc (tcs p0) [.int .u32 1, .int .i32 0, .int .u32 0, .im (.slice (.int .i16)) p1] (pst p2 p3 p4)))] (.bool true) [(0, some (.foc (tcs p0) [.int .u32 1, .int .i32 0, .int .u32 0, .im (.slice (.int .i16)) p1] (pst p2 p3 p4)))] := by
  exact boolLoad_fn rfl
theorem sync_atomic_Bool_Load_2.fnb : fnb Try.prog 174 = true := fnb_of Try.func174 rfl
def sync_Once_Do_2.res (_p0 : List (Option (List (Int)))) (_p1 : List (Int)) (_p2 : List (Option (List (Int)))) (_p3 : Int) (_p4 : Int) (_p5 : Int) (_p6 : Int) : Unit → MV
  | () => .tup []
def sync_Once_Do_2.out (p0 : List (Option (List (Int)))) (p1 : List (Int)) (p2 : List (Option (List (Int)))) (p3 : Int) (p4 : Int) (p5 : Int) (p6 : Int) : Unit → List (Nat × Option MObj)
  | () => [(0, some (.foc (tcs p0) [.int .u32 1, .int .i32 0, .int .u32 0, .im (.slice (.int .i16)) p1] (pst p2 p3 p4))), (1, some (.cells [.int .i64 p5])), (2, some (.cells [.pf 0 (tcs p0).length 0])), (3, some (.cells [.fn 139 [.p 5 0]])), (4, some (.cells [.p 0 0])), (5, some (.cells [.int .i64 p6]))]
theorem sync_Once_Do_2.ok {K : Nat} {p0 : List (Option (List (Int)))} {p1 : List (Int)} {p2 : List (Option (List (Int)))} {p3 : Int} {p4 : Int} {p5 : Int} {p6 : Int} {r : Unit} (h0 : sync_Once_Do_2 K p0 p1 p2 p3 p4 p5 p6 = some r) : Fn Try.prog 161 [.pf 0 (tcs p0).length 0, .fn 162 [.p 1 0, .p 2 0, .p 3 0, .p 4 0]] [(0, some (.foc (tcs p0) [.int .u32 1, .int .i32 0, .int .u32 0, .im (.slice (.int .i16)) p1] (pst p2 p3 p4))), (1, some (.cells [.int .i64 p5])), (2, some (.cells [.pf 0 (tcs p0).length 0])), (3, some (.cells [.fn 139 [.p 5 0]])), (4, some (.cells [.p 0 0])), (5, some (.cells [.int .i64 p6]))] (sync_Once_Do_2.res p0 p1 p2 p3 p4 p5 p6 r) (sync_Once_Do_2.out p0 p1 p2 p3 p4 p5 p6 r) := by
  refine Fn_of Try.func161 rfl (Nat.le_of_ble_eq_true rfl) fun Γ => ?_
  unfold sync_Once_Do_2 at h0
  refine TC_seq ?_
  refine TC_reg ?_
  refine TL_ev env 3 rfl ⟨tv, ⟨tv, ⟨tv, tv⟩⟩⟩ ?_
  obtain ⟨⟨⟩, hr, h0⟩ := bnd h0
  refine TL_callB [(0, 0)] (sync_atomic_Bool_Load_2.ok0 hr) sync_atomic_Bool_Load_2.fnb rfl ⟨tv, ⟨tv, tv⟩⟩ rfl ⟨.inr rfl, tv⟩ rfl ?_
  refine TL_ev env 1 rfl ⟨tv, tv⟩ ?_
  refine TL_end ?_
  refine TE_go ?_
  refine TC_cond rfl (fun hb => ?_) (fun hb => ?_)
  · first | exact (ftf hb).elim | exact (tff hb).elim | exact absurd hb (by decide)
  · refine TC_skip ?_
    obtain rfl := sinj h0
    exact TE_end env rfl tv ⟨.inr rfl, .inr rfl, .inr rfl, .inr rfl, .inr rfl, .inr rfl, tv⟩
theorem sync_Once_Do_2.ok0 {K : Nat} {p0 : List (Option (List (Int)))} {p1 : List (Int)} {p2 : List (Option (List (Int)))} {p3 : Int} {p4 : Int} {p5 : Int} {p6 : Int}  (h0 : sync_Once_Do_2 K p0 p1 p2 p3 p4 p5 p6 = some ()) : Fn Try.prog 161 [.pf 0 (tcs p0).length 0, .fn 162 [.p 1 0, .p 2 0, .p 3 0, .p 4 0]] [(0, some (.foc (tcs p0) [.int .u32 1, .int .i32 0, .int .u32 0, .im (.slice (.int .i16)) p1] (pst p2 p3 p4))), (1, some (.cells [.int .i64 p5])), (2, some (.cells [.pf 0 (tcs p0).length 0])), (3, some (.cells [.fn 139 [.p 5 0]])), (4, some (.cells [.p 0 0])), (5, some (.cells [.int .i64 p6]))] (.tup []) [(0, some (.foc (tcs p0) [.int .u32 1, .int .i32 0, .int .u32 0, .im (.slice (.int .i16)) p1] (pst p2 p3 p4))), (1, some (.cells [.int .i64 p5])), (2, some (.cells [.pf 0 (tcs p0).length 0])), (3, some (.cells [.fn 139 [.p 5 0]])), (4, some (.cells [.p 0 0])), (5, some (.cells [.int .i64 p6]))] := sync_Once_Do_2.ok h0
theorem sync_Once_Do_2.fnb : fnb Try.prog 161 = true := fnb_of Try.func161 rfl
def bank_Bank_tell_2.res (_t0 : List (Option (List (Int)))) (_t1 : List (Option (List (Int)))) (_l : List (Int)) (_p1 : Int) (_p3 : Int) (_p4 : Int) (_p5 : Int) : Int × (List (Int)) → MV
  | (_, _) => .tup [.sl 1000, .int .i64 0]
def bank_Bank_tell_2.out (t0 : List (Option (List (Int)))) (t1 : List (Option (List (Int)))) (l : List (Int)) (_p1 : Int) (p3 : Int) (_p4 : Int) (p5 : Int) : Int × (List (Int)) → List (Nat × Option MObj)
  | (q0, q1) => [(0, some (.foc (tcs t0) [.int .u32 1, .int .i32 0, .int .u32 0, .im (.slice (.int .i16)) l] (pst t1 p3 q0))), (1, some (.cells [.int .i64 p5])), (1000, some (.rows (.int .i16) q1))]
theorem bank_Bank_tell_2.ok {K : Nat} {t0 : List (Option (List (Int)))} {t1 : List (Option (List (Int)))} {l : List (Int)} {p1 : Int} {p3 : Int} {p4 : Int} {p5 : Int} {r : Int × (List (Int))} (h0 : bank_Bank_tell_2 K t0 t1 l p1 p3 p4 p5 = some r) : Fn Try.prog 138 [.p 0 0, .pf 0 (tcs t0).length 0, .int .i64 p1, .fn 139 [.p 1 0]] [(0, some (.foc (tcs t0) [.int .u32 1, .int .i32 0, .int .u32 0, .im (.slice (.int .i16)) l] (pst t1 p3 p4))), (1, some (.cells [.int .i64 p5]))] (bank_Bank_tell_2.res t0 t1 l p1 p3 p4 p5 r) (bank_Bank_tell_2.out t0 t1 l p1 p3 p4 p5 r) := by
  refine Fn_of Try.func138 rfl (Nat.le_of_ble_eq_true rfl) fun Γ => ?_
  refine TC_seq ?_
  refine TC_reg ?_
  refine TL_ev env 6 rfl ⟨tv, ⟨tv, ⟨tv, ⟨tv, ⟨tv, ⟨tv, tv⟩⟩⟩⟩⟩⟩ ?_
  refine TL_end ?_
  refine TE_go ?_
  refine TC_seq ?_
  refine TC_reg ?_
  refine TL_ev env 4 rfl ⟨⟨tv, tv⟩, ⟨tv, ⟨tv, ⟨⟨tv, ⟨tv, ⟨tv, ⟨tv, tv⟩⟩⟩⟩, tv⟩⟩⟩⟩ ?_
  obtain ⟨⟨⟩, hr, h0⟩ := bnd h0
  refine TL_callB [(0, 0), (1, 1006), (2, 1005), (3, 1007), (4, 1004), (5, 1)] (sync_Once_Do_2.ok0 hr) sync_Once_Do_2.fnb rfl ⟨tv, ⟨tv, ⟨tv, tv⟩⟩⟩ rfl ⟨.inr rfl, .inr rfl, .inr rfl, .inr rfl, .inr rfl, .inr rfl, tv⟩ rfl ?_
  refine TL_end ?_
  refine TE_go ?_
  refine TC_seq ?_
  refine TC_reg ?_
  refine TL_ev env 3 rfl ⟨⟨tv, tv⟩, ⟨tv, ⟨tv, tv⟩⟩⟩ ?_
  obtain ⟨r3, hr, h0⟩ := bnd h0
  refine TL_callB [(0, 0)] (sync_atomic_Int64_Add_2.ok0 hr) sync_atomic_Int64_Add_2.fnb rfl ⟨tv, ⟨tv, ⟨tv, tv⟩⟩⟩ rfl ⟨.inr rfl, tv⟩ rfl ?_
  refine TL_end ?_
  refine TE_go ?_
  refine TC_seq ?_
  refine TC_reg ?_
  refine TL_ev env 4 rfl ⟨⟨tv, tv⟩, ⟨tv, ⟨tv, ⟨⟨tv, rfl⟩, tv⟩⟩⟩⟩ ?_
  obtain ⟨r4, hr, h0⟩ := bnd h0
  refine TL_callB [(1000, 500230)] (slices_Clone_int16_int16.ok0 hr) slices_Clone_int16_int16.fnb rfl ⟨tv, ⟨tv, tv⟩⟩ rfl tv rfl ?_
  refine TL_ev env 2 rfl ⟨tv, ⟨tv, tv⟩⟩ ?_
  refine TL_end ?_
  refine TE_go ?_
  refine TC_ret ?_
  obtain rfl := sinj h0
  refine TE_renw (A' := [(8, .sl 1000), (9, .int .i64 0)]) (L' := [(0, some (.foc (tcs _) [.int .u32 1, .int .i32 0, .int .u32 0, .im (.slice (.int .i16)) _] (pst _ _ _))), (1, some (.cells [.int .i64 _])), (1000, some (.rows (.int .i16) _))]) [(1000, 500230)] ⟨rfl, rfl, tv⟩ ⟨rfl, rfl, rfl, tv⟩ rfl ?_
  exact TE_ret env rfl tv ⟨.inr rfl, .inr rfl, .inr rfl, tv⟩
theorem bank_Bank_tell_2.ok0 {K : Nat} {t0 : List (Option (List (Int)))} {t1 : List (Option (List (Int)))} {l : List (Int)} {p1 : Int} {p3 : Int} {p4 : Int} {p5 : Int} {q0 : Int} {q1 : List (Int)} (h0 : bank_Bank_tell_2 K t0 t1 l p1 p3 p4 p5 = some (q0, q1)) : Fn Try.prog 138 [.p 0 0, .pf 0 (tcs t0).length 0, .int .i64 p1, .fn 139 [.p 1 0]] [(0, some (.foc (tcs t0) [.int .u32 1, .int .i32 0, .int .u32 0, .im (.slice (.int .i16)) l] (pst t1 p3 p4))), (1, some (.cells [.int .i64 p5]))] (.tup [.sl 1000, .int .i64 0]) [(0, some (.foc (tcs t0) [.int .u32 1, .int .i32 0, .int .u32 0, .im (.slice (.int .i16)) l] (pst t1 p3 q0))), (1, some (.cells [.int .i64 p5])), (1000, some (.rows (.int .i16) q1))] := bank_Bank_tell_2.ok h0
theorem bank_Bank_tell_2.fnb : fnb Try.prog 138 = true := fnb_of Try.func138 rfl
theorem bank_Bank_tell_3.ok0 {K : Nat} {p0 : Nat} {p1 : Int} {p2 : List (Option (List (Int)))} {p3 : Int} {p4 : Int} {p5 : Int} {q0 : List (Int)} {q1 : List (Option (List (Int)))} {q2 : Int} {q3 : Int} (h0 : bank_Bank_tell_3 K p0 p1 p2 p3 p4 p5 = some (q0, q1, q2, q3)) : Fn Try.prog 138 [.p 0 0, .p 0 p0, .int .i64 p1, .fn 139 [.p 1 0]] [(0, some (.ab (bkA p2 p3 p4))), (1, some (.cells [.int .i64 p5]))] (.tup [.sl 1000, .int .i64 0]) [(0, some (.ab (bkA q1 q2 q3))), (1, some (.cells [.int .i64 p5])), (1000, some (.rows (.int .i16) q0))] := by
  unfold bank_Bank_tell_3 at h0
  obtain ⟨⟨g1, g2, g3⟩, h0⟩ := gd_t h0
  split at h0
  · rename_i hx
    obtain ⟨⟨q0', q1', q2', q3'⟩, hr, h0⟩ := bnd h0
    simp only [Option.some.injEq, Prod.mk.injEq] at h0
    obtain ⟨rfl, rfl, rfl, rfl⟩ := h0
    have hF := tell_fn (x := none) (x' := some q0') (bank_Bank_tell.ok0 hr)
    rw [tk hx, tcs_at g1 g2 g3] at hF
    exact hF
  · rename_i l hx
    obtain ⟨⟨q0', q1'⟩, hr, h0⟩ := bnd h0
    simp only [Option.some.injEq, Prod.mk.injEq] at h0
    obtain ⟨rfl, rfl, rfl, rfl⟩ := h0
    have hF := tell_fn (x := some l) (x' := some l) (bank_Bank_tell_2.ok0 hr)
    rw [tk hx, tcs_at g1 g2 g3] at hF
    exact hF
  · cases h0
theorem bank_Bank_tell_3.fnb : fnb Try.prog 138 = true := fnb_of Try.func138 rfl
def bank_Bank_Turn.res (_p0 : Int) (_p1 : List (Option (List (Int)))) (_p2 : Int) (_p3 : Int) : (Int) ⊕ ((List (Option (List (Int)))) × Int × Int × (List (Int))) → MV
  | .inl q0 => .tup [.nils, .int .i64 q0]
  | .inr (_, _, _, _) => .tup [.sl 1000, .int .i64 0]
def bank_Bank_Turn.out (_p0 : Int) (p1 : List (Option (List (Int)))) (p2 : Int) (p3 : Int) : (Int) ⊕ ((List (Option (List (Int)))) × Int × Int × (List (Int))) → List (Nat × Option MObj)
  | .inl _ => [(0, some (.ab (bkA p1 p2 p3)))]
  | .inr (q0, q1, q2, q3) => [(0, some (.ab (bkA q0 q1 q2))), (1000, some (.rows (.int .i16) q3))]
theorem bank_Bank_Turn.ok {K : Nat} {p0 : Int} {p1 : List (Option (List (Int)))} {p2 : Int} {p3 : Int} {r : (Int) ⊕ ((List (Option (List (Int)))) × Int × Int × (List (Int)))} (h0 : bank_Bank_Turn K p0 p1 p2 p3 = some r) : Fn Try.prog 109 [.p 0 0, .int .i64 p0] [(0, some (.ab (bkA p1 p2 p3)))] (bank_Bank_Turn.res p0 p1 p2 p3 r) (bank_Bank_Turn.out p0 p1 p2 p3 r) := by
  refine Fn_of Try.func109 rfl (Nat.le_of_ble_eq_true rfl) fun Γ => ?_
  refine TC_seq ?_
  refine TC_reg ?_
  refine TL_ev env 3 rfl ⟨tv, ⟨tv, ⟨tv, tv⟩⟩⟩ ?_
  refine TL_end ?_
  refine TE_go ?_
  refine TC_seq ?_
  refine TC_seq ?_
  refine TC_reg ?_
  refine TL_ev env 12 rfl ⟨tv, ⟨⟨tv, tv⟩, ⟨⟨tv, ⟨tv, tv⟩⟩, ⟨tv, ⟨fun eg => ⟨tv, tv⟩, ⟨fun eg => ⟨fun e => e, ⟨tv, tv⟩⟩, ⟨⟨tv, ⟨fun e => e, tv⟩⟩, ⟨tv, ⟨fun eg => ⟨tv, tv⟩, ⟨fun eg => ⟨fun e => e, ⟨tv, (by decide)⟩⟩, ⟨fun eg => ⟨fun e => e, ⟨tv, tv⟩⟩, ⟨⟨tv, ⟨fun e => e, tv⟩⟩, tv⟩⟩⟩⟩⟩⟩⟩⟩⟩⟩⟩⟩ ?_
  obtain ⟨r11, hr, h0⟩ := bnd h0
  refine TL_callB [(0, 0)] (bank_Bank_may.ok0 hr) bank_Bank_may.fnb rfl ⟨tv, ⟨tv, ⟨tv, tv⟩⟩⟩ rfl ⟨.inr rfl, tv⟩ rfl ?_
  refine TL_ev env 1 rfl ⟨tv, tv⟩ ?_
  refine TL_end ?_
  refine TE_go ?_
  refine TC_seq ?_
  refine TC_reg ?_
  refine TL_ev env 2 rfl ⟨tv, ⟨⟨tv, ⟨tv, tv⟩⟩, tv⟩⟩ ?_
  refine TL_end ?_
  refine TE_go ?_
  refine TC_cond rfl (fun hb => ?_) (fun hb => ?_)
  · replace h0 := bif_t h0 hb
    refine TC_seq ?_
    refine TC_reg ?_
    refine TL_ev env 3 rfl ⟨tv, ⟨tv, ⟨tv, tv⟩⟩⟩ ?_
    refine TL_end ?_
    refine TE_go ?_
    refine TC_ret ?_
    refine tsr ?_
    obtain rfl := sinj h0
    exact TE_ret env rfl tv ⟨.inr rfl, tv⟩
  · replace h0 := bif_f h0 hb
    refine TC_skip ?_
    refine TE_go ?_
    refine TC_seq ?_
    refine TC_renw (A' := [(0, .p 0 0), (3, .p 1003 0), (4, .nils), (5, .int .i64 0)]) (L' := [(0, some (.ab (bkA _ _ _))), (1003, some (.cells [.int .i64 _]))]) [] ⟨rfl, rfl, rfl, rfl, tv⟩ ⟨rfl, rfl, tv⟩ rfl ?_
    refine TC_drawR ⟨_, fun i => ([[], [], [], [2], [1], [4, 1], [5, 4, 3, 2, 1], [], [], [8, 7, 6, 5, 4, 3, 2, 1, 0], [9, 8, 7, 6, 5, 4, 3, 2, 1, 0], [9, 8, 7, 6, 5, 4, 3, 2, 1, 0], [11, 10, 9, 8, 7, 6, 5, 4, 3, 2, 1, 0], [12, 11, 10, 9, 8, 7, 6, 5, 4, 3, 2, 1, 0]] : List (List Nat)).getD i [], fun i => ([[], [], [], [], [], [], [], [], [], [0, 1003, 500320], [], [], [], []] : List (List Nat)).getD i [], fun i => ([[], [], [], [], [], [], [], [], [], [500320], [], [], [], []] : List (List Nat)).getD i []⟩ (fun i => ([[], [], [], [], [], [], [], [], [], [], [], [], [], []] : List (List Nat)).getD i []) (by kernel_rfl) (by kernel_rfl) ?_
    refine AJR_ev env 1 rfl (Nat.le_of_ble_eq_true rfl) rfl tv ?_
    refine AJR_ev env 2 rfl (Nat.le_of_ble_eq_true rfl) rfl tv ?_
    refine AJR_ev env 3 rfl (Nat.le_of_ble_eq_true rfl) rfl ⟨tv, tv⟩ ?_
    refine AJR_ev env 4 rfl (Nat.le_of_ble_eq_true rfl) rfl ⟨tv, ⟨tv, (by decide)⟩⟩ ?_
    refine AJR_ev env 5 rfl (Nat.le_of_ble_eq_true rfl) rfl tv ?_
    refine AJR_ev env 6 rfl (Nat.le_of_ble_eq_true rfl) rfl tv ?_
    obtain ⟨g, h0⟩ := gd_t h0
    refine AJR_ev env 7 rfl (Nat.le_of_ble_eq_true rfl) rfl ⟨tv, ⟨tv, ⟨g.1, g.2⟩⟩⟩ ?_
    refine AJR_ev env 8 rfl (Nat.le_of_ble_eq_true rfl) rfl ⟨tv, tv⟩ ?_
    refine AJR_ev env 9 rfl (Nat.le_of_ble_eq_true rfl) rfl ⟨tv, tv⟩ ?_
    obtain ⟨⟨r14, r15, r16, r17⟩, hr, h0⟩ := bnd h0
    refine AJR_call 10 rfl (Nat.le_of_ble_eq_true rfl) [(0, 0), (1, 1003), (1000, 500320)] rfl (bank_Bank_tell_3.ok0 hr) bank_Bank_tell_3.fnb rfl ⟨tv, ⟨tv, ⟨tv, ⟨tv, ⟨tv, tv⟩⟩⟩⟩⟩ rfl ⟨.inr rfl, .inr rfl, tv⟩ rfl ?_
    refine AJR_ev env 11 rfl (Nat.le_of_ble_eq_true rfl) rfl tv ?_
    refine AJR_ev env 12 rfl (Nat.le_of_ble_eq_true rfl) rfl tv ?_
    refine AJR_ev env 13 rfl (Nat.le_of_ble_eq_true rfl) rfl tv ?_
    refine AJR_ev env 14 rfl (Nat.le_of_ble_eq_true rfl) rfl tv ?_
    refine AJR_end rfl rfl rfl ?_
    refine TE_go ?_
    refine TC_ret ?_
    obtain rfl := sinj h0
    refine TE_renw (A' := [(4, .sl 1000), (5, .int .i64 0)]) (L' := [(0, some (.ab (bkA _ _ _))), (1000, some (.rows (.int .i16) _))]) [(1000, 500320)] ⟨rfl, rfl, tv⟩ ⟨rfl, rfl, tv⟩ rfl ?_
    exact TE_ret env rfl tv ⟨.inr rfl, .inr rfl, tv⟩
theorem bank_Bank_Turn.ok0 {K : Nat} {p0 : Int} {p1 : List (Option (List (Int)))} {p2 : Int} {p3 : Int} {q0 : Int} (h0 : bank_Bank_Turn K p0 p1 p2 p3 = some (.inl q0)) : Fn Try.prog 109 [.p 0 0, .int .i64 p0] [(0, some (.ab (bkA p1 p2 p3)))] (.tup [.nils, .int .i64 q0]) [(0, some (.ab (bkA p1 p2 p3)))] := bank_Bank_Turn.ok h0
theorem bank_Bank_Turn.ok1 {K : Nat} {p0 : Int} {p1 : List (Option (List (Int)))} {p2 : Int} {p3 : Int} {q0 : List (Option (List (Int)))} {q1 : Int} {q2 : Int} {q3 : List (Int)} (h0 : bank_Bank_Turn K p0 p1 p2 p3 = some (.inr (q0, q1, q2, q3))) : Fn Try.prog 109 [.p 0 0, .int .i64 p0] [(0, some (.ab (bkA p1 p2 p3)))] (.tup [.sl 1000, .int .i64 0]) [(0, some (.ab (bkA q0 q1 q2))), (1000, some (.rows (.int .i16) q3))] := bank_Bank_Turn.ok h0
theorem bank_Bank_Turn.fnb : fnb Try.prog 109 = true := fnb_of Try.func109 rfl
def wave_Sine.res (_p0 : Int) (_p1 : Int) : Int × Int → MV
  | (q0, q1) => .tup [.int .i16 q0, .int .i64 q1]
def wave_Sine.out (_p0 : Int) (_p1 : Int) : Int × Int → List (Nat × Option MObj)
  | (_, _) => []
theorem wave_Sine.ok {K : Nat} {p0 : Int} {p1 : Int} {r : Int × Int} (h0 : wave_Sine K p0 p1 = some r) : Fn Try.prog 142 [.int .i64 p0, .int .i64 p1] [] (wave_Sine.res p0 p1 r) (wave_Sine.out p0 p1 r) := by
  refine Fn_of Try.func142 rfl (Nat.le_of_ble_eq_true rfl) fun Γ => ?_
  refine TC_seq ?_
  refine TC_reg ?_
  refine TL_ev env 2 rfl ⟨tv, ⟨tv, tv⟩⟩ ?_
  refine TL_end ?_
  refine TE_go ?_
  refine TC_seq ?_
  refine TC_seq ?_
  refine TC_reg ?_
  refine TL_ev env 6 rfl ⟨tv, ⟨⟨tv, ⟨tv, tv⟩⟩, ⟨tv, ⟨fun eg => tv, ⟨fun eg => ⟨fun e => e, ⟨tv, tv⟩⟩, ⟨⟨tv, ⟨tv, fun e => e⟩⟩, tv⟩⟩⟩⟩⟩⟩ ?_
  refine TL_end ?_
  refine TE_go ?_
  refine TC_cond rfl (fun hb => ?_) (fun hb => ?_)
  · replace h0 := bif_t h0 hb
    refine TC_seq ?_
    refine TC_reg ?_
    refine TL_ev env 2 rfl ⟨tv, ⟨tv, tv⟩⟩ ?_
    refine TL_end ?_
    refine TE_go ?_
    refine TC_ret ?_
    refine tsr ?_
    obtain rfl := sinj h0
    exact TE_ret env rfl tv tv
  · replace h0 := bif_f h0 hb
    refine TC_skip ?_
    refine TE_go ?_
    refine TC_seq ?_
    refine TC_reg ?_
    refine TL_ev env 2 rfl ⟨tv, ⟨tv, tv⟩⟩ ?_
    obtain ⟨r5, hr, h0⟩ := bnd h0
    refine TL_callB [] (wave_sine.ok0 hr) wave_sine.fnb rfl ⟨tv, ⟨tv, ⟨tv, tv⟩⟩⟩ rfl tv rfl ?_
    refine TL_ev env 2 rfl ⟨tv, ⟨tv, tv⟩⟩ ?_
    refine TL_end ?_
    refine TE_go ?_
    refine TC_ret ?_
    obtain rfl := sinj h0
    exact TE_ret env rfl tv tv
theorem wave_Sine.ok0 {K : Nat} {p0 : Int} {p1 : Int} {q0 : Int} {q1 : Int} (h0 : wave_Sine K p0 p1 = some (q0, q1)) : Fn Try.prog 142 [.int .i64 p0, .int .i64 p1] [] (.tup [.int .i16 q0, .int .i64 q1]) [] := wave_Sine.ok h0
theorem wave_Sine.fnb : fnb Try.prog 142 = true := fnb_of Try.func142 rfl
def bank_Bank_Slope_1.res (_p0 : Int) (_p1 : Int) : Int → MV
  | q0 => .int .i16 q0
def bank_Bank_Slope_1.out (_p0 : Int) (p1 : Int) : Int → List (Nat × Option MObj)
  | _ => [(0, some (.cells [.int .i64 p1]))]
theorem bank_Bank_Slope_1.ok {K : Nat} {p0 : Int} {p1 : Int} {r : Int} (h0 : bank_Bank_Slope_1 K p0 p1 = some r) : Fn Try.prog 141 [.int .i64 p0, .p 0 0] [(0, some (.cells [.int .i64 p1]))] (bank_Bank_Slope_1.res p0 p1 r) (bank_Bank_Slope_1.out p0 p1 r) := by
  refine Fn_of Try.func141 rfl (Nat.le_of_ble_eq_true rfl) fun Γ => ?_
  refine TC_seq ?_
  refine TC_reg ?_
  refine TL_ev env 1 rfl ⟨tv, tv⟩ ?_
  refine TL_end ?_
  refine TE_go ?_
  refine TC_seq ?_
  refine TC_reg ?_
  refine TL_ev env 5 rfl ⟨tv, ⟨⟨tv, ⟨tv, tv⟩⟩, ⟨⟨tv, ⟨tv, tv⟩⟩, ⟨⟨tv, tv⟩, ⟨⟨tv, ⟨tv, tv⟩⟩, tv⟩⟩⟩⟩⟩ ?_
  obtain ⟨⟨r6, r7⟩, hr, h0⟩ := bnd h0
  refine TL_callB [] (wave_Sine.ok0 hr) wave_Sine.fnb rfl ⟨tv, ⟨tv, ⟨tv, tv⟩⟩⟩ rfl tv rfl ?_
  refine TL_ev env 5 rfl ⟨tv, ⟨tv, ⟨tv, ⟨tv, ⟨tv, tv⟩⟩⟩⟩⟩ ?_
  refine TL_end ?_
  refine TE_go ?_
  refine TC_seq ?_
  refine TC_reg ?_
  refine TL_ev env 2 rfl ⟨tv, ⟨tv, tv⟩⟩ ?_
  refine TL_end ?_
  refine TE_go ?_
  refine TC_ret ?_
  obtain rfl := sinj h0
  exact TE_ret env rfl tv ⟨.inr rfl, tv⟩
theorem bank_Bank_Slope_1.ok0 {K : Nat} {p0 : Int} {p1 : Int} {q0 : Int} (h0 : bank_Bank_Slope_1 K p0 p1 = some q0) : Fn Try.prog 141 [.int .i64 p0, .p 0 0] [(0, some (.cells [.int .i64 p1]))] (.int .i16 q0) [(0, some (.cells [.int .i64 p1]))] := bank_Bank_Slope_1.ok h0
theorem bank_Bank_Slope_1.fnb : fnb Try.prog 141 = true := fnb_of Try.func141 rfl
def bank_Bank_tell_1_2.res (_p0 : List (Option (List (Int)))) (_p1 : List (Option (List (Int)))) (_p2 : Int) (_p3 : Int) (_p4 : Int) (_p5 : Int) : (List (Int)) × Int → MV
  | (_, _) => .tup []
def bank_Bank_tell_1_2.out (p0 : List (Option (List (Int)))) (p1 : List (Option (List (Int)))) (_p2 : Int) (p3 : Int) (p4 : Int) (p5 : Int) : (List (Int)) × Int → List (Nat × Option MObj)
  | (q0, q1) => [(0, some (.foc (tcs p0) [.int .u32 0, .int .i32 1, .int .u32 0, .im (.slice (.int .i16)) q0] (pst p1 q1 p3))), (1, some (.cells [.int .i64 p4])), (2, some (.cells [.pf 0 (tcs p0).length 0])), (3, some (.cells [.fn 141 [.p 5 0]])), (4, some (.cells [.p 0 0])), (5, some (.cells [.int .i64 p5]))]
theorem bank_Bank_tell_1_2.ok {K : Nat} {p0 : List (Option (List (Int)))} {p1 : List (Option (List (Int)))} {p2 : Int} {p3 : Int} {p4 : Int} {p5 : Int} {r : (List (Int)) × Int} (h0 : bank_Bank_tell_1_2 K p0 p1 p2 p3 p4 p5 = some r) : Fn Try.prog 162 [.p 1 0, .p 2 0, .p 3 0, .p 4 0] [(0, some (.foc (tcs p0) [.int .u32 0, .int .i32 1, .int .u32 0, .nils] (pst p1 p2 p3))), (1, some (.cells [.int .i64 p4])), (2, some (.cells [.pf 0 (tcs p0).length 0])), (3, some (.cells [.fn 141 [.p 5 0]])), (4, some (.cells [.p 0 0])), (5, some (.cells [.int .i64 p5]))] (bank_Bank_tell_1_2.res p0 p1 p2 p3 p4 p5 r) (bank_Bank_tell_1_2.out p0 p1 p2 p3 p4 p5 r) := by
  refine Fn_of Try.func162 rfl (Nat.le_of_ble_eq_true rfl) fun Γ => ?_
  refine TC_seq ?_
  refine TC_renw (A' := [(0, .p 1 0), (1, .p 2 0), (2, .p 3 0), (3, .p 4 0)]) (L' := [(0, some (.foc (tcs _) [.int .u32 0, .int .i32 1, .int .u32 0, .nils] (pst _ _ _))), (1, some (.cells [.int .i64 _])), (2, some (.cells [.pf 0 (tcs _).length 0])), (3, some (.cells [.fn 141 [.p 5 0]])), (4, some (.cells [.p 0 0])), (5, some (.cells [.int .i64 _]))]) [] ⟨rfl, rfl, rfl, rfl, tv⟩ ⟨rfl, rfl, rfl, rfl, rfl, rfl, tv⟩ rfl ?_
  refine TC_drawR ⟨_, fun i => ([[], [], [1], [2, 1, 0], [3, 2, 1, 0], [4, 3, 2, 1, 0]] : List (List Nat)).getD i [], fun i => ([[], [], [1007], [], [], [0]] : List (List Nat)).getD i [], fun i => ([[], [], [1007], [], [], []] : List (List Nat)).getD i []⟩ (fun i => ([[1007], [], [], [], [], []] : List (List Nat)).getD i []) (by kernel_rfl) (by kernel_rfl) ?_
  refine AJR_ev env 1 rfl (Nat.le_of_ble_eq_true rfl) rfl ⟨tv, tv⟩ ?_
  refine AJR_ev env 2 rfl (Nat.le_of_ble_eq_true rfl) rfl ⟨tv, tv⟩ ?_
  obtain ⟨g, h0⟩ := gd_t h0
  refine AJR_ev env 3 rfl (Nat.le_of_ble_eq_true rfl) rfl ⟨tv, ⟨tv, ⟨g.1, ⟨g.2.1, g.2.2⟩⟩⟩⟩ ?_
  refine AJR_ev env 4 rfl (Nat.le_of_ble_eq_true rfl) rfl tv ?_
  refine AJR_ev env 5 rfl (Nat.le_of_ble_eq_true rfl) rfl tv ?_
  refine AJR_ev env 6 rfl (Nat.le_of_ble_eq_true rfl) rfl ⟨tv, ⟨tv, rfl⟩⟩ ?_
  refine AJR_end rfl rfl rfl ?_
  refine TE_go ?_
  refine TC_seq ?_
  refine TC_seq ?_
  refine TC_reg ?_
  refine TL_ev env 6 rfl ⟨⟨tv, tv⟩, ⟨tv, ⟨tv, ⟨⟨tv, rfl⟩, ⟨⟨tv, tv⟩, ⟨tv, tv⟩⟩⟩⟩⟩⟩ ?_
  refine TL_end ?_
  refine TE_go ?_
  obtain ⟨z1, h1, h0⟩ := bnd h0
  refine TC_cut (α := (List (Int))) (fun s => z1 = s) (fun s => [(3, .p 4 0)]) (fun s => [(0, some (.foc (tcs p0) [.int .u32 0, .int .i32 1, .int .u32 0, .sl 10806] (pst p1 p2 p3))), (1, some (.cells [.int .i64 p4])), (2, some (.cells [.pf 0 (tcs p0).length 0])), (3, some (.cells [.fn 141 [.p 5 0]])), (4, some (.cells [.p 0 0])), (5, some (.cells [.int .i64 p5])), (10806, some (.rows (.int .i16) s))]) ?_ ?_
  · refine TC_blk ?_
    refine TC_loop (α := Int × (List (Int))) (fun n s => bank_Bank_tell_1_2.l0 K ((List.replicate (Int.toNat p4) (0 : Int)).length : Int) p0 p1 p2 p3 p4 p5 n s.1 s.2 = some z1) (fun s => [(1, .p 2 0), (2, .p 3 0), (3, .p 4 0), (14, .int .i64 ((List.replicate (Int.toNat p4) (0 : Int)).length : Int)), (15, .int .i64 s.1)]) (fun s => [(0, some (.foc (tcs p0) [.int .u32 0, .int .i32 1, .int .u32 0, .sl 11006] (pst p1 p2 p3))), (1, some (.cells [.int .i64 p4])), (2, some (.cells [.pf 0 (tcs p0).length 0])), (3, some (.cells [.fn 141 [.p 5 0]])), (4, some (.cells [.p 0 0])), (5, some (.cells [.int .i64 p5])), (11006, some (.rows (.int .i16) s.2))]) K ?_ ?_
    · exact SP_ren [(11006, 1007)] (_, _) h1 ⟨rfl, rfl, rfl, rfl, rfl, tv⟩ ⟨rfl, rfl, rfl, rfl, rfl, rfl, rfl, tv⟩ rfl
    rintro n ⟨x25, x26⟩ h1
    rcases n with _ | n
    · exact (nsome h1).elim
    replace h1 : bank_Bank_tell_1_2.r0 K ((List.replicate (Int.toNat p4) (0 : Int)).length : Int) p0 p1 p2 p3 p4 p5 (bank_Bank_tell_1_2.l0 K ((List.replicate (Int.toNat p4) (0 : Int)).length : Int) p0 p1 p2 p3 p4 p5 n) x25 x26 = some z1 := h1
    refine TC_seq ?_
    refine TC_reg ?_
    refine TL_ev env 1 rfl ⟨⟨tv, ⟨tv, tv⟩⟩, tv⟩ ?_
    refine TL_end ?_
    refine TE_go ?_
    refine TC_seq ?_
    refine TC_cond rfl (fun hb => ?_) (fun hb => ?_)
    · replace h1 := bif_t h1 hb
      refine TC_skip ?_
      refine TE_go ?_
      refine TC_seq ?_
      refine TC_blk ?_
      refine TC_seq ?_
      refine TC_reg ?_
      refine TL_ev env 2 rfl ⟨tv, ⟨tv, tv⟩⟩ ?_
      refine TL_end ?_
      refine TE_go ?_
      refine TC_renw (A' := [(1, .p 2 0), (2, .p 3 0), (3, .p 4 0), (4, .int .i64 _), (14, .int .i64 _), (15, .int .i64 _)]) (L' := [(0, some (.foc (tcs _) [.int .u32 0, .int .i32 1, .int .u32 0, .sl 11006] (pst _ _ _))), (1, some (.cells [.int .i64 _])), (2, some (.cells [.pf 0 (tcs _).length 0])), (3, some (.cells [.fn 141 [.p 5 0]])), (4, some (.cells [.p 0 0])), (5, some (.cells [.int .i64 _])), (11006, some (.rows (.int .i16) _))]) [] ⟨rfl, rfl, rfl, rfl, rfl, rfl, tv⟩ ⟨rfl, rfl, rfl, rfl, rfl, rfl, rfl, tv⟩ rfl ?_
      refine TC_drawR ⟨_, fun i => ([[], [0], [1, 0], [2, 1, 0], [], [], [], [6, 5], [7, 6, 5, 4, 3, 2, 1, 0], [8, 7, 6, 5, 4, 3, 2, 1, 0]] : List (List Nat)).getD i [], fun i => ([[], [], [], [], [], [], [], [5], [], [11006]] : List (List Nat)).getD i [], fun i => ([[], [], [], [], [], [], [], [], [], []] : List (List Nat)).getD i []⟩ (fun i => ([[5], [5], [5], [5], [5], [], [], [], [], []] : List (List Nat)).getD i []) (by kernel_rfl) (by kernel_rfl) ?_
      refine AJR_ev env 1 rfl (Nat.le_of_ble_eq_true rfl) rfl ⟨tv, tv⟩ ?_
      refine AJR_ev env 2 rfl (Nat.le_of_ble_eq_true rfl) rfl tv ?_
      refine AJR_ev env 3 rfl (Nat.le_of_ble_eq_true rfl) rfl tv ?_
      refine AJR_ev env 4 rfl (Nat.le_of_ble_eq_true rfl) rfl ⟨tv, rfl⟩ ?_
      refine AJR_ev env 5 rfl (Nat.le_of_ble_eq_true rfl) rfl tv ?_
      refine AJR_ev env 6 rfl (Nat.le_of_ble_eq_true rfl) rfl ⟨tv, tv⟩ ?_
      refine AJR_ev env 7 rfl (Nat.le_of_ble_eq_true rfl) rfl tv ?_
      obtain ⟨r33, hr, h1⟩ := bnd h1
      refine AJR_call 8 rfl (Nat.le_of_ble_eq_true rfl) [(0, 5)] rfl (bank_Bank_Slope_1.ok0 hr) bank_Bank_Slope_1.fnb rfl ⟨tv, ⟨tv, tv⟩⟩ rfl ⟨.inr rfl, tv⟩ rfl ?_
      obtain ⟨g, h1⟩ := gd_t h1
      refine AJR_ev env 9 rfl (Nat.le_of_ble_eq_true rfl) rfl ⟨tv, ⟨tv, ⟨g.1, g.2⟩⟩⟩ ?_
      obtain ⟨g, h1⟩ := gd_t h1
      refine AJR_ev env 10 rfl (Nat.le_of_ble_eq_true rfl) rfl ⟨tv, ⟨tv, g⟩⟩ ?_
      refine AJR_end rfl rfl rfl ?_
      refine tbn ?_
      refine TE_go ?_
      refine TC_reg ?_
      refine TL_ev env 2 rfl ⟨⟨tv, ⟨tv, tv⟩⟩, ⟨tv, tv⟩⟩ ?_
      refine TL_end ?_
      refine tsn ?_
      exact TE_nextr [(11006, 11006)] n (Nat.lt_succ_self n) (_, _) h1 ⟨rfl, rfl, rfl, rfl, rfl, tv⟩ ⟨rfl, rfl, rfl, rfl, rfl, rfl, rfl, tv⟩ rfl
    · replace h1 := bif_f h1 hb
      refine TC_exit ?_
      refine tsx ?_
      refine tsx ?_
      refine tbe ?_
      obtain rfl := sinj h1
      refine tsn ?_
      exact SP_ren [(10806, 11006)] _ rfl ⟨rfl, tv⟩ ⟨rfl, rfl, rfl, rfl, rfl, rfl, rfl, tv⟩ rfl
  · rintro x21 hz
    obtain rfl := hz.symm
    refine TE_go ?_
    refine TC_reg ?_
    refine TL_ev env 3 rfl ⟨⟨tv, tv⟩, ⟨tv, ⟨tv, tv⟩⟩⟩ ?_
    refine TL_frz 10806 rfl ?_
    obtain ⟨r22, hr, h0⟩ := bnd h0
    refine TL_callB [(0, 0)] (sync_atomic_Int64_Add.ok0 hr) sync_atomic_Int64_Add.fnb rfl ⟨tv, ⟨tv, ⟨tv, tv⟩⟩⟩ rfl ⟨.inr rfl, tv⟩ rfl ?_
    refine TL_end ?_
    obtain rfl := sinj h0
    exact TE_end env rfl tv ⟨.inr rfl, .inr rfl, .inr rfl, .inr rfl, .inr rfl, .inr rfl, tv⟩
theorem bank_Bank_tell_1_2.ok0 {K : Nat} {p0 : List (Option (List (Int)))} {p1 : List (Option (List (Int)))} {p2 : Int} {p3 : Int} {p4 : Int} {p5 : Int} {q0 : List (Int)} {q1 : Int} (h0 : bank_Bank_tell_1_2 K p0 p1 p2 p3 p4 p5 = some (q0, q1)) : Fn Try.prog 162 [.p 1 0, .p 2 0, .p 3 0, .p 4 0] [(0, some (.foc (tcs p0) [.int .u32 0, .int .i32 1, .int .u32 0, .nils] (pst p1 p2 p3))), (1, some (.cells [.int .i64 p4])), (2, some (.cells [.pf 0 (tcs p0).length 0])), (3, some (.cells [.fn 141 [.p 5 0]])), (4, some (.cells [.p 0 0])), (5, some (.cells [.int .i64 p5]))] (.tup []) [(0, some (.foc (tcs p0) [.int .u32 0, .int .i32 1, .int .u32 0, .im (.slice (.int .i16)) q0] (pst p1 q1 p3))), (1, some (.cells [.int .i64 p4])), (2, some (.cells [.pf 0 (tcs p0).length 0])), (3, some (.cells [.fn 141 [.p 5 0]])), (4, some (.cells [.p 0 0])), (5, some (.cells [.int .i64 p5]))] := bank_Bank_tell_1_2.ok h0
theorem bank_Bank_tell_1_2.fnb : fnb Try.prog 162 = true := fnb_of Try.func162 rfl
theorem sync_Once_doSlow_2.ok0 {K : Nat} {p0 : List (Option (List (Int)))} {p1 : List (Option (List (Int)))} {p2 : Int} {p3 : Int} {p4 : Int} {p5 : Int} {q0 : List (Int)} {q1 : Int} (h0 : sync_Once_doSlow_2 K p0 p1 p2 p3 p4 p5 = some (q0, q1)) : Fn Try.prog 175 [.pf 0 (tcs p0).length 0, .fn 162 [.p 1 0, .p 2 0, .p 3 0, .p 4 0]] [(0, some (.foc (tcs p0) [.int .u32 0, .int .i32 0, .int .u32 0, .nils] (pst p1 p2 p3))), (1, some (.cells [.int .i64 p4])), (2, some (.cells [.pf 0 (tcs p0).length 0])), (3, some (.cells [.fn 141 [.p 5 0]])), (4, some (.cells [.p 0 0])), (5, some (.cells [.int .i64 p5]))] (.tup []) [(0, some (.foc (tcs p0) [.int .u32 1, .int .i32 0, .int .u32 0, .im (.slice (.int .i16)) q0] (pst p1 q1 p3))), (1, some (.cells [.int .i64 p4])), (2, some (.cells [.pf 0 (tcs p0).length 0])), (3, some (.cells [.fn 141 [.p 5 0]])), (4, some (.cells [.p 0 0])), (5, some (.cells [.int .i64 p5]))] := by
  exact slow_fn rfl (bank_Bank_tell_1_2.ok0 h0)
theorem sync_Once_doSlow_2.fnb : fnb Try.prog 175 = true := fnb_of Try.func175 rfl
def sync_Once_Do_3.res (_p0 : List (Option (List (Int)))) (_p1 : List (Option (List (Int)))) (_p2 : Int) (_p3 : Int) (_p4 : Int) (_p5 : Int) : (List (Int)) × Int → MV
  | (_, _) => .tup []
def sync_Once_Do_3.out (p0 : List (Option (List (Int)))) (p1 : List (Option (List (Int)))) (_p2 : Int) (p3 : Int) (p4 : Int) (p5 : Int) : (List (Int)) × Int → List (Nat × Option MObj)
  | (q0, q1) => [(0, some (.foc (tcs p0) [.int .u32 1, .int .i32 0, .int .u32 0, .im (.slice (.int .i16)) q0] (pst p1 q1 p3))), (1, some (.cells [.int .i64 p4])), (2, some (.cells [.pf 0 (tcs p0).length 0])), (3, some (.cells [.fn 141 [.p 5 0]])), (4, some (.cells [.p 0 0])), (5, some (.cells [.int .i64 p5]))]
theorem sync_Once_Do_3.ok {K : Nat} {p0 : List (Option (List (Int)))} {p1 : List (Option (List (Int)))} {p2 : Int} {p3 : Int} {p4 : Int} {p5 : Int} {r : (List (Int)) × Int} (h0 : sync_Once_Do_3 K p0 p1 p2 p3 p4 p5 = some r) : Fn Try.prog 161 [.pf 0 (tcs p0).length 0, .fn 162 [.p 1 0, .p 2 0, .p 3 0, .p 4 0]] [(0, some (.foc (tcs p0) [.int .u32 0, .int .i32 0, .int .u32 0, .nils] (pst p1 p2 p3))), (1, some (.cells [.int .i64 p4])), (2, some (.cells [.pf 0 (tcs p0).length 0])), (3, some (.cells [.fn 141 [.p 5 0]])), (4, some (.cells [.p 0 0])), (5, some (.cells [.int .i64 p5]))] (sync_Once_Do_3.res p0 p1 p2 p3 p4 p5 r) (sync_Once_Do_3.out p0 p1 p2 p3 p4 p5 r) := by
  refine Fn_of Try.func161 rfl (Nat.le_of_ble_eq_true rfl) fun Γ => ?_
  refine TC_seq ?_
  refine TC_reg ?_
  refine TL_ev env 3 rfl ⟨tv, ⟨tv, ⟨tv, tv⟩⟩⟩ ?_
  obtain ⟨⟨⟩, hr, h0⟩ := bnd h0
  refine TL_callB [(0, 0)] (sync_atomic_Bool_Load.ok0 hr) sync_atomic_Bool_Load.fnb rfl ⟨tv, ⟨tv, tv⟩⟩ rfl ⟨.inr rfl, tv⟩ rfl ?_
  refine TL_ev env 1 rfl ⟨tv, tv⟩ ?_
  refine TL_end ?_
  refine TE_go ?_
  refine TC_cond rfl (fun hb => ?_) (fun hb => ?_)
  · refine TC_reg ?_
    refine TL_ev env 2 rfl ⟨tv, ⟨tv, tv⟩⟩ ?_
    obtain ⟨⟨r3, r4⟩, hr, h0⟩ := bnd h0
    refine TL_callB [(0, 0), (1, 1), (2, 2), (3, 3), (4, 4), (5, 5)] (sync_Once_doSlow_2.ok0 hr) sync_Once_doSlow_2.fnb rfl ⟨tv, ⟨tv, ⟨tv, tv⟩⟩⟩ rfl ⟨.inr rfl, .inr rfl, .inr rfl, .inr rfl, .inr rfl, .inr rfl, tv⟩ rfl ?_
    refine TL_end ?_
    obtain rfl := sinj h0
    exact TE_end env rfl tv ⟨.inr rfl, .inr rfl, .inr rfl, .inr rfl, .inr rfl, .inr rfl, tv⟩
  · first | exact (ftf hb).elim | exact (tff hb).elim | exact absurd hb (by decide)
theorem sync_Once_Do_3.ok0 {K : Nat} {p0 : List (Option (List (Int)))} {p1 : List (Option (List (Int)))} {p2 : Int} {p3 : Int} {p4 : Int} {p5 : Int} {q0 : List (Int)} {q1 : Int} (h0 : sync_Once_Do_3 K p0 p1 p2 p3 p4 p5 = some (q0, q1)) : Fn Try.prog 161 [.pf 0 (tcs p0).length 0, .fn 162 [.p 1 0, .p 2 0, .p 3 0, .p 4 0]] [(0, some (.foc (tcs p0) [.int .u32 0, .int .i32 0, .int .u32 0, .nils] (pst p1 p2 p3))), (1, some (.cells [.int .i64 p4])), (2, some (.cells [.pf 0 (tcs p0).length 0])), (3, some (.cells [.fn 141 [.p 5 0]])), (4, some (.cells [.p 0 0])), (5, some (.cells [.int .i64 p5]))] (.tup []) [(0, some (.foc (tcs p0) [.int .u32 1, .int .i32 0, .int .u32 0, .im (.slice (.int .i16)) q0] (pst p1 q1 p3))), (1, some (.cells [.int .i64 p4])), (2, some (.cells [.pf 0 (tcs p0).length 0])), (3, some (.cells [.fn 141 [.p 5 0]])), (4, some (.cells [.p 0 0])), (5, some (.cells [.int .i64 p5]))] := sync_Once_Do_3.ok h0
theorem sync_Once_Do_3.fnb : fnb Try.prog 161 = true := fnb_of Try.func161 rfl
def bank_Bank_tell_4.res (_t0 : List (Option (List (Int)))) (_t1 : List (Option (List (Int)))) (_p1 : Int) (_p3 : Int) (_p4 : Int) (_p5 : Int) : (List (Int)) × Int × Int × (List (Int)) → MV
  | (_, _, _, _) => .tup [.sl 1000, .int .i64 0]
def bank_Bank_tell_4.out (t0 : List (Option (List (Int)))) (t1 : List (Option (List (Int)))) (_p1 : Int) (_p3 : Int) (_p4 : Int) (p5 : Int) : (List (Int)) × Int × Int × (List (Int)) → List (Nat × Option MObj)
  | (q0, q1, q2, q3) => [(0, some (.foc (tcs t0) [.int .u32 1, .int .i32 0, .int .u32 0, .im (.slice (.int .i16)) q0] (pst t1 q1 q2))), (1, some (.cells [.int .i64 p5])), (1000, some (.rows (.int .i16) q3))]
theorem bank_Bank_tell_4.ok {K : Nat} {t0 : List (Option (List (Int)))} {t1 : List (Option (List (Int)))} {p1 : Int} {p3 : Int} {p4 : Int} {p5 : Int} {r : (List (Int)) × Int × Int × (List (Int))} (h0 : bank_Bank_tell_4 K t0 t1 p1 p3 p4 p5 = some r) : Fn Try.prog 138 [.p 0 0, .pf 0 (tcs t0).length 0, .int .i64 p1, .fn 141 [.p 1 0]] [(0, some (.foc (tcs t0) [.int .u32 0, .int .i32 0, .int .u32 0, .nils] (pst t1 p3 p4))), (1, some (.cells [.int .i64 p5]))] (bank_Bank_tell_4.res t0 t1 p1 p3 p4 p5 r) (bank_Bank_tell_4.out t0 t1 p1 p3 p4 p5 r) := by
  refine Fn_of Try.func138 rfl (Nat.le_of_ble_eq_true rfl) fun Γ => ?_
  refine TC_seq ?_
  refine TC_reg ?_
  refine TL_ev env 6 rfl ⟨tv, ⟨tv, ⟨tv, ⟨tv, ⟨tv, ⟨tv, tv⟩⟩⟩⟩⟩⟩ ?_
  refine TL_end ?_
  refine TE_go ?_
  refine TC_seq ?_
  refine TC_reg ?_
  refine TL_ev env 4 rfl ⟨⟨tv, tv⟩, ⟨tv, ⟨tv, ⟨⟨tv, ⟨tv, ⟨tv, ⟨tv, tv⟩⟩⟩⟩, tv⟩⟩⟩⟩ ?_
  obtain ⟨⟨r5, r6⟩, hr, h0⟩ := bnd h0
  refine TL_callB [(0, 0), (1, 1006), (2, 1005), (3, 1007), (4, 1004), (5, 1)] (sync_Once_Do_3.ok0 hr) sync_Once_Do_3.fnb rfl ⟨tv, ⟨tv, ⟨tv, tv⟩⟩⟩ rfl ⟨.inr rfl, .inr rfl, .inr rfl, .inr rfl, .inr rfl, .inr rfl, tv⟩ rfl ?_
  refine TL_end ?_
  refine TE_go ?_
  refine TC_seq ?_
  refine TC_reg ?_
  refine TL_ev env 3 rfl ⟨⟨tv, tv⟩, ⟨tv, ⟨tv, tv⟩⟩⟩ ?_
  obtain ⟨r7, hr, h0⟩ := bnd h0
  refine TL_callB [(0, 0)] (sync_atomic_Int64_Add_2.ok0 hr) sync_atomic_Int64_Add_2.fnb rfl ⟨tv, ⟨tv, ⟨tv, tv⟩⟩⟩ rfl ⟨.inr rfl, tv⟩ rfl ?_
  refine TL_end ?_
  refine TE_go ?_
  refine TC_seq ?_
  refine TC_reg ?_
  refine TL_ev env 4 rfl ⟨⟨tv, tv⟩, ⟨tv, ⟨tv, ⟨⟨tv, rfl⟩, tv⟩⟩⟩⟩ ?_
  obtain ⟨r8, hr, h0⟩ := bnd h0
  refine TL_callB [(1000, 500230)] (slices_Clone_int16_int16.ok0 hr) slices_Clone_int16_int16.fnb rfl ⟨tv, ⟨tv, tv⟩⟩ rfl tv rfl ?_
  refine TL_ev env 2 rfl ⟨tv, ⟨tv, tv⟩⟩ ?_
  refine TL_end ?_
  refine TE_go ?_
  refine TC_ret ?_
  obtain rfl := sinj h0
  refine TE_renw (A' := [(8, .sl 1000), (9, .int .i64 0)]) (L' := [(0, some (.foc (tcs _) [.int .u32 1, .int .i32 0, .int .u32 0, .im (.slice (.int .i16)) _] (pst _ _ _))), (1, some (.cells [.int .i64 _])), (1000, some (.rows (.int .i16) _))]) [(1000, 500230)] ⟨rfl, rfl, tv⟩ ⟨rfl, rfl, rfl, tv⟩ rfl ?_
  exact TE_ret env rfl tv ⟨.inr rfl, .inr rfl, .inr rfl, tv⟩
theorem bank_Bank_tell_4.ok0 {K : Nat} {t0 : List (Option (List (Int)))} {t1 : List (Option (List (Int)))} {p1 : Int} {p3 : Int} {p4 : Int} {p5 : Int} {q0 : List (Int)} {q1 : Int} {q2 : Int} {q3 : List (Int)} (h0 : bank_Bank_tell_4 K t0 t1 p1 p3 p4 p5 = some (q0, q1, q2, q3)) : Fn Try.prog 138 [.p 0 0, .pf 0 (tcs t0).length 0, .int .i64 p1, .fn 141 [.p 1 0]] [(0, some (.foc (tcs t0) [.int .u32 0, .int .i32 0, .int .u32 0, .nils] (pst t1 p3 p4))), (1, some (.cells [.int .i64 p5]))] (.tup [.sl 1000, .int .i64 0]) [(0, some (.foc (tcs t0) [.int .u32 1, .int .i32 0, .int .u32 0, .im (.slice (.int .i16)) q0] (pst t1 q1 q2))), (1, some (.cells [.int .i64 p5])), (1000, some (.rows (.int .i16) q3))] := bank_Bank_tell_4.ok h0
theorem bank_Bank_tell_4.fnb : fnb Try.prog 138 = true := fnb_of Try.func138 rfl
def sync_Once_Do_4.res (_p0 : List (Option (List (Int)))) (_p1 : List (Int)) (_p2 : List (Option (List (Int)))) (_p3 : Int) (_p4 : Int) (_p5 : Int) (_p6 : Int) : Unit → MV
  | () => .tup []
def sync_Once_Do_4.out (p0 : List (Option (List (Int)))) (p1 : List (Int)) (p2 : List (Option (List (Int)))) (p3 : Int) (p4 : Int) (p5 : Int) (p6 : Int) : Unit → List (Nat × Option MObj)
  | () => [(0, some (.foc (tcs p0) [.int .u32 1, .int .i32 0, .int .u32 0, .im (.slice (.int .i16)) p1] (pst p2 p3 p4))), (1, some (.cells [.int .i64 p5])), (2, some (.cells [.pf 0 (tcs p0).length 0])), (3, some (.cells [.fn 141 [.p 5 0]])), (4, some (.cells [.p 0 0])), (5, some (.cells [.int .i64 p6]))]
theorem sync_Once_Do_4.ok {K : Nat} {p0 : List (Option (List (Int)))} {p1 : List (Int)} {p2 : List (Option (List (Int)))} {p3 : Int} {p4 : Int} {p5 : Int} {p6 : Int} {r : Unit} (h0 : sync_Once_Do_4 K p0 p1 p2 p3 p4 p5 p6 = some r) : Fn Try.prog 161 [.pf 0 (tcs p0).length 0, .fn 162 [.p 1 0, .p 2 0, .p 3 0, .p 4 0]] [(0, some (.foc (tcs p0) [.int .u32 1, .int .i32 0, .int .u32 0, .im (.slice (.int .i16)) p1] (pst p2 p3 p4))), (1, some (.cells [.int .i64 p5])), (2, some (.cells [.pf 0 (tcs p0).length 0])), (3, some (.cells [.fn 141 [.p 5 0]])), (4, some (.cells [.p 0 0])), (5, some (.cells [.int .i64 p6]))] (sync_Once_Do_4.res p0 p1 p2 p3 p4 p5 p6 r) (sync_Once_Do_4.out p0 p1 p2 p3 p4 p5 p6 r) := by
  refine Fn_of Try.func161 rfl (Nat.le_of_ble_eq_true rfl) fun Γ => ?_
  unfold sync_Once_Do_4 at h0
  refine TC_seq ?_
  refine TC_reg ?_
  refine TL_ev env 3 rfl ⟨tv, ⟨tv, ⟨tv, tv⟩⟩⟩ ?_
  obtain ⟨⟨⟩, hr, h0⟩ := bnd h0
  refine TL_callB [(0, 0)] (sync_atomic_Bool_Load_2.ok0 hr) sync_atomic_Bool_Load_2.fnb rfl ⟨tv, ⟨tv, tv⟩⟩ rfl ⟨.inr rfl, tv⟩ rfl ?_
  refine TL_ev env 1 rfl ⟨tv, tv⟩ ?_
  refine TL_end ?_
  refine TE_go ?_
  refine TC_cond rfl (fun hb => ?_) (fun hb => ?_)
  · first | exact (ftf hb).elim | exact (tff hb).elim | exact absurd hb (by decide)
  · refine TC_skip ?_
    obtain rfl := sinj h0
    exact TE_end env rfl tv ⟨.inr rfl, .inr rfl, .inr rfl, .inr rfl, .inr rfl, .inr rfl, tv⟩
theorem sync_Once_Do_4.ok0 {K : Nat} {p0 : List (Option (List (Int)))} {p1 : List (Int)} {p2 : List (Option (List (Int)))} {p3 : Int} {p4 : Int} {p5 : Int} {p6 : Int}  (h0 : sync_Once_Do_4 K p0 p1 p2 p3 p4 p5 p6 = some ()) : Fn Try.prog 161 [.pf 0 (tcs p0).length 0, .fn 162 [.p 1 0, .p 2 0, .p 3 0, .p 4 0]] [(0, some (.foc (tcs p0) [.int .u32 1, .int .i32 0, .int .u32 0, .im (.slice (.int .i16)) p1] (pst p2 p3 p4))), (1, some (.cells [.int .i64 p5])), (2, some (.cells [.pf 0 (tcs p0).length 0])), (3, some (.cells [.fn 141 [.p 5 0]])), (4, some (.cells [.p 0 0])), (5, some (.cells [.int .i64 p6]))] (.tup []) [(0, some (.foc (tcs p0) [.int .u32 1, .int .i32 0, .int .u32 0, .im (.slice (.int .i16)) p1] (pst p2 p3 p4))), (1, some (.cells [.int .i64 p5])), (2, some (.cells [.pf 0 (tcs p0).length 0])), (3, some (.cells [.fn 141 [.p 5 0]])), (4, some (.cells [.p 0 0])), (5, some (.cells [.int .i64 p6]))] := sync_Once_Do_4.ok h0
theorem sync_Once_Do_4.fnb : fnb Try.prog 161 = true := fnb_of Try.func161 rfl
def bank_Bank_tell_5.res (_t0 : List (Option (List (Int)))) (_t1 : List (Option (List (Int)))) (_l : List (Int)) (_p1 : Int) (_p3 : Int) (_p4 : Int) (_p5 : Int) : Int × (List (Int)) → MV
  | (_, _) => .tup [.sl 1000, .int .i64 0]
def bank_Bank_tell_5.out (t0 : List (Option (List (Int)))) (t1 : List (Option (List (Int)))) (l : List (Int)) (_p1 : Int) (p3 : Int) (_p4 : Int) (p5 : Int) : Int × (List (Int)) → List (Nat × Option MObj)
  | (q0, q1) => [(0, some (.foc (tcs t0) [.int .u32 1, .int .i32 0, .int .u32 0, .im (.slice (.int .i16)) l] (pst t1 p3 q0))), (1, some (.cells [.int .i64 p5])), (1000, some (.rows (.int .i16) q1))]
theorem bank_Bank_tell_5.ok {K : Nat} {t0 : List (Option (List (Int)))} {t1 : List (Option (List (Int)))} {l : List (Int)} {p1 : Int} {p3 : Int} {p4 : Int} {p5 : Int} {r : Int × (List (Int))} (h0 : bank_Bank_tell_5 K t0 t1 l p1 p3 p4 p5 = some r) : Fn Try.prog 138 [.p 0 0, .pf 0 (tcs t0).length 0, .int .i64 p1, .fn 141 [.p 1 0]] [(0, some (.foc (tcs t0) [.int .u32 1, .int .i32 0, .int .u32 0, .im (.slice (.int .i16)) l] (pst t1 p3 p4))), (1, some (.cells [.int .i64 p5]))] (bank_Bank_tell_5.res t0 t1 l p1 p3 p4 p5 r) (bank_Bank_tell_5.out t0 t1 l p1 p3 p4 p5 r) := by
  refine Fn_of Try.func138 rfl (Nat.le_of_ble_eq_true rfl) fun Γ => ?_
  refine TC_seq ?_
  refine TC_reg ?_
  refine TL_ev env 6 rfl ⟨tv, ⟨tv, ⟨tv, ⟨tv, ⟨tv, ⟨tv, tv⟩⟩⟩⟩⟩⟩ ?_
  refine TL_end ?_
  refine TE_go ?_
  refine TC_seq ?_
  refine TC_reg ?_
  refine TL_ev env 4 rfl ⟨⟨tv, tv⟩, ⟨tv, ⟨tv, ⟨⟨tv, ⟨tv, ⟨tv, ⟨tv, tv⟩⟩⟩⟩, tv⟩⟩⟩⟩ ?_
  obtain ⟨⟨⟩, hr, h0⟩ := bnd h0
  refine TL_callB [(0, 0), (1, 1006), (2, 1005), (3, 1007), (4, 1004), (5, 1)] (sync_Once_Do_4.ok0 hr) sync_Once_Do_4.fnb rfl ⟨tv, ⟨tv, ⟨tv, tv⟩⟩⟩ rfl ⟨.inr rfl, .inr rfl, .inr rfl, .inr rfl, .inr rfl, .inr rfl, tv⟩ rfl ?_
  refine TL_end ?_
  refine TE_go ?_
  refine TC_seq ?_
  refine TC_reg ?_
  refine TL_ev env 3 rfl ⟨⟨tv, tv⟩, ⟨tv, ⟨tv, tv⟩⟩⟩ ?_
  obtain ⟨r3, hr, h0⟩ := bnd h0
  refine TL_callB [(0, 0)] (sync_atomic_Int64_Add_2.ok0 hr) sync_atomic_Int64_Add_2.fnb rfl ⟨tv, ⟨tv, ⟨tv, tv⟩⟩⟩ rfl ⟨.inr rfl, tv⟩ rfl ?_
  refine TL_end ?_
  refine TE_go ?_
  refine TC_seq ?_
  refine TC_reg ?_
  refine TL_ev env 4 rfl ⟨⟨tv, tv⟩, ⟨tv, ⟨tv, ⟨⟨tv, rfl⟩, tv⟩⟩⟩⟩ ?_
  obtain ⟨r4, hr, h0⟩ := bnd h0
  refine TL_callB [(1000, 500230)] (slices_Clone_int16_int16.ok0 hr) slices_Clone_int16_int16.fnb rfl ⟨tv, ⟨tv, tv⟩⟩ rfl tv rfl ?_
  refine TL_ev env 2 rfl ⟨tv, ⟨tv, tv⟩⟩ ?_
  refine TL_end ?_
  refine TE_go ?_
  refine TC_ret ?_
  obtain rfl := sinj h0
  refine TE_renw (A' := [(8, .sl 1000), (9, .int .i64 0)]) (L' := [(0, some (.foc (tcs _) [.int .u32 1, .int .i32 0, .int .u32 0, .im (.slice (.int .i16)) _] (pst _ _ _))), (1, some (.cells [.int .i64 _])), (1000, some (.rows (.int .i16) _))]) [(1000, 500230)] ⟨rfl, rfl, tv⟩ ⟨rfl, rfl, rfl, tv⟩ rfl ?_
  exact TE_ret env rfl tv ⟨.inr rfl, .inr rfl, .inr rfl, tv⟩
theorem bank_Bank_tell_5.ok0 {K : Nat} {t0 : List (Option (List (Int)))} {t1 : List (Option (List (Int)))} {l : List (Int)} {p1 : Int} {p3 : Int} {p4 : Int} {p5 : Int} {q0 : Int} {q1 : List (Int)} (h0 : bank_Bank_tell_5 K t0 t1 l p1 p3 p4 p5 = some (q0, q1)) : Fn Try.prog 138 [.p 0 0, .pf 0 (tcs t0).length 0, .int .i64 p1, .fn 141 [.p 1 0]] [(0, some (.foc (tcs t0) [.int .u32 1, .int .i32 0, .int .u32 0, .im (.slice (.int .i16)) l] (pst t1 p3 p4))), (1, some (.cells [.int .i64 p5]))] (.tup [.sl 1000, .int .i64 0]) [(0, some (.foc (tcs t0) [.int .u32 1, .int .i32 0, .int .u32 0, .im (.slice (.int .i16)) l] (pst t1 p3 q0))), (1, some (.cells [.int .i64 p5])), (1000, some (.rows (.int .i16) q1))] := bank_Bank_tell_5.ok h0
theorem bank_Bank_tell_5.fnb : fnb Try.prog 138 = true := fnb_of Try.func138 rfl
theorem bank_Bank_tell_6.ok0 {K : Nat} {p0 : Nat} {p1 : Int} {p2 : List (Option (List (Int)))} {p3 : Int} {p4 : Int} {p5 : Int} {q0 : List (Int)} {q1 : List (Option (List (Int)))} {q2 : Int} {q3 : Int} (h0 : bank_Bank_tell_6 K p0 p1 p2 p3 p4 p5 = some (q0, q1, q2, q3)) : Fn Try.prog 138 [.p 0 0, .p 0 p0, .int .i64 p1, .fn 141 [.p 1 0]] [(0, some (.ab (bkA p2 p3 p4))), (1, some (.cells [.int .i64 p5]))] (.tup [.sl 1000, .int .i64 0]) [(0, some (.ab (bkA q1 q2 q3))), (1, some (.cells [.int .i64 p5])), (1000, some (.rows (.int .i16) q0))] := by
  unfold bank_Bank_tell_6 at h0
  obtain ⟨⟨g1, g2, g3⟩, h0⟩ := gd_t h0
  split at h0
  · rename_i hx
    obtain ⟨⟨q0', q1', q2', q3'⟩, hr, h0⟩ := bnd h0
    simp only [Option.some.injEq, Prod.mk.injEq] at h0
    obtain ⟨rfl, rfl, rfl, rfl⟩ := h0
    have hF := tell_fn (x := none) (x' := some q0') (bank_Bank_tell_4.ok0 hr)
    rw [tk hx, tcs_at g1 g2 g3] at hF
    exact hF
  · rename_i l hx
    obtain ⟨⟨q0', q1'⟩, hr, h0⟩ := bnd h0
    simp only [Option.some.injEq, Prod.mk.injEq] at h0
    obtain ⟨rfl, rfl, rfl, rfl⟩ := h0
    have hF := tell_fn (x := some l) (x' := some l) (bank_Bank_tell_5.ok0 hr)
    rw [tk hx, tcs_at g1 g2 g3] at hF
    exact hF
  · cases h0
theorem bank_Bank_tell_6.fnb : fnb Try.prog 138 = true := fnb_of Try.func138 rfl
def bank_Bank_Slope.res (_p0 : Int) (_p1 : List (Option (List (Int)))) (_p2 : Int) (_p3 : Int) : (Int) ⊕ ((List (Option (List (Int)))) × Int × Int × (List (Int))) → MV
  | .inl q0 => .tup [.nils, .int .i64 q0]
  | .inr (_, _, _, _) => .tup [.sl 1000, .int .i64 0]
def bank_Bank_Slope.out (_p0 : Int) (p1 : List (Option (List (Int)))) (p2 : Int) (p3 : Int) : (Int) ⊕ ((List (Option (List (Int)))) × Int × Int × (List (Int))) → List (Nat × Option MObj)
  | .inl _ => [(0, some (.ab (bkA p1 p2 p3)))]
  | .inr (q0, q1, q2, q3) => [(0, some (.ab (bkA q0 q1 q2))), (1000, some (.rows (.int .i16) q3))]
theorem bank_Bank_Slope.ok {K : Nat} {p0 : Int} {p1 : List (Option (List (Int)))} {p2 : Int} {p3 : Int} {r : (Int) ⊕ ((List (Option (List (Int)))) × Int × Int × (List (Int)))} (h0 : bank_Bank_Slope K p0 p1 p2 p3 = some r) : Fn Try.prog 110 [.p 0 0, .int .i64 p0] [(0, some (.ab (bkA p1 p2 p3)))] (bank_Bank_Slope.res p0 p1 p2 p3 r) (bank_Bank_Slope.out p0 p1 p2 p3 r) := by
  refine Fn_of Try.func110 rfl (Nat.le_of_ble_eq_true rfl) fun Γ => ?_
  refine TC_seq ?_
  refine TC_reg ?_
  refine TL_ev env 3 rfl ⟨tv, ⟨tv, ⟨tv, tv⟩⟩⟩ ?_
  refine TL_end ?_
  refine TE_go ?_
  refine TC_seq ?_
  refine TC_seq ?_
  refine TC_reg ?_
  refine TL_ev env 7 rfl ⟨tv, ⟨⟨tv, tv⟩, ⟨⟨tv, ⟨tv, tv⟩⟩, ⟨tv, ⟨fun eg => ⟨tv, tv⟩, ⟨fun eg => ⟨fun e => e, ⟨tv, tv⟩⟩, ⟨⟨tv, ⟨fun e => e, tv⟩⟩, tv⟩⟩⟩⟩⟩⟩⟩ ?_
  obtain ⟨r9, hr, h0⟩ := bnd h0
  refine TL_callB [(0, 0)] (bank_Bank_may.ok0 hr) bank_Bank_may.fnb rfl ⟨tv, ⟨tv, ⟨tv, tv⟩⟩⟩ rfl ⟨.inr rfl, tv⟩ rfl ?_
  refine TL_ev env 1 rfl ⟨tv, tv⟩ ?_
  refine TL_end ?_
  refine TE_go ?_
  refine TC_seq ?_
  refine TC_reg ?_
  refine TL_ev env 2 rfl ⟨tv, ⟨⟨tv, ⟨tv, tv⟩⟩, tv⟩⟩ ?_
  refine TL_end ?_
  refine TE_go ?_
  refine TC_cond rfl (fun hb => ?_) (fun hb => ?_)
  · replace h0 := bif_t h0 hb
    refine TC_seq ?_
    refine TC_reg ?_
    refine TL_ev env 3 rfl ⟨tv, ⟨tv, ⟨tv, tv⟩⟩⟩ ?_
    refine TL_end ?_
    refine TE_go ?_
    refine TC_ret ?_
    refine tsr ?_
    obtain rfl := sinj h0
    exact TE_ret env rfl tv ⟨.inr rfl, tv⟩
  · replace h0 := bif_f h0 hb
    refine TC_skip ?_
    refine TE_go ?_
    refine TC_seq ?_
    refine TC_renw (A' := [(0, .p 0 0), (3, .p 1003 0), (4, .nils), (5, .int .i64 0)]) (L' := [(0, some (.ab (bkA _ _ _))), (1003, some (.cells [.int .i64 _]))]) [] ⟨rfl, rfl, rfl, rfl, tv⟩ ⟨rfl, rfl, tv⟩ rfl ?_
    refine TC_drawR ⟨_, fun i => ([[], [], [], [1], [3, 1], [4, 3, 2, 1], [], [], [7, 6, 5, 4, 3, 2, 1, 0], [8, 7, 6, 5, 4, 3, 2, 1, 0], [8, 7, 6, 5, 4, 3, 2, 1, 0], [10, 9, 8, 7, 6, 5, 4, 3, 2, 1, 0], [11, 10, 9, 8, 7, 6, 5, 4, 3, 2, 1, 0]] : List (List Nat)).getD i [], fun i => ([[], [], [], [], [], [], [], [], [0, 1003, 500260], [], [], [], []] : List (List Nat)).getD i [], fun i => ([[], [], [], [], [], [], [], [], [500260], [], [], [], []] : List (List Nat)).getD i []⟩ (fun i => ([[], [], [], [], [], [], [], [], [], [], [], [], []] : List (List Nat)).getD i []) (by kernel_rfl) (by kernel_rfl) ?_
    refine AJR_ev env 1 rfl (Nat.le_of_ble_eq_true rfl) rfl tv ?_
    refine AJR_ev env 2 rfl (Nat.le_of_ble_eq_true rfl) rfl tv ?_
    refine AJR_ev env 3 rfl (Nat.le_of_ble_eq_true rfl) rfl ⟨tv, tv⟩ ?_
    refine AJR_ev env 4 rfl (Nat.le_of_ble_eq_true rfl) rfl tv ?_
    refine AJR_ev env 5 rfl (Nat.le_of_ble_eq_true rfl) rfl tv ?_
    obtain ⟨g, h0⟩ := gd_t h0
    refine AJR_ev env 6 rfl (Nat.le_of_ble_eq_true rfl) rfl ⟨tv, ⟨tv, ⟨g.1, g.2⟩⟩⟩ ?_
    refine AJR_ev env 7 rfl (Nat.le_of_ble_eq_true rfl) rfl ⟨tv, tv⟩ ?_
    refine AJR_ev env 8 rfl (Nat.le_of_ble_eq_true rfl) rfl ⟨tv, tv⟩ ?_
    obtain ⟨⟨r11, r12, r13, r14⟩, hr, h0⟩ := bnd h0
    refine AJR_call 9 rfl (Nat.le_of_ble_eq_true rfl) [(0, 0), (1, 1003), (1000, 500260)] rfl (bank_Bank_tell_6.ok0 hr) bank_Bank_tell_6.fnb rfl ⟨tv, ⟨tv, ⟨tv, ⟨tv, ⟨tv, tv⟩⟩⟩⟩⟩ rfl ⟨.inr rfl, .inr rfl, tv⟩ rfl ?_
    refine AJR_ev env 10 rfl (Nat.le_of_ble_eq_true rfl) rfl tv ?_
    refine AJR_ev env 11 rfl (Nat.le_of_ble_eq_true rfl) rfl tv ?_
    refine AJR_ev env 12 rfl (Nat.le_of_ble_eq_true rfl) rfl tv ?_
    refine AJR_ev env 13 rfl (Nat.le_of_ble_eq_true rfl) rfl tv ?_
    refine AJR_end rfl rfl rfl ?_
    refine TE_go ?_
    refine TC_ret ?_
    obtain rfl := sinj h0
    refine TE_renw (A' := [(4, .sl 1000), (5, .int .i64 0)]) (L' := [(0, some (.ab (bkA _ _ _))), (1000, some (.rows (.int .i16) _))]) [(1000, 500260)] ⟨rfl, rfl, tv⟩ ⟨rfl, rfl, tv⟩ rfl ?_
    exact TE_ret env rfl tv ⟨.inr rfl, .inr rfl, tv⟩
theorem bank_Bank_Slope.ok0 {K : Nat} {p0 : Int} {p1 : List (Option (List (Int)))} {p2 : Int} {p3 : Int} {q0 : Int} (h0 : bank_Bank_Slope K p0 p1 p2 p3 = some (.inl q0)) : Fn Try.prog 110 [.p 0 0, .int .i64 p0] [(0, some (.ab (bkA p1 p2 p3)))] (.tup [.nils, .int .i64 q0]) [(0, some (.ab (bkA p1 p2 p3)))] := bank_Bank_Slope.ok h0
theorem bank_Bank_Slope.ok1 {K : Nat} {p0 : Int} {p1 : List (Option (List (Int)))} {p2 : Int} {p3 : Int} {q0 : List (Option (List (Int)))} {q1 : Int} {q2 : Int} {q3 : List (Int)} (h0 : bank_Bank_Slope K p0 p1 p2 p3 = some (.inr (q0, q1, q2, q3))) : Fn Try.prog 110 [.p 0 0, .int .i64 p0] [(0, some (.ab (bkA p1 p2 p3)))] (.tup [.sl 1000, .int .i64 0]) [(0, some (.ab (bkA q0 q1 q2))), (1000, some (.rows (.int .i16) q3))] := bank_Bank_Slope.ok h0
theorem bank_Bank_Slope.fnb : fnb Try.prog 110 = true := fnb_of Try.func110 rfl
def fix_Sat16.res (_p0 : Int) : Int → MV
  | q0 => .int .i16 q0
def fix_Sat16.out (_p0 : Int) : Int → List (Nat × Option MObj)
  | _ => []
theorem fix_Sat16.ok {K : Nat} {p0 : Int} {r : Int} (h0 : fix_Sat16 K p0 = some r) : Fn Try.prog 167 [.int .i64 p0] [] (fix_Sat16.res p0 r) (fix_Sat16.out p0 r) := by
  refine Fn_of Try.func167 rfl (Nat.le_of_ble_eq_true rfl) fun Γ => ?_
  refine TC_seq ?_
  refine TC_reg ?_
  refine TL_ev env 1 rfl ⟨tv, tv⟩ ?_
  refine TL_end ?_
  refine TE_go ?_
  refine TC_seq ?_
  refine TC_reg ?_
  refine TL_ev env 1 rfl ⟨tv, tv⟩ ?_
  obtain ⟨r2, hr, h0⟩ := bnd h0
  refine TL_callB [] (fix_within_int64.ok0 hr) fix_within_int64.fnb rfl ⟨tv, ⟨tv, ⟨tv, ⟨tv, tv⟩⟩⟩⟩ rfl tv rfl ?_
  refine TL_ev env 2 rfl ⟨tv, ⟨tv, tv⟩⟩ ?_
  refine TL_end ?_
  refine TE_go ?_
  refine TC_ret ?_
  obtain rfl := sinj h0
  exact TE_ret env rfl tv tv
theorem fix_Sat16.ok0 {K : Nat} {p0 : Int} {q0 : Int} (h0 : fix_Sat16 K p0 = some q0) : Fn Try.prog 167 [.int .i64 p0] [] (.int .i16 q0) [] := fix_Sat16.ok h0
theorem fix_Sat16.fnb : fnb Try.prog 167 = true := fnb_of Try.func167 rfl
def bank_filtered.res (_p0 : Int) (_p1 : Int) : Int → MV
  | q0 => .int .i16 q0
def bank_filtered.out (_p0 : Int) (_p1 : Int) : Int → List (Nat × Option MObj)
  | _ => []
theorem bank_filtered.ok {K : Nat} {p0 : Int} {p1 : Int} {r : Int} (h0 : bank_filtered K p0 p1 = some r) : Fn Try.prog 144 [.int .i64 p0, .int .i64 p1] [] (bank_filtered.res p0 p1 r) (bank_filtered.out p0 p1 r) := by
  refine Fn_of Try.func144 rfl (Nat.le_of_ble_eq_true rfl) fun Γ => ?_
  refine TC_seq ?_
  refine TC_reg ?_
  refine TL_ev env 1 rfl ⟨tv, tv⟩ ?_
  refine TL_end ?_
  refine TE_go ?_
  refine TC_seq ?_
  refine TC_reg ?_
  refine TL_ev env 1 rfl ⟨tv, tv⟩ ?_
  refine TL_end ?_
  refine TE_go ?_
  refine TC_seq ?_
  refine TC_seq ?_
  refine TC_reg ?_
  refine TL_ev env 5 rfl ⟨tv, ⟨tv, ⟨⟨tv, ⟨tv, tv⟩⟩, ⟨⟨tv, ⟨tv, tv⟩⟩, ⟨tv, tv⟩⟩⟩⟩⟩ ?_
  refine TL_end ?_
  refine TE_go ?_
  refine TC_seq ?_
  refine TC_reg ?_
  refine TL_ev env 2 rfl ⟨tv, ⟨⟨tv, ⟨tv, tv⟩⟩, tv⟩⟩ ?_
  refine TL_end ?_
  refine TE_go ?_
  obtain ⟨z1, h1, h0⟩ := bnd h0
  refine TC_cut (α := Int) (fun s => z1 = s) (fun s => [(0, .int .i64 p0), (1, .int .i64 p1), (5, .int .i64 s)]) (fun s => []) ?_ ?_
  · refine TC_cond rfl (fun hb => ?_) (fun hb => ?_)
    · replace h1 := bif_t h1 hb
      refine TC_seq ?_
      refine TC_reg ?_
      refine TL_ev env 4 rfl ⟨tv, ⟨⟨tv, ⟨tv, tv⟩⟩, ⟨tv, ⟨⟨tv, ⟨tv, tv⟩⟩, tv⟩⟩⟩⟩ ?_
      obtain ⟨⟨r34, r35⟩, hr, h1⟩ := bnd h1
      refine TL_callB [] (wave_Sine.ok0 hr) wave_Sine.fnb rfl ⟨tv, ⟨tv, ⟨tv, tv⟩⟩⟩ rfl tv rfl ?_
      refine TL_ev env 5 rfl ⟨tv, ⟨tv, ⟨tv, ⟨tv, ⟨tv, tv⟩⟩⟩⟩⟩ ?_
      refine TL_end ?_
      refine TE_go ?_
      refine TC_reg ?_
      obtain ⟨g, h1⟩ := gd_t h1
      refine TL_ev env 9 rfl ⟨tv, ⟨tv, ⟨tv, ⟨⟨tv, ⟨tv, tv⟩⟩, ⟨⟨tv, ⟨tv, tv⟩⟩, ⟨tv, ⟨⟨tv, ⟨tv, tv⟩⟩, ⟨⟨tv, ⟨tv, g⟩⟩, ⟨tv, tv⟩⟩⟩⟩⟩⟩⟩⟩⟩ ?_
      refine TL_end ?_
      obtain rfl := sinj h1
      refine tsn ?_
      exact SP_ren [] _ rfl ⟨rfl, rfl, rfl, tv⟩ tv rfl
    · replace h1 := bif_f h1 hb
      refine TC_skip ?_
      obtain rfl := sinj h1
      refine tsn ?_
      exact SP_ren [] _ rfl ⟨rfl, rfl, rfl, tv⟩ tv rfl
  · rintro x15 hz
    obtain rfl := hz.symm
    refine TE_go ?_
    refine TC_seq ?_
    refine TC_reg ?_
    refine TL_ev env 3 rfl ⟨tv, ⟨tv, ⟨⟨tv, ⟨tv, tv⟩⟩, tv⟩⟩⟩ ?_
    obtain ⟨⟨r17, r18⟩, hr, h0⟩ := bnd h0
    refine TL_callB [] (wave_Cosine.ok0 hr) wave_Cosine.fnb rfl ⟨tv, ⟨tv, ⟨tv, tv⟩⟩⟩ rfl tv rfl ?_
    refine TL_ev env 5 rfl ⟨tv, ⟨tv, ⟨tv, ⟨tv, ⟨tv, tv⟩⟩⟩⟩⟩ ?_
    refine TL_end ?_
    refine TE_go ?_
    refine TC_seq ?_
    refine TC_reg ?_
    refine TL_ev env 4 rfl ⟨tv, ⟨⟨tv, ⟨tv, tv⟩⟩, ⟨tv, ⟨⟨tv, ⟨tv, tv⟩⟩, tv⟩⟩⟩⟩ ?_
    obtain ⟨⟨r20, r21⟩, hr, h0⟩ := bnd h0
    refine TL_callB [] (wave_Cosine.ok0 hr) wave_Cosine.fnb rfl ⟨tv, ⟨tv, ⟨tv, tv⟩⟩⟩ rfl tv rfl ?_
    refine TL_ev env 5 rfl ⟨tv, ⟨tv, ⟨tv, ⟨tv, ⟨tv, tv⟩⟩⟩⟩⟩ ?_
    refine TL_end ?_
    refine TE_go ?_
    refine TC_seq ?_
    refine TC_reg ?_
    refine TL_ev env 10 rfl ⟨tv, ⟨tv, ⟨⟨tv, ⟨tv, tv⟩⟩, ⟨⟨tv, ⟨tv, tv⟩⟩, ⟨tv, ⟨tv, ⟨⟨tv, ⟨tv, tv⟩⟩, ⟨⟨tv, ⟨tv, tv⟩⟩, ⟨⟨tv, ⟨tv, (by decide)⟩⟩, ⟨tv, tv⟩⟩⟩⟩⟩⟩⟩⟩⟩⟩ ?_
    refine TL_end ?_
    refine TE_go ?_
    refine TC_seq ?_
    refine TC_reg ?_
    refine TL_ev env 3 rfl ⟨tv, ⟨tv, ⟨⟨tv, ⟨tv, tv⟩⟩, tv⟩⟩⟩ ?_
    obtain ⟨r28, hr, h0⟩ := bnd h0
    refine TL_callB [] (fix_Round.ok0 hr) fix_Round.fnb rfl ⟨tv, ⟨tv, ⟨tv, tv⟩⟩⟩ rfl tv rfl ?_
    refine TL_ev env 1 rfl ⟨⟨tv, ⟨tv, tv⟩⟩, tv⟩ ?_
    obtain ⟨r30, hr, h0⟩ := bnd h0
    refine TL_callB [] (fix_Round.ok0 hr) fix_Round.fnb rfl ⟨tv, ⟨tv, ⟨tv, tv⟩⟩⟩ rfl tv rfl ?_
    obtain ⟨r31, hr, h0⟩ := bnd h0
    refine TL_callB [] (fix_Sat16.ok0 hr) fix_Sat16.fnb rfl ⟨tv, ⟨tv, tv⟩⟩ rfl tv rfl ?_
    refine TL_ev env 1 rfl ⟨tv, tv⟩ ?_
    refine TL_end ?_
    refine TE_go ?_
    refine TC_ret ?_
    obtain rfl := sinj h0
    exact TE_ret env rfl tv tv
theorem bank_filtered.ok0 {K : Nat} {p0 : Int} {p1 : Int} {q0 : Int} (h0 : bank_filtered K p0 p1 = some q0) : Fn Try.prog 144 [.int .i64 p0, .int .i64 p1] [] (.int .i16 q0) [] := bank_filtered.ok h0
theorem bank_filtered.fnb : fnb Try.prog 144 = true := fnb_of Try.func144 rfl
def bank_Bank_Filter_1.res (_p0 : Int) (_p1 : Int) : Int → MV
  | q0 => .int .i16 q0
def bank_Bank_Filter_1.out (_p0 : Int) (p1 : Int) : Int → List (Nat × Option MObj)
  | _ => [(0, some (.cells [.int .i64 p1]))]
theorem bank_Bank_Filter_1.ok {K : Nat} {p0 : Int} {p1 : Int} {r : Int} (h0 : bank_Bank_Filter_1 K p0 p1 = some r) : Fn Try.prog 143 [.int .i64 p0, .p 0 0] [(0, some (.cells [.int .i64 p1]))] (bank_Bank_Filter_1.res p0 p1 r) (bank_Bank_Filter_1.out p0 p1 r) := by
  refine Fn_of Try.func143 rfl (Nat.le_of_ble_eq_true rfl) fun Γ => ?_
  refine TC_seq ?_
  refine TC_reg ?_
  refine TL_ev env 1 rfl ⟨tv, tv⟩ ?_
  refine TL_end ?_
  refine TE_go ?_
  refine TC_seq ?_
  refine TC_reg ?_
  refine TL_ev env 2 rfl ⟨⟨tv, tv⟩, ⟨tv, tv⟩⟩ ?_
  obtain ⟨r2, hr, h0⟩ := bnd h0
  refine TL_callB [] (bank_filtered.ok0 hr) bank_filtered.fnb rfl ⟨tv, ⟨tv, ⟨tv, tv⟩⟩⟩ rfl tv rfl ?_
  refine TL_ev env 1 rfl ⟨tv, tv⟩ ?_
  refine TL_end ?_
  refine TE_go ?_
  refine TC_ret ?_
  obtain rfl := sinj h0
  exact TE_ret env rfl tv ⟨.inr rfl, tv⟩
theorem bank_Bank_Filter_1.ok0 {K : Nat} {p0 : Int} {p1 : Int} {q0 : Int} (h0 : bank_Bank_Filter_1 K p0 p1 = some q0) : Fn Try.prog 143 [.int .i64 p0, .p 0 0] [(0, some (.cells [.int .i64 p1]))] (.int .i16 q0) [(0, some (.cells [.int .i64 p1]))] := bank_Bank_Filter_1.ok h0
theorem bank_Bank_Filter_1.fnb : fnb Try.prog 143 = true := fnb_of Try.func143 rfl
def bank_Bank_tell_1_3.res (_p0 : List (Option (List (Int)))) (_p1 : List (Option (List (Int)))) (_p2 : Int) (_p3 : Int) (_p4 : Int) (_p5 : Int) : (List (Int)) × Int → MV
  | (_, _) => .tup []
def bank_Bank_tell_1_3.out (p0 : List (Option (List (Int)))) (p1 : List (Option (List (Int)))) (_p2 : Int) (p3 : Int) (p4 : Int) (p5 : Int) : (List (Int)) × Int → List (Nat × Option MObj)
  | (q0, q1) => [(0, some (.foc (tcs p0) [.int .u32 0, .int .i32 1, .int .u32 0, .im (.slice (.int .i16)) q0] (pst p1 q1 p3))), (1, some (.cells [.int .i64 p4])), (2, some (.cells [.pf 0 (tcs p0).length 0])), (3, some (.cells [.fn 143 [.p 5 0]])), (4, some (.cells [.p 0 0])), (5, some (.cells [.int .i64 p5]))]
theorem bank_Bank_tell_1_3.ok {K : Nat} {p0 : List (Option (List (Int)))} {p1 : List (Option (List (Int)))} {p2 : Int} {p3 : Int} {p4 : Int} {p5 : Int} {r : (List (Int)) × Int} (h0 : bank_Bank_tell_1_3 K p0 p1 p2 p3 p4 p5 = some r) : Fn Try.prog 162 [.p 1 0, .p 2 0, .p 3 0, .p 4 0] [(0, some (.foc (tcs p0) [.int .u32 0, .int .i32 1, .int .u32 0, .nils] (pst p1 p2 p3))), (1, some (.cells [.int .i64 p4])), (2, some (.cells [.pf 0 (tcs p0).length 0])), (3, some (.cells [.fn 143 [.p 5 0]])), (4, some (.cells [.p 0 0])), (5, some (.cells [.int .i64 p5]))] (bank_Bank_tell_1_3.res p0 p1 p2 p3 p4 p5 r) (bank_Bank_tell_1_3.out p0 p1 p2 p3 p4 p5 r) := by
  refine Fn_of Try.func162 rfl (Nat.le_of_ble_eq_true rfl) fun Γ => ?_
  refine TC_seq ?_
  refine TC_renw (A' := [(0, .p 1 0), (1, .p 2 0), (2, .p 3 0), (3, .p 4 0)]) (L' := [(0, some (.foc (tcs _) [.int .u32 0, .int .i32 1, .int .u32 0, .nils] (pst _ _ _))), (1, some (.cells [.int .i64 _])), (2, some (.cells [.pf 0 (tcs _).length 0])), (3, some (.cells [.fn 143 [.p 5 0]])), (4, some (.cells [.p 0 0])), (5, some (.cells [.int .i64 _]))]) [] ⟨rfl, rfl, rfl, rfl, tv⟩ ⟨rfl, rfl, rfl, rfl, rfl, rfl, tv⟩ rfl ?_
  refine TC_drawR ⟨_, fun i => ([[], [], [1], [2, 1, 0], [3, 2, 1, 0], [4, 3, 2, 1, 0]] : List (List Nat)).getD i [], fun i => ([[], [], [1007], [], [], [0]] : List (List Nat)).getD i [], fun i => ([[], [], [1007], [], [], []] : List (List Nat)).getD i []⟩ (fun i => ([[1007], [], [], [], [], []] : List (List Nat)).getD i []) (by kernel_rfl) (by kernel_rfl) ?_
  refine AJR_ev env 1 rfl (Nat.le_of_ble_eq_true rfl) rfl ⟨tv, tv⟩ ?_
  refine AJR_ev env 2 rfl (Nat.le_of_ble_eq_true rfl) rfl ⟨tv, tv⟩ ?_
  obtain ⟨g, h0⟩ := gd_t h0
  refine AJR_ev env 3 rfl (Nat.le_of_ble_eq_true rfl) rfl ⟨tv, ⟨tv, ⟨g.1, ⟨g.2.1, g.2.2⟩⟩⟩⟩ ?_
  refine AJR_ev env 4 rfl (Nat.le_of_ble_eq_true rfl) rfl tv ?_
  refine AJR_ev env 5 rfl (Nat.le_of_ble_eq_true rfl) rfl tv ?_
  refine AJR_ev env 6 rfl (Nat.le_of_ble_eq_true rfl) rfl ⟨tv, ⟨tv, rfl⟩⟩ ?_
  refine AJR_end rfl rfl rfl ?_
  refine TE_go ?_
  refine TC_seq ?_
  refine TC_seq ?_
  refine TC_reg ?_
  refine TL_ev env 6 rfl ⟨⟨tv, tv⟩, ⟨tv, ⟨tv, ⟨⟨tv, rfl⟩, ⟨⟨tv, tv⟩, ⟨tv, tv⟩⟩⟩⟩⟩⟩ ?_
  refine TL_end ?_
  refine TE_go ?_
  obtain ⟨z1, h1, h0⟩ := bnd h0
  refine TC_cut (α := (List (Int))) (fun s => z1 = s) (fun s => [(3, .p 4 0)]) (fun s => [(0, some (.foc (tcs p0) [.int .u32 0, .int .i32 1, .int .u32 0, .sl 10806] (pst p1 p2 p3))), (1, some (.cells [.int .i64 p4])), (2, some (.cells [.pf 0 (tcs p0).length 0])), (3, some (.cells [.fn 143 [.p 5 0]])), (4, some (.cells [.p 0 0])), (5, some (.cells [.int .i64 p5])), (10806, some (.rows (.int .i16) s))]) ?_ ?_
  · refine TC_blk ?_
    refine TC_loop (α := Int × (List (Int))) (fun n s => bank_Bank_tell_1_3.l0 K ((List.replicate (Int.toNat p4) (0 : Int)).length : Int) p0 p1 p2 p3 p4 p5 n s.1 s.2 = some z1) (fun s => [(1, .p 2 0), (2, .p 3 0), (3, .p 4 0), (14, .int .i64 ((List.replicate (Int.toNat p4) (0 : Int)).length : Int)), (15, .int .i64 s.1)]) (fun s => [(0, some (.foc (tcs p0) [.int .u32 0, .int .i32 1, .int .u32 0, .sl 11006] (pst p1 p2 p3))), (1, some (.cells [.int .i64 p4])), (2, some (.cells [.pf 0 (tcs p0).length 0])), (3, some (.cells [.fn 143 [.p 5 0]])), (4, some (.cells [.p 0 0])), (5, some (.cells [.int .i64 p5])), (11006, some (.rows (.int .i16) s.2))]) K ?_ ?_
    · exact SP_ren [(11006, 1007)] (_, _) h1 ⟨rfl, rfl, rfl, rfl, rfl, tv⟩ ⟨rfl, rfl, rfl, rfl, rfl, rfl, rfl, tv⟩ rfl
    rintro n ⟨x25, x26⟩ h1
    rcases n with _ | n
    · exact (nsome h1).elim
    replace h1 : bank_Bank_tell_1_3.r0 K ((List.replicate (Int.toNat p4) (0 : Int)).length : Int) p0 p1 p2 p3 p4 p5 (bank_Bank_tell_1_3.l0 K ((List.replicate (Int.toNat p4) (0 : Int)).length : Int) p0 p1 p2 p3 p4 p5 n) x25 x26 = some z1 := h1
    refine TC_seq ?_
    refine TC_reg ?_
    refine TL_ev env 1 rfl ⟨⟨tv, ⟨tv, tv⟩⟩, tv⟩ ?_
    refine TL_end ?_
    refine TE_go ?_
    refine TC_seq ?_
    refine TC_cond rfl (fun hb => ?_) (fun hb => ?_)
    · replace h1 := bif_t h1 hb
      refine TC_skip ?_
      refine TE_go ?_
      refine TC_seq ?_
      refine TC_blk ?_
      refine TC_seq ?_
      refine TC_reg ?_
      refine TL_ev env 2 rfl ⟨tv, ⟨tv, tv⟩⟩ ?_
      refine TL_end ?_
      refine TE_go ?_
      refine TC_renw (A' := [(1, .p 2 0), (2, .p 3 0), (3, .p 4 0), (4, .int .i64 _), (14, .int .i64 _), (15, .int .i64 _)]) (L' := [(0, some (.foc (tcs _) [.int .u32 0, .int .i32 1, .int .u32 0, .sl 11006] (pst _ _ _))), (1, some (.cells [.int .i64 _])), (2, some (.cells [.pf 0 (tcs _).length 0])), (3, some (.cells [.fn 143 [.p 5 0]])), (4, some (.cells [.p 0 0])), (5, some (.cells [.int .i64 _])), (11006, some (.rows (.int .i16) _))]) [] ⟨rfl, rfl, rfl, rfl, rfl, rfl, tv⟩ ⟨rfl, rfl, rfl, rfl, rfl, rfl, rfl, tv⟩ rfl ?_
      refine TC_drawR ⟨_, fun i => ([[], [0], [1, 0], [2, 1, 0], [], [], [], [6, 5], [7, 6, 5, 4, 3, 2, 1, 0], [8, 7, 6, 5, 4, 3, 2, 1, 0]] : List (List Nat)).getD i [], fun i => ([[], [], [], [], [], [], [], [5], [], [11006]] : List (List Nat)).getD i [], fun i => ([[], [], [], [], [], [], [], [], [], []] : List (List Nat)).getD i []⟩ (fun i => ([[5], [5], [5], [5], [5], [], [], [], [], []] : List (List Nat)).getD i []) (by kernel_rfl) (by kernel_rfl) ?_
      refine AJR_ev env 1 rfl (Nat.le_of_ble_eq_true rfl) rfl ⟨tv, tv⟩ ?_
      refine AJR_ev env 2 rfl (Nat.le_of_ble_eq_true rfl) rfl tv ?_
      refine AJR_ev env 3 rfl (Nat.le_of_ble_eq_true rfl) rfl tv ?_
      refine AJR_ev env 4 rfl (Nat.le_of_ble_eq_true rfl) rfl ⟨tv, rfl⟩ ?_
      refine AJR_ev env 5 rfl (Nat.le_of_ble_eq_true rfl) rfl tv ?_
      refine AJR_ev env 6 rfl (Nat.le_of_ble_eq_true rfl) rfl ⟨tv, tv⟩ ?_
      refine AJR_ev env 7 rfl (Nat.le_of_ble_eq_true rfl) rfl tv ?_
      obtain ⟨r33, hr, h1⟩ := bnd h1
      refine AJR_call 8 rfl (Nat.le_of_ble_eq_true rfl) [(0, 5)] rfl (bank_Bank_Filter_1.ok0 hr) bank_Bank_Filter_1.fnb rfl ⟨tv, ⟨tv, tv⟩⟩ rfl ⟨.inr rfl, tv⟩ rfl ?_
      obtain ⟨g, h1⟩ := gd_t h1
      refine AJR_ev env 9 rfl (Nat.le_of_ble_eq_true rfl) rfl ⟨tv, ⟨tv, ⟨g.1, g.2⟩⟩⟩ ?_
      obtain ⟨g, h1⟩ := gd_t h1
      refine AJR_ev env 10 rfl (Nat.le_of_ble_eq_true rfl) rfl ⟨tv, ⟨tv, g⟩⟩ ?_
      refine AJR_end rfl rfl rfl ?_
      refine tbn ?_
      refine TE_go ?_
      refine TC_reg ?_
      refine TL_ev env 2 rfl ⟨⟨tv, ⟨tv, tv⟩⟩, ⟨tv, tv⟩⟩ ?_
      refine TL_end ?_
      refine tsn ?_
      exact TE_nextr [(11006, 11006)] n (Nat.lt_succ_self n) (_, _) h1 ⟨rfl, rfl, rfl, rfl, rfl, tv⟩ ⟨rfl, rfl, rfl, rfl, rfl, rfl, rfl, tv⟩ rfl
    · replace h1 := bif_f h1 hb
      refine TC_exit ?_
      refine tsx ?_
      refine tsx ?_
      refine tbe ?_
      obtain rfl := sinj h1
      refine tsn ?_
      exact SP_ren [(10806, 11006)] _ rfl ⟨rfl, tv⟩ ⟨rfl, rfl, rfl, rfl, rfl, rfl, rfl, tv⟩ rfl
  · rintro x21 hz
    obtain rfl := hz.symm
    refine TE_go ?_
    refine TC_reg ?_
    refine TL_ev env 3 rfl ⟨⟨tv, tv⟩, ⟨tv, ⟨tv, tv⟩⟩⟩ ?_
    refine TL_frz 10806 rfl ?_
    obtain ⟨r22, hr, h0⟩ := bnd h0
    refine TL_callB [(0, 0)] (sync_atomic_Int64_Add.ok0 hr) sync_atomic_Int64_Add.fnb rfl ⟨tv, ⟨tv, ⟨tv, tv⟩⟩⟩ rfl ⟨.inr rfl, tv⟩ rfl ?_
    refine TL_end ?_
    obtain rfl := sinj h0
    exact TE_end env rfl tv ⟨.inr rfl, .inr rfl, .inr rfl, .inr rfl, .inr rfl, .inr rfl, tv⟩
theorem bank_Bank_tell_1_3.ok0 {K : Nat} {p0 : List (Option (List (Int)))} {p1 : List (Option (List (Int)))} {p2 : Int} {p3 : Int} {p4 : Int} {p5 : Int} {q0 : List (Int)} {q1 : Int} (h0 : bank_Bank_tell_1_3 K p0 p1 p2 p3 p4 p5 = some (q0, q1)) : Fn Try.prog 162 [.p 1 0, .p 2 0, .p 3 0, .p 4 0] [(0, some (.foc (tcs p0) [.int .u32 0, .int .i32 1, .int .u32 0, .nils] (pst p1 p2 p3))), (1, some (.cells [.int .i64 p4])), (2, some (.cells [.pf 0 (tcs p0).length 0])), (3, some (.cells [.fn 143 [.p 5 0]])), (4, some (.cells [.p 0 0])), (5, some (.cells [.int .i64 p5]))] (.tup []) [(0, some (.foc (tcs p0) [.int .u32 0, .int .i32 1, .int .u32 0, .im (.slice (.int .i16)) q0] (pst p1 q1 p3))), (1, some (.cells [.int .i64 p4])), (2, some (.cells [.pf 0 (tcs p0).length 0])), (3, some (.cells [.fn 143 [.p 5 0]])), (4, some (.cells [.p 0 0])), (5, some (.cells [.int .i64 p5]))] := bank_Bank_tell_1_3.ok h0
theorem bank_Bank_tell_1_3.fnb : fnb Try.prog 162 = true := fnb_of Try.func162 rfl
theorem sync_Once_doSlow_3.ok0 {K : Nat} {p0 : List (Option (List (Int)))} {p1 : List (Option (List (Int)))} {p2 : Int} {p3 : Int} {p4 : Int} {p5 : Int} {q0 : List (Int)} {q1 : Int} (h0 : sync_Once_doSlow_3 K p0 p1 p2 p3 p4 p5 = some (q0, q1)) : Fn Try.prog 175 [.pf 0 (tcs p0).length 0, .fn 162 [.p 1 0, .p 2 0, .p 3 0, .p 4 0]] [(0, some (.foc (tcs p0) [.int .u32 0, .int .i32 0, .int .u32 0, .nils] (pst p1 p2 p3))), (1, some (.cells [.int .i64 p4])), (2, some (.cells [.pf 0 (tcs p0).length 0])), (3, some (.cells [.fn 143 [.p 5 0]])), (4, some (.cells [.p 0 0])), (5, some (.cells [.int .i64 p5]))] (.tup []) [(0, some (.foc (tcs p0) [.int .u32 1, .int .i32 0, .int .u32 0, .im (.slice (.int .i16)) q0] (pst p1 q1 p3))), (1, some (.cells [.int .i64 p4])), (2, some (.cells [.pf 0 (tcs p0).length 0])), (3, some (.cells [.fn 143 [.p 5 0]])), (4, some (.cells [.p 0 0])), (5, some (.cells [.int .i64 p5]))] := by
  exact slow_fn rfl (bank_Bank_tell_1_3.ok0 h0)
theorem sync_Once_doSlow_3.fnb : fnb Try.prog 175 = true := fnb_of Try.func175 rfl
def sync_Once_Do_5.res (_p0 : List (Option (List (Int)))) (_p1 : List (Option (List (Int)))) (_p2 : Int) (_p3 : Int) (_p4 : Int) (_p5 : Int) : (List (Int)) × Int → MV
  | (_, _) => .tup []
def sync_Once_Do_5.out (p0 : List (Option (List (Int)))) (p1 : List (Option (List (Int)))) (_p2 : Int) (p3 : Int) (p4 : Int) (p5 : Int) : (List (Int)) × Int → List (Nat × Option MObj)
  | (q0, q1) => [(0, some (.foc (tcs p0) [.int .u32 1, .int .i32 0, .int .u32 0, .im (.slice (.int .i16)) q0] (pst p1 q1 p3))), (1, some (.cells [.int .i64 p4])), (2, some (.cells [.pf 0 (tcs p0).length 0])), (3, some (.cells [.fn 143 [.p 5 0]])), (4, some (.cells [.p 0 0])), (5, some (.cells [.int .i64 p5]))]
theorem sync_Once_Do_5.ok {K : Nat} {p0 : List (Option (List (Int)))} {p1 : List (Option (List (Int)))} {p2 : Int} {p3 : Int} {p4 : Int} {p5 : Int} {r : (List (Int)) × Int} (h0 : sync_Once_Do_5 K p0 p1 p2 p3 p4 p5 = some r) : Fn Try.prog 161 [.pf 0 (tcs p0).length 0, .fn 162 [.p 1 0, .p 2 0, .p 3 0, .p 4 0]] [(0, some (.foc (tcs p0) [.int .u32 0, .int .i32 0, .int .u32 0, .nils] (pst p1 p2 p3))), (1, some (.cells [.int .i64 p4])), (2, some (.cells [.pf 0 (tcs p0).length 0])), (3, some (.cells [.fn 143 [.p 5 0]])), (4, some (.cells [.p 0 0])), (5, some (.cells [.int .i64 p5]))] (sync_Once_Do_5.res p0 p1 p2 p3 p4 p5 r) (sync_Once_Do_5.out p0 p1 p2 p3 p4 p5 r) := by
  refine Fn_of Try.func161 rfl (Nat.le_of_ble_eq_true rfl) fun Γ => ?_
  refine TC_seq ?_
  refine TC_reg ?_
  refine TL_ev env 3 rfl ⟨tv, ⟨tv, ⟨tv, tv⟩⟩⟩ ?_
  obtain ⟨⟨⟩, hr, h0⟩ := bnd h0
  refine TL_callB [(0, 0)] (sync_atomic_Bool_Load.ok0 hr) sync_atomic_Bool_Load.fnb rfl ⟨tv, ⟨tv, tv⟩⟩ rfl ⟨.inr rfl, tv⟩ rfl ?_
  refine TL_ev env 1 rfl ⟨tv, tv⟩ ?_
  refine TL_end ?_
  refine TE_go ?_
  refine TC_cond rfl (fun hb => ?_) (fun hb => ?_)
  · refine TC_reg ?_
    refine TL_ev env 2 rfl ⟨tv, ⟨tv, tv⟩⟩ ?_
    obtain ⟨⟨r3, r4⟩, hr, h0⟩ := bnd h0
    refine TL_callB [(0, 0), (1, 1), (2, 2), (3, 3), (4, 4), (5, 5)] (sync_Once_doSlow_3.ok0 hr) sync_Once_doSlow_3.fnb rfl ⟨tv, ⟨tv, ⟨tv, tv⟩⟩⟩ rfl ⟨.inr rfl, .inr rfl, .inr rfl, .inr rfl, .inr rfl, .inr rfl, tv⟩ rfl ?_
    refine TL_end ?_
    obtain rfl := sinj h0
    exact TE_end env rfl tv ⟨.inr rfl, .inr rfl, .inr rfl, .inr rfl, .inr rfl, .inr rfl, tv⟩
  · first | exact (ftf hb).elim | exact (tff hb).elim | exact absurd hb (by decide)
theorem sync_Once_Do_5.ok0 {K : Nat} {p0 : List (Option (List (Int)))} {p1 : List (Option (List (Int)))} {p2 : Int} {p3 : Int} {p4 : Int} {p5 : Int} {q0 : List (Int)} {q1 : Int} (h0 : sync_Once_Do_5 K p0 p1 p2 p3 p4 p5 = some (q0, q1)) : Fn Try.prog 161 [.pf 0 (tcs p0).length 0, .fn 162 [.p 1 0, .p 2 0, .p 3 0, .p 4 0]] [(0, some (.foc (tcs p0) [.int .u32 0, .int .i32 0, .int .u32 0, .nils] (pst p1 p2 p3))), (1, some (.cells [.int .i64 p4])), (2, some (.cells [.pf 0 (tcs p0).length 0])), (3, some (.cells [.fn 143 [.p 5 0]])), (4, some (.cells [.p 0 0])), (5, some (.cells [.int .i64 p5]))] (.tup []) [(0, some (.foc (tcs p0) [.int .u32 1, .int .i32 0, .int .u32 0, .im (.slice (.int .i16)) q0] (pst p1 q1 p3))), (1, some (.cells [.int .i64 p4])), (2, some (.cells [.pf 0 (tcs p0).length 0])), (3, some (.cells [.fn 143 [.p 5 0]])), (4, some (.cells [.p 0 0])), (5, some (.cells [.int .i64 p5]))] := sync_Once_Do_5.ok h0
theorem sync_Once_Do_5.fnb : fnb Try.prog 161 = true := fnb_of Try.func161 rfl
def bank_Bank_tell_7.res (_t0 : List (Option (List (Int)))) (_t1 : List (Option (List (Int)))) (_p1 : Int) (_p3 : Int) (_p4 : Int) (_p5 : Int) : (List (Int)) × Int × Int × (List (Int)) → MV
  | (_, _, _, _) => .tup [.sl 1000, .int .i64 0]
def bank_Bank_tell_7.out (t0 : List (Option (List (Int)))) (t1 : List (Option (List (Int)))) (_p1 : Int) (_p3 : Int) (_p4 : Int) (p5 : Int) : (List (Int)) × Int × Int × (List (Int)) → List (Nat × Option MObj)
  | (q0, q1, q2, q3) => [(0, some (.foc (tcs t0) [.int .u32 1, .int .i32 0, .int .u32 0, .im (.slice (.int .i16)) q0] (pst t1 q1 q2))), (1, some (.cells [.int .i64 p5])), (1000, some (.rows (.int .i16) q3))]
theorem bank_Bank_tell_7.ok {K : Nat} {t0 : List (Option (List (Int)))} {t1 : List (Option (List (Int)))} {p1 : Int} {p3 : Int} {p4 : Int} {p5 : Int} {r : (List (Int)) × Int × Int × (List (Int))} (h0 : bank_Bank_tell_7 K t0 t1 p1 p3 p4 p5 = some r) : Fn Try.prog 138 [.p 0 0, .pf 0 (tcs t0).length 0, .int .i64 p1, .fn 143 [.p 1 0]] [(0, some (.foc (tcs t0) [.int .u32 0, .int .i32 0, .int .u32 0, .nils] (pst t1 p3 p4))), (1, some (.cells [.int .i64 p5]))] (bank_Bank_tell_7.res t0 t1 p1 p3 p4 p5 r) (bank_Bank_tell_7.out t0 t1 p1 p3 p4 p5 r) := by
  refine Fn_of Try.func138 rfl (Nat.le_of_ble_eq_true rfl) fun Γ => ?_
  refine TC_seq ?_
  refine TC_reg ?_
  refine TL_ev env 6 rfl ⟨tv, ⟨tv, ⟨tv, ⟨tv, ⟨tv, ⟨tv, tv⟩⟩⟩⟩⟩⟩ ?_
  refine TL_end ?_
  refine TE_go ?_
  refine TC_seq ?_
  refine TC_reg ?_
  refine TL_ev env 4 rfl ⟨⟨tv, tv⟩, ⟨tv, ⟨tv, ⟨⟨tv, ⟨tv, ⟨tv, ⟨tv, tv⟩⟩⟩⟩, tv⟩⟩⟩⟩ ?_
  obtain ⟨⟨r5, r6⟩, hr, h0⟩ := bnd h0
  refine TL_callB [(0, 0), (1, 1006), (2, 1005), (3, 1007), (4, 1004), (5, 1)] (sync_Once_Do_5.ok0 hr) sync_Once_Do_5.fnb rfl ⟨tv, ⟨tv, ⟨tv, tv⟩⟩⟩ rfl ⟨.inr rfl, .inr rfl, .inr rfl, .inr rfl, .inr rfl, .inr rfl, tv⟩ rfl ?_
  refine TL_end ?_
  refine TE_go ?_
  refine TC_seq ?_
  refine TC_reg ?_
  refine TL_ev env 3 rfl ⟨⟨tv, tv⟩, ⟨tv, ⟨tv, tv⟩⟩⟩ ?_
  obtain ⟨r7, hr, h0⟩ := bnd h0
  refine TL_callB [(0, 0)] (sync_atomic_Int64_Add_2.ok0 hr) sync_atomic_Int64_Add_2.fnb rfl ⟨tv, ⟨tv, ⟨tv, tv⟩⟩⟩ rfl ⟨.inr rfl, tv⟩ rfl ?_
  refine TL_end ?_
  refine TE_go ?_
  refine TC_seq ?_
  refine TC_reg ?_
  refine TL_ev env 4 rfl ⟨⟨tv, tv⟩, ⟨tv, ⟨tv, ⟨⟨tv, rfl⟩, tv⟩⟩⟩⟩ ?_
  obtain ⟨r8, hr, h0⟩ := bnd h0
  refine TL_callB [(1000, 500230)] (slices_Clone_int16_int16.ok0 hr) slices_Clone_int16_int16.fnb rfl ⟨tv, ⟨tv, tv⟩⟩ rfl tv rfl ?_
  refine TL_ev env 2 rfl ⟨tv, ⟨tv, tv⟩⟩ ?_
  refine TL_end ?_
  refine TE_go ?_
  refine TC_ret ?_
  obtain rfl := sinj h0
  refine TE_renw (A' := [(8, .sl 1000), (9, .int .i64 0)]) (L' := [(0, some (.foc (tcs _) [.int .u32 1, .int .i32 0, .int .u32 0, .im (.slice (.int .i16)) _] (pst _ _ _))), (1, some (.cells [.int .i64 _])), (1000, some (.rows (.int .i16) _))]) [(1000, 500230)] ⟨rfl, rfl, tv⟩ ⟨rfl, rfl, rfl, tv⟩ rfl ?_
  exact TE_ret env rfl tv ⟨.inr rfl, .inr rfl, .inr rfl, tv⟩
theorem bank_Bank_tell_7.ok0 {K : Nat} {t0 : List (Option (List (Int)))} {t1 : List (Option (List (Int)))} {p1 : Int} {p3 : Int} {p4 : Int} {p5 : Int} {q0 : List (Int)} {q1 : Int} {q2 : Int} {q3 : List (Int)} (h0 : bank_Bank_tell_7 K t0 t1 p1 p3 p4 p5 = some (q0, q1, q2, q3)) : Fn Try.prog 138 [.p 0 0, .pf 0 (tcs t0).length 0, .int .i64 p1, .fn 143 [.p 1 0]] [(0, some (.foc (tcs t0) [.int .u32 0, .int .i32 0, .int .u32 0, .nils] (pst t1 p3 p4))), (1, some (.cells [.int .i64 p5]))] (.tup [.sl 1000, .int .i64 0]) [(0, some (.foc (tcs t0) [.int .u32 1, .int .i32 0, .int .u32 0, .im (.slice (.int .i16)) q0] (pst t1 q1 q2))), (1, some (.cells [.int .i64 p5])), (1000, some (.rows (.int .i16) q3))] := bank_Bank_tell_7.ok h0
theorem bank_Bank_tell_7.fnb : fnb Try.prog 138 = true := fnb_of Try.func138 rfl
def sync_Once_Do_6.res (_p0 : List (Option (List (Int)))) (_p1 : List (Int)) (_p2 : List (Option (List (Int)))) (_p3 : Int) (_p4 : Int) (_p5 : Int) (_p6 : Int) : Unit → MV
  | () => .tup []
def sync_Once_Do_6.out (p0 : List (Option (List (Int)))) (p1 : List (Int)) (p2 : List (Option (List (Int)))) (p3 : Int) (p4 : Int) (p5 : Int) (p6 : Int) : Unit → List (Nat × Option MObj)
  | () => [(0, some (.foc (tcs p0) [.int .u32 1, .int .i32 0, .int .u32 0, .im (.slice (.int .i16)) p1] (pst p2 p3 p4))), (1, some (.cells [.int .i64 p5])), (2, some (.cells [.pf 0 (tcs p0).length 0])), (3, some (.cells [.fn 143 [.p 5 0]])), (4, some (.cells [.p 0 0])), (5, some (.cells [.int .i64 p6]))]
theorem sync_Once_Do_6.ok {K : Nat} {p0 : List (Option (List (Int)))} {p1 : List (Int)} {p2 : List (Option (List (Int)))} {p3 : Int} {p4 : Int} {p5 : Int} {p6 : Int} {r : Unit} (h0 : sync_Once_Do_6 K p0 p1 p2 p3 p4 p5 p6 = some r) : Fn Try.prog 161 [.pf 0 (tcs p0).length 0, .fn 162 [.p 1 0, .p 2 0, .p 3 0, .p 4 0]] [(0, some (.foc (tcs p0) [.int .u32 1, .int .i32 0, .int .u32 0, .im (.slice (.int .i16)) p1] (pst p2 p3 p4))), (1, some (.cells [.int .i64 p5])), (2, some (.cells [.pf 0 (tcs p0).length 0])), (3, some (.cells [.fn 143 [.p 5 0]])), (4, some (.cells [.p 0 0])), (5, some (.cells [.int .i64 p6]))] (sync_Once_Do_6.res p0 p1 p2 p3 p4 p5 p6 r) (sync_Once_Do_6.out p0 p1 p2 p3 p4 p5 p6 r) := by
  refine Fn_of Try.func161 rfl (Nat.le_of_ble_eq_true rfl) fun Γ => ?_
  unfold sync_Once_Do_6 at h0
  refine TC_seq ?_
  refine TC_reg ?_
  refine TL_ev env 3 rfl ⟨tv, ⟨tv, ⟨tv, tv⟩⟩⟩ ?_
  obtain ⟨⟨⟩, hr, h0⟩ := bnd h0
  refine TL_callB [(0, 0)] (sync_atomic_Bool_Load_2.ok0 hr) sync_atomic_Bool_Load_2.fnb rfl ⟨tv, ⟨tv, tv⟩⟩ rfl ⟨.inr rfl, tv⟩ rfl ?_
  refine TL_ev env 1 rfl ⟨tv, tv⟩ ?_
  refine TL_end ?_
  refine TE_go ?_
  refine TC_cond rfl (fun hb => ?_) (fun hb => ?_)
  · first | exact (ftf hb).elim | exact (tff hb).elim | exact absurd hb (by decide)
  · refine TC_skip ?_
    obtain rfl := sinj h0
    exact TE_end env rfl tv ⟨.inr rfl, .inr rfl, .inr rfl, .inr rfl, .inr rfl, .inr rfl, tv⟩
theorem sync_Once_Do_6.ok0 {K : Nat} {p0 : List (Option (List (Int)))} {p1 : List (Int)} {p2 : List (Option (List (Int)))} {p3 : Int} {p4 : Int} {p5 : Int} {p6 : Int}  (h0 : sync_Once_Do_6 K p0 p1 p2 p3 p4 p5 p6 = some ()) : Fn Try.prog 161 [.pf 0 (tcs p0).length 0, .fn 162 [.p 1 0, .p 2 0, .p 3 0, .p 4 0]] [(0, some (.foc (tcs p0) [.int .u32 1, .int .i32 0, .int .u32 0, .im (.slice (.int .i16)) p1] (pst p2 p3 p4))), (1, some (.cells [.int .i64 p5])), (2, some (.cells [.pf 0 (tcs p0).length 0])), (3, some (.cells [.fn 143 [.p 5 0]])), (4, some (.cells [.p 0 0])), (5, some (.cells [.int .i64 p6]))] (.tup []) [(0, some (.foc (tcs p0) [.int .u32 1, .int .i32 0, .int .u32 0, .im (.slice (.int .i16)) p1] (pst p2 p3 p4))), (1, some (.cells [.int .i64 p5])), (2, some (.cells [.pf 0 (tcs p0).length 0])), (3, some (.cells [.fn 143 [.p 5 0]])), (4, some (.cells [.p 0 0])), (5, some (.cells [.int .i64 p6]))] := sync_Once_Do_6.ok h0
theorem sync_Once_Do_6.fnb : fnb Try.prog 161 = true := fnb_of Try.func161 rfl
def bank_Bank_tell_8.res (_t0 : List (Option (List (Int)))) (_t1 : List (Option (List (Int)))) (_l : List (Int)) (_p1 : Int) (_p3 : Int) (_p4 : Int) (_p5 : Int) : Int × (List (Int)) → MV
  | (_, _) => .tup [.sl 1000, .int .i64 0]
def bank_Bank_tell_8.out (t0 : List (Option (List (Int)))) (t1 : List (Option (List (Int)))) (l : List (Int)) (_p1 : Int) (p3 : Int) (_p4 : Int) (p5 : Int) : Int × (List (Int)) → List (Nat × Option MObj)
  | (q0, q1) => [(0, some (.foc (tcs t0) [.int .u32 1, .int .i32 0, .int .u32 0, .im (.slice (.int .i16)) l] (pst t1 p3 q0))), (1, some (.cells [.int .i64 p5])), (1000, some (.rows (.int .i16) q1))]
theorem bank_Bank_tell_8.ok {K : Nat} {t0 : List (Option (List (Int)))} {t1 : List (Option (List (Int)))} {l : List (Int)} {p1 : Int} {p3 : Int} {p4 : Int} {p5 : Int} {r : Int × (List (Int))} (h0 : bank_Bank_tell_8 K t0 t1 l p1 p3 p4 p5 = some r) : Fn Try.prog 138 [.p 0 0, .pf 0 (tcs t0).length 0, .int .i64 p1, .fn 143 [.p 1 0]] [(0, some (.foc (tcs t0) [.int .u32 1, .int .i32 0, .int .u32 0, .im (.slice (.int .i16)) l] (pst t1 p3 p4))), (1, some (.cells [.int .i64 p5]))] (bank_Bank_tell_8.res t0 t1 l p1 p3 p4 p5 r) (bank_Bank_tell_8.out t0 t1 l p1 p3 p4 p5 r) := by
  refine Fn_of Try.func138 rfl (Nat.le_of_ble_eq_true rfl) fun Γ => ?_
  refine TC_seq ?_
  refine TC_reg ?_
  refine TL_ev env 6 rfl ⟨tv, ⟨tv, ⟨tv, ⟨tv, ⟨tv, ⟨tv, tv⟩⟩⟩⟩⟩⟩ ?_
  refine TL_end ?_
  refine TE_go ?_
  refine TC_seq ?_
  refine TC_reg ?_
  refine TL_ev env 4 rfl ⟨⟨tv, tv⟩, ⟨tv, ⟨tv, ⟨⟨tv, ⟨tv, ⟨tv, ⟨tv, tv⟩⟩⟩⟩, tv⟩⟩⟩⟩ ?_
  obtain ⟨⟨⟩, hr, h0⟩ := bnd h0
  refine TL_callB [(0, 0), (1, 1006), (2, 1005), (3, 1007), (4, 1004), (5, 1)] (sync_Once_Do_6.ok0 hr) sync_Once_Do_6.fnb rfl ⟨tv, ⟨tv, ⟨tv, tv⟩⟩⟩ rfl ⟨.inr rfl, .inr rfl, .inr rfl, .inr rfl, .inr rfl, .inr rfl, tv⟩ rfl ?_
  refine TL_end ?_
  refine TE_go ?_
  refine TC_seq ?_
  refine TC_reg ?_
  refine TL_ev env 3 rfl ⟨⟨tv, tv⟩, ⟨tv, ⟨tv, tv⟩⟩⟩ ?_
  obtain ⟨r3, hr, h0⟩ := bnd h0
  refine TL_callB [(0, 0)] (sync_atomic_Int64_Add_2.ok0 hr) sync_atomic_Int64_Add_2.fnb rfl ⟨tv, ⟨tv, ⟨tv, tv⟩⟩⟩ rfl ⟨.inr rfl, tv⟩ rfl ?_
  refine TL_end ?_
  refine TE_go ?_
  refine TC_seq ?_
  refine TC_reg ?_
  refine TL_ev env 4 rfl ⟨⟨tv, tv⟩, ⟨tv, ⟨tv, ⟨⟨tv, rfl⟩, tv⟩⟩⟩⟩ ?_
  obtain ⟨r4, hr, h0⟩ := bnd h0
  refine TL_callB [(1000, 500230)] (slices_Clone_int16_int16.ok0 hr) slices_Clone_int16_int16.fnb rfl ⟨tv, ⟨tv, tv⟩⟩ rfl tv rfl ?_
  refine TL_ev env 2 rfl ⟨tv, ⟨tv, tv⟩⟩ ?_
  refine TL_end ?_
  refine TE_go ?_
  refine TC_ret ?_
  obtain rfl := sinj h0
  refine TE_renw (A' := [(8, .sl 1000), (9, .int .i64 0)]) (L' := [(0, some (.foc (tcs _) [.int .u32 1, .int .i32 0, .int .u32 0, .im (.slice (.int .i16)) _] (pst _ _ _))), (1, some (.cells [.int .i64 _])), (1000, some (.rows (.int .i16) _))]) [(1000, 500230)] ⟨rfl, rfl, tv⟩ ⟨rfl, rfl, rfl, tv⟩ rfl ?_
  exact TE_ret env rfl tv ⟨.inr rfl, .inr rfl, .inr rfl, tv⟩
theorem bank_Bank_tell_8.ok0 {K : Nat} {t0 : List (Option (List (Int)))} {t1 : List (Option (List (Int)))} {l : List (Int)} {p1 : Int} {p3 : Int} {p4 : Int} {p5 : Int} {q0 : Int} {q1 : List (Int)} (h0 : bank_Bank_tell_8 K t0 t1 l p1 p3 p4 p5 = some (q0, q1)) : Fn Try.prog 138 [.p 0 0, .pf 0 (tcs t0).length 0, .int .i64 p1, .fn 143 [.p 1 0]] [(0, some (.foc (tcs t0) [.int .u32 1, .int .i32 0, .int .u32 0, .im (.slice (.int .i16)) l] (pst t1 p3 p4))), (1, some (.cells [.int .i64 p5]))] (.tup [.sl 1000, .int .i64 0]) [(0, some (.foc (tcs t0) [.int .u32 1, .int .i32 0, .int .u32 0, .im (.slice (.int .i16)) l] (pst t1 p3 q0))), (1, some (.cells [.int .i64 p5])), (1000, some (.rows (.int .i16) q1))] := bank_Bank_tell_8.ok h0
theorem bank_Bank_tell_8.fnb : fnb Try.prog 138 = true := fnb_of Try.func138 rfl
theorem bank_Bank_tell_9.ok0 {K : Nat} {p0 : Nat} {p1 : Int} {p2 : List (Option (List (Int)))} {p3 : Int} {p4 : Int} {p5 : Int} {q0 : List (Int)} {q1 : List (Option (List (Int)))} {q2 : Int} {q3 : Int} (h0 : bank_Bank_tell_9 K p0 p1 p2 p3 p4 p5 = some (q0, q1, q2, q3)) : Fn Try.prog 138 [.p 0 0, .p 0 p0, .int .i64 p1, .fn 143 [.p 1 0]] [(0, some (.ab (bkA p2 p3 p4))), (1, some (.cells [.int .i64 p5]))] (.tup [.sl 1000, .int .i64 0]) [(0, some (.ab (bkA q1 q2 q3))), (1, some (.cells [.int .i64 p5])), (1000, some (.rows (.int .i16) q0))] := by
  unfold bank_Bank_tell_9 at h0
  obtain ⟨⟨g1, g2, g3⟩, h0⟩ := gd_t h0
  split at h0
  · rename_i hx
    obtain ⟨⟨q0', q1', q2', q3'⟩, hr, h0⟩ := bnd h0
    simp only [Option.some.injEq, Prod.mk.injEq] at h0
    obtain ⟨rfl, rfl, rfl, rfl⟩ := h0
    have hF := tell_fn (x := none) (x' := some q0') (bank_Bank_tell_7.ok0 hr)
    rw [tk hx, tcs_at g1 g2 g3] at hF
    exact hF
  · rename_i l hx
    obtain ⟨⟨q0', q1'⟩, hr, h0⟩ := bnd h0
    simp only [Option.some.injEq, Prod.mk.injEq] at h0
    obtain ⟨rfl, rfl, rfl, rfl⟩ := h0
    have hF := tell_fn (x := some l) (x' := some l) (bank_Bank_tell_8.ok0 hr)
    rw [tk hx, tcs_at g1 g2 g3] at hF
    exact hF
  · cases h0
theorem bank_Bank_tell_9.fnb : fnb Try.prog 138 = true := fnb_of Try.func138 rfl
def bank_Bank_Filter.res (_p0 : Int) (_p1 : List (Option (List (Int)))) (_p2 : Int) (_p3 : Int) : (Int) ⊕ ((List (Option (List (Int)))) × Int × Int × (List (Int))) → MV
  | .inl q0 => .tup [.nils, .int .i64 q0]
  | .inr (_, _, _, _) => .tup [.sl 1000, .int .i64 0]
def bank_Bank_Filter.out (_p0 : Int) (p1 : List (Option (List (Int)))) (p2 : Int) (p3 : Int) : (Int) ⊕ ((List (Option (List (Int)))) × Int × Int × (List (Int))) → List (Nat × Option MObj)
  | .inl _ => [(0, some (.ab (bkA p1 p2 p3)))]
  | .inr (q0, q1, q2, q3) => [(0, some (.ab (bkA q0 q1 q2))), (1000, some (.rows (.int .i16) q3))]
theorem bank_Bank_Filter.ok {K : Nat} {p0 : Int} {p1 : List (Option (List (Int)))} {p2 : Int} {p3 : Int} {r : (Int) ⊕ ((List (Option (List (Int)))) × Int × Int × (List (Int)))} (h0 : bank_Bank_Filter K p0 p1 p2 p3 = some r) : Fn Try.prog 111 [.p 0 0, .int .i64 p0] [(0, some (.ab (bkA p1 p2 p3)))] (bank_Bank_Filter.res p0 p1 p2 p3 r) (bank_Bank_Filter.out p0 p1 p2 p3 r) := by
  refine Fn_of Try.func111 rfl (Nat.le_of_ble_eq_true rfl) fun Γ => ?_
  refine TC_seq ?_
  refine TC_reg ?_
  refine TL_ev env 3 rfl ⟨tv, ⟨tv, ⟨tv, tv⟩⟩⟩ ?_
  refine TL_end ?_
  refine TE_go ?_
  refine TC_seq ?_
  refine TC_seq ?_
  refine TC_reg ?_
  refine TL_ev env 7 rfl ⟨tv, ⟨⟨tv, tv⟩, ⟨⟨tv, ⟨tv, tv⟩⟩, ⟨tv, ⟨fun eg => ⟨tv, tv⟩, ⟨fun eg => ⟨fun e => e, ⟨tv, tv⟩⟩, ⟨⟨tv, ⟨tv, fun e => e⟩⟩, tv⟩⟩⟩⟩⟩⟩⟩ ?_
  obtain ⟨r7, hr, h0⟩ := bnd h0
  refine TL_callB [(0, 0)] (bank_Bank_may.ok0 hr) bank_Bank_may.fnb rfl ⟨tv, ⟨tv, ⟨tv, tv⟩⟩⟩ rfl ⟨.inr rfl, tv⟩ rfl ?_
  refine TL_ev env 1 rfl ⟨tv, tv⟩ ?_
  refine TL_end ?_
  refine TE_go ?_
  refine TC_seq ?_
  refine TC_reg ?_
  refine TL_ev env 2 rfl ⟨tv, ⟨⟨tv, ⟨tv, tv⟩⟩, tv⟩⟩ ?_
  refine TL_end ?_
  refine TE_go ?_
  refine TC_cond rfl (fun hb => ?_) (fun hb => ?_)
  · replace h0 := bif_t h0 hb
    refine TC_seq ?_
    refine TC_reg ?_
    refine TL_ev env 3 rfl ⟨tv, ⟨tv, ⟨tv, tv⟩⟩⟩ ?_
    refine TL_end ?_
    refine TE_go ?_
    refine TC_ret ?_
    refine tsr ?_
    obtain rfl := sinj h0
    exact TE_ret env rfl tv ⟨.inr rfl, tv⟩
  · replace h0 := bif_f h0 hb
    refine TC_skip ?_
    refine TE_go ?_
    refine TC_seq ?_
    refine TC_renw (A' := [(0, .p 0 0), (3, .p 1003 0), (4, .nils), (5, .int .i64 0)]) (L' := [(0, some (.ab (bkA _ _ _))), (1003, some (.cells [.int .i64 _]))]) [] ⟨rfl, rfl, rfl, rfl, tv⟩ ⟨rfl, rfl, tv⟩ rfl ?_
    refine TC_drawR ⟨_, fun i => ([[], [], [], [2], [1], [4, 1], [5, 4, 3, 2, 1], [], [7], [], [9, 8, 7, 6, 5, 4, 3, 2, 1, 0], [10, 9, 8, 7, 6, 5, 4, 3, 2, 1, 0], [10, 9, 8, 7, 6, 5, 4, 3, 2, 1, 0], [12, 11, 10, 9, 8, 7, 6, 5, 4, 3, 2, 1, 0], [13, 12, 11, 10, 9, 8, 7, 6, 5, 4, 3, 2, 1, 0]] : List (List Nat)).getD i [], fun i => ([[], [], [], [], [], [], [], [], [], [], [0, 1003, 500280], [], [], [], []] : List (List Nat)).getD i [], fun i => ([[], [], [], [], [], [], [], [], [], [], [500280], [], [], [], []] : List (List Nat)).getD i []⟩ (fun i => ([[], [], [], [], [], [], [], [], [], [], [], [], [], [], []] : List (List Nat)).getD i []) (by kernel_rfl) (by kernel_rfl) ?_
    refine AJR_ev env 1 rfl (Nat.le_of_ble_eq_true rfl) rfl tv ?_
    refine AJR_ev env 2 rfl (Nat.le_of_ble_eq_true rfl) rfl tv ?_
    refine AJR_ev env 3 rfl (Nat.le_of_ble_eq_true rfl) rfl ⟨tv, tv⟩ ?_
    refine AJR_ev env 4 rfl (Nat.le_of_ble_eq_true rfl) rfl ⟨tv, ⟨tv, (by decide)⟩⟩ ?_
    refine AJR_ev env 5 rfl (Nat.le_of_ble_eq_true rfl) rfl tv ?_
    refine AJR_ev env 6 rfl (Nat.le_of_ble_eq_true rfl) rfl tv ?_
    obtain ⟨g, h0⟩ := gd_t h0
    refine AJR_ev env 7 rfl (Nat.le_of_ble_eq_true rfl) rfl ⟨tv, ⟨tv, ⟨g.1, g.2⟩⟩⟩ ?_
    refine AJR_ev env 8 rfl (Nat.le_of_ble_eq_true rfl) rfl ⟨tv, tv⟩ ?_
    refine AJR_ev env 9 rfl (Nat.le_of_ble_eq_true rfl) rfl ⟨tv, ⟨tv, tv⟩⟩ ?_
    refine AJR_ev env 10 rfl (Nat.le_of_ble_eq_true rfl) rfl ⟨tv, tv⟩ ?_
    obtain ⟨⟨r11, r12, r13, r14⟩, hr, h0⟩ := bnd h0
    refine AJR_call 11 rfl (Nat.le_of_ble_eq_true rfl) [(0, 0), (1, 1003), (1000, 500280)] rfl (bank_Bank_tell_9.ok0 hr) bank_Bank_tell_9.fnb rfl ⟨tv, ⟨tv, ⟨tv, ⟨tv, ⟨tv, tv⟩⟩⟩⟩⟩ rfl ⟨.inr rfl, .inr rfl, tv⟩ rfl ?_
    refine AJR_ev env 12 rfl (Nat.le_of_ble_eq_true rfl) rfl tv ?_
    refine AJR_ev env 13 rfl (Nat.le_of_ble_eq_true rfl) rfl tv ?_
    refine AJR_ev env 14 rfl (Nat.le_of_ble_eq_true rfl) rfl tv ?_
    refine AJR_ev env 15 rfl (Nat.le_of_ble_eq_true rfl) rfl tv ?_
    refine AJR_end rfl rfl rfl ?_
    refine TE_go ?_
    refine TC_ret ?_
    obtain rfl := sinj h0
    refine TE_renw (A' := [(4, .sl 1000), (5, .int .i64 0)]) (L' := [(0, some (.ab (bkA _ _ _))), (1000, some (.rows (.int .i16) _))]) [(1000, 500280)] ⟨rfl, rfl, tv⟩ ⟨rfl, rfl, tv⟩ rfl ?_
    exact TE_ret env rfl tv ⟨.inr rfl, .inr rfl, tv⟩
theorem bank_Bank_Filter.ok0 {K : Nat} {p0 : Int} {p1 : List (Option (List (Int)))} {p2 : Int} {p3 : Int} {q0 : Int} (h0 : bank_Bank_Filter K p0 p1 p2 p3 = some (.inl q0)) : Fn Try.prog 111 [.p 0 0, .int .i64 p0] [(0, some (.ab (bkA p1 p2 p3)))] (.tup [.nils, .int .i64 q0]) [(0, some (.ab (bkA p1 p2 p3)))] := bank_Bank_Filter.ok h0
theorem bank_Bank_Filter.ok1 {K : Nat} {p0 : Int} {p1 : List (Option (List (Int)))} {p2 : Int} {p3 : Int} {q0 : List (Option (List (Int)))} {q1 : Int} {q2 : Int} {q3 : List (Int)} (h0 : bank_Bank_Filter K p0 p1 p2 p3 = some (.inr (q0, q1, q2, q3))) : Fn Try.prog 111 [.p 0 0, .int .i64 p0] [(0, some (.ab (bkA p1 p2 p3)))] (.tup [.sl 1000, .int .i64 0]) [(0, some (.ab (bkA q0 q1 q2))), (1000, some (.rows (.int .i16) q3))] := bank_Bank_Filter.ok h0
theorem bank_Bank_Filter.fnb : fnb Try.prog 111 = true := fnb_of Try.func111 rfl
def psalteryref04_Same.res (_p0 : List (Int)) : Bool → MV
  | q0 => .bool q0
def psalteryref04_Same.out (_p0 : List (Int)) : Bool → List (Nat × Option MObj)
  | _ => []
theorem psalteryref04_Same.ok {K : Nat} {p0 : List (Int)} {r : Bool} (h0 : psalteryref04_Same K p0 = some r) : Fn Try.prog 61 [.nils, .im (.slice (.int .i16)) p0] [] (psalteryref04_Same.res p0 r) (psalteryref04_Same.out p0 r) := by
  refine Fn_of Try.func61 rfl (Nat.le_of_ble_eq_true rfl) fun Γ => ?_
  refine TC_seq ?_
  refine TC_reg ?_
  refine TL_ev env 1 rfl ⟨tv, tv⟩ ?_
  refine TL_end ?_
  refine TE_go ?_
  refine TC_seq ?_
  refine TC_seq ?_
  refine TC_reg ?_
  refine TL_ev env 5 rfl ⟨tv, ⟨⟨tv, tv⟩, ⟨tv, ⟨⟨tv, tv⟩, ⟨⟨tv, ⟨tv, tv⟩⟩, tv⟩⟩⟩⟩⟩ ?_
  refine TL_end ?_
  refine TE_go ?_
  refine TC_cond rfl (fun hb => ?_) (fun hb => ?_)
  · replace h0 := bif_t h0 hb
    refine TC_seq ?_
    refine TC_reg ?_
    refine TL_ev env 1 rfl ⟨tv, tv⟩ ?_
    refine TL_end ?_
    refine TE_go ?_
    refine TC_ret ?_
    refine tsr ?_
    obtain rfl := sinj h0
    exact TE_ret env rfl tv tv
  · replace h0 := bif_f h0 hb
    refine TC_skip ?_
    refine TE_go ?_
    refine TC_seq ?_
    refine TC_seq ?_
    refine TC_reg ?_
    refine TL_ev env 1 rfl ⟨tv, tv⟩ ?_
    refine TL_end ?_
    refine TE_go ?_
    obtain ⟨z1, h1, h0⟩ := bnd h0
    refine TC_cut (α := Unit) (fun _ => z1 = ()) (fun _ => []) (fun _ => []) ?_ ?_
    · refine TC_blk ?_
      refine TC_loop (α := Unit) (fun n _ => psalteryref04_Same.l0 K p0 n = some z1) (fun _ => [(0, .nils), (1, .im (.slice (.int .i16)) p0), (5, .int .i64 0)]) (fun _ => []) K ?_ ?_
      · exact SP_ren [] () h1 ⟨rfl, rfl, rfl, tv⟩ tv rfl
      rintro n ⟨⟩ h1
      rcases n with _ | n
      · exact (nsome h1).elim
      replace h1 : psalteryref04_Same.r0 K p0 (psalteryref04_Same.l0 K p0 n)  = some z1 := h1
      refine TC_seq ?_
      refine TC_seq ?_
      refine TC_reg ?_
      refine TL_ev env 4 rfl ⟨tv, ⟨tv, ⟨⟨tv, tv⟩, ⟨⟨tv, ⟨tv, tv⟩⟩, tv⟩⟩⟩⟩ ?_
      refine TL_end ?_
      refine TE_go ?_
      refine TC_cond rfl (fun hb => ?_) (fun hb => ?_)
      · first | exact (ftf hb).elim | exact (tff hb).elim | exact absurd hb (by decide)
      · refine TC_exit ?_
        refine tsx ?_
        refine tsx ?_
        refine tbe ?_
        obtain rfl := sinj h1
        refine tsn ?_
        exact SP_ren [] () rfl tv tv rfl
    · rintro ⟨⟩ rfl
      refine TE_go ?_
      refine TC_seq ?_
      refine TC_reg ?_
      refine TL_ev env 1 rfl ⟨tv, tv⟩ ?_
      refine TL_end ?_
      refine TE_go ?_
      refine TC_ret ?_
      obtain rfl := sinj h0
      exact TE_ret env rfl tv tv
theorem psalteryref04_Same.ok0 {K : Nat} {p0 : List (Int)} {q0 : Bool} (h0 : psalteryref04_Same K p0 = some q0) : Fn Try.prog 61 [.nils, .im (.slice (.int .i16)) p0] [] (.bool q0) [] := psalteryref04_Same.ok h0
theorem psalteryref04_Same.fnb : fnb Try.prog 61 = true := fnb_of Try.func61 rfl
theorem sync_atomic_Int64_Load.ok0 {K : Nat} {p0 : List (Option (List (Int)))} {p1 : Int} {p2 : Int} (h0 : sync_atomic_Int64_Load K p0 p1 p2 = some ()) : Fn Try.prog 115 [.p 0 1552] [(0, some (.ab (bkA p0 p1 p2)))] (.int .i64 p1) [(0, some (.ab (bkA p0 p1 p2)))] := by
  obtain ⟨g, h0⟩ := gd_t h0
  have hx := pst_made p0 p1 p2
  rw [g] at hx
  exact int64Load_fn hx
theorem sync_atomic_Int64_Load.fnb : fnb Try.prog 115 = true := fnb_of Try.func115 rfl
def bank_Bank_Made.res (_p0 : List (Option (List (Int)))) (p1 : Int) (_p2 : Int) : Unit → MV
  | () => .int .i64 p1
def bank_Bank_Made.out (p0 : List (Option (List (Int)))) (p1 : Int) (p2 : Int) : Unit → List (Nat × Option MObj)
  | () => [(0, some (.ab (bkA p0 p1 p2)))]
theorem bank_Bank_Made.ok {K : Nat} {p0 : List (Option (List (Int)))} {p1 : Int} {p2 : Int} {r : Unit} (h0 : bank_Bank_Made K p0 p1 p2 = some r) : Fn Try.prog 62 [.p 0 0] [(0, some (.ab (bkA p0 p1 p2)))] (bank_Bank_Made.res p0 p1 p2 r) (bank_Bank_Made.out p0 p1 p2 r) := by
  refine Fn_of Try.func62 rfl (Nat.le_of_ble_eq_true rfl) fun Γ => ?_
  unfold bank_Bank_Made at h0
  refine TC_seq ?_
  refine TC_reg ?_
  refine TL_ev env 1 rfl ⟨tv, tv⟩ ?_
  refine TL_end ?_
  refine TE_go ?_
  refine TC_seq ?_
  refine TC_seq ?_
  refine TC_reg ?_
  refine TL_ev env 2 rfl ⟨tv, ⟨⟨tv, ⟨tv, tv⟩⟩, tv⟩⟩ ?_
  refine TL_end ?_
  refine TE_go ?_
  refine TC_cond rfl (fun hb => ?_) (fun hb => ?_)
  · first | exact (ftf hb).elim | exact (tff hb).elim | exact absurd hb (by decide)
  · refine TC_skip ?_
    refine TE_go ?_
    refine TC_seq ?_
    refine TC_reg ?_
    refine TL_ev env 3 rfl ⟨tv, ⟨tv, ⟨tv, tv⟩⟩⟩ ?_
    obtain ⟨⟨⟩, hr, h0⟩ := bnd h0
    refine TL_callB [(0, 0)] (sync_atomic_Int64_Load.ok0 hr) sync_atomic_Int64_Load.fnb rfl ⟨tv, ⟨tv, tv⟩⟩ rfl ⟨.inr rfl, tv⟩ rfl ?_
    refine TL_ev env 1 rfl ⟨tv, tv⟩ ?_
    refine TL_end ?_
    refine TE_go ?_
    refine TC_ret ?_
    obtain rfl := sinj h0
    exact TE_ret env rfl tv ⟨.inr rfl, tv⟩
theorem bank_Bank_Made.ok0 {K : Nat} {p0 : List (Option (List (Int)))} {p1 : Int} {p2 : Int}  (h0 : bank_Bank_Made K p0 p1 p2 = some ()) : Fn Try.prog 62 [.p 0 0] [(0, some (.ab (bkA p0 p1 p2)))] (.int .i64 p1) [(0, some (.ab (bkA p0 p1 p2)))] := bank_Bank_Made.ok h0
theorem bank_Bank_Made.fnb : fnb Try.prog 62 = true := fnb_of Try.func62 rfl
theorem sync_atomic_Int64_Load_2.ok0 {K : Nat} {p0 : List (Option (List (Int)))} {p1 : Int} {p2 : Int} (h0 : sync_atomic_Int64_Load_2 K p0 p1 p2 = some ()) : Fn Try.prog 115 [.p 0 1553] [(0, some (.ab (bkA p0 p1 p2)))] (.int .i64 p2) [(0, some (.ab (bkA p0 p1 p2)))] := by
  obtain ⟨g, h0⟩ := gd_t h0
  have hx := pst_told p0 p1 p2
  rw [g] at hx
  exact int64Load_fn hx
theorem sync_atomic_Int64_Load_2.fnb : fnb Try.prog 115 = true := fnb_of Try.func115 rfl
def bank_Bank_Told.res (_p0 : List (Option (List (Int)))) (_p1 : Int) (p2 : Int) : Unit → MV
  | () => .int .i64 p2
def bank_Bank_Told.out (p0 : List (Option (List (Int)))) (p1 : Int) (p2 : Int) : Unit → List (Nat × Option MObj)
  | () => [(0, some (.ab (bkA p0 p1 p2)))]
theorem bank_Bank_Told.ok {K : Nat} {p0 : List (Option (List (Int)))} {p1 : Int} {p2 : Int} {r : Unit} (h0 : bank_Bank_Told K p0 p1 p2 = some r) : Fn Try.prog 63 [.p 0 0] [(0, some (.ab (bkA p0 p1 p2)))] (bank_Bank_Told.res p0 p1 p2 r) (bank_Bank_Told.out p0 p1 p2 r) := by
  refine Fn_of Try.func63 rfl (Nat.le_of_ble_eq_true rfl) fun Γ => ?_
  unfold bank_Bank_Told at h0
  refine TC_seq ?_
  refine TC_reg ?_
  refine TL_ev env 1 rfl ⟨tv, tv⟩ ?_
  refine TL_end ?_
  refine TE_go ?_
  refine TC_seq ?_
  refine TC_seq ?_
  refine TC_reg ?_
  refine TL_ev env 2 rfl ⟨tv, ⟨⟨tv, ⟨tv, tv⟩⟩, tv⟩⟩ ?_
  refine TL_end ?_
  refine TE_go ?_
  refine TC_cond rfl (fun hb => ?_) (fun hb => ?_)
  · first | exact (ftf hb).elim | exact (tff hb).elim | exact absurd hb (by decide)
  · refine TC_skip ?_
    refine TE_go ?_
    refine TC_seq ?_
    refine TC_reg ?_
    refine TL_ev env 3 rfl ⟨tv, ⟨tv, ⟨tv, tv⟩⟩⟩ ?_
    obtain ⟨⟨⟩, hr, h0⟩ := bnd h0
    refine TL_callB [(0, 0)] (sync_atomic_Int64_Load_2.ok0 hr) sync_atomic_Int64_Load_2.fnb rfl ⟨tv, ⟨tv, tv⟩⟩ rfl ⟨.inr rfl, tv⟩ rfl ?_
    refine TL_ev env 1 rfl ⟨tv, tv⟩ ?_
    refine TL_end ?_
    refine TE_go ?_
    refine TC_ret ?_
    obtain rfl := sinj h0
    exact TE_ret env rfl tv ⟨.inr rfl, tv⟩
theorem bank_Bank_Told.ok0 {K : Nat} {p0 : List (Option (List (Int)))} {p1 : Int} {p2 : Int}  (h0 : bank_Bank_Told K p0 p1 p2 = some ()) : Fn Try.prog 63 [.p 0 0] [(0, some (.ab (bkA p0 p1 p2)))] (.int .i64 p2) [(0, some (.ab (bkA p0 p1 p2)))] := bank_Bank_Told.ok h0
theorem bank_Bank_Told.fnb : fnb Try.prog 63 = true := fnb_of Try.func63 rfl
def psalteryref04_Same_2.res (_p0 : List (Int)) (_p1 : List (Int)) : Bool → MV
  | q0 => .bool q0
def psalteryref04_Same_2.out (_p0 : List (Int)) (_p1 : List (Int)) : Bool → List (Nat × Option MObj)
  | _ => []
theorem psalteryref04_Same_2.ok {K : Nat} {p0 : List (Int)} {p1 : List (Int)} {r : Bool} (h0 : psalteryref04_Same_2 K p0 p1 = some r) : Fn Try.prog 61 [.im (.slice (.int .i16)) p0, .im (.slice (.int .i16)) p1] [] (psalteryref04_Same_2.res p0 p1 r) (psalteryref04_Same_2.out p0 p1 r) := by
  refine Fn_of Try.func61 rfl (Nat.le_of_ble_eq_true rfl) fun Γ => ?_
  refine TC_seq ?_
  refine TC_reg ?_
  refine TL_ev env 1 rfl ⟨tv, tv⟩ ?_
  refine TL_end ?_
  refine TE_go ?_
  refine TC_seq ?_
  refine TC_seq ?_
  refine TC_reg ?_
  refine TL_ev env 5 rfl ⟨tv, ⟨⟨tv, tv⟩, ⟨tv, ⟨⟨tv, tv⟩, ⟨⟨tv, ⟨tv, tv⟩⟩, tv⟩⟩⟩⟩⟩ ?_
  refine TL_end ?_
  refine TE_go ?_
  refine TC_cond rfl (fun hb => ?_) (fun hb => ?_)
  · replace h0 := bif_t h0 hb
    refine TC_seq ?_
    refine TC_reg ?_
    refine TL_ev env 1 rfl ⟨tv, tv⟩ ?_
    refine TL_end ?_
    refine TE_go ?_
    refine TC_ret ?_
    refine tsr ?_
    obtain rfl := sinj h0
    exact TE_ret env rfl tv tv
  · replace h0 := bif_f h0 hb
    refine TC_skip ?_
    refine TE_go ?_
    refine TC_seq ?_
    refine TC_seq ?_
    refine TC_reg ?_
    refine TL_ev env 1 rfl ⟨tv, tv⟩ ?_
    refine TL_end ?_
    refine TE_go ?_
    obtain ⟨z1, h1, h0⟩ := bnd h0
    refine TC_cut (α := Unit) (fun _ => z1 = .inl ()) (fun _ => []) (fun _ => []) ?_ ?_
    · refine TC_blk ?_
      refine TC_loop (α := Int) (fun n s => psalteryref04_Same_2.l0 K p0 p1 n s = some z1) (fun s => [(0, .im (.slice (.int .i16)) p0), (1, .im (.slice (.int .i16)) p1), (5, .int .i64 s)]) (fun s => []) K ?_ ?_
      · exact SP_ren [] _ h1 ⟨rfl, rfl, rfl, tv⟩ tv rfl
      rintro n x6 h1
      rcases n with _ | n
      · exact (nsome h1).elim
      replace h1 : psalteryref04_Same_2.r0 K p0 p1 (psalteryref04_Same_2.l0 K p0 p1 n) x6 = some z1 := h1
      refine TC_seq ?_
      refine TC_seq ?_
      refine TC_reg ?_
      refine TL_ev env 4 rfl ⟨tv, ⟨tv, ⟨⟨tv, tv⟩, ⟨⟨tv, ⟨tv, tv⟩⟩, tv⟩⟩⟩⟩ ?_
      refine TL_end ?_
      refine TE_go ?_
      refine TC_cond rfl (fun hb => ?_) (fun hb => ?_)
      · replace h1 := bif_t h1 hb
        refine TC_skip ?_
        refine TE_go ?_
        refine TC_seq ?_
        refine TC_blk ?_
        refine TC_seq ?_
        refine TC_renw (A' := [(0, .im (.slice (.int .i16)) _), (1, .im (.slice (.int .i16)) _), (5, .int .i64 _)]) (L' := []) [] ⟨rfl, rfl, rfl, tv⟩ tv rfl ?_
        refine TC_drawR ⟨_, fun i => ([[], [], [1, 0], [2, 1, 0], [], [], [5, 4], [6, 5, 4], [7, 6, 5, 4, 3, 2, 1, 0]] : List (List Nat)).getD i [], fun i => ([[], [], [], [], [], [], [], [], []] : List (List Nat)).getD i [], fun i => ([[], [], [], [], [], [], [], [], []] : List (List Nat)).getD i []⟩ (fun i => ([[], [], [], [], [], [], [], [], []] : List (List Nat)).getD i []) (by kernel_rfl) (by kernel_rfl) ?_
        refine AJR_ev env 1 rfl (Nat.le_of_ble_eq_true rfl) rfl tv ?_
        refine AJR_ev env 2 rfl (Nat.le_of_ble_eq_true rfl) rfl tv ?_
        obtain ⟨g, h1⟩ := gd_t h1
        refine AJR_ev env 3 rfl (Nat.le_of_ble_eq_true rfl) rfl ⟨tv, ⟨tv, ⟨g.1, g.2⟩⟩⟩ ?_
        refine AJR_ev env 4 rfl (Nat.le_of_ble_eq_true rfl) rfl ⟨tv, tv⟩ ?_
        refine AJR_ev env 5 rfl (Nat.le_of_ble_eq_true rfl) rfl tv ?_
        refine AJR_ev env 6 rfl (Nat.le_of_ble_eq_true rfl) rfl tv ?_
        obtain ⟨g, h1⟩ := gd_t h1
        refine AJR_ev env 7 rfl (Nat.le_of_ble_eq_true rfl) rfl ⟨tv, ⟨tv, ⟨g.1, g.2⟩⟩⟩ ?_
        refine AJR_ev env 8 rfl (Nat.le_of_ble_eq_true rfl) rfl ⟨tv, tv⟩ ?_
        refine AJR_ev env 9 rfl (Nat.le_of_ble_eq_true rfl) rfl ⟨tv, ⟨tv, tv⟩⟩ ?_
        refine AJR_end rfl rfl rfl ?_
        refine TE_go ?_
        refine TC_cond rfl (fun hb => ?_) (fun hb => ?_)
        · replace h1 := bif_t h1 hb
          refine TC_seq ?_
          refine TC_reg ?_
          refine TL_ev env 1 rfl ⟨tv, tv⟩ ?_
          refine TL_end ?_
          refine TE_go ?_
          refine TC_ret ?_
          refine tbr ?_
          refine tsr ?_
          refine tsr ?_
          refine tbr ?_
          refine tsr ?_
          refine tsr ?_
          obtain rfl := sinj h1
          obtain rfl := sinj h0
          exact TE_ret env rfl tv tv
        · replace h1 := bif_f h1 hb
          refine TC_skip ?_
          refine tbn ?_
          refine TE_go ?_
          refine TC_reg ?_
          refine TL_ev env 3 rfl ⟨tv, ⟨⟨tv, ⟨tv, tv⟩⟩, ⟨tv, tv⟩⟩⟩ ?_
          refine TL_end ?_
          refine tsn ?_
          exact TE_nextr [] n (Nat.lt_succ_self n) _ h1 ⟨rfl, rfl, rfl, tv⟩ tv rfl
      · replace h1 := bif_f h1 hb
        refine TC_exit ?_
        refine tsx ?_
        refine tsx ?_
        refine tbe ?_
        obtain rfl := sinj h1
        refine tsn ?_
        exact SP_ren [] () rfl tv tv rfl
    · rintro ⟨⟩ rfl
      refine TE_go ?_
      refine TC_seq ?_
      refine TC_reg ?_
      refine TL_ev env 1 rfl ⟨tv, tv⟩ ?_
      refine TL_end ?_
      refine TE_go ?_
      refine TC_ret ?_
      obtain rfl := sinj h0
      exact TE_ret env rfl tv tv
theorem psalteryref04_Same_2.ok0 {K : Nat} {p0 : List (Int)} {p1 : List (Int)} {q0 : Bool} (h0 : psalteryref04_Same_2 K p0 p1 = some q0) : Fn Try.prog 61 [.im (.slice (.int .i16)) p0, .im (.slice (.int .i16)) p1] [] (.bool q0) [] := psalteryref04_Same_2.ok h0
theorem psalteryref04_Same_2.fnb : fnb Try.prog 61 = true := fnb_of Try.func61 rfl
def psalterylaw04_alive.res  : Bool → MV
  | q0 => .bool q0
def psalterylaw04_alive.out  : Bool → List (Nat × Option MObj)
  | _ => []
theorem psalterylaw04_alive.ok {K : Nat}  {r : Bool} (h0 : psalterylaw04_alive K  = some r) : Fn Try.prog 58 [] [] (psalterylaw04_alive.res  r) (psalterylaw04_alive.out  r) := by
  refine Fn_of Try.func58 rfl (Nat.le_of_ble_eq_true rfl) fun Γ => ?_
  refine TC_seq ?_
  refine TC_reg ?_
  refine TL_ev env 1 rfl ⟨tv, tv⟩ ?_
  refine TL_end ?_
  refine TE_go ?_
  refine TC_seq ?_
  refine TC_reg ?_
  obtain ⟨⟨⟩, hr, h0⟩ := bnd h0
  refine TL_callB [(1000, 500060)] (bank_New.ok0 hr) bank_New.fnb rfl ⟨tv, tv⟩ rfl tv rfl ?_
  refine TL_ev env 1 rfl ⟨tv, tv⟩ ?_
  refine TL_end ?_
  refine TE_go ?_
  refine TC_seq ?_
  refine TC_reg ?_
  refine TL_ev env 1 rfl ⟨tv, tv⟩ ?_
  obtain ⟨z, hr, h0⟩ := bnd h0
  rcases z with r107 | ⟨r108, r109, r110, r111⟩
  · refine TL_callB [(0, 500060)] (bank_Bank_Turn.ok0 hr) bank_Bank_Turn.fnb rfl ⟨tv, ⟨tv, ⟨tv, tv⟩⟩⟩ rfl ⟨.inr rfl, tv⟩ rfl ?_
    refine TL_ev env 5 rfl ⟨tv, ⟨tv, ⟨tv, ⟨tv, ⟨tv, tv⟩⟩⟩⟩⟩ ?_
    refine TL_end ?_
    refine TE_go ?_
    refine TC_seq ?_
    refine TC_reg ?_
    refine TL_ev env 1 rfl ⟨tv, tv⟩ ?_
    obtain ⟨z, hr, h0⟩ := bnd h0
    rcases z with r112 | ⟨r113, r114, r115, r116⟩
    · refine TL_callB [(0, 500060)] (bank_Bank_Turn.ok0 hr) bank_Bank_Turn.fnb rfl ⟨tv, ⟨tv, ⟨tv, tv⟩⟩⟩ rfl ⟨.inr rfl, tv⟩ rfl ?_
      refine TL_end ?_
      refine TE_go ?_
      refine TC_seq ?_
      refine TC_reg ?_
      refine TL_ev env 1 rfl ⟨tv, tv⟩ ?_
      obtain ⟨z, hr, h0⟩ := bnd h0
      rcases z with r117 | ⟨r118, r119, r120, r121⟩
      · refine TL_callB [(0, 500060)] (bank_Bank_Slope.ok0 hr) bank_Bank_Slope.fnb rfl ⟨tv, ⟨tv, ⟨tv, tv⟩⟩⟩ rfl ⟨.inr rfl, tv⟩ rfl ?_
        refine TL_end ?_
        refine TE_go ?_
        refine TC_seq ?_
        refine TC_reg ?_
        refine TL_ev env 1 rfl ⟨tv, tv⟩ ?_
        obtain ⟨z, hr, h0⟩ := bnd h0
        rcases z with r122 | ⟨r123, r124, r125, r126⟩
        · refine TL_callB [(0, 500060)] (bank_Bank_Filter.ok0 hr) bank_Bank_Filter.fnb rfl ⟨tv, ⟨tv, ⟨tv, tv⟩⟩⟩ rfl ⟨.inr rfl, tv⟩ rfl ?_
          refine TL_ev env 5 rfl ⟨tv, ⟨tv, ⟨tv, ⟨tv, ⟨tv, tv⟩⟩⟩⟩⟩ ?_
          refine TL_end ?_
          refine TE_go ?_
          refine TC_seq ?_
          obtain ⟨z1, h1, h0⟩ := bnd h0
          refine TC_cut (α := Unit) (fun _ => z1 = ()) (fun _ => [(0, .bool false)]) (fun _ => []) ?_ ?_
          · refine TC_reg ?_
            refine TL_ev env 3 rfl ⟨tv, ⟨⟨tv, ⟨tv, tv⟩⟩, ⟨tv, tv⟩⟩⟩ ?_
            refine TL_split 23 rfl (fun hb => ?_) (fun hb => ?_)
            · replace h1 := bif_t h1 hb
              refine TL_gt rfl rfl rfl rfl ?_
              refine TL_ev env 1 rfl ⟨tv, tv⟩ ?_
              refine TL_gt rfl rfl rfl rfl ?_
              refine TL_ev env 1 rfl ⟨⟨tv, ⟨tv, ⟨tv, ⟨tv, tv⟩⟩⟩⟩, tv⟩ ?_
              refine TL_gt rfl rfl rfl rfl ?_
              refine TL_frz 1025 rfl ?_
              obtain ⟨r129, hr, h1⟩ := bnd h1
              refine TL_callB [] (psalteryref04_Same.ok0 hr) psalteryref04_Same.fnb rfl ⟨tv, ⟨tv, ⟨tv, tv⟩⟩⟩ rfl tv rfl ?_
              refine TL_ev env 2 rfl ⟨⟨tv, ⟨tv, tv⟩⟩, ⟨tv, tv⟩⟩ ?_
              refine TL_split 28 rfl (fun hb => ?_) (fun hb => ?_)
              · replace h1 := bif_t h1 hb
                refine TL_gt rfl rfl rfl rfl ?_
                refine TL_ev env 1 rfl ⟨tv, tv⟩ ?_
                refine TL_gt rfl rfl rfl rfl ?_
                obtain ⟨⟨⟩, hr, h1⟩ := bnd h1
                refine TL_callB [(0, 500060)] (bank_Bank_Made.ok0 hr) bank_Bank_Made.fnb rfl ⟨tv, ⟨tv, tv⟩⟩ rfl ⟨.inr rfl, tv⟩ rfl ?_
                refine TL_gt rfl rfl rfl rfl ?_
                refine TL_ev env 3 rfl ⟨⟨tv, ⟨tv, tv⟩⟩, ⟨⟨tv, ⟨tv, tv⟩⟩, ⟨tv, tv⟩⟩⟩ ?_
                refine TL_gf (.bool false) rfl rfl rfl rfl rfl (by decide) ?_
                refine TL_gf (.bool false) rfl rfl rfl rfl rfl (by decide) ?_
                refine TL_gf (.bool false) rfl rfl rfl rfl rfl (by decide) ?_
                refine TL_ev env 2 rfl ⟨⟨tv, ⟨fun e => e, tv⟩⟩, ⟨tv, tv⟩⟩ ?_
                refine TL_gf (.bool false) rfl rfl rfl rfl rfl (by decide) ?_
                refine TL_gf (.bool false) rfl rfl rfl rfl rfl (by decide) ?_
                refine TL_ev env 2 rfl ⟨⟨tv, ⟨fun e => e, tv⟩⟩, ⟨tv, tv⟩⟩ ?_
                refine TL_end ?_
                obtain rfl := sinj h1
                refine tsn ?_
                exact SP_ren [] () rfl ⟨rfl, tv⟩ tv rfl
              · replace h1 := bif_f h1 hb
                refine TL_gf (.bool false) rfl rfl rfl rfl rfl (by decide) ?_
                refine TL_gf (.bool false) rfl rfl rfl rfl rfl (by decide) ?_
                refine TL_gf (.bool false) rfl rfl rfl rfl rfl (by decide) ?_
                refine TL_ev env 2 rfl ⟨⟨tv, ⟨fun e => e, tv⟩⟩, ⟨tv, tv⟩⟩ ?_
                refine TL_gf (.bool false) rfl rfl rfl rfl rfl (by decide) ?_
                refine TL_gf (.bool false) rfl rfl rfl rfl rfl (by decide) ?_
                refine TL_gf (.bool false) rfl rfl rfl rfl rfl (by decide) ?_
                refine TL_ev env 2 rfl ⟨⟨tv, ⟨fun e => e, tv⟩⟩, ⟨tv, tv⟩⟩ ?_
                refine TL_gf (.bool false) rfl rfl rfl rfl rfl (by decide) ?_
                refine TL_gf (.bool false) rfl rfl rfl rfl rfl (by decide) ?_
                refine TL_ev env 2 rfl ⟨⟨tv, ⟨fun e => e, tv⟩⟩, ⟨tv, tv⟩⟩ ?_
                refine TL_end ?_
                obtain rfl := sinj h1
                refine tsn ?_
                exact SP_ren [] () rfl ⟨rfl, tv⟩ tv rfl
            · replace h1 := bif_f h1 hb
              refine TL_gf (.bool false) rfl rfl rfl rfl rfl (by decide) ?_
              refine TL_gf (.bool false) rfl rfl rfl rfl rfl (by decide) ?_
              refine TL_gf (.bool false) rfl rfl rfl rfl rfl (by decide) ?_
              refine TL_ev env 2 rfl ⟨⟨tv, ⟨fun e => e, tv⟩⟩, ⟨tv, tv⟩⟩ ?_
              refine TL_gf (.bool false) rfl rfl rfl rfl rfl (by decide) ?_
              refine TL_gf (.bool false) rfl rfl rfl rfl rfl (by decide) ?_
              refine TL_gf (.bool false) rfl rfl rfl rfl rfl (by decide) ?_
              refine TL_ev env 2 rfl ⟨⟨tv, ⟨fun e => e, tv⟩⟩, ⟨tv, tv⟩⟩ ?_
              refine TL_gf (.bool false) rfl rfl rfl rfl rfl (by decide) ?_
              refine TL_gf (.bool false) rfl rfl rfl rfl rfl (by decide) ?_
              refine TL_gf (.bool false) rfl rfl rfl rfl rfl (by decide) ?_
              refine TL_ev env 2 rfl ⟨⟨tv, ⟨fun e => e, tv⟩⟩, ⟨tv, tv⟩⟩ ?_
              refine TL_gf (.bool false) rfl rfl rfl rfl rfl (by decide) ?_
              refine TL_gf (.bool false) rfl rfl rfl rfl rfl (by decide) ?_
              refine TL_ev env 2 rfl ⟨⟨tv, ⟨fun e => e, tv⟩⟩, ⟨tv, tv⟩⟩ ?_
              refine TL_end ?_
              obtain rfl := sinj h1
              refine tsn ?_
              exact SP_ren [] () rfl ⟨rfl, tv⟩ tv rfl
          · rintro ⟨⟩ rfl
            refine TE_go ?_
            refine TC_ret ?_
            obtain rfl := sinj h0
            exact TE_ret env rfl tv tv
        · refine TL_callB [(0, 500060), (1000, 500180)] (bank_Bank_Filter.ok1 hr) bank_Bank_Filter.fnb rfl ⟨tv, ⟨tv, ⟨tv, tv⟩⟩⟩ rfl ⟨.inr rfl, tv⟩ rfl ?_
          refine TL_ev env 5 rfl ⟨tv, ⟨tv, ⟨tv, ⟨tv, ⟨tv, tv⟩⟩⟩⟩⟩ ?_
          refine TL_end ?_
          refine TE_go ?_
          refine TC_seq ?_
          obtain ⟨z1, h1, h0⟩ := bnd h0
          refine TC_cut (α := Bool) (fun s => z1 = s) (fun s => [(0, .bool s)]) (fun s => []) ?_ ?_
          · refine TC_reg ?_
            refine TL_ev env 3 rfl ⟨tv, ⟨⟨tv, ⟨tv, tv⟩⟩, ⟨tv, tv⟩⟩⟩ ?_
            refine TL_split 23 rfl (fun hb => ?_) (fun hb => ?_)
            · replace h1 := bif_t h1 hb
              refine TL_gt rfl rfl rfl rfl ?_
              refine TL_ev env 1 rfl ⟨tv, tv⟩ ?_
              refine TL_gt rfl rfl rfl rfl ?_
              refine TL_ev env 1 rfl ⟨⟨tv, ⟨tv, ⟨tv, ⟨tv, tv⟩⟩⟩⟩, tv⟩ ?_
              refine TL_gt rfl rfl rfl rfl ?_
              refine TL_frz 1025 rfl ?_
              obtain ⟨r133, hr, h1⟩ := bnd h1
              refine TL_callB [] (psalteryref04_Same.ok0 hr) psalteryref04_Same.fnb rfl ⟨tv, ⟨tv, ⟨tv, tv⟩⟩⟩ rfl tv rfl ?_
              refine TL_ev env 2 rfl ⟨⟨tv, ⟨tv, tv⟩⟩, ⟨tv, tv⟩⟩ ?_
              refine TL_split 28 rfl (fun hb => ?_) (fun hb => ?_)
              · replace h1 := bif_t h1 hb
                refine TL_gt rfl rfl rfl rfl ?_
                refine TL_ev env 1 rfl ⟨tv, tv⟩ ?_
                refine TL_gt rfl rfl rfl rfl ?_
                obtain ⟨⟨⟩, hr, h1⟩ := bnd h1
                refine TL_callB [(0, 500060)] (bank_Bank_Made.ok0 hr) bank_Bank_Made.fnb rfl ⟨tv, ⟨tv, tv⟩⟩ rfl ⟨.inr rfl, tv⟩ rfl ?_
                refine TL_gt rfl rfl rfl rfl ?_
                refine TL_ev env 3 rfl ⟨⟨tv, ⟨tv, tv⟩⟩, ⟨⟨tv, ⟨tv, tv⟩⟩, ⟨tv, tv⟩⟩⟩ ?_
                refine TL_split 33 rfl (fun hb => ?_) (fun hb => ?_)
                · replace h1 := bif_t h1 hb
                  refine TL_gt rfl rfl rfl rfl ?_
                  refine TL_ev env 1 rfl ⟨tv, tv⟩ ?_
                  refine TL_gt rfl rfl rfl rfl ?_
                  obtain ⟨⟨⟩, hr, h1⟩ := bnd h1
                  refine TL_callB [(0, 500060)] (bank_Bank_Told.ok0 hr) bank_Bank_Told.fnb rfl ⟨tv, ⟨tv, tv⟩⟩ rfl ⟨.inr rfl, tv⟩ rfl ?_
                  refine TL_gt rfl rfl rfl rfl ?_
                  refine TL_ev env 7 rfl ⟨⟨tv, ⟨tv, tv⟩⟩, ⟨⟨tv, ⟨tv, tv⟩⟩, ⟨tv, ⟨fun eg => tv, ⟨fun eg => ⟨fun e => e, ⟨tv, tv⟩⟩, ⟨⟨tv, ⟨fun e => e, tv⟩⟩, ⟨tv, tv⟩⟩⟩⟩⟩⟩⟩ ?_
                  refine TL_end ?_
                  obtain rfl := sinj h1
                  refine tsn ?_
                  exact SP_ren [] _ rfl ⟨rfl, tv⟩ tv rfl
                · replace h1 := bif_f h1 hb
                  refine TL_gf (.bool false) rfl rfl rfl rfl rfl (by decide) ?_
                  refine TL_gf (.bool false) rfl rfl rfl rfl rfl (by decide) ?_
                  refine TL_gf (.bool false) rfl rfl rfl rfl rfl (by decide) ?_
                  refine TL_ev env 2 rfl ⟨⟨tv, ⟨fun e => e, tv⟩⟩, ⟨tv, tv⟩⟩ ?_
                  refine TL_gf (.bool false) rfl rfl rfl rfl rfl (by decide) ?_
                  refine TL_gf (.bool false) rfl rfl rfl rfl rfl (by decide) ?_
                  refine TL_ev env 2 rfl ⟨⟨tv, ⟨fun e => e, tv⟩⟩, ⟨tv, tv⟩⟩ ?_
                  refine TL_end ?_
                  obtain rfl := sinj h1
                  refine tsn ?_
                  exact SP_ren [] _ rfl ⟨rfl, tv⟩ tv rfl
              · replace h1 := bif_f h1 hb
                refine TL_gf (.bool false) rfl rfl rfl rfl rfl (by decide) ?_
                refine TL_gf (.bool false) rfl rfl rfl rfl rfl (by decide) ?_
                refine TL_gf (.bool false) rfl rfl rfl rfl rfl (by decide) ?_
                refine TL_ev env 2 rfl ⟨⟨tv, ⟨fun e => e, tv⟩⟩, ⟨tv, tv⟩⟩ ?_
                refine TL_gf (.bool false) rfl rfl rfl rfl rfl (by decide) ?_
                refine TL_gf (.bool false) rfl rfl rfl rfl rfl (by decide) ?_
                refine TL_gf (.bool false) rfl rfl rfl rfl rfl (by decide) ?_
                refine TL_ev env 2 rfl ⟨⟨tv, ⟨fun e => e, tv⟩⟩, ⟨tv, tv⟩⟩ ?_
                refine TL_gf (.bool false) rfl rfl rfl rfl rfl (by decide) ?_
                refine TL_gf (.bool false) rfl rfl rfl rfl rfl (by decide) ?_
                refine TL_ev env 2 rfl ⟨⟨tv, ⟨fun e => e, tv⟩⟩, ⟨tv, tv⟩⟩ ?_
                refine TL_end ?_
                obtain rfl := sinj h1
                refine tsn ?_
                exact SP_ren [] _ rfl ⟨rfl, tv⟩ tv rfl
            · replace h1 := bif_f h1 hb
              refine TL_gf (.bool false) rfl rfl rfl rfl rfl (by decide) ?_
              refine TL_gf (.bool false) rfl rfl rfl rfl rfl (by decide) ?_
              refine TL_gf (.bool false) rfl rfl rfl rfl rfl (by decide) ?_
              refine TL_ev env 2 rfl ⟨⟨tv, ⟨fun e => e, tv⟩⟩, ⟨tv, tv⟩⟩ ?_
              refine TL_gf (.bool false) rfl rfl rfl rfl rfl (by decide) ?_
              refine TL_gf (.bool false) rfl rfl rfl rfl rfl (by decide) ?_
              refine TL_gf (.bool false) rfl rfl rfl rfl rfl (by decide) ?_
              refine TL_ev env 2 rfl ⟨⟨tv, ⟨fun e => e, tv⟩⟩, ⟨tv, tv⟩⟩ ?_
              refine TL_gf (.bool false) rfl rfl rfl rfl rfl (by decide) ?_
              refine TL_gf (.bool false) rfl rfl rfl rfl rfl (by decide) ?_
              refine TL_gf (.bool false) rfl rfl rfl rfl rfl (by decide) ?_
              refine TL_ev env 2 rfl ⟨⟨tv, ⟨fun e => e, tv⟩⟩, ⟨tv, tv⟩⟩ ?_
              refine TL_gf (.bool false) rfl rfl rfl rfl rfl (by decide) ?_
              refine TL_gf (.bool false) rfl rfl rfl rfl rfl (by decide) ?_
              refine TL_ev env 2 rfl ⟨⟨tv, ⟨fun e => e, tv⟩⟩, ⟨tv, tv⟩⟩ ?_
              refine TL_end ?_
              obtain rfl := sinj h1
              refine tsn ?_
              exact SP_ren [] _ rfl ⟨rfl, tv⟩ tv rfl
          · rintro x131 hz
            obtain rfl := hz.symm
            refine TE_go ?_
            refine TC_ret ?_
            obtain rfl := sinj h0
            exact TE_ret env rfl tv tv
      · refine TL_callB [(0, 500060), (1000, 500150)] (bank_Bank_Slope.ok1 hr) bank_Bank_Slope.fnb rfl ⟨tv, ⟨tv, ⟨tv, tv⟩⟩⟩ rfl ⟨.inr rfl, tv⟩ rfl ?_
        refine TL_end ?_
        refine TE_go ?_
        refine TC_seq ?_
        refine TC_reg ?_
        refine TL_ev env 1 rfl ⟨tv, tv⟩ ?_
        obtain ⟨z, hr, h0⟩ := bnd h0
        rcases z with r135 | ⟨r136, r137, r138, r139⟩
        · refine TL_callB [(0, 500060)] (bank_Bank_Filter.ok0 hr) bank_Bank_Filter.fnb rfl ⟨tv, ⟨tv, ⟨tv, tv⟩⟩⟩ rfl ⟨.inr rfl, tv⟩ rfl ?_
          refine TL_ev env 5 rfl ⟨tv, ⟨tv, ⟨tv, ⟨tv, ⟨tv, tv⟩⟩⟩⟩⟩ ?_
          refine TL_end ?_
          refine TE_go ?_
          refine TC_seq ?_
          obtain ⟨z1, h1, h0⟩ := bnd h0
          refine TC_cut (α := Bool) (fun s => z1 = s) (fun s => [(0, .bool s)]) (fun s => []) ?_ ?_
          · refine TC_reg ?_
            refine TL_ev env 3 rfl ⟨tv, ⟨⟨tv, ⟨tv, tv⟩⟩, ⟨tv, tv⟩⟩⟩ ?_
            refine TL_split 23 rfl (fun hb => ?_) (fun hb => ?_)
            · replace h1 := bif_t h1 hb
              refine TL_gt rfl rfl rfl rfl ?_
              refine TL_ev env 1 rfl ⟨tv, tv⟩ ?_
              refine TL_gt rfl rfl rfl rfl ?_
              refine TL_ev env 1 rfl ⟨⟨tv, ⟨tv, ⟨tv, ⟨tv, tv⟩⟩⟩⟩, tv⟩ ?_
              refine TL_gt rfl rfl rfl rfl ?_
              refine TL_frz 1025 rfl ?_
              obtain ⟨r143, hr, h1⟩ := bnd h1
              refine TL_callB [] (psalteryref04_Same.ok0 hr) psalteryref04_Same.fnb rfl ⟨tv, ⟨tv, ⟨tv, tv⟩⟩⟩ rfl tv rfl ?_
              refine TL_ev env 2 rfl ⟨⟨tv, ⟨tv, tv⟩⟩, ⟨tv, tv⟩⟩ ?_
              refine TL_split 28 rfl (fun hb => ?_) (fun hb => ?_)
              · replace h1 := bif_t h1 hb
                refine TL_gt rfl rfl rfl rfl ?_
                refine TL_ev env 1 rfl ⟨tv, tv⟩ ?_
                refine TL_gt rfl rfl rfl rfl ?_
                obtain ⟨⟨⟩, hr, h1⟩ := bnd h1
                refine TL_callB [(0, 500060)] (bank_Bank_Made.ok0 hr) bank_Bank_Made.fnb rfl ⟨tv, ⟨tv, tv⟩⟩ rfl ⟨.inr rfl, tv⟩ rfl ?_
                refine TL_gt rfl rfl rfl rfl ?_
                refine TL_ev env 3 rfl ⟨⟨tv, ⟨tv, tv⟩⟩, ⟨⟨tv, ⟨tv, tv⟩⟩, ⟨tv, tv⟩⟩⟩ ?_
                refine TL_split 33 rfl (fun hb => ?_) (fun hb => ?_)
                · replace h1 := bif_t h1 hb
                  refine TL_gt rfl rfl rfl rfl ?_
                  refine TL_ev env 1 rfl ⟨tv, tv⟩ ?_
                  refine TL_gt rfl rfl rfl rfl ?_
                  obtain ⟨⟨⟩, hr, h1⟩ := bnd h1
                  refine TL_callB [(0, 500060)] (bank_Bank_Told.ok0 hr) bank_Bank_Told.fnb rfl ⟨tv, ⟨tv, tv⟩⟩ rfl ⟨.inr rfl, tv⟩ rfl ?_
                  refine TL_gt rfl rfl rfl rfl ?_
                  refine TL_ev env 7 rfl ⟨⟨tv, ⟨tv, tv⟩⟩, ⟨⟨tv, ⟨tv, tv⟩⟩, ⟨tv, ⟨fun eg => tv, ⟨fun eg => ⟨fun e => e, ⟨tv, tv⟩⟩, ⟨⟨tv, ⟨fun e => e, tv⟩⟩, ⟨tv, tv⟩⟩⟩⟩⟩⟩⟩ ?_
                  refine TL_end ?_
                  obtain rfl := sinj h1
                  refine tsn ?_
                  exact SP_ren [] _ rfl ⟨rfl, tv⟩ tv rfl
                · replace h1 := bif_f h1 hb
                  refine TL_gf (.bool false) rfl rfl rfl rfl rfl (by decide) ?_
                  refine TL_gf (.bool false) rfl rfl rfl rfl rfl (by decide) ?_
                  refine TL_gf (.bool false) rfl rfl rfl rfl rfl (by decide) ?_
                  refine TL_ev env 2 rfl ⟨⟨tv, ⟨fun e => e, tv⟩⟩, ⟨tv, tv⟩⟩ ?_
                  refine TL_gf (.bool false) rfl rfl rfl rfl rfl (by decide) ?_
                  refine TL_gf (.bool false) rfl rfl rfl rfl rfl (by decide) ?_
                  refine TL_ev env 2 rfl ⟨⟨tv, ⟨fun e => e, tv⟩⟩, ⟨tv, tv⟩⟩ ?_
                  refine TL_end ?_
                  obtain rfl := sinj h1
                  refine tsn ?_
                  exact SP_ren [] _ rfl ⟨rfl, tv⟩ tv rfl
              · replace h1 := bif_f h1 hb
                refine TL_gf (.bool false) rfl rfl rfl rfl rfl (by decide) ?_
                refine TL_gf (.bool false) rfl rfl rfl rfl rfl (by decide) ?_
                refine TL_gf (.bool false) rfl rfl rfl rfl rfl (by decide) ?_
                refine TL_ev env 2 rfl ⟨⟨tv, ⟨fun e => e, tv⟩⟩, ⟨tv, tv⟩⟩ ?_
                refine TL_gf (.bool false) rfl rfl rfl rfl rfl (by decide) ?_
                refine TL_gf (.bool false) rfl rfl rfl rfl rfl (by decide) ?_
                refine TL_gf (.bool false) rfl rfl rfl rfl rfl (by decide) ?_
                refine TL_ev env 2 rfl ⟨⟨tv, ⟨fun e => e, tv⟩⟩, ⟨tv, tv⟩⟩ ?_
                refine TL_gf (.bool false) rfl rfl rfl rfl rfl (by decide) ?_
                refine TL_gf (.bool false) rfl rfl rfl rfl rfl (by decide) ?_
                refine TL_ev env 2 rfl ⟨⟨tv, ⟨fun e => e, tv⟩⟩, ⟨tv, tv⟩⟩ ?_
                refine TL_end ?_
                obtain rfl := sinj h1
                refine tsn ?_
                exact SP_ren [] _ rfl ⟨rfl, tv⟩ tv rfl
            · replace h1 := bif_f h1 hb
              refine TL_gf (.bool false) rfl rfl rfl rfl rfl (by decide) ?_
              refine TL_gf (.bool false) rfl rfl rfl rfl rfl (by decide) ?_
              refine TL_gf (.bool false) rfl rfl rfl rfl rfl (by decide) ?_
              refine TL_ev env 2 rfl ⟨⟨tv, ⟨fun e => e, tv⟩⟩, ⟨tv, tv⟩⟩ ?_
              refine TL_gf (.bool false) rfl rfl rfl rfl rfl (by decide) ?_
              refine TL_gf (.bool false) rfl rfl rfl rfl rfl (by decide) ?_
              refine TL_gf (.bool false) rfl rfl rfl rfl rfl (by decide) ?_
              refine TL_ev env 2 rfl ⟨⟨tv, ⟨fun e => e, tv⟩⟩, ⟨tv, tv⟩⟩ ?_
              refine TL_gf (.bool false) rfl rfl rfl rfl rfl (by decide) ?_
              refine TL_gf (.bool false) rfl rfl rfl rfl rfl (by decide) ?_
              refine TL_gf (.bool false) rfl rfl rfl rfl rfl (by decide) ?_
              refine TL_ev env 2 rfl ⟨⟨tv, ⟨fun e => e, tv⟩⟩, ⟨tv, tv⟩⟩ ?_
              refine TL_gf (.bool false) rfl rfl rfl rfl rfl (by decide) ?_
              refine TL_gf (.bool false) rfl rfl rfl rfl rfl (by decide) ?_
              refine TL_ev env 2 rfl ⟨⟨tv, ⟨fun e => e, tv⟩⟩, ⟨tv, tv⟩⟩ ?_
              refine TL_end ?_
              obtain rfl := sinj h1
              refine tsn ?_
              exact SP_ren [] _ rfl ⟨rfl, tv⟩ tv rfl
          · rintro x141 hz
            obtain rfl := hz.symm
            refine TE_go ?_
            refine TC_ret ?_
            obtain rfl := sinj h0
            exact TE_ret env rfl tv tv
        · refine TL_callB [(0, 500060), (1000, 500180)] (bank_Bank_Filter.ok1 hr) bank_Bank_Filter.fnb rfl ⟨tv, ⟨tv, ⟨tv, tv⟩⟩⟩ rfl ⟨.inr rfl, tv⟩ rfl ?_
          refine TL_ev env 5 rfl ⟨tv, ⟨tv, ⟨tv, ⟨tv, ⟨tv, tv⟩⟩⟩⟩⟩ ?_
          refine TL_end ?_
          refine TE_go ?_
          refine TC_seq ?_
          obtain ⟨z1, h1, h0⟩ := bnd h0
          refine TC_cut (α := Bool) (fun s => z1 = s) (fun s => [(0, .bool s)]) (fun s => []) ?_ ?_
          · refine TC_reg ?_
            refine TL_ev env 3 rfl ⟨tv, ⟨⟨tv, ⟨tv, tv⟩⟩, ⟨tv, tv⟩⟩⟩ ?_
            refine TL_split 23 rfl (fun hb => ?_) (fun hb => ?_)
            · replace h1 := bif_t h1 hb
              refine TL_gt rfl rfl rfl rfl ?_
              refine TL_ev env 1 rfl ⟨tv, tv⟩ ?_
              refine TL_gt rfl rfl rfl rfl ?_
              refine TL_ev env 1 rfl ⟨⟨tv, ⟨tv, ⟨tv, ⟨tv, tv⟩⟩⟩⟩, tv⟩ ?_
              refine TL_gt rfl rfl rfl rfl ?_
              refine TL_frz 1025 rfl ?_
              obtain ⟨r148, hr, h1⟩ := bnd h1
              refine TL_callB [] (psalteryref04_Same.ok0 hr) psalteryref04_Same.fnb rfl ⟨tv, ⟨tv, ⟨tv, tv⟩⟩⟩ rfl tv rfl ?_
              refine TL_ev env 2 rfl ⟨⟨tv, ⟨tv, tv⟩⟩, ⟨tv, tv⟩⟩ ?_
              refine TL_split 28 rfl (fun hb => ?_) (fun hb => ?_)
              · replace h1 := bif_t h1 hb
                refine TL_gt rfl rfl rfl rfl ?_
                refine TL_ev env 1 rfl ⟨tv, tv⟩ ?_
                refine TL_gt rfl rfl rfl rfl ?_
                obtain ⟨⟨⟩, hr, h1⟩ := bnd h1
                refine TL_callB [(0, 500060)] (bank_Bank_Made.ok0 hr) bank_Bank_Made.fnb rfl ⟨tv, ⟨tv, tv⟩⟩ rfl ⟨.inr rfl, tv⟩ rfl ?_
                refine TL_gt rfl rfl rfl rfl ?_
                refine TL_ev env 3 rfl ⟨⟨tv, ⟨tv, tv⟩⟩, ⟨⟨tv, ⟨tv, tv⟩⟩, ⟨tv, tv⟩⟩⟩ ?_
                refine TL_split 33 rfl (fun hb => ?_) (fun hb => ?_)
                · replace h1 := bif_t h1 hb
                  refine TL_gt rfl rfl rfl rfl ?_
                  refine TL_ev env 1 rfl ⟨tv, tv⟩ ?_
                  refine TL_gt rfl rfl rfl rfl ?_
                  obtain ⟨⟨⟩, hr, h1⟩ := bnd h1
                  refine TL_callB [(0, 500060)] (bank_Bank_Told.ok0 hr) bank_Bank_Told.fnb rfl ⟨tv, ⟨tv, tv⟩⟩ rfl ⟨.inr rfl, tv⟩ rfl ?_
                  refine TL_gt rfl rfl rfl rfl ?_
                  refine TL_ev env 7 rfl ⟨⟨tv, ⟨tv, tv⟩⟩, ⟨⟨tv, ⟨tv, tv⟩⟩, ⟨tv, ⟨fun eg => tv, ⟨fun eg => ⟨fun e => e, ⟨tv, tv⟩⟩, ⟨⟨tv, ⟨fun e => e, tv⟩⟩, ⟨tv, tv⟩⟩⟩⟩⟩⟩⟩ ?_
                  refine TL_end ?_
                  obtain rfl := sinj h1
                  refine tsn ?_
                  exact SP_ren [] _ rfl ⟨rfl, tv⟩ tv rfl
                · replace h1 := bif_f h1 hb
                  refine TL_gf (.bool false) rfl rfl rfl rfl rfl (by decide) ?_
                  refine TL_gf (.bool false) rfl rfl rfl rfl rfl (by decide) ?_
                  refine TL_gf (.bool false) rfl rfl rfl rfl rfl (by decide) ?_
                  refine TL_ev env 2 rfl ⟨⟨tv, ⟨fun e => e, tv⟩⟩, ⟨tv, tv⟩⟩ ?_
                  refine TL_gf (.bool false) rfl rfl rfl rfl rfl (by decide) ?_
                  refine TL_gf (.bool false) rfl rfl rfl rfl rfl (by decide) ?_
                  refine TL_ev env 2 rfl ⟨⟨tv, ⟨fun e => e, tv⟩⟩, ⟨tv, tv⟩⟩ ?_
                  refine TL_end ?_
                  obtain rfl := sinj h1
                  refine tsn ?_
                  exact SP_ren [] _ rfl ⟨rfl, tv⟩ tv rfl
              · replace h1 := bif_f h1 hb
                refine TL_gf (.bool false) rfl rfl rfl rfl rfl (by decide) ?_
                refine TL_gf (.bool false) rfl rfl rfl rfl rfl (by decide) ?_
                refine TL_gf (.bool false) rfl rfl rfl rfl rfl (by decide) ?_
                refine TL_ev env 2 rfl ⟨⟨tv, ⟨fun e => e, tv⟩⟩, ⟨tv, tv⟩⟩ ?_
                refine TL_gf (.bool false) rfl rfl rfl rfl rfl (by decide) ?_
                refine TL_gf (.bool false) rfl rfl rfl rfl rfl (by decide) ?_
                refine TL_gf (.bool false) rfl rfl rfl rfl rfl (by decide) ?_
                refine TL_ev env 2 rfl ⟨⟨tv, ⟨fun e => e, tv⟩⟩, ⟨tv, tv⟩⟩ ?_
                refine TL_gf (.bool false) rfl rfl rfl rfl rfl (by decide) ?_
                refine TL_gf (.bool false) rfl rfl rfl rfl rfl (by decide) ?_
                refine TL_ev env 2 rfl ⟨⟨tv, ⟨fun e => e, tv⟩⟩, ⟨tv, tv⟩⟩ ?_
                refine TL_end ?_
                obtain rfl := sinj h1
                refine tsn ?_
                exact SP_ren [] _ rfl ⟨rfl, tv⟩ tv rfl
            · replace h1 := bif_f h1 hb
              refine TL_gf (.bool false) rfl rfl rfl rfl rfl (by decide) ?_
              refine TL_gf (.bool false) rfl rfl rfl rfl rfl (by decide) ?_
              refine TL_gf (.bool false) rfl rfl rfl rfl rfl (by decide) ?_
              refine TL_ev env 2 rfl ⟨⟨tv, ⟨fun e => e, tv⟩⟩, ⟨tv, tv⟩⟩ ?_
              refine TL_gf (.bool false) rfl rfl rfl rfl rfl (by decide) ?_
              refine TL_gf (.bool false) rfl rfl rfl rfl rfl (by decide) ?_
              refine TL_gf (.bool false) rfl rfl rfl rfl rfl (by decide) ?_
              refine TL_ev env 2 rfl ⟨⟨tv, ⟨fun e => e, tv⟩⟩, ⟨tv, tv⟩⟩ ?_
              refine TL_gf (.bool false) rfl rfl rfl rfl rfl (by decide) ?_
              refine TL_gf (.bool false) rfl rfl rfl rfl rfl (by decide) ?_
              refine TL_gf (.bool false) rfl rfl rfl rfl rfl (by decide) ?_
              refine TL_ev env 2 rfl ⟨⟨tv, ⟨fun e => e, tv⟩⟩, ⟨tv, tv⟩⟩ ?_
              refine TL_gf (.bool false) rfl rfl rfl rfl rfl (by decide) ?_
              refine TL_gf (.bool false) rfl rfl rfl rfl rfl (by decide) ?_
              refine TL_ev env 2 rfl ⟨⟨tv, ⟨fun e => e, tv⟩⟩, ⟨tv, tv⟩⟩ ?_
              refine TL_end ?_
              obtain rfl := sinj h1
              refine tsn ?_
              exact SP_ren [] _ rfl ⟨rfl, tv⟩ tv rfl
          · rintro x146 hz
            obtain rfl := hz.symm
            refine TE_go ?_
            refine TC_ret ?_
            obtain rfl := sinj h0
            exact TE_ret env rfl tv tv
    · refine TL_callB [(0, 500060), (1000, 500130)] (bank_Bank_Turn.ok1 hr) bank_Bank_Turn.fnb rfl ⟨tv, ⟨tv, ⟨tv, tv⟩⟩⟩ rfl ⟨.inr rfl, tv⟩ rfl ?_
      refine TL_end ?_
      refine TE_go ?_
      refine TC_seq ?_
      refine TC_reg ?_
      refine TL_ev env 1 rfl ⟨tv, tv⟩ ?_
      obtain ⟨z, hr, h0⟩ := bnd h0
      rcases z with r150 | ⟨r151, r152, r153, r154⟩
      · refine TL_callB [(0, 500060)] (bank_Bank_Slope.ok0 hr) bank_Bank_Slope.fnb rfl ⟨tv, ⟨tv, ⟨tv, tv⟩⟩⟩ rfl ⟨.inr rfl, tv⟩ rfl ?_
        refine TL_end ?_
        refine TE_go ?_
        refine TC_seq ?_
        refine TC_reg ?_
        refine TL_ev env 1 rfl ⟨tv, tv⟩ ?_
        obtain ⟨z, hr, h0⟩ := bnd h0
        rcases z with r155 | ⟨r156, r157, r158, r159⟩
        · refine TL_callB [(0, 500060)] (bank_Bank_Filter.ok0 hr) bank_Bank_Filter.fnb rfl ⟨tv, ⟨tv, ⟨tv, tv⟩⟩⟩ rfl ⟨.inr rfl, tv⟩ rfl ?_
          refine TL_ev env 5 rfl ⟨tv, ⟨tv, ⟨tv, ⟨tv, ⟨tv, tv⟩⟩⟩⟩⟩ ?_
          refine TL_end ?_
          refine TE_go ?_
          refine TC_seq ?_
          obtain ⟨z1, h1, h0⟩ := bnd h0
          refine TC_cut (α := Bool) (fun s => z1 = s) (fun s => [(0, .bool s)]) (fun s => []) ?_ ?_
          · refine TC_reg ?_
            refine TL_ev env 3 rfl ⟨tv, ⟨⟨tv, ⟨tv, tv⟩⟩, ⟨tv, tv⟩⟩⟩ ?_
            refine TL_split 23 rfl (fun hb => ?_) (fun hb => ?_)
            · replace h1 := bif_t h1 hb
              refine TL_gt rfl rfl rfl rfl ?_
              refine TL_ev env 1 rfl ⟨tv, tv⟩ ?_
              refine TL_gt rfl rfl rfl rfl ?_
              refine TL_ev env 1 rfl ⟨⟨tv, ⟨tv, ⟨tv, ⟨tv, tv⟩⟩⟩⟩, tv⟩ ?_
              refine TL_gt rfl rfl rfl rfl ?_
              refine TL_frz 1025 rfl ?_
              obtain ⟨r163, hr, h1⟩ := bnd h1
              refine TL_callB [] (psalteryref04_Same.ok0 hr) psalteryref04_Same.fnb rfl ⟨tv, ⟨tv, ⟨tv, tv⟩⟩⟩ rfl tv rfl ?_
              refine TL_ev env 2 rfl ⟨⟨tv, ⟨tv, tv⟩⟩, ⟨tv, tv⟩⟩ ?_
              refine TL_split 28 rfl (fun hb => ?_) (fun hb => ?_)
              · replace h1 := bif_t h1 hb
                refine TL_gt rfl rfl rfl rfl ?_
                refine TL_ev env 1 rfl ⟨tv, tv⟩ ?_
                refine TL_gt rfl rfl rfl rfl ?_
                obtain ⟨⟨⟩, hr, h1⟩ := bnd h1
                refine TL_callB [(0, 500060)] (bank_Bank_Made.ok0 hr) bank_Bank_Made.fnb rfl ⟨tv, ⟨tv, tv⟩⟩ rfl ⟨.inr rfl, tv⟩ rfl ?_
                refine TL_gt rfl rfl rfl rfl ?_
                refine TL_ev env 3 rfl ⟨⟨tv, ⟨tv, tv⟩⟩, ⟨⟨tv, ⟨tv, tv⟩⟩, ⟨tv, tv⟩⟩⟩ ?_
                refine TL_split 33 rfl (fun hb => ?_) (fun hb => ?_)
                · replace h1 := bif_t h1 hb
                  refine TL_gt rfl rfl rfl rfl ?_
                  refine TL_ev env 1 rfl ⟨tv, tv⟩ ?_
                  refine TL_gt rfl rfl rfl rfl ?_
                  obtain ⟨⟨⟩, hr, h1⟩ := bnd h1
                  refine TL_callB [(0, 500060)] (bank_Bank_Told.ok0 hr) bank_Bank_Told.fnb rfl ⟨tv, ⟨tv, tv⟩⟩ rfl ⟨.inr rfl, tv⟩ rfl ?_
                  refine TL_gt rfl rfl rfl rfl ?_
                  refine TL_ev env 7 rfl ⟨⟨tv, ⟨tv, tv⟩⟩, ⟨⟨tv, ⟨tv, tv⟩⟩, ⟨tv, ⟨fun eg => tv, ⟨fun eg => ⟨fun e => e, ⟨tv, tv⟩⟩, ⟨⟨tv, ⟨fun e => e, tv⟩⟩, ⟨tv, tv⟩⟩⟩⟩⟩⟩⟩ ?_
                  refine TL_end ?_
                  obtain rfl := sinj h1
                  refine tsn ?_
                  exact SP_ren [] _ rfl ⟨rfl, tv⟩ tv rfl
                · replace h1 := bif_f h1 hb
                  refine TL_gf (.bool false) rfl rfl rfl rfl rfl (by decide) ?_
                  refine TL_gf (.bool false) rfl rfl rfl rfl rfl (by decide) ?_
                  refine TL_gf (.bool false) rfl rfl rfl rfl rfl (by decide) ?_
                  refine TL_ev env 2 rfl ⟨⟨tv, ⟨fun e => e, tv⟩⟩, ⟨tv, tv⟩⟩ ?_
                  refine TL_gf (.bool false) rfl rfl rfl rfl rfl (by decide) ?_
                  refine TL_gf (.bool false) rfl rfl rfl rfl rfl (by decide) ?_
                  refine TL_ev env 2 rfl ⟨⟨tv, ⟨fun e => e, tv⟩⟩, ⟨tv, tv⟩⟩ ?_
                  refine TL_end ?_
                  obtain rfl := sinj h1
                  refine tsn ?_
                  exact SP_ren [] _ rfl ⟨rfl, tv⟩ tv rfl
              · replace h1 := bif_f h1 hb
                refine TL_gf (.bool false) rfl rfl rfl rfl rfl (by decide) ?_
                refine TL_gf (.bool false) rfl rfl rfl rfl rfl (by decide) ?_
                refine TL_gf (.bool false) rfl rfl rfl rfl rfl (by decide) ?_
                refine TL_ev env 2 rfl ⟨⟨tv, ⟨fun e => e, tv⟩⟩, ⟨tv, tv⟩⟩ ?_
                refine TL_gf (.bool false) rfl rfl rfl rfl rfl (by decide) ?_
                refine TL_gf (.bool false) rfl rfl rfl rfl rfl (by decide) ?_
                refine TL_gf (.bool false) rfl rfl rfl rfl rfl (by decide) ?_
                refine TL_ev env 2 rfl ⟨⟨tv, ⟨fun e => e, tv⟩⟩, ⟨tv, tv⟩⟩ ?_
                refine TL_gf (.bool false) rfl rfl rfl rfl rfl (by decide) ?_
                refine TL_gf (.bool false) rfl rfl rfl rfl rfl (by decide) ?_
                refine TL_ev env 2 rfl ⟨⟨tv, ⟨fun e => e, tv⟩⟩, ⟨tv, tv⟩⟩ ?_
                refine TL_end ?_
                obtain rfl := sinj h1
                refine tsn ?_
                exact SP_ren [] _ rfl ⟨rfl, tv⟩ tv rfl
            · replace h1 := bif_f h1 hb
              refine TL_gf (.bool false) rfl rfl rfl rfl rfl (by decide) ?_
              refine TL_gf (.bool false) rfl rfl rfl rfl rfl (by decide) ?_
              refine TL_gf (.bool false) rfl rfl rfl rfl rfl (by decide) ?_
              refine TL_ev env 2 rfl ⟨⟨tv, ⟨fun e => e, tv⟩⟩, ⟨tv, tv⟩⟩ ?_
              refine TL_gf (.bool false) rfl rfl rfl rfl rfl (by decide) ?_
              refine TL_gf (.bool false) rfl rfl rfl rfl rfl (by decide) ?_
              refine TL_gf (.bool false) rfl rfl rfl rfl rfl (by decide) ?_
              refine TL_ev env 2 rfl ⟨⟨tv, ⟨fun e => e, tv⟩⟩, ⟨tv, tv⟩⟩ ?_
              refine TL_gf (.bool false) rfl rfl rfl rfl rfl (by decide) ?_
              refine TL_gf (.bool false) rfl rfl rfl rfl rfl (by decide) ?_
              refine TL_gf (.bool false) rfl rfl rfl rfl rfl (by decide) ?_
              refine TL_ev env 2 rfl ⟨⟨tv, ⟨fun e => e, tv⟩⟩, ⟨tv, tv⟩⟩ ?_
              refine TL_gf (.bool false) rfl rfl rfl rfl rfl (by decide) ?_
              refine TL_gf (.bool false) rfl rfl rfl rfl rfl (by decide) ?_
              refine TL_ev env 2 rfl ⟨⟨tv, ⟨fun e => e, tv⟩⟩, ⟨tv, tv⟩⟩ ?_
              refine TL_end ?_
              obtain rfl := sinj h1
              refine tsn ?_
              exact SP_ren [] _ rfl ⟨rfl, tv⟩ tv rfl
          · rintro x161 hz
            obtain rfl := hz.symm
            refine TE_go ?_
            refine TC_ret ?_
            obtain rfl := sinj h0
            exact TE_ret env rfl tv tv
        · refine TL_callB [(0, 500060), (1000, 500180)] (bank_Bank_Filter.ok1 hr) bank_Bank_Filter.fnb rfl ⟨tv, ⟨tv, ⟨tv, tv⟩⟩⟩ rfl ⟨.inr rfl, tv⟩ rfl ?_
          refine TL_ev env 5 rfl ⟨tv, ⟨tv, ⟨tv, ⟨tv, ⟨tv, tv⟩⟩⟩⟩⟩ ?_
          refine TL_end ?_
          refine TE_go ?_
          refine TC_seq ?_
          obtain ⟨z1, h1, h0⟩ := bnd h0
          refine TC_cut (α := Bool) (fun s => z1 = s) (fun s => [(0, .bool s)]) (fun s => []) ?_ ?_
          · refine TC_reg ?_
            refine TL_ev env 3 rfl ⟨tv, ⟨⟨tv, ⟨tv, tv⟩⟩, ⟨tv, tv⟩⟩⟩ ?_
            refine TL_split 23 rfl (fun hb => ?_) (fun hb => ?_)
            · replace h1 := bif_t h1 hb
              refine TL_gt rfl rfl rfl rfl ?_
              refine TL_ev env 1 rfl ⟨tv, tv⟩ ?_
              refine TL_gt rfl rfl rfl rfl ?_
              refine TL_ev env 1 rfl ⟨⟨tv, ⟨tv, ⟨tv, ⟨tv, tv⟩⟩⟩⟩, tv⟩ ?_
              refine TL_gt rfl rfl rfl rfl ?_
              refine TL_frz 1025 rfl ?_
              obtain ⟨r168, hr, h1⟩ := bnd h1
              refine TL_callB [] (psalteryref04_Same.ok0 hr) psalteryref04_Same.fnb rfl ⟨tv, ⟨tv, ⟨tv, tv⟩⟩⟩ rfl tv rfl ?_
              refine TL_ev env 2 rfl ⟨⟨tv, ⟨tv, tv⟩⟩, ⟨tv, tv⟩⟩ ?_
              refine TL_split 28 rfl (fun hb => ?_) (fun hb => ?_)
              · replace h1 := bif_t h1 hb
                refine TL_gt rfl rfl rfl rfl ?_
                refine TL_ev env 1 rfl ⟨tv, tv⟩ ?_
                refine TL_gt rfl rfl rfl rfl ?_
                obtain ⟨⟨⟩, hr, h1⟩ := bnd h1
                refine TL_callB [(0, 500060)] (bank_Bank_Made.ok0 hr) bank_Bank_Made.fnb rfl ⟨tv, ⟨tv, tv⟩⟩ rfl ⟨.inr rfl, tv⟩ rfl ?_
                refine TL_gt rfl rfl rfl rfl ?_
                refine TL_ev env 3 rfl ⟨⟨tv, ⟨tv, tv⟩⟩, ⟨⟨tv, ⟨tv, tv⟩⟩, ⟨tv, tv⟩⟩⟩ ?_
                refine TL_split 33 rfl (fun hb => ?_) (fun hb => ?_)
                · replace h1 := bif_t h1 hb
                  refine TL_gt rfl rfl rfl rfl ?_
                  refine TL_ev env 1 rfl ⟨tv, tv⟩ ?_
                  refine TL_gt rfl rfl rfl rfl ?_
                  obtain ⟨⟨⟩, hr, h1⟩ := bnd h1
                  refine TL_callB [(0, 500060)] (bank_Bank_Told.ok0 hr) bank_Bank_Told.fnb rfl ⟨tv, ⟨tv, tv⟩⟩ rfl ⟨.inr rfl, tv⟩ rfl ?_
                  refine TL_gt rfl rfl rfl rfl ?_
                  refine TL_ev env 7 rfl ⟨⟨tv, ⟨tv, tv⟩⟩, ⟨⟨tv, ⟨tv, tv⟩⟩, ⟨tv, ⟨fun eg => tv, ⟨fun eg => ⟨fun e => e, ⟨tv, tv⟩⟩, ⟨⟨tv, ⟨fun e => e, tv⟩⟩, ⟨tv, tv⟩⟩⟩⟩⟩⟩⟩ ?_
                  refine TL_end ?_
                  obtain rfl := sinj h1
                  refine tsn ?_
                  exact SP_ren [] _ rfl ⟨rfl, tv⟩ tv rfl
                · replace h1 := bif_f h1 hb
                  refine TL_gf (.bool false) rfl rfl rfl rfl rfl (by decide) ?_
                  refine TL_gf (.bool false) rfl rfl rfl rfl rfl (by decide) ?_
                  refine TL_gf (.bool false) rfl rfl rfl rfl rfl (by decide) ?_
                  refine TL_ev env 2 rfl ⟨⟨tv, ⟨fun e => e, tv⟩⟩, ⟨tv, tv⟩⟩ ?_
                  refine TL_gf (.bool false) rfl rfl rfl rfl rfl (by decide) ?_
                  refine TL_gf (.bool false) rfl rfl rfl rfl rfl (by decide) ?_
                  refine TL_ev env 2 rfl ⟨⟨tv, ⟨fun e => e, tv⟩⟩, ⟨tv, tv⟩⟩ ?_
                  refine TL_end ?_
                  obtain rfl := sinj h1
                  refine tsn ?_
                  exact SP_ren [] _ rfl ⟨rfl, tv⟩ tv rfl
              · replace h1 := bif_f h1 hb
                refine TL_gf (.bool false) rfl rfl rfl rfl rfl (by decide) ?_
                refine TL_gf (.bool false) rfl rfl rfl rfl rfl (by decide) ?_
                refine TL_gf (.bool false) rfl rfl rfl rfl rfl (by decide) ?_
                refine TL_ev env 2 rfl ⟨⟨tv, ⟨fun e => e, tv⟩⟩, ⟨tv, tv⟩⟩ ?_
                refine TL_gf (.bool false) rfl rfl rfl rfl rfl (by decide) ?_
                refine TL_gf (.bool false) rfl rfl rfl rfl rfl (by decide) ?_
                refine TL_gf (.bool false) rfl rfl rfl rfl rfl (by decide) ?_
                refine TL_ev env 2 rfl ⟨⟨tv, ⟨fun e => e, tv⟩⟩, ⟨tv, tv⟩⟩ ?_
                refine TL_gf (.bool false) rfl rfl rfl rfl rfl (by decide) ?_
                refine TL_gf (.bool false) rfl rfl rfl rfl rfl (by decide) ?_
                refine TL_ev env 2 rfl ⟨⟨tv, ⟨fun e => e, tv⟩⟩, ⟨tv, tv⟩⟩ ?_
                refine TL_end ?_
                obtain rfl := sinj h1
                refine tsn ?_
                exact SP_ren [] _ rfl ⟨rfl, tv⟩ tv rfl
            · replace h1 := bif_f h1 hb
              refine TL_gf (.bool false) rfl rfl rfl rfl rfl (by decide) ?_
              refine TL_gf (.bool false) rfl rfl rfl rfl rfl (by decide) ?_
              refine TL_gf (.bool false) rfl rfl rfl rfl rfl (by decide) ?_
              refine TL_ev env 2 rfl ⟨⟨tv, ⟨fun e => e, tv⟩⟩, ⟨tv, tv⟩⟩ ?_
              refine TL_gf (.bool false) rfl rfl rfl rfl rfl (by decide) ?_
              refine TL_gf (.bool false) rfl rfl rfl rfl rfl (by decide) ?_
              refine TL_gf (.bool false) rfl rfl rfl rfl rfl (by decide) ?_
              refine TL_ev env 2 rfl ⟨⟨tv, ⟨fun e => e, tv⟩⟩, ⟨tv, tv⟩⟩ ?_
              refine TL_gf (.bool false) rfl rfl rfl rfl rfl (by decide) ?_
              refine TL_gf (.bool false) rfl rfl rfl rfl rfl (by decide) ?_
              refine TL_gf (.bool false) rfl rfl rfl rfl rfl (by decide) ?_
              refine TL_ev env 2 rfl ⟨⟨tv, ⟨fun e => e, tv⟩⟩, ⟨tv, tv⟩⟩ ?_
              refine TL_gf (.bool false) rfl rfl rfl rfl rfl (by decide) ?_
              refine TL_gf (.bool false) rfl rfl rfl rfl rfl (by decide) ?_
              refine TL_ev env 2 rfl ⟨⟨tv, ⟨fun e => e, tv⟩⟩, ⟨tv, tv⟩⟩ ?_
              refine TL_end ?_
              obtain rfl := sinj h1
              refine tsn ?_
              exact SP_ren [] _ rfl ⟨rfl, tv⟩ tv rfl
          · rintro x166 hz
            obtain rfl := hz.symm
            refine TE_go ?_
            refine TC_ret ?_
            obtain rfl := sinj h0
            exact TE_ret env rfl tv tv
      · refine TL_callB [(0, 500060), (1000, 500150)] (bank_Bank_Slope.ok1 hr) bank_Bank_Slope.fnb rfl ⟨tv, ⟨tv, ⟨tv, tv⟩⟩⟩ rfl ⟨.inr rfl, tv⟩ rfl ?_
        refine TL_end ?_
        refine TE_go ?_
        refine TC_seq ?_
        refine TC_reg ?_
        refine TL_ev env 1 rfl ⟨tv, tv⟩ ?_
        obtain ⟨z, hr, h0⟩ := bnd h0
        rcases z with r170 | ⟨r171, r172, r173, r174⟩
        · refine TL_callB [(0, 500060)] (bank_Bank_Filter.ok0 hr) bank_Bank_Filter.fnb rfl ⟨tv, ⟨tv, ⟨tv, tv⟩⟩⟩ rfl ⟨.inr rfl, tv⟩ rfl ?_
          refine TL_ev env 5 rfl ⟨tv, ⟨tv, ⟨tv, ⟨tv, ⟨tv, tv⟩⟩⟩⟩⟩ ?_
          refine TL_end ?_
          refine TE_go ?_
          refine TC_seq ?_
          obtain ⟨z1, h1, h0⟩ := bnd h0
          refine TC_cut (α := Bool) (fun s => z1 = s) (fun s => [(0, .bool s)]) (fun s => []) ?_ ?_
          · refine TC_reg ?_
            refine TL_ev env 3 rfl ⟨tv, ⟨⟨tv, ⟨tv, tv⟩⟩, ⟨tv, tv⟩⟩⟩ ?_
            refine TL_split 23 rfl (fun hb => ?_) (fun hb => ?_)
            · replace h1 := bif_t h1 hb
              refine TL_gt rfl rfl rfl rfl ?_
              refine TL_ev env 1 rfl ⟨tv, tv⟩ ?_
              refine TL_gt rfl rfl rfl rfl ?_
              refine TL_ev env 1 rfl ⟨⟨tv, ⟨tv, ⟨tv, ⟨tv, tv⟩⟩⟩⟩, tv⟩ ?_
              refine TL_gt rfl rfl rfl rfl ?_
              refine TL_frz 1025 rfl ?_
              obtain ⟨r178, hr, h1⟩ := bnd h1
              refine TL_callB [] (psalteryref04_Same.ok0 hr) psalteryref04_Same.fnb rfl ⟨tv, ⟨tv, ⟨tv, tv⟩⟩⟩ rfl tv rfl ?_
              refine TL_ev env 2 rfl ⟨⟨tv, ⟨tv, tv⟩⟩, ⟨tv, tv⟩⟩ ?_
              refine TL_split 28 rfl (fun hb => ?_) (fun hb => ?_)
              · replace h1 := bif_t h1 hb
                refine TL_gt rfl rfl rfl rfl ?_
                refine TL_ev env 1 rfl ⟨tv, tv⟩ ?_
                refine TL_gt rfl rfl rfl rfl ?_
                obtain ⟨⟨⟩, hr, h1⟩ := bnd h1
                refine TL_callB [(0, 500060)] (bank_Bank_Made.ok0 hr) bank_Bank_Made.fnb rfl ⟨tv, ⟨tv, tv⟩⟩ rfl ⟨.inr rfl, tv⟩ rfl ?_
                refine TL_gt rfl rfl rfl rfl ?_
                refine TL_ev env 3 rfl ⟨⟨tv, ⟨tv, tv⟩⟩, ⟨⟨tv, ⟨tv, tv⟩⟩, ⟨tv, tv⟩⟩⟩ ?_
                refine TL_split 33 rfl (fun hb => ?_) (fun hb => ?_)
                · replace h1 := bif_t h1 hb
                  refine TL_gt rfl rfl rfl rfl ?_
                  refine TL_ev env 1 rfl ⟨tv, tv⟩ ?_
                  refine TL_gt rfl rfl rfl rfl ?_
                  obtain ⟨⟨⟩, hr, h1⟩ := bnd h1
                  refine TL_callB [(0, 500060)] (bank_Bank_Told.ok0 hr) bank_Bank_Told.fnb rfl ⟨tv, ⟨tv, tv⟩⟩ rfl ⟨.inr rfl, tv⟩ rfl ?_
                  refine TL_gt rfl rfl rfl rfl ?_
                  refine TL_ev env 7 rfl ⟨⟨tv, ⟨tv, tv⟩⟩, ⟨⟨tv, ⟨tv, tv⟩⟩, ⟨tv, ⟨fun eg => tv, ⟨fun eg => ⟨fun e => e, ⟨tv, tv⟩⟩, ⟨⟨tv, ⟨fun e => e, tv⟩⟩, ⟨tv, tv⟩⟩⟩⟩⟩⟩⟩ ?_
                  refine TL_end ?_
                  obtain rfl := sinj h1
                  refine tsn ?_
                  exact SP_ren [] _ rfl ⟨rfl, tv⟩ tv rfl
                · replace h1 := bif_f h1 hb
                  refine TL_gf (.bool false) rfl rfl rfl rfl rfl (by decide) ?_
                  refine TL_gf (.bool false) rfl rfl rfl rfl rfl (by decide) ?_
                  refine TL_gf (.bool false) rfl rfl rfl rfl rfl (by decide) ?_
                  refine TL_ev env 2 rfl ⟨⟨tv, ⟨fun e => e, tv⟩⟩, ⟨tv, tv⟩⟩ ?_
                  refine TL_gf (.bool false) rfl rfl rfl rfl rfl (by decide) ?_
                  refine TL_gf (.bool false) rfl rfl rfl rfl rfl (by decide) ?_
                  refine TL_ev env 2 rfl ⟨⟨tv, ⟨fun e => e, tv⟩⟩, ⟨tv, tv⟩⟩ ?_
                  refine TL_end ?_
                  obtain rfl := sinj h1
                  refine tsn ?_
                  exact SP_ren [] _ rfl ⟨rfl, tv⟩ tv rfl
              · replace h1 := bif_f h1 hb
                refine TL_gf (.bool false) rfl rfl rfl rfl rfl (by decide) ?_
                refine TL_gf (.bool false) rfl rfl rfl rfl rfl (by decide) ?_
                refine TL_gf (.bool false) rfl rfl rfl rfl rfl (by decide) ?_
                refine TL_ev env 2 rfl ⟨⟨tv, ⟨fun e => e, tv⟩⟩, ⟨tv, tv⟩⟩ ?_
                refine TL_gf (.bool false) rfl rfl rfl rfl rfl (by decide) ?_
                refine TL_gf (.bool false) rfl rfl rfl rfl rfl (by decide) ?_
                refine TL_gf (.bool false) rfl rfl rfl rfl rfl (by decide) ?_
                refine TL_ev env 2 rfl ⟨⟨tv, ⟨fun e => e, tv⟩⟩, ⟨tv, tv⟩⟩ ?_
                refine TL_gf (.bool false) rfl rfl rfl rfl rfl (by decide) ?_
                refine TL_gf (.bool false) rfl rfl rfl rfl rfl (by decide) ?_
                refine TL_ev env 2 rfl ⟨⟨tv, ⟨fun e => e, tv⟩⟩, ⟨tv, tv⟩⟩ ?_
                refine TL_end ?_
                obtain rfl := sinj h1
                refine tsn ?_
                exact SP_ren [] _ rfl ⟨rfl, tv⟩ tv rfl
            · replace h1 := bif_f h1 hb
              refine TL_gf (.bool false) rfl rfl rfl rfl rfl (by decide) ?_
              refine TL_gf (.bool false) rfl rfl rfl rfl rfl (by decide) ?_
              refine TL_gf (.bool false) rfl rfl rfl rfl rfl (by decide) ?_
              refine TL_ev env 2 rfl ⟨⟨tv, ⟨fun e => e, tv⟩⟩, ⟨tv, tv⟩⟩ ?_
              refine TL_gf (.bool false) rfl rfl rfl rfl rfl (by decide) ?_
              refine TL_gf (.bool false) rfl rfl rfl rfl rfl (by decide) ?_
              refine TL_gf (.bool false) rfl rfl rfl rfl rfl (by decide) ?_
              refine TL_ev env 2 rfl ⟨⟨tv, ⟨fun e => e, tv⟩⟩, ⟨tv, tv⟩⟩ ?_
              refine TL_gf (.bool false) rfl rfl rfl rfl rfl (by decide) ?_
              refine TL_gf (.bool false) rfl rfl rfl rfl rfl (by decide) ?_
              refine TL_gf (.bool false) rfl rfl rfl rfl rfl (by decide) ?_
              refine TL_ev env 2 rfl ⟨⟨tv, ⟨fun e => e, tv⟩⟩, ⟨tv, tv⟩⟩ ?_
              refine TL_gf (.bool false) rfl rfl rfl rfl rfl (by decide) ?_
              refine TL_gf (.bool false) rfl rfl rfl rfl rfl (by decide) ?_
              refine TL_ev env 2 rfl ⟨⟨tv, ⟨fun e => e, tv⟩⟩, ⟨tv, tv⟩⟩ ?_
              refine TL_end ?_
              obtain rfl := sinj h1
              refine tsn ?_
              exact SP_ren [] _ rfl ⟨rfl, tv⟩ tv rfl
          · rintro x176 hz
            obtain rfl := hz.symm
            refine TE_go ?_
            refine TC_ret ?_
            obtain rfl := sinj h0
            exact TE_ret env rfl tv tv
        · refine TL_callB [(0, 500060), (1000, 500180)] (bank_Bank_Filter.ok1 hr) bank_Bank_Filter.fnb rfl ⟨tv, ⟨tv, ⟨tv, tv⟩⟩⟩ rfl ⟨.inr rfl, tv⟩ rfl ?_
          refine TL_ev env 5 rfl ⟨tv, ⟨tv, ⟨tv, ⟨tv, ⟨tv, tv⟩⟩⟩⟩⟩ ?_
          refine TL_end ?_
          refine TE_go ?_
          refine TC_seq ?_
          obtain ⟨z1, h1, h0⟩ := bnd h0
          refine TC_cut (α := Bool) (fun s => z1 = s) (fun s => [(0, .bool s)]) (fun s => []) ?_ ?_
          · refine TC_reg ?_
            refine TL_ev env 3 rfl ⟨tv, ⟨⟨tv, ⟨tv, tv⟩⟩, ⟨tv, tv⟩⟩⟩ ?_
            refine TL_split 23 rfl (fun hb => ?_) (fun hb => ?_)
            · replace h1 := bif_t h1 hb
              refine TL_gt rfl rfl rfl rfl ?_
              refine TL_ev env 1 rfl ⟨tv, tv⟩ ?_
              refine TL_gt rfl rfl rfl rfl ?_
              refine TL_ev env 1 rfl ⟨⟨tv, ⟨tv, ⟨tv, ⟨tv, tv⟩⟩⟩⟩, tv⟩ ?_
              refine TL_gt rfl rfl rfl rfl ?_
              refine TL_frz 1025 rfl ?_
              obtain ⟨r183, hr, h1⟩ := bnd h1
              refine TL_callB [] (psalteryref04_Same.ok0 hr) psalteryref04_Same.fnb rfl ⟨tv, ⟨tv, ⟨tv, tv⟩⟩⟩ rfl tv rfl ?_
              refine TL_ev env 2 rfl ⟨⟨tv, ⟨tv, tv⟩⟩, ⟨tv, tv⟩⟩ ?_
              refine TL_split 28 rfl (fun hb => ?_) (fun hb => ?_)
              · replace h1 := bif_t h1 hb
                refine TL_gt rfl rfl rfl rfl ?_
                refine TL_ev env 1 rfl ⟨tv, tv⟩ ?_
                refine TL_gt rfl rfl rfl rfl ?_
                obtain ⟨⟨⟩, hr, h1⟩ := bnd h1
                refine TL_callB [(0, 500060)] (bank_Bank_Made.ok0 hr) bank_Bank_Made.fnb rfl ⟨tv, ⟨tv, tv⟩⟩ rfl ⟨.inr rfl, tv⟩ rfl ?_
                refine TL_gt rfl rfl rfl rfl ?_
                refine TL_ev env 3 rfl ⟨⟨tv, ⟨tv, tv⟩⟩, ⟨⟨tv, ⟨tv, tv⟩⟩, ⟨tv, tv⟩⟩⟩ ?_
                refine TL_split 33 rfl (fun hb => ?_) (fun hb => ?_)
                · replace h1 := bif_t h1 hb
                  refine TL_gt rfl rfl rfl rfl ?_
                  refine TL_ev env 1 rfl ⟨tv, tv⟩ ?_
                  refine TL_gt rfl rfl rfl rfl ?_
                  obtain ⟨⟨⟩, hr, h1⟩ := bnd h1
                  refine TL_callB [(0, 500060)] (bank_Bank_Told.ok0 hr) bank_Bank_Told.fnb rfl ⟨tv, ⟨tv, tv⟩⟩ rfl ⟨.inr rfl, tv⟩ rfl ?_
                  refine TL_gt rfl rfl rfl rfl ?_
                  refine TL_ev env 7 rfl ⟨⟨tv, ⟨tv, tv⟩⟩, ⟨⟨tv, ⟨tv, tv⟩⟩, ⟨tv, ⟨fun eg => tv, ⟨fun eg => ⟨fun e => e, ⟨tv, tv⟩⟩, ⟨⟨tv, ⟨fun e => e, tv⟩⟩, ⟨tv, tv⟩⟩⟩⟩⟩⟩⟩ ?_
                  refine TL_end ?_
                  obtain rfl := sinj h1
                  refine tsn ?_
                  exact SP_ren [] _ rfl ⟨rfl, tv⟩ tv rfl
                · replace h1 := bif_f h1 hb
                  refine TL_gf (.bool false) rfl rfl rfl rfl rfl (by decide) ?_
                  refine TL_gf (.bool false) rfl rfl rfl rfl rfl (by decide) ?_
                  refine TL_gf (.bool false) rfl rfl rfl rfl rfl (by decide) ?_
                  refine TL_ev env 2 rfl ⟨⟨tv, ⟨fun e => e, tv⟩⟩, ⟨tv, tv⟩⟩ ?_
                  refine TL_gf (.bool false) rfl rfl rfl rfl rfl (by decide) ?_
                  refine TL_gf (.bool false) rfl rfl rfl rfl rfl (by decide) ?_
                  refine TL_ev env 2 rfl ⟨⟨tv, ⟨fun e => e, tv⟩⟩, ⟨tv, tv⟩⟩ ?_
                  refine TL_end ?_
                  obtain rfl := sinj h1
                  refine tsn ?_
                  exact SP_ren [] _ rfl ⟨rfl, tv⟩ tv rfl
              · replace h1 := bif_f h1 hb
                refine TL_gf (.bool false) rfl rfl rfl rfl rfl (by decide) ?_
                refine TL_gf (.bool false) rfl rfl rfl rfl rfl (by decide) ?_
                refine TL_gf (.bool false) rfl rfl rfl rfl rfl (by decide) ?_
                refine TL_ev env 2 rfl ⟨⟨tv, ⟨fun e => e, tv⟩⟩, ⟨tv, tv⟩⟩ ?_
                refine TL_gf (.bool false) rfl rfl rfl rfl rfl (by decide) ?_
                refine TL_gf (.bool false) rfl rfl rfl rfl rfl (by decide) ?_
                refine TL_gf (.bool false) rfl rfl rfl rfl rfl (by decide) ?_
                refine TL_ev env 2 rfl ⟨⟨tv, ⟨fun e => e, tv⟩⟩, ⟨tv, tv⟩⟩ ?_
                refine TL_gf (.bool false) rfl rfl rfl rfl rfl (by decide) ?_
                refine TL_gf (.bool false) rfl rfl rfl rfl rfl (by decide) ?_
                refine TL_ev env 2 rfl ⟨⟨tv, ⟨fun e => e, tv⟩⟩, ⟨tv, tv⟩⟩ ?_
                refine TL_end ?_
                obtain rfl := sinj h1
                refine tsn ?_
                exact SP_ren [] _ rfl ⟨rfl, tv⟩ tv rfl
            · replace h1 := bif_f h1 hb
              refine TL_gf (.bool false) rfl rfl rfl rfl rfl (by decide) ?_
              refine TL_gf (.bool false) rfl rfl rfl rfl rfl (by decide) ?_
              refine TL_gf (.bool false) rfl rfl rfl rfl rfl (by decide) ?_
              refine TL_ev env 2 rfl ⟨⟨tv, ⟨fun e => e, tv⟩⟩, ⟨tv, tv⟩⟩ ?_
              refine TL_gf (.bool false) rfl rfl rfl rfl rfl (by decide) ?_
              refine TL_gf (.bool false) rfl rfl rfl rfl rfl (by decide) ?_
              refine TL_gf (.bool false) rfl rfl rfl rfl rfl (by decide) ?_
              refine TL_ev env 2 rfl ⟨⟨tv, ⟨fun e => e, tv⟩⟩, ⟨tv, tv⟩⟩ ?_
              refine TL_gf (.bool false) rfl rfl rfl rfl rfl (by decide) ?_
              refine TL_gf (.bool false) rfl rfl rfl rfl rfl (by decide) ?_
              refine TL_gf (.bool false) rfl rfl rfl rfl rfl (by decide) ?_
              refine TL_ev env 2 rfl ⟨⟨tv, ⟨fun e => e, tv⟩⟩, ⟨tv, tv⟩⟩ ?_
              refine TL_gf (.bool false) rfl rfl rfl rfl rfl (by decide) ?_
              refine TL_gf (.bool false) rfl rfl rfl rfl rfl (by decide) ?_
              refine TL_ev env 2 rfl ⟨⟨tv, ⟨fun e => e, tv⟩⟩, ⟨tv, tv⟩⟩ ?_
              refine TL_end ?_
              obtain rfl := sinj h1
              refine tsn ?_
              exact SP_ren [] _ rfl ⟨rfl, tv⟩ tv rfl
          · rintro x181 hz
            obtain rfl := hz.symm
            refine TE_go ?_
            refine TC_ret ?_
            obtain rfl := sinj h0
            exact TE_ret env rfl tv tv
  · refine TL_callB [(0, 500060), (1000, 500090)] (bank_Bank_Turn.ok1 hr) bank_Bank_Turn.fnb rfl ⟨tv, ⟨tv, ⟨tv, tv⟩⟩⟩ rfl ⟨.inr rfl, tv⟩ rfl ?_
    refine TL_ev env 5 rfl ⟨tv, ⟨tv, ⟨tv, ⟨tv, ⟨tv, tv⟩⟩⟩⟩⟩ ?_
    refine TL_end ?_
    refine TE_go ?_
    refine TC_seq ?_
    refine TC_reg ?_
    refine TL_ev env 1 rfl ⟨tv, tv⟩ ?_
    obtain ⟨z, hr, h0⟩ := bnd h0
    rcases z with r185 | ⟨r186, r187, r188, r189⟩
    · refine TL_callB [(0, 500060)] (bank_Bank_Turn.ok0 hr) bank_Bank_Turn.fnb rfl ⟨tv, ⟨tv, ⟨tv, tv⟩⟩⟩ rfl ⟨.inr rfl, tv⟩ rfl ?_
      refine TL_end ?_
      refine TE_go ?_
      refine TC_seq ?_
      refine TC_reg ?_
      refine TL_ev env 1 rfl ⟨tv, tv⟩ ?_
      obtain ⟨z, hr, h0⟩ := bnd h0
      rcases z with r190 | ⟨r191, r192, r193, r194⟩
      · refine TL_callB [(0, 500060)] (bank_Bank_Slope.ok0 hr) bank_Bank_Slope.fnb rfl ⟨tv, ⟨tv, ⟨tv, tv⟩⟩⟩ rfl ⟨.inr rfl, tv⟩ rfl ?_
        refine TL_end ?_
        refine TE_go ?_
        refine TC_seq ?_
        refine TC_reg ?_
        refine TL_ev env 1 rfl ⟨tv, tv⟩ ?_
        obtain ⟨z, hr, h0⟩ := bnd h0
        rcases z with r195 | ⟨r196, r197, r198, r199⟩
        · refine TL_callB [(0, 500060)] (bank_Bank_Filter.ok0 hr) bank_Bank_Filter.fnb rfl ⟨tv, ⟨tv, ⟨tv, tv⟩⟩⟩ rfl ⟨.inr rfl, tv⟩ rfl ?_
          refine TL_ev env 5 rfl ⟨tv, ⟨tv, ⟨tv, ⟨tv, ⟨tv, tv⟩⟩⟩⟩⟩ ?_
          refine TL_end ?_
          refine TE_go ?_
          refine TC_seq ?_
          obtain ⟨z1, h1, h0⟩ := bnd h0
          refine TC_cut (α := Bool) (fun s => z1 = s) (fun s => [(0, .bool s)]) (fun s => []) ?_ ?_
          · refine TC_reg ?_
            refine TL_ev env 3 rfl ⟨tv, ⟨⟨tv, ⟨tv, tv⟩⟩, ⟨tv, tv⟩⟩⟩ ?_
            refine TL_gt rfl rfl rfl rfl ?_
            refine TL_ev env 1 rfl ⟨tv, tv⟩ ?_
            refine TL_gt rfl rfl rfl rfl ?_
            refine TL_ev env 1 rfl ⟨⟨tv, ⟨tv, ⟨tv, ⟨tv, tv⟩⟩⟩⟩, tv⟩ ?_
            refine TL_gt rfl rfl rfl rfl ?_
            refine TL_frz 500090 rfl ?_
            refine TL_frz 1025 rfl ?_
            obtain ⟨r203, hr, h1⟩ := bnd h1
            refine TL_callB [] (psalteryref04_Same_2.ok0 hr) psalteryref04_Same_2.fnb rfl ⟨tv, ⟨tv, ⟨tv, tv⟩⟩⟩ rfl tv rfl ?_
            refine TL_ev env 2 rfl ⟨⟨tv, ⟨tv, tv⟩⟩, ⟨tv, tv⟩⟩ ?_
            refine TL_split 28 rfl (fun hb => ?_) (fun hb => ?_)
            · replace h1 := bif_t h1 hb
              refine TL_gt rfl rfl rfl rfl ?_
              refine TL_ev env 1 rfl ⟨tv, tv⟩ ?_
              refine TL_gt rfl rfl rfl rfl ?_
              obtain ⟨⟨⟩, hr, h1⟩ := bnd h1
              refine TL_callB [(0, 500060)] (bank_Bank_Made.ok0 hr) bank_Bank_Made.fnb rfl ⟨tv, ⟨tv, tv⟩⟩ rfl ⟨.inr rfl, tv⟩ rfl ?_
              refine TL_gt rfl rfl rfl rfl ?_
              refine TL_ev env 3 rfl ⟨⟨tv, ⟨tv, tv⟩⟩, ⟨⟨tv, ⟨tv, tv⟩⟩, ⟨tv, tv⟩⟩⟩ ?_
              refine TL_split 33 rfl (fun hb => ?_) (fun hb => ?_)
              · replace h1 := bif_t h1 hb
                refine TL_gt rfl rfl rfl rfl ?_
                refine TL_ev env 1 rfl ⟨tv, tv⟩ ?_
                refine TL_gt rfl rfl rfl rfl ?_
                obtain ⟨⟨⟩, hr, h1⟩ := bnd h1
                refine TL_callB [(0, 500060)] (bank_Bank_Told.ok0 hr) bank_Bank_Told.fnb rfl ⟨tv, ⟨tv, tv⟩⟩ rfl ⟨.inr rfl, tv⟩ rfl ?_
                refine TL_gt rfl rfl rfl rfl ?_
                refine TL_ev env 7 rfl ⟨⟨tv, ⟨tv, tv⟩⟩, ⟨⟨tv, ⟨tv, tv⟩⟩, ⟨tv, ⟨fun eg => tv, ⟨fun eg => ⟨fun e => e, ⟨tv, tv⟩⟩, ⟨⟨tv, ⟨fun e => e, tv⟩⟩, ⟨tv, tv⟩⟩⟩⟩⟩⟩⟩ ?_
                refine TL_end ?_
                obtain rfl := sinj h1
                refine tsn ?_
                exact SP_ren [] _ rfl ⟨rfl, tv⟩ tv rfl
              · replace h1 := bif_f h1 hb
                refine TL_gf (.bool false) rfl rfl rfl rfl rfl (by decide) ?_
                refine TL_gf (.bool false) rfl rfl rfl rfl rfl (by decide) ?_
                refine TL_gf (.bool false) rfl rfl rfl rfl rfl (by decide) ?_
                refine TL_ev env 2 rfl ⟨⟨tv, ⟨fun e => e, tv⟩⟩, ⟨tv, tv⟩⟩ ?_
                refine TL_gf (.bool false) rfl rfl rfl rfl rfl (by decide) ?_
                refine TL_gf (.bool false) rfl rfl rfl rfl rfl (by decide) ?_
                refine TL_ev env 2 rfl ⟨⟨tv, ⟨fun e => e, tv⟩⟩, ⟨tv, tv⟩⟩ ?_
                refine TL_end ?_
                obtain rfl := sinj h1
                refine tsn ?_
                exact SP_ren [] _ rfl ⟨rfl, tv⟩ tv rfl
            · replace h1 := bif_f h1 hb
              refine TL_gf (.bool false) rfl rfl rfl rfl rfl (by decide) ?_
              refine TL_gf (.bool false) rfl rfl rfl rfl rfl (by decide) ?_
              refine TL_gf (.bool false) rfl rfl rfl rfl rfl (by decide) ?_
              refine TL_ev env 2 rfl ⟨⟨tv, ⟨fun e => e, tv⟩⟩, ⟨tv, tv⟩⟩ ?_
              refine TL_gf (.bool false) rfl rfl rfl rfl rfl (by decide) ?_
              refine TL_gf (.bool false) rfl rfl rfl rfl rfl (by decide) ?_
              refine TL_gf (.bool false) rfl rfl rfl rfl rfl (by decide) ?_
              refine TL_ev env 2 rfl ⟨⟨tv, ⟨fun e => e, tv⟩⟩, ⟨tv, tv⟩⟩ ?_
              refine TL_gf (.bool false) rfl rfl rfl rfl rfl (by decide) ?_
              refine TL_gf (.bool false) rfl rfl rfl rfl rfl (by decide) ?_
              refine TL_ev env 2 rfl ⟨⟨tv, ⟨fun e => e, tv⟩⟩, ⟨tv, tv⟩⟩ ?_
              refine TL_end ?_
              obtain rfl := sinj h1
              refine tsn ?_
              exact SP_ren [] _ rfl ⟨rfl, tv⟩ tv rfl
          · rintro x201 hz
            obtain rfl := hz.symm
            refine TE_go ?_
            refine TC_ret ?_
            obtain rfl := sinj h0
            exact TE_ret env rfl tv tv
        · refine TL_callB [(0, 500060), (1000, 500180)] (bank_Bank_Filter.ok1 hr) bank_Bank_Filter.fnb rfl ⟨tv, ⟨tv, ⟨tv, tv⟩⟩⟩ rfl ⟨.inr rfl, tv⟩ rfl ?_
          refine TL_ev env 5 rfl ⟨tv, ⟨tv, ⟨tv, ⟨tv, ⟨tv, tv⟩⟩⟩⟩⟩ ?_
          refine TL_end ?_
          refine TE_go ?_
          refine TC_seq ?_
          obtain ⟨z1, h1, h0⟩ := bnd h0
          refine TC_cut (α := Bool) (fun s => z1 = s) (fun s => [(0, .bool s)]) (fun s => []) ?_ ?_
          · refine TC_reg ?_
            refine TL_ev env 3 rfl ⟨tv, ⟨⟨tv, ⟨tv, tv⟩⟩, ⟨tv, tv⟩⟩⟩ ?_
            refine TL_gt rfl rfl rfl rfl ?_
            refine TL_ev env 1 rfl ⟨tv, tv⟩ ?_
            refine TL_gt rfl rfl rfl rfl ?_
            refine TL_ev env 1 rfl ⟨⟨tv, ⟨tv, ⟨tv, ⟨tv, tv⟩⟩⟩⟩, tv⟩ ?_
            refine TL_gt rfl rfl rfl rfl ?_
            refine TL_frz 500090 rfl ?_
            refine TL_frz 1025 rfl ?_
            obtain ⟨r208, hr, h1⟩ := bnd h1
            refine TL_callB [] (psalteryref04_Same_2.ok0 hr) psalteryref04_Same_2.fnb rfl ⟨tv, ⟨tv, ⟨tv, tv⟩⟩⟩ rfl tv rfl ?_
            refine TL_ev env 2 rfl ⟨⟨tv, ⟨tv, tv⟩⟩, ⟨tv, tv⟩⟩ ?_
            refine TL_split 28 rfl (fun hb => ?_) (fun hb => ?_)
            · replace h1 := bif_t h1 hb
              refine TL_gt rfl rfl rfl rfl ?_
              refine TL_ev env 1 rfl ⟨tv, tv⟩ ?_
              refine TL_gt rfl rfl rfl rfl ?_
              obtain ⟨⟨⟩, hr, h1⟩ := bnd h1
              refine TL_callB [(0, 500060)] (bank_Bank_Made.ok0 hr) bank_Bank_Made.fnb rfl ⟨tv, ⟨tv, tv⟩⟩ rfl ⟨.inr rfl, tv⟩ rfl ?_
              refine TL_gt rfl rfl rfl rfl ?_
              refine TL_ev env 3 rfl ⟨⟨tv, ⟨tv, tv⟩⟩, ⟨⟨tv, ⟨tv, tv⟩⟩, ⟨tv, tv⟩⟩⟩ ?_
              refine TL_split 33 rfl (fun hb => ?_) (fun hb => ?_)
              · replace h1 := bif_t h1 hb
                refine TL_gt rfl rfl rfl rfl ?_
                refine TL_ev env 1 rfl ⟨tv, tv⟩ ?_
                refine TL_gt rfl rfl rfl rfl ?_
                obtain ⟨⟨⟩, hr, h1⟩ := bnd h1
                refine TL_callB [(0, 500060)] (bank_Bank_Told.ok0 hr) bank_Bank_Told.fnb rfl ⟨tv, ⟨tv, tv⟩⟩ rfl ⟨.inr rfl, tv⟩ rfl ?_
                refine TL_gt rfl rfl rfl rfl ?_
                refine TL_ev env 7 rfl ⟨⟨tv, ⟨tv, tv⟩⟩, ⟨⟨tv, ⟨tv, tv⟩⟩, ⟨tv, ⟨fun eg => tv, ⟨fun eg => ⟨fun e => e, ⟨tv, tv⟩⟩, ⟨⟨tv, ⟨fun e => e, tv⟩⟩, ⟨tv, tv⟩⟩⟩⟩⟩⟩⟩ ?_
                refine TL_end ?_
                obtain rfl := sinj h1
                refine tsn ?_
                exact SP_ren [] _ rfl ⟨rfl, tv⟩ tv rfl
              · replace h1 := bif_f h1 hb
                refine TL_gf (.bool false) rfl rfl rfl rfl rfl (by decide) ?_
                refine TL_gf (.bool false) rfl rfl rfl rfl rfl (by decide) ?_
                refine TL_gf (.bool false) rfl rfl rfl rfl rfl (by decide) ?_
                refine TL_ev env 2 rfl ⟨⟨tv, ⟨fun e => e, tv⟩⟩, ⟨tv, tv⟩⟩ ?_
                refine TL_gf (.bool false) rfl rfl rfl rfl rfl (by decide) ?_
                refine TL_gf (.bool false) rfl rfl rfl rfl rfl (by decide) ?_
                refine TL_ev env 2 rfl ⟨⟨tv, ⟨fun e => e, tv⟩⟩, ⟨tv, tv⟩⟩ ?_
                refine TL_end ?_
                obtain rfl := sinj h1
                refine tsn ?_
                exact SP_ren [] _ rfl ⟨rfl, tv⟩ tv rfl
            · replace h1 := bif_f h1 hb
              refine TL_gf (.bool false) rfl rfl rfl rfl rfl (by decide) ?_
              refine TL_gf (.bool false) rfl rfl rfl rfl rfl (by decide) ?_
              refine TL_gf (.bool false) rfl rfl rfl rfl rfl (by decide) ?_
              refine TL_ev env 2 rfl ⟨⟨tv, ⟨fun e => e, tv⟩⟩, ⟨tv, tv⟩⟩ ?_
              refine TL_gf (.bool false) rfl rfl rfl rfl rfl (by decide) ?_
              refine TL_gf (.bool false) rfl rfl rfl rfl rfl (by decide) ?_
              refine TL_gf (.bool false) rfl rfl rfl rfl rfl (by decide) ?_
              refine TL_ev env 2 rfl ⟨⟨tv, ⟨fun e => e, tv⟩⟩, ⟨tv, tv⟩⟩ ?_
              refine TL_gf (.bool false) rfl rfl rfl rfl rfl (by decide) ?_
              refine TL_gf (.bool false) rfl rfl rfl rfl rfl (by decide) ?_
              refine TL_ev env 2 rfl ⟨⟨tv, ⟨fun e => e, tv⟩⟩, ⟨tv, tv⟩⟩ ?_
              refine TL_end ?_
              obtain rfl := sinj h1
              refine tsn ?_
              exact SP_ren [] _ rfl ⟨rfl, tv⟩ tv rfl
          · rintro x206 hz
            obtain rfl := hz.symm
            refine TE_go ?_
            refine TC_ret ?_
            obtain rfl := sinj h0
            exact TE_ret env rfl tv tv
      · refine TL_callB [(0, 500060), (1000, 500150)] (bank_Bank_Slope.ok1 hr) bank_Bank_Slope.fnb rfl ⟨tv, ⟨tv, ⟨tv, tv⟩⟩⟩ rfl ⟨.inr rfl, tv⟩ rfl ?_
        refine TL_end ?_
        refine TE_go ?_
        refine TC_seq ?_
        refine TC_reg ?_
        refine TL_ev env 1 rfl ⟨tv, tv⟩ ?_
        obtain ⟨z, hr, h0⟩ := bnd h0
        rcases z with r210 | ⟨r211, r212, r213, r214⟩
        · refine TL_callB [(0, 500060)] (bank_Bank_Filter.ok0 hr) bank_Bank_Filter.fnb rfl ⟨tv, ⟨tv, ⟨tv, tv⟩⟩⟩ rfl ⟨.inr rfl, tv⟩ rfl ?_
          refine TL_ev env 5 rfl ⟨tv, ⟨tv, ⟨tv, ⟨tv, ⟨tv, tv⟩⟩⟩⟩⟩ ?_
          refine TL_end ?_
          refine TE_go ?_
          refine TC_seq ?_
          obtain ⟨z1, h1, h0⟩ := bnd h0
          refine TC_cut (α := Bool) (fun s => z1 = s) (fun s => [(0, .bool s)]) (fun s => []) ?_ ?_
          · refine TC_reg ?_
            refine TL_ev env 3 rfl ⟨tv, ⟨⟨tv, ⟨tv, tv⟩⟩, ⟨tv, tv⟩⟩⟩ ?_
            refine TL_gt rfl rfl rfl rfl ?_
            refine TL_ev env 1 rfl ⟨tv, tv⟩ ?_
            refine TL_gt rfl rfl rfl rfl ?_
            refine TL_ev env 1 rfl ⟨⟨tv, ⟨tv, ⟨tv, ⟨tv, tv⟩⟩⟩⟩, tv⟩ ?_
            refine TL_gt rfl rfl rfl rfl ?_
            refine TL_frz 500090 rfl ?_
            refine TL_frz 1025 rfl ?_
            obtain ⟨r218, hr, h1⟩ := bnd h1
            refine TL_callB [] (psalteryref04_Same_2.ok0 hr) psalteryref04_Same_2.fnb rfl ⟨tv, ⟨tv, ⟨tv, tv⟩⟩⟩ rfl tv rfl ?_
            refine TL_ev env 2 rfl ⟨⟨tv, ⟨tv, tv⟩⟩, ⟨tv, tv⟩⟩ ?_
            refine TL_split 28 rfl (fun hb => ?_) (fun hb => ?_)
            · replace h1 := bif_t h1 hb
              refine TL_gt rfl rfl rfl rfl ?_
              refine TL_ev env 1 rfl ⟨tv, tv⟩ ?_
              refine TL_gt rfl rfl rfl rfl ?_
              obtain ⟨⟨⟩, hr, h1⟩ := bnd h1
              refine TL_callB [(0, 500060)] (bank_Bank_Made.ok0 hr) bank_Bank_Made.fnb rfl ⟨tv, ⟨tv, tv⟩⟩ rfl ⟨.inr rfl, tv⟩ rfl ?_
              refine TL_gt rfl rfl rfl rfl ?_
              refine TL_ev env 3 rfl ⟨⟨tv, ⟨tv, tv⟩⟩, ⟨⟨tv, ⟨tv, tv⟩⟩, ⟨tv, tv⟩⟩⟩ ?_
              refine TL_split 33 rfl (fun hb => ?_) (fun hb => ?_)
              · replace h1 := bif_t h1 hb
                refine TL_gt rfl rfl rfl rfl ?_
                refine TL_ev env 1 rfl ⟨tv, tv⟩ ?_
                refine TL_gt rfl rfl rfl rfl ?_
                obtain ⟨⟨⟩, hr, h1⟩ := bnd h1
                refine TL_callB [(0, 500060)] (bank_Bank_Told.ok0 hr) bank_Bank_Told.fnb rfl ⟨tv, ⟨tv, tv⟩⟩ rfl ⟨.inr rfl, tv⟩ rfl ?_
                refine TL_gt rfl rfl rfl rfl ?_
                refine TL_ev env 7 rfl ⟨⟨tv, ⟨tv, tv⟩⟩, ⟨⟨tv, ⟨tv, tv⟩⟩, ⟨tv, ⟨fun eg => tv, ⟨fun eg => ⟨fun e => e, ⟨tv, tv⟩⟩, ⟨⟨tv, ⟨fun e => e, tv⟩⟩, ⟨tv, tv⟩⟩⟩⟩⟩⟩⟩ ?_
                refine TL_end ?_
                obtain rfl := sinj h1
                refine tsn ?_
                exact SP_ren [] _ rfl ⟨rfl, tv⟩ tv rfl
              · replace h1 := bif_f h1 hb
                refine TL_gf (.bool false) rfl rfl rfl rfl rfl (by decide) ?_
                refine TL_gf (.bool false) rfl rfl rfl rfl rfl (by decide) ?_
                refine TL_gf (.bool false) rfl rfl rfl rfl rfl (by decide) ?_
                refine TL_ev env 2 rfl ⟨⟨tv, ⟨fun e => e, tv⟩⟩, ⟨tv, tv⟩⟩ ?_
                refine TL_gf (.bool false) rfl rfl rfl rfl rfl (by decide) ?_
                refine TL_gf (.bool false) rfl rfl rfl rfl rfl (by decide) ?_
                refine TL_ev env 2 rfl ⟨⟨tv, ⟨fun e => e, tv⟩⟩, ⟨tv, tv⟩⟩ ?_
                refine TL_end ?_
                obtain rfl := sinj h1
                refine tsn ?_
                exact SP_ren [] _ rfl ⟨rfl, tv⟩ tv rfl
            · replace h1 := bif_f h1 hb
              refine TL_gf (.bool false) rfl rfl rfl rfl rfl (by decide) ?_
              refine TL_gf (.bool false) rfl rfl rfl rfl rfl (by decide) ?_
              refine TL_gf (.bool false) rfl rfl rfl rfl rfl (by decide) ?_
              refine TL_ev env 2 rfl ⟨⟨tv, ⟨fun e => e, tv⟩⟩, ⟨tv, tv⟩⟩ ?_
              refine TL_gf (.bool false) rfl rfl rfl rfl rfl (by decide) ?_
              refine TL_gf (.bool false) rfl rfl rfl rfl rfl (by decide) ?_
              refine TL_gf (.bool false) rfl rfl rfl rfl rfl (by decide) ?_
              refine TL_ev env 2 rfl ⟨⟨tv, ⟨fun e => e, tv⟩⟩, ⟨tv, tv⟩⟩ ?_
              refine TL_gf (.bool false) rfl rfl rfl rfl rfl (by decide) ?_
              refine TL_gf (.bool false) rfl rfl rfl rfl rfl (by decide) ?_
              refine TL_ev env 2 rfl ⟨⟨tv, ⟨fun e => e, tv⟩⟩, ⟨tv, tv⟩⟩ ?_
              refine TL_end ?_
              obtain rfl := sinj h1
              refine tsn ?_
              exact SP_ren [] _ rfl ⟨rfl, tv⟩ tv rfl
          · rintro x216 hz
            obtain rfl := hz.symm
            refine TE_go ?_
            refine TC_ret ?_
            obtain rfl := sinj h0
            exact TE_ret env rfl tv tv
        · refine TL_callB [(0, 500060), (1000, 500180)] (bank_Bank_Filter.ok1 hr) bank_Bank_Filter.fnb rfl ⟨tv, ⟨tv, ⟨tv, tv⟩⟩⟩ rfl ⟨.inr rfl, tv⟩ rfl ?_
          refine TL_ev env 5 rfl ⟨tv, ⟨tv, ⟨tv, ⟨tv, ⟨tv, tv⟩⟩⟩⟩⟩ ?_
          refine TL_end ?_
          refine TE_go ?_
          refine TC_seq ?_
          obtain ⟨z1, h1, h0⟩ := bnd h0
          refine TC_cut (α := Bool) (fun s => z1 = s) (fun s => [(0, .bool s)]) (fun s => []) ?_ ?_
          · refine TC_reg ?_
            refine TL_ev env 3 rfl ⟨tv, ⟨⟨tv, ⟨tv, tv⟩⟩, ⟨tv, tv⟩⟩⟩ ?_
            refine TL_gt rfl rfl rfl rfl ?_
            refine TL_ev env 1 rfl ⟨tv, tv⟩ ?_
            refine TL_gt rfl rfl rfl rfl ?_
            refine TL_ev env 1 rfl ⟨⟨tv, ⟨tv, ⟨tv, ⟨tv, tv⟩⟩⟩⟩, tv⟩ ?_
            refine TL_gt rfl rfl rfl rfl ?_
            refine TL_frz 500090 rfl ?_
            refine TL_frz 1025 rfl ?_
            obtain ⟨r223, hr, h1⟩ := bnd h1
            refine TL_callB [] (psalteryref04_Same_2.ok0 hr) psalteryref04_Same_2.fnb rfl ⟨tv, ⟨tv, ⟨tv, tv⟩⟩⟩ rfl tv rfl ?_
            refine TL_ev env 2 rfl ⟨⟨tv, ⟨tv, tv⟩⟩, ⟨tv, tv⟩⟩ ?_
            refine TL_split 28 rfl (fun hb => ?_) (fun hb => ?_)
            · replace h1 := bif_t h1 hb
              refine TL_gt rfl rfl rfl rfl ?_
              refine TL_ev env 1 rfl ⟨tv, tv⟩ ?_
              refine TL_gt rfl rfl rfl rfl ?_
              obtain ⟨⟨⟩, hr, h1⟩ := bnd h1
              refine TL_callB [(0, 500060)] (bank_Bank_Made.ok0 hr) bank_Bank_Made.fnb rfl ⟨tv, ⟨tv, tv⟩⟩ rfl ⟨.inr rfl, tv⟩ rfl ?_
              refine TL_gt rfl rfl rfl rfl ?_
              refine TL_ev env 3 rfl ⟨⟨tv, ⟨tv, tv⟩⟩, ⟨⟨tv, ⟨tv, tv⟩⟩, ⟨tv, tv⟩⟩⟩ ?_
              refine TL_split 33 rfl (fun hb => ?_) (fun hb => ?_)
              · replace h1 := bif_t h1 hb
                refine TL_gt rfl rfl rfl rfl ?_
                refine TL_ev env 1 rfl ⟨tv, tv⟩ ?_
                refine TL_gt rfl rfl rfl rfl ?_
                obtain ⟨⟨⟩, hr, h1⟩ := bnd h1
                refine TL_callB [(0, 500060)] (bank_Bank_Told.ok0 hr) bank_Bank_Told.fnb rfl ⟨tv, ⟨tv, tv⟩⟩ rfl ⟨.inr rfl, tv⟩ rfl ?_
                refine TL_gt rfl rfl rfl rfl ?_
                refine TL_ev env 7 rfl ⟨⟨tv, ⟨tv, tv⟩⟩, ⟨⟨tv, ⟨tv, tv⟩⟩, ⟨tv, ⟨fun eg => tv, ⟨fun eg => ⟨fun e => e, ⟨tv, tv⟩⟩, ⟨⟨tv, ⟨fun e => e, tv⟩⟩, ⟨tv, tv⟩⟩⟩⟩⟩⟩⟩ ?_
                refine TL_end ?_
                obtain rfl := sinj h1
                refine tsn ?_
                exact SP_ren [] _ rfl ⟨rfl, tv⟩ tv rfl
              · replace h1 := bif_f h1 hb
                refine TL_gf (.bool false) rfl rfl rfl rfl rfl (by decide) ?_
                refine TL_gf (.bool false) rfl rfl rfl rfl rfl (by decide) ?_
                refine TL_gf (.bool false) rfl rfl rfl rfl rfl (by decide) ?_
                refine TL_ev env 2 rfl ⟨⟨tv, ⟨fun e => e, tv⟩⟩, ⟨tv, tv⟩⟩ ?_
                refine TL_gf (.bool false) rfl rfl rfl rfl rfl (by decide) ?_
                refine TL_gf (.bool false) rfl rfl rfl rfl rfl (by decide) ?_
                refine TL_ev env 2 rfl ⟨⟨tv, ⟨fun e => e, tv⟩⟩, ⟨tv, tv⟩⟩ ?_
                refine TL_end ?_
                obtain rfl := sinj h1
                refine tsn ?_
                exact SP_ren [] _ rfl ⟨rfl, tv⟩ tv rfl
            · replace h1 := bif_f h1 hb
              refine TL_gf (.bool false) rfl rfl rfl rfl rfl (by decide) ?_
              refine TL_gf (.bool false) rfl rfl rfl rfl rfl (by decide) ?_
              refine TL_gf (.bool false) rfl rfl rfl rfl rfl (by decide) ?_
              refine TL_ev env 2 rfl ⟨⟨tv, ⟨fun e => e, tv⟩⟩, ⟨tv, tv⟩⟩ ?_
              refine TL_gf (.bool false) rfl rfl rfl rfl rfl (by decide) ?_
              refine TL_gf (.bool false) rfl rfl rfl rfl rfl (by decide) ?_
              refine TL_gf (.bool false) rfl rfl rfl rfl rfl (by decide) ?_
              refine TL_ev env 2 rfl ⟨⟨tv, ⟨fun e => e, tv⟩⟩, ⟨tv, tv⟩⟩ ?_
              refine TL_gf (.bool false) rfl rfl rfl rfl rfl (by decide) ?_
              refine TL_gf (.bool false) rfl rfl rfl rfl rfl (by decide) ?_
              refine TL_ev env 2 rfl ⟨⟨tv, ⟨fun e => e, tv⟩⟩, ⟨tv, tv⟩⟩ ?_
              refine TL_end ?_
              obtain rfl := sinj h1
              refine tsn ?_
              exact SP_ren [] _ rfl ⟨rfl, tv⟩ tv rfl
          · rintro x221 hz
            obtain rfl := hz.symm
            refine TE_go ?_
            refine TC_ret ?_
            obtain rfl := sinj h0
            exact TE_ret env rfl tv tv
    · refine TL_callB [(0, 500060), (1000, 500130)] (bank_Bank_Turn.ok1 hr) bank_Bank_Turn.fnb rfl ⟨tv, ⟨tv, ⟨tv, tv⟩⟩⟩ rfl ⟨.inr rfl, tv⟩ rfl ?_
      refine TL_end ?_
      refine TE_go ?_
      refine TC_seq ?_
      refine TC_reg ?_
      refine TL_ev env 1 rfl ⟨tv, tv⟩ ?_
      obtain ⟨z, hr, h0⟩ := bnd h0
      rcases z with r225 | ⟨r226, r227, r228, r229⟩
      · refine TL_callB [(0, 500060)] (bank_Bank_Slope.ok0 hr) bank_Bank_Slope.fnb rfl ⟨tv, ⟨tv, ⟨tv, tv⟩⟩⟩ rfl ⟨.inr rfl, tv⟩ rfl ?_
        refine TL_end ?_
        refine TE_go ?_
        refine TC_seq ?_
        refine TC_reg ?_
        refine TL_ev env 1 rfl ⟨tv, tv⟩ ?_
        obtain ⟨z, hr, h0⟩ := bnd h0
        rcases z with r230 | ⟨r231, r232, r233, r234⟩
        · refine TL_callB [(0, 500060)] (bank_Bank_Filter.ok0 hr) bank_Bank_Filter.fnb rfl ⟨tv, ⟨tv, ⟨tv, tv⟩⟩⟩ rfl ⟨.inr rfl, tv⟩ rfl ?_
          refine TL_ev env 5 rfl ⟨tv, ⟨tv, ⟨tv, ⟨tv, ⟨tv, tv⟩⟩⟩⟩⟩ ?_
          refine TL_end ?_
          refine TE_go ?_
          refine TC_seq ?_
          obtain ⟨z1, h1, h0⟩ := bnd h0
          refine TC_cut (α := Bool) (fun s => z1 = s) (fun s => [(0, .bool s)]) (fun s => []) ?_ ?_
          · refine TC_reg ?_
            refine TL_ev env 3 rfl ⟨tv, ⟨⟨tv, ⟨tv, tv⟩⟩, ⟨tv, tv⟩⟩⟩ ?_
            refine TL_gt rfl rfl rfl rfl ?_
            refine TL_ev env 1 rfl ⟨tv, tv⟩ ?_
            refine TL_gt rfl rfl rfl rfl ?_
            refine TL_ev env 1 rfl ⟨⟨tv, ⟨tv, ⟨tv, ⟨tv, tv⟩⟩⟩⟩, tv⟩ ?_
            refine TL_gt rfl rfl rfl rfl ?_
            refine TL_frz 500090 rfl ?_
            refine TL_frz 1025 rfl ?_
            obtain ⟨r238, hr, h1⟩ := bnd h1
            refine TL_callB [] (psalteryref04_Same_2.ok0 hr) psalteryref04_Same_2.fnb rfl ⟨tv, ⟨tv, ⟨tv, tv⟩⟩⟩ rfl tv rfl ?_
            refine TL_ev env 2 rfl ⟨⟨tv, ⟨tv, tv⟩⟩, ⟨tv, tv⟩⟩ ?_
            refine TL_split 28 rfl (fun hb => ?_) (fun hb => ?_)
            · replace h1 := bif_t h1 hb
              refine TL_gt rfl rfl rfl rfl ?_
              refine TL_ev env 1 rfl ⟨tv, tv⟩ ?_
              refine TL_gt rfl rfl rfl rfl ?_
              obtain ⟨⟨⟩, hr, h1⟩ := bnd h1
              refine TL_callB [(0, 500060)] (bank_Bank_Made.ok0 hr) bank_Bank_Made.fnb rfl ⟨tv, ⟨tv, tv⟩⟩ rfl ⟨.inr rfl, tv⟩ rfl ?_
              refine TL_gt rfl rfl rfl rfl ?_
              refine TL_ev env 3 rfl ⟨⟨tv, ⟨tv, tv⟩⟩, ⟨⟨tv, ⟨tv, tv⟩⟩, ⟨tv, tv⟩⟩⟩ ?_
              refine TL_split 33 rfl (fun hb => ?_) (fun hb => ?_)
              · replace h1 := bif_t h1 hb
                refine TL_gt rfl rfl rfl rfl ?_
                refine TL_ev env 1 rfl ⟨tv, tv⟩ ?_
                refine TL_gt rfl rfl rfl rfl ?_
                obtain ⟨⟨⟩, hr, h1⟩ := bnd h1
                refine TL_callB [(0, 500060)] (bank_Bank_Told.ok0 hr) bank_Bank_Told.fnb rfl ⟨tv, ⟨tv, tv⟩⟩ rfl ⟨.inr rfl, tv⟩ rfl ?_
                refine TL_gt rfl rfl rfl rfl ?_
                refine TL_ev env 7 rfl ⟨⟨tv, ⟨tv, tv⟩⟩, ⟨⟨tv, ⟨tv, tv⟩⟩, ⟨tv, ⟨fun eg => tv, ⟨fun eg => ⟨fun e => e, ⟨tv, tv⟩⟩, ⟨⟨tv, ⟨fun e => e, tv⟩⟩, ⟨tv, tv⟩⟩⟩⟩⟩⟩⟩ ?_
                refine TL_end ?_
                obtain rfl := sinj h1
                refine tsn ?_
                exact SP_ren [] _ rfl ⟨rfl, tv⟩ tv rfl
              · replace h1 := bif_f h1 hb
                refine TL_gf (.bool false) rfl rfl rfl rfl rfl (by decide) ?_
                refine TL_gf (.bool false) rfl rfl rfl rfl rfl (by decide) ?_
                refine TL_gf (.bool false) rfl rfl rfl rfl rfl (by decide) ?_
                refine TL_ev env 2 rfl ⟨⟨tv, ⟨fun e => e, tv⟩⟩, ⟨tv, tv⟩⟩ ?_
                refine TL_gf (.bool false) rfl rfl rfl rfl rfl (by decide) ?_
                refine TL_gf (.bool false) rfl rfl rfl rfl rfl (by decide) ?_
                refine TL_ev env 2 rfl ⟨⟨tv, ⟨fun e => e, tv⟩⟩, ⟨tv, tv⟩⟩ ?_
                refine TL_end ?_
                obtain rfl := sinj h1
                refine tsn ?_
                exact SP_ren [] _ rfl ⟨rfl, tv⟩ tv rfl
            · replace h1 := bif_f h1 hb
              refine TL_gf (.bool false) rfl rfl rfl rfl rfl (by decide) ?_
              refine TL_gf (.bool false) rfl rfl rfl rfl rfl (by decide) ?_
              refine TL_gf (.bool false) rfl rfl rfl rfl rfl (by decide) ?_
              refine TL_ev env 2 rfl ⟨⟨tv, ⟨fun e => e, tv⟩⟩, ⟨tv, tv⟩⟩ ?_
              refine TL_gf (.bool false) rfl rfl rfl rfl rfl (by decide) ?_
              refine TL_gf (.bool false) rfl rfl rfl rfl rfl (by decide) ?_
              refine TL_gf (.bool false) rfl rfl rfl rfl rfl (by decide) ?_
              refine TL_ev env 2 rfl ⟨⟨tv, ⟨fun e => e, tv⟩⟩, ⟨tv, tv⟩⟩ ?_
              refine TL_gf (.bool false) rfl rfl rfl rfl rfl (by decide) ?_
              refine TL_gf (.bool false) rfl rfl rfl rfl rfl (by decide) ?_
              refine TL_ev env 2 rfl ⟨⟨tv, ⟨fun e => e, tv⟩⟩, ⟨tv, tv⟩⟩ ?_
              refine TL_end ?_
              obtain rfl := sinj h1
              refine tsn ?_
              exact SP_ren [] _ rfl ⟨rfl, tv⟩ tv rfl
          · rintro x236 hz
            obtain rfl := hz.symm
            refine TE_go ?_
            refine TC_ret ?_
            obtain rfl := sinj h0
            exact TE_ret env rfl tv tv
        · refine TL_callB [(0, 500060), (1000, 500180)] (bank_Bank_Filter.ok1 hr) bank_Bank_Filter.fnb rfl ⟨tv, ⟨tv, ⟨tv, tv⟩⟩⟩ rfl ⟨.inr rfl, tv⟩ rfl ?_
          refine TL_ev env 5 rfl ⟨tv, ⟨tv, ⟨tv, ⟨tv, ⟨tv, tv⟩⟩⟩⟩⟩ ?_
          refine TL_end ?_
          refine TE_go ?_
          refine TC_seq ?_
          obtain ⟨z1, h1, h0⟩ := bnd h0
          refine TC_cut (α := Bool) (fun s => z1 = s) (fun s => [(0, .bool s)]) (fun s => []) ?_ ?_
          · refine TC_reg ?_
            refine TL_ev env 3 rfl ⟨tv, ⟨⟨tv, ⟨tv, tv⟩⟩, ⟨tv, tv⟩⟩⟩ ?_
            refine TL_gt rfl rfl rfl rfl ?_
            refine TL_ev env 1 rfl ⟨tv, tv⟩ ?_
            refine TL_gt rfl rfl rfl rfl ?_
            refine TL_ev env 1 rfl ⟨⟨tv, ⟨tv, ⟨tv, ⟨tv, tv⟩⟩⟩⟩, tv⟩ ?_
            refine TL_gt rfl rfl rfl rfl ?_
            refine TL_frz 500090 rfl ?_
            refine TL_frz 1025 rfl ?_
            obtain ⟨r243, hr, h1⟩ := bnd h1
            refine TL_callB [] (psalteryref04_Same_2.ok0 hr) psalteryref04_Same_2.fnb rfl ⟨tv, ⟨tv, ⟨tv, tv⟩⟩⟩ rfl tv rfl ?_
            refine TL_ev env 2 rfl ⟨⟨tv, ⟨tv, tv⟩⟩, ⟨tv, tv⟩⟩ ?_
            refine TL_split 28 rfl (fun hb => ?_) (fun hb => ?_)
            · replace h1 := bif_t h1 hb
              refine TL_gt rfl rfl rfl rfl ?_
              refine TL_ev env 1 rfl ⟨tv, tv⟩ ?_
              refine TL_gt rfl rfl rfl rfl ?_
              obtain ⟨⟨⟩, hr, h1⟩ := bnd h1
              refine TL_callB [(0, 500060)] (bank_Bank_Made.ok0 hr) bank_Bank_Made.fnb rfl ⟨tv, ⟨tv, tv⟩⟩ rfl ⟨.inr rfl, tv⟩ rfl ?_
              refine TL_gt rfl rfl rfl rfl ?_
              refine TL_ev env 3 rfl ⟨⟨tv, ⟨tv, tv⟩⟩, ⟨⟨tv, ⟨tv, tv⟩⟩, ⟨tv, tv⟩⟩⟩ ?_
              refine TL_split 33 rfl (fun hb => ?_) (fun hb => ?_)
              · replace h1 := bif_t h1 hb
                refine TL_gt rfl rfl rfl rfl ?_
                refine TL_ev env 1 rfl ⟨tv, tv⟩ ?_
                refine TL_gt rfl rfl rfl rfl ?_
                obtain ⟨⟨⟩, hr, h1⟩ := bnd h1
                refine TL_callB [(0, 500060)] (bank_Bank_Told.ok0 hr) bank_Bank_Told.fnb rfl ⟨tv, ⟨tv, tv⟩⟩ rfl ⟨.inr rfl, tv⟩ rfl ?_
                refine TL_gt rfl rfl rfl rfl ?_
                refine TL_ev env 7 rfl ⟨⟨tv, ⟨tv, tv⟩⟩, ⟨⟨tv, ⟨tv, tv⟩⟩, ⟨tv, ⟨fun eg => tv, ⟨fun eg => ⟨fun e => e, ⟨tv, tv⟩⟩, ⟨⟨tv, ⟨fun e => e, tv⟩⟩, ⟨tv, tv⟩⟩⟩⟩⟩⟩⟩ ?_
                refine TL_end ?_
                obtain rfl := sinj h1
                refine tsn ?_
                exact SP_ren [] _ rfl ⟨rfl, tv⟩ tv rfl
              · replace h1 := bif_f h1 hb
                refine TL_gf (.bool false) rfl rfl rfl rfl rfl (by decide) ?_
                refine TL_gf (.bool false) rfl rfl rfl rfl rfl (by decide) ?_
                refine TL_gf (.bool false) rfl rfl rfl rfl rfl (by decide) ?_
                refine TL_ev env 2 rfl ⟨⟨tv, ⟨fun e => e, tv⟩⟩, ⟨tv, tv⟩⟩ ?_
                refine TL_gf (.bool false) rfl rfl rfl rfl rfl (by decide) ?_
                refine TL_gf (.bool false) rfl rfl rfl rfl rfl (by decide) ?_
                refine TL_ev env 2 rfl ⟨⟨tv, ⟨fun e => e, tv⟩⟩, ⟨tv, tv⟩⟩ ?_
                refine TL_end ?_
                obtain rfl := sinj h1
                refine tsn ?_
                exact SP_ren [] _ rfl ⟨rfl, tv⟩ tv rfl
            · replace h1 := bif_f h1 hb
              refine TL_gf (.bool false) rfl rfl rfl rfl rfl (by decide) ?_
              refine TL_gf (.bool false) rfl rfl rfl rfl rfl (by decide) ?_
              refine TL_gf (.bool false) rfl rfl rfl rfl rfl (by decide) ?_
              refine TL_ev env 2 rfl ⟨⟨tv, ⟨fun e => e, tv⟩⟩, ⟨tv, tv⟩⟩ ?_
              refine TL_gf (.bool false) rfl rfl rfl rfl rfl (by decide) ?_
              refine TL_gf (.bool false) rfl rfl rfl rfl rfl (by decide) ?_
              refine TL_gf (.bool false) rfl rfl rfl rfl rfl (by decide) ?_
              refine TL_ev env 2 rfl ⟨⟨tv, ⟨fun e => e, tv⟩⟩, ⟨tv, tv⟩⟩ ?_
              refine TL_gf (.bool false) rfl rfl rfl rfl rfl (by decide) ?_
              refine TL_gf (.bool false) rfl rfl rfl rfl rfl (by decide) ?_
              refine TL_ev env 2 rfl ⟨⟨tv, ⟨fun e => e, tv⟩⟩, ⟨tv, tv⟩⟩ ?_
              refine TL_end ?_
              obtain rfl := sinj h1
              refine tsn ?_
              exact SP_ren [] _ rfl ⟨rfl, tv⟩ tv rfl
          · rintro x241 hz
            obtain rfl := hz.symm
            refine TE_go ?_
            refine TC_ret ?_
            obtain rfl := sinj h0
            exact TE_ret env rfl tv tv
      · refine TL_callB [(0, 500060), (1000, 500150)] (bank_Bank_Slope.ok1 hr) bank_Bank_Slope.fnb rfl ⟨tv, ⟨tv, ⟨tv, tv⟩⟩⟩ rfl ⟨.inr rfl, tv⟩ rfl ?_
        refine TL_end ?_
        refine TE_go ?_
        refine TC_seq ?_
        refine TC_reg ?_
        refine TL_ev env 1 rfl ⟨tv, tv⟩ ?_
        obtain ⟨z, hr, h0⟩ := bnd h0
        rcases z with r245 | ⟨r246, r247, r248, r249⟩
        · refine TL_callB [(0, 500060)] (bank_Bank_Filter.ok0 hr) bank_Bank_Filter.fnb rfl ⟨tv, ⟨tv, ⟨tv, tv⟩⟩⟩ rfl ⟨.inr rfl, tv⟩ rfl ?_
          refine TL_ev env 5 rfl ⟨tv, ⟨tv, ⟨tv, ⟨tv, ⟨tv, tv⟩⟩⟩⟩⟩ ?_
          refine TL_end ?_
          refine TE_go ?_
          refine TC_seq ?_
          obtain ⟨z1, h1, h0⟩ := bnd h0
          refine TC_cut (α := Bool) (fun s => z1 = s) (fun s => [(0, .bool s)]) (fun s => []) ?_ ?_
          · refine TC_reg ?_
            refine TL_ev env 3 rfl ⟨tv, ⟨⟨tv, ⟨tv, tv⟩⟩, ⟨tv, tv⟩⟩⟩ ?_
            refine TL_gt rfl rfl rfl rfl ?_
            refine TL_ev env 1 rfl ⟨tv, tv⟩ ?_
            refine TL_gt rfl rfl rfl rfl ?_
            refine TL_ev env 1 rfl ⟨⟨tv, ⟨tv, ⟨tv, ⟨tv, tv⟩⟩⟩⟩, tv⟩ ?_
            refine TL_gt rfl rfl rfl rfl ?_
            refine TL_frz 500090 rfl ?_
            refine TL_frz 1025 rfl ?_
            obtain ⟨r253, hr, h1⟩ := bnd h1
            refine TL_callB [] (psalteryref04_Same_2.ok0 hr) psalteryref04_Same_2.fnb rfl ⟨tv, ⟨tv, ⟨tv, tv⟩⟩⟩ rfl tv rfl ?_
            refine TL_ev env 2 rfl ⟨⟨tv, ⟨tv, tv⟩⟩, ⟨tv, tv⟩⟩ ?_
            refine TL_split 28 rfl (fun hb => ?_) (fun hb => ?_)
            · replace h1 := bif_t h1 hb
              refine TL_gt rfl rfl rfl rfl ?_
              refine TL_ev env 1 rfl ⟨tv, tv⟩ ?_
              refine TL_gt rfl rfl rfl rfl ?_
              obtain ⟨⟨⟩, hr, h1⟩ := bnd h1
              refine TL_callB [(0, 500060)] (bank_Bank_Made.ok0 hr) bank_Bank_Made.fnb rfl ⟨tv, ⟨tv, tv⟩⟩ rfl ⟨.inr rfl, tv⟩ rfl ?_
              refine TL_gt rfl rfl rfl rfl ?_
              refine TL_ev env 3 rfl ⟨⟨tv, ⟨tv, tv⟩⟩, ⟨⟨tv, ⟨tv, tv⟩⟩, ⟨tv, tv⟩⟩⟩ ?_
              refine TL_split 33 rfl (fun hb => ?_) (fun hb => ?_)
              · replace h1 := bif_t h1 hb
                refine TL_gt rfl rfl rfl rfl ?_
                refine TL_ev env 1 rfl ⟨tv, tv⟩ ?_
                refine TL_gt rfl rfl rfl rfl ?_
                obtain ⟨⟨⟩, hr, h1⟩ := bnd h1
                refine TL_callB [(0, 500060)] (bank_Bank_Told.ok0 hr) bank_Bank_Told.fnb rfl ⟨tv, ⟨tv, tv⟩⟩ rfl ⟨.inr rfl, tv⟩ rfl ?_
                refine TL_gt rfl rfl rfl rfl ?_
                refine TL_ev env 7 rfl ⟨⟨tv, ⟨tv, tv⟩⟩, ⟨⟨tv, ⟨tv, tv⟩⟩, ⟨tv, ⟨fun eg => tv, ⟨fun eg => ⟨fun e => e, ⟨tv, tv⟩⟩, ⟨⟨tv, ⟨fun e => e, tv⟩⟩, ⟨tv, tv⟩⟩⟩⟩⟩⟩⟩ ?_
                refine TL_end ?_
                obtain rfl := sinj h1
                refine tsn ?_
                exact SP_ren [] _ rfl ⟨rfl, tv⟩ tv rfl
              · replace h1 := bif_f h1 hb
                refine TL_gf (.bool false) rfl rfl rfl rfl rfl (by decide) ?_
                refine TL_gf (.bool false) rfl rfl rfl rfl rfl (by decide) ?_
                refine TL_gf (.bool false) rfl rfl rfl rfl rfl (by decide) ?_
                refine TL_ev env 2 rfl ⟨⟨tv, ⟨fun e => e, tv⟩⟩, ⟨tv, tv⟩⟩ ?_
                refine TL_gf (.bool false) rfl rfl rfl rfl rfl (by decide) ?_
                refine TL_gf (.bool false) rfl rfl rfl rfl rfl (by decide) ?_
                refine TL_ev env 2 rfl ⟨⟨tv, ⟨fun e => e, tv⟩⟩, ⟨tv, tv⟩⟩ ?_
                refine TL_end ?_
                obtain rfl := sinj h1
                refine tsn ?_
                exact SP_ren [] _ rfl ⟨rfl, tv⟩ tv rfl
            · replace h1 := bif_f h1 hb
              refine TL_gf (.bool false) rfl rfl rfl rfl rfl (by decide) ?_
              refine TL_gf (.bool false) rfl rfl rfl rfl rfl (by decide) ?_
              refine TL_gf (.bool false) rfl rfl rfl rfl rfl (by decide) ?_
              refine TL_ev env 2 rfl ⟨⟨tv, ⟨fun e => e, tv⟩⟩, ⟨tv, tv⟩⟩ ?_
              refine TL_gf (.bool false) rfl rfl rfl rfl rfl (by decide) ?_
              refine TL_gf (.bool false) rfl rfl rfl rfl rfl (by decide) ?_
              refine TL_gf (.bool false) rfl rfl rfl rfl rfl (by decide) ?_
              refine TL_ev env 2 rfl ⟨⟨tv, ⟨fun e => e, tv⟩⟩, ⟨tv, tv⟩⟩ ?_
              refine TL_gf (.bool false) rfl rfl rfl rfl rfl (by decide) ?_
              refine TL_gf (.bool false) rfl rfl rfl rfl rfl (by decide) ?_
              refine TL_ev env 2 rfl ⟨⟨tv, ⟨fun e => e, tv⟩⟩, ⟨tv, tv⟩⟩ ?_
              refine TL_end ?_
              obtain rfl := sinj h1
              refine tsn ?_
              exact SP_ren [] _ rfl ⟨rfl, tv⟩ tv rfl
          · rintro x251 hz
            obtain rfl := hz.symm
            refine TE_go ?_
            refine TC_ret ?_
            obtain rfl := sinj h0
            exact TE_ret env rfl tv tv
        · refine TL_callB [(0, 500060), (1000, 500180)] (bank_Bank_Filter.ok1 hr) bank_Bank_Filter.fnb rfl ⟨tv, ⟨tv, ⟨tv, tv⟩⟩⟩ rfl ⟨.inr rfl, tv⟩ rfl ?_
          refine TL_ev env 5 rfl ⟨tv, ⟨tv, ⟨tv, ⟨tv, ⟨tv, tv⟩⟩⟩⟩⟩ ?_
          refine TL_end ?_
          refine TE_go ?_
          refine TC_seq ?_
          obtain ⟨z1, h1, h0⟩ := bnd h0
          refine TC_cut (α := Bool) (fun s => z1 = s) (fun s => [(0, .bool s)]) (fun s => []) ?_ ?_
          · refine TC_reg ?_
            refine TL_ev env 3 rfl ⟨tv, ⟨⟨tv, ⟨tv, tv⟩⟩, ⟨tv, tv⟩⟩⟩ ?_
            refine TL_gt rfl rfl rfl rfl ?_
            refine TL_ev env 1 rfl ⟨tv, tv⟩ ?_
            refine TL_gt rfl rfl rfl rfl ?_
            refine TL_ev env 1 rfl ⟨⟨tv, ⟨tv, ⟨tv, ⟨tv, tv⟩⟩⟩⟩, tv⟩ ?_
            refine TL_gt rfl rfl rfl rfl ?_
            refine TL_frz 500090 rfl ?_
            refine TL_frz 1025 rfl ?_
            obtain ⟨r258, hr, h1⟩ := bnd h1
            refine TL_callB [] (psalteryref04_Same_2.ok0 hr) psalteryref04_Same_2.fnb rfl ⟨tv, ⟨tv, ⟨tv, tv⟩⟩⟩ rfl tv rfl ?_
            refine TL_ev env 2 rfl ⟨⟨tv, ⟨tv, tv⟩⟩, ⟨tv, tv⟩⟩ ?_
            refine TL_split 28 rfl (fun hb => ?_) (fun hb => ?_)
            · replace h1 := bif_t h1 hb
              refine TL_gt rfl rfl rfl rfl ?_
              refine TL_ev env 1 rfl ⟨tv, tv⟩ ?_
              refine TL_gt rfl rfl rfl rfl ?_
              obtain ⟨⟨⟩, hr, h1⟩ := bnd h1
              refine TL_callB [(0, 500060)] (bank_Bank_Made.ok0 hr) bank_Bank_Made.fnb rfl ⟨tv, ⟨tv, tv⟩⟩ rfl ⟨.inr rfl, tv⟩ rfl ?_
              refine TL_gt rfl rfl rfl rfl ?_
              refine TL_ev env 3 rfl ⟨⟨tv, ⟨tv, tv⟩⟩, ⟨⟨tv, ⟨tv, tv⟩⟩, ⟨tv, tv⟩⟩⟩ ?_
              refine TL_split 33 rfl (fun hb => ?_) (fun hb => ?_)
              · replace h1 := bif_t h1 hb
                refine TL_gt rfl rfl rfl rfl ?_
                refine TL_ev env 1 rfl ⟨tv, tv⟩ ?_
                refine TL_gt rfl rfl rfl rfl ?_
                obtain ⟨⟨⟩, hr, h1⟩ := bnd h1
                refine TL_callB [(0, 500060)] (bank_Bank_Told.ok0 hr) bank_Bank_Told.fnb rfl ⟨tv, ⟨tv, tv⟩⟩ rfl ⟨.inr rfl, tv⟩ rfl ?_
                refine TL_gt rfl rfl rfl rfl ?_
                refine TL_ev env 7 rfl ⟨⟨tv, ⟨tv, tv⟩⟩, ⟨⟨tv, ⟨tv, tv⟩⟩, ⟨tv, ⟨fun eg => tv, ⟨fun eg => ⟨fun e => e, ⟨tv, tv⟩⟩, ⟨⟨tv, ⟨fun e => e, tv⟩⟩, ⟨tv, tv⟩⟩⟩⟩⟩⟩⟩ ?_
                refine TL_end ?_
                obtain rfl := sinj h1
                refine tsn ?_
                exact SP_ren [] _ rfl ⟨rfl, tv⟩ tv rfl
              · replace h1 := bif_f h1 hb
                refine TL_gf (.bool false) rfl rfl rfl rfl rfl (by decide) ?_
                refine TL_gf (.bool false) rfl rfl rfl rfl rfl (by decide) ?_
                refine TL_gf (.bool false) rfl rfl rfl rfl rfl (by decide) ?_
                refine TL_ev env 2 rfl ⟨⟨tv, ⟨fun e => e, tv⟩⟩, ⟨tv, tv⟩⟩ ?_
                refine TL_gf (.bool false) rfl rfl rfl rfl rfl (by decide) ?_
                refine TL_gf (.bool false) rfl rfl rfl rfl rfl (by decide) ?_
                refine TL_ev env 2 rfl ⟨⟨tv, ⟨fun e => e, tv⟩⟩, ⟨tv, tv⟩⟩ ?_
                refine TL_end ?_
                obtain rfl := sinj h1
                refine tsn ?_
                exact SP_ren [] _ rfl ⟨rfl, tv⟩ tv rfl
            · replace h1 := bif_f h1 hb
              refine TL_gf (.bool false) rfl rfl rfl rfl rfl (by decide) ?_
              refine TL_gf (.bool false) rfl rfl rfl rfl rfl (by decide) ?_
              refine TL_gf (.bool false) rfl rfl rfl rfl rfl (by decide) ?_
              refine TL_ev env 2 rfl ⟨⟨tv, ⟨fun e => e, tv⟩⟩, ⟨tv, tv⟩⟩ ?_
              refine TL_gf (.bool false) rfl rfl rfl rfl rfl (by decide) ?_
              refine TL_gf (.bool false) rfl rfl rfl rfl rfl (by decide) ?_
              refine TL_gf (.bool false) rfl rfl rfl rfl rfl (by decide) ?_
              refine TL_ev env 2 rfl ⟨⟨tv, ⟨fun e => e, tv⟩⟩, ⟨tv, tv⟩⟩ ?_
              refine TL_gf (.bool false) rfl rfl rfl rfl rfl (by decide) ?_
              refine TL_gf (.bool false) rfl rfl rfl rfl rfl (by decide) ?_
              refine TL_ev env 2 rfl ⟨⟨tv, ⟨fun e => e, tv⟩⟩, ⟨tv, tv⟩⟩ ?_
              refine TL_end ?_
              obtain rfl := sinj h1
              refine tsn ?_
              exact SP_ren [] _ rfl ⟨rfl, tv⟩ tv rfl
          · rintro x256 hz
            obtain rfl := hz.symm
            refine TE_go ?_
            refine TC_ret ?_
            obtain rfl := sinj h0
            exact TE_ret env rfl tv tv
theorem psalterylaw04_alive.ok0 {K : Nat}  {q0 : Bool} (h0 : psalterylaw04_alive K  = some q0) : Fn Try.prog 58 [] [] (.bool q0) [] := psalterylaw04_alive.ok h0
theorem psalterylaw04_alive.fnb : fnb Try.prog 58 = true := fnb_of Try.func58 rfl
def psalteryref03_part.res (_p0 : Int) (_p1 : Int) : Int → MV
  | q0 => .int .i64 q0
def psalteryref03_part.out (_p0 : Int) (_p1 : Int) : Int → List (Nat × Option MObj)
  | _ => []
theorem psalteryref03_part.ok {K : Nat} {p0 : Int} {p1 : Int} {r : Int} (h0 : psalteryref03_part K p0 p1 = some r) : Fn Try.prog 181 [.int .i64 p0, .int .i64 p1] [] (psalteryref03_part.res p0 p1 r) (psalteryref03_part.out p0 p1 r) := by
  refine Fn_of Try.func181 rfl (Nat.le_of_ble_eq_true rfl) fun Γ => ?_
  refine TC_seq ?_
  refine TC_reg ?_
  refine TL_ev env 1 rfl ⟨tv, tv⟩ ?_
  refine TL_end ?_
  refine TE_go ?_
  refine TC_seq ?_
  refine TC_reg ?_
  refine TL_ev env 5 rfl ⟨tv, ⟨tv, ⟨⟨tv, ⟨tv, tv⟩⟩, ⟨⟨tv, ⟨tv, (by decide)⟩⟩, ⟨tv, tv⟩⟩⟩⟩⟩ ?_
  refine TL_end ?_
  refine TE_go ?_
  refine TC_ret ?_
  obtain rfl := sinj h0
  exact TE_ret env rfl tv tv
theorem psalteryref03_part.ok0 {K : Nat} {p0 : Int} {p1 : Int} {q0 : Int} (h0 : psalteryref03_part K p0 p1 = some q0) : Fn Try.prog 181 [.int .i64 p0, .int .i64 p1] [] (.int .i64 q0) [] := psalteryref03_part.ok h0
theorem psalteryref03_part.fnb : fnb Try.prog 181 = true := fnb_of Try.func181 rfl
def psalteryref01_down.res (_p0 : Int) (_p1 : Int) : Int → MV
  | q0 => .int .i64 q0
def psalteryref01_down.out (_p0 : Int) (_p1 : Int) : Int → List (Nat × Option MObj)
  | _ => []
theorem psalteryref01_down.ok {K : Nat} {p0 : Int} {p1 : Int} {r : Int} (h0 : psalteryref01_down K p0 p1 = some r) : Fn Try.prog 171 [.int .i64 p0, .int .i64 p1] [] (psalteryref01_down.res p0 p1 r) (psalteryref01_down.out p0 p1 r) := by
  refine Fn_of Try.func171 rfl (Nat.le_of_ble_eq_true rfl) fun Γ => ?_
  refine TC_seq ?_
  refine TC_reg ?_
  refine TL_ev env 1 rfl ⟨tv, tv⟩ ?_
  refine TL_end ?_
  refine TE_go ?_
  refine TC_seq ?_
  refine TC_reg ?_
  obtain ⟨g, h0⟩ := gd_t h0
  refine TL_ev env 4 rfl ⟨tv, ⟨tv, ⟨⟨tv, ⟨tv, g⟩⟩, ⟨tv, tv⟩⟩⟩⟩ ?_
  refine TL_end ?_
  refine TE_go ?_
  refine TC_seq ?_
  refine TC_seq ?_
  refine TC_reg ?_
  obtain ⟨g, h0⟩ := gd_t h0
  refine TL_ev env 4 rfl ⟨tv, ⟨tv, ⟨⟨tv, ⟨tv, g⟩⟩, ⟨⟨tv, ⟨tv, tv⟩⟩, tv⟩⟩⟩⟩ ?_
  refine TL_end ?_
  refine TE_go ?_
  obtain ⟨z1, h1, h0⟩ := bnd h0
  refine TC_cut (α := Int) (fun s => z1 = s) (fun s => [(5, .int .i64 s)]) (fun s => []) ?_ ?_
  · refine TC_cond rfl (fun hb => ?_) (fun hb => ?_)
    · replace h1 := bif_t h1 hb
      refine TC_reg ?_
      refine TL_ev env 3 rfl ⟨tv, ⟨⟨tv, ⟨tv, tv⟩⟩, ⟨tv, tv⟩⟩⟩ ?_
      refine TL_end ?_
      obtain rfl := sinj h1
      refine tsn ?_
      exact SP_ren [] _ rfl ⟨rfl, tv⟩ tv rfl
    · replace h1 := bif_f h1 hb
      refine TC_skip ?_
      obtain rfl := sinj h1
      refine tsn ?_
      exact SP_ren [] _ rfl ⟨rfl, tv⟩ tv rfl
  · rintro x5 hz
    obtain rfl := hz.symm
    refine TE_go ?_
    refine TC_seq ?_
    refine TC_reg ?_
    refine TL_ev env 2 rfl ⟨tv, ⟨tv, tv⟩⟩ ?_
    refine TL_end ?_
    refine TE_go ?_
    refine TC_ret ?_
    obtain rfl := sinj h0
    exact TE_ret env rfl tv tv
theorem psalteryref01_down.ok0 {K : Nat} {p0 : Int} {p1 : Int} {q0 : Int} (h0 : psalteryref01_down K p0 p1 = some q0) : Fn Try.prog 171 [.int .i64 p0, .int .i64 p1] [] (.int .i64 q0) [] := psalteryref01_down.ok h0
theorem psalteryref01_down.fnb : fnb Try.prog 171 = true := fnb_of Try.func171 rfl
def psalteryref01_Round.res (_p0 : Int) (_p1 : Int) : Int → MV
  | q0 => .int .i64 q0
def psalteryref01_Round.out (_p0 : Int) (_p1 : Int) : Int → List (Nat × Option MObj)
  | _ => []
theorem psalteryref01_Round.ok {K : Nat} {p0 : Int} {p1 : Int} {r : Int} (h0 : psalteryref01_Round K p0 p1 = some r) : Fn Try.prog 147 [.int .i64 p0, .int .i64 p1] [] (psalteryref01_Round.res p0 p1 r) (psalteryref01_Round.out p0 p1 r) := by
  refine Fn_of Try.func147 rfl (Nat.le_of_ble_eq_true rfl) fun Γ => ?_
  refine TC_seq ?_
  refine TC_reg ?_
  refine TL_ev env 1 rfl ⟨tv, tv⟩ ?_
  refine TL_end ?_
  refine TE_go ?_
  refine TC_seq ?_
  refine TC_reg ?_
  refine TL_ev env 4 rfl ⟨tv, ⟨⟨tv, ⟨tv, tv⟩⟩, ⟨⟨tv, ⟨tv, tv⟩⟩, ⟨tv, tv⟩⟩⟩⟩ ?_
  refine TL_end ?_
  refine TE_go ?_
  refine TC_seq ?_
  refine TC_seq ?_
  refine TC_reg ?_
  refine TL_ev env 2 rfl ⟨tv, ⟨⟨tv, ⟨tv, tv⟩⟩, tv⟩⟩ ?_
  refine TL_end ?_
  refine TE_go ?_
  refine TC_cond rfl (fun hb => ?_) (fun hb => ?_)
  · replace h0 := bif_t h0 hb
    refine TC_seq ?_
    refine TC_reg ?_
    refine TL_ev env 2 rfl ⟨tv, ⟨tv, tv⟩⟩ ?_
    refine TL_end ?_
    refine TE_go ?_
    refine TC_ret ?_
    refine tsr ?_
    obtain rfl := sinj h0
    exact TE_ret env rfl tv tv
  · replace h0 := bif_f h0 hb
    refine TC_skip ?_
    refine TE_go ?_
    refine TC_seq ?_
    refine TC_reg ?_
    obtain ⟨g, h0⟩ := gd_t h0
    refine TL_ev env 5 rfl ⟨tv, ⟨⟨tv, ⟨tv, tv⟩⟩, ⟨tv, ⟨⟨tv, ⟨tv, g⟩⟩, ⟨tv, tv⟩⟩⟩⟩⟩ ?_
    refine TL_end ?_
    refine TE_go ?_
    refine TC_seq ?_
    refine TC_reg ?_
    refine TL_ev env 2 rfl ⟨tv, ⟨tv, tv⟩⟩ ?_
    obtain ⟨r7, hr, h0⟩ := bnd h0
    refine TL_callB [] (psalteryref01_down.ok0 hr) psalteryref01_down.fnb rfl ⟨tv, ⟨tv, ⟨tv, tv⟩⟩⟩ rfl tv rfl ?_
    refine TL_ev env 1 rfl ⟨⟨tv, ⟨tv, tv⟩⟩, tv⟩ ?_
    obtain ⟨r9, hr, h0⟩ := bnd h0
    refine TL_callB [] (psalteryref01_down.ok0 hr) psalteryref01_down.fnb rfl ⟨tv, ⟨tv, ⟨tv, tv⟩⟩⟩ rfl tv rfl ?_
    refine TL_ev env 1 rfl ⟨tv, tv⟩ ?_
    refine TL_end ?_
    refine TE_go ?_
    refine TC_ret ?_
    obtain rfl := sinj h0
    exact TE_ret env rfl tv tv
theorem psalteryref01_Round.ok0 {K : Nat} {p0 : Int} {p1 : Int} {q0 : Int} (h0 : psalteryref01_Round K p0 p1 = some q0) : Fn Try.prog 147 [.int .i64 p0, .int .i64 p1] [] (.int .i64 q0) [] := psalteryref01_Round.ok h0
theorem psalteryref01_Round.fnb : fnb Try.prog 147 = true := fnb_of Try.func147 rfl
def psalteryref03_signed.res (_p0 : Int) (_p1 : Int) (_p2 : Bool) : Int → MV
  | q0 => .int .i16 q0
def psalteryref03_signed.out (_p0 : Int) (_p1 : Int) (_p2 : Bool) : Int → List (Nat × Option MObj)
  | _ => []
theorem psalteryref03_signed.ok {K : Nat} {p0 : Int} {p1 : Int} {p2 : Bool} {r : Int} (h0 : psalteryref03_signed K p0 p1 p2 = some r) : Fn Try.prog 170 [.int .i64 p0, .int .i64 p1, .bool p2] [] (psalteryref03_signed.res p0 p1 p2 r) (psalteryref03_signed.out p0 p1 p2 r) := by
  refine Fn_of Try.func170 rfl (Nat.le_of_ble_eq_true rfl) fun Γ => ?_
  refine TC_seq ?_
  refine TC_reg ?_
  refine TL_ev env 1 rfl ⟨tv, tv⟩ ?_
  refine TL_end ?_
  refine TE_go ?_
  refine TC_seq ?_
  refine TC_reg ?_
  refine TL_ev env 3 rfl ⟨tv, ⟨⟨tv, ⟨tv, tv⟩⟩, ⟨tv, tv⟩⟩⟩ ?_
  refine TL_end ?_
  refine TE_go ?_
  refine TC_seq ?_
  refine TC_seq ?_
  refine TC_reg ?_
  refine TL_ev env 3 rfl ⟨tv, ⟨tv, ⟨⟨tv, ⟨tv, tv⟩⟩, tv⟩⟩⟩ ?_
  refine TL_end ?_
  refine TE_go ?_
  obtain ⟨z1, h1, h0⟩ := bnd h0
  refine TC_cut (α := Int) (fun s => z1 = s) (fun s => [(1, .int .i64 p1), (2, .bool p2), (7, .int .i64 s)]) (fun s => []) ?_ ?_
  · refine TC_cond rfl (fun hb => ?_) (fun hb => ?_)
    · replace h1 := bif_t h1 hb
      refine TC_reg ?_
      refine TL_ev env 5 rfl ⟨tv, ⟨⟨tv, ⟨tv, tv⟩⟩, ⟨tv, ⟨⟨tv, ⟨tv, tv⟩⟩, ⟨tv, tv⟩⟩⟩⟩⟩ ?_
      refine TL_end ?_
      obtain rfl := sinj h1
      refine tsn ?_
      exact SP_ren [] _ rfl ⟨rfl, rfl, rfl, tv⟩ tv rfl
    · replace h1 := bif_f h1 hb
      refine TC_skip ?_
      obtain rfl := sinj h1
      refine tsn ?_
      exact SP_ren [] _ rfl ⟨rfl, rfl, rfl, tv⟩ tv rfl
  · rintro x12 hz
    obtain rfl := hz.symm
    refine TE_go ?_
    refine TC_seq ?_
    refine TC_reg ?_
    obtain ⟨g, h0⟩ := gd_t h0
    refine TL_ev env 5 rfl ⟨tv, ⟨⟨tv, ⟨tv, tv⟩⟩, ⟨tv, ⟨⟨tv, ⟨tv, g⟩⟩, ⟨tv, tv⟩⟩⟩⟩⟩ ?_
    refine TL_end ?_
    refine TE_go ?_
    refine TC_seq ?_
    refine TC_reg ?_
    refine TL_ev env 2 rfl ⟨tv, ⟨tv, tv⟩⟩ ?_
    obtain ⟨r15, hr, h0⟩ := bnd h0
    refine TL_callB [] (psalteryref03_part.ok0 hr) psalteryref03_part.fnb rfl ⟨tv, ⟨tv, ⟨tv, tv⟩⟩⟩ rfl tv rfl ?_
    refine TL_ev env 1 rfl ⟨tv, tv⟩ ?_
    refine TL_end ?_
    refine TE_go ?_
    refine TC_seq ?_
    refine TC_reg ?_
    refine TL_ev env 1 rfl ⟨tv, tv⟩ ?_
    obtain ⟨r16, hr, h0⟩ := bnd h0
    refine TL_callB [] (psalteryref03_part.ok0 hr) psalteryref03_part.fnb rfl ⟨tv, ⟨tv, ⟨tv, tv⟩⟩⟩ rfl tv rfl ?_
    refine TL_ev env 2 rfl ⟨⟨tv, ⟨tv, tv⟩⟩, ⟨tv, tv⟩⟩ ?_
    obtain ⟨r18, hr, h0⟩ := bnd h0
    refine TL_callB [] (psalteryref03_part.ok0 hr) psalteryref03_part.fnb rfl ⟨tv, ⟨tv, ⟨tv, tv⟩⟩⟩ rfl tv rfl ?_
    refine TL_ev env 2 rfl ⟨⟨tv, ⟨tv, tv⟩⟩, ⟨tv, tv⟩⟩ ?_
    obtain ⟨r20, hr, h0⟩ := bnd h0
    refine TL_callB [] (psalteryref03_part.ok0 hr) psalteryref03_part.fnb rfl ⟨tv, ⟨tv, ⟨tv, tv⟩⟩⟩ rfl tv rfl ?_
    refine TL_ev env 2 rfl ⟨⟨tv, ⟨tv, tv⟩⟩, ⟨tv, tv⟩⟩ ?_
    obtain ⟨r22, hr, h0⟩ := bnd h0
    refine TL_callB [] (psalteryref03_part.ok0 hr) psalteryref03_part.fnb rfl ⟨tv, ⟨tv, ⟨tv, tv⟩⟩⟩ rfl tv rfl ?_
    refine TL_ev env 2 rfl ⟨⟨tv, ⟨tv, tv⟩⟩, ⟨tv, tv⟩⟩ ?_
    refine TL_end ?_
    refine TE_go ?_
    refine TC_seq ?_
    refine TC_reg ?_
    refine TL_ev env 2 rfl ⟨tv, ⟨tv, tv⟩⟩ ?_
    obtain ⟨r24, hr, h0⟩ := bnd h0
    refine TL_callB [] (psalteryref03_part.ok0 hr) psalteryref03_part.fnb rfl ⟨tv, ⟨tv, ⟨tv, tv⟩⟩⟩ rfl tv rfl ?_
    obtain ⟨r25, hr, h0⟩ := bnd h0
    refine TL_callB [] (psalteryref01_Round.ok0 hr) psalteryref01_Round.fnb rfl ⟨tv, ⟨tv, ⟨tv, tv⟩⟩⟩ rfl tv rfl ?_
    refine TL_ev env 1 rfl ⟨tv, tv⟩ ?_
    refine TL_end ?_
    refine TE_go ?_
    refine TC_seq ?_
    refine TC_seq ?_
    refine TC_reg ?_
    refine TL_ev env 2 rfl ⟨tv, ⟨⟨tv, ⟨tv, tv⟩⟩, tv⟩⟩ ?_
    refine TL_end ?_
    refine TE_go ?_
    obtain ⟨z1, h1, h0⟩ := bnd h0
    refine TC_cut (α := Int) (fun s => z1 = s) (fun s => [(2, .bool p2), (11, .int .i64 s)]) (fun s => []) ?_ ?_
    · refine TC_cond rfl (fun hb => ?_) (fun hb => ?_)
      · replace h1 := bif_t h1 hb
        refine TC_reg ?_
        refine TL_ev env 1 rfl ⟨tv, tv⟩ ?_
        refine TL_end ?_
        obtain rfl := sinj h1
        refine tsn ?_
        exact SP_ren [] _ rfl ⟨rfl, rfl, tv⟩ tv rfl
      · replace h1 := bif_f h1 hb
        refine TC_skip ?_
        obtain rfl := sinj h1
        refine tsn ?_
        exact SP_ren [] _ rfl ⟨rfl, rfl, tv⟩ tv rfl
    · rintro x27 hz
      obtain rfl := hz.symm
      refine TE_go ?_
      refine TC_seq ?_
      refine TC_seq ?_
      refine TC_reg ?_
      refine TL_ev env 1 rfl ⟨tv, tv⟩ ?_
      refine TL_end ?_
      refine TE_go ?_
      refine TC_cond rfl (fun hb => ?_) (fun hb => ?_)
      · replace h0 := bif_t h0 hb
        refine TC_seq ?_
        refine TC_reg ?_
        refine TL_ev env 4 rfl ⟨tv, ⟨tv, ⟨tv, ⟨tv, tv⟩⟩⟩⟩ ?_
        refine TL_end ?_
        refine TE_go ?_
        refine TC_ret ?_
        refine tsr ?_
        obtain rfl := sinj h0
        exact TE_ret env rfl tv tv
      · replace h0 := bif_f h0 hb
        refine TC_skip ?_
        refine TE_go ?_
        refine TC_seq ?_
        refine TC_reg ?_
        refine TL_ev env 3 rfl ⟨tv, ⟨tv, ⟨tv, tv⟩⟩⟩ ?_
        refine TL_end ?_
        refine TE_go ?_
        refine TC_ret ?_
        obtain rfl := sinj h0
        exact TE_ret env rfl tv tv
theorem psalteryref03_signed.ok0 {K : Nat} {p0 : Int} {p1 : Int} {p2 : Bool} {q0 : Int} (h0 : psalteryref03_signed K p0 p1 p2 = some q0) : Fn Try.prog 170 [.int .i64 p0, .int .i64 p1, .bool p2] [] (.int .i16 q0) [] := psalteryref03_signed.ok h0
theorem psalteryref03_signed.fnb : fnb Try.prog 170 = true := fnb_of Try.func170 rfl
def psalteryref03_of.res (_p0 : Int) (_p1 : Int) : Int → MV
  | q0 => .int .i16 q0
def psalteryref03_of.out (_p0 : Int) (_p1 : Int) : Int → List (Nat × Option MObj)
  | _ => []
theorem psalteryref03_of.ok {K : Nat} {p0 : Int} {p1 : Int} {r : Int} (h0 : psalteryref03_of K p0 p1 = some r) : Fn Try.prog 169 [.int .i64 p0, .int .i64 p1] [] (psalteryref03_of.res p0 p1 r) (psalteryref03_of.out p0 p1 r) := by
  refine Fn_of Try.func169 rfl (Nat.le_of_ble_eq_true rfl) fun Γ => ?_
  refine TC_seq ?_
  refine TC_reg ?_
  refine TL_ev env 1 rfl ⟨tv, tv⟩ ?_
  refine TL_end ?_
  refine TE_go ?_
  refine TC_seq ?_
  refine TC_reg ?_
  refine TL_ev env 2 rfl ⟨tv, ⟨tv, tv⟩⟩ ?_
  refine TL_end ?_
  refine TE_go ?_
  refine TC_seq ?_
  refine TC_seq ?_
  refine TC_reg ?_
  refine TL_ev env 2 rfl ⟨tv, ⟨⟨tv, ⟨tv, tv⟩⟩, tv⟩⟩ ?_
  refine TL_end ?_
  refine TE_go ?_
  obtain ⟨z1, h1, h0⟩ := bnd h0
  refine TC_cut (α := Int) (fun s => z1 = s) (fun s => [(1, .int .i64 p1), (5, .int .i64 s)]) (fun s => []) ?_ ?_
  · refine TC_cond rfl (fun hb => ?_) (fun hb => ?_)
    · replace h1 := bif_t h1 hb
      refine TC_reg ?_
      refine TL_ev env 4 rfl ⟨tv, ⟨tv, ⟨⟨tv, ⟨tv, tv⟩⟩, ⟨tv, tv⟩⟩⟩⟩ ?_
      refine TL_end ?_
      obtain rfl := sinj h1
      refine tsn ?_
      exact SP_ren [] _ rfl ⟨rfl, rfl, tv⟩ tv rfl
    · replace h1 := bif_f h1 hb
      refine TC_skip ?_
      obtain rfl := sinj h1
      refine tsn ?_
      exact SP_ren [] _ rfl ⟨rfl, rfl, tv⟩ tv rfl
  · rintro x6 hz
    obtain rfl := hz.symm
    refine TE_go ?_
    refine TC_seq ?_
    refine TC_seq ?_
    refine TC_reg ?_
    refine TL_ev env 4 rfl ⟨tv, ⟨⟨tv, ⟨tv, tv⟩⟩, ⟨tv, ⟨⟨tv, ⟨tv, tv⟩⟩, tv⟩⟩⟩⟩ ?_
    refine TL_end ?_
    refine TE_go ?_
    refine TC_cond rfl (fun hb => ?_) (fun hb => ?_)
    · replace h0 := bif_t h0 hb
      refine TC_seq ?_
      refine TC_reg ?_
      refine TL_ev env 5 rfl ⟨tv, ⟨tv, ⟨⟨tv, ⟨tv, (by decide)⟩⟩, ⟨⟨tv, ⟨tv, tv⟩⟩, ⟨tv, tv⟩⟩⟩⟩⟩ ?_
      obtain ⟨r12, hr, h0⟩ := bnd h0
      refine TL_callB [] (psalteryref03_signed.ok0 hr) psalteryref03_signed.fnb rfl ⟨tv, ⟨tv, ⟨tv, ⟨tv, tv⟩⟩⟩⟩ rfl tv rfl ?_
      refine TL_ev env 1 rfl ⟨tv, tv⟩ ?_
      refine TL_end ?_
      refine TE_go ?_
      refine TC_ret ?_
      refine tsr ?_
      obtain rfl := sinj h0
      exact TE_ret env rfl tv tv
    · replace h0 := bif_f h0 hb
      refine TC_skip ?_
      refine TE_go ?_
      refine TC_seq ?_
      refine TC_reg ?_
      refine TL_ev env 2 rfl ⟨tv, ⟨tv, tv⟩⟩ ?_
      obtain ⟨r13, hr, h0⟩ := bnd h0
      refine TL_callB [] (psalteryref03_signed.ok0 hr) psalteryref03_signed.fnb rfl ⟨tv, ⟨tv, ⟨tv, ⟨tv, tv⟩⟩⟩⟩ rfl tv rfl ?_
      refine TL_ev env 1 rfl ⟨tv, tv⟩ ?_
      refine TL_end ?_
      refine TE_go ?_
      refine TC_ret ?_
      obtain rfl := sinj h0
      exact TE_ret env rfl tv tv
theorem psalteryref03_of.ok0 {K : Nat} {p0 : Int} {p1 : Int} {q0 : Int} (h0 : psalteryref03_of K p0 p1 = some q0) : Fn Try.prog 169 [.int .i64 p0, .int .i64 p1] [] (.int .i16 q0) [] := psalteryref03_of.ok h0
theorem psalteryref03_of.fnb : fnb Try.prog 169 = true := fnb_of Try.func169 rfl
end Go.Fo
