/- Each call comes to the function that is written for it. -/
import Derived.Test.YtphienllhdoenaaPfT
import Derived.Test.YtphienllhdoenaaPfF
import Derived.Test.YtphienllhdoenaaBx
namespace Go.Fo
open Go.Proofs
set_option maxRecDepth 20000
set_option maxHeartbeats 4000000
theorem bank_New.ok0 {K : Nat} (h0 : bank_New K = some ()) : Fn Try.prog 14 [] [] (.p 1000 0) [(1000, some (.ab (bkA (List.replicate 388 none) 0 0)))] := by
  have h : Fn Try.prog 14 [] [] (.p 1000 0) [(1000, some (.cells (pst (List.replicate 388 none) 0 0)))] := by
    refine Fn_of Try.func14 rfl (Nat.le_of_ble_eq_true rfl) fun Γ => ?_
    refine TC_seq ?_
    refine TC_reg ?_
    refine TL_ev env 1 rfl (by decide) ?_
    refine TL_end ?_
    refine TE_go ?_
    refine TC_seq ?_
    refine TC_reg ?_
    refine TL_ev env 3 rfl (by decide) ?_
    refine TL_end ?_
    refine TE_go ?_
    refine TC_ret ?_
    refine TE_renw (A' := [(0, .p 1000 0)]) (L' := [(1000, some (.cells (pst (List.replicate 388 none) 0 0)))]) [(1000, 1002)] ⟨rfl, trivial⟩ ⟨rfl, trivial⟩ rfl ?_
    exact TE_ret env rfl trivial ⟨.inr rfl, trivial⟩
  intro X ρ m w vs hp hv
  refine (h X ρ m w vs hp hv).mono ?_
  rintro e w' ⟨ρ', m', v, rfl, h1, h2, h3, h4⟩
  exact ⟨ρ', m', v, rfl, h1, h2.conv (fun k o hk => by
    simp only [getO] at hk ⊢
    split at hk
    · rename_i e
      have e' : 1000 = k := beq_iff_eq.1 e
      subst e'
      simp only [Option.some.injEq] at hk; subst hk
      exact ⟨_, rfl, (osat_abcells (pst_kf _ _ _)).2 (h2.obj 1000 _ rfl)⟩
    · cases hk), h3, h4⟩
theorem bank_New.fnb : fnb Try.prog 14 = true := fnb_of Try.func14 rfl
def bank_Bank_may.res (_p0 : Bool) (_p1 : List (Option (List (Int)))) (_p2 : Int) (_p3 : Int) : (Unit) ⊕ (Unit) → MV
  | .inl () => .int .i64 1
  | .inr () => .int .i64 0
def bank_Bank_may.out (_p0 : Bool) (p1 : List (Option (List (Int)))) (p2 : Int) (p3 : Int) : (Unit) ⊕ (Unit) → List (Nat × Option MObj)
  | .inl () => [(0, some (.ab (bkA p1 p2 p3)))]
  | .inr () => [(0, some (.ab (bkA p1 p2 p3)))]
theorem bank_Bank_may.ok {K : Nat} {p0 : Bool} {p1 : List (Option (List (Int)))} {p2 : Int} {p3 : Int} {r : (Unit) ⊕ (Unit)} (h0 : bank_Bank_may K p0 p1 p2 p3 = some r) : Fn Try.prog 77 [.p 0 0, .bool p0] [(0, some (.ab (bkA p1 p2 p3)))] (bank_Bank_may.res p0 p1 p2 p3 r) (bank_Bank_may.out p0 p1 p2 p3 r) := by
  refine Fn_of Try.func77 rfl (Nat.le_of_ble_eq_true rfl) fun Γ => ?_
  refine TC_seq ?_
  refine TC_reg ?_
  refine TL_ev env 1 rfl ⟨trivial, trivial⟩ ?_
  refine TL_end ?_
  refine TE_go ?_
  refine TC_seq ?_
  refine TC_blk ?_
  refine TC_seq ?_
  refine TC_reg ?_
  refine TL_ev env 3 rfl ⟨trivial, ⟨⟨trivial, ⟨trivial, trivial⟩⟩, ⟨trivial, trivial⟩⟩⟩ ?_
  refine TL_end ?_
  refine TE_go ?_
  refine TC_cond rfl (fun hb => ?_) (fun hb => ?_)
  · first | exact (ftf hb).elim | exact (tff hb).elim | exact absurd hb (by decide)
  · refine TC_seq ?_
    refine TC_reg ?_
    refine TL_ev env 3 rfl ⟨trivial, ⟨trivial, ⟨trivial, trivial⟩⟩⟩ ?_
    refine TL_end ?_
    refine TE_go ?_
    refine TC_cond rfl (fun hb => ?_) (fun hb => ?_)
    · replace h0 := bif_t h0 hb
      refine TC_seq ?_
      refine TC_reg ?_
      refine TL_ev env 1 rfl ⟨trivial, trivial⟩ ?_
      refine TL_end ?_
      refine TE_go ?_
      refine TC_ret ?_
      refine tbr ?_
      refine tsr ?_
      obtain rfl := sinj h0
      exact TE_ret env rfl trivial ⟨.inr rfl, trivial⟩
    · replace h0 := bif_f h0 hb
      refine TC_skip ?_
      refine tbn ?_
      refine TE_go ?_
      refine TC_seq ?_
      refine TC_reg ?_
      refine TL_ev env 1 rfl ⟨trivial, trivial⟩ ?_
      refine TL_end ?_
      refine TE_go ?_
      refine TC_ret ?_
      obtain rfl := sinj h0
      exact TE_ret env rfl trivial ⟨.inr rfl, trivial⟩
theorem bank_Bank_may.ok0 {K : Nat} {p0 : Bool} {p1 : List (Option (List (Int)))} {p2 : Int} {p3 : Int}  (h0 : bank_Bank_may K p0 p1 p2 p3 = some (.inl ())) : Fn Try.prog 77 [.p 0 0, .bool p0] [(0, some (.ab (bkA p1 p2 p3)))] (.int .i64 1) [(0, some (.ab (bkA p1 p2 p3)))] := bank_Bank_may.ok h0
theorem bank_Bank_may.ok1 {K : Nat} {p0 : Bool} {p1 : List (Option (List (Int)))} {p2 : Int} {p3 : Int}  (h0 : bank_Bank_may K p0 p1 p2 p3 = some (.inr ())) : Fn Try.prog 77 [.p 0 0, .bool p0] [(0, some (.ab (bkA p1 p2 p3)))] (.int .i64 0) [(0, some (.ab (bkA p1 p2 p3)))] := bank_Bank_may.ok h0
theorem bank_Bank_may.fnb : fnb Try.prog 77 = true := fnb_of Try.func77 rfl
theorem sync_atomic_Bool_Load.ok0 {K : Nat} {p0 : List (Option (List (Int)))} {p1 : List (Option (List (Int)))} {p2 : Int} {p3 : Int} (h0 : sync_atomic_Bool_Load K p0 p1 p2 p3 = some ()) : Fn Try.prog 97 [.pf 0 (tcs p0).length 0] [(0, some (.foc (tcs p0) [.int .u32 0, .int .i32 0, .int .u32 0, .nils] (pst p1 p2 p3)))] (.bool false) [(0, some (.foc (tcs p0) [.int .u32 0, .int .i32 0, .int .u32 0, .nils] (pst p1 p2 p3)))] := by
  exact boolLoad_fn rfl
theorem sync_atomic_Bool_Load.fnb : fnb Try.prog 97 = true := fnb_of Try.func97 rfl
def wave_modulo.res (_p0 : Int) (_p1 : Int) : Int → MV
  | q0 => .int .i64 q0
def wave_modulo.out (_p0 : Int) (_p1 : Int) : Int → List (Nat × Option MObj)
  | _ => []
theorem wave_modulo.ok {K : Nat} {p0 : Int} {p1 : Int} {r : Int} (h0 : wave_modulo K p0 p1 = some r) : Fn Try.prog 95 [.int .i64 p0, .int .i64 p1] [] (wave_modulo.res p0 p1 r) (wave_modulo.out p0 p1 r) := by
  refine Fn_of Try.func95 rfl (Nat.le_of_ble_eq_true rfl) fun Γ => ?_
  refine TC_seq ?_
  refine TC_reg ?_
  refine TL_ev env 1 rfl ⟨trivial, trivial⟩ ?_
  refine TL_end ?_
  refine TE_go ?_
  refine TC_seq ?_
  refine TC_reg ?_
  obtain ⟨g, h0⟩ := gd_t h0
  refine TL_ev env 4 rfl ⟨trivial, ⟨trivial, ⟨⟨trivial, ⟨trivial, g⟩⟩, ⟨trivial, trivial⟩⟩⟩⟩ ?_
  refine TL_end ?_
  refine TE_go ?_
  refine TC_seq ?_
  refine TC_seq ?_
  refine TC_reg ?_
  refine TL_ev env 2 rfl ⟨trivial, ⟨⟨trivial, ⟨trivial, trivial⟩⟩, trivial⟩⟩ ?_
  refine TL_end ?_
  refine TE_go ?_
  obtain ⟨z1, h1, h0⟩ := bnd h0
  refine TC_cut (α := Int) (fun s => z1 = s) (fun s => [(0, .int .i64 s)]) (fun s => []) ?_ ?_
  · refine TC_cond rfl (fun hb => ?_) (fun hb => ?_)
    · replace h1 := bif_t h1 hb
      refine TC_reg ?_
      refine TL_ev env 4 rfl ⟨trivial, ⟨trivial, ⟨⟨trivial, ⟨trivial, trivial⟩⟩, ⟨trivial, trivial⟩⟩⟩⟩ ?_
      refine TL_end ?_
      obtain rfl := sinj h1
      refine tsn ?_
      exact SP_ren [] _ rfl ⟨rfl, trivial⟩ trivial rfl
    · replace h1 := bif_f h1 hb
      refine TC_skip ?_
      obtain rfl := sinj h1
      refine tsn ?_
      exact SP_ren [] _ rfl ⟨rfl, trivial⟩ trivial rfl
  · rintro x4 hz
    obtain rfl := hz.symm
    refine TE_go ?_
    refine TC_seq ?_
    refine TC_reg ?_
    refine TL_ev env 2 rfl ⟨trivial, ⟨trivial, trivial⟩⟩ ?_
    refine TL_end ?_
    refine TE_go ?_
    refine TC_ret ?_
    obtain rfl := sinj h0
    exact TE_ret env rfl trivial trivial
theorem wave_modulo.ok0 {K : Nat} {p0 : Int} {p1 : Int} {q0 : Int} (h0 : wave_modulo K p0 p1 = some q0) : Fn Try.prog 95 [.int .i64 p0, .int .i64 p1] [] (.int .i64 q0) [] := wave_modulo.ok h0
theorem wave_modulo.fnb : fnb Try.prog 95 = true := fnb_of Try.func95 rfl
def wave_height.res (_p0 : Int) (_p1 : Int) : Int × Int → MV
  | (q0, q1) => .tup [.int .u64 q0, .int .i64 q1]
def wave_height.out (_p0 : Int) (_p1 : Int) : Int × Int → List (Nat × Option MObj)
  | (_, _) => []
theorem wave_height.ok {K : Nat} {p0 : Int} {p1 : Int} {r : Int × Int} (h0 : wave_height K p0 p1 = some r) : Fn Try.prog 100 [.int .i64 p0, .int .i64 p1] [] (wave_height.res p0 p1 r) (wave_height.out p0 p1 r) := by
  refine Fn_of Try.func100 rfl (Nat.le_of_ble_eq_true rfl) fun Γ => ?_
  refine TC_seq ?_
  refine TC_reg ?_
  refine TL_ev env 2 rfl ⟨trivial, ⟨trivial, trivial⟩⟩ ?_
  refine TL_end ?_
  refine TE_go ?_
  refine TC_seq ?_
  refine TC_reg ?_
  refine TL_ev env 2 rfl ⟨trivial, ⟨trivial, trivial⟩⟩ ?_
  obtain ⟨r3, hr, h0⟩ := bnd h0
  refine TL_callB [] (wave_modulo.ok0 hr) wave_modulo.fnb rfl ⟨trivial, ⟨trivial, ⟨trivial, trivial⟩⟩⟩ rfl trivial rfl ?_
  refine TL_ev env 2 rfl ⟨⟨trivial, ⟨trivial, trivial⟩⟩, ⟨trivial, trivial⟩⟩ ?_
  refine TL_end ?_
  refine TE_go ?_
  refine TC_seq ?_
  refine TC_reg ?_
  obtain ⟨g, h0⟩ := gd_t h0
  refine TL_ev env 4 rfl ⟨trivial, ⟨trivial, ⟨⟨trivial, ⟨trivial, g⟩⟩, ⟨trivial, trivial⟩⟩⟩⟩ ?_
  refine TL_end ?_
  refine TE_go ?_
  refine TC_seq ?_
  refine TC_reg ?_
  obtain ⟨g, h0⟩ := gd_t h0
  refine TL_ev env 4 rfl ⟨trivial, ⟨trivial, ⟨⟨trivial, ⟨trivial, g⟩⟩, ⟨trivial, trivial⟩⟩⟩⟩ ?_
  refine TL_end ?_
  refine TE_go ?_
  refine TC_seq ?_
  refine TC_seq ?_
  refine TC_reg ?_
  refine TL_ev env 3 rfl ⟨trivial, ⟨⟨trivial, ⟨trivial, trivial⟩⟩, ⟨⟨trivial, ⟨trivial, trivial⟩⟩, trivial⟩⟩⟩ ?_
  refine TL_end ?_
  refine TE_go ?_
  obtain ⟨z1, h1, h0⟩ := bnd h0
  refine TC_cut (α := Int) (fun s => z1 = s) (fun s => [(1, .int .i64 p1), (5, .int .i64 (kwrap .i64 (Int.tdiv (kwrap .i64 (4 * r3)) p1))), (7, .int .i64 s)]) (fun s => []) ?_ ?_
  · refine TC_cond rfl (fun hb => ?_) (fun hb => ?_)
    · replace h1 := bif_t h1 hb
      refine TC_reg ?_
      refine TL_ev env 4 rfl ⟨trivial, ⟨trivial, ⟨⟨trivial, ⟨trivial, trivial⟩⟩, ⟨trivial, trivial⟩⟩⟩⟩ ?_
      refine TL_end ?_
      obtain rfl := sinj h1
      refine tsn ?_
      exact SP_ren [] _ rfl ⟨rfl, rfl, rfl, trivial⟩ trivial rfl
    · replace h1 := bif_f h1 hb
      refine TC_skip ?_
      obtain rfl := sinj h1
      refine tsn ?_
      exact SP_ren [] _ rfl ⟨rfl, rfl, rfl, trivial⟩ trivial rfl
  · rintro x8 hz
    obtain rfl := hz.symm
    refine TE_go ?_
    refine TC_seq ?_
    refine TC_reg ?_
    obtain ⟨g, h0⟩ := gd_t h0
    refine TL_ev env 9 rfl ⟨trivial, ⟨trivial, ⟨⟨trivial, ⟨trivial, (by decide)⟩⟩, ⟨trivial, ⟨trivial, ⟨⟨trivial, ⟨trivial, g⟩⟩, ⟨trivial, ⟨trivial, ⟨trivial, trivial⟩⟩⟩⟩⟩⟩⟩⟩⟩ ?_
    refine TL_end ?_
    refine TE_go ?_
    refine TC_ret ?_
    obtain rfl := sinj h0
    exact TE_ret env rfl trivial trivial
theorem wave_height.ok0 {K : Nat} {p0 : Int} {p1 : Int} {q0 : Int} {q1 : Int} (h0 : wave_height K p0 p1 = some (q0, q1)) : Fn Try.prog 100 [.int .i64 p0, .int .i64 p1] [] (.tup [.int .u64 q0, .int .i64 q1]) [] := wave_height.ok h0
theorem wave_height.fnb : fnb Try.prog 100 = true := fnb_of Try.func100 rfl
def fix_within_int.res (_p0 : Int) (_p1 : Int) (_p2 : Int) : Int → MV
  | q0 => .int .i64 q0
def fix_within_int.out (_p0 : Int) (_p1 : Int) (_p2 : Int) : Int → List (Nat × Option MObj)
  | _ => []
theorem fix_within_int.ok {K : Nat} {p0 : Int} {p1 : Int} {p2 : Int} {r : Int} (h0 : fix_within_int K p0 p1 p2 = some r) : Fn Try.prog 73 [.int .i64 p0, .int .i64 p1, .int .i64 p2] [] (fix_within_int.res p0 p1 p2 r) (fix_within_int.out p0 p1 p2 r) := by
  refine Fn_of Try.func73 rfl (Nat.le_of_ble_eq_true rfl) fun Γ => ?_
  refine TC_seq ?_
  refine TC_reg ?_
  refine TL_ev env 1 rfl ⟨trivial, trivial⟩ ?_
  refine TL_end ?_
  refine TE_go ?_
  refine TC_seq ?_
  refine TC_blk ?_
  refine TC_seq ?_
  refine TC_reg ?_
  refine TL_ev env 4 rfl ⟨trivial, ⟨trivial, ⟨⟨trivial, ⟨trivial, trivial⟩⟩, ⟨trivial, trivial⟩⟩⟩⟩ ?_
  refine TL_end ?_
  refine TE_go ?_
  refine TC_cond rfl (fun hb => ?_) (fun hb => ?_)
  · replace h0 := bif_t h0 hb
    refine TC_seq ?_
    refine TC_reg ?_
    refine TL_ev env 2 rfl ⟨trivial, ⟨trivial, trivial⟩⟩ ?_
    refine TL_end ?_
    refine TE_go ?_
    refine TC_ret ?_
    refine tbr ?_
    refine tsr ?_
    obtain rfl := sinj h0
    exact TE_ret env rfl trivial trivial
  · replace h0 := bif_f h0 hb
    refine TC_seq ?_
    refine TC_reg ?_
    refine TL_ev env 4 rfl ⟨trivial, ⟨trivial, ⟨⟨trivial, ⟨trivial, trivial⟩⟩, ⟨trivial, trivial⟩⟩⟩⟩ ?_
    refine TL_end ?_
    refine TE_go ?_
    refine TC_cond rfl (fun hb => ?_) (fun hb => ?_)
    · replace h0 := bif_t h0 hb
      refine TC_seq ?_
      refine TC_reg ?_
      refine TL_ev env 2 rfl ⟨trivial, ⟨trivial, trivial⟩⟩ ?_
      refine TL_end ?_
      refine TE_go ?_
      refine TC_ret ?_
      refine tbr ?_
      refine tsr ?_
      obtain rfl := sinj h0
      exact TE_ret env rfl trivial trivial
    · replace h0 := bif_f h0 hb
      refine TC_skip ?_
      refine tbn ?_
      refine TE_go ?_
      refine TC_seq ?_
      refine TC_reg ?_
      refine TL_ev env 2 rfl ⟨trivial, ⟨trivial, trivial⟩⟩ ?_
      refine TL_end ?_
      refine TE_go ?_
      refine TC_ret ?_
      obtain rfl := sinj h0
      exact TE_ret env rfl trivial trivial
theorem fix_within_int.ok0 {K : Nat} {p0 : Int} {p1 : Int} {p2 : Int} {q0 : Int} (h0 : fix_within_int K p0 p1 p2 = some q0) : Fn Try.prog 73 [.int .i64 p0, .int .i64 p1, .int .i64 p2] [] (.int .i64 q0) [] := fix_within_int.ok h0
theorem fix_within_int.fnb : fnb Try.prog 73 = true := fnb_of Try.func73 rfl
def fix_Round.res (_p0 : Int) (_p1 : Int) : Int → MV
  | q0 => .int .i64 q0
def fix_Round.out (_p0 : Int) (_p1 : Int) : Int → List (Nat × Option MObj)
  | _ => []
theorem fix_Round.ok {K : Nat} {p0 : Int} {p1 : Int} {r : Int} (h0 : fix_Round K p0 p1 = some r) : Fn Try.prog 48 [.int .i64 p0, .int .i64 p1] [] (fix_Round.res p0 p1 r) (fix_Round.out p0 p1 r) := by
  refine Fn_of Try.func48 rfl (Nat.le_of_ble_eq_true rfl) fun Γ => ?_
  refine TC_seq ?_
  refine TC_reg ?_
  refine TL_ev env 1 rfl ⟨trivial, trivial⟩ ?_
  refine TL_end ?_
  refine TE_go ?_
  refine TC_seq ?_
  refine TC_reg ?_
  refine TL_ev env 1 rfl ⟨trivial, trivial⟩ ?_
  obtain ⟨r2, hr, h0⟩ := bnd h0
  refine TL_callB [] (fix_within_int.ok0 hr) fix_within_int.fnb rfl ⟨trivial, ⟨trivial, ⟨trivial, ⟨trivial, trivial⟩⟩⟩⟩ rfl trivial rfl ?_
  refine TL_ev env 1 rfl ⟨trivial, trivial⟩ ?_
  refine TL_end ?_
  refine TE_go ?_
  refine TC_seq ?_
  refine TC_seq ?_
  refine TC_reg ?_
  refine TL_ev env 2 rfl ⟨trivial, ⟨⟨trivial, ⟨trivial, trivial⟩⟩, trivial⟩⟩ ?_
  refine TL_end ?_
  refine TE_go ?_
  refine TC_cond rfl (fun hb => ?_) (fun hb => ?_)
  · replace h0 := bif_t h0 hb
    refine TC_seq ?_
    refine TC_reg ?_
    refine TL_ev env 2 rfl ⟨trivial, ⟨trivial, trivial⟩⟩ ?_
    refine TL_end ?_
    refine TE_go ?_
    refine TC_ret ?_
    refine tsr ?_
    obtain rfl := sinj h0
    exact TE_ret env rfl trivial trivial
  · replace h0 := bif_f h0 hb
    refine TC_skip ?_
    refine TE_go ?_
    refine TC_seq ?_
    refine TC_renw (A' := [(0, .int .i64 _), (1, .int .i64 _), (4, .int .i64 0)]) (L' := []) [] ⟨rfl, rfl, rfl, trivial⟩ trivial rfl ?_
    refine TC_drawR ⟨_, fun i => ([[], [], [1, 0], [], [], [4], [5, 4, 3], [6, 5, 4, 3], [7, 6, 5, 4, 3, 2, 1, 0], [8, 7, 6, 5, 4, 3, 2, 1, 0]] : List (List Nat)).getD i [], fun i => ([[], [], [], [], [], [], [], [], [], []] : List (List Nat)).getD i [], fun i => ([[], [], [], [], [], [], [], [], [], []] : List (List Nat)).getD i []⟩ (fun i => ([[], [], [], [], [], [], [], [], [], []] : List (List Nat)).getD i []) (by kernel_rfl) (by kernel_rfl) ?_
    refine AJR_ev env 1 rfl (Nat.le_of_ble_eq_true rfl) rfl trivial ?_
    refine AJR_ev env 2 rfl (Nat.le_of_ble_eq_true rfl) rfl trivial ?_
    obtain ⟨g, h0⟩ := gd_t h0
    refine AJR_ev env 3 rfl (Nat.le_of_ble_eq_true rfl) rfl ⟨trivial, ⟨trivial, g⟩⟩ ?_
    refine AJR_ev env 4 rfl (Nat.le_of_ble_eq_true rfl) rfl trivial ?_
    refine AJR_ev env 5 rfl (Nat.le_of_ble_eq_true rfl) rfl trivial ?_
    refine AJR_ev env 6 rfl (Nat.le_of_ble_eq_true rfl) rfl ⟨trivial, ⟨trivial, trivial⟩⟩ ?_
    obtain ⟨g, h0⟩ := gd_t h0
    refine AJR_ev env 7 rfl (Nat.le_of_ble_eq_true rfl) rfl ⟨trivial, ⟨trivial, g⟩⟩ ?_
    refine AJR_ev env 8 rfl (Nat.le_of_ble_eq_true rfl) rfl ⟨trivial, ⟨trivial, trivial⟩⟩ ?_
    refine AJR_ev env 9 rfl (Nat.le_of_ble_eq_true rfl) rfl ⟨trivial, ⟨trivial, trivial⟩⟩ ?_
    refine AJR_ev env 10 rfl (Nat.le_of_ble_eq_true rfl) rfl trivial ?_
    refine AJR_end rfl rfl rfl ?_
    refine TE_go ?_
    refine TC_ret ?_
    obtain rfl := sinj h0
    exact TE_ret env rfl trivial trivial
theorem fix_Round.ok0 {K : Nat} {p0 : Int} {p1 : Int} {q0 : Int} (h0 : fix_Round K p0 p1 = some q0) : Fn Try.prog 48 [.int .i64 p0, .int .i64 p1] [] (.int .i64 q0) [] := fix_Round.ok h0
theorem fix_Round.fnb : fnb Try.prog 48 = true := fnb_of Try.func48 rfl
def fix_within_int64.res (_p0 : Int) (_p1 : Int) (_p2 : Int) : Int → MV
  | q0 => .int .i64 q0
def fix_within_int64.out (_p0 : Int) (_p1 : Int) (_p2 : Int) : Int → List (Nat × Option MObj)
  | _ => []
theorem fix_within_int64.ok {K : Nat} {p0 : Int} {p1 : Int} {p2 : Int} {r : Int} (h0 : fix_within_int64 K p0 p1 p2 = some r) : Fn Try.prog 72 [.int .i64 p0, .int .i64 p1, .int .i64 p2] [] (fix_within_int64.res p0 p1 p2 r) (fix_within_int64.out p0 p1 p2 r) := by
  refine Fn_of Try.func72 rfl (Nat.le_of_ble_eq_true rfl) fun Γ => ?_
  refine TC_seq ?_
  refine TC_reg ?_
  refine TL_ev env 1 rfl ⟨trivial, trivial⟩ ?_
  refine TL_end ?_
  refine TE_go ?_
  refine TC_seq ?_
  refine TC_blk ?_
  refine TC_seq ?_
  refine TC_reg ?_
  refine TL_ev env 4 rfl ⟨trivial, ⟨trivial, ⟨⟨trivial, ⟨trivial, trivial⟩⟩, ⟨trivial, trivial⟩⟩⟩⟩ ?_
  refine TL_end ?_
  refine TE_go ?_
  refine TC_cond rfl (fun hb => ?_) (fun hb => ?_)
  · replace h0 := bif_t h0 hb
    refine TC_seq ?_
    refine TC_reg ?_
    refine TL_ev env 2 rfl ⟨trivial, ⟨trivial, trivial⟩⟩ ?_
    refine TL_end ?_
    refine TE_go ?_
    refine TC_ret ?_
    refine tbr ?_
    refine tsr ?_
    obtain rfl := sinj h0
    exact TE_ret env rfl trivial trivial
  · replace h0 := bif_f h0 hb
    refine TC_seq ?_
    refine TC_reg ?_
    refine TL_ev env 4 rfl ⟨trivial, ⟨trivial, ⟨⟨trivial, ⟨trivial, trivial⟩⟩, ⟨trivial, trivial⟩⟩⟩⟩ ?_
    refine TL_end ?_
    refine TE_go ?_
    refine TC_cond rfl (fun hb => ?_) (fun hb => ?_)
    · replace h0 := bif_t h0 hb
      refine TC_seq ?_
      refine TC_reg ?_
      refine TL_ev env 2 rfl ⟨trivial, ⟨trivial, trivial⟩⟩ ?_
      refine TL_end ?_
      refine TE_go ?_
      refine TC_ret ?_
      refine tbr ?_
      refine tsr ?_
      obtain rfl := sinj h0
      exact TE_ret env rfl trivial trivial
    · replace h0 := bif_f h0 hb
      refine TC_skip ?_
      refine tbn ?_
      refine TE_go ?_
      refine TC_seq ?_
      refine TC_reg ?_
      refine TL_ev env 2 rfl ⟨trivial, ⟨trivial, trivial⟩⟩ ?_
      refine TL_end ?_
      refine TE_go ?_
      refine TC_ret ?_
      obtain rfl := sinj h0
      exact TE_ret env rfl trivial trivial
theorem fix_within_int64.ok0 {K : Nat} {p0 : Int} {p1 : Int} {p2 : Int} {q0 : Int} (h0 : fix_within_int64 K p0 p1 p2 = some q0) : Fn Try.prog 72 [.int .i64 p0, .int .i64 p1, .int .i64 p2] [] (.int .i64 q0) [] := fix_within_int64.ok h0
theorem fix_within_int64.fnb : fnb Try.prog 72 = true := fnb_of Try.func72 rfl
def fix_Clip.res (_p0 : Int) (_p1 : Int) (_p2 : Int) : Int → MV
  | q0 => .int .i64 q0
def fix_Clip.out (_p0 : Int) (_p1 : Int) (_p2 : Int) : Int → List (Nat × Option MObj)
  | _ => []
theorem fix_Clip.ok {K : Nat} {p0 : Int} {p1 : Int} {p2 : Int} {r : Int} (h0 : fix_Clip K p0 p1 p2 = some r) : Fn Try.prog 101 [.int .i64 p0, .int .i64 p1, .int .i64 p2] [] (fix_Clip.res p0 p1 p2 r) (fix_Clip.out p0 p1 p2 r) := by
  refine Fn_of Try.func101 rfl (Nat.le_of_ble_eq_true rfl) fun Γ => ?_
  refine TC_seq ?_
  refine TC_reg ?_
  refine TL_ev env 1 rfl ⟨trivial, trivial⟩ ?_
  refine TL_end ?_
  refine TE_go ?_
  refine TC_seq ?_
  refine TC_reg ?_
  refine TL_ev env 3 rfl ⟨trivial, ⟨trivial, ⟨trivial, trivial⟩⟩⟩ ?_
  obtain ⟨r2, hr, h0⟩ := bnd h0
  refine TL_callB [] (fix_within_int64.ok0 hr) fix_within_int64.fnb rfl ⟨trivial, ⟨trivial, ⟨trivial, ⟨trivial, trivial⟩⟩⟩⟩ rfl trivial rfl ?_
  refine TL_ev env 1 rfl ⟨trivial, trivial⟩ ?_
  refine TL_end ?_
  refine TE_go ?_
  refine TC_ret ?_
  obtain rfl := sinj h0
  exact TE_ret env rfl trivial trivial
theorem fix_Clip.ok0 {K : Nat} {p0 : Int} {p1 : Int} {p2 : Int} {q0 : Int} (h0 : fix_Clip K p0 p1 p2 = some q0) : Fn Try.prog 101 [.int .i64 p0, .int .i64 p1, .int .i64 p2] [] (.int .i64 q0) [] := fix_Clip.ok h0
theorem fix_Clip.fnb : fnb Try.prog 101 = true := fnb_of Try.func101 rfl
def wave_sine.res (_p0 : Int) (_p1 : Int) : Int → MV
  | q0 => .int .i16 q0
def wave_sine.out (_p0 : Int) (_p1 : Int) : Int → List (Nat × Option MObj)
  | _ => []
theorem wave_sine.ok {K : Nat} {p0 : Int} {p1 : Int} {r : Int} (h0 : wave_sine K p0 p1 = some r) : Fn Try.prog 92 [.int .i64 p0, .int .i64 p1] [] (wave_sine.res p0 p1 r) (wave_sine.out p0 p1 r) := by
  refine Fn_of Try.func92 rfl (Nat.le_of_ble_eq_true rfl) fun Γ => ?_
  refine TC_seq ?_
  refine TC_reg ?_
  refine TL_ev env 1 rfl ⟨trivial, trivial⟩ ?_
  refine TL_end ?_
  refine TE_go ?_
  refine TC_seq ?_
  refine TC_reg ?_
  refine TL_ev env 2 rfl ⟨trivial, ⟨trivial, trivial⟩⟩ ?_
  obtain ⟨⟨r11, r12⟩, hr, h0⟩ := bnd h0
  refine TL_callB [] (wave_height.ok0 hr) wave_height.fnb rfl ⟨trivial, ⟨trivial, ⟨trivial, trivial⟩⟩⟩ rfl trivial rfl ?_
  refine TL_ev env 5 rfl ⟨trivial, ⟨trivial, ⟨trivial, ⟨trivial, ⟨trivial, trivial⟩⟩⟩⟩⟩ ?_
  refine TL_end ?_
  refine TE_go ?_
  refine TC_seq ?_
  refine TC_reg ?_
  refine TL_ev env 5 rfl ⟨trivial, ⟨trivial, ⟨⟨trivial, ⟨trivial, trivial⟩⟩, ⟨⟨trivial, ⟨trivial, (by decide)⟩⟩, ⟨trivial, trivial⟩⟩⟩⟩⟩ ?_
  refine TL_end ?_
  refine TE_go ?_
  refine TC_seq ?_
  refine TC_reg ?_
  refine TL_ev env 1 rfl ⟨trivial, trivial⟩ ?_
  refine TL_end ?_
  refine TE_go ?_
  refine TC_seq ?_
  refine TC_seq ?_
  refine TC_reg ?_
  refine TL_ev env 2 rfl ⟨⟨trivial, ⟨trivial, ⟨trivial, ⟨trivial, trivial⟩⟩⟩⟩, ⟨trivial, trivial⟩⟩ ?_
  refine TL_end ?_
  refine TE_go ?_
  obtain ⟨z1, h1, h0⟩ := bnd h0
  refine TC_cut (α := Int) (fun s => z1 = s) (fun s => [(5, .int .u64 r11), (6, .int .i64 r12), (8, .int .u64 s)]) (fun s => []) ?_ ?_
  · refine TC_blk ?_
    refine TC_loop (α := Int × Int) (fun n s => wave_sine.l0 K r11 r12 (kshr .u64 (kwrap .u64 (r11 * r11)) 30) n s.1 s.2 = some z1) (fun s => [(5, .int .u64 r11), (6, .int .i64 r12), (7, .int .u64 (kshr .u64 (kwrap .u64 (r11 * r11)) 30)), (8, .int .u64 s.1), (22, .agg [.int .u64 5026995, .int .u64 85569306, .int .u64 693598668, .int .u64 1686629713]), (23, .int .i64 s.2)]) (fun s => []) K ?_ ?_
    · exact SP_ren [] (_, _) h1 ⟨rfl, rfl, rfl, rfl, rfl, rfl, trivial⟩ trivial rfl
    rintro n ⟨x27, x28⟩ h1
    rcases n with _ | n
    · exact (nsome h1).elim
    replace h1 : wave_sine.r0 K r11 r12 (kshr .u64 (kwrap .u64 (r11 * r11)) 30) (wave_sine.l0 K r11 r12 (kshr .u64 (kwrap .u64 (r11 * r11)) 30) n) x27 x28 = some z1 := h1
    refine TC_seq ?_
    refine TC_reg ?_
    refine TL_ev env 1 rfl ⟨⟨trivial, ⟨trivial, trivial⟩⟩, trivial⟩ ?_
    refine TL_end ?_
    refine TE_go ?_
    refine TC_seq ?_
    refine TC_cond rfl (fun hb => ?_) (fun hb => ?_)
    · replace h1 := bif_t h1 hb
      refine TC_skip ?_
      refine TE_go ?_
      refine TC_seq ?_
      refine TC_blk ?_
      refine TC_seq ?_
      refine TC_reg ?_
      obtain ⟨g, h1⟩ := gd_t h1
      refine TL_ev env 2 rfl ⟨⟨trivial, ⟨trivial, ⟨g.1, g.2⟩⟩⟩, ⟨trivial, trivial⟩⟩ ?_
      refine TL_end ?_
      refine TE_go ?_
      refine TC_reg ?_
      refine TL_ev env 7 rfl ⟨trivial, ⟨trivial, ⟨trivial, ⟨⟨trivial, ⟨trivial, trivial⟩⟩, ⟨⟨trivial, ⟨trivial, (by decide)⟩⟩, ⟨⟨trivial, ⟨trivial, trivial⟩⟩, ⟨trivial, trivial⟩⟩⟩⟩⟩⟩⟩ ?_
      refine TL_end ?_
      refine tbn ?_
      refine TE_go ?_
      refine TC_reg ?_
      refine TL_ev env 2 rfl ⟨⟨trivial, ⟨trivial, trivial⟩⟩, ⟨trivial, trivial⟩⟩ ?_
      refine TL_end ?_
      refine tsn ?_
      exact TE_nextr [] n (Nat.lt_succ_self n) (_, _) h1 ⟨rfl, rfl, rfl, rfl, rfl, rfl, trivial⟩ trivial rfl
    · replace h1 := bif_f h1 hb
      refine TC_exit ?_
      refine tsx ?_
      refine tsx ?_
      refine tbe ?_
      obtain rfl := sinj h1
      refine tsn ?_
      exact SP_ren [] _ rfl ⟨rfl, rfl, rfl, trivial⟩ trivial rfl
  · rintro x19 hz
    obtain rfl := hz.symm
    refine TE_go ?_
    refine TC_seq ?_
    refine TC_reg ?_
    refine TL_ev env 5 rfl ⟨trivial, ⟨trivial, ⟨⟨trivial, ⟨trivial, trivial⟩⟩, ⟨⟨trivial, ⟨trivial, (by decide)⟩⟩, ⟨trivial, trivial⟩⟩⟩⟩⟩ ?_
    obtain ⟨r23, hr, h0⟩ := bnd h0
    refine TL_callB [] (fix_Round.ok0 hr) fix_Round.fnb rfl ⟨trivial, ⟨trivial, ⟨trivial, trivial⟩⟩⟩ rfl trivial rfl ?_
    obtain ⟨r24, hr, h0⟩ := bnd h0
    refine TL_callB [] (fix_Clip.ok0 hr) fix_Clip.fnb rfl ⟨trivial, ⟨trivial, ⟨trivial, ⟨trivial, trivial⟩⟩⟩⟩ rfl trivial rfl ?_
    refine TL_ev env 1 rfl ⟨trivial, trivial⟩ ?_
    refine TL_end ?_
    refine TE_go ?_
    refine TC_seq ?_
    refine TC_seq ?_
    refine TC_reg ?_
    refine TL_ev env 2 rfl ⟨trivial, ⟨⟨trivial, ⟨trivial, trivial⟩⟩, trivial⟩⟩ ?_
    refine TL_end ?_
    refine TE_go ?_
    obtain ⟨z1, h1, h0⟩ := bnd h0
    refine TC_cut (α := Int) (fun s => z1 = s) (fun s => [(11, .int .i64 s)]) (fun s => []) ?_ ?_
    · refine TC_cond rfl (fun hb => ?_) (fun hb => ?_)
      · replace h1 := bif_t h1 hb
        refine TC_reg ?_
        refine TL_ev env 3 rfl ⟨trivial, ⟨trivial, ⟨trivial, trivial⟩⟩⟩ ?_
        refine TL_end ?_
        obtain rfl := sinj h1
        refine tsn ?_
        exact SP_ren [] _ rfl ⟨rfl, trivial⟩ trivial rfl
      · replace h1 := bif_f h1 hb
        refine TC_skip ?_
        obtain rfl := sinj h1
        refine tsn ?_
        exact SP_ren [] _ rfl ⟨rfl, trivial⟩ trivial rfl
    · rintro x26 hz
      obtain rfl := hz.symm
      refine TE_go ?_
      refine TC_seq ?_
      refine TC_reg ?_
      refine TL_ev env 3 rfl ⟨trivial, ⟨trivial, ⟨trivial, trivial⟩⟩⟩ ?_
      refine TL_end ?_
      refine TE_go ?_
      refine TC_ret ?_
      obtain rfl := sinj h0
      exact TE_ret env rfl trivial trivial
theorem wave_sine.ok0 {K : Nat} {p0 : Int} {p1 : Int} {q0 : Int} (h0 : wave_sine K p0 p1 = some q0) : Fn Try.prog 92 [.int .i64 p0, .int .i64 p1] [] (.int .i16 q0) [] := wave_sine.ok h0
theorem wave_sine.fnb : fnb Try.prog 92 = true := fnb_of Try.func92 rfl
def wave_Sine.res (_p0 : Int) (_p1 : Int) : Int × Int → MV
  | (q0, q1) => .tup [.int .i16 q0, .int .i64 q1]
def wave_Sine.out (_p0 : Int) (_p1 : Int) : Int × Int → List (Nat × Option MObj)
  | (_, _) => []
theorem wave_Sine.ok {K : Nat} {p0 : Int} {p1 : Int} {r : Int × Int} (h0 : wave_Sine K p0 p1 = some r) : Fn Try.prog 80 [.int .i64 p0, .int .i64 p1] [] (wave_Sine.res p0 p1 r) (wave_Sine.out p0 p1 r) := by
  refine Fn_of Try.func80 rfl (Nat.le_of_ble_eq_true rfl) fun Γ => ?_
  refine TC_seq ?_
  refine TC_reg ?_
  refine TL_ev env 2 rfl ⟨trivial, ⟨trivial, trivial⟩⟩ ?_
  refine TL_end ?_
  refine TE_go ?_
  refine TC_seq ?_
  refine TC_seq ?_
  refine TC_reg ?_
  refine TL_ev env 6 rfl ⟨trivial, ⟨⟨trivial, ⟨trivial, trivial⟩⟩, ⟨trivial, ⟨fun eg => trivial, ⟨fun eg => ⟨fun e => e, ⟨trivial, trivial⟩⟩, ⟨⟨trivial, ⟨trivial, fun e => e⟩⟩, trivial⟩⟩⟩⟩⟩⟩ ?_
  refine TL_end ?_
  refine TE_go ?_
  refine TC_cond rfl (fun hb => ?_) (fun hb => ?_)
  · replace h0 := bif_t h0 hb
    refine TC_seq ?_
    refine TC_reg ?_
    refine TL_ev env 2 rfl ⟨trivial, ⟨trivial, trivial⟩⟩ ?_
    refine TL_end ?_
    refine TE_go ?_
    refine TC_ret ?_
    refine tsr ?_
    obtain rfl := sinj h0
    exact TE_ret env rfl trivial trivial
  · replace h0 := bif_f h0 hb
    refine TC_skip ?_
    refine TE_go ?_
    refine TC_seq ?_
    refine TC_reg ?_
    refine TL_ev env 2 rfl ⟨trivial, ⟨trivial, trivial⟩⟩ ?_
    obtain ⟨r5, hr, h0⟩ := bnd h0
    refine TL_callB [] (wave_sine.ok0 hr) wave_sine.fnb rfl ⟨trivial, ⟨trivial, ⟨trivial, trivial⟩⟩⟩ rfl trivial rfl ?_
    refine TL_ev env 2 rfl ⟨trivial, ⟨trivial, trivial⟩⟩ ?_
    refine TL_end ?_
    refine TE_go ?_
    refine TC_ret ?_
    obtain rfl := sinj h0
    exact TE_ret env rfl trivial trivial
theorem wave_Sine.ok0 {K : Nat} {p0 : Int} {p1 : Int} {q0 : Int} {q1 : Int} (h0 : wave_Sine K p0 p1 = some (q0, q1)) : Fn Try.prog 80 [.int .i64 p0, .int .i64 p1] [] (.tup [.int .i16 q0, .int .i64 q1]) [] := wave_Sine.ok h0
theorem wave_Sine.fnb : fnb Try.prog 80 = true := fnb_of Try.func80 rfl
def wave_Cosine.res (_p0 : Int) (_p1 : Int) : Int × Int → MV
  | (q0, q1) => .tup [.int .i16 q0, .int .i64 q1]
def wave_Cosine.out (_p0 : Int) (_p1 : Int) : Int × Int → List (Nat × Option MObj)
  | (_, _) => []
theorem wave_Cosine.ok {K : Nat} {p0 : Int} {p1 : Int} {r : Int × Int} (h0 : wave_Cosine K p0 p1 = some r) : Fn Try.prog 86 [.int .i64 p0, .int .i64 p1] [] (wave_Cosine.res p0 p1 r) (wave_Cosine.out p0 p1 r) := by
  refine Fn_of Try.func86 rfl (Nat.le_of_ble_eq_true rfl) fun Γ => ?_
  refine TC_seq ?_
  refine TC_reg ?_
  refine TL_ev env 2 rfl ⟨trivial, ⟨trivial, trivial⟩⟩ ?_
  refine TL_end ?_
  refine TE_go ?_
  refine TC_seq ?_
  refine TC_seq ?_
  refine TC_reg ?_
  refine TL_ev env 6 rfl ⟨trivial, ⟨⟨trivial, ⟨trivial, trivial⟩⟩, ⟨trivial, ⟨fun eg => trivial, ⟨fun eg => ⟨fun e => e, ⟨trivial, trivial⟩⟩, ⟨⟨trivial, ⟨trivial, fun e => e⟩⟩, trivial⟩⟩⟩⟩⟩⟩ ?_
  refine TL_end ?_
  refine TE_go ?_
  refine TC_cond rfl (fun hb => ?_) (fun hb => ?_)
  · replace h0 := bif_t h0 hb
    refine TC_seq ?_
    refine TC_reg ?_
    refine TL_ev env 2 rfl ⟨trivial, ⟨trivial, trivial⟩⟩ ?_
    refine TL_end ?_
    refine TE_go ?_
    refine TC_ret ?_
    refine tsr ?_
    obtain rfl := sinj h0
    exact TE_ret env rfl trivial trivial
  · replace h0 := bif_f h0 hb
    refine TC_skip ?_
    refine TE_go ?_
    refine TC_seq ?_
    refine TC_reg ?_
    refine TL_ev env 2 rfl ⟨trivial, ⟨trivial, trivial⟩⟩ ?_
    obtain ⟨r6, hr, h0⟩ := bnd h0
    refine TL_callB [] (wave_modulo.ok0 hr) wave_modulo.fnb rfl ⟨trivial, ⟨trivial, ⟨trivial, trivial⟩⟩⟩ rfl trivial rfl ?_
    refine TL_ev env 5 rfl ⟨⟨trivial, ⟨trivial, trivial⟩⟩, ⟨trivial, ⟨⟨trivial, ⟨trivial, trivial⟩⟩, ⟨trivial, ⟨⟨trivial, ⟨trivial, trivial⟩⟩, trivial⟩⟩⟩⟩⟩ ?_
    obtain ⟨r10, hr, h0⟩ := bnd h0
    refine TL_callB [] (wave_sine.ok0 hr) wave_sine.fnb rfl ⟨trivial, ⟨trivial, ⟨trivial, trivial⟩⟩⟩ rfl trivial rfl ?_
    refine TL_ev env 2 rfl ⟨trivial, ⟨trivial, trivial⟩⟩ ?_
    refine TL_end ?_
    refine TE_go ?_
    refine TC_ret ?_
    obtain rfl := sinj h0
    exact TE_ret env rfl trivial trivial
theorem wave_Cosine.ok0 {K : Nat} {p0 : Int} {p1 : Int} {q0 : Int} {q1 : Int} (h0 : wave_Cosine K p0 p1 = some (q0, q1)) : Fn Try.prog 86 [.int .i64 p0, .int .i64 p1] [] (.tup [.int .i16 q0, .int .i64 q1]) [] := wave_Cosine.ok h0
theorem wave_Cosine.fnb : fnb Try.prog 86 = true := fnb_of Try.func86 rfl
def fix_Sat16.res (_p0 : Int) : Int → MV
  | q0 => .int .i16 q0
def fix_Sat16.out (_p0 : Int) : Int → List (Nat × Option MObj)
  | _ => []
theorem fix_Sat16.ok {K : Nat} {p0 : Int} {r : Int} (h0 : fix_Sat16 K p0 = some r) : Fn Try.prog 47 [.int .i64 p0] [] (fix_Sat16.res p0 r) (fix_Sat16.out p0 r) := by
  refine Fn_of Try.func47 rfl (Nat.le_of_ble_eq_true rfl) fun Γ => ?_
  refine TC_seq ?_
  refine TC_reg ?_
  refine TL_ev env 1 rfl ⟨trivial, trivial⟩ ?_
  refine TL_end ?_
  refine TE_go ?_
  refine TC_seq ?_
  refine TC_reg ?_
  refine TL_ev env 1 rfl ⟨trivial, trivial⟩ ?_
  obtain ⟨r2, hr, h0⟩ := bnd h0
  refine TL_callB [] (fix_within_int64.ok0 hr) fix_within_int64.fnb rfl ⟨trivial, ⟨trivial, ⟨trivial, ⟨trivial, trivial⟩⟩⟩⟩ rfl trivial rfl ?_
  refine TL_ev env 2 rfl ⟨trivial, ⟨trivial, trivial⟩⟩ ?_
  refine TL_end ?_
  refine TE_go ?_
  refine TC_ret ?_
  obtain rfl := sinj h0
  exact TE_ret env rfl trivial trivial
theorem fix_Sat16.ok0 {K : Nat} {p0 : Int} {q0 : Int} (h0 : fix_Sat16 K p0 = some q0) : Fn Try.prog 47 [.int .i64 p0] [] (.int .i16 q0) [] := fix_Sat16.ok h0
theorem fix_Sat16.fnb : fnb Try.prog 47 = true := fnb_of Try.func47 rfl
def bank_filtered.res (_p0 : Int) (_p1 : Int) : Int → MV
  | q0 => .int .i16 q0
def bank_filtered.out (_p0 : Int) (_p1 : Int) : Int → List (Nat × Option MObj)
  | _ => []
theorem bank_filtered.ok {K : Nat} {p0 : Int} {p1 : Int} {r : Int} (h0 : bank_filtered K p0 p1 = some r) : Fn Try.prog 84 [.int .i64 p0, .int .i64 p1] [] (bank_filtered.res p0 p1 r) (bank_filtered.out p0 p1 r) := by
  refine Fn_of Try.func84 rfl (Nat.le_of_ble_eq_true rfl) fun Γ => ?_
  refine TC_seq ?_
  refine TC_reg ?_
  refine TL_ev env 1 rfl ⟨trivial, trivial⟩ ?_
  refine TL_end ?_
  refine TE_go ?_
  refine TC_seq ?_
  refine TC_reg ?_
  refine TL_ev env 1 rfl ⟨trivial, trivial⟩ ?_
  refine TL_end ?_
  refine TE_go ?_
  refine TC_seq ?_
  refine TC_seq ?_
  refine TC_reg ?_
  refine TL_ev env 5 rfl ⟨trivial, ⟨trivial, ⟨⟨trivial, ⟨trivial, trivial⟩⟩, ⟨⟨trivial, ⟨trivial, trivial⟩⟩, ⟨trivial, trivial⟩⟩⟩⟩⟩ ?_
  refine TL_end ?_
  refine TE_go ?_
  refine TC_seq ?_
  refine TC_reg ?_
  refine TL_ev env 2 rfl ⟨trivial, ⟨⟨trivial, ⟨trivial, trivial⟩⟩, trivial⟩⟩ ?_
  refine TL_end ?_
  refine TE_go ?_
  obtain ⟨z1, h1, h0⟩ := bnd h0
  refine TC_cut (α := Int) (fun s => z1 = s) (fun s => [(0, .int .i64 p0), (1, .int .i64 p1), (5, .int .i64 s)]) (fun s => []) ?_ ?_
  · refine TC_cond rfl (fun hb => ?_) (fun hb => ?_)
    · replace h1 := bif_t h1 hb
      refine TC_seq ?_
      refine TC_reg ?_
      refine TL_ev env 4 rfl ⟨trivial, ⟨⟨trivial, ⟨trivial, trivial⟩⟩, ⟨trivial, ⟨⟨trivial, ⟨trivial, trivial⟩⟩, trivial⟩⟩⟩⟩ ?_
      obtain ⟨⟨r34, r35⟩, hr, h1⟩ := bnd h1
      refine TL_callB [] (wave_Sine.ok0 hr) wave_Sine.fnb rfl ⟨trivial, ⟨trivial, ⟨trivial, trivial⟩⟩⟩ rfl trivial rfl ?_
      refine TL_ev env 5 rfl ⟨trivial, ⟨trivial, ⟨trivial, ⟨trivial, ⟨trivial, trivial⟩⟩⟩⟩⟩ ?_
      refine TL_end ?_
      refine TE_go ?_
      refine TC_reg ?_
      obtain ⟨g, h1⟩ := gd_t h1
      refine TL_ev env 9 rfl ⟨trivial, ⟨trivial, ⟨trivial, ⟨⟨trivial, ⟨trivial, trivial⟩⟩, ⟨⟨trivial, ⟨trivial, trivial⟩⟩, ⟨trivial, ⟨⟨trivial, ⟨trivial, trivial⟩⟩, ⟨⟨trivial, ⟨trivial, g⟩⟩, ⟨trivial, trivial⟩⟩⟩⟩⟩⟩⟩⟩⟩ ?_
      refine TL_end ?_
      obtain rfl := sinj h1
      refine tsn ?_
      exact SP_ren [] _ rfl ⟨rfl, rfl, rfl, trivial⟩ trivial rfl
    · replace h1 := bif_f h1 hb
      refine TC_skip ?_
      obtain rfl := sinj h1
      refine tsn ?_
      exact SP_ren [] _ rfl ⟨rfl, rfl, rfl, trivial⟩ trivial rfl
  · rintro x15 hz
    obtain rfl := hz.symm
    refine TE_go ?_
    refine TC_seq ?_
    refine TC_reg ?_
    refine TL_ev env 3 rfl ⟨trivial, ⟨trivial, ⟨⟨trivial, ⟨trivial, trivial⟩⟩, trivial⟩⟩⟩ ?_
    obtain ⟨⟨r17, r18⟩, hr, h0⟩ := bnd h0
    refine TL_callB [] (wave_Cosine.ok0 hr) wave_Cosine.fnb rfl ⟨trivial, ⟨trivial, ⟨trivial, trivial⟩⟩⟩ rfl trivial rfl ?_
    refine TL_ev env 5 rfl ⟨trivial, ⟨trivial, ⟨trivial, ⟨trivial, ⟨trivial, trivial⟩⟩⟩⟩⟩ ?_
    refine TL_end ?_
    refine TE_go ?_
    refine TC_seq ?_
    refine TC_reg ?_
    refine TL_ev env 4 rfl ⟨trivial, ⟨⟨trivial, ⟨trivial, trivial⟩⟩, ⟨trivial, ⟨⟨trivial, ⟨trivial, trivial⟩⟩, trivial⟩⟩⟩⟩ ?_
    obtain ⟨⟨r20, r21⟩, hr, h0⟩ := bnd h0
    refine TL_callB [] (wave_Cosine.ok0 hr) wave_Cosine.fnb rfl ⟨trivial, ⟨trivial, ⟨trivial, trivial⟩⟩⟩ rfl trivial rfl ?_
    refine TL_ev env 5 rfl ⟨trivial, ⟨trivial, ⟨trivial, ⟨trivial, ⟨trivial, trivial⟩⟩⟩⟩⟩ ?_
    refine TL_end ?_
    refine TE_go ?_
    refine TC_seq ?_
    refine TC_reg ?_
    refine TL_ev env 10 rfl ⟨trivial, ⟨trivial, ⟨⟨trivial, ⟨trivial, trivial⟩⟩, ⟨⟨trivial, ⟨trivial, trivial⟩⟩, ⟨trivial, ⟨trivial, ⟨⟨trivial, ⟨trivial, trivial⟩⟩, ⟨⟨trivial, ⟨trivial, trivial⟩⟩, ⟨⟨trivial, ⟨trivial, (by decide)⟩⟩, ⟨trivial, trivial⟩⟩⟩⟩⟩⟩⟩⟩⟩⟩ ?_
    refine TL_end ?_
    refine TE_go ?_
    refine TC_seq ?_
    refine TC_reg ?_
    refine TL_ev env 3 rfl ⟨trivial, ⟨trivial, ⟨⟨trivial, ⟨trivial, trivial⟩⟩, trivial⟩⟩⟩ ?_
    obtain ⟨r28, hr, h0⟩ := bnd h0
    refine TL_callB [] (fix_Round.ok0 hr) fix_Round.fnb rfl ⟨trivial, ⟨trivial, ⟨trivial, trivial⟩⟩⟩ rfl trivial rfl ?_
    refine TL_ev env 1 rfl ⟨⟨trivial, ⟨trivial, trivial⟩⟩, trivial⟩ ?_
    obtain ⟨r30, hr, h0⟩ := bnd h0
    refine TL_callB [] (fix_Round.ok0 hr) fix_Round.fnb rfl ⟨trivial, ⟨trivial, ⟨trivial, trivial⟩⟩⟩ rfl trivial rfl ?_
    obtain ⟨r31, hr, h0⟩ := bnd h0
    refine TL_callB [] (fix_Sat16.ok0 hr) fix_Sat16.fnb rfl ⟨trivial, ⟨trivial, trivial⟩⟩ rfl trivial rfl ?_
    refine TL_ev env 1 rfl ⟨trivial, trivial⟩ ?_
    refine TL_end ?_
    refine TE_go ?_
    refine TC_ret ?_
    obtain rfl := sinj h0
    exact TE_ret env rfl trivial trivial
theorem bank_filtered.ok0 {K : Nat} {p0 : Int} {p1 : Int} {q0 : Int} (h0 : bank_filtered K p0 p1 = some q0) : Fn Try.prog 84 [.int .i64 p0, .int .i64 p1] [] (.int .i16 q0) [] := bank_filtered.ok h0
theorem bank_filtered.fnb : fnb Try.prog 84 = true := fnb_of Try.func84 rfl
def bank_Bank_Filter_1.res (_p0 : Int) (_p1 : Int) : Int → MV
  | q0 => .int .i16 q0
def bank_Bank_Filter_1.out (_p0 : Int) (p1 : Int) : Int → List (Nat × Option MObj)
  | _ => [(0, some (.cells [.int .i64 p1]))]
theorem bank_Bank_Filter_1.ok {K : Nat} {p0 : Int} {p1 : Int} {r : Int} (h0 : bank_Bank_Filter_1 K p0 p1 = some r) : Fn Try.prog 83 [.int .i64 p0, .p 0 0] [(0, some (.cells [.int .i64 p1]))] (bank_Bank_Filter_1.res p0 p1 r) (bank_Bank_Filter_1.out p0 p1 r) := by
  refine Fn_of Try.func83 rfl (Nat.le_of_ble_eq_true rfl) fun Γ => ?_
  refine TC_seq ?_
  refine TC_reg ?_
  refine TL_ev env 1 rfl ⟨trivial, trivial⟩ ?_
  refine TL_end ?_
  refine TE_go ?_
  refine TC_seq ?_
  refine TC_reg ?_
  refine TL_ev env 2 rfl ⟨⟨trivial, trivial⟩, ⟨trivial, trivial⟩⟩ ?_
  obtain ⟨r2, hr, h0⟩ := bnd h0
  refine TL_callB [] (bank_filtered.ok0 hr) bank_filtered.fnb rfl ⟨trivial, ⟨trivial, ⟨trivial, trivial⟩⟩⟩ rfl trivial rfl ?_
  refine TL_ev env 1 rfl ⟨trivial, trivial⟩ ?_
  refine TL_end ?_
  refine TE_go ?_
  refine TC_ret ?_
  obtain rfl := sinj h0
  exact TE_ret env rfl trivial ⟨.inr rfl, trivial⟩
theorem bank_Bank_Filter_1.ok0 {K : Nat} {p0 : Int} {p1 : Int} {q0 : Int} (h0 : bank_Bank_Filter_1 K p0 p1 = some q0) : Fn Try.prog 83 [.int .i64 p0, .p 0 0] [(0, some (.cells [.int .i64 p1]))] (.int .i16 q0) [(0, some (.cells [.int .i64 p1]))] := bank_Bank_Filter_1.ok h0
theorem bank_Bank_Filter_1.fnb : fnb Try.prog 83 = true := fnb_of Try.func83 rfl
theorem sync_atomic_Int64_Add.ok0 {K : Nat} {p0 : Int} {p1 : List (Option (List (Int)))} {p2 : List (Int)} {p3 : List (Option (List (Int)))} {p4 : Int} {p5 : Int} {q0 : Int} (h0 : sync_atomic_Int64_Add K p0 p1 p2 p3 p4 p5 = some q0) : Fn Try.prog 91 [.p 0 1552, .int .i64 p0] [(0, some (.foc (tcs p1) [.int .u32 0, .int .i32 1, .int .u32 0, .im (.slice (.int .i16)) p2] (pst p3 p4 p5)))] (.int .i64 q0) [(0, some (.foc (tcs p1) [.int .u32 0, .int .i32 1, .int .u32 0, .im (.slice (.int .i16)) p2] (pst p3 q0 p5)))] := by
  obtain ⟨g, h0⟩ := gd_t h0
  obtain rfl := sinj h0
  have hF := int64Add_fn (pre := tcs p1) (cs := [.int .u32 0, .int .i32 1, .int .u32 0, .im (.slice (.int .i16)) p2]) (y := p0) (c := 1552) (Lr := []) (by rw [tcs_len]; simp only [List.length_cons, List.length_nil]; omega) (pst_made p3 p4 p5)
  rw [pst_setm] at hF
  exact hF
theorem sync_atomic_Int64_Add.fnb : fnb Try.prog 91 = true := fnb_of Try.func91 rfl
def bank_Bank_tell_1.res (_p0 : List (Option (List (Int)))) (_p1 : List (Option (List (Int)))) (_p2 : Int) (_p3 : Int) (_p4 : Int) (_p5 : Int) : (List (Int)) × Int → MV
  | (_, _) => .tup []
def bank_Bank_tell_1.out (p0 : List (Option (List (Int)))) (p1 : List (Option (List (Int)))) (_p2 : Int) (p3 : Int) (p4 : Int) (p5 : Int) : (List (Int)) × Int → List (Nat × Option MObj)
  | (q0, q1) => [(0, some (.foc (tcs p0) [.int .u32 0, .int .i32 1, .int .u32 0, .im (.slice (.int .i16)) q0] (pst p1 q1 p3))), (1, some (.cells [.int .i64 p4])), (2, some (.cells [.pf 0 (tcs p0).length 0])), (3, some (.cells [.fn 83 [.p 5 0]])), (4, some (.cells [.p 0 0])), (5, some (.cells [.int .i64 p5]))]
theorem bank_Bank_tell_1.ok {K : Nat} {p0 : List (Option (List (Int)))} {p1 : List (Option (List (Int)))} {p2 : Int} {p3 : Int} {p4 : Int} {p5 : Int} {r : (List (Int)) × Int} (h0 : bank_Bank_tell_1 K p0 p1 p2 p3 p4 p5 = some r) : Fn Try.prog 90 [.p 1 0, .p 2 0, .p 3 0, .p 4 0] [(0, some (.foc (tcs p0) [.int .u32 0, .int .i32 1, .int .u32 0, .nils] (pst p1 p2 p3))), (1, some (.cells [.int .i64 p4])), (2, some (.cells [.pf 0 (tcs p0).length 0])), (3, some (.cells [.fn 83 [.p 5 0]])), (4, some (.cells [.p 0 0])), (5, some (.cells [.int .i64 p5]))] (bank_Bank_tell_1.res p0 p1 p2 p3 p4 p5 r) (bank_Bank_tell_1.out p0 p1 p2 p3 p4 p5 r) := by
  refine Fn_of Try.func90 rfl (Nat.le_of_ble_eq_true rfl) fun Γ => ?_
  refine TC_seq ?_
  refine TC_renw (A' := [(0, .p 1 0), (1, .p 2 0), (2, .p 3 0), (3, .p 4 0)]) (L' := [(0, some (.foc (tcs _) [.int .u32 0, .int .i32 1, .int .u32 0, .nils] (pst _ _ _))), (1, some (.cells [.int .i64 _])), (2, some (.cells [.pf 0 (tcs _).length 0])), (3, some (.cells [.fn 83 [.p 5 0]])), (4, some (.cells [.p 0 0])), (5, some (.cells [.int .i64 _]))]) [] ⟨rfl, rfl, rfl, rfl, trivial⟩ ⟨rfl, rfl, rfl, rfl, rfl, rfl, trivial⟩ rfl ?_
  refine TC_drawR ⟨_, fun i => ([[], [], [1], [2, 1, 0], [3, 2, 1, 0], [4, 3, 2, 1, 0]] : List (List Nat)).getD i [], fun i => ([[], [], [1007], [], [], [0]] : List (List Nat)).getD i [], fun i => ([[], [], [1007], [], [], []] : List (List Nat)).getD i []⟩ (fun i => ([[1007], [], [], [], [], []] : List (List Nat)).getD i []) (by kernel_rfl) (by kernel_rfl) ?_
  refine AJR_ev env 1 rfl (Nat.le_of_ble_eq_true rfl) rfl ⟨trivial, trivial⟩ ?_
  refine AJR_ev env 2 rfl (Nat.le_of_ble_eq_true rfl) rfl ⟨trivial, trivial⟩ ?_
  obtain ⟨g, h0⟩ := gd_t h0
  refine AJR_ev env 3 rfl (Nat.le_of_ble_eq_true rfl) rfl ⟨trivial, ⟨trivial, ⟨g.1, ⟨g.2.1, g.2.2⟩⟩⟩⟩ ?_
  refine AJR_ev env 4 rfl (Nat.le_of_ble_eq_true rfl) rfl trivial ?_
  refine AJR_ev env 5 rfl (Nat.le_of_ble_eq_true rfl) rfl trivial ?_
  refine AJR_ev env 6 rfl (Nat.le_of_ble_eq_true rfl) rfl ⟨trivial, ⟨trivial, rfl⟩⟩ ?_
  refine AJR_end rfl rfl rfl ?_
  refine TE_go ?_
  refine TC_seq ?_
  refine TC_seq ?_
  refine TC_reg ?_
  refine TL_ev env 6 rfl ⟨⟨trivial, trivial⟩, ⟨trivial, ⟨trivial, ⟨⟨trivial, rfl⟩, ⟨⟨trivial, trivial⟩, ⟨trivial, trivial⟩⟩⟩⟩⟩⟩ ?_
  refine TL_end ?_
  refine TE_go ?_
  obtain ⟨z1, h1, h0⟩ := bnd h0
  refine TC_cut (α := (List (Int))) (fun s => z1 = s) (fun s => [(3, .p 4 0)]) (fun s => [(0, some (.foc (tcs p0) [.int .u32 0, .int .i32 1, .int .u32 0, .sl 10806] (pst p1 p2 p3))), (1, some (.cells [.int .i64 p4])), (2, some (.cells [.pf 0 (tcs p0).length 0])), (3, some (.cells [.fn 83 [.p 5 0]])), (4, some (.cells [.p 0 0])), (5, some (.cells [.int .i64 p5])), (10806, some (.rows (.int .i16) s))]) ?_ ?_
  · refine TC_blk ?_
    refine TC_loop (α := Int × (List (Int))) (fun n s => bank_Bank_tell_1.l0 K ((List.replicate (Int.toNat p4) (0 : Int)).length : Int) p0 p1 p2 p3 p4 p5 n s.1 s.2 = some z1) (fun s => [(1, .p 2 0), (2, .p 3 0), (3, .p 4 0), (14, .int .i64 ((List.replicate (Int.toNat p4) (0 : Int)).length : Int)), (15, .int .i64 s.1)]) (fun s => [(0, some (.foc (tcs p0) [.int .u32 0, .int .i32 1, .int .u32 0, .sl 11006] (pst p1 p2 p3))), (1, some (.cells [.int .i64 p4])), (2, some (.cells [.pf 0 (tcs p0).length 0])), (3, some (.cells [.fn 83 [.p 5 0]])), (4, some (.cells [.p 0 0])), (5, some (.cells [.int .i64 p5])), (11006, some (.rows (.int .i16) s.2))]) K ?_ ?_
    · exact SP_ren [(11006, 1007)] (_, _) h1 ⟨rfl, rfl, rfl, rfl, rfl, trivial⟩ ⟨rfl, rfl, rfl, rfl, rfl, rfl, rfl, trivial⟩ rfl
    rintro n ⟨x25, x26⟩ h1
    rcases n with _ | n
    · exact (nsome h1).elim
    replace h1 : bank_Bank_tell_1.r0 K ((List.replicate (Int.toNat p4) (0 : Int)).length : Int) p0 p1 p2 p3 p4 p5 (bank_Bank_tell_1.l0 K ((List.replicate (Int.toNat p4) (0 : Int)).length : Int) p0 p1 p2 p3 p4 p5 n) x25 x26 = some z1 := h1
    refine TC_seq ?_
    refine TC_reg ?_
    refine TL_ev env 1 rfl ⟨⟨trivial, ⟨trivial, trivial⟩⟩, trivial⟩ ?_
    refine TL_end ?_
    refine TE_go ?_
    refine TC_seq ?_
    refine TC_cond rfl (fun hb => ?_) (fun hb => ?_)
    · replace h1 := bif_t h1 hb
      refine TC_skip ?_
      refine TE_go ?_
      refine TC_seq ?_
      refine TC_blk ?_
      refine TC_seq ?_
      refine TC_reg ?_
      refine TL_ev env 2 rfl ⟨trivial, ⟨trivial, trivial⟩⟩ ?_
      refine TL_end ?_
      refine TE_go ?_
      refine TC_renw (A' := [(1, .p 2 0), (2, .p 3 0), (3, .p 4 0), (4, .int .i64 _), (14, .int .i64 _), (15, .int .i64 _)]) (L' := [(0, some (.foc (tcs _) [.int .u32 0, .int .i32 1, .int .u32 0, .sl 11006] (pst _ _ _))), (1, some (.cells [.int .i64 _])), (2, some (.cells [.pf 0 (tcs _).length 0])), (3, some (.cells [.fn 83 [.p 5 0]])), (4, some (.cells [.p 0 0])), (5, some (.cells [.int .i64 _])), (11006, some (.rows (.int .i16) _))]) [] ⟨rfl, rfl, rfl, rfl, rfl, rfl, trivial⟩ ⟨rfl, rfl, rfl, rfl, rfl, rfl, rfl, trivial⟩ rfl ?_
      refine TC_drawR ⟨_, fun i => ([[], [0], [1, 0], [2, 1, 0], [], [], [], [6, 5], [7, 6, 5, 4, 3, 2, 1, 0], [8, 7, 6, 5, 4, 3, 2, 1, 0]] : List (List Nat)).getD i [], fun i => ([[], [], [], [], [], [], [], [5], [], [11006]] : List (List Nat)).getD i [], fun i => ([[], [], [], [], [], [], [], [], [], []] : List (List Nat)).getD i []⟩ (fun i => ([[5], [5], [5], [5], [5], [], [], [], [], []] : List (List Nat)).getD i []) (by kernel_rfl) (by kernel_rfl) ?_
      refine AJR_ev env 1 rfl (Nat.le_of_ble_eq_true rfl) rfl ⟨trivial, trivial⟩ ?_
      refine AJR_ev env 2 rfl (Nat.le_of_ble_eq_true rfl) rfl trivial ?_
      refine AJR_ev env 3 rfl (Nat.le_of_ble_eq_true rfl) rfl trivial ?_
      refine AJR_ev env 4 rfl (Nat.le_of_ble_eq_true rfl) rfl ⟨trivial, rfl⟩ ?_
      refine AJR_ev env 5 rfl (Nat.le_of_ble_eq_true rfl) rfl trivial ?_
      refine AJR_ev env 6 rfl (Nat.le_of_ble_eq_true rfl) rfl ⟨trivial, trivial⟩ ?_
      refine AJR_ev env 7 rfl (Nat.le_of_ble_eq_true rfl) rfl trivial ?_
      obtain ⟨r33, hr, h1⟩ := bnd h1
      refine AJR_call 8 rfl (Nat.le_of_ble_eq_true rfl) [(0, 5)] rfl (bank_Bank_Filter_1.ok0 hr) bank_Bank_Filter_1.fnb rfl ⟨trivial, ⟨trivial, trivial⟩⟩ rfl ⟨.inr rfl, trivial⟩ rfl ?_
      obtain ⟨g, h1⟩ := gd_t h1
      refine AJR_ev env 9 rfl (Nat.le_of_ble_eq_true rfl) rfl ⟨trivial, ⟨trivial, ⟨g.1, g.2⟩⟩⟩ ?_
      obtain ⟨g, h1⟩ := gd_t h1
      refine AJR_ev env 10 rfl (Nat.le_of_ble_eq_true rfl) rfl ⟨trivial, ⟨trivial, g⟩⟩ ?_
      refine AJR_end rfl rfl rfl ?_
      refine tbn ?_
      refine TE_go ?_
      refine TC_reg ?_
      refine TL_ev env 2 rfl ⟨⟨trivial, ⟨trivial, trivial⟩⟩, ⟨trivial, trivial⟩⟩ ?_
      refine TL_end ?_
      refine tsn ?_
      exact TE_nextr [(11006, 11006)] n (Nat.lt_succ_self n) (_, _) h1 ⟨rfl, rfl, rfl, rfl, rfl, trivial⟩ ⟨rfl, rfl, rfl, rfl, rfl, rfl, rfl, trivial⟩ rfl
    · replace h1 := bif_f h1 hb
      refine TC_exit ?_
      refine tsx ?_
      refine tsx ?_
      refine tbe ?_
      obtain rfl := sinj h1
      refine tsn ?_
      exact SP_ren [(10806, 11006)] _ rfl ⟨rfl, trivial⟩ ⟨rfl, rfl, rfl, rfl, rfl, rfl, rfl, trivial⟩ rfl
  · rintro x21 hz
    obtain rfl := hz.symm
    refine TE_go ?_
    refine TC_reg ?_
    refine TL_ev env 3 rfl ⟨⟨trivial, trivial⟩, ⟨trivial, ⟨trivial, trivial⟩⟩⟩ ?_
    refine TL_frz 10806 rfl ?_
    obtain ⟨r22, hr, h0⟩ := bnd h0
    refine TL_callB [(0, 0)] (sync_atomic_Int64_Add.ok0 hr) sync_atomic_Int64_Add.fnb rfl ⟨trivial, ⟨trivial, ⟨trivial, trivial⟩⟩⟩ rfl ⟨.inr rfl, trivial⟩ rfl ?_
    refine TL_end ?_
    obtain rfl := sinj h0
    exact TE_end env rfl trivial ⟨.inr rfl, .inr rfl, .inr rfl, .inr rfl, .inr rfl, .inr rfl, trivial⟩
theorem bank_Bank_tell_1.ok0 {K : Nat} {p0 : List (Option (List (Int)))} {p1 : List (Option (List (Int)))} {p2 : Int} {p3 : Int} {p4 : Int} {p5 : Int} {q0 : List (Int)} {q1 : Int} (h0 : bank_Bank_tell_1 K p0 p1 p2 p3 p4 p5 = some (q0, q1)) : Fn Try.prog 90 [.p 1 0, .p 2 0, .p 3 0, .p 4 0] [(0, some (.foc (tcs p0) [.int .u32 0, .int .i32 1, .int .u32 0, .nils] (pst p1 p2 p3))), (1, some (.cells [.int .i64 p4])), (2, some (.cells [.pf 0 (tcs p0).length 0])), (3, some (.cells [.fn 83 [.p 5 0]])), (4, some (.cells [.p 0 0])), (5, some (.cells [.int .i64 p5]))] (.tup []) [(0, some (.foc (tcs p0) [.int .u32 0, .int .i32 1, .int .u32 0, .im (.slice (.int .i16)) q0] (pst p1 q1 p3))), (1, some (.cells [.int .i64 p4])), (2, some (.cells [.pf 0 (tcs p0).length 0])), (3, some (.cells [.fn 83 [.p 5 0]])), (4, some (.cells [.p 0 0])), (5, some (.cells [.int .i64 p5]))] := bank_Bank_tell_1.ok h0
theorem bank_Bank_tell_1.fnb : fnb Try.prog 90 = true := fnb_of Try.func90 rfl
theorem sync_Once_doSlow.ok0 {K : Nat} {p0 : List (Option (List (Int)))} {p1 : List (Option (List (Int)))} {p2 : Int} {p3 : Int} {p4 : Int} {p5 : Int} {q0 : List (Int)} {q1 : Int} (h0 : sync_Once_doSlow K p0 p1 p2 p3 p4 p5 = some (q0, q1)) : Fn Try.prog 98 [.pf 0 (tcs p0).length 0, .fn 90 [.p 1 0, .p 2 0, .p 3 0, .p 4 0]] [(0, some (.foc (tcs p0) [.int .u32 0, .int .i32 0, .int .u32 0, .nils] (pst p1 p2 p3))), (1, some (.cells [.int .i64 p4])), (2, some (.cells [.pf 0 (tcs p0).length 0])), (3, some (.cells [.fn 83 [.p 5 0]])), (4, some (.cells [.p 0 0])), (5, some (.cells [.int .i64 p5]))] (.tup []) [(0, some (.foc (tcs p0) [.int .u32 1, .int .i32 0, .int .u32 0, .im (.slice (.int .i16)) q0] (pst p1 q1 p3))), (1, some (.cells [.int .i64 p4])), (2, some (.cells [.pf 0 (tcs p0).length 0])), (3, some (.cells [.fn 83 [.p 5 0]])), (4, some (.cells [.p 0 0])), (5, some (.cells [.int .i64 p5]))] := by
  exact slow_fn rfl (bank_Bank_tell_1.ok0 h0)
theorem sync_Once_doSlow.fnb : fnb Try.prog 98 = true := fnb_of Try.func98 rfl
def sync_Once_Do.res (_p0 : List (Option (List (Int)))) (_p1 : List (Option (List (Int)))) (_p2 : Int) (_p3 : Int) (_p4 : Int) (_p5 : Int) : (List (Int)) × Int → MV
  | (_, _) => .tup []
def sync_Once_Do.out (p0 : List (Option (List (Int)))) (p1 : List (Option (List (Int)))) (_p2 : Int) (p3 : Int) (p4 : Int) (p5 : Int) : (List (Int)) × Int → List (Nat × Option MObj)
  | (q0, q1) => [(0, some (.foc (tcs p0) [.int .u32 1, .int .i32 0, .int .u32 0, .im (.slice (.int .i16)) q0] (pst p1 q1 p3))), (1, some (.cells [.int .i64 p4])), (2, some (.cells [.pf 0 (tcs p0).length 0])), (3, some (.cells [.fn 83 [.p 5 0]])), (4, some (.cells [.p 0 0])), (5, some (.cells [.int .i64 p5]))]
theorem sync_Once_Do.ok {K : Nat} {p0 : List (Option (List (Int)))} {p1 : List (Option (List (Int)))} {p2 : Int} {p3 : Int} {p4 : Int} {p5 : Int} {r : (List (Int)) × Int} (h0 : sync_Once_Do K p0 p1 p2 p3 p4 p5 = some r) : Fn Try.prog 89 [.pf 0 (tcs p0).length 0, .fn 90 [.p 1 0, .p 2 0, .p 3 0, .p 4 0]] [(0, some (.foc (tcs p0) [.int .u32 0, .int .i32 0, .int .u32 0, .nils] (pst p1 p2 p3))), (1, some (.cells [.int .i64 p4])), (2, some (.cells [.pf 0 (tcs p0).length 0])), (3, some (.cells [.fn 83 [.p 5 0]])), (4, some (.cells [.p 0 0])), (5, some (.cells [.int .i64 p5]))] (sync_Once_Do.res p0 p1 p2 p3 p4 p5 r) (sync_Once_Do.out p0 p1 p2 p3 p4 p5 r) := by
  refine Fn_of Try.func89 rfl (Nat.le_of_ble_eq_true rfl) fun Γ => ?_
  refine TC_seq ?_
  refine TC_reg ?_
  refine TL_ev env 3 rfl ⟨trivial, ⟨trivial, ⟨trivial, trivial⟩⟩⟩ ?_
  obtain ⟨⟨⟩, hr, h0⟩ := bnd h0
  refine TL_callB [(0, 0)] (sync_atomic_Bool_Load.ok0 hr) sync_atomic_Bool_Load.fnb rfl ⟨trivial, ⟨trivial, trivial⟩⟩ rfl ⟨.inr rfl, trivial⟩ rfl ?_
  refine TL_ev env 1 rfl ⟨trivial, trivial⟩ ?_
  refine TL_end ?_
  refine TE_go ?_
  refine TC_cond rfl (fun hb => ?_) (fun hb => ?_)
  · refine TC_reg ?_
    refine TL_ev env 2 rfl ⟨trivial, ⟨trivial, trivial⟩⟩ ?_
    obtain ⟨⟨r3, r4⟩, hr, h0⟩ := bnd h0
    refine TL_callB [(0, 0), (1, 1), (2, 2), (3, 3), (4, 4), (5, 5)] (sync_Once_doSlow.ok0 hr) sync_Once_doSlow.fnb rfl ⟨trivial, ⟨trivial, ⟨trivial, trivial⟩⟩⟩ rfl ⟨.inr rfl, .inr rfl, .inr rfl, .inr rfl, .inr rfl, .inr rfl, trivial⟩ rfl ?_
    refine TL_end ?_
    obtain rfl := sinj h0
    exact TE_end env rfl trivial ⟨.inr rfl, .inr rfl, .inr rfl, .inr rfl, .inr rfl, .inr rfl, trivial⟩
  · first | exact (ftf hb).elim | exact (tff hb).elim | exact absurd hb (by decide)
theorem sync_Once_Do.ok0 {K : Nat} {p0 : List (Option (List (Int)))} {p1 : List (Option (List (Int)))} {p2 : Int} {p3 : Int} {p4 : Int} {p5 : Int} {q0 : List (Int)} {q1 : Int} (h0 : sync_Once_Do K p0 p1 p2 p3 p4 p5 = some (q0, q1)) : Fn Try.prog 89 [.pf 0 (tcs p0).length 0, .fn 90 [.p 1 0, .p 2 0, .p 3 0, .p 4 0]] [(0, some (.foc (tcs p0) [.int .u32 0, .int .i32 0, .int .u32 0, .nils] (pst p1 p2 p3))), (1, some (.cells [.int .i64 p4])), (2, some (.cells [.pf 0 (tcs p0).length 0])), (3, some (.cells [.fn 83 [.p 5 0]])), (4, some (.cells [.p 0 0])), (5, some (.cells [.int .i64 p5]))] (.tup []) [(0, some (.foc (tcs p0) [.int .u32 1, .int .i32 0, .int .u32 0, .im (.slice (.int .i16)) q0] (pst p1 q1 p3))), (1, some (.cells [.int .i64 p4])), (2, some (.cells [.pf 0 (tcs p0).length 0])), (3, some (.cells [.fn 83 [.p 5 0]])), (4, some (.cells [.p 0 0])), (5, some (.cells [.int .i64 p5]))] := sync_Once_Do.ok h0
theorem sync_Once_Do.fnb : fnb Try.prog 89 = true := fnb_of Try.func89 rfl
theorem sync_atomic_Int64_Add_2.ok0 {K : Nat} {p0 : Int} {p1 : List (Option (List (Int)))} {p2 : List (Int)} {p3 : List (Option (List (Int)))} {p4 : Int} {p5 : Int} {q0 : Int} (h0 : sync_atomic_Int64_Add_2 K p0 p1 p2 p3 p4 p5 = some q0) : Fn Try.prog 91 [.p 0 1553, .int .i64 p0] [(0, some (.foc (tcs p1) [.int .u32 1, .int .i32 0, .int .u32 0, .im (.slice (.int .i16)) p2] (pst p3 p4 p5)))] (.int .i64 q0) [(0, some (.foc (tcs p1) [.int .u32 1, .int .i32 0, .int .u32 0, .im (.slice (.int .i16)) p2] (pst p3 p4 q0)))] := by
  obtain ⟨g, h0⟩ := gd_t h0
  obtain rfl := sinj h0
  have hF := int64Add_fn (pre := tcs p1) (cs := [.int .u32 1, .int .i32 0, .int .u32 0, .im (.slice (.int .i16)) p2]) (y := p0) (c := 1553) (Lr := []) (by rw [tcs_len]; simp only [List.length_cons, List.length_nil]; omega) (pst_told p3 p4 p5)
  rw [pst_sett] at hF
  exact hF
theorem sync_atomic_Int64_Add_2.fnb : fnb Try.prog 91 = true := fnb_of Try.func91 rfl
def slices_Clone_int16_int16.res (_p0 : List (Int)) : (List (Int)) → MV
  | q0 => .im (.slice (.int .i16)) q0
def slices_Clone_int16_int16.out (_p0 : List (Int)) : (List (Int)) → List (Nat × Option MObj)
  | _ => []
theorem slices_Clone_int16_int16.ok {K : Nat} {p0 : List (Int)} {r : (List (Int))} (h0 : slices_Clone_int16_int16 K p0 = some r) : Fn Try.prog 63 [.im (.slice (.int .i16)) p0] [] (slices_Clone_int16_int16.res p0 r) (slices_Clone_int16_int16.out p0 r) := by
  refine Fn_of Try.func63 rfl (Nat.le_of_ble_eq_true rfl) fun Γ => ?_
  refine TC_seq ?_
  refine TC_reg ?_
  refine TL_ev env 1 rfl ⟨trivial, trivial⟩ ?_
  refine TL_end ?_
  refine TE_go ?_
  refine TC_seq ?_
  refine TC_seq ?_
  refine TC_reg ?_
  obtain ⟨g, h0⟩ := gd_t h0
  refine TL_ev env 2 rfl ⟨trivial, ⟨⟨trivial, ⟨trivial, g⟩⟩, trivial⟩⟩ ?_
  refine TL_end ?_
  refine TE_go ?_
  refine TC_cond rfl (fun hb => ?_) (fun hb => ?_)
  · first | exact (ftf hb).elim | exact (tff hb).elim | exact absurd hb (by decide)
  · refine TC_skip ?_
    refine TE_go ?_
    refine TC_seq ?_
    refine TC_reg ?_
    obtain ⟨g, h0⟩ := gd_t h0
    refine TL_ev env 4 rfl ⟨trivial, ⟨trivial, ⟨⟨⟨trivial, ⟨trivial, trivial⟩⟩, g⟩, ⟨trivial, trivial⟩⟩⟩⟩ ?_
    refine TL_end ?_
    refine TE_go ?_
    refine TC_ret ?_
    refine TE_frz 1007 rfl ?_
    obtain rfl := sinj h0
    exact TE_ret env rfl trivial trivial
theorem slices_Clone_int16_int16.ok0 {K : Nat} {p0 : List (Int)} {q0 : List (Int)} (h0 : slices_Clone_int16_int16 K p0 = some q0) : Fn Try.prog 63 [.im (.slice (.int .i16)) p0] [] (.im (.slice (.int .i16)) q0) [] := slices_Clone_int16_int16.ok h0
theorem slices_Clone_int16_int16.fnb : fnb Try.prog 63 = true := fnb_of Try.func63 rfl
def bank_Bank_tell.res (_t0 : List (Option (List (Int)))) (_t1 : List (Option (List (Int)))) (_p1 : Int) (_p3 : Int) (_p4 : Int) (_p5 : Int) : (List (Int)) × (List (Int)) × Int × Int → MV
  | (q0, _, _, _) => .tup [.im (.slice (.int .i16)) q0, .int .i64 0]
def bank_Bank_tell.out (t0 : List (Option (List (Int)))) (t1 : List (Option (List (Int)))) (_p1 : Int) (_p3 : Int) (_p4 : Int) (p5 : Int) : (List (Int)) × (List (Int)) × Int × Int → List (Nat × Option MObj)
  | (_, q1, q2, q3) => [(0, some (.foc (tcs t0) [.int .u32 1, .int .i32 0, .int .u32 0, .im (.slice (.int .i16)) q1] (pst t1 q2 q3))), (1, some (.cells [.int .i64 p5]))]
theorem bank_Bank_tell.ok {K : Nat} {t0 : List (Option (List (Int)))} {t1 : List (Option (List (Int)))} {p1 : Int} {p3 : Int} {p4 : Int} {p5 : Int} {r : (List (Int)) × (List (Int)) × Int × Int} (h0 : bank_Bank_tell K t0 t1 p1 p3 p4 p5 = some r) : Fn Try.prog 78 [.p 0 0, .pf 0 (tcs t0).length 0, .int .i64 p1, .fn 83 [.p 1 0]] [(0, some (.foc (tcs t0) [.int .u32 0, .int .i32 0, .int .u32 0, .nils] (pst t1 p3 p4))), (1, some (.cells [.int .i64 p5]))] (bank_Bank_tell.res t0 t1 p1 p3 p4 p5 r) (bank_Bank_tell.out t0 t1 p1 p3 p4 p5 r) := by
  refine Fn_of Try.func78 rfl (Nat.le_of_ble_eq_true rfl) fun Γ => ?_
  refine TC_seq ?_
  refine TC_reg ?_
  refine TL_ev env 6 rfl ⟨trivial, ⟨trivial, ⟨trivial, ⟨trivial, ⟨trivial, ⟨trivial, trivial⟩⟩⟩⟩⟩⟩ ?_
  refine TL_end ?_
  refine TE_go ?_
  refine TC_seq ?_
  refine TC_reg ?_
  refine TL_ev env 4 rfl ⟨⟨trivial, trivial⟩, ⟨trivial, ⟨trivial, ⟨⟨trivial, ⟨trivial, ⟨trivial, ⟨trivial, trivial⟩⟩⟩⟩, trivial⟩⟩⟩⟩ ?_
  obtain ⟨⟨r5, r6⟩, hr, h0⟩ := bnd h0
  refine TL_callB [(0, 0), (1, 1006), (2, 1005), (3, 1007), (4, 1004), (5, 1)] (sync_Once_Do.ok0 hr) sync_Once_Do.fnb rfl ⟨trivial, ⟨trivial, ⟨trivial, trivial⟩⟩⟩ rfl ⟨.inr rfl, .inr rfl, .inr rfl, .inr rfl, .inr rfl, .inr rfl, trivial⟩ rfl ?_
  refine TL_end ?_
  refine TE_go ?_
  refine TC_seq ?_
  refine TC_reg ?_
  refine TL_ev env 3 rfl ⟨⟨trivial, trivial⟩, ⟨trivial, ⟨trivial, trivial⟩⟩⟩ ?_
  obtain ⟨r7, hr, h0⟩ := bnd h0
  refine TL_callB [(0, 0)] (sync_atomic_Int64_Add_2.ok0 hr) sync_atomic_Int64_Add_2.fnb rfl ⟨trivial, ⟨trivial, ⟨trivial, trivial⟩⟩⟩ rfl ⟨.inr rfl, trivial⟩ rfl ?_
  refine TL_end ?_
  refine TE_go ?_
  refine TC_seq ?_
  refine TC_reg ?_
  refine TL_ev env 4 rfl ⟨⟨trivial, trivial⟩, ⟨trivial, ⟨trivial, ⟨⟨trivial, rfl⟩, trivial⟩⟩⟩⟩ ?_
  obtain ⟨r8, hr, h0⟩ := bnd h0
  refine TL_callB [] (slices_Clone_int16_int16.ok0 hr) slices_Clone_int16_int16.fnb rfl ⟨trivial, ⟨trivial, trivial⟩⟩ rfl trivial rfl ?_
  refine TL_ev env 2 rfl ⟨trivial, ⟨trivial, trivial⟩⟩ ?_
  refine TL_end ?_
  refine TE_go ?_
  refine TC_ret ?_
  obtain rfl := sinj h0
  exact TE_ret env rfl trivial ⟨.inr rfl, .inr rfl, trivial⟩
theorem bank_Bank_tell.ok0 {K : Nat} {t0 : List (Option (List (Int)))} {t1 : List (Option (List (Int)))} {p1 : Int} {p3 : Int} {p4 : Int} {p5 : Int} {q0 : List (Int)} {q1 : List (Int)} {q2 : Int} {q3 : Int} (h0 : bank_Bank_tell K t0 t1 p1 p3 p4 p5 = some (q0, q1, q2, q3)) : Fn Try.prog 78 [.p 0 0, .pf 0 (tcs t0).length 0, .int .i64 p1, .fn 83 [.p 1 0]] [(0, some (.foc (tcs t0) [.int .u32 0, .int .i32 0, .int .u32 0, .nils] (pst t1 p3 p4))), (1, some (.cells [.int .i64 p5]))] (.tup [.im (.slice (.int .i16)) q0, .int .i64 0]) [(0, some (.foc (tcs t0) [.int .u32 1, .int .i32 0, .int .u32 0, .im (.slice (.int .i16)) q1] (pst t1 q2 q3))), (1, some (.cells [.int .i64 p5]))] := bank_Bank_tell.ok h0
theorem bank_Bank_tell.fnb : fnb Try.prog 78 = true := fnb_of Try.func78 rfl
theorem sync_atomic_Bool_Load_2.ok0 {K : Nat} {p0 : List (Option (List (Int)))} {p1 : List (Int)} {p2 : List (Option (List (Int)))} {p3 : Int} {p4 : Int} (h0 : sync_atomic_Bool_Load_2 K p0 p1 p2 p3 p4 = some ()) : Fn Try.prog 97 [.pf 0 (tcs p0).length 0] [(0, some (.foc (tcs p0) [.int .u32 1, .int .i32 0, .int .u32 0, .im (.slice (.int .i16)) p1] (pst p2 p3 p4)))] (.bool true) [(0, some (.foc (tcs p0) [.int .u32 1, .int .i32 0, .int .u32 0, .im (.slice (.int .i16)) p1] (pst p2 p3 p4)))] := by
  exact boolLoad_fn rfl
theorem sync_atomic_Bool_Load_2.fnb : fnb Try.prog 97 = true := fnb_of Try.func97 rfl
def sync_Once_Do_2.res (_p0 : List (Option (List (Int)))) (_p1 : List (Int)) (_p2 : List (Option (List (Int)))) (_p3 : Int) (_p4 : Int) (_p5 : Int) (_p6 : Int) : Unit → MV
  | () => .tup []
def sync_Once_Do_2.out (p0 : List (Option (List (Int)))) (p1 : List (Int)) (p2 : List (Option (List (Int)))) (p3 : Int) (p4 : Int) (p5 : Int) (p6 : Int) : Unit → List (Nat × Option MObj)
  | () => [(0, some (.foc (tcs p0) [.int .u32 1, .int .i32 0, .int .u32 0, .im (.slice (.int .i16)) p1] (pst p2 p3 p4))), (1, some (.cells [.int .i64 p5])), (2, some (.cells [.pf 0 (tcs p0).length 0])), (3, some (.cells [.fn 83 [.p 5 0]])), (4, some (.cells [.p 0 0])), (5, some (.cells [.int .i64 p6]))]
theorem sync_Once_Do_2.ok {K : Nat} {p0 : List (Option (List (Int)))} {p1 : List (Int)} {p2 : List (Option (List (Int)))} {p3 : Int} {p4 : Int} {p5 : Int} {p6 : Int} {r : Unit} (h0 : sync_Once_Do_2 K p0 p1 p2 p3 p4 p5 p6 = some r) : Fn Try.prog 89 [.pf 0 (tcs p0).length 0, .fn 90 [.p 1 0, .p 2 0, .p 3 0, .p 4 0]] [(0, some (.foc (tcs p0) [.int .u32 1, .int .i32 0, .int .u32 0, .im (.slice (.int .i16)) p1] (pst p2 p3 p4))), (1, some (.cells [.int .i64 p5])), (2, some (.cells [.pf 0 (tcs p0).length 0])), (3, some (.cells [.fn 83 [.p 5 0]])), (4, some (.cells [.p 0 0])), (5, some (.cells [.int .i64 p6]))] (sync_Once_Do_2.res p0 p1 p2 p3 p4 p5 p6 r) (sync_Once_Do_2.out p0 p1 p2 p3 p4 p5 p6 r) := by
  refine Fn_of Try.func89 rfl (Nat.le_of_ble_eq_true rfl) fun Γ => ?_
  unfold sync_Once_Do_2 at h0
  refine TC_seq ?_
  refine TC_reg ?_
  refine TL_ev env 3 rfl ⟨trivial, ⟨trivial, ⟨trivial, trivial⟩⟩⟩ ?_
  obtain ⟨⟨⟩, hr, h0⟩ := bnd h0
  refine TL_callB [(0, 0)] (sync_atomic_Bool_Load_2.ok0 hr) sync_atomic_Bool_Load_2.fnb rfl ⟨trivial, ⟨trivial, trivial⟩⟩ rfl ⟨.inr rfl, trivial⟩ rfl ?_
  refine TL_ev env 1 rfl ⟨trivial, trivial⟩ ?_
  refine TL_end ?_
  refine TE_go ?_
  refine TC_cond rfl (fun hb => ?_) (fun hb => ?_)
  · first | exact (ftf hb).elim | exact (tff hb).elim | exact absurd hb (by decide)
  · refine TC_skip ?_
    obtain rfl := sinj h0
    exact TE_end env rfl trivial ⟨.inr rfl, .inr rfl, .inr rfl, .inr rfl, .inr rfl, .inr rfl, trivial⟩
theorem sync_Once_Do_2.ok0 {K : Nat} {p0 : List (Option (List (Int)))} {p1 : List (Int)} {p2 : List (Option (List (Int)))} {p3 : Int} {p4 : Int} {p5 : Int} {p6 : Int}  (h0 : sync_Once_Do_2 K p0 p1 p2 p3 p4 p5 p6 = some ()) : Fn Try.prog 89 [.pf 0 (tcs p0).length 0, .fn 90 [.p 1 0, .p 2 0, .p 3 0, .p 4 0]] [(0, some (.foc (tcs p0) [.int .u32 1, .int .i32 0, .int .u32 0, .im (.slice (.int .i16)) p1] (pst p2 p3 p4))), (1, some (.cells [.int .i64 p5])), (2, some (.cells [.pf 0 (tcs p0).length 0])), (3, some (.cells [.fn 83 [.p 5 0]])), (4, some (.cells [.p 0 0])), (5, some (.cells [.int .i64 p6]))] (.tup []) [(0, some (.foc (tcs p0) [.int .u32 1, .int .i32 0, .int .u32 0, .im (.slice (.int .i16)) p1] (pst p2 p3 p4))), (1, some (.cells [.int .i64 p5])), (2, some (.cells [.pf 0 (tcs p0).length 0])), (3, some (.cells [.fn 83 [.p 5 0]])), (4, some (.cells [.p 0 0])), (5, some (.cells [.int .i64 p6]))] := sync_Once_Do_2.ok h0
theorem sync_Once_Do_2.fnb : fnb Try.prog 89 = true := fnb_of Try.func89 rfl
def bank_Bank_tell_2.res (_t0 : List (Option (List (Int)))) (_t1 : List (Option (List (Int)))) (_l : List (Int)) (_p1 : Int) (_p3 : Int) (_p4 : Int) (_p5 : Int) : (List (Int)) × Int → MV
  | (q0, _) => .tup [.im (.slice (.int .i16)) q0, .int .i64 0]
def bank_Bank_tell_2.out (t0 : List (Option (List (Int)))) (t1 : List (Option (List (Int)))) (l : List (Int)) (_p1 : Int) (p3 : Int) (_p4 : Int) (p5 : Int) : (List (Int)) × Int → List (Nat × Option MObj)
  | (_, q1) => [(0, some (.foc (tcs t0) [.int .u32 1, .int .i32 0, .int .u32 0, .im (.slice (.int .i16)) l] (pst t1 p3 q1))), (1, some (.cells [.int .i64 p5]))]
theorem bank_Bank_tell_2.ok {K : Nat} {t0 : List (Option (List (Int)))} {t1 : List (Option (List (Int)))} {l : List (Int)} {p1 : Int} {p3 : Int} {p4 : Int} {p5 : Int} {r : (List (Int)) × Int} (h0 : bank_Bank_tell_2 K t0 t1 l p1 p3 p4 p5 = some r) : Fn Try.prog 78 [.p 0 0, .pf 0 (tcs t0).length 0, .int .i64 p1, .fn 83 [.p 1 0]] [(0, some (.foc (tcs t0) [.int .u32 1, .int .i32 0, .int .u32 0, .im (.slice (.int .i16)) l] (pst t1 p3 p4))), (1, some (.cells [.int .i64 p5]))] (bank_Bank_tell_2.res t0 t1 l p1 p3 p4 p5 r) (bank_Bank_tell_2.out t0 t1 l p1 p3 p4 p5 r) := by
  refine Fn_of Try.func78 rfl (Nat.le_of_ble_eq_true rfl) fun Γ => ?_
  refine TC_seq ?_
  refine TC_reg ?_
  refine TL_ev env 6 rfl ⟨trivial, ⟨trivial, ⟨trivial, ⟨trivial, ⟨trivial, ⟨trivial, trivial⟩⟩⟩⟩⟩⟩ ?_
  refine TL_end ?_
  refine TE_go ?_
  refine TC_seq ?_
  refine TC_reg ?_
  refine TL_ev env 4 rfl ⟨⟨trivial, trivial⟩, ⟨trivial, ⟨trivial, ⟨⟨trivial, ⟨trivial, ⟨trivial, ⟨trivial, trivial⟩⟩⟩⟩, trivial⟩⟩⟩⟩ ?_
  obtain ⟨⟨⟩, hr, h0⟩ := bnd h0
  refine TL_callB [(0, 0), (1, 1006), (2, 1005), (3, 1007), (4, 1004), (5, 1)] (sync_Once_Do_2.ok0 hr) sync_Once_Do_2.fnb rfl ⟨trivial, ⟨trivial, ⟨trivial, trivial⟩⟩⟩ rfl ⟨.inr rfl, .inr rfl, .inr rfl, .inr rfl, .inr rfl, .inr rfl, trivial⟩ rfl ?_
  refine TL_end ?_
  refine TE_go ?_
  refine TC_seq ?_
  refine TC_reg ?_
  refine TL_ev env 3 rfl ⟨⟨trivial, trivial⟩, ⟨trivial, ⟨trivial, trivial⟩⟩⟩ ?_
  obtain ⟨r3, hr, h0⟩ := bnd h0
  refine TL_callB [(0, 0)] (sync_atomic_Int64_Add_2.ok0 hr) sync_atomic_Int64_Add_2.fnb rfl ⟨trivial, ⟨trivial, ⟨trivial, trivial⟩⟩⟩ rfl ⟨.inr rfl, trivial⟩ rfl ?_
  refine TL_end ?_
  refine TE_go ?_
  refine TC_seq ?_
  refine TC_reg ?_
  refine TL_ev env 4 rfl ⟨⟨trivial, trivial⟩, ⟨trivial, ⟨trivial, ⟨⟨trivial, rfl⟩, trivial⟩⟩⟩⟩ ?_
  obtain ⟨r4, hr, h0⟩ := bnd h0
  refine TL_callB [] (slices_Clone_int16_int16.ok0 hr) slices_Clone_int16_int16.fnb rfl ⟨trivial, ⟨trivial, trivial⟩⟩ rfl trivial rfl ?_
  refine TL_ev env 2 rfl ⟨trivial, ⟨trivial, trivial⟩⟩ ?_
  refine TL_end ?_
  refine TE_go ?_
  refine TC_ret ?_
  obtain rfl := sinj h0
  exact TE_ret env rfl trivial ⟨.inr rfl, .inr rfl, trivial⟩
theorem bank_Bank_tell_2.ok0 {K : Nat} {t0 : List (Option (List (Int)))} {t1 : List (Option (List (Int)))} {l : List (Int)} {p1 : Int} {p3 : Int} {p4 : Int} {p5 : Int} {q0 : List (Int)} {q1 : Int} (h0 : bank_Bank_tell_2 K t0 t1 l p1 p3 p4 p5 = some (q0, q1)) : Fn Try.prog 78 [.p 0 0, .pf 0 (tcs t0).length 0, .int .i64 p1, .fn 83 [.p 1 0]] [(0, some (.foc (tcs t0) [.int .u32 1, .int .i32 0, .int .u32 0, .im (.slice (.int .i16)) l] (pst t1 p3 p4))), (1, some (.cells [.int .i64 p5]))] (.tup [.im (.slice (.int .i16)) q0, .int .i64 0]) [(0, some (.foc (tcs t0) [.int .u32 1, .int .i32 0, .int .u32 0, .im (.slice (.int .i16)) l] (pst t1 p3 q1))), (1, some (.cells [.int .i64 p5]))] := bank_Bank_tell_2.ok h0
theorem bank_Bank_tell_2.fnb : fnb Try.prog 78 = true := fnb_of Try.func78 rfl
theorem bank_Bank_tell_3.ok0 {K : Nat} {p0 : Nat} {p1 : Int} {p2 : List (Option (List (Int)))} {p3 : Int} {p4 : Int} {p5 : Int} {q0 : List (Int)} {q1 : List (Option (List (Int)))} {q2 : Int} {q3 : Int} (h0 : bank_Bank_tell_3 K p0 p1 p2 p3 p4 p5 = some (q0, q1, q2, q3)) : Fn Try.prog 78 [.p 0 0, .p 0 p0, .int .i64 p1, .fn 83 [.p 1 0]] [(0, some (.ab (bkA p2 p3 p4))), (1, some (.cells [.int .i64 p5]))] (.tup [.im (.slice (.int .i16)) q0, .int .i64 0]) [(0, some (.ab (bkA q1 q2 q3))), (1, some (.cells [.int .i64 p5]))] := by
  unfold bank_Bank_tell_3 at h0
  obtain ⟨⟨g1, g2, g3⟩, h0⟩ := gd_t h0
  split at h0
  · rename_i hx
    obtain ⟨⟨q0', q1', q2', q3'⟩, hr, h0⟩ := bnd h0
    simp only [Option.some.injEq, Prod.mk.injEq] at h0
    obtain ⟨rfl, rfl, rfl, rfl⟩ := h0
    have hF := tell_fn (x := none) (x' := some q1') (bank_Bank_tell.ok0 hr)
    rw [tk hx, tcs_at g1 g2 g3] at hF
    exact hF
  · rename_i l hx
    obtain ⟨⟨q0', q1'⟩, hr, h0⟩ := bnd h0
    simp only [Option.some.injEq, Prod.mk.injEq] at h0
    obtain ⟨rfl, rfl, rfl, rfl⟩ := h0
    have hF := tell_fn (x := some l) (x' := some l) (bank_Bank_tell_2.ok0 hr)
    rw [tk hx, tcs_at g1 g2 g3] at hF
    exact hF
  · cases h0
theorem bank_Bank_tell_3.fnb : fnb Try.prog 78 = true := fnb_of Try.func78 rfl
def bank_Bank_Filter.res (_p0 : Int) (_p1 : List (Option (List (Int)))) (_p2 : Int) (_p3 : Int) : (Unit) ⊕ ((List (Int)) × (List (Option (List (Int)))) × Int × Int) → MV
  | .inl () => .tup [.nils, .int .i64 1]
  | .inr (q0, _, _, _) => .tup [.im (.slice (.int .i16)) q0, .int .i64 0]
def bank_Bank_Filter.out (_p0 : Int) (p1 : List (Option (List (Int)))) (p2 : Int) (p3 : Int) : (Unit) ⊕ ((List (Int)) × (List (Option (List (Int)))) × Int × Int) → List (Nat × Option MObj)
  | .inl () => [(0, some (.ab (bkA p1 p2 p3)))]
  | .inr (_, q1, q2, q3) => [(0, some (.ab (bkA q1 q2 q3)))]
theorem bank_Bank_Filter.ok {K : Nat} {p0 : Int} {p1 : List (Option (List (Int)))} {p2 : Int} {p3 : Int} {r : (Unit) ⊕ ((List (Int)) × (List (Option (List (Int)))) × Int × Int)} (h0 : bank_Bank_Filter K p0 p1 p2 p3 = some r) : Fn Try.prog 68 [.p 0 0, .int .i64 p0] [(0, some (.ab (bkA p1 p2 p3)))] (bank_Bank_Filter.res p0 p1 p2 p3 r) (bank_Bank_Filter.out p0 p1 p2 p3 r) := by
  refine Fn_of Try.func68 rfl (Nat.le_of_ble_eq_true rfl) fun Γ => ?_
  refine TC_seq ?_
  refine TC_reg ?_
  refine TL_ev env 3 rfl ⟨trivial, ⟨trivial, ⟨trivial, trivial⟩⟩⟩ ?_
  refine TL_end ?_
  refine TE_go ?_
  refine TC_seq ?_
  refine TC_seq ?_
  refine TC_reg ?_
  refine TL_ev env 7 rfl ⟨trivial, ⟨⟨trivial, trivial⟩, ⟨⟨trivial, ⟨trivial, trivial⟩⟩, ⟨trivial, ⟨fun eg => ⟨trivial, trivial⟩, ⟨fun eg => ⟨fun e => e, ⟨trivial, trivial⟩⟩, ⟨⟨trivial, ⟨trivial, fun e => e⟩⟩, trivial⟩⟩⟩⟩⟩⟩⟩ ?_
  obtain ⟨z, hr, h0⟩ := bnd h0
  rcases z with ⟨⟩ | ⟨⟩
  · refine TL_callB [(0, 0)] (bank_Bank_may.ok0 hr) bank_Bank_may.fnb rfl ⟨trivial, ⟨trivial, ⟨trivial, trivial⟩⟩⟩ rfl ⟨.inr rfl, trivial⟩ rfl ?_
    refine TL_ev env 1 rfl ⟨trivial, trivial⟩ ?_
    refine TL_end ?_
    refine TE_go ?_
    refine TC_seq ?_
    refine TC_reg ?_
    refine TL_ev env 2 rfl ⟨trivial, ⟨⟨trivial, ⟨trivial, trivial⟩⟩, trivial⟩⟩ ?_
    refine TL_end ?_
    refine TE_go ?_
    refine TC_cond rfl (fun hb => ?_) (fun hb => ?_)
    · refine TC_seq ?_
      refine TC_reg ?_
      refine TL_ev env 3 rfl ⟨trivial, ⟨trivial, ⟨trivial, trivial⟩⟩⟩ ?_
      refine TL_end ?_
      refine TE_go ?_
      refine TC_ret ?_
      refine tsr ?_
      obtain rfl := sinj h0
      exact TE_ret env rfl trivial ⟨.inr rfl, trivial⟩
    · first | exact (ftf hb).elim | exact (tff hb).elim | exact absurd hb (by decide)
  · refine TL_callB [(0, 0)] (bank_Bank_may.ok1 hr) bank_Bank_may.fnb rfl ⟨trivial, ⟨trivial, ⟨trivial, trivial⟩⟩⟩ rfl ⟨.inr rfl, trivial⟩ rfl ?_
    refine TL_ev env 1 rfl ⟨trivial, trivial⟩ ?_
    refine TL_end ?_
    refine TE_go ?_
    refine TC_seq ?_
    refine TC_reg ?_
    refine TL_ev env 2 rfl ⟨trivial, ⟨⟨trivial, ⟨trivial, trivial⟩⟩, trivial⟩⟩ ?_
    refine TL_end ?_
    refine TE_go ?_
    refine TC_cond rfl (fun hb => ?_) (fun hb => ?_)
    · first | exact (ftf hb).elim | exact (tff hb).elim | exact absurd hb (by decide)
    · refine TC_skip ?_
      refine TE_go ?_
      refine TC_seq ?_
      refine TC_renw (A' := [(0, .p 0 0), (3, .p 1003 0), (4, .nils), (5, .int .i64 0)]) (L' := [(0, some (.ab (bkA _ _ _))), (1003, some (.cells [.int .i64 _]))]) [] ⟨rfl, rfl, rfl, rfl, trivial⟩ ⟨rfl, rfl, trivial⟩ rfl ?_
      refine TC_drawR ⟨_, fun i => ([[], [], [], [2], [1], [4, 1], [5, 4, 3, 2, 1], [], [7], [], [9, 8, 7, 6, 5, 4, 3, 2, 1, 0], [10, 9, 8, 7, 6, 5, 4, 3, 2, 1, 0], [10, 9, 8, 7, 6, 5, 4, 3, 2, 1, 0], [12, 11, 10, 9, 8, 7, 6, 5, 4, 3, 2, 1, 0], [13, 12, 11, 10, 9, 8, 7, 6, 5, 4, 3, 2, 1, 0]] : List (List Nat)).getD i [], fun i => ([[], [], [], [], [], [], [], [], [], [], [0, 1003], [], [], [], []] : List (List Nat)).getD i [], fun i => ([[], [], [], [], [], [], [], [], [], [], [], [], [], [], []] : List (List Nat)).getD i []⟩ (fun i => ([[], [], [], [], [], [], [], [], [], [], [], [], [], [], []] : List (List Nat)).getD i []) (by kernel_rfl) (by kernel_rfl) ?_
      refine AJR_ev env 1 rfl (Nat.le_of_ble_eq_true rfl) rfl trivial ?_
      refine AJR_ev env 2 rfl (Nat.le_of_ble_eq_true rfl) rfl trivial ?_
      refine AJR_ev env 3 rfl (Nat.le_of_ble_eq_true rfl) rfl ⟨trivial, trivial⟩ ?_
      refine AJR_ev env 4 rfl (Nat.le_of_ble_eq_true rfl) rfl ⟨trivial, ⟨trivial, (by decide)⟩⟩ ?_
      refine AJR_ev env 5 rfl (Nat.le_of_ble_eq_true rfl) rfl trivial ?_
      refine AJR_ev env 6 rfl (Nat.le_of_ble_eq_true rfl) rfl trivial ?_
      obtain ⟨g, h0⟩ := gd_t h0
      refine AJR_ev env 7 rfl (Nat.le_of_ble_eq_true rfl) rfl ⟨trivial, ⟨trivial, ⟨g.1, g.2⟩⟩⟩ ?_
      refine AJR_ev env 8 rfl (Nat.le_of_ble_eq_true rfl) rfl ⟨trivial, trivial⟩ ?_
      refine AJR_ev env 9 rfl (Nat.le_of_ble_eq_true rfl) rfl ⟨trivial, ⟨trivial, trivial⟩⟩ ?_
      refine AJR_ev env 10 rfl (Nat.le_of_ble_eq_true rfl) rfl ⟨trivial, trivial⟩ ?_
      obtain ⟨⟨r9, r10, r11, r12⟩, hr, h0⟩ := bnd h0
      refine AJR_call 11 rfl (Nat.le_of_ble_eq_true rfl) [(0, 0), (1, 1003)] rfl (bank_Bank_tell_3.ok0 hr) bank_Bank_tell_3.fnb rfl ⟨trivial, ⟨trivial, ⟨trivial, ⟨trivial, ⟨trivial, trivial⟩⟩⟩⟩⟩ rfl ⟨.inr rfl, .inr rfl, trivial⟩ rfl ?_
      refine AJR_ev env 12 rfl (Nat.le_of_ble_eq_true rfl) rfl trivial ?_
      refine AJR_ev env 13 rfl (Nat.le_of_ble_eq_true rfl) rfl trivial ?_
      refine AJR_ev env 14 rfl (Nat.le_of_ble_eq_true rfl) rfl trivial ?_
      refine AJR_ev env 15 rfl (Nat.le_of_ble_eq_true rfl) rfl trivial ?_
      refine AJR_end rfl rfl rfl ?_
      refine TE_go ?_
      refine TC_ret ?_
      obtain rfl := sinj h0
      exact TE_ret env rfl trivial ⟨.inr rfl, trivial⟩
theorem bank_Bank_Filter.ok0 {K : Nat} {p0 : Int} {p1 : List (Option (List (Int)))} {p2 : Int} {p3 : Int}  (h0 : bank_Bank_Filter K p0 p1 p2 p3 = some (.inl ())) : Fn Try.prog 68 [.p 0 0, .int .i64 p0] [(0, some (.ab (bkA p1 p2 p3)))] (.tup [.nils, .int .i64 1]) [(0, some (.ab (bkA p1 p2 p3)))] := bank_Bank_Filter.ok h0
theorem bank_Bank_Filter.ok1 {K : Nat} {p0 : Int} {p1 : List (Option (List (Int)))} {p2 : Int} {p3 : Int} {q0 : List (Int)} {q1 : List (Option (List (Int)))} {q2 : Int} {q3 : Int} (h0 : bank_Bank_Filter K p0 p1 p2 p3 = some (.inr (q0, q1, q2, q3))) : Fn Try.prog 68 [.p 0 0, .int .i64 p0] [(0, some (.ab (bkA p1 p2 p3)))] (.tup [.im (.slice (.int .i16)) q0, .int .i64 0]) [(0, some (.ab (bkA q1 q2 q3)))] := bank_Bank_Filter.ok h0
theorem bank_Bank_Filter.fnb : fnb Try.prog 68 = true := fnb_of Try.func68 rfl
def bank_Bank_Turn_1.res (_p0 : Int) (_p1 : Int) : Int → MV
  | q0 => .int .i16 q0
def bank_Bank_Turn_1.out (_p0 : Int) (p1 : Int) : Int → List (Nat × Option MObj)
  | _ => [(0, some (.cells [.int .i64 p1]))]
theorem bank_Bank_Turn_1.ok {K : Nat} {p0 : Int} {p1 : Int} {r : Int} (h0 : bank_Bank_Turn_1 K p0 p1 = some r) : Fn Try.prog 85 [.int .i64 p0, .p 0 0] [(0, some (.cells [.int .i64 p1]))] (bank_Bank_Turn_1.res p0 p1 r) (bank_Bank_Turn_1.out p0 p1 r) := by
  refine Fn_of Try.func85 rfl (Nat.le_of_ble_eq_true rfl) fun Γ => ?_
  refine TC_seq ?_
  refine TC_reg ?_
  refine TL_ev env 1 rfl ⟨trivial, trivial⟩ ?_
  refine TL_end ?_
  refine TE_go ?_
  refine TC_seq ?_
  refine TC_reg ?_
  refine TL_ev env 2 rfl ⟨trivial, ⟨⟨trivial, trivial⟩, trivial⟩⟩ ?_
  obtain ⟨⟨r3, r4⟩, hr, h0⟩ := bnd h0
  refine TL_callB [] (wave_Cosine.ok0 hr) wave_Cosine.fnb rfl ⟨trivial, ⟨trivial, ⟨trivial, trivial⟩⟩⟩ rfl trivial rfl ?_
  refine TL_ev env 5 rfl ⟨trivial, ⟨trivial, ⟨trivial, ⟨trivial, ⟨trivial, trivial⟩⟩⟩⟩⟩ ?_
  refine TL_end ?_
  refine TE_go ?_
  refine TC_seq ?_
  refine TC_reg ?_
  refine TL_ev env 2 rfl ⟨trivial, ⟨trivial, trivial⟩⟩ ?_
  refine TL_end ?_
  refine TE_go ?_
  refine TC_ret ?_
  obtain rfl := sinj h0
  exact TE_ret env rfl trivial ⟨.inr rfl, trivial⟩
theorem bank_Bank_Turn_1.ok0 {K : Nat} {p0 : Int} {p1 : Int} {q0 : Int} (h0 : bank_Bank_Turn_1 K p0 p1 = some q0) : Fn Try.prog 85 [.int .i64 p0, .p 0 0] [(0, some (.cells [.int .i64 p1]))] (.int .i16 q0) [(0, some (.cells [.int .i64 p1]))] := bank_Bank_Turn_1.ok h0
theorem bank_Bank_Turn_1.fnb : fnb Try.prog 85 = true := fnb_of Try.func85 rfl
def bank_Bank_tell_1_2.res (_p0 : List (Option (List (Int)))) (_p1 : List (Option (List (Int)))) (_p2 : Int) (_p3 : Int) (_p4 : Int) (_p5 : Int) : (List (Int)) × Int → MV
  | (_, _) => .tup []
def bank_Bank_tell_1_2.out (p0 : List (Option (List (Int)))) (p1 : List (Option (List (Int)))) (_p2 : Int) (p3 : Int) (p4 : Int) (p5 : Int) : (List (Int)) × Int → List (Nat × Option MObj)
  | (q0, q1) => [(0, some (.foc (tcs p0) [.int .u32 0, .int .i32 1, .int .u32 0, .im (.slice (.int .i16)) q0] (pst p1 q1 p3))), (1, some (.cells [.int .i64 p4])), (2, some (.cells [.pf 0 (tcs p0).length 0])), (3, some (.cells [.fn 85 [.p 5 0]])), (4, some (.cells [.p 0 0])), (5, some (.cells [.int .i64 p5]))]
theorem bank_Bank_tell_1_2.ok {K : Nat} {p0 : List (Option (List (Int)))} {p1 : List (Option (List (Int)))} {p2 : Int} {p3 : Int} {p4 : Int} {p5 : Int} {r : (List (Int)) × Int} (h0 : bank_Bank_tell_1_2 K p0 p1 p2 p3 p4 p5 = some r) : Fn Try.prog 90 [.p 1 0, .p 2 0, .p 3 0, .p 4 0] [(0, some (.foc (tcs p0) [.int .u32 0, .int .i32 1, .int .u32 0, .nils] (pst p1 p2 p3))), (1, some (.cells [.int .i64 p4])), (2, some (.cells [.pf 0 (tcs p0).length 0])), (3, some (.cells [.fn 85 [.p 5 0]])), (4, some (.cells [.p 0 0])), (5, some (.cells [.int .i64 p5]))] (bank_Bank_tell_1_2.res p0 p1 p2 p3 p4 p5 r) (bank_Bank_tell_1_2.out p0 p1 p2 p3 p4 p5 r) := by
  refine Fn_of Try.func90 rfl (Nat.le_of_ble_eq_true rfl) fun Γ => ?_
  refine TC_seq ?_
  refine TC_renw (A' := [(0, .p 1 0), (1, .p 2 0), (2, .p 3 0), (3, .p 4 0)]) (L' := [(0, some (.foc (tcs _) [.int .u32 0, .int .i32 1, .int .u32 0, .nils] (pst _ _ _))), (1, some (.cells [.int .i64 _])), (2, some (.cells [.pf 0 (tcs _).length 0])), (3, some (.cells [.fn 85 [.p 5 0]])), (4, some (.cells [.p 0 0])), (5, some (.cells [.int .i64 _]))]) [] ⟨rfl, rfl, rfl, rfl, trivial⟩ ⟨rfl, rfl, rfl, rfl, rfl, rfl, trivial⟩ rfl ?_
  refine TC_drawR ⟨_, fun i => ([[], [], [1], [2, 1, 0], [3, 2, 1, 0], [4, 3, 2, 1, 0]] : List (List Nat)).getD i [], fun i => ([[], [], [1007], [], [], [0]] : List (List Nat)).getD i [], fun i => ([[], [], [1007], [], [], []] : List (List Nat)).getD i []⟩ (fun i => ([[1007], [], [], [], [], []] : List (List Nat)).getD i []) (by kernel_rfl) (by kernel_rfl) ?_
  refine AJR_ev env 1 rfl (Nat.le_of_ble_eq_true rfl) rfl ⟨trivial, trivial⟩ ?_
  refine AJR_ev env 2 rfl (Nat.le_of_ble_eq_true rfl) rfl ⟨trivial, trivial⟩ ?_
  obtain ⟨g, h0⟩ := gd_t h0
  refine AJR_ev env 3 rfl (Nat.le_of_ble_eq_true rfl) rfl ⟨trivial, ⟨trivial, ⟨g.1, ⟨g.2.1, g.2.2⟩⟩⟩⟩ ?_
  refine AJR_ev env 4 rfl (Nat.le_of_ble_eq_true rfl) rfl trivial ?_
  refine AJR_ev env 5 rfl (Nat.le_of_ble_eq_true rfl) rfl trivial ?_
  refine AJR_ev env 6 rfl (Nat.le_of_ble_eq_true rfl) rfl ⟨trivial, ⟨trivial, rfl⟩⟩ ?_
  refine AJR_end rfl rfl rfl ?_
  refine TE_go ?_
  refine TC_seq ?_
  refine TC_seq ?_
  refine TC_reg ?_
  refine TL_ev env 6 rfl ⟨⟨trivial, trivial⟩, ⟨trivial, ⟨trivial, ⟨⟨trivial, rfl⟩, ⟨⟨trivial, trivial⟩, ⟨trivial, trivial⟩⟩⟩⟩⟩⟩ ?_
  refine TL_end ?_
  refine TE_go ?_
  obtain ⟨z1, h1, h0⟩ := bnd h0
  refine TC_cut (α := (List (Int))) (fun s => z1 = s) (fun s => [(3, .p 4 0)]) (fun s => [(0, some (.foc (tcs p0) [.int .u32 0, .int .i32 1, .int .u32 0, .sl 10806] (pst p1 p2 p3))), (1, some (.cells [.int .i64 p4])), (2, some (.cells [.pf 0 (tcs p0).length 0])), (3, some (.cells [.fn 85 [.p 5 0]])), (4, some (.cells [.p 0 0])), (5, some (.cells [.int .i64 p5])), (10806, some (.rows (.int .i16) s))]) ?_ ?_
  · refine TC_blk ?_
    refine TC_loop (α := Int × (List (Int))) (fun n s => bank_Bank_tell_1_2.l0 K ((List.replicate (Int.toNat p4) (0 : Int)).length : Int) p0 p1 p2 p3 p4 p5 n s.1 s.2 = some z1) (fun s => [(1, .p 2 0), (2, .p 3 0), (3, .p 4 0), (14, .int .i64 ((List.replicate (Int.toNat p4) (0 : Int)).length : Int)), (15, .int .i64 s.1)]) (fun s => [(0, some (.foc (tcs p0) [.int .u32 0, .int .i32 1, .int .u32 0, .sl 11006] (pst p1 p2 p3))), (1, some (.cells [.int .i64 p4])), (2, some (.cells [.pf 0 (tcs p0).length 0])), (3, some (.cells [.fn 85 [.p 5 0]])), (4, some (.cells [.p 0 0])), (5, some (.cells [.int .i64 p5])), (11006, some (.rows (.int .i16) s.2))]) K ?_ ?_
    · exact SP_ren [(11006, 1007)] (_, _) h1 ⟨rfl, rfl, rfl, rfl, rfl, trivial⟩ ⟨rfl, rfl, rfl, rfl, rfl, rfl, rfl, trivial⟩ rfl
    rintro n ⟨x25, x26⟩ h1
    rcases n with _ | n
    · exact (nsome h1).elim
    replace h1 : bank_Bank_tell_1_2.r0 K ((List.replicate (Int.toNat p4) (0 : Int)).length : Int) p0 p1 p2 p3 p4 p5 (bank_Bank_tell_1_2.l0 K ((List.replicate (Int.toNat p4) (0 : Int)).length : Int) p0 p1 p2 p3 p4 p5 n) x25 x26 = some z1 := h1
    refine TC_seq ?_
    refine TC_reg ?_
    refine TL_ev env 1 rfl ⟨⟨trivial, ⟨trivial, trivial⟩⟩, trivial⟩ ?_
    refine TL_end ?_
    refine TE_go ?_
    refine TC_seq ?_
    refine TC_cond rfl (fun hb => ?_) (fun hb => ?_)
    · replace h1 := bif_t h1 hb
      refine TC_skip ?_
      refine TE_go ?_
      refine TC_seq ?_
      refine TC_blk ?_
      refine TC_seq ?_
      refine TC_reg ?_
      refine TL_ev env 2 rfl ⟨trivial, ⟨trivial, trivial⟩⟩ ?_
      refine TL_end ?_
      refine TE_go ?_
      refine TC_renw (A' := [(1, .p 2 0), (2, .p 3 0), (3, .p 4 0), (4, .int .i64 _), (14, .int .i64 _), (15, .int .i64 _)]) (L' := [(0, some (.foc (tcs _) [.int .u32 0, .int .i32 1, .int .u32 0, .sl 11006] (pst _ _ _))), (1, some (.cells [.int .i64 _])), (2, some (.cells [.pf 0 (tcs _).length 0])), (3, some (.cells [.fn 85 [.p 5 0]])), (4, some (.cells [.p 0 0])), (5, some (.cells [.int .i64 _])), (11006, some (.rows (.int .i16) _))]) [] ⟨rfl, rfl, rfl, rfl, rfl, rfl, trivial⟩ ⟨rfl, rfl, rfl, rfl, rfl, rfl, rfl, trivial⟩ rfl ?_
      refine TC_drawR ⟨_, fun i => ([[], [0], [1, 0], [2, 1, 0], [], [], [], [6, 5], [7, 6, 5, 4, 3, 2, 1, 0], [8, 7, 6, 5, 4, 3, 2, 1, 0]] : List (List Nat)).getD i [], fun i => ([[], [], [], [], [], [], [], [5], [], [11006]] : List (List Nat)).getD i [], fun i => ([[], [], [], [], [], [], [], [], [], []] : List (List Nat)).getD i []⟩ (fun i => ([[5], [5], [5], [5], [5], [], [], [], [], []] : List (List Nat)).getD i []) (by kernel_rfl) (by kernel_rfl) ?_
      refine AJR_ev env 1 rfl (Nat.le_of_ble_eq_true rfl) rfl ⟨trivial, trivial⟩ ?_
      refine AJR_ev env 2 rfl (Nat.le_of_ble_eq_true rfl) rfl trivial ?_
      refine AJR_ev env 3 rfl (Nat.le_of_ble_eq_true rfl) rfl trivial ?_
      refine AJR_ev env 4 rfl (Nat.le_of_ble_eq_true rfl) rfl ⟨trivial, rfl⟩ ?_
      refine AJR_ev env 5 rfl (Nat.le_of_ble_eq_true rfl) rfl trivial ?_
      refine AJR_ev env 6 rfl (Nat.le_of_ble_eq_true rfl) rfl ⟨trivial, trivial⟩ ?_
      refine AJR_ev env 7 rfl (Nat.le_of_ble_eq_true rfl) rfl trivial ?_
      obtain ⟨r33, hr, h1⟩ := bnd h1
      refine AJR_call 8 rfl (Nat.le_of_ble_eq_true rfl) [(0, 5)] rfl (bank_Bank_Turn_1.ok0 hr) bank_Bank_Turn_1.fnb rfl ⟨trivial, ⟨trivial, trivial⟩⟩ rfl ⟨.inr rfl, trivial⟩ rfl ?_
      obtain ⟨g, h1⟩ := gd_t h1
      refine AJR_ev env 9 rfl (Nat.le_of_ble_eq_true rfl) rfl ⟨trivial, ⟨trivial, ⟨g.1, g.2⟩⟩⟩ ?_
      obtain ⟨g, h1⟩ := gd_t h1
      refine AJR_ev env 10 rfl (Nat.le_of_ble_eq_true rfl) rfl ⟨trivial, ⟨trivial, g⟩⟩ ?_
      refine AJR_end rfl rfl rfl ?_
      refine tbn ?_
      refine TE_go ?_
      refine TC_reg ?_
      refine TL_ev env 2 rfl ⟨⟨trivial, ⟨trivial, trivial⟩⟩, ⟨trivial, trivial⟩⟩ ?_
      refine TL_end ?_
      refine tsn ?_
      exact TE_nextr [(11006, 11006)] n (Nat.lt_succ_self n) (_, _) h1 ⟨rfl, rfl, rfl, rfl, rfl, trivial⟩ ⟨rfl, rfl, rfl, rfl, rfl, rfl, rfl, trivial⟩ rfl
    · replace h1 := bif_f h1 hb
      refine TC_exit ?_
      refine tsx ?_
      refine tsx ?_
      refine tbe ?_
      obtain rfl := sinj h1
      refine tsn ?_
      exact SP_ren [(10806, 11006)] _ rfl ⟨rfl, trivial⟩ ⟨rfl, rfl, rfl, rfl, rfl, rfl, rfl, trivial⟩ rfl
  · rintro x21 hz
    obtain rfl := hz.symm
    refine TE_go ?_
    refine TC_reg ?_
    refine TL_ev env 3 rfl ⟨⟨trivial, trivial⟩, ⟨trivial, ⟨trivial, trivial⟩⟩⟩ ?_
    refine TL_frz 10806 rfl ?_
    obtain ⟨r22, hr, h0⟩ := bnd h0
    refine TL_callB [(0, 0)] (sync_atomic_Int64_Add.ok0 hr) sync_atomic_Int64_Add.fnb rfl ⟨trivial, ⟨trivial, ⟨trivial, trivial⟩⟩⟩ rfl ⟨.inr rfl, trivial⟩ rfl ?_
    refine TL_end ?_
    obtain rfl := sinj h0
    exact TE_end env rfl trivial ⟨.inr rfl, .inr rfl, .inr rfl, .inr rfl, .inr rfl, .inr rfl, trivial⟩
theorem bank_Bank_tell_1_2.ok0 {K : Nat} {p0 : List (Option (List (Int)))} {p1 : List (Option (List (Int)))} {p2 : Int} {p3 : Int} {p4 : Int} {p5 : Int} {q0 : List (Int)} {q1 : Int} (h0 : bank_Bank_tell_1_2 K p0 p1 p2 p3 p4 p5 = some (q0, q1)) : Fn Try.prog 90 [.p 1 0, .p 2 0, .p 3 0, .p 4 0] [(0, some (.foc (tcs p0) [.int .u32 0, .int .i32 1, .int .u32 0, .nils] (pst p1 p2 p3))), (1, some (.cells [.int .i64 p4])), (2, some (.cells [.pf 0 (tcs p0).length 0])), (3, some (.cells [.fn 85 [.p 5 0]])), (4, some (.cells [.p 0 0])), (5, some (.cells [.int .i64 p5]))] (.tup []) [(0, some (.foc (tcs p0) [.int .u32 0, .int .i32 1, .int .u32 0, .im (.slice (.int .i16)) q0] (pst p1 q1 p3))), (1, some (.cells [.int .i64 p4])), (2, some (.cells [.pf 0 (tcs p0).length 0])), (3, some (.cells [.fn 85 [.p 5 0]])), (4, some (.cells [.p 0 0])), (5, some (.cells [.int .i64 p5]))] := bank_Bank_tell_1_2.ok h0
theorem bank_Bank_tell_1_2.fnb : fnb Try.prog 90 = true := fnb_of Try.func90 rfl
theorem sync_Once_doSlow_2.ok0 {K : Nat} {p0 : List (Option (List (Int)))} {p1 : List (Option (List (Int)))} {p2 : Int} {p3 : Int} {p4 : Int} {p5 : Int} {q0 : List (Int)} {q1 : Int} (h0 : sync_Once_doSlow_2 K p0 p1 p2 p3 p4 p5 = some (q0, q1)) : Fn Try.prog 98 [.pf 0 (tcs p0).length 0, .fn 90 [.p 1 0, .p 2 0, .p 3 0, .p 4 0]] [(0, some (.foc (tcs p0) [.int .u32 0, .int .i32 0, .int .u32 0, .nils] (pst p1 p2 p3))), (1, some (.cells [.int .i64 p4])), (2, some (.cells [.pf 0 (tcs p0).length 0])), (3, some (.cells [.fn 85 [.p 5 0]])), (4, some (.cells [.p 0 0])), (5, some (.cells [.int .i64 p5]))] (.tup []) [(0, some (.foc (tcs p0) [.int .u32 1, .int .i32 0, .int .u32 0, .im (.slice (.int .i16)) q0] (pst p1 q1 p3))), (1, some (.cells [.int .i64 p4])), (2, some (.cells [.pf 0 (tcs p0).length 0])), (3, some (.cells [.fn 85 [.p 5 0]])), (4, some (.cells [.p 0 0])), (5, some (.cells [.int .i64 p5]))] := by
  exact slow_fn rfl (bank_Bank_tell_1_2.ok0 h0)
theorem sync_Once_doSlow_2.fnb : fnb Try.prog 98 = true := fnb_of Try.func98 rfl
def sync_Once_Do_3.res (_p0 : List (Option (List (Int)))) (_p1 : List (Option (List (Int)))) (_p2 : Int) (_p3 : Int) (_p4 : Int) (_p5 : Int) : (List (Int)) × Int → MV
  | (_, _) => .tup []
def sync_Once_Do_3.out (p0 : List (Option (List (Int)))) (p1 : List (Option (List (Int)))) (_p2 : Int) (p3 : Int) (p4 : Int) (p5 : Int) : (List (Int)) × Int → List (Nat × Option MObj)
  | (q0, q1) => [(0, some (.foc (tcs p0) [.int .u32 1, .int .i32 0, .int .u32 0, .im (.slice (.int .i16)) q0] (pst p1 q1 p3))), (1, some (.cells [.int .i64 p4])), (2, some (.cells [.pf 0 (tcs p0).length 0])), (3, some (.cells [.fn 85 [.p 5 0]])), (4, some (.cells [.p 0 0])), (5, some (.cells [.int .i64 p5]))]
theorem sync_Once_Do_3.ok {K : Nat} {p0 : List (Option (List (Int)))} {p1 : List (Option (List (Int)))} {p2 : Int} {p3 : Int} {p4 : Int} {p5 : Int} {r : (List (Int)) × Int} (h0 : sync_Once_Do_3 K p0 p1 p2 p3 p4 p5 = some r) : Fn Try.prog 89 [.pf 0 (tcs p0).length 0, .fn 90 [.p 1 0, .p 2 0, .p 3 0, .p 4 0]] [(0, some (.foc (tcs p0) [.int .u32 0, .int .i32 0, .int .u32 0, .nils] (pst p1 p2 p3))), (1, some (.cells [.int .i64 p4])), (2, some (.cells [.pf 0 (tcs p0).length 0])), (3, some (.cells [.fn 85 [.p 5 0]])), (4, some (.cells [.p 0 0])), (5, some (.cells [.int .i64 p5]))] (sync_Once_Do_3.res p0 p1 p2 p3 p4 p5 r) (sync_Once_Do_3.out p0 p1 p2 p3 p4 p5 r) := by
  refine Fn_of Try.func89 rfl (Nat.le_of_ble_eq_true rfl) fun Γ => ?_
  refine TC_seq ?_
  refine TC_reg ?_
  refine TL_ev env 3 rfl ⟨trivial, ⟨trivial, ⟨trivial, trivial⟩⟩⟩ ?_
  obtain ⟨⟨⟩, hr, h0⟩ := bnd h0
  refine TL_callB [(0, 0)] (sync_atomic_Bool_Load.ok0 hr) sync_atomic_Bool_Load.fnb rfl ⟨trivial, ⟨trivial, trivial⟩⟩ rfl ⟨.inr rfl, trivial⟩ rfl ?_
  refine TL_ev env 1 rfl ⟨trivial, trivial⟩ ?_
  refine TL_end ?_
  refine TE_go ?_
  refine TC_cond rfl (fun hb => ?_) (fun hb => ?_)
  · refine TC_reg ?_
    refine TL_ev env 2 rfl ⟨trivial, ⟨trivial, trivial⟩⟩ ?_
    obtain ⟨⟨r3, r4⟩, hr, h0⟩ := bnd h0
    refine TL_callB [(0, 0), (1, 1), (2, 2), (3, 3), (4, 4), (5, 5)] (sync_Once_doSlow_2.ok0 hr) sync_Once_doSlow_2.fnb rfl ⟨trivial, ⟨trivial, ⟨trivial, trivial⟩⟩⟩ rfl ⟨.inr rfl, .inr rfl, .inr rfl, .inr rfl, .inr rfl, .inr rfl, trivial⟩ rfl ?_
    refine TL_end ?_
    obtain rfl := sinj h0
    exact TE_end env rfl trivial ⟨.inr rfl, .inr rfl, .inr rfl, .inr rfl, .inr rfl, .inr rfl, trivial⟩
  · first | exact (ftf hb).elim | exact (tff hb).elim | exact absurd hb (by decide)
theorem sync_Once_Do_3.ok0 {K : Nat} {p0 : List (Option (List (Int)))} {p1 : List (Option (List (Int)))} {p2 : Int} {p3 : Int} {p4 : Int} {p5 : Int} {q0 : List (Int)} {q1 : Int} (h0 : sync_Once_Do_3 K p0 p1 p2 p3 p4 p5 = some (q0, q1)) : Fn Try.prog 89 [.pf 0 (tcs p0).length 0, .fn 90 [.p 1 0, .p 2 0, .p 3 0, .p 4 0]] [(0, some (.foc (tcs p0) [.int .u32 0, .int .i32 0, .int .u32 0, .nils] (pst p1 p2 p3))), (1, some (.cells [.int .i64 p4])), (2, some (.cells [.pf 0 (tcs p0).length 0])), (3, some (.cells [.fn 85 [.p 5 0]])), (4, some (.cells [.p 0 0])), (5, some (.cells [.int .i64 p5]))] (.tup []) [(0, some (.foc (tcs p0) [.int .u32 1, .int .i32 0, .int .u32 0, .im (.slice (.int .i16)) q0] (pst p1 q1 p3))), (1, some (.cells [.int .i64 p4])), (2, some (.cells [.pf 0 (tcs p0).length 0])), (3, some (.cells [.fn 85 [.p 5 0]])), (4, some (.cells [.p 0 0])), (5, some (.cells [.int .i64 p5]))] := sync_Once_Do_3.ok h0
theorem sync_Once_Do_3.fnb : fnb Try.prog 89 = true := fnb_of Try.func89 rfl
def bank_Bank_tell_4.res (_t0 : List (Option (List (Int)))) (_t1 : List (Option (List (Int)))) (_p1 : Int) (_p3 : Int) (_p4 : Int) (_p5 : Int) : (List (Int)) × (List (Int)) × Int × Int → MV
  | (q0, _, _, _) => .tup [.im (.slice (.int .i16)) q0, .int .i64 0]
def bank_Bank_tell_4.out (t0 : List (Option (List (Int)))) (t1 : List (Option (List (Int)))) (_p1 : Int) (_p3 : Int) (_p4 : Int) (p5 : Int) : (List (Int)) × (List (Int)) × Int × Int → List (Nat × Option MObj)
  | (_, q1, q2, q3) => [(0, some (.foc (tcs t0) [.int .u32 1, .int .i32 0, .int .u32 0, .im (.slice (.int .i16)) q1] (pst t1 q2 q3))), (1, some (.cells [.int .i64 p5]))]
theorem bank_Bank_tell_4.ok {K : Nat} {t0 : List (Option (List (Int)))} {t1 : List (Option (List (Int)))} {p1 : Int} {p3 : Int} {p4 : Int} {p5 : Int} {r : (List (Int)) × (List (Int)) × Int × Int} (h0 : bank_Bank_tell_4 K t0 t1 p1 p3 p4 p5 = some r) : Fn Try.prog 78 [.p 0 0, .pf 0 (tcs t0).length 0, .int .i64 p1, .fn 85 [.p 1 0]] [(0, some (.foc (tcs t0) [.int .u32 0, .int .i32 0, .int .u32 0, .nils] (pst t1 p3 p4))), (1, some (.cells [.int .i64 p5]))] (bank_Bank_tell_4.res t0 t1 p1 p3 p4 p5 r) (bank_Bank_tell_4.out t0 t1 p1 p3 p4 p5 r) := by
  refine Fn_of Try.func78 rfl (Nat.le_of_ble_eq_true rfl) fun Γ => ?_
  refine TC_seq ?_
  refine TC_reg ?_
  refine TL_ev env 6 rfl ⟨trivial, ⟨trivial, ⟨trivial, ⟨trivial, ⟨trivial, ⟨trivial, trivial⟩⟩⟩⟩⟩⟩ ?_
  refine TL_end ?_
  refine TE_go ?_
  refine TC_seq ?_
  refine TC_reg ?_
  refine TL_ev env 4 rfl ⟨⟨trivial, trivial⟩, ⟨trivial, ⟨trivial, ⟨⟨trivial, ⟨trivial, ⟨trivial, ⟨trivial, trivial⟩⟩⟩⟩, trivial⟩⟩⟩⟩ ?_
  obtain ⟨⟨r5, r6⟩, hr, h0⟩ := bnd h0
  refine TL_callB [(0, 0), (1, 1006), (2, 1005), (3, 1007), (4, 1004), (5, 1)] (sync_Once_Do_3.ok0 hr) sync_Once_Do_3.fnb rfl ⟨trivial, ⟨trivial, ⟨trivial, trivial⟩⟩⟩ rfl ⟨.inr rfl, .inr rfl, .inr rfl, .inr rfl, .inr rfl, .inr rfl, trivial⟩ rfl ?_
  refine TL_end ?_
  refine TE_go ?_
  refine TC_seq ?_
  refine TC_reg ?_
  refine TL_ev env 3 rfl ⟨⟨trivial, trivial⟩, ⟨trivial, ⟨trivial, trivial⟩⟩⟩ ?_
  obtain ⟨r7, hr, h0⟩ := bnd h0
  refine TL_callB [(0, 0)] (sync_atomic_Int64_Add_2.ok0 hr) sync_atomic_Int64_Add_2.fnb rfl ⟨trivial, ⟨trivial, ⟨trivial, trivial⟩⟩⟩ rfl ⟨.inr rfl, trivial⟩ rfl ?_
  refine TL_end ?_
  refine TE_go ?_
  refine TC_seq ?_
  refine TC_reg ?_
  refine TL_ev env 4 rfl ⟨⟨trivial, trivial⟩, ⟨trivial, ⟨trivial, ⟨⟨trivial, rfl⟩, trivial⟩⟩⟩⟩ ?_
  obtain ⟨r8, hr, h0⟩ := bnd h0
  refine TL_callB [] (slices_Clone_int16_int16.ok0 hr) slices_Clone_int16_int16.fnb rfl ⟨trivial, ⟨trivial, trivial⟩⟩ rfl trivial rfl ?_
  refine TL_ev env 2 rfl ⟨trivial, ⟨trivial, trivial⟩⟩ ?_
  refine TL_end ?_
  refine TE_go ?_
  refine TC_ret ?_
  obtain rfl := sinj h0
  exact TE_ret env rfl trivial ⟨.inr rfl, .inr rfl, trivial⟩
theorem bank_Bank_tell_4.ok0 {K : Nat} {t0 : List (Option (List (Int)))} {t1 : List (Option (List (Int)))} {p1 : Int} {p3 : Int} {p4 : Int} {p5 : Int} {q0 : List (Int)} {q1 : List (Int)} {q2 : Int} {q3 : Int} (h0 : bank_Bank_tell_4 K t0 t1 p1 p3 p4 p5 = some (q0, q1, q2, q3)) : Fn Try.prog 78 [.p 0 0, .pf 0 (tcs t0).length 0, .int .i64 p1, .fn 85 [.p 1 0]] [(0, some (.foc (tcs t0) [.int .u32 0, .int .i32 0, .int .u32 0, .nils] (pst t1 p3 p4))), (1, some (.cells [.int .i64 p5]))] (.tup [.im (.slice (.int .i16)) q0, .int .i64 0]) [(0, some (.foc (tcs t0) [.int .u32 1, .int .i32 0, .int .u32 0, .im (.slice (.int .i16)) q1] (pst t1 q2 q3))), (1, some (.cells [.int .i64 p5]))] := bank_Bank_tell_4.ok h0
theorem bank_Bank_tell_4.fnb : fnb Try.prog 78 = true := fnb_of Try.func78 rfl
def sync_Once_Do_4.res (_p0 : List (Option (List (Int)))) (_p1 : List (Int)) (_p2 : List (Option (List (Int)))) (_p3 : Int) (_p4 : Int) (_p5 : Int) (_p6 : Int) : Unit → MV
  | () => .tup []
def sync_Once_Do_4.out (p0 : List (Option (List (Int)))) (p1 : List (Int)) (p2 : List (Option (List (Int)))) (p3 : Int) (p4 : Int) (p5 : Int) (p6 : Int) : Unit → List (Nat × Option MObj)
  | () => [(0, some (.foc (tcs p0) [.int .u32 1, .int .i32 0, .int .u32 0, .im (.slice (.int .i16)) p1] (pst p2 p3 p4))), (1, some (.cells [.int .i64 p5])), (2, some (.cells [.pf 0 (tcs p0).length 0])), (3, some (.cells [.fn 85 [.p 5 0]])), (4, some (.cells [.p 0 0])), (5, some (.cells [.int .i64 p6]))]
theorem sync_Once_Do_4.ok {K : Nat} {p0 : List (Option (List (Int)))} {p1 : List (Int)} {p2 : List (Option (List (Int)))} {p3 : Int} {p4 : Int} {p5 : Int} {p6 : Int} {r : Unit} (h0 : sync_Once_Do_4 K p0 p1 p2 p3 p4 p5 p6 = some r) : Fn Try.prog 89 [.pf 0 (tcs p0).length 0, .fn 90 [.p 1 0, .p 2 0, .p 3 0, .p 4 0]] [(0, some (.foc (tcs p0) [.int .u32 1, .int .i32 0, .int .u32 0, .im (.slice (.int .i16)) p1] (pst p2 p3 p4))), (1, some (.cells [.int .i64 p5])), (2, some (.cells [.pf 0 (tcs p0).length 0])), (3, some (.cells [.fn 85 [.p 5 0]])), (4, some (.cells [.p 0 0])), (5, some (.cells [.int .i64 p6]))] (sync_Once_Do_4.res p0 p1 p2 p3 p4 p5 p6 r) (sync_Once_Do_4.out p0 p1 p2 p3 p4 p5 p6 r) := by
  refine Fn_of Try.func89 rfl (Nat.le_of_ble_eq_true rfl) fun Γ => ?_
  unfold sync_Once_Do_4 at h0
  refine TC_seq ?_
  refine TC_reg ?_
  refine TL_ev env 3 rfl ⟨trivial, ⟨trivial, ⟨trivial, trivial⟩⟩⟩ ?_
  obtain ⟨⟨⟩, hr, h0⟩ := bnd h0
  refine TL_callB [(0, 0)] (sync_atomic_Bool_Load_2.ok0 hr) sync_atomic_Bool_Load_2.fnb rfl ⟨trivial, ⟨trivial, trivial⟩⟩ rfl ⟨.inr rfl, trivial⟩ rfl ?_
  refine TL_ev env 1 rfl ⟨trivial, trivial⟩ ?_
  refine TL_end ?_
  refine TE_go ?_
  refine TC_cond rfl (fun hb => ?_) (fun hb => ?_)
  · first | exact (ftf hb).elim | exact (tff hb).elim | exact absurd hb (by decide)
  · refine TC_skip ?_
    obtain rfl := sinj h0
    exact TE_end env rfl trivial ⟨.inr rfl, .inr rfl, .inr rfl, .inr rfl, .inr rfl, .inr rfl, trivial⟩
theorem sync_Once_Do_4.ok0 {K : Nat} {p0 : List (Option (List (Int)))} {p1 : List (Int)} {p2 : List (Option (List (Int)))} {p3 : Int} {p4 : Int} {p5 : Int} {p6 : Int}  (h0 : sync_Once_Do_4 K p0 p1 p2 p3 p4 p5 p6 = some ()) : Fn Try.prog 89 [.pf 0 (tcs p0).length 0, .fn 90 [.p 1 0, .p 2 0, .p 3 0, .p 4 0]] [(0, some (.foc (tcs p0) [.int .u32 1, .int .i32 0, .int .u32 0, .im (.slice (.int .i16)) p1] (pst p2 p3 p4))), (1, some (.cells [.int .i64 p5])), (2, some (.cells [.pf 0 (tcs p0).length 0])), (3, some (.cells [.fn 85 [.p 5 0]])), (4, some (.cells [.p 0 0])), (5, some (.cells [.int .i64 p6]))] (.tup []) [(0, some (.foc (tcs p0) [.int .u32 1, .int .i32 0, .int .u32 0, .im (.slice (.int .i16)) p1] (pst p2 p3 p4))), (1, some (.cells [.int .i64 p5])), (2, some (.cells [.pf 0 (tcs p0).length 0])), (3, some (.cells [.fn 85 [.p 5 0]])), (4, some (.cells [.p 0 0])), (5, some (.cells [.int .i64 p6]))] := sync_Once_Do_4.ok h0
theorem sync_Once_Do_4.fnb : fnb Try.prog 89 = true := fnb_of Try.func89 rfl
def bank_Bank_tell_5.res (_t0 : List (Option (List (Int)))) (_t1 : List (Option (List (Int)))) (_l : List (Int)) (_p1 : Int) (_p3 : Int) (_p4 : Int) (_p5 : Int) : (List (Int)) × Int → MV
  | (q0, _) => .tup [.im (.slice (.int .i16)) q0, .int .i64 0]
def bank_Bank_tell_5.out (t0 : List (Option (List (Int)))) (t1 : List (Option (List (Int)))) (l : List (Int)) (_p1 : Int) (p3 : Int) (_p4 : Int) (p5 : Int) : (List (Int)) × Int → List (Nat × Option MObj)
  | (_, q1) => [(0, some (.foc (tcs t0) [.int .u32 1, .int .i32 0, .int .u32 0, .im (.slice (.int .i16)) l] (pst t1 p3 q1))), (1, some (.cells [.int .i64 p5]))]
theorem bank_Bank_tell_5.ok {K : Nat} {t0 : List (Option (List (Int)))} {t1 : List (Option (List (Int)))} {l : List (Int)} {p1 : Int} {p3 : Int} {p4 : Int} {p5 : Int} {r : (List (Int)) × Int} (h0 : bank_Bank_tell_5 K t0 t1 l p1 p3 p4 p5 = some r) : Fn Try.prog 78 [.p 0 0, .pf 0 (tcs t0).length 0, .int .i64 p1, .fn 85 [.p 1 0]] [(0, some (.foc (tcs t0) [.int .u32 1, .int .i32 0, .int .u32 0, .im (.slice (.int .i16)) l] (pst t1 p3 p4))), (1, some (.cells [.int .i64 p5]))] (bank_Bank_tell_5.res t0 t1 l p1 p3 p4 p5 r) (bank_Bank_tell_5.out t0 t1 l p1 p3 p4 p5 r) := by
  refine Fn_of Try.func78 rfl (Nat.le_of_ble_eq_true rfl) fun Γ => ?_
  refine TC_seq ?_
  refine TC_reg ?_
  refine TL_ev env 6 rfl ⟨trivial, ⟨trivial, ⟨trivial, ⟨trivial, ⟨trivial, ⟨trivial, trivial⟩⟩⟩⟩⟩⟩ ?_
  refine TL_end ?_
  refine TE_go ?_
  refine TC_seq ?_
  refine TC_reg ?_
  refine TL_ev env 4 rfl ⟨⟨trivial, trivial⟩, ⟨trivial, ⟨trivial, ⟨⟨trivial, ⟨trivial, ⟨trivial, ⟨trivial, trivial⟩⟩⟩⟩, trivial⟩⟩⟩⟩ ?_
  obtain ⟨⟨⟩, hr, h0⟩ := bnd h0
  refine TL_callB [(0, 0), (1, 1006), (2, 1005), (3, 1007), (4, 1004), (5, 1)] (sync_Once_Do_4.ok0 hr) sync_Once_Do_4.fnb rfl ⟨trivial, ⟨trivial, ⟨trivial, trivial⟩⟩⟩ rfl ⟨.inr rfl, .inr rfl, .inr rfl, .inr rfl, .inr rfl, .inr rfl, trivial⟩ rfl ?_
  refine TL_end ?_
  refine TE_go ?_
  refine TC_seq ?_
  refine TC_reg ?_
  refine TL_ev env 3 rfl ⟨⟨trivial, trivial⟩, ⟨trivial, ⟨trivial, trivial⟩⟩⟩ ?_
  obtain ⟨r3, hr, h0⟩ := bnd h0
  refine TL_callB [(0, 0)] (sync_atomic_Int64_Add_2.ok0 hr) sync_atomic_Int64_Add_2.fnb rfl ⟨trivial, ⟨trivial, ⟨trivial, trivial⟩⟩⟩ rfl ⟨.inr rfl, trivial⟩ rfl ?_
  refine TL_end ?_
  refine TE_go ?_
  refine TC_seq ?_
  refine TC_reg ?_
  refine TL_ev env 4 rfl ⟨⟨trivial, trivial⟩, ⟨trivial, ⟨trivial, ⟨⟨trivial, rfl⟩, trivial⟩⟩⟩⟩ ?_
  obtain ⟨r4, hr, h0⟩ := bnd h0
  refine TL_callB [] (slices_Clone_int16_int16.ok0 hr) slices_Clone_int16_int16.fnb rfl ⟨trivial, ⟨trivial, trivial⟩⟩ rfl trivial rfl ?_
  refine TL_ev env 2 rfl ⟨trivial, ⟨trivial, trivial⟩⟩ ?_
  refine TL_end ?_
  refine TE_go ?_
  refine TC_ret ?_
  obtain rfl := sinj h0
  exact TE_ret env rfl trivial ⟨.inr rfl, .inr rfl, trivial⟩
theorem bank_Bank_tell_5.ok0 {K : Nat} {t0 : List (Option (List (Int)))} {t1 : List (Option (List (Int)))} {l : List (Int)} {p1 : Int} {p3 : Int} {p4 : Int} {p5 : Int} {q0 : List (Int)} {q1 : Int} (h0 : bank_Bank_tell_5 K t0 t1 l p1 p3 p4 p5 = some (q0, q1)) : Fn Try.prog 78 [.p 0 0, .pf 0 (tcs t0).length 0, .int .i64 p1, .fn 85 [.p 1 0]] [(0, some (.foc (tcs t0) [.int .u32 1, .int .i32 0, .int .u32 0, .im (.slice (.int .i16)) l] (pst t1 p3 p4))), (1, some (.cells [.int .i64 p5]))] (.tup [.im (.slice (.int .i16)) q0, .int .i64 0]) [(0, some (.foc (tcs t0) [.int .u32 1, .int .i32 0, .int .u32 0, .im (.slice (.int .i16)) l] (pst t1 p3 q1))), (1, some (.cells [.int .i64 p5]))] := bank_Bank_tell_5.ok h0
theorem bank_Bank_tell_5.fnb : fnb Try.prog 78 = true := fnb_of Try.func78 rfl
theorem bank_Bank_tell_6.ok0 {K : Nat} {p0 : Nat} {p1 : Int} {p2 : List (Option (List (Int)))} {p3 : Int} {p4 : Int} {p5 : Int} {q0 : List (Int)} {q1 : List (Option (List (Int)))} {q2 : Int} {q3 : Int} (h0 : bank_Bank_tell_6 K p0 p1 p2 p3 p4 p5 = some (q0, q1, q2, q3)) : Fn Try.prog 78 [.p 0 0, .p 0 p0, .int .i64 p1, .fn 85 [.p 1 0]] [(0, some (.ab (bkA p2 p3 p4))), (1, some (.cells [.int .i64 p5]))] (.tup [.im (.slice (.int .i16)) q0, .int .i64 0]) [(0, some (.ab (bkA q1 q2 q3))), (1, some (.cells [.int .i64 p5]))] := by
  unfold bank_Bank_tell_6 at h0
  obtain ⟨⟨g1, g2, g3⟩, h0⟩ := gd_t h0
  split at h0
  · rename_i hx
    obtain ⟨⟨q0', q1', q2', q3'⟩, hr, h0⟩ := bnd h0
    simp only [Option.some.injEq, Prod.mk.injEq] at h0
    obtain ⟨rfl, rfl, rfl, rfl⟩ := h0
    have hF := tell_fn (x := none) (x' := some q1') (bank_Bank_tell_4.ok0 hr)
    rw [tk hx, tcs_at g1 g2 g3] at hF
    exact hF
  · rename_i l hx
    obtain ⟨⟨q0', q1'⟩, hr, h0⟩ := bnd h0
    simp only [Option.some.injEq, Prod.mk.injEq] at h0
    obtain ⟨rfl, rfl, rfl, rfl⟩ := h0
    have hF := tell_fn (x := some l) (x' := some l) (bank_Bank_tell_5.ok0 hr)
    rw [tk hx, tcs_at g1 g2 g3] at hF
    exact hF
  · cases h0
theorem bank_Bank_tell_6.fnb : fnb Try.prog 78 = true := fnb_of Try.func78 rfl
def bank_Bank_Turn.res (_p0 : Int) (_p1 : List (Option (List (Int)))) (_p2 : Int) (_p3 : Int) : (Unit) ⊕ ((List (Int)) × (List (Option (List (Int)))) × Int × Int) → MV
  | .inl () => .tup [.nils, .int .i64 1]
  | .inr (q0, _, _, _) => .tup [.im (.slice (.int .i16)) q0, .int .i64 0]
def bank_Bank_Turn.out (_p0 : Int) (p1 : List (Option (List (Int)))) (p2 : Int) (p3 : Int) : (Unit) ⊕ ((List (Int)) × (List (Option (List (Int)))) × Int × Int) → List (Nat × Option MObj)
  | .inl () => [(0, some (.ab (bkA p1 p2 p3)))]
  | .inr (_, q1, q2, q3) => [(0, some (.ab (bkA q1 q2 q3)))]
theorem bank_Bank_Turn.ok {K : Nat} {p0 : Int} {p1 : List (Option (List (Int)))} {p2 : Int} {p3 : Int} {r : (Unit) ⊕ ((List (Int)) × (List (Option (List (Int)))) × Int × Int)} (h0 : bank_Bank_Turn K p0 p1 p2 p3 = some r) : Fn Try.prog 69 [.p 0 0, .int .i64 p0] [(0, some (.ab (bkA p1 p2 p3)))] (bank_Bank_Turn.res p0 p1 p2 p3 r) (bank_Bank_Turn.out p0 p1 p2 p3 r) := by
  refine Fn_of Try.func69 rfl (Nat.le_of_ble_eq_true rfl) fun Γ => ?_
  refine TC_seq ?_
  refine TC_reg ?_
  refine TL_ev env 3 rfl ⟨trivial, ⟨trivial, ⟨trivial, trivial⟩⟩⟩ ?_
  refine TL_end ?_
  refine TE_go ?_
  refine TC_seq ?_
  refine TC_seq ?_
  refine TC_reg ?_
  refine TL_ev env 12 rfl ⟨trivial, ⟨⟨trivial, trivial⟩, ⟨⟨trivial, ⟨trivial, trivial⟩⟩, ⟨trivial, ⟨fun eg => ⟨trivial, trivial⟩, ⟨fun eg => ⟨fun e => e, ⟨trivial, trivial⟩⟩, ⟨⟨trivial, ⟨fun e => e, trivial⟩⟩, ⟨trivial, ⟨fun eg => ⟨trivial, trivial⟩, ⟨fun eg => ⟨fun e => e, ⟨trivial, (by decide)⟩⟩, ⟨fun eg => ⟨fun e => e, ⟨trivial, trivial⟩⟩, ⟨⟨trivial, ⟨fun e => e, trivial⟩⟩, trivial⟩⟩⟩⟩⟩⟩⟩⟩⟩⟩⟩⟩ ?_
  obtain ⟨z, hr, h0⟩ := bnd h0
  rcases z with ⟨⟩ | ⟨⟩
  · refine TL_callB [(0, 0)] (bank_Bank_may.ok0 hr) bank_Bank_may.fnb rfl ⟨trivial, ⟨trivial, ⟨trivial, trivial⟩⟩⟩ rfl ⟨.inr rfl, trivial⟩ rfl ?_
    refine TL_ev env 1 rfl ⟨trivial, trivial⟩ ?_
    refine TL_end ?_
    refine TE_go ?_
    refine TC_seq ?_
    refine TC_reg ?_
    refine TL_ev env 2 rfl ⟨trivial, ⟨⟨trivial, ⟨trivial, trivial⟩⟩, trivial⟩⟩ ?_
    refine TL_end ?_
    refine TE_go ?_
    refine TC_cond rfl (fun hb => ?_) (fun hb => ?_)
    · refine TC_seq ?_
      refine TC_reg ?_
      refine TL_ev env 3 rfl ⟨trivial, ⟨trivial, ⟨trivial, trivial⟩⟩⟩ ?_
      refine TL_end ?_
      refine TE_go ?_
      refine TC_ret ?_
      refine tsr ?_
      obtain rfl := sinj h0
      exact TE_ret env rfl trivial ⟨.inr rfl, trivial⟩
    · first | exact (ftf hb).elim | exact (tff hb).elim | exact absurd hb (by decide)
  · refine TL_callB [(0, 0)] (bank_Bank_may.ok1 hr) bank_Bank_may.fnb rfl ⟨trivial, ⟨trivial, ⟨trivial, trivial⟩⟩⟩ rfl ⟨.inr rfl, trivial⟩ rfl ?_
    refine TL_ev env 1 rfl ⟨trivial, trivial⟩ ?_
    refine TL_end ?_
    refine TE_go ?_
    refine TC_seq ?_
    refine TC_reg ?_
    refine TL_ev env 2 rfl ⟨trivial, ⟨⟨trivial, ⟨trivial, trivial⟩⟩, trivial⟩⟩ ?_
    refine TL_end ?_
    refine TE_go ?_
    refine TC_cond rfl (fun hb => ?_) (fun hb => ?_)
    · first | exact (ftf hb).elim | exact (tff hb).elim | exact absurd hb (by decide)
    · refine TC_skip ?_
      refine TE_go ?_
      refine TC_seq ?_
      refine TC_renw (A' := [(0, .p 0 0), (3, .p 1003 0), (4, .nils), (5, .int .i64 0)]) (L' := [(0, some (.ab (bkA _ _ _))), (1003, some (.cells [.int .i64 _]))]) [] ⟨rfl, rfl, rfl, rfl, trivial⟩ ⟨rfl, rfl, trivial⟩ rfl ?_
      refine TC_drawR ⟨_, fun i => ([[], [], [], [2], [1], [4, 1], [5, 4, 3, 2, 1], [], [], [8, 7, 6, 5, 4, 3, 2, 1, 0], [9, 8, 7, 6, 5, 4, 3, 2, 1, 0], [9, 8, 7, 6, 5, 4, 3, 2, 1, 0], [11, 10, 9, 8, 7, 6, 5, 4, 3, 2, 1, 0], [12, 11, 10, 9, 8, 7, 6, 5, 4, 3, 2, 1, 0]] : List (List Nat)).getD i [], fun i => ([[], [], [], [], [], [], [], [], [], [0, 1003], [], [], [], []] : List (List Nat)).getD i [], fun i => ([[], [], [], [], [], [], [], [], [], [], [], [], [], []] : List (List Nat)).getD i []⟩ (fun i => ([[], [], [], [], [], [], [], [], [], [], [], [], [], []] : List (List Nat)).getD i []) (by kernel_rfl) (by kernel_rfl) ?_
      refine AJR_ev env 1 rfl (Nat.le_of_ble_eq_true rfl) rfl trivial ?_
      refine AJR_ev env 2 rfl (Nat.le_of_ble_eq_true rfl) rfl trivial ?_
      refine AJR_ev env 3 rfl (Nat.le_of_ble_eq_true rfl) rfl ⟨trivial, trivial⟩ ?_
      refine AJR_ev env 4 rfl (Nat.le_of_ble_eq_true rfl) rfl ⟨trivial, ⟨trivial, (by decide)⟩⟩ ?_
      refine AJR_ev env 5 rfl (Nat.le_of_ble_eq_true rfl) rfl trivial ?_
      refine AJR_ev env 6 rfl (Nat.le_of_ble_eq_true rfl) rfl trivial ?_
      obtain ⟨g, h0⟩ := gd_t h0
      refine AJR_ev env 7 rfl (Nat.le_of_ble_eq_true rfl) rfl ⟨trivial, ⟨trivial, ⟨g.1, g.2⟩⟩⟩ ?_
      refine AJR_ev env 8 rfl (Nat.le_of_ble_eq_true rfl) rfl ⟨trivial, trivial⟩ ?_
      refine AJR_ev env 9 rfl (Nat.le_of_ble_eq_true rfl) rfl ⟨trivial, trivial⟩ ?_
      obtain ⟨⟨r12, r13, r14, r15⟩, hr, h0⟩ := bnd h0
      refine AJR_call 10 rfl (Nat.le_of_ble_eq_true rfl) [(0, 0), (1, 1003)] rfl (bank_Bank_tell_6.ok0 hr) bank_Bank_tell_6.fnb rfl ⟨trivial, ⟨trivial, ⟨trivial, ⟨trivial, ⟨trivial, trivial⟩⟩⟩⟩⟩ rfl ⟨.inr rfl, .inr rfl, trivial⟩ rfl ?_
      refine AJR_ev env 11 rfl (Nat.le_of_ble_eq_true rfl) rfl trivial ?_
      refine AJR_ev env 12 rfl (Nat.le_of_ble_eq_true rfl) rfl trivial ?_
      refine AJR_ev env 13 rfl (Nat.le_of_ble_eq_true rfl) rfl trivial ?_
      refine AJR_ev env 14 rfl (Nat.le_of_ble_eq_true rfl) rfl trivial ?_
      refine AJR_end rfl rfl rfl ?_
      refine TE_go ?_
      refine TC_ret ?_
      obtain rfl := sinj h0
      exact TE_ret env rfl trivial ⟨.inr rfl, trivial⟩
theorem bank_Bank_Turn.ok0 {K : Nat} {p0 : Int} {p1 : List (Option (List (Int)))} {p2 : Int} {p3 : Int}  (h0 : bank_Bank_Turn K p0 p1 p2 p3 = some (.inl ())) : Fn Try.prog 69 [.p 0 0, .int .i64 p0] [(0, some (.ab (bkA p1 p2 p3)))] (.tup [.nils, .int .i64 1]) [(0, some (.ab (bkA p1 p2 p3)))] := bank_Bank_Turn.ok h0
theorem bank_Bank_Turn.ok1 {K : Nat} {p0 : Int} {p1 : List (Option (List (Int)))} {p2 : Int} {p3 : Int} {q0 : List (Int)} {q1 : List (Option (List (Int)))} {q2 : Int} {q3 : Int} (h0 : bank_Bank_Turn K p0 p1 p2 p3 = some (.inr (q0, q1, q2, q3))) : Fn Try.prog 69 [.p 0 0, .int .i64 p0] [(0, some (.ab (bkA p1 p2 p3)))] (.tup [.im (.slice (.int .i16)) q0, .int .i64 0]) [(0, some (.ab (bkA q1 q2 q3)))] := bank_Bank_Turn.ok h0
theorem bank_Bank_Turn.fnb : fnb Try.prog 69 = true := fnb_of Try.func69 rfl
def poly_tables.res (p0 : Int) (_p1 : List (Option (List (Int)))) (_p2 : Int) (_p3 : Int) : (Unit) ⊕ ((List (Int)) × (List (Option (List (Int)))) × Int × Int) ⊕ ((List (Int)) × (List (Int)) × (List (Option (List (Int)))) × Int × Int) → MV
  | .inl () => .tup [.agg [.int .i64 0, .nils, .nils], .int .i64 1]
  | .inr (.inl (q0, _, _, _)) => .tup [.agg [.int .i64 p0, .im (.slice (.int .i16)) q0, .nils], .int .i64 1]
  | .inr (.inr (q0, q1, _, _, _)) => .tup [.agg [.int .i64 p0, .im (.slice (.int .i16)) q0, .im (.slice (.int .i16)) q1], .int .i64 0]
def poly_tables.out (_p0 : Int) (p1 : List (Option (List (Int)))) (p2 : Int) (p3 : Int) : (Unit) ⊕ ((List (Int)) × (List (Option (List (Int)))) × Int × Int) ⊕ ((List (Int)) × (List (Int)) × (List (Option (List (Int)))) × Int × Int) → List (Nat × Option MObj)
  | .inl () => [(0, some (.ab (bkA p1 p2 p3)))]
  | .inr (.inl (_, q1, q2, q3)) => [(0, some (.ab (bkA q1 q2 q3)))]
  | .inr (.inr (_, _, q2, q3, q4)) => [(0, some (.ab (bkA q2 q3 q4)))]
theorem poly_tables.ok {K : Nat} {p0 : Int} {p1 : List (Option (List (Int)))} {p2 : Int} {p3 : Int} {r : (Unit) ⊕ ((List (Int)) × (List (Option (List (Int)))) × Int × Int) ⊕ ((List (Int)) × (List (Int)) × (List (Option (List (Int)))) × Int × Int)} (h0 : poly_tables K p0 p1 p2 p3 = some r) : Fn Try.prog 41 [.p 0 0, .int .i64 p0] [(0, some (.ab (bkA p1 p2 p3)))] (poly_tables.res p0 p1 p2 p3 r) (poly_tables.out p0 p1 p2 p3 r) := by
  refine Fn_of Try.func41 rfl (Nat.le_of_ble_eq_true rfl) fun Γ => ?_
  refine TC_seq ?_
  refine TC_reg ?_
  refine TL_ev env 2 rfl ⟨trivial, ⟨trivial, trivial⟩⟩ ?_
  refine TL_end ?_
  refine TE_go ?_
  refine TC_seq ?_
  refine TC_reg ?_
  refine TL_ev env 2 rfl ⟨trivial, ⟨trivial, trivial⟩⟩ ?_
  obtain ⟨z, hr, h0⟩ := bnd h0
  rcases z with ⟨⟩ | ⟨r9, r10, r11, r12⟩
  · refine TL_callB [(0, 0)] (bank_Bank_Filter.ok0 hr) bank_Bank_Filter.fnb rfl ⟨trivial, ⟨trivial, ⟨trivial, trivial⟩⟩⟩ rfl ⟨.inr rfl, trivial⟩ rfl ?_
    refine TL_ev env 5 rfl ⟨trivial, ⟨trivial, ⟨trivial, ⟨trivial, ⟨trivial, trivial⟩⟩⟩⟩⟩ ?_
    refine TL_end ?_
    refine TE_go ?_
    refine TC_seq ?_
    refine TC_seq ?_
    refine TC_reg ?_
    refine TL_ev env 2 rfl ⟨trivial, ⟨⟨trivial, ⟨trivial, trivial⟩⟩, trivial⟩⟩ ?_
    refine TL_end ?_
    refine TE_go ?_
    refine TC_cond rfl (fun hb => ?_) (fun hb => ?_)
    · refine TC_seq ?_
      refine TC_reg ?_
      refine TL_ev env 4 rfl ⟨trivial, ⟨trivial, ⟨⟨trivial, trivial⟩, ⟨trivial, trivial⟩⟩⟩⟩ ?_
      refine TL_end ?_
      refine TE_go ?_
      refine TC_ret ?_
      refine tsr ?_
      obtain rfl := sinj h0
      exact TE_ret env rfl ⟨trivial, trivial⟩ ⟨.inr rfl, trivial⟩
    · first | exact (ftf hb).elim | exact (tff hb).elim | exact absurd hb (by decide)
  · refine TL_callB [(0, 0)] (bank_Bank_Filter.ok1 hr) bank_Bank_Filter.fnb rfl ⟨trivial, ⟨trivial, ⟨trivial, trivial⟩⟩⟩ rfl ⟨.inr rfl, trivial⟩ rfl ?_
    refine TL_ev env 5 rfl ⟨trivial, ⟨trivial, ⟨trivial, ⟨trivial, ⟨trivial, trivial⟩⟩⟩⟩⟩ ?_
    refine TL_end ?_
    refine TE_go ?_
    refine TC_seq ?_
    refine TC_seq ?_
    refine TC_reg ?_
    refine TL_ev env 2 rfl ⟨trivial, ⟨⟨trivial, ⟨trivial, trivial⟩⟩, trivial⟩⟩ ?_
    refine TL_end ?_
    refine TE_go ?_
    refine TC_cond rfl (fun hb => ?_) (fun hb => ?_)
    · first | exact (ftf hb).elim | exact (tff hb).elim | exact absurd hb (by decide)
    · refine TC_skip ?_
      refine TE_go ?_
      refine TC_seq ?_
      refine TC_reg ?_
      refine TL_ev env 3 rfl ⟨trivial, ⟨trivial, ⟨⟨trivial, ⟨trivial, trivial⟩⟩, trivial⟩⟩⟩ ?_
      obtain ⟨z, hr, h0⟩ := bnd h0
      rcases z with ⟨⟩ | ⟨r14, r15, r16, r17⟩
      · refine TL_callB [(0, 0)] (bank_Bank_Turn.ok0 hr) bank_Bank_Turn.fnb rfl ⟨trivial, ⟨trivial, ⟨trivial, trivial⟩⟩⟩ rfl ⟨.inr rfl, trivial⟩ rfl ?_
        refine TL_ev env 5 rfl ⟨trivial, ⟨trivial, ⟨trivial, ⟨trivial, ⟨trivial, trivial⟩⟩⟩⟩⟩ ?_
        refine TL_end ?_
        refine TE_go ?_
        refine TC_seq ?_
        refine TC_reg ?_
        refine TL_ev env 7 rfl ⟨trivial, ⟨trivial, ⟨trivial, ⟨⟨trivial, ⟨trivial, ⟨trivial, trivial⟩⟩⟩, ⟨trivial, ⟨⟨trivial, trivial⟩, ⟨trivial, trivial⟩⟩⟩⟩⟩⟩⟩ ?_
        refine TL_end ?_
        refine TE_go ?_
        refine TC_ret ?_
        obtain rfl := sinj h0
        exact TE_ret env rfl ⟨trivial, trivial⟩ ⟨.inr rfl, trivial⟩
      · refine TL_callB [(0, 0)] (bank_Bank_Turn.ok1 hr) bank_Bank_Turn.fnb rfl ⟨trivial, ⟨trivial, ⟨trivial, trivial⟩⟩⟩ rfl ⟨.inr rfl, trivial⟩ rfl ?_
        refine TL_ev env 5 rfl ⟨trivial, ⟨trivial, ⟨trivial, ⟨trivial, ⟨trivial, trivial⟩⟩⟩⟩⟩ ?_
        refine TL_end ?_
        refine TE_go ?_
        refine TC_seq ?_
        refine TC_reg ?_
        refine TL_ev env 7 rfl ⟨trivial, ⟨trivial, ⟨trivial, ⟨⟨trivial, ⟨trivial, ⟨trivial, trivial⟩⟩⟩, ⟨trivial, ⟨⟨trivial, trivial⟩, ⟨trivial, trivial⟩⟩⟩⟩⟩⟩⟩ ?_
        refine TL_end ?_
        refine TE_go ?_
        refine TC_ret ?_
        obtain rfl := sinj h0
        exact TE_ret env rfl ⟨trivial, trivial⟩ ⟨.inr rfl, trivial⟩
theorem poly_tables.ok0 {K : Nat} {p0 : Int} {p1 : List (Option (List (Int)))} {p2 : Int} {p3 : Int}  (h0 : poly_tables K p0 p1 p2 p3 = some (.inl ())) : Fn Try.prog 41 [.p 0 0, .int .i64 p0] [(0, some (.ab (bkA p1 p2 p3)))] (.tup [.agg [.int .i64 0, .nils, .nils], .int .i64 1]) [(0, some (.ab (bkA p1 p2 p3)))] := poly_tables.ok h0
theorem poly_tables.ok1 {K : Nat} {p0 : Int} {p1 : List (Option (List (Int)))} {p2 : Int} {p3 : Int} {q0 : List (Int)} {q1 : List (Option (List (Int)))} {q2 : Int} {q3 : Int} (h0 : poly_tables K p0 p1 p2 p3 = some (.inr (.inl (q0, q1, q2, q3)))) : Fn Try.prog 41 [.p 0 0, .int .i64 p0] [(0, some (.ab (bkA p1 p2 p3)))] (.tup [.agg [.int .i64 p0, .im (.slice (.int .i16)) q0, .nils], .int .i64 1]) [(0, some (.ab (bkA q1 q2 q3)))] := poly_tables.ok h0
theorem poly_tables.ok2 {K : Nat} {p0 : Int} {p1 : List (Option (List (Int)))} {p2 : Int} {p3 : Int} {q0 : List (Int)} {q1 : List (Int)} {q2 : List (Option (List (Int)))} {q3 : Int} {q4 : Int} (h0 : poly_tables K p0 p1 p2 p3 = some (.inr (.inr (q0, q1, q2, q3, q4)))) : Fn Try.prog 41 [.p 0 0, .int .i64 p0] [(0, some (.ab (bkA p1 p2 p3)))] (.tup [.agg [.int .i64 p0, .im (.slice (.int .i16)) q0, .im (.slice (.int .i16)) q1], .int .i64 0]) [(0, some (.ab (bkA q2 q3 q4)))] := poly_tables.ok h0
theorem poly_tables.fnb : fnb Try.prog 41 = true := fnb_of Try.func41 rfl
def poly_NewSplitter.res (_p0 : Int) (_p1 : List (Option (List (Int)))) (_p2 : Int) (_p3 : Int) : ((List (Option (List (Int)))) × Int × Int) ⊕ ((List (Option (List (Int)))) × Int × Int × (List (Int)) × (List (Int)) × (List (Int))) → MV
  | .inl (_, _, _) => .tup [.nilp, .int .i64 1]
  | .inr (_, _, _, _, _, _) => .tup [.p 1000 0, .int .i64 0]
def poly_NewSplitter.out (p0 : Int) (_p1 : List (Option (List (Int)))) (_p2 : Int) (_p3 : Int) : ((List (Option (List (Int)))) × Int × Int) ⊕ ((List (Option (List (Int)))) × Int × Int × (List (Int)) × (List (Int)) × (List (Int))) → List (Nat × Option MObj)
  | .inl (q0, q1, q2) => [(0, some (.ab (bkA q0 q1 q2)))]
  | .inr (q0, q1, q2, q3, q4, q5) => [(0, some (.ab (bkA q0 q1 q2))), (1000, some (.cells [.int .i64 p0, .im (.slice (.int .i16)) q3, .im (.slice (.int .i16)) q4, .sl 1001])), (1001, some (.rows (.int .i64) q5))]
theorem poly_NewSplitter.ok {K : Nat} {p0 : Int} {p1 : List (Option (List (Int)))} {p2 : Int} {p3 : Int} {r : ((List (Option (List (Int)))) × Int × Int) ⊕ ((List (Option (List (Int)))) × Int × Int × (List (Int)) × (List (Int)) × (List (Int)))} (h0 : poly_NewSplitter K p0 p1 p2 p3 = some r) : Fn Try.prog 13 [.p 0 0, .int .i64 p0] [(0, some (.ab (bkA p1 p2 p3)))] (poly_NewSplitter.res p0 p1 p2 p3 r) (poly_NewSplitter.out p0 p1 p2 p3 r) := by
  refine Fn_of Try.func13 rfl (Nat.le_of_ble_eq_true rfl) fun Γ => ?_
  refine TC_seq ?_
  refine TC_reg ?_
  refine TL_ev env 2 rfl ⟨trivial, ⟨trivial, trivial⟩⟩ ?_
  refine TL_end ?_
  refine TE_go ?_
  refine TC_seq ?_
  refine TC_reg ?_
  refine TL_ev env 2 rfl ⟨trivial, ⟨trivial, trivial⟩⟩ ?_
  obtain ⟨z, hr, h0⟩ := bnd h0
  rcases z with ⟨⟩ | ⟨r10, r11, r12, r13⟩ | ⟨r14, r15, r16, r17, r18⟩
  · refine TL_callB [(0, 0)] (poly_tables.ok0 hr) poly_tables.fnb rfl ⟨trivial, ⟨trivial, ⟨trivial, trivial⟩⟩⟩ rfl ⟨.inr rfl, trivial⟩ rfl ?_
    refine TL_ev env 6 rfl ⟨trivial, ⟨trivial, ⟨trivial, ⟨trivial, ⟨⟨trivial, trivial⟩, ⟨trivial, trivial⟩⟩⟩⟩⟩⟩ ?_
    refine TL_end ?_
    refine TE_go ?_
    refine TC_seq ?_
    refine TC_seq ?_
    refine TC_reg ?_
    refine TL_ev env 2 rfl ⟨trivial, ⟨⟨trivial, ⟨trivial, trivial⟩⟩, trivial⟩⟩ ?_
    refine TL_end ?_
    refine TE_go ?_
    refine TC_cond rfl (fun hb => ?_) (fun hb => ?_)
    · refine TC_seq ?_
      refine TC_reg ?_
      refine TL_ev env 3 rfl ⟨trivial, ⟨trivial, ⟨trivial, trivial⟩⟩⟩ ?_
      refine TL_end ?_
      refine TE_go ?_
      refine TC_ret ?_
      refine tsr ?_
      obtain rfl := sinj h0
      exact TE_ret env rfl trivial ⟨.inr rfl, trivial⟩
    · first | exact (ftf hb).elim | exact (tff hb).elim | exact absurd hb (by decide)
  · refine TL_callB [(0, 0)] (poly_tables.ok1 hr) poly_tables.fnb rfl ⟨trivial, ⟨trivial, ⟨trivial, trivial⟩⟩⟩ rfl ⟨.inr rfl, trivial⟩ rfl ?_
    refine TL_ev env 6 rfl ⟨trivial, ⟨trivial, ⟨trivial, ⟨trivial, ⟨⟨trivial, trivial⟩, ⟨trivial, trivial⟩⟩⟩⟩⟩⟩ ?_
    refine TL_end ?_
    refine TE_go ?_
    refine TC_seq ?_
    refine TC_seq ?_
    refine TC_reg ?_
    refine TL_ev env 2 rfl ⟨trivial, ⟨⟨trivial, ⟨trivial, trivial⟩⟩, trivial⟩⟩ ?_
    refine TL_end ?_
    refine TE_go ?_
    refine TC_cond rfl (fun hb => ?_) (fun hb => ?_)
    · refine TC_seq ?_
      refine TC_reg ?_
      refine TL_ev env 3 rfl ⟨trivial, ⟨trivial, ⟨trivial, trivial⟩⟩⟩ ?_
      refine TL_end ?_
      refine TE_go ?_
      refine TC_ret ?_
      refine tsr ?_
      obtain rfl := sinj h0
      exact TE_ret env rfl trivial ⟨.inr rfl, trivial⟩
    · first | exact (ftf hb).elim | exact (tff hb).elim | exact absurd hb (by decide)
  · refine TL_callB [(0, 0)] (poly_tables.ok2 hr) poly_tables.fnb rfl ⟨trivial, ⟨trivial, ⟨trivial, trivial⟩⟩⟩ rfl ⟨.inr rfl, trivial⟩ rfl ?_
    refine TL_ev env 6 rfl ⟨trivial, ⟨trivial, ⟨trivial, ⟨trivial, ⟨⟨trivial, trivial⟩, ⟨trivial, trivial⟩⟩⟩⟩⟩⟩ ?_
    refine TL_end ?_
    refine TE_go ?_
    refine TC_seq ?_
    refine TC_seq ?_
    refine TC_reg ?_
    refine TL_ev env 2 rfl ⟨trivial, ⟨⟨trivial, ⟨trivial, trivial⟩⟩, trivial⟩⟩ ?_
    refine TL_end ?_
    refine TE_go ?_
    refine TC_cond rfl (fun hb => ?_) (fun hb => ?_)
    · first | exact (ftf hb).elim | exact (tff hb).elim | exact absurd hb (by decide)
    · refine TC_skip ?_
      refine TE_go ?_
      refine TC_seq ?_
      refine TC_renw (A' := [(1, .int .i64 _), (4, .nilp), (5, .int .i64 0), (6, .p 1006 0)]) (L' := [(0, some (.ab (bkA _ _ _))), (1006, some (.cells [.int .i64 _, .im (.slice (.int .i16)) _, .im (.slice (.int .i16)) _]))]) [] ⟨rfl, rfl, rfl, rfl, trivial⟩ ⟨rfl, rfl, trivial⟩ rfl ?_
      refine TC_drawR ⟨_, fun i => ([[], [], [1], [2, 1], [3, 2, 1, 0], [4, 3, 2, 1, 0], [5, 4, 3, 2, 1, 0], [6, 5, 4, 3, 2, 1, 0]] : List (List Nat)).getD i [], fun i => ([[], [], [], [1020], [], [1022], [], []] : List (List Nat)).getD i [], fun i => ([[], [], [], [1020], [], [1022], [], []] : List (List Nat)).getD i []⟩ (fun i => ([[1020], [], [], [], [], [], [], []] : List (List Nat)).getD i []) (by kernel_rfl) (by kernel_rfl) ?_
      refine AJR_ev env 1 rfl (Nat.le_of_ble_eq_true rfl) rfl ⟨trivial, trivial⟩ ?_
      refine AJR_ev env 2 rfl (Nat.le_of_ble_eq_true rfl) rfl trivial ?_
      refine AJR_ev env 3 rfl (Nat.le_of_ble_eq_true rfl) rfl ⟨trivial, ⟨trivial, trivial⟩⟩ ?_
      obtain ⟨g, h0⟩ := gd_t h0
      refine AJR_ev env 4 rfl (Nat.le_of_ble_eq_true rfl) rfl ⟨trivial, ⟨trivial, ⟨g.1, ⟨g.2.1, g.2.2⟩⟩⟩⟩ ?_
      refine AJR_ev env 5 rfl (Nat.le_of_ble_eq_true rfl) rfl ⟨trivial, ⟨trivial, trivial⟩⟩ ?_
      refine AJR_ev env 6 rfl (Nat.le_of_ble_eq_true rfl) rfl trivial ?_
      refine AJR_ev env 7 rfl (Nat.le_of_ble_eq_true rfl) rfl trivial ?_
      refine AJR_ev env 8 rfl (Nat.le_of_ble_eq_true rfl) rfl trivial ?_
      refine AJR_end rfl rfl rfl ?_
      refine TE_go ?_
      refine TC_ret ?_
      obtain rfl := sinj h0
      refine TE_renw (A' := [(4, .p 1000 0), (5, .int .i64 0)]) (L' := [(0, some (.ab (bkA _ _ _))), (1000, some (.cells [.int .i64 _, .im (.slice (.int .i16)) _, .im (.slice (.int .i16)) _, .sl 1001])), (1001, some (.rows (.int .i64) _))]) [(1000, 1022), (1001, 1020)] ⟨rfl, rfl, trivial⟩ ⟨rfl, rfl, rfl, trivial⟩ rfl ?_
      exact TE_ret env rfl trivial ⟨.inr rfl, .inr rfl, .inr rfl, trivial⟩
theorem poly_NewSplitter.ok0 {K : Nat} {p0 : Int} {p1 : List (Option (List (Int)))} {p2 : Int} {p3 : Int} {q0 : List (Option (List (Int)))} {q1 : Int} {q2 : Int} (h0 : poly_NewSplitter K p0 p1 p2 p3 = some (.inl (q0, q1, q2))) : Fn Try.prog 13 [.p 0 0, .int .i64 p0] [(0, some (.ab (bkA p1 p2 p3)))] (.tup [.nilp, .int .i64 1]) [(0, some (.ab (bkA q0 q1 q2)))] := poly_NewSplitter.ok h0
theorem poly_NewSplitter.ok1 {K : Nat} {p0 : Int} {p1 : List (Option (List (Int)))} {p2 : Int} {p3 : Int} {q0 : List (Option (List (Int)))} {q1 : Int} {q2 : Int} {q3 : List (Int)} {q4 : List (Int)} {q5 : List (Int)} (h0 : poly_NewSplitter K p0 p1 p2 p3 = some (.inr (q0, q1, q2, q3, q4, q5))) : Fn Try.prog 13 [.p 0 0, .int .i64 p0] [(0, some (.ab (bkA p1 p2 p3)))] (.tup [.p 1000 0, .int .i64 0]) [(0, some (.ab (bkA q0 q1 q2))), (1000, some (.cells [.int .i64 p0, .im (.slice (.int .i16)) q3, .im (.slice (.int .i16)) q4, .sl 1001])), (1001, some (.rows (.int .i64) q5))] := poly_NewSplitter.ok h0
theorem poly_NewSplitter.fnb : fnb Try.prog 13 = true := fnb_of Try.func13 rfl
def fix_Sat32.res (_p0 : Int) : Int → MV
  | q0 => .int .i32 q0
def fix_Sat32.out (_p0 : Int) : Int → List (Nat × Option MObj)
  | _ => []
theorem fix_Sat32.ok {K : Nat} {p0 : Int} {r : Int} (h0 : fix_Sat32 K p0 = some r) : Fn Try.prog 56 [.int .i64 p0] [] (fix_Sat32.res p0 r) (fix_Sat32.out p0 r) := by
  refine Fn_of Try.func56 rfl (Nat.le_of_ble_eq_true rfl) fun Γ => ?_
  refine TC_seq ?_
  refine TC_reg ?_
  refine TL_ev env 1 rfl ⟨trivial, trivial⟩ ?_
  refine TL_end ?_
  refine TE_go ?_
  refine TC_seq ?_
  refine TC_reg ?_
  refine TL_ev env 1 rfl ⟨trivial, trivial⟩ ?_
  obtain ⟨r2, hr, h0⟩ := bnd h0
  refine TL_callB [] (fix_within_int64.ok0 hr) fix_within_int64.fnb rfl ⟨trivial, ⟨trivial, ⟨trivial, ⟨trivial, trivial⟩⟩⟩⟩ rfl trivial rfl ?_
  refine TL_ev env 2 rfl ⟨trivial, ⟨trivial, trivial⟩⟩ ?_
  refine TL_end ?_
  refine TE_go ?_
  refine TC_ret ?_
  obtain rfl := sinj h0
  exact TE_ret env rfl trivial trivial
theorem fix_Sat32.ok0 {K : Nat} {p0 : Int} {q0 : Int} (h0 : fix_Sat32 K p0 = some q0) : Fn Try.prog 56 [.int .i64 p0] [] (.int .i32 q0) [] := fix_Sat32.ok h0
theorem fix_Sat32.fnb : fnb Try.prog 56 = true := fnb_of Try.func56 rfl
def poly_rounded.res (_p0 : Int) (_p1 : Int) : Int → MV
  | q0 => .int .i64 q0
def poly_rounded.out (_p0 : Int) (_p1 : Int) : Int → List (Nat × Option MObj)
  | _ => []
theorem poly_rounded.ok {K : Nat} {p0 : Int} {p1 : Int} {r : Int} (h0 : poly_rounded K p0 p1 = some r) : Fn Try.prog 42 [.int .i64 p0, .int .i64 p1] [] (poly_rounded.res p0 p1 r) (poly_rounded.out p0 p1 r) := by
  refine Fn_of Try.func42 rfl (Nat.le_of_ble_eq_true rfl) fun Γ => ?_
  refine TC_seq ?_
  refine TC_reg ?_
  refine TL_ev env 1 rfl ⟨trivial, trivial⟩ ?_
  refine TL_end ?_
  refine TE_go ?_
  refine TC_seq ?_
  refine TC_reg ?_
  refine TL_ev env 2 rfl ⟨trivial, ⟨trivial, trivial⟩⟩ ?_
  obtain ⟨r3, hr, h0⟩ := bnd h0
  refine TL_callB [] (fix_Round.ok0 hr) fix_Round.fnb rfl ⟨trivial, ⟨trivial, ⟨trivial, trivial⟩⟩⟩ rfl trivial rfl ?_
  obtain ⟨r4, hr, h0⟩ := bnd h0
  refine TL_callB [] (fix_Sat32.ok0 hr) fix_Sat32.fnb rfl ⟨trivial, ⟨trivial, trivial⟩⟩ rfl trivial rfl ?_
  refine TL_ev env 2 rfl ⟨trivial, ⟨trivial, trivial⟩⟩ ?_
  refine TL_end ?_
  refine TE_go ?_
  refine TC_ret ?_
  obtain rfl := sinj h0
  exact TE_ret env rfl trivial trivial
theorem poly_rounded.ok0 {K : Nat} {p0 : Int} {p1 : Int} {q0 : Int} (h0 : poly_rounded K p0 p1 = some q0) : Fn Try.prog 42 [.int .i64 p0, .int .i64 p1] [] (.int .i64 q0) [] := poly_rounded.ok h0
theorem poly_rounded.fnb : fnb Try.prog 42 = true := fnb_of Try.func42 rfl
def poly_bands_wave.res (_p0 : Int) (_p1 : Int) (_p2 : Int) (_p3 : List (Int)) (_p4 : List (Int)) (_p5 : List (Int)) : Int → MV
  | q0 => .int .i64 q0
def poly_bands_wave.out (_p0 : Int) (_p1 : Int) (p2 : Int) (p3 : List (Int)) (p4 : List (Int)) (p5 : List (Int)) : Int → List (Nat × Option MObj)
  | _ => [(0, some (.cells [.int .i64 p2, .im (.slice (.int .i16)) p3, .im (.slice (.int .i16)) p4, .sl 1])), (1, some (.rows (.int .i64) p5))]
theorem poly_bands_wave.ok {K : Nat} {p0 : Int} {p1 : Int} {p2 : Int} {p3 : List (Int)} {p4 : List (Int)} {p5 : List (Int)} {r : Int} (h0 : poly_bands_wave K p0 p1 p2 p3 p4 p5 = some r) : Fn Try.prog 43 [.p 0 0, .int .i64 p0, .int .i64 p1] [(0, some (.cells [.int .i64 p2, .im (.slice (.int .i16)) p3, .im (.slice (.int .i16)) p4, .sl 1])), (1, some (.rows (.int .i64) p5))] (poly_bands_wave.res p0 p1 p2 p3 p4 p5 r) (poly_bands_wave.out p0 p1 p2 p3 p4 p5 r) := by
  refine Fn_of Try.func43 rfl (Nat.le_of_ble_eq_true rfl) fun Γ => ?_
  refine TC_seq ?_
  refine TC_reg ?_
  refine TL_ev env 1 rfl ⟨trivial, trivial⟩ ?_
  refine TL_end ?_
  refine TE_go ?_
  refine TC_seq ?_
  refine TC_reg ?_
  refine TL_ev env 6 rfl ⟨trivial, ⟨trivial, ⟨trivial, ⟨⟨trivial, trivial⟩, ⟨⟨trivial, ⟨trivial, trivial⟩⟩, ⟨trivial, trivial⟩⟩⟩⟩⟩⟩ ?_
  refine TL_end ?_
  refine TE_go ?_
  refine TC_seq ?_
  refine TC_renw (A' := [(0, .p 0 0), (1, .int .i64 _), (2, .int .i64 _), (6, .int .i64 0), (7, .int .i64 _)]) (L' := [(0, some (.cells [.int .i64 _, .im (.slice (.int .i16)) _, .im (.slice (.int .i16)) _, .sl 1])), (1, some (.rows (.int .i64) _))]) [] ⟨rfl, rfl, rfl, rfl, rfl, trivial⟩ ⟨rfl, rfl, trivial⟩ rfl ?_
  refine TC_drawR ⟨_, fun i => ([[], [0], [1, 0], [2, 1, 0], [], [], [5, 4], [], [7, 6, 5, 4], [], [9, 8, 7, 6, 5, 4], [], [11, 10, 9, 8, 7, 6, 5, 4], [12, 11, 10, 9, 8, 7, 6, 5, 4, 3, 2, 1, 0], [13, 12, 11, 10, 9, 8, 7, 6, 5, 4, 3, 2, 1, 0], [14, 13, 12, 11, 10, 9, 8, 7, 6, 5, 4, 3, 2, 1, 0], [15, 14, 13, 12, 11, 10, 9, 8, 7, 6, 5, 4, 3, 2, 1, 0]] : List (List Nat)).getD i [], fun i => ([[], [], [], [], [], [], [], [], [], [], [], [], [], [], [], [], []] : List (List Nat)).getD i [], fun i => ([[], [], [], [], [], [], [], [], [], [], [], [], [], [], [], [], []] : List (List Nat)).getD i []⟩ (fun i => ([[], [], [], [], [], [], [], [], [], [], [], [], [], [], [], [], []] : List (List Nat)).getD i []) (by kernel_rfl) (by kernel_rfl) ?_
  refine AJR_ev env 1 rfl (Nat.le_of_ble_eq_true rfl) rfl trivial ?_
  refine AJR_ev env 2 rfl (Nat.le_of_ble_eq_true rfl) rfl trivial ?_
  refine AJR_ev env 3 rfl (Nat.le_of_ble_eq_true rfl) rfl trivial ?_
  refine AJR_ev env 4 rfl (Nat.le_of_ble_eq_true rfl) rfl ⟨trivial, trivial⟩ ?_
  refine AJR_ev env 5 rfl (Nat.le_of_ble_eq_true rfl) rfl trivial ?_
  refine AJR_ev env 6 rfl (Nat.le_of_ble_eq_true rfl) rfl trivial ?_
  refine AJR_ev env 7 rfl (Nat.le_of_ble_eq_true rfl) rfl ⟨trivial, ⟨trivial, trivial⟩⟩ ?_
  refine AJR_ev env 8 rfl (Nat.le_of_ble_eq_true rfl) rfl trivial ?_
  obtain ⟨g, h0⟩ := gd_t h0
  refine AJR_ev env 9 rfl (Nat.le_of_ble_eq_true rfl) rfl ⟨trivial, ⟨trivial, g⟩⟩ ?_
  refine AJR_ev env 10 rfl (Nat.le_of_ble_eq_true rfl) rfl trivial ?_
  refine AJR_ev env 11 rfl (Nat.le_of_ble_eq_true rfl) rfl ⟨trivial, ⟨trivial, trivial⟩⟩ ?_
  refine AJR_ev env 12 rfl (Nat.le_of_ble_eq_true rfl) rfl trivial ?_
  obtain ⟨g, h0⟩ := gd_t h0
  refine AJR_ev env 13 rfl (Nat.le_of_ble_eq_true rfl) rfl ⟨trivial, ⟨trivial, g⟩⟩ ?_
  obtain ⟨g, h0⟩ := gd_t h0
  refine AJR_ev env 14 rfl (Nat.le_of_ble_eq_true rfl) rfl ⟨trivial, ⟨trivial, ⟨g.1, g.2⟩⟩⟩ ?_
  refine AJR_ev env 15 rfl (Nat.le_of_ble_eq_true rfl) rfl ⟨trivial, trivial⟩ ?_
  refine AJR_ev env 16 rfl (Nat.le_of_ble_eq_true rfl) rfl trivial ?_
  refine AJR_ev env 17 rfl (Nat.le_of_ble_eq_true rfl) rfl trivial ?_
  refine AJR_end rfl rfl rfl ?_
  refine TE_go ?_
  refine TC_ret ?_
  obtain rfl := sinj h0
  exact TE_ret env rfl trivial ⟨.inr rfl, .inr rfl, trivial⟩
theorem poly_bands_wave.ok0 {K : Nat} {p0 : Int} {p1 : Int} {p2 : Int} {p3 : List (Int)} {p4 : List (Int)} {p5 : List (Int)} {q0 : Int} (h0 : poly_bands_wave K p0 p1 p2 p3 p4 p5 = some q0) : Fn Try.prog 43 [.p 0 0, .int .i64 p0, .int .i64 p1] [(0, some (.cells [.int .i64 p2, .im (.slice (.int .i16)) p3, .im (.slice (.int .i16)) p4, .sl 1])), (1, some (.rows (.int .i64) p5))] (.int .i64 q0) [(0, some (.cells [.int .i64 p2, .im (.slice (.int .i16)) p3, .im (.slice (.int .i16)) p4, .sl 1])), (1, some (.rows (.int .i64) p5))] := poly_bands_wave.ok h0
theorem poly_bands_wave.fnb : fnb Try.prog 43 = true := fnb_of Try.func43 rfl
def poly_Splitter_Feed.res (_p0 : List (Int)) (_p1 : Int) (_p2 : List (Int)) (_p3 : List (Int)) (_p4 : List (Int)) : (Unit) ⊕ ((List (Int)) × (List (Int))) → MV
  | .inl () => .tup [.nils, .int .i64 1]
  | .inr (q0, _) => .tup [.im (.slice (.int .i32)) q0, .int .i64 0]
def poly_Splitter_Feed.out (_p0 : List (Int)) (p1 : Int) (p2 : List (Int)) (p3 : List (Int)) (p4 : List (Int)) : (Unit) ⊕ ((List (Int)) × (List (Int))) → List (Nat × Option MObj)
  | .inl () => [(0, some (.cells [.int .i64 p1, .im (.slice (.int .i16)) p2, .im (.slice (.int .i16)) p3, .sl 1])), (1, some (.rows (.int .i64) p4))]
  | .inr (_, q1) => [(0, some (.cells [.int .i64 p1, .im (.slice (.int .i16)) p2, .im (.slice (.int .i16)) p3, .sl 1])), (1, some (.rows (.int .i64) q1))]
theorem poly_Splitter_Feed.ok {K : Nat} {p0 : List (Int)} {p1 : Int} {p2 : List (Int)} {p3 : List (Int)} {p4 : List (Int)} {r : (Unit) ⊕ ((List (Int)) × (List (Int)))} (h0 : poly_Splitter_Feed K p0 p1 p2 p3 p4 = some r) : Fn Try.prog 16 [.p 0 0, .im (.slice (.int .i16)) p0] [(0, some (.cells [.int .i64 p1, .im (.slice (.int .i16)) p2, .im (.slice (.int .i16)) p3, .sl 1])), (1, some (.rows (.int .i64) p4))] (poly_Splitter_Feed.res p0 p1 p2 p3 p4 r) (poly_Splitter_Feed.out p0 p1 p2 p3 p4 r) := by
  refine Fn_of Try.func16 rfl (Nat.le_of_ble_eq_true rfl) fun Γ => ?_
  refine TC_seq ?_
  refine TC_reg ?_
  refine TL_ev env 2 rfl ⟨trivial, ⟨trivial, trivial⟩⟩ ?_
  refine TL_end ?_
  refine TE_go ?_
  refine TC_seq ?_
  refine TC_blk ?_
  refine TC_seq ?_
  refine TC_reg ?_
  refine TL_ev env 3 rfl ⟨trivial, ⟨⟨trivial, ⟨trivial, trivial⟩⟩, ⟨trivial, trivial⟩⟩⟩ ?_
  refine TL_end ?_
  refine TE_go ?_
  refine TC_cond rfl (fun hb => ?_) (fun hb => ?_)
  · first | exact (ftf hb).elim | exact (tff hb).elim | exact absurd hb (by decide)
  · refine TC_seq ?_
    refine TC_reg ?_
    refine TL_ev env 9 rfl ⟨trivial, ⟨⟨trivial, trivial⟩, ⟨trivial, ⟨trivial, ⟨trivial, ⟨trivial, ⟨⟨trivial, trivial⟩, ⟨⟨trivial, ⟨trivial, trivial⟩⟩, ⟨trivial, trivial⟩⟩⟩⟩⟩⟩⟩⟩⟩ ?_
    refine TL_end ?_
    refine TE_go ?_
    refine TC_cond rfl (fun hb => ?_) (fun hb => ?_)
    · replace h0 := bif_t h0 hb
      refine TC_seq ?_
      refine TC_reg ?_
      refine TL_ev env 2 rfl ⟨trivial, ⟨trivial, trivial⟩⟩ ?_
      refine TL_end ?_
      refine TE_go ?_
      refine TC_ret ?_
      refine tbr ?_
      refine tsr ?_
      obtain rfl := sinj h0
      exact TE_ret env rfl trivial ⟨.inr rfl, .inr rfl, trivial⟩
    · replace h0 := bif_f h0 hb
      refine TC_skip ?_
      refine tbn ?_
      refine TE_go ?_
      refine TC_seq ?_
      refine TC_renw (A' := [(0, .p 0 0), (1, .im (.slice (.int .i16)) _)]) (L' := [(0, some (.cells [.int .i64 _, .im (.slice (.int .i16)) _, .im (.slice (.int .i16)) _, .sl 1])), (1, some (.rows (.int .i64) _))]) [] ⟨rfl, rfl, trivial⟩ ⟨rfl, rfl, trivial⟩ rfl ?_
      refine TC_drawR ⟨_, fun i => ([[], [0], [1, 0], [2, 1, 0], [], [4], [5, 4], [6, 5, 4], [7, 6, 5, 4], [8, 7, 6, 5, 4, 3, 2, 1, 0], [], [10], [11, 10], [12, 11, 10], [13, 12, 11, 10, 9, 8, 7, 6, 5, 4, 3, 2, 1, 0]] : List (List Nat)).getD i [], fun i => ([[], [], [], [], [], [], [], [], [], [], [], [], [], [], [1]] : List (List Nat)).getD i [], fun i => ([[], [], [], [], [], [], [], [], [], [], [], [], [], [], []] : List (List Nat)).getD i []⟩ (fun i => ([[], [], [], [], [], [], [], [], [], [], [], [], [], [], []] : List (List Nat)).getD i []) (by kernel_rfl) (by kernel_rfl) ?_
      refine AJR_ev env 1 rfl (Nat.le_of_ble_eq_true rfl) rfl trivial ?_
      refine AJR_ev env 2 rfl (Nat.le_of_ble_eq_true rfl) rfl trivial ?_
      refine AJR_ev env 3 rfl (Nat.le_of_ble_eq_true rfl) rfl trivial ?_
      refine AJR_ev env 4 rfl (Nat.le_of_ble_eq_true rfl) rfl ⟨trivial, trivial⟩ ?_
      refine AJR_ev env 5 rfl (Nat.le_of_ble_eq_true rfl) rfl trivial ?_
      refine AJR_ev env 6 rfl (Nat.le_of_ble_eq_true rfl) rfl trivial ?_
      refine AJR_ev env 7 rfl (Nat.le_of_ble_eq_true rfl) rfl trivial ?_
      refine AJR_ev env 8 rfl (Nat.le_of_ble_eq_true rfl) rfl trivial ?_
      refine AJR_ev env 9 rfl (Nat.le_of_ble_eq_true rfl) rfl ⟨trivial, trivial⟩ ?_
      obtain ⟨g, h0⟩ := gd_t h0
      refine AJR_ev env 10 rfl (Nat.le_of_ble_eq_true rfl) rfl ⟨trivial, ⟨trivial, ⟨trivial, ⟨g.1, g.2⟩⟩⟩⟩ ?_
      refine AJR_ev env 11 rfl (Nat.le_of_ble_eq_true rfl) rfl trivial ?_
      refine AJR_ev env 12 rfl (Nat.le_of_ble_eq_true rfl) rfl trivial ?_
      refine AJR_ev env 13 rfl (Nat.le_of_ble_eq_true rfl) rfl trivial ?_
      refine AJR_ev env 14 rfl (Nat.le_of_ble_eq_true rfl) rfl ⟨trivial, trivial⟩ ?_
      obtain ⟨g, h0⟩ := gd_t h0
      refine AJR_ev env 15 rfl (Nat.le_of_ble_eq_true rfl) rfl ⟨⟨trivial, ⟨trivial, trivial⟩⟩, g⟩ ?_
      refine AJR_end rfl rfl rfl ?_
      refine TE_go ?_
      refine TC_seq ?_
      refine TC_seq ?_
      refine TC_reg ?_
      refine TL_ev env 3 rfl ⟨trivial, ⟨⟨trivial, trivial⟩, ⟨trivial, trivial⟩⟩⟩ ?_
      refine TL_end ?_
      refine TE_go ?_
      obtain ⟨z1, h1, h0⟩ := bnd h0
      refine TC_cut (α := (List (Int))) (fun s => z1 = s) (fun s => [(0, .p 0 0)]) (fun s => [(0, some (.cells [.int .i64 p1, .im (.slice (.int .i16)) p2, .im (.slice (.int .i16)) p3, .sl 1])), (1, some (.rows (.int .i64) s))]) ?_ ?_
      · refine TC_blk ?_
        refine TC_loop (α := Int × (List (Int))) (fun n s => poly_Splitter_Feed.l4 K p0 (p0.length : Int) p1 p2 p3 n s.1 s.2 = some z1) (fun s => [(0, .p 0 0), (45, .im (.slice (.int .i16)) p0), (46, .int .i64 (p0.length : Int)), (47, .int .i64 s.1)]) (fun s => [(0, some (.cells [.int .i64 p1, .im (.slice (.int .i16)) p2, .im (.slice (.int .i16)) p3, .sl 1])), (1, some (.rows (.int .i64) s.2))]) K ?_ ?_
        · exact SP_ren [] (_, _) h1 ⟨rfl, rfl, rfl, rfl, trivial⟩ ⟨rfl, rfl, trivial⟩ rfl
        rintro n ⟨x312, x313⟩ h1
        rcases n with _ | n
        · exact (nsome h1).elim
        replace h1 : poly_Splitter_Feed.r4 K p0 (p0.length : Int) p1 p2 p3 (poly_Splitter_Feed.l4 K p0 (p0.length : Int) p1 p2 p3 n) x312 x313 = some z1 := h1
        refine TC_seq ?_
        refine TC_reg ?_
        refine TL_ev env 1 rfl ⟨⟨trivial, ⟨trivial, trivial⟩⟩, trivial⟩ ?_
        refine TL_end ?_
        refine TE_go ?_
        refine TC_seq ?_
        refine TC_cond rfl (fun hb => ?_) (fun hb => ?_)
        · replace h1 := bif_t h1 hb
          refine TC_skip ?_
          refine TE_go ?_
          refine TC_seq ?_
          refine TC_blk ?_
          refine TC_seq ?_
          refine TC_reg ?_
          obtain ⟨g, h1⟩ := gd_t h1
          refine TL_ev env 5 rfl ⟨trivial, ⟨⟨trivial, ⟨trivial, ⟨g.1, g.2⟩⟩⟩, ⟨⟨trivial, trivial⟩, ⟨trivial, ⟨trivial, trivial⟩⟩⟩⟩⟩ ?_
          refine TL_end ?_
          refine TE_go ?_
          refine TC_renw (A' := [(0, .p 0 0), (6, .int .i64 _), (7, .int .i16 _), (45, .im (.slice (.int .i16)) _), (46, .int .i64 _), (47, .int .i64 _)]) (L' := [(0, some (.cells [.int .i64 _, .im (.slice (.int .i16)) _, .im (.slice (.int .i16)) _, .sl 1])), (1, some (.rows (.int .i64) _))]) [] ⟨rfl, rfl, rfl, rfl, rfl, rfl, trivial⟩ ⟨rfl, rfl, trivial⟩ rfl ?_
          refine TC_drawR ⟨_, fun i => ([[], [0], [1, 0], [2, 1, 0], [], [4], [5, 4], [6, 5, 4], [7, 6, 5, 4], [8, 7, 6, 5, 4], [], [10, 9, 8, 7, 6, 5, 4], [], [12], [13, 12, 11, 10, 9, 8, 7, 6, 5, 4, 3, 2, 1, 0], [14, 13, 12, 11, 10, 9, 8, 7, 6, 5, 4, 3, 2, 1, 0]] : List (List Nat)).getD i [], fun i => ([[], [], [], [], [], [], [], [], [], [], [], [], [], [], [], [1]] : List (List Nat)).getD i [], fun i => ([[], [], [], [], [], [], [], [], [], [], [], [], [], [], [], []] : List (List Nat)).getD i []⟩ (fun i => ([[], [], [], [], [], [], [], [], [], [], [], [], [], [], [], []] : List (List Nat)).getD i []) (by kernel_rfl) (by kernel_rfl) ?_
          refine AJR_ev env 1 rfl (Nat.le_of_ble_eq_true rfl) rfl trivial ?_
          refine AJR_ev env 2 rfl (Nat.le_of_ble_eq_true rfl) rfl trivial ?_
          refine AJR_ev env 3 rfl (Nat.le_of_ble_eq_true rfl) rfl trivial ?_
          refine AJR_ev env 4 rfl (Nat.le_of_ble_eq_true rfl) rfl ⟨trivial, trivial⟩ ?_
          refine AJR_ev env 5 rfl (Nat.le_of_ble_eq_true rfl) rfl trivial ?_
          refine AJR_ev env 6 rfl (Nat.le_of_ble_eq_true rfl) rfl trivial ?_
          refine AJR_ev env 7 rfl (Nat.le_of_ble_eq_true rfl) rfl trivial ?_
          refine AJR_ev env 8 rfl (Nat.le_of_ble_eq_true rfl) rfl trivial ?_
          refine AJR_ev env 9 rfl (Nat.le_of_ble_eq_true rfl) rfl ⟨trivial, trivial⟩ ?_
          refine AJR_ev env 10 rfl (Nat.le_of_ble_eq_true rfl) rfl ⟨trivial, ⟨trivial, trivial⟩⟩ ?_
          refine AJR_ev env 11 rfl (Nat.le_of_ble_eq_true rfl) rfl trivial ?_
          refine AJR_ev env 12 rfl (Nat.le_of_ble_eq_true rfl) rfl ⟨trivial, ⟨trivial, trivial⟩⟩ ?_
          refine AJR_ev env 13 rfl (Nat.le_of_ble_eq_true rfl) rfl trivial ?_
          refine AJR_ev env 14 rfl (Nat.le_of_ble_eq_true rfl) rfl trivial ?_
          obtain ⟨g, h1⟩ := gd_t h1
          refine AJR_ev env 15 rfl (Nat.le_of_ble_eq_true rfl) rfl ⟨trivial, ⟨trivial, ⟨g.1, g.2⟩⟩⟩ ?_
          obtain ⟨g, h1⟩ := gd_t h1
          refine AJR_ev env 16 rfl (Nat.le_of_ble_eq_true rfl) rfl ⟨trivial, ⟨trivial, g⟩⟩ ?_
          refine AJR_end rfl rfl rfl ?_
          refine tbn ?_
          refine TE_go ?_
          refine TC_reg ?_
          refine TL_ev env 2 rfl ⟨⟨trivial, ⟨trivial, trivial⟩⟩, ⟨trivial, trivial⟩⟩ ?_
          refine TL_end ?_
          refine tsn ?_
          exact TE_nextr [] n (Nat.lt_succ_self n) (_, _) h1 ⟨rfl, rfl, rfl, rfl, trivial⟩ ⟨rfl, rfl, trivial⟩ rfl
        · replace h1 := bif_f h1 hb
          refine TC_exit ?_
          refine tsx ?_
          refine tsx ?_
          refine tbe ?_
          obtain rfl := sinj h1
          refine tsn ?_
          exact SP_ren [] _ rfl ⟨rfl, trivial⟩ ⟨rfl, rfl, trivial⟩ rfl
      · rintro x86 hz
        obtain rfl := hz.symm
        refine TE_go ?_
        refine TC_seq ?_
        refine TC_reg ?_
        obtain ⟨g, h0⟩ := gd_t h0
        refine TL_ev env 8 rfl ⟨trivial, ⟨trivial, ⟨trivial, ⟨trivial, ⟨⟨trivial, trivial⟩, ⟨⟨trivial, ⟨trivial, trivial⟩⟩, ⟨⟨trivial, ⟨trivial, ⟨g.1, ⟨g.2.1, g.2.2⟩⟩⟩⟩, ⟨trivial, trivial⟩⟩⟩⟩⟩⟩⟩⟩ ?_
        refine TL_end ?_
        refine TE_go ?_
        refine TC_seq ?_
        refine TC_seq ?_
        refine TC_reg ?_
        refine TL_ev env 3 rfl ⟨trivial, ⟨⟨trivial, trivial⟩, ⟨trivial, trivial⟩⟩⟩ ?_
        refine TL_end ?_
        refine TE_go ?_
        obtain ⟨z1, h1, h0⟩ := bnd h0
        refine TC_cut (α := (List (Int))) (fun s => z1 = s) (fun s => [(0, .p 0 0), (8, .sl 16802)]) (fun s => [(0, some (.cells [.int .i64 p1, .im (.slice (.int .i16)) p2, .im (.slice (.int .i16)) p3, .sl 1])), (1, some (.rows (.int .i64) x86)), (16802, some (.rows (.int .i64) s))]) ?_ ?_
        · refine TC_blk ?_
          refine TC_loop (α := Int × (List (Int))) (fun n s => poly_Splitter_Feed.l2 K ((List.replicate (Int.toNat (kwrap .i64 (2 * p1))) (0 : Int)).length : Int) p1 p2 p3 x86 n s.1 s.2 = some z1) (fun s => [(0, .p 0 0), (8, .sl 22802), (76, .int .i64 ((List.replicate (Int.toNat (kwrap .i64 (2 * p1))) (0 : Int)).length : Int)), (77, .int .i64 s.1)]) (fun s => [(0, some (.cells [.int .i64 p1, .im (.slice (.int .i16)) p2, .im (.slice (.int .i16)) p3, .sl 1])), (1, some (.rows (.int .i64) x86)), (22802, some (.rows (.int .i64) s.2))]) K ?_ ?_
          · exact SP_ren [(22802, 1074)] (_, _) h1 ⟨rfl, rfl, rfl, rfl, trivial⟩ ⟨rfl, rfl, rfl, trivial⟩ rfl
          rintro n ⟨x266, x267⟩ h1
          rcases n with _ | n
          · exact (nsome h1).elim
          replace h1 : poly_Splitter_Feed.r2 K ((List.replicate (Int.toNat (kwrap .i64 (2 * p1))) (0 : Int)).length : Int) p1 p2 p3 x86 (poly_Splitter_Feed.l2 K ((List.replicate (Int.toNat (kwrap .i64 (2 * p1))) (0 : Int)).length : Int) p1 p2 p3 x86 n) x266 x267 = some z1 := h1
          refine TC_seq ?_
          refine TC_reg ?_
          refine TL_ev env 1 rfl ⟨⟨trivial, ⟨trivial, trivial⟩⟩, trivial⟩ ?_
          refine TL_end ?_
          refine TE_go ?_
          refine TC_seq ?_
          refine TC_cond rfl (fun hb => ?_) (fun hb => ?_)
          · replace h1 := bif_t h1 hb
            refine TC_skip ?_
            refine TE_go ?_
            refine TC_seq ?_
            refine TC_blk ?_
            refine TC_seq ?_
            refine TC_reg ?_
            refine TL_ev env 2 rfl ⟨trivial, ⟨trivial, trivial⟩⟩ ?_
            refine TL_end ?_
            refine TE_go ?_
            refine TC_seq ?_
            refine TC_reg ?_
            refine TL_ev env 1 rfl ⟨trivial, trivial⟩ ?_
            refine TL_end ?_
            refine TE_go ?_
            refine TC_seq ?_
            refine TC_seq ?_
            refine TC_reg ?_
            refine TL_ev env 1 rfl ⟨trivial, trivial⟩ ?_
            refine TL_end ?_
            refine TE_go ?_
            obtain ⟨z2, h2, h1⟩ := bnd h1
            refine TC_cut (α := Int) (fun s => z2 = s) (fun s => [(0, .p 0 0), (8, .sl 24502), (9, .int .i64 x266), (10, .int .i64 s), (76, .int .i64 ((List.replicate (Int.toNat (kwrap .i64 (2 * p1))) (0 : Int)).length : Int)), (77, .int .i64 x266)]) (fun s => [(0, some (.cells [.int .i64 p1, .im (.slice (.int .i16)) p2, .im (.slice (.int .i16)) p3, .sl 1])), (1, some (.rows (.int .i64) x86)), (24502, some (.rows (.int .i64) x267))]) ?_ ?_
            · refine TC_blk ?_
              refine TC_loop (α := Int × Int) (fun n s => poly_Splitter_Feed.l3 K x266 ((List.replicate (Int.toNat (kwrap .i64 (2 * p1))) (0 : Int)).length : Int) p1 p2 p3 x86 x267 n s.1 s.2 = some z2) (fun s => [(0, .p 0 0), (8, .sl 24702), (9, .int .i64 x266), (10, .int .i64 s.1), (76, .int .i64 ((List.replicate (Int.toNat (kwrap .i64 (2 * p1))) (0 : Int)).length : Int)), (77, .int .i64 x266), (80, .int .i64 s.2)]) (fun s => [(0, some (.cells [.int .i64 p1, .im (.slice (.int .i16)) p2, .im (.slice (.int .i16)) p3, .sl 1])), (1, some (.rows (.int .i64) x86)), (24702, some (.rows (.int .i64) x267))]) K ?_ ?_
              · exact SP_ren [(24702, 22802)] (_, _) h2 ⟨rfl, rfl, rfl, rfl, rfl, rfl, rfl, trivial⟩ ⟨rfl, rfl, rfl, trivial⟩ rfl
              rintro n ⟨x297, x298⟩ h2
              rcases n with _ | n
              · exact (nsome h2).elim
              replace h2 : poly_Splitter_Feed.r3 K x266 ((List.replicate (Int.toNat (kwrap .i64 (2 * p1))) (0 : Int)).length : Int) p1 p2 p3 x86 x267 (poly_Splitter_Feed.l3 K x266 ((List.replicate (Int.toNat (kwrap .i64 (2 * p1))) (0 : Int)).length : Int) p1 p2 p3 x86 x267 n) x297 x298 = some z2 := h2
              refine TC_seq ?_
              refine TC_reg ?_
              refine TL_ev env 1 rfl ⟨⟨trivial, ⟨trivial, trivial⟩⟩, trivial⟩ ?_
              refine TL_end ?_
              refine TE_go ?_
              refine TC_seq ?_
              refine TC_cond rfl (fun hb => ?_) (fun hb => ?_)
              · replace h2 := bif_t h2 hb
                refine TC_skip ?_
                refine TE_go ?_
                refine TC_seq ?_
                refine TC_blk ?_
                refine TC_seq ?_
                refine TC_reg ?_
                refine TL_ev env 2 rfl ⟨trivial, ⟨trivial, trivial⟩⟩ ?_
                refine TL_end ?_
                refine TE_go ?_
                refine TC_seq ?_
                refine TC_reg ?_
                refine TL_ev env 11 rfl ⟨trivial, ⟨trivial, ⟨trivial, ⟨trivial, ⟨trivial, ⟨⟨trivial, trivial⟩, ⟨⟨trivial, ⟨trivial, trivial⟩⟩, ⟨trivial, ⟨⟨trivial, ⟨trivial, trivial⟩⟩, ⟨⟨trivial, ⟨trivial, trivial⟩⟩, ⟨trivial, trivial⟩⟩⟩⟩⟩⟩⟩⟩⟩⟩⟩ ?_
                refine TL_end ?_
                refine TE_go ?_
                refine TC_renw (A' := [(0, .p 0 0), (8, .sl 24702), (9, .int .i64 _), (10, .int .i64 _), (12, .int .i64 _), (76, .int .i64 _), (77, .int .i64 _), (80, .int .i64 _)]) (L' := [(0, some (.cells [.int .i64 _, .im (.slice (.int .i16)) _, .im (.slice (.int .i16)) _, .sl 1])), (1, some (.rows (.int .i64) _)), (24702, some (.rows (.int .i64) _))]) [] ⟨rfl, rfl, rfl, rfl, rfl, rfl, rfl, rfl, trivial⟩ ⟨rfl, rfl, rfl, trivial⟩ rfl ?_
                refine TC_drawR ⟨_, fun i => ([[], [0], [1, 0], [2, 1, 0], [], [4, 3, 2, 1, 0], [5, 4, 3, 2, 1, 0], [], [7], [8, 7], [9, 8, 7], [10, 9, 8, 7], [], [12, 11, 10, 9, 8, 7], [13, 12, 11, 10, 9, 8, 7], [14, 13, 12, 11, 10, 9, 8, 7], [15, 14, 13, 12, 11, 10, 9, 8, 7, 6, 5, 4, 3, 2, 1, 0], [], [17, 16, 15, 14, 13, 12, 11, 10, 9, 8, 7, 6, 5, 4, 3, 2, 1, 0], [18, 17, 16, 15, 14, 13, 12, 11, 10, 9, 8, 7, 6, 5, 4, 3, 2, 1, 0]] : List (List Nat)).getD i [], fun i => ([[], [], [], [], [], [], [], [], [], [], [], [], [], [], [], [], [], [], [], []] : List (List Nat)).getD i [], fun i => ([[], [], [], [], [], [], [], [], [], [], [], [], [], [], [], [], [], [], [], []] : List (List Nat)).getD i []⟩ (fun i => ([[], [], [], [], [], [], [], [], [], [], [], [], [], [], [], [], [], [], [], []] : List (List Nat)).getD i []) (by kernel_rfl) (by kernel_rfl) ?_
                refine AJR_ev env 1 rfl (Nat.le_of_ble_eq_true rfl) rfl trivial ?_
                refine AJR_ev env 2 rfl (Nat.le_of_ble_eq_true rfl) rfl trivial ?_
                refine AJR_ev env 3 rfl (Nat.le_of_ble_eq_true rfl) rfl trivial ?_
                refine AJR_ev env 4 rfl (Nat.le_of_ble_eq_true rfl) rfl ⟨trivial, trivial⟩ ?_
                refine AJR_ev env 5 rfl (Nat.le_of_ble_eq_true rfl) rfl trivial ?_
                obtain ⟨g, h2⟩ := gd_t h2
                refine AJR_ev env 6 rfl (Nat.le_of_ble_eq_true rfl) rfl ⟨trivial, ⟨trivial, ⟨g.1, g.2⟩⟩⟩ ?_
                obtain ⟨g, h2⟩ := gd_t h2
                refine AJR_ev env 7 rfl (Nat.le_of_ble_eq_true rfl) rfl ⟨trivial, g⟩ ?_
                refine AJR_ev env 8 rfl (Nat.le_of_ble_eq_true rfl) rfl trivial ?_
                refine AJR_ev env 9 rfl (Nat.le_of_ble_eq_true rfl) rfl trivial ?_
                refine AJR_ev env 10 rfl (Nat.le_of_ble_eq_true rfl) rfl trivial ?_
                refine AJR_ev env 11 rfl (Nat.le_of_ble_eq_true rfl) rfl trivial ?_
                refine AJR_ev env 12 rfl (Nat.le_of_ble_eq_true rfl) rfl ⟨trivial, trivial⟩ ?_
                refine AJR_ev env 13 rfl (Nat.le_of_ble_eq_true rfl) rfl trivial ?_
                obtain ⟨g, h2⟩ := gd_t h2
                refine AJR_ev env 14 rfl (Nat.le_of_ble_eq_true rfl) rfl ⟨trivial, ⟨trivial, ⟨g.1, g.2⟩⟩⟩ ?_
                refine AJR_ev env 15 rfl (Nat.le_of_ble_eq_true rfl) rfl ⟨trivial, trivial⟩ ?_
                refine AJR_ev env 16 rfl (Nat.le_of_ble_eq_true rfl) rfl trivial ?_
                refine AJR_ev env 17 rfl (Nat.le_of_ble_eq_true rfl) rfl ⟨trivial, ⟨trivial, trivial⟩⟩ ?_
                refine AJR_ev env 18 rfl (Nat.le_of_ble_eq_true rfl) rfl trivial ?_
                refine AJR_ev env 19 rfl (Nat.le_of_ble_eq_true rfl) rfl ⟨trivial, ⟨trivial, trivial⟩⟩ ?_
                refine AJR_ev env 20 rfl (Nat.le_of_ble_eq_true rfl) rfl trivial ?_
                refine AJR_end rfl rfl rfl ?_
                refine tbn ?_
                refine TE_go ?_
                refine TC_reg ?_
                refine TL_ev env 2 rfl ⟨⟨trivial, ⟨trivial, trivial⟩⟩, ⟨trivial, trivial⟩⟩ ?_
                refine TL_end ?_
                refine tsn ?_
                exact TE_nextr [(24702, 24702)] n (Nat.lt_succ_self n) (_, _) h2 ⟨rfl, rfl, rfl, rfl, rfl, rfl, rfl, trivial⟩ ⟨rfl, rfl, rfl, trivial⟩ rfl
              · replace h2 := bif_f h2 hb
                refine TC_exit ?_
                refine tsx ?_
                refine tsx ?_
                refine tbe ?_
                obtain rfl := sinj h2
                refine tsn ?_
                exact SP_ren [(24502, 24702)] _ rfl ⟨rfl, rfl, rfl, rfl, rfl, rfl, trivial⟩ ⟨rfl, rfl, rfl, trivial⟩ rfl
            · rintro x293 hz
              obtain rfl := hz.symm
              refine TE_go ?_
              refine TC_reg ?_
              refine TL_ev env 4 rfl ⟨trivial, ⟨trivial, ⟨trivial, ⟨trivial, trivial⟩⟩⟩⟩ ?_
              obtain ⟨r294, hr, h1⟩ := bnd h1
              refine TL_callB [] (poly_rounded.ok0 hr) poly_rounded.fnb rfl ⟨trivial, ⟨trivial, ⟨trivial, trivial⟩⟩⟩ rfl trivial rfl ?_
              obtain ⟨g, h1⟩ := gd_t h1
              refine TL_ev env 2 rfl ⟨⟨trivial, ⟨trivial, ⟨g.1, g.2.1⟩⟩⟩, ⟨⟨trivial, ⟨trivial, g.2.2⟩⟩, trivial⟩⟩ ?_
              refine TL_end ?_
              refine tbn ?_
              refine TE_go ?_
              refine TC_reg ?_
              refine TL_ev env 2 rfl ⟨⟨trivial, ⟨trivial, trivial⟩⟩, ⟨trivial, trivial⟩⟩ ?_
              refine TL_end ?_
              refine tsn ?_
              exact TE_nextr [(22802, 24502)] n (Nat.lt_succ_self n) (_, _) h1 ⟨rfl, rfl, rfl, rfl, trivial⟩ ⟨rfl, rfl, rfl, trivial⟩ rfl
          · replace h1 := bif_f h1 hb
            refine TC_exit ?_
            refine tsx ?_
            refine tsx ?_
            refine tbe ?_
            obtain rfl := sinj h1
            refine tsn ?_
            exact SP_ren [(16802, 22802)] _ rfl ⟨rfl, rfl, trivial⟩ ⟨rfl, rfl, rfl, trivial⟩ rfl
        · rintro x118 hz
          obtain rfl := hz.symm
          refine TE_go ?_
          refine TC_seq ?_
          refine TC_reg ?_
          obtain ⟨g, h0⟩ := gd_t h0
          refine TL_ev env 7 rfl ⟨trivial, ⟨trivial, ⟨trivial, ⟨trivial, ⟨⟨trivial, trivial⟩, ⟨⟨trivial, ⟨trivial, ⟨g.1, ⟨g.2.1, g.2.2⟩⟩⟩⟩, ⟨trivial, trivial⟩⟩⟩⟩⟩⟩⟩ ?_
          refine TL_end ?_
          refine TE_go ?_
          refine TC_seq ?_
          refine TC_seq ?_
          refine TC_reg ?_
          refine TL_ev env 3 rfl ⟨trivial, ⟨⟨trivial, trivial⟩, ⟨trivial, trivial⟩⟩⟩ ?_
          refine TL_end ?_
          refine TE_go ?_
          obtain ⟨z1, h1, h0⟩ := bnd h0
          refine TC_cut (α := (List (Int))) (fun s => z1 = s) (fun s => [(13, .sl 18802)]) (fun s => [(0, some (.cells [.int .i64 p1, .im (.slice (.int .i16)) p2, .im (.slice (.int .i16)) p3, .sl 1])), (1, some (.rows (.int .i64) x86)), (18802, some (.rows (.int .i32) s))]) ?_ ?_
          · refine TC_blk ?_
            refine TC_loop (α := Int × (List (Int))) (fun n s => poly_Splitter_Feed.l0 K ((List.replicate (Int.toNat p1) (0 : Int)).length : Int) p1 p2 p3 x86 x118 n s.1 s.2 = some z1) (fun s => [(0, .p 0 0), (8, .sl 19802), (13, .sl 19803), (127, .int .i64 ((List.replicate (Int.toNat p1) (0 : Int)).length : Int)), (128, .int .i64 s.1)]) (fun s => [(0, some (.cells [.int .i64 p1, .im (.slice (.int .i16)) p2, .im (.slice (.int .i16)) p3, .sl 1])), (1, some (.rows (.int .i64) x86)), (19802, some (.rows (.int .i64) x118)), (19803, some (.rows (.int .i32) s.2))]) K ?_ ?_
            · exact SP_ren [(19802, 16802), (19803, 1125)] (_, _) h1 ⟨rfl, rfl, rfl, rfl, rfl, trivial⟩ ⟨rfl, rfl, rfl, rfl, trivial⟩ rfl
            rintro n ⟨x186, x187⟩ h1
            rcases n with _ | n
            · exact (nsome h1).elim
            replace h1 : poly_Splitter_Feed.r0 K ((List.replicate (Int.toNat p1) (0 : Int)).length : Int) p1 p2 p3 x86 x118 (poly_Splitter_Feed.l0 K ((List.replicate (Int.toNat p1) (0 : Int)).length : Int) p1 p2 p3 x86 x118 n) x186 x187 = some z1 := h1
            refine TC_seq ?_
            refine TC_reg ?_
            refine TL_ev env 1 rfl ⟨⟨trivial, ⟨trivial, trivial⟩⟩, trivial⟩ ?_
            refine TL_end ?_
            refine TE_go ?_
            refine TC_seq ?_
            refine TC_cond rfl (fun hb => ?_) (fun hb => ?_)
            · replace h1 := bif_t h1 hb
              refine TC_skip ?_
              refine TE_go ?_
              refine TC_seq ?_
              refine TC_blk ?_
              refine TC_seq ?_
              refine TC_reg ?_
              refine TL_ev env 2 rfl ⟨trivial, ⟨trivial, trivial⟩⟩ ?_
              refine TL_end ?_
              refine TE_go ?_
              refine TC_seq ?_
              refine TC_reg ?_
              refine TL_ev env 1 rfl ⟨trivial, trivial⟩ ?_
              refine TL_end ?_
              refine TE_go ?_
              refine TC_seq ?_
              refine TC_seq ?_
              refine TC_reg ?_
              refine TL_ev env 3 rfl ⟨trivial, ⟨⟨trivial, trivial⟩, ⟨trivial, trivial⟩⟩⟩ ?_
              refine TL_end ?_
              refine TE_go ?_
              obtain ⟨z2, h2, h1⟩ := bnd h1
              refine TC_cut (α := Int) (fun s => z2 = s) (fun s => [(0, .p 0 0), (8, .sl 21502), (13, .sl 21503), (14, .int .i64 x186), (15, .int .i64 s), (127, .int .i64 ((List.replicate (Int.toNat p1) (0 : Int)).length : Int)), (128, .int .i64 x186)]) (fun s => [(0, some (.cells [.int .i64 p1, .im (.slice (.int .i16)) p2, .im (.slice (.int .i16)) p3, .sl 1])), (1, some (.rows (.int .i64) x86)), (21502, some (.rows (.int .i64) x118)), (21503, some (.rows (.int .i32) x187))]) ?_ ?_
              · refine TC_blk ?_
                refine TC_loop (α := Int × Int) (fun n s => poly_Splitter_Feed.l1 K x186 ((List.replicate (Int.toNat p1) (0 : Int)).length : Int) (x118.length : Int) p1 p2 p3 x86 x118 x187 n s.1 s.2 = some z2) (fun s => [(0, .p 0 0), (8, .sl 21702), (13, .sl 21703), (14, .int .i64 x186), (15, .int .i64 s.1), (127, .int .i64 ((List.replicate (Int.toNat p1) (0 : Int)).length : Int)), (128, .int .i64 x186), (131, .sl 21702), (132, .int .i64 (x118.length : Int)), (133, .int .i64 s.2)]) (fun s => [(0, some (.cells [.int .i64 p1, .im (.slice (.int .i16)) p2, .im (.slice (.int .i16)) p3, .sl 1])), (1, some (.rows (.int .i64) x86)), (21702, some (.rows (.int .i64) x118)), (21703, some (.rows (.int .i32) x187))]) K ?_ ?_
                · exact SP_ren [(21702, 19802), (21703, 19803)] (_, _) h2 ⟨rfl, rfl, rfl, rfl, rfl, rfl, rfl, rfl, rfl, rfl, trivial⟩ ⟨rfl, rfl, rfl, rfl, trivial⟩ rfl
                rintro n ⟨x237, x238⟩ h2
                rcases n with _ | n
                · exact (nsome h2).elim
                replace h2 : poly_Splitter_Feed.r1 K x186 ((List.replicate (Int.toNat p1) (0 : Int)).length : Int) (x118.length : Int) p1 p2 p3 x86 x118 x187 (poly_Splitter_Feed.l1 K x186 ((List.replicate (Int.toNat p1) (0 : Int)).length : Int) (x118.length : Int) p1 p2 p3 x86 x118 x187 n) x237 x238 = some z2 := h2
                refine TC_seq ?_
                refine TC_reg ?_
                refine TL_ev env 1 rfl ⟨⟨trivial, ⟨trivial, trivial⟩⟩, trivial⟩ ?_
                refine TL_end ?_
                refine TE_go ?_
                refine TC_seq ?_
                refine TC_cond rfl (fun hb => ?_) (fun hb => ?_)
                · replace h2 := bif_t h2 hb
                  refine TC_skip ?_
                  refine TE_go ?_
                  refine TC_seq ?_
                  refine TC_blk ?_
                  refine TC_seq ?_
                  refine TC_reg ?_
                  obtain ⟨g, h2⟩ := gd_t h2
                  refine TL_ev env 5 rfl ⟨trivial, ⟨⟨trivial, ⟨trivial, ⟨g.1, g.2.1⟩⟩⟩, ⟨⟨trivial, g.2.2⟩, ⟨trivial, ⟨trivial, trivial⟩⟩⟩⟩⟩ ?_
                  refine TL_end ?_
                  refine TE_go ?_
                  refine TC_renw (A' := [(0, .p 0 0), (8, .sl 21702), (13, .sl 21703), (14, .int .i64 _), (15, .int .i64 _), (16, .int .i64 _), (17, .int .i64 _), (127, .int .i64 _), (128, .int .i64 _), (131, .sl 21702), (132, .int .i64 _), (133, .int .i64 _)]) (L' := [(0, some (.cells [.int .i64 _, .im (.slice (.int .i16)) _, .im (.slice (.int .i16)) _, .sl 1])), (1, some (.rows (.int .i64) _)), (21702, some (.rows (.int .i64) _)), (21703, some (.rows (.int .i32) _))]) [] ⟨rfl, rfl, rfl, rfl, rfl, rfl, rfl, rfl, rfl, rfl, rfl, rfl, trivial⟩ ⟨rfl, rfl, rfl, rfl, trivial⟩ rfl ?_
                  refine TC_drawR ⟨_, fun i => ([[], [], [], [2], [3, 2], [], [5], [6, 5], [], [8], [], [10], [11, 10], [12, 11, 10], [13, 12, 11, 10], [14, 13, 12, 11, 10, 9, 8], [15, 14, 13, 12, 11, 10, 9, 8, 7, 6, 5, 4, 3, 2], [16, 15, 14, 13, 12, 11, 10, 9, 8, 7, 6, 5, 4, 3, 2, 1], [17, 16, 15, 14, 13, 12, 11, 10, 9, 8, 7, 6, 5, 4, 3, 2, 1, 0], [18, 17, 16, 15, 14, 13, 12, 11, 10, 9, 8, 7, 6, 5, 4, 3, 2, 1, 0]] : List (List Nat)).getD i [], fun i => ([[], [], [], [], [], [], [], [], [], [], [], [], [], [], [], [], [0, 1], [], [], []] : List (List Nat)).getD i [], fun i => ([[], [], [], [], [], [], [], [], [], [], [], [], [], [], [], [], [], [], [], []] : List (List Nat)).getD i []⟩ (fun i => ([[0, 1], [0, 1], [], [], [], [], [], [], [], [], [], [], [], [], [], [], [], [], [], []] : List (List Nat)).getD i []) (by kernel_rfl) (by kernel_rfl) ?_
                  refine AJR_ev env 1 rfl (Nat.le_of_ble_eq_true rfl) rfl trivial ?_
                  refine AJR_ev env 2 rfl (Nat.le_of_ble_eq_true rfl) rfl trivial ?_
                  refine AJR_ev env 3 rfl (Nat.le_of_ble_eq_true rfl) rfl trivial ?_
                  refine AJR_ev env 4 rfl (Nat.le_of_ble_eq_true rfl) rfl trivial ?_
                  refine AJR_ev env 5 rfl (Nat.le_of_ble_eq_true rfl) rfl trivial ?_
                  refine AJR_ev env 6 rfl (Nat.le_of_ble_eq_true rfl) rfl trivial ?_
                  refine AJR_ev env 7 rfl (Nat.le_of_ble_eq_true rfl) rfl ⟨trivial, ⟨trivial, trivial⟩⟩ ?_
                  refine AJR_ev env 8 rfl (Nat.le_of_ble_eq_true rfl) rfl ⟨trivial, ⟨trivial, trivial⟩⟩ ?_
                  refine AJR_ev env 9 rfl (Nat.le_of_ble_eq_true rfl) rfl trivial ?_
                  refine AJR_ev env 10 rfl (Nat.le_of_ble_eq_true rfl) rfl ⟨trivial, ⟨trivial, trivial⟩⟩ ?_
                  refine AJR_ev env 11 rfl (Nat.le_of_ble_eq_true rfl) rfl trivial ?_
                  refine AJR_ev env 12 rfl (Nat.le_of_ble_eq_true rfl) rfl trivial ?_
                  refine AJR_ev env 13 rfl (Nat.le_of_ble_eq_true rfl) rfl trivial ?_
                  refine AJR_ev env 14 rfl (Nat.le_of_ble_eq_true rfl) rfl trivial ?_
                  refine AJR_ev env 15 rfl (Nat.le_of_ble_eq_true rfl) rfl ⟨trivial, trivial⟩ ?_
                  refine AJR_ev env 16 rfl (Nat.le_of_ble_eq_true rfl) rfl ⟨trivial, ⟨trivial, trivial⟩⟩ ?_
                  obtain ⟨r250, hr, h2⟩ := bnd h2
                  refine AJR_call 17 rfl (Nat.le_of_ble_eq_true rfl) [(0, 0), (1, 1)] rfl (poly_bands_wave.ok0 hr) poly_bands_wave.fnb rfl ⟨trivial, ⟨trivial, ⟨trivial, ⟨trivial, trivial⟩⟩⟩⟩ rfl ⟨.inr rfl, .inr rfl, trivial⟩ rfl ?_
                  refine AJR_ev env 18 rfl (Nat.le_of_ble_eq_true rfl) rfl ⟨trivial, ⟨trivial, trivial⟩⟩ ?_
                  refine AJR_ev env 19 rfl (Nat.le_of_ble_eq_true rfl) rfl ⟨trivial, ⟨trivial, trivial⟩⟩ ?_
                  refine AJR_ev env 20 rfl (Nat.le_of_ble_eq_true rfl) rfl trivial ?_
                  refine AJR_end rfl rfl rfl ?_
                  refine tbn ?_
                  refine TE_go ?_
                  refine TC_reg ?_
                  refine TL_ev env 2 rfl ⟨⟨trivial, ⟨trivial, trivial⟩⟩, ⟨trivial, trivial⟩⟩ ?_
                  refine TL_end ?_
                  refine tsn ?_
                  exact TE_nextr [(21702, 21702), (21703, 21703)] n (Nat.lt_succ_self n) (_, _) h2 ⟨rfl, rfl, rfl, rfl, rfl, rfl, rfl, rfl, rfl, rfl, trivial⟩ ⟨rfl, rfl, rfl, rfl, trivial⟩ rfl
                · replace h2 := bif_f h2 hb
                  refine TC_exit ?_
                  refine tsx ?_
                  refine tsx ?_
                  refine tbe ?_
                  obtain rfl := sinj h2
                  refine tsn ?_
                  exact SP_ren [(21502, 21702), (21503, 21703)] _ rfl ⟨rfl, rfl, rfl, rfl, rfl, rfl, rfl, trivial⟩ ⟨rfl, rfl, rfl, rfl, trivial⟩ rfl
              · rintro x229 hz
                obtain rfl := hz.symm
                refine TE_go ?_
                refine TC_reg ?_
                refine TL_ev env 10 rfl ⟨trivial, ⟨trivial, ⟨trivial, ⟨trivial, ⟨trivial, ⟨trivial, ⟨trivial, ⟨⟨trivial, trivial⟩, ⟨⟨trivial, ⟨trivial, (by decide)⟩⟩, ⟨⟨trivial, ⟨trivial, trivial⟩⟩, trivial⟩⟩⟩⟩⟩⟩⟩⟩⟩⟩ ?_
                obtain ⟨r232, hr, h1⟩ := bnd h1
                refine TL_callB [] (poly_rounded.ok0 hr) poly_rounded.fnb rfl ⟨trivial, ⟨trivial, ⟨trivial, trivial⟩⟩⟩ rfl trivial rfl ?_
                obtain ⟨g, h1⟩ := gd_t h1
                refine TL_ev env 3 rfl ⟨trivial, ⟨⟨trivial, ⟨trivial, ⟨g.1, g.2.1⟩⟩⟩, ⟨⟨trivial, ⟨trivial, g.2.2⟩⟩, trivial⟩⟩⟩ ?_
                refine TL_end ?_
                refine tbn ?_
                refine TE_go ?_
                refine TC_reg ?_
                refine TL_ev env 2 rfl ⟨⟨trivial, ⟨trivial, trivial⟩⟩, ⟨trivial, trivial⟩⟩ ?_
                refine TL_end ?_
                refine tsn ?_
                exact TE_nextr [(19802, 21502), (19803, 21503)] n (Nat.lt_succ_self n) (_, _) h1 ⟨rfl, rfl, rfl, rfl, rfl, trivial⟩ ⟨rfl, rfl, rfl, rfl, trivial⟩ rfl
            · replace h1 := bif_f h1 hb
              refine TC_exit ?_
              refine tsx ?_
              refine tsx ?_
              refine tbe ?_
              obtain rfl := sinj h1
              refine tsn ?_
              exact SP_ren [(18802, 19803)] _ rfl ⟨rfl, trivial⟩ ⟨rfl, rfl, rfl, trivial⟩ rfl
          · rintro x165 hz
            obtain rfl := hz.symm
            refine TE_go ?_
            refine TC_seq ?_
            refine TC_reg ?_
            refine TL_ev env 3 rfl ⟨trivial, ⟨trivial, ⟨trivial, trivial⟩⟩⟩ ?_
            refine TL_end ?_
            refine TE_go ?_
            refine TC_ret ?_
            refine TE_frz 18802 rfl ?_
            obtain rfl := sinj h0
            exact TE_ret env rfl trivial ⟨.inr rfl, .inr rfl, trivial⟩
theorem poly_Splitter_Feed.ok0 {K : Nat} {p0 : List (Int)} {p1 : Int} {p2 : List (Int)} {p3 : List (Int)} {p4 : List (Int)}  (h0 : poly_Splitter_Feed K p0 p1 p2 p3 p4 = some (.inl ())) : Fn Try.prog 16 [.p 0 0, .im (.slice (.int .i16)) p0] [(0, some (.cells [.int .i64 p1, .im (.slice (.int .i16)) p2, .im (.slice (.int .i16)) p3, .sl 1])), (1, some (.rows (.int .i64) p4))] (.tup [.nils, .int .i64 1]) [(0, some (.cells [.int .i64 p1, .im (.slice (.int .i16)) p2, .im (.slice (.int .i16)) p3, .sl 1])), (1, some (.rows (.int .i64) p4))] := poly_Splitter_Feed.ok h0
theorem poly_Splitter_Feed.ok1 {K : Nat} {p0 : List (Int)} {p1 : Int} {p2 : List (Int)} {p3 : List (Int)} {p4 : List (Int)} {q0 : List (Int)} {q1 : List (Int)} (h0 : poly_Splitter_Feed K p0 p1 p2 p3 p4 = some (.inr (q0, q1))) : Fn Try.prog 16 [.p 0 0, .im (.slice (.int .i16)) p0] [(0, some (.cells [.int .i64 p1, .im (.slice (.int .i16)) p2, .im (.slice (.int .i16)) p3, .sl 1])), (1, some (.rows (.int .i64) p4))] (.tup [.im (.slice (.int .i32)) q0, .int .i64 0]) [(0, some (.cells [.int .i64 p1, .im (.slice (.int .i16)) p2, .im (.slice (.int .i16)) p3, .sl 1])), (1, some (.rows (.int .i64) q1))] := poly_Splitter_Feed.ok h0
theorem poly_Splitter_Feed.fnb : fnb Try.prog 16 = true := fnb_of Try.func16 rfl
def psalteryref08_Same32.res (_p0 : List (Int)) (_p1 : List (Int)) : Bool → MV
  | q0 => .bool q0
def psalteryref08_Same32.out (_p0 : List (Int)) (_p1 : List (Int)) : Bool → List (Nat × Option MObj)
  | _ => []
theorem psalteryref08_Same32.ok {K : Nat} {p0 : List (Int)} {p1 : List (Int)} {r : Bool} (h0 : psalteryref08_Same32 K p0 p1 = some r) : Fn Try.prog 17 [.im (.slice (.int .i32)) p0, .im (.slice (.int .i32)) p1] [] (psalteryref08_Same32.res p0 p1 r) (psalteryref08_Same32.out p0 p1 r) := by
  refine Fn_of Try.func17 rfl (Nat.le_of_ble_eq_true rfl) fun Γ => ?_
  refine TC_seq ?_
  refine TC_reg ?_
  refine TL_ev env 1 rfl ⟨trivial, trivial⟩ ?_
  refine TL_end ?_
  refine TE_go ?_
  refine TC_seq ?_
  refine TC_seq ?_
  refine TC_reg ?_
  refine TL_ev env 5 rfl ⟨trivial, ⟨⟨trivial, trivial⟩, ⟨trivial, ⟨⟨trivial, trivial⟩, ⟨⟨trivial, ⟨trivial, trivial⟩⟩, trivial⟩⟩⟩⟩⟩ ?_
  refine TL_end ?_
  refine TE_go ?_
  refine TC_cond rfl (fun hb => ?_) (fun hb => ?_)
  · replace h0 := bif_t h0 hb
    refine TC_seq ?_
    refine TC_reg ?_
    refine TL_ev env 1 rfl ⟨trivial, trivial⟩ ?_
    refine TL_end ?_
    refine TE_go ?_
    refine TC_ret ?_
    refine tsr ?_
    obtain rfl := sinj h0
    exact TE_ret env rfl trivial trivial
  · replace h0 := bif_f h0 hb
    refine TC_skip ?_
    refine TE_go ?_
    refine TC_seq ?_
    refine TC_seq ?_
    refine TC_reg ?_
    refine TL_ev env 1 rfl ⟨trivial, trivial⟩ ?_
    refine TL_end ?_
    refine TE_go ?_
    obtain ⟨z1, h1, h0⟩ := bnd h0
    refine TC_cut (α := Unit) (fun _ => z1 = .inl ()) (fun _ => []) (fun _ => []) ?_ ?_
    · refine TC_blk ?_
      refine TC_loop (α := Int) (fun n s => psalteryref08_Same32.l0 K p0 p1 n s = some z1) (fun s => [(0, .im (.slice (.int .i32)) p0), (1, .im (.slice (.int .i32)) p1), (5, .int .i64 s)]) (fun s => []) K ?_ ?_
      · exact SP_ren [] _ h1 ⟨rfl, rfl, rfl, trivial⟩ trivial rfl
      rintro n x6 h1
      rcases n with _ | n
      · exact (nsome h1).elim
      replace h1 : psalteryref08_Same32.r0 K p0 p1 (psalteryref08_Same32.l0 K p0 p1 n) x6 = some z1 := h1
      refine TC_seq ?_
      refine TC_seq ?_
      refine TC_reg ?_
      refine TL_ev env 4 rfl ⟨trivial, ⟨trivial, ⟨⟨trivial, trivial⟩, ⟨⟨trivial, ⟨trivial, trivial⟩⟩, trivial⟩⟩⟩⟩ ?_
      refine TL_end ?_
      refine TE_go ?_
      refine TC_cond rfl (fun hb => ?_) (fun hb => ?_)
      · replace h1 := bif_t h1 hb
        refine TC_skip ?_
        refine TE_go ?_
        refine TC_seq ?_
        refine TC_blk ?_
        refine TC_seq ?_
        refine TC_renw (A' := [(0, .im (.slice (.int .i32)) _), (1, .im (.slice (.int .i32)) _), (5, .int .i64 _)]) (L' := []) [] ⟨rfl, rfl, rfl, trivial⟩ trivial rfl ?_
        refine TC_drawR ⟨_, fun i => ([[], [], [1, 0], [2, 1, 0], [], [], [5, 4], [6, 5, 4], [7, 6, 5, 4, 3, 2, 1, 0]] : List (List Nat)).getD i [], fun i => ([[], [], [], [], [], [], [], [], []] : List (List Nat)).getD i [], fun i => ([[], [], [], [], [], [], [], [], []] : List (List Nat)).getD i []⟩ (fun i => ([[], [], [], [], [], [], [], [], []] : List (List Nat)).getD i []) (by kernel_rfl) (by kernel_rfl) ?_
        refine AJR_ev env 1 rfl (Nat.le_of_ble_eq_true rfl) rfl trivial ?_
        refine AJR_ev env 2 rfl (Nat.le_of_ble_eq_true rfl) rfl trivial ?_
        obtain ⟨g, h1⟩ := gd_t h1
        refine AJR_ev env 3 rfl (Nat.le_of_ble_eq_true rfl) rfl ⟨trivial, ⟨trivial, ⟨g.1, g.2⟩⟩⟩ ?_
        refine AJR_ev env 4 rfl (Nat.le_of_ble_eq_true rfl) rfl ⟨trivial, trivial⟩ ?_
        refine AJR_ev env 5 rfl (Nat.le_of_ble_eq_true rfl) rfl trivial ?_
        refine AJR_ev env 6 rfl (Nat.le_of_ble_eq_true rfl) rfl trivial ?_
        obtain ⟨g, h1⟩ := gd_t h1
        refine AJR_ev env 7 rfl (Nat.le_of_ble_eq_true rfl) rfl ⟨trivial, ⟨trivial, ⟨g.1, g.2⟩⟩⟩ ?_
        refine AJR_ev env 8 rfl (Nat.le_of_ble_eq_true rfl) rfl ⟨trivial, trivial⟩ ?_
        refine AJR_ev env 9 rfl (Nat.le_of_ble_eq_true rfl) rfl ⟨trivial, ⟨trivial, trivial⟩⟩ ?_
        refine AJR_end rfl rfl rfl ?_
        refine TE_go ?_
        refine TC_cond rfl (fun hb => ?_) (fun hb => ?_)
        · replace h1 := bif_t h1 hb
          refine TC_seq ?_
          refine TC_reg ?_
          refine TL_ev env 1 rfl ⟨trivial, trivial⟩ ?_
          refine TL_end ?_
          refine TE_go ?_
          refine TC_ret ?_
          refine tbr ?_
          refine tsr ?_
          refine tsr ?_
          refine tbr ?_
          refine tsr ?_
          refine tsr ?_
          obtain rfl := sinj h1
          obtain rfl := sinj h0
          exact TE_ret env rfl trivial trivial
        · replace h1 := bif_f h1 hb
          refine TC_skip ?_
          refine tbn ?_
          refine TE_go ?_
          refine TC_reg ?_
          refine TL_ev env 3 rfl ⟨trivial, ⟨⟨trivial, ⟨trivial, trivial⟩⟩, ⟨trivial, trivial⟩⟩⟩ ?_
          refine TL_end ?_
          refine tsn ?_
          exact TE_nextr [] n (Nat.lt_succ_self n) _ h1 ⟨rfl, rfl, rfl, trivial⟩ trivial rfl
      · replace h1 := bif_f h1 hb
        refine TC_exit ?_
        refine tsx ?_
        refine tsx ?_
        refine tbe ?_
        obtain rfl := sinj h1
        refine tsn ?_
        exact SP_ren [] () rfl trivial trivial rfl
    · rintro ⟨⟩ rfl
      refine TE_go ?_
      refine TC_seq ?_
      refine TC_reg ?_
      refine TL_ev env 1 rfl ⟨trivial, trivial⟩ ?_
      refine TL_end ?_
      refine TE_go ?_
      refine TC_ret ?_
      obtain rfl := sinj h0
      exact TE_ret env rfl trivial trivial
theorem psalteryref08_Same32.ok0 {K : Nat} {p0 : List (Int)} {p1 : List (Int)} {q0 : Bool} (h0 : psalteryref08_Same32 K p0 p1 = some q0) : Fn Try.prog 17 [.im (.slice (.int .i32)) p0, .im (.slice (.int .i32)) p1] [] (.bool q0) [] := psalteryref08_Same32.ok h0
theorem psalteryref08_Same32.fnb : fnb Try.prog 17 = true := fnb_of Try.func17 rfl
def psalterylaw08_alive.res  : Bool → MV
  | q0 => .bool q0
def psalterylaw08_alive.out  : Bool → List (Nat × Option MObj)
  | _ => []
theorem psalterylaw08_alive.ok {K : Nat}  {r : Bool} (h0 : psalterylaw08_alive K  = some r) : Fn Try.prog 12 [] [] (psalterylaw08_alive.res  r) (psalterylaw08_alive.out  r) := by
  refine Fn_of Try.func12 rfl (Nat.le_of_ble_eq_true rfl) fun Γ => ?_
  refine TC_seq ?_
  refine TC_reg ?_
  refine TL_ev env 1 rfl ⟨trivial, trivial⟩ ?_
  refine TL_end ?_
  refine TE_go ?_
  refine TC_seq ?_
  refine TC_reg ?_
  obtain ⟨⟨⟩, hr, h0⟩ := bnd h0
  refine TL_callB [(1000, 500080)] (bank_New.ok0 hr) bank_New.fnb rfl ⟨trivial, trivial⟩ rfl trivial rfl ?_
  obtain ⟨z, hr, h0⟩ := bnd h0
  rcases z with ⟨r20, r21, r22⟩ | ⟨r23, r24, r25, r26, r27, r28⟩
  · exact (nsome h0).elim
  · refine TL_callB [(0, 500080), (1000, 500090), (1001, 500091)] (poly_NewSplitter.ok1 hr) poly_NewSplitter.fnb rfl ⟨trivial, ⟨trivial, ⟨trivial, trivial⟩⟩⟩ rfl ⟨.inr rfl, trivial⟩ rfl ?_
    refine TL_ev env 5 rfl ⟨trivial, ⟨trivial, ⟨trivial, ⟨trivial, ⟨trivial, trivial⟩⟩⟩⟩⟩ ?_
    refine TL_end ?_
    refine TE_go ?_
    refine TC_seq ?_
    refine TC_seq ?_
    refine TC_reg ?_
    refine TL_ev env 3 rfl ⟨trivial, ⟨⟨trivial, ⟨trivial, trivial⟩⟩, ⟨trivial, trivial⟩⟩⟩ ?_
    refine TL_gt rfl rfl rfl rfl ?_
    refine TL_ev env 1 rfl ⟨trivial, trivial⟩ ?_
    refine TL_gt rfl rfl rfl rfl ?_
    refine TL_ev env 2 rfl ⟨⟨trivial, ⟨trivial, trivial⟩⟩, ⟨⟨trivial, ⟨trivial, trivial⟩⟩, trivial⟩⟩ ?_
    refine TL_end ?_
    refine TE_go ?_
    refine TC_cond rfl (fun hb => ?_) (fun hb => ?_)
    · first | exact (ftf hb).elim | exact (tff hb).elim | exact absurd hb (by decide)
    · refine TC_skip ?_
      refine TE_go ?_
      refine TC_seq ?_
      refine TC_reg ?_
      refine TL_ev env 2 rfl ⟨trivial, ⟨⟨trivial, ⟨trivial, ⟨(by decide), ⟨(by decide), (by decide)⟩⟩⟩⟩, trivial⟩⟩ ?_
      refine TL_frz 1020 rfl ?_
      obtain ⟨z, hr, h0⟩ := bnd h0
      rcases z with ⟨⟩ | ⟨r29, r30⟩
      · refine TL_callB [(0, 500090), (1, 500091)] (poly_Splitter_Feed.ok0 hr) poly_Splitter_Feed.fnb rfl ⟨trivial, ⟨trivial, ⟨trivial, trivial⟩⟩⟩ rfl ⟨.inr rfl, .inr rfl, trivial⟩ rfl ?_
        refine TL_ev env 5 rfl ⟨trivial, ⟨trivial, ⟨trivial, ⟨trivial, ⟨trivial, trivial⟩⟩⟩⟩⟩ ?_
        refine TL_end ?_
        refine TE_go ?_
        refine TC_seq ?_
        refine TC_reg ?_
        refine TL_ev env 2 rfl ⟨trivial, ⟨⟨trivial, ⟨trivial, ⟨(by decide), ⟨(by decide), (by decide)⟩⟩⟩⟩, trivial⟩⟩ ?_
        refine TL_frz 1026 rfl ?_
        obtain ⟨z, hr, h0⟩ := bnd h0
        rcases z with ⟨⟩ | ⟨r31, r32⟩
        · refine TL_callB [(0, 500090), (1, 500091)] (poly_Splitter_Feed.ok0 hr) poly_Splitter_Feed.fnb rfl ⟨trivial, ⟨trivial, ⟨trivial, trivial⟩⟩⟩ rfl ⟨.inr rfl, .inr rfl, trivial⟩ rfl ?_
          refine TL_ev env 5 rfl ⟨trivial, ⟨trivial, ⟨trivial, ⟨trivial, ⟨trivial, trivial⟩⟩⟩⟩⟩ ?_
          refine TL_end ?_
          refine TE_go ?_
          refine TC_seq ?_
          refine TC_reg ?_
          refine TL_ev env 3 rfl ⟨trivial, ⟨⟨trivial, ⟨trivial, trivial⟩⟩, ⟨trivial, trivial⟩⟩⟩ ?_
          refine TL_gf (.bool false) rfl rfl rfl rfl rfl (by decide) ?_
          refine TL_gf (.bool false) rfl rfl rfl rfl rfl (by decide) ?_
          refine TL_gf (.bool false) rfl rfl rfl rfl rfl (by decide) ?_
          refine TL_ev env 2 rfl ⟨⟨trivial, ⟨fun e => e, trivial⟩⟩, ⟨trivial, trivial⟩⟩ ?_
          refine TL_gf (.bool false) rfl rfl rfl rfl rfl (by decide) ?_
          refine TL_gf (.bool false) rfl rfl rfl rfl rfl (by decide) ?_
          refine TL_ev env 2 rfl ⟨⟨trivial, ⟨fun e => e, trivial⟩⟩, ⟨trivial, trivial⟩⟩ ?_
          refine TL_end ?_
          refine TE_go ?_
          refine TC_ret ?_
          obtain rfl := sinj h0
          exact TE_ret env rfl trivial trivial
        · refine TL_callB [(0, 500090), (1, 500091)] (poly_Splitter_Feed.ok1 hr) poly_Splitter_Feed.fnb rfl ⟨trivial, ⟨trivial, ⟨trivial, trivial⟩⟩⟩ rfl ⟨.inr rfl, .inr rfl, trivial⟩ rfl ?_
          refine TL_ev env 5 rfl ⟨trivial, ⟨trivial, ⟨trivial, ⟨trivial, ⟨trivial, trivial⟩⟩⟩⟩⟩ ?_
          refine TL_end ?_
          refine TE_go ?_
          refine TC_seq ?_
          refine TC_reg ?_
          refine TL_ev env 3 rfl ⟨trivial, ⟨⟨trivial, ⟨trivial, trivial⟩⟩, ⟨trivial, trivial⟩⟩⟩ ?_
          refine TL_gf (.bool false) rfl rfl rfl rfl rfl (by decide) ?_
          refine TL_gf (.bool false) rfl rfl rfl rfl rfl (by decide) ?_
          refine TL_gf (.bool false) rfl rfl rfl rfl rfl (by decide) ?_
          refine TL_ev env 2 rfl ⟨⟨trivial, ⟨fun e => e, trivial⟩⟩, ⟨trivial, trivial⟩⟩ ?_
          refine TL_gf (.bool false) rfl rfl rfl rfl rfl (by decide) ?_
          refine TL_gf (.bool false) rfl rfl rfl rfl rfl (by decide) ?_
          refine TL_ev env 2 rfl ⟨⟨trivial, ⟨fun e => e, trivial⟩⟩, ⟨trivial, trivial⟩⟩ ?_
          refine TL_end ?_
          refine TE_go ?_
          refine TC_ret ?_
          obtain rfl := sinj h0
          exact TE_ret env rfl trivial trivial
      · refine TL_callB [(0, 500090), (1, 500091)] (poly_Splitter_Feed.ok1 hr) poly_Splitter_Feed.fnb rfl ⟨trivial, ⟨trivial, ⟨trivial, trivial⟩⟩⟩ rfl ⟨.inr rfl, .inr rfl, trivial⟩ rfl ?_
        refine TL_ev env 5 rfl ⟨trivial, ⟨trivial, ⟨trivial, ⟨trivial, ⟨trivial, trivial⟩⟩⟩⟩⟩ ?_
        refine TL_end ?_
        refine TE_go ?_
        refine TC_seq ?_
        refine TC_reg ?_
        refine TL_ev env 2 rfl ⟨trivial, ⟨⟨trivial, ⟨trivial, ⟨(by decide), ⟨(by decide), (by decide)⟩⟩⟩⟩, trivial⟩⟩ ?_
        refine TL_frz 1026 rfl ?_
        obtain ⟨z, hr, h0⟩ := bnd h0
        rcases z with ⟨⟩ | ⟨r33, r34⟩
        · refine TL_callB [(0, 500090), (1, 500091)] (poly_Splitter_Feed.ok0 hr) poly_Splitter_Feed.fnb rfl ⟨trivial, ⟨trivial, ⟨trivial, trivial⟩⟩⟩ rfl ⟨.inr rfl, .inr rfl, trivial⟩ rfl ?_
          refine TL_ev env 5 rfl ⟨trivial, ⟨trivial, ⟨trivial, ⟨trivial, ⟨trivial, trivial⟩⟩⟩⟩⟩ ?_
          refine TL_end ?_
          refine TE_go ?_
          refine TC_seq ?_
          refine TC_reg ?_
          refine TL_ev env 3 rfl ⟨trivial, ⟨⟨trivial, ⟨trivial, trivial⟩⟩, ⟨trivial, trivial⟩⟩⟩ ?_
          refine TL_gt rfl rfl rfl rfl ?_
          refine TL_ev env 1 rfl ⟨trivial, trivial⟩ ?_
          refine TL_gt rfl rfl rfl rfl ?_
          refine TL_ev env 1 rfl ⟨⟨trivial, ⟨trivial, ⟨(by decide), ⟨(by decide), (by decide)⟩⟩⟩⟩, trivial⟩ ?_
          refine TL_gt rfl rfl rfl rfl ?_
          refine TL_frz 1034 rfl ?_
          obtain ⟨r36, hr, h0⟩ := bnd h0
          refine TL_callB [] (psalteryref08_Same32.ok0 hr) psalteryref08_Same32.fnb rfl ⟨trivial, ⟨trivial, ⟨trivial, trivial⟩⟩⟩ rfl trivial rfl ?_
          refine TL_ev env 6 rfl ⟨⟨trivial, ⟨trivial, trivial⟩⟩, ⟨trivial, ⟨fun eg => trivial, ⟨fun eg => ⟨fun e => e, ⟨trivial, trivial⟩⟩, ⟨⟨trivial, ⟨fun e => e, trivial⟩⟩, ⟨trivial, trivial⟩⟩⟩⟩⟩⟩ ?_
          refine TL_end ?_
          refine TE_go ?_
          refine TC_ret ?_
          obtain rfl := sinj h0
          exact TE_ret env rfl trivial trivial
        · refine TL_callB [(0, 500090), (1, 500091)] (poly_Splitter_Feed.ok1 hr) poly_Splitter_Feed.fnb rfl ⟨trivial, ⟨trivial, ⟨trivial, trivial⟩⟩⟩ rfl ⟨.inr rfl, .inr rfl, trivial⟩ rfl ?_
          refine TL_ev env 5 rfl ⟨trivial, ⟨trivial, ⟨trivial, ⟨trivial, ⟨trivial, trivial⟩⟩⟩⟩⟩ ?_
          refine TL_end ?_
          refine TE_go ?_
          refine TC_seq ?_
          refine TC_reg ?_
          refine TL_ev env 3 rfl ⟨trivial, ⟨⟨trivial, ⟨trivial, trivial⟩⟩, ⟨trivial, trivial⟩⟩⟩ ?_
          refine TL_gt rfl rfl rfl rfl ?_
          refine TL_ev env 1 rfl ⟨trivial, trivial⟩ ?_
          refine TL_gt rfl rfl rfl rfl ?_
          refine TL_ev env 1 rfl ⟨⟨trivial, ⟨trivial, ⟨(by decide), ⟨(by decide), (by decide)⟩⟩⟩⟩, trivial⟩ ?_
          refine TL_gt rfl rfl rfl rfl ?_
          refine TL_frz 1034 rfl ?_
          obtain ⟨r39, hr, h0⟩ := bnd h0
          refine TL_callB [] (psalteryref08_Same32.ok0 hr) psalteryref08_Same32.fnb rfl ⟨trivial, ⟨trivial, ⟨trivial, trivial⟩⟩⟩ rfl trivial rfl ?_
          refine TL_ev env 6 rfl ⟨⟨trivial, ⟨trivial, trivial⟩⟩, ⟨trivial, ⟨fun eg => trivial, ⟨fun eg => ⟨fun e => e, ⟨trivial, trivial⟩⟩, ⟨⟨trivial, ⟨fun e => e, trivial⟩⟩, ⟨trivial, trivial⟩⟩⟩⟩⟩⟩ ?_
          refine TL_end ?_
          refine TE_go ?_
          refine TC_ret ?_
          obtain rfl := sinj h0
          exact TE_ret env rfl trivial trivial
theorem psalterylaw08_alive.ok0 {K : Nat}  {q0 : Bool} (h0 : psalterylaw08_alive K  = some q0) : Fn Try.prog 12 [] [] (.bool q0) [] := psalterylaw08_alive.ok h0
theorem psalterylaw08_alive.fnb : fnb Try.prog 12 = true := fnb_of Try.func12 rfl
def poly_NewJoiner.res (_p0 : Int) (_p1 : List (Option (List (Int)))) (_p2 : Int) (_p3 : Int) : ((List (Option (List (Int)))) × Int × Int) ⊕ ((List (Option (List (Int)))) × Int × Int × (List (Int)) × (List (Int)) × (List (Int))) → MV
  | .inl (_, _, _) => .tup [.nilp, .int .i64 1]
  | .inr (_, _, _, _, _, _) => .tup [.p 1000 0, .int .i64 0]
def poly_NewJoiner.out (p0 : Int) (_p1 : List (Option (List (Int)))) (_p2 : Int) (_p3 : Int) : ((List (Option (List (Int)))) × Int × Int) ⊕ ((List (Option (List (Int)))) × Int × Int × (List (Int)) × (List (Int)) × (List (Int))) → List (Nat × Option MObj)
  | .inl (q0, q1, q2) => [(0, some (.ab (bkA q0 q1 q2)))]
  | .inr (q0, q1, q2, q3, q4, q5) => [(0, some (.ab (bkA q0 q1 q2))), (1000, some (.cells [.int .i64 p0, .im (.slice (.int .i16)) q3, .im (.slice (.int .i16)) q4, .sl 1001])), (1001, some (.rows (.int .i64) q5))]
theorem poly_NewJoiner.ok {K : Nat} {p0 : Int} {p1 : List (Option (List (Int)))} {p2 : Int} {p3 : Int} {r : ((List (Option (List (Int)))) × Int × Int) ⊕ ((List (Option (List (Int)))) × Int × Int × (List (Int)) × (List (Int)) × (List (Int)))} (h0 : poly_NewJoiner K p0 p1 p2 p3 = some r) : Fn Try.prog 19 [.p 0 0, .int .i64 p0] [(0, some (.ab (bkA p1 p2 p3)))] (poly_NewJoiner.res p0 p1 p2 p3 r) (poly_NewJoiner.out p0 p1 p2 p3 r) := by
  refine Fn_of Try.func19 rfl (Nat.le_of_ble_eq_true rfl) fun Γ => ?_
  refine TC_seq ?_
  refine TC_reg ?_
  refine TL_ev env 2 rfl ⟨trivial, ⟨trivial, trivial⟩⟩ ?_
  refine TL_end ?_
  refine TE_go ?_
  refine TC_seq ?_
  refine TC_reg ?_
  refine TL_ev env 2 rfl ⟨trivial, ⟨trivial, trivial⟩⟩ ?_
  obtain ⟨z, hr, h0⟩ := bnd h0
  rcases z with ⟨⟩ | ⟨r10, r11, r12, r13⟩ | ⟨r14, r15, r16, r17, r18⟩
  · refine TL_callB [(0, 0)] (poly_tables.ok0 hr) poly_tables.fnb rfl ⟨trivial, ⟨trivial, ⟨trivial, trivial⟩⟩⟩ rfl ⟨.inr rfl, trivial⟩ rfl ?_
    refine TL_ev env 6 rfl ⟨trivial, ⟨trivial, ⟨trivial, ⟨trivial, ⟨⟨trivial, trivial⟩, ⟨trivial, trivial⟩⟩⟩⟩⟩⟩ ?_
    refine TL_end ?_
    refine TE_go ?_
    refine TC_seq ?_
    refine TC_seq ?_
    refine TC_reg ?_
    refine TL_ev env 2 rfl ⟨trivial, ⟨⟨trivial, ⟨trivial, trivial⟩⟩, trivial⟩⟩ ?_
    refine TL_end ?_
    refine TE_go ?_
    refine TC_cond rfl (fun hb => ?_) (fun hb => ?_)
    · refine TC_seq ?_
      refine TC_reg ?_
      refine TL_ev env 3 rfl ⟨trivial, ⟨trivial, ⟨trivial, trivial⟩⟩⟩ ?_
      refine TL_end ?_
      refine TE_go ?_
      refine TC_ret ?_
      refine tsr ?_
      obtain rfl := sinj h0
      exact TE_ret env rfl trivial ⟨.inr rfl, trivial⟩
    · first | exact (ftf hb).elim | exact (tff hb).elim | exact absurd hb (by decide)
  · refine TL_callB [(0, 0)] (poly_tables.ok1 hr) poly_tables.fnb rfl ⟨trivial, ⟨trivial, ⟨trivial, trivial⟩⟩⟩ rfl ⟨.inr rfl, trivial⟩ rfl ?_
    refine TL_ev env 6 rfl ⟨trivial, ⟨trivial, ⟨trivial, ⟨trivial, ⟨⟨trivial, trivial⟩, ⟨trivial, trivial⟩⟩⟩⟩⟩⟩ ?_
    refine TL_end ?_
    refine TE_go ?_
    refine TC_seq ?_
    refine TC_seq ?_
    refine TC_reg ?_
    refine TL_ev env 2 rfl ⟨trivial, ⟨⟨trivial, ⟨trivial, trivial⟩⟩, trivial⟩⟩ ?_
    refine TL_end ?_
    refine TE_go ?_
    refine TC_cond rfl (fun hb => ?_) (fun hb => ?_)
    · refine TC_seq ?_
      refine TC_reg ?_
      refine TL_ev env 3 rfl ⟨trivial, ⟨trivial, ⟨trivial, trivial⟩⟩⟩ ?_
      refine TL_end ?_
      refine TE_go ?_
      refine TC_ret ?_
      refine tsr ?_
      obtain rfl := sinj h0
      exact TE_ret env rfl trivial ⟨.inr rfl, trivial⟩
    · first | exact (ftf hb).elim | exact (tff hb).elim | exact absurd hb (by decide)
  · refine TL_callB [(0, 0)] (poly_tables.ok2 hr) poly_tables.fnb rfl ⟨trivial, ⟨trivial, ⟨trivial, trivial⟩⟩⟩ rfl ⟨.inr rfl, trivial⟩ rfl ?_
    refine TL_ev env 6 rfl ⟨trivial, ⟨trivial, ⟨trivial, ⟨trivial, ⟨⟨trivial, trivial⟩, ⟨trivial, trivial⟩⟩⟩⟩⟩⟩ ?_
    refine TL_end ?_
    refine TE_go ?_
    refine TC_seq ?_
    refine TC_seq ?_
    refine TC_reg ?_
    refine TL_ev env 2 rfl ⟨trivial, ⟨⟨trivial, ⟨trivial, trivial⟩⟩, trivial⟩⟩ ?_
    refine TL_end ?_
    refine TE_go ?_
    refine TC_cond rfl (fun hb => ?_) (fun hb => ?_)
    · first | exact (ftf hb).elim | exact (tff hb).elim | exact absurd hb (by decide)
    · refine TC_skip ?_
      refine TE_go ?_
      refine TC_seq ?_
      refine TC_renw (A' := [(1, .int .i64 _), (4, .nilp), (5, .int .i64 0), (6, .p 1006 0)]) (L' := [(0, some (.ab (bkA _ _ _))), (1006, some (.cells [.int .i64 _, .im (.slice (.int .i16)) _, .im (.slice (.int .i16)) _]))]) [] ⟨rfl, rfl, rfl, rfl, trivial⟩ ⟨rfl, rfl, trivial⟩ rfl ?_
      refine TC_drawR ⟨_, fun i => ([[], [], [1], [2, 1], [3, 2, 1, 0], [4, 3, 2, 1, 0], [5, 4, 3, 2, 1, 0], [6, 5, 4, 3, 2, 1, 0]] : List (List Nat)).getD i [], fun i => ([[], [], [], [1020], [], [1022], [], []] : List (List Nat)).getD i [], fun i => ([[], [], [], [1020], [], [1022], [], []] : List (List Nat)).getD i []⟩ (fun i => ([[1020], [], [], [], [], [], [], []] : List (List Nat)).getD i []) (by kernel_rfl) (by kernel_rfl) ?_
      refine AJR_ev env 1 rfl (Nat.le_of_ble_eq_true rfl) rfl ⟨trivial, trivial⟩ ?_
      refine AJR_ev env 2 rfl (Nat.le_of_ble_eq_true rfl) rfl trivial ?_
      refine AJR_ev env 3 rfl (Nat.le_of_ble_eq_true rfl) rfl ⟨trivial, ⟨trivial, trivial⟩⟩ ?_
      obtain ⟨g, h0⟩ := gd_t h0
      refine AJR_ev env 4 rfl (Nat.le_of_ble_eq_true rfl) rfl ⟨trivial, ⟨trivial, ⟨g.1, ⟨g.2.1, g.2.2⟩⟩⟩⟩ ?_
      refine AJR_ev env 5 rfl (Nat.le_of_ble_eq_true rfl) rfl ⟨trivial, ⟨trivial, trivial⟩⟩ ?_
      refine AJR_ev env 6 rfl (Nat.le_of_ble_eq_true rfl) rfl trivial ?_
      refine AJR_ev env 7 rfl (Nat.le_of_ble_eq_true rfl) rfl trivial ?_
      refine AJR_ev env 8 rfl (Nat.le_of_ble_eq_true rfl) rfl trivial ?_
      refine AJR_end rfl rfl rfl ?_
      refine TE_go ?_
      refine TC_ret ?_
      obtain rfl := sinj h0
      refine TE_renw (A' := [(4, .p 1000 0), (5, .int .i64 0)]) (L' := [(0, some (.ab (bkA _ _ _))), (1000, some (.cells [.int .i64 _, .im (.slice (.int .i16)) _, .im (.slice (.int .i16)) _, .sl 1001])), (1001, some (.rows (.int .i64) _))]) [(1000, 1022), (1001, 1020)] ⟨rfl, rfl, trivial⟩ ⟨rfl, rfl, rfl, trivial⟩ rfl ?_
      exact TE_ret env rfl trivial ⟨.inr rfl, .inr rfl, .inr rfl, trivial⟩
theorem poly_NewJoiner.ok0 {K : Nat} {p0 : Int} {p1 : List (Option (List (Int)))} {p2 : Int} {p3 : Int} {q0 : List (Option (List (Int)))} {q1 : Int} {q2 : Int} (h0 : poly_NewJoiner K p0 p1 p2 p3 = some (.inl (q0, q1, q2))) : Fn Try.prog 19 [.p 0 0, .int .i64 p0] [(0, some (.ab (bkA p1 p2 p3)))] (.tup [.nilp, .int .i64 1]) [(0, some (.ab (bkA q0 q1 q2)))] := poly_NewJoiner.ok h0
theorem poly_NewJoiner.ok1 {K : Nat} {p0 : Int} {p1 : List (Option (List (Int)))} {p2 : Int} {p3 : Int} {q0 : List (Option (List (Int)))} {q1 : Int} {q2 : Int} {q3 : List (Int)} {q4 : List (Int)} {q5 : List (Int)} (h0 : poly_NewJoiner K p0 p1 p2 p3 = some (.inr (q0, q1, q2, q3, q4, q5))) : Fn Try.prog 19 [.p 0 0, .int .i64 p0] [(0, some (.ab (bkA p1 p2 p3)))] (.tup [.p 1000 0, .int .i64 0]) [(0, some (.ab (bkA q0 q1 q2))), (1000, some (.cells [.int .i64 p0, .im (.slice (.int .i16)) q3, .im (.slice (.int .i16)) q4, .sl 1001])), (1001, some (.rows (.int .i64) q5))] := poly_NewJoiner.ok h0
theorem poly_NewJoiner.fnb : fnb Try.prog 19 = true := fnb_of Try.func19 rfl
def psalterylaw08_cut_int16.res (_p0 : List (Int)) (_p1 : Int) : (List (List (Int))) → MV
  | q0 => .im (.slice (.slice (.int .i16))) q0
def psalterylaw08_cut_int16.out (_p0 : List (Int)) (_p1 : Int) : (List (List (Int))) → List (Nat × Option MObj)
  | _ => []
theorem psalterylaw08_cut_int16.ok {K : Nat} {p0 : List (Int)} {p1 : Int} {r : (List (List (Int)))} (h0 : psalterylaw08_cut_int16 K p0 p1 = some r) : Fn Try.prog 15 [.im (.slice (.int .i16)) p0, .int .i64 p1] [] (psalterylaw08_cut_int16.res p0 p1 r) (psalterylaw08_cut_int16.out p0 p1 r) := by
  refine Fn_of Try.func15 rfl (Nat.le_of_ble_eq_true rfl) fun Γ => ?_
  refine TC_seq ?_
  refine TC_reg ?_
  refine TL_ev env 1 rfl ⟨trivial, trivial⟩ ?_
  refine TL_end ?_
  refine TE_go ?_
  refine TC_seq ?_
  refine TC_reg ?_
  refine TL_ev env 1 rfl ⟨trivial, trivial⟩ ?_
  refine TL_end ?_
  refine TE_go ?_
  refine TC_seq ?_
  refine TC_seq ?_
  refine TC_reg ?_
  refine TL_ev env 1 rfl ⟨trivial, trivial⟩ ?_
  refine TL_end ?_
  refine TE_go ?_
  obtain ⟨z1, h1, h0⟩ := bnd h0
  refine TC_cut (α := (List (List (Int)))) (fun s => z1 = s) (fun s => [(5, .sl 10800)]) (fun s => [(10800, some (.rows (.slice (.int .i16)) s))]) ?_ ?_
  · refine TC_blk ?_
    refine TC_loop (α := Int × (List (List (Int)))) (fun n s => psalterylaw08_cut_int16.l0 K p0 p1 n s.1 s.2 = some z1) (fun s => [(0, .im (.slice (.int .i16)) p0), (1, .int .i64 p1), (5, .sl 11000), (6, .int .i64 s.1)]) (fun s => [(11000, some (.rows (.slice (.int .i16)) s.2))]) K ?_ ?_
    · refine TE_own 5 7005 (.slice (.int .i16)) rfl (by decide) rfl rfl ?_
      exact SP_ren [(11000, 7005)] (_, _) h1 ⟨rfl, rfl, rfl, rfl, trivial⟩ ⟨rfl, trivial⟩ rfl
    rintro n ⟨x11, x12⟩ h1
    rcases n with _ | n
    · exact (nsome h1).elim
    replace h1 : psalterylaw08_cut_int16.r0 K p0 p1 (psalterylaw08_cut_int16.l0 K p0 p1 n) x11 x12 = some z1 := h1
    refine TC_seq ?_
    refine TC_seq ?_
    refine TC_reg ?_
    refine TL_ev env 6 rfl ⟨trivial, ⟨trivial, ⟨⟨trivial, ⟨trivial, trivial⟩⟩, ⟨trivial, ⟨⟨trivial, trivial⟩, ⟨⟨trivial, ⟨trivial, trivial⟩⟩, trivial⟩⟩⟩⟩⟩⟩ ?_
    refine TL_end ?_
    refine TE_go ?_
    refine TC_cond rfl (fun hb => ?_) (fun hb => ?_)
    · replace h1 := bif_t h1 hb
      refine TC_skip ?_
      refine TE_go ?_
      refine TC_seq ?_
      refine TC_blk ?_
      refine TC_reg ?_
      obtain ⟨g, h1⟩ := gd_t h1
      refine TL_ev env 9 rfl ⟨trivial, ⟨trivial, ⟨trivial, ⟨trivial, ⟨trivial, ⟨trivial, ⟨⟨trivial, ⟨trivial, trivial⟩⟩, ⟨⟨trivial, ⟨trivial, ⟨trivial, ⟨g.1, ⟨g.2.1, g.2.2.1⟩⟩⟩⟩⟩, ⟨⟨⟨trivial, ⟨trivial, trivial⟩⟩, g.2.2.2⟩, trivial⟩⟩⟩⟩⟩⟩⟩⟩⟩ ?_
      refine TL_frz 1024 rfl ?_
      obtain ⟨g, h1⟩ := gd_t h1
      refine TL_ev env 3 rfl ⟨⟨trivial, trivial⟩, ⟨⟨⟨trivial, ⟨trivial, trivial⟩⟩, g⟩, ⟨trivial, trivial⟩⟩⟩ ?_
      refine TL_end ?_
      refine tbn ?_
      refine TE_go ?_
      refine TC_reg ?_
      refine TL_ev env 4 rfl ⟨trivial, ⟨trivial, ⟨⟨trivial, ⟨trivial, trivial⟩⟩, ⟨trivial, trivial⟩⟩⟩⟩ ?_
      refine TL_end ?_
      refine tsn ?_
      exact TE_nextr [(11000, 1026)] n (Nat.lt_succ_self n) (_, _) h1 ⟨rfl, rfl, rfl, rfl, trivial⟩ ⟨rfl, trivial⟩ rfl
    · replace h1 := bif_f h1 hb
      refine TC_exit ?_
      refine tsx ?_
      refine tsx ?_
      refine tbe ?_
      obtain rfl := sinj h1
      refine tsn ?_
      exact SP_ren [(10800, 11000)] _ rfl ⟨rfl, trivial⟩ ⟨rfl, trivial⟩ rfl
  · rintro x10 hz
    obtain rfl := hz.symm
    refine TE_go ?_
    refine TC_seq ?_
    refine TC_reg ?_
    refine TL_ev env 2 rfl ⟨trivial, ⟨trivial, trivial⟩⟩ ?_
    refine TL_end ?_
    refine TE_go ?_
    refine TC_ret ?_
    refine TE_frz 10800 rfl ?_
    obtain rfl := sinj h0
    exact TE_ret env rfl trivial trivial
theorem psalterylaw08_cut_int16.ok0 {K : Nat} {p0 : List (Int)} {p1 : Int} {q0 : List (List (Int))} (h0 : psalterylaw08_cut_int16 K p0 p1 = some q0) : Fn Try.prog 15 [.im (.slice (.int .i16)) p0, .int .i64 p1] [] (.im (.slice (.slice (.int .i16))) q0) [] := psalterylaw08_cut_int16.ok h0
theorem psalterylaw08_cut_int16.fnb : fnb Try.prog 15 = true := fnb_of Try.func15 rfl
def poly_Joiner_Feed.res (_p0 : Int) (_p1 : List (Int)) (_p2 : List (Int)) (_p3 : List (Int)) : (Unit) ⊕ ((List (Int)) × (List (Int))) → MV
  | .inl () => .tup [.nils, .int .i64 1]
  | .inr (q0, _) => .tup [.im (.slice (.int .i16)) q0, .int .i64 0]
def poly_Joiner_Feed.out (p0 : Int) (p1 : List (Int)) (p2 : List (Int)) (p3 : List (Int)) : (Unit) ⊕ ((List (Int)) × (List (Int))) → List (Nat × Option MObj)
  | .inl () => [(0, some (.cells [.int .i64 p0, .im (.slice (.int .i16)) p1, .im (.slice (.int .i16)) p2, .sl 1])), (1, some (.rows (.int .i64) p3))]
  | .inr (_, q1) => [(0, some (.cells [.int .i64 p0, .im (.slice (.int .i16)) p1, .im (.slice (.int .i16)) p2, .sl 1])), (1, some (.rows (.int .i64) q1))]
theorem poly_Joiner_Feed.ok {K : Nat} {p0 : Int} {p1 : List (Int)} {p2 : List (Int)} {p3 : List (Int)} {r : (Unit) ⊕ ((List (Int)) × (List (Int)))} (h0 : poly_Joiner_Feed K p0 p1 p2 p3 = some r) : Fn Try.prog 21 [.p 0 0, .nils] [(0, some (.cells [.int .i64 p0, .im (.slice (.int .i16)) p1, .im (.slice (.int .i16)) p2, .sl 1])), (1, some (.rows (.int .i64) p3))] (poly_Joiner_Feed.res p0 p1 p2 p3 r) (poly_Joiner_Feed.out p0 p1 p2 p3 r) := by
  refine Fn_of Try.func21 rfl (Nat.le_of_ble_eq_true rfl) fun Γ => ?_
  refine TC_seq ?_
  refine TC_reg ?_
  refine TL_ev env 2 rfl ⟨trivial, ⟨trivial, trivial⟩⟩ ?_
  refine TL_end ?_
  refine TE_go ?_
  refine TC_seq ?_
  refine TC_blk ?_
  refine TC_seq ?_
  refine TC_reg ?_
  refine TL_ev env 3 rfl ⟨trivial, ⟨⟨trivial, ⟨trivial, trivial⟩⟩, ⟨trivial, trivial⟩⟩⟩ ?_
  refine TL_end ?_
  refine TE_go ?_
  refine TC_cond rfl (fun hb => ?_) (fun hb => ?_)
  · first | exact (ftf hb).elim | exact (tff hb).elim | exact absurd hb (by decide)
  · refine TC_seq ?_
    refine TC_reg ?_
    refine TL_ev env 9 rfl ⟨trivial, ⟨⟨trivial, trivial⟩, ⟨trivial, ⟨trivial, ⟨trivial, ⟨trivial, ⟨⟨trivial, trivial⟩, ⟨⟨trivial, ⟨trivial, trivial⟩⟩, ⟨trivial, trivial⟩⟩⟩⟩⟩⟩⟩⟩⟩ ?_
    refine TL_end ?_
    refine TE_go ?_
    refine TC_cond rfl (fun hb => ?_) (fun hb => ?_)
    · replace h0 := bif_t h0 hb
      refine TC_seq ?_
      refine TC_reg ?_
      refine TL_ev env 2 rfl ⟨trivial, ⟨trivial, trivial⟩⟩ ?_
      refine TL_end ?_
      refine TE_go ?_
      refine TC_ret ?_
      refine tbr ?_
      refine tsr ?_
      obtain rfl := sinj h0
      exact TE_ret env rfl trivial ⟨.inr rfl, .inr rfl, trivial⟩
    · replace h0 := bif_f h0 hb
      refine TC_skip ?_
      refine tbn ?_
      refine TE_go ?_
      refine TC_seq ?_
      refine TC_reg ?_
      refine TL_ev env 6 rfl ⟨trivial, ⟨trivial, ⟨trivial, ⟨trivial, ⟨⟨trivial, trivial⟩, ⟨trivial, trivial⟩⟩⟩⟩⟩⟩ ?_
      refine TL_end ?_
      refine TE_go ?_
      refine TC_seq ?_
      refine TC_renw (A' := [(0, .p 0 0), (1, .nils), (6, .int .i64 _)]) (L' := [(0, some (.cells [.int .i64 _, .im (.slice (.int .i16)) _, .im (.slice (.int .i16)) _, .sl 1])), (1, some (.rows (.int .i64) _))]) [] ⟨rfl, rfl, rfl, trivial⟩ ⟨rfl, rfl, trivial⟩ rfl ?_
      refine TC_drawR ⟨_, fun i => ([[], [0], [1, 0], [2, 1, 0], [], [4], [5, 4, 3, 2, 1, 0], [], [7], [8, 7], [9, 8, 7], [10, 9, 8, 7, 6, 5, 4, 3, 2, 1, 0]] : List (List Nat)).getD i [], fun i => ([[], [], [], [], [], [], [], [], [], [], [], [1]] : List (List Nat)).getD i [], fun i => ([[], [], [], [], [], [], [], [], [], [], [], []] : List (List Nat)).getD i []⟩ (fun i => ([[], [], [], [], [], [], [], [], [], [], [], []] : List (List Nat)).getD i []) (by kernel_rfl) (by kernel_rfl) ?_
      refine AJR_ev env 1 rfl (Nat.le_of_ble_eq_true rfl) rfl trivial ?_
      refine AJR_ev env 2 rfl (Nat.le_of_ble_eq_true rfl) rfl trivial ?_
      refine AJR_ev env 3 rfl (Nat.le_of_ble_eq_true rfl) rfl trivial ?_
      refine AJR_ev env 4 rfl (Nat.le_of_ble_eq_true rfl) rfl ⟨trivial, trivial⟩ ?_
      refine AJR_ev env 5 rfl (Nat.le_of_ble_eq_true rfl) rfl trivial ?_
      refine AJR_ev env 6 rfl (Nat.le_of_ble_eq_true rfl) rfl ⟨trivial, ⟨trivial, trivial⟩⟩ ?_
      obtain ⟨g, h0⟩ := gd_t h0
      refine AJR_ev env 7 rfl (Nat.le_of_ble_eq_true rfl) rfl ⟨trivial, ⟨trivial, ⟨trivial, ⟨g.1, g.2⟩⟩⟩⟩ ?_
      refine AJR_ev env 8 rfl (Nat.le_of_ble_eq_true rfl) rfl trivial ?_
      refine AJR_ev env 9 rfl (Nat.le_of_ble_eq_true rfl) rfl trivial ?_
      refine AJR_ev env 10 rfl (Nat.le_of_ble_eq_true rfl) rfl trivial ?_
      refine AJR_ev env 11 rfl (Nat.le_of_ble_eq_true rfl) rfl ⟨trivial, trivial⟩ ?_
      obtain ⟨g, h0⟩ := gd_t h0
      refine AJR_ev env 12 rfl (Nat.le_of_ble_eq_true rfl) rfl ⟨⟨trivial, ⟨trivial, trivial⟩⟩, g⟩ ?_
      refine AJR_end rfl rfl rfl ?_
      refine TE_go ?_
      refine TC_seq ?_
      refine TC_seq ?_
      refine TC_reg ?_
      refine TL_ev env 3 rfl ⟨trivial, ⟨⟨trivial, ⟨trivial, trivial⟩⟩, ⟨trivial, trivial⟩⟩⟩ ?_
      refine TL_end ?_
      refine TE_go ?_
      obtain ⟨z1, h1, h0⟩ := bnd h0
      refine TC_cut (α := (List (Int))) (fun s => z1 = s) (fun s => [(0, .p 0 0), (6, .int .i64 p0)]) (fun s => [(0, some (.cells [.int .i64 p0, .im (.slice (.int .i16)) p1, .im (.slice (.int .i16)) p2, .sl 1])), (1, some (.rows (.int .i64) s))]) ?_ ?_
      · refine TC_blk ?_
        refine TC_loop (α := Int × (List (Int))) (fun n s => poly_Joiner_Feed.l2 K p0 (kwrap .i64 (2 * p0)) p1 p2 n s.1 s.2 = some z1) (fun s => [(0, .p 0 0), (1, .nils), (6, .int .i64 p0), (47, .int .i64 (kwrap .i64 (2 * p0))), (48, .int .i64 s.1)]) (fun s => [(0, some (.cells [.int .i64 p0, .im (.slice (.int .i16)) p1, .im (.slice (.int .i16)) p2, .sl 1])), (1, some (.rows (.int .i64) s.2))]) K ?_ ?_
        · exact SP_ren [] (_, _) h1 ⟨rfl, rfl, rfl, rfl, rfl, trivial⟩ ⟨rfl, rfl, trivial⟩ rfl
        rintro n ⟨x170, x171⟩ h1
        rcases n with _ | n
        · exact (nsome h1).elim
        replace h1 : poly_Joiner_Feed.r2 K p0 (kwrap .i64 (2 * p0)) p1 p2 (poly_Joiner_Feed.l2 K p0 (kwrap .i64 (2 * p0)) p1 p2 n) x170 x171 = some z1 := h1
        refine TC_seq ?_
        refine TC_reg ?_
        refine TL_ev env 1 rfl ⟨⟨trivial, ⟨trivial, trivial⟩⟩, trivial⟩ ?_
        refine TL_end ?_
        refine TE_go ?_
        refine TC_seq ?_
        refine TC_cond rfl (fun hb => ?_) (fun hb => ?_)
        · replace h1 := bif_t h1 hb
          refine TC_skip ?_
          refine TE_go ?_
          refine TC_seq ?_
          refine TC_blk ?_
          refine TC_seq ?_
          refine TC_reg ?_
          refine TL_ev env 2 rfl ⟨trivial, ⟨trivial, trivial⟩⟩ ?_
          refine TL_end ?_
          refine TE_go ?_
          refine TC_seq ?_
          refine TC_reg ?_
          refine TL_ev env 1 rfl ⟨trivial, trivial⟩ ?_
          refine TL_end ?_
          refine TE_go ?_
          refine TC_seq ?_
          refine TC_seq ?_
          refine TC_reg ?_
          refine TL_ev env 3 rfl ⟨trivial, ⟨⟨trivial, trivial⟩, ⟨trivial, trivial⟩⟩⟩ ?_
          refine TL_end ?_
          refine TE_go ?_
          obtain ⟨z2, h2, h1⟩ := bnd h1
          refine TC_cut (α := Unit) (fun _ => z2 = ()) (fun _ => [(0, .p 0 0), (1, .nils), (6, .int .i64 p0), (7, .int .i64 x170), (8, .int .i64 0), (47, .int .i64 (kwrap .i64 (2 * p0))), (48, .int .i64 x170)]) (fun _ => [(0, some (.cells [.int .i64 p0, .im (.slice (.int .i16)) p1, .im (.slice (.int .i16)) p2, .sl 1])), (1, some (.rows (.int .i64) x171))]) ?_ ?_
          · refine TC_blk ?_
            refine TC_loop (α := Unit) (fun n _ => poly_Joiner_Feed.l3 K p0 x170 (kwrap .i64 (2 * p0)) p1 p2 x171 n = some z2) (fun _ => [(0, .p 0 0), (1, .nils), (6, .int .i64 p0), (7, .int .i64 x170), (8, .int .i64 0), (47, .int .i64 (kwrap .i64 (2 * p0))), (48, .int .i64 x170), (51, .nils), (52, .int .i64 0), (53, .int .i64 0)]) (fun _ => [(0, some (.cells [.int .i64 p0, .im (.slice (.int .i16)) p1, .im (.slice (.int .i16)) p2, .sl 1])), (1, some (.rows (.int .i64) x171))]) K ?_ ?_
            · exact SP_ren [] () h2 ⟨rfl, rfl, rfl, rfl, rfl, rfl, rfl, rfl, rfl, rfl, trivial⟩ ⟨rfl, rfl, trivial⟩ rfl
            rintro n ⟨⟩ h2
            rcases n with _ | n
            · exact (nsome h2).elim
            replace h2 : poly_Joiner_Feed.r3 K p0 x170 (kwrap .i64 (2 * p0)) p1 p2 x171 (poly_Joiner_Feed.l3 K p0 x170 (kwrap .i64 (2 * p0)) p1 p2 x171 n)  = some z2 := h2
            refine TC_seq ?_
            refine TC_reg ?_
            refine TL_ev env 1 rfl ⟨⟨trivial, ⟨trivial, trivial⟩⟩, trivial⟩ ?_
            refine TL_end ?_
            refine TE_go ?_
            refine TC_seq ?_
            refine TC_cond rfl (fun hb => ?_) (fun hb => ?_)
            · first | exact (ftf hb).elim | exact (tff hb).elim | exact absurd hb (by decide)
            · refine TC_exit ?_
              refine tsx ?_
              refine tsx ?_
              refine tbe ?_
              obtain rfl := sinj h2
              refine tsn ?_
              exact SP_ren [] () rfl ⟨rfl, rfl, rfl, rfl, rfl, rfl, rfl, trivial⟩ ⟨rfl, rfl, trivial⟩ rfl
          · rintro ⟨⟩ rfl
            refine TE_go ?_
            refine TC_renw (A' := [(0, .p 0 0), (1, .nils), (6, .int .i64 _), (7, .int .i64 _), (8, .int .i64 0), (47, .int .i64 _), (48, .int .i64 _)]) (L' := [(0, some (.cells [.int .i64 _, .im (.slice (.int .i16)) _, .im (.slice (.int .i16)) _, .sl 1])), (1, some (.rows (.int .i64) _))]) [] ⟨rfl, rfl, rfl, rfl, rfl, rfl, rfl, trivial⟩ ⟨rfl, rfl, trivial⟩ rfl ?_
            refine TC_drawR ⟨_, fun i => ([[], [0], [1, 0], [2, 1, 0], [], [], [5], [6, 5, 4, 3, 2, 1, 0], [7, 6, 5, 4, 3, 2, 1, 0]] : List (List Nat)).getD i [], fun i => ([[], [], [], [], [], [], [], [], [1]] : List (List Nat)).getD i [], fun i => ([[], [], [], [], [], [], [], [], []] : List (List Nat)).getD i []⟩ (fun i => ([[], [], [], [], [], [], [], [], []] : List (List Nat)).getD i []) (by kernel_rfl) (by kernel_rfl) ?_
            refine AJR_ev env 1 rfl (Nat.le_of_ble_eq_true rfl) rfl trivial ?_
            refine AJR_ev env 2 rfl (Nat.le_of_ble_eq_true rfl) rfl trivial ?_
            refine AJR_ev env 3 rfl (Nat.le_of_ble_eq_true rfl) rfl trivial ?_
            refine AJR_ev env 4 rfl (Nat.le_of_ble_eq_true rfl) rfl ⟨trivial, trivial⟩ ?_
            refine AJR_ev env 5 rfl (Nat.le_of_ble_eq_true rfl) rfl trivial ?_
            refine AJR_ev env 6 rfl (Nat.le_of_ble_eq_true rfl) rfl trivial ?_
            obtain ⟨r178, hr, h1⟩ := bnd h1
            refine AJR_call 7 rfl (Nat.le_of_ble_eq_true rfl) [] rfl (poly_rounded.ok0 hr) poly_rounded.fnb rfl ⟨trivial, ⟨trivial, ⟨trivial, trivial⟩⟩⟩ rfl trivial rfl ?_
            obtain ⟨g, h1⟩ := gd_t h1
            refine AJR_ev env 8 rfl (Nat.le_of_ble_eq_true rfl) rfl ⟨trivial, ⟨trivial, ⟨g.1, g.2⟩⟩⟩ ?_
            obtain ⟨g, h1⟩ := gd_t h1
            refine AJR_ev env 9 rfl (Nat.le_of_ble_eq_true rfl) rfl ⟨trivial, ⟨trivial, g⟩⟩ ?_
            refine AJR_end rfl rfl rfl ?_
            refine tbn ?_
            refine TE_go ?_
            refine TC_reg ?_
            refine TL_ev env 2 rfl ⟨⟨trivial, ⟨trivial, trivial⟩⟩, ⟨trivial, trivial⟩⟩ ?_
            refine TL_end ?_
            refine tsn ?_
            exact TE_nextr [] n (Nat.lt_succ_self n) (_, _) h1 ⟨rfl, rfl, rfl, rfl, rfl, trivial⟩ ⟨rfl, rfl, trivial⟩ rfl
        · replace h1 := bif_f h1 hb
          refine TC_exit ?_
          refine tsx ?_
          refine tsx ?_
          refine tbe ?_
          obtain rfl := sinj h1
          refine tsn ?_
          exact SP_ren [] _ rfl ⟨rfl, rfl, trivial⟩ ⟨rfl, rfl, trivial⟩ rfl
      · rintro x54 hz
        obtain rfl := hz.symm
        refine TE_go ?_
        refine TC_seq ?_
        refine TC_reg ?_
        obtain ⟨g, h0⟩ := gd_t h0
        refine TL_ev env 3 rfl ⟨trivial, ⟨⟨trivial, ⟨trivial, ⟨g.1, ⟨g.2.1, g.2.2⟩⟩⟩⟩, ⟨trivial, trivial⟩⟩⟩ ?_
        refine TL_end ?_
        refine TE_go ?_
        refine TC_seq ?_
        refine TC_seq ?_
        refine TC_reg ?_
        refine TL_ev env 3 rfl ⟨trivial, ⟨⟨trivial, trivial⟩, ⟨trivial, trivial⟩⟩⟩ ?_
        refine TL_end ?_
        refine TE_go ?_
        obtain ⟨z1, h1, h0⟩ := bnd h0
        refine TC_cut (α := (List (Int))) (fun s => z1 = s) (fun s => [(11, .sl 17202)]) (fun s => [(0, some (.cells [.int .i64 p0, .im (.slice (.int .i16)) p1, .im (.slice (.int .i16)) p2, .sl 1])), (1, some (.rows (.int .i64) x54)), (17202, some (.rows (.int .i16) s))]) ?_ ?_
        · refine TC_blk ?_
          refine TC_loop (α := Int × (List (Int))) (fun n s => poly_Joiner_Feed.l0 K p0 ((List.replicate (Int.toNat p0) (0 : Int)).length : Int) p1 p2 x54 n s.1 s.2 = some z1) (fun s => [(0, .p 0 0), (6, .int .i64 p0), (11, .sl 18202), (87, .int .i64 ((List.replicate (Int.toNat p0) (0 : Int)).length : Int)), (88, .int .i64 s.1)]) (fun s => [(0, some (.cells [.int .i64 p0, .im (.slice (.int .i16)) p1, .im (.slice (.int .i16)) p2, .sl 1])), (1, some (.rows (.int .i64) x54)), (18202, some (.rows (.int .i16) s.2))]) K ?_ ?_
          · exact SP_ren [(18202, 1085)] (_, _) h1 ⟨rfl, rfl, rfl, rfl, rfl, trivial⟩ ⟨rfl, rfl, rfl, trivial⟩ rfl
          rintro n ⟨x104, x105⟩ h1
          rcases n with _ | n
          · exact (nsome h1).elim
          replace h1 : poly_Joiner_Feed.r0 K p0 ((List.replicate (Int.toNat p0) (0 : Int)).length : Int) p1 p2 x54 (poly_Joiner_Feed.l0 K p0 ((List.replicate (Int.toNat p0) (0 : Int)).length : Int) p1 p2 x54 n) x104 x105 = some z1 := h1
          refine TC_seq ?_
          refine TC_reg ?_
          refine TL_ev env 1 rfl ⟨⟨trivial, ⟨trivial, trivial⟩⟩, trivial⟩ ?_
          refine TL_end ?_
          refine TE_go ?_
          refine TC_seq ?_
          refine TC_cond rfl (fun hb => ?_) (fun hb => ?_)
          · replace h1 := bif_t h1 hb
            refine TC_skip ?_
            refine TE_go ?_
            refine TC_seq ?_
            refine TC_blk ?_
            refine TC_seq ?_
            refine TC_reg ?_
            refine TL_ev env 2 rfl ⟨trivial, ⟨trivial, trivial⟩⟩ ?_
            refine TL_end ?_
            refine TE_go ?_
            refine TC_seq ?_
            refine TC_reg ?_
            refine TL_ev env 1 rfl ⟨trivial, trivial⟩ ?_
            refine TL_end ?_
            refine TE_go ?_
            refine TC_seq ?_
            refine TC_seq ?_
            refine TC_reg ?_
            refine TL_ev env 1 rfl ⟨trivial, trivial⟩ ?_
            refine TL_end ?_
            refine TE_go ?_
            obtain ⟨z2, h2, h1⟩ := bnd h1
            refine TC_cut (α := Int) (fun s => z2 = s) (fun s => [(0, .p 0 0), (6, .int .i64 p0), (11, .sl 19902), (12, .int .i64 x104), (13, .int .i64 s), (87, .int .i64 ((List.replicate (Int.toNat p0) (0 : Int)).length : Int)), (88, .int .i64 x104)]) (fun s => [(0, some (.cells [.int .i64 p0, .im (.slice (.int .i16)) p1, .im (.slice (.int .i16)) p2, .sl 1])), (1, some (.rows (.int .i64) x54)), (19902, some (.rows (.int .i16) x105))]) ?_ ?_
            · refine TC_blk ?_
              refine TC_loop (α := Int × Int) (fun n s => poly_Joiner_Feed.l1 K p0 x104 ((List.replicate (Int.toNat p0) (0 : Int)).length : Int) p1 p2 x54 x105 n s.1 s.2 = some z2) (fun s => [(0, .p 0 0), (6, .int .i64 p0), (11, .sl 20102), (12, .int .i64 x104), (13, .int .i64 s.1), (87, .int .i64 ((List.replicate (Int.toNat p0) (0 : Int)).length : Int)), (88, .int .i64 x104), (91, .int .i64 s.2)]) (fun s => [(0, some (.cells [.int .i64 p0, .im (.slice (.int .i16)) p1, .im (.slice (.int .i16)) p2, .sl 1])), (1, some (.rows (.int .i64) x54)), (20102, some (.rows (.int .i16) x105))]) K ?_ ?_
              · exact SP_ren [(20102, 18202)] (_, _) h2 ⟨rfl, rfl, rfl, rfl, rfl, rfl, rfl, rfl, trivial⟩ ⟨rfl, rfl, rfl, trivial⟩ rfl
              rintro n ⟨x139, x140⟩ h2
              rcases n with _ | n
              · exact (nsome h2).elim
              replace h2 : poly_Joiner_Feed.r1 K p0 x104 ((List.replicate (Int.toNat p0) (0 : Int)).length : Int) p1 p2 x54 x105 (poly_Joiner_Feed.l1 K p0 x104 ((List.replicate (Int.toNat p0) (0 : Int)).length : Int) p1 p2 x54 x105 n) x139 x140 = some z2 := h2
              refine TC_seq ?_
              refine TC_reg ?_
              refine TL_ev env 1 rfl ⟨⟨trivial, ⟨trivial, trivial⟩⟩, trivial⟩ ?_
              refine TL_end ?_
              refine TE_go ?_
              refine TC_seq ?_
              refine TC_cond rfl (fun hb => ?_) (fun hb => ?_)
              · replace h2 := bif_t h2 hb
                refine TC_skip ?_
                refine TE_go ?_
                refine TC_seq ?_
                refine TC_blk ?_
                refine TC_seq ?_
                refine TC_reg ?_
                refine TL_ev env 2 rfl ⟨trivial, ⟨trivial, trivial⟩⟩ ?_
                refine TL_end ?_
                refine TE_go ?_
                refine TC_seq ?_
                refine TC_renw (A' := [(0, .p 0 0), (6, .int .i64 _), (11, .sl 20102), (12, .int .i64 _), (13, .int .i64 _), (14, .int .i64 _), (87, .int .i64 _), (88, .int .i64 _), (91, .int .i64 _)]) (L' := [(0, some (.cells [.int .i64 _, .im (.slice (.int .i16)) _, .im (.slice (.int .i16)) _, .sl 1])), (1, some (.rows (.int .i64) _)), (20102, some (.rows (.int .i16) _))]) [] ⟨rfl, rfl, rfl, rfl, rfl, rfl, rfl, rfl, rfl, trivial⟩ ⟨rfl, rfl, rfl, trivial⟩ rfl ?_
                refine TC_drawR ⟨_, fun i => ([[], [0], [1, 0], [2, 1, 0], [], [4], [], [6, 5, 4], [], [8, 7, 6, 5, 4], [9, 8, 7, 6, 5, 4, 3, 2, 1, 0], [10, 9, 8, 7, 6, 5, 4, 3, 2, 1, 0], [], [12], [13, 12], [14, 13, 12], [15, 14, 13, 12], [], [17], [], [19, 18, 17], [], [21, 20, 19, 18, 17], [22, 21, 20, 19, 18, 17, 16, 15, 14, 13, 12], [23, 22, 21, 20, 19, 18, 17, 16, 15, 14, 13, 12], [24, 23, 22, 21, 20, 19, 18, 17, 16, 15, 14, 13, 12], [25, 24, 23, 22, 21, 20, 19, 18, 17, 16, 15, 14, 13, 12, 11, 10, 9, 8, 7, 6, 5, 4, 3, 2, 1, 0], [26, 25, 24, 23, 22, 21, 20, 19, 18, 17, 16, 15, 14, 13, 12, 11, 10, 9, 8, 7, 6, 5, 4, 3, 2, 1, 0]] : List (List Nat)).getD i [], fun i => ([[], [], [], [], [], [], [], [], [], [], [], [], [], [], [], [], [], [], [], [], [], [], [], [], [], [], [], []] : List (List Nat)).getD i [], fun i => ([[], [], [], [], [], [], [], [], [], [], [], [], [], [], [], [], [], [], [], [], [], [], [], [], [], [], [], []] : List (List Nat)).getD i []⟩ (fun i => ([[], [], [], [], [], [], [], [], [], [], [], [], [], [], [], [], [], [], [], [], [], [], [], [], [], [], [], []] : List (List Nat)).getD i []) (by kernel_rfl) (by kernel_rfl) ?_
                refine AJR_ev env 1 rfl (Nat.le_of_ble_eq_true rfl) rfl trivial ?_
                refine AJR_ev env 2 rfl (Nat.le_of_ble_eq_true rfl) rfl trivial ?_
                refine AJR_ev env 3 rfl (Nat.le_of_ble_eq_true rfl) rfl trivial ?_
                refine AJR_ev env 4 rfl (Nat.le_of_ble_eq_true rfl) rfl ⟨trivial, trivial⟩ ?_
                refine AJR_ev env 5 rfl (Nat.le_of_ble_eq_true rfl) rfl trivial ?_
                refine AJR_ev env 6 rfl (Nat.le_of_ble_eq_true rfl) rfl ⟨trivial, ⟨trivial, trivial⟩⟩ ?_
                refine AJR_ev env 7 rfl (Nat.le_of_ble_eq_true rfl) rfl trivial ?_
                refine AJR_ev env 8 rfl (Nat.le_of_ble_eq_true rfl) rfl ⟨trivial, ⟨trivial, trivial⟩⟩ ?_
                refine AJR_ev env 9 rfl (Nat.le_of_ble_eq_true rfl) rfl trivial ?_
                refine AJR_ev env 10 rfl (Nat.le_of_ble_eq_true rfl) rfl ⟨trivial, ⟨trivial, trivial⟩⟩ ?_
                obtain ⟨g, h2⟩ := gd_t h2
                refine AJR_ev env 11 rfl (Nat.le_of_ble_eq_true rfl) rfl ⟨trivial, ⟨trivial, ⟨g.1, g.2⟩⟩⟩ ?_
                obtain ⟨g, h2⟩ := gd_t h2
                refine AJR_ev env 12 rfl (Nat.le_of_ble_eq_true rfl) rfl ⟨trivial, g⟩ ?_
                refine AJR_ev env 13 rfl (Nat.le_of_ble_eq_true rfl) rfl trivial ?_
                refine AJR_ev env 14 rfl (Nat.le_of_ble_eq_true rfl) rfl trivial ?_
                refine AJR_ev env 15 rfl (Nat.le_of_ble_eq_true rfl) rfl trivial ?_
                refine AJR_ev env 16 rfl (Nat.le_of_ble_eq_true rfl) rfl trivial ?_
                refine AJR_ev env 17 rfl (Nat.le_of_ble_eq_true rfl) rfl ⟨trivial, trivial⟩ ?_
                refine AJR_ev env 18 rfl (Nat.le_of_ble_eq_true rfl) rfl trivial ?_
                refine AJR_ev env 19 rfl (Nat.le_of_ble_eq_true rfl) rfl ⟨trivial, ⟨trivial, trivial⟩⟩ ?_
                refine AJR_ev env 20 rfl (Nat.le_of_ble_eq_true rfl) rfl trivial ?_
                refine AJR_ev env 21 rfl (Nat.le_of_ble_eq_true rfl) rfl ⟨trivial, ⟨trivial, trivial⟩⟩ ?_
                refine AJR_ev env 22 rfl (Nat.le_of_ble_eq_true rfl) rfl trivial ?_
                refine AJR_ev env 23 rfl (Nat.le_of_ble_eq_true rfl) rfl ⟨trivial, ⟨trivial, trivial⟩⟩ ?_
                obtain ⟨g, h2⟩ := gd_t h2
                refine AJR_ev env 24 rfl (Nat.le_of_ble_eq_true rfl) rfl ⟨trivial, ⟨trivial, ⟨g.1, g.2⟩⟩⟩ ?_
                refine AJR_ev env 25 rfl (Nat.le_of_ble_eq_true rfl) rfl ⟨trivial, trivial⟩ ?_
                refine AJR_ev env 26 rfl (Nat.le_of_ble_eq_true rfl) rfl trivial ?_
                refine AJR_ev env 27 rfl (Nat.le_of_ble_eq_true rfl) rfl ⟨trivial, ⟨trivial, trivial⟩⟩ ?_
                refine AJR_ev env 28 rfl (Nat.le_of_ble_eq_true rfl) rfl trivial ?_
                refine AJR_end rfl rfl rfl ?_
                refine TE_go ?_
                refine TC_seq ?_
                refine TC_renw (A' := [(0, .p 0 0), (6, .int .i64 _), (11, .sl 20102), (12, .int .i64 _), (13, .int .i64 _), (14, .int .i64 _), (15, .int .i64 _), (87, .int .i64 _), (88, .int .i64 _), (91, .int .i64 _)]) (L' := [(0, some (.cells [.int .i64 _, .im (.slice (.int .i16)) _, .im (.slice (.int .i16)) _, .sl 1])), (1, some (.rows (.int .i64) _)), (20102, some (.rows (.int .i16) _))]) [] ⟨rfl, rfl, rfl, rfl, rfl, rfl, rfl, rfl, rfl, rfl, trivial⟩ ⟨rfl, rfl, rfl, trivial⟩ rfl ?_
                refine TC_drawR ⟨_, fun i => ([[], [0], [1, 0], [2, 1, 0], [], [4], [], [6, 5, 4], [], [8], [9, 8, 7, 6, 5, 4], [], [11, 10, 9, 8, 7, 6, 5, 4], [12, 11, 10, 9, 8, 7, 6, 5, 4, 3, 2, 1, 0], [13, 12, 11, 10, 9, 8, 7, 6, 5, 4, 3, 2, 1, 0], [], [15], [16, 15], [17, 16, 15], [18, 17, 16, 15], [], [20], [], [22, 21, 20], [], [24, 23, 22, 21, 20], [], [26, 25, 24, 23, 22, 21, 20], [27, 26, 25, 24, 23, 22, 21, 20, 19, 18, 17, 16, 15], [28, 27, 26, 25, 24, 23, 22, 21, 20, 19, 18, 17, 16, 15], [29, 28, 27, 26, 25, 24, 23, 22, 21, 20, 19, 18, 17, 16, 15], [30, 29, 28, 27, 26, 25, 24, 23, 22, 21, 20, 19, 18, 17, 16, 15, 14, 13, 12, 11, 10, 9, 8, 7, 6, 5, 4, 3, 2, 1, 0], [31, 30, 29, 28, 27, 26, 25, 24, 23, 22, 21, 20, 19, 18, 17, 16, 15, 14, 13, 12, 11, 10, 9, 8, 7, 6, 5, 4, 3, 2, 1, 0]] : List (List Nat)).getD i [], fun i => ([[], [], [], [], [], [], [], [], [], [], [], [], [], [], [], [], [], [], [], [], [], [], [], [], [], [], [], [], [], [], [], [], []] : List (List Nat)).getD i [], fun i => ([[], [], [], [], [], [], [], [], [], [], [], [], [], [], [], [], [], [], [], [], [], [], [], [], [], [], [], [], [], [], [], [], []] : List (List Nat)).getD i []⟩ (fun i => ([[], [], [], [], [], [], [], [], [], [], [], [], [], [], [], [], [], [], [], [], [], [], [], [], [], [], [], [], [], [], [], [], []] : List (List Nat)).getD i []) (by kernel_rfl) (by kernel_rfl) ?_
                refine AJR_ev env 1 rfl (Nat.le_of_ble_eq_true rfl) rfl trivial ?_
                refine AJR_ev env 2 rfl (Nat.le_of_ble_eq_true rfl) rfl trivial ?_
                refine AJR_ev env 3 rfl (Nat.le_of_ble_eq_true rfl) rfl trivial ?_
                refine AJR_ev env 4 rfl (Nat.le_of_ble_eq_true rfl) rfl ⟨trivial, trivial⟩ ?_
                refine AJR_ev env 5 rfl (Nat.le_of_ble_eq_true rfl) rfl trivial ?_
                refine AJR_ev env 6 rfl (Nat.le_of_ble_eq_true rfl) rfl ⟨trivial, ⟨trivial, trivial⟩⟩ ?_
                refine AJR_ev env 7 rfl (Nat.le_of_ble_eq_true rfl) rfl trivial ?_
                refine AJR_ev env 8 rfl (Nat.le_of_ble_eq_true rfl) rfl ⟨trivial, ⟨trivial, trivial⟩⟩ ?_
                refine AJR_ev env 9 rfl (Nat.le_of_ble_eq_true rfl) rfl trivial ?_
                refine AJR_ev env 10 rfl (Nat.le_of_ble_eq_true rfl) rfl ⟨trivial, ⟨trivial, trivial⟩⟩ ?_
                refine AJR_ev env 11 rfl (Nat.le_of_ble_eq_true rfl) rfl ⟨trivial, ⟨trivial, trivial⟩⟩ ?_
                refine AJR_ev env 12 rfl (Nat.le_of_ble_eq_true rfl) rfl trivial ?_
                refine AJR_ev env 13 rfl (Nat.le_of_ble_eq_true rfl) rfl ⟨trivial, ⟨trivial, trivial⟩⟩ ?_
                obtain ⟨g, h2⟩ := gd_t h2
                refine AJR_ev env 14 rfl (Nat.le_of_ble_eq_true rfl) rfl ⟨trivial, ⟨trivial, ⟨g.1, g.2⟩⟩⟩ ?_
                obtain ⟨g, h2⟩ := gd_t h2
                refine AJR_ev env 15 rfl (Nat.le_of_ble_eq_true rfl) rfl ⟨trivial, g⟩ ?_
                refine AJR_ev env 16 rfl (Nat.le_of_ble_eq_true rfl) rfl trivial ?_
                refine AJR_ev env 17 rfl (Nat.le_of_ble_eq_true rfl) rfl trivial ?_
                refine AJR_ev env 18 rfl (Nat.le_of_ble_eq_true rfl) rfl trivial ?_
                refine AJR_ev env 19 rfl (Nat.le_of_ble_eq_true rfl) rfl trivial ?_
                refine AJR_ev env 20 rfl (Nat.le_of_ble_eq_true rfl) rfl ⟨trivial, trivial⟩ ?_
                refine AJR_ev env 21 rfl (Nat.le_of_ble_eq_true rfl) rfl trivial ?_
                refine AJR_ev env 22 rfl (Nat.le_of_ble_eq_true rfl) rfl ⟨trivial, ⟨trivial, trivial⟩⟩ ?_
                refine AJR_ev env 23 rfl (Nat.le_of_ble_eq_true rfl) rfl trivial ?_
                refine AJR_ev env 24 rfl (Nat.le_of_ble_eq_true rfl) rfl ⟨trivial, ⟨trivial, trivial⟩⟩ ?_
                refine AJR_ev env 25 rfl (Nat.le_of_ble_eq_true rfl) rfl trivial ?_
                refine AJR_ev env 26 rfl (Nat.le_of_ble_eq_true rfl) rfl ⟨trivial, ⟨trivial, trivial⟩⟩ ?_
                refine AJR_ev env 27 rfl (Nat.le_of_ble_eq_true rfl) rfl trivial ?_
                refine AJR_ev env 28 rfl (Nat.le_of_ble_eq_true rfl) rfl ⟨trivial, ⟨trivial, trivial⟩⟩ ?_
                obtain ⟨g, h2⟩ := gd_t h2
                refine AJR_ev env 29 rfl (Nat.le_of_ble_eq_true rfl) rfl ⟨trivial, ⟨trivial, ⟨g.1, g.2⟩⟩⟩ ?_
                refine AJR_ev env 30 rfl (Nat.le_of_ble_eq_true rfl) rfl ⟨trivial, trivial⟩ ?_
                refine AJR_ev env 31 rfl (Nat.le_of_ble_eq_true rfl) rfl trivial ?_
                refine AJR_ev env 32 rfl (Nat.le_of_ble_eq_true rfl) rfl ⟨trivial, ⟨trivial, trivial⟩⟩ ?_
                refine AJR_ev env 33 rfl (Nat.le_of_ble_eq_true rfl) rfl trivial ?_
                refine AJR_end rfl rfl rfl ?_
                refine TE_go ?_
                refine TC_reg ?_
                refine TL_ev env 6 rfl ⟨trivial, ⟨trivial, ⟨⟨trivial, ⟨trivial, trivial⟩⟩, ⟨trivial, ⟨⟨trivial, ⟨trivial, trivial⟩⟩, ⟨trivial, trivial⟩⟩⟩⟩⟩⟩ ?_
                refine TL_end ?_
                refine tbn ?_
                refine TE_go ?_
                refine TC_reg ?_
                refine TL_ev env 2 rfl ⟨⟨trivial, ⟨trivial, trivial⟩⟩, ⟨trivial, trivial⟩⟩ ?_
                refine TL_end ?_
                refine tsn ?_
                exact TE_nextr [(20102, 20102)] n (Nat.lt_succ_self n) (_, _) h2 ⟨rfl, rfl, rfl, rfl, rfl, rfl, rfl, rfl, trivial⟩ ⟨rfl, rfl, rfl, trivial⟩ rfl
              · replace h2 := bif_f h2 hb
                refine TC_exit ?_
                refine tsx ?_
                refine tsx ?_
                refine tbe ?_
                obtain rfl := sinj h2
                refine tsn ?_
                exact SP_ren [(19902, 20102)] _ rfl ⟨rfl, rfl, rfl, rfl, rfl, rfl, rfl, trivial⟩ ⟨rfl, rfl, rfl, trivial⟩ rfl
            · rintro x134 hz
              obtain rfl := hz.symm
              refine TE_go ?_
              refine TC_reg ?_
              refine TL_ev env 3 rfl ⟨trivial, ⟨trivial, ⟨trivial, trivial⟩⟩⟩ ?_
              obtain ⟨r135, hr, h1⟩ := bnd h1
              refine TL_callB [] (fix_Round.ok0 hr) fix_Round.fnb rfl ⟨trivial, ⟨trivial, ⟨trivial, trivial⟩⟩⟩ rfl trivial rfl ?_
              obtain ⟨r136, hr, h1⟩ := bnd h1
              refine TL_callB [] (fix_Sat16.ok0 hr) fix_Sat16.fnb rfl ⟨trivial, ⟨trivial, trivial⟩⟩ rfl trivial rfl ?_
              obtain ⟨g, h1⟩ := gd_t h1
              refine TL_ev env 2 rfl ⟨⟨trivial, ⟨trivial, ⟨g.1, g.2.1⟩⟩⟩, ⟨⟨trivial, ⟨trivial, g.2.2⟩⟩, trivial⟩⟩ ?_
              refine TL_end ?_
              refine tbn ?_
              refine TE_go ?_
              refine TC_reg ?_
              refine TL_ev env 2 rfl ⟨⟨trivial, ⟨trivial, trivial⟩⟩, ⟨trivial, trivial⟩⟩ ?_
              refine TL_end ?_
              refine tsn ?_
              exact TE_nextr [(18202, 19902)] n (Nat.lt_succ_self n) (_, _) h1 ⟨rfl, rfl, rfl, rfl, rfl, trivial⟩ ⟨rfl, rfl, rfl, trivial⟩ rfl
          · replace h1 := bif_f h1 hb
            refine TC_exit ?_
            refine tsx ?_
            refine tsx ?_
            refine tbe ?_
            obtain rfl := sinj h1
            refine tsn ?_
            exact SP_ren [(17202, 18202)] _ rfl ⟨rfl, trivial⟩ ⟨rfl, rfl, rfl, trivial⟩ rfl
        · rintro x89 hz
          obtain rfl := hz.symm
          refine TE_go ?_
          refine TC_seq ?_
          refine TC_reg ?_
          refine TL_ev env 3 rfl ⟨trivial, ⟨trivial, ⟨trivial, trivial⟩⟩⟩ ?_
          refine TL_end ?_
          refine TE_go ?_
          refine TC_ret ?_
          refine TE_frz 17202 rfl ?_
          obtain rfl := sinj h0
          exact TE_ret env rfl trivial ⟨.inr rfl, .inr rfl, trivial⟩
theorem poly_Joiner_Feed.ok0 {K : Nat} {p0 : Int} {p1 : List (Int)} {p2 : List (Int)} {p3 : List (Int)}  (h0 : poly_Joiner_Feed K p0 p1 p2 p3 = some (.inl ())) : Fn Try.prog 21 [.p 0 0, .nils] [(0, some (.cells [.int .i64 p0, .im (.slice (.int .i16)) p1, .im (.slice (.int .i16)) p2, .sl 1])), (1, some (.rows (.int .i64) p3))] (.tup [.nils, .int .i64 1]) [(0, some (.cells [.int .i64 p0, .im (.slice (.int .i16)) p1, .im (.slice (.int .i16)) p2, .sl 1])), (1, some (.rows (.int .i64) p3))] := poly_Joiner_Feed.ok h0
theorem poly_Joiner_Feed.ok1 {K : Nat} {p0 : Int} {p1 : List (Int)} {p2 : List (Int)} {p3 : List (Int)} {q0 : List (Int)} {q1 : List (Int)} (h0 : poly_Joiner_Feed K p0 p1 p2 p3 = some (.inr (q0, q1))) : Fn Try.prog 21 [.p 0 0, .nils] [(0, some (.cells [.int .i64 p0, .im (.slice (.int .i16)) p1, .im (.slice (.int .i16)) p2, .sl 1])), (1, some (.rows (.int .i64) p3))] (.tup [.im (.slice (.int .i16)) q0, .int .i64 0]) [(0, some (.cells [.int .i64 p0, .im (.slice (.int .i16)) p1, .im (.slice (.int .i16)) p2, .sl 1])), (1, some (.rows (.int .i64) q1))] := poly_Joiner_Feed.ok h0
theorem poly_Joiner_Feed.fnb : fnb Try.prog 21 = true := fnb_of Try.func21 rfl
def poly_Joiner_Feed_2.res (_p0 : List (Int)) (_p1 : Int) (_p2 : List (Int)) (_p3 : List (Int)) (_p4 : List (Int)) : (Unit) ⊕ ((List (Int)) × (List (Int))) → MV
  | .inl () => .tup [.nils, .int .i64 1]
  | .inr (q0, _) => .tup [.im (.slice (.int .i16)) q0, .int .i64 0]
def poly_Joiner_Feed_2.out (_p0 : List (Int)) (p1 : Int) (p2 : List (Int)) (p3 : List (Int)) (p4 : List (Int)) : (Unit) ⊕ ((List (Int)) × (List (Int))) → List (Nat × Option MObj)
  | .inl () => [(0, some (.cells [.int .i64 p1, .im (.slice (.int .i16)) p2, .im (.slice (.int .i16)) p3, .sl 1])), (1, some (.rows (.int .i64) p4))]
  | .inr (_, q1) => [(0, some (.cells [.int .i64 p1, .im (.slice (.int .i16)) p2, .im (.slice (.int .i16)) p3, .sl 1])), (1, some (.rows (.int .i64) q1))]
theorem poly_Joiner_Feed_2.ok {K : Nat} {p0 : List (Int)} {p1 : Int} {p2 : List (Int)} {p3 : List (Int)} {p4 : List (Int)} {r : (Unit) ⊕ ((List (Int)) × (List (Int)))} (h0 : poly_Joiner_Feed_2 K p0 p1 p2 p3 p4 = some r) : Fn Try.prog 21 [.p 0 0, .im (.slice (.int .i32)) p0] [(0, some (.cells [.int .i64 p1, .im (.slice (.int .i16)) p2, .im (.slice (.int .i16)) p3, .sl 1])), (1, some (.rows (.int .i64) p4))] (poly_Joiner_Feed_2.res p0 p1 p2 p3 p4 r) (poly_Joiner_Feed_2.out p0 p1 p2 p3 p4 r) := by
  refine Fn_of Try.func21 rfl (Nat.le_of_ble_eq_true rfl) fun Γ => ?_
  refine TC_seq ?_
  refine TC_reg ?_
  refine TL_ev env 2 rfl ⟨trivial, ⟨trivial, trivial⟩⟩ ?_
  refine TL_end ?_
  refine TE_go ?_
  refine TC_seq ?_
  refine TC_blk ?_
  refine TC_seq ?_
  refine TC_reg ?_
  refine TL_ev env 3 rfl ⟨trivial, ⟨⟨trivial, ⟨trivial, trivial⟩⟩, ⟨trivial, trivial⟩⟩⟩ ?_
  refine TL_end ?_
  refine TE_go ?_
  refine TC_cond rfl (fun hb => ?_) (fun hb => ?_)
  · first | exact (ftf hb).elim | exact (tff hb).elim | exact absurd hb (by decide)
  · refine TC_seq ?_
    refine TC_reg ?_
    refine TL_ev env 9 rfl ⟨trivial, ⟨⟨trivial, trivial⟩, ⟨trivial, ⟨trivial, ⟨trivial, ⟨trivial, ⟨⟨trivial, trivial⟩, ⟨⟨trivial, ⟨trivial, trivial⟩⟩, ⟨trivial, trivial⟩⟩⟩⟩⟩⟩⟩⟩⟩ ?_
    refine TL_end ?_
    refine TE_go ?_
    refine TC_cond rfl (fun hb => ?_) (fun hb => ?_)
    · replace h0 := bif_t h0 hb
      refine TC_seq ?_
      refine TC_reg ?_
      refine TL_ev env 2 rfl ⟨trivial, ⟨trivial, trivial⟩⟩ ?_
      refine TL_end ?_
      refine TE_go ?_
      refine TC_ret ?_
      refine tbr ?_
      refine tsr ?_
      obtain rfl := sinj h0
      exact TE_ret env rfl trivial ⟨.inr rfl, .inr rfl, trivial⟩
    · replace h0 := bif_f h0 hb
      refine TC_skip ?_
      refine tbn ?_
      refine TE_go ?_
      refine TC_seq ?_
      refine TC_reg ?_
      refine TL_ev env 6 rfl ⟨trivial, ⟨trivial, ⟨trivial, ⟨trivial, ⟨⟨trivial, trivial⟩, ⟨trivial, trivial⟩⟩⟩⟩⟩⟩ ?_
      refine TL_end ?_
      refine TE_go ?_
      refine TC_seq ?_
      refine TC_renw (A' := [(0, .p 0 0), (1, .im (.slice (.int .i32)) _), (6, .int .i64 _)]) (L' := [(0, some (.cells [.int .i64 _, .im (.slice (.int .i16)) _, .im (.slice (.int .i16)) _, .sl 1])), (1, some (.rows (.int .i64) _))]) [] ⟨rfl, rfl, rfl, trivial⟩ ⟨rfl, rfl, trivial⟩ rfl ?_
      refine TC_drawR ⟨_, fun i => ([[], [0], [1, 0], [2, 1, 0], [], [4], [5, 4, 3, 2, 1, 0], [], [7], [8, 7], [9, 8, 7], [10, 9, 8, 7, 6, 5, 4, 3, 2, 1, 0]] : List (List Nat)).getD i [], fun i => ([[], [], [], [], [], [], [], [], [], [], [], [1]] : List (List Nat)).getD i [], fun i => ([[], [], [], [], [], [], [], [], [], [], [], []] : List (List Nat)).getD i []⟩ (fun i => ([[], [], [], [], [], [], [], [], [], [], [], []] : List (List Nat)).getD i []) (by kernel_rfl) (by kernel_rfl) ?_
      refine AJR_ev env 1 rfl (Nat.le_of_ble_eq_true rfl) rfl trivial ?_
      refine AJR_ev env 2 rfl (Nat.le_of_ble_eq_true rfl) rfl trivial ?_
      refine AJR_ev env 3 rfl (Nat.le_of_ble_eq_true rfl) rfl trivial ?_
      refine AJR_ev env 4 rfl (Nat.le_of_ble_eq_true rfl) rfl ⟨trivial, trivial⟩ ?_
      refine AJR_ev env 5 rfl (Nat.le_of_ble_eq_true rfl) rfl trivial ?_
      refine AJR_ev env 6 rfl (Nat.le_of_ble_eq_true rfl) rfl ⟨trivial, ⟨trivial, trivial⟩⟩ ?_
      obtain ⟨g, h0⟩ := gd_t h0
      refine AJR_ev env 7 rfl (Nat.le_of_ble_eq_true rfl) rfl ⟨trivial, ⟨trivial, ⟨trivial, ⟨g.1, g.2⟩⟩⟩⟩ ?_
      refine AJR_ev env 8 rfl (Nat.le_of_ble_eq_true rfl) rfl trivial ?_
      refine AJR_ev env 9 rfl (Nat.le_of_ble_eq_true rfl) rfl trivial ?_
      refine AJR_ev env 10 rfl (Nat.le_of_ble_eq_true rfl) rfl trivial ?_
      refine AJR_ev env 11 rfl (Nat.le_of_ble_eq_true rfl) rfl ⟨trivial, trivial⟩ ?_
      obtain ⟨g, h0⟩ := gd_t h0
      refine AJR_ev env 12 rfl (Nat.le_of_ble_eq_true rfl) rfl ⟨⟨trivial, ⟨trivial, trivial⟩⟩, g⟩ ?_
      refine AJR_end rfl rfl rfl ?_
      refine TE_go ?_
      refine TC_seq ?_
      refine TC_seq ?_
      refine TC_reg ?_
      refine TL_ev env 3 rfl ⟨trivial, ⟨⟨trivial, ⟨trivial, trivial⟩⟩, ⟨trivial, trivial⟩⟩⟩ ?_
      refine TL_end ?_
      refine TE_go ?_
      obtain ⟨z1, h1, h0⟩ := bnd h0
      refine TC_cut (α := (List (Int))) (fun s => z1 = s) (fun s => [(0, .p 0 0), (6, .int .i64 p1)]) (fun s => [(0, some (.cells [.int .i64 p1, .im (.slice (.int .i16)) p2, .im (.slice (.int .i16)) p3, .sl 1])), (1, some (.rows (.int .i64) s))]) ?_ ?_
      · refine TC_blk ?_
        refine TC_loop (α := Int × (List (Int))) (fun n s => poly_Joiner_Feed_2.l2 K p0 p1 (kwrap .i64 (2 * p1)) p2 p3 n s.1 s.2 = some z1) (fun s => [(0, .p 0 0), (1, .im (.slice (.int .i32)) p0), (6, .int .i64 p1), (47, .int .i64 (kwrap .i64 (2 * p1))), (48, .int .i64 s.1)]) (fun s => [(0, some (.cells [.int .i64 p1, .im (.slice (.int .i16)) p2, .im (.slice (.int .i16)) p3, .sl 1])), (1, some (.rows (.int .i64) s.2))]) K ?_ ?_
        · exact SP_ren [] (_, _) h1 ⟨rfl, rfl, rfl, rfl, rfl, trivial⟩ ⟨rfl, rfl, trivial⟩ rfl
        rintro n ⟨x261, x262⟩ h1
        rcases n with _ | n
        · exact (nsome h1).elim
        replace h1 : poly_Joiner_Feed_2.r2 K p0 p1 (kwrap .i64 (2 * p1)) p2 p3 (poly_Joiner_Feed_2.l2 K p0 p1 (kwrap .i64 (2 * p1)) p2 p3 n) x261 x262 = some z1 := h1
        refine TC_seq ?_
        refine TC_reg ?_
        refine TL_ev env 1 rfl ⟨⟨trivial, ⟨trivial, trivial⟩⟩, trivial⟩ ?_
        refine TL_end ?_
        refine TE_go ?_
        refine TC_seq ?_
        refine TC_cond rfl (fun hb => ?_) (fun hb => ?_)
        · replace h1 := bif_t h1 hb
          refine TC_skip ?_
          refine TE_go ?_
          refine TC_seq ?_
          refine TC_blk ?_
          refine TC_seq ?_
          refine TC_reg ?_
          refine TL_ev env 2 rfl ⟨trivial, ⟨trivial, trivial⟩⟩ ?_
          refine TL_end ?_
          refine TE_go ?_
          refine TC_seq ?_
          refine TC_reg ?_
          refine TL_ev env 1 rfl ⟨trivial, trivial⟩ ?_
          refine TL_end ?_
          refine TE_go ?_
          refine TC_seq ?_
          refine TC_seq ?_
          refine TC_reg ?_
          refine TL_ev env 3 rfl ⟨trivial, ⟨⟨trivial, trivial⟩, ⟨trivial, trivial⟩⟩⟩ ?_
          refine TL_end ?_
          refine TE_go ?_
          obtain ⟨z2, h2, h1⟩ := bnd h1
          refine TC_cut (α := Int) (fun s => z2 = s) (fun s => [(0, .p 0 0), (1, .im (.slice (.int .i32)) p0), (6, .int .i64 p1), (7, .int .i64 x261), (8, .int .i64 s), (47, .int .i64 (kwrap .i64 (2 * p1))), (48, .int .i64 x261)]) (fun s => [(0, some (.cells [.int .i64 p1, .im (.slice (.int .i16)) p2, .im (.slice (.int .i16)) p3, .sl 1])), (1, some (.rows (.int .i64) x262))]) ?_ ?_
          · refine TC_blk ?_
            refine TC_loop (α := Int × Int) (fun n s => poly_Joiner_Feed_2.l3 K p0 p1 x261 (kwrap .i64 (2 * p1)) (p0.length : Int) p2 p3 x262 n s.1 s.2 = some z2) (fun s => [(0, .p 0 0), (1, .im (.slice (.int .i32)) p0), (6, .int .i64 p1), (7, .int .i64 x261), (8, .int .i64 s.1), (47, .int .i64 (kwrap .i64 (2 * p1))), (48, .int .i64 x261), (51, .im (.slice (.int .i32)) p0), (52, .int .i64 (p0.length : Int)), (53, .int .i64 s.2)]) (fun s => [(0, some (.cells [.int .i64 p1, .im (.slice (.int .i16)) p2, .im (.slice (.int .i16)) p3, .sl 1])), (1, some (.rows (.int .i64) x262))]) K ?_ ?_
            · exact SP_ren [] (_, _) h2 ⟨rfl, rfl, rfl, rfl, rfl, rfl, rfl, rfl, rfl, rfl, trivial⟩ ⟨rfl, rfl, trivial⟩ rfl
            rintro n ⟨x310, x311⟩ h2
            rcases n with _ | n
            · exact (nsome h2).elim
            replace h2 : poly_Joiner_Feed_2.r3 K p0 p1 x261 (kwrap .i64 (2 * p1)) (p0.length : Int) p2 p3 x262 (poly_Joiner_Feed_2.l3 K p0 p1 x261 (kwrap .i64 (2 * p1)) (p0.length : Int) p2 p3 x262 n) x310 x311 = some z2 := h2
            refine TC_seq ?_
            refine TC_reg ?_
            refine TL_ev env 1 rfl ⟨⟨trivial, ⟨trivial, trivial⟩⟩, trivial⟩ ?_
            refine TL_end ?_
            refine TE_go ?_
            refine TC_seq ?_
            refine TC_cond rfl (fun hb => ?_) (fun hb => ?_)
            · replace h2 := bif_t h2 hb
              refine TC_skip ?_
              refine TE_go ?_
              refine TC_seq ?_
              refine TC_blk ?_
              refine TC_seq ?_
              refine TC_reg ?_
              obtain ⟨g, h2⟩ := gd_t h2
              refine TL_ev env 5 rfl ⟨trivial, ⟨⟨trivial, ⟨trivial, ⟨g.1, g.2⟩⟩⟩, ⟨⟨trivial, trivial⟩, ⟨trivial, ⟨trivial, trivial⟩⟩⟩⟩⟩ ?_
              refine TL_end ?_
              refine TE_go ?_
              refine TC_reg ?_
              refine TL_ev env 13 rfl ⟨trivial, ⟨trivial, ⟨trivial, ⟨trivial, ⟨trivial, ⟨trivial, ⟨trivial, ⟨⟨trivial, ⟨trivial, trivial⟩⟩, ⟨⟨trivial, ⟨trivial, trivial⟩⟩, ⟨trivial, ⟨⟨trivial, ⟨trivial, trivial⟩⟩, ⟨trivial, ⟨⟨trivial, ⟨trivial, trivial⟩⟩, trivial⟩⟩⟩⟩⟩⟩⟩⟩⟩⟩⟩⟩⟩ ?_
              obtain ⟨r324, hr, h2⟩ := bnd h2
              refine TL_callB [(0, 0), (1, 1)] (poly_bands_wave.ok0 hr) poly_bands_wave.fnb rfl ⟨trivial, ⟨trivial, ⟨trivial, ⟨trivial, trivial⟩⟩⟩⟩ rfl ⟨.inr rfl, .inr rfl, trivial⟩ rfl ?_
              refine TL_ev env 3 rfl ⟨⟨trivial, ⟨trivial, trivial⟩⟩, ⟨⟨trivial, ⟨trivial, trivial⟩⟩, ⟨trivial, trivial⟩⟩⟩ ?_
              refine TL_end ?_
              refine tbn ?_
              refine TE_go ?_
              refine TC_reg ?_
              refine TL_ev env 2 rfl ⟨⟨trivial, ⟨trivial, trivial⟩⟩, ⟨trivial, trivial⟩⟩ ?_
              refine TL_end ?_
              refine tsn ?_
              exact TE_nextr [] n (Nat.lt_succ_self n) (_, _) h2 ⟨rfl, rfl, rfl, rfl, rfl, rfl, rfl, rfl, rfl, rfl, trivial⟩ ⟨rfl, rfl, trivial⟩ rfl
            · replace h2 := bif_f h2 hb
              refine TC_exit ?_
              refine tsx ?_
              refine tsx ?_
              refine tbe ?_
              obtain rfl := sinj h2
              refine tsn ?_
              exact SP_ren [] _ rfl ⟨rfl, rfl, rfl, rfl, rfl, rfl, rfl, trivial⟩ ⟨rfl, rfl, trivial⟩ rfl
          · rintro x304 hz
            obtain rfl := hz.symm
            refine TE_go ?_
            refine TC_renw (A' := [(0, .p 0 0), (1, .im (.slice (.int .i32)) _), (6, .int .i64 _), (7, .int .i64 _), (8, .int .i64 _), (47, .int .i64 _), (48, .int .i64 _)]) (L' := [(0, some (.cells [.int .i64 _, .im (.slice (.int .i16)) _, .im (.slice (.int .i16)) _, .sl 1])), (1, some (.rows (.int .i64) _))]) [] ⟨rfl, rfl, rfl, rfl, rfl, rfl, rfl, trivial⟩ ⟨rfl, rfl, trivial⟩ rfl ?_
            refine TC_drawR ⟨_, fun i => ([[], [0], [1, 0], [2, 1, 0], [], [], [5], [6, 5, 4, 3, 2, 1, 0], [7, 6, 5, 4, 3, 2, 1, 0]] : List (List Nat)).getD i [], fun i => ([[], [], [], [], [], [], [], [], [1]] : List (List Nat)).getD i [], fun i => ([[], [], [], [], [], [], [], [], []] : List (List Nat)).getD i []⟩ (fun i => ([[], [], [], [], [], [], [], [], []] : List (List Nat)).getD i []) (by kernel_rfl) (by kernel_rfl) ?_
            refine AJR_ev env 1 rfl (Nat.le_of_ble_eq_true rfl) rfl trivial ?_
            refine AJR_ev env 2 rfl (Nat.le_of_ble_eq_true rfl) rfl trivial ?_
            refine AJR_ev env 3 rfl (Nat.le_of_ble_eq_true rfl) rfl trivial ?_
            refine AJR_ev env 4 rfl (Nat.le_of_ble_eq_true rfl) rfl ⟨trivial, trivial⟩ ?_
            refine AJR_ev env 5 rfl (Nat.le_of_ble_eq_true rfl) rfl trivial ?_
            refine AJR_ev env 6 rfl (Nat.le_of_ble_eq_true rfl) rfl trivial ?_
            obtain ⟨r305, hr, h1⟩ := bnd h1
            refine AJR_call 7 rfl (Nat.le_of_ble_eq_true rfl) [] rfl (poly_rounded.ok0 hr) poly_rounded.fnb rfl ⟨trivial, ⟨trivial, ⟨trivial, trivial⟩⟩⟩ rfl trivial rfl ?_
            obtain ⟨g, h1⟩ := gd_t h1
            refine AJR_ev env 8 rfl (Nat.le_of_ble_eq_true rfl) rfl ⟨trivial, ⟨trivial, ⟨g.1, g.2⟩⟩⟩ ?_
            obtain ⟨g, h1⟩ := gd_t h1
            refine AJR_ev env 9 rfl (Nat.le_of_ble_eq_true rfl) rfl ⟨trivial, ⟨trivial, g⟩⟩ ?_
            refine AJR_end rfl rfl rfl ?_
            refine tbn ?_
            refine TE_go ?_
            refine TC_reg ?_
            refine TL_ev env 2 rfl ⟨⟨trivial, ⟨trivial, trivial⟩⟩, ⟨trivial, trivial⟩⟩ ?_
            refine TL_end ?_
            refine tsn ?_
            exact TE_nextr [] n (Nat.lt_succ_self n) (_, _) h1 ⟨rfl, rfl, rfl, rfl, rfl, trivial⟩ ⟨rfl, rfl, trivial⟩ rfl
        · replace h1 := bif_f h1 hb
          refine TC_exit ?_
          refine tsx ?_
          refine tsx ?_
          refine tbe ?_
          obtain rfl := sinj h1
          refine tsn ?_
          exact SP_ren [] _ rfl ⟨rfl, rfl, trivial⟩ ⟨rfl, rfl, trivial⟩ rfl
      · rintro x127 hz
        obtain rfl := hz.symm
        refine TE_go ?_
        refine TC_seq ?_
        refine TC_reg ?_
        obtain ⟨g, h0⟩ := gd_t h0
        refine TL_ev env 3 rfl ⟨trivial, ⟨⟨trivial, ⟨trivial, ⟨g.1, ⟨g.2.1, g.2.2⟩⟩⟩⟩, ⟨trivial, trivial⟩⟩⟩ ?_
        refine TL_end ?_
        refine TE_go ?_
        refine TC_seq ?_
        refine TC_seq ?_
        refine TC_reg ?_
        refine TL_ev env 3 rfl ⟨trivial, ⟨⟨trivial, trivial⟩, ⟨trivial, trivial⟩⟩⟩ ?_
        refine TL_end ?_
        refine TE_go ?_
        obtain ⟨z1, h1, h0⟩ := bnd h0
        refine TC_cut (α := (List (Int))) (fun s => z1 = s) (fun s => [(11, .sl 18002)]) (fun s => [(0, some (.cells [.int .i64 p1, .im (.slice (.int .i16)) p2, .im (.slice (.int .i16)) p3, .sl 1])), (1, some (.rows (.int .i64) x127)), (18002, some (.rows (.int .i16) s))]) ?_ ?_
        · refine TC_blk ?_
          refine TC_loop (α := Int × (List (Int))) (fun n s => poly_Joiner_Feed_2.l0 K p1 ((List.replicate (Int.toNat p1) (0 : Int)).length : Int) p2 p3 x127 n s.1 s.2 = some z1) (fun s => [(0, .p 0 0), (6, .int .i64 p1), (11, .sl 19002), (87, .int .i64 ((List.replicate (Int.toNat p1) (0 : Int)).length : Int)), (88, .int .i64 s.1)]) (fun s => [(0, some (.cells [.int .i64 p1, .im (.slice (.int .i16)) p2, .im (.slice (.int .i16)) p3, .sl 1])), (1, some (.rows (.int .i64) x127)), (19002, some (.rows (.int .i16) s.2))]) K ?_ ?_
          · exact SP_ren [(19002, 1085)] (_, _) h1 ⟨rfl, rfl, rfl, rfl, rfl, trivial⟩ ⟨rfl, rfl, rfl, trivial⟩ rfl
          rintro n ⟨x177, x178⟩ h1
          rcases n with _ | n
          · exact (nsome h1).elim
          replace h1 : poly_Joiner_Feed_2.r0 K p1 ((List.replicate (Int.toNat p1) (0 : Int)).length : Int) p2 p3 x127 (poly_Joiner_Feed_2.l0 K p1 ((List.replicate (Int.toNat p1) (0 : Int)).length : Int) p2 p3 x127 n) x177 x178 = some z1 := h1
          refine TC_seq ?_
          refine TC_reg ?_
          refine TL_ev env 1 rfl ⟨⟨trivial, ⟨trivial, trivial⟩⟩, trivial⟩ ?_
          refine TL_end ?_
          refine TE_go ?_
          refine TC_seq ?_
          refine TC_cond rfl (fun hb => ?_) (fun hb => ?_)
          · replace h1 := bif_t h1 hb
            refine TC_skip ?_
            refine TE_go ?_
            refine TC_seq ?_
            refine TC_blk ?_
            refine TC_seq ?_
            refine TC_reg ?_
            refine TL_ev env 2 rfl ⟨trivial, ⟨trivial, trivial⟩⟩ ?_
            refine TL_end ?_
            refine TE_go ?_
            refine TC_seq ?_
            refine TC_reg ?_
            refine TL_ev env 1 rfl ⟨trivial, trivial⟩ ?_
            refine TL_end ?_
            refine TE_go ?_
            refine TC_seq ?_
            refine TC_seq ?_
            refine TC_reg ?_
            refine TL_ev env 1 rfl ⟨trivial, trivial⟩ ?_
            refine TL_end ?_
            refine TE_go ?_
            obtain ⟨z2, h2, h1⟩ := bnd h1
            refine TC_cut (α := Int) (fun s => z2 = s) (fun s => [(0, .p 0 0), (6, .int .i64 p1), (11, .sl 20702), (12, .int .i64 x177), (13, .int .i64 s), (87, .int .i64 ((List.replicate (Int.toNat p1) (0 : Int)).length : Int)), (88, .int .i64 x177)]) (fun s => [(0, some (.cells [.int .i64 p1, .im (.slice (.int .i16)) p2, .im (.slice (.int .i16)) p3, .sl 1])), (1, some (.rows (.int .i64) x127)), (20702, some (.rows (.int .i16) x178))]) ?_ ?_
            · refine TC_blk ?_
              refine TC_loop (α := Int × Int) (fun n s => poly_Joiner_Feed_2.l1 K p1 x177 ((List.replicate (Int.toNat p1) (0 : Int)).length : Int) p2 p3 x127 x178 n s.1 s.2 = some z2) (fun s => [(0, .p 0 0), (6, .int .i64 p1), (11, .sl 20902), (12, .int .i64 x177), (13, .int .i64 s.1), (87, .int .i64 ((List.replicate (Int.toNat p1) (0 : Int)).length : Int)), (88, .int .i64 x177), (91, .int .i64 s.2)]) (fun s => [(0, some (.cells [.int .i64 p1, .im (.slice (.int .i16)) p2, .im (.slice (.int .i16)) p3, .sl 1])), (1, some (.rows (.int .i64) x127)), (20902, some (.rows (.int .i16) x178))]) K ?_ ?_
              · exact SP_ren [(20902, 19002)] (_, _) h2 ⟨rfl, rfl, rfl, rfl, rfl, rfl, rfl, rfl, trivial⟩ ⟨rfl, rfl, rfl, trivial⟩ rfl
              rintro n ⟨x212, x213⟩ h2
              rcases n with _ | n
              · exact (nsome h2).elim
              replace h2 : poly_Joiner_Feed_2.r1 K p1 x177 ((List.replicate (Int.toNat p1) (0 : Int)).length : Int) p2 p3 x127 x178 (poly_Joiner_Feed_2.l1 K p1 x177 ((List.replicate (Int.toNat p1) (0 : Int)).length : Int) p2 p3 x127 x178 n) x212 x213 = some z2 := h2
              refine TC_seq ?_
              refine TC_reg ?_
              refine TL_ev env 1 rfl ⟨⟨trivial, ⟨trivial, trivial⟩⟩, trivial⟩ ?_
              refine TL_end ?_
              refine TE_go ?_
              refine TC_seq ?_
              refine TC_cond rfl (fun hb => ?_) (fun hb => ?_)
              · replace h2 := bif_t h2 hb
                refine TC_skip ?_
                refine TE_go ?_
                refine TC_seq ?_
                refine TC_blk ?_
                refine TC_seq ?_
                refine TC_reg ?_
                refine TL_ev env 2 rfl ⟨trivial, ⟨trivial, trivial⟩⟩ ?_
                refine TL_end ?_
                refine TE_go ?_
                refine TC_seq ?_
                refine TC_renw (A' := [(0, .p 0 0), (6, .int .i64 _), (11, .sl 20902), (12, .int .i64 _), (13, .int .i64 _), (14, .int .i64 _), (87, .int .i64 _), (88, .int .i64 _), (91, .int .i64 _)]) (L' := [(0, some (.cells [.int .i64 _, .im (.slice (.int .i16)) _, .im (.slice (.int .i16)) _, .sl 1])), (1, some (.rows (.int .i64) _)), (20902, some (.rows (.int .i16) _))]) [] ⟨rfl, rfl, rfl, rfl, rfl, rfl, rfl, rfl, rfl, trivial⟩ ⟨rfl, rfl, rfl, trivial⟩ rfl ?_
                refine TC_drawR ⟨_, fun i => ([[], [0], [1, 0], [2, 1, 0], [], [4], [], [6, 5, 4], [], [8, 7, 6, 5, 4], [9, 8, 7, 6, 5, 4, 3, 2, 1, 0], [10, 9, 8, 7, 6, 5, 4, 3, 2, 1, 0], [], [12], [13, 12], [14, 13, 12], [15, 14, 13, 12], [], [17], [], [19, 18, 17], [], [21, 20, 19, 18, 17], [22, 21, 20, 19, 18, 17, 16, 15, 14, 13, 12], [23, 22, 21, 20, 19, 18, 17, 16, 15, 14, 13, 12], [24, 23, 22, 21, 20, 19, 18, 17, 16, 15, 14, 13, 12], [25, 24, 23, 22, 21, 20, 19, 18, 17, 16, 15, 14, 13, 12, 11, 10, 9, 8, 7, 6, 5, 4, 3, 2, 1, 0], [26, 25, 24, 23, 22, 21, 20, 19, 18, 17, 16, 15, 14, 13, 12, 11, 10, 9, 8, 7, 6, 5, 4, 3, 2, 1, 0]] : List (List Nat)).getD i [], fun i => ([[], [], [], [], [], [], [], [], [], [], [], [], [], [], [], [], [], [], [], [], [], [], [], [], [], [], [], []] : List (List Nat)).getD i [], fun i => ([[], [], [], [], [], [], [], [], [], [], [], [], [], [], [], [], [], [], [], [], [], [], [], [], [], [], [], []] : List (List Nat)).getD i []⟩ (fun i => ([[], [], [], [], [], [], [], [], [], [], [], [], [], [], [], [], [], [], [], [], [], [], [], [], [], [], [], []] : List (List Nat)).getD i []) (by kernel_rfl) (by kernel_rfl) ?_
                refine AJR_ev env 1 rfl (Nat.le_of_ble_eq_true rfl) rfl trivial ?_
                refine AJR_ev env 2 rfl (Nat.le_of_ble_eq_true rfl) rfl trivial ?_
                refine AJR_ev env 3 rfl (Nat.le_of_ble_eq_true rfl) rfl trivial ?_
                refine AJR_ev env 4 rfl (Nat.le_of_ble_eq_true rfl) rfl ⟨trivial, trivial⟩ ?_
                refine AJR_ev env 5 rfl (Nat.le_of_ble_eq_true rfl) rfl trivial ?_
                refine AJR_ev env 6 rfl (Nat.le_of_ble_eq_true rfl) rfl ⟨trivial, ⟨trivial, trivial⟩⟩ ?_
                refine AJR_ev env 7 rfl (Nat.le_of_ble_eq_true rfl) rfl trivial ?_
                refine AJR_ev env 8 rfl (Nat.le_of_ble_eq_true rfl) rfl ⟨trivial, ⟨trivial, trivial⟩⟩ ?_
                refine AJR_ev env 9 rfl (Nat.le_of_ble_eq_true rfl) rfl trivial ?_
                refine AJR_ev env 10 rfl (Nat.le_of_ble_eq_true rfl) rfl ⟨trivial, ⟨trivial, trivial⟩⟩ ?_
                obtain ⟨g, h2⟩ := gd_t h2
                refine AJR_ev env 11 rfl (Nat.le_of_ble_eq_true rfl) rfl ⟨trivial, ⟨trivial, ⟨g.1, g.2⟩⟩⟩ ?_
                obtain ⟨g, h2⟩ := gd_t h2
                refine AJR_ev env 12 rfl (Nat.le_of_ble_eq_true rfl) rfl ⟨trivial, g⟩ ?_
                refine AJR_ev env 13 rfl (Nat.le_of_ble_eq_true rfl) rfl trivial ?_
                refine AJR_ev env 14 rfl (Nat.le_of_ble_eq_true rfl) rfl trivial ?_
                refine AJR_ev env 15 rfl (Nat.le_of_ble_eq_true rfl) rfl trivial ?_
                refine AJR_ev env 16 rfl (Nat.le_of_ble_eq_true rfl) rfl trivial ?_
                refine AJR_ev env 17 rfl (Nat.le_of_ble_eq_true rfl) rfl ⟨trivial, trivial⟩ ?_
                refine AJR_ev env 18 rfl (Nat.le_of_ble_eq_true rfl) rfl trivial ?_
                refine AJR_ev env 19 rfl (Nat.le_of_ble_eq_true rfl) rfl ⟨trivial, ⟨trivial, trivial⟩⟩ ?_
                refine AJR_ev env 20 rfl (Nat.le_of_ble_eq_true rfl) rfl trivial ?_
                refine AJR_ev env 21 rfl (Nat.le_of_ble_eq_true rfl) rfl ⟨trivial, ⟨trivial, trivial⟩⟩ ?_
                refine AJR_ev env 22 rfl (Nat.le_of_ble_eq_true rfl) rfl trivial ?_
                refine AJR_ev env 23 rfl (Nat.le_of_ble_eq_true rfl) rfl ⟨trivial, ⟨trivial, trivial⟩⟩ ?_
                obtain ⟨g, h2⟩ := gd_t h2
                refine AJR_ev env 24 rfl (Nat.le_of_ble_eq_true rfl) rfl ⟨trivial, ⟨trivial, ⟨g.1, g.2⟩⟩⟩ ?_
                refine AJR_ev env 25 rfl (Nat.le_of_ble_eq_true rfl) rfl ⟨trivial, trivial⟩ ?_
                refine AJR_ev env 26 rfl (Nat.le_of_ble_eq_true rfl) rfl trivial ?_
                refine AJR_ev env 27 rfl (Nat.le_of_ble_eq_true rfl) rfl ⟨trivial, ⟨trivial, trivial⟩⟩ ?_
                refine AJR_ev env 28 rfl (Nat.le_of_ble_eq_true rfl) rfl trivial ?_
                refine AJR_end rfl rfl rfl ?_
                refine TE_go ?_
                refine TC_seq ?_
                refine TC_renw (A' := [(0, .p 0 0), (6, .int .i64 _), (11, .sl 20902), (12, .int .i64 _), (13, .int .i64 _), (14, .int .i64 _), (15, .int .i64 _), (87, .int .i64 _), (88, .int .i64 _), (91, .int .i64 _)]) (L' := [(0, some (.cells [.int .i64 _, .im (.slice (.int .i16)) _, .im (.slice (.int .i16)) _, .sl 1])), (1, some (.rows (.int .i64) _)), (20902, some (.rows (.int .i16) _))]) [] ⟨rfl, rfl, rfl, rfl, rfl, rfl, rfl, rfl, rfl, rfl, trivial⟩ ⟨rfl, rfl, rfl, trivial⟩ rfl ?_
                refine TC_drawR ⟨_, fun i => ([[], [0], [1, 0], [2, 1, 0], [], [4], [], [6, 5, 4], [], [8], [9, 8, 7, 6, 5, 4], [], [11, 10, 9, 8, 7, 6, 5, 4], [12, 11, 10, 9, 8, 7, 6, 5, 4, 3, 2, 1, 0], [13, 12, 11, 10, 9, 8, 7, 6, 5, 4, 3, 2, 1, 0], [], [15], [16, 15], [17, 16, 15], [18, 17, 16, 15], [], [20], [], [22, 21, 20], [], [24, 23, 22, 21, 20], [], [26, 25, 24, 23, 22, 21, 20], [27, 26, 25, 24, 23, 22, 21, 20, 19, 18, 17, 16, 15], [28, 27, 26, 25, 24, 23, 22, 21, 20, 19, 18, 17, 16, 15], [29, 28, 27, 26, 25, 24, 23, 22, 21, 20, 19, 18, 17, 16, 15], [30, 29, 28, 27, 26, 25, 24, 23, 22, 21, 20, 19, 18, 17, 16, 15, 14, 13, 12, 11, 10, 9, 8, 7, 6, 5, 4, 3, 2, 1, 0], [31, 30, 29, 28, 27, 26, 25, 24, 23, 22, 21, 20, 19, 18, 17, 16, 15, 14, 13, 12, 11, 10, 9, 8, 7, 6, 5, 4, 3, 2, 1, 0]] : List (List Nat)).getD i [], fun i => ([[], [], [], [], [], [], [], [], [], [], [], [], [], [], [], [], [], [], [], [], [], [], [], [], [], [], [], [], [], [], [], [], []] : List (List Nat)).getD i [], fun i => ([[], [], [], [], [], [], [], [], [], [], [], [], [], [], [], [], [], [], [], [], [], [], [], [], [], [], [], [], [], [], [], [], []] : List (List Nat)).getD i []⟩ (fun i => ([[], [], [], [], [], [], [], [], [], [], [], [], [], [], [], [], [], [], [], [], [], [], [], [], [], [], [], [], [], [], [], [], []] : List (List Nat)).getD i []) (by kernel_rfl) (by kernel_rfl) ?_
                refine AJR_ev env 1 rfl (Nat.le_of_ble_eq_true rfl) rfl trivial ?_
                refine AJR_ev env 2 rfl (Nat.le_of_ble_eq_true rfl) rfl trivial ?_
                refine AJR_ev env 3 rfl (Nat.le_of_ble_eq_true rfl) rfl trivial ?_
                refine AJR_ev env 4 rfl (Nat.le_of_ble_eq_true rfl) rfl ⟨trivial, trivial⟩ ?_
                refine AJR_ev env 5 rfl (Nat.le_of_ble_eq_true rfl) rfl trivial ?_
                refine AJR_ev env 6 rfl (Nat.le_of_ble_eq_true rfl) rfl ⟨trivial, ⟨trivial, trivial⟩⟩ ?_
                refine AJR_ev env 7 rfl (Nat.le_of_ble_eq_true rfl) rfl trivial ?_
                refine AJR_ev env 8 rfl (Nat.le_of_ble_eq_true rfl) rfl ⟨trivial, ⟨trivial, trivial⟩⟩ ?_
                refine AJR_ev env 9 rfl (Nat.le_of_ble_eq_true rfl) rfl trivial ?_
                refine AJR_ev env 10 rfl (Nat.le_of_ble_eq_true rfl) rfl ⟨trivial, ⟨trivial, trivial⟩⟩ ?_
                refine AJR_ev env 11 rfl (Nat.le_of_ble_eq_true rfl) rfl ⟨trivial, ⟨trivial, trivial⟩⟩ ?_
                refine AJR_ev env 12 rfl (Nat.le_of_ble_eq_true rfl) rfl trivial ?_
                refine AJR_ev env 13 rfl (Nat.le_of_ble_eq_true rfl) rfl ⟨trivial, ⟨trivial, trivial⟩⟩ ?_
                obtain ⟨g, h2⟩ := gd_t h2
                refine AJR_ev env 14 rfl (Nat.le_of_ble_eq_true rfl) rfl ⟨trivial, ⟨trivial, ⟨g.1, g.2⟩⟩⟩ ?_
                obtain ⟨g, h2⟩ := gd_t h2
                refine AJR_ev env 15 rfl (Nat.le_of_ble_eq_true rfl) rfl ⟨trivial, g⟩ ?_
                refine AJR_ev env 16 rfl (Nat.le_of_ble_eq_true rfl) rfl trivial ?_
                refine AJR_ev env 17 rfl (Nat.le_of_ble_eq_true rfl) rfl trivial ?_
                refine AJR_ev env 18 rfl (Nat.le_of_ble_eq_true rfl) rfl trivial ?_
                refine AJR_ev env 19 rfl (Nat.le_of_ble_eq_true rfl) rfl trivial ?_
                refine AJR_ev env 20 rfl (Nat.le_of_ble_eq_true rfl) rfl ⟨trivial, trivial⟩ ?_
                refine AJR_ev env 21 rfl (Nat.le_of_ble_eq_true rfl) rfl trivial ?_
                refine AJR_ev env 22 rfl (Nat.le_of_ble_eq_true rfl) rfl ⟨trivial, ⟨trivial, trivial⟩⟩ ?_
                refine AJR_ev env 23 rfl (Nat.le_of_ble_eq_true rfl) rfl trivial ?_
                refine AJR_ev env 24 rfl (Nat.le_of_ble_eq_true rfl) rfl ⟨trivial, ⟨trivial, trivial⟩⟩ ?_
                refine AJR_ev env 25 rfl (Nat.le_of_ble_eq_true rfl) rfl trivial ?_
                refine AJR_ev env 26 rfl (Nat.le_of_ble_eq_true rfl) rfl ⟨trivial, ⟨trivial, trivial⟩⟩ ?_
                refine AJR_ev env 27 rfl (Nat.le_of_ble_eq_true rfl) rfl trivial ?_
                refine AJR_ev env 28 rfl (Nat.le_of_ble_eq_true rfl) rfl ⟨trivial, ⟨trivial, trivial⟩⟩ ?_
                obtain ⟨g, h2⟩ := gd_t h2
                refine AJR_ev env 29 rfl (Nat.le_of_ble_eq_true rfl) rfl ⟨trivial, ⟨trivial, ⟨g.1, g.2⟩⟩⟩ ?_
                refine AJR_ev env 30 rfl (Nat.le_of_ble_eq_true rfl) rfl ⟨trivial, trivial⟩ ?_
                refine AJR_ev env 31 rfl (Nat.le_of_ble_eq_true rfl) rfl trivial ?_
                refine AJR_ev env 32 rfl (Nat.le_of_ble_eq_true rfl) rfl ⟨trivial, ⟨trivial, trivial⟩⟩ ?_
                refine AJR_ev env 33 rfl (Nat.le_of_ble_eq_true rfl) rfl trivial ?_
                refine AJR_end rfl rfl rfl ?_
                refine TE_go ?_
                refine TC_reg ?_
                refine TL_ev env 6 rfl ⟨trivial, ⟨trivial, ⟨⟨trivial, ⟨trivial, trivial⟩⟩, ⟨trivial, ⟨⟨trivial, ⟨trivial, trivial⟩⟩, ⟨trivial, trivial⟩⟩⟩⟩⟩⟩ ?_
                refine TL_end ?_
                refine tbn ?_
                refine TE_go ?_
                refine TC_reg ?_
                refine TL_ev env 2 rfl ⟨⟨trivial, ⟨trivial, trivial⟩⟩, ⟨trivial, trivial⟩⟩ ?_
                refine TL_end ?_
                refine tsn ?_
                exact TE_nextr [(20902, 20902)] n (Nat.lt_succ_self n) (_, _) h2 ⟨rfl, rfl, rfl, rfl, rfl, rfl, rfl, rfl, trivial⟩ ⟨rfl, rfl, rfl, trivial⟩ rfl
              · replace h2 := bif_f h2 hb
                refine TC_exit ?_
                refine tsx ?_
                refine tsx ?_
                refine tbe ?_
                obtain rfl := sinj h2
                refine tsn ?_
                exact SP_ren [(20702, 20902)] _ rfl ⟨rfl, rfl, rfl, rfl, rfl, rfl, rfl, trivial⟩ ⟨rfl, rfl, rfl, trivial⟩ rfl
            · rintro x207 hz
              obtain rfl := hz.symm
              refine TE_go ?_
              refine TC_reg ?_
              refine TL_ev env 3 rfl ⟨trivial, ⟨trivial, ⟨trivial, trivial⟩⟩⟩ ?_
              obtain ⟨r208, hr, h1⟩ := bnd h1
              refine TL_callB [] (fix_Round.ok0 hr) fix_Round.fnb rfl ⟨trivial, ⟨trivial, ⟨trivial, trivial⟩⟩⟩ rfl trivial rfl ?_
              obtain ⟨r209, hr, h1⟩ := bnd h1
              refine TL_callB [] (fix_Sat16.ok0 hr) fix_Sat16.fnb rfl ⟨trivial, ⟨trivial, trivial⟩⟩ rfl trivial rfl ?_
              obtain ⟨g, h1⟩ := gd_t h1
              refine TL_ev env 2 rfl ⟨⟨trivial, ⟨trivial, ⟨g.1, g.2.1⟩⟩⟩, ⟨⟨trivial, ⟨trivial, g.2.2⟩⟩, trivial⟩⟩ ?_
              refine TL_end ?_
              refine tbn ?_
              refine TE_go ?_
              refine TC_reg ?_
              refine TL_ev env 2 rfl ⟨⟨trivial, ⟨trivial, trivial⟩⟩, ⟨trivial, trivial⟩⟩ ?_
              refine TL_end ?_
              refine tsn ?_
              exact TE_nextr [(19002, 20702)] n (Nat.lt_succ_self n) (_, _) h1 ⟨rfl, rfl, rfl, rfl, rfl, trivial⟩ ⟨rfl, rfl, rfl, trivial⟩ rfl
          · replace h1 := bif_f h1 hb
            refine TC_exit ?_
            refine tsx ?_
            refine tsx ?_
            refine tbe ?_
            obtain rfl := sinj h1
            refine tsn ?_
            exact SP_ren [(18002, 19002)] _ rfl ⟨rfl, trivial⟩ ⟨rfl, rfl, rfl, trivial⟩ rfl
        · rintro x162 hz
          obtain rfl := hz.symm
          refine TE_go ?_
          refine TC_seq ?_
          refine TC_reg ?_
          refine TL_ev env 3 rfl ⟨trivial, ⟨trivial, ⟨trivial, trivial⟩⟩⟩ ?_
          refine TL_end ?_
          refine TE_go ?_
          refine TC_ret ?_
          refine TE_frz 18002 rfl ?_
          obtain rfl := sinj h0
          exact TE_ret env rfl trivial ⟨.inr rfl, .inr rfl, trivial⟩
theorem poly_Joiner_Feed_2.ok0 {K : Nat} {p0 : List (Int)} {p1 : Int} {p2 : List (Int)} {p3 : List (Int)} {p4 : List (Int)}  (h0 : poly_Joiner_Feed_2 K p0 p1 p2 p3 p4 = some (.inl ())) : Fn Try.prog 21 [.p 0 0, .im (.slice (.int .i32)) p0] [(0, some (.cells [.int .i64 p1, .im (.slice (.int .i16)) p2, .im (.slice (.int .i16)) p3, .sl 1])), (1, some (.rows (.int .i64) p4))] (.tup [.nils, .int .i64 1]) [(0, some (.cells [.int .i64 p1, .im (.slice (.int .i16)) p2, .im (.slice (.int .i16)) p3, .sl 1])), (1, some (.rows (.int .i64) p4))] := poly_Joiner_Feed_2.ok h0
theorem poly_Joiner_Feed_2.ok1 {K : Nat} {p0 : List (Int)} {p1 : Int} {p2 : List (Int)} {p3 : List (Int)} {p4 : List (Int)} {q0 : List (Int)} {q1 : List (Int)} (h0 : poly_Joiner_Feed_2 K p0 p1 p2 p3 p4 = some (.inr (q0, q1))) : Fn Try.prog 21 [.p 0 0, .im (.slice (.int .i32)) p0] [(0, some (.cells [.int .i64 p1, .im (.slice (.int .i16)) p2, .im (.slice (.int .i16)) p3, .sl 1])), (1, some (.rows (.int .i64) p4))] (.tup [.im (.slice (.int .i16)) q0, .int .i64 0]) [(0, some (.cells [.int .i64 p1, .im (.slice (.int .i16)) p2, .im (.slice (.int .i16)) p3, .sl 1])), (1, some (.rows (.int .i64) q1))] := poly_Joiner_Feed_2.ok h0
theorem poly_Joiner_Feed_2.fnb : fnb Try.prog 21 = true := fnb_of Try.func21 rfl
def poly_Splitter_Reset.res (_p0 : Int) (_p1 : List (Int)) (_p2 : List (Int)) (_p3 : List (Int)) : (List (Int)) → MV
  | _ => .tup []
def poly_Splitter_Reset.out (p0 : Int) (p1 : List (Int)) (p2 : List (Int)) (_p3 : List (Int)) : (List (Int)) → List (Nat × Option MObj)
  | q0 => [(0, some (.cells [.int .i64 p0, .im (.slice (.int .i16)) p1, .im (.slice (.int .i16)) p2, .sl 1])), (1, some (.rows (.int .i64) q0))]
theorem poly_Splitter_Reset.ok {K : Nat} {p0 : Int} {p1 : List (Int)} {p2 : List (Int)} {p3 : List (Int)} {r : (List (Int))} (h0 : poly_Splitter_Reset K p0 p1 p2 p3 = some r) : Fn Try.prog 24 [.p 0 0] [(0, some (.cells [.int .i64 p0, .im (.slice (.int .i16)) p1, .im (.slice (.int .i16)) p2, .sl 1])), (1, some (.rows (.int .i64) p3))] (poly_Splitter_Reset.res p0 p1 p2 p3 r) (poly_Splitter_Reset.out p0 p1 p2 p3 r) := by
  refine Fn_of Try.func24 rfl (Nat.le_of_ble_eq_true rfl) fun Γ => ?_
  refine TC_seq ?_
  refine TC_reg ?_
  refine TL_ev env 2 rfl ⟨trivial, ⟨⟨trivial, ⟨trivial, trivial⟩⟩, trivial⟩⟩ ?_
  refine TL_end ?_
  refine TE_go ?_
  refine TC_cond rfl (fun hb => ?_) (fun hb => ?_)
  · refine TC_reg ?_
    refine TL_ev env 5 rfl ⟨trivial, ⟨trivial, ⟨trivial, ⟨⟨trivial, trivial⟩, ⟨⟨trivial, trivial⟩, trivial⟩⟩⟩⟩⟩ ?_
    refine TL_end ?_
    obtain rfl := sinj h0
    exact TE_end env rfl trivial ⟨.inr rfl, .inr rfl, trivial⟩
  · first | exact (ftf hb).elim | exact (tff hb).elim | exact absurd hb (by decide)
theorem poly_Splitter_Reset.ok0 {K : Nat} {p0 : Int} {p1 : List (Int)} {p2 : List (Int)} {p3 : List (Int)} {q0 : List (Int)} (h0 : poly_Splitter_Reset K p0 p1 p2 p3 = some q0) : Fn Try.prog 24 [.p 0 0] [(0, some (.cells [.int .i64 p0, .im (.slice (.int .i16)) p1, .im (.slice (.int .i16)) p2, .sl 1])), (1, some (.rows (.int .i64) p3))] (.tup []) [(0, some (.cells [.int .i64 p0, .im (.slice (.int .i16)) p1, .im (.slice (.int .i16)) p2, .sl 1])), (1, some (.rows (.int .i64) q0))] := poly_Splitter_Reset.ok h0
theorem poly_Splitter_Reset.fnb : fnb Try.prog 24 = true := fnb_of Try.func24 rfl
def poly_Joiner_Reset.res (_p0 : Int) (_p1 : List (Int)) (_p2 : List (Int)) (_p3 : List (Int)) : (List (Int)) → MV
  | _ => .tup []
def poly_Joiner_Reset.out (p0 : Int) (p1 : List (Int)) (p2 : List (Int)) (_p3 : List (Int)) : (List (Int)) → List (Nat × Option MObj)
  | q0 => [(0, some (.cells [.int .i64 p0, .im (.slice (.int .i16)) p1, .im (.slice (.int .i16)) p2, .sl 1])), (1, some (.rows (.int .i64) q0))]
theorem poly_Joiner_Reset.ok {K : Nat} {p0 : Int} {p1 : List (Int)} {p2 : List (Int)} {p3 : List (Int)} {r : (List (Int))} (h0 : poly_Joiner_Reset K p0 p1 p2 p3 = some r) : Fn Try.prog 25 [.p 0 0] [(0, some (.cells [.int .i64 p0, .im (.slice (.int .i16)) p1, .im (.slice (.int .i16)) p2, .sl 1])), (1, some (.rows (.int .i64) p3))] (poly_Joiner_Reset.res p0 p1 p2 p3 r) (poly_Joiner_Reset.out p0 p1 p2 p3 r) := by
  refine Fn_of Try.func25 rfl (Nat.le_of_ble_eq_true rfl) fun Γ => ?_
  refine TC_seq ?_
  refine TC_reg ?_
  refine TL_ev env 2 rfl ⟨trivial, ⟨⟨trivial, ⟨trivial, trivial⟩⟩, trivial⟩⟩ ?_
  refine TL_end ?_
  refine TE_go ?_
  refine TC_cond rfl (fun hb => ?_) (fun hb => ?_)
  · refine TC_reg ?_
    refine TL_ev env 5 rfl ⟨trivial, ⟨trivial, ⟨trivial, ⟨⟨trivial, trivial⟩, ⟨⟨trivial, trivial⟩, trivial⟩⟩⟩⟩⟩ ?_
    refine TL_end ?_
    obtain rfl := sinj h0
    exact TE_end env rfl trivial ⟨.inr rfl, .inr rfl, trivial⟩
  · first | exact (ftf hb).elim | exact (tff hb).elim | exact absurd hb (by decide)
theorem poly_Joiner_Reset.ok0 {K : Nat} {p0 : Int} {p1 : List (Int)} {p2 : List (Int)} {p3 : List (Int)} {q0 : List (Int)} (h0 : poly_Joiner_Reset K p0 p1 p2 p3 = some q0) : Fn Try.prog 25 [.p 0 0] [(0, some (.cells [.int .i64 p0, .im (.slice (.int .i16)) p1, .im (.slice (.int .i16)) p2, .sl 1])), (1, some (.rows (.int .i64) p3))] (.tup []) [(0, some (.cells [.int .i64 p0, .im (.slice (.int .i16)) p1, .im (.slice (.int .i16)) p2, .sl 1])), (1, some (.rows (.int .i64) q0))] := poly_Joiner_Reset.ok h0
theorem poly_Joiner_Reset.fnb : fnb Try.prog 25 = true := fnb_of Try.func25 rfl
def psalteryref04_Same.res  : Unit → MV
  | () => .bool true
def psalteryref04_Same.out  : Unit → List (Nat × Option MObj)
  | () => []
theorem psalteryref04_Same.ok {K : Nat}  {r : Unit} (h0 : psalteryref04_Same K  = some r) : Fn Try.prog 22 [.nils, .nils] [] (psalteryref04_Same.res  r) (psalteryref04_Same.out  r) := by
  refine Fn_of Try.func22 rfl (Nat.le_of_ble_eq_true rfl) fun Γ => ?_
  unfold psalteryref04_Same at h0
  refine TC_seq ?_
  refine TC_reg ?_
  refine TL_ev env 1 rfl ⟨trivial, trivial⟩ ?_
  refine TL_end ?_
  refine TE_go ?_
  refine TC_seq ?_
  refine TC_seq ?_
  refine TC_reg ?_
  refine TL_ev env 5 rfl ⟨trivial, ⟨⟨trivial, trivial⟩, ⟨trivial, ⟨⟨trivial, trivial⟩, ⟨⟨trivial, ⟨trivial, trivial⟩⟩, trivial⟩⟩⟩⟩⟩ ?_
  refine TL_end ?_
  refine TE_go ?_
  refine TC_cond rfl (fun hb => ?_) (fun hb => ?_)
  · first | exact (ftf hb).elim | exact (tff hb).elim | exact absurd hb (by decide)
  · refine TC_skip ?_
    refine TE_go ?_
    refine TC_seq ?_
    refine TC_seq ?_
    refine TC_reg ?_
    refine TL_ev env 1 rfl ⟨trivial, trivial⟩ ?_
    refine TL_end ?_
    refine TE_go ?_
    obtain ⟨z1, h1, h0⟩ := bnd h0
    refine TC_cut (α := Unit) (fun _ => z1 = ()) (fun _ => []) (fun _ => []) ?_ ?_
    · refine TC_blk ?_
      refine TC_loop (α := Unit) (fun n _ => psalteryref04_Same.l0 K n = some z1) (fun _ => [(0, .nils), (1, .nils), (5, .int .i64 0)]) (fun _ => []) K ?_ ?_
      · exact SP_ren [] () h1 ⟨rfl, rfl, rfl, trivial⟩ trivial rfl
      rintro n ⟨⟩ h1
      rcases n with _ | n
      · exact (nsome h1).elim
      replace h1 : psalteryref04_Same.r0 K (psalteryref04_Same.l0 K n)  = some z1 := h1
      refine TC_seq ?_
      refine TC_seq ?_
      refine TC_reg ?_
      refine TL_ev env 4 rfl ⟨trivial, ⟨trivial, ⟨⟨trivial, trivial⟩, ⟨⟨trivial, ⟨trivial, trivial⟩⟩, trivial⟩⟩⟩⟩ ?_
      refine TL_end ?_
      refine TE_go ?_
      refine TC_cond rfl (fun hb => ?_) (fun hb => ?_)
      · first | exact (ftf hb).elim | exact (tff hb).elim | exact absurd hb (by decide)
      · refine TC_exit ?_
        refine tsx ?_
        refine tsx ?_
        refine tbe ?_
        obtain rfl := sinj h1
        refine tsn ?_
        exact SP_ren [] () rfl trivial trivial rfl
    · rintro ⟨⟩ rfl
      refine TE_go ?_
      refine TC_seq ?_
      refine TC_reg ?_
      refine TL_ev env 1 rfl ⟨trivial, trivial⟩ ?_
      refine TL_end ?_
      refine TE_go ?_
      refine TC_ret ?_
      obtain rfl := sinj h0
      exact TE_ret env rfl trivial trivial
theorem psalteryref04_Same.ok0 {K : Nat}   (h0 : psalteryref04_Same K  = some ()) : Fn Try.prog 22 [.nils, .nils] [] (.bool true) [] := psalteryref04_Same.ok h0
theorem psalteryref04_Same.fnb : fnb Try.prog 22 = true := fnb_of Try.func22 rfl
def psalteryref04_Same_2.res (_p0 : List (Int)) : Bool → MV
  | q0 => .bool q0
def psalteryref04_Same_2.out (_p0 : List (Int)) : Bool → List (Nat × Option MObj)
  | _ => []
theorem psalteryref04_Same_2.ok {K : Nat} {p0 : List (Int)} {r : Bool} (h0 : psalteryref04_Same_2 K p0 = some r) : Fn Try.prog 22 [.nils, .im (.slice (.int .i16)) p0] [] (psalteryref04_Same_2.res p0 r) (psalteryref04_Same_2.out p0 r) := by
  refine Fn_of Try.func22 rfl (Nat.le_of_ble_eq_true rfl) fun Γ => ?_
  refine TC_seq ?_
  refine TC_reg ?_
  refine TL_ev env 1 rfl ⟨trivial, trivial⟩ ?_
  refine TL_end ?_
  refine TE_go ?_
  refine TC_seq ?_
  refine TC_seq ?_
  refine TC_reg ?_
  refine TL_ev env 5 rfl ⟨trivial, ⟨⟨trivial, trivial⟩, ⟨trivial, ⟨⟨trivial, trivial⟩, ⟨⟨trivial, ⟨trivial, trivial⟩⟩, trivial⟩⟩⟩⟩⟩ ?_
  refine TL_end ?_
  refine TE_go ?_
  refine TC_cond rfl (fun hb => ?_) (fun hb => ?_)
  · replace h0 := bif_t h0 hb
    refine TC_seq ?_
    refine TC_reg ?_
    refine TL_ev env 1 rfl ⟨trivial, trivial⟩ ?_
    refine TL_end ?_
    refine TE_go ?_
    refine TC_ret ?_
    refine tsr ?_
    obtain rfl := sinj h0
    exact TE_ret env rfl trivial trivial
  · replace h0 := bif_f h0 hb
    refine TC_skip ?_
    refine TE_go ?_
    refine TC_seq ?_
    refine TC_seq ?_
    refine TC_reg ?_
    refine TL_ev env 1 rfl ⟨trivial, trivial⟩ ?_
    refine TL_end ?_
    refine TE_go ?_
    obtain ⟨z1, h1, h0⟩ := bnd h0
    refine TC_cut (α := Unit) (fun _ => z1 = ()) (fun _ => []) (fun _ => []) ?_ ?_
    · refine TC_blk ?_
      refine TC_loop (α := Unit) (fun n _ => psalteryref04_Same_2.l0 K p0 n = some z1) (fun _ => [(0, .nils), (1, .im (.slice (.int .i16)) p0), (5, .int .i64 0)]) (fun _ => []) K ?_ ?_
      · exact SP_ren [] () h1 ⟨rfl, rfl, rfl, trivial⟩ trivial rfl
      rintro n ⟨⟩ h1
      rcases n with _ | n
      · exact (nsome h1).elim
      replace h1 : psalteryref04_Same_2.r0 K p0 (psalteryref04_Same_2.l0 K p0 n)  = some z1 := h1
      refine TC_seq ?_
      refine TC_seq ?_
      refine TC_reg ?_
      refine TL_ev env 4 rfl ⟨trivial, ⟨trivial, ⟨⟨trivial, trivial⟩, ⟨⟨trivial, ⟨trivial, trivial⟩⟩, trivial⟩⟩⟩⟩ ?_
      refine TL_end ?_
      refine TE_go ?_
      refine TC_cond rfl (fun hb => ?_) (fun hb => ?_)
      · first | exact (ftf hb).elim | exact (tff hb).elim | exact absurd hb (by decide)
      · refine TC_exit ?_
        refine tsx ?_
        refine tsx ?_
        refine tbe ?_
        obtain rfl := sinj h1
        refine tsn ?_
        exact SP_ren [] () rfl trivial trivial rfl
    · rintro ⟨⟩ rfl
      refine TE_go ?_
      refine TC_seq ?_
      refine TC_reg ?_
      refine TL_ev env 1 rfl ⟨trivial, trivial⟩ ?_
      refine TL_end ?_
      refine TE_go ?_
      refine TC_ret ?_
      obtain rfl := sinj h0
      exact TE_ret env rfl trivial trivial
theorem psalteryref04_Same_2.ok0 {K : Nat} {p0 : List (Int)} {q0 : Bool} (h0 : psalteryref04_Same_2 K p0 = some q0) : Fn Try.prog 22 [.nils, .im (.slice (.int .i16)) p0] [] (.bool q0) [] := psalteryref04_Same_2.ok h0
theorem psalteryref04_Same_2.fnb : fnb Try.prog 22 = true := fnb_of Try.func22 rfl
def psalteryref04_Same_3.res (_p0 : List (Int)) : Bool → MV
  | q0 => .bool q0
def psalteryref04_Same_3.out (_p0 : List (Int)) : Bool → List (Nat × Option MObj)
  | _ => []
theorem psalteryref04_Same_3.ok {K : Nat} {p0 : List (Int)} {r : Bool} (h0 : psalteryref04_Same_3 K p0 = some r) : Fn Try.prog 22 [.im (.slice (.int .i16)) p0, .nils] [] (psalteryref04_Same_3.res p0 r) (psalteryref04_Same_3.out p0 r) := by
  refine Fn_of Try.func22 rfl (Nat.le_of_ble_eq_true rfl) fun Γ => ?_
  refine TC_seq ?_
  refine TC_reg ?_
  refine TL_ev env 1 rfl ⟨trivial, trivial⟩ ?_
  refine TL_end ?_
  refine TE_go ?_
  refine TC_seq ?_
  refine TC_seq ?_
  refine TC_reg ?_
  refine TL_ev env 5 rfl ⟨trivial, ⟨⟨trivial, trivial⟩, ⟨trivial, ⟨⟨trivial, trivial⟩, ⟨⟨trivial, ⟨trivial, trivial⟩⟩, trivial⟩⟩⟩⟩⟩ ?_
  refine TL_end ?_
  refine TE_go ?_
  refine TC_cond rfl (fun hb => ?_) (fun hb => ?_)
  · replace h0 := bif_t h0 hb
    refine TC_seq ?_
    refine TC_reg ?_
    refine TL_ev env 1 rfl ⟨trivial, trivial⟩ ?_
    refine TL_end ?_
    refine TE_go ?_
    refine TC_ret ?_
    refine tsr ?_
    obtain rfl := sinj h0
    exact TE_ret env rfl trivial trivial
  · replace h0 := bif_f h0 hb
    refine TC_skip ?_
    refine TE_go ?_
    refine TC_seq ?_
    refine TC_seq ?_
    refine TC_reg ?_
    refine TL_ev env 1 rfl ⟨trivial, trivial⟩ ?_
    refine TL_end ?_
    refine TE_go ?_
    obtain ⟨z1, h1, h0⟩ := bnd h0
    refine TC_cut (α := Unit) (fun _ => z1 = ()) (fun _ => []) (fun _ => []) ?_ ?_
    · refine TC_blk ?_
      refine TC_loop (α := Unit) (fun n _ => psalteryref04_Same_3.l0 K p0 n = some z1) (fun _ => [(0, .im (.slice (.int .i16)) p0), (1, .nils), (5, .int .i64 0)]) (fun _ => []) K ?_ ?_
      · exact SP_ren [] () h1 ⟨rfl, rfl, rfl, trivial⟩ trivial rfl
      rintro n ⟨⟩ h1
      rcases n with _ | n
      · exact (nsome h1).elim
      replace h1 : psalteryref04_Same_3.r0 K p0 (psalteryref04_Same_3.l0 K p0 n)  = some z1 := h1
      refine TC_seq ?_
      refine TC_seq ?_
      refine TC_reg ?_
      refine TL_ev env 4 rfl ⟨trivial, ⟨trivial, ⟨⟨trivial, trivial⟩, ⟨⟨trivial, ⟨trivial, trivial⟩⟩, trivial⟩⟩⟩⟩ ?_
      refine TL_end ?_
      refine TE_go ?_
      refine TC_cond rfl (fun hb => ?_) (fun hb => ?_)
      · replace h1 := bif_t h1 hb
        refine TC_skip ?_
        refine TE_go ?_
        refine TC_seq ?_
        refine TC_blk ?_
        refine TC_seq ?_
        refine TC_renw (A' := [(0, .im (.slice (.int .i16)) _), (1, .nils), (5, .int .i64 0)]) (L' := []) [] ⟨rfl, rfl, rfl, trivial⟩ trivial rfl ?_
        refine TC_drawR ⟨_, fun i => ([[], [], [1, 0], [2, 1, 0], [], [], [5, 4], [6, 5, 4], [7, 6, 5, 4, 3, 2, 1, 0]] : List (List Nat)).getD i [], fun i => ([[], [], [], [], [], [], [], [], []] : List (List Nat)).getD i [], fun i => ([[], [], [], [], [], [], [], [], []] : List (List Nat)).getD i []⟩ (fun i => ([[], [], [], [], [], [], [], [], []] : List (List Nat)).getD i []) (by kernel_rfl) (by kernel_rfl) ?_
        obtain ⟨g, h1⟩ := gd_t h1
        exact (nsome h1).elim
      · replace h1 := bif_f h1 hb
        refine TC_exit ?_
        refine tsx ?_
        refine tsx ?_
        refine tbe ?_
        obtain rfl := sinj h1
        refine tsn ?_
        exact SP_ren [] () rfl trivial trivial rfl
    · rintro ⟨⟩ rfl
      refine TE_go ?_
      refine TC_seq ?_
      refine TC_reg ?_
      refine TL_ev env 1 rfl ⟨trivial, trivial⟩ ?_
      refine TL_end ?_
      refine TE_go ?_
      refine TC_ret ?_
      obtain rfl := sinj h0
      exact TE_ret env rfl trivial trivial
theorem psalteryref04_Same_3.ok0 {K : Nat} {p0 : List (Int)} {q0 : Bool} (h0 : psalteryref04_Same_3 K p0 = some q0) : Fn Try.prog 22 [.im (.slice (.int .i16)) p0, .nils] [] (.bool q0) [] := psalteryref04_Same_3.ok h0
theorem psalteryref04_Same_3.fnb : fnb Try.prog 22 = true := fnb_of Try.func22 rfl
def psalteryref04_Same_4.res (_p0 : List (Int)) (_p1 : List (Int)) : Bool → MV
  | q0 => .bool q0
def psalteryref04_Same_4.out (_p0 : List (Int)) (_p1 : List (Int)) : Bool → List (Nat × Option MObj)
  | _ => []
theorem psalteryref04_Same_4.ok {K : Nat} {p0 : List (Int)} {p1 : List (Int)} {r : Bool} (h0 : psalteryref04_Same_4 K p0 p1 = some r) : Fn Try.prog 22 [.im (.slice (.int .i16)) p0, .im (.slice (.int .i16)) p1] [] (psalteryref04_Same_4.res p0 p1 r) (psalteryref04_Same_4.out p0 p1 r) := by
  refine Fn_of Try.func22 rfl (Nat.le_of_ble_eq_true rfl) fun Γ => ?_
  refine TC_seq ?_
  refine TC_reg ?_
  refine TL_ev env 1 rfl ⟨trivial, trivial⟩ ?_
  refine TL_end ?_
  refine TE_go ?_
  refine TC_seq ?_
  refine TC_seq ?_
  refine TC_reg ?_
  refine TL_ev env 5 rfl ⟨trivial, ⟨⟨trivial, trivial⟩, ⟨trivial, ⟨⟨trivial, trivial⟩, ⟨⟨trivial, ⟨trivial, trivial⟩⟩, trivial⟩⟩⟩⟩⟩ ?_
  refine TL_end ?_
  refine TE_go ?_
  refine TC_cond rfl (fun hb => ?_) (fun hb => ?_)
  · replace h0 := bif_t h0 hb
    refine TC_seq ?_
    refine TC_reg ?_
    refine TL_ev env 1 rfl ⟨trivial, trivial⟩ ?_
    refine TL_end ?_
    refine TE_go ?_
    refine TC_ret ?_
    refine tsr ?_
    obtain rfl := sinj h0
    exact TE_ret env rfl trivial trivial
  · replace h0 := bif_f h0 hb
    refine TC_skip ?_
    refine TE_go ?_
    refine TC_seq ?_
    refine TC_seq ?_
    refine TC_reg ?_
    refine TL_ev env 1 rfl ⟨trivial, trivial⟩ ?_
    refine TL_end ?_
    refine TE_go ?_
    obtain ⟨z1, h1, h0⟩ := bnd h0
    refine TC_cut (α := Unit) (fun _ => z1 = .inl ()) (fun _ => []) (fun _ => []) ?_ ?_
    · refine TC_blk ?_
      refine TC_loop (α := Int) (fun n s => psalteryref04_Same_4.l0 K p0 p1 n s = some z1) (fun s => [(0, .im (.slice (.int .i16)) p0), (1, .im (.slice (.int .i16)) p1), (5, .int .i64 s)]) (fun s => []) K ?_ ?_
      · exact SP_ren [] _ h1 ⟨rfl, rfl, rfl, trivial⟩ trivial rfl
      rintro n x6 h1
      rcases n with _ | n
      · exact (nsome h1).elim
      replace h1 : psalteryref04_Same_4.r0 K p0 p1 (psalteryref04_Same_4.l0 K p0 p1 n) x6 = some z1 := h1
      refine TC_seq ?_
      refine TC_seq ?_
      refine TC_reg ?_
      refine TL_ev env 4 rfl ⟨trivial, ⟨trivial, ⟨⟨trivial, trivial⟩, ⟨⟨trivial, ⟨trivial, trivial⟩⟩, trivial⟩⟩⟩⟩ ?_
      refine TL_end ?_
      refine TE_go ?_
      refine TC_cond rfl (fun hb => ?_) (fun hb => ?_)
      · replace h1 := bif_t h1 hb
        refine TC_skip ?_
        refine TE_go ?_
        refine TC_seq ?_
        refine TC_blk ?_
        refine TC_seq ?_
        refine TC_renw (A' := [(0, .im (.slice (.int .i16)) _), (1, .im (.slice (.int .i16)) _), (5, .int .i64 _)]) (L' := []) [] ⟨rfl, rfl, rfl, trivial⟩ trivial rfl ?_
        refine TC_drawR ⟨_, fun i => ([[], [], [1, 0], [2, 1, 0], [], [], [5, 4], [6, 5, 4], [7, 6, 5, 4, 3, 2, 1, 0]] : List (List Nat)).getD i [], fun i => ([[], [], [], [], [], [], [], [], []] : List (List Nat)).getD i [], fun i => ([[], [], [], [], [], [], [], [], []] : List (List Nat)).getD i []⟩ (fun i => ([[], [], [], [], [], [], [], [], []] : List (List Nat)).getD i []) (by kernel_rfl) (by kernel_rfl) ?_
        refine AJR_ev env 1 rfl (Nat.le_of_ble_eq_true rfl) rfl trivial ?_
        refine AJR_ev env 2 rfl (Nat.le_of_ble_eq_true rfl) rfl trivial ?_
        obtain ⟨g, h1⟩ := gd_t h1
        refine AJR_ev env 3 rfl (Nat.le_of_ble_eq_true rfl) rfl ⟨trivial, ⟨trivial, ⟨g.1, g.2⟩⟩⟩ ?_
        refine AJR_ev env 4 rfl (Nat.le_of_ble_eq_true rfl) rfl ⟨trivial, trivial⟩ ?_
        refine AJR_ev env 5 rfl (Nat.le_of_ble_eq_true rfl) rfl trivial ?_
        refine AJR_ev env 6 rfl (Nat.le_of_ble_eq_true rfl) rfl trivial ?_
        obtain ⟨g, h1⟩ := gd_t h1
        refine AJR_ev env 7 rfl (Nat.le_of_ble_eq_true rfl) rfl ⟨trivial, ⟨trivial, ⟨g.1, g.2⟩⟩⟩ ?_
        refine AJR_ev env 8 rfl (Nat.le_of_ble_eq_true rfl) rfl ⟨trivial, trivial⟩ ?_
        refine AJR_ev env 9 rfl (Nat.le_of_ble_eq_true rfl) rfl ⟨trivial, ⟨trivial, trivial⟩⟩ ?_
        refine AJR_end rfl rfl rfl ?_
        refine TE_go ?_
        refine TC_cond rfl (fun hb => ?_) (fun hb => ?_)
        · replace h1 := bif_t h1 hb
          refine TC_seq ?_
          refine TC_reg ?_
          refine TL_ev env 1 rfl ⟨trivial, trivial⟩ ?_
          refine TL_end ?_
          refine TE_go ?_
          refine TC_ret ?_
          refine tbr ?_
          refine tsr ?_
          refine tsr ?_
          refine tbr ?_
          refine tsr ?_
          refine tsr ?_
          obtain rfl := sinj h1
          obtain rfl := sinj h0
          exact TE_ret env rfl trivial trivial
        · replace h1 := bif_f h1 hb
          refine TC_skip ?_
          refine tbn ?_
          refine TE_go ?_
          refine TC_reg ?_
          refine TL_ev env 3 rfl ⟨trivial, ⟨⟨trivial, ⟨trivial, trivial⟩⟩, ⟨trivial, trivial⟩⟩⟩ ?_
          refine TL_end ?_
          refine tsn ?_
          exact TE_nextr [] n (Nat.lt_succ_self n) _ h1 ⟨rfl, rfl, rfl, trivial⟩ trivial rfl
      · replace h1 := bif_f h1 hb
        refine TC_exit ?_
        refine tsx ?_
        refine tsx ?_
        refine tbe ?_
        obtain rfl := sinj h1
        refine tsn ?_
        exact SP_ren [] () rfl trivial trivial rfl
    · rintro ⟨⟩ rfl
      refine TE_go ?_
      refine TC_seq ?_
      refine TC_reg ?_
      refine TL_ev env 1 rfl ⟨trivial, trivial⟩ ?_
      refine TL_end ?_
      refine TE_go ?_
      refine TC_ret ?_
      obtain rfl := sinj h0
      exact TE_ret env rfl trivial trivial
theorem psalteryref04_Same_4.ok0 {K : Nat} {p0 : List (Int)} {p1 : List (Int)} {q0 : Bool} (h0 : psalteryref04_Same_4 K p0 p1 = some q0) : Fn Try.prog 22 [.im (.slice (.int .i16)) p0, .im (.slice (.int .i16)) p1] [] (.bool q0) [] := psalteryref04_Same_4.ok h0
theorem psalteryref04_Same_4.fnb : fnb Try.prog 22 = true := fnb_of Try.func22 rfl
end Go.Fo
