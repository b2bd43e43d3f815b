/- Each call comes to the function that is written for it. -/
import Derived.Test.YtphienllhdoenaaLoT
import Derived.Test.YtphienllhdoenaaLoF
import Derived.Test.YtphienllhdoenaaBx
import Derived.Test.YtphienllhdoenaaGx
namespace Go.Fo
open Go.Proofs
set_option maxRecDepth 20000
set_option maxHeartbeats 4000000
theorem bank_New.ok0 {K : Nat} (h0 : bank_New K = some ()) : Fn Try.prog 14 [] [] (.p 1000 0) [(1000, some (.ab (bkA (List.replicate 388 none) 0 0)))] := by
  have h : Fn Try.prog 14 [] [] (.p 1000 0) [(1000, some (.cells (pst (List.replicate 388 none) 0 0)))] := by
    refine Fn_of Try.func14 rfl (Nat.le_of_ble_eq_true rfl) fun Γ => ?_
    refine TC_seq ?_
    refine TC_reg ?_
    refine TL_ev env 1 rfl (by decide) ?_
    refine TL_end ?_
    refine TE_go ?_
    refine TC_seq ?_
    refine TC_reg ?_
    refine TL_ev env 3 rfl (by decide) ?_
    refine TL_end ?_
    refine TE_go ?_
    refine TC_ret ?_
    refine TE_renw (A' := [(0, .p 1000 0)]) (L' := [(1000, some (.cells (pst (List.replicate 388 none) 0 0)))]) [(1000, 1002)] ⟨rfl, tv⟩ ⟨rfl, tv⟩ rfl ?_
    exact TE_ret env rfl tv ⟨.inr rfl, tv⟩
  intro X ρ m w vs hp hv
  refine (h X ρ m w vs hp hv).mono ?_
  rintro e w' ⟨ρ', m', v, rfl, h1, h2, h3, h4⟩
  exact ⟨ρ', m', v, rfl, h1, h2.conv (fun k o hk => by
    simp only [getO] at hk ⊢
    split at hk
    · rename_i e
      have e' : 1000 = k := beq_iff_eq.1 e
      subst e'
      simp only [Option.some.injEq] at hk; subst hk
      exact ⟨_, rfl, (osat_abcells (pst_kf _ _ _)).2 (h2.obj 1000 _ rfl)⟩
    · cases hk), h3, h4⟩
theorem bank_New.fnb : fnb Try.prog 14 = true := fnb_of Try.func14 rfl
def lapped_lengths.res  : Unit → MV
  | () => .agg [.int .i64 40, .int .i64 60, .int .i64 80, .int .i64 120]
def lapped_lengths.out  : Unit → List (Nat × Option MObj)
  | () => []
theorem lapped_lengths.ok {K : Nat}  {r : Unit} (h0 : lapped_lengths K  = some r) : Fn Try.prog 59 [] [] (lapped_lengths.res  r) (lapped_lengths.out  r) := by
  refine Fn_of Try.func59 rfl (Nat.le_of_ble_eq_true rfl) fun Γ => ?_
  refine TC_seq ?_
  refine TC_reg ?_
  refine TL_ev env 1 rfl ⟨tv, tv⟩ ?_
  refine TL_end ?_
  refine TE_go ?_
  refine TC_seq ?_
  refine TC_reg ?_
  refine TL_ev env 2 rfl ⟨⟨tv, ⟨tv, ⟨tv, ⟨tv, tv⟩⟩⟩⟩, ⟨⟨tv, tv⟩, tv⟩⟩ ?_
  refine TL_end ?_
  refine TE_go ?_
  refine TC_ret ?_
  obtain rfl := sinj h0
  exact TE_ret env rfl ⟨tv, tv⟩ tv
theorem lapped_lengths.ok0 {K : Nat}   (h0 : lapped_lengths K  = some ()) : Fn Try.prog 59 [] [] (.agg [.int .i64 40, .int .i64 60, .int .i64 80, .int .i64 120]) [] := lapped_lengths.ok h0
theorem lapped_lengths.fnb : fnb Try.prog 59 = true := fnb_of Try.func59 rfl
def slices_Index_int_int.res (_p0 : List (Int)) (_p1 : Int) : Int → MV
  | q0 => .int .i64 q0
def slices_Index_int_int.out (_p0 : List (Int)) (_p1 : Int) : Int → List (Nat × Option MObj)
  | _ => []
theorem slices_Index_int_int.ok {K : Nat} {p0 : List (Int)} {p1 : Int} {r : Int} (h0 : slices_Index_int_int K p0 p1 = some r) : Fn Try.prog 76 [.im (.slice (.int .i64)) p0, .int .i64 p1] [] (slices_Index_int_int.res p0 p1 r) (slices_Index_int_int.out p0 p1 r) := by
  refine Fn_of Try.func76 rfl (Nat.le_of_ble_eq_true rfl) fun Γ => ?_
  refine TC_seq ?_
  refine TC_reg ?_
  refine TL_ev env 1 rfl ⟨tv, tv⟩ ?_
  refine TL_end ?_
  refine TE_go ?_
  refine TC_seq ?_
  refine TC_seq ?_
  refine TC_reg ?_
  refine TL_ev env 3 rfl ⟨tv, ⟨⟨tv, tv⟩, ⟨tv, tv⟩⟩⟩ ?_
  refine TL_end ?_
  refine TE_go ?_
  obtain ⟨z1, h1, h0⟩ := bnd h0
  refine TC_cut (α := Unit) (fun _ => z1 = .inl ()) (fun _ => []) (fun _ => []) ?_ ?_
  · refine TC_blk ?_
    refine TC_loop (α := Int) (fun n s => slices_Index_int_int.l0 K p0 p1 (p0.length : Int) n s = some z1) (fun s => [(0, .im (.slice (.int .i64)) p0), (1, .int .i64 p1), (7, .int .i64 (p0.length : Int)), (8, .int .i64 s)]) (fun s => []) K ?_ ?_
    · exact SP_ren [] _ h1 ⟨rfl, rfl, rfl, rfl, tv⟩ tv rfl
    rintro n x5 h1
    rcases n with _ | n
    · exact (nsome h1).elim
    replace h1 : slices_Index_int_int.r0 K p0 p1 (p0.length : Int) (slices_Index_int_int.l0 K p0 p1 (p0.length : Int) n) x5 = some z1 := h1
    refine TC_seq ?_
    refine TC_reg ?_
    refine TL_ev env 1 rfl ⟨⟨tv, ⟨tv, tv⟩⟩, tv⟩ ?_
    refine TL_end ?_
    refine TE_go ?_
    refine TC_seq ?_
    refine TC_cond rfl (fun hb => ?_) (fun hb => ?_)
    · replace h1 := bif_t h1 hb
      refine TC_skip ?_
      refine TE_go ?_
      refine TC_seq ?_
      refine TC_blk ?_
      refine TC_seq ?_
      refine TC_reg ?_
      refine TL_ev env 2 rfl ⟨tv, ⟨tv, tv⟩⟩ ?_
      refine TL_end ?_
      refine TE_go ?_
      refine TC_seq ?_
      refine TC_reg ?_
      obtain ⟨g, h1⟩ := gd_t h1
      refine TL_ev env 6 rfl ⟨tv, ⟨tv, ⟨tv, ⟨⟨tv, ⟨tv, ⟨g.1, g.2⟩⟩⟩, ⟨⟨tv, tv⟩, ⟨⟨tv, ⟨tv, tv⟩⟩, tv⟩⟩⟩⟩⟩⟩ ?_
      refine TL_end ?_
      refine TE_go ?_
      refine TC_cond rfl (fun hb => ?_) (fun hb => ?_)
      · replace h1 := bif_t h1 hb
        refine TC_seq ?_
        refine TC_reg ?_
        refine TL_ev env 2 rfl ⟨tv, ⟨tv, tv⟩⟩ ?_
        refine TL_end ?_
        refine TE_go ?_
        refine TC_ret ?_
        refine tbr ?_
        refine tsr ?_
        refine tsr ?_
        refine tbr ?_
        refine tsr ?_
        refine tsr ?_
        obtain rfl := sinj h1
        obtain rfl := sinj h0
        exact TE_ret env rfl tv tv
      · replace h1 := bif_f h1 hb
        refine TC_skip ?_
        refine tbn ?_
        refine TE_go ?_
        refine TC_reg ?_
        refine TL_ev env 2 rfl ⟨⟨tv, ⟨tv, tv⟩⟩, ⟨tv, tv⟩⟩ ?_
        refine TL_end ?_
        refine tsn ?_
        exact TE_nextr [] n (Nat.lt_succ_self n) _ h1 ⟨rfl, rfl, rfl, rfl, tv⟩ tv rfl
    · replace h1 := bif_f h1 hb
      refine TC_exit ?_
      refine tsx ?_
      refine tsx ?_
      refine tbe ?_
      obtain rfl := sinj h1
      refine tsn ?_
      exact SP_ren [] () rfl tv tv rfl
  · rintro ⟨⟩ rfl
    refine TE_go ?_
    refine TC_seq ?_
    refine TC_reg ?_
    refine TL_ev env 1 rfl ⟨tv, tv⟩ ?_
    refine TL_end ?_
    refine TE_go ?_
    refine TC_ret ?_
    obtain rfl := sinj h0
    exact TE_ret env rfl tv tv
theorem slices_Index_int_int.ok0 {K : Nat} {p0 : List (Int)} {p1 : Int} {q0 : Int} (h0 : slices_Index_int_int K p0 p1 = some q0) : Fn Try.prog 76 [.im (.slice (.int .i64)) p0, .int .i64 p1] [] (.int .i64 q0) [] := slices_Index_int_int.ok h0
theorem slices_Index_int_int.fnb : fnb Try.prog 76 = true := fnb_of Try.func76 rfl
def slices_Contains_int_int.res (_p0 : List (Int)) (_p1 : Int) : Bool → MV
  | q0 => .bool q0
def slices_Contains_int_int.out (_p0 : List (Int)) (_p1 : Int) : Bool → List (Nat × Option MObj)
  | _ => []
theorem slices_Contains_int_int.ok {K : Nat} {p0 : List (Int)} {p1 : Int} {r : Bool} (h0 : slices_Contains_int_int K p0 p1 = some r) : Fn Try.prog 60 [.im (.slice (.int .i64)) p0, .int .i64 p1] [] (slices_Contains_int_int.res p0 p1 r) (slices_Contains_int_int.out p0 p1 r) := by
  refine Fn_of Try.func60 rfl (Nat.le_of_ble_eq_true rfl) fun Γ => ?_
  refine TC_seq ?_
  refine TC_reg ?_
  refine TL_ev env 1 rfl ⟨tv, tv⟩ ?_
  refine TL_end ?_
  refine TE_go ?_
  refine TC_seq ?_
  refine TC_reg ?_
  refine TL_ev env 2 rfl ⟨tv, ⟨tv, tv⟩⟩ ?_
  obtain ⟨r2, hr, h0⟩ := bnd h0
  refine TL_callB [] (slices_Index_int_int.ok0 hr) slices_Index_int_int.fnb rfl ⟨tv, ⟨tv, ⟨tv, tv⟩⟩⟩ rfl tv rfl ?_
  refine TL_ev env 2 rfl ⟨⟨tv, ⟨tv, tv⟩⟩, ⟨tv, tv⟩⟩ ?_
  refine TL_end ?_
  refine TE_go ?_
  refine TC_ret ?_
  obtain rfl := sinj h0
  exact TE_ret env rfl tv tv
theorem slices_Contains_int_int.ok0 {K : Nat} {p0 : List (Int)} {p1 : Int} {q0 : Bool} (h0 : slices_Contains_int_int K p0 p1 = some q0) : Fn Try.prog 60 [.im (.slice (.int .i64)) p0, .int .i64 p1] [] (.bool q0) [] := slices_Contains_int_int.ok h0
theorem slices_Contains_int_int.fnb : fnb Try.prog 60 = true := fnb_of Try.func60 rfl
def bank_Bank_may.res (_p0 : Bool) (_p1 : List (Option (List (Int)))) (_p2 : Int) (_p3 : Int) : (Unit) ⊕ (Unit) → MV
  | .inl () => .int .i64 1
  | .inr () => .int .i64 0
def bank_Bank_may.out (_p0 : Bool) (p1 : List (Option (List (Int)))) (p2 : Int) (p3 : Int) : (Unit) ⊕ (Unit) → List (Nat × Option MObj)
  | .inl () => [(0, some (.ab (bkA p1 p2 p3)))]
  | .inr () => [(0, some (.ab (bkA p1 p2 p3)))]
theorem bank_Bank_may.ok {K : Nat} {p0 : Bool} {p1 : List (Option (List (Int)))} {p2 : Int} {p3 : Int} {r : (Unit) ⊕ (Unit)} (h0 : bank_Bank_may K p0 p1 p2 p3 = some r) : Fn Try.prog 77 [.p 0 0, .bool p0] [(0, some (.ab (bkA p1 p2 p3)))] (bank_Bank_may.res p0 p1 p2 p3 r) (bank_Bank_may.out p0 p1 p2 p3 r) := by
  refine Fn_of Try.func77 rfl (Nat.le_of_ble_eq_true rfl) fun Γ => ?_
  refine TC_seq ?_
  refine TC_reg ?_
  refine TL_ev env 1 rfl ⟨tv, tv⟩ ?_
  refine TL_end ?_
  refine TE_go ?_
  refine TC_seq ?_
  refine TC_blk ?_
  refine TC_seq ?_
  refine TC_reg ?_
  refine TL_ev env 3 rfl ⟨tv, ⟨⟨tv, ⟨tv, tv⟩⟩, ⟨tv, tv⟩⟩⟩ ?_
  refine TL_end ?_
  refine TE_go ?_
  refine TC_cond rfl (fun hb => ?_) (fun hb => ?_)
  · first | exact (ftf hb).elim | exact (tff hb).elim | exact absurd hb (by decide)
  · refine TC_seq ?_
    refine TC_reg ?_
    refine TL_ev env 3 rfl ⟨tv, ⟨tv, ⟨tv, tv⟩⟩⟩ ?_
    refine TL_end ?_
    refine TE_go ?_
    refine TC_cond rfl (fun hb => ?_) (fun hb => ?_)
    · replace h0 := bif_t h0 hb
      refine TC_seq ?_
      refine TC_reg ?_
      refine TL_ev env 1 rfl ⟨tv, tv⟩ ?_
      refine TL_end ?_
      refine TE_go ?_
      refine TC_ret ?_
      refine tbr ?_
      refine tsr ?_
      obtain rfl := sinj h0
      exact TE_ret env rfl tv ⟨.inr rfl, tv⟩
    · replace h0 := bif_f h0 hb
      refine TC_skip ?_
      refine tbn ?_
      refine TE_go ?_
      refine TC_seq ?_
      refine TC_reg ?_
      refine TL_ev env 1 rfl ⟨tv, tv⟩ ?_
      refine TL_end ?_
      refine TE_go ?_
      refine TC_ret ?_
      obtain rfl := sinj h0
      exact TE_ret env rfl tv ⟨.inr rfl, tv⟩
theorem bank_Bank_may.ok0 {K : Nat} {p0 : Bool} {p1 : List (Option (List (Int)))} {p2 : Int} {p3 : Int}  (h0 : bank_Bank_may K p0 p1 p2 p3 = some (.inl ())) : Fn Try.prog 77 [.p 0 0, .bool p0] [(0, some (.ab (bkA p1 p2 p3)))] (.int .i64 1) [(0, some (.ab (bkA p1 p2 p3)))] := bank_Bank_may.ok h0
theorem bank_Bank_may.ok1 {K : Nat} {p0 : Bool} {p1 : List (Option (List (Int)))} {p2 : Int} {p3 : Int}  (h0 : bank_Bank_may K p0 p1 p2 p3 = some (.inr ())) : Fn Try.prog 77 [.p 0 0, .bool p0] [(0, some (.ab (bkA p1 p2 p3)))] (.int .i64 0) [(0, some (.ab (bkA p1 p2 p3)))] := bank_Bank_may.ok h0
theorem bank_Bank_may.fnb : fnb Try.prog 77 = true := fnb_of Try.func77 rfl
theorem sync_atomic_Bool_Load.ok0 {K : Nat} {p0 : List (Option (List (Int)))} {p1 : List (Option (List (Int)))} {p2 : Int} {p3 : Int} (h0 : sync_atomic_Bool_Load K p0 p1 p2 p3 = some ()) : Fn Try.prog 97 [.pf 0 (tcs p0).length 0] [(0, some (.foc (tcs p0) [.int .u32 0, .int .i32 0, .int .u32 0, .nils] (pst p1 p2 p3)))] (.bool false) [(0, some (.foc (tcs p0) [.int .u32 0, .int .i32 0, .int .u32 0, .nils] (pst p1 p2 p3)))] := by
  exact boolLoad_fn rfl
theorem sync_atomic_Bool_Load.fnb : fnb Try.prog 97 = true := fnb_of Try.func97 rfl
def wave_modulo.res (_p0 : Int) (_p1 : Int) : Int → MV
  | q0 => .int .i64 q0
def wave_modulo.out (_p0 : Int) (_p1 : Int) : Int → List (Nat × Option MObj)
  | _ => []
theorem wave_modulo.ok {K : Nat} {p0 : Int} {p1 : Int} {r : Int} (h0 : wave_modulo K p0 p1 = some r) : Fn Try.prog 95 [.int .i64 p0, .int .i64 p1] [] (wave_modulo.res p0 p1 r) (wave_modulo.out p0 p1 r) := by
  refine Fn_of Try.func95 rfl (Nat.le_of_ble_eq_true rfl) fun Γ => ?_
  refine TC_seq ?_
  refine TC_reg ?_
  refine TL_ev env 1 rfl ⟨tv, tv⟩ ?_
  refine TL_end ?_
  refine TE_go ?_
  refine TC_seq ?_
  refine TC_reg ?_
  obtain ⟨g, h0⟩ := gd_t h0
  refine TL_ev env 4 rfl ⟨tv, ⟨tv, ⟨⟨tv, ⟨tv, g⟩⟩, ⟨tv, tv⟩⟩⟩⟩ ?_
  refine TL_end ?_
  refine TE_go ?_
  refine TC_seq ?_
  refine TC_seq ?_
  refine TC_reg ?_
  refine TL_ev env 2 rfl ⟨tv, ⟨⟨tv, ⟨tv, tv⟩⟩, tv⟩⟩ ?_
  refine TL_end ?_
  refine TE_go ?_
  obtain ⟨z1, h1, h0⟩ := bnd h0
  refine TC_cut (α := Int) (fun s => z1 = s) (fun s => [(0, .int .i64 s)]) (fun s => []) ?_ ?_
  · refine TC_cond rfl (fun hb => ?_) (fun hb => ?_)
    · replace h1 := bif_t h1 hb
      refine TC_reg ?_
      refine TL_ev env 4 rfl ⟨tv, ⟨tv, ⟨⟨tv, ⟨tv, tv⟩⟩, ⟨tv, tv⟩⟩⟩⟩ ?_
      refine TL_end ?_
      obtain rfl := sinj h1
      refine tsn ?_
      exact SP_ren [] _ rfl ⟨rfl, tv⟩ tv rfl
    · replace h1 := bif_f h1 hb
      refine TC_skip ?_
      obtain rfl := sinj h1
      refine tsn ?_
      exact SP_ren [] _ rfl ⟨rfl, tv⟩ tv rfl
  · rintro x4 hz
    obtain rfl := hz.symm
    refine TE_go ?_
    refine TC_seq ?_
    refine TC_reg ?_
    refine TL_ev env 2 rfl ⟨tv, ⟨tv, tv⟩⟩ ?_
    refine TL_end ?_
    refine TE_go ?_
    refine TC_ret ?_
    obtain rfl := sinj h0
    exact TE_ret env rfl tv tv
theorem wave_modulo.ok0 {K : Nat} {p0 : Int} {p1 : Int} {q0 : Int} (h0 : wave_modulo K p0 p1 = some q0) : Fn Try.prog 95 [.int .i64 p0, .int .i64 p1] [] (.int .i64 q0) [] := wave_modulo.ok h0
theorem wave_modulo.fnb : fnb Try.prog 95 = true := fnb_of Try.func95 rfl
def wave_height.res (_p0 : Int) (_p1 : Int) : Int × Int → MV
  | (q0, q1) => .tup [.int .u64 q0, .int .i64 q1]
def wave_height.out (_p0 : Int) (_p1 : Int) : Int × Int → List (Nat × Option MObj)
  | (_, _) => []
theorem wave_height.ok {K : Nat} {p0 : Int} {p1 : Int} {r : Int × Int} (h0 : wave_height K p0 p1 = some r) : Fn Try.prog 100 [.int .i64 p0, .int .i64 p1] [] (wave_height.res p0 p1 r) (wave_height.out p0 p1 r) := by
  refine Fn_of Try.func100 rfl (Nat.le_of_ble_eq_true rfl) fun Γ => ?_
  refine TC_seq ?_
  refine TC_reg ?_
  refine TL_ev env 2 rfl ⟨tv, ⟨tv, tv⟩⟩ ?_
  refine TL_end ?_
  refine TE_go ?_
  refine TC_seq ?_
  refine TC_reg ?_
  refine TL_ev env 2 rfl ⟨tv, ⟨tv, tv⟩⟩ ?_
  obtain ⟨r3, hr, h0⟩ := bnd h0
  refine TL_callB [] (wave_modulo.ok0 hr) wave_modulo.fnb rfl ⟨tv, ⟨tv, ⟨tv, tv⟩⟩⟩ rfl tv rfl ?_
  refine TL_ev env 2 rfl ⟨⟨tv, ⟨tv, tv⟩⟩, ⟨tv, tv⟩⟩ ?_
  refine TL_end ?_
  refine TE_go ?_
  refine TC_seq ?_
  refine TC_reg ?_
  obtain ⟨g, h0⟩ := gd_t h0
  refine TL_ev env 4 rfl ⟨tv, ⟨tv, ⟨⟨tv, ⟨tv, g⟩⟩, ⟨tv, tv⟩⟩⟩⟩ ?_
  refine TL_end ?_
  refine TE_go ?_
  refine TC_seq ?_
  refine TC_reg ?_
  obtain ⟨g, h0⟩ := gd_t h0
  refine TL_ev env 4 rfl ⟨tv, ⟨tv, ⟨⟨tv, ⟨tv, g⟩⟩, ⟨tv, tv⟩⟩⟩⟩ ?_
  refine TL_end ?_
  refine TE_go ?_
  refine TC_seq ?_
  refine TC_seq ?_
  refine TC_reg ?_
  refine TL_ev env 3 rfl ⟨tv, ⟨⟨tv, ⟨tv, tv⟩⟩, ⟨⟨tv, ⟨tv, tv⟩⟩, tv⟩⟩⟩ ?_
  refine TL_end ?_
  refine TE_go ?_
  obtain ⟨z1, h1, h0⟩ := bnd h0
  refine TC_cut (α := Int) (fun s => z1 = s) (fun s => [(1, .int .i64 p1), (5, .int .i64 (kwrap .i64 (Int.tdiv (kwrap .i64 (4 * r3)) p1))), (7, .int .i64 s)]) (fun s => []) ?_ ?_
  · refine TC_cond rfl (fun hb => ?_) (fun hb => ?_)
    · replace h1 := bif_t h1 hb
      refine TC_reg ?_
      refine TL_ev env 4 rfl ⟨tv, ⟨tv, ⟨⟨tv, ⟨tv, tv⟩⟩, ⟨tv, tv⟩⟩⟩⟩ ?_
      refine TL_end ?_
      obtain rfl := sinj h1
      refine tsn ?_
      exact SP_ren [] _ rfl ⟨rfl, rfl, rfl, tv⟩ tv rfl
    · replace h1 := bif_f h1 hb
      refine TC_skip ?_
      obtain rfl := sinj h1
      refine tsn ?_
      exact SP_ren [] _ rfl ⟨rfl, rfl, rfl, tv⟩ tv rfl
  · rintro x8 hz
    obtain rfl := hz.symm
    refine TE_go ?_
    refine TC_seq ?_
    refine TC_reg ?_
    obtain ⟨g, h0⟩ := gd_t h0
    refine TL_ev env 9 rfl ⟨tv, ⟨tv, ⟨⟨tv, ⟨tv, (by decide)⟩⟩, ⟨tv, ⟨tv, ⟨⟨tv, ⟨tv, g⟩⟩, ⟨tv, ⟨tv, ⟨tv, tv⟩⟩⟩⟩⟩⟩⟩⟩⟩ ?_
    refine TL_end ?_
    refine TE_go ?_
    refine TC_ret ?_
    obtain rfl := sinj h0
    exact TE_ret env rfl tv tv
theorem wave_height.ok0 {K : Nat} {p0 : Int} {p1 : Int} {q0 : Int} {q1 : Int} (h0 : wave_height K p0 p1 = some (q0, q1)) : Fn Try.prog 100 [.int .i64 p0, .int .i64 p1] [] (.tup [.int .u64 q0, .int .i64 q1]) [] := wave_height.ok h0
theorem wave_height.fnb : fnb Try.prog 100 = true := fnb_of Try.func100 rfl
def fix_within_int.res (_p0 : Int) (_p1 : Int) (_p2 : Int) : Int → MV
  | q0 => .int .i64 q0
def fix_within_int.out (_p0 : Int) (_p1 : Int) (_p2 : Int) : Int → List (Nat × Option MObj)
  | _ => []
theorem fix_within_int.ok {K : Nat} {p0 : Int} {p1 : Int} {p2 : Int} {r : Int} (h0 : fix_within_int K p0 p1 p2 = some r) : Fn Try.prog 73 [.int .i64 p0, .int .i64 p1, .int .i64 p2] [] (fix_within_int.res p0 p1 p2 r) (fix_within_int.out p0 p1 p2 r) := by
  refine Fn_of Try.func73 rfl (Nat.le_of_ble_eq_true rfl) fun Γ => ?_
  refine TC_seq ?_
  refine TC_reg ?_
  refine TL_ev env 1 rfl ⟨tv, tv⟩ ?_
  refine TL_end ?_
  refine TE_go ?_
  refine TC_seq ?_
  refine TC_blk ?_
  refine TC_seq ?_
  refine TC_reg ?_
  refine TL_ev env 4 rfl ⟨tv, ⟨tv, ⟨⟨tv, ⟨tv, tv⟩⟩, ⟨tv, tv⟩⟩⟩⟩ ?_
  refine TL_end ?_
  refine TE_go ?_
  refine TC_cond rfl (fun hb => ?_) (fun hb => ?_)
  · replace h0 := bif_t h0 hb
    refine TC_seq ?_
    refine TC_reg ?_
    refine TL_ev env 2 rfl ⟨tv, ⟨tv, tv⟩⟩ ?_
    refine TL_end ?_
    refine TE_go ?_
    refine TC_ret ?_
    refine tbr ?_
    refine tsr ?_
    obtain rfl := sinj h0
    exact TE_ret env rfl tv tv
  · replace h0 := bif_f h0 hb
    refine TC_seq ?_
    refine TC_reg ?_
    refine TL_ev env 4 rfl ⟨tv, ⟨tv, ⟨⟨tv, ⟨tv, tv⟩⟩, ⟨tv, tv⟩⟩⟩⟩ ?_
    refine TL_end ?_
    refine TE_go ?_
    refine TC_cond rfl (fun hb => ?_) (fun hb => ?_)
    · replace h0 := bif_t h0 hb
      refine TC_seq ?_
      refine TC_reg ?_
      refine TL_ev env 2 rfl ⟨tv, ⟨tv, tv⟩⟩ ?_
      refine TL_end ?_
      refine TE_go ?_
      refine TC_ret ?_
      refine tbr ?_
      refine tsr ?_
      obtain rfl := sinj h0
      exact TE_ret env rfl tv tv
    · replace h0 := bif_f h0 hb
      refine TC_skip ?_
      refine tbn ?_
      refine TE_go ?_
      refine TC_seq ?_
      refine TC_reg ?_
      refine TL_ev env 2 rfl ⟨tv, ⟨tv, tv⟩⟩ ?_
      refine TL_end ?_
      refine TE_go ?_
      refine TC_ret ?_
      obtain rfl := sinj h0
      exact TE_ret env rfl tv tv
theorem fix_within_int.ok0 {K : Nat} {p0 : Int} {p1 : Int} {p2 : Int} {q0 : Int} (h0 : fix_within_int K p0 p1 p2 = some q0) : Fn Try.prog 73 [.int .i64 p0, .int .i64 p1, .int .i64 p2] [] (.int .i64 q0) [] := fix_within_int.ok h0
theorem fix_within_int.fnb : fnb Try.prog 73 = true := fnb_of Try.func73 rfl
def fix_Round.res (_p0 : Int) (_p1 : Int) : Int → MV
  | q0 => .int .i64 q0
def fix_Round.out (_p0 : Int) (_p1 : Int) : Int → List (Nat × Option MObj)
  | _ => []
theorem fix_Round.ok {K : Nat} {p0 : Int} {p1 : Int} {r : Int} (h0 : fix_Round K p0 p1 = some r) : Fn Try.prog 48 [.int .i64 p0, .int .i64 p1] [] (fix_Round.res p0 p1 r) (fix_Round.out p0 p1 r) := by
  refine Fn_of Try.func48 rfl (Nat.le_of_ble_eq_true rfl) fun Γ => ?_
  refine TC_seq ?_
  refine TC_reg ?_
  refine TL_ev env 1 rfl ⟨tv, tv⟩ ?_
  refine TL_end ?_
  refine TE_go ?_
  refine TC_seq ?_
  refine TC_reg ?_
  refine TL_ev env 1 rfl ⟨tv, tv⟩ ?_
  obtain ⟨r2, hr, h0⟩ := bnd h0
  refine TL_callB [] (fix_within_int.ok0 hr) fix_within_int.fnb rfl ⟨tv, ⟨tv, ⟨tv, ⟨tv, tv⟩⟩⟩⟩ rfl tv rfl ?_
  refine TL_ev env 1 rfl ⟨tv, tv⟩ ?_
  refine TL_end ?_
  refine TE_go ?_
  refine TC_seq ?_
  refine TC_seq ?_
  refine TC_reg ?_
  refine TL_ev env 2 rfl ⟨tv, ⟨⟨tv, ⟨tv, tv⟩⟩, tv⟩⟩ ?_
  refine TL_end ?_
  refine TE_go ?_
  refine TC_cond rfl (fun hb => ?_) (fun hb => ?_)
  · replace h0 := bif_t h0 hb
    refine TC_seq ?_
    refine TC_reg ?_
    refine TL_ev env 2 rfl ⟨tv, ⟨tv, tv⟩⟩ ?_
    refine TL_end ?_
    refine TE_go ?_
    refine TC_ret ?_
    refine tsr ?_
    obtain rfl := sinj h0
    exact TE_ret env rfl tv tv
  · replace h0 := bif_f h0 hb
    refine TC_skip ?_
    refine TE_go ?_
    refine TC_seq ?_
    refine TC_renw (A' := [(0, .int .i64 _), (1, .int .i64 _), (4, .int .i64 0)]) (L' := []) [] ⟨rfl, rfl, rfl, tv⟩ tv rfl ?_
    refine TC_drawR ⟨_, fun i => ([[], [], [1, 0], [], [], [4], [5, 4, 3], [6, 5, 4, 3], [7, 6, 5, 4, 3, 2, 1, 0], [8, 7, 6, 5, 4, 3, 2, 1, 0]] : List (List Nat)).getD i [], fun i => ([[], [], [], [], [], [], [], [], [], []] : List (List Nat)).getD i [], fun i => ([[], [], [], [], [], [], [], [], [], []] : List (List Nat)).getD i []⟩ (fun i => ([[], [], [], [], [], [], [], [], [], []] : List (List Nat)).getD i []) (by kernel_rfl) (by kernel_rfl) ?_
    refine AJR_ev env 1 rfl (Nat.le_of_ble_eq_true rfl) rfl tv ?_
    refine AJR_ev env 2 rfl (Nat.le_of_ble_eq_true rfl) rfl tv ?_
    obtain ⟨g, h0⟩ := gd_t h0
    refine AJR_ev env 3 rfl (Nat.le_of_ble_eq_true rfl) rfl ⟨tv, ⟨tv, g⟩⟩ ?_
    refine AJR_ev env 4 rfl (Nat.le_of_ble_eq_true rfl) rfl tv ?_
    refine AJR_ev env 5 rfl (Nat.le_of_ble_eq_true rfl) rfl tv ?_
    refine AJR_ev env 6 rfl (Nat.le_of_ble_eq_true rfl) rfl ⟨tv, ⟨tv, tv⟩⟩ ?_
    obtain ⟨g, h0⟩ := gd_t h0
    refine AJR_ev env 7 rfl (Nat.le_of_ble_eq_true rfl) rfl ⟨tv, ⟨tv, g⟩⟩ ?_
    refine AJR_ev env 8 rfl (Nat.le_of_ble_eq_true rfl) rfl ⟨tv, ⟨tv, tv⟩⟩ ?_
    refine AJR_ev env 9 rfl (Nat.le_of_ble_eq_true rfl) rfl ⟨tv, ⟨tv, tv⟩⟩ ?_
    refine AJR_ev env 10 rfl (Nat.le_of_ble_eq_true rfl) rfl tv ?_
    refine AJR_end rfl rfl rfl ?_
    refine TE_go ?_
    refine TC_ret ?_
    obtain rfl := sinj h0
    exact TE_ret env rfl tv tv
theorem fix_Round.ok0 {K : Nat} {p0 : Int} {p1 : Int} {q0 : Int} (h0 : fix_Round K p0 p1 = some q0) : Fn Try.prog 48 [.int .i64 p0, .int .i64 p1] [] (.int .i64 q0) [] := fix_Round.ok h0
theorem fix_Round.fnb : fnb Try.prog 48 = true := fnb_of Try.func48 rfl
def fix_within_int64.res (_p0 : Int) (_p1 : Int) (_p2 : Int) : Int → MV
  | q0 => .int .i64 q0
def fix_within_int64.out (_p0 : Int) (_p1 : Int) (_p2 : Int) : Int → List (Nat × Option MObj)
  | _ => []
theorem fix_within_int64.ok {K : Nat} {p0 : Int} {p1 : Int} {p2 : Int} {r : Int} (h0 : fix_within_int64 K p0 p1 p2 = some r) : Fn Try.prog 72 [.int .i64 p0, .int .i64 p1, .int .i64 p2] [] (fix_within_int64.res p0 p1 p2 r) (fix_within_int64.out p0 p1 p2 r) := by
  refine Fn_of Try.func72 rfl (Nat.le_of_ble_eq_true rfl) fun Γ => ?_
  refine TC_seq ?_
  refine TC_reg ?_
  refine TL_ev env 1 rfl ⟨tv, tv⟩ ?_
  refine TL_end ?_
  refine TE_go ?_
  refine TC_seq ?_
  refine TC_blk ?_
  refine TC_seq ?_
  refine TC_reg ?_
  refine TL_ev env 4 rfl ⟨tv, ⟨tv, ⟨⟨tv, ⟨tv, tv⟩⟩, ⟨tv, tv⟩⟩⟩⟩ ?_
  refine TL_end ?_
  refine TE_go ?_
  refine TC_cond rfl (fun hb => ?_) (fun hb => ?_)
  · replace h0 := bif_t h0 hb
    refine TC_seq ?_
    refine TC_reg ?_
    refine TL_ev env 2 rfl ⟨tv, ⟨tv, tv⟩⟩ ?_
    refine TL_end ?_
    refine TE_go ?_
    refine TC_ret ?_
    refine tbr ?_
    refine tsr ?_
    obtain rfl := sinj h0
    exact TE_ret env rfl tv tv
  · replace h0 := bif_f h0 hb
    refine TC_seq ?_
    refine TC_reg ?_
    refine TL_ev env 4 rfl ⟨tv, ⟨tv, ⟨⟨tv, ⟨tv, tv⟩⟩, ⟨tv, tv⟩⟩⟩⟩ ?_
    refine TL_end ?_
    refine TE_go ?_
    refine TC_cond rfl (fun hb => ?_) (fun hb => ?_)
    · replace h0 := bif_t h0 hb
      refine TC_seq ?_
      refine TC_reg ?_
      refine TL_ev env 2 rfl ⟨tv, ⟨tv, tv⟩⟩ ?_
      refine TL_end ?_
      refine TE_go ?_
      refine TC_ret ?_
      refine tbr ?_
      refine tsr ?_
      obtain rfl := sinj h0
      exact TE_ret env rfl tv tv
    · replace h0 := bif_f h0 hb
      refine TC_skip ?_
      refine tbn ?_
      refine TE_go ?_
      refine TC_seq ?_
      refine TC_reg ?_
      refine TL_ev env 2 rfl ⟨tv, ⟨tv, tv⟩⟩ ?_
      refine TL_end ?_
      refine TE_go ?_
      refine TC_ret ?_
      obtain rfl := sinj h0
      exact TE_ret env rfl tv tv
theorem fix_within_int64.ok0 {K : Nat} {p0 : Int} {p1 : Int} {p2 : Int} {q0 : Int} (h0 : fix_within_int64 K p0 p1 p2 = some q0) : Fn Try.prog 72 [.int .i64 p0, .int .i64 p1, .int .i64 p2] [] (.int .i64 q0) [] := fix_within_int64.ok h0
theorem fix_within_int64.fnb : fnb Try.prog 72 = true := fnb_of Try.func72 rfl
def fix_Clip.res (_p0 : Int) (_p1 : Int) (_p2 : Int) : Int → MV
  | q0 => .int .i64 q0
def fix_Clip.out (_p0 : Int) (_p1 : Int) (_p2 : Int) : Int → List (Nat × Option MObj)
  | _ => []
theorem fix_Clip.ok {K : Nat} {p0 : Int} {p1 : Int} {p2 : Int} {r : Int} (h0 : fix_Clip K p0 p1 p2 = some r) : Fn Try.prog 101 [.int .i64 p0, .int .i64 p1, .int .i64 p2] [] (fix_Clip.res p0 p1 p2 r) (fix_Clip.out p0 p1 p2 r) := by
  refine Fn_of Try.func101 rfl (Nat.le_of_ble_eq_true rfl) fun Γ => ?_
  refine TC_seq ?_
  refine TC_reg ?_
  refine TL_ev env 1 rfl ⟨tv, tv⟩ ?_
  refine TL_end ?_
  refine TE_go ?_
  refine TC_seq ?_
  refine TC_reg ?_
  refine TL_ev env 3 rfl ⟨tv, ⟨tv, ⟨tv, tv⟩⟩⟩ ?_
  obtain ⟨r2, hr, h0⟩ := bnd h0
  refine TL_callB [] (fix_within_int64.ok0 hr) fix_within_int64.fnb rfl ⟨tv, ⟨tv, ⟨tv, ⟨tv, tv⟩⟩⟩⟩ rfl tv rfl ?_
  refine TL_ev env 1 rfl ⟨tv, tv⟩ ?_
  refine TL_end ?_
  refine TE_go ?_
  refine TC_ret ?_
  obtain rfl := sinj h0
  exact TE_ret env rfl tv tv
theorem fix_Clip.ok0 {K : Nat} {p0 : Int} {p1 : Int} {p2 : Int} {q0 : Int} (h0 : fix_Clip K p0 p1 p2 = some q0) : Fn Try.prog 101 [.int .i64 p0, .int .i64 p1, .int .i64 p2] [] (.int .i64 q0) [] := fix_Clip.ok h0
theorem fix_Clip.fnb : fnb Try.prog 101 = true := fnb_of Try.func101 rfl
def wave_sine.res (_p0 : Int) (_p1 : Int) : Int → MV
  | q0 => .int .i16 q0
def wave_sine.out (_p0 : Int) (_p1 : Int) : Int → List (Nat × Option MObj)
  | _ => []
theorem wave_sine.ok {K : Nat} {p0 : Int} {p1 : Int} {r : Int} (h0 : wave_sine K p0 p1 = some r) : Fn Try.prog 92 [.int .i64 p0, .int .i64 p1] [] (wave_sine.res p0 p1 r) (wave_sine.out p0 p1 r) := by
  refine Fn_of Try.func92 rfl (Nat.le_of_ble_eq_true rfl) fun Γ => ?_
  refine TC_seq ?_
  refine TC_reg ?_
  refine TL_ev env 1 rfl ⟨tv, tv⟩ ?_
  refine TL_end ?_
  refine TE_go ?_
  refine TC_seq ?_
  refine TC_reg ?_
  refine TL_ev env 2 rfl ⟨tv, ⟨tv, tv⟩⟩ ?_
  obtain ⟨⟨r11, r12⟩, hr, h0⟩ := bnd h0
  refine TL_callB [] (wave_height.ok0 hr) wave_height.fnb rfl ⟨tv, ⟨tv, ⟨tv, tv⟩⟩⟩ rfl tv rfl ?_
  refine TL_ev env 5 rfl ⟨tv, ⟨tv, ⟨tv, ⟨tv, ⟨tv, tv⟩⟩⟩⟩⟩ ?_
  refine TL_end ?_
  refine TE_go ?_
  refine TC_seq ?_
  refine TC_reg ?_
  refine TL_ev env 5 rfl ⟨tv, ⟨tv, ⟨⟨tv, ⟨tv, tv⟩⟩, ⟨⟨tv, ⟨tv, (by decide)⟩⟩, ⟨tv, tv⟩⟩⟩⟩⟩ ?_
  refine TL_end ?_
  refine TE_go ?_
  refine TC_seq ?_
  refine TC_reg ?_
  refine TL_ev env 1 rfl ⟨tv, tv⟩ ?_
  refine TL_end ?_
  refine TE_go ?_
  refine TC_seq ?_
  refine TC_seq ?_
  refine TC_reg ?_
  refine TL_ev env 2 rfl ⟨⟨tv, ⟨tv, ⟨tv, ⟨tv, tv⟩⟩⟩⟩, ⟨tv, tv⟩⟩ ?_
  refine TL_end ?_
  refine TE_go ?_
  obtain ⟨z1, h1, h0⟩ := bnd h0
  refine TC_cut (α := Int) (fun s => z1 = s) (fun s => [(5, .int .u64 r11), (6, .int .i64 r12), (8, .int .u64 s)]) (fun s => []) ?_ ?_
  · refine TC_blk ?_
    refine TC_loop (α := Int × Int) (fun n s => wave_sine.l0 K r11 r12 (kshr .u64 (kwrap .u64 (r11 * r11)) 30) n s.1 s.2 = some z1) (fun s => [(5, .int .u64 r11), (6, .int .i64 r12), (7, .int .u64 (kshr .u64 (kwrap .u64 (r11 * r11)) 30)), (8, .int .u64 s.1), (22, .agg [.int .u64 5026995, .int .u64 85569306, .int .u64 693598668, .int .u64 1686629713]), (23, .int .i64 s.2)]) (fun s => []) K ?_ ?_
    · exact SP_ren [] (_, _) h1 ⟨rfl, rfl, rfl, rfl, rfl, rfl, tv⟩ tv rfl
    rintro n ⟨x27, x28⟩ h1
    rcases n with _ | n
    · exact (nsome h1).elim
    replace h1 : wave_sine.r0 K r11 r12 (kshr .u64 (kwrap .u64 (r11 * r11)) 30) (wave_sine.l0 K r11 r12 (kshr .u64 (kwrap .u64 (r11 * r11)) 30) n) x27 x28 = some z1 := h1
    refine TC_seq ?_
    refine TC_reg ?_
    refine TL_ev env 1 rfl ⟨⟨tv, ⟨tv, tv⟩⟩, tv⟩ ?_
    refine TL_end ?_
    refine TE_go ?_
    refine TC_seq ?_
    refine TC_cond rfl (fun hb => ?_) (fun hb => ?_)
    · replace h1 := bif_t h1 hb
      refine TC_skip ?_
      refine TE_go ?_
      refine TC_seq ?_
      refine TC_blk ?_
      refine TC_seq ?_
      refine TC_reg ?_
      obtain ⟨g, h1⟩ := gd_t h1
      refine TL_ev env 2 rfl ⟨⟨tv, ⟨tv, ⟨g.1, g.2⟩⟩⟩, ⟨tv, tv⟩⟩ ?_
      refine TL_end ?_
      refine TE_go ?_
      refine TC_reg ?_
      refine TL_ev env 7 rfl ⟨tv, ⟨tv, ⟨tv, ⟨⟨tv, ⟨tv, tv⟩⟩, ⟨⟨tv, ⟨tv, (by decide)⟩⟩, ⟨⟨tv, ⟨tv, tv⟩⟩, ⟨tv, tv⟩⟩⟩⟩⟩⟩⟩ ?_
      refine TL_end ?_
      refine tbn ?_
      refine TE_go ?_
      refine TC_reg ?_
      refine TL_ev env 2 rfl ⟨⟨tv, ⟨tv, tv⟩⟩, ⟨tv, tv⟩⟩ ?_
      refine TL_end ?_
      refine tsn ?_
      exact TE_nextr [] n (Nat.lt_succ_self n) (_, _) h1 ⟨rfl, rfl, rfl, rfl, rfl, rfl, tv⟩ tv rfl
    · replace h1 := bif_f h1 hb
      refine TC_exit ?_
      refine tsx ?_
      refine tsx ?_
      refine tbe ?_
      obtain rfl := sinj h1
      refine tsn ?_
      exact SP_ren [] _ rfl ⟨rfl, rfl, rfl, tv⟩ tv rfl
  · rintro x19 hz
    obtain rfl := hz.symm
    refine TE_go ?_
    refine TC_seq ?_
    refine TC_reg ?_
    refine TL_ev env 5 rfl ⟨tv, ⟨tv, ⟨⟨tv, ⟨tv, tv⟩⟩, ⟨⟨tv, ⟨tv, (by decide)⟩⟩, ⟨tv, tv⟩⟩⟩⟩⟩ ?_
    obtain ⟨r23, hr, h0⟩ := bnd h0
    refine TL_callB [] (fix_Round.ok0 hr) fix_Round.fnb rfl ⟨tv, ⟨tv, ⟨tv, tv⟩⟩⟩ rfl tv rfl ?_
    obtain ⟨r24, hr, h0⟩ := bnd h0
    refine TL_callB [] (fix_Clip.ok0 hr) fix_Clip.fnb rfl ⟨tv, ⟨tv, ⟨tv, ⟨tv, tv⟩⟩⟩⟩ rfl tv rfl ?_
    refine TL_ev env 1 rfl ⟨tv, tv⟩ ?_
    refine TL_end ?_
    refine TE_go ?_
    refine TC_seq ?_
    refine TC_seq ?_
    refine TC_reg ?_
    refine TL_ev env 2 rfl ⟨tv, ⟨⟨tv, ⟨tv, tv⟩⟩, tv⟩⟩ ?_
    refine TL_end ?_
    refine TE_go ?_
    obtain ⟨z1, h1, h0⟩ := bnd h0
    refine TC_cut (α := Int) (fun s => z1 = s) (fun s => [(11, .int .i64 s)]) (fun s => []) ?_ ?_
    · refine TC_cond rfl (fun hb => ?_) (fun hb => ?_)
      · replace h1 := bif_t h1 hb
        refine TC_reg ?_
        refine TL_ev env 3 rfl ⟨tv, ⟨tv, ⟨tv, tv⟩⟩⟩ ?_
        refine TL_end ?_
        obtain rfl := sinj h1
        refine tsn ?_
        exact SP_ren [] _ rfl ⟨rfl, tv⟩ tv rfl
      · replace h1 := bif_f h1 hb
        refine TC_skip ?_
        obtain rfl := sinj h1
        refine tsn ?_
        exact SP_ren [] _ rfl ⟨rfl, tv⟩ tv rfl
    · rintro x26 hz
      obtain rfl := hz.symm
      refine TE_go ?_
      refine TC_seq ?_
      refine TC_reg ?_
      refine TL_ev env 3 rfl ⟨tv, ⟨tv, ⟨tv, tv⟩⟩⟩ ?_
      refine TL_end ?_
      refine TE_go ?_
      refine TC_ret ?_
      obtain rfl := sinj h0
      exact TE_ret env rfl tv tv
theorem wave_sine.ok0 {K : Nat} {p0 : Int} {p1 : Int} {q0 : Int} (h0 : wave_sine K p0 p1 = some q0) : Fn Try.prog 92 [.int .i64 p0, .int .i64 p1] [] (.int .i16 q0) [] := wave_sine.ok h0
theorem wave_sine.fnb : fnb Try.prog 92 = true := fnb_of Try.func92 rfl
def wave_Sine.res (_p0 : Int) (_p1 : Int) : Int × Int → MV
  | (q0, q1) => .tup [.int .i16 q0, .int .i64 q1]
def wave_Sine.out (_p0 : Int) (_p1 : Int) : Int × Int → List (Nat × Option MObj)
  | (_, _) => []
theorem wave_Sine.ok {K : Nat} {p0 : Int} {p1 : Int} {r : Int × Int} (h0 : wave_Sine K p0 p1 = some r) : Fn Try.prog 80 [.int .i64 p0, .int .i64 p1] [] (wave_Sine.res p0 p1 r) (wave_Sine.out p0 p1 r) := by
  refine Fn_of Try.func80 rfl (Nat.le_of_ble_eq_true rfl) fun Γ => ?_
  refine TC_seq ?_
  refine TC_reg ?_
  refine TL_ev env 2 rfl ⟨tv, ⟨tv, tv⟩⟩ ?_
  refine TL_end ?_
  refine TE_go ?_
  refine TC_seq ?_
  refine TC_seq ?_
  refine TC_reg ?_
  refine TL_ev env 6 rfl ⟨tv, ⟨⟨tv, ⟨tv, tv⟩⟩, ⟨tv, ⟨fun eg => tv, ⟨fun eg => ⟨fun e => e, ⟨tv, tv⟩⟩, ⟨⟨tv, ⟨tv, fun e => e⟩⟩, tv⟩⟩⟩⟩⟩⟩ ?_
  refine TL_end ?_
  refine TE_go ?_
  refine TC_cond rfl (fun hb => ?_) (fun hb => ?_)
  · replace h0 := bif_t h0 hb
    refine TC_seq ?_
    refine TC_reg ?_
    refine TL_ev env 2 rfl ⟨tv, ⟨tv, tv⟩⟩ ?_
    refine TL_end ?_
    refine TE_go ?_
    refine TC_ret ?_
    refine tsr ?_
    obtain rfl := sinj h0
    exact TE_ret env rfl tv tv
  · replace h0 := bif_f h0 hb
    refine TC_skip ?_
    refine TE_go ?_
    refine TC_seq ?_
    refine TC_reg ?_
    refine TL_ev env 2 rfl ⟨tv, ⟨tv, tv⟩⟩ ?_
    obtain ⟨r5, hr, h0⟩ := bnd h0
    refine TL_callB [] (wave_sine.ok0 hr) wave_sine.fnb rfl ⟨tv, ⟨tv, ⟨tv, tv⟩⟩⟩ rfl tv rfl ?_
    refine TL_ev env 2 rfl ⟨tv, ⟨tv, tv⟩⟩ ?_
    refine TL_end ?_
    refine TE_go ?_
    refine TC_ret ?_
    obtain rfl := sinj h0
    exact TE_ret env rfl tv tv
theorem wave_Sine.ok0 {K : Nat} {p0 : Int} {p1 : Int} {q0 : Int} {q1 : Int} (h0 : wave_Sine K p0 p1 = some (q0, q1)) : Fn Try.prog 80 [.int .i64 p0, .int .i64 p1] [] (.tup [.int .i16 q0, .int .i64 q1]) [] := wave_Sine.ok h0
theorem wave_Sine.fnb : fnb Try.prog 80 = true := fnb_of Try.func80 rfl
def bank_Bank_Slope_1.res (_p0 : Int) (_p1 : Int) : Int → MV
  | q0 => .int .i16 q0
def bank_Bank_Slope_1.out (_p0 : Int) (p1 : Int) : Int → List (Nat × Option MObj)
  | _ => [(0, some (.cells [.int .i64 p1]))]
theorem bank_Bank_Slope_1.ok {K : Nat} {p0 : Int} {p1 : Int} {r : Int} (h0 : bank_Bank_Slope_1 K p0 p1 = some r) : Fn Try.prog 79 [.int .i64 p0, .p 0 0] [(0, some (.cells [.int .i64 p1]))] (bank_Bank_Slope_1.res p0 p1 r) (bank_Bank_Slope_1.out p0 p1 r) := by
  refine Fn_of Try.func79 rfl (Nat.le_of_ble_eq_true rfl) fun Γ => ?_
  refine TC_seq ?_
  refine TC_reg ?_
  refine TL_ev env 1 rfl ⟨tv, tv⟩ ?_
  refine TL_end ?_
  refine TE_go ?_
  refine TC_seq ?_
  refine TC_reg ?_
  refine TL_ev env 5 rfl ⟨tv, ⟨⟨tv, ⟨tv, tv⟩⟩, ⟨⟨tv, ⟨tv, tv⟩⟩, ⟨⟨tv, tv⟩, ⟨⟨tv, ⟨tv, tv⟩⟩, tv⟩⟩⟩⟩⟩ ?_
  obtain ⟨⟨r6, r7⟩, hr, h0⟩ := bnd h0
  refine TL_callB [] (wave_Sine.ok0 hr) wave_Sine.fnb rfl ⟨tv, ⟨tv, ⟨tv, tv⟩⟩⟩ rfl tv rfl ?_
  refine TL_ev env 5 rfl ⟨tv, ⟨tv, ⟨tv, ⟨tv, ⟨tv, tv⟩⟩⟩⟩⟩ ?_
  refine TL_end ?_
  refine TE_go ?_
  refine TC_seq ?_
  refine TC_reg ?_
  refine TL_ev env 2 rfl ⟨tv, ⟨tv, tv⟩⟩ ?_
  refine TL_end ?_
  refine TE_go ?_
  refine TC_ret ?_
  obtain rfl := sinj h0
  exact TE_ret env rfl tv ⟨.inr rfl, tv⟩
theorem bank_Bank_Slope_1.ok0 {K : Nat} {p0 : Int} {p1 : Int} {q0 : Int} (h0 : bank_Bank_Slope_1 K p0 p1 = some q0) : Fn Try.prog 79 [.int .i64 p0, .p 0 0] [(0, some (.cells [.int .i64 p1]))] (.int .i16 q0) [(0, some (.cells [.int .i64 p1]))] := bank_Bank_Slope_1.ok h0
theorem bank_Bank_Slope_1.fnb : fnb Try.prog 79 = true := fnb_of Try.func79 rfl
theorem sync_atomic_Int64_Add.ok0 {K : Nat} {p0 : Int} {p1 : List (Option (List (Int)))} {p2 : List (Int)} {p3 : List (Option (List (Int)))} {p4 : Int} {p5 : Int} {q0 : Int} (h0 : sync_atomic_Int64_Add K p0 p1 p2 p3 p4 p5 = some q0) : Fn Try.prog 91 [.p 0 1552, .int .i64 p0] [(0, some (.foc (tcs p1) [.int .u32 0, .int .i32 1, .int .u32 0, .im (.slice (.int .i16)) p2] (pst p3 p4 p5)))] (.int .i64 q0) [(0, some (.foc (tcs p1) [.int .u32 0, .int .i32 1, .int .u32 0, .im (.slice (.int .i16)) p2] (pst p3 q0 p5)))] := by
  obtain ⟨g, h0⟩ := gd_t h0
  obtain rfl := sinj h0
  have hF := int64Add_fn (pre := tcs p1) (cs := [.int .u32 0, .int .i32 1, .int .u32 0, .im (.slice (.int .i16)) p2]) (y := p0) (c := 1552) (Lr := []) (by rw [tcs_len]; simp only [List.length_cons, List.length_nil]; omega) (pst_made p3 p4 p5)
  rw [pst_setm] at hF
  exact hF
theorem sync_atomic_Int64_Add.fnb : fnb Try.prog 91 = true := fnb_of Try.func91 rfl
def bank_Bank_tell_1.res (_p0 : List (Option (List (Int)))) (_p1 : List (Option (List (Int)))) (_p2 : Int) (_p3 : Int) (_p4 : Int) (_p5 : Int) : (List (Int)) × Int → MV
  | (_, _) => .tup []
def bank_Bank_tell_1.out (p0 : List (Option (List (Int)))) (p1 : List (Option (List (Int)))) (_p2 : Int) (p3 : Int) (p4 : Int) (p5 : Int) : (List (Int)) × Int → List (Nat × Option MObj)
  | (q0, q1) => [(0, some (.foc (tcs p0) [.int .u32 0, .int .i32 1, .int .u32 0, .im (.slice (.int .i16)) q0] (pst p1 q1 p3))), (1, some (.cells [.int .i64 p4])), (2, some (.cells [.pf 0 (tcs p0).length 0])), (3, some (.cells [.fn 79 [.p 5 0]])), (4, some (.cells [.p 0 0])), (5, some (.cells [.int .i64 p5]))]
theorem bank_Bank_tell_1.ok {K : Nat} {p0 : List (Option (List (Int)))} {p1 : List (Option (List (Int)))} {p2 : Int} {p3 : Int} {p4 : Int} {p5 : Int} {r : (List (Int)) × Int} (h0 : bank_Bank_tell_1 K p0 p1 p2 p3 p4 p5 = some r) : Fn Try.prog 90 [.p 1 0, .p 2 0, .p 3 0, .p 4 0] [(0, some (.foc (tcs p0) [.int .u32 0, .int .i32 1, .int .u32 0, .nils] (pst p1 p2 p3))), (1, some (.cells [.int .i64 p4])), (2, some (.cells [.pf 0 (tcs p0).length 0])), (3, some (.cells [.fn 79 [.p 5 0]])), (4, some (.cells [.p 0 0])), (5, some (.cells [.int .i64 p5]))] (bank_Bank_tell_1.res p0 p1 p2 p3 p4 p5 r) (bank_Bank_tell_1.out p0 p1 p2 p3 p4 p5 r) := by
  refine Fn_of Try.func90 rfl (Nat.le_of_ble_eq_true rfl) fun Γ => ?_
  refine TC_seq ?_
  refine TC_renw (A' := [(0, .p 1 0), (1, .p 2 0), (2, .p 3 0), (3, .p 4 0)]) (L' := [(0, some (.foc (tcs _) [.int .u32 0, .int .i32 1, .int .u32 0, .nils] (pst _ _ _))), (1, some (.cells [.int .i64 _])), (2, some (.cells [.pf 0 (tcs _).length 0])), (3, some (.cells [.fn 79 [.p 5 0]])), (4, some (.cells [.p 0 0])), (5, some (.cells [.int .i64 _]))]) [] ⟨rfl, rfl, rfl, rfl, tv⟩ ⟨rfl, rfl, rfl, rfl, rfl, rfl, tv⟩ rfl ?_
  refine TC_drawR ⟨_, fun i => ([[], [], [1], [2, 1, 0], [3, 2, 1, 0], [4, 3, 2, 1, 0]] : List (List Nat)).getD i [], fun i => ([[], [], [1007], [], [], [0]] : List (List Nat)).getD i [], fun i => ([[], [], [1007], [], [], []] : List (List Nat)).getD i []⟩ (fun i => ([[1007], [], [], [], [], []] : List (List Nat)).getD i []) (by kernel_rfl) (by kernel_rfl) ?_
  refine AJR_ev env 1 rfl (Nat.le_of_ble_eq_true rfl) rfl ⟨tv, tv⟩ ?_
  refine AJR_ev env 2 rfl (Nat.le_of_ble_eq_true rfl) rfl ⟨tv, tv⟩ ?_
  obtain ⟨g, h0⟩ := gd_t h0
  refine AJR_ev env 3 rfl (Nat.le_of_ble_eq_true rfl) rfl ⟨tv, ⟨tv, ⟨g.1, ⟨g.2.1, g.2.2⟩⟩⟩⟩ ?_
  refine AJR_ev env 4 rfl (Nat.le_of_ble_eq_true rfl) rfl tv ?_
  refine AJR_ev env 5 rfl (Nat.le_of_ble_eq_true rfl) rfl tv ?_
  refine AJR_ev env 6 rfl (Nat.le_of_ble_eq_true rfl) rfl ⟨tv, ⟨tv, rfl⟩⟩ ?_
  refine AJR_end rfl rfl rfl ?_
  refine TE_go ?_
  refine TC_seq ?_
  refine TC_seq ?_
  refine TC_reg ?_
  refine TL_ev env 6 rfl ⟨⟨tv, tv⟩, ⟨tv, ⟨tv, ⟨⟨tv, rfl⟩, ⟨⟨tv, tv⟩, ⟨tv, tv⟩⟩⟩⟩⟩⟩ ?_
  refine TL_end ?_
  refine TE_go ?_
  obtain ⟨z1, h1, h0⟩ := bnd h0
  refine TC_cut (α := (List (Int))) (fun s => z1 = s) (fun s => [(3, .p 4 0)]) (fun s => [(0, some (.foc (tcs p0) [.int .u32 0, .int .i32 1, .int .u32 0, .sl 10806] (pst p1 p2 p3))), (1, some (.cells [.int .i64 p4])), (2, some (.cells [.pf 0 (tcs p0).length 0])), (3, some (.cells [.fn 79 [.p 5 0]])), (4, some (.cells [.p 0 0])), (5, some (.cells [.int .i64 p5])), (10806, some (.rows (.int .i16) s))]) ?_ ?_
  · refine TC_blk ?_
    refine TC_loop (α := Int × (List (Int))) (fun n s => bank_Bank_tell_1.l0 K ((List.replicate (Int.toNat p4) (0 : Int)).length : Int) p0 p1 p2 p3 p4 p5 n s.1 s.2 = some z1) (fun s => [(1, .p 2 0), (2, .p 3 0), (3, .p 4 0), (14, .int .i64 ((List.replicate (Int.toNat p4) (0 : Int)).length : Int)), (15, .int .i64 s.1)]) (fun s => [(0, some (.foc (tcs p0) [.int .u32 0, .int .i32 1, .int .u32 0, .sl 11006] (pst p1 p2 p3))), (1, some (.cells [.int .i64 p4])), (2, some (.cells [.pf 0 (tcs p0).length 0])), (3, some (.cells [.fn 79 [.p 5 0]])), (4, some (.cells [.p 0 0])), (5, some (.cells [.int .i64 p5])), (11006, some (.rows (.int .i16) s.2))]) K ?_ ?_
    · exact SP_ren [(11006, 1007)] (_, _) h1 ⟨rfl, rfl, rfl, rfl, rfl, tv⟩ ⟨rfl, rfl, rfl, rfl, rfl, rfl, rfl, tv⟩ rfl
    rintro n ⟨x25, x26⟩ h1
    rcases n with _ | n
    · exact (nsome h1).elim
    replace h1 : bank_Bank_tell_1.r0 K ((List.replicate (Int.toNat p4) (0 : Int)).length : Int) p0 p1 p2 p3 p4 p5 (bank_Bank_tell_1.l0 K ((List.replicate (Int.toNat p4) (0 : Int)).length : Int) p0 p1 p2 p3 p4 p5 n) x25 x26 = some z1 := h1
    refine TC_seq ?_
    refine TC_reg ?_
    refine TL_ev env 1 rfl ⟨⟨tv, ⟨tv, tv⟩⟩, tv⟩ ?_
    refine TL_end ?_
    refine TE_go ?_
    refine TC_seq ?_
    refine TC_cond rfl (fun hb => ?_) (fun hb => ?_)
    · replace h1 := bif_t h1 hb
      refine TC_skip ?_
      refine TE_go ?_
      refine TC_seq ?_
      refine TC_blk ?_
      refine TC_seq ?_
      refine TC_reg ?_
      refine TL_ev env 2 rfl ⟨tv, ⟨tv, tv⟩⟩ ?_
      refine TL_end ?_
      refine TE_go ?_
      refine TC_renw (A' := [(1, .p 2 0), (2, .p 3 0), (3, .p 4 0), (4, .int .i64 _), (14, .int .i64 _), (15, .int .i64 _)]) (L' := [(0, some (.foc (tcs _) [.int .u32 0, .int .i32 1, .int .u32 0, .sl 11006] (pst _ _ _))), (1, some (.cells [.int .i64 _])), (2, some (.cells [.pf 0 (tcs _).length 0])), (3, some (.cells [.fn 79 [.p 5 0]])), (4, some (.cells [.p 0 0])), (5, some (.cells [.int .i64 _])), (11006, some (.rows (.int .i16) _))]) [] ⟨rfl, rfl, rfl, rfl, rfl, rfl, tv⟩ ⟨rfl, rfl, rfl, rfl, rfl, rfl, rfl, tv⟩ rfl ?_
      refine TC_drawR ⟨_, fun i => ([[], [0], [1, 0], [2, 1, 0], [], [], [], [6, 5], [7, 6, 5, 4, 3, 2, 1, 0], [8, 7, 6, 5, 4, 3, 2, 1, 0]] : List (List Nat)).getD i [], fun i => ([[], [], [], [], [], [], [], [], [], [11006]] : List (List Nat)).getD i [], fun i => ([[], [], [], [], [], [], [], [], [], []] : List (List Nat)).getD i []⟩ (fun i => ([[], [], [], [], [], [], [], [], [], []] : List (List Nat)).getD i []) (by kernel_rfl) (by kernel_rfl) ?_
      refine AJR_ev env 1 rfl (Nat.le_of_ble_eq_true rfl) rfl ⟨tv, tv⟩ ?_
      refine AJR_ev env 2 rfl (Nat.le_of_ble_eq_true rfl) rfl tv ?_
      refine AJR_ev env 3 rfl (Nat.le_of_ble_eq_true rfl) rfl tv ?_
      refine AJR_ev env 4 rfl (Nat.le_of_ble_eq_true rfl) rfl ⟨tv, rfl⟩ ?_
      refine AJR_ev env 5 rfl (Nat.le_of_ble_eq_true rfl) rfl tv ?_
      refine AJR_ev env 6 rfl (Nat.le_of_ble_eq_true rfl) rfl ⟨tv, tv⟩ ?_
      refine AJR_ev env 7 rfl (Nat.le_of_ble_eq_true rfl) rfl tv ?_
      obtain ⟨r33, hr, h1⟩ := bnd h1
      refine AJR_callS 8 rfl (Nat.le_of_ble_eq_true rfl) [(0, 5)] rfl (bank_Bank_Slope_1.ok0 hr) bank_Bank_Slope_1.fnb rfl ⟨tv, ⟨tv, tv⟩⟩ rfl ⟨.inr rfl, tv⟩ rfl ⟨⟨rfl, rfl⟩, tv⟩ ?_
      obtain ⟨g, h1⟩ := gd_t h1
      refine AJR_ev env 9 rfl (Nat.le_of_ble_eq_true rfl) rfl ⟨tv, ⟨tv, ⟨g.1, g.2⟩⟩⟩ ?_
      obtain ⟨g, h1⟩ := gd_t h1
      refine AJR_ev env 10 rfl (Nat.le_of_ble_eq_true rfl) rfl ⟨tv, ⟨tv, g⟩⟩ ?_
      refine AJR_end rfl rfl rfl ?_
      refine tbn ?_
      refine TE_go ?_
      refine TC_reg ?_
      refine TL_ev env 2 rfl ⟨⟨tv, ⟨tv, tv⟩⟩, ⟨tv, tv⟩⟩ ?_
      refine TL_end ?_
      refine tsn ?_
      exact TE_nextr [(11006, 11006)] n (Nat.lt_succ_self n) (_, _) h1 ⟨rfl, rfl, rfl, rfl, rfl, tv⟩ ⟨rfl, rfl, rfl, rfl, rfl, rfl, rfl, tv⟩ rfl
    · replace h1 := bif_f h1 hb
      refine TC_exit ?_
      refine tsx ?_
      refine tsx ?_
      refine tbe ?_
      obtain rfl := sinj h1
      refine tsn ?_
      exact SP_ren [(10806, 11006)] _ rfl ⟨rfl, tv⟩ ⟨rfl, rfl, rfl, rfl, rfl, rfl, rfl, tv⟩ rfl
  · rintro x21 hz
    obtain rfl := hz.symm
    refine TE_go ?_
    refine TC_reg ?_
    refine TL_ev env 3 rfl ⟨⟨tv, tv⟩, ⟨tv, ⟨tv, tv⟩⟩⟩ ?_
    refine TL_frz 10806 rfl ?_
    obtain ⟨r22, hr, h0⟩ := bnd h0
    refine TL_callB [(0, 0)] (sync_atomic_Int64_Add.ok0 hr) sync_atomic_Int64_Add.fnb rfl ⟨tv, ⟨tv, ⟨tv, tv⟩⟩⟩ rfl ⟨.inr rfl, tv⟩ rfl ?_
    refine TL_end ?_
    obtain rfl := sinj h0
    exact TE_end env rfl tv ⟨.inr rfl, .inr rfl, .inr rfl, .inr rfl, .inr rfl, .inr rfl, tv⟩
theorem bank_Bank_tell_1.ok0 {K : Nat} {p0 : List (Option (List (Int)))} {p1 : List (Option (List (Int)))} {p2 : Int} {p3 : Int} {p4 : Int} {p5 : Int} {q0 : List (Int)} {q1 : Int} (h0 : bank_Bank_tell_1 K p0 p1 p2 p3 p4 p5 = some (q0, q1)) : Fn Try.prog 90 [.p 1 0, .p 2 0, .p 3 0, .p 4 0] [(0, some (.foc (tcs p0) [.int .u32 0, .int .i32 1, .int .u32 0, .nils] (pst p1 p2 p3))), (1, some (.cells [.int .i64 p4])), (2, some (.cells [.pf 0 (tcs p0).length 0])), (3, some (.cells [.fn 79 [.p 5 0]])), (4, some (.cells [.p 0 0])), (5, some (.cells [.int .i64 p5]))] (.tup []) [(0, some (.foc (tcs p0) [.int .u32 0, .int .i32 1, .int .u32 0, .im (.slice (.int .i16)) q0] (pst p1 q1 p3))), (1, some (.cells [.int .i64 p4])), (2, some (.cells [.pf 0 (tcs p0).length 0])), (3, some (.cells [.fn 79 [.p 5 0]])), (4, some (.cells [.p 0 0])), (5, some (.cells [.int .i64 p5]))] := bank_Bank_tell_1.ok h0
theorem bank_Bank_tell_1.fnb : fnb Try.prog 90 = true := fnb_of Try.func90 rfl
theorem sync_Once_doSlow.ok0 {K : Nat} {p0 : List (Option (List (Int)))} {p1 : List (Option (List (Int)))} {p2 : Int} {p3 : Int} {p4 : Int} {p5 : Int} {q0 : List (Int)} {q1 : Int} (h0 : sync_Once_doSlow K p0 p1 p2 p3 p4 p5 = some (q0, q1)) : Fn Try.prog 98 [.pf 0 (tcs p0).length 0, .fn 90 [.p 1 0, .p 2 0, .p 3 0, .p 4 0]] [(0, some (.foc (tcs p0) [.int .u32 0, .int .i32 0, .int .u32 0, .nils] (pst p1 p2 p3))), (1, some (.cells [.int .i64 p4])), (2, some (.cells [.pf 0 (tcs p0).length 0])), (3, some (.cells [.fn 79 [.p 5 0]])), (4, some (.cells [.p 0 0])), (5, some (.cells [.int .i64 p5]))] (.tup []) [(0, some (.foc (tcs p0) [.int .u32 1, .int .i32 0, .int .u32 0, .im (.slice (.int .i16)) q0] (pst p1 q1 p3))), (1, some (.cells [.int .i64 p4])), (2, some (.cells [.pf 0 (tcs p0).length 0])), (3, some (.cells [.fn 79 [.p 5 0]])), (4, some (.cells [.p 0 0])), (5, some (.cells [.int .i64 p5]))] := by
  exact slow_fn rfl (bank_Bank_tell_1.ok0 h0)
theorem sync_Once_doSlow.fnb : fnb Try.prog 98 = true := fnb_of Try.func98 rfl
def sync_Once_Do.res (_p0 : List (Option (List (Int)))) (_p1 : List (Option (List (Int)))) (_p2 : Int) (_p3 : Int) (_p4 : Int) (_p5 : Int) : (List (Int)) × Int → MV
  | (_, _) => .tup []
def sync_Once_Do.out (p0 : List (Option (List (Int)))) (p1 : List (Option (List (Int)))) (_p2 : Int) (p3 : Int) (p4 : Int) (p5 : Int) : (List (Int)) × Int → List (Nat × Option MObj)
  | (q0, q1) => [(0, some (.foc (tcs p0) [.int .u32 1, .int .i32 0, .int .u32 0, .im (.slice (.int .i16)) q0] (pst p1 q1 p3))), (1, some (.cells [.int .i64 p4])), (2, some (.cells [.pf 0 (tcs p0).length 0])), (3, some (.cells [.fn 79 [.p 5 0]])), (4, some (.cells [.p 0 0])), (5, some (.cells [.int .i64 p5]))]
theorem sync_Once_Do.ok {K : Nat} {p0 : List (Option (List (Int)))} {p1 : List (Option (List (Int)))} {p2 : Int} {p3 : Int} {p4 : Int} {p5 : Int} {r : (List (Int)) × Int} (h0 : sync_Once_Do K p0 p1 p2 p3 p4 p5 = some r) : Fn Try.prog 89 [.pf 0 (tcs p0).length 0, .fn 90 [.p 1 0, .p 2 0, .p 3 0, .p 4 0]] [(0, some (.foc (tcs p0) [.int .u32 0, .int .i32 0, .int .u32 0, .nils] (pst p1 p2 p3))), (1, some (.cells [.int .i64 p4])), (2, some (.cells [.pf 0 (tcs p0).length 0])), (3, some (.cells [.fn 79 [.p 5 0]])), (4, some (.cells [.p 0 0])), (5, some (.cells [.int .i64 p5]))] (sync_Once_Do.res p0 p1 p2 p3 p4 p5 r) (sync_Once_Do.out p0 p1 p2 p3 p4 p5 r) := by
  refine Fn_of Try.func89 rfl (Nat.le_of_ble_eq_true rfl) fun Γ => ?_
  refine TC_seq ?_
  refine TC_reg ?_
  refine TL_ev env 3 rfl ⟨tv, ⟨tv, ⟨tv, tv⟩⟩⟩ ?_
  obtain ⟨⟨⟩, hr, h0⟩ := bnd h0
  refine TL_callB [(0, 0)] (sync_atomic_Bool_Load.ok0 hr) sync_atomic_Bool_Load.fnb rfl ⟨tv, ⟨tv, tv⟩⟩ rfl ⟨.inr rfl, tv⟩ rfl ?_
  refine TL_ev env 1 rfl ⟨tv, tv⟩ ?_
  refine TL_end ?_
  refine TE_go ?_
  refine TC_cond rfl (fun hb => ?_) (fun hb => ?_)
  · refine TC_reg ?_
    refine TL_ev env 2 rfl ⟨tv, ⟨tv, tv⟩⟩ ?_
    obtain ⟨⟨r3, r4⟩, hr, h0⟩ := bnd h0
    refine TL_callB [(0, 0), (1, 1), (2, 2), (3, 3), (4, 4), (5, 5)] (sync_Once_doSlow.ok0 hr) sync_Once_doSlow.fnb rfl ⟨tv, ⟨tv, ⟨tv, tv⟩⟩⟩ rfl ⟨.inr rfl, .inr rfl, .inr rfl, .inr rfl, .inr rfl, .inr rfl, tv⟩ rfl ?_
    refine TL_end ?_
    obtain rfl := sinj h0
    exact TE_end env rfl tv ⟨.inr rfl, .inr rfl, .inr rfl, .inr rfl, .inr rfl, .inr rfl, tv⟩
  · first | exact (ftf hb).elim | exact (tff hb).elim | exact absurd hb (by decide)
theorem sync_Once_Do.ok0 {K : Nat} {p0 : List (Option (List (Int)))} {p1 : List (Option (List (Int)))} {p2 : Int} {p3 : Int} {p4 : Int} {p5 : Int} {q0 : List (Int)} {q1 : Int} (h0 : sync_Once_Do K p0 p1 p2 p3 p4 p5 = some (q0, q1)) : Fn Try.prog 89 [.pf 0 (tcs p0).length 0, .fn 90 [.p 1 0, .p 2 0, .p 3 0, .p 4 0]] [(0, some (.foc (tcs p0) [.int .u32 0, .int .i32 0, .int .u32 0, .nils] (pst p1 p2 p3))), (1, some (.cells [.int .i64 p4])), (2, some (.cells [.pf 0 (tcs p0).length 0])), (3, some (.cells [.fn 79 [.p 5 0]])), (4, some (.cells [.p 0 0])), (5, some (.cells [.int .i64 p5]))] (.tup []) [(0, some (.foc (tcs p0) [.int .u32 1, .int .i32 0, .int .u32 0, .im (.slice (.int .i16)) q0] (pst p1 q1 p3))), (1, some (.cells [.int .i64 p4])), (2, some (.cells [.pf 0 (tcs p0).length 0])), (3, some (.cells [.fn 79 [.p 5 0]])), (4, some (.cells [.p 0 0])), (5, some (.cells [.int .i64 p5]))] := sync_Once_Do.ok h0
theorem sync_Once_Do.fnb : fnb Try.prog 89 = true := fnb_of Try.func89 rfl
theorem sync_atomic_Int64_Add_2.ok0 {K : Nat} {p0 : Int} {p1 : List (Option (List (Int)))} {p2 : List (Int)} {p3 : List (Option (List (Int)))} {p4 : Int} {p5 : Int} {q0 : Int} (h0 : sync_atomic_Int64_Add_2 K p0 p1 p2 p3 p4 p5 = some q0) : Fn Try.prog 91 [.p 0 1553, .int .i64 p0] [(0, some (.foc (tcs p1) [.int .u32 1, .int .i32 0, .int .u32 0, .im (.slice (.int .i16)) p2] (pst p3 p4 p5)))] (.int .i64 q0) [(0, some (.foc (tcs p1) [.int .u32 1, .int .i32 0, .int .u32 0, .im (.slice (.int .i16)) p2] (pst p3 p4 q0)))] := by
  obtain ⟨g, h0⟩ := gd_t h0
  obtain rfl := sinj h0
  have hF := int64Add_fn (pre := tcs p1) (cs := [.int .u32 1, .int .i32 0, .int .u32 0, .im (.slice (.int .i16)) p2]) (y := p0) (c := 1553) (Lr := []) (by rw [tcs_len]; simp only [List.length_cons, List.length_nil]; omega) (pst_told p3 p4 p5)
  rw [pst_sett] at hF
  exact hF
theorem sync_atomic_Int64_Add_2.fnb : fnb Try.prog 91 = true := fnb_of Try.func91 rfl
def slices_Clone_int16_int16.res (_p0 : List (Int)) : (List (Int)) → MV
  | _ => .sl 1000
def slices_Clone_int16_int16.out (_p0 : List (Int)) : (List (Int)) → List (Nat × Option MObj)
  | q0 => [(1000, some (.rows (.int .i16) q0))]
theorem slices_Clone_int16_int16.ok {K : Nat} {p0 : List (Int)} {r : (List (Int))} (h0 : slices_Clone_int16_int16 K p0 = some r) : Fn Try.prog 63 [.im (.slice (.int .i16)) p0] [] (slices_Clone_int16_int16.res p0 r) (slices_Clone_int16_int16.out p0 r) := by
  refine Fn_of Try.func63 rfl (Nat.le_of_ble_eq_true rfl) fun Γ => ?_
  refine TC_seq ?_
  refine TC_reg ?_
  refine TL_ev env 1 rfl ⟨tv, tv⟩ ?_
  refine TL_end ?_
  refine TE_go ?_
  refine TC_seq ?_
  refine TC_seq ?_
  refine TC_reg ?_
  obtain ⟨g, h0⟩ := gd_t h0
  refine TL_ev env 2 rfl ⟨tv, ⟨⟨tv, ⟨tv, g⟩⟩, tv⟩⟩ ?_
  refine TL_end ?_
  refine TE_go ?_
  refine TC_cond rfl (fun hb => ?_) (fun hb => ?_)
  · first | exact (ftf hb).elim | exact (tff hb).elim | exact absurd hb (by decide)
  · refine TC_skip ?_
    refine TE_go ?_
    refine TC_seq ?_
    refine TC_reg ?_
    obtain ⟨g, h0⟩ := gd_t h0
    refine TL_ev env 4 rfl ⟨tv, ⟨tv, ⟨⟨⟨tv, ⟨tv, tv⟩⟩, g⟩, ⟨tv, tv⟩⟩⟩⟩ ?_
    refine TL_end ?_
    refine TE_go ?_
    refine TC_ret ?_
    obtain rfl := sinj h0
    refine TE_renw (A' := [(2, .sl 1000)]) (L' := [(1000, some (.rows (.int .i16) _))]) [(1000, 1007)] ⟨rfl, tv⟩ ⟨rfl, tv⟩ rfl ?_
    exact TE_ret env rfl tv ⟨.inr rfl, tv⟩
theorem slices_Clone_int16_int16.ok0 {K : Nat} {p0 : List (Int)} {q0 : List (Int)} (h0 : slices_Clone_int16_int16 K p0 = some q0) : Fn Try.prog 63 [.im (.slice (.int .i16)) p0] [] (.sl 1000) [(1000, some (.rows (.int .i16) q0))] := slices_Clone_int16_int16.ok h0
theorem slices_Clone_int16_int16.fnb : fnb Try.prog 63 = true := fnb_of Try.func63 rfl
def bank_Bank_tell.res (_t0 : List (Option (List (Int)))) (_t1 : List (Option (List (Int)))) (_p1 : Int) (_p3 : Int) (_p4 : Int) (_p5 : Int) : (List (Int)) × (List (Int)) × Int × Int → MV
  | (q0, _, _, _) => .tup [.im (.slice (.int .i16)) q0, .int .i64 0]
def bank_Bank_tell.out (t0 : List (Option (List (Int)))) (t1 : List (Option (List (Int)))) (_p1 : Int) (_p3 : Int) (_p4 : Int) (p5 : Int) : (List (Int)) × (List (Int)) × Int × Int → List (Nat × Option MObj)
  | (_, q1, q2, q3) => [(0, some (.foc (tcs t0) [.int .u32 1, .int .i32 0, .int .u32 0, .im (.slice (.int .i16)) q1] (pst t1 q2 q3))), (1, some (.cells [.int .i64 p5]))]
theorem bank_Bank_tell.ok {K : Nat} {t0 : List (Option (List (Int)))} {t1 : List (Option (List (Int)))} {p1 : Int} {p3 : Int} {p4 : Int} {p5 : Int} {r : (List (Int)) × (List (Int)) × Int × Int} (h0 : bank_Bank_tell K t0 t1 p1 p3 p4 p5 = some r) : Fn Try.prog 78 [.p 0 0, .pf 0 (tcs t0).length 0, .int .i64 p1, .fn 79 [.p 1 0]] [(0, some (.foc (tcs t0) [.int .u32 0, .int .i32 0, .int .u32 0, .nils] (pst t1 p3 p4))), (1, some (.cells [.int .i64 p5]))] (bank_Bank_tell.res t0 t1 p1 p3 p4 p5 r) (bank_Bank_tell.out t0 t1 p1 p3 p4 p5 r) := by
  refine Fn_of Try.func78 rfl (Nat.le_of_ble_eq_true rfl) fun Γ => ?_
  refine TC_seq ?_
  refine TC_reg ?_
  refine TL_ev env 6 rfl ⟨tv, ⟨tv, ⟨tv, ⟨tv, ⟨tv, ⟨tv, tv⟩⟩⟩⟩⟩⟩ ?_
  refine TL_end ?_
  refine TE_go ?_
  refine TC_seq ?_
  refine TC_reg ?_
  refine TL_ev env 4 rfl ⟨⟨tv, tv⟩, ⟨tv, ⟨tv, ⟨⟨tv, ⟨tv, ⟨tv, ⟨tv, tv⟩⟩⟩⟩, tv⟩⟩⟩⟩ ?_
  obtain ⟨⟨r5, r6⟩, hr, h0⟩ := bnd h0
  refine TL_callB [(0, 0), (1, 1006), (2, 1005), (3, 1007), (4, 1004), (5, 1)] (sync_Once_Do.ok0 hr) sync_Once_Do.fnb rfl ⟨tv, ⟨tv, ⟨tv, tv⟩⟩⟩ rfl ⟨.inr rfl, .inr rfl, .inr rfl, .inr rfl, .inr rfl, .inr rfl, tv⟩ rfl ?_
  refine TL_end ?_
  refine TE_go ?_
  refine TC_seq ?_
  refine TC_reg ?_
  refine TL_ev env 3 rfl ⟨⟨tv, tv⟩, ⟨tv, ⟨tv, tv⟩⟩⟩ ?_
  obtain ⟨r7, hr, h0⟩ := bnd h0
  refine TL_callB [(0, 0)] (sync_atomic_Int64_Add_2.ok0 hr) sync_atomic_Int64_Add_2.fnb rfl ⟨tv, ⟨tv, ⟨tv, tv⟩⟩⟩ rfl ⟨.inr rfl, tv⟩ rfl ?_
  refine TL_end ?_
  refine TE_go ?_
  refine TC_seq ?_
  refine TC_reg ?_
  refine TL_ev env 4 rfl ⟨⟨tv, tv⟩, ⟨tv, ⟨tv, ⟨⟨tv, rfl⟩, tv⟩⟩⟩⟩ ?_
  obtain ⟨r8, hr, h0⟩ := bnd h0
  refine TL_callB [(1000, 500230)] (slices_Clone_int16_int16.ok0 hr) slices_Clone_int16_int16.fnb rfl ⟨tv, ⟨tv, tv⟩⟩ rfl tv rfl ?_
  refine TL_ev env 2 rfl ⟨tv, ⟨tv, tv⟩⟩ ?_
  refine TL_end ?_
  refine TE_go ?_
  refine TC_ret ?_
  refine TE_frz 500230 rfl ?_
  obtain rfl := sinj h0
  exact TE_ret env rfl tv ⟨.inr rfl, .inr rfl, tv⟩
theorem bank_Bank_tell.ok0 {K : Nat} {t0 : List (Option (List (Int)))} {t1 : List (Option (List (Int)))} {p1 : Int} {p3 : Int} {p4 : Int} {p5 : Int} {q0 : List (Int)} {q1 : List (Int)} {q2 : Int} {q3 : Int} (h0 : bank_Bank_tell K t0 t1 p1 p3 p4 p5 = some (q0, q1, q2, q3)) : Fn Try.prog 78 [.p 0 0, .pf 0 (tcs t0).length 0, .int .i64 p1, .fn 79 [.p 1 0]] [(0, some (.foc (tcs t0) [.int .u32 0, .int .i32 0, .int .u32 0, .nils] (pst t1 p3 p4))), (1, some (.cells [.int .i64 p5]))] (.tup [.im (.slice (.int .i16)) q0, .int .i64 0]) [(0, some (.foc (tcs t0) [.int .u32 1, .int .i32 0, .int .u32 0, .im (.slice (.int .i16)) q1] (pst t1 q2 q3))), (1, some (.cells [.int .i64 p5]))] := bank_Bank_tell.ok h0
theorem bank_Bank_tell.fnb : fnb Try.prog 78 = true := fnb_of Try.func78 rfl
theorem sync_atomic_Bool_Load_2.ok0 {K : Nat} {p0 : List (Option (List (Int)))} {p1 : List (Int)} {p2 : List (Option (List (Int)))} {p3 : Int} {p4 : Int} (h0 : sync_atomic_Bool_Load_2 K p0 p1 p2 p3 p4 = some ()) : Fn Try.prog 97 [.pf 0 (tcs p0).length 0] [(0, some (.foc (tcs p0) [.int .u32 1, .int .i32 0, .int .u32 0, .im (.slice (.int .i16)) p1] (pst p2 p3 p4)))] (.bool true) [(0, some (.foc (tcs p0) [.int .u32 1, .int .i32 0, .int .u32 0, .im (.slice (.int .i16)) p1] (pst p2 p3 p4)))] := by
  exact boolLoad_fn rfl
theorem sync_atomic_Bool_Load_2.fnb : fnb Try.prog 97 = true := fnb_of Try.func97 rfl
def sync_Once_Do_2.res (_p0 : List (Option (List (Int)))) (_p1 : List (Int)) (_p2 : List (Option (List (Int)))) (_p3 : Int) (_p4 : Int) (_p5 : Int) (_p6 : Int) : Unit → MV
  | () => .tup []
def sync_Once_Do_2.out (p0 : List (Option (List (Int)))) (p1 : List (Int)) (p2 : List (Option (List (Int)))) (p3 : Int) (p4 : Int) (p5 : Int) (p6 : Int) : Unit → List (Nat × Option MObj)
  | () => [(0, some (.foc (tcs p0) [.int .u32 1, .int .i32 0, .int .u32 0, .im (.slice (.int .i16)) p1] (pst p2 p3 p4))), (1, some (.cells [.int .i64 p5])), (2, some (.cells [.pf 0 (tcs p0).length 0])), (3, some (.cells [.fn 79 [.p 5 0]])), (4, some (.cells [.p 0 0])), (5, some (.cells [.int .i64 p6]))]
theorem sync_Once_Do_2.ok {K : Nat} {p0 : List (Option (List (Int)))} {p1 : List (Int)} {p2 : List (Option (List (Int)))} {p3 : Int} {p4 : Int} {p5 : Int} {p6 : Int} {r : Unit} (h0 : sync_Once_Do_2 K p0 p1 p2 p3 p4 p5 p6 = some r) : Fn Try.prog 89 [.pf 0 (tcs p0).length 0, .fn 90 [.p 1 0, .p 2 0, .p 3 0, .p 4 0]] [(0, some (.foc (tcs p0) [.int .u32 1, .int .i32 0, .int .u32 0, .im (.slice (.int .i16)) p1] (pst p2 p3 p4))), (1, some (.cells [.int .i64 p5])), (2, some (.cells [.pf 0 (tcs p0).length 0])), (3, some (.cells [.fn 79 [.p 5 0]])), (4, some (.cells [.p 0 0])), (5, some (.cells [.int .i64 p6]))] (sync_Once_Do_2.res p0 p1 p2 p3 p4 p5 p6 r) (sync_Once_Do_2.out p0 p1 p2 p3 p4 p5 p6 r) := by
  refine Fn_of Try.func89 rfl (Nat.le_of_ble_eq_true rfl) fun Γ => ?_
  unfold sync_Once_Do_2 at h0
  refine TC_seq ?_
  refine TC_reg ?_
  refine TL_ev env 3 rfl ⟨tv, ⟨tv, ⟨tv, tv⟩⟩⟩ ?_
  obtain ⟨⟨⟩, hr, h0⟩ := bnd h0
  refine TL_callB [(0, 0)] (sync_atomic_Bool_Load_2.ok0 hr) sync_atomic_Bool_Load_2.fnb rfl ⟨tv, ⟨tv, tv⟩⟩ rfl ⟨.inr rfl, tv⟩ rfl ?_
  refine TL_ev env 1 rfl ⟨tv, tv⟩ ?_
  refine TL_end ?_
  refine TE_go ?_
  refine TC_cond rfl (fun hb => ?_) (fun hb => ?_)
  · first | exact (ftf hb).elim | exact (tff hb).elim | exact absurd hb (by decide)
  · refine TC_skip ?_
    obtain rfl := sinj h0
    exact TE_end env rfl tv ⟨.inr rfl, .inr rfl, .inr rfl, .inr rfl, .inr rfl, .inr rfl, tv⟩
theorem sync_Once_Do_2.ok0 {K : Nat} {p0 : List (Option (List (Int)))} {p1 : List (Int)} {p2 : List (Option (List (Int)))} {p3 : Int} {p4 : Int} {p5 : Int} {p6 : Int}  (h0 : sync_Once_Do_2 K p0 p1 p2 p3 p4 p5 p6 = some ()) : Fn Try.prog 89 [.pf 0 (tcs p0).length 0, .fn 90 [.p 1 0, .p 2 0, .p 3 0, .p 4 0]] [(0, some (.foc (tcs p0) [.int .u32 1, .int .i32 0, .int .u32 0, .im (.slice (.int .i16)) p1] (pst p2 p3 p4))), (1, some (.cells [.int .i64 p5])), (2, some (.cells [.pf 0 (tcs p0).length 0])), (3, some (.cells [.fn 79 [.p 5 0]])), (4, some (.cells [.p 0 0])), (5, some (.cells [.int .i64 p6]))] (.tup []) [(0, some (.foc (tcs p0) [.int .u32 1, .int .i32 0, .int .u32 0, .im (.slice (.int .i16)) p1] (pst p2 p3 p4))), (1, some (.cells [.int .i64 p5])), (2, some (.cells [.pf 0 (tcs p0).length 0])), (3, some (.cells [.fn 79 [.p 5 0]])), (4, some (.cells [.p 0 0])), (5, some (.cells [.int .i64 p6]))] := sync_Once_Do_2.ok h0
theorem sync_Once_Do_2.fnb : fnb Try.prog 89 = true := fnb_of Try.func89 rfl
def bank_Bank_tell_2.res (_t0 : List (Option (List (Int)))) (_t1 : List (Option (List (Int)))) (_l : List (Int)) (_p1 : Int) (_p3 : Int) (_p4 : Int) (_p5 : Int) : (List (Int)) × Int → MV
  | (q0, _) => .tup [.im (.slice (.int .i16)) q0, .int .i64 0]
def bank_Bank_tell_2.out (t0 : List (Option (List (Int)))) (t1 : List (Option (List (Int)))) (l : List (Int)) (_p1 : Int) (p3 : Int) (_p4 : Int) (p5 : Int) : (List (Int)) × Int → List (Nat × Option MObj)
  | (_, q1) => [(0, some (.foc (tcs t0) [.int .u32 1, .int .i32 0, .int .u32 0, .im (.slice (.int .i16)) l] (pst t1 p3 q1))), (1, some (.cells [.int .i64 p5]))]
theorem bank_Bank_tell_2.ok {K : Nat} {t0 : List (Option (List (Int)))} {t1 : List (Option (List (Int)))} {l : List (Int)} {p1 : Int} {p3 : Int} {p4 : Int} {p5 : Int} {r : (List (Int)) × Int} (h0 : bank_Bank_tell_2 K t0 t1 l p1 p3 p4 p5 = some r) : Fn Try.prog 78 [.p 0 0, .pf 0 (tcs t0).length 0, .int .i64 p1, .fn 79 [.p 1 0]] [(0, some (.foc (tcs t0) [.int .u32 1, .int .i32 0, .int .u32 0, .im (.slice (.int .i16)) l] (pst t1 p3 p4))), (1, some (.cells [.int .i64 p5]))] (bank_Bank_tell_2.res t0 t1 l p1 p3 p4 p5 r) (bank_Bank_tell_2.out t0 t1 l p1 p3 p4 p5 r) := by
  refine Fn_of Try.func78 rfl (Nat.le_of_ble_eq_true rfl) fun Γ => ?_
  refine TC_seq ?_
  refine TC_reg ?_
  refine TL_ev env 6 rfl ⟨tv, ⟨tv, ⟨tv, ⟨tv, ⟨tv, ⟨tv, tv⟩⟩⟩⟩⟩⟩ ?_
  refine TL_end ?_
  refine TE_go ?_
  refine TC_seq ?_
  refine TC_reg ?_
  refine TL_ev env 4 rfl ⟨⟨tv, tv⟩, ⟨tv, ⟨tv, ⟨⟨tv, ⟨tv, ⟨tv, ⟨tv, tv⟩⟩⟩⟩, tv⟩⟩⟩⟩ ?_
  obtain ⟨⟨⟩, hr, h0⟩ := bnd h0
  refine TL_callB [(0, 0), (1, 1006), (2, 1005), (3, 1007), (4, 1004), (5, 1)] (sync_Once_Do_2.ok0 hr) sync_Once_Do_2.fnb rfl ⟨tv, ⟨tv, ⟨tv, tv⟩⟩⟩ rfl ⟨.inr rfl, .inr rfl, .inr rfl, .inr rfl, .inr rfl, .inr rfl, tv⟩ rfl ?_
  refine TL_end ?_
  refine TE_go ?_
  refine TC_seq ?_
  refine TC_reg ?_
  refine TL_ev env 3 rfl ⟨⟨tv, tv⟩, ⟨tv, ⟨tv, tv⟩⟩⟩ ?_
  obtain ⟨r3, hr, h0⟩ := bnd h0
  refine TL_callB [(0, 0)] (sync_atomic_Int64_Add_2.ok0 hr) sync_atomic_Int64_Add_2.fnb rfl ⟨tv, ⟨tv, ⟨tv, tv⟩⟩⟩ rfl ⟨.inr rfl, tv⟩ rfl ?_
  refine TL_end ?_
  refine TE_go ?_
  refine TC_seq ?_
  refine TC_reg ?_
  refine TL_ev env 4 rfl ⟨⟨tv, tv⟩, ⟨tv, ⟨tv, ⟨⟨tv, rfl⟩, tv⟩⟩⟩⟩ ?_
  obtain ⟨r4, hr, h0⟩ := bnd h0
  refine TL_callB [(1000, 500230)] (slices_Clone_int16_int16.ok0 hr) slices_Clone_int16_int16.fnb rfl ⟨tv, ⟨tv, tv⟩⟩ rfl tv rfl ?_
  refine TL_ev env 2 rfl ⟨tv, ⟨tv, tv⟩⟩ ?_
  refine TL_end ?_
  refine TE_go ?_
  refine TC_ret ?_
  refine TE_frz 500230 rfl ?_
  obtain rfl := sinj h0
  exact TE_ret env rfl tv ⟨.inr rfl, .inr rfl, tv⟩
theorem bank_Bank_tell_2.ok0 {K : Nat} {t0 : List (Option (List (Int)))} {t1 : List (Option (List (Int)))} {l : List (Int)} {p1 : Int} {p3 : Int} {p4 : Int} {p5 : Int} {q0 : List (Int)} {q1 : Int} (h0 : bank_Bank_tell_2 K t0 t1 l p1 p3 p4 p5 = some (q0, q1)) : Fn Try.prog 78 [.p 0 0, .pf 0 (tcs t0).length 0, .int .i64 p1, .fn 79 [.p 1 0]] [(0, some (.foc (tcs t0) [.int .u32 1, .int .i32 0, .int .u32 0, .im (.slice (.int .i16)) l] (pst t1 p3 p4))), (1, some (.cells [.int .i64 p5]))] (.tup [.im (.slice (.int .i16)) q0, .int .i64 0]) [(0, some (.foc (tcs t0) [.int .u32 1, .int .i32 0, .int .u32 0, .im (.slice (.int .i16)) l] (pst t1 p3 q1))), (1, some (.cells [.int .i64 p5]))] := bank_Bank_tell_2.ok h0
theorem bank_Bank_tell_2.fnb : fnb Try.prog 78 = true := fnb_of Try.func78 rfl
theorem bank_Bank_tell_3.ok0 {K : Nat} {p0 : Nat} {p1 : Int} {p2 : List (Option (List (Int)))} {p3 : Int} {p4 : Int} {p5 : Int} {q0 : List (Int)} {q1 : List (Option (List (Int)))} {q2 : Int} {q3 : Int} (h0 : bank_Bank_tell_3 K p0 p1 p2 p3 p4 p5 = some (q0, q1, q2, q3)) : Fn Try.prog 78 [.p 0 0, .p 0 p0, .int .i64 p1, .fn 79 [.p 1 0]] [(0, some (.ab (bkA p2 p3 p4))), (1, some (.cells [.int .i64 p5]))] (.tup [.im (.slice (.int .i16)) q0, .int .i64 0]) [(0, some (.ab (bkA q1 q2 q3))), (1, some (.cells [.int .i64 p5]))] := by
  unfold bank_Bank_tell_3 at h0
  obtain ⟨⟨g1, g2, g3⟩, h0⟩ := gd_t h0
  split at h0
  · rename_i hx
    obtain ⟨⟨q0', q1', q2', q3'⟩, hr, h0⟩ := bnd h0
    simp only [Option.some.injEq, Prod.mk.injEq] at h0
    obtain ⟨rfl, rfl, rfl, rfl⟩ := h0
    have hF := tell_fn (x := none) (x' := some q1') (bank_Bank_tell.ok0 hr)
    rw [tk hx, tcs_at g1 g2 g3] at hF
    exact hF
  · rename_i l hx
    obtain ⟨⟨q0', q1'⟩, hr, h0⟩ := bnd h0
    simp only [Option.some.injEq, Prod.mk.injEq] at h0
    obtain ⟨rfl, rfl, rfl, rfl⟩ := h0
    have hF := tell_fn (x := some l) (x' := some l) (bank_Bank_tell_2.ok0 hr)
    rw [tk hx, tcs_at g1 g2 g3] at hF
    exact hF
  · cases h0
theorem bank_Bank_tell_3.fnb : fnb Try.prog 78 = true := fnb_of Try.func78 rfl
def bank_Bank_Slope.res (_p0 : Int) (_p1 : List (Option (List (Int)))) (_p2 : Int) (_p3 : Int) : (Unit) ⊕ ((List (Int)) × (List (Option (List (Int)))) × Int × Int) → MV
  | .inl () => .tup [.nils, .int .i64 1]
  | .inr (q0, _, _, _) => .tup [.im (.slice (.int .i16)) q0, .int .i64 0]
def bank_Bank_Slope.out (_p0 : Int) (p1 : List (Option (List (Int)))) (p2 : Int) (p3 : Int) : (Unit) ⊕ ((List (Int)) × (List (Option (List (Int)))) × Int × Int) → List (Nat × Option MObj)
  | .inl () => [(0, some (.ab (bkA p1 p2 p3)))]
  | .inr (_, q1, q2, q3) => [(0, some (.ab (bkA q1 q2 q3)))]
theorem bank_Bank_Slope.ok {K : Nat} {p0 : Int} {p1 : List (Option (List (Int)))} {p2 : Int} {p3 : Int} {r : (Unit) ⊕ ((List (Int)) × (List (Option (List (Int)))) × Int × Int)} (h0 : bank_Bank_Slope K p0 p1 p2 p3 = some r) : Fn Try.prog 61 [.p 0 0, .int .i64 p0] [(0, some (.ab (bkA p1 p2 p3)))] (bank_Bank_Slope.res p0 p1 p2 p3 r) (bank_Bank_Slope.out p0 p1 p2 p3 r) := by
  refine Fn_of Try.func61 rfl (Nat.le_of_ble_eq_true rfl) fun Γ => ?_
  refine TC_seq ?_
  refine TC_reg ?_
  refine TL_ev env 3 rfl ⟨tv, ⟨tv, ⟨tv, tv⟩⟩⟩ ?_
  refine TL_end ?_
  refine TE_go ?_
  refine TC_seq ?_
  refine TC_seq ?_
  refine TC_reg ?_
  refine TL_ev env 7 rfl ⟨tv, ⟨⟨tv, tv⟩, ⟨⟨tv, ⟨tv, tv⟩⟩, ⟨tv, ⟨fun eg => ⟨tv, tv⟩, ⟨fun eg => ⟨fun e => e, ⟨tv, tv⟩⟩, ⟨⟨tv, ⟨fun e => e, tv⟩⟩, tv⟩⟩⟩⟩⟩⟩⟩ ?_
  obtain ⟨z, hr, h0⟩ := bnd h0
  rcases z with ⟨⟩ | ⟨⟩
  · refine TL_callB [(0, 0)] (bank_Bank_may.ok0 hr) bank_Bank_may.fnb rfl ⟨tv, ⟨tv, ⟨tv, tv⟩⟩⟩ rfl ⟨.inr rfl, tv⟩ rfl ?_
    refine TL_ev env 1 rfl ⟨tv, tv⟩ ?_
    refine TL_end ?_
    refine TE_go ?_
    refine TC_seq ?_
    refine TC_reg ?_
    refine TL_ev env 2 rfl ⟨tv, ⟨⟨tv, ⟨tv, tv⟩⟩, tv⟩⟩ ?_
    refine TL_end ?_
    refine TE_go ?_
    refine TC_cond rfl (fun hb => ?_) (fun hb => ?_)
    · refine TC_seq ?_
      refine TC_reg ?_
      refine TL_ev env 3 rfl ⟨tv, ⟨tv, ⟨tv, tv⟩⟩⟩ ?_
      refine TL_end ?_
      refine TE_go ?_
      refine TC_ret ?_
      refine tsr ?_
      obtain rfl := sinj h0
      exact TE_ret env rfl tv ⟨.inr rfl, tv⟩
    · first | exact (ftf hb).elim | exact (tff hb).elim | exact absurd hb (by decide)
  · refine TL_callB [(0, 0)] (bank_Bank_may.ok1 hr) bank_Bank_may.fnb rfl ⟨tv, ⟨tv, ⟨tv, tv⟩⟩⟩ rfl ⟨.inr rfl, tv⟩ rfl ?_
    refine TL_ev env 1 rfl ⟨tv, tv⟩ ?_
    refine TL_end ?_
    refine TE_go ?_
    refine TC_seq ?_
    refine TC_reg ?_
    refine TL_ev env 2 rfl ⟨tv, ⟨⟨tv, ⟨tv, tv⟩⟩, tv⟩⟩ ?_
    refine TL_end ?_
    refine TE_go ?_
    refine TC_cond rfl (fun hb => ?_) (fun hb => ?_)
    · first | exact (ftf hb).elim | exact (tff hb).elim | exact absurd hb (by decide)
    · refine TC_skip ?_
      refine TE_go ?_
      refine TC_seq ?_
      refine TC_renw (A' := [(0, .p 0 0), (3, .p 1003 0), (4, .nils), (5, .int .i64 0)]) (L' := [(0, some (.ab (bkA _ _ _))), (1003, some (.cells [.int .i64 _]))]) [] ⟨rfl, rfl, rfl, rfl, tv⟩ ⟨rfl, rfl, tv⟩ rfl ?_
      refine TC_drawR ⟨_, fun i => ([[], [], [], [1], [3, 1], [4, 3, 2, 1], [], [], [7, 6, 5, 4, 3, 2, 1, 0], [8, 7, 6, 5, 4, 3, 2, 1, 0], [8, 7, 6, 5, 4, 3, 2, 1, 0], [10, 9, 8, 7, 6, 5, 4, 3, 2, 1, 0], [11, 10, 9, 8, 7, 6, 5, 4, 3, 2, 1, 0]] : List (List Nat)).getD i [], fun i => ([[], [], [], [], [], [], [], [], [0, 1003], [], [], [], []] : List (List Nat)).getD i [], fun i => ([[], [], [], [], [], [], [], [], [], [], [], [], []] : List (List Nat)).getD i []⟩ (fun i => ([[], [], [], [], [], [], [], [], [], [], [], [], []] : List (List Nat)).getD i []) (by kernel_rfl) (by kernel_rfl) ?_
      refine AJR_ev env 1 rfl (Nat.le_of_ble_eq_true rfl) rfl tv ?_
      refine AJR_ev env 2 rfl (Nat.le_of_ble_eq_true rfl) rfl tv ?_
      refine AJR_ev env 3 rfl (Nat.le_of_ble_eq_true rfl) rfl ⟨tv, tv⟩ ?_
      refine AJR_ev env 4 rfl (Nat.le_of_ble_eq_true rfl) rfl tv ?_
      refine AJR_ev env 5 rfl (Nat.le_of_ble_eq_true rfl) rfl tv ?_
      obtain ⟨g, h0⟩ := gd_t h0
      refine AJR_ev env 6 rfl (Nat.le_of_ble_eq_true rfl) rfl ⟨tv, ⟨tv, ⟨g.1, g.2⟩⟩⟩ ?_
      refine AJR_ev env 7 rfl (Nat.le_of_ble_eq_true rfl) rfl ⟨tv, tv⟩ ?_
      refine AJR_ev env 8 rfl (Nat.le_of_ble_eq_true rfl) rfl ⟨tv, tv⟩ ?_
      obtain ⟨⟨r9, r10, r11, r12⟩, hr, h0⟩ := bnd h0
      refine AJR_call 9 rfl (Nat.le_of_ble_eq_true rfl) [(0, 0), (1, 1003)] rfl (bank_Bank_tell_3.ok0 hr) bank_Bank_tell_3.fnb rfl ⟨tv, ⟨tv, ⟨tv, ⟨tv, ⟨tv, tv⟩⟩⟩⟩⟩ rfl ⟨.inr rfl, .inr rfl, tv⟩ rfl ?_
      refine AJR_ev env 10 rfl (Nat.le_of_ble_eq_true rfl) rfl tv ?_
      refine AJR_ev env 11 rfl (Nat.le_of_ble_eq_true rfl) rfl tv ?_
      refine AJR_ev env 12 rfl (Nat.le_of_ble_eq_true rfl) rfl tv ?_
      refine AJR_ev env 13 rfl (Nat.le_of_ble_eq_true rfl) rfl tv ?_
      refine AJR_end rfl rfl rfl ?_
      refine TE_go ?_
      refine TC_ret ?_
      obtain rfl := sinj h0
      exact TE_ret env rfl tv ⟨.inr rfl, tv⟩
theorem bank_Bank_Slope.ok0 {K : Nat} {p0 : Int} {p1 : List (Option (List (Int)))} {p2 : Int} {p3 : Int}  (h0 : bank_Bank_Slope K p0 p1 p2 p3 = some (.inl ())) : Fn Try.prog 61 [.p 0 0, .int .i64 p0] [(0, some (.ab (bkA p1 p2 p3)))] (.tup [.nils, .int .i64 1]) [(0, some (.ab (bkA p1 p2 p3)))] := bank_Bank_Slope.ok h0
theorem bank_Bank_Slope.ok1 {K : Nat} {p0 : Int} {p1 : List (Option (List (Int)))} {p2 : Int} {p3 : Int} {q0 : List (Int)} {q1 : List (Option (List (Int)))} {q2 : Int} {q3 : Int} (h0 : bank_Bank_Slope K p0 p1 p2 p3 = some (.inr (q0, q1, q2, q3))) : Fn Try.prog 61 [.p 0 0, .int .i64 p0] [(0, some (.ab (bkA p1 p2 p3)))] (.tup [.im (.slice (.int .i16)) q0, .int .i64 0]) [(0, some (.ab (bkA q1 q2 q3)))] := bank_Bank_Slope.ok h0
theorem bank_Bank_Slope.fnb : fnb Try.prog 61 = true := fnb_of Try.func61 rfl
def math_bits_Mul64.res (_p0 : Int) (_p1 : Int) : Int × Int → MV
  | (q0, q1) => .tup [.int .u64 q0, .int .u64 q1]
def math_bits_Mul64.out (_p0 : Int) (_p1 : Int) : Int × Int → List (Nat × Option MObj)
  | (_, _) => []
theorem math_bits_Mul64.ok {K : Nat} {p0 : Int} {p1 : Int} {r : Int × Int} (h0 : math_bits_Mul64 K p0 p1 = some r) : Fn Try.prog 94 [.int .u64 p0, .int .u64 p1] [] (math_bits_Mul64.res p0 p1 r) (math_bits_Mul64.out p0 p1 r) := by
  refine Fn_of Try.func94 rfl (Nat.le_of_ble_eq_true rfl) fun Γ => ?_
  refine TC_seq ?_
  refine TC_reg ?_
  refine TL_ev env 2 rfl ⟨tv, ⟨tv, tv⟩⟩ ?_
  refine TL_end ?_
  refine TE_go ?_
  refine TC_seq ?_
  refine TC_reg ?_
  refine TL_ev env 3 rfl ⟨tv, ⟨⟨tv, ⟨tv, tv⟩⟩, ⟨tv, tv⟩⟩⟩ ?_
  refine TL_end ?_
  refine TE_go ?_
  refine TC_seq ?_
  refine TC_reg ?_
  refine TL_ev env 3 rfl ⟨tv, ⟨⟨tv, ⟨tv, (by decide)⟩⟩, ⟨tv, tv⟩⟩⟩ ?_
  refine TL_end ?_
  refine TE_go ?_
  refine TC_seq ?_
  refine TC_reg ?_
  refine TL_ev env 3 rfl ⟨tv, ⟨⟨tv, ⟨tv, tv⟩⟩, ⟨tv, tv⟩⟩⟩ ?_
  refine TL_end ?_
  refine TE_go ?_
  refine TC_seq ?_
  refine TC_reg ?_
  refine TL_ev env 3 rfl ⟨tv, ⟨⟨tv, ⟨tv, (by decide)⟩⟩, ⟨tv, tv⟩⟩⟩ ?_
  refine TL_end ?_
  refine TE_go ?_
  refine TC_seq ?_
  refine TC_reg ?_
  refine TL_ev env 4 rfl ⟨tv, ⟨tv, ⟨⟨tv, ⟨tv, tv⟩⟩, ⟨tv, tv⟩⟩⟩⟩ ?_
  refine TL_end ?_
  refine TE_go ?_
  refine TC_seq ?_
  refine TC_reg ?_
  refine TL_ev env 7 rfl ⟨tv, ⟨tv, ⟨⟨tv, ⟨tv, tv⟩⟩, ⟨tv, ⟨⟨tv, ⟨tv, (by decide)⟩⟩, ⟨⟨tv, ⟨tv, tv⟩⟩, ⟨tv, tv⟩⟩⟩⟩⟩⟩⟩ ?_
  refine TL_end ?_
  refine TE_go ?_
  refine TC_seq ?_
  refine TC_reg ?_
  refine TL_ev env 3 rfl ⟨tv, ⟨⟨tv, ⟨tv, tv⟩⟩, ⟨tv, tv⟩⟩⟩ ?_
  refine TL_end ?_
  refine TE_go ?_
  refine TC_seq ?_
  refine TC_reg ?_
  refine TL_ev env 3 rfl ⟨tv, ⟨⟨tv, ⟨tv, (by decide)⟩⟩, ⟨tv, tv⟩⟩⟩ ?_
  refine TL_end ?_
  refine TE_go ?_
  refine TC_seq ?_
  refine TC_reg ?_
  refine TL_ev env 6 rfl ⟨tv, ⟨tv, ⟨tv, ⟨⟨tv, ⟨tv, tv⟩⟩, ⟨⟨tv, ⟨tv, tv⟩⟩, ⟨tv, tv⟩⟩⟩⟩⟩⟩ ?_
  refine TL_end ?_
  refine TE_go ?_
  refine TC_seq ?_
  refine TC_reg ?_
  refine TL_ev env 9 rfl ⟨tv, ⟨tv, ⟨⟨tv, ⟨tv, tv⟩⟩, ⟨tv, ⟨⟨tv, ⟨tv, tv⟩⟩, ⟨tv, ⟨⟨tv, ⟨tv, (by decide)⟩⟩, ⟨⟨tv, ⟨tv, tv⟩⟩, ⟨tv, tv⟩⟩⟩⟩⟩⟩⟩⟩⟩ ?_
  refine TL_end ?_
  refine TE_go ?_
  refine TC_seq ?_
  refine TC_reg ?_
  refine TL_ev env 4 rfl ⟨tv, ⟨tv, ⟨⟨tv, ⟨tv, tv⟩⟩, ⟨tv, tv⟩⟩⟩⟩ ?_
  refine TL_end ?_
  refine TE_go ?_
  refine TC_ret ?_
  obtain rfl := sinj h0
  exact TE_ret env rfl tv tv
theorem math_bits_Mul64.ok0 {K : Nat} {p0 : Int} {p1 : Int} {q0 : Int} {q1 : Int} (h0 : math_bits_Mul64 K p0 p1 = some (q0, q1)) : Fn Try.prog 94 [.int .u64 p0, .int .u64 p1] [] (.tup [.int .u64 q0, .int .u64 q1]) [] := math_bits_Mul64.ok h0
theorem math_bits_Mul64.fnb : fnb Try.prog 94 = true := fnb_of Try.func94 rfl
def math_bits_Mul.res (_p0 : Int) (_p1 : Int) : Int × Int → MV
  | (q0, q1) => .tup [.int .u64 q0, .int .u64 q1]
def math_bits_Mul.out (_p0 : Int) (_p1 : Int) : Int × Int → List (Nat × Option MObj)
  | (_, _) => []
theorem math_bits_Mul.ok {K : Nat} {p0 : Int} {p1 : Int} {r : Int × Int} (h0 : math_bits_Mul K p0 p1 = some r) : Fn Try.prog 81 [.int .u64 p0, .int .u64 p1] [] (math_bits_Mul.res p0 p1 r) (math_bits_Mul.out p0 p1 r) := by
  refine Fn_of Try.func81 rfl (Nat.le_of_ble_eq_true rfl) fun Γ => ?_
  refine TC_seq ?_
  refine TC_reg ?_
  refine TL_ev env 2 rfl ⟨tv, ⟨tv, tv⟩⟩ ?_
  refine TL_end ?_
  refine TE_go ?_
  refine TC_seq ?_
  refine TC_cond rfl (fun hb => ?_) (fun hb => ?_)
  · first | exact (ftf hb).elim | exact (tff hb).elim | exact absurd hb (by decide)
  · refine TC_skip ?_
    refine TE_go ?_
    refine TC_seq ?_
    refine TC_reg ?_
    refine TL_ev env 2 rfl ⟨tv, ⟨tv, tv⟩⟩ ?_
    obtain ⟨⟨r3, r4⟩, hr, h0⟩ := bnd h0
    refine TL_callB [] (math_bits_Mul64.ok0 hr) math_bits_Mul64.fnb rfl ⟨tv, ⟨tv, ⟨tv, tv⟩⟩⟩ rfl tv rfl ?_
    refine TL_ev env 5 rfl ⟨tv, ⟨tv, ⟨tv, ⟨tv, ⟨tv, tv⟩⟩⟩⟩⟩ ?_
    refine TL_end ?_
    refine TE_go ?_
    refine TC_seq ?_
    refine TC_reg ?_
    refine TL_ev env 4 rfl ⟨tv, ⟨tv, ⟨tv, ⟨tv, tv⟩⟩⟩⟩ ?_
    refine TL_end ?_
    refine TE_go ?_
    refine TC_ret ?_
    obtain rfl := sinj h0
    exact TE_ret env rfl tv tv
theorem math_bits_Mul.ok0 {K : Nat} {p0 : Int} {p1 : Int} {q0 : Int} {q1 : Int} (h0 : math_bits_Mul K p0 p1 = some (q0, q1)) : Fn Try.prog 81 [.int .u64 p0, .int .u64 p1] [] (.tup [.int .u64 q0, .int .u64 q1]) [] := math_bits_Mul.ok h0
theorem math_bits_Mul.fnb : fnb Try.prog 81 = true := fnb_of Try.func81 rfl
def slices_Repeat_int16_int16.res (_p0 : List (Int)) (_p1 : Int) : (List (Int)) → MV
  | q0 => .im (.slice (.int .i16)) q0
def slices_Repeat_int16_int16.out (_p0 : List (Int)) (_p1 : Int) : (List (Int)) → List (Nat × Option MObj)
  | _ => []
theorem slices_Repeat_int16_int16.ok {K : Nat} {p0 : List (Int)} {p1 : Int} {r : (List (Int))} (h0 : slices_Repeat_int16_int16 K p0 p1 = some r) : Fn Try.prog 62 [.im (.slice (.int .i16)) p0, .int .i64 p1] [] (slices_Repeat_int16_int16.res p0 p1 r) (slices_Repeat_int16_int16.out p0 p1 r) := by
  refine Fn_of Try.func62 rfl (Nat.le_of_ble_eq_true rfl) fun Γ => ?_
  refine TC_seq ?_
  refine TC_reg ?_
  refine TL_ev env 1 rfl ⟨tv, tv⟩ ?_
  refine TL_end ?_
  refine TE_go ?_
  refine TC_seq ?_
  refine TC_seq ?_
  refine TC_reg ?_
  refine TL_ev env 2 rfl ⟨tv, ⟨⟨tv, ⟨tv, tv⟩⟩, tv⟩⟩ ?_
  refine TL_end ?_
  refine TE_go ?_
  refine TC_cond rfl (fun hb => ?_) (fun hb => ?_)
  · replace h0 := bif_t h0 hb
    refine TC_reg ?_
    exact (nsome h0).elim
  · replace h0 := bif_f h0 hb
    refine TC_skip ?_
    refine TE_go ?_
    refine TC_seq ?_
    refine TC_reg ?_
    refine TL_ev env 5 rfl ⟨tv, ⟨⟨tv, tv⟩, ⟨tv, ⟨tv, ⟨tv, tv⟩⟩⟩⟩⟩ ?_
    obtain ⟨⟨r10, r11⟩, hr, h0⟩ := bnd h0
    refine TL_callB [] (math_bits_Mul.ok0 hr) math_bits_Mul.fnb rfl ⟨tv, ⟨tv, ⟨tv, tv⟩⟩⟩ rfl tv rfl ?_
    refine TL_ev env 5 rfl ⟨tv, ⟨tv, ⟨tv, ⟨tv, ⟨tv, tv⟩⟩⟩⟩⟩ ?_
    refine TL_end ?_
    refine TE_go ?_
    refine TC_seq ?_
    refine TC_seq ?_
    refine TC_reg ?_
    refine TL_ev env 6 rfl ⟨tv, ⟨⟨tv, ⟨tv, tv⟩⟩, ⟨tv, ⟨fun eg => tv, ⟨fun eg => ⟨fun e => e, ⟨tv, tv⟩⟩, ⟨⟨tv, ⟨tv, fun e => e⟩⟩, tv⟩⟩⟩⟩⟩⟩ ?_
    refine TL_end ?_
    refine TE_go ?_
    refine TC_cond rfl (fun hb => ?_) (fun hb => ?_)
    · replace h0 := bif_t h0 hb
      refine TC_reg ?_
      exact (nsome h0).elim
    · replace h0 := bif_f h0 hb
      refine TC_skip ?_
      refine TE_go ?_
      refine TC_seq ?_
      refine TC_reg ?_
      obtain ⟨g, h0⟩ := gd_t h0
      refine TL_ev env 4 rfl ⟨tv, ⟨tv, ⟨⟨tv, ⟨tv, ⟨g.1, ⟨g.2.1, g.2.2⟩⟩⟩⟩, ⟨tv, tv⟩⟩⟩⟩ ?_
      refine TL_end ?_
      refine TE_go ?_
      refine TC_seq ?_
      refine TC_reg ?_
      refine TL_ev env 4 rfl ⟨tv, ⟨tv, ⟨⟨⟨tv, ⟨tv, tv⟩⟩, ⟨tv, tv⟩⟩, ⟨tv, tv⟩⟩⟩⟩ ?_
      refine TL_end ?_
      refine TE_go ?_
      refine TC_seq ?_
      obtain ⟨z1, h1, h0⟩ := bnd h0
      refine TC_cut (α := (List (Int))) (fun s => z1 = s) (fun s => [(7, .sl 10800)]) (fun s => [(10800, some (.rows (.int .i16) s))]) ?_ ?_
      · refine TC_blk ?_
        refine TC_loop (α := Int × (List (Int))) (fun n s => slices_Repeat_int16_int16.l0 K n s.1 s.2 = some z1) (fun s => [(7, .sl 11000), (8, .int .i64 s.1)]) (fun s => [(11000, some (.rows (.int .i16) s.2))]) K ?_ ?_
        · exact SP_ren [(11000, 1030)] (_, _) h1 ⟨rfl, rfl, tv⟩ ⟨rfl, tv⟩ rfl
        rintro n ⟨x23, x24⟩ h1
        rcases n with _ | n
        · exact (nsome h1).elim
        replace h1 : slices_Repeat_int16_int16.r0 K (slices_Repeat_int16_int16.l0 K n) x23 x24 = some z1 := h1
        refine TC_seq ?_
        refine TC_seq ?_
        refine TC_reg ?_
        refine TL_ev env 4 rfl ⟨tv, ⟨tv, ⟨⟨tv, tv⟩, ⟨⟨tv, ⟨tv, tv⟩⟩, tv⟩⟩⟩⟩ ?_
        refine TL_end ?_
        refine TE_go ?_
        refine TC_cond rfl (fun hb => ?_) (fun hb => ?_)
        · replace h1 := bif_t h1 hb
          refine TC_skip ?_
          refine TE_go ?_
          refine TC_blk ?_
          refine TC_renw (A' := [(7, .sl 11000), (8, .int .i64 _)]) (L' := [(11000, some (.rows (.int .i16) _))]) [] ⟨rfl, rfl, tv⟩ ⟨rfl, tv⟩ rfl ?_
          refine TC_drawR ⟨_, fun i => ([[], [], [], [2, 1], [], [], [5, 4], [6, 5, 4, 3, 2, 1], [7, 6, 5, 4, 3, 2, 1, 0], [8, 7, 6, 5, 4, 3, 2, 1, 0]] : List (List Nat)).getD i [], fun i => ([[], [], [], [], [], [], [], [11000], [], []] : List (List Nat)).getD i [], fun i => ([[], [], [], [], [], [], [], [], [], []] : List (List Nat)).getD i []⟩ (fun i => ([[11000], [], [], [], [], [], [], [], [], []] : List (List Nat)).getD i []) (by kernel_rfl) (by kernel_rfl) ?_
          refine AJR_ev env 1 rfl (Nat.le_of_ble_eq_true rfl) rfl tv ?_
          refine AJR_ev env 2 rfl (Nat.le_of_ble_eq_true rfl) rfl tv ?_
          refine AJR_ev env 3 rfl (Nat.le_of_ble_eq_true rfl) rfl tv ?_
          obtain ⟨g, h1⟩ := gd_t h1
          refine AJR_ev env 4 rfl (Nat.le_of_ble_eq_true rfl) rfl ⟨tv, ⟨tv, ⟨tv, ⟨g.1, g.2⟩⟩⟩⟩ ?_
          refine AJR_ev env 5 rfl (Nat.le_of_ble_eq_true rfl) rfl tv ?_
          refine AJR_ev env 6 rfl (Nat.le_of_ble_eq_true rfl) rfl tv ?_
          obtain ⟨g, h1⟩ := gd_t h1
          refine AJR_ev env 7 rfl (Nat.le_of_ble_eq_true rfl) rfl ⟨tv, ⟨tv, ⟨tv, ⟨g.1, ⟨g.2.1, g.2.2⟩⟩⟩⟩⟩ ?_
          obtain ⟨g, h1⟩ := gd_t h1
          refine AJR_ev env 8 rfl (Nat.le_of_ble_eq_true rfl) rfl ⟨⟨tv, ⟨tv, tv⟩⟩, ⟨g.1, g.2⟩⟩ ?_
          refine AJR_ev env 9 rfl (Nat.le_of_ble_eq_true rfl) rfl ⟨tv, ⟨tv, tv⟩⟩ ?_
          refine AJR_ev env 10 rfl (Nat.le_of_ble_eq_true rfl) rfl tv ?_
          refine AJR_end rfl rfl rfl ?_
          refine tbn ?_
          refine tsn ?_
          exact TE_nextr [(11000, 11000)] n (Nat.lt_succ_self n) (_, _) h1 ⟨rfl, rfl, tv⟩ ⟨rfl, tv⟩ rfl
        · replace h1 := bif_f h1 hb
          refine TC_exit ?_
          refine tsx ?_
          refine tsx ?_
          refine tbe ?_
          obtain rfl := sinj h1
          refine tsn ?_
          exact SP_ren [(10800, 11000)] _ rfl ⟨rfl, tv⟩ ⟨rfl, tv⟩ rfl
      · rintro x22 hz
        obtain rfl := hz.symm
        refine TE_go ?_
        refine TC_seq ?_
        refine TC_reg ?_
        refine TL_ev env 2 rfl ⟨tv, ⟨tv, tv⟩⟩ ?_
        refine TL_end ?_
        refine TE_go ?_
        refine TC_ret ?_
        refine TE_frz 10800 rfl ?_
        obtain rfl := sinj h0
        exact TE_ret env rfl tv tv
theorem slices_Repeat_int16_int16.ok0 {K : Nat} {p0 : List (Int)} {p1 : Int} {q0 : List (Int)} (h0 : slices_Repeat_int16_int16 K p0 p1 = some q0) : Fn Try.prog 62 [.im (.slice (.int .i16)) p0, .int .i64 p1] [] (.im (.slice (.int .i16)) q0) [] := slices_Repeat_int16_int16.ok h0
theorem slices_Repeat_int16_int16.fnb : fnb Try.prog 62 = true := fnb_of Try.func62 rfl
def slices_Clone_int16_int16_2.res (_p0 : List (Int)) : (List (Int)) → MV
  | _ => .sl 1000
def slices_Clone_int16_int16_2.out (p0 : List (Int)) : (List (Int)) → List (Nat × Option MObj)
  | q0 => [(0, some (.rows (.int .i16) p0)), (1000, some (.rows (.int .i16) q0))]
theorem slices_Clone_int16_int16_2.ok {K : Nat} {p0 : List (Int)} {r : (List (Int))} (h0 : slices_Clone_int16_int16_2 K p0 = some r) : Fn Try.prog 63 [.sl 0] [(0, some (.rows (.int .i16) p0))] (slices_Clone_int16_int16_2.res p0 r) (slices_Clone_int16_int16_2.out p0 r) := by
  refine Fn_of Try.func63 rfl (Nat.le_of_ble_eq_true rfl) fun Γ => ?_
  refine TC_seq ?_
  refine TC_reg ?_
  refine TL_ev env 1 rfl ⟨tv, tv⟩ ?_
  refine TL_end ?_
  refine TE_go ?_
  refine TC_seq ?_
  refine TC_seq ?_
  refine TC_reg ?_
  obtain ⟨g, h0⟩ := gd_t h0
  refine TL_ev env 2 rfl ⟨tv, ⟨⟨tv, ⟨tv, g⟩⟩, tv⟩⟩ ?_
  refine TL_end ?_
  refine TE_go ?_
  refine TC_cond rfl (fun hb => ?_) (fun hb => ?_)
  · first | exact (ftf hb).elim | exact (tff hb).elim | exact absurd hb (by decide)
  · refine TC_skip ?_
    refine TE_go ?_
    refine TC_seq ?_
    refine TC_reg ?_
    obtain ⟨g, h0⟩ := gd_t h0
    refine TL_ev env 4 rfl ⟨tv, ⟨tv, ⟨⟨⟨tv, ⟨tv, tv⟩⟩, g⟩, ⟨tv, tv⟩⟩⟩⟩ ?_
    refine TL_end ?_
    refine TE_go ?_
    refine TC_ret ?_
    obtain rfl := sinj h0
    refine TE_renw (A' := [(2, .sl 1000)]) (L' := [(0, some (.rows (.int .i16) _)), (1000, some (.rows (.int .i16) _))]) [(1000, 1007)] ⟨rfl, tv⟩ ⟨rfl, rfl, tv⟩ rfl ?_
    exact TE_ret env rfl tv ⟨.inr rfl, .inr rfl, tv⟩
theorem slices_Clone_int16_int16_2.ok0 {K : Nat} {p0 : List (Int)} {q0 : List (Int)} (h0 : slices_Clone_int16_int16_2 K p0 = some q0) : Fn Try.prog 63 [.sl 0] [(0, some (.rows (.int .i16) p0))] (.sl 1000) [(0, some (.rows (.int .i16) p0)), (1000, some (.rows (.int .i16) q0))] := slices_Clone_int16_int16_2.ok h0
theorem slices_Clone_int16_int16_2.fnb : fnb Try.prog 63 = true := fnb_of Try.func63 rfl
def slices_Reverse_int16_int16.res (_p0 : List (Int)) : (List (Int)) → MV
  | _ => .tup []
def slices_Reverse_int16_int16.out (_p0 : List (Int)) : (List (Int)) → List (Nat × Option MObj)
  | q0 => [(0, some (.rows (.int .i16) q0))]
theorem slices_Reverse_int16_int16.ok {K : Nat} {p0 : List (Int)} {r : (List (Int))} (h0 : slices_Reverse_int16_int16 K p0 = some r) : Fn Try.prog 64 [.sl 0] [(0, some (.rows (.int .i16) p0))] (slices_Reverse_int16_int16.res p0 r) (slices_Reverse_int16_int16.out p0 r) := by
  refine Fn_of Try.func64 rfl (Nat.le_of_ble_eq_true rfl) fun Γ => ?_
  refine TC_seq ?_
  refine TC_reg ?_
  refine TL_ev env 5 rfl ⟨tv, ⟨⟨tv, tv⟩, ⟨⟨tv, ⟨tv, tv⟩⟩, ⟨tv, ⟨tv, tv⟩⟩⟩⟩⟩ ?_
  refine TL_end ?_
  refine TE_go ?_
  obtain ⟨z1, h1, h0⟩ := bnd h0
  refine TC_cut (α := (List (Int))) (fun s => z1 = s) (fun s => []) (fun s => [(0, some (.rows (.int .i16) s))]) ?_ ?_
  · refine TC_blk ?_
    refine TC_loop (α := Int × Int × (List (Int))) (fun n s => slices_Reverse_int16_int16.l0 K n s.1 s.2.1 s.2.2 = some z1) (fun s => [(0, .sl 0), (2, .int .i64 s.1), (3, .int .i64 s.2.1)]) (fun s => [(0, some (.rows (.int .i16) s.2.2))]) K ?_ ?_
    · exact SP_ren [] (_, _, _) h1 ⟨rfl, rfl, rfl, tv⟩ ⟨rfl, tv⟩ rfl
    rintro n ⟨x16, x17, x18⟩ h1
    rcases n with _ | n
    · exact (nsome h1).elim
    replace h1 : slices_Reverse_int16_int16.r0 K (slices_Reverse_int16_int16.l0 K n) x16 x17 x18 = some z1 := h1
    refine TC_seq ?_
    refine TC_seq ?_
    refine TC_reg ?_
    refine TL_ev env 3 rfl ⟨tv, ⟨tv, ⟨⟨tv, ⟨tv, tv⟩⟩, tv⟩⟩⟩ ?_
    refine TL_end ?_
    refine TE_go ?_
    refine TC_cond rfl (fun hb => ?_) (fun hb => ?_)
    · replace h1 := bif_t h1 hb
      refine TC_skip ?_
      refine TE_go ?_
      refine TC_seq ?_
      refine TC_blk ?_
      refine TC_renw (A' := [(0, .sl 0), (2, .int .i64 _), (3, .int .i64 _)]) (L' := [(0, some (.rows (.int .i16) _))]) [] ⟨rfl, rfl, rfl, tv⟩ ⟨rfl, tv⟩ rfl ?_
      refine TC_drawR ⟨_, fun i => ([[], [], [], [], [], [], [5, 4], [6, 5, 4], [], [], [9, 8], [10, 9, 8], [11, 10, 9, 8, 7, 6, 5, 4, 1, 0], [12, 11, 10, 9, 8, 7, 6, 5, 4, 1, 0], [13, 12, 11, 10, 9, 8, 7, 6, 5, 4, 3, 2, 1, 0], [14, 13, 12, 11, 10, 9, 8, 7, 6, 5, 4, 3, 2, 1, 0]] : List (List Nat)).getD i [], fun i => ([[], [], [], [], [], [], [], [], [], [], [], [], [], [0], [], [0]] : List (List Nat)).getD i [], fun i => ([[], [], [], [], [], [], [], [], [], [], [], [], [], [], [], []] : List (List Nat)).getD i []⟩ (fun i => ([[], [], [0], [0], [], [], [], [], [], [], [], [], [], [], [], []] : List (List Nat)).getD i []) (by kernel_rfl) (by kernel_rfl) ?_
      refine AJR_ev env 1 rfl (Nat.le_of_ble_eq_true rfl) rfl tv ?_
      refine AJR_ev env 2 rfl (Nat.le_of_ble_eq_true rfl) rfl tv ?_
      refine AJR_ev env 3 rfl (Nat.le_of_ble_eq_true rfl) rfl tv ?_
      refine AJR_ev env 4 rfl (Nat.le_of_ble_eq_true rfl) rfl tv ?_
      refine AJR_ev env 5 rfl (Nat.le_of_ble_eq_true rfl) rfl tv ?_
      refine AJR_ev env 6 rfl (Nat.le_of_ble_eq_true rfl) rfl tv ?_
      obtain ⟨g, h1⟩ := gd_t h1
      refine AJR_ev env 7 rfl (Nat.le_of_ble_eq_true rfl) rfl ⟨tv, ⟨tv, ⟨g.1, g.2⟩⟩⟩ ?_
      obtain ⟨g, h1⟩ := gd_t h1
      refine AJR_ev env 8 rfl (Nat.le_of_ble_eq_true rfl) rfl ⟨tv, g⟩ ?_
      refine AJR_ev env 9 rfl (Nat.le_of_ble_eq_true rfl) rfl tv ?_
      refine AJR_ev env 10 rfl (Nat.le_of_ble_eq_true rfl) rfl tv ?_
      obtain ⟨g, h1⟩ := gd_t h1
      refine AJR_ev env 11 rfl (Nat.le_of_ble_eq_true rfl) rfl ⟨tv, ⟨tv, ⟨g.1, g.2⟩⟩⟩ ?_
      obtain ⟨g, h1⟩ := gd_t h1
      refine AJR_ev env 12 rfl (Nat.le_of_ble_eq_true rfl) rfl ⟨tv, g⟩ ?_
      obtain ⟨g, h1⟩ := gd_t h1
      refine AJR_ev env 13 rfl (Nat.le_of_ble_eq_true rfl) rfl ⟨tv, ⟨tv, ⟨g.1, g.2⟩⟩⟩ ?_
      obtain ⟨g, h1⟩ := gd_t h1
      refine AJR_ev env 14 rfl (Nat.le_of_ble_eq_true rfl) rfl ⟨tv, ⟨tv, g⟩⟩ ?_
      obtain ⟨g, h1⟩ := gd_t h1
      refine AJR_ev env 15 rfl (Nat.le_of_ble_eq_true rfl) rfl ⟨tv, ⟨tv, ⟨g.1, g.2⟩⟩⟩ ?_
      obtain ⟨g, h1⟩ := gd_t h1
      refine AJR_ev env 16 rfl (Nat.le_of_ble_eq_true rfl) rfl ⟨tv, ⟨tv, g⟩⟩ ?_
      refine AJR_end rfl rfl rfl ?_
      refine tbn ?_
      refine TE_go ?_
      refine TC_reg ?_
      refine TL_ev env 6 rfl ⟨tv, ⟨⟨tv, ⟨tv, tv⟩⟩, ⟨tv, ⟨⟨tv, ⟨tv, tv⟩⟩, ⟨tv, ⟨tv, tv⟩⟩⟩⟩⟩⟩ ?_
      refine TL_end ?_
      refine tsn ?_
      exact TE_nextr [] n (Nat.lt_succ_self n) (_, _, _) h1 ⟨rfl, rfl, rfl, tv⟩ ⟨rfl, tv⟩ rfl
    · replace h1 := bif_f h1 hb
      refine TC_exit ?_
      refine tsx ?_
      refine tsx ?_
      refine tbe ?_
      obtain rfl := sinj h1
      refine tsn ?_
      exact SP_ren [] _ rfl tv ⟨rfl, tv⟩ rfl
  · rintro x15 hz
    obtain rfl := hz.symm
    obtain rfl := sinj h0
    exact TE_end env rfl tv ⟨.inr rfl, tv⟩
theorem slices_Reverse_int16_int16.ok0 {K : Nat} {p0 : List (Int)} {q0 : List (Int)} (h0 : slices_Reverse_int16_int16 K p0 = some q0) : Fn Try.prog 64 [.sl 0] [(0, some (.rows (.int .i16) p0))] (.tup []) [(0, some (.rows (.int .i16) q0))] := slices_Reverse_int16_int16.ok h0
theorem slices_Reverse_int16_int16.fnb : fnb Try.prog 64 = true := fnb_of Try.func64 rfl
def lapped_Window.res (_p0 : Int) (_p1 : List (Option (List (Int)))) (_p2 : Int) (_p3 : Int) : (Unit) ⊕ ((List (Int)) × (List (Option (List (Int)))) × Int × Int) → MV
  | .inl () => .tup [.nils, .int .i64 1]
  | .inr (q0, _, _, _) => .tup [.im (.slice (.int .i16)) q0, .int .i64 0]
def lapped_Window.out (_p0 : Int) (p1 : List (Option (List (Int)))) (p2 : Int) (p3 : Int) : (Unit) ⊕ ((List (Int)) × (List (Option (List (Int)))) × Int × Int) → List (Nat × Option MObj)
  | .inl () => [(0, some (.ab (bkA p1 p2 p3)))]
  | .inr (_, q1, q2, q3) => [(0, some (.ab (bkA q1 q2 q3)))]
theorem lapped_Window.ok {K : Nat} {p0 : Int} {p1 : List (Option (List (Int)))} {p2 : Int} {p3 : Int} {r : (Unit) ⊕ ((List (Int)) × (List (Option (List (Int)))) × Int × Int)} (h0 : lapped_Window K p0 p1 p2 p3 = some r) : Fn Try.prog 32 [.p 0 0, .int .i64 p0] [(0, some (.ab (bkA p1 p2 p3)))] (lapped_Window.res p0 p1 p2 p3 r) (lapped_Window.out p0 p1 p2 p3 r) := by
  refine Fn_of Try.func32 rfl (Nat.le_of_ble_eq_true rfl) fun Γ => ?_
  refine TC_seq ?_
  refine TC_reg ?_
  refine TL_ev env 2 rfl ⟨tv, ⟨tv, tv⟩⟩ ?_
  refine TL_end ?_
  refine TE_go ?_
  refine TC_seq ?_
  refine TC_reg ?_
  obtain ⟨⟨⟩, hr, h0⟩ := bnd h0
  refine TL_callB [] (lapped_lengths.ok0 hr) lapped_lengths.fnb rfl ⟨tv, tv⟩ rfl tv rfl ?_
  refine TL_ev env 2 rfl ⟨tv, ⟨⟨tv, tv⟩, tv⟩⟩ ?_
  refine TL_end ?_
  refine TE_go ?_
  refine TC_seq ?_
  refine TC_seq ?_
  refine TC_reg ?_
  refine TL_frzc 1006 (.pair (.int .i64) (.pair (.int .i64) (.pair (.int .i64) (.int .i64)))) (40, (60, (80, 120))) rfl ?_
  refine TL_ev env 2 rfl ⟨⟨tv, ⟨tv, ⟨tv, ⟨(by decide), ⟨(by decide), (by decide)⟩⟩⟩⟩⟩, ⟨tv, tv⟩⟩ ?_
  obtain ⟨r10, hr, h0⟩ := bnd h0
  refine TL_callB [] (slices_Contains_int_int.ok0 hr) slices_Contains_int_int.fnb rfl ⟨tv, ⟨tv, ⟨tv, tv⟩⟩⟩ rfl tv rfl ?_
  refine TL_ev env 1 rfl ⟨tv, tv⟩ ?_
  refine TL_end ?_
  refine TE_go ?_
  refine TC_cond rfl (fun hb => ?_) (fun hb => ?_)
  · replace h0 := bif_t h0 hb
    refine TC_seq ?_
    refine TC_reg ?_
    refine TL_ev env 2 rfl ⟨tv, ⟨tv, tv⟩⟩ ?_
    refine TL_end ?_
    refine TE_go ?_
    refine TC_ret ?_
    refine tsr ?_
    obtain rfl := sinj h0
    exact TE_ret env rfl tv ⟨.inr rfl, tv⟩
  · replace h0 := bif_f h0 hb
    refine TC_skip ?_
    refine TE_go ?_
    refine TC_seq ?_
    refine TC_reg ?_
    refine TL_ev env 3 rfl ⟨tv, ⟨tv, ⟨⟨tv, ⟨tv, (by decide)⟩⟩, tv⟩⟩⟩ ?_
    obtain ⟨z, hr, h0⟩ := bnd h0
    rcases z with ⟨⟩ | ⟨r12, r13, r14, r15⟩
    · refine TL_callB [(0, 0)] (bank_Bank_Slope.ok0 hr) bank_Bank_Slope.fnb rfl ⟨tv, ⟨tv, ⟨tv, tv⟩⟩⟩ rfl ⟨.inr rfl, tv⟩ rfl ?_
      refine TL_ev env 5 rfl ⟨tv, ⟨tv, ⟨tv, ⟨tv, ⟨tv, tv⟩⟩⟩⟩⟩ ?_
      refine TL_end ?_
      refine TE_go ?_
      refine TC_seq ?_
      refine TC_seq ?_
      refine TC_reg ?_
      refine TL_ev env 2 rfl ⟨tv, ⟨⟨tv, ⟨tv, tv⟩⟩, tv⟩⟩ ?_
      refine TL_end ?_
      refine TE_go ?_
      refine TC_cond rfl (fun hb => ?_) (fun hb => ?_)
      · refine TC_seq ?_
        refine TC_reg ?_
        refine TL_ev env 3 rfl ⟨tv, ⟨tv, ⟨tv, tv⟩⟩⟩ ?_
        refine TL_end ?_
        refine TE_go ?_
        refine TC_ret ?_
        refine tsr ?_
        obtain rfl := sinj h0
        exact TE_ret env rfl tv ⟨.inr rfl, tv⟩
      · first | exact (ftf hb).elim | exact (tff hb).elim | exact absurd hb (by decide)
    · refine TL_callB [(0, 0)] (bank_Bank_Slope.ok1 hr) bank_Bank_Slope.fnb rfl ⟨tv, ⟨tv, ⟨tv, tv⟩⟩⟩ rfl ⟨.inr rfl, tv⟩ rfl ?_
      refine TL_ev env 5 rfl ⟨tv, ⟨tv, ⟨tv, ⟨tv, ⟨tv, tv⟩⟩⟩⟩⟩ ?_
      refine TL_end ?_
      refine TE_go ?_
      refine TC_seq ?_
      refine TC_seq ?_
      refine TC_reg ?_
      refine TL_ev env 2 rfl ⟨tv, ⟨⟨tv, ⟨tv, tv⟩⟩, tv⟩⟩ ?_
      refine TL_end ?_
      refine TE_go ?_
      refine TC_cond rfl (fun hb => ?_) (fun hb => ?_)
      · first | exact (ftf hb).elim | exact (tff hb).elim | exact absurd hb (by decide)
      · refine TC_skip ?_
        refine TE_go ?_
        refine TC_seq ?_
        refine TC_reg ?_
        obtain ⟨g, h0⟩ := gd_t h0
        refine TL_ev env 6 rfl ⟨tv, ⟨⟨tv, ⟨tv, (by decide)⟩⟩, ⟨tv, ⟨⟨tv, ⟨tv, tv⟩⟩, ⟨⟨tv, ⟨tv, ⟨g.1, ⟨g.2.1, g.2.2⟩⟩⟩⟩, ⟨tv, tv⟩⟩⟩⟩⟩⟩ ?_
        refine TL_end ?_
        refine TE_go ?_
        refine TC_seq ?_
        refine TC_reg ?_
        obtain ⟨g, h0⟩ := gd_t h0
        refine TL_ev env 4 rfl ⟨tv, ⟨tv, ⟨⟨⟨tv, ⟨tv, tv⟩⟩, g⟩, ⟨tv, tv⟩⟩⟩⟩ ?_
        refine TL_end ?_
        refine TE_go ?_
        refine TC_seq ?_
        refine TC_reg ?_
        refine TL_ev env 4 rfl ⟨tv, ⟨⟨tv, tv⟩, ⟨tv, ⟨⟨tv, ⟨tv, (by decide)⟩⟩, tv⟩⟩⟩⟩ ?_
        refine TL_frz 1035 rfl ?_
        obtain ⟨r19, hr, h0⟩ := bnd h0
        refine TL_callB [] (slices_Repeat_int16_int16.ok0 hr) slices_Repeat_int16_int16.fnb rfl ⟨tv, ⟨tv, ⟨tv, tv⟩⟩⟩ rfl tv rfl ?_
        obtain ⟨g, h0⟩ := gd_t h0
        refine TL_ev env 2 rfl ⟨⟨⟨tv, ⟨tv, tv⟩⟩, g⟩, ⟨tv, tv⟩⟩ ?_
        refine TL_end ?_
        refine TE_go ?_
        refine TC_seq ?_
        refine TC_reg ?_
        refine TL_ev env 1 rfl ⟨tv, tv⟩ ?_
        obtain ⟨r21, hr, h0⟩ := bnd h0
        refine TL_callB [(0, 1039), (1000, 500410)] (slices_Clone_int16_int16_2.ok0 hr) slices_Clone_int16_int16_2.fnb rfl ⟨tv, ⟨tv, tv⟩⟩ rfl ⟨.inr rfl, tv⟩ rfl ?_
        refine TL_ev env 1 rfl ⟨tv, tv⟩ ?_
        refine TL_end ?_
        refine TE_go ?_
        refine TC_seq ?_
        refine TC_reg ?_
        refine TL_ev env 1 rfl ⟨tv, tv⟩ ?_
        obtain ⟨r22, hr, h0⟩ := bnd h0
        refine TL_callB [(0, 500410)] (slices_Reverse_int16_int16.ok0 hr) slices_Reverse_int16_int16.fnb rfl ⟨tv, ⟨tv, tv⟩⟩ rfl ⟨.inr rfl, tv⟩ rfl ?_
        refine TL_end ?_
        refine TE_go ?_
        refine TC_seq ?_
        refine TC_reg ?_
        obtain ⟨g, h0⟩ := gd_t h0
        refine TL_ev env 5 rfl ⟨tv, ⟨tv, ⟨⟨⟨tv, ⟨tv, tv⟩⟩, g⟩, ⟨tv, ⟨tv, tv⟩⟩⟩⟩⟩ ?_
        refine TL_end ?_
        refine TE_go ?_
        refine TC_ret ?_
        refine TE_frz 1046 rfl ?_
        obtain rfl := sinj h0
        exact TE_ret env rfl tv ⟨.inr rfl, tv⟩
theorem lapped_Window.ok0 {K : Nat} {p0 : Int} {p1 : List (Option (List (Int)))} {p2 : Int} {p3 : Int}  (h0 : lapped_Window K p0 p1 p2 p3 = some (.inl ())) : Fn Try.prog 32 [.p 0 0, .int .i64 p0] [(0, some (.ab (bkA p1 p2 p3)))] (.tup [.nils, .int .i64 1]) [(0, some (.ab (bkA p1 p2 p3)))] := lapped_Window.ok h0
theorem lapped_Window.ok1 {K : Nat} {p0 : Int} {p1 : List (Option (List (Int)))} {p2 : Int} {p3 : Int} {q0 : List (Int)} {q1 : List (Option (List (Int)))} {q2 : Int} {q3 : Int} (h0 : lapped_Window K p0 p1 p2 p3 = some (.inr (q0, q1, q2, q3))) : Fn Try.prog 32 [.p 0 0, .int .i64 p0] [(0, some (.ab (bkA p1 p2 p3)))] (.tup [.im (.slice (.int .i16)) q0, .int .i64 0]) [(0, some (.ab (bkA q1 q2 q3)))] := lapped_Window.ok h0
theorem lapped_Window.fnb : fnb Try.prog 32 = true := fnb_of Try.func32 rfl
def wave_Cosine.res (_p0 : Int) (_p1 : Int) : Int × Int → MV
  | (q0, q1) => .tup [.int .i16 q0, .int .i64 q1]
def wave_Cosine.out (_p0 : Int) (_p1 : Int) : Int × Int → List (Nat × Option MObj)
  | (_, _) => []
theorem wave_Cosine.ok {K : Nat} {p0 : Int} {p1 : Int} {r : Int × Int} (h0 : wave_Cosine K p0 p1 = some r) : Fn Try.prog 86 [.int .i64 p0, .int .i64 p1] [] (wave_Cosine.res p0 p1 r) (wave_Cosine.out p0 p1 r) := by
  refine Fn_of Try.func86 rfl (Nat.le_of_ble_eq_true rfl) fun Γ => ?_
  refine TC_seq ?_
  refine TC_reg ?_
  refine TL_ev env 2 rfl ⟨tv, ⟨tv, tv⟩⟩ ?_
  refine TL_end ?_
  refine TE_go ?_
  refine TC_seq ?_
  refine TC_seq ?_
  refine TC_reg ?_
  refine TL_ev env 6 rfl ⟨tv, ⟨⟨tv, ⟨tv, tv⟩⟩, ⟨tv, ⟨fun eg => tv, ⟨fun eg => ⟨fun e => e, ⟨tv, tv⟩⟩, ⟨⟨tv, ⟨tv, fun e => e⟩⟩, tv⟩⟩⟩⟩⟩⟩ ?_
  refine TL_end ?_
  refine TE_go ?_
  refine TC_cond rfl (fun hb => ?_) (fun hb => ?_)
  · replace h0 := bif_t h0 hb
    refine TC_seq ?_
    refine TC_reg ?_
    refine TL_ev env 2 rfl ⟨tv, ⟨tv, tv⟩⟩ ?_
    refine TL_end ?_
    refine TE_go ?_
    refine TC_ret ?_
    refine tsr ?_
    obtain rfl := sinj h0
    exact TE_ret env rfl tv tv
  · replace h0 := bif_f h0 hb
    refine TC_skip ?_
    refine TE_go ?_
    refine TC_seq ?_
    refine TC_reg ?_
    refine TL_ev env 2 rfl ⟨tv, ⟨tv, tv⟩⟩ ?_
    obtain ⟨r6, hr, h0⟩ := bnd h0
    refine TL_callB [] (wave_modulo.ok0 hr) wave_modulo.fnb rfl ⟨tv, ⟨tv, ⟨tv, tv⟩⟩⟩ rfl tv rfl ?_
    refine TL_ev env 5 rfl ⟨⟨tv, ⟨tv, tv⟩⟩, ⟨tv, ⟨⟨tv, ⟨tv, tv⟩⟩, ⟨tv, ⟨⟨tv, ⟨tv, tv⟩⟩, tv⟩⟩⟩⟩⟩ ?_
    obtain ⟨r10, hr, h0⟩ := bnd h0
    refine TL_callB [] (wave_sine.ok0 hr) wave_sine.fnb rfl ⟨tv, ⟨tv, ⟨tv, tv⟩⟩⟩ rfl tv rfl ?_
    refine TL_ev env 2 rfl ⟨tv, ⟨tv, tv⟩⟩ ?_
    refine TL_end ?_
    refine TE_go ?_
    refine TC_ret ?_
    obtain rfl := sinj h0
    exact TE_ret env rfl tv tv
theorem wave_Cosine.ok0 {K : Nat} {p0 : Int} {p1 : Int} {q0 : Int} {q1 : Int} (h0 : wave_Cosine K p0 p1 = some (q0, q1)) : Fn Try.prog 86 [.int .i64 p0, .int .i64 p1] [] (.tup [.int .i16 q0, .int .i64 q1]) [] := wave_Cosine.ok h0
theorem wave_Cosine.fnb : fnb Try.prog 86 = true := fnb_of Try.func86 rfl
def bank_Bank_Turn_1.res (_p0 : Int) (_p1 : Int) : Int → MV
  | q0 => .int .i16 q0
def bank_Bank_Turn_1.out (_p0 : Int) (p1 : Int) : Int → List (Nat × Option MObj)
  | _ => [(0, some (.cells [.int .i64 p1]))]
theorem bank_Bank_Turn_1.ok {K : Nat} {p0 : Int} {p1 : Int} {r : Int} (h0 : bank_Bank_Turn_1 K p0 p1 = some r) : Fn Try.prog 85 [.int .i64 p0, .p 0 0] [(0, some (.cells [.int .i64 p1]))] (bank_Bank_Turn_1.res p0 p1 r) (bank_Bank_Turn_1.out p0 p1 r) := by
  refine Fn_of Try.func85 rfl (Nat.le_of_ble_eq_true rfl) fun Γ => ?_
  refine TC_seq ?_
  refine TC_reg ?_
  refine TL_ev env 1 rfl ⟨tv, tv⟩ ?_
  refine TL_end ?_
  refine TE_go ?_
  refine TC_seq ?_
  refine TC_reg ?_
  refine TL_ev env 2 rfl ⟨tv, ⟨⟨tv, tv⟩, tv⟩⟩ ?_
  obtain ⟨⟨r3, r4⟩, hr, h0⟩ := bnd h0
  refine TL_callB [] (wave_Cosine.ok0 hr) wave_Cosine.fnb rfl ⟨tv, ⟨tv, ⟨tv, tv⟩⟩⟩ rfl tv rfl ?_
  refine TL_ev env 5 rfl ⟨tv, ⟨tv, ⟨tv, ⟨tv, ⟨tv, tv⟩⟩⟩⟩⟩ ?_
  refine TL_end ?_
  refine TE_go ?_
  refine TC_seq ?_
  refine TC_reg ?_
  refine TL_ev env 2 rfl ⟨tv, ⟨tv, tv⟩⟩ ?_
  refine TL_end ?_
  refine TE_go ?_
  refine TC_ret ?_
  obtain rfl := sinj h0
  exact TE_ret env rfl tv ⟨.inr rfl, tv⟩
theorem bank_Bank_Turn_1.ok0 {K : Nat} {p0 : Int} {p1 : Int} {q0 : Int} (h0 : bank_Bank_Turn_1 K p0 p1 = some q0) : Fn Try.prog 85 [.int .i64 p0, .p 0 0] [(0, some (.cells [.int .i64 p1]))] (.int .i16 q0) [(0, some (.cells [.int .i64 p1]))] := bank_Bank_Turn_1.ok h0
theorem bank_Bank_Turn_1.fnb : fnb Try.prog 85 = true := fnb_of Try.func85 rfl
def bank_Bank_tell_1_2.res (_p0 : List (Option (List (Int)))) (_p1 : List (Option (List (Int)))) (_p2 : Int) (_p3 : Int) (_p4 : Int) (_p5 : Int) : (List (Int)) × Int → MV
  | (_, _) => .tup []
def bank_Bank_tell_1_2.out (p0 : List (Option (List (Int)))) (p1 : List (Option (List (Int)))) (_p2 : Int) (p3 : Int) (p4 : Int) (p5 : Int) : (List (Int)) × Int → List (Nat × Option MObj)
  | (q0, q1) => [(0, some (.foc (tcs p0) [.int .u32 0, .int .i32 1, .int .u32 0, .im (.slice (.int .i16)) q0] (pst p1 q1 p3))), (1, some (.cells [.int .i64 p4])), (2, some (.cells [.pf 0 (tcs p0).length 0])), (3, some (.cells [.fn 85 [.p 5 0]])), (4, some (.cells [.p 0 0])), (5, some (.cells [.int .i64 p5]))]
theorem bank_Bank_tell_1_2.ok {K : Nat} {p0 : List (Option (List (Int)))} {p1 : List (Option (List (Int)))} {p2 : Int} {p3 : Int} {p4 : Int} {p5 : Int} {r : (List (Int)) × Int} (h0 : bank_Bank_tell_1_2 K p0 p1 p2 p3 p4 p5 = some r) : Fn Try.prog 90 [.p 1 0, .p 2 0, .p 3 0, .p 4 0] [(0, some (.foc (tcs p0) [.int .u32 0, .int .i32 1, .int .u32 0, .nils] (pst p1 p2 p3))), (1, some (.cells [.int .i64 p4])), (2, some (.cells [.pf 0 (tcs p0).length 0])), (3, some (.cells [.fn 85 [.p 5 0]])), (4, some (.cells [.p 0 0])), (5, some (.cells [.int .i64 p5]))] (bank_Bank_tell_1_2.res p0 p1 p2 p3 p4 p5 r) (bank_Bank_tell_1_2.out p0 p1 p2 p3 p4 p5 r) := by
  refine Fn_of Try.func90 rfl (Nat.le_of_ble_eq_true rfl) fun Γ => ?_
  refine TC_seq ?_
  refine TC_renw (A' := [(0, .p 1 0), (1, .p 2 0), (2, .p 3 0), (3, .p 4 0)]) (L' := [(0, some (.foc (tcs _) [.int .u32 0, .int .i32 1, .int .u32 0, .nils] (pst _ _ _))), (1, some (.cells [.int .i64 _])), (2, some (.cells [.pf 0 (tcs _).length 0])), (3, some (.cells [.fn 85 [.p 5 0]])), (4, some (.cells [.p 0 0])), (5, some (.cells [.int .i64 _]))]) [] ⟨rfl, rfl, rfl, rfl, tv⟩ ⟨rfl, rfl, rfl, rfl, rfl, rfl, tv⟩ rfl ?_
  refine TC_drawR ⟨_, fun i => ([[], [], [1], [2, 1, 0], [3, 2, 1, 0], [4, 3, 2, 1, 0]] : List (List Nat)).getD i [], fun i => ([[], [], [1007], [], [], [0]] : List (List Nat)).getD i [], fun i => ([[], [], [1007], [], [], []] : List (List Nat)).getD i []⟩ (fun i => ([[1007], [], [], [], [], []] : List (List Nat)).getD i []) (by kernel_rfl) (by kernel_rfl) ?_
  refine AJR_ev env 1 rfl (Nat.le_of_ble_eq_true rfl) rfl ⟨tv, tv⟩ ?_
  refine AJR_ev env 2 rfl (Nat.le_of_ble_eq_true rfl) rfl ⟨tv, tv⟩ ?_
  obtain ⟨g, h0⟩ := gd_t h0
  refine AJR_ev env 3 rfl (Nat.le_of_ble_eq_true rfl) rfl ⟨tv, ⟨tv, ⟨g.1, ⟨g.2.1, g.2.2⟩⟩⟩⟩ ?_
  refine AJR_ev env 4 rfl (Nat.le_of_ble_eq_true rfl) rfl tv ?_
  refine AJR_ev env 5 rfl (Nat.le_of_ble_eq_true rfl) rfl tv ?_
  refine AJR_ev env 6 rfl (Nat.le_of_ble_eq_true rfl) rfl ⟨tv, ⟨tv, rfl⟩⟩ ?_
  refine AJR_end rfl rfl rfl ?_
  refine TE_go ?_
  refine TC_seq ?_
  refine TC_seq ?_
  refine TC_reg ?_
  refine TL_ev env 6 rfl ⟨⟨tv, tv⟩, ⟨tv, ⟨tv, ⟨⟨tv, rfl⟩, ⟨⟨tv, tv⟩, ⟨tv, tv⟩⟩⟩⟩⟩⟩ ?_
  refine TL_end ?_
  refine TE_go ?_
  obtain ⟨z1, h1, h0⟩ := bnd h0
  refine TC_cut (α := (List (Int))) (fun s => z1 = s) (fun s => [(3, .p 4 0)]) (fun s => [(0, some (.foc (tcs p0) [.int .u32 0, .int .i32 1, .int .u32 0, .sl 10806] (pst p1 p2 p3))), (1, some (.cells [.int .i64 p4])), (2, some (.cells [.pf 0 (tcs p0).length 0])), (3, some (.cells [.fn 85 [.p 5 0]])), (4, some (.cells [.p 0 0])), (5, some (.cells [.int .i64 p5])), (10806, some (.rows (.int .i16) s))]) ?_ ?_
  · refine TC_blk ?_
    refine TC_loop (α := Int × (List (Int))) (fun n s => bank_Bank_tell_1_2.l0 K ((List.replicate (Int.toNat p4) (0 : Int)).length : Int) p0 p1 p2 p3 p4 p5 n s.1 s.2 = some z1) (fun s => [(1, .p 2 0), (2, .p 3 0), (3, .p 4 0), (14, .int .i64 ((List.replicate (Int.toNat p4) (0 : Int)).length : Int)), (15, .int .i64 s.1)]) (fun s => [(0, some (.foc (tcs p0) [.int .u32 0, .int .i32 1, .int .u32 0, .sl 11006] (pst p1 p2 p3))), (1, some (.cells [.int .i64 p4])), (2, some (.cells [.pf 0 (tcs p0).length 0])), (3, some (.cells [.fn 85 [.p 5 0]])), (4, some (.cells [.p 0 0])), (5, some (.cells [.int .i64 p5])), (11006, some (.rows (.int .i16) s.2))]) K ?_ ?_
    · exact SP_ren [(11006, 1007)] (_, _) h1 ⟨rfl, rfl, rfl, rfl, rfl, tv⟩ ⟨rfl, rfl, rfl, rfl, rfl, rfl, rfl, tv⟩ rfl
    rintro n ⟨x25, x26⟩ h1
    rcases n with _ | n
    · exact (nsome h1).elim
    replace h1 : bank_Bank_tell_1_2.r0 K ((List.replicate (Int.toNat p4) (0 : Int)).length : Int) p0 p1 p2 p3 p4 p5 (bank_Bank_tell_1_2.l0 K ((List.replicate (Int.toNat p4) (0 : Int)).length : Int) p0 p1 p2 p3 p4 p5 n) x25 x26 = some z1 := h1
    refine TC_seq ?_
    refine TC_reg ?_
    refine TL_ev env 1 rfl ⟨⟨tv, ⟨tv, tv⟩⟩, tv⟩ ?_
    refine TL_end ?_
    refine TE_go ?_
    refine TC_seq ?_
    refine TC_cond rfl (fun hb => ?_) (fun hb => ?_)
    · replace h1 := bif_t h1 hb
      refine TC_skip ?_
      refine TE_go ?_
      refine TC_seq ?_
      refine TC_blk ?_
      refine TC_seq ?_
      refine TC_reg ?_
      refine TL_ev env 2 rfl ⟨tv, ⟨tv, tv⟩⟩ ?_
      refine TL_end ?_
      refine TE_go ?_
      refine TC_renw (A' := [(1, .p 2 0), (2, .p 3 0), (3, .p 4 0), (4, .int .i64 _), (14, .int .i64 _), (15, .int .i64 _)]) (L' := [(0, some (.foc (tcs _) [.int .u32 0, .int .i32 1, .int .u32 0, .sl 11006] (pst _ _ _))), (1, some (.cells [.int .i64 _])), (2, some (.cells [.pf 0 (tcs _).length 0])), (3, some (.cells [.fn 85 [.p 5 0]])), (4, some (.cells [.p 0 0])), (5, some (.cells [.int .i64 _])), (11006, some (.rows (.int .i16) _))]) [] ⟨rfl, rfl, rfl, rfl, rfl, rfl, tv⟩ ⟨rfl, rfl, rfl, rfl, rfl, rfl, rfl, tv⟩ rfl ?_
      refine TC_drawR ⟨_, fun i => ([[], [0], [1, 0], [2, 1, 0], [], [], [], [6, 5], [7, 6, 5, 4, 3, 2, 1, 0], [8, 7, 6, 5, 4, 3, 2, 1, 0]] : List (List Nat)).getD i [], fun i => ([[], [], [], [], [], [], [], [], [], [11006]] : List (List Nat)).getD i [], fun i => ([[], [], [], [], [], [], [], [], [], []] : List (List Nat)).getD i []⟩ (fun i => ([[], [], [], [], [], [], [], [], [], []] : List (List Nat)).getD i []) (by kernel_rfl) (by kernel_rfl) ?_
      refine AJR_ev env 1 rfl (Nat.le_of_ble_eq_true rfl) rfl ⟨tv, tv⟩ ?_
      refine AJR_ev env 2 rfl (Nat.le_of_ble_eq_true rfl) rfl tv ?_
      refine AJR_ev env 3 rfl (Nat.le_of_ble_eq_true rfl) rfl tv ?_
      refine AJR_ev env 4 rfl (Nat.le_of_ble_eq_true rfl) rfl ⟨tv, rfl⟩ ?_
      refine AJR_ev env 5 rfl (Nat.le_of_ble_eq_true rfl) rfl tv ?_
      refine AJR_ev env 6 rfl (Nat.le_of_ble_eq_true rfl) rfl ⟨tv, tv⟩ ?_
      refine AJR_ev env 7 rfl (Nat.le_of_ble_eq_true rfl) rfl tv ?_
      obtain ⟨r33, hr, h1⟩ := bnd h1
      refine AJR_callS 8 rfl (Nat.le_of_ble_eq_true rfl) [(0, 5)] rfl (bank_Bank_Turn_1.ok0 hr) bank_Bank_Turn_1.fnb rfl ⟨tv, ⟨tv, tv⟩⟩ rfl ⟨.inr rfl, tv⟩ rfl ⟨⟨rfl, rfl⟩, tv⟩ ?_
      obtain ⟨g, h1⟩ := gd_t h1
      refine AJR_ev env 9 rfl (Nat.le_of_ble_eq_true rfl) rfl ⟨tv, ⟨tv, ⟨g.1, g.2⟩⟩⟩ ?_
      obtain ⟨g, h1⟩ := gd_t h1
      refine AJR_ev env 10 rfl (Nat.le_of_ble_eq_true rfl) rfl ⟨tv, ⟨tv, g⟩⟩ ?_
      refine AJR_end rfl rfl rfl ?_
      refine tbn ?_
      refine TE_go ?_
      refine TC_reg ?_
      refine TL_ev env 2 rfl ⟨⟨tv, ⟨tv, tv⟩⟩, ⟨tv, tv⟩⟩ ?_
      refine TL_end ?_
      refine tsn ?_
      exact TE_nextr [(11006, 11006)] n (Nat.lt_succ_self n) (_, _) h1 ⟨rfl, rfl, rfl, rfl, rfl, tv⟩ ⟨rfl, rfl, rfl, rfl, rfl, rfl, rfl, tv⟩ rfl
    · replace h1 := bif_f h1 hb
      refine TC_exit ?_
      refine tsx ?_
      refine tsx ?_
      refine tbe ?_
      obtain rfl := sinj h1
      refine tsn ?_
      exact SP_ren [(10806, 11006)] _ rfl ⟨rfl, tv⟩ ⟨rfl, rfl, rfl, rfl, rfl, rfl, rfl, tv⟩ rfl
  · rintro x21 hz
    obtain rfl := hz.symm
    refine TE_go ?_
    refine TC_reg ?_
    refine TL_ev env 3 rfl ⟨⟨tv, tv⟩, ⟨tv, ⟨tv, tv⟩⟩⟩ ?_
    refine TL_frz 10806 rfl ?_
    obtain ⟨r22, hr, h0⟩ := bnd h0
    refine TL_callB [(0, 0)] (sync_atomic_Int64_Add.ok0 hr) sync_atomic_Int64_Add.fnb rfl ⟨tv, ⟨tv, ⟨tv, tv⟩⟩⟩ rfl ⟨.inr rfl, tv⟩ rfl ?_
    refine TL_end ?_
    obtain rfl := sinj h0
    exact TE_end env rfl tv ⟨.inr rfl, .inr rfl, .inr rfl, .inr rfl, .inr rfl, .inr rfl, tv⟩
theorem bank_Bank_tell_1_2.ok0 {K : Nat} {p0 : List (Option (List (Int)))} {p1 : List (Option (List (Int)))} {p2 : Int} {p3 : Int} {p4 : Int} {p5 : Int} {q0 : List (Int)} {q1 : Int} (h0 : bank_Bank_tell_1_2 K p0 p1 p2 p3 p4 p5 = some (q0, q1)) : Fn Try.prog 90 [.p 1 0, .p 2 0, .p 3 0, .p 4 0] [(0, some (.foc (tcs p0) [.int .u32 0, .int .i32 1, .int .u32 0, .nils] (pst p1 p2 p3))), (1, some (.cells [.int .i64 p4])), (2, some (.cells [.pf 0 (tcs p0).length 0])), (3, some (.cells [.fn 85 [.p 5 0]])), (4, some (.cells [.p 0 0])), (5, some (.cells [.int .i64 p5]))] (.tup []) [(0, some (.foc (tcs p0) [.int .u32 0, .int .i32 1, .int .u32 0, .im (.slice (.int .i16)) q0] (pst p1 q1 p3))), (1, some (.cells [.int .i64 p4])), (2, some (.cells [.pf 0 (tcs p0).length 0])), (3, some (.cells [.fn 85 [.p 5 0]])), (4, some (.cells [.p 0 0])), (5, some (.cells [.int .i64 p5]))] := bank_Bank_tell_1_2.ok h0
theorem bank_Bank_tell_1_2.fnb : fnb Try.prog 90 = true := fnb_of Try.func90 rfl
theorem sync_Once_doSlow_2.ok0 {K : Nat} {p0 : List (Option (List (Int)))} {p1 : List (Option (List (Int)))} {p2 : Int} {p3 : Int} {p4 : Int} {p5 : Int} {q0 : List (Int)} {q1 : Int} (h0 : sync_Once_doSlow_2 K p0 p1 p2 p3 p4 p5 = some (q0, q1)) : Fn Try.prog 98 [.pf 0 (tcs p0).length 0, .fn 90 [.p 1 0, .p 2 0, .p 3 0, .p 4 0]] [(0, some (.foc (tcs p0) [.int .u32 0, .int .i32 0, .int .u32 0, .nils] (pst p1 p2 p3))), (1, some (.cells [.int .i64 p4])), (2, some (.cells [.pf 0 (tcs p0).length 0])), (3, some (.cells [.fn 85 [.p 5 0]])), (4, some (.cells [.p 0 0])), (5, some (.cells [.int .i64 p5]))] (.tup []) [(0, some (.foc (tcs p0) [.int .u32 1, .int .i32 0, .int .u32 0, .im (.slice (.int .i16)) q0] (pst p1 q1 p3))), (1, some (.cells [.int .i64 p4])), (2, some (.cells [.pf 0 (tcs p0).length 0])), (3, some (.cells [.fn 85 [.p 5 0]])), (4, some (.cells [.p 0 0])), (5, some (.cells [.int .i64 p5]))] := by
  exact slow_fn rfl (bank_Bank_tell_1_2.ok0 h0)
theorem sync_Once_doSlow_2.fnb : fnb Try.prog 98 = true := fnb_of Try.func98 rfl
def sync_Once_Do_3.res (_p0 : List (Option (List (Int)))) (_p1 : List (Option (List (Int)))) (_p2 : Int) (_p3 : Int) (_p4 : Int) (_p5 : Int) : (List (Int)) × Int → MV
  | (_, _) => .tup []
def sync_Once_Do_3.out (p0 : List (Option (List (Int)))) (p1 : List (Option (List (Int)))) (_p2 : Int) (p3 : Int) (p4 : Int) (p5 : Int) : (List (Int)) × Int → List (Nat × Option MObj)
  | (q0, q1) => [(0, some (.foc (tcs p0) [.int .u32 1, .int .i32 0, .int .u32 0, .im (.slice (.int .i16)) q0] (pst p1 q1 p3))), (1, some (.cells [.int .i64 p4])), (2, some (.cells [.pf 0 (tcs p0).length 0])), (3, some (.cells [.fn 85 [.p 5 0]])), (4, some (.cells [.p 0 0])), (5, some (.cells [.int .i64 p5]))]
theorem sync_Once_Do_3.ok {K : Nat} {p0 : List (Option (List (Int)))} {p1 : List (Option (List (Int)))} {p2 : Int} {p3 : Int} {p4 : Int} {p5 : Int} {r : (List (Int)) × Int} (h0 : sync_Once_Do_3 K p0 p1 p2 p3 p4 p5 = some r) : Fn Try.prog 89 [.pf 0 (tcs p0).length 0, .fn 90 [.p 1 0, .p 2 0, .p 3 0, .p 4 0]] [(0, some (.foc (tcs p0) [.int .u32 0, .int .i32 0, .int .u32 0, .nils] (pst p1 p2 p3))), (1, some (.cells [.int .i64 p4])), (2, some (.cells [.pf 0 (tcs p0).length 0])), (3, some (.cells [.fn 85 [.p 5 0]])), (4, some (.cells [.p 0 0])), (5, some (.cells [.int .i64 p5]))] (sync_Once_Do_3.res p0 p1 p2 p3 p4 p5 r) (sync_Once_Do_3.out p0 p1 p2 p3 p4 p5 r) := by
  refine Fn_of Try.func89 rfl (Nat.le_of_ble_eq_true rfl) fun Γ => ?_
  refine TC_seq ?_
  refine TC_reg ?_
  refine TL_ev env 3 rfl ⟨tv, ⟨tv, ⟨tv, tv⟩⟩⟩ ?_
  obtain ⟨⟨⟩, hr, h0⟩ := bnd h0
  refine TL_callB [(0, 0)] (sync_atomic_Bool_Load.ok0 hr) sync_atomic_Bool_Load.fnb rfl ⟨tv, ⟨tv, tv⟩⟩ rfl ⟨.inr rfl, tv⟩ rfl ?_
  refine TL_ev env 1 rfl ⟨tv, tv⟩ ?_
  refine TL_end ?_
  refine TE_go ?_
  refine TC_cond rfl (fun hb => ?_) (fun hb => ?_)
  · refine TC_reg ?_
    refine TL_ev env 2 rfl ⟨tv, ⟨tv, tv⟩⟩ ?_
    obtain ⟨⟨r3, r4⟩, hr, h0⟩ := bnd h0
    refine TL_callB [(0, 0), (1, 1), (2, 2), (3, 3), (4, 4), (5, 5)] (sync_Once_doSlow_2.ok0 hr) sync_Once_doSlow_2.fnb rfl ⟨tv, ⟨tv, ⟨tv, tv⟩⟩⟩ rfl ⟨.inr rfl, .inr rfl, .inr rfl, .inr rfl, .inr rfl, .inr rfl, tv⟩ rfl ?_
    refine TL_end ?_
    obtain rfl := sinj h0
    exact TE_end env rfl tv ⟨.inr rfl, .inr rfl, .inr rfl, .inr rfl, .inr rfl, .inr rfl, tv⟩
  · first | exact (ftf hb).elim | exact (tff hb).elim | exact absurd hb (by decide)
theorem sync_Once_Do_3.ok0 {K : Nat} {p0 : List (Option (List (Int)))} {p1 : List (Option (List (Int)))} {p2 : Int} {p3 : Int} {p4 : Int} {p5 : Int} {q0 : List (Int)} {q1 : Int} (h0 : sync_Once_Do_3 K p0 p1 p2 p3 p4 p5 = some (q0, q1)) : Fn Try.prog 89 [.pf 0 (tcs p0).length 0, .fn 90 [.p 1 0, .p 2 0, .p 3 0, .p 4 0]] [(0, some (.foc (tcs p0) [.int .u32 0, .int .i32 0, .int .u32 0, .nils] (pst p1 p2 p3))), (1, some (.cells [.int .i64 p4])), (2, some (.cells [.pf 0 (tcs p0).length 0])), (3, some (.cells [.fn 85 [.p 5 0]])), (4, some (.cells [.p 0 0])), (5, some (.cells [.int .i64 p5]))] (.tup []) [(0, some (.foc (tcs p0) [.int .u32 1, .int .i32 0, .int .u32 0, .im (.slice (.int .i16)) q0] (pst p1 q1 p3))), (1, some (.cells [.int .i64 p4])), (2, some (.cells [.pf 0 (tcs p0).length 0])), (3, some (.cells [.fn 85 [.p 5 0]])), (4, some (.cells [.p 0 0])), (5, some (.cells [.int .i64 p5]))] := sync_Once_Do_3.ok h0
theorem sync_Once_Do_3.fnb : fnb Try.prog 89 = true := fnb_of Try.func89 rfl
def bank_Bank_tell_4.res (_t0 : List (Option (List (Int)))) (_t1 : List (Option (List (Int)))) (_p1 : Int) (_p3 : Int) (_p4 : Int) (_p5 : Int) : (List (Int)) × (List (Int)) × Int × Int → MV
  | (q0, _, _, _) => .tup [.im (.slice (.int .i16)) q0, .int .i64 0]
def bank_Bank_tell_4.out (t0 : List (Option (List (Int)))) (t1 : List (Option (List (Int)))) (_p1 : Int) (_p3 : Int) (_p4 : Int) (p5 : Int) : (List (Int)) × (List (Int)) × Int × Int → List (Nat × Option MObj)
  | (_, q1, q2, q3) => [(0, some (.foc (tcs t0) [.int .u32 1, .int .i32 0, .int .u32 0, .im (.slice (.int .i16)) q1] (pst t1 q2 q3))), (1, some (.cells [.int .i64 p5]))]
theorem bank_Bank_tell_4.ok {K : Nat} {t0 : List (Option (List (Int)))} {t1 : List (Option (List (Int)))} {p1 : Int} {p3 : Int} {p4 : Int} {p5 : Int} {r : (List (Int)) × (List (Int)) × Int × Int} (h0 : bank_Bank_tell_4 K t0 t1 p1 p3 p4 p5 = some r) : Fn Try.prog 78 [.p 0 0, .pf 0 (tcs t0).length 0, .int .i64 p1, .fn 85 [.p 1 0]] [(0, some (.foc (tcs t0) [.int .u32 0, .int .i32 0, .int .u32 0, .nils] (pst t1 p3 p4))), (1, some (.cells [.int .i64 p5]))] (bank_Bank_tell_4.res t0 t1 p1 p3 p4 p5 r) (bank_Bank_tell_4.out t0 t1 p1 p3 p4 p5 r) := by
  refine Fn_of Try.func78 rfl (Nat.le_of_ble_eq_true rfl) fun Γ => ?_
  refine TC_seq ?_
  refine TC_reg ?_
  refine TL_ev env 6 rfl ⟨tv, ⟨tv, ⟨tv, ⟨tv, ⟨tv, ⟨tv, tv⟩⟩⟩⟩⟩⟩ ?_
  refine TL_end ?_
  refine TE_go ?_
  refine TC_seq ?_
  refine TC_reg ?_
  refine TL_ev env 4 rfl ⟨⟨tv, tv⟩, ⟨tv, ⟨tv, ⟨⟨tv, ⟨tv, ⟨tv, ⟨tv, tv⟩⟩⟩⟩, tv⟩⟩⟩⟩ ?_
  obtain ⟨⟨r5, r6⟩, hr, h0⟩ := bnd h0
  refine TL_callB [(0, 0), (1, 1006), (2, 1005), (3, 1007), (4, 1004), (5, 1)] (sync_Once_Do_3.ok0 hr) sync_Once_Do_3.fnb rfl ⟨tv, ⟨tv, ⟨tv, tv⟩⟩⟩ rfl ⟨.inr rfl, .inr rfl, .inr rfl, .inr rfl, .inr rfl, .inr rfl, tv⟩ rfl ?_
  refine TL_end ?_
  refine TE_go ?_
  refine TC_seq ?_
  refine TC_reg ?_
  refine TL_ev env 3 rfl ⟨⟨tv, tv⟩, ⟨tv, ⟨tv, tv⟩⟩⟩ ?_
  obtain ⟨r7, hr, h0⟩ := bnd h0
  refine TL_callB [(0, 0)] (sync_atomic_Int64_Add_2.ok0 hr) sync_atomic_Int64_Add_2.fnb rfl ⟨tv, ⟨tv, ⟨tv, tv⟩⟩⟩ rfl ⟨.inr rfl, tv⟩ rfl ?_
  refine TL_end ?_
  refine TE_go ?_
  refine TC_seq ?_
  refine TC_reg ?_
  refine TL_ev env 4 rfl ⟨⟨tv, tv⟩, ⟨tv, ⟨tv, ⟨⟨tv, rfl⟩, tv⟩⟩⟩⟩ ?_
  obtain ⟨r8, hr, h0⟩ := bnd h0
  refine TL_callB [(1000, 500230)] (slices_Clone_int16_int16.ok0 hr) slices_Clone_int16_int16.fnb rfl ⟨tv, ⟨tv, tv⟩⟩ rfl tv rfl ?_
  refine TL_ev env 2 rfl ⟨tv, ⟨tv, tv⟩⟩ ?_
  refine TL_end ?_
  refine TE_go ?_
  refine TC_ret ?_
  refine TE_frz 500230 rfl ?_
  obtain rfl := sinj h0
  exact TE_ret env rfl tv ⟨.inr rfl, .inr rfl, tv⟩
theorem bank_Bank_tell_4.ok0 {K : Nat} {t0 : List (Option (List (Int)))} {t1 : List (Option (List (Int)))} {p1 : Int} {p3 : Int} {p4 : Int} {p5 : Int} {q0 : List (Int)} {q1 : List (Int)} {q2 : Int} {q3 : Int} (h0 : bank_Bank_tell_4 K t0 t1 p1 p3 p4 p5 = some (q0, q1, q2, q3)) : Fn Try.prog 78 [.p 0 0, .pf 0 (tcs t0).length 0, .int .i64 p1, .fn 85 [.p 1 0]] [(0, some (.foc (tcs t0) [.int .u32 0, .int .i32 0, .int .u32 0, .nils] (pst t1 p3 p4))), (1, some (.cells [.int .i64 p5]))] (.tup [.im (.slice (.int .i16)) q0, .int .i64 0]) [(0, some (.foc (tcs t0) [.int .u32 1, .int .i32 0, .int .u32 0, .im (.slice (.int .i16)) q1] (pst t1 q2 q3))), (1, some (.cells [.int .i64 p5]))] := bank_Bank_tell_4.ok h0
theorem bank_Bank_tell_4.fnb : fnb Try.prog 78 = true := fnb_of Try.func78 rfl
def sync_Once_Do_4.res (_p0 : List (Option (List (Int)))) (_p1 : List (Int)) (_p2 : List (Option (List (Int)))) (_p3 : Int) (_p4 : Int) (_p5 : Int) (_p6 : Int) : Unit → MV
  | () => .tup []
def sync_Once_Do_4.out (p0 : List (Option (List (Int)))) (p1 : List (Int)) (p2 : List (Option (List (Int)))) (p3 : Int) (p4 : Int) (p5 : Int) (p6 : Int) : Unit → List (Nat × Option MObj)
  | () => [(0, some (.foc (tcs p0) [.int .u32 1, .int .i32 0, .int .u32 0, .im (.slice (.int .i16)) p1] (pst p2 p3 p4))), (1, some (.cells [.int .i64 p5])), (2, some (.cells [.pf 0 (tcs p0).length 0])), (3, some (.cells [.fn 85 [.p 5 0]])), (4, some (.cells [.p 0 0])), (5, some (.cells [.int .i64 p6]))]
theorem sync_Once_Do_4.ok {K : Nat} {p0 : List (Option (List (Int)))} {p1 : List (Int)} {p2 : List (Option (List (Int)))} {p3 : Int} {p4 : Int} {p5 : Int} {p6 : Int} {r : Unit} (h0 : sync_Once_Do_4 K p0 p1 p2 p3 p4 p5 p6 = some r) : Fn Try.prog 89 [.pf 0 (tcs p0).length 0, .fn 90 [.p 1 0, .p 2 0, .p 3 0, .p 4 0]] [(0, some (.foc (tcs p0) [.int .u32 1, .int .i32 0, .int .u32 0, .im (.slice (.int .i16)) p1] (pst p2 p3 p4))), (1, some (.cells [.int .i64 p5])), (2, some (.cells [.pf 0 (tcs p0).length 0])), (3, some (.cells [.fn 85 [.p 5 0]])), (4, some (.cells [.p 0 0])), (5, some (.cells [.int .i64 p6]))] (sync_Once_Do_4.res p0 p1 p2 p3 p4 p5 p6 r) (sync_Once_Do_4.out p0 p1 p2 p3 p4 p5 p6 r) := by
  refine Fn_of Try.func89 rfl (Nat.le_of_ble_eq_true rfl) fun Γ => ?_
  unfold sync_Once_Do_4 at h0
  refine TC_seq ?_
  refine TC_reg ?_
  refine TL_ev env 3 rfl ⟨tv, ⟨tv, ⟨tv, tv⟩⟩⟩ ?_
  obtain ⟨⟨⟩, hr, h0⟩ := bnd h0
  refine TL_callB [(0, 0)] (sync_atomic_Bool_Load_2.ok0 hr) sync_atomic_Bool_Load_2.fnb rfl ⟨tv, ⟨tv, tv⟩⟩ rfl ⟨.inr rfl, tv⟩ rfl ?_
  refine TL_ev env 1 rfl ⟨tv, tv⟩ ?_
  refine TL_end ?_
  refine TE_go ?_
  refine TC_cond rfl (fun hb => ?_) (fun hb => ?_)
  · first | exact (ftf hb).elim | exact (tff hb).elim | exact absurd hb (by decide)
  · refine TC_skip ?_
    obtain rfl := sinj h0
    exact TE_end env rfl tv ⟨.inr rfl, .inr rfl, .inr rfl, .inr rfl, .inr rfl, .inr rfl, tv⟩
theorem sync_Once_Do_4.ok0 {K : Nat} {p0 : List (Option (List (Int)))} {p1 : List (Int)} {p2 : List (Option (List (Int)))} {p3 : Int} {p4 : Int} {p5 : Int} {p6 : Int}  (h0 : sync_Once_Do_4 K p0 p1 p2 p3 p4 p5 p6 = some ()) : Fn Try.prog 89 [.pf 0 (tcs p0).length 0, .fn 90 [.p 1 0, .p 2 0, .p 3 0, .p 4 0]] [(0, some (.foc (tcs p0) [.int .u32 1, .int .i32 0, .int .u32 0, .im (.slice (.int .i16)) p1] (pst p2 p3 p4))), (1, some (.cells [.int .i64 p5])), (2, some (.cells [.pf 0 (tcs p0).length 0])), (3, some (.cells [.fn 85 [.p 5 0]])), (4, some (.cells [.p 0 0])), (5, some (.cells [.int .i64 p6]))] (.tup []) [(0, some (.foc (tcs p0) [.int .u32 1, .int .i32 0, .int .u32 0, .im (.slice (.int .i16)) p1] (pst p2 p3 p4))), (1, some (.cells [.int .i64 p5])), (2, some (.cells [.pf 0 (tcs p0).length 0])), (3, some (.cells [.fn 85 [.p 5 0]])), (4, some (.cells [.p 0 0])), (5, some (.cells [.int .i64 p6]))] := sync_Once_Do_4.ok h0
theorem sync_Once_Do_4.fnb : fnb Try.prog 89 = true := fnb_of Try.func89 rfl
def bank_Bank_tell_5.res (_t0 : List (Option (List (Int)))) (_t1 : List (Option (List (Int)))) (_l : List (Int)) (_p1 : Int) (_p3 : Int) (_p4 : Int) (_p5 : Int) : (List (Int)) × Int → MV
  | (q0, _) => .tup [.im (.slice (.int .i16)) q0, .int .i64 0]
def bank_Bank_tell_5.out (t0 : List (Option (List (Int)))) (t1 : List (Option (List (Int)))) (l : List (Int)) (_p1 : Int) (p3 : Int) (_p4 : Int) (p5 : Int) : (List (Int)) × Int → List (Nat × Option MObj)
  | (_, q1) => [(0, some (.foc (tcs t0) [.int .u32 1, .int .i32 0, .int .u32 0, .im (.slice (.int .i16)) l] (pst t1 p3 q1))), (1, some (.cells [.int .i64 p5]))]
theorem bank_Bank_tell_5.ok {K : Nat} {t0 : List (Option (List (Int)))} {t1 : List (Option (List (Int)))} {l : List (Int)} {p1 : Int} {p3 : Int} {p4 : Int} {p5 : Int} {r : (List (Int)) × Int} (h0 : bank_Bank_tell_5 K t0 t1 l p1 p3 p4 p5 = some r) : Fn Try.prog 78 [.p 0 0, .pf 0 (tcs t0).length 0, .int .i64 p1, .fn 85 [.p 1 0]] [(0, some (.foc (tcs t0) [.int .u32 1, .int .i32 0, .int .u32 0, .im (.slice (.int .i16)) l] (pst t1 p3 p4))), (1, some (.cells [.int .i64 p5]))] (bank_Bank_tell_5.res t0 t1 l p1 p3 p4 p5 r) (bank_Bank_tell_5.out t0 t1 l p1 p3 p4 p5 r) := by
  refine Fn_of Try.func78 rfl (Nat.le_of_ble_eq_true rfl) fun Γ => ?_
  refine TC_seq ?_
  refine TC_reg ?_
  refine TL_ev env 6 rfl ⟨tv, ⟨tv, ⟨tv, ⟨tv, ⟨tv, ⟨tv, tv⟩⟩⟩⟩⟩⟩ ?_
  refine TL_end ?_
  refine TE_go ?_
  refine TC_seq ?_
  refine TC_reg ?_
  refine TL_ev env 4 rfl ⟨⟨tv, tv⟩, ⟨tv, ⟨tv, ⟨⟨tv, ⟨tv, ⟨tv, ⟨tv, tv⟩⟩⟩⟩, tv⟩⟩⟩⟩ ?_
  obtain ⟨⟨⟩, hr, h0⟩ := bnd h0
  refine TL_callB [(0, 0), (1, 1006), (2, 1005), (3, 1007), (4, 1004), (5, 1)] (sync_Once_Do_4.ok0 hr) sync_Once_Do_4.fnb rfl ⟨tv, ⟨tv, ⟨tv, tv⟩⟩⟩ rfl ⟨.inr rfl, .inr rfl, .inr rfl, .inr rfl, .inr rfl, .inr rfl, tv⟩ rfl ?_
  refine TL_end ?_
  refine TE_go ?_
  refine TC_seq ?_
  refine TC_reg ?_
  refine TL_ev env 3 rfl ⟨⟨tv, tv⟩, ⟨tv, ⟨tv, tv⟩⟩⟩ ?_
  obtain ⟨r3, hr, h0⟩ := bnd h0
  refine TL_callB [(0, 0)] (sync_atomic_Int64_Add_2.ok0 hr) sync_atomic_Int64_Add_2.fnb rfl ⟨tv, ⟨tv, ⟨tv, tv⟩⟩⟩ rfl ⟨.inr rfl, tv⟩ rfl ?_
  refine TL_end ?_
  refine TE_go ?_
  refine TC_seq ?_
  refine TC_reg ?_
  refine TL_ev env 4 rfl ⟨⟨tv, tv⟩, ⟨tv, ⟨tv, ⟨⟨tv, rfl⟩, tv⟩⟩⟩⟩ ?_
  obtain ⟨r4, hr, h0⟩ := bnd h0
  refine TL_callB [(1000, 500230)] (slices_Clone_int16_int16.ok0 hr) slices_Clone_int16_int16.fnb rfl ⟨tv, ⟨tv, tv⟩⟩ rfl tv rfl ?_
  refine TL_ev env 2 rfl ⟨tv, ⟨tv, tv⟩⟩ ?_
  refine TL_end ?_
  refine TE_go ?_
  refine TC_ret ?_
  refine TE_frz 500230 rfl ?_
  obtain rfl := sinj h0
  exact TE_ret env rfl tv ⟨.inr rfl, .inr rfl, tv⟩
theorem bank_Bank_tell_5.ok0 {K : Nat} {t0 : List (Option (List (Int)))} {t1 : List (Option (List (Int)))} {l : List (Int)} {p1 : Int} {p3 : Int} {p4 : Int} {p5 : Int} {q0 : List (Int)} {q1 : Int} (h0 : bank_Bank_tell_5 K t0 t1 l p1 p3 p4 p5 = some (q0, q1)) : Fn Try.prog 78 [.p 0 0, .pf 0 (tcs t0).length 0, .int .i64 p1, .fn 85 [.p 1 0]] [(0, some (.foc (tcs t0) [.int .u32 1, .int .i32 0, .int .u32 0, .im (.slice (.int .i16)) l] (pst t1 p3 p4))), (1, some (.cells [.int .i64 p5]))] (.tup [.im (.slice (.int .i16)) q0, .int .i64 0]) [(0, some (.foc (tcs t0) [.int .u32 1, .int .i32 0, .int .u32 0, .im (.slice (.int .i16)) l] (pst t1 p3 q1))), (1, some (.cells [.int .i64 p5]))] := bank_Bank_tell_5.ok h0
theorem bank_Bank_tell_5.fnb : fnb Try.prog 78 = true := fnb_of Try.func78 rfl
theorem bank_Bank_tell_6.ok0 {K : Nat} {p0 : Nat} {p1 : Int} {p2 : List (Option (List (Int)))} {p3 : Int} {p4 : Int} {p5 : Int} {q0 : List (Int)} {q1 : List (Option (List (Int)))} {q2 : Int} {q3 : Int} (h0 : bank_Bank_tell_6 K p0 p1 p2 p3 p4 p5 = some (q0, q1, q2, q3)) : Fn Try.prog 78 [.p 0 0, .p 0 p0, .int .i64 p1, .fn 85 [.p 1 0]] [(0, some (.ab (bkA p2 p3 p4))), (1, some (.cells [.int .i64 p5]))] (.tup [.im (.slice (.int .i16)) q0, .int .i64 0]) [(0, some (.ab (bkA q1 q2 q3))), (1, some (.cells [.int .i64 p5]))] := by
  unfold bank_Bank_tell_6 at h0
  obtain ⟨⟨g1, g2, g3⟩, h0⟩ := gd_t h0
  split at h0
  · rename_i hx
    obtain ⟨⟨q0', q1', q2', q3'⟩, hr, h0⟩ := bnd h0
    simp only [Option.some.injEq, Prod.mk.injEq] at h0
    obtain ⟨rfl, rfl, rfl, rfl⟩ := h0
    have hF := tell_fn (x := none) (x' := some q1') (bank_Bank_tell_4.ok0 hr)
    rw [tk hx, tcs_at g1 g2 g3] at hF
    exact hF
  · rename_i l hx
    obtain ⟨⟨q0', q1'⟩, hr, h0⟩ := bnd h0
    simp only [Option.some.injEq, Prod.mk.injEq] at h0
    obtain ⟨rfl, rfl, rfl, rfl⟩ := h0
    have hF := tell_fn (x := some l) (x' := some l) (bank_Bank_tell_5.ok0 hr)
    rw [tk hx, tcs_at g1 g2 g3] at hF
    exact hF
  · cases h0
theorem bank_Bank_tell_6.fnb : fnb Try.prog 78 = true := fnb_of Try.func78 rfl
def bank_Bank_Turn.res (_p0 : Int) (_p1 : List (Option (List (Int)))) (_p2 : Int) (_p3 : Int) : (Unit) ⊕ ((List (Int)) × (List (Option (List (Int)))) × Int × Int) → MV
  | .inl () => .tup [.nils, .int .i64 1]
  | .inr (q0, _, _, _) => .tup [.im (.slice (.int .i16)) q0, .int .i64 0]
def bank_Bank_Turn.out (_p0 : Int) (p1 : List (Option (List (Int)))) (p2 : Int) (p3 : Int) : (Unit) ⊕ ((List (Int)) × (List (Option (List (Int)))) × Int × Int) → List (Nat × Option MObj)
  | .inl () => [(0, some (.ab (bkA p1 p2 p3)))]
  | .inr (_, q1, q2, q3) => [(0, some (.ab (bkA q1 q2 q3)))]
theorem bank_Bank_Turn.ok {K : Nat} {p0 : Int} {p1 : List (Option (List (Int)))} {p2 : Int} {p3 : Int} {r : (Unit) ⊕ ((List (Int)) × (List (Option (List (Int)))) × Int × Int)} (h0 : bank_Bank_Turn K p0 p1 p2 p3 = some r) : Fn Try.prog 69 [.p 0 0, .int .i64 p0] [(0, some (.ab (bkA p1 p2 p3)))] (bank_Bank_Turn.res p0 p1 p2 p3 r) (bank_Bank_Turn.out p0 p1 p2 p3 r) := by
  refine Fn_of Try.func69 rfl (Nat.le_of_ble_eq_true rfl) fun Γ => ?_
  refine TC_seq ?_
  refine TC_reg ?_
  refine TL_ev env 3 rfl ⟨tv, ⟨tv, ⟨tv, tv⟩⟩⟩ ?_
  refine TL_end ?_
  refine TE_go ?_
  refine TC_seq ?_
  refine TC_seq ?_
  refine TC_reg ?_
  refine TL_ev env 12 rfl ⟨tv, ⟨⟨tv, tv⟩, ⟨⟨tv, ⟨tv, tv⟩⟩, ⟨tv, ⟨fun eg => ⟨tv, tv⟩, ⟨fun eg => ⟨fun e => e, ⟨tv, tv⟩⟩, ⟨⟨tv, ⟨fun e => e, tv⟩⟩, ⟨tv, ⟨fun eg => ⟨tv, tv⟩, ⟨fun eg => ⟨fun e => e, ⟨tv, (by decide)⟩⟩, ⟨fun eg => ⟨fun e => e, ⟨tv, tv⟩⟩, ⟨⟨tv, ⟨fun e => e, tv⟩⟩, tv⟩⟩⟩⟩⟩⟩⟩⟩⟩⟩⟩⟩ ?_
  obtain ⟨z, hr, h0⟩ := bnd h0
  rcases z with ⟨⟩ | ⟨⟩
  · refine TL_callB [(0, 0)] (bank_Bank_may.ok0 hr) bank_Bank_may.fnb rfl ⟨tv, ⟨tv, ⟨tv, tv⟩⟩⟩ rfl ⟨.inr rfl, tv⟩ rfl ?_
    refine TL_ev env 1 rfl ⟨tv, tv⟩ ?_
    refine TL_end ?_
    refine TE_go ?_
    refine TC_seq ?_
    refine TC_reg ?_
    refine TL_ev env 2 rfl ⟨tv, ⟨⟨tv, ⟨tv, tv⟩⟩, tv⟩⟩ ?_
    refine TL_end ?_
    refine TE_go ?_
    refine TC_cond rfl (fun hb => ?_) (fun hb => ?_)
    · refine TC_seq ?_
      refine TC_reg ?_
      refine TL_ev env 3 rfl ⟨tv, ⟨tv, ⟨tv, tv⟩⟩⟩ ?_
      refine TL_end ?_
      refine TE_go ?_
      refine TC_ret ?_
      refine tsr ?_
      obtain rfl := sinj h0
      exact TE_ret env rfl tv ⟨.inr rfl, tv⟩
    · first | exact (ftf hb).elim | exact (tff hb).elim | exact absurd hb (by decide)
  · refine TL_callB [(0, 0)] (bank_Bank_may.ok1 hr) bank_Bank_may.fnb rfl ⟨tv, ⟨tv, ⟨tv, tv⟩⟩⟩ rfl ⟨.inr rfl, tv⟩ rfl ?_
    refine TL_ev env 1 rfl ⟨tv, tv⟩ ?_
    refine TL_end ?_
    refine TE_go ?_
    refine TC_seq ?_
    refine TC_reg ?_
    refine TL_ev env 2 rfl ⟨tv, ⟨⟨tv, ⟨tv, tv⟩⟩, tv⟩⟩ ?_
    refine TL_end ?_
    refine TE_go ?_
    refine TC_cond rfl (fun hb => ?_) (fun hb => ?_)
    · first | exact (ftf hb).elim | exact (tff hb).elim | exact absurd hb (by decide)
    · refine TC_skip ?_
      refine TE_go ?_
      refine TC_seq ?_
      refine TC_renw (A' := [(0, .p 0 0), (3, .p 1003 0), (4, .nils), (5, .int .i64 0)]) (L' := [(0, some (.ab (bkA _ _ _))), (1003, some (.cells [.int .i64 _]))]) [] ⟨rfl, rfl, rfl, rfl, tv⟩ ⟨rfl, rfl, tv⟩ rfl ?_
      refine TC_drawR ⟨_, fun i => ([[], [], [], [2], [1], [4, 1], [5, 4, 3, 2, 1], [], [], [8, 7, 6, 5, 4, 3, 2, 1, 0], [9, 8, 7, 6, 5, 4, 3, 2, 1, 0], [9, 8, 7, 6, 5, 4, 3, 2, 1, 0], [11, 10, 9, 8, 7, 6, 5, 4, 3, 2, 1, 0], [12, 11, 10, 9, 8, 7, 6, 5, 4, 3, 2, 1, 0]] : List (List Nat)).getD i [], fun i => ([[], [], [], [], [], [], [], [], [], [0, 1003], [], [], [], []] : List (List Nat)).getD i [], fun i => ([[], [], [], [], [], [], [], [], [], [], [], [], [], []] : List (List Nat)).getD i []⟩ (fun i => ([[], [], [], [], [], [], [], [], [], [], [], [], [], []] : List (List Nat)).getD i []) (by kernel_rfl) (by kernel_rfl) ?_
      refine AJR_ev env 1 rfl (Nat.le_of_ble_eq_true rfl) rfl tv ?_
      refine AJR_ev env 2 rfl (Nat.le_of_ble_eq_true rfl) rfl tv ?_
      refine AJR_ev env 3 rfl (Nat.le_of_ble_eq_true rfl) rfl ⟨tv, tv⟩ ?_
      refine AJR_ev env 4 rfl (Nat.le_of_ble_eq_true rfl) rfl ⟨tv, ⟨tv, (by decide)⟩⟩ ?_
      refine AJR_ev env 5 rfl (Nat.le_of_ble_eq_true rfl) rfl tv ?_
      refine AJR_ev env 6 rfl (Nat.le_of_ble_eq_true rfl) rfl tv ?_
      obtain ⟨g, h0⟩ := gd_t h0
      refine AJR_ev env 7 rfl (Nat.le_of_ble_eq_true rfl) rfl ⟨tv, ⟨tv, ⟨g.1, g.2⟩⟩⟩ ?_
      refine AJR_ev env 8 rfl (Nat.le_of_ble_eq_true rfl) rfl ⟨tv, tv⟩ ?_
      refine AJR_ev env 9 rfl (Nat.le_of_ble_eq_true rfl) rfl ⟨tv, tv⟩ ?_
      obtain ⟨⟨r12, r13, r14, r15⟩, hr, h0⟩ := bnd h0
      refine AJR_call 10 rfl (Nat.le_of_ble_eq_true rfl) [(0, 0), (1, 1003)] rfl (bank_Bank_tell_6.ok0 hr) bank_Bank_tell_6.fnb rfl ⟨tv, ⟨tv, ⟨tv, ⟨tv, ⟨tv, tv⟩⟩⟩⟩⟩ rfl ⟨.inr rfl, .inr rfl, tv⟩ rfl ?_
      refine AJR_ev env 11 rfl (Nat.le_of_ble_eq_true rfl) rfl tv ?_
      refine AJR_ev env 12 rfl (Nat.le_of_ble_eq_true rfl) rfl tv ?_
      refine AJR_ev env 13 rfl (Nat.le_of_ble_eq_true rfl) rfl tv ?_
      refine AJR_ev env 14 rfl (Nat.le_of_ble_eq_true rfl) rfl tv ?_
      refine AJR_end rfl rfl rfl ?_
      refine TE_go ?_
      refine TC_ret ?_
      obtain rfl := sinj h0
      exact TE_ret env rfl tv ⟨.inr rfl, tv⟩
theorem bank_Bank_Turn.ok0 {K : Nat} {p0 : Int} {p1 : List (Option (List (Int)))} {p2 : Int} {p3 : Int}  (h0 : bank_Bank_Turn K p0 p1 p2 p3 = some (.inl ())) : Fn Try.prog 69 [.p 0 0, .int .i64 p0] [(0, some (.ab (bkA p1 p2 p3)))] (.tup [.nils, .int .i64 1]) [(0, some (.ab (bkA p1 p2 p3)))] := bank_Bank_Turn.ok h0
theorem bank_Bank_Turn.ok1 {K : Nat} {p0 : Int} {p1 : List (Option (List (Int)))} {p2 : Int} {p3 : Int} {q0 : List (Int)} {q1 : List (Option (List (Int)))} {q2 : Int} {q3 : Int} (h0 : bank_Bank_Turn K p0 p1 p2 p3 = some (.inr (q0, q1, q2, q3))) : Fn Try.prog 69 [.p 0 0, .int .i64 p0] [(0, some (.ab (bkA p1 p2 p3)))] (.tup [.im (.slice (.int .i16)) q0, .int .i64 0]) [(0, some (.ab (bkA q1 q2 q3)))] := bank_Bank_Turn.ok h0
theorem bank_Bank_Turn.fnb : fnb Try.prog 69 = true := fnb_of Try.func69 rfl
def lapped_of.res (p0 : Int) (_p1 : List (Option (List (Int)))) (_p2 : Int) (_p3 : Int) : (Unit) ⊕ ((List (Int)) × (List (Option (List (Int)))) × Int × Int) ⊕ ((List (Int)) × (List (Int)) × (List (Option (List (Int)))) × Int × Int) → MV
  | .inl () => .tup [.agg [.int .i64 0, .nils, .nils], .int .i64 1]
  | .inr (.inl (q0, _, _, _)) => .tup [.agg [.int .i64 p0, .im (.slice (.int .i16)) q0, .nils], .int .i64 1]
  | .inr (.inr (q0, q1, _, _, _)) => .tup [.agg [.int .i64 p0, .im (.slice (.int .i16)) q0, .im (.slice (.int .i16)) q1], .int .i64 0]
def lapped_of.out (_p0 : Int) (p1 : List (Option (List (Int)))) (p2 : Int) (p3 : Int) : (Unit) ⊕ ((List (Int)) × (List (Option (List (Int)))) × Int × Int) ⊕ ((List (Int)) × (List (Int)) × (List (Option (List (Int)))) × Int × Int) → List (Nat × Option MObj)
  | .inl () => [(0, some (.ab (bkA p1 p2 p3)))]
  | .inr (.inl (_, q1, q2, q3)) => [(0, some (.ab (bkA q1 q2 q3)))]
  | .inr (.inr (_, _, q2, q3, q4)) => [(0, some (.ab (bkA q2 q3 q4)))]
theorem lapped_of.ok {K : Nat} {p0 : Int} {p1 : List (Option (List (Int)))} {p2 : Int} {p3 : Int} {r : (Unit) ⊕ ((List (Int)) × (List (Option (List (Int)))) × Int × Int) ⊕ ((List (Int)) × (List (Int)) × (List (Option (List (Int)))) × Int × Int)} (h0 : lapped_of K p0 p1 p2 p3 = some r) : Fn Try.prog 52 [.p 0 0, .int .i64 p0] [(0, some (.ab (bkA p1 p2 p3)))] (lapped_of.res p0 p1 p2 p3 r) (lapped_of.out p0 p1 p2 p3 r) := by
  refine Fn_of Try.func52 rfl (Nat.le_of_ble_eq_true rfl) fun Γ => ?_
  refine TC_seq ?_
  refine TC_reg ?_
  refine TL_ev env 2 rfl ⟨tv, ⟨tv, tv⟩⟩ ?_
  refine TL_end ?_
  refine TE_go ?_
  refine TC_seq ?_
  refine TC_reg ?_
  refine TL_ev env 2 rfl ⟨tv, ⟨tv, tv⟩⟩ ?_
  obtain ⟨z, hr, h0⟩ := bnd h0
  rcases z with ⟨⟩ | ⟨r9, r10, r11, r12⟩
  · refine TL_callB [(0, 0)] (lapped_Window.ok0 hr) lapped_Window.fnb rfl ⟨tv, ⟨tv, ⟨tv, tv⟩⟩⟩ rfl ⟨.inr rfl, tv⟩ rfl ?_
    refine TL_ev env 5 rfl ⟨tv, ⟨tv, ⟨tv, ⟨tv, ⟨tv, tv⟩⟩⟩⟩⟩ ?_
    refine TL_end ?_
    refine TE_go ?_
    refine TC_seq ?_
    refine TC_seq ?_
    refine TC_reg ?_
    refine TL_ev env 2 rfl ⟨tv, ⟨⟨tv, ⟨tv, tv⟩⟩, tv⟩⟩ ?_
    refine TL_end ?_
    refine TE_go ?_
    refine TC_cond rfl (fun hb => ?_) (fun hb => ?_)
    · refine TC_seq ?_
      refine TC_reg ?_
      refine TL_ev env 4 rfl ⟨tv, ⟨tv, ⟨⟨tv, tv⟩, ⟨tv, tv⟩⟩⟩⟩ ?_
      refine TL_end ?_
      refine TE_go ?_
      refine TC_ret ?_
      refine tsr ?_
      obtain rfl := sinj h0
      exact TE_ret env rfl ⟨tv, tv⟩ ⟨.inr rfl, tv⟩
    · first | exact (ftf hb).elim | exact (tff hb).elim | exact absurd hb (by decide)
  · refine TL_callB [(0, 0)] (lapped_Window.ok1 hr) lapped_Window.fnb rfl ⟨tv, ⟨tv, ⟨tv, tv⟩⟩⟩ rfl ⟨.inr rfl, tv⟩ rfl ?_
    refine TL_ev env 5 rfl ⟨tv, ⟨tv, ⟨tv, ⟨tv, ⟨tv, tv⟩⟩⟩⟩⟩ ?_
    refine TL_end ?_
    refine TE_go ?_
    refine TC_seq ?_
    refine TC_seq ?_
    refine TC_reg ?_
    refine TL_ev env 2 rfl ⟨tv, ⟨⟨tv, ⟨tv, tv⟩⟩, tv⟩⟩ ?_
    refine TL_end ?_
    refine TE_go ?_
    refine TC_cond rfl (fun hb => ?_) (fun hb => ?_)
    · first | exact (ftf hb).elim | exact (tff hb).elim | exact absurd hb (by decide)
    · refine TC_skip ?_
      refine TE_go ?_
      refine TC_seq ?_
      refine TC_reg ?_
      refine TL_ev env 3 rfl ⟨tv, ⟨tv, ⟨⟨tv, ⟨tv, tv⟩⟩, tv⟩⟩⟩ ?_
      obtain ⟨z, hr, h0⟩ := bnd h0
      rcases z with ⟨⟩ | ⟨r14, r15, r16, r17⟩
      · refine TL_callB [(0, 0)] (bank_Bank_Turn.ok0 hr) bank_Bank_Turn.fnb rfl ⟨tv, ⟨tv, ⟨tv, tv⟩⟩⟩ rfl ⟨.inr rfl, tv⟩ rfl ?_
        refine TL_ev env 5 rfl ⟨tv, ⟨tv, ⟨tv, ⟨tv, ⟨tv, tv⟩⟩⟩⟩⟩ ?_
        refine TL_end ?_
        refine TE_go ?_
        refine TC_seq ?_
        refine TC_reg ?_
        refine TL_ev env 7 rfl ⟨tv, ⟨tv, ⟨tv, ⟨⟨tv, ⟨tv, ⟨tv, tv⟩⟩⟩, ⟨tv, ⟨⟨tv, tv⟩, ⟨tv, tv⟩⟩⟩⟩⟩⟩⟩ ?_
        refine TL_end ?_
        refine TE_go ?_
        refine TC_ret ?_
        obtain rfl := sinj h0
        exact TE_ret env rfl ⟨tv, tv⟩ ⟨.inr rfl, tv⟩
      · refine TL_callB [(0, 0)] (bank_Bank_Turn.ok1 hr) bank_Bank_Turn.fnb rfl ⟨tv, ⟨tv, ⟨tv, tv⟩⟩⟩ rfl ⟨.inr rfl, tv⟩ rfl ?_
        refine TL_ev env 5 rfl ⟨tv, ⟨tv, ⟨tv, ⟨tv, ⟨tv, tv⟩⟩⟩⟩⟩ ?_
        refine TL_end ?_
        refine TE_go ?_
        refine TC_seq ?_
        refine TC_reg ?_
        refine TL_ev env 7 rfl ⟨tv, ⟨tv, ⟨tv, ⟨⟨tv, ⟨tv, ⟨tv, tv⟩⟩⟩, ⟨tv, ⟨⟨tv, tv⟩, ⟨tv, tv⟩⟩⟩⟩⟩⟩⟩ ?_
        refine TL_end ?_
        refine TE_go ?_
        refine TC_ret ?_
        obtain rfl := sinj h0
        exact TE_ret env rfl ⟨tv, tv⟩ ⟨.inr rfl, tv⟩
theorem lapped_of.ok0 {K : Nat} {p0 : Int} {p1 : List (Option (List (Int)))} {p2 : Int} {p3 : Int}  (h0 : lapped_of K p0 p1 p2 p3 = some (.inl ())) : Fn Try.prog 52 [.p 0 0, .int .i64 p0] [(0, some (.ab (bkA p1 p2 p3)))] (.tup [.agg [.int .i64 0, .nils, .nils], .int .i64 1]) [(0, some (.ab (bkA p1 p2 p3)))] := lapped_of.ok h0
theorem lapped_of.ok1 {K : Nat} {p0 : Int} {p1 : List (Option (List (Int)))} {p2 : Int} {p3 : Int} {q0 : List (Int)} {q1 : List (Option (List (Int)))} {q2 : Int} {q3 : Int} (h0 : lapped_of K p0 p1 p2 p3 = some (.inr (.inl (q0, q1, q2, q3)))) : Fn Try.prog 52 [.p 0 0, .int .i64 p0] [(0, some (.ab (bkA p1 p2 p3)))] (.tup [.agg [.int .i64 p0, .im (.slice (.int .i16)) q0, .nils], .int .i64 1]) [(0, some (.ab (bkA q1 q2 q3)))] := lapped_of.ok h0
theorem lapped_of.ok2 {K : Nat} {p0 : Int} {p1 : List (Option (List (Int)))} {p2 : Int} {p3 : Int} {q0 : List (Int)} {q1 : List (Int)} {q2 : List (Option (List (Int)))} {q3 : Int} {q4 : Int} (h0 : lapped_of K p0 p1 p2 p3 = some (.inr (.inr (q0, q1, q2, q3, q4)))) : Fn Try.prog 52 [.p 0 0, .int .i64 p0] [(0, some (.ab (bkA p1 p2 p3)))] (.tup [.agg [.int .i64 p0, .im (.slice (.int .i16)) q0, .im (.slice (.int .i16)) q1], .int .i64 0]) [(0, some (.ab (bkA q2 q3 q4)))] := lapped_of.ok h0
theorem lapped_of.fnb : fnb Try.prog 52 = true := fnb_of Try.func52 rfl
def lapped_NewLapper.res (_p0 : Int) (_p1 : List (Option (List (Int)))) (_p2 : Int) (_p3 : Int) : ((List (Option (List (Int)))) × Int × Int) ⊕ ((List (Option (List (Int)))) × Int × Int × (List (Int)) × (List (Int)) × (List (Int))) → MV
  | .inl (_, _, _) => .tup [.nilp, .int .i64 1]
  | .inr (_, _, _, _, _, _) => .tup [.p 1000 0, .int .i64 0]
def lapped_NewLapper.out (p0 : Int) (_p1 : List (Option (List (Int)))) (_p2 : Int) (_p3 : Int) : ((List (Option (List (Int)))) × Int × Int) ⊕ ((List (Option (List (Int)))) × Int × Int × (List (Int)) × (List (Int)) × (List (Int))) → List (Nat × Option MObj)
  | .inl (q0, q1, q2) => [(0, some (.ab (bkA q0 q1 q2)))]
  | .inr (q0, q1, q2, q3, q4, q5) => [(0, some (.ab (bkA q0 q1 q2))), (1000, some (.cells [.int .i64 p0, .im (.slice (.int .i16)) q3, .im (.slice (.int .i16)) q4, .sl 1001])), (1001, some (.rows (.int .i16) q5))]
theorem lapped_NewLapper.ok {K : Nat} {p0 : Int} {p1 : List (Option (List (Int)))} {p2 : Int} {p3 : Int} {r : ((List (Option (List (Int)))) × Int × Int) ⊕ ((List (Option (List (Int)))) × Int × Int × (List (Int)) × (List (Int)) × (List (Int)))} (h0 : lapped_NewLapper K p0 p1 p2 p3 = some r) : Fn Try.prog 28 [.p 0 0, .int .i64 p0] [(0, some (.ab (bkA p1 p2 p3)))] (lapped_NewLapper.res p0 p1 p2 p3 r) (lapped_NewLapper.out p0 p1 p2 p3 r) := by
  refine Fn_of Try.func28 rfl (Nat.le_of_ble_eq_true rfl) fun Γ => ?_
  refine TC_seq ?_
  refine TC_reg ?_
  refine TL_ev env 2 rfl ⟨tv, ⟨tv, tv⟩⟩ ?_
  refine TL_end ?_
  refine TE_go ?_
  refine TC_seq ?_
  refine TC_reg ?_
  refine TL_ev env 2 rfl ⟨tv, ⟨tv, tv⟩⟩ ?_
  obtain ⟨z, hr, h0⟩ := bnd h0
  rcases z with ⟨⟩ | ⟨r10, r11, r12, r13⟩ | ⟨r14, r15, r16, r17, r18⟩
  · refine TL_callB [(0, 0)] (lapped_of.ok0 hr) lapped_of.fnb rfl ⟨tv, ⟨tv, ⟨tv, tv⟩⟩⟩ rfl ⟨.inr rfl, tv⟩ rfl ?_
    refine TL_ev env 6 rfl ⟨tv, ⟨tv, ⟨tv, ⟨tv, ⟨⟨tv, tv⟩, ⟨tv, tv⟩⟩⟩⟩⟩⟩ ?_
    refine TL_end ?_
    refine TE_go ?_
    refine TC_seq ?_
    refine TC_seq ?_
    refine TC_reg ?_
    refine TL_ev env 2 rfl ⟨tv, ⟨⟨tv, ⟨tv, tv⟩⟩, tv⟩⟩ ?_
    refine TL_end ?_
    refine TE_go ?_
    refine TC_cond rfl (fun hb => ?_) (fun hb => ?_)
    · refine TC_seq ?_
      refine TC_reg ?_
      refine TL_ev env 3 rfl ⟨tv, ⟨tv, ⟨tv, tv⟩⟩⟩ ?_
      refine TL_end ?_
      refine TE_go ?_
      refine TC_ret ?_
      refine tsr ?_
      obtain rfl := sinj h0
      exact TE_ret env rfl tv ⟨.inr rfl, tv⟩
    · first | exact (ftf hb).elim | exact (tff hb).elim | exact absurd hb (by decide)
  · refine TL_callB [(0, 0)] (lapped_of.ok1 hr) lapped_of.fnb rfl ⟨tv, ⟨tv, ⟨tv, tv⟩⟩⟩ rfl ⟨.inr rfl, tv⟩ rfl ?_
    refine TL_ev env 6 rfl ⟨tv, ⟨tv, ⟨tv, ⟨tv, ⟨⟨tv, tv⟩, ⟨tv, tv⟩⟩⟩⟩⟩⟩ ?_
    refine TL_end ?_
    refine TE_go ?_
    refine TC_seq ?_
    refine TC_seq ?_
    refine TC_reg ?_
    refine TL_ev env 2 rfl ⟨tv, ⟨⟨tv, ⟨tv, tv⟩⟩, tv⟩⟩ ?_
    refine TL_end ?_
    refine TE_go ?_
    refine TC_cond rfl (fun hb => ?_) (fun hb => ?_)
    · refine TC_seq ?_
      refine TC_reg ?_
      refine TL_ev env 3 rfl ⟨tv, ⟨tv, ⟨tv, tv⟩⟩⟩ ?_
      refine TL_end ?_
      refine TE_go ?_
      refine TC_ret ?_
      refine tsr ?_
      obtain rfl := sinj h0
      exact TE_ret env rfl tv ⟨.inr rfl, tv⟩
    · first | exact (ftf hb).elim | exact (tff hb).elim | exact absurd hb (by decide)
  · refine TL_callB [(0, 0)] (lapped_of.ok2 hr) lapped_of.fnb rfl ⟨tv, ⟨tv, ⟨tv, tv⟩⟩⟩ rfl ⟨.inr rfl, tv⟩ rfl ?_
    refine TL_ev env 6 rfl ⟨tv, ⟨tv, ⟨tv, ⟨tv, ⟨⟨tv, tv⟩, ⟨tv, tv⟩⟩⟩⟩⟩⟩ ?_
    refine TL_end ?_
    refine TE_go ?_
    refine TC_seq ?_
    refine TC_seq ?_
    refine TC_reg ?_
    refine TL_ev env 2 rfl ⟨tv, ⟨⟨tv, ⟨tv, tv⟩⟩, tv⟩⟩ ?_
    refine TL_end ?_
    refine TE_go ?_
    refine TC_cond rfl (fun hb => ?_) (fun hb => ?_)
    · first | exact (ftf hb).elim | exact (tff hb).elim | exact absurd hb (by decide)
    · refine TC_skip ?_
      refine TE_go ?_
      refine TC_seq ?_
      refine TC_renw (A' := [(1, .int .i64 _), (4, .nilp), (5, .int .i64 0), (6, .p 1006 0)]) (L' := [(0, some (.ab (bkA _ _ _))), (1006, some (.cells [.int .i64 _, .im (.slice (.int .i16)) _, .im (.slice (.int .i16)) _]))]) [] ⟨rfl, rfl, rfl, rfl, tv⟩ ⟨rfl, rfl, tv⟩ rfl ?_
      refine TC_drawR ⟨_, fun i => ([[], [], [1], [2, 1, 0], [3, 2, 1, 0], [4, 3, 2, 1, 0], [5, 4, 3, 2, 1, 0]] : List (List Nat)).getD i [], fun i => ([[], [], [1019], [], [1021], [], []] : List (List Nat)).getD i [], fun i => ([[], [], [1019], [], [1021], [], []] : List (List Nat)).getD i []⟩ (fun i => ([[1019], [], [], [], [], [], []] : List (List Nat)).getD i []) (by kernel_rfl) (by kernel_rfl) ?_
      refine AJR_ev env 1 rfl (Nat.le_of_ble_eq_true rfl) rfl ⟨tv, tv⟩ ?_
      refine AJR_ev env 2 rfl (Nat.le_of_ble_eq_true rfl) rfl tv ?_
      obtain ⟨g, h0⟩ := gd_t h0
      refine AJR_ev env 3 rfl (Nat.le_of_ble_eq_true rfl) rfl ⟨tv, ⟨tv, ⟨g.1, ⟨g.2.1, g.2.2⟩⟩⟩⟩ ?_
      refine AJR_ev env 4 rfl (Nat.le_of_ble_eq_true rfl) rfl ⟨tv, ⟨tv, tv⟩⟩ ?_
      refine AJR_ev env 5 rfl (Nat.le_of_ble_eq_true rfl) rfl tv ?_
      refine AJR_ev env 6 rfl (Nat.le_of_ble_eq_true rfl) rfl tv ?_
      refine AJR_ev env 7 rfl (Nat.le_of_ble_eq_true rfl) rfl tv ?_
      refine AJR_end rfl rfl rfl ?_
      refine TE_go ?_
      refine TC_ret ?_
      obtain rfl := sinj h0
      refine TE_renw (A' := [(4, .p 1000 0), (5, .int .i64 0)]) (L' := [(0, some (.ab (bkA _ _ _))), (1000, some (.cells [.int .i64 _, .im (.slice (.int .i16)) _, .im (.slice (.int .i16)) _, .sl 1001])), (1001, some (.rows (.int .i16) _))]) [(1000, 1021), (1001, 1019)] ⟨rfl, rfl, tv⟩ ⟨rfl, rfl, rfl, tv⟩ rfl ?_
      exact TE_ret env rfl tv ⟨.inr rfl, .inr rfl, .inr rfl, tv⟩
theorem lapped_NewLapper.ok0 {K : Nat} {p0 : Int} {p1 : List (Option (List (Int)))} {p2 : Int} {p3 : Int} {q0 : List (Option (List (Int)))} {q1 : Int} {q2 : Int} (h0 : lapped_NewLapper K p0 p1 p2 p3 = some (.inl (q0, q1, q2))) : Fn Try.prog 28 [.p 0 0, .int .i64 p0] [(0, some (.ab (bkA p1 p2 p3)))] (.tup [.nilp, .int .i64 1]) [(0, some (.ab (bkA q0 q1 q2)))] := lapped_NewLapper.ok h0
theorem lapped_NewLapper.ok1 {K : Nat} {p0 : Int} {p1 : List (Option (List (Int)))} {p2 : Int} {p3 : Int} {q0 : List (Option (List (Int)))} {q1 : Int} {q2 : Int} {q3 : List (Int)} {q4 : List (Int)} {q5 : List (Int)} (h0 : lapped_NewLapper K p0 p1 p2 p3 = some (.inr (q0, q1, q2, q3, q4, q5))) : Fn Try.prog 28 [.p 0 0, .int .i64 p0] [(0, some (.ab (bkA p1 p2 p3)))] (.tup [.p 1000 0, .int .i64 0]) [(0, some (.ab (bkA q0 q1 q2))), (1000, some (.cells [.int .i64 p0, .im (.slice (.int .i16)) q3, .im (.slice (.int .i16)) q4, .sl 1001])), (1001, some (.rows (.int .i16) q5))] := lapped_NewLapper.ok h0
theorem lapped_NewLapper.fnb : fnb Try.prog 28 = true := fnb_of Try.func28 rfl
theorem slices_Grow_int16_int16.ok0 {K : Nat} {p0 : Int} (h0 : slices_Grow_int16_int16 K p0 = some ()) : Fn Try.prog 75 [.nils, .int .i64 p0] [] (.sl 1000) [(1000, some (.rows (.int .i16) ([] : List (Int))))] := by
  obtain ⟨⟨g1, g2⟩, h0⟩ := gd_t h0
  exact grow_fn (tok_of tok22) (k := .int .i16) rfl rfl (by decide) g1 g2
theorem slices_Grow_int16_int16.fnb : fnb Try.prog 75 = true := fnb_of Try.func75 rfl
def slices_Concat_int16_int16.res (_p0 : List (Int)) (_p1 : List (Int)) : (List (Int)) → MV
  | q0 => .im (.slice (.int .i16)) q0
def slices_Concat_int16_int16.out (p0 : List (Int)) (p1 : List (Int)) : (List (Int)) → List (Nat × Option MObj)
  | _ => [(0, some (.cells [.sl 1, .im (.slice (.int .i16)) p0])), (1, some (.rows (.int .i16) p1))]
theorem slices_Concat_int16_int16.ok {K : Nat} {p0 : List (Int)} {p1 : List (Int)} {r : (List (Int))} (h0 : slices_Concat_int16_int16 K p0 p1 = some r) : Fn Try.prog 53 [.hd 0 2] [(0, some (.cells [.sl 1, .im (.slice (.int .i16)) p0])), (1, some (.rows (.int .i16) p1))] (slices_Concat_int16_int16.res p0 p1 r) (slices_Concat_int16_int16.out p0 p1 r) := by
  refine Fn_of Try.func53 rfl (Nat.le_of_ble_eq_true rfl) fun Γ => ?_
  refine TC_seq ?_
  refine TC_reg ?_
  refine TL_ev env 1 rfl ⟨tv, tv⟩ ?_
  refine TL_end ?_
  refine TE_go ?_
  refine TC_seq ?_
  refine TC_reg ?_
  refine TL_ev env 1 rfl ⟨tv, tv⟩ ?_
  refine TL_end ?_
  refine TE_go ?_
  refine TC_seq ?_
  refine TC_seq ?_
  refine TC_reg ?_
  refine TL_ev env 3 rfl ⟨tv, ⟨⟨tv, tv⟩, ⟨tv, tv⟩⟩⟩ ?_
  refine TL_end ?_
  refine TE_go ?_
  obtain ⟨z1, h1, h0⟩ := bnd h0
  refine TC_cut (α := Int) (fun s => z1 = s) (fun s => [(0, .hd 0 2), (3, .int .i64 s)]) (fun s => [(0, some (.cells [.sl 1, .im (.slice (.int .i16)) p0])), (1, some (.rows (.int .i16) p1))]) ?_ ?_
  · refine TC_blk ?_
    refine TC_loopU ?_
    refine TE_lb ?_
    refine TC_seq ?_
    refine TC_reg ?_
    refine TL_ev env 1 rfl ⟨⟨tv, ⟨tv, tv⟩⟩, tv⟩ ?_
    refine TL_end ?_
    refine TE_go ?_
    refine TC_seq ?_
    refine TC_cond rfl (fun hb => ?_) (fun hb => ?_)
    · refine TC_skip ?_
      refine TE_go ?_
      refine TC_seq ?_
      refine TC_blk ?_
      refine TC_seq ?_
      refine TC_reg ?_
      refine TL_ev env 3 rfl ⟨⟨tv, ⟨tv, ⟨(by decide), (by decide)⟩⟩⟩, ⟨⟨tv, tv⟩, ⟨tv, tv⟩⟩⟩ ?_
      refine TL_end ?_
      refine TE_go ?_
      refine TC_seq ?_
      refine TC_reg ?_
      refine TL_ev env 5 rfl ⟨tv, ⟨tv, ⟨⟨tv, tv⟩, ⟨⟨tv, ⟨tv, tv⟩⟩, ⟨tv, tv⟩⟩⟩⟩⟩ ?_
      refine TL_end ?_
      refine TE_go ?_
      refine TC_seq ?_
      refine TC_reg ?_
      refine TL_ev env 2 rfl ⟨tv, ⟨⟨tv, ⟨tv, tv⟩⟩, tv⟩⟩ ?_
      refine TL_end ?_
      refine TE_go ?_
      refine TC_cond rfl (fun hb => ?_) (fun hb => ?_)
      · replace h1 := bif_t h1 hb
        refine TC_reg ?_
        exact (nsome h1).elim
      · replace h1 := bif_f h1 hb
        refine TC_skip ?_
        refine tbn ?_
        refine TE_go ?_
        refine TC_reg ?_
        refine TL_ev env 2 rfl ⟨⟨tv, ⟨tv, tv⟩⟩, ⟨tv, tv⟩⟩ ?_
        refine TL_end ?_
        refine tsn ?_
        refine TE_renw (A' := [(0, .hd 0 2), (3, .int .i64 _), (9, .hd 0 2), (10, .int .i64 2), (11, .int .i64 1)]) (L' := [(0, some (.cells [.sl 1, .im (.slice (.int .i16)) _])), (1, some (.rows (.int .i16) _))]) [] ⟨rfl, rfl, rfl, rfl, rfl, tv⟩ ⟨rfl, rfl, tv⟩ rfl ?_
        refine TE_lb ?_
        refine TC_seq ?_
        refine TC_reg ?_
        refine TL_ev env 1 rfl ⟨⟨tv, ⟨tv, tv⟩⟩, tv⟩ ?_
        refine TL_end ?_
        refine TE_go ?_
        refine TC_seq ?_
        refine TC_cond rfl (fun hb => ?_) (fun hb => ?_)
        · refine TC_skip ?_
          refine TE_go ?_
          refine TC_seq ?_
          refine TC_blk ?_
          refine TC_seq ?_
          refine TC_reg ?_
          refine TL_ev env 3 rfl ⟨⟨tv, ⟨tv, ⟨(by decide), (by decide)⟩⟩⟩, ⟨⟨tv, tv⟩, ⟨tv, tv⟩⟩⟩ ?_
          refine TL_end ?_
          refine TE_go ?_
          refine TC_seq ?_
          refine TC_reg ?_
          refine TL_ev env 5 rfl ⟨tv, ⟨tv, ⟨⟨tv, tv⟩, ⟨⟨tv, ⟨tv, tv⟩⟩, ⟨tv, tv⟩⟩⟩⟩⟩ ?_
          refine TL_end ?_
          refine TE_go ?_
          refine TC_seq ?_
          refine TC_reg ?_
          refine TL_ev env 2 rfl ⟨tv, ⟨⟨tv, ⟨tv, tv⟩⟩, tv⟩⟩ ?_
          refine TL_end ?_
          refine TE_go ?_
          refine TC_cond rfl (fun hb => ?_) (fun hb => ?_)
          · replace h1 := bif_t h1 hb
            refine TC_reg ?_
            exact (nsome h1).elim
          · replace h1 := bif_f h1 hb
            refine TC_skip ?_
            refine tbn ?_
            refine TE_go ?_
            refine TC_reg ?_
            refine TL_ev env 2 rfl ⟨⟨tv, ⟨tv, tv⟩⟩, ⟨tv, tv⟩⟩ ?_
            refine TL_end ?_
            refine tsn ?_
            refine TE_renw (A' := [(0, .hd 0 2), (3, .int .i64 _), (9, .hd 0 2), (10, .int .i64 2), (11, .int .i64 2)]) (L' := [(0, some (.cells [.sl 1, .im (.slice (.int .i16)) _])), (1, some (.rows (.int .i16) _))]) [] ⟨rfl, rfl, rfl, rfl, rfl, tv⟩ ⟨rfl, rfl, tv⟩ rfl ?_
            refine TE_lb ?_
            refine TC_seq ?_
            refine TC_reg ?_
            refine TL_ev env 1 rfl ⟨⟨tv, ⟨tv, tv⟩⟩, tv⟩ ?_
            refine TL_end ?_
            refine TE_go ?_
            refine TC_seq ?_
            refine TC_cond rfl (fun hb => ?_) (fun hb => ?_)
            · first | exact (ftf hb).elim | exact (tff hb).elim | exact absurd hb (by decide)
            · refine TC_exit ?_
              refine tsx ?_
              refine tsx ?_
              refine tbe ?_
              obtain rfl := sinj h1
              refine tsn ?_
              exact SP_ren [] _ rfl ⟨rfl, rfl, tv⟩ ⟨rfl, rfl, tv⟩ rfl
        · first | exact (ftf hb).elim | exact (tff hb).elim | exact absurd hb (by decide)
    · first | exact (ftf hb).elim | exact (tff hb).elim | exact absurd hb (by decide)
  · rintro x3 hz
    obtain rfl := hz.symm
    refine TE_go ?_
    refine TC_seq ?_
    refine TC_reg ?_
    refine TL_ev env 1 rfl ⟨tv, tv⟩ ?_
    obtain ⟨⟨⟩, hr, h0⟩ := bnd h0
    refine TL_callB [(1000, 500240)] (slices_Grow_int16_int16.ok0 hr) slices_Grow_int16_int16.fnb rfl ⟨tv, ⟨tv, ⟨tv, tv⟩⟩⟩ rfl tv rfl ?_
    refine TL_ev env 1 rfl ⟨tv, tv⟩ ?_
    refine TL_end ?_
    refine TE_go ?_
    refine TC_seq ?_
    refine TC_seq ?_
    refine TC_reg ?_
    refine TL_ev env 3 rfl ⟨tv, ⟨⟨tv, tv⟩, ⟨tv, tv⟩⟩⟩ ?_
    refine TL_end ?_
    refine TE_go ?_
    obtain ⟨z1, h1, h0⟩ := bnd h0
    refine TC_cut (α := (List (Int))) (fun s => z1 = s) (fun s => [(6, .sl 10402)]) (fun s => [(0, some (.cells [.sl 1, .im (.slice (.int .i16)) p0])), (1, some (.rows (.int .i16) p1)), (10402, some (.rows (.int .i16) s))]) ?_ ?_
    · refine TC_blk ?_
      refine TC_loopU ?_
      refine TE_lb ?_
      refine TC_seq ?_
      refine TC_reg ?_
      refine TL_ev env 1 rfl ⟨⟨tv, ⟨tv, tv⟩⟩, tv⟩ ?_
      refine TL_end ?_
      refine TE_go ?_
      refine TC_seq ?_
      refine TC_cond rfl (fun hb => ?_) (fun hb => ?_)
      · refine TC_skip ?_
        refine TE_go ?_
        refine TC_seq ?_
        refine TC_blk ?_
        refine TC_seq ?_
        refine TC_reg ?_
        refine TL_ev env 3 rfl ⟨⟨tv, ⟨tv, ⟨(by decide), (by decide)⟩⟩⟩, ⟨⟨tv, tv⟩, ⟨tv, tv⟩⟩⟩ ?_
        refine TL_end ?_
        refine TE_go ?_
        refine TC_reg ?_
        obtain ⟨g, h1⟩ := gd_t h1
        refine TL_ev env 4 rfl ⟨tv, ⟨tv, ⟨⟨⟨tv, ⟨tv, tv⟩⟩, g⟩, ⟨tv, tv⟩⟩⟩⟩ ?_
        refine TL_end ?_
        refine tbn ?_
        refine TE_go ?_
        refine TC_reg ?_
        refine TL_ev env 2 rfl ⟨⟨tv, ⟨tv, tv⟩⟩, ⟨tv, tv⟩⟩ ?_
        refine TL_end ?_
        refine tsn ?_
        refine TE_renw (A' := [(6, .sl 1009002), (25, .hd 0 2), (26, .int .i64 2), (27, .int .i64 1)]) (L' := [(0, some (.cells [.sl 1, .im (.slice (.int .i16)) _])), (1, some (.rows (.int .i16) _)), (1009002, some (.rows (.int .i16) _))]) [(1009002, 1033)] ⟨rfl, rfl, rfl, rfl, tv⟩ ⟨rfl, rfl, rfl, tv⟩ rfl ?_
        refine TE_lb ?_
        refine TC_seq ?_
        refine TC_reg ?_
        refine TL_ev env 1 rfl ⟨⟨tv, ⟨tv, tv⟩⟩, tv⟩ ?_
        refine TL_end ?_
        refine TE_go ?_
        refine TC_seq ?_
        refine TC_cond rfl (fun hb => ?_) (fun hb => ?_)
        · refine TC_skip ?_
          refine TE_go ?_
          refine TC_seq ?_
          refine TC_blk ?_
          refine TC_seq ?_
          refine TC_reg ?_
          refine TL_ev env 3 rfl ⟨⟨tv, ⟨tv, ⟨(by decide), (by decide)⟩⟩⟩, ⟨⟨tv, tv⟩, ⟨tv, tv⟩⟩⟩ ?_
          refine TL_end ?_
          refine TE_go ?_
          refine TC_reg ?_
          obtain ⟨g, h1⟩ := gd_t h1
          refine TL_ev env 4 rfl ⟨tv, ⟨tv, ⟨⟨⟨tv, ⟨tv, tv⟩⟩, g⟩, ⟨tv, tv⟩⟩⟩⟩ ?_
          refine TL_end ?_
          refine tbn ?_
          refine TE_go ?_
          refine TC_reg ?_
          refine TL_ev env 2 rfl ⟨⟨tv, ⟨tv, tv⟩⟩, ⟨tv, tv⟩⟩ ?_
          refine TL_end ?_
          refine tsn ?_
          refine TE_renw (A' := [(6, .sl 1010002), (25, .hd 0 2), (26, .int .i64 2), (27, .int .i64 2)]) (L' := [(0, some (.cells [.sl 1, .im (.slice (.int .i16)) _])), (1, some (.rows (.int .i16) _)), (1010002, some (.rows (.int .i16) _))]) [(1010002, 1033)] ⟨rfl, rfl, rfl, rfl, tv⟩ ⟨rfl, rfl, rfl, tv⟩ rfl ?_
          refine TE_lb ?_
          refine TC_seq ?_
          refine TC_reg ?_
          refine TL_ev env 1 rfl ⟨⟨tv, ⟨tv, tv⟩⟩, tv⟩ ?_
          refine TL_end ?_
          refine TE_go ?_
          refine TC_seq ?_
          refine TC_cond rfl (fun hb => ?_) (fun hb => ?_)
          · first | exact (ftf hb).elim | exact (tff hb).elim | exact absurd hb (by decide)
          · refine TC_exit ?_
            refine tsx ?_
            refine tsx ?_
            refine tbe ?_
            obtain rfl := sinj h1
            refine tsn ?_
            exact SP_ren [(10402, 1010002)] _ rfl ⟨rfl, tv⟩ ⟨rfl, rfl, rfl, tv⟩ rfl
        · first | exact (ftf hb).elim | exact (tff hb).elim | exact absurd hb (by decide)
      · first | exact (ftf hb).elim | exact (tff hb).elim | exact absurd hb (by decide)
    · rintro x4 hz
      obtain rfl := hz.symm
      refine TE_go ?_
      refine TC_seq ?_
      refine TC_reg ?_
      refine TL_ev env 2 rfl ⟨tv, ⟨tv, tv⟩⟩ ?_
      refine TL_end ?_
      refine TE_go ?_
      refine TC_ret ?_
      refine TE_frz 10402 rfl ?_
      obtain rfl := sinj h0
      exact TE_ret env rfl tv ⟨.inr rfl, .inr rfl, tv⟩
theorem slices_Concat_int16_int16.ok0 {K : Nat} {p0 : List (Int)} {p1 : List (Int)} {q0 : List (Int)} (h0 : slices_Concat_int16_int16 K p0 p1 = some q0) : Fn Try.prog 53 [.hd 0 2] [(0, some (.cells [.sl 1, .im (.slice (.int .i16)) p0])), (1, some (.rows (.int .i16) p1))] (.im (.slice (.int .i16)) q0) [(0, some (.cells [.sl 1, .im (.slice (.int .i16)) p0])), (1, some (.rows (.int .i16) p1))] := slices_Concat_int16_int16.ok h0
theorem slices_Concat_int16_int16.fnb : fnb Try.prog 53 = true := fnb_of Try.func53 rfl
def lapped_tables_windowed.res (_p0 : Int) (_p1 : Int) (_p2 : Int) (_p3 : List (Int)) (_p4 : List (Int)) (_p5 : List (Int)) : Int → MV
  | q0 => .int .i64 q0
def lapped_tables_windowed.out (_p0 : Int) (_p1 : Int) (p2 : Int) (p3 : List (Int)) (p4 : List (Int)) (p5 : List (Int)) : Int → List (Nat × Option MObj)
  | _ => [(0, some (.cells [.int .i64 p2, .im (.slice (.int .i16)) p3, .im (.slice (.int .i16)) p4, .sl 1])), (1, some (.rows (.int .i16) p5))]
theorem lapped_tables_windowed.ok {K : Nat} {p0 : Int} {p1 : Int} {p2 : Int} {p3 : List (Int)} {p4 : List (Int)} {p5 : List (Int)} {r : Int} (h0 : lapped_tables_windowed K p0 p1 p2 p3 p4 p5 = some r) : Fn Try.prog 54 [.p 0 0, .int .i64 p0, .int .i64 p1] [(0, some (.cells [.int .i64 p2, .im (.slice (.int .i16)) p3, .im (.slice (.int .i16)) p4, .sl 1])), (1, some (.rows (.int .i16) p5))] (lapped_tables_windowed.res p0 p1 p2 p3 p4 p5 r) (lapped_tables_windowed.out p0 p1 p2 p3 p4 p5 r) := by
  refine Fn_of Try.func54 rfl (Nat.le_of_ble_eq_true rfl) fun Γ => ?_
  refine TC_seq ?_
  refine TC_reg ?_
  refine TL_ev env 1 rfl ⟨tv, tv⟩ ?_
  refine TL_end ?_
  refine TE_go ?_
  refine TC_seq ?_
  refine TC_reg ?_
  obtain ⟨g, h0⟩ := gd_t h0
  refine TL_ev env 10 rfl ⟨tv, ⟨tv, ⟨tv, ⟨tv, ⟨⟨tv, tv⟩, ⟨tv, ⟨⟨tv, ⟨tv, ⟨g.1, g.2⟩⟩⟩, ⟨⟨tv, tv⟩, ⟨tv, ⟨⟨tv, ⟨tv, tv⟩⟩, tv⟩⟩⟩⟩⟩⟩⟩⟩⟩⟩ ?_
  obtain ⟨r5, hr, h0⟩ := bnd h0
  refine TL_callB [] (fix_Round.ok0 hr) fix_Round.fnb rfl ⟨tv, ⟨tv, ⟨tv, tv⟩⟩⟩ rfl tv rfl ?_
  refine TL_ev env 1 rfl ⟨tv, tv⟩ ?_
  refine TL_end ?_
  refine TE_go ?_
  refine TC_ret ?_
  obtain rfl := sinj h0
  exact TE_ret env rfl tv ⟨.inr rfl, .inr rfl, tv⟩
theorem lapped_tables_windowed.ok0 {K : Nat} {p0 : Int} {p1 : Int} {p2 : Int} {p3 : List (Int)} {p4 : List (Int)} {p5 : List (Int)} {q0 : Int} (h0 : lapped_tables_windowed K p0 p1 p2 p3 p4 p5 = some q0) : Fn Try.prog 54 [.p 0 0, .int .i64 p0, .int .i64 p1] [(0, some (.cells [.int .i64 p2, .im (.slice (.int .i16)) p3, .im (.slice (.int .i16)) p4, .sl 1])), (1, some (.rows (.int .i16) p5))] (.int .i64 q0) [(0, some (.cells [.int .i64 p2, .im (.slice (.int .i16)) p3, .im (.slice (.int .i16)) p4, .sl 1])), (1, some (.rows (.int .i16) p5))] := lapped_tables_windowed.ok h0
theorem lapped_tables_windowed.fnb : fnb Try.prog 54 = true := fnb_of Try.func54 rfl
def lapped_tables_wave.res (_p0 : Int) (_p1 : Int) (_p2 : Int) (_p3 : List (Int)) (_p4 : List (Int)) (_p5 : List (Int)) : Int → MV
  | q0 => .int .i64 q0
def lapped_tables_wave.out (_p0 : Int) (_p1 : Int) (p2 : Int) (p3 : List (Int)) (p4 : List (Int)) (p5 : List (Int)) : Int → List (Nat × Option MObj)
  | _ => [(0, some (.cells [.int .i64 p2, .im (.slice (.int .i16)) p3, .im (.slice (.int .i16)) p4, .sl 1])), (1, some (.rows (.int .i16) p5))]
theorem lapped_tables_wave.ok {K : Nat} {p0 : Int} {p1 : Int} {p2 : Int} {p3 : List (Int)} {p4 : List (Int)} {p5 : List (Int)} {r : Int} (h0 : lapped_tables_wave K p0 p1 p2 p3 p4 p5 = some r) : Fn Try.prog 55 [.p 0 0, .int .i64 p0, .int .i64 p1] [(0, some (.cells [.int .i64 p2, .im (.slice (.int .i16)) p3, .im (.slice (.int .i16)) p4, .sl 1])), (1, some (.rows (.int .i16) p5))] (lapped_tables_wave.res p0 p1 p2 p3 p4 p5 r) (lapped_tables_wave.out p0 p1 p2 p3 p4 p5 r) := by
  refine Fn_of Try.func55 rfl (Nat.le_of_ble_eq_true rfl) fun Γ => ?_
  refine TC_seq ?_
  refine TC_reg ?_
  refine TL_ev env 1 rfl ⟨tv, tv⟩ ?_
  refine TL_end ?_
  refine TE_go ?_
  refine TC_seq ?_
  refine TC_renw (A' := [(0, .p 0 0), (1, .int .i64 _), (2, .int .i64 _), (6, .int .i64 0)]) (L' := [(0, some (.cells [.int .i64 _, .im (.slice (.int .i16)) _, .im (.slice (.int .i16)) _, .sl 1])), (1, some (.rows (.int .i16) _))]) [] ⟨rfl, rfl, rfl, rfl, tv⟩ ⟨rfl, rfl, tv⟩ rfl ?_
  refine TC_drawR ⟨_, fun i => ([[], [0], [1, 0], [2, 1, 0], [], [4], [5, 4], [], [7], [8, 7], [9, 8, 7], [10, 9, 8, 7, 6, 5, 4], [], [12], [13, 12], [14, 13, 12, 11, 10, 9, 8, 7, 6, 5, 4], [], [16], [17, 16], [18, 17, 16], [19, 18, 17, 16], [20, 19, 18, 17, 16, 15, 14, 13, 12, 11, 10, 9, 8, 7, 6, 5, 4], [21, 20, 19, 18, 17, 16, 15, 14, 13, 12, 11, 10, 9, 8, 7, 6, 5, 4, 3, 2, 1, 0], [22, 21, 20, 19, 18, 17, 16, 15, 14, 13, 12, 11, 10, 9, 8, 7, 6, 5, 4, 3, 2, 1, 0], [23, 22, 21, 20, 19, 18, 17, 16, 15, 14, 13, 12, 11, 10, 9, 8, 7, 6, 5, 4, 3, 2, 1, 0], [24, 23, 22, 21, 20, 19, 18, 17, 16, 15, 14, 13, 12, 11, 10, 9, 8, 7, 6, 5, 4, 3, 2, 1, 0]] : List (List Nat)).getD i [], fun i => ([[], [], [], [], [], [], [], [], [], [], [], [], [], [], [], [], [], [], [], [], [], [], [], [], [], []] : List (List Nat)).getD i [], fun i => ([[], [], [], [], [], [], [], [], [], [], [], [], [], [], [], [], [], [], [], [], [], [], [], [], [], []] : List (List Nat)).getD i []⟩ (fun i => ([[], [], [], [], [], [], [], [], [], [], [], [], [], [], [], [], [], [], [], [], [], [], [], [], [], []] : List (List Nat)).getD i []) (by kernel_rfl) (by kernel_rfl) ?_
  refine AJR_ev env 1 rfl (Nat.le_of_ble_eq_true rfl) rfl tv ?_
  refine AJR_ev env 2 rfl (Nat.le_of_ble_eq_true rfl) rfl tv ?_
  refine AJR_ev env 3 rfl (Nat.le_of_ble_eq_true rfl) rfl tv ?_
  refine AJR_ev env 4 rfl (Nat.le_of_ble_eq_true rfl) rfl ⟨tv, tv⟩ ?_
  refine AJR_ev env 5 rfl (Nat.le_of_ble_eq_true rfl) rfl tv ?_
  refine AJR_ev env 6 rfl (Nat.le_of_ble_eq_true rfl) rfl ⟨tv, ⟨tv, tv⟩⟩ ?_
  refine AJR_ev env 7 rfl (Nat.le_of_ble_eq_true rfl) rfl ⟨tv, ⟨tv, tv⟩⟩ ?_
  refine AJR_ev env 8 rfl (Nat.le_of_ble_eq_true rfl) rfl tv ?_
  refine AJR_ev env 9 rfl (Nat.le_of_ble_eq_true rfl) rfl tv ?_
  refine AJR_ev env 10 rfl (Nat.le_of_ble_eq_true rfl) rfl tv ?_
  refine AJR_ev env 11 rfl (Nat.le_of_ble_eq_true rfl) rfl ⟨tv, tv⟩ ?_
  refine AJR_ev env 12 rfl (Nat.le_of_ble_eq_true rfl) rfl ⟨tv, ⟨tv, tv⟩⟩ ?_
  refine AJR_ev env 13 rfl (Nat.le_of_ble_eq_true rfl) rfl tv ?_
  refine AJR_ev env 14 rfl (Nat.le_of_ble_eq_true rfl) rfl ⟨tv, ⟨tv, tv⟩⟩ ?_
  refine AJR_ev env 15 rfl (Nat.le_of_ble_eq_true rfl) rfl ⟨tv, ⟨tv, tv⟩⟩ ?_
  refine AJR_ev env 16 rfl (Nat.le_of_ble_eq_true rfl) rfl ⟨tv, ⟨tv, tv⟩⟩ ?_
  refine AJR_ev env 17 rfl (Nat.le_of_ble_eq_true rfl) rfl tv ?_
  refine AJR_ev env 18 rfl (Nat.le_of_ble_eq_true rfl) rfl tv ?_
  refine AJR_ev env 19 rfl (Nat.le_of_ble_eq_true rfl) rfl tv ?_
  refine AJR_ev env 20 rfl (Nat.le_of_ble_eq_true rfl) rfl ⟨tv, tv⟩ ?_
  refine AJR_ev env 21 rfl (Nat.le_of_ble_eq_true rfl) rfl ⟨tv, ⟨tv, tv⟩⟩ ?_
  obtain ⟨g, h0⟩ := gd_t h0
  refine AJR_ev env 22 rfl (Nat.le_of_ble_eq_true rfl) rfl ⟨tv, ⟨tv, g⟩⟩ ?_
  obtain ⟨g, h0⟩ := gd_t h0
  refine AJR_ev env 23 rfl (Nat.le_of_ble_eq_true rfl) rfl ⟨tv, ⟨tv, ⟨g.1, g.2⟩⟩⟩ ?_
  refine AJR_ev env 24 rfl (Nat.le_of_ble_eq_true rfl) rfl ⟨tv, tv⟩ ?_
  refine AJR_ev env 25 rfl (Nat.le_of_ble_eq_true rfl) rfl tv ?_
  refine AJR_ev env 26 rfl (Nat.le_of_ble_eq_true rfl) rfl tv ?_
  refine AJR_end rfl rfl rfl ?_
  refine TE_go ?_
  refine TC_ret ?_
  obtain rfl := sinj h0
  exact TE_ret env rfl tv ⟨.inr rfl, .inr rfl, tv⟩
theorem lapped_tables_wave.ok0 {K : Nat} {p0 : Int} {p1 : Int} {p2 : Int} {p3 : List (Int)} {p4 : List (Int)} {p5 : List (Int)} {q0 : Int} (h0 : lapped_tables_wave K p0 p1 p2 p3 p4 p5 = some q0) : Fn Try.prog 55 [.p 0 0, .int .i64 p0, .int .i64 p1] [(0, some (.cells [.int .i64 p2, .im (.slice (.int .i16)) p3, .im (.slice (.int .i16)) p4, .sl 1])), (1, some (.rows (.int .i16) p5))] (.int .i64 q0) [(0, some (.cells [.int .i64 p2, .im (.slice (.int .i16)) p3, .im (.slice (.int .i16)) p4, .sl 1])), (1, some (.rows (.int .i16) p5))] := lapped_tables_wave.ok h0
theorem lapped_tables_wave.fnb : fnb Try.prog 55 = true := fnb_of Try.func55 rfl
def fix_Sat32.res (_p0 : Int) : Int → MV
  | q0 => .int .i32 q0
def fix_Sat32.out (_p0 : Int) : Int → List (Nat × Option MObj)
  | _ => []
theorem fix_Sat32.ok {K : Nat} {p0 : Int} {r : Int} (h0 : fix_Sat32 K p0 = some r) : Fn Try.prog 56 [.int .i64 p0] [] (fix_Sat32.res p0 r) (fix_Sat32.out p0 r) := by
  refine Fn_of Try.func56 rfl (Nat.le_of_ble_eq_true rfl) fun Γ => ?_
  refine TC_seq ?_
  refine TC_reg ?_
  refine TL_ev env 1 rfl ⟨tv, tv⟩ ?_
  refine TL_end ?_
  refine TE_go ?_
  refine TC_seq ?_
  refine TC_reg ?_
  refine TL_ev env 1 rfl ⟨tv, tv⟩ ?_
  obtain ⟨r2, hr, h0⟩ := bnd h0
  refine TL_callB [] (fix_within_int64.ok0 hr) fix_within_int64.fnb rfl ⟨tv, ⟨tv, ⟨tv, ⟨tv, tv⟩⟩⟩⟩ rfl tv rfl ?_
  refine TL_ev env 2 rfl ⟨tv, ⟨tv, tv⟩⟩ ?_
  refine TL_end ?_
  refine TE_go ?_
  refine TC_ret ?_
  obtain rfl := sinj h0
  exact TE_ret env rfl tv tv
theorem fix_Sat32.ok0 {K : Nat} {p0 : Int} {q0 : Int} (h0 : fix_Sat32 K p0 = some q0) : Fn Try.prog 56 [.int .i64 p0] [] (.int .i32 q0) [] := fix_Sat32.ok h0
theorem fix_Sat32.fnb : fnb Try.prog 56 = true := fnb_of Try.func56 rfl
def lapped_Lapper_Feed.res (_p0 : List (Int)) (_p1 : Int) (_p2 : List (Int)) (_p3 : List (Int)) (_p4 : List (Int)) : (Unit) ⊕ ((List (Int)) × (List (Int))) → MV
  | .inl () => .tup [.nils, .int .i64 1]
  | .inr (q0, _) => .tup [.im (.slice (.int .i32)) q0, .int .i64 0]
def lapped_Lapper_Feed.out (_p0 : List (Int)) (p1 : Int) (p2 : List (Int)) (p3 : List (Int)) (p4 : List (Int)) : (Unit) ⊕ ((List (Int)) × (List (Int))) → List (Nat × Option MObj)
  | .inl () => [(0, some (.cells [.int .i64 p1, .im (.slice (.int .i16)) p2, .im (.slice (.int .i16)) p3, .sl 1])), (1, some (.rows (.int .i16) p4))]
  | .inr (_, q1) => [(0, some (.cells [.int .i64 p1, .im (.slice (.int .i16)) p2, .im (.slice (.int .i16)) p3, .sl 1])), (1, some (.rows (.int .i16) q1))]
theorem lapped_Lapper_Feed.ok {K : Nat} {p0 : List (Int)} {p1 : Int} {p2 : List (Int)} {p3 : List (Int)} {p4 : List (Int)} {r : (Unit) ⊕ ((List (Int)) × (List (Int)))} (h0 : lapped_Lapper_Feed K p0 p1 p2 p3 p4 = some r) : Fn Try.prog 30 [.p 0 0, .im (.slice (.int .i16)) p0] [(0, some (.cells [.int .i64 p1, .im (.slice (.int .i16)) p2, .im (.slice (.int .i16)) p3, .sl 1])), (1, some (.rows (.int .i16) p4))] (lapped_Lapper_Feed.res p0 p1 p2 p3 p4 r) (lapped_Lapper_Feed.out p0 p1 p2 p3 p4 r) := by
  refine Fn_of Try.func30 rfl (Nat.le_of_ble_eq_true rfl) fun Γ => ?_
  refine TC_seq ?_
  refine TC_reg ?_
  refine TL_ev env 2 rfl ⟨tv, ⟨tv, tv⟩⟩ ?_
  refine TL_end ?_
  refine TE_go ?_
  refine TC_seq ?_
  refine TC_blk ?_
  refine TC_seq ?_
  refine TC_reg ?_
  refine TL_ev env 3 rfl ⟨tv, ⟨⟨tv, ⟨tv, tv⟩⟩, ⟨tv, tv⟩⟩⟩ ?_
  refine TL_end ?_
  refine TE_go ?_
  refine TC_cond rfl (fun hb => ?_) (fun hb => ?_)
  · first | exact (ftf hb).elim | exact (tff hb).elim | exact absurd hb (by decide)
  · refine TC_seq ?_
    refine TC_reg ?_
    refine TL_ev env 9 rfl ⟨tv, ⟨⟨tv, tv⟩, ⟨tv, ⟨tv, ⟨tv, ⟨tv, ⟨⟨tv, tv⟩, ⟨⟨tv, ⟨tv, tv⟩⟩, ⟨tv, tv⟩⟩⟩⟩⟩⟩⟩⟩⟩ ?_
    refine TL_end ?_
    refine TE_go ?_
    refine TC_cond rfl (fun hb => ?_) (fun hb => ?_)
    · replace h0 := bif_t h0 hb
      refine TC_seq ?_
      refine TC_reg ?_
      refine TL_ev env 2 rfl ⟨tv, ⟨tv, tv⟩⟩ ?_
      refine TL_end ?_
      refine TE_go ?_
      refine TC_ret ?_
      refine tbr ?_
      refine tsr ?_
      obtain rfl := sinj h0
      exact TE_ret env rfl tv ⟨.inr rfl, .inr rfl, tv⟩
    · replace h0 := bif_f h0 hb
      refine TC_skip ?_
      refine tbn ?_
      refine TE_go ?_
      refine TC_seq ?_
      refine TC_reg ?_
      obtain ⟨g, h0⟩ := gd_t h0
      refine TL_ev env 8 rfl ⟨tv, ⟨tv, ⟨tv, ⟨tv, ⟨⟨tv, tv⟩, ⟨⟨tv, ⟨tv, tv⟩⟩, ⟨⟨tv, ⟨tv, ⟨(by decide), ⟨g.1, g.2⟩⟩⟩⟩, ⟨tv, tv⟩⟩⟩⟩⟩⟩⟩⟩ ?_
      refine TL_end ?_
      refine TE_go ?_
      refine TC_seq ?_
      refine TC_seq ?_
      refine TC_reg ?_
      refine TL_ev env 6 rfl ⟨tv, ⟨tv, ⟨tv, ⟨⟨tv, tv⟩, ⟨tv, ⟨⟨tv, ⟨tv, tv⟩⟩, tv⟩⟩⟩⟩⟩⟩ ?_
      obtain ⟨r62, hr, h0⟩ := bnd h0
      refine TL_callB [(0, 1038), (1, 1)] (slices_Concat_int16_int16.ok0 hr) slices_Concat_int16_int16.fnb rfl ⟨tv, ⟨tv, tv⟩⟩ rfl ⟨.inr rfl, .inr rfl, tv⟩ rfl ?_
      refine TL_ev env 2 rfl ⟨⟨tv, tv⟩, ⟨tv, tv⟩⟩ ?_
      refine TL_end ?_
      refine TE_go ?_
      obtain ⟨z1, h1, h0⟩ := bnd h0
      refine TC_cut (α := (List (Int))) (fun s => z1 = s) (fun s => [(0, .p 0 0), (1, .im (.slice (.int .i16)) p0), (6, .sl 12802)]) (fun s => [(0, some (.cells [.int .i64 p1, .im (.slice (.int .i16)) p2, .im (.slice (.int .i16)) p3, .sl 1])), (1, some (.rows (.int .i16) p4)), (12802, some (.rows (.int .i64) s))]) ?_ ?_
      · refine TC_blk ?_
        refine TC_loop (α := Int × (List (Int))) (fun n s => lapped_Lapper_Feed.l2 K p0 r62 (r62.length : Int) p1 p2 p3 p4 n s.1 s.2 = some z1) (fun s => [(0, .p 0 0), (1, .im (.slice (.int .i16)) p0), (6, .sl 18002), (39, .im (.slice (.int .i16)) r62), (40, .int .i64 (r62.length : Int)), (41, .int .i64 s.1)]) (fun s => [(0, some (.cells [.int .i64 p1, .im (.slice (.int .i16)) p2, .im (.slice (.int .i16)) p3, .sl 1])), (1, some (.rows (.int .i16) p4)), (18002, some (.rows (.int .i64) s.2))]) K ?_ ?_
        · exact SP_ren [(18002, 1032)] (_, _) h1 ⟨rfl, rfl, rfl, rfl, rfl, rfl, tv⟩ ⟨rfl, rfl, rfl, tv⟩ rfl
        rintro n ⟨x213, x214⟩ h1
        rcases n with _ | n
        · exact (nsome h1).elim
        replace h1 : lapped_Lapper_Feed.r2 K p0 r62 (r62.length : Int) p1 p2 p3 p4 (lapped_Lapper_Feed.l2 K p0 r62 (r62.length : Int) p1 p2 p3 p4 n) x213 x214 = some z1 := h1
        refine TC_seq ?_
        refine TC_reg ?_
        refine TL_ev env 1 rfl ⟨⟨tv, ⟨tv, tv⟩⟩, tv⟩ ?_
        refine TL_end ?_
        refine TE_go ?_
        refine TC_seq ?_
        refine TC_cond rfl (fun hb => ?_) (fun hb => ?_)
        · replace h1 := bif_t h1 hb
          refine TC_skip ?_
          refine TE_go ?_
          refine TC_seq ?_
          refine TC_blk ?_
          refine TC_seq ?_
          refine TC_reg ?_
          obtain ⟨g, h1⟩ := gd_t h1
          refine TL_ev env 5 rfl ⟨tv, ⟨⟨tv, ⟨tv, ⟨g.1, g.2⟩⟩⟩, ⟨⟨tv, tv⟩, ⟨tv, ⟨tv, tv⟩⟩⟩⟩⟩ ?_
          refine TL_end ?_
          refine TE_go ?_
          refine TC_reg ?_
          refine TL_ev env 7 rfl ⟨tv, ⟨tv, ⟨tv, ⟨tv, ⟨tv, ⟨tv, ⟨tv, tv⟩⟩⟩⟩⟩⟩⟩ ?_
          obtain ⟨r223, hr, h1⟩ := bnd h1
          refine TL_callB [(0, 0), (1, 1)] (lapped_tables_windowed.ok0 hr) lapped_tables_windowed.fnb rfl ⟨tv, ⟨tv, ⟨tv, ⟨tv, tv⟩⟩⟩⟩ rfl ⟨.inr rfl, .inr rfl, tv⟩ rfl ?_
          obtain ⟨g, h1⟩ := gd_t h1
          refine TL_ev env 3 rfl ⟨⟨tv, tv⟩, ⟨⟨⟨tv, ⟨tv, tv⟩⟩, g⟩, ⟨tv, tv⟩⟩⟩ ?_
          refine TL_end ?_
          refine tbn ?_
          refine TE_go ?_
          refine TC_reg ?_
          refine TL_ev env 2 rfl ⟨⟨tv, ⟨tv, tv⟩⟩, ⟨tv, tv⟩⟩ ?_
          refine TL_end ?_
          refine tsn ?_
          exact TE_nextr [(18002, 1055)] n (Nat.lt_succ_self n) (_, _) h1 ⟨rfl, rfl, rfl, rfl, rfl, rfl, tv⟩ ⟨rfl, rfl, rfl, tv⟩ rfl
        · replace h1 := bif_f h1 hb
          refine TC_exit ?_
          refine tsx ?_
          refine tsx ?_
          refine tbe ?_
          obtain rfl := sinj h1
          refine tsn ?_
          exact SP_ren [(12802, 18002)] _ rfl ⟨rfl, rfl, rfl, tv⟩ ⟨rfl, rfl, rfl, tv⟩ rfl
      · rintro x71 hz
        obtain rfl := hz.symm
        refine TE_go ?_
        refine TC_seq ?_
        refine TC_reg ?_
        obtain ⟨g, h0⟩ := gd_t h0
        refine TL_ev env 7 rfl ⟨tv, ⟨tv, ⟨tv, ⟨tv, ⟨⟨tv, tv⟩, ⟨⟨tv, ⟨tv, ⟨g.1, ⟨g.2.1, g.2.2⟩⟩⟩⟩, ⟨tv, tv⟩⟩⟩⟩⟩⟩⟩ ?_
        refine TL_end ?_
        refine TE_go ?_
        refine TC_seq ?_
        refine TC_seq ?_
        refine TC_reg ?_
        refine TL_ev env 3 rfl ⟨tv, ⟨⟨tv, tv⟩, ⟨tv, tv⟩⟩⟩ ?_
        refine TL_end ?_
        refine TE_go ?_
        obtain ⟨z1, h1, h0⟩ := bnd h0
        refine TC_cut (α := (List (Int))) (fun s => z1 = s) (fun s => [(0, .p 0 0), (1, .im (.slice (.int .i16)) p0), (9, .sl 14802)]) (fun s => [(0, some (.cells [.int .i64 p1, .im (.slice (.int .i16)) p2, .im (.slice (.int .i16)) p3, .sl 1])), (1, some (.rows (.int .i16) p4)), (14802, some (.rows (.int .i32) s))]) ?_ ?_
        · refine TC_blk ?_
          refine TC_loop (α := Int × (List (Int))) (fun n s => lapped_Lapper_Feed.l0 K p0 ((List.replicate (Int.toNat p1) (0 : Int)).length : Int) p1 p2 p3 p4 x71 n s.1 s.2 = some z1) (fun s => [(0, .p 0 0), (1, .im (.slice (.int .i16)) p0), (6, .sl 15802), (9, .sl 15803), (64, .int .i64 ((List.replicate (Int.toNat p1) (0 : Int)).length : Int)), (65, .int .i64 s.1)]) (fun s => [(0, some (.cells [.int .i64 p1, .im (.slice (.int .i16)) p2, .im (.slice (.int .i16)) p3, .sl 1])), (1, some (.rows (.int .i16) p4)), (15802, some (.rows (.int .i64) x71)), (15803, some (.rows (.int .i32) s.2))]) K ?_ ?_
          · exact SP_ren [(15802, 12802), (15803, 1062)] (_, _) h1 ⟨rfl, rfl, rfl, rfl, rfl, rfl, tv⟩ ⟨rfl, rfl, rfl, rfl, tv⟩ rfl
          rintro n ⟨x145, x146⟩ h1
          rcases n with _ | n
          · exact (nsome h1).elim
          replace h1 : lapped_Lapper_Feed.r0 K p0 ((List.replicate (Int.toNat p1) (0 : Int)).length : Int) p1 p2 p3 p4 x71 (lapped_Lapper_Feed.l0 K p0 ((List.replicate (Int.toNat p1) (0 : Int)).length : Int) p1 p2 p3 p4 x71 n) x145 x146 = some z1 := h1
          refine TC_seq ?_
          refine TC_reg ?_
          refine TL_ev env 1 rfl ⟨⟨tv, ⟨tv, tv⟩⟩, tv⟩ ?_
          refine TL_end ?_
          refine TE_go ?_
          refine TC_seq ?_
          refine TC_cond rfl (fun hb => ?_) (fun hb => ?_)
          · replace h1 := bif_t h1 hb
            refine TC_skip ?_
            refine TE_go ?_
            refine TC_seq ?_
            refine TC_blk ?_
            refine TC_seq ?_
            refine TC_reg ?_
            refine TL_ev env 2 rfl ⟨tv, ⟨tv, tv⟩⟩ ?_
            refine TL_end ?_
            refine TE_go ?_
            refine TC_seq ?_
            refine TC_reg ?_
            refine TL_ev env 1 rfl ⟨tv, tv⟩ ?_
            refine TL_end ?_
            refine TE_go ?_
            refine TC_seq ?_
            refine TC_seq ?_
            refine TC_reg ?_
            refine TL_ev env 3 rfl ⟨tv, ⟨⟨tv, tv⟩, ⟨tv, tv⟩⟩⟩ ?_
            refine TL_end ?_
            refine TE_go ?_
            obtain ⟨z2, h2, h1⟩ := bnd h1
            refine TC_cut (α := Int) (fun s => z2 = s) (fun s => [(0, .p 0 0), (1, .im (.slice (.int .i16)) p0), (6, .sl 17502), (9, .sl 17503), (10, .int .i64 x145), (11, .int .i64 s), (64, .int .i64 ((List.replicate (Int.toNat p1) (0 : Int)).length : Int)), (65, .int .i64 x145)]) (fun s => [(0, some (.cells [.int .i64 p1, .im (.slice (.int .i16)) p2, .im (.slice (.int .i16)) p3, .sl 1])), (1, some (.rows (.int .i16) p4)), (17502, some (.rows (.int .i64) x71)), (17503, some (.rows (.int .i32) x146))]) ?_ ?_
            · refine TC_blk ?_
              refine TC_loop (α := Int × Int) (fun n s => lapped_Lapper_Feed.l1 K p0 x145 ((List.replicate (Int.toNat p1) (0 : Int)).length : Int) (x71.length : Int) p1 p2 p3 p4 x71 x146 n s.1 s.2 = some z2) (fun s => [(0, .p 0 0), (1, .im (.slice (.int .i16)) p0), (6, .sl 17702), (9, .sl 17703), (10, .int .i64 x145), (11, .int .i64 s.1), (64, .int .i64 ((List.replicate (Int.toNat p1) (0 : Int)).length : Int)), (65, .int .i64 x145), (68, .sl 17702), (69, .int .i64 (x71.length : Int)), (70, .int .i64 s.2)]) (fun s => [(0, some (.cells [.int .i64 p1, .im (.slice (.int .i16)) p2, .im (.slice (.int .i16)) p3, .sl 1])), (1, some (.rows (.int .i16) p4)), (17702, some (.rows (.int .i64) x71)), (17703, some (.rows (.int .i32) x146))]) K ?_ ?_
              · exact SP_ren [(17702, 15802), (17703, 15803)] (_, _) h2 ⟨rfl, rfl, rfl, rfl, rfl, rfl, rfl, rfl, rfl, rfl, rfl, tv⟩ ⟨rfl, rfl, rfl, rfl, tv⟩ rfl
              rintro n ⟨x198, x199⟩ h2
              rcases n with _ | n
              · exact (nsome h2).elim
              replace h2 : lapped_Lapper_Feed.r1 K p0 x145 ((List.replicate (Int.toNat p1) (0 : Int)).length : Int) (x71.length : Int) p1 p2 p3 p4 x71 x146 (lapped_Lapper_Feed.l1 K p0 x145 ((List.replicate (Int.toNat p1) (0 : Int)).length : Int) (x71.length : Int) p1 p2 p3 p4 x71 x146 n) x198 x199 = some z2 := h2
              refine TC_seq ?_
              refine TC_reg ?_
              refine TL_ev env 1 rfl ⟨⟨tv, ⟨tv, tv⟩⟩, tv⟩ ?_
              refine TL_end ?_
              refine TE_go ?_
              refine TC_seq ?_
              refine TC_cond rfl (fun hb => ?_) (fun hb => ?_)
              · replace h2 := bif_t h2 hb
                refine TC_skip ?_
                refine TE_go ?_
                refine TC_seq ?_
                refine TC_blk ?_
                refine TC_seq ?_
                refine TC_reg ?_
                obtain ⟨g, h2⟩ := gd_t h2
                refine TL_ev env 5 rfl ⟨tv, ⟨⟨tv, ⟨tv, ⟨g.1, g.2.1⟩⟩⟩, ⟨⟨tv, g.2.2⟩, ⟨tv, ⟨tv, tv⟩⟩⟩⟩⟩ ?_
                refine TL_end ?_
                refine TE_go ?_
                refine TC_reg ?_
                refine TL_ev env 7 rfl ⟨tv, ⟨tv, ⟨tv, ⟨tv, ⟨tv, ⟨tv, ⟨tv, tv⟩⟩⟩⟩⟩⟩⟩ ?_
                obtain ⟨r207, hr, h2⟩ := bnd h2
                refine TL_callB [(0, 0), (1, 1)] (lapped_tables_wave.ok0 hr) lapped_tables_wave.fnb rfl ⟨tv, ⟨tv, ⟨tv, ⟨tv, tv⟩⟩⟩⟩ rfl ⟨.inr rfl, .inr rfl, tv⟩ rfl ?_
                refine TL_ev env 3 rfl ⟨⟨tv, ⟨tv, tv⟩⟩, ⟨⟨tv, ⟨tv, tv⟩⟩, ⟨tv, tv⟩⟩⟩ ?_
                refine TL_end ?_
                refine tbn ?_
                refine TE_go ?_
                refine TC_reg ?_
                refine TL_ev env 2 rfl ⟨⟨tv, ⟨tv, tv⟩⟩, ⟨tv, tv⟩⟩ ?_
                refine TL_end ?_
                refine tsn ?_
                exact TE_nextr [(17702, 17702), (17703, 17703)] n (Nat.lt_succ_self n) (_, _) h2 ⟨rfl, rfl, rfl, rfl, rfl, rfl, rfl, rfl, rfl, rfl, rfl, tv⟩ ⟨rfl, rfl, rfl, rfl, tv⟩ rfl
              · replace h2 := bif_f h2 hb
                refine TC_exit ?_
                refine tsx ?_
                refine tsx ?_
                refine tbe ?_
                obtain rfl := sinj h2
                refine tsn ?_
                exact SP_ren [(17502, 17702), (17503, 17703)] _ rfl ⟨rfl, rfl, rfl, rfl, rfl, rfl, rfl, rfl, tv⟩ ⟨rfl, rfl, rfl, rfl, tv⟩ rfl
            · rintro x191 hz
              obtain rfl := hz.symm
              refine TE_go ?_
              refine TC_reg ?_
              refine TL_ev env 3 rfl ⟨tv, ⟨tv, ⟨tv, tv⟩⟩⟩ ?_
              obtain ⟨r192, hr, h1⟩ := bnd h1
              refine TL_callB [] (fix_Round.ok0 hr) fix_Round.fnb rfl ⟨tv, ⟨tv, ⟨tv, tv⟩⟩⟩ rfl tv rfl ?_
              obtain ⟨r193, hr, h1⟩ := bnd h1
              refine TL_callB [] (fix_Sat32.ok0 hr) fix_Sat32.fnb rfl ⟨tv, ⟨tv, tv⟩⟩ rfl tv rfl ?_
              obtain ⟨g, h1⟩ := gd_t h1
              refine TL_ev env 2 rfl ⟨⟨tv, ⟨tv, ⟨g.1, g.2.1⟩⟩⟩, ⟨⟨tv, ⟨tv, g.2.2⟩⟩, tv⟩⟩ ?_
              refine TL_end ?_
              refine tbn ?_
              refine TE_go ?_
              refine TC_reg ?_
              refine TL_ev env 2 rfl ⟨⟨tv, ⟨tv, tv⟩⟩, ⟨tv, tv⟩⟩ ?_
              refine TL_end ?_
              refine tsn ?_
              exact TE_nextr [(15802, 17502), (15803, 17503)] n (Nat.lt_succ_self n) (_, _) h1 ⟨rfl, rfl, rfl, rfl, rfl, rfl, tv⟩ ⟨rfl, rfl, rfl, rfl, tv⟩ rfl
          · replace h1 := bif_f h1 hb
            refine TC_exit ?_
            refine tsx ?_
            refine tsx ?_
            refine tbe ?_
            obtain rfl := sinj h1
            refine tsn ?_
            exact SP_ren [(14802, 15803)] _ rfl ⟨rfl, rfl, rfl, tv⟩ ⟨rfl, rfl, rfl, tv⟩ rfl
        · rintro x122 hz
          obtain rfl := hz.symm
          refine TE_go ?_
          refine TC_seq ?_
          refine TC_reg ?_
          refine TL_ev env 6 rfl ⟨tv, ⟨tv, ⟨tv, ⟨⟨tv, tv⟩, ⟨tv, ⟨⟨⟨tv, ⟨tv, tv⟩⟩, ⟨tv, tv⟩⟩, tv⟩⟩⟩⟩⟩⟩ ?_
          refine TL_end ?_
          refine TE_go ?_
          refine TC_seq ?_
          refine TC_reg ?_
          refine TL_ev env 3 rfl ⟨tv, ⟨tv, ⟨tv, tv⟩⟩⟩ ?_
          refine TL_end ?_
          refine TE_go ?_
          refine TC_ret ?_
          refine TE_frz 14802 rfl ?_
          obtain rfl := sinj h0
          exact TE_ret env rfl tv ⟨.inr rfl, .inr rfl, tv⟩
theorem lapped_Lapper_Feed.ok0 {K : Nat} {p0 : List (Int)} {p1 : Int} {p2 : List (Int)} {p3 : List (Int)} {p4 : List (Int)}  (h0 : lapped_Lapper_Feed K p0 p1 p2 p3 p4 = some (.inl ())) : Fn Try.prog 30 [.p 0 0, .im (.slice (.int .i16)) p0] [(0, some (.cells [.int .i64 p1, .im (.slice (.int .i16)) p2, .im (.slice (.int .i16)) p3, .sl 1])), (1, some (.rows (.int .i16) p4))] (.tup [.nils, .int .i64 1]) [(0, some (.cells [.int .i64 p1, .im (.slice (.int .i16)) p2, .im (.slice (.int .i16)) p3, .sl 1])), (1, some (.rows (.int .i16) p4))] := lapped_Lapper_Feed.ok h0
theorem lapped_Lapper_Feed.ok1 {K : Nat} {p0 : List (Int)} {p1 : Int} {p2 : List (Int)} {p3 : List (Int)} {p4 : List (Int)} {q0 : List (Int)} {q1 : List (Int)} (h0 : lapped_Lapper_Feed K p0 p1 p2 p3 p4 = some (.inr (q0, q1))) : Fn Try.prog 30 [.p 0 0, .im (.slice (.int .i16)) p0] [(0, some (.cells [.int .i64 p1, .im (.slice (.int .i16)) p2, .im (.slice (.int .i16)) p3, .sl 1])), (1, some (.rows (.int .i16) p4))] (.tup [.im (.slice (.int .i32)) q0, .int .i64 0]) [(0, some (.cells [.int .i64 p1, .im (.slice (.int .i16)) p2, .im (.slice (.int .i16)) p3, .sl 1])), (1, some (.rows (.int .i16) q1))] := lapped_Lapper_Feed.ok h0
theorem lapped_Lapper_Feed.fnb : fnb Try.prog 30 = true := fnb_of Try.func30 rfl
def lapped_Lengths.res  : (List (Int)) → MV
  | q0 => .im (.slice (.int .i64)) q0
def lapped_Lengths.out  : (List (Int)) → List (Nat × Option MObj)
  | _ => []
theorem lapped_Lengths.ok {K : Nat}  {r : (List (Int))} (h0 : lapped_Lengths K  = some r) : Fn Try.prog 51 [] [] (lapped_Lengths.res  r) (lapped_Lengths.out  r) := by
  refine Fn_of Try.func51 rfl (Nat.le_of_ble_eq_true rfl) fun Γ => ?_
  refine TC_seq ?_
  refine TC_reg ?_
  refine TL_ev env 1 rfl ⟨tv, tv⟩ ?_
  refine TL_end ?_
  refine TE_go ?_
  refine TC_seq ?_
  refine TC_reg ?_
  obtain ⟨⟨⟩, hr, h0⟩ := bnd h0
  refine TL_callB [] (lapped_lengths.ok0 hr) lapped_lengths.fnb rfl ⟨tv, tv⟩ rfl tv rfl ?_
  refine TL_ev env 2 rfl ⟨tv, ⟨⟨tv, tv⟩, tv⟩⟩ ?_
  refine TL_end ?_
  refine TE_go ?_
  refine TC_seq ?_
  refine TC_reg ?_
  refine TL_frzc 1001 (.pair (.int .i64) (.pair (.int .i64) (.pair (.int .i64) (.int .i64)))) (40, (60, (80, 120))) rfl ?_
  refine TL_ev env 2 rfl ⟨⟨tv, ⟨tv, ⟨tv, ⟨(by decide), ⟨(by decide), (by decide)⟩⟩⟩⟩⟩, ⟨tv, tv⟩⟩ ?_
  refine TL_end ?_
  refine TE_go ?_
  refine TC_ret ?_
  obtain rfl := sinj h0
  exact TE_ret env rfl tv tv
theorem lapped_Lengths.ok0 {K : Nat}  {q0 : List (Int)} (h0 : lapped_Lengths K  = some q0) : Fn Try.prog 51 [] [] (.im (.slice (.int .i64)) q0) [] := lapped_Lengths.ok h0
theorem lapped_Lengths.fnb : fnb Try.prog 51 = true := fnb_of Try.func51 rfl
def psalteryref08_Same32.res (_p0 : List (Int)) (_p1 : List (Int)) : Bool → MV
  | q0 => .bool q0
def psalteryref08_Same32.out (_p0 : List (Int)) (_p1 : List (Int)) : Bool → List (Nat × Option MObj)
  | _ => []
theorem psalteryref08_Same32.ok {K : Nat} {p0 : List (Int)} {p1 : List (Int)} {r : Bool} (h0 : psalteryref08_Same32 K p0 p1 = some r) : Fn Try.prog 17 [.im (.slice (.int .i32)) p0, .im (.slice (.int .i32)) p1] [] (psalteryref08_Same32.res p0 p1 r) (psalteryref08_Same32.out p0 p1 r) := by
  refine Fn_of Try.func17 rfl (Nat.le_of_ble_eq_true rfl) fun Γ => ?_
  refine TC_seq ?_
  refine TC_reg ?_
  refine TL_ev env 1 rfl ⟨tv, tv⟩ ?_
  refine TL_end ?_
  refine TE_go ?_
  refine TC_seq ?_
  refine TC_seq ?_
  refine TC_reg ?_
  refine TL_ev env 5 rfl ⟨tv, ⟨⟨tv, tv⟩, ⟨tv, ⟨⟨tv, tv⟩, ⟨⟨tv, ⟨tv, tv⟩⟩, tv⟩⟩⟩⟩⟩ ?_
  refine TL_end ?_
  refine TE_go ?_
  refine TC_cond rfl (fun hb => ?_) (fun hb => ?_)
  · replace h0 := bif_t h0 hb
    refine TC_seq ?_
    refine TC_reg ?_
    refine TL_ev env 1 rfl ⟨tv, tv⟩ ?_
    refine TL_end ?_
    refine TE_go ?_
    refine TC_ret ?_
    refine tsr ?_
    obtain rfl := sinj h0
    exact TE_ret env rfl tv tv
  · replace h0 := bif_f h0 hb
    refine TC_skip ?_
    refine TE_go ?_
    refine TC_seq ?_
    refine TC_seq ?_
    refine TC_reg ?_
    refine TL_ev env 1 rfl ⟨tv, tv⟩ ?_
    refine TL_end ?_
    refine TE_go ?_
    obtain ⟨z1, h1, h0⟩ := bnd h0
    refine TC_cut (α := Unit) (fun _ => z1 = .inl ()) (fun _ => []) (fun _ => []) ?_ ?_
    · refine TC_blk ?_
      refine TC_loop (α := Int) (fun n s => psalteryref08_Same32.l0 K p0 p1 n s = some z1) (fun s => [(0, .im (.slice (.int .i32)) p0), (1, .im (.slice (.int .i32)) p1), (5, .int .i64 s)]) (fun s => []) K ?_ ?_
      · exact SP_ren [] _ h1 ⟨rfl, rfl, rfl, tv⟩ tv rfl
      rintro n x6 h1
      rcases n with _ | n
      · exact (nsome h1).elim
      replace h1 : psalteryref08_Same32.r0 K p0 p1 (psalteryref08_Same32.l0 K p0 p1 n) x6 = some z1 := h1
      refine TC_seq ?_
      refine TC_seq ?_
      refine TC_reg ?_
      refine TL_ev env 4 rfl ⟨tv, ⟨tv, ⟨⟨tv, tv⟩, ⟨⟨tv, ⟨tv, tv⟩⟩, tv⟩⟩⟩⟩ ?_
      refine TL_end ?_
      refine TE_go ?_
      refine TC_cond rfl (fun hb => ?_) (fun hb => ?_)
      · replace h1 := bif_t h1 hb
        refine TC_skip ?_
        refine TE_go ?_
        refine TC_seq ?_
        refine TC_blk ?_
        refine TC_seq ?_
        refine TC_renw (A' := [(0, .im (.slice (.int .i32)) _), (1, .im (.slice (.int .i32)) _), (5, .int .i64 _)]) (L' := []) [] ⟨rfl, rfl, rfl, tv⟩ tv rfl ?_
        refine TC_drawR ⟨_, fun i => ([[], [], [1, 0], [2, 1, 0], [], [], [5, 4], [6, 5, 4], [7, 6, 5, 4, 3, 2, 1, 0]] : List (List Nat)).getD i [], fun i => ([[], [], [], [], [], [], [], [], []] : List (List Nat)).getD i [], fun i => ([[], [], [], [], [], [], [], [], []] : List (List Nat)).getD i []⟩ (fun i => ([[], [], [], [], [], [], [], [], []] : List (List Nat)).getD i []) (by kernel_rfl) (by kernel_rfl) ?_
        refine AJR_ev env 1 rfl (Nat.le_of_ble_eq_true rfl) rfl tv ?_
        refine AJR_ev env 2 rfl (Nat.le_of_ble_eq_true rfl) rfl tv ?_
        obtain ⟨g, h1⟩ := gd_t h1
        refine AJR_ev env 3 rfl (Nat.le_of_ble_eq_true rfl) rfl ⟨tv, ⟨tv, ⟨g.1, g.2⟩⟩⟩ ?_
        refine AJR_ev env 4 rfl (Nat.le_of_ble_eq_true rfl) rfl ⟨tv, tv⟩ ?_
        refine AJR_ev env 5 rfl (Nat.le_of_ble_eq_true rfl) rfl tv ?_
        refine AJR_ev env 6 rfl (Nat.le_of_ble_eq_true rfl) rfl tv ?_
        obtain ⟨g, h1⟩ := gd_t h1
        refine AJR_ev env 7 rfl (Nat.le_of_ble_eq_true rfl) rfl ⟨tv, ⟨tv, ⟨g.1, g.2⟩⟩⟩ ?_
        refine AJR_ev env 8 rfl (Nat.le_of_ble_eq_true rfl) rfl ⟨tv, tv⟩ ?_
        refine AJR_ev env 9 rfl (Nat.le_of_ble_eq_true rfl) rfl ⟨tv, ⟨tv, tv⟩⟩ ?_
        refine AJR_end rfl rfl rfl ?_
        refine TE_go ?_
        refine TC_cond rfl (fun hb => ?_) (fun hb => ?_)
        · replace h1 := bif_t h1 hb
          refine TC_seq ?_
          refine TC_reg ?_
          refine TL_ev env 1 rfl ⟨tv, tv⟩ ?_
          refine TL_end ?_
          refine TE_go ?_
          refine TC_ret ?_
          refine tbr ?_
          refine tsr ?_
          refine tsr ?_
          refine tbr ?_
          refine tsr ?_
          refine tsr ?_
          obtain rfl := sinj h1
          obtain rfl := sinj h0
          exact TE_ret env rfl tv tv
        · replace h1 := bif_f h1 hb
          refine TC_skip ?_
          refine tbn ?_
          refine TE_go ?_
          refine TC_reg ?_
          refine TL_ev env 3 rfl ⟨tv, ⟨⟨tv, ⟨tv, tv⟩⟩, ⟨tv, tv⟩⟩⟩ ?_
          refine TL_end ?_
          refine tsn ?_
          exact TE_nextr [] n (Nat.lt_succ_self n) _ h1 ⟨rfl, rfl, rfl, tv⟩ tv rfl
      · replace h1 := bif_f h1 hb
        refine TC_exit ?_
        refine tsx ?_
        refine tsx ?_
        refine tbe ?_
        obtain rfl := sinj h1
        refine tsn ?_
        exact SP_ren [] () rfl tv tv rfl
    · rintro ⟨⟩ rfl
      refine TE_go ?_
      refine TC_seq ?_
      refine TC_reg ?_
      refine TL_ev env 1 rfl ⟨tv, tv⟩ ?_
      refine TL_end ?_
      refine TE_go ?_
      refine TC_ret ?_
      obtain rfl := sinj h0
      exact TE_ret env rfl tv tv
theorem psalteryref08_Same32.ok0 {K : Nat} {p0 : List (Int)} {p1 : List (Int)} {q0 : Bool} (h0 : psalteryref08_Same32 K p0 p1 = some q0) : Fn Try.prog 17 [.im (.slice (.int .i32)) p0, .im (.slice (.int .i32)) p1] [] (.bool q0) [] := psalteryref08_Same32.ok h0
theorem psalteryref08_Same32.fnb : fnb Try.prog 17 = true := fnb_of Try.func17 rfl
def psalterylaw09_alive.res  : Bool → MV
  | q0 => .bool q0
def psalterylaw09_alive.out  : Bool → List (Nat × Option MObj)
  | _ => []
theorem psalterylaw09_alive.ok {K : Nat}  {r : Bool} (h0 : psalterylaw09_alive K  = some r) : Fn Try.prog 26 [] [] (psalterylaw09_alive.res  r) (psalterylaw09_alive.out  r) := by
  refine Fn_of Try.func26 rfl (Nat.le_of_ble_eq_true rfl) fun Γ => ?_
  refine TC_seq ?_
  refine TC_reg ?_
  refine TL_ev env 1 rfl ⟨tv, tv⟩ ?_
  refine TL_end ?_
  refine TE_go ?_
  refine TC_seq ?_
  refine TC_reg ?_
  obtain ⟨⟨⟩, hr, h0⟩ := bnd h0
  refine TL_callB [(1000, 500090)] (bank_New.ok0 hr) bank_New.fnb rfl ⟨tv, tv⟩ rfl tv rfl ?_
  obtain ⟨z, hr, h0⟩ := bnd h0
  rcases z with ⟨r24, r25, r26⟩ | ⟨r27, r28, r29, r30, r31, r32⟩
  · exact (nsome h0).elim
  · refine TL_callB [(0, 500090), (1000, 500100), (1001, 500101)] (lapped_NewLapper.ok1 hr) lapped_NewLapper.fnb rfl ⟨tv, ⟨tv, ⟨tv, tv⟩⟩⟩ rfl ⟨.inr rfl, tv⟩ rfl ?_
    refine TL_ev env 5 rfl ⟨tv, ⟨tv, ⟨tv, ⟨tv, ⟨tv, tv⟩⟩⟩⟩⟩ ?_
    refine TL_end ?_
    refine TE_go ?_
    refine TC_seq ?_
    refine TC_seq ?_
    refine TC_reg ?_
    refine TL_ev env 3 rfl ⟨tv, ⟨⟨tv, ⟨tv, tv⟩⟩, ⟨tv, tv⟩⟩⟩ ?_
    refine TL_gt rfl rfl rfl rfl ?_
    refine TL_ev env 1 rfl ⟨tv, tv⟩ ?_
    refine TL_gt rfl rfl rfl rfl ?_
    refine TL_ev env 2 rfl ⟨⟨tv, ⟨tv, tv⟩⟩, ⟨⟨tv, ⟨tv, tv⟩⟩, tv⟩⟩ ?_
    refine TL_end ?_
    refine TE_go ?_
    refine TC_cond rfl (fun hb => ?_) (fun hb => ?_)
    · first | exact (ftf hb).elim | exact (tff hb).elim | exact absurd hb (by decide)
    · refine TC_skip ?_
      refine TE_go ?_
      refine TC_seq ?_
      refine TC_reg ?_
      refine TL_ev env 2 rfl ⟨tv, ⟨⟨tv, ⟨tv, ⟨(by decide), ⟨(by decide), (by decide)⟩⟩⟩⟩, tv⟩⟩ ?_
      refine TL_frz 1021 rfl ?_
      obtain ⟨z, hr, h0⟩ := bnd h0
      rcases z with ⟨⟩ | ⟨r33, r34⟩
      · refine TL_callB [(0, 500100), (1, 500101)] (lapped_Lapper_Feed.ok0 hr) lapped_Lapper_Feed.fnb rfl ⟨tv, ⟨tv, ⟨tv, tv⟩⟩⟩ rfl ⟨.inr rfl, .inr rfl, tv⟩ rfl ?_
        refine TL_ev env 5 rfl ⟨tv, ⟨tv, ⟨tv, ⟨tv, ⟨tv, tv⟩⟩⟩⟩⟩ ?_
        refine TL_end ?_
        refine TE_go ?_
        refine TC_seq ?_
        refine TC_reg ?_
        refine TL_ev env 2 rfl ⟨tv, ⟨⟨tv, ⟨tv, ⟨(by decide), ⟨(by decide), (by decide)⟩⟩⟩⟩, tv⟩⟩ ?_
        refine TL_frz 1027 rfl ?_
        obtain ⟨z, hr, h0⟩ := bnd h0
        rcases z with ⟨⟩ | ⟨r35, r36⟩
        · refine TL_callB [(0, 500100), (1, 500101)] (lapped_Lapper_Feed.ok0 hr) lapped_Lapper_Feed.fnb rfl ⟨tv, ⟨tv, ⟨tv, tv⟩⟩⟩ rfl ⟨.inr rfl, .inr rfl, tv⟩ rfl ?_
          refine TL_ev env 5 rfl ⟨tv, ⟨tv, ⟨tv, ⟨tv, ⟨tv, tv⟩⟩⟩⟩⟩ ?_
          refine TL_end ?_
          refine TE_go ?_
          refine TC_seq ?_
          refine TC_reg ?_
          obtain ⟨r37, hr, h0⟩ := bnd h0
          refine TL_callB [] (lapped_Lengths.ok0 hr) lapped_Lengths.fnb rfl ⟨tv, tv⟩ rfl tv rfl ?_
          refine TL_ev env 1 rfl ⟨tv, tv⟩ ?_
          refine TL_end ?_
          refine TE_go ?_
          refine TC_seq ?_
          refine TC_reg ?_
          refine TL_ev env 3 rfl ⟨tv, ⟨⟨tv, ⟨tv, tv⟩⟩, ⟨tv, tv⟩⟩⟩ ?_
          refine TL_gf (.bool false) rfl rfl rfl rfl rfl (by decide) ?_
          refine TL_gf (.bool false) rfl rfl rfl rfl rfl (by decide) ?_
          refine TL_gf (.bool false) rfl rfl rfl rfl rfl (by decide) ?_
          refine TL_ev env 2 rfl ⟨⟨tv, ⟨fun e => e, tv⟩⟩, ⟨tv, tv⟩⟩ ?_
          refine TL_gf (.bool false) rfl rfl rfl rfl rfl (by decide) ?_
          refine TL_gf (.bool false) rfl rfl rfl rfl rfl (by decide) ?_
          refine TL_ev env 2 rfl ⟨⟨tv, ⟨fun e => e, tv⟩⟩, ⟨tv, tv⟩⟩ ?_
          refine TL_gf (.bool false) rfl rfl rfl rfl rfl (by decide) ?_
          refine TL_gf (.bool false) rfl rfl rfl rfl rfl (by decide) ?_
          refine TL_gf (.bool false) rfl rfl rfl rfl rfl (by decide) ?_
          refine TL_ev env 2 rfl ⟨⟨tv, ⟨fun e => e, tv⟩⟩, ⟨tv, tv⟩⟩ ?_
          refine TL_gf (.bool false) rfl rfl rfl rfl rfl (by decide) ?_
          refine TL_gf (.bool false) rfl rfl rfl rfl rfl (by decide) ?_
          refine TL_gf (.bool false) rfl rfl rfl rfl rfl (by decide) ?_
          refine TL_gf (.bool false) rfl rfl rfl rfl rfl (by decide) ?_
          refine TL_ev env 2 rfl ⟨⟨tv, ⟨fun e => e, tv⟩⟩, ⟨tv, tv⟩⟩ ?_
          refine TL_gf (.bool false) rfl rfl rfl rfl rfl (by decide) ?_
          refine TL_gf (.bool false) rfl rfl rfl rfl rfl (by decide) ?_
          refine TL_gf (.bool false) rfl rfl rfl rfl rfl (by decide) ?_
          refine TL_gf (.bool false) rfl rfl rfl rfl rfl (by decide) ?_
          refine TL_ev env 2 rfl ⟨⟨tv, ⟨fun e => e, tv⟩⟩, ⟨tv, tv⟩⟩ ?_
          refine TL_end ?_
          refine TE_go ?_
          refine TC_ret ?_
          obtain rfl := sinj h0
          exact TE_ret env rfl tv tv
        · refine TL_callB [(0, 500100), (1, 500101)] (lapped_Lapper_Feed.ok1 hr) lapped_Lapper_Feed.fnb rfl ⟨tv, ⟨tv, ⟨tv, tv⟩⟩⟩ rfl ⟨.inr rfl, .inr rfl, tv⟩ rfl ?_
          refine TL_ev env 5 rfl ⟨tv, ⟨tv, ⟨tv, ⟨tv, ⟨tv, tv⟩⟩⟩⟩⟩ ?_
          refine TL_end ?_
          refine TE_go ?_
          refine TC_seq ?_
          refine TC_reg ?_
          obtain ⟨r38, hr, h0⟩ := bnd h0
          refine TL_callB [] (lapped_Lengths.ok0 hr) lapped_Lengths.fnb rfl ⟨tv, tv⟩ rfl tv rfl ?_
          refine TL_ev env 1 rfl ⟨tv, tv⟩ ?_
          refine TL_end ?_
          refine TE_go ?_
          refine TC_seq ?_
          refine TC_reg ?_
          refine TL_ev env 3 rfl ⟨tv, ⟨⟨tv, ⟨tv, tv⟩⟩, ⟨tv, tv⟩⟩⟩ ?_
          refine TL_gf (.bool false) rfl rfl rfl rfl rfl (by decide) ?_
          refine TL_gf (.bool false) rfl rfl rfl rfl rfl (by decide) ?_
          refine TL_gf (.bool false) rfl rfl rfl rfl rfl (by decide) ?_
          refine TL_ev env 2 rfl ⟨⟨tv, ⟨fun e => e, tv⟩⟩, ⟨tv, tv⟩⟩ ?_
          refine TL_gf (.bool false) rfl rfl rfl rfl rfl (by decide) ?_
          refine TL_gf (.bool false) rfl rfl rfl rfl rfl (by decide) ?_
          refine TL_ev env 2 rfl ⟨⟨tv, ⟨fun e => e, tv⟩⟩, ⟨tv, tv⟩⟩ ?_
          refine TL_gf (.bool false) rfl rfl rfl rfl rfl (by decide) ?_
          refine TL_gf (.bool false) rfl rfl rfl rfl rfl (by decide) ?_
          refine TL_gf (.bool false) rfl rfl rfl rfl rfl (by decide) ?_
          refine TL_ev env 2 rfl ⟨⟨tv, ⟨fun e => e, tv⟩⟩, ⟨tv, tv⟩⟩ ?_
          refine TL_gf (.bool false) rfl rfl rfl rfl rfl (by decide) ?_
          refine TL_gf (.bool false) rfl rfl rfl rfl rfl (by decide) ?_
          refine TL_gf (.bool false) rfl rfl rfl rfl rfl (by decide) ?_
          refine TL_gf (.bool false) rfl rfl rfl rfl rfl (by decide) ?_
          refine TL_ev env 2 rfl ⟨⟨tv, ⟨fun e => e, tv⟩⟩, ⟨tv, tv⟩⟩ ?_
          refine TL_gf (.bool false) rfl rfl rfl rfl rfl (by decide) ?_
          refine TL_gf (.bool false) rfl rfl rfl rfl rfl (by decide) ?_
          refine TL_gf (.bool false) rfl rfl rfl rfl rfl (by decide) ?_
          refine TL_gf (.bool false) rfl rfl rfl rfl rfl (by decide) ?_
          refine TL_ev env 2 rfl ⟨⟨tv, ⟨fun e => e, tv⟩⟩, ⟨tv, tv⟩⟩ ?_
          refine TL_end ?_
          refine TE_go ?_
          refine TC_ret ?_
          obtain rfl := sinj h0
          exact TE_ret env rfl tv tv
      · refine TL_callB [(0, 500100), (1, 500101)] (lapped_Lapper_Feed.ok1 hr) lapped_Lapper_Feed.fnb rfl ⟨tv, ⟨tv, ⟨tv, tv⟩⟩⟩ rfl ⟨.inr rfl, .inr rfl, tv⟩ rfl ?_
        refine TL_ev env 5 rfl ⟨tv, ⟨tv, ⟨tv, ⟨tv, ⟨tv, tv⟩⟩⟩⟩⟩ ?_
        refine TL_end ?_
        refine TE_go ?_
        refine TC_seq ?_
        refine TC_reg ?_
        refine TL_ev env 2 rfl ⟨tv, ⟨⟨tv, ⟨tv, ⟨(by decide), ⟨(by decide), (by decide)⟩⟩⟩⟩, tv⟩⟩ ?_
        refine TL_frz 1027 rfl ?_
        obtain ⟨z, hr, h0⟩ := bnd h0
        rcases z with ⟨⟩ | ⟨r39, r40⟩
        · refine TL_callB [(0, 500100), (1, 500101)] (lapped_Lapper_Feed.ok0 hr) lapped_Lapper_Feed.fnb rfl ⟨tv, ⟨tv, ⟨tv, tv⟩⟩⟩ rfl ⟨.inr rfl, .inr rfl, tv⟩ rfl ?_
          refine TL_ev env 5 rfl ⟨tv, ⟨tv, ⟨tv, ⟨tv, ⟨tv, tv⟩⟩⟩⟩⟩ ?_
          refine TL_end ?_
          refine TE_go ?_
          refine TC_seq ?_
          refine TC_reg ?_
          obtain ⟨r41, hr, h0⟩ := bnd h0
          refine TL_callB [] (lapped_Lengths.ok0 hr) lapped_Lengths.fnb rfl ⟨tv, tv⟩ rfl tv rfl ?_
          refine TL_ev env 1 rfl ⟨tv, tv⟩ ?_
          refine TL_end ?_
          refine TE_go ?_
          refine TC_seq ?_
          refine TC_reg ?_
          refine TL_ev env 3 rfl ⟨tv, ⟨⟨tv, ⟨tv, tv⟩⟩, ⟨tv, tv⟩⟩⟩ ?_
          refine TL_gt rfl rfl rfl rfl ?_
          refine TL_ev env 1 rfl ⟨tv, tv⟩ ?_
          refine TL_gt rfl rfl rfl rfl ?_
          refine TL_ev env 1 rfl ⟨⟨tv, ⟨tv, ⟨(by decide), ⟨(by decide), (by decide)⟩⟩⟩⟩, tv⟩ ?_
          refine TL_gt rfl rfl rfl rfl ?_
          refine TL_frz 1036 rfl ?_
          obtain ⟨r43, hr, h0⟩ := bnd h0
          refine TL_callB [] (psalteryref08_Same32.ok0 hr) psalteryref08_Same32.fnb rfl ⟨tv, ⟨tv, ⟨tv, tv⟩⟩⟩ rfl tv rfl ?_
          obtain ⟨g, h0⟩ := gd_t h0
          refine TL_ev env 23 rfl ⟨⟨tv, ⟨tv, tv⟩⟩, ⟨tv, ⟨fun eg => tv, ⟨fun eg => ⟨fun e => e, ⟨tv, tv⟩⟩, ⟨⟨tv, ⟨fun e => e, tv⟩⟩, ⟨tv, ⟨fun eg => tv, ⟨fun eg => ⟨fun e => e, tv⟩, ⟨fun eg => ⟨fun e => e, ⟨tv, tv⟩⟩, ⟨⟨tv, ⟨fun e => e, tv⟩⟩, ⟨tv, ⟨fun eg => tv, ⟨fun eg => ⟨fun e => e, ⟨tv, ⟨(by decide), (g.1 eg)⟩⟩⟩, ⟨fun eg => ⟨fun e => e, tv⟩, ⟨fun eg => ⟨fun e => e, ⟨tv, tv⟩⟩, ⟨⟨tv, ⟨fun e => e, tv⟩⟩, ⟨tv, ⟨fun eg => tv, ⟨fun eg => ⟨fun e => e, ⟨tv, ⟨(by decide), (g.2 eg)⟩⟩⟩, ⟨fun eg => ⟨fun e => e, tv⟩, ⟨fun eg => ⟨fun e => e, ⟨tv, tv⟩⟩, ⟨⟨tv, ⟨fun e => e, tv⟩⟩, ⟨tv, tv⟩⟩⟩⟩⟩⟩⟩⟩⟩⟩⟩⟩⟩⟩⟩⟩⟩⟩⟩⟩⟩⟩⟩ ?_
          refine TL_end ?_
          refine TE_go ?_
          refine TC_ret ?_
          obtain rfl := sinj h0
          exact TE_ret env rfl tv tv
        · refine TL_callB [(0, 500100), (1, 500101)] (lapped_Lapper_Feed.ok1 hr) lapped_Lapper_Feed.fnb rfl ⟨tv, ⟨tv, ⟨tv, tv⟩⟩⟩ rfl ⟨.inr rfl, .inr rfl, tv⟩ rfl ?_
          refine TL_ev env 5 rfl ⟨tv, ⟨tv, ⟨tv, ⟨tv, ⟨tv, tv⟩⟩⟩⟩⟩ ?_
          refine TL_end ?_
          refine TE_go ?_
          refine TC_seq ?_
          refine TC_reg ?_
          obtain ⟨r51, hr, h0⟩ := bnd h0
          refine TL_callB [] (lapped_Lengths.ok0 hr) lapped_Lengths.fnb rfl ⟨tv, tv⟩ rfl tv rfl ?_
          refine TL_ev env 1 rfl ⟨tv, tv⟩ ?_
          refine TL_end ?_
          refine TE_go ?_
          refine TC_seq ?_
          refine TC_reg ?_
          refine TL_ev env 3 rfl ⟨tv, ⟨⟨tv, ⟨tv, tv⟩⟩, ⟨tv, tv⟩⟩⟩ ?_
          refine TL_gt rfl rfl rfl rfl ?_
          refine TL_ev env 1 rfl ⟨tv, tv⟩ ?_
          refine TL_gt rfl rfl rfl rfl ?_
          refine TL_ev env 1 rfl ⟨⟨tv, ⟨tv, ⟨(by decide), ⟨(by decide), (by decide)⟩⟩⟩⟩, tv⟩ ?_
          refine TL_gt rfl rfl rfl rfl ?_
          refine TL_frz 1036 rfl ?_
          obtain ⟨r53, hr, h0⟩ := bnd h0
          refine TL_callB [] (psalteryref08_Same32.ok0 hr) psalteryref08_Same32.fnb rfl ⟨tv, ⟨tv, ⟨tv, tv⟩⟩⟩ rfl tv rfl ?_
          obtain ⟨g, h0⟩ := gd_t h0
          refine TL_ev env 23 rfl ⟨⟨tv, ⟨tv, tv⟩⟩, ⟨tv, ⟨fun eg => tv, ⟨fun eg => ⟨fun e => e, ⟨tv, tv⟩⟩, ⟨⟨tv, ⟨fun e => e, tv⟩⟩, ⟨tv, ⟨fun eg => tv, ⟨fun eg => ⟨fun e => e, tv⟩, ⟨fun eg => ⟨fun e => e, ⟨tv, tv⟩⟩, ⟨⟨tv, ⟨fun e => e, tv⟩⟩, ⟨tv, ⟨fun eg => tv, ⟨fun eg => ⟨fun e => e, ⟨tv, ⟨(by decide), (g.1 eg)⟩⟩⟩, ⟨fun eg => ⟨fun e => e, tv⟩, ⟨fun eg => ⟨fun e => e, ⟨tv, tv⟩⟩, ⟨⟨tv, ⟨fun e => e, tv⟩⟩, ⟨tv, ⟨fun eg => tv, ⟨fun eg => ⟨fun e => e, ⟨tv, ⟨(by decide), (g.2 eg)⟩⟩⟩, ⟨fun eg => ⟨fun e => e, tv⟩, ⟨fun eg => ⟨fun e => e, ⟨tv, tv⟩⟩, ⟨⟨tv, ⟨fun e => e, tv⟩⟩, ⟨tv, tv⟩⟩⟩⟩⟩⟩⟩⟩⟩⟩⟩⟩⟩⟩⟩⟩⟩⟩⟩⟩⟩⟩⟩ ?_
          refine TL_end ?_
          refine TE_go ?_
          refine TC_ret ?_
          obtain rfl := sinj h0
          exact TE_ret env rfl tv tv
theorem psalterylaw09_alive.ok0 {K : Nat}  {q0 : Bool} (h0 : psalterylaw09_alive K  = some q0) : Fn Try.prog 26 [] [] (.bool q0) [] := psalterylaw09_alive.ok h0
theorem psalterylaw09_alive.fnb : fnb Try.prog 26 = true := fnb_of Try.func26 rfl
def psalterylaw09_length.res (_p0 : Int) : Int → MV
  | q0 => .int .i64 q0
def psalterylaw09_length.out (_p0 : Int) : Int → List (Nat × Option MObj)
  | _ => []
theorem psalterylaw09_length.ok {K : Nat} {p0 : Int} {r : Int} (h0 : psalterylaw09_length K p0 = some r) : Fn Try.prog 27 [.int .u8 p0] [] (psalterylaw09_length.res p0 r) (psalterylaw09_length.out p0 r) := by
  refine Fn_of Try.func27 rfl (Nat.le_of_ble_eq_true rfl) fun Γ => ?_
  refine TC_seq ?_
  refine TC_reg ?_
  refine TL_ev env 1 rfl ⟨tv, tv⟩ ?_
  refine TL_end ?_
  refine TE_go ?_
  refine TC_seq ?_
  refine TC_reg ?_
  obtain ⟨r2, hr, h0⟩ := bnd h0
  refine TL_callB [] (lapped_Lengths.ok0 hr) lapped_Lengths.fnb rfl ⟨tv, tv⟩ rfl tv rfl ?_
  obtain ⟨g, h0⟩ := gd_t h0
  refine TL_ev env 6 rfl ⟨tv, ⟨tv, ⟨⟨tv, ⟨tv, (by decide)⟩⟩, ⟨⟨tv, ⟨tv, ⟨g.1, g.2⟩⟩⟩, ⟨⟨tv, tv⟩, ⟨tv, tv⟩⟩⟩⟩⟩⟩ ?_
  refine TL_end ?_
  refine TE_go ?_
  refine TC_ret ?_
  obtain rfl := sinj h0
  exact TE_ret env rfl tv tv
theorem psalterylaw09_length.ok0 {K : Nat} {p0 : Int} {q0 : Int} (h0 : psalterylaw09_length K p0 = some q0) : Fn Try.prog 27 [.int .u8 p0] [] (.int .i64 q0) [] := psalterylaw09_length.ok h0
theorem psalterylaw09_length.fnb : fnb Try.prog 27 = true := fnb_of Try.func27 rfl
def lapped_NewUnlapper.res (_p0 : Int) (_p1 : List (Option (List (Int)))) (_p2 : Int) (_p3 : Int) : ((List (Option (List (Int)))) × Int × Int) ⊕ ((List (Option (List (Int)))) × Int × Int × (List (Int)) × (List (Int)) × (List (Int))) → MV
  | .inl (_, _, _) => .tup [.nilp, .int .i64 1]
  | .inr (_, _, _, _, _, _) => .tup [.p 1000 0, .int .i64 0]
def lapped_NewUnlapper.out (p0 : Int) (_p1 : List (Option (List (Int)))) (_p2 : Int) (_p3 : Int) : ((List (Option (List (Int)))) × Int × Int) ⊕ ((List (Option (List (Int)))) × Int × Int × (List (Int)) × (List (Int)) × (List (Int))) → List (Nat × Option MObj)
  | .inl (q0, q1, q2) => [(0, some (.ab (bkA q0 q1 q2)))]
  | .inr (q0, q1, q2, q3, q4, q5) => [(0, some (.ab (bkA q0 q1 q2))), (1000, some (.cells [.int .i64 p0, .im (.slice (.int .i16)) q3, .im (.slice (.int .i16)) q4, .sl 1001])), (1001, some (.rows (.int .i32) q5))]
theorem lapped_NewUnlapper.ok {K : Nat} {p0 : Int} {p1 : List (Option (List (Int)))} {p2 : Int} {p3 : Int} {r : ((List (Option (List (Int)))) × Int × Int) ⊕ ((List (Option (List (Int)))) × Int × Int × (List (Int)) × (List (Int)) × (List (Int)))} (h0 : lapped_NewUnlapper K p0 p1 p2 p3 = some r) : Fn Try.prog 33 [.p 0 0, .int .i64 p0] [(0, some (.ab (bkA p1 p2 p3)))] (lapped_NewUnlapper.res p0 p1 p2 p3 r) (lapped_NewUnlapper.out p0 p1 p2 p3 r) := by
  refine Fn_of Try.func33 rfl (Nat.le_of_ble_eq_true rfl) fun Γ => ?_
  refine TC_seq ?_
  refine TC_reg ?_
  refine TL_ev env 2 rfl ⟨tv, ⟨tv, tv⟩⟩ ?_
  refine TL_end ?_
  refine TE_go ?_
  refine TC_seq ?_
  refine TC_reg ?_
  refine TL_ev env 2 rfl ⟨tv, ⟨tv, tv⟩⟩ ?_
  obtain ⟨z, hr, h0⟩ := bnd h0
  rcases z with ⟨⟩ | ⟨r10, r11, r12, r13⟩ | ⟨r14, r15, r16, r17, r18⟩
  · refine TL_callB [(0, 0)] (lapped_of.ok0 hr) lapped_of.fnb rfl ⟨tv, ⟨tv, ⟨tv, tv⟩⟩⟩ rfl ⟨.inr rfl, tv⟩ rfl ?_
    refine TL_ev env 6 rfl ⟨tv, ⟨tv, ⟨tv, ⟨tv, ⟨⟨tv, tv⟩, ⟨tv, tv⟩⟩⟩⟩⟩⟩ ?_
    refine TL_end ?_
    refine TE_go ?_
    refine TC_seq ?_
    refine TC_seq ?_
    refine TC_reg ?_
    refine TL_ev env 2 rfl ⟨tv, ⟨⟨tv, ⟨tv, tv⟩⟩, tv⟩⟩ ?_
    refine TL_end ?_
    refine TE_go ?_
    refine TC_cond rfl (fun hb => ?_) (fun hb => ?_)
    · refine TC_seq ?_
      refine TC_reg ?_
      refine TL_ev env 3 rfl ⟨tv, ⟨tv, ⟨tv, tv⟩⟩⟩ ?_
      refine TL_end ?_
      refine TE_go ?_
      refine TC_ret ?_
      refine tsr ?_
      obtain rfl := sinj h0
      exact TE_ret env rfl tv ⟨.inr rfl, tv⟩
    · first | exact (ftf hb).elim | exact (tff hb).elim | exact absurd hb (by decide)
  · refine TL_callB [(0, 0)] (lapped_of.ok1 hr) lapped_of.fnb rfl ⟨tv, ⟨tv, ⟨tv, tv⟩⟩⟩ rfl ⟨.inr rfl, tv⟩ rfl ?_
    refine TL_ev env 6 rfl ⟨tv, ⟨tv, ⟨tv, ⟨tv, ⟨⟨tv, tv⟩, ⟨tv, tv⟩⟩⟩⟩⟩⟩ ?_
    refine TL_end ?_
    refine TE_go ?_
    refine TC_seq ?_
    refine TC_seq ?_
    refine TC_reg ?_
    refine TL_ev env 2 rfl ⟨tv, ⟨⟨tv, ⟨tv, tv⟩⟩, tv⟩⟩ ?_
    refine TL_end ?_
    refine TE_go ?_
    refine TC_cond rfl (fun hb => ?_) (fun hb => ?_)
    · refine TC_seq ?_
      refine TC_reg ?_
      refine TL_ev env 3 rfl ⟨tv, ⟨tv, ⟨tv, tv⟩⟩⟩ ?_
      refine TL_end ?_
      refine TE_go ?_
      refine TC_ret ?_
      refine tsr ?_
      obtain rfl := sinj h0
      exact TE_ret env rfl tv ⟨.inr rfl, tv⟩
    · first | exact (ftf hb).elim | exact (tff hb).elim | exact absurd hb (by decide)
  · refine TL_callB [(0, 0)] (lapped_of.ok2 hr) lapped_of.fnb rfl ⟨tv, ⟨tv, ⟨tv, tv⟩⟩⟩ rfl ⟨.inr rfl, tv⟩ rfl ?_
    refine TL_ev env 6 rfl ⟨tv, ⟨tv, ⟨tv, ⟨tv, ⟨⟨tv, tv⟩, ⟨tv, tv⟩⟩⟩⟩⟩⟩ ?_
    refine TL_end ?_
    refine TE_go ?_
    refine TC_seq ?_
    refine TC_seq ?_
    refine TC_reg ?_
    refine TL_ev env 2 rfl ⟨tv, ⟨⟨tv, ⟨tv, tv⟩⟩, tv⟩⟩ ?_
    refine TL_end ?_
    refine TE_go ?_
    refine TC_cond rfl (fun hb => ?_) (fun hb => ?_)
    · first | exact (ftf hb).elim | exact (tff hb).elim | exact absurd hb (by decide)
    · refine TC_skip ?_
      refine TE_go ?_
      refine TC_seq ?_
      refine TC_renw (A' := [(1, .int .i64 _), (4, .nilp), (5, .int .i64 0), (6, .p 1006 0)]) (L' := [(0, some (.ab (bkA _ _ _))), (1006, some (.cells [.int .i64 _, .im (.slice (.int .i16)) _, .im (.slice (.int .i16)) _]))]) [] ⟨rfl, rfl, rfl, rfl, tv⟩ ⟨rfl, rfl, tv⟩ rfl ?_
      refine TC_drawR ⟨_, fun i => ([[], [], [1], [2, 1, 0], [3, 2, 1, 0], [4, 3, 2, 1, 0], [5, 4, 3, 2, 1, 0]] : List (List Nat)).getD i [], fun i => ([[], [], [1019], [], [1021], [], []] : List (List Nat)).getD i [], fun i => ([[], [], [1019], [], [1021], [], []] : List (List Nat)).getD i []⟩ (fun i => ([[1019], [], [], [], [], [], []] : List (List Nat)).getD i []) (by kernel_rfl) (by kernel_rfl) ?_
      refine AJR_ev env 1 rfl (Nat.le_of_ble_eq_true rfl) rfl ⟨tv, tv⟩ ?_
      refine AJR_ev env 2 rfl (Nat.le_of_ble_eq_true rfl) rfl tv ?_
      obtain ⟨g, h0⟩ := gd_t h0
      refine AJR_ev env 3 rfl (Nat.le_of_ble_eq_true rfl) rfl ⟨tv, ⟨tv, ⟨g.1, ⟨g.2.1, g.2.2⟩⟩⟩⟩ ?_
      refine AJR_ev env 4 rfl (Nat.le_of_ble_eq_true rfl) rfl ⟨tv, ⟨tv, tv⟩⟩ ?_
      refine AJR_ev env 5 rfl (Nat.le_of_ble_eq_true rfl) rfl tv ?_
      refine AJR_ev env 6 rfl (Nat.le_of_ble_eq_true rfl) rfl tv ?_
      refine AJR_ev env 7 rfl (Nat.le_of_ble_eq_true rfl) rfl tv ?_
      refine AJR_end rfl rfl rfl ?_
      refine TE_go ?_
      refine TC_ret ?_
      obtain rfl := sinj h0
      refine TE_renw (A' := [(4, .p 1000 0), (5, .int .i64 0)]) (L' := [(0, some (.ab (bkA _ _ _))), (1000, some (.cells [.int .i64 _, .im (.slice (.int .i16)) _, .im (.slice (.int .i16)) _, .sl 1001])), (1001, some (.rows (.int .i32) _))]) [(1000, 1021), (1001, 1019)] ⟨rfl, rfl, tv⟩ ⟨rfl, rfl, rfl, tv⟩ rfl ?_
      exact TE_ret env rfl tv ⟨.inr rfl, .inr rfl, .inr rfl, tv⟩
theorem lapped_NewUnlapper.ok0 {K : Nat} {p0 : Int} {p1 : List (Option (List (Int)))} {p2 : Int} {p3 : Int} {q0 : List (Option (List (Int)))} {q1 : Int} {q2 : Int} (h0 : lapped_NewUnlapper K p0 p1 p2 p3 = some (.inl (q0, q1, q2))) : Fn Try.prog 33 [.p 0 0, .int .i64 p0] [(0, some (.ab (bkA p1 p2 p3)))] (.tup [.nilp, .int .i64 1]) [(0, some (.ab (bkA q0 q1 q2)))] := lapped_NewUnlapper.ok h0
theorem lapped_NewUnlapper.ok1 {K : Nat} {p0 : Int} {p1 : List (Option (List (Int)))} {p2 : Int} {p3 : Int} {q0 : List (Option (List (Int)))} {q1 : Int} {q2 : Int} {q3 : List (Int)} {q4 : List (Int)} {q5 : List (Int)} (h0 : lapped_NewUnlapper K p0 p1 p2 p3 = some (.inr (q0, q1, q2, q3, q4, q5))) : Fn Try.prog 33 [.p 0 0, .int .i64 p0] [(0, some (.ab (bkA p1 p2 p3)))] (.tup [.p 1000 0, .int .i64 0]) [(0, some (.ab (bkA q0 q1 q2))), (1000, some (.cells [.int .i64 p0, .im (.slice (.int .i16)) q3, .im (.slice (.int .i16)) q4, .sl 1001])), (1001, some (.rows (.int .i32) q5))] := lapped_NewUnlapper.ok h0
theorem lapped_NewUnlapper.fnb : fnb Try.prog 33 = true := fnb_of Try.func33 rfl
def psalterylaw09_padded.res (_p0 : List (Int)) (_p1 : Int) (_p2 : Int) : (List (Int)) → MV
  | q0 => .im (.slice (.int .i16)) q0
def psalterylaw09_padded.out (_p0 : List (Int)) (_p1 : Int) (_p2 : Int) : (List (Int)) → List (Nat × Option MObj)
  | _ => []
theorem psalterylaw09_padded.ok {K : Nat} {p0 : List (Int)} {p1 : Int} {p2 : Int} {r : (List (Int))} (h0 : psalterylaw09_padded K p0 p1 p2 = some r) : Fn Try.prog 29 [.im (.slice (.int .i16)) p0, .int .i64 p1, .int .i64 p2] [] (psalterylaw09_padded.res p0 p1 p2 r) (psalterylaw09_padded.out p0 p1 p2 r) := by
  refine Fn_of Try.func29 rfl (Nat.le_of_ble_eq_true rfl) fun Γ => ?_
  refine TC_seq ?_
  refine TC_reg ?_
  refine TL_ev env 1 rfl ⟨tv, tv⟩ ?_
  refine TL_end ?_
  refine TE_go ?_
  refine TC_seq ?_
  refine TC_reg ?_
  obtain ⟨g, h0⟩ := gd_t h0
  refine TL_ev env 3 rfl ⟨tv, ⟨⟨tv, ⟨tv, ⟨g.1, ⟨g.2.1, g.2.2⟩⟩⟩⟩, ⟨tv, tv⟩⟩⟩ ?_
  refine TL_end ?_
  refine TE_go ?_
  refine TC_seq ?_
  refine TC_seq ?_
  refine TC_reg ?_
  refine TL_ev env 1 rfl ⟨tv, tv⟩ ?_
  refine TL_end ?_
  refine TE_go ?_
  obtain ⟨z1, h1, h0⟩ := bnd h0
  refine TC_cut (α := (List (Int))) (fun s => z1 = s) (fun s => [(7, .sl 10800)]) (fun s => [(10800, some (.rows (.int .i16) s))]) ?_ ?_
  · refine TC_blk ?_
    refine TC_loop (α := Int × (List (Int))) (fun n s => psalterylaw09_padded.l0 K p0 p1 p2 n s.1 s.2 = some z1) (fun s => [(0, .im (.slice (.int .i16)) p0), (1, .int .i64 p1), (2, .int .i64 p2), (7, .sl 11000), (8, .int .i64 s.1)]) (fun s => [(11000, some (.rows (.int .i16) s.2))]) K ?_ ?_
    · exact SP_ren [(11000, 1010)] (_, _) h1 ⟨rfl, rfl, rfl, rfl, rfl, tv⟩ ⟨rfl, tv⟩ rfl
    rintro n ⟨x12, x13⟩ h1
    rcases n with _ | n
    · exact (nsome h1).elim
    replace h1 : psalterylaw09_padded.r0 K p0 p1 p2 (psalterylaw09_padded.l0 K p0 p1 p2 n) x12 x13 = some z1 := h1
    refine TC_seq ?_
    refine TC_seq ?_
    refine TC_reg ?_
    refine TL_ev env 11 rfl ⟨tv, ⟨tv, ⟨⟨tv, ⟨tv, tv⟩⟩, ⟨tv, ⟨fun eg => tv, ⟨fun eg => tv, ⟨fun eg => ⟨fun e => e, ⟨fun e => e, tv⟩⟩, ⟨fun eg => tv, ⟨fun eg => ⟨fun e => e, tv⟩, ⟨fun eg => ⟨fun e => e, ⟨fun e => e, tv⟩⟩, ⟨⟨tv, ⟨fun e => e, tv⟩⟩, tv⟩⟩⟩⟩⟩⟩⟩⟩⟩⟩⟩ ?_
    refine TL_end ?_
    refine TE_go ?_
    refine TC_cond rfl (fun hb => ?_) (fun hb => ?_)
    · replace h1 := bif_t h1 hb
      refine TC_skip ?_
      refine TE_go ?_
      refine TC_seq ?_
      refine TC_blk ?_
      refine TC_reg ?_
      obtain ⟨g, h1⟩ := gd_t h1
      refine TL_ev env 10 rfl ⟨tv, ⟨tv, ⟨tv, ⟨tv, ⟨tv, ⟨⟨tv, ⟨tv, tv⟩⟩, ⟨⟨tv, ⟨tv, ⟨g.1, g.2.1⟩⟩⟩, ⟨⟨tv, tv⟩, ⟨⟨tv, ⟨tv, ⟨g.2.2.1, g.2.2.2.1⟩⟩⟩, ⟨⟨tv, ⟨tv, g.2.2.2.2⟩⟩, tv⟩⟩⟩⟩⟩⟩⟩⟩⟩⟩ ?_
      refine TL_end ?_
      refine tbn ?_
      refine TE_go ?_
      refine TC_reg ?_
      refine TL_ev env 3 rfl ⟨tv, ⟨⟨tv, ⟨tv, tv⟩⟩, ⟨tv, tv⟩⟩⟩ ?_
      refine TL_end ?_
      refine tsn ?_
      exact TE_nextr [(11000, 11000)] n (Nat.lt_succ_self n) (_, _) h1 ⟨rfl, rfl, rfl, rfl, rfl, tv⟩ ⟨rfl, tv⟩ rfl
    · replace h1 := bif_f h1 hb
      refine TC_exit ?_
      refine tsx ?_
      refine tsx ?_
      refine tbe ?_
      obtain rfl := sinj h1
      refine tsn ?_
      exact SP_ren [(10800, 11000)] _ rfl ⟨rfl, tv⟩ ⟨rfl, tv⟩ rfl
  · rintro x11 hz
    obtain rfl := hz.symm
    refine TE_go ?_
    refine TC_seq ?_
    refine TC_reg ?_
    refine TL_ev env 2 rfl ⟨tv, ⟨tv, tv⟩⟩ ?_
    refine TL_end ?_
    refine TE_go ?_
    refine TC_ret ?_
    refine TE_frz 10800 rfl ?_
    obtain rfl := sinj h0
    exact TE_ret env rfl tv tv
theorem psalterylaw09_padded.ok0 {K : Nat} {p0 : List (Int)} {p1 : Int} {p2 : Int} {q0 : List (Int)} (h0 : psalterylaw09_padded K p0 p1 p2 = some q0) : Fn Try.prog 29 [.im (.slice (.int .i16)) p0, .int .i64 p1, .int .i64 p2] [] (.im (.slice (.int .i16)) q0) [] := psalterylaw09_padded.ok h0
theorem psalterylaw09_padded.fnb : fnb Try.prog 29 = true := fnb_of Try.func29 rfl
def lapped_down.res (_p0 : Int) (_p1 : Int) : Int → MV
  | q0 => .int .i64 q0
def lapped_down.out (_p0 : Int) (_p1 : Int) : Int → List (Nat × Option MObj)
  | _ => []
theorem lapped_down.ok {K : Nat} {p0 : Int} {p1 : Int} {r : Int} (h0 : lapped_down K p0 p1 = some r) : Fn Try.prog 82 [.int .i64 p0, .int .i64 p1] [] (lapped_down.res p0 p1 r) (lapped_down.out p0 p1 r) := by
  refine Fn_of Try.func82 rfl (Nat.le_of_ble_eq_true rfl) fun Γ => ?_
  refine TC_seq ?_
  refine TC_reg ?_
  refine TL_ev env 1 rfl ⟨tv, tv⟩ ?_
  refine TL_end ?_
  refine TE_go ?_
  refine TC_seq ?_
  refine TC_reg ?_
  obtain ⟨g, h0⟩ := gd_t h0
  refine TL_ev env 4 rfl ⟨tv, ⟨tv, ⟨⟨tv, ⟨tv, g⟩⟩, ⟨tv, tv⟩⟩⟩⟩ ?_
  refine TL_end ?_
  refine TE_go ?_
  refine TC_seq ?_
  refine TC_seq ?_
  refine TC_reg ?_
  obtain ⟨g, h0⟩ := gd_t h0
  refine TL_ev env 4 rfl ⟨tv, ⟨tv, ⟨⟨tv, ⟨tv, g⟩⟩, ⟨⟨tv, ⟨tv, tv⟩⟩, tv⟩⟩⟩⟩ ?_
  refine TL_end ?_
  refine TE_go ?_
  obtain ⟨z1, h1, h0⟩ := bnd h0
  refine TC_cut (α := Int) (fun s => z1 = s) (fun s => [(5, .int .i64 s)]) (fun s => []) ?_ ?_
  · refine TC_cond rfl (fun hb => ?_) (fun hb => ?_)
    · replace h1 := bif_t h1 hb
      refine TC_reg ?_
      refine TL_ev env 3 rfl ⟨tv, ⟨⟨tv, ⟨tv, tv⟩⟩, ⟨tv, tv⟩⟩⟩ ?_
      refine TL_end ?_
      obtain rfl := sinj h1
      refine tsn ?_
      exact SP_ren [] _ rfl ⟨rfl, tv⟩ tv rfl
    · replace h1 := bif_f h1 hb
      refine TC_skip ?_
      obtain rfl := sinj h1
      refine tsn ?_
      exact SP_ren [] _ rfl ⟨rfl, tv⟩ tv rfl
  · rintro x5 hz
    obtain rfl := hz.symm
    refine TE_go ?_
    refine TC_seq ?_
    refine TC_reg ?_
    refine TL_ev env 2 rfl ⟨tv, ⟨tv, tv⟩⟩ ?_
    refine TL_end ?_
    refine TE_go ?_
    refine TC_ret ?_
    obtain rfl := sinj h0
    exact TE_ret env rfl tv tv
theorem lapped_down.ok0 {K : Nat} {p0 : Int} {p1 : Int} {q0 : Int} (h0 : lapped_down K p0 p1 = some q0) : Fn Try.prog 82 [.int .i64 p0, .int .i64 p1] [] (.int .i64 q0) [] := lapped_down.ok h0
theorem lapped_down.fnb : fnb Try.prog 82 = true := fnb_of Try.func82 rfl
def lapped_tables_windowed_2.res (_p0 : Int) (_p1 : Int) (_p2 : Int) (_p3 : List (Int)) (_p4 : List (Int)) (_p5 : List (Int)) : Int → MV
  | q0 => .int .i64 q0
def lapped_tables_windowed_2.out (_p0 : Int) (_p1 : Int) (p2 : Int) (p3 : List (Int)) (p4 : List (Int)) (p5 : List (Int)) : Int → List (Nat × Option MObj)
  | _ => [(0, some (.cells [.int .i64 p2, .im (.slice (.int .i16)) p3, .im (.slice (.int .i16)) p4, .sl 1])), (1, some (.rows (.int .i32) p5))]
theorem lapped_tables_windowed_2.ok {K : Nat} {p0 : Int} {p1 : Int} {p2 : Int} {p3 : List (Int)} {p4 : List (Int)} {p5 : List (Int)} {r : Int} (h0 : lapped_tables_windowed_2 K p0 p1 p2 p3 p4 p5 = some r) : Fn Try.prog 54 [.p 0 0, .int .i64 p0, .int .i64 p1] [(0, some (.cells [.int .i64 p2, .im (.slice (.int .i16)) p3, .im (.slice (.int .i16)) p4, .sl 1])), (1, some (.rows (.int .i32) p5))] (lapped_tables_windowed_2.res p0 p1 p2 p3 p4 p5 r) (lapped_tables_windowed_2.out p0 p1 p2 p3 p4 p5 r) := by
  refine Fn_of Try.func54 rfl (Nat.le_of_ble_eq_true rfl) fun Γ => ?_
  refine TC_seq ?_
  refine TC_reg ?_
  refine TL_ev env 1 rfl ⟨tv, tv⟩ ?_
  refine TL_end ?_
  refine TE_go ?_
  refine TC_seq ?_
  refine TC_reg ?_
  obtain ⟨g, h0⟩ := gd_t h0
  refine TL_ev env 10 rfl ⟨tv, ⟨tv, ⟨tv, ⟨tv, ⟨⟨tv, tv⟩, ⟨tv, ⟨⟨tv, ⟨tv, ⟨g.1, g.2⟩⟩⟩, ⟨⟨tv, tv⟩, ⟨tv, ⟨⟨tv, ⟨tv, tv⟩⟩, tv⟩⟩⟩⟩⟩⟩⟩⟩⟩⟩ ?_
  obtain ⟨r5, hr, h0⟩ := bnd h0
  refine TL_callB [] (fix_Round.ok0 hr) fix_Round.fnb rfl ⟨tv, ⟨tv, ⟨tv, tv⟩⟩⟩ rfl tv rfl ?_
  refine TL_ev env 1 rfl ⟨tv, tv⟩ ?_
  refine TL_end ?_
  refine TE_go ?_
  refine TC_ret ?_
  obtain rfl := sinj h0
  exact TE_ret env rfl tv ⟨.inr rfl, .inr rfl, tv⟩
theorem lapped_tables_windowed_2.ok0 {K : Nat} {p0 : Int} {p1 : Int} {p2 : Int} {p3 : List (Int)} {p4 : List (Int)} {p5 : List (Int)} {q0 : Int} (h0 : lapped_tables_windowed_2 K p0 p1 p2 p3 p4 p5 = some q0) : Fn Try.prog 54 [.p 0 0, .int .i64 p0, .int .i64 p1] [(0, some (.cells [.int .i64 p2, .im (.slice (.int .i16)) p3, .im (.slice (.int .i16)) p4, .sl 1])), (1, some (.rows (.int .i32) p5))] (.int .i64 q0) [(0, some (.cells [.int .i64 p2, .im (.slice (.int .i16)) p3, .im (.slice (.int .i16)) p4, .sl 1])), (1, some (.rows (.int .i32) p5))] := lapped_tables_windowed_2.ok h0
theorem lapped_tables_windowed_2.fnb : fnb Try.prog 54 = true := fnb_of Try.func54 rfl
def lapped_Unlapper_sample.res (_p0 : Int) (_p1 : Int) (_p2 : List (Int)) (_p3 : List (Int)) (_p4 : List (Int)) : Int → MV
  | q0 => .int .i32 q0
def lapped_Unlapper_sample.out (_p0 : Int) (p1 : Int) (p2 : List (Int)) (p3 : List (Int)) (p4 : List (Int)) : Int → List (Nat × Option MObj)
  | _ => [(0, some (.cells [.int .i64 p1, .im (.slice (.int .i16)) p2, .im (.slice (.int .i16)) p3, .sl 1])), (1, some (.rows (.int .i32) p4))]
theorem lapped_Unlapper_sample.ok {K : Nat} {p0 : Int} {p1 : Int} {p2 : List (Int)} {p3 : List (Int)} {p4 : List (Int)} {r : Int} (h0 : lapped_Unlapper_sample K p0 p1 p2 p3 p4 = some r) : Fn Try.prog 67 [.p 0 0, .nils, .int .i64 p0] [(0, some (.cells [.int .i64 p1, .im (.slice (.int .i16)) p2, .im (.slice (.int .i16)) p3, .sl 1])), (1, some (.rows (.int .i32) p4))] (lapped_Unlapper_sample.res p0 p1 p2 p3 p4 r) (lapped_Unlapper_sample.out p0 p1 p2 p3 p4 r) := by
  refine Fn_of Try.func67 rfl (Nat.le_of_ble_eq_true rfl) fun Γ => ?_
  refine TC_seq ?_
  refine TC_reg ?_
  refine TL_ev env 1 rfl ⟨tv, tv⟩ ?_
  refine TL_end ?_
  refine TE_go ?_
  refine TC_seq ?_
  refine TC_reg ?_
  refine TL_ev env 1 rfl ⟨tv, tv⟩ ?_
  refine TL_end ?_
  refine TE_go ?_
  refine TC_seq ?_
  refine TC_seq ?_
  refine TC_reg ?_
  refine TL_ev env 3 rfl ⟨tv, ⟨⟨tv, tv⟩, ⟨tv, tv⟩⟩⟩ ?_
  refine TL_end ?_
  refine TE_go ?_
  obtain ⟨z1, h1, h0⟩ := bnd h0
  refine TC_cut (α := Unit) (fun _ => z1 = ()) (fun _ => [(0, .p 0 0), (2, .int .i64 p0), (7, .int .i64 0)]) (fun _ => [(0, some (.cells [.int .i64 p1, .im (.slice (.int .i16)) p2, .im (.slice (.int .i16)) p3, .sl 1])), (1, some (.rows (.int .i32) p4))]) ?_ ?_
  · refine TC_blk ?_
    refine TC_loop (α := Unit) (fun n _ => lapped_Unlapper_sample.l0 K p0 p1 p2 p3 p4 n = some z1) (fun _ => [(0, .p 0 0), (2, .int .i64 p0), (7, .int .i64 0), (12, .nils), (13, .int .i64 0), (14, .int .i64 0)]) (fun _ => [(0, some (.cells [.int .i64 p1, .im (.slice (.int .i16)) p2, .im (.slice (.int .i16)) p3, .sl 1])), (1, some (.rows (.int .i32) p4))]) K ?_ ?_
    · exact SP_ren [] () h1 ⟨rfl, rfl, rfl, rfl, rfl, rfl, tv⟩ ⟨rfl, rfl, tv⟩ rfl
    rintro n ⟨⟩ h1
    rcases n with _ | n
    · exact (nsome h1).elim
    replace h1 : lapped_Unlapper_sample.r0 K p0 p1 p2 p3 p4 (lapped_Unlapper_sample.l0 K p0 p1 p2 p3 p4 n)  = some z1 := h1
    refine TC_seq ?_
    refine TC_reg ?_
    refine TL_ev env 1 rfl ⟨⟨tv, ⟨tv, tv⟩⟩, tv⟩ ?_
    refine TL_end ?_
    refine TE_go ?_
    refine TC_seq ?_
    refine TC_cond rfl (fun hb => ?_) (fun hb => ?_)
    · first | exact (ftf hb).elim | exact (tff hb).elim | exact absurd hb (by decide)
    · refine TC_exit ?_
      refine tsx ?_
      refine tsx ?_
      refine tbe ?_
      obtain rfl := sinj h1
      refine tsn ?_
      exact SP_ren [] () rfl ⟨rfl, rfl, rfl, tv⟩ ⟨rfl, rfl, tv⟩ rfl
  · rintro ⟨⟩ rfl
    refine TE_go ?_
    refine TC_seq ?_
    refine TC_reg ?_
    refine TL_ev env 6 rfl ⟨tv, ⟨tv, ⟨tv, ⟨tv, ⟨⟨tv, tv⟩, ⟨tv, tv⟩⟩⟩⟩⟩⟩ ?_
    refine TL_end ?_
    refine TE_go ?_
    refine TC_seq ?_
    refine TC_reg ?_
    refine TL_ev env 1 rfl ⟨tv, tv⟩ ?_
    obtain ⟨r6, hr, h0⟩ := bnd h0
    refine TL_callB [] (fix_Round.ok0 hr) fix_Round.fnb rfl ⟨tv, ⟨tv, ⟨tv, tv⟩⟩⟩ rfl tv rfl ?_
    refine TL_ev env 5 rfl ⟨⟨tv, ⟨tv, tv⟩⟩, ⟨tv, ⟨⟨tv, ⟨tv, (by decide)⟩⟩, ⟨⟨tv, ⟨tv, tv⟩⟩, ⟨tv, tv⟩⟩⟩⟩⟩ ?_
    obtain ⟨r10, hr, h0⟩ := bnd h0
    refine TL_callB [] (lapped_down.ok0 hr) lapped_down.fnb rfl ⟨tv, ⟨tv, ⟨tv, tv⟩⟩⟩ rfl tv rfl ?_
    obtain ⟨r11, hr, h0⟩ := bnd h0
    refine TL_callB [] (fix_Sat32.ok0 hr) fix_Sat32.fnb rfl ⟨tv, ⟨tv, tv⟩⟩ rfl tv rfl ?_
    refine TL_ev env 1 rfl ⟨tv, tv⟩ ?_
    refine TL_end ?_
    refine TE_go ?_
    refine TC_seq ?_
    refine TC_reg ?_
    refine TL_ev env 6 rfl ⟨tv, ⟨tv, ⟨tv, ⟨tv, ⟨tv, ⟨tv, tv⟩⟩⟩⟩⟩⟩ ?_
    obtain ⟨r12, hr, h0⟩ := bnd h0
    refine TL_callB [(0, 0), (1, 1)] (lapped_tables_windowed_2.ok0 hr) lapped_tables_windowed_2.fnb rfl ⟨tv, ⟨tv, ⟨tv, ⟨tv, tv⟩⟩⟩⟩ rfl ⟨.inr rfl, .inr rfl, tv⟩ rfl ?_
    obtain ⟨r13, hr, h0⟩ := bnd h0
    refine TL_callB [] (fix_Sat32.ok0 hr) fix_Sat32.fnb rfl ⟨tv, ⟨tv, tv⟩⟩ rfl tv rfl ?_
    refine TL_ev env 1 rfl ⟨tv, tv⟩ ?_
    refine TL_end ?_
    refine TE_go ?_
    refine TC_ret ?_
    obtain rfl := sinj h0
    exact TE_ret env rfl tv ⟨.inr rfl, .inr rfl, tv⟩
theorem lapped_Unlapper_sample.ok0 {K : Nat} {p0 : Int} {p1 : Int} {p2 : List (Int)} {p3 : List (Int)} {p4 : List (Int)} {q0 : Int} (h0 : lapped_Unlapper_sample K p0 p1 p2 p3 p4 = some q0) : Fn Try.prog 67 [.p 0 0, .nils, .int .i64 p0] [(0, some (.cells [.int .i64 p1, .im (.slice (.int .i16)) p2, .im (.slice (.int .i16)) p3, .sl 1])), (1, some (.rows (.int .i32) p4))] (.int .i32 q0) [(0, some (.cells [.int .i64 p1, .im (.slice (.int .i16)) p2, .im (.slice (.int .i16)) p3, .sl 1])), (1, some (.rows (.int .i32) p4))] := lapped_Unlapper_sample.ok h0
theorem lapped_Unlapper_sample.fnb : fnb Try.prog 67 = true := fnb_of Try.func67 rfl
def fix_Add.res (_p0 : Int) (_p1 : Int) : Int → MV
  | q0 => .int .i32 q0
def fix_Add.out (_p0 : Int) (_p1 : Int) : Int → List (Nat × Option MObj)
  | _ => []
theorem fix_Add.ok {K : Nat} {p0 : Int} {p1 : Int} {r : Int} (h0 : fix_Add K p0 p1 = some r) : Fn Try.prog 66 [.int .i32 p0, .int .i32 p1] [] (fix_Add.res p0 p1 r) (fix_Add.out p0 p1 r) := by
  refine Fn_of Try.func66 rfl (Nat.le_of_ble_eq_true rfl) fun Γ => ?_
  refine TC_seq ?_
  refine TC_reg ?_
  refine TL_ev env 1 rfl ⟨tv, tv⟩ ?_
  refine TL_end ?_
  refine TE_go ?_
  refine TC_seq ?_
  refine TC_reg ?_
  refine TL_ev env 5 rfl ⟨tv, ⟨tv, ⟨tv, ⟨tv, ⟨⟨tv, ⟨tv, tv⟩⟩, tv⟩⟩⟩⟩⟩ ?_
  obtain ⟨r3, hr, h0⟩ := bnd h0
  refine TL_callB [] (fix_Sat32.ok0 hr) fix_Sat32.fnb rfl ⟨tv, ⟨tv, tv⟩⟩ rfl tv rfl ?_
  refine TL_ev env 1 rfl ⟨tv, tv⟩ ?_
  refine TL_end ?_
  refine TE_go ?_
  refine TC_ret ?_
  obtain rfl := sinj h0
  exact TE_ret env rfl tv tv
theorem fix_Add.ok0 {K : Nat} {p0 : Int} {p1 : Int} {q0 : Int} (h0 : fix_Add K p0 p1 = some q0) : Fn Try.prog 66 [.int .i32 p0, .int .i32 p1] [] (.int .i32 q0) [] := fix_Add.ok h0
theorem fix_Add.fnb : fnb Try.prog 66 = true := fnb_of Try.func66 rfl
def lapped_Unlapper_Feed.res (_p0 : Int) (_p1 : List (Int)) (_p2 : List (Int)) (_p3 : List (Int)) : (Unit) ⊕ ((List (Int)) × (List (Int))) → MV
  | .inl () => .tup [.nils, .int .i64 1]
  | .inr (q0, _) => .tup [.im (.slice (.int .i32)) q0, .int .i64 0]
def lapped_Unlapper_Feed.out (p0 : Int) (p1 : List (Int)) (p2 : List (Int)) (p3 : List (Int)) : (Unit) ⊕ ((List (Int)) × (List (Int))) → List (Nat × Option MObj)
  | .inl () => [(0, some (.cells [.int .i64 p0, .im (.slice (.int .i16)) p1, .im (.slice (.int .i16)) p2, .sl 1])), (1, some (.rows (.int .i32) p3))]
  | .inr (_, q1) => [(0, some (.cells [.int .i64 p0, .im (.slice (.int .i16)) p1, .im (.slice (.int .i16)) p2, .sl 1])), (1, some (.rows (.int .i32) q1))]
theorem lapped_Unlapper_Feed.ok {K : Nat} {p0 : Int} {p1 : List (Int)} {p2 : List (Int)} {p3 : List (Int)} {r : (Unit) ⊕ ((List (Int)) × (List (Int)))} (h0 : lapped_Unlapper_Feed K p0 p1 p2 p3 = some r) : Fn Try.prog 36 [.p 0 0, .nils] [(0, some (.cells [.int .i64 p0, .im (.slice (.int .i16)) p1, .im (.slice (.int .i16)) p2, .sl 1])), (1, some (.rows (.int .i32) p3))] (lapped_Unlapper_Feed.res p0 p1 p2 p3 r) (lapped_Unlapper_Feed.out p0 p1 p2 p3 r) := by
  refine Fn_of Try.func36 rfl (Nat.le_of_ble_eq_true rfl) fun Γ => ?_
  refine TC_seq ?_
  refine TC_reg ?_
  refine TL_ev env 2 rfl ⟨tv, ⟨tv, tv⟩⟩ ?_
  refine TL_end ?_
  refine TE_go ?_
  refine TC_seq ?_
  refine TC_blk ?_
  refine TC_seq ?_
  refine TC_reg ?_
  refine TL_ev env 3 rfl ⟨tv, ⟨⟨tv, ⟨tv, tv⟩⟩, ⟨tv, tv⟩⟩⟩ ?_
  refine TL_end ?_
  refine TE_go ?_
  refine TC_cond rfl (fun hb => ?_) (fun hb => ?_)
  · first | exact (ftf hb).elim | exact (tff hb).elim | exact absurd hb (by decide)
  · refine TC_seq ?_
    refine TC_reg ?_
    refine TL_ev env 9 rfl ⟨tv, ⟨⟨tv, tv⟩, ⟨tv, ⟨tv, ⟨tv, ⟨tv, ⟨⟨tv, tv⟩, ⟨⟨tv, ⟨tv, tv⟩⟩, ⟨tv, tv⟩⟩⟩⟩⟩⟩⟩⟩⟩ ?_
    refine TL_end ?_
    refine TE_go ?_
    refine TC_cond rfl (fun hb => ?_) (fun hb => ?_)
    · replace h0 := bif_t h0 hb
      refine TC_seq ?_
      refine TC_reg ?_
      refine TL_ev env 2 rfl ⟨tv, ⟨tv, tv⟩⟩ ?_
      refine TL_end ?_
      refine TE_go ?_
      refine TC_ret ?_
      refine tbr ?_
      refine tsr ?_
      obtain rfl := sinj h0
      exact TE_ret env rfl tv ⟨.inr rfl, .inr rfl, tv⟩
    · replace h0 := bif_f h0 hb
      refine TC_skip ?_
      refine tbn ?_
      refine TE_go ?_
      refine TC_seq ?_
      refine TC_reg ?_
      obtain ⟨g, h0⟩ := gd_t h0
      refine TL_ev env 7 rfl ⟨tv, ⟨tv, ⟨tv, ⟨tv, ⟨⟨tv, tv⟩, ⟨⟨tv, ⟨tv, ⟨g.1, ⟨g.2.1, g.2.2⟩⟩⟩⟩, ⟨tv, tv⟩⟩⟩⟩⟩⟩⟩ ?_
      refine TL_end ?_
      refine TE_go ?_
      refine TC_seq ?_
      refine TC_seq ?_
      refine TC_reg ?_
      refine TL_ev env 3 rfl ⟨tv, ⟨⟨tv, tv⟩, ⟨tv, tv⟩⟩⟩ ?_
      refine TL_end ?_
      refine TE_go ?_
      obtain ⟨z1, h1, h0⟩ := bnd h0
      refine TC_cut (α := (List (Int))) (fun s => z1 = s) (fun s => [(0, .p 0 0), (1, .nils), (6, .sl 11202)]) (fun s => [(0, some (.cells [.int .i64 p0, .im (.slice (.int .i16)) p1, .im (.slice (.int .i16)) p2, .sl 1])), (1, some (.rows (.int .i32) p3)), (11202, some (.rows (.int .i32) s))]) ?_ ?_
      · refine TC_blk ?_
        refine TC_loop (α := Int × (List (Int))) (fun n s => lapped_Unlapper_Feed.l1 K ((List.replicate (Int.toNat p0) (0 : Int)).length : Int) p0 p1 p2 p3 n s.1 s.2 = some z1) (fun s => [(0, .p 0 0), (1, .nils), (6, .sl 12102), (28, .int .i64 ((List.replicate (Int.toNat p0) (0 : Int)).length : Int)), (29, .int .i64 s.1)]) (fun s => [(0, some (.cells [.int .i64 p0, .im (.slice (.int .i16)) p1, .im (.slice (.int .i16)) p2, .sl 1])), (1, some (.rows (.int .i32) p3)), (12102, some (.rows (.int .i32) s.2))]) K ?_ ?_
        · exact SP_ren [(12102, 1026)] (_, _) h1 ⟨rfl, rfl, rfl, rfl, rfl, tv⟩ ⟨rfl, rfl, rfl, tv⟩ rfl
        rintro n ⟨x65, x66⟩ h1
        rcases n with _ | n
        · exact (nsome h1).elim
        replace h1 : lapped_Unlapper_Feed.r1 K ((List.replicate (Int.toNat p0) (0 : Int)).length : Int) p0 p1 p2 p3 (lapped_Unlapper_Feed.l1 K ((List.replicate (Int.toNat p0) (0 : Int)).length : Int) p0 p1 p2 p3 n) x65 x66 = some z1 := h1
        refine TC_seq ?_
        refine TC_reg ?_
        refine TL_ev env 1 rfl ⟨⟨tv, ⟨tv, tv⟩⟩, tv⟩ ?_
        refine TL_end ?_
        refine TE_go ?_
        refine TC_seq ?_
        refine TC_cond rfl (fun hb => ?_) (fun hb => ?_)
        · replace h1 := bif_t h1 hb
          refine TC_skip ?_
          refine TE_go ?_
          refine TC_seq ?_
          refine TC_blk ?_
          refine TC_seq ?_
          refine TC_reg ?_
          refine TL_ev env 2 rfl ⟨tv, ⟨tv, tv⟩⟩ ?_
          refine TL_end ?_
          refine TE_go ?_
          refine TC_renw (A' := [(0, .p 0 0), (1, .nils), (6, .sl 12102), (7, .int .i64 _), (28, .int .i64 _), (29, .int .i64 _)]) (L' := [(0, some (.cells [.int .i64 _, .im (.slice (.int .i16)) _, .im (.slice (.int .i16)) _, .sl 1])), (1, some (.rows (.int .i32) _)), (12102, some (.rows (.int .i32) _))]) [] ⟨rfl, rfl, rfl, rfl, rfl, rfl, tv⟩ ⟨rfl, rfl, rfl, tv⟩ rfl ?_
          refine TC_drawR ⟨_, fun i => ([[], [], [], [2], [3, 2], [4, 3, 2], [], [6, 5, 4, 3, 2], [7, 6, 5, 4, 3, 2], [], [], [], [11, 10, 9], [12, 11, 10, 9, 8, 7, 6, 5, 4, 3, 2], [13, 12, 11, 10, 9, 8, 7, 6, 5, 4, 3, 2, 1, 0], [14, 13, 12, 11, 10, 9, 8, 7, 6, 5, 4, 3, 2, 1, 0]] : List (List Nat)).getD i [], fun i => ([[], [], [], [], [], [], [], [], [], [], [], [], [], [], [], [12102]] : List (List Nat)).getD i [], fun i => ([[], [], [], [], [], [], [], [], [], [], [], [], [], [], [], []] : List (List Nat)).getD i []⟩ (fun i => ([[], [], [], [], [], [], [], [], [], [], [], [], [], [], [], []] : List (List Nat)).getD i []) (by kernel_rfl) (by kernel_rfl) ?_
          refine AJR_ev env 1 rfl (Nat.le_of_ble_eq_true rfl) rfl tv ?_
          refine AJR_ev env 2 rfl (Nat.le_of_ble_eq_true rfl) rfl tv ?_
          refine AJR_ev env 3 rfl (Nat.le_of_ble_eq_true rfl) rfl tv ?_
          refine AJR_ev env 4 rfl (Nat.le_of_ble_eq_true rfl) rfl tv ?_
          refine AJR_ev env 5 rfl (Nat.le_of_ble_eq_true rfl) rfl tv ?_
          refine AJR_ev env 6 rfl (Nat.le_of_ble_eq_true rfl) rfl ⟨tv, tv⟩ ?_
          refine AJR_ev env 7 rfl (Nat.le_of_ble_eq_true rfl) rfl tv ?_
          obtain ⟨g, h1⟩ := gd_t h1
          refine AJR_ev env 8 rfl (Nat.le_of_ble_eq_true rfl) rfl ⟨tv, ⟨tv, ⟨g.1, g.2⟩⟩⟩ ?_
          obtain ⟨g, h1⟩ := gd_t h1
          refine AJR_ev env 9 rfl (Nat.le_of_ble_eq_true rfl) rfl ⟨tv, g⟩ ?_
          refine AJR_ev env 10 rfl (Nat.le_of_ble_eq_true rfl) rfl tv ?_
          refine AJR_ev env 11 rfl (Nat.le_of_ble_eq_true rfl) rfl tv ?_
          refine AJR_ev env 12 rfl (Nat.le_of_ble_eq_true rfl) rfl tv ?_
          obtain ⟨r77, hr, h1⟩ := bnd h1
          refine AJR_callS 13 rfl (Nat.le_of_ble_eq_true rfl) [(0, 0), (1, 1)] rfl (lapped_Unlapper_sample.ok0 hr) lapped_Unlapper_sample.fnb rfl ⟨tv, ⟨tv, ⟨tv, ⟨tv, tv⟩⟩⟩⟩ rfl ⟨.inr rfl, .inr rfl, tv⟩ rfl ⟨⟨rfl, rfl⟩, ⟨rfl, rfl⟩, tv⟩ ?_
          obtain ⟨r78, hr, h1⟩ := bnd h1
          refine AJR_call 14 rfl (Nat.le_of_ble_eq_true rfl) [] rfl (fix_Add.ok0 hr) fix_Add.fnb rfl ⟨tv, ⟨tv, ⟨tv, tv⟩⟩⟩ rfl tv rfl ?_
          obtain ⟨g, h1⟩ := gd_t h1
          refine AJR_ev env 15 rfl (Nat.le_of_ble_eq_true rfl) rfl ⟨tv, ⟨tv, ⟨g.1, g.2⟩⟩⟩ ?_
          obtain ⟨g, h1⟩ := gd_t h1
          refine AJR_ev env 16 rfl (Nat.le_of_ble_eq_true rfl) rfl ⟨tv, ⟨tv, g⟩⟩ ?_
          refine AJR_end rfl rfl rfl ?_
          refine tbn ?_
          refine TE_go ?_
          refine TC_reg ?_
          refine TL_ev env 2 rfl ⟨⟨tv, ⟨tv, tv⟩⟩, ⟨tv, tv⟩⟩ ?_
          refine TL_end ?_
          refine tsn ?_
          exact TE_nextr [(12102, 12102)] n (Nat.lt_succ_self n) (_, _) h1 ⟨rfl, rfl, rfl, rfl, rfl, tv⟩ ⟨rfl, rfl, rfl, tv⟩ rfl
        · replace h1 := bif_f h1 hb
          refine TC_exit ?_
          refine tsx ?_
          refine tsx ?_
          refine tbe ?_
          obtain rfl := sinj h1
          refine tsn ?_
          exact SP_ren [(11202, 12102)] _ rfl ⟨rfl, rfl, rfl, tv⟩ ⟨rfl, rfl, rfl, tv⟩ rfl
      · rintro x37 hz
        obtain rfl := hz.symm
        refine TE_go ?_
        refine TC_seq ?_
        refine TC_seq ?_
        refine TC_reg ?_
        refine TL_ev env 6 rfl ⟨tv, ⟨tv, ⟨tv, ⟨⟨tv, tv⟩, ⟨⟨tv, tv⟩, ⟨tv, tv⟩⟩⟩⟩⟩⟩ ?_
        refine TL_end ?_
        refine TE_go ?_
        obtain ⟨z1, h1, h0⟩ := bnd h0
        refine TC_cut (α := (List (Int))) (fun s => z1 = s) (fun s => [(6, .sl 11602)]) (fun s => [(0, some (.cells [.int .i64 p0, .im (.slice (.int .i16)) p1, .im (.slice (.int .i16)) p2, .sl 1])), (1, some (.rows (.int .i32) s)), (11602, some (.rows (.int .i32) x37))]) ?_ ?_
        · refine TC_blk ?_
          refine TC_loop (α := Int × (List (Int))) (fun n s => lapped_Unlapper_Feed.l0 K (p3.length : Int) p0 p1 p2 x37 n s.1 s.2 = some z1) (fun s => [(0, .p 0 0), (1, .nils), (6, .sl 11802), (52, .int .i64 (p3.length : Int)), (53, .int .i64 s.1)]) (fun s => [(0, some (.cells [.int .i64 p0, .im (.slice (.int .i16)) p1, .im (.slice (.int .i16)) p2, .sl 1])), (1, some (.rows (.int .i32) s.2)), (11802, some (.rows (.int .i32) x37))]) K ?_ ?_
          · exact SP_ren [(11802, 11202)] (_, _) h1 ⟨rfl, rfl, rfl, rfl, rfl, tv⟩ ⟨rfl, rfl, rfl, tv⟩ rfl
          rintro n ⟨x49, x50⟩ h1
          rcases n with _ | n
          · exact (nsome h1).elim
          replace h1 : lapped_Unlapper_Feed.r0 K (p3.length : Int) p0 p1 p2 x37 (lapped_Unlapper_Feed.l0 K (p3.length : Int) p0 p1 p2 x37 n) x49 x50 = some z1 := h1
          refine TC_seq ?_
          refine TC_reg ?_
          refine TL_ev env 1 rfl ⟨⟨tv, ⟨tv, tv⟩⟩, tv⟩ ?_
          refine TL_end ?_
          refine TE_go ?_
          refine TC_seq ?_
          refine TC_cond rfl (fun hb => ?_) (fun hb => ?_)
          · replace h1 := bif_t h1 hb
            refine TC_skip ?_
            refine TE_go ?_
            refine TC_seq ?_
            refine TC_blk ?_
            refine TC_seq ?_
            refine TC_reg ?_
            refine TL_ev env 2 rfl ⟨tv, ⟨tv, tv⟩⟩ ?_
            refine TL_end ?_
            refine TE_go ?_
            refine TC_renw (A' := [(0, .p 0 0), (1, .nils), (6, .sl 11802), (8, .int .i64 _), (52, .int .i64 _), (53, .int .i64 _)]) (L' := [(0, some (.cells [.int .i64 _, .im (.slice (.int .i16)) _, .im (.slice (.int .i16)) _, .sl 1])), (1, some (.rows (.int .i32) _)), (11802, some (.rows (.int .i32) _))]) [] ⟨rfl, rfl, rfl, rfl, rfl, rfl, tv⟩ ⟨rfl, rfl, rfl, tv⟩ rfl ?_
            refine TC_drawR ⟨_, fun i => ([[], [0], [1, 0], [2, 1, 0], [], [], [], [], [7], [8, 7], [9, 8, 7], [10, 9, 8, 7], [], [12, 11, 10, 9, 8, 7], [13, 12, 11, 10, 9, 8, 7, 6, 5], [14, 13, 12, 11, 10, 9, 8, 7, 6, 5, 4, 3, 2, 1, 0], [15, 14, 13, 12, 11, 10, 9, 8, 7, 6, 5, 4, 3, 2, 1, 0]] : List (List Nat)).getD i [], fun i => ([[], [], [], [], [], [], [], [], [], [], [], [], [], [], [], [], [1]] : List (List Nat)).getD i [], fun i => ([[], [], [], [], [], [], [], [], [], [], [], [], [], [], [], [], []] : List (List Nat)).getD i []⟩ (fun i => ([[], [], [], [], [], [], [], [], [], [], [], [], [], [], [], [], []] : List (List Nat)).getD i []) (by kernel_rfl) (by kernel_rfl) ?_
            refine AJR_ev env 1 rfl (Nat.le_of_ble_eq_true rfl) rfl tv ?_
            refine AJR_ev env 2 rfl (Nat.le_of_ble_eq_true rfl) rfl tv ?_
            refine AJR_ev env 3 rfl (Nat.le_of_ble_eq_true rfl) rfl tv ?_
            refine AJR_ev env 4 rfl (Nat.le_of_ble_eq_true rfl) rfl ⟨tv, tv⟩ ?_
            refine AJR_ev env 5 rfl (Nat.le_of_ble_eq_true rfl) rfl tv ?_
            refine AJR_ev env 6 rfl (Nat.le_of_ble_eq_true rfl) rfl tv ?_
            refine AJR_ev env 7 rfl (Nat.le_of_ble_eq_true rfl) rfl tv ?_
            refine AJR_ev env 8 rfl (Nat.le_of_ble_eq_true rfl) rfl tv ?_
            refine AJR_ev env 9 rfl (Nat.le_of_ble_eq_true rfl) rfl tv ?_
            refine AJR_ev env 10 rfl (Nat.le_of_ble_eq_true rfl) rfl tv ?_
            refine AJR_ev env 11 rfl (Nat.le_of_ble_eq_true rfl) rfl tv ?_
            refine AJR_ev env 12 rfl (Nat.le_of_ble_eq_true rfl) rfl ⟨tv, tv⟩ ?_
            refine AJR_ev env 13 rfl (Nat.le_of_ble_eq_true rfl) rfl tv ?_
            refine AJR_ev env 14 rfl (Nat.le_of_ble_eq_true rfl) rfl ⟨tv, ⟨tv, tv⟩⟩ ?_
            obtain ⟨r58, hr, h1⟩ := bnd h1
            refine AJR_callS 15 rfl (Nat.le_of_ble_eq_true rfl) [(0, 0), (1, 1)] rfl (lapped_Unlapper_sample.ok0 hr) lapped_Unlapper_sample.fnb rfl ⟨tv, ⟨tv, ⟨tv, ⟨tv, tv⟩⟩⟩⟩ rfl ⟨.inr rfl, .inr rfl, tv⟩ rfl ⟨⟨rfl, rfl⟩, ⟨rfl, rfl⟩, tv⟩ ?_
            obtain ⟨g, h1⟩ := gd_t h1
            refine AJR_ev env 16 rfl (Nat.le_of_ble_eq_true rfl) rfl ⟨tv, ⟨tv, ⟨g.1, g.2⟩⟩⟩ ?_
            obtain ⟨g, h1⟩ := gd_t h1
            refine AJR_ev env 17 rfl (Nat.le_of_ble_eq_true rfl) rfl ⟨tv, ⟨tv, g⟩⟩ ?_
            refine AJR_end rfl rfl rfl ?_
            refine tbn ?_
            refine TE_go ?_
            refine TC_reg ?_
            refine TL_ev env 2 rfl ⟨⟨tv, ⟨tv, tv⟩⟩, ⟨tv, tv⟩⟩ ?_
            refine TL_end ?_
            refine tsn ?_
            exact TE_nextr [(11802, 11802)] n (Nat.lt_succ_self n) (_, _) h1 ⟨rfl, rfl, rfl, rfl, rfl, tv⟩ ⟨rfl, rfl, rfl, tv⟩ rfl
          · replace h1 := bif_f h1 hb
            refine TC_exit ?_
            refine tsx ?_
            refine tsx ?_
            refine tbe ?_
            obtain rfl := sinj h1
            refine tsn ?_
            exact SP_ren [(11602, 11802)] _ rfl ⟨rfl, tv⟩ ⟨rfl, rfl, rfl, tv⟩ rfl
        · rintro x46 hz
          obtain rfl := hz.symm
          refine TE_go ?_
          refine TC_seq ?_
          refine TC_reg ?_
          refine TL_ev env 3 rfl ⟨tv, ⟨tv, ⟨tv, tv⟩⟩⟩ ?_
          refine TL_end ?_
          refine TE_go ?_
          refine TC_ret ?_
          refine TE_frz 11602 rfl ?_
          obtain rfl := sinj h0
          exact TE_ret env rfl tv ⟨.inr rfl, .inr rfl, tv⟩
theorem lapped_Unlapper_Feed.ok0 {K : Nat} {p0 : Int} {p1 : List (Int)} {p2 : List (Int)} {p3 : List (Int)}  (h0 : lapped_Unlapper_Feed K p0 p1 p2 p3 = some (.inl ())) : Fn Try.prog 36 [.p 0 0, .nils] [(0, some (.cells [.int .i64 p0, .im (.slice (.int .i16)) p1, .im (.slice (.int .i16)) p2, .sl 1])), (1, some (.rows (.int .i32) p3))] (.tup [.nils, .int .i64 1]) [(0, some (.cells [.int .i64 p0, .im (.slice (.int .i16)) p1, .im (.slice (.int .i16)) p2, .sl 1])), (1, some (.rows (.int .i32) p3))] := lapped_Unlapper_Feed.ok h0
theorem lapped_Unlapper_Feed.ok1 {K : Nat} {p0 : Int} {p1 : List (Int)} {p2 : List (Int)} {p3 : List (Int)} {q0 : List (Int)} {q1 : List (Int)} (h0 : lapped_Unlapper_Feed K p0 p1 p2 p3 = some (.inr (q0, q1))) : Fn Try.prog 36 [.p 0 0, .nils] [(0, some (.cells [.int .i64 p0, .im (.slice (.int .i16)) p1, .im (.slice (.int .i16)) p2, .sl 1])), (1, some (.rows (.int .i32) p3))] (.tup [.im (.slice (.int .i32)) q0, .int .i64 0]) [(0, some (.cells [.int .i64 p0, .im (.slice (.int .i16)) p1, .im (.slice (.int .i16)) p2, .sl 1])), (1, some (.rows (.int .i32) q1))] := lapped_Unlapper_Feed.ok h0
theorem lapped_Unlapper_Feed.fnb : fnb Try.prog 36 = true := fnb_of Try.func36 rfl
def lapped_tables_wave_2.res (_p0 : Int) (_p1 : Int) (_p2 : Int) (_p3 : List (Int)) (_p4 : List (Int)) (_p5 : List (Int)) : Int → MV
  | q0 => .int .i64 q0
def lapped_tables_wave_2.out (_p0 : Int) (_p1 : Int) (p2 : Int) (p3 : List (Int)) (p4 : List (Int)) (p5 : List (Int)) : Int → List (Nat × Option MObj)
  | _ => [(0, some (.cells [.int .i64 p2, .im (.slice (.int .i16)) p3, .im (.slice (.int .i16)) p4, .sl 1])), (1, some (.rows (.int .i32) p5))]
theorem lapped_tables_wave_2.ok {K : Nat} {p0 : Int} {p1 : Int} {p2 : Int} {p3 : List (Int)} {p4 : List (Int)} {p5 : List (Int)} {r : Int} (h0 : lapped_tables_wave_2 K p0 p1 p2 p3 p4 p5 = some r) : Fn Try.prog 55 [.p 0 0, .int .i64 p0, .int .i64 p1] [(0, some (.cells [.int .i64 p2, .im (.slice (.int .i16)) p3, .im (.slice (.int .i16)) p4, .sl 1])), (1, some (.rows (.int .i32) p5))] (lapped_tables_wave_2.res p0 p1 p2 p3 p4 p5 r) (lapped_tables_wave_2.out p0 p1 p2 p3 p4 p5 r) := by
  refine Fn_of Try.func55 rfl (Nat.le_of_ble_eq_true rfl) fun Γ => ?_
  refine TC_seq ?_
  refine TC_reg ?_
  refine TL_ev env 1 rfl ⟨tv, tv⟩ ?_
  refine TL_end ?_
  refine TE_go ?_
  refine TC_seq ?_
  refine TC_renw (A' := [(0, .p 0 0), (1, .int .i64 _), (2, .int .i64 _), (6, .int .i64 0)]) (L' := [(0, some (.cells [.int .i64 _, .im (.slice (.int .i16)) _, .im (.slice (.int .i16)) _, .sl 1])), (1, some (.rows (.int .i32) _))]) [] ⟨rfl, rfl, rfl, rfl, tv⟩ ⟨rfl, rfl, tv⟩ rfl ?_
  refine TC_drawR ⟨_, fun i => ([[], [0], [1, 0], [2, 1, 0], [], [4], [5, 4], [], [7], [8, 7], [9, 8, 7], [10, 9, 8, 7, 6, 5, 4], [], [12], [13, 12], [14, 13, 12, 11, 10, 9, 8, 7, 6, 5, 4], [], [16], [17, 16], [18, 17, 16], [19, 18, 17, 16], [20, 19, 18, 17, 16, 15, 14, 13, 12, 11, 10, 9, 8, 7, 6, 5, 4], [21, 20, 19, 18, 17, 16, 15, 14, 13, 12, 11, 10, 9, 8, 7, 6, 5, 4, 3, 2, 1, 0], [22, 21, 20, 19, 18, 17, 16, 15, 14, 13, 12, 11, 10, 9, 8, 7, 6, 5, 4, 3, 2, 1, 0], [23, 22, 21, 20, 19, 18, 17, 16, 15, 14, 13, 12, 11, 10, 9, 8, 7, 6, 5, 4, 3, 2, 1, 0], [24, 23, 22, 21, 20, 19, 18, 17, 16, 15, 14, 13, 12, 11, 10, 9, 8, 7, 6, 5, 4, 3, 2, 1, 0]] : List (List Nat)).getD i [], fun i => ([[], [], [], [], [], [], [], [], [], [], [], [], [], [], [], [], [], [], [], [], [], [], [], [], [], []] : List (List Nat)).getD i [], fun i => ([[], [], [], [], [], [], [], [], [], [], [], [], [], [], [], [], [], [], [], [], [], [], [], [], [], []] : List (List Nat)).getD i []⟩ (fun i => ([[], [], [], [], [], [], [], [], [], [], [], [], [], [], [], [], [], [], [], [], [], [], [], [], [], []] : List (List Nat)).getD i []) (by kernel_rfl) (by kernel_rfl) ?_
  refine AJR_ev env 1 rfl (Nat.le_of_ble_eq_true rfl) rfl tv ?_
  refine AJR_ev env 2 rfl (Nat.le_of_ble_eq_true rfl) rfl tv ?_
  refine AJR_ev env 3 rfl (Nat.le_of_ble_eq_true rfl) rfl tv ?_
  refine AJR_ev env 4 rfl (Nat.le_of_ble_eq_true rfl) rfl ⟨tv, tv⟩ ?_
  refine AJR_ev env 5 rfl (Nat.le_of_ble_eq_true rfl) rfl tv ?_
  refine AJR_ev env 6 rfl (Nat.le_of_ble_eq_true rfl) rfl ⟨tv, ⟨tv, tv⟩⟩ ?_
  refine AJR_ev env 7 rfl (Nat.le_of_ble_eq_true rfl) rfl ⟨tv, ⟨tv, tv⟩⟩ ?_
  refine AJR_ev env 8 rfl (Nat.le_of_ble_eq_true rfl) rfl tv ?_
  refine AJR_ev env 9 rfl (Nat.le_of_ble_eq_true rfl) rfl tv ?_
  refine AJR_ev env 10 rfl (Nat.le_of_ble_eq_true rfl) rfl tv ?_
  refine AJR_ev env 11 rfl (Nat.le_of_ble_eq_true rfl) rfl ⟨tv, tv⟩ ?_
  refine AJR_ev env 12 rfl (Nat.le_of_ble_eq_true rfl) rfl ⟨tv, ⟨tv, tv⟩⟩ ?_
  refine AJR_ev env 13 rfl (Nat.le_of_ble_eq_true rfl) rfl tv ?_
  refine AJR_ev env 14 rfl (Nat.le_of_ble_eq_true rfl) rfl ⟨tv, ⟨tv, tv⟩⟩ ?_
  refine AJR_ev env 15 rfl (Nat.le_of_ble_eq_true rfl) rfl ⟨tv, ⟨tv, tv⟩⟩ ?_
  refine AJR_ev env 16 rfl (Nat.le_of_ble_eq_true rfl) rfl ⟨tv, ⟨tv, tv⟩⟩ ?_
  refine AJR_ev env 17 rfl (Nat.le_of_ble_eq_true rfl) rfl tv ?_
  refine AJR_ev env 18 rfl (Nat.le_of_ble_eq_true rfl) rfl tv ?_
  refine AJR_ev env 19 rfl (Nat.le_of_ble_eq_true rfl) rfl tv ?_
  refine AJR_ev env 20 rfl (Nat.le_of_ble_eq_true rfl) rfl ⟨tv, tv⟩ ?_
  refine AJR_ev env 21 rfl (Nat.le_of_ble_eq_true rfl) rfl ⟨tv, ⟨tv, tv⟩⟩ ?_
  obtain ⟨g, h0⟩ := gd_t h0
  refine AJR_ev env 22 rfl (Nat.le_of_ble_eq_true rfl) rfl ⟨tv, ⟨tv, g⟩⟩ ?_
  obtain ⟨g, h0⟩ := gd_t h0
  refine AJR_ev env 23 rfl (Nat.le_of_ble_eq_true rfl) rfl ⟨tv, ⟨tv, ⟨g.1, g.2⟩⟩⟩ ?_
  refine AJR_ev env 24 rfl (Nat.le_of_ble_eq_true rfl) rfl ⟨tv, tv⟩ ?_
  refine AJR_ev env 25 rfl (Nat.le_of_ble_eq_true rfl) rfl tv ?_
  refine AJR_ev env 26 rfl (Nat.le_of_ble_eq_true rfl) rfl tv ?_
  refine AJR_end rfl rfl rfl ?_
  refine TE_go ?_
  refine TC_ret ?_
  obtain rfl := sinj h0
  exact TE_ret env rfl tv ⟨.inr rfl, .inr rfl, tv⟩
theorem lapped_tables_wave_2.ok0 {K : Nat} {p0 : Int} {p1 : Int} {p2 : Int} {p3 : List (Int)} {p4 : List (Int)} {p5 : List (Int)} {q0 : Int} (h0 : lapped_tables_wave_2 K p0 p1 p2 p3 p4 p5 = some q0) : Fn Try.prog 55 [.p 0 0, .int .i64 p0, .int .i64 p1] [(0, some (.cells [.int .i64 p2, .im (.slice (.int .i16)) p3, .im (.slice (.int .i16)) p4, .sl 1])), (1, some (.rows (.int .i32) p5))] (.int .i64 q0) [(0, some (.cells [.int .i64 p2, .im (.slice (.int .i16)) p3, .im (.slice (.int .i16)) p4, .sl 1])), (1, some (.rows (.int .i32) p5))] := lapped_tables_wave_2.ok h0
theorem lapped_tables_wave_2.fnb : fnb Try.prog 55 = true := fnb_of Try.func55 rfl
def lapped_Unlapper_sample_2.res (_p0 : List (Int)) (_p1 : Int) (_p2 : Int) (_p3 : List (Int)) (_p4 : List (Int)) (_p5 : List (Int)) : Int → MV
  | q0 => .int .i32 q0
def lapped_Unlapper_sample_2.out (_p0 : List (Int)) (_p1 : Int) (p2 : Int) (p3 : List (Int)) (p4 : List (Int)) (p5 : List (Int)) : Int → List (Nat × Option MObj)
  | _ => [(0, some (.cells [.int .i64 p2, .im (.slice (.int .i16)) p3, .im (.slice (.int .i16)) p4, .sl 1])), (1, some (.rows (.int .i32) p5))]
theorem lapped_Unlapper_sample_2.ok {K : Nat} {p0 : List (Int)} {p1 : Int} {p2 : Int} {p3 : List (Int)} {p4 : List (Int)} {p5 : List (Int)} {r : Int} (h0 : lapped_Unlapper_sample_2 K p0 p1 p2 p3 p4 p5 = some r) : Fn Try.prog 67 [.p 0 0, .im (.slice (.int .i32)) p0, .int .i64 p1] [(0, some (.cells [.int .i64 p2, .im (.slice (.int .i16)) p3, .im (.slice (.int .i16)) p4, .sl 1])), (1, some (.rows (.int .i32) p5))] (lapped_Unlapper_sample_2.res p0 p1 p2 p3 p4 p5 r) (lapped_Unlapper_sample_2.out p0 p1 p2 p3 p4 p5 r) := by
  refine Fn_of Try.func67 rfl (Nat.le_of_ble_eq_true rfl) fun Γ => ?_
  refine TC_seq ?_
  refine TC_reg ?_
  refine TL_ev env 1 rfl ⟨tv, tv⟩ ?_
  refine TL_end ?_
  refine TE_go ?_
  refine TC_seq ?_
  refine TC_reg ?_
  refine TL_ev env 1 rfl ⟨tv, tv⟩ ?_
  refine TL_end ?_
  refine TE_go ?_
  refine TC_seq ?_
  refine TC_seq ?_
  refine TC_reg ?_
  refine TL_ev env 3 rfl ⟨tv, ⟨⟨tv, tv⟩, ⟨tv, tv⟩⟩⟩ ?_
  refine TL_end ?_
  refine TE_go ?_
  obtain ⟨z1, h1, h0⟩ := bnd h0
  refine TC_cut (α := Int) (fun s => z1 = s) (fun s => [(0, .p 0 0), (2, .int .i64 p1), (7, .int .i64 s)]) (fun s => [(0, some (.cells [.int .i64 p2, .im (.slice (.int .i16)) p3, .im (.slice (.int .i16)) p4, .sl 1])), (1, some (.rows (.int .i32) p5))]) ?_ ?_
  · refine TC_blk ?_
    refine TC_loop (α := Int × Int) (fun n s => lapped_Unlapper_sample_2.l0 K p1 p0 (p0.length : Int) p2 p3 p4 p5 n s.1 s.2 = some z1) (fun s => [(0, .p 0 0), (2, .int .i64 p1), (7, .int .i64 s.1), (12, .im (.slice (.int .i32)) p0), (13, .int .i64 (p0.length : Int)), (14, .int .i64 s.2)]) (fun s => [(0, some (.cells [.int .i64 p2, .im (.slice (.int .i16)) p3, .im (.slice (.int .i16)) p4, .sl 1])), (1, some (.rows (.int .i32) p5))]) K ?_ ?_
    · exact SP_ren [] (_, _) h1 ⟨rfl, rfl, rfl, rfl, rfl, rfl, tv⟩ ⟨rfl, rfl, tv⟩ rfl
    rintro n ⟨x34, x35⟩ h1
    rcases n with _ | n
    · exact (nsome h1).elim
    replace h1 : lapped_Unlapper_sample_2.r0 K p1 p0 (p0.length : Int) p2 p3 p4 p5 (lapped_Unlapper_sample_2.l0 K p1 p0 (p0.length : Int) p2 p3 p4 p5 n) x34 x35 = some z1 := h1
    refine TC_seq ?_
    refine TC_reg ?_
    refine TL_ev env 1 rfl ⟨⟨tv, ⟨tv, tv⟩⟩, tv⟩ ?_
    refine TL_end ?_
    refine TE_go ?_
    refine TC_seq ?_
    refine TC_cond rfl (fun hb => ?_) (fun hb => ?_)
    · replace h1 := bif_t h1 hb
      refine TC_skip ?_
      refine TE_go ?_
      refine TC_seq ?_
      refine TC_blk ?_
      refine TC_seq ?_
      refine TC_reg ?_
      obtain ⟨g, h1⟩ := gd_t h1
      refine TL_ev env 5 rfl ⟨tv, ⟨⟨tv, ⟨tv, ⟨g.1, g.2⟩⟩⟩, ⟨⟨tv, tv⟩, ⟨tv, ⟨tv, tv⟩⟩⟩⟩⟩ ?_
      refine TL_end ?_
      refine TE_go ?_
      refine TC_reg ?_
      refine TL_ev env 8 rfl ⟨tv, ⟨tv, ⟨tv, ⟨tv, ⟨tv, ⟨tv, ⟨tv, ⟨tv, tv⟩⟩⟩⟩⟩⟩⟩⟩ ?_
      obtain ⟨r44, hr, h1⟩ := bnd h1
      refine TL_callB [(0, 0), (1, 1)] (lapped_tables_wave_2.ok0 hr) lapped_tables_wave_2.fnb rfl ⟨tv, ⟨tv, ⟨tv, ⟨tv, tv⟩⟩⟩⟩ rfl ⟨.inr rfl, .inr rfl, tv⟩ rfl ?_
      refine TL_ev env 3 rfl ⟨⟨tv, ⟨tv, tv⟩⟩, ⟨⟨tv, ⟨tv, tv⟩⟩, ⟨tv, tv⟩⟩⟩ ?_
      refine TL_end ?_
      refine tbn ?_
      refine TE_go ?_
      refine TC_reg ?_
      refine TL_ev env 2 rfl ⟨⟨tv, ⟨tv, tv⟩⟩, ⟨tv, tv⟩⟩ ?_
      refine TL_end ?_
      refine tsn ?_
      exact TE_nextr [] n (Nat.lt_succ_self n) (_, _) h1 ⟨rfl, rfl, rfl, rfl, rfl, rfl, tv⟩ ⟨rfl, rfl, tv⟩ rfl
    · replace h1 := bif_f h1 hb
      refine TC_exit ?_
      refine tsx ?_
      refine tsx ?_
      refine tbe ?_
      obtain rfl := sinj h1
      refine tsn ?_
      exact SP_ren [] _ rfl ⟨rfl, rfl, rfl, tv⟩ ⟨rfl, rfl, tv⟩ rfl
  · rintro x23 hz
    obtain rfl := hz.symm
    refine TE_go ?_
    refine TC_seq ?_
    refine TC_reg ?_
    refine TL_ev env 6 rfl ⟨tv, ⟨tv, ⟨tv, ⟨tv, ⟨⟨tv, tv⟩, ⟨tv, tv⟩⟩⟩⟩⟩⟩ ?_
    refine TL_end ?_
    refine TE_go ?_
    refine TC_seq ?_
    refine TC_reg ?_
    refine TL_ev env 1 rfl ⟨tv, tv⟩ ?_
    obtain ⟨r24, hr, h0⟩ := bnd h0
    refine TL_callB [] (fix_Round.ok0 hr) fix_Round.fnb rfl ⟨tv, ⟨tv, ⟨tv, tv⟩⟩⟩ rfl tv rfl ?_
    refine TL_ev env 5 rfl ⟨⟨tv, ⟨tv, tv⟩⟩, ⟨tv, ⟨⟨tv, ⟨tv, (by decide)⟩⟩, ⟨⟨tv, ⟨tv, tv⟩⟩, ⟨tv, tv⟩⟩⟩⟩⟩ ?_
    obtain ⟨r28, hr, h0⟩ := bnd h0
    refine TL_callB [] (lapped_down.ok0 hr) lapped_down.fnb rfl ⟨tv, ⟨tv, ⟨tv, tv⟩⟩⟩ rfl tv rfl ?_
    obtain ⟨r29, hr, h0⟩ := bnd h0
    refine TL_callB [] (fix_Sat32.ok0 hr) fix_Sat32.fnb rfl ⟨tv, ⟨tv, tv⟩⟩ rfl tv rfl ?_
    refine TL_ev env 1 rfl ⟨tv, tv⟩ ?_
    refine TL_end ?_
    refine TE_go ?_
    refine TC_seq ?_
    refine TC_reg ?_
    refine TL_ev env 6 rfl ⟨tv, ⟨tv, ⟨tv, ⟨tv, ⟨tv, ⟨tv, tv⟩⟩⟩⟩⟩⟩ ?_
    obtain ⟨r30, hr, h0⟩ := bnd h0
    refine TL_callB [(0, 0), (1, 1)] (lapped_tables_windowed_2.ok0 hr) lapped_tables_windowed_2.fnb rfl ⟨tv, ⟨tv, ⟨tv, ⟨tv, tv⟩⟩⟩⟩ rfl ⟨.inr rfl, .inr rfl, tv⟩ rfl ?_
    obtain ⟨r31, hr, h0⟩ := bnd h0
    refine TL_callB [] (fix_Sat32.ok0 hr) fix_Sat32.fnb rfl ⟨tv, ⟨tv, tv⟩⟩ rfl tv rfl ?_
    refine TL_ev env 1 rfl ⟨tv, tv⟩ ?_
    refine TL_end ?_
    refine TE_go ?_
    refine TC_ret ?_
    obtain rfl := sinj h0
    exact TE_ret env rfl tv ⟨.inr rfl, .inr rfl, tv⟩
theorem lapped_Unlapper_sample_2.ok0 {K : Nat} {p0 : List (Int)} {p1 : Int} {p2 : Int} {p3 : List (Int)} {p4 : List (Int)} {p5 : List (Int)} {q0 : Int} (h0 : lapped_Unlapper_sample_2 K p0 p1 p2 p3 p4 p5 = some q0) : Fn Try.prog 67 [.p 0 0, .im (.slice (.int .i32)) p0, .int .i64 p1] [(0, some (.cells [.int .i64 p2, .im (.slice (.int .i16)) p3, .im (.slice (.int .i16)) p4, .sl 1])), (1, some (.rows (.int .i32) p5))] (.int .i32 q0) [(0, some (.cells [.int .i64 p2, .im (.slice (.int .i16)) p3, .im (.slice (.int .i16)) p4, .sl 1])), (1, some (.rows (.int .i32) p5))] := lapped_Unlapper_sample_2.ok h0
theorem lapped_Unlapper_sample_2.fnb : fnb Try.prog 67 = true := fnb_of Try.func67 rfl
end Go.Fo
