/- The weather of a storm: the program's rows are the document's. -/
import Derived.Test.YtphienllhdoenaaDoorSc5Sv
namespace Go.Fo
set_option maxRecDepth 6000
theorem check_ok (K : Nat) (hK : 5 ≤ K) {a b c d : Int} (ha : 0 ≤ a ∧ a ≤ 65536) (hb : 0 ≤ b ∧ b ≤ 65536) (hc : 0 ≤ c ∧ c ≤ 65536) (hd : 0 ≤ d ∧ d ≤ 65536) : weather_Check K a b c d = some 0 := by
  refine bnd_eq (x := .inl ()) (cnt_loop0 4 _ (fun next k hk => ?_) (fun next => rfl) hK) rfl
  obtain ⟨y, hy1, hy2⟩ : ∃ y, List.getD [a, b, c, d] (Int.toNat (k : Int)) 0 = y ∧ (0 ≤ y ∧ y ≤ 65536) := by
    match k, hk with
    | 0, _ => exact ⟨a, rfl, ha⟩
    | 1, _ => exact ⟨b, rfl, hb⟩
    | 2, _ => exact ⟨c, rfl, hc⟩
    | 3, _ => exact ⟨d, rfl, hd⟩
  refine bif_eq_t (decide_eq_true (by omega)) ?_
  dsimp only
  refine gd_eq (by omega) ?_
  rw [hy1]
  refine bif_eq_f (by rw [decide_eq_false (by omega), decide_eq_false (by omega)]; rfl) ?_
  rw [kw_i64 (by omega) (by omega)]; rfl
/-- the next seed -/
def sd (x : Int) : Int := (x * 1664525 + 1013904223) % 4294967296
theorem draw_w (K : Nat) (a b c d x : Int) (f : Bool) : weather_Weather_Draw K a b c d x f = some (sd x / 65536, sd x) := by
  have e1 : kwrap .u32 (kwrap .u32 (1664525 * x) + 1013904223) = sd x := by rw [kw_u32, kw_u32]; unfold sd; omega
  have hs : 0 ≤ sd x ∧ sd x < 4294967296 := by unfold sd; omega
  have e2 : kshr .u32 (sd x) 16 = sd x / 65536 := by
    unfold kshr
    rw [Int.fdiv_eq_ediv_of_nonneg _ (by decide)]
    rfl
  simp only [weather_Weather_Draw, e1, e2]
  rw [kw_i64 (by omega) (by omega)]
/-- the sky behind one step, and whether something is lost -/
def fr (a b x : Int) (f : Bool) : Bool := bif f then !(decide (sd x / 65536 < a)) else decide (sd x / 65536 < b)
def lo (a b c d x : Int) (f : Bool) : Bool := decide (sd (sd x) / 65536 < (bif fr a b x f then c else d))
theorem lost_w (K : Nat) (a b c d x : Int) (f : Bool) : weather_Weather_Lost K a b c d x (!f) = some (lo a b c d x f, sd (sd x), !(fr a b x f)) := by
  simp only [weather_Weather_Lost, weather_Weather_of, weather_Weather_comes, draw_w, Option.bind_some, fr, lo]
  cases f <;> by_cases h : sd x / 65536 < a <;> by_cases h' : sd x / 65536 < b <;> simp [h, h']
def bitf (t : Bool) : Int := bif t then 1 else 0
theorem bit_w (K : Nat) (t : Bool) : weather_bit K t = some (bitf t) := by cases t <;> rfl
/-- so many rows, and the sky behind them -/
def rowf (a b c d : Int) : Nat → Int → Bool → List Slot × Int × Bool
  | 0, x, f => ([], x, f)
  | k + 1, x, f => ((bitf (lo a b c d x f), (bitf (lo a b c d (sd (sd x)) (fr a b x f)), (0, 0))) :: (rowf a b c d k (sd (sd (sd (sd x)))) (fr a b (sd (sd x)) (fr a b x f))).1, (rowf a b c d k (sd (sd (sd (sd x)))) (fr a b (sd (sd x)) (fr a b x f))).2)
theorem rowf_len (a b c d : Int) : ∀ (k : Nat) (x : Int) (f : Bool), (rowf a b c d k x f).1.length = k
  | 0, _, _ => rfl
  | k + 1, x, f => by simp only [rowf, List.length_cons, rowf_len a b c d k]
theorem row_w (K : Nat) (n a b c d : Int) (hn : n ≤ 64) (k : Nat) : ∀ (m : Nat) (i x : Int) (f : Bool) (acc : List Slot), k < m → 0 ≤ i → i + k = n → (acc.length : Int) = i →
    weather_Weather_Row_2.l0 K n a b c d m i x (!f) acc = some ((rowf a b c d k x f).2.1, !(rowf a b c d k x f).2.2, acc ++ (rowf a b c d k x f).1) := by
  induction k with
  | zero =>
    intro m i x f acc h h0 h1 h2
    obtain ⟨m, rfl⟩ : ∃ q, m = q + 1 := ⟨m - 1, by omega⟩
    show weather_Weather_Row_2.r0 K n a b c d _ i x (!f) acc = _
    refine bif_eq_f (decide_eq_false (by omega)) ?_
    simp [rowf]
  | succ k ih =>
    intro m i x f acc h h0 h1 h2
    obtain ⟨m, rfl⟩ : ∃ q, m = q + 1 := ⟨m - 1, by omega⟩
    show weather_Weather_Row_2.r0 K n a b c d (weather_Weather_Row_2.l0 K n a b c d m) i x (!f) acc = _
    refine bif_eq_t (decide_eq_true (by omega)) ?_
    refine bnd_eq (lost_w K a b c d x f) ?_
    refine bnd_eq (bit_w K _) ?_
    refine bnd_eq (lost_w K a b c d _ _) ?_
    refine bnd_eq (bit_w K _) ?_
    refine gd_eq (by simp only [List.length_cons, List.length_nil]; omega) ?_
    rw [kw_i64 (by omega) (by omega), ih m (i + 1) _ _ _ (by omega) (by omega) (by omega) (by simp; omega)]
    simp [rowf]
theorem rows_w (K : Nat) (a b c d x : Int) (f : Bool) (k : Nat) (hk : k ≤ 64) (hK : 65 ≤ K) : weather_Weather_Row_2 K (k : Int) a b c d x (!f) = some ((rowf a b c d k x f).1, (rowf a b c d k x f).2.1, !(rowf a b c d k x f).2.2) := by
  have h64 : imin (imax (k : Int) 0) 64 = (k : Int) := by unfold imin imax; split <;> split <;> omega
  unfold weather_Weather_Row_2
  rw [h64]
  refine bnd_eq (row_w K _ a b c d (by omega) k K 0 x f [] (by omega) (by omega) (by omega) rfl) ?_
  rw [List.nil_append]
/-- so many steps, of so many slots each -/
def stormf (a b c d : Int) (s : Nat) : Nat → Int → Bool → List Step 
  | 0, _, _ => []
  | k + 1, x, f => (4, (0, (([] : List (Int)), (([] : List (Int)), (([] : List (Int)), (rowf a b c d s x f).1))))) :: stormf a b c d s k (rowf a b c d s x f).2.1 (rowf a b c d s x f).2.2
theorem stormf_len (a b c d : Int) (s : Nat) : ∀ (k : Nat) (x : Int) (f : Bool), (stormf a b c d s k x f).length = k
  | 0, _, _ => rfl
  | k + 1, x, f => by simp only [stormf, List.length_cons, stormf_len a b c d s k]
theorem stormf_mem (a b c d : Int) (s : Nat) : ∀ (k : Nat) (x : Int) (f : Bool), ∀ y ∈ stormf a b c d s k x f, y.2.2.1.length = 0 ∧ y.2.2.2.2.2.length = s
  | 0, _, _, y, h => by cases h
  | k + 1, x, f, y, h => by
    rcases List.mem_cons.1 h with rfl | h
    · exact ⟨rfl, rowf_len ..⟩
    · exact stormf_mem a b c d s k _ _ y h
theorem storm_w (K : Nat) (hK : 65 ≤ K) (s : Nat) (hs : s ≤ 64) (n a b c d : Int) (hn : n ≤ 64) (ws : List ByteArray) (bad : Bool) (k : Nat) : ∀ (m : Nat) (i x : Int) (f : Bool) (acc : List Step), k < m → 0 ≤ i → i + k = n → (acc.length : Int) = i →
    score_reader_storm_2.l1 K (s : Int) n ws bad a b c d m i x (!f) acc = some (acc ++ stormf a b c d s k x f) := by
  induction k with
  | zero =>
    intro m i x f acc h h0 h1 h2
    obtain ⟨m, rfl⟩ : ∃ q, m = q + 1 := ⟨m - 1, by omega⟩
    show score_reader_storm_2.r1 K (s : Int) n ws bad a b c d _ i x (!f) acc = _
    refine bif_eq_f (decide_eq_false (by omega)) ?_
    simp [stormf]
  | succ k ih =>
    intro m i x f acc h h0 h1 h2
    obtain ⟨m, rfl⟩ : ∃ q, m = q + 1 := ⟨m - 1, by omega⟩
    show score_reader_storm_2.r1 K (s : Int) n ws bad a b c d (score_reader_storm_2.l1 K (s : Int) n ws bad a b c d m) i x (!f) acc = _
    refine bif_eq_t (decide_eq_true (by omega)) ?_
    refine bnd_eq (rows_w K a b c d x f s hs hK) ?_
    refine gd_eq (by simp only [List.length_cons, List.length_nil]; omega) ?_
    rw [kw_i64 (by omega) (by omega), ih m (i + 1) _ _ _ (by omega) (by omega) (by omega) (by simp; omega)]
    simp [stormf]
end Go.Fo
