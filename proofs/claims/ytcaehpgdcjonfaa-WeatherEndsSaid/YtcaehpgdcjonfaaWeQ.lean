/- The plain facts of the weather: what the calls answer, and that it is what the law asks. -/
import Derived.Test.YtcaehpgdcjonfaaWpF
import Derived.Test.YtcaehpgdcjonfaaN3
namespace Go.Fo
theorem bif_eq_t {α : Type} {b : Bool} {x y r : α} (hb : b = true) (h : x = r) : (bif b then x else y) = r := by rw [hb]; exact h
theorem bif_eq_f {α : Type} {b : Bool} {x y r : α} (hb : b = false) (h : y = r) : (bif b then x else y) = r := by rw [hb]; exact h
theorem bnd_eq {α β : Type} {o : Option α} {f : α → Option β} {x : α} {r : Option β} (h : o = some x) (k : f x = r) : o.bind f = r := by rw [h]; exact k
theorem gd_eq {α : Type} {C : Prop} [Decidable C] {x r : Option α} (h : C) (k : x = r) : gd C x = r := (gd_pos h).trans k
theorem k01 : kwrap .i64 1 = 1 := by rfl
theorem k12 : kwrap .i64 2 = 2 := by rfl
theorem k23 : kwrap .i64 3 = 3 := by rfl
theorem k34 : kwrap .i64 4 = 4 := by rfl
def skyOk (a b c d : Int) : Prop := 0 ≤ a ∧ a ≤ 65536 ∧ 0 ≤ b ∧ b ≤ 65536 ∧ 0 ≤ c ∧ c ≤ 65536 ∧ 0 ≤ d ∧ d ≤ 65536
instance (a b c d : Int) : Decidable (skyOk a b c d) := by unfold skyOk; infer_instance
theorem check_w (a b c d : Int) : weather_Check 300 a b c d = some (if skyOk a b c d then 0 else 1) := by
  have s0 : ∀ x, weather_Check.l0 300 a b c d 300 x = weather_Check.r0 300 a b c d (weather_Check.l0 300 a b c d 299) x := fun _ => rfl
  have s1 : ∀ x, weather_Check.l0 300 a b c d 299 x = weather_Check.r0 300 a b c d (weather_Check.l0 300 a b c d 298) x := fun _ => rfl
  have s2 : ∀ x, weather_Check.l0 300 a b c d 298 x = weather_Check.r0 300 a b c d (weather_Check.l0 300 a b c d 297) x := fun _ => rfl
  have s3 : ∀ x, weather_Check.l0 300 a b c d 297 x = weather_Check.r0 300 a b c d (weather_Check.l0 300 a b c d 296) x := fun _ => rfl
  have s4 : ∀ x, weather_Check.l0 300 a b c d 296 x = weather_Check.r0 300 a b c d (weather_Check.l0 300 a b c d 295) x := fun _ => rfl
  unfold weather_Check
  by_cases h0 : a < 0
  · rw [if_neg (show ¬ skyOk a b c d by unfold skyOk; omega)]; simp [s0, weather_Check.r0, gd, h0]
  by_cases h1 : a > 65536
  · rw [if_neg (show ¬ skyOk a b c d by unfold skyOk; omega)]; simp [s0, weather_Check.r0, gd, h0, h1]
  by_cases h2 : b < 0
  · rw [if_neg (show ¬ skyOk a b c d by unfold skyOk; omega)]; simp [s0, s1, weather_Check.r0, gd, h0, h1, h2, k01]
  by_cases h3 : b > 65536
  · rw [if_neg (show ¬ skyOk a b c d by unfold skyOk; omega)]; simp [s0, s1, weather_Check.r0, gd, h0, h1, h2, h3, k01]
  by_cases h4 : c < 0
  · rw [if_neg (show ¬ skyOk a b c d by unfold skyOk; omega)]; simp [s0, s1, s2, weather_Check.r0, gd, h0, h1, h2, h3, h4, k01, k12]
  by_cases h5 : c > 65536
  · rw [if_neg (show ¬ skyOk a b c d by unfold skyOk; omega)]; simp [s0, s1, s2, weather_Check.r0, gd, h0, h1, h2, h3, h4, h5, k01, k12]
  by_cases h6 : d < 0
  · rw [if_neg (show ¬ skyOk a b c d by unfold skyOk; omega)]; simp [s0, s1, s2, s3, weather_Check.r0, gd, h0, h1, h2, h3, h4, h5, h6, k01, k12, k23]
  by_cases h7 : d > 65536
  · rw [if_neg (show ¬ skyOk a b c d by unfold skyOk; omega)]; simp [s0, s1, s2, s3, weather_Check.r0, gd, h0, h1, h2, h3, h4, h5, h6, h7, k01, k12, k23]
  rw [if_pos (show skyOk a b c d by unfold skyOk; omega)]; simp [s0, s1, s2, s3, s4, weather_Check.r0, gd, h0, h1, h2, h3, h4, h5, h6, h7, k01, k12, k23, k34]
theorem check_ref (a b c d : Int) : psalteryref32_Check 300 a b c d = some (decide (skyOk a b c d)) := by
  simp only [psalteryref32_Check]
  congr 1
  unfold skyOk
  simp only [ge_iff_le, Bool.cond_eq_ite]
  by_cases h1 : 0 ≤ a <;> by_cases h2 : a ≤ 65536 <;> by_cases h3 : 0 ≤ b <;> by_cases h4 : b ≤ 65536 <;> by_cases h5 : 0 ≤ c <;> by_cases h6 : c ≤ 65536 <;> by_cases h7 : 0 ≤ d <;> by_cases h8 : d ≤ 65536 <;> simp [h1, h2, h3, h4, h5, h6, h7, h8]
/-- the next seed -/
def sd (x : Int) : Int := (x * 1664525 + 1013904223) % 4294967296
theorem draw_w (a b c d x : Int) (f : Bool) : weather_Weather_Draw_2 300 a b c d x f = some (sd x / 65536, sd x) := by
  have e1 : kwrap .u32 (kwrap .u32 (1664525 * x) + 1013904223) = sd x := by rw [kw_u32, kw_u32]; unfold sd; omega
  have hs : 0 ≤ sd x ∧ sd x < 4294967296 := by unfold sd; omega
  have e2 : kshr .u32 (sd x) 16 = sd x / 65536 := by
    unfold kshr
    rw [Int.fdiv_eq_ediv_of_nonneg _ (by decide)]
    rfl
  simp only [weather_Weather_Draw_2, e1, e2]
  rw [kw_i64 (by omega) (by omega)]
theorem draw_r (a b c d x : Int) (f : Bool) : psalteryref32_Weather_Draw 300 a b c d x f = some (sd x, sd x / 65536) := by
  have e1 : Int.tmod (kwrap .u64 (kwrap .u64 (x * 1664525) + 1013904223)) 4294967296 = sd x := by
    rw [kw_u64, kw_u64, Int.tmod_eq_emod_of_nonneg (by omega)]; unfold sd; omega
  have hs : 0 ≤ sd x ∧ sd x < 4294967296 := by unfold sd; omega
  simp only [psalteryref32_Weather_Draw, e1]
  rw [Int.tdiv_eq_ediv_of_nonneg hs.1, kw_u64, kw_i64 (by omega) (by omega)]
  congr 3
  omega
/-- the sky behind one step, and whether something is lost -/
def fr (a b x : Int) (f : Bool) : Bool := bif f then !(decide (sd x / 65536 < a)) else decide (sd x / 65536 < b)
def lo (a b c d x : Int) (f : Bool) : Bool := decide (sd (sd x) / 65536 < (bif fr a b x f then c else d))
theorem lost_r (a b c d x : Int) (f : Bool) : psalteryref32_Weather_Lost 300 a b c d x f = some (sd (sd x), fr a b x f, lo a b c d x f) := by
  simp only [psalteryref32_Weather_Lost, draw_r, Option.bind_some, fr, lo]
  cases f <;> by_cases h : sd x / 65536 < a <;> by_cases h' : sd x / 65536 < b <;> simp [h, h']
theorem lost_w (a b c d x : Int) (f : Bool) : weather_Weather_Lost 300 a b c d x (!f) = some (lo a b c d x f, sd (sd x), !(fr a b x f)) := by
  simp only [weather_Weather_Lost, weather_Weather_of, weather_Weather_comes, draw_w, Option.bind_some, fr, lo]
  cases f <;> by_cases h : sd x / 65536 < a <;> by_cases h' : sd x / 65536 < b <;> simp [h, h']
def bitf (t : Bool) : Int := bif t then 1 else 0
theorem bit_w (t : Bool) : weather_bit 300 t = some (bitf t) := by cases t <;> rfl
/-- so many rows, and the sky behind them -/
def rowf (a b c d : Int) : Nat → Int → Bool → List (Int × (Int × (Int × Int))) × Int × Bool
  | 0, x, f => ([], x, f)
  | k + 1, x, f => ((bitf (lo a b c d x f), (bitf (lo a b c d (sd (sd x)) (fr a b x f)), (0, 0))) :: (rowf a b c d k (sd (sd (sd (sd x)))) (fr a b (sd (sd x)) (fr a b x f))).1, (rowf a b c d k (sd (sd (sd (sd x)))) (fr a b (sd (sd x)) (fr a b x f))).2)
theorem rowf_len (a b c d : Int) : ∀ (k : Nat) (x : Int) (f : Bool), (rowf a b c d k x f).1.length = k
  | 0, _, _ => rfl
  | k + 1, x, f => by simp only [rowf, List.length_cons, rowf_len a b c d k]
theorem row_step (n a b c d : Int) (m : Nat) (i x : Int) (f : Bool) (acc : List (Int × (Int × (Int × Int)))) : weather_Weather_Row_2.l0 300 n a b c d (m + 1) i x f acc = weather_Weather_Row_2.r0 300 n a b c d (weather_Weather_Row_2.l0 300 n a b c d m) i x f acc := rfl
theorem row_one (n a b c d : Int) (hn : n ≤ 64) (m : Nat) (i x : Int) (f : Bool) (acc : List (Int × (Int × (Int × Int)))) (h0 : 0 ≤ i) (hi : i < n) (h2 : (acc.length : Int) = i) :
    weather_Weather_Row_2.l0 300 n a b c d (m + 1) i x (!f) acc = weather_Weather_Row_2.l0 300 n a b c d m (i + 1) (sd (sd (sd (sd x)))) (!(fr a b (sd (sd x)) (fr a b x f))) (acc ++ [(bitf (lo a b c d x f), (bitf (lo a b c d (sd (sd x)) (fr a b x f)), (0, 0)))]) := by
  rw [row_step]
  refine bif_eq_t (decide_eq_true hi) ?_
  refine bnd_eq (lost_w a b c d x f) ?_
  refine bnd_eq (bit_w _) ?_
  refine bnd_eq (lost_w a b c d _ _) ?_
  refine bnd_eq (bit_w _) ?_
  refine gd_eq (by simp only [List.length_cons, List.length_nil]; omega) ?_
  rw [kw_i64 (by omega) (by omega)]
theorem row_w (n a b c d : Int) (hn : n ≤ 64) (k : Nat) : ∀ (m : Nat) (i x : Int) (f : Bool) (acc : List (Int × (Int × (Int × Int)))), k < m → 0 ≤ i → i + k = n → (acc.length : Int) = i →
    weather_Weather_Row_2.l0 300 n a b c d m i x (!f) acc = some ((rowf a b c d k x f).2.1, !(rowf a b c d k x f).2.2, acc ++ (rowf a b c d k x f).1) := by
  induction k with
  | zero =>
    intro m i x f acc h h0 h1 h2
    obtain ⟨m, rfl⟩ : ∃ q, m = q + 1 := ⟨m - 1, by omega⟩
    rw [row_step]
    have : ¬ i < n := by omega
    simp [weather_Weather_Row_2.r0, this, rowf]
  | succ k ih =>
    intro m i x f acc h h0 h1 h2
    obtain ⟨m, rfl⟩ : ∃ q, m = q + 1 := ⟨m - 1, by omega⟩
    rw [row_one n a b c d hn m i x f acc h0 (by omega) h2, ih m (i + 1) _ _ _ (by omega) (by omega) (by omega) (by simp; omega)]
    simp [rowf]
theorem nth_drop {k : Kd} {l : List k.T} {i : Nat} {y : k.T} {t : List k.T} (h : l.drop i = y :: t) : k.nth l i = y := by
  have h1 : l[i]? = some y := by
    have : (l.drop i)[0]? = l[i]? := by rw [List.getElem?_drop, Nat.add_zero]
    rw [← this, h]; rfl
  unfold Kd.nth; rw [List.getD_eq_getElem?_getD, h1]; rfl
theorem drop_tail {α : Type} {l : List α} {i : Nat} {y : α} {t : List α} (h : l.drop i = y :: t) : l.drop (i + 1) = t := by
  rw [← List.drop_drop, h]; rfl
theorem rows_w (v a b c d x : Int) (f : Bool) (k : Nat) (hk : (k : Int) = imin (imax v 0) 64) : weather_Weather_Row_2 300 v a b c d x (!f) = some ((rowf a b c d k x f).1, (rowf a b c d k x f).2.1, !(rowf a b c d k x f).2.2) := by
  have h64 : imin (imax v 0) 64 ≤ 64 := by unfold imin; split <;> omega
  refine bnd_eq (row_w _ a b c d h64 k 300 0 x f [] (by omega) (by omega) (by omega) rfl) ?_
  rw [List.nil_append]
theorem ends_step (c0 a b : Int) (m : Nat) (i x : Int) (f : Bool) (y : Int) (g : Bool) : psalterylaw32_WeatherEnds.l3 300 c0 a b (m + 1) i x f y g = psalterylaw32_WeatherEnds.r3 300 c0 a b (psalterylaw32_WeatherEnds.l3 300 c0 a b m) i x f y g := rfl
theorem ends_same (c0 a b : Int) (m : Nat) : psalterylaw32_WeatherEnds.l18 300 c0 a b m = psalterylaw32_WeatherEnds.l3 300 c0 a b m := rfl
theorem never (a b x : Int) (f : Bool) : lo a b 0 0 x f = false := by
  unfold lo
  have : 0 ≤ sd (sd x) / 65536 := Int.ediv_nonneg (by unfold sd; omega) (by decide)
  cases fr a b x f <;> exact decide_eq_false (by simp; omega)
theorem always (a b x : Int) (f : Bool) : lo a b 65536 65536 x f = true := by
  unfold lo
  have h : sd (sd x) < 4294967296 := by unfold sd; omega
  have : sd (sd x) / 65536 < 65536 := by omega
  cases fr a b x f <;> exact decide_eq_true (by simpa using this)
theorem bxor_self (b : Bool) : (!(b == b)) = false := by cases b <;> rfl
theorem ends_w (c0 a b : Int) (hc : 0 ≤ c0) (hc' : c0 < 256) (k : Nat) : ∀ (m : Nat) (i x : Int) (f : Bool), k < m → 0 ≤ i → i + k = c0 →
    psalterylaw32_WeatherEnds.l3 300 c0 a b m i x (!f) x (!f) = some (.inl ()) := by
  have e : kwrap .i64 c0 = c0 := kw_i64 (by omega) (by omega)
  induction k with
  | zero =>
    intro m i x f h h0 h1
    obtain ⟨m, rfl⟩ : ∃ q, m = q + 1 := ⟨m - 1, by omega⟩
    rw [ends_step]
    exact bif_eq_f (decide_eq_false (by rw [e]; omega)) rfl
  | succ k ih =>
    intro m i x f h h0 h1
    obtain ⟨m, rfl⟩ : ∃ q, m = q + 1 := ⟨m - 1, by omega⟩
    rw [ends_step]
    refine bif_eq_t (decide_eq_true (by rw [e]; omega)) ?_
    refine bnd_eq (x := (false, sd (sd x), !(fr a b x f), sd (sd x), !(fr a b x f))) ?_ ?_
    · refine bnd_eq ((lost_w a b 0 0 x f).trans (by rw [never])) ?_
      refine bif_eq_f rfl ?_
      refine bnd_eq ((lost_w a b 65536 65536 x f).trans (by rw [always])) ?_
      refine bif_eq_f rfl ?_
      refine bnd_eq (x := fr a b x f) (by cases fr a b x f <;> rfl) ?_
      refine bnd_eq (x := fr a b x f) (by cases fr a b x f <;> rfl) ?_
      rw [bxor_self]
    · refine bif_eq_f rfl ?_
      rw [kw_i64 (by omega) (by omega)]
      exact ih m (i + 1) _ _ (by omega) (by omega) (by omega)
theorem same_step (c0 c1 c4 c5 c6 c7 : Int) (l l' : List (Int × (Int × (Int × Int)))) (m : Nat) (i : Int) : psalterylaw32_WeatherEnds.l19 300 c0 c1 l l' c4 c5 c6 c7 (m + 1) i = psalterylaw32_WeatherEnds.r19 300 c0 c1 l l' c4 c5 c6 c7 (psalterylaw32_WeatherEnds.l19 300 c0 c1 l l' c4 c5 c6 c7 m) i := rfl
theorem same_w (c0 c1 c4 c5 c6 c7 : Int) (l : List (Int × (Int × (Int × Int)))) (hl : l.length ≤ 64) (k : Nat) : ∀ (m : Nat) (i : Int), k < m → 0 ≤ i → i + k = (l.length : Int) →
    psalterylaw32_WeatherEnds.l19 300 c0 c1 l l c4 c5 c6 c7 m i = some (.inl ()) := by
  induction k with
  | zero =>
    intro m i h h0 h1
    obtain ⟨m, rfl⟩ : ∃ q, m = q + 1 := ⟨m - 1, by omega⟩
    rw [same_step]
    exact bif_eq_f (decide_eq_false (by omega)) rfl
  | succ k ih =>
    intro m i h h0 h1
    obtain ⟨m, rfl⟩ : ∃ q, m = q + 1 := ⟨m - 1, by omega⟩
    rw [same_step]
    refine bif_eq_t (decide_eq_true (by omega)) ?_
    refine gd_eq ⟨fun _ => h0, fun _ => by omega⟩ ?_
    refine gd_eq ⟨fun _ => h0, fun _ => by omega⟩ ?_
    refine bif_eq_f ?_ ?_
    · rw [decide_eq_false (by omega : ¬ i ≥ (l.length : Int))]
      simp
    rw [kw_i64 (by omega) (by omega)]
    exact ih m (i + 1) (by omega) (by omega) (by omega)
theorem masked (a b c : Int) (hc : c = 0 ∨ c = 65536) : skyOk (kand .i64 a 65535) (kand .i64 b 65535) c c := by
  rw [kand_65535, kand_65535]; unfold skyOk; omega
theorem new_ok (a b c d x : Int) (h : skyOk a b c d) : weather_New 300 a b c d x = some (.inr ()) := bnd_eq ((check_w a b c d).trans (by rw [if_pos h])) rfl
theorem new_no (a b c d x : Int) (h : ¬ skyOk a b c d) : weather_New 300 a b c d x = some (.inl 1) := bnd_eq ((check_w a b c d).trans (by rw [if_neg h])) rfl
theorem ends (a b c d x n : Int) (hn : 0 ≤ n) (hn' : n < 256) : psalterylaw32_WeatherEnds 300 a b c d x n = some true := by
  refine bnd_eq (show psalterylaw32_alive 300 = some true from rfl) ?_
  refine bif_eq_f rfl ?_
  have q1 := masked a b 0 (.inl rfl)
  have q2 := masked a b 65536 (.inr rfl)
  have fin := ends_w n (kand .i64 a 65535) (kand .i64 b 65535) hn hn' n.toNat 300 0 x true (by omega) (by omega) (by omega)
  by_cases hs : skyOk a b c d
  · refine bnd_eq (new_ok a b c d x hs) ?_
    refine bnd_eq (new_ok a b c d x hs) ?_
    have e : kwrap .i64 n = n := kw_i64 (by omega) (by omega)
    obtain ⟨q, hq⟩ : ∃ q : Nat, (q : Int) = imin (imax (kwrap .i64 n) 0) 64 := by
      refine ⟨(imin (imax (kwrap .i64 n) 0) 64).toNat, ?_⟩
      have : 0 ≤ imin (imax (kwrap .i64 n) 0) 64 := by unfold imin imax; split <;> split <;> omega
      omega
    have hq64 : q ≤ 64 := by
      have : imin (imax (kwrap .i64 n) 0) 64 ≤ 64 := by unfold imin; split <;> omega
      omega
    refine bnd_eq (rows_w _ a b c d x true q hq) ?_
    refine bnd_eq (rows_w _ a b c d x true q hq) ?_
    refine bnd_eq (x := .inl ()) (same_w _ _ _ _ _ _ _ (by rw [rowf_len]; omega) q 300 0 (by omega) (by omega) (by rw [rowf_len]; omega)) ?_
    refine bnd_eq (new_ok _ _ _ _ x q1) ?_
    refine bnd_eq (new_ok _ _ _ _ x q2) ?_
    rw [ends_same]
    exact bnd_eq fin rfl
  · refine bnd_eq (new_no a b c d x hs) ?_
    refine bnd_eq (new_no a b c d x hs) ?_
    refine bif_eq_f rfl ?_
    refine bnd_eq (x := ()) (bif_eq_f rfl rfl) ?_
    refine bnd_eq (new_ok _ _ _ _ x q1) ?_
    refine bnd_eq (new_ok _ _ _ _ x q2) ?_
    exact bnd_eq fin rfl
end Go.Fo
