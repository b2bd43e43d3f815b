/- The plain facts of the weather: what the calls answer, and that it is what the law asks. -/
import Derived.Test.YtcaehpgdcjonfaaWpF
import Derived.Test.YtcaehpgdcjonfaaN1
namespace Go.Fo
theorem bif_eq_t {α : Type} {b : Bool} {x y r : α} (hb : b = true) (h : x = r) : (bif b then x else y) = r := by rw [hb]; exact h
theorem bif_eq_f {α : Type} {b : Bool} {x y r : α} (hb : b = false) (h : y = r) : (bif b then x else y) = r := by rw [hb]; exact h
theorem bnd_eq {α β : Type} {o : Option α} {f : α → Option β} {x : α} {r : Option β} (h : o = some x) (k : f x = r) : o.bind f = r := by rw [h]; exact k
theorem gd_eq {α : Type} {C : Prop} [Decidable C] {x r : Option α} (h : C) (k : x = r) : gd C x = r := (gd_pos h).trans k
theorem k01 : kwrap .i64 1 = 1 := by rfl
theorem k12 : kwrap .i64 2 = 2 := by rfl
theorem k23 : kwrap .i64 3 = 3 := by rfl
theorem k34 : kwrap .i64 4 = 4 := by rfl
def skyOk (a b c d : Int) : Prop := 0 ≤ a ∧ a ≤ 65536 ∧ 0 ≤ b ∧ b ≤ 65536 ∧ 0 ≤ c ∧ c ≤ 65536 ∧ 0 ≤ d ∧ d ≤ 65536
instance (a b c d : Int) : Decidable (skyOk a b c d) := by unfold skyOk; infer_instance
theorem check_w (a b c d : Int) : weather_Check 70 a b c d = some (if skyOk a b c d then 0 else 1) := by
  have s0 : ∀ x, weather_Check.l0 70 a b c d 70 x = weather_Check.r0 70 a b c d (weather_Check.l0 70 a b c d 69) x := fun _ => rfl
  have s1 : ∀ x, weather_Check.l0 70 a b c d 69 x = weather_Check.r0 70 a b c d (weather_Check.l0 70 a b c d 68) x := fun _ => rfl
  have s2 : ∀ x, weather_Check.l0 70 a b c d 68 x = weather_Check.r0 70 a b c d (weather_Check.l0 70 a b c d 67) x := fun _ => rfl
  have s3 : ∀ x, weather_Check.l0 70 a b c d 67 x = weather_Check.r0 70 a b c d (weather_Check.l0 70 a b c d 66) x := fun _ => rfl
  have s4 : ∀ x, weather_Check.l0 70 a b c d 66 x = weather_Check.r0 70 a b c d (weather_Check.l0 70 a b c d 65) x := fun _ => rfl
  unfold weather_Check
  by_cases h0 : a < 0
  · rw [if_neg (show ¬ skyOk a b c d by unfold skyOk; omega)]; simp [s0, weather_Check.r0, gd, h0]
  by_cases h1 : a > 65536
  · rw [if_neg (show ¬ skyOk a b c d by unfold skyOk; omega)]; simp [s0, weather_Check.r0, gd, h0, h1]
  by_cases h2 : b < 0
  · rw [if_neg (show ¬ skyOk a b c d by unfold skyOk; omega)]; simp [s0, s1, weather_Check.r0, gd, h0, h1, h2, k01]
  by_cases h3 : b > 65536
  · rw [if_neg (show ¬ skyOk a b c d by unfold skyOk; omega)]; simp [s0, s1, weather_Check.r0, gd, h0, h1, h2, h3, k01]
  by_cases h4 : c < 0
  · rw [if_neg (show ¬ skyOk a b c d by unfold skyOk; omega)]; simp [s0, s1, s2, weather_Check.r0, gd, h0, h1, h2, h3, h4, k01, k12]
  by_cases h5 : c > 65536
  · rw [if_neg (show ¬ skyOk a b c d by unfold skyOk; omega)]; simp [s0, s1, s2, weather_Check.r0, gd, h0, h1, h2, h3, h4, h5, k01, k12]
  by_cases h6 : d < 0
  · rw [if_neg (show ¬ skyOk a b c d by unfold skyOk; omega)]; simp [s0, s1, s2, s3, weather_Check.r0, gd, h0, h1, h2, h3, h4, h5, h6, k01, k12, k23]
  by_cases h7 : d > 65536
  · rw [if_neg (show ¬ skyOk a b c d by unfold skyOk; omega)]; simp [s0, s1, s2, s3, weather_Check.r0, gd, h0, h1, h2, h3, h4, h5, h6, h7, k01, k12, k23]
  rw [if_pos (show skyOk a b c d by unfold skyOk; omega)]; simp [s0, s1, s2, s3, s4, weather_Check.r0, gd, h0, h1, h2, h3, h4, h5, h6, h7, k01, k12, k23, k34]
theorem check_ref (a b c d : Int) : psalteryref32_Check 70 a b c d = some (decide (skyOk a b c d)) := by
  simp only [psalteryref32_Check]
  congr 1
  unfold skyOk
  simp only [ge_iff_le, Bool.cond_eq_ite]
  by_cases h1 : 0 ≤ a <;> by_cases h2 : a ≤ 65536 <;> by_cases h3 : 0 ≤ b <;> by_cases h4 : b ≤ 65536 <;> by_cases h5 : 0 ≤ c <;> by_cases h6 : c ≤ 65536 <;> by_cases h7 : 0 ≤ d <;> by_cases h8 : d ≤ 65536 <;> simp [h1, h2, h3, h4, h5, h6, h7, h8]
/-- the next seed -/
def sd (x : Int) : Int := (x * 1664525 + 1013904223) % 4294967296
theorem draw_w (a b c d x : Int) (f : Bool) : weather_Weather_Draw_2 70 a b c d x f = some (sd x / 65536, sd x) := by
  have e1 : kwrap .u32 (kwrap .u32 (1664525 * x) + 1013904223) = sd x := by rw [kw_u32, kw_u32]; unfold sd; omega
  have hs : 0 ≤ sd x ∧ sd x < 4294967296 := by unfold sd; omega
  have e2 : kshr .u32 (sd x) 16 = sd x / 65536 := by
    unfold kshr
    rw [Int.fdiv_eq_ediv_of_nonneg _ (by decide)]
    rfl
  simp only [weather_Weather_Draw_2, e1, e2]
  rw [kw_i64 (by omega) (by omega)]
theorem draw_r (a b c d x : Int) (f : Bool) : psalteryref32_Weather_Draw 70 a b c d x f = some (sd x, sd x / 65536) := by
  have e1 : Int.tmod (kwrap .u64 (kwrap .u64 (x * 1664525) + 1013904223)) 4294967296 = sd x := by
    rw [kw_u64, kw_u64, Int.tmod_eq_emod_of_nonneg (by omega)]; unfold sd; omega
  have hs : 0 ≤ sd x ∧ sd x < 4294967296 := by unfold sd; omega
  simp only [psalteryref32_Weather_Draw, e1]
  rw [Int.tdiv_eq_ediv_of_nonneg hs.1, kw_u64, kw_i64 (by omega) (by omega)]
  congr 3
  omega
/-- the sky behind one step, and whether something is lost -/
def fr (a b x : Int) (f : Bool) : Bool := bif f then !(decide (sd x / 65536 < a)) else decide (sd x / 65536 < b)
def lo (a b c d x : Int) (f : Bool) : Bool := decide (sd (sd x) / 65536 < (bif fr a b x f then c else d))
theorem lost_r (a b c d x : Int) (f : Bool) : psalteryref32_Weather_Lost 70 a b c d x f = some (sd (sd x), fr a b x f, lo a b c d x f) := by
  simp only [psalteryref32_Weather_Lost, draw_r, Option.bind_some, fr, lo]
  cases f <;> by_cases h : sd x / 65536 < a <;> by_cases h' : sd x / 65536 < b <;> simp [h, h']
theorem lost_w (a b c d x : Int) (f : Bool) : weather_Weather_Lost 70 a b c d x (!f) = some (lo a b c d x f, sd (sd x), !(fr a b x f)) := by
  simp only [weather_Weather_Lost, weather_Weather_of, weather_Weather_comes, draw_w, Option.bind_some, fr, lo]
  cases f <;> by_cases h : sd x / 65536 < a <;> by_cases h' : sd x / 65536 < b <;> simp [h, h']
def bitf (t : Bool) : Int := bif t then 1 else 0
theorem bit_w (t : Bool) : weather_bit 70 t = some (bitf t) := by cases t <;> rfl
/-- so many rows, and the sky behind them -/
def rowf (a b c d : Int) : Nat → Int → Bool → List (Int × (Int × (Int × Int))) × Int × Bool
  | 0, x, f => ([], x, f)
  | k + 1, x, f => ((bitf (lo a b c d x f), (bitf (lo a b c d (sd (sd x)) (fr a b x f)), (0, 0))) :: (rowf a b c d k (sd (sd (sd (sd x)))) (fr a b (sd (sd x)) (fr a b x f))).1, (rowf a b c d k (sd (sd (sd (sd x)))) (fr a b (sd (sd x)) (fr a b x f))).2)
theorem rowf_len (a b c d : Int) : ∀ (k : Nat) (x : Int) (f : Bool), (rowf a b c d k x f).1.length = k
  | 0, _, _ => rfl
  | k + 1, x, f => by simp only [rowf, List.length_cons, rowf_len a b c d k]
theorem row_step (n a b c d : Int) (m : Nat) (i x : Int) (f : Bool) (acc : List (Int × (Int × (Int × Int)))) : weather_Weather_Row_2.l0 70 n a b c d (m + 1) i x f acc = weather_Weather_Row_2.r0 70 n a b c d (weather_Weather_Row_2.l0 70 n a b c d m) i x f acc := rfl
theorem row_one (n a b c d : Int) (hn : n ≤ 64) (m : Nat) (i x : Int) (f : Bool) (acc : List (Int × (Int × (Int × Int)))) (h0 : 0 ≤ i) (hi : i < n) (h2 : (acc.length : Int) = i) :
    weather_Weather_Row_2.l0 70 n a b c d (m + 1) i x (!f) acc = weather_Weather_Row_2.l0 70 n a b c d m (i + 1) (sd (sd (sd (sd x)))) (!(fr a b (sd (sd x)) (fr a b x f))) (acc ++ [(bitf (lo a b c d x f), (bitf (lo a b c d (sd (sd x)) (fr a b x f)), (0, 0)))]) := by
  rw [row_step]
  refine bif_eq_t (decide_eq_true hi) ?_
  refine bnd_eq (lost_w a b c d x f) ?_
  refine bnd_eq (bit_w _) ?_
  refine bnd_eq (lost_w a b c d _ _) ?_
  refine bnd_eq (bit_w _) ?_
  refine gd_eq (by simp only [List.length_cons, List.length_nil]; omega) ?_
  rw [kw_i64 (by omega) (by omega)]
theorem row_w (n a b c d : Int) (hn : n ≤ 64) (k : Nat) : ∀ (m : Nat) (i x : Int) (f : Bool) (acc : List (Int × (Int × (Int × Int)))), k < m → 0 ≤ i → i + k = n → (acc.length : Int) = i →
    weather_Weather_Row_2.l0 70 n a b c d m i x (!f) acc = some ((rowf a b c d k x f).2.1, !(rowf a b c d k x f).2.2, acc ++ (rowf a b c d k x f).1) := by
  induction k with
  | zero =>
    intro m i x f acc h h0 h1 h2
    obtain ⟨m, rfl⟩ : ∃ q, m = q + 1 := ⟨m - 1, by omega⟩
    rw [row_step]
    have : ¬ i < n := by omega
    simp [weather_Weather_Row_2.r0, this, rowf]
  | succ k ih =>
    intro m i x f acc h h0 h1 h2
    obtain ⟨m, rfl⟩ : ∃ q, m = q + 1 := ⟨m - 1, by omega⟩
    rw [row_one n a b c d hn m i x f acc h0 (by omega) h2, ih m (i + 1) _ _ _ (by omega) (by omega) (by omega) (by simp; omega)]
    simp [rowf]
theorem nth_drop {k : Kd} {l : List k.T} {i : Nat} {y : k.T} {t : List k.T} (h : l.drop i = y :: t) : k.nth l i = y := by
  have h1 : l[i]? = some y := by
    have : (l.drop i)[0]? = l[i]? := by rw [List.getElem?_drop, Nat.add_zero]
    rw [← this, h]; rfl
  unfold Kd.nth; rw [List.getD_eq_getElem?_getD, h1]; rfl
theorem drop_tail {α : Type} {l : List α} {i : Nat} {y : α} {t : List α} (h : l.drop i = y :: t) : l.drop (i + 1) = t := by
  rw [← List.drop_drop, h]; rfl
theorem cmp_step (c1 n : Int) (rows : List (Int × (Int × (Int × Int)))) (a b c d c8 : Int) (c9 : Bool) (c0 : List Int) (m : Nat) (i x : Int) (f : Bool) : psalterylaw32_WeatherPlays.l3 70 c0 c1 n rows a b c d c8 c9 (m + 1) i x f = psalterylaw32_WeatherPlays.r3 70 c0 c1 n rows a b c d c8 c9 (psalterylaw32_WeatherPlays.l3 70 c0 c1 n rows a b c d c8 c9 m) i x f := rfl
theorem chk (p q : Bool) : (bif (bif (bif (bif (bif (!((bitf p == 1) == p)) then true else (!((bitf q == 1) == q))) then true else decide (bitf p > 1)) then true else decide (bitf q > 1)) then true else ((0 : Int) != 0)) then true else ((0 : Int) != 0)) = false := by cases p <;> cases q <;> rfl
theorem cmp_w (c1 n : Int) (rows : List (Int × (Int × (Int × Int)))) (a b c d c8 : Int) (c9 : Bool) (c0 : List Int) (hn : n ≤ 64) (hl : (rows.length : Int) = n) (k : Nat) : ∀ (m : Nat) (i x : Int) (f : Bool), k < m → 0 ≤ i → i + k = n → rows.drop i.toNat = (rowf a b c d k x f).1 →
    psalterylaw32_WeatherPlays.l3 70 c0 c1 n rows a b c d c8 c9 m i x f = some (.inl ((rowf a b c d k x f).2.1, (rowf a b c d k x f).2.2)) := by
  induction k with
  | zero =>
    intro m i x f h h0 h1 h2
    obtain ⟨m, rfl⟩ : ∃ q, m = q + 1 := ⟨m - 1, by omega⟩
    rw [cmp_step]
    exact bif_eq_f (decide_eq_false (by omega)) rfl
  | succ k ih =>
    intro m i x f h h0 h1 h2
    obtain ⟨m, rfl⟩ : ∃ q, m = q + 1 := ⟨m - 1, by omega⟩
    rw [cmp_step]
    have e := nth_drop (k := .pair (.int .i64) (.pair (.int .i64) (.pair (.int .i64) (.int .u32)))) (l := rows) (h2.trans rfl)
    have e' := drop_tail (h2.trans rfl)
    refine bif_eq_t (decide_eq_true (by omega)) ?_
    refine bnd_eq (lost_r a b c d x f) ?_
    refine bnd_eq (lost_r a b c d _ _) ?_
    refine gd_eq (by refine ⟨?_, ?_, ?_, ?_, ?_, ?_, ?_, ?_, ?_, ?_, ?_, ?_⟩ <;> first | omega | (intro _; omega)) ?_
    refine bif_eq_f ((congrArg (fun y : Int × (Int × (Int × Int)) => bif (bif (bif (bif (bif (!((y.1 == 1) == lo a b c d x f)) then true else (!((y.2.1 == 1) == lo a b c d (sd (sd x)) (fr a b x f)))) then true else decide (y.1 > 1)) then true else decide (y.2.1 > 1)) then true else (y.2.2.1 != 0)) then true else (y.2.2.2 != 0)) e).trans (chk _ _)) ?_
    rw [kw_i64 (by omega) (by omega), ih m (i + 1) _ _ (by omega) (by omega) (by omega) (by rw [show (i + 1).toNat = i.toNat + 1 by omega, e'])]
    rfl
theorem rows_w (v a b c d x : Int) (f : Bool) (k : Nat) (hk : (k : Int) = imin (imax v 0) 64) : weather_Weather_Row_2 70 v a b c d x (!f) = some ((rowf a b c d k x f).1, (rowf a b c d k x f).2.1, !(rowf a b c d k x f).2.2) := by
  have h64 : imin (imax v 0) 64 ≤ 64 := by unfold imin; split <;> omega
  refine bnd_eq (row_w _ a b c d h64 k 70 0 x f [] (by omega) (by omega) (by omega) rfl) ?_
  rw [List.nil_append]
theorem call_step (c0 : List Int) (a b c d : Int) (m : Nat) (i x : Int) (f : Bool) (y : Int) (g : Bool) : psalterylaw32_WeatherPlays.l2 70 c0 a b c d (m + 1) i x f y g = psalterylaw32_WeatherPlays.r2 70 c0 a b c d (psalterylaw32_WeatherPlays.l2 70 c0 a b c d m) i x f y g := rfl
theorem neq_self (x : Int) : (x != x) = false := by simp
theorem call_w (c0 : List Int) (a b c d : Int) (hn : c0.length ≤ 60) (k : Nat) : ∀ (m : Nat) (i x : Int) (f : Bool), k < m → 0 ≤ i → i + k = (c0.length : Int) →
    psalterylaw32_WeatherPlays.l2 70 c0 a b c d m i x (!f) x f = some (.inl ()) := by
  induction k with
  | zero =>
    intro m i x f h h0 h1
    obtain ⟨m, rfl⟩ : ∃ q, m = q + 1 := ⟨m - 1, by omega⟩
    rw [call_step]
    exact bif_eq_f (decide_eq_false (by omega)) rfl
  | succ k ih =>
    intro m i x f h h0 h1
    obtain ⟨m, rfl⟩ : ∃ q, m = q + 1 := ⟨m - 1, by omega⟩
    rw [call_step]
    refine bif_eq_t (decide_eq_true (by omega)) ?_
    refine gd_eq ⟨h0, by omega⟩ ?_
    have tl : ∀ (x : Int) (f : Bool), ((weather_Weather_Fair 70 a b c d x (!f)).bind fun r1082 =>
        let v1083 := (!(r1082 == f))
        bif v1083 then
          some (.inr false)
        else
          let v1084 := (kwrap .i64 (i + 1))
          psalterylaw32_WeatherPlays.l2 70 c0 a b c d m v1084 x (!f) x f) = some (.inl ()) := by
      intro x f
      refine bnd_eq (x := f) (by cases f <;> rfl) ?_
      refine bif_eq_f (by cases f <;> rfl) ?_
      rw [kw_i64 (by omega) (by omega)]
      exact ih m (i + 1) x f (by omega) (by omega) (by omega)
    rcases Bool.eq_false_or_eq_true (Kd.nth (.int .i64) c0 (Int.toNat i) == 0) with e0 | e0
    · skip
      refine bnd_eq (x := .inl (sd x, !f, sd x, f)) (bif_eq_t e0 (bnd_eq (draw_r a b c d x f) (bnd_eq (draw_w a b c d x (!f)) (bif_eq_f (neq_self _) rfl)))) ?_
      exact tl (sd x) f
    · rcases Bool.eq_false_or_eq_true (Kd.nth (.int .i64) c0 (Int.toNat i) == 1) with e1 | e1
      · skip
        refine bnd_eq (x := .inl (sd (sd x), !(fr a b x f), sd (sd x), fr a b x f)) (bif_eq_f e0 (bif_eq_t e1 (bnd_eq (lost_r a b c d x f) (bnd_eq (lost_w a b c d x f) (bif_eq_f (by simp) rfl))))) ?_
        exact tl (sd (sd x)) (fr a b x f)
      · skip
        obtain ⟨q, hq⟩ : ∃ q : Nat, (q : Int) = imin (imax (Kd.nth (.int .i64) c0 (Int.toNat i)) 0) 64 := by
          refine ⟨(imin (imax (Kd.nth (.int .i64) c0 (Int.toNat i)) 0) 64).toNat, ?_⟩
          have : 0 ≤ imin (imax (Kd.nth (.int .i64) c0 (Int.toNat i)) 0) 64 := by unfold imin imax; split <;> split <;> omega
          omega
        have hq64 : q ≤ 64 := by
          have : imin (imax (Kd.nth (.int .i64) c0 (Int.toNat i)) 0) 64 ≤ 64 := by unfold imin; split <;> omega
          omega
        have hlen := rowf_len a b c d q x f
        refine bnd_eq (x := .inl ((rowf a b c d q x f).2.1, !(rowf a b c d q x f).2.2, (rowf a b c d q x f).2.1, (rowf a b c d q x f).2.2)) (bif_eq_f e0 (bif_eq_f e1 (gd_eq ⟨h0, by omega⟩ (bnd_eq (rows_w _ a b c d x f q hq) (gd_eq ⟨h0, by omega⟩ (bif_eq_f ?_ (bnd_eq (x := .inl ((rowf a b c d q x f).2.1, (rowf a b c d q x f).2.2)) ?_ rfl))))))) ?_
        · rw [hlen, hq]; exact neq_self _
        · rw [← hq]
          exact cmp_w i q _ a b c d _ _ c0 (by omega) (by rw [hlen]) q 70 0 x f (by omega) (by omega) (by omega) rfl
        · exact tl _ _
theorem plays (a b c d x : Int) (l : List Int) (hx : 0 ≤ x) (hx' : x < 4294967296) : psalterylaw32_WeatherPlays 70 a b c d x l = some true := by
  refine bnd_eq (show psalterylaw32_alive 70 = some true from rfl) ?_
  refine bif_eq_f rfl ?_
  by_cases hl : (l.length : Int) > 60
  · exact bif_eq_t (decide_eq_true hl) rfl
  refine bif_eq_f (decide_eq_false hl) ?_
  by_cases hs : skyOk a b c d
  · refine bnd_eq (x := .inr ()) (bnd_eq ((check_w a b c d).trans (by rw [if_pos hs])) rfl) ?_
    refine bnd_eq (check_ref a b c d) ?_
    refine bif_eq_f (by rw [decide_eq_true hs]; rfl) ?_
    refine bnd_eq (x := .inl ()) ?_ rfl
    rw [kw_u64, Int.emod_eq_of_lt hx (by omega)]
    exact call_w l a b c d (by omega) l.length 70 0 x true (by omega) (by omega) (by omega)
  · refine bnd_eq (x := .inl 1) (bnd_eq ((check_w a b c d).trans (by rw [if_neg hs])) rfl) ?_
    refine bnd_eq (check_ref a b c d) ?_
    refine bif_eq_t (by rw [decide_eq_false hs]; rfl) ?_
    refine bnd_eq (x := true) ?_ rfl
    exact bif_eq_t rfl (bnd_eq ((check_w a b c d).trans (by rw [if_neg hs])) rfl)
end Go.Fo
