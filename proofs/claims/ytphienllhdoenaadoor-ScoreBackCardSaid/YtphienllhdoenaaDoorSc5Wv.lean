/- Rounding and waves: what the program and the document reckon. -/
import Derived.Test.YtphienllhdoenaaDoorJ3
import Derived.Test.YtphienllhdoenaaDoorSc5F
namespace Go.Fo
set_option maxRecDepth 6000

/-- n divided by 2^s, rounded to the nearest, halves up -/
def rnd (n : Int) (s : Nat) : Int := (n / 2 ^ (s - 1) + 1) / 2

theorem two_pow_pos (s : Nat) : (0 : Int) < 2 ^ s := Int.pow_pos (by decide)
theorem two_pow_le {s t : Nat} (h : s ≤ t) : (2 : Int) ^ s ≤ 2 ^ t := by
  have := Nat.pow_le_pow_right (n := 2) (by decide) h
  exact_mod_cast this
theorem ediv_abs {n d : Int} (hd : 1 ≤ d) {a : Int} (h0 : -a ≤ n) (h1 : n ≤ a) : -a ≤ n / d ∧ n / d ≤ a := by
  have ha : 0 ≤ a := by omega
  have h2 := Int.mul_ediv_add_emod n d
  have h3 := Int.emod_nonneg n (b := d) (by omega)
  have h4 := Int.emod_lt_of_pos n (b := d) (by omega)
  constructor
  · refine Int.le_ediv_of_mul_le (by omega) ?_
    have : -a * d ≤ -a * 1 := Int.mul_le_mul_of_nonpos_left (by omega) hd
    omega
  · refine Int.ediv_le_of_le_mul (by omega) ?_
    have : a * 1 ≤ a * d := Int.mul_le_mul_of_nonneg_left hd ha
    omega

theorem fround_w (K : Nat) {n s : Int} (h0 : -9223372036854775808 ≤ n) (h1 : n ≤ 9223372036854775807) (hs : 1 ≤ s) (hs2 : s ≤ 62) : fix_Round K n s = some (rnd n s.toNat) := by
  obtain ⟨q, rfl⟩ : ∃ q : Nat, s = ((q + 1 : Nat) : Int) := ⟨(s - 1).toNat, by omega⟩
  have hq : q ≤ 61 := by omega
  have hw : fix_within_int K ((q + 1 : Nat) : Int) 0 62 = some ((q + 1 : Nat) : Int) := by
    unfold fix_within_int
    rw [decide_eq_false (show ¬ ((q + 1 : Nat) : Int) < 0 by omega), decide_eq_false (show ¬ ((q + 1 : Nat) : Int) > 62 by omega)]
    rfl
  refine bnd_eq hw ?_
  refine bif_eq_f (by simp; omega) ?_
  refine gd_eq (by omega) ?_
  have e4 : kwrap .i64 (((q + 1 : Nat) : Int) - 1) = (q : Int) := by rw [kw_i64 (by omega) (by omega)]; omega
  simp only [e4]
  refine gd_eq (by omega) ?_
  have hp := two_pow_pos q
  have s1 : kshr .i64 n ((q + 1 : Nat) : Int) = n / 2 ^ q / 2 := by
    unfold kshr
    rw [show min ((q + 1 : Nat) : Int).toNat (IntKind.bits .i64) = q + 1 by
      show min _ 64 = _
      omega, Int.fdiv_eq_ediv_of_nonneg _ (by have := two_pow_pos (q + 1); omega), Int.pow_succ, Int.ediv_ediv_of_nonneg (by omega)]
  have s2 : kshr .i64 n (q : Int) = n / 2 ^ q := by
    unfold kshr
    rw [show min ((q : Int)).toNat (IntKind.bits .i64) = q by
      show min _ 64 = _
      omega, Int.fdiv_eq_ediv_of_nonneg _ (by omega)]
  have s3 : ∀ x : Int, kand .i64 x 1 = x % 2 := fun x => kand_mask_i64 x 1 (by decide)
  obtain ⟨b1, b2⟩ := ediv_abs (n := n) (d := 2 ^ q) (by omega) (a := 9223372036854775808) (by omega) (by omega)
  rw [s1, s2, s3]
  generalize hx : n / 2 ^ q = x at b1 b2 ⊢
  have : rnd n ((q + 1 : Nat) : Int).toNat = (x + 1) / 2 := by
    unfold rnd
    rw [show ((q + 1 : Nat) : Int).toNat - 1 = q by omega, hx]
  rw [this, kw_i64 (by omega) (by omega)]
  congr 1; omega

/-- p*u/2^30 lies between nothing and p -/
theorem mulu {p u : Int} (hp : 0 ≤ p) (hp2 : p < 2147483648) (hu : 0 ≤ u) (hu2 : u ≤ 1073741824) : 0 ≤ p * u ∧ p * u ≤ 2305843009213693952 ∧ 0 ≤ p * u / 1073741824 ∧ p * u / 1073741824 ≤ p := by
  have h0 : 0 ≤ p * u := Int.mul_nonneg hp hu
  have h1 : p * u ≤ p * 1073741824 := Int.mul_le_mul_of_nonneg_left hu2 hp
  refine ⟨h0, by omega, Int.ediv_nonneg h0 (by omega), ?_⟩
  exact Int.ediv_le_of_le_mul (by omega) h1

/-- the wave's number at t of 2^30 parts of a quarter -/
def poly (t : Int) : Int := (1686629713 - (693598668 - (85569306 - (5026995 - 172272 * (t * t / 1073741824) / 1073741824) * (t * t / 1073741824) / 1073741824) * (t * t / 1073741824) / 1073741824) * (t * t / 1073741824) / 1073741824) * t / 1073741824
def sn (t : Int) : Int := if rnd (poly t) 15 > 32767 then 32767 else rnd (poly t) 15
/-- how far into the quarter -/
def tpart (num den : Int) : Int := (if 4 * (num % den) / den % 2 = 1 then den - 4 * (num % den) % den else 4 * (num % den) % den) * 1073741824 / den
def sinv (num den : Int) : Int := if 2 ≤ 4 * (num % den) / den then - sn (tpart num den) else sn (tpart num den)

theorem kshr30 {x : Int} (_h0 : 0 ≤ x) : kshr .u64 x 30 = x / 1073741824 := by
  unfold kshr
  rw [show min ((30 : Int)).toNat (IntKind.bits .u64) = 30 from rfl, Int.fdiv_eq_ediv_of_nonneg _ (by decide)]; rfl
theorem wstep (K : Nat) (c0 c1 u : Int) (n : Nat) {p x c : Int} (hx : 0 ≤ x ∧ x < 4) (hc : List.getD [5026995, 85569306, 693598668, 1686629713] (Int.toNat x) 0 = c) (hu : 0 ≤ u) (hu2 : u ≤ 1073741824) (hp : 0 ≤ p) (hp2 : p < 2147483648) (hpc : p ≤ c) (hcb : c < 2147483648) :
    wave_sine.l0 K c0 c1 u (n + 1) p x = wave_sine.l0 K c0 c1 u n (c - p * u / 1073741824) (x + 1) := by
  obtain ⟨m0, m1, m2, m3⟩ := mulu hp hp2 hu hu2
  show wave_sine.r0 K c0 c1 u (wave_sine.l0 K c0 c1 u n) p x = _
  refine bif_eq_t (decide_eq_true hx.2) ?_
  dsimp only
  refine gd_eq hx ?_
  have e1 : kwrap .u64 (p * u) = p * u := by rw [kw_u64]; exact Int.emod_eq_of_lt m0 (by omega)
  rw [hc, e1, kshr30 m0, kw_u64, Int.emod_eq_of_lt (by omega) (by omega), kw_i64 (by omega) (by omega)]

theorem poly_w {t : Int} (h0 : 0 ≤ t) (h1 : t ≤ 1073741824) : 0 ≤ poly t ∧ poly t ≤ 1686629713 := by
  have hu0 : 0 ≤ t * t := Int.mul_nonneg h0 h0
  have hu1 : t * t ≤ 1073741824 * 1073741824 := Int.mul_le_mul h1 h1 h0 (by decide)
  have hu : 0 ≤ t * t / 1073741824 := Int.ediv_nonneg hu0 (by decide)
  have hu2 : t * t / 1073741824 ≤ 1073741824 := Int.ediv_le_of_le_mul (by decide) hu1
  unfold poly
  generalize t * t / 1073741824 = u at hu hu2
  obtain ⟨_, _, a2, a3⟩ := mulu (p := 172272) (by decide) (by decide) hu hu2
  generalize 172272 * u / 1073741824 = v1 at a2 a3
  obtain ⟨_, _, b2, b3⟩ := mulu (p := 5026995 - v1) (by omega) (by omega) hu hu2
  generalize (5026995 - v1) * u / 1073741824 = v2 at b2 b3
  obtain ⟨_, _, c2, c3⟩ := mulu (p := 85569306 - v2) (by omega) (by omega) hu hu2
  generalize (85569306 - v2) * u / 1073741824 = v3 at c2 c3
  obtain ⟨_, _, d2, d3⟩ := mulu (p := 693598668 - v3) (by omega) (by omega) hu hu2
  generalize (693598668 - v3) * u / 1073741824 = v4 at d2 d3
  obtain ⟨_, _, e2, e3⟩ := mulu (p := 1686629713 - v4) (by omega) (by omega) h0 h1
  omega
theorem sn_w {t : Int} (h0 : 0 ≤ t) (h1 : t ≤ 1073741824) : 0 ≤ rnd (poly t) 15 ∧ rnd (poly t) 15 ≤ 51472 ∧ 0 ≤ sn t ∧ sn t ≤ 32767 := by
  obtain ⟨p0, p1⟩ := poly_w h0 h1
  have hr : 0 ≤ rnd (poly t) 15 ∧ rnd (poly t) 15 ≤ 51472 := by
    unfold rnd
    rw [show (2 : Int) ^ (15 - 1) = 16384 from rfl]; omega
  refine ⟨hr.1, hr.2, ?_⟩
  unfold sn
  split <;> omega

theorem modulo_w (K : Nat) {n d : Int} (hd : 1 ≤ d) (hd2 : d ≤ 1099511627776) : wave_modulo K n d = some (n % d) := by
  have h1 := Int.mul_tdiv_add_tmod n d
  have hn : -d < Int.tmod n d ∧ Int.tmod n d < d := by
    have := Int.lt_tmod_of_pos n (b := d) (by omega)
    have := Int.tmod_lt_of_pos n (b := d) (by omega)
    omega
  have key : n % d = if Int.tmod n d < 0 then Int.tmod n d + d else Int.tmod n d := by
    have : n % d = (Int.tmod n d) % d := by
      conv => lhs; rw [← h1]
      rw [Int.add_comm, Int.add_mul_emod_self_left]
    rw [this]
    split
    · rw [← Int.add_emod_right, Int.emod_eq_of_lt (by omega) (by omega)]
    · exact Int.emod_eq_of_lt (by omega) (by omega)
  refine gd_eq (by omega) ?_
  rw [key]
  by_cases hb : Int.tmod n d < 0
  · rw [if_pos hb]
    refine bnd_eq (bif_eq_t (decide_eq_true hb) rfl) ?_
    rw [kw_i64 (by omega) (by omega)]
  · rw [if_neg hb]
    exact bnd_eq (bif_eq_f (decide_eq_false hb) rfl) rfl

/-- the quarter and the part of it -/
theorem quarter {n d : Int} (hd : 1 ≤ d) (h0 : 0 ≤ n) (h1 : n < d) : 0 ≤ 4 * n / d ∧ 4 * n / d ≤ 3 ∧ 0 ≤ 4 * n % d ∧ 4 * n % d < d ∧ 4 * n = d * (4 * n / d) + 4 * n % d := by
  have e := Int.mul_ediv_add_emod (4 * n) d
  have a := Int.emod_nonneg (4 * n) (b := d) (by omega)
  have b := Int.emod_lt_of_pos (4 * n) (b := d) (by omega)
  have c : 0 ≤ 4 * n / d := Int.ediv_nonneg (by omega) (by omega)
  have f : 4 * n / d < 4 := Int.ediv_lt_of_lt_mul (by omega) (by omega)
  exact ⟨c, by omega, a, b, by omega⟩
theorem tdivp {a d : Int} (h0 : 0 ≤ a) (_hd : 1 ≤ d) : Int.tdiv a d = a / d := Int.tdiv_eq_ediv_of_nonneg h0
theorem tmodp {a d : Int} (h0 : 0 ≤ a) (_hd : 1 ≤ d) : Int.tmod a d = a % d := Int.tmod_eq_emod_of_nonneg h0
theorem tbound {r d : Int} (hd : 1 ≤ d) (h0 : 0 ≤ r) (h1 : r ≤ d) : 0 ≤ r * 1073741824 / d ∧ r * 1073741824 / d ≤ 1073741824 :=
  ⟨Int.ediv_nonneg (by omega) (by omega), Int.ediv_le_of_le_mul (by omega) (by have : r * 1073741824 ≤ d * 1073741824 := Int.mul_le_mul_of_nonneg_right h1 (by decide); omega)⟩
theorem tpart_w {num d : Int} (hd : 1 ≤ d) : 0 ≤ tpart num d ∧ tpart num d ≤ 1073741824 := by
  have h0 := Int.emod_nonneg num (b := d) (by omega)
  have h1 := Int.emod_lt_of_pos num (b := d) (by omega)
  obtain ⟨_, _, q3, q4, _⟩ := quarter hd h0 h1
  unfold tpart
  split
  · exact tbound hd (by omega) (by omega)
  · exact tbound hd (by omega) (by omega)

theorem height_w (K : Nat) {num d : Int} (hd : 1 ≤ d) (hd2 : d ≤ 4194304) : wave_height K num d = some (tpart num d, 4 * (num % d) / d) := by
  have h0 := Int.emod_nonneg num (b := d) (by omega)
  have h1 := Int.emod_lt_of_pos num (b := d) (by omega)
  obtain ⟨q1, q2, q3, q4, q5⟩ := quarter hd h0 h1
  refine bnd_eq (modulo_w K hd (by omega)) ?_
  have e1 : kwrap .i64 (4 * (num % d)) = 4 * (num % d) := kw_i64 (by omega) (by omega)
  simp only [e1]
  refine gd_eq (by omega) ?_
  refine gd_eq (by omega) ?_
  rw [tdivp (by omega) hd, tmodp (by omega) hd, kw_i64 (x := 4 * (num % d) / d) (by omega) (by omega)]
  have e2 : kand .i64 (4 * (num % d) / d) 1 = 4 * (num % d) / d % 2 := kand_mask_i64 _ 1 (by decide)
  rw [e2]
  have hu : kwrap .u64 d = d := by rw [kw_u64]; omega
  rw [hu]
  have fin : ∀ r : Int, 0 ≤ r → r ≤ d → kwrap .u64 (Int.tdiv (kshl .u64 (kwrap .u64 r) 30) d) = r * 1073741824 / d := by
    intro r r0 r1
    have e3 : kshl .u64 (kwrap .u64 r) 30 = r * 1073741824 := by
      unfold kshl
      rw [show min ((30 : Int)).toNat (IntKind.bits .u64) = 30 from rfl, show kwrap .u64 r = r by rw [kw_u64]; omega]
      show kwrap .u64 (r * 2 ^ 30) = _
      rw [kw_u64]; omega
    rw [e3, tdivp (by omega) hd, kw_u64]
    obtain ⟨b0, b1⟩ := tbound hd r0 r1
    omega
  unfold tpart
  by_cases hb : 4 * (num % d) / d % 2 = 1
  · rw [if_pos hb]
    refine bnd_eq (bif_eq_t (by rw [hb]; rfl) rfl) ?_
    refine gd_eq (by omega) ?_
    rw [kw_i64 (by omega) (by omega), fin _ (by omega) (by omega)]
  · rw [if_neg hb]
    refine bnd_eq (bif_eq_f (beq_eq_false_iff_ne.2 hb) rfl) ?_
    refine gd_eq (by omega) ?_
    rw [fin _ (by omega) (by omega)]

theorem wsine_w (K : Nat) (hK : 5 ≤ K) {num d : Int} (hd : 1 ≤ d) (hd2 : d ≤ 4194304) : wave_sine K num d = some (sinv num d) := by
  obtain ⟨h0, h1⟩ := tpart_w (num := num) hd
  obtain ⟨s1, s2, s3, s4⟩ := sn_w h0 h1
  obtain ⟨p0, p1⟩ := poly_w h0 h1
  refine bnd_eq (height_w K hd hd2) ?_
  dsimp only
  have hdef : sinv num d = if 2 ≤ 4 * (num % d) / d then - sn (tpart num d) else sn (tpart num d) := rfl
  rw [hdef]
  generalize tpart num d = t at *
  generalize 4 * (num % d) / d = q
  have hu0 : 0 ≤ t * t := Int.mul_nonneg h0 h0
  have hu1 : t * t ≤ 1073741824 * 1073741824 := Int.mul_le_mul h1 h1 h0 (by decide)
  have hu : 0 ≤ t * t / 1073741824 := Int.ediv_nonneg hu0 (by decide)
  have hu2 : t * t / 1073741824 ≤ 1073741824 := Int.ediv_le_of_le_mul (by decide) hu1
  have e1 : kwrap .u64 (t * t) = t * t := by rw [kw_u64]; exact Int.emod_eq_of_lt hu0 (by omega)
  rw [e1, kshr30 hu0]
  obtain ⟨k, rfl⟩ : ∃ k, K = k + 5 := ⟨K - 5, by omega⟩
  obtain ⟨_, _, a2, a3⟩ := mulu (p := 172272) (by decide) (by decide) hu hu2
  obtain ⟨_, _, b2, b3⟩ := mulu (p := 5026995 - 172272 * (t * t / 1073741824) / 1073741824) (by omega) (by omega) hu hu2
  have hpoly : poly t = (1686629713 - (693598668 - (85569306 - (5026995 - 172272 * (t * t / 1073741824) / 1073741824) * (t * t / 1073741824) / 1073741824) * (t * t / 1073741824) / 1073741824) * (t * t / 1073741824) / 1073741824) * t / 1073741824 := rfl
  generalize t * t / 1073741824 = u at *
  generalize hv1 : 172272 * u / 1073741824 = v1 at *
  generalize hv2 : (5026995 - v1) * u / 1073741824 = v2 at *
  obtain ⟨_, _, c2, c3⟩ := mulu (p := 85569306 - v2) (by omega) (by omega) hu hu2
  generalize hv3 : (85569306 - v2) * u / 1073741824 = v3 at *
  obtain ⟨_, _, d2, d3⟩ := mulu (p := 693598668 - v3) (by omega) (by omega) hu hu2
  generalize hv4 : (693598668 - v3) * u / 1073741824 = v4 at *
  obtain ⟨m0, m1, m2, m3⟩ := mulu (p := 1686629713 - v4) (by omega) (by omega) h0 h1
  have hl : wave_sine.l0 (k + 5) t q u (k + 5) 172272 0 = some (1686629713 - v4) := by
    rw [wstep _ _ _ _ _ (c := 5026995) (by decide) rfl hu hu2 (by decide) (by decide) (by decide) (by decide), hv1]
    rw [wstep _ _ _ _ _ (c := 85569306) (by decide) rfl hu hu2 (by omega) (by omega) (by omega) (by decide), hv2]
    rw [wstep _ _ _ _ _ (c := 693598668) (by decide) rfl hu hu2 (by omega) (by omega) (by omega) (by decide), hv3]
    rw [wstep _ _ _ _ _ (c := 1686629713) (by decide) rfl hu hu2 (by omega) (by omega) (by omega) (by decide), hv4]
    show wave_sine.r0 (k + 5) t q u (wave_sine.l0 (k + 5) t q u k) (1686629713 - v4) (0 + 1 + 1 + 1 + 1) = _
    unfold wave_sine.r0
    exact bif_eq_f (by decide) rfl
  refine bnd_eq hl ?_
  have e2 : kwrap .u64 ((1686629713 - v4) * t) = (1686629713 - v4) * t := by rw [kw_u64]; exact Int.emod_eq_of_lt m0 (by omega)
  rw [e2, kshr30 m0, ← hpoly, kw_i64 (by omega) (by omega)]
  refine bnd_eq (fround_w _ (by omega) (by omega) (by decide) (by decide)) ?_
  rw [show ((15 : Int)).toNat = 15 from rfl]
  have hclip : fix_Clip (k + 5) (rnd (poly t) 15) 0 32767 = some (sn t) := by
    refine bnd_eq (x := sn t) ?_ rfl
    refine bif_eq_f (decide_eq_false (by omega)) ?_
    unfold sn
    by_cases hb : rnd (poly t) 15 > 32767
    · rw [if_pos hb]; exact bif_eq_t (decide_eq_true hb) rfl
    · rw [if_neg hb]; exact bif_eq_f (decide_eq_false hb) rfl
  refine bnd_eq hclip ?_
  by_cases hb : 2 ≤ q
  · rw [if_pos hb]
    refine bnd_eq (bif_eq_t (decide_eq_true hb) rfl) ?_
    rw [kw_i64 (by omega) (by omega), kw_i16 (by omega) (by omega)]
    congr 1; omega
  · rw [if_neg hb]
    refine bnd_eq (bif_eq_f (decide_eq_false hb) rfl) ?_
    rw [kw_i16 (by omega) (by omega)]

/-- what is a part of a turn, over its quarter and back -/
theorem sinv_low {n d : Int} (hd : 1 ≤ d) (h0 : 0 ≤ n) (h1 : 2 * n < d) : sinv n d = sn ((if 4 * n ≥ d then 2 * d - 4 * n else 4 * n) * 1073741824 / d) := by
  have hm : n % d = n := Int.emod_eq_of_lt h0 (by omega)
  have e := Int.mul_ediv_add_emod (4 * n) d
  unfold sinv tpart
  rw [hm]
  by_cases hb : 4 * n ≥ d
  · have q : 4 * n / d = 1 := by rw [Int.ediv_eq_iff_of_pos (by omega)]; omega
    rw [q] at e
    rw [q, if_neg (by decide), if_pos (by decide), if_pos hb]; congr 3; omega
  · have q : 4 * n / d = 0 := Int.ediv_eq_zero_of_lt (by omega) (by omega)
    rw [q] at e
    rw [q, if_neg (by decide), if_neg (by decide), if_neg hb]; congr 3; omega
theorem sinv_high {n d : Int} (hd : 1 ≤ d) (h0 : d ≤ 2 * n) (h1 : n < d) : sinv n d = - sn ((if 4 * n - 2 * d ≥ d then 4 * d - 4 * n else 4 * n - 2 * d) * 1073741824 / d) := by
  have hm : n % d = n := Int.emod_eq_of_lt (by omega) (by omega)
  have e := Int.mul_ediv_add_emod (4 * n) d
  unfold sinv tpart
  rw [hm]
  by_cases hb : 4 * n - 2 * d ≥ d
  · have q : 4 * n / d = 3 := by rw [Int.ediv_eq_iff_of_pos (by omega)]; omega
    rw [q] at e
    rw [q, if_pos (by decide), if_pos (by decide), if_pos hb]; congr 4; omega
  · have q : 4 * n / d = 2 := by rw [Int.ediv_eq_iff_of_pos (by omega)]; omega
    rw [q] at e
    rw [q, if_pos (by decide), if_neg (by decide), if_neg hb]; congr 4; omega
theorem sinv_mod {a b d : Int} (h : a % d = b % d) : sinv a d = sinv b d := by unfold sinv tpart; rw [h]

/-- the cosine, and the document's -/
def cosv (num den : Int) : Int := sinv (4 * (num % den) + den) (4 * den)
theorem wsin_w (K : Nat) (hK : 5 ≤ K) {num d : Int} (hd : 1 ≤ d) (hd2 : d ≤ 1048576) : wave_Sine K num d = some (sinv num d, 0) := by
  refine bif_eq_f (by rw [decide_eq_false (by omega), decide_eq_false (by omega)]; rfl) ?_
  exact bnd_eq (wsine_w K hK hd (by omega)) rfl
end Go.Fo
