/- A line's bytes, tones and storms; the line. -/
import Derived.Test.YtphienllhdoenaaDoorSc5Sl
import Derived.Test.YtphienllhdoenaaDoorSc5Wv
namespace Go.Fo
set_option maxRecDepth 6000
/-- a digit of base 16 -/
def hexd (c : Int) : Option Int := if 48 ≤ c ∧ c ≤ 57 then some (c - 48) else if 97 ≤ c ∧ c ≤ 102 then some (c - 87) else none
theorem hexd_b {c d : Int} (h : hexd c = some d) : 0 ≤ d ∧ d ≤ 15 := by
  unfold hexd at h
  split at h
  · simp only [Option.some.injEq] at h; omega
  · split at h
    · simp only [Option.some.injEq] at h; omega
    · cases h
theorem hex_fin : ((List.range 256).all fun n => bfind ⟨#[48, 49, 50, 51, 52, 53, 54, 55, 56, 57, 97, 98, 99, 100, 101, 102]⟩ (n : Int) == (match hexd (n : Int) with | some d => d | none => -1)) = true := by kernel_rfl
theorem kor_fin : ((List.range 16).all fun a => (List.range 16).all fun b => kor .u8 (kshl .u8 (kwrap .u8 (a : Int)) 4) (kwrap .u8 (b : Int)) == 16 * (a : Int) + (b : Int)) = true := by kernel_rfl
theorem digit_w (K : Nat) (c : UInt8) (l : List ByteArray) (bad : Bool) : score_reader_digit_2 K (c.toNat : Int) l bad = some (match hexd (c.toNat : Int) with | some d => (kwrap .u8 d, bad) | none => (0, true)) := by
  have h := List.all_eq_true.1 hex_fin c.toNat (List.mem_range.2 c.toNat_lt)
  have h := beq_iff_eq.1 h
  refine bnd_eq (x := bfind ⟨#[48, 49, 50, 51, 52, 53, 54, 55, 56, 57, 97, 98, 99, 100, 101, 102]⟩ (c.toNat : Int)) rfl ?_
  rw [h]
  cases hd : hexd (c.toNat : Int) with
  | none => rfl
  | some d =>
    have := hexd_b hd
    exact bif_eq_f (decide_eq_false (show ¬ d < 0 by omega)) rfl
theorem kor_w {a b : Int} (ha : 0 ≤ a ∧ a ≤ 15) (hb : 0 ≤ b ∧ b ≤ 15) : kor .u8 (kshl .u8 (kwrap .u8 a) 4) (kwrap .u8 b) = 16 * a + b := by
  obtain ⟨n, rfl⟩ : ∃ n : Nat, a = n := ⟨a.toNat, by omega⟩
  obtain ⟨m, rfl⟩ : ∃ m : Nat, b = m := ⟨b.toNat, by omega⟩
  exact beq_iff_eq.1 (List.all_eq_true.1 (List.all_eq_true.1 kor_fin n (List.mem_range.2 (by omega))) m (List.mem_range.2 (by omega)))
/-- bytes, of two digits each -/
def hexs : List UInt8 → Option (List Int)
  | [] => some []
  | [_] => none
  | a :: b :: l => match hexd (a.toNat : Int), hexd (b.toNat : Int) with
    | some x, some y => (hexs l).map ((16 * x + y) :: ·)
    | _, _ => none
theorem bl_drop2 {w : ByteArray} {i : Nat} (h : i + 1 < w.size) : (bl w).drop i = (bl w)[i]'(by rw [bl_len]; omega) :: (bl w)[i + 1]'(by rw [bl_len]; omega) :: (bl w).drop (i + 2) := by
  rw [bl_drop (by omega), bl_drop (i := i + 1) (by omega)]
theorem bytes_loop (K : Nat) (w : ByteArray) (ws : List ByteArray) (hw : w.size ≤ 100000) : ∀ (m i e : Nat) (bad : Bool) (acc : List Int), i + 2 * m = w.size → acc.length ≤ i →
    ∃ b l, score_reader_bytes_2.l0 K w ws (m + e + 1) (i : Int) bad acc = some (b, l) ∧ (∀ h, hexs ((bl w).drop i) = some h → l = acc ++ h ∧ b = bad) ∧ (hexs ((bl w).drop i) = none → b = true)
  | 0, i, e, bad, acc, hi, ha => by
    refine ⟨bad, acc, ?_, ?_, ?_⟩
    · show score_reader_bytes_2.r0 K w ws (score_reader_bytes_2.l0 K w ws (0 + e)) (i : Int) bad acc = _
      exact bif_eq_f (decide_eq_false (by omega)) rfl
    · rw [List.drop_of_length_le (by rw [bl_len]; omega)]
      intro h hh
      simp only [hexs, Option.some.injEq] at hh; subst hh; simp
    · rw [List.drop_of_length_le (by rw [bl_len]; omega)]
      intro hh; cases hh
  | m + 1, i, e, bad, acc, hi, ha => by
    rw [bl_drop2 (by omega)]
    have s1 := sbyte_at w i (by omega)
    have s2 := sbyte_at w (i + 1) (by omega)
    generalize (bl w)[i]'(by rw [bl_len]; omega) = x at s1 ⊢
    generalize (bl w)[i + 1]'(by rw [bl_len]; omega) = y at s2 ⊢
    have step : ∀ (d1 d2 : Int) (b1 b2 : Bool), score_reader_digit_2 K (x.toNat : Int) ws bad = some (d1, b1) → score_reader_digit_2 K (y.toNat : Int) ws b1 = some (d2, b2) →
        score_reader_bytes_2.l0 K w ws (m + 1 + e + 1) (i : Int) bad acc = score_reader_bytes_2.l0 K w ws (m + e + 1) ((i + 2 : Nat) : Int) b2 (acc ++ [kor .u8 (kshl .u8 d1 4) d2]) := by
      intro d1 d2 b1 b2 h1 h2
      show score_reader_bytes_2.r0 K w ws (score_reader_bytes_2.l0 K w ws (m + 1 + e)) (i : Int) bad acc = _
      refine bif_eq_t (decide_eq_true (by omega)) ?_
      dsimp only
      rw [Int.toNat_natCast, s1]
      refine gd_eq ⟨by omega, by omega⟩ ?_
      refine bnd_eq h1 ?_
      dsimp only
      rw [kw_i64 (x := (i : Int) + 1) (by omega) (by omega), show Int.toNat ((i : Int) + 1) = i + 1 by omega, s2]
      refine gd_eq ⟨by omega, by omega⟩ ?_
      refine bnd_eq h2 ?_
      refine gd_eq (by simp only [List.length_cons, List.length_nil]; omega) ?_
      rw [kw_i64 (by omega) (by omega), show m + 1 + e = m + e + 1 by omega]; rfl
    have ih := fun b2 v => bytes_loop K w ws hw m (i + 2) e b2 (acc ++ [v]) (by omega) (by rw [List.length_append]; simp; omega)
    have D1 := digit_w K x ws bad
    have D2 := digit_w K y ws
    unfold hexs
    cases hx : hexd (x.toNat : Int) with
    | none =>
      rw [hx] at D1
      cases hy : hexd (y.toNat : Int) with
      | none =>
        simp only [hy] at D2
        obtain ⟨b, l, g1, g2, g3⟩ := ih true (kor .u8 (kshl .u8 0 4) 0)
        refine ⟨b, l, (step _ _ _ _ D1 (D2 true)).trans g1, (fun h hh => by cases hh), fun _ => ?_⟩
        cases hr : hexs ((bl w).drop (i + 2)) with
        | none => exact g3 hr
        | some h => exact (g2 h hr).2
      | some d =>
        simp only [hy] at D2
        obtain ⟨b, l, g1, g2, g3⟩ := ih true (kor .u8 (kshl .u8 0 4) (kwrap .u8 d))
        refine ⟨b, l, (step _ _ _ _ D1 (D2 true)).trans g1, (fun h hh => by cases hh), fun _ => ?_⟩
        cases hr : hexs ((bl w).drop (i + 2)) with
        | none => exact g3 hr
        | some h => exact (g2 h hr).2
    | some c =>
      rw [hx] at D1
      cases hy : hexd (y.toNat : Int) with
      | none =>
        simp only [hy] at D2
        obtain ⟨b, l, g1, g2, g3⟩ := ih true (kor .u8 (kshl .u8 (kwrap .u8 c) 4) 0)
        refine ⟨b, l, (step _ _ _ _ D1 (D2 bad)).trans g1, (fun h hh => by cases hh), fun _ => ?_⟩
        cases hr : hexs ((bl w).drop (i + 2)) with
        | none => exact g3 hr
        | some h => exact (g2 h hr).2
      | some d =>
        simp only [hy] at D2
        obtain ⟨b, l, g1, g2, g3⟩ := ih bad (kor .u8 (kshl .u8 (kwrap .u8 c) 4) (kwrap .u8 d))
        refine ⟨b, l, (step _ _ _ _ D1 (D2 bad)).trans g1, fun h hh => ?_, fun hh => ?_⟩
        · rw [Option.map_eq_some_iff] at hh
          obtain ⟨a, h1, rfl⟩ := hh
          obtain ⟨h2, h3⟩ := g2 a h1
          refine ⟨?_, h3⟩
          rw [h2, kor_w (hexd_b hx) (hexd_b hy), List.append_assoc]; rfl
        · rw [Option.map_eq_none_iff] at hh
          exact g3 hh
/-- a word of bytes -/
def hx (w : ByteArray) : Option (List Int) := if beqs w ⟨#[45]⟩ = true then some [] else if w.size = 0 ∨ w.size % 2 = 1 then none else hexs (bl w)
def unb : List ByteArray × Bool ⊕ List Int × List ByteArray × Bool → List Int × List ByteArray × Bool
  | .inl (l, b) => ([], l, b)
  | .inr (a, l, b) => (a, l, b)
theorem odd_w (w : ByteArray) : (bif beqs w ⟨#[]⟩ then true else (Int.tmod (w.size : Int) 2 == 1)) = decide (w.size = 0 ∨ w.size % 2 = 1) := by
  rw [beqs_nil, Int.tmod_eq_emod_of_nonneg (by omega)]
  by_cases h : w.size = 0
  · rw [decide_eq_true h, decide_eq_true (.inl h)]; rfl
  · rw [decide_eq_false h]
    by_cases h2 : w.size % 2 = 1
    · rw [decide_eq_true (p := w.size = 0 ∨ w.size % 2 = 1) (.inr h2)]
      exact beq_iff_eq.2 (by omega)
    · rw [decide_eq_false (p := w.size = 0 ∨ w.size % 2 = 1) (by omega)]
      exact beq_eq_false_iff_ne.2 (by omega)
theorem bytes_w (K : Nat) (w : ByteArray) (t : List ByteArray) (bad : Bool) (hw : w.size ≤ 100000) (hK : w.size + 1 ≤ K) :
    ∃ z, score_reader_bytes_2 K (w :: t) bad = some z ∧ (unb z).2.1 = t ∧ (∀ h, hx w = some h → (unb z).1 = h ∧ (unb z).2.2 = bad) ∧ (hx w = none → (unb z).2.2 = true) := by
  unfold hx
  by_cases h1 : beqs w ⟨#[45]⟩ = true
  · rw [if_pos h1]
    refine ⟨.inl (t, bad), bnd_eq (word_w K (w :: t) bad) (bif_eq_t h1 rfl), rfl, fun h hh => ?_, fun hh => by cases hh⟩
    cases hh; exact ⟨rfl, rfl⟩
  rw [if_neg h1]
  have h1' := Bool.eq_false_iff.2 h1
  have ho := odd_w w
  by_cases h2 : w.size = 0 ∨ w.size % 2 = 1
  · rw [if_pos h2]
    rw [decide_eq_true h2] at ho
    exact ⟨.inl (t, true), bnd_eq (word_w K (w :: t) bad) (bif_eq_f h1' (bif_eq_t ho rfl)), rfl, (fun h hh => by cases hh), fun _ => rfl⟩
  rw [if_neg h2]
  rw [decide_eq_false h2] at ho
  obtain ⟨b, l, g1, g2, g3⟩ := bytes_loop K w t hw (w.size / 2) 0 (K - w.size / 2 - 1) bad [] (by omega) (Nat.zero_le _)
  rw [show w.size / 2 + (K - w.size / 2 - 1) + 1 = K by omega] at g1
  rw [List.drop_zero] at g2 g3
  refine ⟨.inr (l, t, b), bnd_eq (word_w K (w :: t) bad) (bif_eq_f h1' (bif_eq_f ho (bnd_eq g1 rfl))), rfl, fun h hh => ?_, fun hh => g3 hh⟩
  obtain ⟨h3, h4⟩ := g2 h hh
  exact ⟨by rw [show (unb (.inr (l, t, b))).1 = l from rfl, h3]; rfl, h4⟩
theorem bytes_nil (K : Nat) (bad : Bool) : score_reader_bytes_2 K [] bad = some (.inl ([], true)) := by
  refine bnd_eq (word_w K [] bad) ?_
  exact bif_eq_f (by rw [beqs_bl]; rfl) (bif_eq_t (by rw [odd_w]; rfl) rfl)
/-- a tone's sample -/
def m15 (a s : Int) : Int := rnd (a * s) 15
theorem sinv_b {n d : Int} (hd : 1 ≤ d) : -32767 ≤ sinv n d ∧ sinv n d ≤ 32767 := by
  have h := tpart_w (num := n) hd
  have := sn_w h.1 h.2
  unfold sinv
  split <;> omega
theorem mul_b {a s : Int} (ha : 0 ≤ a ∧ a ≤ 32767) (hs : -32767 ≤ s ∧ s ≤ 32767) : -1073741824 ≤ a * s ∧ a * s ≤ 1073741824 := by
  have h1 : a * s ≤ a * 32767 := Int.mul_le_mul_of_nonneg_left hs.2 ha.1
  have h2 : a * (-32767) ≤ a * s := Int.mul_le_mul_of_nonneg_left hs.1 ha.1
  omega
theorem m15_b {a s : Int} (ha : 0 ≤ a ∧ a ≤ 32767) (hs : -32767 ≤ s ∧ s ≤ 32767) : -40000 ≤ m15 a s ∧ m15 a s ≤ 40000 := by
  have := mul_b ha hs
  unfold m15 rnd
  have e : (2 : Int) ^ (15 - 1) = 16384 := by decide
  rw [e]; omega
theorem fmul_w (K : Nat) {a s : Int} (ha : 0 ≤ a ∧ a ≤ 32767) (hs : -32767 ≤ s ∧ s ≤ 32767) : fix_Mul15 K a s = some (m15 a s) := by
  have h1 := mul_b ha hs
  have h2 := m15_b ha hs
  unfold fix_Mul15
  dsimp only
  rw [kw_i64 (x := a) (by omega) (by omega), kw_i64 (x := s) (by omega) (by omega), kw_i64 (x := a * s) (by omega) (by omega)]
  refine bnd_eq (fround_w K (by omega) (by omega) (by decide) (by decide)) ?_
  show (fix_Sat32 K (m15 a s)).bind _ = _
  refine bnd_eq (x := m15 a s) ?_ rfl
  refine bnd_eq (x := m15 a s) ?_ ?_
  · exact bif_eq_f (decide_eq_false (by omega)) (bif_eq_f (decide_eq_false (by omega)) rfl)
  · rw [kw_i32 (by omega) (by omega)]
def tonef (a n d : Int) (k : Nat) : Int := kwrap .i16 (m15 a (sinv ((k : Int) * n) d))
theorem tone_loop (K : Nat) (hK : 4200 ≤ K) {a n d : Int} (c : Nat) (ha : 0 ≤ a ∧ a ≤ 32767) (hn : 0 ≤ n ∧ n ≤ 65535) (hd : 1 ≤ d ∧ d ≤ 65535) (hc : c ≤ 4096) (ws : List ByteArray) (bad : Bool) :
    score_reader_tone_2.l0 K a n d (c : Int) ws bad K 0 (List.replicate c 0) = some (tabOf (tonef a n d) c) := by
  refine fill_loop0 c (tonef a n d) 0 _ (fun next k xs hk hl => ?_) (fun next => ?_) (by omega)
  · have hkn : 0 ≤ (k : Int) * n ∧ (k : Int) * n ≤ 4096 * 65535 := by
      constructor
      · exact Int.mul_nonneg (by omega) hn.1
      · exact Int.mul_le_mul (by omega) hn.2 hn.1 (by decide)
    refine bif_eq_t (decide_eq_true (by omega)) ?_
    dsimp only
    rw [kw_i64 (x := (k : Int) * n) (by omega) (by omega), kw_i32 (x := a) (by omega) (by omega)]
    refine bnd_eq (wsin_w K (by omega) hd.1 (by omega)) ?_
    refine bnd_eq (fmul_w K ha (sinv_b hd.1)) ?_
    refine gd_eq ⟨by omega, by omega, by omega⟩ ?_
    rw [kw_i64 (by omega) (by omega)]; rfl
  · exact bif_eq_f (decide_eq_false (by omega)) rfl
end Go.Fo
