/- A line's bytes, tones and storms; the line. -/
import Derived.Test.YtphienllhdoenaaDoorSc3Sl
import Derived.Test.YtphienllhdoenaaDoorSc3Wv
namespace Go.Fo
set_option maxRecDepth 6000
/-- a digit of base 16 -/
def hexd (c : Int) : Option Int := if 48 ≤ c ∧ c ≤ 57 then some (c - 48) else if 97 ≤ c ∧ c ≤ 102 then some (c - 87) else none
theorem hexd_b {c d : Int} (h : hexd c = some d) : 0 ≤ d ∧ d ≤ 15 := by
  unfold hexd at h
  split at h
  · simp only [Option.some.injEq] at h; omega
  · split at h
    · simp only [Option.some.injEq] at h; omega
    · cases h
theorem hex_fin : ((List.range 256).all fun n => bfind ⟨#[48, 49, 50, 51, 52, 53, 54, 55, 56, 57, 97, 98, 99, 100, 101, 102]⟩ (n : Int) == (match hexd (n : Int) with | some d => d | none => -1)) = true := by kernel_rfl
theorem kor_fin : ((List.range 16).all fun a => (List.range 16).all fun b => kor .u8 (kshl .u8 (kwrap .u8 (a : Int)) 4) (kwrap .u8 (b : Int)) == 16 * (a : Int) + (b : Int)) = true := by kernel_rfl
theorem digit_w (K : Nat) (c : UInt8) (l : List ByteArray) (bad : Bool) : score_reader_digit_2 K (c.toNat : Int) l bad = some (match hexd (c.toNat : Int) with | some d => (kwrap .u8 d, bad) | none => (0, true)) := by
  have h := List.all_eq_true.1 hex_fin c.toNat (List.mem_range.2 c.toNat_lt)
  have h := beq_iff_eq.1 h
  refine bnd_eq (x := bfind ⟨#[48, 49, 50, 51, 52, 53, 54, 55, 56, 57, 97, 98, 99, 100, 101, 102]⟩ (c.toNat : Int)) rfl ?_
  rw [h]
  cases hd : hexd (c.toNat : Int) with
  | none => rfl
  | some d =>
    have := hexd_b hd
    exact bif_eq_f (decide_eq_false (show ¬ d < 0 by omega)) rfl
theorem kor_w {a b : Int} (ha : 0 ≤ a ∧ a ≤ 15) (hb : 0 ≤ b ∧ b ≤ 15) : kor .u8 (kshl .u8 (kwrap .u8 a) 4) (kwrap .u8 b) = 16 * a + b := by
  obtain ⟨n, rfl⟩ : ∃ n : Nat, a = n := ⟨a.toNat, by omega⟩
  obtain ⟨m, rfl⟩ : ∃ m : Nat, b = m := ⟨b.toNat, by omega⟩
  exact beq_iff_eq.1 (List.all_eq_true.1 (List.all_eq_true.1 kor_fin n (List.mem_range.2 (by omega))) m (List.mem_range.2 (by omega)))
/-- bytes, of two digits each -/
def hexs : List UInt8 → Option (List Int)
  | [] => some []
  | [_] => none
  | a :: b :: l => match hexd (a.toNat : Int), hexd (b.toNat : Int) with
    | some x, some y => (hexs l).map ((16 * x + y) :: ·)
    | _, _ => none
theorem bl_drop2 {w : ByteArray} {i : Nat} (h : i + 1 < w.size) : (bl w).drop i = (bl w)[i]'(by rw [bl_len]; omega) :: (bl w)[i + 1]'(by rw [bl_len]; omega) :: (bl w).drop (i + 2) := by
  rw [bl_drop (by omega), bl_drop (i := i + 1) (by omega)]
theorem bytes_loop (K : Nat) (w : ByteArray) (ws : List ByteArray) (hw : w.size ≤ 100000) : ∀ (m i e : Nat) (bad : Bool) (acc : List Int), i + 2 * m = w.size → acc.length ≤ i →
    ∃ b l, score_reader_bytes_2.l0 K w ws (m + e + 1) (i : Int) bad acc = some (b, l) ∧ (∀ h, hexs ((bl w).drop i) = some h → l = acc ++ h ∧ b = bad) ∧ (hexs ((bl w).drop i) = none → b = true)
  | 0, i, e, bad, acc, hi, ha => by
    refine ⟨bad, acc, ?_, ?_, ?_⟩
    · show score_reader_bytes_2.r0 K w ws (score_reader_bytes_2.l0 K w ws (0 + e)) (i : Int) bad acc = _
      exact bif_eq_f (decide_eq_false (by omega)) rfl
    · rw [List.drop_of_length_le (by rw [bl_len]; omega)]
      intro h hh
      simp only [hexs, Option.some.injEq] at hh; subst hh; simp
    · rw [List.drop_of_length_le (by rw [bl_len]; omega)]
      intro hh; cases hh
  | m + 1, i, e, bad, acc, hi, ha => by
    rw [bl_drop2 (by omega)]
    have s1 := sbyte_at w i (by omega)
    have s2 := sbyte_at w (i + 1) (by omega)
    generalize (bl w)[i]'(by rw [bl_len]; omega) = x at s1 ⊢
    generalize (bl w)[i + 1]'(by rw [bl_len]; omega) = y at s2 ⊢
    have step : ∀ (d1 d2 : Int) (b1 b2 : Bool), score_reader_digit_2 K (x.toNat : Int) ws bad = some (d1, b1) → score_reader_digit_2 K (y.toNat : Int) ws b1 = some (d2, b2) →
        score_reader_bytes_2.l0 K w ws (m + 1 + e + 1) (i : Int) bad acc = score_reader_bytes_2.l0 K w ws (m + e + 1) ((i + 2 : Nat) : Int) b2 (acc ++ [kor .u8 (kshl .u8 d1 4) d2]) := by
      intro d1 d2 b1 b2 h1 h2
      show score_reader_bytes_2.r0 K w ws (score_reader_bytes_2.l0 K w ws (m + 1 + e)) (i : Int) bad acc = _
      refine bif_eq_t (decide_eq_true (by omega)) ?_
      dsimp only
      rw [Int.toNat_natCast, s1]
      refine gd_eq ⟨by omega, by omega⟩ ?_
      refine bnd_eq h1 ?_
      dsimp only
      rw [kw_i64 (x := (i : Int) + 1) (by omega) (by omega), show Int.toNat ((i : Int) + 1) = i + 1 by omega, s2]
      refine gd_eq ⟨by omega, by omega⟩ ?_
      refine bnd_eq h2 ?_
      refine gd_eq (by simp only [List.length_cons, List.length_nil]; omega) ?_
      rw [kw_i64 (by omega) (by omega), show m + 1 + e = m + e + 1 by omega]; rfl
    have ih := fun b2 v => bytes_loop K w ws hw m (i + 2) e b2 (acc ++ [v]) (by omega) (by rw [List.length_append]; simp; omega)
    have D1 := digit_w K x ws bad
    have D2 := digit_w K y ws
    unfold hexs
    cases hx : hexd (x.toNat : Int) with
    | none =>
      rw [hx] at D1
      cases hy : hexd (y.toNat : Int) with
      | none =>
        simp only [hy] at D2
        obtain ⟨b, l, g1, g2, g3⟩ := ih true (kor .u8 (kshl .u8 0 4) 0)
        refine ⟨b, l, (step _ _ _ _ D1 (D2 true)).trans g1, (fun h hh => by cases hh), fun _ => ?_⟩
        cases hr : hexs ((bl w).drop (i + 2)) with
        | none => exact g3 hr
        | some h => exact (g2 h hr).2
      | some d =>
        simp only [hy] at D2
        obtain ⟨b, l, g1, g2, g3⟩ := ih true (kor .u8 (kshl .u8 0 4) (kwrap .u8 d))
        refine ⟨b, l, (step _ _ _ _ D1 (D2 true)).trans g1, (fun h hh => by cases hh), fun _ => ?_⟩
        cases hr : hexs ((bl w).drop (i + 2)) with
        | none => exact g3 hr
        | some h => exact (g2 h hr).2
    | some c =>
      rw [hx] at D1
      cases hy : hexd (y.toNat : Int) with
      | none =>
        simp only [hy] at D2
        obtain ⟨b, l, g1, g2, g3⟩ := ih true (kor .u8 (kshl .u8 (kwrap .u8 c) 4) 0)
        refine ⟨b, l, (step _ _ _ _ D1 (D2 bad)).trans g1, (fun h hh => by cases hh), fun _ => ?_⟩
        cases hr : hexs ((bl w).drop (i + 2)) with
        | none => exact g3 hr
        | some h => exact (g2 h hr).2
      | some d =>
        simp only [hy] at D2
        obtain ⟨b, l, g1, g2, g3⟩ := ih bad (kor .u8 (kshl .u8 (kwrap .u8 c) 4) (kwrap .u8 d))
        refine ⟨b, l, (step _ _ _ _ D1 (D2 bad)).trans g1, fun h hh => ?_, fun hh => ?_⟩
        · rw [Option.map_eq_some_iff] at hh
          obtain ⟨a, h1, rfl⟩ := hh
          obtain ⟨h2, h3⟩ := g2 a h1
          refine ⟨?_, h3⟩
          rw [h2, kor_w (hexd_b hx) (hexd_b hy), List.append_assoc]; rfl
        · rw [Option.map_eq_none_iff] at hh
          exact g3 hh
/-- a word of bytes -/
def hx (w : ByteArray) : Option (List Int) := if beqs w ⟨#[45]⟩ = true then some [] else if w.size = 0 ∨ w.size % 2 = 1 then none else hexs (bl w)
def unb : List ByteArray × Bool ⊕ List Int × List ByteArray × Bool → List Int × List ByteArray × Bool
  | .inl (l, b) => ([], l, b)
  | .inr (a, l, b) => (a, l, b)
theorem odd_w (w : ByteArray) : (bif beqs w ⟨#[]⟩ then true else (Int.tmod (w.size : Int) 2 == 1)) = decide (w.size = 0 ∨ w.size % 2 = 1) := by
  rw [beqs_nil, Int.tmod_eq_emod_of_nonneg (by omega)]
  by_cases h : w.size = 0
  · rw [decide_eq_true h, decide_eq_true (.inl h)]; rfl
  · rw [decide_eq_false h]
    by_cases h2 : w.size % 2 = 1
    · rw [decide_eq_true (p := w.size = 0 ∨ w.size % 2 = 1) (.inr h2)]
      exact beq_iff_eq.2 (by omega)
    · rw [decide_eq_false (p := w.size = 0 ∨ w.size % 2 = 1) (by omega)]
      exact beq_eq_false_iff_ne.2 (by omega)
theorem bytes_w (K : Nat) (w : ByteArray) (t : List ByteArray) (bad : Bool) (hw : w.size ≤ 100000) (hK : w.size + 1 ≤ K) :
    ∃ z, score_reader_bytes_2 K (w :: t) bad = some z ∧ (unb z).2.1 = t ∧ (∀ h, hx w = some h → (unb z).1 = h ∧ (unb z).2.2 = bad) ∧ (hx w = none → (unb z).2.2 = true) := by
  unfold hx
  by_cases h1 : beqs w ⟨#[45]⟩ = true
  · rw [if_pos h1]
    refine ⟨.inl (t, bad), bnd_eq (word_w K (w :: t) bad) (bif_eq_t h1 rfl), rfl, fun h hh => ?_, fun hh => by cases hh⟩
    cases hh; exact ⟨rfl, rfl⟩
  rw [if_neg h1]
  have h1' := Bool.eq_false_iff.2 h1
  have ho := odd_w w
  by_cases h2 : w.size = 0 ∨ w.size % 2 = 1
  · rw [if_pos h2]
    rw [decide_eq_true h2] at ho
    exact ⟨.inl (t, true), bnd_eq (word_w K (w :: t) bad) (bif_eq_f h1' (bif_eq_t ho rfl)), rfl, (fun h hh => by cases hh), fun _ => rfl⟩
  rw [if_neg h2]
  rw [decide_eq_false h2] at ho
  obtain ⟨b, l, g1, g2, g3⟩ := bytes_loop K w t hw (w.size / 2) 0 (K - w.size / 2 - 1) bad [] (by omega) (Nat.zero_le _)
  rw [show w.size / 2 + (K - w.size / 2 - 1) + 1 = K by omega] at g1
  rw [List.drop_zero] at g2 g3
  refine ⟨.inr (l, t, b), bnd_eq (word_w K (w :: t) bad) (bif_eq_f h1' (bif_eq_f ho (bnd_eq g1 rfl))), rfl, fun h hh => ?_, fun hh => g3 hh⟩
  obtain ⟨h3, h4⟩ := g2 h hh
  exact ⟨by rw [show (unb (.inr (l, t, b))).1 = l from rfl, h3]; rfl, h4⟩
theorem bytes_nil (K : Nat) (bad : Bool) : score_reader_bytes_2 K [] bad = some (.inl ([], true)) := by
  refine bnd_eq (word_w K [] bad) ?_
  exact bif_eq_f (by rw [beqs_bl]; rfl) (bif_eq_t (by rw [odd_w]; rfl) rfl)
theorem hex_in (K : Nat) (w : ByteArray) (i : Nat) (acc : List Int) (hi : i + 1 < w.size) (hw : w.size ≤ 100000) (hK : 3 ≤ K) :
    psalteryref34_hex.l1 K w (i : Int) acc K 0 (i : Int) = some (match hexd (((bl w)[i]'(by rw [bl_len]; omega)).toNat : Int), hexd (((bl w)[i + 1]'(by rw [bl_len]; omega)).toNat : Int) with
      | some x, some y => .inl (16 * x + y)
      | _, _ => .inr (.inl false)) := by
  have s1 := sbyte_at w i (by omega)
  have s2 := sbyte_at w (i + 1) (by omega)
  generalize (bl w)[i]'(by rw [bl_len]; omega) = x at s1 ⊢
  generalize (bl w)[i + 1]'(by rw [bl_len]; omega) = y at s2 ⊢
  have step : ∀ next (k : Nat) (n : Int) (c : UInt8), sbyte w k = (c.toNat : Int) → i ≤ k → k ≤ i + 1 → 0 ≤ n → n ≤ 15 →
      psalteryref34_hex.r1 K w (i : Int) acc next n (k : Int) = match hexd (c.toNat : Int) with | some d => next (16 * n + d) ((k + 1 : Nat) : Int) | none => some (.inr (.inl false)) := by
    intro next k n c hs h1 h2 h3 h4
    have hc : c.toNat < 256 := c.toNat_lt
    unfold psalteryref34_hex.r1
    dsimp only
    rw [kw_i64 (x := (i : Int) + 2) (by omega) (by omega)]
    refine bif_eq_t (decide_eq_true (by omega)) ?_
    rw [Int.toNat_natCast, hs, kw_i64 (x := (c.toNat : Int)) (by omega) (by omega), kw_i64 (x := (k : Int) + 1) (by omega) (by omega), kw_i64 (x := 16 * n) (by omega) (by omega), kw_i64 (x := 16 * n + (c.toNat : Int)) (by omega) (by omega), kw_i64 (x := 16 * n + (c.toNat : Int) - 48) (by omega) (by omega), kw_i64 (x := 16 * n + (c.toNat : Int) - 87) (by omega) (by omega)]
    unfold hexd
    by_cases h5 : 48 ≤ (c.toNat : Int) ∧ (c.toNat : Int) ≤ 57
    · rw [if_pos h5]
      refine bnd_eq (x := .inl (16 * n + (c.toNat : Int) - 48)) (gd_eq ⟨by omega, by omega⟩ (bif_eq_t (by rw [decide_eq_true (by omega), decide_eq_true (by omega)]; rfl) rfl)) ?_
      show next _ _ = next _ _
      rw [show 16 * n + (c.toNat : Int) - 48 = 16 * n + ((c.toNat : Int) - 48) by omega]; rfl
    · rw [if_neg h5]
      have e5 : (bif decide ((c.toNat : Int) ≥ 48) then decide ((c.toNat : Int) ≤ 57) else false) = false := by
        by_cases h6 : (c.toNat : Int) ≥ 48
        · rw [decide_eq_true h6, decide_eq_false (by omega)]; rfl
        · rw [decide_eq_false h6]; rfl
      by_cases h7 : 97 ≤ (c.toNat : Int) ∧ (c.toNat : Int) ≤ 102
      · rw [if_pos h7]
        refine bnd_eq (x := .inl (16 * n + (c.toNat : Int) - 87)) (gd_eq ⟨by omega, by omega⟩ (bif_eq_f e5 (bif_eq_t (by rw [decide_eq_true (by omega), decide_eq_true (by omega)]; rfl) rfl))) ?_
        show next _ _ = next _ _
        rw [show 16 * n + (c.toNat : Int) - 87 = 16 * n + ((c.toNat : Int) - 87) by omega]; rfl
      · rw [if_neg h7]
        have e7 : (bif decide ((c.toNat : Int) ≥ 97) then decide ((c.toNat : Int) ≤ 102) else false) = false := by
          by_cases h6 : (c.toNat : Int) ≥ 97
          · rw [decide_eq_true h6, decide_eq_false (by omega)]; rfl
          · rw [decide_eq_false h6]; rfl
        exact bnd_eq (x := .inr (.inl false)) (gd_eq ⟨by omega, by omega⟩ (bif_eq_f e5 (bif_eq_f e7 rfl))) rfl
  obtain ⟨e, rfl⟩ : ∃ e, K = e + 3 := ⟨K - 3, by omega⟩
  show psalteryref34_hex.r1 (e + 3) w (i : Int) acc (psalteryref34_hex.l1 (e + 3) w (i : Int) acc (e + 2)) 0 (i : Int) = _
  rw [step _ i 0 x s1 (by omega) (by omega) (by omega) (by omega)]
  cases hx : hexd (x.toNat : Int) with
  | none => rfl
  | some a =>
    have ha := hexd_b hx
    dsimp only
    show psalteryref34_hex.r1 (e + 3) w (i : Int) acc (psalteryref34_hex.l1 (e + 3) w (i : Int) acc (e + 1)) _ _ = _
    rw [step _ (i + 1) _ y s2 (by omega) (by omega) (by omega) (by omega)]
    cases hy : hexd (y.toNat : Int) with
    | none => rfl
    | some b =>
      dsimp only
      show psalteryref34_hex.r1 (e + 3) w (i : Int) acc (psalteryref34_hex.l1 (e + 3) w (i : Int) acc e) _ _ = _
      unfold psalteryref34_hex.r1
      dsimp only
      rw [kw_i64 (x := (i : Int) + 2) (by omega) (by omega)]
      refine bif_eq_f (decide_eq_false (by omega)) ?_
      rw [show 16 * (16 * 0 + a) + b = 16 * a + b by omega]
theorem hex_loop (K : Nat) (hK : 3 ≤ K) (w : ByteArray) (hw : w.size ≤ 100000) : ∀ (m i e : Nat) (acc : List Int), i + 2 * m = w.size → acc.length ≤ i →
    psalteryref34_hex.l0 K w (m + e + 1) (i : Int) acc = some (match hexs ((bl w).drop i) with | some h => .inl (acc ++ h) | none => .inr (.inl false))
  | 0, i, e, acc, hi, ha => by
    rw [List.drop_of_length_le (by rw [bl_len]; omega)]
    show psalteryref34_hex.r0 K w (psalteryref34_hex.l0 K w (0 + e)) (i : Int) acc = _
    exact bif_eq_f (decide_eq_false (by omega)) (by simp [hexs])
  | m + 1, i, e, acc, hi, ha => by
    have hin := hex_in K w i acc (by omega) hw hK
    rw [bl_drop2 (by omega)]
    generalize (bl w)[i]'(by rw [bl_len]; omega) = x at hin ⊢
    generalize (bl w)[i + 1]'(by rw [bl_len]; omega) = y at hin ⊢
    show psalteryref34_hex.r0 K w (psalteryref34_hex.l0 K w (m + 1 + e)) (i : Int) acc = _
    refine bif_eq_t (decide_eq_true (by omega)) ?_
    refine bnd_eq hin ?_
    unfold hexs
    cases hx : hexd (x.toNat : Int) with
    | none => rfl
    | some a =>
      cases hy : hexd (y.toNat : Int) with
      | none => rfl
      | some b =>
        have h1 := hexd_b hx
        have h2 := hexd_b hy
        have ih := hex_loop K hK w hw m (i + 2) e (acc ++ [16 * a + b]) (by omega) (by rw [List.length_append]; simp; omega)
        dsimp only
        refine gd_eq (by simp only [List.length_cons, List.length_nil]; omega) ?_
        rw [kw_u8, Int.emod_eq_of_lt (by omega) (by omega), kw_i64 (by omega) (by omega), show m + 1 + e = m + e + 1 by omega]
        refine Eq.trans ih ?_
        cases hexs ((bl w).drop (i + 2)) with
        | none => rfl
        | some h => simp
theorem hex_w (K : Nat) (w : ByteArray) (hw : w.size ≤ 100000) (hK : w.size + 3 ≤ K) : ∃ z, psalteryref34_hex K w = some z ∧ (∀ h, hx w = some h → (z = .inl true ∧ h = []) ∨ z = .inr h) ∧ (hx w = none → z = .inl false) := by
  unfold hx
  by_cases h1 : beqs w ⟨#[45]⟩ = true
  · rw [if_pos h1]
    exact ⟨.inl true, bif_eq_t h1 rfl, (fun h hh => by cases hh; exact .inl ⟨rfl, rfl⟩), fun hh => by cases hh⟩
  rw [if_neg h1]
  have h1' := Bool.eq_false_iff.2 h1
  have ho := odd_w w
  by_cases h2 : w.size = 0 ∨ w.size % 2 = 1
  · rw [if_pos h2]
    rw [decide_eq_true h2] at ho
    exact ⟨.inl false, bif_eq_f h1' (bif_eq_t ho rfl), (fun h hh => by cases hh), fun _ => rfl⟩
  rw [if_neg h2]
  rw [decide_eq_false h2] at ho
  have g := hex_loop K (by omega) w hw (w.size / 2) 0 (K - w.size / 2 - 1) [] (by omega) (Nat.zero_le _)
  rw [show w.size / 2 + (K - w.size / 2 - 1) + 1 = K by omega, List.drop_zero] at g
  cases hh : hexs (bl w) with
  | none =>
    rw [hh] at g
    exact ⟨.inl false, bif_eq_f h1' (bif_eq_f ho (bnd_eq g rfl)), (fun h hh => by cases hh), fun _ => rfl⟩
  | some l =>
    rw [hh] at g
    exact ⟨.inr l, bif_eq_f h1' (bif_eq_f ho (bnd_eq g rfl)), (fun h hh => by cases hh; exact .inr rfl), fun hh => by cases hh⟩
/-- a tone's sample -/
def m15 (a s : Int) : Int := rnd (a * s) 15
theorem sinv_b {n d : Int} (hd : 1 ≤ d) : -32767 ≤ sinv n d ∧ sinv n d ≤ 32767 := by
  have h := tpart_w (num := n) hd
  have := sn_w h.1 h.2
  unfold sinv
  split <;> omega
theorem mul_b {a s : Int} (ha : 0 ≤ a ∧ a ≤ 32767) (hs : -32767 ≤ s ∧ s ≤ 32767) : -1073741824 ≤ a * s ∧ a * s ≤ 1073741824 := by
  have h1 : a * s ≤ a * 32767 := Int.mul_le_mul_of_nonneg_left hs.2 ha.1
  have h2 : a * (-32767) ≤ a * s := Int.mul_le_mul_of_nonneg_left hs.1 ha.1
  omega
theorem m15_b {a s : Int} (ha : 0 ≤ a ∧ a ≤ 32767) (hs : -32767 ≤ s ∧ s ≤ 32767) : -40000 ≤ m15 a s ∧ m15 a s ≤ 40000 := by
  have := mul_b ha hs
  unfold m15 rnd
  have e : (2 : Int) ^ (15 - 1) = 16384 := by decide
  rw [e]; omega
theorem fmul_w (K : Nat) {a s : Int} (ha : 0 ≤ a ∧ a ≤ 32767) (hs : -32767 ≤ s ∧ s ≤ 32767) : fix_Mul15 K a s = some (m15 a s) := by
  have h1 := mul_b ha hs
  have h2 := m15_b ha hs
  unfold fix_Mul15
  dsimp only
  rw [kw_i64 (x := a) (by omega) (by omega), kw_i64 (x := s) (by omega) (by omega), kw_i64 (x := a * s) (by omega) (by omega)]
  refine bnd_eq (fround_w K (by omega) (by omega) (by decide) (by decide)) ?_
  show (fix_Sat32 K (m15 a s)).bind _ = _
  refine bnd_eq (x := m15 a s) ?_ rfl
  refine bnd_eq (x := m15 a s) ?_ ?_
  · exact bif_eq_f (decide_eq_false (by omega)) (bif_eq_f (decide_eq_false (by omega)) rfl)
  · rw [kw_i32 (by omega) (by omega)]
theorem rmul_w (K : Nat) {a s : Int} (ha : 0 ≤ a ∧ a ≤ 32767) (hs : -32767 ≤ s ∧ s ≤ 32767) : psalteryref01_Mul K a s 15 = some (m15 a s) := by
  have h1 := mul_b ha hs
  have h2 := m15_b ha hs
  unfold psalteryref01_Mul
  dsimp only
  rw [kw_i64 (x := a * s) (by omega) (by omega)]
  refine bnd_eq (rround_w K (by omega) (by omega) (by decide) (by decide)) ?_
  show (psalteryref01_Sat K (m15 a s) 32).bind _ = _
  refine bnd_eq (x := m15 a s) ?_ ?_
  · refine gd_eq (by decide) ?_
    have e1 : kwrap .i64 (kshl .i64 1 (kwrap .u64 (kwrap .i64 (32 - 1))) - 1) = 2147483647 := by rfl
    have e2 : kwrap .i64 (kwrap .i64 (0 - kwrap .i64 (kshl .i64 1 (kwrap .u64 (kwrap .i64 (32 - 1))) - 1)) - 1) = -2147483648 := by rfl
    dsimp only
    rw [e2, e1]
    exact bif_eq_f (decide_eq_false (by omega)) (bif_eq_f (decide_eq_false (by omega)) rfl)
  · rw [kw_i32 (by omega) (by omega)]
def tonef (a n d : Int) (k : Nat) : Int := kwrap .i16 (m15 a (sinv ((k : Int) * n) d))
theorem tone_loop (K : Nat) (hK : 4200 ≤ K) {a n d : Int} (c : Nat) (ha : 0 ≤ a ∧ a ≤ 32767) (hn : 0 ≤ n ∧ n ≤ 65535) (hd : 1 ≤ d ∧ d ≤ 65535) (hc : c ≤ 4096) (ws : List ByteArray) (bad : Bool) :
    score_reader_tone_2.l0 K a n d (c : Int) ws bad K 0 (List.replicate c 0) = some (tabOf (tonef a n d) c) := by
  refine fill_loop0 c (tonef a n d) 0 _ (fun next k xs hk hl => ?_) (fun next => ?_) (by omega)
  · have hkn : 0 ≤ (k : Int) * n ∧ (k : Int) * n ≤ 4096 * 65535 := by
      constructor
      · exact Int.mul_nonneg (by omega) hn.1
      · exact Int.mul_le_mul (by omega) hn.2 hn.1 (by decide)
    refine bif_eq_t (decide_eq_true (by omega)) ?_
    dsimp only
    rw [kw_i64 (x := (k : Int) * n) (by omega) (by omega), kw_i32 (x := a) (by omega) (by omega)]
    refine bnd_eq (wsin_w K (by omega) hd.1 (by omega)) ?_
    refine bnd_eq (fmul_w K ha (sinv_b hd.1)) ?_
    refine gd_eq ⟨by omega, by omega, by omega⟩ ?_
    rw [kw_i64 (by omega) (by omega)]; rfl
  · exact bif_eq_f (decide_eq_false (by omega)) rfl
theorem rtone_loop (K : Nat) (hK : 4200 ≤ K) {a n d : Int} (c : Nat) (ha : 0 ≤ a ∧ a ≤ 32767) (hn : 0 ≤ n ∧ n ≤ 65535) (hd : 1 ≤ d ∧ d ≤ 65535) (hc : c ≤ 4096) :
    psalteryref34_Line.l1 K [a, n, d, (c : Int)] K 0 [] = some (tabOf (tonef a n d) c) := by
  refine app_loop0 c (tonef a n d) (fun k => (k : Int)) _ (fun next k hk => ?_) (fun next => ?_) (by omega)
  · have hkn : 0 ≤ (k : Int) * n ∧ (k : Int) * n ≤ 4096 * 65535 := by
      constructor
      · exact Int.mul_nonneg (by omega) hn.1
      · exact Int.mul_le_mul (by omega) hn.2 hn.1 (by decide)
    refine gd_eq (by simp) ?_
    refine bif_eq_t (decide_eq_true (show (k : Int) < (c : Int) by omega)) ?_
    refine gd_eq (by simp) ?_
    refine gd_eq (by simp) ?_
    show (psalteryref03_Of K (kwrap .i64 ((k : Int) * n)) d).bind _ = _
    rw [kw_i64 (x := (k : Int) * n) (by omega) (by omega)]
    refine bnd_eq (of_w K hd.1 (by omega)) ?_
    refine gd_eq (by simp) ?_
    have hb := sinv_b (n := (k : Int) * n) hd.1
    show (psalteryref01_Mul K a (kwrap .i64 (sinv ((k : Int) * n) d)) 15).bind _ = _
    rw [kw_i64 (x := sinv ((k : Int) * n) d) (by omega) (by omega)]
    refine bnd_eq (rmul_w K ha hb) ?_
    refine gd_eq (by rw [tabOf_len]; simp only [List.length_cons, List.length_nil]; omega) ?_
    rw [kw_i64 (by omega) (by omega), tabOf_succ]; rfl
  · refine gd_eq (by simp) ?_
    exact bif_eq_f (decide_eq_false (show ¬ (c : Int) < (c : Int) by omega)) rfl
theorem tone_w (K : Nat) (hK : 4200 ≤ K) (ws : List ByteArray) (hw : ∀ w ∈ ws, w.size ≤ 100000 ∧ w.size + 1 ≤ K) :
    ∃ z, score_reader_tone_2 K ws false = some z ∧
      (∀ l, numw ws [32767, 65535, 65535, 4096] = some l → (l.getD 2 0 = 0 → ∃ w', z = .inl w') ∧ (l.getD 2 0 ≠ 0 → ∃ xs, z = .inr (xs, [], false) ∧ xs.length ≤ 4096 ∧ psalteryref34_Line.l1 K l K 0 [] = some xs)) ∧
      (numw ws [32767, 65535, 65535, 4096] = none → (∃ w', z = .inl w') ∨ ∃ xs w' b, z = .inr (xs, w', b) ∧ (b = true ∨ w' ≠ [])) := by
  have s1 := rd_sub 32767 ws false
  have b1 := rd_b (m := 32767) (by decide) ws false
  have n1 := number_w K 32767 ws false hw (by omega)
  generalize h1 : rd 32767 ws false = q1 at s1 b1 n1
  obtain ⟨a, ws1, bad1⟩ := q1
  have hw1 : ∀ w ∈ ws1, w.size ≤ 100000 ∧ w.size + 1 ≤ K := fun w h => hw w (s1 w h)
  have s2 := rd_sub 65535 ws1 bad1
  have b2 := rd_b (m := 65535) (by decide) ws1 bad1
  have n2 := number_w K 65535 ws1 bad1 hw1 (by omega)
  generalize h2 : rd 65535 ws1 bad1 = q2 at s2 b2 n2
  obtain ⟨n, ws2, bad2⟩ := q2
  have hw2 : ∀ w ∈ ws2, w.size ≤ 100000 ∧ w.size + 1 ≤ K := fun w h => hw1 w (s2 w h)
  have s3 := rd_sub 65535 ws2 bad2
  have b3 := rd_b (m := 65535) (by decide) ws2 bad2
  have n3 := number_w K 65535 ws2 bad2 hw2 (by omega)
  generalize h3 : rd 65535 ws2 bad2 = q3 at s3 b3 n3
  obtain ⟨d, ws3, bad3⟩ := q3
  have hw3 : ∀ w ∈ ws3, w.size ≤ 100000 ∧ w.size + 1 ≤ K := fun w h => hw2 w (s3 w h)
  have b4 := rd_b (m := 4096) (by decide) ws3 bad3
  have n4 := number_w K 4096 ws3 bad3 hw3 (by omega)
  generalize h4 : rd 4096 ws3 bad3 = q4 at b4 n4
  obtain ⟨c, ws4, bad4⟩ := q4
  have hr : rdn [32767, 65535, 65535, 4096] ws false = ([a, n, d, c], ws4, bad4) := by
    simp only [rdn, h1, h2, h3, h4]
  dsimp only at b1 b2 b3 b4
  cases hb : (bif bad4 then true else (d == 0)) with
  | true =>
    refine ⟨.inl ws4, bnd_eq n1 (bnd_eq n2 (bnd_eq n3 (bnd_eq n4 (bif_eq_t hb rfl)))), fun l hl => ⟨fun _ => ⟨_, rfl⟩, fun hd => ?_⟩, fun _ => .inl ⟨_, rfl⟩⟩
    rw [rdn_some hl] at hr
    simp only [Prod.mk.injEq] at hr
    obtain ⟨rfl, _, rfl⟩ := hr
    exact absurd (beq_iff_eq.1 hb) hd
  | false =>
    obtain ⟨c, rfl⟩ : ∃ q : Nat, c = q := ⟨c.toNat, by omega⟩
    have hbad : bad4 = false := by
      cases bad4 with
      | false => rfl
      | true => cases hb
    subst hbad
    have hd0 : d ≠ 0 := beq_eq_false_iff_ne.1 hb
    have hloop := tone_loop K hK c b1 b2 (d := d) (by omega) (by omega) ws4 false
    refine ⟨.inr (tabOf (tonef a n d) c, ws4, false), bnd_eq n1 (bnd_eq n2 (bnd_eq n3 (bnd_eq n4 (bif_eq_f hb (gd_eq ⟨by omega, by omega, by omega⟩ ?_))))), fun l hl => ⟨fun hd => ?_, fun _ => ?_⟩, fun hl => .inr ⟨_, _, _, rfl, ?_⟩⟩
    · dsimp only
      rw [Int.toNat_natCast, List.length_replicate]
      exact bnd_eq hloop rfl
    · rw [rdn_some hl] at hr
      simp only [Prod.mk.injEq] at hr
      obtain ⟨rfl, _, _⟩ := hr
      exact absurd hd hd0
    · rw [rdn_some hl] at hr
      simp only [Prod.mk.injEq] at hr
      obtain ⟨rfl, rfl, _⟩ := hr
      exact ⟨_, rfl, by rw [tabOf_len]; omega, rtone_loop K hK c b1 b2 (by omega) (by omega)⟩
    · have := rdn_none hl
      rw [hr] at this
      exact this
end Go.Fo
