/- The plain fact of AllocShares, in one text. -/
import Derived.Test.YtcaehpgdcjonfaaAsF
import Derived.Test.YtcaehpgdcjonfaaN3
import Derived.Test.YtcaehpgdcjonfaaN4
import Derived.KernelRfl
namespace Go.Fo
section
def w (a b c : Int) : Bool := decide (b ≤ a) && decide (a ≤ c)
theorem within_w (a b c : Int) : format_within 300 a b c = some (w a b c) := by
  unfold w; simp only [format_within]; by_cases h : b ≤ a <;> simp [h]
theorem all_2 : ∀ a b : Bool, format_all 300 [a, b] = some (a && b) := by intro a b; cases a <;> cases b <;> rfl
theorem all_3 : ∀ a b c : Bool, format_all 300 [a, b, c] = some (a && (b && c)) := by intro a b c; cases a <;> cases b <;> cases c <;> rfl
theorem all_6 : ∀ a b c d e f : Bool, format_all 300 [a, b, c, d, e, f] = some (a && (b && (c && (d && (e && f))))) := by intro a b c d e f; cases a <;> cases b <;> cases c <;> cases d <;> cases e <;> cases f <;> rfl
def may (n : Int) : Bool := (n == 40) || ((n == 60) || ((n == 80) || (n == 120)))
theorem idx_step (l : List Int) (n c : Int) (m : Nat) (i : Int) (h0 : 0 ≤ i) (h1 : i < c) (h2 : c = (l.length : Int)) (h3 : c ≤ 1000) (hn : (n == Kd.nth (.int .i64) l (Int.toNat i)) = false) : slices_Index_int_int.l0 300 l n c (m + 1) i = slices_Index_int_int.l0 300 l n c m (i + 1) := by
  show slices_Index_int_int.r0 300 l n c (slices_Index_int_int.l0 300 l n c m) i = _
  refine bif_eq_t (decide_eq_true h1) (gd_eq ⟨h0, by omega⟩ (bif_eq_f hn ?_))
  rw [kw_i64 (by omega) (by omega)]
theorem lengths_w (n : Int) : slices_Contains_int_int 300 [40, 60, 80, 120] n = some (may n) := by
  by_cases h1 : n = 40
  · subst h1; rfl
  by_cases h2 : n = 60
  · subst h2; rfl
  by_cases h3 : n = 80
  · subst h3; rfl
  by_cases h4 : n = 120
  · subst h4; rfl
  have e1 : (n == 40) = false := by simpa using h1
  have e2 : (n == 60) = false := by simpa using h2
  have e3 : (n == 80) = false := by simpa using h3
  have e4 : (n == 120) = false := by simpa using h4
  have hm : may n = false := by unfold may; rw [e1, e2, e3, e4]; rfl
  rw [hm]
  refine bnd_eq (x := -1) (bnd_eq (x := .inl ()) ?_ rfl) rfl
  show slices_Index_int_int.l0 300 [40, 60, 80, 120] n 4 (299 + 1) 0 = _
  rw [idx_step [40, 60, 80, 120] n 4 299 0 (by decide) (by decide) rfl (by decide) e1]
  show slices_Index_int_int.l0 300 [40, 60, 80, 120] n 4 (298 + 1) 1 = _
  rw [idx_step [40, 60, 80, 120] n 4 298 1 (by decide) (by decide) rfl (by decide) e2]
  show slices_Index_int_int.l0 300 [40, 60, 80, 120] n 4 (297 + 1) 2 = _
  rw [idx_step [40, 60, 80, 120] n 4 297 2 (by decide) (by decide) rfl (by decide) e3]
  show slices_Index_int_int.l0 300 [40, 60, 80, 120] n 4 (296 + 1) 3 = _
  rw [idx_step [40, 60, 80, 120] n 4 296 3 (by decide) (by decide) rfl (by decide) e4]
  rfl
def fieldsB (p0 p1 p2 p3 p4 p5 p6 p7 p8 p9 : Int) : Bool :=
  bif p0 == 1 then (w p1 0 3 && w p2 1 2) && ((bif p3 == 4 then true else p3 == 8) && ((bif Int.tmod p4 4 == 0 then w p4 4 16 else false) && (w p5 0 1 && (w p6 0 (kwrap .i64 (p2 - 1)) && (w p7 2 (imin (kwrap .i64 (kwrap .i64 (16 * p3) * p2)) 250) && (bif p8 == 0 then p9 == 0 else false))))))
  else bif p0 == 2 then (w p1 0 3 && w p2 1 2) && (may p8 && (w p9 20 120 && (bif (bif (bif (bif p3 == 0 then p4 == 0 else false) then p5 == 0 else false) then p6 == 0 else false) then p7 == 0 else false)))
  else false
theorem fields_w (p0 p1 p2 p3 p4 p5 p6 p7 p8 p9 : Int) : format_fields 300 p0 p1 p2 p3 p4 p5 p6 p7 p8 p9 = some (fieldsB p0 p1 p2 p3 p4 p5 p6 p7 p8 p9) := by
  refine bnd_eq (within_w p1 0 3) (bnd_eq (within_w p2 1 2) (bnd_eq (all_2 _ _) ?_))
  unfold fieldsB
  generalize (w p1 0 3 && w p2 1 2) = q
  rcases Bool.eq_false_or_eq_true (p0 == 1) with e | e
  · refine bif_eq_t e ?_
    rw [e]
    cases q with
    | false => rfl
    | true =>
      rcases Bool.eq_false_or_eq_true (Int.tmod p4 4 == 0) with e4 | e4
      · refine bnd_eq (bif_eq_t rfl (bif_eq_t e4 (bnd_eq (within_w _ _ _) (bnd_eq (within_w _ _ _) (bnd_eq (within_w _ _ _) (bnd_eq (within_w _ _ _) (bnd_eq (all_6 _ _ _ _ _ _) rfl))))))) rfl
      · refine (bnd_eq (bif_eq_t rfl (bif_eq_f e4 (bnd_eq (within_w _ _ _) (bnd_eq (within_w _ _ _) (bnd_eq (within_w _ _ _) (bnd_eq (all_6 _ _ _ _ _ _) rfl)))))) rfl).trans ?_
        rw [e4]; rfl
  · refine bif_eq_f e ?_
    rw [e]
    rcases Bool.eq_false_or_eq_true (p0 == 2) with e' | e'
    · refine bif_eq_t e' ?_
      rw [e']
      cases q with
      | false => rfl
      | true => exact bnd_eq (bif_eq_t rfl (bnd_eq rfl (bnd_eq (lengths_w _) (bnd_eq (within_w _ _ _) (bnd_eq (all_3 _ _ _) rfl))))) rfl
    · refine bif_eq_f e' ?_
      rw [e']; rfl
def subP (p0 p1 p2 p3 p4 p5 p6 p7 p8 p9 : Int) : Prop := p0 = 1 ∧ 0 ≤ p1 ∧ p1 ≤ 3 ∧ (p2 = 1 ∨ p2 = 2) ∧ (p3 = 4 ∨ p3 = 8) ∧ (p4 = 4 ∨ p4 = 8 ∨ p4 = 12 ∨ p4 = 16) ∧ (p5 = 0 ∨ p5 = 1) ∧ (p6 = 0 ∨ (p6 = 1 ∧ p2 = 2)) ∧ 2 ≤ p7 ∧ p7 ≤ 250 ∧ p7 ≤ 16 * p3 * p2 ∧ p8 = 0 ∧ p9 = 0
def lapP (p0 p1 p2 p3 p4 p5 p6 p7 p8 p9 : Int) : Prop := p0 = 2 ∧ 0 ≤ p1 ∧ p1 ≤ 3 ∧ (p2 = 1 ∨ p2 = 2) ∧ (p8 = 40 ∨ p8 = 60 ∨ p8 = 80 ∨ p8 = 120) ∧ 20 ≤ p9 ∧ p9 ≤ 120 ∧ p3 = 0 ∧ p4 = 0 ∧ p5 = 0 ∧ p6 = 0 ∧ p7 = 0
instance (p0 p1 p2 p3 p4 p5 p6 p7 p8 p9 : Int) : Decidable (subP p0 p1 p2 p3 p4 p5 p6 p7 p8 p9) := by unfold subP; infer_instance
instance (p0 p1 p2 p3 p4 p5 p6 p7 p8 p9 : Int) : Decidable (lapP p0 p1 p2 p3 p4 p5 p6 p7 p8 p9) := by unfold lapP; infer_instance
theorem fields_iff (p0 p1 p2 p3 p4 p5 p6 p7 p8 p9 : Int) : fieldsB p0 p1 p2 p3 p4 p5 p6 p7 p8 p9 = true ↔ subP p0 p1 p2 p3 p4 p5 p6 p7 p8 p9 ∨ lapP p0 p1 p2 p3 p4 p5 p6 p7 p8 p9 := by
  have hk : ∀ a b : Int, (a = 4 ∨ a = 8) → (b = 1 ∨ b = 2) → kwrap .i64 (kwrap .i64 (16 * a) * b) = 16 * a * b ∧ kwrap .i64 (b - 1) = b - 1 := by
    rintro a b (rfl | rfl) (rfl | rfl) <;> exact ⟨rfl, rfl⟩
  unfold fieldsB
  rcases Bool.eq_false_or_eq_true (p0 == 1) with e | e
  · rw [e, cond_true]
    have e1 : p0 = 1 := by simpa using e
    simp only [w, Bool.and_eq_true, Bool.or_eq_true, decide_eq_true_eq, Bool.cond_true_left, Bool.cond_false_right, beq_iff_eq]
    constructor
    · rintro ⟨⟨⟨a1, a2⟩, a3, a4⟩, b1, b2, ⟨c1, c2⟩, ⟨d1, d2⟩, ⟨f1, f2⟩, g⟩
      left
      have h2 : p2 = 1 ∨ p2 = 2 := by omega
      have h3 : p3 = 4 ∨ p3 = 8 := b1
      obtain ⟨k1, k2⟩ := hk p3 p2 h3 h2
      rw [k1] at f2; rw [k2] at d2
      have b2' := b2
      have g' := g
      have f2' : p7 ≤ 16 * p3 * p2 ∧ p7 ≤ 250 := by unfold imin at f2; split at f2 <;> omega
      have h4 : p4 % 4 = 0 := by have := b2'.1; rw [Int.tmod_eq_emod_of_nonneg (by omega)] at this; exact this
      refine ⟨e1, a1, a2, h2, h3, by omega, by omega, by omega, f1, f2'.2, f2'.1, g'⟩
    · rintro (⟨_, a1, a2, h2, h3, h4, h5, h6, f1, f2, f3, g1, g2⟩ | ⟨h, _⟩)
      · obtain ⟨k1, k2⟩ := hk p3 p2 h3 h2
        have f4 : p7 ≤ imin (kwrap .i64 (kwrap .i64 (16 * p3) * p2)) 250 := by rw [k1]; unfold imin; split <;> omega
        have d4 : p6 ≤ kwrap .i64 (p2 - 1) := by rw [k2]; omega
        refine ⟨⟨⟨a1, a2⟩, by omega, by omega⟩, h3, ⟨?_, by omega, by omega⟩, ⟨by omega, by omega⟩, ⟨by omega, d4⟩, ⟨f1, f4⟩, g1, g2⟩
        rcases h4 with rfl | rfl | rfl | rfl <;> rfl
      · omega
  · rw [e]
    have e1 : p0 ≠ 1 := by simpa using e
    simp only [cond_false]
    rcases Bool.eq_false_or_eq_true (p0 == 2) with e' | e'
    · rw [e', cond_true]
      have e2 : p0 = 2 := by simpa using e'
      simp only [w, may, Bool.and_eq_true, Bool.or_eq_true, decide_eq_true_eq, beq_iff_eq, Bool.cond_false_right]
      constructor
      · rintro ⟨⟨⟨a1, a2⟩, a3, a4⟩, b1, ⟨c1, c2⟩, ⟨⟨⟨d3, d4⟩, d5⟩, d6⟩, d7⟩
        right
        exact ⟨e2, a1, a2, by omega, b1, c1, c2, d3, d4, d5, d6, d7⟩
      · rintro (⟨h, _⟩ | ⟨_, a1, a2, h2, h8, c1, c2, d3, d4, d5, d6, d7⟩)
        · omega
        · exact ⟨⟨⟨a1, a2⟩, by omega, by omega⟩, h8, ⟨c1, c2⟩, ⟨⟨⟨d3, d4⟩, d5⟩, d6⟩, d7⟩
    · rw [e']
      have e2 : p0 ≠ 2 := by simpa using e'
      simp only [cond_false]
      constructor
      · intro h; cases h
      · rintro (⟨h, _⟩ | ⟨h, _⟩) <;> omega
theorem prods (p0 p1 p2 p3 p4 p5 p6 p7 p8 p9 : Int) (h : subP p0 p1 p2 p3 p4 p5 p6 p7 p8 p9) : 0 ≤ p6 * p3 ∧ p6 * p3 ≤ 8 ∧ 4 ≤ p3 ∧ p3 ≤ 8 ∧ 16 ≤ 4 * p3 * p2 ∧ 4 * p3 * p2 ≤ 64 ∧ 8 ≤ p4 * p7 ∧ p4 * p7 ≤ 4000 ∧ 16 ≤ p3 * p4 ∧ p3 * p4 ≤ 128 := by
  obtain ⟨rfl, a1, a2, h2, h3, h4, h5, h6, f1, f2, f3, g1, g2⟩ := h
  rcases h2 with rfl | rfl <;> rcases h3 with rfl | rfl <;> rcases h4 with rfl | rfl | rfl | rfl <;> rcases h6 with rfl | ⟨rfl, _⟩ <;> omega
def bitsZ (p2 p3 p4 p6 p7 : Int) : Int := 32 + p6 * p3 + 4 * p3 * p2 + p4 * p7
theorem bits_w (p0 p1 p2 p3 p4 p5 p6 p7 p8 p9 : Int) (h : subP p0 p1 p2 p3 p4 p5 p6 p7 p8 p9) : format_bits 300 p0 p1 p2 p3 p4 p5 p6 p7 p8 p9 = some (bitsZ p2 p3 p4 p6 p7) := by
  obtain ⟨q1, q2, q3, q4, q5, q6, q7, q8, _⟩ := prods p0 p1 p2 p3 p4 p5 p6 p7 p8 p9 h
  have e : (p0 == 2) = false := by rw [h.1]; rfl
  refine bif_eq_f e ?_
  unfold bitsZ
  dsimp only
  rw [kw_i64 (x := p6 * p3) (by omega) (by omega), kw_i64 (x := 4 * p3) (by omega) (by omega), kw_i64 (x := 4 * p3 * p2) (by omega) (by omega), kw_i64 (x := p4 * p7) (by omega) (by omega), kw_i64 (x := 32 + p6 * p3) (by omega) (by omega), kw_i64 (x := 32 + p6 * p3 + 4 * p3 * p2) (by omega) (by omega), kw_i64 (by omega) (by omega)]
theorem refbits_w (p0 p1 p2 p3 p4 p5 p6 p7 p8 p9 : Int) (h : subP p0 p1 p2 p3 p4 p5 p6 p7 p8 p9) : psalteryref11_Bits 300 p0 p1 p2 p3 p4 p5 p6 p7 p8 p9 = some (bitsZ p2 p3 p4 p6 p7) := by
  obtain ⟨q1, q2, q3, q4, q5, q6, q7, q8, _⟩ := prods p0 p1 p2 p3 p4 p5 p6 p7 p8 p9 h
  have h' := h
  obtain ⟨rfl, a1, a2, h2, h3, h4, h5, h6, f1, f2, f3, rfl, rfl⟩ := h
  refine bif_eq_f rfl ?_
  dsimp only
  rw [kw_i64 (x := p4 * p7) (by omega) (by omega), kw_i64 (x := 32 + p4 * p7) (by omega) (by omega)]
  have e4 : kwrap .i64 (4 * p3) = 4 * p3 := kw_i64 (by omega) (by omega)
  have step : ∀ (m : Nat) (x i : Int), i < p2 → 0 ≤ i → i ≤ 10 → 0 ≤ x → x ≤ 10000 → psalteryref11_Bits.l0 300 1 p1 p2 p3 p4 p5 p6 p7 0 0 (m + 1) x i = psalteryref11_Bits.l0 300 1 p1 p2 p3 p4 p5 p6 p7 0 0 m (x + 4 * p3) (i + 1) := by
    intro m x i hi h0 h1 h2 h3
    show psalteryref11_Bits.r0 300 1 p1 p2 p3 p4 p5 p6 p7 0 0 (psalteryref11_Bits.l0 300 1 p1 p2 p3 p4 p5 p6 p7 0 0 m) x i = _
    refine bif_eq_t (decide_eq_true hi) ?_
    dsimp only
    rw [e4, kw_i64 (x := x + 4 * p3) (by omega) (by omega), kw_i64 (x := i + 1) (by omega) (by omega)]
  have stop : ∀ (m : Nat) (x i : Int), ¬ i < p2 → psalteryref11_Bits.l0 300 1 p1 p2 p3 p4 p5 p6 p7 0 0 (m + 1) x i = some x := by
    intro m x i hi
    show psalteryref11_Bits.r0 300 1 p1 p2 p3 p4 p5 p6 p7 0 0 (psalteryref11_Bits.l0 300 1 p1 p2 p3 p4 p5 p6 p7 0 0 m) x i = _
    exact bif_eq_f (decide_eq_false hi) rfl
  have hl : psalteryref11_Bits.l0 300 1 p1 p2 p3 p4 p5 p6 p7 0 0 (299 + 1) (32 + p4 * p7) 0 = some (32 + p4 * p7 + 4 * p3 * p2) := by
    rcases h2 with rfl | rfl
    · rw [step _ _ _ (by decide) (by decide) (by decide) (by omega) (by omega)]
      show psalteryref11_Bits.l0 300 1 p1 1 p3 p4 p5 p6 p7 0 0 (298 + 1) _ _ = _
      rw [stop _ _ _ (by decide)]; congr 1; omega
    · rw [step _ _ _ (by decide) (by decide) (by decide) (by omega) (by omega)]
      show psalteryref11_Bits.l0 300 1 p1 2 p3 p4 p5 p6 p7 0 0 (298 + 1) _ _ = _
      rw [step _ _ _ (by decide) (by decide) (by decide) (by omega) (by omega)]
      show psalteryref11_Bits.l0 300 1 p1 2 p3 p4 p5 p6 p7 0 0 (297 + 1) _ _ = _
      rw [stop _ _ _ (by decide)]; congr 1; omega
  refine bnd_eq hl ?_
  unfold bitsZ
  rcases h6 with rfl | ⟨rfl, _⟩
  · refine bnd_eq (bif_eq_f rfl rfl) ?_
    congr 1; omega
  · refine bnd_eq (bif_eq_t rfl (by rw [kw_i64 (by omega) (by omega)])) ?_
    congr 1; omega
def payZ (p2 p3 p4 p6 p7 : Int) : Int := (bitsZ p2 p3 p4 p6 p7 + 7) / 8
theorem bitsZ_in (p0 p1 p2 p3 p4 p5 p6 p7 p8 p9 : Int) (h : subP p0 p1 p2 p3 p4 p5 p6 p7 p8 p9) : 56 ≤ bitsZ p2 p3 p4 p6 p7 ∧ bitsZ p2 p3 p4 p6 p7 ≤ 4104 := by
  obtain ⟨q1, q2, q3, q4, q5, q6, q7, q8, _⟩ := prods p0 p1 p2 p3 p4 p5 p6 p7 p8 p9 h
  unfold bitsZ; omega
theorem pay_w (p0 p1 p2 p3 p4 p5 p6 p7 p8 p9 : Int) (h : subP p0 p1 p2 p3 p4 p5 p6 p7 p8 p9) : format_payload 300 p0 p1 p2 p3 p4 p5 p6 p7 p8 p9 = some (payZ p2 p3 p4 p6 p7) := by
  have hb := bitsZ_in p0 p1 p2 p3 p4 p5 p6 p7 p8 p9 h
  have e : (p0 == 2) = false := by rw [h.1]; rfl
  refine bif_eq_f e (bnd_eq (bits_w p0 p1 p2 p3 p4 p5 p6 p7 p8 p9 h) ?_)
  unfold payZ
  dsimp only
  rw [kw_i64 (x := bitsZ p2 p3 p4 p6 p7 + 7) (by omega) (by omega), Int.tdiv_eq_ediv_of_nonneg (by omega), kw_i64 (by omega) (by omega)]
def okP (p0 p1 p2 p3 p4 p5 p6 p7 p8 p9 : Int) : Prop := (subP p0 p1 p2 p3 p4 p5 p6 p7 p8 p9 ∧ bitsZ p2 p3 p4 p6 p7 ≤ 4096) ∨ lapP p0 p1 p2 p3 p4 p5 p6 p7 p8 p9
instance (p0 p1 p2 p3 p4 p5 p6 p7 p8 p9 : Int) : Decidable (okP p0 p1 p2 p3 p4 p5 p6 p7 p8 p9) := by unfold okP; infer_instance
theorem lappay_w (p0 p1 p2 p3 p4 p5 p6 p7 p8 p9 : Int) (h : lapP p0 p1 p2 p3 p4 p5 p6 p7 p8 p9) : format_payload 300 p0 p1 p2 p3 p4 p5 p6 p7 p8 p9 = some (p9 * p2) := by
  obtain ⟨rfl, a1, a2, h2, h8, c1, c2, rest⟩ := h
  refine bif_eq_t rfl ?_
  rw [kw_i64 (by rcases h2 with rfl | rfl <;> omega) (by rcases h2 with rfl | rfl <;> omega)]
theorem Check_w (p0 p1 p2 p3 p4 p5 p6 p7 p8 p9 : Int) : format_Check 300 p0 p1 p2 p3 p4 p5 p6 p7 p8 p9 = some (if okP p0 p1 p2 p3 p4 p5 p6 p7 p8 p9 then 0 else 110) := by
  have hf := fields_iff p0 p1 p2 p3 p4 p5 p6 p7 p8 p9
  by_cases hs : subP p0 p1 p2 p3 p4 p5 p6 p7 p8 p9
  · have hb := bitsZ_in p0 p1 p2 p3 p4 p5 p6 p7 p8 p9 hs
    refine bnd_eq (bnd_eq ((fields_w p0 p1 p2 p3 p4 p5 p6 p7 p8 p9).trans (by rw [hf.2 (.inl hs)])) (bif_eq_f rfl (bnd_eq (pay_w p0 p1 p2 p3 p4 p5 p6 p7 p8 p9 hs) rfl))) ?_
    by_cases ho : okP p0 p1 p2 p3 p4 p5 p6 p7 p8 p9
    · rw [if_pos ho]
      refine bif_eq_f (decide_eq_false ?_) rfl
      rcases ho with ⟨_, ho⟩ | ho
      · unfold payZ; omega
      · have := hs.1; have := ho.1; omega
    · rw [if_neg ho]
      refine bif_eq_t (decide_eq_true ?_) rfl
      have : ¬ bitsZ p2 p3 p4 p6 p7 ≤ 4096 := fun q => ho (.inl ⟨hs, q⟩)
      unfold payZ; omega
  · by_cases hl : lapP p0 p1 p2 p3 p4 p5 p6 p7 p8 p9
    · rw [if_pos (show okP p0 p1 p2 p3 p4 p5 p6 p7 p8 p9 from .inr hl)]
      refine bnd_eq (bnd_eq ((fields_w p0 p1 p2 p3 p4 p5 p6 p7 p8 p9).trans (by rw [hf.2 (.inr hl)])) (bif_eq_f rfl (bnd_eq (lappay_w p0 p1 p2 p3 p4 p5 p6 p7 p8 p9 hl) rfl))) ?_
      obtain ⟨_, a1, a2, h2, h8, c1, c2, _⟩ := hl
      refine bif_eq_f (decide_eq_false ?_) rfl
      rcases h2 with rfl | rfl <;> omega
    · have : fieldsB p0 p1 p2 p3 p4 p5 p6 p7 p8 p9 = false := by
        rcases Bool.eq_false_or_eq_true (fieldsB p0 p1 p2 p3 p4 p5 p6 p7 p8 p9) with e | e
        · rcases hf.1 e with h | h
          · exact absurd h hs
          · exact absurd h hl
        · exact e
      rw [if_neg (show ¬ okP p0 p1 p2 p3 p4 p5 p6 p7 p8 p9 from fun h => h.elim (fun q => hs q.1) hl)]
      exact bnd_eq (bnd_eq ((fields_w p0 p1 p2 p3 p4 p5 p6 p7 p8 p9).trans (by rw [this])) (bif_eq_t rfl rfl)) rfl
theorem refsub_w (p0 p1 p2 p3 p4 p5 p6 p7 p8 p9 : Int) : psalteryref11_Sub 300 p0 p1 p2 p3 p4 p5 p6 p7 p8 p9 = some (decide (subP p0 p1 p2 p3 p4 p5 p6 p7 p8 p9 ∧ bitsZ p2 p3 p4 p6 p7 ≤ 4096)) := by
  have no : ¬ subP p0 p1 p2 p3 p4 p5 p6 p7 p8 p9 → some false = some (decide (subP p0 p1 p2 p3 p4 p5 p6 p7 p8 p9 ∧ bitsZ p2 p3 p4 p6 p7 ≤ 4096)) := fun h => by rw [decide_eq_false (fun q => h q.1)]
  by_cases c1 : p0 = 1 ∧ p8 = 0 ∧ p9 = 0
  · obtain ⟨x1, x2, x3⟩ := c1
    refine bif_eq_f (by rw [x1, x2, x3]; rfl) ?_
    by_cases c2 : 0 ≤ p1 ∧ p1 ≤ 3 ∧ 1 ≤ p2 ∧ p2 ≤ 2 ∧ 0 ≤ p5 ∧ p5 ≤ 1
    · obtain ⟨a1, a2, a3, a4, a5, a6⟩ := c2
      refine bif_eq_f (by rw [decide_eq_false (by omega : ¬ p1 < 0), decide_eq_false (by omega : ¬ p1 > 3), decide_eq_false (by omega : ¬ p2 < 1), decide_eq_false (by omega : ¬ p2 > 2), decide_eq_false (by omega : ¬ p5 < 0), decide_eq_false (by omega : ¬ p5 > 1)]; rfl) ?_
      by_cases c3 : (p3 = 4 ∨ p3 = 8) ∧ (p4 = 4 ∨ p4 = 8 ∨ p4 = 12 ∨ p4 = 16)
      · obtain ⟨h3, h4⟩ := c3
        refine bif_eq_f (by rcases h3 with rfl | rfl <;> rcases h4 with rfl | rfl | rfl | rfl <;> rfl) ?_
        by_cases c4 : p6 = 0 ∨ (p6 = 1 ∧ p2 = 2)
        · refine bif_eq_f (by rcases c4 with rfl | ⟨rfl, rfl⟩ <;> rfl) ?_
          have hk : kwrap .i64 (kwrap .i64 (16 * p3) * p2) = 16 * p3 * p2 := by
            have : p2 = 1 ∨ p2 = 2 := by omega
            rcases h3 with rfl | rfl <;> rcases this with rfl | rfl <;> rfl
          refine bnd_eq (x := decide (subP p0 p1 p2 p3 p4 p5 p6 p7 p8 p9 ∧ bitsZ p2 p3 p4 p6 p7 ≤ 4096)) ?_ rfl
          by_cases c5 : 2 ≤ p7 ∧ p7 ≤ 250 ∧ p7 ≤ 16 * p3 * p2
          · obtain ⟨b1, b2, b3⟩ := c5
            have hs : subP p0 p1 p2 p3 p4 p5 p6 p7 p8 p9 := ⟨x1, a1, a2, by omega, h3, h4, by omega, c4, b1, b2, b3, x2, x3⟩
            refine bif_eq_t (by rw [hk, decide_eq_true (by omega : p7 ≥ 2), decide_eq_true b2, decide_eq_true b3]; rfl) (bnd_eq (refbits_w p0 p1 p2 p3 p4 p5 p6 p7 p8 p9 hs) ?_)
            exact congrArg some (decide_eq_decide.2 ⟨fun q => ⟨hs, q⟩, fun q => q.2⟩)
          · refine (bif_eq_f ?_ rfl).trans (no fun h => c5 ⟨h.2.2.2.2.2.2.2.2.1, h.2.2.2.2.2.2.2.2.2.1, h.2.2.2.2.2.2.2.2.2.2.1⟩)
            rw [hk]
            rcases Bool.eq_false_or_eq_true (decide (p7 ≥ 2)) with e1 | e1 <;> rcases Bool.eq_false_or_eq_true (decide (p7 ≤ 250)) with e2 | e2 <;> rcases Bool.eq_false_or_eq_true (decide (p7 ≤ 16 * p3 * p2)) with e3 | e3 <;> rw [e1, e2, e3] <;> first | rfl | exact absurd ⟨of_decide_eq_true e1, of_decide_eq_true e2, of_decide_eq_true e3⟩ c5
        · refine (bif_eq_t ?_ rfl).trans (no fun h => c4 h.2.2.2.2.2.2.2.1)
          have n0 : (p6 != 0) = true := by simp; intro q; exact c4 (.inl q)
          rw [n0]
          by_cases q1 : p6 = 1
          · subst q1
            have : (p2 != 2) = true := by simp; intro q; exact c4 (.inr ⟨rfl, q⟩)
            rw [this]; rfl
          · have : (p6 != 1) = true := by simpa using q1
            rw [this]; rfl
      · refine (bif_eq_t ?_ rfl).trans (no fun h => c3 ⟨h.2.2.2.2.1, h.2.2.2.2.2.1⟩)
        simp only [Bool.cond_eq_ite, bne_iff_ne, ne_eq]
        by_cases q3 : p3 = 4 ∨ p3 = 8
        · have q4 : ¬ (p4 = 4 ∨ p4 = 8 ∨ p4 = 12 ∨ p4 = 16) := fun q => c3 ⟨q3, q⟩
          have x1 : ¬ p4 = 4 := by omega
          have x2 : ¬ p4 = 8 := by omega
          have x3 : ¬ p4 = 12 := by omega
          have x4 : ¬ p4 = 16 := by omega
          simp [x1, x2, x3, x4]
        · have x1 : ¬ p3 = 4 := by omega
          have x2 : ¬ p3 = 8 := by omega
          simp [x1, x2]
    · refine (bif_eq_t ?_ rfl).trans (no fun h => c2 (by obtain ⟨_, a1, a2, h2, h3, h4, h5, _⟩ := h; omega))
      by_cases x1 : p1 < 0 <;> by_cases x2 : p1 > 3 <;> by_cases x3 : p2 < 1 <;> by_cases x4 : p2 > 2 <;> by_cases x5 : p5 < 0 <;> by_cases x6 : p5 > 1 <;> first | (simp [x1, x2, x3, x4, x5, x6]; done) | (exfalso; omega)
  · refine (bif_eq_t ?_ rfl).trans (no fun h => c1 ⟨h.1, h.2.2.2.2.2.2.2.2.2.2.2⟩)
    by_cases x1 : p0 = 1 <;> by_cases x2 : p8 = 0 <;> by_cases x3 : p9 = 0 <;> first | (simp [x1, x2, x3]; done) | exact absurd ⟨x1, x2, x3⟩ c1
end
section
theorem al12 : psalterylaw12_alive 300 = some true := by kernel_rfl
/-- the offset of a band -/
def offI (r B b : Int) : Int := (psalteryref12_offset 300 0 r 0 B 0 0 0 0 0 0 b).getD 0
theorem off_ref (p0 p1 p2 p3 p4 p5 p6 p7 p8 p9 b : Int) : psalteryref12_offset 300 p0 p1 p2 p3 p4 p5 p6 p7 p8 p9 b = some (offI p1 p3 b) := by
  have : ∃ v, psalteryref12_offset 300 p0 p1 p2 p3 p4 p5 p6 p7 p8 p9 b = some v := by
    unfold psalteryref12_offset
    cases (p3 == 4) <;> cases (b == 0) <;> cases (p1 == 0) <;> cases (b == 6) <;> cases (b == 7) <;> cases (b == 3) <;> cases (decide (p1 > 0)) <;> exact ⟨_, rfl⟩
  obtain ⟨v, hv⟩ := this
  rw [hv]
  have : psalteryref12_offset 300 0 p1 0 p3 0 0 0 0 0 0 b = some v := hv
  unfold offI; rw [this]; rfl
theorem off_w (p0 p1 p2 p3 p4 p5 p6 p7 p8 p9 b : Int) (hr : 0 ≤ p1 ∧ p1 ≤ 3) (hB : p3 = 4 ∨ p3 = 8) (hb : 0 ≤ b ∧ b < p3) : alloc_offset 300 p0 p1 p2 p3 p4 p5 p6 p7 p8 p9 b = some (offI p1 p3 b) ∧ -4 ≤ offI p1 p3 b ∧ offI p1 p3 b ≤ 2 := by
  have h1 : p1 = 0 ∨ p1 = 1 ∨ p1 = 2 ∨ p1 = 3 := by omega
  rcases hB with rfl | rfl
  · have h2 : b = 0 ∨ b = 1 ∨ b = 2 ∨ b = 3 := by omega
    rcases h1 with rfl | rfl | rfl | rfl <;> rcases h2 with rfl | rfl | rfl | rfl <;> exact ⟨rfl, by decide, by decide⟩
  · have h2 : b = 0 ∨ b = 1 ∨ b = 2 ∨ b = 3 ∨ b = 4 ∨ b = 5 ∨ b = 6 ∨ b = 7 := by omega
    rcases h1 with rfl | rfl | rfl | rfl <;> rcases h2 with rfl | rfl | rfl | rfl | rfl | rfl | rfl | rfl <;> exact ⟨rfl, by decide, by decide⟩
/-- what a band needs -/
def needI (r B me s b : Int) : Int := bif me == 1 then s else bif s == 0 then -5 else bif decide (s - offI r B b > 0) then Int.tdiv (s - offI r B b) 2 else s - offI r B b
theorem need_w (p0 p1 p2 p3 p4 p5 p6 p7 p8 p9 s b : Int) (hr : 0 ≤ p1 ∧ p1 ≤ 3) (hB : p3 = 4 ∨ p3 = 8) (hb : 0 ≤ b ∧ b < p3) (hs : 0 ≤ s ∧ s ≤ 15) : alloc_need 300 p0 p1 p2 p3 p4 p5 p6 p7 p8 p9 s b = some (needI p1 p3 p5 s b) := by
  obtain ⟨h1, h2, h3⟩ := off_w p0 p1 p2 p3 p4 p5 p6 p7 p8 p9 b hr hB hb
  unfold needI
  rcases Bool.eq_false_or_eq_true (p5 == 1) with e | e
  · rw [e]; exact bif_eq_t e rfl
  · rw [e]
    refine bif_eq_f e ?_
    rcases Bool.eq_false_or_eq_true (s == 0) with e2 | e2
    · rw [e2]; exact bif_eq_t rfl rfl
    · rw [e2]
      refine bif_eq_f rfl (bnd_eq h1 ?_)
      dsimp only
      rw [kw_i64 (x := s - offI p1 p3 b) (by omega) (by omega)]
      rcases Bool.eq_false_or_eq_true (decide (s - offI p1 p3 b > 0)) with e3 | e3
      · have h0 : s - offI p1 p3 b > 0 := of_decide_eq_true e3
        rw [e3]
        refine bnd_eq (bif_eq_t rfl rfl) ?_
        rw [kw_i64 (by rw [Int.tdiv_eq_ediv_of_nonneg (by omega)]; omega) (by rw [Int.tdiv_eq_ediv_of_nonneg (by omega)]; omega)]; rfl
      · rw [e3]; exact bnd_eq (bif_eq_f rfl rfl) rfl
theorem need_rng (r B me s b : Int) (hr : 0 ≤ r ∧ r ≤ 3) (hB : B = 4 ∨ B = 8) (hb : 0 ≤ b ∧ b < B) (hs : 0 ≤ s ∧ s ≤ 15) : -5 ≤ needI r B me s b ∧ needI r B me s b ≤ 15 := by
  obtain ⟨_, h2, h3⟩ := off_w 0 r 0 B 0 0 0 0 0 0 b hr hB hb
  unfold needI
  cases (me == 1)
  · cases e : (s == 0)
    · have e' : s ≠ 0 := by simpa using e
      cases e3 : decide (s - offI r B b > 0)
      · have : ¬ s - offI r B b > 0 := of_decide_eq_false e3
        show -5 ≤ s - offI r B b ∧ s - offI r B b ≤ 15; omega
      · have : s - offI r B b > 0 := of_decide_eq_true e3
        show -5 ≤ Int.tdiv (s - offI r B b) 2 ∧ Int.tdiv (s - offI r B b) 2 ≤ 15
        rw [Int.tdiv_eq_ediv_of_nonneg (by omega)]; omega
    · show -5 ≤ (-5 : Int) ∧ (-5 : Int) ≤ 15; decide
  · show -5 ≤ s ∧ s ≤ 15; omega
abbrev row (l : List (List Int)) (j : Int) : List Int := Kd.nth (.slice (.int .i64)) l (Int.toNat j)
abbrev at' (v : List Int) (i : Int) : Int := Kd.nth (.int .i64) v (Int.toNat i)
theorem may_in (l : List (List Int)) (n j p0 p1 p2 p3 p4 p5 p6 p7 p8 p9 : Int) (hj : 0 ≤ j ∧ j < (l.length : Int)) (hv : ((row l j).length : Int) = p3) (hB : p3 ≤ 100) (k : Nat) : ∀ (m m' : Nat) (i : Int), k < m → k < m' → 0 ≤ i → i + k = p3 →
    ∃ z, alloc_may.l1 300 l n j (row l j) ((row l j).length : Int) p0 p1 p2 p3 p4 p5 p6 p7 p8 p9 m i = some z ∧ psalteryref12_May.l1 300 l j p0 p1 p2 p3 p4 p5 p6 p7 p8 p9 m' i = some z ∧ (z = .inr 1 ∨ z = .inl () ∧ ∀ q, i ≤ q → q < p3 → 0 ≤ at' (row l j) q ∧ at' (row l j) q ≤ 15) := by
  induction k with
  | zero =>
    intro m m' i h h' h0 h1
    obtain ⟨m, rfl⟩ : ∃ q, m = q + 1 := ⟨m - 1, by omega⟩
    obtain ⟨m', rfl⟩ : ∃ q, m' = q + 1 := ⟨m' - 1, by omega⟩
    refine ⟨.inl (), ?_, ?_, .inr ⟨rfl, fun q q1 q2 => by omega⟩⟩
    · show alloc_may.r1 300 l n j (row l j) ((row l j).length : Int) p0 p1 p2 p3 p4 p5 p6 p7 p8 p9 (alloc_may.l1 300 l n j (row l j) ((row l j).length : Int) p0 p1 p2 p3 p4 p5 p6 p7 p8 p9 m) i = _
      exact bif_eq_f (decide_eq_false (by omega)) rfl
    · show psalteryref12_May.r1 300 l j p0 p1 p2 p3 p4 p5 p6 p7 p8 p9 (psalteryref12_May.l1 300 l j p0 p1 p2 p3 p4 p5 p6 p7 p8 p9 m') i = _
      exact bif_eq_f (decide_eq_false (by omega)) rfl
  | succ k ih =>
    intro m m' i h h' h0 h1
    obtain ⟨m, rfl⟩ : ∃ q, m = q + 1 := ⟨m - 1, by omega⟩
    obtain ⟨m', rfl⟩ : ∃ q, m' = q + 1 := ⟨m' - 1, by omega⟩
    have st : ∀ z, (bif (bif decide (at' (row l j) i < 0) then true else decide (at' (row l j) i > 15)) then some (.inr 1) else alloc_may.l1 300 l n j (row l j) ((row l j).length : Int) p0 p1 p2 p3 p4 p5 p6 p7 p8 p9 m (i + 1)) = some z → alloc_may.l1 300 l n j (row l j) ((row l j).length : Int) p0 p1 p2 p3 p4 p5 p6 p7 p8 p9 (m + 1) i = some z := by
      intro z hz
      show alloc_may.r1 300 l n j (row l j) ((row l j).length : Int) p0 p1 p2 p3 p4 p5 p6 p7 p8 p9 (alloc_may.l1 300 l n j (row l j) ((row l j).length : Int) p0 p1 p2 p3 p4 p5 p6 p7 p8 p9 m) i = _
      refine bif_eq_t (decide_eq_true (by omega)) (gd_eq ⟨h0, by omega⟩ ?_)
      rw [kw_i64 (x := i + 1) (by omega) (by omega)]; exact hz
    have sr : ∀ z, (bif (bif decide (at' (row l j) i < 0) then true else decide (at' (row l j) i > 15)) then some (.inr 1) else psalteryref12_May.l1 300 l j p0 p1 p2 p3 p4 p5 p6 p7 p8 p9 m' (i + 1)) = some z → psalteryref12_May.l1 300 l j p0 p1 p2 p3 p4 p5 p6 p7 p8 p9 (m' + 1) i = some z := by
      intro z hz
      show psalteryref12_May.r1 300 l j p0 p1 p2 p3 p4 p5 p6 p7 p8 p9 (psalteryref12_May.l1 300 l j p0 p1 p2 p3 p4 p5 p6 p7 p8 p9 m') i = _
      refine bif_eq_t (decide_eq_true (by omega)) (gd_eq ⟨hj.1, hj.2, h0, by show i < ((row l j).length : Int); omega, fun _ => hj.1, fun _ => hj.2, fun _ => h0, fun _ => by show i < ((row l j).length : Int); omega⟩ ?_)
      rw [kw_i64 (x := i + 1) (by omega) (by omega)]; exact hz
    rcases Bool.eq_false_or_eq_true (bif decide (at' (row l j) i < 0) then true else decide (at' (row l j) i > 15)) with e | e
    · exact ⟨.inr 1, st _ (bif_eq_t e rfl), sr _ (bif_eq_t e rfl), .inl rfl⟩
    · obtain ⟨z, z1, z2, z3⟩ := ih m m' (i + 1) (by omega) (by omega) (by omega) (by omega)
      refine ⟨z, st _ (bif_eq_f e z1), sr _ (bif_eq_f e z2), ?_⟩
      rcases z3 with z3 | ⟨z3, z4⟩
      · exact .inl z3
      · refine .inr ⟨z3, fun q q1 q2 => ?_⟩
        by_cases hq : q = i
        · subst hq
          have e1 : ¬ at' (row l j) q < 0 := fun hc => by rw [decide_eq_true hc] at e; cases e
          have e2 : ¬ at' (row l j) q > 15 := fun hc => by rw [decide_eq_false e1, decide_eq_true hc] at e; cases e
          omega
        · exact z4 q (by omega) q2
theorem may_out (l : List (List Int)) (p0 p1 p2 p3 p4 p5 p6 p7 p8 p9 : Int) (hl : l.length ≤ 10) (hB : 0 ≤ p3 ∧ p3 ≤ 100) (k : Nat) : ∀ (m m' : Nat) (j : Int), k < m → k < m' → 0 ≤ j → j + k = (l.length : Int) →
    ∃ z, alloc_may.l0 300 l (l.length : Int) p0 p1 p2 p3 p4 p5 p6 p7 p8 p9 m j = some z ∧ psalteryref12_May.l0 300 l p0 p1 p2 p3 p4 p5 p6 p7 p8 p9 m' j = some z ∧ (z = .inr 1 ∨ z = .inl () ∧ ∀ c, j ≤ c → c < (l.length : Int) → ((row l c).length : Int) = p3 ∧ ∀ q, 0 ≤ q → q < p3 → 0 ≤ at' (row l c) q ∧ at' (row l c) q ≤ 15) := by
  induction k with
  | zero =>
    intro m m' j h h' h0 h1
    obtain ⟨m, rfl⟩ : ∃ q, m = q + 1 := ⟨m - 1, by omega⟩
    obtain ⟨m', rfl⟩ : ∃ q, m' = q + 1 := ⟨m' - 1, by omega⟩
    refine ⟨.inl (), ?_, ?_, .inr ⟨rfl, fun q q1 q2 => by omega⟩⟩
    · show alloc_may.r0 300 l (l.length : Int) p0 p1 p2 p3 p4 p5 p6 p7 p8 p9 (alloc_may.l0 300 l (l.length : Int) p0 p1 p2 p3 p4 p5 p6 p7 p8 p9 m) j = _
      exact bif_eq_f (decide_eq_false (by omega)) rfl
    · show psalteryref12_May.r0 300 l p0 p1 p2 p3 p4 p5 p6 p7 p8 p9 (psalteryref12_May.l0 300 l p0 p1 p2 p3 p4 p5 p6 p7 p8 p9 m') j = _
      exact bif_eq_f (decide_eq_false (by omega)) rfl
  | succ k ih =>
    intro m m' j h h' h0 h1
    obtain ⟨m, rfl⟩ : ∃ q, m = q + 1 := ⟨m - 1, by omega⟩
    obtain ⟨m', rfl⟩ : ∃ q, m' = q + 1 := ⟨m' - 1, by omega⟩
    rcases Bool.eq_false_or_eq_true (((row l j).length : Int) != p3) with e | e
    · refine ⟨.inr 1, ?_, ?_, .inl rfl⟩
      · show alloc_may.r0 300 l (l.length : Int) p0 p1 p2 p3 p4 p5 p6 p7 p8 p9 (alloc_may.l0 300 l (l.length : Int) p0 p1 p2 p3 p4 p5 p6 p7 p8 p9 m) j = _
        exact bif_eq_t (decide_eq_true (by omega)) (gd_eq ⟨h0, by omega⟩ (bif_eq_t e rfl))
      · show psalteryref12_May.r0 300 l p0 p1 p2 p3 p4 p5 p6 p7 p8 p9 (psalteryref12_May.l0 300 l p0 p1 p2 p3 p4 p5 p6 p7 p8 p9 m') j = _
        exact bif_eq_t (decide_eq_true (by omega)) (gd_eq ⟨h0, by omega⟩ (bif_eq_t e rfl))
    · have hv : ((row l j).length : Int) = p3 := by simpa using e
      obtain ⟨y, y1, y2, y3⟩ := may_in l (l.length : Int) j p0 p1 p2 p3 p4 p5 p6 p7 p8 p9 ⟨h0, by omega⟩ hv hB.2 p3.toNat 300 300 0 (by omega) (by omega) (by omega) (by omega)
      rcases y3 with rfl | ⟨rfl, y4⟩
      · refine ⟨.inr 1, ?_, ?_, .inl rfl⟩
        · show alloc_may.r0 300 l (l.length : Int) p0 p1 p2 p3 p4 p5 p6 p7 p8 p9 (alloc_may.l0 300 l (l.length : Int) p0 p1 p2 p3 p4 p5 p6 p7 p8 p9 m) j = _
          exact bif_eq_t (decide_eq_true (by omega)) (gd_eq ⟨h0, by omega⟩ (bif_eq_f e (bnd_eq y1 rfl)))
        · show psalteryref12_May.r0 300 l p0 p1 p2 p3 p4 p5 p6 p7 p8 p9 (psalteryref12_May.l0 300 l p0 p1 p2 p3 p4 p5 p6 p7 p8 p9 m') j = _
          exact bif_eq_t (decide_eq_true (by omega)) (gd_eq ⟨h0, by omega⟩ (bif_eq_f e (bnd_eq y2 rfl)))
      · obtain ⟨z, z1, z2, z3⟩ := ih m m' (j + 1) (by omega) (by omega) (by omega) (by omega)
        refine ⟨z, ?_, ?_, ?_⟩
        · show alloc_may.r0 300 l (l.length : Int) p0 p1 p2 p3 p4 p5 p6 p7 p8 p9 (alloc_may.l0 300 l (l.length : Int) p0 p1 p2 p3 p4 p5 p6 p7 p8 p9 m) j = _
          refine bif_eq_t (decide_eq_true (by omega)) (gd_eq ⟨h0, by omega⟩ (bif_eq_f e (bnd_eq y1 ?_)))
          dsimp only
          rw [kw_i64 (x := j + 1) (by omega) (by omega)]; exact z1
        · show psalteryref12_May.r0 300 l p0 p1 p2 p3 p4 p5 p6 p7 p8 p9 (psalteryref12_May.l0 300 l p0 p1 p2 p3 p4 p5 p6 p7 p8 p9 m') j = _
          refine bif_eq_t (decide_eq_true (by omega)) (gd_eq ⟨h0, by omega⟩ (bif_eq_f e (bnd_eq y2 ?_)))
          dsimp only
          rw [kw_i64 (x := j + 1) (by omega) (by omega)]; exact z2
        · rcases z3 with z3 | ⟨z3, z4⟩
          · exact .inl z3
          · refine .inr ⟨z3, fun c c1 c2 => ?_⟩
            by_cases hc : c = j
            · subst hc; exact ⟨hv, y4⟩
            · exact z4 c (by omega) c2
/-- scales that may be -/
def Fit (p0 p1 p2 p3 p4 p5 p6 p7 p8 p9 : Int) (l : List (List Int)) : Prop := (subP p0 p1 p2 p3 p4 p5 p6 p7 p8 p9 ∧ bitsZ p2 p3 p4 p6 p7 ≤ 4096) ∧ (l.length : Int) = p2 ∧ ∀ c, 0 ≤ c → c < p2 → ((row l c).length : Int) = p3 ∧ ∀ q, 0 ≤ q → q < p3 → 0 ≤ at' (row l c) q ∧ at' (row l c) q ≤ 15
theorem may_w (p0 p1 p2 p3 p4 p5 p6 p7 p8 p9 : Int) (l : List (List Int)) (hl : l.length ≤ 10) : ∃ e, alloc_may 300 p0 p1 p2 p3 p4 p5 p6 p7 p8 p9 l = some e ∧ psalteryref12_May 300 p0 p1 p2 p3 p4 p5 p6 p7 p8 p9 l = some e ∧ (e = 110 ∨ e = 1 ∨ e = 0 ∧ Fit p0 p1 p2 p3 p4 p5 p6 p7 p8 p9 l) := by
  by_cases hs : subP p0 p1 p2 p3 p4 p5 p6 p7 p8 p9 ∧ bitsZ p2 p3 p4 p6 p7 ≤ 4096
  · have ho : okP p0 p1 p2 p3 p4 p5 p6 p7 p8 p9 := .inl hs
    have hp0 : p0 = 1 := hs.1.1
    have a1 : format_Check 300 p0 p1 p2 p3 p4 p5 p6 p7 p8 p9 = some 0 := (Check_w p0 p1 p2 p3 p4 p5 p6 p7 p8 p9).trans (by rw [if_pos ho])
    have a2 : (bif ((0 : Int) != 0) then true else (p0 != 1)) = false := by rw [hp0]; rfl
    have b1 : psalteryref11_Sub 300 p0 p1 p2 p3 p4 p5 p6 p7 p8 p9 = some true := (refsub_w p0 p1 p2 p3 p4 p5 p6 p7 p8 p9).trans (by rw [decide_eq_true hs])
    rcases Bool.eq_false_or_eq_true ((l.length : Int) != p2) with e | e
    · exact ⟨1, bnd_eq a1 (bif_eq_f a2 (bif_eq_t e rfl)), bnd_eq b1 (bif_eq_f rfl (bif_eq_t e rfl)), .inr (.inl rfl)⟩
    · have hv : (l.length : Int) = p2 := by simpa using e
      have hB : 0 ≤ p3 ∧ p3 ≤ 100 := by obtain ⟨_, _, _, _, h, _⟩ := hs.1; omega
      obtain ⟨z, z1, z2, z3⟩ := may_out l p0 p1 p2 p3 p4 p5 p6 p7 p8 p9 hl hB l.length 300 300 0 (by omega) (by omega) (by omega) (by omega)
      rcases z3 with rfl | ⟨rfl, z4⟩
      · exact ⟨1, bnd_eq a1 (bif_eq_f a2 (bif_eq_f e (bnd_eq z1 rfl))), bnd_eq b1 (bif_eq_f rfl (bif_eq_f e (bnd_eq z2 rfl))), .inr (.inl rfl)⟩
      · exact ⟨0, bnd_eq a1 (bif_eq_f a2 (bif_eq_f e (bnd_eq z1 rfl))), bnd_eq b1 (bif_eq_f rfl (bif_eq_f e (bnd_eq z2 rfl))), .inr (.inr ⟨rfl, hs, hv, fun c c1 c2 => z4 c c1 (by omega)⟩)⟩
  · have b1 : psalteryref11_Sub 300 p0 p1 p2 p3 p4 p5 p6 p7 p8 p9 = some false := (refsub_w p0 p1 p2 p3 p4 p5 p6 p7 p8 p9).trans (by rw [decide_eq_false hs])
    refine ⟨110, ?_, bnd_eq b1 (bif_eq_t rfl rfl), .inl rfl⟩
    by_cases ho : okP p0 p1 p2 p3 p4 p5 p6 p7 p8 p9
    · have a1 : format_Check 300 p0 p1 p2 p3 p4 p5 p6 p7 p8 p9 = some 0 := (Check_w p0 p1 p2 p3 p4 p5 p6 p7 p8 p9).trans (by rw [if_pos ho])
      rcases ho with ho | ho
      · exact absurd ho hs
      · have a2 : (bif ((0 : Int) != 0) then true else (p0 != 1)) = true := by rw [ho.1]; rfl
        exact bnd_eq a1 (bif_eq_t a2 rfl)
    · have a1 : format_Check 300 p0 p1 p2 p3 p4 p5 p6 p7 p8 p9 = some 110 := (Check_w p0 p1 p2 p3 p4 p5 p6 p7 p8 p9).trans (by rw [if_neg ho])
      exact bnd_eq a1 (bif_eq_t rfl rfl)
end
section
set_option maxRecDepth 6000
def tbl (n : Nat) (f : Int → Int) : List Int := (List.range n).map fun i : Nat => f i
theorem tab_s (n : Nat) (f : Int → Int) : tbl n f ++ [f n] = tbl (n + 1) f := by unfold tbl; rw [List.range_succ, List.map_append]; rfl
theorem tab_len (n : Nat) (f : Int → Int) : (tbl n f).length = n := by simp [tbl]
theorem tab_at (n : Nat) (f : Int → Int) (i : Int) (h0 : 0 ≤ i) (h : i < n) : at' (tbl n f) i = f i := by
  unfold at' Kd.nth tbl
  rw [List.getD_eq_getElem?_getD, List.getElem?_eq_getElem (by simp; omega)]
  show (List.map (fun i : Nat => f i) (List.range n))[i.toNat]'_ = f i
  rw [List.getElem_map, List.getElem_range, Int.toNat_of_nonneg h0]
def nd (p0 p1 p2 p3 p4 p5 p6 p7 p8 p9 : Int) (l : List (List Int)) (c b : Int) : Int := needI p1 p3 p5 (at' (row l c) b) b
theorem fit {p0 p1 p2 p3 p4 p5 p6 p7 p8 p9 : Int} {l : List (List Int)} (h : Fit p0 p1 p2 p3 p4 p5 p6 p7 p8 p9 l) : (0 ≤ p1 ∧ p1 ≤ 3) ∧ (p2 = 1 ∨ p2 = 2) ∧ (p3 = 4 ∨ p3 = 8) ∧ (p5 = 0 ∨ p5 = 1) := by
  obtain ⟨⟨⟨_, a1, a2, a3, a4, _, a5, _⟩, _⟩, _⟩ := h
  exact ⟨⟨a1, a2⟩, a3, a4, a5⟩
theorem nd_w {p0 p1 p2 p3 p4 p5 p6 p7 p8 p9 : Int} {l : List (List Int)} (h : Fit p0 p1 p2 p3 p4 p5 p6 p7 p8 p9 l) (c b : Int) (hc : 0 ≤ c ∧ c < p2) (hb : 0 ≤ b ∧ b < p3) : alloc_need 300 p0 p1 p2 p3 p4 p5 p6 p7 p8 p9 (at' (row l c) b) b = some (nd p0 p1 p2 p3 p4 p5 p6 p7 p8 p9 l c b) := by
  obtain ⟨h1, h2, h3, h4⟩ := fit h
  exact need_w p0 p1 p2 p3 p4 p5 p6 p7 p8 p9 _ b h1 h3 hb ((h.2.2 c hc.1 hc.2).2 b hb.1 hb.2)
theorem nd_r {p0 p1 p2 p3 p4 p5 p6 p7 p8 p9 : Int} {l : List (List Int)} (h : Fit p0 p1 p2 p3 p4 p5 p6 p7 p8 p9 l) (c b : Int) (hc : 0 ≤ c ∧ c < p2) (hb : 0 ≤ b ∧ b < p3) : -5 ≤ nd p0 p1 p2 p3 p4 p5 p6 p7 p8 p9 l c b ∧ nd p0 p1 p2 p3 p4 p5 p6 p7 p8 p9 l c b ≤ 15 := by
  obtain ⟨h1, h2, h3, h4⟩ := fit h
  exact need_rng _ _ _ _ b h1 h3 hb ((h.2.2 c hc.1 hc.2).2 b hb.1 hb.2)
theorem nin1 {p0 p1 p2 p3 p4 p5 p6 p7 p8 p9 : Int} {l : List (List Int)} (hf : Fit p0 p1 p2 p3 p4 p5 p6 p7 p8 p9 l) (k : Nat) : ∀ (m b : Nat), k < m → (b : Int) + k = p3 → alloc_Needs.l1 300 l (row l 0) ((row l 0).length : Int) p0 p1 p2 p3 p4 p5 p6 p7 p8 p9 m 0 b (tbl b (nd p0 p1 p2 p3 p4 p5 p6 p7 p8 p9 l 0)) = some (0, tbl p3.toNat (nd p0 p1 p2 p3 p4 p5 p6 p7 p8 p9 l 0)) := by
  obtain ⟨h1, h2, h3, h4⟩ := fit hf
  have hv := (hf.2.2 0 (by omega) (by omega)).1
  induction k with
  | zero =>
    intro m b h hb
    obtain ⟨m, rfl⟩ : ∃ q, m = q + 1 := ⟨m - 1, by omega⟩
    show alloc_Needs.r1 300 l (row l 0) ((row l 0).length : Int) p0 p1 p2 p3 p4 p5 p6 p7 p8 p9 (alloc_Needs.l1 300 l (row l 0) ((row l 0).length : Int) p0 p1 p2 p3 p4 p5 p6 p7 p8 p9 m) 0 b (tbl b (nd p0 p1 p2 p3 p4 p5 p6 p7 p8 p9 l 0)) = _
    refine bif_eq_f (decide_eq_false (by omega)) ?_
    rw [show p3.toNat = b by omega]
  | succ k ih =>
    intro m b h hb
    obtain ⟨m, rfl⟩ : ∃ q, m = q + 1 := ⟨m - 1, by omega⟩
    show alloc_Needs.r1 300 l (row l 0) ((row l 0).length : Int) p0 p1 p2 p3 p4 p5 p6 p7 p8 p9 (alloc_Needs.l1 300 l (row l 0) ((row l 0).length : Int) p0 p1 p2 p3 p4 p5 p6 p7 p8 p9 m) 0 b (tbl b (nd p0 p1 p2 p3 p4 p5 p6 p7 p8 p9 l 0)) = _
    refine bif_eq_t (decide_eq_true (by omega)) (gd_eq ⟨by omega, by omega⟩ (bif_eq_t rfl (bnd_eq (nd_w hf 0 b (by omega) (by omega)) (gd_eq ?_ ?_))))
    · rw [tab_len]; show ((b : Int) + 1) * 8 ≤ _; omega
    · dsimp only
      rw [kw_i64 (x := (b : Int) + 1) (by omega) (by omega), tab_s]
      exact ih m (b + 1) (by omega) (by omega)
theorem nin2 {p0 p1 p2 p3 p4 p5 p6 p7 p8 p9 : Int} {l : List (List Int)} (hf : Fit p0 p1 p2 p3 p4 p5 p6 p7 p8 p9 l) (h2 : p2 = 2) (ys : List Int) (k : Nat) : ∀ (m b : Nat), k < m → (b : Int) + k = p3 → alloc_Needs.l3 300 l (row l 0) ((row l 0).length : Int) p0 p1 p2 p3 p4 p5 p6 p7 p8 p9 m 0 b (tbl b (nd p0 p1 p2 p3 p4 p5 p6 p7 p8 p9 l 0)) ys = some (0, tbl p3.toNat (nd p0 p1 p2 p3 p4 p5 p6 p7 p8 p9 l 0), ys) := by
  obtain ⟨h1, _, h3, h4⟩ := fit hf
  have hv := (hf.2.2 0 (by omega) (by omega)).1
  induction k with
  | zero =>
    intro m b h hb
    obtain ⟨m, rfl⟩ : ∃ q, m = q + 1 := ⟨m - 1, by omega⟩
    show alloc_Needs.r3 300 l (row l 0) ((row l 0).length : Int) p0 p1 p2 p3 p4 p5 p6 p7 p8 p9 (alloc_Needs.l3 300 l (row l 0) ((row l 0).length : Int) p0 p1 p2 p3 p4 p5 p6 p7 p8 p9 m) 0 b (tbl b (nd p0 p1 p2 p3 p4 p5 p6 p7 p8 p9 l 0)) ys = _
    refine bif_eq_f (decide_eq_false (by omega)) ?_
    rw [show p3.toNat = b by omega]
  | succ k ih =>
    intro m b h hb
    obtain ⟨m, rfl⟩ : ∃ q, m = q + 1 := ⟨m - 1, by omega⟩
    show alloc_Needs.r3 300 l (row l 0) ((row l 0).length : Int) p0 p1 p2 p3 p4 p5 p6 p7 p8 p9 (alloc_Needs.l3 300 l (row l 0) ((row l 0).length : Int) p0 p1 p2 p3 p4 p5 p6 p7 p8 p9 m) 0 b (tbl b (nd p0 p1 p2 p3 p4 p5 p6 p7 p8 p9 l 0)) ys = _
    refine bif_eq_t (decide_eq_true (by omega)) (bnd_eq (gd_eq ⟨by omega, by omega⟩ (bif_eq_t rfl (bnd_eq (nd_w hf 0 b (by omega) (by omega)) (gd_eq ?_ rfl)))) ?_)
    · rw [tab_len]; show ((b : Int) + 1) * 8 ≤ _; omega
    · dsimp only
      rw [kw_i64 (x := (b : Int) + 1) (by omega) (by omega), tab_s]
      exact ih m (b + 1) (by omega) (by omega)
theorem nin3 {p0 p1 p2 p3 p4 p5 p6 p7 p8 p9 : Int} {l : List (List Int)} (hf : Fit p0 p1 p2 p3 p4 p5 p6 p7 p8 p9 l) (h2 : p2 = 2) (xs : List Int) (k : Nat) : ∀ (m b : Nat), k < m → (b : Int) + k = p3 → alloc_Needs.l3 300 l (row l 1) ((row l 1).length : Int) p0 p1 p2 p3 p4 p5 p6 p7 p8 p9 m 1 b xs (tbl b (nd p0 p1 p2 p3 p4 p5 p6 p7 p8 p9 l 1)) = some (1, xs, tbl p3.toNat (nd p0 p1 p2 p3 p4 p5 p6 p7 p8 p9 l 1)) := by
  obtain ⟨h1, _, h3, h4⟩ := fit hf
  have hv := (hf.2.2 1 (by omega) (by omega)).1
  induction k with
  | zero =>
    intro m b h hb
    obtain ⟨m, rfl⟩ : ∃ q, m = q + 1 := ⟨m - 1, by omega⟩
    show alloc_Needs.r3 300 l (row l 1) ((row l 1).length : Int) p0 p1 p2 p3 p4 p5 p6 p7 p8 p9 (alloc_Needs.l3 300 l (row l 1) ((row l 1).length : Int) p0 p1 p2 p3 p4 p5 p6 p7 p8 p9 m) 1 b xs (tbl b (nd p0 p1 p2 p3 p4 p5 p6 p7 p8 p9 l 1)) = _
    refine bif_eq_f (decide_eq_false (by omega)) ?_
    rw [show p3.toNat = b by omega]
  | succ k ih =>
    intro m b h hb
    obtain ⟨m, rfl⟩ : ∃ q, m = q + 1 := ⟨m - 1, by omega⟩
    show alloc_Needs.r3 300 l (row l 1) ((row l 1).length : Int) p0 p1 p2 p3 p4 p5 p6 p7 p8 p9 (alloc_Needs.l3 300 l (row l 1) ((row l 1).length : Int) p0 p1 p2 p3 p4 p5 p6 p7 p8 p9 m) 1 b xs (tbl b (nd p0 p1 p2 p3 p4 p5 p6 p7 p8 p9 l 1)) = _
    refine bif_eq_t (decide_eq_true (by omega)) (bnd_eq (gd_eq ⟨by omega, by omega⟩ (bif_eq_f rfl (bif_eq_t rfl (bnd_eq (nd_w hf 1 b (by omega) (by omega)) (gd_eq ?_ rfl))))) ?_)
    · rw [tab_len]; show ((b : Int) + 1) * 8 ≤ _; omega
    · dsimp only
      rw [kw_i64 (x := (b : Int) + 1) (by omega) (by omega), tab_s]
      exact ih m (b + 1) (by omega) (by omega)
def rows (p0 p1 p2 p3 p4 p5 p6 p7 p8 p9 : Int) (l : List (List Int)) : List (List Int) := bif p2 == 1 then [tbl p3.toNat (nd p0 p1 p2 p3 p4 p5 p6 p7 p8 p9 l 0)] else [tbl p3.toNat (nd p0 p1 p2 p3 p4 p5 p6 p7 p8 p9 l 0), tbl p3.toNat (nd p0 p1 p2 p3 p4 p5 p6 p7 p8 p9 l 1)]
theorem needs_w {p0 p1 p2 p3 p4 p5 p6 p7 p8 p9 : Int} {l : List (List Int)} (hf : Fit p0 p1 p2 p3 p4 p5 p6 p7 p8 p9 l) (hm : alloc_may 300 p0 p1 p2 p3 p4 p5 p6 p7 p8 p9 l = some 0) : alloc_Needs 300 p0 p1 p2 p3 p4 p5 p6 p7 p8 p9 l = some (.inr (rows p0 p1 p2 p3 p4 p5 p6 p7 p8 p9 l)) := by
  obtain ⟨h1, h2, h3, h4⟩ := fit hf
  have hl := hf.2.1
  unfold rows
  refine bnd_eq hm (bif_eq_f rfl ?_)
  rcases h2 with h2 | h2
  · refine bif_eq_t (by rw [h2]; rfl) ?_
    rw [show (p2 == 1) = true by rw [h2]; rfl]
    refine bnd_eq (x := tbl p3.toNat (nd p0 p1 p2 p3 p4 p5 p6 p7 p8 p9 l 0)) ?_ rfl
    have s1 : ∀ (j : Int) xs, j = 1 → alloc_Needs.l0 300 l p0 p1 p2 p3 p4 p5 p6 p7 p8 p9 299 j xs = some xs := by
      intro j xs hj
      show alloc_Needs.r0 300 l p0 p1 p2 p3 p4 p5 p6 p7 p8 p9 (alloc_Needs.l0 300 l p0 p1 p2 p3 p4 p5 p6 p7 p8 p9 298) j xs = _
      exact bif_eq_f (decide_eq_false (by omega)) rfl
    have s0 : ∀ (j : Int), j = 0 → alloc_Needs.l0 300 l p0 p1 p2 p3 p4 p5 p6 p7 p8 p9 300 j [] = some (tbl p3.toNat (nd p0 p1 p2 p3 p4 p5 p6 p7 p8 p9 l 0)) := by
      intro j hj
      show alloc_Needs.r0 300 l p0 p1 p2 p3 p4 p5 p6 p7 p8 p9 (alloc_Needs.l0 300 l p0 p1 p2 p3 p4 p5 p6 p7 p8 p9 299) j [] = _
      refine bif_eq_t (decide_eq_true (by omega)) (gd_eq ⟨by omega, by omega⟩ ?_)
      subst hj
      exact bnd_eq (nin1 hf p3.toNat 300 0 (by omega) (by omega)) (s1 _ _ rfl)
    exact s0 0 rfl
  · refine bif_eq_f (by rw [h2]; rfl) (bif_eq_t (by rw [h2]; rfl) ?_)
    rw [show (p2 == 1) = false by rw [h2]; rfl]
    refine bnd_eq (x := (tbl p3.toNat (nd p0 p1 p2 p3 p4 p5 p6 p7 p8 p9 l 0), tbl p3.toNat (nd p0 p1 p2 p3 p4 p5 p6 p7 p8 p9 l 1))) ?_ rfl
    have s2 : ∀ (j : Int) xs ys, j = 2 → alloc_Needs.l2 300 l p0 p1 p2 p3 p4 p5 p6 p7 p8 p9 298 j xs ys = some (xs, ys) := by
      intro j xs ys hj
      show alloc_Needs.r2 300 l p0 p1 p2 p3 p4 p5 p6 p7 p8 p9 (alloc_Needs.l2 300 l p0 p1 p2 p3 p4 p5 p6 p7 p8 p9 297) j xs ys = _
      exact bif_eq_f (decide_eq_false (by omega)) rfl
    have s1 : ∀ (j : Int) xs, j = 1 → alloc_Needs.l2 300 l p0 p1 p2 p3 p4 p5 p6 p7 p8 p9 299 j xs [] = some (xs, tbl p3.toNat (nd p0 p1 p2 p3 p4 p5 p6 p7 p8 p9 l 1)) := by
      intro j xs hj
      show alloc_Needs.r2 300 l p0 p1 p2 p3 p4 p5 p6 p7 p8 p9 (alloc_Needs.l2 300 l p0 p1 p2 p3 p4 p5 p6 p7 p8 p9 298) j xs [] = _
      refine bif_eq_t (decide_eq_true (by omega)) (gd_eq ⟨by omega, by omega⟩ ?_)
      subst hj
      exact bnd_eq (nin3 hf h2 xs p3.toNat 300 0 (by omega) (by omega)) (s2 _ _ _ rfl)
    have s0 : ∀ (j : Int), j = 0 → alloc_Needs.l2 300 l p0 p1 p2 p3 p4 p5 p6 p7 p8 p9 300 j [] [] = some (tbl p3.toNat (nd p0 p1 p2 p3 p4 p5 p6 p7 p8 p9 l 0), tbl p3.toNat (nd p0 p1 p2 p3 p4 p5 p6 p7 p8 p9 l 1)) := by
      intro j hj
      show alloc_Needs.r2 300 l p0 p1 p2 p3 p4 p5 p6 p7 p8 p9 (alloc_Needs.l2 300 l p0 p1 p2 p3 p4 p5 p6 p7 p8 p9 299) j [] [] = _
      refine bif_eq_t (decide_eq_true (by omega)) (gd_eq ⟨by omega, by omega⟩ ?_)
      subst hj
      exact bnd_eq (nin2 hf h2 [] p3.toNat 300 0 (by omega) (by omega)) (s1 _ _ rfl)
    exact s0 0 rfl
/-- the reference's list -/
def gI (p0 p1 p2 p3 p4 p5 p6 p7 p8 p9 : Int) (l : List (List Int)) (i : Int) : Int := nd p0 p1 p2 p3 p4 p5 p6 p7 p8 p9 l (i % p2) (i / p2)
theorem g_at {p0 p1 p2 p3 p4 p5 p6 p7 p8 p9 : Int} {l : List (List Int)} (hC : p2 = 1 ∨ p2 = 2) (b c : Nat) (hc : (c : Int) < p2) : gI p0 p1 p2 p3 p4 p5 p6 p7 p8 p9 l ((b * p2.toNat + c : Nat) : Int) = nd p0 p1 p2 p3 p4 p5 p6 p7 p8 p9 l c b := by
  unfold gI
  rcases hC with e | e
  · have t : p2.toNat = 1 := by omega
    rw [t, e, show ((b * 1 + c : Nat) : Int) % 1 = (c : Int) by omega, show ((b * 1 + c : Nat) : Int) / 1 = (b : Int) by omega]
  · have t : p2.toNat = 2 := by omega
    rw [t, e, show ((b * 2 + c : Nat) : Int) % 2 = (c : Int) by omega, show ((b * 2 + c : Nat) : Int) / 2 = (b : Int) by omega]
theorem rin {p0 p1 p2 p3 p4 p5 p6 p7 p8 p9 : Int} {l : List (List Int)} (hf : Fit p0 p1 p2 p3 p4 p5 p6 p7 p8 p9 l) (b : Nat) (hb : (b : Int) < p3) (k : Nat) : ∀ (m c : Nat), k < m → (c : Int) + k = p2 → psalteryref12_Needs.l1 300 l b p0 p1 p2 p3 p4 p5 p6 p7 p8 p9 m c (tbl (b * p2.toNat + c) (gI p0 p1 p2 p3 p4 p5 p6 p7 p8 p9 l)) = some (tbl (b * p2.toNat + p2.toNat) (gI p0 p1 p2 p3 p4 p5 p6 p7 p8 p9 l)) := by
  obtain ⟨h1, h2, h3, h4⟩ := fit hf
  have hl := hf.2.1
  induction k with
  | zero =>
    intro m c h hc
    obtain ⟨m, rfl⟩ : ∃ q, m = q + 1 := ⟨m - 1, by omega⟩
    show psalteryref12_Needs.r1 300 l b p0 p1 p2 p3 p4 p5 p6 p7 p8 p9 (psalteryref12_Needs.l1 300 l b p0 p1 p2 p3 p4 p5 p6 p7 p8 p9 m) c _ = _
    refine bif_eq_f (decide_eq_false (by omega)) ?_
    rw [show p2.toNat = c by omega]
  | succ k ih =>
    intro m c h hc
    obtain ⟨m, rfl⟩ : ∃ q, m = q + 1 := ⟨m - 1, by omega⟩
    have hv := hf.2.2 c (by omega) (by omega)
    have hs := hv.2 b (by omega) hb
    show psalteryref12_Needs.r1 300 l b p0 p1 p2 p3 p4 p5 p6 p7 p8 p9 (psalteryref12_Needs.l1 300 l b p0 p1 p2 p3 p4 p5 p6 p7 p8 p9 m) c _ = _
    refine bif_eq_t (decide_eq_true (by omega)) (gd_eq ⟨by omega, by omega, by omega, by have := hv.1; show (b : Int) < ((row l c).length : Int); omega⟩ (bnd_eq (x := nd p0 p1 p2 p3 p4 p5 p6 p7 p8 p9 l c b) ?_ (gd_eq ?_ ?_)))
    · obtain ⟨o1, o2, o3⟩ := off_w p0 p1 p2 p3 p4 p5 p6 p7 p8 p9 b h1 h3 ⟨by omega, hb⟩
      unfold nd needI
      show (bif (p5 == 0) then _ else some (at' (row l c) b)) = _
      rcases h4 with h4 | h4
      · refine bif_eq_t (by rw [h4]; rfl) (bnd_eq (off_ref p0 p1 p2 p3 p4 p5 p6 p7 p8 p9 b) ?_)
        dsimp only
        rw [show (p5 == 1) = false by rw [h4]; rfl, kw_i64 (x := at' (row l c) b - offI p1 p3 b) (by omega) (by omega)]
        rcases Bool.eq_false_or_eq_true (decide (at' (row l c) b - offI p1 p3 b > 0)) with e3 | e3
        · have h0 : at' (row l c) b - offI p1 p3 b > 0 := of_decide_eq_true e3
          rw [e3]
          refine bnd_eq (bif_eq_t rfl rfl) ?_
          rw [kw_i64 (by rw [Int.tdiv_eq_ediv_of_nonneg (by omega)]; omega) (by rw [Int.tdiv_eq_ediv_of_nonneg (by omega)]; omega)]
          cases (at' (row l c) b == 0) <;> rfl
        · rw [e3]
          refine bnd_eq (bif_eq_f rfl rfl) ?_
          cases (at' (row l c) b == 0) <;> rfl
      · refine bif_eq_f (by rw [h4]; rfl) ?_
        rw [show (p5 == 1) = true by rw [h4]; rfl]; rfl
    · rw [tab_len]
      have : b * p2.toNat ≤ 8 * 2 := Nat.mul_le_mul (by omega) (by omega)
      show (((b * p2.toNat + c : Nat) : Int) + 1) * 8 ≤ _
      omega
    · rw [kw_i64 (x := (c : Int) + 1) (by omega) (by omega), ← g_at h2 b c (by omega), tab_s]
      exact ih m (c + 1) (by omega) (by omega)
theorem rout {p0 p1 p2 p3 p4 p5 p6 p7 p8 p9 : Int} {l : List (List Int)} (hf : Fit p0 p1 p2 p3 p4 p5 p6 p7 p8 p9 l) (k : Nat) : ∀ (m b : Nat), k < m → (b : Int) + k = p3 → psalteryref12_Needs.l0 300 l p0 p1 p2 p3 p4 p5 p6 p7 p8 p9 m b (tbl (b * p2.toNat) (gI p0 p1 p2 p3 p4 p5 p6 p7 p8 p9 l)) = some (tbl (p3.toNat * p2.toNat) (gI p0 p1 p2 p3 p4 p5 p6 p7 p8 p9 l)) := by
  obtain ⟨h1, h2, h3, h4⟩ := fit hf
  induction k with
  | zero =>
    intro m b h hb
    obtain ⟨m, rfl⟩ : ∃ q, m = q + 1 := ⟨m - 1, by omega⟩
    show psalteryref12_Needs.r0 300 l p0 p1 p2 p3 p4 p5 p6 p7 p8 p9 (psalteryref12_Needs.l0 300 l p0 p1 p2 p3 p4 p5 p6 p7 p8 p9 m) b _ = _
    refine bif_eq_f (decide_eq_false (by omega)) ?_
    rw [show p3.toNat = b by omega]
  | succ k ih =>
    intro m b h hb
    obtain ⟨m, rfl⟩ : ∃ q, m = q + 1 := ⟨m - 1, by omega⟩
    show psalteryref12_Needs.r0 300 l p0 p1 p2 p3 p4 p5 p6 p7 p8 p9 (psalteryref12_Needs.l0 300 l p0 p1 p2 p3 p4 p5 p6 p7 p8 p9 m) b _ = _
    refine bif_eq_t (decide_eq_true (by omega)) (bnd_eq (rin hf b (by omega) p2.toNat 300 0 (by omega) (by omega)) ?_)
    dsimp only
    rw [kw_i64 (x := (b : Int) + 1) (by omega) (by omega), show b * p2.toNat + p2.toNat = (b + 1) * p2.toNat by rw [Nat.succ_mul]]
    exact ih m (b + 1) (by omega) (by omega)
theorem refneeds_w {p0 p1 p2 p3 p4 p5 p6 p7 p8 p9 : Int} {l : List (List Int)} (hf : Fit p0 p1 p2 p3 p4 p5 p6 p7 p8 p9 l) : psalteryref12_Needs 300 p0 p1 p2 p3 p4 p5 p6 p7 p8 p9 l = some (tbl (p3.toNat * p2.toNat) (gI p0 p1 p2 p3 p4 p5 p6 p7 p8 p9 l)) := by
  obtain ⟨h1, h2, h3, h4⟩ := fit hf
  have := rout hf p3.toNat 300 0 (by omega) (by omega)
  rw [Nat.zero_mul] at this
  exact bnd_eq this rfl
end
section
set_option maxRecDepth 6000
def itr {α : Type} : Nat → (Int → α → α) → α → α
  | 0, _, a => a
  | n + 1, F, a => F n (itr n F a)
def wt (d : Int) : Int := bif d == 1 then 2 else bif (bif decide (d > 1) then decide (d < 16) else false) then 1 else 0
theorem wt_r (d : Int) : 0 ≤ wt d ∧ wt d ≤ 2 := by unfold wt; cases (d == 1) <;> cases decide (d > 1) <;> cases decide (d < 16) <;> decide
theorem itr_c (h : Int → Int) (s : Int) : ∀ n : Nat, 0 ≤ itr n (fun i a => a + wt (h i - s)) 0 ∧ itr n (fun i a => a + wt (h i - s)) 0 ≤ 2 * n
  | 0 => ⟨Int.le_refl _, Int.le_refl _⟩
  | n + 1 => by
    have := itr_c h s n
    have := wt_r (h n - s)
    show 0 ≤ itr n (fun i a => a + wt (h i - s)) 0 + wt (h n - s) ∧ _
    constructor
    · omega
    · show itr n (fun i a => a + wt (h i - s)) 0 + wt (h n - s) ≤ _
      push_cast; omega
theorem itr_m (h : Int → Int) (a0 : Int) (ha : -1000 ≤ a0 ∧ a0 ≤ 15) : ∀ n : Nat, (∀ i : Int, 0 ≤ i → i < n → -5 ≤ h i ∧ h i ≤ 15) → -1000 ≤ itr n (fun i a => imax a (h i)) a0 ∧ itr n (fun i a => imax a (h i)) a0 ≤ 15
  | 0, _ => ha
  | n + 1, hr => by
    have h1 := itr_m h a0 ha n (fun i i0 i1 => hr i i0 (by omega))
    have h2 := hr n (by omega) (by omega)
    show -1000 ≤ imax (itr n (fun i a => imax a (h i)) a0) (h n) ∧ imax (itr n (fun i a => imax a (h i)) a0) (h n) ≤ 15
    have g : ∀ x y : Int, -1000 ≤ x ∧ x ≤ 15 → -5 ≤ y ∧ y ≤ 15 → -1000 ≤ imax x y ∧ imax x y ≤ 15 := by intro x y hx hy; unfold imax; split <;> omega
    exact g _ _ h1 h2
theorem cost_w (need acc s : Int) (hn : -5 ≤ need ∧ need ≤ 15) (ha : 0 ≤ acc ∧ acc ≤ 1000) (hs : -1000 ≤ s ∧ s ≤ 1000) (f : Int → Option Int) (hf : f = fun x3 => some x3) : ((bif (kwrap .i64 (need - s) == 1) then some (kwrap .i64 (acc + 2)) else bif (bif decide (kwrap .i64 (need - s) > 1) then decide (kwrap .i64 (need - s) < 16) else false) then some (kwrap .i64 (acc + 1)) else some acc : Option Int).bind f) = some (acc + wt (need - s)) := by
  subst hf
  rw [kw_i64 (x := need - s) (by omega) (by omega), kw_i64 (x := acc + 2) (by omega) (by omega), kw_i64 (x := acc + 1) (by omega) (by omega)]
  unfold wt
  cases (need - s == 1) <;> cases decide (need - s > 1) <;> cases decide (need - s < 16) <;> simp
theorem alloc_sharing_each_2_l (h : Int → Int) (pool s sum : Int) (xs bits : List Int) (B : Nat) (hB : B ≤ 8) (hx : xs.length = B) (hbits : bits.length = B) (hat : ∀ b : Int, 0 ≤ b → b < B → at' xs b = h b) (hr : ∀ i : Int, 0 ≤ i → i < B → -5 ≤ h i ∧ h i ≤ 15) (hs : -1000 ≤ s ∧ s ≤ 1000) (k : Nat) : ∀ (m b : Nat), k < m → b + k = B → alloc_sharing_each_2.l0 300 B pool s sum [xs] bits m b (itr b (fun i a => a + wt (h i - s)) 0) = some (itr B (fun i a => a + wt (h i - s)) 0) := by
  induction k with
  | zero =>
    intro m b hm hb
    obtain ⟨m, rfl⟩ : ∃ q, m = q + 1 := ⟨m - 1, by omega⟩
    show alloc_sharing_each_2.r0 300 B pool s sum [xs] bits (alloc_sharing_each_2.l0 300 B pool s sum [xs] bits m) b _ = _
    refine bif_eq_f (decide_eq_false (by omega)) ?_
    rw [show b = B by omega]
  | succ k ih =>
    intro m b hm hb
    obtain ⟨m, rfl⟩ : ∃ q, m = q + 1 := ⟨m - 1, by omega⟩
    have t1 : ∀ (c : Int) (a : Int), c = 1 → alloc_sharing_each_2.l1 300 b B 1 pool s sum [xs] bits 299 c a = some a := by
      intro c a hc
      show alloc_sharing_each_2.r1 300 b B 1 pool s sum [xs] bits (alloc_sharing_each_2.l1 300 b B 1 pool s sum [xs] bits 298) c a = _
      exact bif_eq_f (decide_eq_false (by omega)) rfl
    have t0 : ∀ (c : Int), c = 0 → alloc_sharing_each_2.l1 300 b B 1 pool s sum [xs] bits 300 c (itr b (fun i a => a + wt (h i - s)) 0) = some (itr (b + 1) (fun i a => a + wt (h i - s)) 0) := by
      intro c hc
      show alloc_sharing_each_2.r1 300 b B 1 pool s sum [xs] bits (alloc_sharing_each_2.l1 300 b B 1 pool s sum [xs] bits 299) c _ = _
      refine bif_eq_t (decide_eq_true (by omega)) (bif_eq_t (by rw [hc]; rfl) (gd_eq (Int.zero_lt_one : (0 : Int) < 1) (gd_eq ⟨by omega, by show (b : Int) < (xs.length : Int); omega⟩ (gd_eq ⟨by omega, by omega⟩ (bnd_eq (x := itr (b + 1) (fun i a => a + wt (h i - s)) 0) ?_ (t1 _ _ rfl))))))
      show alloc_sharing_costs_1 300 (at' xs b) b bits (itr b (fun i a => a + wt (h i - s)) 0) pool s sum [xs] = _
      rw [hat b (by omega) (by omega)]
      exact cost_w (h b) _ s (hr b (by omega) (by omega)) (by have := itr_c h s b; omega) hs _ rfl
    show alloc_sharing_each_2.r0 300 B pool s sum [xs] bits (alloc_sharing_each_2.l0 300 B pool s sum [xs] bits m) b _ = _
    refine bif_eq_t (decide_eq_true (by omega)) (bnd_eq (t0 _ rfl) ?_)
    dsimp only
    rw [kw_i64 (x := (b : Int) + 1) (by omega) (by omega)]
    exact ih m (b + 1) (by omega) (by omega)
theorem alloc_sharing_each_l (h : Int → Int) (pool s sum : Int) (xs bits : List Int) (B : Nat) (hB : B ≤ 8) (hx : xs.length = B) (hbits : bits.length = B) (hat : ∀ b : Int, 0 ≤ b → b < B → at' xs b = h b) (hr : ∀ i : Int, 0 ≤ i → i < B → -5 ≤ h i ∧ h i ≤ 15)  (k : Nat) : ∀ (m b : Nat), k < m → b + k = B → alloc_sharing_each.l0 300 B pool sum [xs] bits m b (itr b (fun i a => imax a (h i)) s) = some (itr B (fun i a => imax a (h i)) s) := by
  induction k with
  | zero =>
    intro m b hm hb
    obtain ⟨m, rfl⟩ : ∃ q, m = q + 1 := ⟨m - 1, by omega⟩
    show alloc_sharing_each.r0 300 B pool sum [xs] bits (alloc_sharing_each.l0 300 B pool sum [xs] bits m) b _ = _
    refine bif_eq_f (decide_eq_false (by omega)) ?_
    rw [show b = B by omega]
  | succ k ih =>
    intro m b hm hb
    obtain ⟨m, rfl⟩ : ∃ q, m = q + 1 := ⟨m - 1, by omega⟩
    have t1 : ∀ (c : Int) (a : Int), c = 1 → alloc_sharing_each.l1 300 b B 1 pool sum [xs] bits 299 c a = some a := by
      intro c a hc
      show alloc_sharing_each.r1 300 b B 1 pool sum [xs] bits (alloc_sharing_each.l1 300 b B 1 pool sum [xs] bits 298) c a = _
      exact bif_eq_f (decide_eq_false (by omega)) rfl
    have t0 : ∀ (c : Int), c = 0 → alloc_sharing_each.l1 300 b B 1 pool sum [xs] bits 300 c (itr b (fun i a => imax a (h i)) s) = some (itr (b + 1) (fun i a => imax a (h i)) s) := by
      intro c hc
      show alloc_sharing_each.r1 300 b B 1 pool sum [xs] bits (alloc_sharing_each.l1 300 b B 1 pool sum [xs] bits 299) c _ = _
      refine bif_eq_t (decide_eq_true (by omega)) (bif_eq_t (by rw [hc]; rfl) (gd_eq (Int.zero_lt_one : (0 : Int) < 1) (gd_eq ⟨by omega, by show (b : Int) < (xs.length : Int); omega⟩ (gd_eq ⟨by omega, by omega⟩ (bnd_eq (x := itr (b + 1) (fun i a => imax a (h i)) s) ?_ (t1 _ _ rfl))))))
      show alloc_sharing_cut_1 300 (at' xs b) b bits pool (itr b (fun i a => imax a (h i)) s) sum [xs] = _
      rw [hat b (by omega) (by omega)]
      exact rfl
    show alloc_sharing_each.r0 300 B pool sum [xs] bits (alloc_sharing_each.l0 300 B pool sum [xs] bits m) b _ = _
    refine bif_eq_t (decide_eq_true (by omega)) (bnd_eq (t0 _ rfl) ?_)
    dsimp only
    rw [kw_i64 (x := (b : Int) + 1) (by omega) (by omega)]
    exact ih m (b + 1) (by omega) (by omega)
theorem alloc_sharing_each_6_l (h : Int → Int) (pool s sum : Int) (xs ys bx cy : List Int) (B : Nat) (hB : B ≤ 8) (hx : xs.length = B) (hy : ys.length = B) (hbx : bx.length = B) (hcy : cy.length = B) (hat : ∀ b : Int, 0 ≤ b → b < B → at' xs b = h (b * 2) ∧ at' ys b = h (b * 2 + 1)) (hr : ∀ i : Int, 0 ≤ i → i < B * 2 → -5 ≤ h i ∧ h i ≤ 15) (hs : -1000 ≤ s ∧ s ≤ 1000) (k : Nat) : ∀ (m b : Nat), k < m → b + k = B → alloc_sharing_each_6.l0 300 B pool s sum [xs, ys] bx cy m b (itr (b * 2) (fun i a => a + wt (h i - s)) 0) = some (itr (B * 2) (fun i a => a + wt (h i - s)) 0) := by
  induction k with
  | zero =>
    intro m b hm hb
    obtain ⟨m, rfl⟩ : ∃ q, m = q + 1 := ⟨m - 1, by omega⟩
    show alloc_sharing_each_6.r0 300 B pool s sum [xs, ys] bx cy (alloc_sharing_each_6.l0 300 B pool s sum [xs, ys] bx cy m) b _ = _
    refine bif_eq_f (decide_eq_false (by omega)) ?_
    rw [show b = B by omega]
  | succ k ih =>
    intro m b hm hb
    obtain ⟨m, rfl⟩ : ∃ q, m = q + 1 := ⟨m - 1, by omega⟩
    have t2 : ∀ (c : Int) (a : Int), c = 2 → alloc_sharing_each_6.l1 300 b B 2 pool s sum [xs, ys] bx cy 298 c a = some a := by
      intro c a hc
      show alloc_sharing_each_6.r1 300 b B 2 pool s sum [xs, ys] bx cy (alloc_sharing_each_6.l1 300 b B 2 pool s sum [xs, ys] bx cy 297) c a = _
      exact bif_eq_f (decide_eq_false (by omega)) rfl
    have t1 : ∀ (c : Int), c = 1 → alloc_sharing_each_6.l1 300 b B 2 pool s sum [xs, ys] bx cy 299 c (itr (b * 2 + 1) (fun i a => a + wt (h i - s)) 0) = some (itr (b * 2 + 1 + 1) (fun i a => a + wt (h i - s)) 0) := by
      intro c hc
      show alloc_sharing_each_6.r1 300 b B 2 pool s sum [xs, ys] bx cy (alloc_sharing_each_6.l1 300 b B 2 pool s sum [xs, ys] bx cy 298) c _ = _
      refine bif_eq_t (decide_eq_true (by omega)) (bnd_eq (x := (1, itr (b * 2 + 1 + 1) (fun i a => a + wt (h i - s)) 0)) (bif_eq_f (by rw [hc]; rfl) (bif_eq_t (by rw [hc]; rfl) (gd_eq (by show (1 : Int) < 2; decide) (gd_eq ⟨by omega, by show (b : Int) < (ys.length : Int); omega⟩ (gd_eq ⟨by omega, by omega⟩ (bnd_eq (x := itr (b * 2 + 1 + 1) (fun i a => a + wt (h i - s)) 0) ?_ rfl)))))) (t2 _ _ rfl))
      show alloc_sharing_costs_1_3 300 (at' ys b) b cy (itr (b * 2 + 1) (fun i a => a + wt (h i - s)) 0) pool s sum [xs, ys] bx = _
      rw [(hat b (by omega) (by omega)).2]
      have e : ((b * 2 + 1 : Nat) : Int) = (b : Int) * 2 + 1 := by push_cast; rfl
      rw [← e]
      exact cost_w (h ((b * 2 + 1 : Nat) : Int)) _ s (hr _ (by omega) (by omega)) (by have := itr_c h s (b * 2 + 1); omega) hs _ rfl
    have t0 : ∀ (c : Int), c = 0 → alloc_sharing_each_6.l1 300 b B 2 pool s sum [xs, ys] bx cy 300 c (itr (b * 2) (fun i a => a + wt (h i - s)) 0) = some (itr (b * 2 + 1 + 1) (fun i a => a + wt (h i - s)) 0) := by
      intro c hc
      show alloc_sharing_each_6.r1 300 b B 2 pool s sum [xs, ys] bx cy (alloc_sharing_each_6.l1 300 b B 2 pool s sum [xs, ys] bx cy 299) c _ = _
      refine bif_eq_t (decide_eq_true (by omega)) (bnd_eq (x := (0, itr (b * 2 + 1) (fun i a => a + wt (h i - s)) 0)) (bif_eq_t (by rw [hc]; rfl) (gd_eq (by show (0 : Int) < 2; decide) (gd_eq ⟨by omega, by show (b : Int) < (xs.length : Int); omega⟩ (gd_eq ⟨by omega, by omega⟩ (bnd_eq (x := itr (b * 2 + 1) (fun i a => a + wt (h i - s)) 0) ?_ rfl))))) (t1 _ rfl))
      show alloc_sharing_costs_1_2 300 (at' xs b) b bx (itr (b * 2) (fun i a => a + wt (h i - s)) 0) pool s sum [xs, ys] cy = _
      rw [(hat b (by omega) (by omega)).1]
      have e : ((b * 2 : Nat) : Int) = (b : Int) * 2 := by push_cast; rfl
      rw [← e]
      exact cost_w (h ((b * 2 : Nat) : Int)) _ s (hr _ (by omega) (by omega)) (by have := itr_c h s (b * 2); omega) hs _ rfl
    have t0 := t0 0 rfl
    rw [show b * 2 + 1 + 1 = (b + 1) * 2 by omega] at t0
    show alloc_sharing_each_6.r0 300 B pool s sum [xs, ys] bx cy (alloc_sharing_each_6.l0 300 B pool s sum [xs, ys] bx cy m) b _ = _
    refine bif_eq_t (decide_eq_true (by omega)) (bnd_eq t0 ?_)
    dsimp only
    rw [kw_i64 (x := (b : Int) + 1) (by omega) (by omega)]
    exact ih m (b + 1) (by omega) (by omega)
theorem alloc_sharing_each_5_l (h : Int → Int) (pool s sum : Int) (xs ys bx cy : List Int) (B : Nat) (hB : B ≤ 8) (hx : xs.length = B) (hy : ys.length = B) (hbx : bx.length = B) (hcy : cy.length = B) (hat : ∀ b : Int, 0 ≤ b → b < B → at' xs b = h (b * 2) ∧ at' ys b = h (b * 2 + 1)) (hr : ∀ i : Int, 0 ≤ i → i < B * 2 → -5 ≤ h i ∧ h i ≤ 15)  (k : Nat) : ∀ (m b : Nat), k < m → b + k = B → alloc_sharing_each_5.l0 300 B pool sum [xs, ys] bx cy m b (itr (b * 2) (fun i a => imax a (h i)) s) = some (itr (B * 2) (fun i a => imax a (h i)) s) := by
  induction k with
  | zero =>
    intro m b hm hb
    obtain ⟨m, rfl⟩ : ∃ q, m = q + 1 := ⟨m - 1, by omega⟩
    show alloc_sharing_each_5.r0 300 B pool sum [xs, ys] bx cy (alloc_sharing_each_5.l0 300 B pool sum [xs, ys] bx cy m) b _ = _
    refine bif_eq_f (decide_eq_false (by omega)) ?_
    rw [show b = B by omega]
  | succ k ih =>
    intro m b hm hb
    obtain ⟨m, rfl⟩ : ∃ q, m = q + 1 := ⟨m - 1, by omega⟩
    have t2 : ∀ (c : Int) (a : Int), c = 2 → alloc_sharing_each_5.l1 300 b B 2 pool sum [xs, ys] bx cy 298 c a = some a := by
      intro c a hc
      show alloc_sharing_each_5.r1 300 b B 2 pool sum [xs, ys] bx cy (alloc_sharing_each_5.l1 300 b B 2 pool sum [xs, ys] bx cy 297) c a = _
      exact bif_eq_f (decide_eq_false (by omega)) rfl
    have t1 : ∀ (c : Int), c = 1 → alloc_sharing_each_5.l1 300 b B 2 pool sum [xs, ys] bx cy 299 c (itr (b * 2 + 1) (fun i a => imax a (h i)) s) = some (itr (b * 2 + 1 + 1) (fun i a => imax a (h i)) s) := by
      intro c hc
      show alloc_sharing_each_5.r1 300 b B 2 pool sum [xs, ys] bx cy (alloc_sharing_each_5.l1 300 b B 2 pool sum [xs, ys] bx cy 298) c _ = _
      refine bif_eq_t (decide_eq_true (by omega)) (bnd_eq (x := (1, itr (b * 2 + 1 + 1) (fun i a => imax a (h i)) s)) (bif_eq_f (by rw [hc]; rfl) (bif_eq_t (by rw [hc]; rfl) (gd_eq (by show (1 : Int) < 2; decide) (gd_eq ⟨by omega, by show (b : Int) < (ys.length : Int); omega⟩ (gd_eq ⟨by omega, by omega⟩ (bnd_eq (x := itr (b * 2 + 1 + 1) (fun i a => imax a (h i)) s) ?_ rfl)))))) (t2 _ _ rfl))
      show alloc_sharing_cut_1_3 300 (at' ys b) b cy pool (itr (b * 2 + 1) (fun i a => imax a (h i)) s) sum [xs, ys] bx = _
      rw [(hat b (by omega) (by omega)).2]
      have e : ((b * 2 + 1 : Nat) : Int) = (b : Int) * 2 + 1 := by push_cast; rfl
      rw [← e]
      exact rfl
    have t0 : ∀ (c : Int), c = 0 → alloc_sharing_each_5.l1 300 b B 2 pool sum [xs, ys] bx cy 300 c (itr (b * 2) (fun i a => imax a (h i)) s) = some (itr (b * 2 + 1 + 1) (fun i a => imax a (h i)) s) := by
      intro c hc
      show alloc_sharing_each_5.r1 300 b B 2 pool sum [xs, ys] bx cy (alloc_sharing_each_5.l1 300 b B 2 pool sum [xs, ys] bx cy 299) c _ = _
      refine bif_eq_t (decide_eq_true (by omega)) (bnd_eq (x := (0, itr (b * 2 + 1) (fun i a => imax a (h i)) s)) (bif_eq_t (by rw [hc]; rfl) (gd_eq (by show (0 : Int) < 2; decide) (gd_eq ⟨by omega, by show (b : Int) < (xs.length : Int); omega⟩ (gd_eq ⟨by omega, by omega⟩ (bnd_eq (x := itr (b * 2 + 1) (fun i a => imax a (h i)) s) ?_ rfl))))) (t1 _ rfl))
      show alloc_sharing_cut_1_2 300 (at' xs b) b bx pool (itr (b * 2) (fun i a => imax a (h i)) s) sum [xs, ys] cy = _
      rw [(hat b (by omega) (by omega)).1]
      have e : ((b * 2 : Nat) : Int) = (b : Int) * 2 := by push_cast; rfl
      rw [← e]
      exact rfl
    have t0 := t0 0 rfl
    rw [show b * 2 + 1 + 1 = (b + 1) * 2 by omega] at t0
    show alloc_sharing_each_5.r0 300 B pool sum [xs, ys] bx cy (alloc_sharing_each_5.l0 300 B pool sum [xs, ys] bx cy m) b _ = _
    refine bif_eq_t (decide_eq_true (by omega)) (bnd_eq t0 ?_)
    dsimp only
    rw [kw_i64 (x := (b : Int) + 1) (by omega) (by omega)]
    exact ih m (b + 1) (by omega) (by omega)
end
section
set_option maxRecDepth 6000
theorem rcosts_l (h : Int → Int) (s : Int) (fl : List Int) (N : Nat) (hN : N ≤ 16) (hl : fl.length = N) (hat : ∀ i : Int, 0 ≤ i → i < N → at' fl i = h i) (hr : ∀ i : Int, 0 ≤ i → i < N → -5 ≤ h i ∧ h i ≤ 15) (hs : -1000 ≤ s ∧ s ≤ 1000) (k : Nat) : ∀ (m i : Nat), k < m → i + k = N → psalteryref12_costs.l0 300 fl s m (itr i (fun i a => a + wt (h i - s)) 0) i = some (itr N (fun i a => a + wt (h i - s)) 0) := by
  induction k with
  | zero =>
    intro m i hm hi
    obtain ⟨m, rfl⟩ : ∃ q, m = q + 1 := ⟨m - 1, by omega⟩
    show psalteryref12_costs.r0 300 fl s (psalteryref12_costs.l0 300 fl s m) _ i = _
    refine bif_eq_f (decide_eq_false (by omega)) ?_
    rw [show i = N by omega]
  | succ k ih =>
    intro m i hm hi
    obtain ⟨m, rfl⟩ : ∃ q, m = q + 1 := ⟨m - 1, by omega⟩
    have ha : Kd.nth (.int .i64) fl (Int.toNat i) = h i := hat i (by omega) (by omega)
    have hb := hr i (by omega) (by omega)
    have hc := itr_c h s i
    have ih' := ih m (i + 1) (by omega) (by omega)
    have hs' : itr (i + 1) (fun i a => a + wt (h i - s)) 0 = itr i (fun i a => a + wt (h i - s)) 0 + wt (h i - s) := rfl
    rw [hs'] at ih'
    clear hs' ih
    generalize itr i (fun i a => a + wt (h i - s)) 0 = a at hc ih' ⊢
    show psalteryref12_costs.r0 300 fl s (psalteryref12_costs.l0 300 fl s m) a i = _
    refine bif_eq_t (decide_eq_true (by omega)) (bnd_eq (x := a + wt (h i - s)) (gd_eq ⟨by omega, by omega⟩ ?_) ?_)
    · rw [ha, kw_i64 (x := s + 1) (by omega) (by omega)]
      by_cases e : h i = s + 1
      · refine bnd_eq (x := a + 2) (bif_eq_t (by rw [e]; simp) (by rw [kw_i64 (by omega) (by omega)])) (gd_eq ⟨by omega, by omega, fun _ => by omega, fun _ => by omega⟩ (bif_eq_f ?_ ?_))
        · rw [decide_eq_false (by omega : ¬ h i > s + 1)]; rfl
        · unfold wt; rw [show (h i - s == 1) = true by simp; omega]; rfl
      · refine bnd_eq (x := a) (bif_eq_f (by simpa using e) rfl) (gd_eq ⟨by omega, by omega, fun _ => by omega, fun _ => by omega⟩ ?_)
        rw [kw_i64 (x := s + 16) (by omega) (by omega), kw_i64 (x := a + 1) (by omega) (by omega)]
        unfold wt; rw [show (h i - s == 1) = false by simp; omega]
        by_cases e2 : h i > s + 1
        · by_cases e3 : h i < s + 16
          · rw [decide_eq_true e2, decide_eq_true e3, decide_eq_true (by omega : h i - s > 1), decide_eq_true (by omega : h i - s < 16)]; rfl
          · rw [decide_eq_true e2, decide_eq_false e3, decide_eq_true (by omega : h i - s > 1), decide_eq_false (by omega : ¬ h i - s < 16)]
            refine (bif_eq_f rfl ?_); simp
        · rw [decide_eq_false e2, decide_eq_false (by omega : ¬ h i - s > 1)]
          refine (bif_eq_f rfl ?_); simp
    · dsimp only
      rw [kw_i64 (x := (i : Int) + 1) (by omega) (by omega)]
      exact ih'
theorem rcosts_w (h : Int → Int) (s : Int) (fl : List Int) (N : Nat) (hN : N ≤ 16) (hl : fl.length = N) (hat : ∀ i : Int, 0 ≤ i → i < N → at' fl i = h i) (hr : ∀ i : Int, 0 ≤ i → i < N → -5 ≤ h i ∧ h i ≤ 15) (hs : -1000 ≤ s ∧ s ≤ 1000) : psalteryref12_costs 300 fl s = some (itr N (fun i a => a + wt (h i - s)) 0) :=
  bnd_eq (rcosts_l h s fl N hN hl hat hr hs N 300 0 (by omega) (by omega)) rfl
theorem rmax_l (h : Int → Int) (p0 p1 p2 p3 p4 p5 p6 p7 p8 p9 : Int) (fl : List Int) (a0 : Int) (N : Nat) (hN : N ≤ 16) (hl : fl.length = N) (hat : ∀ i : Int, 0 ≤ i → i < N → at' fl i = h i) (k : Nat) : ∀ (m i : Nat), k < m → i + k = N → psalteryref12_Share.l4 300 fl p0 p1 p2 p3 p4 p5 p6 p7 p8 p9 m (itr i (fun i a => imax a (h i)) a0) i = some (itr N (fun i a => imax a (h i)) a0) := by
  induction k with
  | zero =>
    intro m i hm hi
    obtain ⟨m, rfl⟩ : ∃ q, m = q + 1 := ⟨m - 1, by omega⟩
    show psalteryref12_Share.r4 300 fl p0 p1 p2 p3 p4 p5 p6 p7 p8 p9 (psalteryref12_Share.l4 300 fl p0 p1 p2 p3 p4 p5 p6 p7 p8 p9 m) _ i = _
    refine bif_eq_f (decide_eq_false (by omega)) ?_
    rw [show i = N by omega]
  | succ k ih =>
    intro m i hm hi
    obtain ⟨m, rfl⟩ : ∃ q, m = q + 1 := ⟨m - 1, by omega⟩
    have ha : Kd.nth (.int .i64) fl (Int.toNat i) = h i := hat i (by omega) (by omega)
    show psalteryref12_Share.r4 300 fl p0 p1 p2 p3 p4 p5 p6 p7 p8 p9 (psalteryref12_Share.l4 300 fl p0 p1 p2 p3 p4 p5 p6 p7 p8 p9 m) _ i = _
    refine bif_eq_t (decide_eq_true (by omega)) (gd_eq ⟨by omega, by omega⟩ ?_)
    rw [ha, kw_i64 (x := (i : Int) + 1) (by omega) (by omega)]
    exact ih m (i + 1) (by omega) (by omega)
end
section
set_option maxRecDepth 6000
def GG (d : Int) : Int := if d ≤ 1 then 0 else if d ≤ 16 then d else 16
theorem GG_s (d : Int) : GG (d + 1) = GG d + wt d := by
  unfold GG wt
  by_cases e1 : d = 1
  · subst e1; rfl
  · rw [show (d == 1) = false by simpa using e1]
    by_cases e2 : d > 1
    · by_cases e3 : d < 16
      · rw [decide_eq_true e2, decide_eq_true e3, if_neg (by omega), if_pos (by omega), if_neg (by omega), if_pos (by omega)]; rfl
      · rw [decide_eq_true e2, decide_eq_false e3, if_neg (by omega), if_neg (by omega), if_neg (by omega)]
        show (16 : Int) = (if d ≤ 16 then d else 16) + 0
        split <;> omega
    · rw [decide_eq_false e2, if_pos (by omega), if_pos (by omega)]; rfl
def cst (h : Int → Int) (N : Nat) (s : Int) : Int := itr N (fun i a => a + wt (h i - s)) 0
def tot (h : Int → Int) (N : Nat) (s : Int) : Int := itr N (fun i a => a + GG (h i - s)) 0
theorem cst_r (h : Int → Int) (N : Nat) (s : Int) : 0 ≤ cst h N s ∧ cst h N s ≤ 2 * N := itr_c h s N
theorem tot_s (h : Int → Int) (s : Int) : ∀ N : Nat, tot h N (s - 1) = tot h N s + cst h N s
  | 0 => rfl
  | N + 1 => by
    have ih := tot_s h s N
    have g := GG_s (h N - s)
    rw [show h N - s + 1 = h N - (s - 1) by omega] at g
    show tot h N (s - 1) + GG (h N - (s - 1)) = (tot h N s + GG (h N - s)) + (cst h N s + wt (h N - s))
    omega
theorem tot_r (h : Int → Int) : ∀ (N : Nat) (s : Int), 0 ≤ tot h N s ∧ tot h N s ≤ 16 * N
  | 0, _ => ⟨Int.le_refl _, Int.le_refl _⟩
  | N + 1, s => by
    have ih := tot_r h N s
    have g : ∀ d, 0 ≤ GG d ∧ GG d ≤ 16 := by intro d; unfold GG; split <;> (try split) <;> omega
    have := g (h N - s)
    show 0 ≤ tot h N s + GG (h N - s) ∧ tot h N s + GG (h N - s) ≤ _
    constructor
    · omega
    · push_cast; omega
theorem tot_end (h : Int → Int) : ∀ (N : Nat) (s : Int), (∀ i : Int, 0 ≤ i → i < N → -5 ≤ h i ∧ h i ≤ 15) → s ≤ -21 → tot h N s = 16 * N
  | 0, _, _, _ => rfl
  | N + 1, s, hr, hs => by
    have ih := tot_end h N s (fun i i0 i1 => hr i i0 (by omega)) hs
    have := hr N (by omega) (by omega)
    show tot h N s + GG (h N - s) = _
    have g : GG (h N - s) = 16 := by unfold GG; split <;> (try split) <;> omega
    rw [ih, g]; push_cast; omega
theorem alloc_sharing_cut_l (h : Int → Int) (p0 p1 p2 p3 p4 p5 p6 p7 p8 p9 : Int) (pool : Int) (fl : List Int) (rows : List (List Int)) (bits : List Int) (N : Nat) (hN : N ≤ 16) (hl : fl.length = N) (hp : 0 ≤ pool ∧ pool ≤ 16 * N) (hat : ∀ i : Int, 0 ≤ i → i < N → at' fl i = h i) (hr : ∀ i : Int, 0 ≤ i → i < N → -5 ≤ h i ∧ h i ≤ 15)
    (hc : ∀ s sum : Int, -1000 ≤ s ∧ s ≤ 1000 → alloc_sharing_costs 300 pool s sum rows bits = some (cst h N s)) (hpool : p7 = pool) (k : Nat) : ∀ (m m' : Nat) (s u v : Int), k < m → k < m' → s + 22 ≤ k → -23 ≤ s → s ≤ 15 → u + v = tot h N s → 0 ≤ u ∧ u ≤ 1000 → 0 ≤ v ∧ v ≤ 1000 →
    ∃ s', -23 ≤ s' ∧ s' ≤ 15 ∧ tot h N s' + cst h N s' ≥ pool ∧ alloc_sharing_cut.l0 300 pool rows bits m (cst h N s) s (tot h N s) = some (cst h N s', s', tot h N s') ∧ psalteryref12_Share.l3 300 fl p0 p1 p2 p3 p4 p5 p6 p7 p8 p9 m' (s + 1) u v = some (s', tot h N s', cst h N s') := by
  induction k with
  | zero =>
    intro m m' s u v hm hm' hk h1 h2 huv hu hv
    obtain ⟨m, rfl⟩ : ∃ q, m = q + 1 := ⟨m - 1, by omega⟩
    obtain ⟨m', rfl⟩ : ∃ q, m' = q + 1 := ⟨m' - 1, by omega⟩
    have e1 := tot_end h N s hr (by omega)
    have e2 := cst_r h N s
    refine ⟨s, h1, h2, by omega, ?_, ?_⟩
    · show alloc_sharing_cut.r0 300 pool rows bits (alloc_sharing_cut.l0 300 pool rows bits m) (cst h N s) s (tot h N s) = _
      refine bif_eq_f ?_ rfl
      rw [kw_i64 (x := tot h N s + cst h N s) (by omega) (by omega)]; exact decide_eq_false (by omega)
    · show psalteryref12_Share.r3 300 fl p0 p1 p2 p3 p4 p5 p6 p7 p8 p9 (psalteryref12_Share.l3 300 fl p0 p1 p2 p3 p4 p5 p6 p7 p8 p9 m') (s + 1) u v = _
      refine (congrArg (fun q => Option.bind q _) ((congrArg (psalteryref12_costs 300 fl) (show kwrap .i64 (s + 1 - 1) = s by rw [kw_i64 (by omega) (by omega)]; omega)).trans (rcosts_w h s fl N hN hl hat hr (by omega)))).trans ?_
      show (bif decide (kwrap .i64 (kwrap .i64 (u + v) + cst h N s) ≥ _) then some (kwrap .i64 (s + 1 - 1), kwrap .i64 (u + v), cst h N s) else _) = _
      rw [kw_i64 (x := u + v) (by omega) (by omega), huv, kw_i64 (x := tot h N s + cst h N s) (by omega) (by omega), kw_i64 (x := s + 1 - 1) (by omega) (by omega), show s + 1 - 1 = s by omega]
      exact bif_eq_t (decide_eq_true (by omega)) rfl
  | succ k ih =>
    intro m m' s u v hm hm' hk h1 h2 huv hu hv
    obtain ⟨m, rfl⟩ : ∃ q, m = q + 1 := ⟨m - 1, by omega⟩
    obtain ⟨m', rfl⟩ : ∃ q, m' = q + 1 := ⟨m' - 1, by omega⟩
    have e1 := tot_r h N s
    have e2 := cst_r h N s
    have st : ∀ z, (bif decide (tot h N s + cst h N s < pool) then alloc_sharing_cut.l0 300 pool rows bits m (cst h N (s - 1)) (s - 1) (tot h N s + cst h N s) else some (cst h N s, s, tot h N s)) = z → alloc_sharing_cut.l0 300 pool rows bits (m + 1) (cst h N s) s (tot h N s) = z := by
      intro z hz
      show alloc_sharing_cut.r0 300 pool rows bits (alloc_sharing_cut.l0 300 pool rows bits m) (cst h N s) s (tot h N s) = _
      unfold alloc_sharing_cut.r0
      dsimp only
      rw [kw_i64 (x := tot h N s + cst h N s) (by omega) (by omega), kw_i64 (x := s - 1) (by omega) (by omega), hc (s - 1) _ (by omega)]
      exact hz
    have sr : ∀ z, (bif decide (tot h N s + cst h N s ≥ pool) then some (s, tot h N s, cst h N s) else psalteryref12_Share.l3 300 fl p0 p1 p2 p3 p4 p5 p6 p7 p8 p9 m' s (tot h N s) (cst h N s)) = z → psalteryref12_Share.l3 300 fl p0 p1 p2 p3 p4 p5 p6 p7 p8 p9 (m' + 1) (s + 1) u v = z := by
      intro z hz
      show psalteryref12_Share.r3 300 fl p0 p1 p2 p3 p4 p5 p6 p7 p8 p9 (psalteryref12_Share.l3 300 fl p0 p1 p2 p3 p4 p5 p6 p7 p8 p9 m') (s + 1) u v = _
      unfold psalteryref12_Share.r3
      dsimp only
      rw [kw_i64 (x := s + 1 - 1) (by omega) (by omega), show s + 1 - 1 = s by omega, kw_i64 (x := u + v) (by omega) (by omega), huv, rcosts_w h s fl N hN hl hat hr (by omega)]
      show (bif decide (kwrap .i64 (tot h N s + cst h N s) ≥ p7) then some (s, tot h N s, cst h N s) else psalteryref12_Share.l3 300 fl p0 p1 p2 p3 p4 p5 p6 p7 p8 p9 m' s (tot h N s) (cst h N s)) = z
      rw [kw_i64 (x := tot h N s + cst h N s) (by omega) (by omega)]
      rw [← hpool] at hz
      exact hz
    by_cases c : tot h N s + cst h N s < pool
    · have hs : -23 ≤ s - 1 := by
        rcases Int.lt_or_le s (-21) with q | q
        · have := tot_end h N s hr (by omega); omega
        · omega
      have hnx : tot h N (s - 1) = tot h N s + cst h N s := tot_s h s N
      obtain ⟨s', a1, a2, a3, a4, a5⟩ := ih m m' (s - 1) (tot h N s) (cst h N s) (by omega) (by omega) (by omega) hs (by omega) hnx.symm (by omega) (by omega)
      rw [hnx] at a4
      rw [show s - 1 + 1 = s by omega] at a5
      exact ⟨s', a1, a2, a3, st _ (bif_eq_t (decide_eq_true c) a4), sr _ (bif_eq_f (decide_eq_false (by omega)) a5)⟩
    · exact ⟨s, h1, h2, by omega, st _ (bif_eq_f (decide_eq_false c) rfl), sr _ (bif_eq_t (decide_eq_true (by omega)) rfl)⟩
theorem alloc_sharing_cut_2_l (h : Int → Int) (p0 p1 p2 p3 p4 p5 p6 p7 p8 p9 : Int) (pool : Int) (fl : List Int) (rows : List (List Int)) (bx cy : List Int) (N : Nat) (hN : N ≤ 16) (hl : fl.length = N) (hp : 0 ≤ pool ∧ pool ≤ 16 * N) (hat : ∀ i : Int, 0 ≤ i → i < N → at' fl i = h i) (hr : ∀ i : Int, 0 ≤ i → i < N → -5 ≤ h i ∧ h i ≤ 15)
    (hc : ∀ s sum : Int, -1000 ≤ s ∧ s ≤ 1000 → alloc_sharing_costs_2 300 pool s sum rows bx cy = some (cst h N s)) (hpool : p7 = pool) (k : Nat) : ∀ (m m' : Nat) (s u v : Int), k < m → k < m' → s + 22 ≤ k → -23 ≤ s → s ≤ 15 → u + v = tot h N s → 0 ≤ u ∧ u ≤ 1000 → 0 ≤ v ∧ v ≤ 1000 →
    ∃ s', -23 ≤ s' ∧ s' ≤ 15 ∧ tot h N s' + cst h N s' ≥ pool ∧ alloc_sharing_cut_2.l0 300 pool rows bx cy m (cst h N s) s (tot h N s) = some (cst h N s', s', tot h N s') ∧ psalteryref12_Share.l3 300 fl p0 p1 p2 p3 p4 p5 p6 p7 p8 p9 m' (s + 1) u v = some (s', tot h N s', cst h N s') := by
  induction k with
  | zero =>
    intro m m' s u v hm hm' hk h1 h2 huv hu hv
    obtain ⟨m, rfl⟩ : ∃ q, m = q + 1 := ⟨m - 1, by omega⟩
    obtain ⟨m', rfl⟩ : ∃ q, m' = q + 1 := ⟨m' - 1, by omega⟩
    have e1 := tot_end h N s hr (by omega)
    have e2 := cst_r h N s
    refine ⟨s, h1, h2, by omega, ?_, ?_⟩
    · show alloc_sharing_cut_2.r0 300 pool rows bx cy (alloc_sharing_cut_2.l0 300 pool rows bx cy m) (cst h N s) s (tot h N s) = _
      refine bif_eq_f ?_ rfl
      rw [kw_i64 (x := tot h N s + cst h N s) (by omega) (by omega)]; exact decide_eq_false (by omega)
    · show psalteryref12_Share.r3 300 fl p0 p1 p2 p3 p4 p5 p6 p7 p8 p9 (psalteryref12_Share.l3 300 fl p0 p1 p2 p3 p4 p5 p6 p7 p8 p9 m') (s + 1) u v = _
      refine (congrArg (fun q => Option.bind q _) ((congrArg (psalteryref12_costs 300 fl) (show kwrap .i64 (s + 1 - 1) = s by rw [kw_i64 (by omega) (by omega)]; omega)).trans (rcosts_w h s fl N hN hl hat hr (by omega)))).trans ?_
      show (bif decide (kwrap .i64 (kwrap .i64 (u + v) + cst h N s) ≥ _) then some (kwrap .i64 (s + 1 - 1), kwrap .i64 (u + v), cst h N s) else _) = _
      rw [kw_i64 (x := u + v) (by omega) (by omega), huv, kw_i64 (x := tot h N s + cst h N s) (by omega) (by omega), kw_i64 (x := s + 1 - 1) (by omega) (by omega), show s + 1 - 1 = s by omega]
      exact bif_eq_t (decide_eq_true (by omega)) rfl
  | succ k ih =>
    intro m m' s u v hm hm' hk h1 h2 huv hu hv
    obtain ⟨m, rfl⟩ : ∃ q, m = q + 1 := ⟨m - 1, by omega⟩
    obtain ⟨m', rfl⟩ : ∃ q, m' = q + 1 := ⟨m' - 1, by omega⟩
    have e1 := tot_r h N s
    have e2 := cst_r h N s
    have st : ∀ z, (bif decide (tot h N s + cst h N s < pool) then alloc_sharing_cut_2.l0 300 pool rows bx cy m (cst h N (s - 1)) (s - 1) (tot h N s + cst h N s) else some (cst h N s, s, tot h N s)) = z → alloc_sharing_cut_2.l0 300 pool rows bx cy (m + 1) (cst h N s) s (tot h N s) = z := by
      intro z hz
      show alloc_sharing_cut_2.r0 300 pool rows bx cy (alloc_sharing_cut_2.l0 300 pool rows bx cy m) (cst h N s) s (tot h N s) = _
      unfold alloc_sharing_cut_2.r0
      dsimp only
      rw [kw_i64 (x := tot h N s + cst h N s) (by omega) (by omega), kw_i64 (x := s - 1) (by omega) (by omega), hc (s - 1) _ (by omega)]
      exact hz
    have sr : ∀ z, (bif decide (tot h N s + cst h N s ≥ pool) then some (s, tot h N s, cst h N s) else psalteryref12_Share.l3 300 fl p0 p1 p2 p3 p4 p5 p6 p7 p8 p9 m' s (tot h N s) (cst h N s)) = z → psalteryref12_Share.l3 300 fl p0 p1 p2 p3 p4 p5 p6 p7 p8 p9 (m' + 1) (s + 1) u v = z := by
      intro z hz
      show psalteryref12_Share.r3 300 fl p0 p1 p2 p3 p4 p5 p6 p7 p8 p9 (psalteryref12_Share.l3 300 fl p0 p1 p2 p3 p4 p5 p6 p7 p8 p9 m') (s + 1) u v = _
      unfold psalteryref12_Share.r3
      dsimp only
      rw [kw_i64 (x := s + 1 - 1) (by omega) (by omega), show s + 1 - 1 = s by omega, kw_i64 (x := u + v) (by omega) (by omega), huv, rcosts_w h s fl N hN hl hat hr (by omega)]
      show (bif decide (kwrap .i64 (tot h N s + cst h N s) ≥ p7) then some (s, tot h N s, cst h N s) else psalteryref12_Share.l3 300 fl p0 p1 p2 p3 p4 p5 p6 p7 p8 p9 m' s (tot h N s) (cst h N s)) = z
      rw [kw_i64 (x := tot h N s + cst h N s) (by omega) (by omega)]
      rw [← hpool] at hz
      exact hz
    by_cases c : tot h N s + cst h N s < pool
    · have hs : -23 ≤ s - 1 := by
        rcases Int.lt_or_le s (-21) with q | q
        · have := tot_end h N s hr (by omega); omega
        · omega
      have hnx : tot h N (s - 1) = tot h N s + cst h N s := tot_s h s N
      obtain ⟨s', a1, a2, a3, a4, a5⟩ := ih m m' (s - 1) (tot h N s) (cst h N s) (by omega) (by omega) (by omega) hs (by omega) hnx.symm (by omega) (by omega)
      rw [hnx] at a4
      rw [show s - 1 + 1 = s by omega] at a5
      exact ⟨s', a1, a2, a3, st _ (bif_eq_t (decide_eq_true c) a4), sr _ (bif_eq_f (decide_eq_false (by omega)) a5)⟩
    · exact ⟨s, h1, h2, by omega, st _ (bif_eq_f (decide_eq_false c) rfl), sr _ (bif_eq_t (decide_eq_true (by omega)) rfl)⟩
end
section
set_option maxRecDepth 6000
theorem mx_ge (h : Int → Int) (a0 : Int) : ∀ (N : Nat) (i : Int), 0 ≤ i → i < N → h i ≤ itr N (fun i a => imax a (h i)) a0
  | 0, i, h0, h1 => by omega
  | N + 1, i, h0, h1 => by
    have g : ∀ x y : Int, x ≤ imax x y ∧ y ≤ imax x y := by intro x y; unfold imax; split <;> omega
    have := g (itr N (fun i a => imax a (h i)) a0) (h N)
    show h i ≤ imax (itr N (fun i a => imax a (h i)) a0) (h N)
    by_cases e : i = N
    · rw [e]; exact this.2
    · have := mx_ge h a0 N i h0 (by omega); omega
theorem tot_zero (h : Int → Int) (s : Int) : ∀ (N : Nat), (∀ i : Int, 0 ≤ i → i < N → h i ≤ s) → tot h N s = 0
  | 0, _ => rfl
  | N + 1, hr => by
    have ih := tot_zero h s N (fun i i0 i1 => hr i i0 (by omega))
    have := hr N (by omega) (by omega)
    show tot h N s + GG (h N - s) = 0
    have g : GG (h N - s) = 0 := by unfold GG; split <;> (try split) <;> omega
    rw [ih, g]; rfl
theorem cost1_w (h : Int → Int) (pool : Int) (xs bits : List Int) (hB : xs.length ≤ 8) (hbits : bits.length = xs.length) (hat : ∀ b : Int, 0 ≤ b → b < xs.length → at' xs b = h b) (hr : ∀ i : Int, 0 ≤ i → i < (xs.length : Nat) → -5 ≤ h i ∧ h i ≤ 15) (s sum : Int) (hs : -1000 ≤ s ∧ s ≤ 1000) : alloc_sharing_costs 300 pool s sum [xs] bits = some (cst h xs.length s) :=
  bnd_eq (gd_eq (by show (0 : Int) < 1; decide) (bnd_eq (alloc_sharing_each_2_l h pool s sum xs bits xs.length hB rfl hbits hat hr hs xs.length 300 0 (by omega) (by omega)) rfl)) rfl
theorem cut1_w (h : Int → Int) (p0 p1 p2 p3 p4 p5 p6 p7 p8 p9 : Int) (fl : List Int) (xs bits : List Int) (hB : xs.length ≤ 8) (hbits : bits.length = xs.length) (hat : ∀ b : Int, 0 ≤ b → b < xs.length → at' xs b = h b) (hr : ∀ i : Int, 0 ≤ i → i < (xs.length : Nat) → -5 ≤ h i ∧ h i ≤ 15) (hpos : 0 < xs.length) (hfl : fl.length = xs.length) (hat' : ∀ i : Int, 0 ≤ i → i < (xs.length : Nat) → at' fl i = h i) (hp : 0 ≤ p7 ∧ p7 ≤ 16 * (xs.length : Nat)) :
    ∃ mx s' a b : Int, alloc_sharing_cut 300 p7 (-99) 0 [xs] bits = some (a, b) ∧ psalteryref12_Share.l4 300 fl p0 p1 p2 p3 p4 p5 p6 p7 p8 p9 300 (at' fl 0) 1 = some mx ∧ psalteryref12_Share.l3 300 fl p0 p1 p2 p3 p4 p5 p6 p7 p8 p9 300 (mx + 1) 0 0 = some (s', tot h xs.length s', cst h xs.length s') ∧ -5 ≤ mx ∧ mx ≤ 15 ∧ -23 ≤ s' ∧ s' ≤ 15 ∧ a ≤ 15 ∧ -24 ≤ a ∧ 0 ≤ b ∧ b ≤ 256 ∧
      (bif (kwrap .i64 (tot h xs.length s' + cst h xs.length s') == p7) then some (kwrap .i64 (s' - 1), p7) else some (s', tot h xs.length s') : Option (Int × Int)) = some (a, b) := by
  have hm1 := itr_m h (-99) (by decide) (xs.length) hr
  have hg := mx_ge h (-99) (xs.length)
  have h0 := hr 0 (by omega) (by omega)
  have h1 := hg 0 (by omega) (by omega)
  have hN : xs.length ≤ 16 := by omega
  have e4 : psalteryref12_Share.l4 300 fl p0 p1 p2 p3 p4 p5 p6 p7 p8 p9 300 (at' fl 0) 1 = some (itr (xs.length) (fun i a => imax a (h i)) (-99)) := by
    have q := rmax_l h p0 p1 p2 p3 p4 p5 p6 p7 p8 p9 fl (-99) (xs.length) hN hfl hat' (xs.length - 1) 300 1 (by omega) (by omega)
    have e : itr 1 (fun i a => imax a (h i)) (-99) = at' fl 0 := by
      rw [hat' 0 (by omega) (by omega)]
      show imax (-99) (h 0) = h 0
      unfold imax; split <;> omega
    rw [e] at q; exact q
  have t0 : tot h (xs.length) (itr (xs.length) (fun i a => imax a (h i)) (-99)) = 0 := tot_zero h _ (xs.length) hg
  generalize hmx : itr (xs.length) (fun i a => imax a (h i)) (-99) = mx at *
  obtain ⟨s', a1, a2, a3, a4, a5⟩ := alloc_sharing_cut_l h p0 p1 p2 p3 p4 p5 p6 p7 p8 p9 p7 fl [xs] bits (xs.length) hN hfl hp hat' hr (cost1_w h p7 xs bits hB hbits hat hr) rfl (mx + 22).toNat 300 300 mx 0 0 (by omega) (by omega) (by omega) (by omega) (by omega) (by rw [t0]; rfl) (by decide) (by decide)
  have r1 := tot_r h (xs.length) s'
  have r2 := cst_r h (xs.length) s'
  rw [t0] at a4
  have pr : ∀ z, (bif (kwrap .i64 (tot h (xs.length) s' + cst h (xs.length) s') == p7) then some (kwrap .i64 (s' - 1), kwrap .i64 (tot h (xs.length) s' + cst h (xs.length) s')) else some (s', tot h (xs.length) s') : Option (Int × Int)) = z → alloc_sharing_cut 300 p7 (-99) 0 [xs] bits = z := by
    intro z hz
    refine bnd_eq (gd_eq (by show (0 : Int) < 1; decide) (bnd_eq (alloc_sharing_each_l h p7 (-99) 0 xs bits xs.length hB rfl hbits hat hr xs.length 300 0 (by omega) (by omega)) rfl)) ?_
    rw [hmx]
    exact bnd_eq (cost1_w h p7 xs bits hB hbits hat hr mx 0 (by omega)) (bnd_eq a4 hz)
  rw [kw_i64 (x := tot h (xs.length) s' + cst h (xs.length) s') (by omega) (by omega), kw_i64 (x := s' - 1) (by omega) (by omega)] at pr
  by_cases e : tot h (xs.length) s' + cst h (xs.length) s' = p7
  · refine ⟨mx, s', s' - 1, p7, ?_, e4, a5, by omega, by omega, a1, a2, by omega, by omega, hp.1, by omega, ?_⟩
    · refine pr _ (bif_eq_t (by rw [e]; simp) ?_); rw [e]
    · rw [kw_i64 (x := tot h (xs.length) s' + cst h (xs.length) s') (by omega) (by omega), kw_i64 (x := s' - 1) (by omega) (by omega)]
      exact bif_eq_t (by rw [e]; simp) rfl
  · refine ⟨mx, s', s', tot h (xs.length) s', ?_, e4, a5, by omega, by omega, a1, a2, a2, by omega, r1.1, by omega, ?_⟩
    · exact pr _ (bif_eq_f (by simpa using e) rfl)
    · rw [kw_i64 (x := tot h (xs.length) s' + cst h (xs.length) s') (by omega) (by omega)]
      exact bif_eq_f (by simpa using e) rfl
theorem cost2_w (h : Int → Int) (pool : Int) (xs ys bx cy : List Int) (hB : xs.length ≤ 8) (hy : ys.length = xs.length) (hbx : bx.length = xs.length) (hcy : cy.length = xs.length) (hat : ∀ b : Int, 0 ≤ b → b < xs.length → at' xs b = h (b * 2) ∧ at' ys b = h (b * 2 + 1)) (hr : ∀ i : Int, 0 ≤ i → i < (xs.length * 2 : Nat) → -5 ≤ h i ∧ h i ≤ 15) (s sum : Int) (hs : -1000 ≤ s ∧ s ≤ 1000) : alloc_sharing_costs_2 300 pool s sum [xs, ys] bx cy = some (cst h (xs.length * 2) s) :=
  bnd_eq (gd_eq (by show (0 : Int) < 2; decide) (bnd_eq (alloc_sharing_each_6_l h pool s sum xs ys bx cy xs.length hB rfl hy hbx hcy hat (fun i i0 i1 => hr i i0 (by omega)) hs xs.length 300 0 (by omega) (by omega)) rfl)) rfl
theorem cut2_w (h : Int → Int) (p0 p1 p2 p3 p4 p5 p6 p7 p8 p9 : Int) (fl : List Int) (xs ys bx cy : List Int) (hB : xs.length ≤ 8) (hy : ys.length = xs.length) (hbx : bx.length = xs.length) (hcy : cy.length = xs.length) (hat : ∀ b : Int, 0 ≤ b → b < xs.length → at' xs b = h (b * 2) ∧ at' ys b = h (b * 2 + 1)) (hr : ∀ i : Int, 0 ≤ i → i < (xs.length * 2 : Nat) → -5 ≤ h i ∧ h i ≤ 15) (hpos : 0 < xs.length) (hfl : fl.length = (xs.length * 2)) (hat' : ∀ i : Int, 0 ≤ i → i < ((xs.length * 2) : Nat) → at' fl i = h i) (hp : 0 ≤ p7 ∧ p7 ≤ 16 * ((xs.length * 2) : Nat)) :
    ∃ mx s' a b : Int, alloc_sharing_cut_2 300 p7 (-99) 0 [xs, ys] bx cy = some (a, b) ∧ psalteryref12_Share.l4 300 fl p0 p1 p2 p3 p4 p5 p6 p7 p8 p9 300 (at' fl 0) 1 = some mx ∧ psalteryref12_Share.l3 300 fl p0 p1 p2 p3 p4 p5 p6 p7 p8 p9 300 (mx + 1) 0 0 = some (s', tot h (xs.length * 2) s', cst h (xs.length * 2) s') ∧ -5 ≤ mx ∧ mx ≤ 15 ∧ -23 ≤ s' ∧ s' ≤ 15 ∧ a ≤ 15 ∧ -24 ≤ a ∧ 0 ≤ b ∧ b ≤ 256 ∧
      (bif (kwrap .i64 (tot h (xs.length * 2) s' + cst h (xs.length * 2) s') == p7) then some (kwrap .i64 (s' - 1), p7) else some (s', tot h (xs.length * 2) s') : Option (Int × Int)) = some (a, b) := by
  have hm1 := itr_m h (-99) (by decide) ((xs.length * 2)) hr
  have hg := mx_ge h (-99) ((xs.length * 2))
  have h0 := hr 0 (by omega) (by omega)
  have h1 := hg 0 (by omega) (by omega)
  have hN : (xs.length * 2) ≤ 16 := by omega
  have e4 : psalteryref12_Share.l4 300 fl p0 p1 p2 p3 p4 p5 p6 p7 p8 p9 300 (at' fl 0) 1 = some (itr ((xs.length * 2)) (fun i a => imax a (h i)) (-99)) := by
    have q := rmax_l h p0 p1 p2 p3 p4 p5 p6 p7 p8 p9 fl (-99) ((xs.length * 2)) hN hfl hat' ((xs.length * 2) - 1) 300 1 (by omega) (by omega)
    have e : itr 1 (fun i a => imax a (h i)) (-99) = at' fl 0 := by
      rw [hat' 0 (by omega) (by omega)]
      show imax (-99) (h 0) = h 0
      unfold imax; split <;> omega
    rw [e] at q; exact q
  have t0 : tot h ((xs.length * 2)) (itr ((xs.length * 2)) (fun i a => imax a (h i)) (-99)) = 0 := tot_zero h _ ((xs.length * 2)) hg
  generalize hmx : itr ((xs.length * 2)) (fun i a => imax a (h i)) (-99) = mx at *
  obtain ⟨s', a1, a2, a3, a4, a5⟩ := alloc_sharing_cut_2_l h p0 p1 p2 p3 p4 p5 p6 p7 p8 p9 p7 fl [xs, ys] bx cy ((xs.length * 2)) hN hfl hp hat' hr (cost2_w h p7 xs ys bx cy hB hy hbx hcy hat hr) rfl (mx + 22).toNat 300 300 mx 0 0 (by omega) (by omega) (by omega) (by omega) (by omega) (by rw [t0]; rfl) (by decide) (by decide)
  have r1 := tot_r h ((xs.length * 2)) s'
  have r2 := cst_r h ((xs.length * 2)) s'
  rw [t0] at a4
  have pr : ∀ z, (bif (kwrap .i64 (tot h ((xs.length * 2)) s' + cst h ((xs.length * 2)) s') == p7) then some (kwrap .i64 (s' - 1), kwrap .i64 (tot h ((xs.length * 2)) s' + cst h ((xs.length * 2)) s')) else some (s', tot h ((xs.length * 2)) s') : Option (Int × Int)) = z → alloc_sharing_cut_2 300 p7 (-99) 0 [xs, ys] bx cy = z := by
    intro z hz
    refine bnd_eq (gd_eq (by show (0 : Int) < 2; decide) (bnd_eq (alloc_sharing_each_5_l h p7 (-99) 0 xs ys bx cy xs.length hB rfl hy hbx hcy hat (fun i i0 i1 => hr i i0 (by omega)) xs.length 300 0 (by omega) (by omega)) rfl)) ?_
    rw [hmx]
    exact bnd_eq (cost2_w h p7 xs ys bx cy hB hy hbx hcy hat hr mx 0 (by omega)) (bnd_eq a4 hz)
  rw [kw_i64 (x := tot h ((xs.length * 2)) s' + cst h ((xs.length * 2)) s') (by omega) (by omega), kw_i64 (x := s' - 1) (by omega) (by omega)] at pr
  by_cases e : tot h ((xs.length * 2)) s' + cst h ((xs.length * 2)) s' = p7
  · refine ⟨mx, s', s' - 1, p7, ?_, e4, a5, by omega, by omega, a1, a2, by omega, by omega, hp.1, by omega, ?_⟩
    · refine pr _ (bif_eq_t (by rw [e]; simp) ?_); rw [e]
    · rw [kw_i64 (x := tot h ((xs.length * 2)) s' + cst h ((xs.length * 2)) s') (by omega) (by omega), kw_i64 (x := s' - 1) (by omega) (by omega)]
      exact bif_eq_t (by rw [e]; simp) rfl
  · refine ⟨mx, s', s', tot h ((xs.length * 2)) s', ?_, e4, a5, by omega, by omega, a1, a2, a2, by omega, r1.1, by omega, ?_⟩
    · exact pr _ (bif_eq_f (by simpa using e) rfl)
    · rw [kw_i64 (x := tot h ((xs.length * 2)) s' + cst h ((xs.length * 2)) s') (by omega) (by omega)]
      exact bif_eq_f (by simpa using e) rfl
end
section
set_option maxRecDepth 6000
theorem tab_set (n : Nat) (f : Int → Int) (i : Nat) (v : Int) : (tbl n f).set i v = tbl n (fun j => if j = (i : Int) then v else f j) := by
  apply List.ext_getElem
  · simp [tbl]
  · intro k h1 h2
    simp only [tbl, List.getElem_set, List.getElem_map, List.getElem_range]
    by_cases e : i = k
    · rw [if_pos e, if_pos (by omega)]
    · rw [if_neg e, if_neg (by omega)]
theorem tab_cg (n : Nat) (f g : Int → Int) (h : ∀ j : Int, 0 ≤ j → j < n → f j = g j) : tbl n f = tbl n g := by
  unfold tbl
  apply List.map_congr_left
  intro k hk
  have := List.mem_range.1 hk
  exact h k (by omega) (by omega)
def vb (h : Int → Int) (s i : Int) : Int := if h i ≥ s + 2 then imin (h i - s) 16 else 0
def pb (V : Int → Int) (b j : Int) : Int := if j < b then V j else 0
theorem pb_s (n : Nat) (V : Int → Int) (b : Nat) : (tbl n (pb V b)).set b (V b) = tbl n (pb V ((b + 1 : Nat) : Int)) := by
  rw [tab_set]
  apply tab_cg
  intro j _ _
  unfold pb
  by_cases e : j = (b : Int)
  · rw [if_pos e, if_pos (by omega), e]
  · rw [if_neg e]
    by_cases e2 : j < (b : Int)
    · rw [if_pos e2, if_pos (by omega)]
    · rw [if_neg e2, if_neg (by omega)]
theorem pb_n (n : Nat) (V : Int → Int) (b : Nat) (h : V b = 0) : tbl n (pb V b) = tbl n (pb V ((b + 1 : Nat) : Int)) := by
  apply tab_cg
  intro j _ _
  unfold pb
  by_cases e : j = (b : Int)
  · rw [if_neg (by omega), if_pos (by omega), e, h]
  · by_cases e2 : j < (b : Int)
    · rw [if_pos e2, if_pos (by omega)]
    · rw [if_neg e2, if_neg (by omega)]
/-- one band -/
theorem set1_w (need s : Int) (l : List Int) (i : Nat) (hi : i < l.length) (hn : -5 ≤ need ∧ need ≤ 15) (hs : -1000 ≤ s ∧ s ≤ 1000) (pool sum : Int) (rows : List (List Int)) : alloc_Share_1 300 need i l pool s sum rows = some (if need ≥ s + 2 then l.set i (imin (need - s) 16) else l) := by
  unfold alloc_Share_1
  dsimp only
  rw [kw_i64 (x := s + 2) (by omega) (by omega), kw_i64 (x := need - s) (by omega) (by omega)]
  by_cases e : need ≥ s + 2
  · rw [if_pos e]; exact bnd_eq (bif_eq_t (decide_eq_true e) (gd_eq hi rfl)) rfl
  · rw [if_neg e]; exact bnd_eq (bif_eq_f (decide_eq_false e) rfl) rfl
theorem pb_i (n : Nat) (h : Int → Int) (s : Int) (V : Int → Int) (b : Nat) (need : Int) (hV : V b = if need ≥ s + 2 then imin (need - s) 16 else 0) : (if need ≥ s + 2 then (tbl n (pb V b)).set b (imin (need - s) 16) else tbl n (pb V b)) = tbl n (pb V ((b + 1 : Nat) : Int)) := by
  by_cases e : need ≥ s + 2
  · rw [if_pos e] at hV ⊢; rw [← hV]; exact pb_s n V b
  · rw [if_neg e] at hV ⊢; exact pb_n n V b hV
theorem set_l (h : Int → Int) (pool s sum : Int) (xs : List Int) (B : Nat) (hB : B ≤ 8) (hx : xs.length = B) (hat : ∀ b : Int, 0 ≤ b → b < B → at' xs b = h b) (hr : ∀ i : Int, 0 ≤ i → i < B → -5 ≤ h i ∧ h i ≤ 15) (hs : -1000 ≤ s ∧ s ≤ 1000) (k : Nat) : ∀ (m b : Nat), k < m → b + k = B → alloc_sharing_each_3.l0 300 B pool s sum [xs] m b (tbl B (pb (vb h s) b)) = some (tbl B (pb (vb h s) B)) := by
  induction k with
  | zero =>
    intro m b hm hb
    obtain ⟨m, rfl⟩ : ∃ q, m = q + 1 := ⟨m - 1, by omega⟩
    show alloc_sharing_each_3.r0 300 B pool s sum [xs] (alloc_sharing_each_3.l0 300 B pool s sum [xs] m) b _ = _
    refine bif_eq_f (decide_eq_false (by omega)) ?_
    rw [show b = B by omega]
  | succ k ih =>
    intro m b hm hb
    obtain ⟨m, rfl⟩ : ∃ q, m = q + 1 := ⟨m - 1, by omega⟩
    have t1 : ∀ (c : Int) (a : List Int), c = 1 → alloc_sharing_each_3.l1 300 b B 1 pool s sum [xs] 299 c a = some a := by
      intro c a hc
      show alloc_sharing_each_3.r1 300 b B 1 pool s sum [xs] (alloc_sharing_each_3.l1 300 b B 1 pool s sum [xs] 298) c a = _
      exact bif_eq_f (decide_eq_false (by omega)) rfl
    have t0 : ∀ (c : Int), c = 0 → alloc_sharing_each_3.l1 300 b B 1 pool s sum [xs] 300 c (tbl B (pb (vb h s) b)) = some (tbl B (pb (vb h s) ((b + 1 : Nat) : Int))) := by
      intro c hc
      show alloc_sharing_each_3.r1 300 b B 1 pool s sum [xs] (alloc_sharing_each_3.l1 300 b B 1 pool s sum [xs] 299) c _ = _
      refine bif_eq_t (decide_eq_true (by omega)) (bif_eq_t (by rw [hc]; rfl) (gd_eq (by show (0 : Int) < 1; decide) (gd_eq ⟨by omega, by show (b : Int) < (xs.length : Int); omega⟩ (gd_eq ⟨by omega, by rw [tab_len]; omega⟩ (bnd_eq (x := tbl B (pb (vb h s) ((b + 1 : Nat) : Int))) ?_ (t1 _ _ rfl))))))
      show alloc_Share_1 300 (at' xs b) b (tbl B (pb (vb h s) b)) pool s sum [xs] = _
      rw [hat b (by omega) (by omega), set1_w (h b) s _ b (by rw [tab_len]; omega) (hr b (by omega) (by omega)) hs, pb_i B h s (vb h s) b (h b) rfl]
    show alloc_sharing_each_3.r0 300 B pool s sum [xs] (alloc_sharing_each_3.l0 300 B pool s sum [xs] m) b _ = _
    refine bif_eq_t (decide_eq_true (by omega)) (bnd_eq (t0 _ rfl) ?_)
    dsimp only
    rw [kw_i64 (x := (b : Int) + 1) (by omega) (by omega)]
    exact ih m (b + 1) (by omega) (by omega)
theorem rset_l (h : Int → Int) (s sum p0 p1 p2 p3 p4 p5 p6 p7 p8 p9 : Int) (fl : List Int) (N : Nat) (hN : N ≤ 16) (hl : fl.length = N) (hat : ∀ i : Int, 0 ≤ i → i < N → at' fl i = h i) (hr : ∀ i : Int, 0 ≤ i → i < N → -5 ≤ h i ∧ h i ≤ 15) (hs : -1000 ≤ s ∧ s ≤ 1000) (k : Nat) : ∀ (m i : Nat), k < m → i + k = N → psalteryref12_Share.l2 300 fl s sum p0 p1 p2 p3 p4 p5 p6 p7 p8 p9 m i (tbl N (pb (vb h s) i)) = some (tbl N (pb (vb h s) N)) := by
  induction k with
  | zero =>
    intro m i hm hi
    obtain ⟨m, rfl⟩ : ∃ q, m = q + 1 := ⟨m - 1, by omega⟩
    show psalteryref12_Share.r2 300 fl s sum p0 p1 p2 p3 p4 p5 p6 p7 p8 p9 (psalteryref12_Share.l2 300 fl s sum p0 p1 p2 p3 p4 p5 p6 p7 p8 p9 m) i _ = _
    refine bif_eq_f (decide_eq_false (by omega)) ?_
    rw [show i = N by omega]
  | succ k ih =>
    intro m i hm hi
    obtain ⟨m, rfl⟩ : ∃ q, m = q + 1 := ⟨m - 1, by omega⟩
    have ha : Kd.nth (.int .i64) fl (Int.toNat i) = h i := hat i (by omega) (by omega)
    have hb := hr i (by omega) (by omega)
    have hq := pb_i N h s (vb h s) i (h i) rfl
    show psalteryref12_Share.r2 300 fl s sum p0 p1 p2 p3 p4 p5 p6 p7 p8 p9 (psalteryref12_Share.l2 300 fl s sum p0 p1 p2 p3 p4 p5 p6 p7 p8 p9 m) i _ = _
    refine bif_eq_t (decide_eq_true (by omega)) (bnd_eq (x := tbl N (pb (vb h s) ((i + 1 : Nat) : Int))) (gd_eq ⟨by omega, by omega⟩ ?_) ?_)
    · rw [ha, kw_i64 (x := s + 2) (by omega) (by omega), kw_i64 (x := h i - s) (by omega) (by omega)]
      by_cases e : h i ≥ s + 2
      · rw [if_pos e] at hq
        exact bif_eq_t (decide_eq_true e) (gd_eq ⟨by omega, by omega, by omega, by rw [tab_len]; omega, by rw [tab_len]; omega⟩ (congrArg some hq))
      · rw [if_neg e] at hq
        exact bif_eq_f (decide_eq_false e) (congrArg some hq)
    · dsimp only
      rw [kw_i64 (x := (i : Int) + 1) (by omega) (by omega)]
      exact ih m (i + 1) (by omega) (by omega)
end
section
set_option maxRecDepth 6000
theorem set2_w (need s : Int) (l : List Int) (i : Nat) (hi : i < l.length) (hn : -5 ≤ need ∧ need ≤ 15) (hs : -1000 ≤ s ∧ s ≤ 1000) (pool sum : Int) (rows : List (List Int)) (o : List Int) : alloc_Share_1_2 300 need i l pool s sum rows o = some (if need ≥ s + 2 then l.set i (imin (need - s) 16) else l) := set1_w need s l i hi hn hs pool sum rows
theorem set3_w (need s : Int) (l : List Int) (i : Nat) (hi : i < l.length) (hn : -5 ≤ need ∧ need ≤ 15) (hs : -1000 ≤ s ∧ s ≤ 1000) (pool sum : Int) (rows : List (List Int)) (o : List Int) : alloc_Share_1_3 300 need i l pool s sum rows o = some (if need ≥ s + 2 then l.set i (imin (need - s) 16) else l) := set1_w need s l i hi hn hs pool sum rows
theorem set7_l (h : Int → Int) (pool s sum : Int) (xs ys : List Int) (B : Nat) (hB : B ≤ 8) (hx : xs.length = B) (hy : ys.length = B) (hat : ∀ b : Int, 0 ≤ b → b < B → at' xs b = h (b * 2) ∧ at' ys b = h (b * 2 + 1)) (hr : ∀ i : Int, 0 ≤ i → i < B * 2 → -5 ≤ h i ∧ h i ≤ 15) (hs : -1000 ≤ s ∧ s ≤ 1000) (k : Nat) : ∀ (m b : Nat), k < m → b + k = B → alloc_sharing_each_7.l0 300 B pool s sum [xs, ys] m b (tbl B (pb (fun j => vb h s (j * 2)) b)) (tbl B (pb (fun j => vb h s (j * 2 + 1)) b)) = some (tbl B (pb (fun j => vb h s (j * 2)) B), tbl B (pb (fun j => vb h s (j * 2 + 1)) B)) := by
  induction k with
  | zero =>
    intro m b hm hb
    obtain ⟨m, rfl⟩ : ∃ q, m = q + 1 := ⟨m - 1, by omega⟩
    show alloc_sharing_each_7.r0 300 B pool s sum [xs, ys] (alloc_sharing_each_7.l0 300 B pool s sum [xs, ys] m) b _ _ = _
    refine bif_eq_f (decide_eq_false (by omega)) ?_
    rw [show b = B by omega]
  | succ k ih =>
    intro m b hm hb
    obtain ⟨m, rfl⟩ : ∃ q, m = q + 1 := ⟨m - 1, by omega⟩
    have hab := hat b (by omega) (by omega)
    have t2 : ∀ (c : Int) (a z : List Int), c = 2 → alloc_sharing_each_7.l1 300 b B 2 pool s sum [xs, ys] 298 c a z = some (a, z) := by
      intro c a z hc
      show alloc_sharing_each_7.r1 300 b B 2 pool s sum [xs, ys] (alloc_sharing_each_7.l1 300 b B 2 pool s sum [xs, ys] 297) c a z = _
      exact bif_eq_f (decide_eq_false (by omega)) rfl
    have t1 : ∀ (c : Int) (a : List Int), c = 1 → alloc_sharing_each_7.l1 300 b B 2 pool s sum [xs, ys] 299 c a (tbl B (pb (fun j => vb h s (j * 2 + 1)) b)) = some (a, tbl B (pb (fun j => vb h s (j * 2 + 1)) ((b + 1 : Nat) : Int))) := by
      intro c a hc
      show alloc_sharing_each_7.r1 300 b B 2 pool s sum [xs, ys] (alloc_sharing_each_7.l1 300 b B 2 pool s sum [xs, ys] 298) c a _ = _
      refine bif_eq_t (decide_eq_true (by omega)) (bnd_eq (x := (1, a, tbl B (pb (fun j => vb h s (j * 2 + 1)) ((b + 1 : Nat) : Int)))) (bif_eq_f (by rw [hc]; rfl) (bif_eq_t (by rw [hc]; rfl) (gd_eq (by show (1 : Int) < 2; decide) (gd_eq ⟨by omega, by show (b : Int) < (ys.length : Int); omega⟩ (gd_eq ⟨by omega, by rw [tab_len]; omega⟩ (bnd_eq (x := tbl B (pb (fun j => vb h s (j * 2 + 1)) ((b + 1 : Nat) : Int))) ?_ rfl)))))) (t2 _ _ _ rfl))
      show alloc_Share_1_3 300 (at' ys b) b (tbl B (pb (fun j => vb h s (j * 2 + 1)) b)) pool s sum [xs, ys] a = _
      rw [hab.2, set3_w (h ((b : Int) * 2 + 1)) s _ b (by rw [tab_len]; omega) (hr _ (by omega) (by omega)) hs]
      exact congrArg some (pb_i B h s (fun j => vb h s (j * 2 + 1)) b (h ((b : Int) * 2 + 1)) rfl)
    have t0 : ∀ (c : Int), c = 0 → alloc_sharing_each_7.l1 300 b B 2 pool s sum [xs, ys] 300 c (tbl B (pb (fun j => vb h s (j * 2)) b)) (tbl B (pb (fun j => vb h s (j * 2 + 1)) b)) = some (tbl B (pb (fun j => vb h s (j * 2)) ((b + 1 : Nat) : Int)), tbl B (pb (fun j => vb h s (j * 2 + 1)) ((b + 1 : Nat) : Int))) := by
      intro c hc
      show alloc_sharing_each_7.r1 300 b B 2 pool s sum [xs, ys] (alloc_sharing_each_7.l1 300 b B 2 pool s sum [xs, ys] 299) c _ _ = _
      refine bif_eq_t (decide_eq_true (by omega)) (bnd_eq (x := (0, tbl B (pb (fun j => vb h s (j * 2)) ((b + 1 : Nat) : Int)), tbl B (pb (fun j => vb h s (j * 2 + 1)) b))) (bif_eq_t (by rw [hc]; rfl) (gd_eq (by show (0 : Int) < 2; decide) (gd_eq ⟨by omega, by show (b : Int) < (xs.length : Int); omega⟩ (gd_eq ⟨by omega, by rw [tab_len]; omega⟩ (bnd_eq (x := tbl B (pb (fun j => vb h s (j * 2)) ((b + 1 : Nat) : Int))) ?_ rfl))))) (t1 _ _ rfl))
      show alloc_Share_1_2 300 (at' xs b) b (tbl B (pb (fun j => vb h s (j * 2)) b)) pool s sum [xs, ys] _ = _
      rw [hab.1, set2_w (h ((b : Int) * 2)) s _ b (by rw [tab_len]; omega) (hr _ (by omega) (by omega)) hs]
      exact congrArg some (pb_i B h s (fun j => vb h s (j * 2)) b (h ((b : Int) * 2)) rfl)
    show alloc_sharing_each_7.r0 300 B pool s sum [xs, ys] (alloc_sharing_each_7.l0 300 B pool s sum [xs, ys] m) b _ _ = _
    refine bif_eq_t (decide_eq_true (by omega)) (bnd_eq (t0 _ rfl) ?_)
    dsimp only
    rw [kw_i64 (x := (b : Int) + 1) (by omega) (by omega)]
    exact ih m (b + 1) (by omega) (by omega)
end
section
set_option maxRecDepth 6000
def upd (z : Int → Int) (i v : Int) : Int → Int := fun j => if j = i then v else z j
def mst (new : Bool) (pool s : Int) (h : Int → Int) (i : Int) (a : Int × (Int → Int)) : Int × (Int → Int) :=
  if a.1 ≥ pool then a else if 2 ≤ a.2 i ∧ a.2 i < 16 then (a.1 + 1, upd a.2 i (a.2 i + 1)) else if new = true ∧ h i = s + 1 ∧ pool > a.1 + 1 then (a.1 + 2, upd a.2 i 2) else a
/-- one band, by its row: the row tells z -/
theorem more1_w (new : Bool) (need pool s sum : Int) (z : Int → Int) (B i : Nat) (hi : i < B) (hn : -5 ≤ need ∧ need ≤ 15) (hs : -1000 ≤ s ∧ s ≤ 1000) (hsum : 0 ≤ sum ∧ sum ≤ 1000) (hz : 0 ≤ z i ∧ z i ≤ 16) (rows : List (List Int)) : alloc_sharing_more_1 300 need i (tbl B z) new pool s sum rows =
    some (if sum ≥ pool then (false, tbl B z, sum) else if 2 ≤ z i ∧ z i < 16 then (true, tbl B (upd z i (z i + 1)), sum + 1) else if new = true ∧ need = s + 1 ∧ pool > sum + 1 then (true, tbl B (upd z i 2), sum + 2) else (true, tbl B z, sum)) := by
  have hl : i < (tbl B z).length := by rw [tab_len]; exact hi
  have ha : Kd.nth (.int .i64) (tbl B z) i = z i := by
    have := tab_at B z i (by omega) (by omega)
    unfold at' at this
    rwa [Int.toNat_natCast] at this
  by_cases c1 : sum ≥ pool
  · rw [if_pos c1]; exact bnd_eq (bif_eq_t (decide_eq_true c1) rfl) rfl
  · rw [if_neg c1]
    have e1 : kwrap .i64 (sum + 1) = sum + 1 := kw_i64 (by omega) (by omega)
    have e2 : kwrap .i64 (sum + 2) = sum + 2 := kw_i64 (by omega) (by omega)
    have e3 : kwrap .i64 (s + 1) = s + 1 := kw_i64 (by omega) (by omega)
    have e4 : kwrap .i64 (z i + 1) = z i + 1 := kw_i64 (by omega) (by omega)
    unfold alloc_sharing_more_1
    dsimp only
    rw [ha, e1, e2, e3, e4, tab_set, tab_set]
    by_cases c2 : 2 ≤ z i ∧ z i < 16
    · rw [if_pos c2]
      refine bnd_eq (bif_eq_f (decide_eq_false c1) (gd_eq ⟨hl, fun _ => hl⟩ (bif_eq_t ?_ (gd_eq ⟨hl, hl⟩ rfl)))) rfl
      rw [decide_eq_true (show z i ≥ 2 from c2.1), decide_eq_true c2.2]; rfl
    · rw [if_neg c2]
      have c2' : (bif decide (z i ≥ 2) then decide (z i < 16) else false) = false := by
        by_cases q : z i ≥ 2
        · rw [decide_eq_true q, decide_eq_false (by omega)]; rfl
        · rw [decide_eq_false q]; rfl
      by_cases c3 : new = true ∧ need = s + 1 ∧ pool > sum + 1
      · rw [if_pos c3]
        refine bnd_eq (bif_eq_f (decide_eq_false c1) (gd_eq ⟨hl, fun _ => hl⟩ (bif_eq_f c2' (bif_eq_t ?_ (gd_eq hl rfl))))) rfl
        rw [c3.1, c3.2.1, decide_eq_true c3.2.2]; simp
      · rw [if_neg c3]
        refine bnd_eq (bif_eq_f (decide_eq_false c1) (gd_eq ⟨hl, fun _ => hl⟩ (bif_eq_f c2' (bif_eq_f ?_ rfl)))) rfl
        cases new with
        | false => rfl
        | true =>
          by_cases q : need = s + 1
          · rw [decide_eq_false (by intro q2; exact c3 ⟨rfl, q, q2⟩)]; cases (need == s + 1) <;> rfl
          · rw [show (need == s + 1) = false by simpa using q]; rfl
/-- nothing more, once the pool is out -/
theorem itr_stop (new : Bool) (pool s : Int) (h : Int → Int) (a : Int × (Int → Int)) (b : Nat) (hb : (itr b (mst new pool s h) a).1 ≥ pool) : ∀ k : Nat, itr (b + k) (mst new pool s h) a = itr b (mst new pool s h) a
  | 0 => rfl
  | k + 1 => by
    have ih := itr_stop new pool s h a b hb k
    show mst new pool s h _ (itr (b + k) (mst new pool s h) a) = _
    rw [ih]; exact if_pos hb
end
section
set_option maxRecDepth 6000
def good (a : Int × (Int → Int)) : Prop := (0 ≤ a.1 ∧ a.1 ≤ 1000) ∧ ∀ j, 0 ≤ a.2 j ∧ a.2 j ≤ 16
theorem mst_good (new : Bool) (pool s : Int) (h : Int → Int) (hp : pool ≤ 256) (i : Int) (a : Int × (Int → Int)) (ha : good a) : good (mst new pool s h i a) := by
  obtain ⟨h1, h2⟩ := ha
  unfold mst
  have hi := h2 i
  by_cases c1 : a.1 ≥ pool
  · rw [if_pos c1]; exact ⟨h1, h2⟩
  · rw [if_neg c1]
    by_cases c2 : 2 ≤ a.2 i ∧ a.2 i < 16
    · rw [if_pos c2]
      refine ⟨⟨by show 0 ≤ a.1 + 1; omega, by show a.1 + 1 ≤ 1000; omega⟩, fun j => ?_⟩
      show 0 ≤ (if j = i then a.2 i + 1 else a.2 j) ∧ (if j = i then a.2 i + 1 else a.2 j) ≤ 16
      have := h2 j; split <;> omega
    · rw [if_neg c2]
      by_cases c3 : new = true ∧ h i = s + 1 ∧ pool > a.1 + 1
      · rw [if_pos c3]
        refine ⟨⟨by show 0 ≤ a.1 + 2; omega, by show a.1 + 2 ≤ 1000; omega⟩, fun j => ?_⟩
        show 0 ≤ (if j = i then 2 else a.2 j) ∧ (if j = i then 2 else a.2 j) ≤ 16
        have := h2 j; split <;> omega
      · rw [if_neg c3]; exact ⟨h1, h2⟩
theorem itr_good (new : Bool) (pool s : Int) (h : Int → Int) (hp : pool ≤ 256) (a : Int × (Int → Int)) (ha : good a) : ∀ n : Nat, good (itr n (mst new pool s h) a)
  | 0 => ha
  | n + 1 => mst_good new pool s h hp n _ (itr_good new pool s h hp a ha n)
theorem more_l (new : Bool) (h : Int → Int) (pool s : Int) (a0 : Int × (Int → Int)) (ha : good a0) (hp : pool ≤ 256) (xs : List Int) (B : Nat) (hB : B ≤ 8) (hx : xs.length = B) (hat : ∀ b : Int, 0 ≤ b → b < B → at' xs b = h b) (hr : ∀ i : Int, 0 ≤ i → i < B → -5 ≤ h i ∧ h i ≤ 15) (hs : -1000 ≤ s ∧ s ≤ 1000) (k : Nat) : ∀ (m b : Nat), k < m → b + k = B →
    ∃ z, alloc_sharing_each_4.l0 300 B pool s [xs] new m b (itr b (mst new pool s h) a0).1 (tbl B (itr b (mst new pool s h) a0).2) = some z ∧ (z = .inl ((itr B (mst new pool s h) a0).1, tbl B (itr B (mst new pool s h) a0).2) ∨ z = .inr ((itr B (mst new pool s h) a0).1, tbl B (itr B (mst new pool s h) a0).2)) := by
  induction k with
  | zero =>
    intro m b hm hb
    obtain ⟨m, rfl⟩ : ∃ q, m = q + 1 := ⟨m - 1, by omega⟩
    rw [show B = b by omega]
    refine ⟨_, ?_, .inl rfl⟩
    show alloc_sharing_each_4.r0 300 b pool s [xs] new (alloc_sharing_each_4.l0 300 b pool s [xs] new m) b _ _ = _
    exact bif_eq_f (decide_eq_false (by omega)) rfl
  | succ k ih =>
    intro m b hm hb
    obtain ⟨m, rfl⟩ : ∃ q, m = q + 1 := ⟨m - 1, by omega⟩
    have ih' := ih m (b + 1) (by omega) (by omega)
    have hg := itr_good new pool s h hp a0 ha b
    have hst := itr_stop new pool s h a0 b
    have hn : itr (b + 1) (mst new pool s h) a0 = mst new pool s h b (itr b (mst new pool s h) a0) := rfl
    rw [hn] at ih'
    clear hn ih
    generalize itr b (mst new pool s h) a0 = a at hg hst ih' ⊢
    have hm1 := more1_w new (h b) pool s a.1 a.2 B b (by omega) (hr b (by omega) (by omega)) hs hg.1 (hg.2 b) [xs]
    have t1 : ∀ (c u : Int) (l : List Int), c = 1 → alloc_sharing_each_4.l1 300 b B 1 pool s [xs] new 299 c u l = some (.inl (u, l)) := by
      intro c u l hc
      show alloc_sharing_each_4.r1 300 b B 1 pool s [xs] new (alloc_sharing_each_4.l1 300 b B 1 pool s [xs] new 298) c u l = _
      exact bif_eq_f (decide_eq_false (by omega)) rfl
    have go : ∀ r z, alloc_sharing_more_1 300 (h b) b (tbl B a.2) new pool s a.1 [xs] = some r → (bif (!r.1) then some (.inr (r.2.2, r.2.1)) else some (.inl (r.2.2, r.2.1)) : Option ((Int × List Int) ⊕ (Int × List Int))) = some z → ∀ c : Int, c = 0 → alloc_sharing_each_4.l1 300 b B 1 pool s [xs] new 300 c a.1 (tbl B a.2) = some z := by
      intro r z hr1 hz c hc
      obtain ⟨r1, r2, r3⟩ := r
      show alloc_sharing_each_4.r1 300 b B 1 pool s [xs] new (alloc_sharing_each_4.l1 300 b B 1 pool s [xs] new 299) c a.1 (tbl B a.2) = _
      refine bif_eq_t (decide_eq_true (by omega)) (bif_eq_t (by rw [hc]; rfl) (gd_eq (by show (0 : Int) < 1; decide) (gd_eq ⟨by omega, by show (b : Int) < (xs.length : Int); omega⟩ (gd_eq ⟨by omega, by rw [tab_len]; omega⟩ (bnd_eq (x := (r1, r2, r3)) ?_ ?_)))))
      · show alloc_sharing_more_1 300 (at' xs b) b (tbl B a.2) new pool s a.1 [xs] = _
        rw [hat b (by omega) (by omega)]; exact hr1
      · cases r1 with
        | true => exact (t1 _ _ _ rfl).trans hz
        | false => exact hz
    have fin : ∀ z, alloc_sharing_each_4.l1 300 b B 1 pool s [xs] new 300 0 a.1 (tbl B a.2) = some (.inl z) → alloc_sharing_each_4.l0 300 B pool s [xs] new (m + 1) b a.1 (tbl B a.2) = alloc_sharing_each_4.l0 300 B pool s [xs] new m ((b + 1 : Nat) : Int) z.1 z.2 := by
      intro z hz
      show alloc_sharing_each_4.r0 300 B pool s [xs] new (alloc_sharing_each_4.l0 300 B pool s [xs] new m) b a.1 (tbl B a.2) = _
      refine bif_eq_t (decide_eq_true (by omega)) (bnd_eq hz ?_)
      dsimp only
      rw [kw_i64 (x := (b : Int) + 1) (by omega) (by omega)]; rfl
    by_cases c1 : a.1 ≥ pool
    · rw [if_pos c1] at hm1
      have e : itr B (mst new pool s h) a0 = a := by rw [show B = b + (k + 1) by omega]; exact hst c1 (k + 1)
      rw [e]
      refine ⟨_, ?_, .inr rfl⟩
      show alloc_sharing_each_4.r0 300 B pool s [xs] new (alloc_sharing_each_4.l0 300 B pool s [xs] new m) b a.1 (tbl B a.2) = _
      exact bif_eq_t (decide_eq_true (by omega)) (bnd_eq (go _ _ hm1 rfl 0 rfl) rfl)
    · rw [if_neg c1] at hm1
      unfold mst at ih'
      rw [if_neg c1] at ih'
      by_cases c2 : 2 ≤ a.2 b ∧ a.2 b < 16
      · rw [if_pos c2] at hm1 ih'
        rw [fin _ (go _ _ hm1 rfl 0 rfl)]; exact ih'
      · rw [if_neg c2] at hm1 ih'
        by_cases c3 : new = true ∧ h b = s + 1 ∧ pool > a.1 + 1
        · rw [if_pos c3] at hm1 ih'
          rw [fin _ (go _ _ hm1 rfl 0 rfl)]; exact ih'
        · rw [if_neg c3] at hm1 ih'
          rw [fin _ (go _ _ hm1 rfl 0 rfl)]; exact ih'
end
section
set_option maxRecDepth 6000
theorem rmore_l (h : Int → Int) (s p0 p1 p2 p3 p4 p5 p6 p7 p8 p9 : Int) (a0 : Int × (Int → Int)) (ha : good a0) (hp : p7 ≤ 256) (fl : List Int) (N : Nat) (hN : N ≤ 16) (hl : fl.length = N) (hat : ∀ i : Int, 0 ≤ i → i < N → at' fl i = h i) (hs : -1000 ≤ s ∧ s ≤ 1000) (k : Nat) : ∀ (m i : Nat), k < m → i + k = N →
    psalteryref12_Share.l1 300 fl s p0 p1 p2 p3 p4 p5 p6 p7 p8 p9 m (itr i (mst true p7 s h) a0).1 i (tbl N (itr i (mst true p7 s h) a0).2) = some ((itr N (mst true p7 s h) a0).1, tbl N (itr N (mst true p7 s h) a0).2) := by
  induction k with
  | zero =>
    intro m i hm hi
    obtain ⟨m, rfl⟩ : ∃ q, m = q + 1 := ⟨m - 1, by omega⟩
    show psalteryref12_Share.r1 300 fl s p0 p1 p2 p3 p4 p5 p6 p7 p8 p9 (psalteryref12_Share.l1 300 fl s p0 p1 p2 p3 p4 p5 p6 p7 p8 p9 m) _ i _ = _
    refine bif_eq_f (by rw [decide_eq_false (by omega)]; rfl) ?_
    rw [show N = i by omega]
  | succ k ih =>
    intro m i hm hi
    obtain ⟨m, rfl⟩ : ∃ q, m = q + 1 := ⟨m - 1, by omega⟩
    have ih' := ih m (i + 1) (by omega) (by omega)
    have hg := itr_good true p7 s h hp a0 ha i
    have hst := itr_stop true p7 s h a0 i
    have hn : itr (i + 1) (mst true p7 s h) a0 = mst true p7 s h i (itr i (mst true p7 s h) a0) := rfl
    rw [hn] at ih'
    clear hn ih
    generalize itr i (mst true p7 s h) a0 = a at hg hst ih' ⊢
    have hf : Kd.nth (.int .i64) fl (Int.toNat i) = h i := hat i (by omega) (by omega)
    have hv : Kd.nth (.int .i64) (tbl N a.2) (Int.toNat i) = a.2 i := tab_at N a.2 i (by omega) (by omega)
    have hll : (tbl N a.2).length = N := tab_len N a.2
    have hz := hg.2 i
    have h1 := hg.1
    have hti : Int.toNat (i : Int) = i := Int.toNat_natCast i
    show psalteryref12_Share.r1 300 fl s p0 p1 p2 p3 p4 p5 p6 p7 p8 p9 (psalteryref12_Share.l1 300 fl s p0 p1 p2 p3 p4 p5 p6 p7 p8 p9 m) a.1 i (tbl N a.2) = _
    by_cases c1 : a.1 ≥ p7
    · have e : itr N (mst true p7 s h) a0 = a := by rw [show N = i + (k + 1) by omega]; exact hst c1 (k + 1)
      rw [e]
      exact bif_eq_f (by rw [decide_eq_true (by omega : (i : Int) < (fl.length : Int)), decide_eq_false (by omega : ¬ a.1 < p7)]; rfl) rfl
    · unfold mst at ih'
      rw [if_neg c1] at ih'
      have nx : ∀ z : Int × (Int → Int), psalteryref12_Share.l1 300 fl s p0 p1 p2 p3 p4 p5 p6 p7 p8 p9 m z.1 (kwrap .i64 ((i : Int) + 1)) (tbl N z.2) = psalteryref12_Share.l1 300 fl s p0 p1 p2 p3 p4 p5 p6 p7 p8 p9 m z.1 ((i + 1 : Nat) : Int) (tbl N z.2) := fun z => by rw [kw_i64 (x := (i : Int) + 1) (by omega) (by omega)]; rfl
      have e1 : kwrap .i64 (a.1 + 1) = a.1 + 1 := kw_i64 (by omega) (by omega)
      have e2 : kwrap .i64 (a.1 + 2) = a.1 + 2 := kw_i64 (by omega) (by omega)
      have e3 : kwrap .i64 (s + 1) = s + 1 := kw_i64 (by omega) (by omega)
      have e4 : kwrap .i64 (a.2 i + 1) = a.2 i + 1 := kw_i64 (by omega) (by omega)
      refine bif_eq_t (by rw [decide_eq_true (by omega : (i : Int) < (fl.length : Int)), decide_eq_true (by omega : a.1 < p7)]; rfl) ?_
      dsimp only
      rw [hv, hf, e1, e2, e3, e4, hti, tab_set, tab_set, hll]
      have G : (0 : Int) ≤ i ∧ (i : Int) < (N : Int) ∧ i < N := by omega
      by_cases c2 : 2 ≤ a.2 i ∧ a.2 i < 16
      · rw [if_pos c2] at ih'
        refine bnd_eq (gd_eq ⟨G.1, G.2.1, G.2.2, fun _ => G.1, fun _ => G.2.1, fun _ => G.2.2⟩ (bif_eq_t ?_ (gd_eq ⟨G.1, G.2.1, G.2.2, G.1, G.2.1, G.2.2⟩ rfl))) ?_
        · rw [decide_eq_true (show a.2 i ≥ 2 from c2.1), decide_eq_true (by omega : a.2 i ≤ 15)]; rfl
        · exact (nx (a.1 + 1, upd a.2 i (a.2 i + 1))).trans ih'
      · rw [if_neg c2] at ih'
        have c2' : (bif decide (a.2 i ≥ 2) then decide (a.2 i ≤ 15) else false) = false := by
          by_cases q : a.2 i ≥ 2
          · rw [decide_eq_true q, decide_eq_false (by omega)]; rfl
          · rw [decide_eq_false q]; rfl
        by_cases c3 : true = true ∧ h i = s + 1 ∧ p7 > a.1 + 1
        · rw [if_pos c3] at ih'
          refine bnd_eq (gd_eq ⟨G.1, G.2.1, G.2.2, fun _ => G.1, fun _ => G.2.1, fun _ => G.2.2⟩ (bif_eq_f c2' (gd_eq ⟨G.1, by omega⟩ (bif_eq_t ?_ (gd_eq ⟨G.1, G.2.1, G.2.2⟩ rfl))))) ?_
          · rw [c3.2.1, decide_eq_true (by omega : a.1 + 1 < p7)]; simp
          · exact (nx (a.1 + 2, upd a.2 i 2)).trans ih'
        · rw [if_neg c3] at ih'
          refine bnd_eq (gd_eq ⟨G.1, G.2.1, G.2.2, fun _ => G.1, fun _ => G.2.1, fun _ => G.2.2⟩ (bif_eq_f c2' (gd_eq ⟨G.1, by omega⟩ (bif_eq_f ?_ rfl)))) ?_
          · by_cases q : h i = s + 1
            · rw [decide_eq_false (by intro q2; exact c3 ⟨rfl, q, by omega⟩)]; cases (h i == s + 1) <;> rfl
            · rw [show (h i == s + 1) = false by simpa using q]; rfl
          · exact (nx a).trans ih'
end
section
set_option maxRecDepth 6000
theorem rmore0_l (h : Int → Int) (s p0 p1 p2 p3 p4 p5 p6 p7 p8 p9 : Int) (a0 : Int × (Int → Int)) (ha : good a0) (hp : p7 ≤ 256) (fl : List Int) (N : Nat) (hN : N ≤ 16) (hl : fl.length = N) (k : Nat) : ∀ (m i : Nat), k < m → i + k = N →
    psalteryref12_Share.l0 300 fl p0 p1 p2 p3 p4 p5 p6 p7 p8 p9 m (itr i (mst false p7 s h) a0).1 i (tbl N (itr i (mst false p7 s h) a0).2) = some (tbl N (itr N (mst false p7 s h) a0).2) := by
  induction k with
  | zero =>
    intro m i hm hi
    obtain ⟨m, rfl⟩ : ∃ q, m = q + 1 := ⟨m - 1, by omega⟩
    show psalteryref12_Share.r0 300 fl p0 p1 p2 p3 p4 p5 p6 p7 p8 p9 (psalteryref12_Share.l0 300 fl p0 p1 p2 p3 p4 p5 p6 p7 p8 p9 m) _ i _ = _
    refine bif_eq_f (by rw [decide_eq_false (by omega)]; rfl) ?_
    rw [show N = i by omega]
  | succ k ih =>
    intro m i hm hi
    obtain ⟨m, rfl⟩ : ∃ q, m = q + 1 := ⟨m - 1, by omega⟩
    have ih' := ih m (i + 1) (by omega) (by omega)
    have hg := itr_good false p7 s h hp a0 ha i
    have hst := itr_stop false p7 s h a0 i
    have hn : itr (i + 1) (mst false p7 s h) a0 = mst false p7 s h i (itr i (mst false p7 s h) a0) := rfl
    rw [hn] at ih'
    clear hn ih
    generalize itr i (mst false p7 s h) a0 = a at hg hst ih' ⊢
    have hv : Kd.nth (.int .i64) (tbl N a.2) (Int.toNat i) = a.2 i := tab_at N a.2 i (by omega) (by omega)
    have hll : (tbl N a.2).length = N := tab_len N a.2
    have hz := hg.2 i
    have h1 := hg.1
    have hti : Int.toNat (i : Int) = i := Int.toNat_natCast i
    show psalteryref12_Share.r0 300 fl p0 p1 p2 p3 p4 p5 p6 p7 p8 p9 (psalteryref12_Share.l0 300 fl p0 p1 p2 p3 p4 p5 p6 p7 p8 p9 m) a.1 i (tbl N a.2) = _
    by_cases c1 : a.1 ≥ p7
    · have e : itr N (mst false p7 s h) a0 = a := by rw [show N = i + (k + 1) by omega]; exact hst c1 (k + 1)
      rw [e]
      exact bif_eq_f (by rw [decide_eq_true (by omega : (i : Int) < (fl.length : Int)), decide_eq_false (by omega : ¬ a.1 < p7)]; rfl) rfl
    · unfold mst at ih'
      rw [if_neg c1] at ih'
      have nx : ∀ z : Int × (Int → Int), psalteryref12_Share.l0 300 fl p0 p1 p2 p3 p4 p5 p6 p7 p8 p9 m z.1 (kwrap .i64 ((i : Int) + 1)) (tbl N z.2) = psalteryref12_Share.l0 300 fl p0 p1 p2 p3 p4 p5 p6 p7 p8 p9 m z.1 ((i + 1 : Nat) : Int) (tbl N z.2) := fun z => by rw [kw_i64 (x := (i : Int) + 1) (by omega) (by omega)]; rfl
      have e1 : kwrap .i64 (a.1 + 1) = a.1 + 1 := kw_i64 (by omega) (by omega)
      have e4 : kwrap .i64 (a.2 i + 1) = a.2 i + 1 := kw_i64 (by omega) (by omega)
      refine bif_eq_t (by rw [decide_eq_true (by omega : (i : Int) < (fl.length : Int)), decide_eq_true (by omega : a.1 < p7)]; rfl) ?_
      dsimp only
      rw [hv, e1, e4, hti, tab_set, hll]
      have G : (0 : Int) ≤ i ∧ (i : Int) < (N : Int) ∧ i < N := by omega
      by_cases c2 : 2 ≤ a.2 i ∧ a.2 i < 16
      · rw [if_pos c2] at ih'
        refine bnd_eq (gd_eq ⟨G.1, G.2.1, G.2.2, fun _ => G.1, fun _ => G.2.1, fun _ => G.2.2⟩ (bif_eq_t ?_ (gd_eq ⟨G.1, G.2.1, G.2.2, G.1, G.2.1, G.2.2⟩ rfl))) ?_
        · rw [decide_eq_true (show a.2 i ≥ 2 from c2.1), decide_eq_true (by omega : a.2 i ≤ 15)]; rfl
        · exact (nx (a.1 + 1, upd a.2 i (a.2 i + 1))).trans ih'
      · rw [if_neg c2, if_neg (fun q => by cases q.1)] at ih'
        have c2' : (bif decide (a.2 i ≥ 2) then decide (a.2 i ≤ 15) else false) = false := by
          by_cases q : a.2 i ≥ 2
          · rw [decide_eq_true q, decide_eq_false (by omega)]; rfl
          · rw [decide_eq_false q]; rfl
        refine bnd_eq (gd_eq ⟨G.1, G.2.1, G.2.2, fun _ => G.1, fun _ => G.2.1, fun _ => G.2.2⟩ (bif_eq_f c2' rfl)) ?_
        exact (nx a).trans ih'
end
section
set_option maxRecDepth 6000
def R0 (z : Int → Int) : Int → Int := fun j => z (j * 2)
def R1 (z : Int → Int) : Int → Int := fun j => z (j * 2 + 1)
theorem u00 (B : Nat) (z : Int → Int) (b v : Int) : tbl B (upd (R0 z) b v) = tbl B (R0 (upd z (b * 2) v)) := by
  apply tab_cg; intro j _ _; unfold upd R0; dsimp only
  by_cases e : j = b
  · rw [if_pos e, if_pos (by omega)]
  · rw [if_neg e, if_neg (by omega)]
theorem u01 (B : Nat) (z : Int → Int) (b v : Int) : tbl B (R1 (upd z (b * 2) v)) = tbl B (R1 z) := by
  apply tab_cg; intro j _ _; unfold upd R1; dsimp only
  rw [if_neg (by omega)]
theorem u11 (B : Nat) (z : Int → Int) (b v : Int) : tbl B (upd (R1 z) b v) = tbl B (R1 (upd z (b * 2 + 1) v)) := by
  apply tab_cg; intro j _ _; unfold upd R1; dsimp only
  by_cases e : j = b
  · rw [if_pos e, if_pos (by omega)]
  · rw [if_neg e, if_neg (by omega)]
theorem u10 (B : Nat) (z : Int → Int) (b v : Int) : tbl B (R0 (upd z (b * 2 + 1) v)) = tbl B (R0 z) := by
  apply tab_cg; intro j _ _; unfold upd R0; dsimp only
  rw [if_neg (by omega)]
theorem step0 (new : Bool) (h : Int → Int) (pool s : Int) (a : Int × (Int → Int)) (hg : good a) (B b : Nat) (hb : b < B) (hn : -5 ≤ h ((b : Int) * 2) ∧ h ((b : Int) * 2) ≤ 15) (hs : -1000 ≤ s ∧ s ≤ 1000) (rows : List (List Int)) (o : List Int) :
    alloc_sharing_more_1_2 300 (h ((b : Int) * 2)) b (tbl B (R0 a.2)) new pool s a.1 rows o = some (if a.1 ≥ pool then (false, tbl B (R0 a.2), a.1) else (true, tbl B (R0 (mst new pool s h ((b : Int) * 2) a).2), (mst new pool s h ((b : Int) * 2) a).1)) ∧ tbl B (R1 (mst new pool s h ((b : Int) * 2) a).2) = tbl B (R1 a.2) := by
  have hm : alloc_sharing_more_1_2 300 (h ((b : Int) * 2)) b (tbl B (R0 a.2)) new pool s a.1 rows o = _ := more1_w new (h ((b : Int) * 2)) pool s a.1 (R0 a.2) B b hb hn hs hg.1 (hg.2 _) rows
  rw [hm]
  unfold mst
  by_cases c1 : a.1 ≥ pool
  · rw [if_pos c1, if_pos c1, if_pos c1]; exact ⟨rfl, rfl⟩
  · rw [if_neg c1, if_neg c1, if_neg c1]
    show some (if 2 ≤ a.2 ((b : Int) * 2) ∧ a.2 ((b : Int) * 2) < 16 then _ else _) = _ ∧ _
    by_cases c2 : 2 ≤ a.2 ((b : Int) * 2) ∧ a.2 ((b : Int) * 2) < 16
    · rw [if_pos c2, if_pos c2]
      exact ⟨congrArg (fun q => some (true, q, a.1 + 1)) (u00 B a.2 b _), u01 B a.2 b _⟩
    · rw [if_neg c2, if_neg c2]
      by_cases c3 : new = true ∧ h ((b : Int) * 2) = s + 1 ∧ pool > a.1 + 1
      · rw [if_pos c3, if_pos c3]
        exact ⟨congrArg (fun q => some (true, q, a.1 + 2)) (u00 B a.2 b _), u01 B a.2 b _⟩
      · rw [if_neg c3, if_neg c3]; exact ⟨rfl, rfl⟩
theorem step1 (new : Bool) (h : Int → Int) (pool s : Int) (a : Int × (Int → Int)) (hg : good a) (B b : Nat) (hb : b < B) (hn : -5 ≤ h ((b : Int) * 2 + 1) ∧ h ((b : Int) * 2 + 1) ≤ 15) (hs : -1000 ≤ s ∧ s ≤ 1000) (rows : List (List Int)) (o : List Int) :
    alloc_sharing_more_1_3 300 (h ((b : Int) * 2 + 1)) b (tbl B (R1 a.2)) new pool s a.1 rows o = some (if a.1 ≥ pool then (false, tbl B (R1 a.2), a.1) else (true, tbl B (R1 (mst new pool s h ((b : Int) * 2 + 1) a).2), (mst new pool s h ((b : Int) * 2 + 1) a).1)) ∧ tbl B (R0 (mst new pool s h ((b : Int) * 2 + 1) a).2) = tbl B (R0 a.2) := by
  have hm : alloc_sharing_more_1_3 300 (h ((b : Int) * 2 + 1)) b (tbl B (R1 a.2)) new pool s a.1 rows o = _ := more1_w new (h ((b : Int) * 2 + 1)) pool s a.1 (R1 a.2) B b hb hn hs hg.1 (hg.2 _) rows
  rw [hm]
  unfold mst
  by_cases c1 : a.1 ≥ pool
  · rw [if_pos c1, if_pos c1, if_pos c1]; exact ⟨rfl, rfl⟩
  · rw [if_neg c1, if_neg c1, if_neg c1]
    show some (if 2 ≤ a.2 ((b : Int) * 2 + 1) ∧ a.2 ((b : Int) * 2 + 1) < 16 then _ else _) = _ ∧ _
    by_cases c2 : 2 ≤ a.2 ((b : Int) * 2 + 1) ∧ a.2 ((b : Int) * 2 + 1) < 16
    · rw [if_pos c2, if_pos c2]
      exact ⟨congrArg (fun q => some (true, q, a.1 + 1)) (u11 B a.2 b _), u10 B a.2 b _⟩
    · rw [if_neg c2, if_neg c2]
      by_cases c3 : new = true ∧ h ((b : Int) * 2 + 1) = s + 1 ∧ pool > a.1 + 1
      · rw [if_pos c3, if_pos c3]
        exact ⟨congrArg (fun q => some (true, q, a.1 + 2)) (u11 B a.2 b _), u10 B a.2 b _⟩
      · rw [if_neg c3, if_neg c3]; exact ⟨rfl, rfl⟩
end
section
set_option maxRecDepth 6000
theorem mst_id (new : Bool) (pool s : Int) (h : Int → Int) (i : Int) (a : Int × (Int → Int)) (c : a.1 ≥ pool) : mst new pool s h i a = a := if_pos c
theorem in8 (new : Bool) (h : Int → Int) (pool s : Int) (hp : pool ≤ 256) (a : Int × (Int → Int)) (hg : good a) (xs ys : List Int) (B b : Nat) (hb : b < B) (hB : B ≤ 8) (hx : xs.length = B) (hy : ys.length = B) (hab : at' xs b = h ((b : Int) * 2) ∧ at' ys b = h ((b : Int) * 2 + 1)) (h0 : -5 ≤ h ((b : Int) * 2) ∧ h ((b : Int) * 2) ≤ 15) (h1 : -5 ≤ h ((b : Int) * 2 + 1) ∧ h ((b : Int) * 2 + 1) ≤ 15) (hs : -1000 ≤ s ∧ s ≤ 1000) :
    ∃ z, alloc_sharing_each_8.l1 300 b B 2 pool s [xs, ys] new 300 0 a.1 (tbl B (R0 a.2)) (tbl B (R1 a.2)) = some z ∧ (z = .inl ((mst new pool s h ((b : Int) * 2 + 1) (mst new pool s h ((b : Int) * 2) a)).1, tbl B (R0 (mst new pool s h ((b : Int) * 2 + 1) (mst new pool s h ((b : Int) * 2) a)).2), tbl B (R1 (mst new pool s h ((b : Int) * 2 + 1) (mst new pool s h ((b : Int) * 2) a)).2)) ∨ (z = .inr ((mst new pool s h ((b : Int) * 2 + 1) (mst new pool s h ((b : Int) * 2) a)).1, tbl B (R0 (mst new pool s h ((b : Int) * 2 + 1) (mst new pool s h ((b : Int) * 2) a)).2), tbl B (R1 (mst new pool s h ((b : Int) * 2 + 1) (mst new pool s h ((b : Int) * 2) a)).2)) ∧ (mst new pool s h ((b : Int) * 2 + 1) (mst new pool s h ((b : Int) * 2) a)).1 ≥ pool)) := by
  obtain ⟨p0, q0⟩ := step0 new h pool s a hg B b hb h0 hs [xs, ys] (tbl B (R1 a.2))
  have hg1 := mst_good new pool s h hp ((b : Int) * 2) a hg
  have st0 : ∀ (r : Bool × List Int × Int) z, alloc_sharing_more_1_2 300 (h ((b : Int) * 2)) b (tbl B (R0 a.2)) new pool s a.1 [xs, ys] (tbl B (R1 a.2)) = some r → (bif (!r.1) then some (.inr (r.2.2, r.2.1, tbl B (R1 a.2))) else alloc_sharing_each_8.l1 300 b B 2 pool s [xs, ys] new 299 1 r.2.2 r.2.1 (tbl B (R1 a.2))) = some z → ∀ c : Int, c = 0 → alloc_sharing_each_8.l1 300 b B 2 pool s [xs, ys] new 300 c a.1 (tbl B (R0 a.2)) (tbl B (R1 a.2)) = some z := by
    rintro ⟨r1, r2, r3⟩ z hr hz c hc
    show alloc_sharing_each_8.r1 300 b B 2 pool s [xs, ys] new (alloc_sharing_each_8.l1 300 b B 2 pool s [xs, ys] new 299) c a.1 (tbl B (R0 a.2)) (tbl B (R1 a.2)) = _
    rw [← hab.1] at hr
    cases r1 with
    | true => exact bif_eq_t (decide_eq_true (by omega)) (bnd_eq (bif_eq_t (by rw [hc]; rfl) (gd_eq (by show (0 : Int) < 2; decide) (gd_eq ⟨by omega, by show (b : Int) < (xs.length : Int); omega⟩ (gd_eq ⟨by omega, by rw [tab_len]; omega⟩ (bnd_eq hr rfl))))) hz)
    | false => exact bif_eq_t (decide_eq_true (by omega)) (bnd_eq (bif_eq_t (by rw [hc]; rfl) (gd_eq (by show (0 : Int) < 2; decide) (gd_eq ⟨by omega, by show (b : Int) < (xs.length : Int); omega⟩ (gd_eq ⟨by omega, by rw [tab_len]; omega⟩ (bnd_eq hr rfl))))) hz)
  by_cases c0 : a.1 ≥ pool
  · rw [if_pos c0] at p0
    rw [mst_id new pool s h _ a c0, mst_id new pool s h _ a c0]
    exact ⟨_, st0 _ _ p0 rfl 0 rfl, .inr ⟨rfl, c0⟩⟩
  · rw [if_neg c0] at p0
    rw [← q0] at p0 st0 ⊢
    generalize hae : mst new pool s h ((b : Int) * 2) a = e at *
    obtain ⟨p1, q1⟩ := step1 new h pool s e hg1 B b hb h1 hs [xs, ys] (tbl B (R0 e.2))
    have t2 : ∀ (c u : Int) (l l' : List Int), c = 2 → alloc_sharing_each_8.l1 300 b B 2 pool s [xs, ys] new 298 c u l l' = some (.inl (u, l, l')) := by
      intro c u l l' hc
      show alloc_sharing_each_8.r1 300 b B 2 pool s [xs, ys] new (alloc_sharing_each_8.l1 300 b B 2 pool s [xs, ys] new 297) c u l l' = _
      exact bif_eq_f (decide_eq_false (by omega)) rfl
    have st1 : ∀ (r : Bool × List Int × Int) z, alloc_sharing_more_1_3 300 (h ((b : Int) * 2 + 1)) b (tbl B (R1 e.2)) new pool s e.1 [xs, ys] (tbl B (R0 e.2)) = some r → (bif (!r.1) then some (.inr (r.2.2, tbl B (R0 e.2), r.2.1)) else some (.inl (r.2.2, tbl B (R0 e.2), r.2.1)) : Option ((Int × List Int × List Int) ⊕ (Int × List Int × List Int))) = some z → ∀ c : Int, c = 1 → alloc_sharing_each_8.l1 300 b B 2 pool s [xs, ys] new 299 c e.1 (tbl B (R0 e.2)) (tbl B (R1 e.2)) = some z := by
      rintro ⟨r1, r2, r3⟩ z hr hz c hc
      show alloc_sharing_each_8.r1 300 b B 2 pool s [xs, ys] new (alloc_sharing_each_8.l1 300 b B 2 pool s [xs, ys] new 298) c e.1 (tbl B (R0 e.2)) (tbl B (R1 e.2)) = _
      rw [← hab.2] at hr
      cases r1 with
      | true => exact bif_eq_t (decide_eq_true (by omega)) (bnd_eq (bif_eq_f (by rw [hc]; rfl) (bif_eq_t (by rw [hc]; rfl) (gd_eq (by show (1 : Int) < 2; decide) (gd_eq ⟨by omega, by show (b : Int) < (ys.length : Int); omega⟩ (gd_eq ⟨by omega, by rw [tab_len]; omega⟩ (bnd_eq hr rfl)))))) ((t2 _ _ _ _ rfl).trans hz))
      | false => exact bif_eq_t (decide_eq_true (by omega)) (bnd_eq (bif_eq_f (by rw [hc]; rfl) (bif_eq_t (by rw [hc]; rfl) (gd_eq (by show (1 : Int) < 2; decide) (gd_eq ⟨by omega, by show (b : Int) < (ys.length : Int); omega⟩ (gd_eq ⟨by omega, by rw [tab_len]; omega⟩ (bnd_eq hr rfl)))))) hz)
    by_cases c1 : e.1 ≥ pool
    · rw [if_pos c1] at p1
      rw [mst_id new pool s h _ e c1]
      exact ⟨_, st0 _ _ p0 (st1 _ _ p1 rfl 1 rfl) 0 rfl, .inr ⟨rfl, c1⟩⟩
    · rw [if_neg c1] at p1
      exact ⟨_, st0 _ _ p0 (st1 _ _ p1 rfl 1 rfl) 0 rfl, .inl (by rw [q1])⟩
end
section
set_option maxRecDepth 6000
theorem more8_l (new : Bool) (h : Int → Int) (pool s : Int) (a0 : Int × (Int → Int)) (ha : good a0) (hp : pool ≤ 256) (xs ys : List Int) (B : Nat) (hB : B ≤ 8) (hx : xs.length = B) (hy : ys.length = B) (hat : ∀ b : Int, 0 ≤ b → b < B → at' xs b = h (b * 2) ∧ at' ys b = h (b * 2 + 1)) (hr : ∀ i : Int, 0 ≤ i → i < B * 2 → -5 ≤ h i ∧ h i ≤ 15) (hs : -1000 ≤ s ∧ s ≤ 1000) (k : Nat) : ∀ (m b : Nat), k < m → b + k = B →
    ∃ z, alloc_sharing_each_8.l0 300 B pool s [xs, ys] new m b (itr (b * 2) (mst new pool s h) a0).1 (tbl B (R0 (itr (b * 2) (mst new pool s h) a0).2)) (tbl B (R1 (itr (b * 2) (mst new pool s h) a0).2)) = some z ∧ (z = .inl ((itr (B * 2) (mst new pool s h) a0).1, tbl B (R0 (itr (B * 2) (mst new pool s h) a0).2), tbl B (R1 (itr (B * 2) (mst new pool s h) a0).2)) ∨ z = .inr ((itr (B * 2) (mst new pool s h) a0).1, tbl B (R0 (itr (B * 2) (mst new pool s h) a0).2), tbl B (R1 (itr (B * 2) (mst new pool s h) a0).2))) := by
  induction k with
  | zero =>
    intro m b hm hb
    obtain ⟨m, rfl⟩ : ∃ q, m = q + 1 := ⟨m - 1, by omega⟩
    rw [show B = b by omega]
    refine ⟨_, ?_, .inl rfl⟩
    show alloc_sharing_each_8.r0 300 b pool s [xs, ys] new (alloc_sharing_each_8.l0 300 b pool s [xs, ys] new m) b _ _ _ = _
    exact bif_eq_f (decide_eq_false (by omega)) rfl
  | succ k ih =>
    intro m b hm hb
    obtain ⟨m, rfl⟩ : ∃ q, m = q + 1 := ⟨m - 1, by omega⟩
    have ih' := ih m (b + 1) (by omega) (by omega)
    have hg := itr_good new pool s h hp a0 ha (b * 2)
    have e0 : ((b * 2 : Nat) : Int) = (b : Int) * 2 := by push_cast; rfl
    have e1 : ((b * 2 + 1 : Nat) : Int) = (b : Int) * 2 + 1 := by push_cast; rfl
    have hn : itr ((b + 1) * 2) (mst new pool s h) a0 = mst new pool s h ((b : Int) * 2 + 1) (mst new pool s h ((b : Int) * 2) (itr (b * 2) (mst new pool s h) a0)) := by
      rw [show (b + 1) * 2 = b * 2 + 1 + 1 by omega, ← e1, ← e0]; rfl
    have hst := itr_stop new pool s h a0 ((b + 1) * 2)
    rw [hn] at ih' hst
    obtain ⟨z, z1, z2⟩ := in8 new h pool s hp (itr (b * 2) (mst new pool s h) a0) hg xs ys B b (by omega) hB hx hy (hat b (by omega) (by omega)) (hr _ (by omega) (by omega)) (hr _ (by omega) (by omega)) hs
    rcases z2 with rfl | ⟨rfl, z3⟩
    · obtain ⟨w, w1, w2⟩ := ih'
      refine ⟨w, ?_, w2⟩
      show alloc_sharing_each_8.r0 300 B pool s [xs, ys] new (alloc_sharing_each_8.l0 300 B pool s [xs, ys] new m) b _ _ _ = _
      refine bif_eq_t (decide_eq_true (by omega)) (bnd_eq z1 ?_)
      dsimp only
      rw [kw_i64 (x := (b : Int) + 1) (by omega) (by omega)]
      exact w1
    · have e : itr (B * 2) (mst new pool s h) a0 = mst new pool s h ((b : Int) * 2 + 1) (mst new pool s h ((b : Int) * 2) (itr (b * 2) (mst new pool s h) a0)) := by
        rw [show B * 2 = (b + 1) * 2 + k * 2 by omega]
        exact hst z3 (k * 2)
      rw [e]
      refine ⟨_, ?_, .inr rfl⟩
      show alloc_sharing_each_8.r0 300 B pool s [xs, ys] new (alloc_sharing_each_8.l0 300 B pool s [xs, ys] new m) b _ _ _ = _
      exact bif_eq_t (decide_eq_true (by omega)) (bnd_eq z1 rfl)
end
section
set_option maxRecDepth 6000
theorem far_l (l : List (List Int)) (hl : l.length ≤ 10) (k : Nat) : ∀ (m : Nat) (i : Int), k < m → 0 ≤ i → i + k = (l.length : Int) → psalterylaw12_Far.l0 300 l m i = some (.inl ()) ∨ psalterylaw12_Far.l0 300 l m i = some (.inr true) := by
  induction k with
  | zero =>
    intro m i h h0 h1
    obtain ⟨m, rfl⟩ : ∃ q, m = q + 1 := ⟨m - 1, by omega⟩
    left
    show psalterylaw12_Far.r0 300 l (psalterylaw12_Far.l0 300 l m) i = _
    exact bif_eq_f (decide_eq_false (by omega)) rfl
  | succ k ih =>
    intro m i h h0 h1
    obtain ⟨m, rfl⟩ : ∃ q, m = q + 1 := ⟨m - 1, by omega⟩
    rcases Bool.eq_false_or_eq_true (decide (((row l i).length : Int) > 100)) with e | e
    · right
      show psalterylaw12_Far.r0 300 l (psalterylaw12_Far.l0 300 l m) i = _
      exact bif_eq_t (decide_eq_true (by omega)) (gd_eq ⟨h0, by omega⟩ (bif_eq_t e rfl))
    · have st : psalterylaw12_Far.l0 300 l (m + 1) i = psalterylaw12_Far.l0 300 l m (i + 1) := by
        show psalterylaw12_Far.r0 300 l (psalterylaw12_Far.l0 300 l m) i = _
        refine bif_eq_t (decide_eq_true (by omega)) (gd_eq ⟨h0, by omega⟩ (bif_eq_f e ?_))
        rw [kw_i64 (x := i + 1) (by omega) (by omega)]
      rw [st]
      exact ih m (i + 1) (by omega) (by omega) (by omega)
theorem far_w (l : List (List Int)) : psalterylaw12_Far 300 l = some true ∨ (psalterylaw12_Far 300 l = some false ∧ l.length ≤ 10) := by
  by_cases hl : (l.length : Int) > 10
  · exact .inl (bif_eq_t (decide_eq_true hl) rfl)
  · rcases far_l l (by omega) l.length 300 0 (by omega) (by omega) (by omega) with h | h
    · exact .inr ⟨bif_eq_f (decide_eq_false hl) (bnd_eq h rfl), by omega⟩
    · exact .inl (bif_eq_f (decide_eq_false hl) (bnd_eq h rfl))
theorem zeros_w (n : Nat) (V : Int → Int) : List.replicate n (0 : Int) = tbl n (pb V 0) := by
  apply List.ext_getElem
  · simp [tbl]
  · intro k h1 h2
    simp only [tbl, List.getElem_replicate, List.getElem_map, List.getElem_range]
    unfold pb; rw [if_neg (by omega)]
theorem pb_all (n : Nat) (V : Int → Int) : tbl n (pb V n) = tbl n V := by
  apply tab_cg; intro j _ hj; unfold pb; rw [if_pos hj]
theorem vb_r (h : Int → Int) (s : Int) (i : Int) : 0 ≤ vb h s i ∧ vb h s i ≤ 16 := by
  unfold vb imin; split
  · split <;> omega
  · omega
end
section
set_option maxRecDepth 6000
def share (h : Int → Int) (N : Nat) (pool a b : Int) : Int × (Int → Int) := itr N (mst false pool a h) (itr N (mst true pool a h) (b, vb h a))
theorem good0 (h : Int → Int) (a b : Int) (hb : 0 ≤ b ∧ b ≤ 256) : good (b, vb h a) := ⟨⟨hb.1, by show b ≤ 1000; omega⟩, fun j => vb_r h a j⟩
theorem rshare_w (h : Int → Int) (p0 p1 p2 p3 p4 p5 p6 p7 p8 p9 : Int) (l : List (List Int)) (fl : List Int) (N : Nat) (h0 : 0 < N) (hN : N ≤ 16) (hl : fl.length = N) (hp : p7 ≤ 256) (hat : ∀ i : Int, 0 ≤ i → i < N → at' fl i = h i) (hr : ∀ i : Int, 0 ≤ i → i < N → -5 ≤ h i ∧ h i ≤ 15)
    (hne : psalteryref12_Needs 300 p0 p1 p2 p3 p4 p5 p6 p7 p8 p9 l = some fl) (mx s' t c a b : Int) (e4 : psalteryref12_Share.l4 300 fl p0 p1 p2 p3 p4 p5 p6 p7 p8 p9 300 (at' fl 0) 1 = some mx) (e3 : psalteryref12_Share.l3 300 fl p0 p1 p2 p3 p4 p5 p6 p7 p8 p9 300 (mx + 1) 0 0 = some (s', t, c)) (hm : -5 ≤ mx ∧ mx ≤ 15) (ha : -24 ≤ a ∧ a ≤ 15) (hb : 0 ≤ b ∧ b ≤ 256)
    (ef : (bif (kwrap .i64 (t + c) == p7) then some (kwrap .i64 (s' - 1), p7) else some (s', t) : Option (Int × Int)) = some (a, b)) : psalteryref12_Share 300 p0 p1 p2 p3 p4 p5 p6 p7 p8 p9 l = some (tbl N (share h N p7 a b).2) := by
  have hg := good0 h a b hb
  have hg1 := itr_good true p7 a h hp (b, vb h a) hg N
  have q1 := rset_l h a b p0 p1 p2 p3 p4 p5 p6 p7 p8 p9 fl N hN hl hat hr (by omega) N 300 0 (by omega) (by omega)
  have q2 := rmore_l h a p0 p1 p2 p3 p4 p5 p6 p7 p8 p9 (b, vb h a) hg hp fl N hN hl hat (by omega) N 300 0 (by omega) (by omega)
  have q3 := rmore0_l h a p0 p1 p2 p3 p4 p5 p6 p7 p8 p9 (itr N (mst true p7 a h) (b, vb h a)) hg1 hp fl N hN hl N 300 0 (by omega) (by omega)
  rw [pb_all] at q1
  refine bnd_eq hne (gd_eq (by omega) (bnd_eq e4 ?_))
  dsimp only
  rw [kw_i64 (x := mx + 1) (by omega) (by omega)]
  refine bnd_eq e3 (bnd_eq ef (gd_eq ⟨by omega, by omega, by omega⟩ (bnd_eq (x := tbl N (vb h a)) ?_ (bnd_eq q2 (bnd_eq q3 rfl)))))
  rw [show Int.toNat (fl.length : Int) = N by omega, zeros_w N (vb h a)]
  exact q1
end
section
set_option maxRecDepth 6000
theorem moreC_w (new : Bool) (h : Int → Int) (pool s : Int) (a0 : Int × (Int → Int)) (ha : good a0) (hp : pool ≤ 256) (xs : List Int) (hB : xs.length ≤ 8) (hat : ∀ b : Int, 0 ≤ b → b < xs.length → at' xs b = h b) (hr : ∀ i : Int, 0 ≤ i → i < (xs.length : Nat) → -5 ≤ h i ∧ h i ≤ 15) (hs : -1000 ≤ s ∧ s ≤ 1000) : alloc_sharing_more 300 new pool s a0.1 [xs] (tbl xs.length a0.2) = some ((itr xs.length (mst new pool s h) a0).1, tbl xs.length (itr xs.length (mst new pool s h) a0).2) := by
  obtain ⟨z, z1, z2⟩ := more_l new h pool s a0 ha hp xs xs.length hB rfl hat hr hs xs.length 300 0 (by omega) (by omega)
  refine bnd_eq (x := ((itr xs.length (mst new pool s h) a0).1, tbl xs.length (itr xs.length (mst new pool s h) a0).2)) (gd_eq (by show (0 : Int) < 1; decide) (bnd_eq z1 ?_)) rfl
  rcases z2 with rfl | rfl <;> rfl
theorem share1_w (h : Int → Int) (p0 p1 p2 p3 p4 p5 p6 p7 p8 p9 : Int) (l : List (List Int)) (xs : List Int) (hB : 0 < xs.length ∧ xs.length ≤ 8) (h2 : p2 = 1) (h3 : p3 = (xs.length : Int)) (hp : p7 ≤ 256) (hat : ∀ b : Int, 0 ≤ b → b < xs.length → at' xs b = h b) (hr : ∀ i : Int, 0 ≤ i → i < (xs.length : Nat) → -5 ≤ h i ∧ h i ≤ 15)
    (hne : alloc_Needs 300 p0 p1 p2 p3 p4 p5 p6 p7 p8 p9 l = some (.inr [xs])) (a b : Int) (ha : -24 ≤ a ∧ a ≤ 15) (hb : 0 ≤ b ∧ b ≤ 256) (hc : alloc_sharing_cut 300 p7 (-99) 0 [xs] (List.replicate xs.length 0) = some (a, b)) : alloc_Share 300 p0 p1 p2 p3 p4 p5 p6 p7 p8 p9 l = some (.inr [tbl xs.length (share h xs.length p7 a b).2]) := by
  have hg := good0 h a b hb
  have hg1 := itr_good true p7 a h hp (b, vb h a) hg xs.length
  have q1 := set_l h p7 a b xs xs.length hB.2 rfl hat hr (by omega) xs.length 300 0 (by omega) (by omega)
  rw [pb_all] at q1
  have s1 : ∀ (j : Int) ys, j = 1 → alloc_Share.l2 300 p0 p1 p3 p4 p5 p6 p7 p8 p9 [xs] 299 j ys = some ys := by
    intro j ys hj
    show alloc_Share.r2 300 p0 p1 p3 p4 p5 p6 p7 p8 p9 [xs] (alloc_Share.l2 300 p0 p1 p3 p4 p5 p6 p7 p8 p9 [xs] 298) j ys = _
    exact bif_eq_f (decide_eq_false (by omega)) rfl
  have s0 : ∀ (j : Int), j = 0 → alloc_Share.l2 300 p0 p1 p3 p4 p5 p6 p7 p8 p9 [xs] 300 j [] = some (List.replicate xs.length 0) := by
    intro j hj
    show alloc_Share.r2 300 p0 p1 p3 p4 p5 p6 p7 p8 p9 [xs] (alloc_Share.l2 300 p0 p1 p3 p4 p5 p6 p7 p8 p9 [xs] 299) j [] = _
    refine bif_eq_t (decide_eq_true (by omega)) (bif_eq_t (by rw [hj]; rfl) (gd_eq ⟨by omega, by omega, by omega⟩ ?_))
    rw [show Int.toNat p3 = xs.length by omega]
    exact s1 _ _ rfl
  refine bnd_eq hne (bif_eq_t (by rw [h2]; rfl) (bnd_eq (s0 0 rfl) (bnd_eq hc (bnd_eq (x := tbl xs.length (vb h a)) ?_ (bnd_eq (moreC_w true h p7 a (b, vb h a) hg hp xs hB.2 hat hr (by omega)) (bnd_eq (moreC_w false h p7 a (itr xs.length (mst true p7 a h) (b, vb h a)) hg1 hp xs hB.2 hat hr (by omega)) rfl))))))
  refine bnd_eq (x := tbl xs.length (vb h a)) ?_ rfl |> fun q => gd_eq (by show (0 : Int) < 1; decide) q
  rw [zeros_w xs.length (vb h a)]
  exact q1
end
section
set_option maxRecDepth 6000
theorem moreD_w (new : Bool) (h : Int → Int) (pool s : Int) (a0 : Int × (Int → Int)) (ha : good a0) (hp : pool ≤ 256) (xs ys : List Int) (hB : xs.length ≤ 8) (hy : ys.length = xs.length) (hat : ∀ b : Int, 0 ≤ b → b < xs.length → at' xs b = h (b * 2) ∧ at' ys b = h (b * 2 + 1)) (hr : ∀ i : Int, 0 ≤ i → i < (xs.length : Int) * 2 → -5 ≤ h i ∧ h i ≤ 15) (hs : -1000 ≤ s ∧ s ≤ 1000) : alloc_sharing_more_2 300 new pool s a0.1 [xs, ys] (tbl xs.length (R0 a0.2)) (tbl xs.length (R1 a0.2)) = some ((itr (xs.length * 2) (mst new pool s h) a0).1, tbl xs.length (R0 (itr (xs.length * 2) (mst new pool s h) a0).2), tbl xs.length (R1 (itr (xs.length * 2) (mst new pool s h) a0).2)) := by
  obtain ⟨z, z1, z2⟩ := more8_l new h pool s a0 ha hp xs ys xs.length hB rfl hy hat hr hs xs.length 300 0 (by omega) (by omega)
  rw [Nat.zero_mul] at z1
  refine bnd_eq (x := ((itr (xs.length * 2) (mst new pool s h) a0).1, tbl xs.length (R0 (itr (xs.length * 2) (mst new pool s h) a0).2), tbl xs.length (R1 (itr (xs.length * 2) (mst new pool s h) a0).2))) (gd_eq (by show (0 : Int) < 2; decide) (bnd_eq z1 ?_)) rfl
  rcases z2 with rfl | rfl <;> rfl
theorem share2_w (h : Int → Int) (p0 p1 p2 p3 p4 p5 p6 p7 p8 p9 : Int) (l : List (List Int)) (xs ys : List Int) (hB : 0 < xs.length ∧ xs.length ≤ 8) (hy : ys.length = xs.length) (h2 : p2 = 2) (h3 : p3 = (xs.length : Int)) (hp : p7 ≤ 256) (hat : ∀ b : Int, 0 ≤ b → b < xs.length → at' xs b = h (b * 2) ∧ at' ys b = h (b * 2 + 1)) (hr : ∀ i : Int, 0 ≤ i → i < (xs.length : Int) * 2 → -5 ≤ h i ∧ h i ≤ 15)
    (hne : alloc_Needs 300 p0 p1 p2 p3 p4 p5 p6 p7 p8 p9 l = some (.inr [xs, ys])) (a b : Int) (ha : -24 ≤ a ∧ a ≤ 15) (hb : 0 ≤ b ∧ b ≤ 256) (hc : alloc_sharing_cut_2 300 p7 (-99) 0 [xs, ys] (List.replicate xs.length 0) (List.replicate xs.length 0) = some (a, b)) : alloc_Share 300 p0 p1 p2 p3 p4 p5 p6 p7 p8 p9 l = some (.inr [tbl xs.length (R0 (share h (xs.length * 2) p7 a b).2), tbl xs.length (R1 (share h (xs.length * 2) p7 a b).2)]) := by
  have hg := good0 h a b hb
  have hg1 := itr_good true p7 a h hp (b, vb h a) hg (xs.length * 2)
  have q1 := set7_l h p7 a b xs ys xs.length hB.2 rfl hy hat hr (by omega) xs.length 300 0 (by omega) (by omega)
  rw [pb_all, pb_all] at q1
  have s2 : ∀ (j : Int) us vs, j = 2 → alloc_Share.l3 300 p0 p1 p3 p4 p5 p6 p7 p8 p9 [xs, ys] 298 j us vs = some (us, vs) := by
    intro j us vs hj
    show alloc_Share.r3 300 p0 p1 p3 p4 p5 p6 p7 p8 p9 [xs, ys] (alloc_Share.l3 300 p0 p1 p3 p4 p5 p6 p7 p8 p9 [xs, ys] 297) j us vs = _
    exact bif_eq_f (decide_eq_false (by omega)) rfl
  have s1 : ∀ (j : Int) us, j = 1 → alloc_Share.l3 300 p0 p1 p3 p4 p5 p6 p7 p8 p9 [xs, ys] 299 j us [] = some (us, List.replicate xs.length 0) := by
    intro j us hj
    show alloc_Share.r3 300 p0 p1 p3 p4 p5 p6 p7 p8 p9 [xs, ys] (alloc_Share.l3 300 p0 p1 p3 p4 p5 p6 p7 p8 p9 [xs, ys] 298) j us [] = _
    refine bif_eq_t (decide_eq_true (by omega)) (bnd_eq (x := (1, us, List.replicate xs.length 0)) (bif_eq_f (by rw [hj]; rfl) (bif_eq_t (by rw [hj]; rfl) (gd_eq ⟨by omega, by omega, by omega⟩ ?_))) (s2 _ _ _ rfl))
    rw [show Int.toNat p3 = xs.length by omega]
  have s0 : ∀ (j : Int), j = 0 → alloc_Share.l3 300 p0 p1 p3 p4 p5 p6 p7 p8 p9 [xs, ys] 300 j [] [] = some (List.replicate xs.length 0, List.replicate xs.length 0) := by
    intro j hj
    show alloc_Share.r3 300 p0 p1 p3 p4 p5 p6 p7 p8 p9 [xs, ys] (alloc_Share.l3 300 p0 p1 p3 p4 p5 p6 p7 p8 p9 [xs, ys] 299) j [] [] = _
    refine bif_eq_t (decide_eq_true (by omega)) (bnd_eq (x := (0, List.replicate xs.length 0, [])) (bif_eq_t (by rw [hj]; rfl) (gd_eq ⟨by omega, by omega, by omega⟩ ?_)) (s1 _ _ rfl))
    rw [show Int.toNat p3 = xs.length by omega]
  refine bnd_eq hne (bif_eq_f (by rw [h2]; rfl) (bif_eq_t (by rw [h2]; rfl) (bnd_eq (s0 0 rfl) (bnd_eq hc (bnd_eq (x := (tbl xs.length (R0 (vb h a)), tbl xs.length (R1 (vb h a)))) ?_ (bnd_eq (moreD_w true h p7 a (b, vb h a) hg hp xs ys hB.2 hy hat hr (by omega)) (bnd_eq (moreD_w false h p7 a (itr (xs.length * 2) (mst true p7 a h) (b, vb h a)) hg1 hp xs ys hB.2 hy hat hr (by omega)) rfl)))))))
  refine bnd_eq (x := (tbl xs.length (R0 (vb h a)), tbl xs.length (R1 (vb h a)))) ?_ rfl |> fun q => gd_eq (by show (0 : Int) < 2; decide) q
  have w := q1
  rw [show tbl xs.length (pb (fun j => vb h a (j * 2)) ((0 : Nat) : Int)) = List.replicate xs.length 0 from (zeros_w _ _).symm, show tbl xs.length (pb (fun j => vb h a (j * 2 + 1)) ((0 : Nat) : Int)) = List.replicate xs.length 0 from (zeros_w _ _).symm] at w
  exact w
end
section
set_option maxRecDepth 6000
theorem same_in (l : List (List Int)) (fl : List Int) (B C : Nat) (hC : 1 ≤ C ∧ C ≤ 2) (hB : B ≤ 8) (hl : l.length = C) (hrow : ∀ c : Int, 0 ≤ c → c < C → (row l c).length = B) (hm : fl.length = B * C) (b : Nat) (hb : b < B) (he : ∀ c : Nat, c < C → at' (row l c) b = at' fl ((b * C + c : Nat) : Int)) (k : Nat) : ∀ (n c : Nat), k < n → c + k = C → psalterylaw12_same.l1 300 l fl b n c = some (.inl ()) := by
  induction k with
  | zero =>
    intro n c h hc
    obtain ⟨n, rfl⟩ : ∃ q, n = q + 1 := ⟨n - 1, by omega⟩
    show psalterylaw12_same.r1 300 l fl b (psalterylaw12_same.l1 300 l fl b n) c = _
    exact bif_eq_f (decide_eq_false (by omega)) rfl
  | succ k ih =>
    intro n c h hc
    obtain ⟨n, rfl⟩ : ∃ q, n = q + 1 := ⟨n - 1, by omega⟩
    have hr := hrow c (by omega) (by omega)
    have hv := he c (by omega)
    have hbc : b * C + c < B * C := by
      have : (b + 1) * C ≤ B * C := Nat.mul_le_mul_right _ hb
      rw [Nat.succ_mul] at this; omega
    have hBC : B * C ≤ 16 := by have := Nat.mul_le_mul hB hC.2; omega
    have e1 : kwrap .i64 ((b : Int) * (l.length : Int)) = ((b * C : Nat) : Int) := by rw [hl, ← Int.natCast_mul]; exact kw_i64 (by omega) (by omega)
    have e2 : kwrap .i64 (((b * C : Nat) : Int) + (c : Int)) = ((b * C + c : Nat) : Int) := by rw [kw_i64 (by omega) (by omega)]; rfl
    have e3 : decide ((b : Int) ≥ ((row l c).length : Int)) = false := decide_eq_false (by omega)
    show psalterylaw12_same.r1 300 l fl b (psalterylaw12_same.l1 300 l fl b n) c = _
    refine bif_eq_t (decide_eq_true (by omega)) (gd_eq ⟨by omega, by omega⟩ (gd_eq ⟨fun _ => by omega, fun _ => by omega⟩ (gd_eq ⟨fun _ => by omega, fun _ => by show (b : Int) < ((row l c).length : Int); omega⟩ (gd_eq ⟨fun _ => ?_, fun _ => ?_⟩ (bif_eq_f ?_ ?_)))))
    · rw [e1, e2]; omega
    · rw [e1, e2]; omega
    · show (bif decide ((b : Int) ≥ ((row l c).length : Int)) then true else (at' (row l c) b != at' fl (kwrap .i64 (kwrap .i64 ((b : Int) * (l.length : Int)) + (c : Int))))) = false
      rw [e3, e1, e2, hv]; simp
    · dsimp only
      rw [kw_i64 (x := (c : Int) + 1) (by omega) (by omega)]
      exact ih n (c + 1) (by omega) (by omega)
end
section
set_option maxRecDepth 6000
theorem same_w (l : List (List Int)) (fl : List Int) (B C : Nat) (hC : 1 ≤ C ∧ C ≤ 2) (hB : B ≤ 8) (hl : l.length = C) (hrow : ∀ c : Int, 0 ≤ c → c < C → (row l c).length = B) (hm : fl.length = B * C) (he : ∀ b c : Nat, b < B → c < C → at' (row l c) b = at' fl ((b * C + c : Nat) : Int)) : psalterylaw12_same 300 l fl = some true := by
  have hBC : B * C ≤ 16 := by have := Nat.mul_le_mul hB hC.2; omega
  have ed : kwrap .i64 (Int.tdiv (fl.length : Int) (l.length : Int)) = (B : Int) := by
    rw [hm, hl, show Int.tdiv ((B * C : Nat) : Int) (C : Int) = (B : Int) by rw [Int.natCast_mul]; exact Int.mul_tdiv_cancel _ (by omega)]
    exact kw_i64 (by omega) (by omega)
  have out : ∀ (k n b : Nat), k < n → b + k = B → psalterylaw12_same.l0 300 l fl n b = some (.inl ()) := by
    intro k
    induction k with
    | zero =>
      intro n b h hb
      obtain ⟨n, rfl⟩ : ∃ q, n = q + 1 := ⟨n - 1, by omega⟩
      show psalterylaw12_same.r0 300 l fl (psalterylaw12_same.l0 300 l fl n) b = _
      refine gd_eq (by omega) (bif_eq_f ?_ rfl)
      rw [ed]; exact decide_eq_false (by omega)
    | succ k ih =>
      intro n b h hb
      obtain ⟨n, rfl⟩ : ∃ q, n = q + 1 := ⟨n - 1, by omega⟩
      show psalterylaw12_same.r0 300 l fl (psalterylaw12_same.l0 300 l fl n) b = _
      refine gd_eq (by omega) (bif_eq_t ?_ (bnd_eq (same_in l fl B C hC hB hl hrow hm b (by omega) (fun c hc => he b c (by omega) hc) C 300 0 (by omega) (by omega)) ?_))
      · rw [ed]; exact decide_eq_true (by omega)
      · dsimp only
        rw [kw_i64 (x := (b : Int) + 1) (by omega) (by omega)]
        exact ih n (b + 1) (by omega) (by omega)
  refine bnd_eq (out B 300 0 (by omega) (by omega)) (gd_eq (by omega) ?_)
  have h0 : (Kd.nth (.slice (.int .i64)) l 0).length = B := hrow 0 (by omega) (by omega)
  rw [h0, hl, hm, ← Int.natCast_mul, kw_i64 (x := ((B * C : Nat) : Int)) (by omega) (by omega)]
  simp
end
section
set_option maxRecDepth 6000
theorem shares_of (p0 p1 p2 p3 p4 p5 p6 p7 p8 p9 : Int) (l : List (List Int)) (main : Fit p0 p1 p2 p3 p4 p5 p6 p7 p8 p9 l → alloc_may 300 p0 p1 p2 p3 p4 p5 p6 p7 p8 p9 l = some 0 → ∃ r fl, alloc_Share 300 p0 p1 p2 p3 p4 p5 p6 p7 p8 p9 l = some (.inr r) ∧ (r.length : Int) = p2 ∧ psalteryref12_Share 300 p0 p1 p2 p3 p4 p5 p6 p7 p8 p9 l = some fl ∧ psalterylaw12_same 300 r fl = some true ∧ psalterylaw12_same 300 (rows p0 p1 p2 p3 p4 p5 p6 p7 p8 p9 l) (tbl (p3.toNat * p2.toNat) (gI p0 p1 p2 p3 p4 p5 p6 p7 p8 p9 l)) = some true) : psalterylaw12_AllocShares 300 p0 p1 p2 p3 p4 p5 p6 p7 p8 p9 l = some true := by
  rcases far_w l with h | ⟨h, hl⟩
  · exact bnd_eq al12 (bif_eq_f rfl (bnd_eq h (bif_eq_t rfl rfl)))
  obtain ⟨e, m1, m2, m3⟩ := may_w p0 p1 p2 p3 p4 p5 p6 p7 p8 p9 l hl
  rcases m3 with rfl | rfl | ⟨rfl, hf⟩
  · have n : alloc_Needs 300 p0 p1 p2 p3 p4 p5 p6 p7 p8 p9 l = some (.inl 110) := bnd_eq m1 (bif_eq_t rfl rfl)
    have s : alloc_Share 300 p0 p1 p2 p3 p4 p5 p6 p7 p8 p9 l = some (.inl 110) := bnd_eq n (bif_eq_t rfl rfl)
    exact bnd_eq al12 (bif_eq_f rfl (bnd_eq h (bif_eq_f rfl (bnd_eq n (bnd_eq s (bnd_eq m2 (bif_eq_t rfl rfl)))))))
  · have n : alloc_Needs 300 p0 p1 p2 p3 p4 p5 p6 p7 p8 p9 l = some (.inl 1) := bnd_eq m1 (bif_eq_t rfl rfl)
    have s : alloc_Share 300 p0 p1 p2 p3 p4 p5 p6 p7 p8 p9 l = some (.inl 1) := bnd_eq n (bif_eq_t rfl rfl)
    exact bnd_eq al12 (bif_eq_f rfl (bnd_eq h (bif_eq_f rfl (bnd_eq n (bnd_eq s (bnd_eq m2 (bif_eq_t rfl rfl)))))))
  · obtain ⟨r, fl, a1, a2, a3, a4, a5⟩ := main hf m1
    have hrl : ((rows p0 p1 p2 p3 p4 p5 p6 p7 p8 p9 l).length : Int) = p2 := by
      obtain ⟨_, h2, _⟩ := fit hf
      unfold rows
      rcases h2 with h2 | h2 <;> rw [h2] <;> rfl
    refine bnd_eq al12 (bif_eq_f rfl (bnd_eq h (bif_eq_f rfl (bnd_eq (needs_w hf m1) (bnd_eq a1 (bnd_eq m2 (bif_eq_f rfl (bnd_eq (x := true) (bif_eq_t ?_ (bnd_eq (refneeds_w hf) (bnd_eq a5 (bif_eq_t rfl (bnd_eq a3 (bnd_eq a4 rfl)))))) rfl))))))))
    rw [hrl, a2]; simp
end
section
set_option maxRecDepth 6000
theorem main1 (p0 p1 p2 p3 p4 p5 p6 p7 p8 p9 : Int) (l : List (List Int)) (hf : Fit p0 p1 p2 p3 p4 p5 p6 p7 p8 p9 l) (hm : alloc_may 300 p0 p1 p2 p3 p4 p5 p6 p7 p8 p9 l = some 0) (h2 : p2 = 1) : ∃ r fl, alloc_Share 300 p0 p1 p2 p3 p4 p5 p6 p7 p8 p9 l = some (.inr r) ∧ (r.length : Int) = p2 ∧ psalteryref12_Share 300 p0 p1 p2 p3 p4 p5 p6 p7 p8 p9 l = some fl ∧ psalterylaw12_same 300 r fl = some true ∧ psalterylaw12_same 300 (rows p0 p1 p2 p3 p4 p5 p6 p7 p8 p9 l) (tbl (p3.toNat * p2.toNat) (gI p0 p1 p2 p3 p4 p5 p6 p7 p8 p9 l)) = some true := by
  obtain ⟨f1, f2, f3, f4⟩ := fit hf
  have hp7 : 0 ≤ p7 ∧ p7 ≤ 16 * p3 ∧ p7 ≤ 256 := by
    obtain ⟨⟨⟨_, _, _, _, _, _, _, _, b1, b2, b3, _⟩, _⟩, _⟩ := hf
    rw [h2] at b3; omega
  have hC : p2.toNat = 1 := by omega
  have hN : p3.toNat * p2.toNat = p3.toNat := by rw [hC, Nat.mul_one]
  have hg : ∀ b : Int, 0 ≤ b → b < p3.toNat → gI p0 p1 p2 p3 p4 p5 p6 p7 p8 p9 l b = nd p0 p1 p2 p3 p4 p5 p6 p7 p8 p9 l 0 b := by
    intro b b0 b1
    unfold gI; rw [h2, show b % 1 = 0 by omega, show b / 1 = b by omega]
  have xl : (tbl p3.toNat (nd p0 p1 p2 p3 p4 p5 p6 p7 p8 p9 l 0)).length = p3.toNat := tab_len _ _
  have hat : ∀ b : Int, 0 ≤ b → b < (tbl p3.toNat (nd p0 p1 p2 p3 p4 p5 p6 p7 p8 p9 l 0)).length → at' (tbl p3.toNat (nd p0 p1 p2 p3 p4 p5 p6 p7 p8 p9 l 0)) b = gI p0 p1 p2 p3 p4 p5 p6 p7 p8 p9 l b := by
    intro b b0 b1
    rw [xl] at b1
    rw [tab_at _ _ b b0 b1, hg b b0 b1]
  have hr : ∀ i : Int, 0 ≤ i → i < ((tbl p3.toNat (nd p0 p1 p2 p3 p4 p5 p6 p7 p8 p9 l 0)).length : Nat) → -5 ≤ gI p0 p1 p2 p3 p4 p5 p6 p7 p8 p9 l i ∧ gI p0 p1 p2 p3 p4 p5 p6 p7 p8 p9 l i ≤ 15 := by
    intro i i0 i1
    rw [xl] at i1
    rw [hg i i0 i1]; exact nd_r hf 0 i (by omega) (by omega)
  have hfl : (tbl p3.toNat (gI p0 p1 p2 p3 p4 p5 p6 p7 p8 p9 l)).length = (tbl p3.toNat (nd p0 p1 p2 p3 p4 p5 p6 p7 p8 p9 l 0)).length := by rw [tab_len, tab_len]
  have hat' : ∀ i : Int, 0 ≤ i → i < ((tbl p3.toNat (nd p0 p1 p2 p3 p4 p5 p6 p7 p8 p9 l 0)).length : Nat) → at' (tbl p3.toNat (gI p0 p1 p2 p3 p4 p5 p6 p7 p8 p9 l)) i = gI p0 p1 p2 p3 p4 p5 p6 p7 p8 p9 l i := by
    intro i i0 i1
    rw [xl] at i1
    exact tab_at _ _ i i0 i1
  obtain ⟨mx, s', a, b, c1, c2, c3, c4, c5, c6, c7, c8, c9, c10, c11, c12⟩ := cut1_w (gI p0 p1 p2 p3 p4 p5 p6 p7 p8 p9 l) p0 p1 p2 p3 p4 p5 p6 p7 p8 p9 (tbl p3.toNat (gI p0 p1 p2 p3 p4 p5 p6 p7 p8 p9 l)) (tbl p3.toNat (nd p0 p1 p2 p3 p4 p5 p6 p7 p8 p9 l 0)) (List.replicate (tbl p3.toNat (nd p0 p1 p2 p3 p4 p5 p6 p7 p8 p9 l 0)).length 0) (by omega) (by simp) hat hr (by omega) hfl hat' (by omega)
  have hne := needs_w hf hm
  rw [show rows p0 p1 p2 p3 p4 p5 p6 p7 p8 p9 l = [tbl p3.toNat (nd p0 p1 p2 p3 p4 p5 p6 p7 p8 p9 l 0)] by unfold rows; rw [h2]; rfl] at hne
  have q1 := share1_w (gI p0 p1 p2 p3 p4 p5 p6 p7 p8 p9 l) p0 p1 p2 p3 p4 p5 p6 p7 p8 p9 l (tbl p3.toNat (nd p0 p1 p2 p3 p4 p5 p6 p7 p8 p9 l 0)) (by omega) h2 (by omega) hp7.2.2 hat hr hne a b (by omega) (by omega) c1
  have hrn := refneeds_w hf
  rw [hN] at hrn
  have q2 := rshare_w (gI p0 p1 p2 p3 p4 p5 p6 p7 p8 p9 l) p0 p1 p2 p3 p4 p5 p6 p7 p8 p9 l (tbl p3.toNat (gI p0 p1 p2 p3 p4 p5 p6 p7 p8 p9 l)) (tbl p3.toNat (nd p0 p1 p2 p3 p4 p5 p6 p7 p8 p9 l 0)).length (by omega) (by omega) hfl hp7.2.2 hat' hr hrn mx s' _ _ a b c2 c3 (by omega) (by omega) (by omega) c12
  refine ⟨_, _, q1, by rw [h2]; rfl, q2, ?_, ?_⟩
  · rw [xl]
    refine same_w _ _ p3.toNat 1 (by omega) (by omega) rfl (fun c _ _ => by rw [show c = 0 by omega]; exact tab_len _ _) (by rw [tab_len, Nat.mul_one]) (fun b c hb hc => ?_)
    rw [show c = 0 by omega, Nat.mul_one]; rfl
  · rw [hN, show rows p0 p1 p2 p3 p4 p5 p6 p7 p8 p9 l = [tbl p3.toNat (nd p0 p1 p2 p3 p4 p5 p6 p7 p8 p9 l 0)] by unfold rows; rw [h2]; rfl]
    refine same_w _ _ p3.toNat 1 (by omega) (by omega) rfl (fun c _ _ => by rw [show c = 0 by omega]; exact tab_len _ _) (by rw [tab_len, Nat.mul_one]) (fun b c hb hc => ?_)
    rw [show c = 0 by omega, Nat.mul_one]
    show at' (tbl p3.toNat (nd p0 p1 p2 p3 p4 p5 p6 p7 p8 p9 l 0)) b = at' (tbl p3.toNat (gI p0 p1 p2 p3 p4 p5 p6 p7 p8 p9 l)) b
    rw [tab_at _ _ _ (by omega) (by omega), tab_at _ _ _ (by omega) (by omega), hg _ (by omega) (by omega)]
end
section
set_option maxRecDepth 6000
theorem main2 (p0 p1 p2 p3 p4 p5 p6 p7 p8 p9 : Int) (l : List (List Int)) (hf : Fit p0 p1 p2 p3 p4 p5 p6 p7 p8 p9 l) (hm : alloc_may 300 p0 p1 p2 p3 p4 p5 p6 p7 p8 p9 l = some 0) (h2 : p2 = 2) : ∃ r fl, alloc_Share 300 p0 p1 p2 p3 p4 p5 p6 p7 p8 p9 l = some (.inr r) ∧ (r.length : Int) = p2 ∧ psalteryref12_Share 300 p0 p1 p2 p3 p4 p5 p6 p7 p8 p9 l = some fl ∧ psalterylaw12_same 300 r fl = some true ∧ psalterylaw12_same 300 (rows p0 p1 p2 p3 p4 p5 p6 p7 p8 p9 l) (tbl (p3.toNat * p2.toNat) (gI p0 p1 p2 p3 p4 p5 p6 p7 p8 p9 l)) = some true := by
  obtain ⟨f1, f2, f3, f4⟩ := fit hf
  have hp7 : 0 ≤ p7 ∧ p7 ≤ 16 * (p3 * 2) ∧ p7 ≤ 256 := by
    obtain ⟨⟨⟨_, _, _, _, _, _, _, _, b1, b2, b3, _⟩, _⟩, _⟩ := hf
    rw [h2] at b3; omega
  have hN : p3.toNat * p2.toNat = p3.toNat * 2 := by rw [show p2.toNat = 2 by omega]
  have hg0 : ∀ b : Int, 0 ≤ b → gI p0 p1 p2 p3 p4 p5 p6 p7 p8 p9 l (b * 2) = nd p0 p1 p2 p3 p4 p5 p6 p7 p8 p9 l 0 b := by
    intro b b0
    unfold gI; rw [h2, show b * 2 % 2 = 0 by omega, show b * 2 / 2 = b by omega]
  have hg1 : ∀ b : Int, 0 ≤ b → gI p0 p1 p2 p3 p4 p5 p6 p7 p8 p9 l (b * 2 + 1) = nd p0 p1 p2 p3 p4 p5 p6 p7 p8 p9 l 1 b := by
    intro b b0
    unfold gI; rw [h2, show (b * 2 + 1) % 2 = 1 by omega, show (b * 2 + 1) / 2 = b by omega]
  have xl : (tbl p3.toNat (nd p0 p1 p2 p3 p4 p5 p6 p7 p8 p9 l 0)).length = p3.toNat := tab_len _ _
  have yl : (tbl p3.toNat (nd p0 p1 p2 p3 p4 p5 p6 p7 p8 p9 l 1)).length = p3.toNat := tab_len _ _
  have hat : ∀ b : Int, 0 ≤ b → b < (tbl p3.toNat (nd p0 p1 p2 p3 p4 p5 p6 p7 p8 p9 l 0)).length → at' (tbl p3.toNat (nd p0 p1 p2 p3 p4 p5 p6 p7 p8 p9 l 0)) b = gI p0 p1 p2 p3 p4 p5 p6 p7 p8 p9 l (b * 2) ∧ at' (tbl p3.toNat (nd p0 p1 p2 p3 p4 p5 p6 p7 p8 p9 l 1)) b = gI p0 p1 p2 p3 p4 p5 p6 p7 p8 p9 l (b * 2 + 1) := by
    intro b b0 b1
    rw [xl] at b1
    rw [tab_at _ _ b b0 b1, tab_at _ _ b b0 b1, hg0 b b0, hg1 b b0]; exact ⟨rfl, rfl⟩
  have hr0 : ∀ i : Int, 0 ≤ i → i < p3 * 2 → -5 ≤ gI p0 p1 p2 p3 p4 p5 p6 p7 p8 p9 l i ∧ gI p0 p1 p2 p3 p4 p5 p6 p7 p8 p9 l i ≤ 15 := by
    intro i i0 i1
    unfold gI; rw [h2]
    exact nd_r hf _ _ (by omega) (by omega)
  have hfl : (tbl (p3.toNat * 2) (gI p0 p1 p2 p3 p4 p5 p6 p7 p8 p9 l)).length = (tbl p3.toNat (nd p0 p1 p2 p3 p4 p5 p6 p7 p8 p9 l 0)).length * 2 := by rw [tab_len, tab_len]
  have hat' : ∀ i : Int, 0 ≤ i → i < ((tbl p3.toNat (nd p0 p1 p2 p3 p4 p5 p6 p7 p8 p9 l 0)).length * 2 : Nat) → at' (tbl (p3.toNat * 2) (gI p0 p1 p2 p3 p4 p5 p6 p7 p8 p9 l)) i = gI p0 p1 p2 p3 p4 p5 p6 p7 p8 p9 l i := by
    intro i i0 i1
    rw [xl] at i1
    exact tab_at _ _ i i0 i1
  obtain ⟨mx, s', a, b, c1, c2, c3, c4, c5, c6, c7, c8, c9, c10, c11, c12⟩ := cut2_w (gI p0 p1 p2 p3 p4 p5 p6 p7 p8 p9 l) p0 p1 p2 p3 p4 p5 p6 p7 p8 p9 (tbl (p3.toNat * 2) (gI p0 p1 p2 p3 p4 p5 p6 p7 p8 p9 l)) (tbl p3.toNat (nd p0 p1 p2 p3 p4 p5 p6 p7 p8 p9 l 0)) (tbl p3.toNat (nd p0 p1 p2 p3 p4 p5 p6 p7 p8 p9 l 1)) (List.replicate (tbl p3.toNat (nd p0 p1 p2 p3 p4 p5 p6 p7 p8 p9 l 0)).length 0) (List.replicate (tbl p3.toNat (nd p0 p1 p2 p3 p4 p5 p6 p7 p8 p9 l 0)).length 0) (by omega) (by omega) (by simp) (by simp) hat (fun i i0 i1 => hr0 i i0 (by omega)) (by omega) hfl hat' (by omega)
  have hne := needs_w hf hm
  have hrw : rows p0 p1 p2 p3 p4 p5 p6 p7 p8 p9 l = [tbl p3.toNat (nd p0 p1 p2 p3 p4 p5 p6 p7 p8 p9 l 0), tbl p3.toNat (nd p0 p1 p2 p3 p4 p5 p6 p7 p8 p9 l 1)] := by unfold rows; rw [h2]; rfl
  rw [hrw] at hne
  have q1 := share2_w (gI p0 p1 p2 p3 p4 p5 p6 p7 p8 p9 l) p0 p1 p2 p3 p4 p5 p6 p7 p8 p9 l (tbl p3.toNat (nd p0 p1 p2 p3 p4 p5 p6 p7 p8 p9 l 0)) (tbl p3.toNat (nd p0 p1 p2 p3 p4 p5 p6 p7 p8 p9 l 1)) (by omega) (by omega) h2 (by omega) hp7.2.2 hat (fun i i0 i1 => hr0 i i0 (by omega)) hne a b (by omega) (by omega) c1
  have hrn := refneeds_w hf
  rw [hN] at hrn
  have q2 := rshare_w (gI p0 p1 p2 p3 p4 p5 p6 p7 p8 p9 l) p0 p1 p2 p3 p4 p5 p6 p7 p8 p9 l (tbl (p3.toNat * 2) (gI p0 p1 p2 p3 p4 p5 p6 p7 p8 p9 l)) ((tbl p3.toNat (nd p0 p1 p2 p3 p4 p5 p6 p7 p8 p9 l 0)).length * 2) (by omega) (by omega) hfl hp7.2.2 hat' (fun i i0 i1 => hr0 i i0 (by omega)) hrn mx s' _ _ a b c2 c3 (by omega) (by omega) (by omega) c12
  refine ⟨_, _, q1, by rw [h2]; rfl, q2, ?_, ?_⟩
  · rw [xl]
    generalize (share (gI p0 p1 p2 p3 p4 p5 p6 p7 p8 p9 l) (p3.toNat * 2) p7 a b).2 = z
    refine same_w _ _ p3.toNat 2 (by omega) (by omega) rfl (fun c k0 k1 => ?_) (by rw [tab_len]) (fun b c hb hc => ?_)
    · rcases (by omega : c = 0 ∨ c = 1) with rfl | rfl <;> exact tab_len _ _
    · rw [tab_at _ _ _ (by omega) (by omega)]
      rcases (by omega : c = 0 ∨ c = 1) with rfl | rfl
      · show at' (tbl p3.toNat (R0 z)) b = _
        rw [tab_at _ _ _ (by omega) (by omega)]; unfold R0; congr 1
      · show at' (tbl p3.toNat (R1 z)) b = _
        rw [tab_at _ _ _ (by omega) (by omega)]; unfold R1; congr 1
  · rw [hN, hrw]
    refine same_w _ _ p3.toNat 2 (by omega) (by omega) rfl (fun c k0 k1 => ?_) (by rw [tab_len]) (fun b c hb hc => ?_)
    · rcases (by omega : c = 0 ∨ c = 1) with rfl | rfl <;> exact tab_len _ _
    · rw [tab_at _ _ _ (by omega) (by omega)]
      rcases (by omega : c = 0 ∨ c = 1) with rfl | rfl
      · show at' (tbl p3.toNat (nd p0 p1 p2 p3 p4 p5 p6 p7 p8 p9 l 0)) b = _
        rw [tab_at _ _ _ (by omega) (by omega), ← hg0 _ (by omega)]; congr 1
      · show at' (tbl p3.toNat (nd p0 p1 p2 p3 p4 p5 p6 p7 p8 p9 l 1)) b = _
        rw [tab_at _ _ _ (by omega) (by omega), ← hg1 _ (by omega)]; congr 1
theorem shares_w (p0 p1 p2 p3 p4 p5 p6 p7 p8 p9 : Int) (l : List (List Int)) : psalterylaw12_AllocShares 300 p0 p1 p2 p3 p4 p5 p6 p7 p8 p9 l = some true :=
  shares_of p0 p1 p2 p3 p4 p5 p6 p7 p8 p9 l fun hf hm => (fit hf).2.1.elim (main1 p0 p1 p2 p3 p4 p5 p6 p7 p8 p9 l hf hm) (main2 p0 p1 p2 p3 p4 p5 p6 p7 p8 p9 l hf hm)
end
end Go.Fo
