/- What two ends can, and which of two formats is better: the plain facts. -/
import Derived.Test.YtcaehpgdcjonfaaCaR
namespace Go.Fo
theorem al24 : psalterylaw24_alive 300 = some true := by kernel_rfl
def psl (a b : Int) : Unit ⊕ Bool := if 20 ≤ a ∧ a ≤ b ∧ b ≤ 120 then .inl () else .inr false
def pss (a b : Int) : Unit ⊕ Bool := if 2 ≤ a ∧ a ≤ b ∧ b ≤ 250 then .inl () else .inr false
theorem refchk_w (p0 p1 p2 p3 p4 p5 p6 p7 p8 p9 p10 p11 p12 p13 p14 : Int) : psalteryref23_Check 300 p0 p1 p2 p3 p4 p5 p6 p7 p8 p9 p10 p11 p12 p13 p14 = some (chk p0 p1 p2 p3 p4 p5 p6 p7 p8 p9 p10 p11 p12 p13 p14) := by
  unfold psalteryref23_Check
  dsimp only
  rcases Bool.eq_false_or_eq_true (z8 p0 p1 p2 p3 p4 p5 p6 p7) with e8 | e8 <;> rcases Bool.eq_false_or_eq_true (z5 p8 p9 p10 p11 p12) with e5 | e5 <;> rw [show ((p0 == 0) && ((p1 == 0) && ((p2 == 0) && ((p3 == 0) && ((p4 == 0) && ((p5 == 0) && ((p6 == 0) && ((p7 == 0))))))))) = _ from e8, show ((p8 == 0) && ((p9 == 0) && ((p10 == 0) && ((p11 == 0) && ((p12 == 0)))))) = _ from e5] <;> simp only [cond_true, cond_false, Bool.not_true, Bool.not_false, Option.bind_some]
  · exact (by rw [show chk p0 p1 p2 p3 p4 p5 p6 p7 p8 p9 p10 p11 p12 p13 p14 = false from eq_false_of_ne_true fun h => by unfold chk mayS mayL at h; rw [e8, e5] at h; simp only [Bool.and_eq_true, Bool.or_eq_true, Bool.not_true, Bool.not_false, Bool.false_eq_true, false_or, true_or, or_true, or_false, true_and, and_true, false_and, and_false, span_t, set_t] at h <;> omega])
  · by_cases hq : 1 ≤ p13 ∧ p13 ≤ 16 ∧ 1 ≤ p14 ∧ p14 ≤ 8
    · refine bif_eq_f (by refine eq_false_of_ne_true fun h => ?_; simp only [Bool.cond_true_left, Bool.or_eq_true, decide_eq_true_eq] at h; omega) ?_
      by_cases hL : 1 ≤ p8 ∧ p8 ≤ 15 ∧ 1 ≤ p9 ∧ p9 ≤ 3 ∧ 1 ≤ p10 ∧ p10 ≤ 15
      · refine bnd_eq (x := psl p11 p12) (bif_eq_f (by refine eq_false_of_ne_true fun h => ?_; simp only [Bool.cond_true_left, Bool.or_eq_true, decide_eq_true_eq] at h; omega) ?_) ?_
        · by_cases hM : 20 ≤ p11 ∧ p11 ≤ p12 ∧ p12 ≤ 120
          · rw [show psl p11 p12 = .inl () from if_pos hM]; exact bif_eq_f (by refine eq_false_of_ne_true fun h => ?_; simp only [Bool.cond_true_left, Bool.or_eq_true, decide_eq_true_eq] at h; omega) rfl
          · rw [show psl p11 p12 = .inr false from if_neg hM]; exact bif_eq_t (by refine eq_true_of_ne_false fun h => ?_; simp only [Bool.cond_true_left, Bool.or_eq_false_iff, decide_eq_false_iff_not] at h; omega) rfl
        · by_cases hM : 20 ≤ p11 ∧ p11 ≤ p12 ∧ p12 ≤ 120
          · rw [show psl p11 p12 = .inl () from if_pos hM]; exact (by rw [show chk p0 p1 p2 p3 p4 p5 p6 p7 p8 p9 p10 p11 p12 p13 p14 = true by unfold chk mayS mayL; rw [e8, e5]; simp only [Bool.and_eq_true, Bool.or_eq_true, Bool.not_true, Bool.not_false, Bool.false_eq_true, false_or, true_or, or_true, or_false, true_and, and_true, false_and, and_false, span_t, set_t] <;> omega])
          · rw [show psl p11 p12 = .inr false from if_neg hM]; exact (by rw [show chk p0 p1 p2 p3 p4 p5 p6 p7 p8 p9 p10 p11 p12 p13 p14 = false from eq_false_of_ne_true fun h => by unfold chk mayS mayL at h; rw [e8, e5] at h; simp only [Bool.and_eq_true, Bool.or_eq_true, Bool.not_true, Bool.not_false, Bool.false_eq_true, false_or, true_or, or_true, or_false, true_and, and_true, false_and, and_false, span_t, set_t] at h <;> omega])
      · exact (bnd_eq (bif_eq_t (by refine eq_true_of_ne_false fun h => ?_; simp only [Bool.cond_true_left, Bool.or_eq_false_iff, decide_eq_false_iff_not] at h; omega) rfl) rfl).trans (by rw [show chk p0 p1 p2 p3 p4 p5 p6 p7 p8 p9 p10 p11 p12 p13 p14 = false from eq_false_of_ne_true fun h => by unfold chk mayS mayL at h; rw [e8, e5] at h; simp only [Bool.and_eq_true, Bool.or_eq_true, Bool.not_true, Bool.not_false, Bool.false_eq_true, false_or, true_or, or_true, or_false, true_and, and_true, false_and, and_false, span_t, set_t] at h <;> omega])
    · exact (bif_eq_t (by refine eq_true_of_ne_false fun h => ?_; simp only [Bool.cond_true_left, Bool.or_eq_false_iff, decide_eq_false_iff_not] at h; omega) rfl).trans (by rw [show chk p0 p1 p2 p3 p4 p5 p6 p7 p8 p9 p10 p11 p12 p13 p14 = false from eq_false_of_ne_true fun h => by unfold chk mayS mayL at h; rw [e8, e5] at h; simp only [Bool.and_eq_true, Bool.or_eq_true, Bool.not_true, Bool.not_false, Bool.false_eq_true, false_or, true_or, or_true, or_false, true_and, and_true, false_and, and_false, span_t, set_t] at h <;> omega])
  · by_cases hq : 1 ≤ p13 ∧ p13 ≤ 16 ∧ 1 ≤ p14 ∧ p14 ≤ 8
    · refine bif_eq_f (by refine eq_false_of_ne_true fun h => ?_; simp only [Bool.cond_true_left, Bool.or_eq_true, decide_eq_true_eq] at h; omega) ?_
      by_cases hS : 1 ≤ p0 ∧ p0 ≤ 15 ∧ 1 ≤ p1 ∧ p1 ≤ 3 ∧ 1 ≤ p2 ∧ p2 ≤ 3 ∧ 1 ≤ p3 ∧ p3 ≤ 15 ∧ 1 ≤ p4 ∧ p4 ≤ 3 ∧ 1 ≤ p5 ∧ p5 ≤ 3
      · refine bnd_eq (x := pss p6 p7) (bif_eq_f (by refine eq_false_of_ne_true fun h => ?_; simp only [Bool.cond_true_left, Bool.or_eq_true, decide_eq_true_eq] at h; omega) ?_) ?_
        · by_cases hM : 2 ≤ p6 ∧ p6 ≤ p7 ∧ p7 ≤ 250
          · rw [show pss p6 p7 = .inl () from if_pos hM]; exact bif_eq_f (by refine eq_false_of_ne_true fun h => ?_; simp only [Bool.cond_true_left, Bool.or_eq_true, decide_eq_true_eq] at h; omega) rfl
          · rw [show pss p6 p7 = .inr false from if_neg hM]; exact bif_eq_t (by refine eq_true_of_ne_false fun h => ?_; simp only [Bool.cond_true_left, Bool.or_eq_false_iff, decide_eq_false_iff_not] at h; omega) rfl
        · by_cases hN : 2 ≤ p6 ∧ p6 ≤ p7 ∧ p7 ≤ 250
          · rw [show pss p6 p7 = .inl () from if_pos hN]
            dsimp only
            exact (by rw [show chk p0 p1 p2 p3 p4 p5 p6 p7 p8 p9 p10 p11 p12 p13 p14 = true by unfold chk mayS mayL; rw [e8, e5]; simp only [Bool.and_eq_true, Bool.or_eq_true, Bool.not_true, Bool.not_false, Bool.false_eq_true, false_or, true_or, or_true, or_false, true_and, and_true, false_and, and_false, span_t, set_t] <;> omega])
          · rw [show pss p6 p7 = .inr false from if_neg hN]; exact (by rw [show chk p0 p1 p2 p3 p4 p5 p6 p7 p8 p9 p10 p11 p12 p13 p14 = false from eq_false_of_ne_true fun h => by unfold chk mayS mayL at h; rw [e8, e5] at h; simp only [Bool.and_eq_true, Bool.or_eq_true, Bool.not_true, Bool.not_false, Bool.false_eq_true, false_or, true_or, or_true, or_false, true_and, and_true, false_and, and_false, span_t, set_t] at h <;> omega])
      · exact (bnd_eq (bif_eq_t (by refine eq_true_of_ne_false fun h => ?_; simp only [Bool.cond_true_left, Bool.or_eq_false_iff, decide_eq_false_iff_not] at h; omega) rfl) rfl).trans (by rw [show chk p0 p1 p2 p3 p4 p5 p6 p7 p8 p9 p10 p11 p12 p13 p14 = false from eq_false_of_ne_true fun h => by unfold chk mayS mayL at h; rw [e8, e5] at h; simp only [Bool.and_eq_true, Bool.or_eq_true, Bool.not_true, Bool.not_false, Bool.false_eq_true, false_or, true_or, or_true, or_false, true_and, and_true, false_and, and_false, span_t, set_t] at h <;> omega])
    · exact (bif_eq_t (by refine eq_true_of_ne_false fun h => ?_; simp only [Bool.cond_true_left, Bool.or_eq_false_iff, decide_eq_false_iff_not] at h; omega) rfl).trans (by rw [show chk p0 p1 p2 p3 p4 p5 p6 p7 p8 p9 p10 p11 p12 p13 p14 = false from eq_false_of_ne_true fun h => by unfold chk mayS mayL at h; rw [e8, e5] at h; simp only [Bool.and_eq_true, Bool.or_eq_true, Bool.not_true, Bool.not_false, Bool.false_eq_true, false_or, true_or, or_true, or_false, true_and, and_true, false_and, and_false, span_t, set_t] at h <;> omega])
  · by_cases hq : 1 ≤ p13 ∧ p13 ≤ 16 ∧ 1 ≤ p14 ∧ p14 ≤ 8
    · refine bif_eq_f (by refine eq_false_of_ne_true fun h => ?_; simp only [Bool.cond_true_left, Bool.or_eq_true, decide_eq_true_eq] at h; omega) ?_
      by_cases hS : 1 ≤ p0 ∧ p0 ≤ 15 ∧ 1 ≤ p1 ∧ p1 ≤ 3 ∧ 1 ≤ p2 ∧ p2 ≤ 3 ∧ 1 ≤ p3 ∧ p3 ≤ 15 ∧ 1 ≤ p4 ∧ p4 ≤ 3 ∧ 1 ≤ p5 ∧ p5 ≤ 3
      · refine bnd_eq (x := pss p6 p7) (bif_eq_f (by refine eq_false_of_ne_true fun h => ?_; simp only [Bool.cond_true_left, Bool.or_eq_true, decide_eq_true_eq] at h; omega) ?_) ?_
        · by_cases hM : 2 ≤ p6 ∧ p6 ≤ p7 ∧ p7 ≤ 250
          · rw [show pss p6 p7 = .inl () from if_pos hM]; exact bif_eq_f (by refine eq_false_of_ne_true fun h => ?_; simp only [Bool.cond_true_left, Bool.or_eq_true, decide_eq_true_eq] at h; omega) rfl
          · rw [show pss p6 p7 = .inr false from if_neg hM]; exact bif_eq_t (by refine eq_true_of_ne_false fun h => ?_; simp only [Bool.cond_true_left, Bool.or_eq_false_iff, decide_eq_false_iff_not] at h; omega) rfl
        · by_cases hN : 2 ≤ p6 ∧ p6 ≤ p7 ∧ p7 ≤ 250
          · rw [show pss p6 p7 = .inl () from if_pos hN]
            dsimp only
            by_cases hL : 1 ≤ p8 ∧ p8 ≤ 15 ∧ 1 ≤ p9 ∧ p9 ≤ 3 ∧ 1 ≤ p10 ∧ p10 ≤ 15
            · refine bnd_eq (x := psl p11 p12) (bif_eq_f (by refine eq_false_of_ne_true fun h => ?_; simp only [Bool.cond_true_left, Bool.or_eq_true, decide_eq_true_eq] at h; omega) ?_) ?_
              · by_cases hM : 20 ≤ p11 ∧ p11 ≤ p12 ∧ p12 ≤ 120
                · rw [show psl p11 p12 = .inl () from if_pos hM]; exact bif_eq_f (by refine eq_false_of_ne_true fun h => ?_; simp only [Bool.cond_true_left, Bool.or_eq_true, decide_eq_true_eq] at h; omega) rfl
                · rw [show psl p11 p12 = .inr false from if_neg hM]; exact bif_eq_t (by refine eq_true_of_ne_false fun h => ?_; simp only [Bool.cond_true_left, Bool.or_eq_false_iff, decide_eq_false_iff_not] at h; omega) rfl
              · by_cases hM : 20 ≤ p11 ∧ p11 ≤ p12 ∧ p12 ≤ 120
                · rw [show psl p11 p12 = .inl () from if_pos hM]; exact (by rw [show chk p0 p1 p2 p3 p4 p5 p6 p7 p8 p9 p10 p11 p12 p13 p14 = true by unfold chk mayS mayL; rw [e8, e5]; simp only [Bool.and_eq_true, Bool.or_eq_true, Bool.not_true, Bool.not_false, Bool.false_eq_true, false_or, true_or, or_true, or_false, true_and, and_true, false_and, and_false, span_t, set_t] <;> omega])
                · rw [show psl p11 p12 = .inr false from if_neg hM]; exact (by rw [show chk p0 p1 p2 p3 p4 p5 p6 p7 p8 p9 p10 p11 p12 p13 p14 = false from eq_false_of_ne_true fun h => by unfold chk mayS mayL at h; rw [e8, e5] at h; simp only [Bool.and_eq_true, Bool.or_eq_true, Bool.not_true, Bool.not_false, Bool.false_eq_true, false_or, true_or, or_true, or_false, true_and, and_true, false_and, and_false, span_t, set_t] at h <;> omega])
            · exact (bnd_eq (bif_eq_t (by refine eq_true_of_ne_false fun h => ?_; simp only [Bool.cond_true_left, Bool.or_eq_false_iff, decide_eq_false_iff_not] at h; omega) rfl) rfl).trans (by rw [show chk p0 p1 p2 p3 p4 p5 p6 p7 p8 p9 p10 p11 p12 p13 p14 = false from eq_false_of_ne_true fun h => by unfold chk mayS mayL at h; rw [e8, e5] at h; simp only [Bool.and_eq_true, Bool.or_eq_true, Bool.not_true, Bool.not_false, Bool.false_eq_true, false_or, true_or, or_true, or_false, true_and, and_true, false_and, and_false, span_t, set_t] at h <;> omega])
          · rw [show pss p6 p7 = .inr false from if_neg hN]; exact (by rw [show chk p0 p1 p2 p3 p4 p5 p6 p7 p8 p9 p10 p11 p12 p13 p14 = false from eq_false_of_ne_true fun h => by unfold chk mayS mayL at h; rw [e8, e5] at h; simp only [Bool.and_eq_true, Bool.or_eq_true, Bool.not_true, Bool.not_false, Bool.false_eq_true, false_or, true_or, or_true, or_false, true_and, and_true, false_and, and_false, span_t, set_t] at h <;> omega])
      · exact (bnd_eq (bif_eq_t (by refine eq_true_of_ne_false fun h => ?_; simp only [Bool.cond_true_left, Bool.or_eq_false_iff, decide_eq_false_iff_not] at h; omega) rfl) rfl).trans (by rw [show chk p0 p1 p2 p3 p4 p5 p6 p7 p8 p9 p10 p11 p12 p13 p14 = false from eq_false_of_ne_true fun h => by unfold chk mayS mayL at h; rw [e8, e5] at h; simp only [Bool.and_eq_true, Bool.or_eq_true, Bool.not_true, Bool.not_false, Bool.false_eq_true, false_or, true_or, or_true, or_false, true_and, and_true, false_and, and_false, span_t, set_t] at h <;> omega])
    · exact (bif_eq_t (by refine eq_true_of_ne_false fun h => ?_; simp only [Bool.cond_true_left, Bool.or_eq_false_iff, decide_eq_false_iff_not] at h; omega) rfl).trans (by rw [show chk p0 p1 p2 p3 p4 p5 p6 p7 p8 p9 p10 p11 p12 p13 p14 = false from eq_false_of_ne_true fun h => by unfold chk mayS mayL at h; rw [e8, e5] at h; simp only [Bool.and_eq_true, Bool.or_eq_true, Bool.not_true, Bool.not_false, Bool.false_eq_true, false_or, true_or, or_true, or_false, true_and, and_true, false_and, and_false, span_t, set_t] at h <;> omega])
theorem ne_self (x : Int) : (x != x) = false := by simp
theorem cmp_w (x y : Int) : cmp_Compare_int 300 x y = some (bif decide (x < y) then -1 else bif decide (x > y) then 1 else 0) := by
  refine bnd_eq (x := false) (congrArg some (ne_self x)) (bnd_eq (x := false) (congrArg some (ne_self y)) ?_)
  refine bif_eq_f rfl (bif_eq_f rfl ?_)
  cases decide (x < y) <;> cases decide (x > y) <;> rfl
theorem comp_l (a b : List Int) (n : Int) (ha : (a.length : Int) = n) (hb : (b.length : Int) = n) (hn : n ≤ 20) (k : Nat) : ∀ (m m' : Nat) (i : Int), k < m → k < m' → 0 ≤ i → i + k = n →
    (∃ r : Int, slices_Compare_int_int.l0 300 a b n m i = some (.inr r) ∧ psalteryref24_Better.l0 300 a b m' i = some (.inr (decide (r > 0)))) ∨ (slices_Compare_int_int.l0 300 a b n m i = some (.inl ()) ∧ psalteryref24_Better.l0 300 a b m' i = some (.inl ())) := by
  induction k with
  | zero =>
    intro m m' i h h' h0 h1
    obtain ⟨m, rfl⟩ : ∃ q, m = q + 1 := ⟨m - 1, by omega⟩
    obtain ⟨m', rfl⟩ : ∃ q, m' = q + 1 := ⟨m' - 1, by omega⟩
    right
    constructor
    · show slices_Compare_int_int.r0 300 a b n (slices_Compare_int_int.l0 300 a b n m) i = _
      exact bif_eq_f (decide_eq_false (by omega)) rfl
    · show psalteryref24_Better.r0 300 a b (psalteryref24_Better.l0 300 a b m') i = _
      exact bif_eq_f (decide_eq_false (by omega)) rfl
  | succ k ih =>
    intro m m' i h h' h0 h1
    obtain ⟨m, rfl⟩ : ∃ q, m = q + 1 := ⟨m - 1, by omega⟩
    obtain ⟨m', rfl⟩ : ∃ q, m' = q + 1 := ⟨m' - 1, by omega⟩
    have st : ∀ (r : Option (Unit ⊕ Int)), (bif ((bif decide (Kd.nth (.int .i64) a (Int.toNat i) < Kd.nth (.int .i64) b (Int.toNat i)) then -1 else bif decide (Kd.nth (.int .i64) a (Int.toNat i) > Kd.nth (.int .i64) b (Int.toNat i)) then 1 else 0) != (0 : Int)) then some (.inr (bif decide (Kd.nth (.int .i64) a (Int.toNat i) < Kd.nth (.int .i64) b (Int.toNat i)) then -1 else bif decide (Kd.nth (.int .i64) a (Int.toNat i) > Kd.nth (.int .i64) b (Int.toNat i)) then 1 else 0)) else slices_Compare_int_int.l0 300 a b n m (i + 1)) = r → slices_Compare_int_int.l0 300 a b n (m + 1) i = r := by
      intro r hr
      show slices_Compare_int_int.r0 300 a b n (slices_Compare_int_int.l0 300 a b n m) i = r
      refine bif_eq_t (decide_eq_true (by omega)) (gd_eq ⟨h0, by omega⟩ (bif_eq_f (decide_eq_false (by omega)) (gd_eq ⟨h0, by omega⟩ (bnd_eq (cmp_w _ _) ?_))))
      rw [kw_i64 (by omega) (by omega)]
      exact hr
    have sr : ∀ (r : Option (Unit ⊕ Bool)), (bif (Kd.nth (.int .i64) a (Int.toNat i) != Kd.nth (.int .i64) b (Int.toNat i)) then some (.inr (decide (Kd.nth (.int .i64) a (Int.toNat i) > Kd.nth (.int .i64) b (Int.toNat i)))) else psalteryref24_Better.l0 300 a b m' (i + 1)) = r → psalteryref24_Better.l0 300 a b (m' + 1) i = r := by
      intro r hr
      show psalteryref24_Better.r0 300 a b (psalteryref24_Better.l0 300 a b m') i = r
      refine bif_eq_t (decide_eq_true (by omega)) (gd_eq ⟨h0, by omega⟩ (gd_eq (by omega) (gd_eq ⟨h0, by omega⟩ (gd_eq (by omega) ?_))))
      refine Eq.trans ?_ hr
      rcases Bool.eq_false_or_eq_true (Kd.nth (.int .i64) a (Int.toNat i) != Kd.nth (.int .i64) b (Int.toNat i)) with e | e
      · rw [e]
        exact bif_eq_t rfl (gd_eq ⟨h0, by omega⟩ (gd_eq (by omega) (gd_eq ⟨h0, by omega⟩ (gd_eq (by omega) rfl))))
      · rw [e]
        refine bif_eq_f rfl ?_
        rw [kw_i64 (by omega) (by omega)]; rfl
    obtain ⟨x, hx⟩ : ∃ x : Int, Kd.nth (.int .i64) a (Int.toNat i) = x := ⟨_, rfl⟩
    obtain ⟨y, hy⟩ : ∃ y : Int, Kd.nth (.int .i64) b (Int.toNat i) = y := ⟨_, rfl⟩
    rw [hx, hy] at st sr
    clear hx hy
    rcases Int.lt_trichotomy x y with c | c | c
    · left
      refine ⟨-1, st _ ?_, sr _ ?_⟩
      · rw [decide_eq_true c]; rfl
      · refine bif_eq_t (bne_iff_ne.2 (Int.ne_of_lt c)) ?_
        rw [decide_eq_false (by omega : ¬ x > y)]; rfl
    · subst c
      rcases ih m m' (i + 1) (by omega) (by omega) (by omega) (by omega) with ⟨r, q1, q2⟩ | ⟨q1, q2⟩
      · left
        refine ⟨r, st _ ?_, sr _ ?_⟩
        · rw [decide_eq_false (by omega : ¬ x < x)]; exact q1
        · exact bif_eq_f (ne_self x) q2
      · right
        refine ⟨st _ ?_, sr _ ?_⟩
        · rw [decide_eq_false (by omega : ¬ x < x)]; exact q1
        · exact bif_eq_f (ne_self x) q2
    · left
      refine ⟨1, st _ ?_, sr _ ?_⟩
      · rw [decide_eq_false (by omega : ¬ x < y), decide_eq_true (by omega : x > y)]; rfl
      · refine bif_eq_t (bne_iff_ne.2 (Int.ne_of_gt c)) ?_
        rw [decide_eq_true (by omega : x > y)]; rfl
theorem better_w (p30 p31 p32 p33 p34 p35 p36 p37 p38 p39 p40 p41 p42 p43 p44 p45 p46 p47 p48 p49 : Int) : ∃ b, offer_Better 300 p30 p31 p32 p33 p34 p35 p36 p37 p38 p39 p40 p41 p42 p43 p44 p45 p46 p47 p48 p49 = some b ∧ psalteryref24_Better 300 p30 p31 p32 p33 p34 p35 p36 p37 p38 p39 p40 p41 p42 p43 p44 p45 p46 p47 p48 p49 = some b := by
  rcases comp_l [p30, p32, p31, p38, p39, p33, p34, p36, p35, p37] [p40, p42, p41, p48, p49, p43, p44, p46, p45, p47] 10 rfl rfl (by decide) 10 300 300 0 (by decide) (by decide) (by decide) (by decide) with ⟨r, q1, q2⟩ | ⟨q1, q2⟩
  · refine ⟨decide (r > 0), bnd_eq rfl (bnd_eq rfl (bnd_eq (x := r) (bnd_eq q1 rfl) rfl)), bnd_eq q2 rfl⟩
  · exact ⟨false, bnd_eq rfl (bnd_eq rfl (bnd_eq (x := 0) (bnd_eq q1 rfl) rfl)), bnd_eq q2 rfl⟩
theorem both_all : (List.range 16).all (fun a => (List.range 16).all fun b => decide (psalteryref24_both 300 (a : Int) (b : Int) = some (kand .i64 (a : Int) (b : Int)) ∧ 0 ≤ kand .i64 (a : Int) (b : Int))) = true := by kernel_rfl
theorem both_w (x y : Int) (h : 0 ≤ x ∧ x ≤ 15) (k : 0 ≤ y ∧ y ≤ 15) : psalteryref24_both 300 x y = some (kand .i64 x y) ∧ 0 ≤ kand .i64 x y := by
  have := of_decide_eq_true (List.all_eq_true.1 (List.all_eq_true.1 both_all x.toNat (List.mem_range.2 (by omega))) y.toNat (List.mem_range.2 (by omega)))
  rw [Int.toNat_of_nonneg h.1, Int.toNat_of_nonneg k.1] at this
  exact this
theorem chk_rng (p0 p1 p2 p3 p4 p5 p6 p7 p8 p9 p10 p11 p12 p13 p14 : Int) (h : chk p0 p1 p2 p3 p4 p5 p6 p7 p8 p9 p10 p11 p12 p13 p14 = true) : (0 ≤ p0 ∧ p0 ≤ 15) ∧ (0 ≤ p1 ∧ p1 ≤ 15) ∧ (0 ≤ p2 ∧ p2 ≤ 15) ∧ (0 ≤ p3 ∧ p3 ≤ 15) ∧ (0 ≤ p4 ∧ p4 ≤ 15) ∧ (0 ≤ p5 ∧ p5 ≤ 15) ∧ (0 ≤ p8 ∧ p8 ≤ 15) ∧ (0 ≤ p9 ∧ p9 ≤ 15) ∧ (0 ≤ p10 ∧ p10 ≤ 15) := by
  unfold chk mayS mayL at h
  simp only [Bool.and_eq_true, Bool.or_eq_true, set_t, span_t] at h
  obtain ⟨_, h1, h2, _⟩ := h
  have g1 : (0 ≤ p0 ∧ p0 ≤ 15) ∧ (0 ≤ p1 ∧ p1 ≤ 15) ∧ (0 ≤ p2 ∧ p2 ≤ 15) ∧ (0 ≤ p3 ∧ p3 ≤ 15) ∧ (0 ≤ p4 ∧ p4 ≤ 15) ∧ (0 ≤ p5 ∧ p5 ≤ 15) := by
    rcases h1 with h1 | h1
    · unfold z8 at h1
      simp only [Bool.and_eq_true, beq_iff_eq] at h1
      omega
    · omega
  have g2 : (0 ≤ p8 ∧ p8 ≤ 15) ∧ (0 ≤ p9 ∧ p9 ≤ 15) ∧ (0 ≤ p10 ∧ p10 ≤ 15) := by
    rcases h2 with h2 | h2
    · unfold z5 at h2
      simp only [Bool.and_eq_true, beq_iff_eq] at h2
      omega
    · omega
  omega
theorem pos_not (x : Int) (h : 0 ≤ x) : decide (x > 0) = !(x == 0) := by
  by_cases e : x = 0
  · subst e; rfl
  · rw [decide_eq_true (by omega)]; simp [e]
theorem le_not (x y : Int) : decide (x ≤ y) = !decide (x > y) := by
  by_cases e : x ≤ y
  · rw [decide_eq_true e, decide_eq_false (by omega)]; rfl
  · rw [decide_eq_false e, decide_eq_true (by omega)]; rfl
theorem meet_w (p0 p1 p2 p3 p4 p5 p6 p7 p8 p9 p10 p11 p12 p13 p14 p15 p16 p17 p18 p19 p20 p21 p22 p23 p24 p25 p26 p27 p28 p29 : Int) (h : chk p0 p1 p2 p3 p4 p5 p6 p7 p8 p9 p10 p11 p12 p13 p14 = true) (k : chk p15 p16 p17 p18 p19 p20 p21 p22 p23 p24 p25 p26 p27 p28 p29 = true) : ∃ t, offer_Meet 300 p0 p1 p2 p3 p4 p5 p6 p7 p8 p9 p10 p11 p12 p13 p14 p15 p16 p17 p18 p19 p20 p21 p22 p23 p24 p25 p26 p27 p28 p29 = some t ∧ psalteryref24_Meet 300 p0 p1 p2 p3 p4 p5 p6 p7 p8 p9 p10 p11 p12 p13 p14 p15 p16 p17 p18 p19 p20 p21 p22 p23 p24 p25 p26 p27 p28 p29 = some t := by
  obtain ⟨a0, a1, a2, a3, a4, a5, a8, a9, a10⟩ := chk_rng p0 p1 p2 p3 p4 p5 p6 p7 p8 p9 p10 p11 p12 p13 p14 h
  obtain ⟨b0, b1, b2, b3, b4, b5, b8, b9, b10⟩ := chk_rng p15 p16 p17 p18 p19 p20 p21 p22 p23 p24 p25 p26 p27 p28 p29 k
  obtain ⟨q0, n0⟩ := both_w p0 p15 a0 b0
  obtain ⟨q1, n1⟩ := both_w p1 p16 a1 b1
  obtain ⟨q2, n2⟩ := both_w p2 p17 a2 b2
  obtain ⟨q3, n3⟩ := both_w p3 p18 a3 b3
  obtain ⟨q4, n4⟩ := both_w p4 p19 a4 b4
  obtain ⟨q5, n5⟩ := both_w p5 p20 a5 b5
  obtain ⟨q8, n8⟩ := both_w p8 p23 a8 b8
  obtain ⟨q9, n9⟩ := both_w p9 p24 a9 b9
  obtain ⟨q10, n10⟩ := both_w p10 p25 a10 b10
  have hs : ∀ b, (bif (bif (bif (bif (bif (bif (kand .i64 p0 p15 == 0) then true else (kand .i64 p1 p16 == 0)) then true else (kand .i64 p2 p17 == 0)) then true else (kand .i64 p3 p18 == 0)) then true else (kand .i64 p4 p19 == 0)) then true else (kand .i64 p5 p20 == 0)) then true else decide ((imax p6 p21) > (imin p7 p22))) = b → (bif (bif (bif (bif (bif (bif decide (kand .i64 p0 p15 > 0) then decide (kand .i64 p1 p16 > 0) else false) then decide (kand .i64 p2 p17 > 0) else false) then decide (kand .i64 p3 p18 > 0) else false) then decide (kand .i64 p4 p19 > 0) else false) then decide (kand .i64 p5 p20 > 0) else false) then decide ((imax p6 p21) ≤ (imin p7 p22)) else false) = !b := by
    rintro b rfl
    rw [pos_not _ n0, pos_not _ n1, pos_not _ n2, pos_not _ n3, pos_not _ n4, pos_not _ n5, le_not]
    cases (kand .i64 p0 p15 == 0) <;> cases (kand .i64 p1 p16 == 0) <;> cases (kand .i64 p2 p17 == 0) <;> cases (kand .i64 p3 p18 == 0) <;> cases (kand .i64 p4 p19 == 0) <;> cases (kand .i64 p5 p20 == 0) <;> rfl
  have hl : ∀ b, (bif (bif (bif (kand .i64 p8 p23 == 0) then true else (kand .i64 p9 p24 == 0)) then true else (kand .i64 p10 p25 == 0)) then true else decide ((imax p11 p26) > (imin p12 p27))) = b → (bif (bif (bif decide (kand .i64 p8 p23 > 0) then decide (kand .i64 p9 p24 > 0) else false) then decide (kand .i64 p10 p25 > 0) else false) then decide ((imax p11 p26) ≤ (imin p12 p27)) else false) = !b := by
    rintro b rfl
    rw [pos_not _ n8, pos_not _ n9, pos_not _ n10, le_not]
    cases (kand .i64 p8 p23 == 0) <;> cases (kand .i64 p9 p24 == 0) <;> cases (kand .i64 p10 p25 == 0) <;> rfl
  have hm : ∀ (r : Option _), ((bif (bif (bif (bif (bif (bif (bif (kand .i64 p0 p15 == 0) then true else (kand .i64 p1 p16 == 0)) then true else (kand .i64 p2 p17 == 0)) then true else (kand .i64 p3 p18 == 0)) then true else (kand .i64 p4 p19 == 0)) then true else (kand .i64 p5 p20 == 0)) then true else decide ((imax p6 p21) > (imin p7 p22))) then some (0, 0, 0, 0, 0, 0, 0, 0) else some (kand .i64 p0 p15, kand .i64 p1 p16, kand .i64 p2 p17, kand .i64 p3 p18, kand .i64 p4 p19, kand .i64 p5 p20, imax p6 p21, imin p7 p22) : Option (Int × Int × Int × Int × Int × Int × Int × Int)).bind fun (x35, x36, x37, x38, x39, x40, x41, x42) =>
        (bif (bif (bif (bif (kand .i64 p8 p23 == 0) then true else (kand .i64 p9 p24 == 0)) then true else (kand .i64 p10 p25 == 0)) then true else decide ((imax p11 p26) > (imin p12 p27))) then some (0, 0, 0, 0, 0) else some (kand .i64 p8 p23, kand .i64 p9 p24, kand .i64 p10 p25, imax p11 p26, imin p12 p27) : Option (Int × Int × Int × Int × Int)).bind fun (x52, x53, x54, x55, x56) =>
          some (x35, x36, x37, x38, x39, x40, x41, x42, x52, x53, x54, x55, x56, imin p13 p28, imin p14 p29)) = r → offer_Meet 300 p0 p1 p2 p3 p4 p5 p6 p7 p8 p9 p10 p11 p12 p13 p14 p15 p16 p17 p18 p19 p20 p21 p22 p23 p24 p25 p26 p27 p28 p29 = r := by
    intro r hr
    refine bnd_eq (x := false) (bnd_eq ((chk_w p0 p1 p2 p3 p4 p5 p6 p7 p8 p9 p10 p11 p12 p13 p14).trans (by rw [h])) (bif_eq_f rfl (bnd_eq ((chk_w p15 p16 p17 p18 p19 p20 p21 p22 p23 p24 p25 p26 p27 p28 p29).trans (by rw [k])) rfl))) ?_
    exact bif_eq_f rfl hr
  rcases Bool.eq_false_or_eq_true (bif (bif (bif (bif (bif (bif (kand .i64 p0 p15 == 0) then true else (kand .i64 p1 p16 == 0)) then true else (kand .i64 p2 p17 == 0)) then true else (kand .i64 p3 p18 == 0)) then true else (kand .i64 p4 p19 == 0)) then true else (kand .i64 p5 p20 == 0)) then true else decide ((imax p6 p21) > (imin p7 p22))) with e | e <;> rcases Bool.eq_false_or_eq_true (bif (bif (bif (kand .i64 p8 p23 == 0) then true else (kand .i64 p9 p24 == 0)) then true else (kand .i64 p10 p25 == 0)) then true else decide ((imax p11 p26) > (imin p12 p27))) with e' | e'
  · refine ⟨_, hm _ (bnd_eq (bif_eq_t e rfl) (bnd_eq (bif_eq_t e' rfl) rfl)), ?_⟩
    exact bnd_eq q0 (bnd_eq q1 (bnd_eq q2 (bnd_eq q3 (bnd_eq q4 (bnd_eq q5 (bnd_eq (bif_eq_f (hs true e) rfl) (bnd_eq q8 (bnd_eq q9 (bnd_eq q10 (bnd_eq (bif_eq_f (hl true e') rfl) rfl))))))))))
  · refine ⟨_, hm _ (bnd_eq (bif_eq_t e rfl) (bnd_eq (bif_eq_f e' rfl) rfl)), ?_⟩
    exact bnd_eq q0 (bnd_eq q1 (bnd_eq q2 (bnd_eq q3 (bnd_eq q4 (bnd_eq q5 (bnd_eq (bif_eq_f (hs true e) rfl) (bnd_eq q8 (bnd_eq q9 (bnd_eq q10 (bnd_eq (bif_eq_t (hl false e') rfl) rfl))))))))))
  · refine ⟨_, hm _ (bnd_eq (bif_eq_f e rfl) (bnd_eq (bif_eq_t e' rfl) rfl)), ?_⟩
    exact bnd_eq q0 (bnd_eq q1 (bnd_eq q2 (bnd_eq q3 (bnd_eq q4 (bnd_eq q5 (bnd_eq (bif_eq_t (hs false e) rfl) (bnd_eq q8 (bnd_eq q9 (bnd_eq q10 (bnd_eq (bif_eq_f (hl true e') rfl) rfl))))))))))
  · refine ⟨_, hm _ (bnd_eq (bif_eq_f e rfl) (bnd_eq (bif_eq_f e' rfl) rfl)), ?_⟩
    exact bnd_eq q0 (bnd_eq q1 (bnd_eq q2 (bnd_eq q3 (bnd_eq q4 (bnd_eq q5 (bnd_eq (bif_eq_t (hs false e) rfl) (bnd_eq q8 (bnd_eq q9 (bnd_eq q10 (bnd_eq (bif_eq_t (hl false e') rfl) rfl))))))))))
theorem all_self (x : Int) : (x == x) = true := by simp
theorem meets_w (p0 p1 p2 p3 p4 p5 p6 p7 p8 p9 p10 p11 p12 p13 p14 p15 p16 p17 p18 p19 p20 p21 p22 p23 p24 p25 p26 p27 p28 p29 p30 p31 p32 p33 p34 p35 p36 p37 p38 p39 p40 p41 p42 p43 p44 p45 p46 p47 p48 p49 : Int) : psalterylaw24_OfferMeets 300 p0 p1 p2 p3 p4 p5 p6 p7 p8 p9 p10 p11 p12 p13 p14 p15 p16 p17 p18 p19 p20 p21 p22 p23 p24 p25 p26 p27 p28 p29 p30 p31 p32 p33 p34 p35 p36 p37 p38 p39 p40 p41 p42 p43 p44 p45 p46 p47 p48 p49 = some true := by
  refine bnd_eq al24 (bif_eq_f rfl (bnd_eq rfl (bnd_eq rfl ?_)))
  obtain ⟨b, hb1, hb2⟩ := better_w p30 p31 p32 p33 p34 p35 p36 p37 p38 p39 p40 p41 p42 p43 p44 p45 p46 p47 p48 p49
  rcases Bool.eq_false_or_eq_true (chk p0 p1 p2 p3 p4 p5 p6 p7 p8 p9 p10 p11 p12 p13 p14 && chk p15 p16 p17 p18 p19 p20 p21 p22 p23 p24 p25 p26 p27 p28 p29) with hc | hc
  · have hc' := hc
    simp only [Bool.and_eq_true] at hc'
    obtain ⟨⟨t0, t1, t2, t3, t4, t5, t6, t7, t8, t9, t10, t11, t12, t13, t14⟩, m1, m2⟩ := meet_w p0 p1 p2 p3 p4 p5 p6 p7 p8 p9 p10 p11 p12 p13 p14 p15 p16 p17 p18 p19 p20 p21 p22 p23 p24 p25 p26 p27 p28 p29 hc'.1 hc'.2
    refine bnd_eq m1 (bnd_eq hb1 (bnd_eq hb2 (bif_eq_f (by cases b <;> rfl) (bnd_eq (x := false) ?_ (bif_eq_f rfl (bnd_eq rfl (bnd_eq m2 ?_)))))))
    · exact bnd_eq ((refchk_w p0 p1 p2 p3 p4 p5 p6 p7 p8 p9 p10 p11 p12 p13 p14).trans (by rw [hc'.1])) (bif_eq_f rfl (bnd_eq ((refchk_w p15 p16 p17 p18 p19 p20 p21 p22 p23 p24 p25 p26 p27 p28 p29).trans (by rw [hc'.2])) rfl))
    · dsimp only
      rw [all_self, all_self, all_self, all_self, all_self, all_self, all_self, all_self, all_self, all_self, all_self, all_self, all_self, all_self, all_self]; rfl
  · have m1 : offer_Meet 300 p0 p1 p2 p3 p4 p5 p6 p7 p8 p9 p10 p11 p12 p13 p14 p15 p16 p17 p18 p19 p20 p21 p22 p23 p24 p25 p26 p27 p28 p29 = some (0, 0, 0, 0, 0, 0, 0, 0, 0, 0, 0, 0, 0, 0, 0) := by
      refine bnd_eq (x := true) (bnd_eq (chk_w p0 p1 p2 p3 p4 p5 p6 p7 p8 p9 p10 p11 p12 p13 p14) ?_) (bif_eq_t rfl rfl)
      rcases Bool.eq_false_or_eq_true (chk p0 p1 p2 p3 p4 p5 p6 p7 p8 p9 p10 p11 p12 p13 p14) with c | c
      · rw [c] at hc ⊢
        exact bif_eq_f rfl (bnd_eq ((chk_w p15 p16 p17 p18 p19 p20 p21 p22 p23 p24 p25 p26 p27 p28 p29).trans (by rw [show chk p15 p16 p17 p18 p19 p20 p21 p22 p23 p24 p25 p26 p27 p28 p29 = false from hc])) rfl)
      · rw [c]; rfl
    refine bnd_eq m1 (bnd_eq hb1 (bnd_eq hb2 (bif_eq_f (by cases b <;> rfl) (bnd_eq (x := true) ?_ (bif_eq_t rfl rfl)))))
    refine bnd_eq (refchk_w p0 p1 p2 p3 p4 p5 p6 p7 p8 p9 p10 p11 p12 p13 p14) ?_
    rcases Bool.eq_false_or_eq_true (chk p0 p1 p2 p3 p4 p5 p6 p7 p8 p9 p10 p11 p12 p13 p14) with c | c
    · rw [c] at hc ⊢
      exact bif_eq_f rfl (bnd_eq ((refchk_w p15 p16 p17 p18 p19 p20 p21 p22 p23 p24 p25 p26 p27 p28 p29).trans (by rw [show chk p15 p16 p17 p18 p19 p20 p21 p22 p23 p24 p25 p26 p27 p28 p29 = false from hc])) rfl)
    · rw [c]; rfl
end Go.Fo
