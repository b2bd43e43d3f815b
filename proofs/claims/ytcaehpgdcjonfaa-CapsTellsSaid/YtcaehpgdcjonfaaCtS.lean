/- What can be, its records and what it allows: the plain facts. -/
import Derived.Test.YtcaehpgdcjonfaaCtR
namespace Go.Fo

def psl (a b : Int) : Unit ⊕ Bool := if 20 ≤ a ∧ a ≤ b ∧ b ≤ 120 then .inl () else .inr false
def pss (a b : Int) : Unit ⊕ Bool := if 2 ≤ a ∧ a ≤ b ∧ b ≤ 250 then .inl () else .inr false
theorem refchk_w (p0 p1 p2 p3 p4 p5 p6 p7 p8 p9 p10 p11 p12 p13 p14 : Int) : psalteryref23_Check 300 p0 p1 p2 p3 p4 p5 p6 p7 p8 p9 p10 p11 p12 p13 p14 = some (chk p0 p1 p2 p3 p4 p5 p6 p7 p8 p9 p10 p11 p12 p13 p14) := by
  unfold psalteryref23_Check
  dsimp only
  rcases Bool.eq_false_or_eq_true (z8 p0 p1 p2 p3 p4 p5 p6 p7) with e8 | e8 <;> rcases Bool.eq_false_or_eq_true (z5 p8 p9 p10 p11 p12) with e5 | e5 <;> rw [show ((p0 == 0) && ((p1 == 0) && ((p2 == 0) && ((p3 == 0) && ((p4 == 0) && ((p5 == 0) && ((p6 == 0) && ((p7 == 0))))))))) = _ from e8, show ((p8 == 0) && ((p9 == 0) && ((p10 == 0) && ((p11 == 0) && ((p12 == 0)))))) = _ from e5] <;> simp only [cond_true, cond_false, Bool.not_true, Bool.not_false, Option.bind_some]
  · exact (by rw [show chk p0 p1 p2 p3 p4 p5 p6 p7 p8 p9 p10 p11 p12 p13 p14 = false from eq_false_of_ne_true fun h => by unfold chk mayS mayL at h; rw [e8, e5] at h; simp only [Bool.and_eq_true, Bool.or_eq_true, Bool.not_true, Bool.not_false, Bool.false_eq_true, false_or, true_or, or_true, or_false, true_and, and_true, false_and, and_false, span_t, set_t] at h <;> omega])
  · by_cases hq : 1 ≤ p13 ∧ p13 ≤ 16 ∧ 1 ≤ p14 ∧ p14 ≤ 8
    · refine bif_eq_f (by refine eq_false_of_ne_true fun h => ?_; simp only [Bool.cond_true_left, Bool.or_eq_true, decide_eq_true_eq] at h; omega) ?_
      by_cases hL : 1 ≤ p8 ∧ p8 ≤ 15 ∧ 1 ≤ p9 ∧ p9 ≤ 3 ∧ 1 ≤ p10 ∧ p10 ≤ 15
      · refine bnd_eq (x := psl p11 p12) (bif_eq_f (by refine eq_false_of_ne_true fun h => ?_; simp only [Bool.cond_true_left, Bool.or_eq_true, decide_eq_true_eq] at h; omega) ?_) ?_
        · by_cases hM : 20 ≤ p11 ∧ p11 ≤ p12 ∧ p12 ≤ 120
          · rw [show psl p11 p12 = .inl () from if_pos hM]; exact bif_eq_f (by refine eq_false_of_ne_true fun h => ?_; simp only [Bool.cond_true_left, Bool.or_eq_true, decide_eq_true_eq] at h; omega) rfl
          · rw [show psl p11 p12 = .inr false from if_neg hM]; exact bif_eq_t (by refine eq_true_of_ne_false fun h => ?_; simp only [Bool.cond_true_left, Bool.or_eq_false_iff, decide_eq_false_iff_not] at h; omega) rfl
        · by_cases hM : 20 ≤ p11 ∧ p11 ≤ p12 ∧ p12 ≤ 120
          · rw [show psl p11 p12 = .inl () from if_pos hM]; exact (by rw [show chk p0 p1 p2 p3 p4 p5 p6 p7 p8 p9 p10 p11 p12 p13 p14 = true by unfold chk mayS mayL; rw [e8, e5]; simp only [Bool.and_eq_true, Bool.or_eq_true, Bool.not_true, Bool.not_false, Bool.false_eq_true, false_or, true_or, or_true, or_false, true_and, and_true, false_and, and_false, span_t, set_t] <;> omega])
          · rw [show psl p11 p12 = .inr false from if_neg hM]; exact (by rw [show chk p0 p1 p2 p3 p4 p5 p6 p7 p8 p9 p10 p11 p12 p13 p14 = false from eq_false_of_ne_true fun h => by unfold chk mayS mayL at h; rw [e8, e5] at h; simp only [Bool.and_eq_true, Bool.or_eq_true, Bool.not_true, Bool.not_false, Bool.false_eq_true, false_or, true_or, or_true, or_false, true_and, and_true, false_and, and_false, span_t, set_t] at h <;> omega])
      · exact (bnd_eq (bif_eq_t (by refine eq_true_of_ne_false fun h => ?_; simp only [Bool.cond_true_left, Bool.or_eq_false_iff, decide_eq_false_iff_not] at h; omega) rfl) rfl).trans (by rw [show chk p0 p1 p2 p3 p4 p5 p6 p7 p8 p9 p10 p11 p12 p13 p14 = false from eq_false_of_ne_true fun h => by unfold chk mayS mayL at h; rw [e8, e5] at h; simp only [Bool.and_eq_true, Bool.or_eq_true, Bool.not_true, Bool.not_false, Bool.false_eq_true, false_or, true_or, or_true, or_false, true_and, and_true, false_and, and_false, span_t, set_t] at h <;> omega])
    · exact (bif_eq_t (by refine eq_true_of_ne_false fun h => ?_; simp only [Bool.cond_true_left, Bool.or_eq_false_iff, decide_eq_false_iff_not] at h; omega) rfl).trans (by rw [show chk p0 p1 p2 p3 p4 p5 p6 p7 p8 p9 p10 p11 p12 p13 p14 = false from eq_false_of_ne_true fun h => by unfold chk mayS mayL at h; rw [e8, e5] at h; simp only [Bool.and_eq_true, Bool.or_eq_true, Bool.not_true, Bool.not_false, Bool.false_eq_true, false_or, true_or, or_true, or_false, true_and, and_true, false_and, and_false, span_t, set_t] at h <;> omega])
  · by_cases hq : 1 ≤ p13 ∧ p13 ≤ 16 ∧ 1 ≤ p14 ∧ p14 ≤ 8
    · refine bif_eq_f (by refine eq_false_of_ne_true fun h => ?_; simp only [Bool.cond_true_left, Bool.or_eq_true, decide_eq_true_eq] at h; omega) ?_
      by_cases hS : 1 ≤ p0 ∧ p0 ≤ 15 ∧ 1 ≤ p1 ∧ p1 ≤ 3 ∧ 1 ≤ p2 ∧ p2 ≤ 3 ∧ 1 ≤ p3 ∧ p3 ≤ 15 ∧ 1 ≤ p4 ∧ p4 ≤ 3 ∧ 1 ≤ p5 ∧ p5 ≤ 3
      · refine bnd_eq (x := pss p6 p7) (bif_eq_f (by refine eq_false_of_ne_true fun h => ?_; simp only [Bool.cond_true_left, Bool.or_eq_true, decide_eq_true_eq] at h; omega) ?_) ?_
        · by_cases hM : 2 ≤ p6 ∧ p6 ≤ p7 ∧ p7 ≤ 250
          · rw [show pss p6 p7 = .inl () from if_pos hM]; exact bif_eq_f (by refine eq_false_of_ne_true fun h => ?_; simp only [Bool.cond_true_left, Bool.or_eq_true, decide_eq_true_eq] at h; omega) rfl
          · rw [show pss p6 p7 = .inr false from if_neg hM]; exact bif_eq_t (by refine eq_true_of_ne_false fun h => ?_; simp only [Bool.cond_true_left, Bool.or_eq_false_iff, decide_eq_false_iff_not] at h; omega) rfl
        · by_cases hN : 2 ≤ p6 ∧ p6 ≤ p7 ∧ p7 ≤ 250
          · rw [show pss p6 p7 = .inl () from if_pos hN]
            dsimp only
            exact (by rw [show chk p0 p1 p2 p3 p4 p5 p6 p7 p8 p9 p10 p11 p12 p13 p14 = true by unfold chk mayS mayL; rw [e8, e5]; simp only [Bool.and_eq_true, Bool.or_eq_true, Bool.not_true, Bool.not_false, Bool.false_eq_true, false_or, true_or, or_true, or_false, true_and, and_true, false_and, and_false, span_t, set_t] <;> omega])
          · rw [show pss p6 p7 = .inr false from if_neg hN]; exact (by rw [show chk p0 p1 p2 p3 p4 p5 p6 p7 p8 p9 p10 p11 p12 p13 p14 = false from eq_false_of_ne_true fun h => by unfold chk mayS mayL at h; rw [e8, e5] at h; simp only [Bool.and_eq_true, Bool.or_eq_true, Bool.not_true, Bool.not_false, Bool.false_eq_true, false_or, true_or, or_true, or_false, true_and, and_true, false_and, and_false, span_t, set_t] at h <;> omega])
      · exact (bnd_eq (bif_eq_t (by refine eq_true_of_ne_false fun h => ?_; simp only [Bool.cond_true_left, Bool.or_eq_false_iff, decide_eq_false_iff_not] at h; omega) rfl) rfl).trans (by rw [show chk p0 p1 p2 p3 p4 p5 p6 p7 p8 p9 p10 p11 p12 p13 p14 = false from eq_false_of_ne_true fun h => by unfold chk mayS mayL at h; rw [e8, e5] at h; simp only [Bool.and_eq_true, Bool.or_eq_true, Bool.not_true, Bool.not_false, Bool.false_eq_true, false_or, true_or, or_true, or_false, true_and, and_true, false_and, and_false, span_t, set_t] at h <;> omega])
    · exact (bif_eq_t (by refine eq_true_of_ne_false fun h => ?_; simp only [Bool.cond_true_left, Bool.or_eq_false_iff, decide_eq_false_iff_not] at h; omega) rfl).trans (by rw [show chk p0 p1 p2 p3 p4 p5 p6 p7 p8 p9 p10 p11 p12 p13 p14 = false from eq_false_of_ne_true fun h => by unfold chk mayS mayL at h; rw [e8, e5] at h; simp only [Bool.and_eq_true, Bool.or_eq_true, Bool.not_true, Bool.not_false, Bool.false_eq_true, false_or, true_or, or_true, or_false, true_and, and_true, false_and, and_false, span_t, set_t] at h <;> omega])
  · by_cases hq : 1 ≤ p13 ∧ p13 ≤ 16 ∧ 1 ≤ p14 ∧ p14 ≤ 8
    · refine bif_eq_f (by refine eq_false_of_ne_true fun h => ?_; simp only [Bool.cond_true_left, Bool.or_eq_true, decide_eq_true_eq] at h; omega) ?_
      by_cases hS : 1 ≤ p0 ∧ p0 ≤ 15 ∧ 1 ≤ p1 ∧ p1 ≤ 3 ∧ 1 ≤ p2 ∧ p2 ≤ 3 ∧ 1 ≤ p3 ∧ p3 ≤ 15 ∧ 1 ≤ p4 ∧ p4 ≤ 3 ∧ 1 ≤ p5 ∧ p5 ≤ 3
      · refine bnd_eq (x := pss p6 p7) (bif_eq_f (by refine eq_false_of_ne_true fun h => ?_; simp only [Bool.cond_true_left, Bool.or_eq_true, decide_eq_true_eq] at h; omega) ?_) ?_
        · by_cases hM : 2 ≤ p6 ∧ p6 ≤ p7 ∧ p7 ≤ 250
          · rw [show pss p6 p7 = .inl () from if_pos hM]; exact bif_eq_f (by refine eq_false_of_ne_true fun h => ?_; simp only [Bool.cond_true_left, Bool.or_eq_true, decide_eq_true_eq] at h; omega) rfl
          · rw [show pss p6 p7 = .inr false from if_neg hM]; exact bif_eq_t (by refine eq_true_of_ne_false fun h => ?_; simp only [Bool.cond_true_left, Bool.or_eq_false_iff, decide_eq_false_iff_not] at h; omega) rfl
        · by_cases hN : 2 ≤ p6 ∧ p6 ≤ p7 ∧ p7 ≤ 250
          · rw [show pss p6 p7 = .inl () from if_pos hN]
            dsimp only
            by_cases hL : 1 ≤ p8 ∧ p8 ≤ 15 ∧ 1 ≤ p9 ∧ p9 ≤ 3 ∧ 1 ≤ p10 ∧ p10 ≤ 15
            · refine bnd_eq (x := psl p11 p12) (bif_eq_f (by refine eq_false_of_ne_true fun h => ?_; simp only [Bool.cond_true_left, Bool.or_eq_true, decide_eq_true_eq] at h; omega) ?_) ?_
              · by_cases hM : 20 ≤ p11 ∧ p11 ≤ p12 ∧ p12 ≤ 120
                · rw [show psl p11 p12 = .inl () from if_pos hM]; exact bif_eq_f (by refine eq_false_of_ne_true fun h => ?_; simp only [Bool.cond_true_left, Bool.or_eq_true, decide_eq_true_eq] at h; omega) rfl
                · rw [show psl p11 p12 = .inr false from if_neg hM]; exact bif_eq_t (by refine eq_true_of_ne_false fun h => ?_; simp only [Bool.cond_true_left, Bool.or_eq_false_iff, decide_eq_false_iff_not] at h; omega) rfl
              · by_cases hM : 20 ≤ p11 ∧ p11 ≤ p12 ∧ p12 ≤ 120
                · rw [show psl p11 p12 = .inl () from if_pos hM]; exact (by rw [show chk p0 p1 p2 p3 p4 p5 p6 p7 p8 p9 p10 p11 p12 p13 p14 = true by unfold chk mayS mayL; rw [e8, e5]; simp only [Bool.and_eq_true, Bool.or_eq_true, Bool.not_true, Bool.not_false, Bool.false_eq_true, false_or, true_or, or_true, or_false, true_and, and_true, false_and, and_false, span_t, set_t] <;> omega])
                · rw [show psl p11 p12 = .inr false from if_neg hM]; exact (by rw [show chk p0 p1 p2 p3 p4 p5 p6 p7 p8 p9 p10 p11 p12 p13 p14 = false from eq_false_of_ne_true fun h => by unfold chk mayS mayL at h; rw [e8, e5] at h; simp only [Bool.and_eq_true, Bool.or_eq_true, Bool.not_true, Bool.not_false, Bool.false_eq_true, false_or, true_or, or_true, or_false, true_and, and_true, false_and, and_false, span_t, set_t] at h <;> omega])
            · exact (bnd_eq (bif_eq_t (by refine eq_true_of_ne_false fun h => ?_; simp only [Bool.cond_true_left, Bool.or_eq_false_iff, decide_eq_false_iff_not] at h; omega) rfl) rfl).trans (by rw [show chk p0 p1 p2 p3 p4 p5 p6 p7 p8 p9 p10 p11 p12 p13 p14 = false from eq_false_of_ne_true fun h => by unfold chk mayS mayL at h; rw [e8, e5] at h; simp only [Bool.and_eq_true, Bool.or_eq_true, Bool.not_true, Bool.not_false, Bool.false_eq_true, false_or, true_or, or_true, or_false, true_and, and_true, false_and, and_false, span_t, set_t] at h <;> omega])
          · rw [show pss p6 p7 = .inr false from if_neg hN]; exact (by rw [show chk p0 p1 p2 p3 p4 p5 p6 p7 p8 p9 p10 p11 p12 p13 p14 = false from eq_false_of_ne_true fun h => by unfold chk mayS mayL at h; rw [e8, e5] at h; simp only [Bool.and_eq_true, Bool.or_eq_true, Bool.not_true, Bool.not_false, Bool.false_eq_true, false_or, true_or, or_true, or_false, true_and, and_true, false_and, and_false, span_t, set_t] at h <;> omega])
      · exact (bnd_eq (bif_eq_t (by refine eq_true_of_ne_false fun h => ?_; simp only [Bool.cond_true_left, Bool.or_eq_false_iff, decide_eq_false_iff_not] at h; omega) rfl) rfl).trans (by rw [show chk p0 p1 p2 p3 p4 p5 p6 p7 p8 p9 p10 p11 p12 p13 p14 = false from eq_false_of_ne_true fun h => by unfold chk mayS mayL at h; rw [e8, e5] at h; simp only [Bool.and_eq_true, Bool.or_eq_true, Bool.not_true, Bool.not_false, Bool.false_eq_true, false_or, true_or, or_true, or_false, true_and, and_true, false_and, and_false, span_t, set_t] at h <;> omega])
    · exact (bif_eq_t (by refine eq_true_of_ne_false fun h => ?_; simp only [Bool.cond_true_left, Bool.or_eq_false_iff, decide_eq_false_iff_not] at h; omega) rfl).trans (by rw [show chk p0 p1 p2 p3 p4 p5 p6 p7 p8 p9 p10 p11 p12 p13 p14 = false from eq_false_of_ne_true fun h => by unfold chk mayS mayL at h; rw [e8, e5] at h; simp only [Bool.and_eq_true, Bool.or_eq_true, Bool.not_true, Bool.not_false, Bool.false_eq_true, false_or, true_or, or_true, or_false, true_and, and_true, false_and, and_false, span_t, set_t] at h <;> omega])
def s1 (p0 p1 p2 p3 p4 p5 p6 p7 : Int) : List Int := bif z8 p0 p1 p2 p3 p4 p5 p6 p7 then [] else [1, 8, p0, p1, p2, p3, p4, p5, p6, p7]
def s2 (p8 p9 p10 p11 p12 : Int) : List Int := bif z5 p8 p9 p10 p11 p12 then [] else [2, 5, p8, p9, p10, p11, p12]
theorem rng (p0 p1 p2 p3 p4 p5 p6 p7 p8 p9 p10 p11 p12 p13 p14 : Int) (h : chk p0 p1 p2 p3 p4 p5 p6 p7 p8 p9 p10 p11 p12 p13 p14 = true) : (0 ≤ p0 ∧ p0 ≤ 255) ∧ (0 ≤ p1 ∧ p1 ≤ 255) ∧ (0 ≤ p2 ∧ p2 ≤ 255) ∧ (0 ≤ p3 ∧ p3 ≤ 255) ∧ (0 ≤ p4 ∧ p4 ≤ 255) ∧ (0 ≤ p5 ∧ p5 ≤ 255) ∧ (0 ≤ p6 ∧ p6 ≤ 255) ∧ (0 ≤ p7 ∧ p7 ≤ 255) ∧ (0 ≤ p8 ∧ p8 ≤ 255) ∧ (0 ≤ p9 ∧ p9 ≤ 255) ∧ (0 ≤ p10 ∧ p10 ≤ 255) ∧ (0 ≤ p11 ∧ p11 ≤ 255) ∧ (0 ≤ p12 ∧ p12 ≤ 255) ∧ (0 ≤ p13 ∧ p13 ≤ 255) ∧ (0 ≤ p14 ∧ p14 ≤ 255) := by
  unfold chk mayS mayL at h
  simp only [Bool.and_eq_true, Bool.or_eq_true, set_t, span_t] at h
  obtain ⟨_, h1, h2, h3, h4⟩ := h
  have g1 : (0 ≤ p0 ∧ p0 ≤ 255) ∧ (0 ≤ p1 ∧ p1 ≤ 255) ∧ (0 ≤ p2 ∧ p2 ≤ 255) ∧ (0 ≤ p3 ∧ p3 ≤ 255) ∧ (0 ≤ p4 ∧ p4 ≤ 255) ∧ (0 ≤ p5 ∧ p5 ≤ 255) ∧ (0 ≤ p6 ∧ p6 ≤ 255) ∧ (0 ≤ p7 ∧ p7 ≤ 255) := by
    rcases h1 with h1 | h1
    · unfold z8 at h1
      simp only [Bool.and_eq_true, beq_iff_eq] at h1
      omega
    · omega
  have g2 : (0 ≤ p8 ∧ p8 ≤ 255) ∧ (0 ≤ p9 ∧ p9 ≤ 255) ∧ (0 ≤ p10 ∧ p10 ≤ 255) ∧ (0 ≤ p11 ∧ p11 ≤ 255) ∧ (0 ≤ p12 ∧ p12 ≤ 255) := by
    rcases h2 with h2 | h2
    · unfold z5 at h2
      simp only [Bool.and_eq_true, beq_iff_eq] at h2
      omega
    · omega
  omega
theorem z8_t (p0 p1 p2 p3 p4 p5 p6 p7 : Int) (h : z8 p0 p1 p2 p3 p4 p5 p6 p7 = true) : p0 = 0 ∧ p1 = 0 ∧ p2 = 0 ∧ p3 = 0 ∧ p4 = 0 ∧ p5 = 0 ∧ p6 = 0 ∧ p7 = 0 := by
  unfold z8 at h; simp only [Bool.and_eq_true, beq_iff_eq] at h; omega
theorem z5_t (p8 p9 p10 p11 p12 : Int) (h : z5 p8 p9 p10 p11 p12 = true) : p8 = 0 ∧ p9 = 0 ∧ p10 = 0 ∧ p11 = 0 ∧ p12 = 0 := by
  unfold z5 at h; simp only [Bool.and_eq_true, beq_iff_eq] at h; omega
def bs (p0 p1 p2 p3 p4 p5 p6 p7 p8 p9 p10 p11 p12 p13 p14 : Int) : List Int := s1 p0 p1 p2 p3 p4 p5 p6 p7 ++ (s2 p8 p9 p10 p11 p12 ++ [3, 2, p13, p14])
theorem bs_len (p0 p1 p2 p3 p4 p5 p6 p7 p8 p9 p10 p11 p12 p13 p14 : Int) : (bs p0 p1 p2 p3 p4 p5 p6 p7 p8 p9 p10 p11 p12 p13 p14).length ≤ 21 ∧ 4 ≤ (bs p0 p1 p2 p3 p4 p5 p6 p7 p8 p9 p10 p11 p12 p13 p14).length := by
  unfold bs s1 s2
  cases z8 p0 p1 p2 p3 p4 p5 p6 p7 <;> cases z5 p8 p9 p10 p11 p12 <;> simp
theorem u8 {x : Int} (h : 0 ≤ x ∧ x ≤ 255) : kwrap .u8 x = x := by rw [kw_u8]; omega
theorem bytes_w (p0 p1 p2 p3 p4 p5 p6 p7 p8 p9 p10 p11 p12 p13 p14 : Int) (h : chk p0 p1 p2 p3 p4 p5 p6 p7 p8 p9 p10 p11 p12 p13 p14 = true) : caps_Bytes 300 p0 p1 p2 p3 p4 p5 p6 p7 p8 p9 p10 p11 p12 p13 p14 = some (.inr (bs p0 p1 p2 p3 p4 p5 p6 p7 p8 p9 p10 p11 p12 p13 p14)) := by
  obtain ⟨r0, r1, r2, r3, r4, r5, r6, r7, r8, r9, r10, r11, r12, r13, r14⟩ := rng p0 p1 p2 p3 p4 p5 p6 p7 p8 p9 p10 p11 p12 p13 p14 h
  refine bnd_eq ((chk_w p0 p1 p2 p3 p4 p5 p6 p7 p8 p9 p10 p11 p12 p13 p14).trans (by rw [h])) (bif_eq_f rfl ?_)
  refine bnd_eq (x := bs p0 p1 p2 p3 p4 p5 p6 p7 p8 p9 p10 p11 p12 p13 p14) ?_ rfl
  refine bnd_eq (x := (z8 p0 p1 p2 p3 p4 p5 p6 p7, s1 p0 p1 p2 p3 p4 p5 p6 p7)) ?_ ?_
  · rcases Bool.eq_false_or_eq_true (z8 p0 p1 p2 p3 p4 p5 p6 p7) with e | e
    · refine bif_eq_t (by rw [show ((p0 == 0) && ((p1 == 0) && ((p2 == 0) && ((p3 == 0) && ((p4 == 0) && ((p5 == 0) && ((p6 == 0) && ((p7 == 0))))))))) = true from e]; rfl) ?_
      unfold s1; rw [e, show ((p0 == 0) && ((p1 == 0) && ((p2 == 0) && ((p3 == 0) && ((p4 == 0) && ((p5 == 0) && ((p6 == 0) && ((p7 == 0))))))))) = true from e]; rfl
    · refine bif_eq_f (by rw [show ((p0 == 0) && ((p1 == 0) && ((p2 == 0) && ((p3 == 0) && ((p4 == 0) && ((p5 == 0) && ((p6 == 0) && ((p7 == 0))))))))) = false from e]; rfl) (bnd_eq rfl (gd_eq (by decide) (bnd_eq (x := s1 p0 p1 p2 p3 p4 p5 p6 p7) ?_ (by rw [show ((p0 == 0) && ((p1 == 0) && ((p2 == 0) && ((p3 == 0) && ((p4 == 0) && ((p5 == 0) && ((p6 == 0) && ((p7 == 0))))))))) = false from e, e]))))
      refine gd_eq (by simp) (gd_eq (by simp) (gd_eq (by simp) (gd_eq (by simp) (gd_eq (by simp) (gd_eq (by simp) (gd_eq (by simp) (gd_eq (by simp) ?_)))))))
      try dsimp only
      rw [u8 r0, u8 r1, u8 r2, u8 r3, u8 r4, u8 r5, u8 r6, u8 r7]
      unfold s1; rw [e]; rfl
  · have hs : (s1 p0 p1 p2 p3 p4 p5 p6 p7).length ≤ 10 := by unfold s1; cases z8 p0 p1 p2 p3 p4 p5 p6 p7 <;> simp
    refine bnd_eq (x := (z5 p8 p9 p10 p11 p12, s1 p0 p1 p2 p3 p4 p5 p6 p7 ++ s2 p8 p9 p10 p11 p12)) ?_ ?_
    · rcases Bool.eq_false_or_eq_true (z5 p8 p9 p10 p11 p12) with e | e
      · refine bif_eq_t e ?_
        unfold s2; rw [e, show ((p8 == 0) && ((p9 == 0) && ((p10 == 0) && ((p11 == 0) && ((p12 == 0)))))) = true from e]; simp
      · refine bif_eq_f e (bnd_eq rfl (gd_eq (by simp; omega) (bnd_eq (x := s1 p0 p1 p2 p3 p4 p5 p6 p7 ++ s2 p8 p9 p10 p11 p12) ?_ (by rw [show ((p8 == 0) && ((p9 == 0) && ((p10 == 0) && ((p11 == 0) && ((p12 == 0)))))) = false from e, e]))))
        refine gd_eq (by simp; omega) (gd_eq (by simp; omega) (gd_eq (by simp; omega) (gd_eq (by simp; omega) (gd_eq (by simp; omega) ?_))))
        try dsimp only
        rw [u8 r8, u8 r9, u8 r10, u8 r11, u8 r12]
        unfold s2; rw [e]; simp
    · have hs2 : (s2 p8 p9 p10 p11 p12).length ≤ 7 := by unfold s2; cases z5 p8 p9 p10 p11 p12 <;> simp
      refine bnd_eq rfl (gd_eq (by simp; omega) (bnd_eq (x := bs p0 p1 p2 p3 p4 p5 p6 p7 p8 p9 p10 p11 p12 p13 p14) (gd_eq (by simp; omega) (gd_eq (by simp; omega) ?_)) rfl))
      try dsimp only
      rw [u8 r13, u8 r14]
      unfold bs; simp
theorem bytes_no (p0 p1 p2 p3 p4 p5 p6 p7 p8 p9 p10 p11 p12 p13 p14 : Int) (h : chk p0 p1 p2 p3 p4 p5 p6 p7 p8 p9 p10 p11 p12 p13 p14 = false) : caps_Bytes 300 p0 p1 p2 p3 p4 p5 p6 p7 p8 p9 p10 p11 p12 p13 p14 = some (.inl 1) := bnd_eq ((chk_w p0 p1 p2 p3 p4 p5 p6 p7 p8 p9 p10 p11 p12 p13 p14).trans (by rw [h]; rfl)) (bif_eq_t rfl rfl)
theorem all_self (x : Int) : (x == x) = true := by simp

theorem bstr_go (l : List Int) : ∀ s : ByteArray, l.foldl (fun r n => r.push (UInt8.ofNat n.toNat)) s = ⟨s.data ++ (l.map fun n => UInt8.ofNat n.toNat).toArray⟩ := by
  induction l with
  | nil => intro s; simp
  | cons x l ih =>
    intro s
    rw [List.foldl_cons, ih]
    congr 1
    apply Array.ext'
    simp [ByteArray.push]
theorem bstr_eq (l : List Int) : bstr l = ⟨(l.map fun n => UInt8.ofNat n.toNat).toArray⟩ := by
  unfold bstr; rw [bstr_go]
  congr 1
  rw [show ByteArray.empty.data = #[] from rfl]
  simp
theorem bstr_app (a b : List Int) : bstr a ++ bstr b = bstr (a ++ b) := by
  rw [bstr_eq, bstr_eq, bstr_eq]
  apply ByteArray.ext
  simp
theorem bstr_size (l : List Int) : (bstr l).size = l.length := by
  rw [bstr_eq]; simp [ByteArray.size]
theorem nil_app (a : ByteArray) : (⟨#[]⟩ : ByteArray) ++ a = a := by
  apply ByteArray.ext; simp
theorem rec_step (l : List Int) (m : Nat) (i : Int) (acc : List Int) (h0 : 0 ≤ i) (h1 : i < (l.length : Int)) (h2 : l.length ≤ 20) (h3 : acc.length ≤ 40) (hb : 0 ≤ (Kd.nth (.int .i64) l (Int.toNat i) : Int) ∧ (Kd.nth (.int .i64) l (Int.toNat i) : Int) ≤ 255) :
    psalteryref23_record.l0 300 l (m + 1) i acc = psalteryref23_record.l0 300 l m (i + 1) (acc ++ [Kd.nth (.int .i64) l (Int.toNat i)]) := by
  show psalteryref23_record.r0 300 l (psalteryref23_record.l0 300 l m) i acc = _
  refine bif_eq_t (decide_eq_true h1) (gd_eq ⟨h0, h1, by simp; omega⟩ ?_)
  dsimp only
  rw [u8 hb, kw_i64 (by omega) (by omega)]
theorem record8 (k : Int) (hk : 0 ≤ k ∧ k ≤ 255) (a0 a1 a2 a3 a4 a5 a6 a7 : Int) (h0 : 0 ≤ a0 ∧ a0 ≤ 255) (h1 : 0 ≤ a1 ∧ a1 ≤ 255) (h2 : 0 ≤ a2 ∧ a2 ≤ 255) (h3 : 0 ≤ a3 ∧ a3 ≤ 255) (h4 : 0 ≤ a4 ∧ a4 ≤ 255) (h5 : 0 ≤ a5 ∧ a5 ≤ 255) (h6 : 0 ≤ a6 ∧ a6 ≤ 255) (h7 : 0 ≤ a7 ∧ a7 ≤ 255) : psalteryref23_record 300 k [a0, a1, a2, a3, a4, a5, a6, a7] = some (bstr (k :: 8 :: [a0, a1, a2, a3, a4, a5, a6, a7])) := by
  have key : psalteryref23_record.l0 300 [a0, a1, a2, a3, a4, a5, a6, a7] 300 0 [k, 8] = some (k :: 8 :: [a0, a1, a2, a3, a4, a5, a6, a7]) := by
    have s0 : psalteryref23_record.l0 300 [a0, a1, a2, a3, a4, a5, a6, a7] 300 0 [k, 8] = psalteryref23_record.l0 300 [a0, a1, a2, a3, a4, a5, a6, a7] 299 1 [k, 8, a0] := rec_step [a0, a1, a2, a3, a4, a5, a6, a7] 299 0 [k, 8] (by decide) (by simp) (by simp) (by simp) h0
    have s1 : psalteryref23_record.l0 300 [a0, a1, a2, a3, a4, a5, a6, a7] 299 1 [k, 8, a0] = psalteryref23_record.l0 300 [a0, a1, a2, a3, a4, a5, a6, a7] 298 2 [k, 8, a0, a1] := rec_step [a0, a1, a2, a3, a4, a5, a6, a7] 298 1 [k, 8, a0] (by decide) (by simp) (by simp) (by simp) h1
    have s2 : psalteryref23_record.l0 300 [a0, a1, a2, a3, a4, a5, a6, a7] 298 2 [k, 8, a0, a1] = psalteryref23_record.l0 300 [a0, a1, a2, a3, a4, a5, a6, a7] 297 3 [k, 8, a0, a1, a2] := rec_step [a0, a1, a2, a3, a4, a5, a6, a7] 297 2 [k, 8, a0, a1] (by decide) (by simp) (by simp) (by simp) h2
    have s3 : psalteryref23_record.l0 300 [a0, a1, a2, a3, a4, a5, a6, a7] 297 3 [k, 8, a0, a1, a2] = psalteryref23_record.l0 300 [a0, a1, a2, a3, a4, a5, a6, a7] 296 4 [k, 8, a0, a1, a2, a3] := rec_step [a0, a1, a2, a3, a4, a5, a6, a7] 296 3 [k, 8, a0, a1, a2] (by decide) (by simp) (by simp) (by simp) h3
    have s4 : psalteryref23_record.l0 300 [a0, a1, a2, a3, a4, a5, a6, a7] 296 4 [k, 8, a0, a1, a2, a3] = psalteryref23_record.l0 300 [a0, a1, a2, a3, a4, a5, a6, a7] 295 5 [k, 8, a0, a1, a2, a3, a4] := rec_step [a0, a1, a2, a3, a4, a5, a6, a7] 295 4 [k, 8, a0, a1, a2, a3] (by decide) (by simp) (by simp) (by simp) h4
    have s5 : psalteryref23_record.l0 300 [a0, a1, a2, a3, a4, a5, a6, a7] 295 5 [k, 8, a0, a1, a2, a3, a4] = psalteryref23_record.l0 300 [a0, a1, a2, a3, a4, a5, a6, a7] 294 6 [k, 8, a0, a1, a2, a3, a4, a5] := rec_step [a0, a1, a2, a3, a4, a5, a6, a7] 294 5 [k, 8, a0, a1, a2, a3, a4] (by decide) (by simp) (by simp) (by simp) h5
    have s6 : psalteryref23_record.l0 300 [a0, a1, a2, a3, a4, a5, a6, a7] 294 6 [k, 8, a0, a1, a2, a3, a4, a5] = psalteryref23_record.l0 300 [a0, a1, a2, a3, a4, a5, a6, a7] 293 7 [k, 8, a0, a1, a2, a3, a4, a5, a6] := rec_step [a0, a1, a2, a3, a4, a5, a6, a7] 293 6 [k, 8, a0, a1, a2, a3, a4, a5] (by decide) (by simp) (by simp) (by simp) h6
    have s7 : psalteryref23_record.l0 300 [a0, a1, a2, a3, a4, a5, a6, a7] 293 7 [k, 8, a0, a1, a2, a3, a4, a5, a6] = psalteryref23_record.l0 300 [a0, a1, a2, a3, a4, a5, a6, a7] 292 8 [k, 8, a0, a1, a2, a3, a4, a5, a6, a7] := rec_step [a0, a1, a2, a3, a4, a5, a6, a7] 292 7 [k, 8, a0, a1, a2, a3, a4, a5, a6] (by decide) (by simp) (by simp) (by simp) h7
    rw [s0, s1, s2, s3, s4, s5, s6, s7]; rfl
  unfold psalteryref23_record
  dsimp only
  rw [u8 hk, show kwrap .u8 (([a0, a1, a2, a3, a4, a5, a6, a7] : List Int).length : Int) = 8 from rfl, key]; rfl
theorem record5 (k : Int) (hk : 0 ≤ k ∧ k ≤ 255) (a0 a1 a2 a3 a4 : Int) (h0 : 0 ≤ a0 ∧ a0 ≤ 255) (h1 : 0 ≤ a1 ∧ a1 ≤ 255) (h2 : 0 ≤ a2 ∧ a2 ≤ 255) (h3 : 0 ≤ a3 ∧ a3 ≤ 255) (h4 : 0 ≤ a4 ∧ a4 ≤ 255) : psalteryref23_record 300 k [a0, a1, a2, a3, a4] = some (bstr (k :: 5 :: [a0, a1, a2, a3, a4])) := by
  have key : psalteryref23_record.l0 300 [a0, a1, a2, a3, a4] 300 0 [k, 5] = some (k :: 5 :: [a0, a1, a2, a3, a4]) := by
    have s0 : psalteryref23_record.l0 300 [a0, a1, a2, a3, a4] 300 0 [k, 5] = psalteryref23_record.l0 300 [a0, a1, a2, a3, a4] 299 1 [k, 5, a0] := rec_step [a0, a1, a2, a3, a4] 299 0 [k, 5] (by decide) (by simp) (by simp) (by simp) h0
    have s1 : psalteryref23_record.l0 300 [a0, a1, a2, a3, a4] 299 1 [k, 5, a0] = psalteryref23_record.l0 300 [a0, a1, a2, a3, a4] 298 2 [k, 5, a0, a1] := rec_step [a0, a1, a2, a3, a4] 298 1 [k, 5, a0] (by decide) (by simp) (by simp) (by simp) h1
    have s2 : psalteryref23_record.l0 300 [a0, a1, a2, a3, a4] 298 2 [k, 5, a0, a1] = psalteryref23_record.l0 300 [a0, a1, a2, a3, a4] 297 3 [k, 5, a0, a1, a2] := rec_step [a0, a1, a2, a3, a4] 297 2 [k, 5, a0, a1] (by decide) (by simp) (by simp) (by simp) h2
    have s3 : psalteryref23_record.l0 300 [a0, a1, a2, a3, a4] 297 3 [k, 5, a0, a1, a2] = psalteryref23_record.l0 300 [a0, a1, a2, a3, a4] 296 4 [k, 5, a0, a1, a2, a3] := rec_step [a0, a1, a2, a3, a4] 296 3 [k, 5, a0, a1, a2] (by decide) (by simp) (by simp) (by simp) h3
    have s4 : psalteryref23_record.l0 300 [a0, a1, a2, a3, a4] 296 4 [k, 5, a0, a1, a2, a3] = psalteryref23_record.l0 300 [a0, a1, a2, a3, a4] 295 5 [k, 5, a0, a1, a2, a3, a4] := rec_step [a0, a1, a2, a3, a4] 295 4 [k, 5, a0, a1, a2, a3] (by decide) (by simp) (by simp) (by simp) h4
    rw [s0, s1, s2, s3, s4]; rfl
  unfold psalteryref23_record
  dsimp only
  rw [u8 hk, show kwrap .u8 (([a0, a1, a2, a3, a4] : List Int).length : Int) = 5 from rfl, key]; rfl
theorem record2 (k : Int) (hk : 0 ≤ k ∧ k ≤ 255) (a0 a1 : Int) (h0 : 0 ≤ a0 ∧ a0 ≤ 255) (h1 : 0 ≤ a1 ∧ a1 ≤ 255) : psalteryref23_record 300 k [a0, a1] = some (bstr (k :: 2 :: [a0, a1])) := by
  have key : psalteryref23_record.l0 300 [a0, a1] 300 0 [k, 2] = some (k :: 2 :: [a0, a1]) := by
    have s0 : psalteryref23_record.l0 300 [a0, a1] 300 0 [k, 2] = psalteryref23_record.l0 300 [a0, a1] 299 1 [k, 2, a0] := rec_step [a0, a1] 299 0 [k, 2] (by decide) (by simp) (by simp) (by simp) h0
    have s1 : psalteryref23_record.l0 300 [a0, a1] 299 1 [k, 2, a0] = psalteryref23_record.l0 300 [a0, a1] 298 2 [k, 2, a0, a1] := rec_step [a0, a1] 298 1 [k, 2, a0] (by decide) (by simp) (by simp) (by simp) h1
    rw [s0, s1]; rfl
  unfold psalteryref23_record
  dsimp only
  rw [u8 hk, show kwrap .u8 (([a0, a1] : List Int).length : Int) = 2 from rfl, key]; rfl
theorem refbytes_w (p0 p1 p2 p3 p4 p5 p6 p7 p8 p9 p10 p11 p12 p13 p14 : Int) (h : chk p0 p1 p2 p3 p4 p5 p6 p7 p8 p9 p10 p11 p12 p13 p14 = true) : psalteryref23_Bytes 300 p0 p1 p2 p3 p4 p5 p6 p7 p8 p9 p10 p11 p12 p13 p14 = some (bstr (bs p0 p1 p2 p3 p4 p5 p6 p7 p8 p9 p10 p11 p12 p13 p14)) := by
  obtain ⟨r0, r1, r2, r3, r4, r5, r6, r7, r8, r9, r10, r11, r12, r13, r14⟩ := rng p0 p1 p2 p3 p4 p5 p6 p7 p8 p9 p10 p11 p12 p13 p14 h
  have hc := h
  unfold chk mayS mayL at hc
  simp only [Bool.and_eq_true, Bool.or_eq_true, set_t, span_t] at hc
  obtain ⟨_, g1, g2, _⟩ := hc
  have e0 : decide (p0 > 0) = !(z8 p0 p1 p2 p3 p4 p5 p6 p7) := by
    rcases Bool.eq_false_or_eq_true (z8 p0 p1 p2 p3 p4 p5 p6 p7) with e | e
    · have := (z8_t p0 p1 p2 p3 p4 p5 p6 p7 e).1; rw [e, this]; rfl
    · rw [e] at g1 ⊢
      rw [decide_eq_true (by rcases g1 with g1 | g1; · cases g1
                             · omega)]; rfl
  have e1 : decide (p8 > 0) = !(z5 p8 p9 p10 p11 p12) := by
    rcases Bool.eq_false_or_eq_true (z5 p8 p9 p10 p11 p12) with e | e
    · have := (z5_t p8 p9 p10 p11 p12 e).1; rw [e, this]; rfl
    · rw [e] at g2 ⊢
      rw [decide_eq_true (by rcases g2 with g2 | g2; · cases g2
                             · omega)]; rfl
  have hs : (s1 p0 p1 p2 p3 p4 p5 p6 p7).length ≤ 10 := by unfold s1; cases z8 p0 p1 p2 p3 p4 p5 p6 p7 <;> simp
  have hs2 : (s2 p8 p9 p10 p11 p12).length ≤ 7 := by unfold s2; cases z5 p8 p9 p10 p11 p12 <;> simp
  refine bnd_eq (x := bstr (s1 p0 p1 p2 p3 p4 p5 p6 p7)) ?_ (bnd_eq (x := bstr (s1 p0 p1 p2 p3 p4 p5 p6 p7 ++ s2 p8 p9 p10 p11 p12)) ?_ ?_)
  · rcases Bool.eq_false_or_eq_true (z8 p0 p1 p2 p3 p4 p5 p6 p7) with e | e
    · refine bif_eq_f (by rw [e0, e]; rfl) ?_
      unfold s1; rw [e]; rfl
    · refine bif_eq_t (by rw [e0, e]; rfl) (bnd_eq (record8 1 ⟨by decide, by decide⟩ p0 p1 p2 p3 p4 p5 p6 p7 r0 r1 r2 r3 r4 r5 r6 r7) (gd_eq ?_ ?_))
      · rw [bstr_size]; simp [ByteArray.size]
      · try dsimp only
        rw [nil_app]; unfold s1; rw [e]; rfl
  · rcases Bool.eq_false_or_eq_true (z5 p8 p9 p10 p11 p12) with e | e
    · refine bif_eq_f (by rw [e1, e]; rfl) ?_
      unfold s2; rw [e]; simp
    · refine bif_eq_t (by rw [e1, e]; rfl) (bnd_eq (record5 2 ⟨by decide, by decide⟩ p8 p9 p10 p11 p12 r8 r9 r10 r11 r12) (gd_eq ?_ ?_))
      · rw [bstr_size, bstr_size]; simp; omega
      · rw [bstr_app]; unfold s2; rw [e]; rfl
  · refine bnd_eq (record2 3 ⟨by decide, by decide⟩ p13 p14 r13 r14) (gd_eq ?_ ?_)
    · rw [bstr_size, bstr_size]; simp; omega
    · rw [bstr_app]; unfold bs; simp
theorem has_all : (List.range 16).all (fun a => (List.range 4).all fun b => decide (psalteryref23_has 300 (a : Int) (b : Int) = some (inB (a : Int) (b : Int)))) = true := by kernel_rfl
theorem has_w (s i : Int) (h : 0 ≤ s ∧ s ≤ 15) (k : 0 ≤ i ∧ i ≤ 3) : psalteryref23_has 300 s i = some (inB s i) := by
  have := of_decide_eq_true (List.all_eq_true.1 (List.all_eq_true.1 has_all s.toNat (List.mem_range.2 (by omega))) i.toNat (List.mem_range.2 (by omega)))
  rw [Int.toNat_of_nonneg h.1, Int.toNat_of_nonneg k.1] at this
  exact this
theorem rng15 (p0 p1 p2 p3 p4 p5 p6 p7 p8 p9 p10 p11 p12 p13 p14 : Int) (h : chk p0 p1 p2 p3 p4 p5 p6 p7 p8 p9 p10 p11 p12 p13 p14 = true) : (0 ≤ p0 ∧ p0 ≤ 15) ∧ (0 ≤ p1 ∧ p1 ≤ 15) ∧ (0 ≤ p2 ∧ p2 ≤ 15) ∧ (0 ≤ p3 ∧ p3 ≤ 15) ∧ (0 ≤ p4 ∧ p4 ≤ 15) ∧ (0 ≤ p5 ∧ p5 ≤ 15) ∧ (0 ≤ p8 ∧ p8 ≤ 15) ∧ (0 ≤ p9 ∧ p9 ≤ 15) ∧ (0 ≤ p10 ∧ p10 ≤ 15) := by
  unfold chk mayS mayL at h
  simp only [Bool.and_eq_true, Bool.or_eq_true, set_t, span_t] at h
  obtain ⟨_, h1, h2, _⟩ := h
  have g1 : (0 ≤ p0 ∧ p0 ≤ 15) ∧ (0 ≤ p1 ∧ p1 ≤ 15) ∧ (0 ≤ p2 ∧ p2 ≤ 15) ∧ (0 ≤ p3 ∧ p3 ≤ 15) ∧ (0 ≤ p4 ∧ p4 ≤ 15) ∧ (0 ≤ p5 ∧ p5 ≤ 15) := by
    rcases h1 with h1 | h1
    · have := z8_t p0 p1 p2 p3 p4 p5 p6 p7 h1; omega
    · omega
  have g2 : (0 ≤ p8 ∧ p8 ≤ 15) ∧ (0 ≤ p9 ∧ p9 ≤ 15) ∧ (0 ≤ p10 ∧ p10 ≤ 15) := by
    rcases h2 with h2 | h2
    · have := z5_t p8 p9 p10 p11 p12 h2; omega
    · omega
  omega
theorem span_self (x a b : Int) : spanB a x a b = (decide (x ≥ a) && decide (x ≤ b)) := by
  unfold spanB
  rw [decide_eq_true (Int.le_refl a)]; rfl
theorem and_tail {o : Option Bool} {b c d : Bool} (h : o = some b) : (o.bind fun r => some (bif (bif r then c else false) then d else false)) = some (b && (c && d)) := by
  subst h; cases b <;> cases c <;> rfl
theorem lt_not (a b : Int) : decide (a < b) = !decide (b ≤ a) := by
  by_cases e : b ≤ a
  · rw [decide_eq_true e, decide_eq_false (by omega)]; rfl
  · rw [decide_eq_false e, decide_eq_true (by omega)]; rfl
theorem refall_w (p0 p1 p2 p3 p4 p5 p6 p7 p8 p9 p10 p11 p12 p13 p14 p15 p16 p17 p18 p19 p20 p21 p22 p23 p24 p25 p26 : Int) : psalteryref23_Allows 300 p0 p1 p2 p3 p4 p5 p6 p7 p8 p9 p10 p11 p12 p13 p14 p15 p16 p17 p18 p19 p20 p21 p22 p23 p24 p25 p26 = some (all p0 p1 p2 p3 p4 p5 p6 p7 p8 p9 p10 p11 p12 p13 p14 p15 p16 p17 p18 p19 p20 p21 p22 p23 p24 p25 p26) := by
  refine bnd_eq (x := !(chk p0 p1 p2 p3 p4 p5 p6 p7 p8 p9 p10 p11 p12 p13 p14 && (okF p15 p16 p17 p18 p19 p20 p21 p22 p23 p24 && (spanB 1 p25 1 p13 && spanB 1 p26 1 p14)))) ?_ ?_
  · refine bnd_eq (refchk_w p0 p1 p2 p3 p4 p5 p6 p7 p8 p9 p10 p11 p12 p13 p14) ?_
    rcases Bool.eq_false_or_eq_true (chk p0 p1 p2 p3 p4 p5 p6 p7 p8 p9 p10 p11 p12 p13 p14) with b1 | b1
    · rw [b1]
      refine bif_eq_f rfl (bnd_eq (refcheck_w p15 p16 p17 p18 p19 p20 p21 p22 p23 p24) ?_)
      show some (bif (bif (bif (bif (!(okF p15 p16 p17 p18 p19 p20 p21 p22 p23 p24)) then true else decide (p25 < 1)) then true else decide (p25 > p13)) then true else decide (p26 < 1)) then true else decide (p26 > p14)) = _
      have n1 : decide (p25 < 1) = !decide (1 ≤ p25) := lt_not _ _
      have n2 : decide (p25 > p13) = !decide (p25 ≤ p13) := lt_not _ _
      have n3 : decide (p26 < 1) = !decide (1 ≤ p26) := lt_not _ _
      have n4 : decide (p26 > p14) = !decide (p26 ≤ p14) := lt_not _ _
      rw [n1, n2, n3, n4]
      unfold spanB
      rw [show decide ((1 : Int) ≤ 1) = true from rfl]
      cases okF p15 p16 p17 p18 p19 p20 p21 p22 p23 p24 <;> cases decide (1 ≤ p25) <;> cases decide (p25 ≤ p13) <;> cases decide (1 ≤ p26) <;> cases decide (p26 ≤ p14) <;> rfl
    · rw [b1]; rfl
  · unfold all
    rcases Bool.eq_false_or_eq_true (chk p0 p1 p2 p3 p4 p5 p6 p7 p8 p9 p10 p11 p12 p13 p14 && (okF p15 p16 p17 p18 p19 p20 p21 p22 p23 p24 && (spanB 1 p25 1 p13 && spanB 1 p26 1 p14))) with b | b
    · rw [b]
      refine bif_eq_f rfl ?_
      have b' := b
      simp only [Bool.and_eq_true] at b'
      obtain ⟨b1, b2, b3, b4⟩ := b'
      obtain ⟨q0, q1, q2, q3, q4, q5, q8, q9, q10⟩ := rng15 p0 p1 p2 p3 p4 p5 p6 p7 p8 p9 p10 p11 p12 p13 p14 b1
      rw [b1, b2, b3, b4]
      have ho : okP p15 p16 p17 p18 p19 p20 p21 p22 p23 p24 := of_decide_eq_true b2
      rcases ho with ⟨hs, _⟩ | hl
      · have e : (p15 == 1) = true := by rw [hs.1]; rfl
        refine bif_eq_t e ?_
        rw [e]
        obtain ⟨_, a1, a2, h2, h3, h4, h5, h6, f1, f2, f3, g1, g2⟩ := hs
        have hw : kwrap .i64 (p17 - 1) = p17 - 1 := kw_i64 (by omega) (by omega)
        have hk : kwrap .i64 (kwrap .i64 (Int.tdiv p19 4) - 1) = p19 / 4 - 1 := by rcases h4 with rfl | rfl | rfl | rfl <;> rfl
        have e1 : psalteryref23_has 300 p1 (kwrap .i64 (p17 - 1)) = some (inB p1 (p17 - 1)) := by rw [hw]; exact has_w _ _ q1 (by omega)
        have e3 : psalteryref23_has 300 p3 (kwrap .i64 (kwrap .i64 (Int.tdiv p19 4) - 1)) = some (inB p3 (p19 / 4 - 1)) := by rw [hk]; exact has_w _ _ q3 (by omega)
        refine bnd_eq (x := p18 / 8) (by rcases h3 with rfl | rfl <;> rfl) (bnd_eq ?_ rfl)
        refine (and_step (has_w _ _ q0 (by omega)) fun _ => and_step e1 fun _ => and_step (has_w _ _ q2 (by omega)) fun _ => and_step e3 fun _ => and_step (has_w _ _ q4 (by omega)) fun _ => and_tail (has_w _ _ q5 (by omega))).trans ?_
        unfold subA
        rw [span_self]; rfl
      · have e : (p15 == 1) = false := by rw [hl.1]; rfl
        refine bif_eq_f e ?_
        rw [e]
        obtain ⟨_, a1, a2, h2, h8, c1, c2, _⟩ := hl
        have hw : kwrap .i64 (p17 - 1) = p17 - 1 := kw_i64 (by omega) (by omega)
        have hi : 0 ≤ idx p23 ∧ idx p23 ≤ 3 := by rcases h8 with rfl | rfl | rfl | rfl <;> decide
        have e1 : psalteryref23_has 300 p9 (kwrap .i64 (p17 - 1)) = some (inB p9 (p17 - 1)) := by rw [hw]; exact has_w _ _ q9 (by omega)
        refine bnd_eq (x := idx p23) (by rcases h8 with rfl | rfl | rfl | rfl <;> rfl) (bnd_eq ?_ rfl)
        refine (and_step (has_w _ _ q8 (by omega)) fun _ => and_step e1 fun _ => and_tail (has_w _ _ q10 hi)).trans ?_
        unfold lapA
        rw [span_self]; rfl
    · rw [b]
      refine (bif_eq_t rfl rfl).trans ?_
      congr 1
      revert b
      cases chk p0 p1 p2 p3 p4 p5 p6 p7 p8 p9 p10 p11 p12 p13 p14 <;> cases okF p15 p16 p17 p18 p19 p20 p21 p22 p23 p24 <;> cases spanB 1 p25 1 p13 <;> cases spanB 1 p26 1 p14 <;> simp
theorem bool_self (b : Bool) : (!(b == b)) = false := by cases b <;> rfl
theorem beqs_self (s : ByteArray) : beqs s s = true := by unfold beqs; simp
theorem tells_w (p0 p1 p2 p3 p4 p5 p6 p7 p8 p9 p10 p11 p12 p13 p14 p15 p16 p17 p18 p19 p20 p21 p22 p23 p24 p25 p26 : Int) : psalterylaw23_CapsTells 300 p0 p1 p2 p3 p4 p5 p6 p7 p8 p9 p10 p11 p12 p13 p14 p15 p16 p17 p18 p19 p20 p21 p22 p23 p24 p25 p26 = some true := by
  refine bnd_eq (show psalterylaw23_alive 300 = some true by kernel_rfl) (bif_eq_f rfl (bnd_eq (refchk_w p0 p1 p2 p3 p4 p5 p6 p7 p8 p9 p10 p11 p12 p13 p14) (bnd_eq rfl ?_)))
  rcases Bool.eq_false_or_eq_true (chk p0 p1 p2 p3 p4 p5 p6 p7 p8 p9 p10 p11 p12 p13 p14) with h | h
  · refine bnd_eq (bytes_w p0 p1 p2 p3 p4 p5 p6 p7 p8 p9 p10 p11 p12 p13 p14 h) ?_
    rw [h]
    refine bnd_eq (x := false) (bnd_eq rfl (bnd_eq ((chk_w p0 p1 p2 p3 p4 p5 p6 p7 p8 p9 p10 p11 p12 p13 p14).trans (by rw [h] <;> rfl)) (bif_eq_f rfl (bnd_eq rfl (bnd_eq (all_w p0 p1 p2 p3 p4 p5 p6 p7 p8 p9 p10 p11 p12 p13 p14 p15 p16 p17 p18 p19 p20 p21 p22 p23 p24 p25 p26) (bnd_eq (refall_w p0 p1 p2 p3 p4 p5 p6 p7 p8 p9 p10 p11 p12 p13 p14 p15 p16 p17 p18 p19 p20 p21 p22 p23 p24 p25 p26) ?_)))))) (bif_eq_f rfl (bif_eq_f rfl ?_))
    · show some (bif false then true else !(all p0 p1 p2 p3 p4 p5 p6 p7 p8 p9 p10 p11 p12 p13 p14 p15 p16 p17 p18 p19 p20 p21 p22 p23 p24 p25 p26 == all p0 p1 p2 p3 p4 p5 p6 p7 p8 p9 p10 p11 p12 p13 p14 p15 p16 p17 p18 p19 p20 p21 p22 p23 p24 p25 p26)) = _
      rw [bool_self]; rfl
    · refine bnd_eq (refbytes_w p0 p1 p2 p3 p4 p5 p6 p7 p8 p9 p10 p11 p12 p13 p14 h) ?_
      rw [beqs_self]
  · refine bnd_eq (bytes_no p0 p1 p2 p3 p4 p5 p6 p7 p8 p9 p10 p11 p12 p13 p14 h) ?_
    rw [h]
    refine bnd_eq (x := false) (bnd_eq rfl (bnd_eq ((chk_w p0 p1 p2 p3 p4 p5 p6 p7 p8 p9 p10 p11 p12 p13 p14).trans (by rw [h] <;> rfl)) (bif_eq_f rfl (bnd_eq rfl (bnd_eq (all_w p0 p1 p2 p3 p4 p5 p6 p7 p8 p9 p10 p11 p12 p13 p14 p15 p16 p17 p18 p19 p20 p21 p22 p23 p24 p25 p26) (bnd_eq (refall_w p0 p1 p2 p3 p4 p5 p6 p7 p8 p9 p10 p11 p12 p13 p14 p15 p16 p17 p18 p19 p20 p21 p22 p23 p24 p25 p26) ?_)))))) (bif_eq_f rfl (bif_eq_t rfl (bnd_eq (x := true) (bif_eq_t rfl (bnd_eq rfl (bnd_eq ((chk_w p0 p1 p2 p3 p4 p5 p6 p7 p8 p9 p10 p11 p12 p13 p14).trans (by rw [h] <;> rfl)) rfl))) rfl)))
    show some (bif false then true else !(all p0 p1 p2 p3 p4 p5 p6 p7 p8 p9 p10 p11 p12 p13 p14 p15 p16 p17 p18 p19 p20 p21 p22 p23 p24 p25 p26 == all p0 p1 p2 p3 p4 p5 p6 p7 p8 p9 p10 p11 p12 p13 p14 p15 p16 p17 p18 p19 p20 p21 p22 p23 p24 p25 p26)) = _
    rw [bool_self]; rfl
end Go.Fo
