/- The reference of what an end can, and what it allows. -/
import Derived.Test.YtcaehpgdcjonfaaOcV
namespace Go.Fo

def psl (a b : Int) : Unit ⊕ Bool := if 20 ≤ a ∧ a ≤ b ∧ b ≤ 120 then .inl () else .inr false
def pss (a b : Int) : Unit ⊕ Bool := if 2 ≤ a ∧ a ≤ b ∧ b ≤ 250 then .inl () else .inr false
theorem refchk_w (p0 p1 p2 p3 p4 p5 p6 p7 p8 p9 p10 p11 p12 p13 p14 : Int) : psalteryref23_Check 300 p0 p1 p2 p3 p4 p5 p6 p7 p8 p9 p10 p11 p12 p13 p14 = some (chk p0 p1 p2 p3 p4 p5 p6 p7 p8 p9 p10 p11 p12 p13 p14) := by
  unfold psalteryref23_Check
  dsimp only
  rcases Bool.eq_false_or_eq_true (z8 p0 p1 p2 p3 p4 p5 p6 p7) with e8 | e8 <;> rcases Bool.eq_false_or_eq_true (z5 p8 p9 p10 p11 p12) with e5 | e5 <;> rw [show ((p0 == 0) && ((p1 == 0) && ((p2 == 0) && ((p3 == 0) && ((p4 == 0) && ((p5 == 0) && ((p6 == 0) && ((p7 == 0))))))))) = _ from e8, show ((p8 == 0) && ((p9 == 0) && ((p10 == 0) && ((p11 == 0) && ((p12 == 0)))))) = _ from e5] <;> simp only [cond_true, cond_false, Bool.not_true, Bool.not_false, Option.bind_some]
  · exact (by rw [show chk p0 p1 p2 p3 p4 p5 p6 p7 p8 p9 p10 p11 p12 p13 p14 = false from eq_false_of_ne_true fun h => by unfold chk mayS mayL at h; rw [e8, e5] at h; simp only [Bool.and_eq_true, Bool.or_eq_true, Bool.not_true, Bool.not_false, Bool.false_eq_true, false_or, true_or, or_true, or_false, true_and, and_true, false_and, and_false, span_t, set_t] at h <;> omega])
  · by_cases hq : 1 ≤ p13 ∧ p13 ≤ 16 ∧ 1 ≤ p14 ∧ p14 ≤ 8
    · refine bif_eq_f (by refine eq_false_of_ne_true fun h => ?_; simp only [Bool.cond_true_left, Bool.or_eq_true, decide_eq_true_eq] at h; omega) ?_
      by_cases hL : 1 ≤ p8 ∧ p8 ≤ 15 ∧ 1 ≤ p9 ∧ p9 ≤ 3 ∧ 1 ≤ p10 ∧ p10 ≤ 15
      · refine bnd_eq (x := psl p11 p12) (bif_eq_f (by refine eq_false_of_ne_true fun h => ?_; simp only [Bool.cond_true_left, Bool.or_eq_true, decide_eq_true_eq] at h; omega) ?_) ?_
        · by_cases hM : 20 ≤ p11 ∧ p11 ≤ p12 ∧ p12 ≤ 120
          · rw [show psl p11 p12 = .inl () from if_pos hM]; exact bif_eq_f (by refine eq_false_of_ne_true fun h => ?_; simp only [Bool.cond_true_left, Bool.or_eq_true, decide_eq_true_eq] at h; omega) rfl
          · rw [show psl p11 p12 = .inr false from if_neg hM]; exact bif_eq_t (by refine eq_true_of_ne_false fun h => ?_; simp only [Bool.cond_true_left, Bool.or_eq_false_iff, decide_eq_false_iff_not] at h; omega) rfl
        · by_cases hM : 20 ≤ p11 ∧ p11 ≤ p12 ∧ p12 ≤ 120
          · rw [show psl p11 p12 = .inl () from if_pos hM]; exact (by rw [show chk p0 p1 p2 p3 p4 p5 p6 p7 p8 p9 p10 p11 p12 p13 p14 = true by unfold chk mayS mayL; rw [e8, e5]; simp only [Bool.and_eq_true, Bool.or_eq_true, Bool.not_true, Bool.not_false, Bool.false_eq_true, false_or, true_or, or_true, or_false, true_and, and_true, false_and, and_false, span_t, set_t] <;> omega])
          · rw [show psl p11 p12 = .inr false from if_neg hM]; exact (by rw [show chk p0 p1 p2 p3 p4 p5 p6 p7 p8 p9 p10 p11 p12 p13 p14 = false from eq_false_of_ne_true fun h => by unfold chk mayS mayL at h; rw [e8, e5] at h; simp only [Bool.and_eq_true, Bool.or_eq_true, Bool.not_true, Bool.not_false, Bool.false_eq_true, false_or, true_or, or_true, or_false, true_and, and_true, false_and, and_false, span_t, set_t] at h <;> omega])
      · exact (bnd_eq (bif_eq_t (by refine eq_true_of_ne_false fun h => ?_; simp only [Bool.cond_true_left, Bool.or_eq_false_iff, decide_eq_false_iff_not] at h; omega) rfl) rfl).trans (by rw [show chk p0 p1 p2 p3 p4 p5 p6 p7 p8 p9 p10 p11 p12 p13 p14 = false from eq_false_of_ne_true fun h => by unfold chk mayS mayL at h; rw [e8, e5] at h; simp only [Bool.and_eq_true, Bool.or_eq_true, Bool.not_true, Bool.not_false, Bool.false_eq_true, false_or, true_or, or_true, or_false, true_and, and_true, false_and, and_false, span_t, set_t] at h <;> omega])
    · exact (bif_eq_t (by refine eq_true_of_ne_false fun h => ?_; simp only [Bool.cond_true_left, Bool.or_eq_false_iff, decide_eq_false_iff_not] at h; omega) rfl).trans (by rw [show chk p0 p1 p2 p3 p4 p5 p6 p7 p8 p9 p10 p11 p12 p13 p14 = false from eq_false_of_ne_true fun h => by unfold chk mayS mayL at h; rw [e8, e5] at h; simp only [Bool.and_eq_true, Bool.or_eq_true, Bool.not_true, Bool.not_false, Bool.false_eq_true, false_or, true_or, or_true, or_false, true_and, and_true, false_and, and_false, span_t, set_t] at h <;> omega])
  · by_cases hq : 1 ≤ p13 ∧ p13 ≤ 16 ∧ 1 ≤ p14 ∧ p14 ≤ 8
    · refine bif_eq_f (by refine eq_false_of_ne_true fun h => ?_; simp only [Bool.cond_true_left, Bool.or_eq_true, decide_eq_true_eq] at h; omega) ?_
      by_cases hS : 1 ≤ p0 ∧ p0 ≤ 15 ∧ 1 ≤ p1 ∧ p1 ≤ 3 ∧ 1 ≤ p2 ∧ p2 ≤ 3 ∧ 1 ≤ p3 ∧ p3 ≤ 15 ∧ 1 ≤ p4 ∧ p4 ≤ 3 ∧ 1 ≤ p5 ∧ p5 ≤ 3
      · refine bnd_eq (x := pss p6 p7) (bif_eq_f (by refine eq_false_of_ne_true fun h => ?_; simp only [Bool.cond_true_left, Bool.or_eq_true, decide_eq_true_eq] at h; omega) ?_) ?_
        · by_cases hM : 2 ≤ p6 ∧ p6 ≤ p7 ∧ p7 ≤ 250
          · rw [show pss p6 p7 = .inl () from if_pos hM]; exact bif_eq_f (by refine eq_false_of_ne_true fun h => ?_; simp only [Bool.cond_true_left, Bool.or_eq_true, decide_eq_true_eq] at h; omega) rfl
          · rw [show pss p6 p7 = .inr false from if_neg hM]; exact bif_eq_t (by refine eq_true_of_ne_false fun h => ?_; simp only [Bool.cond_true_left, Bool.or_eq_false_iff, decide_eq_false_iff_not] at h; omega) rfl
        · by_cases hN : 2 ≤ p6 ∧ p6 ≤ p7 ∧ p7 ≤ 250
          · rw [show pss p6 p7 = .inl () from if_pos hN]
            dsimp only
            exact (by rw [show chk p0 p1 p2 p3 p4 p5 p6 p7 p8 p9 p10 p11 p12 p13 p14 = true by unfold chk mayS mayL; rw [e8, e5]; simp only [Bool.and_eq_true, Bool.or_eq_true, Bool.not_true, Bool.not_false, Bool.false_eq_true, false_or, true_or, or_true, or_false, true_and, and_true, false_and, and_false, span_t, set_t] <;> omega])
          · rw [show pss p6 p7 = .inr false from if_neg hN]; exact (by rw [show chk p0 p1 p2 p3 p4 p5 p6 p7 p8 p9 p10 p11 p12 p13 p14 = false from eq_false_of_ne_true fun h => by unfold chk mayS mayL at h; rw [e8, e5] at h; simp only [Bool.and_eq_true, Bool.or_eq_true, Bool.not_true, Bool.not_false, Bool.false_eq_true, false_or, true_or, or_true, or_false, true_and, and_true, false_and, and_false, span_t, set_t] at h <;> omega])
      · exact (bnd_eq (bif_eq_t (by refine eq_true_of_ne_false fun h => ?_; simp only [Bool.cond_true_left, Bool.or_eq_false_iff, decide_eq_false_iff_not] at h; omega) rfl) rfl).trans (by rw [show chk p0 p1 p2 p3 p4 p5 p6 p7 p8 p9 p10 p11 p12 p13 p14 = false from eq_false_of_ne_true fun h => by unfold chk mayS mayL at h; rw [e8, e5] at h; simp only [Bool.and_eq_true, Bool.or_eq_true, Bool.not_true, Bool.not_false, Bool.false_eq_true, false_or, true_or, or_true, or_false, true_and, and_true, false_and, and_false, span_t, set_t] at h <;> omega])
    · exact (bif_eq_t (by refine eq_true_of_ne_false fun h => ?_; simp only [Bool.cond_true_left, Bool.or_eq_false_iff, decide_eq_false_iff_not] at h; omega) rfl).trans (by rw [show chk p0 p1 p2 p3 p4 p5 p6 p7 p8 p9 p10 p11 p12 p13 p14 = false from eq_false_of_ne_true fun h => by unfold chk mayS mayL at h; rw [e8, e5] at h; simp only [Bool.and_eq_true, Bool.or_eq_true, Bool.not_true, Bool.not_false, Bool.false_eq_true, false_or, true_or, or_true, or_false, true_and, and_true, false_and, and_false, span_t, set_t] at h <;> omega])
  · by_cases hq : 1 ≤ p13 ∧ p13 ≤ 16 ∧ 1 ≤ p14 ∧ p14 ≤ 8
    · refine bif_eq_f (by refine eq_false_of_ne_true fun h => ?_; simp only [Bool.cond_true_left, Bool.or_eq_true, decide_eq_true_eq] at h; omega) ?_
      by_cases hS : 1 ≤ p0 ∧ p0 ≤ 15 ∧ 1 ≤ p1 ∧ p1 ≤ 3 ∧ 1 ≤ p2 ∧ p2 ≤ 3 ∧ 1 ≤ p3 ∧ p3 ≤ 15 ∧ 1 ≤ p4 ∧ p4 ≤ 3 ∧ 1 ≤ p5 ∧ p5 ≤ 3
      · refine bnd_eq (x := pss p6 p7) (bif_eq_f (by refine eq_false_of_ne_true fun h => ?_; simp only [Bool.cond_true_left, Bool.or_eq_true, decide_eq_true_eq] at h; omega) ?_) ?_
        · by_cases hM : 2 ≤ p6 ∧ p6 ≤ p7 ∧ p7 ≤ 250
          · rw [show pss p6 p7 = .inl () from if_pos hM]; exact bif_eq_f (by refine eq_false_of_ne_true fun h => ?_; simp only [Bool.cond_true_left, Bool.or_eq_true, decide_eq_true_eq] at h; omega) rfl
          · rw [show pss p6 p7 = .inr false from if_neg hM]; exact bif_eq_t (by refine eq_true_of_ne_false fun h => ?_; simp only [Bool.cond_true_left, Bool.or_eq_false_iff, decide_eq_false_iff_not] at h; omega) rfl
        · by_cases hN : 2 ≤ p6 ∧ p6 ≤ p7 ∧ p7 ≤ 250
          · rw [show pss p6 p7 = .inl () from if_pos hN]
            dsimp only
            by_cases hL : 1 ≤ p8 ∧ p8 ≤ 15 ∧ 1 ≤ p9 ∧ p9 ≤ 3 ∧ 1 ≤ p10 ∧ p10 ≤ 15
            · refine bnd_eq (x := psl p11 p12) (bif_eq_f (by refine eq_false_of_ne_true fun h => ?_; simp only [Bool.cond_true_left, Bool.or_eq_true, decide_eq_true_eq] at h; omega) ?_) ?_
              · by_cases hM : 20 ≤ p11 ∧ p11 ≤ p12 ∧ p12 ≤ 120
                · rw [show psl p11 p12 = .inl () from if_pos hM]; exact bif_eq_f (by refine eq_false_of_ne_true fun h => ?_; simp only [Bool.cond_true_left, Bool.or_eq_true, decide_eq_true_eq] at h; omega) rfl
                · rw [show psl p11 p12 = .inr false from if_neg hM]; exact bif_eq_t (by refine eq_true_of_ne_false fun h => ?_; simp only [Bool.cond_true_left, Bool.or_eq_false_iff, decide_eq_false_iff_not] at h; omega) rfl
              · by_cases hM : 20 ≤ p11 ∧ p11 ≤ p12 ∧ p12 ≤ 120
                · rw [show psl p11 p12 = .inl () from if_pos hM]; exact (by rw [show chk p0 p1 p2 p3 p4 p5 p6 p7 p8 p9 p10 p11 p12 p13 p14 = true by unfold chk mayS mayL; rw [e8, e5]; simp only [Bool.and_eq_true, Bool.or_eq_true, Bool.not_true, Bool.not_false, Bool.false_eq_true, false_or, true_or, or_true, or_false, true_and, and_true, false_and, and_false, span_t, set_t] <;> omega])
                · rw [show psl p11 p12 = .inr false from if_neg hM]; exact (by rw [show chk p0 p1 p2 p3 p4 p5 p6 p7 p8 p9 p10 p11 p12 p13 p14 = false from eq_false_of_ne_true fun h => by unfold chk mayS mayL at h; rw [e8, e5] at h; simp only [Bool.and_eq_true, Bool.or_eq_true, Bool.not_true, Bool.not_false, Bool.false_eq_true, false_or, true_or, or_true, or_false, true_and, and_true, false_and, and_false, span_t, set_t] at h <;> omega])
            · exact (bnd_eq (bif_eq_t (by refine eq_true_of_ne_false fun h => ?_; simp only [Bool.cond_true_left, Bool.or_eq_false_iff, decide_eq_false_iff_not] at h; omega) rfl) rfl).trans (by rw [show chk p0 p1 p2 p3 p4 p5 p6 p7 p8 p9 p10 p11 p12 p13 p14 = false from eq_false_of_ne_true fun h => by unfold chk mayS mayL at h; rw [e8, e5] at h; simp only [Bool.and_eq_true, Bool.or_eq_true, Bool.not_true, Bool.not_false, Bool.false_eq_true, false_or, true_or, or_true, or_false, true_and, and_true, false_and, and_false, span_t, set_t] at h <;> omega])
          · rw [show pss p6 p7 = .inr false from if_neg hN]; exact (by rw [show chk p0 p1 p2 p3 p4 p5 p6 p7 p8 p9 p10 p11 p12 p13 p14 = false from eq_false_of_ne_true fun h => by unfold chk mayS mayL at h; rw [e8, e5] at h; simp only [Bool.and_eq_true, Bool.or_eq_true, Bool.not_true, Bool.not_false, Bool.false_eq_true, false_or, true_or, or_true, or_false, true_and, and_true, false_and, and_false, span_t, set_t] at h <;> omega])
      · exact (bnd_eq (bif_eq_t (by refine eq_true_of_ne_false fun h => ?_; simp only [Bool.cond_true_left, Bool.or_eq_false_iff, decide_eq_false_iff_not] at h; omega) rfl) rfl).trans (by rw [show chk p0 p1 p2 p3 p4 p5 p6 p7 p8 p9 p10 p11 p12 p13 p14 = false from eq_false_of_ne_true fun h => by unfold chk mayS mayL at h; rw [e8, e5] at h; simp only [Bool.and_eq_true, Bool.or_eq_true, Bool.not_true, Bool.not_false, Bool.false_eq_true, false_or, true_or, or_true, or_false, true_and, and_true, false_and, and_false, span_t, set_t] at h <;> omega])
    · exact (bif_eq_t (by refine eq_true_of_ne_false fun h => ?_; simp only [Bool.cond_true_left, Bool.or_eq_false_iff, decide_eq_false_iff_not] at h; omega) rfl).trans (by rw [show chk p0 p1 p2 p3 p4 p5 p6 p7 p8 p9 p10 p11 p12 p13 p14 = false from eq_false_of_ne_true fun h => by unfold chk mayS mayL at h; rw [e8, e5] at h; simp only [Bool.and_eq_true, Bool.or_eq_true, Bool.not_true, Bool.not_false, Bool.false_eq_true, false_or, true_or, or_true, or_false, true_and, and_true, false_and, and_false, span_t, set_t] at h <;> omega])
theorem has_all : (List.range 16).all (fun a => (List.range 4).all fun b => decide (psalteryref23_has 300 (a : Int) (b : Int) = some (inB (a : Int) (b : Int)))) = true := by kernel_rfl
theorem has_w (s i : Int) (h : 0 ≤ s ∧ s ≤ 15) (k : 0 ≤ i ∧ i ≤ 3) : psalteryref23_has 300 s i = some (inB s i) := by
  have := of_decide_eq_true (List.all_eq_true.1 (List.all_eq_true.1 has_all s.toNat (List.mem_range.2 (by omega))) i.toNat (List.mem_range.2 (by omega)))
  rw [Int.toNat_of_nonneg h.1, Int.toNat_of_nonneg k.1] at this
  exact this
theorem rng15 (p0 p1 p2 p3 p4 p5 p6 p7 p8 p9 p10 p11 p12 p13 p14 : Int) (h : chk p0 p1 p2 p3 p4 p5 p6 p7 p8 p9 p10 p11 p12 p13 p14 = true) : (0 ≤ p0 ∧ p0 ≤ 15) ∧ (0 ≤ p1 ∧ p1 ≤ 15) ∧ (0 ≤ p2 ∧ p2 ≤ 15) ∧ (0 ≤ p3 ∧ p3 ≤ 15) ∧ (0 ≤ p4 ∧ p4 ≤ 15) ∧ (0 ≤ p5 ∧ p5 ≤ 15) ∧ (0 ≤ p8 ∧ p8 ≤ 15) ∧ (0 ≤ p9 ∧ p9 ≤ 15) ∧ (0 ≤ p10 ∧ p10 ≤ 15) := by
  unfold chk mayS mayL at h
  simp only [Bool.and_eq_true, Bool.or_eq_true, set_t, span_t] at h
  obtain ⟨_, h1, h2, _⟩ := h
  have g1 : (0 ≤ p0 ∧ p0 ≤ 15) ∧ (0 ≤ p1 ∧ p1 ≤ 15) ∧ (0 ≤ p2 ∧ p2 ≤ 15) ∧ (0 ≤ p3 ∧ p3 ≤ 15) ∧ (0 ≤ p4 ∧ p4 ≤ 15) ∧ (0 ≤ p5 ∧ p5 ≤ 15) := by
    rcases h1 with h1 | h1
    · unfold z8 at h1
      simp only [Bool.and_eq_true, beq_iff_eq] at h1
      omega
    · omega
  have g2 : (0 ≤ p8 ∧ p8 ≤ 15) ∧ (0 ≤ p9 ∧ p9 ≤ 15) ∧ (0 ≤ p10 ∧ p10 ≤ 15) := by
    rcases h2 with h2 | h2
    · unfold z5 at h2
      simp only [Bool.and_eq_true, beq_iff_eq] at h2
      omega
    · omega
  omega
theorem span_self (x a b : Int) : spanB a x a b = (decide (x ≥ a) && decide (x ≤ b)) := by
  unfold spanB
  rw [decide_eq_true (Int.le_refl a)]; rfl
theorem and_tail {o : Option Bool} {b c d : Bool} (h : o = some b) : (o.bind fun r => some (bif (bif r then c else false) then d else false)) = some (b && (c && d)) := by
  subst h; cases b <;> cases c <;> rfl
theorem lt_not (a b : Int) : decide (a < b) = !decide (b ≤ a) := by
  by_cases e : b ≤ a
  · rw [decide_eq_true e, decide_eq_false (by omega)]; rfl
  · rw [decide_eq_false e, decide_eq_true (by omega)]; rfl
theorem refall_w (p0 p1 p2 p3 p4 p5 p6 p7 p8 p9 p10 p11 p12 p13 p14 p15 p16 p17 p18 p19 p20 p21 p22 p23 p24 p25 p26 : Int) : psalteryref23_Allows 300 p0 p1 p2 p3 p4 p5 p6 p7 p8 p9 p10 p11 p12 p13 p14 p15 p16 p17 p18 p19 p20 p21 p22 p23 p24 p25 p26 = some (all p0 p1 p2 p3 p4 p5 p6 p7 p8 p9 p10 p11 p12 p13 p14 p15 p16 p17 p18 p19 p20 p21 p22 p23 p24 p25 p26) := by
  refine bnd_eq (x := !(chk p0 p1 p2 p3 p4 p5 p6 p7 p8 p9 p10 p11 p12 p13 p14 && (okF p15 p16 p17 p18 p19 p20 p21 p22 p23 p24 && (spanB 1 p25 1 p13 && spanB 1 p26 1 p14)))) ?_ ?_
  · refine bnd_eq (refchk_w p0 p1 p2 p3 p4 p5 p6 p7 p8 p9 p10 p11 p12 p13 p14) ?_
    rcases Bool.eq_false_or_eq_true (chk p0 p1 p2 p3 p4 p5 p6 p7 p8 p9 p10 p11 p12 p13 p14) with b1 | b1
    · rw [b1]
      refine bif_eq_f rfl (bnd_eq (refcheck_w p15 p16 p17 p18 p19 p20 p21 p22 p23 p24) ?_)
      show some (bif (bif (bif (bif (!(okF p15 p16 p17 p18 p19 p20 p21 p22 p23 p24)) then true else decide (p25 < 1)) then true else decide (p25 > p13)) then true else decide (p26 < 1)) then true else decide (p26 > p14)) = _
      have n1 : decide (p25 < 1) = !decide (1 ≤ p25) := lt_not _ _
      have n2 : decide (p25 > p13) = !decide (p25 ≤ p13) := lt_not _ _
      have n3 : decide (p26 < 1) = !decide (1 ≤ p26) := lt_not _ _
      have n4 : decide (p26 > p14) = !decide (p26 ≤ p14) := lt_not _ _
      rw [n1, n2, n3, n4]
      unfold spanB
      rw [show decide ((1 : Int) ≤ 1) = true from rfl]
      cases okF p15 p16 p17 p18 p19 p20 p21 p22 p23 p24 <;> cases decide (1 ≤ p25) <;> cases decide (p25 ≤ p13) <;> cases decide (1 ≤ p26) <;> cases decide (p26 ≤ p14) <;> rfl
    · rw [b1]; rfl
  · unfold all
    rcases Bool.eq_false_or_eq_true (chk p0 p1 p2 p3 p4 p5 p6 p7 p8 p9 p10 p11 p12 p13 p14 && (okF p15 p16 p17 p18 p19 p20 p21 p22 p23 p24 && (spanB 1 p25 1 p13 && spanB 1 p26 1 p14))) with b | b
    · rw [b]
      refine bif_eq_f rfl ?_
      have b' := b
      simp only [Bool.and_eq_true] at b'
      obtain ⟨b1, b2, b3, b4⟩ := b'
      obtain ⟨q0, q1, q2, q3, q4, q5, q8, q9, q10⟩ := rng15 p0 p1 p2 p3 p4 p5 p6 p7 p8 p9 p10 p11 p12 p13 p14 b1
      rw [b1, b2, b3, b4]
      have ho : okP p15 p16 p17 p18 p19 p20 p21 p22 p23 p24 := of_decide_eq_true b2
      rcases ho with ⟨hs, _⟩ | hl
      · have e : (p15 == 1) = true := by rw [hs.1]; rfl
        refine bif_eq_t e ?_
        rw [e]
        obtain ⟨_, a1, a2, h2, h3, h4, h5, h6, f1, f2, f3, g1, g2⟩ := hs
        have hw : kwrap .i64 (p17 - 1) = p17 - 1 := kw_i64 (by omega) (by omega)
        have hk : kwrap .i64 (kwrap .i64 (Int.tdiv p19 4) - 1) = p19 / 4 - 1 := by rcases h4 with rfl | rfl | rfl | rfl <;> rfl
        have e1 : psalteryref23_has 300 p1 (kwrap .i64 (p17 - 1)) = some (inB p1 (p17 - 1)) := by rw [hw]; exact has_w _ _ q1 (by omega)
        have e3 : psalteryref23_has 300 p3 (kwrap .i64 (kwrap .i64 (Int.tdiv p19 4) - 1)) = some (inB p3 (p19 / 4 - 1)) := by rw [hk]; exact has_w _ _ q3 (by omega)
        refine bnd_eq (x := p18 / 8) (by rcases h3 with rfl | rfl <;> rfl) (bnd_eq ?_ rfl)
        refine (and_step (has_w _ _ q0 (by omega)) fun _ => and_step e1 fun _ => and_step (has_w _ _ q2 (by omega)) fun _ => and_step e3 fun _ => and_step (has_w _ _ q4 (by omega)) fun _ => and_tail (has_w _ _ q5 (by omega))).trans ?_
        unfold subA
        rw [span_self]; rfl
      · have e : (p15 == 1) = false := by rw [hl.1]; rfl
        refine bif_eq_f e ?_
        rw [e]
        obtain ⟨_, a1, a2, h2, h8, c1, c2, _⟩ := hl
        have hw : kwrap .i64 (p17 - 1) = p17 - 1 := kw_i64 (by omega) (by omega)
        have hi : 0 ≤ idx p23 ∧ idx p23 ≤ 3 := by rcases h8 with rfl | rfl | rfl | rfl <;> decide
        have e1 : psalteryref23_has 300 p9 (kwrap .i64 (p17 - 1)) = some (inB p9 (p17 - 1)) := by rw [hw]; exact has_w _ _ q9 (by omega)
        refine bnd_eq (x := idx p23) (by rcases h8 with rfl | rfl | rfl | rfl <;> rfl) (bnd_eq ?_ rfl)
        refine (and_step (has_w _ _ q8 (by omega)) fun _ => and_step e1 fun _ => and_tail (has_w _ _ q10 hi)).trans ?_
        unfold lapA
        rw [span_self]; rfl
    · rw [b]
      refine (bif_eq_t rfl rfl).trans ?_
      congr 1
      revert b
      cases chk p0 p1 p2 p3 p4 p5 p6 p7 p8 p9 p10 p11 p12 p13 p14 <;> cases okF p15 p16 p17 p18 p19 p20 p21 p22 p23 p24 <;> cases spanB 1 p25 1 p13 <;> cases spanB 1 p26 1 p14 <;> simp
end Go.Fo
