/- Windows: the plain fact. -/
import Derived.Test.YtphienllhdoenaaLwTb
import Derived.KernelRfl
namespace Go.Fo
set_option maxRecDepth 6000
theorem alive9_w : psalterylaw09_alive 1100 = some true := by kernel_rfl
/-- a window of a new bank: what is behind it, and that it is the document's -/
def chk (n : Int) : Bool := match lapped_Window 1100 n (List.replicate 388 none) 0 0, psalteryref09_Window 1100 n with
  | some (.inr (w, t, _, _)), some r => t.length == 388 && (match t[(2 * n).toNat]? with | some none => true | _ => false) && psalteryref04_Same 1100 w r == some true && lapped_Window_2 1100 n == some 3 && psalteryref09_May 1100 n == some true
  | _, _ => false
theorem chk_40 : chk 40 = true := by kernel_rfl
theorem chk_60 : chk 60 = true := by kernel_rfl
theorem chk_80 : chk 80 = true := by kernel_rfl
theorem chk_120 : chk 120 = true := by kernel_rfl
theorem of_new {n : Int} (hn : n = 40 ∨ n = 60 ∨ n = 80 ∨ n = 120) {w : List Int} {t : List (Option (List Int))} {a b : Int} (hw : lapped_Window 1100 n (List.replicate 388 none) 0 0 = some (.inr (w, t, a, b))) (hl : t.length = 388) (h0 : t[(2 * n).toNat]? = some none) :
    ∃ z, lapped_of 1100 n (List.replicate 388 none) 0 0 = some (.inr (.inr z)) := by
  have hm : mayTurn (8 * n) = true := by rcases hn with rfl | rfl | rfl | rfl <;> rfl
  have hk : kwrap .i64 (8 * n) = 8 * n := kw_i64 (by omega) (by omega)
  have ht := turn_w 1100 (by decide) (8 * n) t a b hl (fun m h => by
    rw [show (8 * n / 4).toNat = (2 * n).toNat by omega, h0] at h; simp at h)
  rw [hm, if_pos rfl] at ht
  generalize told t (8 * n / 4).toNat (tabOf (turnF (8 * n)) (8 * n).toNat) a b = q at ht
  obtain ⟨q1, q2, q3, q4⟩ := q
  refine ⟨(w, q1, q2, q3, q4), bnd_eq hw ?_⟩
  dsimp only
  rw [hk]
  exact bnd_eq ht rfl
theorem win_w {n : Int} (hn : n = 40 ∨ n = 60 ∨ n = 80 ∨ n = 120) (hc : chk n = true) : psalterylaw09_LappedWindows 1100 n = some true := by
  unfold chk at hc
  split at hc
  · rename_i w t a b r hw hr
    simp only [Bool.and_eq_true, beq_iff_eq] at hc
    obtain ⟨⟨⟨⟨c1, c2⟩, c3⟩, c4⟩, c5⟩ := hc
    have h0 : t[(2 * n).toNat]? = some none := by
      split at c2
      · assumption
      · cases c2
    obtain ⟨⟨z1, z2, z3, z4, z5⟩, ho⟩ := of_new hn hw c1 h0
    have hg1 : (0 : Int) ≤ n ∧ n ≤ n ∧ n * 2 ≤ 140737488355328 := by omega
    have hg2 : (0 : Int) ≤ n ∧ n ≤ n ∧ n * 4 ≤ 140737488355328 := by omega
    refine bnd_eq alive9_w ?_
    refine bif_eq_f rfl ?_
    refine bnd_eq (x := ()) rfl ?_
    refine bnd_eq hw ?_
    refine bnd_eq (x := ()) rfl ?_
    refine bnd_eq (bnd_eq ho (gd_eq hg1 rfl)) ?_
    refine bnd_eq (x := ()) rfl ?_
    refine bnd_eq (bnd_eq ho (gd_eq hg2 rfl)) ?_
    refine bnd_eq c4 ?_
    refine bnd_eq c5 ?_
    refine bif_eq_f rfl ?_
    refine bnd_eq (x := true) ?_ rfl
    refine bif_eq_t rfl ?_
    refine bnd_eq hr ?_
    exact bnd_eq c3 rfl
  · cases hc
theorem no_w {n : Int} (h1 : n ≠ 40) (h2 : n ≠ 60) (h3 : n ≠ 80) (h4 : n ≠ 120) : slices_Contains_int_int 1100 [40, 60, 80, 120] n = some false := by
  refine bnd_eq (x := -1) ?_ rfl
  refine bnd_eq (x := .inl ()) ?_ rfl
  show slices_Index_int_int.r0 1100 [40, 60, 80, 120] n 4 (slices_Index_int_int.l0 1100 [40, 60, 80, 120] n 4 1099) 0 = _
  refine bif_eq_f (beq_eq_false_iff_ne.2 h1) ?_
  show slices_Index_int_int.r0 1100 [40, 60, 80, 120] n 4 (slices_Index_int_int.l0 1100 [40, 60, 80, 120] n 4 1098) 1 = _
  refine bif_eq_f (beq_eq_false_iff_ne.2 h2) ?_
  show slices_Index_int_int.r0 1100 [40, 60, 80, 120] n 4 (slices_Index_int_int.l0 1100 [40, 60, 80, 120] n 4 1097) 2 = _
  refine bif_eq_f (beq_eq_false_iff_ne.2 h3) ?_
  show slices_Index_int_int.r0 1100 [40, 60, 80, 120] n 4 (slices_Index_int_int.l0 1100 [40, 60, 80, 120] n 4 1096) 3 = _
  refine bif_eq_f (beq_eq_false_iff_ne.2 h4) ?_
  rfl
theorem nowin_w {n : Int} (h1 : n ≠ 40) (h2 : n ≠ 60) (h3 : n ≠ 80) (h4 : n ≠ 120) (t : List (Option (List Int))) (a b : Int) : lapped_Window 1100 n t a b = some (.inl ()) := by
  refine bnd_eq (x := ()) rfl ?_
  refine bnd_eq (no_w h1 h2 h3 h4) ?_
  exact bif_eq_t rfl rfl
theorem windows_w (n : Int) : psalterylaw09_LappedWindows 1100 n = some true := by
  by_cases h1 : n = 40
  · rw [h1]; exact win_w (by decide) chk_40
  by_cases h2 : n = 60
  · rw [h2]; exact win_w (by decide) chk_60
  by_cases h3 : n = 80
  · rw [h3]; exact win_w (by decide) chk_80
  by_cases h4 : n = 120
  · rw [h4]; exact win_w (by decide) chk_120
  refine bnd_eq alive9_w ?_
  refine bif_eq_f rfl ?_
  refine bnd_eq (x := ()) rfl ?_
  refine bnd_eq (nowin_w h1 h2 h3 h4 _ _ _) ?_
  refine bnd_eq (x := ()) rfl ?_
  refine bnd_eq (x := .inl (List.replicate 388 none, 0, 0)) (bnd_eq (bnd_eq (nowin_w h1 h2 h3 h4 _ _ _) rfl) rfl) ?_
  refine bnd_eq (x := ()) rfl ?_
  refine bnd_eq (x := .inl (List.replicate 388 none, 0, 0)) (bnd_eq (bnd_eq (nowin_w h1 h2 h3 h4 _ _ _) rfl) rfl) ?_
  refine bnd_eq (x := 1) (bnd_eq (x := ()) rfl (bnd_eq (no_w h1 h2 h3 h4) (bif_eq_t rfl rfl))) ?_
  refine bnd_eq (x := false) ?_ rfl
  unfold psalteryref09_May
  rw [beq_eq_false_iff_ne.2 h1, beq_eq_false_iff_ne.2 h2, beq_eq_false_iff_ne.2 h3, beq_eq_false_iff_ne.2 h4]
  rfl
end Go.Fo
