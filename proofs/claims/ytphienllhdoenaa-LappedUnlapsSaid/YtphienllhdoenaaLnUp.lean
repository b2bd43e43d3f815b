/- The samples of any waves: the plain fact. -/
import Derived.Test.YtphienllhdoenaaLnUe
namespace Go.Fo
set_option maxRecDepth 6000
theorem alive9_w : psalterylaw09_alive 1100 = some true := by kernel_rfl
theorem length_w {p : Int} (h0 : 0 ≤ p) (h1 : p < 256) : ∃ n : Nat, NN n ∧ psalterylaw09_length 1100 p = some (n : Int) := by
  have e : kwrap .i64 p = p := kw_i64 (by omega) (by omega)
  have e2 : Int.tmod p 4 = p % 4 := Int.tmod_eq_emod_of_nonneg h0
  have hq : p % 4 = 0 ∨ p % 4 = 1 ∨ p % 4 = 2 ∨ p % 4 = 3 := by omega
  have : ∀ q : Int, (q = 0 ∨ q = 1 ∨ q = 2 ∨ q = 3) → ∃ n : Nat, NN n ∧ (gd ((0 : Int) ≤ q ∧ q < (([40, 60, 80, 120] : List Int).length : Int)) <| some (Kd.nth (.int .i64) [40, 60, 80, 120] (Int.toNat q)) : Option Int) = some (n : Int) := by
    intro q hq
    rcases hq with rfl | rfl | rfl | rfl
    · exact ⟨40, by unfold NN; omega, rfl⟩
    · exact ⟨60, by unfold NN; omega, rfl⟩
    · exact ⟨80, by unfold NN; omega, rfl⟩
    · exact ⟨120, by unfold NN; omega, rfl⟩
  obtain ⟨n, hn, hr⟩ := this _ hq
  refine ⟨n, hn, ?_⟩
  refine bnd_eq (x := [40, 60, 80, 120]) rfl ?_
  rw [e, e2]
  exact hr
theorem same32_w {l : List Int} (hl : l.length ≤ 1000) : psalteryref08_Same32 1100 l l = some true := by
  refine bif_eq_f (by simp) ?_
  refine bnd_eq (x := .inl ()) ?_ rfl
  refine cnt_loop0 (r := psalteryref08_Same32.r0 1100 l l) l.length (some (.inl ())) (fun next k hk => ?_) (fun next => ?_) (by omega)
  · refine bif_eq_t (decide_eq_true (by omega)) ?_
    refine gd_eq (by omega) ?_
    refine gd_eq (by omega) ?_
    refine bif_eq_f (by simp) ?_
    show next _ = _
    rw [kw_i64 (by omega) (by omega)]; rfl
  · exact bif_eq_f (decide_eq_false (by omega)) rfl
theorem block_w {n : Nat} (hn : NN n) (u v x1 x2 : List Int) (l : List Int) {a : Nat} (ha : a ≤ 1000) (hl : l.length ≤ 1000) : ∃ x, x.length = n ∧ psalterylaw09_LappedUnlaps.l1 1100 l (n : Int) u (a : Int) v x1 x2 1100 0 (List.replicate n 0) = some x := by
  obtain ⟨h1, h2⟩ := hn.b
  have go : ∀ (m i e : Nat) (x : List Int), i + m = n → x.length = n → ∃ y, y.length = n ∧ psalterylaw09_LappedUnlaps.l1 1100 l (n : Int) u (a : Int) v x1 x2 (m + e + 1) (i : Int) x = some y := by
    intro m
    induction m with
    | zero =>
      intro i e x hi hx
      refine ⟨x, hx, ?_⟩
      show psalterylaw09_LappedUnlaps.r1 1100 l (n : Int) u (a : Int) v x1 x2 (psalterylaw09_LappedUnlaps.l1 1100 l (n : Int) u (a : Int) v x1 x2 (0 + e)) (i : Int) x = _
      refine bif_eq_f ?_ rfl
      rw [decide_eq_false (by omega)]; rfl
    | succ m ih =>
      intro i e x hi hx
      have ek : kwrap .i64 ((a : Int) + (i : Int)) = (a : Int) + (i : Int) := kw_i64 (by omega) (by omega)
      show ∃ y, y.length = n ∧ psalterylaw09_LappedUnlaps.r1 1100 l (n : Int) u (a : Int) v x1 x2 (psalterylaw09_LappedUnlaps.l1 1100 l (n : Int) u (a : Int) v x1 x2 (m + 1 + e)) (i : Int) x = some y
      unfold psalterylaw09_LappedUnlaps.r1
      rw [ek]
      by_cases hc : (a : Int) + (i : Int) < (l.length : Int)
      · obtain ⟨y, hy, hr⟩ := ih (i + 1) e (List.set x i (Kd.nth (.int .i32) l (Int.toNat ((a : Int) + (i : Int))))) (by omega) (by rw [List.length_set]; exact hx)
        refine ⟨y, hy, ?_⟩
        refine bif_eq_t (by rw [decide_eq_true (show (i : Int) < (n : Int) by omega), decide_eq_true hc]; rfl) ?_
        refine gd_eq (by rw [hx]; omega) ?_
        rw [kw_i64 (x := (i : Int) + 1) (by omega) (by omega), Int.toNat_natCast, show m + 1 + e = m + e + 1 by omega]
        exact hr
      · refine ⟨x, hx, ?_⟩
        refine bif_eq_f ?_ rfl
        rw [decide_eq_false hc]
        cases decide ((i : Int) < (n : Int)) <;> rfl
  obtain ⟨y, hy, hr⟩ := go n 0 (1100 - n - 1) (List.replicate n 0) (by omega) List.length_replicate
  rw [show n + (1100 - n - 1) + 1 = 1100 by omega] at hr
  exact ⟨y, hy, hr⟩

theorem unlaps_loop {n : Nat} (hn : NN n) {w : List Int} (hw : w.length = 2 * n) (hr : psalteryref09_Window 1100 (n : Int) = some w) (l : List Int) (hl : l.length ≤ 300) :
    ∀ (m a e : Nat) (o : List Int) (ov : Nat → Int), l.length ≤ a + m → a ≤ 700 → Over n o ov → psalterylaw09_LappedUnlaps.l0 1100 l (n : Int) w (trn n) (m + e + 1) o (a : Int) (tabOf ov n) = some (.inl ())
  | 0, a, e, o, ov, h, _, _ => by
    show psalterylaw09_LappedUnlaps.r0 1100 l (n : Int) w (trn n) (psalterylaw09_LappedUnlaps.l0 1100 l (n : Int) w (trn n) (0 + e)) o (a : Int) (tabOf ov n) = _
    exact bif_eq_f (decide_eq_false (by omega)) rfl
  | m + 1, a, e, o, ov, h, ha, ho => by
    obtain ⟨h1, h2⟩ := hn.b
    show psalterylaw09_LappedUnlaps.r0 1100 l (n : Int) w (trn n) (psalterylaw09_LappedUnlaps.l0 1100 l (n : Int) w (trn n) (m + 1 + e)) o (a : Int) (tabOf ov n) = _
    by_cases hc : a < l.length
    · obtain ⟨x, hx, hp⟩ := block_w hn o w (trn n) (tabOf ov n) l (a := a) (by omega) (by omega)
      refine bif_eq_t (decide_eq_true (by omega)) ?_
      refine gd_eq (by omega) ?_
      rw [Int.toNat_natCast]
      refine bnd_eq hp ?_
      refine bnd_eq (unfeed_w 1100 hn (by decide) ov hx hw) ?_
      refine bnd_eq (unlap_w hn ho hx hw hr) ?_
      refine bnd_eq (same32_w (by rw [tabOf_len]; omega)) ?_
      refine bif_eq_f rfl ?_
      refine bnd_eq (back_w hn hx hw hr) ?_
      rw [kw_i64 (x := (a : Int) + (n : Int)) (by omega) (by omega), show (a : Int) + (n : Int) = ((a + n : Nat) : Int) by omega, show m + 1 + e = m + e + 1 by omega]
      exact unlaps_loop hn hw hr l hl m (a + n) e _ _ (by omega) (by omega) ⟨fun j => smp_b n w x (n + j), .inr ⟨_, rfl, fun j => rfl⟩⟩
    · exact bif_eq_f (decide_eq_false (by omega)) rfl
theorem unlaps_w {p : Int} (h0 : 0 ≤ p) (h1 : p < 256) (l : List Int) : psalterylaw09_LappedUnlaps 1100 p l = some true := by
  obtain ⟨n, hn, hp⟩ := length_w h0 h1
  obtain ⟨w, q1, q2, q3, hw, hnew, hr⟩ := newu_w hn
  obtain ⟨h1, h2⟩ := hn.b
  refine bnd_eq alive9_w ?_
  refine bif_eq_f rfl ?_
  refine bnd_eq hp ?_
  refine bnd_eq (x := ()) rfl ?_
  refine bnd_eq hnew ?_
  dsimp only
  by_cases hl : (l.length : Int) > 300
  · exact bif_eq_t (decide_eq_true hl) rfl
  · refine bif_eq_f (decide_eq_false hl) ?_
    have := unlaps_loop hn hw hr l (by omega) 400 0 699 [] (fun _ => 0) (by omega) (by omega) ⟨fun _ => by omega, .inl ⟨rfl, fun _ => rfl⟩⟩
    rw [zeros_tab]
    exact bnd_eq this rfl
end Go.Fo
