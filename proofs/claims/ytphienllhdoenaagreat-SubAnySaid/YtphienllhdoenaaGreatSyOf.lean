/- Planes are played. -/
import Derived.Test.YtphienllhdoenaaGreatSyOe
namespace Go.Fo
set_option maxRecDepth 6000
theorem fits1_ok (p0 p1 p2 p3 p4 p5 p6 p7 p8 p9 : Int) {X : List (List Int)} (h : Sh p4 p3 X) (h4 : p4 ≤ 100) : Ok (fun r => r = true) (subband_fits_1 5000 X p0 p1 p2 p3 p4 p5 p6 p7 p8 p9) := by
  obtain ⟨h1, h2⟩ := h
  refine Ok.bind (Q := fun r => r = true) (Ok.bind (Q := fun r => r = true) (Ok.ite (fun _ => ?_) (fun c => ?_)) (fun r hr => Ok.some hr)) (fun r hr => Ok.some hr)
  · refine Ok.bind (Q := fun r => r = false) (Ok.bind (Q := fun r => r = -1) (Ok.bind (Q := fun z => z = .inl ()) ?_ (fun z hz => by rw [show z = .inl () from hz]; exact Ok.some rfl)) (fun r hr => Ok.some (by rw [show r = -1 from hr]; rfl))) (fun r hr => Ok.some (by rw [show r = false from hr]; rfl))
    unfold slices_IndexFunc_int32_int32.l0
    refine rounds_ok1 (fun i => 0 ≤ i ∧ i ≤ (X.length : Int)) (fun i => ((X.length : Int) - i).toNat) _ ?_ 5000 _ ⟨by omega, by omega⟩ (by omega)
    rintro next i ⟨g1, g2⟩ ih
    refine Ok.ite (fun d => ?_) (fun _ => Ok.some rfl)
    have d := dt d
    have hr : ((Kd.nth (.slice (.int .i32)) X (Int.toNat i)).length : Int) = p3 := h2 i g1 (by omega)
    refine Ok.gd ⟨g1, d⟩ (Ok.bind (Q := fun r => r = false) (Ok.bind (Q := fun r => r = true) (Ok.some ?_) (fun r hr => Ok.some (by rw [show r = true from hr]; rfl))) ?_)
    · show (((Kd.nth (.slice (.int .i32)) X (Int.toNat i)).length : Int) == p3) = true
      rw [hr]; simp
    · intro r hr
      rw [show r = false from hr]
      refine Ok.ite (fun h => by cases h) (fun _ => ?_)
      have e := kw1 (x := i) (by omega) (by omega)
      exact ih _ ⟨by omega, by omega⟩ (by omega)
  · have c : (((X.length : Int)) == p4) = false := c
    rw [h1] at c; simp at c
theorem fits_ok (p0 p1 p2 p3 p4 p5 p6 p7 p8 p9 : Int) {P : List (List (List Int))} (h : Cd p2 p4 p3 P) (h2 : p2 ≤ 100) (h4 : p4 ≤ 100) : Ok (fun r => r = true) (subband_fits 5000 p0 p1 p2 p3 p4 p5 p6 p7 p8 p9 P) := by
  obtain ⟨h1, hp⟩ := h
  refine Ok.bind (Q := fun r => r = true) (Ok.bind (Q := fun r => r = true) (Ok.ite (fun _ => ?_) (fun c => ?_)) (fun r hr => Ok.some hr)) (fun r hr => Ok.some hr)
  · refine Ok.bind (Q := fun r => r = false) (Ok.bind (Q := fun r => r = -1) (Ok.bind (Q := fun z => z = .inl ()) ?_ (fun z hz => by rw [show z = .inl () from hz]; exact Ok.some rfl)) (fun r hr => Ok.some (by rw [show r = -1 from hr]; rfl))) (fun r hr => Ok.some (by rw [show r = false from hr]; rfl))
    unfold slices_IndexFunc_int32_int32_2.l0
    refine rounds_ok1 (fun i => 0 ≤ i ∧ i ≤ (P.length : Int)) (fun i => ((P.length : Int) - i).toNat) _ ?_ 5000 _ ⟨by omega, by omega⟩ (by omega)
    rintro next i ⟨g1, g2⟩ ih
    refine Ok.ite (fun d => ?_) (fun _ => Ok.some rfl)
    have d := dt d
    refine Ok.gd ⟨g1, d⟩ (Ok.bind (Q := fun r => r = false) (Ok.bind (fits1_ok p0 p1 p2 p3 p4 p5 p6 p7 p8 p9 (hp i g1 (by omega)) h4) (fun r hr => Ok.some (by rw [show r = true from hr]; rfl))) ?_)
    intro r hr
    rw [show r = false from hr]
    refine Ok.ite (fun h => by cases h) (fun _ => ?_)
    have e := kw1 (x := i) (by omega) (by omega)
    exact ih _ ⟨by omega, by omega⟩ (by omega)
  · have c : (((P.length : Int)) == p2) = false := c
    rw [h1] at c; simp at c
theorem wave_ok {m : Int} (hm : m = 4 ∨ m = 8) (a b : Int) (x turn y : List Int) (ht : (turn.length : Int) = 8 * m) : Ok (fun _ => True) (poly_bands_wave 5000 a b m x turn y) := by
  have hd : kwrap .i64 (8 * m) = 8 * m := kw64 (by omega) (by omega)
  unfold poly_bands_wave
  rw [hd]
  generalize kwrap .i64 (a * b) = w
  have h1 := Int.lt_tmod_of_pos w (b := 8 * m) (by omega)
  have h2 := Int.tmod_lt_of_pos w (b := 8 * m) (by omega)
  have e : kwrap .i64 (Int.tmod w (8 * m) + 8 * m) = Int.tmod w (8 * m) + 8 * m := kw64 (by omega) (by omega)
  dsimp only
  rw [e]
  have h3 : Int.tmod (Int.tmod w (8 * m) + 8 * m) (8 * m) = (Int.tmod w (8 * m) + 8 * m) % (8 * m) := Int.tmod_eq_emod_of_nonneg (by omega)
  have h4 := Int.emod_nonneg (Int.tmod w (8 * m) + 8 * m) (b := 8 * m) (by omega)
  have h5 := Int.emod_lt_of_pos (Int.tmod w (8 * m) + 8 * m) (b := 8 * m) (by omega)
  rw [h3]
  exact Ok.gd (by omega) (Ok.gd (by omega) (Ok.gd ⟨h4, by omega⟩ (Ok.some trivial)))
theorem round_ok (x s : Int) (hs : 1 ≤ s) (hs2 : s ≤ 62) : Ok (fun _ => True) (fix_Round 5000 x s) := by
  refine Ok.bind (Q := fun r => r = s) (Ok.ite (fun d => by have := dt d; omega) (fun _ => Ok.ite (fun d => by have := dt d; omega) (fun _ => Ok.some rfl))) ?_
  intro r hr
  rw [show r = s from hr]
  have e : kwrap .i64 (s - 1) = s - 1 := kw64 (by omega) (by omega)
  exact Ok.ite (fun _ => Ok.some trivial) (fun _ => Ok.gd (by omega) (Ok.gd (by rw [e]; omega) (Ok.some trivial)))
theorem sat16_ok (x : Int) : Ok (fun _ => True) (fix_Sat16 5000 x) :=
  Ok.bind (Q := fun _ => True) (Ok.ite (fun _ => Ok.some trivial) (fun _ => Ok.ite (fun _ => Ok.some trivial) (fun _ => Ok.some trivial))) (fun _ _ => Ok.some trivial)
theorem jfeed_ok {m : Int} (hm : m = 4 ∨ m = 8) {s h turn V : List Int} (hs : (s.length : Int) = m) (hh : (h.length : Int) = 10 * m) (ht : (turn.length : Int) = 8 * m) (hV : (V.length : Int) = 20 * m) :
    Ok (fun r => (r.1.length : Int) = m ∧ (r.2.2.length : Int) = 20 * m) (poly_Joiner_Feed 5000 s m h turn V) := by
  have e1 : kwrap .i64 (2 * m) = 2 * m := kw64 (by omega) (by omega)
  refine Ok.ite (fun c => by rw [hs] at c; simp at c) (fun _ => ?_)
  dsimp only
  rw [e1]
  refine Ok.gd ⟨by omega, by omega⟩ (Ok.gd (by omega) ?_)
  have hc : ((cpy (Int.toNat (2 * m)) V V).length : Int) = 20 * m := by unfold cpy; simp; omega
  refine Ok.bind (Q := fun r => (r.length : Int) = 20 * m) ?_ ?_
  · unfold poly_Joiner_Feed.l2
    refine rounds_ok2 (fun i X => 0 ≤ i ∧ i ≤ 2 * m ∧ (X.length : Int) = 20 * m) (fun i _ => (2 * m - i).toNat) _ ?_ 5000 _ _ ⟨by omega, by omega, hc⟩ (by omega)
    rintro next i X ⟨g1, g2, g3⟩ ih
    refine Ok.ite (fun d => ?_) (fun _ => Ok.some g3)
    have d := dt d
    refine Ok.bind (Q := fun _ => True) ?_ ?_
    · unfold poly_Joiner_Feed.l3
      refine rounds_ok2 (fun _ j => 0 ≤ j ∧ j ≤ m) (fun _ j => (m - j).toNat) _ ?_ 5000 _ _ ⟨by omega, by omega⟩ (by omega)
      rintro next2 t j ⟨f1, f2⟩ ih2
      refine Ok.ite (fun d2 => ?_) (fun _ => Ok.some trivial)
      have d2 := dt d2
      refine Ok.gd ⟨f1, d2⟩ (Ok.bind (wave_ok hm _ _ _ _ _ ht) ?_)
      intro r _
      have e := kw1 (x := j) (by omega) (by omega)
      exact ih2 _ _ ⟨by omega, by omega⟩ (by omega)
    · intro x _
      refine Ok.bind (Q := fun _ => True) (Ok.bind (round_ok _ _ (by decide) (by decide)) (fun _ _ => Ok.bind (sat_ok _) (fun _ _ => Ok.some trivial))) ?_
      intro r _
      refine Ok.gd ⟨g1, by omega⟩ (Ok.gd (by omega) ?_)
      have e := kw1 (x := i) (by omega) (by omega)
      exact ih _ _ ⟨by omega, by omega, by rw [List.length_set]; exact g3⟩ (by omega)
  · intro X hX
    refine Ok.gd ⟨by omega, by omega, by omega⟩ ?_
    have hrep : ((List.replicate (Int.toNat m) (0 : Int)).length : Int) = m := by simp; omega
    rw [hrep]
    refine Ok.bind (Q := fun r => (r.length : Int) = m) ?_ (fun r hr => Ok.some ⟨hr, hX⟩)
    unfold poly_Joiner_Feed.l0
    refine rounds_ok2 (fun i Y => 0 ≤ i ∧ i ≤ m ∧ (Y.length : Int) = m) (fun i _ => (m - i).toNat) _ ?_ 5000 _ _ ⟨by omega, by omega, hrep⟩ (by omega)
    rintro next i Y ⟨g1, g2, g3⟩ ih
    refine Ok.ite (fun d => ?_) (fun _ => Ok.some g3)
    have d := dt d
    refine Ok.bind (Q := fun _ => True) ?_ ?_
    · unfold poly_Joiner_Feed.l1
      refine rounds_ok2 (fun _ j => 0 ≤ j ∧ j ≤ 5) (fun _ j => (5 - j).toNat) _ ?_ 5000 _ _ ⟨by omega, by omega⟩ (by omega)
      rintro next2 t j ⟨f1, f2⟩ ih2
      refine Ok.ite (fun d2 => ?_) (fun _ => Ok.some trivial)
      have d2 := dt d2
      have a1 : kwrap .i64 (4 * m) = 4 * m := kw64 (by omega) (by omega)
      have a2 : kwrap .i64 (4 * m * j) = 4 * m * j := by rcases hm with rfl | rfl <;> exact kw64 (by omega) (by omega)
      have a3 : kwrap .i64 (4 * m * j + i) = 4 * m * j + i := by rcases hm with rfl | rfl <;> exact kw64 (by omega) (by omega)
      have a4 : kwrap .i64 (2 * m * j) = 2 * m * j := by rcases hm with rfl | rfl <;> exact kw64 (by omega) (by omega)
      have a5 : kwrap .i64 (2 * m * j + i) = 2 * m * j + i := by rcases hm with rfl | rfl <;> exact kw64 (by omega) (by omega)
      have a6 : kwrap .i64 (3 * m) = 3 * m := kw64 (by omega) (by omega)
      have a7 : kwrap .i64 (4 * m * j + 3 * m) = 4 * m * j + 3 * m := by rcases hm with rfl | rfl <;> exact kw64 (by omega) (by omega)
      have a8 : kwrap .i64 (4 * m * j + 3 * m + i) = 4 * m * j + 3 * m + i := by rcases hm with rfl | rfl <;> exact kw64 (by omega) (by omega)
      have a9 : kwrap .i64 (2 * m * j + m) = 2 * m * j + m := by rcases hm with rfl | rfl <;> exact kw64 (by omega) (by omega)
      have b1 : kwrap .i64 (2 * m * j + m + i) = 2 * m * j + m + i := by rcases hm with rfl | rfl <;> exact kw64 (by omega) (by omega)
      dsimp only
      rw [a1, a2, a3, e1, a4, a5, a6, a7, a8, a9, b1]
      have e := kw1 (x := j) (by omega) (by omega)
      rcases hm with rfl | rfl
      · exact Ok.gd ⟨by omega, by omega⟩ (Ok.gd (by omega) (Ok.gd ⟨by omega, by omega⟩ (Ok.gd ⟨by omega, by omega⟩ (Ok.gd (by omega) (Ok.gd ⟨by omega, by omega⟩ (ih2 _ _ ⟨by omega, by omega⟩ (by omega)))))))
      · exact Ok.gd ⟨by omega, by omega⟩ (Ok.gd (by omega) (Ok.gd ⟨by omega, by omega⟩ (Ok.gd ⟨by omega, by omega⟩ (Ok.gd (by omega) (Ok.gd ⟨by omega, by omega⟩ (ih2 _ _ ⟨by omega, by omega⟩ (by omega)))))))
    · intro x _
      refine Ok.bind (round_ok _ _ (by decide) (by decide)) (fun _ _ => Ok.bind (sat16_ok _) ?_)
      intro r _
      refine Ok.gd ⟨g1, by omega, by omega⟩ ?_
      have e := kw1 (x := i) (by omega) (by omega)
      exact ih _ _ ⟨by omega, by omega, by rw [List.length_set]; exact g3⟩ (by omega)
theorem weave_ok {C n : Int} {L : List (List Int)} (hL : Sh C n L) (hC : C = 1 ∨ C = 2) (hn : 0 ≤ n) (hn2 : n ≤ 1000) : Ok (fun r => r.2 = 0 ∧ (r.1.length : Int) = n * C) (pcm_Weave 5000 L) := by
  obtain ⟨h1, h2⟩ := hL
  have e0 : ((Kd.nth (.slice (.int .i16)) L 0).length : Int) = n := h2 0 (by omega) (by omega)
  have k1 : kwrap .i64 ((L.length : Int) - 1) = (L.length : Int) - 1 := kw64 (by omega) (by omega)
  have e1 : ((Kd.nth (.slice (.int .i16)) L (Int.toNat ((L.length : Int) - 1))).length : Int) = n := h2 ((L.length : Int) - 1) (by omega) (by omega)
  unfold pcm_Weave
  dsimp only
  rw [k1]
  refine Ok.gd (fun _ => by omega) (Ok.gd ⟨fun _ => by omega, fun _ => by omega⟩ (Ok.ite (fun c => ?_) (fun _ => Ok.gd (by omega) ?_)))
  · rw [e0, e1, h1] at c
    rcases hC with rfl | rfl <;> simp at c
  · rw [e0]
    refine Ok.bind (Q := fun r => (r.length : Int) = n * C) ?_ (fun r hr => Ok.some ⟨rfl, hr⟩)
    unfold pcm_Weave.l0
    refine rounds_ok2 (fun i X => 0 ≤ i ∧ i ≤ n ∧ (X.length : Int) = i * C) (fun i _ => (n - i).toNat) _ ?_ 5000 _ _ ⟨by omega, by omega, by rw [Int.zero_mul]; rfl⟩ (by omega)
    rintro next i X ⟨g1, g2, g3⟩ ih
    refine Ok.ite (fun d => ?_) (fun d => Ok.some (by have := df d; rw [g3, show i = n by omega]))
    have d := dt d
    refine Ok.bind (Q := fun Y => (Y.length : Int) = i * C + C) ?_ ?_
    · unfold pcm_Weave.l1
      refine rounds_ok2 (fun c Y => 0 ≤ c ∧ c ≤ C ∧ (Y.length : Int) = i * C + c) (fun c _ => (C - c).toNat) _ ?_ 5000 _ _ ⟨by omega, by omega, by omega⟩ (by omega)
      rintro next2 c Y ⟨f1, f2, f3⟩ ih2
      refine Ok.ite (fun d2 => ?_) (fun d2 => Ok.some (by have := df d2; rw [f3, show c = C by omega]))
      have d2 := dt d2
      have hr : ((Kd.nth (.slice (.int .i16)) L (Int.toNat c)).length : Int) = n := h2 c f1 (by omega)
      refine Ok.gd ⟨f1, d2⟩ (Ok.gd ⟨g1, by omega, ?_⟩ ?_)
      · show ((Y.length : Int) + 1) * 2 ≤ _
        rcases hC with rfl | rfl <;> omega
      · have e := kw1 (x := c) (by omega) (by omega)
        exact ih2 _ _ ⟨by omega, by omega, by rw [List.length_append]; show (((Y.length + 1 : Nat)) : Int) = _; omega⟩ (by omega)
    · intro Y hY
      have e := kw1 (x := i) (by omega) (by omega)
      exact ih _ _ ⟨by omega, by omega, by rw [hY, e, Int.add_mul, Int.one_mul]⟩ (by omega)
theorem eqI_ok {a : List Int} (ha : a.length ≤ 4000) : Ok (fun r => r = true) (slices_Equal_int_int 5000 a a) := by
  refine Ok.ite (fun c => by simp at c) (fun _ => Ok.bind (Q := fun z => z = .inl ()) ?_ (fun z hz => by rw [show z = .inl () from hz]; exact Ok.some rfl))
  unfold slices_Equal_int_int.l0
  refine rounds_ok1 (fun i => 0 ≤ i ∧ i ≤ (a.length : Int)) (fun i => ((a.length : Int) - i).toNat) _ ?_ 5000 _ ⟨by omega, by omega⟩ (by omega)
  rintro next i ⟨g1, g2⟩ ih
  refine Ok.ite (fun d => ?_) (fun _ => Ok.some rfl)
  have d := dt d
  refine Ok.gd ⟨g1, d⟩ (Ok.gd ⟨g1, d⟩ (Ok.ite (fun c => by simp at c) (fun _ => ?_)))
  have e := kw1 (x := i) (by omega) (by omega)
  exact ih _ ⟨by omega, by omega⟩ (by omega)
theorem eqL_ok {a : List (List Int)} (ha : a.length ≤ 4000) (h : ∀ i, 0 ≤ i → i < (a.length : Int) → (row a i).length ≤ 4000) : Ok (fun r => r = true) (subband_Same_1 5000 a a) := by
  refine Ok.bind (Q := fun r => r = true) ?_ (fun r hr => Ok.some hr)
  refine Ok.ite (fun c => by simp at c) (fun _ => Ok.bind (Q := fun z => z = .inl ()) ?_ (fun z hz => by rw [show z = .inl () from hz]; exact Ok.some rfl))
  unfold slices_EqualFunc_int_int_int_int.l0
  refine rounds_ok1 (fun i => 0 ≤ i ∧ i ≤ (a.length : Int)) (fun i => ((a.length : Int) - i).toNat) _ ?_ 5000 _ ⟨by omega, by omega⟩ (by omega)
  rintro next i ⟨g1, g2⟩ ih
  refine Ok.ite (fun d => ?_) (fun _ => Ok.some rfl)
  have d := dt d
  refine Ok.gd ⟨g1, d⟩ (Ok.gd ⟨g1, d⟩ (Ok.bind (eqI_ok (h i g1 d)) ?_))
  intro r hr
  rw [show r = true from hr]
  refine Ok.ite (fun h => by cases h) (fun _ => ?_)
  have e := kw1 (x := i) (by omega) (by omega)
  exact ih _ ⟨by omega, by omega⟩ (by omega)
theorem same_ok (p0 p1 p2 p3 p4 p5 p6 p7 p8 p9 : Int) {J : List Int} {S : List (List Int)} {Q : List (List (List Int))} {sh : List (List Int)} (hv : Val p0 p1 p2 p3 p4 p5 p6 p7 p8 p9 J S Q sh) : Ok (fun r => r = true) (subband_Same 5000 J S Q J S Q) := by
  obtain ⟨hf, hj, hq, _, _⟩ := hv
  have h2 := (fit hf).2.1
  have h3 := (fit hf).2.2.1
  have h4 : p4 = 4 ∨ p4 = 8 ∨ p4 = 12 ∨ p4 = 16 := hf.1.1.2.2.2.2.2.1
  have hJ := hj.1
  have hS := hf.2.1
  have hQ := hq.1
  refine Ok.bind (Q := fun r => r = true) (Ok.bind (eqI_ok (by omega)) ?_) (fun r hr => Ok.some hr)
  intro r hr
  rw [show r = true from hr]
  refine Ok.ite (fun _ => Ok.bind (eqL_ok (by omega) (fun i i0 i1 => by have := (hf.2.2 i i0 (by omega)).1; omega)) ?_) (fun h => by cases h)
  intro r hr
  rw [show r = true from hr]
  refine Ok.ite (fun _ => Ok.bind (Q := fun r => r = true) ?_ (fun r hr => Ok.some hr)) (fun h => by cases h)
  refine Ok.ite (fun c => by simp at c) (fun _ => Ok.bind (Q := fun z => z = .inl ()) ?_ (fun z hz => by rw [show z = .inl () from hz]; exact Ok.some rfl))
  unfold slices_EqualFunc_int_int_int_int_2.l0
  refine rounds_ok1 (fun i => 0 ≤ i ∧ i ≤ (Q.length : Int)) (fun i => ((Q.length : Int) - i).toNat) _ ?_ 5000 _ ⟨by omega, by omega⟩ (by omega)
  rintro next i ⟨g1, g2⟩ ih
  refine Ok.ite (fun d => ?_) (fun _ => Ok.some rfl)
  have d := dt d
  have hb := hq.2 i g1 (by omega)
  have hb1 := hb.1
  refine Ok.gd ⟨g1, d⟩ (Ok.gd ⟨g1, d⟩ (Ok.bind (eqL_ok (a := blk Q i) (by omega) (fun c c0 c1 => by have := hb.2 c c0 (by omega); omega)) ?_))
  intro r hr
  rw [show r = true from hr]
  refine Ok.ite (fun h => by cases h) (fun _ => ?_)
  have e := kw1 (x := i) (by omega) (by omega)
  exact ih _ ⟨by omega, by omega⟩ (by omega)
end Go.Fo
