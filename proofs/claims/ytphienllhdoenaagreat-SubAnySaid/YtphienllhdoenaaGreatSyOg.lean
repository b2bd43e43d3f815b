/- Of any bytes the parameters play, or there are none. -/
import Derived.Test.YtphienllhdoenaaGreatSyOf
namespace Go.Fo
set_option maxRecDepth 100000
theorem play2_ok (p0 p1 p2 p3 p4 p5 p6 p7 p8 p9 : Int) (hC : p2 = 1) {m : Int} (hm : m = 4 ∨ m = 8) (h3 : p3 = m) (h4 : p4 = 4 ∨ p4 = 8 ∨ p4 = 12 ∨ p4 = 16) {P : List (List (List Int))} (hP : Cd p2 p4 p3 P) {h turn V : List Int} (hh : (h.length : Int) = 10 * m) (ht : (turn.length : Int) = 8 * m) (hV : (V.length : Int) = 20 * m) :
    Ok (fun r => r.2.1 = 0 ∧ (r.1.length : Int) = p4 * m * p2) (subband_Decoder_Play_2 5000 P p0 p1 p2 p3 p4 p5 p6 p7 p8 p9 m h turn V) := by
  refine Ok.bind (fits_ok p0 p1 p2 p3 p4 p5 p6 p7 p8 p9 hP (by omega) (by omega)) ?_
  intro r hr
  rw [show r = true from hr]
  refine Ok.ite (fun h => by cases h) (fun _ => Ok.gd ⟨by omega, by omega, by omega⟩ ?_)
  have hP1 := hP.1
  have hrep : ((List.replicate (Int.toNat p2) ([] : List Int)).length : Int) = 1 := by simp; omega
  have hrep0 : (((List.replicate (Int.toNat p2) ([] : List Int)).getD 0 []).length : Int) = 0 := by rw [hC]; rfl
  refine Ok.bind (Q := fun r => Sh p2 (p4 * m) r.2) ?_ ?_
  · unfold subband_Decoder_Play_2.l0
    refine rounds_ok3 (fun c V X => 0 ≤ c ∧ c ≤ 1 ∧ (V.length : Int) = 20 * m ∧ (X.length : Int) = 1 ∧ ((X.getD 0 []).length : Int) = c * (p4 * m)) (fun c _ _ => (1 - c).toNat) _ ?_ 5000 _ _ _ ⟨by omega, by omega, hV, hrep, by rw [hrep0]; omega⟩ (by omega)
    rintro next c V X ⟨g1, g2, g3, g4, g5⟩ ih
    refine Ok.ite (fun d => ?_) (fun d => Ok.some ?_)
    · have d := dt d
      have hc : c = 0 := by omega
      subst hc
      have hb := hP.2 0 (by omega) (by omega)
      have hb1 : ((Kd.nth (.slice (.slice (.int .i32))) P (Int.toNat 0)).length : Int) = p4 := hb.1
      refine Ok.gd ⟨g1, d⟩ (Ok.bind (Q := fun r => r.1 = 0 ∧ (r.2.1.length : Int) = 20 * m ∧ (r.2.2.length : Int) = 1 ∧ ((r.2.2.getD 0 []).length : Int) = p4 * m) ?_ ?_)
      · unfold subband_Decoder_Play_2.l1
        refine rounds_ok4 (fun j i V X => j = 0 ∧ 0 ≤ i ∧ i ≤ p4 ∧ (V.length : Int) = 20 * m ∧ (X.length : Int) = 1 ∧ ((X.getD 0 []).length : Int) = i * m) (fun _ i _ _ => (p4 - i).toNat) _ ?_ 5000 _ _ _ _ ⟨rfl, by omega, by omega, g3, g4, by omega⟩ (by omega)
        rintro next2 j i V X ⟨f0, f1, f2, f3, f4, f5⟩ ih2
        subst f0
        refine Ok.ite (fun d2 => ?_) (fun d2 => Ok.some ⟨rfl, f3, f4, ?_⟩)
        · have d2 : i < ((Kd.nth (.slice (.slice (.int .i32))) P (Int.toNat 0)).length : Int) := dt d2
          have hrow : ((row (blk P 0) i).length : Int) = m := by rw [← h3]; exact hb.2 i f1 (by omega)
          refine Ok.gd ⟨f1, d2⟩ (Ok.ite (fun _ => Ok.bind (jfeed_ok (s := row (blk P 0) i) hm hrow hh ht f3) ?_) (fun h => by cases h))
          rintro ⟨y, ye, V'⟩ ⟨e1, e2⟩
          have e1 : (y.length : Int) = m := e1
          have him : 0 ≤ i * m ∧ i * m ≤ 16 * 8 := by rcases hm with rfl | rfl <;> omega
          refine Ok.gd ⟨by omega, by omega, by show (((X.getD 0 []).length : Int) + (y.length : Int)) * 2 ≤ _; omega, by omega, by omega⟩ ?_
          have e := kw1 (x := i) (by omega) (by omega)
          refine ih2 _ _ _ _ ⟨rfl, by omega, by omega, e2, by rw [List.length_set]; exact f4, ?_⟩ (by omega)
          rw [List.getD_eq_getElem?_getD, List.getElem?_set_self (by omega)]
          show (((X.getD 0 [] ++ y).length : Nat) : Int) = _
          rw [List.length_append, e, Int.add_mul, Int.one_mul]; push_cast; omega
        · have d2 : ¬ i < ((Kd.nth (.slice (.slice (.int .i32))) P (Int.toNat 0)).length : Int) := df d2
          have : i = p4 := by omega
          show ((X.getD 0 []).length : Int) = p4 * m
          rw [← this]; exact f5
      · rintro ⟨j, V', X'⟩ ⟨e0, e1, e2, e3⟩
        have e0 : j = 0 := e0
        subst e0
        exact ih _ _ _ ⟨by decide, by decide, e1, e2, by rw [show kwrap .i64 (0 + 1) = 1 from rfl, Int.one_mul]; exact e3⟩ (by rw [show kwrap .i64 (0 + 1) = 1 from rfl]; omega)
    · have : c = 1 := by have := df d; omega
      subst this
      refine ⟨by rw [hC]; exact g4, fun q q0 q1 => ?_⟩
      have : q = 0 := by omega
      subst this
      show ((X.getD 0 []).length : Int) = _
      rw [g5, Int.one_mul]
  · rintro ⟨V', X'⟩ hX
    refine Ok.bind (weave_ok hX (.inl hC) (by rcases hm with rfl | rfl <;> omega) (by rcases hm with rfl | rfl <;> omega)) ?_
    rintro ⟨y, e⟩ hy
    exact Ok.some ⟨hy.1, hy.2⟩
theorem play3_ok (p0 p1 p2 p3 p4 p5 p6 p7 p8 p9 : Int) (hC : p2 = 2) {m : Int} (hm : m = 4 ∨ m = 8) (h3 : p3 = m) (h4 : p4 = 4 ∨ p4 = 8 ∨ p4 = 12 ∨ p4 = 16) {P : List (List (List Int))} (hP : Cd p2 p4 p3 P) {h turn V h' turn' V' : List Int} (hh : (h.length : Int) = 10 * m) (ht : (turn.length : Int) = 8 * m) (hV : (V.length : Int) = 20 * m) (hh' : (h'.length : Int) = 10 * m) (ht' : (turn'.length : Int) = 8 * m) (hV' : (V'.length : Int) = 20 * m) :
    Ok (fun r => r.2.1 = 0 ∧ (r.1.length : Int) = p4 * m * p2) (subband_Decoder_Play_3 5000 P p0 p1 p2 p3 p4 p5 p6 p7 p8 p9 m h turn m h' turn' V V') := by
  refine Ok.bind (fits_ok p0 p1 p2 p3 p4 p5 p6 p7 p8 p9 hP (by omega) (by omega)) ?_
  intro r hr
  rw [show r = true from hr]
  refine Ok.ite (fun h => by cases h) (fun _ => Ok.gd ⟨by omega, by omega, by omega⟩ ?_)
  have hP1 := hP.1
  have hrep := Part.rep (M := p2) (B := p4 * m) (by omega)
  refine Ok.bind (Q := fun r => Sh p2 (p4 * m) r.2.2) ?_ ?_
  · unfold subband_Decoder_Play_3.l0
    refine rounds_ok4 (fun c V W X => 0 ≤ c ∧ c ≤ 2 ∧ (V.length : Int) = 20 * m ∧ (W.length : Int) = 20 * m ∧ Part p2 c (p4 * m) 0 X) (fun c _ _ _ => (2 - c).toNat) _ ?_ 5000 _ _ _ _ ⟨by omega, by omega, hV, hV', hrep⟩ (by omega)
    rintro next c V W X ⟨g1, g2, g3, g4, g5⟩ ih
    refine Ok.ite (fun d => ?_) (fun d => Ok.some ?_)
    · have d := dt d
      have hb := hP.2 c g1 (by omega)
      have hb1 : ((Kd.nth (.slice (.slice (.int .i32))) P (Int.toNat c)).length : Int) = p4 := hb.1
      refine Ok.gd ⟨g1, d⟩ (Ok.bind (Q := fun r => r.1 = c ∧ (r.2.1.length : Int) = 20 * m ∧ (r.2.2.1.length : Int) = 20 * m ∧ Part p2 c (p4 * m) (p4 * m) r.2.2.2) ?_ ?_)
      · unfold subband_Decoder_Play_3.l1
        refine rounds_ok5 (fun j i V W X => j = c ∧ 0 ≤ i ∧ i ≤ p4 ∧ (V.length : Int) = 20 * m ∧ (W.length : Int) = 20 * m ∧ Part p2 c (p4 * m) (i * m) X) (fun _ i _ _ _ => (p4 - i).toNat) _ ?_ 5000 _ _ _ _ _ ⟨rfl, by omega, by omega, g3, g4, by rw [Int.zero_mul]; exact g5⟩ (by omega)
        rintro next2 j i V W X ⟨f0, f1, f2, f3, f4, f5⟩ ih2
        subst f0
        refine Ok.ite (fun d2 => ?_) (fun d2 => Ok.some ⟨rfl, f3, f4, ?_⟩)
        · have d2 : i < ((Kd.nth (.slice (.slice (.int .i32))) P (Int.toNat j)).length : Int) := dt d2
          have hrow : ((row (blk P j) i).length : Int) = m := by rw [← h3]; exact hb.2 i f1 (by omega)
          have him : 0 ≤ i * m ∧ i * m ≤ 16 * 8 := by rcases hm with rfl | rfl <;> omega
          have hXl := f5.len g1 (by omega)
          have hX1 := f5.1
          have grow : ∀ y : List Int, (y.length : Int) = m → Part p2 j (p4 * m) ((i + 1) * m) (X.set j.toNat (X.getD j.toNat [] ++ y)) := by
            intro y hy
            refine ⟨by rw [List.length_set]; exact f5.1, fun q q0 q1 => ?_⟩
            have hq := f5.2 q q0 q1
            rw [row_set g1 (by omega) q0]
            by_cases e : q = j
            · rw [if_pos e, if_neg (by omega), if_pos e, List.length_append, Int.add_mul, Int.one_mul]; push_cast; omega
            · rw [if_neg e]; rw [if_neg e] at hq ⊢; exact hq
          have e := kw1 (x := i) (by omega) (by omega)
          refine Ok.bind (Q := fun r => r.1 = j ∧ (r.2.1.length : Int) = 20 * m ∧ (r.2.2.1.length : Int) = 20 * m ∧ Part p2 j (p4 * m) ((i + 1) * m) r.2.2.2) ?_ ?_
          · have hj : j = 0 ∨ j = 1 := by omega
            rcases hj with rfl | rfl
            · refine Ok.gd ⟨f1, d2⟩ (Ok.ite (fun _ => Ok.bind (jfeed_ok (s := row (blk P 0) i) hm hrow hh ht f3) ?_) (fun h => by cases h))
              rintro ⟨y, ye, Z⟩ ⟨e1, e2⟩
              have e1 : (y.length : Int) = m := e1
              exact Ok.gd ⟨by omega, by omega, by show (((X.getD 0 []).length : Int) + (y.length : Int)) * 2 ≤ _; have hXl : ((X.getD 0 []).length : Int) = i * m := hXl; omega, by omega, by omega⟩ (Ok.some ⟨rfl, e2, f4, grow y e1⟩)
            · refine Ok.gd ⟨f1, d2⟩ (Ok.ite (fun h => by cases h) (fun _ => Ok.ite (fun _ => Ok.bind (jfeed_ok (s := row (blk P 1) i) hm hrow hh' ht' f4) ?_) (fun h => by cases h)))
              rintro ⟨y, ye, Z⟩ ⟨e1, e2⟩
              have e1 : (y.length : Int) = m := e1
              exact Ok.gd ⟨by omega, by omega, by show (((X.getD 1 []).length : Int) + (y.length : Int)) * 2 ≤ _; have hXl : ((X.getD 1 []).length : Int) = i * m := hXl; omega, by omega, by omega⟩ (Ok.some ⟨rfl, f3, e2, grow y e1⟩)
          · rintro ⟨j', V2, W2, X2⟩ ⟨e0, e1, e2, e3⟩
            have e0 : j' = j := e0
            subst e0
            exact ih2 _ _ _ _ _ ⟨rfl, by omega, by omega, e1, e2, by rw [e]; exact e3⟩ (by omega)
        · have d2 : ¬ i < ((Kd.nth (.slice (.slice (.int .i32))) P (Int.toNat j)).length : Int) := df d2
          have : i = p4 := by omega
          rw [this] at f5
          exact f5
      · rintro ⟨j, V2, W2, X2⟩ ⟨e0, e1, e2, e3⟩
        have e0 : j = c := e0
        subst e0
        have e := kw1 (x := j) (by omega) (by omega)
        exact ih _ _ _ _ ⟨by omega, by omega, e1, e2, by rw [e]; exact e3.nxt⟩ (by omega)
    · have : c = p2 := by have := df d; omega
      rw [this] at g5
      exact g5.all
  · rintro ⟨V2, W2, X2⟩ hX
    refine Ok.bind (weave_ok hX (.inr hC) (by rcases hm with rfl | rfl <;> omega) (by rcases hm with rfl | rfl <;> omega)) ?_
    rintro ⟨y, e⟩ hy
    exact Ok.some ⟨hy.1, hy.2⟩
/-- what a new joiner has, and one more on the same bank -/
def njB (m : Int) : Bool := match poly_NewJoiner 5000 m (List.replicate 388 none) 0 0 with
  | some (.inr (t, a, b, m', h, u, V)) => m' == m && (h.length : Int) == 10 * m && (u.length : Int) == 8 * m && (V.length : Int) == 20 * m && (match poly_NewJoiner 5000 m t a b with
    | some (.inr (_, _, _, m2, h2, u2, V2)) => m2 == m && (h2.length : Int) == 10 * m && (u2.length : Int) == 8 * m && (V2.length : Int) == 20 * m
    | _ => false)
  | _ => false
theorem nj4 : njB 4 = true := by kernel_rfl
theorem nj8 : njB 8 = true := by kernel_rfl
theorem nj_ok {m : Int} (hm : m = 4 ∨ m = 8) : ∃ t a b h u V, poly_NewJoiner 5000 m (List.replicate 388 none) 0 0 = some (.inr (t, a, b, m, h, u, V)) ∧ (h.length : Int) = 10 * m ∧ (u.length : Int) = 8 * m ∧ (V.length : Int) = 20 * m ∧
    ∃ t2 a2 b2 h2 u2 V2, poly_NewJoiner 5000 m t a b = some (.inr (t2, a2, b2, m, h2, u2, V2)) ∧ (h2.length : Int) = 10 * m ∧ (u2.length : Int) = 8 * m ∧ (V2.length : Int) = 20 * m := by
  have h : njB m = true := by
    rcases hm with rfl | rfl
    · exact nj4
    · exact nj8
  unfold njB at h
  split at h
  · rename_i t a b m' h' u V e
    simp only [Bool.and_eq_true, beq_iff_eq] at h
    obtain ⟨⟨⟨⟨h1, h2⟩, h3⟩, h4⟩, h5⟩ := h
    split at h5
    · rename_i t2 a2 b2 m2 h2' u2 V2 e2
      simp only [Bool.and_eq_true, beq_iff_eq] at h5
      obtain ⟨⟨⟨g1, g2⟩, g3⟩, g4⟩ := h5
      exact ⟨t, a, b, h', u, V, by rw [e, h1], h2, h3, h4, t2, a2, b2, h2', u2, V2, by rw [e2, g1], g2, g3, g4⟩
    · cases h5
  · cases h
theorem alive_t : psalterylaw14_alive 5000 = some true := by kernel_rfl
theorem bank_t : ∃ u, bank_New 5000 = some u := ⟨_, rfl⟩
theorem fin_ok (p0 p1 p2 p3 p4 p5 p6 p7 p8 p9 : Int) (hm : may0 p0 p1 p2 p3 p4 p5 p6 p7 p8 p9) {y : List Int} (hy : (y.length : Int) = p4 * p3 * p2) {x z : Int} (hx : x = 0) (hz : z = 0) : (bif (bif (x == 0) then (z == 0) else false) then ((y.length : Int) == kwrap .i64 (kwrap .i64 (p2 * p3) * p4)) else false) = true := by
  have h2 : p2 = 1 ∨ p2 = 2 := hm.1.2.2.2.1
  have h3 : p3 = 4 ∨ p3 = 8 := hm.1.2.2.2.2.1
  have h4 : p4 = 4 ∨ p4 = 8 ∨ p4 = 12 ∨ p4 = 16 := hm.1.2.2.2.2.2.1
  rw [hx, hz, hy]
  rcases h2 with rfl | rfl <;> rcases h3 with rfl | rfl <;> rcases h4 with rfl | rfl | rfl | rfl <;> rfl
theorem any_w (p0 p1 p2 p3 p4 p5 p6 p7 p8 p9 : Int) (s : ByteArray) : psalterylaw14_SubAny 5000 p0 p1 p2 p3 p4 p5 p6 p7 p8 p9 s = some true := by
  have key : Ok (fun r => r = true) (psalterylaw14_SubAny 5000 p0 p1 p2 p3 p4 p5 p6 p7 p8 p9 s) := by
    refine Ok.bind (Ok.is alive_t) ?_
    rintro _ rfl
    refine Ok.ite (fun h => by cases h) (fun _ => Ok.ite (fun _ => Ok.some rfl) (fun _ => ?_))
    obtain ⟨u, hu⟩ := bank_t
    refine Ok.bind (Ok.is hu) ?_
    intro _ _
    by_cases hm : may0 p0 p1 p2 p3 p4 p5 p6 p7 p8 p9
    · have h2 : p2 = 1 ∨ p2 = 2 := hm.1.2.2.2.1
      have h3 : p3 = 4 ∨ p3 = 8 := hm.1.2.2.2.2.1
      have h4 : p4 = 4 ∨ p4 = 8 ∨ p4 = 12 ∨ p4 = 16 := hm.1.2.2.2.2.2.1
      obtain ⟨t, a, b, h, u, V, e, c1, c2, c3, t2, a2, b2, h', u', V', e', d1, d2, d3⟩ := nj_ok (m := p3) h3
      obtain ⟨⟨J, S, Q, er⟩, hp, hpo⟩ := parse_ok p0 p1 p2 p3 p4 p5 p6 p7 p8 p9 (sbytes s) hm
      have hpo : er = 140 ∨ (er = 0 ∧ ∃ sh, Val p0 p1 p2 p3 p4 p5 p6 p7 p8 p9 J S Q sh ∧ subband_Params_share 5000 p0 p1 p2 p3 p4 p5 p6 p7 p8 p9 J S Q = some (sh, true)) := hpo
      have hmay : subband_may 5000 p0 p1 p2 p3 p4 p5 p6 p7 p8 p9 = some 0 := (smay_w p0 p1 p2 p3 p4 p5 p6 p7 p8 p9).trans (by rw [if_pos hm])
      rcases h2 with h2 | h2
      · have hd : subband_NewDecoder 5000 p0 p1 p2 p3 p4 p5 p6 p7 p8 p9 (List.replicate 388 none) 0 0 = some (.inr (.inl (t, a, b, p3, h, u, V))) :=
          bnd_eq hmay (bif_eq_f rfl (bif_eq_t (by rw [h2]; rfl) (bnd_eq e rfl)))
        refine Ok.bind (Ok.is hd) ?_
        rintro _ rfl
        refine Ok.bind (Ok.is hp) ?_
        rintro _ rfl
        rcases hpo with hpo | ⟨hpo, sh, hv, hs⟩
        · subst hpo; exact Ok.ite (fun _ => Ok.some rfl) (fun h => by cases h)
        · subst hpo
          refine Ok.ite (fun h => by cases h) (fun _ => Ok.bind (planes_ok p0 p1 p2 p3 p4 p5 p6 p7 p8 p9 hm hv hs) ?_)
          rintro ⟨P, pe⟩ ⟨hpe, hP⟩
          have hpl := play2_ok p0 p1 p2 p3 p4 p5 p6 p7 p8 p9 h2 (m := p3) h3 rfl h4 hP c1 c2 c3
          rw [h2] at hpl
          refine Ok.bind hpl ?_
          rintro ⟨y, ye, yv⟩ ⟨hy0, hy1⟩
          refine Ok.bind (Q := fun r => r = true) (Ok.ite (fun _ => Ok.bind (same_ok p0 p1 p2 p3 p4 p5 p6 p7 p8 p9 hv) (fun r hr => Ok.some hr)) (fun c => ?_)) (fun r hr => Ok.some hr)
          have := fin_ok p0 p1 p2 p3 p4 p5 p6 p7 p8 p9 hm (y := y) (by rw [h2]; exact hy1) hpe hy0
          rw [this] at c; cases c
      · have hd : subband_NewDecoder 5000 p0 p1 p2 p3 p4 p5 p6 p7 p8 p9 (List.replicate 388 none) 0 0 = some (.inr (.inr (t2, a2, b2, p3, h, u, p3, h', u', V, V'))) :=
          bnd_eq hmay (bif_eq_f rfl (bif_eq_f (by rw [h2]; rfl) (bif_eq_t (by rw [h2]; rfl) (bnd_eq e (bnd_eq e' rfl)))))
        refine Ok.bind (Ok.is hd) ?_
        rintro _ rfl
        refine Ok.bind (Ok.is hp) ?_
        rintro _ rfl
        rcases hpo with hpo | ⟨hpo, sh, hv, hs⟩
        · subst hpo; exact Ok.ite (fun _ => Ok.some rfl) (fun h => by cases h)
        · subst hpo
          refine Ok.ite (fun h => by cases h) (fun _ => Ok.bind (planes_ok p0 p1 p2 p3 p4 p5 p6 p7 p8 p9 hm hv hs) ?_)
          rintro ⟨P, pe⟩ ⟨hpe, hP⟩
          have hpl := play3_ok p0 p1 p2 p3 p4 p5 p6 p7 p8 p9 h2 (m := p3) h3 rfl h4 hP c1 c2 c3 d1 d2 d3
          rw [h2] at hpl
          refine Ok.bind hpl ?_
          rintro ⟨y, ye, yv, yw⟩ ⟨hy0, hy1⟩
          refine Ok.bind (Q := fun r => r = true) (Ok.ite (fun _ => Ok.bind (same_ok p0 p1 p2 p3 p4 p5 p6 p7 p8 p9 hv) (fun r hr => Ok.some hr)) (fun c => ?_)) (fun r hr => Ok.some hr)
          have := fin_ok p0 p1 p2 p3 p4 p5 p6 p7 p8 p9 hm (y := y) (by rw [h2]; exact hy1) hpe hy0
          rw [this] at c; cases c
    · have hd : subband_NewDecoder 5000 p0 p1 p2 p3 p4 p5 p6 p7 p8 p9 (List.replicate 388 none) 0 0 = some (.inl 110) :=
        bnd_eq ((smay_w p0 p1 p2 p3 p4 p5 p6 p7 p8 p9).trans (by rw [if_neg hm])) (bif_eq_t rfl rfl)
      refine Ok.bind (Ok.is hd) ?_
      rintro _ rfl
      exact Ok.ite (fun _ => Ok.some rfl) (fun h => by cases h)
  obtain ⟨r, h1, h2⟩ := key
  rw [h1, show r = true from h2]
end Go.Fo
