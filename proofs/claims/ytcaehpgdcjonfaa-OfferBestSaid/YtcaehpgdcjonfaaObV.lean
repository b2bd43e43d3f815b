/- The search for the best format, as the first of a list. -/
import Derived.Test.YtcaehpgdcjonfaaObR
namespace Go.Fo
set_option maxRecDepth 4000
abbrev Fm := Int × Int × Int × Int × Int × Int × Int × Int × Int × Int
def sfst (ok : Fm → Bool) (b : Fm) (l : List Fm) : Bool × Fm := match l.find? ok with
  | some f => (true, f)
  | none => (false, b)
theorem sfst_t {ok : Fm → Bool} {b : Fm} {A B : List Fm} (h : (sfst ok b A).1 = true) : sfst ok b (A ++ B) = sfst ok b A := by
  unfold sfst at h ⊢
  rw [List.find?_append]
  cases e : A.find? ok with
  | none => rw [e] at h; cases h
  | some f => rfl
theorem sfst_f {ok : Fm → Bool} {b : Fm} {A B : List Fm} (h : (sfst ok b A).1 = false) : sfst ok b (A ++ B) = sfst ok b B ∧ (sfst ok b A).2 = b := by
  unfold sfst at h ⊢
  rw [List.find?_append]
  cases e : A.find? ok with
  | none => exact ⟨rfl, rfl⟩
  | some f => rw [e] at h; cases h
def dnN : Nat → Int → (Int → List Fm) → List Fm
  | 0, _, _ => []
  | k + 1, x, G => G x ++ dnN k (x - 1) G
def dn (x c : Int) (G : Int → List Fm) : List Fm := dnN (x - c + 1).toNat x G
def okf (c0 c1 c2 c3 c4 c5 c6 c7 c8 c9 c10 c11 c12 c13 c14 l0 l1 : Int) (f : Fm) : Bool := all c0 c1 c2 c3 c4 c5 c6 c7 c8 c9 c10 c11 c12 c13 c14 f.1 f.2.1 f.2.2.1 f.2.2.2.1 f.2.2.2.2.1 f.2.2.2.2.2.1 f.2.2.2.2.2.2.1 f.2.2.2.2.2.2.2.1 f.2.2.2.2.2.2.2.2.1 f.2.2.2.2.2.2.2.2.2 l0 l1

theorem offer_Choose_1_w (p0 p1 p2 p3 p4 p5 p6 p7 p8 p9 p10 p11 p12 p13 p14 p15 p16 p17 p18 p19 p20 p21 p22 p23 p24 p25 p26 p27 p28 p29 p30 p31 p32 p33 p34 p35 p36 : Int) : ∃ r, offer_Choose_1 300 p0 p1 p2 p3 p4 p5 p6 p7 p8 p9 p10 p11 p12 p13 p14 p15 p16 p17 p18 p19 p20 p21 p22 p23 p24 p25 p26 p27 p28 p29 p30 p31 p32 p33 p34 p35 p36 = some r ∧ (fun (r : Bool × Int × Int × Int × Int × Int × Int × Int × Int × Int × Int) => (r.1, (r.2.1, r.2.2.1, r.2.2.2.1, r.2.2.2.2.1, r.2.2.2.2.2.1, r.2.2.2.2.2.2.1, r.2.2.2.2.2.2.2.1, r.2.2.2.2.2.2.2.2.1, r.2.2.2.2.2.2.2.2.2.1, r.2.2.2.2.2.2.2.2.2.2))) r = sfst (okf p10 p11 p12 p13 p14 p15 p16 p17 p18 p19 p20 p21 p22 p23 p24 p25 p26) (p27, p28, p29, p30, p31, p32, p33, p34, p35, p36) ([(p0, p1, p2, p3, p4, p5, p6, p7, p8, p9)]) := by
  rcases Bool.eq_false_or_eq_true (all p10 p11 p12 p13 p14 p15 p16 p17 p18 p19 p20 p21 p22 p23 p24 p0 p1 p2 p3 p4 p5 p6 p7 p8 p9 p25 p26) with e | e
  · refine ⟨(true, p0, p1, p2, p3, p4, p5, p6, p7, p8, p9), bnd_eq ((all_w p10 p11 p12 p13 p14 p15 p16 p17 p18 p19 p20 p21 p22 p23 p24 p0 p1 p2 p3 p4 p5 p6 p7 p8 p9 p25 p26).trans (by rw [e])) rfl, ?_⟩
    unfold sfst
    rw [List.find?_cons_of_pos (show okf p10 p11 p12 p13 p14 p15 p16 p17 p18 p19 p20 p21 p22 p23 p24 p25 p26 (p0, p1, p2, p3, p4, p5, p6, p7, p8, p9) = true from e)]
  · refine ⟨(false, p27, p28, p29, p30, p31, p32, p33, p34, p35, p36), bnd_eq ((all_w p10 p11 p12 p13 p14 p15 p16 p17 p18 p19 p20 p21 p22 p23 p24 p0 p1 p2 p3 p4 p5 p6 p7 p8 p9 p25 p26).trans (by rw [e])) rfl, ?_⟩
    unfold sfst
    rw [List.find?_cons_of_neg (by rw [show okf p10 p11 p12 p13 p14 p15 p16 p17 p18 p19 p20 p21 p22 p23 p24 p25 p26 (p0, p1, p2, p3, p4, p5, p6, p7, p8, p9) = false from e]; simp)]; rfl

theorem offer_laps_1_1_w (p0 p1 p2 p3 p4 p5 p6 p7 p8 p9 p10 p11 p12 p13 p14 p15 p16 p17 p18 p19 p20 p21 p22 p23 p24 p25 p26 p27 p28 p29 p30 p31 p32 p33 p34 p35 p36 p37 : Int) : ∃ r, offer_laps_1_1 300 p0 p1 p2 p3 p4 p5 p6 p7 p8 p9 p10 p11 p12 p13 p14 p15 p16 p17 p18 p19 p20 p21 p22 p23 p24 p25 p26 p27 p28 p29 p30 p31 p32 p33 p34 p35 p36 p37 = some r ∧ (fun (r : Bool × Int × Int × Int × Int × Int × Int × Int × Int × Int × Int) => (r.1, (r.2.1, r.2.2.1, r.2.2.2.1, r.2.2.2.2.1, r.2.2.2.2.2.1, r.2.2.2.2.2.2.1, r.2.2.2.2.2.2.2.1, r.2.2.2.2.2.2.2.2.1, r.2.2.2.2.2.2.2.2.2.1, r.2.2.2.2.2.2.2.2.2.2))) r = sfst (okf p11 p12 p13 p14 p15 p16 p17 p18 p19 p20 p21 p22 p23 p24 p25 p26 p27) (p28, p29, p30, p31, p32, p33, p34, p35, p36, p37) ([(p1, p2, p3, p4, p5, p6, p7, p8, p9, p0)]) := by
  obtain ⟨⟨r0, r1, r2, r3, r4, r5, r6, r7, r8, r9, r10⟩, h, e⟩ := offer_Choose_1_w p1 p2 p3 p4 p5 p6 p7 p8 p9 p0 p11 p12 p13 p14 p15 p16 p17 p18 p19 p20 p21 p22 p23 p24 p25 p26 p27 p28 p29 p30 p31 p32 p33 p34 p35 p36 p37 
  exact ⟨_, bnd_eq h rfl, e⟩

theorem offer_down_l (c0 c1 c2 c3 c4 c5 c6 c7 c8 c9 c10 c11 c12 c13 c14 c15 c16 c17 c18 c19 c20 c21 c22 c23 c24 c25 c26 : Int) (hlo : -1000 ≤ c0) (k : Nat) : ∀ (m : Nat) (x181 x182 x183 x184 x185 x186 x187 x188 x189 x190 x191 x192 : Int), k < m → (x181 < c0 → k = 0) → (c0 ≤ x181 → (k : Int) = x181 - c0 + 1) → x181 ≤ 1000 → ∃ z, offer_down.l0 300 c0 c1 c2 c3 c4 c5 c6 c7 c8 c9 c10 c11 c12 c13 c14 c15 c16 c17 c18 c19 c20 c21 c22 c23 c24 c25 c26 m x181 x182 x183 x184 x185 x186 x187 x188 x189 x190 x191 x192 = some z ∧ (fun (z : (Int × Int × Int × Int × Int × Int × Int × Int × Int × Int × Int) ⊕ (Bool × Int × Int × Int × Int × Int × Int × Int × Int × Int × Int × Int)) => match z with | .inl t => (false, (t.2.1, t.2.2.1, t.2.2.2.1, t.2.2.2.2.1, t.2.2.2.2.2.1, t.2.2.2.2.2.2.1, t.2.2.2.2.2.2.2.1, t.2.2.2.2.2.2.2.2.1, t.2.2.2.2.2.2.2.2.2.1, t.2.2.2.2.2.2.2.2.2.2)) | .inr t => (t.1, (t.2.2.1, t.2.2.2.1, t.2.2.2.2.1, t.2.2.2.2.2.1, t.2.2.2.2.2.2.1, t.2.2.2.2.2.2.2.1, t.2.2.2.2.2.2.2.2.1, t.2.2.2.2.2.2.2.2.2.1, t.2.2.2.2.2.2.2.2.2.2.1, t.2.2.2.2.2.2.2.2.2.2.2))) z = sfst (okf c10 c11 c12 c13 c14 c15 c16 c17 c18 c19 c20 c21 c22 c23 c24 c25 c26) (x183, x184, x185, x186, x187, x188, x189, x190, x191, x192) (dnN k x181 (fun x181 => [(c1, c2, c3, c4, c5, c6, c7, c8, c9, x181)])) := by
  induction k with
  | zero =>
    intro m x181 x182 x183 x184 x185 x186 x187 x188 x189 x190 x191 x192 h h1 h2 h3
    obtain ⟨m, rfl⟩ : ∃ q, m = q + 1 := ⟨m - 1, by omega⟩
    have hx : ¬ x181 ≥ c0 := fun hc => by have := h2 hc; omega
    refine ⟨.inl (x182, x183, x184, x185, x186, x187, x188, x189, x190, x191, x192), ?_, rfl⟩
    show offer_down.r0 300 c0 c1 c2 c3 c4 c5 c6 c7 c8 c9 c10 c11 c12 c13 c14 c15 c16 c17 c18 c19 c20 c21 c22 c23 c24 c25 c26 (offer_down.l0 300 c0 c1 c2 c3 c4 c5 c6 c7 c8 c9 c10 c11 c12 c13 c14 c15 c16 c17 c18 c19 c20 c21 c22 c23 c24 c25 c26 m) x181 x182 x183 x184 x185 x186 x187 x188 x189 x190 x191 x192 = _
    exact bif_eq_f (decide_eq_false hx) rfl
  | succ k ih =>
    intro m x181 x182 x183 x184 x185 x186 x187 x188 x189 x190 x191 x192 h h1 h2 h3
    obtain ⟨m, rfl⟩ : ∃ q, m = q + 1 := ⟨m - 1, by omega⟩
    have hx : x181 ≥ c0 := by
      rcases Int.lt_or_le x181 c0 with hc | hc
      · have := h1 hc; omega
      · exact hc
    have hk := h2 hx
    obtain ⟨⟨r0, r1, r2, r3, r4, r5, r6, r7, r8, r9, r10⟩, hr, e⟩ := offer_laps_1_1_w x181 c1 c2 c3 c4 c5 c6 c7 c8 c9 x182 c10 c11 c12 c13 c14 c15 c16 c17 c18 c19 c20 c21 c22 c23 c24 c25 c26 x183 x184 x185 x186 x187 x188 x189 x190 x191 x192  
    have e1 : r0 = (sfst (okf c10 c11 c12 c13 c14 c15 c16 c17 c18 c19 c20 c21 c22 c23 c24 c25 c26) (x183, x184, x185, x186, x187, x188, x189, x190, x191, x192) ([(c1, c2, c3, c4, c5, c6, c7, c8, c9, x181)])).1 := congrArg Prod.fst e
    have e2 : (r1, r2, r3, r4, r5, r6, r7, r8, r9, r10) = (sfst (okf c10 c11 c12 c13 c14 c15 c16 c17 c18 c19 c20 c21 c22 c23 c24 c25 c26) (x183, x184, x185, x186, x187, x188, x189, x190, x191, x192) ([(c1, c2, c3, c4, c5, c6, c7, c8, c9, x181)])).2 := congrArg Prod.snd e
    cases r0 with
    | true =>
      refine ⟨.inr (true, x181, r1, r2, r3, r4, r5, r6, r7, r8, r9, r10), ?_, ?_⟩
      · show offer_down.r0 300 c0 c1 c2 c3 c4 c5 c6 c7 c8 c9 c10 c11 c12 c13 c14 c15 c16 c17 c18 c19 c20 c21 c22 c23 c24 c25 c26 (offer_down.l0 300 c0 c1 c2 c3 c4 c5 c6 c7 c8 c9 c10 c11 c12 c13 c14 c15 c16 c17 c18 c19 c20 c21 c22 c23 c24 c25 c26 m) x181 x182 x183 x184 x185 x186 x187 x188 x189 x190 x191 x192 = _
        exact bif_eq_t (decide_eq_true hx) (bnd_eq hr rfl)
      · show (true, (r1, r2, r3, r4, r5, r6, r7, r8, r9, r10)) = sfst _ _ (([(c1, c2, c3, c4, c5, c6, c7, c8, c9, x181)]) ++ dnN k (x181 - 1) (fun x181 => [(c1, c2, c3, c4, c5, c6, c7, c8, c9, x181)]))
        rw [sfst_t e1.symm]; exact Prod.ext e1 e2
    | false =>
      obtain ⟨s1, s2⟩ := sfst_f (B := dnN k (x181 - 1) (fun x181 => [(c1, c2, c3, c4, c5, c6, c7, c8, c9, x181)])) e1.symm
      obtain ⟨z, hz, ez⟩ := ih m (x181 - 1) x181 r1 r2 r3 r4 r5 r6 r7 r8 r9 r10 (by omega) (fun hc => by omega) (fun hc => by omega) (by omega)
      refine ⟨z, ?_, ?_⟩
      · show offer_down.r0 300 c0 c1 c2 c3 c4 c5 c6 c7 c8 c9 c10 c11 c12 c13 c14 c15 c16 c17 c18 c19 c20 c21 c22 c23 c24 c25 c26 (offer_down.l0 300 c0 c1 c2 c3 c4 c5 c6 c7 c8 c9 c10 c11 c12 c13 c14 c15 c16 c17 c18 c19 c20 c21 c22 c23 c24 c25 c26 m) x181 x182 x183 x184 x185 x186 x187 x188 x189 x190 x191 x192 = _
        refine bif_eq_t (decide_eq_true hx) (bnd_eq hr (bif_eq_f rfl ?_))
        show offer_down.l0 300 c0 c1 c2 c3 c4 c5 c6 c7 c8 c9 c10 c11 c12 c13 c14 c15 c16 c17 c18 c19 c20 c21 c22 c23 c24 c25 c26 m (kwrap .i64 (x181 - 1)) x181 r1 r2 r3 r4 r5 r6 r7 r8 r9 r10 = _
        rw [kw_i64 (by omega) (by omega)]; exact hz
      · rw [ez]
        show _ = sfst _ _ (([(c1, c2, c3, c4, c5, c6, c7, c8, c9, x181)]) ++ dnN k (x181 - 1) (fun x181 => [(c1, c2, c3, c4, c5, c6, c7, c8, c9, x181)]))
        rw [s1, e2, s2]

theorem offer_down_w (p0 p1 p2 p3 p4 p5 p6 p7 p8 p9 p10 p11 p12 p13 p14 p15 p16 p17 p18 p19 p20 p21 p22 p23 p24 p25 p26 p27 p28 p29 p30 p31 p32 p33 p34 p35 p36 p37 p38 : Int) (g0 : -1000 ≤ p1 ∧ p0 ≤ 1000 ∧ p0 - p1 ≤ 290) : ∃ r, offer_down 300 p0 p1 p2 p3 p4 p5 p6 p7 p8 p9 p10 p11 p12 p13 p14 p15 p16 p17 p18 p19 p20 p21 p22 p23 p24 p25 p26 p27 p28 p29 p30 p31 p32 p33 p34 p35 p36 p37 p38 = some r ∧ (fun (r : Bool × Int × Int × Int × Int × Int × Int × Int × Int × Int × Int × Int) => (r.1, (r.2.2.1, r.2.2.2.1, r.2.2.2.2.1, r.2.2.2.2.2.1, r.2.2.2.2.2.2.1, r.2.2.2.2.2.2.2.1, r.2.2.2.2.2.2.2.2.1, r.2.2.2.2.2.2.2.2.2.1, r.2.2.2.2.2.2.2.2.2.2.1, r.2.2.2.2.2.2.2.2.2.2.2))) r = sfst (okf p12 p13 p14 p15 p16 p17 p18 p19 p20 p21 p22 p23 p24 p25 p26 p27 p28) (p29, p30, p31, p32, p33, p34, p35, p36, p37, p38) (dn p0 p1 (fun y102 => [(p2, p3, p4, p5, p6, p7, p8, p9, p10, y102)])) := by
  obtain ⟨z, hz, ez⟩ := offer_down_l p1 p2 p3 p4 p5 p6 p7 p8 p9 p10 p12 p13 p14 p15 p16 p17 p18 p19 p20 p21 p22 p23 p24 p25 p26 p27 p28  g0.1 (p0 - p1 + 1).toNat 300 p0 p11 p29 p30 p31 p32 p33 p34 p35 p36 p37 p38 (by omega) (by omega) (by omega) (by omega)
  rcases z with ⟨t0, t1, t2, t3, t4, t5, t6, t7, t8, t9, t10⟩ | ⟨t0, t1, t2, t3, t4, t5, t6, t7, t8, t9, t10, t11⟩
  · exact ⟨_, bnd_eq hz rfl, ez⟩
  · exact ⟨_, bnd_eq hz rfl, ez⟩

theorem offer_laps_1_w (p0 p1 p2 p3 p4 p5 p6 p7 p8 p9 p10 p11 p12 p13 p14 p15 p16 p17 p18 p19 p20 p21 p22 p23 p24 p25 p26 p27 p28 p29 p30 p31 p32 p33 p34 p35 p36 p37 p38 p39 p40 p41 p42 : Int) (g0 : -1000 ≤ p14 ∧ p15 ≤ 1000 ∧ p15 - p14 ≤ 290) (hr : 0 ≤ p0 ∧ p0 ≤ 3) : ∃ r, offer_laps_1 300 p0 p1 p2 p3 p4 p5 p6 p7 p8 p9 p10 p11 p12 p13 p14 p15 p16 p17 p18 p19 p20 p21 p22 p23 p24 p25 p26 p27 p28 p29 p30 p31 p32 p33 p34 p35 p36 p37 p38 p39 p40 p41 p42 = some r ∧ (fun (r : Bool × Int × Int × Int × Int × Int × Int × Int × Int × Int × Int × Int × Int) => (r.1, (r.2.2.2.1, r.2.2.2.2.1, r.2.2.2.2.2.1, r.2.2.2.2.2.2.1, r.2.2.2.2.2.2.2.1, r.2.2.2.2.2.2.2.2.1, r.2.2.2.2.2.2.2.2.2.1, r.2.2.2.2.2.2.2.2.2.2.1, r.2.2.2.2.2.2.2.2.2.2.2.1, r.2.2.2.2.2.2.2.2.2.2.2.2))) r = sfst (okf p16 p17 p18 p19 p20 p21 p22 p23 p24 p25 p26 p27 p28 p29 p30 p31 p32) (p33, p34, p35, p36, p37, p38, p39, p40, p41, p42) (dn p15 p14 (fun y102 => [(p1, p2, p3, p4, p5, p6, p7, p8, (Kd.nth (.int .i64) [40, 60, 80, 120] (Int.toNat p0)), y102)])) := by
  obtain ⟨⟨r0, r1, r2, r3, r4, r5, r6, r7, r8, r9, r10, r11⟩, h, e⟩ := offer_down_w p15 p14 p1 p2 p3 p4 p5 p6 p7 p8 (Kd.nth (.int .i64) [40, 60, 80, 120] (Int.toNat p0)) p10 p16 p17 p18 p19 p20 p21 p22 p23 p24 p25 p26 p27 p28 p29 p30 p31 p32 p33 p34 p35 p36 p37 p38 p39 p40 p41 p42 g0
  exact ⟨_, gd_eq ⟨hr.1, by have := hr.2; simp [List.length_cons]; omega⟩ (bnd_eq h rfl), e⟩

theorem offer_down_2_l (c0 c1 c2 c3 c4 c5 c6 c7 c8 c9 c10 c11 c12 c13 c14 c15 c16 c17 c18 c19 c20 c21 c22 c23 c24 c25 c26 c27 c28 c29 c30 : Int) (g0 : -1000 ≤ c12 ∧ c13 ≤ 1000 ∧ c13 - c12 ≤ 290) (hlo : 0 ≤ c0) (k : Nat) : ∀ (m : Nat) (x207 x208 x209 x210 x211 x212 x213 x214 x215 x216 x217 x218 x219 : Int), k < m → (x207 < c0 → k = 0) → (c0 ≤ x207 → (k : Int) = x207 - c0 + 1) → x207 ≤ 3 → ∃ z, offer_down_2.l0 300 c0 c1 c2 c3 c4 c5 c6 c7 c8 c9 c10 c11 c12 c13 c14 c15 c16 c17 c18 c19 c20 c21 c22 c23 c24 c25 c26 c27 c28 c29 c30 m x207 x208 x209 x210 x211 x212 x213 x214 x215 x216 x217 x218 x219 = some z ∧ (fun (z : (Int × Int × Int × Int × Int × Int × Int × Int × Int × Int × Int × Int) ⊕ (Bool × Int × Int × Int × Int × Int × Int × Int × Int × Int × Int × Int × Int)) => match z with | .inl t => (false, (t.2.2.1, t.2.2.2.1, t.2.2.2.2.1, t.2.2.2.2.2.1, t.2.2.2.2.2.2.1, t.2.2.2.2.2.2.2.1, t.2.2.2.2.2.2.2.2.1, t.2.2.2.2.2.2.2.2.2.1, t.2.2.2.2.2.2.2.2.2.2.1, t.2.2.2.2.2.2.2.2.2.2.2)) | .inr t => (t.1, (t.2.2.2.1, t.2.2.2.2.1, t.2.2.2.2.2.1, t.2.2.2.2.2.2.1, t.2.2.2.2.2.2.2.1, t.2.2.2.2.2.2.2.2.1, t.2.2.2.2.2.2.2.2.2.1, t.2.2.2.2.2.2.2.2.2.2.1, t.2.2.2.2.2.2.2.2.2.2.2.1, t.2.2.2.2.2.2.2.2.2.2.2.2))) z = sfst (okf c14 c15 c16 c17 c18 c19 c20 c21 c22 c23 c24 c25 c26 c27 c28 c29 c30) (x210, x211, x212, x213, x214, x215, x216, x217, x218, x219) (dnN k x207 (fun x207 => dn c13 c12 (fun y102 => [(c1, c2, c3, c4, c5, c6, c7, c8, (Kd.nth (.int .i64) [40, 60, 80, 120] (Int.toNat x207)), y102)]))) := by
  induction k with
  | zero =>
    intro m x207 x208 x209 x210 x211 x212 x213 x214 x215 x216 x217 x218 x219 h h1 h2 h3
    obtain ⟨m, rfl⟩ : ∃ q, m = q + 1 := ⟨m - 1, by omega⟩
    have hx : ¬ x207 ≥ c0 := fun hc => by have := h2 hc; omega
    refine ⟨.inl (x208, x209, x210, x211, x212, x213, x214, x215, x216, x217, x218, x219), ?_, rfl⟩
    show offer_down_2.r0 300 c0 c1 c2 c3 c4 c5 c6 c7 c8 c9 c10 c11 c12 c13 c14 c15 c16 c17 c18 c19 c20 c21 c22 c23 c24 c25 c26 c27 c28 c29 c30 (offer_down_2.l0 300 c0 c1 c2 c3 c4 c5 c6 c7 c8 c9 c10 c11 c12 c13 c14 c15 c16 c17 c18 c19 c20 c21 c22 c23 c24 c25 c26 c27 c28 c29 c30 m) x207 x208 x209 x210 x211 x212 x213 x214 x215 x216 x217 x218 x219 = _
    exact bif_eq_f (decide_eq_false hx) rfl
  | succ k ih =>
    intro m x207 x208 x209 x210 x211 x212 x213 x214 x215 x216 x217 x218 x219 h h1 h2 h3
    obtain ⟨m, rfl⟩ : ∃ q, m = q + 1 := ⟨m - 1, by omega⟩
    have hx : x207 ≥ c0 := by
      rcases Int.lt_or_le x207 c0 with hc | hc
      · have := h1 hc; omega
      · exact hc
    have hk := h2 hx
    obtain ⟨⟨r0, r1, r2, r3, r4, r5, r6, r7, r8, r9, r10, r11, r12⟩, hr, e⟩ := offer_laps_1_w x207 c1 c2 c3 c4 c5 c6 c7 c8 x208 x209 c9 c10 c11 c12 c13 c14 c15 c16 c17 c18 c19 c20 c21 c22 c23 c24 c25 c26 c27 c28 c29 c30 x210 x211 x212 x213 x214 x215 x216 x217 x218 x219 g0 ⟨by omega, h3⟩
    have e1 : r0 = (sfst (okf c14 c15 c16 c17 c18 c19 c20 c21 c22 c23 c24 c25 c26 c27 c28 c29 c30) (x210, x211, x212, x213, x214, x215, x216, x217, x218, x219) (dn c13 c12 (fun y102 => [(c1, c2, c3, c4, c5, c6, c7, c8, (Kd.nth (.int .i64) [40, 60, 80, 120] (Int.toNat x207)), y102)]))).1 := congrArg Prod.fst e
    have e2 : (r3, r4, r5, r6, r7, r8, r9, r10, r11, r12) = (sfst (okf c14 c15 c16 c17 c18 c19 c20 c21 c22 c23 c24 c25 c26 c27 c28 c29 c30) (x210, x211, x212, x213, x214, x215, x216, x217, x218, x219) (dn c13 c12 (fun y102 => [(c1, c2, c3, c4, c5, c6, c7, c8, (Kd.nth (.int .i64) [40, 60, 80, 120] (Int.toNat x207)), y102)]))).2 := congrArg Prod.snd e
    cases r0 with
    | true =>
      refine ⟨.inr (true, r1, r2, r3, r4, r5, r6, r7, r8, r9, r10, r11, r12), ?_, ?_⟩
      · show offer_down_2.r0 300 c0 c1 c2 c3 c4 c5 c6 c7 c8 c9 c10 c11 c12 c13 c14 c15 c16 c17 c18 c19 c20 c21 c22 c23 c24 c25 c26 c27 c28 c29 c30 (offer_down_2.l0 300 c0 c1 c2 c3 c4 c5 c6 c7 c8 c9 c10 c11 c12 c13 c14 c15 c16 c17 c18 c19 c20 c21 c22 c23 c24 c25 c26 c27 c28 c29 c30 m) x207 x208 x209 x210 x211 x212 x213 x214 x215 x216 x217 x218 x219 = _
        exact bif_eq_t (decide_eq_true hx) (bnd_eq hr rfl)
      · show (true, (r3, r4, r5, r6, r7, r8, r9, r10, r11, r12)) = sfst _ _ ((dn c13 c12 (fun y102 => [(c1, c2, c3, c4, c5, c6, c7, c8, (Kd.nth (.int .i64) [40, 60, 80, 120] (Int.toNat x207)), y102)])) ++ dnN k (x207 - 1) (fun x207 => dn c13 c12 (fun y102 => [(c1, c2, c3, c4, c5, c6, c7, c8, (Kd.nth (.int .i64) [40, 60, 80, 120] (Int.toNat x207)), y102)])))
        rw [sfst_t e1.symm]; exact Prod.ext e1 e2
    | false =>
      obtain ⟨s1, s2⟩ := sfst_f (B := dnN k (x207 - 1) (fun x207 => dn c13 c12 (fun y102 => [(c1, c2, c3, c4, c5, c6, c7, c8, (Kd.nth (.int .i64) [40, 60, 80, 120] (Int.toNat x207)), y102)]))) e1.symm
      obtain ⟨z, hz, ez⟩ := ih m (x207 - 1) r1 r2 r3 r4 r5 r6 r7 r8 r9 r10 r11 r12 (by omega) (fun hc => by omega) (fun hc => by omega) (by omega)
      refine ⟨z, ?_, ?_⟩
      · show offer_down_2.r0 300 c0 c1 c2 c3 c4 c5 c6 c7 c8 c9 c10 c11 c12 c13 c14 c15 c16 c17 c18 c19 c20 c21 c22 c23 c24 c25 c26 c27 c28 c29 c30 (offer_down_2.l0 300 c0 c1 c2 c3 c4 c5 c6 c7 c8 c9 c10 c11 c12 c13 c14 c15 c16 c17 c18 c19 c20 c21 c22 c23 c24 c25 c26 c27 c28 c29 c30 m) x207 x208 x209 x210 x211 x212 x213 x214 x215 x216 x217 x218 x219 = _
        refine bif_eq_t (decide_eq_true hx) (bnd_eq hr (bif_eq_f rfl ?_))
        show offer_down_2.l0 300 c0 c1 c2 c3 c4 c5 c6 c7 c8 c9 c10 c11 c12 c13 c14 c15 c16 c17 c18 c19 c20 c21 c22 c23 c24 c25 c26 c27 c28 c29 c30 m (kwrap .i64 (x207 - 1)) r1 r2 r3 r4 r5 r6 r7 r8 r9 r10 r11 r12 = _
        rw [kw_i64 (by omega) (by omega)]; exact hz
      · rw [ez]
        show _ = sfst _ _ ((dn c13 c12 (fun y102 => [(c1, c2, c3, c4, c5, c6, c7, c8, (Kd.nth (.int .i64) [40, 60, 80, 120] (Int.toNat x207)), y102)])) ++ dnN k (x207 - 1) (fun x207 => dn c13 c12 (fun y102 => [(c1, c2, c3, c4, c5, c6, c7, c8, (Kd.nth (.int .i64) [40, 60, 80, 120] (Int.toNat x207)), y102)])))
        rw [s1, e2, s2]

theorem offer_down_2_w (p0 p1 p2 p3 p4 p5 p6 p7 p8 p9 p10 p11 p12 p13 p14 p15 p16 p17 p18 p19 p20 p21 p22 p23 p24 p25 p26 p27 p28 p29 p30 p31 p32 p33 p34 p35 p36 p37 p38 p39 p40 p41 p42 p43 : Int) (g0 : -1000 ≤ p1 ∧ p0 ≤ 1000 ∧ p0 - p1 ≤ 290) (g1 : -1000 ≤ p15 ∧ p16 ≤ 1000 ∧ p16 - p15 ≤ 290) (hlo : 0 ≤ p1) (hhi : p0 ≤ 3) : ∃ r, offer_down_2 300 p0 p1 p2 p3 p4 p5 p6 p7 p8 p9 p10 p11 p12 p13 p14 p15 p16 p17 p18 p19 p20 p21 p22 p23 p24 p25 p26 p27 p28 p29 p30 p31 p32 p33 p34 p35 p36 p37 p38 p39 p40 p41 p42 p43 = some r ∧ (fun (r : Bool × Int × Int × Int × Int × Int × Int × Int × Int × Int × Int × Int × Int) => (r.1, (r.2.2.2.1, r.2.2.2.2.1, r.2.2.2.2.2.1, r.2.2.2.2.2.2.1, r.2.2.2.2.2.2.2.1, r.2.2.2.2.2.2.2.2.1, r.2.2.2.2.2.2.2.2.2.1, r.2.2.2.2.2.2.2.2.2.2.1, r.2.2.2.2.2.2.2.2.2.2.2.1, r.2.2.2.2.2.2.2.2.2.2.2.2))) r = sfst (okf p17 p18 p19 p20 p21 p22 p23 p24 p25 p26 p27 p28 p29 p30 p31 p32 p33) (p34, p35, p36, p37, p38, p39, p40, p41, p42, p43) (dn p0 p1 (fun y104 => dn p16 p15 (fun y102 => [(p2, p3, p4, p5, p6, p7, p8, p9, (Kd.nth (.int .i64) [40, 60, 80, 120] (Int.toNat y104)), y102)]))) := by
  obtain ⟨z, hz, ez⟩ := offer_down_2_l p1 p2 p3 p4 p5 p6 p7 p8 p9 p12 p13 p14 p15 p16 p17 p18 p19 p20 p21 p22 p23 p24 p25 p26 p27 p28 p29 p30 p31 p32 p33 g1 hlo (p0 - p1 + 1).toNat 300 p0 p10 p11 p34 p35 p36 p37 p38 p39 p40 p41 p42 p43 (by omega) (by omega) (by omega) (by omega)
  rcases z with ⟨t0, t1, t2, t3, t4, t5, t6, t7, t8, t9, t10, t11⟩ | ⟨t0, t1, t2, t3, t4, t5, t6, t7, t8, t9, t10, t11, t12⟩
  · exact ⟨_, bnd_eq hz rfl, ez⟩
  · exact ⟨_, bnd_eq hz rfl, ez⟩

theorem offer_laps_w (p0 p1 p2 p3 p4 p5 p6 p7 p8 p9 p10 p11 p12 p13 p14 p15 p16 p17 p18 p19 p20 p21 p22 p23 p24 p25 p26 p27 p28 p29 p30 p31 p32 p33 p34 p35 p36 p37 p38 p39 p40 p41 : Int) (g0 : -1000 ≤ p13 ∧ p14 ≤ 1000 ∧ p14 - p13 ≤ 290) : ∃ r, offer_laps 300 p0 p1 p2 p3 p4 p5 p6 p7 p8 p9 p10 p11 p12 p13 p14 p15 p16 p17 p18 p19 p20 p21 p22 p23 p24 p25 p26 p27 p28 p29 p30 p31 p32 p33 p34 p35 p36 p37 p38 p39 p40 p41 = some r ∧ (fun (r : Bool × Int × Int × Int × Int × Int × Int × Int × Int × Int × Int) => (r.1, (r.2.1, r.2.2.1, r.2.2.2.1, r.2.2.2.2.1, r.2.2.2.2.2.1, r.2.2.2.2.2.2.1, r.2.2.2.2.2.2.2.1, r.2.2.2.2.2.2.2.2.1, r.2.2.2.2.2.2.2.2.2.1, r.2.2.2.2.2.2.2.2.2.2))) r = sfst (okf p15 p16 p17 p18 p19 p20 p21 p22 p23 p24 p25 p26 p27 p28 p29 p30 p31) (p32, p33, p34, p35, p36, p37, p38, p39, p40, p41) (dn 3 0 (fun y104 => dn p14 p13 (fun y102 => [(p0, p1, p2, p3, p4, p5, p6, p7, (Kd.nth (.int .i64) [40, 60, 80, 120] (Int.toNat y104)), y102)]))) := by
  obtain ⟨⟨r0, r1, r2, r3, r4, r5, r6, r7, r8, r9, r10, r11, r12⟩, h, e⟩ := offer_down_2_w 3 0 p0 p1 p2 p3 p4 p5 p6 p7 p8 p9 p10 p11 p12 p13 p14 p15 p16 p17 p18 p19 p20 p21 p22 p23 p24 p25 p26 p27 p28 p29 p30 p31 p32 p33 p34 p35 p36 p37 p38 p39 p40 p41 (by decide) g0 (by decide) (by decide)
  exact ⟨_, bnd_eq h rfl, e⟩

theorem offer_subs_1_1_1_1_1_w (p0 p1 p2 p3 p4 p5 p6 p7 p8 p9 p10 p11 p12 p13 p14 p15 p16 p17 p18 p19 p20 p21 p22 p23 p24 p25 p26 p27 p28 p29 p30 p31 p32 p33 p34 p35 p36 p37 : Int) : ∃ r, offer_subs_1_1_1_1_1 300 p0 p1 p2 p3 p4 p5 p6 p7 p8 p9 p10 p11 p12 p13 p14 p15 p16 p17 p18 p19 p20 p21 p22 p23 p24 p25 p26 p27 p28 p29 p30 p31 p32 p33 p34 p35 p36 p37 = some r ∧ (fun (r : Bool × Int × Int × Int × Int × Int × Int × Int × Int × Int × Int) => (r.1, (r.2.1, r.2.2.1, r.2.2.2.1, r.2.2.2.2.1, r.2.2.2.2.2.1, r.2.2.2.2.2.2.1, r.2.2.2.2.2.2.2.1, r.2.2.2.2.2.2.2.2.1, r.2.2.2.2.2.2.2.2.2.1, r.2.2.2.2.2.2.2.2.2.2))) r = sfst (okf p11 p12 p13 p14 p15 p16 p17 p18 p19 p20 p21 p22 p23 p24 p25 p26 p27) (p28, p29, p30, p31, p32, p33, p34, p35, p36, p37) ([(p1, p2, p3, p4, p5, p6, p7, p0, p9, p10)]) := by
  obtain ⟨⟨r0, r1, r2, r3, r4, r5, r6, r7, r8, r9, r10⟩, h, e⟩ := offer_Choose_1_w p1 p2 p3 p4 p5 p6 p7 p0 p9 p10 p11 p12 p13 p14 p15 p16 p17 p18 p19 p20 p21 p22 p23 p24 p25 p26 p27 p28 p29 p30 p31 p32 p33 p34 p35 p36 p37 
  exact ⟨_, bnd_eq h rfl, e⟩

theorem offer_down_3_l (c0 c1 c2 c3 c4 c5 c6 c7 c8 c9 c10 c11 c12 c13 c14 c15 c16 c17 c18 c19 c20 c21 c22 c23 c24 c25 c26 : Int) (hlo : -1000 ≤ c0) (k : Nat) : ∀ (m : Nat) (x181 x182 x183 x184 x185 x186 x187 x188 x189 x190 x191 x192 : Int), k < m → (x181 < c0 → k = 0) → (c0 ≤ x181 → (k : Int) = x181 - c0 + 1) → x181 ≤ 1000 → ∃ z, offer_down_3.l0 300 c0 c1 c2 c3 c4 c5 c6 c7 c8 c9 c10 c11 c12 c13 c14 c15 c16 c17 c18 c19 c20 c21 c22 c23 c24 c25 c26 m x181 x182 x183 x184 x185 x186 x187 x188 x189 x190 x191 x192 = some z ∧ (fun (z : (Int × Int × Int × Int × Int × Int × Int × Int × Int × Int × Int) ⊕ (Bool × Int × Int × Int × Int × Int × Int × Int × Int × Int × Int × Int)) => match z with | .inl t => (false, (t.2.1, t.2.2.1, t.2.2.2.1, t.2.2.2.2.1, t.2.2.2.2.2.1, t.2.2.2.2.2.2.1, t.2.2.2.2.2.2.2.1, t.2.2.2.2.2.2.2.2.1, t.2.2.2.2.2.2.2.2.2.1, t.2.2.2.2.2.2.2.2.2.2)) | .inr t => (t.1, (t.2.2.1, t.2.2.2.1, t.2.2.2.2.1, t.2.2.2.2.2.1, t.2.2.2.2.2.2.1, t.2.2.2.2.2.2.2.1, t.2.2.2.2.2.2.2.2.1, t.2.2.2.2.2.2.2.2.2.1, t.2.2.2.2.2.2.2.2.2.2.1, t.2.2.2.2.2.2.2.2.2.2.2))) z = sfst (okf c10 c11 c12 c13 c14 c15 c16 c17 c18 c19 c20 c21 c22 c23 c24 c25 c26) (x183, x184, x185, x186, x187, x188, x189, x190, x191, x192) (dnN k x181 (fun x181 => [(c1, c2, c3, c4, c5, c6, c7, x181, c8, c9)])) := by
  induction k with
  | zero =>
    intro m x181 x182 x183 x184 x185 x186 x187 x188 x189 x190 x191 x192 h h1 h2 h3
    obtain ⟨m, rfl⟩ : ∃ q, m = q + 1 := ⟨m - 1, by omega⟩
    have hx : ¬ x181 ≥ c0 := fun hc => by have := h2 hc; omega
    refine ⟨.inl (x182, x183, x184, x185, x186, x187, x188, x189, x190, x191, x192), ?_, rfl⟩
    show offer_down_3.r0 300 c0 c1 c2 c3 c4 c5 c6 c7 c8 c9 c10 c11 c12 c13 c14 c15 c16 c17 c18 c19 c20 c21 c22 c23 c24 c25 c26 (offer_down_3.l0 300 c0 c1 c2 c3 c4 c5 c6 c7 c8 c9 c10 c11 c12 c13 c14 c15 c16 c17 c18 c19 c20 c21 c22 c23 c24 c25 c26 m) x181 x182 x183 x184 x185 x186 x187 x188 x189 x190 x191 x192 = _
    exact bif_eq_f (decide_eq_false hx) rfl
  | succ k ih =>
    intro m x181 x182 x183 x184 x185 x186 x187 x188 x189 x190 x191 x192 h h1 h2 h3
    obtain ⟨m, rfl⟩ : ∃ q, m = q + 1 := ⟨m - 1, by omega⟩
    have hx : x181 ≥ c0 := by
      rcases Int.lt_or_le x181 c0 with hc | hc
      · have := h1 hc; omega
      · exact hc
    have hk := h2 hx
    obtain ⟨⟨r0, r1, r2, r3, r4, r5, r6, r7, r8, r9, r10⟩, hr, e⟩ := offer_subs_1_1_1_1_1_w x181 c1 c2 c3 c4 c5 c6 c7 x182 c8 c9 c10 c11 c12 c13 c14 c15 c16 c17 c18 c19 c20 c21 c22 c23 c24 c25 c26 x183 x184 x185 x186 x187 x188 x189 x190 x191 x192  
    have e1 : r0 = (sfst (okf c10 c11 c12 c13 c14 c15 c16 c17 c18 c19 c20 c21 c22 c23 c24 c25 c26) (x183, x184, x185, x186, x187, x188, x189, x190, x191, x192) ([(c1, c2, c3, c4, c5, c6, c7, x181, c8, c9)])).1 := congrArg Prod.fst e
    have e2 : (r1, r2, r3, r4, r5, r6, r7, r8, r9, r10) = (sfst (okf c10 c11 c12 c13 c14 c15 c16 c17 c18 c19 c20 c21 c22 c23 c24 c25 c26) (x183, x184, x185, x186, x187, x188, x189, x190, x191, x192) ([(c1, c2, c3, c4, c5, c6, c7, x181, c8, c9)])).2 := congrArg Prod.snd e
    cases r0 with
    | true =>
      refine ⟨.inr (true, x181, r1, r2, r3, r4, r5, r6, r7, r8, r9, r10), ?_, ?_⟩
      · show offer_down_3.r0 300 c0 c1 c2 c3 c4 c5 c6 c7 c8 c9 c10 c11 c12 c13 c14 c15 c16 c17 c18 c19 c20 c21 c22 c23 c24 c25 c26 (offer_down_3.l0 300 c0 c1 c2 c3 c4 c5 c6 c7 c8 c9 c10 c11 c12 c13 c14 c15 c16 c17 c18 c19 c20 c21 c22 c23 c24 c25 c26 m) x181 x182 x183 x184 x185 x186 x187 x188 x189 x190 x191 x192 = _
        exact bif_eq_t (decide_eq_true hx) (bnd_eq hr rfl)
      · show (true, (r1, r2, r3, r4, r5, r6, r7, r8, r9, r10)) = sfst _ _ (([(c1, c2, c3, c4, c5, c6, c7, x181, c8, c9)]) ++ dnN k (x181 - 1) (fun x181 => [(c1, c2, c3, c4, c5, c6, c7, x181, c8, c9)]))
        rw [sfst_t e1.symm]; exact Prod.ext e1 e2
    | false =>
      obtain ⟨s1, s2⟩ := sfst_f (B := dnN k (x181 - 1) (fun x181 => [(c1, c2, c3, c4, c5, c6, c7, x181, c8, c9)])) e1.symm
      obtain ⟨z, hz, ez⟩ := ih m (x181 - 1) x181 r1 r2 r3 r4 r5 r6 r7 r8 r9 r10 (by omega) (fun hc => by omega) (fun hc => by omega) (by omega)
      refine ⟨z, ?_, ?_⟩
      · show offer_down_3.r0 300 c0 c1 c2 c3 c4 c5 c6 c7 c8 c9 c10 c11 c12 c13 c14 c15 c16 c17 c18 c19 c20 c21 c22 c23 c24 c25 c26 (offer_down_3.l0 300 c0 c1 c2 c3 c4 c5 c6 c7 c8 c9 c10 c11 c12 c13 c14 c15 c16 c17 c18 c19 c20 c21 c22 c23 c24 c25 c26 m) x181 x182 x183 x184 x185 x186 x187 x188 x189 x190 x191 x192 = _
        refine bif_eq_t (decide_eq_true hx) (bnd_eq hr (bif_eq_f rfl ?_))
        show offer_down_3.l0 300 c0 c1 c2 c3 c4 c5 c6 c7 c8 c9 c10 c11 c12 c13 c14 c15 c16 c17 c18 c19 c20 c21 c22 c23 c24 c25 c26 m (kwrap .i64 (x181 - 1)) x181 r1 r2 r3 r4 r5 r6 r7 r8 r9 r10 = _
        rw [kw_i64 (by omega) (by omega)]; exact hz
      · rw [ez]
        show _ = sfst _ _ (([(c1, c2, c3, c4, c5, c6, c7, x181, c8, c9)]) ++ dnN k (x181 - 1) (fun x181 => [(c1, c2, c3, c4, c5, c6, c7, x181, c8, c9)]))
        rw [s1, e2, s2]

theorem offer_down_3_w (p0 p1 p2 p3 p4 p5 p6 p7 p8 p9 p10 p11 p12 p13 p14 p15 p16 p17 p18 p19 p20 p21 p22 p23 p24 p25 p26 p27 p28 p29 p30 p31 p32 p33 p34 p35 p36 p37 p38 : Int) (g0 : -1000 ≤ p1 ∧ p0 ≤ 1000 ∧ p0 - p1 ≤ 290) : ∃ r, offer_down_3 300 p0 p1 p2 p3 p4 p5 p6 p7 p8 p9 p10 p11 p12 p13 p14 p15 p16 p17 p18 p19 p20 p21 p22 p23 p24 p25 p26 p27 p28 p29 p30 p31 p32 p33 p34 p35 p36 p37 p38 = some r ∧ (fun (r : Bool × Int × Int × Int × Int × Int × Int × Int × Int × Int × Int × Int) => (r.1, (r.2.2.1, r.2.2.2.1, r.2.2.2.2.1, r.2.2.2.2.2.1, r.2.2.2.2.2.2.1, r.2.2.2.2.2.2.2.1, r.2.2.2.2.2.2.2.2.1, r.2.2.2.2.2.2.2.2.2.1, r.2.2.2.2.2.2.2.2.2.2.1, r.2.2.2.2.2.2.2.2.2.2.2))) r = sfst (okf p12 p13 p14 p15 p16 p17 p18 p19 p20 p21 p22 p23 p24 p25 p26 p27 p28) (p29, p30, p31, p32, p33, p34, p35, p36, p37, p38) (dn p0 p1 (fun y107 => [(p2, p3, p4, p5, p6, p7, p8, y107, p10, p11)])) := by
  obtain ⟨z, hz, ez⟩ := offer_down_3_l p1 p2 p3 p4 p5 p6 p7 p8 p10 p11 p12 p13 p14 p15 p16 p17 p18 p19 p20 p21 p22 p23 p24 p25 p26 p27 p28  g0.1 (p0 - p1 + 1).toNat 300 p0 p9 p29 p30 p31 p32 p33 p34 p35 p36 p37 p38 (by omega) (by omega) (by omega) (by omega)
  rcases z with ⟨t0, t1, t2, t3, t4, t5, t6, t7, t8, t9, t10⟩ | ⟨t0, t1, t2, t3, t4, t5, t6, t7, t8, t9, t10, t11⟩
  · exact ⟨_, bnd_eq hz rfl, ez⟩
  · exact ⟨_, bnd_eq hz rfl, ez⟩

theorem offer_subs_1_1_1_1_w (p0 p1 p2 p3 p4 p5 p6 p7 p8 p9 p10 p11 p12 p13 p14 p15 p16 p17 p18 p19 p20 p21 p22 p23 p24 p25 p26 p27 p28 p29 p30 p31 p32 p33 p34 p35 p36 p37 p38 p39 p40 p41 p42 p43 p44 p45 p46 p47 p48 : Int) (g0 : -1000 ≤ p20 ∧ p21 ≤ 1000 ∧ p21 - p20 ≤ 290) : ∃ r, offer_subs_1_1_1_1 300 p0 p1 p2 p3 p4 p5 p6 p7 p8 p9 p10 p11 p12 p13 p14 p15 p16 p17 p18 p19 p20 p21 p22 p23 p24 p25 p26 p27 p28 p29 p30 p31 p32 p33 p34 p35 p36 p37 p38 p39 p40 p41 p42 p43 p44 p45 p46 p47 p48 = some r ∧ (fun (r : Bool × Int × Int × Int × Int × Int × Int × Int × Int × Int × Int × Int × Int × Int) => (r.1, (r.2.2.2.2.1, r.2.2.2.2.2.1, r.2.2.2.2.2.2.1, r.2.2.2.2.2.2.2.1, r.2.2.2.2.2.2.2.2.1, r.2.2.2.2.2.2.2.2.2.1, r.2.2.2.2.2.2.2.2.2.2.1, r.2.2.2.2.2.2.2.2.2.2.2.1, r.2.2.2.2.2.2.2.2.2.2.2.2.1, r.2.2.2.2.2.2.2.2.2.2.2.2.2))) r = sfst (okf p22 p23 p24 p25 p26 p27 p28 p29 p30 p31 p32 p33 p34 p35 p36 p37 p38) (p39, p40, p41, p42, p43, p44, p45, p46, p47, p48) (dn p21 p20 (fun y107 => [(p4, p5, p6, (kwrap .i64 (4 + (kwrap .i64 (4 * p1)))), (kwrap .i64 (4 * p2)), p0, p3, y107, p12, p13)])) := by
  obtain ⟨⟨r0, r1, r2, r3, r4, r5, r6, r7, r8, r9, r10, r11⟩, h, e⟩ := offer_down_3_w p21 p20 p4 p5 p6 (kwrap .i64 (4 + (kwrap .i64 (4 * p1)))) (kwrap .i64 (4 * p2)) p0 p3 p11 p12 p13 p22 p23 p24 p25 p26 p27 p28 p29 p30 p31 p32 p33 p34 p35 p36 p37 p38 p39 p40 p41 p42 p43 p44 p45 p46 p47 p48 g0
  exact ⟨_, bnd_eq h rfl, e⟩

theorem offer_down_4_l (c0 c1 c2 c3 c4 c5 c6 c7 c8 c9 c10 c11 c12 c13 c14 c15 c16 c17 c18 c19 c20 c21 c22 c23 c24 c25 c26 c27 c28 c29 c30 c31 c32 c33 : Int) (g0 : -1000 ≤ c15 ∧ c16 ≤ 1000 ∧ c16 - c15 ≤ 290) (hlo : -1000 ≤ c0) (k : Nat) : ∀ (m : Nat) (x235 x236 x237 x238 x239 x240 x241 x242 x243 x244 x245 x246 x247 x248 x249 x250 : Int), k < m → (x235 < c0 → k = 0) → (c0 ≤ x235 → (k : Int) = x235 - c0 + 1) → x235 ≤ 1000 → ∃ z, offer_down_4.l0 300 c0 c1 c2 c3 c4 c5 c6 c7 c8 c9 c10 c11 c12 c13 c14 c15 c16 c17 c18 c19 c20 c21 c22 c23 c24 c25 c26 c27 c28 c29 c30 c31 c32 c33 m x235 x236 x237 x238 x239 x240 x241 x242 x243 x244 x245 x246 x247 x248 x249 x250 = some z ∧ (fun (z : (Int × Int × Int × Int × Int × Int × Int × Int × Int × Int × Int × Int × Int × Int × Int) ⊕ (Bool × Int × Int × Int × Int × Int × Int × Int × Int × Int × Int × Int × Int × Int × Int × Int)) => match z with | .inl t => (false, (t.2.2.2.2.2.1, t.2.2.2.2.2.2.1, t.2.2.2.2.2.2.2.1, t.2.2.2.2.2.2.2.2.1, t.2.2.2.2.2.2.2.2.2.1, t.2.2.2.2.2.2.2.2.2.2.1, t.2.2.2.2.2.2.2.2.2.2.2.1, t.2.2.2.2.2.2.2.2.2.2.2.2.1, t.2.2.2.2.2.2.2.2.2.2.2.2.2.1, t.2.2.2.2.2.2.2.2.2.2.2.2.2.2)) | .inr t => (t.1, (t.2.2.2.2.2.2.1, t.2.2.2.2.2.2.2.1, t.2.2.2.2.2.2.2.2.1, t.2.2.2.2.2.2.2.2.2.1, t.2.2.2.2.2.2.2.2.2.2.1, t.2.2.2.2.2.2.2.2.2.2.2.1, t.2.2.2.2.2.2.2.2.2.2.2.2.1, t.2.2.2.2.2.2.2.2.2.2.2.2.2.1, t.2.2.2.2.2.2.2.2.2.2.2.2.2.2.1, t.2.2.2.2.2.2.2.2.2.2.2.2.2.2.2))) z = sfst (okf c17 c18 c19 c20 c21 c22 c23 c24 c25 c26 c27 c28 c29 c30 c31 c32 c33) (x241, x242, x243, x244, x245, x246, x247, x248, x249, x250) (dnN k x235 (fun x235 => dn c16 c15 (fun y107 => [(c4, c5, c6, (kwrap .i64 (4 + (kwrap .i64 (4 * c1)))), (kwrap .i64 (4 * c2)), x235, c3, y107, c7, c8)]))) := by
  induction k with
  | zero =>
    intro m x235 x236 x237 x238 x239 x240 x241 x242 x243 x244 x245 x246 x247 x248 x249 x250 h h1 h2 h3
    obtain ⟨m, rfl⟩ : ∃ q, m = q + 1 := ⟨m - 1, by omega⟩
    have hx : ¬ x235 ≥ c0 := fun hc => by have := h2 hc; omega
    refine ⟨.inl (x236, x237, x238, x239, x240, x241, x242, x243, x244, x245, x246, x247, x248, x249, x250), ?_, rfl⟩
    show offer_down_4.r0 300 c0 c1 c2 c3 c4 c5 c6 c7 c8 c9 c10 c11 c12 c13 c14 c15 c16 c17 c18 c19 c20 c21 c22 c23 c24 c25 c26 c27 c28 c29 c30 c31 c32 c33 (offer_down_4.l0 300 c0 c1 c2 c3 c4 c5 c6 c7 c8 c9 c10 c11 c12 c13 c14 c15 c16 c17 c18 c19 c20 c21 c22 c23 c24 c25 c26 c27 c28 c29 c30 c31 c32 c33 m) x235 x236 x237 x238 x239 x240 x241 x242 x243 x244 x245 x246 x247 x248 x249 x250 = _
    exact bif_eq_f (decide_eq_false hx) rfl
  | succ k ih =>
    intro m x235 x236 x237 x238 x239 x240 x241 x242 x243 x244 x245 x246 x247 x248 x249 x250 h h1 h2 h3
    obtain ⟨m, rfl⟩ : ∃ q, m = q + 1 := ⟨m - 1, by omega⟩
    have hx : x235 ≥ c0 := by
      rcases Int.lt_or_le x235 c0 with hc | hc
      · have := h1 hc; omega
      · exact hc
    have hk := h2 hx
    obtain ⟨⟨r0, r1, r2, r3, r4, r5, r6, r7, r8, r9, r10, r11, r12, r13⟩, hr, e⟩ := offer_subs_1_1_1_1_w x235 c1 c2 c3 c4 c5 c6 x236 x237 x238 x239 x240 c7 c8 c9 c10 c11 c12 c13 c14 c15 c16 c17 c18 c19 c20 c21 c22 c23 c24 c25 c26 c27 c28 c29 c30 c31 c32 c33 x241 x242 x243 x244 x245 x246 x247 x248 x249 x250 g0 
    have e1 : r0 = (sfst (okf c17 c18 c19 c20 c21 c22 c23 c24 c25 c26 c27 c28 c29 c30 c31 c32 c33) (x241, x242, x243, x244, x245, x246, x247, x248, x249, x250) (dn c16 c15 (fun y107 => [(c4, c5, c6, (kwrap .i64 (4 + (kwrap .i64 (4 * c1)))), (kwrap .i64 (4 * c2)), x235, c3, y107, c7, c8)]))).1 := congrArg Prod.fst e
    have e2 : (r4, r5, r6, r7, r8, r9, r10, r11, r12, r13) = (sfst (okf c17 c18 c19 c20 c21 c22 c23 c24 c25 c26 c27 c28 c29 c30 c31 c32 c33) (x241, x242, x243, x244, x245, x246, x247, x248, x249, x250) (dn c16 c15 (fun y107 => [(c4, c5, c6, (kwrap .i64 (4 + (kwrap .i64 (4 * c1)))), (kwrap .i64 (4 * c2)), x235, c3, y107, c7, c8)]))).2 := congrArg Prod.snd e
    cases r0 with
    | true =>
      refine ⟨.inr (true, r1, r2, x235, c3, r3, r4, r5, r6, r7, r8, r9, r10, r11, r12, r13), ?_, ?_⟩
      · show offer_down_4.r0 300 c0 c1 c2 c3 c4 c5 c6 c7 c8 c9 c10 c11 c12 c13 c14 c15 c16 c17 c18 c19 c20 c21 c22 c23 c24 c25 c26 c27 c28 c29 c30 c31 c32 c33 (offer_down_4.l0 300 c0 c1 c2 c3 c4 c5 c6 c7 c8 c9 c10 c11 c12 c13 c14 c15 c16 c17 c18 c19 c20 c21 c22 c23 c24 c25 c26 c27 c28 c29 c30 c31 c32 c33 m) x235 x236 x237 x238 x239 x240 x241 x242 x243 x244 x245 x246 x247 x248 x249 x250 = _
        exact bif_eq_t (decide_eq_true hx) (bnd_eq hr rfl)
      · show (true, (r4, r5, r6, r7, r8, r9, r10, r11, r12, r13)) = sfst _ _ ((dn c16 c15 (fun y107 => [(c4, c5, c6, (kwrap .i64 (4 + (kwrap .i64 (4 * c1)))), (kwrap .i64 (4 * c2)), x235, c3, y107, c7, c8)])) ++ dnN k (x235 - 1) (fun x235 => dn c16 c15 (fun y107 => [(c4, c5, c6, (kwrap .i64 (4 + (kwrap .i64 (4 * c1)))), (kwrap .i64 (4 * c2)), x235, c3, y107, c7, c8)])))
        rw [sfst_t e1.symm]; exact Prod.ext e1 e2
    | false =>
      obtain ⟨s1, s2⟩ := sfst_f (B := dnN k (x235 - 1) (fun x235 => dn c16 c15 (fun y107 => [(c4, c5, c6, (kwrap .i64 (4 + (kwrap .i64 (4 * c1)))), (kwrap .i64 (4 * c2)), x235, c3, y107, c7, c8)]))) e1.symm
      obtain ⟨z, hz, ez⟩ := ih m (x235 - 1) r1 r2 x235 c3 r3 r4 r5 r6 r7 r8 r9 r10 r11 r12 r13 (by omega) (fun hc => by omega) (fun hc => by omega) (by omega)
      refine ⟨z, ?_, ?_⟩
      · show offer_down_4.r0 300 c0 c1 c2 c3 c4 c5 c6 c7 c8 c9 c10 c11 c12 c13 c14 c15 c16 c17 c18 c19 c20 c21 c22 c23 c24 c25 c26 c27 c28 c29 c30 c31 c32 c33 (offer_down_4.l0 300 c0 c1 c2 c3 c4 c5 c6 c7 c8 c9 c10 c11 c12 c13 c14 c15 c16 c17 c18 c19 c20 c21 c22 c23 c24 c25 c26 c27 c28 c29 c30 c31 c32 c33 m) x235 x236 x237 x238 x239 x240 x241 x242 x243 x244 x245 x246 x247 x248 x249 x250 = _
        refine bif_eq_t (decide_eq_true hx) (bnd_eq hr (bif_eq_f rfl ?_))
        show offer_down_4.l0 300 c0 c1 c2 c3 c4 c5 c6 c7 c8 c9 c10 c11 c12 c13 c14 c15 c16 c17 c18 c19 c20 c21 c22 c23 c24 c25 c26 c27 c28 c29 c30 c31 c32 c33 m (kwrap .i64 (x235 - 1)) r1 r2 x235 c3 r3 r4 r5 r6 r7 r8 r9 r10 r11 r12 r13 = _
        rw [kw_i64 (by omega) (by omega)]; exact hz
      · rw [ez]
        show _ = sfst _ _ ((dn c16 c15 (fun y107 => [(c4, c5, c6, (kwrap .i64 (4 + (kwrap .i64 (4 * c1)))), (kwrap .i64 (4 * c2)), x235, c3, y107, c7, c8)])) ++ dnN k (x235 - 1) (fun x235 => dn c16 c15 (fun y107 => [(c4, c5, c6, (kwrap .i64 (4 + (kwrap .i64 (4 * c1)))), (kwrap .i64 (4 * c2)), x235, c3, y107, c7, c8)])))
        rw [s1, e2, s2]

theorem offer_down_4_w (p0 p1 p2 p3 p4 p5 p6 p7 p8 p9 p10 p11 p12 p13 p14 p15 p16 p17 p18 p19 p20 p21 p22 p23 p24 p25 p26 p27 p28 p29 p30 p31 p32 p33 p34 p35 p36 p37 p38 p39 p40 p41 p42 p43 p44 p45 p46 p47 p48 p49 : Int) (g0 : -1000 ≤ p1 ∧ p0 ≤ 1000 ∧ p0 - p1 ≤ 290) (g1 : -1000 ≤ p21 ∧ p22 ≤ 1000 ∧ p22 - p21 ≤ 290) : ∃ r, offer_down_4 300 p0 p1 p2 p3 p4 p5 p6 p7 p8 p9 p10 p11 p12 p13 p14 p15 p16 p17 p18 p19 p20 p21 p22 p23 p24 p25 p26 p27 p28 p29 p30 p31 p32 p33 p34 p35 p36 p37 p38 p39 p40 p41 p42 p43 p44 p45 p46 p47 p48 p49 = some r ∧ (fun (r : Bool × Int × Int × Int × Int × Int × Int × Int × Int × Int × Int × Int × Int × Int × Int × Int) => (r.1, (r.2.2.2.2.2.2.1, r.2.2.2.2.2.2.2.1, r.2.2.2.2.2.2.2.2.1, r.2.2.2.2.2.2.2.2.2.1, r.2.2.2.2.2.2.2.2.2.2.1, r.2.2.2.2.2.2.2.2.2.2.2.1, r.2.2.2.2.2.2.2.2.2.2.2.2.1, r.2.2.2.2.2.2.2.2.2.2.2.2.2.1, r.2.2.2.2.2.2.2.2.2.2.2.2.2.2.1, r.2.2.2.2.2.2.2.2.2.2.2.2.2.2.2))) r = sfst (okf p23 p24 p25 p26 p27 p28 p29 p30 p31 p32 p33 p34 p35 p36 p37 p38 p39) (p40, p41, p42, p43, p44, p45, p46, p47, p48, p49) (dn p0 p1 (fun y109 => dn p22 p21 (fun y107 => [(p5, p6, p7, (kwrap .i64 (4 + (kwrap .i64 (4 * p2)))), (kwrap .i64 (4 * p3)), y109, p4, y107, p13, p14)]))) := by
  obtain ⟨z, hz, ez⟩ := offer_down_4_l p1 p2 p3 p4 p5 p6 p7 p13 p14 p15 p16 p17 p18 p19 p20 p21 p22 p23 p24 p25 p26 p27 p28 p29 p30 p31 p32 p33 p34 p35 p36 p37 p38 p39 g1 g0.1 (p0 - p1 + 1).toNat 300 p0 p8 p9 p10 p11 p12 p40 p41 p42 p43 p44 p45 p46 p47 p48 p49 (by omega) (by omega) (by omega) (by omega)
  rcases z with ⟨t0, t1, t2, t3, t4, t5, t6, t7, t8, t9, t10, t11, t12, t13, t14⟩ | ⟨t0, t1, t2, t3, t4, t5, t6, t7, t8, t9, t10, t11, t12, t13, t14, t15⟩
  · exact ⟨_, bnd_eq hz rfl, ez⟩
  · exact ⟨_, bnd_eq hz rfl, ez⟩

theorem offer_subs_1_1_1_w (p0 p1 p2 p3 p4 p5 p6 p7 p8 p9 p10 p11 p12 p13 p14 p15 p16 p17 p18 p19 p20 p21 p22 p23 p24 p25 p26 p27 p28 p29 p30 p31 p32 p33 p34 p35 p36 p37 p38 p39 p40 p41 p42 p43 p44 p45 p46 p47 : Int) (g0 : -1000 ≤ p19 ∧ p20 ≤ 1000 ∧ p20 - p19 ≤ 290) : ∃ r, offer_subs_1_1_1 300 p0 p1 p2 p3 p4 p5 p6 p7 p8 p9 p10 p11 p12 p13 p14 p15 p16 p17 p18 p19 p20 p21 p22 p23 p24 p25 p26 p27 p28 p29 p30 p31 p32 p33 p34 p35 p36 p37 p38 p39 p40 p41 p42 p43 p44 p45 p46 p47 = some r ∧ (fun (r : Bool × Int × Int × Int × Int × Int × Int × Int × Int × Int × Int × Int × Int × Int × Int × Int) => (r.1, (r.2.2.2.2.2.2.1, r.2.2.2.2.2.2.2.1, r.2.2.2.2.2.2.2.2.1, r.2.2.2.2.2.2.2.2.2.1, r.2.2.2.2.2.2.2.2.2.2.1, r.2.2.2.2.2.2.2.2.2.2.2.1, r.2.2.2.2.2.2.2.2.2.2.2.2.1, r.2.2.2.2.2.2.2.2.2.2.2.2.2.1, r.2.2.2.2.2.2.2.2.2.2.2.2.2.2.1, r.2.2.2.2.2.2.2.2.2.2.2.2.2.2.2))) r = sfst (okf p21 p22 p23 p24 p25 p26 p27 p28 p29 p30 p31 p32 p33 p34 p35 p36 p37) (p38, p39, p40, p41, p42, p43, p44, p45, p46, p47) (dn 1 0 (fun y109 => dn p20 p19 (fun y107 => [(p3, p4, p5, (kwrap .i64 (4 + (kwrap .i64 (4 * p1)))), (kwrap .i64 (4 * p2)), y109, p0, y107, p11, p12)]))) := by
  obtain ⟨⟨r0, r1, r2, r3, r4, r5, r6, r7, r8, r9, r10, r11, r12, r13, r14, r15⟩, h, e⟩ := offer_down_4_w 1 0 p1 p2 p0 p3 p4 p5 p6 p7 p8 p9 p10 p11 p12 p13 p14 p15 p16 p17 p18 p19 p20 p21 p22 p23 p24 p25 p26 p27 p28 p29 p30 p31 p32 p33 p34 p35 p36 p37 p38 p39 p40 p41 p42 p43 p44 p45 p46 p47 (by decide) g0
  exact ⟨_, bnd_eq h rfl, e⟩

theorem offer_down_5_l (c0 c1 c2 c3 c4 c5 c6 c7 c8 c9 c10 c11 c12 c13 c14 c15 c16 c17 c18 c19 c20 c21 c22 c23 c24 c25 c26 c27 c28 c29 c30 c31 c32 : Int) (g0 : -1000 ≤ c14 ∧ c15 ≤ 1000 ∧ c15 - c14 ≤ 290) (hlo : -1000 ≤ c0) (k : Nat) : ∀ (m : Nat) (x255 x256 x257 x258 x259 x260 x261 x262 x263 x264 x265 x266 x267 x268 x269 x270 : Int), k < m → (x255 < c0 → k = 0) → (c0 ≤ x255 → (k : Int) = x255 - c0 + 1) → x255 ≤ 1000 → ∃ z, offer_down_5.l0 300 c0 c1 c2 c3 c4 c5 c6 c7 c8 c9 c10 c11 c12 c13 c14 c15 c16 c17 c18 c19 c20 c21 c22 c23 c24 c25 c26 c27 c28 c29 c30 c31 c32 m x255 x256 x257 x258 x259 x260 x261 x262 x263 x264 x265 x266 x267 x268 x269 x270 = some z ∧ (fun (z : (Int × Int × Int × Int × Int × Int × Int × Int × Int × Int × Int × Int × Int × Int × Int) ⊕ (Bool × Int × Int × Int × Int × Int × Int × Int × Int × Int × Int × Int × Int × Int × Int × Int)) => match z with | .inl t => (false, (t.2.2.2.2.2.1, t.2.2.2.2.2.2.1, t.2.2.2.2.2.2.2.1, t.2.2.2.2.2.2.2.2.1, t.2.2.2.2.2.2.2.2.2.1, t.2.2.2.2.2.2.2.2.2.2.1, t.2.2.2.2.2.2.2.2.2.2.2.1, t.2.2.2.2.2.2.2.2.2.2.2.2.1, t.2.2.2.2.2.2.2.2.2.2.2.2.2.1, t.2.2.2.2.2.2.2.2.2.2.2.2.2.2)) | .inr t => (t.1, (t.2.2.2.2.2.2.1, t.2.2.2.2.2.2.2.1, t.2.2.2.2.2.2.2.2.1, t.2.2.2.2.2.2.2.2.2.1, t.2.2.2.2.2.2.2.2.2.2.1, t.2.2.2.2.2.2.2.2.2.2.2.1, t.2.2.2.2.2.2.2.2.2.2.2.2.1, t.2.2.2.2.2.2.2.2.2.2.2.2.2.1, t.2.2.2.2.2.2.2.2.2.2.2.2.2.2.1, t.2.2.2.2.2.2.2.2.2.2.2.2.2.2.2))) z = sfst (okf c16 c17 c18 c19 c20 c21 c22 c23 c24 c25 c26 c27 c28 c29 c30 c31 c32) (x261, x262, x263, x264, x265, x266, x267, x268, x269, x270) (dnN k x255 (fun x255 => dn 1 0 (fun y109 => dn c15 c14 (fun y107 => [(c3, c4, c5, (kwrap .i64 (4 + (kwrap .i64 (4 * c1)))), (kwrap .i64 (4 * c2)), y109, x255, y107, c6, c7)])))) := by
  induction k with
  | zero =>
    intro m x255 x256 x257 x258 x259 x260 x261 x262 x263 x264 x265 x266 x267 x268 x269 x270 h h1 h2 h3
    obtain ⟨m, rfl⟩ : ∃ q, m = q + 1 := ⟨m - 1, by omega⟩
    have hx : ¬ x255 ≥ c0 := fun hc => by have := h2 hc; omega
    refine ⟨.inl (x256, x257, x258, x259, x260, x261, x262, x263, x264, x265, x266, x267, x268, x269, x270), ?_, rfl⟩
    show offer_down_5.r0 300 c0 c1 c2 c3 c4 c5 c6 c7 c8 c9 c10 c11 c12 c13 c14 c15 c16 c17 c18 c19 c20 c21 c22 c23 c24 c25 c26 c27 c28 c29 c30 c31 c32 (offer_down_5.l0 300 c0 c1 c2 c3 c4 c5 c6 c7 c8 c9 c10 c11 c12 c13 c14 c15 c16 c17 c18 c19 c20 c21 c22 c23 c24 c25 c26 c27 c28 c29 c30 c31 c32 m) x255 x256 x257 x258 x259 x260 x261 x262 x263 x264 x265 x266 x267 x268 x269 x270 = _
    exact bif_eq_f (decide_eq_false hx) rfl
  | succ k ih =>
    intro m x255 x256 x257 x258 x259 x260 x261 x262 x263 x264 x265 x266 x267 x268 x269 x270 h h1 h2 h3
    obtain ⟨m, rfl⟩ : ∃ q, m = q + 1 := ⟨m - 1, by omega⟩
    have hx : x255 ≥ c0 := by
      rcases Int.lt_or_le x255 c0 with hc | hc
      · have := h1 hc; omega
      · exact hc
    have hk := h2 hx
    obtain ⟨⟨r0, r1, r2, r3, r4, r5, r6, r7, r8, r9, r10, r11, r12, r13, r14, r15⟩, hr, e⟩ := offer_subs_1_1_1_w x255 c1 c2 c3 c4 c5 x256 x257 x258 x259 x260 c6 c7 c8 c9 c10 c11 c12 c13 c14 c15 c16 c17 c18 c19 c20 c21 c22 c23 c24 c25 c26 c27 c28 c29 c30 c31 c32 x261 x262 x263 x264 x265 x266 x267 x268 x269 x270 g0 
    have e1 : r0 = (sfst (okf c16 c17 c18 c19 c20 c21 c22 c23 c24 c25 c26 c27 c28 c29 c30 c31 c32) (x261, x262, x263, x264, x265, x266, x267, x268, x269, x270) (dn 1 0 (fun y109 => dn c15 c14 (fun y107 => [(c3, c4, c5, (kwrap .i64 (4 + (kwrap .i64 (4 * c1)))), (kwrap .i64 (4 * c2)), y109, x255, y107, c6, c7)])))).1 := congrArg Prod.fst e
    have e2 : (r6, r7, r8, r9, r10, r11, r12, r13, r14, r15) = (sfst (okf c16 c17 c18 c19 c20 c21 c22 c23 c24 c25 c26 c27 c28 c29 c30 c31 c32) (x261, x262, x263, x264, x265, x266, x267, x268, x269, x270) (dn 1 0 (fun y109 => dn c15 c14 (fun y107 => [(c3, c4, c5, (kwrap .i64 (4 + (kwrap .i64 (4 * c1)))), (kwrap .i64 (4 * c2)), y109, x255, y107, c6, c7)])))).2 := congrArg Prod.snd e
    cases r0 with
    | true =>
      refine ⟨.inr (true, r1, r2, r3, r4, r5, r6, r7, r8, r9, r10, r11, r12, r13, r14, r15), ?_, ?_⟩
      · show offer_down_5.r0 300 c0 c1 c2 c3 c4 c5 c6 c7 c8 c9 c10 c11 c12 c13 c14 c15 c16 c17 c18 c19 c20 c21 c22 c23 c24 c25 c26 c27 c28 c29 c30 c31 c32 (offer_down_5.l0 300 c0 c1 c2 c3 c4 c5 c6 c7 c8 c9 c10 c11 c12 c13 c14 c15 c16 c17 c18 c19 c20 c21 c22 c23 c24 c25 c26 c27 c28 c29 c30 c31 c32 m) x255 x256 x257 x258 x259 x260 x261 x262 x263 x264 x265 x266 x267 x268 x269 x270 = _
        exact bif_eq_t (decide_eq_true hx) (bnd_eq hr rfl)
      · show (true, (r6, r7, r8, r9, r10, r11, r12, r13, r14, r15)) = sfst _ _ ((dn 1 0 (fun y109 => dn c15 c14 (fun y107 => [(c3, c4, c5, (kwrap .i64 (4 + (kwrap .i64 (4 * c1)))), (kwrap .i64 (4 * c2)), y109, x255, y107, c6, c7)]))) ++ dnN k (x255 - 1) (fun x255 => dn 1 0 (fun y109 => dn c15 c14 (fun y107 => [(c3, c4, c5, (kwrap .i64 (4 + (kwrap .i64 (4 * c1)))), (kwrap .i64 (4 * c2)), y109, x255, y107, c6, c7)]))))
        rw [sfst_t e1.symm]; exact Prod.ext e1 e2
    | false =>
      obtain ⟨s1, s2⟩ := sfst_f (B := dnN k (x255 - 1) (fun x255 => dn 1 0 (fun y109 => dn c15 c14 (fun y107 => [(c3, c4, c5, (kwrap .i64 (4 + (kwrap .i64 (4 * c1)))), (kwrap .i64 (4 * c2)), y109, x255, y107, c6, c7)])))) e1.symm
      obtain ⟨z, hz, ez⟩ := ih m (x255 - 1) r1 r2 r3 r4 r5 r6 r7 r8 r9 r10 r11 r12 r13 r14 r15 (by omega) (fun hc => by omega) (fun hc => by omega) (by omega)
      refine ⟨z, ?_, ?_⟩
      · show offer_down_5.r0 300 c0 c1 c2 c3 c4 c5 c6 c7 c8 c9 c10 c11 c12 c13 c14 c15 c16 c17 c18 c19 c20 c21 c22 c23 c24 c25 c26 c27 c28 c29 c30 c31 c32 (offer_down_5.l0 300 c0 c1 c2 c3 c4 c5 c6 c7 c8 c9 c10 c11 c12 c13 c14 c15 c16 c17 c18 c19 c20 c21 c22 c23 c24 c25 c26 c27 c28 c29 c30 c31 c32 m) x255 x256 x257 x258 x259 x260 x261 x262 x263 x264 x265 x266 x267 x268 x269 x270 = _
        refine bif_eq_t (decide_eq_true hx) (bnd_eq hr (bif_eq_f rfl ?_))
        show offer_down_5.l0 300 c0 c1 c2 c3 c4 c5 c6 c7 c8 c9 c10 c11 c12 c13 c14 c15 c16 c17 c18 c19 c20 c21 c22 c23 c24 c25 c26 c27 c28 c29 c30 c31 c32 m (kwrap .i64 (x255 - 1)) r1 r2 r3 r4 r5 r6 r7 r8 r9 r10 r11 r12 r13 r14 r15 = _
        rw [kw_i64 (by omega) (by omega)]; exact hz
      · rw [ez]
        show _ = sfst _ _ ((dn 1 0 (fun y109 => dn c15 c14 (fun y107 => [(c3, c4, c5, (kwrap .i64 (4 + (kwrap .i64 (4 * c1)))), (kwrap .i64 (4 * c2)), y109, x255, y107, c6, c7)]))) ++ dnN k (x255 - 1) (fun x255 => dn 1 0 (fun y109 => dn c15 c14 (fun y107 => [(c3, c4, c5, (kwrap .i64 (4 + (kwrap .i64 (4 * c1)))), (kwrap .i64 (4 * c2)), y109, x255, y107, c6, c7)]))))
        rw [s1, e2, s2]

theorem offer_down_5_w (p0 p1 p2 p3 p4 p5 p6 p7 p8 p9 p10 p11 p12 p13 p14 p15 p16 p17 p18 p19 p20 p21 p22 p23 p24 p25 p26 p27 p28 p29 p30 p31 p32 p33 p34 p35 p36 p37 p38 p39 p40 p41 p42 p43 p44 p45 p46 p47 p48 : Int) (g0 : -1000 ≤ p1 ∧ p0 ≤ 1000 ∧ p0 - p1 ≤ 290) (g1 : -1000 ≤ p20 ∧ p21 ≤ 1000 ∧ p21 - p20 ≤ 290) : ∃ r, offer_down_5 300 p0 p1 p2 p3 p4 p5 p6 p7 p8 p9 p10 p11 p12 p13 p14 p15 p16 p17 p18 p19 p20 p21 p22 p23 p24 p25 p26 p27 p28 p29 p30 p31 p32 p33 p34 p35 p36 p37 p38 p39 p40 p41 p42 p43 p44 p45 p46 p47 p48 = some r ∧ (fun (r : Bool × Int × Int × Int × Int × Int × Int × Int × Int × Int × Int × Int × Int × Int × Int × Int) => (r.1, (r.2.2.2.2.2.2.1, r.2.2.2.2.2.2.2.1, r.2.2.2.2.2.2.2.2.1, r.2.2.2.2.2.2.2.2.2.1, r.2.2.2.2.2.2.2.2.2.2.1, r.2.2.2.2.2.2.2.2.2.2.2.1, r.2.2.2.2.2.2.2.2.2.2.2.2.1, r.2.2.2.2.2.2.2.2.2.2.2.2.2.1, r.2.2.2.2.2.2.2.2.2.2.2.2.2.2.1, r.2.2.2.2.2.2.2.2.2.2.2.2.2.2.2))) r = sfst (okf p22 p23 p24 p25 p26 p27 p28 p29 p30 p31 p32 p33 p34 p35 p36 p37 p38) (p39, p40, p41, p42, p43, p44, p45, p46, p47, p48) (dn p0 p1 (fun y111 => dn 1 0 (fun y109 => dn p21 p20 (fun y107 => [(p4, p5, p6, (kwrap .i64 (4 + (kwrap .i64 (4 * p2)))), (kwrap .i64 (4 * p3)), y109, y111, y107, p12, p13)])))) := by
  obtain ⟨z, hz, ez⟩ := offer_down_5_l p1 p2 p3 p4 p5 p6 p12 p13 p14 p15 p16 p17 p18 p19 p20 p21 p22 p23 p24 p25 p26 p27 p28 p29 p30 p31 p32 p33 p34 p35 p36 p37 p38 g1 g0.1 (p0 - p1 + 1).toNat 300 p0 p7 p8 p9 p10 p11 p39 p40 p41 p42 p43 p44 p45 p46 p47 p48 (by omega) (by omega) (by omega) (by omega)
  rcases z with ⟨t0, t1, t2, t3, t4, t5, t6, t7, t8, t9, t10, t11, t12, t13, t14⟩ | ⟨t0, t1, t2, t3, t4, t5, t6, t7, t8, t9, t10, t11, t12, t13, t14, t15⟩
  · exact ⟨_, bnd_eq hz rfl, ez⟩
  · exact ⟨_, bnd_eq hz rfl, ez⟩

theorem offer_subs_1_1_w (p0 p1 p2 p3 p4 p5 p6 p7 p8 p9 p10 p11 p12 p13 p14 p15 p16 p17 p18 p19 p20 p21 p22 p23 p24 p25 p26 p27 p28 p29 p30 p31 p32 p33 p34 p35 p36 p37 p38 p39 p40 p41 p42 p43 p44 p45 p46 : Int) (g0 : -1000 ≤ p18 ∧ p19 ≤ 1000 ∧ p19 - p18 ≤ 290) : ∃ r, offer_subs_1_1 300 p0 p1 p2 p3 p4 p5 p6 p7 p8 p9 p10 p11 p12 p13 p14 p15 p16 p17 p18 p19 p20 p21 p22 p23 p24 p25 p26 p27 p28 p29 p30 p31 p32 p33 p34 p35 p36 p37 p38 p39 p40 p41 p42 p43 p44 p45 p46 = some r ∧ (fun (r : Bool × Int × Int × Int × Int × Int × Int × Int × Int × Int × Int × Int × Int × Int × Int × Int) => (r.1, (r.2.2.2.2.2.2.1, r.2.2.2.2.2.2.2.1, r.2.2.2.2.2.2.2.2.1, r.2.2.2.2.2.2.2.2.2.1, r.2.2.2.2.2.2.2.2.2.2.1, r.2.2.2.2.2.2.2.2.2.2.2.1, r.2.2.2.2.2.2.2.2.2.2.2.2.1, r.2.2.2.2.2.2.2.2.2.2.2.2.2.1, r.2.2.2.2.2.2.2.2.2.2.2.2.2.2.1, r.2.2.2.2.2.2.2.2.2.2.2.2.2.2.2))) r = sfst (okf p20 p21 p22 p23 p24 p25 p26 p27 p28 p29 p30 p31 p32 p33 p34 p35 p36) (p37, p38, p39, p40, p41, p42, p43, p44, p45, p46) (dn 1 0 (fun y111 => dn 1 0 (fun y109 => dn p19 p18 (fun y107 => [(p2, p3, p4, (kwrap .i64 (4 + (kwrap .i64 (4 * p1)))), (kwrap .i64 (4 * p0)), y109, y111, y107, p10, p11)])))) := by
  obtain ⟨⟨r0, r1, r2, r3, r4, r5, r6, r7, r8, r9, r10, r11, r12, r13, r14, r15⟩, h, e⟩ := offer_down_5_w 1 0 p1 p0 p2 p3 p4 p5 p6 p7 p8 p9 p10 p11 p12 p13 p14 p15 p16 p17 p18 p19 p20 p21 p22 p23 p24 p25 p26 p27 p28 p29 p30 p31 p32 p33 p34 p35 p36 p37 p38 p39 p40 p41 p42 p43 p44 p45 p46 (by decide) g0
  exact ⟨_, bnd_eq h rfl, e⟩

theorem offer_down_6_l (c0 c1 c2 c3 c4 c5 c6 c7 c8 c9 c10 c11 c12 c13 c14 c15 c16 c17 c18 c19 c20 c21 c22 c23 c24 c25 c26 c27 c28 c29 c30 c31 : Int) (g0 : -1000 ≤ c13 ∧ c14 ≤ 1000 ∧ c14 - c13 ≤ 290) (hlo : -1000 ≤ c0) (k : Nat) : ∀ (m : Nat) (x255 x256 x257 x258 x259 x260 x261 x262 x263 x264 x265 x266 x267 x268 x269 x270 : Int), k < m → (x255 < c0 → k = 0) → (c0 ≤ x255 → (k : Int) = x255 - c0 + 1) → x255 ≤ 1000 → ∃ z, offer_down_6.l0 300 c0 c1 c2 c3 c4 c5 c6 c7 c8 c9 c10 c11 c12 c13 c14 c15 c16 c17 c18 c19 c20 c21 c22 c23 c24 c25 c26 c27 c28 c29 c30 c31 m x255 x256 x257 x258 x259 x260 x261 x262 x263 x264 x265 x266 x267 x268 x269 x270 = some z ∧ (fun (z : (Int × Int × Int × Int × Int × Int × Int × Int × Int × Int × Int × Int × Int × Int × Int) ⊕ (Bool × Int × Int × Int × Int × Int × Int × Int × Int × Int × Int × Int × Int × Int × Int × Int)) => match z with | .inl t => (false, (t.2.2.2.2.2.1, t.2.2.2.2.2.2.1, t.2.2.2.2.2.2.2.1, t.2.2.2.2.2.2.2.2.1, t.2.2.2.2.2.2.2.2.2.1, t.2.2.2.2.2.2.2.2.2.2.1, t.2.2.2.2.2.2.2.2.2.2.2.1, t.2.2.2.2.2.2.2.2.2.2.2.2.1, t.2.2.2.2.2.2.2.2.2.2.2.2.2.1, t.2.2.2.2.2.2.2.2.2.2.2.2.2.2)) | .inr t => (t.1, (t.2.2.2.2.2.2.1, t.2.2.2.2.2.2.2.1, t.2.2.2.2.2.2.2.2.1, t.2.2.2.2.2.2.2.2.2.1, t.2.2.2.2.2.2.2.2.2.2.1, t.2.2.2.2.2.2.2.2.2.2.2.1, t.2.2.2.2.2.2.2.2.2.2.2.2.1, t.2.2.2.2.2.2.2.2.2.2.2.2.2.1, t.2.2.2.2.2.2.2.2.2.2.2.2.2.2.1, t.2.2.2.2.2.2.2.2.2.2.2.2.2.2.2))) z = sfst (okf c15 c16 c17 c18 c19 c20 c21 c22 c23 c24 c25 c26 c27 c28 c29 c30 c31) (x261, x262, x263, x264, x265, x266, x267, x268, x269, x270) (dnN k x255 (fun x255 => dn 1 0 (fun y111 => dn 1 0 (fun y109 => dn c14 c13 (fun y107 => [(c2, c3, c4, (kwrap .i64 (4 + (kwrap .i64 (4 * c1)))), (kwrap .i64 (4 * x255)), y109, y111, y107, c5, c6)]))))) := by
  induction k with
  | zero =>
    intro m x255 x256 x257 x258 x259 x260 x261 x262 x263 x264 x265 x266 x267 x268 x269 x270 h h1 h2 h3
    obtain ⟨m, rfl⟩ : ∃ q, m = q + 1 := ⟨m - 1, by omega⟩
    have hx : ¬ x255 ≥ c0 := fun hc => by have := h2 hc; omega
    refine ⟨.inl (x256, x257, x258, x259, x260, x261, x262, x263, x264, x265, x266, x267, x268, x269, x270), ?_, rfl⟩
    show offer_down_6.r0 300 c0 c1 c2 c3 c4 c5 c6 c7 c8 c9 c10 c11 c12 c13 c14 c15 c16 c17 c18 c19 c20 c21 c22 c23 c24 c25 c26 c27 c28 c29 c30 c31 (offer_down_6.l0 300 c0 c1 c2 c3 c4 c5 c6 c7 c8 c9 c10 c11 c12 c13 c14 c15 c16 c17 c18 c19 c20 c21 c22 c23 c24 c25 c26 c27 c28 c29 c30 c31 m) x255 x256 x257 x258 x259 x260 x261 x262 x263 x264 x265 x266 x267 x268 x269 x270 = _
    exact bif_eq_f (decide_eq_false hx) rfl
  | succ k ih =>
    intro m x255 x256 x257 x258 x259 x260 x261 x262 x263 x264 x265 x266 x267 x268 x269 x270 h h1 h2 h3
    obtain ⟨m, rfl⟩ : ∃ q, m = q + 1 := ⟨m - 1, by omega⟩
    have hx : x255 ≥ c0 := by
      rcases Int.lt_or_le x255 c0 with hc | hc
      · have := h1 hc; omega
      · exact hc
    have hk := h2 hx
    obtain ⟨⟨r0, r1, r2, r3, r4, r5, r6, r7, r8, r9, r10, r11, r12, r13, r14, r15⟩, hr, e⟩ := offer_subs_1_1_w x255 c1 c2 c3 c4 x256 x257 x258 x259 x260 c5 c6 c7 c8 c9 c10 c11 c12 c13 c14 c15 c16 c17 c18 c19 c20 c21 c22 c23 c24 c25 c26 c27 c28 c29 c30 c31 x261 x262 x263 x264 x265 x266 x267 x268 x269 x270 g0 
    have e1 : r0 = (sfst (okf c15 c16 c17 c18 c19 c20 c21 c22 c23 c24 c25 c26 c27 c28 c29 c30 c31) (x261, x262, x263, x264, x265, x266, x267, x268, x269, x270) (dn 1 0 (fun y111 => dn 1 0 (fun y109 => dn c14 c13 (fun y107 => [(c2, c3, c4, (kwrap .i64 (4 + (kwrap .i64 (4 * c1)))), (kwrap .i64 (4 * x255)), y109, y111, y107, c5, c6)]))))).1 := congrArg Prod.fst e
    have e2 : (r6, r7, r8, r9, r10, r11, r12, r13, r14, r15) = (sfst (okf c15 c16 c17 c18 c19 c20 c21 c22 c23 c24 c25 c26 c27 c28 c29 c30 c31) (x261, x262, x263, x264, x265, x266, x267, x268, x269, x270) (dn 1 0 (fun y111 => dn 1 0 (fun y109 => dn c14 c13 (fun y107 => [(c2, c3, c4, (kwrap .i64 (4 + (kwrap .i64 (4 * c1)))), (kwrap .i64 (4 * x255)), y109, y111, y107, c5, c6)]))))).2 := congrArg Prod.snd e
    cases r0 with
    | true =>
      refine ⟨.inr (true, r1, r2, r3, r4, r5, r6, r7, r8, r9, r10, r11, r12, r13, r14, r15), ?_, ?_⟩
      · show offer_down_6.r0 300 c0 c1 c2 c3 c4 c5 c6 c7 c8 c9 c10 c11 c12 c13 c14 c15 c16 c17 c18 c19 c20 c21 c22 c23 c24 c25 c26 c27 c28 c29 c30 c31 (offer_down_6.l0 300 c0 c1 c2 c3 c4 c5 c6 c7 c8 c9 c10 c11 c12 c13 c14 c15 c16 c17 c18 c19 c20 c21 c22 c23 c24 c25 c26 c27 c28 c29 c30 c31 m) x255 x256 x257 x258 x259 x260 x261 x262 x263 x264 x265 x266 x267 x268 x269 x270 = _
        exact bif_eq_t (decide_eq_true hx) (bnd_eq hr rfl)
      · show (true, (r6, r7, r8, r9, r10, r11, r12, r13, r14, r15)) = sfst _ _ ((dn 1 0 (fun y111 => dn 1 0 (fun y109 => dn c14 c13 (fun y107 => [(c2, c3, c4, (kwrap .i64 (4 + (kwrap .i64 (4 * c1)))), (kwrap .i64 (4 * x255)), y109, y111, y107, c5, c6)])))) ++ dnN k (x255 - 1) (fun x255 => dn 1 0 (fun y111 => dn 1 0 (fun y109 => dn c14 c13 (fun y107 => [(c2, c3, c4, (kwrap .i64 (4 + (kwrap .i64 (4 * c1)))), (kwrap .i64 (4 * x255)), y109, y111, y107, c5, c6)])))))
        rw [sfst_t e1.symm]; exact Prod.ext e1 e2
    | false =>
      obtain ⟨s1, s2⟩ := sfst_f (B := dnN k (x255 - 1) (fun x255 => dn 1 0 (fun y111 => dn 1 0 (fun y109 => dn c14 c13 (fun y107 => [(c2, c3, c4, (kwrap .i64 (4 + (kwrap .i64 (4 * c1)))), (kwrap .i64 (4 * x255)), y109, y111, y107, c5, c6)]))))) e1.symm
      obtain ⟨z, hz, ez⟩ := ih m (x255 - 1) r1 r2 r3 r4 r5 r6 r7 r8 r9 r10 r11 r12 r13 r14 r15 (by omega) (fun hc => by omega) (fun hc => by omega) (by omega)
      refine ⟨z, ?_, ?_⟩
      · show offer_down_6.r0 300 c0 c1 c2 c3 c4 c5 c6 c7 c8 c9 c10 c11 c12 c13 c14 c15 c16 c17 c18 c19 c20 c21 c22 c23 c24 c25 c26 c27 c28 c29 c30 c31 (offer_down_6.l0 300 c0 c1 c2 c3 c4 c5 c6 c7 c8 c9 c10 c11 c12 c13 c14 c15 c16 c17 c18 c19 c20 c21 c22 c23 c24 c25 c26 c27 c28 c29 c30 c31 m) x255 x256 x257 x258 x259 x260 x261 x262 x263 x264 x265 x266 x267 x268 x269 x270 = _
        refine bif_eq_t (decide_eq_true hx) (bnd_eq hr (bif_eq_f rfl ?_))
        show offer_down_6.l0 300 c0 c1 c2 c3 c4 c5 c6 c7 c8 c9 c10 c11 c12 c13 c14 c15 c16 c17 c18 c19 c20 c21 c22 c23 c24 c25 c26 c27 c28 c29 c30 c31 m (kwrap .i64 (x255 - 1)) r1 r2 r3 r4 r5 r6 r7 r8 r9 r10 r11 r12 r13 r14 r15 = _
        rw [kw_i64 (by omega) (by omega)]; exact hz
      · rw [ez]
        show _ = sfst _ _ ((dn 1 0 (fun y111 => dn 1 0 (fun y109 => dn c14 c13 (fun y107 => [(c2, c3, c4, (kwrap .i64 (4 + (kwrap .i64 (4 * c1)))), (kwrap .i64 (4 * x255)), y109, y111, y107, c5, c6)])))) ++ dnN k (x255 - 1) (fun x255 => dn 1 0 (fun y111 => dn 1 0 (fun y109 => dn c14 c13 (fun y107 => [(c2, c3, c4, (kwrap .i64 (4 + (kwrap .i64 (4 * c1)))), (kwrap .i64 (4 * x255)), y109, y111, y107, c5, c6)])))))
        rw [s1, e2, s2]

theorem offer_down_6_w (p0 p1 p2 p3 p4 p5 p6 p7 p8 p9 p10 p11 p12 p13 p14 p15 p16 p17 p18 p19 p20 p21 p22 p23 p24 p25 p26 p27 p28 p29 p30 p31 p32 p33 p34 p35 p36 p37 p38 p39 p40 p41 p42 p43 p44 p45 p46 p47 : Int) (g0 : -1000 ≤ p1 ∧ p0 ≤ 1000 ∧ p0 - p1 ≤ 290) (g1 : -1000 ≤ p19 ∧ p20 ≤ 1000 ∧ p20 - p19 ≤ 290) : ∃ r, offer_down_6 300 p0 p1 p2 p3 p4 p5 p6 p7 p8 p9 p10 p11 p12 p13 p14 p15 p16 p17 p18 p19 p20 p21 p22 p23 p24 p25 p26 p27 p28 p29 p30 p31 p32 p33 p34 p35 p36 p37 p38 p39 p40 p41 p42 p43 p44 p45 p46 p47 = some r ∧ (fun (r : Bool × Int × Int × Int × Int × Int × Int × Int × Int × Int × Int × Int × Int × Int × Int × Int) => (r.1, (r.2.2.2.2.2.2.1, r.2.2.2.2.2.2.2.1, r.2.2.2.2.2.2.2.2.1, r.2.2.2.2.2.2.2.2.2.1, r.2.2.2.2.2.2.2.2.2.2.1, r.2.2.2.2.2.2.2.2.2.2.2.1, r.2.2.2.2.2.2.2.2.2.2.2.2.1, r.2.2.2.2.2.2.2.2.2.2.2.2.2.1, r.2.2.2.2.2.2.2.2.2.2.2.2.2.2.1, r.2.2.2.2.2.2.2.2.2.2.2.2.2.2.2))) r = sfst (okf p21 p22 p23 p24 p25 p26 p27 p28 p29 p30 p31 p32 p33 p34 p35 p36 p37) (p38, p39, p40, p41, p42, p43, p44, p45, p46, p47) (dn p0 p1 (fun y113 => dn 1 0 (fun y111 => dn 1 0 (fun y109 => dn p20 p19 (fun y107 => [(p3, p4, p5, (kwrap .i64 (4 + (kwrap .i64 (4 * p2)))), (kwrap .i64 (4 * y113)), y109, y111, y107, p11, p12)]))))) := by
  obtain ⟨z, hz, ez⟩ := offer_down_6_l p1 p2 p3 p4 p5 p11 p12 p13 p14 p15 p16 p17 p18 p19 p20 p21 p22 p23 p24 p25 p26 p27 p28 p29 p30 p31 p32 p33 p34 p35 p36 p37 g1 g0.1 (p0 - p1 + 1).toNat 300 p0 p6 p7 p8 p9 p10 p38 p39 p40 p41 p42 p43 p44 p45 p46 p47 (by omega) (by omega) (by omega) (by omega)
  rcases z with ⟨t0, t1, t2, t3, t4, t5, t6, t7, t8, t9, t10, t11, t12, t13, t14⟩ | ⟨t0, t1, t2, t3, t4, t5, t6, t7, t8, t9, t10, t11, t12, t13, t14, t15⟩
  · exact ⟨_, bnd_eq hz rfl, ez⟩
  · exact ⟨_, bnd_eq hz rfl, ez⟩

theorem offer_subs_1_w (p0 p1 p2 p3 p4 p5 p6 p7 p8 p9 p10 p11 p12 p13 p14 p15 p16 p17 p18 p19 p20 p21 p22 p23 p24 p25 p26 p27 p28 p29 p30 p31 p32 p33 p34 p35 p36 p37 p38 p39 p40 p41 p42 p43 p44 p45 : Int) (g0 : -1000 ≤ p17 ∧ p18 ≤ 1000 ∧ p18 - p17 ≤ 290) : ∃ r, offer_subs_1 300 p0 p1 p2 p3 p4 p5 p6 p7 p8 p9 p10 p11 p12 p13 p14 p15 p16 p17 p18 p19 p20 p21 p22 p23 p24 p25 p26 p27 p28 p29 p30 p31 p32 p33 p34 p35 p36 p37 p38 p39 p40 p41 p42 p43 p44 p45 = some r ∧ (fun (r : Bool × Int × Int × Int × Int × Int × Int × Int × Int × Int × Int × Int × Int × Int × Int × Int) => (r.1, (r.2.2.2.2.2.2.1, r.2.2.2.2.2.2.2.1, r.2.2.2.2.2.2.2.2.1, r.2.2.2.2.2.2.2.2.2.1, r.2.2.2.2.2.2.2.2.2.2.1, r.2.2.2.2.2.2.2.2.2.2.2.1, r.2.2.2.2.2.2.2.2.2.2.2.2.1, r.2.2.2.2.2.2.2.2.2.2.2.2.2.1, r.2.2.2.2.2.2.2.2.2.2.2.2.2.2.1, r.2.2.2.2.2.2.2.2.2.2.2.2.2.2.2))) r = sfst (okf p19 p20 p21 p22 p23 p24 p25 p26 p27 p28 p29 p30 p31 p32 p33 p34 p35) (p36, p37, p38, p39, p40, p41, p42, p43, p44, p45) (dn 4 1 (fun y113 => dn 1 0 (fun y111 => dn 1 0 (fun y109 => dn p18 p17 (fun y107 => [(p1, p2, p3, (kwrap .i64 (4 + (kwrap .i64 (4 * p0)))), (kwrap .i64 (4 * y113)), y109, y111, y107, p9, p10)]))))) := by
  obtain ⟨⟨r0, r1, r2, r3, r4, r5, r6, r7, r8, r9, r10, r11, r12, r13, r14, r15⟩, h, e⟩ := offer_down_6_w 4 1 p0 p1 p2 p3 p4 p5 p6 p7 p8 p9 p10 p11 p12 p13 p14 p15 p16 p17 p18 p19 p20 p21 p22 p23 p24 p25 p26 p27 p28 p29 p30 p31 p32 p33 p34 p35 p36 p37 p38 p39 p40 p41 p42 p43 p44 p45 (by decide) g0
  exact ⟨_, bnd_eq h rfl, e⟩

theorem offer_down_7_l (c0 c1 c2 c3 c4 c5 c6 c7 c8 c9 c10 c11 c12 c13 c14 c15 c16 c17 c18 c19 c20 c21 c22 c23 c24 c25 c26 c27 c28 c29 c30 : Int) (g0 : -1000 ≤ c12 ∧ c13 ≤ 1000 ∧ c13 - c12 ≤ 290) (hlo : -1000 ≤ c0) (k : Nat) : ∀ (m : Nat) (x255 x256 x257 x258 x259 x260 x261 x262 x263 x264 x265 x266 x267 x268 x269 x270 : Int), k < m → (x255 < c0 → k = 0) → (c0 ≤ x255 → (k : Int) = x255 - c0 + 1) → x255 ≤ 1000 → ∃ z, offer_down_7.l0 300 c0 c1 c2 c3 c4 c5 c6 c7 c8 c9 c10 c11 c12 c13 c14 c15 c16 c17 c18 c19 c20 c21 c22 c23 c24 c25 c26 c27 c28 c29 c30 m x255 x256 x257 x258 x259 x260 x261 x262 x263 x264 x265 x266 x267 x268 x269 x270 = some z ∧ (fun (z : (Int × Int × Int × Int × Int × Int × Int × Int × Int × Int × Int × Int × Int × Int × Int) ⊕ (Bool × Int × Int × Int × Int × Int × Int × Int × Int × Int × Int × Int × Int × Int × Int × Int)) => match z with | .inl t => (false, (t.2.2.2.2.2.1, t.2.2.2.2.2.2.1, t.2.2.2.2.2.2.2.1, t.2.2.2.2.2.2.2.2.1, t.2.2.2.2.2.2.2.2.2.1, t.2.2.2.2.2.2.2.2.2.2.1, t.2.2.2.2.2.2.2.2.2.2.2.1, t.2.2.2.2.2.2.2.2.2.2.2.2.1, t.2.2.2.2.2.2.2.2.2.2.2.2.2.1, t.2.2.2.2.2.2.2.2.2.2.2.2.2.2)) | .inr t => (t.1, (t.2.2.2.2.2.2.1, t.2.2.2.2.2.2.2.1, t.2.2.2.2.2.2.2.2.1, t.2.2.2.2.2.2.2.2.2.1, t.2.2.2.2.2.2.2.2.2.2.1, t.2.2.2.2.2.2.2.2.2.2.2.1, t.2.2.2.2.2.2.2.2.2.2.2.2.1, t.2.2.2.2.2.2.2.2.2.2.2.2.2.1, t.2.2.2.2.2.2.2.2.2.2.2.2.2.2.1, t.2.2.2.2.2.2.2.2.2.2.2.2.2.2.2))) z = sfst (okf c14 c15 c16 c17 c18 c19 c20 c21 c22 c23 c24 c25 c26 c27 c28 c29 c30) (x261, x262, x263, x264, x265, x266, x267, x268, x269, x270) (dnN k x255 (fun x255 => dn 4 1 (fun y113 => dn 1 0 (fun y111 => dn 1 0 (fun y109 => dn c13 c12 (fun y107 => [(c1, c2, c3, (kwrap .i64 (4 + (kwrap .i64 (4 * x255)))), (kwrap .i64 (4 * y113)), y109, y111, y107, c4, c5)])))))) := by
  induction k with
  | zero =>
    intro m x255 x256 x257 x258 x259 x260 x261 x262 x263 x264 x265 x266 x267 x268 x269 x270 h h1 h2 h3
    obtain ⟨m, rfl⟩ : ∃ q, m = q + 1 := ⟨m - 1, by omega⟩
    have hx : ¬ x255 ≥ c0 := fun hc => by have := h2 hc; omega
    refine ⟨.inl (x256, x257, x258, x259, x260, x261, x262, x263, x264, x265, x266, x267, x268, x269, x270), ?_, rfl⟩
    show offer_down_7.r0 300 c0 c1 c2 c3 c4 c5 c6 c7 c8 c9 c10 c11 c12 c13 c14 c15 c16 c17 c18 c19 c20 c21 c22 c23 c24 c25 c26 c27 c28 c29 c30 (offer_down_7.l0 300 c0 c1 c2 c3 c4 c5 c6 c7 c8 c9 c10 c11 c12 c13 c14 c15 c16 c17 c18 c19 c20 c21 c22 c23 c24 c25 c26 c27 c28 c29 c30 m) x255 x256 x257 x258 x259 x260 x261 x262 x263 x264 x265 x266 x267 x268 x269 x270 = _
    exact bif_eq_f (decide_eq_false hx) rfl
  | succ k ih =>
    intro m x255 x256 x257 x258 x259 x260 x261 x262 x263 x264 x265 x266 x267 x268 x269 x270 h h1 h2 h3
    obtain ⟨m, rfl⟩ : ∃ q, m = q + 1 := ⟨m - 1, by omega⟩
    have hx : x255 ≥ c0 := by
      rcases Int.lt_or_le x255 c0 with hc | hc
      · have := h1 hc; omega
      · exact hc
    have hk := h2 hx
    obtain ⟨⟨r0, r1, r2, r3, r4, r5, r6, r7, r8, r9, r10, r11, r12, r13, r14, r15⟩, hr, e⟩ := offer_subs_1_w x255 c1 c2 c3 x256 x257 x258 x259 x260 c4 c5 c6 c7 c8 c9 c10 c11 c12 c13 c14 c15 c16 c17 c18 c19 c20 c21 c22 c23 c24 c25 c26 c27 c28 c29 c30 x261 x262 x263 x264 x265 x266 x267 x268 x269 x270 g0 
    have e1 : r0 = (sfst (okf c14 c15 c16 c17 c18 c19 c20 c21 c22 c23 c24 c25 c26 c27 c28 c29 c30) (x261, x262, x263, x264, x265, x266, x267, x268, x269, x270) (dn 4 1 (fun y113 => dn 1 0 (fun y111 => dn 1 0 (fun y109 => dn c13 c12 (fun y107 => [(c1, c2, c3, (kwrap .i64 (4 + (kwrap .i64 (4 * x255)))), (kwrap .i64 (4 * y113)), y109, y111, y107, c4, c5)])))))).1 := congrArg Prod.fst e
    have e2 : (r6, r7, r8, r9, r10, r11, r12, r13, r14, r15) = (sfst (okf c14 c15 c16 c17 c18 c19 c20 c21 c22 c23 c24 c25 c26 c27 c28 c29 c30) (x261, x262, x263, x264, x265, x266, x267, x268, x269, x270) (dn 4 1 (fun y113 => dn 1 0 (fun y111 => dn 1 0 (fun y109 => dn c13 c12 (fun y107 => [(c1, c2, c3, (kwrap .i64 (4 + (kwrap .i64 (4 * x255)))), (kwrap .i64 (4 * y113)), y109, y111, y107, c4, c5)])))))).2 := congrArg Prod.snd e
    cases r0 with
    | true =>
      refine ⟨.inr (true, r1, r2, r3, r4, r5, r6, r7, r8, r9, r10, r11, r12, r13, r14, r15), ?_, ?_⟩
      · show offer_down_7.r0 300 c0 c1 c2 c3 c4 c5 c6 c7 c8 c9 c10 c11 c12 c13 c14 c15 c16 c17 c18 c19 c20 c21 c22 c23 c24 c25 c26 c27 c28 c29 c30 (offer_down_7.l0 300 c0 c1 c2 c3 c4 c5 c6 c7 c8 c9 c10 c11 c12 c13 c14 c15 c16 c17 c18 c19 c20 c21 c22 c23 c24 c25 c26 c27 c28 c29 c30 m) x255 x256 x257 x258 x259 x260 x261 x262 x263 x264 x265 x266 x267 x268 x269 x270 = _
        exact bif_eq_t (decide_eq_true hx) (bnd_eq hr rfl)
      · show (true, (r6, r7, r8, r9, r10, r11, r12, r13, r14, r15)) = sfst _ _ ((dn 4 1 (fun y113 => dn 1 0 (fun y111 => dn 1 0 (fun y109 => dn c13 c12 (fun y107 => [(c1, c2, c3, (kwrap .i64 (4 + (kwrap .i64 (4 * x255)))), (kwrap .i64 (4 * y113)), y109, y111, y107, c4, c5)]))))) ++ dnN k (x255 - 1) (fun x255 => dn 4 1 (fun y113 => dn 1 0 (fun y111 => dn 1 0 (fun y109 => dn c13 c12 (fun y107 => [(c1, c2, c3, (kwrap .i64 (4 + (kwrap .i64 (4 * x255)))), (kwrap .i64 (4 * y113)), y109, y111, y107, c4, c5)]))))))
        rw [sfst_t e1.symm]; exact Prod.ext e1 e2
    | false =>
      obtain ⟨s1, s2⟩ := sfst_f (B := dnN k (x255 - 1) (fun x255 => dn 4 1 (fun y113 => dn 1 0 (fun y111 => dn 1 0 (fun y109 => dn c13 c12 (fun y107 => [(c1, c2, c3, (kwrap .i64 (4 + (kwrap .i64 (4 * x255)))), (kwrap .i64 (4 * y113)), y109, y111, y107, c4, c5)])))))) e1.symm
      obtain ⟨z, hz, ez⟩ := ih m (x255 - 1) r1 r2 r3 r4 r5 r6 r7 r8 r9 r10 r11 r12 r13 r14 r15 (by omega) (fun hc => by omega) (fun hc => by omega) (by omega)
      refine ⟨z, ?_, ?_⟩
      · show offer_down_7.r0 300 c0 c1 c2 c3 c4 c5 c6 c7 c8 c9 c10 c11 c12 c13 c14 c15 c16 c17 c18 c19 c20 c21 c22 c23 c24 c25 c26 c27 c28 c29 c30 (offer_down_7.l0 300 c0 c1 c2 c3 c4 c5 c6 c7 c8 c9 c10 c11 c12 c13 c14 c15 c16 c17 c18 c19 c20 c21 c22 c23 c24 c25 c26 c27 c28 c29 c30 m) x255 x256 x257 x258 x259 x260 x261 x262 x263 x264 x265 x266 x267 x268 x269 x270 = _
        refine bif_eq_t (decide_eq_true hx) (bnd_eq hr (bif_eq_f rfl ?_))
        show offer_down_7.l0 300 c0 c1 c2 c3 c4 c5 c6 c7 c8 c9 c10 c11 c12 c13 c14 c15 c16 c17 c18 c19 c20 c21 c22 c23 c24 c25 c26 c27 c28 c29 c30 m (kwrap .i64 (x255 - 1)) r1 r2 r3 r4 r5 r6 r7 r8 r9 r10 r11 r12 r13 r14 r15 = _
        rw [kw_i64 (by omega) (by omega)]; exact hz
      · rw [ez]
        show _ = sfst _ _ ((dn 4 1 (fun y113 => dn 1 0 (fun y111 => dn 1 0 (fun y109 => dn c13 c12 (fun y107 => [(c1, c2, c3, (kwrap .i64 (4 + (kwrap .i64 (4 * x255)))), (kwrap .i64 (4 * y113)), y109, y111, y107, c4, c5)]))))) ++ dnN k (x255 - 1) (fun x255 => dn 4 1 (fun y113 => dn 1 0 (fun y111 => dn 1 0 (fun y109 => dn c13 c12 (fun y107 => [(c1, c2, c3, (kwrap .i64 (4 + (kwrap .i64 (4 * x255)))), (kwrap .i64 (4 * y113)), y109, y111, y107, c4, c5)]))))))
        rw [s1, e2, s2]

theorem offer_down_7_w (p0 p1 p2 p3 p4 p5 p6 p7 p8 p9 p10 p11 p12 p13 p14 p15 p16 p17 p18 p19 p20 p21 p22 p23 p24 p25 p26 p27 p28 p29 p30 p31 p32 p33 p34 p35 p36 p37 p38 p39 p40 p41 p42 p43 p44 p45 p46 : Int) (g0 : -1000 ≤ p1 ∧ p0 ≤ 1000 ∧ p0 - p1 ≤ 290) (g1 : -1000 ≤ p18 ∧ p19 ≤ 1000 ∧ p19 - p18 ≤ 290) : ∃ r, offer_down_7 300 p0 p1 p2 p3 p4 p5 p6 p7 p8 p9 p10 p11 p12 p13 p14 p15 p16 p17 p18 p19 p20 p21 p22 p23 p24 p25 p26 p27 p28 p29 p30 p31 p32 p33 p34 p35 p36 p37 p38 p39 p40 p41 p42 p43 p44 p45 p46 = some r ∧ (fun (r : Bool × Int × Int × Int × Int × Int × Int × Int × Int × Int × Int × Int × Int × Int × Int × Int) => (r.1, (r.2.2.2.2.2.2.1, r.2.2.2.2.2.2.2.1, r.2.2.2.2.2.2.2.2.1, r.2.2.2.2.2.2.2.2.2.1, r.2.2.2.2.2.2.2.2.2.2.1, r.2.2.2.2.2.2.2.2.2.2.2.1, r.2.2.2.2.2.2.2.2.2.2.2.2.1, r.2.2.2.2.2.2.2.2.2.2.2.2.2.1, r.2.2.2.2.2.2.2.2.2.2.2.2.2.2.1, r.2.2.2.2.2.2.2.2.2.2.2.2.2.2.2))) r = sfst (okf p20 p21 p22 p23 p24 p25 p26 p27 p28 p29 p30 p31 p32 p33 p34 p35 p36) (p37, p38, p39, p40, p41, p42, p43, p44, p45, p46) (dn p0 p1 (fun y115 => dn 4 1 (fun y113 => dn 1 0 (fun y111 => dn 1 0 (fun y109 => dn p19 p18 (fun y107 => [(p2, p3, p4, (kwrap .i64 (4 + (kwrap .i64 (4 * y115)))), (kwrap .i64 (4 * y113)), y109, y111, y107, p10, p11)])))))) := by
  obtain ⟨z, hz, ez⟩ := offer_down_7_l p1 p2 p3 p4 p10 p11 p12 p13 p14 p15 p16 p17 p18 p19 p20 p21 p22 p23 p24 p25 p26 p27 p28 p29 p30 p31 p32 p33 p34 p35 p36 g1 g0.1 (p0 - p1 + 1).toNat 300 p0 p5 p6 p7 p8 p9 p37 p38 p39 p40 p41 p42 p43 p44 p45 p46 (by omega) (by omega) (by omega) (by omega)
  rcases z with ⟨t0, t1, t2, t3, t4, t5, t6, t7, t8, t9, t10, t11, t12, t13, t14⟩ | ⟨t0, t1, t2, t3, t4, t5, t6, t7, t8, t9, t10, t11, t12, t13, t14, t15⟩
  · exact ⟨_, bnd_eq hz rfl, ez⟩
  · exact ⟨_, bnd_eq hz rfl, ez⟩

theorem offer_subs_w (p0 p1 p2 p3 p4 p5 p6 p7 p8 p9 p10 p11 p12 p13 p14 p15 p16 p17 p18 p19 p20 p21 p22 p23 p24 p25 p26 p27 p28 p29 p30 p31 p32 p33 p34 p35 p36 p37 p38 p39 p40 p41 p42 p43 p44 : Int) (g0 : -1000 ≤ p16 ∧ p17 ≤ 1000 ∧ p17 - p16 ≤ 290) : ∃ r, offer_subs 300 p0 p1 p2 p3 p4 p5 p6 p7 p8 p9 p10 p11 p12 p13 p14 p15 p16 p17 p18 p19 p20 p21 p22 p23 p24 p25 p26 p27 p28 p29 p30 p31 p32 p33 p34 p35 p36 p37 p38 p39 p40 p41 p42 p43 p44 = some r ∧ (fun (r : Bool × Int × Int × Int × Int × Int × Int × Int × Int × Int × Int) => (r.1, (r.2.1, r.2.2.1, r.2.2.2.1, r.2.2.2.2.1, r.2.2.2.2.2.1, r.2.2.2.2.2.2.1, r.2.2.2.2.2.2.2.1, r.2.2.2.2.2.2.2.2.1, r.2.2.2.2.2.2.2.2.2.1, r.2.2.2.2.2.2.2.2.2.2))) r = sfst (okf p18 p19 p20 p21 p22 p23 p24 p25 p26 p27 p28 p29 p30 p31 p32 p33 p34) (p35, p36, p37, p38, p39, p40, p41, p42, p43, p44) (dn 1 0 (fun y115 => dn 4 1 (fun y113 => dn 1 0 (fun y111 => dn 1 0 (fun y109 => dn p17 p16 (fun y107 => [(p0, p1, p2, (kwrap .i64 (4 + (kwrap .i64 (4 * y115)))), (kwrap .i64 (4 * y113)), y109, y111, y107, p8, p9)])))))) := by
  obtain ⟨⟨r0, r1, r2, r3, r4, r5, r6, r7, r8, r9, r10, r11, r12, r13, r14, r15⟩, h, e⟩ := offer_down_7_w 1 0 p0 p1 p2 p3 p4 p5 p6 p7 p8 p9 p10 p11 p12 p13 p14 p15 p16 p17 p18 p19 p20 p21 p22 p23 p24 p25 p26 p27 p28 p29 p30 p31 p32 p33 p34 p35 p36 p37 p38 p39 p40 p41 p42 p43 p44 (by decide) g0
  exact ⟨_, bnd_eq h rfl, e⟩

theorem offer_Choose_2_1_1_w (p0 p1 p2 p3 p4 p5 p6 p7 p8 p9 p10 p11 p12 p13 p14 p15 p16 p17 p18 p19 p20 p21 p22 p23 p24 p25 p26 p27 p28 p29 : Int) (g0 : -1000 ≤ p14 ∧ p15 ≤ 1000 ∧ p15 - p14 ≤ 290) (g1 : -1000 ≤ p9 ∧ p10 ≤ 1000 ∧ p10 - p9 ≤ 290) : ∃ r, offer_Choose_2_1_1 300 p0 p1 p2 p3 p4 p5 p6 p7 p8 p9 p10 p11 p12 p13 p14 p15 p16 p17 p18 p19 p20 p21 p22 p23 p24 p25 p26 p27 p28 p29 = some r ∧ (fun (r : Bool × Int × Int × Int × Int × Int × Int × Int × Int × Int × Int) => (r.1, (r.2.1, r.2.2.1, r.2.2.2.1, r.2.2.2.2.1, r.2.2.2.2.2.1, r.2.2.2.2.2.2.1, r.2.2.2.2.2.2.2.1, r.2.2.2.2.2.2.2.2.1, r.2.2.2.2.2.2.2.2.2.1, r.2.2.2.2.2.2.2.2.2.2))) r = sfst (okf p3 p4 p5 p6 p7 p8 p9 p10 p11 p12 p13 p14 p15 p16 p17 p18 p19) (p20, p21, p22, p23, p24, p25, p26, p27, p28, p29) (bif p1 == 2 then (bif (!((p11 == 0) && ((p12 == 0) && ((p13 == 0) && ((p14 == 0) && (p15 == 0)))))) then dn 3 0 (fun y104 => dn p15 p14 (fun y102 => [(p1, p0, p2, 0, 0, 0, 0, 0, (Kd.nth (.int .i64) [40, 60, 80, 120] (Int.toNat y104)), y102)])) else []) else (bif (!((p3 == 0) && ((p4 == 0) && ((p5 == 0) && ((p6 == 0) && ((p7 == 0) && ((p8 == 0) && ((p9 == 0) && (p10 == 0))))))))) then dn 1 0 (fun y115 => dn 4 1 (fun y113 => dn 1 0 (fun y111 => dn 1 0 (fun y109 => dn p10 p9 (fun y107 => [(p1, p0, p2, (kwrap .i64 (4 + (kwrap .i64 (4 * y115)))), (kwrap .i64 (4 * y113)), y109, y111, y107, 0, 0)]))))) else [])) := by
  rcases Bool.eq_false_or_eq_true (p1 == 2) with c | c
  · rw [show (bif p1 == 2 then (bif (!((p11 == 0) && ((p12 == 0) && ((p13 == 0) && ((p14 == 0) && (p15 == 0)))))) then dn 3 0 (fun y104 => dn p15 p14 (fun y102 => [(p1, p0, p2, 0, 0, 0, 0, 0, (Kd.nth (.int .i64) [40, 60, 80, 120] (Int.toNat y104)), y102)])) else []) else (bif (!((p3 == 0) && ((p4 == 0) && ((p5 == 0) && ((p6 == 0) && ((p7 == 0) && ((p8 == 0) && ((p9 == 0) && (p10 == 0))))))))) then dn 1 0 (fun y115 => dn 4 1 (fun y113 => dn 1 0 (fun y111 => dn 1 0 (fun y109 => dn p10 p9 (fun y107 => [(p1, p0, p2, (kwrap .i64 (4 + (kwrap .i64 (4 * y115)))), (kwrap .i64 (4 * y113)), y109, y111, y107, 0, 0)]))))) else [])) = (bif (!((p11 == 0) && ((p12 == 0) && ((p13 == 0) && ((p14 == 0) && (p15 == 0)))))) then dn 3 0 (fun y104 => dn p15 p14 (fun y102 => [(p1, p0, p2, 0, 0, 0, 0, 0, (Kd.nth (.int .i64) [40, 60, 80, 120] (Int.toNat y104)), y102)])) else []) by rw [c]; rfl]
    rcases Bool.eq_false_or_eq_true ((!((p11 == 0) && ((p12 == 0) && ((p13 == 0) && ((p14 == 0) && (p15 == 0))))))) with d | d
    · obtain ⟨⟨r0, r1, r2, r3, r4, r5, r6, r7, r8, r9, r10⟩, h, e⟩ := offer_laps_w p1 p0 p2 0 0 0 0 0 0 0 p11 p12 p13 p14 p15 p3 p4 p5 p6 p7 p8 p9 p10 p11 p12 p13 p14 p15 p16 p17 p18 p19 p20 p21 p22 p23 p24 p25 p26 p27 p28 p29 g0
      refine ⟨_, bif_eq_t c (bnd_eq (bif_eq_t d (bnd_eq h rfl)) rfl), ?_⟩
      rw [d]; exact e
    · refine ⟨_, bif_eq_t c (bnd_eq (bif_eq_f d rfl) rfl), ?_⟩
      rw [d]; rfl
  · rw [show (bif p1 == 2 then (bif (!((p11 == 0) && ((p12 == 0) && ((p13 == 0) && ((p14 == 0) && (p15 == 0)))))) then dn 3 0 (fun y104 => dn p15 p14 (fun y102 => [(p1, p0, p2, 0, 0, 0, 0, 0, (Kd.nth (.int .i64) [40, 60, 80, 120] (Int.toNat y104)), y102)])) else []) else (bif (!((p3 == 0) && ((p4 == 0) && ((p5 == 0) && ((p6 == 0) && ((p7 == 0) && ((p8 == 0) && ((p9 == 0) && (p10 == 0))))))))) then dn 1 0 (fun y115 => dn 4 1 (fun y113 => dn 1 0 (fun y111 => dn 1 0 (fun y109 => dn p10 p9 (fun y107 => [(p1, p0, p2, (kwrap .i64 (4 + (kwrap .i64 (4 * y115)))), (kwrap .i64 (4 * y113)), y109, y111, y107, 0, 0)]))))) else [])) = (bif (!((p3 == 0) && ((p4 == 0) && ((p5 == 0) && ((p6 == 0) && ((p7 == 0) && ((p8 == 0) && ((p9 == 0) && (p10 == 0))))))))) then dn 1 0 (fun y115 => dn 4 1 (fun y113 => dn 1 0 (fun y111 => dn 1 0 (fun y109 => dn p10 p9 (fun y107 => [(p1, p0, p2, (kwrap .i64 (4 + (kwrap .i64 (4 * y115)))), (kwrap .i64 (4 * y113)), y109, y111, y107, 0, 0)]))))) else []) by rw [c]; rfl]
    rcases Bool.eq_false_or_eq_true ((!((p3 == 0) && ((p4 == 0) && ((p5 == 0) && ((p6 == 0) && ((p7 == 0) && ((p8 == 0) && ((p9 == 0) && (p10 == 0)))))))))) with d | d
    · obtain ⟨⟨r0, r1, r2, r3, r4, r5, r6, r7, r8, r9, r10⟩, h, e⟩ := offer_subs_w p1 p0 p2 0 0 0 0 0 0 0 p3 p4 p5 p6 p7 p8 p9 p10 p3 p4 p5 p6 p7 p8 p9 p10 p11 p12 p13 p14 p15 p16 p17 p18 p19 p20 p21 p22 p23 p24 p25 p26 p27 p28 p29 g1
      refine ⟨_, bif_eq_f c (bnd_eq (bif_eq_t d (bnd_eq h rfl)) rfl), ?_⟩
      rw [d]; exact e
    · refine ⟨_, bif_eq_f c (bnd_eq (bif_eq_f d rfl) rfl), ?_⟩
      rw [d]; rfl

theorem offer_down_8_l (c0 c1 c2 c3 c4 c5 c6 c7 c8 c9 c10 c11 c12 c13 c14 c15 c16 c17 c18 c19 : Int) (g0 : -1000 ≤ c14 ∧ c15 ≤ 1000 ∧ c15 - c14 ≤ 290) (g1 : -1000 ≤ c9 ∧ c10 ≤ 1000 ∧ c10 - c9 ≤ 290) (hlo : -1000 ≤ c0) (k : Nat) : ∀ (m : Nat) (x175 x176 x177 x178 x179 x180 x181 x182 x183 x184 x185 : Int), k < m → (x175 < c0 → k = 0) → (c0 ≤ x175 → (k : Int) = x175 - c0 + 1) → x175 ≤ 1000 → ∃ z, offer_down_8.l0 300 c0 c1 c2 c3 c4 c5 c6 c7 c8 c9 c10 c11 c12 c13 c14 c15 c16 c17 c18 c19 m x175 x176 x177 x178 x179 x180 x181 x182 x183 x184 x185 = some z ∧ (fun (z : (Int × Int × Int × Int × Int × Int × Int × Int × Int × Int) ⊕ (Bool × Int × Int × Int × Int × Int × Int × Int × Int × Int × Int)) => match z with | .inl t => (false, (t.1, t.2.1, t.2.2.1, t.2.2.2.1, t.2.2.2.2.1, t.2.2.2.2.2.1, t.2.2.2.2.2.2.1, t.2.2.2.2.2.2.2.1, t.2.2.2.2.2.2.2.2.1, t.2.2.2.2.2.2.2.2.2)) | .inr t => (t.1, (t.2.1, t.2.2.1, t.2.2.2.1, t.2.2.2.2.1, t.2.2.2.2.2.1, t.2.2.2.2.2.2.1, t.2.2.2.2.2.2.2.1, t.2.2.2.2.2.2.2.2.1, t.2.2.2.2.2.2.2.2.2.1, t.2.2.2.2.2.2.2.2.2.2))) z = sfst (okf c3 c4 c5 c6 c7 c8 c9 c10 c11 c12 c13 c14 c15 c16 c17 c18 c19) (x176, x177, x178, x179, x180, x181, x182, x183, x184, x185) (dnN k x175 (fun x175 => bif c1 == 2 then (bif (!((c11 == 0) && ((c12 == 0) && ((c13 == 0) && ((c14 == 0) && (c15 == 0)))))) then dn 3 0 (fun y104 => dn c15 c14 (fun y102 => [(c1, x175, c2, 0, 0, 0, 0, 0, (Kd.nth (.int .i64) [40, 60, 80, 120] (Int.toNat y104)), y102)])) else []) else (bif (!((c3 == 0) && ((c4 == 0) && ((c5 == 0) && ((c6 == 0) && ((c7 == 0) && ((c8 == 0) && ((c9 == 0) && (c10 == 0))))))))) then dn 1 0 (fun y115 => dn 4 1 (fun y113 => dn 1 0 (fun y111 => dn 1 0 (fun y109 => dn c10 c9 (fun y107 => [(c1, x175, c2, (kwrap .i64 (4 + (kwrap .i64 (4 * y115)))), (kwrap .i64 (4 * y113)), y109, y111, y107, 0, 0)]))))) else []))) := by
  induction k with
  | zero =>
    intro m x175 x176 x177 x178 x179 x180 x181 x182 x183 x184 x185 h h1 h2 h3
    obtain ⟨m, rfl⟩ : ∃ q, m = q + 1 := ⟨m - 1, by omega⟩
    have hx : ¬ x175 ≥ c0 := fun hc => by have := h2 hc; omega
    refine ⟨.inl (x176, x177, x178, x179, x180, x181, x182, x183, x184, x185), ?_, rfl⟩
    show offer_down_8.r0 300 c0 c1 c2 c3 c4 c5 c6 c7 c8 c9 c10 c11 c12 c13 c14 c15 c16 c17 c18 c19 (offer_down_8.l0 300 c0 c1 c2 c3 c4 c5 c6 c7 c8 c9 c10 c11 c12 c13 c14 c15 c16 c17 c18 c19 m) x175 x176 x177 x178 x179 x180 x181 x182 x183 x184 x185 = _
    exact bif_eq_f (decide_eq_false hx) rfl
  | succ k ih =>
    intro m x175 x176 x177 x178 x179 x180 x181 x182 x183 x184 x185 h h1 h2 h3
    obtain ⟨m, rfl⟩ : ∃ q, m = q + 1 := ⟨m - 1, by omega⟩
    have hx : x175 ≥ c0 := by
      rcases Int.lt_or_le x175 c0 with hc | hc
      · have := h1 hc; omega
      · exact hc
    have hk := h2 hx
    obtain ⟨⟨r0, r1, r2, r3, r4, r5, r6, r7, r8, r9, r10⟩, hr, e⟩ := offer_Choose_2_1_1_w x175 c1 c2 c3 c4 c5 c6 c7 c8 c9 c10 c11 c12 c13 c14 c15 c16 c17 c18 c19 x176 x177 x178 x179 x180 x181 x182 x183 x184 x185 g0 g1 
    have e1 : r0 = (sfst (okf c3 c4 c5 c6 c7 c8 c9 c10 c11 c12 c13 c14 c15 c16 c17 c18 c19) (x176, x177, x178, x179, x180, x181, x182, x183, x184, x185) (bif c1 == 2 then (bif (!((c11 == 0) && ((c12 == 0) && ((c13 == 0) && ((c14 == 0) && (c15 == 0)))))) then dn 3 0 (fun y104 => dn c15 c14 (fun y102 => [(c1, x175, c2, 0, 0, 0, 0, 0, (Kd.nth (.int .i64) [40, 60, 80, 120] (Int.toNat y104)), y102)])) else []) else (bif (!((c3 == 0) && ((c4 == 0) && ((c5 == 0) && ((c6 == 0) && ((c7 == 0) && ((c8 == 0) && ((c9 == 0) && (c10 == 0))))))))) then dn 1 0 (fun y115 => dn 4 1 (fun y113 => dn 1 0 (fun y111 => dn 1 0 (fun y109 => dn c10 c9 (fun y107 => [(c1, x175, c2, (kwrap .i64 (4 + (kwrap .i64 (4 * y115)))), (kwrap .i64 (4 * y113)), y109, y111, y107, 0, 0)]))))) else []))).1 := congrArg Prod.fst e
    have e2 : (r1, r2, r3, r4, r5, r6, r7, r8, r9, r10) = (sfst (okf c3 c4 c5 c6 c7 c8 c9 c10 c11 c12 c13 c14 c15 c16 c17 c18 c19) (x176, x177, x178, x179, x180, x181, x182, x183, x184, x185) (bif c1 == 2 then (bif (!((c11 == 0) && ((c12 == 0) && ((c13 == 0) && ((c14 == 0) && (c15 == 0)))))) then dn 3 0 (fun y104 => dn c15 c14 (fun y102 => [(c1, x175, c2, 0, 0, 0, 0, 0, (Kd.nth (.int .i64) [40, 60, 80, 120] (Int.toNat y104)), y102)])) else []) else (bif (!((c3 == 0) && ((c4 == 0) && ((c5 == 0) && ((c6 == 0) && ((c7 == 0) && ((c8 == 0) && ((c9 == 0) && (c10 == 0))))))))) then dn 1 0 (fun y115 => dn 4 1 (fun y113 => dn 1 0 (fun y111 => dn 1 0 (fun y109 => dn c10 c9 (fun y107 => [(c1, x175, c2, (kwrap .i64 (4 + (kwrap .i64 (4 * y115)))), (kwrap .i64 (4 * y113)), y109, y111, y107, 0, 0)]))))) else []))).2 := congrArg Prod.snd e
    cases r0 with
    | true =>
      refine ⟨.inr (true, r1, r2, r3, r4, r5, r6, r7, r8, r9, r10), ?_, ?_⟩
      · show offer_down_8.r0 300 c0 c1 c2 c3 c4 c5 c6 c7 c8 c9 c10 c11 c12 c13 c14 c15 c16 c17 c18 c19 (offer_down_8.l0 300 c0 c1 c2 c3 c4 c5 c6 c7 c8 c9 c10 c11 c12 c13 c14 c15 c16 c17 c18 c19 m) x175 x176 x177 x178 x179 x180 x181 x182 x183 x184 x185 = _
        exact bif_eq_t (decide_eq_true hx) (bnd_eq hr rfl)
      · show (true, (r1, r2, r3, r4, r5, r6, r7, r8, r9, r10)) = sfst _ _ ((bif c1 == 2 then (bif (!((c11 == 0) && ((c12 == 0) && ((c13 == 0) && ((c14 == 0) && (c15 == 0)))))) then dn 3 0 (fun y104 => dn c15 c14 (fun y102 => [(c1, x175, c2, 0, 0, 0, 0, 0, (Kd.nth (.int .i64) [40, 60, 80, 120] (Int.toNat y104)), y102)])) else []) else (bif (!((c3 == 0) && ((c4 == 0) && ((c5 == 0) && ((c6 == 0) && ((c7 == 0) && ((c8 == 0) && ((c9 == 0) && (c10 == 0))))))))) then dn 1 0 (fun y115 => dn 4 1 (fun y113 => dn 1 0 (fun y111 => dn 1 0 (fun y109 => dn c10 c9 (fun y107 => [(c1, x175, c2, (kwrap .i64 (4 + (kwrap .i64 (4 * y115)))), (kwrap .i64 (4 * y113)), y109, y111, y107, 0, 0)]))))) else [])) ++ dnN k (x175 - 1) (fun x175 => bif c1 == 2 then (bif (!((c11 == 0) && ((c12 == 0) && ((c13 == 0) && ((c14 == 0) && (c15 == 0)))))) then dn 3 0 (fun y104 => dn c15 c14 (fun y102 => [(c1, x175, c2, 0, 0, 0, 0, 0, (Kd.nth (.int .i64) [40, 60, 80, 120] (Int.toNat y104)), y102)])) else []) else (bif (!((c3 == 0) && ((c4 == 0) && ((c5 == 0) && ((c6 == 0) && ((c7 == 0) && ((c8 == 0) && ((c9 == 0) && (c10 == 0))))))))) then dn 1 0 (fun y115 => dn 4 1 (fun y113 => dn 1 0 (fun y111 => dn 1 0 (fun y109 => dn c10 c9 (fun y107 => [(c1, x175, c2, (kwrap .i64 (4 + (kwrap .i64 (4 * y115)))), (kwrap .i64 (4 * y113)), y109, y111, y107, 0, 0)]))))) else [])))
        rw [sfst_t e1.symm]; exact Prod.ext e1 e2
    | false =>
      obtain ⟨s1, s2⟩ := sfst_f (B := dnN k (x175 - 1) (fun x175 => bif c1 == 2 then (bif (!((c11 == 0) && ((c12 == 0) && ((c13 == 0) && ((c14 == 0) && (c15 == 0)))))) then dn 3 0 (fun y104 => dn c15 c14 (fun y102 => [(c1, x175, c2, 0, 0, 0, 0, 0, (Kd.nth (.int .i64) [40, 60, 80, 120] (Int.toNat y104)), y102)])) else []) else (bif (!((c3 == 0) && ((c4 == 0) && ((c5 == 0) && ((c6 == 0) && ((c7 == 0) && ((c8 == 0) && ((c9 == 0) && (c10 == 0))))))))) then dn 1 0 (fun y115 => dn 4 1 (fun y113 => dn 1 0 (fun y111 => dn 1 0 (fun y109 => dn c10 c9 (fun y107 => [(c1, x175, c2, (kwrap .i64 (4 + (kwrap .i64 (4 * y115)))), (kwrap .i64 (4 * y113)), y109, y111, y107, 0, 0)]))))) else []))) e1.symm
      obtain ⟨z, hz, ez⟩ := ih m (x175 - 1) r1 r2 r3 r4 r5 r6 r7 r8 r9 r10 (by omega) (fun hc => by omega) (fun hc => by omega) (by omega)
      refine ⟨z, ?_, ?_⟩
      · show offer_down_8.r0 300 c0 c1 c2 c3 c4 c5 c6 c7 c8 c9 c10 c11 c12 c13 c14 c15 c16 c17 c18 c19 (offer_down_8.l0 300 c0 c1 c2 c3 c4 c5 c6 c7 c8 c9 c10 c11 c12 c13 c14 c15 c16 c17 c18 c19 m) x175 x176 x177 x178 x179 x180 x181 x182 x183 x184 x185 = _
        refine bif_eq_t (decide_eq_true hx) (bnd_eq hr (bif_eq_f rfl ?_))
        show offer_down_8.l0 300 c0 c1 c2 c3 c4 c5 c6 c7 c8 c9 c10 c11 c12 c13 c14 c15 c16 c17 c18 c19 m (kwrap .i64 (x175 - 1)) r1 r2 r3 r4 r5 r6 r7 r8 r9 r10 = _
        rw [kw_i64 (by omega) (by omega)]; exact hz
      · rw [ez]
        show _ = sfst _ _ ((bif c1 == 2 then (bif (!((c11 == 0) && ((c12 == 0) && ((c13 == 0) && ((c14 == 0) && (c15 == 0)))))) then dn 3 0 (fun y104 => dn c15 c14 (fun y102 => [(c1, x175, c2, 0, 0, 0, 0, 0, (Kd.nth (.int .i64) [40, 60, 80, 120] (Int.toNat y104)), y102)])) else []) else (bif (!((c3 == 0) && ((c4 == 0) && ((c5 == 0) && ((c6 == 0) && ((c7 == 0) && ((c8 == 0) && ((c9 == 0) && (c10 == 0))))))))) then dn 1 0 (fun y115 => dn 4 1 (fun y113 => dn 1 0 (fun y111 => dn 1 0 (fun y109 => dn c10 c9 (fun y107 => [(c1, x175, c2, (kwrap .i64 (4 + (kwrap .i64 (4 * y115)))), (kwrap .i64 (4 * y113)), y109, y111, y107, 0, 0)]))))) else [])) ++ dnN k (x175 - 1) (fun x175 => bif c1 == 2 then (bif (!((c11 == 0) && ((c12 == 0) && ((c13 == 0) && ((c14 == 0) && (c15 == 0)))))) then dn 3 0 (fun y104 => dn c15 c14 (fun y102 => [(c1, x175, c2, 0, 0, 0, 0, 0, (Kd.nth (.int .i64) [40, 60, 80, 120] (Int.toNat y104)), y102)])) else []) else (bif (!((c3 == 0) && ((c4 == 0) && ((c5 == 0) && ((c6 == 0) && ((c7 == 0) && ((c8 == 0) && ((c9 == 0) && (c10 == 0))))))))) then dn 1 0 (fun y115 => dn 4 1 (fun y113 => dn 1 0 (fun y111 => dn 1 0 (fun y109 => dn c10 c9 (fun y107 => [(c1, x175, c2, (kwrap .i64 (4 + (kwrap .i64 (4 * y115)))), (kwrap .i64 (4 * y113)), y109, y111, y107, 0, 0)]))))) else [])))
        rw [s1, e2, s2]

theorem offer_down_8_w (p0 p1 p2 p3 p4 p5 p6 p7 p8 p9 p10 p11 p12 p13 p14 p15 p16 p17 p18 p19 p20 p21 p22 p23 p24 p25 p26 p27 p28 p29 p30 : Int) (g0 : -1000 ≤ p1 ∧ p0 ≤ 1000 ∧ p0 - p1 ≤ 290) (g1 : -1000 ≤ p15 ∧ p16 ≤ 1000 ∧ p16 - p15 ≤ 290) (g2 : -1000 ≤ p10 ∧ p11 ≤ 1000 ∧ p11 - p10 ≤ 290) : ∃ r, offer_down_8 300 p0 p1 p2 p3 p4 p5 p6 p7 p8 p9 p10 p11 p12 p13 p14 p15 p16 p17 p18 p19 p20 p21 p22 p23 p24 p25 p26 p27 p28 p29 p30 = some r ∧ (fun (r : Bool × Int × Int × Int × Int × Int × Int × Int × Int × Int × Int) => (r.1, (r.2.1, r.2.2.1, r.2.2.2.1, r.2.2.2.2.1, r.2.2.2.2.2.1, r.2.2.2.2.2.2.1, r.2.2.2.2.2.2.2.1, r.2.2.2.2.2.2.2.2.1, r.2.2.2.2.2.2.2.2.2.1, r.2.2.2.2.2.2.2.2.2.2))) r = sfst (okf p4 p5 p6 p7 p8 p9 p10 p11 p12 p13 p14 p15 p16 p17 p18 p19 p20) (p21, p22, p23, p24, p25, p26, p27, p28, p29, p30) (dn p0 p1 (fun y118 => bif p2 == 2 then (bif (!((p12 == 0) && ((p13 == 0) && ((p14 == 0) && ((p15 == 0) && (p16 == 0)))))) then dn 3 0 (fun y104 => dn p16 p15 (fun y102 => [(p2, y118, p3, 0, 0, 0, 0, 0, (Kd.nth (.int .i64) [40, 60, 80, 120] (Int.toNat y104)), y102)])) else []) else (bif (!((p4 == 0) && ((p5 == 0) && ((p6 == 0) && ((p7 == 0) && ((p8 == 0) && ((p9 == 0) && ((p10 == 0) && (p11 == 0))))))))) then dn 1 0 (fun y115 => dn 4 1 (fun y113 => dn 1 0 (fun y111 => dn 1 0 (fun y109 => dn p11 p10 (fun y107 => [(p2, y118, p3, (kwrap .i64 (4 + (kwrap .i64 (4 * y115)))), (kwrap .i64 (4 * y113)), y109, y111, y107, 0, 0)]))))) else []))) := by
  obtain ⟨z, hz, ez⟩ := offer_down_8_l p1 p2 p3 p4 p5 p6 p7 p8 p9 p10 p11 p12 p13 p14 p15 p16 p17 p18 p19 p20 g1 g2 g0.1 (p0 - p1 + 1).toNat 300 p0 p21 p22 p23 p24 p25 p26 p27 p28 p29 p30 (by omega) (by omega) (by omega) (by omega)
  rcases z with ⟨t0, t1, t2, t3, t4, t5, t6, t7, t8, t9⟩ | ⟨t0, t1, t2, t3, t4, t5, t6, t7, t8, t9, t10⟩
  · exact ⟨_, bnd_eq hz rfl, ez⟩
  · exact ⟨_, bnd_eq hz rfl, ez⟩

theorem offer_Choose_2_1_w (p0 p1 p2 p3 p4 p5 p6 p7 p8 p9 p10 p11 p12 p13 p14 p15 p16 p17 p18 p19 p20 p21 p22 p23 p24 p25 p26 p27 p28 : Int) (g0 : -1000 ≤ p13 ∧ p14 ≤ 1000 ∧ p14 - p13 ≤ 290) (g1 : -1000 ≤ p8 ∧ p9 ≤ 1000 ∧ p9 - p8 ≤ 290) : ∃ r, offer_Choose_2_1 300 p0 p1 p2 p3 p4 p5 p6 p7 p8 p9 p10 p11 p12 p13 p14 p15 p16 p17 p18 p19 p20 p21 p22 p23 p24 p25 p26 p27 p28 = some r ∧ (fun (r : Bool × Int × Int × Int × Int × Int × Int × Int × Int × Int × Int) => (r.1, (r.2.1, r.2.2.1, r.2.2.2.1, r.2.2.2.2.1, r.2.2.2.2.2.1, r.2.2.2.2.2.2.1, r.2.2.2.2.2.2.2.1, r.2.2.2.2.2.2.2.2.1, r.2.2.2.2.2.2.2.2.2.1, r.2.2.2.2.2.2.2.2.2.2))) r = sfst (okf p2 p3 p4 p5 p6 p7 p8 p9 p10 p11 p12 p13 p14 p15 p16 p17 p18) (p19, p20, p21, p22, p23, p24, p25, p26, p27, p28) (dn 3 0 (fun y118 => bif p1 == 2 then (bif (!((p10 == 0) && ((p11 == 0) && ((p12 == 0) && ((p13 == 0) && (p14 == 0)))))) then dn 3 0 (fun y104 => dn p14 p13 (fun y102 => [(p1, y118, p0, 0, 0, 0, 0, 0, (Kd.nth (.int .i64) [40, 60, 80, 120] (Int.toNat y104)), y102)])) else []) else (bif (!((p2 == 0) && ((p3 == 0) && ((p4 == 0) && ((p5 == 0) && ((p6 == 0) && ((p7 == 0) && ((p8 == 0) && (p9 == 0))))))))) then dn 1 0 (fun y115 => dn 4 1 (fun y113 => dn 1 0 (fun y111 => dn 1 0 (fun y109 => dn p9 p8 (fun y107 => [(p1, y118, p0, (kwrap .i64 (4 + (kwrap .i64 (4 * y115)))), (kwrap .i64 (4 * y113)), y109, y111, y107, 0, 0)]))))) else []))) := by
  obtain ⟨⟨r0, r1, r2, r3, r4, r5, r6, r7, r8, r9, r10⟩, h, e⟩ := offer_down_8_w 3 0 p1 p0 p2 p3 p4 p5 p6 p7 p8 p9 p10 p11 p12 p13 p14 p15 p16 p17 p18 p19 p20 p21 p22 p23 p24 p25 p26 p27 p28 (by decide) g0 g1
  exact ⟨_, bnd_eq h rfl, e⟩

theorem offer_down_9_l (c0 c1 c2 c3 c4 c5 c6 c7 c8 c9 c10 c11 c12 c13 c14 c15 c16 c17 c18 : Int) (g0 : -1000 ≤ c13 ∧ c14 ≤ 1000 ∧ c14 - c13 ≤ 290) (g1 : -1000 ≤ c8 ∧ c9 ≤ 1000 ∧ c9 - c8 ≤ 290) (hlo : -1000 ≤ c0) (k : Nat) : ∀ (m : Nat) (x175 x176 x177 x178 x179 x180 x181 x182 x183 x184 x185 : Int), k < m → (x175 < c0 → k = 0) → (c0 ≤ x175 → (k : Int) = x175 - c0 + 1) → x175 ≤ 1000 → ∃ z, offer_down_9.l0 300 c0 c1 c2 c3 c4 c5 c6 c7 c8 c9 c10 c11 c12 c13 c14 c15 c16 c17 c18 m x175 x176 x177 x178 x179 x180 x181 x182 x183 x184 x185 = some z ∧ (fun (z : (Int × Int × Int × Int × Int × Int × Int × Int × Int × Int) ⊕ (Bool × Int × Int × Int × Int × Int × Int × Int × Int × Int × Int)) => match z with | .inl t => (false, (t.1, t.2.1, t.2.2.1, t.2.2.2.1, t.2.2.2.2.1, t.2.2.2.2.2.1, t.2.2.2.2.2.2.1, t.2.2.2.2.2.2.2.1, t.2.2.2.2.2.2.2.2.1, t.2.2.2.2.2.2.2.2.2)) | .inr t => (t.1, (t.2.1, t.2.2.1, t.2.2.2.1, t.2.2.2.2.1, t.2.2.2.2.2.1, t.2.2.2.2.2.2.1, t.2.2.2.2.2.2.2.1, t.2.2.2.2.2.2.2.2.1, t.2.2.2.2.2.2.2.2.2.1, t.2.2.2.2.2.2.2.2.2.2))) z = sfst (okf c2 c3 c4 c5 c6 c7 c8 c9 c10 c11 c12 c13 c14 c15 c16 c17 c18) (x176, x177, x178, x179, x180, x181, x182, x183, x184, x185) (dnN k x175 (fun x175 => dn 3 0 (fun y118 => bif c1 == 2 then (bif (!((c10 == 0) && ((c11 == 0) && ((c12 == 0) && ((c13 == 0) && (c14 == 0)))))) then dn 3 0 (fun y104 => dn c14 c13 (fun y102 => [(c1, y118, x175, 0, 0, 0, 0, 0, (Kd.nth (.int .i64) [40, 60, 80, 120] (Int.toNat y104)), y102)])) else []) else (bif (!((c2 == 0) && ((c3 == 0) && ((c4 == 0) && ((c5 == 0) && ((c6 == 0) && ((c7 == 0) && ((c8 == 0) && (c9 == 0))))))))) then dn 1 0 (fun y115 => dn 4 1 (fun y113 => dn 1 0 (fun y111 => dn 1 0 (fun y109 => dn c9 c8 (fun y107 => [(c1, y118, x175, (kwrap .i64 (4 + (kwrap .i64 (4 * y115)))), (kwrap .i64 (4 * y113)), y109, y111, y107, 0, 0)]))))) else [])))) := by
  induction k with
  | zero =>
    intro m x175 x176 x177 x178 x179 x180 x181 x182 x183 x184 x185 h h1 h2 h3
    obtain ⟨m, rfl⟩ : ∃ q, m = q + 1 := ⟨m - 1, by omega⟩
    have hx : ¬ x175 ≥ c0 := fun hc => by have := h2 hc; omega
    refine ⟨.inl (x176, x177, x178, x179, x180, x181, x182, x183, x184, x185), ?_, rfl⟩
    show offer_down_9.r0 300 c0 c1 c2 c3 c4 c5 c6 c7 c8 c9 c10 c11 c12 c13 c14 c15 c16 c17 c18 (offer_down_9.l0 300 c0 c1 c2 c3 c4 c5 c6 c7 c8 c9 c10 c11 c12 c13 c14 c15 c16 c17 c18 m) x175 x176 x177 x178 x179 x180 x181 x182 x183 x184 x185 = _
    exact bif_eq_f (decide_eq_false hx) rfl
  | succ k ih =>
    intro m x175 x176 x177 x178 x179 x180 x181 x182 x183 x184 x185 h h1 h2 h3
    obtain ⟨m, rfl⟩ : ∃ q, m = q + 1 := ⟨m - 1, by omega⟩
    have hx : x175 ≥ c0 := by
      rcases Int.lt_or_le x175 c0 with hc | hc
      · have := h1 hc; omega
      · exact hc
    have hk := h2 hx
    obtain ⟨⟨r0, r1, r2, r3, r4, r5, r6, r7, r8, r9, r10⟩, hr, e⟩ := offer_Choose_2_1_w x175 c1 c2 c3 c4 c5 c6 c7 c8 c9 c10 c11 c12 c13 c14 c15 c16 c17 c18 x176 x177 x178 x179 x180 x181 x182 x183 x184 x185 g0 g1 
    have e1 : r0 = (sfst (okf c2 c3 c4 c5 c6 c7 c8 c9 c10 c11 c12 c13 c14 c15 c16 c17 c18) (x176, x177, x178, x179, x180, x181, x182, x183, x184, x185) (dn 3 0 (fun y118 => bif c1 == 2 then (bif (!((c10 == 0) && ((c11 == 0) && ((c12 == 0) && ((c13 == 0) && (c14 == 0)))))) then dn 3 0 (fun y104 => dn c14 c13 (fun y102 => [(c1, y118, x175, 0, 0, 0, 0, 0, (Kd.nth (.int .i64) [40, 60, 80, 120] (Int.toNat y104)), y102)])) else []) else (bif (!((c2 == 0) && ((c3 == 0) && ((c4 == 0) && ((c5 == 0) && ((c6 == 0) && ((c7 == 0) && ((c8 == 0) && (c9 == 0))))))))) then dn 1 0 (fun y115 => dn 4 1 (fun y113 => dn 1 0 (fun y111 => dn 1 0 (fun y109 => dn c9 c8 (fun y107 => [(c1, y118, x175, (kwrap .i64 (4 + (kwrap .i64 (4 * y115)))), (kwrap .i64 (4 * y113)), y109, y111, y107, 0, 0)]))))) else [])))).1 := congrArg Prod.fst e
    have e2 : (r1, r2, r3, r4, r5, r6, r7, r8, r9, r10) = (sfst (okf c2 c3 c4 c5 c6 c7 c8 c9 c10 c11 c12 c13 c14 c15 c16 c17 c18) (x176, x177, x178, x179, x180, x181, x182, x183, x184, x185) (dn 3 0 (fun y118 => bif c1 == 2 then (bif (!((c10 == 0) && ((c11 == 0) && ((c12 == 0) && ((c13 == 0) && (c14 == 0)))))) then dn 3 0 (fun y104 => dn c14 c13 (fun y102 => [(c1, y118, x175, 0, 0, 0, 0, 0, (Kd.nth (.int .i64) [40, 60, 80, 120] (Int.toNat y104)), y102)])) else []) else (bif (!((c2 == 0) && ((c3 == 0) && ((c4 == 0) && ((c5 == 0) && ((c6 == 0) && ((c7 == 0) && ((c8 == 0) && (c9 == 0))))))))) then dn 1 0 (fun y115 => dn 4 1 (fun y113 => dn 1 0 (fun y111 => dn 1 0 (fun y109 => dn c9 c8 (fun y107 => [(c1, y118, x175, (kwrap .i64 (4 + (kwrap .i64 (4 * y115)))), (kwrap .i64 (4 * y113)), y109, y111, y107, 0, 0)]))))) else [])))).2 := congrArg Prod.snd e
    cases r0 with
    | true =>
      refine ⟨.inr (true, r1, r2, r3, r4, r5, r6, r7, r8, r9, r10), ?_, ?_⟩
      · show offer_down_9.r0 300 c0 c1 c2 c3 c4 c5 c6 c7 c8 c9 c10 c11 c12 c13 c14 c15 c16 c17 c18 (offer_down_9.l0 300 c0 c1 c2 c3 c4 c5 c6 c7 c8 c9 c10 c11 c12 c13 c14 c15 c16 c17 c18 m) x175 x176 x177 x178 x179 x180 x181 x182 x183 x184 x185 = _
        exact bif_eq_t (decide_eq_true hx) (bnd_eq hr rfl)
      · show (true, (r1, r2, r3, r4, r5, r6, r7, r8, r9, r10)) = sfst _ _ ((dn 3 0 (fun y118 => bif c1 == 2 then (bif (!((c10 == 0) && ((c11 == 0) && ((c12 == 0) && ((c13 == 0) && (c14 == 0)))))) then dn 3 0 (fun y104 => dn c14 c13 (fun y102 => [(c1, y118, x175, 0, 0, 0, 0, 0, (Kd.nth (.int .i64) [40, 60, 80, 120] (Int.toNat y104)), y102)])) else []) else (bif (!((c2 == 0) && ((c3 == 0) && ((c4 == 0) && ((c5 == 0) && ((c6 == 0) && ((c7 == 0) && ((c8 == 0) && (c9 == 0))))))))) then dn 1 0 (fun y115 => dn 4 1 (fun y113 => dn 1 0 (fun y111 => dn 1 0 (fun y109 => dn c9 c8 (fun y107 => [(c1, y118, x175, (kwrap .i64 (4 + (kwrap .i64 (4 * y115)))), (kwrap .i64 (4 * y113)), y109, y111, y107, 0, 0)]))))) else []))) ++ dnN k (x175 - 1) (fun x175 => dn 3 0 (fun y118 => bif c1 == 2 then (bif (!((c10 == 0) && ((c11 == 0) && ((c12 == 0) && ((c13 == 0) && (c14 == 0)))))) then dn 3 0 (fun y104 => dn c14 c13 (fun y102 => [(c1, y118, x175, 0, 0, 0, 0, 0, (Kd.nth (.int .i64) [40, 60, 80, 120] (Int.toNat y104)), y102)])) else []) else (bif (!((c2 == 0) && ((c3 == 0) && ((c4 == 0) && ((c5 == 0) && ((c6 == 0) && ((c7 == 0) && ((c8 == 0) && (c9 == 0))))))))) then dn 1 0 (fun y115 => dn 4 1 (fun y113 => dn 1 0 (fun y111 => dn 1 0 (fun y109 => dn c9 c8 (fun y107 => [(c1, y118, x175, (kwrap .i64 (4 + (kwrap .i64 (4 * y115)))), (kwrap .i64 (4 * y113)), y109, y111, y107, 0, 0)]))))) else []))))
        rw [sfst_t e1.symm]; exact Prod.ext e1 e2
    | false =>
      obtain ⟨s1, s2⟩ := sfst_f (B := dnN k (x175 - 1) (fun x175 => dn 3 0 (fun y118 => bif c1 == 2 then (bif (!((c10 == 0) && ((c11 == 0) && ((c12 == 0) && ((c13 == 0) && (c14 == 0)))))) then dn 3 0 (fun y104 => dn c14 c13 (fun y102 => [(c1, y118, x175, 0, 0, 0, 0, 0, (Kd.nth (.int .i64) [40, 60, 80, 120] (Int.toNat y104)), y102)])) else []) else (bif (!((c2 == 0) && ((c3 == 0) && ((c4 == 0) && ((c5 == 0) && ((c6 == 0) && ((c7 == 0) && ((c8 == 0) && (c9 == 0))))))))) then dn 1 0 (fun y115 => dn 4 1 (fun y113 => dn 1 0 (fun y111 => dn 1 0 (fun y109 => dn c9 c8 (fun y107 => [(c1, y118, x175, (kwrap .i64 (4 + (kwrap .i64 (4 * y115)))), (kwrap .i64 (4 * y113)), y109, y111, y107, 0, 0)]))))) else [])))) e1.symm
      obtain ⟨z, hz, ez⟩ := ih m (x175 - 1) r1 r2 r3 r4 r5 r6 r7 r8 r9 r10 (by omega) (fun hc => by omega) (fun hc => by omega) (by omega)
      refine ⟨z, ?_, ?_⟩
      · show offer_down_9.r0 300 c0 c1 c2 c3 c4 c5 c6 c7 c8 c9 c10 c11 c12 c13 c14 c15 c16 c17 c18 (offer_down_9.l0 300 c0 c1 c2 c3 c4 c5 c6 c7 c8 c9 c10 c11 c12 c13 c14 c15 c16 c17 c18 m) x175 x176 x177 x178 x179 x180 x181 x182 x183 x184 x185 = _
        refine bif_eq_t (decide_eq_true hx) (bnd_eq hr (bif_eq_f rfl ?_))
        show offer_down_9.l0 300 c0 c1 c2 c3 c4 c5 c6 c7 c8 c9 c10 c11 c12 c13 c14 c15 c16 c17 c18 m (kwrap .i64 (x175 - 1)) r1 r2 r3 r4 r5 r6 r7 r8 r9 r10 = _
        rw [kw_i64 (by omega) (by omega)]; exact hz
      · rw [ez]
        show _ = sfst _ _ ((dn 3 0 (fun y118 => bif c1 == 2 then (bif (!((c10 == 0) && ((c11 == 0) && ((c12 == 0) && ((c13 == 0) && (c14 == 0)))))) then dn 3 0 (fun y104 => dn c14 c13 (fun y102 => [(c1, y118, x175, 0, 0, 0, 0, 0, (Kd.nth (.int .i64) [40, 60, 80, 120] (Int.toNat y104)), y102)])) else []) else (bif (!((c2 == 0) && ((c3 == 0) && ((c4 == 0) && ((c5 == 0) && ((c6 == 0) && ((c7 == 0) && ((c8 == 0) && (c9 == 0))))))))) then dn 1 0 (fun y115 => dn 4 1 (fun y113 => dn 1 0 (fun y111 => dn 1 0 (fun y109 => dn c9 c8 (fun y107 => [(c1, y118, x175, (kwrap .i64 (4 + (kwrap .i64 (4 * y115)))), (kwrap .i64 (4 * y113)), y109, y111, y107, 0, 0)]))))) else []))) ++ dnN k (x175 - 1) (fun x175 => dn 3 0 (fun y118 => bif c1 == 2 then (bif (!((c10 == 0) && ((c11 == 0) && ((c12 == 0) && ((c13 == 0) && (c14 == 0)))))) then dn 3 0 (fun y104 => dn c14 c13 (fun y102 => [(c1, y118, x175, 0, 0, 0, 0, 0, (Kd.nth (.int .i64) [40, 60, 80, 120] (Int.toNat y104)), y102)])) else []) else (bif (!((c2 == 0) && ((c3 == 0) && ((c4 == 0) && ((c5 == 0) && ((c6 == 0) && ((c7 == 0) && ((c8 == 0) && (c9 == 0))))))))) then dn 1 0 (fun y115 => dn 4 1 (fun y113 => dn 1 0 (fun y111 => dn 1 0 (fun y109 => dn c9 c8 (fun y107 => [(c1, y118, x175, (kwrap .i64 (4 + (kwrap .i64 (4 * y115)))), (kwrap .i64 (4 * y113)), y109, y111, y107, 0, 0)]))))) else []))))
        rw [s1, e2, s2]

theorem offer_down_9_w (p0 p1 p2 p3 p4 p5 p6 p7 p8 p9 p10 p11 p12 p13 p14 p15 p16 p17 p18 p19 p20 p21 p22 p23 p24 p25 p26 p27 p28 p29 : Int) (g0 : -1000 ≤ p1 ∧ p0 ≤ 1000 ∧ p0 - p1 ≤ 290) (g1 : -1000 ≤ p14 ∧ p15 ≤ 1000 ∧ p15 - p14 ≤ 290) (g2 : -1000 ≤ p9 ∧ p10 ≤ 1000 ∧ p10 - p9 ≤ 290) : ∃ r, offer_down_9 300 p0 p1 p2 p3 p4 p5 p6 p7 p8 p9 p10 p11 p12 p13 p14 p15 p16 p17 p18 p19 p20 p21 p22 p23 p24 p25 p26 p27 p28 p29 = some r ∧ (fun (r : Bool × Int × Int × Int × Int × Int × Int × Int × Int × Int × Int) => (r.1, (r.2.1, r.2.2.1, r.2.2.2.1, r.2.2.2.2.1, r.2.2.2.2.2.1, r.2.2.2.2.2.2.1, r.2.2.2.2.2.2.2.1, r.2.2.2.2.2.2.2.2.1, r.2.2.2.2.2.2.2.2.2.1, r.2.2.2.2.2.2.2.2.2.2))) r = sfst (okf p3 p4 p5 p6 p7 p8 p9 p10 p11 p12 p13 p14 p15 p16 p17 p18 p19) (p20, p21, p22, p23, p24, p25, p26, p27, p28, p29) (dn p0 p1 (fun y120 => dn 3 0 (fun y118 => bif p2 == 2 then (bif (!((p11 == 0) && ((p12 == 0) && ((p13 == 0) && ((p14 == 0) && (p15 == 0)))))) then dn 3 0 (fun y104 => dn p15 p14 (fun y102 => [(p2, y118, y120, 0, 0, 0, 0, 0, (Kd.nth (.int .i64) [40, 60, 80, 120] (Int.toNat y104)), y102)])) else []) else (bif (!((p3 == 0) && ((p4 == 0) && ((p5 == 0) && ((p6 == 0) && ((p7 == 0) && ((p8 == 0) && ((p9 == 0) && (p10 == 0))))))))) then dn 1 0 (fun y115 => dn 4 1 (fun y113 => dn 1 0 (fun y111 => dn 1 0 (fun y109 => dn p10 p9 (fun y107 => [(p2, y118, y120, (kwrap .i64 (4 + (kwrap .i64 (4 * y115)))), (kwrap .i64 (4 * y113)), y109, y111, y107, 0, 0)]))))) else [])))) := by
  obtain ⟨z, hz, ez⟩ := offer_down_9_l p1 p2 p3 p4 p5 p6 p7 p8 p9 p10 p11 p12 p13 p14 p15 p16 p17 p18 p19 g1 g2 g0.1 (p0 - p1 + 1).toNat 300 p0 p20 p21 p22 p23 p24 p25 p26 p27 p28 p29 (by omega) (by omega) (by omega) (by omega)
  rcases z with ⟨t0, t1, t2, t3, t4, t5, t6, t7, t8, t9⟩ | ⟨t0, t1, t2, t3, t4, t5, t6, t7, t8, t9, t10⟩
  · exact ⟨_, bnd_eq hz rfl, ez⟩
  · exact ⟨_, bnd_eq hz rfl, ez⟩

theorem offer_Choose_2_w (p0 p1 p2 p3 p4 p5 p6 p7 p8 p9 p10 p11 p12 p13 p14 p15 p16 p17 p18 p19 p20 p21 p22 p23 p24 p25 p26 p27 : Int) (g0 : -1000 ≤ p12 ∧ p13 ≤ 1000 ∧ p13 - p12 ≤ 290) (g1 : -1000 ≤ p7 ∧ p8 ≤ 1000 ∧ p8 - p7 ≤ 290) : ∃ r, offer_Choose_2 300 p0 p1 p2 p3 p4 p5 p6 p7 p8 p9 p10 p11 p12 p13 p14 p15 p16 p17 p18 p19 p20 p21 p22 p23 p24 p25 p26 p27 = some r ∧ (fun (r : Bool × Int × Int × Int × Int × Int × Int × Int × Int × Int × Int) => (r.1, (r.2.1, r.2.2.1, r.2.2.2.1, r.2.2.2.2.1, r.2.2.2.2.2.1, r.2.2.2.2.2.2.1, r.2.2.2.2.2.2.2.1, r.2.2.2.2.2.2.2.2.1, r.2.2.2.2.2.2.2.2.2.1, r.2.2.2.2.2.2.2.2.2.2))) r = sfst (okf p1 p2 p3 p4 p5 p6 p7 p8 p9 p10 p11 p12 p13 p14 p15 p16 p17) (p18, p19, p20, p21, p22, p23, p24, p25, p26, p27) (dn 2 1 (fun y120 => dn 3 0 (fun y118 => bif p0 == 2 then (bif (!((p9 == 0) && ((p10 == 0) && ((p11 == 0) && ((p12 == 0) && (p13 == 0)))))) then dn 3 0 (fun y104 => dn p13 p12 (fun y102 => [(p0, y118, y120, 0, 0, 0, 0, 0, (Kd.nth (.int .i64) [40, 60, 80, 120] (Int.toNat y104)), y102)])) else []) else (bif (!((p1 == 0) && ((p2 == 0) && ((p3 == 0) && ((p4 == 0) && ((p5 == 0) && ((p6 == 0) && ((p7 == 0) && (p8 == 0))))))))) then dn 1 0 (fun y115 => dn 4 1 (fun y113 => dn 1 0 (fun y111 => dn 1 0 (fun y109 => dn p8 p7 (fun y107 => [(p0, y118, y120, (kwrap .i64 (4 + (kwrap .i64 (4 * y115)))), (kwrap .i64 (4 * y113)), y109, y111, y107, 0, 0)]))))) else [])))) := by
  obtain ⟨⟨r0, r1, r2, r3, r4, r5, r6, r7, r8, r9, r10⟩, h, e⟩ := offer_down_9_w 2 1 p0 p1 p2 p3 p4 p5 p6 p7 p8 p9 p10 p11 p12 p13 p14 p15 p16 p17 p18 p19 p20 p21 p22 p23 p24 p25 p26 p27 (by decide) g0 g1
  exact ⟨_, bnd_eq h rfl, e⟩

theorem offer_down_10_l (c0 c1 c2 c3 c4 c5 c6 c7 c8 c9 c10 c11 c12 c13 c14 c15 c16 c17 : Int) (g0 : -1000 ≤ c12 ∧ c13 ≤ 1000 ∧ c13 - c12 ≤ 290) (g1 : -1000 ≤ c7 ∧ c8 ≤ 1000 ∧ c8 - c7 ≤ 290) (hlo : -1000 ≤ c0) (k : Nat) : ∀ (m : Nat) (x175 x176 x177 x178 x179 x180 x181 x182 x183 x184 x185 : Int), k < m → (x175 < c0 → k = 0) → (c0 ≤ x175 → (k : Int) = x175 - c0 + 1) → x175 ≤ 1000 → ∃ z, offer_down_10.l0 300 c0 c1 c2 c3 c4 c5 c6 c7 c8 c9 c10 c11 c12 c13 c14 c15 c16 c17 m x175 x176 x177 x178 x179 x180 x181 x182 x183 x184 x185 = some z ∧ (fun (z : (Int × Int × Int × Int × Int × Int × Int × Int × Int × Int) ⊕ (Bool × Int × Int × Int × Int × Int × Int × Int × Int × Int × Int)) => match z with | .inl t => (false, (t.1, t.2.1, t.2.2.1, t.2.2.2.1, t.2.2.2.2.1, t.2.2.2.2.2.1, t.2.2.2.2.2.2.1, t.2.2.2.2.2.2.2.1, t.2.2.2.2.2.2.2.2.1, t.2.2.2.2.2.2.2.2.2)) | .inr t => (t.1, (t.2.1, t.2.2.1, t.2.2.2.1, t.2.2.2.2.1, t.2.2.2.2.2.1, t.2.2.2.2.2.2.1, t.2.2.2.2.2.2.2.1, t.2.2.2.2.2.2.2.2.1, t.2.2.2.2.2.2.2.2.2.1, t.2.2.2.2.2.2.2.2.2.2))) z = sfst (okf c1 c2 c3 c4 c5 c6 c7 c8 c9 c10 c11 c12 c13 c14 c15 c16 c17) (x176, x177, x178, x179, x180, x181, x182, x183, x184, x185) (dnN k x175 (fun x175 => dn 2 1 (fun y120 => dn 3 0 (fun y118 => bif x175 == 2 then (bif (!((c9 == 0) && ((c10 == 0) && ((c11 == 0) && ((c12 == 0) && (c13 == 0)))))) then dn 3 0 (fun y104 => dn c13 c12 (fun y102 => [(x175, y118, y120, 0, 0, 0, 0, 0, (Kd.nth (.int .i64) [40, 60, 80, 120] (Int.toNat y104)), y102)])) else []) else (bif (!((c1 == 0) && ((c2 == 0) && ((c3 == 0) && ((c4 == 0) && ((c5 == 0) && ((c6 == 0) && ((c7 == 0) && (c8 == 0))))))))) then dn 1 0 (fun y115 => dn 4 1 (fun y113 => dn 1 0 (fun y111 => dn 1 0 (fun y109 => dn c8 c7 (fun y107 => [(x175, y118, y120, (kwrap .i64 (4 + (kwrap .i64 (4 * y115)))), (kwrap .i64 (4 * y113)), y109, y111, y107, 0, 0)]))))) else []))))) := by
  induction k with
  | zero =>
    intro m x175 x176 x177 x178 x179 x180 x181 x182 x183 x184 x185 h h1 h2 h3
    obtain ⟨m, rfl⟩ : ∃ q, m = q + 1 := ⟨m - 1, by omega⟩
    have hx : ¬ x175 ≥ c0 := fun hc => by have := h2 hc; omega
    refine ⟨.inl (x176, x177, x178, x179, x180, x181, x182, x183, x184, x185), ?_, rfl⟩
    show offer_down_10.r0 300 c0 c1 c2 c3 c4 c5 c6 c7 c8 c9 c10 c11 c12 c13 c14 c15 c16 c17 (offer_down_10.l0 300 c0 c1 c2 c3 c4 c5 c6 c7 c8 c9 c10 c11 c12 c13 c14 c15 c16 c17 m) x175 x176 x177 x178 x179 x180 x181 x182 x183 x184 x185 = _
    exact bif_eq_f (decide_eq_false hx) rfl
  | succ k ih =>
    intro m x175 x176 x177 x178 x179 x180 x181 x182 x183 x184 x185 h h1 h2 h3
    obtain ⟨m, rfl⟩ : ∃ q, m = q + 1 := ⟨m - 1, by omega⟩
    have hx : x175 ≥ c0 := by
      rcases Int.lt_or_le x175 c0 with hc | hc
      · have := h1 hc; omega
      · exact hc
    have hk := h2 hx
    obtain ⟨⟨r0, r1, r2, r3, r4, r5, r6, r7, r8, r9, r10⟩, hr, e⟩ := offer_Choose_2_w x175 c1 c2 c3 c4 c5 c6 c7 c8 c9 c10 c11 c12 c13 c14 c15 c16 c17 x176 x177 x178 x179 x180 x181 x182 x183 x184 x185 g0 g1 
    have e1 : r0 = (sfst (okf c1 c2 c3 c4 c5 c6 c7 c8 c9 c10 c11 c12 c13 c14 c15 c16 c17) (x176, x177, x178, x179, x180, x181, x182, x183, x184, x185) (dn 2 1 (fun y120 => dn 3 0 (fun y118 => bif x175 == 2 then (bif (!((c9 == 0) && ((c10 == 0) && ((c11 == 0) && ((c12 == 0) && (c13 == 0)))))) then dn 3 0 (fun y104 => dn c13 c12 (fun y102 => [(x175, y118, y120, 0, 0, 0, 0, 0, (Kd.nth (.int .i64) [40, 60, 80, 120] (Int.toNat y104)), y102)])) else []) else (bif (!((c1 == 0) && ((c2 == 0) && ((c3 == 0) && ((c4 == 0) && ((c5 == 0) && ((c6 == 0) && ((c7 == 0) && (c8 == 0))))))))) then dn 1 0 (fun y115 => dn 4 1 (fun y113 => dn 1 0 (fun y111 => dn 1 0 (fun y109 => dn c8 c7 (fun y107 => [(x175, y118, y120, (kwrap .i64 (4 + (kwrap .i64 (4 * y115)))), (kwrap .i64 (4 * y113)), y109, y111, y107, 0, 0)]))))) else []))))).1 := congrArg Prod.fst e
    have e2 : (r1, r2, r3, r4, r5, r6, r7, r8, r9, r10) = (sfst (okf c1 c2 c3 c4 c5 c6 c7 c8 c9 c10 c11 c12 c13 c14 c15 c16 c17) (x176, x177, x178, x179, x180, x181, x182, x183, x184, x185) (dn 2 1 (fun y120 => dn 3 0 (fun y118 => bif x175 == 2 then (bif (!((c9 == 0) && ((c10 == 0) && ((c11 == 0) && ((c12 == 0) && (c13 == 0)))))) then dn 3 0 (fun y104 => dn c13 c12 (fun y102 => [(x175, y118, y120, 0, 0, 0, 0, 0, (Kd.nth (.int .i64) [40, 60, 80, 120] (Int.toNat y104)), y102)])) else []) else (bif (!((c1 == 0) && ((c2 == 0) && ((c3 == 0) && ((c4 == 0) && ((c5 == 0) && ((c6 == 0) && ((c7 == 0) && (c8 == 0))))))))) then dn 1 0 (fun y115 => dn 4 1 (fun y113 => dn 1 0 (fun y111 => dn 1 0 (fun y109 => dn c8 c7 (fun y107 => [(x175, y118, y120, (kwrap .i64 (4 + (kwrap .i64 (4 * y115)))), (kwrap .i64 (4 * y113)), y109, y111, y107, 0, 0)]))))) else []))))).2 := congrArg Prod.snd e
    cases r0 with
    | true =>
      refine ⟨.inr (true, r1, r2, r3, r4, r5, r6, r7, r8, r9, r10), ?_, ?_⟩
      · show offer_down_10.r0 300 c0 c1 c2 c3 c4 c5 c6 c7 c8 c9 c10 c11 c12 c13 c14 c15 c16 c17 (offer_down_10.l0 300 c0 c1 c2 c3 c4 c5 c6 c7 c8 c9 c10 c11 c12 c13 c14 c15 c16 c17 m) x175 x176 x177 x178 x179 x180 x181 x182 x183 x184 x185 = _
        exact bif_eq_t (decide_eq_true hx) (bnd_eq hr rfl)
      · show (true, (r1, r2, r3, r4, r5, r6, r7, r8, r9, r10)) = sfst _ _ ((dn 2 1 (fun y120 => dn 3 0 (fun y118 => bif x175 == 2 then (bif (!((c9 == 0) && ((c10 == 0) && ((c11 == 0) && ((c12 == 0) && (c13 == 0)))))) then dn 3 0 (fun y104 => dn c13 c12 (fun y102 => [(x175, y118, y120, 0, 0, 0, 0, 0, (Kd.nth (.int .i64) [40, 60, 80, 120] (Int.toNat y104)), y102)])) else []) else (bif (!((c1 == 0) && ((c2 == 0) && ((c3 == 0) && ((c4 == 0) && ((c5 == 0) && ((c6 == 0) && ((c7 == 0) && (c8 == 0))))))))) then dn 1 0 (fun y115 => dn 4 1 (fun y113 => dn 1 0 (fun y111 => dn 1 0 (fun y109 => dn c8 c7 (fun y107 => [(x175, y118, y120, (kwrap .i64 (4 + (kwrap .i64 (4 * y115)))), (kwrap .i64 (4 * y113)), y109, y111, y107, 0, 0)]))))) else [])))) ++ dnN k (x175 - 1) (fun x175 => dn 2 1 (fun y120 => dn 3 0 (fun y118 => bif x175 == 2 then (bif (!((c9 == 0) && ((c10 == 0) && ((c11 == 0) && ((c12 == 0) && (c13 == 0)))))) then dn 3 0 (fun y104 => dn c13 c12 (fun y102 => [(x175, y118, y120, 0, 0, 0, 0, 0, (Kd.nth (.int .i64) [40, 60, 80, 120] (Int.toNat y104)), y102)])) else []) else (bif (!((c1 == 0) && ((c2 == 0) && ((c3 == 0) && ((c4 == 0) && ((c5 == 0) && ((c6 == 0) && ((c7 == 0) && (c8 == 0))))))))) then dn 1 0 (fun y115 => dn 4 1 (fun y113 => dn 1 0 (fun y111 => dn 1 0 (fun y109 => dn c8 c7 (fun y107 => [(x175, y118, y120, (kwrap .i64 (4 + (kwrap .i64 (4 * y115)))), (kwrap .i64 (4 * y113)), y109, y111, y107, 0, 0)]))))) else [])))))
        rw [sfst_t e1.symm]; exact Prod.ext e1 e2
    | false =>
      obtain ⟨s1, s2⟩ := sfst_f (B := dnN k (x175 - 1) (fun x175 => dn 2 1 (fun y120 => dn 3 0 (fun y118 => bif x175 == 2 then (bif (!((c9 == 0) && ((c10 == 0) && ((c11 == 0) && ((c12 == 0) && (c13 == 0)))))) then dn 3 0 (fun y104 => dn c13 c12 (fun y102 => [(x175, y118, y120, 0, 0, 0, 0, 0, (Kd.nth (.int .i64) [40, 60, 80, 120] (Int.toNat y104)), y102)])) else []) else (bif (!((c1 == 0) && ((c2 == 0) && ((c3 == 0) && ((c4 == 0) && ((c5 == 0) && ((c6 == 0) && ((c7 == 0) && (c8 == 0))))))))) then dn 1 0 (fun y115 => dn 4 1 (fun y113 => dn 1 0 (fun y111 => dn 1 0 (fun y109 => dn c8 c7 (fun y107 => [(x175, y118, y120, (kwrap .i64 (4 + (kwrap .i64 (4 * y115)))), (kwrap .i64 (4 * y113)), y109, y111, y107, 0, 0)]))))) else []))))) e1.symm
      obtain ⟨z, hz, ez⟩ := ih m (x175 - 1) r1 r2 r3 r4 r5 r6 r7 r8 r9 r10 (by omega) (fun hc => by omega) (fun hc => by omega) (by omega)
      refine ⟨z, ?_, ?_⟩
      · show offer_down_10.r0 300 c0 c1 c2 c3 c4 c5 c6 c7 c8 c9 c10 c11 c12 c13 c14 c15 c16 c17 (offer_down_10.l0 300 c0 c1 c2 c3 c4 c5 c6 c7 c8 c9 c10 c11 c12 c13 c14 c15 c16 c17 m) x175 x176 x177 x178 x179 x180 x181 x182 x183 x184 x185 = _
        refine bif_eq_t (decide_eq_true hx) (bnd_eq hr (bif_eq_f rfl ?_))
        show offer_down_10.l0 300 c0 c1 c2 c3 c4 c5 c6 c7 c8 c9 c10 c11 c12 c13 c14 c15 c16 c17 m (kwrap .i64 (x175 - 1)) r1 r2 r3 r4 r5 r6 r7 r8 r9 r10 = _
        rw [kw_i64 (by omega) (by omega)]; exact hz
      · rw [ez]
        show _ = sfst _ _ ((dn 2 1 (fun y120 => dn 3 0 (fun y118 => bif x175 == 2 then (bif (!((c9 == 0) && ((c10 == 0) && ((c11 == 0) && ((c12 == 0) && (c13 == 0)))))) then dn 3 0 (fun y104 => dn c13 c12 (fun y102 => [(x175, y118, y120, 0, 0, 0, 0, 0, (Kd.nth (.int .i64) [40, 60, 80, 120] (Int.toNat y104)), y102)])) else []) else (bif (!((c1 == 0) && ((c2 == 0) && ((c3 == 0) && ((c4 == 0) && ((c5 == 0) && ((c6 == 0) && ((c7 == 0) && (c8 == 0))))))))) then dn 1 0 (fun y115 => dn 4 1 (fun y113 => dn 1 0 (fun y111 => dn 1 0 (fun y109 => dn c8 c7 (fun y107 => [(x175, y118, y120, (kwrap .i64 (4 + (kwrap .i64 (4 * y115)))), (kwrap .i64 (4 * y113)), y109, y111, y107, 0, 0)]))))) else [])))) ++ dnN k (x175 - 1) (fun x175 => dn 2 1 (fun y120 => dn 3 0 (fun y118 => bif x175 == 2 then (bif (!((c9 == 0) && ((c10 == 0) && ((c11 == 0) && ((c12 == 0) && (c13 == 0)))))) then dn 3 0 (fun y104 => dn c13 c12 (fun y102 => [(x175, y118, y120, 0, 0, 0, 0, 0, (Kd.nth (.int .i64) [40, 60, 80, 120] (Int.toNat y104)), y102)])) else []) else (bif (!((c1 == 0) && ((c2 == 0) && ((c3 == 0) && ((c4 == 0) && ((c5 == 0) && ((c6 == 0) && ((c7 == 0) && (c8 == 0))))))))) then dn 1 0 (fun y115 => dn 4 1 (fun y113 => dn 1 0 (fun y111 => dn 1 0 (fun y109 => dn c8 c7 (fun y107 => [(x175, y118, y120, (kwrap .i64 (4 + (kwrap .i64 (4 * y115)))), (kwrap .i64 (4 * y113)), y109, y111, y107, 0, 0)]))))) else [])))))
        rw [s1, e2, s2]

theorem offer_down_10_w (p0 p1 p2 p3 p4 p5 p6 p7 p8 p9 p10 p11 p12 p13 p14 p15 p16 p17 p18 p19 p20 p21 p22 p23 p24 p25 p26 p27 p28 : Int) (g0 : -1000 ≤ p1 ∧ p0 ≤ 1000 ∧ p0 - p1 ≤ 290) (g1 : -1000 ≤ p13 ∧ p14 ≤ 1000 ∧ p14 - p13 ≤ 290) (g2 : -1000 ≤ p8 ∧ p9 ≤ 1000 ∧ p9 - p8 ≤ 290) : ∃ r, offer_down_10 300 p0 p1 p2 p3 p4 p5 p6 p7 p8 p9 p10 p11 p12 p13 p14 p15 p16 p17 p18 p19 p20 p21 p22 p23 p24 p25 p26 p27 p28 = some r ∧ (fun (r : Bool × Int × Int × Int × Int × Int × Int × Int × Int × Int × Int) => (r.1, (r.2.1, r.2.2.1, r.2.2.2.1, r.2.2.2.2.1, r.2.2.2.2.2.1, r.2.2.2.2.2.2.1, r.2.2.2.2.2.2.2.1, r.2.2.2.2.2.2.2.2.1, r.2.2.2.2.2.2.2.2.2.1, r.2.2.2.2.2.2.2.2.2.2))) r = sfst (okf p2 p3 p4 p5 p6 p7 p8 p9 p10 p11 p12 p13 p14 p15 p16 p17 p18) (p19, p20, p21, p22, p23, p24, p25, p26, p27, p28) (dn p0 p1 (fun y122 => dn 2 1 (fun y120 => dn 3 0 (fun y118 => bif y122 == 2 then (bif (!((p10 == 0) && ((p11 == 0) && ((p12 == 0) && ((p13 == 0) && (p14 == 0)))))) then dn 3 0 (fun y104 => dn p14 p13 (fun y102 => [(y122, y118, y120, 0, 0, 0, 0, 0, (Kd.nth (.int .i64) [40, 60, 80, 120] (Int.toNat y104)), y102)])) else []) else (bif (!((p2 == 0) && ((p3 == 0) && ((p4 == 0) && ((p5 == 0) && ((p6 == 0) && ((p7 == 0) && ((p8 == 0) && (p9 == 0))))))))) then dn 1 0 (fun y115 => dn 4 1 (fun y113 => dn 1 0 (fun y111 => dn 1 0 (fun y109 => dn p9 p8 (fun y107 => [(y122, y118, y120, (kwrap .i64 (4 + (kwrap .i64 (4 * y115)))), (kwrap .i64 (4 * y113)), y109, y111, y107, 0, 0)]))))) else []))))) := by
  obtain ⟨z, hz, ez⟩ := offer_down_10_l p1 p2 p3 p4 p5 p6 p7 p8 p9 p10 p11 p12 p13 p14 p15 p16 p17 p18 g1 g2 g0.1 (p0 - p1 + 1).toNat 300 p0 p19 p20 p21 p22 p23 p24 p25 p26 p27 p28 (by omega) (by omega) (by omega) (by omega)
  rcases z with ⟨t0, t1, t2, t3, t4, t5, t6, t7, t8, t9⟩ | ⟨t0, t1, t2, t3, t4, t5, t6, t7, t8, t9, t10⟩
  · exact ⟨_, bnd_eq hz rfl, ez⟩
  · exact ⟨_, bnd_eq hz rfl, ez⟩

def cands (p0 p1 p2 p3 p4 p5 p6 p7 p8 p9 p10 p11 p12 p13 p14 : Int) : List Fm := dn 2 1 (fun y122 => dn 2 1 (fun y120 => dn 3 0 (fun y118 => bif y122 == 2 then (bif (!((p8 == 0) && ((p9 == 0) && ((p10 == 0) && ((p11 == 0) && (p12 == 0)))))) then dn 3 0 (fun y104 => dn p12 p11 (fun y102 => [(y122, y118, y120, 0, 0, 0, 0, 0, (Kd.nth (.int .i64) [40, 60, 80, 120] (Int.toNat y104)), y102)])) else []) else (bif (!((p0 == 0) && ((p1 == 0) && ((p2 == 0) && ((p3 == 0) && ((p4 == 0) && ((p5 == 0) && ((p6 == 0) && (p7 == 0))))))))) then dn 1 0 (fun y115 => dn 4 1 (fun y113 => dn 1 0 (fun y111 => dn 1 0 (fun y109 => dn p7 p6 (fun y107 => [(y122, y118, y120, (kwrap .i64 (4 + (kwrap .i64 (4 * y115)))), (kwrap .i64 (4 * y113)), y109, y111, y107, 0, 0)]))))) else []))))
theorem chk_bnd (p0 p1 p2 p3 p4 p5 p6 p7 p8 p9 p10 p11 p12 p13 p14 : Int) (h : chk p0 p1 p2 p3 p4 p5 p6 p7 p8 p9 p10 p11 p12 p13 p14 = true) : (0 ≤ p6 ∧ p7 ≤ 250 ∧ 0 ≤ p11 ∧ p12 ≤ 120 ∧ p7 - p6 ≤ 250 ∧ p12 - p11 ≤ 120) := by
  unfold chk mayS mayL at h
  simp only [Bool.and_eq_true, Bool.or_eq_true, set_t, span_t] at h
  obtain ⟨_, h1, h2, h3, h4⟩ := h
  have g1 : 0 ≤ p6 ∧ p7 ≤ 250 ∧ p7 - p6 ≤ 250 := by
    rcases h1 with h1 | h1
    · unfold z8 at h1
      simp only [Bool.and_eq_true, beq_iff_eq] at h1
      omega
    · omega
  have g2 : 0 ≤ p11 ∧ p12 ≤ 120 ∧ p12 - p11 ≤ 120 := by
    rcases h2 with h2 | h2
    · unfold z5 at h2
      simp only [Bool.and_eq_true, beq_iff_eq] at h2
      omega
    · omega
  omega
theorem choose_no (p0 p1 p2 p3 p4 p5 p6 p7 p8 p9 p10 p11 p12 p13 p14 : Int) (h : chk p0 p1 p2 p3 p4 p5 p6 p7 p8 p9 p10 p11 p12 p13 p14 = false) : offer_Choose 300 p0 p1 p2 p3 p4 p5 p6 p7 p8 p9 p10 p11 p12 p13 p14 = some (0, 0, 0, 0, 0, 0, 0, 0, 0, 0, 0, 0, 240) := by
  exact bnd_eq (x := (false, 0, 0, 0, 0, 0, 0, 0, 0, 0, 0)) (bnd_eq ((chk_w p0 p1 p2 p3 p4 p5 p6 p7 p8 p9 p10 p11 p12 p13 p14).trans (by rw [h])) (bif_eq_f rfl rfl)) (bif_eq_t rfl rfl)
theorem choose_w (p0 p1 p2 p3 p4 p5 p6 p7 p8 p9 p10 p11 p12 p13 p14 : Int) (h : chk p0 p1 p2 p3 p4 p5 p6 p7 p8 p9 p10 p11 p12 p13 p14 = true) : offer_Choose 300 p0 p1 p2 p3 p4 p5 p6 p7 p8 p9 p10 p11 p12 p13 p14 = some (match (cands p0 p1 p2 p3 p4 p5 p6 p7 p8 p9 p10 p11 p12 p13 p14).find? (okf p0 p1 p2 p3 p4 p5 p6 p7 p8 p9 p10 p11 p12 p13 p14 p13 p14) with | some (f0, f1, f2, f3, f4, f5, f6, f7, f8, f9) => (f0, f1, f2, f3, f4, f5, f6, f7, f8, f9, p13, p14, 0) | none => (0, 0, 0, 0, 0, 0, 0, 0, 0, 0, 0, 0, 240)) := by
  have hb := chk_bnd p0 p1 p2 p3 p4 p5 p6 p7 p8 p9 p10 p11 p12 p13 p14 h
  obtain ⟨⟨r0, r1, r2, r3, r4, r5, r6, r7, r8, r9, r10⟩, hr, e⟩ := offer_down_10_w 2 1 p0 p1 p2 p3 p4 p5 p6 p7 p8 p9 p10 p11 p12 p13 p14 p13 p14 0 0 0 0 0 0 0 0 0 0 (by omega) (by omega) (by omega)
  have e' : (r0, (r1, r2, r3, r4, r5, r6, r7, r8, r9, r10)) = sfst (okf p0 p1 p2 p3 p4 p5 p6 p7 p8 p9 p10 p11 p12 p13 p14 p13 p14) (0, 0, 0, 0, 0, 0, 0, 0, 0, 0) (cands p0 p1 p2 p3 p4 p5 p6 p7 p8 p9 p10 p11 p12 p13 p14) := e
  unfold sfst at e'
  refine bnd_eq (x := (r0, r1, r2, r3, r4, r5, r6, r7, r8, r9, r10)) (bnd_eq ((chk_w p0 p1 p2 p3 p4 p5 p6 p7 p8 p9 p10 p11 p12 p13 p14).trans (by rw [h])) (bif_eq_t rfl (bnd_eq hr rfl))) ?_
  cases hf : (cands p0 p1 p2 p3 p4 p5 p6 p7 p8 p9 p10 p11 p12 p13 p14).find? (okf p0 p1 p2 p3 p4 p5 p6 p7 p8 p9 p10 p11 p12 p13 p14 p13 p14) with
  | none => rw [hf] at e'; cases e'; rfl
  | some f => rw [hf] at e'; obtain ⟨f0, f1, f2, f3, f4, f5, f6, f7, f8, f9⟩ := f; cases e'; rfl
end Go.Fo
