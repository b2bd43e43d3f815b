/- The negotiated mode is the best: the law. -/
import Derived.Test.YtcaehpgdcjonfaaObY
namespace Go.Fo
set_option maxRecDepth 4000
theorem kand_all : (List.range 16).all (fun a => (List.range 16).all fun b => decide (kand .i64 (a : Int) (b : Int) = kand .i64 (b : Int) (a : Int) ∧ 0 ≤ kand .i64 (a : Int) (b : Int) ∧ kand .i64 (a : Int) (b : Int) ≤ (a : Int) ∧ kand .i64 (a : Int) (b : Int) ≤ (b : Int))) = true := by kernel_rfl
theorem kand_c (a b : Int) (ha : 0 ≤ a ∧ a ≤ 15) (hb : 0 ≤ b ∧ b ≤ 15) : kand .i64 a b = kand .i64 b a ∧ 0 ≤ kand .i64 a b ∧ kand .i64 a b ≤ a ∧ kand .i64 a b ≤ b := by
  have := of_decide_eq_true (List.all_eq_true.1 (List.all_eq_true.1 kand_all a.toNat (List.mem_range.2 (by omega))) b.toNat (List.mem_range.2 (by omega)))
  rwa [Int.toNat_of_nonneg ha.1, Int.toNat_of_nonneg hb.1] at this
theorem imax_c (a b : Int) : imax a b = imax b a := by unfold imax; split <;> split <;> omega
theorem imin_c (a b : Int) : imin a b = imin b a := by unfold imin; split <;> split <;> omega
theorem imin_ge (a b x : Int) (h : x ≤ a) (k : x ≤ b) : x ≤ imin a b := by unfold imin; split <;> omega
theorem imin_le (a b : Int) : imin a b ≤ a ∧ imin a b ≤ b := by unfold imin; split <;> omega
theorem imax_le (a b x : Int) (h : a ≤ x) (k : b ≤ x) : imax a b ≤ x := by unfold imax; split <;> omega
theorem imax_ge (a b : Int) : a ≤ imax a b ∧ b ≤ imax a b := by unfold imax; split <;> omega
theorem bor (x y : Bool) : (bif x then true else y) = (x || y) := by cases x <;> rfl
theorem vs_iff (p0 p1 p2 p3 p4 p5 p6 p7 p8 p9 p10 p11 p12 p13 p14 p15 p16 p17 p18 p19 p20 p21 p22 p23 p24 p25 p26 p27 p28 p29 : Int) : (bif (bif (bif (bif (bif (bif (kand .i64 p0 p15 == 0) then true else (kand .i64 p1 p16 == 0)) then true else (kand .i64 p2 p17 == 0)) then true else (kand .i64 p3 p18 == 0)) then true else (kand .i64 p4 p19 == 0)) then true else (kand .i64 p5 p20 == 0)) then true else decide ((imax p6 p21) > (imin p7 p22))) = false ↔ (kand .i64 p0 p15 ≠ 0 ∧ kand .i64 p1 p16 ≠ 0 ∧ kand .i64 p2 p17 ≠ 0 ∧ kand .i64 p3 p18 ≠ 0 ∧ kand .i64 p4 p19 ≠ 0 ∧ kand .i64 p5 p20 ≠ 0 ∧ imax p6 p21 ≤ imin p7 p22) := by
  simp only [bor, Bool.or_eq_false_iff, beq_eq_false_iff_ne, decide_eq_false_iff_not]; omega
theorem vl_iff (p0 p1 p2 p3 p4 p5 p6 p7 p8 p9 p10 p11 p12 p13 p14 p15 p16 p17 p18 p19 p20 p21 p22 p23 p24 p25 p26 p27 p28 p29 : Int) : (bif (bif (bif (kand .i64 p8 p23 == 0) then true else (kand .i64 p9 p24 == 0)) then true else (kand .i64 p10 p25 == 0)) then true else decide ((imax p11 p26) > (imin p12 p27))) = false ↔ (kand .i64 p8 p23 ≠ 0 ∧ kand .i64 p9 p24 ≠ 0 ∧ kand .i64 p10 p25 ≠ 0 ∧ imax p11 p26 ≤ imin p12 p27) := by
  simp only [bor, Bool.or_eq_false_iff, beq_eq_false_iff_ne, decide_eq_false_iff_not]; omega
def RS (p0 p1 p2 p3 p4 p5 p6 p7 p8 p9 p10 p11 p12 p13 p14 p15 p16 p17 p18 p19 p20 p21 p22 p23 p24 p25 p26 p27 p28 p29 q0 q1 q2 q3 q4 q5 q6 q7 : Int) : Prop := (((bif (bif (bif (bif (bif (bif (kand .i64 p0 p15 == 0) then true else (kand .i64 p1 p16 == 0)) then true else (kand .i64 p2 p17 == 0)) then true else (kand .i64 p3 p18 == 0)) then true else (kand .i64 p4 p19 == 0)) then true else (kand .i64 p5 p20 == 0)) then true else decide ((imax p6 p21) > (imin p7 p22))) = true ∧ q0 = 0 ∧ q1 = 0 ∧ q2 = 0 ∧ q3 = 0 ∧ q4 = 0 ∧ q5 = 0 ∧ q6 = 0 ∧ q7 = 0) ∨ ((bif (bif (bif (bif (bif (bif (kand .i64 p0 p15 == 0) then true else (kand .i64 p1 p16 == 0)) then true else (kand .i64 p2 p17 == 0)) then true else (kand .i64 p3 p18 == 0)) then true else (kand .i64 p4 p19 == 0)) then true else (kand .i64 p5 p20 == 0)) then true else decide ((imax p6 p21) > (imin p7 p22))) = false ∧ q0 = kand .i64 p0 p15 ∧ q1 = kand .i64 p1 p16 ∧ q2 = kand .i64 p2 p17 ∧ q3 = kand .i64 p3 p18 ∧ q4 = kand .i64 p4 p19 ∧ q5 = kand .i64 p5 p20 ∧ q6 = imax p6 p21 ∧ q7 = imin p7 p22))
def RL (p0 p1 p2 p3 p4 p5 p6 p7 p8 p9 p10 p11 p12 p13 p14 p15 p16 p17 p18 p19 p20 p21 p22 p23 p24 p25 p26 p27 p28 p29 q8 q9 q10 q11 q12 : Int) : Prop := (((bif (bif (bif (kand .i64 p8 p23 == 0) then true else (kand .i64 p9 p24 == 0)) then true else (kand .i64 p10 p25 == 0)) then true else decide ((imax p11 p26) > (imin p12 p27))) = true ∧ q8 = 0 ∧ q9 = 0 ∧ q10 = 0 ∧ q11 = 0 ∧ q12 = 0) ∨ ((bif (bif (bif (kand .i64 p8 p23 == 0) then true else (kand .i64 p9 p24 == 0)) then true else (kand .i64 p10 p25 == 0)) then true else decide ((imax p11 p26) > (imin p12 p27))) = false ∧ q8 = kand .i64 p8 p23 ∧ q9 = kand .i64 p9 p24 ∧ q10 = kand .i64 p10 p25 ∧ q11 = imax p11 p26 ∧ q12 = imin p12 p27))
theorem meet_x (p0 p1 p2 p3 p4 p5 p6 p7 p8 p9 p10 p11 p12 p13 p14 p15 p16 p17 p18 p19 p20 p21 p22 p23 p24 p25 p26 p27 p28 p29 : Int) (a : chk p0 p1 p2 p3 p4 p5 p6 p7 p8 p9 p10 p11 p12 p13 p14 = true) (b : chk p15 p16 p17 p18 p19 p20 p21 p22 p23 p24 p25 p26 p27 p28 p29 = true) : ∃ q0 q1 q2 q3 q4 q5 q6 q7 q8 q9 q10 q11 q12 : Int, offer_Meet 300 p0 p1 p2 p3 p4 p5 p6 p7 p8 p9 p10 p11 p12 p13 p14 p15 p16 p17 p18 p19 p20 p21 p22 p23 p24 p25 p26 p27 p28 p29 = some (q0, q1, q2, q3, q4, q5, q6, q7, q8, q9, q10, q11, q12, imin p13 p28, imin p14 p29) ∧ offer_Meet 300 p15 p16 p17 p18 p19 p20 p21 p22 p23 p24 p25 p26 p27 p28 p29 p0 p1 p2 p3 p4 p5 p6 p7 p8 p9 p10 p11 p12 p13 p14 = some (q0, q1, q2, q3, q4, q5, q6, q7, q8, q9, q10, q11, q12, imin p13 p28, imin p14 p29) ∧
    (∀ f0 f1 f2 f3 f4 f5 f6 f7 f8 f9 l0 l1 : Int, subP f0 f1 f2 f3 f4 f5 f6 f7 f8 f9 → subA q0 q1 q2 q3 q4 q5 q6 q7 q8 q9 q10 q11 q12 (imin p13 p28) (imin p14 p29) f0 f1 f2 f3 f4 f5 f6 f7 f8 f9 l0 l1 = true → subA p0 p1 p2 p3 p4 p5 p6 p7 p8 p9 p10 p11 p12 p13 p14 f0 f1 f2 f3 f4 f5 f6 f7 f8 f9 l0 l1 = true ∧ subA p15 p16 p17 p18 p19 p20 p21 p22 p23 p24 p25 p26 p27 p28 p29 f0 f1 f2 f3 f4 f5 f6 f7 f8 f9 l0 l1 = true) ∧
    (∀ f0 f1 f2 f3 f4 f5 f6 f7 f8 f9 l0 l1 : Int, lapP f0 f1 f2 f3 f4 f5 f6 f7 f8 f9 → lapA q0 q1 q2 q3 q4 q5 q6 q7 q8 q9 q10 q11 q12 (imin p13 p28) (imin p14 p29) f0 f1 f2 f3 f4 f5 f6 f7 f8 f9 l0 l1 = true → lapA p0 p1 p2 p3 p4 p5 p6 p7 p8 p9 p10 p11 p12 p13 p14 f0 f1 f2 f3 f4 f5 f6 f7 f8 f9 l0 l1 = true ∧ lapA p15 p16 p17 p18 p19 p20 p21 p22 p23 p24 p25 p26 p27 p28 p29 f0 f1 f2 f3 f4 f5 f6 f7 f8 f9 l0 l1 = true) ∧ RS p0 p1 p2 p3 p4 p5 p6 p7 p8 p9 p10 p11 p12 p13 p14 p15 p16 p17 p18 p19 p20 p21 p22 p23 p24 p25 p26 p27 p28 p29 q0 q1 q2 q3 q4 q5 q6 q7 ∧ RL p0 p1 p2 p3 p4 p5 p6 p7 p8 p9 p10 p11 p12 p13 p14 p15 p16 p17 p18 p19 p20 p21 p22 p23 p24 p25 p26 p27 p28 p29 q8 q9 q10 q11 q12 := by
  obtain ⟨r0, r1, r2, r3, r4, r5, r8, r9, r10⟩ := rng15 p0 p1 p2 p3 p4 p5 p6 p7 p8 p9 p10 p11 p12 p13 p14 a
  obtain ⟨t0, t1, t2, t3, t4, t5, t8, t9, t10⟩ := rng15 p15 p16 p17 p18 p19 p20 p21 p22 p23 p24 p25 p26 p27 p28 p29 b
  have hm : ∀ (r : Option _), ((bif (bif (bif (bif (bif (bif (bif (kand .i64 p0 p15 == 0) then true else (kand .i64 p1 p16 == 0)) then true else (kand .i64 p2 p17 == 0)) then true else (kand .i64 p3 p18 == 0)) then true else (kand .i64 p4 p19 == 0)) then true else (kand .i64 p5 p20 == 0)) then true else decide ((imax p6 p21) > (imin p7 p22))) then some (0, 0, 0, 0, 0, 0, 0, 0) else some (kand .i64 p0 p15, kand .i64 p1 p16, kand .i64 p2 p17, kand .i64 p3 p18, kand .i64 p4 p19, kand .i64 p5 p20, imax p6 p21, imin p7 p22) : Option (Int × Int × Int × Int × Int × Int × Int × Int)).bind fun (x35, x36, x37, x38, x39, x40, x41, x42) =>
        (bif (bif (bif (bif (kand .i64 p8 p23 == 0) then true else (kand .i64 p9 p24 == 0)) then true else (kand .i64 p10 p25 == 0)) then true else decide ((imax p11 p26) > (imin p12 p27))) then some (0, 0, 0, 0, 0) else some (kand .i64 p8 p23, kand .i64 p9 p24, kand .i64 p10 p25, imax p11 p26, imin p12 p27) : Option (Int × Int × Int × Int × Int)).bind fun (x52, x53, x54, x55, x56) =>
          some (x35, x36, x37, x38, x39, x40, x41, x42, x52, x53, x54, x55, x56, imin p13 p28, imin p14 p29)) = r → offer_Meet 300 p0 p1 p2 p3 p4 p5 p6 p7 p8 p9 p10 p11 p12 p13 p14 p15 p16 p17 p18 p19 p20 p21 p22 p23 p24 p25 p26 p27 p28 p29 = r := by
    intro r hr
    refine bnd_eq (x := false) (bnd_eq ((chk_w p0 p1 p2 p3 p4 p5 p6 p7 p8 p9 p10 p11 p12 p13 p14).trans (by rw [a])) (bif_eq_f rfl (bnd_eq ((chk_w p15 p16 p17 p18 p19 p20 p21 p22 p23 p24 p25 p26 p27 p28 p29).trans (by rw [b])) rfl))) ?_
    exact bif_eq_f rfl hr
  have hm' : ∀ (r : Option _), ((bif (bif (bif (bif (bif (bif (bif (kand .i64 p0 p15 == 0) then true else (kand .i64 p1 p16 == 0)) then true else (kand .i64 p2 p17 == 0)) then true else (kand .i64 p3 p18 == 0)) then true else (kand .i64 p4 p19 == 0)) then true else (kand .i64 p5 p20 == 0)) then true else decide ((imax p6 p21) > (imin p7 p22))) then some (0, 0, 0, 0, 0, 0, 0, 0) else some (kand .i64 p0 p15, kand .i64 p1 p16, kand .i64 p2 p17, kand .i64 p3 p18, kand .i64 p4 p19, kand .i64 p5 p20, imax p6 p21, imin p7 p22) : Option (Int × Int × Int × Int × Int × Int × Int × Int)).bind fun (x35, x36, x37, x38, x39, x40, x41, x42) =>
        (bif (bif (bif (bif (kand .i64 p8 p23 == 0) then true else (kand .i64 p9 p24 == 0)) then true else (kand .i64 p10 p25 == 0)) then true else decide ((imax p11 p26) > (imin p12 p27))) then some (0, 0, 0, 0, 0) else some (kand .i64 p8 p23, kand .i64 p9 p24, kand .i64 p10 p25, imax p11 p26, imin p12 p27) : Option (Int × Int × Int × Int × Int)).bind fun (x52, x53, x54, x55, x56) =>
          some (x35, x36, x37, x38, x39, x40, x41, x42, x52, x53, x54, x55, x56, imin p13 p28, imin p14 p29)) = r → offer_Meet 300 p15 p16 p17 p18 p19 p20 p21 p22 p23 p24 p25 p26 p27 p28 p29 p0 p1 p2 p3 p4 p5 p6 p7 p8 p9 p10 p11 p12 p13 p14 = r := by
    intro r hr
    refine bnd_eq (x := false) (bnd_eq ((chk_w p15 p16 p17 p18 p19 p20 p21 p22 p23 p24 p25 p26 p27 p28 p29).trans (by rw [b])) (bif_eq_f rfl (bnd_eq ((chk_w p0 p1 p2 p3 p4 p5 p6 p7 p8 p9 p10 p11 p12 p13 p14).trans (by rw [a])) rfl))) ?_
    refine bif_eq_f rfl ?_
    dsimp only
    rw [(kand_c p15 p0 t0 r0).1, (kand_c p16 p1 t1 r1).1, (kand_c p17 p2 t2 r2).1, (kand_c p18 p3 t3 r3).1, (kand_c p19 p4 t4 r4).1, (kand_c p20 p5 t5 r5).1, imax_c p21 p6, imin_c p22 p7, (kand_c p23 p8 t8 r8).1, (kand_c p24 p9 t9 r9).1, (kand_c p25 p10 t10 r10).1, imax_c p26 p11, imin_c p27 p12, imin_c p28 p13, imin_c p29 p14]
    exact hr
  unfold RS RL
  rcases Bool.eq_false_or_eq_true (bif (bif (bif (bif (bif (bif (kand .i64 p0 p15 == 0) then true else (kand .i64 p1 p16 == 0)) then true else (kand .i64 p2 p17 == 0)) then true else (kand .i64 p3 p18 == 0)) then true else (kand .i64 p4 p19 == 0)) then true else (kand .i64 p5 p20 == 0)) then true else decide ((imax p6 p21) > (imin p7 p22))) with e | e <;> rcases Bool.eq_false_or_eq_true (bif (bif (bif (kand .i64 p8 p23 == 0) then true else (kand .i64 p9 p24 == 0)) then true else (kand .i64 p10 p25 == 0)) then true else decide ((imax p11 p26) > (imin p12 p27))) with e' | e'
  · exact ⟨_, _, _, _, _, _, _, _, _, _, _, _, _, hm _ (bnd_eq (bif_eq_t e rfl) (bnd_eq (bif_eq_t e' rfl) rfl)), hm' _ (bnd_eq (bif_eq_t e rfl) (bnd_eq (bif_eq_t e' rfl) rfl)), fun f0 f1 f2 f3 f4 f5 f6 f7 f8 f9 l0 l1 _ h => (by rw [sub_zero] at h; cases h), fun f0 f1 f2 f3 f4 f5 f6 f7 f8 f9 l0 l1 _ h => (by rw [lap_zero] at h; cases h), .inl ⟨e, rfl, rfl, rfl, rfl, rfl, rfl, rfl, rfl⟩, .inl ⟨e', rfl, rfl, rfl, rfl, rfl⟩⟩
  · exact ⟨_, _, _, _, _, _, _, _, _, _, _, _, _, hm _ (bnd_eq (bif_eq_t e rfl) (bnd_eq (bif_eq_f e' rfl) rfl)), hm' _ (bnd_eq (bif_eq_t e rfl) (bnd_eq (bif_eq_f e' rfl) rfl)), fun f0 f1 f2 f3 f4 f5 f6 f7 f8 f9 l0 l1 _ h => (by rw [sub_zero] at h; cases h), fun f0 f1 f2 f3 f4 f5 f6 f7 f8 f9 l0 l1 hs h => lap_meet p0 p1 p2 p3 p4 p5 p6 p7 p8 p9 p10 p11 p12 p13 p14 p15 p16 p17 p18 p19 p20 p21 p22 p23 p24 p25 p26 p27 p28 p29 f0 f1 f2 f3 f4 f5 f6 f7 f8 f9 l0 l1 a b _ _ _ _ _ _ _ _ _ _ hs h, .inl ⟨e, rfl, rfl, rfl, rfl, rfl, rfl, rfl, rfl⟩, .inr ⟨e', rfl, rfl, rfl, rfl, rfl⟩⟩
  · exact ⟨_, _, _, _, _, _, _, _, _, _, _, _, _, hm _ (bnd_eq (bif_eq_f e rfl) (bnd_eq (bif_eq_t e' rfl) rfl)), hm' _ (bnd_eq (bif_eq_f e rfl) (bnd_eq (bif_eq_t e' rfl) rfl)), fun f0 f1 f2 f3 f4 f5 f6 f7 f8 f9 l0 l1 hs h => sub_meet p0 p1 p2 p3 p4 p5 p6 p7 p8 p9 p10 p11 p12 p13 p14 p15 p16 p17 p18 p19 p20 p21 p22 p23 p24 p25 p26 p27 p28 p29 f0 f1 f2 f3 f4 f5 f6 f7 f8 f9 l0 l1 a b _ _ _ _ _ _ _ hs h, fun f0 f1 f2 f3 f4 f5 f6 f7 f8 f9 l0 l1 _ h => (by rw [lap_zero] at h; cases h), .inr ⟨e, rfl, rfl, rfl, rfl, rfl, rfl, rfl, rfl⟩, .inl ⟨e', rfl, rfl, rfl, rfl, rfl⟩⟩
  · exact ⟨_, _, _, _, _, _, _, _, _, _, _, _, _, hm _ (bnd_eq (bif_eq_f e rfl) (bnd_eq (bif_eq_f e' rfl) rfl)), hm' _ (bnd_eq (bif_eq_f e rfl) (bnd_eq (bif_eq_f e' rfl) rfl)), fun f0 f1 f2 f3 f4 f5 f6 f7 f8 f9 l0 l1 hs h => sub_meet p0 p1 p2 p3 p4 p5 p6 p7 p8 p9 p10 p11 p12 p13 p14 p15 p16 p17 p18 p19 p20 p21 p22 p23 p24 p25 p26 p27 p28 p29 f0 f1 f2 f3 f4 f5 f6 f7 f8 f9 l0 l1 a b _ _ _ _ _ _ _ hs h, fun f0 f1 f2 f3 f4 f5 f6 f7 f8 f9 l0 l1 hs h => lap_meet p0 p1 p2 p3 p4 p5 p6 p7 p8 p9 p10 p11 p12 p13 p14 p15 p16 p17 p18 p19 p20 p21 p22 p23 p24 p25 p26 p27 p28 p29 f0 f1 f2 f3 f4 f5 f6 f7 f8 f9 l0 l1 a b _ _ _ _ _ _ _ _ _ _ hs h, .inr ⟨e, rfl, rfl, rfl, rfl, rfl, rfl, rfl, rfl⟩, .inr ⟨e', rfl, rfl, rfl, rfl, rfl⟩⟩
/-- what a meet can -/
theorem may_s (p0 p1 p2 p3 p4 p5 p6 p7 p8 p9 p10 p11 p12 p13 p14 p15 p16 p17 p18 p19 p20 p21 p22 p23 p24 p25 p26 p27 p28 p29 q0 q1 q2 q3 q4 q5 q6 q7 : Int) (a : chk p0 p1 p2 p3 p4 p5 p6 p7 p8 p9 p10 p11 p12 p13 p14 = true) (b : chk p15 p16 p17 p18 p19 p20 p21 p22 p23 p24 p25 p26 p27 p28 p29 = true) (h : RS p0 p1 p2 p3 p4 p5 p6 p7 p8 p9 p10 p11 p12 p13 p14 p15 p16 p17 p18 p19 p20 p21 p22 p23 p24 p25 p26 p27 p28 p29 q0 q1 q2 q3 q4 q5 q6 q7) : mayS q0 q1 q2 q3 q4 q5 q6 q7 = true := by
  rcases h with ⟨_, rfl, rfl, rfl, rfl, rfl, rfl, rfl, rfl⟩ | ⟨hv, rfl, rfl, rfl, rfl, rfl, rfl, rfl, rfl⟩
  · rfl
  · obtain ⟨n0, n1, n2, n3, n4, n5, n6⟩ := (vs_iff p0 p1 p2 p3 p4 p5 p6 p7 p8 p9 p10 p11 p12 p13 p14 p15 p16 p17 p18 p19 p20 p21 p22 p23 p24 p25 p26 p27 p28 p29).1 hv
    obtain ⟨r0, r1, r2, r3, r4, r5, r8, r9, r10⟩ := rng15 p0 p1 p2 p3 p4 p5 p6 p7 p8 p9 p10 p11 p12 p13 p14 a
    obtain ⟨t0, t1, t2, t3, t4, t5, t8, t9, t10⟩ := rng15 p15 p16 p17 p18 p19 p20 p21 p22 p23 p24 p25 p26 p27 p28 p29 b
    have k0 := kand_c p0 p15 r0 t0
    have k1 := kand_c p1 p16 r1 t1
    have k2 := kand_c p2 p17 r2 t2
    have k3 := kand_c p3 p18 r3 t3
    have k4 := kand_c p4 p19 r4 t4
    have k5 := kand_c p5 p20 r5 t5
    have m1 := imax_ge p6 p21
    have m2 := imin_le p7 p22
    unfold chk mayS at a
    simp only [Bool.and_eq_true, Bool.or_eq_true, set_t, span_t] at a
    obtain ⟨_, a, _⟩ := a
    unfold mayS
    simp only [Bool.and_eq_true, Bool.or_eq_true, set_t, span_t]
    right
    rcases a with a | a
    · unfold z8 at a
      simp only [Bool.and_eq_true, beq_iff_eq] at a
      omega
    · omega
theorem may_l (p0 p1 p2 p3 p4 p5 p6 p7 p8 p9 p10 p11 p12 p13 p14 p15 p16 p17 p18 p19 p20 p21 p22 p23 p24 p25 p26 p27 p28 p29 q8 q9 q10 q11 q12 : Int) (a : chk p0 p1 p2 p3 p4 p5 p6 p7 p8 p9 p10 p11 p12 p13 p14 = true) (b : chk p15 p16 p17 p18 p19 p20 p21 p22 p23 p24 p25 p26 p27 p28 p29 = true) (h : RL p0 p1 p2 p3 p4 p5 p6 p7 p8 p9 p10 p11 p12 p13 p14 p15 p16 p17 p18 p19 p20 p21 p22 p23 p24 p25 p26 p27 p28 p29 q8 q9 q10 q11 q12) : mayL q8 q9 q10 q11 q12 = true := by
  rcases h with ⟨_, rfl, rfl, rfl, rfl, rfl⟩ | ⟨hv, rfl, rfl, rfl, rfl, rfl⟩
  · rfl
  · obtain ⟨n0, n1, n2, n6⟩ := (vl_iff p0 p1 p2 p3 p4 p5 p6 p7 p8 p9 p10 p11 p12 p13 p14 p15 p16 p17 p18 p19 p20 p21 p22 p23 p24 p25 p26 p27 p28 p29).1 hv
    obtain ⟨r0, r1, r2, r3, r4, r5, r8, r9, r10⟩ := rng15 p0 p1 p2 p3 p4 p5 p6 p7 p8 p9 p10 p11 p12 p13 p14 a
    obtain ⟨t0, t1, t2, t3, t4, t5, t8, t9, t10⟩ := rng15 p15 p16 p17 p18 p19 p20 p21 p22 p23 p24 p25 p26 p27 p28 p29 b
    have k0 := kand_c p8 p23 r8 t8
    have k1 := kand_c p9 p24 r9 t9
    have k2 := kand_c p10 p25 r10 t10
    have m1 := imax_ge p11 p26
    have m2 := imin_le p12 p27
    unfold chk mayL at a
    simp only [Bool.and_eq_true, Bool.or_eq_true, set_t, span_t] at a
    obtain ⟨_, _, a, _⟩ := a
    unfold mayL
    simp only [Bool.and_eq_true, Bool.or_eq_true, set_t, span_t]
    right
    rcases a with a | a
    · unfold z5 at a
      simp only [Bool.and_eq_true, beq_iff_eq] at a
      omega
    · omega
theorem chk_q (p0 p1 p2 p3 p4 p5 p6 p7 p8 p9 p10 p11 p12 p13 p14 p15 p16 p17 p18 p19 p20 p21 p22 p23 p24 p25 p26 p27 p28 p29 q0 q1 q2 q3 q4 q5 q6 q7 q8 q9 q10 q11 q12 : Int) (a : chk p0 p1 p2 p3 p4 p5 p6 p7 p8 p9 p10 p11 p12 p13 p14 = true) (b : chk p15 p16 p17 p18 p19 p20 p21 p22 p23 p24 p25 p26 p27 p28 p29 = true) (hs : RS p0 p1 p2 p3 p4 p5 p6 p7 p8 p9 p10 p11 p12 p13 p14 p15 p16 p17 p18 p19 p20 p21 p22 p23 p24 p25 p26 p27 p28 p29 q0 q1 q2 q3 q4 q5 q6 q7) (hl : RL p0 p1 p2 p3 p4 p5 p6 p7 p8 p9 p10 p11 p12 p13 p14 p15 p16 p17 p18 p19 p20 p21 p22 p23 p24 p25 p26 p27 p28 p29 q8 q9 q10 q11 q12) (hz : z8 q0 q1 q2 q3 q4 q5 q6 q7 = false ∨ z5 q8 q9 q10 q11 q12 = false) : chk q0 q1 q2 q3 q4 q5 q6 q7 q8 q9 q10 q11 q12 (imin p13 p28) (imin p14 p29) = true := by
  have h1 := may_s p0 p1 p2 p3 p4 p5 p6 p7 p8 p9 p10 p11 p12 p13 p14 p15 p16 p17 p18 p19 p20 p21 p22 p23 p24 p25 p26 p27 p28 p29 _ _ _ _ _ _ _ _ a b hs
  have h2 := may_l p0 p1 p2 p3 p4 p5 p6 p7 p8 p9 p10 p11 p12 p13 p14 p15 p16 p17 p18 p19 p20 p21 p22 p23 p24 p25 p26 p27 p28 p29 _ _ _ _ _ a b hl
  have m1 := imin_le p13 p28
  have m2 := imin_le p14 p29
  unfold chk at a b ⊢
  simp only [Bool.and_eq_true, span_t] at a b
  have g1 := imin_ge p13 p28 1 (by omega) (by omega)
  have g2 := imin_ge p14 p29 1 (by omega) (by omega)
  rw [h1, h2, span_t.2 (by omega : 1 ≤ imin p13 p28 ∧ imin p13 p28 ≤ imin p13 p28 ∧ imin p13 p28 ≤ 16), span_t.2 (by omega : 1 ≤ imin p14 p29 ∧ imin p14 p29 ≤ imin p14 p29 ∧ imin p14 p29 ≤ 8)]
  rcases hz with hz | hz
  · rw [hz]; rfl
  · rw [hz]; cases z8 q0 q1 q2 q3 q4 q5 q6 q7 <;> rfl
theorem in_ne {x i : Int} (h : inB x i = true) : x ≠ 0 := by
  intro e; rw [e, in_mono 0] at h; cases h
/-- what both allow, their meet allows -/
theorem up (p0 p1 p2 p3 p4 p5 p6 p7 p8 p9 p10 p11 p12 p13 p14 p15 p16 p17 p18 p19 p20 p21 p22 p23 p24 p25 p26 p27 p28 p29 q0 q1 q2 q3 q4 q5 q6 q7 q8 q9 q10 q11 q12 f0 f1 f2 f3 f4 f5 f6 f7 f8 f9 sl fl : Int) (a : chk p0 p1 p2 p3 p4 p5 p6 p7 p8 p9 p10 p11 p12 p13 p14 = true) (b : chk p15 p16 p17 p18 p19 p20 p21 p22 p23 p24 p25 p26 p27 p28 p29 = true) (hs : RS p0 p1 p2 p3 p4 p5 p6 p7 p8 p9 p10 p11 p12 p13 p14 p15 p16 p17 p18 p19 p20 p21 p22 p23 p24 p25 p26 p27 p28 p29 q0 q1 q2 q3 q4 q5 q6 q7) (hl : RL p0 p1 p2 p3 p4 p5 p6 p7 p8 p9 p10 p11 p12 p13 p14 p15 p16 p17 p18 p19 p20 p21 p22 p23 p24 p25 p26 p27 p28 p29 q8 q9 q10 q11 q12) (h : all p0 p1 p2 p3 p4 p5 p6 p7 p8 p9 p10 p11 p12 p13 p14 f0 f1 f2 f3 f4 f5 f6 f7 f8 f9 sl fl = true) (k : all p15 p16 p17 p18 p19 p20 p21 p22 p23 p24 p25 p26 p27 p28 p29 f0 f1 f2 f3 f4 f5 f6 f7 f8 f9 sl fl = true) :
    chk q0 q1 q2 q3 q4 q5 q6 q7 q8 q9 q10 q11 q12 (imin p13 p28) (imin p14 p29) = true ∧ all q0 q1 q2 q3 q4 q5 q6 q7 q8 q9 q10 q11 q12 (imin p13 p28) (imin p14 p29) f0 f1 f2 f3 f4 f5 f6 f7 f8 f9 (imin p13 p28) (imin p14 p29) = true ∧ sl ≤ imin p13 p28 ∧ fl ≤ imin p14 p29 := by
  obtain ⟨r0, r1, r2, r3, r4, r5, r8, r9, r10⟩ := rng15 p0 p1 p2 p3 p4 p5 p6 p7 p8 p9 p10 p11 p12 p13 p14 a
  obtain ⟨t0, t1, t2, t3, t4, t5, t8, t9, t10⟩ := rng15 p15 p16 p17 p18 p19 p20 p21 p22 p23 p24 p25 p26 p27 p28 p29 b
  unfold all at h k
  simp only [Bool.and_eq_true] at h k
  obtain ⟨_, h2, h3, h4, h5⟩ := h
  obtain ⟨_, _, k3, k4, k5⟩ := k
  rw [span_t] at h3 h4 k3 k4
  have g1 := imin_ge p13 p28 sl (by omega) (by omega)
  have g2 := imin_ge p14 p29 fl (by omega) (by omega)
  have ho : okP f0 f1 f2 f3 f4 f5 f6 f7 f8 f9 := of_decide_eq_true h2
  have fin : (z8 q0 q1 q2 q3 q4 q5 q6 q7 = false ∨ z5 q8 q9 q10 q11 q12 = false) → (bif f0 == 1 then subA q0 q1 q2 q3 q4 q5 q6 q7 q8 q9 q10 q11 q12 (imin p13 p28) (imin p14 p29) f0 f1 f2 f3 f4 f5 f6 f7 f8 f9 (imin p13 p28) (imin p14 p29) else lapA q0 q1 q2 q3 q4 q5 q6 q7 q8 q9 q10 q11 q12 (imin p13 p28) (imin p14 p29) f0 f1 f2 f3 f4 f5 f6 f7 f8 f9 (imin p13 p28) (imin p14 p29)) = true → chk q0 q1 q2 q3 q4 q5 q6 q7 q8 q9 q10 q11 q12 (imin p13 p28) (imin p14 p29) = true ∧ all q0 q1 q2 q3 q4 q5 q6 q7 q8 q9 q10 q11 q12 (imin p13 p28) (imin p14 p29) f0 f1 f2 f3 f4 f5 f6 f7 f8 f9 (imin p13 p28) (imin p14 p29) = true ∧ sl ≤ imin p13 p28 ∧ fl ≤ imin p14 p29 := by
    intro hz hx
    have hc := chk_q p0 p1 p2 p3 p4 p5 p6 p7 p8 p9 p10 p11 p12 p13 p14 p15 p16 p17 p18 p19 p20 p21 p22 p23 p24 p25 p26 p27 p28 p29 q0 q1 q2 q3 q4 q5 q6 q7 q8 q9 q10 q11 q12 a b hs hl hz
    refine ⟨hc, ?_, g1, g2⟩
    unfold all
    rw [hc, h2, span_t.2 (by omega : (1 : Int) ≤ 1 ∧ 1 ≤ imin p13 p28 ∧ imin p13 p28 ≤ imin p13 p28), span_t.2 (by omega : (1 : Int) ≤ 1 ∧ 1 ≤ imin p14 p29 ∧ imin p14 p29 ≤ imin p14 p29), hx]; rfl
  rcases ho with ⟨s, _⟩ | s
  · obtain ⟨s0, s1, s1', s2, s3, s4, s5, s6, s7, s8, s9, s10, s11⟩ := s
    have e : (f0 == 1) = true := by rw [s0]; rfl
    rw [e] at h5 k5 fin
    have h5 : subA p0 p1 p2 p3 p4 p5 p6 p7 p8 p9 p10 p11 p12 p13 p14 f0 f1 f2 f3 f4 f5 f6 f7 f8 f9 sl fl = true := h5
    have k5 : subA p15 p16 p17 p18 p19 p20 p21 p22 p23 p24 p25 p26 p27 p28 p29 f0 f1 f2 f3 f4 f5 f6 f7 f8 f9 sl fl = true := k5
    unfold subA at h5 k5
    simp only [Bool.and_eq_true, span_t] at h5 k5
    obtain ⟨i0, i1, i2, i3, i4, i5, i6⟩ := h5
    obtain ⟨j0, j1, j2, j3, j4, j5, j6⟩ := k5
    have w0 : inB (kand .i64 p0 p15) f1 = true := by rw [in_and _ _ f1 r0 t0 (by omega), i0, j0]; rfl
    have w1 : inB (kand .i64 p1 p16) (f2 - 1) = true := by rw [in_and _ _ (f2 - 1) r1 t1 (by omega), i1, j1]; rfl
    have w2 : inB (kand .i64 p2 p17) (f3 / 8) = true := by rw [in_and _ _ (f3 / 8) r2 t2 (by omega), i2, j2]; rfl
    have w3 : inB (kand .i64 p3 p18) (f4 / 4 - 1) = true := by rw [in_and _ _ (f4 / 4 - 1) r3 t3 (by omega), i3, j3]; rfl
    have w4 : inB (kand .i64 p4 p19) f5 = true := by rw [in_and _ _ f5 r4 t4 (by omega), i4, j4]; rfl
    have w5 : inB (kand .i64 p5 p20) f6 = true := by rw [in_and _ _ f6 r5 t5 (by omega), i5, j5]; rfl
    have x1 := imax_le p6 p21 f7 (by omega) (by omega)
    have x2 := imin_ge p7 p22 f7 (by omega) (by omega)
    have hv : (bif (bif (bif (bif (bif (bif (kand .i64 p0 p15 == 0) then true else (kand .i64 p1 p16 == 0)) then true else (kand .i64 p2 p17 == 0)) then true else (kand .i64 p3 p18 == 0)) then true else (kand .i64 p4 p19 == 0)) then true else (kand .i64 p5 p20 == 0)) then true else decide ((imax p6 p21) > (imin p7 p22))) = false := (vs_iff p0 p1 p2 p3 p4 p5 p6 p7 p8 p9 p10 p11 p12 p13 p14 p15 p16 p17 p18 p19 p20 p21 p22 p23 p24 p25 p26 p27 p28 p29).2 ⟨in_ne w0, in_ne w1, in_ne w2, in_ne w3, in_ne w4, in_ne w5, by omega⟩
    rcases hs with ⟨hv', _⟩ | ⟨_, rfl, rfl, rfl, rfl, rfl, rfl, rfl, rfl⟩
    · rw [hv] at hv'; cases hv'
    · refine fin (.inl ?_) ?_
      · unfold z8; rw [beq_eq_false_iff_ne.2 (in_ne w0)]; rfl
      · show subA (kand .i64 p0 p15) (kand .i64 p1 p16) (kand .i64 p2 p17) (kand .i64 p3 p18) (kand .i64 p4 p19) (kand .i64 p5 p20) (imax p6 p21) (imin p7 p22) q8 q9 q10 q11 q12 (imin p13 p28) (imin p14 p29) f0 f1 f2 f3 f4 f5 f6 f7 f8 f9 (imin p13 p28) (imin p14 p29) = true
        unfold subA
        rw [w0, w1, w2, w3, w4, w5, span_t.2 ⟨Int.le_refl _, x1, x2⟩]; rfl
  · obtain ⟨s0, s1, s1', s2, s4, _⟩ := s
    have e : (f0 == 1) = false := by rw [s0]; rfl
    rw [e] at h5 k5 fin
    have h5 : lapA p0 p1 p2 p3 p4 p5 p6 p7 p8 p9 p10 p11 p12 p13 p14 f0 f1 f2 f3 f4 f5 f6 f7 f8 f9 sl fl = true := h5
    have k5 : lapA p15 p16 p17 p18 p19 p20 p21 p22 p23 p24 p25 p26 p27 p28 p29 f0 f1 f2 f3 f4 f5 f6 f7 f8 f9 sl fl = true := k5
    have hi : 0 ≤ idx f8 ∧ idx f8 ≤ 3 := by rcases s4 with q | q | q | q <;> rw [q] <;> decide
    unfold lapA at h5 k5
    simp only [Bool.and_eq_true, span_t] at h5 k5
    obtain ⟨i0, i1, i2, i6⟩ := h5
    obtain ⟨j0, j1, j2, j6⟩ := k5
    have w0 : inB (kand .i64 p8 p23) f1 = true := by rw [in_and _ _ f1 r8 t8 (by omega), i0, j0]; rfl
    have w1 : inB (kand .i64 p9 p24) (f2 - 1) = true := by rw [in_and _ _ (f2 - 1) r9 t9 (by omega), i1, j1]; rfl
    have w2 : inB (kand .i64 p10 p25) (idx f8) = true := by rw [in_and _ _ (idx f8) r10 t10 hi, i2, j2]; rfl
    have x1 := imax_le p11 p26 f9 (by omega) (by omega)
    have x2 := imin_ge p12 p27 f9 (by omega) (by omega)
    have hv : (bif (bif (bif (kand .i64 p8 p23 == 0) then true else (kand .i64 p9 p24 == 0)) then true else (kand .i64 p10 p25 == 0)) then true else decide ((imax p11 p26) > (imin p12 p27))) = false := (vl_iff p0 p1 p2 p3 p4 p5 p6 p7 p8 p9 p10 p11 p12 p13 p14 p15 p16 p17 p18 p19 p20 p21 p22 p23 p24 p25 p26 p27 p28 p29).2 ⟨in_ne w0, in_ne w1, in_ne w2, by omega⟩
    rcases hl with ⟨hv', _⟩ | ⟨_, rfl, rfl, rfl, rfl, rfl⟩
    · rw [hv] at hv'; cases hv'
    · refine fin (.inr ?_) ?_
      · unfold z5; rw [beq_eq_false_iff_ne.2 (in_ne w0)]; rfl
      · show lapA q0 q1 q2 q3 q4 q5 q6 q7 (kand .i64 p8 p23) (kand .i64 p9 p24) (kand .i64 p10 p25) (imax p11 p26) (imin p12 p27) (imin p13 p28) (imin p14 p29) f0 f1 f2 f3 f4 f5 f6 f7 f8 f9 (imin p13 p28) (imin p14 p29) = true
        unfold lapA
        rw [w0, w1, w2, span_t.2 ⟨Int.le_refl _, x1, x2⟩]; rfl
/-- what the meet allows, both allow -/
theorem down (p0 p1 p2 p3 p4 p5 p6 p7 p8 p9 p10 p11 p12 p13 p14 p15 p16 p17 p18 p19 p20 p21 p22 p23 p24 p25 p26 p27 p28 p29 q0 q1 q2 q3 q4 q5 q6 q7 q8 q9 q10 q11 q12 f0 f1 f2 f3 f4 f5 f6 f7 f8 f9 : Int) (a : chk p0 p1 p2 p3 p4 p5 p6 p7 p8 p9 p10 p11 p12 p13 p14 = true) (b : chk p15 p16 p17 p18 p19 p20 p21 p22 p23 p24 p25 p26 p27 p28 p29 = true) (m2 : ∀ f0 f1 f2 f3 f4 f5 f6 f7 f8 f9 l0 l1 : Int, subP f0 f1 f2 f3 f4 f5 f6 f7 f8 f9 → subA q0 q1 q2 q3 q4 q5 q6 q7 q8 q9 q10 q11 q12 (imin p13 p28) (imin p14 p29) f0 f1 f2 f3 f4 f5 f6 f7 f8 f9 l0 l1 = true → subA p0 p1 p2 p3 p4 p5 p6 p7 p8 p9 p10 p11 p12 p13 p14 f0 f1 f2 f3 f4 f5 f6 f7 f8 f9 l0 l1 = true ∧ subA p15 p16 p17 p18 p19 p20 p21 p22 p23 p24 p25 p26 p27 p28 p29 f0 f1 f2 f3 f4 f5 f6 f7 f8 f9 l0 l1 = true) (m3 : ∀ f0 f1 f2 f3 f4 f5 f6 f7 f8 f9 l0 l1 : Int, lapP f0 f1 f2 f3 f4 f5 f6 f7 f8 f9 → lapA q0 q1 q2 q3 q4 q5 q6 q7 q8 q9 q10 q11 q12 (imin p13 p28) (imin p14 p29) f0 f1 f2 f3 f4 f5 f6 f7 f8 f9 l0 l1 = true → lapA p0 p1 p2 p3 p4 p5 p6 p7 p8 p9 p10 p11 p12 p13 p14 f0 f1 f2 f3 f4 f5 f6 f7 f8 f9 l0 l1 = true ∧ lapA p15 p16 p17 p18 p19 p20 p21 p22 p23 p24 p25 p26 p27 p28 p29 f0 f1 f2 f3 f4 f5 f6 f7 f8 f9 l0 l1 = true)
    (hok : all q0 q1 q2 q3 q4 q5 q6 q7 q8 q9 q10 q11 q12 (imin p13 p28) (imin p14 p29) f0 f1 f2 f3 f4 f5 f6 f7 f8 f9 (imin p13 p28) (imin p14 p29) = true) : all p0 p1 p2 p3 p4 p5 p6 p7 p8 p9 p10 p11 p12 p13 p14 f0 f1 f2 f3 f4 f5 f6 f7 f8 f9 (imin p13 p28) (imin p14 p29) = true ∧ all p15 p16 p17 p18 p19 p20 p21 p22 p23 p24 p25 p26 p27 p28 p29 f0 f1 f2 f3 f4 f5 f6 f7 f8 f9 (imin p13 p28) (imin p14 p29) = true := by
  unfold all at hok ⊢
  simp only [Bool.and_eq_true] at hok
  obtain ⟨_, o1, o2, o3, o4⟩ := hok
  have o1' : okP f0 f1 f2 f3 f4 f5 f6 f7 f8 f9 := of_decide_eq_true o1
  rw [span_t] at o2 o3
  have n1 := imin_le p13 p28
  have n2 := imin_le p14 p29
  have r1 : spanB 1 (imin p13 p28) 1 p13 = true := span_t.2 ⟨by omega, by omega, n1.1⟩
  have r2 : spanB 1 (imin p14 p29) 1 p14 = true := span_t.2 ⟨by omega, by omega, n2.1⟩
  have r3 : spanB 1 (imin p13 p28) 1 p28 = true := span_t.2 ⟨by omega, by omega, n1.2⟩
  have r4 : spanB 1 (imin p14 p29) 1 p29 = true := span_t.2 ⟨by omega, by omega, n2.2⟩
  rcases o1' with ⟨hs, _⟩ | hl
  · have e1 : (f0 == 1) = true := by rw [hs.1]; rfl
    rw [e1] at o4 ⊢
    obtain ⟨v1, v2⟩ := m2 f0 f1 f2 f3 f4 f5 f6 f7 f8 f9 (imin p13 p28) (imin p14 p29) hs o4
    rw [a, b, o1, r1, r2, r3, r4]
    exact ⟨by rw [show (bif true then subA p0 p1 p2 p3 p4 p5 p6 p7 p8 p9 p10 p11 p12 p13 p14 f0 f1 f2 f3 f4 f5 f6 f7 f8 f9 (imin p13 p28) (imin p14 p29) else _) = _ from v1]; rfl, by rw [show (bif true then subA p15 p16 p17 p18 p19 p20 p21 p22 p23 p24 p25 p26 p27 p28 p29 f0 f1 f2 f3 f4 f5 f6 f7 f8 f9 (imin p13 p28) (imin p14 p29) else _) = _ from v2]; rfl⟩
  · have e1 : (f0 == 1) = false := by rw [hl.1]; rfl
    rw [e1] at o4 ⊢
    obtain ⟨v1, v2⟩ := m3 f0 f1 f2 f3 f4 f5 f6 f7 f8 f9 (imin p13 p28) (imin p14 p29) hl o4
    rw [a, b, o1, r1, r2, r3, r4]
    exact ⟨by rw [show (bif false then _ else lapA p0 p1 p2 p3 p4 p5 p6 p7 p8 p9 p10 p11 p12 p13 p14 f0 f1 f2 f3 f4 f5 f6 f7 f8 f9 (imin p13 p28) (imin p14 p29)) = _ from v1]; rfl, by rw [show (bif false then _ else lapA p15 p16 p17 p18 p19 p20 p21 p22 p23 p24 p25 p26 p27 p28 p29 f0 f1 f2 f3 f4 f5 f6 f7 f8 f9 (imin p13 p28) (imin p14 p29)) = _ from v2]; rfl⟩
theorem al24 : psalterylaw24_alive 300 = some true := by kernel_rfl
set_option maxHeartbeats 4000000 in
theorem best_w (s t : List Int) (hs : ∀ x ∈ s, 0 ≤ x ∧ x ≤ 255) (ht : ∀ x ∈ t, 0 ≤ x ∧ x ≤ 255) (f0 f1 f2 f3 f4 f5 f6 f7 f8 f9 sl fl : Int) : psalterylaw24_OfferBest 300 s t f0 f1 f2 f3 f4 f5 f6 f7 f8 f9 sl fl = some true := by
  rcases Bool.eq_false_or_eq_true (bif decide ((s.length : Int) > 1000) then true else decide ((t.length : Int) > 1000)) with c | c
  · exact bnd_eq al24 (bif_eq_f rfl (bif_eq_t c rfl))
  obtain ⟨p0, p1, p2, p3, p4, p5, p6, p7, p8, p9, p10, p11, p12, p13, p14, e, h1, h2, h3⟩ := parse_w s hs
  obtain ⟨p15, p16, p17, p18, p19, p20, p21, p22, p23, p24, p25, p26, p27, p28, p29, e', k1, k2, k3⟩ := parse_w t ht
  rcases h3 with rfl | rfl
  · rcases k3 with rfl | rfl
    · have a := h2 rfl
      have b := k2 rfl
      obtain ⟨q0, q1, q2, q3, q4, q5, q6, q7, q8, q9, q10, q11, q12, m1, m1', m2, m3, ms, ml⟩ := meet_x p0 p1 p2 p3 p4 p5 p6 p7 p8 p9 p10 p11 p12 p13 p14 p15 p16 p17 p18 p19 p20 p21 p22 p23 p24 p25 p26 p27 p28 p29 a b
      have bad : (all p0 p1 p2 p3 p4 p5 p6 p7 p8 p9 p10 p11 p12 p13 p14 f0 f1 f2 f3 f4 f5 f6 f7 f8 f9 sl fl && all p15 p16 p17 p18 p19 p20 p21 p22 p23 p24 p25 p26 p27 p28 p29 f0 f1 f2 f3 f4 f5 f6 f7 f8 f9 sl fl) = false → offer_Choose 300 q0 q1 q2 q3 q4 q5 q6 q7 q8 q9 q10 q11 q12 (imin p13 p28) (imin p14 p29) = some (0, 0, 0, 0, 0, 0, 0, 0, 0, 0, 0, 0, 240) → psalterylaw24_OfferBest 300 s t f0 f1 f2 f3 f4 f5 f6 f7 f8 f9 sl fl = some true := by
        intro hx hc
        refine bnd_eq al24 (bif_eq_f rfl (bif_eq_f c (bnd_eq h1 (bnd_eq k1 ?_))))
        refine bnd_eq (bnd_eq h1 (bif_eq_f rfl (bnd_eq k1 (bif_eq_f rfl (bnd_eq m1 (bnd_eq hc rfl)))))) (bnd_eq (bnd_eq k1 (bif_eq_f rfl (bnd_eq h1 (bif_eq_f rfl (bnd_eq m1' (bnd_eq hc rfl)))))) ?_)
        refine bif_eq_f rfl (bif_eq_f rfl ?_)
        refine bnd_eq (x := all p0 p1 p2 p3 p4 p5 p6 p7 p8 p9 p10 p11 p12 p13 p14 f0 f1 f2 f3 f4 f5 f6 f7 f8 f9 sl fl && all p15 p16 p17 p18 p19 p20 p21 p22 p23 p24 p25 p26 p27 p28 p29 f0 f1 f2 f3 f4 f5 f6 f7 f8 f9 sl fl) (and_step (all_w p0 p1 p2 p3 p4 p5 p6 p7 p8 p9 p10 p11 p12 p13 p14 f0 f1 f2 f3 f4 f5 f6 f7 f8 f9 sl fl) fun _ => bnd_eq (all_w p15 p16 p17 p18 p19 p20 p21 p22 p23 p24 p25 p26 p27 p28 p29 f0 f1 f2 f3 f4 f5 f6 f7 f8 f9 sl fl) rfl) ?_
        rw [hx]; rfl
      have hxx : (all p0 p1 p2 p3 p4 p5 p6 p7 p8 p9 p10 p11 p12 p13 p14 f0 f1 f2 f3 f4 f5 f6 f7 f8 f9 sl fl && all p15 p16 p17 p18 p19 p20 p21 p22 p23 p24 p25 p26 p27 p28 p29 f0 f1 f2 f3 f4 f5 f6 f7 f8 f9 sl fl) = true → all p0 p1 p2 p3 p4 p5 p6 p7 p8 p9 p10 p11 p12 p13 p14 f0 f1 f2 f3 f4 f5 f6 f7 f8 f9 sl fl = true ∧ all p15 p16 p17 p18 p19 p20 p21 p22 p23 p24 p25 p26 p27 p28 p29 f0 f1 f2 f3 f4 f5 f6 f7 f8 f9 sl fl = true := by
        intro h; simpa using h
      rcases Bool.eq_false_or_eq_true (chk q0 q1 q2 q3 q4 q5 q6 q7 q8 q9 q10 q11 q12 (imin p13 p28) (imin p14 p29)) with cq | cq
      · have hc := choose_w _ _ _ _ _ _ _ _ _ _ _ _ _ _ _ cq
        cases hf : (cands q0 q1 q2 q3 q4 q5 q6 q7 q8 q9 q10 q11 q12 (imin p13 p28) (imin p14 p29)).find? (okf q0 q1 q2 q3 q4 q5 q6 q7 q8 q9 q10 q11 q12 (imin p13 p28) (imin p14 p29) (imin p13 p28) (imin p14 p29)) with
        | none =>
          rw [hf] at hc
          rcases Bool.eq_false_or_eq_true (all p0 p1 p2 p3 p4 p5 p6 p7 p8 p9 p10 p11 p12 p13 p14 f0 f1 f2 f3 f4 f5 f6 f7 f8 f9 sl fl && all p15 p16 p17 p18 p19 p20 p21 p22 p23 p24 p25 p26 p27 p28 p29 f0 f1 f2 f3 f4 f5 f6 f7 f8 f9 sl fl) with hx | hx
          · obtain ⟨x1, x2⟩ := hxx hx
            obtain ⟨_, u2, _⟩ := up p0 p1 p2 p3 p4 p5 p6 p7 p8 p9 p10 p11 p12 p13 p14 p15 p16 p17 p18 p19 p20 p21 p22 p23 p24 p25 p26 p27 p28 p29 q0 q1 q2 q3 q4 q5 q6 q7 q8 q9 q10 q11 q12 f0 f1 f2 f3 f4 f5 f6 f7 f8 f9 sl fl a b ms ml x1 x2
            exact absurd u2 (List.find?_eq_none.1 hf (f0, f1, f2, f3, f4, f5, f6, f7, f8, f9) (mem_all q0 q1 q2 q3 q4 q5 q6 q7 q8 q9 q10 q11 q12 (imin p13 p28) (imin p14 p29) (f0, f1, f2, f3, f4, f5, f6, f7, f8, f9) u2))
          · exact bad hx hc
        | some g =>
          rw [hf] at hc
          obtain ⟨g0, g1, g2, g3, g4, g5, g6, g7, g8, g9⟩ := g
          have hc : offer_Choose 300 q0 q1 q2 q3 q4 q5 q6 q7 q8 q9 q10 q11 q12 (imin p13 p28) (imin p14 p29) = some (g0, g1, g2, g3, g4, g5, g6, g7, g8, g9, imin p13 p28, imin p14 p29, 0) := hc
          have hok : okf q0 q1 q2 q3 q4 q5 q6 q7 q8 q9 q10 q11 q12 (imin p13 p28) (imin p14 p29) (imin p13 p28) (imin p14 p29) (g0, g1, g2, g3, g4, g5, g6, g7, g8, g9) = true := List.find?_some hf
          have hok : all q0 q1 q2 q3 q4 q5 q6 q7 q8 q9 q10 q11 q12 (imin p13 p28) (imin p14 p29) g0 g1 g2 g3 g4 g5 g6 g7 g8 g9 (imin p13 p28) (imin p14 p29) = true := hok
          obtain ⟨o1, o2⟩ := down p0 p1 p2 p3 p4 p5 p6 p7 p8 p9 p10 p11 p12 p13 p14 p15 p16 p17 p18 p19 p20 p21 p22 p23 p24 p25 p26 p27 p28 p29 q0 q1 q2 q3 q4 q5 q6 q7 q8 q9 q10 q11 q12 g0 g1 g2 g3 g4 g5 g6 g7 g8 g9 a b m2 m3 hok
          refine bnd_eq al24 (bif_eq_f rfl (bif_eq_f c (bnd_eq h1 (bnd_eq k1 ?_))))
          refine bnd_eq (bnd_eq h1 (bif_eq_f rfl (bnd_eq k1 (bif_eq_f rfl (bnd_eq m1 (bnd_eq hc rfl)))))) (bnd_eq (bnd_eq k1 (bif_eq_f rfl (bnd_eq h1 (bif_eq_f rfl (bnd_eq m1' (bnd_eq hc rfl)))))) ?_)
          refine bif_eq_f (by simp) (bif_eq_f rfl ?_)
          refine bnd_eq (x := all p0 p1 p2 p3 p4 p5 p6 p7 p8 p9 p10 p11 p12 p13 p14 f0 f1 f2 f3 f4 f5 f6 f7 f8 f9 sl fl && all p15 p16 p17 p18 p19 p20 p21 p22 p23 p24 p25 p26 p27 p28 p29 f0 f1 f2 f3 f4 f5 f6 f7 f8 f9 sl fl) (and_step (all_w p0 p1 p2 p3 p4 p5 p6 p7 p8 p9 p10 p11 p12 p13 p14 f0 f1 f2 f3 f4 f5 f6 f7 f8 f9 sl fl) fun _ => bnd_eq (all_w p15 p16 p17 p18 p19 p20 p21 p22 p23 p24 p25 p26 p27 p28 p29 f0 f1 f2 f3 f4 f5 f6 f7 f8 f9 sl fl) rfl) ?_
          refine bif_eq_f rfl (bnd_eq (x := true) (bnd_eq ((all_w p0 p1 p2 p3 p4 p5 p6 p7 p8 p9 p10 p11 p12 p13 p14 g0 g1 g2 g3 g4 g5 g6 g7 g8 g9 _ _).trans (by rw [o1])) (bif_eq_t rfl (bnd_eq ((all_w p15 p16 p17 p18 p19 p20 p21 p22 p23 p24 p25 p26 p27 p28 p29 g0 g1 g2 g3 g4 g5 g6 g7 g8 g9 _ _).trans (by rw [o2])) (bif_eq_t rfl ?_)))) rfl)
          rcases Bool.eq_false_or_eq_true (all p0 p1 p2 p3 p4 p5 p6 p7 p8 p9 p10 p11 p12 p13 p14 f0 f1 f2 f3 f4 f5 f6 f7 f8 f9 sl fl && all p15 p16 p17 p18 p19 p20 p21 p22 p23 p24 p25 p26 p27 p28 p29 f0 f1 f2 f3 f4 f5 f6 f7 f8 f9 sl fl) with hx | hx
          · obtain ⟨x1, x2⟩ := hxx hx
            obtain ⟨_, u2, u3, u4⟩ := up p0 p1 p2 p3 p4 p5 p6 p7 p8 p9 p10 p11 p12 p13 p14 p15 p16 p17 p18 p19 p20 p21 p22 p23 p24 p25 p26 p27 p28 p29 q0 q1 q2 q3 q4 q5 q6 q7 q8 q9 q10 q11 q12 f0 f1 f2 f3 f4 f5 f6 f7 f8 f9 sl fl a b ms ml x1 x2
            have hb : bt (f0, f1, f2, f3, f4, f5, f6, f7, f8, f9) (g0, g1, g2, g3, g4, g5, g6, g7, g8, g9) = false := by
              have hfst := first_all (okf q0 q1 q2 q3 q4 q5 q6 q7 q8 q9 q10 q11 q12 (imin p13 p28) (imin p14 p29) (imin p13 p28) (imin p14 p29)) q0 q1 q2 q3 q4 q5 q6 q7 q8 q9 q10 q11 q12 (imin p13 p28) (imin p14 p29) (g0, g1, g2, g3, g4, g5, g6, g7, g8, g9) hf (f0, f1, f2, f3, f4, f5, f6, f7, f8, f9) (mem_all q0 q1 q2 q3 q4 q5 q6 q7 q8 q9 q10 q11 q12 (imin p13 p28) (imin p14 p29) (f0, f1, f2, f3, f4, f5, f6, f7, f8, f9) u2) u2
              rcases hfst with hg | hg
              · rw [hg]; exact lex_irr _
              · exact lex_asym _ _ hg
            refine bif_eq_f (by rw [hx]; rfl) (bnd_eq (better_w f0 f1 f2 f3 f4 f5 f6 f7 f8 f9 g0 g1 g2 g3 g4 g5 g6 g7 g8 g9) ?_)
            dsimp only
            rw [hb, decide_eq_true u3, decide_eq_true u4]; rfl
          · exact bif_eq_t (by rw [hx]; rfl) rfl
      · have hc := choose_no _ _ _ _ _ _ _ _ _ _ _ _ _ _ _ cq
        rcases Bool.eq_false_or_eq_true (all p0 p1 p2 p3 p4 p5 p6 p7 p8 p9 p10 p11 p12 p13 p14 f0 f1 f2 f3 f4 f5 f6 f7 f8 f9 sl fl && all p15 p16 p17 p18 p19 p20 p21 p22 p23 p24 p25 p26 p27 p28 p29 f0 f1 f2 f3 f4 f5 f6 f7 f8 f9 sl fl) with hx | hx
        · obtain ⟨x1, x2⟩ := hxx hx
          obtain ⟨u1, _⟩ := up p0 p1 p2 p3 p4 p5 p6 p7 p8 p9 p10 p11 p12 p13 p14 p15 p16 p17 p18 p19 p20 p21 p22 p23 p24 p25 p26 p27 p28 p29 q0 q1 q2 q3 q4 q5 q6 q7 q8 q9 q10 q11 q12 f0 f1 f2 f3 f4 f5 f6 f7 f8 f9 sl fl a b ms ml x1 x2
          rw [cq] at u1; cases u1
        · exact bad hx hc
    · exact bnd_eq al24 (bif_eq_f rfl (bif_eq_f c (bnd_eq h1 (bnd_eq k1 (bnd_eq (bnd_eq h1 (bif_eq_f rfl (bnd_eq k1 (bif_eq_t rfl rfl)))) (bnd_eq (bnd_eq k1 (bif_eq_t rfl rfl)) (bif_eq_f rfl (bif_eq_t rfl rfl))))))))
  · rcases k3 with rfl | rfl
    · exact bnd_eq al24 (bif_eq_f rfl (bif_eq_f c (bnd_eq h1 (bnd_eq k1 (bnd_eq (bnd_eq h1 (bif_eq_t rfl rfl)) (bnd_eq (bnd_eq k1 (bif_eq_f rfl (bnd_eq h1 (bif_eq_t rfl rfl)))) (bif_eq_f rfl (bif_eq_t rfl rfl))))))))
    · exact bnd_eq al24 (bif_eq_f rfl (bif_eq_f c (bnd_eq h1 (bnd_eq k1 (bnd_eq (bnd_eq h1 (bif_eq_t rfl rfl)) (bnd_eq (bnd_eq k1 (bif_eq_t rfl rfl)) (bif_eq_f rfl (bif_eq_t rfl rfl))))))))
end Go.Fo
