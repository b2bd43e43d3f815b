/- The reference's choice is the search's first: the law. -/
import Derived.Test.YtcaehpgdcjonfaaOcY
namespace Go.Fo
def G (p0 p1 p2 p3 p4 p5 p6 p7 p8 p9 p10 p11 p12 p13 p14 : Int) : Option Fm := (cands p0 p1 p2 p3 p4 p5 p6 p7 p8 p9 p10 p11 p12 p13 p14).find? (okf p0 p1 p2 p3 p4 p5 p6 p7 p8 p9 p10 p11 p12 p13 p14 p13 p14)
def zeroF : Fm := (0, 0, 0, 0, 0, 0, 0, 0, 0, 0)
def W (p0 p1 p2 p3 p4 p5 p6 p7 p8 p9 p10 p11 p12 p13 p14 : Int) (b : Fm) : Prop := b = zeroF ∨ ∃ g, G p0 p1 p2 p3 p4 p5 p6 p7 p8 p9 p10 p11 p12 p13 p14 = some g ∧ (b = g ∨ bt g b = true)
def Inv (p0 p1 p2 p3 p4 p5 p6 p7 p8 p9 p10 p11 p12 p13 p14 : Int) (π : Prop) (b : Fm) : Prop := W p0 p1 p2 p3 p4 p5 p6 p7 p8 p9 p10 p11 p12 p13 p14 b ∧ (π → G p0 p1 p2 p3 p4 p5 p6 p7 p8 p9 p10 p11 p12 p13 p14 = some b)
theorem k1 (p0 p1 p2 p3 p4 p5 p6 p7 p8 p9 p10 p11 p12 p13 p14 : Int) (f : Fm) (h : okf p0 p1 p2 p3 p4 p5 p6 p7 p8 p9 p10 p11 p12 p13 p14 p13 p14 f = true) (hm : f ∈ cands p0 p1 p2 p3 p4 p5 p6 p7 p8 p9 p10 p11 p12 p13 p14) : ∃ g, G p0 p1 p2 p3 p4 p5 p6 p7 p8 p9 p10 p11 p12 p13 p14 = some g ∧ (f = g ∨ bt g f = true) := by
  cases e : G p0 p1 p2 p3 p4 p5 p6 p7 p8 p9 p10 p11 p12 p13 p14 with
  | none => exact absurd h (List.find?_eq_none.1 e f hm)
  | some g =>
    refine ⟨g, rfl, first_all (okf p0 p1 p2 p3 p4 p5 p6 p7 p8 p9 p10 p11 p12 p13 p14 p13 p14) p0 p1 p2 p3 p4 p5 p6 p7 p8 p9 p10 p11 p12 p13 p14 g ?_ f ?_ h⟩
    · exact e
    · exact hm
def stp (p0 p1 p2 p3 p4 p5 p6 p7 p8 p9 p10 p11 p12 p13 p14 : Int) (b f : Fm) : Fm := bif okf p0 p1 p2 p3 p4 p5 p6 p7 p8 p9 p10 p11 p12 p13 p14 p13 p14 f && bt f b then f else b
theorem stp_inv (p0 p1 p2 p3 p4 p5 p6 p7 p8 p9 p10 p11 p12 p13 p14 : Int) (π : Prop) (b f : Fm) (hm : okf p0 p1 p2 p3 p4 p5 p6 p7 p8 p9 p10 p11 p12 p13 p14 p13 p14 f = true → f ∈ cands p0 p1 p2 p3 p4 p5 p6 p7 p8 p9 p10 p11 p12 p13 p14) (hc : f.1 ≥ 1) (h : Inv p0 p1 p2 p3 p4 p5 p6 p7 p8 p9 p10 p11 p12 p13 p14 π b) : Inv p0 p1 p2 p3 p4 p5 p6 p7 p8 p9 p10 p11 p12 p13 p14 (π ∨ G p0 p1 p2 p3 p4 p5 p6 p7 p8 p9 p10 p11 p12 p13 p14 = some f) (stp p0 p1 p2 p3 p4 p5 p6 p7 p8 p9 p10 p11 p12 p13 p14 b f) := by
  obtain ⟨hw, hp⟩ := h
  unfold stp
  rcases Bool.eq_false_or_eq_true (okf p0 p1 p2 p3 p4 p5 p6 p7 p8 p9 p10 p11 p12 p13 p14 p13 p14 f) with e | e
  · obtain ⟨g, hg, hfg⟩ := k1 p0 p1 p2 p3 p4 p5 p6 p7 p8 p9 p10 p11 p12 p13 p14 f e (hm e)
    rw [e]
    rcases Bool.eq_false_or_eq_true (bt f b) with e2 | e2
    · rw [e2]
      refine ⟨.inr ⟨g, hg, hfg⟩, ?_⟩
      rintro (hpi | hgf)
      · have hb := hp hpi
        rw [hg] at hb
        cases hb
        rcases hfg with rfl | hfg
        · unfold bt at e2; rw [lex_irr] at e2; cases e2
        · have := lex_asym _ _ hfg
          unfold bt at e2; rw [this] at e2; cases e2
      · exact hgf
    · rw [e2]
      refine ⟨hw, ?_⟩
      rintro (hpi | hgf)
      · exact hp hpi
      · rcases hw with rfl | ⟨g', hg', hb⟩
        · exfalso
          have : bt f zeroF = true := by
            unfold bt; rw [lexB_iff]; simp only [rk, lexP, zeroF]; omega
          rw [this] at e2; cases e2
        · rw [hgf] at hg'
          cases hg'
          rcases hb with rfl | hb
          · exact hgf
          · rw [hb] at e2; cases e2
  · rw [e]
    refine ⟨hw, ?_⟩
    rintro (hpi | hgf)
    · exact hp hpi
    · have := List.find?_some hgf
      rw [e] at this; cases this
theorem cand_w (p0 p1 p2 p3 p4 p5 p6 p7 p8 p9 p10 p11 p12 p13 p14 f0 f1 f2 f3 f4 f5 f6 f7 f8 f9 : Int) (b : Fm) : ((((psalteryref23_Allows 300 p0 p1 p2 p3 p4 p5 p6 p7 p8 p9 p10 p11 p12 p13 p14 f0 f1 f2 f3 f4 f5 f6 f7 f8 f9 p13 p14).bind fun r10008 =>
        bif r10008 then
          (psalteryref24_Better 300 f0 f1 f2 f3 f4 f5 f6 f7 f8 f9 b.1 b.2.1 b.2.2.1 b.2.2.2.1 b.2.2.2.2.1 b.2.2.2.2.2.1 b.2.2.2.2.2.2.1 b.2.2.2.2.2.2.2.1 b.2.2.2.2.2.2.2.2.1 b.2.2.2.2.2.2.2.2.2).bind fun r10009 =>
          some r10009
        else
          some false : Option (Bool)).bind fun x10007 =>
        bif x10007 then
          some (f0, f1, f2, f3, f4, f5, f6, f7, f8, f9)
        else
          some b : Option Fm)) = some (stp p0 p1 p2 p3 p4 p5 p6 p7 p8 p9 p10 p11 p12 p13 p14 b (f0, f1, f2, f3, f4, f5, f6, f7, f8, f9)) := by
  unfold stp
  have hA : psalteryref23_Allows 300 p0 p1 p2 p3 p4 p5 p6 p7 p8 p9 p10 p11 p12 p13 p14 f0 f1 f2 f3 f4 f5 f6 f7 f8 f9 p13 p14 = some (okf p0 p1 p2 p3 p4 p5 p6 p7 p8 p9 p10 p11 p12 p13 p14 p13 p14 (f0, f1, f2, f3, f4, f5, f6, f7, f8, f9)) := refall_w p0 p1 p2 p3 p4 p5 p6 p7 p8 p9 p10 p11 p12 p13 p14 f0 f1 f2 f3 f4 f5 f6 f7 f8 f9 p13 p14
  rcases Bool.eq_false_or_eq_true (okf p0 p1 p2 p3 p4 p5 p6 p7 p8 p9 p10 p11 p12 p13 p14 p13 p14 (f0, f1, f2, f3, f4, f5, f6, f7, f8, f9)) with e | e
  · refine bnd_eq (bnd_eq (hA.trans (by rw [e])) (bif_eq_t rfl (bnd_eq (better_w (f0, f1, f2, f3, f4, f5, f6, f7, f8, f9) b) rfl))) ?_
    rw [e]; cases bt (f0, f1, f2, f3, f4, f5, f6, f7, f8, f9) b <;> rfl
  · refine bnd_eq (bnd_eq (hA.trans (by rw [e])) (bif_eq_f rfl rfl)) ?_
    rw [e]; rfl
theorem mem_lap (p0 p1 p2 p3 p4 p5 p6 p7 p8 p9 p10 p11 p12 p13 p14 r ch j : Int) (hr : 0 ≤ r ∧ r ≤ 3) (hc : 1 ≤ ch ∧ ch ≤ 2) (hj : 0 ≤ j ∧ j ≤ 3) (h : okf p0 p1 p2 p3 p4 p5 p6 p7 p8 p9 p10 p11 p12 p13 p14 p13 p14 (2, r, ch, 0, 0, 0, 0, 0, lenI j, p12) = true) : ((2, r, ch, 0, 0, 0, 0, 0, lenI j, p12) : Fm) ∈ cands p0 p1 p2 p3 p4 p5 p6 p7 p8 p9 p10 p11 p12 p13 p14 := by
  rw [cands_eq]
  have h : all p0 p1 p2 p3 p4 p5 p6 p7 p8 p9 p10 p11 p12 p13 p14 2 r ch 0 0 0 0 0 (lenI j) p12 p13 p14 = true := h
  unfold all at h
  simp only [Bool.and_eq_true] at h
  obtain ⟨h1, _, _, _, h5⟩ := h
  have h5 : lapA p0 p1 p2 p3 p4 p5 p6 p7 p8 p9 p10 p11 p12 p13 p14 2 r ch 0 0 0 0 0 (lenI j) p12 p13 p14 = true := h5
  unfold lapA at h5
  simp only [Bool.and_eq_true, span_t] at h5
  obtain ⟨i0, _, _, i3⟩ := h5
  have hz : (!((p8 == 0) && ((p9 == 0) && ((p10 == 0) && ((p11 == 0) && ((p12 == 0))))))) = true := by
    rcases Bool.eq_false_or_eq_true ((p8 == 0) && ((p9 == 0) && ((p10 == 0) && ((p11 == 0) && ((p12 == 0)))))) with e | e
    · have e' := e
      simp only [Bool.and_eq_true, beq_iff_eq] at e'
      rw [e'.1, in_mono 0] at i0; cases i0
    · rw [e]; rfl
  refine dn_mem.2 ⟨2, by decide, by decide, dn_mem.2 ⟨ch, hc.1, hc.2, dn_mem.2 ⟨r, hr.1, hr.2, ?_⟩⟩⟩
  rw [hz]
  exact dn_mem.2 ⟨j, hj.1, hj.2, dn_mem.2 ⟨p12, i3.2.1, Int.le_refl _, List.mem_singleton.2 rfl⟩⟩
def sF (r ch bd bl q j n : Int) : Fm := (1, r, ch, bd, bl, q, j, n, 0, 0)
theorem sub_ok (p0 p1 p2 p3 p4 p5 p6 p7 p8 p9 p10 p11 p12 p13 p14 r ch bd bl q j n : Int) (h : okf p0 p1 p2 p3 p4 p5 p6 p7 p8 p9 p10 p11 p12 p13 p14 p13 p14 (sF r ch bd bl q j n) = true) : (subP 1 r ch bd bl q j n 0 0 ∧ bitsZ ch bd bl j n ≤ 4096) ∧ p6 ≤ n ∧ n ≤ p7 ∧ (!((p0 == 0) && ((p1 == 0) && ((p2 == 0) && ((p3 == 0) && ((p4 == 0) && ((p5 == 0) && ((p6 == 0) && ((p7 == 0)))))))))) = true ∧ (∀ z, p6 ≤ z → z ≤ p7 → (subP 1 r ch bd bl q j z 0 0 ∧ bitsZ ch bd bl j z ≤ 4096) → okf p0 p1 p2 p3 p4 p5 p6 p7 p8 p9 p10 p11 p12 p13 p14 p13 p14 (sF r ch bd bl q j z) = true) := by
  have h : all p0 p1 p2 p3 p4 p5 p6 p7 p8 p9 p10 p11 p12 p13 p14 1 r ch bd bl q j n 0 0 p13 p14 = true := h
  unfold all at h
  simp only [Bool.and_eq_true] at h
  obtain ⟨h1, h2, h3, h4, h5⟩ := h
  have h5 : subA p0 p1 p2 p3 p4 p5 p6 p7 p8 p9 p10 p11 p12 p13 p14 1 r ch bd bl q j n 0 0 p13 p14 = true := h5
  have h5' := h5
  unfold subA at h5
  simp only [Bool.and_eq_true, span_t] at h5
  obtain ⟨i0, i1, i2, i3, i4, i5, i6⟩ := h5
  have ho : okP 1 r ch bd bl q j n 0 0 := of_decide_eq_true h2
  have hz : (!((p0 == 0) && ((p1 == 0) && ((p2 == 0) && ((p3 == 0) && ((p4 == 0) && ((p5 == 0) && ((p6 == 0) && ((p7 == 0)))))))))) = true := by
    rcases Bool.eq_false_or_eq_true ((p0 == 0) && ((p1 == 0) && ((p2 == 0) && ((p3 == 0) && ((p4 == 0) && ((p5 == 0) && ((p6 == 0) && ((p7 == 0))))))))) with e | e
    · have e' := e
      simp only [Bool.and_eq_true, beq_iff_eq] at e'
      rw [e'.1, in_mono 0] at i0; cases i0
    · rw [e]; rfl
  refine ⟨?_, i6.2.1, i6.2.2, hz, fun z z1 z2 z3 => ?_⟩
  · rcases ho with ho | ho
    · exact ho
    · cases ho.1
  · show all p0 p1 p2 p3 p4 p5 p6 p7 p8 p9 p10 p11 p12 p13 p14 1 r ch bd bl q j z 0 0 p13 p14 = true
    unfold all
    rw [h1, h3, h4, show okF 1 r ch bd bl q j z 0 0 = true from decide_eq_true (.inl z3)]
    show subA p0 p1 p2 p3 p4 p5 p6 p7 p8 p9 p10 p11 p12 p13 p14 1 r ch bd bl q j z 0 0 p13 p14 = true
    unfold subA
    rw [i0, i1, i2, i3, i4, i5, span_t.2 ⟨Int.le_refl _, z1, z2⟩]; rfl
theorem mem_sub (p0 p1 p2 p3 p4 p5 p6 p7 p8 p9 p10 p11 p12 p13 p14 r ch i k q j n : Int) (hr : 0 ≤ r ∧ r ≤ 3) (hc : 1 ≤ ch ∧ ch ≤ 2) (hi : 0 ≤ i ∧ i ≤ 1) (hk : 1 ≤ k ∧ k ≤ 4) (hq : 0 ≤ q ∧ q ≤ 1) (hj : 0 ≤ j ∧ j ≤ 1) (h : okf p0 p1 p2 p3 p4 p5 p6 p7 p8 p9 p10 p11 p12 p13 p14 p13 p14 (sF r ch (4 + 4 * i) (4 * k) q j n) = true) : sF r ch (4 + 4 * i) (4 * k) q j n ∈ cands p0 p1 p2 p3 p4 p5 p6 p7 p8 p9 p10 p11 p12 p13 p14 := by
  obtain ⟨_, n1, n2, hz, _⟩ := sub_ok _ _ _ _ _ _ _ _ _ _ _ _ _ _ _ _ _ _ _ _ _ _ h
  rw [cands_eq]
  refine dn_mem.2 ⟨1, by decide, by decide, dn_mem.2 ⟨ch, hc.1, hc.2, dn_mem.2 ⟨r, hr.1, hr.2, ?_⟩⟩⟩
  rw [hz]
  refine dn_mem.2 ⟨i, hi.1, hi.2, dn_mem.2 ⟨k, hk.1, hk.2, dn_mem.2 ⟨j, hj.1, hj.2, dn_mem.2 ⟨q, hq.1, hq.2, dn_mem.2 ⟨n, n1, n2, ?_⟩⟩⟩⟩⟩
  rw [kw4 i hi, kw4' k hk]
  exact List.mem_singleton.2 rfl
/-- the pool that the reference comes to -/
def Good (r ch bd bl q j z : Int) : Prop := subP 1 r ch bd bl q j z 0 0 ∧ bitsZ ch bd bl j z ≤ 4096
def Pool (p6 p7 r ch bd bl q j p : Int) : Prop := p ≤ p7 ∧ (p < p6 ∨ p ≤ 0 ∨ Good r ch bd bl q j p) ∧ ∀ z, p < z → z ≤ p7 → z ≥ p6 ∧ z > 0 ∧ ¬ Good r ch bd bl q j z
theorem pool_one {p6 p7 r ch bd bl q j p p' : Int} (h : Pool p6 p7 r ch bd bl q j p) (h' : Pool p6 p7 r ch bd bl q j p') : p = p' := by
  obtain ⟨a1, a2, a3⟩ := h
  obtain ⟨b1, b2, b3⟩ := h'
  rcases Int.lt_trichotomy p p' with c | c | c
  · obtain ⟨x1, x2, x3⟩ := a3 p' c b1
    rcases b2 with b2 | b2 | b2
    · omega
    · omega
    · exact absurd b2 x3
  · exact c
  · obtain ⟨x1, x2, x3⟩ := b3 p c a1
    rcases a2 with a2 | a2 | a2
    · omega
    · omega
    · exact absurd a2 x3
theorem pool_l (ch r e : Int) (p0 p1 p2 p3 p4 p5 p6 p7 p8 p9 p10 p11 p12 p13 p14 b0 b1 b2 b3 b4 b5 b6 b7 b8 b9 bd bl q j : Int) (hlo : 0 ≤ p6) (k : Nat) : ∀ (m : Nat) (x : Int), k < m → x - p6 < k → x ≤ 1000 → -10 ≤ x → ∃ p, psalteryref24_Choose.l3 300 ch r e p0 p1 p2 p3 p4 p5 p6 p7 p8 p9 p10 p11 p12 p13 p14 b0 b1 b2 b3 b4 b5 b6 b7 b8 b9 bd bl q j m x = some p ∧ p ≤ x ∧ (p < p6 ∨ p ≤ 0 ∨ Good r ch bd bl q j p) ∧ ∀ z, p < z → z ≤ x → z ≥ p6 ∧ z > 0 ∧ ¬ Good r ch bd bl q j z := by
  induction k with
  | zero =>
    intro m x h h1 h2 h3
    obtain ⟨m, rfl⟩ : ∃ q, m = q + 1 := ⟨m - 1, by omega⟩
    refine ⟨x, ?_, Int.le_refl _, .inl (by omega), fun z z1 z2 => by omega⟩
    show psalteryref24_Choose.r3 300 ch r e p0 p1 p2 p3 p4 p5 p6 p7 p8 p9 p10 p11 p12 p13 p14 b0 b1 b2 b3 b4 b5 b6 b7 b8 b9 bd bl q j (psalteryref24_Choose.l3 300 ch r e p0 p1 p2 p3 p4 p5 p6 p7 p8 p9 p10 p11 p12 p13 p14 b0 b1 b2 b3 b4 b5 b6 b7 b8 b9 bd bl q j m) x = _
    refine bnd_eq (x := false) (bif_eq_f ?_ rfl) (bif_eq_f rfl rfl)
    rw [decide_eq_false (by omega : ¬ x ≥ p6)]; rfl
  | succ k ih =>
    intro m x h h1 h2 h3
    obtain ⟨m, rfl⟩ : ∃ q, m = q + 1 := ⟨m - 1, by omega⟩
    by_cases hx : x ≥ p6 ∧ x > 0
    · by_cases hg : Good r ch bd bl q j x
      · refine ⟨x, ?_, Int.le_refl _, .inr (.inr hg), fun z z1 z2 => by omega⟩
        show psalteryref24_Choose.r3 300 ch r e p0 p1 p2 p3 p4 p5 p6 p7 p8 p9 p10 p11 p12 p13 p14 b0 b1 b2 b3 b4 b5 b6 b7 b8 b9 bd bl q j (psalteryref24_Choose.l3 300 ch r e p0 p1 p2 p3 p4 p5 p6 p7 p8 p9 p10 p11 p12 p13 p14 b0 b1 b2 b3 b4 b5 b6 b7 b8 b9 bd bl q j m) x = _
        refine bnd_eq (x := false) (bif_eq_t (by rw [decide_eq_true hx.1, decide_eq_true hx.2]; rfl) (bnd_eq (refsub_w 1 r ch bd bl q j x 0 0) ?_)) (bif_eq_f rfl rfl)
        rw [decide_eq_true (show subP 1 r ch bd bl q j x 0 0 ∧ bitsZ ch bd bl j x ≤ 4096 from hg)]; rfl
      · obtain ⟨p, g1, g2, g3, g4⟩ := ih m (x - 1) (by omega) (by omega) (by omega) (by omega)
        refine ⟨p, ?_, by omega, g3, fun z z1 z2 => ?_⟩
        · show psalteryref24_Choose.r3 300 ch r e p0 p1 p2 p3 p4 p5 p6 p7 p8 p9 p10 p11 p12 p13 p14 b0 b1 b2 b3 b4 b5 b6 b7 b8 b9 bd bl q j (psalteryref24_Choose.l3 300 ch r e p0 p1 p2 p3 p4 p5 p6 p7 p8 p9 p10 p11 p12 p13 p14 b0 b1 b2 b3 b4 b5 b6 b7 b8 b9 bd bl q j m) x = _
          refine bnd_eq (x := true) (bif_eq_t (by rw [decide_eq_true hx.1, decide_eq_true hx.2]; rfl) (bnd_eq (refsub_w 1 r ch bd bl q j x 0 0) ?_)) (bif_eq_t rfl ?_)
          · rw [decide_eq_false (show ¬ (subP 1 r ch bd bl q j x 0 0 ∧ bitsZ ch bd bl j x ≤ 4096) from hg)]; rfl
          · rw [kw_i64 (by omega) (by omega)]; exact g1
        · by_cases hz : z = x
          · subst hz; exact ⟨hx.1, hx.2, hg⟩
          · exact g4 z z1 (by omega)
    · refine ⟨x, ?_, Int.le_refl _, by omega, fun z z1 z2 => by omega⟩
      show psalteryref24_Choose.r3 300 ch r e p0 p1 p2 p3 p4 p5 p6 p7 p8 p9 p10 p11 p12 p13 p14 b0 b1 b2 b3 b4 b5 b6 b7 b8 b9 bd bl q j (psalteryref24_Choose.l3 300 ch r e p0 p1 p2 p3 p4 p5 p6 p7 p8 p9 p10 p11 p12 p13 p14 b0 b1 b2 b3 b4 b5 b6 b7 b8 b9 bd bl q j m) x = _
      refine bnd_eq (x := false) (bif_eq_f ?_ rfl) (bif_eq_f rfl rfl)
      by_cases h4 : x ≥ p6
      · rw [decide_eq_true h4, decide_eq_false (by omega : ¬ x > 0)]; rfl
      · rw [decide_eq_false h4]; rfl
def F4 (p12 ch r j : Int) : Fm := (2, r, ch, 0, 0, 0, 0, 0, lenI j, p12)
theorem lap_loop (p0 p1 p2 p3 p4 p5 p6 p7 p8 p9 p10 p11 p12 p13 p14 ch r : Int) (hc : 1 ≤ ch ∧ ch ≤ 2) (hr : 0 ≤ r ∧ r ≤ 3) (k : Nat) : ∀ (m : Nat) (i b0 b1 b2 b3 b4 b5 b6 b7 b8 b9 : Int) (π : Prop), k < m → 0 ≤ i → i + k = 4 → Inv p0 p1 p2 p3 p4 p5 p6 p7 p8 p9 p10 p11 p12 p13 p14 π (b0, b1, b2, b3, b4, b5, b6, b7, b8, b9) → ∃ b : Fm, psalteryref24_Choose.l4 300 ch r p0 p1 p2 p3 p4 p5 p6 p7 p8 p9 p10 p11 p12 p13 p14 m i b0 b1 b2 b3 b4 b5 b6 b7 b8 b9 = some b ∧ Inv p0 p1 p2 p3 p4 p5 p6 p7 p8 p9 p10 p11 p12 p13 p14 (π ∨ ∃ j, i ≤ j ∧ j < 4 ∧ G p0 p1 p2 p3 p4 p5 p6 p7 p8 p9 p10 p11 p12 p13 p14 = some (F4 p12 ch r j)) b := by
  induction k with
  | zero =>
    intro m i b0 b1 b2 b3 b4 b5 b6 b7 b8 b9 π h h0 h1 hI
    obtain ⟨m, rfl⟩ : ∃ q, m = q + 1 := ⟨m - 1, by omega⟩
    refine ⟨(b0, b1, b2, b3, b4, b5, b6, b7, b8, b9), ?_, hI.1, ?_⟩
    · show psalteryref24_Choose.r4 300 ch r p0 p1 p2 p3 p4 p5 p6 p7 p8 p9 p10 p11 p12 p13 p14 (psalteryref24_Choose.l4 300 ch r p0 p1 p2 p3 p4 p5 p6 p7 p8 p9 p10 p11 p12 p13 p14 m) i b0 b1 b2 b3 b4 b5 b6 b7 b8 b9 = _
      exact bif_eq_f (decide_eq_false (by omega)) rfl
    · rintro (h | ⟨j, j1, j2, _⟩)
      · exact hI.2 h
      · omega
  | succ k ih =>
    intro m i b0 b1 b2 b3 b4 b5 b6 b7 b8 b9 π h h0 h1 hI
    obtain ⟨m, rfl⟩ : ∃ q, m = q + 1 := ⟨m - 1, by omega⟩
    have hs := stp_inv p0 p1 p2 p3 p4 p5 p6 p7 p8 p9 p10 p11 p12 p13 p14 π (b0, b1, b2, b3, b4, b5, b6, b7, b8, b9) (F4 p12 ch r i) (mem_lap p0 p1 p2 p3 p4 p5 p6 p7 p8 p9 p10 p11 p12 p13 p14 r ch i hr hc ⟨h0, by omega⟩) (by show (2 : Int) ≥ 1; decide) hI
    obtain ⟨b, hb⟩ : ∃ b : Fm, stp p0 p1 p2 p3 p4 p5 p6 p7 p8 p9 p10 p11 p12 p13 p14 (b0, b1, b2, b3, b4, b5, b6, b7, b8, b9) (F4 p12 ch r i) = b := ⟨_, rfl⟩
    rw [hb] at hs
    obtain ⟨d0, d1, d2, d3, d4, d5, d6, d7, d8, d9⟩ := b
    obtain ⟨b', g1, g2⟩ := ih m (i + 1) d0 d1 d2 d3 d4 d5 d6 d7 d8 d9 _ (by omega) (by omega) (by omega) hs
    refine ⟨b', ?_, g2.1, ?_⟩
    · show psalteryref24_Choose.r4 300 ch r p0 p1 p2 p3 p4 p5 p6 p7 p8 p9 p10 p11 p12 p13 p14 (psalteryref24_Choose.l4 300 ch r p0 p1 p2 p3 p4 p5 p6 p7 p8 p9 p10 p11 p12 p13 p14 m) i b0 b1 b2 b3 b4 b5 b6 b7 b8 b9 = _
      refine bif_eq_t (decide_eq_true (by omega)) (bnd_eq (x := (d0, d1, d2, d3, d4, d5, d6, d7, d8, d9)) (gd_eq ⟨h0, by simp; omega⟩ (gd_eq (by simp; omega) ((cand_w p0 p1 p2 p3 p4 p5 p6 p7 p8 p9 p10 p11 p12 p13 p14 2 r ch 0 0 0 0 0 (lenI i) p12 (b0, b1, b2, b3, b4, b5, b6, b7, b8, b9)).trans (congrArg some hb)))) ?_)
      dsimp only
      rw [kw_i64 (by omega) (by omega)]
      exact g1
    · rintro (h | ⟨j, j1, j2, j3⟩)
      · exact g2.2 (.inl (.inl h))
      · by_cases hj : j = i
        · subst hj; exact g2.2 (.inl (.inr j3))
        · exact g2.2 (.inr ⟨j, by omega, j2, j3⟩)
def F2 (r ch n p : Int) : Fm := sF r ch (4 + 4 * (n % 2)) (4 * (n / 2 % 4 + 1)) (n / 16) (n / 8 % 2) p
theorem nums2 (n : Int) (h : 0 ≤ n ∧ n < 32) : kwrap .i64 (4 + kwrap .i64 (Int.tmod n 2 * 4)) = 4 + 4 * (n % 2) ∧ kwrap .i64 (4 + kwrap .i64 (Int.tmod (kwrap .i64 (Int.tdiv n 2)) 4 * 4)) = 4 * (n / 2 % 4 + 1) ∧ Int.tmod (kwrap .i64 (Int.tdiv n 8)) 2 = n / 8 % 2 ∧ kwrap .i64 (Int.tdiv n 16) = n / 16 := by
  have e1 : kwrap .i64 (Int.tdiv n 2) = n / 2 := by rw [Int.tdiv_eq_ediv_of_nonneg h.1, kw_i64 (by omega) (by omega)]
  have e2 : kwrap .i64 (Int.tdiv n 8) = n / 8 := by rw [Int.tdiv_eq_ediv_of_nonneg h.1, kw_i64 (by omega) (by omega)]
  have e3 : kwrap .i64 (Int.tdiv n 16) = n / 16 := by rw [Int.tdiv_eq_ediv_of_nonneg h.1, kw_i64 (by omega) (by omega)]
  rw [e1, e2, e3, Int.tmod_eq_emod_of_nonneg h.1, Int.tmod_eq_emod_of_nonneg (by omega), Int.tmod_eq_emod_of_nonneg (by omega), kw_i64 (x := n % 2 * 4) (by omega) (by omega), kw_i64 (x := n / 2 % 4 * 4) (by omega) (by omega), kw_i64 (x := 4 + n % 2 * 4) (by omega) (by omega), kw_i64 (x := 4 + n / 2 % 4 * 4) (by omega) (by omega)]
  omega
theorem sub_loop (p0 p1 p2 p3 p4 p5 p6 p7 p8 p9 p10 p11 p12 p13 p14 ch r : Int) (hB : 0 ≤ p6 ∧ -10 ≤ p7 ∧ p7 ≤ 250 ∧ p7 - p6 ≤ 250) (hc : 1 ≤ ch ∧ ch ≤ 2) (hr : 0 ≤ r ∧ r ≤ 3) (k : Nat) : ∀ (m : Nat) (i b0 b1 b2 b3 b4 b5 b6 b7 b8 b9 : Int) (π : Prop), k < m → 0 ≤ i → i + k = 32 → Inv p0 p1 p2 p3 p4 p5 p6 p7 p8 p9 p10 p11 p12 p13 p14 π (b0, b1, b2, b3, b4, b5, b6, b7, b8, b9) → ∃ b : Fm, psalteryref24_Choose.l2 300 ch r p0 p1 p2 p3 p4 p5 p6 p7 p8 p9 p10 p11 p12 p13 p14 m i b0 b1 b2 b3 b4 b5 b6 b7 b8 b9 = some b ∧ Inv p0 p1 p2 p3 p4 p5 p6 p7 p8 p9 p10 p11 p12 p13 p14 (π ∨ ∃ n p, i ≤ n ∧ n < 32 ∧ Pool p6 p7 r ch (4 + 4 * (n % 2)) (4 * (n / 2 % 4 + 1)) (n / 16) (n / 8 % 2) p ∧ G p0 p1 p2 p3 p4 p5 p6 p7 p8 p9 p10 p11 p12 p13 p14 = some (F2 r ch n p)) b := by
  induction k with
  | zero =>
    intro m i b0 b1 b2 b3 b4 b5 b6 b7 b8 b9 π h h0 h1 hI
    obtain ⟨m, rfl⟩ : ∃ q, m = q + 1 := ⟨m - 1, by omega⟩
    refine ⟨(b0, b1, b2, b3, b4, b5, b6, b7, b8, b9), ?_, hI.1, ?_⟩
    · show psalteryref24_Choose.r2 300 ch r p0 p1 p2 p3 p4 p5 p6 p7 p8 p9 p10 p11 p12 p13 p14 (psalteryref24_Choose.l2 300 ch r p0 p1 p2 p3 p4 p5 p6 p7 p8 p9 p10 p11 p12 p13 p14 m) i b0 b1 b2 b3 b4 b5 b6 b7 b8 b9 = _
      exact bif_eq_f (decide_eq_false (by omega)) rfl
    · rintro (h | ⟨n, p, j1, j2, _⟩)
      · exact hI.2 h
      · omega
  | succ k ih =>
    intro m i b0 b1 b2 b3 b4 b5 b6 b7 b8 b9 π h h0 h1 hI
    obtain ⟨m, rfl⟩ : ∃ q, m = q + 1 := ⟨m - 1, by omega⟩
    obtain ⟨n1, n2, n3, n4⟩ := nums2 i ⟨h0, by omega⟩
    obtain ⟨p, pl1, pl2, pl3, pl4⟩ := pool_l ch r i p0 p1 p2 p3 p4 p5 p6 p7 p8 p9 p10 p11 p12 p13 p14 b0 b1 b2 b3 b4 b5 b6 b7 b8 b9 (4 + 4 * (i % 2)) (4 * (i / 2 % 4 + 1)) (i / 16) (i / 8 % 2) hB.1 299 300 p7 (by omega) (by omega) (by omega) (by omega)
    have hP : Pool p6 p7 r ch (4 + 4 * (i % 2)) (4 * (i / 2 % 4 + 1)) (i / 16) (i / 8 % 2) p := ⟨pl2, pl3, pl4⟩
    have hs := stp_inv p0 p1 p2 p3 p4 p5 p6 p7 p8 p9 p10 p11 p12 p13 p14 π (b0, b1, b2, b3, b4, b5, b6, b7, b8, b9) (F2 r ch i p) (mem_sub p0 p1 p2 p3 p4 p5 p6 p7 p8 p9 p10 p11 p12 p13 p14 r ch (i % 2) (i / 2 % 4 + 1) (i / 16) (i / 8 % 2) p hr hc (by omega) (by omega) (by omega) (by omega)) (by show (1 : Int) ≥ 1; decide) hI
    obtain ⟨b, hb⟩ : ∃ b : Fm, stp p0 p1 p2 p3 p4 p5 p6 p7 p8 p9 p10 p11 p12 p13 p14 (b0, b1, b2, b3, b4, b5, b6, b7, b8, b9) (F2 r ch i p) = b := ⟨_, rfl⟩
    rw [hb] at hs
    obtain ⟨d0, d1, d2, d3, d4, d5, d6, d7, d8, d9⟩ := b
    obtain ⟨b', g1, g2⟩ := ih m (i + 1) d0 d1 d2 d3 d4 d5 d6 d7 d8 d9 _ (by omega) (by omega) (by omega) hs
    refine ⟨b', ?_, g2.1, ?_⟩
    · show psalteryref24_Choose.r2 300 ch r p0 p1 p2 p3 p4 p5 p6 p7 p8 p9 p10 p11 p12 p13 p14 (psalteryref24_Choose.l2 300 ch r p0 p1 p2 p3 p4 p5 p6 p7 p8 p9 p10 p11 p12 p13 p14 m) i b0 b1 b2 b3 b4 b5 b6 b7 b8 b9 = _
      unfold psalteryref24_Choose.r2
      dsimp only
      rw [n1, n2, n3, n4]
      refine bif_eq_t (decide_eq_true (by omega)) (bnd_eq (x := (d0, d1, d2, d3, d4, d5, d6, d7, d8, d9)) (bnd_eq pl1 ((cand_w p0 p1 p2 p3 p4 p5 p6 p7 p8 p9 p10 p11 p12 p13 p14 1 r ch (4 + 4 * (i % 2)) (4 * (i / 2 % 4 + 1)) (i / 16) (i / 8 % 2) p 0 0 (b0, b1, b2, b3, b4, b5, b6, b7, b8, b9)).trans (congrArg some hb))) ?_)
      dsimp only
      rw [kw_i64 (by omega) (by omega)]
      exact g1
    · rintro (h | ⟨n, p', j1, j2, j3, j4⟩)
      · exact g2.2 (.inl (.inl h))
      · by_cases hj : n = i
        · subst hj
          have := pool_one hP j3
          subst this
          exact g2.2 (.inl (.inr j4))
        · exact g2.2 (.inr ⟨n, p', by omega, j2, j3, j4⟩)
def Here (p0 p1 p2 p3 p4 p5 p6 p7 p8 p9 p10 p11 p12 p13 p14 ch r : Int) : Prop := (∃ j, 0 ≤ j ∧ j < 4 ∧ G p0 p1 p2 p3 p4 p5 p6 p7 p8 p9 p10 p11 p12 p13 p14 = some (F4 p12 ch r j)) ∨ ∃ n p, 0 ≤ n ∧ n < 32 ∧ Pool p6 p7 r ch (4 + 4 * (n % 2)) (4 * (n / 2 % 4 + 1)) (n / 16) (n / 8 % 2) p ∧ G p0 p1 p2 p3 p4 p5 p6 p7 p8 p9 p10 p11 p12 p13 p14 = some (F2 r ch n p)
theorem rate_loop (p0 p1 p2 p3 p4 p5 p6 p7 p8 p9 p10 p11 p12 p13 p14 ch : Int) (hB : 0 ≤ p6 ∧ -10 ≤ p7 ∧ p7 ≤ 250 ∧ p7 - p6 ≤ 250) (hc : 1 ≤ ch ∧ ch ≤ 2) (k : Nat) : ∀ (m : Nat) (i b0 b1 b2 b3 b4 b5 b6 b7 b8 b9 : Int) (π : Prop), k < m → 0 ≤ i → i + k = 4 → Inv p0 p1 p2 p3 p4 p5 p6 p7 p8 p9 p10 p11 p12 p13 p14 π (b0, b1, b2, b3, b4, b5, b6, b7, b8, b9) → ∃ b : Fm, psalteryref24_Choose.l1 300 ch p0 p1 p2 p3 p4 p5 p6 p7 p8 p9 p10 p11 p12 p13 p14 m i b0 b1 b2 b3 b4 b5 b6 b7 b8 b9 = some b ∧ Inv p0 p1 p2 p3 p4 p5 p6 p7 p8 p9 p10 p11 p12 p13 p14 (π ∨ ∃ r, i ≤ r ∧ r < 4 ∧ Here p0 p1 p2 p3 p4 p5 p6 p7 p8 p9 p10 p11 p12 p13 p14 ch r) b := by
  induction k with
  | zero =>
    intro m i b0 b1 b2 b3 b4 b5 b6 b7 b8 b9 π h h0 h1 hI
    obtain ⟨m, rfl⟩ : ∃ q, m = q + 1 := ⟨m - 1, by omega⟩
    refine ⟨(b0, b1, b2, b3, b4, b5, b6, b7, b8, b9), ?_, hI.1, ?_⟩
    · show psalteryref24_Choose.r1 300 ch p0 p1 p2 p3 p4 p5 p6 p7 p8 p9 p10 p11 p12 p13 p14 (psalteryref24_Choose.l1 300 ch p0 p1 p2 p3 p4 p5 p6 p7 p8 p9 p10 p11 p12 p13 p14 m) i b0 b1 b2 b3 b4 b5 b6 b7 b8 b9 = _
      exact bif_eq_f (decide_eq_false (by omega)) rfl
    · rintro (h | ⟨j, j1, j2, _⟩)
      · exact hI.2 h
      · omega
  | succ k ih =>
    intro m i b0 b1 b2 b3 b4 b5 b6 b7 b8 b9 π h h0 h1 hI
    obtain ⟨m, rfl⟩ : ∃ q, m = q + 1 := ⟨m - 1, by omega⟩
    obtain ⟨⟨d0, d1, d2, d3, d4, d5, d6, d7, d8, d9⟩, u1, u2⟩ := lap_loop p0 p1 p2 p3 p4 p5 p6 p7 p8 p9 p10 p11 p12 p13 p14 ch i hc ⟨h0, by omega⟩ 4 300 0 b0 b1 b2 b3 b4 b5 b6 b7 b8 b9 π (by decide) (by decide) (by decide) hI
    obtain ⟨⟨e0, e1, e2, e3, e4, e5, e6, e7, e8, e9⟩, v1, v2⟩ := sub_loop p0 p1 p2 p3 p4 p5 p6 p7 p8 p9 p10 p11 p12 p13 p14 ch i hB hc ⟨h0, by omega⟩ 32 300 0 d0 d1 d2 d3 d4 d5 d6 d7 d8 d9 _ (by decide) (by decide) (by decide) u2
    obtain ⟨b', g1, g2⟩ := ih m (i + 1) e0 e1 e2 e3 e4 e5 e6 e7 e8 e9 _ (by omega) (by omega) (by omega) v2
    refine ⟨b', ?_, g2.1, ?_⟩
    · show psalteryref24_Choose.r1 300 ch p0 p1 p2 p3 p4 p5 p6 p7 p8 p9 p10 p11 p12 p13 p14 (psalteryref24_Choose.l1 300 ch p0 p1 p2 p3 p4 p5 p6 p7 p8 p9 p10 p11 p12 p13 p14 m) i b0 b1 b2 b3 b4 b5 b6 b7 b8 b9 = _
      refine bif_eq_t (decide_eq_true (by omega)) (bnd_eq u1 (bnd_eq v1 ?_))
      dsimp only
      rw [kw_i64 (by omega) (by omega)]
      exact g1
    · rintro (h | ⟨r, j1, j2, j3⟩)
      · exact g2.2 (.inl (.inl (.inl h)))
      · by_cases hj : r = i
        · subst hj
          rcases j3 with j3 | j3
          · exact g2.2 (.inl (.inl (.inr j3)))
          · exact g2.2 (.inl (.inr j3))
        · exact g2.2 (.inr ⟨r, by omega, j2, j3⟩)
theorem chan_loop (p0 p1 p2 p3 p4 p5 p6 p7 p8 p9 p10 p11 p12 p13 p14 : Int) (hB : 0 ≤ p6 ∧ -10 ≤ p7 ∧ p7 ≤ 250 ∧ p7 - p6 ≤ 250) (k : Nat) : ∀ (m : Nat) (i b0 b1 b2 b3 b4 b5 b6 b7 b8 b9 : Int) (π : Prop), k < m → 1 ≤ i → i + k = 3 → Inv p0 p1 p2 p3 p4 p5 p6 p7 p8 p9 p10 p11 p12 p13 p14 π (b0, b1, b2, b3, b4, b5, b6, b7, b8, b9) → ∃ b : Fm, psalteryref24_Choose.l0 300 p0 p1 p2 p3 p4 p5 p6 p7 p8 p9 p10 p11 p12 p13 p14 m i b0 b1 b2 b3 b4 b5 b6 b7 b8 b9 = some b ∧ Inv p0 p1 p2 p3 p4 p5 p6 p7 p8 p9 p10 p11 p12 p13 p14 (π ∨ ∃ ch r, i ≤ ch ∧ ch ≤ 2 ∧ 0 ≤ r ∧ r < 4 ∧ Here p0 p1 p2 p3 p4 p5 p6 p7 p8 p9 p10 p11 p12 p13 p14 ch r) b := by
  induction k with
  | zero =>
    intro m i b0 b1 b2 b3 b4 b5 b6 b7 b8 b9 π h h0 h1 hI
    obtain ⟨m, rfl⟩ : ∃ q, m = q + 1 := ⟨m - 1, by omega⟩
    refine ⟨(b0, b1, b2, b3, b4, b5, b6, b7, b8, b9), ?_, hI.1, ?_⟩
    · show psalteryref24_Choose.r0 300 p0 p1 p2 p3 p4 p5 p6 p7 p8 p9 p10 p11 p12 p13 p14 (psalteryref24_Choose.l0 300 p0 p1 p2 p3 p4 p5 p6 p7 p8 p9 p10 p11 p12 p13 p14 m) i b0 b1 b2 b3 b4 b5 b6 b7 b8 b9 = _
      exact bif_eq_f (decide_eq_false (by omega)) rfl
    · rintro (h | ⟨ch, r, j1, j2, _⟩)
      · exact hI.2 h
      · omega
  | succ k ih =>
    intro m i b0 b1 b2 b3 b4 b5 b6 b7 b8 b9 π h h0 h1 hI
    obtain ⟨m, rfl⟩ : ∃ q, m = q + 1 := ⟨m - 1, by omega⟩
    obtain ⟨⟨d0, d1, d2, d3, d4, d5, d6, d7, d8, d9⟩, u1, u2⟩ := rate_loop p0 p1 p2 p3 p4 p5 p6 p7 p8 p9 p10 p11 p12 p13 p14 i hB ⟨h0, by omega⟩ 4 300 0 b0 b1 b2 b3 b4 b5 b6 b7 b8 b9 π (by decide) (by decide) (by decide) hI
    obtain ⟨b', g1, g2⟩ := ih m (i + 1) d0 d1 d2 d3 d4 d5 d6 d7 d8 d9 _ (by omega) (by omega) (by omega) u2
    refine ⟨b', ?_, g2.1, ?_⟩
    · show psalteryref24_Choose.r0 300 p0 p1 p2 p3 p4 p5 p6 p7 p8 p9 p10 p11 p12 p13 p14 (psalteryref24_Choose.l0 300 p0 p1 p2 p3 p4 p5 p6 p7 p8 p9 p10 p11 p12 p13 p14 m) i b0 b1 b2 b3 b4 b5 b6 b7 b8 b9 = _
      refine bif_eq_t (decide_eq_true (by omega)) (bnd_eq u1 ?_)
      dsimp only
      rw [kw_i64 (by omega) (by omega)]
      exact g1
    · rintro (h | ⟨ch, r, j1, j2, j3⟩)
      · exact g2.2 (.inl (.inl h))
      · by_cases hj : ch = i
        · subst hj; exact g2.2 (.inl (.inr ⟨r, j3⟩))
        · exact g2.2 (.inr ⟨ch, r, by omega, j2, j3⟩)
theorem find_one {ok : Fm → Bool} {f : Fm} (h : [f].find? ok = none) : ok f = false := by
  have := List.find?_eq_none.1 h f (List.mem_singleton.2 rfl)
  simpa using this
theorem find_one' {ok : Fm → Bool} {f g : Fm} (h : [f].find? ok = some g) : g = f ∧ ok f = true := by
  have h1 := List.mem_singleton.1 (List.mem_of_find?_eq_some h)
  have h2 := List.find?_some h
  subst h1; exact ⟨rfl, h2⟩
theorem lap_up (p0 p1 p2 p3 p4 p5 p6 p7 p8 p9 p10 p11 p12 p13 p14 r ch l n : Int) (h : okf p0 p1 p2 p3 p4 p5 p6 p7 p8 p9 p10 p11 p12 p13 p14 p13 p14 (2, r, ch, 0, 0, 0, 0, 0, l, n) = true) (hn : n ≤ p12) : okf p0 p1 p2 p3 p4 p5 p6 p7 p8 p9 p10 p11 p12 p13 p14 p13 p14 (2, r, ch, 0, 0, 0, 0, 0, l, p12) = true := by
  have h : all p0 p1 p2 p3 p4 p5 p6 p7 p8 p9 p10 p11 p12 p13 p14 2 r ch 0 0 0 0 0 l n p13 p14 = true := h
  show all p0 p1 p2 p3 p4 p5 p6 p7 p8 p9 p10 p11 p12 p13 p14 2 r ch 0 0 0 0 0 l p12 p13 p14 = true
  unfold all at h ⊢
  simp only [Bool.and_eq_true] at h
  obtain ⟨h1, h2, h3, h4, h5⟩ := h
  have h5 : lapA p0 p1 p2 p3 p4 p5 p6 p7 p8 p9 p10 p11 p12 p13 p14 2 r ch 0 0 0 0 0 l n p13 p14 = true := h5
  unfold lapA at h5
  simp only [Bool.and_eq_true, span_t] at h5
  obtain ⟨i0, i1, i2, i3⟩ := h5
  have ho : okP 2 r ch 0 0 0 0 0 l n := of_decide_eq_true h2
  have hb := chk_bnd p0 p1 p2 p3 p4 p5 p6 p7 p8 p9 p10 p11 p12 p13 p14 h1
  have ho' : okP 2 r ch 0 0 0 0 0 l p12 := by
    rcases ho with ⟨hs, _⟩ | ⟨_, q1, q2, q3, q4, q5, q6, q7⟩
    · cases hs.1
    · exact .inr ⟨rfl, q1, q2, q3, q4, by omega, by omega, q7⟩
  rw [h1, h3, h4, show okF 2 r ch 0 0 0 0 0 l p12 = true from decide_eq_true ho']
  show lapA p0 p1 p2 p3 p4 p5 p6 p7 p8 p9 p10 p11 p12 p13 p14 2 r ch 0 0 0 0 0 l p12 p13 p14 = true
  unfold lapA
  rw [i0, i1, i2, span_t.2 ⟨Int.le_refl _, by omega, Int.le_refl _⟩]; rfl
theorem k2 (p0 p1 p2 p3 p4 p5 p6 p7 p8 p9 p10 p11 p12 p13 p14 : Int) (g : Fm) (hg : G p0 p1 p2 p3 p4 p5 p6 p7 p8 p9 p10 p11 p12 p13 p14 = some g) : ∃ ch r, 1 ≤ ch ∧ ch ≤ 2 ∧ 0 ≤ r ∧ r < 4 ∧ Here p0 p1 p2 p3 p4 p5 p6 p7 p8 p9 p10 p11 p12 p13 p14 ch r := by
  have hg' := hg
  unfold G at hg'
  rw [cands_eq] at hg'
  obtain ⟨c, c1, c2, hg', _⟩ := dn_first hg'
  obtain ⟨ch, ch1, ch2, hg', _⟩ := dn_first hg'
  obtain ⟨r, r1, r2, hg', _⟩ := dn_first hg'
  refine ⟨ch, r, ch1, ch2, r1, by omega, ?_⟩
  have hc : c = 1 ∨ c = 2 := by omega
  rcases hc with rfl | rfl
  · right
    rcases Bool.eq_false_or_eq_true (!((p0 == 0) && ((p1 == 0) && ((p2 == 0) && ((p3 == 0) && ((p4 == 0) && ((p5 == 0) && ((p6 == 0) && ((p7 == 0)))))))))) with e | e
    · rw [e] at hg'
      have hg' : (subL 1 r ch p7 p6).find? (okf p0 p1 p2 p3 p4 p5 p6 p7 p8 p9 p10 p11 p12 p13 p14 p13 p14) = some g := hg'
      obtain ⟨i, i1, i2, hg', _⟩ := dn_first hg'
      obtain ⟨k, k1, k2, hg', _⟩ := dn_first hg'
      obtain ⟨j, j1, j2, hg', _⟩ := dn_first hg'
      obtain ⟨q, q1, q2, hg', _⟩ := dn_first hg'
      obtain ⟨n, n1, n2, hg', hz⟩ := dn_first hg'
      obtain ⟨rfl, hok⟩ := find_one' hg'
      rw [kw4 i ⟨i1, i2⟩, kw4' k ⟨k1, k2⟩] at hok hg hz
      obtain ⟨s1, s2, s3, s4, s5⟩ := sub_ok p0 p1 p2 p3 p4 p5 p6 p7 p8 p9 p10 p11 p12 p13 p14 r ch (4 + 4 * i) (4 * k) q j n hok
      have a1 : (i + 2 * (k - 1) + 8 * j + 16 * q) % 2 = i := by omega
      have a2 : (i + 2 * (k - 1) + 8 * j + 16 * q) / 2 % 4 + 1 = k := by omega
      have a3 : (i + 2 * (k - 1) + 8 * j + 16 * q) / 16 = q := by omega
      have a4 : (i + 2 * (k - 1) + 8 * j + 16 * q) / 8 % 2 = j := by omega
      refine ⟨i + 2 * (k - 1) + 8 * j + 16 * q, n, by omega, by omega, ?_, ?_⟩
      · rw [a1, a2, a3, a4]
        refine ⟨s3, .inr (.inr s1), fun z z1 z2 => ⟨by omega, ?_, fun hG => ?_⟩⟩
        · obtain ⟨⟨_, _, _, _, _, _, _, _, t1, _⟩, _⟩ := s1
          omega
        · have := find_one (hz z z1 z2)
          have h2 := s5 z (by omega) z2 hG
          exact absurd h2 (by rw [show okf p0 p1 p2 p3 p4 p5 p6 p7 p8 p9 p10 p11 p12 p13 p14 p13 p14 (sF r ch (4 + 4 * i) (4 * k) q j z) = false from this]; decide)
      · unfold F2
        rw [a1, a2, a3, a4]; exact hg
    · rw [e] at hg'; cases hg'
  · left
    rcases Bool.eq_false_or_eq_true (!((p8 == 0) && ((p9 == 0) && ((p10 == 0) && ((p11 == 0) && ((p12 == 0))))))) with e | e
    · rw [e] at hg'
      have hg' : (lapL 2 r ch p12 p11).find? (okf p0 p1 p2 p3 p4 p5 p6 p7 p8 p9 p10 p11 p12 p13 p14 p13 p14) = some g := hg'
      obtain ⟨i, i1, i2, hg', _⟩ := dn_first hg'
      obtain ⟨n, n1, n2, hg', hz⟩ := dn_first hg'
      obtain ⟨rfl, hok⟩ := find_one' hg'
      refine ⟨i, i1, by omega, ?_⟩
      by_cases hn : n = p12
      · subst hn; exact hg
      · have := find_one (hz p12 (by omega) (Int.le_refl _))
        rw [lap_up p0 p1 p2 p3 p4 p5 p6 p7 p8 p9 p10 p11 p12 p13 p14 r ch (lenI i) n hok n2] at this; cases this
    · rw [e] at hg'; cases hg'
theorem refchoose_w (p0 p1 p2 p3 p4 p5 p6 p7 p8 p9 p10 p11 p12 p13 p14 : Int) (h : chk p0 p1 p2 p3 p4 p5 p6 p7 p8 p9 p10 p11 p12 p13 p14 = true) : psalteryref24_Choose 300 p0 p1 p2 p3 p4 p5 p6 p7 p8 p9 p10 p11 p12 p13 p14 = some (match (cands p0 p1 p2 p3 p4 p5 p6 p7 p8 p9 p10 p11 p12 p13 p14).find? (okf p0 p1 p2 p3 p4 p5 p6 p7 p8 p9 p10 p11 p12 p13 p14 p13 p14) with | some (f0, f1, f2, f3, f4, f5, f6, f7, f8, f9) => (f0, f1, f2, f3, f4, f5, f6, f7, f8, f9, p13, p14, 0) | none => (0, 0, 0, 0, 0, 0, 0, 0, 0, 0, 0, 0, 240)) := by
  have hb := chk_bnd p0 p1 p2 p3 p4 p5 p6 p7 p8 p9 p10 p11 p12 p13 p14 h
  have hb2 : -10 ≤ p7 := by
    unfold chk mayS at h
    simp only [Bool.and_eq_true, Bool.or_eq_true, span_t] at h
    obtain ⟨_, h1, _⟩ := h
    rcases h1 with h1 | h1
    · unfold z8 at h1
      simp only [Bool.and_eq_true, beq_iff_eq] at h1
      omega
    · omega
  obtain ⟨⟨d0, d1, d2, d3, d4, d5, d6, d7, d8, d9⟩, u1, u2⟩ := chan_loop p0 p1 p2 p3 p4 p5 p6 p7 p8 p9 p10 p11 p12 p13 p14 (by omega) 2 300 1 0 0 0 0 0 0 0 0 0 0 False (by decide) (by decide) (by decide) ⟨.inl rfl, fun h => h.elim⟩
  refine bnd_eq u1 ?_
  cases e : (cands p0 p1 p2 p3 p4 p5 p6 p7 p8 p9 p10 p11 p12 p13 p14).find? (okf p0 p1 p2 p3 p4 p5 p6 p7 p8 p9 p10 p11 p12 p13 p14 p13 p14) with
  | none =>
    rcases u2.1 with hz | ⟨g, hg, _⟩
    · cases hz; rfl
    · unfold G at hg; rw [e] at hg; cases hg
  | some g =>
    have hh := u2.2 (.inr (k2 p0 p1 p2 p3 p4 p5 p6 p7 p8 p9 p10 p11 p12 p13 p14 g e))
    unfold G at hh
    rw [e] at hh
    cases hh
    have hc : (d0 == 0) = false := by
      have hm := List.mem_of_find?_eq_some e
      rw [cands_eq] at hm
      obtain ⟨c, c1, c2, hm⟩ := dn_mem.1 hm
      obtain ⟨ch, _, _, hm⟩ := dn_mem.1 hm
      obtain ⟨r, _, _, hm⟩ := dn_mem.1 hm
      have := (head_leaf (show _ ∈ leaf p0 p1 p2 p3 p4 p5 p6 p7 p8 p9 p10 p11 p12 p13 p14 c ch r from hm)).1
      have this : d0 = c := this
      rw [this]; exact beq_eq_false_iff_ne.2 (by omega)
    exact bif_eq_f hc rfl
theorem al24 : psalterylaw24_alive 300 = some true := by kernel_rfl
theorem i_self (x : Int) : (x == x) = true := by simp
theorem chooses_w (p0 p1 p2 p3 p4 p5 p6 p7 p8 p9 p10 p11 p12 p13 p14 : Int) : psalterylaw24_OfferChooses 300 p0 p1 p2 p3 p4 p5 p6 p7 p8 p9 p10 p11 p12 p13 p14 = some true := by
  refine bnd_eq al24 (bif_eq_f rfl (bnd_eq rfl ?_))
  rcases Bool.eq_false_or_eq_true (chk p0 p1 p2 p3 p4 p5 p6 p7 p8 p9 p10 p11 p12 p13 p14) with h | h
  · have h1 := choose_w p0 p1 p2 p3 p4 p5 p6 p7 p8 p9 p10 p11 p12 p13 p14 h
    have h2 := refchoose_w p0 p1 p2 p3 p4 p5 p6 p7 p8 p9 p10 p11 p12 p13 p14 h
    refine (?_ : ∀ X : Int × Int × Int × Int × Int × Int × Int × Int × Int × Int × Int × Int × Int, offer_Choose 300 p0 p1 p2 p3 p4 p5 p6 p7 p8 p9 p10 p11 p12 p13 p14 = some X → psalteryref24_Choose 300 p0 p1 p2 p3 p4 p5 p6 p7 p8 p9 p10 p11 p12 p13 p14 = some X → _) _ h1 h2
    clear h1 h2
    rintro ⟨d0, d1, d2, d3, d4, d5, d6, d7, d8, d9, d10, d11, d12⟩ h1 h2
    refine bnd_eq h1 (bnd_eq ((refchk_w p0 p1 p2 p3 p4 p5 p6 p7 p8 p9 p10 p11 p12 p13 p14).trans (by rw [h])) (bif_eq_f rfl (bnd_eq h2 ?_)))
    dsimp only
    rw [i_self, i_self, i_self, i_self, i_self, i_self, i_self, i_self, i_self, i_self, i_self, i_self, i_self]; rfl
  · exact bnd_eq (choose_no p0 p1 p2 p3 p4 p5 p6 p7 p8 p9 p10 p11 p12 p13 p14 h) (bnd_eq ((refchk_w p0 p1 p2 p3 p4 p5 p6 p7 p8 p9 p10 p11 p12 p13 p14).trans (by rw [h])) (bif_eq_t rfl rfl))
end Go.Fo
