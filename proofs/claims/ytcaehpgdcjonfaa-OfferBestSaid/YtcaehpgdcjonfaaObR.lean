/- The plain facts of what an end can. -/
import Derived.Test.YtcaehpgdcjonfaaObW
import Derived.KernelRfl
namespace Go.Fo
theorem and_step {o X : Option Bool} {b x : Bool} (h : o = some b) (k : b = true → X = some x) : (o.bind fun r => bif r then X else some false) = some (b && x) := by
  subst h
  cases b with
  | true => exact k rfl
  | false => rfl
theorem or_step {z : Bool} {Y : Option Bool} {y : Bool} (k : z = false → Y = some y) : (bif z then some true else Y) = some (z || y) := by
  cases z with
  | true => rfl
  | false => exact k rfl
theorem ornot_step {o Y : Option Bool} {b y : Bool} (h : o = some b) (k : b = true → Y = some y) : (o.bind fun r => bif (!r) then some true else Y) = some (!b || y) := by
  subst h
  cases b with
  | true => exact k rfl
  | false => rfl
theorem not_end {o : Option Bool} {b : Bool} (h : o = some b) : (o.bind fun r => some (!r)) = some (!b) := by subst h; rfl
def setB (n m : Int) : Bool := decide (n > 0) && decide (n < m)
def spanB (a b c d : Int) : Bool := (decide (c ≤ a) && decide (a ≤ b)) && decide (b ≤ d)
theorem set_w4 (n : Int) : caps_set 300 n 4 = some (setB n 16) := by
  refine gd_eq (fun _ => by decide) ?_
  unfold setB; rw [show kshl .i64 1 4 = 16 from rfl]; cases decide (n > 0) <;> rfl
theorem set_w2 (n : Int) : caps_set 300 n 2 = some (setB n 4) := by
  refine gd_eq (fun _ => by decide) ?_
  unfold setB; rw [show kshl .i64 1 2 = 4 from rfl]; cases decide (n > 0) <;> rfl
theorem span_w (a b c d : Int) : caps_span 300 a b c d = some (spanB a b c d) := by
  unfold spanB caps_span; cases decide (c ≤ a) <;> cases decide (a ≤ b) <;> rfl
def z8 (p0 p1 p2 p3 p4 p5 p6 p7 : Int) : Bool := (p0 == 0) && ((p1 == 0) && ((p2 == 0) && ((p3 == 0) && ((p4 == 0) && ((p5 == 0) && ((p6 == 0) && ((p7 == 0))))))))
def z5 (p8 p9 p10 p11 p12 : Int) : Bool := (p8 == 0) && ((p9 == 0) && ((p10 == 0) && ((p11 == 0) && ((p12 == 0)))))
def mayS (p0 p1 p2 p3 p4 p5 p6 p7 : Int) : Bool := z8 p0 p1 p2 p3 p4 p5 p6 p7 || (setB p0 16 && (setB p1 4 && (setB p2 4 && (setB p3 16 && (setB p4 4 && (setB p5 4 && spanB p6 p7 2 250))))))
def mayL (p8 p9 p10 p11 p12 : Int) : Bool := z5 p8 p9 p10 p11 p12 || (setB p8 16 && (setB p9 4 && (setB p10 16 && spanB p11 p12 20 120)))
theorem sub_may_w (p0 p1 p2 p3 p4 p5 p6 p7 : Int) : caps_Sub_may 300 p0 p1 p2 p3 p4 p5 p6 p7 = some (mayS p0 p1 p2 p3 p4 p5 p6 p7) :=
  bnd_eq (or_step fun _ => and_step (set_w4 _) fun _ => and_step (set_w2 _) fun _ => and_step (set_w2 _) fun _ => and_step (set_w4 _) fun _ => and_step (set_w2 _) fun _ => and_step (set_w2 _) fun _ => bnd_eq (span_w _ _ _ _) rfl) rfl
theorem lap_may_w (p8 p9 p10 p11 p12 : Int) : caps_Lap_may 300 p8 p9 p10 p11 p12 = some (mayL p8 p9 p10 p11 p12) :=
  bnd_eq (or_step fun _ => and_step (set_w4 _) fun _ => and_step (set_w2 _) fun _ => and_step (set_w4 _) fun _ => bnd_eq (span_w _ _ _ _) rfl) rfl
def chk (p0 p1 p2 p3 p4 p5 p6 p7 p8 p9 p10 p11 p12 p13 p14 : Int) : Bool := (!(z8 p0 p1 p2 p3 p4 p5 p6 p7) || !(z5 p8 p9 p10 p11 p12)) && (mayS p0 p1 p2 p3 p4 p5 p6 p7 && (mayL p8 p9 p10 p11 p12 && (spanB p13 p13 1 16 && spanB p14 p14 1 8)))
theorem chk_w (p0 p1 p2 p3 p4 p5 p6 p7 p8 p9 p10 p11 p12 p13 p14 : Int) : caps_Check 300 p0 p1 p2 p3 p4 p5 p6 p7 p8 p9 p10 p11 p12 p13 p14 = some (bif chk p0 p1 p2 p3 p4 p5 p6 p7 p8 p9 p10 p11 p12 p13 p14 then 0 else 1) := by
  refine bnd_eq (x := !chk p0 p1 p2 p3 p4 p5 p6 p7 p8 p9 p10 p11 p12 p13 p14) ?_ ?_
  · refine (or_step fun _ => ornot_step (sub_may_w p0 p1 p2 p3 p4 p5 p6 p7) fun _ => ornot_step (lap_may_w p8 p9 p10 p11 p12) fun _ => ornot_step (span_w _ _ _ _) fun _ => not_end (span_w _ _ _ _)).trans ?_
    congr 1
    unfold chk
    show (!(bif !(z8 p0 p1 p2 p3 p4 p5 p6 p7) then true else !(z5 p8 p9 p10 p11 p12)) || _) = _
    cases z8 p0 p1 p2 p3 p4 p5 p6 p7 <;> cases z5 p8 p9 p10 p11 p12 <;> cases mayS p0 p1 p2 p3 p4 p5 p6 p7 <;> cases mayL p8 p9 p10 p11 p12 <;> cases spanB p13 p13 1 16 <;> cases spanB p14 p14 1 8 <;> rfl
  · cases chk p0 p1 p2 p3 p4 p5 p6 p7 p8 p9 p10 p11 p12 p13 p14 <;> rfl
def inB (s i : Int) : Bool := kand .i64 (kshr .i64 s i) 1 == 1
theorem in_w (s i : Int) (h : 0 ≤ i) : caps_in 300 s i = some (inB s i) := gd_eq h rfl
def idx (n : Int) : Int := bif n == 40 then 0 else bif n == 60 then 1 else bif n == 80 then 2 else 3
theorem idx_w (n : Int) (h : n = 40 ∨ n = 60 ∨ n = 80 ∨ n = 120) : slices_Index_int_int 300 [40, 60, 80, 120] n = some (idx n) := by
  rcases h with rfl | rfl | rfl | rfl <;> rfl
def subA (p0 p1 p2 p3 p4 p5 p6 p7 p8 p9 p10 p11 p12 p13 p14 p15 p16 p17 p18 p19 p20 p21 p22 p23 p24 p25 p26 : Int) : Bool := inB p0 p16 && (inB p1 (p17 - 1) && (inB p2 (p18 / 8) && (inB p3 (p19 / 4 - 1) && (inB p4 p20 && (inB p5 p21 && spanB p6 p22 p6 p7)))))
def lapA (p0 p1 p2 p3 p4 p5 p6 p7 p8 p9 p10 p11 p12 p13 p14 p15 p16 p17 p18 p19 p20 p21 p22 p23 p24 p25 p26 : Int) : Bool := inB p8 p16 && (inB p9 (p17 - 1) && (inB p10 (idx p23) && spanB p11 p24 p11 p12))
def okF (p15 p16 p17 p18 p19 p20 p21 p22 p23 p24 : Int) : Bool := decide (okP p15 p16 p17 p18 p19 p20 p21 p22 p23 p24)
def all (p0 p1 p2 p3 p4 p5 p6 p7 p8 p9 p10 p11 p12 p13 p14 p15 p16 p17 p18 p19 p20 p21 p22 p23 p24 p25 p26 : Int) : Bool := chk p0 p1 p2 p3 p4 p5 p6 p7 p8 p9 p10 p11 p12 p13 p14 && (okF p15 p16 p17 p18 p19 p20 p21 p22 p23 p24 && (spanB 1 p25 1 p13 && (spanB 1 p26 1 p14 && (bif p15 == 1 then subA p0 p1 p2 p3 p4 p5 p6 p7 p8 p9 p10 p11 p12 p13 p14 p15 p16 p17 p18 p19 p20 p21 p22 p23 p24 p25 p26 else lapA p0 p1 p2 p3 p4 p5 p6 p7 p8 p9 p10 p11 p12 p13 p14 p15 p16 p17 p18 p19 p20 p21 p22 p23 p24 p25 p26))))
theorem lapA_w (p0 p1 p2 p3 p4 p5 p6 p7 p8 p9 p10 p11 p12 p13 p14 p15 p16 p17 p18 p19 p20 p21 p22 p23 p24 p25 p26 : Int) (h : lapP p15 p16 p17 p18 p19 p20 p21 p22 p23 p24) : (
          (caps_in 300 p8 p16).bind fun r94 =>
          bif r94 then
            let v96 := (kwrap .i64 (p17 - 1))
            (caps_in 300 p9 v96).bind fun r97 =>
            let v98 := (bif r94 then r97 else false)
            bif v98 then
              (lapped_Lengths 300 ).bind fun r100 =>
              (slices_Index_int_int 300 r100 p23).bind fun r101 =>
              (caps_in 300 p10 r101).bind fun r102 =>
              let v103 := (bif v98 then r102 else false)
              bif v103 then
                (caps_span 300 p11 p24 p11 p12).bind fun r105 =>
                let v106 := (bif v103 then r105 else false)
                some v106
              else
                let v107 := (bif v103 then false else false)
                some v107
            else
              let v108 := (bif v98 then false else false)
              bif v108 then
                (caps_span 300 p11 p24 p11 p12).bind fun r110 =>
                let v111 := (bif v108 then r110 else false)
                some v111
              else
                let v112 := (bif v108 then false else false)
                some v112
          else
            let v113 := (bif r94 then false else false)
            bif v113 then
              (lapped_Lengths 300 ).bind fun r115 =>
              (slices_Index_int_int 300 r115 p23).bind fun r116 =>
              (caps_in 300 p10 r116).bind fun r117 =>
              let v118 := (bif v113 then r117 else false)
              bif v118 then
                (caps_span 300 p11 p24 p11 p12).bind fun r120 =>
                let v121 := (bif v118 then r120 else false)
                some v121
              else
                let v122 := (bif v118 then false else false)
                some v122
            else
              let v123 := (bif v113 then false else false)
              bif v123 then
                (caps_span 300 p11 p24 p11 p12).bind fun r125 =>
                let v126 := (bif v123 then r125 else false)
                some v126
              else
                let v127 := (bif v123 then false else false)
                some v127 : Option (Bool)) = some (lapA p0 p1 p2 p3 p4 p5 p6 p7 p8 p9 p10 p11 p12 p13 p14 p15 p16 p17 p18 p19 p20 p21 p22 p23 p24 p25 p26) := by
  obtain ⟨_, a1, a2, h2, h8, c1, c2, _⟩ := h
  have hw : kwrap .i64 (p17 - 1) = p17 - 1 := kw_i64 (by omega) (by omega)
  have hi : 0 ≤ idx p23 := by rcases h8 with rfl | rfl | rfl | rfl <;> decide
  have e9 : caps_in 300 p9 (kwrap .i64 (p17 - 1)) = some (inB p9 (p17 - 1)) := by rw [hw]; exact in_w _ _ (by omega)
  refine bnd_eq (in_w p8 p16 a1) ?_
  unfold lapA
  rcases Bool.eq_false_or_eq_true (inB p8 p16) with b1 | b1
  · rw [b1]
    refine bnd_eq e9 ?_
    rcases Bool.eq_false_or_eq_true (inB p9 (p17 - 1)) with b2 | b2
    · rw [b2]
      refine bnd_eq (x := idx p23) (idx_w p23 h8) (bnd_eq (in_w p10 _ hi) ?_)
      rcases Bool.eq_false_or_eq_true (inB p10 (idx p23)) with b3 | b3
      · rw [b3]; exact bnd_eq (span_w _ _ _ _) rfl
      · rw [b3]; rfl
    · rw [b2]; rfl
  · rw [b1]; rfl
theorem all_w (p0 p1 p2 p3 p4 p5 p6 p7 p8 p9 p10 p11 p12 p13 p14 p15 p16 p17 p18 p19 p20 p21 p22 p23 p24 p25 p26 : Int) : caps_Allows 300 p0 p1 p2 p3 p4 p5 p6 p7 p8 p9 p10 p11 p12 p13 p14 p15 p16 p17 p18 p19 p20 p21 p22 p23 p24 p25 p26 = some (all p0 p1 p2 p3 p4 p5 p6 p7 p8 p9 p10 p11 p12 p13 p14 p15 p16 p17 p18 p19 p20 p21 p22 p23 p24 p25 p26) := by
  refine bnd_eq (x := !(chk p0 p1 p2 p3 p4 p5 p6 p7 p8 p9 p10 p11 p12 p13 p14 && (okF p15 p16 p17 p18 p19 p20 p21 p22 p23 p24 && (spanB 1 p25 1 p13 && spanB 1 p26 1 p14)))) ?_ ?_
  · refine bnd_eq (chk_w p0 p1 p2 p3 p4 p5 p6 p7 p8 p9 p10 p11 p12 p13 p14) ?_
    rcases Bool.eq_false_or_eq_true (chk p0 p1 p2 p3 p4 p5 p6 p7 p8 p9 p10 p11 p12 p13 p14) with b1 | b1
    · rw [b1]
      refine bif_eq_f rfl (bnd_eq (Check_w p15 p16 p17 p18 p19 p20 p21 p22 p23 p24) ?_)
      by_cases ho : okP p15 p16 p17 p18 p19 p20 p21 p22 p23 p24
      · rw [if_pos ho]
        refine bif_eq_f rfl ?_
        rw [show okF p15 p16 p17 p18 p19 p20 p21 p22 p23 p24 = true from decide_eq_true ho]
        refine (ornot_step (span_w _ _ _ _) fun _ => not_end (span_w _ _ _ _)).trans ?_
        cases spanB 1 p25 1 p13 <;> cases spanB 1 p26 1 p14 <;> rfl
      · rw [if_neg ho, show okF p15 p16 p17 p18 p19 p20 p21 p22 p23 p24 = false from decide_eq_false ho]; rfl
    · rw [b1]; rfl
  · unfold all
    rcases Bool.eq_false_or_eq_true (chk p0 p1 p2 p3 p4 p5 p6 p7 p8 p9 p10 p11 p12 p13 p14 && (okF p15 p16 p17 p18 p19 p20 p21 p22 p23 p24 && (spanB 1 p25 1 p13 && spanB 1 p26 1 p14))) with b | b
    · rw [b]
      refine bif_eq_f rfl ?_
      have b' := b
      simp only [Bool.and_eq_true] at b'
      obtain ⟨b1, b2, b3, b4⟩ := b'
      rw [b1, b2, b3, b4]
      have ho : okP p15 p16 p17 p18 p19 p20 p21 p22 p23 p24 := of_decide_eq_true b2
      rcases ho with ⟨hs, _⟩ | hl
      · have e : (p15 == 1) = true := by rw [hs.1]; rfl
        refine bif_eq_t e ?_
        rw [e]
        obtain ⟨_, a1, a2, h2, h3, h4, h5, h6, f1, f2, f3, g1, g2⟩ := hs
        have hw : kwrap .i64 (p17 - 1) = p17 - 1 := kw_i64 (by omega) (by omega)
        have hb : kwrap .i64 (Int.tdiv p18 8) = p18 / 8 := by rcases h3 with rfl | rfl <;> rfl
        have hk : kwrap .i64 (kwrap .i64 (Int.tdiv p19 4) - 1) = p19 / 4 - 1 := by rcases h4 with rfl | rfl | rfl | rfl <;> rfl
        have e1 : caps_in 300 p1 (kwrap .i64 (p17 - 1)) = some (inB p1 (p17 - 1)) := by rw [hw]; exact in_w _ _ (by omega)
        have e2 : caps_in 300 p2 (kwrap .i64 (Int.tdiv p18 8)) = some (inB p2 (p18 / 8)) := by rw [hb]; exact in_w _ _ (by omega)
        have e3 : caps_in 300 p3 (kwrap .i64 (kwrap .i64 (Int.tdiv p19 4) - 1)) = some (inB p3 (p19 / 4 - 1)) := by rw [hk]; exact in_w _ _ (by omega)
        exact bnd_eq (and_step (in_w _ _ a1) fun _ => and_step e1 fun _ => and_step e2 fun _ => and_step e3 fun _ => and_step (in_w _ _ (by omega)) fun _ => and_step (in_w _ _ (by omega)) fun _ => bnd_eq (span_w _ _ _ _) rfl) rfl
      · have e : (p15 == 1) = false := by rw [hl.1]; rfl
        refine bif_eq_f e (bnd_eq (lapA_w p0 p1 p2 p3 p4 p5 p6 p7 p8 p9 p10 p11 p12 p13 p14 p15 p16 p17 p18 p19 p20 p21 p22 p23 p24 p25 p26 hl) ?_)
        rw [e]; rfl
    · rw [b]
      refine (bif_eq_t rfl rfl).trans ?_
      congr 1
      revert b
      cases chk p0 p1 p2 p3 p4 p5 p6 p7 p8 p9 p10 p11 p12 p13 p14 <;> cases okF p15 p16 p17 p18 p19 p20 p21 p22 p23 p24 <;> cases spanB 1 p25 1 p13 <;> cases spanB 1 p26 1 p14 <;> simp
theorem in_mono (s : Int) : ∀ i : Int, inB 0 i = false := by
  intro i
  unfold inB kshr
  rw [Int.zero_fdiv]; rfl
theorem in_15 (i : Int) (h : 0 ≤ i) (h' : i ≤ 3) : inB 15 i = true := by
  have : i = 0 ∨ i = 1 ∨ i = 2 ∨ i = 3 := by omega
  rcases this with rfl | rfl | rfl | rfl <;> rfl
theorem in_3 (i : Int) (h : 0 ≤ i) (h' : i ≤ 1) : inB 3 i = true := by
  have : i = 0 ∨ i = 1 := by omega
  rcases this with rfl | rfl <;> rfl
theorem span_t {a b c d : Int} : spanB a b c d = true ↔ c ≤ a ∧ a ≤ b ∧ b ≤ d := by
  unfold spanB; simp only [Bool.and_eq_true, decide_eq_true_eq]; omega
theorem set_t {n m : Int} : setB n m = true ↔ 0 < n ∧ n < m := by
  unfold setB; simp only [Bool.and_eq_true, decide_eq_true_eq, gt_iff_lt]

end Go.Fo
