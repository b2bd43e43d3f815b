/- There and back: the plain facts of the records. -/
import Derived.Test.YtcaehpgdcjonfaaCbF
import Derived.Test.YtcaehpgdcjonfaaN3
import Derived.Test.YtcaehpgdcjonfaaN4
import Derived.KernelRfl
namespace Go.Fo
theorem and_step {o X : Option Bool} {b x : Bool} (h : o = some b) (k : b = true → X = some x) : (o.bind fun r => bif r then X else some false) = some (b && x) := by
  subst h
  cases b with
  | true => exact k rfl
  | false => rfl
theorem or_step {z : Bool} {Y : Option Bool} {y : Bool} (k : z = false → Y = some y) : (bif z then some true else Y) = some (z || y) := by
  cases z with
  | true => rfl
  | false => exact k rfl
theorem ornot_step {o Y : Option Bool} {b y : Bool} (h : o = some b) (k : b = true → Y = some y) : (o.bind fun r => bif (!r) then some true else Y) = some (!b || y) := by
  subst h
  cases b with
  | true => exact k rfl
  | false => rfl
theorem not_end {o : Option Bool} {b : Bool} (h : o = some b) : (o.bind fun r => some (!r)) = some (!b) := by subst h; rfl
def setB (n m : Int) : Bool := decide (n > 0) && decide (n < m)
def spanB (a b c d : Int) : Bool := (decide (c ≤ a) && decide (a ≤ b)) && decide (b ≤ d)
theorem set_w4 (n : Int) : caps_set 300 n 4 = some (setB n 16) := by
  refine gd_eq (fun _ => by decide) ?_
  unfold setB; rw [show kshl .i64 1 4 = 16 from rfl]; cases decide (n > 0) <;> rfl
theorem set_w2 (n : Int) : caps_set 300 n 2 = some (setB n 4) := by
  refine gd_eq (fun _ => by decide) ?_
  unfold setB; rw [show kshl .i64 1 2 = 4 from rfl]; cases decide (n > 0) <;> rfl
theorem span_w (a b c d : Int) : caps_span 300 a b c d = some (spanB a b c d) := by
  unfold spanB caps_span; cases decide (c ≤ a) <;> cases decide (a ≤ b) <;> rfl
def z8 (p0 p1 p2 p3 p4 p5 p6 p7 : Int) : Bool := ((p0 == 0) && ((p1 == 0) && ((p2 == 0) && ((p3 == 0) && ((p4 == 0) && ((p5 == 0) && ((p6 == 0) && ((p7 == 0)))))))))
def z5 (p8 p9 p10 p11 p12 : Int) : Bool := ((p8 == 0) && ((p9 == 0) && ((p10 == 0) && ((p11 == 0) && ((p12 == 0))))))
def mayS (p0 p1 p2 p3 p4 p5 p6 p7 : Int) : Bool := z8 p0 p1 p2 p3 p4 p5 p6 p7 || (setB p0 16 && (setB p1 4 && (setB p2 4 && (setB p3 16 && (setB p4 4 && (setB p5 4 && spanB p6 p7 2 250))))))
def mayL (p8 p9 p10 p11 p12 : Int) : Bool := z5 p8 p9 p10 p11 p12 || (setB p8 16 && (setB p9 4 && (setB p10 16 && spanB p11 p12 20 120)))
theorem sub_may_w (p0 p1 p2 p3 p4 p5 p6 p7 : Int) : caps_Sub_may 300 p0 p1 p2 p3 p4 p5 p6 p7 = some (mayS p0 p1 p2 p3 p4 p5 p6 p7) :=
  bnd_eq (or_step fun _ => and_step (set_w4 _) fun _ => and_step (set_w2 _) fun _ => and_step (set_w2 _) fun _ => and_step (set_w4 _) fun _ => and_step (set_w2 _) fun _ => and_step (set_w2 _) fun _ => bnd_eq (span_w _ _ _ _) rfl) rfl
theorem lap_may_w (p8 p9 p10 p11 p12 : Int) : caps_Lap_may 300 p8 p9 p10 p11 p12 = some (mayL p8 p9 p10 p11 p12) :=
  bnd_eq (or_step fun _ => and_step (set_w4 _) fun _ => and_step (set_w2 _) fun _ => and_step (set_w4 _) fun _ => bnd_eq (span_w _ _ _ _) rfl) rfl
def chk (p0 p1 p2 p3 p4 p5 p6 p7 p8 p9 p10 p11 p12 p13 p14 : Int) : Bool := (!(z8 p0 p1 p2 p3 p4 p5 p6 p7) || !(z5 p8 p9 p10 p11 p12)) && (mayS p0 p1 p2 p3 p4 p5 p6 p7 && (mayL p8 p9 p10 p11 p12 && (spanB p13 p13 1 16 && spanB p14 p14 1 8)))
theorem chk_w (p0 p1 p2 p3 p4 p5 p6 p7 p8 p9 p10 p11 p12 p13 p14 : Int) : caps_Check 300 p0 p1 p2 p3 p4 p5 p6 p7 p8 p9 p10 p11 p12 p13 p14 = some (bif chk p0 p1 p2 p3 p4 p5 p6 p7 p8 p9 p10 p11 p12 p13 p14 then 0 else 1) := by
  refine bnd_eq (x := !chk p0 p1 p2 p3 p4 p5 p6 p7 p8 p9 p10 p11 p12 p13 p14) ?_ ?_
  · refine (or_step fun _ => ornot_step (sub_may_w p0 p1 p2 p3 p4 p5 p6 p7) fun _ => ornot_step (lap_may_w p8 p9 p10 p11 p12) fun _ => ornot_step (span_w _ _ _ _) fun _ => not_end (span_w _ _ _ _)).trans ?_
    congr 1
    unfold chk
    show (!(bif !(z8 p0 p1 p2 p3 p4 p5 p6 p7) then true else !(z5 p8 p9 p10 p11 p12)) || _) = _
    cases z8 p0 p1 p2 p3 p4 p5 p6 p7 <;> cases z5 p8 p9 p10 p11 p12 <;> cases mayS p0 p1 p2 p3 p4 p5 p6 p7 <;> cases mayL p8 p9 p10 p11 p12 <;> cases spanB p13 p13 1 16 <;> cases spanB p14 p14 1 8 <;> rfl
  · cases chk p0 p1 p2 p3 p4 p5 p6 p7 p8 p9 p10 p11 p12 p13 p14 <;> rfl
theorem span_t {a b c d : Int} : spanB a b c d = true ↔ c ≤ a ∧ a ≤ b ∧ b ≤ d := by
  unfold spanB; simp only [Bool.and_eq_true, decide_eq_true_eq]; omega
theorem set_t {n m : Int} : setB n m = true ↔ 0 < n ∧ n < m := by
  unfold setB; simp only [Bool.and_eq_true, decide_eq_true_eq, gt_iff_lt]

theorem take_v (k n : Int) (v rest : List Int) : ((k :: n :: (v ++ rest)).take (Int.toNat (2 + (v.length : Int)))).drop (Int.toNat 2) = v := by
  rw [show Int.toNat (2 + (v.length : Int)) = v.length + 2 by omega, show Int.toNat 2 = 2 from rfl]
  simp
theorem drop_v (k n : Int) (v rest : List Int) : ((k :: n :: (v ++ rest)).take (Int.toNat ((k :: n :: (v ++ rest)).length : Int))).drop (Int.toNat (2 + (v.length : Int))) = rest := by
  rw [show Int.toNat (2 + (v.length : Int)) = v.length + 2 by omega, Int.toNat_natCast, List.take_length]
  simp
theorem step (m : Nat) (k n : Int) (v rest : List Int) (x186 x187 x188 x189 x190 x191 x192 x193 x194 x195 x196 x197 x198 x199 x200 : Int) (x201 x202 x203 : Bool) (hk : 0 ≤ k ∧ k ≤ 255) (hn : n = (v.length : Int)) (hl : (k :: n :: (v ++ rest)).length ≤ 256) : caps_Parse.l0 300 (m + 1) (k :: n :: (v ++ rest)) x186 x187 x188 x189 x190 x191 x192 x193 x194 x195 x196 x197 x198 x199 x200 x201 x202 x203 = (
      bif k == 1 then
        (caps_Caps_fields_2 300 x186 x187 x188 x189 x190 x191 x192 x193 x194 x195 x196 x197 x198 x199 x200).bind fun _ =>
        let v252 := (bif x201 then true else ((v.length : Int) != 8))
        bif v252 then
          some (.inr (0, 0, 0, 0, 0, 0, 0, 0, 0, 0, 0, 0, 0, 0, 0, 230))
        else
          (
            let v264 := (Kd.nth (.int .u8) v 0)
            let v265 := (kwrap .i64 v264)
            gd (0 < (v.length : Int)) <|
            let v266 := (Kd.nth (.int .u8) v 1)
            let v267 := (kwrap .i64 v266)
            gd (1 < (v.length : Int)) <|
            let v268 := (Kd.nth (.int .u8) v 2)
            let v269 := (kwrap .i64 v268)
            gd (2 < (v.length : Int)) <|
            let v270 := (Kd.nth (.int .u8) v 3)
            let v271 := (kwrap .i64 v270)
            gd (3 < (v.length : Int)) <|
            let v272 := (Kd.nth (.int .u8) v 4)
            let v273 := (kwrap .i64 v272)
            gd (4 < (v.length : Int)) <|
            let v274 := (Kd.nth (.int .u8) v 5)
            let v275 := (kwrap .i64 v274)
            gd (5 < (v.length : Int)) <|
            let v276 := (Kd.nth (.int .u8) v 6)
            let v277 := (kwrap .i64 v276)
            gd (6 < (v.length : Int)) <|
            let v278 := (Kd.nth (.int .u8) v 7)
            let v279 := (kwrap .i64 v278)
            gd (7 < (v.length : Int)) <|
            some (v265, v267, v269, v271, v273, v275, v277, v279) : Option (Int × Int × Int × Int × Int × Int × Int × Int)).bind fun (x253, x254, x255, x256, x257, x258, x259, x260) =>
            let v261 := ((x253 == 0) && ((x254 == 0) && ((x255 == 0) && ((x256 == 0) && ((x257 == 0) && ((x258 == 0) && ((x259 == 0) && (x260 == 0))))))))
            let v263 := (bif v261 then true else false)
            bif v263 then
              some (.inr (0, 0, 0, 0, 0, 0, 0, 0, 0, 0, 0, 0, 0, 0, 0, 230))
            else
              caps_Parse.l0 300 m rest x253 x254 x255 x256 x257 x258 x259 x260 x194 x195 x196 x197 x198 x199 x200 true x202 x203
      else
        bif k == 2 then
          (caps_Caps_fields_3 300 x186 x187 x188 x189 x190 x191 x192 x193 x194 x195 x196 x197 x198 x199 x200).bind fun _ =>
          let v280 := (bif x202 then true else ((v.length : Int) != 5))
          bif v280 then
            some (.inr (0, 0, 0, 0, 0, 0, 0, 0, 0, 0, 0, 0, 0, 0, 0, 230))
          else
            (
              let v287 := (Kd.nth (.int .u8) v 0)
              let v288 := (kwrap .i64 v287)
              gd (0 < (v.length : Int)) <|
              let v289 := (Kd.nth (.int .u8) v 1)
              let v290 := (kwrap .i64 v289)
              gd (1 < (v.length : Int)) <|
              let v291 := (Kd.nth (.int .u8) v 2)
              let v292 := (kwrap .i64 v291)
              gd (2 < (v.length : Int)) <|
              let v293 := (Kd.nth (.int .u8) v 3)
              let v294 := (kwrap .i64 v293)
              gd (3 < (v.length : Int)) <|
              let v295 := (Kd.nth (.int .u8) v 4)
              let v296 := (kwrap .i64 v295)
              gd (4 < (v.length : Int)) <|
              some (v288, v290, v292, v294, v296) : Option (Int × Int × Int × Int × Int)).bind fun (x281, x282, x283, x284, x285) =>
              let v286 := ((x281 == 0) && ((x282 == 0) && ((x283 == 0) && ((x284 == 0) && (x285 == 0)))))
              bif v286 then
                some (.inr (0, 0, 0, 0, 0, 0, 0, 0, 0, 0, 0, 0, 0, 0, 0, 230))
              else
                caps_Parse.l0 300 m rest x186 x187 x188 x189 x190 x191 x192 x193 x281 x282 x283 x284 x285 x199 x200 x201 true x203
        else
          bif k == 3 then
            (caps_Caps_fields_4 300 x186 x187 x188 x189 x190 x191 x192 x193 x194 x195 x196 x197 x198 x199 x200).bind fun _ =>
            let v297 := (bif x203 then true else ((v.length : Int) != 2))
            bif v297 then
              some (.inr (0, 0, 0, 0, 0, 0, 0, 0, 0, 0, 0, 0, 0, 0, 0, 230))
            else
              (
                let v300 := (Kd.nth (.int .u8) v 0)
                let v301 := (kwrap .i64 v300)
                gd (0 < (v.length : Int)) <|
                let v302 := (Kd.nth (.int .u8) v 1)
                let v303 := (kwrap .i64 v302)
                gd (1 < (v.length : Int)) <|
                some (v301, v303) : Option (Int × Int)).bind fun (x298, x299) =>
                caps_Parse.l0 300 m rest x186 x187 x188 x189 x190 x191 x192 x193 x194 x195 x196 x197 x198 x298 x299 x201 x202 true
          else
            (caps_Caps_fields 300 k x186 x187 x188 x189 x190 x191 x192 x193 x194 x195 x196 x197 x198 x199 x200).bind fun z => match z with
            | .inl _ =>
              none
            | .inr (.inl _) =>
              none
            | .inr (.inr (.inl _)) =>
              none
            | .inr (.inr (.inr _)) =>
              caps_Parse.l0 300 m rest x186 x187 x188 x189 x190 x191 x192 x193 x194 x195 x196 x197 x198 x199 x200 x201 x202 x203) := by
  have hlen : ((k :: n :: (v ++ rest)).length : Int) = (v.length : Int) + rest.length + 2 := by simp; omega
  have w0 : kwrap .i64 (Kd.nth (.int .u8) (k :: n :: (v ++ rest)) 0) = k := kw_i64 (x := k) (by omega) (by omega)
  have w1 : kwrap .i64 (Kd.nth (.int .u8) (k :: n :: (v ++ rest)) 1) = n := kw_i64 (x := n) (by omega) (by omega)
  have w2 : kwrap .i64 (2 + n) = 2 + (v.length : Int) := by rw [kw_i64 (by omega) (by omega), hn]
  have w3 : kwrap .i64 (2 + (v.length : Int)) = 2 + (v.length : Int) := kw_i64 (by omega) (by omega)
  have w4 : kwrap .i64 (((k :: n :: (v ++ rest)).length : Int) - 2) = (v.length : Int) + rest.length := by rw [hlen, kw_i64 (by omega) (by omega)]; omega
  show caps_Parse.r0 300 (caps_Parse.l0 300 m) (k :: n :: (v ++ rest)) x186 x187 x188 x189 x190 x191 x192 x193 x194 x195 x196 x197 x198 x199 x200 x201 x202 x203 = _
  unfold caps_Parse.r0
  dsimp only
  rw [w1, w2, w4, w0, take_v, w3, drop_v]
  refine bif_eq_t (decide_eq_true (by omega)) (gd_eq (fun _ => by omega) (bif_eq_f ?_ (gd_eq (by omega) (gd_eq (by omega) (gd_eq (by omega) (gd_eq (by omega) rfl))))))
  rw [decide_eq_false (by omega : ¬ ((k :: n :: (v ++ rest)).length : Int) < 2), decide_eq_false (by omega : ¬ n > (v.length : Int) + rest.length)]; rfl
theorem stop (m : Nat) (x186 x187 x188 x189 x190 x191 x192 x193 x194 x195 x196 x197 x198 x199 x200 : Int) (x201 x202 x203 : Bool) : caps_Parse.l0 300 (m + 1) [] x186 x187 x188 x189 x190 x191 x192 x193 x194 x195 x196 x197 x198 x199 x200 x201 x202 x203 = some (.inl (x186, x187, x188, x189, x190, x191, x192, x193, x194, x195, x196, x197, x198, x199, x200)) := rfl
theorem skip (m : Nat) (k n : Int) (v rest : List Int) (x186 x187 x188 x189 x190 x191 x192 x193 x194 x195 x196 x197 x198 x199 x200 : Int) (x201 x202 x203 : Bool) (hk : 0 ≤ k ∧ k ≤ 255) (hn : n = (v.length : Int)) (hl : (k :: n :: (v ++ rest)).length ≤ 256) (h : ¬ (k ≥ 1 ∧ k ≤ 3)) : caps_Parse.l0 300 (m + 1) (k :: n :: (v ++ rest)) x186 x187 x188 x189 x190 x191 x192 x193 x194 x195 x196 x197 x198 x199 x200 x201 x202 x203 = caps_Parse.l0 300 m rest x186 x187 x188 x189 x190 x191 x192 x193 x194 x195 x196 x197 x198 x199 x200 x201 x202 x203 := by
  rw [step m k n v rest x186 x187 x188 x189 x190 x191 x192 x193 x194 x195 x196 x197 x198 x199 x200 x201 x202 x203 hk hn hl]
  have k1 : (k == 1) = false := beq_eq_false_iff_ne.2 (by omega)
  have k2 : (k == 2) = false := beq_eq_false_iff_ne.2 (by omega)
  have k3 : (k == 3) = false := beq_eq_false_iff_ne.2 (by omega)
  exact bif_eq_f k1 (bif_eq_f k2 (bif_eq_f k3 (bnd_eq (x := .inr (.inr (.inr ()))) (bif_eq_f k1 (bif_eq_f k2 (bif_eq_f k3 rfl))) rfl)))
theorem rec1 (m : Nat) (a0 a1 a2 a3 a4 a5 a6 a7 : Int) (rest : List Int) (x186 x187 x188 x189 x190 x191 x192 x193 x194 x195 x196 x197 x198 x199 x200 : Int) (x202 x203 : Bool) (h0 : 0 ≤ a0 ∧ a0 ≤ 255) (h1 : 0 ≤ a1 ∧ a1 ≤ 255) (h2 : 0 ≤ a2 ∧ a2 ≤ 255) (h3 : 0 ≤ a3 ∧ a3 ≤ 255) (h4 : 0 ≤ a4 ∧ a4 ≤ 255) (h5 : 0 ≤ a5 ∧ a5 ≤ 255) (h6 : 0 ≤ a6 ∧ a6 ≤ 255) (h7 : 0 ≤ a7 ∧ a7 ≤ 255) (hz : ((a0 == 0) && ((a1 == 0) && ((a2 == 0) && ((a3 == 0) && ((a4 == 0) && ((a5 == 0) && ((a6 == 0) && ((a7 == 0))))))))) = false) (hl : (1 :: 8 :: ([a0, a1, a2, a3, a4, a5, a6, a7] ++ rest)).length ≤ 256) : caps_Parse.l0 300 (m + 1) (1 :: 8 :: ([a0, a1, a2, a3, a4, a5, a6, a7] ++ rest)) x186 x187 x188 x189 x190 x191 x192 x193 x194 x195 x196 x197 x198 x199 x200 false x202 x203 = caps_Parse.l0 300 m rest a0 a1 a2 a3 a4 a5 a6 a7 x194 x195 x196 x197 x198 x199 x200 true x202 x203 := by
  rw [step m 1 8 [a0, a1, a2, a3, a4, a5, a6, a7] rest x186 x187 x188 x189 x190 x191 x192 x193 x194 x195 x196 x197 x198 x199 x200 false x202 x203 ⟨by decide, by decide⟩ rfl hl]
  have w0 : kwrap .i64 a0 = a0 := kw_i64 (by omega) (by omega)
  have w1 : kwrap .i64 a1 = a1 := kw_i64 (by omega) (by omega)
  have w2 : kwrap .i64 a2 = a2 := kw_i64 (by omega) (by omega)
  have w3 : kwrap .i64 a3 = a3 := kw_i64 (by omega) (by omega)
  have w4 : kwrap .i64 a4 = a4 := kw_i64 (by omega) (by omega)
  have w5 : kwrap .i64 a5 = a5 := kw_i64 (by omega) (by omega)
  have w6 : kwrap .i64 a6 = a6 := kw_i64 (by omega) (by omega)
  have w7 : kwrap .i64 a7 = a7 := kw_i64 (by omega) (by omega)
  exact bif_eq_t rfl (bnd_eq rfl (bif_eq_f rfl (bnd_eq (x := (a0, a1, a2, a3, a4, a5, a6, a7)) (by refine gd_eq (by simp) ?_; refine gd_eq (by simp) ?_; refine gd_eq (by simp) ?_; refine gd_eq (by simp) ?_; refine gd_eq (by simp) ?_; refine gd_eq (by simp) ?_; refine gd_eq (by simp) ?_; refine gd_eq (by simp) ?_; exact congrArg some (by show (kwrap .i64 a0, kwrap .i64 a1, kwrap .i64 a2, kwrap .i64 a3, kwrap .i64 a4, kwrap .i64 a5, kwrap .i64 a6, kwrap .i64 a7) = (a0, a1, a2, a3, a4, a5, a6, a7); rw [w0, w1, w2, w3, w4, w5, w6, w7])) (bif_eq_f (by rw [hz]; rfl) rfl))))
theorem rec2 (m : Nat) (a0 a1 a2 a3 a4 : Int) (rest : List Int) (x186 x187 x188 x189 x190 x191 x192 x193 x194 x195 x196 x197 x198 x199 x200 : Int) (x201 x203 : Bool) (h0 : 0 ≤ a0 ∧ a0 ≤ 255) (h1 : 0 ≤ a1 ∧ a1 ≤ 255) (h2 : 0 ≤ a2 ∧ a2 ≤ 255) (h3 : 0 ≤ a3 ∧ a3 ≤ 255) (h4 : 0 ≤ a4 ∧ a4 ≤ 255) (hz : ((a0 == 0) && ((a1 == 0) && ((a2 == 0) && ((a3 == 0) && ((a4 == 0)))))) = false) (hl : (2 :: 5 :: ([a0, a1, a2, a3, a4] ++ rest)).length ≤ 256) : caps_Parse.l0 300 (m + 1) (2 :: 5 :: ([a0, a1, a2, a3, a4] ++ rest)) x186 x187 x188 x189 x190 x191 x192 x193 x194 x195 x196 x197 x198 x199 x200 x201 false x203 = caps_Parse.l0 300 m rest x186 x187 x188 x189 x190 x191 x192 x193 a0 a1 a2 a3 a4 x199 x200 x201 true x203 := by
  rw [step m 2 5 [a0, a1, a2, a3, a4] rest x186 x187 x188 x189 x190 x191 x192 x193 x194 x195 x196 x197 x198 x199 x200 x201 false x203 ⟨by decide, by decide⟩ rfl hl]
  have w0 : kwrap .i64 a0 = a0 := kw_i64 (by omega) (by omega)
  have w1 : kwrap .i64 a1 = a1 := kw_i64 (by omega) (by omega)
  have w2 : kwrap .i64 a2 = a2 := kw_i64 (by omega) (by omega)
  have w3 : kwrap .i64 a3 = a3 := kw_i64 (by omega) (by omega)
  have w4 : kwrap .i64 a4 = a4 := kw_i64 (by omega) (by omega)
  exact bif_eq_f rfl (bif_eq_t rfl (bnd_eq rfl (bif_eq_f rfl (bnd_eq (x := (a0, a1, a2, a3, a4)) (by refine gd_eq (by simp) ?_; refine gd_eq (by simp) ?_; refine gd_eq (by simp) ?_; refine gd_eq (by simp) ?_; refine gd_eq (by simp) ?_; exact congrArg some (by show (kwrap .i64 a0, kwrap .i64 a1, kwrap .i64 a2, kwrap .i64 a3, kwrap .i64 a4) = (a0, a1, a2, a3, a4); rw [w0, w1, w2, w3, w4])) (bif_eq_f hz rfl)))))
theorem rec3 (m : Nat) (a0 a1 : Int) (rest : List Int) (x186 x187 x188 x189 x190 x191 x192 x193 x194 x195 x196 x197 x198 x199 x200 : Int) (x201 x202 : Bool) (h0 : 0 ≤ a0 ∧ a0 ≤ 255) (h1 : 0 ≤ a1 ∧ a1 ≤ 255) (hl : (3 :: 2 :: ([a0, a1] ++ rest)).length ≤ 256) : caps_Parse.l0 300 (m + 1) (3 :: 2 :: ([a0, a1] ++ rest)) x186 x187 x188 x189 x190 x191 x192 x193 x194 x195 x196 x197 x198 x199 x200 x201 x202 false = caps_Parse.l0 300 m rest x186 x187 x188 x189 x190 x191 x192 x193 x194 x195 x196 x197 x198 a0 a1 x201 x202 true := by
  rw [step m 3 2 [a0, a1] rest x186 x187 x188 x189 x190 x191 x192 x193 x194 x195 x196 x197 x198 x199 x200 x201 x202 false ⟨by decide, by decide⟩ rfl hl]
  have w0 : kwrap .i64 a0 = a0 := kw_i64 (by omega) (by omega)
  have w1 : kwrap .i64 a1 = a1 := kw_i64 (by omega) (by omega)
  exact bif_eq_f rfl (bif_eq_f rfl (bif_eq_t rfl (bnd_eq rfl (bif_eq_f rfl (bnd_eq (x := (a0, a1)) (by refine gd_eq (by simp) ?_; refine gd_eq (by simp) ?_; exact congrArg some (by show (kwrap .i64 a0, kwrap .i64 a1) = (a0, a1); rw [w0, w1])) rfl)))))
theorem twice (m : Nat) (a0 a1 : Int) (rest : List Int) (x186 x187 x188 x189 x190 x191 x192 x193 x194 x195 x196 x197 x198 x199 x200 : Int) (B0 B1 : Bool) (hl : (3 :: 2 :: ([a0, a1] ++ rest)).length ≤ 256) : caps_Parse.l0 300 (m + 1) (3 :: 2 :: ([a0, a1] ++ rest)) x186 x187 x188 x189 x190 x191 x192 x193 x194 x195 x196 x197 x198 x199 x200 B0 B1 true = some (.inr (0, 0, 0, 0, 0, 0, 0, 0, 0, 0, 0, 0, 0, 0, 0, 230)) := by
  rw [step m 3 2 [a0, a1] rest x186 x187 x188 x189 x190 x191 x192 x193 x194 x195 x196 x197 x198 x199 x200 B0 B1 true ⟨by decide, by decide⟩ rfl hl]
  exact bif_eq_f rfl (bif_eq_f rfl (bif_eq_t rfl (bnd_eq rfl (bif_eq_t rfl rfl))))
def s1 (p0 p1 p2 p3 p4 p5 p6 p7 : Int) : List Int := bif z8 p0 p1 p2 p3 p4 p5 p6 p7 then [] else [1, 8, p0, p1, p2, p3, p4, p5, p6, p7]
def s2 (p8 p9 p10 p11 p12 : Int) : List Int := bif z5 p8 p9 p10 p11 p12 then [] else [2, 5, p8, p9, p10, p11, p12]
theorem rng (p0 p1 p2 p3 p4 p5 p6 p7 p8 p9 p10 p11 p12 p13 p14 : Int) (h : chk p0 p1 p2 p3 p4 p5 p6 p7 p8 p9 p10 p11 p12 p13 p14 = true) : (0 ≤ p0 ∧ p0 ≤ 255) ∧ (0 ≤ p1 ∧ p1 ≤ 255) ∧ (0 ≤ p2 ∧ p2 ≤ 255) ∧ (0 ≤ p3 ∧ p3 ≤ 255) ∧ (0 ≤ p4 ∧ p4 ≤ 255) ∧ (0 ≤ p5 ∧ p5 ≤ 255) ∧ (0 ≤ p6 ∧ p6 ≤ 255) ∧ (0 ≤ p7 ∧ p7 ≤ 255) ∧ (0 ≤ p8 ∧ p8 ≤ 255) ∧ (0 ≤ p9 ∧ p9 ≤ 255) ∧ (0 ≤ p10 ∧ p10 ≤ 255) ∧ (0 ≤ p11 ∧ p11 ≤ 255) ∧ (0 ≤ p12 ∧ p12 ≤ 255) ∧ (0 ≤ p13 ∧ p13 ≤ 255) ∧ (0 ≤ p14 ∧ p14 ≤ 255) := by
  unfold chk mayS mayL at h
  simp only [Bool.and_eq_true, Bool.or_eq_true, set_t, span_t] at h
  obtain ⟨_, h1, h2, h3, h4⟩ := h
  have g1 : (0 ≤ p0 ∧ p0 ≤ 255) ∧ (0 ≤ p1 ∧ p1 ≤ 255) ∧ (0 ≤ p2 ∧ p2 ≤ 255) ∧ (0 ≤ p3 ∧ p3 ≤ 255) ∧ (0 ≤ p4 ∧ p4 ≤ 255) ∧ (0 ≤ p5 ∧ p5 ≤ 255) ∧ (0 ≤ p6 ∧ p6 ≤ 255) ∧ (0 ≤ p7 ∧ p7 ≤ 255) := by
    rcases h1 with h1 | h1
    · unfold z8 at h1
      simp only [Bool.and_eq_true, beq_iff_eq] at h1
      omega
    · omega
  have g2 : (0 ≤ p8 ∧ p8 ≤ 255) ∧ (0 ≤ p9 ∧ p9 ≤ 255) ∧ (0 ≤ p10 ∧ p10 ≤ 255) ∧ (0 ≤ p11 ∧ p11 ≤ 255) ∧ (0 ≤ p12 ∧ p12 ≤ 255) := by
    rcases h2 with h2 | h2
    · unfold z5 at h2
      simp only [Bool.and_eq_true, beq_iff_eq] at h2
      omega
    · omega
  omega
theorem z8_t (p0 p1 p2 p3 p4 p5 p6 p7 : Int) (h : z8 p0 p1 p2 p3 p4 p5 p6 p7 = true) : p0 = 0 ∧ p1 = 0 ∧ p2 = 0 ∧ p3 = 0 ∧ p4 = 0 ∧ p5 = 0 ∧ p6 = 0 ∧ p7 = 0 := by
  unfold z8 at h; simp only [Bool.and_eq_true, beq_iff_eq] at h; omega
theorem z5_t (p8 p9 p10 p11 p12 : Int) (h : z5 p8 p9 p10 p11 p12 = true) : p8 = 0 ∧ p9 = 0 ∧ p10 = 0 ∧ p11 = 0 ∧ p12 = 0 := by
  unfold z5 at h; simp only [Bool.and_eq_true, beq_iff_eq] at h; omega
/-- the records of what an end can, read from the beginning -/
theorem recs (m : Nat) (rest : List Int) (p0 p1 p2 p3 p4 p5 p6 p7 p8 p9 p10 p11 p12 p13 p14 : Int) (h : chk p0 p1 p2 p3 p4 p5 p6 p7 p8 p9 p10 p11 p12 p13 p14 = true) (hl : (s1 p0 p1 p2 p3 p4 p5 p6 p7 ++ (s2 p8 p9 p10 p11 p12 ++ (3 :: 2 :: ([p13, p14] ++ rest)))).length ≤ 256) : ∃ B0 B1, caps_Parse.l0 300 (m + 3) (s1 p0 p1 p2 p3 p4 p5 p6 p7 ++ (s2 p8 p9 p10 p11 p12 ++ (3 :: 2 :: ([p13, p14] ++ rest)))) 0 0 0 0 0 0 0 0 0 0 0 0 0 0 0 false false false = caps_Parse.l0 300 m rest p0 p1 p2 p3 p4 p5 p6 p7 p8 p9 p10 p11 p12 p13 p14 B0 B1 true ∨ caps_Parse.l0 300 (m + 3) (s1 p0 p1 p2 p3 p4 p5 p6 p7 ++ (s2 p8 p9 p10 p11 p12 ++ (3 :: 2 :: ([p13, p14] ++ rest)))) 0 0 0 0 0 0 0 0 0 0 0 0 0 0 0 false false false = caps_Parse.l0 300 (m + 1) rest p0 p1 p2 p3 p4 p5 p6 p7 p8 p9 p10 p11 p12 p13 p14 B0 B1 true ∨ caps_Parse.l0 300 (m + 3) (s1 p0 p1 p2 p3 p4 p5 p6 p7 ++ (s2 p8 p9 p10 p11 p12 ++ (3 :: 2 :: ([p13, p14] ++ rest)))) 0 0 0 0 0 0 0 0 0 0 0 0 0 0 0 false false false = caps_Parse.l0 300 (m + 2) rest p0 p1 p2 p3 p4 p5 p6 p7 p8 p9 p10 p11 p12 p13 p14 B0 B1 true := by
  obtain ⟨r0, r1, r2, r3, r4, r5, r6, r7, r8, r9, r10, r11, r12, r13, r14⟩ := rng p0 p1 p2 p3 p4 p5 p6 p7 p8 p9 p10 p11 p12 p13 p14 h
  rcases Bool.eq_false_or_eq_true (z8 p0 p1 p2 p3 p4 p5 p6 p7) with e | e <;> rcases Bool.eq_false_or_eq_true (z5 p8 p9 p10 p11 p12) with e' | e' <;> unfold s1 s2 at hl ⊢ <;> rw [e, e'] at hl ⊢ <;> dsimp only [cond, List.nil_append, List.cons_append] at hl ⊢
  · exfalso; unfold chk at h; rw [e, e'] at h; cases h
  · obtain ⟨rfl, rfl, rfl, rfl, rfl, rfl, rfl, rfl⟩ := z8_t p0 p1 p2 p3 p4 p5 p6 p7 e
    refine ⟨false, true, .inr (.inl ?_)⟩
    refine (rec2 (m + 2) p8 p9 p10 p11 p12 (3 :: 2 :: ([p13, p14] ++ rest)) 0 0 0 0 0 0 0 0 0 0 0 0 0 0 0 false false r8 r9 r10 r11 r12 e' hl).trans ?_
    exact rec3 (m + 1) p13 p14 rest _ _ _ _ _ _ _ _ _ _ _ _ _ _ _ _ _ r13 r14 (by simp at hl ⊢; omega)
  · obtain ⟨rfl, rfl, rfl, rfl, rfl⟩ := z5_t p8 p9 p10 p11 p12 e'
    refine ⟨true, false, .inr (.inl ?_)⟩
    refine (rec1 (m + 2) p0 p1 p2 p3 p4 p5 p6 p7 (3 :: 2 :: ([p13, p14] ++ rest)) 0 0 0 0 0 0 0 0 0 0 0 0 0 0 0 false false r0 r1 r2 r3 r4 r5 r6 r7 e hl).trans ?_
    exact rec3 (m + 1) p13 p14 rest _ _ _ _ _ _ _ _ _ _ _ _ _ _ _ _ _ r13 r14 (by simp at hl ⊢; omega)
  · refine ⟨true, true, .inl ?_⟩
    refine (rec1 (m + 2) p0 p1 p2 p3 p4 p5 p6 p7 (2 :: 5 :: ([p8, p9, p10, p11, p12] ++ (3 :: 2 :: ([p13, p14] ++ rest)))) 0 0 0 0 0 0 0 0 0 0 0 0 0 0 0 false false r0 r1 r2 r3 r4 r5 r6 r7 e hl).trans ?_
    refine (rec2 (m + 1) p8 p9 p10 p11 p12 (3 :: 2 :: ([p13, p14] ++ rest)) _ _ _ _ _ _ _ _ _ _ _ _ _ _ _ _ _ r8 r9 r10 r11 r12 e' (by simp at hl ⊢; omega)).trans ?_
    exact rec3 m p13 p14 rest _ _ _ _ _ _ _ _ _ _ _ _ _ _ _ _ _ r13 r14 (by simp at hl ⊢; omega)
theorem recs' (m : Nat) (rest : List Int) (p0 p1 p2 p3 p4 p5 p6 p7 p8 p9 p10 p11 p12 p13 p14 : Int) (h : chk p0 p1 p2 p3 p4 p5 p6 p7 p8 p9 p10 p11 p12 p13 p14 = true) (hl : (s1 p0 p1 p2 p3 p4 p5 p6 p7 ++ (s2 p8 p9 p10 p11 p12 ++ (3 :: 2 :: ([p13, p14] ++ rest)))).length ≤ 256) : ∃ q B0 B1, caps_Parse.l0 300 (m + 4) (s1 p0 p1 p2 p3 p4 p5 p6 p7 ++ (s2 p8 p9 p10 p11 p12 ++ (3 :: 2 :: ([p13, p14] ++ rest)))) 0 0 0 0 0 0 0 0 0 0 0 0 0 0 0 false false false = caps_Parse.l0 300 (m + q + 1) rest p0 p1 p2 p3 p4 p5 p6 p7 p8 p9 p10 p11 p12 p13 p14 B0 B1 true := by
  obtain ⟨B0, B1, h | h | h⟩ := recs (m + 1) rest p0 p1 p2 p3 p4 p5 p6 p7 p8 p9 p10 p11 p12 p13 p14 h hl
  · exact ⟨0, B0, B1, h⟩
  · exact ⟨1, B0, B1, h⟩
  · exact ⟨2, B0, B1, h⟩
def bs (p0 p1 p2 p3 p4 p5 p6 p7 p8 p9 p10 p11 p12 p13 p14 : Int) : List Int := s1 p0 p1 p2 p3 p4 p5 p6 p7 ++ (s2 p8 p9 p10 p11 p12 ++ [3, 2, p13, p14])
theorem bs_len (p0 p1 p2 p3 p4 p5 p6 p7 p8 p9 p10 p11 p12 p13 p14 : Int) : (bs p0 p1 p2 p3 p4 p5 p6 p7 p8 p9 p10 p11 p12 p13 p14).length ≤ 21 ∧ 4 ≤ (bs p0 p1 p2 p3 p4 p5 p6 p7 p8 p9 p10 p11 p12 p13 p14).length := by
  unfold bs s1 s2
  cases z8 p0 p1 p2 p3 p4 p5 p6 p7 <;> cases z5 p8 p9 p10 p11 p12 <;> simp
theorem fin_w (p0 p1 p2 p3 p4 p5 p6 p7 p8 p9 p10 p11 p12 p13 p14 : Int) (h : chk p0 p1 p2 p3 p4 p5 p6 p7 p8 p9 p10 p11 p12 p13 p14 = true) : ((caps_Check 300 p0 p1 p2 p3 p4 p5 p6 p7 p8 p9 p10 p11 p12 p13 p14).bind fun r169 =>
        bif r169 != 0 then some (0, 0, 0, 0, 0, 0, 0, 0, 0, 0, 0, 0, 0, 0, 0, 230)
        else some (p0, p1, p2, p3, p4, p5, p6, p7, p8, p9, p10, p11, p12, p13, p14, (0 : Int))) = some (p0, p1, p2, p3, p4, p5, p6, p7, p8, p9, p10, p11, p12, p13, p14, 0) := bnd_eq ((chk_w p0 p1 p2 p3 p4 p5 p6 p7 p8 p9 p10 p11 p12 p13 p14).trans (by rw [h])) (bif_eq_f rfl rfl)
theorem parse_bs (p0 p1 p2 p3 p4 p5 p6 p7 p8 p9 p10 p11 p12 p13 p14 : Int) (h : chk p0 p1 p2 p3 p4 p5 p6 p7 p8 p9 p10 p11 p12 p13 p14 = true) : caps_Parse 300 (bs p0 p1 p2 p3 p4 p5 p6 p7 p8 p9 p10 p11 p12 p13 p14) = some (p0, p1, p2, p3, p4, p5, p6, p7, p8, p9, p10, p11, p12, p13, p14, 0) := by
  have hl := bs_len p0 p1 p2 p3 p4 p5 p6 p7 p8 p9 p10 p11 p12 p13 p14
  obtain ⟨q, B0, B1, e⟩ := recs' 296 [] p0 p1 p2 p3 p4 p5 p6 p7 p8 p9 p10 p11 p12 p13 p14 h (by have := hl.1; unfold bs at this; exact Nat.le_trans this (by decide))
  refine bif_eq_f (decide_eq_false (by omega)) (bnd_eq (e.trans (stop _ _ _ _ _ _ _ _ _ _ _ _ _ _ _ _ _ _ _)) ?_)
  exact fin_w p0 p1 p2 p3 p4 p5 p6 p7 p8 p9 p10 p11 p12 p13 p14 h
theorem u8 {x : Int} (h : 0 ≤ x ∧ x ≤ 255) : kwrap .u8 x = x := by rw [kw_u8]; omega
theorem bytes_w (p0 p1 p2 p3 p4 p5 p6 p7 p8 p9 p10 p11 p12 p13 p14 : Int) (h : chk p0 p1 p2 p3 p4 p5 p6 p7 p8 p9 p10 p11 p12 p13 p14 = true) : caps_Bytes 300 p0 p1 p2 p3 p4 p5 p6 p7 p8 p9 p10 p11 p12 p13 p14 = some (.inr (bs p0 p1 p2 p3 p4 p5 p6 p7 p8 p9 p10 p11 p12 p13 p14)) := by
  obtain ⟨r0, r1, r2, r3, r4, r5, r6, r7, r8, r9, r10, r11, r12, r13, r14⟩ := rng p0 p1 p2 p3 p4 p5 p6 p7 p8 p9 p10 p11 p12 p13 p14 h
  refine bnd_eq ((chk_w p0 p1 p2 p3 p4 p5 p6 p7 p8 p9 p10 p11 p12 p13 p14).trans (by rw [h])) (bif_eq_f rfl ?_)
  refine bnd_eq (x := bs p0 p1 p2 p3 p4 p5 p6 p7 p8 p9 p10 p11 p12 p13 p14) ?_ rfl
  refine bnd_eq (x := (z8 p0 p1 p2 p3 p4 p5 p6 p7, s1 p0 p1 p2 p3 p4 p5 p6 p7)) ?_ ?_
  · rcases Bool.eq_false_or_eq_true (z8 p0 p1 p2 p3 p4 p5 p6 p7) with e | e
    · refine bif_eq_t (by rw [show ((p0 == 0) && ((p1 == 0) && ((p2 == 0) && ((p3 == 0) && ((p4 == 0) && ((p5 == 0) && ((p6 == 0) && ((p7 == 0))))))))) = true from e]; rfl) ?_
      unfold s1; rw [e, show ((p0 == 0) && ((p1 == 0) && ((p2 == 0) && ((p3 == 0) && ((p4 == 0) && ((p5 == 0) && ((p6 == 0) && ((p7 == 0))))))))) = true from e]; rfl
    · refine bif_eq_f (by rw [show ((p0 == 0) && ((p1 == 0) && ((p2 == 0) && ((p3 == 0) && ((p4 == 0) && ((p5 == 0) && ((p6 == 0) && ((p7 == 0))))))))) = false from e]; rfl) (bnd_eq rfl (gd_eq (by decide) (bnd_eq (x := s1 p0 p1 p2 p3 p4 p5 p6 p7) ?_ (by rw [show ((p0 == 0) && ((p1 == 0) && ((p2 == 0) && ((p3 == 0) && ((p4 == 0) && ((p5 == 0) && ((p6 == 0) && ((p7 == 0))))))))) = false from e, e]))))
      refine gd_eq (by simp) (gd_eq (by simp) (gd_eq (by simp) (gd_eq (by simp) (gd_eq (by simp) (gd_eq (by simp) (gd_eq (by simp) (gd_eq (by simp) ?_)))))))
      try dsimp only
      rw [u8 r0, u8 r1, u8 r2, u8 r3, u8 r4, u8 r5, u8 r6, u8 r7]
      unfold s1; rw [e]; rfl
  · have hs : (s1 p0 p1 p2 p3 p4 p5 p6 p7).length ≤ 10 := by unfold s1; cases z8 p0 p1 p2 p3 p4 p5 p6 p7 <;> simp
    refine bnd_eq (x := (z5 p8 p9 p10 p11 p12, s1 p0 p1 p2 p3 p4 p5 p6 p7 ++ s2 p8 p9 p10 p11 p12)) ?_ ?_
    · rcases Bool.eq_false_or_eq_true (z5 p8 p9 p10 p11 p12) with e | e
      · refine bif_eq_t e ?_
        unfold s2; rw [e, show ((p8 == 0) && ((p9 == 0) && ((p10 == 0) && ((p11 == 0) && ((p12 == 0)))))) = true from e]; simp
      · refine bif_eq_f e (bnd_eq rfl (gd_eq (by simp; omega) (bnd_eq (x := s1 p0 p1 p2 p3 p4 p5 p6 p7 ++ s2 p8 p9 p10 p11 p12) ?_ (by rw [show ((p8 == 0) && ((p9 == 0) && ((p10 == 0) && ((p11 == 0) && ((p12 == 0)))))) = false from e, e]))))
        refine gd_eq (by simp; omega) (gd_eq (by simp; omega) (gd_eq (by simp; omega) (gd_eq (by simp; omega) (gd_eq (by simp; omega) ?_))))
        try dsimp only
        rw [u8 r8, u8 r9, u8 r10, u8 r11, u8 r12]
        unfold s2; rw [e]; simp
    · have hs2 : (s2 p8 p9 p10 p11 p12).length ≤ 7 := by unfold s2; cases z5 p8 p9 p10 p11 p12 <;> simp
      refine bnd_eq rfl (gd_eq (by simp; omega) (bnd_eq (x := bs p0 p1 p2 p3 p4 p5 p6 p7 p8 p9 p10 p11 p12 p13 p14) (gd_eq (by simp; omega) (gd_eq (by simp; omega) ?_)) rfl))
      try dsimp only
      rw [u8 r13, u8 r14]
      unfold bs; simp
theorem bytes_no (p0 p1 p2 p3 p4 p5 p6 p7 p8 p9 p10 p11 p12 p13 p14 : Int) (h : chk p0 p1 p2 p3 p4 p5 p6 p7 p8 p9 p10 p11 p12 p13 p14 = false) : caps_Bytes 300 p0 p1 p2 p3 p4 p5 p6 p7 p8 p9 p10 p11 p12 p13 p14 = some (.inl 1) := bnd_eq ((chk_w p0 p1 p2 p3 p4 p5 p6 p7 p8 p9 p10 p11 p12 p13 p14).trans (by rw [h]; rfl)) (bif_eq_t rfl rfl)
theorem all_self (x : Int) : (x == x) = true := by simp
theorem parse3 (l : List Int) : caps_Parse_3 300 l = caps_Parse 300 l := rfl
theorem back_w (p0 p1 p2 p3 p4 p5 p6 p7 p8 p9 p10 p11 p12 p13 p14 p15 : Int) (p16 : List Int) (hk : 0 ≤ p15 ∧ p15 ≤ 255) : psalterylaw23_CapsBack 300 p0 p1 p2 p3 p4 p5 p6 p7 p8 p9 p10 p11 p12 p13 p14 p15 p16 = some true := by
  refine bnd_eq (show psalterylaw23_alive 300 = some true by kernel_rfl) (bif_eq_f rfl ?_)
  by_cases hv : (p16.length : Int) > 100
  · exact bif_eq_t (decide_eq_true hv) rfl
  refine bif_eq_f (decide_eq_false hv) (bnd_eq rfl ?_)
  rcases Bool.eq_false_or_eq_true (chk p0 p1 p2 p3 p4 p5 p6 p7 p8 p9 p10 p11 p12 p13 p14) with h | h
  · have hb := bs_len p0 p1 p2 p3 p4 p5 p6 p7 p8 p9 p10 p11 p12 p13 p14
    refine bnd_eq (bytes_w p0 p1 p2 p3 p4 p5 p6 p7 p8 p9 p10 p11 p12 p13 p14 h) (bnd_eq (parse_bs p0 p1 p2 p3 p4 p5 p6 p7 p8 p9 p10 p11 p12 p13 p14 h) (bnd_eq (x := false) ?_ (bif_eq_f rfl ?_)))
    · refine bif_eq_f rfl (bnd_eq rfl ?_)
      dsimp only
      rw [all_self, all_self, all_self, all_self, all_self, all_self, all_self, all_self, all_self, all_self, all_self, all_self, all_self, all_self, all_self]; rfl
    · rcases Bool.eq_false_or_eq_true (bif decide (p15 ≥ 1) then decide (p15 ≤ 3) else false) with c | c
      · refine bif_eq_t c (gd_eq (by simp; omega) (gd_eq ?_ (gd_eq ?_ ?_)))
        · rw [kw_i64 (by omega) (by omega)]; omega
        · try dsimp only
          rw [kw_i64 (by omega) (by omega)]; simp; omega
        · try dsimp only
          have e : [] ++ bs p0 p1 p2 p3 p4 p5 p6 p7 p8 p9 p10 p11 p12 p13 p14 ++ ((bs p0 p1 p2 p3 p4 p5 p6 p7 p8 p9 p10 p11 p12 p13 p14).take (Int.toNat ((bs p0 p1 p2 p3 p4 p5 p6 p7 p8 p9 p10 p11 p12 p13 p14).length : Int))).drop (Int.toNat (kwrap .i64 (((bs p0 p1 p2 p3 p4 p5 p6 p7 p8 p9 p10 p11 p12 p13 p14).length : Int) - 4))) = s1 p0 p1 p2 p3 p4 p5 p6 p7 ++ (s2 p8 p9 p10 p11 p12 ++ (3 :: 2 :: ([p13, p14] ++ (3 :: 2 :: ([p13, p14] ++ []))))) := by
            rw [kw_i64 (by omega) (by omega), Int.toNat_natCast, List.take_length]
            unfold bs s1 s2
            cases z8 p0 p1 p2 p3 p4 p5 p6 p7 <;> cases z5 p8 p9 p10 p11 p12 <;> rfl
          rw [e]
          have hl : (s1 p0 p1 p2 p3 p4 p5 p6 p7 ++ (s2 p8 p9 p10 p11 p12 ++ (3 :: 2 :: ([p13, p14] ++ (3 :: 2 :: ([p13, p14] ++ [])))))).length ≤ 256 := by
            unfold s1 s2; cases z8 p0 p1 p2 p3 p4 p5 p6 p7 <;> cases z5 p8 p9 p10 p11 p12 <;> simp
          obtain ⟨q, B0, B1, e'⟩ := recs' 296 (3 :: 2 :: ([p13, p14] ++ [])) p0 p1 p2 p3 p4 p5 p6 p7 p8 p9 p10 p11 p12 p13 p14 h hl
          refine bnd_eq (x := (0, 0, 0, 0, 0, 0, 0, 0, 0, 0, 0, 0, 0, 0, 0, 230)) ?_ rfl
          rw [parse3]
          exact bif_eq_f (decide_eq_false (by omega)) (bnd_eq (e'.trans (twice _ _ _ _ _ _ _ _ _ _ _ _ _ _ _ _ _ _ _ _ _ (by simp))) rfl)
      · have hk' : ¬ (p15 ≥ 1 ∧ p15 ≤ 3) := by
          intro hh
          rw [decide_eq_true hh.1, decide_eq_true hh.2] at c
          cases c
        have e8 : kwrap .u8 (p16.length : Int) = (p16.length : Int) := u8 (by omega)
        refine bif_eq_f c (gd_eq (by simp; omega) (gd_eq ?_ ?_))
        · try dsimp only
          simp; omega
        · try dsimp only
          rw [e8]
          have e : [] ++ ([p15, (p16.length : Int)] ++ p16) ++ bs p0 p1 p2 p3 p4 p5 p6 p7 p8 p9 p10 p11 p12 p13 p14 ++ ([p15, (p16.length : Int)] ++ p16) = p15 :: (p16.length : Int) :: (p16 ++ (s1 p0 p1 p2 p3 p4 p5 p6 p7 ++ (s2 p8 p9 p10 p11 p12 ++ (3 :: 2 :: ([p13, p14] ++ (p15 :: (p16.length : Int) :: (p16 ++ []))))))) := by
            unfold bs; simp
          rw [e]
          by_cases hb2 : ((p15 :: (p16.length : Int) :: (p16 ++ (s1 p0 p1 p2 p3 p4 p5 p6 p7 ++ (s2 p8 p9 p10 p11 p12 ++ (3 :: 2 :: ([p13, p14] ++ (p15 :: (p16.length : Int) :: (p16 ++ [])))))))).length : Int) > 256
          · refine bnd_eq (bif_eq_t (decide_eq_true hb2) rfl) (bnd_eq (x := true) (bif_eq_t (decide_eq_true hb2) (by rw [decide_eq_true hb2]; rfl)) rfl)
          · have hl : (p15 :: (p16.length : Int) :: (p16 ++ (s1 p0 p1 p2 p3 p4 p5 p6 p7 ++ (s2 p8 p9 p10 p11 p12 ++ (3 :: 2 :: ([p13, p14] ++ (p15 :: (p16.length : Int) :: (p16 ++ [])))))))).length ≤ 256 := by omega
            obtain ⟨q, B0, B1, e'⟩ := recs' 295 (p15 :: (p16.length : Int) :: (p16 ++ [])) p0 p1 p2 p3 p4 p5 p6 p7 p8 p9 p10 p11 p12 p13 p14 h (by simp at hl ⊢; omega)
            have hp : caps_Parse 300 (p15 :: (p16.length : Int) :: (p16 ++ (s1 p0 p1 p2 p3 p4 p5 p6 p7 ++ (s2 p8 p9 p10 p11 p12 ++ (3 :: 2 :: ([p13, p14] ++ (p15 :: (p16.length : Int) :: (p16 ++ [])))))))) = some (p0, p1, p2, p3, p4, p5, p6, p7, p8, p9, p10, p11, p12, p13, p14, 0) := by
              have hz : caps_Parse.l0 300 300 (p15 :: (p16.length : Int) :: (p16 ++ (s1 p0 p1 p2 p3 p4 p5 p6 p7 ++ (s2 p8 p9 p10 p11 p12 ++ (3 :: 2 :: ([p13, p14] ++ (p15 :: (p16.length : Int) :: (p16 ++ [])))))))) 0 0 0 0 0 0 0 0 0 0 0 0 0 0 0 false false false = some (.inl (p0, p1, p2, p3, p4, p5, p6, p7, p8, p9, p10, p11, p12, p13, p14)) := by
                refine (skip 299 p15 _ p16 _ 0 0 0 0 0 0 0 0 0 0 0 0 0 0 0 false false false hk rfl hl hk').trans ?_
                refine e'.trans ?_
                refine (skip (295 + q) p15 _ p16 [] p0 p1 p2 p3 p4 p5 p6 p7 p8 p9 p10 p11 p12 p13 p14 B0 B1 true hk rfl (by simp; omega) hk').trans ?_
                rw [show 295 + q = (294 + q) + 1 by omega]
                rfl
              refine bif_eq_f (decide_eq_false hb2) (bnd_eq hz ?_)
              exact fin_w p0 p1 p2 p3 p4 p5 p6 p7 p8 p9 p10 p11 p12 p13 p14 h
            refine bnd_eq hp (bnd_eq (x := true) (bif_eq_f (decide_eq_false hb2) (bif_eq_t rfl (bnd_eq rfl ?_))) rfl)
            dsimp only
            rw [decide_eq_false hb2, all_self, all_self, all_self, all_self, all_self, all_self, all_self, all_self, all_self, all_self, all_self, all_self, all_self, all_self, all_self, all_self]; rfl
  · exact bnd_eq (bytes_no p0 p1 p2 p3 p4 p5 p6 p7 p8 p9 p10 p11 p12 p13 p14 h) (bif_eq_t rfl rfl)
end Go.Fo
