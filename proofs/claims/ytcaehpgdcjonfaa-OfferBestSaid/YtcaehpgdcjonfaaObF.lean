/- The functions of Go that are reached, as functions of plain values. -/
import Derived.Test.YtcaehpgdcjonfaaK3
namespace Go.Fo
def caps_Caps_fields (_K : Nat) (p0 : Int) (_p1 : Int) (_p2 : Int) (_p3 : Int) (_p4 : Int) (_p5 : Int) (_p6 : Int) (_p7 : Int) (_p8 : Int) (_p9 : Int) (_p10 : Int) (_p11 : Int) (_p12 : Int) (_p13 : Int) (_p14 : Int) (_p15 : Int) : Option ((Unit) ⊕ (Unit) ⊕ (Unit) ⊕ (Unit)) :=
  bif (p0 == 1) then
    some (.inl ())
  else
    bif (p0 == 2) then
      some (.inr (.inl ()))
    else
      bif (p0 == 3) then
        some (.inr (.inr (.inl ())))
      else
        some (.inr (.inr (.inr ())))
def caps_Caps_fields_2 (_K : Nat) (_p0 : Int) (_p1 : Int) (_p2 : Int) (_p3 : Int) (_p4 : Int) (_p5 : Int) (_p6 : Int) (_p7 : Int) (_p8 : Int) (_p9 : Int) (_p10 : Int) (_p11 : Int) (_p12 : Int) (_p13 : Int) (_p14 : Int) : Option (Unit) :=
  some ()
def caps_Caps_fields_3 (_K : Nat) (_p0 : Int) (_p1 : Int) (_p2 : Int) (_p3 : Int) (_p4 : Int) (_p5 : Int) (_p6 : Int) (_p7 : Int) (_p8 : Int) (_p9 : Int) (_p10 : Int) (_p11 : Int) (_p12 : Int) (_p13 : Int) (_p14 : Int) : Option (Unit) :=
  some ()
def caps_Caps_fields_4 (_K : Nat) (_p0 : Int) (_p1 : Int) (_p2 : Int) (_p3 : Int) (_p4 : Int) (_p5 : Int) (_p6 : Int) (_p7 : Int) (_p8 : Int) (_p9 : Int) (_p10 : Int) (_p11 : Int) (_p12 : Int) (_p13 : Int) (_p14 : Int) : Option (Unit) :=
  some ()
def caps_set (_K : Nat) (p0 : Int) (p1 : Int) : Option (Bool) :=
  let v1 := (decide (p0 > 0))
  let v2 := (kshl .i64 1 p1)
  let v3 := (decide (p0 < v2))
  let v4 := (bif v1 then v3 else false)
  gd ((v1 = true → (0 : Int) ≤ p1)) <|
  some v4
def caps_span (_K : Nat) (p0 : Int) (p1 : Int) (p2 : Int) (p3 : Int) : Option (Bool) :=
  let v1 := (decide (p2 ≤ p0))
  let v2 := (decide (p0 ≤ p1))
  let v3 := (bif v1 then v2 else false)
  let v4 := (decide (p1 ≤ p3))
  let v5 := (bif v3 then v4 else false)
  some v5
def caps_Sub_may (K : Nat) (p0 : Int) (p1 : Int) (p2 : Int) (p3 : Int) (p4 : Int) (p5 : Int) (p6 : Int) (p7 : Int) : Option (Bool) :=
  (
    let v17 := ((p0 == 0) && ((p1 == 0) && ((p2 == 0) && ((p3 == 0) && ((p4 == 0) && ((p5 == 0) && ((p6 == 0) && (p7 == 0))))))))
    bif v17 then
      some true
    else
      (caps_set K p0 4).bind fun r18 =>
      bif r18 then
        (caps_set K p1 2).bind fun r19 =>
        bif r19 then
          (caps_set K p2 2).bind fun r20 =>
          bif r20 then
            (caps_set K p3 4).bind fun r21 =>
            bif r21 then
              (caps_set K p4 2).bind fun r22 =>
              bif r22 then
                (caps_set K p5 2).bind fun r23 =>
                bif r23 then
                  (caps_span K p6 p7 2 250).bind fun r24 =>
                  some r24
                else
                  some false
              else
                some false
            else
              some false
          else
            some false
        else
          some false
      else
        some false : Option (Bool)).bind fun x16 =>
    some x16
def caps_Lap_may (K : Nat) (p0 : Int) (p1 : Int) (p2 : Int) (p3 : Int) (p4 : Int) : Option (Bool) :=
  (
    let v11 := ((p0 == 0) && ((p1 == 0) && ((p2 == 0) && ((p3 == 0) && (p4 == 0)))))
    bif v11 then
      some true
    else
      (caps_set K p0 4).bind fun r12 =>
      bif r12 then
        (caps_set K p1 2).bind fun r13 =>
        bif r13 then
          (caps_set K p2 4).bind fun r14 =>
          bif r14 then
            (caps_span K p3 p4 20 120).bind fun r15 =>
            some r15
          else
            some false
        else
          some false
      else
        some false : Option (Bool)).bind fun x10 =>
    some x10
def caps_Check (K : Nat) (p0 : Int) (p1 : Int) (p2 : Int) (p3 : Int) (p4 : Int) (p5 : Int) (p6 : Int) (p7 : Int) (p8 : Int) (p9 : Int) (p10 : Int) (p11 : Int) (p12 : Int) (p13 : Int) (p14 : Int) : Option (Int) :=
  let v6 := (!((p0 == 0) && ((p1 == 0) && ((p2 == 0) && ((p3 == 0) && ((p4 == 0) && ((p5 == 0) && ((p6 == 0) && (p7 == 0)))))))))
  let v7 := (!((p8 == 0) && ((p9 == 0) && ((p10 == 0) && ((p11 == 0) && (p12 == 0))))))
  let v8 := (bif v6 then true else v7)
  (
    bif (!v8) then
      some true
    else
      (caps_Sub_may K p0 p1 p2 p3 p4 p5 p6 p7).bind fun r14 =>
      bif (!r14) then
        some true
      else
        (caps_Lap_may K p8 p9 p10 p11 p12).bind fun r15 =>
        bif (!r15) then
          some true
        else
          (caps_span K p13 p13 1 16).bind fun r16 =>
          bif (!r16) then
            some true
          else
            (caps_span K p14 p14 1 8).bind fun r17 =>
            some (!r17) : Option (Bool)).bind fun x13 =>
    bif x13 then
      some 1
    else
      some 0
def caps_Parse.r0 (K : Nat)  (next : List (Int) → Int → Int → Int → Int → Int → Int → Int → Int → Int → Int → Int → Int → Int → Int → Int → Bool → Bool → Bool → Option ((Int × Int × Int × Int × Int × Int × Int × Int × Int × Int × Int × Int × Int × Int × Int) ⊕ (Int × Int × Int × Int × Int × Int × Int × Int × Int × Int × Int × Int × Int × Int × Int × Int))) (x185 : List (Int)) (x186 : Int) (x187 : Int) (x188 : Int) (x189 : Int) (x190 : Int) (x191 : Int) (x192 : Int) (x193 : Int) (x194 : Int) (x195 : Int) (x196 : Int) (x197 : Int) (x198 : Int) (x199 : Int) (x200 : Int) (x201 : Bool) (x202 : Bool) (x203 : Bool) : Option ((Int × Int × Int × Int × Int × Int × Int × Int × Int × Int × Int × Int × Int × Int × Int) ⊕ (Int × Int × Int × Int × Int × Int × Int × Int × Int × Int × Int × Int × Int × Int × Int × Int)) :=
  let v238 := (decide ((x185.length : Int) > 0))
  bif v238 then
    let v239 := (decide ((x185.length : Int) < 2))
    let v240 := (Kd.nth (.int .u8) x185 1)
    let v241 := (kwrap .i64 v240)
    let v242 := (kwrap .i64 ((x185.length : Int) - 2))
    let v243 := (decide (v241 > v242))
    let v244 := (bif v239 then true else v243)
    gd (((!v239) = true → 1 < (x185.length : Int))) <|
    bif v244 then
      some (.inr (0, 0, 0, 0, 0, 0, 0, 0, 0, 0, 0, 0, 0, 0, 0, 230))
    else
      let v245 := (Kd.nth (.int .u8) x185 0)
      gd (0 < (x185.length : Int)) <|
      let v246 := (kwrap .i64 v245)
      gd (1 < (x185.length : Int)) <|
      let v247 := (kwrap .i64 (2 + v241))
      let v248 := ((x185.take (Int.toNat v247)).drop (Int.toNat 2))
      gd (2 ≤ v247 ∧ v247 ≤ (x185.length : Int)) <|
      let v249 := (v248.length : Int)
      let v250 := (kwrap .i64 (2 + v249))
      let v251 := ((x185.take (Int.toNat (x185.length : Int))).drop (Int.toNat v250))
      gd ((0 : Int) ≤ v250 ∧ v250 ≤ (x185.length : Int) ∧ (x185.length : Int) ≤ (x185.length : Int)) <|
      bif v246 == 1 then
        (caps_Caps_fields_2 K x186 x187 x188 x189 x190 x191 x192 x193 x194 x195 x196 x197 x198 x199 x200).bind fun _ =>
        let v252 := (bif x201 then true else (v249 != 8))
        bif v252 then
          some (.inr (0, 0, 0, 0, 0, 0, 0, 0, 0, 0, 0, 0, 0, 0, 0, 230))
        else
          (
            let v264 := (Kd.nth (.int .u8) v248 0)
            let v265 := (kwrap .i64 v264)
            gd (0 < (v248.length : Int)) <|
            let v266 := (Kd.nth (.int .u8) v248 1)
            let v267 := (kwrap .i64 v266)
            gd (1 < (v248.length : Int)) <|
            let v268 := (Kd.nth (.int .u8) v248 2)
            let v269 := (kwrap .i64 v268)
            gd (2 < (v248.length : Int)) <|
            let v270 := (Kd.nth (.int .u8) v248 3)
            let v271 := (kwrap .i64 v270)
            gd (3 < (v248.length : Int)) <|
            let v272 := (Kd.nth (.int .u8) v248 4)
            let v273 := (kwrap .i64 v272)
            gd (4 < (v248.length : Int)) <|
            let v274 := (Kd.nth (.int .u8) v248 5)
            let v275 := (kwrap .i64 v274)
            gd (5 < (v248.length : Int)) <|
            let v276 := (Kd.nth (.int .u8) v248 6)
            let v277 := (kwrap .i64 v276)
            gd (6 < (v248.length : Int)) <|
            let v278 := (Kd.nth (.int .u8) v248 7)
            let v279 := (kwrap .i64 v278)
            gd (7 < (v248.length : Int)) <|
            some (v265, v267, v269, v271, v273, v275, v277, v279) : Option (Int × Int × Int × Int × Int × Int × Int × Int)).bind fun (x253, x254, x255, x256, x257, x258, x259, x260) =>
            let v261 := ((x253 == 0) && ((x254 == 0) && ((x255 == 0) && ((x256 == 0) && ((x257 == 0) && ((x258 == 0) && ((x259 == 0) && (x260 == 0))))))))
            let v263 := (bif v261 then true else false)
            bif v263 then
              some (.inr (0, 0, 0, 0, 0, 0, 0, 0, 0, 0, 0, 0, 0, 0, 0, 230))
            else
              next v251 x253 x254 x255 x256 x257 x258 x259 x260 x194 x195 x196 x197 x198 x199 x200 true x202 x203
      else
        bif v246 == 2 then
          (caps_Caps_fields_3 K x186 x187 x188 x189 x190 x191 x192 x193 x194 x195 x196 x197 x198 x199 x200).bind fun _ =>
          let v280 := (bif x202 then true else (v249 != 5))
          bif v280 then
            some (.inr (0, 0, 0, 0, 0, 0, 0, 0, 0, 0, 0, 0, 0, 0, 0, 230))
          else
            (
              let v287 := (Kd.nth (.int .u8) v248 0)
              let v288 := (kwrap .i64 v287)
              gd (0 < (v248.length : Int)) <|
              let v289 := (Kd.nth (.int .u8) v248 1)
              let v290 := (kwrap .i64 v289)
              gd (1 < (v248.length : Int)) <|
              let v291 := (Kd.nth (.int .u8) v248 2)
              let v292 := (kwrap .i64 v291)
              gd (2 < (v248.length : Int)) <|
              let v293 := (Kd.nth (.int .u8) v248 3)
              let v294 := (kwrap .i64 v293)
              gd (3 < (v248.length : Int)) <|
              let v295 := (Kd.nth (.int .u8) v248 4)
              let v296 := (kwrap .i64 v295)
              gd (4 < (v248.length : Int)) <|
              some (v288, v290, v292, v294, v296) : Option (Int × Int × Int × Int × Int)).bind fun (x281, x282, x283, x284, x285) =>
              let v286 := ((x281 == 0) && ((x282 == 0) && ((x283 == 0) && ((x284 == 0) && (x285 == 0)))))
              bif v286 then
                some (.inr (0, 0, 0, 0, 0, 0, 0, 0, 0, 0, 0, 0, 0, 0, 0, 230))
              else
                next v251 x186 x187 x188 x189 x190 x191 x192 x193 x281 x282 x283 x284 x285 x199 x200 x201 true x203
        else
          bif v246 == 3 then
            (caps_Caps_fields_4 K x186 x187 x188 x189 x190 x191 x192 x193 x194 x195 x196 x197 x198 x199 x200).bind fun _ =>
            let v297 := (bif x203 then true else (v249 != 2))
            bif v297 then
              some (.inr (0, 0, 0, 0, 0, 0, 0, 0, 0, 0, 0, 0, 0, 0, 0, 230))
            else
              (
                let v300 := (Kd.nth (.int .u8) v248 0)
                let v301 := (kwrap .i64 v300)
                gd (0 < (v248.length : Int)) <|
                let v302 := (Kd.nth (.int .u8) v248 1)
                let v303 := (kwrap .i64 v302)
                gd (1 < (v248.length : Int)) <|
                some (v301, v303) : Option (Int × Int)).bind fun (x298, x299) =>
                next v251 x186 x187 x188 x189 x190 x191 x192 x193 x194 x195 x196 x197 x198 x298 x299 x201 x202 true
          else
            (caps_Caps_fields K v246 x186 x187 x188 x189 x190 x191 x192 x193 x194 x195 x196 x197 x198 x199 x200).bind fun z => match z with
            | .inl _ =>
              none
            | .inr (.inl _) =>
              none
            | .inr (.inr (.inl _)) =>
              none
            | .inr (.inr (.inr _)) =>
              next v251 x186 x187 x188 x189 x190 x191 x192 x193 x194 x195 x196 x197 x198 x199 x200 x201 x202 x203
  else
    some (.inl (x186, x187, x188, x189, x190, x191, x192, x193, x194, x195, x196, x197, x198, x199, x200))
def caps_Parse.l0 (K : Nat)  (n : Nat) : List (Int) → Int → Int → Int → Int → Int → Int → Int → Int → Int → Int → Int → Int → Int → Int → Int → Bool → Bool → Bool → Option ((Int × Int × Int × Int × Int × Int × Int × Int × Int × Int × Int × Int × Int × Int × Int) ⊕ (Int × Int × Int × Int × Int × Int × Int × Int × Int × Int × Int × Int × Int × Int × Int × Int)) := rounds (caps_Parse.r0 K) (fun _ _ _ _ _ _ _ _ _ _ _ _ _ _ _ _ _ _ _ => none) n
def caps_Parse (K : Nat) (p0 : List (Int)) : Option (Int × Int × Int × Int × Int × Int × Int × Int × Int × Int × Int × Int × Int × Int × Int × Int) :=
  let v85 := (decide ((p0.length : Int) > 256))
  bif v85 then
    some (0, 0, 0, 0, 0, 0, 0, 0, 0, 0, 0, 0, 0, 0, 0, 230)
  else
    (caps_Parse.l0 K K p0 0 0 0 0 0 0 0 0 0 0 0 0 0 0 0 false false false : Option ((Int × Int × Int × Int × Int × Int × Int × Int × Int × Int × Int × Int × Int × Int × Int) ⊕ (Int × Int × Int × Int × Int × Int × Int × Int × Int × Int × Int × Int × Int × Int × Int × Int))).bind fun z => match z with
    | .inl (x154, x155, x156, x157, x158, x159, x160, x161, x162, x163, x164, x165, x166, x167, x168) =>
      (caps_Check K x154 x155 x156 x157 x158 x159 x160 x161 x162 x163 x164 x165 x166 x167 x168).bind fun r169 =>
      bif (r169 != 0) then
        some (0, 0, 0, 0, 0, 0, 0, 0, 0, 0, 0, 0, 0, 0, 0, 230)
      else
        some (x154, x155, x156, x157, x158, x159, x160, x161, x162, x163, x164, x165, x166, x167, x168, 0)
    | .inr r =>
      some r
def offer_Meet (K : Nat) (p0 : Int) (p1 : Int) (p2 : Int) (p3 : Int) (p4 : Int) (p5 : Int) (p6 : Int) (p7 : Int) (p8 : Int) (p9 : Int) (p10 : Int) (p11 : Int) (p12 : Int) (p13 : Int) (p14 : Int) (p15 : Int) (p16 : Int) (p17 : Int) (p18 : Int) (p19 : Int) (p20 : Int) (p21 : Int) (p22 : Int) (p23 : Int) (p24 : Int) (p25 : Int) (p26 : Int) (p27 : Int) (p28 : Int) (p29 : Int) : Option (Int × Int × Int × Int × Int × Int × Int × Int × Int × Int × Int × Int × Int × Int × Int) :=
  (
    (caps_Check K p0 p1 p2 p3 p4 p5 p6 p7 p8 p9 p10 p11 p12 p13 p14).bind fun r57 =>
    bif (r57 != 0) then
      some true
    else
      (caps_Check K p15 p16 p17 p18 p19 p20 p21 p22 p23 p24 p25 p26 p27 p28 p29).bind fun r58 =>
      some (r58 != 0) : Option (Bool)).bind fun x19 =>
    bif x19 then
      some (0, 0, 0, 0, 0, 0, 0, 0, 0, 0, 0, 0, 0, 0, 0)
    else
      let v20 := (imin p13 p28)
      let v21 := (imin p14 p29)
      let v22 := (kand .i64 p0 p15)
      let v23 := (kand .i64 p1 p16)
      let v24 := (kand .i64 p2 p17)
      let v25 := (kand .i64 p3 p18)
      let v26 := (kand .i64 p4 p19)
      let v27 := (kand .i64 p5 p20)
      let v28 := (bif (v22 == 0) then true else (v23 == 0))
      let v29 := (bif v28 then true else (v24 == 0))
      let v30 := (bif v29 then true else (v25 == 0))
      let v31 := (bif v30 then true else (v26 == 0))
      let v32 := (bif v31 then true else (v27 == 0))
      let v33 := (decide ((imax p6 p21) > (imin p7 p22)))
      let v34 := (bif v32 then true else v33)
      (
        bif v34 then
          some (0, 0, 0, 0, 0, 0, 0, 0)
        else
          some ((v22, v23, v24, v25, v26, v27, (imax p6 p21), (imin p7 p22))) : Option (Int × Int × Int × Int × Int × Int × Int × Int)).bind fun (x35, x36, x37, x38, x39, x40, x41, x42) =>
        let v43 := (kand .i64 p8 p23)
        let v44 := (kand .i64 p9 p24)
        let v45 := (kand .i64 p10 p25)
        let v46 := (imax p11 p26)
        let v47 := (imin p12 p27)
        let v48 := (bif (v43 == 0) then true else (v44 == 0))
        let v49 := (bif v48 then true else (v45 == 0))
        let v50 := (decide (v46 > v47))
        let v51 := (bif v49 then true else v50)
        (
          bif v51 then
            some (0, 0, 0, 0, 0)
          else
            some (v43, v44, v45, v46, v47) : Option (Int × Int × Int × Int × Int)).bind fun (x52, x53, x54, x55, x56) =>
          some (x35, x36, x37, x38, x39, x40, x41, x42, x52, x53, x54, x55, x56, v20, v21)
def lapped_lengths (_K : Nat)  : Option (Unit) :=
  some ()
def lapped_Lengths (K : Nat)  : Option ((List (Int))) :=
  (lapped_lengths K ).bind fun _ =>
  let v1 := [(40, (60, (80, 120))).1, (40, (60, (80, 120))).2.1, (40, (60, (80, 120))).2.2.1, (40, (60, (80, 120))).2.2.2]
  some v1
def format_within (_K : Nat) (p0 : Int) (p1 : Int) (p2 : Int) : Option (Bool) :=
  let v1 := (decide (p0 ≥ p1))
  let v2 := (decide (p0 ≤ p2))
  let v3 := (bif v1 then v2 else false)
  some v3
def slices_Index_bool_bool.r0 (_K : Nat) (c0 : Bool) (c1 : Int) (c2 : List (Bool)) (next : Int → Option ((Unit) ⊕ (Int))) (x5 : Int) : Option ((Unit) ⊕ (Int)) :=
  let v7 := (decide (x5 < c1))
  bif v7 then
    let v8 := (Kd.nth (.bool) c2 (Int.toNat x5))
    gd ((0 : Int) ≤ x5 ∧ x5 < (c2.length : Int) ∧ (Int.toNat x5) < c2.length) <|
    bif (c0 == v8) then
      some (.inr x5)
    else
      let v9 := (kwrap .i64 (x5 + 1))
      next v9
  else
    some (.inl ())
def slices_Index_bool_bool.l0 (K : Nat) (c0 : Bool) (c1 : Int) (c2 : List (Bool)) (n : Nat) : Int → Option ((Unit) ⊕ (Int)) := rounds (slices_Index_bool_bool.r0 K c0 c1 c2) (fun _ => none) n
def slices_Index_bool_bool (K : Nat) (p0 : Bool) (p1 : List (Bool)) : Option (Int) :=
  (slices_Index_bool_bool.l0 K p0 (p1.length : Int) p1 K 0 : Option ((Unit) ⊕ (Int))).bind fun z => match z with
  | .inl _ =>
    some (-1)
  | .inr r =>
    some r
def slices_Contains_bool_bool (K : Nat) (p0 : Bool) (p1 : List (Bool)) : Option (Bool) :=
  (slices_Index_bool_bool K p0 p1).bind fun r2 =>
  let v3 := (decide (r2 ≥ 0))
  some v3
def format_all (K : Nat) (p0 : List (Bool)) : Option (Bool) :=
  (slices_Contains_bool_bool K false p0).bind fun r2 =>
  some (!r2)
def slices_Index_int_int.r0 (_K : Nat) (c0 : List (Int)) (c1 : Int) (c2 : Int) (next : Int → Option ((Unit) ⊕ (Int))) (x5 : Int) : Option ((Unit) ⊕ (Int)) :=
  let v7 := (decide (x5 < c2))
  bif v7 then
    let v8 := (Kd.nth (.int .i64) c0 (Int.toNat x5))
    gd ((0 : Int) ≤ x5 ∧ x5 < (c0.length : Int)) <|
    bif (c1 == v8) then
      some (.inr x5)
    else
      let v9 := (kwrap .i64 (x5 + 1))
      next v9
  else
    some (.inl ())
def slices_Index_int_int.l0 (K : Nat) (c0 : List (Int)) (c1 : Int) (c2 : Int) (n : Nat) : Int → Option ((Unit) ⊕ (Int)) := rounds (slices_Index_int_int.r0 K c0 c1 c2) (fun _ => none) n
def slices_Index_int_int (K : Nat) (p0 : List (Int)) (p1 : Int) : Option (Int) :=
  (slices_Index_int_int.l0 K p0 p1 (p0.length : Int) K 0 : Option ((Unit) ⊕ (Int))).bind fun z => match z with
  | .inl _ =>
    some (-1)
  | .inr r =>
    some r
def slices_Contains_int_int (K : Nat) (p0 : List (Int)) (p1 : Int) : Option (Bool) :=
  (slices_Index_int_int K p0 p1).bind fun r2 =>
  let v3 := (decide (r2 ≥ 0))
  some v3
def format_fields (K : Nat) (p0 : Int) (p1 : Int) (p2 : Int) (p3 : Int) (p4 : Int) (p5 : Int) (p6 : Int) (p7 : Int) (p8 : Int) (p9 : Int) : Option (Bool) :=
  (format_within K p1 0 3).bind fun r64 =>
  (format_within K p2 1 2).bind fun r65 =>
  (format_all K [r64, r65]).bind fun r66 =>
  bif (p0 == 1) then
    (
      bif r66 then
        let v116 := (bif (p3 == 4) then true else (p3 == 8))
        let v117 := (Int.tmod p4 4)
        bif (v117 == 0) then
          (format_within K p4 4 16).bind fun r119 =>
          let v120 := (bif (v117 == 0) then r119 else false)
          (format_within K p5 0 1).bind fun r121 =>
          let v122 := (kwrap .i64 (p2 - 1))
          (format_within K p6 0 v122).bind fun r123 =>
          let v124 := (kwrap .i64 (16 * p3))
          let v125 := (kwrap .i64 (v124 * p2))
          let v126 := (imin v125 250)
          (format_within K p7 2 v126).bind fun r127 =>
          let v128 := (bif (p8 == 0) then (p9 == 0) else false)
          let v129 := [v116, v120, r121, r123, r127, v128]
          (format_all K v129).bind fun r130 =>
          let v131 := (bif r66 then r130 else false)
          some v131
        else
          let v132 := (bif (v117 == 0) then false else false)
          (format_within K p5 0 1).bind fun r133 =>
          let v134 := (kwrap .i64 (p2 - 1))
          (format_within K p6 0 v134).bind fun r135 =>
          let v136 := (kwrap .i64 (16 * p3))
          let v137 := (kwrap .i64 (v136 * p2))
          let v138 := (imin v137 250)
          (format_within K p7 2 v138).bind fun r139 =>
          let v140 := (bif (p8 == 0) then (p9 == 0) else false)
          let v141 := [v116, v132, r133, r135, r139, v140]
          (format_all K v141).bind fun r142 =>
          let v143 := (bif r66 then r142 else false)
          some v143
      else
        let v144 := (bif r66 then false else false)
        some v144 : Option (Bool)).bind fun x114 =>
      some x114
  else
    bif (p0 == 2) then
      (
        bif r66 then
          (lapped_Lengths K ).bind fun r158 =>
          (slices_Contains_int_int K r158 p8).bind fun r159 =>
          (format_within K p9 20 120).bind fun r160 =>
          let v161 := (bif (p3 == 0) then (p4 == 0) else false)
          let v162 := (bif v161 then (p5 == 0) else false)
          let v163 := (bif v162 then (p6 == 0) else false)
          let v164 := (bif v163 then (p7 == 0) else false)
          let v165 := [r159, r160, v164]
          (format_all K v165).bind fun r166 =>
          let v167 := (bif r66 then r166 else false)
          some v167
        else
          let v168 := (bif r66 then false else false)
          some v168 : Option (Bool)).bind fun x156 =>
        some x156
    else
      some false
def format_bits (_K : Nat) (p0 : Int) (_p1 : Int) (p2 : Int) (p3 : Int) (p4 : Int) (_p5 : Int) (p6 : Int) (p7 : Int) (_p8 : Int) (p9 : Int) : Option (Int) :=
  bif (p0 == 2) then
    let v1 := (kwrap .i64 (8 * p9))
    some v1
  else
    let v2 := (kwrap .i64 (p6 * p3))
    let v3 := (kwrap .i64 (32 + v2))
    let v4 := (kwrap .i64 (4 * p3))
    let v5 := (kwrap .i64 (v4 * p2))
    let v6 := (kwrap .i64 (v3 + v5))
    let v7 := (kwrap .i64 (p4 * p7))
    let v8 := (kwrap .i64 (v6 + v7))
    some v8
def format_payload (K : Nat) (p0 : Int) (p1 : Int) (p2 : Int) (p3 : Int) (p4 : Int) (p5 : Int) (p6 : Int) (p7 : Int) (p8 : Int) (p9 : Int) : Option (Int) :=
  bif (p0 == 2) then
    let v2 := (kwrap .i64 (p9 * p2))
    some v2
  else
    (format_bits K p0 p1 p2 p3 p4 p5 p6 p7 p8 p9).bind fun r3 =>
    let v4 := (kwrap .i64 (r3 + 7))
    let v5 := (kwrap .i64 (Int.tdiv v4 8))
    some v5
def format_Check (K : Nat) (p0 : Int) (p1 : Int) (p2 : Int) (p3 : Int) (p4 : Int) (p5 : Int) (p6 : Int) (p7 : Int) (p8 : Int) (p9 : Int) : Option (Int) :=
  (
    (format_fields K p0 p1 p2 p3 p4 p5 p6 p7 p8 p9).bind fun r7 =>
    bif (!r7) then
      some true
    else
      (format_payload K p0 p1 p2 p3 p4 p5 p6 p7 p8 p9).bind fun r8 =>
      let v9 := (decide (r8 > 512))
      some v9 : Option (Bool)).bind fun x6 =>
    bif x6 then
      some 110
    else
      some 0
def caps_in (_K : Nat) (p0 : Int) (p1 : Int) : Option (Bool) :=
  let v1 := (kshr .i64 p0 p1)
  let v2 := (kand .i64 v1 1)
  gd ((0 : Int) ≤ p1) <|
  some (v2 == 1)
def caps_Allows (K : Nat) (p0 : Int) (p1 : Int) (p2 : Int) (p3 : Int) (p4 : Int) (p5 : Int) (p6 : Int) (p7 : Int) (p8 : Int) (p9 : Int) (p10 : Int) (p11 : Int) (p12 : Int) (p13 : Int) (p14 : Int) (p15 : Int) (p16 : Int) (p17 : Int) (p18 : Int) (p19 : Int) (p20 : Int) (p21 : Int) (p22 : Int) (p23 : Int) (p24 : Int) (p25 : Int) (p26 : Int) : Option (Bool) :=
  (
    (caps_Check K p0 p1 p2 p3 p4 p5 p6 p7 p8 p9 p10 p11 p12 p13 p14).bind fun r128 =>
    bif (r128 != 0) then
      some true
    else
      (format_Check K p15 p16 p17 p18 p19 p20 p21 p22 p23 p24).bind fun r129 =>
      bif (r129 != 0) then
        some true
      else
        (caps_span K 1 p25 1 p13).bind fun r130 =>
        bif (!r130) then
          some true
        else
          (caps_span K 1 p26 1 p14).bind fun r131 =>
          some (!r131) : Option (Bool)).bind fun x46 =>
    bif x46 then
      some false
    else
      bif (p15 == 1) then
        (
          (caps_in K p0 p16).bind fun r63 =>
          bif r63 then
            let v64 := (kwrap .i64 (p17 - 1))
            (caps_in K p1 v64).bind fun r65 =>
            bif r65 then
              let v66 := (kwrap .i64 (Int.tdiv p18 8))
              (caps_in K p2 v66).bind fun r67 =>
              bif r67 then
                let v68 := (kwrap .i64 (Int.tdiv p19 4))
                let v69 := (kwrap .i64 (v68 - 1))
                (caps_in K p3 v69).bind fun r70 =>
                bif r70 then
                  (caps_in K p4 p20).bind fun r71 =>
                  bif r71 then
                    (caps_in K p5 p21).bind fun r72 =>
                    bif r72 then
                      (caps_span K p6 p22 p6 p7).bind fun r73 =>
                      some r73
                    else
                      some false
                  else
                    some false
                else
                  some false
              else
                some false
            else
              some false
          else
            some false : Option (Bool)).bind fun x62 =>
          some x62
      else
        (
          (caps_in K p8 p16).bind fun r94 =>
          bif r94 then
            let v96 := (kwrap .i64 (p17 - 1))
            (caps_in K p9 v96).bind fun r97 =>
            let v98 := (bif r94 then r97 else false)
            bif v98 then
              (lapped_Lengths K ).bind fun r100 =>
              (slices_Index_int_int K r100 p23).bind fun r101 =>
              (caps_in K p10 r101).bind fun r102 =>
              let v103 := (bif v98 then r102 else false)
              bif v103 then
                (caps_span K p11 p24 p11 p12).bind fun r105 =>
                let v106 := (bif v103 then r105 else false)
                some v106
              else
                let v107 := (bif v103 then false else false)
                some v107
            else
              let v108 := (bif v98 then false else false)
              bif v108 then
                (caps_span K p11 p24 p11 p12).bind fun r110 =>
                let v111 := (bif v108 then r110 else false)
                some v111
              else
                let v112 := (bif v108 then false else false)
                some v112
          else
            let v113 := (bif r94 then false else false)
            bif v113 then
              (lapped_Lengths K ).bind fun r115 =>
              (slices_Index_int_int K r115 p23).bind fun r116 =>
              (caps_in K p10 r116).bind fun r117 =>
              let v118 := (bif v113 then r117 else false)
              bif v118 then
                (caps_span K p11 p24 p11 p12).bind fun r120 =>
                let v121 := (bif v118 then r120 else false)
                some v121
              else
                let v122 := (bif v118 then false else false)
                some v122
            else
              let v123 := (bif v113 then false else false)
              bif v123 then
                (caps_span K p11 p24 p11 p12).bind fun r125 =>
                let v126 := (bif v123 then r125 else false)
                some v126
              else
                let v127 := (bif v123 then false else false)
                some v127 : Option (Bool)).bind fun x93 =>
          some x93
def offer_Choose_1 (K : Nat) (p0 : Int) (p1 : Int) (p2 : Int) (p3 : Int) (p4 : Int) (p5 : Int) (p6 : Int) (p7 : Int) (p8 : Int) (p9 : Int) (p10 : Int) (p11 : Int) (p12 : Int) (p13 : Int) (p14 : Int) (p15 : Int) (p16 : Int) (p17 : Int) (p18 : Int) (p19 : Int) (p20 : Int) (p21 : Int) (p22 : Int) (p23 : Int) (p24 : Int) (p25 : Int) (p26 : Int) (p27 : Int) (p28 : Int) (p29 : Int) (p30 : Int) (p31 : Int) (p32 : Int) (p33 : Int) (p34 : Int) (p35 : Int) (p36 : Int) : Option (Bool × Int × Int × Int × Int × Int × Int × Int × Int × Int × Int) :=
  (caps_Allows K p10 p11 p12 p13 p14 p15 p16 p17 p18 p19 p20 p21 p22 p23 p24 p0 p1 p2 p3 p4 p5 p6 p7 p8 p9 p25 p26).bind fun r2 =>
  bif (!r2) then
    some (false, p27, p28, p29, p30, p31, p32, p33, p34, p35, p36)
  else
    some (true, p0, p1, p2, p3, p4, p5, p6, p7, p8, p9)
def offer_laps_1_1 (K : Nat) (p0 : Int) (p1 : Int) (p2 : Int) (p3 : Int) (p4 : Int) (p5 : Int) (p6 : Int) (p7 : Int) (p8 : Int) (p9 : Int) (_p10 : Int) (p11 : Int) (p12 : Int) (p13 : Int) (p14 : Int) (p15 : Int) (p16 : Int) (p17 : Int) (p18 : Int) (p19 : Int) (p20 : Int) (p21 : Int) (p22 : Int) (p23 : Int) (p24 : Int) (p25 : Int) (p26 : Int) (p27 : Int) (p28 : Int) (p29 : Int) (p30 : Int) (p31 : Int) (p32 : Int) (p33 : Int) (p34 : Int) (p35 : Int) (p36 : Int) (p37 : Int) : Option (Bool × Int × Int × Int × Int × Int × Int × Int × Int × Int × Int) :=
  (offer_Choose_1 K p1 p2 p3 p4 p5 p6 p7 p8 p9 p0 p11 p12 p13 p14 p15 p16 p17 p18 p19 p20 p21 p22 p23 p24 p25 p26 p27 p28 p29 p30 p31 p32 p33 p34 p35 p36 p37).bind fun (r12, r13, r14, r15, r16, r17, r18, r19, r20, r21, r22) =>
  some (r12, r13, r14, r15, r16, r17, r18, r19, r20, r21, r22)
def offer_down.r0 (K : Nat) (c0 : Int) (c1 : Int) (c2 : Int) (c3 : Int) (c4 : Int) (c5 : Int) (c6 : Int) (c7 : Int) (c8 : Int) (c9 : Int) (c10 : Int) (c11 : Int) (c12 : Int) (c13 : Int) (c14 : Int) (c15 : Int) (c16 : Int) (c17 : Int) (c18 : Int) (c19 : Int) (c20 : Int) (c21 : Int) (c22 : Int) (c23 : Int) (c24 : Int) (c25 : Int) (c26 : Int) (next : Int → Int → Int → Int → Int → Int → Int → Int → Int → Int → Int → Int → Option ((Int × Int × Int × Int × Int × Int × Int × Int × Int × Int × Int) ⊕ (Bool × Int × Int × Int × Int × Int × Int × Int × Int × Int × Int × Int))) (x181 : Int) (x182 : Int) (x183 : Int) (x184 : Int) (x185 : Int) (x186 : Int) (x187 : Int) (x188 : Int) (x189 : Int) (x190 : Int) (x191 : Int) (x192 : Int) : Option ((Int × Int × Int × Int × Int × Int × Int × Int × Int × Int × Int) ⊕ (Bool × Int × Int × Int × Int × Int × Int × Int × Int × Int × Int × Int)) :=
  let v227 := (decide (x181 ≥ c0))
  bif v227 then
    (offer_laps_1_1 K x181 c1 c2 c3 c4 c5 c6 c7 c8 c9 x182 c10 c11 c12 c13 c14 c15 c16 c17 c18 c19 c20 c21 c22 c23 c24 c25 c26 x183 x184 x185 x186 x187 x188 x189 x190 x191 x192).bind fun (r239, r240, r241, r242, r243, r244, r245, r246, r247, r248, r249) =>
    bif r239 then
      some (.inr (true, x181, r240, r241, r242, r243, r244, r245, r246, r247, r248, r249))
    else
      let v250 := (kwrap .i64 (x181 - 1))
      next v250 x181 r240 r241 r242 r243 r244 r245 r246 r247 r248 r249
  else
    some (.inl (x182, x183, x184, x185, x186, x187, x188, x189, x190, x191, x192))
def offer_down.l0 (K : Nat) (c0 : Int) (c1 : Int) (c2 : Int) (c3 : Int) (c4 : Int) (c5 : Int) (c6 : Int) (c7 : Int) (c8 : Int) (c9 : Int) (c10 : Int) (c11 : Int) (c12 : Int) (c13 : Int) (c14 : Int) (c15 : Int) (c16 : Int) (c17 : Int) (c18 : Int) (c19 : Int) (c20 : Int) (c21 : Int) (c22 : Int) (c23 : Int) (c24 : Int) (c25 : Int) (c26 : Int) (n : Nat) : Int → Int → Int → Int → Int → Int → Int → Int → Int → Int → Int → Int → Option ((Int × Int × Int × Int × Int × Int × Int × Int × Int × Int × Int) ⊕ (Bool × Int × Int × Int × Int × Int × Int × Int × Int × Int × Int × Int)) := rounds (offer_down.r0 K c0 c1 c2 c3 c4 c5 c6 c7 c8 c9 c10 c11 c12 c13 c14 c15 c16 c17 c18 c19 c20 c21 c22 c23 c24 c25 c26) (fun _ _ _ _ _ _ _ _ _ _ _ _ => none) n
def offer_down (K : Nat) (p0 : Int) (p1 : Int) (p2 : Int) (p3 : Int) (p4 : Int) (p5 : Int) (p6 : Int) (p7 : Int) (p8 : Int) (p9 : Int) (p10 : Int) (p11 : Int) (p12 : Int) (p13 : Int) (p14 : Int) (p15 : Int) (p16 : Int) (p17 : Int) (p18 : Int) (p19 : Int) (p20 : Int) (p21 : Int) (p22 : Int) (p23 : Int) (p24 : Int) (p25 : Int) (p26 : Int) (p27 : Int) (p28 : Int) (p29 : Int) (p30 : Int) (p31 : Int) (p32 : Int) (p33 : Int) (p34 : Int) (p35 : Int) (p36 : Int) (p37 : Int) (p38 : Int) : Option (Bool × Int × Int × Int × Int × Int × Int × Int × Int × Int × Int × Int) :=
  (offer_down.l0 K p1 p2 p3 p4 p5 p6 p7 p8 p9 p10 p12 p13 p14 p15 p16 p17 p18 p19 p20 p21 p22 p23 p24 p25 p26 p27 p28 K p0 p11 p29 p30 p31 p32 p33 p34 p35 p36 p37 p38 : Option ((Int × Int × Int × Int × Int × Int × Int × Int × Int × Int × Int) ⊕ (Bool × Int × Int × Int × Int × Int × Int × Int × Int × Int × Int × Int))).bind fun z => match z with
  | .inl (x148, x149, x150, x151, x152, x153, x154, x155, x156, x157, x158) =>
    some (false, x148, x149, x150, x151, x152, x153, x154, x155, x156, x157, x158)
  | .inr r =>
    some r
def offer_laps_1 (K : Nat) (p0 : Int) (p1 : Int) (p2 : Int) (p3 : Int) (p4 : Int) (p5 : Int) (p6 : Int) (p7 : Int) (p8 : Int) (_p9 : Int) (p10 : Int) (_p11 : Int) (_p12 : Int) (_p13 : Int) (p14 : Int) (p15 : Int) (p16 : Int) (p17 : Int) (p18 : Int) (p19 : Int) (p20 : Int) (p21 : Int) (p22 : Int) (p23 : Int) (p24 : Int) (p25 : Int) (p26 : Int) (p27 : Int) (p28 : Int) (p29 : Int) (p30 : Int) (p31 : Int) (p32 : Int) (p33 : Int) (p34 : Int) (p35 : Int) (p36 : Int) (p37 : Int) (p38 : Int) (p39 : Int) (p40 : Int) (p41 : Int) (p42 : Int) : Option (Bool × Int × Int × Int × Int × Int × Int × Int × Int × Int × Int × Int × Int) :=
  (lapped_Lengths K ).bind fun r14 =>
  let v15 := (Kd.nth (.int .i64) r14 (Int.toNat p0))
  gd ((0 : Int) ≤ p0 ∧ p0 < (r14.length : Int)) <|
  (offer_down K p15 p14 p1 p2 p3 p4 p5 p6 p7 p8 v15 p10 p16 p17 p18 p19 p20 p21 p22 p23 p24 p25 p26 p27 p28 p29 p30 p31 p32 p33 p34 p35 p36 p37 p38 p39 p40 p41 p42).bind fun (r16, r17, r18, r19, r20, r21, r22, r23, r24, r25, r26, r27) =>
  some (r16, v15, r17, r18, r19, r20, r21, r22, r23, r24, r25, r26, r27)
def offer_down_2.r0 (K : Nat) (c0 : Int) (c1 : Int) (c2 : Int) (c3 : Int) (c4 : Int) (c5 : Int) (c6 : Int) (c7 : Int) (c8 : Int) (c9 : Int) (c10 : Int) (c11 : Int) (c12 : Int) (c13 : Int) (c14 : Int) (c15 : Int) (c16 : Int) (c17 : Int) (c18 : Int) (c19 : Int) (c20 : Int) (c21 : Int) (c22 : Int) (c23 : Int) (c24 : Int) (c25 : Int) (c26 : Int) (c27 : Int) (c28 : Int) (c29 : Int) (c30 : Int) (next : Int → Int → Int → Int → Int → Int → Int → Int → Int → Int → Int → Int → Int → Option ((Int × Int × Int × Int × Int × Int × Int × Int × Int × Int × Int × Int) ⊕ (Bool × Int × Int × Int × Int × Int × Int × Int × Int × Int × Int × Int × Int))) (x207 : Int) (x208 : Int) (x209 : Int) (x210 : Int) (x211 : Int) (x212 : Int) (x213 : Int) (x214 : Int) (x215 : Int) (x216 : Int) (x217 : Int) (x218 : Int) (x219 : Int) : Option ((Int × Int × Int × Int × Int × Int × Int × Int × Int × Int × Int × Int) ⊕ (Bool × Int × Int × Int × Int × Int × Int × Int × Int × Int × Int × Int × Int)) :=
  let v259 := (decide (x207 ≥ c0))
  bif v259 then
    (offer_laps_1 K x207 c1 c2 c3 c4 c5 c6 c7 c8 x208 x209 c9 c10 c11 c12 c13 c14 c15 c16 c17 c18 c19 c20 c21 c22 c23 c24 c25 c26 c27 c28 c29 c30 x210 x211 x212 x213 x214 x215 x216 x217 x218 x219).bind fun (r273, r274, r275, r276, r277, r278, r279, r280, r281, r282, r283, r284, r285) =>
    bif r273 then
      some (.inr (true, r274, r275, r276, r277, r278, r279, r280, r281, r282, r283, r284, r285))
    else
      let v286 := (kwrap .i64 (x207 - 1))
      next v286 r274 r275 r276 r277 r278 r279 r280 r281 r282 r283 r284 r285
  else
    some (.inl (x208, x209, x210, x211, x212, x213, x214, x215, x216, x217, x218, x219))
def offer_down_2.l0 (K : Nat) (c0 : Int) (c1 : Int) (c2 : Int) (c3 : Int) (c4 : Int) (c5 : Int) (c6 : Int) (c7 : Int) (c8 : Int) (c9 : Int) (c10 : Int) (c11 : Int) (c12 : Int) (c13 : Int) (c14 : Int) (c15 : Int) (c16 : Int) (c17 : Int) (c18 : Int) (c19 : Int) (c20 : Int) (c21 : Int) (c22 : Int) (c23 : Int) (c24 : Int) (c25 : Int) (c26 : Int) (c27 : Int) (c28 : Int) (c29 : Int) (c30 : Int) (n : Nat) : Int → Int → Int → Int → Int → Int → Int → Int → Int → Int → Int → Int → Int → Option ((Int × Int × Int × Int × Int × Int × Int × Int × Int × Int × Int × Int) ⊕ (Bool × Int × Int × Int × Int × Int × Int × Int × Int × Int × Int × Int × Int)) := rounds (offer_down_2.r0 K c0 c1 c2 c3 c4 c5 c6 c7 c8 c9 c10 c11 c12 c13 c14 c15 c16 c17 c18 c19 c20 c21 c22 c23 c24 c25 c26 c27 c28 c29 c30) (fun _ _ _ _ _ _ _ _ _ _ _ _ _ => none) n
def offer_down_2 (K : Nat) (p0 : Int) (p1 : Int) (p2 : Int) (p3 : Int) (p4 : Int) (p5 : Int) (p6 : Int) (p7 : Int) (p8 : Int) (p9 : Int) (p10 : Int) (p11 : Int) (p12 : Int) (p13 : Int) (p14 : Int) (p15 : Int) (p16 : Int) (p17 : Int) (p18 : Int) (p19 : Int) (p20 : Int) (p21 : Int) (p22 : Int) (p23 : Int) (p24 : Int) (p25 : Int) (p26 : Int) (p27 : Int) (p28 : Int) (p29 : Int) (p30 : Int) (p31 : Int) (p32 : Int) (p33 : Int) (p34 : Int) (p35 : Int) (p36 : Int) (p37 : Int) (p38 : Int) (p39 : Int) (p40 : Int) (p41 : Int) (p42 : Int) (p43 : Int) : Option (Bool × Int × Int × Int × Int × Int × Int × Int × Int × Int × Int × Int × Int) :=
  (offer_down_2.l0 K p1 p2 p3 p4 p5 p6 p7 p8 p9 p12 p13 p14 p15 p16 p17 p18 p19 p20 p21 p22 p23 p24 p25 p26 p27 p28 p29 p30 p31 p32 p33 K p0 p10 p11 p34 p35 p36 p37 p38 p39 p40 p41 p42 p43 : Option ((Int × Int × Int × Int × Int × Int × Int × Int × Int × Int × Int × Int) ⊕ (Bool × Int × Int × Int × Int × Int × Int × Int × Int × Int × Int × Int × Int))).bind fun z => match z with
  | .inl (x169, x170, x171, x172, x173, x174, x175, x176, x177, x178, x179, x180) =>
    some (false, x169, x170, x171, x172, x173, x174, x175, x176, x177, x178, x179, x180)
  | .inr r =>
    some r
def offer_laps (K : Nat) (p0 : Int) (p1 : Int) (p2 : Int) (p3 : Int) (p4 : Int) (p5 : Int) (p6 : Int) (p7 : Int) (p8 : Int) (p9 : Int) (p10 : Int) (p11 : Int) (p12 : Int) (p13 : Int) (p14 : Int) (p15 : Int) (p16 : Int) (p17 : Int) (p18 : Int) (p19 : Int) (p20 : Int) (p21 : Int) (p22 : Int) (p23 : Int) (p24 : Int) (p25 : Int) (p26 : Int) (p27 : Int) (p28 : Int) (p29 : Int) (p30 : Int) (p31 : Int) (p32 : Int) (p33 : Int) (p34 : Int) (p35 : Int) (p36 : Int) (p37 : Int) (p38 : Int) (p39 : Int) (p40 : Int) (p41 : Int) : Option (Bool × Int × Int × Int × Int × Int × Int × Int × Int × Int × Int) :=
  (offer_down_2 K 3 0 p0 p1 p2 p3 p4 p5 p6 p7 p8 p9 p10 p11 p12 p13 p14 p15 p16 p17 p18 p19 p20 p21 p22 p23 p24 p25 p26 p27 p28 p29 p30 p31 p32 p33 p34 p35 p36 p37 p38 p39 p40 p41).bind fun (r14, _r15, _r16, r17, r18, r19, r20, r21, r22, r23, r24, r25, r26) =>
  some (r14, r17, r18, r19, r20, r21, r22, r23, r24, r25, r26)
def offer_subs_1_1_1_1_1 (K : Nat) (p0 : Int) (p1 : Int) (p2 : Int) (p3 : Int) (p4 : Int) (p5 : Int) (p6 : Int) (p7 : Int) (_p8 : Int) (p9 : Int) (p10 : Int) (p11 : Int) (p12 : Int) (p13 : Int) (p14 : Int) (p15 : Int) (p16 : Int) (p17 : Int) (p18 : Int) (p19 : Int) (p20 : Int) (p21 : Int) (p22 : Int) (p23 : Int) (p24 : Int) (p25 : Int) (p26 : Int) (p27 : Int) (p28 : Int) (p29 : Int) (p30 : Int) (p31 : Int) (p32 : Int) (p33 : Int) (p34 : Int) (p35 : Int) (p36 : Int) (p37 : Int) : Option (Bool × Int × Int × Int × Int × Int × Int × Int × Int × Int × Int) :=
  (offer_Choose_1 K p1 p2 p3 p4 p5 p6 p7 p0 p9 p10 p11 p12 p13 p14 p15 p16 p17 p18 p19 p20 p21 p22 p23 p24 p25 p26 p27 p28 p29 p30 p31 p32 p33 p34 p35 p36 p37).bind fun (r12, r13, r14, r15, r16, r17, r18, r19, r20, r21, r22) =>
  some (r12, r13, r14, r15, r16, r17, r18, r19, r20, r21, r22)
def offer_down_3.r0 (K : Nat) (c0 : Int) (c1 : Int) (c2 : Int) (c3 : Int) (c4 : Int) (c5 : Int) (c6 : Int) (c7 : Int) (c8 : Int) (c9 : Int) (c10 : Int) (c11 : Int) (c12 : Int) (c13 : Int) (c14 : Int) (c15 : Int) (c16 : Int) (c17 : Int) (c18 : Int) (c19 : Int) (c20 : Int) (c21 : Int) (c22 : Int) (c23 : Int) (c24 : Int) (c25 : Int) (c26 : Int) (next : Int → Int → Int → Int → Int → Int → Int → Int → Int → Int → Int → Int → Option ((Int × Int × Int × Int × Int × Int × Int × Int × Int × Int × Int) ⊕ (Bool × Int × Int × Int × Int × Int × Int × Int × Int × Int × Int × Int))) (x181 : Int) (x182 : Int) (x183 : Int) (x184 : Int) (x185 : Int) (x186 : Int) (x187 : Int) (x188 : Int) (x189 : Int) (x190 : Int) (x191 : Int) (x192 : Int) : Option ((Int × Int × Int × Int × Int × Int × Int × Int × Int × Int × Int) ⊕ (Bool × Int × Int × Int × Int × Int × Int × Int × Int × Int × Int × Int)) :=
  let v227 := (decide (x181 ≥ c0))
  bif v227 then
    (offer_subs_1_1_1_1_1 K x181 c1 c2 c3 c4 c5 c6 c7 x182 c8 c9 c10 c11 c12 c13 c14 c15 c16 c17 c18 c19 c20 c21 c22 c23 c24 c25 c26 x183 x184 x185 x186 x187 x188 x189 x190 x191 x192).bind fun (r239, r240, r241, r242, r243, r244, r245, r246, r247, r248, r249) =>
    bif r239 then
      some (.inr (true, x181, r240, r241, r242, r243, r244, r245, r246, r247, r248, r249))
    else
      let v250 := (kwrap .i64 (x181 - 1))
      next v250 x181 r240 r241 r242 r243 r244 r245 r246 r247 r248 r249
  else
    some (.inl (x182, x183, x184, x185, x186, x187, x188, x189, x190, x191, x192))
def offer_down_3.l0 (K : Nat) (c0 : Int) (c1 : Int) (c2 : Int) (c3 : Int) (c4 : Int) (c5 : Int) (c6 : Int) (c7 : Int) (c8 : Int) (c9 : Int) (c10 : Int) (c11 : Int) (c12 : Int) (c13 : Int) (c14 : Int) (c15 : Int) (c16 : Int) (c17 : Int) (c18 : Int) (c19 : Int) (c20 : Int) (c21 : Int) (c22 : Int) (c23 : Int) (c24 : Int) (c25 : Int) (c26 : Int) (n : Nat) : Int → Int → Int → Int → Int → Int → Int → Int → Int → Int → Int → Int → Option ((Int × Int × Int × Int × Int × Int × Int × Int × Int × Int × Int) ⊕ (Bool × Int × Int × Int × Int × Int × Int × Int × Int × Int × Int × Int)) := rounds (offer_down_3.r0 K c0 c1 c2 c3 c4 c5 c6 c7 c8 c9 c10 c11 c12 c13 c14 c15 c16 c17 c18 c19 c20 c21 c22 c23 c24 c25 c26) (fun _ _ _ _ _ _ _ _ _ _ _ _ => none) n
def offer_down_3 (K : Nat) (p0 : Int) (p1 : Int) (p2 : Int) (p3 : Int) (p4 : Int) (p5 : Int) (p6 : Int) (p7 : Int) (p8 : Int) (p9 : Int) (p10 : Int) (p11 : Int) (p12 : Int) (p13 : Int) (p14 : Int) (p15 : Int) (p16 : Int) (p17 : Int) (p18 : Int) (p19 : Int) (p20 : Int) (p21 : Int) (p22 : Int) (p23 : Int) (p24 : Int) (p25 : Int) (p26 : Int) (p27 : Int) (p28 : Int) (p29 : Int) (p30 : Int) (p31 : Int) (p32 : Int) (p33 : Int) (p34 : Int) (p35 : Int) (p36 : Int) (p37 : Int) (p38 : Int) : Option (Bool × Int × Int × Int × Int × Int × Int × Int × Int × Int × Int × Int) :=
  (offer_down_3.l0 K p1 p2 p3 p4 p5 p6 p7 p8 p10 p11 p12 p13 p14 p15 p16 p17 p18 p19 p20 p21 p22 p23 p24 p25 p26 p27 p28 K p0 p9 p29 p30 p31 p32 p33 p34 p35 p36 p37 p38 : Option ((Int × Int × Int × Int × Int × Int × Int × Int × Int × Int × Int) ⊕ (Bool × Int × Int × Int × Int × Int × Int × Int × Int × Int × Int × Int))).bind fun z => match z with
  | .inl (x148, x149, x150, x151, x152, x153, x154, x155, x156, x157, x158) =>
    some (false, x148, x149, x150, x151, x152, x153, x154, x155, x156, x157, x158)
  | .inr r =>
    some r
def offer_subs_1_1_1_1 (K : Nat) (p0 : Int) (p1 : Int) (p2 : Int) (p3 : Int) (p4 : Int) (p5 : Int) (p6 : Int) (_p7 : Int) (_p8 : Int) (_p9 : Int) (_p10 : Int) (p11 : Int) (p12 : Int) (p13 : Int) (_p14 : Int) (_p15 : Int) (_p16 : Int) (_p17 : Int) (_p18 : Int) (_p19 : Int) (p20 : Int) (p21 : Int) (p22 : Int) (p23 : Int) (p24 : Int) (p25 : Int) (p26 : Int) (p27 : Int) (p28 : Int) (p29 : Int) (p30 : Int) (p31 : Int) (p32 : Int) (p33 : Int) (p34 : Int) (p35 : Int) (p36 : Int) (p37 : Int) (p38 : Int) (p39 : Int) (p40 : Int) (p41 : Int) (p42 : Int) (p43 : Int) (p44 : Int) (p45 : Int) (p46 : Int) (p47 : Int) (p48 : Int) : Option (Bool × Int × Int × Int × Int × Int × Int × Int × Int × Int × Int × Int × Int × Int) :=
  let v13 := (kwrap .i64 (4 * p1))
  let v14 := (kwrap .i64 (4 + v13))
  let v15 := (kwrap .i64 (4 * p2))
  (offer_down_3 K p21 p20 p4 p5 p6 v14 v15 p0 p3 p11 p12 p13 p22 p23 p24 p25 p26 p27 p28 p29 p30 p31 p32 p33 p34 p35 p36 p37 p38 p39 p40 p41 p42 p43 p44 p45 p46 p47 p48).bind fun (r16, r17, r18, r19, r20, r21, r22, r23, r24, r25, r26, r27) =>
  some (r16, v14, v15, r17, r18, r19, r20, r21, r22, r23, r24, r25, r26, r27)
def offer_down_4.r0 (K : Nat) (c0 : Int) (c1 : Int) (c2 : Int) (c3 : Int) (c4 : Int) (c5 : Int) (c6 : Int) (c7 : Int) (c8 : Int) (c9 : Int) (c10 : Int) (c11 : Int) (c12 : Int) (c13 : Int) (c14 : Int) (c15 : Int) (c16 : Int) (c17 : Int) (c18 : Int) (c19 : Int) (c20 : Int) (c21 : Int) (c22 : Int) (c23 : Int) (c24 : Int) (c25 : Int) (c26 : Int) (c27 : Int) (c28 : Int) (c29 : Int) (c30 : Int) (c31 : Int) (c32 : Int) (c33 : Int) (next : Int → Int → Int → Int → Int → Int → Int → Int → Int → Int → Int → Int → Int → Int → Int → Int → Option ((Int × Int × Int × Int × Int × Int × Int × Int × Int × Int × Int × Int × Int × Int × Int) ⊕ (Bool × Int × Int × Int × Int × Int × Int × Int × Int × Int × Int × Int × Int × Int × Int × Int))) (x235 : Int) (x236 : Int) (x237 : Int) (x238 : Int) (x239 : Int) (x240 : Int) (x241 : Int) (x242 : Int) (x243 : Int) (x244 : Int) (x245 : Int) (x246 : Int) (x247 : Int) (x248 : Int) (x249 : Int) (x250 : Int) : Option ((Int × Int × Int × Int × Int × Int × Int × Int × Int × Int × Int × Int × Int × Int × Int) ⊕ (Bool × Int × Int × Int × Int × Int × Int × Int × Int × Int × Int × Int × Int × Int × Int × Int)) :=
  let v295 := (decide (x235 ≥ c0))
  bif v295 then
    (offer_subs_1_1_1_1 K x235 c1 c2 c3 c4 c5 c6 x236 x237 x238 x239 x240 c7 c8 c9 c10 c11 c12 c13 c14 c15 c16 c17 c18 c19 c20 c21 c22 c23 c24 c25 c26 c27 c28 c29 c30 c31 c32 c33 x241 x242 x243 x244 x245 x246 x247 x248 x249 x250).bind fun (r310, r311, r312, r313, r314, r315, r316, r317, r318, r319, r320, r321, r322, r323) =>
    bif r310 then
      some (.inr (true, r311, r312, x235, c3, r313, r314, r315, r316, r317, r318, r319, r320, r321, r322, r323))
    else
      let v324 := (kwrap .i64 (x235 - 1))
      next v324 r311 r312 x235 c3 r313 r314 r315 r316 r317 r318 r319 r320 r321 r322 r323
  else
    some (.inl (x236, x237, x238, x239, x240, x241, x242, x243, x244, x245, x246, x247, x248, x249, x250))
def offer_down_4.l0 (K : Nat) (c0 : Int) (c1 : Int) (c2 : Int) (c3 : Int) (c4 : Int) (c5 : Int) (c6 : Int) (c7 : Int) (c8 : Int) (c9 : Int) (c10 : Int) (c11 : Int) (c12 : Int) (c13 : Int) (c14 : Int) (c15 : Int) (c16 : Int) (c17 : Int) (c18 : Int) (c19 : Int) (c20 : Int) (c21 : Int) (c22 : Int) (c23 : Int) (c24 : Int) (c25 : Int) (c26 : Int) (c27 : Int) (c28 : Int) (c29 : Int) (c30 : Int) (c31 : Int) (c32 : Int) (c33 : Int) (n : Nat) : Int → Int → Int → Int → Int → Int → Int → Int → Int → Int → Int → Int → Int → Int → Int → Int → Option ((Int × Int × Int × Int × Int × Int × Int × Int × Int × Int × Int × Int × Int × Int × Int) ⊕ (Bool × Int × Int × Int × Int × Int × Int × Int × Int × Int × Int × Int × Int × Int × Int × Int)) := rounds (offer_down_4.r0 K c0 c1 c2 c3 c4 c5 c6 c7 c8 c9 c10 c11 c12 c13 c14 c15 c16 c17 c18 c19 c20 c21 c22 c23 c24 c25 c26 c27 c28 c29 c30 c31 c32 c33) (fun _ _ _ _ _ _ _ _ _ _ _ _ _ _ _ _ => none) n
def offer_down_4 (K : Nat) (p0 : Int) (p1 : Int) (p2 : Int) (p3 : Int) (p4 : Int) (p5 : Int) (p6 : Int) (p7 : Int) (p8 : Int) (p9 : Int) (p10 : Int) (p11 : Int) (p12 : Int) (p13 : Int) (p14 : Int) (p15 : Int) (p16 : Int) (p17 : Int) (p18 : Int) (p19 : Int) (p20 : Int) (p21 : Int) (p22 : Int) (p23 : Int) (p24 : Int) (p25 : Int) (p26 : Int) (p27 : Int) (p28 : Int) (p29 : Int) (p30 : Int) (p31 : Int) (p32 : Int) (p33 : Int) (p34 : Int) (p35 : Int) (p36 : Int) (p37 : Int) (p38 : Int) (p39 : Int) (p40 : Int) (p41 : Int) (p42 : Int) (p43 : Int) (p44 : Int) (p45 : Int) (p46 : Int) (p47 : Int) (p48 : Int) (p49 : Int) : Option (Bool × Int × Int × Int × Int × Int × Int × Int × Int × Int × Int × Int × Int × Int × Int × Int) :=
  (offer_down_4.l0 K p1 p2 p3 p4 p5 p6 p7 p13 p14 p15 p16 p17 p18 p19 p20 p21 p22 p23 p24 p25 p26 p27 p28 p29 p30 p31 p32 p33 p34 p35 p36 p37 p38 p39 K p0 p8 p9 p10 p11 p12 p40 p41 p42 p43 p44 p45 p46 p47 p48 p49 : Option ((Int × Int × Int × Int × Int × Int × Int × Int × Int × Int × Int × Int × Int × Int × Int) ⊕ (Bool × Int × Int × Int × Int × Int × Int × Int × Int × Int × Int × Int × Int × Int × Int × Int))).bind fun z => match z with
  | .inl (x192, x193, x194, x195, x196, x197, x198, x199, x200, x201, x202, x203, x204, x205, x206) =>
    some (false, x192, x193, x194, x195, x196, x197, x198, x199, x200, x201, x202, x203, x204, x205, x206)
  | .inr r =>
    some r
def offer_subs_1_1_1 (K : Nat) (p0 : Int) (p1 : Int) (p2 : Int) (p3 : Int) (p4 : Int) (p5 : Int) (p6 : Int) (p7 : Int) (p8 : Int) (p9 : Int) (p10 : Int) (p11 : Int) (p12 : Int) (p13 : Int) (p14 : Int) (p15 : Int) (p16 : Int) (p17 : Int) (p18 : Int) (p19 : Int) (p20 : Int) (p21 : Int) (p22 : Int) (p23 : Int) (p24 : Int) (p25 : Int) (p26 : Int) (p27 : Int) (p28 : Int) (p29 : Int) (p30 : Int) (p31 : Int) (p32 : Int) (p33 : Int) (p34 : Int) (p35 : Int) (p36 : Int) (p37 : Int) (p38 : Int) (p39 : Int) (p40 : Int) (p41 : Int) (p42 : Int) (p43 : Int) (p44 : Int) (p45 : Int) (p46 : Int) (p47 : Int) : Option (Bool × Int × Int × Int × Int × Int × Int × Int × Int × Int × Int × Int × Int × Int × Int × Int) :=
  (offer_down_4 K 1 0 p1 p2 p0 p3 p4 p5 p6 p7 p8 p9 p10 p11 p12 p13 p14 p15 p16 p17 p18 p19 p20 p21 p22 p23 p24 p25 p26 p27 p28 p29 p30 p31 p32 p33 p34 p35 p36 p37 p38 p39 p40 p41 p42 p43 p44 p45 p46 p47).bind fun (r17, r18, r19, r20, r21, r22, r23, r24, r25, r26, r27, r28, r29, r30, r31, r32) =>
  some (r17, r18, r19, r20, r21, r22, r23, r24, r25, r26, r27, r28, r29, r30, r31, r32)
def offer_down_5.r0 (K : Nat) (c0 : Int) (c1 : Int) (c2 : Int) (c3 : Int) (c4 : Int) (c5 : Int) (c6 : Int) (c7 : Int) (c8 : Int) (c9 : Int) (c10 : Int) (c11 : Int) (c12 : Int) (c13 : Int) (c14 : Int) (c15 : Int) (c16 : Int) (c17 : Int) (c18 : Int) (c19 : Int) (c20 : Int) (c21 : Int) (c22 : Int) (c23 : Int) (c24 : Int) (c25 : Int) (c26 : Int) (c27 : Int) (c28 : Int) (c29 : Int) (c30 : Int) (c31 : Int) (c32 : Int) (next : Int → Int → Int → Int → Int → Int → Int → Int → Int → Int → Int → Int → Int → Int → Int → Int → Option ((Int × Int × Int × Int × Int × Int × Int × Int × Int × Int × Int × Int × Int × Int × Int) ⊕ (Bool × Int × Int × Int × Int × Int × Int × Int × Int × Int × Int × Int × Int × Int × Int × Int))) (x255 : Int) (x256 : Int) (x257 : Int) (x258 : Int) (x259 : Int) (x260 : Int) (x261 : Int) (x262 : Int) (x263 : Int) (x264 : Int) (x265 : Int) (x266 : Int) (x267 : Int) (x268 : Int) (x269 : Int) (x270 : Int) : Option ((Int × Int × Int × Int × Int × Int × Int × Int × Int × Int × Int × Int × Int × Int × Int) ⊕ (Bool × Int × Int × Int × Int × Int × Int × Int × Int × Int × Int × Int × Int × Int × Int × Int)) :=
  let v319 := (decide (x255 ≥ c0))
  bif v319 then
    (offer_subs_1_1_1 K x255 c1 c2 c3 c4 c5 x256 x257 x258 x259 x260 c6 c7 c8 c9 c10 c11 c12 c13 c14 c15 c16 c17 c18 c19 c20 c21 c22 c23 c24 c25 c26 c27 c28 c29 c30 c31 c32 x261 x262 x263 x264 x265 x266 x267 x268 x269 x270).bind fun (r336, r337, r338, r339, r340, r341, r342, r343, r344, r345, r346, r347, r348, r349, r350, r351) =>
    bif r336 then
      some (.inr (true, r337, r338, r339, r340, r341, r342, r343, r344, r345, r346, r347, r348, r349, r350, r351))
    else
      let v352 := (kwrap .i64 (x255 - 1))
      next v352 r337 r338 r339 r340 r341 r342 r343 r344 r345 r346 r347 r348 r349 r350 r351
  else
    some (.inl (x256, x257, x258, x259, x260, x261, x262, x263, x264, x265, x266, x267, x268, x269, x270))
def offer_down_5.l0 (K : Nat) (c0 : Int) (c1 : Int) (c2 : Int) (c3 : Int) (c4 : Int) (c5 : Int) (c6 : Int) (c7 : Int) (c8 : Int) (c9 : Int) (c10 : Int) (c11 : Int) (c12 : Int) (c13 : Int) (c14 : Int) (c15 : Int) (c16 : Int) (c17 : Int) (c18 : Int) (c19 : Int) (c20 : Int) (c21 : Int) (c22 : Int) (c23 : Int) (c24 : Int) (c25 : Int) (c26 : Int) (c27 : Int) (c28 : Int) (c29 : Int) (c30 : Int) (c31 : Int) (c32 : Int) (n : Nat) : Int → Int → Int → Int → Int → Int → Int → Int → Int → Int → Int → Int → Int → Int → Int → Int → Option ((Int × Int × Int × Int × Int × Int × Int × Int × Int × Int × Int × Int × Int × Int × Int) ⊕ (Bool × Int × Int × Int × Int × Int × Int × Int × Int × Int × Int × Int × Int × Int × Int × Int)) := rounds (offer_down_5.r0 K c0 c1 c2 c3 c4 c5 c6 c7 c8 c9 c10 c11 c12 c13 c14 c15 c16 c17 c18 c19 c20 c21 c22 c23 c24 c25 c26 c27 c28 c29 c30 c31 c32) (fun _ _ _ _ _ _ _ _ _ _ _ _ _ _ _ _ => none) n
def offer_down_5 (K : Nat) (p0 : Int) (p1 : Int) (p2 : Int) (p3 : Int) (p4 : Int) (p5 : Int) (p6 : Int) (p7 : Int) (p8 : Int) (p9 : Int) (p10 : Int) (p11 : Int) (p12 : Int) (p13 : Int) (p14 : Int) (p15 : Int) (p16 : Int) (p17 : Int) (p18 : Int) (p19 : Int) (p20 : Int) (p21 : Int) (p22 : Int) (p23 : Int) (p24 : Int) (p25 : Int) (p26 : Int) (p27 : Int) (p28 : Int) (p29 : Int) (p30 : Int) (p31 : Int) (p32 : Int) (p33 : Int) (p34 : Int) (p35 : Int) (p36 : Int) (p37 : Int) (p38 : Int) (p39 : Int) (p40 : Int) (p41 : Int) (p42 : Int) (p43 : Int) (p44 : Int) (p45 : Int) (p46 : Int) (p47 : Int) (p48 : Int) : Option (Bool × Int × Int × Int × Int × Int × Int × Int × Int × Int × Int × Int × Int × Int × Int × Int) :=
  (offer_down_5.l0 K p1 p2 p3 p4 p5 p6 p12 p13 p14 p15 p16 p17 p18 p19 p20 p21 p22 p23 p24 p25 p26 p27 p28 p29 p30 p31 p32 p33 p34 p35 p36 p37 p38 K p0 p7 p8 p9 p10 p11 p39 p40 p41 p42 p43 p44 p45 p46 p47 p48 : Option ((Int × Int × Int × Int × Int × Int × Int × Int × Int × Int × Int × Int × Int × Int × Int) ⊕ (Bool × Int × Int × Int × Int × Int × Int × Int × Int × Int × Int × Int × Int × Int × Int × Int))).bind fun z => match z with
  | .inl (x208, x209, x210, x211, x212, x213, x214, x215, x216, x217, x218, x219, x220, x221, x222) =>
    some (false, x208, x209, x210, x211, x212, x213, x214, x215, x216, x217, x218, x219, x220, x221, x222)
  | .inr r =>
    some r
def offer_subs_1_1 (K : Nat) (p0 : Int) (p1 : Int) (p2 : Int) (p3 : Int) (p4 : Int) (p5 : Int) (p6 : Int) (p7 : Int) (p8 : Int) (p9 : Int) (p10 : Int) (p11 : Int) (p12 : Int) (p13 : Int) (p14 : Int) (p15 : Int) (p16 : Int) (p17 : Int) (p18 : Int) (p19 : Int) (p20 : Int) (p21 : Int) (p22 : Int) (p23 : Int) (p24 : Int) (p25 : Int) (p26 : Int) (p27 : Int) (p28 : Int) (p29 : Int) (p30 : Int) (p31 : Int) (p32 : Int) (p33 : Int) (p34 : Int) (p35 : Int) (p36 : Int) (p37 : Int) (p38 : Int) (p39 : Int) (p40 : Int) (p41 : Int) (p42 : Int) (p43 : Int) (p44 : Int) (p45 : Int) (p46 : Int) : Option (Bool × Int × Int × Int × Int × Int × Int × Int × Int × Int × Int × Int × Int × Int × Int × Int) :=
  (offer_down_5 K 1 0 p1 p0 p2 p3 p4 p5 p6 p7 p8 p9 p10 p11 p12 p13 p14 p15 p16 p17 p18 p19 p20 p21 p22 p23 p24 p25 p26 p27 p28 p29 p30 p31 p32 p33 p34 p35 p36 p37 p38 p39 p40 p41 p42 p43 p44 p45 p46).bind fun (r17, r18, r19, r20, r21, r22, r23, r24, r25, r26, r27, r28, r29, r30, r31, r32) =>
  some (r17, r18, r19, r20, r21, r22, r23, r24, r25, r26, r27, r28, r29, r30, r31, r32)
def offer_down_6.r0 (K : Nat) (c0 : Int) (c1 : Int) (c2 : Int) (c3 : Int) (c4 : Int) (c5 : Int) (c6 : Int) (c7 : Int) (c8 : Int) (c9 : Int) (c10 : Int) (c11 : Int) (c12 : Int) (c13 : Int) (c14 : Int) (c15 : Int) (c16 : Int) (c17 : Int) (c18 : Int) (c19 : Int) (c20 : Int) (c21 : Int) (c22 : Int) (c23 : Int) (c24 : Int) (c25 : Int) (c26 : Int) (c27 : Int) (c28 : Int) (c29 : Int) (c30 : Int) (c31 : Int) (next : Int → Int → Int → Int → Int → Int → Int → Int → Int → Int → Int → Int → Int → Int → Int → Int → Option ((Int × Int × Int × Int × Int × Int × Int × Int × Int × Int × Int × Int × Int × Int × Int) ⊕ (Bool × Int × Int × Int × Int × Int × Int × Int × Int × Int × Int × Int × Int × Int × Int × Int))) (x255 : Int) (x256 : Int) (x257 : Int) (x258 : Int) (x259 : Int) (x260 : Int) (x261 : Int) (x262 : Int) (x263 : Int) (x264 : Int) (x265 : Int) (x266 : Int) (x267 : Int) (x268 : Int) (x269 : Int) (x270 : Int) : Option ((Int × Int × Int × Int × Int × Int × Int × Int × Int × Int × Int × Int × Int × Int × Int) ⊕ (Bool × Int × Int × Int × Int × Int × Int × Int × Int × Int × Int × Int × Int × Int × Int × Int)) :=
  let v319 := (decide (x255 ≥ c0))
  bif v319 then
    (offer_subs_1_1 K x255 c1 c2 c3 c4 x256 x257 x258 x259 x260 c5 c6 c7 c8 c9 c10 c11 c12 c13 c14 c15 c16 c17 c18 c19 c20 c21 c22 c23 c24 c25 c26 c27 c28 c29 c30 c31 x261 x262 x263 x264 x265 x266 x267 x268 x269 x270).bind fun (r336, r337, r338, r339, r340, r341, r342, r343, r344, r345, r346, r347, r348, r349, r350, r351) =>
    bif r336 then
      some (.inr (true, r337, r338, r339, r340, r341, r342, r343, r344, r345, r346, r347, r348, r349, r350, r351))
    else
      let v352 := (kwrap .i64 (x255 - 1))
      next v352 r337 r338 r339 r340 r341 r342 r343 r344 r345 r346 r347 r348 r349 r350 r351
  else
    some (.inl (x256, x257, x258, x259, x260, x261, x262, x263, x264, x265, x266, x267, x268, x269, x270))
def offer_down_6.l0 (K : Nat) (c0 : Int) (c1 : Int) (c2 : Int) (c3 : Int) (c4 : Int) (c5 : Int) (c6 : Int) (c7 : Int) (c8 : Int) (c9 : Int) (c10 : Int) (c11 : Int) (c12 : Int) (c13 : Int) (c14 : Int) (c15 : Int) (c16 : Int) (c17 : Int) (c18 : Int) (c19 : Int) (c20 : Int) (c21 : Int) (c22 : Int) (c23 : Int) (c24 : Int) (c25 : Int) (c26 : Int) (c27 : Int) (c28 : Int) (c29 : Int) (c30 : Int) (c31 : Int) (n : Nat) : Int → Int → Int → Int → Int → Int → Int → Int → Int → Int → Int → Int → Int → Int → Int → Int → Option ((Int × Int × Int × Int × Int × Int × Int × Int × Int × Int × Int × Int × Int × Int × Int) ⊕ (Bool × Int × Int × Int × Int × Int × Int × Int × Int × Int × Int × Int × Int × Int × Int × Int)) := rounds (offer_down_6.r0 K c0 c1 c2 c3 c4 c5 c6 c7 c8 c9 c10 c11 c12 c13 c14 c15 c16 c17 c18 c19 c20 c21 c22 c23 c24 c25 c26 c27 c28 c29 c30 c31) (fun _ _ _ _ _ _ _ _ _ _ _ _ _ _ _ _ => none) n
def offer_down_6 (K : Nat) (p0 : Int) (p1 : Int) (p2 : Int) (p3 : Int) (p4 : Int) (p5 : Int) (p6 : Int) (p7 : Int) (p8 : Int) (p9 : Int) (p10 : Int) (p11 : Int) (p12 : Int) (p13 : Int) (p14 : Int) (p15 : Int) (p16 : Int) (p17 : Int) (p18 : Int) (p19 : Int) (p20 : Int) (p21 : Int) (p22 : Int) (p23 : Int) (p24 : Int) (p25 : Int) (p26 : Int) (p27 : Int) (p28 : Int) (p29 : Int) (p30 : Int) (p31 : Int) (p32 : Int) (p33 : Int) (p34 : Int) (p35 : Int) (p36 : Int) (p37 : Int) (p38 : Int) (p39 : Int) (p40 : Int) (p41 : Int) (p42 : Int) (p43 : Int) (p44 : Int) (p45 : Int) (p46 : Int) (p47 : Int) : Option (Bool × Int × Int × Int × Int × Int × Int × Int × Int × Int × Int × Int × Int × Int × Int × Int) :=
  (offer_down_6.l0 K p1 p2 p3 p4 p5 p11 p12 p13 p14 p15 p16 p17 p18 p19 p20 p21 p22 p23 p24 p25 p26 p27 p28 p29 p30 p31 p32 p33 p34 p35 p36 p37 K p0 p6 p7 p8 p9 p10 p38 p39 p40 p41 p42 p43 p44 p45 p46 p47 : Option ((Int × Int × Int × Int × Int × Int × Int × Int × Int × Int × Int × Int × Int × Int × Int) ⊕ (Bool × Int × Int × Int × Int × Int × Int × Int × Int × Int × Int × Int × Int × Int × Int × Int))).bind fun z => match z with
  | .inl (x208, x209, x210, x211, x212, x213, x214, x215, x216, x217, x218, x219, x220, x221, x222) =>
    some (false, x208, x209, x210, x211, x212, x213, x214, x215, x216, x217, x218, x219, x220, x221, x222)
  | .inr r =>
    some r
def offer_subs_1 (K : Nat) (p0 : Int) (p1 : Int) (p2 : Int) (p3 : Int) (p4 : Int) (p5 : Int) (p6 : Int) (p7 : Int) (p8 : Int) (p9 : Int) (p10 : Int) (p11 : Int) (p12 : Int) (p13 : Int) (p14 : Int) (p15 : Int) (p16 : Int) (p17 : Int) (p18 : Int) (p19 : Int) (p20 : Int) (p21 : Int) (p22 : Int) (p23 : Int) (p24 : Int) (p25 : Int) (p26 : Int) (p27 : Int) (p28 : Int) (p29 : Int) (p30 : Int) (p31 : Int) (p32 : Int) (p33 : Int) (p34 : Int) (p35 : Int) (p36 : Int) (p37 : Int) (p38 : Int) (p39 : Int) (p40 : Int) (p41 : Int) (p42 : Int) (p43 : Int) (p44 : Int) (p45 : Int) : Option (Bool × Int × Int × Int × Int × Int × Int × Int × Int × Int × Int × Int × Int × Int × Int × Int) :=
  (offer_down_6 K 4 1 p0 p1 p2 p3 p4 p5 p6 p7 p8 p9 p10 p11 p12 p13 p14 p15 p16 p17 p18 p19 p20 p21 p22 p23 p24 p25 p26 p27 p28 p29 p30 p31 p32 p33 p34 p35 p36 p37 p38 p39 p40 p41 p42 p43 p44 p45).bind fun (r17, r18, r19, r20, r21, r22, r23, r24, r25, r26, r27, r28, r29, r30, r31, r32) =>
  some (r17, r18, r19, r20, r21, r22, r23, r24, r25, r26, r27, r28, r29, r30, r31, r32)
def offer_down_7.r0 (K : Nat) (c0 : Int) (c1 : Int) (c2 : Int) (c3 : Int) (c4 : Int) (c5 : Int) (c6 : Int) (c7 : Int) (c8 : Int) (c9 : Int) (c10 : Int) (c11 : Int) (c12 : Int) (c13 : Int) (c14 : Int) (c15 : Int) (c16 : Int) (c17 : Int) (c18 : Int) (c19 : Int) (c20 : Int) (c21 : Int) (c22 : Int) (c23 : Int) (c24 : Int) (c25 : Int) (c26 : Int) (c27 : Int) (c28 : Int) (c29 : Int) (c30 : Int) (next : Int → Int → Int → Int → Int → Int → Int → Int → Int → Int → Int → Int → Int → Int → Int → Int → Option ((Int × Int × Int × Int × Int × Int × Int × Int × Int × Int × Int × Int × Int × Int × Int) ⊕ (Bool × Int × Int × Int × Int × Int × Int × Int × Int × Int × Int × Int × Int × Int × Int × Int))) (x255 : Int) (x256 : Int) (x257 : Int) (x258 : Int) (x259 : Int) (x260 : Int) (x261 : Int) (x262 : Int) (x263 : Int) (x264 : Int) (x265 : Int) (x266 : Int) (x267 : Int) (x268 : Int) (x269 : Int) (x270 : Int) : Option ((Int × Int × Int × Int × Int × Int × Int × Int × Int × Int × Int × Int × Int × Int × Int) ⊕ (Bool × Int × Int × Int × Int × Int × Int × Int × Int × Int × Int × Int × Int × Int × Int × Int)) :=
  let v319 := (decide (x255 ≥ c0))
  bif v319 then
    (offer_subs_1 K x255 c1 c2 c3 x256 x257 x258 x259 x260 c4 c5 c6 c7 c8 c9 c10 c11 c12 c13 c14 c15 c16 c17 c18 c19 c20 c21 c22 c23 c24 c25 c26 c27 c28 c29 c30 x261 x262 x263 x264 x265 x266 x267 x268 x269 x270).bind fun (r336, r337, r338, r339, r340, r341, r342, r343, r344, r345, r346, r347, r348, r349, r350, r351) =>
    bif r336 then
      some (.inr (true, r337, r338, r339, r340, r341, r342, r343, r344, r345, r346, r347, r348, r349, r350, r351))
    else
      let v352 := (kwrap .i64 (x255 - 1))
      next v352 r337 r338 r339 r340 r341 r342 r343 r344 r345 r346 r347 r348 r349 r350 r351
  else
    some (.inl (x256, x257, x258, x259, x260, x261, x262, x263, x264, x265, x266, x267, x268, x269, x270))
def offer_down_7.l0 (K : Nat) (c0 : Int) (c1 : Int) (c2 : Int) (c3 : Int) (c4 : Int) (c5 : Int) (c6 : Int) (c7 : Int) (c8 : Int) (c9 : Int) (c10 : Int) (c11 : Int) (c12 : Int) (c13 : Int) (c14 : Int) (c15 : Int) (c16 : Int) (c17 : Int) (c18 : Int) (c19 : Int) (c20 : Int) (c21 : Int) (c22 : Int) (c23 : Int) (c24 : Int) (c25 : Int) (c26 : Int) (c27 : Int) (c28 : Int) (c29 : Int) (c30 : Int) (n : Nat) : Int → Int → Int → Int → Int → Int → Int → Int → Int → Int → Int → Int → Int → Int → Int → Int → Option ((Int × Int × Int × Int × Int × Int × Int × Int × Int × Int × Int × Int × Int × Int × Int) ⊕ (Bool × Int × Int × Int × Int × Int × Int × Int × Int × Int × Int × Int × Int × Int × Int × Int)) := rounds (offer_down_7.r0 K c0 c1 c2 c3 c4 c5 c6 c7 c8 c9 c10 c11 c12 c13 c14 c15 c16 c17 c18 c19 c20 c21 c22 c23 c24 c25 c26 c27 c28 c29 c30) (fun _ _ _ _ _ _ _ _ _ _ _ _ _ _ _ _ => none) n
def offer_down_7 (K : Nat) (p0 : Int) (p1 : Int) (p2 : Int) (p3 : Int) (p4 : Int) (p5 : Int) (p6 : Int) (p7 : Int) (p8 : Int) (p9 : Int) (p10 : Int) (p11 : Int) (p12 : Int) (p13 : Int) (p14 : Int) (p15 : Int) (p16 : Int) (p17 : Int) (p18 : Int) (p19 : Int) (p20 : Int) (p21 : Int) (p22 : Int) (p23 : Int) (p24 : Int) (p25 : Int) (p26 : Int) (p27 : Int) (p28 : Int) (p29 : Int) (p30 : Int) (p31 : Int) (p32 : Int) (p33 : Int) (p34 : Int) (p35 : Int) (p36 : Int) (p37 : Int) (p38 : Int) (p39 : Int) (p40 : Int) (p41 : Int) (p42 : Int) (p43 : Int) (p44 : Int) (p45 : Int) (p46 : Int) : Option (Bool × Int × Int × Int × Int × Int × Int × Int × Int × Int × Int × Int × Int × Int × Int × Int) :=
  (offer_down_7.l0 K p1 p2 p3 p4 p10 p11 p12 p13 p14 p15 p16 p17 p18 p19 p20 p21 p22 p23 p24 p25 p26 p27 p28 p29 p30 p31 p32 p33 p34 p35 p36 K p0 p5 p6 p7 p8 p9 p37 p38 p39 p40 p41 p42 p43 p44 p45 p46 : Option ((Int × Int × Int × Int × Int × Int × Int × Int × Int × Int × Int × Int × Int × Int × Int) ⊕ (Bool × Int × Int × Int × Int × Int × Int × Int × Int × Int × Int × Int × Int × Int × Int × Int))).bind fun z => match z with
  | .inl (x208, x209, x210, x211, x212, x213, x214, x215, x216, x217, x218, x219, x220, x221, x222) =>
    some (false, x208, x209, x210, x211, x212, x213, x214, x215, x216, x217, x218, x219, x220, x221, x222)
  | .inr r =>
    some r
def offer_subs (K : Nat) (p0 : Int) (p1 : Int) (p2 : Int) (p3 : Int) (p4 : Int) (p5 : Int) (p6 : Int) (p7 : Int) (p8 : Int) (p9 : Int) (p10 : Int) (p11 : Int) (p12 : Int) (p13 : Int) (p14 : Int) (p15 : Int) (p16 : Int) (p17 : Int) (p18 : Int) (p19 : Int) (p20 : Int) (p21 : Int) (p22 : Int) (p23 : Int) (p24 : Int) (p25 : Int) (p26 : Int) (p27 : Int) (p28 : Int) (p29 : Int) (p30 : Int) (p31 : Int) (p32 : Int) (p33 : Int) (p34 : Int) (p35 : Int) (p36 : Int) (p37 : Int) (p38 : Int) (p39 : Int) (p40 : Int) (p41 : Int) (p42 : Int) (p43 : Int) (p44 : Int) : Option (Bool × Int × Int × Int × Int × Int × Int × Int × Int × Int × Int) :=
  (offer_down_7 K 1 0 p0 p1 p2 p3 p4 p5 p6 p7 p8 p9 p10 p11 p12 p13 p14 p15 p16 p17 p18 p19 p20 p21 p22 p23 p24 p25 p26 p27 p28 p29 p30 p31 p32 p33 p34 p35 p36 p37 p38 p39 p40 p41 p42 p43 p44).bind fun (r17, _r18, _r19, _r20, _r21, _r22, r23, r24, r25, r26, r27, r28, r29, r30, r31, r32) =>
  some (r17, r23, r24, r25, r26, r27, r28, r29, r30, r31, r32)
def offer_Choose_2_1_1 (K : Nat) (p0 : Int) (p1 : Int) (p2 : Int) (p3 : Int) (p4 : Int) (p5 : Int) (p6 : Int) (p7 : Int) (p8 : Int) (p9 : Int) (p10 : Int) (p11 : Int) (p12 : Int) (p13 : Int) (p14 : Int) (p15 : Int) (p16 : Int) (p17 : Int) (p18 : Int) (p19 : Int) (p20 : Int) (p21 : Int) (p22 : Int) (p23 : Int) (p24 : Int) (p25 : Int) (p26 : Int) (p27 : Int) (p28 : Int) (p29 : Int) : Option (Bool × Int × Int × Int × Int × Int × Int × Int × Int × Int × Int) :=
  bif (p1 == 2) then
    (
      let v111 := (!((p11 == 0) && ((p12 == 0) && ((p13 == 0) && ((p14 == 0) && (p15 == 0))))))
      bif v111 then
        (offer_laps K p1 p0 p2 0 0 0 0 0 0 0 p11 p12 p13 p14 p15 p3 p4 p5 p6 p7 p8 p9 p10 p11 p12 p13 p14 p15 p16 p17 p18 p19 p20 p21 p22 p23 p24 p25 p26 p27 p28 p29).bind fun (r112, r113, r114, r115, r116, r117, r118, r119, r120, r121, r122) =>
        some (r112, r113, r114, r115, r116, r117, r118, r119, r120, r121, r122)
      else
        some (false, p20, p21, p22, p23, p24, p25, p26, p27, p28, p29) : Option (Bool × Int × Int × Int × Int × Int × Int × Int × Int × Int × Int)).bind fun (x100, x101, x102, x103, x104, x105, x106, x107, x108, x109, x110) =>
      some (x100, x101, x102, x103, x104, x105, x106, x107, x108, x109, x110)
  else
    (
      let v145 := (!((p3 == 0) && ((p4 == 0) && ((p5 == 0) && ((p6 == 0) && ((p7 == 0) && ((p8 == 0) && ((p9 == 0) && (p10 == 0)))))))))
      bif v145 then
        (offer_subs K p1 p0 p2 0 0 0 0 0 0 0 p3 p4 p5 p6 p7 p8 p9 p10 p3 p4 p5 p6 p7 p8 p9 p10 p11 p12 p13 p14 p15 p16 p17 p18 p19 p20 p21 p22 p23 p24 p25 p26 p27 p28 p29).bind fun (r146, r147, r148, r149, r150, r151, r152, r153, r154, r155, r156) =>
        some (r146, r147, r148, r149, r150, r151, r152, r153, r154, r155, r156)
      else
        some (false, p20, p21, p22, p23, p24, p25, p26, p27, p28, p29) : Option (Bool × Int × Int × Int × Int × Int × Int × Int × Int × Int × Int)).bind fun (x134, x135, x136, x137, x138, x139, x140, x141, x142, x143, x144) =>
      some (x134, x135, x136, x137, x138, x139, x140, x141, x142, x143, x144)
def offer_down_8.r0 (K : Nat) (c0 : Int) (c1 : Int) (c2 : Int) (c3 : Int) (c4 : Int) (c5 : Int) (c6 : Int) (c7 : Int) (c8 : Int) (c9 : Int) (c10 : Int) (c11 : Int) (c12 : Int) (c13 : Int) (c14 : Int) (c15 : Int) (c16 : Int) (c17 : Int) (c18 : Int) (c19 : Int) (next : Int → Int → Int → Int → Int → Int → Int → Int → Int → Int → Int → Option ((Int × Int × Int × Int × Int × Int × Int × Int × Int × Int) ⊕ (Bool × Int × Int × Int × Int × Int × Int × Int × Int × Int × Int))) (x175 : Int) (x176 : Int) (x177 : Int) (x178 : Int) (x179 : Int) (x180 : Int) (x181 : Int) (x182 : Int) (x183 : Int) (x184 : Int) (x185 : Int) : Option ((Int × Int × Int × Int × Int × Int × Int × Int × Int × Int) ⊕ (Bool × Int × Int × Int × Int × Int × Int × Int × Int × Int × Int)) :=
  let v219 := (decide (x175 ≥ c0))
  bif v219 then
    (offer_Choose_2_1_1 K x175 c1 c2 c3 c4 c5 c6 c7 c8 c9 c10 c11 c12 c13 c14 c15 c16 c17 c18 c19 x176 x177 x178 x179 x180 x181 x182 x183 x184 x185).bind fun (r231, r232, r233, r234, r235, r236, r237, r238, r239, r240, r241) =>
    bif r231 then
      some (.inr (true, r232, r233, r234, r235, r236, r237, r238, r239, r240, r241))
    else
      let v242 := (kwrap .i64 (x175 - 1))
      next v242 r232 r233 r234 r235 r236 r237 r238 r239 r240 r241
  else
    some (.inl (x176, x177, x178, x179, x180, x181, x182, x183, x184, x185))
def offer_down_8.l0 (K : Nat) (c0 : Int) (c1 : Int) (c2 : Int) (c3 : Int) (c4 : Int) (c5 : Int) (c6 : Int) (c7 : Int) (c8 : Int) (c9 : Int) (c10 : Int) (c11 : Int) (c12 : Int) (c13 : Int) (c14 : Int) (c15 : Int) (c16 : Int) (c17 : Int) (c18 : Int) (c19 : Int) (n : Nat) : Int → Int → Int → Int → Int → Int → Int → Int → Int → Int → Int → Option ((Int × Int × Int × Int × Int × Int × Int × Int × Int × Int) ⊕ (Bool × Int × Int × Int × Int × Int × Int × Int × Int × Int × Int)) := rounds (offer_down_8.r0 K c0 c1 c2 c3 c4 c5 c6 c7 c8 c9 c10 c11 c12 c13 c14 c15 c16 c17 c18 c19) (fun _ _ _ _ _ _ _ _ _ _ _ => none) n
def offer_down_8 (K : Nat) (p0 : Int) (p1 : Int) (p2 : Int) (p3 : Int) (p4 : Int) (p5 : Int) (p6 : Int) (p7 : Int) (p8 : Int) (p9 : Int) (p10 : Int) (p11 : Int) (p12 : Int) (p13 : Int) (p14 : Int) (p15 : Int) (p16 : Int) (p17 : Int) (p18 : Int) (p19 : Int) (p20 : Int) (p21 : Int) (p22 : Int) (p23 : Int) (p24 : Int) (p25 : Int) (p26 : Int) (p27 : Int) (p28 : Int) (p29 : Int) (p30 : Int) : Option (Bool × Int × Int × Int × Int × Int × Int × Int × Int × Int × Int) :=
  (offer_down_8.l0 K p1 p2 p3 p4 p5 p6 p7 p8 p9 p10 p11 p12 p13 p14 p15 p16 p17 p18 p19 p20 K p0 p21 p22 p23 p24 p25 p26 p27 p28 p29 p30 : Option ((Int × Int × Int × Int × Int × Int × Int × Int × Int × Int) ⊕ (Bool × Int × Int × Int × Int × Int × Int × Int × Int × Int × Int))).bind fun z => match z with
  | .inl (x143, x144, x145, x146, x147, x148, x149, x150, x151, x152) =>
    some (false, x143, x144, x145, x146, x147, x148, x149, x150, x151, x152)
  | .inr r =>
    some r
def offer_Choose_2_1 (K : Nat) (p0 : Int) (p1 : Int) (p2 : Int) (p3 : Int) (p4 : Int) (p5 : Int) (p6 : Int) (p7 : Int) (p8 : Int) (p9 : Int) (p10 : Int) (p11 : Int) (p12 : Int) (p13 : Int) (p14 : Int) (p15 : Int) (p16 : Int) (p17 : Int) (p18 : Int) (p19 : Int) (p20 : Int) (p21 : Int) (p22 : Int) (p23 : Int) (p24 : Int) (p25 : Int) (p26 : Int) (p27 : Int) (p28 : Int) : Option (Bool × Int × Int × Int × Int × Int × Int × Int × Int × Int × Int) :=
  (offer_down_8 K 3 0 p1 p0 p2 p3 p4 p5 p6 p7 p8 p9 p10 p11 p12 p13 p14 p15 p16 p17 p18 p19 p20 p21 p22 p23 p24 p25 p26 p27 p28).bind fun (r12, r13, r14, r15, r16, r17, r18, r19, r20, r21, r22) =>
  some (r12, r13, r14, r15, r16, r17, r18, r19, r20, r21, r22)
def offer_down_9.r0 (K : Nat) (c0 : Int) (c1 : Int) (c2 : Int) (c3 : Int) (c4 : Int) (c5 : Int) (c6 : Int) (c7 : Int) (c8 : Int) (c9 : Int) (c10 : Int) (c11 : Int) (c12 : Int) (c13 : Int) (c14 : Int) (c15 : Int) (c16 : Int) (c17 : Int) (c18 : Int) (next : Int → Int → Int → Int → Int → Int → Int → Int → Int → Int → Int → Option ((Int × Int × Int × Int × Int × Int × Int × Int × Int × Int) ⊕ (Bool × Int × Int × Int × Int × Int × Int × Int × Int × Int × Int))) (x175 : Int) (x176 : Int) (x177 : Int) (x178 : Int) (x179 : Int) (x180 : Int) (x181 : Int) (x182 : Int) (x183 : Int) (x184 : Int) (x185 : Int) : Option ((Int × Int × Int × Int × Int × Int × Int × Int × Int × Int) ⊕ (Bool × Int × Int × Int × Int × Int × Int × Int × Int × Int × Int)) :=
  let v219 := (decide (x175 ≥ c0))
  bif v219 then
    (offer_Choose_2_1 K x175 c1 c2 c3 c4 c5 c6 c7 c8 c9 c10 c11 c12 c13 c14 c15 c16 c17 c18 x176 x177 x178 x179 x180 x181 x182 x183 x184 x185).bind fun (r231, r232, r233, r234, r235, r236, r237, r238, r239, r240, r241) =>
    bif r231 then
      some (.inr (true, r232, r233, r234, r235, r236, r237, r238, r239, r240, r241))
    else
      let v242 := (kwrap .i64 (x175 - 1))
      next v242 r232 r233 r234 r235 r236 r237 r238 r239 r240 r241
  else
    some (.inl (x176, x177, x178, x179, x180, x181, x182, x183, x184, x185))
def offer_down_9.l0 (K : Nat) (c0 : Int) (c1 : Int) (c2 : Int) (c3 : Int) (c4 : Int) (c5 : Int) (c6 : Int) (c7 : Int) (c8 : Int) (c9 : Int) (c10 : Int) (c11 : Int) (c12 : Int) (c13 : Int) (c14 : Int) (c15 : Int) (c16 : Int) (c17 : Int) (c18 : Int) (n : Nat) : Int → Int → Int → Int → Int → Int → Int → Int → Int → Int → Int → Option ((Int × Int × Int × Int × Int × Int × Int × Int × Int × Int) ⊕ (Bool × Int × Int × Int × Int × Int × Int × Int × Int × Int × Int)) := rounds (offer_down_9.r0 K c0 c1 c2 c3 c4 c5 c6 c7 c8 c9 c10 c11 c12 c13 c14 c15 c16 c17 c18) (fun _ _ _ _ _ _ _ _ _ _ _ => none) n
def offer_down_9 (K : Nat) (p0 : Int) (p1 : Int) (p2 : Int) (p3 : Int) (p4 : Int) (p5 : Int) (p6 : Int) (p7 : Int) (p8 : Int) (p9 : Int) (p10 : Int) (p11 : Int) (p12 : Int) (p13 : Int) (p14 : Int) (p15 : Int) (p16 : Int) (p17 : Int) (p18 : Int) (p19 : Int) (p20 : Int) (p21 : Int) (p22 : Int) (p23 : Int) (p24 : Int) (p25 : Int) (p26 : Int) (p27 : Int) (p28 : Int) (p29 : Int) : Option (Bool × Int × Int × Int × Int × Int × Int × Int × Int × Int × Int) :=
  (offer_down_9.l0 K p1 p2 p3 p4 p5 p6 p7 p8 p9 p10 p11 p12 p13 p14 p15 p16 p17 p18 p19 K p0 p20 p21 p22 p23 p24 p25 p26 p27 p28 p29 : Option ((Int × Int × Int × Int × Int × Int × Int × Int × Int × Int) ⊕ (Bool × Int × Int × Int × Int × Int × Int × Int × Int × Int × Int))).bind fun z => match z with
  | .inl (x143, x144, x145, x146, x147, x148, x149, x150, x151, x152) =>
    some (false, x143, x144, x145, x146, x147, x148, x149, x150, x151, x152)
  | .inr r =>
    some r
def offer_Choose_2 (K : Nat) (p0 : Int) (p1 : Int) (p2 : Int) (p3 : Int) (p4 : Int) (p5 : Int) (p6 : Int) (p7 : Int) (p8 : Int) (p9 : Int) (p10 : Int) (p11 : Int) (p12 : Int) (p13 : Int) (p14 : Int) (p15 : Int) (p16 : Int) (p17 : Int) (p18 : Int) (p19 : Int) (p20 : Int) (p21 : Int) (p22 : Int) (p23 : Int) (p24 : Int) (p25 : Int) (p26 : Int) (p27 : Int) : Option (Bool × Int × Int × Int × Int × Int × Int × Int × Int × Int × Int) :=
  (offer_down_9 K 2 1 p0 p1 p2 p3 p4 p5 p6 p7 p8 p9 p10 p11 p12 p13 p14 p15 p16 p17 p18 p19 p20 p21 p22 p23 p24 p25 p26 p27).bind fun (r12, r13, r14, r15, r16, r17, r18, r19, r20, r21, r22) =>
  some (r12, r13, r14, r15, r16, r17, r18, r19, r20, r21, r22)
def offer_down_10.r0 (K : Nat) (c0 : Int) (c1 : Int) (c2 : Int) (c3 : Int) (c4 : Int) (c5 : Int) (c6 : Int) (c7 : Int) (c8 : Int) (c9 : Int) (c10 : Int) (c11 : Int) (c12 : Int) (c13 : Int) (c14 : Int) (c15 : Int) (c16 : Int) (c17 : Int) (next : Int → Int → Int → Int → Int → Int → Int → Int → Int → Int → Int → Option ((Int × Int × Int × Int × Int × Int × Int × Int × Int × Int) ⊕ (Bool × Int × Int × Int × Int × Int × Int × Int × Int × Int × Int))) (x175 : Int) (x176 : Int) (x177 : Int) (x178 : Int) (x179 : Int) (x180 : Int) (x181 : Int) (x182 : Int) (x183 : Int) (x184 : Int) (x185 : Int) : Option ((Int × Int × Int × Int × Int × Int × Int × Int × Int × Int) ⊕ (Bool × Int × Int × Int × Int × Int × Int × Int × Int × Int × Int)) :=
  let v219 := (decide (x175 ≥ c0))
  bif v219 then
    (offer_Choose_2 K x175 c1 c2 c3 c4 c5 c6 c7 c8 c9 c10 c11 c12 c13 c14 c15 c16 c17 x176 x177 x178 x179 x180 x181 x182 x183 x184 x185).bind fun (r231, r232, r233, r234, r235, r236, r237, r238, r239, r240, r241) =>
    bif r231 then
      some (.inr (true, r232, r233, r234, r235, r236, r237, r238, r239, r240, r241))
    else
      let v242 := (kwrap .i64 (x175 - 1))
      next v242 r232 r233 r234 r235 r236 r237 r238 r239 r240 r241
  else
    some (.inl (x176, x177, x178, x179, x180, x181, x182, x183, x184, x185))
def offer_down_10.l0 (K : Nat) (c0 : Int) (c1 : Int) (c2 : Int) (c3 : Int) (c4 : Int) (c5 : Int) (c6 : Int) (c7 : Int) (c8 : Int) (c9 : Int) (c10 : Int) (c11 : Int) (c12 : Int) (c13 : Int) (c14 : Int) (c15 : Int) (c16 : Int) (c17 : Int) (n : Nat) : Int → Int → Int → Int → Int → Int → Int → Int → Int → Int → Int → Option ((Int × Int × Int × Int × Int × Int × Int × Int × Int × Int) ⊕ (Bool × Int × Int × Int × Int × Int × Int × Int × Int × Int × Int)) := rounds (offer_down_10.r0 K c0 c1 c2 c3 c4 c5 c6 c7 c8 c9 c10 c11 c12 c13 c14 c15 c16 c17) (fun _ _ _ _ _ _ _ _ _ _ _ => none) n
def offer_down_10 (K : Nat) (p0 : Int) (p1 : Int) (p2 : Int) (p3 : Int) (p4 : Int) (p5 : Int) (p6 : Int) (p7 : Int) (p8 : Int) (p9 : Int) (p10 : Int) (p11 : Int) (p12 : Int) (p13 : Int) (p14 : Int) (p15 : Int) (p16 : Int) (p17 : Int) (p18 : Int) (p19 : Int) (p20 : Int) (p21 : Int) (p22 : Int) (p23 : Int) (p24 : Int) (p25 : Int) (p26 : Int) (p27 : Int) (p28 : Int) : Option (Bool × Int × Int × Int × Int × Int × Int × Int × Int × Int × Int) :=
  (offer_down_10.l0 K p1 p2 p3 p4 p5 p6 p7 p8 p9 p10 p11 p12 p13 p14 p15 p16 p17 p18 K p0 p19 p20 p21 p22 p23 p24 p25 p26 p27 p28 : Option ((Int × Int × Int × Int × Int × Int × Int × Int × Int × Int) ⊕ (Bool × Int × Int × Int × Int × Int × Int × Int × Int × Int × Int))).bind fun z => match z with
  | .inl (x143, x144, x145, x146, x147, x148, x149, x150, x151, x152) =>
    some (false, x143, x144, x145, x146, x147, x148, x149, x150, x151, x152)
  | .inr r =>
    some r
def offer_Choose (K : Nat) (p0 : Int) (p1 : Int) (p2 : Int) (p3 : Int) (p4 : Int) (p5 : Int) (p6 : Int) (p7 : Int) (p8 : Int) (p9 : Int) (p10 : Int) (p11 : Int) (p12 : Int) (p13 : Int) (p14 : Int) : Option (Int × Int × Int × Int × Int × Int × Int × Int × Int × Int × Int × Int × Int) :=
  (
    (caps_Check K p0 p1 p2 p3 p4 p5 p6 p7 p8 p9 p10 p11 p12 p13 p14).bind fun r47 =>
    bif (r47 == 0) then
      (offer_down_10 K 2 1 p0 p1 p2 p3 p4 p5 p6 p7 p8 p9 p10 p11 p12 p13 p14 p13 p14 0 0 0 0 0 0 0 0 0 0).bind fun (r48, r49, r50, r51, r52, r53, r54, r55, r56, r57, r58) =>
      some (r48, r49, r50, r51, r52, r53, r54, r55, r56, r57, r58)
    else
      some (false, 0, 0, 0, 0, 0, 0, 0, 0, 0, 0) : Option (Bool × Int × Int × Int × Int × Int × Int × Int × Int × Int × Int)).bind fun (x36, x37, x38, x39, x40, x41, x42, x43, x44, x45, x46) =>
    bif (!x36) then
      some (0, 0, 0, 0, 0, 0, 0, 0, 0, 0, 0, 0, 240)
    else
      some (x37, x38, x39, x40, x41, x42, x43, x44, x45, x46, p13, p14, 0)
def offer_Negotiate (K : Nat) (p0 : List (Int)) (p1 : List (Int)) : Option (Int × Int × Int × Int × Int × Int × Int × Int × Int × Int × Int × Int × Int) :=
  (caps_Parse K p0).bind fun (r61, r62, r63, r64, r65, r66, r67, r68, r69, r70, r71, r72, r73, r74, r75, r76) =>
  bif (r76 != 0) then
    some (0, 0, 0, 0, 0, 0, 0, 0, 0, 0, 0, 0, r76)
  else
    (caps_Parse K p1).bind fun (r77, r78, r79, r80, r81, r82, r83, r84, r85, r86, r87, r88, r89, r90, r91, r92) =>
    bif (r92 != 0) then
      some (0, 0, 0, 0, 0, 0, 0, 0, 0, 0, 0, 0, r92)
    else
      (offer_Meet K r61 r62 r63 r64 r65 r66 r67 r68 r69 r70 r71 r72 r73 r74 r75 r77 r78 r79 r80 r81 r82 r83 r84 r85 r86 r87 r88 r89 r90 r91).bind fun (r93, r94, r95, r96, r97, r98, r99, r100, r101, r102, r103, r104, r105, r106, r107) =>
      (offer_Choose K r93 r94 r95 r96 r97 r98 r99 r100 r101 r102 r103 r104 r105 r106 r107).bind fun (r108, r109, r110, r111, r112, r113, r114, r115, r116, r117, r118, r119, r120) =>
      some (r108, r109, r110, r111, r112, r113, r114, r115, r116, r117, r118, r119, r120)
def psalterylaw24_alive (K : Nat)  : Option (Bool) :=
  let v40 := [1, 8, 1, 1, 1, 1, 1, 1, 2, 20, 3, 2, 2, 1]
  let v41 := [2, 5, 1, 1, 1, 20, 30, 3, 2, 2, 1]
  (offer_Negotiate K v40 v41).bind fun (_r42, _r43, _r44, _r45, _r46, _r47, _r48, _r49, _r50, _r51, _r52, _r53, r54) =>
  (offer_Negotiate K v41 v41).bind fun (_r55, _r56, _r57, _r58, _r59, _r60, _r61, _r62, _r63, r64, r65, _r66, r67) =>
  (offer_Negotiate K v40 v40).bind fun (_r68, _r69, _r70, _r71, _r72, _r73, _r74, r75, _r76, _r77, _r78, _r79, r80) =>
  let v81 := (bif (r54 == 240) then (r67 == 0) else false)
  let v82 := (bif v81 then (r64 == 30) else false)
  let v83 := (bif v82 then (r65 == 2) else false)
  let v84 := (bif v83 then (r80 == 0) else false)
  let v85 := (bif v84 then (r75 == 20) else false)
  some v85
def offer_rank (_K : Nat) (p0 : Int) (p1 : Int) (p2 : Int) (p3 : Int) (p4 : Int) (p5 : Int) (p6 : Int) (p7 : Int) (p8 : Int) (p9 : Int) : Option ((List (Int))) :=
  let v1 := [p0, p2, p1, p8, p9, p3, p4, p6, p5, p7]
  some v1
def cmp_isNaN_int (_K : Nat) (p0 : Int) : Option (Bool) :=
  some (p0 != p0)
def cmp_Compare_int (K : Nat) (p0 : Int) (p1 : Int) : Option (Int) :=
  (cmp_isNaN_int K p0).bind fun r3 =>
  (cmp_isNaN_int K p1).bind fun r4 =>
  bif r3 then
    bif r4 then
      some 0
    else
      some (-1)
  else
    bif r4 then
      some 1
    else
      let v5 := (decide (p0 < p1))
      bif v5 then
        some (-1)
      else
        let v6 := (decide (p0 > p1))
        bif v6 then
          some 1
        else
          some 0
def slices_Compare_int_int.r0 (K : Nat) (c0 : List (Int)) (c1 : List (Int)) (c2 : Int) (next : Int → Option ((Unit) ⊕ (Int))) (x16 : Int) : Option ((Unit) ⊕ (Int)) :=
  let v20 := (decide (x16 < c2))
  bif v20 then
    let v22 := (Kd.nth (.int .i64) c0 (Int.toNat x16))
    gd ((0 : Int) ≤ x16 ∧ x16 < (c0.length : Int)) <|
    let v23 := (decide (x16 ≥ (c1.length : Int)))
    bif v23 then
      some (.inr 1)
    else
      let v24 := (Kd.nth (.int .i64) c1 (Int.toNat x16))
      gd ((0 : Int) ≤ x16 ∧ x16 < (c1.length : Int)) <|
      (cmp_Compare_int K v22 v24).bind fun r25 =>
      bif (r25 != 0) then
        some (.inr r25)
      else
        let v26 := (kwrap .i64 (x16 + 1))
        next v26
  else
    some (.inl ())
def slices_Compare_int_int.l0 (K : Nat) (c0 : List (Int)) (c1 : List (Int)) (c2 : Int) (n : Nat) : Int → Option ((Unit) ⊕ (Int)) := rounds (slices_Compare_int_int.r0 K c0 c1 c2) (fun _ => none) n
def slices_Compare_int_int (K : Nat) (p0 : List (Int)) (p1 : List (Int)) : Option (Int) :=
  (slices_Compare_int_int.l0 K p0 p1 (p0.length : Int) K 0 : Option ((Unit) ⊕ (Int))).bind fun z => match z with
  | .inl _ =>
    let v13 := (decide ((p0.length : Int) < (p1.length : Int)))
    bif v13 then
      some (-1)
    else
      some 0
  | .inr r =>
    some r
def offer_Better (K : Nat) (p0 : Int) (p1 : Int) (p2 : Int) (p3 : Int) (p4 : Int) (p5 : Int) (p6 : Int) (p7 : Int) (p8 : Int) (p9 : Int) (p10 : Int) (p11 : Int) (p12 : Int) (p13 : Int) (p14 : Int) (p15 : Int) (p16 : Int) (p17 : Int) (p18 : Int) (p19 : Int) : Option (Bool) :=
  (offer_rank K p0 p1 p2 p3 p4 p5 p6 p7 p8 p9).bind fun r4 =>
  (offer_rank K p10 p11 p12 p13 p14 p15 p16 p17 p18 p19).bind fun r5 =>
  (slices_Compare_int_int K r4 r5).bind fun r6 =>
  let v7 := (decide (r6 > 0))
  some v7
def psalterylaw24_OfferBest (K : Nat) (p0 : List (Int)) (p1 : List (Int)) (p2 : Int) (p3 : Int) (p4 : Int) (p5 : Int) (p6 : Int) (p7 : Int) (p8 : Int) (p9 : Int) (p10 : Int) (p11 : Int) (p12 : Int) (p13 : Int) : Option (Bool) :=
  (psalterylaw24_alive K ).bind fun r67 =>
  bif (!r67) then
    some false
  else
    let v68 := (decide ((p0.length : Int) > 1000))
    let v69 := (decide ((p1.length : Int) > 1000))
    let v70 := (bif v68 then true else v69)
    bif v70 then
      some true
    else
      (caps_Parse K p0).bind fun (r71, r72, r73, r74, r75, r76, r77, r78, r79, r80, r81, r82, r83, r84, r85, r86) =>
      (caps_Parse K p1).bind fun (r87, r88, r89, r90, r91, r92, r93, r94, r95, r96, r97, r98, r99, r100, r101, r102) =>
      (offer_Negotiate K p0 p1).bind fun (r103, r104, r105, r106, r107, r108, r109, r110, r111, r112, r113, r114, r115) =>
      (offer_Negotiate K p1 p0).bind fun (r116, r117, r118, r119, r120, r121, r122, r123, r124, r125, r126, r127, r128) =>
      let v129 := (!((r103 == r116) && ((r104 == r117) && ((r105 == r118) && ((r106 == r119) && ((r107 == r120) && ((r108 == r121) && ((r109 == r122) && ((r110 == r123) && ((r111 == r124) && (r112 == r125)))))))))))
      let v130 := (!((r113 == r126) && (r114 == r127)))
      let v131 := (bif v129 then true else v130)
      let v132 := (r115 != r128)
      let v133 := (bif v131 then true else v132)
      bif v133 then
        some false
      else
        let v134 := (bif (r86 != 0) then true else (r102 != 0))
        bif v134 then
          some (r115 == 230)
        else
          (
            (caps_Allows K r71 r72 r73 r74 r75 r76 r77 r78 r79 r80 r81 r82 r83 r84 r85 p2 p3 p4 p5 p6 p7 p8 p9 p10 p11 p12 p13).bind fun r150 =>
            bif r150 then
              (caps_Allows K r87 r88 r89 r90 r91 r92 r93 r94 r95 r96 r97 r98 r99 r100 r101 p2 p3 p4 p5 p6 p7 p8 p9 p10 p11 p12 p13).bind fun r151 =>
              some r151
            else
              some false : Option (Bool)).bind fun x137 =>
            bif (r115 != 0) then
              let v138 := (bif (r115 == 240) then (!x137) else false)
              some v138
            else
              (
                (caps_Allows K r71 r72 r73 r74 r75 r76 r77 r78 r79 r80 r81 r82 r83 r84 r85 r103 r104 r105 r106 r107 r108 r109 r110 r111 r112 r113 r114).bind fun r143 =>
                bif r143 then
                  (caps_Allows K r87 r88 r89 r90 r91 r92 r93 r94 r95 r96 r97 r98 r99 r100 r101 r103 r104 r105 r106 r107 r108 r109 r110 r111 r112 r113 r114).bind fun r144 =>
                  bif r144 then
                    bif (!x137) then
                      some true
                    else
                      (offer_Better K p2 p3 p4 p5 p6 p7 p8 p9 p10 p11 r103 r104 r105 r106 r107 r108 r109 r110 r111 r112).bind fun r145 =>
                      let v146 := (decide (p12 ≤ r113))
                      let v147 := (bif (!r145) then v146 else false)
                      let v148 := (decide (p13 ≤ r114))
                      let v149 := (bif v147 then v148 else false)
                      some v149
                  else
                    some false
                else
                  some false : Option (Bool)).bind fun x142 =>
                some x142
end Go.Fo
