/- The functions of Go that are reached, as functions of plain values. -/
import Derived.Test.YtcaehpgdcjonfaaK3
namespace Go.Fo
def caps_Caps_fields (_K : Nat) (p0 : Int) (_p1 : Int) (_p2 : Int) (_p3 : Int) (_p4 : Int) (_p5 : Int) (_p6 : Int) (_p7 : Int) (_p8 : Int) (_p9 : Int) (_p10 : Int) (_p11 : Int) (_p12 : Int) (_p13 : Int) (_p14 : Int) (_p15 : Int) : Option ((Unit) ⊕ (Unit) ⊕ (Unit) ⊕ (Unit)) :=
  bif (p0 == 1) then
    some (.inl ())
  else
    bif (p0 == 2) then
      some (.inr (.inl ()))
    else
      bif (p0 == 3) then
        some (.inr (.inr (.inl ())))
      else
        some (.inr (.inr (.inr ())))
def caps_Caps_fields_2 (_K : Nat) (_p0 : Int) (_p1 : Int) (_p2 : Int) (_p3 : Int) (_p4 : Int) (_p5 : Int) (_p6 : Int) (_p7 : Int) (_p8 : Int) (_p9 : Int) (_p10 : Int) (_p11 : Int) (_p12 : Int) (_p13 : Int) (_p14 : Int) : Option (Unit) :=
  some ()
def caps_Caps_fields_3 (_K : Nat) (_p0 : Int) (_p1 : Int) (_p2 : Int) (_p3 : Int) (_p4 : Int) (_p5 : Int) (_p6 : Int) (_p7 : Int) (_p8 : Int) (_p9 : Int) (_p10 : Int) (_p11 : Int) (_p12 : Int) (_p13 : Int) (_p14 : Int) : Option (Unit) :=
  some ()
def caps_Caps_fields_4 (_K : Nat) (_p0 : Int) (_p1 : Int) (_p2 : Int) (_p3 : Int) (_p4 : Int) (_p5 : Int) (_p6 : Int) (_p7 : Int) (_p8 : Int) (_p9 : Int) (_p10 : Int) (_p11 : Int) (_p12 : Int) (_p13 : Int) (_p14 : Int) : Option (Unit) :=
  some ()
def caps_set (_K : Nat) (p0 : Int) (p1 : Int) : Option (Bool) :=
  let v1 := (decide (p0 > 0))
  let v2 := (kshl .i64 1 p1)
  let v3 := (decide (p0 < v2))
  let v4 := (bif v1 then v3 else false)
  gd ((v1 = true → (0 : Int) ≤ p1)) <|
  some v4
def caps_span (_K : Nat) (p0 : Int) (p1 : Int) (p2 : Int) (p3 : Int) : Option (Bool) :=
  let v1 := (decide (p2 ≤ p0))
  let v2 := (decide (p0 ≤ p1))
  let v3 := (bif v1 then v2 else false)
  let v4 := (decide (p1 ≤ p3))
  let v5 := (bif v3 then v4 else false)
  some v5
def caps_Sub_may (K : Nat) (p0 : Int) (p1 : Int) (p2 : Int) (p3 : Int) (p4 : Int) (p5 : Int) (p6 : Int) (p7 : Int) : Option (Bool) :=
  (
    let v17 := ((p0 == 0) && ((p1 == 0) && ((p2 == 0) && ((p3 == 0) && ((p4 == 0) && ((p5 == 0) && ((p6 == 0) && (p7 == 0))))))))
    bif v17 then
      some true
    else
      (caps_set K p0 4).bind fun r18 =>
      bif r18 then
        (caps_set K p1 2).bind fun r19 =>
        bif r19 then
          (caps_set K p2 2).bind fun r20 =>
          bif r20 then
            (caps_set K p3 4).bind fun r21 =>
            bif r21 then
              (caps_set K p4 2).bind fun r22 =>
              bif r22 then
                (caps_set K p5 2).bind fun r23 =>
                bif r23 then
                  (caps_span K p6 p7 2 250).bind fun r24 =>
                  some r24
                else
                  some false
              else
                some false
            else
              some false
          else
            some false
        else
          some false
      else
        some false : Option (Bool)).bind fun x16 =>
    some x16
def caps_Lap_may (K : Nat) (p0 : Int) (p1 : Int) (p2 : Int) (p3 : Int) (p4 : Int) : Option (Bool) :=
  (
    let v11 := ((p0 == 0) && ((p1 == 0) && ((p2 == 0) && ((p3 == 0) && (p4 == 0)))))
    bif v11 then
      some true
    else
      (caps_set K p0 4).bind fun r12 =>
      bif r12 then
        (caps_set K p1 2).bind fun r13 =>
        bif r13 then
          (caps_set K p2 4).bind fun r14 =>
          bif r14 then
            (caps_span K p3 p4 20 120).bind fun r15 =>
            some r15
          else
            some false
        else
          some false
      else
        some false : Option (Bool)).bind fun x10 =>
    some x10
def caps_Check (K : Nat) (p0 : Int) (p1 : Int) (p2 : Int) (p3 : Int) (p4 : Int) (p5 : Int) (p6 : Int) (p7 : Int) (p8 : Int) (p9 : Int) (p10 : Int) (p11 : Int) (p12 : Int) (p13 : Int) (p14 : Int) : Option (Int) :=
  let v6 := (!((p0 == 0) && ((p1 == 0) && ((p2 == 0) && ((p3 == 0) && ((p4 == 0) && ((p5 == 0) && ((p6 == 0) && (p7 == 0)))))))))
  let v7 := (!((p8 == 0) && ((p9 == 0) && ((p10 == 0) && ((p11 == 0) && (p12 == 0))))))
  let v8 := (bif v6 then true else v7)
  (
    bif (!v8) then
      some true
    else
      (caps_Sub_may K p0 p1 p2 p3 p4 p5 p6 p7).bind fun r14 =>
      bif (!r14) then
        some true
      else
        (caps_Lap_may K p8 p9 p10 p11 p12).bind fun r15 =>
        bif (!r15) then
          some true
        else
          (caps_span K p13 p13 1 16).bind fun r16 =>
          bif (!r16) then
            some true
          else
            (caps_span K p14 p14 1 8).bind fun r17 =>
            some (!r17) : Option (Bool)).bind fun x13 =>
    bif x13 then
      some 1
    else
      some 0
def caps_Parse.r0 (K : Nat)  (next : List (Int) → Int → Int → Int → Int → Int → Int → Int → Int → Int → Int → Int → Int → Int → Int → Int → Bool → Bool → Bool → Option ((Int × Int × Int × Int × Int × Int × Int × Int × Int × Int × Int × Int × Int × Int × Int) ⊕ (Int × Int × Int × Int × Int × Int × Int × Int × Int × Int × Int × Int × Int × Int × Int × Int))) (x185 : List (Int)) (x186 : Int) (x187 : Int) (x188 : Int) (x189 : Int) (x190 : Int) (x191 : Int) (x192 : Int) (x193 : Int) (x194 : Int) (x195 : Int) (x196 : Int) (x197 : Int) (x198 : Int) (x199 : Int) (x200 : Int) (x201 : Bool) (x202 : Bool) (x203 : Bool) : Option ((Int × Int × Int × Int × Int × Int × Int × Int × Int × Int × Int × Int × Int × Int × Int) ⊕ (Int × Int × Int × Int × Int × Int × Int × Int × Int × Int × Int × Int × Int × Int × Int × Int)) :=
  let v238 := (decide ((x185.length : Int) > 0))
  bif v238 then
    let v239 := (decide ((x185.length : Int) < 2))
    let v240 := (Kd.nth (.int .u8) x185 1)
    let v241 := (kwrap .i64 v240)
    let v242 := (kwrap .i64 ((x185.length : Int) - 2))
    let v243 := (decide (v241 > v242))
    let v244 := (bif v239 then true else v243)
    gd (((!v239) = true → 1 < (x185.length : Int))) <|
    bif v244 then
      some (.inr (0, 0, 0, 0, 0, 0, 0, 0, 0, 0, 0, 0, 0, 0, 0, 230))
    else
      let v245 := (Kd.nth (.int .u8) x185 0)
      gd (0 < (x185.length : Int)) <|
      let v246 := (kwrap .i64 v245)
      gd (1 < (x185.length : Int)) <|
      let v247 := (kwrap .i64 (2 + v241))
      let v248 := ((x185.take (Int.toNat v247)).drop (Int.toNat 2))
      gd (2 ≤ v247 ∧ v247 ≤ (x185.length : Int)) <|
      let v249 := (v248.length : Int)
      let v250 := (kwrap .i64 (2 + v249))
      let v251 := ((x185.take (Int.toNat (x185.length : Int))).drop (Int.toNat v250))
      gd ((0 : Int) ≤ v250 ∧ v250 ≤ (x185.length : Int) ∧ (x185.length : Int) ≤ (x185.length : Int)) <|
      bif v246 == 1 then
        (caps_Caps_fields_2 K x186 x187 x188 x189 x190 x191 x192 x193 x194 x195 x196 x197 x198 x199 x200).bind fun _ =>
        let v252 := (bif x201 then true else (v249 != 8))
        bif v252 then
          some (.inr (0, 0, 0, 0, 0, 0, 0, 0, 0, 0, 0, 0, 0, 0, 0, 230))
        else
          (
            let v264 := (Kd.nth (.int .u8) v248 0)
            let v265 := (kwrap .i64 v264)
            gd (0 < (v248.length : Int)) <|
            let v266 := (Kd.nth (.int .u8) v248 1)
            let v267 := (kwrap .i64 v266)
            gd (1 < (v248.length : Int)) <|
            let v268 := (Kd.nth (.int .u8) v248 2)
            let v269 := (kwrap .i64 v268)
            gd (2 < (v248.length : Int)) <|
            let v270 := (Kd.nth (.int .u8) v248 3)
            let v271 := (kwrap .i64 v270)
            gd (3 < (v248.length : Int)) <|
            let v272 := (Kd.nth (.int .u8) v248 4)
            let v273 := (kwrap .i64 v272)
            gd (4 < (v248.length : Int)) <|
            let v274 := (Kd.nth (.int .u8) v248 5)
            let v275 := (kwrap .i64 v274)
            gd (5 < (v248.length : Int)) <|
            let v276 := (Kd.nth (.int .u8) v248 6)
            let v277 := (kwrap .i64 v276)
            gd (6 < (v248.length : Int)) <|
            let v278 := (Kd.nth (.int .u8) v248 7)
            let v279 := (kwrap .i64 v278)
            gd (7 < (v248.length : Int)) <|
            some (v265, v267, v269, v271, v273, v275, v277, v279) : Option (Int × Int × Int × Int × Int × Int × Int × Int)).bind fun (x253, x254, x255, x256, x257, x258, x259, x260) =>
            let v261 := ((x253 == 0) && ((x254 == 0) && ((x255 == 0) && ((x256 == 0) && ((x257 == 0) && ((x258 == 0) && ((x259 == 0) && (x260 == 0))))))))
            let v263 := (bif v261 then true else false)
            bif v263 then
              some (.inr (0, 0, 0, 0, 0, 0, 0, 0, 0, 0, 0, 0, 0, 0, 0, 230))
            else
              next v251 x253 x254 x255 x256 x257 x258 x259 x260 x194 x195 x196 x197 x198 x199 x200 true x202 x203
      else
        bif v246 == 2 then
          (caps_Caps_fields_3 K x186 x187 x188 x189 x190 x191 x192 x193 x194 x195 x196 x197 x198 x199 x200).bind fun _ =>
          let v280 := (bif x202 then true else (v249 != 5))
          bif v280 then
            some (.inr (0, 0, 0, 0, 0, 0, 0, 0, 0, 0, 0, 0, 0, 0, 0, 230))
          else
            (
              let v287 := (Kd.nth (.int .u8) v248 0)
              let v288 := (kwrap .i64 v287)
              gd (0 < (v248.length : Int)) <|
              let v289 := (Kd.nth (.int .u8) v248 1)
              let v290 := (kwrap .i64 v289)
              gd (1 < (v248.length : Int)) <|
              let v291 := (Kd.nth (.int .u8) v248 2)
              let v292 := (kwrap .i64 v291)
              gd (2 < (v248.length : Int)) <|
              let v293 := (Kd.nth (.int .u8) v248 3)
              let v294 := (kwrap .i64 v293)
              gd (3 < (v248.length : Int)) <|
              let v295 := (Kd.nth (.int .u8) v248 4)
              let v296 := (kwrap .i64 v295)
              gd (4 < (v248.length : Int)) <|
              some (v288, v290, v292, v294, v296) : Option (Int × Int × Int × Int × Int)).bind fun (x281, x282, x283, x284, x285) =>
              let v286 := ((x281 == 0) && ((x282 == 0) && ((x283 == 0) && ((x284 == 0) && (x285 == 0)))))
              bif v286 then
                some (.inr (0, 0, 0, 0, 0, 0, 0, 0, 0, 0, 0, 0, 0, 0, 0, 230))
              else
                next v251 x186 x187 x188 x189 x190 x191 x192 x193 x281 x282 x283 x284 x285 x199 x200 x201 true x203
        else
          bif v246 == 3 then
            (caps_Caps_fields_4 K x186 x187 x188 x189 x190 x191 x192 x193 x194 x195 x196 x197 x198 x199 x200).bind fun _ =>
            let v297 := (bif x203 then true else (v249 != 2))
            bif v297 then
              some (.inr (0, 0, 0, 0, 0, 0, 0, 0, 0, 0, 0, 0, 0, 0, 0, 230))
            else
              (
                let v300 := (Kd.nth (.int .u8) v248 0)
                let v301 := (kwrap .i64 v300)
                gd (0 < (v248.length : Int)) <|
                let v302 := (Kd.nth (.int .u8) v248 1)
                let v303 := (kwrap .i64 v302)
                gd (1 < (v248.length : Int)) <|
                some (v301, v303) : Option (Int × Int)).bind fun (x298, x299) =>
                next v251 x186 x187 x188 x189 x190 x191 x192 x193 x194 x195 x196 x197 x198 x298 x299 x201 x202 true
          else
            (caps_Caps_fields K v246 x186 x187 x188 x189 x190 x191 x192 x193 x194 x195 x196 x197 x198 x199 x200).bind fun z => match z with
            | .inl _ =>
              none
            | .inr (.inl _) =>
              none
            | .inr (.inr (.inl _)) =>
              none
            | .inr (.inr (.inr _)) =>
              next v251 x186 x187 x188 x189 x190 x191 x192 x193 x194 x195 x196 x197 x198 x199 x200 x201 x202 x203
  else
    some (.inl (x186, x187, x188, x189, x190, x191, x192, x193, x194, x195, x196, x197, x198, x199, x200))
def caps_Parse.l0 (K : Nat)  (n : Nat) : List (Int) → Int → Int → Int → Int → Int → Int → Int → Int → Int → Int → Int → Int → Int → Int → Int → Bool → Bool → Bool → Option ((Int × Int × Int × Int × Int × Int × Int × Int × Int × Int × Int × Int × Int × Int × Int) ⊕ (Int × Int × Int × Int × Int × Int × Int × Int × Int × Int × Int × Int × Int × Int × Int × Int)) := rounds (caps_Parse.r0 K) (fun _ _ _ _ _ _ _ _ _ _ _ _ _ _ _ _ _ _ _ => none) n
def caps_Parse (K : Nat) (p0 : List (Int)) : Option (Int × Int × Int × Int × Int × Int × Int × Int × Int × Int × Int × Int × Int × Int × Int × Int) :=
  let v85 := (decide ((p0.length : Int) > 256))
  bif v85 then
    some (0, 0, 0, 0, 0, 0, 0, 0, 0, 0, 0, 0, 0, 0, 0, 230)
  else
    (caps_Parse.l0 K K p0 0 0 0 0 0 0 0 0 0 0 0 0 0 0 0 false false false : Option ((Int × Int × Int × Int × Int × Int × Int × Int × Int × Int × Int × Int × Int × Int × Int) ⊕ (Int × Int × Int × Int × Int × Int × Int × Int × Int × Int × Int × Int × Int × Int × Int × Int))).bind fun z => match z with
    | .inl (x154, x155, x156, x157, x158, x159, x160, x161, x162, x163, x164, x165, x166, x167, x168) =>
      (caps_Check K x154 x155 x156 x157 x158 x159 x160 x161 x162 x163 x164 x165 x166 x167 x168).bind fun r169 =>
      bif (r169 != 0) then
        some (0, 0, 0, 0, 0, 0, 0, 0, 0, 0, 0, 0, 0, 0, 0, 230)
      else
        some (x154, x155, x156, x157, x158, x159, x160, x161, x162, x163, x164, x165, x166, x167, x168, 0)
    | .inr r =>
      some r
def psalterylaw23_alive (K : Nat)  : Option (Bool) :=
  (caps_Parse K [3, 2, 4, 2]).bind fun (_r33, _r34, _r35, _r36, _r37, _r38, _r39, _r40, _r41, _r42, _r43, _r44, _r45, _r46, _r47, r48) =>
  let v49 := [3, 2, 4, 2, 2, 5, 1, 1, 1, 20, 30]
  (caps_Parse K v49).bind fun (_r50, _r51, _r52, _r53, _r54, _r55, _r56, _r57, _r58, _r59, _r60, _r61, r62, r63, _r64, r65) =>
  let v66 := (bif (r48 == 230) then (r65 == 0) else false)
  let v67 := (bif v66 then (r63 == 4) else false)
  let v68 := (bif v67 then (r62 == 30) else false)
  some v68
def psalteryref23_Check (_K : Nat) (p0 : Int) (p1 : Int) (p2 : Int) (p3 : Int) (p4 : Int) (p5 : Int) (p6 : Int) (p7 : Int) (p8 : Int) (p9 : Int) (p10 : Int) (p11 : Int) (p12 : Int) (p13 : Int) (p14 : Int) : Option (Bool) :=
  let v1 := ((p0 == 0) && ((p1 == 0) && ((p2 == 0) && ((p3 == 0) && ((p4 == 0) && ((p5 == 0) && ((p6 == 0) && (p7 == 0))))))))
  let v2 := ((p8 == 0) && ((p9 == 0) && ((p10 == 0) && ((p11 == 0) && (p12 == 0)))))
  let v3 := (bif v1 then v2 else false)
  let v4 := (decide (p13 < 1))
  let v5 := (bif v3 then true else v4)
  let v6 := (decide (p13 > 16))
  let v7 := (bif v5 then true else v6)
  let v8 := (decide (p14 < 1))
  let v9 := (bif v7 then true else v8)
  let v10 := (decide (p14 > 8))
  let v11 := (bif v9 then true else v10)
  bif v11 then
    some false
  else
    (
      bif (!v1) then
        let v28 := (decide (p0 < 1))
        let v29 := (decide (p0 > 15))
        let v30 := (bif v28 then true else v29)
        let v31 := (decide (p1 < 1))
        let v32 := (bif v30 then true else v31)
        let v33 := (decide (p1 > 3))
        let v34 := (bif v32 then true else v33)
        let v35 := (decide (p2 < 1))
        let v36 := (bif v34 then true else v35)
        let v37 := (decide (p2 > 3))
        let v38 := (bif v36 then true else v37)
        let v39 := (decide (p3 < 1))
        let v40 := (bif v38 then true else v39)
        let v41 := (decide (p3 > 15))
        let v42 := (bif v40 then true else v41)
        let v43 := (decide (p4 < 1))
        let v44 := (bif v42 then true else v43)
        let v45 := (decide (p4 > 3))
        let v46 := (bif v44 then true else v45)
        let v47 := (decide (p5 < 1))
        let v48 := (bif v46 then true else v47)
        let v49 := (decide (p5 > 3))
        let v50 := (bif v48 then true else v49)
        bif v50 then
          some (.inr false)
        else
          let v51 := (decide (p6 < 2))
          let v52 := (decide (p6 > p7))
          let v53 := (bif v51 then true else v52)
          let v54 := (decide (p7 > 250))
          let v55 := (bif v53 then true else v54)
          bif v55 then
            some (.inr false)
          else
            some (.inl ())
      else
        some (.inl ()) : Option ((Unit) ⊕ (Bool))).bind fun z => match z with
    | .inl _ =>
      (
        bif (!v2) then
          let v12 := (decide (p8 < 1))
          let v13 := (decide (p8 > 15))
          let v14 := (bif v12 then true else v13)
          let v15 := (decide (p9 < 1))
          let v16 := (bif v14 then true else v15)
          let v17 := (decide (p9 > 3))
          let v18 := (bif v16 then true else v17)
          let v19 := (decide (p10 < 1))
          let v20 := (bif v18 then true else v19)
          let v21 := (decide (p10 > 15))
          let v22 := (bif v20 then true else v21)
          bif v22 then
            some (.inr false)
          else
            let v23 := (decide (p11 < 20))
            let v24 := (decide (p11 > p12))
            let v25 := (bif v23 then true else v24)
            let v26 := (decide (p12 > 120))
            let v27 := (bif v25 then true else v26)
            bif v27 then
              some (.inr false)
            else
              some (.inl ())
        else
          some (.inl ()) : Option ((Unit) ⊕ (Bool))).bind fun z => match z with
      | .inl _ =>
        some true
      | .inr r =>
        some r
    | .inr r =>
      some r
def psalterylaw23_Of (_K : Nat) (_p0 : Int) (_p1 : Int) (_p2 : Int) (_p3 : Int) (_p4 : Int) (_p5 : Int) (_p6 : Int) (_p7 : Int) (_p8 : Int) (_p9 : Int) (_p10 : Int) (_p11 : Int) (_p12 : Int) (_p13 : Int) (_p14 : Int) : Option (Unit) :=
  some ()
def caps_Bytes (K : Nat) (p0 : Int) (p1 : Int) (p2 : Int) (p3 : Int) (p4 : Int) (p5 : Int) (p6 : Int) (p7 : Int) (p8 : Int) (p9 : Int) (p10 : Int) (p11 : Int) (p12 : Int) (p13 : Int) (p14 : Int) : Option ((Int) ⊕ ((List (Int)))) :=
  (caps_Check K p0 p1 p2 p3 p4 p5 p6 p7 p8 p9 p10 p11 p12 p13 p14).bind fun r11 =>
  bif (r11 != 0) then
    some (.inl r11)
  else
    (
      (
        let v43 := ((p0 == 0) && ((p1 == 0) && ((p2 == 0) && ((p3 == 0) && ((p4 == 0) && ((p5 == 0) && ((p6 == 0) && (p7 == 0))))))))
        let v45 := (bif v43 then true else false)
        bif v45 then
          some ((v43, ([] : List (Int))))
        else
          (caps_Caps_fields_2 K p0 p1 p2 p3 p4 p5 p6 p7 p8 p9 p10 p11 p12 p13 p14).bind fun _ =>
          gd (([1, 8].length : Int) * 1 ≤ 70368744177664) <|
          (
            let v47 := [(kwrap .u8 p0)]
            let v48 := ([1, 8] ++ v47)
            gd ((([1, 8].length : Int) + (v47.length : Int)) * 1 ≤ 70368744177664) <|
            let v49 := [(kwrap .u8 p1)]
            gd (((v48.length : Int) + (v49.length : Int)) * 1 ≤ 70368744177664) <|
            let v50 := [(kwrap .u8 p2)]
            let v51 := ((v48 ++ v49) ++ v50)
            gd ((((v48 ++ v49).length : Int) + (v50.length : Int)) * 1 ≤ 70368744177664) <|
            let v52 := [(kwrap .u8 p3)]
            gd (((v51.length : Int) + (v52.length : Int)) * 1 ≤ 70368744177664) <|
            let v53 := [(kwrap .u8 p4)]
            let v54 := ((v51 ++ v52) ++ v53)
            gd ((((v51 ++ v52).length : Int) + (v53.length : Int)) * 1 ≤ 70368744177664) <|
            let v55 := [(kwrap .u8 p5)]
            gd (((v54.length : Int) + (v55.length : Int)) * 1 ≤ 70368744177664) <|
            let v56 := [(kwrap .u8 p6)]
            let v57 := ((v54 ++ v55) ++ v56)
            gd ((((v54 ++ v55).length : Int) + (v56.length : Int)) * 1 ≤ 70368744177664) <|
            let v58 := [(kwrap .u8 p7)]
            gd (((v57.length : Int) + (v58.length : Int)) * 1 ≤ 70368744177664) <|
            some (v57 ++ v58) : Option ((List (Int)))).bind fun x46 =>
            some (v43, x46) : Option (Bool × (List (Int)))).bind fun (x22, x23) =>
        (
          let v33 := ((p8 == 0) && ((p9 == 0) && ((p10 == 0) && ((p11 == 0) && (p12 == 0)))))
          bif v33 then
            some (v33, x23)
          else
            (caps_Caps_fields_3 K p0 p1 p2 p3 p4 p5 p6 p7 p8 p9 p10 p11 p12 p13 p14).bind fun _ =>
            let v34 := (x23 ++ [2, 5])
            gd (((x23.length : Int) + ([2, 5].length : Int)) * 1 ≤ 70368744177664) <|
            (
              let v36 := [(kwrap .u8 p8)]
              gd (((v34.length : Int) + (v36.length : Int)) * 1 ≤ 70368744177664) <|
              let v37 := [(kwrap .u8 p9)]
              let v38 := ((v34 ++ v36) ++ v37)
              gd ((((v34 ++ v36).length : Int) + (v37.length : Int)) * 1 ≤ 70368744177664) <|
              let v39 := [(kwrap .u8 p10)]
              gd (((v38.length : Int) + (v39.length : Int)) * 1 ≤ 70368744177664) <|
              let v40 := [(kwrap .u8 p11)]
              let v41 := ((v38 ++ v39) ++ v40)
              gd ((((v38 ++ v39).length : Int) + (v40.length : Int)) * 1 ≤ 70368744177664) <|
              let v42 := [(kwrap .u8 p12)]
              gd (((v41.length : Int) + (v42.length : Int)) * 1 ≤ 70368744177664) <|
              some (v41 ++ v42) : Option ((List (Int)))).bind fun x35 =>
              some (v33, x35) : Option (Bool × (List (Int)))).bind fun (x25, x26) =>
          (caps_Caps_fields_4 K p0 p1 p2 p3 p4 p5 p6 p7 p8 p9 p10 p11 p12 p13 p14).bind fun _ =>
          let v28 := (x26 ++ [3, 2])
          gd (((x26.length : Int) + ([3, 2].length : Int)) * 1 ≤ 70368744177664) <|
          (
            let v30 := [(kwrap .u8 p13)]
            gd (((v28.length : Int) + (v30.length : Int)) * 1 ≤ 70368744177664) <|
            let v31 := [(kwrap .u8 p14)]
            let v32 := ((v28 ++ v30) ++ v31)
            gd ((((v28 ++ v30).length : Int) + (v31.length : Int)) * 1 ≤ 70368744177664) <|
            some v32 : Option ((List (Int)))).bind fun x29 =>
            some x29 : Option ((List (Int)))).bind fun x20 =>
      some (.inr x20)
def format_within (_K : Nat) (p0 : Int) (p1 : Int) (p2 : Int) : Option (Bool) :=
  let v1 := (decide (p0 ≥ p1))
  let v2 := (decide (p0 ≤ p2))
  let v3 := (bif v1 then v2 else false)
  some v3
def slices_Index_bool_bool.r0 (_K : Nat) (c0 : Bool) (c1 : Int) (c2 : List (Bool)) (next : Int → Option ((Unit) ⊕ (Int))) (x5 : Int) : Option ((Unit) ⊕ (Int)) :=
  let v7 := (decide (x5 < c1))
  bif v7 then
    let v8 := (Kd.nth (.bool) c2 (Int.toNat x5))
    gd ((0 : Int) ≤ x5 ∧ x5 < (c2.length : Int) ∧ (Int.toNat x5) < c2.length) <|
    bif (c0 == v8) then
      some (.inr x5)
    else
      let v9 := (kwrap .i64 (x5 + 1))
      next v9
  else
    some (.inl ())
def slices_Index_bool_bool.l0 (K : Nat) (c0 : Bool) (c1 : Int) (c2 : List (Bool)) (n : Nat) : Int → Option ((Unit) ⊕ (Int)) := rounds (slices_Index_bool_bool.r0 K c0 c1 c2) (fun _ => none) n
def slices_Index_bool_bool (K : Nat) (p0 : Bool) (p1 : List (Bool)) : Option (Int) :=
  (slices_Index_bool_bool.l0 K p0 (p1.length : Int) p1 K 0 : Option ((Unit) ⊕ (Int))).bind fun z => match z with
  | .inl _ =>
    some (-1)
  | .inr r =>
    some r
def slices_Contains_bool_bool (K : Nat) (p0 : Bool) (p1 : List (Bool)) : Option (Bool) :=
  (slices_Index_bool_bool K p0 p1).bind fun r2 =>
  let v3 := (decide (r2 ≥ 0))
  some v3
def format_all (K : Nat) (p0 : List (Bool)) : Option (Bool) :=
  (slices_Contains_bool_bool K false p0).bind fun r2 =>
  some (!r2)
def lapped_lengths (_K : Nat)  : Option (Unit) :=
  some ()
def lapped_Lengths (K : Nat)  : Option ((List (Int))) :=
  (lapped_lengths K ).bind fun _ =>
  let v1 := [(40, (60, (80, 120))).1, (40, (60, (80, 120))).2.1, (40, (60, (80, 120))).2.2.1, (40, (60, (80, 120))).2.2.2]
  some v1
def slices_Index_int_int.r0 (_K : Nat) (c0 : List (Int)) (c1 : Int) (c2 : Int) (next : Int → Option ((Unit) ⊕ (Int))) (x5 : Int) : Option ((Unit) ⊕ (Int)) :=
  let v7 := (decide (x5 < c2))
  bif v7 then
    let v8 := (Kd.nth (.int .i64) c0 (Int.toNat x5))
    gd ((0 : Int) ≤ x5 ∧ x5 < (c0.length : Int)) <|
    bif (c1 == v8) then
      some (.inr x5)
    else
      let v9 := (kwrap .i64 (x5 + 1))
      next v9
  else
    some (.inl ())
def slices_Index_int_int.l0 (K : Nat) (c0 : List (Int)) (c1 : Int) (c2 : Int) (n : Nat) : Int → Option ((Unit) ⊕ (Int)) := rounds (slices_Index_int_int.r0 K c0 c1 c2) (fun _ => none) n
def slices_Index_int_int (K : Nat) (p0 : List (Int)) (p1 : Int) : Option (Int) :=
  (slices_Index_int_int.l0 K p0 p1 (p0.length : Int) K 0 : Option ((Unit) ⊕ (Int))).bind fun z => match z with
  | .inl _ =>
    some (-1)
  | .inr r =>
    some r
def slices_Contains_int_int (K : Nat) (p0 : List (Int)) (p1 : Int) : Option (Bool) :=
  (slices_Index_int_int K p0 p1).bind fun r2 =>
  let v3 := (decide (r2 ≥ 0))
  some v3
def format_fields (K : Nat) (p0 : Int) (p1 : Int) (p2 : Int) (p3 : Int) (p4 : Int) (p5 : Int) (p6 : Int) (p7 : Int) (p8 : Int) (p9 : Int) : Option (Bool) :=
  (format_within K p1 0 3).bind fun r64 =>
  (format_within K p2 1 2).bind fun r65 =>
  (format_all K [r64, r65]).bind fun r66 =>
  bif (p0 == 1) then
    (
      bif r66 then
        let v116 := (bif (p3 == 4) then true else (p3 == 8))
        let v117 := (Int.tmod p4 4)
        bif (v117 == 0) then
          (format_within K p4 4 16).bind fun r119 =>
          let v120 := (bif (v117 == 0) then r119 else false)
          (format_within K p5 0 1).bind fun r121 =>
          let v122 := (kwrap .i64 (p2 - 1))
          (format_within K p6 0 v122).bind fun r123 =>
          let v124 := (kwrap .i64 (16 * p3))
          let v125 := (kwrap .i64 (v124 * p2))
          let v126 := (imin v125 250)
          (format_within K p7 2 v126).bind fun r127 =>
          let v128 := (bif (p8 == 0) then (p9 == 0) else false)
          let v129 := [v116, v120, r121, r123, r127, v128]
          (format_all K v129).bind fun r130 =>
          let v131 := (bif r66 then r130 else false)
          some v131
        else
          let v132 := (bif (v117 == 0) then false else false)
          (format_within K p5 0 1).bind fun r133 =>
          let v134 := (kwrap .i64 (p2 - 1))
          (format_within K p6 0 v134).bind fun r135 =>
          let v136 := (kwrap .i64 (16 * p3))
          let v137 := (kwrap .i64 (v136 * p2))
          let v138 := (imin v137 250)
          (format_within K p7 2 v138).bind fun r139 =>
          let v140 := (bif (p8 == 0) then (p9 == 0) else false)
          let v141 := [v116, v132, r133, r135, r139, v140]
          (format_all K v141).bind fun r142 =>
          let v143 := (bif r66 then r142 else false)
          some v143
      else
        let v144 := (bif r66 then false else false)
        some v144 : Option (Bool)).bind fun x114 =>
      some x114
  else
    bif (p0 == 2) then
      (
        bif r66 then
          (lapped_Lengths K ).bind fun r158 =>
          (slices_Contains_int_int K r158 p8).bind fun r159 =>
          (format_within K p9 20 120).bind fun r160 =>
          let v161 := (bif (p3 == 0) then (p4 == 0) else false)
          let v162 := (bif v161 then (p5 == 0) else false)
          let v163 := (bif v162 then (p6 == 0) else false)
          let v164 := (bif v163 then (p7 == 0) else false)
          let v165 := [r159, r160, v164]
          (format_all K v165).bind fun r166 =>
          let v167 := (bif r66 then r166 else false)
          some v167
        else
          let v168 := (bif r66 then false else false)
          some v168 : Option (Bool)).bind fun x156 =>
        some x156
    else
      some false
def format_bits (_K : Nat) (p0 : Int) (_p1 : Int) (p2 : Int) (p3 : Int) (p4 : Int) (_p5 : Int) (p6 : Int) (p7 : Int) (_p8 : Int) (p9 : Int) : Option (Int) :=
  bif (p0 == 2) then
    let v1 := (kwrap .i64 (8 * p9))
    some v1
  else
    let v2 := (kwrap .i64 (p6 * p3))
    let v3 := (kwrap .i64 (32 + v2))
    let v4 := (kwrap .i64 (4 * p3))
    let v5 := (kwrap .i64 (v4 * p2))
    let v6 := (kwrap .i64 (v3 + v5))
    let v7 := (kwrap .i64 (p4 * p7))
    let v8 := (kwrap .i64 (v6 + v7))
    some v8
def format_payload (K : Nat) (p0 : Int) (p1 : Int) (p2 : Int) (p3 : Int) (p4 : Int) (p5 : Int) (p6 : Int) (p7 : Int) (p8 : Int) (p9 : Int) : Option (Int) :=
  bif (p0 == 2) then
    let v2 := (kwrap .i64 (p9 * p2))
    some v2
  else
    (format_bits K p0 p1 p2 p3 p4 p5 p6 p7 p8 p9).bind fun r3 =>
    let v4 := (kwrap .i64 (r3 + 7))
    let v5 := (kwrap .i64 (Int.tdiv v4 8))
    some v5
def format_Check (K : Nat) (p0 : Int) (p1 : Int) (p2 : Int) (p3 : Int) (p4 : Int) (p5 : Int) (p6 : Int) (p7 : Int) (p8 : Int) (p9 : Int) : Option (Int) :=
  (
    (format_fields K p0 p1 p2 p3 p4 p5 p6 p7 p8 p9).bind fun r7 =>
    bif (!r7) then
      some true
    else
      (format_payload K p0 p1 p2 p3 p4 p5 p6 p7 p8 p9).bind fun r8 =>
      let v9 := (decide (r8 > 512))
      some v9 : Option (Bool)).bind fun x6 =>
    bif x6 then
      some 110
    else
      some 0
def caps_in (_K : Nat) (p0 : Int) (p1 : Int) : Option (Bool) :=
  let v1 := (kshr .i64 p0 p1)
  let v2 := (kand .i64 v1 1)
  gd ((0 : Int) ≤ p1) <|
  some (v2 == 1)
def caps_Allows (K : Nat) (p0 : Int) (p1 : Int) (p2 : Int) (p3 : Int) (p4 : Int) (p5 : Int) (p6 : Int) (p7 : Int) (p8 : Int) (p9 : Int) (p10 : Int) (p11 : Int) (p12 : Int) (p13 : Int) (p14 : Int) (p15 : Int) (p16 : Int) (p17 : Int) (p18 : Int) (p19 : Int) (p20 : Int) (p21 : Int) (p22 : Int) (p23 : Int) (p24 : Int) (p25 : Int) (p26 : Int) : Option (Bool) :=
  (
    (caps_Check K p0 p1 p2 p3 p4 p5 p6 p7 p8 p9 p10 p11 p12 p13 p14).bind fun r128 =>
    bif (r128 != 0) then
      some true
    else
      (format_Check K p15 p16 p17 p18 p19 p20 p21 p22 p23 p24).bind fun r129 =>
      bif (r129 != 0) then
        some true
      else
        (caps_span K 1 p25 1 p13).bind fun r130 =>
        bif (!r130) then
          some true
        else
          (caps_span K 1 p26 1 p14).bind fun r131 =>
          some (!r131) : Option (Bool)).bind fun x46 =>
    bif x46 then
      some false
    else
      bif (p15 == 1) then
        (
          (caps_in K p0 p16).bind fun r63 =>
          bif r63 then
            let v64 := (kwrap .i64 (p17 - 1))
            (caps_in K p1 v64).bind fun r65 =>
            bif r65 then
              let v66 := (kwrap .i64 (Int.tdiv p18 8))
              (caps_in K p2 v66).bind fun r67 =>
              bif r67 then
                let v68 := (kwrap .i64 (Int.tdiv p19 4))
                let v69 := (kwrap .i64 (v68 - 1))
                (caps_in K p3 v69).bind fun r70 =>
                bif r70 then
                  (caps_in K p4 p20).bind fun r71 =>
                  bif r71 then
                    (caps_in K p5 p21).bind fun r72 =>
                    bif r72 then
                      (caps_span K p6 p22 p6 p7).bind fun r73 =>
                      some r73
                    else
                      some false
                  else
                    some false
                else
                  some false
              else
                some false
            else
              some false
          else
            some false : Option (Bool)).bind fun x62 =>
          some x62
      else
        (
          (caps_in K p8 p16).bind fun r94 =>
          bif r94 then
            let v96 := (kwrap .i64 (p17 - 1))
            (caps_in K p9 v96).bind fun r97 =>
            let v98 := (bif r94 then r97 else false)
            bif v98 then
              (lapped_Lengths K ).bind fun r100 =>
              (slices_Index_int_int K r100 p23).bind fun r101 =>
              (caps_in K p10 r101).bind fun r102 =>
              let v103 := (bif v98 then r102 else false)
              bif v103 then
                (caps_span K p11 p24 p11 p12).bind fun r105 =>
                let v106 := (bif v103 then r105 else false)
                some v106
              else
                let v107 := (bif v103 then false else false)
                some v107
            else
              let v108 := (bif v98 then false else false)
              bif v108 then
                (caps_span K p11 p24 p11 p12).bind fun r110 =>
                let v111 := (bif v108 then r110 else false)
                some v111
              else
                let v112 := (bif v108 then false else false)
                some v112
          else
            let v113 := (bif r94 then false else false)
            bif v113 then
              (lapped_Lengths K ).bind fun r115 =>
              (slices_Index_int_int K r115 p23).bind fun r116 =>
              (caps_in K p10 r116).bind fun r117 =>
              let v118 := (bif v113 then r117 else false)
              bif v118 then
                (caps_span K p11 p24 p11 p12).bind fun r120 =>
                let v121 := (bif v118 then r120 else false)
                some v121
              else
                let v122 := (bif v118 then false else false)
                some v122
            else
              let v123 := (bif v113 then false else false)
              bif v123 then
                (caps_span K p11 p24 p11 p12).bind fun r125 =>
                let v126 := (bif v123 then r125 else false)
                some v126
              else
                let v127 := (bif v123 then false else false)
                some v127 : Option (Bool)).bind fun x93 =>
          some x93
def psalteryref11_Bits.r0 (_K : Nat) (_c0 : Int) (_c1 : Int) (c2 : Int) (c3 : Int) (_c4 : Int) (_c5 : Int) (_c6 : Int) (_c7 : Int) (_c8 : Int) (_c9 : Int) (next : Int → Int → Option (Int)) (x17 : Int) (x18 : Int) : Option (Int) :=
  let v21 := (decide (x18 < c2))
  bif v21 then
    let v22 := (kwrap .i64 (4 * c3))
    let v23 := (kwrap .i64 (x17 + v22))
    let v24 := (kwrap .i64 (x18 + 1))
    next v23 v24
  else
    some x17
def psalteryref11_Bits.l0 (K : Nat) (c0 : Int) (c1 : Int) (c2 : Int) (c3 : Int) (c4 : Int) (c5 : Int) (c6 : Int) (c7 : Int) (c8 : Int) (c9 : Int) (n : Nat) : Int → Int → Option (Int) := rounds (psalteryref11_Bits.r0 K c0 c1 c2 c3 c4 c5 c6 c7 c8 c9) (fun _ _ => none) n
def psalteryref11_Bits (K : Nat) (p0 : Int) (p1 : Int) (p2 : Int) (p3 : Int) (p4 : Int) (p5 : Int) (p6 : Int) (p7 : Int) (p8 : Int) (p9 : Int) : Option (Int) :=
  bif (p0 == 2) then
    let v7 := (kwrap .i64 (p9 * 8))
    some v7
  else
    let v8 := (kwrap .i64 (p4 * p7))
    let v9 := (kwrap .i64 (32 + v8))
    (psalteryref11_Bits.l0 K p0 p1 p2 p3 p4 p5 p6 p7 p8 p9 K v9 0 : Option (Int)).bind fun x14 =>
      (
        bif (p6 == 1) then
          let v16 := (kwrap .i64 (x14 + p3))
          some v16
        else
          some x14 : Option (Int)).bind fun x15 =>
        some x15
def psalteryref11_Sub (K : Nat) (p0 : Int) (p1 : Int) (p2 : Int) (p3 : Int) (p4 : Int) (p5 : Int) (p6 : Int) (p7 : Int) (p8 : Int) (p9 : Int) : Option (Bool) :=
  let v3 := (bif (p0 != 1) then true else (p8 != 0))
  let v4 := (bif v3 then true else (p9 != 0))
  bif v4 then
    some false
  else
    let v5 := (decide (p1 < 0))
    let v6 := (decide (p1 > 3))
    let v7 := (bif v5 then true else v6)
    let v8 := (decide (p2 < 1))
    let v9 := (bif v7 then true else v8)
    let v10 := (decide (p2 > 2))
    let v11 := (bif v9 then true else v10)
    let v12 := (decide (p5 < 0))
    let v13 := (bif v11 then true else v12)
    let v14 := (decide (p5 > 1))
    let v15 := (bif v13 then true else v14)
    bif v15 then
      some false
    else
      let v16 := (bif (p3 != 4) then (p3 != 8) else false)
      let v17 := (bif (p4 != 4) then (p4 != 8) else false)
      let v18 := (bif v17 then (p4 != 12) else false)
      let v19 := (bif v18 then (p4 != 16) else false)
      let v20 := (bif v16 then true else v19)
      bif v20 then
        some false
      else
        let v21 := (bif (p6 != 1) then true else (p2 != 2))
        let v22 := (bif (p6 != 0) then v21 else false)
        bif v22 then
          some false
        else
          (
            let v25 := (decide (p7 ≥ 2))
            let v26 := (decide (p7 ≤ 250))
            let v27 := (bif v25 then v26 else false)
            let v28 := (kwrap .i64 (16 * p3))
            let v29 := (kwrap .i64 (v28 * p2))
            let v30 := (decide (p7 ≤ v29))
            let v31 := (bif v27 then v30 else false)
            bif v31 then
              (psalteryref11_Bits K p0 p1 p2 p3 p4 p5 p6 p7 p8 p9).bind fun r32 =>
              let v33 := (decide (r32 ≤ 4096))
              some v33
            else
              some false : Option (Bool)).bind fun x24 =>
            some x24
def psalteryref09_May (_K : Nat) (p0 : Int) : Option (Bool) :=
  let v1 := (bif (p0 == 40) then true else (p0 == 60))
  let v2 := (bif v1 then true else (p0 == 80))
  let v3 := (bif v2 then true else (p0 == 120))
  some v3
def psalteryref11_Lap (K : Nat) (p0 : Int) (p1 : Int) (p2 : Int) (p3 : Int) (p4 : Int) (p5 : Int) (p6 : Int) (p7 : Int) (p8 : Int) (p9 : Int) : Option (Bool) :=
  (
    let v5 := ((p0 == 2) && (true && (true && ((p3 == 0) && ((p4 == 0) && ((p5 == 0) && ((p6 == 0) && ((p7 == 0) && true))))))))
    let v6 := (decide (p1 ≥ 0))
    let v7 := (bif v5 then v6 else false)
    let v8 := (decide (p1 ≤ 3))
    let v9 := (bif v7 then v8 else false)
    let v10 := (decide (p2 ≥ 1))
    let v11 := (bif v9 then v10 else false)
    let v12 := (decide (p2 ≤ 2))
    let v13 := (bif v11 then v12 else false)
    bif v13 then
      (psalteryref09_May K p8).bind fun r14 =>
      let v15 := (decide (p9 ≥ 20))
      let v16 := (bif r14 then v15 else false)
      let v17 := (decide (p9 ≤ 120))
      let v18 := (bif v16 then v17 else false)
      some v18
    else
      some false : Option (Bool)).bind fun x4 =>
    some x4
def psalteryref11_Check (K : Nat) (p0 : Int) (p1 : Int) (p2 : Int) (p3 : Int) (p4 : Int) (p5 : Int) (p6 : Int) (p7 : Int) (p8 : Int) (p9 : Int) : Option (Bool) :=
  (
    (psalteryref11_Sub K p0 p1 p2 p3 p4 p5 p6 p7 p8 p9).bind fun r7 =>
    bif r7 then
      some true
    else
      (psalteryref11_Lap K p0 p1 p2 p3 p4 p5 p6 p7 p8 p9).bind fun r8 =>
      some r8 : Option (Bool)).bind fun x6 =>
    some x6
def psalteryref23_has.r0 (_K : Nat) (c0 : Int) (next : Int → Int → Option (Int)) (x12 : Int) (x13 : Int) : Option (Int) :=
  let v16 := (decide (x13 < c0))
  bif v16 then
    let v17 := (kwrap .i64 (Int.tdiv x12 2))
    let v18 := (kwrap .i64 (x13 + 1))
    next v17 v18
  else
    some x12
def psalteryref23_has.l0 (K : Nat) (c0 : Int) (n : Nat) : Int → Int → Option (Int) := rounds (psalteryref23_has.r0 K c0) (fun _ _ => none) n
def psalteryref23_has (K : Nat) (p0 : Int) (p1 : Int) : Option (Bool) :=
  (psalteryref23_has.l0 K p1 K p0 0 : Option (Int)).bind fun x10 =>
    let v11 := (Int.tmod x10 2)
    some (v11 == 1)
def psalteryref23_Allows (K : Nat) (p0 : Int) (p1 : Int) (p2 : Int) (p3 : Int) (p4 : Int) (p5 : Int) (p6 : Int) (p7 : Int) (p8 : Int) (p9 : Int) (p10 : Int) (p11 : Int) (p12 : Int) (p13 : Int) (p14 : Int) (p15 : Int) (p16 : Int) (p17 : Int) (p18 : Int) (p19 : Int) (p20 : Int) (p21 : Int) (p22 : Int) (p23 : Int) (p24 : Int) (p25 : Int) (p26 : Int) : Option (Bool) :=
  (
    (psalteryref23_Check K p0 p1 p2 p3 p4 p5 p6 p7 p8 p9 p10 p11 p12 p13 p14).bind fun r70 =>
    bif (!r70) then
      some true
    else
      (psalteryref11_Check K p15 p16 p17 p18 p19 p20 p21 p22 p23 p24).bind fun r71 =>
      let v72 := (decide (p25 < 1))
      let v73 := (bif (!r71) then true else v72)
      let v74 := (decide (p25 > p13))
      let v75 := (bif v73 then true else v74)
      let v76 := (decide (p26 < 1))
      let v77 := (bif v75 then true else v76)
      let v78 := (decide (p26 > p14))
      let v79 := (bif v77 then true else v78)
      some v79 : Option (Bool)).bind fun x27 =>
    bif x27 then
      some false
    else
      bif (p15 == 1) then
        (
          bif (p18 == 8) then
            some 1
          else
            some 0 : Option (Int)).bind fun x36 =>
          (
            (psalteryref23_has K p0 p16).bind fun r44 =>
            bif r44 then
              let v45 := (kwrap .i64 (p17 - 1))
              (psalteryref23_has K p1 v45).bind fun r46 =>
              bif r46 then
                (psalteryref23_has K p2 x36).bind fun r47 =>
                bif r47 then
                  let v48 := (kwrap .i64 (Int.tdiv p19 4))
                  let v49 := (kwrap .i64 (v48 - 1))
                  (psalteryref23_has K p3 v49).bind fun r50 =>
                  bif r50 then
                    (psalteryref23_has K p4 p20).bind fun r51 =>
                    bif r51 then
                      (psalteryref23_has K p5 p21).bind fun r52 =>
                      let v53 := (decide (p22 ≥ p6))
                      let v54 := (bif r52 then v53 else false)
                      let v55 := (decide (p22 ≤ p7))
                      let v56 := (bif v54 then v55 else false)
                      some v56
                    else
                      some false
                  else
                    some false
                else
                  some false
              else
                some false
            else
              some false : Option (Bool)).bind fun x43 =>
            some x43
      else
        (
          bif (p23 == 40) then
            some 0
          else
            bif (p23 == 60) then
              some 1
            else
              bif (p23 == 80) then
                some 2
              else
                some 3 : Option (Int)).bind fun x57 =>
          (
            (psalteryref23_has K p8 p16).bind fun r62 =>
            bif r62 then
              let v63 := (kwrap .i64 (p17 - 1))
              (psalteryref23_has K p9 v63).bind fun r64 =>
              bif r64 then
                (psalteryref23_has K p10 x57).bind fun r65 =>
                let v66 := (decide (p24 ≥ p11))
                let v67 := (bif r65 then v66 else false)
                let v68 := (decide (p24 ≤ p12))
                let v69 := (bif v67 then v68 else false)
                some v69
              else
                some false
            else
              some false : Option (Bool)).bind fun x61 =>
            some x61
def psalteryref23_record.r0 (_K : Nat) (c0 : List (Int)) (next : Int → List (Int) → Option ((List (Int)))) (x13 : Int) (x14 : List (Int)) : Option ((List (Int))) :=
  let v17 := (decide (x13 < (c0.length : Int)))
  bif v17 then
    let v18 := (Kd.nth (.int .i64) c0 (Int.toNat x13))
    let v19 := (kwrap .u8 v18)
    let v20 := (x14 ++ [v19])
    gd ((0 : Int) ≤ x13 ∧ x13 < (c0.length : Int) ∧ ((x14.length : Int) + ([v19].length : Int)) * 1 ≤ 70368744177664) <|
    let v21 := (kwrap .i64 (x13 + 1))
    next v21 v20
  else
    some x14
def psalteryref23_record.l0 (K : Nat) (c0 : List (Int)) (n : Nat) : Int → List (Int) → Option ((List (Int))) := rounds (psalteryref23_record.r0 K c0) (fun _ _ => none) n
def psalteryref23_record (K : Nat) (p0 : Int) (p1 : List (Int)) : Option (ByteArray) :=
  let v6 := (kwrap .u8 (p1.length : Int))
  let v7 := [(kwrap .u8 p0), v6]
  (psalteryref23_record.l0 K p1 K 0 v7 : Option ((List (Int)))).bind fun x12 =>
    some (bstr x12)
def psalteryref23_Bytes (K : Nat) (p0 : Int) (p1 : Int) (p2 : Int) (p3 : Int) (p4 : Int) (p5 : Int) (p6 : Int) (p7 : Int) (p8 : Int) (p9 : Int) (p10 : Int) (p11 : Int) (p12 : Int) (p13 : Int) (p14 : Int) : Option (ByteArray) :=
  let v6 := (decide (p0 > 0))
  (
    bif v6 then
      let v15 := [p0, p1, p2, p3, p4, p5, p6, p7]
      (psalteryref23_record K 1 v15).bind fun r16 =>
      let v17 := ((⟨#[]⟩ : ByteArray) ++ r16)
      gd ((⟨#[]⟩ : ByteArray).size + r16.size ≤ 9223372036854775807) <|
      some v17
    else
      some (⟨#[]⟩ : ByteArray) : Option (ByteArray)).bind fun x8 =>
    let v9 := (decide (p8 > 0))
    (
      bif v9 then
        let v13 := [p8, p9, p10, p11, p12]
        (psalteryref23_record K 2 v13).bind fun r14 =>
        gd (x8.size + r14.size ≤ 9223372036854775807) <|
        some (x8 ++ r14)
      else
        some x8 : Option (ByteArray)).bind fun x11 =>
      (psalteryref23_record K 3 [p13, p14]).bind fun r12 =>
      gd (x11.size + r12.size ≤ 9223372036854775807) <|
      some (x11 ++ r12)
def psalterylaw23_CapsTells (K : Nat) (p0 : Int) (p1 : Int) (p2 : Int) (p3 : Int) (p4 : Int) (p5 : Int) (p6 : Int) (p7 : Int) (p8 : Int) (p9 : Int) (p10 : Int) (p11 : Int) (p12 : Int) (p13 : Int) (p14 : Int) (p15 : Int) (p16 : Int) (p17 : Int) (p18 : Int) (p19 : Int) (p20 : Int) (p21 : Int) (p22 : Int) (p23 : Int) (p24 : Int) (p25 : Int) (p26 : Int) : Option (Bool) :=
  (psalterylaw23_alive K ).bind fun r27 =>
  bif (!r27) then
    some false
  else
    (psalteryref23_Check K p0 p1 p2 p3 p4 p5 p6 p7 p8 p9 p10 p11 p12 p13 p14).bind fun r28 =>
    (psalterylaw23_Of K p0 p1 p2 p3 p4 p5 p6 p7 p8 p9 p10 p11 p12 p13 p14).bind fun _ =>
    (caps_Bytes K p0 p1 p2 p3 p4 p5 p6 p7 p8 p9 p10 p11 p12 p13 p14).bind fun z => match z with
    | .inl r29 =>
      (
        (psalterylaw23_Of K p0 p1 p2 p3 p4 p5 p6 p7 p8 p9 p10 p11 p12 p13 p14).bind fun _ =>
        (caps_Check K p0 p1 p2 p3 p4 p5 p6 p7 p8 p9 p10 p11 p12 p13 p14).bind fun r44 =>
        let v45 := (!(r28 == (r44 == 0)))
        bif v45 then
          let v47 := (bif v45 then true else false)
          some v47
        else
          (psalterylaw23_Of K p0 p1 p2 p3 p4 p5 p6 p7 p8 p9 p10 p11 p12 p13 p14).bind fun _ =>
          (caps_Allows K p0 p1 p2 p3 p4 p5 p6 p7 p8 p9 p10 p11 p12 p13 p14 p15 p16 p17 p18 p19 p20 p21 p22 p23 p24 p25 p26).bind fun r48 =>
          (psalteryref23_Allows K p0 p1 p2 p3 p4 p5 p6 p7 p8 p9 p10 p11 p12 p13 p14 p15 p16 p17 p18 p19 p20 p21 p22 p23 p24 p25 p26).bind fun r49 =>
          let v50 := (!(r48 == r49))
          let v51 := (bif v45 then true else v50)
          some v51 : Option (Bool)).bind fun x35 =>
        bif x35 then
          some false
        else
          bif (!r28) then
            (
              bif (r29 == 1) then
                (psalterylaw23_Of K p0 p1 p2 p3 p4 p5 p6 p7 p8 p9 p10 p11 p12 p13 p14).bind fun _ =>
                (caps_Check K p0 p1 p2 p3 p4 p5 p6 p7 p8 p9 p10 p11 p12 p13 p14).bind fun r40 =>
                some (r40 == 1)
              else
                some false : Option (Bool)).bind fun x39 =>
              some x39
          else
            bif (r29 == 0) then
              none
            else
              let v43 := (bif (r29 == 0) then false else false)
              some v43
    | .inr r30 =>
      (
        (psalterylaw23_Of K p0 p1 p2 p3 p4 p5 p6 p7 p8 p9 p10 p11 p12 p13 p14).bind fun _ =>
        (caps_Check K p0 p1 p2 p3 p4 p5 p6 p7 p8 p9 p10 p11 p12 p13 p14).bind fun r67 =>
        let v68 := (!(r28 == (r67 == 0)))
        bif v68 then
          let v70 := (bif v68 then true else false)
          some v70
        else
          (psalterylaw23_Of K p0 p1 p2 p3 p4 p5 p6 p7 p8 p9 p10 p11 p12 p13 p14).bind fun _ =>
          (caps_Allows K p0 p1 p2 p3 p4 p5 p6 p7 p8 p9 p10 p11 p12 p13 p14 p15 p16 p17 p18 p19 p20 p21 p22 p23 p24 p25 p26).bind fun r71 =>
          (psalteryref23_Allows K p0 p1 p2 p3 p4 p5 p6 p7 p8 p9 p10 p11 p12 p13 p14 p15 p16 p17 p18 p19 p20 p21 p22 p23 p24 p25 p26).bind fun r72 =>
          let v73 := (!(r71 == r72))
          let v74 := (bif v68 then true else v73)
          some v74 : Option (Bool)).bind fun x56 =>
        bif x56 then
          some false
        else
          bif (!r28) then
            (
              let v61 := ((r30.length : Int) == 0)
              let v62 := (bif v61 then false else false)
              bif v62 then
                (psalterylaw23_Of K p0 p1 p2 p3 p4 p5 p6 p7 p8 p9 p10 p11 p12 p13 p14).bind fun _ =>
                (caps_Check K p0 p1 p2 p3 p4 p5 p6 p7 p8 p9 p10 p11 p12 p13 p14).bind fun r63 =>
                some (r63 == 1)
              else
                some false : Option (Bool)).bind fun x60 =>
              some x60
          else
            (psalteryref23_Bytes K p0 p1 p2 p3 p4 p5 p6 p7 p8 p9 p10 p11 p12 p13 p14).bind fun r65 =>
            let v66 := (beqs (bstr r30) r65)
            some v66
end Go.Fo
