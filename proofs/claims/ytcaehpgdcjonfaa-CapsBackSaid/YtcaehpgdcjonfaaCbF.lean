/- The functions of Go that are reached, as functions of plain values. -/
import Derived.Test.YtcaehpgdcjonfaaK3
namespace Go.Fo
def caps_Caps_fields (_K : Nat) (p0 : Int) (_p1 : Int) (_p2 : Int) (_p3 : Int) (_p4 : Int) (_p5 : Int) (_p6 : Int) (_p7 : Int) (_p8 : Int) (_p9 : Int) (_p10 : Int) (_p11 : Int) (_p12 : Int) (_p13 : Int) (_p14 : Int) (_p15 : Int) : Option ((Unit) ⊕ (Unit) ⊕ (Unit) ⊕ (Unit)) :=
  bif (p0 == 1) then
    some (.inl ())
  else
    bif (p0 == 2) then
      some (.inr (.inl ()))
    else
      bif (p0 == 3) then
        some (.inr (.inr (.inl ())))
      else
        some (.inr (.inr (.inr ())))
def caps_Caps_fields_2 (_K : Nat) (_p0 : Int) (_p1 : Int) (_p2 : Int) (_p3 : Int) (_p4 : Int) (_p5 : Int) (_p6 : Int) (_p7 : Int) (_p8 : Int) (_p9 : Int) (_p10 : Int) (_p11 : Int) (_p12 : Int) (_p13 : Int) (_p14 : Int) : Option (Unit) :=
  some ()
def caps_Caps_fields_3 (_K : Nat) (_p0 : Int) (_p1 : Int) (_p2 : Int) (_p3 : Int) (_p4 : Int) (_p5 : Int) (_p6 : Int) (_p7 : Int) (_p8 : Int) (_p9 : Int) (_p10 : Int) (_p11 : Int) (_p12 : Int) (_p13 : Int) (_p14 : Int) : Option (Unit) :=
  some ()
def caps_Caps_fields_4 (_K : Nat) (_p0 : Int) (_p1 : Int) (_p2 : Int) (_p3 : Int) (_p4 : Int) (_p5 : Int) (_p6 : Int) (_p7 : Int) (_p8 : Int) (_p9 : Int) (_p10 : Int) (_p11 : Int) (_p12 : Int) (_p13 : Int) (_p14 : Int) : Option (Unit) :=
  some ()
def caps_set (_K : Nat) (p0 : Int) (p1 : Int) : Option (Bool) :=
  let v1 := (decide (p0 > 0))
  let v2 := (kshl .i64 1 p1)
  let v3 := (decide (p0 < v2))
  let v4 := (bif v1 then v3 else false)
  gd ((v1 = true → (0 : Int) ≤ p1)) <|
  some v4
def caps_span (_K : Nat) (p0 : Int) (p1 : Int) (p2 : Int) (p3 : Int) : Option (Bool) :=
  let v1 := (decide (p2 ≤ p0))
  let v2 := (decide (p0 ≤ p1))
  let v3 := (bif v1 then v2 else false)
  let v4 := (decide (p1 ≤ p3))
  let v5 := (bif v3 then v4 else false)
  some v5
def caps_Sub_may (K : Nat) (p0 : Int) (p1 : Int) (p2 : Int) (p3 : Int) (p4 : Int) (p5 : Int) (p6 : Int) (p7 : Int) : Option (Bool) :=
  (
    let v17 := ((p0 == 0) && ((p1 == 0) && ((p2 == 0) && ((p3 == 0) && ((p4 == 0) && ((p5 == 0) && ((p6 == 0) && (p7 == 0))))))))
    bif v17 then
      some true
    else
      (caps_set K p0 4).bind fun r18 =>
      bif r18 then
        (caps_set K p1 2).bind fun r19 =>
        bif r19 then
          (caps_set K p2 2).bind fun r20 =>
          bif r20 then
            (caps_set K p3 4).bind fun r21 =>
            bif r21 then
              (caps_set K p4 2).bind fun r22 =>
              bif r22 then
                (caps_set K p5 2).bind fun r23 =>
                bif r23 then
                  (caps_span K p6 p7 2 250).bind fun r24 =>
                  some r24
                else
                  some false
              else
                some false
            else
              some false
          else
            some false
        else
          some false
      else
        some false : Option (Bool)).bind fun x16 =>
    some x16
def caps_Lap_may (K : Nat) (p0 : Int) (p1 : Int) (p2 : Int) (p3 : Int) (p4 : Int) : Option (Bool) :=
  (
    let v11 := ((p0 == 0) && ((p1 == 0) && ((p2 == 0) && ((p3 == 0) && (p4 == 0)))))
    bif v11 then
      some true
    else
      (caps_set K p0 4).bind fun r12 =>
      bif r12 then
        (caps_set K p1 2).bind fun r13 =>
        bif r13 then
          (caps_set K p2 4).bind fun r14 =>
          bif r14 then
            (caps_span K p3 p4 20 120).bind fun r15 =>
            some r15
          else
            some false
        else
          some false
      else
        some false : Option (Bool)).bind fun x10 =>
    some x10
def caps_Check (K : Nat) (p0 : Int) (p1 : Int) (p2 : Int) (p3 : Int) (p4 : Int) (p5 : Int) (p6 : Int) (p7 : Int) (p8 : Int) (p9 : Int) (p10 : Int) (p11 : Int) (p12 : Int) (p13 : Int) (p14 : Int) : Option (Int) :=
  let v6 := (!((p0 == 0) && ((p1 == 0) && ((p2 == 0) && ((p3 == 0) && ((p4 == 0) && ((p5 == 0) && ((p6 == 0) && (p7 == 0)))))))))
  let v7 := (!((p8 == 0) && ((p9 == 0) && ((p10 == 0) && ((p11 == 0) && (p12 == 0))))))
  let v8 := (bif v6 then true else v7)
  (
    bif (!v8) then
      some true
    else
      (caps_Sub_may K p0 p1 p2 p3 p4 p5 p6 p7).bind fun r14 =>
      bif (!r14) then
        some true
      else
        (caps_Lap_may K p8 p9 p10 p11 p12).bind fun r15 =>
        bif (!r15) then
          some true
        else
          (caps_span K p13 p13 1 16).bind fun r16 =>
          bif (!r16) then
            some true
          else
            (caps_span K p14 p14 1 8).bind fun r17 =>
            some (!r17) : Option (Bool)).bind fun x13 =>
    bif x13 then
      some 1
    else
      some 0
def caps_Parse.r0 (K : Nat)  (next : List (Int) → Int → Int → Int → Int → Int → Int → Int → Int → Int → Int → Int → Int → Int → Int → Int → Bool → Bool → Bool → Option ((Int × Int × Int × Int × Int × Int × Int × Int × Int × Int × Int × Int × Int × Int × Int) ⊕ (Int × Int × Int × Int × Int × Int × Int × Int × Int × Int × Int × Int × Int × Int × Int × Int))) (x185 : List (Int)) (x186 : Int) (x187 : Int) (x188 : Int) (x189 : Int) (x190 : Int) (x191 : Int) (x192 : Int) (x193 : Int) (x194 : Int) (x195 : Int) (x196 : Int) (x197 : Int) (x198 : Int) (x199 : Int) (x200 : Int) (x201 : Bool) (x202 : Bool) (x203 : Bool) : Option ((Int × Int × Int × Int × Int × Int × Int × Int × Int × Int × Int × Int × Int × Int × Int) ⊕ (Int × Int × Int × Int × Int × Int × Int × Int × Int × Int × Int × Int × Int × Int × Int × Int)) :=
  let v238 := (decide ((x185.length : Int) > 0))
  bif v238 then
    let v239 := (decide ((x185.length : Int) < 2))
    let v240 := (Kd.nth (.int .u8) x185 1)
    let v241 := (kwrap .i64 v240)
    let v242 := (kwrap .i64 ((x185.length : Int) - 2))
    let v243 := (decide (v241 > v242))
    let v244 := (bif v239 then true else v243)
    gd (((!v239) = true → 1 < (x185.length : Int))) <|
    bif v244 then
      some (.inr (0, 0, 0, 0, 0, 0, 0, 0, 0, 0, 0, 0, 0, 0, 0, 230))
    else
      let v245 := (Kd.nth (.int .u8) x185 0)
      gd (0 < (x185.length : Int)) <|
      let v246 := (kwrap .i64 v245)
      gd (1 < (x185.length : Int)) <|
      let v247 := (kwrap .i64 (2 + v241))
      let v248 := ((x185.take (Int.toNat v247)).drop (Int.toNat 2))
      gd (2 ≤ v247 ∧ v247 ≤ (x185.length : Int)) <|
      let v249 := (v248.length : Int)
      let v250 := (kwrap .i64 (2 + v249))
      let v251 := ((x185.take (Int.toNat (x185.length : Int))).drop (Int.toNat v250))
      gd ((0 : Int) ≤ v250 ∧ v250 ≤ (x185.length : Int) ∧ (x185.length : Int) ≤ (x185.length : Int)) <|
      bif v246 == 1 then
        (caps_Caps_fields_2 K x186 x187 x188 x189 x190 x191 x192 x193 x194 x195 x196 x197 x198 x199 x200).bind fun _ =>
        let v252 := (bif x201 then true else (v249 != 8))
        bif v252 then
          some (.inr (0, 0, 0, 0, 0, 0, 0, 0, 0, 0, 0, 0, 0, 0, 0, 230))
        else
          (
            let v264 := (Kd.nth (.int .u8) v248 0)
            let v265 := (kwrap .i64 v264)
            gd (0 < (v248.length : Int)) <|
            let v266 := (Kd.nth (.int .u8) v248 1)
            let v267 := (kwrap .i64 v266)
            gd (1 < (v248.length : Int)) <|
            let v268 := (Kd.nth (.int .u8) v248 2)
            let v269 := (kwrap .i64 v268)
            gd (2 < (v248.length : Int)) <|
            let v270 := (Kd.nth (.int .u8) v248 3)
            let v271 := (kwrap .i64 v270)
            gd (3 < (v248.length : Int)) <|
            let v272 := (Kd.nth (.int .u8) v248 4)
            let v273 := (kwrap .i64 v272)
            gd (4 < (v248.length : Int)) <|
            let v274 := (Kd.nth (.int .u8) v248 5)
            let v275 := (kwrap .i64 v274)
            gd (5 < (v248.length : Int)) <|
            let v276 := (Kd.nth (.int .u8) v248 6)
            let v277 := (kwrap .i64 v276)
            gd (6 < (v248.length : Int)) <|
            let v278 := (Kd.nth (.int .u8) v248 7)
            let v279 := (kwrap .i64 v278)
            gd (7 < (v248.length : Int)) <|
            some (v265, v267, v269, v271, v273, v275, v277, v279) : Option (Int × Int × Int × Int × Int × Int × Int × Int)).bind fun (x253, x254, x255, x256, x257, x258, x259, x260) =>
            let v261 := ((x253 == 0) && ((x254 == 0) && ((x255 == 0) && ((x256 == 0) && ((x257 == 0) && ((x258 == 0) && ((x259 == 0) && (x260 == 0))))))))
            let v263 := (bif v261 then true else false)
            bif v263 then
              some (.inr (0, 0, 0, 0, 0, 0, 0, 0, 0, 0, 0, 0, 0, 0, 0, 230))
            else
              next v251 x253 x254 x255 x256 x257 x258 x259 x260 x194 x195 x196 x197 x198 x199 x200 true x202 x203
      else
        bif v246 == 2 then
          (caps_Caps_fields_3 K x186 x187 x188 x189 x190 x191 x192 x193 x194 x195 x196 x197 x198 x199 x200).bind fun _ =>
          let v280 := (bif x202 then true else (v249 != 5))
          bif v280 then
            some (.inr (0, 0, 0, 0, 0, 0, 0, 0, 0, 0, 0, 0, 0, 0, 0, 230))
          else
            (
              let v287 := (Kd.nth (.int .u8) v248 0)
              let v288 := (kwrap .i64 v287)
              gd (0 < (v248.length : Int)) <|
              let v289 := (Kd.nth (.int .u8) v248 1)
              let v290 := (kwrap .i64 v289)
              gd (1 < (v248.length : Int)) <|
              let v291 := (Kd.nth (.int .u8) v248 2)
              let v292 := (kwrap .i64 v291)
              gd (2 < (v248.length : Int)) <|
              let v293 := (Kd.nth (.int .u8) v248 3)
              let v294 := (kwrap .i64 v293)
              gd (3 < (v248.length : Int)) <|
              let v295 := (Kd.nth (.int .u8) v248 4)
              let v296 := (kwrap .i64 v295)
              gd (4 < (v248.length : Int)) <|
              some (v288, v290, v292, v294, v296) : Option (Int × Int × Int × Int × Int)).bind fun (x281, x282, x283, x284, x285) =>
              let v286 := ((x281 == 0) && ((x282 == 0) && ((x283 == 0) && ((x284 == 0) && (x285 == 0)))))
              bif v286 then
                some (.inr (0, 0, 0, 0, 0, 0, 0, 0, 0, 0, 0, 0, 0, 0, 0, 230))
              else
                next v251 x186 x187 x188 x189 x190 x191 x192 x193 x281 x282 x283 x284 x285 x199 x200 x201 true x203
        else
          bif v246 == 3 then
            (caps_Caps_fields_4 K x186 x187 x188 x189 x190 x191 x192 x193 x194 x195 x196 x197 x198 x199 x200).bind fun _ =>
            let v297 := (bif x203 then true else (v249 != 2))
            bif v297 then
              some (.inr (0, 0, 0, 0, 0, 0, 0, 0, 0, 0, 0, 0, 0, 0, 0, 230))
            else
              (
                let v300 := (Kd.nth (.int .u8) v248 0)
                let v301 := (kwrap .i64 v300)
                gd (0 < (v248.length : Int)) <|
                let v302 := (Kd.nth (.int .u8) v248 1)
                let v303 := (kwrap .i64 v302)
                gd (1 < (v248.length : Int)) <|
                some (v301, v303) : Option (Int × Int)).bind fun (x298, x299) =>
                next v251 x186 x187 x188 x189 x190 x191 x192 x193 x194 x195 x196 x197 x198 x298 x299 x201 x202 true
          else
            (caps_Caps_fields K v246 x186 x187 x188 x189 x190 x191 x192 x193 x194 x195 x196 x197 x198 x199 x200).bind fun z => match z with
            | .inl _ =>
              none
            | .inr (.inl _) =>
              none
            | .inr (.inr (.inl _)) =>
              none
            | .inr (.inr (.inr _)) =>
              next v251 x186 x187 x188 x189 x190 x191 x192 x193 x194 x195 x196 x197 x198 x199 x200 x201 x202 x203
  else
    some (.inl (x186, x187, x188, x189, x190, x191, x192, x193, x194, x195, x196, x197, x198, x199, x200))
def caps_Parse.l0 (K : Nat)  (n : Nat) : List (Int) → Int → Int → Int → Int → Int → Int → Int → Int → Int → Int → Int → Int → Int → Int → Int → Bool → Bool → Bool → Option ((Int × Int × Int × Int × Int × Int × Int × Int × Int × Int × Int × Int × Int × Int × Int) ⊕ (Int × Int × Int × Int × Int × Int × Int × Int × Int × Int × Int × Int × Int × Int × Int × Int)) := rounds (caps_Parse.r0 K) (fun _ _ _ _ _ _ _ _ _ _ _ _ _ _ _ _ _ _ _ => none) n
def caps_Parse (K : Nat) (p0 : List (Int)) : Option (Int × Int × Int × Int × Int × Int × Int × Int × Int × Int × Int × Int × Int × Int × Int × Int) :=
  let v85 := (decide ((p0.length : Int) > 256))
  bif v85 then
    some (0, 0, 0, 0, 0, 0, 0, 0, 0, 0, 0, 0, 0, 0, 0, 230)
  else
    (caps_Parse.l0 K K p0 0 0 0 0 0 0 0 0 0 0 0 0 0 0 0 false false false : Option ((Int × Int × Int × Int × Int × Int × Int × Int × Int × Int × Int × Int × Int × Int × Int) ⊕ (Int × Int × Int × Int × Int × Int × Int × Int × Int × Int × Int × Int × Int × Int × Int × Int))).bind fun z => match z with
    | .inl (x154, x155, x156, x157, x158, x159, x160, x161, x162, x163, x164, x165, x166, x167, x168) =>
      (caps_Check K x154 x155 x156 x157 x158 x159 x160 x161 x162 x163 x164 x165 x166 x167 x168).bind fun r169 =>
      bif (r169 != 0) then
        some (0, 0, 0, 0, 0, 0, 0, 0, 0, 0, 0, 0, 0, 0, 0, 230)
      else
        some (x154, x155, x156, x157, x158, x159, x160, x161, x162, x163, x164, x165, x166, x167, x168, 0)
    | .inr r =>
      some r
def psalterylaw23_alive (K : Nat)  : Option (Bool) :=
  (caps_Parse K [3, 2, 4, 2]).bind fun (_r33, _r34, _r35, _r36, _r37, _r38, _r39, _r40, _r41, _r42, _r43, _r44, _r45, _r46, _r47, r48) =>
  let v49 := [3, 2, 4, 2, 2, 5, 1, 1, 1, 20, 30]
  (caps_Parse K v49).bind fun (_r50, _r51, _r52, _r53, _r54, _r55, _r56, _r57, _r58, _r59, _r60, _r61, r62, r63, _r64, r65) =>
  let v66 := (bif (r48 == 230) then (r65 == 0) else false)
  let v67 := (bif v66 then (r63 == 4) else false)
  let v68 := (bif v67 then (r62 == 30) else false)
  some v68
def psalterylaw23_Of (_K : Nat) (_p0 : Int) (_p1 : Int) (_p2 : Int) (_p3 : Int) (_p4 : Int) (_p5 : Int) (_p6 : Int) (_p7 : Int) (_p8 : Int) (_p9 : Int) (_p10 : Int) (_p11 : Int) (_p12 : Int) (_p13 : Int) (_p14 : Int) : Option (Unit) :=
  some ()
def caps_Bytes (K : Nat) (p0 : Int) (p1 : Int) (p2 : Int) (p3 : Int) (p4 : Int) (p5 : Int) (p6 : Int) (p7 : Int) (p8 : Int) (p9 : Int) (p10 : Int) (p11 : Int) (p12 : Int) (p13 : Int) (p14 : Int) : Option ((Int) ⊕ ((List (Int)))) :=
  (caps_Check K p0 p1 p2 p3 p4 p5 p6 p7 p8 p9 p10 p11 p12 p13 p14).bind fun r11 =>
  bif (r11 != 0) then
    some (.inl r11)
  else
    (
      (
        let v43 := ((p0 == 0) && ((p1 == 0) && ((p2 == 0) && ((p3 == 0) && ((p4 == 0) && ((p5 == 0) && ((p6 == 0) && (p7 == 0))))))))
        let v45 := (bif v43 then true else false)
        bif v45 then
          some ((v43, ([] : List (Int))))
        else
          (caps_Caps_fields_2 K p0 p1 p2 p3 p4 p5 p6 p7 p8 p9 p10 p11 p12 p13 p14).bind fun _ =>
          gd (([1, 8].length : Int) * 1 ≤ 70368744177664) <|
          (
            let v47 := [(kwrap .u8 p0)]
            let v48 := ([1, 8] ++ v47)
            gd ((([1, 8].length : Int) + (v47.length : Int)) * 1 ≤ 70368744177664) <|
            let v49 := [(kwrap .u8 p1)]
            gd (((v48.length : Int) + (v49.length : Int)) * 1 ≤ 70368744177664) <|
            let v50 := [(kwrap .u8 p2)]
            let v51 := ((v48 ++ v49) ++ v50)
            gd ((((v48 ++ v49).length : Int) + (v50.length : Int)) * 1 ≤ 70368744177664) <|
            let v52 := [(kwrap .u8 p3)]
            gd (((v51.length : Int) + (v52.length : Int)) * 1 ≤ 70368744177664) <|
            let v53 := [(kwrap .u8 p4)]
            let v54 := ((v51 ++ v52) ++ v53)
            gd ((((v51 ++ v52).length : Int) + (v53.length : Int)) * 1 ≤ 70368744177664) <|
            let v55 := [(kwrap .u8 p5)]
            gd (((v54.length : Int) + (v55.length : Int)) * 1 ≤ 70368744177664) <|
            let v56 := [(kwrap .u8 p6)]
            let v57 := ((v54 ++ v55) ++ v56)
            gd ((((v54 ++ v55).length : Int) + (v56.length : Int)) * 1 ≤ 70368744177664) <|
            let v58 := [(kwrap .u8 p7)]
            gd (((v57.length : Int) + (v58.length : Int)) * 1 ≤ 70368744177664) <|
            some (v57 ++ v58) : Option ((List (Int)))).bind fun x46 =>
            some (v43, x46) : Option (Bool × (List (Int)))).bind fun (x22, x23) =>
        (
          let v33 := ((p8 == 0) && ((p9 == 0) && ((p10 == 0) && ((p11 == 0) && (p12 == 0)))))
          bif v33 then
            some (v33, x23)
          else
            (caps_Caps_fields_3 K p0 p1 p2 p3 p4 p5 p6 p7 p8 p9 p10 p11 p12 p13 p14).bind fun _ =>
            let v34 := (x23 ++ [2, 5])
            gd (((x23.length : Int) + ([2, 5].length : Int)) * 1 ≤ 70368744177664) <|
            (
              let v36 := [(kwrap .u8 p8)]
              gd (((v34.length : Int) + (v36.length : Int)) * 1 ≤ 70368744177664) <|
              let v37 := [(kwrap .u8 p9)]
              let v38 := ((v34 ++ v36) ++ v37)
              gd ((((v34 ++ v36).length : Int) + (v37.length : Int)) * 1 ≤ 70368744177664) <|
              let v39 := [(kwrap .u8 p10)]
              gd (((v38.length : Int) + (v39.length : Int)) * 1 ≤ 70368744177664) <|
              let v40 := [(kwrap .u8 p11)]
              let v41 := ((v38 ++ v39) ++ v40)
              gd ((((v38 ++ v39).length : Int) + (v40.length : Int)) * 1 ≤ 70368744177664) <|
              let v42 := [(kwrap .u8 p12)]
              gd (((v41.length : Int) + (v42.length : Int)) * 1 ≤ 70368744177664) <|
              some (v41 ++ v42) : Option ((List (Int)))).bind fun x35 =>
              some (v33, x35) : Option (Bool × (List (Int)))).bind fun (x25, x26) =>
          (caps_Caps_fields_4 K p0 p1 p2 p3 p4 p5 p6 p7 p8 p9 p10 p11 p12 p13 p14).bind fun _ =>
          let v28 := (x26 ++ [3, 2])
          gd (((x26.length : Int) + ([3, 2].length : Int)) * 1 ≤ 70368744177664) <|
          (
            let v30 := [(kwrap .u8 p13)]
            gd (((v28.length : Int) + (v30.length : Int)) * 1 ≤ 70368744177664) <|
            let v31 := [(kwrap .u8 p14)]
            let v32 := ((v28 ++ v30) ++ v31)
            gd ((((v28 ++ v30).length : Int) + (v31.length : Int)) * 1 ≤ 70368744177664) <|
            some v32 : Option ((List (Int)))).bind fun x29 =>
            some x29 : Option ((List (Int)))).bind fun x20 =>
      some (.inr x20)
def caps_Parse_2.r0 (_K : Nat)  (_next : Option (Unit))  : Option (Unit) :=
  some ()
def caps_Parse_2.l0 (K : Nat)  (n : Nat) : Option (Unit) := rounds (caps_Parse_2.r0 K) (none) n
def caps_Parse_2 (K : Nat)  : Option (Int) :=
  (caps_Parse_2.l0 K K  : Option (Unit)).bind fun _ =>
    (caps_Check K 0 0 0 0 0 0 0 0 0 0 0 0 0 0 0).bind fun r2 =>
    bif (r2 != 0) then
      some 230
    else
      some 0
def psalterylaw23_To (_K : Nat) (_p0 : Int) (_p1 : Int) (_p2 : Int) (_p3 : Int) (_p4 : Int) (_p5 : Int) (_p6 : Int) (_p7 : Int) (_p8 : Int) (_p9 : Int) (_p10 : Int) (_p11 : Int) (_p12 : Int) (_p13 : Int) (_p14 : Int) : Option (Unit) :=
  some ()
def caps_Parse_3.r0 (K : Nat)  (next : List (Int) → Int → Int → Int → Int → Int → Int → Int → Int → Int → Int → Int → Int → Int → Int → Int → Bool → Bool → Bool → Option ((Int × Int × Int × Int × Int × Int × Int × Int × Int × Int × Int × Int × Int × Int × Int) ⊕ (Int × Int × Int × Int × Int × Int × Int × Int × Int × Int × Int × Int × Int × Int × Int × Int))) (x185 : List (Int)) (x186 : Int) (x187 : Int) (x188 : Int) (x189 : Int) (x190 : Int) (x191 : Int) (x192 : Int) (x193 : Int) (x194 : Int) (x195 : Int) (x196 : Int) (x197 : Int) (x198 : Int) (x199 : Int) (x200 : Int) (x201 : Bool) (x202 : Bool) (x203 : Bool) : Option ((Int × Int × Int × Int × Int × Int × Int × Int × Int × Int × Int × Int × Int × Int × Int) ⊕ (Int × Int × Int × Int × Int × Int × Int × Int × Int × Int × Int × Int × Int × Int × Int × Int)) :=
  let v238 := (decide ((x185.length : Int) > 0))
  bif v238 then
    let v239 := (decide ((x185.length : Int) < 2))
    let v240 := (Kd.nth (.int .u8) x185 1)
    let v241 := (kwrap .i64 v240)
    let v242 := (kwrap .i64 ((x185.length : Int) - 2))
    let v243 := (decide (v241 > v242))
    let v244 := (bif v239 then true else v243)
    gd (((!v239) = true → 1 < (x185.length : Int))) <|
    bif v244 then
      some (.inr (0, 0, 0, 0, 0, 0, 0, 0, 0, 0, 0, 0, 0, 0, 0, 230))
    else
      let v245 := (Kd.nth (.int .u8) x185 0)
      gd (0 < (x185.length : Int)) <|
      let v246 := (kwrap .i64 v245)
      gd (1 < (x185.length : Int)) <|
      let v247 := (kwrap .i64 (2 + v241))
      let v248 := ((x185.take (Int.toNat v247)).drop (Int.toNat 2))
      gd (2 ≤ v247 ∧ v247 ≤ (x185.length : Int)) <|
      let v249 := (v248.length : Int)
      let v250 := (kwrap .i64 (2 + v249))
      let v251 := ((x185.take (Int.toNat (x185.length : Int))).drop (Int.toNat v250))
      gd ((0 : Int) ≤ v250 ∧ v250 ≤ (x185.length : Int) ∧ (x185.length : Int) ≤ (x185.length : Int)) <|
      bif v246 == 1 then
        (caps_Caps_fields_2 K x186 x187 x188 x189 x190 x191 x192 x193 x194 x195 x196 x197 x198 x199 x200).bind fun _ =>
        let v252 := (bif x201 then true else (v249 != 8))
        bif v252 then
          some (.inr (0, 0, 0, 0, 0, 0, 0, 0, 0, 0, 0, 0, 0, 0, 0, 230))
        else
          (
            let v264 := (Kd.nth (.int .u8) v248 0)
            let v265 := (kwrap .i64 v264)
            gd (0 < (v248.length : Int)) <|
            let v266 := (Kd.nth (.int .u8) v248 1)
            let v267 := (kwrap .i64 v266)
            gd (1 < (v248.length : Int)) <|
            let v268 := (Kd.nth (.int .u8) v248 2)
            let v269 := (kwrap .i64 v268)
            gd (2 < (v248.length : Int)) <|
            let v270 := (Kd.nth (.int .u8) v248 3)
            let v271 := (kwrap .i64 v270)
            gd (3 < (v248.length : Int)) <|
            let v272 := (Kd.nth (.int .u8) v248 4)
            let v273 := (kwrap .i64 v272)
            gd (4 < (v248.length : Int)) <|
            let v274 := (Kd.nth (.int .u8) v248 5)
            let v275 := (kwrap .i64 v274)
            gd (5 < (v248.length : Int)) <|
            let v276 := (Kd.nth (.int .u8) v248 6)
            let v277 := (kwrap .i64 v276)
            gd (6 < (v248.length : Int)) <|
            let v278 := (Kd.nth (.int .u8) v248 7)
            let v279 := (kwrap .i64 v278)
            gd (7 < (v248.length : Int)) <|
            some (v265, v267, v269, v271, v273, v275, v277, v279) : Option (Int × Int × Int × Int × Int × Int × Int × Int)).bind fun (x253, x254, x255, x256, x257, x258, x259, x260) =>
            let v261 := ((x253 == 0) && ((x254 == 0) && ((x255 == 0) && ((x256 == 0) && ((x257 == 0) && ((x258 == 0) && ((x259 == 0) && (x260 == 0))))))))
            let v263 := (bif v261 then true else false)
            bif v263 then
              some (.inr (0, 0, 0, 0, 0, 0, 0, 0, 0, 0, 0, 0, 0, 0, 0, 230))
            else
              next v251 x253 x254 x255 x256 x257 x258 x259 x260 x194 x195 x196 x197 x198 x199 x200 true x202 x203
      else
        bif v246 == 2 then
          (caps_Caps_fields_3 K x186 x187 x188 x189 x190 x191 x192 x193 x194 x195 x196 x197 x198 x199 x200).bind fun _ =>
          let v280 := (bif x202 then true else (v249 != 5))
          bif v280 then
            some (.inr (0, 0, 0, 0, 0, 0, 0, 0, 0, 0, 0, 0, 0, 0, 0, 230))
          else
            (
              let v287 := (Kd.nth (.int .u8) v248 0)
              let v288 := (kwrap .i64 v287)
              gd (0 < (v248.length : Int)) <|
              let v289 := (Kd.nth (.int .u8) v248 1)
              let v290 := (kwrap .i64 v289)
              gd (1 < (v248.length : Int)) <|
              let v291 := (Kd.nth (.int .u8) v248 2)
              let v292 := (kwrap .i64 v291)
              gd (2 < (v248.length : Int)) <|
              let v293 := (Kd.nth (.int .u8) v248 3)
              let v294 := (kwrap .i64 v293)
              gd (3 < (v248.length : Int)) <|
              let v295 := (Kd.nth (.int .u8) v248 4)
              let v296 := (kwrap .i64 v295)
              gd (4 < (v248.length : Int)) <|
              some (v288, v290, v292, v294, v296) : Option (Int × Int × Int × Int × Int)).bind fun (x281, x282, x283, x284, x285) =>
              let v286 := ((x281 == 0) && ((x282 == 0) && ((x283 == 0) && ((x284 == 0) && (x285 == 0)))))
              bif v286 then
                some (.inr (0, 0, 0, 0, 0, 0, 0, 0, 0, 0, 0, 0, 0, 0, 0, 230))
              else
                next v251 x186 x187 x188 x189 x190 x191 x192 x193 x281 x282 x283 x284 x285 x199 x200 x201 true x203
        else
          bif v246 == 3 then
            (caps_Caps_fields_4 K x186 x187 x188 x189 x190 x191 x192 x193 x194 x195 x196 x197 x198 x199 x200).bind fun _ =>
            let v297 := (bif x203 then true else (v249 != 2))
            bif v297 then
              some (.inr (0, 0, 0, 0, 0, 0, 0, 0, 0, 0, 0, 0, 0, 0, 0, 230))
            else
              (
                let v300 := (Kd.nth (.int .u8) v248 0)
                let v301 := (kwrap .i64 v300)
                gd (0 < (v248.length : Int)) <|
                let v302 := (Kd.nth (.int .u8) v248 1)
                let v303 := (kwrap .i64 v302)
                gd (1 < (v248.length : Int)) <|
                some (v301, v303) : Option (Int × Int)).bind fun (x298, x299) =>
                next v251 x186 x187 x188 x189 x190 x191 x192 x193 x194 x195 x196 x197 x198 x298 x299 x201 x202 true
          else
            (caps_Caps_fields K v246 x186 x187 x188 x189 x190 x191 x192 x193 x194 x195 x196 x197 x198 x199 x200).bind fun z => match z with
            | .inl _ =>
              none
            | .inr (.inl _) =>
              none
            | .inr (.inr (.inl _)) =>
              none
            | .inr (.inr (.inr _)) =>
              next v251 x186 x187 x188 x189 x190 x191 x192 x193 x194 x195 x196 x197 x198 x199 x200 x201 x202 x203
  else
    some (.inl (x186, x187, x188, x189, x190, x191, x192, x193, x194, x195, x196, x197, x198, x199, x200))
def caps_Parse_3.l0 (K : Nat)  (n : Nat) : List (Int) → Int → Int → Int → Int → Int → Int → Int → Int → Int → Int → Int → Int → Int → Int → Int → Bool → Bool → Bool → Option ((Int × Int × Int × Int × Int × Int × Int × Int × Int × Int × Int × Int × Int × Int × Int) ⊕ (Int × Int × Int × Int × Int × Int × Int × Int × Int × Int × Int × Int × Int × Int × Int × Int)) := rounds (caps_Parse_3.r0 K) (fun _ _ _ _ _ _ _ _ _ _ _ _ _ _ _ _ _ _ _ => none) n
def caps_Parse_3 (K : Nat) (p0 : List (Int)) : Option (Int × Int × Int × Int × Int × Int × Int × Int × Int × Int × Int × Int × Int × Int × Int × Int) :=
  let v85 := (decide ((p0.length : Int) > 256))
  bif v85 then
    some (0, 0, 0, 0, 0, 0, 0, 0, 0, 0, 0, 0, 0, 0, 0, 230)
  else
    (caps_Parse_3.l0 K K p0 0 0 0 0 0 0 0 0 0 0 0 0 0 0 0 false false false : Option ((Int × Int × Int × Int × Int × Int × Int × Int × Int × Int × Int × Int × Int × Int × Int) ⊕ (Int × Int × Int × Int × Int × Int × Int × Int × Int × Int × Int × Int × Int × Int × Int × Int))).bind fun z => match z with
    | .inl (x154, x155, x156, x157, x158, x159, x160, x161, x162, x163, x164, x165, x166, x167, x168) =>
      (caps_Check K x154 x155 x156 x157 x158 x159 x160 x161 x162 x163 x164 x165 x166 x167 x168).bind fun r169 =>
      bif (r169 != 0) then
        some (0, 0, 0, 0, 0, 0, 0, 0, 0, 0, 0, 0, 0, 0, 0, 230)
      else
        some (x154, x155, x156, x157, x158, x159, x160, x161, x162, x163, x164, x165, x166, x167, x168, 0)
    | .inr r =>
      some r
def psalterylaw23_CapsBack (K : Nat) (p0 : Int) (p1 : Int) (p2 : Int) (p3 : Int) (p4 : Int) (p5 : Int) (p6 : Int) (p7 : Int) (p8 : Int) (p9 : Int) (p10 : Int) (p11 : Int) (p12 : Int) (p13 : Int) (p14 : Int) (p15 : Int) (p16 : List (Int)) : Option (Bool) :=
  (psalterylaw23_alive K ).bind fun r95 =>
  bif (!r95) then
    some false
  else
    let v96 := (decide ((p16.length : Int) > 100))
    bif v96 then
      some true
    else
      (psalterylaw23_Of K p0 p1 p2 p3 p4 p5 p6 p7 p8 p9 p10 p11 p12 p13 p14).bind fun _ =>
      (caps_Bytes K p0 p1 p2 p3 p4 p5 p6 p7 p8 p9 p10 p11 p12 p13 p14).bind fun z => match z with
      | .inl r97 =>
        bif (r97 != 0) then
          some true
        else
          (caps_Parse_2 K ).bind fun r99 =>
          (
            bif (r99 != 0) then
              let v141 := (bif (r99 != 0) then true else false)
              some v141
            else
              (psalterylaw23_To K 0 0 0 0 0 0 0 0 0 0 0 0 0 0 0).bind fun _ =>
              let v142 := (!((0 == p0) && ((0 == p1) && ((0 == p2) && ((0 == p3) && ((0 == p4) && ((0 == p5) && ((0 == p6) && ((0 == p7) && ((0 == p8) && ((0 == p9) && ((0 == p10) && ((0 == p11) && ((0 == p12) && ((0 == p13) && (0 == p14))))))))))))))))
              let v143 := (bif (r99 != 0) then true else v142)
              some v143 : Option (Bool)).bind fun x101 =>
            bif x101 then
              some false
            else
              let v102 := (decide (p15 ≥ 1))
              let v103 := (decide (p15 ≤ 3))
              let v104 := (bif v102 then v103 else false)
              bif v104 then
                gd (((([] : List (Int)).length : Int) + (([] : List (Int)).length : Int)) * 1 ≤ 70368744177664) <|
                none
              else
                let v106 := (kwrap .u8 (p16.length : Int))
                let v107 := ([p15, v106] ++ p16)
                gd ((([p15, v106].length : Int) + (p16.length : Int)) * 1 ≤ 70368744177664) <|
                let v108 := (([] : List (Int)) ++ v107)
                let v109 := (v108 ++ ([] : List (Int)))
                let v110 := (v109 ++ v107)
                gd (((([] : List (Int)).length : Int) + (v107.length : Int)) * 1 ≤ 70368744177664 ∧ ((v108.length : Int) + (([] : List (Int)).length : Int)) * 1 ≤ 70368744177664 ∧ ((v109.length : Int) + (v107.length : Int)) * 1 ≤ 70368744177664) <|
                (caps_Parse K v110).bind fun (r111, r112, r113, r114, r115, r116, r117, r118, r119, r120, r121, r122, r123, r124, r125, r126) =>
                (
                  let v130 := (v110.length : Int)
                  let v131 := (decide (v130 > 256))
                  bif v131 then
                    let v133 := (bif v131 then true else false)
                    some v133
                  else
                    bif (r126 == 0) then
                      (psalterylaw23_To K r111 r112 r113 r114 r115 r116 r117 r118 r119 r120 r121 r122 r123 r124 r125).bind fun _ =>
                      let v135 := ((r111 == p0) && ((r112 == p1) && ((r113 == p2) && ((r114 == p3) && ((r115 == p4) && ((r116 == p5) && ((r117 == p6) && ((r118 == p7) && ((r119 == p8) && ((r120 == p9) && ((r121 == p10) && ((r122 == p11) && ((r123 == p12) && ((r124 == p13) && (r125 == p14)))))))))))))))
                      let v136 := (bif (r126 == 0) then v135 else false)
                      let v137 := (bif v131 then true else v136)
                      some v137
                    else
                      let v138 := (bif (r126 == 0) then false else false)
                      let v139 := (bif v131 then true else v138)
                      some v139 : Option (Bool)).bind fun x129 =>
                  some x129
      | .inr r98 =>
        (caps_Parse K r98).bind fun (r144, r145, r146, r147, r148, r149, r150, r151, r152, r153, r154, r155, r156, r157, r158, r159) =>
        (
          bif (r159 != 0) then
            let v235 := (bif (r159 != 0) then true else false)
            some v235
          else
            (psalterylaw23_To K r144 r145 r146 r147 r148 r149 r150 r151 r152 r153 r154 r155 r156 r157 r158).bind fun _ =>
            let v236 := (!((r144 == p0) && ((r145 == p1) && ((r146 == p2) && ((r147 == p3) && ((r148 == p4) && ((r149 == p5) && ((r150 == p6) && ((r151 == p7) && ((r152 == p8) && ((r153 == p9) && ((r154 == p10) && ((r155 == p11) && ((r156 == p12) && ((r157 == p13) && (r158 == p14))))))))))))))))
            let v237 := (bif (r159 != 0) then true else v236)
            some v237 : Option (Bool)).bind fun x161 =>
          bif x161 then
            some false
          else
            let v162 := (decide (p15 ≥ 1))
            let v163 := (decide (p15 ≤ 3))
            let v164 := (bif v162 then v163 else false)
            bif v164 then
              let v181 := (([] : List (Int)) ++ r98)
              gd (((([] : List (Int)).length : Int) + (r98.length : Int)) * 1 ≤ 70368744177664) <|
              let v182 := (kwrap .i64 ((r98.length : Int) - 4))
              let v183 := ((r98.take (Int.toNat (r98.length : Int))).drop (Int.toNat v182))
              gd ((0 : Int) ≤ v182 ∧ v182 ≤ (r98.length : Int) ∧ (r98.length : Int) ≤ (r98.length : Int)) <|
              let v184 := (v181 ++ v183)
              gd (((v181.length : Int) + (v183.length : Int)) * 1 ≤ 70368744177664) <|
              (caps_Parse_3 K v184).bind fun (_r185, _r186, _r187, _r188, _r189, _r190, _r191, _r192, _r193, _r194, _r195, _r196, _r197, _r198, _r199, r200) =>
              some (r200 == 230)
            else
              let v201 := (kwrap .u8 (p16.length : Int))
              let v202 := ([p15, v201] ++ p16)
              gd ((([p15, v201].length : Int) + (p16.length : Int)) * 1 ≤ 70368744177664) <|
              let v203 := (([] : List (Int)) ++ v202)
              let v204 := ((v203 ++ r98) ++ v202)
              gd (((([] : List (Int)).length : Int) + (v202.length : Int)) * 1 ≤ 70368744177664 ∧ ((v203.length : Int) + (r98.length : Int)) * 1 ≤ 70368744177664 ∧ (((v203 ++ r98).length : Int) + (v202.length : Int)) * 1 ≤ 70368744177664) <|
              (caps_Parse K v204).bind fun (r205, r206, r207, r208, r209, r210, r211, r212, r213, r214, r215, r216, r217, r218, r219, r220) =>
              (
                let v224 := (v204.length : Int)
                let v225 := (decide (v224 > 256))
                bif v225 then
                  let v227 := (bif v225 then true else false)
                  some v227
                else
                  bif (r220 == 0) then
                    (psalterylaw23_To K r205 r206 r207 r208 r209 r210 r211 r212 r213 r214 r215 r216 r217 r218 r219).bind fun _ =>
                    let v229 := ((r205 == p0) && ((r206 == p1) && ((r207 == p2) && ((r208 == p3) && ((r209 == p4) && ((r210 == p5) && ((r211 == p6) && ((r212 == p7) && ((r213 == p8) && ((r214 == p9) && ((r215 == p10) && ((r216 == p11) && ((r217 == p12) && ((r218 == p13) && (r219 == p14)))))))))))))))
                    let v230 := (bif (r220 == 0) then v229 else false)
                    let v231 := (bif v225 then true else v230)
                    some v231
                  else
                    let v232 := (bif (r220 == 0) then false else false)
                    let v233 := (bif v225 then true else v232)
                    some v233 : Option (Bool)).bind fun x223 =>
                some x223
end Go.Fo
