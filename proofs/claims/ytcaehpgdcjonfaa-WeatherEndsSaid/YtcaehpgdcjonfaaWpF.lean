/- The functions of Go that are reached, as functions of plain values. -/
import Derived.Test.YtcaehpgdcjonfaaK3
namespace Go.Fo
def weather_Check.r0 (_K : Nat) (c0 : Int) (c1 : Int) (c2 : Int) (c3 : Int) (next : Int → Option ((Unit) ⊕ (Int))) (x5 : Int) : Option ((Unit) ⊕ (Int)) :=
  let v7 := (decide (x5 < 4))
  bif v7 then
    let v8 := (List.getD [c0, c1, c2, c3] (Int.toNat x5) 0)
    gd ((0 : Int) ≤ x5 ∧ x5 < 4) <|
    let v9 := (decide (v8 < 0))
    let v10 := (decide (v8 > 65536))
    let v11 := (bif v9 then true else v10)
    bif v11 then
      some (.inr 1)
    else
      let v12 := (kwrap .i64 (x5 + 1))
      next v12
  else
    some (.inl ())
def weather_Check.l0 (K : Nat) (c0 : Int) (c1 : Int) (c2 : Int) (c3 : Int) (n : Nat) : Int → Option ((Unit) ⊕ (Int)) := rounds (weather_Check.r0 K c0 c1 c2 c3) (fun _ => none) n
def weather_Check (K : Nat) (p0 : Int) (p1 : Int) (p2 : Int) (p3 : Int) : Option (Int) :=
  (weather_Check.l0 K p0 p1 p2 p3 K 0 : Option ((Unit) ⊕ (Int))).bind fun z => match z with
  | .inl _ =>
    some 0
  | .inr r =>
    some r
def weather_New (K : Nat) (p0 : Int) (p1 : Int) (p2 : Int) (p3 : Int) (_p4 : Int) : Option ((Int) ⊕ (Unit)) :=
  (weather_Check K p0 p1 p2 p3).bind fun r2 =>
  bif (r2 != 0) then
    some (.inl r2)
  else
    some (.inr ())
def weather_Weather_Draw (_K : Nat)  : Option (Unit) :=
  some ()
def weather_Weather_Draw_2 (_K : Nat) (_p0 : Int) (_p1 : Int) (_p2 : Int) (_p3 : Int) (p4 : Int) (_p5 : Bool) : Option (Int × Int) :=
  let v1 := (kwrap .u32 (1664525 * p4))
  let v2 := (kwrap .u32 (v1 + 1013904223))
  let v3 := (kshr .u32 v2 16)
  let v4 := (kwrap .i64 v3)
  some (v4, v2)
def weather_Weather_Fair (_K : Nat) (_p0 : Int) (_p1 : Int) (_p2 : Int) (_p3 : Int) (_p4 : Int) (p5 : Bool) : Option (Bool) :=
  some (!p5)
def weather_Weather_of (_K : Nat) (p0 : Int) (p1 : Int) (_p2 : Int) (_p3 : Int) (_p4 : Int) (_p5 : Int) (_p6 : Int) (p7 : Bool) : Option (Int) :=
  bif p7 then
    some p1
  else
    some p0
def weather_Weather_comes (K : Nat) (p0 : Int) (p1 : Int) (p2 : Int) (p3 : Int) (p4 : Int) (p5 : Int) (p6 : Bool) : Option (Bool × Int) :=
  (weather_Weather_Draw_2 K p1 p2 p3 p4 p5 p6).bind fun (r3, r4) =>
  let v5 := (decide (r3 < p0))
  some (v5, r4)
def weather_Weather_Lost (K : Nat) (p0 : Int) (p1 : Int) (p2 : Int) (p3 : Int) (p4 : Int) (p5 : Bool) : Option (Bool × Int × Bool) :=
  (weather_Weather_of K p0 p1 p0 p1 p2 p3 p4 p5).bind fun r8 =>
  (weather_Weather_comes K r8 p0 p1 p2 p3 p4 p5).bind fun (r9, r10) =>
  (
    bif r9 then
      some (!p5)
    else
      some p5 : Option (Bool)).bind fun x11 =>
    (weather_Weather_of K p2 p3 p0 p1 p2 p3 r10 x11).bind fun r12 =>
    (weather_Weather_comes K r12 p0 p1 p2 p3 r10 x11).bind fun (r13, r14) =>
    some (r13, r14, x11)
def psalterylaw32_alive (K : Nat)  : Option (Bool) :=
  (weather_New K 0 0 0 0 0).bind fun z => match z with
  | .inl r18 =>
    (weather_New K 0 0 65537 0 0).bind fun z => match z with
    | .inl _r19 =>
      (
        let v20 := (bif (r18 == 0) then false else false)
        bif v20 then
          (weather_Weather_Draw K ).bind fun _ =>
          some ()
        else
          some () : Option (Unit)).bind fun _ =>
        some false
    | .inr _ =>
      (
        let v21 := (bif (r18 == 0) then false else false)
        bif v21 then
          (weather_Weather_Draw K ).bind fun _ =>
          some ()
        else
          some () : Option (Unit)).bind fun _ =>
        some false
  | .inr _ =>
    (weather_New K 0 0 65537 0 0).bind fun z => match z with
    | .inl r22 =>
      (
        (weather_Weather_Draw_2 K 0 0 0 0 0 false).bind fun (r30, r31) =>
        let v32 := (r30 == 15470)
        bif v32 then
          (weather_Weather_Fair K 0 0 0 0 r31 false).bind fun r33 =>
          bif r33 then
            (weather_Weather_Lost K 0 0 0 0 r31 false).bind fun (r34, _r35, _r36) =>
            let v37 := (bif (!r34) then (r22 == 1) else false)
            some v37
          else
            some false
        else
          some false : Option (Bool)).bind fun x29 =>
        some x29
    | .inr _ =>
      (
        (weather_Weather_Draw_2 K 0 0 0 0 0 false).bind fun (r45, r46) =>
        let v47 := (r45 == 15470)
        bif v47 then
          (weather_Weather_Fair K 0 0 0 0 r46 false).bind fun r48 =>
          bif r48 then
            (weather_Weather_Lost K 0 0 0 0 r46 false).bind fun (r49, _r50, _r51) =>
            let v52 := (bif (!r49) then false else false)
            some v52
          else
            some false
        else
          some false : Option (Bool)).bind fun x44 =>
        some x44
def psalteryref32_Check (_K : Nat) (p0 : Int) (p1 : Int) (p2 : Int) (p3 : Int) : Option (Bool) :=
  let v1 := (decide (p0 ≥ 0))
  let v2 := (decide (p0 ≤ 65536))
  let v3 := (bif v1 then v2 else false)
  let v4 := (decide (p1 ≥ 0))
  let v5 := (bif v3 then v4 else false)
  let v6 := (decide (p1 ≤ 65536))
  let v7 := (bif v5 then v6 else false)
  let v8 := (decide (p2 ≥ 0))
  let v9 := (bif v7 then v8 else false)
  let v10 := (decide (p2 ≤ 65536))
  let v11 := (bif v9 then v10 else false)
  let v12 := (decide (p3 ≥ 0))
  let v13 := (bif v11 then v12 else false)
  let v14 := (decide (p3 ≤ 65536))
  let v15 := (bif v13 then v14 else false)
  some v15
def psalteryref32_Weather_Draw (_K : Nat) (_p0 : Int) (_p1 : Int) (_p2 : Int) (_p3 : Int) (p4 : Int) (_p5 : Bool) : Option (Int × Int) :=
  let v1 := (kwrap .u64 (p4 * 1664525))
  let v2 := (kwrap .u64 (v1 + 1013904223))
  let v3 := (Int.tmod v2 4294967296)
  let v4 := (kwrap .u64 (Int.tdiv v3 65536))
  let v5 := (kwrap .i64 v4)
  some (v3, v5)
def psalteryref32_Weather_Lost (K : Nat) (p0 : Int) (p1 : Int) (p2 : Int) (p3 : Int) (p4 : Int) (p5 : Bool) : Option (Int × Bool × Bool) :=
  (psalteryref32_Weather_Draw K p0 p1 p2 p3 p4 p5).bind fun (r6, r7) =>
  let v8 := (decide (r7 < p0))
  let v9 := (bif p5 then v8 else false)
  (
    bif v9 then
      some false
    else
      let v15 := (decide (r7 < p1))
      let v16 := (bif (!p5) then v15 else false)
      bif v16 then
        some true
      else
        some p5 : Option (Bool)).bind fun x10 =>
    (psalteryref32_Weather_Draw K p0 p1 p2 p3 r6 x10).bind fun (r11, r12) =>
    bif x10 then
      let v13 := (decide (r12 < p2))
      some (r11, x10, v13)
    else
      let v14 := (decide (r12 < p3))
      some (r11, x10, v14)
def weather_Weather_Lost_2 (_K : Nat)  : Option (Unit) :=
  some ()
def weather_Weather_Row (_K : Nat) (_p0 : Int) : Option (Unit) :=
  some ()
def weather_Weather_Fair_2 (_K : Nat)  : Option (Unit) :=
  some ()
def weather_bit (_K : Nat) (p0 : Bool) : Option (Int) :=
  bif p0 then
    some 1
  else
    some 0
def weather_Weather_Row_2.r0 (K : Nat) (c0 : Int) (c1 : Int) (c2 : Int) (c3 : Int) (c4 : Int) (next : Int → Int → Bool → List ((Int × (Int × (Int × Int)))) → Option (Int × Bool × (List ((Int × (Int × (Int × Int))))))) (x104 : Int) (x105 : Int) (x106 : Bool) (x107 : List ((Int × (Int × (Int × Int))))) : Option (Int × Bool × (List ((Int × (Int × (Int × Int)))))) :=
  let v128 := (decide (x104 < c0))
  bif v128 then
    (weather_Weather_Lost K c1 c2 c3 c4 x105 x106).bind fun (r137, r138, r139) =>
    (weather_bit K r137).bind fun r140 =>
    (weather_Weather_Lost K c1 c2 c3 c4 r138 r139).bind fun (r141, r142, r143) =>
    (weather_bit K r141).bind fun r144 =>
    let v145 := [(r140, (r144, (0, 0)))]
    let v146 := (x107 ++ v145)
    gd (((x107.length : Int) + (v145.length : Int)) * 32 ≤ 70368744177664) <|
    let v147 := (kwrap .i64 (x104 + 1))
    next v147 r142 r143 v146
  else
    some (x105, x106, x107)
def weather_Weather_Row_2.l0 (K : Nat) (c0 : Int) (c1 : Int) (c2 : Int) (c3 : Int) (c4 : Int) (n : Nat) : Int → Int → Bool → List ((Int × (Int × (Int × Int)))) → Option (Int × Bool × (List ((Int × (Int × (Int × Int)))))) := rounds (weather_Weather_Row_2.r0 K c0 c1 c2 c3 c4) (fun _ _ _ _ => none) n
def weather_Weather_Row_2 (K : Nat) (p0 : Int) (p1 : Int) (p2 : Int) (p3 : Int) (p4 : Int) (p5 : Int) (p6 : Bool) : Option ((List ((Int × (Int × (Int × Int))))) × Int × Bool) :=
  let v44 := (imin (imax p0 0) 64)
  (weather_Weather_Row_2.l0 K v44 p1 p2 p3 p4 K 0 p5 p6 [] : Option (Int × Bool × (List ((Int × (Int × (Int × Int))))))).bind fun (x85, x86, x87) =>
    some (x87, x85, x86)
def psalterylaw32_WeatherPlays.r1 (K : Nat) (_c0 : List (Int)) (_c1 : Int) (c2 : Int) (c3 : Int) (c4 : Int) (c5 : Int) (c6 : Int) (c7 : Int) (c8 : Bool) (_next : Option (Unit))  : Option (Unit) :=
  let v547 := (decide (0 < c2))
  bif v547 then
    (psalteryref32_Weather_Lost K c3 c4 c5 c6 c7 c8).bind fun (r554, r555, _r556) =>
    (psalteryref32_Weather_Lost K c3 c4 c5 c6 r554 r555).bind fun (_r557, _r558, _r559) =>
    none
  else
    some ()
def psalterylaw32_WeatherPlays.l1 (K : Nat) (c0 : List (Int)) (c1 : Int) (c2 : Int) (c3 : Int) (c4 : Int) (c5 : Int) (c6 : Int) (c7 : Int) (c8 : Bool) (n : Nat) : Option (Unit) := rounds (psalterylaw32_WeatherPlays.r1 K c0 c1 c2 c3 c4 c5 c6 c7 c8) (none) n
def psalterylaw32_WeatherPlays.r0 (K : Nat) (c0 : List (Int)) (c1 : Int) (c2 : Int) (c3 : Int) (c4 : Int) (next : Int → Int → Bool → Option ((Unit) ⊕ (Bool))) (x430 : Int) (x431 : Int) (x432 : Bool) : Option ((Unit) ⊕ (Bool)) :=
  let v474 := (decide (x430 < (c0.length : Int)))
  bif v474 then
    let v494 := (Kd.nth (.int .i64) c0 (Int.toNat x430))
    gd ((0 : Int) ≤ x430 ∧ x430 < (c0.length : Int)) <|
    (
      bif (v494 == 0) then
        (psalteryref32_Weather_Draw K c1 c2 c3 c4 x431 x432).bind fun (r516, r517) =>
        (weather_Weather_Draw K ).bind fun _ =>
        bif (0 != r517) then
          some (.inr false)
        else
          some (.inl (r516, x432))
      else
        bif (v494 == 1) then
          (psalteryref32_Weather_Lost K c1 c2 c3 c4 x431 x432).bind fun (r518, r519, r520) =>
          (weather_Weather_Lost_2 K ).bind fun _ =>
          let v521 := (!(false == r520))
          bif v521 then
            some (.inr false)
          else
            some (.inl (r518, r519))
        else
          gd ((0 : Int) ≤ x430 ∧ x430 < (c0.length : Int)) <|
          (weather_Weather_Row K v494).bind fun _ =>
          let v522 := (imin (imax v494 0) 64)
          gd ((0 : Int) ≤ x430 ∧ x430 < (c0.length : Int)) <|
          bif (0 != v522) then
            some (.inr false)
          else
            (psalterylaw32_WeatherPlays.l1 K c0 x430 v522 c1 c2 c3 c4 x431 x432 K  : Option (Unit)).bind fun _ =>
              some (.inl (x431, x432)) : Option ((Int × Bool) ⊕ (Bool))).bind fun z => match z with
    | .inl (x512, x513) =>
      (weather_Weather_Fair_2 K ).bind fun _ =>
      let v514 := (!(false == x513))
      bif v514 then
        some (.inr false)
      else
        let v515 := (kwrap .i64 (x430 + 1))
        next v515 x512 x513
    | .inr r =>
      some (.inr r)
  else
    some (.inl ())
def psalterylaw32_WeatherPlays.l0 (K : Nat) (c0 : List (Int)) (c1 : Int) (c2 : Int) (c3 : Int) (c4 : Int) (n : Nat) : Int → Int → Bool → Option ((Unit) ⊕ (Bool)) := rounds (psalterylaw32_WeatherPlays.r0 K c0 c1 c2 c3 c4) (fun _ _ _ => none) n
def psalterylaw32_WeatherPlays.r3 (K : Nat) (_c0 : List (Int)) (_c1 : Int) (c2 : Int) (c3 : List ((Int × (Int × (Int × Int))))) (c4 : Int) (c5 : Int) (c6 : Int) (c7 : Int) (_c8 : Int) (_c9 : Bool) (next : Int → Int → Bool → Option ((Int × Bool) ⊕ (Bool))) (x1147 : Int) (x1148 : Int) (x1149 : Bool) : Option ((Int × Bool) ⊕ (Bool)) :=
  let v1165 := (decide (x1147 < c2))
  bif v1165 then
    (psalteryref32_Weather_Lost K c4 c5 c6 c7 x1148 x1149).bind fun (r1172, r1173, r1174) =>
    (psalteryref32_Weather_Lost K c4 c5 c6 c7 r1172 r1173).bind fun (r1175, r1176, r1177) =>
    let v1178 := (Kd.nth (.pair (.int .i64) (.pair (.int .i64) (.pair (.int .i64) (.int .u32)))) c3 (Int.toNat x1147))
    let v1179 := (v1178.1 == 1)
    let v1180 := (!(v1179 == r1174))
    let v1181 := (v1178.2.1 == 1)
    let v1182 := (!(v1181 == r1177))
    let v1183 := (bif v1180 then true else v1182)
    let v1184 := (decide (v1178.1 > 1))
    let v1185 := (bif v1183 then true else v1184)
    let v1186 := (decide (v1178.2.1 > 1))
    let v1187 := (bif v1185 then true else v1186)
    let v1188 := (v1178.2.2.1 != 0)
    let v1189 := (bif v1187 then true else v1188)
    let v1190 := (v1178.2.2.2 != 0)
    let v1191 := (bif v1189 then true else v1190)
    gd ((0 : Int) ≤ x1147 ∧ x1147 < (c3.length : Int) ∧ ((!v1180) = true → (0 : Int) ≤ x1147) ∧ ((!v1180) = true → x1147 < (c3.length : Int)) ∧ ((!v1183) = true → (0 : Int) ≤ x1147) ∧ ((!v1183) = true → x1147 < (c3.length : Int)) ∧ ((!v1185) = true → (0 : Int) ≤ x1147) ∧ ((!v1185) = true → x1147 < (c3.length : Int)) ∧ ((!v1187) = true → (0 : Int) ≤ x1147) ∧ ((!v1187) = true → x1147 < (c3.length : Int)) ∧ ((!v1189) = true → (0 : Int) ≤ x1147) ∧ ((!v1189) = true → x1147 < (c3.length : Int))) <|
    bif v1191 then
      some (.inr false)
    else
      let v1192 := (kwrap .i64 (x1147 + 1))
      next v1192 r1175 r1176
  else
    some (.inl (x1148, x1149))
def psalterylaw32_WeatherPlays.l3 (K : Nat) (c0 : List (Int)) (c1 : Int) (c2 : Int) (c3 : List ((Int × (Int × (Int × Int))))) (c4 : Int) (c5 : Int) (c6 : Int) (c7 : Int) (c8 : Int) (c9 : Bool) (n : Nat) : Int → Int → Bool → Option ((Int × Bool) ⊕ (Bool)) := rounds (psalterylaw32_WeatherPlays.r3 K c0 c1 c2 c3 c4 c5 c6 c7 c8 c9) (fun _ _ _ => none) n
def psalterylaw32_WeatherPlays.r2 (K : Nat) (c0 : List (Int)) (c1 : Int) (c2 : Int) (c3 : Int) (c4 : Int) (next : Int → Int → Bool → Int → Bool → Option ((Unit) ⊕ (Bool))) (x871 : Int) (x872 : Int) (x873 : Bool) (x874 : Int) (x875 : Bool) : Option ((Unit) ⊕ (Bool)) :=
  let v981 := (decide (x871 < (c0.length : Int)))
  bif v981 then
    let v1032 := (Kd.nth (.int .i64) c0 (Int.toNat x871))
    gd ((0 : Int) ≤ x871 ∧ x871 < (c0.length : Int)) <|
    (
      bif (v1032 == 0) then
        (psalteryref32_Weather_Draw K c1 c2 c3 c4 x874 x875).bind fun (r1085, r1086) =>
        (weather_Weather_Draw_2 K c1 c2 c3 c4 x872 x873).bind fun (r1087, r1088) =>
        let v1089 := (r1087 != r1086)
        bif v1089 then
          some (.inr false)
        else
          some (.inl (r1088, x873, r1085, x875))
      else
        bif (v1032 == 1) then
          (psalteryref32_Weather_Lost K c1 c2 c3 c4 x874 x875).bind fun (r1090, r1091, r1092) =>
          (weather_Weather_Lost K c1 c2 c3 c4 x872 x873).bind fun (r1093, r1094, r1095) =>
          let v1096 := (!(r1093 == r1092))
          bif v1096 then
            some (.inr false)
          else
            some (.inl (r1094, r1095, r1090, r1091))
        else
          gd ((0 : Int) ≤ x871 ∧ x871 < (c0.length : Int)) <|
          (weather_Weather_Row_2 K v1032 c1 c2 c3 c4 x872 x873).bind fun (r1097, r1098, r1099) =>
          let v1100 := (imax v1032 0)
          let v1101 := (imin v1100 64)
          gd ((0 : Int) ≤ x871 ∧ x871 < (c0.length : Int)) <|
          let v1102 := ((r1097.length : Int) != v1101)
          bif v1102 then
            some (.inr false)
          else
            (psalterylaw32_WeatherPlays.l3 K c0 x871 v1101 r1097 c1 c2 c3 c4 r1098 r1099 K 0 x874 x875 : Option ((Int × Bool) ⊕ (Bool))).bind fun z => match z with
            | .inl (x1133, x1134) =>
              some (.inl (r1098, r1099, x1133, x1134))
            | .inr r =>
              some (.inr r) : Option ((Int × Bool × Int × Bool) ⊕ (Bool))).bind fun z => match z with
    | .inl (x1078, x1079, x1080, x1081) =>
      (weather_Weather_Fair K c1 c2 c3 c4 x1078 x1079).bind fun r1082 =>
      let v1083 := (!(r1082 == x1081))
      bif v1083 then
        some (.inr false)
      else
        let v1084 := (kwrap .i64 (x871 + 1))
        next v1084 x1078 x1079 x1080 x1081
    | .inr r =>
      some (.inr r)
  else
    some (.inl ())
def psalterylaw32_WeatherPlays.l2 (K : Nat) (c0 : List (Int)) (c1 : Int) (c2 : Int) (c3 : Int) (c4 : Int) (n : Nat) : Int → Int → Bool → Int → Bool → Option ((Unit) ⊕ (Bool)) := rounds (psalterylaw32_WeatherPlays.r2 K c0 c1 c2 c3 c4) (fun _ _ _ _ _ => none) n
def psalterylaw32_WeatherPlays (K : Nat) (p0 : Int) (p1 : Int) (p2 : Int) (p3 : Int) (p4 : Int) (p5 : List (Int)) : Option (Bool) :=
  (psalterylaw32_alive K ).bind fun r301 =>
  bif (!r301) then
    some false
  else
    let v302 := (decide ((p5.length : Int) > 60))
    bif v302 then
      some true
    else
      (weather_New K p0 p1 p2 p3 p4).bind fun z => match z with
      | .inl r303 =>
        (psalteryref32_Check K p0 p1 p2 p3).bind fun r304 =>
        bif (!r304) then
          (
            bif (r303 == 1) then
              (weather_Check K p0 p1 p2 p3).bind fun r309 =>
              some (r309 == 1)
            else
              some false : Option (Bool)).bind fun x308 =>
            some x308
        else
          bif (r303 != 0) then
            some false
          else
            (psalterylaw32_WeatherPlays.l0 K p5 p0 p1 p2 p3 K 0 (kwrap .u64 p4) true : Option ((Unit) ⊕ (Bool))).bind fun z => match z with
            | .inl _ =>
              some true
            | .inr r =>
              some r
      | .inr _ =>
        (psalteryref32_Check K p0 p1 p2 p3).bind fun r560 =>
        bif (!r560) then
          some false
        else
          (psalterylaw32_WeatherPlays.l2 K p5 p0 p1 p2 p3 K 0 p4 false (kwrap .u64 p4) true : Option ((Unit) ⊕ (Bool))).bind fun z => match z with
          | .inl _ =>
            some true
          | .inr r =>
            some r
def psalterylaw32_WeatherEnds.r0 (K : Nat) (c0 : Int) (_next : Option ((Unit) ⊕ (Bool)))  : Option ((Unit) ⊕ (Bool)) :=
  let v495 := (decide (0 < (kwrap .i64 c0)))
  bif v495 then
    (weather_Weather_Lost_2 K ).bind fun _ =>
    (weather_Weather_Lost_2 K ).bind fun _ =>
    some (.inr false)
  else
    some (.inl ())
def psalterylaw32_WeatherEnds.l0 (K : Nat) (c0 : Int) (n : Nat) : Option ((Unit) ⊕ (Bool)) := rounds (psalterylaw32_WeatherEnds.r0 K c0) (none) n
def psalterylaw32_WeatherEnds.r1 (K : Nat) (c0 : Int) (c1 : Int) (c2 : Int) (next : Int → Int → Bool → Option ((Unit) ⊕ (Bool))) (x556 : Int) (x557 : Int) (x558 : Bool) : Option ((Unit) ⊕ (Bool)) :=
  let v580 := (decide (x556 < (kwrap .i64 c0)))
  bif v580 then
    (
      (weather_Weather_Lost_2 K ).bind fun _ =>
      (weather_Weather_Lost K c1 c2 65536 65536 x557 x558).bind fun (r600, r601, r602) =>
      bif (!r600) then
        some ((r600, (!r600), true, r601, r602))
      else
        (weather_Weather_Fair_2 K ).bind fun _ =>
        (weather_Weather_Fair K c1 c2 65536 65536 r601 r602).bind fun r603 =>
        let v604 := (!(false == r603))
        some ((r600, (!r600), v604, r601, r602)) : Option (Bool × Bool × Bool × Int × Bool)).bind fun (x594, x595, x596, x597, x598) =>
      bif x596 then
        some (.inr false)
      else
        let v599 := (kwrap .i64 (x556 + 1))
        next v599 x597 x598
  else
    some (.inl ())
def psalterylaw32_WeatherEnds.l1 (K : Nat) (c0 : Int) (c1 : Int) (c2 : Int) (n : Nat) : Int → Int → Bool → Option ((Unit) ⊕ (Bool)) := rounds (psalterylaw32_WeatherEnds.r1 K c0 c1 c2) (fun _ _ _ => none) n
def psalterylaw32_WeatherEnds.r2 (K : Nat) (c0 : Int) (c1 : Int) (c2 : Int) (c3 : Int) (_next : Option ((Unit) ⊕ (Bool)))  : Option ((Unit) ⊕ (Bool)) :=
  let v626 := (decide (0 < (kwrap .i64 c0)))
  bif v626 then
    (
      (weather_Weather_Lost K c1 c2 0 0 c3 false).bind fun (r637, r638, r639) =>
      bif r637 then
        some (r638, r639)
      else
        (weather_Weather_Lost_2 K ).bind fun _ =>
        some (r638, r639) : Option (Int × Bool)).bind fun (x635, x636) =>
      some (.inr false)
  else
    some (.inl ())
def psalterylaw32_WeatherEnds.l2 (K : Nat) (c0 : Int) (c1 : Int) (c2 : Int) (c3 : Int) (n : Nat) : Option ((Unit) ⊕ (Bool)) := rounds (psalterylaw32_WeatherEnds.r2 K c0 c1 c2 c3) (none) n
def psalterylaw32_WeatherEnds.r3 (K : Nat) (c0 : Int) (c1 : Int) (c2 : Int) (next : Int → Int → Bool → Int → Bool → Option ((Unit) ⊕ (Bool))) (x728 : Int) (x729 : Int) (x730 : Bool) (x731 : Int) (x732 : Bool) : Option ((Unit) ⊕ (Bool)) :=
  let v764 := (decide (x728 < (kwrap .i64 c0)))
  bif v764 then
    (
      (weather_Weather_Lost K c1 c2 0 0 x729 x730).bind fun (r792, r793, r794) =>
      bif r792 then
        some (true, r793, r794, x731, x732)
      else
        (weather_Weather_Lost K c1 c2 65536 65536 x731 x732).bind fun (r795, r796, r797) =>
        bif (!r795) then
          some (true, r793, r794, r796, r797)
        else
          (weather_Weather_Fair K c1 c2 0 0 r793 r794).bind fun r798 =>
          (weather_Weather_Fair K c1 c2 65536 65536 r796 r797).bind fun r799 =>
          let v800 := (!(r798 == r799))
          some (v800, r793, r794, r796, r797) : Option (Bool × Int × Bool × Int × Bool)).bind fun (x786, x787, x788, x789, x790) =>
      bif x786 then
        some (.inr false)
      else
        let v791 := (kwrap .i64 (x728 + 1))
        next v791 x787 x788 x789 x790
  else
    some (.inl ())
def psalterylaw32_WeatherEnds.l3 (K : Nat) (c0 : Int) (c1 : Int) (c2 : Int) (n : Nat) : Int → Int → Bool → Int → Bool → Option ((Unit) ⊕ (Bool)) := rounds (psalterylaw32_WeatherEnds.r3 K c0 c1 c2) (fun _ _ _ _ _ => none) n
def psalterylaw32_WeatherEnds.r4 (_K : Nat) (_c0 : Int) (_c1 : Int) (_c2 : Int) (_c3 : Int) (_c4 : Int) (_c5 : Int) (_next : Option (Unit))  : Option (Unit) :=
  some ()
def psalterylaw32_WeatherEnds.l4 (K : Nat) (c0 : Int) (c1 : Int) (c2 : Int) (c3 : Int) (c4 : Int) (c5 : Int) (n : Nat) : Option (Unit) := rounds (psalterylaw32_WeatherEnds.r4 K c0 c1 c2 c3 c4 c5) (none) n
def psalterylaw32_WeatherEnds.r5 (K : Nat) (c0 : Int) (_next : Option ((Unit) ⊕ (Bool)))  : Option ((Unit) ⊕ (Bool)) :=
  let v808 := (decide (0 < (kwrap .i64 c0)))
  bif v808 then
    (weather_Weather_Lost_2 K ).bind fun _ =>
    (weather_Weather_Lost_2 K ).bind fun _ =>
    some (.inr false)
  else
    some (.inl ())
def psalterylaw32_WeatherEnds.l5 (K : Nat) (c0 : Int) (n : Nat) : Option ((Unit) ⊕ (Bool)) := rounds (psalterylaw32_WeatherEnds.r5 K c0) (none) n
def psalterylaw32_WeatherEnds.r6 (K : Nat) (c0 : Int) (c1 : Int) (c2 : Int) (next : Int → Int → Bool → Option ((Unit) ⊕ (Bool))) (x869 : Int) (x870 : Int) (x871 : Bool) : Option ((Unit) ⊕ (Bool)) :=
  let v893 := (decide (x869 < (kwrap .i64 c0)))
  bif v893 then
    (
      (weather_Weather_Lost_2 K ).bind fun _ =>
      (weather_Weather_Lost K c1 c2 65536 65536 x870 x871).bind fun (r913, r914, r915) =>
      bif (!r913) then
        some ((r913, (!r913), true, r914, r915))
      else
        (weather_Weather_Fair_2 K ).bind fun _ =>
        (weather_Weather_Fair K c1 c2 65536 65536 r914 r915).bind fun r916 =>
        let v917 := (!(false == r916))
        some ((r913, (!r913), v917, r914, r915)) : Option (Bool × Bool × Bool × Int × Bool)).bind fun (x907, x908, x909, x910, x911) =>
      bif x909 then
        some (.inr false)
      else
        let v912 := (kwrap .i64 (x869 + 1))
        next v912 x910 x911
  else
    some (.inl ())
def psalterylaw32_WeatherEnds.l6 (K : Nat) (c0 : Int) (c1 : Int) (c2 : Int) (n : Nat) : Int → Int → Bool → Option ((Unit) ⊕ (Bool)) := rounds (psalterylaw32_WeatherEnds.r6 K c0 c1 c2) (fun _ _ _ => none) n
def psalterylaw32_WeatherEnds.r7 (K : Nat) (c0 : Int) (c1 : Int) (c2 : Int) (c3 : Int) (_next : Option ((Unit) ⊕ (Bool)))  : Option ((Unit) ⊕ (Bool)) :=
  let v939 := (decide (0 < (kwrap .i64 c0)))
  bif v939 then
    (
      (weather_Weather_Lost K c1 c2 0 0 c3 false).bind fun (r950, r951, r952) =>
      bif r950 then
        some (r951, r952)
      else
        (weather_Weather_Lost_2 K ).bind fun _ =>
        some (r951, r952) : Option (Int × Bool)).bind fun (x948, x949) =>
      some (.inr false)
  else
    some (.inl ())
def psalterylaw32_WeatherEnds.l7 (K : Nat) (c0 : Int) (c1 : Int) (c2 : Int) (c3 : Int) (n : Nat) : Option ((Unit) ⊕ (Bool)) := rounds (psalterylaw32_WeatherEnds.r7 K c0 c1 c2 c3) (none) n
def psalterylaw32_WeatherEnds.r8 (K : Nat) (c0 : Int) (c1 : Int) (c2 : Int) (next : Int → Int → Bool → Int → Bool → Option ((Unit) ⊕ (Bool))) (x1041 : Int) (x1042 : Int) (x1043 : Bool) (x1044 : Int) (x1045 : Bool) : Option ((Unit) ⊕ (Bool)) :=
  let v1077 := (decide (x1041 < (kwrap .i64 c0)))
  bif v1077 then
    (
      (weather_Weather_Lost K c1 c2 0 0 x1042 x1043).bind fun (r1105, r1106, r1107) =>
      bif r1105 then
        some (true, r1106, r1107, x1044, x1045)
      else
        (weather_Weather_Lost K c1 c2 65536 65536 x1044 x1045).bind fun (r1108, r1109, r1110) =>
        bif (!r1108) then
          some (true, r1106, r1107, r1109, r1110)
        else
          (weather_Weather_Fair K c1 c2 0 0 r1106 r1107).bind fun r1111 =>
          (weather_Weather_Fair K c1 c2 65536 65536 r1109 r1110).bind fun r1112 =>
          let v1113 := (!(r1111 == r1112))
          some (v1113, r1106, r1107, r1109, r1110) : Option (Bool × Int × Bool × Int × Bool)).bind fun (x1099, x1100, x1101, x1102, x1103) =>
      bif x1099 then
        some (.inr false)
      else
        let v1104 := (kwrap .i64 (x1041 + 1))
        next v1104 x1100 x1101 x1102 x1103
  else
    some (.inl ())
def psalterylaw32_WeatherEnds.l8 (K : Nat) (c0 : Int) (c1 : Int) (c2 : Int) (n : Nat) : Int → Int → Bool → Int → Bool → Option ((Unit) ⊕ (Bool)) := rounds (psalterylaw32_WeatherEnds.r8 K c0 c1 c2) (fun _ _ _ _ _ => none) n
def psalterylaw32_WeatherEnds.r9 (_K : Nat) (_c0 : Int) (_c1 : Int) (_c2 : List ((Int × (Int × (Int × Int))))) (_c3 : Int) (_c4 : Int) (_c5 : Int) (_c6 : Int) (_next : Option (Unit))  : Option (Unit) :=
  some ()
def psalterylaw32_WeatherEnds.l9 (K : Nat) (c0 : Int) (c1 : Int) (c2 : List ((Int × (Int × (Int × Int))))) (c3 : Int) (c4 : Int) (c5 : Int) (c6 : Int) (n : Nat) : Option (Unit) := rounds (psalterylaw32_WeatherEnds.r9 K c0 c1 c2 c3 c4 c5 c6) (none) n
def psalterylaw32_WeatherEnds.r10 (K : Nat) (c0 : Int) (_next : Option ((Unit) ⊕ (Bool)))  : Option ((Unit) ⊕ (Bool)) :=
  let v1125 := (decide (0 < (kwrap .i64 c0)))
  bif v1125 then
    (weather_Weather_Lost_2 K ).bind fun _ =>
    (weather_Weather_Lost_2 K ).bind fun _ =>
    some (.inr false)
  else
    some (.inl ())
def psalterylaw32_WeatherEnds.l10 (K : Nat) (c0 : Int) (n : Nat) : Option ((Unit) ⊕ (Bool)) := rounds (psalterylaw32_WeatherEnds.r10 K c0) (none) n
def psalterylaw32_WeatherEnds.r11 (K : Nat) (c0 : Int) (c1 : Int) (c2 : Int) (next : Int → Int → Bool → Option ((Unit) ⊕ (Bool))) (x1186 : Int) (x1187 : Int) (x1188 : Bool) : Option ((Unit) ⊕ (Bool)) :=
  let v1210 := (decide (x1186 < (kwrap .i64 c0)))
  bif v1210 then
    (
      (weather_Weather_Lost_2 K ).bind fun _ =>
      (weather_Weather_Lost K c1 c2 65536 65536 x1187 x1188).bind fun (r1230, r1231, r1232) =>
      bif (!r1230) then
        some ((r1230, (!r1230), true, r1231, r1232))
      else
        (weather_Weather_Fair_2 K ).bind fun _ =>
        (weather_Weather_Fair K c1 c2 65536 65536 r1231 r1232).bind fun r1233 =>
        let v1234 := (!(false == r1233))
        some ((r1230, (!r1230), v1234, r1231, r1232)) : Option (Bool × Bool × Bool × Int × Bool)).bind fun (x1224, x1225, x1226, x1227, x1228) =>
      bif x1226 then
        some (.inr false)
      else
        let v1229 := (kwrap .i64 (x1186 + 1))
        next v1229 x1227 x1228
  else
    some (.inl ())
def psalterylaw32_WeatherEnds.l11 (K : Nat) (c0 : Int) (c1 : Int) (c2 : Int) (n : Nat) : Int → Int → Bool → Option ((Unit) ⊕ (Bool)) := rounds (psalterylaw32_WeatherEnds.r11 K c0 c1 c2) (fun _ _ _ => none) n
def psalterylaw32_WeatherEnds.r12 (K : Nat) (c0 : Int) (c1 : Int) (c2 : Int) (c3 : Int) (_next : Option ((Unit) ⊕ (Bool)))  : Option ((Unit) ⊕ (Bool)) :=
  let v1256 := (decide (0 < (kwrap .i64 c0)))
  bif v1256 then
    (
      (weather_Weather_Lost K c1 c2 0 0 c3 false).bind fun (r1267, r1268, r1269) =>
      bif r1267 then
        some (r1268, r1269)
      else
        (weather_Weather_Lost_2 K ).bind fun _ =>
        some (r1268, r1269) : Option (Int × Bool)).bind fun (x1265, x1266) =>
      some (.inr false)
  else
    some (.inl ())
def psalterylaw32_WeatherEnds.l12 (K : Nat) (c0 : Int) (c1 : Int) (c2 : Int) (c3 : Int) (n : Nat) : Option ((Unit) ⊕ (Bool)) := rounds (psalterylaw32_WeatherEnds.r12 K c0 c1 c2 c3) (none) n
def psalterylaw32_WeatherEnds.r13 (K : Nat) (c0 : Int) (c1 : Int) (c2 : Int) (next : Int → Int → Bool → Int → Bool → Option ((Unit) ⊕ (Bool))) (x1358 : Int) (x1359 : Int) (x1360 : Bool) (x1361 : Int) (x1362 : Bool) : Option ((Unit) ⊕ (Bool)) :=
  let v1394 := (decide (x1358 < (kwrap .i64 c0)))
  bif v1394 then
    (
      (weather_Weather_Lost K c1 c2 0 0 x1359 x1360).bind fun (r1422, r1423, r1424) =>
      bif r1422 then
        some (true, r1423, r1424, x1361, x1362)
      else
        (weather_Weather_Lost K c1 c2 65536 65536 x1361 x1362).bind fun (r1425, r1426, r1427) =>
        bif (!r1425) then
          some (true, r1423, r1424, r1426, r1427)
        else
          (weather_Weather_Fair K c1 c2 0 0 r1423 r1424).bind fun r1428 =>
          (weather_Weather_Fair K c1 c2 65536 65536 r1426 r1427).bind fun r1429 =>
          let v1430 := (!(r1428 == r1429))
          some (v1430, r1423, r1424, r1426, r1427) : Option (Bool × Int × Bool × Int × Bool)).bind fun (x1416, x1417, x1418, x1419, x1420) =>
      bif x1416 then
        some (.inr false)
      else
        let v1421 := (kwrap .i64 (x1358 + 1))
        next v1421 x1417 x1418 x1419 x1420
  else
    some (.inl ())
def psalterylaw32_WeatherEnds.l13 (K : Nat) (c0 : Int) (c1 : Int) (c2 : Int) (n : Nat) : Int → Int → Bool → Int → Bool → Option ((Unit) ⊕ (Bool)) := rounds (psalterylaw32_WeatherEnds.r13 K c0 c1 c2) (fun _ _ _ _ _ => none) n
def psalterylaw32_WeatherEnds.r14 (_K : Nat) (_c0 : Int) (_c1 : Int) (c2 : List ((Int × (Int × (Int × Int))))) (_c3 : Int) (_c4 : Int) (_c5 : Int) (_c6 : Int) (_next : Option (Unit))  : Option (Unit) :=
  let v1431 := (decide (0 < (c2.length : Int)))
  bif v1431 then
    gd ((false = true → 0 < (c2.length : Int))) <|
    none
  else
    some ()
def psalterylaw32_WeatherEnds.l14 (K : Nat) (c0 : Int) (c1 : Int) (c2 : List ((Int × (Int × (Int × Int))))) (c3 : Int) (c4 : Int) (c5 : Int) (c6 : Int) (n : Nat) : Option (Unit) := rounds (psalterylaw32_WeatherEnds.r14 K c0 c1 c2 c3 c4 c5 c6) (none) n
def psalterylaw32_WeatherEnds.r15 (K : Nat) (c0 : Int) (_next : Option ((Unit) ⊕ (Bool)))  : Option ((Unit) ⊕ (Bool)) :=
  let v1445 := (decide (0 < (kwrap .i64 c0)))
  bif v1445 then
    (weather_Weather_Lost_2 K ).bind fun _ =>
    (weather_Weather_Lost_2 K ).bind fun _ =>
    some (.inr false)
  else
    some (.inl ())
def psalterylaw32_WeatherEnds.l15 (K : Nat) (c0 : Int) (n : Nat) : Option ((Unit) ⊕ (Bool)) := rounds (psalterylaw32_WeatherEnds.r15 K c0) (none) n
def psalterylaw32_WeatherEnds.r16 (K : Nat) (c0 : Int) (c1 : Int) (c2 : Int) (next : Int → Int → Bool → Option ((Unit) ⊕ (Bool))) (x1506 : Int) (x1507 : Int) (x1508 : Bool) : Option ((Unit) ⊕ (Bool)) :=
  let v1530 := (decide (x1506 < (kwrap .i64 c0)))
  bif v1530 then
    (
      (weather_Weather_Lost_2 K ).bind fun _ =>
      (weather_Weather_Lost K c1 c2 65536 65536 x1507 x1508).bind fun (r1550, r1551, r1552) =>
      bif (!r1550) then
        some ((r1550, (!r1550), true, r1551, r1552))
      else
        (weather_Weather_Fair_2 K ).bind fun _ =>
        (weather_Weather_Fair K c1 c2 65536 65536 r1551 r1552).bind fun r1553 =>
        let v1554 := (!(false == r1553))
        some ((r1550, (!r1550), v1554, r1551, r1552)) : Option (Bool × Bool × Bool × Int × Bool)).bind fun (x1544, x1545, x1546, x1547, x1548) =>
      bif x1546 then
        some (.inr false)
      else
        let v1549 := (kwrap .i64 (x1506 + 1))
        next v1549 x1547 x1548
  else
    some (.inl ())
def psalterylaw32_WeatherEnds.l16 (K : Nat) (c0 : Int) (c1 : Int) (c2 : Int) (n : Nat) : Int → Int → Bool → Option ((Unit) ⊕ (Bool)) := rounds (psalterylaw32_WeatherEnds.r16 K c0 c1 c2) (fun _ _ _ => none) n
def psalterylaw32_WeatherEnds.r17 (K : Nat) (c0 : Int) (c1 : Int) (c2 : Int) (c3 : Int) (_next : Option ((Unit) ⊕ (Bool)))  : Option ((Unit) ⊕ (Bool)) :=
  let v1576 := (decide (0 < (kwrap .i64 c0)))
  bif v1576 then
    (
      (weather_Weather_Lost K c1 c2 0 0 c3 false).bind fun (r1587, r1588, r1589) =>
      bif r1587 then
        some (r1588, r1589)
      else
        (weather_Weather_Lost_2 K ).bind fun _ =>
        some (r1588, r1589) : Option (Int × Bool)).bind fun (x1585, x1586) =>
      some (.inr false)
  else
    some (.inl ())
def psalterylaw32_WeatherEnds.l17 (K : Nat) (c0 : Int) (c1 : Int) (c2 : Int) (c3 : Int) (n : Nat) : Option ((Unit) ⊕ (Bool)) := rounds (psalterylaw32_WeatherEnds.r17 K c0 c1 c2 c3) (none) n
def psalterylaw32_WeatherEnds.r18 (K : Nat) (c0 : Int) (c1 : Int) (c2 : Int) (next : Int → Int → Bool → Int → Bool → Option ((Unit) ⊕ (Bool))) (x1678 : Int) (x1679 : Int) (x1680 : Bool) (x1681 : Int) (x1682 : Bool) : Option ((Unit) ⊕ (Bool)) :=
  let v1714 := (decide (x1678 < (kwrap .i64 c0)))
  bif v1714 then
    (
      (weather_Weather_Lost K c1 c2 0 0 x1679 x1680).bind fun (r1742, r1743, r1744) =>
      bif r1742 then
        some (true, r1743, r1744, x1681, x1682)
      else
        (weather_Weather_Lost K c1 c2 65536 65536 x1681 x1682).bind fun (r1745, r1746, r1747) =>
        bif (!r1745) then
          some (true, r1743, r1744, r1746, r1747)
        else
          (weather_Weather_Fair K c1 c2 0 0 r1743 r1744).bind fun r1748 =>
          (weather_Weather_Fair K c1 c2 65536 65536 r1746 r1747).bind fun r1749 =>
          let v1750 := (!(r1748 == r1749))
          some (v1750, r1743, r1744, r1746, r1747) : Option (Bool × Int × Bool × Int × Bool)).bind fun (x1736, x1737, x1738, x1739, x1740) =>
      bif x1736 then
        some (.inr false)
      else
        let v1741 := (kwrap .i64 (x1678 + 1))
        next v1741 x1737 x1738 x1739 x1740
  else
    some (.inl ())
def psalterylaw32_WeatherEnds.l18 (K : Nat) (c0 : Int) (c1 : Int) (c2 : Int) (n : Nat) : Int → Int → Bool → Int → Bool → Option ((Unit) ⊕ (Bool)) := rounds (psalterylaw32_WeatherEnds.r18 K c0 c1 c2) (fun _ _ _ _ _ => none) n
def psalterylaw32_WeatherEnds.r19 (_K : Nat) (_c0 : Int) (_c1 : Int) (c2 : List ((Int × (Int × (Int × Int))))) (c3 : List ((Int × (Int × (Int × Int))))) (_c4 : Int) (_c5 : Int) (_c6 : Int) (_c7 : Int) (next : Int → Option ((Unit) ⊕ (Bool))) (x1751 : Int) : Option ((Unit) ⊕ (Bool)) :=
  let v1753 := (decide (x1751 < (c2.length : Int)))
  bif v1753 then
    let v1754 := (decide (x1751 ≥ (c3.length : Int)))
    let v1755 := (Kd.nth (.pair (.int .i64) (.pair (.int .i64) (.pair (.int .i64) (.int .u32)))) c2 (Int.toNat x1751))
    gd (((!v1754) = true → (0 : Int) ≤ x1751) ∧ ((!v1754) = true → x1751 < (c2.length : Int))) <|
    let v1756 := (Kd.nth (.pair (.int .i64) (.pair (.int .i64) (.pair (.int .i64) (.int .u32)))) c3 (Int.toNat x1751))
    gd (((!v1754) = true → (0 : Int) ≤ x1751) ∧ ((!v1754) = true → x1751 < (c3.length : Int))) <|
    let v1757 := (!((v1755.1 == v1756.1) && ((v1755.2.1 == v1756.2.1) && ((v1755.2.2.1 == v1756.2.2.1) && (v1755.2.2.2 == v1756.2.2.2)))))
    let v1758 := (bif v1754 then true else v1757)
    bif v1758 then
      some (.inr false)
    else
      let v1759 := (kwrap .i64 (x1751 + 1))
      next v1759
  else
    some (.inl ())
def psalterylaw32_WeatherEnds.l19 (K : Nat) (c0 : Int) (c1 : Int) (c2 : List ((Int × (Int × (Int × Int))))) (c3 : List ((Int × (Int × (Int × Int))))) (c4 : Int) (c5 : Int) (c6 : Int) (c7 : Int) (n : Nat) : Int → Option ((Unit) ⊕ (Bool)) := rounds (psalterylaw32_WeatherEnds.r19 K c0 c1 c2 c3 c4 c5 c6 c7) (fun _ => none) n
def psalterylaw32_WeatherEnds (K : Nat) (p0 : Int) (p1 : Int) (p2 : Int) (p3 : Int) (p4 : Int) (p5 : Int) : Option (Bool) :=
  (psalterylaw32_alive K ).bind fun r487 =>
  bif (!r487) then
    some false
  else
    (weather_New K p0 p1 p2 p3 p4).bind fun z => match z with
    | .inl r488 =>
      (weather_New K p0 p1 p2 p3 p4).bind fun z => match z with
      | .inl r489 =>
        let v490 := (r488 != r489)
        bif v490 then
          some false
        else
          (
            bif (r488 == 0) then
              (weather_Weather_Row K (kwrap .i64 p5)).bind fun _ =>
              (weather_Weather_Row K (kwrap .i64 p5)).bind fun _ =>
              (psalterylaw32_WeatherEnds.l4 K p4 p5 p0 p1 p2 p3 K  : Option (Unit)).bind fun _ =>
                some ()
            else
              some () : Option (Unit)).bind fun _ =>
            let v491 := (kand .i64 p0 65535)
            let v492 := (kand .i64 p1 65535)
            (weather_New K v491 v492 0 0 p4).bind fun z => match z with
            | .inl _r493 =>
              (weather_New K v491 v492 65536 65536 p4).bind fun z => match z with
              | .inl _r494 =>
                (psalterylaw32_WeatherEnds.l0 K p5 K  : Option ((Unit) ⊕ (Bool))).bind fun z => match z with
                | .inl _ =>
                  some true
                | .inr r =>
                  some r
              | .inr _ =>
                (psalterylaw32_WeatherEnds.l1 K p5 v491 v492 K 0 p4 false : Option ((Unit) ⊕ (Bool))).bind fun z => match z with
                | .inl _ =>
                  some true
                | .inr r =>
                  some r
            | .inr _ =>
              (weather_New K v491 v492 65536 65536 p4).bind fun z => match z with
              | .inl _r605 =>
                (psalterylaw32_WeatherEnds.l2 K p5 v491 v492 p4 K  : Option ((Unit) ⊕ (Bool))).bind fun z => match z with
                | .inl _ =>
                  some true
                | .inr r =>
                  some r
              | .inr _ =>
                (psalterylaw32_WeatherEnds.l3 K p5 v491 v492 K 0 p4 false p4 false : Option ((Unit) ⊕ (Bool))).bind fun z => match z with
                | .inl _ =>
                  some true
                | .inr r =>
                  some r
      | .inr _ =>
        bif (r488 != 0) then
          some false
        else
          (
            bif (r488 == 0) then
              (weather_Weather_Row K (kwrap .i64 p5)).bind fun _ =>
              (weather_Weather_Row_2 K (kwrap .i64 p5) p0 p1 p2 p3 p4 false).bind fun (r1114, _r1115, _r1116) =>
              (psalterylaw32_WeatherEnds.l9 K p4 p5 r1114 p0 p1 p2 p3 K  : Option (Unit)).bind fun _ =>
                some ()
            else
              some () : Option (Unit)).bind fun _ =>
            let v804 := (kand .i64 p0 65535)
            let v805 := (kand .i64 p1 65535)
            (weather_New K v804 v805 0 0 p4).bind fun z => match z with
            | .inl _r806 =>
              (weather_New K v804 v805 65536 65536 p4).bind fun z => match z with
              | .inl _r807 =>
                (psalterylaw32_WeatherEnds.l5 K p5 K  : Option ((Unit) ⊕ (Bool))).bind fun z => match z with
                | .inl _ =>
                  some true
                | .inr r =>
                  some r
              | .inr _ =>
                (psalterylaw32_WeatherEnds.l6 K p5 v804 v805 K 0 p4 false : Option ((Unit) ⊕ (Bool))).bind fun z => match z with
                | .inl _ =>
                  some true
                | .inr r =>
                  some r
            | .inr _ =>
              (weather_New K v804 v805 65536 65536 p4).bind fun z => match z with
              | .inl _r918 =>
                (psalterylaw32_WeatherEnds.l7 K p5 v804 v805 p4 K  : Option ((Unit) ⊕ (Bool))).bind fun z => match z with
                | .inl _ =>
                  some true
                | .inr r =>
                  some r
              | .inr _ =>
                (psalterylaw32_WeatherEnds.l8 K p5 v804 v805 K 0 p4 false p4 false : Option ((Unit) ⊕ (Bool))).bind fun z => match z with
                | .inl _ =>
                  some true
                | .inr r =>
                  some r
    | .inr _ =>
      (weather_New K p0 p1 p2 p3 p4).bind fun z => match z with
      | .inl r1117 =>
        bif (0 != r1117) then
          some false
        else
          (weather_Weather_Row_2 K (kwrap .i64 p5) p0 p1 p2 p3 p4 false).bind fun (r1118, _r1119, _r1120) =>
          (weather_Weather_Row K (kwrap .i64 p5)).bind fun _ =>
          (psalterylaw32_WeatherEnds.l14 K p4 p5 r1118 p0 p1 p2 p3 K  : Option (Unit)).bind fun _ =>
            let v1121 := (kand .i64 p0 65535)
            let v1122 := (kand .i64 p1 65535)
            (weather_New K v1121 v1122 0 0 p4).bind fun z => match z with
            | .inl _r1123 =>
              (weather_New K v1121 v1122 65536 65536 p4).bind fun z => match z with
              | .inl _r1124 =>
                (psalterylaw32_WeatherEnds.l10 K p5 K  : Option ((Unit) ⊕ (Bool))).bind fun z => match z with
                | .inl _ =>
                  some true
                | .inr r =>
                  some r
              | .inr _ =>
                (psalterylaw32_WeatherEnds.l11 K p5 v1121 v1122 K 0 p4 false : Option ((Unit) ⊕ (Bool))).bind fun z => match z with
                | .inl _ =>
                  some true
                | .inr r =>
                  some r
            | .inr _ =>
              (weather_New K v1121 v1122 65536 65536 p4).bind fun z => match z with
              | .inl _r1235 =>
                (psalterylaw32_WeatherEnds.l12 K p5 v1121 v1122 p4 K  : Option ((Unit) ⊕ (Bool))).bind fun z => match z with
                | .inl _ =>
                  some true
                | .inr r =>
                  some r
              | .inr _ =>
                (psalterylaw32_WeatherEnds.l13 K p5 v1121 v1122 K 0 p4 false p4 false : Option ((Unit) ⊕ (Bool))).bind fun z => match z with
                | .inl _ =>
                  some true
                | .inr r =>
                  some r
      | .inr _ =>
        (weather_Weather_Row_2 K (kwrap .i64 p5) p0 p1 p2 p3 p4 false).bind fun (r1433, _r1434, _r1435) =>
        (weather_Weather_Row_2 K (kwrap .i64 p5) p0 p1 p2 p3 p4 false).bind fun (r1436, _r1437, _r1438) =>
        (psalterylaw32_WeatherEnds.l19 K p4 p5 r1433 r1436 p0 p1 p2 p3 K 0 : Option ((Unit) ⊕ (Bool))).bind fun z => match z with
        | .inl _ =>
          let v1441 := (kand .i64 p0 65535)
          let v1442 := (kand .i64 p1 65535)
          (weather_New K v1441 v1442 0 0 p4).bind fun z => match z with
          | .inl _r1443 =>
            (weather_New K v1441 v1442 65536 65536 p4).bind fun z => match z with
            | .inl _r1444 =>
              (psalterylaw32_WeatherEnds.l15 K p5 K  : Option ((Unit) ⊕ (Bool))).bind fun z => match z with
              | .inl _ =>
                some true
              | .inr r =>
                some r
            | .inr _ =>
              (psalterylaw32_WeatherEnds.l16 K p5 v1441 v1442 K 0 p4 false : Option ((Unit) ⊕ (Bool))).bind fun z => match z with
              | .inl _ =>
                some true
              | .inr r =>
                some r
          | .inr _ =>
            (weather_New K v1441 v1442 65536 65536 p4).bind fun z => match z with
            | .inl _r1555 =>
              (psalterylaw32_WeatherEnds.l17 K p5 v1441 v1442 p4 K  : Option ((Unit) ⊕ (Bool))).bind fun z => match z with
              | .inl _ =>
                some true
              | .inr r =>
                some r
            | .inr _ =>
              (psalterylaw32_WeatherEnds.l18 K p5 v1441 v1442 K 0 p4 false p4 false : Option ((Unit) ⊕ (Bool))).bind fun z => match z with
              | .inl _ =>
                some true
              | .inr r =>
                some r
        | .inr r =>
          some r
end Go.Fo
