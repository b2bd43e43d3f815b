/- The functions of Go that are reached, as functions of plain values. -/
import Derived.Test.YtcaehpgdcjonfaaK3
namespace Go.Fo
def weather_Check.r0 (_K : Nat) (next : Int → Int → Int → Int → Int → Option ((Unit) ⊕ (Int))) (x33 : Int) (x34 : Int) (x35 : Int) (x36 : Int) (x37 : Int) : Option ((Unit) ⊕ (Int)) :=
  let v43 := (decide (x37 < 4))
  bif v43 then
    let v44 := (List.getD [x33, x34, x35, x36] (Int.toNat x37) 0)
    gd ((0 : Int) ≤ x37 ∧ x37 < 4) <|
    let v45 := (decide (v44 < 0))
    let v46 := (decide (v44 > 65536))
    let v47 := (bif v45 then true else v46)
    bif v47 then
      some (.inr 1)
    else
      let v48 := (kwrap .i64 (x37 + 1))
      next x33 x34 x35 x36 v48
  else
    some (.inl ())
def weather_Check.l0 (K n : Nat) : Int → Int → Int → Int → Int → Option ((Unit) ⊕ (Int)) := rounds (weather_Check.r0 K) (fun _ _ _ _ _ => none) n
def weather_Check (K : Nat) (p0 : Int) (p1 : Int) (p2 : Int) (p3 : Int) : Option (Int) :=
  (weather_Check.l0 K K p0 p1 p2 p3 0 : Option ((Unit) ⊕ (Int))).bind fun z => match z with
  | .inl _ =>
    some 0
  | .inr r =>
    some r
def weather_New (K : Nat) (p0 : Int) (p1 : Int) (p2 : Int) (p3 : Int) (_p4 : Int) : Option ((Int) ⊕ (Unit)) :=
  (weather_Check K p0 p1 p2 p3).bind fun r2 =>
  bif (r2 != 0) then
    some (.inl r2)
  else
    some (.inr ())
def weather_Weather_Draw (_K : Nat)  : Option (Unit) :=
  some ()
def weather_Weather_Draw_2 (_K : Nat) (_p0 : Int) (_p1 : Int) (_p2 : Int) (_p3 : Int) (p4 : Int) (_p5 : Bool) : Option (Int × Int) :=
  let v1 := (kwrap .u32 (1664525 * p4))
  let v2 := (kwrap .u32 (v1 + 1013904223))
  let v3 := (kshr .u32 v2 16)
  let v4 := (kwrap .i64 v3)
  some (v4, v2)
def weather_Weather_Fair (_K : Nat) (_p0 : Int) (_p1 : Int) (_p2 : Int) (_p3 : Int) (_p4 : Int) (p5 : Bool) : Option (Bool) :=
  some (!p5)
def weather_Weather_of (_K : Nat) (p0 : Int) (p1 : Int) (_p2 : Int) (_p3 : Int) (_p4 : Int) (_p5 : Int) (_p6 : Int) (p7 : Bool) : Option (Int) :=
  bif p7 then
    some p1
  else
    some p0
def weather_Weather_comes (K : Nat) (p0 : Int) (p1 : Int) (p2 : Int) (p3 : Int) (p4 : Int) (p5 : Int) (p6 : Bool) : Option (Bool × Int) :=
  (weather_Weather_Draw_2 K p1 p2 p3 p4 p5 p6).bind fun (r3, r4) =>
  let v5 := (decide (r3 < p0))
  some (v5, r4)
def weather_Weather_Lost (K : Nat) (p0 : Int) (p1 : Int) (p2 : Int) (p3 : Int) (p4 : Int) (p5 : Bool) : Option (Bool × Int × Int × Int × Int × Int × Bool) :=
  (weather_Weather_of K p0 p1 p0 p1 p2 p3 p4 p5).bind fun r13 =>
  (weather_Weather_comes K r13 p0 p1 p2 p3 p4 p5).bind fun (r14, r15) =>
  (
    bif r14 then
      some ((p0, p1, p2, p3, r15, (!p5)))
    else
      some (p0, p1, p2, p3, r15, p5) : Option (Int × Int × Int × Int × Int × Bool)).bind fun (x16, x17, x18, x19, x20, x21) =>
    (weather_Weather_of K x18 x19 x16 x17 x18 x19 x20 x21).bind fun r22 =>
    (weather_Weather_comes K r22 x16 x17 x18 x19 x20 x21).bind fun (r23, r24) =>
    some (r23, x16, x17, x18, x19, r24, x21)
def psalterylaw32_alive (K : Nat)  : Option (Bool) :=
  (weather_New K 0 0 0 0 0).bind fun z => match z with
  | .inl r26 =>
    (weather_New K 0 0 65537 0 0).bind fun z => match z with
    | .inl _r27 =>
      (
        let v28 := (bif (r26 == 0) then false else false)
        bif v28 then
          (weather_Weather_Draw K ).bind fun _ =>
          some ()
        else
          some () : Option (Unit)).bind fun _ =>
        some false
    | .inr _ =>
      (
        let v29 := (bif (r26 == 0) then false else false)
        bif v29 then
          (weather_Weather_Draw K ).bind fun _ =>
          some ()
        else
          some () : Option (Unit)).bind fun _ =>
        some false
  | .inr _ =>
    (weather_New K 0 0 65537 0 0).bind fun z => match z with
    | .inl r30 =>
      (
        (weather_Weather_Draw_2 K 0 0 0 0 0 false).bind fun (r42, r43) =>
        let v44 := (r42 == 15470)
        bif v44 then
          (weather_Weather_Fair K 0 0 0 0 r43 false).bind fun r45 =>
          bif r45 then
            (weather_Weather_Lost K 0 0 0 0 r43 false).bind fun (r46, _r47, _r48, _r49, _r50, _r51, _r52) =>
            let v53 := (bif (!r46) then (r30 == 1) else false)
            some v53
          else
            some false
        else
          some false : Option (Bool)).bind fun x41 =>
        some x41
    | .inr _ =>
      (
        (weather_Weather_Draw_2 K 0 0 0 0 0 false).bind fun (r65, r66) =>
        let v67 := (r65 == 15470)
        bif v67 then
          (weather_Weather_Fair K 0 0 0 0 r66 false).bind fun r68 =>
          bif r68 then
            (weather_Weather_Lost K 0 0 0 0 r66 false).bind fun (r69, _r70, _r71, _r72, _r73, _r74, _r75) =>
            let v76 := (bif (!r69) then false else false)
            some v76
          else
            some false
        else
          some false : Option (Bool)).bind fun x64 =>
        some x64
def weather_Weather_Lost_2 (_K : Nat)  : Option (Unit) :=
  some ()
def weather_Weather_Row (_K : Nat) (_p0 : Int) : Option (Unit) :=
  some ()
def weather_Weather_Fair_2 (_K : Nat)  : Option (Unit) :=
  some ()
def psalterylaw32_WeatherNil (K : Nat) (p0 : Int) : Option (Bool) :=
  (psalterylaw32_alive K ).bind fun r2 =>
  bif (!r2) then
    some false
  else
    (weather_Weather_Draw K ).bind fun _ =>
    (weather_Weather_Lost_2 K ).bind fun _ =>
    (weather_Weather_Row K p0).bind fun _ =>
    (weather_Weather_Fair_2 K ).bind fun _ =>
    some true
end Go.Fo
