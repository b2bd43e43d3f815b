/- The functions of Go that are reached, as functions of plain values. -/
import Derived.Test.YtphienllhdoenaaDoorJ3
namespace Go.Fo
def internal_stringslite_IndexByte (_K : Nat) (p0 : ByteArray) (p1 : Int) : Option (Int) :=
  some (bfind p0 p1)
def internal_stringslite_Index (K : Nat) (p0 : ByteArray) (p1 : ByteArray) : Option (Int) :=
  let v6 := ((p1.size : Int) == 0)
  let v7 := (bif v6 then true else (beqs p1 p0))
  bif v7 then
    some 0
  else
    let v9 := ((p1.size : Int) == 1)
    bif v9 then
      gd (0 < (p1.size : Int)) <|
      (internal_stringslite_IndexByte K p0 (sbyte p1 0)).bind fun r11 =>
      some r11
    else
      let v12 := (decide ((p1.size : Int) ≥ (p0.size : Int)))
      bif v12 then
        some (-1)
      else
        none
def internal_stringslite_Cut (K : Nat) (p0 : ByteArray) (p1 : ByteArray) : Option (ByteArray × ByteArray × Bool) :=
  (internal_stringslite_Index K p0 p1).bind fun r2 =>
  let v3 := (decide (r2 ≥ 0))
  bif v3 then
    let v4 := (p0.extract (Int.toNat 0) (Int.toNat r2))
    gd (0 ≤ r2 ∧ r2 ≤ (p0.size : Int)) <|
    let v5 := (kwrap .i64 (r2 + (p1.size : Int)))
    let v6 := (p0.extract (Int.toNat v5) (Int.toNat (p0.size : Int)))
    gd ((0 : Int) ≤ v5 ∧ v5 ≤ (p0.size : Int) ∧ (p0.size : Int) ≤ (p0.size : Int)) <|
    some (v4, v6, true)
  else
    some (p0, (⟨#[]⟩ : ByteArray), false)
def strings_Cut (K : Nat) (p0 : ByteArray) (p1 : ByteArray) : Option (ByteArray × ByteArray × Bool) :=
  (internal_stringslite_Cut K p0 p1).bind fun (r4, r5, r6) =>
  some (r4, r5, r6)
def strings_Count (_K : Nat) (p0 : ByteArray) (p1 : ByteArray) : Option (Int) :=
  gd (p1.size = 1) <| some (bcount p0 (sbyte p1 0))
def strings_Index (K : Nat) (p0 : ByteArray) (p1 : ByteArray) : Option (Int) :=
  (internal_stringslite_Index K p0 p1).bind fun r2 =>
  some r2
def strings_genSplit.r0 (K : Nat) (c0 : ByteArray) (c1 : Int) (c2 : Int) (next : ByteArray → Int → List (ByteArray) → Option (ByteArray × Int × (List (ByteArray)))) (x37 : ByteArray) (x38 : Int) (x39 : List (ByteArray)) : Option (ByteArray × Int × (List (ByteArray))) :=
  let v44 := (decide (x38 < c2))
  bif v44 then
    (strings_Index K x37 c0).bind fun r45 =>
    let v46 := (decide (r45 < 0))
    bif v46 then
      some (x37, x38, x39)
    else
      let v47 := (kwrap .i64 (r45 + c1))
      let v48 := (x37.extract (Int.toNat 0) (Int.toNat v47))
      let v49 := (List.set x39 (Int.toNat x38) v48)
      gd (0 ≤ v47 ∧ v47 ≤ (x37.size : Int) ∧ (0 : Int) ≤ x38 ∧ x38 < (x39.length : Int) ∧ (Int.toNat x38) < x39.length) <|
      let v50 := (kwrap .i64 (r45 + (c0.size : Int)))
      let v51 := (x37.extract (Int.toNat v50) (Int.toNat (x37.size : Int)))
      gd ((0 : Int) ≤ v50 ∧ v50 ≤ (x37.size : Int) ∧ (x37.size : Int) ≤ (x37.size : Int)) <|
      let v52 := (kwrap .i64 (x38 + 1))
      next v51 v52 v49
  else
    some (x37, x38, x39)
def strings_genSplit.l0 (K : Nat) (c0 : ByteArray) (c1 : Int) (c2 : Int) (n : Nat) : ByteArray → Int → List (ByteArray) → Option (ByteArray × Int × (List (ByteArray))) := rounds (strings_genSplit.r0 K c0 c1 c2) (fun _ _ _ => none) n
def strings_genSplit (K : Nat) (p0 : ByteArray) (p1 : ByteArray) (p2 : Int) (p3 : Int) : Option ((Unit) ⊕ ((List (ByteArray)))) :=
  bif (p3 == 0) then
    some (.inl ())
  else
    let v14 := (beqs p1 (⟨#[]⟩ : ByteArray))
    bif v14 then
      none
    else
      let v15 := (decide (p3 < 0))
      (
        bif v15 then
          (strings_Count K p0 p1).bind fun r53 =>
          let v54 := (kwrap .i64 (r53 + 1))
          some v54
        else
          some p3 : Option (Int)).bind fun x17 =>
        let v18 := (kwrap .i64 ((p0.size : Int) + 1))
        let v19 := (imin x17 v18)
        let v20 := (List.replicate (Int.toNat v19) (⟨#[]⟩ : ByteArray))
        gd ((0 : Int) ≤ v19 ∧ v19 ≤ v19 ∧ v19 * 16 ≤ 140737488355328) <|
        let v21 := (kwrap .i64 (v19 - 1))
        (strings_genSplit.l0 K p1 p2 v21 K p0 0 v20 : Option (ByteArray × Int × (List (ByteArray)))).bind fun (x30, x31, x32) =>
          let v33 := (List.set x32 (Int.toNat x31) x30)
          gd ((0 : Int) ≤ x31 ∧ x31 < (x32.length : Int) ∧ (Int.toNat x31) < x32.length) <|
          let v34 := (kwrap .i64 (x31 + 1))
          let v35 := ((v33.take (Int.toNat v34)).drop (Int.toNat 0))
          gd (0 ≤ v34 ∧ v34 ≤ (v33.length : Int)) <|
          some (.inr v35)
def strings_Split (K : Nat) (p0 : ByteArray) (p1 : ByteArray) : Option ((Unit) ⊕ ((List (ByteArray)))) :=
  (strings_genSplit K p0 p1 0 (-1)).bind fun z => match z with
  | .inl _ =>
    some (.inl ())
  | .inr r2 =>
    some (.inr r2)
def score_reader_word (_K : Nat) (_p0 : Bool) : Option (ByteArray) :=
  some (⟨#[]⟩ : ByteArray)
def score_reader_value.r0 (_K : Nat) (c0 : ByteArray) (_c1 : Int) (c2 : Int) (_c3 : Bool) (next : Int → Int → Option ((Int) ⊕ (Int × Bool))) (x22 : Int) (x23 : Int) : Option ((Int) ⊕ (Int × Bool)) :=
  let v27 := (decide (x23 < c2))
  bif v27 then
    (
      let v30 := (sbyte c0 (Int.toNat x23))
      let v31 := (decide (v30 < 48))
      let v32 := (decide (v30 > 57))
      let v33 := (bif v31 then true else v32)
      gd ((0 : Int) ≤ x23 ∧ x23 < (c0.size : Int) ∧ ((!v31) = true → (0 : Int) ≤ x23) ∧ ((!v31) = true → x23 < (c0.size : Int))) <|
      bif v33 then
        some (.inr (0, true))
      else
        let v34 := (decide (x23 < 10))
        bif v34 then
          let v35 := (kwrap .i64 (10 * x22))
          let v36 := (kwrap .u8 (v30 - 48))
          let v37 := (kwrap .i64 v36)
          let v38 := (kwrap .i64 (v35 + v37))
          gd ((0 : Int) ≤ x23 ∧ x23 < (c0.size : Int)) <|
          some (.inl v38)
        else
          some (.inl x22) : Option ((Int) ⊕ (Int × Bool))).bind fun z => match z with
    | .inl x28 =>
      let v29 := (kwrap .i64 (x23 + 1))
      next x28 v29
    | .inr r =>
      some (.inr r)
  else
    some (.inl x22)
def score_reader_value.l0 (K : Nat) (c0 : ByteArray) (c1 : Int) (c2 : Int) (c3 : Bool) (n : Nat) : Int → Int → Option ((Int) ⊕ (Int × Bool)) := rounds (score_reader_value.r0 K c0 c1 c2 c3) (fun _ _ => none) n
def score_reader_value (K : Nat) (p0 : ByteArray) (p1 : Int) (p2 : Bool) : Option (Int × Bool) :=
  (score_reader_value.l0 K p0 p1 (p0.size : Int) p2 K 0 0 : Option ((Int) ⊕ (Int × Bool))).bind fun z => match z with
  | .inl x12 =>
    let v13 := (beqs p0 (⟨#[]⟩ : ByteArray))
    let v14 := (decide ((p0.size : Int) > 10))
    let v15 := (bif v13 then true else v14)
    let v16 := (decide ((p0.size : Int) > 1))
    let v17 := ((sbyte p0 0) == 48)
    let v18 := (bif v16 then v17 else false)
    let v19 := (bif v15 then true else v18)
    let v20 := (decide (x12 > p1))
    let v21 := (bif v19 then true else v20)
    gd ((((!v15) && v16) = true → 0 < (p0.size : Int))) <|
    bif v21 then
      some (0, true)
    else
      some (x12, p2)
  | .inr r =>
    some r
def score_reader_number (K : Nat) (p0 : Int) (p1 : Bool) : Option (Int × Bool) :=
  (score_reader_word K p1).bind fun r4 =>
  (score_reader_value K r4 p0 true).bind fun (r5, r6) =>
  some (r5, r6)
def wave_modulo (_K : Nat) (p0 : Int) (p1 : Int) : Option (Int) :=
  let v2 := (Int.tmod p0 p1)
  gd (p1 ≠ 0) <|
  let v3 := (decide (v2 < 0))
  (
    bif v3 then
      let v5 := (kwrap .i64 (v2 + p1))
      some v5
    else
      some v2 : Option (Int)).bind fun x4 =>
    some x4
def wave_height (K : Nat) (p0 : Int) (p1 : Int) : Option (Int × Int) :=
  (wave_modulo K p0 p1).bind fun r3 =>
  let v4 := (kwrap .i64 (4 * r3))
  let v5 := (kwrap .i64 (Int.tdiv v4 p1))
  gd (p1 ≠ 0) <|
  let v6 := (Int.tmod v4 p1)
  gd (p1 ≠ 0) <|
  let v7 := (kand .i64 v5 1)
  (
    bif (v7 == 1) then
      let v11 := (kwrap .i64 (p1 - v6))
      some v11
    else
      some v6 : Option (Int)).bind fun x8 =>
    let v9 := (kshl .u64 (kwrap .u64 x8) 30)
    let v10 := (kwrap .u64 (Int.tdiv v9 (kwrap .u64 p1)))
    gd ((kwrap .u64 p1) ≠ 0) <|
    some (v10, v5)
def fix_within_int (_K : Nat) (p0 : Int) (p1 : Int) (p2 : Int) : Option (Int) :=
  let v1 := (decide (p0 < p1))
  bif v1 then
    some p1
  else
    let v2 := (decide (p0 > p2))
    bif v2 then
      some p2
    else
      some p0
def fix_Round (K : Nat) (p0 : Int) (p1 : Int) : Option (Int) :=
  (fix_within_int K p1 0 62).bind fun r2 =>
  bif (r2 == 0) then
    some p0
  else
    let v3 := (kshr .i64 p0 r2)
    gd ((0 : Int) ≤ r2) <|
    let v4 := (kwrap .i64 (r2 - 1))
    let v5 := (kshr .i64 p0 v4)
    gd ((0 : Int) ≤ v4) <|
    let v6 := (kand .i64 v5 1)
    let v7 := (kwrap .i64 (v3 + v6))
    some v7
def fix_within_int64 (_K : Nat) (p0 : Int) (p1 : Int) (p2 : Int) : Option (Int) :=
  let v1 := (decide (p0 < p1))
  bif v1 then
    some p1
  else
    let v2 := (decide (p0 > p2))
    bif v2 then
      some p2
    else
      some p0
def fix_Clip (K : Nat) (p0 : Int) (p1 : Int) (p2 : Int) : Option (Int) :=
  (fix_within_int64 K p0 p1 p2).bind fun r2 =>
  some r2
def wave_sine.r0 (_K : Nat) (_c0 : Int) (_c1 : Int) (c2 : Int) (next : Int → Int → Option (Int)) (x27 : Int) (x28 : Int) : Option (Int) :=
  let v31 := (decide (x28 < 4))
  bif v31 then
    let v32 := (List.getD [5026995, 85569306, 693598668, 1686629713] (Int.toNat x28) 0)
    gd ((0 : Int) ≤ x28 ∧ x28 < 4) <|
    let v33 := (kwrap .u64 (x27 * c2))
    let v34 := (kshr .u64 v33 30)
    let v35 := (kwrap .u64 (v32 - v34))
    let v36 := (kwrap .i64 (x28 + 1))
    next v35 v36
  else
    some x27
def wave_sine.l0 (K : Nat) (c0 : Int) (c1 : Int) (c2 : Int) (n : Nat) : Int → Int → Option (Int) := rounds (wave_sine.r0 K c0 c1 c2) (fun _ _ => none) n
def wave_sine (K : Nat) (p0 : Int) (p1 : Int) : Option (Int) :=
  (wave_height K p0 p1).bind fun (r11, r12) =>
  let v13 := (kwrap .u64 (r11 * r11))
  let v14 := (kshr .u64 v13 30)
  (wave_sine.l0 K r11 r12 v14 K 172272 0 : Option (Int)).bind fun x19 =>
    let v20 := (kwrap .u64 (x19 * r11))
    let v21 := (kshr .u64 v20 30)
    let v22 := (kwrap .i64 v21)
    (fix_Round K v22 15).bind fun r23 =>
    (fix_Clip K r23 0 32767).bind fun r24 =>
    let v25 := (decide (r12 ≥ 2))
    (
      bif v25 then
        some ((kwrap .i64 (0 - r24)))
      else
        some r24 : Option (Int)).bind fun x26 =>
      some (kwrap .i16 x26)
def wave_Sine (K : Nat) (p0 : Int) (p1 : Int) : Option (Int × Int) :=
  let v2 := (decide (p1 < 1))
  let v3 := (decide (p1 > 1048576))
  let v4 := (bif v2 then true else v3)
  bif v4 then
    some (0, 1)
  else
    (wave_sine K p0 p1).bind fun r5 =>
    some (r5, 0)
def fix_Sat32 (K : Nat) (p0 : Int) : Option (Int) :=
  (fix_within_int64 K p0 (-2147483648) 2147483647).bind fun r2 =>
  some (kwrap .i32 r2)
def fix_Mul15 (K : Nat) (p0 : Int) (p1 : Int) : Option (Int) :=
  let v3 := (kwrap .i64 ((kwrap .i64 p0) * (kwrap .i64 p1)))
  (fix_Round K v3 15).bind fun r4 =>
  (fix_Sat32 K r4).bind fun r5 =>
  some r5
def score_reader_tone.r0 (K : Nat) (c0 : Int) (c1 : Int) (c2 : Int) (c3 : Int) (_c4 : Bool) (next : Int → List (Int) → Option ((List (Int)))) (x60 : Int) (x61 : List (Int)) : Option ((List (Int))) :=
  let v70 := (decide (x60 < c3))
  bif v70 then
    let v74 := (kwrap .i64 (x60 * c1))
    (wave_Sine K v74 c2).bind fun (r75, _r76) =>
    (fix_Mul15 K (kwrap .i32 c0) r75).bind fun r77 =>
    let v78 := (List.set x61 (Int.toNat x60) (kwrap .i16 r77))
    gd ((0 : Int) ≤ x60 ∧ x60 < (x61.length : Int) ∧ (Int.toNat x60) < x61.length) <|
    let v79 := (kwrap .i64 (x60 + 1))
    next v79 v78
  else
    some x61
def score_reader_tone.l0 (K : Nat) (c0 : Int) (c1 : Int) (c2 : Int) (c3 : Int) (c4 : Bool) (n : Nat) : Int → List (Int) → Option ((List (Int))) := rounds (score_reader_tone.r0 K c0 c1 c2 c3 c4) (fun _ _ => none) n
def score_reader_tone (K : Nat) (p0 : Bool) : Option ((Unit) ⊕ ((List (Int)) × Bool)) :=
  (score_reader_number K 32767 p0).bind fun (r26, r27) =>
  (score_reader_number K 65535 r27).bind fun (r28, r29) =>
  (score_reader_number K 65535 r29).bind fun (r30, r31) =>
  (score_reader_number K 4096 r31).bind fun (r32, r33) =>
  let v34 := (bif r33 then true else (r30 == 0))
  bif v34 then
    some (.inl ())
  else
    let v35 := (List.replicate (Int.toNat r32) (0 : Int))
    gd ((0 : Int) ≤ r32 ∧ r32 ≤ r32 ∧ r32 * 2 ≤ 140737488355328) <|
    let v36 := (v35.length : Int)
    (score_reader_tone.l0 K r26 r28 r30 v36 r33 K 0 v35 : Option ((List (Int)))).bind fun x53 =>
      some (.inr (x53, r33))
def strings_IndexByte (K : Nat) (p0 : ByteArray) (p1 : Int) : Option (Int) :=
  (internal_stringslite_IndexByte K p0 p1).bind fun r2 =>
  some r2
def score_reader_digit (K : Nat) (p0 : Int) (p1 : Bool) : Option (Int × Bool) :=
  (strings_IndexByte K (⟨#[48, 49, 50, 51, 52, 53, 54, 55, 56, 57, 97, 98, 99, 100, 101, 102]⟩ : ByteArray) p0).bind fun r2 =>
  let v3 := (decide (r2 < 0))
  bif v3 then
    some (0, true)
  else
    some ((kwrap .u8 r2), p1)
def score_reader_bytes.r0 (K : Nat) (c0 : ByteArray) (next : Int → Bool → List (Int) → Option (Bool × (List (Int)))) (x63 : Int) (x64 : Bool) (x65 : List (Int)) : Option (Bool × (List (Int))) :=
  let v77 := (decide (x63 < (c0.size : Int)))
  bif v77 then
    let v82 := (sbyte c0 (Int.toNat x63))
    gd ((0 : Int) ≤ x63 ∧ x63 < (c0.size : Int)) <|
    (score_reader_digit K v82 x64).bind fun (r83, r84) =>
    let v85 := (kshl .u8 r83 4)
    let v86 := (kwrap .i64 (x63 + 1))
    let v87 := (sbyte c0 (Int.toNat v86))
    gd ((0 : Int) ≤ v86 ∧ v86 < (c0.size : Int)) <|
    (score_reader_digit K v87 r84).bind fun (r88, r89) =>
    let v90 := (kor .u8 v85 r88)
    let v91 := (x65 ++ [v90])
    gd (((x65.length : Int) + ([v90].length : Int)) * 1 ≤ 70368744177664) <|
    let v92 := (kwrap .i64 (x63 + 2))
    next v92 r89 v91
  else
    some (x64, x65)
def score_reader_bytes.l0 (K : Nat) (c0 : ByteArray) (n : Nat) : Int → Bool → List (Int) → Option (Bool × (List (Int))) := rounds (score_reader_bytes.r0 K c0) (fun _ _ _ => none) n
def score_reader_bytes (K : Nat) (p0 : Bool) : Option ((Unit) ⊕ ((List (Int)) × Bool)) :=
  (score_reader_word K p0).bind fun r26 =>
  let v27 := (beqs r26 (⟨#[45]⟩ : ByteArray))
  bif v27 then
    some (.inl ())
  else
    let v28 := (beqs r26 (⟨#[]⟩ : ByteArray))
    let v29 := (Int.tmod (r26.size : Int) 2)
    let v30 := (bif v28 then true else (v29 == 1))
    bif v30 then
      some (.inl ())
    else
      (score_reader_bytes.l0 K r26 K 0 true ([] : List (Int)) : Option (Bool × (List (Int)))).bind fun (x53, x54) =>
        some (.inr (x54, x53))
def weather_Check.r0 (_K : Nat) (c0 : Int) (c1 : Int) (c2 : Int) (c3 : Int) (next : Int → Option ((Unit) ⊕ (Int))) (x5 : Int) : Option ((Unit) ⊕ (Int)) :=
  let v7 := (decide (x5 < 4))
  bif v7 then
    let v8 := (List.getD [c0, c1, c2, c3] (Int.toNat x5) 0)
    gd ((0 : Int) ≤ x5 ∧ x5 < 4) <|
    let v9 := (decide (v8 < 0))
    let v10 := (decide (v8 > 65536))
    let v11 := (bif v9 then true else v10)
    bif v11 then
      some (.inr 1)
    else
      let v12 := (kwrap .i64 (x5 + 1))
      next v12
  else
    some (.inl ())
def weather_Check.l0 (K : Nat) (c0 : Int) (c1 : Int) (c2 : Int) (c3 : Int) (n : Nat) : Int → Option ((Unit) ⊕ (Int)) := rounds (weather_Check.r0 K c0 c1 c2 c3) (fun _ => none) n
def weather_Check (K : Nat) (p0 : Int) (p1 : Int) (p2 : Int) (p3 : Int) : Option (Int) :=
  (weather_Check.l0 K p0 p1 p2 p3 K 0 : Option ((Unit) ⊕ (Int))).bind fun z => match z with
  | .inl _ =>
    some 0
  | .inr r =>
    some r
def weather_New (K : Nat) (p0 : Int) (p1 : Int) (p2 : Int) (p3 : Int) (_p4 : Int) : Option ((Int) ⊕ (Unit)) :=
  (weather_Check K p0 p1 p2 p3).bind fun r2 =>
  bif (r2 != 0) then
    some (.inl r2)
  else
    some (.inr ())
def weather_Weather_Row (_K : Nat) (_p0 : Int) : Option (Unit) :=
  some ()
def weather_Weather_of (_K : Nat) (p0 : Int) (p1 : Int) (_p2 : Int) (_p3 : Int) (_p4 : Int) (_p5 : Int) (_p6 : Int) (p7 : Bool) : Option (Int) :=
  bif p7 then
    some p1
  else
    some p0
def weather_Weather_Draw (_K : Nat) (_p0 : Int) (_p1 : Int) (_p2 : Int) (_p3 : Int) (p4 : Int) (_p5 : Bool) : Option (Int × Int) :=
  let v1 := (kwrap .u32 (1664525 * p4))
  let v2 := (kwrap .u32 (v1 + 1013904223))
  let v3 := (kshr .u32 v2 16)
  let v4 := (kwrap .i64 v3)
  some (v4, v2)
def weather_Weather_comes (K : Nat) (p0 : Int) (p1 : Int) (p2 : Int) (p3 : Int) (p4 : Int) (p5 : Int) (p6 : Bool) : Option (Bool × Int) :=
  (weather_Weather_Draw K p1 p2 p3 p4 p5 p6).bind fun (r3, r4) =>
  let v5 := (decide (r3 < p0))
  some (v5, r4)
def weather_Weather_Lost (K : Nat) (p0 : Int) (p1 : Int) (p2 : Int) (p3 : Int) (p4 : Int) (p5 : Bool) : Option (Bool × Int × Bool) :=
  (weather_Weather_of K p0 p1 p0 p1 p2 p3 p4 p5).bind fun r8 =>
  (weather_Weather_comes K r8 p0 p1 p2 p3 p4 p5).bind fun (r9, r10) =>
  (
    bif r9 then
      some (!p5)
    else
      some p5 : Option (Bool)).bind fun x11 =>
    (weather_Weather_of K p2 p3 p0 p1 p2 p3 r10 x11).bind fun r12 =>
    (weather_Weather_comes K r12 p0 p1 p2 p3 r10 x11).bind fun (r13, r14) =>
    some (r13, r14, x11)
def weather_bit (_K : Nat) (p0 : Bool) : Option (Int) :=
  bif p0 then
    some 1
  else
    some 0
def weather_Weather_Row_2.r0 (K : Nat) (c0 : Int) (c1 : Int) (c2 : Int) (c3 : Int) (c4 : Int) (next : Int → Int → Bool → List ((Int × (Int × (Int × Int)))) → Option (Int × Bool × (List ((Int × (Int × (Int × Int))))))) (x104 : Int) (x105 : Int) (x106 : Bool) (x107 : List ((Int × (Int × (Int × Int))))) : Option (Int × Bool × (List ((Int × (Int × (Int × Int)))))) :=
  let v128 := (decide (x104 < c0))
  bif v128 then
    (weather_Weather_Lost K c1 c2 c3 c4 x105 x106).bind fun (r137, r138, r139) =>
    (weather_bit K r137).bind fun r140 =>
    (weather_Weather_Lost K c1 c2 c3 c4 r138 r139).bind fun (r141, r142, r143) =>
    (weather_bit K r141).bind fun r144 =>
    let v145 := [(r140, (r144, (0, 0)))]
    let v146 := (x107 ++ v145)
    gd (((x107.length : Int) + (v145.length : Int)) * 32 ≤ 70368744177664) <|
    let v147 := (kwrap .i64 (x104 + 1))
    next v147 r142 r143 v146
  else
    some (x105, x106, x107)
def weather_Weather_Row_2.l0 (K : Nat) (c0 : Int) (c1 : Int) (c2 : Int) (c3 : Int) (c4 : Int) (n : Nat) : Int → Int → Bool → List ((Int × (Int × (Int × Int)))) → Option (Int × Bool × (List ((Int × (Int × (Int × Int)))))) := rounds (weather_Weather_Row_2.r0 K c0 c1 c2 c3 c4) (fun _ _ _ _ => none) n
def weather_Weather_Row_2 (K : Nat) (p0 : Int) (p1 : Int) (p2 : Int) (p3 : Int) (p4 : Int) (p5 : Int) (p6 : Bool) : Option ((List ((Int × (Int × (Int × Int))))) × Int × Bool) :=
  let v44 := (imin (imax p0 0) 64)
  (weather_Weather_Row_2.l0 K v44 p1 p2 p3 p4 K 0 p5 p6 ([] : List ((Int × (Int × (Int × Int))))) : Option (Int × Bool × (List ((Int × (Int × (Int × Int))))))).bind fun (x85, x86, x87) =>
    some (x87, x85, x86)
def score_reader_storm.r0 (K : Nat) (c0 : Int) (c1 : Int) (_c2 : Bool) (next : Int → List ((Int × (Int × (List (Int) × (List (Int) × (List (Int) × List ((Int × (Int × (Int × Int)))))))))) → Option ((List ((Int × (Int × (List (Int) × (List (Int) × (List (Int) × List ((Int × (Int × (Int × Int))))))))))))) (x63 : Int) (x64 : List ((Int × (Int × (List (Int) × (List (Int) × (List (Int) × List ((Int × (Int × (Int × Int))))))))))) : Option ((List ((Int × (Int × (List (Int) × (List (Int) × (List (Int) × List ((Int × (Int × (Int × Int)))))))))))) :=
  let v67 := (decide (x63 < c1))
  bif v67 then
    (weather_Weather_Row K c0).bind fun _ =>
    let v68 := [(4, (0, (([] : List (Int)), (([] : List (Int)), (([] : List (Int)), ([] : List ((Int × (Int × (Int × Int))))))))))]
    gd (((x64.length : Int) + (v68.length : Int)) * 112 ≤ 70368744177664) <|
    let v69 := (kwrap .i64 (x63 + 1))
    next v69 (x64 ++ v68)
  else
    some x64
def score_reader_storm.l0 (K : Nat) (c0 : Int) (c1 : Int) (c2 : Bool) (n : Nat) : Int → List ((Int × (Int × (List (Int) × (List (Int) × (List (Int) × List ((Int × (Int × (Int × Int)))))))))) → Option ((List ((Int × (Int × (List (Int) × (List (Int) × (List (Int) × List ((Int × (Int × (Int × Int)))))))))))) := rounds (score_reader_storm.r0 K c0 c1 c2) (fun _ _ => none) n
def score_reader_storm.r1 (K : Nat) (c0 : Int) (c1 : Int) (_c2 : Bool) (c3 : Int) (c4 : Int) (c5 : Int) (c6 : Int) (next : Int → Int → Bool → List ((Int × (Int × (List (Int) × (List (Int) × (List (Int) × List ((Int × (Int × (Int × Int)))))))))) → Option ((List ((Int × (Int × (List (Int) × (List (Int) × (List (Int) × List ((Int × (Int × (Int × Int))))))))))))) (x98 : Int) (x99 : Int) (x100 : Bool) (x101 : List ((Int × (Int × (List (Int) × (List (Int) × (List (Int) × List ((Int × (Int × (Int × Int))))))))))) : Option ((List ((Int × (Int × (List (Int) × (List (Int) × (List (Int) × List ((Int × (Int × (Int × Int)))))))))))) :=
  let v112 := (decide (x98 < c1))
  bif v112 then
    (weather_Weather_Row_2 K c0 c3 c4 c5 c6 x99 x100).bind fun (r116, r117, r118) =>
    let v119 := [(4, (0, (([] : List (Int)), (([] : List (Int)), (([] : List (Int)), r116)))))]
    let v120 := (x101 ++ v119)
    gd (((x101.length : Int) + (v119.length : Int)) * 112 ≤ 70368744177664) <|
    let v121 := (kwrap .i64 (x98 + 1))
    next v121 r117 r118 v120
  else
    some x101
def score_reader_storm.l1 (K : Nat) (c0 : Int) (c1 : Int) (c2 : Bool) (c3 : Int) (c4 : Int) (c5 : Int) (c6 : Int) (n : Nat) : Int → Int → Bool → List ((Int × (Int × (List (Int) × (List (Int) × (List (Int) × List ((Int × (Int × (Int × Int)))))))))) → Option ((List ((Int × (Int × (List (Int) × (List (Int) × (List (Int) × List ((Int × (Int × (Int × Int)))))))))))) := rounds (score_reader_storm.r1 K c0 c1 c2 c3 c4 c5 c6) (fun _ _ _ _ => none) n
def score_reader_storm (K : Nat) (p0 : Bool) : Option ((Unit) ⊕ ((List ((Int × (Int × (List (Int) × (List (Int) × (List (Int) × List ((Int × (Int × (Int × Int))))))))))) × Bool)) :=
  (score_reader_number K 4294967295 p0).bind fun (r42, r43) =>
  (score_reader_number K 65536 r43).bind fun (r44, r45) =>
  (score_reader_number K 65536 r45).bind fun (r46, r47) =>
  (score_reader_number K 65536 r47).bind fun (r48, r49) =>
  (score_reader_number K 65536 r49).bind fun (r50, r51) =>
  (score_reader_number K 64 r51).bind fun (r52, r53) =>
  (score_reader_number K 16 r53).bind fun (r54, r55) =>
  (weather_New K r44 r46 r48 r50 (kwrap .u32 r42)).bind fun z => match z with
  | .inl r56 =>
    let v57 := (bif r55 then true else (r56 != 0))
    bif v57 then
      some (.inl ())
    else
      (score_reader_storm.l0 K r54 r52 r55 K 0 ([] : List ((Int × (Int × (List (Int) × (List (Int) × (List (Int) × List ((Int × (Int × (Int × Int))))))))))) : Option ((List ((Int × (Int × (List (Int) × (List (Int) × (List (Int) × List ((Int × (Int × (Int × Int))))))))))))).bind fun x62 =>
        some (.inr (x62, r55))
  | .inr _ =>
    let v70 := (bif r55 then true else false)
    bif v70 then
      some (.inl ())
    else
      (score_reader_storm.l1 K r54 r52 r55 r44 r46 r48 r50 K 0 (kwrap .u32 r42) false ([] : List ((Int × (Int × (List (Int) × (List (Int) × (List (Int) × List ((Int × (Int × (Int × Int))))))))))) : Option ((List ((Int × (Int × (List (Int) × (List (Int) × (List (Int) × List ((Int × (Int × (Int × Int))))))))))))).bind fun x91 =>
        some (.inr (x91, r55))
def score_reader_steps.r0 (_K : Nat)  (_next : Option (Unit))  : Option (Unit) :=
  some ()
def score_reader_steps.l0 (K : Nat)  (n : Nat) : Option (Unit) := rounds (score_reader_steps.r0 K) (none) n
def score_reader_steps.r1 (_K : Nat)  (_next : Option (Unit))  : Option (Unit) :=
  some ()
def score_reader_steps.l1 (K : Nat)  (n : Nat) : Option (Unit) := rounds (score_reader_steps.r1 K) (none) n
def score_reader_steps (K : Nat) (p0 : Bool) : Option ((Unit) ⊕ ((List ((Int × (Int × (List (Int) × (List (Int) × (List (Int) × List ((Int × (Int × (Int × Int))))))))))) × Bool)) :=
  (score_reader_word K p0).bind fun r83 =>
  let v99 := (beqs r83 (⟨#[115, 97, 109, 112, 108, 101, 115]⟩ : ByteArray))
  bif v99 then
    (score_reader_steps.l0 K K  : Option (Unit)).bind fun _ =>
      let v115 := [(1, (0, (([] : List (Int)), (([] : List (Int)), (([] : List (Int)), ([] : List ((Int × (Int × (Int × Int))))))))))]
      some (.inr (v115, true))
  else
    let v116 := (beqs r83 (⟨#[116, 111, 110, 101]⟩ : ByteArray))
    bif v116 then
      (score_reader_tone K true).bind fun z => match z with
      | .inl _ =>
        let v134 := [(1, (0, (([] : List (Int)), (([] : List (Int)), (([] : List (Int)), ([] : List ((Int × (Int × (Int × Int))))))))))]
        some (.inr (v134, true))
      | .inr (r132, r133) =>
        let v135 := [(1, (0, (r132, (([] : List (Int)), (([] : List (Int)), ([] : List ((Int × (Int × (Int × Int))))))))))]
        some (.inr (v135, r133))
    else
      let v136 := (beqs r83 (⟨#[99, 97, 108, 108]⟩ : ByteArray))
      bif v136 then
        (score_reader_number K 99 true).bind fun (r150, r151) =>
        let v152 := [(2, (r150, (([] : List (Int)), (([] : List (Int)), (([] : List (Int)), ([] : List ((Int × (Int × (Int × Int))))))))))]
        some (.inr (v152, r151))
      else
        let v153 := (beqs r83 (⟨#[101, 110, 100, 115]⟩ : ByteArray))
        bif v153 then
          (score_reader_bytes K true).bind fun z => match z with
          | .inl _ =>
            (score_reader_bytes K true).bind fun z => match z with
            | .inl _ =>
              let v168 := [(3, (0, (([] : List (Int)), (([] : List (Int)), (([] : List (Int)), ([] : List ((Int × (Int × (Int × Int))))))))))]
              some (.inr (v168, true))
            | .inr (r166, r167) =>
              let v169 := [(3, (0, (([] : List (Int)), (([] : List (Int)), (r166, ([] : List ((Int × (Int × (Int × Int))))))))))]
              some (.inr (v169, r167))
          | .inr (r164, r165) =>
            (score_reader_bytes K r165).bind fun z => match z with
            | .inl _ =>
              let v172 := [(3, (0, (([] : List (Int)), (r164, (([] : List (Int)), ([] : List ((Int × (Int × (Int × Int))))))))))]
              some (.inr (v172, true))
            | .inr (r170, r171) =>
              let v173 := [(3, (0, (([] : List (Int)), (r164, (r170, ([] : List ((Int × (Int × (Int × Int))))))))))]
              some (.inr (v173, r171))
        else
          let v174 := (beqs r83 (⟨#[105, 110, 116, 101, 114, 118, 97, 108]⟩ : ByteArray))
          (
            bif v174 then
              (score_reader_steps.l1 K K  : Option (Unit)).bind fun _ =>
                some (.inl 4)
            else
              let v179 := (beqs r83 (⟨#[115, 116, 111, 114, 109]⟩ : ByteArray))
              bif v179 then
                (score_reader_storm K true).bind fun z => match z with
                | .inl _ =>
                  some (.inr (.inl ()))
                | .inr (r180, r181) =>
                  some (.inr (.inr (r180, r181)))
              else
                some (.inl 0) : Option ((Int) ⊕ ((Unit) ⊕ ((List ((Int × (Int × (List (Int) × (List (Int) × (List (Int) × List ((Int × (Int × (Int × Int))))))))))) × Bool)))).bind fun z => match z with
          | .inl x177 =>
            let v178 := [(x177, (0, (([] : List (Int)), (([] : List (Int)), (([] : List (Int)), ([] : List ((Int × (Int × (Int × Int))))))))))]
            some (.inr (v178, true))
          | .inr r =>
            some r
def score_reader_word_2 (_K : Nat) (p0 : List (ByteArray)) (p1 : Bool) : Option (ByteArray × (List (ByteArray)) × Bool) :=
  let v1 := ((p0.length : Int) == 0)
  bif v1 then
    some ((⟨#[]⟩ : ByteArray), p0, true)
  else
    let v2 := (Kd.nth (.str) p0 0)
    gd (0 < (p0.length : Int)) <|
    let v3 := ((p0.take (Int.toNat (p0.length : Int))).drop (Int.toNat 1))
    gd (1 ≤ (p0.length : Int) ∧ (p0.length : Int) ≤ (p0.length : Int)) <|
    some (v2, v3, p1)
def internal_stringslite_HasPrefix (_K : Nat) (p0 : ByteArray) (p1 : ByteArray) : Option (Bool) :=
  let v1 := (decide ((p0.size : Int) ≥ (p1.size : Int)))
  let v2 := (p0.extract (Int.toNat 0) (Int.toNat (p1.size : Int)))
  let v3 := (bif v1 then (beqs v2 p1) else false)
  gd ((v1 = true → 0 ≤ (p1.size : Int)) ∧ (v1 = true → (p1.size : Int) ≤ (p0.size : Int))) <|
  some v3
def internal_stringslite_CutPrefix (K : Nat) (p0 : ByteArray) (p1 : ByteArray) : Option (ByteArray × Bool) :=
  (internal_stringslite_HasPrefix K p0 p1).bind fun r2 =>
  bif (!r2) then
    some (p0, false)
  else
    let v3 := (p0.extract (Int.toNat (p1.size : Int)) (Int.toNat (p0.size : Int)))
    gd ((0 : Int) ≤ (p1.size : Int) ∧ (p1.size : Int) ≤ (p0.size : Int) ∧ (p0.size : Int) ≤ (p0.size : Int)) <|
    some (v3, true)
def strings_CutPrefix (K : Nat) (p0 : ByteArray) (p1 : ByteArray) : Option (ByteArray × Bool) :=
  (internal_stringslite_CutPrefix K p0 p1).bind fun (r3, r4) =>
  some (r3, r4)
def score_reader_value_2.r0 (_K : Nat) (c0 : ByteArray) (_c1 : Int) (c2 : Int) (_c3 : List (ByteArray)) (_c4 : Bool) (next : Int → Int → Option ((Int) ⊕ (Int × Bool))) (x22 : Int) (x23 : Int) : Option ((Int) ⊕ (Int × Bool)) :=
  let v27 := (decide (x23 < c2))
  bif v27 then
    (
      let v30 := (sbyte c0 (Int.toNat x23))
      let v31 := (decide (v30 < 48))
      let v32 := (decide (v30 > 57))
      let v33 := (bif v31 then true else v32)
      gd ((0 : Int) ≤ x23 ∧ x23 < (c0.size : Int) ∧ ((!v31) = true → (0 : Int) ≤ x23) ∧ ((!v31) = true → x23 < (c0.size : Int))) <|
      bif v33 then
        some (.inr (0, true))
      else
        let v34 := (decide (x23 < 10))
        bif v34 then
          let v35 := (kwrap .i64 (10 * x22))
          let v36 := (kwrap .u8 (v30 - 48))
          let v37 := (kwrap .i64 v36)
          let v38 := (kwrap .i64 (v35 + v37))
          gd ((0 : Int) ≤ x23 ∧ x23 < (c0.size : Int)) <|
          some (.inl v38)
        else
          some (.inl x22) : Option ((Int) ⊕ (Int × Bool))).bind fun z => match z with
    | .inl x28 =>
      let v29 := (kwrap .i64 (x23 + 1))
      next x28 v29
    | .inr r =>
      some (.inr r)
  else
    some (.inl x22)
def score_reader_value_2.l0 (K : Nat) (c0 : ByteArray) (c1 : Int) (c2 : Int) (c3 : List (ByteArray)) (c4 : Bool) (n : Nat) : Int → Int → Option ((Int) ⊕ (Int × Bool)) := rounds (score_reader_value_2.r0 K c0 c1 c2 c3 c4) (fun _ _ => none) n
def score_reader_value_2 (K : Nat) (p0 : ByteArray) (p1 : Int) (p2 : List (ByteArray)) (p3 : Bool) : Option (Int × Bool) :=
  (score_reader_value_2.l0 K p0 p1 (p0.size : Int) p2 p3 K 0 0 : Option ((Int) ⊕ (Int × Bool))).bind fun z => match z with
  | .inl x12 =>
    let v13 := (beqs p0 (⟨#[]⟩ : ByteArray))
    let v14 := (decide ((p0.size : Int) > 10))
    let v15 := (bif v13 then true else v14)
    let v16 := (decide ((p0.size : Int) > 1))
    let v17 := ((sbyte p0 0) == 48)
    let v18 := (bif v16 then v17 else false)
    let v19 := (bif v15 then true else v18)
    let v20 := (decide (x12 > p1))
    let v21 := (bif v19 then true else v20)
    gd ((((!v15) && v16) = true → 0 < (p0.size : Int))) <|
    bif v21 then
      some (0, true)
    else
      some (x12, p3)
  | .inr r =>
    some r
def score_reader_sample (K : Nat) (p0 : List (ByteArray)) (p1 : Bool) : Option (Int × (List (ByteArray)) × Bool) :=
  (score_reader_word_2 K p0 p1).bind fun (r12, r13, r14) =>
  (strings_CutPrefix K r12 (⟨#[45]⟩ : ByteArray)).bind fun (r15, r16) =>
  bif r16 then
    (score_reader_value_2 K r15 32768 r13 r14).bind fun (r19, r20) =>
    let v21 := (kwrap .i16 (kwrap .i64 (0 - r19)))
    some (v21, r13, r20)
  else
    (score_reader_value_2 K r15 32767 r13 r14).bind fun (r22, r23) =>
    some ((kwrap .i16 r22), r13, r23)
def score_reader_number_2 (K : Nat) (p0 : Int) (p1 : List (ByteArray)) (p2 : Bool) : Option (Int × (List (ByteArray)) × Bool) :=
  (score_reader_word_2 K p1 p2).bind fun (r6, r7, r8) =>
  (score_reader_value_2 K r6 p0 r7 r8).bind fun (r9, r10) =>
  some (r9, r7, r10)
def score_reader_tone_2.r0 (K : Nat) (c0 : Int) (c1 : Int) (c2 : Int) (c3 : Int) (_c4 : List (ByteArray)) (_c5 : Bool) (next : Int → List (Int) → Option ((List (Int)))) (x68 : Int) (x69 : List (Int)) : Option ((List (Int))) :=
  let v78 := (decide (x68 < c3))
  bif v78 then
    let v82 := (kwrap .i64 (x68 * c1))
    (wave_Sine K v82 c2).bind fun (r83, _r84) =>
    (fix_Mul15 K (kwrap .i32 c0) r83).bind fun r85 =>
    let v86 := (List.set x69 (Int.toNat x68) (kwrap .i16 r85))
    gd ((0 : Int) ≤ x68 ∧ x68 < (x69.length : Int) ∧ (Int.toNat x68) < x69.length) <|
    let v87 := (kwrap .i64 (x68 + 1))
    next v87 v86
  else
    some x69
def score_reader_tone_2.l0 (K : Nat) (c0 : Int) (c1 : Int) (c2 : Int) (c3 : Int) (c4 : List (ByteArray)) (c5 : Bool) (n : Nat) : Int → List (Int) → Option ((List (Int))) := rounds (score_reader_tone_2.r0 K c0 c1 c2 c3 c4 c5) (fun _ _ => none) n
def score_reader_tone_2 (K : Nat) (p0 : List (ByteArray)) (p1 : Bool) : Option (((List (ByteArray))) ⊕ ((List (Int)) × (List (ByteArray)) × Bool)) :=
  (score_reader_number_2 K 32767 p0 p1).bind fun (r30, r31, r32) =>
  (score_reader_number_2 K 65535 r31 r32).bind fun (r33, r34, r35) =>
  (score_reader_number_2 K 65535 r34 r35).bind fun (r36, r37, r38) =>
  (score_reader_number_2 K 4096 r37 r38).bind fun (r39, r40, r41) =>
  let v42 := (bif r41 then true else (r36 == 0))
  bif v42 then
    some (.inl r40)
  else
    let v43 := (List.replicate (Int.toNat r39) (0 : Int))
    gd ((0 : Int) ≤ r39 ∧ r39 ≤ r39 ∧ r39 * 2 ≤ 140737488355328) <|
    let v44 := (v43.length : Int)
    (score_reader_tone_2.l0 K r30 r33 r36 v44 r40 r41 K 0 v43 : Option ((List (Int)))).bind fun x61 =>
      some (.inr (x61, r40, r41))
def score_reader_digit_2 (K : Nat) (p0 : Int) (_p1 : List (ByteArray)) (p2 : Bool) : Option (Int × Bool) :=
  (strings_IndexByte K (⟨#[48, 49, 50, 51, 52, 53, 54, 55, 56, 57, 97, 98, 99, 100, 101, 102]⟩ : ByteArray) p0).bind fun r2 =>
  let v3 := (decide (r2 < 0))
  bif v3 then
    some (0, true)
  else
    some ((kwrap .u8 r2), p2)
def score_reader_bytes_2.r0 (K : Nat) (c0 : ByteArray) (c1 : List (ByteArray)) (next : Int → Bool → List (Int) → Option (Bool × (List (Int)))) (x67 : Int) (x68 : Bool) (x69 : List (Int)) : Option (Bool × (List (Int))) :=
  let v81 := (decide (x67 < (c0.size : Int)))
  bif v81 then
    let v86 := (sbyte c0 (Int.toNat x67))
    gd ((0 : Int) ≤ x67 ∧ x67 < (c0.size : Int)) <|
    (score_reader_digit_2 K v86 c1 x68).bind fun (r87, r88) =>
    let v89 := (kshl .u8 r87 4)
    let v90 := (kwrap .i64 (x67 + 1))
    let v91 := (sbyte c0 (Int.toNat v90))
    gd ((0 : Int) ≤ v90 ∧ v90 < (c0.size : Int)) <|
    (score_reader_digit_2 K v91 c1 r88).bind fun (r92, r93) =>
    let v94 := (kor .u8 v89 r92)
    let v95 := (x69 ++ [v94])
    gd (((x69.length : Int) + ([v94].length : Int)) * 1 ≤ 70368744177664) <|
    let v96 := (kwrap .i64 (x67 + 2))
    next v96 r93 v95
  else
    some (x68, x69)
def score_reader_bytes_2.l0 (K : Nat) (c0 : ByteArray) (c1 : List (ByteArray)) (n : Nat) : Int → Bool → List (Int) → Option (Bool × (List (Int))) := rounds (score_reader_bytes_2.r0 K c0 c1) (fun _ _ _ => none) n
def score_reader_bytes_2 (K : Nat) (p0 : List (ByteArray)) (p1 : Bool) : Option (((List (ByteArray)) × Bool) ⊕ ((List (Int)) × (List (ByteArray)) × Bool)) :=
  (score_reader_word_2 K p0 p1).bind fun (r28, r29, r30) =>
  let v31 := (beqs r28 (⟨#[45]⟩ : ByteArray))
  bif v31 then
    some (.inl (r29, r30))
  else
    let v32 := (beqs r28 (⟨#[]⟩ : ByteArray))
    let v33 := (Int.tmod (r28.size : Int) 2)
    let v34 := (bif v32 then true else (v33 == 1))
    bif v34 then
      some (.inl (r29, true))
    else
      (score_reader_bytes_2.l0 K r28 r29 K 0 r30 ([] : List (Int)) : Option (Bool × (List (Int)))).bind fun (x57, x58) =>
        some (.inr (x58, r29, x57))
def score_reader_slot_1 (K : Nat) (p0 : Int) (p1 : Int) (p2 : List (ByteArray)) (p3 : List (ByteArray)) (p4 : Bool) : Option (Int × Bool) :=
  let v3 := (Kd.nth (.str) p2 (Int.toNat p0))
  gd ((0 : Int) ≤ p0 ∧ p0 < (p2.length : Int)) <|
  (score_reader_value_2 K v3 p1 p3 p4).bind fun (r4, r5) =>
  some (r4, r5)
def score_reader_slot (K : Nat) (p0 : List (ByteArray)) (p1 : Bool) : Option (Int × Int × Int × Int × (List (ByteArray)) × Bool) :=
  (score_reader_word_2 K p0 p1).bind fun (r13, r14, r15) =>
  let v16 := (beqs r13 (⟨#[46]⟩ : ByteArray))
  bif v16 then
    some (0, 0, 0, 0, r14, r15)
  else
    let v17 := (beqs r13 (⟨#[120]⟩ : ByteArray))
    bif v17 then
      some (1, 0, 0, 0, r14, r15)
    else
      let v18 := (beqs r13 (⟨#[97]⟩ : ByteArray))
      bif v18 then
        some (0, 1, 0, 0, r14, r15)
      else
        (strings_Split K r13 (⟨#[47]⟩ : ByteArray)).bind fun z => match z with
        | .inl _ =>
          some (0, 0, 0, 0, r14, true)
        | .inr r19 =>
          let v20 := ((r19.length : Int) != 4)
          bif v20 then
            some (0, 0, 0, 0, r14, true)
          else
            (score_reader_slot_1 K 0 2147483647 r19 r14 r15).bind fun (r21, r22) =>
            (score_reader_slot_1 K 1 2147483647 r19 r14 r22).bind fun (r23, r24) =>
            (score_reader_slot_1 K 2 2147483647 r19 r14 r24).bind fun (r25, r26) =>
            let v27 := (Kd.nth (.str) r19 3)
            gd (3 < (r19.length : Int)) <|
            (score_reader_value_2 K v27 4294967295 r14 r26).bind fun (r28, r29) =>
            some (r21, r23, r25, (kwrap .u32 r28), r14, r29)
def score_reader_storm_2.r0 (K : Nat) (c0 : Int) (c1 : Int) (_c2 : List (ByteArray)) (_c3 : Bool) (next : Int → List ((Int × (Int × (List (Int) × (List (Int) × (List (Int) × List ((Int × (Int × (Int × Int)))))))))) → Option ((List ((Int × (Int × (List (Int) × (List (Int) × (List (Int) × List ((Int × (Int × (Int × Int))))))))))))) (x77 : Int) (x78 : List ((Int × (Int × (List (Int) × (List (Int) × (List (Int) × List ((Int × (Int × (Int × Int))))))))))) : Option ((List ((Int × (Int × (List (Int) × (List (Int) × (List (Int) × List ((Int × (Int × (Int × Int)))))))))))) :=
  let v81 := (decide (x77 < c1))
  bif v81 then
    (weather_Weather_Row K c0).bind fun _ =>
    let v82 := [(4, (0, (([] : List (Int)), (([] : List (Int)), (([] : List (Int)), ([] : List ((Int × (Int × (Int × Int))))))))))]
    gd (((x78.length : Int) + (v82.length : Int)) * 112 ≤ 70368744177664) <|
    let v83 := (kwrap .i64 (x77 + 1))
    next v83 (x78 ++ v82)
  else
    some x78
def score_reader_storm_2.l0 (K : Nat) (c0 : Int) (c1 : Int) (c2 : List (ByteArray)) (c3 : Bool) (n : Nat) : Int → List ((Int × (Int × (List (Int) × (List (Int) × (List (Int) × List ((Int × (Int × (Int × Int)))))))))) → Option ((List ((Int × (Int × (List (Int) × (List (Int) × (List (Int) × List ((Int × (Int × (Int × Int)))))))))))) := rounds (score_reader_storm_2.r0 K c0 c1 c2 c3) (fun _ _ => none) n
def score_reader_storm_2.r1 (K : Nat) (c0 : Int) (c1 : Int) (_c2 : List (ByteArray)) (_c3 : Bool) (c4 : Int) (c5 : Int) (c6 : Int) (c7 : Int) (next : Int → Int → Bool → List ((Int × (Int × (List (Int) × (List (Int) × (List (Int) × List ((Int × (Int × (Int × Int)))))))))) → Option ((List ((Int × (Int × (List (Int) × (List (Int) × (List (Int) × List ((Int × (Int × (Int × Int))))))))))))) (x112 : Int) (x113 : Int) (x114 : Bool) (x115 : List ((Int × (Int × (List (Int) × (List (Int) × (List (Int) × List ((Int × (Int × (Int × Int))))))))))) : Option ((List ((Int × (Int × (List (Int) × (List (Int) × (List (Int) × List ((Int × (Int × (Int × Int)))))))))))) :=
  let v126 := (decide (x112 < c1))
  bif v126 then
    (weather_Weather_Row_2 K c0 c4 c5 c6 c7 x113 x114).bind fun (r130, r131, r132) =>
    let v133 := [(4, (0, (([] : List (Int)), (([] : List (Int)), (([] : List (Int)), r130)))))]
    let v134 := (x115 ++ v133)
    gd (((x115.length : Int) + (v133.length : Int)) * 112 ≤ 70368744177664) <|
    let v135 := (kwrap .i64 (x112 + 1))
    next v135 r131 r132 v134
  else
    some x115
def score_reader_storm_2.l1 (K : Nat) (c0 : Int) (c1 : Int) (c2 : List (ByteArray)) (c3 : Bool) (c4 : Int) (c5 : Int) (c6 : Int) (c7 : Int) (n : Nat) : Int → Int → Bool → List ((Int × (Int × (List (Int) × (List (Int) × (List (Int) × List ((Int × (Int × (Int × Int)))))))))) → Option ((List ((Int × (Int × (List (Int) × (List (Int) × (List (Int) × List ((Int × (Int × (Int × Int)))))))))))) := rounds (score_reader_storm_2.r1 K c0 c1 c2 c3 c4 c5 c6 c7) (fun _ _ _ _ => none) n
def score_reader_storm_2 (K : Nat) (p0 : List (ByteArray)) (p1 : Bool) : Option (((List (ByteArray))) ⊕ ((List ((Int × (Int × (List (Int) × (List (Int) × (List (Int) × List ((Int × (Int × (Int × Int))))))))))) × (List (ByteArray)) × Bool)) :=
  (score_reader_number_2 K 4294967295 p0 p1).bind fun (r49, r50, r51) =>
  (score_reader_number_2 K 65536 r50 r51).bind fun (r52, r53, r54) =>
  (score_reader_number_2 K 65536 r53 r54).bind fun (r55, r56, r57) =>
  (score_reader_number_2 K 65536 r56 r57).bind fun (r58, r59, r60) =>
  (score_reader_number_2 K 65536 r59 r60).bind fun (r61, r62, r63) =>
  (score_reader_number_2 K 64 r62 r63).bind fun (r64, r65, r66) =>
  (score_reader_number_2 K 16 r65 r66).bind fun (r67, r68, r69) =>
  (weather_New K r52 r55 r58 r61 (kwrap .u32 r49)).bind fun z => match z with
  | .inl r70 =>
    let v71 := (bif r69 then true else (r70 != 0))
    bif v71 then
      some (.inl r68)
    else
      (score_reader_storm_2.l0 K r67 r64 r68 r69 K 0 ([] : List ((Int × (Int × (List (Int) × (List (Int) × (List (Int) × List ((Int × (Int × (Int × Int))))))))))) : Option ((List ((Int × (Int × (List (Int) × (List (Int) × (List (Int) × List ((Int × (Int × (Int × Int))))))))))))).bind fun x76 =>
        some (.inr (x76, r68, r69))
  | .inr _ =>
    let v84 := (bif r69 then true else false)
    bif v84 then
      some (.inl r68)
    else
      (score_reader_storm_2.l1 K r67 r64 r68 r69 r52 r55 r58 r61 K 0 (kwrap .u32 r49) false ([] : List ((Int × (Int × (List (Int) × (List (Int) × (List (Int) × List ((Int × (Int × (Int × Int))))))))))) : Option ((List ((Int × (Int × (List (Int) × (List (Int) × (List (Int) × List ((Int × (Int × (Int × Int))))))))))))).bind fun x105 =>
        some (.inr (x105, r68, r69))
def score_reader_steps_2.r0 (K : Nat)  (next : List (ByteArray) → Bool → List (Int) → Option ((List (ByteArray)) × Bool × (List (Int)))) (x498 : List (ByteArray)) (x499 : Bool) (x500 : List (Int)) : Option ((List (ByteArray)) × Bool × (List (Int))) :=
  let v507 := (decide ((x498.length : Int) > 0))
  bif v507 then
    (score_reader_sample K x498 x499).bind fun (r508, r509, r510) =>
    let v511 := (x500 ++ [r508])
    gd (((x500.length : Int) + ([r508].length : Int)) * 2 ≤ 70368744177664) <|
    next r509 r510 v511
  else
    some (x498, x499, x500)
def score_reader_steps_2.l0 (K : Nat)  (n : Nat) : List (ByteArray) → Bool → List (Int) → Option ((List (ByteArray)) × Bool × (List (Int))) := rounds (score_reader_steps_2.r0 K) (fun _ _ _ => none) n
def score_reader_steps_2.r1 (K : Nat)  (next : List (ByteArray) → Bool → List ((Int × (Int × (Int × Int)))) → Option ((List (ByteArray)) × Bool × (List ((Int × (Int × (Int × Int))))))) (x743 : List (ByteArray)) (x744 : Bool) (x745 : List ((Int × (Int × (Int × Int))))) : Option ((List (ByteArray)) × Bool × (List ((Int × (Int × (Int × Int)))))) :=
  let v755 := (decide ((x743.length : Int) > 0))
  bif v755 then
    (score_reader_slot K x743 x744).bind fun (r756, r757, r758, r759, r760, r761) =>
    let v762 := [(r756, (r757, (r758, r759)))]
    let v763 := (x745 ++ v762)
    gd (((x745.length : Int) + (v762.length : Int)) * 32 ≤ 70368744177664) <|
    next r760 r761 v763
  else
    some (x743, x744, x745)
def score_reader_steps_2.l1 (K : Nat)  (n : Nat) : List (ByteArray) → Bool → List ((Int × (Int × (Int × Int)))) → Option ((List (ByteArray)) × Bool × (List ((Int × (Int × (Int × Int)))))) := rounds (score_reader_steps_2.r1 K) (fun _ _ _ => none) n
def score_reader_steps_2 (K : Nat) (p0 : List (ByteArray)) (p1 : Bool) : Option (((List (ByteArray))) ⊕ ((List ((Int × (Int × (List (Int) × (List (Int) × (List (Int) × List ((Int × (Int × (Int × Int))))))))))) × (List (ByteArray)) × Bool)) :=
  (score_reader_word_2 K p0 p1).bind fun (r343, r344, r345) =>
  let v412 := (beqs r343 (⟨#[115, 97, 109, 112, 108, 101, 115]⟩ : ByteArray))
  bif v412 then
    (score_reader_steps_2.l0 K K r344 r345 ([] : List (Int)) : Option ((List (ByteArray)) × Bool × (List (Int)))).bind fun (x491, x492, x493) =>
      let v494 := [(1, (0, (x493, (([] : List (Int)), (([] : List (Int)), ([] : List ((Int × (Int × (Int × Int))))))))))]
      some (.inr (v494, x491, x492))
  else
    let v512 := (beqs r343 (⟨#[116, 111, 110, 101]⟩ : ByteArray))
    bif v512 then
      (score_reader_tone_2 K r344 r345).bind fun z => match z with
      | .inl r564 =>
        let v568 := [(1, (0, (([] : List (Int)), (([] : List (Int)), (([] : List (Int)), ([] : List ((Int × (Int × (Int × Int))))))))))]
        some (.inr (v568, r564, true))
      | .inr (r565, r566, r567) =>
        let v569 := [(1, (0, (r565, (([] : List (Int)), (([] : List (Int)), ([] : List ((Int × (Int × (Int × Int))))))))))]
        some (.inr (v569, r566, r567))
    else
      let v570 := (beqs r343 (⟨#[99, 97, 108, 108]⟩ : ByteArray))
      bif v570 then
        (score_reader_number_2 K 99 r344 r345).bind fun (r618, r619, r620) =>
        let v621 := [(2, (r618, (([] : List (Int)), (([] : List (Int)), (([] : List (Int)), ([] : List ((Int × (Int × (Int × Int))))))))))]
        some (.inr (v621, r619, r620))
      else
        let v622 := (beqs r343 (⟨#[101, 110, 100, 115]⟩ : ByteArray))
        bif v622 then
          (score_reader_bytes_2 K r344 r345).bind fun z => match z with
          | .inl (r666, r667) =>
            (score_reader_bytes_2 K r666 r667).bind fun z => match z with
            | .inl (r671, r672) =>
              let v676 := [(3, (0, (([] : List (Int)), (([] : List (Int)), (([] : List (Int)), ([] : List ((Int × (Int × (Int × Int))))))))))]
              some (.inr (v676, r671, r672))
            | .inr (r673, r674, r675) =>
              let v677 := [(3, (0, (([] : List (Int)), (([] : List (Int)), (r673, ([] : List ((Int × (Int × (Int × Int))))))))))]
              some (.inr (v677, r674, r675))
          | .inr (r668, r669, r670) =>
            (score_reader_bytes_2 K r669 r670).bind fun z => match z with
            | .inl (r678, r679) =>
              let v683 := [(3, (0, (([] : List (Int)), (r668, (([] : List (Int)), ([] : List ((Int × (Int × (Int × Int))))))))))]
              some (.inr (v683, r678, r679))
            | .inr (r680, r681, r682) =>
              let v684 := [(3, (0, (([] : List (Int)), (r668, (r680, ([] : List ((Int × (Int × (Int × Int))))))))))]
              some (.inr (v684, r681, r682))
        else
          let v685 := (beqs r343 (⟨#[105, 110, 116, 101, 114, 118, 97, 108]⟩ : ByteArray))
          (
            bif v685 then
              (score_reader_steps_2.l1 K K r344 r345 ([] : List ((Int × (Int × (Int × Int))))) : Option ((List (ByteArray)) × Bool × (List ((Int × (Int × (Int × Int))))))).bind fun (x734, x735, x736) =>
                some (.inl (x734, x735, 4, x736))
            else
              let v764 := (beqs r343 (⟨#[115, 116, 111, 114, 109]⟩ : ByteArray))
              bif v764 then
                (score_reader_storm_2 K r344 r345).bind fun z => match z with
                | .inl r765 =>
                  some (.inr (.inl r765))
                | .inr (r766, r767, r768) =>
                  some (.inr (.inr (r766, r767, r768)))
              else
                some (.inl (r344, true, 0, ([] : List ((Int × (Int × (Int × Int))))))) : Option (((List (ByteArray)) × Bool × Int × (List ((Int × (Int × (Int × Int)))))) ⊕ (((List (ByteArray))) ⊕ ((List ((Int × (Int × (List (Int) × (List (Int) × (List (Int) × List ((Int × (Int × (Int × Int))))))))))) × (List (ByteArray)) × Bool)))).bind fun z => match z with
          | .inl (x711, x712, x713, x714) =>
            let v715 := [(x713, (0, (([] : List (Int)), (([] : List (Int)), (([] : List (Int)), x714)))))]
            some (.inr (v715, x711, x712))
          | .inr r =>
            some r
def score_Parse.r0 (K : Nat)  (next : ByteArray → Int → List ((Int × (Int × (List (Int) × (List (Int) × (List (Int) × List ((Int × (Int × (Int × Int)))))))))) → Option (((List ((Int × (Int × (List (Int) × (List (Int) × (List (Int) × List ((Int × (Int × (Int × Int)))))))))))) ⊕ ((Int × Int) ⊕ ((List ((Int × (Int × (List (Int) × (List (Int) × (List (Int) × List ((Int × (Int × (Int × Int))))))))))))))) (x76 : ByteArray) (x77 : Int) (x78 : List ((Int × (Int × (List (Int) × (List (Int) × (List (Int) × List ((Int × (Int × (Int × Int))))))))))) : Option (((List ((Int × (Int × (List (Int) × (List (Int) × (List (Int) × List ((Int × (Int × (Int × Int)))))))))))) ⊕ ((Int × Int) ⊕ ((List ((Int × (Int × (List (Int) × (List (Int) × (List (Int) × List ((Int × (Int × (Int × Int)))))))))))))) :=
  let v94 := (!(beqs x76 (⟨#[]⟩ : ByteArray)))
  bif v94 then
    (
      (strings_Cut K x76 (⟨#[10]⟩ : ByteArray)).bind fun (r108, r109, r110) =>
      let v111 := (beqs r108 (⟨#[]⟩ : ByteArray))
      let v112 := (sbyte r108 0)
      let v113 := (bif v111 then true else (v112 == 35))
      let v114 := (bif r110 then v113 else false)
      gd (((r110 && (!v111)) = true → 0 < (r108.size : Int))) <|
      bif v114 then
        some (.inl (r109, x78))
      else
        (strings_Split K r108 (⟨#[32]⟩ : ByteArray)).bind fun z => match z with
        | .inl _ =>
          (score_reader_steps K false).bind fun z => match z with
          | .inl _ =>
            let v118 := (x78 ++ ([] : List ((Int × (Int × (List (Int) × (List (Int) × (List (Int) × List ((Int × (Int × (Int × Int))))))))))))
            gd (((x78.length : Int) + (([] : List ((Int × (Int × (List (Int) × (List (Int) × (List (Int) × List ((Int × (Int × (Int × Int))))))))))).length : Int)) * 112 ≤ 70368744177664) <|
            let v119 := (bif (!r110) then true else true)
            let v120 := (bif v119 then true else false)
            let v121 := (v118.length : Int)
            let v122 := (decide (v121 > 4096))
            let v123 := (bif v120 then true else v122)
            bif v123 then
              some (.inr (.inl (x77, 310)))
            else
              some (.inl (r109, v118))
          | .inr (r116, r117) =>
            gd (((x78.length : Int) + (r116.length : Int)) * 112 ≤ 70368744177664) <|
            let v124 := (bif (!r110) then true else r117)
            let v125 := (bif v124 then true else false)
            let v126 := ((x78 ++ r116).length : Int)
            let v127 := (decide (v126 > 4096))
            let v128 := (bif v125 then true else v127)
            bif v128 then
              some (.inr (.inl (x77, 310)))
            else
              some (.inl (r109, (x78 ++ r116)))
        | .inr r115 =>
          (score_reader_steps_2 K r115 false).bind fun z => match z with
          | .inl r129 =>
            let v133 := (x78 ++ ([] : List ((Int × (Int × (List (Int) × (List (Int) × (List (Int) × List ((Int × (Int × (Int × Int))))))))))))
            gd (((x78.length : Int) + (([] : List ((Int × (Int × (List (Int) × (List (Int) × (List (Int) × List ((Int × (Int × (Int × Int))))))))))).length : Int)) * 112 ≤ 70368744177664) <|
            let v134 := (bif (!r110) then true else true)
            let v135 := (decide ((r129.length : Int) > 0))
            let v136 := (bif v134 then true else v135)
            let v137 := (v133.length : Int)
            let v138 := (decide (v137 > 4096))
            let v139 := (bif v136 then true else v138)
            bif v139 then
              some (.inr (.inl (x77, 310)))
            else
              some (.inl (r109, v133))
          | .inr (r130, r131, r132) =>
            gd (((x78.length : Int) + (r130.length : Int)) * 112 ≤ 70368744177664) <|
            let v140 := (bif (!r110) then true else r132)
            let v141 := (decide ((r131.length : Int) > 0))
            let v142 := (bif v140 then true else v141)
            let v143 := ((x78 ++ r130).length : Int)
            let v144 := (decide (v143 > 4096))
            let v145 := (bif v142 then true else v144)
            bif v145 then
              some (.inr (.inl (x77, 310)))
            else
              some (.inl (r109, (x78 ++ r130))) : Option ((ByteArray × (List ((Int × (Int × (List (Int) × (List (Int) × (List (Int) × List ((Int × (Int × (Int × Int)))))))))))) ⊕ ((Int × Int) ⊕ ((List ((Int × (Int × (List (Int) × (List (Int) × (List (Int) × List ((Int × (Int × (Int × Int))))))))))))))).bind fun z => match z with
    | .inl (x105, x106) =>
      let v107 := (kwrap .i64 (x77 + 1))
      next x105 v107 x106
    | .inr r =>
      some (.inr r)
  else
    some (.inl x78)
def score_Parse.l0 (K : Nat)  (n : Nat) : ByteArray → Int → List ((Int × (Int × (List (Int) × (List (Int) × (List (Int) × List ((Int × (Int × (Int × Int)))))))))) → Option (((List ((Int × (Int × (List (Int) × (List (Int) × (List (Int) × List ((Int × (Int × (Int × Int)))))))))))) ⊕ ((Int × Int) ⊕ ((List ((Int × (Int × (List (Int) × (List (Int) × (List (Int) × List ((Int × (Int × (Int × Int)))))))))))))) := rounds (score_Parse.r0 K) (fun _ _ _ => none) n
def score_Parse (K : Nat) (p0 : ByteArray) : Option ((Int × Int) ⊕ ((List ((Int × (Int × (List (Int) × (List (Int) × (List (Int) × List ((Int × (Int × (Int × Int))))))))))))) :=
  let v32 := (decide ((p0.size : Int) > 65536))
  bif v32 then
    some (.inl (0, 2))
  else
    (score_Parse.l0 K K p0 1 ([] : List ((Int × (Int × (List (Int) × (List (Int) × (List (Int) × List ((Int × (Int × (Int × Int))))))))))) : Option (((List ((Int × (Int × (List (Int) × (List (Int) × (List (Int) × List ((Int × (Int × (Int × Int)))))))))))) ⊕ ((Int × Int) ⊕ ((List ((Int × (Int × (List (Int) × (List (Int) × (List (Int) × List ((Int × (Int × (Int × Int))))))))))))))).bind fun z => match z with
    | .inl x63 =>
      some (.inr x63)
    | .inr r =>
      some r
def psalterylaw34_alive (K : Nat)  : Option (Bool) :=
  (score_Parse K (⟨#[35, 32, 110, 111, 119, 10, 105, 110, 116, 101, 114, 118, 97, 108, 32, 46, 32, 120, 32, 97, 32, 50, 47, 48, 47, 55, 55, 47, 53, 10, 116, 111, 110, 101, 32, 49, 48, 48, 32, 49, 32, 52, 32, 53, 10]⟩ : ByteArray)).bind fun z => match z with
  | .inl (r12, r13) =>
    (score_Parse K (⟨#[99, 97, 108, 108, 32, 49, 10, 99, 97, 108, 108, 32, 120, 10]⟩ : ByteArray)).bind fun z => match z with
    | .inl (_r15, _r16) =>
      let v18 := (bif (r13 == 0) then (r12 == 0) else false)
      let v19 := (bif v18 then false else false)
      bif v19 then
        none
      else
        some false
    | .inr _r17 =>
      let v20 := (bif (r13 == 0) then (r12 == 0) else false)
      let v21 := (bif v20 then false else false)
      bif v21 then
        none
      else
        some false
  | .inr r14 =>
    (score_Parse K (⟨#[99, 97, 108, 108, 32, 49, 10, 99, 97, 108, 108, 32, 120, 10]⟩ : ByteArray)).bind fun z => match z with
    | .inl (r22, r23) =>
      (
        let v26 := ((r14.length : Int) == 2)
        bif v26 then
          let v27 := (Kd.nth (.pair (.int .i64) (.pair (.int .i64) (.pair (.slice (.int .i16)) (.pair (.slice (.int .u8)) (.pair (.slice (.int .u8)) (.slice (.pair (.int .i64) (.pair (.int .i64) (.pair (.int .i64) (.int .u32)))))))))) r14 0)
          gd (0 < (r14.length : Int)) <|
          let v28 := (v27.2.2.2.2.2.length : Int)
          let v29 := (Kd.nth (.pair (.int .i64) (.pair (.int .i64) (.pair (.int .i64) (.int .u32)))) v27.2.2.2.2.2 3)
          let v30 := (v29.2.2.1 == 77)
          let v31 := (bif (v28 == 4) then v30 else false)
          let v32 := (Kd.nth (.pair (.int .i64) (.pair (.int .i64) (.pair (.slice (.int .i16)) (.pair (.slice (.int .u8)) (.pair (.slice (.int .u8)) (.slice (.pair (.int .i64) (.pair (.int .i64) (.pair (.int .i64) (.int .u32)))))))))) r14 1)
          let v33 := (v32.2.2.1.length : Int)
          let v34 := (bif v31 then (v33 == 5) else false)
          let v35 := (bif v34 then (r22 == 2) else false)
          let v36 := (bif v35 then (r23 == 310) else false)
          gd (((v28 == 4) = true → 0 < (r14.length : Int)) ∧ ((v28 == 4) = true → 3 < (v27.2.2.2.2.2.length : Int)) ∧ (v31 = true → 1 < (r14.length : Int))) <|
          some v36
        else
          some false : Option (Bool)).bind fun x25 =>
        some x25
    | .inr _r24 =>
      (
        let v38 := ((r14.length : Int) == 2)
        bif v38 then
          let v39 := (Kd.nth (.pair (.int .i64) (.pair (.int .i64) (.pair (.slice (.int .i16)) (.pair (.slice (.int .u8)) (.pair (.slice (.int .u8)) (.slice (.pair (.int .i64) (.pair (.int .i64) (.pair (.int .i64) (.int .u32)))))))))) r14 0)
          gd (0 < (r14.length : Int)) <|
          let v40 := (v39.2.2.2.2.2.length : Int)
          let v41 := (Kd.nth (.pair (.int .i64) (.pair (.int .i64) (.pair (.int .i64) (.int .u32)))) v39.2.2.2.2.2 3)
          let v42 := (v41.2.2.1 == 77)
          let v43 := (bif (v40 == 4) then v42 else false)
          let v44 := (Kd.nth (.pair (.int .i64) (.pair (.int .i64) (.pair (.slice (.int .i16)) (.pair (.slice (.int .u8)) (.pair (.slice (.int .u8)) (.slice (.pair (.int .i64) (.pair (.int .i64) (.pair (.int .i64) (.int .u32)))))))))) r14 1)
          let v45 := (v44.2.2.1.length : Int)
          let v46 := (bif v43 then (v45 == 5) else false)
          let v47 := (bif v46 then false else false)
          let v48 := (bif v47 then false else false)
          gd (((v40 == 4) = true → 0 < (r14.length : Int)) ∧ ((v40 == 4) = true → 3 < (v39.2.2.2.2.2.length : Int)) ∧ (v43 = true → 1 < (r14.length : Int))) <|
          some v48
        else
          some false : Option (Bool)).bind fun x37 =>
        some x37
def psalteryref30_Far.r0 (_K : Nat) (c0 : List ((Int × (Int × (List (Int) × (List (Int) × (List (Int) × List ((Int × (Int × (Int × Int))))))))))) (next : Int → Option ((Unit) ⊕ (Bool))) (x6 : Int) : Option ((Unit) ⊕ (Bool)) :=
  let v8 := (decide (x6 < (c0.length : Int)))
  bif v8 then
    let v9 := (Kd.nth (.pair (.int .i64) (.pair (.int .i64) (.pair (.slice (.int .i16)) (.pair (.slice (.int .u8)) (.pair (.slice (.int .u8)) (.slice (.pair (.int .i64) (.pair (.int .i64) (.pair (.int .i64) (.int .u32)))))))))) c0 (Int.toNat x6))
    gd ((0 : Int) ≤ x6 ∧ x6 < (c0.length : Int)) <|
    let v10 := (v9.2.2.1.length : Int)
    let v11 := (decide (v10 > 5000))
    let v12 := (v9.2.2.2.1.length : Int)
    let v13 := (decide (v12 > 300))
    let v14 := (bif v11 then true else v13)
    let v15 := (v9.2.2.2.2.1.length : Int)
    let v16 := (decide (v15 > 300))
    let v17 := (bif v14 then true else v16)
    let v18 := (v9.2.2.2.2.2.length : Int)
    let v19 := (decide (v18 > 40))
    let v20 := (bif v17 then true else v19)
    bif v20 then
      some (.inr true)
    else
      let v21 := (kwrap .i64 (x6 + 1))
      next v21
  else
    some (.inl ())
def psalteryref30_Far.l0 (K : Nat) (c0 : List ((Int × (Int × (List (Int) × (List (Int) × (List (Int) × List ((Int × (Int × (Int × Int))))))))))) (n : Nat) : Int → Option ((Unit) ⊕ (Bool)) := rounds (psalteryref30_Far.r0 K c0) (fun _ => none) n
def psalteryref30_Far (K : Nat) (p0 : List ((Int × (Int × (List (Int) × (List (Int) × (List (Int) × List ((Int × (Int × (Int × Int))))))))))) : Option (Bool) :=
  let v3 := (decide ((p0.length : Int) > 60))
  bif v3 then
    some true
  else
    (psalteryref30_Far.l0 K p0 K 0 : Option ((Unit) ⊕ (Bool))).bind fun z => match z with
    | .inl _ =>
      some false
    | .inr r =>
      some r
def psalterylaw34_far.r0 (_K : Nat) (c0 : List ((Int × (Int × (List (Int) × (List (Int) × (List (Int) × List ((Int × (Int × (Int × Int))))))))))) (next : Int → Int → Option (Int)) (x14 : Int) (x15 : Int) : Option (Int) :=
  let v18 := (decide (x15 < (c0.length : Int)))
  bif v18 then
    let v19 := (Kd.nth (.pair (.int .i64) (.pair (.int .i64) (.pair (.slice (.int .i16)) (.pair (.slice (.int .u8)) (.pair (.slice (.int .u8)) (.slice (.pair (.int .i64) (.pair (.int .i64) (.pair (.int .i64) (.int .u32)))))))))) c0 (Int.toNat x15))
    let v20 := (v19.2.2.1.length : Int)
    let v21 := (kwrap .i64 (x14 + v20))
    gd ((0 : Int) ≤ x15 ∧ x15 < (c0.length : Int)) <|
    let v22 := (kwrap .i64 (x15 + 1))
    next v21 v22
  else
    some x14
def psalterylaw34_far.l0 (K : Nat) (c0 : List ((Int × (Int × (List (Int) × (List (Int) × (List (Int) × List ((Int × (Int × (Int × Int))))))))))) (n : Nat) : Int → Int → Option (Int) := rounds (psalterylaw34_far.r0 K c0) (fun _ _ => none) n
def psalterylaw34_far (K : Nat) (p0 : List ((Int × (Int × (List (Int) × (List (Int) × (List (Int) × List ((Int × (Int × (Int × Int))))))))))) : Option (Bool) :=
  (psalteryref30_Far K p0).bind fun r7 =>
  bif r7 then
    some true
  else
    (psalterylaw34_far.l0 K p0 K 0 0 : Option (Int)).bind fun x12 =>
      let v13 := (decide (x12 > 3000))
      some v13
def psalterylaw30_Of.r0 (_K : Nat) (_c0 : Int) (_c1 : Int) (_c2 : List (Int)) (_c3 : List (Int)) (_c4 : List (Int)) (c5 : List ((Int × (Int × (Int × Int))))) (next : Int → List ((Int × (Int × (Int × Int)))) → Option ((List ((Int × (Int × (Int × Int))))))) (x11 : Int) (x12 : List ((Int × (Int × (Int × Int))))) : Option ((List ((Int × (Int × (Int × Int)))))) :=
  let v15 := (decide (x11 < (c5.length : Int)))
  bif v15 then
    let v16 := (Kd.nth (.pair (.int .i64) (.pair (.int .i64) (.pair (.int .i64) (.int .u32)))) c5 (Int.toNat x11))
    gd ((0 : Int) ≤ x11 ∧ x11 < (c5.length : Int)) <|
    let v17 := [(v16.1, (v16.2.1, (v16.2.2.1, v16.2.2.2)))]
    gd (((x12.length : Int) + (v17.length : Int)) * 32 ≤ 70368744177664) <|
    let v18 := (kwrap .i64 (x11 + 1))
    next v18 (x12 ++ v17)
  else
    some x12
def psalterylaw30_Of.l0 (K : Nat) (c0 : Int) (c1 : Int) (c2 : List (Int)) (c3 : List (Int)) (c4 : List (Int)) (c5 : List ((Int × (Int × (Int × Int))))) (n : Nat) : Int → List ((Int × (Int × (Int × Int)))) → Option ((List ((Int × (Int × (Int × Int)))))) := rounds (psalterylaw30_Of.r0 K c0 c1 c2 c3 c4 c5) (fun _ _ => none) n
def psalterylaw30_Of (K : Nat) (p0 : Int) (p1 : Int) (p2 : List (Int)) (p3 : List (Int)) (p4 : List (Int)) (p5 : List ((Int × (Int × (Int × Int))))) : Option ((List ((Int × (Int × (Int × Int)))))) :=
  (psalterylaw30_Of.l0 K p0 p1 p2 p3 p4 p5 K 0 ([] : List ((Int × (Int × (Int × Int))))) : Option ((List ((Int × (Int × (Int × Int))))))).bind fun x10 =>
    some x10
def psalterylaw34_of.r0 (K : Nat) (c0 : List ((Int × (Int × (List (Int) × (List (Int) × (List (Int) × List ((Int × (Int × (Int × Int))))))))))) (next : Int → List ((Int × (Int × (List (Int) × (List (Int) × (List (Int) × List ((Int × (Int × (Int × Int)))))))))) → Option ((List ((Int × (Int × (List (Int) × (List (Int) × (List (Int) × List ((Int × (Int × (Int × Int))))))))))))) (x21 : Int) (x22 : List ((Int × (Int × (List (Int) × (List (Int) × (List (Int) × List ((Int × (Int × (Int × Int))))))))))) : Option ((List ((Int × (Int × (List (Int) × (List (Int) × (List (Int) × List ((Int × (Int × (Int × Int)))))))))))) :=
  let v27 := (decide (x21 < (c0.length : Int)))
  bif v27 then
    let v29 := (Kd.nth (.pair (.int .i64) (.pair (.int .i64) (.pair (.slice (.int .i16)) (.pair (.slice (.int .u8)) (.pair (.slice (.int .u8)) (.slice (.pair (.int .i64) (.pair (.int .i64) (.pair (.int .i64) (.int .u32)))))))))) c0 (Int.toNat x21))
    gd ((0 : Int) ≤ x21 ∧ x21 < (c0.length : Int)) <|
    (psalterylaw30_Of K v29.1 v29.2.1 v29.2.2.1 v29.2.2.2.1 v29.2.2.2.2.1 v29.2.2.2.2.2).bind fun r30 =>
    let v31 := [(v29.1, (v29.2.1, (v29.2.2.1, (v29.2.2.2.1, (v29.2.2.2.2.1, r30)))))]
    gd (((x22.length : Int) + (v31.length : Int)) * 112 ≤ 70368744177664) <|
    let v32 := (kwrap .i64 (x21 + 1))
    next v32 (x22 ++ v31)
  else
    some x22
def psalterylaw34_of.l0 (K : Nat) (c0 : List ((Int × (Int × (List (Int) × (List (Int) × (List (Int) × List ((Int × (Int × (Int × Int))))))))))) (n : Nat) : Int → List ((Int × (Int × (List (Int) × (List (Int) × (List (Int) × List ((Int × (Int × (Int × Int)))))))))) → Option ((List ((Int × (Int × (List (Int) × (List (Int) × (List (Int) × List ((Int × (Int × (Int × Int)))))))))))) := rounds (psalterylaw34_of.r0 K c0) (fun _ _ => none) n
def psalterylaw34_of (K : Nat) (p0 : List ((Int × (Int × (List (Int) × (List (Int) × (List (Int) × List ((Int × (Int × (Int × Int))))))))))) : Option ((List ((Int × (Int × (List (Int) × (List (Int) × (List (Int) × List ((Int × (Int × (Int × Int)))))))))))) :=
  (psalterylaw34_of.l0 K p0 K 0 ([] : List ((Int × (Int × (List (Int) × (List (Int) × (List (Int) × List ((Int × (Int × (Int × Int))))))))))) : Option ((List ((Int × (Int × (List (Int) × (List (Int) × (List (Int) × List ((Int × (Int × (Int × Int))))))))))))).bind fun x18 =>
    some x18
def strings_Builder_copyCheck (_K : Nat) (_p0 : List (Int)) : Option (Unit) :=
  some ()
def strings_Builder_WriteString (K : Nat) (p0 : ByteArray) (p1 : List (Int)) : Option (Int × (List (Int))) :=
  (strings_Builder_copyCheck K p1).bind fun _ =>
  let v1 := (p1 ++ (sbytes p0))
  gd (((p1.length : Int) + ((sbytes p0).length : Int)) * 1 ≤ 70368744177664) <|
  some ((p0.size : Int), v1)
def score_number : Nat → (Int) → Option (ByteArray)
  | 0, _ => none
  | K + 1, p0 =>
    let v4 := (decide (p0 < 0))
    bif v4 then
      (score_number K (kwrap .i64 (0 - p0))).bind fun r6 =>
      let v7 := ((⟨#[45]⟩ : ByteArray) ++ r6)
      gd ((⟨#[45]⟩ : ByteArray).size + r6.size ≤ 9223372036854775807) <|
      some v7
    else
      let v8 := (Int.tmod p0 10)
      let v9 := (kwrap .i64 (48 + v8))
      let v10 := (kwrap .i32 v9)
      gd ((0 : Int) ≤ v10 ∧ v10 < 128) <|
      let v11 := (decide (p0 < 10))
      bif v11 then
        some (rstr v10)
      else
        let v12 := (kwrap .i64 (Int.tdiv p0 10))
        (score_number K v12).bind fun r13 =>
        let v14 := (r13 ++ (rstr v10))
        gd (r13.size + (rstr v10).size ≤ 9223372036854775807) <|
        some v14
def strings_Builder_WriteByte (K : Nat) (p0 : Int) (p1 : List (Int)) : Option ((List (Int))) :=
  (strings_Builder_copyCheck K p1).bind fun _ =>
  gd (((p1.length : Int) + ([p0].length : Int)) * 1 ≤ 70368744177664) <|
  some (p1 ++ [p0])
def strings_Builder_String (_K : Nat) (p0 : List (Int)) : Option (ByteArray) :=
  gd (p0.length ≤ 70368744177664) <| some (bstr p0)
def score_hex.r0 (K : Nat) (c0 : List (Int)) (c1 : Int) (next : Int → List (Int) → Option ((List (Int)))) (x34 : Int) (x35 : List (Int)) : Option ((List (Int))) :=
  let v42 := (decide (x34 < c1))
  bif v42 then
    let v45 := (Kd.nth (.int .u8) c0 (Int.toNat x34))
    gd ((0 : Int) ≤ x34 ∧ x34 < (c0.length : Int)) <|
    let v46 := (kshr .u8 v45 4)
    let v47 := (sbyte (⟨#[48, 49, 50, 51, 52, 53, 54, 55, 56, 57, 97, 98, 99, 100, 101, 102]⟩ : ByteArray) (Int.toNat v46))
    gd ((0 : Int) ≤ v46 ∧ v46 < ((⟨#[48, 49, 50, 51, 52, 53, 54, 55, 56, 57, 97, 98, 99, 100, 101, 102]⟩ : ByteArray).size : Int)) <|
    (strings_Builder_WriteByte K v47 x35).bind fun r48 =>
    let v49 := (kand .u8 v45 15)
    let v50 := (sbyte (⟨#[48, 49, 50, 51, 52, 53, 54, 55, 56, 57, 97, 98, 99, 100, 101, 102]⟩ : ByteArray) (Int.toNat v49))
    gd ((0 : Int) ≤ v49 ∧ v49 < ((⟨#[48, 49, 50, 51, 52, 53, 54, 55, 56, 57, 97, 98, 99, 100, 101, 102]⟩ : ByteArray).size : Int)) <|
    (strings_Builder_WriteByte K v50 r48).bind fun r51 =>
    let v52 := (kwrap .i64 (x34 + 1))
    next v52 r51
  else
    some x35
def score_hex.l0 (K : Nat) (c0 : List (Int)) (c1 : Int) (n : Nat) : Int → List (Int) → Option ((List (Int))) := rounds (score_hex.r0 K c0 c1) (fun _ _ => none) n
def score_hex (K : Nat) (p0 : List (Int)) : Option (ByteArray) :=
  let v15 := ((p0.length : Int) == 0)
  bif v15 then
    some (⟨#[45]⟩ : ByteArray)
  else
    (score_hex.l0 K p0 (p0.length : Int) K 0 ([] : List (Int)) : Option ((List (Int)))).bind fun x28 =>
      (strings_Builder_String K x28).bind fun r29 =>
      some r29
def score_token.r0 (K : Nat) (c0 : Int) (c1 : Int) (c2 : Int) (_c3 : Int) (next : ByteArray → Int → Option ((ByteArray) ⊕ (ByteArray × Bool))) (x26 : ByteArray) (x27 : Int) : Option ((ByteArray) ⊕ (ByteArray × Bool)) :=
  let v32 := (decide (x27 < 3))
  bif v32 then
    let v34 := (List.getD [c0, c1, c2] (Int.toNat x27) 0)
    gd ((0 : Int) ≤ x27 ∧ x27 < 3) <|
    let v35 := (decide (v34 < 0))
    let v36 := (decide (v34 > 2147483647))
    let v37 := (bif v35 then true else v36)
    bif v37 then
      some (.inr ((⟨#[]⟩ : ByteArray), false))
    else
      (score_number K v34).bind fun r38 =>
      let v39 := (r38 ++ (⟨#[47]⟩ : ByteArray))
      gd (r38.size + (⟨#[47]⟩ : ByteArray).size ≤ 9223372036854775807 ∧ x26.size + v39.size ≤ 9223372036854775807) <|
      let v40 := (kwrap .i64 (x27 + 1))
      next (x26 ++ v39) v40
  else
    some (.inl x26)
def score_token.l0 (K : Nat) (c0 : Int) (c1 : Int) (c2 : Int) (c3 : Int) (n : Nat) : ByteArray → Int → Option ((ByteArray) ⊕ (ByteArray × Bool)) := rounds (score_token.r0 K c0 c1 c2 c3) (fun _ _ => none) n
def score_token (K : Nat) (p0 : Int) (p1 : Int) (p2 : Int) (p3 : Int) : Option (ByteArray × Bool) :=
  let v11 := ((p0 == 0) && ((p1 == 0) && ((p2 == 0) && (p3 == 0))))
  bif v11 then
    some ((⟨#[46]⟩ : ByteArray), true)
  else
    let v12 := ((p0 == 1) && ((p1 == 0) && ((p2 == 0) && (p3 == 0))))
    bif v12 then
      some ((⟨#[120]⟩ : ByteArray), true)
    else
      let v13 := ((p0 == 0) && ((p1 == 1) && ((p2 == 0) && (p3 == 0))))
      bif v13 then
        some ((⟨#[97]⟩ : ByteArray), true)
      else
        (score_token.l0 K p0 p1 p2 p3 K (⟨#[]⟩ : ByteArray) 0 : Option ((ByteArray) ⊕ (ByteArray × Bool))).bind fun z => match z with
        | .inl x22 =>
          (score_number K (kwrap .i64 p3)).bind fun r23 =>
          gd (x22.size + r23.size ≤ 9223372036854775807) <|
          some ((x22 ++ r23), true)
        | .inr r =>
          some r
def score_bare (_K : Nat) (p0 : Int) (p1 : Int) (p2 : List (Int)) (p3 : List (Int)) (p4 : List (Int)) (p5 : List ((Int × (Int × (Int × Int))))) : Option (Bool) :=
  let v1 := ((p2.length : Int) == 0)
  let v2 := (bif (p0 == 1) then true else v1)
  let v3 := (bif (p0 == 2) then true else (p1 == 0))
  let v4 := (bif v2 then v3 else false)
  let v5 := (kwrap .i64 ((p3.length : Int) + (p4.length : Int)))
  let v6 := (bif (p0 == 3) then true else (v5 == 0))
  let v7 := (bif v4 then v6 else false)
  let v8 := ((p5.length : Int) == 0)
  let v9 := (bif (p0 == 4) then true else v8)
  let v10 := (bif v7 then v9 else false)
  some v10
def score_told.r0 (K : Nat) (c0 : List (Int)) (c1 : Int) (_c2 : Int) (_c3 : Int) (_c4 : List (Int)) (_c5 : List (Int)) (_c6 : List ((Int × (Int × (Int × Int))))) (next : Int → List (Int) → Option ((List (Int)))) (x134 : Int) (x135 : List (Int)) : Option ((List (Int))) :=
  let v144 := (decide (x134 < c1))
  bif v144 then
    let v148 := (Kd.nth (.int .i16) c0 (Int.toNat x134))
    gd ((0 : Int) ≤ x134 ∧ x134 < (c0.length : Int)) <|
    let v149 := (kwrap .i64 v148)
    (score_number K v149).bind fun r150 =>
    let v151 := ((⟨#[32]⟩ : ByteArray) ++ r150)
    gd ((⟨#[32]⟩ : ByteArray).size + r150.size ≤ 9223372036854775807) <|
    (strings_Builder_WriteString K v151 x135).bind fun (_r152, r153) =>
    let v154 := (kwrap .i64 (x134 + 1))
    next v154 r153
  else
    some x135
def score_told.l0 (K : Nat) (c0 : List (Int)) (c1 : Int) (c2 : Int) (c3 : Int) (c4 : List (Int)) (c5 : List (Int)) (c6 : List ((Int × (Int × (Int × Int))))) (n : Nat) : Int → List (Int) → Option ((List (Int))) := rounds (score_told.r0 K c0 c1 c2 c3 c4 c5 c6) (fun _ _ => none) n
def score_told.r1 (K : Nat) (c0 : List ((Int × (Int × (Int × Int))))) (c1 : Int) (_c2 : Int) (_c3 : Int) (_c4 : List (Int)) (_c5 : List (Int)) (_c6 : List (Int)) (next : Int → List (Int) → Option (((List (Int))) ⊕ (ByteArray × Bool))) (x198 : Int) (x199 : List (Int)) : Option (((List (Int))) ⊕ (ByteArray × Bool)) :=
  let v210 := (decide (x198 < c1))
  bif v210 then
    let v215 := (Kd.nth (.pair (.int .i64) (.pair (.int .i64) (.pair (.int .i64) (.int .u32)))) c0 (Int.toNat x198))
    gd ((0 : Int) ≤ x198 ∧ x198 < (c0.length : Int)) <|
    (score_token K v215.1 v215.2.1 v215.2.2.1 v215.2.2.2).bind fun (r216, r217) =>
    bif (!r217) then
      some (.inr ((⟨#[]⟩ : ByteArray), false))
    else
      let v218 := ((⟨#[32]⟩ : ByteArray) ++ r216)
      gd ((⟨#[32]⟩ : ByteArray).size + r216.size ≤ 9223372036854775807) <|
      (strings_Builder_WriteString K v218 x199).bind fun (_r219, r220) =>
      let v221 := (kwrap .i64 (x198 + 1))
      next v221 r220
  else
    some (.inl x199)
def score_told.l1 (K : Nat) (c0 : List ((Int × (Int × (Int × Int))))) (c1 : Int) (c2 : Int) (c3 : Int) (c4 : List (Int)) (c5 : List (Int)) (c6 : List (Int)) (n : Nat) : Int → List (Int) → Option (((List (Int))) ⊕ (ByteArray × Bool)) := rounds (score_told.r1 K c0 c1 c2 c3 c4 c5 c6) (fun _ _ => none) n
def score_told (K : Nat) (p0 : Int) (p1 : Int) (p2 : List (Int)) (p3 : List (Int)) (p4 : List (Int)) (p5 : List ((Int × (Int × (Int × Int))))) : Option (ByteArray × Bool) :=
  (
    bif (p0 == 1) then
      (strings_Builder_WriteString K (⟨#[115, 97, 109, 112, 108, 101, 115]⟩ : ByteArray) ([] : List (Int))).bind fun (_r109, r110) =>
      (score_told.l0 K p2 (p2.length : Int) p0 p1 p3 p4 p5 K 0 r110 : Option ((List (Int)))).bind fun x127 =>
        some (.inl x127)
    else
      bif (p0 == 2) then
        let v155 := (imin (imax p1 0) 99)
        (score_number K v155).bind fun r156 =>
        let v157 := ((⟨#[99, 97, 108, 108, 32]⟩ : ByteArray) ++ r156)
        gd ((⟨#[99, 97, 108, 108, 32]⟩ : ByteArray).size + r156.size ≤ 9223372036854775807) <|
        (strings_Builder_WriteString K v157 ([] : List (Int))).bind fun (_r158, r159) =>
        some (.inl r159)
      else
        bif (p0 == 3) then
          (score_hex K p3).bind fun r160 =>
          let v161 := ((⟨#[101, 110, 100, 115, 32]⟩ : ByteArray) ++ r160)
          gd ((⟨#[101, 110, 100, 115, 32]⟩ : ByteArray).size + r160.size ≤ 9223372036854775807) <|
          let v162 := (v161 ++ (⟨#[32]⟩ : ByteArray))
          gd (v161.size + (⟨#[32]⟩ : ByteArray).size ≤ 9223372036854775807) <|
          (score_hex K p4).bind fun r163 =>
          let v164 := (v162 ++ r163)
          gd (v162.size + r163.size ≤ 9223372036854775807) <|
          (strings_Builder_WriteString K v164 ([] : List (Int))).bind fun (_r165, r166) =>
          some (.inl r166)
        else
          bif (p0 == 4) then
            (strings_Builder_WriteString K (⟨#[105, 110, 116, 101, 114, 118, 97, 108]⟩ : ByteArray) ([] : List (Int))).bind fun (_r167, r168) =>
            (score_told.l1 K p5 (p5.length : Int) p0 p1 p2 p3 p4 K 0 r168 : Option (((List (Int))) ⊕ (ByteArray × Bool))).bind fun z => match z with
            | .inl x189 =>
              some (.inl x189)
            | .inr r =>
              some (.inr r)
          else
            some (.inr ((⟨#[]⟩ : ByteArray), false)) : Option (((List (Int))) ⊕ (ByteArray × Bool))).bind fun z => match z with
  | .inl x102 =>
    (strings_Builder_String K x102).bind fun r103 =>
    (score_bare K p0 p1 p2 p3 p4 p5).bind fun r104 =>
    let v105 := (decide (p1 ≥ 0))
    let v106 := (bif r104 then v105 else false)
    let v107 := (decide (p1 ≤ 99))
    let v108 := (bif v106 then v107 else false)
    some (r103, v108)
  | .inr r =>
    some r
def strings_Builder_Len (_K : Nat) (p0 : List (Int)) : Option (Int) :=
  some (p0.length : Int)
def score_Print.r0 (K : Nat) (c0 : List ((Int × (Int × (List (Int) × (List (Int) × (List (Int) × List ((Int × (Int × (Int × Int))))))))))) (c1 : Int) (next : Int → List (Int) → Option (((List (Int))) ⊕ (ByteArray × Int))) (x57 : Int) (x58 : List (Int)) : Option (((List (Int))) ⊕ (ByteArray × Int)) :=
  let v69 := (decide (x57 < c1))
  bif v69 then
    let v74 := (Kd.nth (.pair (.int .i64) (.pair (.int .i64) (.pair (.slice (.int .i16)) (.pair (.slice (.int .u8)) (.pair (.slice (.int .u8)) (.slice (.pair (.int .i64) (.pair (.int .i64) (.pair (.int .i64) (.int .u32)))))))))) c0 (Int.toNat x57))
    gd ((0 : Int) ≤ x57 ∧ x57 < (c0.length : Int)) <|
    (score_told K v74.1 v74.2.1 v74.2.2.1 v74.2.2.2.1 v74.2.2.2.2.1 v74.2.2.2.2.2).bind fun (r75, r76) =>
    bif (!r76) then
      some (.inr ((⟨#[]⟩ : ByteArray), 310))
    else
      let v77 := (r75 ++ (⟨#[10]⟩ : ByteArray))
      gd (r75.size + (⟨#[10]⟩ : ByteArray).size ≤ 9223372036854775807) <|
      (strings_Builder_WriteString K v77 x58).bind fun (_r78, r79) =>
      let v80 := (kwrap .i64 (x57 + 1))
      next v80 r79
  else
    some (.inl x58)
def score_Print.l0 (K : Nat) (c0 : List ((Int × (Int × (List (Int) × (List (Int) × (List (Int) × List ((Int × (Int × (Int × Int))))))))))) (c1 : Int) (n : Nat) : Int → List (Int) → Option (((List (Int))) ⊕ (ByteArray × Int)) := rounds (score_Print.r0 K c0 c1) (fun _ _ => none) n
def score_Print (K : Nat) (p0 : List ((Int × (Int × (List (Int) × (List (Int) × (List (Int) × List ((Int × (Int × (Int × Int))))))))))) : Option (ByteArray × Int) :=
  let v24 := (decide ((p0.length : Int) > 4096))
  bif v24 then
    some ((⟨#[]⟩ : ByteArray), 310)
  else
    (score_Print.l0 K p0 (p0.length : Int) K 0 ([] : List (Int)) : Option (((List (Int))) ⊕ (ByteArray × Int))).bind fun z => match z with
    | .inl x45 =>
      (strings_Builder_Len K x45).bind fun r46 =>
      let v47 := (decide (r46 > 65536))
      bif v47 then
        some ((⟨#[]⟩ : ByteArray), 2)
      else
        (strings_Builder_String K x45).bind fun r48 =>
        some (r48, 0)
    | .inr r =>
      some r
def psalterylaw34_to.r0 (_K : Nat)  (_next : Option (Unit))  : Option (Unit) :=
  some ()
def psalterylaw34_to.l0 (K : Nat)  (n : Nat) : Option (Unit) := rounds (psalterylaw34_to.r0 K) (none) n
def psalterylaw34_to (K : Nat)  : Option (Unit) :=
  (psalterylaw34_to.l0 K K  : Option (Unit)).bind fun _ =>
    some ()
def psalteryref34_Same.r0 (_K : Nat) (_c0 : List ((Int × (Int × (List (Int) × (List (Int) × (List (Int) × List ((Int × (Int × (Int × Int))))))))))) (_next : Option (Unit))  : Option (Unit) :=
  some ()
def psalteryref34_Same.l0 (K : Nat) (c0 : List ((Int × (Int × (List (Int) × (List (Int) × (List (Int) × List ((Int × (Int × (Int × Int))))))))))) (n : Nat) : Option (Unit) := rounds (psalteryref34_Same.r0 K c0) (none) n
def psalteryref34_Same (K : Nat) (p0 : List ((Int × (Int × (List (Int) × (List (Int) × (List (Int) × List ((Int × (Int × (Int × Int))))))))))) : Option (Bool) :=
  let v1 := (0 != (p0.length : Int))
  bif v1 then
    some false
  else
    (psalteryref34_Same.l0 K p0 K  : Option (Unit)).bind fun _ =>
      some true
def psalterylaw34_to_2.r1 (_K : Nat) (c0 : List ((Int × (Int × (List (Int) × (List (Int) × (List (Int) × List ((Int × (Int × (Int × Int))))))))))) (c1 : Int) (_c2 : List ((Int × (Int × (List (Int) × (List (Int) × (List (Int) × List ((Int × (Int × (Int × Int))))))))))) (_c3 : Int) (_c4 : Int) (_c5 : List (Int)) (_c6 : List (Int)) (_c7 : List (Int)) (next : Int → List ((Int × (Int × (Int × Int)))) → Option ((List ((Int × (Int × (Int × Int))))))) (x89 : Int) (x90 : List ((Int × (Int × (Int × Int))))) : Option ((List ((Int × (Int × (Int × Int)))))) :=
  let v93 := (Kd.nth (.pair (.int .i64) (.pair (.int .i64) (.pair (.slice (.int .i16)) (.pair (.slice (.int .u8)) (.pair (.slice (.int .u8)) (.slice (.pair (.int .i64) (.pair (.int .i64) (.pair (.int .i64) (.int .u32)))))))))) c0 (Int.toNat c1))
  let v94 := (v93.2.2.2.2.2.length : Int)
  let v95 := (decide (x89 < v94))
  gd ((0 : Int) ≤ c1 ∧ c1 < (c0.length : Int)) <|
  bif v95 then
    gd ((0 : Int) ≤ c1 ∧ c1 < (c0.length : Int)) <|
    let v96 := (Kd.nth (.pair (.int .i64) (.pair (.int .i64) (.pair (.int .i64) (.int .u32)))) v93.2.2.2.2.2 (Int.toNat x89))
    gd ((0 : Int) ≤ x89 ∧ x89 < (v93.2.2.2.2.2.length : Int)) <|
    let v97 := [(v96.1, (v96.2.1, (v96.2.2.1, v96.2.2.2)))]
    gd (((x90.length : Int) + (v97.length : Int)) * 32 ≤ 70368744177664) <|
    let v98 := (kwrap .i64 (x89 + 1))
    next v98 (x90 ++ v97)
  else
    some x90
def psalterylaw34_to_2.l1 (K : Nat) (c0 : List ((Int × (Int × (List (Int) × (List (Int) × (List (Int) × List ((Int × (Int × (Int × Int))))))))))) (c1 : Int) (c2 : List ((Int × (Int × (List (Int) × (List (Int) × (List (Int) × List ((Int × (Int × (Int × Int))))))))))) (c3 : Int) (c4 : Int) (c5 : List (Int)) (c6 : List (Int)) (c7 : List (Int)) (n : Nat) : Int → List ((Int × (Int × (Int × Int)))) → Option ((List ((Int × (Int × (Int × Int)))))) := rounds (psalterylaw34_to_2.r1 K c0 c1 c2 c3 c4 c5 c6 c7) (fun _ _ => none) n
def psalterylaw34_to_2.r0 (K : Nat) (c0 : List ((Int × (Int × (List (Int) × (List (Int) × (List (Int) × List ((Int × (Int × (Int × Int))))))))))) (next : Int → List ((Int × (Int × (List (Int) × (List (Int) × (List (Int) × List ((Int × (Int × (Int × Int)))))))))) → Option ((List ((Int × (Int × (List (Int) × (List (Int) × (List (Int) × List ((Int × (Int × (Int × Int))))))))))))) (x61 : Int) (x62 : List ((Int × (Int × (List (Int) × (List (Int) × (List (Int) × List ((Int × (Int × (Int × Int))))))))))) : Option ((List ((Int × (Int × (List (Int) × (List (Int) × (List (Int) × List ((Int × (Int × (Int × Int)))))))))))) :=
  let v75 := (decide (x61 < (c0.length : Int)))
  bif v75 then
    let v81 := (Kd.nth (.pair (.int .i64) (.pair (.int .i64) (.pair (.slice (.int .i16)) (.pair (.slice (.int .u8)) (.pair (.slice (.int .u8)) (.slice (.pair (.int .i64) (.pair (.int .i64) (.pair (.int .i64) (.int .u32)))))))))) c0 (Int.toNat x61))
    gd ((0 : Int) ≤ x61 ∧ x61 < (c0.length : Int)) <|
    gd ((0 : Int) ≤ x61 ∧ x61 < (c0.length : Int)) <|
    gd ((0 : Int) ≤ x61 ∧ x61 < (c0.length : Int)) <|
    gd ((0 : Int) ≤ x61 ∧ x61 < (c0.length : Int)) <|
    gd ((0 : Int) ≤ x61 ∧ x61 < (c0.length : Int)) <|
    (psalterylaw34_to_2.l1 K c0 x61 x62 v81.1 v81.2.1 v81.2.2.1 v81.2.2.2.1 v81.2.2.2.2.1 K 0 ([] : List ((Int × (Int × (Int × Int))))) : Option ((List ((Int × (Int × (Int × Int))))))).bind fun x86 =>
      let v87 := [(v81.1, (v81.2.1, (v81.2.2.1, (v81.2.2.2.1, (v81.2.2.2.2.1, x86)))))]
      gd (((x62.length : Int) + (v87.length : Int)) * 112 ≤ 70368744177664) <|
      let v88 := (kwrap .i64 (x61 + 1))
      next v88 (x62 ++ v87)
  else
    some x62
def psalterylaw34_to_2.l0 (K : Nat) (c0 : List ((Int × (Int × (List (Int) × (List (Int) × (List (Int) × List ((Int × (Int × (Int × Int))))))))))) (n : Nat) : Int → List ((Int × (Int × (List (Int) × (List (Int) × (List (Int) × List ((Int × (Int × (Int × Int)))))))))) → Option ((List ((Int × (Int × (List (Int) × (List (Int) × (List (Int) × List ((Int × (Int × (Int × Int)))))))))))) := rounds (psalterylaw34_to_2.r0 K c0) (fun _ _ => none) n
def psalterylaw34_to_2 (K : Nat) (p0 : List ((Int × (Int × (List (Int) × (List (Int) × (List (Int) × List ((Int × (Int × (Int × Int))))))))))) : Option ((List ((Int × (Int × (List (Int) × (List (Int) × (List (Int) × List ((Int × (Int × (Int × Int)))))))))))) :=
  (psalterylaw34_to_2.l0 K p0 K 0 ([] : List ((Int × (Int × (List (Int) × (List (Int) × (List (Int) × List ((Int × (Int × (Int × Int))))))))))) : Option ((List ((Int × (Int × (List (Int) × (List (Int) × (List (Int) × List ((Int × (Int × (Int × Int))))))))))))).bind fun x50 =>
    some x50
def psalteryref34_Same_2.r1 (_K : Nat) (_c0 : List ((Int × (Int × (List (Int) × (List (Int) × (List (Int) × List ((Int × (Int × (Int × Int))))))))))) (_c1 : List ((Int × (Int × (List (Int) × (List (Int) × (List (Int) × List ((Int × (Int × (Int × Int))))))))))) (_c2 : Int) (_c3 : Int) (_c4 : Int) (_c5 : List (Int)) (_c6 : List (Int)) (_c7 : List (Int)) (c8 : List ((Int × (Int × (Int × Int))))) (_c9 : Int) (_c10 : Int) (_c11 : List (Int)) (_c12 : List (Int)) (_c13 : List (Int)) (c14 : List ((Int × (Int × (Int × Int))))) (next : Int → Option ((Unit) ⊕ (Bool))) (x85 : Int) : Option ((Unit) ⊕ (Bool)) :=
  let v87 := (c8.length : Int)
  let v88 := (decide (x85 < v87))
  bif v88 then
    let v89 := (Kd.nth (.pair (.int .i64) (.pair (.int .i64) (.pair (.int .i64) (.int .u32)))) c8 (Int.toNat x85))
    gd ((0 : Int) ≤ x85 ∧ x85 < (c8.length : Int)) <|
    let v90 := (Kd.nth (.pair (.int .i64) (.pair (.int .i64) (.pair (.int .i64) (.int .u32)))) c14 (Int.toNat x85))
    gd ((0 : Int) ≤ x85 ∧ x85 < (c14.length : Int)) <|
    let v91 := (!((v89.1 == v90.1) && ((v89.2.1 == v90.2.1) && ((v89.2.2.1 == v90.2.2.1) && (v89.2.2.2 == v90.2.2.2)))))
    bif v91 then
      some (.inr false)
    else
      let v92 := (kwrap .i64 (x85 + 1))
      next v92
  else
    some (.inl ())
def psalteryref34_Same_2.l1 (K : Nat) (c0 : List ((Int × (Int × (List (Int) × (List (Int) × (List (Int) × List ((Int × (Int × (Int × Int))))))))))) (c1 : List ((Int × (Int × (List (Int) × (List (Int) × (List (Int) × List ((Int × (Int × (Int × Int))))))))))) (c2 : Int) (c3 : Int) (c4 : Int) (c5 : List (Int)) (c6 : List (Int)) (c7 : List (Int)) (c8 : List ((Int × (Int × (Int × Int))))) (c9 : Int) (c10 : Int) (c11 : List (Int)) (c12 : List (Int)) (c13 : List (Int)) (c14 : List ((Int × (Int × (Int × Int))))) (n : Nat) : Int → Option ((Unit) ⊕ (Bool)) := rounds (psalteryref34_Same_2.r1 K c0 c1 c2 c3 c4 c5 c6 c7 c8 c9 c10 c11 c12 c13 c14) (fun _ => none) n
def psalteryref34_Same_2.r2 (_K : Nat) (_c0 : List ((Int × (Int × (List (Int) × (List (Int) × (List (Int) × List ((Int × (Int × (Int × Int))))))))))) (_c1 : List ((Int × (Int × (List (Int) × (List (Int) × (List (Int) × List ((Int × (Int × (Int × Int))))))))))) (_c2 : Int) (_c3 : Int) (_c4 : Int) (c5 : List (Int)) (_c6 : List (Int)) (_c7 : List (Int)) (_c8 : List ((Int × (Int × (Int × Int))))) (_c9 : Int) (_c10 : Int) (c11 : List (Int)) (_c12 : List (Int)) (_c13 : List (Int)) (_c14 : List ((Int × (Int × (Int × Int))))) (next : Int → Option ((Unit) ⊕ (Bool))) (x93 : Int) : Option ((Unit) ⊕ (Bool)) :=
  let v95 := (c5.length : Int)
  let v96 := (decide (x93 < v95))
  bif v96 then
    let v97 := (Kd.nth (.int .i16) c5 (Int.toNat x93))
    gd ((0 : Int) ≤ x93 ∧ x93 < (c5.length : Int)) <|
    let v98 := (Kd.nth (.int .i16) c11 (Int.toNat x93))
    gd ((0 : Int) ≤ x93 ∧ x93 < (c11.length : Int)) <|
    bif (v97 != v98) then
      some (.inr false)
    else
      let v99 := (kwrap .i64 (x93 + 1))
      next v99
  else
    some (.inl ())
def psalteryref34_Same_2.l2 (K : Nat) (c0 : List ((Int × (Int × (List (Int) × (List (Int) × (List (Int) × List ((Int × (Int × (Int × Int))))))))))) (c1 : List ((Int × (Int × (List (Int) × (List (Int) × (List (Int) × List ((Int × (Int × (Int × Int))))))))))) (c2 : Int) (c3 : Int) (c4 : Int) (c5 : List (Int)) (c6 : List (Int)) (c7 : List (Int)) (c8 : List ((Int × (Int × (Int × Int))))) (c9 : Int) (c10 : Int) (c11 : List (Int)) (c12 : List (Int)) (c13 : List (Int)) (c14 : List ((Int × (Int × (Int × Int))))) (n : Nat) : Int → Option ((Unit) ⊕ (Bool)) := rounds (psalteryref34_Same_2.r2 K c0 c1 c2 c3 c4 c5 c6 c7 c8 c9 c10 c11 c12 c13 c14) (fun _ => none) n
def psalteryref34_Same_2.r0 (K : Nat) (c0 : List ((Int × (Int × (List (Int) × (List (Int) × (List (Int) × List ((Int × (Int × (Int × Int))))))))))) (c1 : List ((Int × (Int × (List (Int) × (List (Int) × (List (Int) × List ((Int × (Int × (Int × Int))))))))))) (next : Int → Option ((Unit) ⊕ (Bool))) (x46 : Int) : Option ((Unit) ⊕ (Bool)) :=
  let v56 := (decide (x46 < (c0.length : Int)))
  bif v56 then
    let v61 := (Kd.nth (.pair (.int .i64) (.pair (.int .i64) (.pair (.slice (.int .i16)) (.pair (.slice (.int .u8)) (.pair (.slice (.int .u8)) (.slice (.pair (.int .i64) (.pair (.int .i64) (.pair (.int .i64) (.int .u32)))))))))) c0 (Int.toNat x46))
    gd ((0 : Int) ≤ x46 ∧ x46 < (c0.length : Int)) <|
    let v62 := (Kd.nth (.pair (.int .i64) (.pair (.int .i64) (.pair (.slice (.int .i16)) (.pair (.slice (.int .u8)) (.pair (.slice (.int .u8)) (.slice (.pair (.int .i64) (.pair (.int .i64) (.pair (.int .i64) (.int .u32)))))))))) c1 (Int.toNat x46))
    gd ((0 : Int) ≤ x46 ∧ x46 < (c1.length : Int)) <|
    let v63 := (v61.1 != v62.1)
    let v64 := (v61.2.1 != v62.2.1)
    let v65 := (bif v63 then true else v64)
    let v66 := (bstr v61.2.2.2.1)
    let v67 := (bstr v62.2.2.2.1)
    let v68 := (!(beqs v66 v67))
    let v69 := (bif v65 then true else v68)
    let v70 := (bstr v61.2.2.2.2.1)
    let v71 := (bstr v62.2.2.2.2.1)
    let v72 := (!(beqs v70 v71))
    let v73 := (bif v69 then true else v72)
    let v74 := (v61.2.2.1.length : Int)
    let v75 := (v62.2.2.1.length : Int)
    let v76 := (bif v73 then true else (v74 != v75))
    let v77 := (v61.2.2.2.2.2.length : Int)
    let v78 := (v62.2.2.2.2.2.length : Int)
    let v79 := (bif v76 then true else (v77 != v78))
    bif v79 then
      some (.inr false)
    else
      (psalteryref34_Same_2.l2 K c0 c1 x46 v61.1 v61.2.1 v61.2.2.1 v61.2.2.2.1 v61.2.2.2.2.1 v61.2.2.2.2.2 v62.1 v62.2.1 v62.2.2.1 v62.2.2.2.1 v62.2.2.2.2.1 v62.2.2.2.2.2 K 0 : Option ((Unit) ⊕ (Bool))).bind fun z => match z with
      | .inl _ =>
        (psalteryref34_Same_2.l1 K c0 c1 x46 v61.1 v61.2.1 v61.2.2.1 v61.2.2.2.1 v61.2.2.2.2.1 v61.2.2.2.2.2 v62.1 v62.2.1 v62.2.2.1 v62.2.2.2.1 v62.2.2.2.2.1 v62.2.2.2.2.2 K 0 : Option ((Unit) ⊕ (Bool))).bind fun z => match z with
        | .inl _ =>
          let v84 := (kwrap .i64 (x46 + 1))
          next v84
        | .inr r =>
          some (.inr r)
      | .inr r =>
        some (.inr r)
  else
    some (.inl ())
def psalteryref34_Same_2.l0 (K : Nat) (c0 : List ((Int × (Int × (List (Int) × (List (Int) × (List (Int) × List ((Int × (Int × (Int × Int))))))))))) (c1 : List ((Int × (Int × (List (Int) × (List (Int) × (List (Int) × List ((Int × (Int × (Int × Int))))))))))) (n : Nat) : Int → Option ((Unit) ⊕ (Bool)) := rounds (psalteryref34_Same_2.r0 K c0 c1) (fun _ => none) n
def psalteryref34_Same_2 (K : Nat) (p0 : List ((Int × (Int × (List (Int) × (List (Int) × (List (Int) × List ((Int × (Int × (Int × Int))))))))))) (p1 : List ((Int × (Int × (List (Int) × (List (Int) × (List (Int) × List ((Int × (Int × (Int × Int))))))))))) : Option (Bool) :=
  let v19 := ((p0.length : Int) != (p1.length : Int))
  bif v19 then
    some false
  else
    (psalteryref34_Same_2.l0 K p0 p1 K 0 : Option ((Unit) ⊕ (Bool))).bind fun z => match z with
    | .inl _ =>
      some true
    | .inr r =>
      some r
def score_Print_2.r0 (_K : Nat)  (_next : Option (Unit))  : Option (Unit) :=
  some ()
def score_Print_2.l0 (K : Nat)  (n : Nat) : Option (Unit) := rounds (score_Print_2.r0 K) (none) n
def score_Print_2 (K : Nat)  : Option (ByteArray × Int) :=
  (score_Print_2.l0 K K  : Option (Unit)).bind fun _ =>
    (strings_Builder_Len K ([] : List (Int))).bind fun r3 =>
    let v4 := (decide (r3 > 65536))
    bif v4 then
      some ((⟨#[]⟩ : ByteArray), 2)
    else
      (strings_Builder_String K ([] : List (Int))).bind fun r5 =>
      some (r5, 0)
def psalteryref34_Same_3.r0 (_K : Nat)  (_next : Option (Unit))  : Option (Unit) :=
  some ()
def psalteryref34_Same_3.l0 (K : Nat)  (n : Nat) : Option (Unit) := rounds (psalteryref34_Same_3.r0 K) (none) n
def psalteryref34_Same_3 (K : Nat)  : Option (Unit) :=
  (psalteryref34_Same_3.l0 K K  : Option (Unit)).bind fun _ =>
    some ()
def psalteryref34_Same_4.r0 (_K : Nat) (c0 : List ((Int × (Int × (List (Int) × (List (Int) × (List (Int) × List ((Int × (Int × (Int × Int))))))))))) (_next : Option (Unit))  : Option (Unit) :=
  let v2 := (decide (0 < (c0.length : Int)))
  bif v2 then
    gd (0 < (c0.length : Int)) <|
    none
  else
    some ()
def psalteryref34_Same_4.l0 (K : Nat) (c0 : List ((Int × (Int × (List (Int) × (List (Int) × (List (Int) × List ((Int × (Int × (Int × Int))))))))))) (n : Nat) : Option (Unit) := rounds (psalteryref34_Same_4.r0 K c0) (none) n
def psalteryref34_Same_4 (K : Nat) (p0 : List ((Int × (Int × (List (Int) × (List (Int) × (List (Int) × List ((Int × (Int × (Int × Int))))))))))) : Option (Bool) :=
  let v1 := ((p0.length : Int) != 0)
  bif v1 then
    some false
  else
    (psalteryref34_Same_4.l0 K p0 K  : Option (Unit)).bind fun _ =>
      some true
def psalterylaw34_ScoreBack (K : Nat) (p0 : List ((Int × (Int × (List (Int) × (List (Int) × (List (Int) × List ((Int × (Int × (Int × Int))))))))))) (p1 : ByteArray) : Option (Bool) :=
  (psalterylaw34_alive K ).bind fun r39 =>
  bif (!r39) then
    some false
  else
    (psalterylaw34_far K p0).bind fun r40 =>
    let v41 := (decide ((p1.size : Int) > 4000))
    let v42 := (bif r40 then true else v41)
    bif v42 then
      some true
    else
      (psalterylaw34_of K p0).bind fun r43 =>
      (score_Print K r43).bind fun (r44, r45) =>
      (
        bif (r45 == 0) then
          (score_Parse K r44).bind fun z => match z with
          | .inl (r90, r91) =>
            (
              let v95 := (bif (r91 != 0) then true else (r90 != 0))
              bif v95 then
                some true
              else
                (psalterylaw34_to K ).bind fun _ =>
                (psalteryref34_Same K p0).bind fun r96 =>
                some (!r96) : Option (Bool)).bind fun x94 =>
              bif x94 then
                some (.inr false)
              else
                some (.inl ())
          | .inr r92 =>
            (psalterylaw34_to_2 K r92).bind fun r99 =>
            (psalteryref34_Same_2 K r99 p0).bind fun r100 =>
            bif (!r100) then
              some (.inr false)
            else
              some (.inl ())
        else
          some (.inl ()) : Option ((Unit) ⊕ (Bool))).bind fun z => match z with
      | .inl _ =>
        (score_Parse K p1).bind fun z => match z with
        | .inl (_r55, r56) =>
          bif (r56 != 0) then
            some true
          else
            (score_Print_2 K ).bind fun (r58, r59) =>
            (score_Parse K r58).bind fun z => match z with
            | .inl (_r60, r61) =>
              (
                let v64 := (bif (r59 != 0) then (r59 == 2) else false)
                bif v64 then
                  some true
                else
                  bif (r61 == 0) then
                    (psalterylaw34_to K ).bind fun _ =>
                    (psalterylaw34_to K ).bind fun _ =>
                    (psalteryref34_Same_3 K ).bind fun _ =>
                    some true
                  else
                    some false : Option (Bool)).bind fun x63 =>
                some x63
            | .inr r62 =>
              (
                let v68 := (bif (r59 != 0) then (r59 == 2) else false)
                bif v68 then
                  some true
                else
                  (psalterylaw34_to_2 K r62).bind fun r69 =>
                  (psalterylaw34_to K ).bind fun _ =>
                  (psalteryref34_Same_4 K r69).bind fun r70 =>
                  some r70 : Option (Bool)).bind fun x67 =>
                some x67
        | .inr r57 =>
          (score_Print K r57).bind fun (r71, r72) =>
          (score_Parse K r71).bind fun z => match z with
          | .inl (_r73, r74) =>
            (
              let v79 := (bif (r72 != 0) then (r72 == 2) else false)
              bif v79 then
                some true
              else
                bif (r74 == 0) then
                  (psalterylaw34_to K ).bind fun _ =>
                  (psalterylaw34_to_2 K r57).bind fun r80 =>
                  (psalteryref34_Same K r80).bind fun r81 =>
                  some r81
                else
                  some false : Option (Bool)).bind fun x78 =>
              some x78
          | .inr r75 =>
            (
              let v86 := (bif (r72 != 0) then (r72 == 2) else false)
              bif v86 then
                some true
              else
                (psalterylaw34_to_2 K r75).bind fun r87 =>
                (psalterylaw34_to_2 K r57).bind fun r88 =>
                (psalteryref34_Same_2 K r87 r88).bind fun r89 =>
                some r89 : Option (Bool)).bind fun x85 =>
              some x85
      | .inr r =>
        some r
end Go.Fo
