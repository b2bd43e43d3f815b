/- The functions of Go that are reached, as functions of plain values. -/
import Derived.Test.YtphienllhdoenaaDoorJ3
namespace Go.Fo
def internal_stringslite_IndexByte (_K : Nat) (p0 : ByteArray) (p1 : Int) : Option (Int) :=
  some (bfind p0 p1)
def internal_stringslite_Index (K : Nat) (p0 : ByteArray) (p1 : ByteArray) : Option (Int) :=
  let v6 := ((p1.size : Int) == 0)
  let v7 := (bif v6 then true else (beqs p1 p0))
  bif v7 then
    some 0
  else
    let v9 := ((p1.size : Int) == 1)
    bif v9 then
      gd (0 < (p1.size : Int)) <|
      (internal_stringslite_IndexByte K p0 (sbyte p1 0)).bind fun r11 =>
      some r11
    else
      let v12 := (decide ((p1.size : Int) ≥ (p0.size : Int)))
      bif v12 then
        some (-1)
      else
        none
def internal_stringslite_Cut (K : Nat) (p0 : ByteArray) (p1 : ByteArray) : Option (ByteArray × ByteArray × Bool) :=
  (internal_stringslite_Index K p0 p1).bind fun r2 =>
  let v3 := (decide (r2 ≥ 0))
  bif v3 then
    let v4 := (p0.extract (Int.toNat 0) (Int.toNat r2))
    gd (0 ≤ r2 ∧ r2 ≤ (p0.size : Int)) <|
    let v5 := (kwrap .i64 (r2 + (p1.size : Int)))
    let v6 := (p0.extract (Int.toNat v5) (Int.toNat (p0.size : Int)))
    gd ((0 : Int) ≤ v5 ∧ v5 ≤ (p0.size : Int) ∧ (p0.size : Int) ≤ (p0.size : Int)) <|
    some (v4, v6, true)
  else
    some (p0, (⟨#[]⟩ : ByteArray), false)
def strings_Cut (K : Nat) (p0 : ByteArray) (p1 : ByteArray) : Option (ByteArray × ByteArray × Bool) :=
  (internal_stringslite_Cut K p0 p1).bind fun (r4, r5, r6) =>
  some (r4, r5, r6)
def strings_Count (_K : Nat) (p0 : ByteArray) (p1 : ByteArray) : Option (Int) :=
  gd (p1.size = 1) <| some (bcount p0 (sbyte p1 0))
def strings_Index (K : Nat) (p0 : ByteArray) (p1 : ByteArray) : Option (Int) :=
  (internal_stringslite_Index K p0 p1).bind fun r2 =>
  some r2
def strings_genSplit.r0 (K : Nat) (c0 : ByteArray) (c1 : Int) (c2 : Int) (next : ByteArray → Int → List (ByteArray) → Option (ByteArray × Int × (List (ByteArray)))) (x37 : ByteArray) (x38 : Int) (x39 : List (ByteArray)) : Option (ByteArray × Int × (List (ByteArray))) :=
  let v44 := (decide (x38 < c2))
  bif v44 then
    (strings_Index K x37 c0).bind fun r45 =>
    let v46 := (decide (r45 < 0))
    bif v46 then
      some (x37, x38, x39)
    else
      let v47 := (kwrap .i64 (r45 + c1))
      let v48 := (x37.extract (Int.toNat 0) (Int.toNat v47))
      let v49 := (List.set x39 (Int.toNat x38) v48)
      gd (0 ≤ v47 ∧ v47 ≤ (x37.size : Int) ∧ (0 : Int) ≤ x38 ∧ x38 < (x39.length : Int) ∧ (Int.toNat x38) < x39.length) <|
      let v50 := (kwrap .i64 (r45 + (c0.size : Int)))
      let v51 := (x37.extract (Int.toNat v50) (Int.toNat (x37.size : Int)))
      gd ((0 : Int) ≤ v50 ∧ v50 ≤ (x37.size : Int) ∧ (x37.size : Int) ≤ (x37.size : Int)) <|
      let v52 := (kwrap .i64 (x38 + 1))
      next v51 v52 v49
  else
    some (x37, x38, x39)
def strings_genSplit.l0 (K : Nat) (c0 : ByteArray) (c1 : Int) (c2 : Int) (n : Nat) : ByteArray → Int → List (ByteArray) → Option (ByteArray × Int × (List (ByteArray))) := rounds (strings_genSplit.r0 K c0 c1 c2) (fun _ _ _ => none) n
def strings_genSplit (K : Nat) (p0 : ByteArray) (p1 : ByteArray) (p2 : Int) (p3 : Int) : Option ((Unit) ⊕ ((List (ByteArray)))) :=
  bif (p3 == 0) then
    some (.inl ())
  else
    let v14 := (beqs p1 (⟨#[]⟩ : ByteArray))
    bif v14 then
      none
    else
      let v15 := (decide (p3 < 0))
      (
        bif v15 then
          (strings_Count K p0 p1).bind fun r53 =>
          let v54 := (kwrap .i64 (r53 + 1))
          some v54
        else
          some p3 : Option (Int)).bind fun x17 =>
        let v18 := (kwrap .i64 ((p0.size : Int) + 1))
        let v19 := (imin x17 v18)
        let v20 := (List.replicate (Int.toNat v19) (⟨#[]⟩ : ByteArray))
        gd ((0 : Int) ≤ v19 ∧ v19 ≤ v19 ∧ v19 * 16 ≤ 140737488355328) <|
        let v21 := (kwrap .i64 (v19 - 1))
        (strings_genSplit.l0 K p1 p2 v21 K p0 0 v20 : Option (ByteArray × Int × (List (ByteArray)))).bind fun (x30, x31, x32) =>
          let v33 := (List.set x32 (Int.toNat x31) x30)
          gd ((0 : Int) ≤ x31 ∧ x31 < (x32.length : Int) ∧ (Int.toNat x31) < x32.length) <|
          let v34 := (kwrap .i64 (x31 + 1))
          let v35 := ((v33.take (Int.toNat v34)).drop (Int.toNat 0))
          gd (0 ≤ v34 ∧ v34 ≤ (v33.length : Int)) <|
          some (.inr v35)
def strings_Split (K : Nat) (p0 : ByteArray) (p1 : ByteArray) : Option ((Unit) ⊕ ((List (ByteArray)))) :=
  (strings_genSplit K p0 p1 0 (-1)).bind fun z => match z with
  | .inl _ =>
    some (.inl ())
  | .inr r2 =>
    some (.inr r2)
def score_reader_word (_K : Nat) (_p0 : Bool) : Option (ByteArray) :=
  some (⟨#[]⟩ : ByteArray)
def score_reader_value.r0 (_K : Nat) (c0 : ByteArray) (_c1 : Int) (c2 : Int) (_c3 : Bool) (next : Int → Int → Option ((Int) ⊕ (Int × Bool))) (x22 : Int) (x23 : Int) : Option ((Int) ⊕ (Int × Bool)) :=
  let v27 := (decide (x23 < c2))
  bif v27 then
    (
      let v30 := (sbyte c0 (Int.toNat x23))
      let v31 := (decide (v30 < 48))
      let v32 := (decide (v30 > 57))
      let v33 := (bif v31 then true else v32)
      gd ((0 : Int) ≤ x23 ∧ x23 < (c0.size : Int) ∧ ((!v31) = true → (0 : Int) ≤ x23) ∧ ((!v31) = true → x23 < (c0.size : Int))) <|
      bif v33 then
        some (.inr (0, true))
      else
        let v34 := (decide (x23 < 10))
        bif v34 then
          let v35 := (kwrap .i64 (10 * x22))
          let v36 := (kwrap .u8 (v30 - 48))
          let v37 := (kwrap .i64 v36)
          let v38 := (kwrap .i64 (v35 + v37))
          gd ((0 : Int) ≤ x23 ∧ x23 < (c0.size : Int)) <|
          some (.inl v38)
        else
          some (.inl x22) : Option ((Int) ⊕ (Int × Bool))).bind fun z => match z with
    | .inl x28 =>
      let v29 := (kwrap .i64 (x23 + 1))
      next x28 v29
    | .inr r =>
      some (.inr r)
  else
    some (.inl x22)
def score_reader_value.l0 (K : Nat) (c0 : ByteArray) (c1 : Int) (c2 : Int) (c3 : Bool) (n : Nat) : Int → Int → Option ((Int) ⊕ (Int × Bool)) := rounds (score_reader_value.r0 K c0 c1 c2 c3) (fun _ _ => none) n
def score_reader_value (K : Nat) (p0 : ByteArray) (p1 : Int) (p2 : Bool) : Option (Int × Bool) :=
  (score_reader_value.l0 K p0 p1 (p0.size : Int) p2 K 0 0 : Option ((Int) ⊕ (Int × Bool))).bind fun z => match z with
  | .inl x12 =>
    let v13 := (beqs p0 (⟨#[]⟩ : ByteArray))
    let v14 := (decide ((p0.size : Int) > 10))
    let v15 := (bif v13 then true else v14)
    let v16 := (decide ((p0.size : Int) > 1))
    let v17 := ((sbyte p0 0) == 48)
    let v18 := (bif v16 then v17 else false)
    let v19 := (bif v15 then true else v18)
    let v20 := (decide (x12 > p1))
    let v21 := (bif v19 then true else v20)
    gd ((((!v15) && v16) = true → 0 < (p0.size : Int))) <|
    bif v21 then
      some (0, true)
    else
      some (x12, p2)
  | .inr r =>
    some r
def score_reader_number (K : Nat) (p0 : Int) (p1 : Bool) : Option (Int × Bool) :=
  (score_reader_word K p1).bind fun r4 =>
  (score_reader_value K r4 p0 true).bind fun (r5, r6) =>
  some (r5, r6)
def wave_modulo (_K : Nat) (p0 : Int) (p1 : Int) : Option (Int) :=
  let v2 := (Int.tmod p0 p1)
  gd (p1 ≠ 0) <|
  let v3 := (decide (v2 < 0))
  (
    bif v3 then
      let v5 := (kwrap .i64 (v2 + p1))
      some v5
    else
      some v2 : Option (Int)).bind fun x4 =>
    some x4
def wave_height (K : Nat) (p0 : Int) (p1 : Int) : Option (Int × Int) :=
  (wave_modulo K p0 p1).bind fun r3 =>
  let v4 := (kwrap .i64 (4 * r3))
  let v5 := (kwrap .i64 (Int.tdiv v4 p1))
  gd (p1 ≠ 0) <|
  let v6 := (Int.tmod v4 p1)
  gd (p1 ≠ 0) <|
  let v7 := (kand .i64 v5 1)
  (
    bif (v7 == 1) then
      let v11 := (kwrap .i64 (p1 - v6))
      some v11
    else
      some v6 : Option (Int)).bind fun x8 =>
    let v9 := (kshl .u64 (kwrap .u64 x8) 30)
    let v10 := (kwrap .u64 (Int.tdiv v9 (kwrap .u64 p1)))
    gd ((kwrap .u64 p1) ≠ 0) <|
    some (v10, v5)
def fix_within_int (_K : Nat) (p0 : Int) (p1 : Int) (p2 : Int) : Option (Int) :=
  let v1 := (decide (p0 < p1))
  bif v1 then
    some p1
  else
    let v2 := (decide (p0 > p2))
    bif v2 then
      some p2
    else
      some p0
def fix_Round (K : Nat) (p0 : Int) (p1 : Int) : Option (Int) :=
  (fix_within_int K p1 0 62).bind fun r2 =>
  bif (r2 == 0) then
    some p0
  else
    let v3 := (kshr .i64 p0 r2)
    gd ((0 : Int) ≤ r2) <|
    let v4 := (kwrap .i64 (r2 - 1))
    let v5 := (kshr .i64 p0 v4)
    gd ((0 : Int) ≤ v4) <|
    let v6 := (kand .i64 v5 1)
    let v7 := (kwrap .i64 (v3 + v6))
    some v7
def fix_within_int64 (_K : Nat) (p0 : Int) (p1 : Int) (p2 : Int) : Option (Int) :=
  let v1 := (decide (p0 < p1))
  bif v1 then
    some p1
  else
    let v2 := (decide (p0 > p2))
    bif v2 then
      some p2
    else
      some p0
def fix_Clip (K : Nat) (p0 : Int) (p1 : Int) (p2 : Int) : Option (Int) :=
  (fix_within_int64 K p0 p1 p2).bind fun r2 =>
  some r2
def wave_sine.r0 (_K : Nat) (_c0 : Int) (_c1 : Int) (c2 : Int) (next : Int → Int → Option (Int)) (x27 : Int) (x28 : Int) : Option (Int) :=
  let v31 := (decide (x28 < 4))
  bif v31 then
    let v32 := (List.getD [5026995, 85569306, 693598668, 1686629713] (Int.toNat x28) 0)
    gd ((0 : Int) ≤ x28 ∧ x28 < 4) <|
    let v33 := (kwrap .u64 (x27 * c2))
    let v34 := (kshr .u64 v33 30)
    let v35 := (kwrap .u64 (v32 - v34))
    let v36 := (kwrap .i64 (x28 + 1))
    next v35 v36
  else
    some x27
def wave_sine.l0 (K : Nat) (c0 : Int) (c1 : Int) (c2 : Int) (n : Nat) : Int → Int → Option (Int) := rounds (wave_sine.r0 K c0 c1 c2) (fun _ _ => none) n
def wave_sine (K : Nat) (p0 : Int) (p1 : Int) : Option (Int) :=
  (wave_height K p0 p1).bind fun (r11, r12) =>
  let v13 := (kwrap .u64 (r11 * r11))
  let v14 := (kshr .u64 v13 30)
  (wave_sine.l0 K r11 r12 v14 K 172272 0 : Option (Int)).bind fun x19 =>
    let v20 := (kwrap .u64 (x19 * r11))
    let v21 := (kshr .u64 v20 30)
    let v22 := (kwrap .i64 v21)
    (fix_Round K v22 15).bind fun r23 =>
    (fix_Clip K r23 0 32767).bind fun r24 =>
    let v25 := (decide (r12 ≥ 2))
    (
      bif v25 then
        some ((kwrap .i64 (0 - r24)))
      else
        some r24 : Option (Int)).bind fun x26 =>
      some (kwrap .i16 x26)
def wave_Sine (K : Nat) (p0 : Int) (p1 : Int) : Option (Int × Int) :=
  let v2 := (decide (p1 < 1))
  let v3 := (decide (p1 > 1048576))
  let v4 := (bif v2 then true else v3)
  bif v4 then
    some (0, 1)
  else
    (wave_sine K p0 p1).bind fun r5 =>
    some (r5, 0)
def fix_Sat32 (K : Nat) (p0 : Int) : Option (Int) :=
  (fix_within_int64 K p0 (-2147483648) 2147483647).bind fun r2 =>
  some (kwrap .i32 r2)
def fix_Mul15 (K : Nat) (p0 : Int) (p1 : Int) : Option (Int) :=
  let v3 := (kwrap .i64 ((kwrap .i64 p0) * (kwrap .i64 p1)))
  (fix_Round K v3 15).bind fun r4 =>
  (fix_Sat32 K r4).bind fun r5 =>
  some r5
def score_reader_tone.r0 (K : Nat) (c0 : Int) (c1 : Int) (c2 : Int) (c3 : Int) (_c4 : Bool) (next : Int → List (Int) → Option ((List (Int)))) (x60 : Int) (x61 : List (Int)) : Option ((List (Int))) :=
  let v70 := (decide (x60 < c3))
  bif v70 then
    let v74 := (kwrap .i64 (x60 * c1))
    (wave_Sine K v74 c2).bind fun (r75, _r76) =>
    (fix_Mul15 K (kwrap .i32 c0) r75).bind fun r77 =>
    let v78 := (List.set x61 (Int.toNat x60) (kwrap .i16 r77))
    gd ((0 : Int) ≤ x60 ∧ x60 < (x61.length : Int) ∧ (Int.toNat x60) < x61.length) <|
    let v79 := (kwrap .i64 (x60 + 1))
    next v79 v78
  else
    some x61
def score_reader_tone.l0 (K : Nat) (c0 : Int) (c1 : Int) (c2 : Int) (c3 : Int) (c4 : Bool) (n : Nat) : Int → List (Int) → Option ((List (Int))) := rounds (score_reader_tone.r0 K c0 c1 c2 c3 c4) (fun _ _ => none) n
def score_reader_tone (K : Nat) (p0 : Bool) : Option ((Unit) ⊕ ((List (Int)) × Bool)) :=
  (score_reader_number K 32767 p0).bind fun (r26, r27) =>
  (score_reader_number K 65535 r27).bind fun (r28, r29) =>
  (score_reader_number K 65535 r29).bind fun (r30, r31) =>
  (score_reader_number K 4096 r31).bind fun (r32, r33) =>
  let v34 := (bif r33 then true else (r30 == 0))
  bif v34 then
    some (.inl ())
  else
    let v35 := (List.replicate (Int.toNat r32) (0 : Int))
    gd ((0 : Int) ≤ r32 ∧ r32 ≤ r32 ∧ r32 * 2 ≤ 140737488355328) <|
    let v36 := (v35.length : Int)
    (score_reader_tone.l0 K r26 r28 r30 v36 r33 K 0 v35 : Option ((List (Int)))).bind fun x53 =>
      some (.inr (x53, r33))
def strings_IndexByte (K : Nat) (p0 : ByteArray) (p1 : Int) : Option (Int) :=
  (internal_stringslite_IndexByte K p0 p1).bind fun r2 =>
  some r2
def score_reader_digit (K : Nat) (p0 : Int) (p1 : Bool) : Option (Int × Bool) :=
  (strings_IndexByte K (⟨#[48, 49, 50, 51, 52, 53, 54, 55, 56, 57, 97, 98, 99, 100, 101, 102]⟩ : ByteArray) p0).bind fun r2 =>
  let v3 := (decide (r2 < 0))
  bif v3 then
    some (0, true)
  else
    some ((kwrap .u8 r2), p1)
def score_reader_bytes.r0 (K : Nat) (c0 : ByteArray) (next : Int → Bool → List (Int) → Option (Bool × (List (Int)))) (x63 : Int) (x64 : Bool) (x65 : List (Int)) : Option (Bool × (List (Int))) :=
  let v77 := (decide (x63 < (c0.size : Int)))
  bif v77 then
    let v82 := (sbyte c0 (Int.toNat x63))
    gd ((0 : Int) ≤ x63 ∧ x63 < (c0.size : Int)) <|
    (score_reader_digit K v82 x64).bind fun (r83, r84) =>
    let v85 := (kshl .u8 r83 4)
    let v86 := (kwrap .i64 (x63 + 1))
    let v87 := (sbyte c0 (Int.toNat v86))
    gd ((0 : Int) ≤ v86 ∧ v86 < (c0.size : Int)) <|
    (score_reader_digit K v87 r84).bind fun (r88, r89) =>
    let v90 := (kor .u8 v85 r88)
    let v91 := (x65 ++ [v90])
    gd (((x65.length : Int) + ([v90].length : Int)) * 1 ≤ 70368744177664) <|
    let v92 := (kwrap .i64 (x63 + 2))
    next v92 r89 v91
  else
    some (x64, x65)
def score_reader_bytes.l0 (K : Nat) (c0 : ByteArray) (n : Nat) : Int → Bool → List (Int) → Option (Bool × (List (Int))) := rounds (score_reader_bytes.r0 K c0) (fun _ _ _ => none) n
def score_reader_bytes (K : Nat) (p0 : Bool) : Option ((Unit) ⊕ ((List (Int)) × Bool)) :=
  (score_reader_word K p0).bind fun r26 =>
  let v27 := (beqs r26 (⟨#[45]⟩ : ByteArray))
  bif v27 then
    some (.inl ())
  else
    let v28 := (beqs r26 (⟨#[]⟩ : ByteArray))
    let v29 := (Int.tmod (r26.size : Int) 2)
    let v30 := (bif v28 then true else (v29 == 1))
    bif v30 then
      some (.inl ())
    else
      (score_reader_bytes.l0 K r26 K 0 true ([] : List (Int)) : Option (Bool × (List (Int)))).bind fun (x53, x54) =>
        some (.inr (x54, x53))
def weather_Check.r0 (_K : Nat) (c0 : Int) (c1 : Int) (c2 : Int) (c3 : Int) (next : Int → Option ((Unit) ⊕ (Int))) (x5 : Int) : Option ((Unit) ⊕ (Int)) :=
  let v7 := (decide (x5 < 4))
  bif v7 then
    let v8 := (List.getD [c0, c1, c2, c3] (Int.toNat x5) 0)
    gd ((0 : Int) ≤ x5 ∧ x5 < 4) <|
    let v9 := (decide (v8 < 0))
    let v10 := (decide (v8 > 65536))
    let v11 := (bif v9 then true else v10)
    bif v11 then
      some (.inr 1)
    else
      let v12 := (kwrap .i64 (x5 + 1))
      next v12
  else
    some (.inl ())
def weather_Check.l0 (K : Nat) (c0 : Int) (c1 : Int) (c2 : Int) (c3 : Int) (n : Nat) : Int → Option ((Unit) ⊕ (Int)) := rounds (weather_Check.r0 K c0 c1 c2 c3) (fun _ => none) n
def weather_Check (K : Nat) (p0 : Int) (p1 : Int) (p2 : Int) (p3 : Int) : Option (Int) :=
  (weather_Check.l0 K p0 p1 p2 p3 K 0 : Option ((Unit) ⊕ (Int))).bind fun z => match z with
  | .inl _ =>
    some 0
  | .inr r =>
    some r
def weather_New (K : Nat) (p0 : Int) (p1 : Int) (p2 : Int) (p3 : Int) (_p4 : Int) : Option ((Int) ⊕ (Unit)) :=
  (weather_Check K p0 p1 p2 p3).bind fun r2 =>
  bif (r2 != 0) then
    some (.inl r2)
  else
    some (.inr ())
def weather_Weather_Row (_K : Nat) (_p0 : Int) : Option (Unit) :=
  some ()
def weather_Weather_of (_K : Nat) (p0 : Int) (p1 : Int) (_p2 : Int) (_p3 : Int) (_p4 : Int) (_p5 : Int) (_p6 : Int) (p7 : Bool) : Option (Int) :=
  bif p7 then
    some p1
  else
    some p0
def weather_Weather_Draw (_K : Nat) (_p0 : Int) (_p1 : Int) (_p2 : Int) (_p3 : Int) (p4 : Int) (_p5 : Bool) : Option (Int × Int) :=
  let v1 := (kwrap .u32 (1664525 * p4))
  let v2 := (kwrap .u32 (v1 + 1013904223))
  let v3 := (kshr .u32 v2 16)
  let v4 := (kwrap .i64 v3)
  some (v4, v2)
def weather_Weather_comes (K : Nat) (p0 : Int) (p1 : Int) (p2 : Int) (p3 : Int) (p4 : Int) (p5 : Int) (p6 : Bool) : Option (Bool × Int) :=
  (weather_Weather_Draw K p1 p2 p3 p4 p5 p6).bind fun (r3, r4) =>
  let v5 := (decide (r3 < p0))
  some (v5, r4)
def weather_Weather_Lost (K : Nat) (p0 : Int) (p1 : Int) (p2 : Int) (p3 : Int) (p4 : Int) (p5 : Bool) : Option (Bool × Int × Bool) :=
  (weather_Weather_of K p0 p1 p0 p1 p2 p3 p4 p5).bind fun r8 =>
  (weather_Weather_comes K r8 p0 p1 p2 p3 p4 p5).bind fun (r9, r10) =>
  (
    bif r9 then
      some (!p5)
    else
      some p5 : Option (Bool)).bind fun x11 =>
    (weather_Weather_of K p2 p3 p0 p1 p2 p3 r10 x11).bind fun r12 =>
    (weather_Weather_comes K r12 p0 p1 p2 p3 r10 x11).bind fun (r13, r14) =>
    some (r13, r14, x11)
def weather_bit (_K : Nat) (p0 : Bool) : Option (Int) :=
  bif p0 then
    some 1
  else
    some 0
def weather_Weather_Row_2.r0 (K : Nat) (c0 : Int) (c1 : Int) (c2 : Int) (c3 : Int) (c4 : Int) (next : Int → Int → Bool → List ((Int × (Int × (Int × Int)))) → Option (Int × Bool × (List ((Int × (Int × (Int × Int))))))) (x104 : Int) (x105 : Int) (x106 : Bool) (x107 : List ((Int × (Int × (Int × Int))))) : Option (Int × Bool × (List ((Int × (Int × (Int × Int)))))) :=
  let v128 := (decide (x104 < c0))
  bif v128 then
    (weather_Weather_Lost K c1 c2 c3 c4 x105 x106).bind fun (r137, r138, r139) =>
    (weather_bit K r137).bind fun r140 =>
    (weather_Weather_Lost K c1 c2 c3 c4 r138 r139).bind fun (r141, r142, r143) =>
    (weather_bit K r141).bind fun r144 =>
    let v145 := [(r140, (r144, (0, 0)))]
    let v146 := (x107 ++ v145)
    gd (((x107.length : Int) + (v145.length : Int)) * 32 ≤ 70368744177664) <|
    let v147 := (kwrap .i64 (x104 + 1))
    next v147 r142 r143 v146
  else
    some (x105, x106, x107)
def weather_Weather_Row_2.l0 (K : Nat) (c0 : Int) (c1 : Int) (c2 : Int) (c3 : Int) (c4 : Int) (n : Nat) : Int → Int → Bool → List ((Int × (Int × (Int × Int)))) → Option (Int × Bool × (List ((Int × (Int × (Int × Int)))))) := rounds (weather_Weather_Row_2.r0 K c0 c1 c2 c3 c4) (fun _ _ _ _ => none) n
def weather_Weather_Row_2 (K : Nat) (p0 : Int) (p1 : Int) (p2 : Int) (p3 : Int) (p4 : Int) (p5 : Int) (p6 : Bool) : Option ((List ((Int × (Int × (Int × Int))))) × Int × Bool) :=
  let v44 := (imin (imax p0 0) 64)
  (weather_Weather_Row_2.l0 K v44 p1 p2 p3 p4 K 0 p5 p6 ([] : List ((Int × (Int × (Int × Int))))) : Option (Int × Bool × (List ((Int × (Int × (Int × Int))))))).bind fun (x85, x86, x87) =>
    some (x87, x85, x86)
def score_reader_storm.r0 (K : Nat) (c0 : Int) (c1 : Int) (_c2 : Bool) (next : Int → List ((Int × (Int × (List (Int) × (List (Int) × (List (Int) × List ((Int × (Int × (Int × Int)))))))))) → Option ((List ((Int × (Int × (List (Int) × (List (Int) × (List (Int) × List ((Int × (Int × (Int × Int))))))))))))) (x63 : Int) (x64 : List ((Int × (Int × (List (Int) × (List (Int) × (List (Int) × List ((Int × (Int × (Int × Int))))))))))) : Option ((List ((Int × (Int × (List (Int) × (List (Int) × (List (Int) × List ((Int × (Int × (Int × Int)))))))))))) :=
  let v67 := (decide (x63 < c1))
  bif v67 then
    (weather_Weather_Row K c0).bind fun _ =>
    let v68 := [(4, (0, (([] : List (Int)), (([] : List (Int)), (([] : List (Int)), ([] : List ((Int × (Int × (Int × Int))))))))))]
    gd (((x64.length : Int) + (v68.length : Int)) * 112 ≤ 70368744177664) <|
    let v69 := (kwrap .i64 (x63 + 1))
    next v69 (x64 ++ v68)
  else
    some x64
def score_reader_storm.l0 (K : Nat) (c0 : Int) (c1 : Int) (c2 : Bool) (n : Nat) : Int → List ((Int × (Int × (List (Int) × (List (Int) × (List (Int) × List ((Int × (Int × (Int × Int)))))))))) → Option ((List ((Int × (Int × (List (Int) × (List (Int) × (List (Int) × List ((Int × (Int × (Int × Int)))))))))))) := rounds (score_reader_storm.r0 K c0 c1 c2) (fun _ _ => none) n
def score_reader_storm.r1 (K : Nat) (c0 : Int) (c1 : Int) (_c2 : Bool) (c3 : Int) (c4 : Int) (c5 : Int) (c6 : Int) (next : Int → Int → Bool → List ((Int × (Int × (List (Int) × (List (Int) × (List (Int) × List ((Int × (Int × (Int × Int)))))))))) → Option ((List ((Int × (Int × (List (Int) × (List (Int) × (List (Int) × List ((Int × (Int × (Int × Int))))))))))))) (x98 : Int) (x99 : Int) (x100 : Bool) (x101 : List ((Int × (Int × (List (Int) × (List (Int) × (List (Int) × List ((Int × (Int × (Int × Int))))))))))) : Option ((List ((Int × (Int × (List (Int) × (List (Int) × (List (Int) × List ((Int × (Int × (Int × Int)))))))))))) :=
  let v112 := (decide (x98 < c1))
  bif v112 then
    (weather_Weather_Row_2 K c0 c3 c4 c5 c6 x99 x100).bind fun (r116, r117, r118) =>
    let v119 := [(4, (0, (([] : List (Int)), (([] : List (Int)), (([] : List (Int)), r116)))))]
    let v120 := (x101 ++ v119)
    gd (((x101.length : Int) + (v119.length : Int)) * 112 ≤ 70368744177664) <|
    let v121 := (kwrap .i64 (x98 + 1))
    next v121 r117 r118 v120
  else
    some x101
def score_reader_storm.l1 (K : Nat) (c0 : Int) (c1 : Int) (c2 : Bool) (c3 : Int) (c4 : Int) (c5 : Int) (c6 : Int) (n : Nat) : Int → Int → Bool → List ((Int × (Int × (List (Int) × (List (Int) × (List (Int) × List ((Int × (Int × (Int × Int)))))))))) → Option ((List ((Int × (Int × (List (Int) × (List (Int) × (List (Int) × List ((Int × (Int × (Int × Int)))))))))))) := rounds (score_reader_storm.r1 K c0 c1 c2 c3 c4 c5 c6) (fun _ _ _ _ => none) n
def score_reader_storm (K : Nat) (p0 : Bool) : Option ((Unit) ⊕ ((List ((Int × (Int × (List (Int) × (List (Int) × (List (Int) × List ((Int × (Int × (Int × Int))))))))))) × Bool)) :=
  (score_reader_number K 4294967295 p0).bind fun (r42, r43) =>
  (score_reader_number K 65536 r43).bind fun (r44, r45) =>
  (score_reader_number K 65536 r45).bind fun (r46, r47) =>
  (score_reader_number K 65536 r47).bind fun (r48, r49) =>
  (score_reader_number K 65536 r49).bind fun (r50, r51) =>
  (score_reader_number K 64 r51).bind fun (r52, r53) =>
  (score_reader_number K 16 r53).bind fun (r54, r55) =>
  (weather_New K r44 r46 r48 r50 (kwrap .u32 r42)).bind fun z => match z with
  | .inl r56 =>
    let v57 := (bif r55 then true else (r56 != 0))
    bif v57 then
      some (.inl ())
    else
      (score_reader_storm.l0 K r54 r52 r55 K 0 ([] : List ((Int × (Int × (List (Int) × (List (Int) × (List (Int) × List ((Int × (Int × (Int × Int))))))))))) : Option ((List ((Int × (Int × (List (Int) × (List (Int) × (List (Int) × List ((Int × (Int × (Int × Int))))))))))))).bind fun x62 =>
        some (.inr (x62, r55))
  | .inr _ =>
    let v70 := (bif r55 then true else false)
    bif v70 then
      some (.inl ())
    else
      (score_reader_storm.l1 K r54 r52 r55 r44 r46 r48 r50 K 0 (kwrap .u32 r42) false ([] : List ((Int × (Int × (List (Int) × (List (Int) × (List (Int) × List ((Int × (Int × (Int × Int))))))))))) : Option ((List ((Int × (Int × (List (Int) × (List (Int) × (List (Int) × List ((Int × (Int × (Int × Int))))))))))))).bind fun x91 =>
        some (.inr (x91, r55))
def score_reader_steps.r0 (_K : Nat)  (_next : Option (Unit))  : Option (Unit) :=
  some ()
def score_reader_steps.l0 (K : Nat)  (n : Nat) : Option (Unit) := rounds (score_reader_steps.r0 K) (none) n
def score_reader_steps.r1 (_K : Nat)  (_next : Option (Unit))  : Option (Unit) :=
  some ()
def score_reader_steps.l1 (K : Nat)  (n : Nat) : Option (Unit) := rounds (score_reader_steps.r1 K) (none) n
def score_reader_steps (K : Nat) (p0 : Bool) : Option ((Unit) ⊕ ((List ((Int × (Int × (List (Int) × (List (Int) × (List (Int) × List ((Int × (Int × (Int × Int))))))))))) × Bool)) :=
  (score_reader_word K p0).bind fun r83 =>
  let v99 := (beqs r83 (⟨#[115, 97, 109, 112, 108, 101, 115]⟩ : ByteArray))
  bif v99 then
    (score_reader_steps.l0 K K  : Option (Unit)).bind fun _ =>
      let v115 := [(1, (0, (([] : List (Int)), (([] : List (Int)), (([] : List (Int)), ([] : List ((Int × (Int × (Int × Int))))))))))]
      some (.inr (v115, true))
  else
    let v116 := (beqs r83 (⟨#[116, 111, 110, 101]⟩ : ByteArray))
    bif v116 then
      (score_reader_tone K true).bind fun z => match z with
      | .inl _ =>
        let v134 := [(1, (0, (([] : List (Int)), (([] : List (Int)), (([] : List (Int)), ([] : List ((Int × (Int × (Int × Int))))))))))]
        some (.inr (v134, true))
      | .inr (r132, r133) =>
        let v135 := [(1, (0, (r132, (([] : List (Int)), (([] : List (Int)), ([] : List ((Int × (Int × (Int × Int))))))))))]
        some (.inr (v135, r133))
    else
      let v136 := (beqs r83 (⟨#[99, 97, 108, 108]⟩ : ByteArray))
      bif v136 then
        (score_reader_number K 99 true).bind fun (r150, r151) =>
        let v152 := [(2, (r150, (([] : List (Int)), (([] : List (Int)), (([] : List (Int)), ([] : List ((Int × (Int × (Int × Int))))))))))]
        some (.inr (v152, r151))
      else
        let v153 := (beqs r83 (⟨#[101, 110, 100, 115]⟩ : ByteArray))
        bif v153 then
          (score_reader_bytes K true).bind fun z => match z with
          | .inl _ =>
            (score_reader_bytes K true).bind fun z => match z with
            | .inl _ =>
              let v168 := [(3, (0, (([] : List (Int)), (([] : List (Int)), (([] : List (Int)), ([] : List ((Int × (Int × (Int × Int))))))))))]
              some (.inr (v168, true))
            | .inr (r166, r167) =>
              let v169 := [(3, (0, (([] : List (Int)), (([] : List (Int)), (r166, ([] : List ((Int × (Int × (Int × Int))))))))))]
              some (.inr (v169, r167))
          | .inr (r164, r165) =>
            (score_reader_bytes K r165).bind fun z => match z with
            | .inl _ =>
              let v172 := [(3, (0, (([] : List (Int)), (r164, (([] : List (Int)), ([] : List ((Int × (Int × (Int × Int))))))))))]
              some (.inr (v172, true))
            | .inr (r170, r171) =>
              let v173 := [(3, (0, (([] : List (Int)), (r164, (r170, ([] : List ((Int × (Int × (Int × Int))))))))))]
              some (.inr (v173, r171))
        else
          let v174 := (beqs r83 (⟨#[105, 110, 116, 101, 114, 118, 97, 108]⟩ : ByteArray))
          (
            bif v174 then
              (score_reader_steps.l1 K K  : Option (Unit)).bind fun _ =>
                some (.inl 4)
            else
              let v179 := (beqs r83 (⟨#[115, 116, 111, 114, 109]⟩ : ByteArray))
              bif v179 then
                (score_reader_storm K true).bind fun z => match z with
                | .inl _ =>
                  some (.inr (.inl ()))
                | .inr (r180, r181) =>
                  some (.inr (.inr (r180, r181)))
              else
                some (.inl 0) : Option ((Int) ⊕ ((Unit) ⊕ ((List ((Int × (Int × (List (Int) × (List (Int) × (List (Int) × List ((Int × (Int × (Int × Int))))))))))) × Bool)))).bind fun z => match z with
          | .inl x177 =>
            let v178 := [(x177, (0, (([] : List (Int)), (([] : List (Int)), (([] : List (Int)), ([] : List ((Int × (Int × (Int × Int))))))))))]
            some (.inr (v178, true))
          | .inr r =>
            some r
def score_reader_word_2 (_K : Nat) (p0 : List (ByteArray)) (p1 : Bool) : Option (ByteArray × (List (ByteArray)) × Bool) :=
  let v1 := ((p0.length : Int) == 0)
  bif v1 then
    some ((⟨#[]⟩ : ByteArray), p0, true)
  else
    let v2 := (Kd.nth (.str) p0 0)
    gd (0 < (p0.length : Int)) <|
    let v3 := ((p0.take (Int.toNat (p0.length : Int))).drop (Int.toNat 1))
    gd (1 ≤ (p0.length : Int) ∧ (p0.length : Int) ≤ (p0.length : Int)) <|
    some (v2, v3, p1)
def internal_stringslite_HasPrefix (_K : Nat) (p0 : ByteArray) (p1 : ByteArray) : Option (Bool) :=
  let v1 := (decide ((p0.size : Int) ≥ (p1.size : Int)))
  let v2 := (p0.extract (Int.toNat 0) (Int.toNat (p1.size : Int)))
  let v3 := (bif v1 then (beqs v2 p1) else false)
  gd ((v1 = true → 0 ≤ (p1.size : Int)) ∧ (v1 = true → (p1.size : Int) ≤ (p0.size : Int))) <|
  some v3
def internal_stringslite_CutPrefix (K : Nat) (p0 : ByteArray) (p1 : ByteArray) : Option (ByteArray × Bool) :=
  (internal_stringslite_HasPrefix K p0 p1).bind fun r2 =>
  bif (!r2) then
    some (p0, false)
  else
    let v3 := (p0.extract (Int.toNat (p1.size : Int)) (Int.toNat (p0.size : Int)))
    gd ((0 : Int) ≤ (p1.size : Int) ∧ (p1.size : Int) ≤ (p0.size : Int) ∧ (p0.size : Int) ≤ (p0.size : Int)) <|
    some (v3, true)
def strings_CutPrefix (K : Nat) (p0 : ByteArray) (p1 : ByteArray) : Option (ByteArray × Bool) :=
  (internal_stringslite_CutPrefix K p0 p1).bind fun (r3, r4) =>
  some (r3, r4)
def score_reader_value_2.r0 (_K : Nat) (c0 : ByteArray) (_c1 : Int) (c2 : Int) (_c3 : List (ByteArray)) (_c4 : Bool) (next : Int → Int → Option ((Int) ⊕ (Int × Bool))) (x22 : Int) (x23 : Int) : Option ((Int) ⊕ (Int × Bool)) :=
  let v27 := (decide (x23 < c2))
  bif v27 then
    (
      let v30 := (sbyte c0 (Int.toNat x23))
      let v31 := (decide (v30 < 48))
      let v32 := (decide (v30 > 57))
      let v33 := (bif v31 then true else v32)
      gd ((0 : Int) ≤ x23 ∧ x23 < (c0.size : Int) ∧ ((!v31) = true → (0 : Int) ≤ x23) ∧ ((!v31) = true → x23 < (c0.size : Int))) <|
      bif v33 then
        some (.inr (0, true))
      else
        let v34 := (decide (x23 < 10))
        bif v34 then
          let v35 := (kwrap .i64 (10 * x22))
          let v36 := (kwrap .u8 (v30 - 48))
          let v37 := (kwrap .i64 v36)
          let v38 := (kwrap .i64 (v35 + v37))
          gd ((0 : Int) ≤ x23 ∧ x23 < (c0.size : Int)) <|
          some (.inl v38)
        else
          some (.inl x22) : Option ((Int) ⊕ (Int × Bool))).bind fun z => match z with
    | .inl x28 =>
      let v29 := (kwrap .i64 (x23 + 1))
      next x28 v29
    | .inr r =>
      some (.inr r)
  else
    some (.inl x22)
def score_reader_value_2.l0 (K : Nat) (c0 : ByteArray) (c1 : Int) (c2 : Int) (c3 : List (ByteArray)) (c4 : Bool) (n : Nat) : Int → Int → Option ((Int) ⊕ (Int × Bool)) := rounds (score_reader_value_2.r0 K c0 c1 c2 c3 c4) (fun _ _ => none) n
def score_reader_value_2 (K : Nat) (p0 : ByteArray) (p1 : Int) (p2 : List (ByteArray)) (p3 : Bool) : Option (Int × Bool) :=
  (score_reader_value_2.l0 K p0 p1 (p0.size : Int) p2 p3 K 0 0 : Option ((Int) ⊕ (Int × Bool))).bind fun z => match z with
  | .inl x12 =>
    let v13 := (beqs p0 (⟨#[]⟩ : ByteArray))
    let v14 := (decide ((p0.size : Int) > 10))
    let v15 := (bif v13 then true else v14)
    let v16 := (decide ((p0.size : Int) > 1))
    let v17 := ((sbyte p0 0) == 48)
    let v18 := (bif v16 then v17 else false)
    let v19 := (bif v15 then true else v18)
    let v20 := (decide (x12 > p1))
    let v21 := (bif v19 then true else v20)
    gd ((((!v15) && v16) = true → 0 < (p0.size : Int))) <|
    bif v21 then
      some (0, true)
    else
      some (x12, p3)
  | .inr r =>
    some r
def score_reader_sample (K : Nat) (p0 : List (ByteArray)) (p1 : Bool) : Option (Int × (List (ByteArray)) × Bool) :=
  (score_reader_word_2 K p0 p1).bind fun (r12, r13, r14) =>
  (strings_CutPrefix K r12 (⟨#[45]⟩ : ByteArray)).bind fun (r15, r16) =>
  bif r16 then
    (score_reader_value_2 K r15 32768 r13 r14).bind fun (r19, r20) =>
    let v21 := (kwrap .i16 (kwrap .i64 (0 - r19)))
    some (v21, r13, r20)
  else
    (score_reader_value_2 K r15 32767 r13 r14).bind fun (r22, r23) =>
    some ((kwrap .i16 r22), r13, r23)
def score_reader_number_2 (K : Nat) (p0 : Int) (p1 : List (ByteArray)) (p2 : Bool) : Option (Int × (List (ByteArray)) × Bool) :=
  (score_reader_word_2 K p1 p2).bind fun (r6, r7, r8) =>
  (score_reader_value_2 K r6 p0 r7 r8).bind fun (r9, r10) =>
  some (r9, r7, r10)
def score_reader_tone_2.r0 (K : Nat) (c0 : Int) (c1 : Int) (c2 : Int) (c3 : Int) (_c4 : List (ByteArray)) (_c5 : Bool) (next : Int → List (Int) → Option ((List (Int)))) (x68 : Int) (x69 : List (Int)) : Option ((List (Int))) :=
  let v78 := (decide (x68 < c3))
  bif v78 then
    let v82 := (kwrap .i64 (x68 * c1))
    (wave_Sine K v82 c2).bind fun (r83, _r84) =>
    (fix_Mul15 K (kwrap .i32 c0) r83).bind fun r85 =>
    let v86 := (List.set x69 (Int.toNat x68) (kwrap .i16 r85))
    gd ((0 : Int) ≤ x68 ∧ x68 < (x69.length : Int) ∧ (Int.toNat x68) < x69.length) <|
    let v87 := (kwrap .i64 (x68 + 1))
    next v87 v86
  else
    some x69
def score_reader_tone_2.l0 (K : Nat) (c0 : Int) (c1 : Int) (c2 : Int) (c3 : Int) (c4 : List (ByteArray)) (c5 : Bool) (n : Nat) : Int → List (Int) → Option ((List (Int))) := rounds (score_reader_tone_2.r0 K c0 c1 c2 c3 c4 c5) (fun _ _ => none) n
def score_reader_tone_2 (K : Nat) (p0 : List (ByteArray)) (p1 : Bool) : Option (((List (ByteArray))) ⊕ ((List (Int)) × (List (ByteArray)) × Bool)) :=
  (score_reader_number_2 K 32767 p0 p1).bind fun (r30, r31, r32) =>
  (score_reader_number_2 K 65535 r31 r32).bind fun (r33, r34, r35) =>
  (score_reader_number_2 K 65535 r34 r35).bind fun (r36, r37, r38) =>
  (score_reader_number_2 K 4096 r37 r38).bind fun (r39, r40, r41) =>
  let v42 := (bif r41 then true else (r36 == 0))
  bif v42 then
    some (.inl r40)
  else
    let v43 := (List.replicate (Int.toNat r39) (0 : Int))
    gd ((0 : Int) ≤ r39 ∧ r39 ≤ r39 ∧ r39 * 2 ≤ 140737488355328) <|
    let v44 := (v43.length : Int)
    (score_reader_tone_2.l0 K r30 r33 r36 v44 r40 r41 K 0 v43 : Option ((List (Int)))).bind fun x61 =>
      some (.inr (x61, r40, r41))
def score_reader_digit_2 (K : Nat) (p0 : Int) (_p1 : List (ByteArray)) (p2 : Bool) : Option (Int × Bool) :=
  (strings_IndexByte K (⟨#[48, 49, 50, 51, 52, 53, 54, 55, 56, 57, 97, 98, 99, 100, 101, 102]⟩ : ByteArray) p0).bind fun r2 =>
  let v3 := (decide (r2 < 0))
  bif v3 then
    some (0, true)
  else
    some ((kwrap .u8 r2), p2)
def score_reader_bytes_2.r0 (K : Nat) (c0 : ByteArray) (c1 : List (ByteArray)) (next : Int → Bool → List (Int) → Option (Bool × (List (Int)))) (x67 : Int) (x68 : Bool) (x69 : List (Int)) : Option (Bool × (List (Int))) :=
  let v81 := (decide (x67 < (c0.size : Int)))
  bif v81 then
    let v86 := (sbyte c0 (Int.toNat x67))
    gd ((0 : Int) ≤ x67 ∧ x67 < (c0.size : Int)) <|
    (score_reader_digit_2 K v86 c1 x68).bind fun (r87, r88) =>
    let v89 := (kshl .u8 r87 4)
    let v90 := (kwrap .i64 (x67 + 1))
    let v91 := (sbyte c0 (Int.toNat v90))
    gd ((0 : Int) ≤ v90 ∧ v90 < (c0.size : Int)) <|
    (score_reader_digit_2 K v91 c1 r88).bind fun (r92, r93) =>
    let v94 := (kor .u8 v89 r92)
    let v95 := (x69 ++ [v94])
    gd (((x69.length : Int) + ([v94].length : Int)) * 1 ≤ 70368744177664) <|
    let v96 := (kwrap .i64 (x67 + 2))
    next v96 r93 v95
  else
    some (x68, x69)
def score_reader_bytes_2.l0 (K : Nat) (c0 : ByteArray) (c1 : List (ByteArray)) (n : Nat) : Int → Bool → List (Int) → Option (Bool × (List (Int))) := rounds (score_reader_bytes_2.r0 K c0 c1) (fun _ _ _ => none) n
def score_reader_bytes_2 (K : Nat) (p0 : List (ByteArray)) (p1 : Bool) : Option (((List (ByteArray)) × Bool) ⊕ ((List (Int)) × (List (ByteArray)) × Bool)) :=
  (score_reader_word_2 K p0 p1).bind fun (r28, r29, r30) =>
  let v31 := (beqs r28 (⟨#[45]⟩ : ByteArray))
  bif v31 then
    some (.inl (r29, r30))
  else
    let v32 := (beqs r28 (⟨#[]⟩ : ByteArray))
    let v33 := (Int.tmod (r28.size : Int) 2)
    let v34 := (bif v32 then true else (v33 == 1))
    bif v34 then
      some (.inl (r29, true))
    else
      (score_reader_bytes_2.l0 K r28 r29 K 0 r30 ([] : List (Int)) : Option (Bool × (List (Int)))).bind fun (x57, x58) =>
        some (.inr (x58, r29, x57))
def score_reader_slot_1 (K : Nat) (p0 : Int) (p1 : Int) (p2 : List (ByteArray)) (p3 : List (ByteArray)) (p4 : Bool) : Option (Int × Bool) :=
  let v3 := (Kd.nth (.str) p2 (Int.toNat p0))
  gd ((0 : Int) ≤ p0 ∧ p0 < (p2.length : Int)) <|
  (score_reader_value_2 K v3 p1 p3 p4).bind fun (r4, r5) =>
  some (r4, r5)
def score_reader_slot (K : Nat) (p0 : List (ByteArray)) (p1 : Bool) : Option (Int × Int × Int × Int × (List (ByteArray)) × Bool) :=
  (score_reader_word_2 K p0 p1).bind fun (r13, r14, r15) =>
  let v16 := (beqs r13 (⟨#[46]⟩ : ByteArray))
  bif v16 then
    some (0, 0, 0, 0, r14, r15)
  else
    let v17 := (beqs r13 (⟨#[120]⟩ : ByteArray))
    bif v17 then
      some (1, 0, 0, 0, r14, r15)
    else
      let v18 := (beqs r13 (⟨#[97]⟩ : ByteArray))
      bif v18 then
        some (0, 1, 0, 0, r14, r15)
      else
        (strings_Split K r13 (⟨#[47]⟩ : ByteArray)).bind fun z => match z with
        | .inl _ =>
          some (0, 0, 0, 0, r14, true)
        | .inr r19 =>
          let v20 := ((r19.length : Int) != 4)
          bif v20 then
            some (0, 0, 0, 0, r14, true)
          else
            (score_reader_slot_1 K 0 2147483647 r19 r14 r15).bind fun (r21, r22) =>
            (score_reader_slot_1 K 1 2147483647 r19 r14 r22).bind fun (r23, r24) =>
            (score_reader_slot_1 K 2 2147483647 r19 r14 r24).bind fun (r25, r26) =>
            let v27 := (Kd.nth (.str) r19 3)
            gd (3 < (r19.length : Int)) <|
            (score_reader_value_2 K v27 4294967295 r14 r26).bind fun (r28, r29) =>
            some (r21, r23, r25, (kwrap .u32 r28), r14, r29)
def score_reader_storm_2.r0 (K : Nat) (c0 : Int) (c1 : Int) (_c2 : List (ByteArray)) (_c3 : Bool) (next : Int → List ((Int × (Int × (List (Int) × (List (Int) × (List (Int) × List ((Int × (Int × (Int × Int)))))))))) → Option ((List ((Int × (Int × (List (Int) × (List (Int) × (List (Int) × List ((Int × (Int × (Int × Int))))))))))))) (x77 : Int) (x78 : List ((Int × (Int × (List (Int) × (List (Int) × (List (Int) × List ((Int × (Int × (Int × Int))))))))))) : Option ((List ((Int × (Int × (List (Int) × (List (Int) × (List (Int) × List ((Int × (Int × (Int × Int)))))))))))) :=
  let v81 := (decide (x77 < c1))
  bif v81 then
    (weather_Weather_Row K c0).bind fun _ =>
    let v82 := [(4, (0, (([] : List (Int)), (([] : List (Int)), (([] : List (Int)), ([] : List ((Int × (Int × (Int × Int))))))))))]
    gd (((x78.length : Int) + (v82.length : Int)) * 112 ≤ 70368744177664) <|
    let v83 := (kwrap .i64 (x77 + 1))
    next v83 (x78 ++ v82)
  else
    some x78
def score_reader_storm_2.l0 (K : Nat) (c0 : Int) (c1 : Int) (c2 : List (ByteArray)) (c3 : Bool) (n : Nat) : Int → List ((Int × (Int × (List (Int) × (List (Int) × (List (Int) × List ((Int × (Int × (Int × Int)))))))))) → Option ((List ((Int × (Int × (List (Int) × (List (Int) × (List (Int) × List ((Int × (Int × (Int × Int)))))))))))) := rounds (score_reader_storm_2.r0 K c0 c1 c2 c3) (fun _ _ => none) n
def score_reader_storm_2.r1 (K : Nat) (c0 : Int) (c1 : Int) (_c2 : List (ByteArray)) (_c3 : Bool) (c4 : Int) (c5 : Int) (c6 : Int) (c7 : Int) (next : Int → Int → Bool → List ((Int × (Int × (List (Int) × (List (Int) × (List (Int) × List ((Int × (Int × (Int × Int)))))))))) → Option ((List ((Int × (Int × (List (Int) × (List (Int) × (List (Int) × List ((Int × (Int × (Int × Int))))))))))))) (x112 : Int) (x113 : Int) (x114 : Bool) (x115 : List ((Int × (Int × (List (Int) × (List (Int) × (List (Int) × List ((Int × (Int × (Int × Int))))))))))) : Option ((List ((Int × (Int × (List (Int) × (List (Int) × (List (Int) × List ((Int × (Int × (Int × Int)))))))))))) :=
  let v126 := (decide (x112 < c1))
  bif v126 then
    (weather_Weather_Row_2 K c0 c4 c5 c6 c7 x113 x114).bind fun (r130, r131, r132) =>
    let v133 := [(4, (0, (([] : List (Int)), (([] : List (Int)), (([] : List (Int)), r130)))))]
    let v134 := (x115 ++ v133)
    gd (((x115.length : Int) + (v133.length : Int)) * 112 ≤ 70368744177664) <|
    let v135 := (kwrap .i64 (x112 + 1))
    next v135 r131 r132 v134
  else
    some x115
def score_reader_storm_2.l1 (K : Nat) (c0 : Int) (c1 : Int) (c2 : List (ByteArray)) (c3 : Bool) (c4 : Int) (c5 : Int) (c6 : Int) (c7 : Int) (n : Nat) : Int → Int → Bool → List ((Int × (Int × (List (Int) × (List (Int) × (List (Int) × List ((Int × (Int × (Int × Int)))))))))) → Option ((List ((Int × (Int × (List (Int) × (List (Int) × (List (Int) × List ((Int × (Int × (Int × Int)))))))))))) := rounds (score_reader_storm_2.r1 K c0 c1 c2 c3 c4 c5 c6 c7) (fun _ _ _ _ => none) n
def score_reader_storm_2 (K : Nat) (p0 : List (ByteArray)) (p1 : Bool) : Option (((List (ByteArray))) ⊕ ((List ((Int × (Int × (List (Int) × (List (Int) × (List (Int) × List ((Int × (Int × (Int × Int))))))))))) × (List (ByteArray)) × Bool)) :=
  (score_reader_number_2 K 4294967295 p0 p1).bind fun (r49, r50, r51) =>
  (score_reader_number_2 K 65536 r50 r51).bind fun (r52, r53, r54) =>
  (score_reader_number_2 K 65536 r53 r54).bind fun (r55, r56, r57) =>
  (score_reader_number_2 K 65536 r56 r57).bind fun (r58, r59, r60) =>
  (score_reader_number_2 K 65536 r59 r60).bind fun (r61, r62, r63) =>
  (score_reader_number_2 K 64 r62 r63).bind fun (r64, r65, r66) =>
  (score_reader_number_2 K 16 r65 r66).bind fun (r67, r68, r69) =>
  (weather_New K r52 r55 r58 r61 (kwrap .u32 r49)).bind fun z => match z with
  | .inl r70 =>
    let v71 := (bif r69 then true else (r70 != 0))
    bif v71 then
      some (.inl r68)
    else
      (score_reader_storm_2.l0 K r67 r64 r68 r69 K 0 ([] : List ((Int × (Int × (List (Int) × (List (Int) × (List (Int) × List ((Int × (Int × (Int × Int))))))))))) : Option ((List ((Int × (Int × (List (Int) × (List (Int) × (List (Int) × List ((Int × (Int × (Int × Int))))))))))))).bind fun x76 =>
        some (.inr (x76, r68, r69))
  | .inr _ =>
    let v84 := (bif r69 then true else false)
    bif v84 then
      some (.inl r68)
    else
      (score_reader_storm_2.l1 K r67 r64 r68 r69 r52 r55 r58 r61 K 0 (kwrap .u32 r49) false ([] : List ((Int × (Int × (List (Int) × (List (Int) × (List (Int) × List ((Int × (Int × (Int × Int))))))))))) : Option ((List ((Int × (Int × (List (Int) × (List (Int) × (List (Int) × List ((Int × (Int × (Int × Int))))))))))))).bind fun x105 =>
        some (.inr (x105, r68, r69))
def score_reader_steps_2.r0 (K : Nat)  (next : List (ByteArray) → Bool → List (Int) → Option ((List (ByteArray)) × Bool × (List (Int)))) (x498 : List (ByteArray)) (x499 : Bool) (x500 : List (Int)) : Option ((List (ByteArray)) × Bool × (List (Int))) :=
  let v507 := (decide ((x498.length : Int) > 0))
  bif v507 then
    (score_reader_sample K x498 x499).bind fun (r508, r509, r510) =>
    let v511 := (x500 ++ [r508])
    gd (((x500.length : Int) + ([r508].length : Int)) * 2 ≤ 70368744177664) <|
    next r509 r510 v511
  else
    some (x498, x499, x500)
def score_reader_steps_2.l0 (K : Nat)  (n : Nat) : List (ByteArray) → Bool → List (Int) → Option ((List (ByteArray)) × Bool × (List (Int))) := rounds (score_reader_steps_2.r0 K) (fun _ _ _ => none) n
def score_reader_steps_2.r1 (K : Nat)  (next : List (ByteArray) → Bool → List ((Int × (Int × (Int × Int)))) → Option ((List (ByteArray)) × Bool × (List ((Int × (Int × (Int × Int))))))) (x743 : List (ByteArray)) (x744 : Bool) (x745 : List ((Int × (Int × (Int × Int))))) : Option ((List (ByteArray)) × Bool × (List ((Int × (Int × (Int × Int)))))) :=
  let v755 := (decide ((x743.length : Int) > 0))
  bif v755 then
    (score_reader_slot K x743 x744).bind fun (r756, r757, r758, r759, r760, r761) =>
    let v762 := [(r756, (r757, (r758, r759)))]
    let v763 := (x745 ++ v762)
    gd (((x745.length : Int) + (v762.length : Int)) * 32 ≤ 70368744177664) <|
    next r760 r761 v763
  else
    some (x743, x744, x745)
def score_reader_steps_2.l1 (K : Nat)  (n : Nat) : List (ByteArray) → Bool → List ((Int × (Int × (Int × Int)))) → Option ((List (ByteArray)) × Bool × (List ((Int × (Int × (Int × Int)))))) := rounds (score_reader_steps_2.r1 K) (fun _ _ _ => none) n
def score_reader_steps_2 (K : Nat) (p0 : List (ByteArray)) (p1 : Bool) : Option (((List (ByteArray))) ⊕ ((List ((Int × (Int × (List (Int) × (List (Int) × (List (Int) × List ((Int × (Int × (Int × Int))))))))))) × (List (ByteArray)) × Bool)) :=
  (score_reader_word_2 K p0 p1).bind fun (r343, r344, r345) =>
  let v412 := (beqs r343 (⟨#[115, 97, 109, 112, 108, 101, 115]⟩ : ByteArray))
  bif v412 then
    (score_reader_steps_2.l0 K K r344 r345 ([] : List (Int)) : Option ((List (ByteArray)) × Bool × (List (Int)))).bind fun (x491, x492, x493) =>
      let v494 := [(1, (0, (x493, (([] : List (Int)), (([] : List (Int)), ([] : List ((Int × (Int × (Int × Int))))))))))]
      some (.inr (v494, x491, x492))
  else
    let v512 := (beqs r343 (⟨#[116, 111, 110, 101]⟩ : ByteArray))
    bif v512 then
      (score_reader_tone_2 K r344 r345).bind fun z => match z with
      | .inl r564 =>
        let v568 := [(1, (0, (([] : List (Int)), (([] : List (Int)), (([] : List (Int)), ([] : List ((Int × (Int × (Int × Int))))))))))]
        some (.inr (v568, r564, true))
      | .inr (r565, r566, r567) =>
        let v569 := [(1, (0, (r565, (([] : List (Int)), (([] : List (Int)), ([] : List ((Int × (Int × (Int × Int))))))))))]
        some (.inr (v569, r566, r567))
    else
      let v570 := (beqs r343 (⟨#[99, 97, 108, 108]⟩ : ByteArray))
      bif v570 then
        (score_reader_number_2 K 99 r344 r345).bind fun (r618, r619, r620) =>
        let v621 := [(2, (r618, (([] : List (Int)), (([] : List (Int)), (([] : List (Int)), ([] : List ((Int × (Int × (Int × Int))))))))))]
        some (.inr (v621, r619, r620))
      else
        let v622 := (beqs r343 (⟨#[101, 110, 100, 115]⟩ : ByteArray))
        bif v622 then
          (score_reader_bytes_2 K r344 r345).bind fun z => match z with
          | .inl (r666, r667) =>
            (score_reader_bytes_2 K r666 r667).bind fun z => match z with
            | .inl (r671, r672) =>
              let v676 := [(3, (0, (([] : List (Int)), (([] : List (Int)), (([] : List (Int)), ([] : List ((Int × (Int × (Int × Int))))))))))]
              some (.inr (v676, r671, r672))
            | .inr (r673, r674, r675) =>
              let v677 := [(3, (0, (([] : List (Int)), (([] : List (Int)), (r673, ([] : List ((Int × (Int × (Int × Int))))))))))]
              some (.inr (v677, r674, r675))
          | .inr (r668, r669, r670) =>
            (score_reader_bytes_2 K r669 r670).bind fun z => match z with
            | .inl (r678, r679) =>
              let v683 := [(3, (0, (([] : List (Int)), (r668, (([] : List (Int)), ([] : List ((Int × (Int × (Int × Int))))))))))]
              some (.inr (v683, r678, r679))
            | .inr (r680, r681, r682) =>
              let v684 := [(3, (0, (([] : List (Int)), (r668, (r680, ([] : List ((Int × (Int × (Int × Int))))))))))]
              some (.inr (v684, r681, r682))
        else
          let v685 := (beqs r343 (⟨#[105, 110, 116, 101, 114, 118, 97, 108]⟩ : ByteArray))
          (
            bif v685 then
              (score_reader_steps_2.l1 K K r344 r345 ([] : List ((Int × (Int × (Int × Int))))) : Option ((List (ByteArray)) × Bool × (List ((Int × (Int × (Int × Int))))))).bind fun (x734, x735, x736) =>
                some (.inl (x734, x735, 4, x736))
            else
              let v764 := (beqs r343 (⟨#[115, 116, 111, 114, 109]⟩ : ByteArray))
              bif v764 then
                (score_reader_storm_2 K r344 r345).bind fun z => match z with
                | .inl r765 =>
                  some (.inr (.inl r765))
                | .inr (r766, r767, r768) =>
                  some (.inr (.inr (r766, r767, r768)))
              else
                some (.inl (r344, true, 0, ([] : List ((Int × (Int × (Int × Int))))))) : Option (((List (ByteArray)) × Bool × Int × (List ((Int × (Int × (Int × Int)))))) ⊕ (((List (ByteArray))) ⊕ ((List ((Int × (Int × (List (Int) × (List (Int) × (List (Int) × List ((Int × (Int × (Int × Int))))))))))) × (List (ByteArray)) × Bool)))).bind fun z => match z with
          | .inl (x711, x712, x713, x714) =>
            let v715 := [(x713, (0, (([] : List (Int)), (([] : List (Int)), (([] : List (Int)), x714)))))]
            some (.inr (v715, x711, x712))
          | .inr r =>
            some r
def score_Parse.r0 (K : Nat)  (next : ByteArray → Int → List ((Int × (Int × (List (Int) × (List (Int) × (List (Int) × List ((Int × (Int × (Int × Int)))))))))) → Option (((List ((Int × (Int × (List (Int) × (List (Int) × (List (Int) × List ((Int × (Int × (Int × Int)))))))))))) ⊕ ((Int × Int) ⊕ ((List ((Int × (Int × (List (Int) × (List (Int) × (List (Int) × List ((Int × (Int × (Int × Int))))))))))))))) (x76 : ByteArray) (x77 : Int) (x78 : List ((Int × (Int × (List (Int) × (List (Int) × (List (Int) × List ((Int × (Int × (Int × Int))))))))))) : Option (((List ((Int × (Int × (List (Int) × (List (Int) × (List (Int) × List ((Int × (Int × (Int × Int)))))))))))) ⊕ ((Int × Int) ⊕ ((List ((Int × (Int × (List (Int) × (List (Int) × (List (Int) × List ((Int × (Int × (Int × Int)))))))))))))) :=
  let v94 := (!(beqs x76 (⟨#[]⟩ : ByteArray)))
  bif v94 then
    (
      (strings_Cut K x76 (⟨#[10]⟩ : ByteArray)).bind fun (r108, r109, r110) =>
      let v111 := (beqs r108 (⟨#[]⟩ : ByteArray))
      let v112 := (sbyte r108 0)
      let v113 := (bif v111 then true else (v112 == 35))
      let v114 := (bif r110 then v113 else false)
      gd (((r110 && (!v111)) = true → 0 < (r108.size : Int))) <|
      bif v114 then
        some (.inl (r109, x78))
      else
        (strings_Split K r108 (⟨#[32]⟩ : ByteArray)).bind fun z => match z with
        | .inl _ =>
          (score_reader_steps K false).bind fun z => match z with
          | .inl _ =>
            let v118 := (x78 ++ ([] : List ((Int × (Int × (List (Int) × (List (Int) × (List (Int) × List ((Int × (Int × (Int × Int))))))))))))
            gd (((x78.length : Int) + (([] : List ((Int × (Int × (List (Int) × (List (Int) × (List (Int) × List ((Int × (Int × (Int × Int))))))))))).length : Int)) * 112 ≤ 70368744177664) <|
            let v119 := (bif (!r110) then true else true)
            let v120 := (bif v119 then true else false)
            let v121 := (v118.length : Int)
            let v122 := (decide (v121 > 4096))
            let v123 := (bif v120 then true else v122)
            bif v123 then
              some (.inr (.inl (x77, 310)))
            else
              some (.inl (r109, v118))
          | .inr (r116, r117) =>
            gd (((x78.length : Int) + (r116.length : Int)) * 112 ≤ 70368744177664) <|
            let v124 := (bif (!r110) then true else r117)
            let v125 := (bif v124 then true else false)
            let v126 := ((x78 ++ r116).length : Int)
            let v127 := (decide (v126 > 4096))
            let v128 := (bif v125 then true else v127)
            bif v128 then
              some (.inr (.inl (x77, 310)))
            else
              some (.inl (r109, (x78 ++ r116)))
        | .inr r115 =>
          (score_reader_steps_2 K r115 false).bind fun z => match z with
          | .inl r129 =>
            let v133 := (x78 ++ ([] : List ((Int × (Int × (List (Int) × (List (Int) × (List (Int) × List ((Int × (Int × (Int × Int))))))))))))
            gd (((x78.length : Int) + (([] : List ((Int × (Int × (List (Int) × (List (Int) × (List (Int) × List ((Int × (Int × (Int × Int))))))))))).length : Int)) * 112 ≤ 70368744177664) <|
            let v134 := (bif (!r110) then true else true)
            let v135 := (decide ((r129.length : Int) > 0))
            let v136 := (bif v134 then true else v135)
            let v137 := (v133.length : Int)
            let v138 := (decide (v137 > 4096))
            let v139 := (bif v136 then true else v138)
            bif v139 then
              some (.inr (.inl (x77, 310)))
            else
              some (.inl (r109, v133))
          | .inr (r130, r131, r132) =>
            gd (((x78.length : Int) + (r130.length : Int)) * 112 ≤ 70368744177664) <|
            let v140 := (bif (!r110) then true else r132)
            let v141 := (decide ((r131.length : Int) > 0))
            let v142 := (bif v140 then true else v141)
            let v143 := ((x78 ++ r130).length : Int)
            let v144 := (decide (v143 > 4096))
            let v145 := (bif v142 then true else v144)
            bif v145 then
              some (.inr (.inl (x77, 310)))
            else
              some (.inl (r109, (x78 ++ r130))) : Option ((ByteArray × (List ((Int × (Int × (List (Int) × (List (Int) × (List (Int) × List ((Int × (Int × (Int × Int)))))))))))) ⊕ ((Int × Int) ⊕ ((List ((Int × (Int × (List (Int) × (List (Int) × (List (Int) × List ((Int × (Int × (Int × Int))))))))))))))).bind fun z => match z with
    | .inl (x105, x106) =>
      let v107 := (kwrap .i64 (x77 + 1))
      next x105 v107 x106
    | .inr r =>
      some (.inr r)
  else
    some (.inl x78)
def score_Parse.l0 (K : Nat)  (n : Nat) : ByteArray → Int → List ((Int × (Int × (List (Int) × (List (Int) × (List (Int) × List ((Int × (Int × (Int × Int)))))))))) → Option (((List ((Int × (Int × (List (Int) × (List (Int) × (List (Int) × List ((Int × (Int × (Int × Int)))))))))))) ⊕ ((Int × Int) ⊕ ((List ((Int × (Int × (List (Int) × (List (Int) × (List (Int) × List ((Int × (Int × (Int × Int)))))))))))))) := rounds (score_Parse.r0 K) (fun _ _ _ => none) n
def score_Parse (K : Nat) (p0 : ByteArray) : Option ((Int × Int) ⊕ ((List ((Int × (Int × (List (Int) × (List (Int) × (List (Int) × List ((Int × (Int × (Int × Int))))))))))))) :=
  let v32 := (decide ((p0.size : Int) > 65536))
  bif v32 then
    some (.inl (0, 2))
  else
    (score_Parse.l0 K K p0 1 ([] : List ((Int × (Int × (List (Int) × (List (Int) × (List (Int) × List ((Int × (Int × (Int × Int))))))))))) : Option (((List ((Int × (Int × (List (Int) × (List (Int) × (List (Int) × List ((Int × (Int × (Int × Int)))))))))))) ⊕ ((Int × Int) ⊕ ((List ((Int × (Int × (List (Int) × (List (Int) × (List (Int) × List ((Int × (Int × (Int × Int))))))))))))))).bind fun z => match z with
    | .inl x63 =>
      some (.inr x63)
    | .inr r =>
      some r
def psalterylaw34_alive (K : Nat)  : Option (Bool) :=
  (score_Parse K (⟨#[35, 32, 110, 111, 119, 10, 105, 110, 116, 101, 114, 118, 97, 108, 32, 46, 32, 120, 32, 97, 32, 50, 47, 48, 47, 55, 55, 47, 53, 10, 116, 111, 110, 101, 32, 49, 48, 48, 32, 49, 32, 52, 32, 53, 10]⟩ : ByteArray)).bind fun z => match z with
  | .inl (r12, r13) =>
    (score_Parse K (⟨#[99, 97, 108, 108, 32, 49, 10, 99, 97, 108, 108, 32, 120, 10]⟩ : ByteArray)).bind fun z => match z with
    | .inl (_r15, _r16) =>
      let v18 := (bif (r13 == 0) then (r12 == 0) else false)
      let v19 := (bif v18 then false else false)
      bif v19 then
        none
      else
        some false
    | .inr _r17 =>
      let v20 := (bif (r13 == 0) then (r12 == 0) else false)
      let v21 := (bif v20 then false else false)
      bif v21 then
        none
      else
        some false
  | .inr r14 =>
    (score_Parse K (⟨#[99, 97, 108, 108, 32, 49, 10, 99, 97, 108, 108, 32, 120, 10]⟩ : ByteArray)).bind fun z => match z with
    | .inl (r22, r23) =>
      (
        let v26 := ((r14.length : Int) == 2)
        bif v26 then
          let v27 := (Kd.nth (.pair (.int .i64) (.pair (.int .i64) (.pair (.slice (.int .i16)) (.pair (.slice (.int .u8)) (.pair (.slice (.int .u8)) (.slice (.pair (.int .i64) (.pair (.int .i64) (.pair (.int .i64) (.int .u32)))))))))) r14 0)
          gd (0 < (r14.length : Int)) <|
          let v28 := (v27.2.2.2.2.2.length : Int)
          let v29 := (Kd.nth (.pair (.int .i64) (.pair (.int .i64) (.pair (.int .i64) (.int .u32)))) v27.2.2.2.2.2 3)
          let v30 := (v29.2.2.1 == 77)
          let v31 := (bif (v28 == 4) then v30 else false)
          let v32 := (Kd.nth (.pair (.int .i64) (.pair (.int .i64) (.pair (.slice (.int .i16)) (.pair (.slice (.int .u8)) (.pair (.slice (.int .u8)) (.slice (.pair (.int .i64) (.pair (.int .i64) (.pair (.int .i64) (.int .u32)))))))))) r14 1)
          let v33 := (v32.2.2.1.length : Int)
          let v34 := (bif v31 then (v33 == 5) else false)
          let v35 := (bif v34 then (r22 == 2) else false)
          let v36 := (bif v35 then (r23 == 310) else false)
          gd (((v28 == 4) = true → 0 < (r14.length : Int)) ∧ ((v28 == 4) = true → 3 < (v27.2.2.2.2.2.length : Int)) ∧ (v31 = true → 1 < (r14.length : Int))) <|
          some v36
        else
          some false : Option (Bool)).bind fun x25 =>
        some x25
    | .inr _r24 =>
      (
        let v38 := ((r14.length : Int) == 2)
        bif v38 then
          let v39 := (Kd.nth (.pair (.int .i64) (.pair (.int .i64) (.pair (.slice (.int .i16)) (.pair (.slice (.int .u8)) (.pair (.slice (.int .u8)) (.slice (.pair (.int .i64) (.pair (.int .i64) (.pair (.int .i64) (.int .u32)))))))))) r14 0)
          gd (0 < (r14.length : Int)) <|
          let v40 := (v39.2.2.2.2.2.length : Int)
          let v41 := (Kd.nth (.pair (.int .i64) (.pair (.int .i64) (.pair (.int .i64) (.int .u32)))) v39.2.2.2.2.2 3)
          let v42 := (v41.2.2.1 == 77)
          let v43 := (bif (v40 == 4) then v42 else false)
          let v44 := (Kd.nth (.pair (.int .i64) (.pair (.int .i64) (.pair (.slice (.int .i16)) (.pair (.slice (.int .u8)) (.pair (.slice (.int .u8)) (.slice (.pair (.int .i64) (.pair (.int .i64) (.pair (.int .i64) (.int .u32)))))))))) r14 1)
          let v45 := (v44.2.2.1.length : Int)
          let v46 := (bif v43 then (v45 == 5) else false)
          let v47 := (bif v46 then false else false)
          let v48 := (bif v47 then false else false)
          gd (((v40 == 4) = true → 0 < (r14.length : Int)) ∧ ((v40 == 4) = true → 3 < (v39.2.2.2.2.2.length : Int)) ∧ (v43 = true → 1 < (r14.length : Int))) <|
          some v48
        else
          some false : Option (Bool)).bind fun x37 =>
        some x37
def psalteryref34_Cut.r0 (_K : Nat) (c0 : ByteArray) (c1 : Int) (next : Int → Int → List (ByteArray) → Option (Int × (List (ByteArray)))) (x29 : Int) (x30 : Int) (x31 : List (ByteArray)) : Option (Int × (List (ByteArray))) :=
  let v37 := (decide (x30 < (c0.size : Int)))
  bif v37 then
    (
      let v41 := (sbyte c0 (Int.toNat x30))
      gd ((0 : Int) ≤ x30 ∧ x30 < (c0.size : Int)) <|
      bif (v41 == c1) then
        let v42 := (c0.extract (Int.toNat x29) (Int.toNat x30))
        let v43 := (x31 ++ [v42])
        gd ((0 : Int) ≤ x29 ∧ x29 ≤ x30 ∧ x30 ≤ (c0.size : Int) ∧ ((x31.length : Int) + ([v42].length : Int)) * 16 ≤ 70368744177664) <|
        let v44 := (kwrap .i64 (x30 + 1))
        some (v44, v43)
      else
        some (x29, x31) : Option (Int × (List (ByteArray)))).bind fun (x38, x39) =>
      let v40 := (kwrap .i64 (x30 + 1))
      next x38 v40 x39
  else
    some (x29, x31)
def psalteryref34_Cut.l0 (K : Nat) (c0 : ByteArray) (c1 : Int) (n : Nat) : Int → Int → List (ByteArray) → Option (Int × (List (ByteArray))) := rounds (psalteryref34_Cut.r0 K c0 c1) (fun _ _ _ => none) n
def psalteryref34_Cut (K : Nat) (p0 : ByteArray) (p1 : Int) : Option ((List (ByteArray))) :=
  (psalteryref34_Cut.l0 K p0 p1 K 0 0 ([] : List (ByteArray)) : Option (Int × (List (ByteArray)))).bind fun (x23, x24) =>
    let v25 := (p0.extract (Int.toNat x23) (Int.toNat (p0.size : Int)))
    let v26 := (x24 ++ [v25])
    gd ((0 : Int) ≤ x23 ∧ x23 ≤ (p0.size : Int) ∧ (p0.size : Int) ≤ (p0.size : Int) ∧ ((x24.length : Int) + ([v25].length : Int)) * 16 ≤ 70368744177664) <|
    some v26
def psalteryref34_Number.r0 (_K : Nat) (c0 : ByteArray) (_c1 : Int) (next : Int → Int → Option ((Int) ⊕ (Int × Bool))) (x19 : Int) (x20 : Int) : Option ((Int) ⊕ (Int × Bool)) :=
  let v23 := (decide (x20 < (c0.size : Int)))
  bif v23 then
    let v24 := (sbyte c0 (Int.toNat x20))
    let v25 := (decide (v24 < 48))
    let v26 := (decide (v24 > 57))
    let v27 := (bif v25 then true else v26)
    gd ((0 : Int) ≤ x20 ∧ x20 < (c0.size : Int) ∧ ((!v25) = true → (0 : Int) ≤ x20) ∧ ((!v25) = true → x20 < (c0.size : Int))) <|
    bif v27 then
      some (.inr (0, false))
    else
      let v28 := (kwrap .i64 (x19 * 10))
      let v29 := (kwrap .i64 v24)
      let v30 := (kwrap .i64 (v28 + v29))
      let v31 := (kwrap .i64 (v30 - 48))
      gd ((0 : Int) ≤ x20 ∧ x20 < (c0.size : Int)) <|
      let v32 := (kwrap .i64 (x20 + 1))
      next v31 v32
  else
    some (.inl x19)
def psalteryref34_Number.l0 (K : Nat) (c0 : ByteArray) (c1 : Int) (n : Nat) : Int → Int → Option ((Int) ⊕ (Int × Bool)) := rounds (psalteryref34_Number.r0 K c0 c1) (fun _ _ => none) n
def psalteryref34_Number (K : Nat) (p0 : ByteArray) (p1 : Int) : Option (Int × Bool) :=
  let v6 := (decide ((p0.size : Int) < 1))
  let v7 := (decide ((p0.size : Int) > 10))
  let v8 := (bif v6 then true else v7)
  let v9 := (decide ((p0.size : Int) > 1))
  let v10 := ((sbyte p0 0) == 48)
  let v11 := (bif v9 then v10 else false)
  let v12 := (bif v8 then true else v11)
  gd ((((!v8) && v9) = true → 0 < (p0.size : Int))) <|
  bif v12 then
    some (0, false)
  else
    (psalteryref34_Number.l0 K p0 p1 K 0 0 : Option ((Int) ⊕ (Int × Bool))).bind fun z => match z with
    | .inl x17 =>
      let v18 := (decide (x17 > p1))
      bif v18 then
        some (0, false)
      else
        some (x17, true)
    | .inr r =>
      some r
def psalteryref34_numbers.r0 (K : Nat) (c0 : List (ByteArray)) (c1 : List (Int)) (next : Int → List (Int) → Option (((List (Int))) ⊕ ((Unit) ⊕ ((List (Int)))))) (x32 : Int) (x33 : List (Int)) : Option (((List (Int))) ⊕ ((Unit) ⊕ ((List (Int))))) :=
  let v40 := (decide (x32 < (c0.length : Int)))
  bif v40 then
    let v43 := (Kd.nth (.str) c0 (Int.toNat x32))
    gd ((0 : Int) ≤ x32 ∧ x32 < (c0.length : Int)) <|
    let v44 := (Kd.nth (.int .i64) c1 (Int.toNat x32))
    gd ((0 : Int) ≤ x32 ∧ x32 < (c1.length : Int)) <|
    (psalteryref34_Number K v43 v44).bind fun (r45, r46) =>
    bif (!r46) then
      some (.inr (.inl ()))
    else
      let v47 := (x33 ++ [r45])
      gd (((x33.length : Int) + ([r45].length : Int)) * 8 ≤ 70368744177664) <|
      let v48 := (kwrap .i64 (x32 + 1))
      next v48 v47
  else
    some (.inl x33)
def psalteryref34_numbers.l0 (K : Nat) (c0 : List (ByteArray)) (c1 : List (Int)) (n : Nat) : Int → List (Int) → Option (((List (Int))) ⊕ ((Unit) ⊕ ((List (Int))))) := rounds (psalteryref34_numbers.r0 K c0 c1) (fun _ _ => none) n
def psalteryref34_numbers (K : Nat) (p0 : List (ByteArray)) (p1 : List (Int)) : Option ((Unit) ⊕ ((List (Int)))) :=
  let v14 := ((p0.length : Int) != (p1.length : Int))
  bif v14 then
    some (.inl ())
  else
    (psalteryref34_numbers.l0 K p0 p1 K 0 ([] : List (Int)) : Option (((List (Int))) ⊕ ((Unit) ⊕ ((List (Int)))))).bind fun z => match z with
    | .inl x27 =>
      some (.inr x27)
    | .inr r =>
      some r
def psalteryref03_part (_K : Nat) (p0 : Int) (p1 : Int) : Option (Int) :=
  let v1 := (kwrap .i64 (p0 * p1))
  let v2 := (kwrap .i64 (Int.tdiv v1 1073741824))
  some v2
def psalteryref01_down (_K : Nat) (p0 : Int) (p1 : Int) : Option (Int) :=
  let v2 := (kwrap .i64 (Int.tdiv p0 p1))
  gd (p1 ≠ 0) <|
  let v3 := (Int.tmod p0 p1)
  let v4 := (decide (v3 < 0))
  gd (p1 ≠ 0) <|
  (
    bif v4 then
      let v6 := (kwrap .i64 (v2 - 1))
      some v6
    else
      some v2 : Option (Int)).bind fun x5 =>
    some x5
def psalteryref01_Round (K : Nat) (p0 : Int) (p1 : Int) : Option (Int) :=
  let v3 := (imax (imin p1 62) 0)
  bif (v3 == 0) then
    some p0
  else
    let v4 := (kwrap .i64 (v3 - 1))
    let v5 := (kwrap .u64 v4)
    let v6 := (kshl .i64 1 v5)
    gd ((0 : Int) ≤ v5) <|
    (psalteryref01_down K p0 v6).bind fun r7 =>
    let v8 := (kwrap .i64 (r7 + 1))
    (psalteryref01_down K v8 2).bind fun r9 =>
    some r9
def psalteryref03_signed (K : Nat) (p0 : Int) (p1 : Int) (p2 : Bool) : Option (Int) :=
  let v10 := (kwrap .i64 (4 * p0))
  let v11 := (decide (v10 ≥ p1))
  (
    bif v11 then
      let v29 := (kwrap .i64 (2 * p1))
      let v30 := (kwrap .i64 (v29 - v10))
      some v30
    else
      some v10 : Option (Int)).bind fun x12 =>
    let v13 := (kwrap .i64 (x12 * 1073741824))
    let v14 := (kwrap .i64 (Int.tdiv v13 p1))
    gd (p1 ≠ 0) <|
    (psalteryref03_part K v14 v14).bind fun r15 =>
    (psalteryref03_part K 172272 r15).bind fun r16 =>
    let v17 := (kwrap .i64 (5026995 - r16))
    (psalteryref03_part K v17 r15).bind fun r18 =>
    let v19 := (kwrap .i64 (85569306 - r18))
    (psalteryref03_part K v19 r15).bind fun r20 =>
    let v21 := (kwrap .i64 (693598668 - r20))
    (psalteryref03_part K v21 r15).bind fun r22 =>
    let v23 := (kwrap .i64 (1686629713 - r22))
    (psalteryref03_part K v23 v14).bind fun r24 =>
    (psalteryref01_Round K r24 15).bind fun r25 =>
    let v26 := (decide (r25 > 32767))
    (
      bif v26 then
        some 32767
      else
        some r25 : Option (Int)).bind fun x27 =>
      bif p2 then
        let v28 := (kwrap .i16 (kwrap .i64 (0 - x27)))
        some v28
      else
        some (kwrap .i16 x27)
def psalteryref03_of (K : Nat) (p0 : Int) (p1 : Int) : Option (Int) :=
  let v5 := (decide (p0 < 0))
  (
    bif v5 then
      let v14 := (kwrap .i64 (p0 + p1))
      some v14
    else
      some p0 : Option (Int)).bind fun x6 =>
    let v7 := (kwrap .i64 (2 * x6))
    let v8 := (decide (v7 ≥ p1))
    bif v8 then
      let v10 := (kwrap .i64 (Int.tdiv p1 2))
      let v11 := (kwrap .i64 (x6 - v10))
      (psalteryref03_signed K v11 p1 true).bind fun r12 =>
      some r12
    else
      (psalteryref03_signed K x6 p1 false).bind fun r13 =>
      some r13
def psalteryref03_Of (K : Nat) (p0 : Int) (p1 : Int) : Option (Int) :=
  let v5 := (Int.tmod p0 p1)
  gd (p1 ≠ 0) <|
  let v6 := (decide (v5 < 0))
  (
    bif v6 then
      let v19 := (kwrap .i64 (v5 + p1))
      some v19
    else
      some v5 : Option (Int)).bind fun x7 =>
    let v8 := (kwrap .i64 (2 * x7))
    let v9 := (decide (v8 ≥ p1))
    (
      bif v9 then
        let v13 := (kwrap .i64 (Int.tdiv p1 2))
        let v14 := (kwrap .i64 (x7 - v13))
        let v15 := (Int.tmod p1 2)
        bif (v15 == 1) then
          let v16 := (kwrap .i64 (2 * v5))
          let v17 := (kwrap .i64 (2 * p1))
          gd (p1 ≠ 0) <|
          (psalteryref03_of K v16 v17).bind fun r18 =>
          some (.inr r18)
        else
          some (.inl v14)
      else
        some (.inl x7) : Option ((Int) ⊕ (Int))).bind fun z => match z with
    | .inl x11 =>
      (psalteryref03_signed K x11 p1 v9).bind fun r12 =>
      some r12
    | .inr r =>
      some r
def psalteryref01_Sat (_K : Nat) (p0 : Int) (p1 : Int) : Option (Int) :=
  let v1 := (kwrap .i64 (p1 - 1))
  let v2 := (kwrap .u64 v1)
  let v3 := (kshl .i64 1 v2)
  let v4 := (kwrap .i64 (v3 - 1))
  gd ((0 : Int) ≤ v2) <|
  let v5 := (decide (p0 > v4))
  bif v5 then
    some v4
  else
    let v6 := (kwrap .i64 (0 - v4))
    let v7 := (kwrap .i64 (v6 - 1))
    let v8 := (decide (p0 < v7))
    bif v8 then
      some v7
    else
      some p0
def psalteryref01_Mul (K : Nat) (p0 : Int) (p1 : Int) (p2 : Int) : Option (Int) :=
  let v3 := (kwrap .i64 (p0 * p1))
  (psalteryref01_Round K v3 p2).bind fun r4 =>
  (psalteryref01_Sat K r4 32).bind fun r5 =>
  some (kwrap .i32 r5)
def psalteryref34_hex.r1 (_K : Nat) (c0 : ByteArray) (c1 : Int) (_c2 : List (Int)) (next : Int → Int → Option ((Int) ⊕ ((Bool) ⊕ ((List (Int)))))) (x121 : Int) (x122 : Int) : Option ((Int) ⊕ ((Bool) ⊕ ((List (Int))))) :=
  let v126 := (kwrap .i64 (c1 + 2))
  let v127 := (decide (x122 < v126))
  bif v127 then
    (
      let v130 := (sbyte c0 (Int.toNat x122))
      let v131 := (kwrap .i64 v130)
      gd ((0 : Int) ≤ x122 ∧ x122 < (c0.size : Int)) <|
      let v132 := (decide (v131 ≥ 48))
      let v133 := (decide (v131 ≤ 57))
      let v134 := (bif v132 then v133 else false)
      bif v134 then
        let v135 := (kwrap .i64 (16 * x121))
        let v136 := (kwrap .i64 (v135 + v131))
        let v137 := (kwrap .i64 (v136 - 48))
        some (.inl v137)
      else
        let v138 := (decide (v131 ≥ 97))
        let v139 := (decide (v131 ≤ 102))
        let v140 := (bif v138 then v139 else false)
        bif v140 then
          let v141 := (kwrap .i64 (16 * x121))
          let v142 := (kwrap .i64 (v141 + v131))
          let v143 := (kwrap .i64 (v142 - 87))
          some (.inl v143)
        else
          some (.inr (.inl false)) : Option ((Int) ⊕ ((Bool) ⊕ ((List (Int)))))).bind fun z => match z with
    | .inl x128 =>
      let v129 := (kwrap .i64 (x122 + 1))
      next x128 v129
    | .inr r =>
      some (.inr r)
  else
    some (.inl x121)
def psalteryref34_hex.l1 (K : Nat) (c0 : ByteArray) (c1 : Int) (c2 : List (Int)) (n : Nat) : Int → Int → Option ((Int) ⊕ ((Bool) ⊕ ((List (Int))))) := rounds (psalteryref34_hex.r1 K c0 c1 c2) (fun _ _ => none) n
def psalteryref34_hex.r0 (K : Nat) (c0 : ByteArray) (next : Int → List (Int) → Option (((List (Int))) ⊕ ((Bool) ⊕ ((List (Int)))))) (x85 : Int) (x86 : List (Int)) : Option (((List (Int))) ⊕ ((Bool) ⊕ ((List (Int))))) :=
  let v103 := (decide (x85 < (c0.size : Int)))
  bif v103 then
    (psalteryref34_hex.l1 K c0 x85 x86 K 0 x85 : Option ((Int) ⊕ ((Bool) ⊕ ((List (Int)))))).bind fun z => match z with
    | .inl x117 =>
      let v118 := [(kwrap .u8 x117)]
      gd (((x86.length : Int) + (v118.length : Int)) * 1 ≤ 70368744177664) <|
      let v119 := (kwrap .i64 (x85 + 2))
      next v119 (x86 ++ v118)
    | .inr r =>
      some (.inr r)
  else
    some (.inl x86)
def psalteryref34_hex.l0 (K : Nat) (c0 : ByteArray) (n : Nat) : Int → List (Int) → Option (((List (Int))) ⊕ ((Bool) ⊕ ((List (Int))))) := rounds (psalteryref34_hex.r0 K c0) (fun _ _ => none) n
def psalteryref34_hex (K : Nat) (p0 : ByteArray) : Option ((Bool) ⊕ ((List (Int)))) :=
  let v34 := (beqs p0 (⟨#[45]⟩ : ByteArray))
  bif v34 then
    some (.inl true)
  else
    let v35 := (beqs p0 (⟨#[]⟩ : ByteArray))
    let v36 := (Int.tmod (p0.size : Int) 2)
    let v37 := (bif v35 then true else (v36 == 1))
    bif v37 then
      some (.inl false)
    else
      (psalteryref34_hex.l0 K p0 K 0 ([] : List (Int)) : Option (((List (Int))) ⊕ ((Bool) ⊕ ((List (Int)))))).bind fun z => match z with
      | .inl x70 =>
        some (.inr x70)
      | .inr r =>
        some r
def psalteryref34_slot (K : Nat) (p0 : ByteArray) : Option (Int × Int × Int × Int × Bool) :=
  let v3 := (beqs p0 (⟨#[46]⟩ : ByteArray))
  bif v3 then
    some (0, 0, 0, 0, true)
  else
    let v4 := (beqs p0 (⟨#[120]⟩ : ByteArray))
    bif v4 then
      some (1, 0, 0, 0, true)
    else
      let v5 := (beqs p0 (⟨#[97]⟩ : ByteArray))
      bif v5 then
        some (0, 1, 0, 0, true)
      else
        (psalteryref34_Cut K p0 47).bind fun r6 =>
        let v7 := [2147483647, 2147483647, 2147483647, 4294967295]
        (psalteryref34_numbers K r6 v7).bind fun z => match z with
        | .inl _ =>
          some (0, 0, 0, 0, false)
        | .inr r8 =>
          let v9 := (Kd.nth (.int .i64) r8 0)
          gd (0 < (r8.length : Int)) <|
          let v10 := (Kd.nth (.int .i64) r8 1)
          gd (1 < (r8.length : Int)) <|
          let v11 := (Kd.nth (.int .i64) r8 2)
          gd (2 < (r8.length : Int)) <|
          let v12 := (Kd.nth (.int .i64) r8 3)
          gd (3 < (r8.length : Int)) <|
          let v13 := (kwrap .u32 v12)
          some (v9, v10, v11, v13, true)
def psalteryref32_Weather_Draw (_K : Nat) (_p0 : Int) (_p1 : Int) (_p2 : Int) (_p3 : Int) (p4 : Int) (_p5 : Bool) : Option (Int × Int) :=
  let v1 := (kwrap .u64 (p4 * 1664525))
  let v2 := (kwrap .u64 (v1 + 1013904223))
  let v3 := (Int.tmod v2 4294967296)
  let v4 := (kwrap .u64 (Int.tdiv v3 65536))
  let v5 := (kwrap .i64 v4)
  some (v3, v5)
def psalteryref32_Weather_Lost (K : Nat) (p0 : Int) (p1 : Int) (p2 : Int) (p3 : Int) (p4 : Int) (p5 : Bool) : Option (Int × Bool × Bool) :=
  (psalteryref32_Weather_Draw K p0 p1 p2 p3 p4 p5).bind fun (r6, r7) =>
  let v8 := (decide (r7 < p0))
  let v9 := (bif p5 then v8 else false)
  (
    bif v9 then
      some false
    else
      let v15 := (decide (r7 < p1))
      let v16 := (bif (!p5) then v15 else false)
      bif v16 then
        some true
      else
        some p5 : Option (Bool)).bind fun x10 =>
    (psalteryref32_Weather_Draw K p0 p1 p2 p3 r6 x10).bind fun (r11, r12) =>
    bif x10 then
      let v13 := (decide (r12 < p2))
      some (r11, x10, v13)
    else
      let v14 := (decide (r12 < p3))
      some (r11, x10, v14)
def psalteryref34_Line.r0 (K : Nat) (c0 : List (ByteArray)) (next : Int → List (Int) → Option (((List (Int))) ⊕ ((Unit) ⊕ ((List ((Int × (Int × (List (Int) × (List (Int) × (List (Int) × List ((Int × (Int × (Int × Int))))))))))))))) (x2363 : Int) (x2364 : List (Int)) : Option (((List (Int))) ⊕ ((Unit) ⊕ ((List ((Int × (Int × (List (Int) × (List (Int) × (List (Int) × List ((Int × (Int × (Int × Int)))))))))))))) :=
  let v2377 := (decide (x2363 < (c0.length : Int)))
  bif v2377 then
    let v2383 := (Kd.nth (.str) c0 (Int.toNat x2363))
    gd ((0 : Int) ≤ x2363 ∧ x2363 < (c0.length : Int)) <|
    let v2384 := (v2383.size : Int)
    let v2385 := (decide (v2384 > 0))
    let v2386 := (sbyte v2383 0)
    let v2387 := (bif v2385 then (v2386 == 45) else false)
    gd ((v2385 = true → 0 < (v2383.size : Int))) <|
    (
      bif v2387 then
        let v2396 := (v2383.extract (Int.toNat 1) (Int.toNat v2384))
        gd (1 ≤ v2384 ∧ v2384 ≤ v2384) <|
        some (v2396, 32768)
      else
        some (v2383, 32767) : Option (ByteArray × Int)).bind fun (x2388, x2389) =>
      (psalteryref34_Number K x2388 x2389).bind fun (r2390, r2391) =>
      bif (!r2391) then
        some (.inr (.inl ()))
      else
        (
          bif v2387 then
            some ((kwrap .i64 (0 - r2390)))
          else
            some r2390 : Option (Int)).bind fun x2392 =>
          let v2393 := [(kwrap .i16 x2392)]
          let v2394 := (x2364 ++ v2393)
          gd (((x2364.length : Int) + (v2393.length : Int)) * 2 ≤ 70368744177664) <|
          let v2395 := (kwrap .i64 (x2363 + 1))
          next v2395 v2394
  else
    some (.inl x2364)
def psalteryref34_Line.l0 (K : Nat) (c0 : List (ByteArray)) (n : Nat) : Int → List (Int) → Option (((List (Int))) ⊕ ((Unit) ⊕ ((List ((Int × (Int × (List (Int) × (List (Int) × (List (Int) × List ((Int × (Int × (Int × Int)))))))))))))) := rounds (psalteryref34_Line.r0 K c0) (fun _ _ => none) n
def psalteryref34_Line.r1 (K : Nat) (c0 : List (Int)) (next : Int → List (Int) → Option ((List (Int)))) (x2650 : Int) (x2651 : List (Int)) : Option ((List (Int))) :=
  let v2658 := (Kd.nth (.int .i64) c0 3)
  let v2659 := (decide (x2650 < v2658))
  gd (3 < (c0.length : Int)) <|
  bif v2659 then
    let v2662 := (Kd.nth (.int .i64) c0 1)
    gd (1 < (c0.length : Int)) <|
    let v2663 := (kwrap .i64 (x2650 * v2662))
    let v2664 := (Kd.nth (.int .i64) c0 2)
    gd (2 < (c0.length : Int)) <|
    (psalteryref03_Of K v2663 v2664).bind fun r2665 =>
    let v2666 := (Kd.nth (.int .i64) c0 0)
    gd (0 < (c0.length : Int)) <|
    (psalteryref01_Mul K v2666 (kwrap .i64 r2665) 15).bind fun r2667 =>
    let v2668 := [(kwrap .i16 r2667)]
    let v2669 := (x2651 ++ v2668)
    gd (((x2651.length : Int) + (v2668.length : Int)) * 2 ≤ 70368744177664) <|
    let v2670 := (kwrap .i64 (x2650 + 1))
    next v2670 v2669
  else
    some x2651
def psalteryref34_Line.l1 (K : Nat) (c0 : List (Int)) (n : Nat) : Int → List (Int) → Option ((List (Int))) := rounds (psalteryref34_Line.r1 K c0) (fun _ _ => none) n
def psalteryref34_Line.r2 (K : Nat) (c0 : List (ByteArray)) (next : Int → List ((Int × (Int × (Int × Int)))) → Option (((List ((Int × (Int × (Int × Int)))))) ⊕ ((Unit) ⊕ ((List ((Int × (Int × (List (Int) × (List (Int) × (List (Int) × List ((Int × (Int × (Int × Int))))))))))))))) (x3367 : Int) (x3368 : List ((Int × (Int × (Int × Int))))) : Option (((List ((Int × (Int × (Int × Int)))))) ⊕ ((Unit) ⊕ ((List ((Int × (Int × (List (Int) × (List (Int) × (List (Int) × List ((Int × (Int × (Int × Int)))))))))))))) :=
  let v3381 := (decide (x3367 < (c0.length : Int)))
  bif v3381 then
    let v3387 := (Kd.nth (.str) c0 (Int.toNat x3367))
    gd ((0 : Int) ≤ x3367 ∧ x3367 < (c0.length : Int)) <|
    (psalteryref34_slot K v3387).bind fun (r3388, r3389, r3390, r3391, r3392) =>
    bif (!r3392) then
      some (.inr (.inl ()))
    else
      let v3393 := [(r3388, (r3389, (r3390, r3391)))]
      let v3394 := (x3368 ++ v3393)
      gd (((x3368.length : Int) + (v3393.length : Int)) * 32 ≤ 70368744177664) <|
      let v3395 := (kwrap .i64 (x3367 + 1))
      next v3395 v3394
  else
    some (.inl x3368)
def psalteryref34_Line.l2 (K : Nat) (c0 : List (ByteArray)) (n : Nat) : Int → List ((Int × (Int × (Int × Int)))) → Option (((List ((Int × (Int × (Int × Int)))))) ⊕ ((Unit) ⊕ ((List ((Int × (Int × (List (Int) × (List (Int) × (List (Int) × List ((Int × (Int × (Int × Int)))))))))))))) := rounds (psalteryref34_Line.r2 K c0) (fun _ _ => none) n
def psalteryref34_Line.r4 (K : Nat) (c0 : List (Int)) (_c1 : Int) (c2 : Int) (c3 : Int) (c4 : Int) (c5 : Int) (_c6 : List ((Int × (Int × (List (Int) × (List (Int) × (List (Int) × List ((Int × (Int × (Int × Int))))))))))) (next : Int → Int → Bool → List ((Int × (Int × (Int × Int)))) → Option (Int × Bool × (List ((Int × (Int × (Int × Int))))))) (x4056 : Int) (x4057 : Int) (x4058 : Bool) (x4059 : List ((Int × (Int × (Int × Int))))) : Option (Int × Bool × (List ((Int × (Int × (Int × Int)))))) :=
  let v4080 := (Kd.nth (.int .i64) c0 6)
  let v4081 := (decide (x4056 < v4080))
  gd (6 < (c0.length : Int)) <|
  bif v4081 then
    (psalteryref32_Weather_Lost K c2 c3 c4 c5 x4057 x4058).bind fun (r4090, r4091, r4092) =>
    (psalteryref32_Weather_Lost K c2 c3 c4 c5 r4090 r4091).bind fun (r4093, r4094, r4095) =>
    (
      bif r4092 then
        some 1
      else
        some 0 : Option (Int)).bind fun x4096 =>
      (
        bif r4095 then
          some 1
        else
          some 0 : Option (Int)).bind fun x4097 =>
        let v4098 := [(x4096, (x4097, (0, 0)))]
        let v4099 := (x4059 ++ v4098)
        gd (((x4059.length : Int) + (v4098.length : Int)) * 32 ≤ 70368744177664) <|
        let v4100 := (kwrap .i64 (x4056 + 1))
        next v4100 r4093 r4094 v4099
  else
    some (x4057, x4058, x4059)
def psalteryref34_Line.l4 (K : Nat) (c0 : List (Int)) (c1 : Int) (c2 : Int) (c3 : Int) (c4 : Int) (c5 : Int) (c6 : List ((Int × (Int × (List (Int) × (List (Int) × (List (Int) × List ((Int × (Int × (Int × Int))))))))))) (n : Nat) : Int → Int → Bool → List ((Int × (Int × (Int × Int)))) → Option (Int × Bool × (List ((Int × (Int × (Int × Int)))))) := rounds (psalteryref34_Line.r4 K c0 c1 c2 c3 c4 c5 c6) (fun _ _ _ _ => none) n
def psalteryref34_Line.r3 (K : Nat) (c0 : List (Int)) (c1 : Int) (c2 : Int) (c3 : Int) (c4 : Int) (next : Int → Int → Bool → List ((Int × (Int × (List (Int) × (List (Int) × (List (Int) × List ((Int × (Int × (Int × Int)))))))))) → Option ((List ((Int × (Int × (List (Int) × (List (Int) × (List (Int) × List ((Int × (Int × (Int × Int))))))))))))) (x3855 : Int) (x3856 : Int) (x3857 : Bool) (x3858 : List ((Int × (Int × (List (Int) × (List (Int) × (List (Int) × List ((Int × (Int × (Int × Int))))))))))) : Option ((List ((Int × (Int × (List (Int) × (List (Int) × (List (Int) × List ((Int × (Int × (Int × Int)))))))))))) :=
  let v3949 := (Kd.nth (.int .i64) c0 5)
  let v3950 := (decide (x3855 < v3949))
  gd (5 < (c0.length : Int)) <|
  bif v3950 then
    (psalteryref34_Line.l4 K c0 x3855 c1 c2 c3 c4 x3858 K 0 x3856 x3857 ([] : List ((Int × (Int × (Int × Int))))) : Option (Int × Bool × (List ((Int × (Int × (Int × Int))))))).bind fun (x4034, x4035, x4036) =>
      let v4037 := [(4, (0, (([] : List (Int)), (([] : List (Int)), (([] : List (Int)), x4036)))))]
      let v4038 := (x3858 ++ v4037)
      gd (((x3858.length : Int) + (v4037.length : Int)) * 112 ≤ 70368744177664) <|
      let v4039 := (kwrap .i64 (x3855 + 1))
      next v4039 x4034 x4035 v4038
  else
    some x3858
def psalteryref34_Line.l3 (K : Nat) (c0 : List (Int)) (c1 : Int) (c2 : Int) (c3 : Int) (c4 : Int) (n : Nat) : Int → Int → Bool → List ((Int × (Int × (List (Int) × (List (Int) × (List (Int) × List ((Int × (Int × (Int × Int)))))))))) → Option ((List ((Int × (Int × (List (Int) × (List (Int) × (List (Int) × List ((Int × (Int × (Int × Int)))))))))))) := rounds (psalteryref34_Line.r3 K c0 c1 c2 c3 c4) (fun _ _ _ _ => none) n
def psalteryref34_Line (K : Nat) (p0 : ByteArray) : Option ((Unit) ⊕ ((List ((Int × (Int × (List (Int) × (List (Int) × (List (Int) × List ((Int × (Int × (Int × Int))))))))))))) :=
  (psalteryref34_Cut K p0 32).bind fun r1814 =>
  let v1815 := (Kd.nth (.str) r1814 0)
  gd (0 < (r1814.length : Int)) <|
  let v2071 := (beqs v1815 (⟨#[115, 97, 109, 112, 108, 101, 115]⟩ : ByteArray))
  bif v2071 then
    (psalteryref34_Line.l0 K r1814 K 1 ([] : List (Int)) : Option (((List (Int))) ⊕ ((Unit) ⊕ ((List ((Int × (Int × (List (Int) × (List (Int) × (List (Int) × List ((Int × (Int × (Int × Int))))))))))))))).bind fun z => match z with
    | .inl x2351 =>
      let v2352 := [(1, (0, (x2351, (([] : List (Int)), (([] : List (Int)), ([] : List ((Int × (Int × (Int × Int))))))))))]
      some (.inr v2352)
    | .inr r =>
      some r
  else
    let v2397 := (beqs v1815 (⟨#[116, 111, 110, 101]⟩ : ByteArray))
    bif v2397 then
      let v2628 := ((r1814.take (Int.toNat (r1814.length : Int))).drop (Int.toNat 1))
      let v2629 := [32767, 65535, 65535, 4096]
      gd (1 ≤ (r1814.length : Int) ∧ (r1814.length : Int) ≤ (r1814.length : Int)) <|
      (psalteryref34_numbers K v2628 v2629).bind fun z => match z with
      | .inl _ =>
        some (.inl ())
      | .inr r2630 =>
        let v2631 := (Kd.nth (.int .i64) r2630 2)
        gd (2 < (r2630.length : Int)) <|
        bif (v2631 == 0) then
          some (.inl ())
        else
          (psalteryref34_Line.l1 K r2630 K 0 ([] : List (Int)) : Option ((List (Int)))).bind fun x2644 =>
            let v2645 := [(1, (0, (x2644, (([] : List (Int)), (([] : List (Int)), ([] : List ((Int × (Int × (Int × Int))))))))))]
            some (.inr v2645)
    else
      let v2671 := (beqs v1815 (⟨#[99, 97, 108, 108]⟩ : ByteArray))
      bif v2671 then
        let v2888 := ((r1814.take (Int.toNat (r1814.length : Int))).drop (Int.toNat 1))
        gd (1 ≤ (r1814.length : Int) ∧ (r1814.length : Int) ≤ (r1814.length : Int)) <|
        (psalteryref34_numbers K v2888 [99]).bind fun z => match z with
        | .inl _ =>
          some (.inl ())
        | .inr r2889 =>
          let v2890 := (Kd.nth (.int .i64) r2889 0)
          gd (0 < (r2889.length : Int)) <|
          let v2891 := [(2, (v2890, (([] : List (Int)), (([] : List (Int)), (([] : List (Int)), ([] : List ((Int × (Int × (Int × Int))))))))))]
          some (.inr v2891)
      else
        let v2892 := (beqs v1815 (⟨#[101, 110, 100, 115]⟩ : ByteArray))
        bif v2892 then
          let v3107 := ((r1814.length : Int) != 3)
          bif v3107 then
            some (.inl ())
          else
            let v3108 := (Kd.nth (.str) r1814 1)
            gd (1 < (r1814.length : Int)) <|
            (psalteryref34_hex K v3108).bind fun z => match z with
            | .inl r3109 =>
              let v3111 := (Kd.nth (.str) r1814 2)
              gd (2 < (r1814.length : Int)) <|
              (psalteryref34_hex K v3111).bind fun z => match z with
              | .inl r3112 =>
                let v3114 := (bif (!r3109) then true else (!r3112))
                bif v3114 then
                  some (.inl ())
                else
                  let v3115 := [(3, (0, (([] : List (Int)), (([] : List (Int)), (([] : List (Int)), ([] : List ((Int × (Int × (Int × Int))))))))))]
                  some (.inr v3115)
              | .inr r3113 =>
                let v3116 := (bif (!r3109) then true else false)
                bif v3116 then
                  some (.inl ())
                else
                  let v3117 := [(3, (0, (([] : List (Int)), (([] : List (Int)), (r3113, ([] : List ((Int × (Int × (Int × Int))))))))))]
                  some (.inr v3117)
            | .inr r3110 =>
              let v3118 := (Kd.nth (.str) r1814 2)
              gd (2 < (r1814.length : Int)) <|
              (psalteryref34_hex K v3118).bind fun z => match z with
              | .inl r3119 =>
                bif (!r3119) then
                  some (.inl ())
                else
                  let v3121 := [(3, (0, (([] : List (Int)), (r3110, (([] : List (Int)), ([] : List ((Int × (Int × (Int × Int))))))))))]
                  some (.inr v3121)
              | .inr r3120 =>
                let v3122 := [(3, (0, (([] : List (Int)), (r3110, (r3120, ([] : List ((Int × (Int × (Int × Int))))))))))]
                some (.inr v3122)
        else
          let v3123 := (beqs v1815 (⟨#[105, 110, 116, 101, 114, 118, 97, 108]⟩ : ByteArray))
          bif v3123 then
            (psalteryref34_Line.l2 K r1814 K 1 ([] : List ((Int × (Int × (Int × Int))))) : Option (((List ((Int × (Int × (Int × Int)))))) ⊕ ((Unit) ⊕ ((List ((Int × (Int × (List (Int) × (List (Int) × (List (Int) × List ((Int × (Int × (Int × Int))))))))))))))).bind fun z => match z with
            | .inl x3355 =>
              let v3356 := [(4, (0, (([] : List (Int)), (([] : List (Int)), (([] : List (Int)), x3355)))))]
              some (.inr v3356)
            | .inr r =>
              some r
          else
            let v3396 := (beqs v1815 (⟨#[115, 116, 111, 114, 109]⟩ : ByteArray))
            bif v3396 then
              let v3579 := ((r1814.take (Int.toNat (r1814.length : Int))).drop (Int.toNat 1))
              let v3580 := [4294967295, 65536, 65536, 65536, 65536, 64, 16]
              gd (1 ≤ (r1814.length : Int) ∧ (r1814.length : Int) ≤ (r1814.length : Int)) <|
              (psalteryref34_numbers K v3579 v3580).bind fun z => match z with
              | .inl _ =>
                some (.inl ())
              | .inr r3581 =>
                let v3582 := (Kd.nth (.int .i64) r3581 1)
                gd (1 < (r3581.length : Int)) <|
                let v3583 := (Kd.nth (.int .i64) r3581 2)
                gd (2 < (r3581.length : Int)) <|
                let v3584 := (Kd.nth (.int .i64) r3581 3)
                gd (3 < (r3581.length : Int)) <|
                let v3585 := (Kd.nth (.int .i64) r3581 4)
                gd (4 < (r3581.length : Int)) <|
                let v3586 := (Kd.nth (.int .i64) r3581 0)
                gd (0 < (r3581.length : Int)) <|
                let v3587 := (kwrap .u64 v3586)
                (psalteryref34_Line.l3 K r3581 v3582 v3583 v3584 v3585 K 0 v3587 true ([] : List ((Int × (Int × (List (Int) × (List (Int) × (List (Int) × List ((Int × (Int × (Int × Int))))))))))) : Option ((List ((Int × (Int × (List (Int) × (List (Int) × (List (Int) × List ((Int × (Int × (Int × Int))))))))))))).bind fun x3768 =>
                  some (.inr x3768)
            else
              some (.inl ())
def psalteryref34_Parse.r0 (K : Nat) (c0 : List (ByteArray)) (next : Int → List ((Int × (Int × (List (Int) × (List (Int) × (List (Int) × List ((Int × (Int × (Int × Int)))))))))) → Option (((List ((Int × (Int × (List (Int) × (List (Int) × (List (Int) × List ((Int × (Int × (Int × Int)))))))))))) ⊕ ((Int × Int) ⊕ ((List ((Int × (Int × (List (Int) × (List (Int) × (List (Int) × List ((Int × (Int × (Int × Int))))))))))))))) (x27 : Int) (x28 : List ((Int × (Int × (List (Int) × (List (Int) × (List (Int) × List ((Int × (Int × (Int × Int))))))))))) : Option (((List ((Int × (Int × (List (Int) × (List (Int) × (List (Int) × List ((Int × (Int × (Int × Int)))))))))))) ⊕ ((Int × Int) ⊕ ((List ((Int × (Int × (List (Int) × (List (Int) × (List (Int) × List ((Int × (Int × (Int × Int)))))))))))))) :=
  let v33 := (kwrap .i64 ((c0.length : Int) - 1))
  let v34 := (decide (x27 < v33))
  bif v34 then
    (
      let v38 := (Kd.nth (.str) c0 (Int.toNat x27))
      let v39 := (beqs v38 (⟨#[]⟩ : ByteArray))
      let v40 := ((sbyte v38 0) == 35)
      let v41 := (bif v39 then true else v40)
      gd ((0 : Int) ≤ x27 ∧ x27 < (c0.length : Int) ∧ ((!v39) = true → (0 : Int) ≤ x27) ∧ ((!v39) = true → x27 < (c0.length : Int)) ∧ ((!v39) = true → 0 < (v38.size : Int))) <|
      bif v41 then
        some (.inl x28)
      else
        gd ((0 : Int) ≤ x27 ∧ x27 < (c0.length : Int)) <|
        (psalteryref34_Line K v38).bind fun z => match z with
        | .inl _ =>
          gd (((x28.length : Int) + (([] : List ((Int × (Int × (List (Int) × (List (Int) × (List (Int) × List ((Int × (Int × (Int × Int))))))))))).length : Int)) * 112 ≤ 70368744177664) <|
          let v44 := (kwrap .i64 (x27 + 1))
          some (.inr (.inl (v44, 310)))
        | .inr r42 =>
          gd (((x28.length : Int) + (r42.length : Int)) * 112 ≤ 70368744177664) <|
          let v45 := ((x28 ++ r42).length : Int)
          let v46 := (decide (v45 > 4096))
          bif v46 then
            let v47 := (kwrap .i64 (x27 + 1))
            some (.inr (.inl (v47, 310)))
          else
            some (.inl (x28 ++ r42)) : Option (((List ((Int × (Int × (List (Int) × (List (Int) × (List (Int) × List ((Int × (Int × (Int × Int)))))))))))) ⊕ ((Int × Int) ⊕ ((List ((Int × (Int × (List (Int) × (List (Int) × (List (Int) × List ((Int × (Int × (Int × Int))))))))))))))).bind fun z => match z with
    | .inl x36 =>
      let v37 := (kwrap .i64 (x27 + 1))
      next v37 x36
    | .inr r =>
      some (.inr r)
  else
    some (.inl x28)
def psalteryref34_Parse.l0 (K : Nat) (c0 : List (ByteArray)) (n : Nat) : Int → List ((Int × (Int × (List (Int) × (List (Int) × (List (Int) × List ((Int × (Int × (Int × Int)))))))))) → Option (((List ((Int × (Int × (List (Int) × (List (Int) × (List (Int) × List ((Int × (Int × (Int × Int)))))))))))) ⊕ ((Int × Int) ⊕ ((List ((Int × (Int × (List (Int) × (List (Int) × (List (Int) × List ((Int × (Int × (Int × Int)))))))))))))) := rounds (psalteryref34_Parse.r0 K c0) (fun _ _ => none) n
def psalteryref34_Parse (K : Nat) (p0 : ByteArray) : Option ((Int × Int) ⊕ ((List ((Int × (Int × (List (Int) × (List (Int) × (List (Int) × List ((Int × (Int × (Int × Int))))))))))))) :=
  let v11 := (decide ((p0.size : Int) > 65536))
  bif v11 then
    some (.inl (0, 2))
  else
    (psalteryref34_Cut K p0 10).bind fun r12 =>
    (psalteryref34_Parse.l0 K r12 K 0 ([] : List ((Int × (Int × (List (Int) × (List (Int) × (List (Int) × List ((Int × (Int × (Int × Int))))))))))) : Option (((List ((Int × (Int × (List (Int) × (List (Int) × (List (Int) × List ((Int × (Int × (Int × Int)))))))))))) ⊕ ((Int × Int) ⊕ ((List ((Int × (Int × (List (Int) × (List (Int) × (List (Int) × List ((Int × (Int × (Int × Int))))))))))))))).bind fun z => match z with
    | .inl x21 =>
      let v22 := (kwrap .i64 ((r12.length : Int) - 1))
      let v23 := (Kd.nth (.str) r12 (Int.toNat v22))
      let v24 := (!(beqs v23 (⟨#[]⟩ : ByteArray)))
      gd ((0 : Int) ≤ v22 ∧ v22 < (r12.length : Int)) <|
      bif v24 then
        some (.inl ((r12.length : Int), 310))
      else
        some (.inr x21)
    | .inr r =>
      some r
def psalterylaw34_to.r0 (_K : Nat)  (_next : Option (Unit))  : Option (Unit) :=
  some ()
def psalterylaw34_to.l0 (K : Nat)  (n : Nat) : Option (Unit) := rounds (psalterylaw34_to.r0 K) (none) n
def psalterylaw34_to (K : Nat)  : Option (Unit) :=
  (psalterylaw34_to.l0 K K  : Option (Unit)).bind fun _ =>
    some ()
def psalteryref34_Same.r0 (_K : Nat)  (_next : Option (Unit))  : Option (Unit) :=
  some ()
def psalteryref34_Same.l0 (K : Nat)  (n : Nat) : Option (Unit) := rounds (psalteryref34_Same.r0 K) (none) n
def psalteryref34_Same (K : Nat)  : Option (Unit) :=
  (psalteryref34_Same.l0 K K  : Option (Unit)).bind fun _ =>
    some ()
def psalteryref34_Same_2.r0 (_K : Nat) (_c0 : List ((Int × (Int × (List (Int) × (List (Int) × (List (Int) × List ((Int × (Int × (Int × Int))))))))))) (_next : Option (Unit))  : Option (Unit) :=
  some ()
def psalteryref34_Same_2.l0 (K : Nat) (c0 : List ((Int × (Int × (List (Int) × (List (Int) × (List (Int) × List ((Int × (Int × (Int × Int))))))))))) (n : Nat) : Option (Unit) := rounds (psalteryref34_Same_2.r0 K c0) (none) n
def psalteryref34_Same_2 (K : Nat) (p0 : List ((Int × (Int × (List (Int) × (List (Int) × (List (Int) × List ((Int × (Int × (Int × Int))))))))))) : Option (Bool) :=
  let v1 := (0 != (p0.length : Int))
  bif v1 then
    some false
  else
    (psalteryref34_Same_2.l0 K p0 K  : Option (Unit)).bind fun _ =>
      some true
def psalterylaw34_to_2.r1 (_K : Nat) (c0 : List ((Int × (Int × (List (Int) × (List (Int) × (List (Int) × List ((Int × (Int × (Int × Int))))))))))) (c1 : Int) (_c2 : List ((Int × (Int × (List (Int) × (List (Int) × (List (Int) × List ((Int × (Int × (Int × Int))))))))))) (_c3 : Int) (_c4 : Int) (_c5 : List (Int)) (_c6 : List (Int)) (_c7 : List (Int)) (next : Int → List ((Int × (Int × (Int × Int)))) → Option ((List ((Int × (Int × (Int × Int))))))) (x89 : Int) (x90 : List ((Int × (Int × (Int × Int))))) : Option ((List ((Int × (Int × (Int × Int)))))) :=
  let v93 := (Kd.nth (.pair (.int .i64) (.pair (.int .i64) (.pair (.slice (.int .i16)) (.pair (.slice (.int .u8)) (.pair (.slice (.int .u8)) (.slice (.pair (.int .i64) (.pair (.int .i64) (.pair (.int .i64) (.int .u32)))))))))) c0 (Int.toNat c1))
  let v94 := (v93.2.2.2.2.2.length : Int)
  let v95 := (decide (x89 < v94))
  gd ((0 : Int) ≤ c1 ∧ c1 < (c0.length : Int)) <|
  bif v95 then
    gd ((0 : Int) ≤ c1 ∧ c1 < (c0.length : Int)) <|
    let v96 := (Kd.nth (.pair (.int .i64) (.pair (.int .i64) (.pair (.int .i64) (.int .u32)))) v93.2.2.2.2.2 (Int.toNat x89))
    gd ((0 : Int) ≤ x89 ∧ x89 < (v93.2.2.2.2.2.length : Int)) <|
    let v97 := [(v96.1, (v96.2.1, (v96.2.2.1, v96.2.2.2)))]
    gd (((x90.length : Int) + (v97.length : Int)) * 32 ≤ 70368744177664) <|
    let v98 := (kwrap .i64 (x89 + 1))
    next v98 (x90 ++ v97)
  else
    some x90
def psalterylaw34_to_2.l1 (K : Nat) (c0 : List ((Int × (Int × (List (Int) × (List (Int) × (List (Int) × List ((Int × (Int × (Int × Int))))))))))) (c1 : Int) (c2 : List ((Int × (Int × (List (Int) × (List (Int) × (List (Int) × List ((Int × (Int × (Int × Int))))))))))) (c3 : Int) (c4 : Int) (c5 : List (Int)) (c6 : List (Int)) (c7 : List (Int)) (n : Nat) : Int → List ((Int × (Int × (Int × Int)))) → Option ((List ((Int × (Int × (Int × Int)))))) := rounds (psalterylaw34_to_2.r1 K c0 c1 c2 c3 c4 c5 c6 c7) (fun _ _ => none) n
def psalterylaw34_to_2.r0 (K : Nat) (c0 : List ((Int × (Int × (List (Int) × (List (Int) × (List (Int) × List ((Int × (Int × (Int × Int))))))))))) (next : Int → List ((Int × (Int × (List (Int) × (List (Int) × (List (Int) × List ((Int × (Int × (Int × Int)))))))))) → Option ((List ((Int × (Int × (List (Int) × (List (Int) × (List (Int) × List ((Int × (Int × (Int × Int))))))))))))) (x61 : Int) (x62 : List ((Int × (Int × (List (Int) × (List (Int) × (List (Int) × List ((Int × (Int × (Int × Int))))))))))) : Option ((List ((Int × (Int × (List (Int) × (List (Int) × (List (Int) × List ((Int × (Int × (Int × Int)))))))))))) :=
  let v75 := (decide (x61 < (c0.length : Int)))
  bif v75 then
    let v81 := (Kd.nth (.pair (.int .i64) (.pair (.int .i64) (.pair (.slice (.int .i16)) (.pair (.slice (.int .u8)) (.pair (.slice (.int .u8)) (.slice (.pair (.int .i64) (.pair (.int .i64) (.pair (.int .i64) (.int .u32)))))))))) c0 (Int.toNat x61))
    gd ((0 : Int) ≤ x61 ∧ x61 < (c0.length : Int)) <|
    gd ((0 : Int) ≤ x61 ∧ x61 < (c0.length : Int)) <|
    gd ((0 : Int) ≤ x61 ∧ x61 < (c0.length : Int)) <|
    gd ((0 : Int) ≤ x61 ∧ x61 < (c0.length : Int)) <|
    gd ((0 : Int) ≤ x61 ∧ x61 < (c0.length : Int)) <|
    (psalterylaw34_to_2.l1 K c0 x61 x62 v81.1 v81.2.1 v81.2.2.1 v81.2.2.2.1 v81.2.2.2.2.1 K 0 ([] : List ((Int × (Int × (Int × Int))))) : Option ((List ((Int × (Int × (Int × Int))))))).bind fun x86 =>
      let v87 := [(v81.1, (v81.2.1, (v81.2.2.1, (v81.2.2.2.1, (v81.2.2.2.2.1, x86)))))]
      gd (((x62.length : Int) + (v87.length : Int)) * 112 ≤ 70368744177664) <|
      let v88 := (kwrap .i64 (x61 + 1))
      next v88 (x62 ++ v87)
  else
    some x62
def psalterylaw34_to_2.l0 (K : Nat) (c0 : List ((Int × (Int × (List (Int) × (List (Int) × (List (Int) × List ((Int × (Int × (Int × Int))))))))))) (n : Nat) : Int → List ((Int × (Int × (List (Int) × (List (Int) × (List (Int) × List ((Int × (Int × (Int × Int)))))))))) → Option ((List ((Int × (Int × (List (Int) × (List (Int) × (List (Int) × List ((Int × (Int × (Int × Int)))))))))))) := rounds (psalterylaw34_to_2.r0 K c0) (fun _ _ => none) n
def psalterylaw34_to_2 (K : Nat) (p0 : List ((Int × (Int × (List (Int) × (List (Int) × (List (Int) × List ((Int × (Int × (Int × Int))))))))))) : Option ((List ((Int × (Int × (List (Int) × (List (Int) × (List (Int) × List ((Int × (Int × (Int × Int)))))))))))) :=
  (psalterylaw34_to_2.l0 K p0 K 0 ([] : List ((Int × (Int × (List (Int) × (List (Int) × (List (Int) × List ((Int × (Int × (Int × Int))))))))))) : Option ((List ((Int × (Int × (List (Int) × (List (Int) × (List (Int) × List ((Int × (Int × (Int × Int))))))))))))).bind fun x50 =>
    some x50
def psalteryref34_Same_3.r0 (_K : Nat) (c0 : List ((Int × (Int × (List (Int) × (List (Int) × (List (Int) × List ((Int × (Int × (Int × Int))))))))))) (_next : Option (Unit))  : Option (Unit) :=
  let v2 := (decide (0 < (c0.length : Int)))
  bif v2 then
    gd (0 < (c0.length : Int)) <|
    none
  else
    some ()
def psalteryref34_Same_3.l0 (K : Nat) (c0 : List ((Int × (Int × (List (Int) × (List (Int) × (List (Int) × List ((Int × (Int × (Int × Int))))))))))) (n : Nat) : Option (Unit) := rounds (psalteryref34_Same_3.r0 K c0) (none) n
def psalteryref34_Same_3 (K : Nat) (p0 : List ((Int × (Int × (List (Int) × (List (Int) × (List (Int) × List ((Int × (Int × (Int × Int))))))))))) : Option (Bool) :=
  let v1 := ((p0.length : Int) != 0)
  bif v1 then
    some false
  else
    (psalteryref34_Same_3.l0 K p0 K  : Option (Unit)).bind fun _ =>
      some true
def psalteryref34_Same_4.r1 (_K : Nat) (_c0 : List ((Int × (Int × (List (Int) × (List (Int) × (List (Int) × List ((Int × (Int × (Int × Int))))))))))) (_c1 : List ((Int × (Int × (List (Int) × (List (Int) × (List (Int) × List ((Int × (Int × (Int × Int))))))))))) (_c2 : Int) (_c3 : Int) (_c4 : Int) (_c5 : List (Int)) (_c6 : List (Int)) (_c7 : List (Int)) (c8 : List ((Int × (Int × (Int × Int))))) (_c9 : Int) (_c10 : Int) (_c11 : List (Int)) (_c12 : List (Int)) (_c13 : List (Int)) (c14 : List ((Int × (Int × (Int × Int))))) (next : Int → Option ((Unit) ⊕ (Bool))) (x85 : Int) : Option ((Unit) ⊕ (Bool)) :=
  let v87 := (c8.length : Int)
  let v88 := (decide (x85 < v87))
  bif v88 then
    let v89 := (Kd.nth (.pair (.int .i64) (.pair (.int .i64) (.pair (.int .i64) (.int .u32)))) c8 (Int.toNat x85))
    gd ((0 : Int) ≤ x85 ∧ x85 < (c8.length : Int)) <|
    let v90 := (Kd.nth (.pair (.int .i64) (.pair (.int .i64) (.pair (.int .i64) (.int .u32)))) c14 (Int.toNat x85))
    gd ((0 : Int) ≤ x85 ∧ x85 < (c14.length : Int)) <|
    let v91 := (!((v89.1 == v90.1) && ((v89.2.1 == v90.2.1) && ((v89.2.2.1 == v90.2.2.1) && (v89.2.2.2 == v90.2.2.2)))))
    bif v91 then
      some (.inr false)
    else
      let v92 := (kwrap .i64 (x85 + 1))
      next v92
  else
    some (.inl ())
def psalteryref34_Same_4.l1 (K : Nat) (c0 : List ((Int × (Int × (List (Int) × (List (Int) × (List (Int) × List ((Int × (Int × (Int × Int))))))))))) (c1 : List ((Int × (Int × (List (Int) × (List (Int) × (List (Int) × List ((Int × (Int × (Int × Int))))))))))) (c2 : Int) (c3 : Int) (c4 : Int) (c5 : List (Int)) (c6 : List (Int)) (c7 : List (Int)) (c8 : List ((Int × (Int × (Int × Int))))) (c9 : Int) (c10 : Int) (c11 : List (Int)) (c12 : List (Int)) (c13 : List (Int)) (c14 : List ((Int × (Int × (Int × Int))))) (n : Nat) : Int → Option ((Unit) ⊕ (Bool)) := rounds (psalteryref34_Same_4.r1 K c0 c1 c2 c3 c4 c5 c6 c7 c8 c9 c10 c11 c12 c13 c14) (fun _ => none) n
def psalteryref34_Same_4.r2 (_K : Nat) (_c0 : List ((Int × (Int × (List (Int) × (List (Int) × (List (Int) × List ((Int × (Int × (Int × Int))))))))))) (_c1 : List ((Int × (Int × (List (Int) × (List (Int) × (List (Int) × List ((Int × (Int × (Int × Int))))))))))) (_c2 : Int) (_c3 : Int) (_c4 : Int) (c5 : List (Int)) (_c6 : List (Int)) (_c7 : List (Int)) (_c8 : List ((Int × (Int × (Int × Int))))) (_c9 : Int) (_c10 : Int) (c11 : List (Int)) (_c12 : List (Int)) (_c13 : List (Int)) (_c14 : List ((Int × (Int × (Int × Int))))) (next : Int → Option ((Unit) ⊕ (Bool))) (x93 : Int) : Option ((Unit) ⊕ (Bool)) :=
  let v95 := (c5.length : Int)
  let v96 := (decide (x93 < v95))
  bif v96 then
    let v97 := (Kd.nth (.int .i16) c5 (Int.toNat x93))
    gd ((0 : Int) ≤ x93 ∧ x93 < (c5.length : Int)) <|
    let v98 := (Kd.nth (.int .i16) c11 (Int.toNat x93))
    gd ((0 : Int) ≤ x93 ∧ x93 < (c11.length : Int)) <|
    bif (v97 != v98) then
      some (.inr false)
    else
      let v99 := (kwrap .i64 (x93 + 1))
      next v99
  else
    some (.inl ())
def psalteryref34_Same_4.l2 (K : Nat) (c0 : List ((Int × (Int × (List (Int) × (List (Int) × (List (Int) × List ((Int × (Int × (Int × Int))))))))))) (c1 : List ((Int × (Int × (List (Int) × (List (Int) × (List (Int) × List ((Int × (Int × (Int × Int))))))))))) (c2 : Int) (c3 : Int) (c4 : Int) (c5 : List (Int)) (c6 : List (Int)) (c7 : List (Int)) (c8 : List ((Int × (Int × (Int × Int))))) (c9 : Int) (c10 : Int) (c11 : List (Int)) (c12 : List (Int)) (c13 : List (Int)) (c14 : List ((Int × (Int × (Int × Int))))) (n : Nat) : Int → Option ((Unit) ⊕ (Bool)) := rounds (psalteryref34_Same_4.r2 K c0 c1 c2 c3 c4 c5 c6 c7 c8 c9 c10 c11 c12 c13 c14) (fun _ => none) n
def psalteryref34_Same_4.r0 (K : Nat) (c0 : List ((Int × (Int × (List (Int) × (List (Int) × (List (Int) × List ((Int × (Int × (Int × Int))))))))))) (c1 : List ((Int × (Int × (List (Int) × (List (Int) × (List (Int) × List ((Int × (Int × (Int × Int))))))))))) (next : Int → Option ((Unit) ⊕ (Bool))) (x46 : Int) : Option ((Unit) ⊕ (Bool)) :=
  let v56 := (decide (x46 < (c0.length : Int)))
  bif v56 then
    let v61 := (Kd.nth (.pair (.int .i64) (.pair (.int .i64) (.pair (.slice (.int .i16)) (.pair (.slice (.int .u8)) (.pair (.slice (.int .u8)) (.slice (.pair (.int .i64) (.pair (.int .i64) (.pair (.int .i64) (.int .u32)))))))))) c0 (Int.toNat x46))
    gd ((0 : Int) ≤ x46 ∧ x46 < (c0.length : Int)) <|
    let v62 := (Kd.nth (.pair (.int .i64) (.pair (.int .i64) (.pair (.slice (.int .i16)) (.pair (.slice (.int .u8)) (.pair (.slice (.int .u8)) (.slice (.pair (.int .i64) (.pair (.int .i64) (.pair (.int .i64) (.int .u32)))))))))) c1 (Int.toNat x46))
    gd ((0 : Int) ≤ x46 ∧ x46 < (c1.length : Int)) <|
    let v63 := (v61.1 != v62.1)
    let v64 := (v61.2.1 != v62.2.1)
    let v65 := (bif v63 then true else v64)
    let v66 := (bstr v61.2.2.2.1)
    let v67 := (bstr v62.2.2.2.1)
    let v68 := (!(beqs v66 v67))
    let v69 := (bif v65 then true else v68)
    let v70 := (bstr v61.2.2.2.2.1)
    let v71 := (bstr v62.2.2.2.2.1)
    let v72 := (!(beqs v70 v71))
    let v73 := (bif v69 then true else v72)
    let v74 := (v61.2.2.1.length : Int)
    let v75 := (v62.2.2.1.length : Int)
    let v76 := (bif v73 then true else (v74 != v75))
    let v77 := (v61.2.2.2.2.2.length : Int)
    let v78 := (v62.2.2.2.2.2.length : Int)
    let v79 := (bif v76 then true else (v77 != v78))
    bif v79 then
      some (.inr false)
    else
      (psalteryref34_Same_4.l2 K c0 c1 x46 v61.1 v61.2.1 v61.2.2.1 v61.2.2.2.1 v61.2.2.2.2.1 v61.2.2.2.2.2 v62.1 v62.2.1 v62.2.2.1 v62.2.2.2.1 v62.2.2.2.2.1 v62.2.2.2.2.2 K 0 : Option ((Unit) ⊕ (Bool))).bind fun z => match z with
      | .inl _ =>
        (psalteryref34_Same_4.l1 K c0 c1 x46 v61.1 v61.2.1 v61.2.2.1 v61.2.2.2.1 v61.2.2.2.2.1 v61.2.2.2.2.2 v62.1 v62.2.1 v62.2.2.1 v62.2.2.2.1 v62.2.2.2.2.1 v62.2.2.2.2.2 K 0 : Option ((Unit) ⊕ (Bool))).bind fun z => match z with
        | .inl _ =>
          let v84 := (kwrap .i64 (x46 + 1))
          next v84
        | .inr r =>
          some (.inr r)
      | .inr r =>
        some (.inr r)
  else
    some (.inl ())
def psalteryref34_Same_4.l0 (K : Nat) (c0 : List ((Int × (Int × (List (Int) × (List (Int) × (List (Int) × List ((Int × (Int × (Int × Int))))))))))) (c1 : List ((Int × (Int × (List (Int) × (List (Int) × (List (Int) × List ((Int × (Int × (Int × Int))))))))))) (n : Nat) : Int → Option ((Unit) ⊕ (Bool)) := rounds (psalteryref34_Same_4.r0 K c0 c1) (fun _ => none) n
def psalteryref34_Same_4 (K : Nat) (p0 : List ((Int × (Int × (List (Int) × (List (Int) × (List (Int) × List ((Int × (Int × (Int × Int))))))))))) (p1 : List ((Int × (Int × (List (Int) × (List (Int) × (List (Int) × List ((Int × (Int × (Int × Int))))))))))) : Option (Bool) :=
  let v19 := ((p0.length : Int) != (p1.length : Int))
  bif v19 then
    some false
  else
    (psalteryref34_Same_4.l0 K p0 p1 K 0 : Option ((Unit) ⊕ (Bool))).bind fun z => match z with
    | .inl _ =>
      some true
    | .inr r =>
      some r
def psalterylaw34_ScoreParses (K : Nat) (p0 : ByteArray) : Option (Bool) :=
  (psalterylaw34_alive K ).bind fun r16 =>
  bif (!r16) then
    some false
  else
    let v17 := (decide ((p0.size : Int) > 4000))
    let v18 := (decide ((p0.size : Int) ≤ 65536))
    let v19 := (bif v17 then v18 else false)
    bif v19 then
      some true
    else
      (score_Parse K p0).bind fun z => match z with
      | .inl (r20, r21) =>
        (psalteryref34_Parse K p0).bind fun z => match z with
        | .inl (r23, r24) =>
          (psalterylaw34_to K ).bind fun _ =>
          (psalteryref34_Same K ).bind fun _ =>
          let v26 := (bif (r20 == r23) then (r21 == r24) else false)
          some v26
        | .inr r25 =>
          (psalterylaw34_to K ).bind fun _ =>
          (psalteryref34_Same_2 K r25).bind fun r27 =>
          let v28 := (bif r27 then (r20 == 0) else false)
          let v29 := (bif v28 then (r21 == 0) else false)
          some v29
      | .inr r22 =>
        (psalteryref34_Parse K p0).bind fun z => match z with
        | .inl (r30, r31) =>
          (psalterylaw34_to_2 K r22).bind fun r33 =>
          (psalteryref34_Same_3 K r33).bind fun r34 =>
          let v35 := (bif r34 then (0 == r30) else false)
          let v36 := (bif v35 then (0 == r31) else false)
          some v36
        | .inr r32 =>
          (psalterylaw34_to_2 K r22).bind fun r37 =>
          (psalteryref34_Same_4 K r37 r32).bind fun r38 =>
          let v39 := (bif r38 then true else false)
          let v40 := (bif v39 then true else false)
          some v40
end Go.Fo
