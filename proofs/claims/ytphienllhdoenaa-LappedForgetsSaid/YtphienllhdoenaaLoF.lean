/- The functions of Go that are reached, as functions of plain values. -/
import Derived.Test.YtphienllhdoenaaJ3
namespace Go.Fo
def bank_New (_K : Nat) : Option (Unit) :=
  some ()
def lapped_lengths (_K : Nat)  : Option (Unit) :=
  some ()
def slices_Index_int_int.r0 (_K : Nat) (c0 : List (Int)) (c1 : Int) (c2 : Int) (next : Int → Option ((Unit) ⊕ (Int))) (x5 : Int) : Option ((Unit) ⊕ (Int)) :=
  let v7 := (decide (x5 < c2))
  bif v7 then
    let v8 := (Kd.nth (.int .i64) c0 (Int.toNat x5))
    gd ((0 : Int) ≤ x5 ∧ x5 < (c0.length : Int)) <|
    bif (c1 == v8) then
      some (.inr x5)
    else
      let v9 := (kwrap .i64 (x5 + 1))
      next v9
  else
    some (.inl ())
def slices_Index_int_int.l0 (K : Nat) (c0 : List (Int)) (c1 : Int) (c2 : Int) (n : Nat) : Int → Option ((Unit) ⊕ (Int)) := rounds (slices_Index_int_int.r0 K c0 c1 c2) (fun _ => none) n
def slices_Index_int_int (K : Nat) (p0 : List (Int)) (p1 : Int) : Option (Int) :=
  (slices_Index_int_int.l0 K p0 p1 (p0.length : Int) K 0 : Option ((Unit) ⊕ (Int))).bind fun z => match z with
  | .inl _ =>
    some (-1)
  | .inr r =>
    some r
def slices_Contains_int_int (K : Nat) (p0 : List (Int)) (p1 : Int) : Option (Bool) :=
  (slices_Index_int_int K p0 p1).bind fun r2 =>
  let v3 := (decide (r2 ≥ 0))
  some v3
def bank_Bank_may (_K : Nat) (p0 : Bool) (_p1 : List (Option (List (Int)))) (_p2 : Int) (_p3 : Int) : Option ((Unit) ⊕ (Unit)) :=
  bif (!p0) then
    some (.inl ())
  else
    some (.inr ())
def sync_atomic_Bool_Load (_K : Nat) (_p0 : List (Option (List (Int)))) (_p1 : List (Option (List (Int)))) (_p2 : Int) (_p3 : Int) : Option (Unit) :=
  some ()
def wave_modulo (_K : Nat) (p0 : Int) (p1 : Int) : Option (Int) :=
  let v2 := (Int.tmod p0 p1)
  gd (p1 ≠ 0) <|
  let v3 := (decide (v2 < 0))
  (
    bif v3 then
      let v5 := (kwrap .i64 (v2 + p1))
      some v5
    else
      some v2 : Option (Int)).bind fun x4 =>
    some x4
def wave_height (K : Nat) (p0 : Int) (p1 : Int) : Option (Int × Int) :=
  (wave_modulo K p0 p1).bind fun r3 =>
  let v4 := (kwrap .i64 (4 * r3))
  let v5 := (kwrap .i64 (Int.tdiv v4 p1))
  gd (p1 ≠ 0) <|
  let v6 := (Int.tmod v4 p1)
  gd (p1 ≠ 0) <|
  let v7 := (kand .i64 v5 1)
  (
    bif (v7 == 1) then
      let v11 := (kwrap .i64 (p1 - v6))
      some v11
    else
      some v6 : Option (Int)).bind fun x8 =>
    let v9 := (kshl .u64 (kwrap .u64 x8) 30)
    let v10 := (kwrap .u64 (Int.tdiv v9 (kwrap .u64 p1)))
    gd ((kwrap .u64 p1) ≠ 0) <|
    some (v10, v5)
def fix_within_int (_K : Nat) (p0 : Int) (p1 : Int) (p2 : Int) : Option (Int) :=
  let v1 := (decide (p0 < p1))
  bif v1 then
    some p1
  else
    let v2 := (decide (p0 > p2))
    bif v2 then
      some p2
    else
      some p0
def fix_Round (K : Nat) (p0 : Int) (p1 : Int) : Option (Int) :=
  (fix_within_int K p1 0 62).bind fun r2 =>
  bif (r2 == 0) then
    some p0
  else
    let v3 := (kshr .i64 p0 r2)
    gd ((0 : Int) ≤ r2) <|
    let v4 := (kwrap .i64 (r2 - 1))
    let v5 := (kshr .i64 p0 v4)
    gd ((0 : Int) ≤ v4) <|
    let v6 := (kand .i64 v5 1)
    let v7 := (kwrap .i64 (v3 + v6))
    some v7
def fix_within_int64 (_K : Nat) (p0 : Int) (p1 : Int) (p2 : Int) : Option (Int) :=
  let v1 := (decide (p0 < p1))
  bif v1 then
    some p1
  else
    let v2 := (decide (p0 > p2))
    bif v2 then
      some p2
    else
      some p0
def fix_Clip (K : Nat) (p0 : Int) (p1 : Int) (p2 : Int) : Option (Int) :=
  (fix_within_int64 K p0 p1 p2).bind fun r2 =>
  some r2
def wave_sine.r0 (_K : Nat) (_c0 : Int) (_c1 : Int) (c2 : Int) (next : Int → Int → Option (Int)) (x27 : Int) (x28 : Int) : Option (Int) :=
  let v31 := (decide (x28 < 4))
  bif v31 then
    let v32 := (List.getD [5026995, 85569306, 693598668, 1686629713] (Int.toNat x28) 0)
    gd ((0 : Int) ≤ x28 ∧ x28 < 4) <|
    let v33 := (kwrap .u64 (x27 * c2))
    let v34 := (kshr .u64 v33 30)
    let v35 := (kwrap .u64 (v32 - v34))
    let v36 := (kwrap .i64 (x28 + 1))
    next v35 v36
  else
    some x27
def wave_sine.l0 (K : Nat) (c0 : Int) (c1 : Int) (c2 : Int) (n : Nat) : Int → Int → Option (Int) := rounds (wave_sine.r0 K c0 c1 c2) (fun _ _ => none) n
def wave_sine (K : Nat) (p0 : Int) (p1 : Int) : Option (Int) :=
  (wave_height K p0 p1).bind fun (r11, r12) =>
  let v13 := (kwrap .u64 (r11 * r11))
  let v14 := (kshr .u64 v13 30)
  (wave_sine.l0 K r11 r12 v14 K 172272 0 : Option (Int)).bind fun x19 =>
    let v20 := (kwrap .u64 (x19 * r11))
    let v21 := (kshr .u64 v20 30)
    let v22 := (kwrap .i64 v21)
    (fix_Round K v22 15).bind fun r23 =>
    (fix_Clip K r23 0 32767).bind fun r24 =>
    let v25 := (decide (r12 ≥ 2))
    (
      bif v25 then
        some ((kwrap .i64 (0 - r24)))
      else
        some r24 : Option (Int)).bind fun x26 =>
      some (kwrap .i16 x26)
def wave_Sine (K : Nat) (p0 : Int) (p1 : Int) : Option (Int × Int) :=
  let v2 := (decide (p1 < 1))
  let v3 := (decide (p1 > 1048576))
  let v4 := (bif v2 then true else v3)
  bif v4 then
    some (0, 1)
  else
    (wave_sine K p0 p1).bind fun r5 =>
    some (r5, 0)
def bank_Bank_Slope_1 (K : Nat) (p0 : Int) (p1 : Int) : Option (Int) :=
  let v3 := (kwrap .i64 (2 * p0))
  let v4 := (kwrap .i64 (v3 + 1))
  let v5 := (kwrap .i64 (8 * p1))
  (wave_Sine K v4 v5).bind fun (r6, _r7) =>
  some r6
def sync_atomic_Int64_Add (_K : Nat) (p0 : Int) (p1 : List (Option (List (Int)))) (_p2 : List (Int)) (p3 : List (Option (List (Int)))) (p4 : Int) (_p5 : Int) : Option (Int) :=
  gd (p1.length + p3.length = 387) <|
  some (kwrap .i64 (p4 + p0))
def bank_Bank_tell_1.r0 (K : Nat) (c0 : Int) (_c1 : List (Option (List (Int)))) (_c2 : List (Option (List (Int)))) (_c3 : Int) (_c4 : Int) (_c5 : Int) (c6 : Int) (next : Int → List (Int) → Option ((List (Int)))) (x25 : Int) (x26 : List (Int)) : Option ((List (Int))) :=
  let v31 := (decide (x25 < c0))
  bif v31 then
    (bank_Bank_Slope_1 K x25 c6).bind fun r33 =>
    gd ((0 : Int) ≤ x25 ∧ x25 < (x26.length : Int)) <|
    let v34 := (List.set x26 (Int.toNat x25) r33)
    gd ((Int.toNat x25) < x26.length) <|
    let v35 := (kwrap .i64 (x25 + 1))
    next v35 v34
  else
    some x26
def bank_Bank_tell_1.l0 (K : Nat) (c0 : Int) (c1 : List (Option (List (Int)))) (c2 : List (Option (List (Int)))) (c3 : Int) (c4 : Int) (c5 : Int) (c6 : Int) (n : Nat) : Int → List (Int) → Option ((List (Int))) := rounds (bank_Bank_tell_1.r0 K c0 c1 c2 c3 c4 c5 c6) (fun _ _ => none) n
def bank_Bank_tell_1 (K : Nat) (p0 : List (Option (List (Int)))) (p1 : List (Option (List (Int)))) (p2 : Int) (p3 : Int) (p4 : Int) (p5 : Int) : Option ((List (Int)) × Int) :=
  let v11 := (List.replicate (Int.toNat p4) (0 : Int))
  gd ((0 : Int) ≤ p4 ∧ p4 ≤ p4 ∧ p4 * 2 ≤ 140737488355328) <|
  let v12 := (v11.length : Int)
  (bank_Bank_tell_1.l0 K v12 p0 p1 p2 p3 p4 p5 K 0 v11 : Option ((List (Int)))).bind fun x21 =>
    (sync_atomic_Int64_Add K 1 p0 x21 p1 p2 p3).bind fun r22 =>
    some (x21, r22)
def sync_Once_doSlow (K : Nat) (p0 : List (Option (List (Int)))) (p1 : List (Option (List (Int)))) (p2 : Int) (p3 : Int) (p4 : Int) (p5 : Int) : Option ((List (Int)) × Int) :=
  bank_Bank_tell_1 K p0 p1 p2 p3 p4 p5
def sync_Once_Do (K : Nat) (p0 : List (Option (List (Int)))) (p1 : List (Option (List (Int)))) (p2 : Int) (p3 : Int) (p4 : Int) (p5 : Int) : Option ((List (Int)) × Int) :=
  (sync_atomic_Bool_Load K p0 p1 p2 p3).bind fun _ =>
  (sync_Once_doSlow K p0 p1 p2 p3 p4 p5).bind fun (r3, r4) =>
  some (r3, r4)
def sync_atomic_Int64_Add_2 (_K : Nat) (p0 : Int) (p1 : List (Option (List (Int)))) (_p2 : List (Int)) (p3 : List (Option (List (Int)))) (_p4 : Int) (p5 : Int) : Option (Int) :=
  gd (p1.length + p3.length = 387) <|
  some (kwrap .i64 (p5 + p0))
def slices_Clone_int16_int16 (_K : Nat) (p0 : List (Int)) : Option ((List (Int))) :=
  gd (p0 ≠ []) <|
  let v1 := (([] : List (Int)) ++ p0)
  gd (((([] : List (Int)).length : Int) + (p0.length : Int)) * 2 ≤ 70368744177664) <|
  some v1
def bank_Bank_tell (K : Nat) (t0 : List (Option (List (Int)))) (t1 : List (Option (List (Int)))) (p1 : Int) (p3 : Int) (p4 : Int) (p5 : Int) : Option ((List (Int)) × (List (Int)) × Int × Int) :=
  (sync_Once_Do K t0 t1 p3 p4 p1 p5).bind fun (r5, r6) =>
  (sync_atomic_Int64_Add_2 K 1 t0 r5 t1 r6 p4).bind fun r7 =>
  (slices_Clone_int16_int16 K r5).bind fun r8 =>
  some (r8, r5, r6, r7)
def sync_atomic_Bool_Load_2 (_K : Nat) (_p0 : List (Option (List (Int)))) (_p1 : List (Int)) (_p2 : List (Option (List (Int)))) (_p3 : Int) (_p4 : Int) : Option (Unit) :=
  some ()
def sync_Once_Do_2 (K : Nat) (p0 : List (Option (List (Int)))) (p1 : List (Int)) (p2 : List (Option (List (Int)))) (p3 : Int) (p4 : Int) (_p5 : Int) (_p6 : Int) : Option (Unit) :=
  (sync_atomic_Bool_Load_2 K p0 p1 p2 p3 p4).bind fun _ =>
  some ()
def bank_Bank_tell_2 (K : Nat) (t0 : List (Option (List (Int)))) (t1 : List (Option (List (Int)))) (l : List (Int)) (p1 : Int) (p3 : Int) (p4 : Int) (p5 : Int) : Option ((List (Int)) × Int) :=
  (sync_Once_Do_2 K t0 l t1 p3 p4 p1 p5).bind fun _ =>
  (sync_atomic_Int64_Add_2 K 1 t0 l t1 p3 p4).bind fun r3 =>
  (slices_Clone_int16_int16 K l).bind fun r4 =>
  some (r4, r3)
def bank_Bank_tell_3 (K : Nat) (p0 : Nat) (p1 : Int) (p2 : List (Option (List (Int)))) (p3 : Int) (p4 : Int) (p5 : Int) : Option ((List (Int)) × (List (Option (List (Int)))) × Int × Int) :=
  gd (p2.length = 388 ∧ p0 = p0 / 4 * 4 ∧ p0 / 4 < 388) <|
  match p2[p0 / 4]? with
  | some none => (bank_Bank_tell K (p2.take (p0 / 4)) (p2.drop ((p0 / 4) + 1)) p1 p3 p4 p5).bind fun (q0', q1', q2', q3') => some (q0', (p2.take (p0 / 4) ++ some q1' :: p2.drop ((p0 / 4) + 1)), q2', q3')
  | some (some l) => (bank_Bank_tell_2 K (p2.take (p0 / 4)) (p2.drop ((p0 / 4) + 1)) l p1 p3 p4 p5).bind fun (q0', q1') => some (q0', p2, p3, q1')
  | none => none
def bank_Bank_Slope (K : Nat) (p0 : Int) (p1 : List (Option (List (Int)))) (p2 : Int) (p3 : Int) : Option ((Unit) ⊕ ((List (Int)) × (List (Option (List (Int)))) × Int × Int)) :=
  let v5 := (decide (p0 ≥ 1))
  let v6 := (decide (p0 ≤ 128))
  let v7 := (bif v5 then v6 else false)
  (bank_Bank_may K v7 p1 p2 p3).bind fun z => match z with
  | .inl _ =>
    some (.inl ())
  | .inr _ =>
    let v8 := (1028 + (Int.toNat p0) * 4)
    gd ((0 : Int) ≤ p0 ∧ p0 < 129) <|
    (bank_Bank_tell_3 K v8 p0 p1 p2 p3 p0).bind fun (r9, r10, r11, r12) =>
    some (.inr (r9, r10, r11, r12))
def math_bits_Mul64 (_K : Nat) (p0 : Int) (p1 : Int) : Option (Int × Int) :=
  let v1 := (kand .u64 p0 4294967295)
  let v2 := (kshr .u64 p0 32)
  let v3 := (kand .u64 p1 4294967295)
  let v4 := (kshr .u64 p1 32)
  let v5 := (kwrap .u64 (v1 * v3))
  let v6 := (kwrap .u64 (v2 * v3))
  let v7 := (kshr .u64 v5 32)
  let v8 := (kwrap .u64 (v6 + v7))
  let v9 := (kand .u64 v8 4294967295)
  let v10 := (kshr .u64 v8 32)
  let v11 := (kwrap .u64 (v1 * v4))
  let v12 := (kwrap .u64 (v9 + v11))
  let v13 := (kwrap .u64 (v2 * v4))
  let v14 := (kwrap .u64 (v13 + v10))
  let v15 := (kshr .u64 v12 32)
  let v16 := (kwrap .u64 (v14 + v15))
  let v17 := (kwrap .u64 (p0 * p1))
  some (v16, v17)
def math_bits_Mul (K : Nat) (p0 : Int) (p1 : Int) : Option (Int × Int) :=
  (math_bits_Mul64 K p0 p1).bind fun (r3, r4) =>
  some (r3, r4)
def slices_Repeat_int16_int16.r0 (_K : Nat)  (next : Int → List (Int) → Option ((List (Int)))) (x23 : Int) (x24 : List (Int)) : Option ((List (Int))) :=
  let v27 := (decide (x23 < (x24.length : Int)))
  bif v27 then
    gd ((0 : Int) ≤ x23 ∧ x23 < (x24.length : Int)) <|
    gd ((0 : Int) ≤ x23 ∧ x23 ≤ (x24.length : Int) ∧ x24 ≠ []) <|
    let v28 := (cpy (Int.toNat x23) x24 (x24.take (Int.toNat x23)))
    gd ((Int.toNat x23) < x24.length ∧ (Int.toNat x23) ≤ x24.length) <|
    let v29 := (kwrap .i64 (x23 + ((min (x24.take (Int.toNat x23)).length (x24.length - (Int.toNat x23)) : Nat) : Int)))
    next v29 v28
  else
    some x24
def slices_Repeat_int16_int16.l0 (K : Nat)  (n : Nat) : Int → List (Int) → Option ((List (Int))) := rounds (slices_Repeat_int16_int16.r0 K) (fun _ _ => none) n
def slices_Repeat_int16_int16 (K : Nat) (p0 : List (Int)) (p1 : Int) : Option ((List (Int))) :=
  let v8 := (decide (p1 < 0))
  bif v8 then
    none
  else
    let v9 := (kwrap .u64 (p0.length : Int))
    (math_bits_Mul K v9 (kwrap .u64 p1)).bind fun (r10, r11) =>
    let v12 := (decide (r10 > 0))
    let v13 := (decide (r11 > 9223372036854775807))
    let v14 := (bif v12 then true else v13)
    bif v14 then
      none
    else
      let v15 := (List.replicate (Int.toNat (kwrap .i64 r11)) (0 : Int))
      gd ((0 : Int) ≤ (kwrap .i64 r11) ∧ (kwrap .i64 r11) ≤ (kwrap .i64 r11) ∧ (kwrap .i64 r11) * 2 ≤ 140737488355328) <|
      let v16 := (cpy 0 v15 p0)
      let v17 := ((min p0.length (v15.length - 0) : Nat) : Int)
      (slices_Repeat_int16_int16.l0 K K v17 v16 : Option ((List (Int)))).bind fun x22 =>
        some x22
def slices_Clone_int16_int16_2 (_K : Nat) (p0 : List (Int)) : Option ((List (Int))) :=
  gd (p0 ≠ []) <|
  let v1 := (([] : List (Int)) ++ p0)
  gd (((([] : List (Int)).length : Int) + (p0.length : Int)) * 2 ≤ 70368744177664) <|
  some v1
def slices_Reverse_int16_int16.r0 (_K : Nat)  (next : Int → Int → List (Int) → Option ((List (Int)))) (x16 : Int) (x17 : Int) (x18 : List (Int)) : Option ((List (Int))) :=
  let v22 := (decide (x16 < x17))
  bif v22 then
    gd ((0 : Int) ≤ x17 ∧ x17 < (x18.length : Int)) <|
    let v23 := (Kd.nth (.int .i16) x18 (Int.toNat x17))
    gd ((Int.toNat x17) < x18.length) <|
    gd ((0 : Int) ≤ x16 ∧ x16 < (x18.length : Int)) <|
    let v24 := (Kd.nth (.int .i16) x18 (Int.toNat x16))
    gd ((Int.toNat x16) < x18.length) <|
    gd ((0 : Int) ≤ x16 ∧ x16 < (x18.length : Int)) <|
    let v25 := (List.set x18 (Int.toNat x16) v23)
    gd ((Int.toNat x16) < x18.length) <|
    gd ((0 : Int) ≤ x17 ∧ x17 < (v25.length : Int)) <|
    let v26 := (List.set v25 (Int.toNat x17) v24)
    gd ((Int.toNat x17) < v25.length) <|
    let v27 := (kwrap .i64 (x16 + 1))
    let v28 := (kwrap .i64 (x17 - 1))
    next v27 v28 v26
  else
    some x18
def slices_Reverse_int16_int16.l0 (K : Nat)  (n : Nat) : Int → Int → List (Int) → Option ((List (Int))) := rounds (slices_Reverse_int16_int16.r0 K) (fun _ _ _ => none) n
def slices_Reverse_int16_int16 (K : Nat) (p0 : List (Int)) : Option ((List (Int))) :=
  let v8 := (kwrap .i64 ((p0.length : Int) - 1))
  (slices_Reverse_int16_int16.l0 K K 0 v8 p0 : Option ((List (Int)))).bind fun x15 =>
    some x15
def lapped_Window (K : Nat) (p0 : Int) (p1 : List (Option (List (Int)))) (p2 : Int) (p3 : Int) : Option ((Unit) ⊕ ((List (Int)) × (List (Option (List (Int)))) × Int × Int)) :=
  (lapped_lengths K ).bind fun _ =>
  let v9 := [(40, (60, (80, 120))).1, (40, (60, (80, 120))).2.1, (40, (60, (80, 120))).2.2.1, (40, (60, (80, 120))).2.2.2]
  (slices_Contains_int_int K v9 p0).bind fun r10 =>
  bif (!r10) then
    some (.inl ())
  else
    let v11 := (kwrap .i64 (Int.tdiv p0 2))
    (bank_Bank_Slope K v11 p1 p2 p3).bind fun z => match z with
    | .inl _ =>
      some (.inl ())
    | .inr (r12, r13, r14, r15) =>
      let v16 := (kwrap .i64 (Int.tdiv p0 4))
      let v17 := (kwrap .i64 (2 * p0))
      let v18 := (List.replicate (Int.toNat v16) (0 : Int))
      gd ((0 : Int) ≤ v16 ∧ v16 ≤ v17 ∧ v17 * 2 ≤ 140737488355328) <|
      gd (((v18.length : Int) + (r12.length : Int)) * 2 ≤ 70368744177664) <|
      (slices_Repeat_int16_int16 K [32767] v16).bind fun r19 =>
      let v20 := ((v18 ++ r12) ++ r19)
      gd ((((v18 ++ r12).length : Int) + (r19.length : Int)) * 2 ≤ 70368744177664) <|
      (slices_Clone_int16_int16_2 K v20).bind fun r21 =>
      (slices_Reverse_int16_int16 K r21).bind fun r22 =>
      gd (((v20.length : Int) + (r22.length : Int)) * 2 ≤ 70368744177664) <|
      some (.inr ((v20 ++ r22), r13, r14, r15))
def wave_Cosine (K : Nat) (p0 : Int) (p1 : Int) : Option (Int × Int) :=
  let v3 := (decide (p1 < 1))
  let v4 := (decide (p1 > 1048576))
  let v5 := (bif v3 then true else v4)
  bif v5 then
    some (0, 1)
  else
    (wave_modulo K p0 p1).bind fun r6 =>
    let v7 := (kwrap .i64 (4 * r6))
    let v8 := (kwrap .i64 (v7 + p1))
    let v9 := (kwrap .i64 (4 * p1))
    (wave_sine K v8 v9).bind fun r10 =>
    some (r10, 0)
def bank_Bank_Turn_1 (K : Nat) (p0 : Int) (p1 : Int) : Option (Int) :=
  (wave_Cosine K p0 p1).bind fun (r3, _r4) =>
  some r3
def bank_Bank_tell_1_2.r0 (K : Nat) (c0 : Int) (_c1 : List (Option (List (Int)))) (_c2 : List (Option (List (Int)))) (_c3 : Int) (_c4 : Int) (_c5 : Int) (c6 : Int) (next : Int → List (Int) → Option ((List (Int)))) (x25 : Int) (x26 : List (Int)) : Option ((List (Int))) :=
  let v31 := (decide (x25 < c0))
  bif v31 then
    (bank_Bank_Turn_1 K x25 c6).bind fun r33 =>
    gd ((0 : Int) ≤ x25 ∧ x25 < (x26.length : Int)) <|
    let v34 := (List.set x26 (Int.toNat x25) r33)
    gd ((Int.toNat x25) < x26.length) <|
    let v35 := (kwrap .i64 (x25 + 1))
    next v35 v34
  else
    some x26
def bank_Bank_tell_1_2.l0 (K : Nat) (c0 : Int) (c1 : List (Option (List (Int)))) (c2 : List (Option (List (Int)))) (c3 : Int) (c4 : Int) (c5 : Int) (c6 : Int) (n : Nat) : Int → List (Int) → Option ((List (Int))) := rounds (bank_Bank_tell_1_2.r0 K c0 c1 c2 c3 c4 c5 c6) (fun _ _ => none) n
def bank_Bank_tell_1_2 (K : Nat) (p0 : List (Option (List (Int)))) (p1 : List (Option (List (Int)))) (p2 : Int) (p3 : Int) (p4 : Int) (p5 : Int) : Option ((List (Int)) × Int) :=
  let v11 := (List.replicate (Int.toNat p4) (0 : Int))
  gd ((0 : Int) ≤ p4 ∧ p4 ≤ p4 ∧ p4 * 2 ≤ 140737488355328) <|
  let v12 := (v11.length : Int)
  (bank_Bank_tell_1_2.l0 K v12 p0 p1 p2 p3 p4 p5 K 0 v11 : Option ((List (Int)))).bind fun x21 =>
    (sync_atomic_Int64_Add K 1 p0 x21 p1 p2 p3).bind fun r22 =>
    some (x21, r22)
def sync_Once_doSlow_2 (K : Nat) (p0 : List (Option (List (Int)))) (p1 : List (Option (List (Int)))) (p2 : Int) (p3 : Int) (p4 : Int) (p5 : Int) : Option ((List (Int)) × Int) :=
  bank_Bank_tell_1_2 K p0 p1 p2 p3 p4 p5
def sync_Once_Do_3 (K : Nat) (p0 : List (Option (List (Int)))) (p1 : List (Option (List (Int)))) (p2 : Int) (p3 : Int) (p4 : Int) (p5 : Int) : Option ((List (Int)) × Int) :=
  (sync_atomic_Bool_Load K p0 p1 p2 p3).bind fun _ =>
  (sync_Once_doSlow_2 K p0 p1 p2 p3 p4 p5).bind fun (r3, r4) =>
  some (r3, r4)
def bank_Bank_tell_4 (K : Nat) (t0 : List (Option (List (Int)))) (t1 : List (Option (List (Int)))) (p1 : Int) (p3 : Int) (p4 : Int) (p5 : Int) : Option ((List (Int)) × (List (Int)) × Int × Int) :=
  (sync_Once_Do_3 K t0 t1 p3 p4 p1 p5).bind fun (r5, r6) =>
  (sync_atomic_Int64_Add_2 K 1 t0 r5 t1 r6 p4).bind fun r7 =>
  (slices_Clone_int16_int16 K r5).bind fun r8 =>
  some (r8, r5, r6, r7)
def sync_Once_Do_4 (K : Nat) (p0 : List (Option (List (Int)))) (p1 : List (Int)) (p2 : List (Option (List (Int)))) (p3 : Int) (p4 : Int) (_p5 : Int) (_p6 : Int) : Option (Unit) :=
  (sync_atomic_Bool_Load_2 K p0 p1 p2 p3 p4).bind fun _ =>
  some ()
def bank_Bank_tell_5 (K : Nat) (t0 : List (Option (List (Int)))) (t1 : List (Option (List (Int)))) (l : List (Int)) (p1 : Int) (p3 : Int) (p4 : Int) (p5 : Int) : Option ((List (Int)) × Int) :=
  (sync_Once_Do_4 K t0 l t1 p3 p4 p1 p5).bind fun _ =>
  (sync_atomic_Int64_Add_2 K 1 t0 l t1 p3 p4).bind fun r3 =>
  (slices_Clone_int16_int16 K l).bind fun r4 =>
  some (r4, r3)
def bank_Bank_tell_6 (K : Nat) (p0 : Nat) (p1 : Int) (p2 : List (Option (List (Int)))) (p3 : Int) (p4 : Int) (p5 : Int) : Option ((List (Int)) × (List (Option (List (Int)))) × Int × Int) :=
  gd (p2.length = 388 ∧ p0 = p0 / 4 * 4 ∧ p0 / 4 < 388) <|
  match p2[p0 / 4]? with
  | some none => (bank_Bank_tell_4 K (p2.take (p0 / 4)) (p2.drop ((p0 / 4) + 1)) p1 p3 p4 p5).bind fun (q0', q1', q2', q3') => some (q0', (p2.take (p0 / 4) ++ some q1' :: p2.drop ((p0 / 4) + 1)), q2', q3')
  | some (some l) => (bank_Bank_tell_5 K (p2.take (p0 / 4)) (p2.drop ((p0 / 4) + 1)) l p1 p3 p4 p5).bind fun (q0', q1') => some (q0', p2, p3, q1')
  | none => none
def bank_Bank_Turn (K : Nat) (p0 : Int) (p1 : List (Option (List (Int)))) (p2 : Int) (p3 : Int) : Option ((Unit) ⊕ ((List (Int)) × (List (Option (List (Int)))) × Int × Int)) :=
  let v5 := (decide (p0 ≥ 4))
  let v6 := (decide (p0 ≤ 1024))
  let v7 := (bif v5 then v6 else false)
  let v8 := (Int.tmod p0 4)
  let v9 := (bif v7 then (v8 == 0) else false)
  (bank_Bank_may K v9 p1 p2 p3).bind fun z => match z with
  | .inl _ =>
    some (.inl ())
  | .inr _ =>
    let v10 := (kwrap .i64 (Int.tdiv p0 4))
    let v11 := (0 + (Int.toNat v10) * 4)
    gd ((0 : Int) ≤ v10 ∧ v10 < 257) <|
    (bank_Bank_tell_6 K v11 p0 p1 p2 p3 p0).bind fun (r12, r13, r14, r15) =>
    some (.inr (r12, r13, r14, r15))
def lapped_of (K : Nat) (p0 : Int) (p1 : List (Option (List (Int)))) (p2 : Int) (p3 : Int) : Option ((Unit) ⊕ ((List (Int)) × (List (Option (List (Int)))) × Int × Int) ⊕ ((List (Int)) × (List (Int)) × (List (Option (List (Int)))) × Int × Int)) :=
  (lapped_Window K p0 p1 p2 p3).bind fun z => match z with
  | .inl _ =>
    some (.inl ())
  | .inr (r9, r10, r11, r12) =>
    let v13 := (kwrap .i64 (8 * p0))
    (bank_Bank_Turn K v13 r10 r11 r12).bind fun z => match z with
    | .inl _ =>
      some (.inr (.inl (r9, r10, r11, r12)))
    | .inr (r14, r15, r16, r17) =>
      some (.inr (.inr (r9, r14, r15, r16, r17)))
def lapped_NewLapper (K : Nat) (p0 : Int) (p1 : List (Option (List (Int)))) (p2 : Int) (p3 : Int) : Option (((List (Option (List (Int)))) × Int × Int) ⊕ ((List (Option (List (Int)))) × Int × Int × (List (Int)) × (List (Int)) × (List (Int)))) :=
  (lapped_of K p0 p1 p2 p3).bind fun z => match z with
  | .inl _ =>
    some (.inl (p1, p2, p3))
  | .inr (.inl (_r10, r11, r12, r13)) =>
    some (.inl (r11, r12, r13))
  | .inr (.inr (r14, r15, r16, r17, r18)) =>
    let v19 := (List.replicate (Int.toNat p0) (0 : Int))
    gd ((0 : Int) ≤ p0 ∧ p0 ≤ p0 ∧ p0 * 2 ≤ 140737488355328) <|
    some (.inr (r16, r17, r18, r14, r15, v19))
def slices_Grow_int16_int16 (_K : Nat) (p0 : Int) : Option (Unit) :=
  gd (0 ≤ p0 ∧ p0 * 2 ≤ 140737488355328) <| some ()
def slices_Concat_int16_int16 (K : Nat) (p0 : List (Int)) (p1 : List (Int)) : Option ((List (Int))) :=
  (
    let v6 := (kwrap .i64 (0 + (p1.length : Int)))
    let v7 := (decide (v6 < 0))
    bif v7 then
      none
    else
      let v8 := (kwrap .i64 (v6 + (p0.length : Int)))
      let v9 := (decide (v8 < 0))
      bif v9 then
        none
      else
        some v8 : Option (Int)).bind fun x3 =>
    (slices_Grow_int16_int16 K x3).bind fun _ =>
    (
      let v5 := (([] : List (Int)) ++ p1)
      gd (((([] : List (Int)).length : Int) + (p1.length : Int)) * 2 ≤ 70368744177664) <|
      gd (((v5.length : Int) + (p0.length : Int)) * 2 ≤ 70368744177664) <|
      some (v5 ++ p0) : Option ((List (Int)))).bind fun x4 =>
      some x4
def lapped_tables_windowed (K : Nat) (p0 : Int) (p1 : Int) (_p2 : Int) (p3 : List (Int)) (_p4 : List (Int)) (_p5 : List (Int)) : Option (Int) :=
  let v2 := (Kd.nth (.int .i16) p3 (Int.toNat p1))
  let v3 := (kwrap .i64 v2)
  let v4 := (kwrap .i64 (p0 * v3))
  gd ((0 : Int) ≤ p1 ∧ p1 < (p3.length : Int)) <|
  (fix_Round K v4 15).bind fun r5 =>
  some r5
def lapped_tables_wave (_K : Nat) (p0 : Int) (p1 : Int) (p2 : Int) (_p3 : List (Int)) (p4 : List (Int)) (_p5 : List (Int)) : Option (Int) :=
  let v1 := (kwrap .i64 (2 * p0))
  let v2 := (kwrap .i64 (v1 + 1))
  let v3 := (kwrap .i64 (v2 + p2))
  let v4 := (kwrap .i64 (2 * p1))
  let v5 := (kwrap .i64 (v4 + 1))
  let v6 := (kwrap .i64 (v3 * v5))
  let v7 := (kwrap .i64 (8 * p2))
  let v8 := (Int.tmod v6 v7)
  gd (v7 ≠ 0) <|
  let v9 := (Kd.nth (.int .i16) p4 (Int.toNat v8))
  gd ((0 : Int) ≤ v8 ∧ v8 < (p4.length : Int)) <|
  let v10 := (kwrap .i64 v9)
  some v10
def fix_Sat32 (K : Nat) (p0 : Int) : Option (Int) :=
  (fix_within_int64 K p0 (-2147483648) 2147483647).bind fun r2 =>
  some (kwrap .i32 r2)
def lapped_Lapper_Feed.r1 (K : Nat) (_c0 : List (Int)) (c1 : Int) (_c2 : Int) (c3 : Int) (c4 : Int) (c5 : List (Int)) (c6 : List (Int)) (c7 : List (Int)) (c8 : List (Int)) (_c9 : List (Int)) (next : Int → Int → Option (Int)) (x198 : Int) (x199 : Int) : Option (Int) :=
  let v204 := (decide (x199 < c3))
  bif v204 then
    let v206 := (Kd.nth (.int .i64) c8 (Int.toNat x199))
    gd ((0 : Int) ≤ x199 ∧ x199 < (c8.length : Int) ∧ (Int.toNat x199) < c8.length) <|
    (lapped_tables_wave K x199 c1 c4 c5 c6 c7).bind fun r207 =>
    let v208 := (kwrap .i64 (v206 * r207))
    let v209 := (kwrap .i64 (x198 + v208))
    let v210 := (kwrap .i64 (x199 + 1))
    next v209 v210
  else
    some x198
def lapped_Lapper_Feed.l1 (K : Nat) (c0 : List (Int)) (c1 : Int) (c2 : Int) (c3 : Int) (c4 : Int) (c5 : List (Int)) (c6 : List (Int)) (c7 : List (Int)) (c8 : List (Int)) (c9 : List (Int)) (n : Nat) : Int → Int → Option (Int) := rounds (lapped_Lapper_Feed.r1 K c0 c1 c2 c3 c4 c5 c6 c7 c8 c9) (fun _ _ => none) n
def lapped_Lapper_Feed.r0 (K : Nat) (c0 : List (Int)) (c1 : Int) (c2 : Int) (c3 : List (Int)) (c4 : List (Int)) (c5 : List (Int)) (c6 : List (Int)) (next : Int → List (Int) → Option ((List (Int)))) (x145 : Int) (x146 : List (Int)) : Option ((List (Int))) :=
  let v171 := (decide (x145 < c1))
  bif v171 then
    (lapped_Lapper_Feed.l1 K c0 x145 c1 (c6.length : Int) c2 c3 c4 c5 c6 x146 K 0 0 : Option (Int)).bind fun x191 =>
      (fix_Round K x191 15).bind fun r192 =>
      (fix_Sat32 K r192).bind fun r193 =>
      let v194 := (List.set x146 (Int.toNat x145) r193)
      gd ((0 : Int) ≤ x145 ∧ x145 < (x146.length : Int) ∧ (Int.toNat x145) < x146.length) <|
      let v195 := (kwrap .i64 (x145 + 1))
      next v195 v194
  else
    some x146
def lapped_Lapper_Feed.l0 (K : Nat) (c0 : List (Int)) (c1 : Int) (c2 : Int) (c3 : List (Int)) (c4 : List (Int)) (c5 : List (Int)) (c6 : List (Int)) (n : Nat) : Int → List (Int) → Option ((List (Int))) := rounds (lapped_Lapper_Feed.r0 K c0 c1 c2 c3 c4 c5 c6) (fun _ _ => none) n
def lapped_Lapper_Feed.r2 (K : Nat) (_c0 : List (Int)) (c1 : List (Int)) (c2 : Int) (c3 : Int) (c4 : List (Int)) (c5 : List (Int)) (c6 : List (Int)) (next : Int → List (Int) → Option ((List (Int)))) (x213 : Int) (x214 : List (Int)) : Option ((List (Int))) :=
  let v219 := (decide (x213 < c2))
  bif v219 then
    let v221 := (Kd.nth (.int .i16) c1 (Int.toNat x213))
    gd ((0 : Int) ≤ x213 ∧ x213 < (c1.length : Int)) <|
    let v222 := (kwrap .i64 v221)
    (lapped_tables_windowed K v222 x213 c3 c4 c5 c6).bind fun r223 =>
    let v224 := (x214 ++ [r223])
    gd (((x214.length : Int) + ([r223].length : Int)) * 8 ≤ 70368744177664) <|
    let v225 := (kwrap .i64 (x213 + 1))
    next v225 v224
  else
    some x214
def lapped_Lapper_Feed.l2 (K : Nat) (c0 : List (Int)) (c1 : List (Int)) (c2 : Int) (c3 : Int) (c4 : List (Int)) (c5 : List (Int)) (c6 : List (Int)) (n : Nat) : Int → List (Int) → Option ((List (Int))) := rounds (lapped_Lapper_Feed.r2 K c0 c1 c2 c3 c4 c5 c6) (fun _ _ => none) n
def lapped_Lapper_Feed (K : Nat) (p0 : List (Int)) (p1 : Int) (p2 : List (Int)) (p3 : List (Int)) (p4 : List (Int)) : Option ((Unit) ⊕ ((List (Int)) × (List (Int)))) :=
  let v60 := ((p0.length : Int) != p1)
  bif v60 then
    some (.inl ())
  else
    let v61 := (kwrap .i64 (2 * p1))
    gd (0 ≤ v61 ∧ v61 * 8 ≤ 140737488355328) <|
    (slices_Concat_int16_int16 K p0 p4).bind fun r62 =>
    (lapped_Lapper_Feed.l2 K p0 r62 (r62.length : Int) p1 p2 p3 p4 K 0 (List.replicate 0 (0 : Int)) : Option ((List (Int)))).bind fun x71 =>
      let v72 := (List.replicate (Int.toNat p1) (0 : Int))
      gd ((0 : Int) ≤ p1 ∧ p1 ≤ p1 ∧ p1 * 4 ≤ 140737488355328) <|
      let v73 := (v72.length : Int)
      (lapped_Lapper_Feed.l0 K p0 v73 p1 p2 p3 p4 x71 K 0 v72 : Option ((List (Int)))).bind fun x122 =>
        some (.inr (x122, (cpy 0 p4 p0)))
def lapped_Lengths (K : Nat)  : Option ((List (Int))) :=
  (lapped_lengths K ).bind fun _ =>
  let v1 := [(40, (60, (80, 120))).1, (40, (60, (80, 120))).2.1, (40, (60, (80, 120))).2.2.1, (40, (60, (80, 120))).2.2.2]
  some v1
def psalteryref08_Same32.r0 (_K : Nat) (c0 : List (Int)) (c1 : List (Int)) (next : Int → Option ((Unit) ⊕ (Bool))) (x6 : Int) : Option ((Unit) ⊕ (Bool)) :=
  let v8 := (decide (x6 < (c0.length : Int)))
  bif v8 then
    let v9 := (Kd.nth (.int .i32) c0 (Int.toNat x6))
    gd ((0 : Int) ≤ x6 ∧ x6 < (c0.length : Int)) <|
    let v10 := (Kd.nth (.int .i32) c1 (Int.toNat x6))
    gd ((0 : Int) ≤ x6 ∧ x6 < (c1.length : Int)) <|
    bif (v9 != v10) then
      some (.inr false)
    else
      let v11 := (kwrap .i64 (x6 + 1))
      next v11
  else
    some (.inl ())
def psalteryref08_Same32.l0 (K : Nat) (c0 : List (Int)) (c1 : List (Int)) (n : Nat) : Int → Option ((Unit) ⊕ (Bool)) := rounds (psalteryref08_Same32.r0 K c0 c1) (fun _ => none) n
def psalteryref08_Same32 (K : Nat) (p0 : List (Int)) (p1 : List (Int)) : Option (Bool) :=
  let v3 := ((p0.length : Int) != (p1.length : Int))
  bif v3 then
    some false
  else
    (psalteryref08_Same32.l0 K p0 p1 K 0 : Option ((Unit) ⊕ (Bool))).bind fun z => match z with
    | .inl _ =>
      some true
    | .inr r =>
      some r
def psalterylaw09_alive (K : Nat)  : Option (Bool) :=
  (bank_New K ).bind fun _ =>
  (lapped_NewLapper K 40 (List.replicate 388 none) 0 0).bind fun z => match z with
  | .inl (_r24, _r25, _r26) =>
    none
  | .inr (_r27, _r28, _r29, r30, r31, r32) =>
    (lapped_Lapper_Feed K (List.replicate 40 (0 : Int)) 40 r30 r31 r32).bind fun z => match z with
    | .inl _ =>
      (lapped_Lapper_Feed K (List.replicate 41 (0 : Int)) 40 r30 r31 r32).bind fun z => match z with
      | .inl _ =>
        (lapped_Lengths K ).bind fun _r37 =>
        some false
      | .inr (_r35, _r36) =>
        (lapped_Lengths K ).bind fun _r38 =>
        some false
    | .inr (r33, r34) =>
      (lapped_Lapper_Feed K (List.replicate 41 (0 : Int)) 40 r30 r31 r34).bind fun z => match z with
      | .inl _ =>
        (lapped_Lengths K ).bind fun r41 =>
        (psalteryref08_Same32 K r33 (List.replicate 40 (0 : Int))).bind fun r43 =>
        let v44 := (bif r43 then true else false)
        let v45 := ((r41.length : Int) == 4)
        let v46 := (bif v44 then v45 else false)
        let v47 := (Kd.nth (.int .i64) r41 0)
        let v48 := (bif v46 then (v47 == 40) else false)
        let v49 := (Kd.nth (.int .i64) r41 3)
        let v50 := (bif v48 then (v49 == 120) else false)
        gd ((v46 = true → 0 < (r41.length : Int)) ∧ (v48 = true → 3 < (r41.length : Int))) <|
        some v50
      | .inr (_r39, _r40) =>
        (lapped_Lengths K ).bind fun r51 =>
        (psalteryref08_Same32 K r33 (List.replicate 40 (0 : Int))).bind fun r53 =>
        let v54 := (bif r53 then false else false)
        let v55 := ((r51.length : Int) == 4)
        let v56 := (bif v54 then v55 else false)
        let v57 := (Kd.nth (.int .i64) r51 0)
        let v58 := (bif v56 then (v57 == 40) else false)
        let v59 := (Kd.nth (.int .i64) r51 3)
        let v60 := (bif v58 then (v59 == 120) else false)
        gd ((v56 = true → 0 < (r51.length : Int)) ∧ (v58 = true → 3 < (r51.length : Int))) <|
        some v60
def psalterylaw09_length (K : Nat) (p0 : Int) : Option (Int) :=
  (lapped_Lengths K ).bind fun r2 =>
  let v3 := (Int.tmod (kwrap .i64 p0) 4)
  let v4 := (Kd.nth (.int .i64) r2 (Int.toNat v3))
  gd ((0 : Int) ≤ v3 ∧ v3 < (r2.length : Int)) <|
  some v4
def lapped_NewUnlapper (K : Nat) (p0 : Int) (p1 : List (Option (List (Int)))) (p2 : Int) (p3 : Int) : Option (((List (Option (List (Int)))) × Int × Int) ⊕ ((List (Option (List (Int)))) × Int × Int × (List (Int)) × (List (Int)) × (List (Int)))) :=
  (lapped_of K p0 p1 p2 p3).bind fun z => match z with
  | .inl _ =>
    some (.inl (p1, p2, p3))
  | .inr (.inl (_r10, r11, r12, r13)) =>
    some (.inl (r11, r12, r13))
  | .inr (.inr (r14, r15, r16, r17, r18)) =>
    let v19 := (List.replicate (Int.toNat p0) (0 : Int))
    gd ((0 : Int) ≤ p0 ∧ p0 ≤ p0 ∧ p0 * 4 ≤ 140737488355328) <|
    some (.inr (r16, r17, r18, r14, r15, v19))
def psalterylaw09_padded.r0 (_K : Nat) (c0 : List (Int)) (c1 : Int) (c2 : Int) (next : Int → List (Int) → Option ((List (Int)))) (x12 : Int) (x13 : List (Int)) : Option ((List (Int))) :=
  let v16 := (decide (x12 < c2))
  let v17 := (kwrap .i64 (c1 + x12))
  let v18 := (decide (v17 < (c0.length : Int)))
  let v19 := (bif v16 then v18 else false)
  bif v19 then
    let v20 := (Kd.nth (.int .i16) c0 (Int.toNat v17))
    let v21 := (List.set x13 (Int.toNat x12) v20)
    gd ((0 : Int) ≤ v17 ∧ v17 < (c0.length : Int) ∧ (0 : Int) ≤ x12 ∧ x12 < (x13.length : Int) ∧ (Int.toNat x12) < x13.length) <|
    let v22 := (kwrap .i64 (x12 + 1))
    next v22 v21
  else
    some x13
def psalterylaw09_padded.l0 (K : Nat) (c0 : List (Int)) (c1 : Int) (c2 : Int) (n : Nat) : Int → List (Int) → Option ((List (Int))) := rounds (psalterylaw09_padded.r0 K c0 c1 c2) (fun _ _ => none) n
def psalterylaw09_padded (K : Nat) (p0 : List (Int)) (p1 : Int) (p2 : Int) : Option ((List (Int))) :=
  let v6 := (List.replicate (Int.toNat p2) (0 : Int))
  gd ((0 : Int) ≤ p2 ∧ p2 ≤ p2 ∧ p2 * 2 ≤ 140737488355328) <|
  (psalterylaw09_padded.l0 K p0 p1 p2 K 0 v6 : Option ((List (Int)))).bind fun x11 =>
    some x11
def lapped_down (_K : Nat) (p0 : Int) (p1 : Int) : Option (Int) :=
  let v2 := (kwrap .i64 (Int.tdiv p0 p1))
  gd (p1 ≠ 0) <|
  let v3 := (Int.tmod p0 p1)
  let v4 := (decide (v3 < 0))
  gd (p1 ≠ 0) <|
  (
    bif v4 then
      let v6 := (kwrap .i64 (v2 - 1))
      some v6
    else
      some v2 : Option (Int)).bind fun x5 =>
    some x5
def lapped_tables_windowed_2 (K : Nat) (p0 : Int) (p1 : Int) (_p2 : Int) (p3 : List (Int)) (_p4 : List (Int)) (_p5 : List (Int)) : Option (Int) :=
  let v2 := (Kd.nth (.int .i16) p3 (Int.toNat p1))
  let v3 := (kwrap .i64 v2)
  let v4 := (kwrap .i64 (p0 * v3))
  gd ((0 : Int) ≤ p1 ∧ p1 < (p3.length : Int)) <|
  (fix_Round K v4 15).bind fun r5 =>
  some r5
def lapped_Unlapper_sample.r0 (_K : Nat) (_c0 : Int) (_c1 : Int) (_c2 : List (Int)) (_c3 : List (Int)) (_c4 : List (Int)) (_next : Option (Unit))  : Option (Unit) :=
  some ()
def lapped_Unlapper_sample.l0 (K : Nat) (c0 : Int) (c1 : Int) (c2 : List (Int)) (c3 : List (Int)) (c4 : List (Int)) (n : Nat) : Option (Unit) := rounds (lapped_Unlapper_sample.r0 K c0 c1 c2 c3 c4) (none) n
def lapped_Unlapper_sample (K : Nat) (p0 : Int) (p1 : Int) (p2 : List (Int)) (p3 : List (Int)) (p4 : List (Int)) : Option (Int) :=
  (lapped_Unlapper_sample.l0 K p0 p1 p2 p3 p4 K  : Option (Unit)).bind fun _ =>
    (fix_Round K 0 15).bind fun r6 =>
    let v7 := (kwrap .i64 (2 * r6))
    let v8 := (kwrap .i64 (Int.tdiv p1 2))
    let v9 := (kwrap .i64 (v7 + v8))
    (lapped_down K v9 p1).bind fun r10 =>
    (fix_Sat32 K r10).bind fun r11 =>
    (lapped_tables_windowed_2 K (kwrap .i64 r11) p0 p1 p2 p3 p4).bind fun r12 =>
    (fix_Sat32 K r12).bind fun r13 =>
    some r13
def fix_Add (K : Nat) (p0 : Int) (p1 : Int) : Option (Int) :=
  let v2 := (kwrap .i64 ((kwrap .i64 p0) + (kwrap .i64 p1)))
  (fix_Sat32 K v2).bind fun r3 =>
  some r3
def lapped_Unlapper_Feed.r0 (K : Nat) (c0 : Int) (c1 : Int) (c2 : List (Int)) (c3 : List (Int)) (_c4 : List (Int)) (next : Int → List (Int) → Option ((List (Int)))) (x49 : Int) (x50 : List (Int)) : Option ((List (Int))) :=
  let v55 := (decide (x49 < c0))
  bif v55 then
    let v57 := (kwrap .i64 (c1 + x49))
    (lapped_Unlapper_sample K v57 c1 c2 c3 x50).bind fun r58 =>
    gd ((0 : Int) ≤ x49 ∧ x49 < (x50.length : Int)) <|
    let v59 := (List.set x50 (Int.toNat x49) r58)
    gd ((Int.toNat x49) < x50.length) <|
    let v60 := (kwrap .i64 (x49 + 1))
    next v60 v59
  else
    some x50
def lapped_Unlapper_Feed.l0 (K : Nat) (c0 : Int) (c1 : Int) (c2 : List (Int)) (c3 : List (Int)) (c4 : List (Int)) (n : Nat) : Int → List (Int) → Option ((List (Int))) := rounds (lapped_Unlapper_Feed.r0 K c0 c1 c2 c3 c4) (fun _ _ => none) n
def lapped_Unlapper_Feed.r1 (K : Nat) (c0 : Int) (c1 : Int) (c2 : List (Int)) (c3 : List (Int)) (c4 : List (Int)) (next : Int → List (Int) → Option ((List (Int)))) (x65 : Int) (x66 : List (Int)) : Option ((List (Int))) :=
  let v73 := (decide (x65 < c0))
  bif v73 then
    gd ((0 : Int) ≤ x65 ∧ x65 < (c4.length : Int)) <|
    let v76 := (Kd.nth (.int .i32) c4 (Int.toNat x65))
    gd ((Int.toNat x65) < c4.length) <|
    (lapped_Unlapper_sample K x65 c1 c2 c3 c4).bind fun r77 =>
    (fix_Add K v76 r77).bind fun r78 =>
    gd ((0 : Int) ≤ x65 ∧ x65 < (x66.length : Int)) <|
    let v79 := (List.set x66 (Int.toNat x65) r78)
    gd ((Int.toNat x65) < x66.length) <|
    let v80 := (kwrap .i64 (x65 + 1))
    next v80 v79
  else
    some x66
def lapped_Unlapper_Feed.l1 (K : Nat) (c0 : Int) (c1 : Int) (c2 : List (Int)) (c3 : List (Int)) (c4 : List (Int)) (n : Nat) : Int → List (Int) → Option ((List (Int))) := rounds (lapped_Unlapper_Feed.r1 K c0 c1 c2 c3 c4) (fun _ _ => none) n
def lapped_Unlapper_Feed (K : Nat) (p0 : Int) (p1 : List (Int)) (p2 : List (Int)) (p3 : List (Int)) : Option ((Unit) ⊕ ((List (Int)) × (List (Int)))) :=
  bif (0 != p0) then
    some (.inl ())
  else
    let v23 := (List.replicate (Int.toNat p0) (0 : Int))
    gd ((0 : Int) ≤ p0 ∧ p0 ≤ p0 ∧ p0 * 4 ≤ 140737488355328) <|
    let v24 := (v23.length : Int)
    (lapped_Unlapper_Feed.l1 K v24 p0 p1 p2 p3 K 0 v23 : Option ((List (Int)))).bind fun x37 =>
      (lapped_Unlapper_Feed.l0 K (p3.length : Int) p0 p1 p2 x37 K 0 p3 : Option ((List (Int)))).bind fun x46 =>
        some (.inr (x37, x46))
def lapped_tables_wave_2 (_K : Nat) (p0 : Int) (p1 : Int) (p2 : Int) (_p3 : List (Int)) (p4 : List (Int)) (_p5 : List (Int)) : Option (Int) :=
  let v1 := (kwrap .i64 (2 * p0))
  let v2 := (kwrap .i64 (v1 + 1))
  let v3 := (kwrap .i64 (v2 + p2))
  let v4 := (kwrap .i64 (2 * p1))
  let v5 := (kwrap .i64 (v4 + 1))
  let v6 := (kwrap .i64 (v3 * v5))
  let v7 := (kwrap .i64 (8 * p2))
  let v8 := (Int.tmod v6 v7)
  gd (v7 ≠ 0) <|
  let v9 := (Kd.nth (.int .i16) p4 (Int.toNat v8))
  gd ((0 : Int) ≤ v8 ∧ v8 < (p4.length : Int)) <|
  let v10 := (kwrap .i64 v9)
  some v10
def lapped_Unlapper_sample_2.r0 (K : Nat) (c0 : Int) (c1 : List (Int)) (c2 : Int) (c3 : Int) (c4 : List (Int)) (c5 : List (Int)) (c6 : List (Int)) (next : Int → Int → Option (Int)) (x34 : Int) (x35 : Int) : Option (Int) :=
  let v40 := (decide (x35 < c2))
  bif v40 then
    let v42 := (Kd.nth (.int .i32) c1 (Int.toNat x35))
    gd ((0 : Int) ≤ x35 ∧ x35 < (c1.length : Int)) <|
    let v43 := (kwrap .i64 v42)
    (lapped_tables_wave_2 K c0 x35 c3 c4 c5 c6).bind fun r44 =>
    let v45 := (kwrap .i64 (v43 * r44))
    let v46 := (kwrap .i64 (x34 + v45))
    let v47 := (kwrap .i64 (x35 + 1))
    next v46 v47
  else
    some x34
def lapped_Unlapper_sample_2.l0 (K : Nat) (c0 : Int) (c1 : List (Int)) (c2 : Int) (c3 : Int) (c4 : List (Int)) (c5 : List (Int)) (c6 : List (Int)) (n : Nat) : Int → Int → Option (Int) := rounds (lapped_Unlapper_sample_2.r0 K c0 c1 c2 c3 c4 c5 c6) (fun _ _ => none) n
def lapped_Unlapper_sample_2 (K : Nat) (p0 : List (Int)) (p1 : Int) (p2 : Int) (p3 : List (Int)) (p4 : List (Int)) (p5 : List (Int)) : Option (Int) :=
  (lapped_Unlapper_sample_2.l0 K p1 p0 (p0.length : Int) p2 p3 p4 p5 K 0 0 : Option (Int)).bind fun x23 =>
    (fix_Round K x23 15).bind fun r24 =>
    let v25 := (kwrap .i64 (2 * r24))
    let v26 := (kwrap .i64 (Int.tdiv p2 2))
    let v27 := (kwrap .i64 (v25 + v26))
    (lapped_down K v27 p2).bind fun r28 =>
    (fix_Sat32 K r28).bind fun r29 =>
    (lapped_tables_windowed_2 K (kwrap .i64 r29) p1 p2 p3 p4 p5).bind fun r30 =>
    (fix_Sat32 K r30).bind fun r31 =>
    some r31
def lapped_Unlapper_Feed_2.r0 (K : Nat) (c0 : List (Int)) (c1 : Int) (c2 : Int) (c3 : List (Int)) (c4 : List (Int)) (_c5 : List (Int)) (next : Int → List (Int) → Option ((List (Int)))) (x50 : Int) (x51 : List (Int)) : Option ((List (Int))) :=
  let v56 := (decide (x50 < c1))
  bif v56 then
    let v58 := (kwrap .i64 (c2 + x50))
    (lapped_Unlapper_sample_2 K c0 v58 c2 c3 c4 x51).bind fun r59 =>
    gd ((0 : Int) ≤ x50 ∧ x50 < (x51.length : Int)) <|
    let v60 := (List.set x51 (Int.toNat x50) r59)
    gd ((Int.toNat x50) < x51.length) <|
    let v61 := (kwrap .i64 (x50 + 1))
    next v61 v60
  else
    some x51
def lapped_Unlapper_Feed_2.l0 (K : Nat) (c0 : List (Int)) (c1 : Int) (c2 : Int) (c3 : List (Int)) (c4 : List (Int)) (c5 : List (Int)) (n : Nat) : Int → List (Int) → Option ((List (Int))) := rounds (lapped_Unlapper_Feed_2.r0 K c0 c1 c2 c3 c4 c5) (fun _ _ => none) n
def lapped_Unlapper_Feed_2.r1 (K : Nat) (c0 : List (Int)) (c1 : Int) (c2 : Int) (c3 : List (Int)) (c4 : List (Int)) (c5 : List (Int)) (next : Int → List (Int) → Option ((List (Int)))) (x66 : Int) (x67 : List (Int)) : Option ((List (Int))) :=
  let v74 := (decide (x66 < c1))
  bif v74 then
    gd ((0 : Int) ≤ x66 ∧ x66 < (c5.length : Int)) <|
    let v77 := (Kd.nth (.int .i32) c5 (Int.toNat x66))
    gd ((Int.toNat x66) < c5.length) <|
    (lapped_Unlapper_sample_2 K c0 x66 c2 c3 c4 c5).bind fun r78 =>
    (fix_Add K v77 r78).bind fun r79 =>
    gd ((0 : Int) ≤ x66 ∧ x66 < (x67.length : Int)) <|
    let v80 := (List.set x67 (Int.toNat x66) r79)
    gd ((Int.toNat x66) < x67.length) <|
    let v81 := (kwrap .i64 (x66 + 1))
    next v81 v80
  else
    some x67
def lapped_Unlapper_Feed_2.l1 (K : Nat) (c0 : List (Int)) (c1 : Int) (c2 : Int) (c3 : List (Int)) (c4 : List (Int)) (c5 : List (Int)) (n : Nat) : Int → List (Int) → Option ((List (Int))) := rounds (lapped_Unlapper_Feed_2.r1 K c0 c1 c2 c3 c4 c5) (fun _ _ => none) n
def lapped_Unlapper_Feed_2 (K : Nat) (p0 : List (Int)) (p1 : Int) (p2 : List (Int)) (p3 : List (Int)) (p4 : List (Int)) : Option ((Unit) ⊕ ((List (Int)) × (List (Int)))) :=
  let v23 := ((p0.length : Int) != p1)
  bif v23 then
    some (.inl ())
  else
    let v24 := (List.replicate (Int.toNat p1) (0 : Int))
    gd ((0 : Int) ≤ p1 ∧ p1 ≤ p1 ∧ p1 * 4 ≤ 140737488355328) <|
    let v25 := (v24.length : Int)
    (lapped_Unlapper_Feed_2.l1 K p0 v25 p1 p2 p3 p4 K 0 v24 : Option ((List (Int)))).bind fun x38 =>
      (lapped_Unlapper_Feed_2.l0 K p0 (p4.length : Int) p1 p2 p3 x38 K 0 p4 : Option ((List (Int)))).bind fun x47 =>
        some (.inr (x38, x47))
def lapped_Lapper_Reset (_K : Nat) (_p0 : Int) (_p1 : List (Int)) (_p2 : List (Int)) (p3 : List (Int)) : Option ((List (Int))) :=
  some (List.replicate p3.length (0 : Int))
def lapped_Unlapper_Reset (_K : Nat) (_p0 : Int) (_p1 : List (Int)) (_p2 : List (Int)) (p3 : List (Int)) : Option ((List (Int))) :=
  some (List.replicate p3.length (0 : Int))
def lapped_Lapper_Reset_2 (_K : Nat)  : Option (Unit) :=
  some ()
def lapped_Unlapper_Reset_2 (_K : Nat)  : Option (Unit) :=
  some ()
def lapped_Lapper_Feed_2 (_K : Nat) (_p0 : List (Int)) : Option (Unit) :=
  some ()
def lapped_Unlapper_Feed_3 (_K : Nat)  : Option (Unit) :=
  some ()
def psalterylaw09_LappedForgets.r0 (K : Nat) (_c0 : List (Int)) (c1 : List (Int)) (c2 : Int) (c3 : List (Int)) (c4 : List (Int)) (c5 : List (Int)) (c6 : List (Int)) (c7 : List (Int)) (c8 : List (Int)) (c9 : List (Int)) (c10 : List (Int)) (next : Int → List (Int) → List (Int) → List (Int) → List (Int) → Option ((Unit) ⊕ (Bool))) (x552 : Int) (x553 : List (Int)) (x554 : List (Int)) (x555 : List (Int)) (x556 : List (Int)) : Option ((Unit) ⊕ (Bool)) :=
  let v638 := (decide (x552 < (c1.length : Int)))
  bif v638 then
    (psalterylaw09_padded K c1 x552 c2).bind fun r677 =>
    (lapped_Lapper_Feed K r677 c2 c3 c4 x553).bind fun z => match z with
    | .inl _ =>
      (psalterylaw09_padded K c1 x552 c2).bind fun r680 =>
      (lapped_Lapper_Feed K r680 c2 c5 c6 x554).bind fun z => match z with
      | .inl _ =>
        (lapped_Unlapper_Feed K c2 c7 c8 x555).bind fun z => match z with
        | .inl _ =>
          (lapped_Unlapper_Feed K c2 c9 c10 x556).bind fun z => match z with
          | .inl _ =>
            some (.inr false)
          | .inr (_r685, _r686) =>
            some (.inr false)
        | .inr (_r683, _r684) =>
          (lapped_Unlapper_Feed K c2 c9 c10 x556).bind fun z => match z with
          | .inl _ =>
            some (.inr false)
          | .inr (_r687, _r688) =>
            some (.inr false)
      | .inr (r681, _r682) =>
        (lapped_Unlapper_Feed K c2 c7 c8 x555).bind fun z => match z with
        | .inl _ =>
          (lapped_Unlapper_Feed_2 K r681 c2 c9 c10 x556).bind fun z => match z with
          | .inl _ =>
            some (.inr false)
          | .inr (_r691, _r692) =>
            some (.inr false)
        | .inr (_r689, _r690) =>
          (lapped_Unlapper_Feed_2 K r681 c2 c9 c10 x556).bind fun z => match z with
          | .inl _ =>
            some (.inr false)
          | .inr (_r693, _r694) =>
            some (.inr false)
    | .inr (r678, r679) =>
      (psalterylaw09_padded K c1 x552 c2).bind fun r695 =>
      (lapped_Lapper_Feed K r695 c2 c5 c6 x554).bind fun z => match z with
      | .inl _ =>
        (lapped_Unlapper_Feed_2 K r678 c2 c7 c8 x555).bind fun z => match z with
        | .inl _ =>
          (lapped_Unlapper_Feed K c2 c9 c10 x556).bind fun z => match z with
          | .inl _ =>
            some (.inr false)
          | .inr (_r700, _r701) =>
            some (.inr false)
        | .inr (_r698, _r699) =>
          (lapped_Unlapper_Feed K c2 c9 c10 x556).bind fun z => match z with
          | .inl _ =>
            some (.inr false)
          | .inr (_r702, _r703) =>
            some (.inr false)
      | .inr (r696, r697) =>
        (lapped_Unlapper_Feed_2 K r678 c2 c7 c8 x555).bind fun z => match z with
        | .inl _ =>
          (lapped_Unlapper_Feed_2 K r696 c2 c9 c10 x556).bind fun z => match z with
          | .inl _ =>
            some (.inr false)
          | .inr (_r706, _r707) =>
            some (.inr false)
        | .inr (r704, r705) =>
          (lapped_Unlapper_Feed_2 K r696 c2 c9 c10 x556).bind fun z => match z with
          | .inl _ =>
            some (.inr false)
          | .inr (r708, r709) =>
            (
              (psalteryref08_Same32 K r678 r696).bind fun r716 =>
              bif (!r716) then
                some ((r716, (!r716), true))
              else
                (psalteryref08_Same32 K r704 r708).bind fun r717 =>
                some ((r716, (!r716), (!r717))) : Option (Bool × Bool × Bool)).bind fun (x712, x713, x714) =>
              bif x714 then
                some (.inr false)
              else
                let v715 := (kwrap .i64 (x552 + c2))
                next v715 r679 r697 r705 r709
  else
    some (.inl ())
def psalterylaw09_LappedForgets.l0 (K : Nat) (c0 : List (Int)) (c1 : List (Int)) (c2 : Int) (c3 : List (Int)) (c4 : List (Int)) (c5 : List (Int)) (c6 : List (Int)) (c7 : List (Int)) (c8 : List (Int)) (c9 : List (Int)) (c10 : List (Int)) (n : Nat) : Int → List (Int) → List (Int) → List (Int) → List (Int) → Option ((Unit) ⊕ (Bool)) := rounds (psalterylaw09_LappedForgets.r0 K c0 c1 c2 c3 c4 c5 c6 c7 c8 c9 c10) (fun _ _ _ _ _ => none) n
def psalterylaw09_LappedForgets.r1 (K : Nat) (c0 : List (Int)) (_c1 : List (Int)) (_c2 : Bool) (c3 : Int) (c4 : List (Int)) (c5 : List (Int)) (_c6 : List (Int)) (_c7 : List (Int)) (c8 : List (Int)) (c9 : List (Int)) (_c10 : List (Int)) (_c11 : List (Int)) (_c12 : List (Int)) (_c13 : List (Int)) (next : Int → List (Int) → List (Int) → Option ((List (Int)) × (List (Int)))) (x736 : Int) (x737 : List (Int)) (x738 : List (Int)) : Option ((List (Int)) × (List (Int))) :=
  let v751 := (decide (x736 < (c0.length : Int)))
  bif v751 then
    (
      (psalterylaw09_padded K c0 x736 c3).bind fun r762 =>
      (lapped_Lapper_Feed K r762 c3 c4 c5 x737).bind fun z => match z with
      | .inl _ =>
        (lapped_Unlapper_Feed K c3 c8 c9 x738).bind fun z => match z with
        | .inl _ =>
          some (x737, x738)
        | .inr (_r765, r766) =>
          some (x737, r766)
      | .inr (r763, r764) =>
        (lapped_Unlapper_Feed_2 K r763 c3 c8 c9 x738).bind fun z => match z with
        | .inl _ =>
          some (r764, x738)
        | .inr (_r767, r768) =>
          some (r764, r768) : Option ((List (Int)) × (List (Int)))).bind fun (x759, x760) =>
      let v761 := (kwrap .i64 (x736 + c3))
      next v761 x759 x760
  else
    some (x737, x738)
def psalterylaw09_LappedForgets.l1 (K : Nat) (c0 : List (Int)) (c1 : List (Int)) (c2 : Bool) (c3 : Int) (c4 : List (Int)) (c5 : List (Int)) (c6 : List (Int)) (c7 : List (Int)) (c8 : List (Int)) (c9 : List (Int)) (c10 : List (Int)) (c11 : List (Int)) (c12 : List (Int)) (c13 : List (Int)) (n : Nat) : Int → List (Int) → List (Int) → Option ((List (Int)) × (List (Int))) := rounds (psalterylaw09_LappedForgets.r1 K c0 c1 c2 c3 c4 c5 c6 c7 c8 c9 c10 c11 c12 c13) (fun _ _ _ => none) n
def psalterylaw09_LappedForgets (K : Nat) (p0 : Int) (p1 : List (Int)) (p2 : List (Int)) (p3 : Bool) : Option (Bool) :=
  (psalterylaw09_alive K ).bind fun r237 =>
  bif (!r237) then
    some false
  else
    (psalterylaw09_length K p0).bind fun r238 =>
    let v239 := (decide ((p1.length : Int) > 300))
    let v240 := (decide ((p2.length : Int) > 300))
    let v241 := (bif v239 then true else v240)
    bif v241 then
      some true
    else
      (bank_New K ).bind fun _ =>
      (lapped_NewLapper K r238 (List.replicate 388 none) 0 0).bind fun z => match z with
      | .inl (_r242, _r243, _r244) =>
        none
      | .inr (r245, r246, r247, r248, r249, r250) =>
        (lapped_NewLapper K r238 r245 r246 r247).bind fun z => match z with
        | .inl (_r251, _r252, _r253) =>
          none
        | .inr (r254, r255, r256, r257, r258, r259) =>
          (lapped_NewUnlapper K r238 r254 r255 r256).bind fun z => match z with
          | .inl (_r260, _r261, _r262) =>
            none
          | .inr (r263, r264, r265, r266, r267, r268) =>
            (lapped_NewUnlapper K r238 r263 r264 r265).bind fun z => match z with
            | .inl (_r269, _r270, _r271) =>
              none
            | .inr (_r272, _r273, _r274, r275, r276, r277) =>
              (psalterylaw09_LappedForgets.l1 K p1 p2 p3 r238 r248 r249 r257 r258 r266 r267 r275 r276 r259 r277 K 0 r250 r268 : Option ((List (Int)) × (List (Int)))).bind fun (x302, x303) =>
                (
                  bif p3 then
                    (lapped_Lapper_Reset K r238 r248 r249 x302).bind fun r718 =>
                    (lapped_Unlapper_Reset K r238 r266 r267 x303).bind fun r719 =>
                    some (r718, r719)
                  else
                    let v720 := (List.replicate (Int.toNat r238) (0 : Int))
                    gd ((0 : Int) ≤ r238 ∧ r238 ≤ r238 ∧ r238 * 2 ≤ 140737488355328) <|
                    (lapped_Lapper_Feed K v720 r238 r248 r249 x302).bind fun z => match z with
                    | .inl _ =>
                      gd ((0 : Int) ≤ r238 ∧ r238 ≤ r238 ∧ r238 * 4 ≤ 140737488355328) <|
                      (lapped_Unlapper_Feed_2 K v720 r238 r266 r267 x303).bind fun z => match z with
                      | .inl _ =>
                        some (x302, x303)
                      | .inr (_r723, r724) =>
                        some (x302, r724)
                    | .inr (_r721, r722) =>
                      gd ((0 : Int) ≤ r238 ∧ r238 ≤ r238 ∧ r238 * 4 ≤ 140737488355328) <|
                      (lapped_Unlapper_Feed_2 K v720 r238 r266 r267 x303).bind fun z => match z with
                      | .inl _ =>
                        some (r722, x303)
                      | .inr (_r725, r726) =>
                        some (r722, r726) : Option ((List (Int)) × (List (Int)))).bind fun (x312, x313) =>
                  (psalterylaw09_LappedForgets.l0 K p1 p2 r238 r248 r249 r257 r258 r266 r267 r275 r276 K 0 x312 r259 x313 r277 : Option ((Unit) ⊕ (Bool))).bind fun z => match z with
                  | .inl _ =>
                    (lapped_Lapper_Reset_2 K ).bind fun _ =>
                    (lapped_Unlapper_Reset_2 K ).bind fun _ =>
                    (lapped_Lapper_Feed_2 K p1).bind fun _ =>
                    (lapped_Unlapper_Feed_3 K ).bind fun _ =>
                    some true
                  | .inr r =>
                    some r
end Go.Fo
