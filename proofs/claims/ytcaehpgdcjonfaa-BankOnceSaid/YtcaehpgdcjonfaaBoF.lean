/- The functions of Go that are reached, as functions of plain values. -/
import Derived.Test.YtcaehpgdcjonfaaJ3
namespace Go.Fo
def bank_New (_K : Nat) : Option (Unit) :=
  some ()
def bank_Bank_may (_K : Nat) (p0 : Bool) (_p1 : List (Option (List (Int)))) (_p2 : Int) (_p3 : Int) : Option (Int) :=
  bif (!p0) then
    some 1
  else
    some 0
def sync_atomic_Bool_Load (_K : Nat) (_p0 : List (Option (List (Int)))) (_p1 : List (Option (List (Int)))) (_p2 : Int) (_p3 : Int) : Option (Unit) :=
  some ()
def wave_modulo (_K : Nat) (p0 : Int) (p1 : Int) : Option (Int) :=
  let v2 := (Int.tmod p0 p1)
  gd (p1 ≠ 0) <|
  let v3 := (decide (v2 < 0))
  (
    bif v3 then
      let v5 := (kwrap .i64 (v2 + p1))
      some v5
    else
      some v2 : Option (Int)).bind fun x4 =>
    some x4
def wave_height (K : Nat) (p0 : Int) (p1 : Int) : Option (Int × Int) :=
  (wave_modulo K p0 p1).bind fun r3 =>
  let v4 := (kwrap .i64 (4 * r3))
  let v5 := (kwrap .i64 (Int.tdiv v4 p1))
  gd (p1 ≠ 0) <|
  let v6 := (Int.tmod v4 p1)
  gd (p1 ≠ 0) <|
  let v7 := (kand .i64 v5 1)
  (
    bif (v7 == 1) then
      let v11 := (kwrap .i64 (p1 - v6))
      some v11
    else
      some v6 : Option (Int)).bind fun x8 =>
    let v9 := (kshl .u64 (kwrap .u64 x8) 30)
    let v10 := (kwrap .u64 (Int.tdiv v9 (kwrap .u64 p1)))
    gd ((kwrap .u64 p1) ≠ 0) <|
    some (v10, v5)
def fix_within_int (_K : Nat) (p0 : Int) (p1 : Int) (p2 : Int) : Option (Int) :=
  let v1 := (decide (p0 < p1))
  bif v1 then
    some p1
  else
    let v2 := (decide (p0 > p2))
    bif v2 then
      some p2
    else
      some p0
def fix_Round (K : Nat) (p0 : Int) (p1 : Int) : Option (Int) :=
  (fix_within_int K p1 0 62).bind fun r2 =>
  bif (r2 == 0) then
    some p0
  else
    let v3 := (kshr .i64 p0 r2)
    gd ((0 : Int) ≤ r2) <|
    let v4 := (kwrap .i64 (r2 - 1))
    let v5 := (kshr .i64 p0 v4)
    gd ((0 : Int) ≤ v4) <|
    let v6 := (kand .i64 v5 1)
    let v7 := (kwrap .i64 (v3 + v6))
    some v7
def fix_within_int64 (_K : Nat) (p0 : Int) (p1 : Int) (p2 : Int) : Option (Int) :=
  let v1 := (decide (p0 < p1))
  bif v1 then
    some p1
  else
    let v2 := (decide (p0 > p2))
    bif v2 then
      some p2
    else
      some p0
def fix_Clip (K : Nat) (p0 : Int) (p1 : Int) (p2 : Int) : Option (Int) :=
  (fix_within_int64 K p0 p1 p2).bind fun r2 =>
  some r2
def wave_sine.r0 (_K : Nat) (_c0 : Int) (_c1 : Int) (c2 : Int) (next : Int → Int → Option (Int)) (x27 : Int) (x28 : Int) : Option (Int) :=
  let v31 := (decide (x28 < 4))
  bif v31 then
    let v32 := (List.getD [5026995, 85569306, 693598668, 1686629713] (Int.toNat x28) 0)
    gd ((0 : Int) ≤ x28 ∧ x28 < 4) <|
    let v33 := (kwrap .u64 (x27 * c2))
    let v34 := (kshr .u64 v33 30)
    let v35 := (kwrap .u64 (v32 - v34))
    let v36 := (kwrap .i64 (x28 + 1))
    next v35 v36
  else
    some x27
def wave_sine.l0 (K : Nat) (c0 : Int) (c1 : Int) (c2 : Int) (n : Nat) : Int → Int → Option (Int) := rounds (wave_sine.r0 K c0 c1 c2) (fun _ _ => none) n
def wave_sine (K : Nat) (p0 : Int) (p1 : Int) : Option (Int) :=
  (wave_height K p0 p1).bind fun (r11, r12) =>
  let v13 := (kwrap .u64 (r11 * r11))
  let v14 := (kshr .u64 v13 30)
  (wave_sine.l0 K r11 r12 v14 K 172272 0 : Option (Int)).bind fun x19 =>
    let v20 := (kwrap .u64 (x19 * r11))
    let v21 := (kshr .u64 v20 30)
    let v22 := (kwrap .i64 v21)
    (fix_Round K v22 15).bind fun r23 =>
    (fix_Clip K r23 0 32767).bind fun r24 =>
    let v25 := (decide (r12 ≥ 2))
    (
      bif v25 then
        some ((kwrap .i64 (0 - r24)))
      else
        some r24 : Option (Int)).bind fun x26 =>
      some (kwrap .i16 x26)
def wave_Cosine (K : Nat) (p0 : Int) (p1 : Int) : Option (Int × Int) :=
  let v3 := (decide (p1 < 1))
  let v4 := (decide (p1 > 1048576))
  let v5 := (bif v3 then true else v4)
  bif v5 then
    some (0, 1)
  else
    (wave_modulo K p0 p1).bind fun r6 =>
    let v7 := (kwrap .i64 (4 * r6))
    let v8 := (kwrap .i64 (v7 + p1))
    let v9 := (kwrap .i64 (4 * p1))
    (wave_sine K v8 v9).bind fun r10 =>
    some (r10, 0)
def bank_Bank_Turn_1 (K : Nat) (p0 : Int) (p1 : Int) : Option (Int) :=
  (wave_Cosine K p0 p1).bind fun (r3, _r4) =>
  some r3
def sync_atomic_Int64_Add (_K : Nat) (p0 : Int) (p1 : List (Option (List (Int)))) (_p2 : List (Int)) (p3 : List (Option (List (Int)))) (p4 : Int) (_p5 : Int) : Option (Int) :=
  gd (p1.length + p3.length = 387) <|
  some (kwrap .i64 (p4 + p0))
def bank_Bank_tell_1.r0 (K : Nat) (c0 : Int) (_c1 : List (Option (List (Int)))) (_c2 : List (Option (List (Int)))) (_c3 : Int) (_c4 : Int) (_c5 : Int) (c6 : Int) (next : Int → List (Int) → Option ((List (Int)))) (x25 : Int) (x26 : List (Int)) : Option ((List (Int))) :=
  let v31 := (decide (x25 < c0))
  bif v31 then
    (bank_Bank_Turn_1 K x25 c6).bind fun r33 =>
    gd ((0 : Int) ≤ x25 ∧ x25 < (x26.length : Int)) <|
    let v34 := (List.set x26 (Int.toNat x25) r33)
    gd ((Int.toNat x25) < x26.length) <|
    let v35 := (kwrap .i64 (x25 + 1))
    next v35 v34
  else
    some x26
def bank_Bank_tell_1.l0 (K : Nat) (c0 : Int) (c1 : List (Option (List (Int)))) (c2 : List (Option (List (Int)))) (c3 : Int) (c4 : Int) (c5 : Int) (c6 : Int) (n : Nat) : Int → List (Int) → Option ((List (Int))) := rounds (bank_Bank_tell_1.r0 K c0 c1 c2 c3 c4 c5 c6) (fun _ _ => none) n
def bank_Bank_tell_1 (K : Nat) (p0 : List (Option (List (Int)))) (p1 : List (Option (List (Int)))) (p2 : Int) (p3 : Int) (p4 : Int) (p5 : Int) : Option ((List (Int)) × Int) :=
  let v11 := (List.replicate (Int.toNat p4) (0 : Int))
  gd ((0 : Int) ≤ p4 ∧ p4 ≤ p4 ∧ p4 * 2 ≤ 140737488355328) <|
  let v12 := (v11.length : Int)
  (bank_Bank_tell_1.l0 K v12 p0 p1 p2 p3 p4 p5 K 0 v11 : Option ((List (Int)))).bind fun x21 =>
    (sync_atomic_Int64_Add K 1 p0 x21 p1 p2 p3).bind fun r22 =>
    some (x21, r22)
def sync_Once_doSlow (K : Nat) (p0 : List (Option (List (Int)))) (p1 : List (Option (List (Int)))) (p2 : Int) (p3 : Int) (p4 : Int) (p5 : Int) : Option ((List (Int)) × Int) :=
  bank_Bank_tell_1 K p0 p1 p2 p3 p4 p5
def sync_Once_Do (K : Nat) (p0 : List (Option (List (Int)))) (p1 : List (Option (List (Int)))) (p2 : Int) (p3 : Int) (p4 : Int) (p5 : Int) : Option ((List (Int)) × Int) :=
  (sync_atomic_Bool_Load K p0 p1 p2 p3).bind fun _ =>
  (sync_Once_doSlow K p0 p1 p2 p3 p4 p5).bind fun (r3, r4) =>
  some (r3, r4)
def sync_atomic_Int64_Add_2 (_K : Nat) (p0 : Int) (p1 : List (Option (List (Int)))) (_p2 : List (Int)) (p3 : List (Option (List (Int)))) (_p4 : Int) (p5 : Int) : Option (Int) :=
  gd (p1.length + p3.length = 387) <|
  some (kwrap .i64 (p5 + p0))
def slices_Clone_int16_int16 (_K : Nat) (p0 : List (Int)) : Option ((List (Int))) :=
  gd (p0 ≠ []) <|
  let v1 := (([] : List (Int)) ++ p0)
  gd (((([] : List (Int)).length : Int) + (p0.length : Int)) * 2 ≤ 70368744177664) <|
  some v1
def bank_Bank_tell (K : Nat) (t0 : List (Option (List (Int)))) (t1 : List (Option (List (Int)))) (p1 : Int) (p3 : Int) (p4 : Int) (p5 : Int) : Option ((List (Int)) × Int × Int × (List (Int))) :=
  (sync_Once_Do K t0 t1 p3 p4 p1 p5).bind fun (r5, r6) =>
  (sync_atomic_Int64_Add_2 K 1 t0 r5 t1 r6 p4).bind fun r7 =>
  (slices_Clone_int16_int16 K r5).bind fun r8 =>
  some (r5, r6, r7, r8)
def sync_atomic_Bool_Load_2 (_K : Nat) (_p0 : List (Option (List (Int)))) (_p1 : List (Int)) (_p2 : List (Option (List (Int)))) (_p3 : Int) (_p4 : Int) : Option (Unit) :=
  some ()
def sync_Once_Do_2 (K : Nat) (p0 : List (Option (List (Int)))) (p1 : List (Int)) (p2 : List (Option (List (Int)))) (p3 : Int) (p4 : Int) (_p5 : Int) (_p6 : Int) : Option (Unit) :=
  (sync_atomic_Bool_Load_2 K p0 p1 p2 p3 p4).bind fun _ =>
  some ()
def bank_Bank_tell_2 (K : Nat) (t0 : List (Option (List (Int)))) (t1 : List (Option (List (Int)))) (l : List (Int)) (p1 : Int) (p3 : Int) (p4 : Int) (p5 : Int) : Option (Int × (List (Int))) :=
  (sync_Once_Do_2 K t0 l t1 p3 p4 p1 p5).bind fun _ =>
  (sync_atomic_Int64_Add_2 K 1 t0 l t1 p3 p4).bind fun r3 =>
  (slices_Clone_int16_int16 K l).bind fun r4 =>
  some (r3, r4)
def bank_Bank_tell_3 (K : Nat) (p0 : Nat) (p1 : Int) (p2 : List (Option (List (Int)))) (p3 : Int) (p4 : Int) (p5 : Int) : Option ((List (Int)) × (List (Option (List (Int)))) × Int × Int) :=
  gd (p2.length = 388 ∧ p0 = p0 / 4 * 4 ∧ p0 / 4 < 388) <|
  match p2[p0 / 4]? with
  | some none => (bank_Bank_tell K (p2.take (p0 / 4)) (p2.drop ((p0 / 4) + 1)) p1 p3 p4 p5).bind fun (q0', q1', q2', q3') => some (q3', (p2.take (p0 / 4) ++ some q0' :: p2.drop ((p0 / 4) + 1)), q1', q2')
  | some (some l) => (bank_Bank_tell_2 K (p2.take (p0 / 4)) (p2.drop ((p0 / 4) + 1)) l p1 p3 p4 p5).bind fun (q0', q1') => some (q1', p2, p3, q0')
  | none => none
def bank_Bank_Turn (K : Nat) (p0 : Int) (p1 : List (Option (List (Int)))) (p2 : Int) (p3 : Int) : Option ((Int) ⊕ ((List (Option (List (Int)))) × Int × Int × (List (Int)))) :=
  let v6 := (decide (p0 ≥ 4))
  let v7 := (decide (p0 ≤ 1024))
  let v8 := (bif v6 then v7 else false)
  let v9 := (Int.tmod p0 4)
  let v10 := (bif v8 then (v9 == 0) else false)
  (bank_Bank_may K v10 p1 p2 p3).bind fun r11 =>
  bif (r11 != 0) then
    some (.inl r11)
  else
    let v12 := (kwrap .i64 (Int.tdiv p0 4))
    let v13 := (0 + (Int.toNat v12) * 4)
    gd ((0 : Int) ≤ v12 ∧ v12 < 257) <|
    (bank_Bank_tell_3 K v13 p0 p1 p2 p3 p0).bind fun (r14, r15, r16, r17) =>
    some (.inr (r15, r16, r17, r14))
def wave_Sine (K : Nat) (p0 : Int) (p1 : Int) : Option (Int × Int) :=
  let v2 := (decide (p1 < 1))
  let v3 := (decide (p1 > 1048576))
  let v4 := (bif v2 then true else v3)
  bif v4 then
    some (0, 1)
  else
    (wave_sine K p0 p1).bind fun r5 =>
    some (r5, 0)
def bank_Bank_Slope_1 (K : Nat) (p0 : Int) (p1 : Int) : Option (Int) :=
  let v3 := (kwrap .i64 (2 * p0))
  let v4 := (kwrap .i64 (v3 + 1))
  let v5 := (kwrap .i64 (8 * p1))
  (wave_Sine K v4 v5).bind fun (r6, _r7) =>
  some r6
def bank_Bank_tell_1_2.r0 (K : Nat) (c0 : Int) (_c1 : List (Option (List (Int)))) (_c2 : List (Option (List (Int)))) (_c3 : Int) (_c4 : Int) (_c5 : Int) (c6 : Int) (next : Int → List (Int) → Option ((List (Int)))) (x25 : Int) (x26 : List (Int)) : Option ((List (Int))) :=
  let v31 := (decide (x25 < c0))
  bif v31 then
    (bank_Bank_Slope_1 K x25 c6).bind fun r33 =>
    gd ((0 : Int) ≤ x25 ∧ x25 < (x26.length : Int)) <|
    let v34 := (List.set x26 (Int.toNat x25) r33)
    gd ((Int.toNat x25) < x26.length) <|
    let v35 := (kwrap .i64 (x25 + 1))
    next v35 v34
  else
    some x26
def bank_Bank_tell_1_2.l0 (K : Nat) (c0 : Int) (c1 : List (Option (List (Int)))) (c2 : List (Option (List (Int)))) (c3 : Int) (c4 : Int) (c5 : Int) (c6 : Int) (n : Nat) : Int → List (Int) → Option ((List (Int))) := rounds (bank_Bank_tell_1_2.r0 K c0 c1 c2 c3 c4 c5 c6) (fun _ _ => none) n
def bank_Bank_tell_1_2 (K : Nat) (p0 : List (Option (List (Int)))) (p1 : List (Option (List (Int)))) (p2 : Int) (p3 : Int) (p4 : Int) (p5 : Int) : Option ((List (Int)) × Int) :=
  let v11 := (List.replicate (Int.toNat p4) (0 : Int))
  gd ((0 : Int) ≤ p4 ∧ p4 ≤ p4 ∧ p4 * 2 ≤ 140737488355328) <|
  let v12 := (v11.length : Int)
  (bank_Bank_tell_1_2.l0 K v12 p0 p1 p2 p3 p4 p5 K 0 v11 : Option ((List (Int)))).bind fun x21 =>
    (sync_atomic_Int64_Add K 1 p0 x21 p1 p2 p3).bind fun r22 =>
    some (x21, r22)
def sync_Once_doSlow_2 (K : Nat) (p0 : List (Option (List (Int)))) (p1 : List (Option (List (Int)))) (p2 : Int) (p3 : Int) (p4 : Int) (p5 : Int) : Option ((List (Int)) × Int) :=
  bank_Bank_tell_1_2 K p0 p1 p2 p3 p4 p5
def sync_Once_Do_3 (K : Nat) (p0 : List (Option (List (Int)))) (p1 : List (Option (List (Int)))) (p2 : Int) (p3 : Int) (p4 : Int) (p5 : Int) : Option ((List (Int)) × Int) :=
  (sync_atomic_Bool_Load K p0 p1 p2 p3).bind fun _ =>
  (sync_Once_doSlow_2 K p0 p1 p2 p3 p4 p5).bind fun (r3, r4) =>
  some (r3, r4)
def bank_Bank_tell_4 (K : Nat) (t0 : List (Option (List (Int)))) (t1 : List (Option (List (Int)))) (p1 : Int) (p3 : Int) (p4 : Int) (p5 : Int) : Option ((List (Int)) × Int × Int × (List (Int))) :=
  (sync_Once_Do_3 K t0 t1 p3 p4 p1 p5).bind fun (r5, r6) =>
  (sync_atomic_Int64_Add_2 K 1 t0 r5 t1 r6 p4).bind fun r7 =>
  (slices_Clone_int16_int16 K r5).bind fun r8 =>
  some (r5, r6, r7, r8)
def sync_Once_Do_4 (K : Nat) (p0 : List (Option (List (Int)))) (p1 : List (Int)) (p2 : List (Option (List (Int)))) (p3 : Int) (p4 : Int) (_p5 : Int) (_p6 : Int) : Option (Unit) :=
  (sync_atomic_Bool_Load_2 K p0 p1 p2 p3 p4).bind fun _ =>
  some ()
def bank_Bank_tell_5 (K : Nat) (t0 : List (Option (List (Int)))) (t1 : List (Option (List (Int)))) (l : List (Int)) (p1 : Int) (p3 : Int) (p4 : Int) (p5 : Int) : Option (Int × (List (Int))) :=
  (sync_Once_Do_4 K t0 l t1 p3 p4 p1 p5).bind fun _ =>
  (sync_atomic_Int64_Add_2 K 1 t0 l t1 p3 p4).bind fun r3 =>
  (slices_Clone_int16_int16 K l).bind fun r4 =>
  some (r3, r4)
def bank_Bank_tell_6 (K : Nat) (p0 : Nat) (p1 : Int) (p2 : List (Option (List (Int)))) (p3 : Int) (p4 : Int) (p5 : Int) : Option ((List (Int)) × (List (Option (List (Int)))) × Int × Int) :=
  gd (p2.length = 388 ∧ p0 = p0 / 4 * 4 ∧ p0 / 4 < 388) <|
  match p2[p0 / 4]? with
  | some none => (bank_Bank_tell_4 K (p2.take (p0 / 4)) (p2.drop ((p0 / 4) + 1)) p1 p3 p4 p5).bind fun (q0', q1', q2', q3') => some (q3', (p2.take (p0 / 4) ++ some q0' :: p2.drop ((p0 / 4) + 1)), q1', q2')
  | some (some l) => (bank_Bank_tell_5 K (p2.take (p0 / 4)) (p2.drop ((p0 / 4) + 1)) l p1 p3 p4 p5).bind fun (q0', q1') => some (q1', p2, p3, q0')
  | none => none
def bank_Bank_Slope (K : Nat) (p0 : Int) (p1 : List (Option (List (Int)))) (p2 : Int) (p3 : Int) : Option ((Int) ⊕ ((List (Option (List (Int)))) × Int × Int × (List (Int)))) :=
  let v6 := (decide (p0 ≥ 1))
  let v7 := (decide (p0 ≤ 128))
  let v8 := (bif v6 then v7 else false)
  (bank_Bank_may K v8 p1 p2 p3).bind fun r9 =>
  bif (r9 != 0) then
    some (.inl r9)
  else
    let v10 := (1028 + (Int.toNat p0) * 4)
    gd ((0 : Int) ≤ p0 ∧ p0 < 129) <|
    (bank_Bank_tell_6 K v10 p0 p1 p2 p3 p0).bind fun (r11, r12, r13, r14) =>
    some (.inr (r12, r13, r14, r11))
def fix_Sat16 (K : Nat) (p0 : Int) : Option (Int) :=
  (fix_within_int64 K p0 (-32768) 32767).bind fun r2 =>
  some (kwrap .i16 r2)
def bank_filtered (K : Nat) (p0 : Int) (p1 : Int) : Option (Int) :=
  let v11 := (kwrap .i64 (5 * p0))
  let v12 := (kwrap .i64 (p1 - v11))
  (
    bif (v12 != 0) then
      let v32 := (kwrap .i64 (3 * v12))
      let v33 := (kwrap .i64 (10 * p0))
      (wave_Sine K v32 v33).bind fun (r34, _r35) =>
      let v36 := (kwrap .i64 (565 * p0))
      let v37 := (kwrap .i64 ((kwrap .i64 r34) * v36))
      let v38 := (kwrap .i64 (1065 * v12))
      let v39 := (kwrap .i64 (Int.tdiv v37 v38))
      gd (v38 ≠ 0) <|
      some v39
    else
      some 32768 : Option (Int)).bind fun x15 =>
    let v16 := (kwrap .i64 (10 * p0))
    (wave_Cosine K p1 v16).bind fun (r17, _r18) =>
    let v19 := (kwrap .i64 (2 * p1))
    (wave_Cosine K v19 v16).bind fun (r20, _r21) =>
    let v22 := (kwrap .i64 (50 * (kwrap .i64 r17)))
    let v23 := (kwrap .i64 (1376256 - v22))
    let v24 := (kwrap .i64 (8 * (kwrap .i64 r20)))
    let v25 := (kwrap .i64 (v23 + v24))
    let v26 := (kwrap .i64 (Int.tdiv v25 100))
    let v27 := (kwrap .i64 (x15 * v26))
    (fix_Round K v27 15).bind fun r28 =>
    let v29 := (kwrap .i64 (r28 * 19708))
    (fix_Round K v29 15).bind fun r30 =>
    (fix_Sat16 K r30).bind fun r31 =>
    some r31
def bank_Bank_Filter_1 (K : Nat) (p0 : Int) (p1 : Int) : Option (Int) :=
  (bank_filtered K p1 p0).bind fun r2 =>
  some r2
def bank_Bank_tell_1_3.r0 (K : Nat) (c0 : Int) (_c1 : List (Option (List (Int)))) (_c2 : List (Option (List (Int)))) (_c3 : Int) (_c4 : Int) (_c5 : Int) (c6 : Int) (next : Int → List (Int) → Option ((List (Int)))) (x25 : Int) (x26 : List (Int)) : Option ((List (Int))) :=
  let v31 := (decide (x25 < c0))
  bif v31 then
    (bank_Bank_Filter_1 K x25 c6).bind fun r33 =>
    gd ((0 : Int) ≤ x25 ∧ x25 < (x26.length : Int)) <|
    let v34 := (List.set x26 (Int.toNat x25) r33)
    gd ((Int.toNat x25) < x26.length) <|
    let v35 := (kwrap .i64 (x25 + 1))
    next v35 v34
  else
    some x26
def bank_Bank_tell_1_3.l0 (K : Nat) (c0 : Int) (c1 : List (Option (List (Int)))) (c2 : List (Option (List (Int)))) (c3 : Int) (c4 : Int) (c5 : Int) (c6 : Int) (n : Nat) : Int → List (Int) → Option ((List (Int))) := rounds (bank_Bank_tell_1_3.r0 K c0 c1 c2 c3 c4 c5 c6) (fun _ _ => none) n
def bank_Bank_tell_1_3 (K : Nat) (p0 : List (Option (List (Int)))) (p1 : List (Option (List (Int)))) (p2 : Int) (p3 : Int) (p4 : Int) (p5 : Int) : Option ((List (Int)) × Int) :=
  let v11 := (List.replicate (Int.toNat p4) (0 : Int))
  gd ((0 : Int) ≤ p4 ∧ p4 ≤ p4 ∧ p4 * 2 ≤ 140737488355328) <|
  let v12 := (v11.length : Int)
  (bank_Bank_tell_1_3.l0 K v12 p0 p1 p2 p3 p4 p5 K 0 v11 : Option ((List (Int)))).bind fun x21 =>
    (sync_atomic_Int64_Add K 1 p0 x21 p1 p2 p3).bind fun r22 =>
    some (x21, r22)
def sync_Once_doSlow_3 (K : Nat) (p0 : List (Option (List (Int)))) (p1 : List (Option (List (Int)))) (p2 : Int) (p3 : Int) (p4 : Int) (p5 : Int) : Option ((List (Int)) × Int) :=
  bank_Bank_tell_1_3 K p0 p1 p2 p3 p4 p5
def sync_Once_Do_5 (K : Nat) (p0 : List (Option (List (Int)))) (p1 : List (Option (List (Int)))) (p2 : Int) (p3 : Int) (p4 : Int) (p5 : Int) : Option ((List (Int)) × Int) :=
  (sync_atomic_Bool_Load K p0 p1 p2 p3).bind fun _ =>
  (sync_Once_doSlow_3 K p0 p1 p2 p3 p4 p5).bind fun (r3, r4) =>
  some (r3, r4)
def bank_Bank_tell_7 (K : Nat) (t0 : List (Option (List (Int)))) (t1 : List (Option (List (Int)))) (p1 : Int) (p3 : Int) (p4 : Int) (p5 : Int) : Option ((List (Int)) × Int × Int × (List (Int))) :=
  (sync_Once_Do_5 K t0 t1 p3 p4 p1 p5).bind fun (r5, r6) =>
  (sync_atomic_Int64_Add_2 K 1 t0 r5 t1 r6 p4).bind fun r7 =>
  (slices_Clone_int16_int16 K r5).bind fun r8 =>
  some (r5, r6, r7, r8)
def sync_Once_Do_6 (K : Nat) (p0 : List (Option (List (Int)))) (p1 : List (Int)) (p2 : List (Option (List (Int)))) (p3 : Int) (p4 : Int) (_p5 : Int) (_p6 : Int) : Option (Unit) :=
  (sync_atomic_Bool_Load_2 K p0 p1 p2 p3 p4).bind fun _ =>
  some ()
def bank_Bank_tell_8 (K : Nat) (t0 : List (Option (List (Int)))) (t1 : List (Option (List (Int)))) (l : List (Int)) (p1 : Int) (p3 : Int) (p4 : Int) (p5 : Int) : Option (Int × (List (Int))) :=
  (sync_Once_Do_6 K t0 l t1 p3 p4 p1 p5).bind fun _ =>
  (sync_atomic_Int64_Add_2 K 1 t0 l t1 p3 p4).bind fun r3 =>
  (slices_Clone_int16_int16 K l).bind fun r4 =>
  some (r3, r4)
def bank_Bank_tell_9 (K : Nat) (p0 : Nat) (p1 : Int) (p2 : List (Option (List (Int)))) (p3 : Int) (p4 : Int) (p5 : Int) : Option ((List (Int)) × (List (Option (List (Int)))) × Int × Int) :=
  gd (p2.length = 388 ∧ p0 = p0 / 4 * 4 ∧ p0 / 4 < 388) <|
  match p2[p0 / 4]? with
  | some none => (bank_Bank_tell_7 K (p2.take (p0 / 4)) (p2.drop ((p0 / 4) + 1)) p1 p3 p4 p5).bind fun (q0', q1', q2', q3') => some (q3', (p2.take (p0 / 4) ++ some q0' :: p2.drop ((p0 / 4) + 1)), q1', q2')
  | some (some l) => (bank_Bank_tell_8 K (p2.take (p0 / 4)) (p2.drop ((p0 / 4) + 1)) l p1 p3 p4 p5).bind fun (q0', q1') => some (q1', p2, p3, q0')
  | none => none
def bank_Bank_Filter (K : Nat) (p0 : Int) (p1 : List (Option (List (Int)))) (p2 : Int) (p3 : Int) : Option ((Int) ⊕ ((List (Option (List (Int)))) × Int × Int × (List (Int)))) :=
  let v6 := (bif (p0 == 4) then true else (p0 == 8))
  (bank_Bank_may K v6 p1 p2 p3).bind fun r7 =>
  bif (r7 != 0) then
    some (.inl r7)
  else
    let v8 := (kwrap .i64 (Int.tdiv p0 8))
    let v9 := (1544 + (Int.toNat v8) * 4)
    gd ((0 : Int) ≤ v8 ∧ v8 < 2) <|
    let v10 := (kwrap .i64 (10 * p0))
    (bank_Bank_tell_9 K v9 v10 p1 p2 p3 p0).bind fun (r11, r12, r13, r14) =>
    some (.inr (r12, r13, r14, r11))
def psalteryref04_Same.r0 (_K : Nat) (_c0 : List (Int)) (_next : Option (Unit))  : Option (Unit) :=
  some ()
def psalteryref04_Same.l0 (K : Nat) (c0 : List (Int)) (n : Nat) : Option (Unit) := rounds (psalteryref04_Same.r0 K c0) (none) n
def psalteryref04_Same (K : Nat) (p0 : List (Int)) : Option (Bool) :=
  let v1 := (0 != (p0.length : Int))
  bif v1 then
    some false
  else
    (psalteryref04_Same.l0 K p0 K  : Option (Unit)).bind fun _ =>
      some true
def sync_atomic_Int64_Load (_K : Nat) (p0 : List (Option (List (Int)))) (_p1 : Int) (_p2 : Int) : Option (Unit) :=
  gd (p0.length = 388) <| some ()
def bank_Bank_Made (K : Nat) (p0 : List (Option (List (Int)))) (p1 : Int) (p2 : Int) : Option (Unit) :=
  (sync_atomic_Int64_Load K p0 p1 p2).bind fun _ =>
  some ()
def sync_atomic_Int64_Load_2 (_K : Nat) (p0 : List (Option (List (Int)))) (_p1 : Int) (_p2 : Int) : Option (Unit) :=
  gd (p0.length = 388) <| some ()
def bank_Bank_Told (K : Nat) (p0 : List (Option (List (Int)))) (p1 : Int) (p2 : Int) : Option (Unit) :=
  (sync_atomic_Int64_Load_2 K p0 p1 p2).bind fun _ =>
  some ()
def psalteryref04_Same_2.r0 (_K : Nat) (c0 : List (Int)) (c1 : List (Int)) (next : Int → Option ((Unit) ⊕ (Bool))) (x6 : Int) : Option ((Unit) ⊕ (Bool)) :=
  let v8 := (decide (x6 < (c0.length : Int)))
  bif v8 then
    let v9 := (Kd.nth (.int .i16) c0 (Int.toNat x6))
    gd ((0 : Int) ≤ x6 ∧ x6 < (c0.length : Int)) <|
    let v10 := (Kd.nth (.int .i16) c1 (Int.toNat x6))
    gd ((0 : Int) ≤ x6 ∧ x6 < (c1.length : Int)) <|
    bif (v9 != v10) then
      some (.inr false)
    else
      let v11 := (kwrap .i64 (x6 + 1))
      next v11
  else
    some (.inl ())
def psalteryref04_Same_2.l0 (K : Nat) (c0 : List (Int)) (c1 : List (Int)) (n : Nat) : Int → Option ((Unit) ⊕ (Bool)) := rounds (psalteryref04_Same_2.r0 K c0 c1) (fun _ => none) n
def psalteryref04_Same_2 (K : Nat) (p0 : List (Int)) (p1 : List (Int)) : Option (Bool) :=
  let v3 := ((p0.length : Int) != (p1.length : Int))
  bif v3 then
    some false
  else
    (psalteryref04_Same_2.l0 K p0 p1 K 0 : Option ((Unit) ⊕ (Bool))).bind fun z => match z with
    | .inl _ =>
      some true
    | .inr r =>
      some r
def psalterylaw04_alive (K : Nat)  : Option (Bool) :=
  (bank_New K ).bind fun _ =>
  (bank_Bank_Turn K 4 (List.replicate 388 none) 0 0).bind fun z => match z with
  | .inl r107 =>
    (bank_Bank_Turn K 4 (List.replicate 388 none) 0 0).bind fun z => match z with
    | .inl _r112 =>
      (bank_Bank_Slope K 1 (List.replicate 388 none) 0 0).bind fun z => match z with
      | .inl _r117 =>
        (bank_Bank_Filter K 5 (List.replicate 388 none) 0 0).bind fun z => match z with
        | .inl _r122 =>
          (
            bif (r107 == 0) then
              let v128 := [32767, 0, (-32767), 0]
              (psalteryref04_Same K v128).bind fun r129 =>
              bif r129 then
                (bank_Bank_Made K (List.replicate 388 none) 0 0).bind fun _ =>
                some ()
              else
                some ()
            else
              some () : Option (Unit)).bind fun _ =>
            some false
        | .inr (r123, r124, r125, _r126) =>
          (
            bif (r107 == 0) then
              let v132 := [32767, 0, (-32767), 0]
              (psalteryref04_Same K v132).bind fun r133 =>
              bif r133 then
                (bank_Bank_Made K r123 r124 r125).bind fun _ =>
                bif (r124 == 2) then
                  (bank_Bank_Told K r123 r124 r125).bind fun _ =>
                  let v134 := (bif (r125 == 3) then false else false)
                  some v134
                else
                  some false
              else
                some false
            else
              some false : Option (Bool)).bind fun x131 =>
            some x131
      | .inr (r118, r119, r120, _r121) =>
        (bank_Bank_Filter K 5 r118 r119 r120).bind fun z => match z with
        | .inl r135 =>
          (
            bif (r107 == 0) then
              let v142 := [32767, 0, (-32767), 0]
              (psalteryref04_Same K v142).bind fun r143 =>
              bif r143 then
                (bank_Bank_Made K r118 r119 r120).bind fun _ =>
                bif (r119 == 2) then
                  (bank_Bank_Told K r118 r119 r120).bind fun _ =>
                  let v144 := (bif (r120 == 3) then (r135 == 1) else false)
                  some v144
                else
                  some false
              else
                some false
            else
              some false : Option (Bool)).bind fun x141 =>
            some x141
        | .inr (r136, r137, r138, _r139) =>
          (
            bif (r107 == 0) then
              let v147 := [32767, 0, (-32767), 0]
              (psalteryref04_Same K v147).bind fun r148 =>
              bif r148 then
                (bank_Bank_Made K r136 r137 r138).bind fun _ =>
                bif (r137 == 2) then
                  (bank_Bank_Told K r136 r137 r138).bind fun _ =>
                  let v149 := (bif (r138 == 3) then false else false)
                  some v149
                else
                  some false
              else
                some false
            else
              some false : Option (Bool)).bind fun x146 =>
            some x146
    | .inr (r113, r114, r115, _r116) =>
      (bank_Bank_Slope K 1 r113 r114 r115).bind fun z => match z with
      | .inl _r150 =>
        (bank_Bank_Filter K 5 r113 r114 r115).bind fun z => match z with
        | .inl r155 =>
          (
            bif (r107 == 0) then
              let v162 := [32767, 0, (-32767), 0]
              (psalteryref04_Same K v162).bind fun r163 =>
              bif r163 then
                (bank_Bank_Made K r113 r114 r115).bind fun _ =>
                bif (r114 == 2) then
                  (bank_Bank_Told K r113 r114 r115).bind fun _ =>
                  let v164 := (bif (r115 == 3) then (r155 == 1) else false)
                  some v164
                else
                  some false
              else
                some false
            else
              some false : Option (Bool)).bind fun x161 =>
            some x161
        | .inr (r156, r157, r158, _r159) =>
          (
            bif (r107 == 0) then
              let v167 := [32767, 0, (-32767), 0]
              (psalteryref04_Same K v167).bind fun r168 =>
              bif r168 then
                (bank_Bank_Made K r156 r157 r158).bind fun _ =>
                bif (r157 == 2) then
                  (bank_Bank_Told K r156 r157 r158).bind fun _ =>
                  let v169 := (bif (r158 == 3) then false else false)
                  some v169
                else
                  some false
              else
                some false
            else
              some false : Option (Bool)).bind fun x166 =>
            some x166
      | .inr (r151, r152, r153, _r154) =>
        (bank_Bank_Filter K 5 r151 r152 r153).bind fun z => match z with
        | .inl r170 =>
          (
            bif (r107 == 0) then
              let v177 := [32767, 0, (-32767), 0]
              (psalteryref04_Same K v177).bind fun r178 =>
              bif r178 then
                (bank_Bank_Made K r151 r152 r153).bind fun _ =>
                bif (r152 == 2) then
                  (bank_Bank_Told K r151 r152 r153).bind fun _ =>
                  let v179 := (bif (r153 == 3) then (r170 == 1) else false)
                  some v179
                else
                  some false
              else
                some false
            else
              some false : Option (Bool)).bind fun x176 =>
            some x176
        | .inr (r171, r172, r173, _r174) =>
          (
            bif (r107 == 0) then
              let v182 := [32767, 0, (-32767), 0]
              (psalteryref04_Same K v182).bind fun r183 =>
              bif r183 then
                (bank_Bank_Made K r171 r172 r173).bind fun _ =>
                bif (r172 == 2) then
                  (bank_Bank_Told K r171 r172 r173).bind fun _ =>
                  let v184 := (bif (r173 == 3) then false else false)
                  some v184
                else
                  some false
              else
                some false
            else
              some false : Option (Bool)).bind fun x181 =>
            some x181
  | .inr (r108, r109, r110, r111) =>
    (bank_Bank_Turn K 4 r108 r109 r110).bind fun z => match z with
    | .inl _r185 =>
      (bank_Bank_Slope K 1 r108 r109 r110).bind fun z => match z with
      | .inl _r190 =>
        (bank_Bank_Filter K 5 r108 r109 r110).bind fun z => match z with
        | .inl r195 =>
          (
            let v202 := [32767, 0, (-32767), 0]
            (psalteryref04_Same_2 K r111 v202).bind fun r203 =>
            bif r203 then
              (bank_Bank_Made K r108 r109 r110).bind fun _ =>
              bif (r109 == 2) then
                (bank_Bank_Told K r108 r109 r110).bind fun _ =>
                let v204 := (bif (r110 == 3) then (r195 == 1) else false)
                some v204
              else
                some false
            else
              some false : Option (Bool)).bind fun x201 =>
            some x201
        | .inr (r196, r197, r198, _r199) =>
          (
            let v207 := [32767, 0, (-32767), 0]
            (psalteryref04_Same_2 K r111 v207).bind fun r208 =>
            bif r208 then
              (bank_Bank_Made K r196 r197 r198).bind fun _ =>
              bif (r197 == 2) then
                (bank_Bank_Told K r196 r197 r198).bind fun _ =>
                let v209 := (bif (r198 == 3) then false else false)
                some v209
              else
                some false
            else
              some false : Option (Bool)).bind fun x206 =>
            some x206
      | .inr (r191, r192, r193, _r194) =>
        (bank_Bank_Filter K 5 r191 r192 r193).bind fun z => match z with
        | .inl r210 =>
          (
            let v217 := [32767, 0, (-32767), 0]
            (psalteryref04_Same_2 K r111 v217).bind fun r218 =>
            bif r218 then
              (bank_Bank_Made K r191 r192 r193).bind fun _ =>
              bif (r192 == 2) then
                (bank_Bank_Told K r191 r192 r193).bind fun _ =>
                let v219 := (bif (r193 == 3) then (r210 == 1) else false)
                some v219
              else
                some false
            else
              some false : Option (Bool)).bind fun x216 =>
            some x216
        | .inr (r211, r212, r213, _r214) =>
          (
            let v222 := [32767, 0, (-32767), 0]
            (psalteryref04_Same_2 K r111 v222).bind fun r223 =>
            bif r223 then
              (bank_Bank_Made K r211 r212 r213).bind fun _ =>
              bif (r212 == 2) then
                (bank_Bank_Told K r211 r212 r213).bind fun _ =>
                let v224 := (bif (r213 == 3) then false else false)
                some v224
              else
                some false
            else
              some false : Option (Bool)).bind fun x221 =>
            some x221
    | .inr (r186, r187, r188, _r189) =>
      (bank_Bank_Slope K 1 r186 r187 r188).bind fun z => match z with
      | .inl _r225 =>
        (bank_Bank_Filter K 5 r186 r187 r188).bind fun z => match z with
        | .inl r230 =>
          (
            let v237 := [32767, 0, (-32767), 0]
            (psalteryref04_Same_2 K r111 v237).bind fun r238 =>
            bif r238 then
              (bank_Bank_Made K r186 r187 r188).bind fun _ =>
              bif (r187 == 2) then
                (bank_Bank_Told K r186 r187 r188).bind fun _ =>
                let v239 := (bif (r188 == 3) then (r230 == 1) else false)
                some v239
              else
                some false
            else
              some false : Option (Bool)).bind fun x236 =>
            some x236
        | .inr (r231, r232, r233, _r234) =>
          (
            let v242 := [32767, 0, (-32767), 0]
            (psalteryref04_Same_2 K r111 v242).bind fun r243 =>
            bif r243 then
              (bank_Bank_Made K r231 r232 r233).bind fun _ =>
              bif (r232 == 2) then
                (bank_Bank_Told K r231 r232 r233).bind fun _ =>
                let v244 := (bif (r233 == 3) then false else false)
                some v244
              else
                some false
            else
              some false : Option (Bool)).bind fun x241 =>
            some x241
      | .inr (r226, r227, r228, _r229) =>
        (bank_Bank_Filter K 5 r226 r227 r228).bind fun z => match z with
        | .inl r245 =>
          (
            let v252 := [32767, 0, (-32767), 0]
            (psalteryref04_Same_2 K r111 v252).bind fun r253 =>
            bif r253 then
              (bank_Bank_Made K r226 r227 r228).bind fun _ =>
              bif (r227 == 2) then
                (bank_Bank_Told K r226 r227 r228).bind fun _ =>
                let v254 := (bif (r228 == 3) then (r245 == 1) else false)
                some v254
              else
                some false
            else
              some false : Option (Bool)).bind fun x251 =>
            some x251
        | .inr (r246, r247, r248, _r249) =>
          (
            let v257 := [32767, 0, (-32767), 0]
            (psalteryref04_Same_2 K r111 v257).bind fun r258 =>
            bif r258 then
              (bank_Bank_Made K r246 r247 r248).bind fun _ =>
              bif (r247 == 2) then
                (bank_Bank_Told K r246 r247 r248).bind fun _ =>
                let v259 := (bif (r248 == 3) then false else false)
                some v259
              else
                some false
            else
              some false : Option (Bool)).bind fun x256 =>
            some x256
def psalteryref03_part (_K : Nat) (p0 : Int) (p1 : Int) : Option (Int) :=
  let v1 := (kwrap .i64 (p0 * p1))
  let v2 := (kwrap .i64 (Int.tdiv v1 1073741824))
  some v2
def psalteryref01_down (_K : Nat) (p0 : Int) (p1 : Int) : Option (Int) :=
  let v2 := (kwrap .i64 (Int.tdiv p0 p1))
  gd (p1 ≠ 0) <|
  let v3 := (Int.tmod p0 p1)
  let v4 := (decide (v3 < 0))
  gd (p1 ≠ 0) <|
  (
    bif v4 then
      let v6 := (kwrap .i64 (v2 - 1))
      some v6
    else
      some v2 : Option (Int)).bind fun x5 =>
    some x5
def psalteryref01_Round (K : Nat) (p0 : Int) (p1 : Int) : Option (Int) :=
  let v3 := (imax (imin p1 62) 0)
  bif (v3 == 0) then
    some p0
  else
    let v4 := (kwrap .i64 (v3 - 1))
    let v5 := (kwrap .u64 v4)
    let v6 := (kshl .i64 1 v5)
    gd ((0 : Int) ≤ v5) <|
    (psalteryref01_down K p0 v6).bind fun r7 =>
    let v8 := (kwrap .i64 (r7 + 1))
    (psalteryref01_down K v8 2).bind fun r9 =>
    some r9
def psalteryref03_signed (K : Nat) (p0 : Int) (p1 : Int) (p2 : Bool) : Option (Int) :=
  let v10 := (kwrap .i64 (4 * p0))
  let v11 := (decide (v10 ≥ p1))
  (
    bif v11 then
      let v29 := (kwrap .i64 (2 * p1))
      let v30 := (kwrap .i64 (v29 - v10))
      some v30
    else
      some v10 : Option (Int)).bind fun x12 =>
    let v13 := (kwrap .i64 (x12 * 1073741824))
    let v14 := (kwrap .i64 (Int.tdiv v13 p1))
    gd (p1 ≠ 0) <|
    (psalteryref03_part K v14 v14).bind fun r15 =>
    (psalteryref03_part K 172272 r15).bind fun r16 =>
    let v17 := (kwrap .i64 (5026995 - r16))
    (psalteryref03_part K v17 r15).bind fun r18 =>
    let v19 := (kwrap .i64 (85569306 - r18))
    (psalteryref03_part K v19 r15).bind fun r20 =>
    let v21 := (kwrap .i64 (693598668 - r20))
    (psalteryref03_part K v21 r15).bind fun r22 =>
    let v23 := (kwrap .i64 (1686629713 - r22))
    (psalteryref03_part K v23 v14).bind fun r24 =>
    (psalteryref01_Round K r24 15).bind fun r25 =>
    let v26 := (decide (r25 > 32767))
    (
      bif v26 then
        some 32767
      else
        some r25 : Option (Int)).bind fun x27 =>
      bif p2 then
        let v28 := (kwrap .i16 (kwrap .i64 (0 - x27)))
        some v28
      else
        some (kwrap .i16 x27)
def psalteryref03_of (K : Nat) (p0 : Int) (p1 : Int) : Option (Int) :=
  let v5 := (decide (p0 < 0))
  (
    bif v5 then
      let v14 := (kwrap .i64 (p0 + p1))
      some v14
    else
      some p0 : Option (Int)).bind fun x6 =>
    let v7 := (kwrap .i64 (2 * x6))
    let v8 := (decide (v7 ≥ p1))
    bif v8 then
      let v10 := (kwrap .i64 (Int.tdiv p1 2))
      let v11 := (kwrap .i64 (x6 - v10))
      (psalteryref03_signed K v11 p1 true).bind fun r12 =>
      some r12
    else
      (psalteryref03_signed K x6 p1 false).bind fun r13 =>
      some r13
def psalteryref03_Of (K : Nat) (p0 : Int) (p1 : Int) : Option (Int) :=
  let v5 := (Int.tmod p0 p1)
  gd (p1 ≠ 0) <|
  let v6 := (decide (v5 < 0))
  (
    bif v6 then
      let v19 := (kwrap .i64 (v5 + p1))
      some v19
    else
      some v5 : Option (Int)).bind fun x7 =>
    let v8 := (kwrap .i64 (2 * x7))
    let v9 := (decide (v8 ≥ p1))
    (
      bif v9 then
        let v13 := (kwrap .i64 (Int.tdiv p1 2))
        let v14 := (kwrap .i64 (x7 - v13))
        let v15 := (Int.tmod p1 2)
        bif (v15 == 1) then
          let v16 := (kwrap .i64 (2 * v5))
          let v17 := (kwrap .i64 (2 * p1))
          gd (p1 ≠ 0) <|
          (psalteryref03_of K v16 v17).bind fun r18 =>
          some (.inr r18)
        else
          some (.inl v14)
      else
        some (.inl x7) : Option ((Int) ⊕ (Int))).bind fun z => match z with
    | .inl x11 =>
      (psalteryref03_signed K x11 p1 v9).bind fun r12 =>
      some r12
    | .inr r =>
      some r
def psalteryref03_Cosine (K : Nat) (p0 : Int) (p1 : Int) : Option (Int × Int) :=
  let v2 := (decide (p1 < 1))
  let v3 := (decide (p1 > 1048576))
  let v4 := (bif v2 then true else v3)
  bif v4 then
    some (0, 1)
  else
    let v5 := (Int.tmod p0 p1)
    gd (p1 ≠ 0) <|
    let v6 := (kwrap .i64 (4 * v5))
    let v7 := (kwrap .i64 (v6 + p1))
    let v8 := (kwrap .i64 (4 * p1))
    (psalteryref03_Of K v7 v8).bind fun r9 =>
    some (r9, 0)
def psalteryref04_Turn.r0 (K : Nat) (c0 : Int) (next : Int → List (Int) → Option ((List (Int)))) (x36 : Int) (x37 : List (Int)) : Option ((List (Int))) :=
  let v44 := (decide (x36 < c0))
  bif v44 then
    (psalteryref03_Cosine K x36 c0).bind fun (r47, _r48) =>
    let v49 := (x37 ++ [r47])
    gd (((x37.length : Int) + ([r47].length : Int)) * 2 ≤ 70368744177664) <|
    let v50 := (kwrap .i64 (x36 + 1))
    next v50 v49
  else
    some x37
def psalteryref04_Turn.l0 (K : Nat) (c0 : Int) (n : Nat) : Int → List (Int) → Option ((List (Int))) := rounds (psalteryref04_Turn.r0 K c0) (fun _ _ => none) n
def psalteryref04_Turn (K : Nat) (p0 : Int) : Option ((Unit) ⊕ ((List (Int)))) :=
  let v14 := (decide (p0 < 4))
  let v15 := (decide (p0 > 1024))
  let v16 := (bif v14 then true else v15)
  let v17 := (Int.tmod p0 4)
  let v18 := (bif v16 then true else (v17 != 0))
  bif v18 then
    some (.inl ())
  else
    (psalteryref04_Turn.l0 K p0 K 0 ([] : List (Int)) : Option ((List (Int)))).bind fun x31 =>
      some (.inr x31)
def psalteryref04_Slope.r0 (K : Nat) (c0 : Int) (next : Int → List (Int) → Option ((List (Int)))) (x24 : Int) (x25 : List (Int)) : Option ((List (Int))) :=
  let v30 := (kwrap .i64 (2 * c0))
  let v31 := (decide (x24 < v30))
  bif v31 then
    let v33 := (kwrap .i64 (8 * c0))
    (psalteryref03_Of K x24 v33).bind fun r34 =>
    let v35 := (x25 ++ [r34])
    gd (((x25.length : Int) + ([r34].length : Int)) * 2 ≤ 70368744177664) <|
    let v36 := (kwrap .i64 (x24 + 2))
    next v36 v35
  else
    some x25
def psalteryref04_Slope.l0 (K : Nat) (c0 : Int) (n : Nat) : Int → List (Int) → Option ((List (Int))) := rounds (psalteryref04_Slope.r0 K c0) (fun _ _ => none) n
def psalteryref04_Slope (K : Nat) (p0 : Int) : Option ((Unit) ⊕ ((List (Int)))) :=
  let v10 := (decide (p0 < 1))
  let v11 := (decide (p0 > 128))
  let v12 := (bif v10 then true else v11)
  bif v12 then
    some (.inl ())
  else
    (psalteryref04_Slope.l0 K p0 K 1 ([] : List (Int)) : Option ((List (Int)))).bind fun x21 =>
      some (.inr x21)
def psalteryref04_Filter.r0 (K : Nat) (c0 : Int) (next : Int → List (Int) → Option ((List (Int)))) (x93 : Int) (x94 : List (Int)) : Option ((List (Int))) :=
  let v113 := (kwrap .i64 (5 * c0))
  let v114 := (decide (x93 < v113))
  bif v114 then
    (
      bif (x93 != 0) then
        let v143 := (kwrap .i64 (3 * x93))
        let v144 := (kwrap .i64 (10 * c0))
        (psalteryref03_Of K v143 v144).bind fun r145 =>
        let v146 := (kwrap .i64 ((kwrap .i64 r145) * c0))
        let v147 := (kwrap .i64 (v146 * 565))
        let v148 := (kwrap .i64 (x93 * 1065))
        let v149 := (kwrap .i64 (Int.tdiv v147 v148))
        gd (v148 ≠ 0) <|
        some v149
      else
        some 32768 : Option (Int)).bind fun x124 =>
      let v125 := (kwrap .i64 (x93 + v113))
      let v126 := (kwrap .i64 (10 * c0))
      (psalteryref03_Cosine K v125 v126).bind fun (r127, _r128) =>
      let v129 := (kwrap .i64 (2 * v125))
      (psalteryref03_Cosine K v129 v126).bind fun (r130, _r131) =>
      let v132 := (kwrap .i64 (8 * (kwrap .i64 r130)))
      let v133 := (kwrap .i64 (1376256 + v132))
      let v134 := (kwrap .i64 (50 * (kwrap .i64 r127)))
      let v135 := (kwrap .i64 (v133 - v134))
      let v136 := (kwrap .i64 (Int.tdiv v135 100))
      let v137 := (kwrap .i64 (x124 * v136))
      (psalteryref01_Round K v137 15).bind fun r138 =>
      let v139 := (kwrap .i64 (r138 * 19708))
      (psalteryref01_Round K v139 15).bind fun r140 =>
      let v141 := [(kwrap .i16 r140)]
      gd (((x94.length : Int) + (v141.length : Int)) * 2 ≤ 70368744177664) <|
      let v142 := (kwrap .i64 (x93 + 1))
      next v142 (x94 ++ v141)
  else
    some x94
def psalteryref04_Filter.l0 (K : Nat) (c0 : Int) (n : Nat) : Int → List (Int) → Option ((List (Int))) := rounds (psalteryref04_Filter.r0 K c0) (fun _ _ => none) n
def psalteryref04_Filter (K : Nat) (p0 : Int) : Option ((Unit) ⊕ ((List (Int)))) :=
  let v38 := (bif (p0 != 4) then (p0 != 8) else false)
  bif v38 then
    some (.inl ())
  else
    let v39 := (kwrap .i64 ((-5) * p0))
    (psalteryref04_Filter.l0 K p0 K v39 ([] : List (Int)) : Option ((List (Int)))).bind fun x76 =>
      some (.inr x76)
def psalterylaw04_ask (K : Nat) (p0 : Int) (p1 : Int) (p2 : List (Option (List (Int)))) (p3 : Int) (p4 : Int) : Option ((Int) ⊕ (Int × (List (Int))) ⊕ ((List (Option (List (Int)))) × Int × Int × (List (Int))) ⊕ ((List (Int)) × (List (Option (List (Int)))) × Int × Int × (List (Int)))) :=
  bif (p0 == 0) then
    (bank_Bank_Turn K p1 p2 p3 p4).bind fun z => match z with
    | .inl r85 =>
      (psalteryref04_Turn K p1).bind fun z => match z with
      | .inl _ =>
        some (.inl r85)
      | .inr r90 =>
        some (.inr (.inl (r85, r90)))
    | .inr (r86, r87, r88, r89) =>
      (psalteryref04_Turn K p1).bind fun z => match z with
      | .inl _ =>
        some (.inr (.inr (.inl (r86, r87, r88, r89))))
      | .inr r91 =>
        some (.inr (.inr (.inr (r91, r86, r87, r88, r89))))
  else
    bif (p0 == 1) then
      (bank_Bank_Slope K p1 p2 p3 p4).bind fun z => match z with
      | .inl r99 =>
        (psalteryref04_Slope K p1).bind fun z => match z with
        | .inl _ =>
          some (.inl r99)
        | .inr r104 =>
          some (.inr (.inl (r99, r104)))
      | .inr (r100, r101, r102, r103) =>
        (psalteryref04_Slope K p1).bind fun z => match z with
        | .inl _ =>
          some (.inr (.inr (.inl (r100, r101, r102, r103))))
        | .inr r105 =>
          some (.inr (.inr (.inr (r105, r100, r101, r102, r103))))
    else
      (bank_Bank_Filter K p1 p2 p3 p4).bind fun z => match z with
      | .inl r106 =>
        (psalteryref04_Filter K p1).bind fun z => match z with
        | .inl _ =>
          some (.inl r106)
        | .inr r111 =>
          some (.inr (.inl (r106, r111)))
      | .inr (r107, r108, r109, r110) =>
        (psalteryref04_Filter K p1).bind fun z => match z with
        | .inl _ =>
          some (.inr (.inr (.inl (r107, r108, r109, r110))))
        | .inr r112 =>
          some (.inr (.inr (.inr (r112, r107, r108, r109, r110))))
def psalteryref04_Same_3.r0 (_K : Nat)  (_next : Option (Unit))  : Option (Unit) :=
  some ()
def psalteryref04_Same_3.l0 (K : Nat)  (n : Nat) : Option (Unit) := rounds (psalteryref04_Same_3.r0 K) (none) n
def psalteryref04_Same_3 (K : Nat)  : Option (Unit) :=
  (psalteryref04_Same_3.l0 K K  : Option (Unit)).bind fun _ =>
    some ()
def psalteryref04_Same_4.r0 (_K : Nat) (c0 : List (Int)) (_next : Option (Unit))  : Option (Unit) :=
  let v2 := (decide (0 < (c0.length : Int)))
  bif v2 then
    gd (0 < (c0.length : Int)) <|
    none
  else
    some ()
def psalteryref04_Same_4.l0 (K : Nat) (c0 : List (Int)) (n : Nat) : Option (Unit) := rounds (psalteryref04_Same_4.r0 K c0) (none) n
def psalteryref04_Same_4 (K : Nat) (p0 : List (Int)) : Option (Bool) :=
  let v1 := ((p0.length : Int) != 0)
  bif v1 then
    some false
  else
    (psalteryref04_Same_4.l0 K p0 K  : Option (Unit)).bind fun _ =>
      some true
def psalterylaw04_BankOnce.r1 (_K : Nat) (_c0 : List ((Int × Int))) (_c1 : Int) (_c2 : Int) (_c3 : Int) (_c4 : Int) (_c5 : List (Option (List (Int)))) (_c6 : Int) (_c7 : Int) (_next : Option (Unit))  : Option (Unit) :=
  some ()
def psalterylaw04_BankOnce.l1 (K : Nat) (c0 : List ((Int × Int))) (c1 : Int) (c2 : Int) (c3 : Int) (c4 : Int) (c5 : List (Option (List (Int)))) (c6 : Int) (c7 : Int) (n : Nat) : Option (Unit) := rounds (psalterylaw04_BankOnce.r1 K c0 c1 c2 c3 c4 c5 c6 c7) (none) n
def psalterylaw04_BankOnce.r2 (_K : Nat) (_c0 : List ((Int × Int))) (_c1 : Int) (_c2 : Int) (_c3 : Int) (_c4 : Int) (_c5 : List (Option (List (Int)))) (_c6 : Int) (_c7 : Int) (next : Int → List (Int) → Option (Unit)) (x423 : Int) (x424 : List (Int)) : Option (Unit) :=
  let v427 := (decide (x423 < (x424.length : Int)))
  bif v427 then
    let v428 := (List.set x424 (Int.toNat x423) 7)
    gd ((0 : Int) ≤ x423 ∧ x423 < (x424.length : Int) ∧ (Int.toNat x423) < x424.length) <|
    let v429 := (kwrap .i64 (x423 + 1))
    next v429 v428
  else
    some ()
def psalterylaw04_BankOnce.l2 (K : Nat) (c0 : List ((Int × Int))) (c1 : Int) (c2 : Int) (c3 : Int) (c4 : Int) (c5 : List (Option (List (Int)))) (c6 : Int) (c7 : Int) (n : Nat) : Int → List (Int) → Option (Unit) := rounds (psalterylaw04_BankOnce.r2 K c0 c1 c2 c3 c4 c5 c6 c7) (fun _ _ => none) n
def psalterylaw04_BankOnce.r0 (K : Nat) (c0 : List ((Int × Int))) (c1 : Int) (c2 : Int) (c3 : Int) (next : Int → List (Option (List (Int))) → Int → Int → Option ((List (Option (List (Int)))) × Int × Int)) (x358 : Int) (x359 : List (Option (List (Int)))) (x360 : Int) (x361 : Int) : Option ((List (Option (List (Int)))) × Int × Int) :=
  let v385 := (decide (x358 < (c0.length : Int)))
  bif v385 then
    (
      let v406 := (Kd.nth (.pair (.int .i64) (.int .i64)) c0 (Int.toNat x358))
      gd ((0 : Int) ≤ x358 ∧ x358 < (c0.length : Int)) <|
      (psalterylaw04_ask K v406.1 v406.2 x359 x360 x361).bind fun z => match z with
      | .inl _r407 =>
        (psalterylaw04_BankOnce.l1 K c0 c1 x358 c2 c3 x359 x360 x361 K  : Option (Unit)).bind fun _ =>
          some (x359, x360, x361)
      | .inr (.inl (_r408, _r409)) =>
        none
      | .inr (.inr (.inl (_r410, _r411, _r412, _r413))) =>
        none
      | .inr (.inr (.inr (_r414, r415, r416, r417, r418))) =>
        (psalterylaw04_BankOnce.l2 K c0 c1 x358 c2 c3 r415 r416 r417 K 0 r418 : Option (Unit)).bind fun _ =>
          some (r415, r416, r417) : Option ((List (Option (List (Int)))) × Int × Int)).bind fun (x402, x403, x404) =>
      let v405 := (kwrap .i64 (x358 + 1))
      next v405 x402 x403 x404
  else
    some (x359, x360, x361)
def psalterylaw04_BankOnce.l0 (K : Nat) (c0 : List ((Int × Int))) (c1 : Int) (c2 : Int) (c3 : Int) (n : Nat) : Int → List (Option (List (Int))) → Int → Int → Option ((List (Option (List (Int)))) × Int × Int) := rounds (psalterylaw04_BankOnce.r0 K c0 c1 c2 c3) (fun _ _ _ _ => none) n
def psalterylaw04_BankOnce.r4 (_K : Nat) (_c0 : List ((Int × Int))) (_c1 : Int) (_c2 : Int) (_c3 : Int) (_c4 : List (Option (List (Int)))) (_c5 : Int) (_c6 : Int) (_c7 : List (Int)) (_next : Option (Unit))  : Option (Unit) :=
  some ()
def psalterylaw04_BankOnce.l4 (K : Nat) (c0 : List ((Int × Int))) (c1 : Int) (c2 : Int) (c3 : Int) (c4 : List (Option (List (Int)))) (c5 : Int) (c6 : Int) (c7 : List (Int)) (n : Nat) : Option (Unit) := rounds (psalterylaw04_BankOnce.r4 K c0 c1 c2 c3 c4 c5 c6 c7) (none) n
def psalterylaw04_BankOnce.r5 (_K : Nat) (_c0 : List ((Int × Int))) (_c1 : Int) (_c2 : Int) (_c3 : Int) (_c4 : List (Option (List (Int)))) (_c5 : Int) (_c6 : Int) (_c7 : List (Int)) (next : Int → List (Int) → Option (Unit)) (x635 : Int) (x636 : List (Int)) : Option (Unit) :=
  let v639 := (decide (x635 < (x636.length : Int)))
  bif v639 then
    let v640 := (List.set x636 (Int.toNat x635) 7)
    gd ((0 : Int) ≤ x635 ∧ x635 < (x636.length : Int) ∧ (Int.toNat x635) < x636.length) <|
    let v641 := (kwrap .i64 (x635 + 1))
    next v641 v640
  else
    some ()
def psalterylaw04_BankOnce.l5 (K : Nat) (c0 : List ((Int × Int))) (c1 : Int) (c2 : Int) (c3 : Int) (c4 : List (Option (List (Int)))) (c5 : Int) (c6 : Int) (c7 : List (Int)) (n : Nat) : Int → List (Int) → Option (Unit) := rounds (psalterylaw04_BankOnce.r5 K c0 c1 c2 c3 c4 c5 c6 c7) (fun _ _ => none) n
def psalterylaw04_BankOnce.r3 (K : Nat) (c0 : List ((Int × Int))) (c1 : Int) (c2 : Int) (c3 : List (Int)) (next : Int → List (Option (List (Int))) → Int → Int → Option ((List (Option (List (Int)))) × Int × Int)) (x570 : Int) (x571 : List (Option (List (Int)))) (x572 : Int) (x573 : Int) : Option ((List (Option (List (Int)))) × Int × Int) :=
  let v597 := (decide (x570 < (c0.length : Int)))
  bif v597 then
    (
      let v618 := (Kd.nth (.pair (.int .i64) (.int .i64)) c0 (Int.toNat x570))
      gd ((0 : Int) ≤ x570 ∧ x570 < (c0.length : Int)) <|
      (psalterylaw04_ask K v618.1 v618.2 x571 x572 x573).bind fun z => match z with
      | .inl _r619 =>
        (psalterylaw04_BankOnce.l4 K c0 x570 c1 c2 x571 x572 x573 c3 K  : Option (Unit)).bind fun _ =>
          some (x571, x572, x573)
      | .inr (.inl (_r620, _r621)) =>
        none
      | .inr (.inr (.inl (_r622, _r623, _r624, _r625))) =>
        none
      | .inr (.inr (.inr (_r626, r627, r628, r629, r630))) =>
        (psalterylaw04_BankOnce.l5 K c0 x570 c1 c2 r627 r628 r629 c3 K 0 r630 : Option (Unit)).bind fun _ =>
          some (r627, r628, r629) : Option ((List (Option (List (Int)))) × Int × Int)).bind fun (x614, x615, x616) =>
      let v617 := (kwrap .i64 (x570 + 1))
      next v617 x614 x615 x616
  else
    some (x571, x572, x573)
def psalterylaw04_BankOnce.l3 (K : Nat) (c0 : List ((Int × Int))) (c1 : Int) (c2 : Int) (c3 : List (Int)) (n : Nat) : Int → List (Option (List (Int))) → Int → Int → Option ((List (Option (List (Int)))) × Int × Int) := rounds (psalterylaw04_BankOnce.r3 K c0 c1 c2 c3) (fun _ _ _ _ => none) n
def psalterylaw04_BankOnce (K : Nat) (p0 : List ((Int × Int))) (p1 : Int) (p2 : Int) : Option (Bool) :=
  (psalterylaw04_alive K ).bind fun r204 =>
  bif (!r204) then
    some false
  else
    let v205 := (decide ((p0.length : Int) > 30))
    bif v205 then
      some true
    else
      (bank_New K ).bind fun _ =>
      (bank_New K ).bind fun _ =>
      (psalterylaw04_ask K p1 p2 (List.replicate 388 none) 0 0).bind fun z => match z with
      | .inl r206 =>
        (psalterylaw04_BankOnce.l0 K p0 r206 p1 p2 K 0 (List.replicate 388 none) 0 0 : Option ((List (Option (List (Int)))) × Int × Int)).bind fun (x264, x265, x266) =>
          (bank_Bank_Made K x264 x265 x266).bind fun _ =>
          (psalterylaw04_ask K p1 p2 x264 x265 x266).bind fun z => match z with
          | .inl r267 =>
            (bank_Bank_Made K x264 x265 x266).bind fun _ =>
            (psalterylaw04_ask K p1 p2 x264 x265 x266).bind fun z => match z with
            | .inl r279 =>
              (
                let v292 := (r206 == r267)
                let v293 := (r267 == r279)
                let v294 := (bif v292 then v293 else false)
                bif v294 then
                  (psalteryref04_Same_3 K ).bind fun _ =>
                  (psalteryref04_Same_3 K ).bind fun _ =>
                  let v295 := (kwrap .i64 (x265 - x265))
                  let v296 := (decide (v295 ≤ 1))
                  bif v296 then
                    (bank_Bank_Made K x264 x265 x266).bind fun _ =>
                    let v297 := (x265 == x265)
                    some v297
                  else
                    some false
                else
                  some false : Option (Bool)).bind fun x291 =>
                some x291
            | .inr (.inl (_r280, _r281)) =>
              none
            | .inr (.inr (.inl (_r282, _r283, _r284, _r285))) =>
              none
            | .inr (.inr (.inr (_r286, r287, r288, r289, r290))) =>
              (
                let v300 := (r206 == r267)
                let v301 := (bif v300 then (r267 == 0) else false)
                bif v301 then
                  (psalteryref04_Same_3 K ).bind fun _ =>
                  (psalteryref04_Same K r290).bind fun r302 =>
                  let v303 := (kwrap .i64 (x265 - x265))
                  let v304 := (decide (v303 ≤ 1))
                  let v305 := (bif r302 then v304 else false)
                  bif v305 then
                    (bank_Bank_Made K r287 r288 r289).bind fun _ =>
                    let v306 := (r288 == x265)
                    some v306
                  else
                    some false
                else
                  some false : Option (Bool)).bind fun x299 =>
                some x299
          | .inr (.inl (_r268, _r269)) =>
            none
          | .inr (.inr (.inl (_r270, _r271, _r272, _r273))) =>
            none
          | .inr (.inr (.inr (_r274, r275, r276, r277, r278))) =>
            (bank_Bank_Made K r275 r276 r277).bind fun _ =>
            (psalterylaw04_ask K p1 p2 r275 r276 r277).bind fun z => match z with
            | .inl r307 =>
              (
                let v322 := (bif (r206 == 0) then (0 == r307) else false)
                bif v322 then
                  (psalteryref04_Same K r278).bind fun r323 =>
                  bif r323 then
                    (psalteryref04_Same_4 K r278).bind fun r324 =>
                    let v325 := (kwrap .i64 (r276 - x265))
                    let v326 := (decide (v325 ≤ 1))
                    let v327 := (bif r324 then v326 else false)
                    bif v327 then
                      (bank_Bank_Made K r275 r276 r277).bind fun _ =>
                      let v328 := (r276 == r276)
                      some v328
                    else
                      some false
                  else
                    some false
                else
                  some false : Option (Bool)).bind fun x321 =>
                some x321
            | .inr (.inl (_r308, _r309)) =>
              none
            | .inr (.inr (.inl (_r310, _r311, _r312, _r313))) =>
              none
            | .inr (.inr (.inr (_r314, r315, r316, r317, r318))) =>
              (
                let v332 := (bif (r206 == 0) then true else false)
                bif v332 then
                  (psalteryref04_Same K r278).bind fun r333 =>
                  bif r333 then
                    (psalteryref04_Same_2 K r278 r318).bind fun r334 =>
                    let v335 := (kwrap .i64 (r276 - x265))
                    let v336 := (decide (v335 ≤ 1))
                    let v337 := (bif r334 then v336 else false)
                    bif v337 then
                      (bank_Bank_Made K r315 r316 r317).bind fun _ =>
                      let v338 := (r316 == r276)
                      some v338
                    else
                      some false
                  else
                    some false
                else
                  some false : Option (Bool)).bind fun x331 =>
                some x331
      | .inr (.inl (_r207, _r208)) =>
        none
      | .inr (.inr (.inl (_r209, _r210, _r211, _r212))) =>
        none
      | .inr (.inr (.inr (_r213, _r214, _r215, _r216, r217))) =>
        (psalterylaw04_BankOnce.l3 K p0 p1 p2 r217 K 0 (List.replicate 388 none) 0 0 : Option ((List (Option (List (Int)))) × Int × Int)).bind fun (x476, x477, x478) =>
          (bank_Bank_Made K x476 x477 x478).bind fun _ =>
          (psalterylaw04_ask K p1 p2 x476 x477 x478).bind fun z => match z with
          | .inl r479 =>
            (bank_Bank_Made K x476 x477 x478).bind fun _ =>
            (psalterylaw04_ask K p1 p2 x476 x477 x478).bind fun z => match z with
            | .inl r491 =>
              (
                let v505 := (r479 == r491)
                let v506 := (bif (0 == r479) then v505 else false)
                bif v506 then
                  (psalteryref04_Same_4 K r217).bind fun r507 =>
                  bif r507 then
                    (psalteryref04_Same_3 K ).bind fun _ =>
                    let v508 := (kwrap .i64 (x477 - x477))
                    let v509 := (decide (v508 ≤ 1))
                    bif v509 then
                      (bank_Bank_Made K x476 x477 x478).bind fun _ =>
                      let v510 := (x477 == x477)
                      some v510
                    else
                      some false
                  else
                    some false
                else
                  some false : Option (Bool)).bind fun x504 =>
                some x504
            | .inr (.inl (_r492, _r493)) =>
              none
            | .inr (.inr (.inl (_r494, _r495, _r496, _r497))) =>
              none
            | .inr (.inr (.inr (_r498, r499, r500, r501, r502))) =>
              (
                let v514 := (bif (0 == r479) then (r479 == 0) else false)
                bif v514 then
                  (psalteryref04_Same_4 K r217).bind fun r515 =>
                  bif r515 then
                    (psalteryref04_Same K r502).bind fun r516 =>
                    let v517 := (kwrap .i64 (x477 - x477))
                    let v518 := (decide (v517 ≤ 1))
                    let v519 := (bif r516 then v518 else false)
                    bif v519 then
                      (bank_Bank_Made K r499 r500 r501).bind fun _ =>
                      let v520 := (r500 == x477)
                      some v520
                    else
                      some false
                  else
                    some false
                else
                  some false : Option (Bool)).bind fun x513 =>
                some x513
          | .inr (.inl (_r480, _r481)) =>
            none
          | .inr (.inr (.inl (_r482, _r483, _r484, _r485))) =>
            none
          | .inr (.inr (.inr (_r486, r487, r488, r489, r490))) =>
            (bank_Bank_Made K r487 r488 r489).bind fun _ =>
            (psalterylaw04_ask K p1 p2 r487 r488 r489).bind fun z => match z with
            | .inl r521 =>
              (
                bif (0 == r521) then
                  (psalteryref04_Same_2 K r217 r490).bind fun r536 =>
                  bif r536 then
                    (psalteryref04_Same_4 K r490).bind fun r537 =>
                    let v538 := (kwrap .i64 (r488 - x477))
                    let v539 := (decide (v538 ≤ 1))
                    let v540 := (bif r537 then v539 else false)
                    bif v540 then
                      (bank_Bank_Made K r487 r488 r489).bind fun _ =>
                      let v541 := (r488 == r488)
                      some v541
                    else
                      some false
                  else
                    some false
                else
                  some false : Option (Bool)).bind fun x535 =>
                some x535
            | .inr (.inl (_r522, _r523)) =>
              none
            | .inr (.inr (.inl (_r524, _r525, _r526, _r527))) =>
              none
            | .inr (.inr (.inr (_r528, r529, r530, r531, r532))) =>
              (
                (psalteryref04_Same_2 K r217 r490).bind fun r545 =>
                bif r545 then
                  (psalteryref04_Same_2 K r490 r532).bind fun r546 =>
                  let v547 := (kwrap .i64 (r488 - x477))
                  let v548 := (decide (v547 ≤ 1))
                  let v549 := (bif r546 then v548 else false)
                  bif v549 then
                    (bank_Bank_Made K r529 r530 r531).bind fun _ =>
                    let v550 := (r530 == r488)
                    some v550
                  else
                    some false
                else
                  some false : Option (Bool)).bind fun x544 =>
                some x544
end Go.Fo
