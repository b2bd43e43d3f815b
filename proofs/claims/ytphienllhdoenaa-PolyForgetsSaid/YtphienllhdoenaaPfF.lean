/- The functions of Go that are reached, as functions of plain values. -/
import Derived.Test.YtphienllhdoenaaJ3
namespace Go.Fo
def bank_New (_K : Nat) : Option (Unit) :=
  some ()
def bank_Bank_may (_K : Nat) (p0 : Bool) (_p1 : List (Option (List (Int)))) (_p2 : Int) (_p3 : Int) : Option ((Unit) ⊕ (Unit)) :=
  bif (!p0) then
    some (.inl ())
  else
    some (.inr ())
def sync_atomic_Bool_Load (_K : Nat) (_p0 : List (Option (List (Int)))) (_p1 : List (Option (List (Int)))) (_p2 : Int) (_p3 : Int) : Option (Unit) :=
  some ()
def wave_modulo (_K : Nat) (p0 : Int) (p1 : Int) : Option (Int) :=
  let v2 := (Int.tmod p0 p1)
  gd (p1 ≠ 0) <|
  let v3 := (decide (v2 < 0))
  (
    bif v3 then
      let v5 := (kwrap .i64 (v2 + p1))
      some v5
    else
      some v2 : Option (Int)).bind fun x4 =>
    some x4
def wave_height (K : Nat) (p0 : Int) (p1 : Int) : Option (Int × Int) :=
  (wave_modulo K p0 p1).bind fun r3 =>
  let v4 := (kwrap .i64 (4 * r3))
  let v5 := (kwrap .i64 (Int.tdiv v4 p1))
  gd (p1 ≠ 0) <|
  let v6 := (Int.tmod v4 p1)
  gd (p1 ≠ 0) <|
  let v7 := (kand .i64 v5 1)
  (
    bif (v7 == 1) then
      let v11 := (kwrap .i64 (p1 - v6))
      some v11
    else
      some v6 : Option (Int)).bind fun x8 =>
    let v9 := (kshl .u64 (kwrap .u64 x8) 30)
    let v10 := (kwrap .u64 (Int.tdiv v9 (kwrap .u64 p1)))
    gd ((kwrap .u64 p1) ≠ 0) <|
    some (v10, v5)
def fix_within_int (_K : Nat) (p0 : Int) (p1 : Int) (p2 : Int) : Option (Int) :=
  let v1 := (decide (p0 < p1))
  bif v1 then
    some p1
  else
    let v2 := (decide (p0 > p2))
    bif v2 then
      some p2
    else
      some p0
def fix_Round (K : Nat) (p0 : Int) (p1 : Int) : Option (Int) :=
  (fix_within_int K p1 0 62).bind fun r2 =>
  bif (r2 == 0) then
    some p0
  else
    let v3 := (kshr .i64 p0 r2)
    gd ((0 : Int) ≤ r2) <|
    let v4 := (kwrap .i64 (r2 - 1))
    let v5 := (kshr .i64 p0 v4)
    gd ((0 : Int) ≤ v4) <|
    let v6 := (kand .i64 v5 1)
    let v7 := (kwrap .i64 (v3 + v6))
    some v7
def fix_within_int64 (_K : Nat) (p0 : Int) (p1 : Int) (p2 : Int) : Option (Int) :=
  let v1 := (decide (p0 < p1))
  bif v1 then
    some p1
  else
    let v2 := (decide (p0 > p2))
    bif v2 then
      some p2
    else
      some p0
def fix_Clip (K : Nat) (p0 : Int) (p1 : Int) (p2 : Int) : Option (Int) :=
  (fix_within_int64 K p0 p1 p2).bind fun r2 =>
  some r2
def wave_sine.r0 (_K : Nat) (_c0 : Int) (_c1 : Int) (c2 : Int) (next : Int → Int → Option (Int)) (x27 : Int) (x28 : Int) : Option (Int) :=
  let v31 := (decide (x28 < 4))
  bif v31 then
    let v32 := (List.getD [5026995, 85569306, 693598668, 1686629713] (Int.toNat x28) 0)
    gd ((0 : Int) ≤ x28 ∧ x28 < 4) <|
    let v33 := (kwrap .u64 (x27 * c2))
    let v34 := (kshr .u64 v33 30)
    let v35 := (kwrap .u64 (v32 - v34))
    let v36 := (kwrap .i64 (x28 + 1))
    next v35 v36
  else
    some x27
def wave_sine.l0 (K : Nat) (c0 : Int) (c1 : Int) (c2 : Int) (n : Nat) : Int → Int → Option (Int) := rounds (wave_sine.r0 K c0 c1 c2) (fun _ _ => none) n
def wave_sine (K : Nat) (p0 : Int) (p1 : Int) : Option (Int) :=
  (wave_height K p0 p1).bind fun (r11, r12) =>
  let v13 := (kwrap .u64 (r11 * r11))
  let v14 := (kshr .u64 v13 30)
  (wave_sine.l0 K r11 r12 v14 K 172272 0 : Option (Int)).bind fun x19 =>
    let v20 := (kwrap .u64 (x19 * r11))
    let v21 := (kshr .u64 v20 30)
    let v22 := (kwrap .i64 v21)
    (fix_Round K v22 15).bind fun r23 =>
    (fix_Clip K r23 0 32767).bind fun r24 =>
    let v25 := (decide (r12 ≥ 2))
    (
      bif v25 then
        some ((kwrap .i64 (0 - r24)))
      else
        some r24 : Option (Int)).bind fun x26 =>
      some (kwrap .i16 x26)
def wave_Sine (K : Nat) (p0 : Int) (p1 : Int) : Option (Int × Int) :=
  let v2 := (decide (p1 < 1))
  let v3 := (decide (p1 > 1048576))
  let v4 := (bif v2 then true else v3)
  bif v4 then
    some (0, 1)
  else
    (wave_sine K p0 p1).bind fun r5 =>
    some (r5, 0)
def wave_Cosine (K : Nat) (p0 : Int) (p1 : Int) : Option (Int × Int) :=
  let v3 := (decide (p1 < 1))
  let v4 := (decide (p1 > 1048576))
  let v5 := (bif v3 then true else v4)
  bif v5 then
    some (0, 1)
  else
    (wave_modulo K p0 p1).bind fun r6 =>
    let v7 := (kwrap .i64 (4 * r6))
    let v8 := (kwrap .i64 (v7 + p1))
    let v9 := (kwrap .i64 (4 * p1))
    (wave_sine K v8 v9).bind fun r10 =>
    some (r10, 0)
def fix_Sat16 (K : Nat) (p0 : Int) : Option (Int) :=
  (fix_within_int64 K p0 (-32768) 32767).bind fun r2 =>
  some (kwrap .i16 r2)
def bank_filtered (K : Nat) (p0 : Int) (p1 : Int) : Option (Int) :=
  let v11 := (kwrap .i64 (5 * p0))
  let v12 := (kwrap .i64 (p1 - v11))
  (
    bif (v12 != 0) then
      let v32 := (kwrap .i64 (3 * v12))
      let v33 := (kwrap .i64 (10 * p0))
      (wave_Sine K v32 v33).bind fun (r34, _r35) =>
      let v36 := (kwrap .i64 (565 * p0))
      let v37 := (kwrap .i64 ((kwrap .i64 r34) * v36))
      let v38 := (kwrap .i64 (1065 * v12))
      let v39 := (kwrap .i64 (Int.tdiv v37 v38))
      gd (v38 ≠ 0) <|
      some v39
    else
      some 32768 : Option (Int)).bind fun x15 =>
    let v16 := (kwrap .i64 (10 * p0))
    (wave_Cosine K p1 v16).bind fun (r17, _r18) =>
    let v19 := (kwrap .i64 (2 * p1))
    (wave_Cosine K v19 v16).bind fun (r20, _r21) =>
    let v22 := (kwrap .i64 (50 * (kwrap .i64 r17)))
    let v23 := (kwrap .i64 (1376256 - v22))
    let v24 := (kwrap .i64 (8 * (kwrap .i64 r20)))
    let v25 := (kwrap .i64 (v23 + v24))
    let v26 := (kwrap .i64 (Int.tdiv v25 100))
    let v27 := (kwrap .i64 (x15 * v26))
    (fix_Round K v27 15).bind fun r28 =>
    let v29 := (kwrap .i64 (r28 * 19708))
    (fix_Round K v29 15).bind fun r30 =>
    (fix_Sat16 K r30).bind fun r31 =>
    some r31
def bank_Bank_Filter_1 (K : Nat) (p0 : Int) (p1 : Int) : Option (Int) :=
  (bank_filtered K p1 p0).bind fun r2 =>
  some r2
def sync_atomic_Int64_Add (_K : Nat) (p0 : Int) (p1 : List (Option (List (Int)))) (_p2 : List (Int)) (p3 : List (Option (List (Int)))) (p4 : Int) (_p5 : Int) : Option (Int) :=
  gd (p1.length + p3.length = 387) <|
  some (kwrap .i64 (p4 + p0))
def bank_Bank_tell_1.r0 (K : Nat) (c0 : Int) (_c1 : List (Option (List (Int)))) (_c2 : List (Option (List (Int)))) (_c3 : Int) (_c4 : Int) (_c5 : Int) (c6 : Int) (next : Int → List (Int) → Option ((List (Int)))) (x25 : Int) (x26 : List (Int)) : Option ((List (Int))) :=
  let v31 := (decide (x25 < c0))
  bif v31 then
    (bank_Bank_Filter_1 K x25 c6).bind fun r33 =>
    gd ((0 : Int) ≤ x25 ∧ x25 < (x26.length : Int)) <|
    let v34 := (List.set x26 (Int.toNat x25) r33)
    gd ((Int.toNat x25) < x26.length) <|
    let v35 := (kwrap .i64 (x25 + 1))
    next v35 v34
  else
    some x26
def bank_Bank_tell_1.l0 (K : Nat) (c0 : Int) (c1 : List (Option (List (Int)))) (c2 : List (Option (List (Int)))) (c3 : Int) (c4 : Int) (c5 : Int) (c6 : Int) (n : Nat) : Int → List (Int) → Option ((List (Int))) := rounds (bank_Bank_tell_1.r0 K c0 c1 c2 c3 c4 c5 c6) (fun _ _ => none) n
def bank_Bank_tell_1 (K : Nat) (p0 : List (Option (List (Int)))) (p1 : List (Option (List (Int)))) (p2 : Int) (p3 : Int) (p4 : Int) (p5 : Int) : Option ((List (Int)) × Int) :=
  let v11 := (List.replicate (Int.toNat p4) (0 : Int))
  gd ((0 : Int) ≤ p4 ∧ p4 ≤ p4 ∧ p4 * 2 ≤ 140737488355328) <|
  let v12 := (v11.length : Int)
  (bank_Bank_tell_1.l0 K v12 p0 p1 p2 p3 p4 p5 K 0 v11 : Option ((List (Int)))).bind fun x21 =>
    (sync_atomic_Int64_Add K 1 p0 x21 p1 p2 p3).bind fun r22 =>
    some (x21, r22)
def sync_Once_doSlow (K : Nat) (p0 : List (Option (List (Int)))) (p1 : List (Option (List (Int)))) (p2 : Int) (p3 : Int) (p4 : Int) (p5 : Int) : Option ((List (Int)) × Int) :=
  bank_Bank_tell_1 K p0 p1 p2 p3 p4 p5
def sync_Once_Do (K : Nat) (p0 : List (Option (List (Int)))) (p1 : List (Option (List (Int)))) (p2 : Int) (p3 : Int) (p4 : Int) (p5 : Int) : Option ((List (Int)) × Int) :=
  (sync_atomic_Bool_Load K p0 p1 p2 p3).bind fun _ =>
  (sync_Once_doSlow K p0 p1 p2 p3 p4 p5).bind fun (r3, r4) =>
  some (r3, r4)
def sync_atomic_Int64_Add_2 (_K : Nat) (p0 : Int) (p1 : List (Option (List (Int)))) (_p2 : List (Int)) (p3 : List (Option (List (Int)))) (_p4 : Int) (p5 : Int) : Option (Int) :=
  gd (p1.length + p3.length = 387) <|
  some (kwrap .i64 (p5 + p0))
def slices_Clone_int16_int16 (_K : Nat) (p0 : List (Int)) : Option ((List (Int))) :=
  gd (p0 ≠ []) <|
  let v1 := (([] : List (Int)) ++ p0)
  gd (((([] : List (Int)).length : Int) + (p0.length : Int)) * 2 ≤ 70368744177664) <|
  some v1
def bank_Bank_tell (K : Nat) (t0 : List (Option (List (Int)))) (t1 : List (Option (List (Int)))) (p1 : Int) (p3 : Int) (p4 : Int) (p5 : Int) : Option ((List (Int)) × (List (Int)) × Int × Int) :=
  (sync_Once_Do K t0 t1 p3 p4 p1 p5).bind fun (r5, r6) =>
  (sync_atomic_Int64_Add_2 K 1 t0 r5 t1 r6 p4).bind fun r7 =>
  (slices_Clone_int16_int16 K r5).bind fun r8 =>
  some (r8, r5, r6, r7)
def sync_atomic_Bool_Load_2 (_K : Nat) (_p0 : List (Option (List (Int)))) (_p1 : List (Int)) (_p2 : List (Option (List (Int)))) (_p3 : Int) (_p4 : Int) : Option (Unit) :=
  some ()
def sync_Once_Do_2 (K : Nat) (p0 : List (Option (List (Int)))) (p1 : List (Int)) (p2 : List (Option (List (Int)))) (p3 : Int) (p4 : Int) (_p5 : Int) (_p6 : Int) : Option (Unit) :=
  (sync_atomic_Bool_Load_2 K p0 p1 p2 p3 p4).bind fun _ =>
  some ()
def bank_Bank_tell_2 (K : Nat) (t0 : List (Option (List (Int)))) (t1 : List (Option (List (Int)))) (l : List (Int)) (p1 : Int) (p3 : Int) (p4 : Int) (p5 : Int) : Option ((List (Int)) × Int) :=
  (sync_Once_Do_2 K t0 l t1 p3 p4 p1 p5).bind fun _ =>
  (sync_atomic_Int64_Add_2 K 1 t0 l t1 p3 p4).bind fun r3 =>
  (slices_Clone_int16_int16 K l).bind fun r4 =>
  some (r4, r3)
def bank_Bank_tell_3 (K : Nat) (p0 : Nat) (p1 : Int) (p2 : List (Option (List (Int)))) (p3 : Int) (p4 : Int) (p5 : Int) : Option ((List (Int)) × (List (Option (List (Int)))) × Int × Int) :=
  gd (p2.length = 388 ∧ p0 = p0 / 4 * 4 ∧ p0 / 4 < 388) <|
  match p2[p0 / 4]? with
  | some none => (bank_Bank_tell K (p2.take (p0 / 4)) (p2.drop ((p0 / 4) + 1)) p1 p3 p4 p5).bind fun (q0', q1', q2', q3') => some (q0', (p2.take (p0 / 4) ++ some q1' :: p2.drop ((p0 / 4) + 1)), q2', q3')
  | some (some l) => (bank_Bank_tell_2 K (p2.take (p0 / 4)) (p2.drop ((p0 / 4) + 1)) l p1 p3 p4 p5).bind fun (q0', q1') => some (q0', p2, p3, q1')
  | none => none
def bank_Bank_Filter (K : Nat) (p0 : Int) (p1 : List (Option (List (Int)))) (p2 : Int) (p3 : Int) : Option ((Unit) ⊕ ((List (Int)) × (List (Option (List (Int)))) × Int × Int)) :=
  let v5 := (bif (p0 == 4) then true else (p0 == 8))
  (bank_Bank_may K v5 p1 p2 p3).bind fun z => match z with
  | .inl _ =>
    some (.inl ())
  | .inr _ =>
    let v6 := (kwrap .i64 (Int.tdiv p0 8))
    let v7 := (1544 + (Int.toNat v6) * 4)
    gd ((0 : Int) ≤ v6 ∧ v6 < 2) <|
    let v8 := (kwrap .i64 (10 * p0))
    (bank_Bank_tell_3 K v7 v8 p1 p2 p3 p0).bind fun (r9, r10, r11, r12) =>
    some (.inr (r9, r10, r11, r12))
def bank_Bank_Turn_1 (K : Nat) (p0 : Int) (p1 : Int) : Option (Int) :=
  (wave_Cosine K p0 p1).bind fun (r3, _r4) =>
  some r3
def bank_Bank_tell_1_2.r0 (K : Nat) (c0 : Int) (_c1 : List (Option (List (Int)))) (_c2 : List (Option (List (Int)))) (_c3 : Int) (_c4 : Int) (_c5 : Int) (c6 : Int) (next : Int → List (Int) → Option ((List (Int)))) (x25 : Int) (x26 : List (Int)) : Option ((List (Int))) :=
  let v31 := (decide (x25 < c0))
  bif v31 then
    (bank_Bank_Turn_1 K x25 c6).bind fun r33 =>
    gd ((0 : Int) ≤ x25 ∧ x25 < (x26.length : Int)) <|
    let v34 := (List.set x26 (Int.toNat x25) r33)
    gd ((Int.toNat x25) < x26.length) <|
    let v35 := (kwrap .i64 (x25 + 1))
    next v35 v34
  else
    some x26
def bank_Bank_tell_1_2.l0 (K : Nat) (c0 : Int) (c1 : List (Option (List (Int)))) (c2 : List (Option (List (Int)))) (c3 : Int) (c4 : Int) (c5 : Int) (c6 : Int) (n : Nat) : Int → List (Int) → Option ((List (Int))) := rounds (bank_Bank_tell_1_2.r0 K c0 c1 c2 c3 c4 c5 c6) (fun _ _ => none) n
def bank_Bank_tell_1_2 (K : Nat) (p0 : List (Option (List (Int)))) (p1 : List (Option (List (Int)))) (p2 : Int) (p3 : Int) (p4 : Int) (p5 : Int) : Option ((List (Int)) × Int) :=
  let v11 := (List.replicate (Int.toNat p4) (0 : Int))
  gd ((0 : Int) ≤ p4 ∧ p4 ≤ p4 ∧ p4 * 2 ≤ 140737488355328) <|
  let v12 := (v11.length : Int)
  (bank_Bank_tell_1_2.l0 K v12 p0 p1 p2 p3 p4 p5 K 0 v11 : Option ((List (Int)))).bind fun x21 =>
    (sync_atomic_Int64_Add K 1 p0 x21 p1 p2 p3).bind fun r22 =>
    some (x21, r22)
def sync_Once_doSlow_2 (K : Nat) (p0 : List (Option (List (Int)))) (p1 : List (Option (List (Int)))) (p2 : Int) (p3 : Int) (p4 : Int) (p5 : Int) : Option ((List (Int)) × Int) :=
  bank_Bank_tell_1_2 K p0 p1 p2 p3 p4 p5
def sync_Once_Do_3 (K : Nat) (p0 : List (Option (List (Int)))) (p1 : List (Option (List (Int)))) (p2 : Int) (p3 : Int) (p4 : Int) (p5 : Int) : Option ((List (Int)) × Int) :=
  (sync_atomic_Bool_Load K p0 p1 p2 p3).bind fun _ =>
  (sync_Once_doSlow_2 K p0 p1 p2 p3 p4 p5).bind fun (r3, r4) =>
  some (r3, r4)
def bank_Bank_tell_4 (K : Nat) (t0 : List (Option (List (Int)))) (t1 : List (Option (List (Int)))) (p1 : Int) (p3 : Int) (p4 : Int) (p5 : Int) : Option ((List (Int)) × (List (Int)) × Int × Int) :=
  (sync_Once_Do_3 K t0 t1 p3 p4 p1 p5).bind fun (r5, r6) =>
  (sync_atomic_Int64_Add_2 K 1 t0 r5 t1 r6 p4).bind fun r7 =>
  (slices_Clone_int16_int16 K r5).bind fun r8 =>
  some (r8, r5, r6, r7)
def sync_Once_Do_4 (K : Nat) (p0 : List (Option (List (Int)))) (p1 : List (Int)) (p2 : List (Option (List (Int)))) (p3 : Int) (p4 : Int) (_p5 : Int) (_p6 : Int) : Option (Unit) :=
  (sync_atomic_Bool_Load_2 K p0 p1 p2 p3 p4).bind fun _ =>
  some ()
def bank_Bank_tell_5 (K : Nat) (t0 : List (Option (List (Int)))) (t1 : List (Option (List (Int)))) (l : List (Int)) (p1 : Int) (p3 : Int) (p4 : Int) (p5 : Int) : Option ((List (Int)) × Int) :=
  (sync_Once_Do_4 K t0 l t1 p3 p4 p1 p5).bind fun _ =>
  (sync_atomic_Int64_Add_2 K 1 t0 l t1 p3 p4).bind fun r3 =>
  (slices_Clone_int16_int16 K l).bind fun r4 =>
  some (r4, r3)
def bank_Bank_tell_6 (K : Nat) (p0 : Nat) (p1 : Int) (p2 : List (Option (List (Int)))) (p3 : Int) (p4 : Int) (p5 : Int) : Option ((List (Int)) × (List (Option (List (Int)))) × Int × Int) :=
  gd (p2.length = 388 ∧ p0 = p0 / 4 * 4 ∧ p0 / 4 < 388) <|
  match p2[p0 / 4]? with
  | some none => (bank_Bank_tell_4 K (p2.take (p0 / 4)) (p2.drop ((p0 / 4) + 1)) p1 p3 p4 p5).bind fun (q0', q1', q2', q3') => some (q0', (p2.take (p0 / 4) ++ some q1' :: p2.drop ((p0 / 4) + 1)), q2', q3')
  | some (some l) => (bank_Bank_tell_5 K (p2.take (p0 / 4)) (p2.drop ((p0 / 4) + 1)) l p1 p3 p4 p5).bind fun (q0', q1') => some (q0', p2, p3, q1')
  | none => none
def bank_Bank_Turn (K : Nat) (p0 : Int) (p1 : List (Option (List (Int)))) (p2 : Int) (p3 : Int) : Option ((Unit) ⊕ ((List (Int)) × (List (Option (List (Int)))) × Int × Int)) :=
  let v5 := (decide (p0 ≥ 4))
  let v6 := (decide (p0 ≤ 1024))
  let v7 := (bif v5 then v6 else false)
  let v8 := (Int.tmod p0 4)
  let v9 := (bif v7 then (v8 == 0) else false)
  (bank_Bank_may K v9 p1 p2 p3).bind fun z => match z with
  | .inl _ =>
    some (.inl ())
  | .inr _ =>
    let v10 := (kwrap .i64 (Int.tdiv p0 4))
    let v11 := (0 + (Int.toNat v10) * 4)
    gd ((0 : Int) ≤ v10 ∧ v10 < 257) <|
    (bank_Bank_tell_6 K v11 p0 p1 p2 p3 p0).bind fun (r12, r13, r14, r15) =>
    some (.inr (r12, r13, r14, r15))
def poly_tables (K : Nat) (p0 : Int) (p1 : List (Option (List (Int)))) (p2 : Int) (p3 : Int) : Option ((Unit) ⊕ ((List (Int)) × (List (Option (List (Int)))) × Int × Int) ⊕ ((List (Int)) × (List (Int)) × (List (Option (List (Int)))) × Int × Int)) :=
  (bank_Bank_Filter K p0 p1 p2 p3).bind fun z => match z with
  | .inl _ =>
    some (.inl ())
  | .inr (r9, r10, r11, r12) =>
    let v13 := (kwrap .i64 (8 * p0))
    (bank_Bank_Turn K v13 r10 r11 r12).bind fun z => match z with
    | .inl _ =>
      some (.inr (.inl (r9, r10, r11, r12)))
    | .inr (r14, r15, r16, r17) =>
      some (.inr (.inr (r9, r14, r15, r16, r17)))
def poly_NewSplitter (K : Nat) (p0 : Int) (p1 : List (Option (List (Int)))) (p2 : Int) (p3 : Int) : Option (((List (Option (List (Int)))) × Int × Int) ⊕ ((List (Option (List (Int)))) × Int × Int × (List (Int)) × (List (Int)) × (List (Int)))) :=
  (poly_tables K p0 p1 p2 p3).bind fun z => match z with
  | .inl _ =>
    some (.inl (p1, p2, p3))
  | .inr (.inl (_r10, r11, r12, r13)) =>
    some (.inl (r11, r12, r13))
  | .inr (.inr (r14, r15, r16, r17, r18)) =>
    let v19 := (kwrap .i64 (10 * p0))
    let v20 := (List.replicate (Int.toNat v19) (0 : Int))
    gd ((0 : Int) ≤ v19 ∧ v19 ≤ v19 ∧ v19 * 8 ≤ 140737488355328) <|
    some (.inr (r16, r17, r18, r14, r15, v20))
def fix_Sat32 (K : Nat) (p0 : Int) : Option (Int) :=
  (fix_within_int64 K p0 (-2147483648) 2147483647).bind fun r2 =>
  some (kwrap .i32 r2)
def poly_rounded (K : Nat) (p0 : Int) (p1 : Int) : Option (Int) :=
  (fix_Round K p0 p1).bind fun r3 =>
  (fix_Sat32 K r3).bind fun r4 =>
  some (kwrap .i64 r4)
def poly_bands_wave (_K : Nat) (p0 : Int) (p1 : Int) (p2 : Int) (_p3 : List (Int)) (p4 : List (Int)) (_p5 : List (Int)) : Option (Int) :=
  let v1 := (kwrap .i64 (8 * p2))
  let v2 := (kwrap .i64 (p0 * p1))
  let v3 := (Int.tmod v2 v1)
  gd (v1 ≠ 0) <|
  let v4 := (kwrap .i64 (v3 + v1))
  let v5 := (Int.tmod v4 v1)
  gd (v1 ≠ 0) <|
  let v6 := (Kd.nth (.int .i16) p4 (Int.toNat v5))
  gd ((0 : Int) ≤ v5 ∧ v5 < (p4.length : Int)) <|
  let v7 := (kwrap .i64 v6)
  some v7
def poly_Splitter_Feed.r1 (K : Nat) (c0 : Int) (_c1 : Int) (c2 : Int) (c3 : Int) (c4 : List (Int)) (c5 : List (Int)) (c6 : List (Int)) (c7 : List (Int)) (_c8 : List (Int)) (next : Int → Int → Option (Int)) (x237 : Int) (x238 : Int) : Option (Int) :=
  let v243 := (decide (x238 < c2))
  bif v243 then
    let v245 := (Kd.nth (.int .i64) c7 (Int.toNat x238))
    gd ((0 : Int) ≤ x238 ∧ x238 < (c7.length : Int) ∧ (Int.toNat x238) < c7.length) <|
    let v246 := (kwrap .i64 (2 * c0))
    let v247 := (kwrap .i64 (v246 + 1))
    let v248 := (kwrap .i64 (2 * x238))
    let v249 := (kwrap .i64 (v248 - c3))
    (poly_bands_wave K v247 v249 c3 c4 c5 c6).bind fun r250 =>
    let v251 := (kwrap .i64 (v245 * r250))
    let v252 := (kwrap .i64 (x237 + v251))
    let v253 := (kwrap .i64 (x238 + 1))
    next v252 v253
  else
    some x237
def poly_Splitter_Feed.l1 (K : Nat) (c0 : Int) (c1 : Int) (c2 : Int) (c3 : Int) (c4 : List (Int)) (c5 : List (Int)) (c6 : List (Int)) (c7 : List (Int)) (c8 : List (Int)) (n : Nat) : Int → Int → Option (Int) := rounds (poly_Splitter_Feed.r1 K c0 c1 c2 c3 c4 c5 c6 c7 c8) (fun _ _ => none) n
def poly_Splitter_Feed.r0 (K : Nat) (c0 : Int) (c1 : Int) (c2 : List (Int)) (c3 : List (Int)) (c4 : List (Int)) (c5 : List (Int)) (next : Int → List (Int) → Option ((List (Int)))) (x186 : Int) (x187 : List (Int)) : Option ((List (Int))) :=
  let v210 := (decide (x186 < c0))
  bif v210 then
    (poly_Splitter_Feed.l1 K x186 c0 (c5.length : Int) c1 c2 c3 c4 c5 x187 K 0 0 : Option (Int)).bind fun x229 =>
      let v230 := (kwrap .i64 (Int.tdiv c1 4))
      let v231 := (kwrap .i64 (16 + v230))
      (poly_rounded K x229 v231).bind fun r232 =>
      let v233 := (List.set x187 (Int.toNat x186) (kwrap .i32 r232))
      gd ((0 : Int) ≤ x186 ∧ x186 < (x187.length : Int) ∧ (Int.toNat x186) < x187.length) <|
      let v234 := (kwrap .i64 (x186 + 1))
      next v234 v233
  else
    some x187
def poly_Splitter_Feed.l0 (K : Nat) (c0 : Int) (c1 : Int) (c2 : List (Int)) (c3 : List (Int)) (c4 : List (Int)) (c5 : List (Int)) (n : Nat) : Int → List (Int) → Option ((List (Int))) := rounds (poly_Splitter_Feed.r0 K c0 c1 c2 c3 c4 c5) (fun _ _ => none) n
def poly_Splitter_Feed.r3 (_K : Nat) (c0 : Int) (_c1 : Int) (c2 : Int) (c3 : List (Int)) (_c4 : List (Int)) (c5 : List (Int)) (_c6 : List (Int)) (next : Int → Int → Option (Int)) (x297 : Int) (x298 : Int) : Option (Int) :=
  let v301 := (decide (x298 < 5))
  bif v301 then
    let v302 := (kwrap .i64 (2 * c2))
    let v303 := (kwrap .i64 (v302 * x298))
    let v304 := (kwrap .i64 (c0 + v303))
    let v305 := (Int.toNat v304)
    gd ((0 : Int) ≤ v304 ∧ v304 < (c5.length : Int)) <|
    let v306 := (Kd.nth (.int .i64) c5 v305)
    gd (v305 < c5.length) <|
    let v307 := (Kd.nth (.int .i16) c3 v305)
    gd ((0 : Int) ≤ v304 ∧ v304 < (c3.length : Int)) <|
    let v308 := (kwrap .i64 v307)
    let v309 := (kwrap .i64 (v306 * v308))
    let v310 := (kwrap .i64 (v309 - x297))
    let v311 := (kwrap .i64 (x298 + 1))
    next v310 v311
  else
    some x297
def poly_Splitter_Feed.l3 (K : Nat) (c0 : Int) (c1 : Int) (c2 : Int) (c3 : List (Int)) (c4 : List (Int)) (c5 : List (Int)) (c6 : List (Int)) (n : Nat) : Int → Int → Option (Int) := rounds (poly_Splitter_Feed.r3 K c0 c1 c2 c3 c4 c5 c6) (fun _ _ => none) n
def poly_Splitter_Feed.r2 (K : Nat) (c0 : Int) (c1 : Int) (c2 : List (Int)) (c3 : List (Int)) (c4 : List (Int)) (next : Int → List (Int) → Option ((List (Int)))) (x266 : Int) (x267 : List (Int)) : Option ((List (Int))) :=
  let v282 := (decide (x266 < c0))
  bif v282 then
    (poly_Splitter_Feed.l3 K x266 c0 c1 c2 c3 c4 x267 K 0 0 : Option (Int)).bind fun x293 =>
      (poly_rounded K (kwrap .i64 (0 - x293)) 14).bind fun r294 =>
      let v295 := (List.set x267 (Int.toNat x266) r294)
      gd ((0 : Int) ≤ x266 ∧ x266 < (x267.length : Int) ∧ (Int.toNat x266) < x267.length) <|
      let v296 := (kwrap .i64 (x266 + 1))
      next v296 v295
  else
    some x267
def poly_Splitter_Feed.l2 (K : Nat) (c0 : Int) (c1 : Int) (c2 : List (Int)) (c3 : List (Int)) (c4 : List (Int)) (n : Nat) : Int → List (Int) → Option ((List (Int))) := rounds (poly_Splitter_Feed.r2 K c0 c1 c2 c3 c4) (fun _ _ => none) n
def poly_Splitter_Feed.r4 (_K : Nat) (c0 : List (Int)) (c1 : Int) (c2 : Int) (_c3 : List (Int)) (_c4 : List (Int)) (next : Int → List (Int) → Option ((List (Int)))) (x312 : Int) (x313 : List (Int)) : Option ((List (Int))) :=
  let v316 := (decide (x312 < c1))
  bif v316 then
    let v317 := (Kd.nth (.int .i16) c0 (Int.toNat x312))
    gd ((0 : Int) ≤ x312 ∧ x312 < (c0.length : Int)) <|
    let v318 := (kwrap .i64 (c2 - 1))
    let v319 := (kwrap .i64 (v318 - x312))
    let v320 := (kwrap .i64 v317)
    let v321 := (Int.toNat v319)
    gd ((0 : Int) ≤ v319 ∧ v319 < (x313.length : Int)) <|
    let v322 := (List.set x313 v321 v320)
    gd (v321 < x313.length) <|
    let v323 := (kwrap .i64 (x312 + 1))
    next v323 v322
  else
    some x313
def poly_Splitter_Feed.l4 (K : Nat) (c0 : List (Int)) (c1 : Int) (c2 : Int) (c3 : List (Int)) (c4 : List (Int)) (n : Nat) : Int → List (Int) → Option ((List (Int))) := rounds (poly_Splitter_Feed.r4 K c0 c1 c2 c3 c4) (fun _ _ => none) n
def poly_Splitter_Feed (K : Nat) (p0 : List (Int)) (p1 : Int) (p2 : List (Int)) (p3 : List (Int)) (p4 : List (Int)) : Option ((Unit) ⊕ ((List (Int)) × (List (Int)))) :=
  let v80 := ((p0.length : Int) != p1)
  bif v80 then
    some (.inl ())
  else
    gd ((0 : Int) ≤ p1 ∧ p1 < (p4.length : Int)) <|
    let v81 := (cpy (Int.toNat p1) p4 p4)
    gd ((Int.toNat p1) < p4.length) <|
    (poly_Splitter_Feed.l4 K p0 (p0.length : Int) p1 p2 p3 K 0 v81 : Option ((List (Int)))).bind fun x86 =>
      let v87 := (kwrap .i64 (2 * p1))
      let v88 := (List.replicate (Int.toNat v87) (0 : Int))
      gd ((0 : Int) ≤ v87 ∧ v87 ≤ v87 ∧ v87 * 8 ≤ 140737488355328) <|
      let v89 := (v88.length : Int)
      (poly_Splitter_Feed.l2 K v89 p1 p2 p3 x86 K 0 v88 : Option ((List (Int)))).bind fun x118 =>
        let v119 := (List.replicate (Int.toNat p1) (0 : Int))
        gd ((0 : Int) ≤ p1 ∧ p1 ≤ p1 ∧ p1 * 4 ≤ 140737488355328) <|
        let v120 := (v119.length : Int)
        (poly_Splitter_Feed.l0 K v120 p1 p2 p3 x86 x118 K 0 v119 : Option ((List (Int)))).bind fun x165 =>
          some (.inr (x165, x86))
def psalteryref08_Same32.r0 (_K : Nat) (c0 : List (Int)) (c1 : List (Int)) (next : Int → Option ((Unit) ⊕ (Bool))) (x6 : Int) : Option ((Unit) ⊕ (Bool)) :=
  let v8 := (decide (x6 < (c0.length : Int)))
  bif v8 then
    let v9 := (Kd.nth (.int .i32) c0 (Int.toNat x6))
    gd ((0 : Int) ≤ x6 ∧ x6 < (c0.length : Int)) <|
    let v10 := (Kd.nth (.int .i32) c1 (Int.toNat x6))
    gd ((0 : Int) ≤ x6 ∧ x6 < (c1.length : Int)) <|
    bif (v9 != v10) then
      some (.inr false)
    else
      let v11 := (kwrap .i64 (x6 + 1))
      next v11
  else
    some (.inl ())
def psalteryref08_Same32.l0 (K : Nat) (c0 : List (Int)) (c1 : List (Int)) (n : Nat) : Int → Option ((Unit) ⊕ (Bool)) := rounds (psalteryref08_Same32.r0 K c0 c1) (fun _ => none) n
def psalteryref08_Same32 (K : Nat) (p0 : List (Int)) (p1 : List (Int)) : Option (Bool) :=
  let v3 := ((p0.length : Int) != (p1.length : Int))
  bif v3 then
    some false
  else
    (psalteryref08_Same32.l0 K p0 p1 K 0 : Option ((Unit) ⊕ (Bool))).bind fun z => match z with
    | .inl _ =>
      some true
    | .inr r =>
      some r
def psalterylaw08_alive (K : Nat)  : Option (Bool) :=
  (bank_New K ).bind fun _ =>
  (poly_NewSplitter K 4 (List.replicate 388 none) 0 0).bind fun z => match z with
  | .inl (_r20, _r21, _r22) =>
    none
  | .inr (_r23, _r24, _r25, r26, r27, r28) =>
    (poly_Splitter_Feed K (List.replicate 4 (0 : Int)) 4 r26 r27 r28).bind fun z => match z with
    | .inl _ =>
      (poly_Splitter_Feed K (List.replicate 5 (0 : Int)) 4 r26 r27 r28).bind fun z => match z with
      | .inl _ =>
        some false
      | .inr (_r31, _r32) =>
        some false
    | .inr (r29, r30) =>
      (poly_Splitter_Feed K (List.replicate 5 (0 : Int)) 4 r26 r27 r30).bind fun z => match z with
      | .inl _ =>
        (psalteryref08_Same32 K r29 (List.replicate 4 (0 : Int))).bind fun r36 =>
        let v37 := (bif r36 then true else false)
        some v37
      | .inr (_r33, _r34) =>
        (psalteryref08_Same32 K r29 (List.replicate 4 (0 : Int))).bind fun r39 =>
        let v40 := (bif r39 then false else false)
        some v40
def poly_NewJoiner (K : Nat) (p0 : Int) (p1 : List (Option (List (Int)))) (p2 : Int) (p3 : Int) : Option (((List (Option (List (Int)))) × Int × Int) ⊕ ((List (Option (List (Int)))) × Int × Int × (List (Int)) × (List (Int)) × (List (Int)))) :=
  (poly_tables K p0 p1 p2 p3).bind fun z => match z with
  | .inl _ =>
    some (.inl (p1, p2, p3))
  | .inr (.inl (_r10, r11, r12, r13)) =>
    some (.inl (r11, r12, r13))
  | .inr (.inr (r14, r15, r16, r17, r18)) =>
    let v19 := (kwrap .i64 (20 * p0))
    let v20 := (List.replicate (Int.toNat v19) (0 : Int))
    gd ((0 : Int) ≤ v19 ∧ v19 ≤ v19 ∧ v19 * 8 ≤ 140737488355328) <|
    some (.inr (r16, r17, r18, r14, r15, v20))
def psalterylaw08_cut_int16.r0 (_K : Nat) (c0 : List (Int)) (c1 : Int) (next : Int → List (List (Int)) → Option ((List (List (Int))))) (x11 : Int) (x12 : List (List (Int))) : Option ((List (List (Int)))) :=
  let v15 := (kwrap .i64 (x11 + c1))
  let v16 := (decide (v15 ≤ (c0.length : Int)))
  bif v16 then
    let v17 := ((c0.take (Int.toNat v15)).drop (Int.toNat x11))
    let v18 := (([] : List (Int)) ++ v17)
    gd ((0 : Int) ≤ x11 ∧ x11 ≤ v15 ∧ v15 ≤ (c0.length : Int) ∧ ((([] : List (Int)).length : Int) + (v17.length : Int)) * 2 ≤ 70368744177664) <|
    let v19 := (x12 ++ [v18])
    gd (((x12.length : Int) + ([v18].length : Int)) * 24 ≤ 70368744177664) <|
    next v15 v19
  else
    some x12
def psalterylaw08_cut_int16.l0 (K : Nat) (c0 : List (Int)) (c1 : Int) (n : Nat) : Int → List (List (Int)) → Option ((List (List (Int)))) := rounds (psalterylaw08_cut_int16.r0 K c0 c1) (fun _ _ => none) n
def psalterylaw08_cut_int16 (K : Nat) (p0 : List (Int)) (p1 : Int) : Option ((List (List (Int)))) :=
  (psalterylaw08_cut_int16.l0 K p0 p1 K 0 ([] : List (List (Int))) : Option ((List (List (Int))))).bind fun x10 =>
    some x10
def poly_Joiner_Feed.r1 (_K : Nat) (c0 : Int) (c1 : Int) (_c2 : Int) (c3 : List (Int)) (_c4 : List (Int)) (c5 : List (Int)) (_c6 : List (Int)) (next : Int → Int → Option (Int)) (x139 : Int) (x140 : Int) : Option (Int) :=
  let v143 := (decide (x140 < 5))
  bif v143 then
    let v144 := (kwrap .i64 (4 * c0))
    let v145 := (kwrap .i64 (v144 * x140))
    let v146 := (kwrap .i64 (v145 + c1))
    let v147 := (Int.toNat v146)
    gd ((0 : Int) ≤ v146 ∧ v146 < (c5.length : Int)) <|
    let v148 := (Kd.nth (.int .i64) c5 v147)
    gd (v147 < c5.length) <|
    let v149 := (kwrap .i64 (2 * c0))
    let v150 := (kwrap .i64 (v149 * x140))
    let v151 := (kwrap .i64 (v150 + c1))
    let v152 := (Kd.nth (.int .i16) c3 (Int.toNat v151))
    gd ((0 : Int) ≤ v151 ∧ v151 < (c3.length : Int)) <|
    let v153 := (kwrap .i64 v152)
    let v154 := (kwrap .i64 (v148 * v153))
    let v155 := (kwrap .i64 (3 * c0))
    let v156 := (kwrap .i64 (v145 + v155))
    let v157 := (kwrap .i64 (v156 + c1))
    let v158 := (Int.toNat v157)
    gd ((0 : Int) ≤ v157 ∧ v157 < (c5.length : Int)) <|
    let v159 := (Kd.nth (.int .i64) c5 v158)
    gd (v158 < c5.length) <|
    let v160 := (kwrap .i64 (v150 + c0))
    let v161 := (kwrap .i64 (v160 + c1))
    let v162 := (Kd.nth (.int .i16) c3 (Int.toNat v161))
    gd ((0 : Int) ≤ v161 ∧ v161 < (c3.length : Int)) <|
    let v163 := (kwrap .i64 v162)
    let v164 := (kwrap .i64 (v159 * v163))
    let v165 := (kwrap .i64 (v154 + v164))
    let v166 := (kwrap .i64 (v165 - x139))
    let v167 := (kwrap .i64 (x140 + 1))
    next v166 v167
  else
    some x139
def poly_Joiner_Feed.l1 (K : Nat) (c0 : Int) (c1 : Int) (c2 : Int) (c3 : List (Int)) (c4 : List (Int)) (c5 : List (Int)) (c6 : List (Int)) (n : Nat) : Int → Int → Option (Int) := rounds (poly_Joiner_Feed.r1 K c0 c1 c2 c3 c4 c5 c6) (fun _ _ => none) n
def poly_Joiner_Feed.r0 (K : Nat) (c0 : Int) (c1 : Int) (c2 : List (Int)) (c3 : List (Int)) (c4 : List (Int)) (next : Int → List (Int) → Option ((List (Int)))) (x104 : Int) (x105 : List (Int)) : Option ((List (Int))) :=
  let v122 := (decide (x104 < c1))
  bif v122 then
    (poly_Joiner_Feed.l1 K c0 x104 c1 c2 c3 c4 x105 K 0 0 : Option (Int)).bind fun x134 =>
      (fix_Round K x134 14).bind fun r135 =>
      (fix_Sat16 K r135).bind fun r136 =>
      let v137 := (List.set x105 (Int.toNat x104) r136)
      gd ((0 : Int) ≤ x104 ∧ x104 < (x105.length : Int) ∧ (Int.toNat x104) < x105.length) <|
      let v138 := (kwrap .i64 (x104 + 1))
      next v138 v137
  else
    some x105
def poly_Joiner_Feed.l0 (K : Nat) (c0 : Int) (c1 : Int) (c2 : List (Int)) (c3 : List (Int)) (c4 : List (Int)) (n : Nat) : Int → List (Int) → Option ((List (Int))) := rounds (poly_Joiner_Feed.r0 K c0 c1 c2 c3 c4) (fun _ _ => none) n
def poly_Joiner_Feed.r3 (_K : Nat) (_c0 : Int) (_c1 : Int) (_c2 : Int) (_c3 : List (Int)) (_c4 : List (Int)) (_c5 : List (Int)) (_next : Option (Unit))  : Option (Unit) :=
  some ()
def poly_Joiner_Feed.l3 (K : Nat) (c0 : Int) (c1 : Int) (c2 : Int) (c3 : List (Int)) (c4 : List (Int)) (c5 : List (Int)) (n : Nat) : Option (Unit) := rounds (poly_Joiner_Feed.r3 K c0 c1 c2 c3 c4 c5) (none) n
def poly_Joiner_Feed.r2 (K : Nat) (c0 : Int) (c1 : Int) (c2 : List (Int)) (c3 : List (Int)) (next : Int → List (Int) → Option ((List (Int)))) (x170 : Int) (x171 : List (Int)) : Option ((List (Int))) :=
  let v176 := (decide (x170 < c1))
  bif v176 then
    (poly_Joiner_Feed.l3 K c0 x170 c1 c2 c3 x171 K  : Option (Unit)).bind fun _ =>
      (poly_rounded K 0 15).bind fun r178 =>
      gd ((0 : Int) ≤ x170 ∧ x170 < (x171.length : Int)) <|
      let v179 := (List.set x171 (Int.toNat x170) r178)
      gd ((Int.toNat x170) < x171.length) <|
      let v180 := (kwrap .i64 (x170 + 1))
      next v180 v179
  else
    some x171
def poly_Joiner_Feed.l2 (K : Nat) (c0 : Int) (c1 : Int) (c2 : List (Int)) (c3 : List (Int)) (n : Nat) : Int → List (Int) → Option ((List (Int))) := rounds (poly_Joiner_Feed.r2 K c0 c1 c2 c3) (fun _ _ => none) n
def poly_Joiner_Feed (K : Nat) (p0 : Int) (p1 : List (Int)) (p2 : List (Int)) (p3 : List (Int)) : Option ((Unit) ⊕ ((List (Int)) × (List (Int)))) :=
  bif (0 != p0) then
    some (.inl ())
  else
    let v43 := (kwrap .i64 (2 * p0))
    let v44 := (Int.toNat v43)
    gd ((0 : Int) ≤ v43 ∧ v43 < (p3.length : Int)) <|
    let v45 := (cpy v44 p3 p3)
    gd (v44 < p3.length) <|
    (poly_Joiner_Feed.l2 K p0 v43 p1 p2 K 0 v45 : Option ((List (Int)))).bind fun x54 =>
      let v55 := (List.replicate (Int.toNat p0) (0 : Int))
      gd ((0 : Int) ≤ p0 ∧ p0 ≤ p0 ∧ p0 * 2 ≤ 140737488355328) <|
      let v56 := (v55.length : Int)
      (poly_Joiner_Feed.l0 K p0 v56 p1 p2 x54 K 0 v55 : Option ((List (Int)))).bind fun x89 =>
        some (.inr (x89, x54))
def poly_Joiner_Feed_2.r1 (_K : Nat) (c0 : Int) (c1 : Int) (_c2 : Int) (c3 : List (Int)) (_c4 : List (Int)) (c5 : List (Int)) (_c6 : List (Int)) (next : Int → Int → Option (Int)) (x212 : Int) (x213 : Int) : Option (Int) :=
  let v216 := (decide (x213 < 5))
  bif v216 then
    let v217 := (kwrap .i64 (4 * c0))
    let v218 := (kwrap .i64 (v217 * x213))
    let v219 := (kwrap .i64 (v218 + c1))
    let v220 := (Int.toNat v219)
    gd ((0 : Int) ≤ v219 ∧ v219 < (c5.length : Int)) <|
    let v221 := (Kd.nth (.int .i64) c5 v220)
    gd (v220 < c5.length) <|
    let v222 := (kwrap .i64 (2 * c0))
    let v223 := (kwrap .i64 (v222 * x213))
    let v224 := (kwrap .i64 (v223 + c1))
    let v225 := (Kd.nth (.int .i16) c3 (Int.toNat v224))
    gd ((0 : Int) ≤ v224 ∧ v224 < (c3.length : Int)) <|
    let v226 := (kwrap .i64 v225)
    let v227 := (kwrap .i64 (v221 * v226))
    let v228 := (kwrap .i64 (3 * c0))
    let v229 := (kwrap .i64 (v218 + v228))
    let v230 := (kwrap .i64 (v229 + c1))
    let v231 := (Int.toNat v230)
    gd ((0 : Int) ≤ v230 ∧ v230 < (c5.length : Int)) <|
    let v232 := (Kd.nth (.int .i64) c5 v231)
    gd (v231 < c5.length) <|
    let v233 := (kwrap .i64 (v223 + c0))
    let v234 := (kwrap .i64 (v233 + c1))
    let v235 := (Kd.nth (.int .i16) c3 (Int.toNat v234))
    gd ((0 : Int) ≤ v234 ∧ v234 < (c3.length : Int)) <|
    let v236 := (kwrap .i64 v235)
    let v237 := (kwrap .i64 (v232 * v236))
    let v238 := (kwrap .i64 (v227 + v237))
    let v239 := (kwrap .i64 (v238 - x212))
    let v240 := (kwrap .i64 (x213 + 1))
    next v239 v240
  else
    some x212
def poly_Joiner_Feed_2.l1 (K : Nat) (c0 : Int) (c1 : Int) (c2 : Int) (c3 : List (Int)) (c4 : List (Int)) (c5 : List (Int)) (c6 : List (Int)) (n : Nat) : Int → Int → Option (Int) := rounds (poly_Joiner_Feed_2.r1 K c0 c1 c2 c3 c4 c5 c6) (fun _ _ => none) n
def poly_Joiner_Feed_2.r0 (K : Nat) (c0 : Int) (c1 : Int) (c2 : List (Int)) (c3 : List (Int)) (c4 : List (Int)) (next : Int → List (Int) → Option ((List (Int)))) (x177 : Int) (x178 : List (Int)) : Option ((List (Int))) :=
  let v195 := (decide (x177 < c1))
  bif v195 then
    (poly_Joiner_Feed_2.l1 K c0 x177 c1 c2 c3 c4 x178 K 0 0 : Option (Int)).bind fun x207 =>
      (fix_Round K x207 14).bind fun r208 =>
      (fix_Sat16 K r208).bind fun r209 =>
      let v210 := (List.set x178 (Int.toNat x177) r209)
      gd ((0 : Int) ≤ x177 ∧ x177 < (x178.length : Int) ∧ (Int.toNat x177) < x178.length) <|
      let v211 := (kwrap .i64 (x177 + 1))
      next v211 v210
  else
    some x178
def poly_Joiner_Feed_2.l0 (K : Nat) (c0 : Int) (c1 : Int) (c2 : List (Int)) (c3 : List (Int)) (c4 : List (Int)) (n : Nat) : Int → List (Int) → Option ((List (Int))) := rounds (poly_Joiner_Feed_2.r0 K c0 c1 c2 c3 c4) (fun _ _ => none) n
def poly_Joiner_Feed_2.r3 (K : Nat) (c0 : List (Int)) (c1 : Int) (c2 : Int) (_c3 : Int) (c4 : Int) (c5 : List (Int)) (c6 : List (Int)) (c7 : List (Int)) (next : Int → Int → Option (Int)) (x310 : Int) (x311 : Int) : Option (Int) :=
  let v316 := (decide (x311 < c4))
  bif v316 then
    let v318 := (Kd.nth (.int .i32) c0 (Int.toNat x311))
    gd ((0 : Int) ≤ x311 ∧ x311 < (c0.length : Int)) <|
    let v319 := (kwrap .i64 v318)
    let v320 := (kwrap .i64 (2 * x311))
    let v321 := (kwrap .i64 (v320 + 1))
    let v322 := (kwrap .i64 (2 * c2))
    let v323 := (kwrap .i64 (v322 + c1))
    (poly_bands_wave K v321 v323 c1 c5 c6 c7).bind fun r324 =>
    let v325 := (kwrap .i64 (v319 * r324))
    let v326 := (kwrap .i64 (x310 + v325))
    let v327 := (kwrap .i64 (x311 + 1))
    next v326 v327
  else
    some x310
def poly_Joiner_Feed_2.l3 (K : Nat) (c0 : List (Int)) (c1 : Int) (c2 : Int) (c3 : Int) (c4 : Int) (c5 : List (Int)) (c6 : List (Int)) (c7 : List (Int)) (n : Nat) : Int → Int → Option (Int) := rounds (poly_Joiner_Feed_2.r3 K c0 c1 c2 c3 c4 c5 c6 c7) (fun _ _ => none) n
def poly_Joiner_Feed_2.r2 (K : Nat) (c0 : List (Int)) (c1 : Int) (c2 : Int) (c3 : List (Int)) (c4 : List (Int)) (next : Int → List (Int) → Option ((List (Int)))) (x261 : Int) (x262 : List (Int)) : Option ((List (Int))) :=
  let v285 := (decide (x261 < c2))
  bif v285 then
    (poly_Joiner_Feed_2.l3 K c0 c1 x261 c2 (c0.length : Int) c3 c4 x262 K 0 0 : Option (Int)).bind fun x304 =>
      (poly_rounded K x304 15).bind fun r305 =>
      gd ((0 : Int) ≤ x261 ∧ x261 < (x262.length : Int)) <|
      let v306 := (List.set x262 (Int.toNat x261) r305)
      gd ((Int.toNat x261) < x262.length) <|
      let v307 := (kwrap .i64 (x261 + 1))
      next v307 v306
  else
    some x262
def poly_Joiner_Feed_2.l2 (K : Nat) (c0 : List (Int)) (c1 : Int) (c2 : Int) (c3 : List (Int)) (c4 : List (Int)) (n : Nat) : Int → List (Int) → Option ((List (Int))) := rounds (poly_Joiner_Feed_2.r2 K c0 c1 c2 c3 c4) (fun _ _ => none) n
def poly_Joiner_Feed_2 (K : Nat) (p0 : List (Int)) (p1 : Int) (p2 : List (Int)) (p3 : List (Int)) (p4 : List (Int)) : Option ((Unit) ⊕ ((List (Int)) × (List (Int)))) :=
  let v79 := ((p0.length : Int) != p1)
  bif v79 then
    some (.inl ())
  else
    let v80 := (kwrap .i64 (2 * p1))
    let v81 := (Int.toNat v80)
    gd ((0 : Int) ≤ v80 ∧ v80 < (p4.length : Int)) <|
    let v82 := (cpy v81 p4 p4)
    gd (v81 < p4.length) <|
    (poly_Joiner_Feed_2.l2 K p0 p1 v80 p2 p3 K 0 v82 : Option ((List (Int)))).bind fun x127 =>
      let v128 := (List.replicate (Int.toNat p1) (0 : Int))
      gd ((0 : Int) ≤ p1 ∧ p1 ≤ p1 ∧ p1 * 2 ≤ 140737488355328) <|
      let v129 := (v128.length : Int)
      (poly_Joiner_Feed_2.l0 K p1 v129 p2 p3 x127 K 0 v128 : Option ((List (Int)))).bind fun x162 =>
        some (.inr (x162, x127))
def poly_Splitter_Reset (_K : Nat) (_p0 : Int) (_p1 : List (Int)) (_p2 : List (Int)) (p3 : List (Int)) : Option ((List (Int))) :=
  some (List.replicate p3.length (0 : Int))
def poly_Joiner_Reset (_K : Nat) (_p0 : Int) (_p1 : List (Int)) (_p2 : List (Int)) (p3 : List (Int)) : Option ((List (Int))) :=
  some (List.replicate p3.length (0 : Int))
def psalteryref04_Same.r0 (_K : Nat)  (_next : Option (Unit))  : Option (Unit) :=
  some ()
def psalteryref04_Same.l0 (K : Nat)  (n : Nat) : Option (Unit) := rounds (psalteryref04_Same.r0 K) (none) n
def psalteryref04_Same (K : Nat)  : Option (Unit) :=
  (psalteryref04_Same.l0 K K  : Option (Unit)).bind fun _ =>
    some ()
def psalteryref04_Same_2.r0 (_K : Nat) (_c0 : List (Int)) (_next : Option (Unit))  : Option (Unit) :=
  some ()
def psalteryref04_Same_2.l0 (K : Nat) (c0 : List (Int)) (n : Nat) : Option (Unit) := rounds (psalteryref04_Same_2.r0 K c0) (none) n
def psalteryref04_Same_2 (K : Nat) (p0 : List (Int)) : Option (Bool) :=
  let v1 := (0 != (p0.length : Int))
  bif v1 then
    some false
  else
    (psalteryref04_Same_2.l0 K p0 K  : Option (Unit)).bind fun _ =>
      some true
def psalteryref04_Same_3.r0 (_K : Nat) (c0 : List (Int)) (_next : Option (Unit))  : Option (Unit) :=
  let v2 := (decide (0 < (c0.length : Int)))
  bif v2 then
    gd (0 < (c0.length : Int)) <|
    none
  else
    some ()
def psalteryref04_Same_3.l0 (K : Nat) (c0 : List (Int)) (n : Nat) : Option (Unit) := rounds (psalteryref04_Same_3.r0 K c0) (none) n
def psalteryref04_Same_3 (K : Nat) (p0 : List (Int)) : Option (Bool) :=
  let v1 := ((p0.length : Int) != 0)
  bif v1 then
    some false
  else
    (psalteryref04_Same_3.l0 K p0 K  : Option (Unit)).bind fun _ =>
      some true
def psalteryref04_Same_4.r0 (_K : Nat) (c0 : List (Int)) (c1 : List (Int)) (next : Int → Option ((Unit) ⊕ (Bool))) (x6 : Int) : Option ((Unit) ⊕ (Bool)) :=
  let v8 := (decide (x6 < (c0.length : Int)))
  bif v8 then
    let v9 := (Kd.nth (.int .i16) c0 (Int.toNat x6))
    gd ((0 : Int) ≤ x6 ∧ x6 < (c0.length : Int)) <|
    let v10 := (Kd.nth (.int .i16) c1 (Int.toNat x6))
    gd ((0 : Int) ≤ x6 ∧ x6 < (c1.length : Int)) <|
    bif (v9 != v10) then
      some (.inr false)
    else
      let v11 := (kwrap .i64 (x6 + 1))
      next v11
  else
    some (.inl ())
def psalteryref04_Same_4.l0 (K : Nat) (c0 : List (Int)) (c1 : List (Int)) (n : Nat) : Int → Option ((Unit) ⊕ (Bool)) := rounds (psalteryref04_Same_4.r0 K c0 c1) (fun _ => none) n
def psalteryref04_Same_4 (K : Nat) (p0 : List (Int)) (p1 : List (Int)) : Option (Bool) :=
  let v3 := ((p0.length : Int) != (p1.length : Int))
  bif v3 then
    some false
  else
    (psalteryref04_Same_4.l0 K p0 p1 K 0 : Option ((Unit) ⊕ (Bool))).bind fun z => match z with
    | .inl _ =>
      some true
    | .inr r =>
      some r
def psalterylaw08_PolyForgets.r0 (K : Nat) (c0 : Int) (c1 : List (List (Int))) (c2 : Int) (c3 : List (Int)) (c4 : List (Int)) (c5 : List (Int)) (c6 : List (Int)) (c7 : List (Int)) (c8 : List (Int)) (c9 : List (Int)) (c10 : List (Int)) (next : Int → List (Int) → List (Int) → List (Int) → List (Int) → Option ((Unit) ⊕ (Bool))) (x370 : Int) (x371 : List (Int)) (x372 : List (Int)) (x373 : List (Int)) (x374 : List (Int)) : Option ((Unit) ⊕ (Bool)) :=
  let v409 := (decide (x370 < c2))
  bif v409 then
    (
      let v440 := (Kd.nth (.slice (.int .i16)) c1 (Int.toNat x370))
      gd ((0 : Int) ≤ x370 ∧ x370 < (c1.length : Int)) <|
      (poly_Splitter_Feed K v440 c0 c3 c4 x371).bind fun z => match z with
      | .inl _ =>
        (poly_Splitter_Feed K v440 c0 c5 c6 x372).bind fun z => match z with
        | .inl _ =>
          some (.inr false)
        | .inr (_r443, _r444) =>
          some (.inr false)
      | .inr (r441, r442) =>
        (poly_Splitter_Feed K v440 c0 c5 c6 x372).bind fun z => match z with
        | .inl _ =>
          some (.inr false)
        | .inr (r445, r446) =>
          (psalteryref08_Same32 K r441 r445).bind fun r448 =>
          bif (!r448) then
            some (.inr false)
          else
            (poly_Joiner_Feed_2 K r441 c0 c7 c8 x373).bind fun z => match z with
            | .inl _ =>
              (poly_Joiner_Feed_2 K r441 c0 c9 c10 x374).bind fun z => match z with
              | .inl _ =>
                (
                  bif (0 != c0) then
                    some true
                  else
                    (psalteryref04_Same K ).bind fun _ =>
                    some false : Option (Bool)).bind fun x453 =>
                  bif x453 then
                    some (.inr false)
                  else
                    some (.inl (r441, r445, r448, (!r448), r442, r446, x373, x374))
              | .inr (r451, r452) =>
                (
                  bif (0 != c0) then
                    some true
                  else
                    (psalteryref04_Same_2 K r451).bind fun r456 =>
                    some (!r456) : Option (Bool)).bind fun x455 =>
                  bif x455 then
                    some (.inr false)
                  else
                    some (.inl (r441, r445, r448, (!r448), r442, r446, x373, r452))
            | .inr (r449, r450) =>
              (poly_Joiner_Feed_2 K r441 c0 c9 c10 x374).bind fun z => match z with
              | .inl _ =>
                (
                  let v461 := ((r449.length : Int) != c0)
                  bif v461 then
                    some true
                  else
                    (psalteryref04_Same_3 K r449).bind fun r462 =>
                    some (!r462) : Option (Bool)).bind fun x460 =>
                  bif x460 then
                    some (.inr false)
                  else
                    some (.inl (r441, r445, r448, (!r448), r442, r446, r450, x374))
              | .inr (r457, r458) =>
                (
                  let v465 := ((r449.length : Int) != c0)
                  bif v465 then
                    some true
                  else
                    (psalteryref04_Same_4 K r449 r457).bind fun r466 =>
                    some (!r466) : Option (Bool)).bind fun x464 =>
                  bif x464 then
                    some (.inr false)
                  else
                    some (.inl (r441, r445, r448, (!r448), r442, r446, r450, r458)) : Option (((List (Int)) × (List (Int)) × Bool × Bool × (List (Int)) × (List (Int)) × (List (Int)) × (List (Int))) ⊕ (Bool))).bind fun z => match z with
    | .inl (x431, x432, x433, x434, x435, x436, x437, x438) =>
      let v439 := (kwrap .i64 (x370 + 1))
      next v439 x435 x436 x437 x438
    | .inr r =>
      some (.inr r)
  else
    some (.inl ())
def psalterylaw08_PolyForgets.l0 (K : Nat) (c0 : Int) (c1 : List (List (Int))) (c2 : Int) (c3 : List (Int)) (c4 : List (Int)) (c5 : List (Int)) (c6 : List (Int)) (c7 : List (Int)) (c8 : List (Int)) (c9 : List (Int)) (c10 : List (Int)) (n : Nat) : Int → List (Int) → List (Int) → List (Int) → List (Int) → Option ((Unit) ⊕ (Bool)) := rounds (psalterylaw08_PolyForgets.r0 K c0 c1 c2 c3 c4 c5 c6 c7 c8 c9 c10) (fun _ _ _ _ _ => none) n
def psalterylaw08_PolyForgets.r1 (K : Nat) (_c0 : List (Int)) (c1 : Int) (c2 : List (Int)) (c3 : List (Int)) (_c4 : List (Int)) (_c5 : List (Int)) (c6 : List (Int)) (c7 : List (Int)) (_c8 : List (Int)) (_c9 : List (Int)) (_c10 : List (Int)) (_c11 : List (Int)) (next : Int → List (Int) → List (Int) → Option (((List (Int)) × (List (Int))) ⊕ (Bool))) (x513 : Int) (x514 : List (Int)) (x515 : List (Int)) : Option (((List (Int)) × (List (Int))) ⊕ (Bool)) :=
  let v531 := (decide (x513 < 10))
  bif v531 then
    let v538 := (List.replicate (Int.toNat c1) (0 : Int))
    gd ((0 : Int) ≤ c1 ∧ c1 ≤ c1 ∧ c1 * 2 ≤ 140737488355328) <|
    (poly_Splitter_Feed K v538 c1 c2 c3 x514).bind fun z => match z with
    | .inl _ =>
      gd ((0 : Int) ≤ c1 ∧ c1 ≤ c1 ∧ c1 * 4 ≤ 140737488355328) <|
      (poly_Joiner_Feed_2 K v538 c1 c6 c7 x515).bind fun z => match z with
      | .inl _ =>
        some (.inr false)
      | .inr (_r541, _r542) =>
        some (.inr false)
    | .inr (r539, r540) =>
      gd ((0 : Int) ≤ c1 ∧ c1 ≤ c1 ∧ c1 * 4 ≤ 140737488355328) <|
      (poly_Joiner_Feed_2 K v538 c1 c6 c7 x515).bind fun z => match z with
      | .inl _ =>
        some (.inr false)
      | .inr (r543, r544) =>
        let v545 := ((r539.length : Int) != c1)
        let v546 := ((r543.length : Int) != c1)
        let v547 := (bif v545 then true else v546)
        bif v547 then
          some (.inr false)
        else
          let v548 := (kwrap .i64 (x513 + 1))
          next v548 r540 r544
  else
    some (.inl (x514, x515))
def psalterylaw08_PolyForgets.l1 (K : Nat) (c0 : List (Int)) (c1 : Int) (c2 : List (Int)) (c3 : List (Int)) (c4 : List (Int)) (c5 : List (Int)) (c6 : List (Int)) (c7 : List (Int)) (c8 : List (Int)) (c9 : List (Int)) (c10 : List (Int)) (c11 : List (Int)) (n : Nat) : Int → List (Int) → List (Int) → Option (((List (Int)) × (List (Int))) ⊕ (Bool)) := rounds (psalterylaw08_PolyForgets.r1 K c0 c1 c2 c3 c4 c5 c6 c7 c8 c9 c10 c11) (fun _ _ _ => none) n
def psalterylaw08_PolyForgets.r2 (K : Nat) (_c0 : List (Int)) (_c1 : List (Int)) (c2 : Int) (c3 : List (List (Int))) (c4 : Int) (c5 : List (Int)) (c6 : List (Int)) (_c7 : List (Int)) (_c8 : List (Int)) (c9 : List (Int)) (c10 : List (Int)) (_c11 : List (Int)) (_c12 : List (Int)) (_c13 : List (Int)) (_c14 : List (Int)) (next : Int → List (Int) → List (Int) → Option ((List (Int)) × (List (Int)))) (x557 : Int) (x558 : List (Int)) (x559 : List (Int)) : Option ((List (Int)) × (List (Int))) :=
  let v571 := (decide (x557 < c4))
  bif v571 then
    (
      let v581 := (Kd.nth (.slice (.int .i16)) c3 (Int.toNat x557))
      gd ((0 : Int) ≤ x557 ∧ x557 < (c3.length : Int)) <|
      (poly_Splitter_Feed K v581 c2 c5 c6 x558).bind fun z => match z with
      | .inl _ =>
        (poly_Joiner_Feed K c2 c9 c10 x559).bind fun z => match z with
        | .inl _ =>
          some (x558, x559)
        | .inr (_r584, r585) =>
          some (x558, r585)
      | .inr (r582, r583) =>
        (poly_Joiner_Feed_2 K r582 c2 c9 c10 x559).bind fun z => match z with
        | .inl _ =>
          some (r583, x559)
        | .inr (_r586, r587) =>
          some (r583, r587) : Option ((List (Int)) × (List (Int)))).bind fun (x578, x579) =>
      let v580 := (kwrap .i64 (x557 + 1))
      next v580 x578 x579
  else
    some (x558, x559)
def psalterylaw08_PolyForgets.l2 (K : Nat) (c0 : List (Int)) (c1 : List (Int)) (c2 : Int) (c3 : List (List (Int))) (c4 : Int) (c5 : List (Int)) (c6 : List (Int)) (c7 : List (Int)) (c8 : List (Int)) (c9 : List (Int)) (c10 : List (Int)) (c11 : List (Int)) (c12 : List (Int)) (c13 : List (Int)) (c14 : List (Int)) (n : Nat) : Int → List (Int) → List (Int) → Option ((List (Int)) × (List (Int))) := rounds (psalterylaw08_PolyForgets.r2 K c0 c1 c2 c3 c4 c5 c6 c7 c8 c9 c10 c11 c12 c13 c14) (fun _ _ _ => none) n
def psalterylaw08_PolyForgets (K : Nat) (p0 : Bool) (p1 : List (Int)) (p2 : List (Int)) : Option (Bool) :=
  (psalterylaw08_alive K ).bind fun r169 =>
  bif (!r169) then
    some false
  else
    let v170 := (decide ((p1.length : Int) > 300))
    let v171 := (decide ((p2.length : Int) > 100))
    let v172 := (bif v170 then true else v171)
    bif v172 then
      some true
    else
      (
        bif p0 then
          some 8
        else
          some 4 : Option (Int)).bind fun x173 =>
        (bank_New K ).bind fun _ =>
        (poly_NewSplitter K x173 (List.replicate 388 none) 0 0).bind fun z => match z with
        | .inl (_r174, _r175, _r176) =>
          none
        | .inr (_r177, _r178, _r179, r180, r181, r182) =>
          (bank_New K ).bind fun _ =>
          (poly_NewSplitter K x173 (List.replicate 388 none) 0 0).bind fun z => match z with
          | .inl (_r183, _r184, _r185) =>
            none
          | .inr (_r186, _r187, _r188, r189, r190, r191) =>
            (bank_New K ).bind fun _ =>
            (poly_NewJoiner K x173 (List.replicate 388 none) 0 0).bind fun z => match z with
            | .inl (_r192, _r193, _r194) =>
              none
            | .inr (_r195, _r196, _r197, r198, r199, r200) =>
              (bank_New K ).bind fun _ =>
              (poly_NewJoiner K x173 (List.replicate 388 none) 0 0).bind fun z => match z with
              | .inl (_r201, _r202, _r203) =>
                none
              | .inr (_r204, _r205, _r206, r207, r208, r209) =>
                (psalterylaw08_cut_int16 K p1 x173).bind fun r210 =>
                (psalterylaw08_PolyForgets.l2 K p1 p2 x173 r210 (r210.length : Int) r180 r181 r189 r190 r198 r199 r207 r208 r191 r209 K 0 r182 r200 : Option ((List (Int)) × (List (Int)))).bind fun (x233, x234) =>
                  let v235 := (Int.tmod (p1.length : Int) 2)
                  (
                    bif (v235 == 0) then
                      (poly_Splitter_Reset K x173 r180 r181 x233).bind fun r467 =>
                      (poly_Joiner_Reset K x173 r198 r199 x234).bind fun r468 =>
                      some (.inl (r467, r468))
                    else
                      (psalterylaw08_PolyForgets.l1 K p2 x173 r180 r181 r189 r190 r198 r199 r207 r208 r191 r209 K 0 x233 x234 : Option (((List (Int)) × (List (Int))) ⊕ (Bool))).bind fun z => match z with
                      | .inl (x499, x500) =>
                        some (.inl (x499, x500))
                      | .inr r =>
                        some (.inr r) : Option (((List (Int)) × (List (Int))) ⊕ (Bool))).bind fun z => match z with
                  | .inl (x270, x271) =>
                    (psalterylaw08_cut_int16 K p2 x173).bind fun r272 =>
                    (psalterylaw08_PolyForgets.l0 K x173 r272 (r272.length : Int) r180 r181 r189 r190 r198 r199 r207 r208 K 0 x270 r191 x271 r209 : Option ((Unit) ⊕ (Bool))).bind fun z => match z with
                    | .inl _ =>
                      some true
                    | .inr r =>
                      some r
                  | .inr r =>
                    some r
end Go.Fo
