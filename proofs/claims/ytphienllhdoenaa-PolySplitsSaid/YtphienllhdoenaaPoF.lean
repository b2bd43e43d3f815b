/- The functions of Go that are reached, as functions of plain values. -/
import Derived.Test.YtphienllhdoenaaJ3
namespace Go.Fo
def bank_New (_K : Nat) : Option (Unit) :=
  some ()
def bank_Bank_may (_K : Nat) (p0 : Bool) (_p1 : List (Option (List (Int)))) (_p2 : Int) (_p3 : Int) : Option ((Unit) ⊕ (Unit)) :=
  bif (!p0) then
    some (.inl ())
  else
    some (.inr ())
def sync_atomic_Bool_Load (_K : Nat) (_p0 : List (Option (List (Int)))) (_p1 : List (Option (List (Int)))) (_p2 : Int) (_p3 : Int) : Option (Unit) :=
  some ()
def wave_modulo (_K : Nat) (p0 : Int) (p1 : Int) : Option (Int) :=
  let v2 := (Int.tmod p0 p1)
  gd (p1 ≠ 0) <|
  let v3 := (decide (v2 < 0))
  (
    bif v3 then
      let v5 := (kwrap .i64 (v2 + p1))
      some v5
    else
      some v2 : Option (Int)).bind fun x4 =>
    some x4
def wave_height (K : Nat) (p0 : Int) (p1 : Int) : Option (Int × Int) :=
  (wave_modulo K p0 p1).bind fun r3 =>
  let v4 := (kwrap .i64 (4 * r3))
  let v5 := (kwrap .i64 (Int.tdiv v4 p1))
  gd (p1 ≠ 0) <|
  let v6 := (Int.tmod v4 p1)
  gd (p1 ≠ 0) <|
  let v7 := (kand .i64 v5 1)
  (
    bif (v7 == 1) then
      let v11 := (kwrap .i64 (p1 - v6))
      some v11
    else
      some v6 : Option (Int)).bind fun x8 =>
    let v9 := (kshl .u64 (kwrap .u64 x8) 30)
    let v10 := (kwrap .u64 (Int.tdiv v9 (kwrap .u64 p1)))
    gd ((kwrap .u64 p1) ≠ 0) <|
    some (v10, v5)
def fix_within_int (_K : Nat) (p0 : Int) (p1 : Int) (p2 : Int) : Option (Int) :=
  let v1 := (decide (p0 < p1))
  bif v1 then
    some p1
  else
    let v2 := (decide (p0 > p2))
    bif v2 then
      some p2
    else
      some p0
def fix_Round (K : Nat) (p0 : Int) (p1 : Int) : Option (Int) :=
  (fix_within_int K p1 0 62).bind fun r2 =>
  bif (r2 == 0) then
    some p0
  else
    let v3 := (kshr .i64 p0 r2)
    gd ((0 : Int) ≤ r2) <|
    let v4 := (kwrap .i64 (r2 - 1))
    let v5 := (kshr .i64 p0 v4)
    gd ((0 : Int) ≤ v4) <|
    let v6 := (kand .i64 v5 1)
    let v7 := (kwrap .i64 (v3 + v6))
    some v7
def fix_within_int64 (_K : Nat) (p0 : Int) (p1 : Int) (p2 : Int) : Option (Int) :=
  let v1 := (decide (p0 < p1))
  bif v1 then
    some p1
  else
    let v2 := (decide (p0 > p2))
    bif v2 then
      some p2
    else
      some p0
def fix_Clip (K : Nat) (p0 : Int) (p1 : Int) (p2 : Int) : Option (Int) :=
  (fix_within_int64 K p0 p1 p2).bind fun r2 =>
  some r2
def wave_sine.r0 (_K : Nat) (_c0 : Int) (_c1 : Int) (c2 : Int) (next : Int → Int → Option (Int)) (x27 : Int) (x28 : Int) : Option (Int) :=
  let v31 := (decide (x28 < 4))
  bif v31 then
    let v32 := (List.getD [5026995, 85569306, 693598668, 1686629713] (Int.toNat x28) 0)
    gd ((0 : Int) ≤ x28 ∧ x28 < 4) <|
    let v33 := (kwrap .u64 (x27 * c2))
    let v34 := (kshr .u64 v33 30)
    let v35 := (kwrap .u64 (v32 - v34))
    let v36 := (kwrap .i64 (x28 + 1))
    next v35 v36
  else
    some x27
def wave_sine.l0 (K : Nat) (c0 : Int) (c1 : Int) (c2 : Int) (n : Nat) : Int → Int → Option (Int) := rounds (wave_sine.r0 K c0 c1 c2) (fun _ _ => none) n
def wave_sine (K : Nat) (p0 : Int) (p1 : Int) : Option (Int) :=
  (wave_height K p0 p1).bind fun (r11, r12) =>
  let v13 := (kwrap .u64 (r11 * r11))
  let v14 := (kshr .u64 v13 30)
  (wave_sine.l0 K r11 r12 v14 K 172272 0 : Option (Int)).bind fun x19 =>
    let v20 := (kwrap .u64 (x19 * r11))
    let v21 := (kshr .u64 v20 30)
    let v22 := (kwrap .i64 v21)
    (fix_Round K v22 15).bind fun r23 =>
    (fix_Clip K r23 0 32767).bind fun r24 =>
    let v25 := (decide (r12 ≥ 2))
    (
      bif v25 then
        some ((kwrap .i64 (0 - r24)))
      else
        some r24 : Option (Int)).bind fun x26 =>
      some (kwrap .i16 x26)
def wave_Sine (K : Nat) (p0 : Int) (p1 : Int) : Option (Int × Int) :=
  let v2 := (decide (p1 < 1))
  let v3 := (decide (p1 > 1048576))
  let v4 := (bif v2 then true else v3)
  bif v4 then
    some (0, 1)
  else
    (wave_sine K p0 p1).bind fun r5 =>
    some (r5, 0)
def wave_Cosine (K : Nat) (p0 : Int) (p1 : Int) : Option (Int × Int) :=
  let v3 := (decide (p1 < 1))
  let v4 := (decide (p1 > 1048576))
  let v5 := (bif v3 then true else v4)
  bif v5 then
    some (0, 1)
  else
    (wave_modulo K p0 p1).bind fun r6 =>
    let v7 := (kwrap .i64 (4 * r6))
    let v8 := (kwrap .i64 (v7 + p1))
    let v9 := (kwrap .i64 (4 * p1))
    (wave_sine K v8 v9).bind fun r10 =>
    some (r10, 0)
def fix_Sat16 (K : Nat) (p0 : Int) : Option (Int) :=
  (fix_within_int64 K p0 (-32768) 32767).bind fun r2 =>
  some (kwrap .i16 r2)
def bank_filtered (K : Nat) (p0 : Int) (p1 : Int) : Option (Int) :=
  let v11 := (kwrap .i64 (5 * p0))
  let v12 := (kwrap .i64 (p1 - v11))
  (
    bif (v12 != 0) then
      let v32 := (kwrap .i64 (3 * v12))
      let v33 := (kwrap .i64 (10 * p0))
      (wave_Sine K v32 v33).bind fun (r34, _r35) =>
      let v36 := (kwrap .i64 (565 * p0))
      let v37 := (kwrap .i64 ((kwrap .i64 r34) * v36))
      let v38 := (kwrap .i64 (1065 * v12))
      let v39 := (kwrap .i64 (Int.tdiv v37 v38))
      gd (v38 ≠ 0) <|
      some v39
    else
      some 32768 : Option (Int)).bind fun x15 =>
    let v16 := (kwrap .i64 (10 * p0))
    (wave_Cosine K p1 v16).bind fun (r17, _r18) =>
    let v19 := (kwrap .i64 (2 * p1))
    (wave_Cosine K v19 v16).bind fun (r20, _r21) =>
    let v22 := (kwrap .i64 (50 * (kwrap .i64 r17)))
    let v23 := (kwrap .i64 (1376256 - v22))
    let v24 := (kwrap .i64 (8 * (kwrap .i64 r20)))
    let v25 := (kwrap .i64 (v23 + v24))
    let v26 := (kwrap .i64 (Int.tdiv v25 100))
    let v27 := (kwrap .i64 (x15 * v26))
    (fix_Round K v27 15).bind fun r28 =>
    let v29 := (kwrap .i64 (r28 * 19708))
    (fix_Round K v29 15).bind fun r30 =>
    (fix_Sat16 K r30).bind fun r31 =>
    some r31
def bank_Bank_Filter_1 (K : Nat) (p0 : Int) (p1 : Int) : Option (Int) :=
  (bank_filtered K p1 p0).bind fun r2 =>
  some r2
def sync_atomic_Int64_Add (_K : Nat) (p0 : Int) (p1 : List (Option (List (Int)))) (_p2 : List (Int)) (p3 : List (Option (List (Int)))) (p4 : Int) (_p5 : Int) : Option (Int) :=
  gd (p1.length + p3.length = 387) <|
  some (kwrap .i64 (p4 + p0))
def bank_Bank_tell_1.r0 (K : Nat) (c0 : Int) (_c1 : List (Option (List (Int)))) (_c2 : List (Option (List (Int)))) (_c3 : Int) (_c4 : Int) (_c5 : Int) (c6 : Int) (next : Int → List (Int) → Option ((List (Int)))) (x25 : Int) (x26 : List (Int)) : Option ((List (Int))) :=
  let v31 := (decide (x25 < c0))
  bif v31 then
    (bank_Bank_Filter_1 K x25 c6).bind fun r33 =>
    gd ((0 : Int) ≤ x25 ∧ x25 < (x26.length : Int)) <|
    let v34 := (List.set x26 (Int.toNat x25) r33)
    gd ((Int.toNat x25) < x26.length) <|
    let v35 := (kwrap .i64 (x25 + 1))
    next v35 v34
  else
    some x26
def bank_Bank_tell_1.l0 (K : Nat) (c0 : Int) (c1 : List (Option (List (Int)))) (c2 : List (Option (List (Int)))) (c3 : Int) (c4 : Int) (c5 : Int) (c6 : Int) (n : Nat) : Int → List (Int) → Option ((List (Int))) := rounds (bank_Bank_tell_1.r0 K c0 c1 c2 c3 c4 c5 c6) (fun _ _ => none) n
def bank_Bank_tell_1 (K : Nat) (p0 : List (Option (List (Int)))) (p1 : List (Option (List (Int)))) (p2 : Int) (p3 : Int) (p4 : Int) (p5 : Int) : Option ((List (Int)) × Int) :=
  let v11 := (List.replicate (Int.toNat p4) (0 : Int))
  gd ((0 : Int) ≤ p4 ∧ p4 ≤ p4 ∧ p4 * 2 ≤ 140737488355328) <|
  let v12 := (v11.length : Int)
  (bank_Bank_tell_1.l0 K v12 p0 p1 p2 p3 p4 p5 K 0 v11 : Option ((List (Int)))).bind fun x21 =>
    (sync_atomic_Int64_Add K 1 p0 x21 p1 p2 p3).bind fun r22 =>
    some (x21, r22)
def sync_Once_doSlow (K : Nat) (p0 : List (Option (List (Int)))) (p1 : List (Option (List (Int)))) (p2 : Int) (p3 : Int) (p4 : Int) (p5 : Int) : Option ((List (Int)) × Int) :=
  bank_Bank_tell_1 K p0 p1 p2 p3 p4 p5
def sync_Once_Do (K : Nat) (p0 : List (Option (List (Int)))) (p1 : List (Option (List (Int)))) (p2 : Int) (p3 : Int) (p4 : Int) (p5 : Int) : Option ((List (Int)) × Int) :=
  (sync_atomic_Bool_Load K p0 p1 p2 p3).bind fun _ =>
  (sync_Once_doSlow K p0 p1 p2 p3 p4 p5).bind fun (r3, r4) =>
  some (r3, r4)
def sync_atomic_Int64_Add_2 (_K : Nat) (p0 : Int) (p1 : List (Option (List (Int)))) (_p2 : List (Int)) (p3 : List (Option (List (Int)))) (_p4 : Int) (p5 : Int) : Option (Int) :=
  gd (p1.length + p3.length = 387) <|
  some (kwrap .i64 (p5 + p0))
def slices_Clone_int16_int16 (_K : Nat) (p0 : List (Int)) : Option ((List (Int))) :=
  gd (p0 ≠ []) <|
  let v1 := (([] : List (Int)) ++ p0)
  gd (((([] : List (Int)).length : Int) + (p0.length : Int)) * 2 ≤ 70368744177664) <|
  some v1
def bank_Bank_tell (K : Nat) (t0 : List (Option (List (Int)))) (t1 : List (Option (List (Int)))) (p1 : Int) (p3 : Int) (p4 : Int) (p5 : Int) : Option ((List (Int)) × (List (Int)) × Int × Int) :=
  (sync_Once_Do K t0 t1 p3 p4 p1 p5).bind fun (r5, r6) =>
  (sync_atomic_Int64_Add_2 K 1 t0 r5 t1 r6 p4).bind fun r7 =>
  (slices_Clone_int16_int16 K r5).bind fun r8 =>
  some (r8, r5, r6, r7)
def sync_atomic_Bool_Load_2 (_K : Nat) (_p0 : List (Option (List (Int)))) (_p1 : List (Int)) (_p2 : List (Option (List (Int)))) (_p3 : Int) (_p4 : Int) : Option (Unit) :=
  some ()
def sync_Once_Do_2 (K : Nat) (p0 : List (Option (List (Int)))) (p1 : List (Int)) (p2 : List (Option (List (Int)))) (p3 : Int) (p4 : Int) (_p5 : Int) (_p6 : Int) : Option (Unit) :=
  (sync_atomic_Bool_Load_2 K p0 p1 p2 p3 p4).bind fun _ =>
  some ()
def bank_Bank_tell_2 (K : Nat) (t0 : List (Option (List (Int)))) (t1 : List (Option (List (Int)))) (l : List (Int)) (p1 : Int) (p3 : Int) (p4 : Int) (p5 : Int) : Option ((List (Int)) × Int) :=
  (sync_Once_Do_2 K t0 l t1 p3 p4 p1 p5).bind fun _ =>
  (sync_atomic_Int64_Add_2 K 1 t0 l t1 p3 p4).bind fun r3 =>
  (slices_Clone_int16_int16 K l).bind fun r4 =>
  some (r4, r3)
def bank_Bank_tell_3 (K : Nat) (p0 : Nat) (p1 : Int) (p2 : List (Option (List (Int)))) (p3 : Int) (p4 : Int) (p5 : Int) : Option ((List (Int)) × (List (Option (List (Int)))) × Int × Int) :=
  gd (p2.length = 388 ∧ p0 = p0 / 4 * 4 ∧ p0 / 4 < 388) <|
  match p2[p0 / 4]? with
  | some none => (bank_Bank_tell K (p2.take (p0 / 4)) (p2.drop ((p0 / 4) + 1)) p1 p3 p4 p5).bind fun (q0', q1', q2', q3') => some (q0', (p2.take (p0 / 4) ++ some q1' :: p2.drop ((p0 / 4) + 1)), q2', q3')
  | some (some l) => (bank_Bank_tell_2 K (p2.take (p0 / 4)) (p2.drop ((p0 / 4) + 1)) l p1 p3 p4 p5).bind fun (q0', q1') => some (q0', p2, p3, q1')
  | none => none
def bank_Bank_Filter (K : Nat) (p0 : Int) (p1 : List (Option (List (Int)))) (p2 : Int) (p3 : Int) : Option ((Unit) ⊕ ((List (Int)) × (List (Option (List (Int)))) × Int × Int)) :=
  let v5 := (bif (p0 == 4) then true else (p0 == 8))
  (bank_Bank_may K v5 p1 p2 p3).bind fun z => match z with
  | .inl _ =>
    some (.inl ())
  | .inr _ =>
    let v6 := (kwrap .i64 (Int.tdiv p0 8))
    let v7 := (1544 + (Int.toNat v6) * 4)
    gd ((0 : Int) ≤ v6 ∧ v6 < 2) <|
    let v8 := (kwrap .i64 (10 * p0))
    (bank_Bank_tell_3 K v7 v8 p1 p2 p3 p0).bind fun (r9, r10, r11, r12) =>
    some (.inr (r9, r10, r11, r12))
def bank_Bank_Turn_1 (K : Nat) (p0 : Int) (p1 : Int) : Option (Int) :=
  (wave_Cosine K p0 p1).bind fun (r3, _r4) =>
  some r3
def bank_Bank_tell_1_2.r0 (K : Nat) (c0 : Int) (_c1 : List (Option (List (Int)))) (_c2 : List (Option (List (Int)))) (_c3 : Int) (_c4 : Int) (_c5 : Int) (c6 : Int) (next : Int → List (Int) → Option ((List (Int)))) (x25 : Int) (x26 : List (Int)) : Option ((List (Int))) :=
  let v31 := (decide (x25 < c0))
  bif v31 then
    (bank_Bank_Turn_1 K x25 c6).bind fun r33 =>
    gd ((0 : Int) ≤ x25 ∧ x25 < (x26.length : Int)) <|
    let v34 := (List.set x26 (Int.toNat x25) r33)
    gd ((Int.toNat x25) < x26.length) <|
    let v35 := (kwrap .i64 (x25 + 1))
    next v35 v34
  else
    some x26
def bank_Bank_tell_1_2.l0 (K : Nat) (c0 : Int) (c1 : List (Option (List (Int)))) (c2 : List (Option (List (Int)))) (c3 : Int) (c4 : Int) (c5 : Int) (c6 : Int) (n : Nat) : Int → List (Int) → Option ((List (Int))) := rounds (bank_Bank_tell_1_2.r0 K c0 c1 c2 c3 c4 c5 c6) (fun _ _ => none) n
def bank_Bank_tell_1_2 (K : Nat) (p0 : List (Option (List (Int)))) (p1 : List (Option (List (Int)))) (p2 : Int) (p3 : Int) (p4 : Int) (p5 : Int) : Option ((List (Int)) × Int) :=
  let v11 := (List.replicate (Int.toNat p4) (0 : Int))
  gd ((0 : Int) ≤ p4 ∧ p4 ≤ p4 ∧ p4 * 2 ≤ 140737488355328) <|
  let v12 := (v11.length : Int)
  (bank_Bank_tell_1_2.l0 K v12 p0 p1 p2 p3 p4 p5 K 0 v11 : Option ((List (Int)))).bind fun x21 =>
    (sync_atomic_Int64_Add K 1 p0 x21 p1 p2 p3).bind fun r22 =>
    some (x21, r22)
def sync_Once_doSlow_2 (K : Nat) (p0 : List (Option (List (Int)))) (p1 : List (Option (List (Int)))) (p2 : Int) (p3 : Int) (p4 : Int) (p5 : Int) : Option ((List (Int)) × Int) :=
  bank_Bank_tell_1_2 K p0 p1 p2 p3 p4 p5
def sync_Once_Do_3 (K : Nat) (p0 : List (Option (List (Int)))) (p1 : List (Option (List (Int)))) (p2 : Int) (p3 : Int) (p4 : Int) (p5 : Int) : Option ((List (Int)) × Int) :=
  (sync_atomic_Bool_Load K p0 p1 p2 p3).bind fun _ =>
  (sync_Once_doSlow_2 K p0 p1 p2 p3 p4 p5).bind fun (r3, r4) =>
  some (r3, r4)
def bank_Bank_tell_4 (K : Nat) (t0 : List (Option (List (Int)))) (t1 : List (Option (List (Int)))) (p1 : Int) (p3 : Int) (p4 : Int) (p5 : Int) : Option ((List (Int)) × (List (Int)) × Int × Int) :=
  (sync_Once_Do_3 K t0 t1 p3 p4 p1 p5).bind fun (r5, r6) =>
  (sync_atomic_Int64_Add_2 K 1 t0 r5 t1 r6 p4).bind fun r7 =>
  (slices_Clone_int16_int16 K r5).bind fun r8 =>
  some (r8, r5, r6, r7)
def sync_Once_Do_4 (K : Nat) (p0 : List (Option (List (Int)))) (p1 : List (Int)) (p2 : List (Option (List (Int)))) (p3 : Int) (p4 : Int) (_p5 : Int) (_p6 : Int) : Option (Unit) :=
  (sync_atomic_Bool_Load_2 K p0 p1 p2 p3 p4).bind fun _ =>
  some ()
def bank_Bank_tell_5 (K : Nat) (t0 : List (Option (List (Int)))) (t1 : List (Option (List (Int)))) (l : List (Int)) (p1 : Int) (p3 : Int) (p4 : Int) (p5 : Int) : Option ((List (Int)) × Int) :=
  (sync_Once_Do_4 K t0 l t1 p3 p4 p1 p5).bind fun _ =>
  (sync_atomic_Int64_Add_2 K 1 t0 l t1 p3 p4).bind fun r3 =>
  (slices_Clone_int16_int16 K l).bind fun r4 =>
  some (r4, r3)
def bank_Bank_tell_6 (K : Nat) (p0 : Nat) (p1 : Int) (p2 : List (Option (List (Int)))) (p3 : Int) (p4 : Int) (p5 : Int) : Option ((List (Int)) × (List (Option (List (Int)))) × Int × Int) :=
  gd (p2.length = 388 ∧ p0 = p0 / 4 * 4 ∧ p0 / 4 < 388) <|
  match p2[p0 / 4]? with
  | some none => (bank_Bank_tell_4 K (p2.take (p0 / 4)) (p2.drop ((p0 / 4) + 1)) p1 p3 p4 p5).bind fun (q0', q1', q2', q3') => some (q0', (p2.take (p0 / 4) ++ some q1' :: p2.drop ((p0 / 4) + 1)), q2', q3')
  | some (some l) => (bank_Bank_tell_5 K (p2.take (p0 / 4)) (p2.drop ((p0 / 4) + 1)) l p1 p3 p4 p5).bind fun (q0', q1') => some (q0', p2, p3, q1')
  | none => none
def bank_Bank_Turn (K : Nat) (p0 : Int) (p1 : List (Option (List (Int)))) (p2 : Int) (p3 : Int) : Option ((Unit) ⊕ ((List (Int)) × (List (Option (List (Int)))) × Int × Int)) :=
  let v5 := (decide (p0 ≥ 4))
  let v6 := (decide (p0 ≤ 1024))
  let v7 := (bif v5 then v6 else false)
  let v8 := (Int.tmod p0 4)
  let v9 := (bif v7 then (v8 == 0) else false)
  (bank_Bank_may K v9 p1 p2 p3).bind fun z => match z with
  | .inl _ =>
    some (.inl ())
  | .inr _ =>
    let v10 := (kwrap .i64 (Int.tdiv p0 4))
    let v11 := (0 + (Int.toNat v10) * 4)
    gd ((0 : Int) ≤ v10 ∧ v10 < 257) <|
    (bank_Bank_tell_6 K v11 p0 p1 p2 p3 p0).bind fun (r12, r13, r14, r15) =>
    some (.inr (r12, r13, r14, r15))
def poly_tables (K : Nat) (p0 : Int) (p1 : List (Option (List (Int)))) (p2 : Int) (p3 : Int) : Option ((Unit) ⊕ ((List (Int)) × (List (Option (List (Int)))) × Int × Int) ⊕ ((List (Int)) × (List (Int)) × (List (Option (List (Int)))) × Int × Int)) :=
  (bank_Bank_Filter K p0 p1 p2 p3).bind fun z => match z with
  | .inl _ =>
    some (.inl ())
  | .inr (r9, r10, r11, r12) =>
    let v13 := (kwrap .i64 (8 * p0))
    (bank_Bank_Turn K v13 r10 r11 r12).bind fun z => match z with
    | .inl _ =>
      some (.inr (.inl (r9, r10, r11, r12)))
    | .inr (r14, r15, r16, r17) =>
      some (.inr (.inr (r9, r14, r15, r16, r17)))
def poly_NewSplitter (K : Nat) (p0 : Int) (p1 : List (Option (List (Int)))) (p2 : Int) (p3 : Int) : Option (((List (Option (List (Int)))) × Int × Int) ⊕ ((List (Option (List (Int)))) × Int × Int × (List (Int)) × (List (Int)) × (List (Int)))) :=
  (poly_tables K p0 p1 p2 p3).bind fun z => match z with
  | .inl _ =>
    some (.inl (p1, p2, p3))
  | .inr (.inl (_r10, r11, r12, r13)) =>
    some (.inl (r11, r12, r13))
  | .inr (.inr (r14, r15, r16, r17, r18)) =>
    let v19 := (kwrap .i64 (10 * p0))
    let v20 := (List.replicate (Int.toNat v19) (0 : Int))
    gd ((0 : Int) ≤ v19 ∧ v19 ≤ v19 ∧ v19 * 8 ≤ 140737488355328) <|
    some (.inr (r16, r17, r18, r14, r15, v20))
def fix_Sat32 (K : Nat) (p0 : Int) : Option (Int) :=
  (fix_within_int64 K p0 (-2147483648) 2147483647).bind fun r2 =>
  some (kwrap .i32 r2)
def poly_rounded (K : Nat) (p0 : Int) (p1 : Int) : Option (Int) :=
  (fix_Round K p0 p1).bind fun r3 =>
  (fix_Sat32 K r3).bind fun r4 =>
  some (kwrap .i64 r4)
def poly_bands_wave (_K : Nat) (p0 : Int) (p1 : Int) (p2 : Int) (_p3 : List (Int)) (p4 : List (Int)) (_p5 : List (Int)) : Option (Int) :=
  let v1 := (kwrap .i64 (8 * p2))
  let v2 := (kwrap .i64 (p0 * p1))
  let v3 := (Int.tmod v2 v1)
  gd (v1 ≠ 0) <|
  let v4 := (kwrap .i64 (v3 + v1))
  let v5 := (Int.tmod v4 v1)
  gd (v1 ≠ 0) <|
  let v6 := (Kd.nth (.int .i16) p4 (Int.toNat v5))
  gd ((0 : Int) ≤ v5 ∧ v5 < (p4.length : Int)) <|
  let v7 := (kwrap .i64 v6)
  some v7
def poly_Splitter_Feed.r1 (K : Nat) (c0 : Int) (_c1 : Int) (c2 : Int) (c3 : Int) (c4 : List (Int)) (c5 : List (Int)) (c6 : List (Int)) (c7 : List (Int)) (_c8 : List (Int)) (next : Int → Int → Option (Int)) (x237 : Int) (x238 : Int) : Option (Int) :=
  let v243 := (decide (x238 < c2))
  bif v243 then
    let v245 := (Kd.nth (.int .i64) c7 (Int.toNat x238))
    gd ((0 : Int) ≤ x238 ∧ x238 < (c7.length : Int) ∧ (Int.toNat x238) < c7.length) <|
    let v246 := (kwrap .i64 (2 * c0))
    let v247 := (kwrap .i64 (v246 + 1))
    let v248 := (kwrap .i64 (2 * x238))
    let v249 := (kwrap .i64 (v248 - c3))
    (poly_bands_wave K v247 v249 c3 c4 c5 c6).bind fun r250 =>
    let v251 := (kwrap .i64 (v245 * r250))
    let v252 := (kwrap .i64 (x237 + v251))
    let v253 := (kwrap .i64 (x238 + 1))
    next v252 v253
  else
    some x237
def poly_Splitter_Feed.l1 (K : Nat) (c0 : Int) (c1 : Int) (c2 : Int) (c3 : Int) (c4 : List (Int)) (c5 : List (Int)) (c6 : List (Int)) (c7 : List (Int)) (c8 : List (Int)) (n : Nat) : Int → Int → Option (Int) := rounds (poly_Splitter_Feed.r1 K c0 c1 c2 c3 c4 c5 c6 c7 c8) (fun _ _ => none) n
def poly_Splitter_Feed.r0 (K : Nat) (c0 : Int) (c1 : Int) (c2 : List (Int)) (c3 : List (Int)) (c4 : List (Int)) (c5 : List (Int)) (next : Int → List (Int) → Option ((List (Int)))) (x186 : Int) (x187 : List (Int)) : Option ((List (Int))) :=
  let v210 := (decide (x186 < c0))
  bif v210 then
    (poly_Splitter_Feed.l1 K x186 c0 (c5.length : Int) c1 c2 c3 c4 c5 x187 K 0 0 : Option (Int)).bind fun x229 =>
      let v230 := (kwrap .i64 (Int.tdiv c1 4))
      let v231 := (kwrap .i64 (16 + v230))
      (poly_rounded K x229 v231).bind fun r232 =>
      let v233 := (List.set x187 (Int.toNat x186) (kwrap .i32 r232))
      gd ((0 : Int) ≤ x186 ∧ x186 < (x187.length : Int) ∧ (Int.toNat x186) < x187.length) <|
      let v234 := (kwrap .i64 (x186 + 1))
      next v234 v233
  else
    some x187
def poly_Splitter_Feed.l0 (K : Nat) (c0 : Int) (c1 : Int) (c2 : List (Int)) (c3 : List (Int)) (c4 : List (Int)) (c5 : List (Int)) (n : Nat) : Int → List (Int) → Option ((List (Int))) := rounds (poly_Splitter_Feed.r0 K c0 c1 c2 c3 c4 c5) (fun _ _ => none) n
def poly_Splitter_Feed.r3 (_K : Nat) (c0 : Int) (_c1 : Int) (c2 : Int) (c3 : List (Int)) (_c4 : List (Int)) (c5 : List (Int)) (_c6 : List (Int)) (next : Int → Int → Option (Int)) (x297 : Int) (x298 : Int) : Option (Int) :=
  let v301 := (decide (x298 < 5))
  bif v301 then
    let v302 := (kwrap .i64 (2 * c2))
    let v303 := (kwrap .i64 (v302 * x298))
    let v304 := (kwrap .i64 (c0 + v303))
    let v305 := (Int.toNat v304)
    gd ((0 : Int) ≤ v304 ∧ v304 < (c5.length : Int)) <|
    let v306 := (Kd.nth (.int .i64) c5 v305)
    gd (v305 < c5.length) <|
    let v307 := (Kd.nth (.int .i16) c3 v305)
    gd ((0 : Int) ≤ v304 ∧ v304 < (c3.length : Int)) <|
    let v308 := (kwrap .i64 v307)
    let v309 := (kwrap .i64 (v306 * v308))
    let v310 := (kwrap .i64 (v309 - x297))
    let v311 := (kwrap .i64 (x298 + 1))
    next v310 v311
  else
    some x297
def poly_Splitter_Feed.l3 (K : Nat) (c0 : Int) (c1 : Int) (c2 : Int) (c3 : List (Int)) (c4 : List (Int)) (c5 : List (Int)) (c6 : List (Int)) (n : Nat) : Int → Int → Option (Int) := rounds (poly_Splitter_Feed.r3 K c0 c1 c2 c3 c4 c5 c6) (fun _ _ => none) n
def poly_Splitter_Feed.r2 (K : Nat) (c0 : Int) (c1 : Int) (c2 : List (Int)) (c3 : List (Int)) (c4 : List (Int)) (next : Int → List (Int) → Option ((List (Int)))) (x266 : Int) (x267 : List (Int)) : Option ((List (Int))) :=
  let v282 := (decide (x266 < c0))
  bif v282 then
    (poly_Splitter_Feed.l3 K x266 c0 c1 c2 c3 c4 x267 K 0 0 : Option (Int)).bind fun x293 =>
      (poly_rounded K (kwrap .i64 (0 - x293)) 14).bind fun r294 =>
      let v295 := (List.set x267 (Int.toNat x266) r294)
      gd ((0 : Int) ≤ x266 ∧ x266 < (x267.length : Int) ∧ (Int.toNat x266) < x267.length) <|
      let v296 := (kwrap .i64 (x266 + 1))
      next v296 v295
  else
    some x267
def poly_Splitter_Feed.l2 (K : Nat) (c0 : Int) (c1 : Int) (c2 : List (Int)) (c3 : List (Int)) (c4 : List (Int)) (n : Nat) : Int → List (Int) → Option ((List (Int))) := rounds (poly_Splitter_Feed.r2 K c0 c1 c2 c3 c4) (fun _ _ => none) n
def poly_Splitter_Feed.r4 (_K : Nat) (c0 : List (Int)) (c1 : Int) (c2 : Int) (_c3 : List (Int)) (_c4 : List (Int)) (next : Int → List (Int) → Option ((List (Int)))) (x312 : Int) (x313 : List (Int)) : Option ((List (Int))) :=
  let v316 := (decide (x312 < c1))
  bif v316 then
    let v317 := (Kd.nth (.int .i16) c0 (Int.toNat x312))
    gd ((0 : Int) ≤ x312 ∧ x312 < (c0.length : Int)) <|
    let v318 := (kwrap .i64 (c2 - 1))
    let v319 := (kwrap .i64 (v318 - x312))
    let v320 := (kwrap .i64 v317)
    let v321 := (Int.toNat v319)
    gd ((0 : Int) ≤ v319 ∧ v319 < (x313.length : Int)) <|
    let v322 := (List.set x313 v321 v320)
    gd (v321 < x313.length) <|
    let v323 := (kwrap .i64 (x312 + 1))
    next v323 v322
  else
    some x313
def poly_Splitter_Feed.l4 (K : Nat) (c0 : List (Int)) (c1 : Int) (c2 : Int) (c3 : List (Int)) (c4 : List (Int)) (n : Nat) : Int → List (Int) → Option ((List (Int))) := rounds (poly_Splitter_Feed.r4 K c0 c1 c2 c3 c4) (fun _ _ => none) n
def poly_Splitter_Feed (K : Nat) (p0 : List (Int)) (p1 : Int) (p2 : List (Int)) (p3 : List (Int)) (p4 : List (Int)) : Option ((Unit) ⊕ ((List (Int)) × (List (Int)))) :=
  let v80 := ((p0.length : Int) != p1)
  bif v80 then
    some (.inl ())
  else
    gd ((0 : Int) ≤ p1 ∧ p1 < (p4.length : Int)) <|
    let v81 := (cpy (Int.toNat p1) p4 p4)
    gd ((Int.toNat p1) < p4.length) <|
    (poly_Splitter_Feed.l4 K p0 (p0.length : Int) p1 p2 p3 K 0 v81 : Option ((List (Int)))).bind fun x86 =>
      let v87 := (kwrap .i64 (2 * p1))
      let v88 := (List.replicate (Int.toNat v87) (0 : Int))
      gd ((0 : Int) ≤ v87 ∧ v87 ≤ v87 ∧ v87 * 8 ≤ 140737488355328) <|
      let v89 := (v88.length : Int)
      (poly_Splitter_Feed.l2 K v89 p1 p2 p3 x86 K 0 v88 : Option ((List (Int)))).bind fun x118 =>
        let v119 := (List.replicate (Int.toNat p1) (0 : Int))
        gd ((0 : Int) ≤ p1 ∧ p1 ≤ p1 ∧ p1 * 4 ≤ 140737488355328) <|
        let v120 := (v119.length : Int)
        (poly_Splitter_Feed.l0 K v120 p1 p2 p3 x86 x118 K 0 v119 : Option ((List (Int)))).bind fun x165 =>
          some (.inr (x165, x86))
def psalteryref08_Same32.r0 (_K : Nat) (c0 : List (Int)) (c1 : List (Int)) (next : Int → Option ((Unit) ⊕ (Bool))) (x6 : Int) : Option ((Unit) ⊕ (Bool)) :=
  let v8 := (decide (x6 < (c0.length : Int)))
  bif v8 then
    let v9 := (Kd.nth (.int .i32) c0 (Int.toNat x6))
    gd ((0 : Int) ≤ x6 ∧ x6 < (c0.length : Int)) <|
    let v10 := (Kd.nth (.int .i32) c1 (Int.toNat x6))
    gd ((0 : Int) ≤ x6 ∧ x6 < (c1.length : Int)) <|
    bif (v9 != v10) then
      some (.inr false)
    else
      let v11 := (kwrap .i64 (x6 + 1))
      next v11
  else
    some (.inl ())
def psalteryref08_Same32.l0 (K : Nat) (c0 : List (Int)) (c1 : List (Int)) (n : Nat) : Int → Option ((Unit) ⊕ (Bool)) := rounds (psalteryref08_Same32.r0 K c0 c1) (fun _ => none) n
def psalteryref08_Same32 (K : Nat) (p0 : List (Int)) (p1 : List (Int)) : Option (Bool) :=
  let v3 := ((p0.length : Int) != (p1.length : Int))
  bif v3 then
    some false
  else
    (psalteryref08_Same32.l0 K p0 p1 K 0 : Option ((Unit) ⊕ (Bool))).bind fun z => match z with
    | .inl _ =>
      some true
    | .inr r =>
      some r
def psalterylaw08_alive (K : Nat)  : Option (Bool) :=
  (bank_New K ).bind fun _ =>
  (poly_NewSplitter K 4 (List.replicate 388 none) 0 0).bind fun z => match z with
  | .inl (_r20, _r21, _r22) =>
    some false
  | .inr (_r23, _r24, _r25, r26, r27, r28) =>
    (poly_Splitter_Feed K (List.replicate 4 (0 : Int)) 4 r26 r27 r28).bind fun z => match z with
    | .inl _ =>
      (poly_Splitter_Feed K (List.replicate 5 (0 : Int)) 4 r26 r27 r28).bind fun z => match z with
      | .inl _ =>
        some false
      | .inr (_r31, _r32) =>
        some false
    | .inr (r29, r30) =>
      (poly_Splitter_Feed K (List.replicate 5 (0 : Int)) 4 r26 r27 r30).bind fun z => match z with
      | .inl _ =>
        (psalteryref08_Same32 K r29 (List.replicate 4 (0 : Int))).bind fun r36 =>
        let v37 := (bif r36 then true else false)
        some v37
      | .inr (_r33, _r34) =>
        (psalteryref08_Same32 K r29 (List.replicate 4 (0 : Int))).bind fun r39 =>
        let v40 := (bif r39 then false else false)
        some v40
def psalterylaw08_cut_int16.r0 (_K : Nat) (c0 : List (Int)) (c1 : Int) (next : Int → List (List (Int)) → Option ((List (List (Int))))) (x11 : Int) (x12 : List (List (Int))) : Option ((List (List (Int)))) :=
  let v15 := (kwrap .i64 (x11 + c1))
  let v16 := (decide (v15 ≤ (c0.length : Int)))
  bif v16 then
    let v17 := ((c0.take (Int.toNat v15)).drop (Int.toNat x11))
    let v18 := (([] : List (Int)) ++ v17)
    gd ((0 : Int) ≤ x11 ∧ x11 ≤ v15 ∧ v15 ≤ (c0.length : Int) ∧ ((([] : List (Int)).length : Int) + (v17.length : Int)) * 2 ≤ 70368744177664) <|
    let v19 := (x12 ++ [v18])
    gd (((x12.length : Int) + ([v18].length : Int)) * 24 ≤ 70368744177664) <|
    next v15 v19
  else
    some x12
def psalterylaw08_cut_int16.l0 (K : Nat) (c0 : List (Int)) (c1 : Int) (n : Nat) : Int → List (List (Int)) → Option ((List (List (Int)))) := rounds (psalterylaw08_cut_int16.r0 K c0 c1) (fun _ _ => none) n
def psalterylaw08_cut_int16 (K : Nat) (p0 : List (Int)) (p1 : Int) : Option ((List (List (Int)))) :=
  (psalterylaw08_cut_int16.l0 K p0 p1 K 0 ([] : List (List (Int))) : Option ((List (List (Int))))).bind fun x10 =>
    some x10
def psalteryref03_part (_K : Nat) (p0 : Int) (p1 : Int) : Option (Int) :=
  let v1 := (kwrap .i64 (p0 * p1))
  let v2 := (kwrap .i64 (Int.tdiv v1 1073741824))
  some v2
def psalteryref01_down (_K : Nat) (p0 : Int) (p1 : Int) : Option (Int) :=
  let v2 := (kwrap .i64 (Int.tdiv p0 p1))
  gd (p1 ≠ 0) <|
  let v3 := (Int.tmod p0 p1)
  let v4 := (decide (v3 < 0))
  gd (p1 ≠ 0) <|
  (
    bif v4 then
      let v6 := (kwrap .i64 (v2 - 1))
      some v6
    else
      some v2 : Option (Int)).bind fun x5 =>
    some x5
def psalteryref01_Round (K : Nat) (p0 : Int) (p1 : Int) : Option (Int) :=
  let v3 := (imax (imin p1 62) 0)
  bif (v3 == 0) then
    some p0
  else
    let v4 := (kwrap .i64 (v3 - 1))
    let v5 := (kwrap .u64 v4)
    let v6 := (kshl .i64 1 v5)
    gd ((0 : Int) ≤ v5) <|
    (psalteryref01_down K p0 v6).bind fun r7 =>
    let v8 := (kwrap .i64 (r7 + 1))
    (psalteryref01_down K v8 2).bind fun r9 =>
    some r9
def psalteryref03_signed (K : Nat) (p0 : Int) (p1 : Int) (p2 : Bool) : Option (Int) :=
  let v10 := (kwrap .i64 (4 * p0))
  let v11 := (decide (v10 ≥ p1))
  (
    bif v11 then
      let v29 := (kwrap .i64 (2 * p1))
      let v30 := (kwrap .i64 (v29 - v10))
      some v30
    else
      some v10 : Option (Int)).bind fun x12 =>
    let v13 := (kwrap .i64 (x12 * 1073741824))
    let v14 := (kwrap .i64 (Int.tdiv v13 p1))
    gd (p1 ≠ 0) <|
    (psalteryref03_part K v14 v14).bind fun r15 =>
    (psalteryref03_part K 172272 r15).bind fun r16 =>
    let v17 := (kwrap .i64 (5026995 - r16))
    (psalteryref03_part K v17 r15).bind fun r18 =>
    let v19 := (kwrap .i64 (85569306 - r18))
    (psalteryref03_part K v19 r15).bind fun r20 =>
    let v21 := (kwrap .i64 (693598668 - r20))
    (psalteryref03_part K v21 r15).bind fun r22 =>
    let v23 := (kwrap .i64 (1686629713 - r22))
    (psalteryref03_part K v23 v14).bind fun r24 =>
    (psalteryref01_Round K r24 15).bind fun r25 =>
    let v26 := (decide (r25 > 32767))
    (
      bif v26 then
        some 32767
      else
        some r25 : Option (Int)).bind fun x27 =>
      bif p2 then
        let v28 := (kwrap .i16 (kwrap .i64 (0 - x27)))
        some v28
      else
        some (kwrap .i16 x27)
def psalteryref03_of (K : Nat) (p0 : Int) (p1 : Int) : Option (Int) :=
  let v5 := (decide (p0 < 0))
  (
    bif v5 then
      let v14 := (kwrap .i64 (p0 + p1))
      some v14
    else
      some p0 : Option (Int)).bind fun x6 =>
    let v7 := (kwrap .i64 (2 * x6))
    let v8 := (decide (v7 ≥ p1))
    bif v8 then
      let v10 := (kwrap .i64 (Int.tdiv p1 2))
      let v11 := (kwrap .i64 (x6 - v10))
      (psalteryref03_signed K v11 p1 true).bind fun r12 =>
      some r12
    else
      (psalteryref03_signed K x6 p1 false).bind fun r13 =>
      some r13
def psalteryref03_Of (K : Nat) (p0 : Int) (p1 : Int) : Option (Int) :=
  let v5 := (Int.tmod p0 p1)
  gd (p1 ≠ 0) <|
  let v6 := (decide (v5 < 0))
  (
    bif v6 then
      let v19 := (kwrap .i64 (v5 + p1))
      some v19
    else
      some v5 : Option (Int)).bind fun x7 =>
    let v8 := (kwrap .i64 (2 * x7))
    let v9 := (decide (v8 ≥ p1))
    (
      bif v9 then
        let v13 := (kwrap .i64 (Int.tdiv p1 2))
        let v14 := (kwrap .i64 (x7 - v13))
        let v15 := (Int.tmod p1 2)
        bif (v15 == 1) then
          let v16 := (kwrap .i64 (2 * v5))
          let v17 := (kwrap .i64 (2 * p1))
          gd (p1 ≠ 0) <|
          (psalteryref03_of K v16 v17).bind fun r18 =>
          some (.inr r18)
        else
          some (.inl v14)
      else
        some (.inl x7) : Option ((Int) ⊕ (Int))).bind fun z => match z with
    | .inl x11 =>
      (psalteryref03_signed K x11 p1 v9).bind fun r12 =>
      some r12
    | .inr r =>
      some r
def psalteryref03_Cosine (K : Nat) (p0 : Int) (p1 : Int) : Option (Int × Int) :=
  let v2 := (decide (p1 < 1))
  let v3 := (decide (p1 > 1048576))
  let v4 := (bif v2 then true else v3)
  bif v4 then
    some (0, 1)
  else
    let v5 := (Int.tmod p0 p1)
    gd (p1 ≠ 0) <|
    let v6 := (kwrap .i64 (4 * v5))
    let v7 := (kwrap .i64 (v6 + p1))
    let v8 := (kwrap .i64 (4 * p1))
    (psalteryref03_Of K v7 v8).bind fun r9 =>
    some (r9, 0)
def psalteryref04_Filter.r0 (K : Nat) (c0 : Int) (next : Int → List (Int) → Option ((List (Int)))) (x93 : Int) (x94 : List (Int)) : Option ((List (Int))) :=
  let v113 := (kwrap .i64 (5 * c0))
  let v114 := (decide (x93 < v113))
  bif v114 then
    (
      bif (x93 != 0) then
        let v143 := (kwrap .i64 (3 * x93))
        let v144 := (kwrap .i64 (10 * c0))
        (psalteryref03_Of K v143 v144).bind fun r145 =>
        let v146 := (kwrap .i64 ((kwrap .i64 r145) * c0))
        let v147 := (kwrap .i64 (v146 * 565))
        let v148 := (kwrap .i64 (x93 * 1065))
        let v149 := (kwrap .i64 (Int.tdiv v147 v148))
        gd (v148 ≠ 0) <|
        some v149
      else
        some 32768 : Option (Int)).bind fun x124 =>
      let v125 := (kwrap .i64 (x93 + v113))
      let v126 := (kwrap .i64 (10 * c0))
      (psalteryref03_Cosine K v125 v126).bind fun (r127, _r128) =>
      let v129 := (kwrap .i64 (2 * v125))
      (psalteryref03_Cosine K v129 v126).bind fun (r130, _r131) =>
      let v132 := (kwrap .i64 (8 * (kwrap .i64 r130)))
      let v133 := (kwrap .i64 (1376256 + v132))
      let v134 := (kwrap .i64 (50 * (kwrap .i64 r127)))
      let v135 := (kwrap .i64 (v133 - v134))
      let v136 := (kwrap .i64 (Int.tdiv v135 100))
      let v137 := (kwrap .i64 (x124 * v136))
      (psalteryref01_Round K v137 15).bind fun r138 =>
      let v139 := (kwrap .i64 (r138 * 19708))
      (psalteryref01_Round K v139 15).bind fun r140 =>
      let v141 := [(kwrap .i16 r140)]
      gd (((x94.length : Int) + (v141.length : Int)) * 2 ≤ 70368744177664) <|
      let v142 := (kwrap .i64 (x93 + 1))
      next v142 (x94 ++ v141)
  else
    some x94
def psalteryref04_Filter.l0 (K : Nat) (c0 : Int) (n : Nat) : Int → List (Int) → Option ((List (Int))) := rounds (psalteryref04_Filter.r0 K c0) (fun _ _ => none) n
def psalteryref04_Filter (K : Nat) (p0 : Int) : Option ((Unit) ⊕ ((List (Int)))) :=
  let v38 := (bif (p0 != 4) then (p0 != 8) else false)
  bif v38 then
    some (.inl ())
  else
    let v39 := (kwrap .i64 ((-5) * p0))
    (psalteryref04_Filter.l0 K p0 K v39 ([] : List (Int)) : Option ((List (Int)))).bind fun x76 =>
      some (.inr x76)
def psalteryref01_Sat (_K : Nat) (p0 : Int) (p1 : Int) : Option (Int) :=
  let v1 := (kwrap .i64 (p1 - 1))
  let v2 := (kwrap .u64 v1)
  let v3 := (kshl .i64 1 v2)
  let v4 := (kwrap .i64 (v3 - 1))
  gd ((0 : Int) ≤ v2) <|
  let v5 := (decide (p0 > v4))
  bif v5 then
    some v4
  else
    let v6 := (kwrap .i64 (0 - v4))
    let v7 := (kwrap .i64 (v6 - 1))
    let v8 := (decide (p0 < v7))
    bif v8 then
      some v7
    else
      some p0
def psalteryref08_round (K : Nat) (p0 : Int) (p1 : Int) : Option (Int) :=
  (psalteryref01_Round K p0 p1).bind fun r3 =>
  (psalteryref01_Sat K r3 32).bind fun r4 =>
  some r4
def psalteryref08_wave (K : Nat) (p0 : Int) (p1 : Int) (p2 : Int) : Option (Int) :=
  let v3 := (kwrap .i64 (p0 * p1))
  let v4 := (kwrap .i64 (8 * p2))
  (psalteryref03_Cosine K v3 v4).bind fun (r5, _r6) =>
  some (kwrap .i64 r5)
def psalteryref08_Split.r1 (_K : Nat) (c0 : Int) (_c1 : Int) (_c2 : Int) (_c3 : List (Int)) (_next : Option (Unit))  : Option (Unit) :=
  let v185 := (kwrap .i64 (2 * c0))
  let v186 := (decide (0 < v185))
  bif v186 then
    none
  else
    some ()
def psalteryref08_Split.l1 (K : Nat) (c0 : Int) (c1 : Int) (c2 : Int) (c3 : List (Int)) (n : Nat) : Option (Unit) := rounds (psalteryref08_Split.r1 K c0 c1 c2 c3) (none) n
def psalteryref08_Split.r0 (K : Nat) (c0 : Int) (c1 : Int) (next : Int → List (Int) → Option ((List (Int)))) (x173 : Int) (x174 : List (Int)) : Option ((List (Int))) :=
  let v179 := (decide (x173 < c0))
  bif v179 then
    (psalteryref08_Split.l1 K c0 c1 x173 x174 K  : Option (Unit)).bind fun _ =>
      (psalteryref08_round K 0 c1).bind fun r181 =>
      let v182 := [(kwrap .i32 r181)]
      let v183 := (x174 ++ v182)
      gd (((x174.length : Int) + (v182.length : Int)) * 4 ≤ 70368744177664) <|
      let v184 := (kwrap .i64 (x173 + 1))
      next v184 v183
  else
    some x174
def psalteryref08_Split.l0 (K : Nat) (c0 : Int) (c1 : Int) (n : Nat) : Int → List (Int) → Option ((List (Int))) := rounds (psalteryref08_Split.r0 K c0 c1) (fun _ _ => none) n
def psalteryref08_Split.r3 (_K : Nat) (c0 : Int) (c1 : List (Int)) (_next : Option (Empty))  : Option (Empty) :=
  let v189 := (kwrap .i64 (2 * c0))
  let v190 := (kwrap .i64 (v189 * 0))
  let v191 := (kwrap .i64 (0 + v190))
  let v192 := (Int.toNat v191)
  gd ((0 : Int) ≤ v191 ∧ v191 < (c1.length : Int)) <|
  gd (v192 < c1.length) <|
  none
def psalteryref08_Split.l3 (K : Nat) (c0 : Int) (c1 : List (Int)) (n : Nat) : Option (Empty) := rounds (psalteryref08_Split.r3 K c0 c1) (none) n
def psalteryref08_Split.r2 (K : Nat) (c0 : Int) (c1 : List (Int)) (_next : Option (Unit))  : Option (Unit) :=
  let v187 := (kwrap .i64 (2 * c0))
  let v188 := (decide (0 < v187))
  bif v188 then
    (psalteryref08_Split.l3 K c0 c1 K  : Option (Empty)).bind fun z => nomatch z
  else
    some ()
def psalteryref08_Split.l2 (K : Nat) (c0 : Int) (c1 : List (Int)) (n : Nat) : Option (Unit) := rounds (psalteryref08_Split.r2 K c0 c1) (none) n
def psalteryref08_Split.r5 (K : Nat) (c0 : Int) (_c1 : Int) (c2 : Int) (c3 : List (Int)) (_c4 : List (Int)) (next : Int → Int → Option (Int)) (x355 : Int) (x356 : Int) : Option (Int) :=
  let v361 := (kwrap .i64 (2 * c0))
  let v362 := (decide (x356 < v361))
  bif v362 then
    gd ((0 : Int) ≤ x356 ∧ x356 < (c3.length : Int)) <|
    let v364 := (Kd.nth (.int .i64) c3 (Int.toNat x356))
    gd ((Int.toNat x356) < c3.length) <|
    let v365 := (kwrap .i64 (2 * c2))
    let v366 := (kwrap .i64 (v365 + 1))
    let v367 := (kwrap .i64 (2 * x356))
    let v368 := (kwrap .i64 (v367 - c0))
    (psalteryref08_wave K v366 v368 c0).bind fun r369 =>
    let v370 := (kwrap .i64 (v364 * r369))
    let v371 := (kwrap .i64 (x355 + v370))
    let v372 := (kwrap .i64 (x356 + 1))
    next v371 v372
  else
    some x355
def psalteryref08_Split.l5 (K : Nat) (c0 : Int) (c1 : Int) (c2 : Int) (c3 : List (Int)) (c4 : List (Int)) (n : Nat) : Int → Int → Option (Int) := rounds (psalteryref08_Split.r5 K c0 c1 c2 c3 c4) (fun _ _ => none) n
def psalteryref08_Split.r4 (K : Nat) (c0 : Int) (c1 : Int) (c2 : List (Int)) (next : Int → List (Int) → Option ((List (Int)))) (x305 : Int) (x306 : List (Int)) : Option ((List (Int))) :=
  let v329 := (decide (x305 < c0))
  bif v329 then
    (psalteryref08_Split.l5 K c0 c1 x305 c2 x306 K 0 0 : Option (Int)).bind fun x348 =>
      (psalteryref08_round K x348 c1).bind fun r349 =>
      let v350 := [(kwrap .i32 r349)]
      let v351 := (x306 ++ v350)
      gd (((x306.length : Int) + (v350.length : Int)) * 4 ≤ 70368744177664) <|
      let v352 := (kwrap .i64 (x305 + 1))
      next v352 v351
  else
    some x306
def psalteryref08_Split.l4 (K : Nat) (c0 : Int) (c1 : Int) (c2 : List (Int)) (n : Nat) : Int → List (Int) → Option ((List (Int))) := rounds (psalteryref08_Split.r4 K c0 c1 c2) (fun _ _ => none) n
def psalteryref08_Split.r7 (_K : Nat) (c0 : Int) (c1 : List (Int)) (c2 : Int) (c3 : List (Int)) (_c4 : List (Int)) (next : Int → Int → Option (Int)) (x443 : Int) (x444 : Int) : Option (Int) :=
  let v449 := (decide (x444 < 5))
  bif v449 then
    let v451 := (kwrap .i64 (2 * c0))
    let v452 := (kwrap .i64 (v451 * x444))
    let v453 := (kwrap .i64 (c2 + v452))
    let v454 := (Int.toNat v453)
    gd ((0 : Int) ≤ v453 ∧ v453 < (c3.length : Int)) <|
    let v455 := (Kd.nth (.int .i64) c3 v454)
    gd (v454 < c3.length) <|
    let v456 := (Kd.nth (.int .i16) c1 v454)
    gd ((0 : Int) ≤ v453 ∧ v453 < (c1.length : Int)) <|
    let v457 := (kwrap .i64 v456)
    let v458 := (kwrap .i64 (v455 * v457))
    let v459 := (Int.tmod x444 2)
    (
      bif (v459 == 0) then
        let v463 := (kwrap .i64 (0 - v458))
        some v463
      else
        some v458 : Option (Int)).bind fun x460 =>
      let v461 := (kwrap .i64 (x443 + x460))
      let v462 := (kwrap .i64 (x444 + 1))
      next v461 v462
  else
    some x443
def psalteryref08_Split.l7 (K : Nat) (c0 : Int) (c1 : List (Int)) (c2 : Int) (c3 : List (Int)) (c4 : List (Int)) (n : Nat) : Int → Int → Option (Int) := rounds (psalteryref08_Split.r7 K c0 c1 c2 c3 c4) (fun _ _ => none) n
def psalteryref08_Split.r6 (K : Nat) (c0 : Int) (c1 : List (Int)) (c2 : List (Int)) (next : Int → List (Int) → Option ((List (Int)))) (x393 : Int) (x394 : List (Int)) : Option ((List (Int))) :=
  let v417 := (kwrap .i64 (2 * c0))
  let v418 := (decide (x393 < v417))
  bif v418 then
    (psalteryref08_Split.l7 K c0 c1 x393 c2 x394 K 0 0 : Option (Int)).bind fun x437 =>
      (psalteryref08_round K x437 14).bind fun r438 =>
      let v439 := (x394 ++ [r438])
      gd (((x394.length : Int) + ([r438].length : Int)) * 8 ≤ 70368744177664) <|
      let v440 := (kwrap .i64 (x393 + 1))
      next v440 v439
  else
    some x394
def psalteryref08_Split.l6 (K : Nat) (c0 : Int) (c1 : List (Int)) (c2 : List (Int)) (n : Nat) : Int → List (Int) → Option ((List (Int))) := rounds (psalteryref08_Split.r6 K c0 c1 c2) (fun _ _ => none) n
def psalteryref08_Split.r8 (_K : Nat) (c0 : Int) (next : List (Int) → Option ((List (Int)))) (x464 : List (Int)) : Option ((List (Int))) :=
  let v466 := (kwrap .i64 (10 * c0))
  let v467 := (decide ((x464.length : Int) < v466))
  bif v467 then
    gd (((x464.length : Int) + ([0].length : Int)) * 8 ≤ 70368744177664) <|
    next (x464 ++ [0])
  else
    some x464
def psalteryref08_Split.l8 (K : Nat) (c0 : Int) (n : Nat) : List (Int) → Option ((List (Int))) := rounds (psalteryref08_Split.r8 K c0) (fun _ => none) n
def psalteryref08_Split.r10 (_K : Nat) (c0 : List (List (Int))) (_c1 : Int) (c2 : Int) (next : Int → List (Int) → Option ((List (Int)))) (x505 : Int) (x506 : List (Int)) : Option ((List (Int))) :=
  let v509 := (decide (x505 ≥ 0))
  bif v509 then
    let v510 := (Kd.nth (.slice (.int .i16)) c0 (Int.toNat c2))
    let v511 := (Kd.nth (.int .i16) v510 (Int.toNat x505))
    let v512 := (kwrap .i64 v511)
    let v513 := (x506 ++ [v512])
    gd ((0 : Int) ≤ c2 ∧ c2 < (c0.length : Int) ∧ (0 : Int) ≤ x505 ∧ x505 < (v510.length : Int) ∧ ((x506.length : Int) + ([v512].length : Int)) * 8 ≤ 70368744177664) <|
    let v514 := (kwrap .i64 (x505 - 1))
    next v514 v513
  else
    some x506
def psalteryref08_Split.l10 (K : Nat) (c0 : List (List (Int))) (c1 : Int) (c2 : Int) (n : Nat) : Int → List (Int) → Option ((List (Int))) := rounds (psalteryref08_Split.r10 K c0 c1 c2) (fun _ _ => none) n
def psalteryref08_Split.r9 (K : Nat) (c0 : List (List (Int))) (c1 : Int) (next : Int → List (Int) → Option ((List (Int)))) (x478 : Int) (x479 : List (Int)) : Option ((List (Int))) :=
  let v492 := (decide (x478 ≥ 0))
  bif v492 then
    let v498 := (kwrap .i64 (c1 - 1))
    (psalteryref08_Split.l10 K c0 c1 x478 K v498 x479 : Option ((List (Int)))).bind fun x503 =>
      let v504 := (kwrap .i64 (x478 - 1))
      next v504 x503
  else
    some x479
def psalteryref08_Split.l9 (K : Nat) (c0 : List (List (Int))) (c1 : Int) (n : Nat) : Int → List (Int) → Option ((List (Int))) := rounds (psalteryref08_Split.r9 K c0 c1) (fun _ _ => none) n
def psalteryref08_Split (K : Nat) (p0 : List (List (Int))) (p1 : Int) : Option ((List (Int))) :=
  let v131 := (kwrap .i64 ((p0.length : Int) - 1))
  (psalteryref08_Split.l9 K p0 p1 K v131 ([] : List (Int)) : Option ((List (Int)))).bind fun x156 =>
    (psalteryref08_Split.l8 K p1 K x156 : Option ((List (Int)))).bind fun x159 =>
      (psalteryref04_Filter K p1).bind fun z => match z with
      | .inl _ =>
        (psalteryref08_Split.l2 K p1 x159 K  : Option (Unit)).bind fun _ =>
          (
            bif (p1 == 8) then
              some 18
            else
              some 17 : Option (Int)).bind fun x161 =>
            (psalteryref08_Split.l0 K p1 x161 K 0 ([] : List (Int)) : Option ((List (Int)))).bind fun x170 =>
              some x170
      | .inr r160 =>
        (psalteryref08_Split.l6 K p1 r160 x159 K 0 ([] : List (Int)) : Option ((List (Int)))).bind fun x238 =>
          (
            bif (p1 == 8) then
              some 18
            else
              some 17 : Option (Int)).bind fun x239 =>
            (psalteryref08_Split.l4 K p1 x239 x238 K 0 ([] : List (Int)) : Option ((List (Int)))).bind fun x284 =>
              some x284
def psalterylaw08_PolySplits.r0 (K : Nat) (c0 : Int) (c1 : List (List (Int))) (c2 : List (Int)) (c3 : List (Int)) (next : Int → List (Int) → Option ((Unit) ⊕ (Bool))) (x94 : Int) (x95 : List (Int)) : Option ((Unit) ⊕ (Bool)) :=
  let v110 := (decide (x94 < (c1.length : Int)))
  bif v110 then
    let v117 := (Kd.nth (.slice (.int .i16)) c1 (Int.toNat x94))
    gd ((0 : Int) ≤ x94 ∧ x94 < (c1.length : Int)) <|
    (poly_Splitter_Feed K v117 c0 c2 c3 x95).bind fun z => match z with
    | .inl _ =>
      some (.inr false)
    | .inr (r118, r119) =>
      let v122 := (kwrap .i64 (x94 + 1))
      let v123 := ((c1.take (Int.toNat v122)).drop (Int.toNat 0))
      gd (0 ≤ v122 ∧ v122 ≤ (c1.length : Int)) <|
      (psalteryref08_Split K v123 c0).bind fun r124 =>
      (psalteryref08_Same32 K r118 r124).bind fun r125 =>
      bif (!r125) then
        some (.inr false)
      else
        next v122 r119
  else
    some (.inl ())
def psalterylaw08_PolySplits.l0 (K : Nat) (c0 : Int) (c1 : List (List (Int))) (c2 : List (Int)) (c3 : List (Int)) (n : Nat) : Int → List (Int) → Option ((Unit) ⊕ (Bool)) := rounds (psalterylaw08_PolySplits.r0 K c0 c1 c2 c3) (fun _ _ => none) n
def psalterylaw08_PolySplits (K : Nat) (p0 : Bool) (p1 : List (Int)) : Option (Bool) :=
  (psalterylaw08_alive K ).bind fun r41 =>
  bif (!r41) then
    some false
  else
    let v42 := (decide ((p1.length : Int) > 200))
    bif v42 then
      some true
    else
      (
        bif p0 then
          some 8
        else
          some 4 : Option (Int)).bind fun x43 =>
        (bank_New K ).bind fun _ =>
        (poly_NewSplitter K x43 (List.replicate 388 none) 0 0).bind fun z => match z with
        | .inl (_r44, _r45, _r46) =>
          some false
        | .inr (_r47, _r48, _r49, r50, r51, r52) =>
          (psalterylaw08_cut_int16 K p1 x43).bind fun r53 =>
          (psalterylaw08_PolySplits.l0 K x43 r53 r50 r51 K 0 r52 : Option ((Unit) ⊕ (Bool))).bind fun z => match z with
          | .inl _ =>
            some true
          | .inr r =>
            some r
end Go.Fo
