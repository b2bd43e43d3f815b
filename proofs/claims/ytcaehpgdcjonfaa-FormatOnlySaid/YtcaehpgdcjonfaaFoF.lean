/- The functions of Go that are reached, as functions of plain values. -/
import Derived.Test.YtcaehpgdcjonfaaK3
namespace Go.Fo
def format_within (_K : Nat) (p0 : Int) (p1 : Int) (p2 : Int) : Option (Bool) :=
  let v1 := (decide (p0 ≥ p1))
  let v2 := (decide (p0 ≤ p2))
  let v3 := (bif v1 then v2 else false)
  some v3
def slices_Index_bool_bool.r0 (_K : Nat) (c0 : Bool) (c1 : Int) (c2 : List (Bool)) (next : Int → Option ((Unit) ⊕ (Int))) (x5 : Int) : Option ((Unit) ⊕ (Int)) :=
  let v7 := (decide (x5 < c1))
  bif v7 then
    let v8 := (Kd.nth (.bool) c2 (Int.toNat x5))
    gd ((0 : Int) ≤ x5 ∧ x5 < (c2.length : Int) ∧ (Int.toNat x5) < c2.length) <|
    bif (c0 == v8) then
      some (.inr x5)
    else
      let v9 := (kwrap .i64 (x5 + 1))
      next v9
  else
    some (.inl ())
def slices_Index_bool_bool.l0 (K : Nat) (c0 : Bool) (c1 : Int) (c2 : List (Bool)) (n : Nat) : Int → Option ((Unit) ⊕ (Int)) := rounds (slices_Index_bool_bool.r0 K c0 c1 c2) (fun _ => none) n
def slices_Index_bool_bool (K : Nat) (p0 : Bool) (p1 : List (Bool)) : Option (Int) :=
  (slices_Index_bool_bool.l0 K p0 (p1.length : Int) p1 K 0 : Option ((Unit) ⊕ (Int))).bind fun z => match z with
  | .inl _ =>
    some (-1)
  | .inr r =>
    some r
def slices_Contains_bool_bool (K : Nat) (p0 : Bool) (p1 : List (Bool)) : Option (Bool) :=
  (slices_Index_bool_bool K p0 p1).bind fun r2 =>
  let v3 := (decide (r2 ≥ 0))
  some v3
def format_all (K : Nat) (p0 : List (Bool)) : Option (Bool) :=
  (slices_Contains_bool_bool K false p0).bind fun r2 =>
  some (!r2)
def lapped_lengths (_K : Nat)  : Option (Unit) :=
  some ()
def lapped_Lengths (K : Nat)  : Option ((List (Int))) :=
  (lapped_lengths K ).bind fun _ =>
  let v1 := [(40, (60, (80, 120))).1, (40, (60, (80, 120))).2.1, (40, (60, (80, 120))).2.2.1, (40, (60, (80, 120))).2.2.2]
  some v1
def slices_Index_int_int.r0 (_K : Nat) (c0 : List (Int)) (c1 : Int) (c2 : Int) (next : Int → Option ((Unit) ⊕ (Int))) (x5 : Int) : Option ((Unit) ⊕ (Int)) :=
  let v7 := (decide (x5 < c2))
  bif v7 then
    let v8 := (Kd.nth (.int .i64) c0 (Int.toNat x5))
    gd ((0 : Int) ≤ x5 ∧ x5 < (c0.length : Int)) <|
    bif (c1 == v8) then
      some (.inr x5)
    else
      let v9 := (kwrap .i64 (x5 + 1))
      next v9
  else
    some (.inl ())
def slices_Index_int_int.l0 (K : Nat) (c0 : List (Int)) (c1 : Int) (c2 : Int) (n : Nat) : Int → Option ((Unit) ⊕ (Int)) := rounds (slices_Index_int_int.r0 K c0 c1 c2) (fun _ => none) n
def slices_Index_int_int (K : Nat) (p0 : List (Int)) (p1 : Int) : Option (Int) :=
  (slices_Index_int_int.l0 K p0 p1 (p0.length : Int) K 0 : Option ((Unit) ⊕ (Int))).bind fun z => match z with
  | .inl _ =>
    some (-1)
  | .inr r =>
    some r
def slices_Contains_int_int (K : Nat) (p0 : List (Int)) (p1 : Int) : Option (Bool) :=
  (slices_Index_int_int K p0 p1).bind fun r2 =>
  let v3 := (decide (r2 ≥ 0))
  some v3
def format_fields (K : Nat) (p0 : Int) (p1 : Int) (p2 : Int) (p3 : Int) (p4 : Int) (p5 : Int) (p6 : Int) (p7 : Int) (p8 : Int) (p9 : Int) : Option (Bool) :=
  (format_within K p1 0 3).bind fun r64 =>
  (format_within K p2 1 2).bind fun r65 =>
  (format_all K [r64, r65]).bind fun r66 =>
  bif (p0 == 1) then
    (
      bif r66 then
        let v116 := (bif (p3 == 4) then true else (p3 == 8))
        let v117 := (Int.tmod p4 4)
        bif (v117 == 0) then
          (format_within K p4 4 16).bind fun r119 =>
          let v120 := (bif (v117 == 0) then r119 else false)
          (format_within K p5 0 1).bind fun r121 =>
          let v122 := (kwrap .i64 (p2 - 1))
          (format_within K p6 0 v122).bind fun r123 =>
          let v124 := (kwrap .i64 (16 * p3))
          let v125 := (kwrap .i64 (v124 * p2))
          let v126 := (imin v125 250)
          (format_within K p7 2 v126).bind fun r127 =>
          let v128 := (bif (p8 == 0) then (p9 == 0) else false)
          let v129 := [v116, v120, r121, r123, r127, v128]
          (format_all K v129).bind fun r130 =>
          let v131 := (bif r66 then r130 else false)
          some v131
        else
          let v132 := (bif (v117 == 0) then false else false)
          (format_within K p5 0 1).bind fun r133 =>
          let v134 := (kwrap .i64 (p2 - 1))
          (format_within K p6 0 v134).bind fun r135 =>
          let v136 := (kwrap .i64 (16 * p3))
          let v137 := (kwrap .i64 (v136 * p2))
          let v138 := (imin v137 250)
          (format_within K p7 2 v138).bind fun r139 =>
          let v140 := (bif (p8 == 0) then (p9 == 0) else false)
          let v141 := [v116, v132, r133, r135, r139, v140]
          (format_all K v141).bind fun r142 =>
          let v143 := (bif r66 then r142 else false)
          some v143
      else
        let v144 := (bif r66 then false else false)
        some v144 : Option (Bool)).bind fun x114 =>
      some x114
  else
    bif (p0 == 2) then
      (
        bif r66 then
          (lapped_Lengths K ).bind fun r158 =>
          (slices_Contains_int_int K r158 p8).bind fun r159 =>
          (format_within K p9 20 120).bind fun r160 =>
          let v161 := (bif (p3 == 0) then (p4 == 0) else false)
          let v162 := (bif v161 then (p5 == 0) else false)
          let v163 := (bif v162 then (p6 == 0) else false)
          let v164 := (bif v163 then (p7 == 0) else false)
          let v165 := [r159, r160, v164]
          (format_all K v165).bind fun r166 =>
          let v167 := (bif r66 then r166 else false)
          some v167
        else
          let v168 := (bif r66 then false else false)
          some v168 : Option (Bool)).bind fun x156 =>
        some x156
    else
      some false
def format_bits (_K : Nat) (p0 : Int) (_p1 : Int) (p2 : Int) (p3 : Int) (p4 : Int) (_p5 : Int) (p6 : Int) (p7 : Int) (_p8 : Int) (p9 : Int) : Option (Int) :=
  bif (p0 == 2) then
    let v1 := (kwrap .i64 (8 * p9))
    some v1
  else
    let v2 := (kwrap .i64 (p6 * p3))
    let v3 := (kwrap .i64 (32 + v2))
    let v4 := (kwrap .i64 (4 * p3))
    let v5 := (kwrap .i64 (v4 * p2))
    let v6 := (kwrap .i64 (v3 + v5))
    let v7 := (kwrap .i64 (p4 * p7))
    let v8 := (kwrap .i64 (v6 + v7))
    some v8
def format_payload (K : Nat) (p0 : Int) (p1 : Int) (p2 : Int) (p3 : Int) (p4 : Int) (p5 : Int) (p6 : Int) (p7 : Int) (p8 : Int) (p9 : Int) : Option (Int) :=
  bif (p0 == 2) then
    let v2 := (kwrap .i64 (p9 * p2))
    some v2
  else
    (format_bits K p0 p1 p2 p3 p4 p5 p6 p7 p8 p9).bind fun r3 =>
    let v4 := (kwrap .i64 (r3 + 7))
    let v5 := (kwrap .i64 (Int.tdiv v4 8))
    some v5
def format_Check (K : Nat) (p0 : Int) (p1 : Int) (p2 : Int) (p3 : Int) (p4 : Int) (p5 : Int) (p6 : Int) (p7 : Int) (p8 : Int) (p9 : Int) : Option (Int) :=
  (
    (format_fields K p0 p1 p2 p3 p4 p5 p6 p7 p8 p9).bind fun r7 =>
    bif (!r7) then
      some true
    else
      (format_payload K p0 p1 p2 p3 p4 p5 p6 p7 p8 p9).bind fun r8 =>
      let v9 := (decide (r8 > 512))
      some v9 : Option (Bool)).bind fun x6 =>
    bif x6 then
      some 110
    else
      some 0
def format_Samples_1 (_K : Nat) (_p0 : Int) (_p1 : Int) (_p2 : Int) (p3 : Int) (p4 : Int) (_p5 : Int) (_p6 : Int) (_p7 : Int) (p8 : Int) (_p9 : Int) : Option (Int) :=
  let v1 := (kwrap .i64 (p3 * p4))
  let v2 := (kwrap .i64 (v1 + p8))
  some v2
def format_of (K : Nat) (p0 : Int) (p1 : Int) (p2 : Int) (p3 : Int) (p4 : Int) (p5 : Int) (p6 : Int) (p7 : Int) (p8 : Int) (p9 : Int) : Option (Int) :=
  (format_Check K p0 p1 p2 p3 p4 p5 p6 p7 p8 p9).bind fun r3 =>
  bif (r3 != 0) then
    some 0
  else
    (format_Samples_1 K p0 p1 p2 p3 p4 p5 p6 p7 p8 p9).bind fun r4 =>
    some r4
def format_Samples (K : Nat) (p0 : Int) (p1 : Int) (p2 : Int) (p3 : Int) (p4 : Int) (p5 : Int) (p6 : Int) (p7 : Int) (p8 : Int) (p9 : Int) : Option (Int) :=
  (format_of K p0 p1 p2 p3 p4 p5 p6 p7 p8 p9).bind fun r2 =>
  some r2
def format_of_2 (K : Nat) (p0 : Int) (p1 : Int) (p2 : Int) (p3 : Int) (p4 : Int) (p5 : Int) (p6 : Int) (p7 : Int) (p8 : Int) (p9 : Int) : Option (Int) :=
  (format_Check K p0 p1 p2 p3 p4 p5 p6 p7 p8 p9).bind fun r3 =>
  bif (r3 != 0) then
    some 0
  else
    (format_bits K p0 p1 p2 p3 p4 p5 p6 p7 p8 p9).bind fun r4 =>
    some r4
def format_Bits (K : Nat) (p0 : Int) (p1 : Int) (p2 : Int) (p3 : Int) (p4 : Int) (p5 : Int) (p6 : Int) (p7 : Int) (p8 : Int) (p9 : Int) : Option (Int) :=
  (format_of_2 K p0 p1 p2 p3 p4 p5 p6 p7 p8 p9).bind fun r2 =>
  some r2
def format_of_3 (K : Nat) (p0 : Int) (p1 : Int) (p2 : Int) (p3 : Int) (p4 : Int) (p5 : Int) (p6 : Int) (p7 : Int) (p8 : Int) (p9 : Int) : Option (Int) :=
  (format_Check K p0 p1 p2 p3 p4 p5 p6 p7 p8 p9).bind fun r3 =>
  bif (r3 != 0) then
    some 0
  else
    (format_payload K p0 p1 p2 p3 p4 p5 p6 p7 p8 p9).bind fun r4 =>
    some r4
def format_Payload (K : Nat) (p0 : Int) (p1 : Int) (p2 : Int) (p3 : Int) (p4 : Int) (p5 : Int) (p6 : Int) (p7 : Int) (p8 : Int) (p9 : Int) : Option (Int) :=
  (format_of_3 K p0 p1 p2 p3 p4 p5 p6 p7 p8 p9).bind fun r2 =>
  some r2
def psalterylaw11_alive (K : Nat)  : Option (Bool) :=
  (
    (format_Check K 1 0 1 4 4 0 0 2 0 0).bind fun r13 =>
    bif (r13 == 0) then
      (format_Samples K 1 0 1 4 4 0 0 2 0 0).bind fun r14 =>
      bif (r14 == 16) then
        (format_Bits K 1 0 1 4 4 0 0 2 0 0).bind fun r15 =>
        bif (r15 == 56) then
          (format_Payload K 1 0 1 4 4 0 0 2 0 0).bind fun r16 =>
          bif (r16 == 7) then
            (format_Check K 0 0 0 0 0 0 0 0 0 0).bind fun r17 =>
            some (r17 == 110)
          else
            some false
        else
          some false
      else
        some false
    else
      some false : Option (Bool)).bind fun x12 =>
    some x12
def psalteryref11_Bits.r0 (_K : Nat) (_c0 : Int) (_c1 : Int) (c2 : Int) (c3 : Int) (_c4 : Int) (_c5 : Int) (_c6 : Int) (_c7 : Int) (_c8 : Int) (_c9 : Int) (next : Int → Int → Option (Int)) (x17 : Int) (x18 : Int) : Option (Int) :=
  let v21 := (decide (x18 < c2))
  bif v21 then
    let v22 := (kwrap .i64 (4 * c3))
    let v23 := (kwrap .i64 (x17 + v22))
    let v24 := (kwrap .i64 (x18 + 1))
    next v23 v24
  else
    some x17
def psalteryref11_Bits.l0 (K : Nat) (c0 : Int) (c1 : Int) (c2 : Int) (c3 : Int) (c4 : Int) (c5 : Int) (c6 : Int) (c7 : Int) (c8 : Int) (c9 : Int) (n : Nat) : Int → Int → Option (Int) := rounds (psalteryref11_Bits.r0 K c0 c1 c2 c3 c4 c5 c6 c7 c8 c9) (fun _ _ => none) n
def psalteryref11_Bits (K : Nat) (p0 : Int) (p1 : Int) (p2 : Int) (p3 : Int) (p4 : Int) (p5 : Int) (p6 : Int) (p7 : Int) (p8 : Int) (p9 : Int) : Option (Int) :=
  bif (p0 == 2) then
    let v7 := (kwrap .i64 (p9 * 8))
    some v7
  else
    let v8 := (kwrap .i64 (p4 * p7))
    let v9 := (kwrap .i64 (32 + v8))
    (psalteryref11_Bits.l0 K p0 p1 p2 p3 p4 p5 p6 p7 p8 p9 K v9 0 : Option (Int)).bind fun x14 =>
      (
        bif (p6 == 1) then
          let v16 := (kwrap .i64 (x14 + p3))
          some v16
        else
          some x14 : Option (Int)).bind fun x15 =>
        some x15
def psalteryref11_Sub (K : Nat) (p0 : Int) (p1 : Int) (p2 : Int) (p3 : Int) (p4 : Int) (p5 : Int) (p6 : Int) (p7 : Int) (p8 : Int) (p9 : Int) : Option (Bool) :=
  let v3 := (bif (p0 != 1) then true else (p8 != 0))
  let v4 := (bif v3 then true else (p9 != 0))
  bif v4 then
    some false
  else
    let v5 := (decide (p1 < 0))
    let v6 := (decide (p1 > 3))
    let v7 := (bif v5 then true else v6)
    let v8 := (decide (p2 < 1))
    let v9 := (bif v7 then true else v8)
    let v10 := (decide (p2 > 2))
    let v11 := (bif v9 then true else v10)
    let v12 := (decide (p5 < 0))
    let v13 := (bif v11 then true else v12)
    let v14 := (decide (p5 > 1))
    let v15 := (bif v13 then true else v14)
    bif v15 then
      some false
    else
      let v16 := (bif (p3 != 4) then (p3 != 8) else false)
      let v17 := (bif (p4 != 4) then (p4 != 8) else false)
      let v18 := (bif v17 then (p4 != 12) else false)
      let v19 := (bif v18 then (p4 != 16) else false)
      let v20 := (bif v16 then true else v19)
      bif v20 then
        some false
      else
        let v21 := (bif (p6 != 1) then true else (p2 != 2))
        let v22 := (bif (p6 != 0) then v21 else false)
        bif v22 then
          some false
        else
          (
            let v25 := (decide (p7 ≥ 2))
            let v26 := (decide (p7 ≤ 250))
            let v27 := (bif v25 then v26 else false)
            let v28 := (kwrap .i64 (16 * p3))
            let v29 := (kwrap .i64 (v28 * p2))
            let v30 := (decide (p7 ≤ v29))
            let v31 := (bif v27 then v30 else false)
            bif v31 then
              (psalteryref11_Bits K p0 p1 p2 p3 p4 p5 p6 p7 p8 p9).bind fun r32 =>
              let v33 := (decide (r32 ≤ 4096))
              some v33
            else
              some false : Option (Bool)).bind fun x24 =>
            some x24
def psalteryref09_May (_K : Nat) (p0 : Int) : Option (Bool) :=
  let v1 := (bif (p0 == 40) then true else (p0 == 60))
  let v2 := (bif v1 then true else (p0 == 80))
  let v3 := (bif v2 then true else (p0 == 120))
  some v3
def psalteryref11_Lap (K : Nat) (p0 : Int) (p1 : Int) (p2 : Int) (p3 : Int) (p4 : Int) (p5 : Int) (p6 : Int) (p7 : Int) (p8 : Int) (p9 : Int) : Option (Bool) :=
  (
    let v5 := ((p0 == 2) && (true && (true && ((p3 == 0) && ((p4 == 0) && ((p5 == 0) && ((p6 == 0) && ((p7 == 0) && true))))))))
    let v6 := (decide (p1 ≥ 0))
    let v7 := (bif v5 then v6 else false)
    let v8 := (decide (p1 ≤ 3))
    let v9 := (bif v7 then v8 else false)
    let v10 := (decide (p2 ≥ 1))
    let v11 := (bif v9 then v10 else false)
    let v12 := (decide (p2 ≤ 2))
    let v13 := (bif v11 then v12 else false)
    bif v13 then
      (psalteryref09_May K p8).bind fun r14 =>
      let v15 := (decide (p9 ≥ 20))
      let v16 := (bif r14 then v15 else false)
      let v17 := (decide (p9 ≤ 120))
      let v18 := (bif v16 then v17 else false)
      some v18
    else
      some false : Option (Bool)).bind fun x4 =>
    some x4
def psalteryref11_Check (K : Nat) (p0 : Int) (p1 : Int) (p2 : Int) (p3 : Int) (p4 : Int) (p5 : Int) (p6 : Int) (p7 : Int) (p8 : Int) (p9 : Int) : Option (Bool) :=
  (
    (psalteryref11_Sub K p0 p1 p2 p3 p4 p5 p6 p7 p8 p9).bind fun r7 =>
    bif r7 then
      some true
    else
      (psalteryref11_Lap K p0 p1 p2 p3 p4 p5 p6 p7 p8 p9).bind fun r8 =>
      some r8 : Option (Bool)).bind fun x6 =>
    some x6
def psalteryref11_Samples (_K : Nat) (p0 : Int) (_p1 : Int) (_p2 : Int) (p3 : Int) (p4 : Int) (_p5 : Int) (_p6 : Int) (_p7 : Int) (p8 : Int) (_p9 : Int) : Option (Int) :=
  bif (p0 == 2) then
    some p8
  else
    let v1 := (kwrap .i64 (p3 * p4))
    some v1
def psalteryref11_Payload.r0 (_K : Nat)  (next : Int → Option (Int)) (x11 : Int) : Option (Int) :=
  let v13 := (Int.tmod x11 8)
  bif (v13 != 0) then
    let v14 := (kwrap .i64 (x11 + 1))
    next v14
  else
    some x11
def psalteryref11_Payload.l0 (K : Nat)  (n : Nat) : Int → Option (Int) := rounds (psalteryref11_Payload.r0 K) (fun _ => none) n
def psalteryref11_Payload (K : Nat) (p0 : Int) (p1 : Int) (p2 : Int) (p3 : Int) (p4 : Int) (p5 : Int) (p6 : Int) (p7 : Int) (p8 : Int) (p9 : Int) : Option (Int) :=
  bif (p0 == 2) then
    let v5 := (kwrap .i64 (p9 * p2))
    some v5
  else
    (psalteryref11_Bits K p0 p1 p2 p3 p4 p5 p6 p7 p8 p9).bind fun r6 =>
    (psalteryref11_Payload.l0 K K r6 : Option (Int)).bind fun x9 =>
      let v10 := (kwrap .i64 (Int.tdiv x9 8))
      some v10
def psalterylaw11_FormTells (K : Nat) (p0 : Int) (p1 : Int) (p2 : Int) (p3 : Int) (p4 : Int) (p5 : Int) (p6 : Int) (p7 : Int) (p8 : Int) (p9 : Int) : Option (Bool) :=
  (psalterylaw11_alive K ).bind fun r36 =>
  bif (!r36) then
    some false
  else
    (psalteryref11_Check K p0 p1 p2 p3 p4 p5 p6 p7 p8 p9).bind fun r37 =>
    bif (!r37) then
      (
        (format_Check K p0 p1 p2 p3 p4 p5 p6 p7 p8 p9).bind fun r48 =>
        bif (r48 == 110) then
          (format_Samples K p0 p1 p2 p3 p4 p5 p6 p7 p8 p9).bind fun r49 =>
          bif (r49 == 0) then
            (format_Bits K p0 p1 p2 p3 p4 p5 p6 p7 p8 p9).bind fun r50 =>
            bif (r50 == 0) then
              (format_Payload K p0 p1 p2 p3 p4 p5 p6 p7 p8 p9).bind fun r51 =>
              some (r51 == 0)
            else
              some false
          else
            some false
        else
          some false : Option (Bool)).bind fun x47 =>
        some x47
    else
      (
        (format_Check K p0 p1 p2 p3 p4 p5 p6 p7 p8 p9).bind fun r75 =>
        bif (r75 == 0) then
          (format_Samples K p0 p1 p2 p3 p4 p5 p6 p7 p8 p9).bind fun r77 =>
          (psalteryref11_Samples K p0 p1 p2 p3 p4 p5 p6 p7 p8 p9).bind fun r78 =>
          let v79 := (bif (r75 == 0) then (r77 == r78) else false)
          bif v79 then
            (format_Bits K p0 p1 p2 p3 p4 p5 p6 p7 p8 p9).bind fun r81 =>
            (psalteryref11_Bits K p0 p1 p2 p3 p4 p5 p6 p7 p8 p9).bind fun r82 =>
            let v83 := (bif v79 then (r81 == r82) else false)
            bif v83 then
              (format_Payload K p0 p1 p2 p3 p4 p5 p6 p7 p8 p9).bind fun r85 =>
              (psalteryref11_Payload K p0 p1 p2 p3 p4 p5 p6 p7 p8 p9).bind fun r86 =>
              let v87 := (bif v83 then (r85 == r86) else false)
              some v87
            else
              let v88 := (bif v83 then false else false)
              some v88
          else
            let v89 := (bif v79 then false else false)
            bif v89 then
              (format_Payload K p0 p1 p2 p3 p4 p5 p6 p7 p8 p9).bind fun r91 =>
              (psalteryref11_Payload K p0 p1 p2 p3 p4 p5 p6 p7 p8 p9).bind fun r92 =>
              let v93 := (bif v89 then (r91 == r92) else false)
              some v93
            else
              let v94 := (bif v89 then false else false)
              some v94
        else
          let v95 := (bif (r75 == 0) then false else false)
          bif v95 then
            (format_Bits K p0 p1 p2 p3 p4 p5 p6 p7 p8 p9).bind fun r97 =>
            (psalteryref11_Bits K p0 p1 p2 p3 p4 p5 p6 p7 p8 p9).bind fun r98 =>
            let v99 := (bif v95 then (r97 == r98) else false)
            bif v99 then
              (format_Payload K p0 p1 p2 p3 p4 p5 p6 p7 p8 p9).bind fun r101 =>
              (psalteryref11_Payload K p0 p1 p2 p3 p4 p5 p6 p7 p8 p9).bind fun r102 =>
              let v103 := (r101 == r102)
              let v104 := (bif v99 then v103 else false)
              some v104
            else
              let v105 := (bif v99 then false else false)
              some v105
          else
            let v106 := (bif v95 then false else false)
            bif v106 then
              (format_Payload K p0 p1 p2 p3 p4 p5 p6 p7 p8 p9).bind fun r108 =>
              (psalteryref11_Payload K p0 p1 p2 p3 p4 p5 p6 p7 p8 p9).bind fun r109 =>
              let v110 := (r108 == r109)
              let v111 := (bif v106 then v110 else false)
              some v111
            else
              let v112 := (bif v106 then false else false)
              some v112 : Option (Bool)).bind fun x74 =>
        some x74
def psalterylaw11_FormEnds (K : Nat) (p0 : Int) (p1 : Int) (p2 : Int) (p3 : Int) (p4 : Int) (p5 : Int) (p6 : Int) (p7 : Int) (p8 : Int) (p9 : Int) : Option (Bool) :=
  (psalterylaw11_alive K ).bind fun r12 =>
  bif (!r12) then
    some false
  else
    (format_Check K p0 p1 p2 p3 p4 p5 p6 p7 p8 p9).bind fun r13 =>
    bif (r13 != 0) then
      some true
    else
      (format_Samples K p0 p1 p2 p3 p4 p5 p6 p7 p8 p9).bind fun r14 =>
      (format_Payload K p0 p1 p2 p3 p4 p5 p6 p7 p8 p9).bind fun r15 =>
      (
        let v28 := (decide (r14 < 16))
        let v29 := (decide (r14 > 128))
        let v30 := (bif v28 then true else v29)
        let v31 := (decide (r15 < 7))
        let v32 := (bif v30 then true else v31)
        let v33 := (decide (r15 > 512))
        let v34 := (bif v32 then true else v33)
        bif v34 then
          some true
        else
          (format_Bits K p0 p1 p2 p3 p4 p5 p6 p7 p8 p9).bind fun r35 =>
          let v36 := (kwrap .i64 (8 * r15))
          let v37 := (decide (r35 > v36))
          some v37 : Option (Bool)).bind fun x17 =>
        bif x17 then
          some false
        else
          let v18 := (kwrap .i64 (p7 + 1))
          let v19 := (kwrap .i64 (p9 + 1))
          (
            bif (p0 == 1) then
              some (v18, 0)
            else
              some (0, v19) : Option (Int × Int)).bind fun (x20, x21) =>
            (
              (format_Check K p0 p1 p2 p3 p4 p5 p6 x20 p8 x21).bind fun r25 =>
              bif (r25 != 0) then
                some true
              else
                (format_Payload K p0 p1 p2 p3 p4 p5 p6 x20 p8 x21).bind fun r26 =>
                let v27 := (decide (r26 ≥ r15))
                some v27 : Option (Bool)).bind fun x24 =>
              some x24
def psalterylaw11_FormatOnly.r0 (K : Nat) (c0 : Int) (c1 : Int) (c2 : Int) (c3 : Int) (c4 : Int) (c5 : Int) (c6 : Int) (c7 : Int) (c8 : Int) (c9 : Int) (c10 : Int) (next : Int → Option ((Unit) ⊕ (Bool))) (x86 : Int) : Option ((Unit) ⊕ (Bool)) :=
  let v108 := (decide (x86 < 5))
  bif v108 then
    (
      let v132 := (bif (c1 == 1) then (x86 == 0) else false)
      bif v132 then
        some (c4, c5, c6, c7, c8, c0, c10)
      else
        bif (c1 == 1) then
          some (c4, c5, c6, c7, c8, c9, c0)
        else
          bif (x86 == 0) then
            some (c0, c5, c6, c7, c8, c9, c10)
          else
            bif (x86 == 1) then
              some (c4, c0, c6, c7, c8, c9, c10)
            else
              bif (x86 == 2) then
                some (c4, c5, c0, c7, c8, c9, c10)
              else
                bif (x86 == 3) then
                  some (c4, c5, c6, c0, c8, c9, c10)
                else
                  some (c4, c5, c6, c7, c0, c9, c10) : Option (Int × Int × Int × Int × Int × Int × Int)).bind fun (x119, x120, x121, x122, x123, x124, x125) =>
      (
        (format_Check K c1 c2 c3 x119 x120 x121 x122 x123 x124 x125).bind fun r130 =>
        bif (r130 == 0) then
          some true
        else
          (format_Payload K c1 c2 c3 x119 x120 x121 x122 x123 x124 x125).bind fun r131 =>
          some (r131 != 0) : Option (Bool)).bind fun x128 =>
        bif x128 then
          some (.inr false)
        else
          let v129 := (kwrap .i64 (x86 + 1))
          next v129
  else
    some (.inl ())
def psalterylaw11_FormatOnly.l0 (K : Nat) (c0 : Int) (c1 : Int) (c2 : Int) (c3 : Int) (c4 : Int) (c5 : Int) (c6 : Int) (c7 : Int) (c8 : Int) (c9 : Int) (c10 : Int) (n : Nat) : Int → Option ((Unit) ⊕ (Bool)) := rounds (psalterylaw11_FormatOnly.r0 K c0 c1 c2 c3 c4 c5 c6 c7 c8 c9 c10) (fun _ => none) n
def psalterylaw11_FormatOnly (K : Nat) (p0 : Int) (p1 : Int) (p2 : Int) (p3 : Int) (p4 : Int) (p5 : Int) (p6 : Int) (p7 : Int) (p8 : Int) (p9 : Int) (p10 : Int) : Option (Bool) :=
  (psalterylaw11_alive K ).bind fun r37 =>
  bif (!r37) then
    some false
  else
    (format_Check K p0 p1 p2 p3 p4 p5 p6 p7 p8 p9).bind fun r38 =>
    let v39 := (bif (r38 != 0) then true else (p10 == 0))
    bif v39 then
      some true
    else
      (psalterylaw11_FormatOnly.l0 K p10 p0 p1 p2 p3 p4 p5 p6 p7 p8 p9 K 0 : Option ((Unit) ⊕ (Bool))).bind fun z => match z with
      | .inl _ =>
        some true
      | .inr r =>
        some r
end Go.Fo
