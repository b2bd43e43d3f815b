/- The functions of Go that are reached, as functions of plain values. -/
import Derived.Test.YtcaehpgdcjonfaaK3
namespace Go.Fo
def format_within (_K : Nat) (p0 : Int) (p1 : Int) (p2 : Int) : Option (Bool) :=
  let v1 := (decide (p0 ≥ p1))
  let v2 := (decide (p0 ≤ p2))
  let v3 := (bif v1 then v2 else false)
  some v3
def slices_Index_bool_bool.r0 (_K : Nat) (c0 : Bool) (c1 : Int) (c2 : List (Bool)) (next : Int → Option ((Unit) ⊕ (Int))) (x5 : Int) : Option ((Unit) ⊕ (Int)) :=
  let v7 := (decide (x5 < c1))
  bif v7 then
    let v8 := (Kd.nth (.bool) c2 (Int.toNat x5))
    gd ((0 : Int) ≤ x5 ∧ x5 < (c2.length : Int) ∧ (Int.toNat x5) < c2.length) <|
    bif (c0 == v8) then
      some (.inr x5)
    else
      let v9 := (kwrap .i64 (x5 + 1))
      next v9
  else
    some (.inl ())
def slices_Index_bool_bool.l0 (K : Nat) (c0 : Bool) (c1 : Int) (c2 : List (Bool)) (n : Nat) : Int → Option ((Unit) ⊕ (Int)) := rounds (slices_Index_bool_bool.r0 K c0 c1 c2) (fun _ => none) n
def slices_Index_bool_bool (K : Nat) (p0 : Bool) (p1 : List (Bool)) : Option (Int) :=
  (slices_Index_bool_bool.l0 K p0 (p1.length : Int) p1 K 0 : Option ((Unit) ⊕ (Int))).bind fun z => match z with
  | .inl _ =>
    some (-1)
  | .inr r =>
    some r
def slices_Contains_bool_bool (K : Nat) (p0 : Bool) (p1 : List (Bool)) : Option (Bool) :=
  (slices_Index_bool_bool K p0 p1).bind fun r2 =>
  let v3 := (decide (r2 ≥ 0))
  some v3
def format_all (K : Nat) (p0 : List (Bool)) : Option (Bool) :=
  (slices_Contains_bool_bool K false p0).bind fun r2 =>
  some (!r2)
def lapped_lengths (_K : Nat)  : Option (Unit) :=
  some ()
def lapped_Lengths (K : Nat)  : Option ((List (Int))) :=
  (lapped_lengths K ).bind fun _ =>
  let v1 := [(40, (60, (80, 120))).1, (40, (60, (80, 120))).2.1, (40, (60, (80, 120))).2.2.1, (40, (60, (80, 120))).2.2.2]
  some v1
def slices_Index_int_int.r0 (_K : Nat) (c0 : List (Int)) (c1 : Int) (c2 : Int) (next : Int → Option ((Unit) ⊕ (Int))) (x5 : Int) : Option ((Unit) ⊕ (Int)) :=
  let v7 := (decide (x5 < c2))
  bif v7 then
    let v8 := (Kd.nth (.int .i64) c0 (Int.toNat x5))
    gd ((0 : Int) ≤ x5 ∧ x5 < (c0.length : Int)) <|
    bif (c1 == v8) then
      some (.inr x5)
    else
      let v9 := (kwrap .i64 (x5 + 1))
      next v9
  else
    some (.inl ())
def slices_Index_int_int.l0 (K : Nat) (c0 : List (Int)) (c1 : Int) (c2 : Int) (n : Nat) : Int → Option ((Unit) ⊕ (Int)) := rounds (slices_Index_int_int.r0 K c0 c1 c2) (fun _ => none) n
def slices_Index_int_int (K : Nat) (p0 : List (Int)) (p1 : Int) : Option (Int) :=
  (slices_Index_int_int.l0 K p0 p1 (p0.length : Int) K 0 : Option ((Unit) ⊕ (Int))).bind fun z => match z with
  | .inl _ =>
    some (-1)
  | .inr r =>
    some r
def slices_Contains_int_int (K : Nat) (p0 : List (Int)) (p1 : Int) : Option (Bool) :=
  (slices_Index_int_int K p0 p1).bind fun r2 =>
  let v3 := (decide (r2 ≥ 0))
  some v3
def format_fields (K : Nat) (p0 : Int) (p1 : Int) (p2 : Int) (p3 : Int) (p4 : Int) (p5 : Int) (p6 : Int) (p7 : Int) (p8 : Int) (p9 : Int) : Option (Bool) :=
  (format_within K p1 0 3).bind fun r64 =>
  (format_within K p2 1 2).bind fun r65 =>
  (format_all K [r64, r65]).bind fun r66 =>
  bif (p0 == 1) then
    (
      bif r66 then
        let v116 := (bif (p3 == 4) then true else (p3 == 8))
        let v117 := (Int.tmod p4 4)
        bif (v117 == 0) then
          (format_within K p4 4 16).bind fun r119 =>
          let v120 := (bif (v117 == 0) then r119 else false)
          (format_within K p5 0 1).bind fun r121 =>
          let v122 := (kwrap .i64 (p2 - 1))
          (format_within K p6 0 v122).bind fun r123 =>
          let v124 := (kwrap .i64 (16 * p3))
          let v125 := (kwrap .i64 (v124 * p2))
          let v126 := (imin v125 250)
          (format_within K p7 2 v126).bind fun r127 =>
          let v128 := (bif (p8 == 0) then (p9 == 0) else false)
          let v129 := [v116, v120, r121, r123, r127, v128]
          (format_all K v129).bind fun r130 =>
          let v131 := (bif r66 then r130 else false)
          some v131
        else
          let v132 := (bif (v117 == 0) then false else false)
          (format_within K p5 0 1).bind fun r133 =>
          let v134 := (kwrap .i64 (p2 - 1))
          (format_within K p6 0 v134).bind fun r135 =>
          let v136 := (kwrap .i64 (16 * p3))
          let v137 := (kwrap .i64 (v136 * p2))
          let v138 := (imin v137 250)
          (format_within K p7 2 v138).bind fun r139 =>
          let v140 := (bif (p8 == 0) then (p9 == 0) else false)
          let v141 := [v116, v132, r133, r135, r139, v140]
          (format_all K v141).bind fun r142 =>
          let v143 := (bif r66 then r142 else false)
          some v143
      else
        let v144 := (bif r66 then false else false)
        some v144 : Option (Bool)).bind fun x114 =>
      some x114
  else
    bif (p0 == 2) then
      (
        bif r66 then
          (lapped_Lengths K ).bind fun r158 =>
          (slices_Contains_int_int K r158 p8).bind fun r159 =>
          (format_within K p9 20 120).bind fun r160 =>
          let v161 := (bif (p3 == 0) then (p4 == 0) else false)
          let v162 := (bif v161 then (p5 == 0) else false)
          let v163 := (bif v162 then (p6 == 0) else false)
          let v164 := (bif v163 then (p7 == 0) else false)
          let v165 := [r159, r160, v164]
          (format_all K v165).bind fun r166 =>
          let v167 := (bif r66 then r166 else false)
          some v167
        else
          let v168 := (bif r66 then false else false)
          some v168 : Option (Bool)).bind fun x156 =>
        some x156
    else
      some false
def format_bits (_K : Nat) (p0 : Int) (_p1 : Int) (p2 : Int) (p3 : Int) (p4 : Int) (_p5 : Int) (p6 : Int) (p7 : Int) (_p8 : Int) (p9 : Int) : Option (Int) :=
  bif (p0 == 2) then
    let v1 := (kwrap .i64 (8 * p9))
    some v1
  else
    let v2 := (kwrap .i64 (p6 * p3))
    let v3 := (kwrap .i64 (32 + v2))
    let v4 := (kwrap .i64 (4 * p3))
    let v5 := (kwrap .i64 (v4 * p2))
    let v6 := (kwrap .i64 (v3 + v5))
    let v7 := (kwrap .i64 (p4 * p7))
    let v8 := (kwrap .i64 (v6 + v7))
    some v8
def format_payload (K : Nat) (p0 : Int) (p1 : Int) (p2 : Int) (p3 : Int) (p4 : Int) (p5 : Int) (p6 : Int) (p7 : Int) (p8 : Int) (p9 : Int) : Option (Int) :=
  bif (p0 == 2) then
    let v2 := (kwrap .i64 (p9 * p2))
    some v2
  else
    (format_bits K p0 p1 p2 p3 p4 p5 p6 p7 p8 p9).bind fun r3 =>
    let v4 := (kwrap .i64 (r3 + 7))
    let v5 := (kwrap .i64 (Int.tdiv v4 8))
    some v5
def format_Check (K : Nat) (p0 : Int) (p1 : Int) (p2 : Int) (p3 : Int) (p4 : Int) (p5 : Int) (p6 : Int) (p7 : Int) (p8 : Int) (p9 : Int) : Option (Int) :=
  (
    (format_fields K p0 p1 p2 p3 p4 p5 p6 p7 p8 p9).bind fun r7 =>
    bif (!r7) then
      some true
    else
      (format_payload K p0 p1 p2 p3 p4 p5 p6 p7 p8 p9).bind fun r8 =>
      let v9 := (decide (r8 > 512))
      some v9 : Option (Bool)).bind fun x6 =>
    bif x6 then
      some 110
    else
      some 0
def alloc_may.r1 (_K : Nat) (_c0 : List (List (Int))) (_c1 : Int) (_c2 : Int) (c3 : List (Int)) (c4 : Int) (_c5 : Int) (_c6 : Int) (_c7 : Int) (_c8 : Int) (_c9 : Int) (_c10 : Int) (_c11 : Int) (_c12 : Int) (_c13 : Int) (_c14 : Int) (next : Int → Option ((Unit) ⊕ (Int))) (x43 : Int) : Option ((Unit) ⊕ (Int)) :=
  let v45 := (decide (x43 < c4))
  bif v45 then
    let v46 := (Kd.nth (.int .i64) c3 (Int.toNat x43))
    gd ((0 : Int) ≤ x43 ∧ x43 < (c3.length : Int)) <|
    let v47 := (decide (v46 < 0))
    let v48 := (decide (v46 > 15))
    let v49 := (bif v47 then true else v48)
    bif v49 then
      some (.inr 1)
    else
      let v50 := (kwrap .i64 (x43 + 1))
      next v50
  else
    some (.inl ())
def alloc_may.l1 (K : Nat) (c0 : List (List (Int))) (c1 : Int) (c2 : Int) (c3 : List (Int)) (c4 : Int) (c5 : Int) (c6 : Int) (c7 : Int) (c8 : Int) (c9 : Int) (c10 : Int) (c11 : Int) (c12 : Int) (c13 : Int) (c14 : Int) (n : Nat) : Int → Option ((Unit) ⊕ (Int)) := rounds (alloc_may.r1 K c0 c1 c2 c3 c4 c5 c6 c7 c8 c9 c10 c11 c12 c13 c14) (fun _ => none) n
def alloc_may.r0 (K : Nat) (c0 : List (List (Int))) (c1 : Int) (c2 : Int) (c3 : Int) (c4 : Int) (c5 : Int) (c6 : Int) (c7 : Int) (c8 : Int) (c9 : Int) (c10 : Int) (c11 : Int) (next : Int → Option ((Unit) ⊕ (Int))) (x29 : Int) : Option ((Unit) ⊕ (Int)) :=
  let v35 := (decide (x29 < c1))
  bif v35 then
    let v38 := (Kd.nth (.slice (.int .i64)) c0 (Int.toNat x29))
    gd ((0 : Int) ≤ x29 ∧ x29 < (c0.length : Int)) <|
    let v39 := (v38.length : Int)
    bif (v39 != c5) then
      some (.inr 1)
    else
      (alloc_may.l1 K c0 c1 x29 v38 v39 c2 c3 c4 c5 c6 c7 c8 c9 c10 c11 K 0 : Option ((Unit) ⊕ (Int))).bind fun z => match z with
      | .inl _ =>
        let v42 := (kwrap .i64 (x29 + 1))
        next v42
      | .inr r =>
        some (.inr r)
  else
    some (.inl ())
def alloc_may.l0 (K : Nat) (c0 : List (List (Int))) (c1 : Int) (c2 : Int) (c3 : Int) (c4 : Int) (c5 : Int) (c6 : Int) (c7 : Int) (c8 : Int) (c9 : Int) (c10 : Int) (c11 : Int) (n : Nat) : Int → Option ((Unit) ⊕ (Int)) := rounds (alloc_may.r0 K c0 c1 c2 c3 c4 c5 c6 c7 c8 c9 c10 c11) (fun _ => none) n
def alloc_may (K : Nat) (p0 : Int) (p1 : Int) (p2 : Int) (p3 : Int) (p4 : Int) (p5 : Int) (p6 : Int) (p7 : Int) (p8 : Int) (p9 : Int) (p10 : List (List (Int))) : Option (Int) :=
  (format_Check K p0 p1 p2 p3 p4 p5 p6 p7 p8 p9).bind fun r12 =>
  let v13 := (bif (r12 != 0) then true else (p0 != 1))
  bif v13 then
    some 110
  else
    let v14 := ((p10.length : Int) != p2)
    bif v14 then
      some 1
    else
      (alloc_may.l0 K p10 (p10.length : Int) p0 p1 p2 p3 p4 p5 p6 p7 p8 p9 K 0 : Option ((Unit) ⊕ (Int))).bind fun z => match z with
      | .inl _ =>
        some 0
      | .inr r =>
        some r
def alloc_four (_K : Nat)  : Option (Unit) :=
  some ()
def alloc_eight (_K : Nat)  : Option (Unit) :=
  some ()
def alloc_offset (K : Nat) (_p0 : Int) (p1 : Int) (_p2 : Int) (p3 : Int) (_p4 : Int) (_p5 : Int) (_p6 : Int) (_p7 : Int) (_p8 : Int) (_p9 : Int) (p10 : Int) : Option (Int) :=
  bif (p3 == 4) then
    (alloc_four K ).bind fun _ =>
    let v1 := (List.getD [(-1), 0, 0, 0, (-2), 0, 0, 1, (-2), 0, 0, 1, (-2), 0, 0, 1] ((Int.toNat p1) * 4 + 0) 0)
    let v2 := (List.getD [(-1), 0, 0, 0, (-2), 0, 0, 1, (-2), 0, 0, 1, (-2), 0, 0, 1] ((Int.toNat p1) * 4 + 1) 0)
    let v3 := (List.getD [(-1), 0, 0, 0, (-2), 0, 0, 1, (-2), 0, 0, 1, (-2), 0, 0, 1] ((Int.toNat p1) * 4 + 2) 0)
    let v4 := (List.getD [(-1), 0, 0, 0, (-2), 0, 0, 1, (-2), 0, 0, 1, (-2), 0, 0, 1] ((Int.toNat p1) * 4 + 3) 0)
    gd ((0 : Int) ≤ p1 ∧ p1 < (4 : Int)) <|
    let v5 := (List.getD [v1, v2, v3, v4] (Int.toNat p10) 0)
    gd ((0 : Int) ≤ p10 ∧ p10 < 4) <|
    some v5
  else
    (alloc_eight K ).bind fun _ =>
    let v6 := (List.getD [(-2), 0, 0, 0, 0, 0, 0, 1, (-3), 0, 0, 0, 0, 0, 1, 2, (-4), 0, 0, 0, 0, 0, 1, 2, (-4), 0, 0, 0, 0, 0, 1, 2] ((Int.toNat p1) * 8 + 0) 0)
    let v7 := (List.getD [(-2), 0, 0, 0, 0, 0, 0, 1, (-3), 0, 0, 0, 0, 0, 1, 2, (-4), 0, 0, 0, 0, 0, 1, 2, (-4), 0, 0, 0, 0, 0, 1, 2] ((Int.toNat p1) * 8 + 1) 0)
    let v8 := (List.getD [(-2), 0, 0, 0, 0, 0, 0, 1, (-3), 0, 0, 0, 0, 0, 1, 2, (-4), 0, 0, 0, 0, 0, 1, 2, (-4), 0, 0, 0, 0, 0, 1, 2] ((Int.toNat p1) * 8 + 2) 0)
    let v9 := (List.getD [(-2), 0, 0, 0, 0, 0, 0, 1, (-3), 0, 0, 0, 0, 0, 1, 2, (-4), 0, 0, 0, 0, 0, 1, 2, (-4), 0, 0, 0, 0, 0, 1, 2] ((Int.toNat p1) * 8 + 3) 0)
    let v10 := (List.getD [(-2), 0, 0, 0, 0, 0, 0, 1, (-3), 0, 0, 0, 0, 0, 1, 2, (-4), 0, 0, 0, 0, 0, 1, 2, (-4), 0, 0, 0, 0, 0, 1, 2] ((Int.toNat p1) * 8 + 4) 0)
    let v11 := (List.getD [(-2), 0, 0, 0, 0, 0, 0, 1, (-3), 0, 0, 0, 0, 0, 1, 2, (-4), 0, 0, 0, 0, 0, 1, 2, (-4), 0, 0, 0, 0, 0, 1, 2] ((Int.toNat p1) * 8 + 5) 0)
    let v12 := (List.getD [(-2), 0, 0, 0, 0, 0, 0, 1, (-3), 0, 0, 0, 0, 0, 1, 2, (-4), 0, 0, 0, 0, 0, 1, 2, (-4), 0, 0, 0, 0, 0, 1, 2] ((Int.toNat p1) * 8 + 6) 0)
    let v13 := (List.getD [(-2), 0, 0, 0, 0, 0, 0, 1, (-3), 0, 0, 0, 0, 0, 1, 2, (-4), 0, 0, 0, 0, 0, 1, 2, (-4), 0, 0, 0, 0, 0, 1, 2] ((Int.toNat p1) * 8 + 7) 0)
    gd ((0 : Int) ≤ p1 ∧ p1 < (4 : Int)) <|
    let v14 := (List.getD [v6, v7, v8, v9, v10, v11, v12, v13] (Int.toNat p10) 0)
    gd ((0 : Int) ≤ p10 ∧ p10 < 8) <|
    some v14
def alloc_need (K : Nat) (p0 : Int) (p1 : Int) (p2 : Int) (p3 : Int) (p4 : Int) (p5 : Int) (p6 : Int) (p7 : Int) (p8 : Int) (p9 : Int) (p10 : Int) (p11 : Int) : Option (Int) :=
  bif (p5 == 1) then
    some p10
  else
    bif (p10 == 0) then
      some (-5)
    else
      (alloc_offset K p0 p1 p2 p3 p4 p5 p6 p7 p8 p9 p11).bind fun r3 =>
      let v4 := (kwrap .i64 (p10 - r3))
      let v5 := (decide (v4 > 0))
      (
        bif v5 then
          let v7 := (kwrap .i64 (Int.tdiv v4 2))
          some v7
        else
          some v4 : Option (Int)).bind fun x6 =>
        some x6
def alloc_Needs.r1 (K : Nat) (_c0 : List (List (Int))) (c1 : List (Int)) (c2 : Int) (c3 : Int) (c4 : Int) (c5 : Int) (c6 : Int) (c7 : Int) (c8 : Int) (c9 : Int) (c10 : Int) (c11 : Int) (c12 : Int) (next : Int → Int → List (Int) → Option (Int × (List (Int)))) (x285 : Int) (x286 : Int) (x287 : List (Int)) : Option (Int × (List (Int))) :=
  let v293 := (decide (x286 < c2))
  bif v293 then
    let v295 := (Kd.nth (.int .i64) c1 (Int.toNat x286))
    gd ((0 : Int) ≤ x286 ∧ x286 < (c1.length : Int)) <|
    bif x285 == 0 then
      (alloc_need K c3 c4 c5 c6 c7 c8 c9 c10 c11 c12 v295 x286).bind fun r296 =>
      let v297 := (x287 ++ [r296])
      gd (((x287.length : Int) + ([r296].length : Int)) * 8 ≤ 70368744177664) <|
      let v298 := (kwrap .i64 (x286 + 1))
      next 0 v298 v297
    else
      none
  else
    some (x285, x287)
def alloc_Needs.l1 (K : Nat) (c0 : List (List (Int))) (c1 : List (Int)) (c2 : Int) (c3 : Int) (c4 : Int) (c5 : Int) (c6 : Int) (c7 : Int) (c8 : Int) (c9 : Int) (c10 : Int) (c11 : Int) (c12 : Int) (n : Nat) : Int → Int → List (Int) → Option (Int × (List (Int))) := rounds (alloc_Needs.r1 K c0 c1 c2 c3 c4 c5 c6 c7 c8 c9 c10 c11 c12) (fun _ _ _ => none) n
def alloc_Needs.r0 (K : Nat) (c0 : List (List (Int))) (c1 : Int) (c2 : Int) (c3 : Int) (c4 : Int) (c5 : Int) (c6 : Int) (c7 : Int) (c8 : Int) (c9 : Int) (c10 : Int) (next : Int → List (Int) → Option ((List (Int)))) (x227 : Int) (x228 : List (Int)) : Option ((List (Int))) :=
  let v255 := (decide (x227 < 1))
  bif v255 then
    let v268 := (Kd.nth (.slice (.int .i64)) c0 (Int.toNat x227))
    let v269 := (v268.length : Int)
    gd ((0 : Int) ≤ x227 ∧ x227 < (c0.length : Int)) <|
    (alloc_Needs.l1 K c0 v268 v269 c1 c2 c3 c4 c5 c6 c7 c8 c9 c10 K x227 0 x228 : Option (Int × (List (Int)))).bind fun (x280, x281) =>
      let v282 := (kwrap .i64 (x280 + 1))
      next v282 x281
  else
    some x228
def alloc_Needs.l0 (K : Nat) (c0 : List (List (Int))) (c1 : Int) (c2 : Int) (c3 : Int) (c4 : Int) (c5 : Int) (c6 : Int) (c7 : Int) (c8 : Int) (c9 : Int) (c10 : Int) (n : Nat) : Int → List (Int) → Option ((List (Int))) := rounds (alloc_Needs.r0 K c0 c1 c2 c3 c4 c5 c6 c7 c8 c9 c10) (fun _ _ => none) n
def alloc_Needs.r3 (K : Nat) (_c0 : List (List (Int))) (c1 : List (Int)) (c2 : Int) (c3 : Int) (c4 : Int) (c5 : Int) (c6 : Int) (c7 : Int) (c8 : Int) (c9 : Int) (c10 : Int) (c11 : Int) (c12 : Int) (next : Int → Int → List (Int) → List (Int) → Option (Int × (List (Int)) × (List (Int)))) (x572 : Int) (x573 : Int) (x574 : List (Int)) (x575 : List (Int)) : Option (Int × (List (Int)) × (List (Int))) :=
  let v585 := (decide (x573 < c2))
  bif v585 then
    (
      let v592 := (Kd.nth (.int .i64) c1 (Int.toNat x573))
      gd ((0 : Int) ≤ x573 ∧ x573 < (c1.length : Int)) <|
      bif x572 == 0 then
        (alloc_need K c3 c4 c5 c6 c7 c8 c9 c10 c11 c12 v592 x573).bind fun r593 =>
        let v594 := (x574 ++ [r593])
        gd (((x574.length : Int) + ([r593].length : Int)) * 8 ≤ 70368744177664) <|
        some (0, v594, x575)
      else
        bif x572 == 1 then
          (alloc_need K c3 c4 c5 c6 c7 c8 c9 c10 c11 c12 v592 x573).bind fun r595 =>
          let v596 := (x575 ++ [r595])
          gd (((x575.length : Int) + ([r595].length : Int)) * 8 ≤ 70368744177664) <|
          some (1, x574, v596)
        else
          none : Option (Int × (List (Int)) × (List (Int)))).bind fun (x588, x589, x590) =>
      let v591 := (kwrap .i64 (x573 + 1))
      next x588 v591 x589 x590
  else
    some (x572, x574, x575)
def alloc_Needs.l3 (K : Nat) (c0 : List (List (Int))) (c1 : List (Int)) (c2 : Int) (c3 : Int) (c4 : Int) (c5 : Int) (c6 : Int) (c7 : Int) (c8 : Int) (c9 : Int) (c10 : Int) (c11 : Int) (c12 : Int) (n : Nat) : Int → Int → List (Int) → List (Int) → Option (Int × (List (Int)) × (List (Int))) := rounds (alloc_Needs.r3 K c0 c1 c2 c3 c4 c5 c6 c7 c8 c9 c10 c11 c12) (fun _ _ _ _ => none) n
def alloc_Needs.r2 (K : Nat) (c0 : List (List (Int))) (c1 : Int) (c2 : Int) (c3 : Int) (c4 : Int) (c5 : Int) (c6 : Int) (c7 : Int) (c8 : Int) (c9 : Int) (c10 : Int) (next : Int → List (Int) → List (Int) → Option ((List (Int)) × (List (Int)))) (x473 : Int) (x474 : List (Int)) (x475 : List (Int)) : Option ((List (Int)) × (List (Int))) :=
  let v521 := (decide (x473 < 2))
  bif v521 then
    let v543 := (Kd.nth (.slice (.int .i64)) c0 (Int.toNat x473))
    let v544 := (v543.length : Int)
    gd ((0 : Int) ≤ x473 ∧ x473 < (c0.length : Int)) <|
    (alloc_Needs.l3 K c0 v543 v544 c1 c2 c3 c4 c5 c6 c7 c8 c9 c10 K x473 0 x474 x475 : Option (Int × (List (Int)) × (List (Int)))).bind fun (x563, x564, x565) =>
      let v566 := (kwrap .i64 (x563 + 1))
      next v566 x564 x565
  else
    some (x474, x475)
def alloc_Needs.l2 (K : Nat) (c0 : List (List (Int))) (c1 : Int) (c2 : Int) (c3 : Int) (c4 : Int) (c5 : Int) (c6 : Int) (c7 : Int) (c8 : Int) (c9 : Int) (c10 : Int) (n : Nat) : Int → List (Int) → List (Int) → Option ((List (Int)) × (List (Int))) := rounds (alloc_Needs.r2 K c0 c1 c2 c3 c4 c5 c6 c7 c8 c9 c10) (fun _ _ _ => none) n
def alloc_Needs (K : Nat) (p0 : Int) (p1 : Int) (p2 : Int) (p3 : Int) (p4 : Int) (p5 : Int) (p6 : Int) (p7 : Int) (p8 : Int) (p9 : Int) (p10 : List (List (Int))) : Option ((Int) ⊕ ((List (List (Int))))) :=
  (alloc_may K p0 p1 p2 p3 p4 p5 p6 p7 p8 p9 p10).bind fun r161 =>
  bif (r161 != 0) then
    some (.inl r161)
  else
    bif p2 == 1 then
      (alloc_Needs.l0 K p10 p0 p1 p2 p3 p4 p5 p6 p7 p8 p9 K 0 ([] : List (Int)) : Option ((List (Int)))).bind fun x208 =>
        some (.inr ([x208]))
    else
      bif p2 == 2 then
        (alloc_Needs.l2 K p10 p0 p1 p2 p3 p4 p5 p6 p7 p8 p9 K 0 ([] : List (Int)) ([] : List (Int)) : Option ((List (Int)) × (List (Int)))).bind fun (x409, x410) =>
          some (.inr ([x409, x410]))
      else
        none
def alloc_sharing_cut_1 (_K : Nat) (p0 : Int) (_p1 : Nat) (_p2 : List (Int)) (_p3 : Int) (p4 : Int) (_p5 : Int) (_p6 : List (List (Int))) : Option (Int) :=
  some (imax p4 p0)
def alloc_sharing_each.r1 (K : Nat) (c0 : Int) (_c1 : Int) (c2 : Int) (c3 : Int) (c4 : Int) (c5 : List (List (Int))) (c6 : List (Int)) (next : Int → Int → Option (Int)) (x147 : Int) (x148 : Int) : Option (Int) :=
  let v153 := (decide (x147 < c2))
  bif v153 then
    bif x147 == 0 then
      let v155 := (Kd.nth (.slice (.int .i64)) c5 0)
      gd (0 < (c5.length : Int)) <|
      let v156 := (Kd.nth (.int .i64) v155 (Int.toNat c0))
      gd ((0 : Int) ≤ c0 ∧ c0 < (v155.length : Int)) <|
      gd ((0 : Int) ≤ c0 ∧ c0 < (c6.length : Int)) <|
      (alloc_sharing_cut_1 K v156 (Int.toNat c0) c6 c3 x148 c4 c5).bind fun r157 =>
      next 1 r157
    else
      none
  else
    some x148
def alloc_sharing_each.l1 (K : Nat) (c0 : Int) (c1 : Int) (c2 : Int) (c3 : Int) (c4 : Int) (c5 : List (List (Int))) (c6 : List (Int)) (n : Nat) : Int → Int → Option (Int) := rounds (alloc_sharing_each.r1 K c0 c1 c2 c3 c4 c5 c6) (fun _ _ => none) n
def alloc_sharing_each.r0 (K : Nat) (c0 : Int) (c1 : Int) (c2 : Int) (c3 : List (List (Int))) (c4 : List (Int)) (next : Int → Int → Option (Int)) (x103 : Int) (x104 : Int) : Option (Int) :=
  let v125 := (decide (x103 < c0))
  bif v125 then
    (alloc_sharing_each.l1 K x103 c0 (c3.length : Int) c1 c2 c3 c4 K 0 x104 : Option (Int)).bind fun x143 =>
      let v144 := (kwrap .i64 (x103 + 1))
      next v144 x143
  else
    some x104
def alloc_sharing_each.l0 (K : Nat) (c0 : Int) (c1 : Int) (c2 : Int) (c3 : List (List (Int))) (c4 : List (Int)) (n : Nat) : Int → Int → Option (Int) := rounds (alloc_sharing_each.r0 K c0 c1 c2 c3 c4) (fun _ _ => none) n
def alloc_sharing_each (K : Nat) (p0 : Int) (p1 : Int) (p2 : Int) (p3 : List (List (Int))) (p4 : List (Int)) : Option (Int) :=
  let v42 := (Kd.nth (.slice (.int .i64)) p3 0)
  let v43 := (v42.length : Int)
  gd (0 < (p3.length : Int)) <|
  (alloc_sharing_each.l0 K v43 p0 p2 p3 p4 K 0 p1 : Option (Int)).bind fun x84 =>
    some x84
def alloc_sharing_costs_1 (_K : Nat) (p0 : Int) (_p1 : Nat) (_p2 : List (Int)) (p3 : Int) (_p4 : Int) (p5 : Int) (_p6 : Int) (_p7 : List (List (Int))) : Option (Int) :=
  let v2 := (kwrap .i64 (p0 - p5))
  (
    bif (v2 == 1) then
      let v4 := (kwrap .i64 (p3 + 2))
      some v4
    else
      let v5 := (decide (v2 > 1))
      let v6 := (decide (v2 < 16))
      let v7 := (bif v5 then v6 else false)
      bif v7 then
        let v8 := (kwrap .i64 (p3 + 1))
        some v8
      else
        some p3 : Option (Int)).bind fun x3 =>
    some x3
def alloc_sharing_each_2.r1 (K : Nat) (c0 : Int) (_c1 : Int) (c2 : Int) (c3 : Int) (c4 : Int) (c5 : Int) (c6 : List (List (Int))) (c7 : List (Int)) (next : Int → Int → Option (Int)) (x147 : Int) (x148 : Int) : Option (Int) :=
  let v153 := (decide (x147 < c2))
  bif v153 then
    bif x147 == 0 then
      let v155 := (Kd.nth (.slice (.int .i64)) c6 0)
      gd (0 < (c6.length : Int)) <|
      let v156 := (Kd.nth (.int .i64) v155 (Int.toNat c0))
      gd ((0 : Int) ≤ c0 ∧ c0 < (v155.length : Int)) <|
      gd ((0 : Int) ≤ c0 ∧ c0 < (c7.length : Int)) <|
      (alloc_sharing_costs_1 K v156 (Int.toNat c0) c7 x148 c3 c4 c5 c6).bind fun r157 =>
      next 1 r157
    else
      none
  else
    some x148
def alloc_sharing_each_2.l1 (K : Nat) (c0 : Int) (c1 : Int) (c2 : Int) (c3 : Int) (c4 : Int) (c5 : Int) (c6 : List (List (Int))) (c7 : List (Int)) (n : Nat) : Int → Int → Option (Int) := rounds (alloc_sharing_each_2.r1 K c0 c1 c2 c3 c4 c5 c6 c7) (fun _ _ => none) n
def alloc_sharing_each_2.r0 (K : Nat) (c0 : Int) (c1 : Int) (c2 : Int) (c3 : Int) (c4 : List (List (Int))) (c5 : List (Int)) (next : Int → Int → Option (Int)) (x103 : Int) (x104 : Int) : Option (Int) :=
  let v125 := (decide (x103 < c0))
  bif v125 then
    (alloc_sharing_each_2.l1 K x103 c0 (c4.length : Int) c1 c2 c3 c4 c5 K 0 x104 : Option (Int)).bind fun x143 =>
      let v144 := (kwrap .i64 (x103 + 1))
      next v144 x143
  else
    some x104
def alloc_sharing_each_2.l0 (K : Nat) (c0 : Int) (c1 : Int) (c2 : Int) (c3 : Int) (c4 : List (List (Int))) (c5 : List (Int)) (n : Nat) : Int → Int → Option (Int) := rounds (alloc_sharing_each_2.r0 K c0 c1 c2 c3 c4 c5) (fun _ _ => none) n
def alloc_sharing_each_2 (K : Nat) (p0 : Int) (p1 : Int) (p2 : Int) (p3 : List (List (Int))) (p4 : Int) (p5 : List (Int)) : Option (Int) :=
  let v42 := (Kd.nth (.slice (.int .i64)) p3 0)
  let v43 := (v42.length : Int)
  gd (0 < (p3.length : Int)) <|
  (alloc_sharing_each_2.l0 K v43 p0 p1 p2 p3 p5 K 0 p4 : Option (Int)).bind fun x84 =>
    some x84
def alloc_sharing_costs (K : Nat) (p0 : Int) (p1 : Int) (p2 : Int) (p3 : List (List (Int))) (p4 : List (Int)) : Option (Int) :=
  (alloc_sharing_each_2 K p0 p1 p2 p3 0 p4).bind fun r2 =>
  some r2
def alloc_sharing_cut.r0 (K : Nat) (c0 : Int) (c1 : List (List (Int))) (c2 : List (Int)) (next : Int → Int → Int → Option (Int × Int × Int)) (x30 : Int) (x31 : Int) (x32 : Int) : Option (Int × Int × Int) :=
  let v37 := (kwrap .i64 (x32 + x30))
  let v38 := (decide (v37 < c0))
  bif v38 then
    let v39 := (kwrap .i64 (x31 - 1))
    (alloc_sharing_costs K c0 v39 v37 c1 c2).bind fun r40 =>
    next r40 v39 v37
  else
    some (x30, x31, x32)
def alloc_sharing_cut.l0 (K : Nat) (c0 : Int) (c1 : List (List (Int))) (c2 : List (Int)) (n : Nat) : Int → Int → Int → Option (Int × Int × Int) := rounds (alloc_sharing_cut.r0 K c0 c1 c2) (fun _ _ _ => none) n
def alloc_sharing_cut (K : Nat) (p0 : Int) (p1 : Int) (p2 : Int) (p3 : List (List (Int))) (p4 : List (Int)) : Option (Int × Int) :=
  (alloc_sharing_each K p0 p1 p2 p3 p4).bind fun r14 =>
  (alloc_sharing_costs K p0 r14 p2 p3 p4).bind fun r15 =>
  (alloc_sharing_cut.l0 K p0 p3 p4 K r15 r14 p2 : Option (Int × Int × Int)).bind fun (x24, x25, x26) =>
    let v27 := (kwrap .i64 (x26 + x24))
    bif (v27 == p0) then
      let v28 := (kwrap .i64 (x25 - 1))
      some (v28, v27)
    else
      some (x25, x26)
def alloc_Share_1 (_K : Nat) (p0 : Int) (p1 : Nat) (p2 : List (Int)) (_p3 : Int) (p4 : Int) (_p5 : Int) (_p6 : List (List (Int))) : Option ((List (Int))) :=
  let v2 := (kwrap .i64 (p4 + 2))
  let v3 := (decide (p0 ≥ v2))
  (
    bif v3 then
      let v5 := (kwrap .i64 (p0 - p4))
      let v6 := (List.set p2 p1 (imin v5 16))
      gd (p1 < p2.length) <|
      some v6
    else
      some p2 : Option ((List (Int)))).bind fun x4 =>
    some x4
def alloc_sharing_each_3.r1 (K : Nat) (c0 : Int) (_c1 : Int) (c2 : Int) (c3 : Int) (c4 : Int) (c5 : Int) (c6 : List (List (Int))) (next : Int → List (Int) → Option ((List (Int)))) (x147 : Int) (x148 : List (Int)) : Option ((List (Int))) :=
  let v153 := (decide (x147 < c2))
  bif v153 then
    bif x147 == 0 then
      let v155 := (Kd.nth (.slice (.int .i64)) c6 0)
      gd (0 < (c6.length : Int)) <|
      let v156 := (Kd.nth (.int .i64) v155 (Int.toNat c0))
      gd ((0 : Int) ≤ c0 ∧ c0 < (v155.length : Int)) <|
      gd ((0 : Int) ≤ c0 ∧ c0 < (x148.length : Int)) <|
      (alloc_Share_1 K v156 (Int.toNat c0) x148 c3 c4 c5 c6).bind fun r157 =>
      next 1 r157
    else
      none
  else
    some x148
def alloc_sharing_each_3.l1 (K : Nat) (c0 : Int) (c1 : Int) (c2 : Int) (c3 : Int) (c4 : Int) (c5 : Int) (c6 : List (List (Int))) (n : Nat) : Int → List (Int) → Option ((List (Int))) := rounds (alloc_sharing_each_3.r1 K c0 c1 c2 c3 c4 c5 c6) (fun _ _ => none) n
def alloc_sharing_each_3.r0 (K : Nat) (c0 : Int) (c1 : Int) (c2 : Int) (c3 : Int) (c4 : List (List (Int))) (next : Int → List (Int) → Option ((List (Int)))) (x103 : Int) (x104 : List (Int)) : Option ((List (Int))) :=
  let v125 := (decide (x103 < c0))
  bif v125 then
    (alloc_sharing_each_3.l1 K x103 c0 (c4.length : Int) c1 c2 c3 c4 K 0 x104 : Option ((List (Int)))).bind fun x143 =>
      let v144 := (kwrap .i64 (x103 + 1))
      next v144 x143
  else
    some x104
def alloc_sharing_each_3.l0 (K : Nat) (c0 : Int) (c1 : Int) (c2 : Int) (c3 : Int) (c4 : List (List (Int))) (n : Nat) : Int → List (Int) → Option ((List (Int))) := rounds (alloc_sharing_each_3.r0 K c0 c1 c2 c3 c4) (fun _ _ => none) n
def alloc_sharing_each_3 (K : Nat) (p0 : Int) (p1 : Int) (p2 : Int) (p3 : List (List (Int))) (p4 : List (Int)) : Option ((List (Int))) :=
  let v42 := (Kd.nth (.slice (.int .i64)) p3 0)
  let v43 := (v42.length : Int)
  gd (0 < (p3.length : Int)) <|
  (alloc_sharing_each_3.l0 K v43 p0 p1 p2 p3 K 0 p4 : Option ((List (Int)))).bind fun x84 =>
    some x84
def alloc_sharing_more_1 (_K : Nat) (p0 : Int) (p1 : Nat) (p2 : List (Int)) (p3 : Bool) (p4 : Int) (p5 : Int) (p6 : Int) (_p7 : List (List (Int))) : Option (Bool × (List (Int)) × Int) :=
  (
    let v5 := (decide (p6 ≥ p4))
    bif v5 then
      some (.inr (false, p2, p6))
    else
      let v6 := (Kd.nth (.int .i64) p2 p1)
      let v7 := (decide (v6 ≥ 2))
      let v8 := (decide (v6 < 16))
      let v9 := (bif v7 then v8 else false)
      gd (p1 < p2.length ∧ (v7 = true → p1 < p2.length)) <|
      bif v9 then
        let v10 := (kwrap .i64 (v6 + 1))
        let v11 := (List.set p2 p1 v10)
        gd (p1 < p2.length ∧ p1 < p2.length) <|
        let v12 := (kwrap .i64 (p6 + 1))
        some (.inl (v11, v12))
      else
        let v13 := (kwrap .i64 (p5 + 1))
        let v14 := (bif p3 then (p0 == v13) else false)
        let v15 := (kwrap .i64 (p6 + 1))
        let v16 := (decide (p4 > v15))
        let v17 := (bif v14 then v16 else false)
        bif v17 then
          let v18 := (List.set p2 p1 2)
          gd (p1 < p2.length) <|
          let v19 := (kwrap .i64 (p6 + 2))
          some (.inl (v18, v19))
        else
          some (.inl (p2, p6)) : Option (((List (Int)) × Int) ⊕ (Bool × (List (Int)) × Int))).bind fun z => match z with
  | .inl (x3, x4) =>
    some (true, x3, x4)
  | .inr r =>
    some r
def alloc_sharing_each_4.r1 (K : Nat) (c0 : Int) (_c1 : Int) (c2 : Int) (c3 : Int) (c4 : Int) (c5 : List (List (Int))) (c6 : Bool) (next : Int → Int → List (Int) → Option ((Int × (List (Int))) ⊕ (Int × (List (Int))))) (x313 : Int) (x314 : Int) (x315 : List (Int)) : Option ((Int × (List (Int))) ⊕ (Int × (List (Int)))) :=
  let v325 := (decide (x313 < c2))
  bif v325 then
    bif x313 == 0 then
      let v329 := (Kd.nth (.slice (.int .i64)) c5 0)
      gd (0 < (c5.length : Int)) <|
      let v330 := (Kd.nth (.int .i64) v329 (Int.toNat c0))
      gd ((0 : Int) ≤ c0 ∧ c0 < (v329.length : Int)) <|
      gd ((0 : Int) ≤ c0 ∧ c0 < (x315.length : Int)) <|
      (alloc_sharing_more_1 K v330 (Int.toNat c0) x315 c6 c3 c4 x314 c5).bind fun (r331, r332, r333) =>
      bif (!r331) then
        some (.inr (r333, r332))
      else
        next 1 r333 r332
    else
      none
  else
    some (.inl (x314, x315))
def alloc_sharing_each_4.l1 (K : Nat) (c0 : Int) (c1 : Int) (c2 : Int) (c3 : Int) (c4 : Int) (c5 : List (List (Int))) (c6 : Bool) (n : Nat) : Int → Int → List (Int) → Option ((Int × (List (Int))) ⊕ (Int × (List (Int)))) := rounds (alloc_sharing_each_4.r1 K c0 c1 c2 c3 c4 c5 c6) (fun _ _ _ => none) n
def alloc_sharing_each_4.r0 (K : Nat) (c0 : Int) (c1 : Int) (c2 : Int) (c3 : List (List (Int))) (c4 : Bool) (next : Int → Int → List (Int) → Option ((Int × (List (Int))) ⊕ (Int × (List (Int))))) (x219 : Int) (x220 : Int) (x221 : List (Int)) : Option ((Int × (List (Int))) ⊕ (Int × (List (Int)))) :=
  let v265 := (decide (x219 < c0))
  bif v265 then
    (alloc_sharing_each_4.l1 K x219 c0 (c3.length : Int) c1 c2 c3 c4 K 0 x220 x221 : Option ((Int × (List (Int))) ⊕ (Int × (List (Int))))).bind fun z => match z with
    | .inl (x304, x305) =>
      let v306 := (kwrap .i64 (x219 + 1))
      next v306 x304 x305
    | .inr r =>
      some (.inr r)
  else
    some (.inl (x220, x221))
def alloc_sharing_each_4.l0 (K : Nat) (c0 : Int) (c1 : Int) (c2 : Int) (c3 : List (List (Int))) (c4 : Bool) (n : Nat) : Int → Int → List (Int) → Option ((Int × (List (Int))) ⊕ (Int × (List (Int)))) := rounds (alloc_sharing_each_4.r0 K c0 c1 c2 c3 c4) (fun _ _ _ => none) n
def alloc_sharing_each_4 (K : Nat) (p0 : Int) (p1 : Int) (p2 : Int) (p3 : List (List (Int))) (p4 : Bool) (p5 : List (Int)) : Option (Int × (List (Int))) :=
  let v89 := (Kd.nth (.slice (.int .i64)) p3 0)
  let v90 := (v89.length : Int)
  gd (0 < (p3.length : Int)) <|
  (alloc_sharing_each_4.l0 K v90 p0 p1 p3 p4 K 0 p2 p5 : Option ((Int × (List (Int))) ⊕ (Int × (List (Int))))).bind fun z => match z with
  | .inl (x177, x178) =>
    some (x177, x178)
  | .inr r =>
    some r
def alloc_sharing_more (K : Nat) (p0 : Bool) (p1 : Int) (p2 : Int) (p3 : Int) (p4 : List (List (Int))) (p5 : List (Int)) : Option (Int × (List (Int))) :=
  (alloc_sharing_each_4 K p1 p2 p3 p4 p0 p5).bind fun (r3, r4) =>
  some (r3, r4)
def alloc_sharing_cut_1_2 (_K : Nat) (p0 : Int) (_p1 : Nat) (_p2 : List (Int)) (_p3 : Int) (p4 : Int) (_p5 : Int) (_p6 : List (List (Int))) (_p7 : List (Int)) : Option (Int) :=
  some (imax p4 p0)
def alloc_sharing_cut_1_3 (_K : Nat) (p0 : Int) (_p1 : Nat) (_p2 : List (Int)) (_p3 : Int) (p4 : Int) (_p5 : Int) (_p6 : List (List (Int))) (_p7 : List (Int)) : Option (Int) :=
  some (imax p4 p0)
def alloc_sharing_each_5.r1 (K : Nat) (c0 : Int) (_c1 : Int) (c2 : Int) (c3 : Int) (c4 : Int) (c5 : List (List (Int))) (c6 : List (Int)) (c7 : List (Int)) (next : Int → Int → Option (Int)) (x175 : Int) (x176 : Int) : Option (Int) :=
  let v183 := (decide (x175 < c2))
  bif v183 then
    (
      bif x175 == 0 then
        let v189 := (Kd.nth (.slice (.int .i64)) c5 0)
        gd (0 < (c5.length : Int)) <|
        let v190 := (Kd.nth (.int .i64) v189 (Int.toNat c0))
        gd ((0 : Int) ≤ c0 ∧ c0 < (v189.length : Int)) <|
        gd ((0 : Int) ≤ c0 ∧ c0 < (c6.length : Int)) <|
        (alloc_sharing_cut_1_2 K v190 (Int.toNat c0) c6 c3 x176 c4 c5 c7).bind fun r191 =>
        some (0, r191)
      else
        bif x175 == 1 then
          let v192 := (Kd.nth (.slice (.int .i64)) c5 1)
          gd (1 < (c5.length : Int)) <|
          let v193 := (Kd.nth (.int .i64) v192 (Int.toNat c0))
          gd ((0 : Int) ≤ c0 ∧ c0 < (v192.length : Int)) <|
          gd ((0 : Int) ≤ c0 ∧ c0 < (c7.length : Int)) <|
          (alloc_sharing_cut_1_3 K v193 (Int.toNat c0) c7 c3 x176 c4 c5 c6).bind fun r194 =>
          some (1, r194)
        else
          none : Option (Int × Int)).bind fun (x186, x187) =>
      let v188 := (kwrap .i64 (x186 + 1))
      next v188 x187
  else
    some x176
def alloc_sharing_each_5.l1 (K : Nat) (c0 : Int) (c1 : Int) (c2 : Int) (c3 : Int) (c4 : Int) (c5 : List (List (Int))) (c6 : List (Int)) (c7 : List (Int)) (n : Nat) : Int → Int → Option (Int) := rounds (alloc_sharing_each_5.r1 K c0 c1 c2 c3 c4 c5 c6 c7) (fun _ _ => none) n
def alloc_sharing_each_5.r0 (K : Nat) (c0 : Int) (c1 : Int) (c2 : Int) (c3 : List (List (Int))) (c4 : List (Int)) (c5 : List (Int)) (next : Int → Int → Option (Int)) (x123 : Int) (x124 : Int) : Option (Int) :=
  let v149 := (decide (x123 < c0))
  bif v149 then
    (alloc_sharing_each_5.l1 K x123 c0 (c3.length : Int) c1 c2 c3 c4 c5 K 0 x124 : Option (Int)).bind fun x171 =>
      let v172 := (kwrap .i64 (x123 + 1))
      next v172 x171
  else
    some x124
def alloc_sharing_each_5.l0 (K : Nat) (c0 : Int) (c1 : Int) (c2 : Int) (c3 : List (List (Int))) (c4 : List (Int)) (c5 : List (Int)) (n : Nat) : Int → Int → Option (Int) := rounds (alloc_sharing_each_5.r0 K c0 c1 c2 c3 c4 c5) (fun _ _ => none) n
def alloc_sharing_each_5 (K : Nat) (p0 : Int) (p1 : Int) (p2 : Int) (p3 : List (List (Int))) (p4 : List (Int)) (p5 : List (Int)) : Option (Int) :=
  let v50 := (Kd.nth (.slice (.int .i64)) p3 0)
  let v51 := (v50.length : Int)
  gd (0 < (p3.length : Int)) <|
  (alloc_sharing_each_5.l0 K v51 p0 p2 p3 p4 p5 K 0 p1 : Option (Int)).bind fun x100 =>
    some x100
def alloc_sharing_costs_1_2 (_K : Nat) (p0 : Int) (_p1 : Nat) (_p2 : List (Int)) (p3 : Int) (_p4 : Int) (p5 : Int) (_p6 : Int) (_p7 : List (List (Int))) (_p8 : List (Int)) : Option (Int) :=
  let v2 := (kwrap .i64 (p0 - p5))
  (
    bif (v2 == 1) then
      let v4 := (kwrap .i64 (p3 + 2))
      some v4
    else
      let v5 := (decide (v2 > 1))
      let v6 := (decide (v2 < 16))
      let v7 := (bif v5 then v6 else false)
      bif v7 then
        let v8 := (kwrap .i64 (p3 + 1))
        some v8
      else
        some p3 : Option (Int)).bind fun x3 =>
    some x3
def alloc_sharing_costs_1_3 (_K : Nat) (p0 : Int) (_p1 : Nat) (_p2 : List (Int)) (p3 : Int) (_p4 : Int) (p5 : Int) (_p6 : Int) (_p7 : List (List (Int))) (_p8 : List (Int)) : Option (Int) :=
  let v2 := (kwrap .i64 (p0 - p5))
  (
    bif (v2 == 1) then
      let v4 := (kwrap .i64 (p3 + 2))
      some v4
    else
      let v5 := (decide (v2 > 1))
      let v6 := (decide (v2 < 16))
      let v7 := (bif v5 then v6 else false)
      bif v7 then
        let v8 := (kwrap .i64 (p3 + 1))
        some v8
      else
        some p3 : Option (Int)).bind fun x3 =>
    some x3
def alloc_sharing_each_6.r1 (K : Nat) (c0 : Int) (_c1 : Int) (c2 : Int) (c3 : Int) (c4 : Int) (c5 : Int) (c6 : List (List (Int))) (c7 : List (Int)) (c8 : List (Int)) (next : Int → Int → Option (Int)) (x175 : Int) (x176 : Int) : Option (Int) :=
  let v183 := (decide (x175 < c2))
  bif v183 then
    (
      bif x175 == 0 then
        let v189 := (Kd.nth (.slice (.int .i64)) c6 0)
        gd (0 < (c6.length : Int)) <|
        let v190 := (Kd.nth (.int .i64) v189 (Int.toNat c0))
        gd ((0 : Int) ≤ c0 ∧ c0 < (v189.length : Int)) <|
        gd ((0 : Int) ≤ c0 ∧ c0 < (c7.length : Int)) <|
        (alloc_sharing_costs_1_2 K v190 (Int.toNat c0) c7 x176 c3 c4 c5 c6 c8).bind fun r191 =>
        some (0, r191)
      else
        bif x175 == 1 then
          let v192 := (Kd.nth (.slice (.int .i64)) c6 1)
          gd (1 < (c6.length : Int)) <|
          let v193 := (Kd.nth (.int .i64) v192 (Int.toNat c0))
          gd ((0 : Int) ≤ c0 ∧ c0 < (v192.length : Int)) <|
          gd ((0 : Int) ≤ c0 ∧ c0 < (c8.length : Int)) <|
          (alloc_sharing_costs_1_3 K v193 (Int.toNat c0) c8 x176 c3 c4 c5 c6 c7).bind fun r194 =>
          some (1, r194)
        else
          none : Option (Int × Int)).bind fun (x186, x187) =>
      let v188 := (kwrap .i64 (x186 + 1))
      next v188 x187
  else
    some x176
def alloc_sharing_each_6.l1 (K : Nat) (c0 : Int) (c1 : Int) (c2 : Int) (c3 : Int) (c4 : Int) (c5 : Int) (c6 : List (List (Int))) (c7 : List (Int)) (c8 : List (Int)) (n : Nat) : Int → Int → Option (Int) := rounds (alloc_sharing_each_6.r1 K c0 c1 c2 c3 c4 c5 c6 c7 c8) (fun _ _ => none) n
def alloc_sharing_each_6.r0 (K : Nat) (c0 : Int) (c1 : Int) (c2 : Int) (c3 : Int) (c4 : List (List (Int))) (c5 : List (Int)) (c6 : List (Int)) (next : Int → Int → Option (Int)) (x123 : Int) (x124 : Int) : Option (Int) :=
  let v149 := (decide (x123 < c0))
  bif v149 then
    (alloc_sharing_each_6.l1 K x123 c0 (c4.length : Int) c1 c2 c3 c4 c5 c6 K 0 x124 : Option (Int)).bind fun x171 =>
      let v172 := (kwrap .i64 (x123 + 1))
      next v172 x171
  else
    some x124
def alloc_sharing_each_6.l0 (K : Nat) (c0 : Int) (c1 : Int) (c2 : Int) (c3 : Int) (c4 : List (List (Int))) (c5 : List (Int)) (c6 : List (Int)) (n : Nat) : Int → Int → Option (Int) := rounds (alloc_sharing_each_6.r0 K c0 c1 c2 c3 c4 c5 c6) (fun _ _ => none) n
def alloc_sharing_each_6 (K : Nat) (p0 : Int) (p1 : Int) (p2 : Int) (p3 : List (List (Int))) (p4 : Int) (p5 : List (Int)) (p6 : List (Int)) : Option (Int) :=
  let v50 := (Kd.nth (.slice (.int .i64)) p3 0)
  let v51 := (v50.length : Int)
  gd (0 < (p3.length : Int)) <|
  (alloc_sharing_each_6.l0 K v51 p0 p1 p2 p3 p5 p6 K 0 p4 : Option (Int)).bind fun x100 =>
    some x100
def alloc_sharing_costs_2 (K : Nat) (p0 : Int) (p1 : Int) (p2 : Int) (p3 : List (List (Int))) (p4 : List (Int)) (p5 : List (Int)) : Option (Int) :=
  (alloc_sharing_each_6 K p0 p1 p2 p3 0 p4 p5).bind fun r2 =>
  some r2
def alloc_sharing_cut_2.r0 (K : Nat) (c0 : Int) (c1 : List (List (Int))) (c2 : List (Int)) (c3 : List (Int)) (next : Int → Int → Int → Option (Int × Int × Int)) (x30 : Int) (x31 : Int) (x32 : Int) : Option (Int × Int × Int) :=
  let v37 := (kwrap .i64 (x32 + x30))
  let v38 := (decide (v37 < c0))
  bif v38 then
    let v39 := (kwrap .i64 (x31 - 1))
    (alloc_sharing_costs_2 K c0 v39 v37 c1 c2 c3).bind fun r40 =>
    next r40 v39 v37
  else
    some (x30, x31, x32)
def alloc_sharing_cut_2.l0 (K : Nat) (c0 : Int) (c1 : List (List (Int))) (c2 : List (Int)) (c3 : List (Int)) (n : Nat) : Int → Int → Int → Option (Int × Int × Int) := rounds (alloc_sharing_cut_2.r0 K c0 c1 c2 c3) (fun _ _ _ => none) n
def alloc_sharing_cut_2 (K : Nat) (p0 : Int) (p1 : Int) (p2 : Int) (p3 : List (List (Int))) (p4 : List (Int)) (p5 : List (Int)) : Option (Int × Int) :=
  (alloc_sharing_each_5 K p0 p1 p2 p3 p4 p5).bind fun r14 =>
  (alloc_sharing_costs_2 K p0 r14 p2 p3 p4 p5).bind fun r15 =>
  (alloc_sharing_cut_2.l0 K p0 p3 p4 p5 K r15 r14 p2 : Option (Int × Int × Int)).bind fun (x24, x25, x26) =>
    let v27 := (kwrap .i64 (x26 + x24))
    bif (v27 == p0) then
      let v28 := (kwrap .i64 (x25 - 1))
      some (v28, v27)
    else
      some (x25, x26)
def alloc_Share_1_2 (_K : Nat) (p0 : Int) (p1 : Nat) (p2 : List (Int)) (_p3 : Int) (p4 : Int) (_p5 : Int) (_p6 : List (List (Int))) (_p7 : List (Int)) : Option ((List (Int))) :=
  let v2 := (kwrap .i64 (p4 + 2))
  let v3 := (decide (p0 ≥ v2))
  (
    bif v3 then
      let v5 := (kwrap .i64 (p0 - p4))
      let v6 := (List.set p2 p1 (imin v5 16))
      gd (p1 < p2.length) <|
      some v6
    else
      some p2 : Option ((List (Int)))).bind fun x4 =>
    some x4
def alloc_Share_1_3 (_K : Nat) (p0 : Int) (p1 : Nat) (p2 : List (Int)) (_p3 : Int) (p4 : Int) (_p5 : Int) (_p6 : List (List (Int))) (_p7 : List (Int)) : Option ((List (Int))) :=
  let v2 := (kwrap .i64 (p4 + 2))
  let v3 := (decide (p0 ≥ v2))
  (
    bif v3 then
      let v5 := (kwrap .i64 (p0 - p4))
      let v6 := (List.set p2 p1 (imin v5 16))
      gd (p1 < p2.length) <|
      some v6
    else
      some p2 : Option ((List (Int)))).bind fun x4 =>
    some x4
def alloc_sharing_each_7.r1 (K : Nat) (c0 : Int) (_c1 : Int) (c2 : Int) (c3 : Int) (c4 : Int) (c5 : Int) (c6 : List (List (Int))) (next : Int → List (Int) → List (Int) → Option ((List (Int)) × (List (Int)))) (x344 : Int) (x345 : List (Int)) (x346 : List (Int)) : Option ((List (Int)) × (List (Int))) :=
  let v355 := (decide (x344 < c2))
  bif v355 then
    (
      bif x344 == 0 then
        let v362 := (Kd.nth (.slice (.int .i64)) c6 0)
        gd (0 < (c6.length : Int)) <|
        let v363 := (Kd.nth (.int .i64) v362 (Int.toNat c0))
        gd ((0 : Int) ≤ c0 ∧ c0 < (v362.length : Int)) <|
        gd ((0 : Int) ≤ c0 ∧ c0 < (x345.length : Int)) <|
        (alloc_Share_1_2 K v363 (Int.toNat c0) x345 c3 c4 c5 c6 x346).bind fun r364 =>
        some (0, r364, x346)
      else
        bif x344 == 1 then
          let v365 := (Kd.nth (.slice (.int .i64)) c6 1)
          gd (1 < (c6.length : Int)) <|
          let v366 := (Kd.nth (.int .i64) v365 (Int.toNat c0))
          gd ((0 : Int) ≤ c0 ∧ c0 < (v365.length : Int)) <|
          gd ((0 : Int) ≤ c0 ∧ c0 < (x346.length : Int)) <|
          (alloc_Share_1_3 K v366 (Int.toNat c0) x346 c3 c4 c5 c6 x345).bind fun r367 =>
          some (1, x345, r367)
        else
          none : Option (Int × (List (Int)) × (List (Int)))).bind fun (x358, x359, x360) =>
      let v361 := (kwrap .i64 (x358 + 1))
      next v361 x359 x360
  else
    some (x345, x346)
def alloc_sharing_each_7.l1 (K : Nat) (c0 : Int) (c1 : Int) (c2 : Int) (c3 : Int) (c4 : Int) (c5 : Int) (c6 : List (List (Int))) (n : Nat) : Int → List (Int) → List (Int) → Option ((List (Int)) × (List (Int))) := rounds (alloc_sharing_each_7.r1 K c0 c1 c2 c3 c4 c5 c6) (fun _ _ _ => none) n
def alloc_sharing_each_7.r0 (K : Nat) (c0 : Int) (c1 : Int) (c2 : Int) (c3 : Int) (c4 : List (List (Int))) (next : Int → List (Int) → List (Int) → Option ((List (Int)) × (List (Int)))) (x239 : Int) (x240 : List (Int)) (x241 : List (Int)) : Option ((List (Int)) × (List (Int))) :=
  let v289 := (decide (x239 < c0))
  bif v289 then
    (alloc_sharing_each_7.l1 K x239 c0 (c4.length : Int) c1 c2 c3 c4 K 0 x240 x241 : Option ((List (Int)) × (List (Int)))).bind fun (x332, x333) =>
      let v334 := (kwrap .i64 (x239 + 1))
      next v334 x332 x333
  else
    some (x240, x241)
def alloc_sharing_each_7.l0 (K : Nat) (c0 : Int) (c1 : Int) (c2 : Int) (c3 : Int) (c4 : List (List (Int))) (n : Nat) : Int → List (Int) → List (Int) → Option ((List (Int)) × (List (Int))) := rounds (alloc_sharing_each_7.r0 K c0 c1 c2 c3 c4) (fun _ _ _ => none) n
def alloc_sharing_each_7 (K : Nat) (p0 : Int) (p1 : Int) (p2 : Int) (p3 : List (List (Int))) (p4 : List (Int)) (p5 : List (Int)) : Option ((List (Int)) × (List (Int))) :=
  let v97 := (Kd.nth (.slice (.int .i64)) p3 0)
  let v98 := (v97.length : Int)
  gd (0 < (p3.length : Int)) <|
  (alloc_sharing_each_7.l0 K v98 p0 p1 p2 p3 K 0 p4 p5 : Option ((List (Int)) × (List (Int)))).bind fun (x193, x194) =>
    some (x193, x194)
def alloc_sharing_more_1_2 (_K : Nat) (p0 : Int) (p1 : Nat) (p2 : List (Int)) (p3 : Bool) (p4 : Int) (p5 : Int) (p6 : Int) (_p7 : List (List (Int))) (_p8 : List (Int)) : Option (Bool × (List (Int)) × Int) :=
  (
    let v5 := (decide (p6 ≥ p4))
    bif v5 then
      some (.inr (false, p2, p6))
    else
      let v6 := (Kd.nth (.int .i64) p2 p1)
      let v7 := (decide (v6 ≥ 2))
      let v8 := (decide (v6 < 16))
      let v9 := (bif v7 then v8 else false)
      gd (p1 < p2.length ∧ (v7 = true → p1 < p2.length)) <|
      bif v9 then
        let v10 := (kwrap .i64 (v6 + 1))
        let v11 := (List.set p2 p1 v10)
        gd (p1 < p2.length ∧ p1 < p2.length) <|
        let v12 := (kwrap .i64 (p6 + 1))
        some (.inl (v11, v12))
      else
        let v13 := (kwrap .i64 (p5 + 1))
        let v14 := (bif p3 then (p0 == v13) else false)
        let v15 := (kwrap .i64 (p6 + 1))
        let v16 := (decide (p4 > v15))
        let v17 := (bif v14 then v16 else false)
        bif v17 then
          let v18 := (List.set p2 p1 2)
          gd (p1 < p2.length) <|
          let v19 := (kwrap .i64 (p6 + 2))
          some (.inl (v18, v19))
        else
          some (.inl (p2, p6)) : Option (((List (Int)) × Int) ⊕ (Bool × (List (Int)) × Int))).bind fun z => match z with
  | .inl (x3, x4) =>
    some (true, x3, x4)
  | .inr r =>
    some r
def alloc_sharing_more_1_3 (_K : Nat) (p0 : Int) (p1 : Nat) (p2 : List (Int)) (p3 : Bool) (p4 : Int) (p5 : Int) (p6 : Int) (_p7 : List (List (Int))) (_p8 : List (Int)) : Option (Bool × (List (Int)) × Int) :=
  (
    let v5 := (decide (p6 ≥ p4))
    bif v5 then
      some (.inr (false, p2, p6))
    else
      let v6 := (Kd.nth (.int .i64) p2 p1)
      let v7 := (decide (v6 ≥ 2))
      let v8 := (decide (v6 < 16))
      let v9 := (bif v7 then v8 else false)
      gd (p1 < p2.length ∧ (v7 = true → p1 < p2.length)) <|
      bif v9 then
        let v10 := (kwrap .i64 (v6 + 1))
        let v11 := (List.set p2 p1 v10)
        gd (p1 < p2.length ∧ p1 < p2.length) <|
        let v12 := (kwrap .i64 (p6 + 1))
        some (.inl (v11, v12))
      else
        let v13 := (kwrap .i64 (p5 + 1))
        let v14 := (bif p3 then (p0 == v13) else false)
        let v15 := (kwrap .i64 (p6 + 1))
        let v16 := (decide (p4 > v15))
        let v17 := (bif v14 then v16 else false)
        bif v17 then
          let v18 := (List.set p2 p1 2)
          gd (p1 < p2.length) <|
          let v19 := (kwrap .i64 (p6 + 2))
          some (.inl (v18, v19))
        else
          some (.inl (p2, p6)) : Option (((List (Int)) × Int) ⊕ (Bool × (List (Int)) × Int))).bind fun z => match z with
  | .inl (x3, x4) =>
    some (true, x3, x4)
  | .inr r =>
    some r
def alloc_sharing_each_8.r1 (K : Nat) (c0 : Int) (_c1 : Int) (c2 : Int) (c3 : Int) (c4 : Int) (c5 : List (List (Int))) (c6 : Bool) (next : Int → Int → List (Int) → List (Int) → Option ((Int × (List (Int)) × (List (Int))) ⊕ (Int × (List (Int)) × (List (Int))))) (x614 : Int) (x615 : Int) (x616 : List (Int)) (x617 : List (Int)) : Option ((Int × (List (Int)) × (List (Int))) ⊕ (Int × (List (Int)) × (List (Int)))) :=
  let v632 := (decide (x614 < c2))
  bif v632 then
    (
      bif x614 == 0 then
        let v644 := (Kd.nth (.slice (.int .i64)) c5 0)
        gd (0 < (c5.length : Int)) <|
        let v645 := (Kd.nth (.int .i64) v644 (Int.toNat c0))
        gd ((0 : Int) ≤ c0 ∧ c0 < (v644.length : Int)) <|
        gd ((0 : Int) ≤ c0 ∧ c0 < (x616.length : Int)) <|
        (alloc_sharing_more_1_2 K v645 (Int.toNat c0) x616 c6 c3 c4 x615 c5 x617).bind fun (r646, r647, r648) =>
        bif (!r646) then
          some (.inr (r648, r647, x617))
        else
          some (.inl (0, r648, r647, x617))
      else
        bif x614 == 1 then
          let v649 := (Kd.nth (.slice (.int .i64)) c5 1)
          gd (1 < (c5.length : Int)) <|
          let v650 := (Kd.nth (.int .i64) v649 (Int.toNat c0))
          gd ((0 : Int) ≤ c0 ∧ c0 < (v649.length : Int)) <|
          gd ((0 : Int) ≤ c0 ∧ c0 < (x617.length : Int)) <|
          (alloc_sharing_more_1_3 K v650 (Int.toNat c0) x617 c6 c3 c4 x615 c5 x616).bind fun (r651, r652, r653) =>
          bif (!r651) then
            some (.inr (r653, x616, r652))
          else
            some (.inl (1, r653, x616, r652))
        else
          none : Option ((Int × Int × (List (Int)) × (List (Int))) ⊕ (Int × (List (Int)) × (List (Int))))).bind fun z => match z with
    | .inl (x639, x640, x641, x642) =>
      let v643 := (kwrap .i64 (x639 + 1))
      next v643 x640 x641 x642
    | .inr r =>
      some (.inr r)
  else
    some (.inl (x615, x616, x617))
def alloc_sharing_each_8.l1 (K : Nat) (c0 : Int) (c1 : Int) (c2 : Int) (c3 : Int) (c4 : Int) (c5 : List (List (Int))) (c6 : Bool) (n : Nat) : Int → Int → List (Int) → List (Int) → Option ((Int × (List (Int)) × (List (Int))) ⊕ (Int × (List (Int)) × (List (Int)))) := rounds (alloc_sharing_each_8.r1 K c0 c1 c2 c3 c4 c5 c6) (fun _ _ _ _ => none) n
def alloc_sharing_each_8.r0 (K : Nat) (c0 : Int) (c1 : Int) (c2 : Int) (c3 : List (List (Int))) (c4 : Bool) (next : Int → Int → List (Int) → List (Int) → Option ((Int × (List (Int)) × (List (Int))) ⊕ (Int × (List (Int)) × (List (Int))))) (x425 : Int) (x426 : Int) (x427 : List (Int)) (x428 : List (Int)) : Option ((Int × (List (Int)) × (List (Int))) ⊕ (Int × (List (Int)) × (List (Int)))) :=
  let v513 := (decide (x425 < c0))
  bif v513 then
    (alloc_sharing_each_8.l1 K x425 c0 (c3.length : Int) c1 c2 c3 c4 K 0 x426 x427 x428 : Option ((Int × (List (Int)) × (List (Int))) ⊕ (Int × (List (Int)) × (List (Int))))).bind fun z => match z with
    | .inl (x591, x592, x593) =>
      let v594 := (kwrap .i64 (x425 + 1))
      next v594 x591 x592 x593
    | .inr r =>
      some (.inr r)
  else
    some (.inl (x426, x427, x428))
def alloc_sharing_each_8.l0 (K : Nat) (c0 : Int) (c1 : Int) (c2 : Int) (c3 : List (List (Int))) (c4 : Bool) (n : Nat) : Int → Int → List (Int) → List (Int) → Option ((Int × (List (Int)) × (List (Int))) ⊕ (Int × (List (Int)) × (List (Int)))) := rounds (alloc_sharing_each_8.r0 K c0 c1 c2 c3 c4) (fun _ _ _ _ => none) n
def alloc_sharing_each_8 (K : Nat) (p0 : Int) (p1 : Int) (p2 : Int) (p3 : List (List (Int))) (p4 : Bool) (p5 : List (Int)) (p6 : List (Int)) : Option (Int × (List (Int)) × (List (Int))) :=
  let v172 := (Kd.nth (.slice (.int .i64)) p3 0)
  let v173 := (v172.length : Int)
  gd (0 < (p3.length : Int)) <|
  (alloc_sharing_each_8.l0 K v173 p0 p1 p3 p4 K 0 p2 p5 p6 : Option ((Int × (List (Int)) × (List (Int))) ⊕ (Int × (List (Int)) × (List (Int))))).bind fun z => match z with
  | .inl (x342, x343, x344) =>
    some (x342, x343, x344)
  | .inr r =>
    some r
def alloc_sharing_more_2 (K : Nat) (p0 : Bool) (p1 : Int) (p2 : Int) (p3 : Int) (p4 : List (List (Int))) (p5 : List (Int)) (p6 : List (Int)) : Option (Int × (List (Int)) × (List (Int))) :=
  (alloc_sharing_each_8 K p1 p2 p3 p4 p0 p5 p6).bind fun (r4, r5, r6) =>
  some (r4, r5, r6)
def alloc_Share.r0 (_K : Nat) (_c0 : Int) (_c1 : Int) (c2 : Int) (_c3 : Int) (_c4 : Int) (_c5 : Int) (_c6 : Int) (_c7 : Int) (_c8 : Int) (next : Int → List (Int) → Option ((List (Int)))) (x69 : Int) (x70 : List (Int)) : Option ((List (Int))) :=
  let v73 := (decide (x69 < 1))
  bif v73 then
    bif x69 == 0 then
      let v74 := (List.replicate (Int.toNat c2) 0)
      gd ((0 : Int) ≤ c2 ∧ c2 ≤ c2 ∧ c2 * 8 ≤ 140737488355328) <|
      next 1 v74
    else
      none
  else
    some x70
def alloc_Share.l0 (K : Nat) (c0 : Int) (c1 : Int) (c2 : Int) (c3 : Int) (c4 : Int) (c5 : Int) (c6 : Int) (c7 : Int) (c8 : Int) (n : Nat) : Int → List (Int) → Option ((List (Int))) := rounds (alloc_Share.r0 K c0 c1 c2 c3 c4 c5 c6 c7 c8) (fun _ _ => none) n
def alloc_Share.r1 (_K : Nat) (_c0 : Int) (_c1 : Int) (c2 : Int) (_c3 : Int) (_c4 : Int) (_c5 : Int) (_c6 : Int) (_c7 : Int) (_c8 : Int) (next : Int → List (Int) → List (Int) → Option ((List (Int)) × (List (Int)))) (x96 : Int) (x97 : List (Int)) (x98 : List (Int)) : Option ((List (Int)) × (List (Int))) :=
  let v105 := (decide (x96 < 2))
  bif v105 then
    (
      bif x96 == 0 then
        let v110 := (List.replicate (Int.toNat c2) 0)
        gd ((0 : Int) ≤ c2 ∧ c2 ≤ c2 ∧ c2 * 8 ≤ 140737488355328) <|
        some (0, v110, x98)
      else
        bif x96 == 1 then
          let v111 := (List.replicate (Int.toNat c2) 0)
          gd ((0 : Int) ≤ c2 ∧ c2 ≤ c2 ∧ c2 * 8 ≤ 140737488355328) <|
          some (1, x97, v111)
        else
          none : Option (Int × (List (Int)) × (List (Int)))).bind fun (x106, x107, x108) =>
      let v109 := (kwrap .i64 (x106 + 1))
      next v109 x107 x108
  else
    some (x97, x98)
def alloc_Share.l1 (K : Nat) (c0 : Int) (c1 : Int) (c2 : Int) (c3 : Int) (c4 : Int) (c5 : Int) (c6 : Int) (c7 : Int) (c8 : Int) (n : Nat) : Int → List (Int) → List (Int) → Option ((List (Int)) × (List (Int))) := rounds (alloc_Share.r1 K c0 c1 c2 c3 c4 c5 c6 c7 c8) (fun _ _ _ => none) n
def alloc_Share.r2 (_K : Nat) (_c0 : Int) (_c1 : Int) (c2 : Int) (_c3 : Int) (_c4 : Int) (_c5 : Int) (_c6 : Int) (_c7 : Int) (_c8 : Int) (_c9 : List (List (Int))) (next : Int → List (Int) → Option ((List (Int)))) (x124 : Int) (x125 : List (Int)) : Option ((List (Int))) :=
  let v128 := (decide (x124 < 1))
  bif v128 then
    bif x124 == 0 then
      let v129 := (List.replicate (Int.toNat c2) 0)
      gd ((0 : Int) ≤ c2 ∧ c2 ≤ c2 ∧ c2 * 8 ≤ 140737488355328) <|
      next 1 v129
    else
      none
  else
    some x125
def alloc_Share.l2 (K : Nat) (c0 : Int) (c1 : Int) (c2 : Int) (c3 : Int) (c4 : Int) (c5 : Int) (c6 : Int) (c7 : Int) (c8 : Int) (c9 : List (List (Int))) (n : Nat) : Int → List (Int) → Option ((List (Int))) := rounds (alloc_Share.r2 K c0 c1 c2 c3 c4 c5 c6 c7 c8 c9) (fun _ _ => none) n
def alloc_Share.r3 (_K : Nat) (_c0 : Int) (_c1 : Int) (c2 : Int) (_c3 : Int) (_c4 : Int) (_c5 : Int) (_c6 : Int) (_c7 : Int) (_c8 : Int) (_c9 : List (List (Int))) (next : Int → List (Int) → List (Int) → Option ((List (Int)) × (List (Int)))) (x161 : Int) (x162 : List (Int)) (x163 : List (Int)) : Option ((List (Int)) × (List (Int))) :=
  let v170 := (decide (x161 < 2))
  bif v170 then
    (
      bif x161 == 0 then
        let v175 := (List.replicate (Int.toNat c2) 0)
        gd ((0 : Int) ≤ c2 ∧ c2 ≤ c2 ∧ c2 * 8 ≤ 140737488355328) <|
        some (0, v175, x163)
      else
        bif x161 == 1 then
          let v176 := (List.replicate (Int.toNat c2) 0)
          gd ((0 : Int) ≤ c2 ∧ c2 ≤ c2 ∧ c2 * 8 ≤ 140737488355328) <|
          some (1, x162, v176)
        else
          none : Option (Int × (List (Int)) × (List (Int)))).bind fun (x171, x172, x173) =>
      let v174 := (kwrap .i64 (x171 + 1))
      next v174 x172 x173
  else
    some (x162, x163)
def alloc_Share.l3 (K : Nat) (c0 : Int) (c1 : Int) (c2 : Int) (c3 : Int) (c4 : Int) (c5 : Int) (c6 : Int) (c7 : Int) (c8 : Int) (c9 : List (List (Int))) (n : Nat) : Int → List (Int) → List (Int) → Option ((List (Int)) × (List (Int))) := rounds (alloc_Share.r3 K c0 c1 c2 c3 c4 c5 c6 c7 c8 c9) (fun _ _ _ => none) n
def alloc_Share (K : Nat) (p0 : Int) (p1 : Int) (p2 : Int) (p3 : Int) (p4 : Int) (p5 : Int) (p6 : Int) (p7 : Int) (p8 : Int) (p9 : Int) (p10 : List (List (Int))) : Option ((Int) ⊕ ((List (List (Int))))) :=
  (alloc_Needs K p0 p1 p2 p3 p4 p5 p6 p7 p8 p9 p10).bind fun z => match z with
  | .inl r62 =>
    bif (r62 != 0) then
      some (.inl r62)
    else
      bif p2 == 1 then
        (alloc_Share.l0 K p0 p1 p3 p4 p5 p6 p7 p8 p9 K 0 ([] : List (Int)) : Option ((List (Int)))).bind fun x68 =>
          none
      else
        bif p2 == 2 then
          (alloc_Share.l1 K p0 p1 p3 p4 p5 p6 p7 p8 p9 K 0 ([] : List (Int)) ([] : List (Int)) : Option ((List (Int)) × (List (Int)))).bind fun (x89, x90) =>
            none
        else
          none
  | .inr r63 =>
    bif p2 == 1 then
      (alloc_Share.l2 K p0 p1 p3 p4 p5 p6 p7 p8 p9 r63 K 0 ([] : List (Int)) : Option ((List (Int)))).bind fun x116 =>
        (alloc_sharing_cut K p7 (-99) 0 r63 x116).bind fun (r117, r118) =>
        (alloc_sharing_each_3 K p7 r117 r118 r63 x116).bind fun r119 =>
        (alloc_sharing_more K true p7 r117 r118 r63 r119).bind fun (r120, r121) =>
        (alloc_sharing_more K false p7 r117 r120 r63 r121).bind fun (_r122, r123) =>
        some (.inr ([r123]))
    else
      bif p2 == 2 then
        (alloc_Share.l3 K p0 p1 p3 p4 p5 p6 p7 p8 p9 r63 K 0 ([] : List (Int)) ([] : List (Int)) : Option ((List (Int)) × (List (Int)))).bind fun (x144, x145) =>
          (alloc_sharing_cut_2 K p7 (-99) 0 r63 x144 x145).bind fun (r146, r147) =>
          (alloc_sharing_each_7 K p7 r146 r147 r63 x144 x145).bind fun (r148, r149) =>
          (alloc_sharing_more_2 K true p7 r146 r147 r63 r148 r149).bind fun (r150, r151, r152) =>
          (alloc_sharing_more_2 K false p7 r146 r150 r63 r151 r152).bind fun (_r153, r154, r155) =>
          some (.inr ([r154, r155]))
      else
        none
def alloc_may_2.r0 (_K : Nat) (_c0 : Int) (_c1 : Int) (_c2 : Int) (_c3 : Int) (_c4 : Int) (_c5 : Int) (_c6 : Int) (_c7 : Int) (_c8 : Int) (_c9 : Int) (_next : Option (Unit))  : Option (Unit) :=
  some ()
def alloc_may_2.l0 (K : Nat) (c0 : Int) (c1 : Int) (c2 : Int) (c3 : Int) (c4 : Int) (c5 : Int) (c6 : Int) (c7 : Int) (c8 : Int) (c9 : Int) (n : Nat) : Option (Unit) := rounds (alloc_may_2.r0 K c0 c1 c2 c3 c4 c5 c6 c7 c8 c9) (none) n
def alloc_may_2 (K : Nat) (p0 : Int) (p1 : Int) (p2 : Int) (p3 : Int) (p4 : Int) (p5 : Int) (p6 : Int) (p7 : Int) (p8 : Int) (p9 : Int) : Option (Int) :=
  (format_Check K p0 p1 p2 p3 p4 p5 p6 p7 p8 p9).bind fun r2 =>
  let v3 := (bif (r2 != 0) then true else (p0 != 1))
  bif v3 then
    some 110
  else
    bif (0 != p2) then
      some 1
    else
      (alloc_may_2.l0 K p0 p1 p2 p3 p4 p5 p6 p7 p8 p9 K  : Option (Unit)).bind fun _ =>
        some 0
def alloc_Needs_2.r0 (_K : Nat) (_c0 : Int) (_c1 : Int) (_c2 : Int) (_c3 : Int) (_c4 : Int) (_c5 : Int) (_c6 : Int) (_c7 : Int) (_c8 : Int) (_c9 : Int) (_next : Option (Empty))  : Option (Empty) :=
  none
def alloc_Needs_2.l0 (K : Nat) (c0 : Int) (c1 : Int) (c2 : Int) (c3 : Int) (c4 : Int) (c5 : Int) (c6 : Int) (c7 : Int) (c8 : Int) (c9 : Int) (n : Nat) : Option (Empty) := rounds (alloc_Needs_2.r0 K c0 c1 c2 c3 c4 c5 c6 c7 c8 c9) (none) n
def alloc_Needs_2.r1 (_K : Nat) (_c0 : Int) (_c1 : Int) (_c2 : Int) (_c3 : Int) (_c4 : Int) (_c5 : Int) (_c6 : Int) (_c7 : Int) (_c8 : Int) (_c9 : Int) (_next : Option (Empty))  : Option (Empty) :=
  none
def alloc_Needs_2.l1 (K : Nat) (c0 : Int) (c1 : Int) (c2 : Int) (c3 : Int) (c4 : Int) (c5 : Int) (c6 : Int) (c7 : Int) (c8 : Int) (c9 : Int) (n : Nat) : Option (Empty) := rounds (alloc_Needs_2.r1 K c0 c1 c2 c3 c4 c5 c6 c7 c8 c9) (none) n
def alloc_Needs_2 (K : Nat) (p0 : Int) (p1 : Int) (p2 : Int) (p3 : Int) (p4 : Int) (p5 : Int) (p6 : Int) (p7 : Int) (p8 : Int) (p9 : Int) : Option (Int) :=
  (alloc_may_2 K p0 p1 p2 p3 p4 p5 p6 p7 p8 p9).bind fun r2 =>
  bif (r2 != 0) then
    some r2
  else
    bif p2 == 1 then
      (alloc_Needs_2.l0 K p0 p1 p2 p3 p4 p5 p6 p7 p8 p9 K  : Option (Empty)).bind fun z => nomatch z
    else
      bif p2 == 2 then
        (alloc_Needs_2.l1 K p0 p1 p2 p3 p4 p5 p6 p7 p8 p9 K  : Option (Empty)).bind fun z => nomatch z
      else
        none
def alloc_Share_2.r0 (_K : Nat) (_c0 : Int) (_c1 : Int) (c2 : Int) (_c3 : Int) (_c4 : Int) (_c5 : Int) (_c6 : Int) (_c7 : Int) (_c8 : Int) (next : Int → List (Int) → Option ((List (Int)))) (x29 : Int) (x30 : List (Int)) : Option ((List (Int))) :=
  let v33 := (decide (x29 < 1))
  bif v33 then
    bif x29 == 0 then
      let v34 := (List.replicate (Int.toNat c2) 0)
      gd ((0 : Int) ≤ c2 ∧ c2 ≤ c2 ∧ c2 * 8 ≤ 140737488355328) <|
      next 1 v34
    else
      none
  else
    some x30
def alloc_Share_2.l0 (K : Nat) (c0 : Int) (c1 : Int) (c2 : Int) (c3 : Int) (c4 : Int) (c5 : Int) (c6 : Int) (c7 : Int) (c8 : Int) (n : Nat) : Int → List (Int) → Option ((List (Int))) := rounds (alloc_Share_2.r0 K c0 c1 c2 c3 c4 c5 c6 c7 c8) (fun _ _ => none) n
def alloc_Share_2.r1 (_K : Nat) (_c0 : Int) (_c1 : Int) (c2 : Int) (_c3 : Int) (_c4 : Int) (_c5 : Int) (_c6 : Int) (_c7 : Int) (_c8 : Int) (next : Int → List (Int) → List (Int) → Option ((List (Int)) × (List (Int)))) (x56 : Int) (x57 : List (Int)) (x58 : List (Int)) : Option ((List (Int)) × (List (Int))) :=
  let v65 := (decide (x56 < 2))
  bif v65 then
    (
      bif x56 == 0 then
        let v70 := (List.replicate (Int.toNat c2) 0)
        gd ((0 : Int) ≤ c2 ∧ c2 ≤ c2 ∧ c2 * 8 ≤ 140737488355328) <|
        some (0, v70, x58)
      else
        bif x56 == 1 then
          let v71 := (List.replicate (Int.toNat c2) 0)
          gd ((0 : Int) ≤ c2 ∧ c2 ≤ c2 ∧ c2 * 8 ≤ 140737488355328) <|
          some (1, x57, v71)
        else
          none : Option (Int × (List (Int)) × (List (Int)))).bind fun (x66, x67, x68) =>
      let v69 := (kwrap .i64 (x66 + 1))
      next v69 x67 x68
  else
    some (x57, x58)
def alloc_Share_2.l1 (K : Nat) (c0 : Int) (c1 : Int) (c2 : Int) (c3 : Int) (c4 : Int) (c5 : Int) (c6 : Int) (c7 : Int) (c8 : Int) (n : Nat) : Int → List (Int) → List (Int) → Option ((List (Int)) × (List (Int))) := rounds (alloc_Share_2.r1 K c0 c1 c2 c3 c4 c5 c6 c7 c8) (fun _ _ _ => none) n
def alloc_Share_2 (K : Nat) (p0 : Int) (p1 : Int) (p2 : Int) (p3 : Int) (p4 : Int) (p5 : Int) (p6 : Int) (p7 : Int) (p8 : Int) (p9 : Int) : Option (Int) :=
  (alloc_Needs_2 K p0 p1 p2 p3 p4 p5 p6 p7 p8 p9).bind fun r23 =>
  bif (r23 != 0) then
    some r23
  else
    bif p2 == 1 then
      (alloc_Share_2.l0 K p0 p1 p3 p4 p5 p6 p7 p8 p9 K 0 ([] : List (Int)) : Option ((List (Int)))).bind fun x28 =>
        none
    else
      bif p2 == 2 then
        (alloc_Share_2.l1 K p0 p1 p3 p4 p5 p6 p7 p8 p9 K 0 ([] : List (Int)) ([] : List (Int)) : Option ((List (Int)) × (List (Int)))).bind fun (x49, x50) =>
          none
      else
        none
def psalterylaw12_alive (K : Nat)  : Option (Bool) :=
  (alloc_Share K 1 0 1 4 4 1 0 8 0 0 [[3, 0, 0, 0]]).bind fun z => match z with
  | .inl r6 =>
    (alloc_Share_2 K 1 0 1 4 4 1 0 8 0 0).bind fun _r8 =>
    let v9 := (bif (r6 == 0) then false else false)
    bif v9 then
      none
    else
      some false
  | .inr r7 =>
    (alloc_Share_2 K 1 0 1 4 4 1 0 8 0 0).bind fun r10 =>
    (
      let v12 := ((r7.length : Int) == 1)
      bif v12 then
        let v13 := (Kd.nth (.slice (.int .i64)) r7 0)
        gd (0 < (r7.length : Int)) <|
        let v14 := (v13.length : Int)
        let v15 := (Kd.nth (.int .i64) v13 0)
        let v16 := (bif (v14 == 4) then (v15 == 6) else false)
        let v17 := (Kd.nth (.int .i64) v13 1)
        let v18 := (bif v16 then (v17 == 2) else false)
        let v19 := (Kd.nth (.int .i64) v13 2)
        let v20 := (bif v18 then (v19 == 0) else false)
        let v21 := (bif v20 then (r10 == 1) else false)
        gd (((v14 == 4) = true → 0 < (r7.length : Int)) ∧ ((v14 == 4) = true → 0 < (v13.length : Int)) ∧ (v16 = true → 0 < (r7.length : Int)) ∧ (v16 = true → 1 < (v13.length : Int)) ∧ (v18 = true → 0 < (r7.length : Int)) ∧ (v18 = true → 2 < (v13.length : Int))) <|
        some v21
      else
        some false : Option (Bool)).bind fun x11 =>
      some x11
def psalterylaw12_Far.r0 (_K : Nat) (c0 : List (List (Int))) (next : Int → Option ((Unit) ⊕ (Bool))) (x6 : Int) : Option ((Unit) ⊕ (Bool)) :=
  let v8 := (decide (x6 < (c0.length : Int)))
  bif v8 then
    let v9 := (Kd.nth (.slice (.int .i64)) c0 (Int.toNat x6))
    let v10 := (v9.length : Int)
    let v11 := (decide (v10 > 100))
    gd ((0 : Int) ≤ x6 ∧ x6 < (c0.length : Int)) <|
    bif v11 then
      some (.inr true)
    else
      let v12 := (kwrap .i64 (x6 + 1))
      next v12
  else
    some (.inl ())
def psalterylaw12_Far.l0 (K : Nat) (c0 : List (List (Int))) (n : Nat) : Int → Option ((Unit) ⊕ (Bool)) := rounds (psalterylaw12_Far.r0 K c0) (fun _ => none) n
def psalterylaw12_Far (K : Nat) (p0 : List (List (Int))) : Option (Bool) :=
  let v3 := (decide ((p0.length : Int) > 10))
  bif v3 then
    some true
  else
    (psalterylaw12_Far.l0 K p0 K 0 : Option ((Unit) ⊕ (Bool))).bind fun z => match z with
    | .inl _ =>
      some false
    | .inr r =>
      some r
def psalteryref11_Bits.r0 (_K : Nat) (_c0 : Int) (_c1 : Int) (c2 : Int) (c3 : Int) (_c4 : Int) (_c5 : Int) (_c6 : Int) (_c7 : Int) (_c8 : Int) (_c9 : Int) (next : Int → Int → Option (Int)) (x17 : Int) (x18 : Int) : Option (Int) :=
  let v21 := (decide (x18 < c2))
  bif v21 then
    let v22 := (kwrap .i64 (4 * c3))
    let v23 := (kwrap .i64 (x17 + v22))
    let v24 := (kwrap .i64 (x18 + 1))
    next v23 v24
  else
    some x17
def psalteryref11_Bits.l0 (K : Nat) (c0 : Int) (c1 : Int) (c2 : Int) (c3 : Int) (c4 : Int) (c5 : Int) (c6 : Int) (c7 : Int) (c8 : Int) (c9 : Int) (n : Nat) : Int → Int → Option (Int) := rounds (psalteryref11_Bits.r0 K c0 c1 c2 c3 c4 c5 c6 c7 c8 c9) (fun _ _ => none) n
def psalteryref11_Bits (K : Nat) (p0 : Int) (p1 : Int) (p2 : Int) (p3 : Int) (p4 : Int) (p5 : Int) (p6 : Int) (p7 : Int) (p8 : Int) (p9 : Int) : Option (Int) :=
  bif (p0 == 2) then
    let v7 := (kwrap .i64 (p9 * 8))
    some v7
  else
    let v8 := (kwrap .i64 (p4 * p7))
    let v9 := (kwrap .i64 (32 + v8))
    (psalteryref11_Bits.l0 K p0 p1 p2 p3 p4 p5 p6 p7 p8 p9 K v9 0 : Option (Int)).bind fun x14 =>
      (
        bif (p6 == 1) then
          let v16 := (kwrap .i64 (x14 + p3))
          some v16
        else
          some x14 : Option (Int)).bind fun x15 =>
        some x15
def psalteryref11_Sub (K : Nat) (p0 : Int) (p1 : Int) (p2 : Int) (p3 : Int) (p4 : Int) (p5 : Int) (p6 : Int) (p7 : Int) (p8 : Int) (p9 : Int) : Option (Bool) :=
  let v3 := (bif (p0 != 1) then true else (p8 != 0))
  let v4 := (bif v3 then true else (p9 != 0))
  bif v4 then
    some false
  else
    let v5 := (decide (p1 < 0))
    let v6 := (decide (p1 > 3))
    let v7 := (bif v5 then true else v6)
    let v8 := (decide (p2 < 1))
    let v9 := (bif v7 then true else v8)
    let v10 := (decide (p2 > 2))
    let v11 := (bif v9 then true else v10)
    let v12 := (decide (p5 < 0))
    let v13 := (bif v11 then true else v12)
    let v14 := (decide (p5 > 1))
    let v15 := (bif v13 then true else v14)
    bif v15 then
      some false
    else
      let v16 := (bif (p3 != 4) then (p3 != 8) else false)
      let v17 := (bif (p4 != 4) then (p4 != 8) else false)
      let v18 := (bif v17 then (p4 != 12) else false)
      let v19 := (bif v18 then (p4 != 16) else false)
      let v20 := (bif v16 then true else v19)
      bif v20 then
        some false
      else
        let v21 := (bif (p6 != 1) then true else (p2 != 2))
        let v22 := (bif (p6 != 0) then v21 else false)
        bif v22 then
          some false
        else
          (
            let v25 := (decide (p7 ≥ 2))
            let v26 := (decide (p7 ≤ 250))
            let v27 := (bif v25 then v26 else false)
            let v28 := (kwrap .i64 (16 * p3))
            let v29 := (kwrap .i64 (v28 * p2))
            let v30 := (decide (p7 ≤ v29))
            let v31 := (bif v27 then v30 else false)
            bif v31 then
              (psalteryref11_Bits K p0 p1 p2 p3 p4 p5 p6 p7 p8 p9).bind fun r32 =>
              let v33 := (decide (r32 ≤ 4096))
              some v33
            else
              some false : Option (Bool)).bind fun x24 =>
            some x24
def psalteryref12_May.r1 (_K : Nat) (c0 : List (List (Int))) (c1 : Int) (_c2 : Int) (_c3 : Int) (_c4 : Int) (c5 : Int) (_c6 : Int) (_c7 : Int) (_c8 : Int) (_c9 : Int) (_c10 : Int) (_c11 : Int) (next : Int → Option ((Unit) ⊕ (Int))) (x42 : Int) : Option ((Unit) ⊕ (Int)) :=
  let v44 := (decide (x42 < c5))
  bif v44 then
    let v45 := (Kd.nth (.slice (.int .i64)) c0 (Int.toNat c1))
    let v46 := (Kd.nth (.int .i64) v45 (Int.toNat x42))
    let v47 := (decide (v46 < 0))
    let v48 := (decide (v46 > 15))
    let v49 := (bif v47 then true else v48)
    gd ((0 : Int) ≤ c1 ∧ c1 < (c0.length : Int) ∧ (0 : Int) ≤ x42 ∧ x42 < (v45.length : Int) ∧ ((!v47) = true → (0 : Int) ≤ c1) ∧ ((!v47) = true → c1 < (c0.length : Int)) ∧ ((!v47) = true → (0 : Int) ≤ x42) ∧ ((!v47) = true → x42 < (v45.length : Int))) <|
    bif v49 then
      some (.inr 1)
    else
      let v50 := (kwrap .i64 (x42 + 1))
      next v50
  else
    some (.inl ())
def psalteryref12_May.l1 (K : Nat) (c0 : List (List (Int))) (c1 : Int) (c2 : Int) (c3 : Int) (c4 : Int) (c5 : Int) (c6 : Int) (c7 : Int) (c8 : Int) (c9 : Int) (c10 : Int) (c11 : Int) (n : Nat) : Int → Option ((Unit) ⊕ (Int)) := rounds (psalteryref12_May.r1 K c0 c1 c2 c3 c4 c5 c6 c7 c8 c9 c10 c11) (fun _ => none) n
def psalteryref12_May.r0 (K : Nat) (c0 : List (List (Int))) (c1 : Int) (c2 : Int) (c3 : Int) (c4 : Int) (c5 : Int) (c6 : Int) (c7 : Int) (c8 : Int) (c9 : Int) (c10 : Int) (next : Int → Option ((Unit) ⊕ (Int))) (x28 : Int) : Option ((Unit) ⊕ (Int)) :=
  let v34 := (decide (x28 < (c0.length : Int)))
  bif v34 then
    let v37 := (Kd.nth (.slice (.int .i64)) c0 (Int.toNat x28))
    gd ((0 : Int) ≤ x28 ∧ x28 < (c0.length : Int)) <|
    let v38 := (v37.length : Int)
    bif (v38 != c4) then
      some (.inr 1)
    else
      (psalteryref12_May.l1 K c0 x28 c1 c2 c3 c4 c5 c6 c7 c8 c9 c10 K 0 : Option ((Unit) ⊕ (Int))).bind fun z => match z with
      | .inl _ =>
        let v41 := (kwrap .i64 (x28 + 1))
        next v41
      | .inr r =>
        some (.inr r)
  else
    some (.inl ())
def psalteryref12_May.l0 (K : Nat) (c0 : List (List (Int))) (c1 : Int) (c2 : Int) (c3 : Int) (c4 : Int) (c5 : Int) (c6 : Int) (c7 : Int) (c8 : Int) (c9 : Int) (c10 : Int) (n : Nat) : Int → Option ((Unit) ⊕ (Int)) := rounds (psalteryref12_May.r0 K c0 c1 c2 c3 c4 c5 c6 c7 c8 c9 c10) (fun _ => none) n
def psalteryref12_May (K : Nat) (p0 : Int) (p1 : Int) (p2 : Int) (p3 : Int) (p4 : Int) (p5 : Int) (p6 : Int) (p7 : Int) (p8 : Int) (p9 : Int) (p10 : List (List (Int))) : Option (Int) :=
  (psalteryref11_Sub K p0 p1 p2 p3 p4 p5 p6 p7 p8 p9).bind fun r12 =>
  bif (!r12) then
    some 110
  else
    let v13 := ((p10.length : Int) != p2)
    bif v13 then
      some 1
    else
      (psalteryref12_May.l0 K p10 p0 p1 p2 p3 p4 p5 p6 p7 p8 p9 K 0 : Option ((Unit) ⊕ (Int))).bind fun z => match z with
      | .inl _ =>
        some 0
      | .inr r =>
        some r
def psalteryref12_offset (_K : Nat) (_p0 : Int) (p1 : Int) (_p2 : Int) (p3 : Int) (_p4 : Int) (_p5 : Int) (_p6 : Int) (_p7 : Int) (_p8 : Int) (_p9 : Int) (p10 : Int) : Option (Int) :=
  bif (p3 == 4) then
    bif (p10 == 0) then
      bif (p1 == 0) then
        some (-1)
      else
        some (-2)
    else
      let v1 := (decide (p1 > 0))
      let v2 := (bif (p10 == 3) then v1 else false)
      bif v2 then
        some 1
      else
        some 0
  else
    (
      bif (p10 == 0) then
        let v3 := (kwrap .i64 ((-2) - (imin p1 2)))
        some (.inr v3)
      else
        bif (p10 == 6) then
          let v4 := (decide (p1 > 0))
          bif v4 then
            some (.inr 1)
          else
            some (.inl ())
        else
          bif (p10 == 7) then
            let v5 := (decide (p1 > 0))
            bif v5 then
              some (.inr 2)
            else
              some (.inr 1)
          else
            some (.inl ()) : Option ((Unit) ⊕ (Int))).bind fun z => match z with
    | .inl _ =>
      some 0
    | .inr r =>
      some r
def psalteryref12_Needs.r1 (K : Nat) (c0 : List (List (Int))) (c1 : Int) (c2 : Int) (c3 : Int) (c4 : Int) (c5 : Int) (c6 : Int) (c7 : Int) (c8 : Int) (c9 : Int) (c10 : Int) (c11 : Int) (next : Int → List (Int) → Option ((List (Int)))) (x261 : Int) (x262 : List (Int)) : Option ((List (Int))) :=
  let v271 := (decide (x261 < c4))
  bif v271 then
    let v275 := (Kd.nth (.slice (.int .i64)) c0 (Int.toNat x261))
    let v276 := (Kd.nth (.int .i64) v275 (Int.toNat c1))
    gd ((0 : Int) ≤ x261 ∧ x261 < (c0.length : Int) ∧ (0 : Int) ≤ c1 ∧ c1 < (v275.length : Int)) <|
    (
      bif (c7 == 0) then
        (psalteryref12_offset K c2 c3 c4 c5 c6 c7 c8 c9 c10 c11 c1).bind fun r282 =>
        let v283 := (kwrap .i64 (v276 - r282))
        let v284 := (decide (v283 > 0))
        (
          bif v284 then
            let v286 := (kwrap .i64 (Int.tdiv v283 2))
            some v286
          else
            some v283 : Option (Int)).bind fun x285 =>
          bif (v276 == 0) then
            some (-5)
          else
            some x285
      else
        some v276 : Option (Int)).bind fun x279 =>
      let v280 := (x262 ++ [x279])
      gd (((x262.length : Int) + ([x279].length : Int)) * 8 ≤ 70368744177664) <|
      let v281 := (kwrap .i64 (x261 + 1))
      next v281 v280
  else
    some x262
def psalteryref12_Needs.l1 (K : Nat) (c0 : List (List (Int))) (c1 : Int) (c2 : Int) (c3 : Int) (c4 : Int) (c5 : Int) (c6 : Int) (c7 : Int) (c8 : Int) (c9 : Int) (c10 : Int) (c11 : Int) (n : Nat) : Int → List (Int) → Option ((List (Int))) := rounds (psalteryref12_Needs.r1 K c0 c1 c2 c3 c4 c5 c6 c7 c8 c9 c10 c11) (fun _ _ => none) n
def psalteryref12_Needs.r0 (K : Nat) (c0 : List (List (Int))) (c1 : Int) (c2 : Int) (c3 : Int) (c4 : Int) (c5 : Int) (c6 : Int) (c7 : Int) (c8 : Int) (c9 : Int) (c10 : Int) (next : Int → List (Int) → Option ((List (Int)))) (x181 : Int) (x182 : List (Int)) : Option ((List (Int))) :=
  let v219 := (decide (x181 < c4))
  bif v219 then
    (psalteryref12_Needs.l1 K c0 x181 c1 c2 c3 c4 c5 c6 c7 c8 c9 c10 K 0 x182 : Option ((List (Int)))).bind fun x253 =>
      let v254 := (kwrap .i64 (x181 + 1))
      next v254 x253
  else
    some x182
def psalteryref12_Needs.l0 (K : Nat) (c0 : List (List (Int))) (c1 : Int) (c2 : Int) (c3 : Int) (c4 : Int) (c5 : Int) (c6 : Int) (c7 : Int) (c8 : Int) (c9 : Int) (c10 : Int) (n : Nat) : Int → List (Int) → Option ((List (Int))) := rounds (psalteryref12_Needs.r0 K c0 c1 c2 c3 c4 c5 c6 c7 c8 c9 c10) (fun _ _ => none) n
def psalteryref12_Needs (K : Nat) (p0 : Int) (p1 : Int) (p2 : Int) (p3 : Int) (p4 : Int) (p5 : Int) (p6 : Int) (p7 : Int) (p8 : Int) (p9 : Int) (p10 : List (List (Int))) : Option ((List (Int))) :=
  (psalteryref12_Needs.l0 K p10 p0 p1 p2 p3 p4 p5 p6 p7 p8 p9 K 0 ([] : List (Int)) : Option ((List (Int)))).bind fun x146 =>
    some x146
def psalterylaw12_same.r1 (_K : Nat) (c0 : List (List (Int))) (c1 : List (Int)) (c2 : Int) (next : Int → Option ((Unit) ⊕ (Bool))) (x42 : Int) : Option ((Unit) ⊕ (Bool)) :=
  let v44 := (decide (x42 < (c0.length : Int)))
  bif v44 then
    let v45 := (Kd.nth (.slice (.int .i64)) c0 (Int.toNat x42))
    gd ((0 : Int) ≤ x42 ∧ x42 < (c0.length : Int)) <|
    let v46 := (v45.length : Int)
    let v47 := (decide (c2 ≥ v46))
    gd (((!v47) = true → (0 : Int) ≤ x42) ∧ ((!v47) = true → x42 < (c0.length : Int))) <|
    let v48 := (Kd.nth (.int .i64) v45 (Int.toNat c2))
    gd (((!v47) = true → (0 : Int) ≤ c2) ∧ ((!v47) = true → c2 < (v45.length : Int))) <|
    let v49 := (kwrap .i64 (c2 * (c0.length : Int)))
    let v50 := (kwrap .i64 (v49 + x42))
    let v51 := (Kd.nth (.int .i64) c1 (Int.toNat v50))
    gd (((!v47) = true → (0 : Int) ≤ v50) ∧ ((!v47) = true → v50 < (c1.length : Int))) <|
    let v52 := (bif v47 then true else (v48 != v51))
    bif v52 then
      some (.inr false)
    else
      let v53 := (kwrap .i64 (x42 + 1))
      next v53
  else
    some (.inl ())
def psalterylaw12_same.l1 (K : Nat) (c0 : List (List (Int))) (c1 : List (Int)) (c2 : Int) (n : Nat) : Int → Option ((Unit) ⊕ (Bool)) := rounds (psalterylaw12_same.r1 K c0 c1 c2) (fun _ => none) n
def psalterylaw12_same.r0 (K : Nat) (c0 : List (List (Int))) (c1 : List (Int)) (next : Int → Option ((Unit) ⊕ (Bool))) (x29 : Int) : Option ((Unit) ⊕ (Bool)) :=
  let v35 := (kwrap .i64 (Int.tdiv (c1.length : Int) (c0.length : Int)))
  let v36 := (decide (x29 < v35))
  gd ((c0.length : Int) ≠ 0) <|
  bif v36 then
    (psalterylaw12_same.l1 K c0 c1 x29 K 0 : Option ((Unit) ⊕ (Bool))).bind fun z => match z with
    | .inl _ =>
      let v41 := (kwrap .i64 (x29 + 1))
      next v41
    | .inr r =>
      some (.inr r)
  else
    some (.inl ())
def psalterylaw12_same.l0 (K : Nat) (c0 : List (List (Int))) (c1 : List (Int)) (n : Nat) : Int → Option ((Unit) ⊕ (Bool)) := rounds (psalterylaw12_same.r0 K c0 c1) (fun _ => none) n
def psalterylaw12_same (K : Nat) (p0 : List (List (Int))) (p1 : List (Int)) : Option (Bool) :=
  (psalterylaw12_same.l0 K p0 p1 K 0 : Option ((Unit) ⊕ (Bool))).bind fun z => match z with
  | .inl _ =>
    let v21 := (Kd.nth (.slice (.int .i64)) p0 0)
    let v22 := (v21.length : Int)
    let v23 := (kwrap .i64 (v22 * (p0.length : Int)))
    let v24 := (v23 == (p1.length : Int))
    gd (0 < (p0.length : Int)) <|
    some v24
  | .inr r =>
    some r
def psalteryref12_costs.r0 (_K : Nat) (c0 : List (Int)) (c1 : Int) (next : Int → Int → Option (Int)) (x21 : Int) (x22 : Int) : Option (Int) :=
  let v27 := (decide (x22 < (c0.length : Int)))
  bif v27 then
    (
      let v31 := (Kd.nth (.int .i64) c0 (Int.toNat x22))
      let v32 := (kwrap .i64 (c1 + 1))
      gd ((0 : Int) ≤ x22 ∧ x22 < (c0.length : Int)) <|
      (
        bif (v31 == v32) then
          let v39 := (kwrap .i64 (x21 + 2))
          some v39
        else
          some x21 : Option (Int)).bind fun x33 =>
        let v34 := (decide (v31 > v32))
        let v35 := (kwrap .i64 (c1 + 16))
        let v36 := (decide (v31 < v35))
        let v37 := (bif v34 then v36 else false)
        gd ((0 : Int) ≤ x22 ∧ x22 < (c0.length : Int) ∧ (v34 = true → (0 : Int) ≤ x22) ∧ (v34 = true → x22 < (c0.length : Int))) <|
        bif v37 then
          let v38 := (kwrap .i64 (x33 + 1))
          some v38
        else
          some x33 : Option (Int)).bind fun x29 =>
      let v30 := (kwrap .i64 (x22 + 1))
      next x29 v30
  else
    some x21
def psalteryref12_costs.l0 (K : Nat) (c0 : List (Int)) (c1 : Int) (n : Nat) : Int → Int → Option (Int) := rounds (psalteryref12_costs.r0 K c0 c1) (fun _ _ => none) n
def psalteryref12_costs (K : Nat) (p0 : List (Int)) (p1 : Int) : Option (Int) :=
  (psalteryref12_costs.l0 K p0 p1 K 0 0 : Option (Int)).bind fun x18 =>
    some x18
def psalteryref12_Share.r0 (_K : Nat) (c0 : List (Int)) (_c1 : Int) (_c2 : Int) (_c3 : Int) (_c4 : Int) (_c5 : Int) (_c6 : Int) (_c7 : Int) (c8 : Int) (_c9 : Int) (_c10 : Int) (next : Int → Int → List (Int) → Option ((List (Int)))) (x111 : Int) (x112 : Int) (x113 : List (Int)) : Option ((List (Int))) :=
  let v119 := (decide (x112 < (c0.length : Int)))
  let v120 := (decide (x111 < c8))
  let v121 := (bif v119 then v120 else false)
  bif v121 then
    (
      let v125 := (Kd.nth (.int .i64) x113 (Int.toNat x112))
      let v126 := (decide (v125 ≥ 2))
      let v127 := (decide (v125 ≤ 15))
      let v128 := (bif v126 then v127 else false)
      gd ((0 : Int) ≤ x112 ∧ x112 < (x113.length : Int) ∧ (Int.toNat x112) < x113.length ∧ (v126 = true → (0 : Int) ≤ x112) ∧ (v126 = true → x112 < (x113.length : Int)) ∧ (v126 = true → (Int.toNat x112) < x113.length)) <|
      bif v128 then
        let v129 := (kwrap .i64 (v125 + 1))
        let v130 := (List.set x113 (Int.toNat x112) v129)
        gd ((0 : Int) ≤ x112 ∧ x112 < (x113.length : Int) ∧ (Int.toNat x112) < x113.length ∧ (0 : Int) ≤ x112 ∧ x112 < (x113.length : Int) ∧ (Int.toNat x112) < x113.length) <|
        let v131 := (kwrap .i64 (x111 + 1))
        some (v131, v130)
      else
        some (x111, x113) : Option (Int × (List (Int)))).bind fun (x122, x123) =>
      let v124 := (kwrap .i64 (x112 + 1))
      next x122 v124 x123
  else
    some x113
def psalteryref12_Share.l0 (K : Nat) (c0 : List (Int)) (c1 : Int) (c2 : Int) (c3 : Int) (c4 : Int) (c5 : Int) (c6 : Int) (c7 : Int) (c8 : Int) (c9 : Int) (c10 : Int) (n : Nat) : Int → Int → List (Int) → Option ((List (Int))) := rounds (psalteryref12_Share.r0 K c0 c1 c2 c3 c4 c5 c6 c7 c8 c9 c10) (fun _ _ _ => none) n
def psalteryref12_Share.r1 (_K : Nat) (c0 : List (Int)) (c1 : Int) (_c2 : Int) (_c3 : Int) (_c4 : Int) (_c5 : Int) (_c6 : Int) (_c7 : Int) (_c8 : Int) (c9 : Int) (_c10 : Int) (_c11 : Int) (next : Int → Int → List (Int) → Option (Int × (List (Int)))) (x134 : Int) (x135 : Int) (x136 : List (Int)) : Option (Int × (List (Int))) :=
  let v142 := (decide (x135 < (c0.length : Int)))
  let v143 := (decide (x134 < c9))
  let v144 := (bif v142 then v143 else false)
  bif v144 then
    (
      let v148 := (Kd.nth (.int .i64) x136 (Int.toNat x135))
      let v149 := (decide (v148 ≥ 2))
      let v150 := (decide (v148 ≤ 15))
      let v151 := (bif v149 then v150 else false)
      gd ((0 : Int) ≤ x135 ∧ x135 < (x136.length : Int) ∧ (Int.toNat x135) < x136.length ∧ (v149 = true → (0 : Int) ≤ x135) ∧ (v149 = true → x135 < (x136.length : Int)) ∧ (v149 = true → (Int.toNat x135) < x136.length)) <|
      bif v151 then
        let v152 := (kwrap .i64 (v148 + 1))
        let v153 := (List.set x136 (Int.toNat x135) v152)
        gd ((0 : Int) ≤ x135 ∧ x135 < (x136.length : Int) ∧ (Int.toNat x135) < x136.length ∧ (0 : Int) ≤ x135 ∧ x135 < (x136.length : Int) ∧ (Int.toNat x135) < x136.length) <|
        let v154 := (kwrap .i64 (x134 + 1))
        some (v154, v153)
      else
        let v155 := (Kd.nth (.int .i64) c0 (Int.toNat x135))
        let v156 := (kwrap .i64 (c1 + 1))
        let v157 := (v155 == v156)
        let v158 := (kwrap .i64 (x134 + 1))
        let v159 := (decide (v158 < c9))
        let v160 := (bif v157 then v159 else false)
        gd ((0 : Int) ≤ x135 ∧ x135 < (c0.length : Int)) <|
        bif v160 then
          let v161 := (List.set x136 (Int.toNat x135) 2)
          gd ((0 : Int) ≤ x135 ∧ x135 < (x136.length : Int) ∧ (Int.toNat x135) < x136.length) <|
          let v162 := (kwrap .i64 (x134 + 2))
          some (v162, v161)
        else
          some (x134, x136) : Option (Int × (List (Int)))).bind fun (x145, x146) =>
      let v147 := (kwrap .i64 (x135 + 1))
      next x145 v147 x146
  else
    some (x134, x136)
def psalteryref12_Share.l1 (K : Nat) (c0 : List (Int)) (c1 : Int) (c2 : Int) (c3 : Int) (c4 : Int) (c5 : Int) (c6 : Int) (c7 : Int) (c8 : Int) (c9 : Int) (c10 : Int) (c11 : Int) (n : Nat) : Int → Int → List (Int) → Option (Int × (List (Int))) := rounds (psalteryref12_Share.r1 K c0 c1 c2 c3 c4 c5 c6 c7 c8 c9 c10 c11) (fun _ _ _ => none) n
def psalteryref12_Share.r2 (_K : Nat) (c0 : List (Int)) (c1 : Int) (_c2 : Int) (_c3 : Int) (_c4 : Int) (_c5 : Int) (_c6 : Int) (_c7 : Int) (_c8 : Int) (_c9 : Int) (_c10 : Int) (_c11 : Int) (_c12 : Int) (next : Int → List (Int) → Option ((List (Int)))) (x164 : Int) (x165 : List (Int)) : Option ((List (Int))) :=
  let v169 := (decide (x164 < (c0.length : Int)))
  bif v169 then
    (
      let v172 := (Kd.nth (.int .i64) c0 (Int.toNat x164))
      let v173 := (kwrap .i64 (c1 + 2))
      let v174 := (decide (v172 ≥ v173))
      gd ((0 : Int) ≤ x164 ∧ x164 < (c0.length : Int)) <|
      bif v174 then
        let v175 := (kwrap .i64 (v172 - c1))
        let v176 := (imin v175 16)
        let v177 := (List.set x165 (Int.toNat x164) v176)
        gd ((0 : Int) ≤ x164 ∧ x164 < (c0.length : Int) ∧ (0 : Int) ≤ x164 ∧ x164 < (x165.length : Int) ∧ (Int.toNat x164) < x165.length) <|
        some v177
      else
        some x165 : Option ((List (Int)))).bind fun x170 =>
      let v171 := (kwrap .i64 (x164 + 1))
      next v171 x170
  else
    some x165
def psalteryref12_Share.l2 (K : Nat) (c0 : List (Int)) (c1 : Int) (c2 : Int) (c3 : Int) (c4 : Int) (c5 : Int) (c6 : Int) (c7 : Int) (c8 : Int) (c9 : Int) (c10 : Int) (c11 : Int) (c12 : Int) (n : Nat) : Int → List (Int) → Option ((List (Int))) := rounds (psalteryref12_Share.r2 K c0 c1 c2 c3 c4 c5 c6 c7 c8 c9 c10 c11 c12) (fun _ _ => none) n
def psalteryref12_Share.r3 (K : Nat) (c0 : List (Int)) (_c1 : Int) (_c2 : Int) (_c3 : Int) (_c4 : Int) (_c5 : Int) (_c6 : Int) (_c7 : Int) (c8 : Int) (_c9 : Int) (_c10 : Int) (next : Int → Int → Int → Option (Int × Int × Int)) (x183 : Int) (x184 : Int) (x185 : Int) : Option (Int × Int × Int) :=
  let v190 := (kwrap .i64 (x183 - 1))
  let v191 := (kwrap .i64 (x184 + x185))
  (psalteryref12_costs K c0 v190).bind fun r192 =>
  let v193 := (kwrap .i64 (v191 + r192))
  let v194 := (decide (v193 ≥ c8))
  bif v194 then
    some (v190, v191, r192)
  else
    next v190 v191 r192
def psalteryref12_Share.l3 (K : Nat) (c0 : List (Int)) (c1 : Int) (c2 : Int) (c3 : Int) (c4 : Int) (c5 : Int) (c6 : Int) (c7 : Int) (c8 : Int) (c9 : Int) (c10 : Int) (n : Nat) : Int → Int → Int → Option (Int × Int × Int) := rounds (psalteryref12_Share.r3 K c0 c1 c2 c3 c4 c5 c6 c7 c8 c9 c10) (fun _ _ _ => none) n
def psalteryref12_Share.r4 (_K : Nat) (c0 : List (Int)) (_c1 : Int) (_c2 : Int) (_c3 : Int) (_c4 : Int) (_c5 : Int) (_c6 : Int) (_c7 : Int) (_c8 : Int) (_c9 : Int) (_c10 : Int) (next : Int → Int → Option (Int)) (x195 : Int) (x196 : Int) : Option (Int) :=
  let v199 := (decide (x196 < (c0.length : Int)))
  bif v199 then
    let v200 := (Kd.nth (.int .i64) c0 (Int.toNat x196))
    let v201 := (imax x195 v200)
    gd ((0 : Int) ≤ x196 ∧ x196 < (c0.length : Int)) <|
    let v202 := (kwrap .i64 (x196 + 1))
    next v201 v202
  else
    some x195
def psalteryref12_Share.l4 (K : Nat) (c0 : List (Int)) (c1 : Int) (c2 : Int) (c3 : Int) (c4 : Int) (c5 : Int) (c6 : Int) (c7 : Int) (c8 : Int) (c9 : Int) (c10 : Int) (n : Nat) : Int → Int → Option (Int) := rounds (psalteryref12_Share.r4 K c0 c1 c2 c3 c4 c5 c6 c7 c8 c9 c10) (fun _ _ => none) n
def psalteryref12_Share (K : Nat) (p0 : Int) (p1 : Int) (p2 : Int) (p3 : Int) (p4 : Int) (p5 : Int) (p6 : Int) (p7 : Int) (p8 : Int) (p9 : Int) (p10 : List (List (Int))) : Option ((List (Int))) :=
  (psalteryref12_Needs K p0 p1 p2 p3 p4 p5 p6 p7 p8 p9 p10).bind fun r53 =>
  let v54 := (Kd.nth (.int .i64) r53 0)
  gd (0 < (r53.length : Int)) <|
  (psalteryref12_Share.l4 K r53 p0 p1 p2 p3 p4 p5 p6 p7 p8 p9 K v54 1 : Option (Int)).bind fun x59 =>
    let v60 := (kwrap .i64 (x59 + 1))
    (psalteryref12_Share.l3 K r53 p0 p1 p2 p3 p4 p5 p6 p7 p8 p9 K v60 0 0 : Option (Int × Int × Int)).bind fun (x72, x73, x74) =>
      let v75 := (kwrap .i64 (x73 + x74))
      (
        bif (v75 == p7) then
          let v178 := (kwrap .i64 (x72 - 1))
          some (v178, p7)
        else
          some (x72, x73) : Option (Int × Int)).bind fun (x76, x77) =>
        let v78 := (List.replicate (Int.toNat (r53.length : Int)) 0)
        gd ((0 : Int) ≤ (r53.length : Int) ∧ (r53.length : Int) ≤ (r53.length : Int) ∧ (r53.length : Int) * 8 ≤ 140737488355328) <|
        (psalteryref12_Share.l2 K r53 x76 x77 p0 p1 p2 p3 p4 p5 p6 p7 p8 p9 K 0 v78 : Option ((List (Int)))).bind fun x85 =>
          (psalteryref12_Share.l1 K r53 x76 p0 p1 p2 p3 p4 p5 p6 p7 p8 p9 K x77 0 x85 : Option (Int × (List (Int)))).bind fun (x96, x97) =>
            (psalteryref12_Share.l0 K r53 p0 p1 p2 p3 p4 p5 p6 p7 p8 p9 K x96 0 x97 : Option ((List (Int)))).bind fun x108 =>
              some x108
def psalterylaw12_AllocShares (K : Nat) (p0 : Int) (p1 : Int) (p2 : Int) (p3 : Int) (p4 : Int) (p5 : Int) (p6 : Int) (p7 : Int) (p8 : Int) (p9 : Int) (p10 : List (List (Int))) : Option (Bool) :=
  (psalterylaw12_alive K ).bind fun r25 =>
  bif (!r25) then
    some false
  else
    (psalterylaw12_Far K p10).bind fun r26 =>
    bif r26 then
      some true
    else
      (alloc_Needs K p0 p1 p2 p3 p4 p5 p6 p7 p8 p9 p10).bind fun z => match z with
      | .inl r27 =>
        (alloc_Share K p0 p1 p2 p3 p4 p5 p6 p7 p8 p9 p10).bind fun z => match z with
        | .inl r29 =>
          (psalteryref12_May K p0 p1 p2 p3 p4 p5 p6 p7 p8 p9 p10).bind fun r31 =>
          bif (r31 != 0) then
            let v32 := (bif (r27 == r31) then (r29 == r31) else false)
            some v32
          else
            let v34 := (bif (r27 == 0) then (r29 == 0) else false)
            let v35 := (bif v34 then (0 == p2) else false)
            let v36 := (bif v35 then (0 == p2) else false)
            bif v36 then
              (psalteryref12_Needs K p0 p1 p2 p3 p4 p5 p6 p7 p8 p9 p10).bind fun _r37 =>
              none
            else
              some false
        | .inr r30 =>
          (psalteryref12_May K p0 p1 p2 p3 p4 p5 p6 p7 p8 p9 p10).bind fun r38 =>
          bif (r38 != 0) then
            let v39 := ((r30.length : Int) == 0)
            let v40 := (bif v39 then (r27 == r38) else false)
            let v41 := (bif v40 then (0 == r38) else false)
            some v41
          else
            let v43 := (bif (r27 == 0) then true else false)
            let v44 := (bif v43 then (0 == p2) else false)
            let v45 := ((r30.length : Int) == p2)
            let v46 := (bif v44 then v45 else false)
            bif v46 then
              (psalteryref12_Needs K p0 p1 p2 p3 p4 p5 p6 p7 p8 p9 p10).bind fun _r47 =>
              none
            else
              some false
      | .inr r28 =>
        (alloc_Share K p0 p1 p2 p3 p4 p5 p6 p7 p8 p9 p10).bind fun z => match z with
        | .inl r48 =>
          (psalteryref12_May K p0 p1 p2 p3 p4 p5 p6 p7 p8 p9 p10).bind fun r50 =>
          bif (r50 != 0) then
            let v51 := ((r28.length : Int) == 0)
            let v52 := (bif v51 then true else false)
            let v53 := (bif v52 then (0 == r50) else false)
            let v54 := (bif v53 then (r48 == r50) else false)
            some v54
          else
            (
              let v58 := ((r28.length : Int) == p2)
              let v59 := (bif (r48 == 0) then v58 else false)
              let v60 := (bif v59 then (0 == p2) else false)
              bif v60 then
                (psalteryref12_Needs K p0 p1 p2 p3 p4 p5 p6 p7 p8 p9 p10).bind fun r61 =>
                (psalterylaw12_same K r28 r61).bind fun r62 =>
                bif r62 then
                  (psalteryref12_Share K p0 p1 p2 p3 p4 p5 p6 p7 p8 p9 p10).bind fun _r63 =>
                  none
                else
                  some ()
              else
                some () : Option (Unit)).bind fun _ =>
              some false
        | .inr r49 =>
          (psalteryref12_May K p0 p1 p2 p3 p4 p5 p6 p7 p8 p9 p10).bind fun r64 =>
          bif (r64 != 0) then
            let v65 := ((r28.length : Int) == 0)
            let v66 := ((r49.length : Int) == 0)
            let v67 := (bif v65 then v66 else false)
            let v68 := (bif v67 then (0 == r64) else false)
            let v69 := (bif v68 then (0 == r64) else false)
            some v69
          else
            (
              let v75 := ((r28.length : Int) == p2)
              let v76 := ((r49.length : Int) == p2)
              let v77 := (bif v75 then v76 else false)
              bif v77 then
                (psalteryref12_Needs K p0 p1 p2 p3 p4 p5 p6 p7 p8 p9 p10).bind fun r78 =>
                (psalterylaw12_same K r28 r78).bind fun r79 =>
                bif r79 then
                  (psalteryref12_Share K p0 p1 p2 p3 p4 p5 p6 p7 p8 p9 p10).bind fun r80 =>
                  (psalterylaw12_same K r49 r80).bind fun r81 =>
                  some r81
                else
                  some false
              else
                some false : Option (Bool)).bind fun x74 =>
              some x74
end Go.Fo
