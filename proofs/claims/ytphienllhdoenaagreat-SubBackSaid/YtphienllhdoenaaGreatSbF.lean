/- The functions of Go that are reached, as functions of plain values. -/
import Derived.Test.YtphienllhdoenaaGreatJ3
namespace Go.Fo
def bank_New (_K : Nat) : Option (Unit):=
 some ()
def psalterylaw14_plain (_K : Nat)  : Option (Unit):=
 some ()
def format_within (_K : Nat) (p0 p1 p2 : Int) : Option (Bool):=
 let v1:=(decide (p0 ≥ p1))
 let v2:=(decide (p0 ≤ p2))
 let v3:=(bif v1 then v2 else false)
 some v3
def slices_Index_bool_bool.r0 (_K : Nat) (c0 : Bool) (c1 : Int) (c2 : List (Bool)) (next : Int → Option ((Unit) ⊕ (Int))) (x5 : Int) : Option ((Unit) ⊕ (Int)):=
 let v7:=(decide (x5 < c1))
 bif v7 then
  let v8:=(Kd.nth (.bool) c2 (Int.toNat x5))
  gd ((0 : Int) ≤ x5 ∧ x5 < (c2.length : Int) ∧ (Int.toNat x5) < c2.length) <|
  bif (c0 == v8) then
   some (.inr x5)
  else
   let v9:=(kwrap .i64 (x5 + 1))
   next v9
 else
  some (.inl ())
def slices_Index_bool_bool.l0 (K : Nat) (c0 : Bool) (c1 : Int) (c2 : List (Bool)) (n : Nat) : Int → Option ((Unit) ⊕ (Int)):=rounds (slices_Index_bool_bool.r0 K c0 c1 c2) (fun _=>none) n
def slices_Index_bool_bool (K : Nat) (p0 : Bool) (p1 : List (Bool)) : Option (Int):=
 (slices_Index_bool_bool.l0 K p0 (p1.length : Int) p1 K 0 : Option ((Unit) ⊕ (Int))).bind fun z=>match z with
 | .inl _=>
  some (-1)
 | .inr r=>
  some r
def slices_Contains_bool_bool (K : Nat) (p0 : Bool) (p1 : List (Bool)) : Option (Bool):=
 (slices_Index_bool_bool K p0 p1).bind fun r2=>
 let v3:=(decide (r2 ≥ 0))
 some v3
def format_all (K : Nat) (p0 : List (Bool)) : Option (Bool):=
 (slices_Contains_bool_bool K false p0).bind fun r2=>
 some (!r2)
def lapped_lengths (_K : Nat)  : Option (Unit):=
 some ()
def lapped_Lengths (K : Nat)  : Option ((List Int)):=
 (lapped_lengths K ).bind fun _=>
 let v1:=[(40,(60,(80,120))).1,(40,(60,(80,120))).2.1,(40,(60,(80,120))).2.2.1,(40,(60,(80,120))).2.2.2]
 some v1
def slices_Index_int_int.r0 (_K : Nat) (c0 : List Int) (c1 c2 : Int) (next : Int → Option ((Unit) ⊕ (Int))) (x5 : Int) : Option ((Unit) ⊕ (Int)):=
 let v7:=(decide (x5 < c2))
 bif v7 then
  let v8:=(Kd.nth (.int .i64) c0 (Int.toNat x5))
  gd ((0 : Int) ≤ x5 ∧ x5 < (c0.length : Int)) <|
  bif (c1 == v8) then
   some (.inr x5)
  else
   let v9:=(kwrap .i64 (x5 + 1))
   next v9
 else
  some (.inl ())
def slices_Index_int_int.l0 (K : Nat) (c0 : List Int) (c1 c2 : Int) (n : Nat) : Int → Option ((Unit) ⊕ (Int)):=rounds (slices_Index_int_int.r0 K c0 c1 c2) (fun _=>none) n
def slices_Index_int_int (K : Nat) (p0 : List Int) (p1 : Int) : Option (Int):=
 (slices_Index_int_int.l0 K p0 p1 (p0.length : Int) K 0 : Option ((Unit) ⊕ (Int))).bind fun z=>match z with
 | .inl _=>
  some (-1)
 | .inr r=>
  some r
def slices_Contains_int_int (K : Nat) (p0 : List Int) (p1 : Int) : Option (Bool):=
 (slices_Index_int_int K p0 p1).bind fun r2=>
 let v3:=(decide (r2 ≥ 0))
 some v3
def format_fields (K : Nat) (p0 p1 p2 p3 p4 p5 p6 p7 p8 p9 : Int) : Option (Bool):=
 (format_within K p1 0 3).bind fun r64=>
 (format_within K p2 1 2).bind fun r65=>
 (format_all K [r64,r65]).bind fun r66=>
 bif (p0 == 1) then
  (
   bif r66 then
    let v116:=(bif (p3 == 4) then true else (p3 == 8))
    let v117:=(Int.tmod p4 4)
    bif (v117 == 0) then
     (format_within K p4 4 16).bind fun r119=>
     let v120:=(bif (v117 == 0) then r119 else false)
     (format_within K p5 0 1).bind fun r121=>
     let v122:=(kwrap .i64 (p2 - 1))
     (format_within K p6 0 v122).bind fun r123=>
     let v124:=(kwrap .i64 (16 * p3))
     let v125:=(kwrap .i64 (v124 * p2))
     let v126:=(imin v125 250)
     (format_within K p7 2 v126).bind fun r127=>
     let v128:=(bif (p8 == 0) then (p9 == 0) else false)
     let v129:=[v116,v120,r121,r123,r127,v128]
     (format_all K v129).bind fun r130=>
     let v131:=(bif r66 then r130 else false)
     some v131
    else
     let v132:=(bif (v117 == 0) then false else false)
     (format_within K p5 0 1).bind fun r133=>
     let v134:=(kwrap .i64 (p2 - 1))
     (format_within K p6 0 v134).bind fun r135=>
     let v136:=(kwrap .i64 (16 * p3))
     let v137:=(kwrap .i64 (v136 * p2))
     let v138:=(imin v137 250)
     (format_within K p7 2 v138).bind fun r139=>
     let v140:=(bif (p8 == 0) then (p9 == 0) else false)
     let v141:=[v116,v132,r133,r135,r139,v140]
     (format_all K v141).bind fun r142=>
     let v143:=(bif r66 then r142 else false)
     some v143
   else
    let v144:=(bif r66 then false else false)
    some v144 : Option (Bool)).bind fun x114=>
   some x114
 else
  bif (p0 == 2) then
   (
    bif r66 then
     (lapped_Lengths K ).bind fun r158=>
     (slices_Contains_int_int K r158 p8).bind fun r159=>
     (format_within K p9 20 120).bind fun r160=>
     let v161:=(bif (p3 == 0) then (p4 == 0) else false)
     let v162:=(bif v161 then (p5 == 0) else false)
     let v163:=(bif v162 then (p6 == 0) else false)
     let v164:=(bif v163 then (p7 == 0) else false)
     let v165:=[r159,r160,v164]
     (format_all K v165).bind fun r166=>
     let v167:=(bif r66 then r166 else false)
     some v167
    else
     let v168:=(bif r66 then false else false)
     some v168 : Option (Bool)).bind fun x156=>
    some x156
  else
   some false
def format_bits (_K : Nat) (p0 _p1 p2 p3 p4 _p5 p6 p7 _p8 p9 : Int) : Option (Int):=
 bif (p0 == 2) then
  let v1:=(kwrap .i64 (8 * p9))
  some v1
 else
  let v2:=(kwrap .i64 (p6 * p3))
  let v3:=(kwrap .i64 (32 + v2))
  let v4:=(kwrap .i64 (4 * p3))
  let v5:=(kwrap .i64 (v4 * p2))
  let v6:=(kwrap .i64 (v3 + v5))
  let v7:=(kwrap .i64 (p4 * p7))
  let v8:=(kwrap .i64 (v6 + v7))
  some v8
def format_payload (K : Nat) (p0 p1 p2 p3 p4 p5 p6 p7 p8 p9 : Int) : Option (Int):=
 bif (p0 == 2) then
  let v2:=(kwrap .i64 (p9 * p2))
  some v2
 else
  (format_bits K p0 p1 p2 p3 p4 p5 p6 p7 p8 p9).bind fun r3=>
  let v4:=(kwrap .i64 (r3 + 7))
  let v5:=(kwrap .i64 (Int.tdiv v4 8))
  some v5
def format_Check (K : Nat) (p0 p1 p2 p3 p4 p5 p6 p7 p8 p9 : Int) : Option (Int):=
 (
  (format_fields K p0 p1 p2 p3 p4 p5 p6 p7 p8 p9).bind fun r7=>
  bif (!r7) then
   some true
  else
   (format_payload K p0 p1 p2 p3 p4 p5 p6 p7 p8 p9).bind fun r8=>
   let v9:=(decide (r8 > 512))
   some v9 : Option (Bool)).bind fun x6=>
  bif x6 then
   some 110
  else
   some 0
def subband_may (K : Nat) (p0 p1 p2 p3 p4 p5 p6 p7 p8 p9 : Int) : Option (Int):=
 (format_Check K p0 p1 p2 p3 p4 p5 p6 p7 p8 p9).bind fun r2=>
 let v3:=(bif (r2 != 0) then true else (p0 != 1))
 bif v3 then
  some 110
 else
  some 0
def bank_Bank_may (_K : Nat) (p0 : Bool) (_p1 : List (Option (List Int))) (_p2 _p3 : Int) : Option ((Unit) ⊕ (Unit)):=
 bif (!p0) then
  some (.inl ())
 else
  some (.inr ())
def sync_atomic_Bool_Load (_K : Nat) (_p0 _p1 : List (Option (List Int))) (_p2 _p3 : Int) : Option (Unit):=
 some ()
def wave_modulo (_K : Nat) (p0 p1 : Int) : Option (Int):=
 let v2:=(Int.tmod p0 p1)
 gd (p1 ≠ 0) <|
 let v3:=(decide (v2 < 0))
 (
  bif v3 then
   let v5:=(kwrap .i64 (v2 + p1))
   some v5
  else
   some v2 : Option (Int)).bind fun x4=>
  some x4
def wave_height (K : Nat) (p0 p1 : Int) : Option (Int × Int):=
 (wave_modulo K p0 p1).bind fun r3=>
 let v4:=(kwrap .i64 (4 * r3))
 let v5:=(kwrap .i64 (Int.tdiv v4 p1))
 gd (p1 ≠ 0) <|
 let v6:=(Int.tmod v4 p1)
 gd (p1 ≠ 0) <|
 let v7:=(kand .i64 v5 1)
 (
  bif (v7 == 1) then
   let v11:=(kwrap .i64 (p1 - v6))
   some v11
  else
   some v6 : Option (Int)).bind fun x8=>
  let v9:=(kshl .u64 (kwrap .u64 x8) 30)
  let v10:=(kwrap .u64 (Int.tdiv v9 (kwrap .u64 p1)))
  gd ((kwrap .u64 p1) ≠ 0) <|
  some (v10,v5)
def fix_within_int (_K : Nat) (p0 p1 p2 : Int) : Option (Int):=
 let v1:=(decide (p0 < p1))
 bif v1 then
  some p1
 else
  let v2:=(decide (p0 > p2))
  bif v2 then
   some p2
  else
   some p0
def fix_Round (K : Nat) (p0 p1 : Int) : Option (Int):=
 (fix_within_int K p1 0 62).bind fun r2=>
 bif (r2 == 0) then
  some p0
 else
  let v3:=(kshr .i64 p0 r2)
  gd ((0 : Int) ≤ r2) <|
  let v4:=(kwrap .i64 (r2 - 1))
  let v5:=(kshr .i64 p0 v4)
  gd ((0 : Int) ≤ v4) <|
  let v6:=(kand .i64 v5 1)
  let v7:=(kwrap .i64 (v3 + v6))
  some v7
def fix_within_int64 (_K : Nat) (p0 p1 p2 : Int) : Option (Int):=
 let v1:=(decide (p0 < p1))
 bif v1 then
  some p1
 else
  let v2:=(decide (p0 > p2))
  bif v2 then
   some p2
  else
   some p0
def fix_Clip (K : Nat) (p0 p1 p2 : Int) : Option (Int):=
 (fix_within_int64 K p0 p1 p2).bind fun r2=>
 some r2
def wave_sine.r0 (_K : Nat) (_c0 _c1 c2 : Int) (next : Int → Int → Option (Int)) (x27 x28 : Int) : Option (Int):=
 let v31:=(decide (x28 < 4))
 bif v31 then
  let v32:=(List.getD [5026995,85569306,693598668,1686629713] (Int.toNat x28) 0)
  gd ((0 : Int) ≤ x28 ∧ x28 < 4) <|
  let v33:=(kwrap .u64 (x27 * c2))
  let v34:=(kshr .u64 v33 30)
  let v35:=(kwrap .u64 (v32 - v34))
  let v36:=(kwrap .i64 (x28 + 1))
  next v35 v36
 else
  some x27
def wave_sine.l0 (K : Nat) (c0 c1 c2 : Int) (n : Nat) : Int → Int → Option (Int):=rounds (wave_sine.r0 K c0 c1 c2) (fun _ _=>none) n
def wave_sine (K : Nat) (p0 p1 : Int) : Option (Int):=
 (wave_height K p0 p1).bind fun (r11,r12)=>
 let v13:=(kwrap .u64 (r11 * r11))
 let v14:=(kshr .u64 v13 30)
 (wave_sine.l0 K r11 r12 v14 K 172272 0 : Option (Int)).bind fun x19=>
  let v20:=(kwrap .u64 (x19 * r11))
  let v21:=(kshr .u64 v20 30)
  let v22:=(kwrap .i64 v21)
  (fix_Round K v22 15).bind fun r23=>
  (fix_Clip K r23 0 32767).bind fun r24=>
  let v25:=(decide (r12 ≥ 2))
  (
   bif v25 then
    some ((kwrap .i64 (0 - r24)))
   else
    some r24 : Option (Int)).bind fun x26=>
   some (kwrap .i16 x26)
def wave_Sine (K : Nat) (p0 p1 : Int) : Option (Int × Int):=
 let v2:=(decide (p1 < 1))
 let v3:=(decide (p1 > 1048576))
 let v4:=(bif v2 then true else v3)
 bif v4 then
  some (0,1)
 else
  (wave_sine K p0 p1).bind fun r5=>
  some (r5,0)
def wave_Cosine (K : Nat) (p0 p1 : Int) : Option (Int × Int):=
 let v3:=(decide (p1 < 1))
 let v4:=(decide (p1 > 1048576))
 let v5:=(bif v3 then true else v4)
 bif v5 then
  some (0,1)
 else
  (wave_modulo K p0 p1).bind fun r6=>
  let v7:=(kwrap .i64 (4 * r6))
  let v8:=(kwrap .i64 (v7 + p1))
  let v9:=(kwrap .i64 (4 * p1))
  (wave_sine K v8 v9).bind fun r10=>
  some (r10,0)
def fix_Sat16 (K : Nat) (p0 : Int) : Option (Int):=
 (fix_within_int64 K p0 (-32768) 32767).bind fun r2=>
 some (kwrap .i16 r2)
def bank_filtered (K : Nat) (p0 p1 : Int) : Option (Int):=
 let v11:=(kwrap .i64 (5 * p0))
 let v12:=(kwrap .i64 (p1 - v11))
 (
  bif (v12 != 0) then
   let v32:=(kwrap .i64 (3 * v12))
   let v33:=(kwrap .i64 (10 * p0))
   (wave_Sine K v32 v33).bind fun (r34,_r35)=>
   let v36:=(kwrap .i64 (565 * p0))
   let v37:=(kwrap .i64 ((kwrap .i64 r34) * v36))
   let v38:=(kwrap .i64 (1065 * v12))
   let v39:=(kwrap .i64 (Int.tdiv v37 v38))
   gd (v38 ≠ 0) <|
   some v39
  else
   some 32768 : Option (Int)).bind fun x15=>
  let v16:=(kwrap .i64 (10 * p0))
  (wave_Cosine K p1 v16).bind fun (r17,_r18)=>
  let v19:=(kwrap .i64 (2 * p1))
  (wave_Cosine K v19 v16).bind fun (r20,_r21)=>
  let v22:=(kwrap .i64 (50 * (kwrap .i64 r17)))
  let v23:=(kwrap .i64 (1376256 - v22))
  let v24:=(kwrap .i64 (8 * (kwrap .i64 r20)))
  let v25:=(kwrap .i64 (v23 + v24))
  let v26:=(kwrap .i64 (Int.tdiv v25 100))
  let v27:=(kwrap .i64 (x15 * v26))
  (fix_Round K v27 15).bind fun r28=>
  let v29:=(kwrap .i64 (r28 * 19708))
  (fix_Round K v29 15).bind fun r30=>
  (fix_Sat16 K r30).bind fun r31=>
  some r31
def bank_Bank_Filter_1 (K : Nat) (p0 p1 : Int) : Option (Int):=
 (bank_filtered K p1 p0).bind fun r2=>
 some r2
def sync_atomic_Int64_Add (_K : Nat) (p0 : Int) (p1 : List (Option (List Int))) (_p2 : List Int) (p3 : List (Option (List Int))) (p4 _p5 : Int) : Option (Int):=
 gd (p1.length + p3.length = 387) <|
 some (kwrap .i64 (p4 + p0))
def bank_Bank_tell_1.r0 (K : Nat) (c0 : Int) (_c1 _c2 : List (Option (List Int))) (_c3 _c4 _c5 c6 : Int) (next : Int → List Int → Option ((List Int))) (x25 : Int) (x26 : List Int) : Option ((List Int)):=
 let v31:=(decide (x25 < c0))
 bif v31 then
  (bank_Bank_Filter_1 K x25 c6).bind fun r33=>
  gd ((0 : Int) ≤ x25 ∧ x25 < (x26.length : Int)) <|
  let v34:=(List.set x26 (Int.toNat x25) r33)
  gd ((Int.toNat x25) < x26.length) <|
  let v35:=(kwrap .i64 (x25 + 1))
  next v35 v34
 else
  some x26
def bank_Bank_tell_1.l0 (K : Nat) (c0 : Int) (c1 c2 : List (Option (List Int))) (c3 c4 c5 c6 : Int) (n : Nat) : Int → List Int → Option ((List Int)):=rounds (bank_Bank_tell_1.r0 K c0 c1 c2 c3 c4 c5 c6) (fun _ _=>none) n
def bank_Bank_tell_1 (K : Nat) (p0 p1 : List (Option (List Int))) (p2 p3 p4 p5 : Int) : Option ((List Int) × Int):=
 let v11:=(List.replicate (Int.toNat p4) (0 : Int))
 gd ((0 : Int) ≤ p4 ∧ p4 ≤ p4 ∧ p4 * 2 ≤ 140737488355328) <|
 let v12:=(v11.length : Int)
 (bank_Bank_tell_1.l0 K v12 p0 p1 p2 p3 p4 p5 K 0 v11 : Option ((List Int))).bind fun x21=>
  (sync_atomic_Int64_Add K 1 p0 x21 p1 p2 p3).bind fun r22=>
  some (x21,r22)
def sync_Once_doSlow (K : Nat) (p0 p1 : List (Option (List Int))) (p2 p3 p4 p5 : Int) : Option ((List Int) × Int):=
 bank_Bank_tell_1 K p0 p1 p2 p3 p4 p5
def sync_Once_Do (K : Nat) (p0 p1 : List (Option (List Int))) (p2 p3 p4 p5 : Int) : Option ((List Int) × Int):=
 (sync_atomic_Bool_Load K p0 p1 p2 p3).bind fun _=>
 (sync_Once_doSlow K p0 p1 p2 p3 p4 p5).bind fun (r3,r4)=>
 some (r3,r4)
def sync_atomic_Int64_Add_2 (_K : Nat) (p0 : Int) (p1 : List (Option (List Int))) (_p2 : List Int) (p3 : List (Option (List Int))) (_p4 p5 : Int) : Option (Int):=
 gd (p1.length + p3.length = 387) <|
 some (kwrap .i64 (p5 + p0))
def slices_Clone_int16_int16 (_K : Nat) (p0 : List Int) : Option ((List Int)):=
 gd (p0 ≠ []) <|
 let v1:=(([] : List Int) ++ p0)
 gd (((([] : List Int).length : Int) + (p0.length : Int)) * 2 ≤ 70368744177664) <|
 some v1
def bank_Bank_tell (K : Nat) (t0 t1 : List (Option (List Int))) (p1 p3 p4 p5 : Int) : Option ((List Int) × (List Int) × Int × Int):=
 (sync_Once_Do K t0 t1 p3 p4 p1 p5).bind fun (r5,r6)=>
 (sync_atomic_Int64_Add_2 K 1 t0 r5 t1 r6 p4).bind fun r7=>
 (slices_Clone_int16_int16 K r5).bind fun r8=>
 some (r8,r5,r6,r7)
def sync_atomic_Bool_Load_2 (_K : Nat) (_p0 : List (Option (List Int))) (_p1 : List Int) (_p2 : List (Option (List Int))) (_p3 _p4 : Int) : Option (Unit):=
 some ()
def sync_Once_Do_2 (K : Nat) (p0 : List (Option (List Int))) (p1 : List Int) (p2 : List (Option (List Int))) (p3 p4 _p5 _p6 : Int) : Option (Unit):=
 (sync_atomic_Bool_Load_2 K p0 p1 p2 p3 p4).bind fun _=>
 some ()
def bank_Bank_tell_2 (K : Nat) (t0 t1 : List (Option (List Int))) (l : List Int) (p1 p3 p4 p5 : Int) : Option ((List Int) × Int):=
 (sync_Once_Do_2 K t0 l t1 p3 p4 p1 p5).bind fun _=>
 (sync_atomic_Int64_Add_2 K 1 t0 l t1 p3 p4).bind fun r3=>
 (slices_Clone_int16_int16 K l).bind fun r4=>
 some (r4,r3)
def bank_Bank_tell_3 (K p0 : Nat) (p1 : Int) (p2 : List (Option (List Int))) (p3 p4 p5 : Int) : Option ((List Int) × (List (Option (List Int))) × Int × Int):=
 gd (p2.length = 388 ∧ p0 = p0 / 4 * 4 ∧ p0 / 4 < 388) <|
 match p2[p0 / 4]? with
 | some none=>(bank_Bank_tell K (p2.take (p0 / 4)) (p2.drop ((p0 / 4) + 1)) p1 p3 p4 p5).bind fun (q0',q1',q2',q3')=>some (q0',(p2.take (p0 / 4) ++ some q1' :: p2.drop ((p0 / 4) + 1)),q2',q3')
 | some (some l)=>(bank_Bank_tell_2 K (p2.take (p0 / 4)) (p2.drop ((p0 / 4) + 1)) l p1 p3 p4 p5).bind fun (q0',q1')=>some (q0',p2,p3,q1')
 | none=>none
def bank_Bank_Filter (K : Nat) (p0 : Int) (p1 : List (Option (List Int))) (p2 p3 : Int) : Option ((List Int) × Int × (List (Option (List Int))) × Int × Int):=
 let v5:=(bif (p0 == 4) then true else (p0 == 8))
 (bank_Bank_may K v5 p1 p2 p3).bind fun z=>match z with
 | .inl _=>
  some (([] : List Int),1,p1,p2,p3)
 | .inr _=>
  let v6:=(kwrap .i64 (Int.tdiv p0 8))
  let v7:=(1544 + (Int.toNat v6) * 4)
  gd ((0 : Int) ≤ v6 ∧ v6 < 2) <|
  let v8:=(kwrap .i64 (10 * p0))
  (bank_Bank_tell_3 K v7 v8 p1 p2 p3 p0).bind fun (r9,r10,r11,r12)=>
  some (r9,0,r10,r11,r12)
def bank_Bank_Turn_1 (K : Nat) (p0 p1 : Int) : Option (Int):=
 (wave_Cosine K p0 p1).bind fun (r3,_r4)=>
 some r3
def bank_Bank_tell_1_2.r0 (K : Nat) (c0 : Int) (_c1 _c2 : List (Option (List Int))) (_c3 _c4 _c5 c6 : Int) (next : Int → List Int → Option ((List Int))) (x25 : Int) (x26 : List Int) : Option ((List Int)):=
 let v31:=(decide (x25 < c0))
 bif v31 then
  (bank_Bank_Turn_1 K x25 c6).bind fun r33=>
  gd ((0 : Int) ≤ x25 ∧ x25 < (x26.length : Int)) <|
  let v34:=(List.set x26 (Int.toNat x25) r33)
  gd ((Int.toNat x25) < x26.length) <|
  let v35:=(kwrap .i64 (x25 + 1))
  next v35 v34
 else
  some x26
def bank_Bank_tell_1_2.l0 (K : Nat) (c0 : Int) (c1 c2 : List (Option (List Int))) (c3 c4 c5 c6 : Int) (n : Nat) : Int → List Int → Option ((List Int)):=rounds (bank_Bank_tell_1_2.r0 K c0 c1 c2 c3 c4 c5 c6) (fun _ _=>none) n
def bank_Bank_tell_1_2 (K : Nat) (p0 p1 : List (Option (List Int))) (p2 p3 p4 p5 : Int) : Option ((List Int) × Int):=
 let v11:=(List.replicate (Int.toNat p4) (0 : Int))
 gd ((0 : Int) ≤ p4 ∧ p4 ≤ p4 ∧ p4 * 2 ≤ 140737488355328) <|
 let v12:=(v11.length : Int)
 (bank_Bank_tell_1_2.l0 K v12 p0 p1 p2 p3 p4 p5 K 0 v11 : Option ((List Int))).bind fun x21=>
  (sync_atomic_Int64_Add K 1 p0 x21 p1 p2 p3).bind fun r22=>
  some (x21,r22)
def sync_Once_doSlow_2 (K : Nat) (p0 p1 : List (Option (List Int))) (p2 p3 p4 p5 : Int) : Option ((List Int) × Int):=
 bank_Bank_tell_1_2 K p0 p1 p2 p3 p4 p5
def sync_Once_Do_3 (K : Nat) (p0 p1 : List (Option (List Int))) (p2 p3 p4 p5 : Int) : Option ((List Int) × Int):=
 (sync_atomic_Bool_Load K p0 p1 p2 p3).bind fun _=>
 (sync_Once_doSlow_2 K p0 p1 p2 p3 p4 p5).bind fun (r3,r4)=>
 some (r3,r4)
def bank_Bank_tell_4 (K : Nat) (t0 t1 : List (Option (List Int))) (p1 p3 p4 p5 : Int) : Option ((List Int) × (List Int) × Int × Int):=
 (sync_Once_Do_3 K t0 t1 p3 p4 p1 p5).bind fun (r5,r6)=>
 (sync_atomic_Int64_Add_2 K 1 t0 r5 t1 r6 p4).bind fun r7=>
 (slices_Clone_int16_int16 K r5).bind fun r8=>
 some (r8,r5,r6,r7)
def sync_Once_Do_4 (K : Nat) (p0 : List (Option (List Int))) (p1 : List Int) (p2 : List (Option (List Int))) (p3 p4 _p5 _p6 : Int) : Option (Unit):=
 (sync_atomic_Bool_Load_2 K p0 p1 p2 p3 p4).bind fun _=>
 some ()
def bank_Bank_tell_5 (K : Nat) (t0 t1 : List (Option (List Int))) (l : List Int) (p1 p3 p4 p5 : Int) : Option ((List Int) × Int):=
 (sync_Once_Do_4 K t0 l t1 p3 p4 p1 p5).bind fun _=>
 (sync_atomic_Int64_Add_2 K 1 t0 l t1 p3 p4).bind fun r3=>
 (slices_Clone_int16_int16 K l).bind fun r4=>
 some (r4,r3)
def bank_Bank_tell_6 (K p0 : Nat) (p1 : Int) (p2 : List (Option (List Int))) (p3 p4 p5 : Int) : Option ((List Int) × (List (Option (List Int))) × Int × Int):=
 gd (p2.length = 388 ∧ p0 = p0 / 4 * 4 ∧ p0 / 4 < 388) <|
 match p2[p0 / 4]? with
 | some none=>(bank_Bank_tell_4 K (p2.take (p0 / 4)) (p2.drop ((p0 / 4) + 1)) p1 p3 p4 p5).bind fun (q0',q1',q2',q3')=>some (q0',(p2.take (p0 / 4) ++ some q1' :: p2.drop ((p0 / 4) + 1)),q2',q3')
 | some (some l)=>(bank_Bank_tell_5 K (p2.take (p0 / 4)) (p2.drop ((p0 / 4) + 1)) l p1 p3 p4 p5).bind fun (q0',q1')=>some (q0',p2,p3,q1')
 | none=>none
def bank_Bank_Turn (K : Nat) (p0 : Int) (p1 : List (Option (List Int))) (p2 p3 : Int) : Option ((List Int) × Int × (List (Option (List Int))) × Int × Int):=
 let v5:=(decide (p0 ≥ 4))
 let v6:=(decide (p0 ≤ 1024))
 let v7:=(bif v5 then v6 else false)
 let v8:=(Int.tmod p0 4)
 let v9:=(bif v7 then (v8 == 0) else false)
 (bank_Bank_may K v9 p1 p2 p3).bind fun z=>match z with
 | .inl _=>
  some (([] : List Int),1,p1,p2,p3)
 | .inr _=>
  let v10:=(kwrap .i64 (Int.tdiv p0 4))
  let v11:=(0 + (Int.toNat v10) * 4)
  gd ((0 : Int) ≤ v10 ∧ v10 < 257) <|
  (bank_Bank_tell_6 K v11 p0 p1 p2 p3 p0).bind fun (r12,r13,r14,r15)=>
  some (r12,0,r13,r14,r15)
def poly_tables (K : Nat) (p0 : Int) (p1 : List (Option (List Int))) (p2 p3 : Int) : Option (Int × (List Int) × (List Int) × Int × (List (Option (List Int))) × Int × Int):=
 (bank_Bank_Filter K p0 p1 p2 p3).bind fun (r11,r12,r13,r14,r15)=>
 bif (r12 != 0) then
  some (0,([] : List Int),([] : List Int),r12,r13,r14,r15)
 else
  let v16:=(kwrap .i64 (8 * p0))
  (bank_Bank_Turn K v16 r13 r14 r15).bind fun (r17,r18,r19,r20,r21)=>
  some (p0,r11,r17,r18,r19,r20,r21)
def poly_NewSplitter (K : Nat) (p0 : Int) (p1 : List (Option (List Int))) (p2 p3 : Int) : Option ((Int × (List (Option (List Int))) × Int × Int) ⊕ ((List (Option (List Int))) × Int × Int × Int × (List Int) × (List Int) × (List Int))):=
 (poly_tables K p0 p1 p2 p3).bind fun (r8,r9,r10,r11,r12,r13,r14)=>
 bif (r11 != 0) then
  some (.inl (r11,r12,r13,r14))
 else
  let v15:=(kwrap .i64 (10 * p0))
  let v16:=(List.replicate (Int.toNat v15) (0 : Int))
  gd ((0 : Int) ≤ v15 ∧ v15 ≤ v15 ∧ v15 * 8 ≤ 140737488355328) <|
  some (.inr (r12,r13,r14,r8,r9,r10,v16))
def subband_NewEncoder (K : Nat) (p0 p1 p2 p3 p4 p5 p6 p7 p8 p9 : Int) (p10 : List (Option (List Int))) (p11 p12 : Int) : Option ((Int) ⊕ ((List (Option (List Int))) × Int × Int × Int × (List Int) × (List Int) × (List Int)) ⊕ ((List (Option (List Int))) × Int × Int × Int × (List Int) × (List Int) × Int × (List Int) × (List Int) × (List Int) × (List Int))):=
 (subband_may K p0 p1 p2 p3 p4 p5 p6 p7 p8 p9).bind fun r204=>
 bif (r204 != 0) then
  some (.inl r204)
 else
  bif p2 == 1 then
   (poly_NewSplitter K p3 p10 p11 p12).bind fun z=>match z with
   | .inl (_r352,_r353,_r354,_r355)=>
    none
   | .inr (r356,r357,r358,r359,r360,r361,r362)=>
    some (.inr (.inl (r356,r357,r358,r359,r360,r361,r362)))
  else
   bif p2 == 2 then
    (poly_NewSplitter K p3 p10 p11 p12).bind fun z=>match z with
    | .inl (_r374,_r375,_r376,_r377)=>
     none
    | .inr (r378,r379,r380,r381,r382,r383,r384)=>
     (poly_NewSplitter K p3 r378 r379 r380).bind fun z=>match z with
     | .inl (_r396,_r397,_r398,_r399)=>
      none
     | .inr (r400,r401,r402,r403,r404,r405,r406)=>
      some (.inr (.inr (r400,r401,r402,r381,r382,r383,r403,r404,r405,r384,r406)))
   else
    none
def subband_Encoder_Feed (_K : Nat) (_p0 : List Int) : Option ((List Int)):=
 some ([] : List Int)
def format_of (K : Nat) (p0 p1 p2 p3 p4 p5 p6 p7 p8 p9 : Int) : Option (Int):=
 (format_Check K p0 p1 p2 p3 p4 p5 p6 p7 p8 p9).bind fun r3=>
 bif (r3 != 0) then
  some 0
 else
  (format_payload K p0 p1 p2 p3 p4 p5 p6 p7 p8 p9).bind fun r4=>
  some r4
def format_Payload (K : Nat) (p0 p1 p2 p3 p4 p5 p6 p7 p8 p9 : Int) : Option (Int):=
 (format_of K p0 p1 p2 p3 p4 p5 p6 p7 p8 p9).bind fun r2=>
 some r2
def bytes_Clone (_K : Nat) (p0 : List Int) : Option ((List Int)):=
 gd (p0 ≠ []) <|
 let v1:=(([] : List Int) ++ p0)
 gd (((([] : List Int).length : Int) + (p0.length : Int)) * 1 ≤ 70368744177664) <|
 some v1
def bits_Open (K : Nat) (p0 : List Int) : Option ((Unit) ⊕ ((List Int))):=
 let v2:=(decide ((p0.length : Int) > 512))
 bif v2 then
  some (.inl ())
 else
  (bytes_Clone K p0).bind fun r3=>
  some (.inr r3)
def bits_Eye_Front (_K : Nat) (_p0 : Int) : Option (Unit):=
 some ()
def subband_take.r0 (K : Nat) (c0 c1 : Int) (next : Int → List Int → Option ((List Int))) (x13 : Int) (x14 : List Int) : Option ((List Int)):=
 let v17:=(decide (x13 < c1))
 bif v17 then
  (bits_Eye_Front K c0).bind fun _=>
  let v18:=(List.set x14 (Int.toNat x13) 0)
  gd ((0 : Int) ≤ x13 ∧ x13 < (x14.length : Int) ∧ (Int.toNat x13) < x14.length) <|
  let v19:=(kwrap .i64 (x13 + 1))
  next v19 v18
 else
  some x14
def subband_take.l0 (K : Nat) (c0 c1 : Int) (n : Nat) : Int → List Int → Option ((List Int)):=rounds (subband_take.r0 K c0 c1) (fun _ _=>none) n
def subband_take (K : Nat) (p0 p1 : Int) : Option ((List Int)):=
 let v6:=(List.replicate (Int.toNat p0) (0 : Int))
 gd ((0 : Int) ≤ p0 ∧ p0 ≤ p0 ∧ p0 * 8 ≤ 140737488355328) <|
 let v7:=(v6.length : Int)
 (subband_take.l0 K p1 v7 K 0 v6 : Option ((List Int))).bind fun x12=>
  some x12
def alloc_may.r1 (_K : Nat) (_c0 : List (List Int)) (_c1 _c2 : Int) (c3 : List Int) (c4 _c5 _c6 _c7 _c8 _c9 _c10 _c11 _c12 _c13 _c14 : Int) (next : Int → Option ((Unit) ⊕ (Int))) (x43 : Int) : Option ((Unit) ⊕ (Int)):=
 let v45:=(decide (x43 < c4))
 bif v45 then
  let v46:=(Kd.nth (.int .i64) c3 (Int.toNat x43))
  gd ((0 : Int) ≤ x43 ∧ x43 < (c3.length : Int)) <|
  let v47:=(decide (v46 < 0))
  let v48:=(decide (v46 > 15))
  let v49:=(bif v47 then true else v48)
  bif v49 then
   some (.inr 1)
  else
   let v50:=(kwrap .i64 (x43 + 1))
   next v50
 else
  some (.inl ())
def alloc_may.l1 (K : Nat) (c0 : List (List Int)) (c1 c2 : Int) (c3 : List Int) (c4 c5 c6 c7 c8 c9 c10 c11 c12 c13 c14 : Int) (n : Nat) : Int → Option ((Unit) ⊕ (Int)):=rounds (alloc_may.r1 K c0 c1 c2 c3 c4 c5 c6 c7 c8 c9 c10 c11 c12 c13 c14) (fun _=>none) n
def alloc_may.r0 (K : Nat) (c0 : List (List Int)) (c1 c2 c3 c4 c5 c6 c7 c8 c9 c10 c11 : Int) (next : Int → Option ((Unit) ⊕ (Int))) (x29 : Int) : Option ((Unit) ⊕ (Int)):=
 let v35:=(decide (x29 < c1))
 bif v35 then
  let v38:=(Kd.nth (.slice (.int .i64)) c0 (Int.toNat x29))
  gd ((0 : Int) ≤ x29 ∧ x29 < (c0.length : Int)) <|
  let v39:=(v38.length : Int)
  bif (v39 != c5) then
   some (.inr 1)
  else
   (alloc_may.l1 K c0 c1 x29 v38 v39 c2 c3 c4 c5 c6 c7 c8 c9 c10 c11 K 0 : Option ((Unit) ⊕ (Int))).bind fun z=>match z with
   | .inl _=>
    let v42:=(kwrap .i64 (x29 + 1))
    next v42
   | .inr r=>
    some (.inr r)
 else
  some (.inl ())
def alloc_may.l0 (K : Nat) (c0 : List (List Int)) (c1 c2 c3 c4 c5 c6 c7 c8 c9 c10 c11 : Int) (n : Nat) : Int → Option ((Unit) ⊕ (Int)):=rounds (alloc_may.r0 K c0 c1 c2 c3 c4 c5 c6 c7 c8 c9 c10 c11) (fun _=>none) n
def alloc_may (K : Nat) (p0 p1 p2 p3 p4 p5 p6 p7 p8 p9 : Int) (p10 : List (List Int)) : Option (Int):=
 (format_Check K p0 p1 p2 p3 p4 p5 p6 p7 p8 p9).bind fun r12=>
 let v13:=(bif (r12 != 0) then true else (p0 != 1))
 bif v13 then
  some 110
 else
  let v14:=((p10.length : Int) != p2)
  bif v14 then
   some 1
  else
   (alloc_may.l0 K p10 (p10.length : Int) p0 p1 p2 p3 p4 p5 p6 p7 p8 p9 K 0 : Option ((Unit) ⊕ (Int))).bind fun z=>match z with
   | .inl _=>
    some 0
   | .inr r=>
    some r
def alloc_four (_K : Nat)  : Option (Unit):=
 some ()
def alloc_eight (_K : Nat)  : Option (Unit):=
 some ()
def alloc_offset (K : Nat) (_p0 p1 _p2 p3 _p4 _p5 _p6 _p7 _p8 _p9 p10 : Int) : Option (Int):=
 bif (p3 == 4) then
  (alloc_four K ).bind fun _=>
  let v1:=(List.getD [(-1),0,0,0,(-2),0,0,1,(-2),0,0,1,(-2),0,0,1] ((Int.toNat p1) * 4 + 0) 0)
  let v2:=(List.getD [(-1),0,0,0,(-2),0,0,1,(-2),0,0,1,(-2),0,0,1] ((Int.toNat p1) * 4 + 1) 0)
  let v3:=(List.getD [(-1),0,0,0,(-2),0,0,1,(-2),0,0,1,(-2),0,0,1] ((Int.toNat p1) * 4 + 2) 0)
  let v4:=(List.getD [(-1),0,0,0,(-2),0,0,1,(-2),0,0,1,(-2),0,0,1] ((Int.toNat p1) * 4 + 3) 0)
  gd ((0 : Int) ≤ p1 ∧ p1 < (4 : Int)) <|
  let v5:=(List.getD [v1,v2,v3,v4] (Int.toNat p10) 0)
  gd ((0 : Int) ≤ p10 ∧ p10 < 4) <|
  some v5
 else
  (alloc_eight K ).bind fun _=>
  let v6:=(List.getD [(-2),0,0,0,0,0,0,1,(-3),0,0,0,0,0,1,2,(-4),0,0,0,0,0,1,2,(-4),0,0,0,0,0,1,2] ((Int.toNat p1) * 8 + 0) 0)
  let v7:=(List.getD [(-2),0,0,0,0,0,0,1,(-3),0,0,0,0,0,1,2,(-4),0,0,0,0,0,1,2,(-4),0,0,0,0,0,1,2] ((Int.toNat p1) * 8 + 1) 0)
  let v8:=(List.getD [(-2),0,0,0,0,0,0,1,(-3),0,0,0,0,0,1,2,(-4),0,0,0,0,0,1,2,(-4),0,0,0,0,0,1,2] ((Int.toNat p1) * 8 + 2) 0)
  let v9:=(List.getD [(-2),0,0,0,0,0,0,1,(-3),0,0,0,0,0,1,2,(-4),0,0,0,0,0,1,2,(-4),0,0,0,0,0,1,2] ((Int.toNat p1) * 8 + 3) 0)
  let v10:=(List.getD [(-2),0,0,0,0,0,0,1,(-3),0,0,0,0,0,1,2,(-4),0,0,0,0,0,1,2,(-4),0,0,0,0,0,1,2] ((Int.toNat p1) * 8 + 4) 0)
  let v11:=(List.getD [(-2),0,0,0,0,0,0,1,(-3),0,0,0,0,0,1,2,(-4),0,0,0,0,0,1,2,(-4),0,0,0,0,0,1,2] ((Int.toNat p1) * 8 + 5) 0)
  let v12:=(List.getD [(-2),0,0,0,0,0,0,1,(-3),0,0,0,0,0,1,2,(-4),0,0,0,0,0,1,2,(-4),0,0,0,0,0,1,2] ((Int.toNat p1) * 8 + 6) 0)
  let v13:=(List.getD [(-2),0,0,0,0,0,0,1,(-3),0,0,0,0,0,1,2,(-4),0,0,0,0,0,1,2,(-4),0,0,0,0,0,1,2] ((Int.toNat p1) * 8 + 7) 0)
  gd ((0 : Int) ≤ p1 ∧ p1 < (4 : Int)) <|
  let v14:=(List.getD [v6,v7,v8,v9,v10,v11,v12,v13] (Int.toNat p10) 0)
  gd ((0 : Int) ≤ p10 ∧ p10 < 8) <|
  some v14
def alloc_need (K : Nat) (p0 p1 p2 p3 p4 p5 p6 p7 p8 p9 p10 p11 : Int) : Option (Int):=
 bif (p5 == 1) then
  some p10
 else
  bif (p10 == 0) then
   some (-5)
  else
   (alloc_offset K p0 p1 p2 p3 p4 p5 p6 p7 p8 p9 p11).bind fun r3=>
   let v4:=(kwrap .i64 (p10 - r3))
   let v5:=(decide (v4 > 0))
   (
    bif v5 then
     let v7:=(kwrap .i64 (Int.tdiv v4 2))
     some v7
    else
     some v4 : Option (Int)).bind fun x6=>
    some x6
def alloc_Needs.r1 (K : Nat) (_c0 : List (List Int)) (c1 _c2 : Int) (c3 : List Int) (c4 c5 c6 c7 c8 c9 c10 c11 c12 c13 c14 : Int) (next : Int → List (List Int) → Option ((List (List Int)))) (x151 : Int) (x152 : List (List Int)) : Option ((List (List Int))):=
 let v157:=(decide (x151 < c4))
 bif v157 then
  let v159:=(Kd.nth (.int .i64) c3 (Int.toNat x151))
  gd ((0 : Int) ≤ x151 ∧ x151 < (c3.length : Int)) <|
  gd ((0 : Int) ≤ c1 ∧ c1 < (x152.length : Int)) <|
  let v160:=(List.getD x152 (Int.toNat c1) [])
  gd ((Int.toNat c1) < x152.length) <|
  (alloc_need K c5 c6 c7 c8 c9 c10 c11 c12 c13 c14 v159 x151).bind fun r161=>
  let v162:=(v160 ++ [r161])
  gd (((v160.length : Int) + ([r161].length : Int)) * 8 ≤ 70368744177664) <|
  gd ((0 : Int) ≤ c1 ∧ c1 < (x152.length : Int)) <|
  let v163:=(List.set x152 (Int.toNat c1) v162)
  gd ((Int.toNat c1) < x152.length) <|
  let v164:=(kwrap .i64 (x151 + 1))
  next v164 v163
 else
  some x152
def alloc_Needs.l1 (K : Nat) (c0 : List (List Int)) (c1 c2 : Int) (c3 : List Int) (c4 c5 c6 c7 c8 c9 c10 c11 c12 c13 c14 : Int) (n : Nat) : Int → List (List Int) → Option ((List (List Int))):=rounds (alloc_Needs.r1 K c0 c1 c2 c3 c4 c5 c6 c7 c8 c9 c10 c11 c12 c13 c14) (fun _ _=>none) n
def alloc_Needs.r0 (K : Nat) (c0 : List (List Int)) (c1 c2 c3 c4 c5 c6 c7 c8 c9 c10 c11 : Int) (next : Int → List (List Int) → Option ((List (List Int)))) (x105 : Int) (x106 : List (List Int)) : Option ((List (List Int))):=
 let v127:=(decide (x105 < c1))
 bif v127 then
  let v137:=(Kd.nth (.slice (.int .i64)) c0 (Int.toNat x105))
  let v138:=(v137.length : Int)
  gd ((0 : Int) ≤ x105 ∧ x105 < (c0.length : Int)) <|
  (alloc_Needs.l1 K c0 x105 c1 v137 v138 c2 c3 c4 c5 c6 c7 c8 c9 c10 c11 K 0 x106 : Option ((List (List Int)))).bind fun x147=>
   let v148:=(kwrap .i64 (x105 + 1))
   next v148 x147
 else
  some x106
def alloc_Needs.l0 (K : Nat) (c0 : List (List Int)) (c1 c2 c3 c4 c5 c6 c7 c8 c9 c10 c11 : Int) (n : Nat) : Int → List (List Int) → Option ((List (List Int))):=rounds (alloc_Needs.r0 K c0 c1 c2 c3 c4 c5 c6 c7 c8 c9 c10 c11) (fun _ _=>none) n
def alloc_Needs (K : Nat) (p0 p1 p2 p3 p4 p5 p6 p7 p8 p9 : Int) (p10 : List (List Int)) : Option ((List (List Int)) × Int):=
 (alloc_may K p0 p1 p2 p3 p4 p5 p6 p7 p8 p9 p10).bind fun r43=>
 bif (r43 != 0) then
  some (([] : List (List Int)),r43)
 else
  let v44:=(List.replicate (Int.toNat p2) ([] : List Int))
  gd ((0 : Int) ≤ p2 ∧ p2 ≤ p2 ∧ p2 * 24 ≤ 140737488355328) <|
  let v45:=(v44.length : Int)
  (alloc_Needs.l0 K p10 v45 p0 p1 p2 p3 p4 p5 p6 p7 p8 p9 K 0 v44 : Option ((List (List Int)))).bind fun x86=>
   some (x86,0)
def alloc_sharing_cut_1 (_K : Nat) (p0 : Int) (_p1 : Nat) (p2 : List Int) (_p3 p4 _p5 : Int) (_p6 p7 : List (List Int)) (p8 : Nat) : Option (Int × (List (List Int))):=
 some ((imax p4 p0),(List.set p7 p8 p2))
def alloc_sharing_each.r1 (K : Nat) (c0 _c1 c2 c3 c4 : Int) (c5 : List (List Int)) (next : Int → Int → List (List Int) → Option (Int × (List (List Int)))) (x255 x256 : Int) (x257 : List (List Int)) : Option (Int × (List (List Int))):=
 let v265:=(decide (x255 < c2))
 bif v265 then
  let v268:=(Kd.nth (.slice (.int .i64)) c5 (Int.toNat x255))
  gd ((0 : Int) ≤ x255 ∧ x255 < (c5.length : Int)) <|
  let v269:=(Kd.nth (.int .i64) v268 (Int.toNat c0))
  gd ((0 : Int) ≤ c0 ∧ c0 < (v268.length : Int)) <|
  gd ((0 : Int) ≤ x255 ∧ x255 < (x257.length : Int)) <|
  let v270:=(List.getD x257 (Int.toNat x255) [])
  gd ((Int.toNat x255) < x257.length) <|
  gd ((0 : Int) ≤ c0 ∧ c0 < (v270.length : Int)) <|
  (alloc_sharing_cut_1 K v269 (Int.toNat c0) v270 c3 x256 c4 c5 x257 (Int.toNat x255)).bind fun (r271,r272)=>
  let v273:=(kwrap .i64 (x255 + 1))
  next v273 r271 r272
 else
  some (x256,x257)
def alloc_sharing_each.l1 (K : Nat) (c0 c1 c2 c3 c4 : Int) (c5 : List (List Int)) (n : Nat) : Int → Int → List (List Int) → Option (Int × (List (List Int))):=rounds (alloc_sharing_each.r1 K c0 c1 c2 c3 c4 c5) (fun _ _ _=>none) n
def alloc_sharing_each.r0 (K : Nat) (c0 c1 c2 : Int) (c3 : List (List Int)) (next : Int → Int → List (List Int) → Option (Int × (List (List Int)))) (x179 x180 : Int) (x181 : List (List Int)) : Option (Int × (List (List Int))):=
 let v217:=(decide (x179 < c0))
 bif v217 then
  (alloc_sharing_each.l1 K x179 c0 (c3.length : Int) c1 c2 c3 K 0 x180 x181 : Option (Int × (List (List Int)))).bind fun (x248,x249)=>
   let v250:=(kwrap .i64 (x179 + 1))
   next v250 x248 x249
 else
  some (x180,x181)
def alloc_sharing_each.l0 (K : Nat) (c0 c1 c2 : Int) (c3 : List (List Int)) (n : Nat) : Int → Int → List (List Int) → Option (Int × (List (List Int))):=rounds (alloc_sharing_each.r0 K c0 c1 c2 c3) (fun _ _ _=>none) n
def alloc_sharing_each (K : Nat) (p0 p1 p2 : Int) (p3 p4 : List (List Int)) : Option (Int × (List (List Int))):=
 let v73:=(Kd.nth (.slice (.int .i64)) p3 0)
 let v74:=(v73.length : Int)
 gd (0 < (p3.length : Int)) <|
 (alloc_sharing_each.l0 K v74 p0 p2 p3 K 0 p1 p4 : Option (Int × (List (List Int)))).bind fun (x145,x146)=>
  some (x145,x146)
def alloc_sharing_costs_1 (_K : Nat) (p0 : Int) (_p1 : Nat) (p2 : List Int) (p3 _p4 p5 _p6 : Int) (_p7 p8 : List (List Int)) (p9 : Nat) : Option (Int × (List (List Int))):=
 let v3:=(kwrap .i64 (p0 - p5))
 (
  bif (v3 == 1) then
   let v6:=(kwrap .i64 (p3 + 2))
   some ((v6,(List.set p8 p9 p2)))
  else
   let v7:=(decide (v3 > 1))
   let v8:=(decide (v3 < 16))
   let v9:=(bif v7 then v8 else false)
   bif v9 then
    let v10:=(kwrap .i64 (p3 + 1))
    some ((v10,(List.set p8 p9 p2)))
   else
    some ((p3,(List.set p8 p9 p2))) : Option (Int × (List (List Int)))).bind fun (x4,x5)=>
  some (x4,x5)
def alloc_sharing_each_2.r1 (K : Nat) (c0 _c1 c2 c3 c4 c5 : Int) (c6 : List (List Int)) (next : Int → Int → List (List Int) → Option (Int × (List (List Int)))) (x255 x256 : Int) (x257 : List (List Int)) : Option (Int × (List (List Int))):=
 let v265:=(decide (x255 < c2))
 bif v265 then
  let v268:=(Kd.nth (.slice (.int .i64)) c6 (Int.toNat x255))
  gd ((0 : Int) ≤ x255 ∧ x255 < (c6.length : Int)) <|
  let v269:=(Kd.nth (.int .i64) v268 (Int.toNat c0))
  gd ((0 : Int) ≤ c0 ∧ c0 < (v268.length : Int)) <|
  gd ((0 : Int) ≤ x255 ∧ x255 < (x257.length : Int)) <|
  let v270:=(List.getD x257 (Int.toNat x255) [])
  gd ((Int.toNat x255) < x257.length) <|
  gd ((0 : Int) ≤ c0 ∧ c0 < (v270.length : Int)) <|
  (alloc_sharing_costs_1 K v269 (Int.toNat c0) v270 x256 c3 c4 c5 c6 x257 (Int.toNat x255)).bind fun (r271,r272)=>
  let v273:=(kwrap .i64 (x255 + 1))
  next v273 r271 r272
 else
  some (x256,x257)
def alloc_sharing_each_2.l1 (K : Nat) (c0 c1 c2 c3 c4 c5 : Int) (c6 : List (List Int)) (n : Nat) : Int → Int → List (List Int) → Option (Int × (List (List Int))):=rounds (alloc_sharing_each_2.r1 K c0 c1 c2 c3 c4 c5 c6) (fun _ _ _=>none) n
def alloc_sharing_each_2.r0 (K : Nat) (c0 c1 c2 c3 : Int) (c4 : List (List Int)) (next : Int → Int → List (List Int) → Option (Int × (List (List Int)))) (x179 x180 : Int) (x181 : List (List Int)) : Option (Int × (List (List Int))):=
 let v217:=(decide (x179 < c0))
 bif v217 then
  (alloc_sharing_each_2.l1 K x179 c0 (c4.length : Int) c1 c2 c3 c4 K 0 x180 x181 : Option (Int × (List (List Int)))).bind fun (x248,x249)=>
   let v250:=(kwrap .i64 (x179 + 1))
   next v250 x248 x249
 else
  some (x180,x181)
def alloc_sharing_each_2.l0 (K : Nat) (c0 c1 c2 c3 : Int) (c4 : List (List Int)) (n : Nat) : Int → Int → List (List Int) → Option (Int × (List (List Int))):=rounds (alloc_sharing_each_2.r0 K c0 c1 c2 c3 c4) (fun _ _ _=>none) n
def alloc_sharing_each_2 (K : Nat) (p0 p1 p2 : Int) (p3 : List (List Int)) (p4 : Int) (p5 : List (List Int)) : Option (Int × (List (List Int))):=
 let v73:=(Kd.nth (.slice (.int .i64)) p3 0)
 let v74:=(v73.length : Int)
 gd (0 < (p3.length : Int)) <|
 (alloc_sharing_each_2.l0 K v74 p0 p1 p2 p3 K 0 p4 p5 : Option (Int × (List (List Int)))).bind fun (x145,x146)=>
  some (x145,x146)
def alloc_sharing_costs (K : Nat) (p0 p1 p2 : Int) (p3 p4 : List (List Int)) : Option (Int × (List (List Int))):=
 (alloc_sharing_each_2 K p0 p1 p2 p3 0 p4).bind fun (r3,r4)=>
 some (r3,r4)
def alloc_sharing_cut.r0 (K : Nat) (c0 : Int) (c1 : List (List Int)) (next : Int → Int → Int → List (List Int) → Option (Int × Int × Int × (List (List Int)))) (x45 x46 x47 : Int) (x48 : List (List Int)) : Option (Int × Int × Int × (List (List Int))):=
 let v55:=(kwrap .i64 (x47 + x45))
 let v56:=(decide (v55 < c0))
 bif v56 then
  let v57:=(kwrap .i64 (x46 - 1))
  (alloc_sharing_costs K c0 v57 v55 c1 x48).bind fun (r58,r59)=>
  next r58 v57 v55 r59
 else
  some (x45,x46,x47,x48)
def alloc_sharing_cut.l0 (K : Nat) (c0 : Int) (c1 : List (List Int)) (n : Nat) : Int → Int → Int → List (List Int) → Option (Int × Int × Int × (List (List Int))):=rounds (alloc_sharing_cut.r0 K c0 c1) (fun _ _ _ _=>none) n
def alloc_sharing_cut (K : Nat) (p0 p1 p2 : Int) (p3 p4 : List (List Int)) : Option (Int × Int × (List (List Int))):=
 (alloc_sharing_each K p0 p1 p2 p3 p4).bind fun (r21,r22)=>
 (alloc_sharing_costs K p0 r21 p2 p3 r22).bind fun (r23,r24)=>
 (alloc_sharing_cut.l0 K p0 p3 K r23 r21 p2 r24 : Option (Int × Int × Int × (List (List Int)))).bind fun (x37,x38,x39,x40)=>
  let v41:=(kwrap .i64 (x39 + x37))
  bif (v41 == p0) then
   let v42:=(kwrap .i64 (x38 - 1))
   some (v42,v41,x40)
  else
   some (x38,x39,x40)
def alloc_Share_1 (_K : Nat) (p0 : Int) (p1 : Nat) (p2 : List Int) (_p3 p4 _p5 : Int) (_p6 p7 : List (List Int)) (p8 : Nat) : Option ((List (List Int))):=
 let v2:=(kwrap .i64 (p4 + 2))
 let v3:=(decide (p0 ≥ v2))
 (
  bif v3 then
   let v5:=(kwrap .i64 (p0 - p4))
   let v6:=(List.set p2 p1 (imin v5 16))
   gd (p1 < p2.length) <|
   some (List.set p7 p8 v6)
  else
   some (List.set p7 p8 p2) : Option ((List (List Int)))).bind fun x4=>
  some x4
def alloc_sharing_each_3.r1 (K : Nat) (c0 _c1 c2 c3 c4 c5 : Int) (c6 : List (List Int)) (next : Int → List (List Int) → Option ((List (List Int)))) (x147 : Int) (x148 : List (List Int)) : Option ((List (List Int))):=
 let v153:=(decide (x147 < c2))
 bif v153 then
  let v155:=(Kd.nth (.slice (.int .i64)) c6 (Int.toNat x147))
  gd ((0 : Int) ≤ x147 ∧ x147 < (c6.length : Int)) <|
  let v156:=(Kd.nth (.int .i64) v155 (Int.toNat c0))
  gd ((0 : Int) ≤ c0 ∧ c0 < (v155.length : Int)) <|
  gd ((0 : Int) ≤ x147 ∧ x147 < (x148.length : Int)) <|
  let v157:=(List.getD x148 (Int.toNat x147) [])
  gd ((Int.toNat x147) < x148.length) <|
  gd ((0 : Int) ≤ c0 ∧ c0 < (v157.length : Int)) <|
  (alloc_Share_1 K v156 (Int.toNat c0) v157 c3 c4 c5 c6 x148 (Int.toNat x147)).bind fun r158=>
  let v159:=(kwrap .i64 (x147 + 1))
  next v159 r158
 else
  some x148
def alloc_sharing_each_3.l1 (K : Nat) (c0 c1 c2 c3 c4 c5 : Int) (c6 : List (List Int)) (n : Nat) : Int → List (List Int) → Option ((List (List Int))):=rounds (alloc_sharing_each_3.r1 K c0 c1 c2 c3 c4 c5 c6) (fun _ _=>none) n
def alloc_sharing_each_3.r0 (K : Nat) (c0 c1 c2 c3 : Int) (c4 : List (List Int)) (next : Int → List (List Int) → Option ((List (List Int)))) (x103 : Int) (x104 : List (List Int)) : Option ((List (List Int))):=
 let v125:=(decide (x103 < c0))
 bif v125 then
  (alloc_sharing_each_3.l1 K x103 c0 (c4.length : Int) c1 c2 c3 c4 K 0 x104 : Option ((List (List Int)))).bind fun x143=>
   let v144:=(kwrap .i64 (x103 + 1))
   next v144 x143
 else
  some x104
def alloc_sharing_each_3.l0 (K : Nat) (c0 c1 c2 c3 : Int) (c4 : List (List Int)) (n : Nat) : Int → List (List Int) → Option ((List (List Int))):=rounds (alloc_sharing_each_3.r0 K c0 c1 c2 c3 c4) (fun _ _=>none) n
def alloc_sharing_each_3 (K : Nat) (p0 p1 p2 : Int) (p3 p4 : List (List Int)) : Option ((List (List Int))):=
 let v42:=(Kd.nth (.slice (.int .i64)) p3 0)
 let v43:=(v42.length : Int)
 gd (0 < (p3.length : Int)) <|
 (alloc_sharing_each_3.l0 K v43 p0 p1 p2 p3 K 0 p4 : Option ((List (List Int)))).bind fun x84=>
  some x84
def alloc_sharing_more_1 (_K : Nat) (p0 : Int) (p1 : Nat) (p2 : List Int) (p3 : Bool) (p4 p5 p6 : Int) (_p7 p8 : List (List Int)) (p9 : Nat) : Option (Bool × Int × (List (List Int))):=
 (
  let v5:=(decide (p6 ≥ p4))
  bif v5 then
   some (.inr (false,p6,(List.set p8 p9 p2)))
  else
   let v6:=(Kd.nth (.int .i64) p2 p1)
   let v7:=(decide (v6 ≥ 2))
   let v8:=(decide (v6 < 16))
   let v9:=(bif v7 then v8 else false)
   gd (p1 < p2.length ∧ (v7 = true → p1 < p2.length)) <|
   bif v9 then
    let v10:=(kwrap .i64 (v6 + 1))
    let v11:=(List.set p2 p1 v10)
    gd (p1 < p2.length ∧ p1 < p2.length) <|
    let v12:=(kwrap .i64 (p6 + 1))
    some (.inl (v12,(List.set p8 p9 v11)))
   else
    let v13:=(kwrap .i64 (p5 + 1))
    let v14:=(bif p3 then (p0 == v13) else false)
    let v15:=(kwrap .i64 (p6 + 1))
    let v16:=(decide (p4 > v15))
    let v17:=(bif v14 then v16 else false)
    bif v17 then
     let v18:=(List.set p2 p1 2)
     gd (p1 < p2.length) <|
     let v19:=(kwrap .i64 (p6 + 2))
     some (.inl (v19,(List.set p8 p9 v18)))
    else
     some (.inl (p6,(List.set p8 p9 p2))) : Option ((Int × (List (List Int))) ⊕ (Bool × Int × (List (List Int))))).bind fun z=>match z with
 | .inl (x3,x4)=>
  some (true,x3,x4)
 | .inr r=>
  some r
def alloc_sharing_each_4.r1 (K : Nat) (c0 _c1 c2 c3 c4 : Int) (c5 : List (List Int)) (c6 : Bool) (next : Int → Int → List (List Int) → Option ((Int × (List (List Int))) ⊕ (Int × (List (List Int))))) (x313 x314 : Int) (x315 : List (List Int)) : Option ((Int × (List (List Int))) ⊕ (Int × (List (List Int)))):=
 let v325:=(decide (x313 < c2))
 bif v325 then
  let v329:=(Kd.nth (.slice (.int .i64)) c5 (Int.toNat x313))
  gd ((0 : Int) ≤ x313 ∧ x313 < (c5.length : Int)) <|
  let v330:=(Kd.nth (.int .i64) v329 (Int.toNat c0))
  gd ((0 : Int) ≤ c0 ∧ c0 < (v329.length : Int)) <|
  gd ((0 : Int) ≤ x313 ∧ x313 < (x315.length : Int)) <|
  let v331:=(List.getD x315 (Int.toNat x313) [])
  gd ((Int.toNat x313) < x315.length) <|
  gd ((0 : Int) ≤ c0 ∧ c0 < (v331.length : Int)) <|
  (alloc_sharing_more_1 K v330 (Int.toNat c0) v331 c6 c3 c4 x314 c5 x315 (Int.toNat x313)).bind fun (r332,r333,r334)=>
  bif (!r332) then
   some (.inr (r333,r334))
  else
   let v335:=(kwrap .i64 (x313 + 1))
   next v335 r333 r334
 else
  some (.inl (x314,x315))
def alloc_sharing_each_4.l1 (K : Nat) (c0 c1 c2 c3 c4 : Int) (c5 : List (List Int)) (c6 : Bool) (n : Nat) : Int → Int → List (List Int) → Option ((Int × (List (List Int))) ⊕ (Int × (List (List Int)))):=rounds (alloc_sharing_each_4.r1 K c0 c1 c2 c3 c4 c5 c6) (fun _ _ _=>none) n
def alloc_sharing_each_4.r0 (K : Nat) (c0 c1 c2 : Int) (c3 : List (List Int)) (c4 : Bool) (next : Int → Int → List (List Int) → Option ((Int × (List (List Int))) ⊕ (Int × (List (List Int))))) (x219 x220 : Int) (x221 : List (List Int)) : Option ((Int × (List (List Int))) ⊕ (Int × (List (List Int)))):=
 let v265:=(decide (x219 < c0))
 bif v265 then
  (alloc_sharing_each_4.l1 K x219 c0 (c3.length : Int) c1 c2 c3 c4 K 0 x220 x221 : Option ((Int × (List (List Int))) ⊕ (Int × (List (List Int))))).bind fun z=>match z with
  | .inl (x304,x305)=>
   let v306:=(kwrap .i64 (x219 + 1))
   next v306 x304 x305
  | .inr r=>
   some (.inr r)
 else
  some (.inl (x220,x221))
def alloc_sharing_each_4.l0 (K : Nat) (c0 c1 c2 : Int) (c3 : List (List Int)) (c4 : Bool) (n : Nat) : Int → Int → List (List Int) → Option ((Int × (List (List Int))) ⊕ (Int × (List (List Int)))):=rounds (alloc_sharing_each_4.r0 K c0 c1 c2 c3 c4) (fun _ _ _=>none) n
def alloc_sharing_each_4 (K : Nat) (p0 p1 p2 : Int) (p3 : List (List Int)) (p4 : Bool) (p5 : List (List Int)) : Option (Int × (List (List Int))):=
 let v89:=(Kd.nth (.slice (.int .i64)) p3 0)
 let v90:=(v89.length : Int)
 gd (0 < (p3.length : Int)) <|
 (alloc_sharing_each_4.l0 K v90 p0 p1 p3 p4 K 0 p2 p5 : Option ((Int × (List (List Int))) ⊕ (Int × (List (List Int))))).bind fun z=>match z with
 | .inl (x177,x178)=>
  some (x177,x178)
 | .inr r=>
  some r
def alloc_sharing_more (K : Nat) (p0 : Bool) (p1 p2 p3 : Int) (p4 p5 : List (List Int)) : Option (Int × (List (List Int))):=
 (alloc_sharing_each_4 K p1 p2 p3 p4 p0 p5).bind fun (r3,r4)=>
 some (r3,r4)
def alloc_Share.r0 (_K : Nat) (c0 _c1 _c2 _c3 c4 _c5 _c6 _c7 _c8 _c9 _c10 : Int) (_c11 : List (List Int)) (next : Int → List (List Int) → Option ((List (List Int)))) (x33 : Int) (x34 : List (List Int)) : Option ((List (List Int))):=
 let v37:=(decide (x33 < c0))
 bif v37 then
  let v38:=(List.replicate (Int.toNat c4) (0 : Int))
  gd ((0 : Int) ≤ c4 ∧ c4 ≤ c4 ∧ c4 * 8 ≤ 140737488355328) <|
  gd ((0 : Int) ≤ x33 ∧ x33 < (x34.length : Int)) <|
  let v39:=(List.set x34 (Int.toNat x33) v38)
  gd ((Int.toNat x33) < x34.length) <|
  let v40:=(kwrap .i64 (x33 + 1))
  next v40 v39
 else
  some x34
def alloc_Share.l0 (K : Nat) (c0 c1 c2 c3 c4 c5 c6 c7 c8 c9 c10 : Int) (c11 : List (List Int)) (n : Nat) : Int → List (List Int) → Option ((List (List Int))):=rounds (alloc_Share.r0 K c0 c1 c2 c3 c4 c5 c6 c7 c8 c9 c10 c11) (fun _ _=>none) n
def alloc_Share (K : Nat) (p0 p1 p2 p3 p4 p5 p6 p7 p8 p9 : Int) (p10 : List (List Int)) : Option ((List (List Int)) × Int):=
 (alloc_Needs K p0 p1 p2 p3 p4 p5 p6 p7 p8 p9 p10).bind fun (r16,r17)=>
 bif (r17 != 0) then
  some (([] : List (List Int)),r17)
 else
  let v18:=(List.replicate (Int.toNat p2) ([] : List Int))
  gd ((0 : Int) ≤ p2 ∧ p2 ≤ p2 ∧ p2 * 24 ≤ 140737488355328) <|
  let v19:=(v18.length : Int)
  (alloc_Share.l0 K v19 p0 p1 p2 p3 p4 p5 p6 p7 p8 p9 r16 K 0 v18 : Option ((List (List Int)))).bind fun x24=>
   (alloc_sharing_cut K p7 (-99) 0 r16 x24).bind fun (r25,r26,r27)=>
   (alloc_sharing_each_3 K p7 r25 r26 r16 r27).bind fun r28=>
   (alloc_sharing_more K true p7 r25 r26 r16 r28).bind fun (r29,r30)=>
   (alloc_sharing_more K false p7 r25 r29 r16 r30).bind fun (_r31,r32)=>
   some (r32,0)
def subband_Params_share_2 (_K : Nat) (p0 _p1 _p2 _p3 _p4 _p5 _p6 p7 _p8 _p9 _p10 : Int) : Option (Bool):=
 let v1:=(bif (p7 == 1) then (p0 == 1) else false)
 let v2:=(bif (p0 == 0) then true else v1)
 some v2
def subband_shaped_int_1 (K : Nat) (p0 p1 p2 p3 p4 p5 p6 p7 p8 p9 p10 : Int) : Option (Bool):=
 (subband_Params_share_2 K p0 p1 p2 p3 p4 p5 p6 p7 p8 p9 p10).bind fun r2=>
 some (!r2)
def slices_IndexFunc_int_int.r0 (K : Nat) (c0 : List Int) (c1 c2 c3 c4 c5 c6 c7 c8 c9 c10 c11 : Int) (next : Int → Option ((Unit) ⊕ (Int))) (x15 : Int) : Option ((Unit) ⊕ (Int)):=
 let v19:=(decide (x15 < c1))
 bif v19 then
  let v21:=(Kd.nth (.int .i64) c0 (Int.toNat x15))
  gd ((0 : Int) ≤ x15 ∧ x15 < (c0.length : Int)) <|
  (subband_shaped_int_1 K v21 c2 c3 c4 c5 c6 c7 c8 c9 c10 c11).bind fun r22=>
  bif r22 then
   some (.inr x15)
  else
   let v23:=(kwrap .i64 (x15 + 1))
   next v23
 else
  some (.inl ())
def slices_IndexFunc_int_int.l0 (K : Nat) (c0 : List Int) (c1 c2 c3 c4 c5 c6 c7 c8 c9 c10 c11 : Int) (n : Nat) : Int → Option ((Unit) ⊕ (Int)):=rounds (slices_IndexFunc_int_int.r0 K c0 c1 c2 c3 c4 c5 c6 c7 c8 c9 c10 c11) (fun _=>none) n
def slices_IndexFunc_int_int (K : Nat) (p0 : List Int) (p1 p2 p3 p4 p5 p6 p7 p8 p9 p10 : Int) : Option (Int):=
 (slices_IndexFunc_int_int.l0 K p0 (p0.length : Int) p1 p2 p3 p4 p5 p6 p7 p8 p9 p10 K 0 : Option ((Unit) ⊕ (Int))).bind fun z=>match z with
 | .inl _=>
  some (-1)
 | .inr r=>
  some r
def slices_ContainsFunc_int_int (K : Nat) (p0 : List Int) (p1 p2 p3 p4 p5 p6 p7 p8 p9 p10 : Int) : Option (Bool):=
 (slices_IndexFunc_int_int K p0 p1 p2 p3 p4 p5 p6 p7 p8 p9 p10).bind fun r2=>
 let v3:=(decide (r2 ≥ 0))
 some v3
def subband_shaped_int (K : Nat) (p0 : List Int) (p1 p2 p3 p4 p5 p6 p7 p8 p9 p10 p11 : Int) : Option (Bool):=
 (
  let v5:=((p0.length : Int) == p1)
  bif v5 then
   (slices_ContainsFunc_int_int K p0 p2 p3 p4 p5 p6 p7 p8 p9 p10 p11).bind fun r6=>
   some (!r6)
  else
   some false : Option (Bool)).bind fun x4=>
  some x4
def subband_Params_share_1 (_K : Nat) (p0 : Int) : Option (Bool):=
 some (p0 == 0)
def subband_Params_share_3 (_K : Nat) (p0 : List (List Int)) (_p1 _p2 p3 _p4 _p5 _p6 _p7 _p8 _p9 _p10 : Int) : Option (Bool):=
 let v1:=((p0.length : Int) == p3)
 some v1
def subband_shaped_int_1_2 (K : Nat) (p0 : List (List Int)) (p1 p2 p3 p4 p5 p6 p7 p8 p9 p10 : Int) : Option (Bool):=
 (subband_Params_share_3 K p0 p1 p2 p3 p4 p5 p6 p7 p8 p9 p10).bind fun r2=>
 some (!r2)
def slices_IndexFunc_int_int_2.r0 (K : Nat) (c0 : List (List (List Int))) (c1 c2 c3 c4 c5 c6 c7 c8 c9 c10 c11 : Int) (next : Int → Option ((Unit) ⊕ (Int))) (x15 : Int) : Option ((Unit) ⊕ (Int)):=
 let v19:=(decide (x15 < c1))
 bif v19 then
  let v21:=(Kd.nth (.slice (.slice (.int .i64))) c0 (Int.toNat x15))
  gd ((0 : Int) ≤ x15 ∧ x15 < (c0.length : Int)) <|
  (subband_shaped_int_1_2 K v21 c2 c3 c4 c5 c6 c7 c8 c9 c10 c11).bind fun r22=>
  bif r22 then
   some (.inr x15)
  else
   let v23:=(kwrap .i64 (x15 + 1))
   next v23
 else
  some (.inl ())
def slices_IndexFunc_int_int_2.l0 (K : Nat) (c0 : List (List (List Int))) (c1 c2 c3 c4 c5 c6 c7 c8 c9 c10 c11 : Int) (n : Nat) : Int → Option ((Unit) ⊕ (Int)):=rounds (slices_IndexFunc_int_int_2.r0 K c0 c1 c2 c3 c4 c5 c6 c7 c8 c9 c10 c11) (fun _=>none) n
def slices_IndexFunc_int_int_2 (K : Nat) (p0 : List (List (List Int))) (p1 p2 p3 p4 p5 p6 p7 p8 p9 p10 : Int) : Option (Int):=
 (slices_IndexFunc_int_int_2.l0 K p0 (p0.length : Int) p1 p2 p3 p4 p5 p6 p7 p8 p9 p10 K 0 : Option ((Unit) ⊕ (Int))).bind fun z=>match z with
 | .inl _=>
  some (-1)
 | .inr r=>
  some r
def slices_ContainsFunc_int_int_2 (K : Nat) (p0 : List (List (List Int))) (p1 p2 p3 p4 p5 p6 p7 p8 p9 p10 : Int) : Option (Bool):=
 (slices_IndexFunc_int_int_2 K p0 p1 p2 p3 p4 p5 p6 p7 p8 p9 p10).bind fun r2=>
 let v3:=(decide (r2 ≥ 0))
 some v3
def subband_shaped_int_2 (K : Nat) (p0 : List (List (List Int))) (p1 p2 p3 p4 p5 p6 p7 p8 p9 p10 p11 : Int) : Option (Bool):=
 (
  let v5:=((p0.length : Int) == p1)
  bif v5 then
   (slices_ContainsFunc_int_int_2 K p0 p2 p3 p4 p5 p6 p7 p8 p9 p10 p11).bind fun r6=>
   some (!r6)
  else
   some false : Option (Bool)).bind fun x4=>
  some x4
def quant_may (_K : Nat) (p0 p1 : Int) : Option (Bool):=
 let v1:=(decide (p0 ≥ 0))
 let v2:=(decide (p0 ≤ 15))
 let v3:=(bif v1 then v2 else false)
 let v4:=(decide (p1 ≥ 2))
 let v5:=(decide (p1 ≤ 16))
 let v6:=(bif v4 then v5 else false)
 let v7:=(bif (p1 == 0) then true else v6)
 let v8:=(bif v3 then v7 else false)
 some v8
def quant_Level (K : Nat) (p0 p1 p2 : Int) : Option (Int × Int):=
 (quant_may K p1 p2).bind fun r7=>
 (
  bif (!r7) then
   some (!r7)
  else
   let v18:=(decide (p0 < 0))
   bif v18 then
    some v18
   else
    let v19:=(bif (p2 == 0) then (p0 != 0) else false)
    bif v19 then
     some v19
    else
     let v20:=(decide (p2 > 0))
     let v21:=(kshl .i64 1 p2)
     let v22:=(kwrap .i64 (v21 - 1))
     let v23:=(decide (p0 ≥ v22))
     let v24:=(bif v20 then v23 else false)
     gd ((v20 = true → (0 : Int) ≤ p2)) <|
     some v24 : Option (Bool)).bind fun x8=>
  bif x8 then
   some (0,1)
  else
   bif (p2 == 0) then
    some (0,0)
   else
    let v9:=(kshl .i64 2 p1)
    gd ((0 : Int) ≤ p1) <|
    let v10:=(kshl .i64 1 p2)
    gd ((0 : Int) ≤ p2) <|
    let v11:=(kwrap .i64 (v10 - 1))
    let v12:=(kwrap .i64 (2 * p0))
    let v13:=(kwrap .i64 (v12 + 1))
    let v14:=(kwrap .i64 (v13 * v9))
    let v15:=(kwrap .i64 (Int.tdiv v14 v11))
    let v16:=(kwrap .i64 (v15 - v9))
    let v17:=(kwrap .i32 v16)
    gd (v11 ≠ 0) <|
    some (v17,0)
def subband_Params_share.r2 (K : Nat) (c0 c1 : List (List Int)) (c2 : Int) (_c3 : List (List (List Int))) (_c4 _c5 : Int) (_c6 : List Int) (c7 : List (List Int)) (_c8 _c9 _c10 c11 _c12 _c13 _c14 _c15 _c16 _c17 : Int) (next : Bool → Int → Option (Bool)) (x921 : Bool) (x922 : Int) : Option (Bool):=
 let v929:=(decide (x922 < c11))
 let v930:=(bif x921 then v929 else false)
 bif v930 then
  let v933:=(Kd.nth (.slice (.int .i64)) c1 (Int.toNat c2))
  gd ((0 : Int) ≤ c2 ∧ c2 < (c1.length : Int)) <|
  let v934:=(Kd.nth (.int .i64) v933 (Int.toNat x922))
  gd ((0 : Int) ≤ x922 ∧ x922 < (v933.length : Int)) <|
  let v935:=(Kd.nth (.slice (.int .i64)) c7 (Int.toNat c2))
  gd ((0 : Int) ≤ c2 ∧ c2 < (c7.length : Int)) <|
  let v936:=(Kd.nth (.int .i64) v935 (Int.toNat x922))
  gd ((0 : Int) ≤ x922 ∧ x922 < (v935.length : Int)) <|
  let v937:=(Kd.nth (.slice (.int .i64)) c0 (Int.toNat c2))
  gd ((0 : Int) ≤ c2 ∧ c2 < (c0.length : Int)) <|
  let v938:=(Kd.nth (.int .i64) v937 (Int.toNat x922))
  gd ((0 : Int) ≤ x922 ∧ x922 < (v937.length : Int)) <|
  (quant_Level K v934 v936 v938).bind fun (_r939,r940)=>
  let v941:=(kwrap .i64 (x922 + 1))
  next (r940 == 0) v941
 else
  some x921
def subband_Params_share.l2 (K : Nat) (c0 c1 : List (List Int)) (c2 : Int) (c3 : List (List (List Int))) (c4 c5 : Int) (c6 : List Int) (c7 : List (List Int)) (c8 c9 c10 c11 c12 c13 c14 c15 c16 c17 : Int) (n : Nat) : Bool → Int → Option (Bool):=rounds (subband_Params_share.r2 K c0 c1 c2 c3 c4 c5 c6 c7 c8 c9 c10 c11 c12 c13 c14 c15 c16 c17) (fun _ _=>none) n
def subband_Params_share.r1 (K : Nat) (c0 c1 : List (List Int)) (c2 : List (List (List Int))) (c3 c4 : Int) (c5 : List Int) (c6 : List (List Int)) (c7 c8 c9 c10 c11 c12 c13 c14 c15 c16 : Int) (next : Bool → Int → Option (Bool)) (x856 : Bool) (x857 : Int) : Option (Bool):=
 let v886:=(decide (x857 < c9))
 let v887:=(bif x856 then v886 else false)
 bif v887 then
  let v901:=(Kd.nth (.slice (.int .i64)) c1 (Int.toNat x857))
  gd ((0 : Int) ≤ x857 ∧ x857 < (c1.length : Int)) <|
  let v902:=(v901.length : Int)
  (subband_Params_share.l2 K c0 c1 x857 c2 c3 c4 c5 c6 c7 c8 c9 c10 c11 c12 c13 c14 c15 c16 K (v902 == c10) 0 : Option (Bool)).bind fun x915=>
   let v916:=(kwrap .i64 (x857 + 1))
   next x915 v916
 else
  some x856
def subband_Params_share.l1 (K : Nat) (c0 c1 : List (List Int)) (c2 : List (List (List Int))) (c3 c4 : Int) (c5 : List Int) (c6 : List (List Int)) (c7 c8 c9 c10 c11 c12 c13 c14 c15 c16 : Int) (n : Nat) : Bool → Int → Option (Bool):=rounds (subband_Params_share.r1 K c0 c1 c2 c3 c4 c5 c6 c7 c8 c9 c10 c11 c12 c13 c14 c15 c16) (fun _ _=>none) n
def subband_Params_share.r0 (K : Nat) (c0 : List (List Int)) (c1 : List (List (List Int))) (c2 : Int) (c3 : List Int) (c4 : List (List Int)) (c5 c6 c7 c8 c9 c10 c11 c12 c13 c14 : Int) (next : Bool → Int → Option (Bool)) (x595 : Bool) (x596 : Int) : Option (Bool):=
 let v713:=(decide (x596 < c2))
 bif v713 then
  let v771:=(Kd.nth (.slice (.slice (.int .i64))) c1 (Int.toNat x596))
  gd ((0 : Int) ≤ x596 ∧ x596 < (c1.length : Int)) <|
  (subband_Params_share.l1 K c0 v771 c1 c2 x596 c3 c4 c5 c6 c7 c8 c9 c10 c11 c12 c13 c14 K x595 0 : Option (Bool)).bind fun x828=>
   let v829:=(kwrap .i64 (x596 + 1))
   next x828 v829
 else
  some x595
def subband_Params_share.l0 (K : Nat) (c0 : List (List Int)) (c1 : List (List (List Int))) (c2 : Int) (c3 : List Int) (c4 : List (List Int)) (c5 c6 c7 c8 c9 c10 c11 c12 c13 c14 : Int) (n : Nat) : Bool → Int → Option (Bool):=rounds (subband_Params_share.r0 K c0 c1 c2 c3 c4 c5 c6 c7 c8 c9 c10 c11 c12 c13 c14) (fun _ _=>none) n
def subband_Params_share (K : Nat) (p0 p1 p2 p3 p4 p5 p6 p7 p8 p9 : Int) (p10 : List Int) (p11 : List (List Int)) (p12 : List (List (List Int))) : Option ((List (List Int)) × Bool):=
 (
  (subband_shaped_int K p10 p3 p0 p1 p2 p3 p4 p5 p6 p7 p8 p9).bind fun r942=>
  bif (!r942) then
   let v944:=(bif (!r942) then true else false)
   some v944
  else
   let v945:=(kwrap .i64 (p3 - 1))
   let v946:=(Kd.nth (.int .i64) p10 (Int.toNat v945))
   gd ((0 : Int) ≤ v945 ∧ v945 < (p10.length : Int)) <|
   (subband_Params_share_1 K v946).bind fun r947=>
   let v948:=(bif (!r942) then true else (!r947))
   some v948 : Option (Bool)).bind fun x244=>
  bif x244 then
   some (([] : List (List Int)),false)
  else
   (alloc_Share K p0 p1 p2 p3 p4 p5 p6 p7 p8 p9 p11).bind fun (r245,r246)=>
   bif (r246 != 0) then
    some (([] : List (List Int)),false)
   else
    (subband_shaped_int_2 K p12 p4 p0 p1 p2 p3 p4 p5 p6 p7 p8 p9).bind fun r247=>
    (subband_Params_share.l0 K r245 p12 (p12.length : Int) p10 p11 p0 p1 p2 p3 p4 p5 p6 p7 p8 p9 K r247 0 : Option (Bool)).bind fun x480=>
     some (r245,x480)
def bits_New (_K : Nat) (p0 : Int) : Option ((Int) ⊕ ((List Int))):=
 let v1:=(decide (p0 < 0))
 bif v1 then
  some (.inl 1)
 else
  let v2:=(decide (p0 > 512))
  bif v2 then
   some (.inl 2)
  else
   let v3:=(List.replicate (Int.toNat p0) (0 : Int))
   gd ((0 : Int) ≤ p0 ∧ p0 ≤ p0 ∧ p0 * 1 ≤ 140737488355328) <|
   some (.inr v3)
def bits_Pad_write (_K : Nat) (_p0 _p1 : Int) : Option (Unit):=
 some ()
def bits_Pad_Front (K : Nat) (p0 p1 : Int) : Option (Unit):=
 (bits_Pad_write K p0 p1).bind fun _=>
 some ()
def subband_put.r0 (K : Nat) (c0 : List ((Int × Int))) (c1 : Int) (next : Int → Int → Option (Int)) (x11 x12 : Int) : Option (Int):=
 let v15:=(decide (x12 < c1))
 bif v15 then
  let v16:=(Kd.nth (.pair (.int .i64) (.int .i64)) c0 (Int.toNat x12))
  gd ((0 : Int) ≤ x12 ∧ x12 < (c0.length : Int)) <|
  let v17:=(kwrap .u32 v16.1)
  (bits_Pad_Front K v17 v16.2).bind fun _=>
  let v18:=(kwrap .i64 (x11 + v16.2))
  let v19:=(kwrap .i64 (x12 + 1))
  next v18 v19
 else
  some x11
def subband_put.l0 (K : Nat) (c0 : List ((Int × Int))) (c1 : Int) (n : Nat) : Int → Int → Option (Int):=rounds (subband_put.r0 K c0 c1) (fun _ _=>none) n
def subband_put (K : Nat) (p0 : List ((Int × Int))) : Option (Int):=
 (subband_put.l0 K p0 (p0.length : Int) K 0 0 : Option (Int)).bind fun x10=>
  some x10
def subband_head (_K : Nat) (_p0 p1 p2 p3 p4 p5 p6 p7 _p8 _p9 : Int) : Option ((List ((Int × Int)))):=
 (
  bif (p2 == 2) then
   let v8:=(kwrap .i64 (2 + p6))
   some v8
  else
   some 0 : Option (Int)).bind fun x2=>
  let v3:=(kwrap .i64 (Int.tdiv p4 4))
  let v4:=(kwrap .i64 (v3 - 1))
  let v5:=(kwrap .i64 (Int.tdiv p3 4))
  let v6:=(kwrap .i64 (v5 - 1))
  let v7:=[(p1,2),(v4,2),(x2,2),(p5,1),(v6,1),(p7,8)]
  some v7
def subband_Params_side.r1 (_K : Nat) (_c0 : List (List Int)) (_c1 _c2 : Int) (c3 : List Int) (c4 : Int) (_c5 : List Int) (_c6 : List (List (List Int))) (next : Int → List ((Int × Int)) → Option ((List ((Int × Int))))) (x101 : Int) (x102 : List ((Int × Int))) : Option ((List ((Int × Int)))):=
 let v105:=(decide (x101 < c4))
 bif v105 then
  let v106:=(Kd.nth (.int .i64) c3 (Int.toNat x101))
  gd ((0 : Int) ≤ x101 ∧ x101 < (c3.length : Int)) <|
  let v107:=(x102 ++ [(v106,4)])
  gd (((x102.length : Int) + ([(v106,4)].length : Int)) * 16 ≤ 70368744177664) <|
  let v108:=(kwrap .i64 (x101 + 1))
  next v108 v107
 else
  some x102
def subband_Params_side.l1 (K : Nat) (c0 : List (List Int)) (c1 c2 : Int) (c3 : List Int) (c4 : Int) (c5 : List Int) (c6 : List (List (List Int))) (n : Nat) : Int → List ((Int × Int)) → Option ((List ((Int × Int)))):=rounds (subband_Params_side.r1 K c0 c1 c2 c3 c4 c5 c6) (fun _ _=>none) n
def subband_Params_side.r0 (K : Nat) (c0 : List (List Int)) (c1 : Int) (c2 : List Int) (c3 : List (List (List Int))) (next : Int → List ((Int × Int)) → Option ((List ((Int × Int))))) (x73 : Int) (x74 : List ((Int × Int))) : Option ((List ((Int × Int)))):=
 let v87:=(decide (x73 < c1))
 bif v87 then
  let v93:=(Kd.nth (.slice (.int .i64)) c0 (Int.toNat x73))
  gd ((0 : Int) ≤ x73 ∧ x73 < (c0.length : Int)) <|
  let v94:=(v93.length : Int)
  (subband_Params_side.l1 K c0 c1 x73 v93 v94 c2 c3 K 0 x74 : Option ((List ((Int × Int))))).bind fun x99=>
   let v100:=(kwrap .i64 (x73 + 1))
   next v100 x99
 else
  some x74
def subband_Params_side.l0 (K : Nat) (c0 : List (List Int)) (c1 : Int) (c2 : List Int) (c3 : List (List (List Int))) (n : Nat) : Int → List ((Int × Int)) → Option ((List ((Int × Int)))):=rounds (subband_Params_side.r0 K c0 c1 c2 c3) (fun _ _=>none) n
def subband_Params_side.r2 (_K : Nat) (c0 : List Int) (c1 : Int) (_c2 : List (List Int)) (_c3 : List (List (List Int))) (next : Int → List ((Int × Int)) → Option ((List ((Int × Int))))) (x114 : Int) (x115 : List ((Int × Int))) : Option ((List ((Int × Int)))):=
 let v118:=(decide (x114 < c1))
 bif v118 then
  let v119:=(Kd.nth (.int .i64) c0 (Int.toNat x114))
  gd ((0 : Int) ≤ x114 ∧ x114 < (c0.length : Int)) <|
  let v120:=(x115 ++ [(v119,1)])
  gd (((x115.length : Int) + ([(v119,1)].length : Int)) * 16 ≤ 70368744177664) <|
  let v121:=(kwrap .i64 (x114 + 1))
  next v121 v120
 else
  some x115
def subband_Params_side.l2 (K : Nat) (c0 : List Int) (c1 : Int) (c2 : List (List Int)) (c3 : List (List (List Int))) (n : Nat) : Int → List ((Int × Int)) → Option ((List ((Int × Int)))):=rounds (subband_Params_side.r2 K c0 c1 c2 c3) (fun _ _=>none) n
def subband_Params_side (K : Nat) (_p0 _p1 _p2 _p3 _p4 _p5 p6 _p7 _p8 _p9 : Int) (p10 : List Int) (p11 : List (List Int)) (p12 : List (List (List Int))) : Option ((List ((Int × Int)))):=
 (
  bif (p6 == 1) then
   (subband_Params_side.l2 K p10 (p10.length : Int) p11 p12 K 0 ([] : List ((Int × Int))) : Option ((List ((Int × Int))))).bind fun x113=>
    some x113
  else
   some (([] : List ((Int × Int)))) : Option ((List ((Int × Int))))).bind fun x37=>
  (subband_Params_side.l0 K p11 (p11.length : Int) p10 p12 K 0 x37 : Option ((List ((Int × Int))))).bind fun x62=>
   some x62
def bits_Pad_Bytes (_K : Nat)  : Option ((List Int)):=
 some ([] : List Int)
def check_of (_K : Nat) (p0 : Int) : Option (Int × Int × Int × Int):=
 bif (p0 == 8) then
  some (8,15,29,0)
 else
  bif (p0 == 16) then
   some (16,65535,4129,0)
  else
   bif (p0 == 24) then
    some (24,5592405,1627,0)
   else
    some (0,0,0,1)
def check_kind_next (_K : Nat) (p0 _p1 p2 p3 p4 : Int) : Option (Int):=
 let v2:=(kwrap .i64 (p0 - 1))
 let v3:=(kshr .u32 p3 v2)
 gd ((0 : Int) ≤ v2) <|
 let v4:=(kshl .u32 p3 1)
 let v5:=(kshl .u32 1 p0)
 let v6:=(kwrap .u32 (v5 - 1))
 let v7:=(kand .u32 v4 v6)
 gd ((0 : Int) ≤ p0) <|
 (
  bif (v3 != p4) then
   let v9:=(kxor .u32 v7 p2)
   some v9
  else
   some v7 : Option (Int)).bind fun x8=>
  some x8
def check_kind_sum.r0 (K : Nat) (c0 : List Int) (c1 c2 c3 c4 : Int) (next : Int → Int → Option (Int)) (x21 x22 : Int) : Option (Int):=
 let v27:=(decide (x22 < c1))
 bif v27 then
  let v29:=(kwrap .i64 (Int.tdiv x22 8))
  let v30:=(Kd.nth (.int .u8) c0 (Int.toNat v29))
  gd ((0 : Int) ≤ v29 ∧ v29 < (c0.length : Int)) <|
  let v31:=(kwrap .u32 v30)
  let v32:=(Int.tmod x22 8)
  let v33:=(kwrap .i64 (7 - v32))
  let v34:=(kshr .u32 v31 v33)
  gd ((0 : Int) ≤ v33) <|
  let v35:=(kand .u32 v34 1)
  (check_kind_next K c2 c3 c4 x21 v35).bind fun r36=>
  let v37:=(kwrap .i64 (x22 + 1))
  next r36 v37
 else
  some x21
def check_kind_sum.l0 (K : Nat) (c0 : List Int) (c1 c2 c3 c4 : Int) (n : Nat) : Int → Int → Option (Int):=rounds (check_kind_sum.r0 K c0 c1 c2 c3 c4) (fun _ _=>none) n
def check_kind_sum (K : Nat) (p0 p1 p2 : Int) (p3 : List Int) (p4 : Int) : Option (Int):=
 (check_kind_sum.l0 K p3 p4 p0 p1 p2 K p1 0 : Option (Int)).bind fun x18=>
  some x18
def check_Bits (K : Nat) (p0 : Int) (p1 : List Int) (p2 : Int) : Option (Int × Int):=
 (check_of K p0).bind fun (r6,r7,r8,r9)=>
 let v10:=(decide (p2 < 0))
 let v11:=(bif (r9 != 0) then true else v10)
 let v12:=(kwrap .i64 (8 * (p1.length : Int)))
 let v13:=(decide (p2 > v12))
 let v14:=(bif v11 then true else v13)
 bif v14 then
  some (0,1)
 else
  (check_kind_sum K r6 r7 r8 p1 p2).bind fun r15=>
  some (r15,0)
def bits_ends_left (_K : Nat) (p0 p1 p2 : Int) (_p3 : List Int) : Option (Int):=
 let v1:=(kwrap .i64 (8 * p0))
 let v2:=(kwrap .i64 (v1 - p1))
 let v3:=(kwrap .i64 (v2 - p2))
 some v3
def bits_ends_may (K : Nat) (p0 p1 p2 p3 : Int) (p4 : List Int) : Option (Int):=
 let v5:=(decide (p0 < 0))
 let v6:=(decide (p0 > 32))
 let v7:=(bif v5 then true else v6)
 bif v7 then
  some 1
 else
  (bits_ends_left K p1 p2 p3 p4).bind fun r9=>
  let v10:=(decide (p0 > r9))
  bif v10 then
   some 50
  else
   some 0
def bits_Pad_write_2 (K : Nat) (p0 p1 p2 p3 : Int) (p4 : List Int) : Option (Int):=
 let v2:=(decide (p1 ≥ 0))
 let v3:=(decide (p1 < 32))
 let v4:=(bif v2 then v3 else false)
 let v5:=(kshr .u32 p0 p1)
 let v6:=(bif v4 then (v5 != 0) else false)
 gd ((v4 = true → (0 : Int) ≤ p1)) <|
 bif v6 then
  some 1
 else
  (bits_ends_may K p1 (p4.length : Int) p2 p3 p4).bind fun r7=>
  some r7
def bits_ends_ahead (_K : Nat) (p0 _p1 : Int) (_p2 : List Int) : Option (Int × Int × Int):=
 let v1:=(kwrap .i64 (p0 + 1))
 let v2:=(kwrap .i64 (Int.tdiv p0 8))
 let v3:=(Int.tmod p0 8)
 let v4:=(kshr .u8 128 v3)
 gd ((0 : Int) ≤ v3) <|
 some (v2,v4,v1)
def bits_Pad_Front_2.r0 (K : Nat) (c0 c1 : Int) (next : Int → Int → List Int → Option (Int × (List Int))) (x45 x46 : Int) (x47 : List Int) : Option (Int × (List Int)):=
 let v56:=(decide (x45 ≥ 0))
 bif v56 then
  (
   (bits_ends_ahead K x46 c1 x47).bind fun (r63,r64,r65)=>
   let v66:=(kshr .u32 c0 x45)
   let v67:=(kand .u32 v66 1)
   gd ((0 : Int) ≤ x45) <|
   bif (v67 == 1) then
    let v68:=(Kd.nth (.int .u8) x47 (Int.toNat r63))
    let v69:=(kor .u8 v68 r64)
    let v70:=(List.set x47 (Int.toNat r63) v69)
    gd ((0 : Int) ≤ r63 ∧ r63 < (x47.length : Int) ∧ (Int.toNat r63) < x47.length ∧ (0 : Int) ≤ r63 ∧ r63 < (x47.length : Int) ∧ (Int.toNat r63) < x47.length) <|
    some (r65,v70)
   else
    some (r65,x47) : Option (Int × (List Int))).bind fun (x60,x61)=>
   let v62:=(kwrap .i64 (x45 - 1))
   next v62 x60 x61
 else
  some (x46,x47)
def bits_Pad_Front_2.l0 (K : Nat) (c0 c1 : Int) (n : Nat) : Int → Int → List Int → Option (Int × (List Int)):=rounds (bits_Pad_Front_2.r0 K c0 c1) (fun _ _ _=>none) n
def bits_Pad_Front_2 (K : Nat) (p0 p1 p2 p3 : Int) (p4 : List Int) : Option (Int × Int × (List Int)):=
 (bits_Pad_write_2 K p0 p1 p2 p3 p4).bind fun r20=>
 bif (r20 != 0) then
  some (r20,p2,p4)
 else
  let v21:=(kwrap .i64 (p1 - 1))
  (bits_Pad_Front_2.l0 K p0 p3 K v21 p2 p4 : Option (Int × (List Int))).bind fun (x38,x39)=>
   some (0,x38,x39)
def subband_put_2.r0 (K : Nat) (c0 : List ((Int × Int))) (c1 c2 : Int) (next : Int → Int → Int → List Int → Option (Int × Int × (List Int))) (x53 x54 x55 : Int) (x56 : List Int) : Option (Int × Int × (List Int)):=
 let v67:=(decide (x54 < c1))
 bif v67 then
  let v71:=(Kd.nth (.pair (.int .i64) (.int .i64)) c0 (Int.toNat x54))
  gd ((0 : Int) ≤ x54 ∧ x54 < (c0.length : Int)) <|
  let v72:=(kwrap .u32 v71.1)
  (bits_Pad_Front_2 K v72 v71.2 x55 c2 x56).bind fun (_r73,r74,r75)=>
  let v76:=(kwrap .i64 (x53 + v71.2))
  let v77:=(kwrap .i64 (x54 + 1))
  next v76 v77 r74 r75
 else
  some (x53,x55,x56)
def subband_put_2.l0 (K : Nat) (c0 : List ((Int × Int))) (c1 c2 : Int) (n : Nat) : Int → Int → Int → List Int → Option (Int × Int × (List Int)):=rounds (subband_put_2.r0 K c0 c1 c2) (fun _ _ _ _=>none) n
def subband_put_2 (K : Nat) (p0 : List ((Int × Int))) (p1 p2 : Int) (p3 : List Int) : Option (Int × Int × (List Int)):=
 (subband_put_2.l0 K p0 (p0.length : Int) p2 K 0 0 p1 p3 : Option (Int × Int × (List Int))).bind fun (x44,x45,x46)=>
  some (x44,x45,x46)
def bytes_Clone_2 (_K : Nat) (p0 : List Int) : Option ((List Int)):=
 gd (p0 ≠ []) <|
 let v1:=(([] : List Int) ++ p0)
 gd (((([] : List Int).length : Int) + (p0.length : Int)) * 1 ≤ 70368744177664) <|
 some v1
def bits_Pad_Bytes_2 (K : Nat) (_p0 _p1 : Int) (p2 : List Int) : Option ((List Int)):=
 (bytes_Clone_2 K p2).bind fun r2=>
 some r2
def subband_Params_sum (K : Nat) (p0 p1 p2 p3 p4 p5 p6 p7 p8 p9 : Int) (p10 : List Int) (p11 : List (List Int)) (p12 : List (List (List Int))) : Option (Int):=
 (bits_New K 512).bind fun z=>match z with
 | .inl _r21=>
  (subband_head K p0 p1 p2 p3 p4 p5 p6 p7 p8 p9).bind fun r23=>
  (subband_put K r23).bind fun r24=>
  (subband_Params_side K p0 p1 p2 p3 p4 p5 p6 p7 p8 p9 p10 p11 p12).bind fun r25=>
  (subband_put K r25).bind fun r26=>
  let v27:=(kwrap .i64 (r24 + r26))
  (bits_Pad_Bytes K ).bind fun r28=>
  (check_Bits K 8 r28 v27).bind fun (r29,_r30)=>
  some (kwrap .i64 r29)
 | .inr r22=>
  (subband_head K p0 p1 p2 p3 p4 p5 p6 p7 p8 p9).bind fun r31=>
  (subband_put_2 K r31 0 0 r22).bind fun (r32,r33,r34)=>
  (subband_Params_side K p0 p1 p2 p3 p4 p5 p6 p7 p8 p9 p10 p11 p12).bind fun r35=>
  (subband_put_2 K r35 r33 0 r34).bind fun (r36,r37,r38)=>
  let v39:=(kwrap .i64 (r32 + r36))
  (bits_Pad_Bytes_2 K r37 0 r38).bind fun r40=>
  (check_Bits K 8 r40 v39).bind fun (r41,_r42)=>
  some (kwrap .i64 r41)
def subband_Params_codes.r2 (_K : Nat) (c0 : List (List Int)) (c1 : Int) (_c2 : List (List (List Int))) (_c3 _c4 : Int) (_c5 : List (List Int)) (_c6 : Int) (c7 : List Int) (c8 : Int) (_c9 : List Int) (_c10 : List (List Int)) (next : Int → List ((Int × Int)) → Option ((List ((Int × Int))))) (x407 : Int) (x408 : List ((Int × Int))) : Option ((List ((Int × Int)))):=
 let v411:=(decide (x407 < c8))
 bif v411 then
  let v412:=(Kd.nth (.int .i64) c7 (Int.toNat x407))
  gd ((0 : Int) ≤ x407 ∧ x407 < (c7.length : Int)) <|
  let v413:=(Kd.nth (.slice (.int .i64)) c0 (Int.toNat c1))
  let v414:=(Kd.nth (.int .i64) v413 (Int.toNat x407))
  let v415:=[(v412,v414)]
  let v416:=(x408 ++ v415)
  gd ((0 : Int) ≤ c1 ∧ c1 < (c0.length : Int) ∧ (0 : Int) ≤ x407 ∧ x407 < (v413.length : Int) ∧ ((x408.length : Int) + (v415.length : Int)) * 16 ≤ 70368744177664) <|
  let v417:=(kwrap .i64 (x407 + 1))
  next v417 v416
 else
  some x408
def subband_Params_codes.l2 (K : Nat) (c0 : List (List Int)) (c1 : Int) (c2 : List (List (List Int))) (c3 c4 : Int) (c5 : List (List Int)) (c6 : Int) (c7 : List Int) (c8 : Int) (c9 : List Int) (c10 : List (List Int)) (n : Nat) : Int → List ((Int × Int)) → Option ((List ((Int × Int)))):=rounds (subband_Params_codes.r2 K c0 c1 c2 c3 c4 c5 c6 c7 c8 c9 c10) (fun _ _=>none) n
def subband_Params_codes.r1 (K : Nat) (c0 : List (List Int)) (c1 : List (List (List Int))) (c2 c3 : Int) (c4 : List (List Int)) (c5 : Int) (c6 : List Int) (c7 : List (List Int)) (next : Int → List ((Int × Int)) → Option ((List ((Int × Int))))) (x379 : Int) (x380 : List ((Int × Int))) : Option ((List ((Int × Int)))):=
 let v393:=(decide (x379 < c5))
 bif v393 then
  let v399:=(Kd.nth (.slice (.int .i64)) c4 (Int.toNat x379))
  gd ((0 : Int) ≤ x379 ∧ x379 < (c4.length : Int)) <|
  let v400:=(v399.length : Int)
  (subband_Params_codes.l2 K c0 x379 c1 c2 c3 c4 c5 v399 v400 c6 c7 K 0 x380 : Option ((List ((Int × Int))))).bind fun x405=>
   let v406:=(kwrap .i64 (x379 + 1))
   next v406 x405
 else
  some x380
def subband_Params_codes.l1 (K : Nat) (c0 : List (List Int)) (c1 : List (List (List Int))) (c2 c3 : Int) (c4 : List (List Int)) (c5 : Int) (c6 : List Int) (c7 : List (List Int)) (n : Nat) : Int → List ((Int × Int)) → Option ((List ((Int × Int)))):=rounds (subband_Params_codes.r1 K c0 c1 c2 c3 c4 c5 c6 c7) (fun _ _=>none) n
def subband_Params_codes.r0 (K : Nat) (c0 : List (List Int)) (c1 : List (List (List Int))) (c2 : Int) (c3 : List Int) (c4 : List (List Int)) (next : Int → List ((Int × Int)) → Option ((List ((Int × Int))))) (x261 : Int) (x262 : List ((Int × Int))) : Option ((List ((Int × Int)))):=
 let v315:=(decide (x261 < c2))
 bif v315 then
  let v341:=(Kd.nth (.slice (.slice (.int .i64))) c1 (Int.toNat x261))
  gd ((0 : Int) ≤ x261 ∧ x261 < (c1.length : Int)) <|
  let v342:=(v341.length : Int)
  (subband_Params_codes.l1 K c0 c1 c2 x261 v341 v342 c3 c4 K 0 x262 : Option ((List ((Int × Int))))).bind fun x367=>
   let v368:=(kwrap .i64 (x261 + 1))
   next v368 x367
 else
  some x262
def subband_Params_codes.l0 (K : Nat) (c0 : List (List Int)) (c1 : List (List (List Int))) (c2 : Int) (c3 : List Int) (c4 : List (List Int)) (n : Nat) : Int → List ((Int × Int)) → Option ((List ((Int × Int)))):=rounds (subband_Params_codes.r0 K c0 c1 c2 c3 c4) (fun _ _=>none) n
def subband_Params_codes (K : Nat) (p0 : List (List Int)) (p1 : List Int) (p2 : List (List Int)) (p3 : List (List (List Int))) : Option ((List ((Int × Int)))):=
 (subband_Params_codes.l0 K p0 p3 (p3.length : Int) p1 p2 K 0 ([] : List ((Int × Int))) : Option ((List ((Int × Int))))).bind fun x210=>
  some x210
def subband_Pack (K : Nat) (p0 p1 p2 p3 p4 p5 p6 p7 p8 p9 : Int) (p10 : List Int) (p11 : List (List Int)) (p12 : List (List (List Int))) : Option ((List Int) × Int):=
 (subband_may K p0 p1 p2 p3 p4 p5 p6 p7 p8 p9).bind fun r37=>
 bif (r37 != 0) then
  some (([] : List Int),r37)
 else
  (subband_Params_share K p0 p1 p2 p3 p4 p5 p6 p7 p8 p9 p10 p11 p12).bind fun (r38,r39)=>
  bif (!r39) then
   some (([] : List Int),1)
  else
   (format_Payload K p0 p1 p2 p3 p4 p5 p6 p7 p8 p9).bind fun r40=>
   (bits_New K r40).bind fun z=>match z with
   | .inl _r41=>
    (subband_put K [(156,8)]).bind fun _r43=>
    (subband_head K p0 p1 p2 p3 p4 p5 p6 p7 p8 p9).bind fun r44=>
    (subband_put K r44).bind fun _r45=>
    (subband_Params_sum K p0 p1 p2 p3 p4 p5 p6 p7 p8 p9 p10 p11 p12).bind fun r46=>
    (subband_put K [(r46,8)]).bind fun _r47=>
    (subband_Params_side K p0 p1 p2 p3 p4 p5 p6 p7 p8 p9 p10 p11 p12).bind fun r48=>
    (subband_put K r48).bind fun _r49=>
    (subband_Params_codes K r38 p10 p11 p12).bind fun r50=>
    (subband_put K r50).bind fun _r51=>
    (bits_Pad_Bytes K ).bind fun r52=>
    some (r52,0)
   | .inr r42=>
    (subband_put_2 K [(156,8)] 0 0 r42).bind fun (_r53,r54,r55)=>
    (subband_head K p0 p1 p2 p3 p4 p5 p6 p7 p8 p9).bind fun r56=>
    (subband_put_2 K r56 r54 0 r55).bind fun (_r57,r58,r59)=>
    (subband_Params_sum K p0 p1 p2 p3 p4 p5 p6 p7 p8 p9 p10 p11 p12).bind fun r60=>
    (subband_put_2 K [(r60,8)] r58 0 r59).bind fun (_r61,r62,r63)=>
    (subband_Params_side K p0 p1 p2 p3 p4 p5 p6 p7 p8 p9 p10 p11 p12).bind fun r64=>
    (subband_put_2 K r64 r62 0 r63).bind fun (_r65,r66,r67)=>
    (subband_Params_codes K r38 p10 p11 p12).bind fun r68=>
    (subband_put_2 K r68 r66 0 r67).bind fun (_r69,r70,r71)=>
    (bits_Pad_Bytes_2 K r70 0 r71).bind fun r72=>
    some (r72,0)
def slices_Equal_byte_byte.r0 (_K : Nat) (c0 c1 : List Int) (c2 : Int) (next : Int → Option ((Unit) ⊕ (Bool))) (x6 : Int) : Option ((Unit) ⊕ (Bool)):=
 let v8:=(decide (x6 < c2))
 bif v8 then
  let v9:=(Kd.nth (.int .u8) c0 (Int.toNat x6))
  gd ((0 : Int) ≤ x6 ∧ x6 < (c0.length : Int)) <|
  let v10:=(Kd.nth (.int .u8) c1 (Int.toNat x6))
  gd ((0 : Int) ≤ x6 ∧ x6 < (c1.length : Int)) <|
  bif (v9 != v10) then
   some (.inr false)
  else
   let v11:=(kwrap .i64 (x6 + 1))
   next v11
 else
  some (.inl ())
def slices_Equal_byte_byte.l0 (K : Nat) (c0 c1 : List Int) (c2 : Int) (n : Nat) : Int → Option ((Unit) ⊕ (Bool)):=rounds (slices_Equal_byte_byte.r0 K c0 c1 c2) (fun _=>none) n
def slices_Equal_byte_byte (K : Nat) (p0 p1 : List Int) : Option (Bool):=
 let v3:=((p0.length : Int) != (p1.length : Int))
 bif v3 then
  some false
 else
  (slices_Equal_byte_byte.l0 K p0 p1 (p0.length : Int) K 0 : Option ((Unit) ⊕ (Bool))).bind fun z=>match z with
  | .inl _=>
   some true
  | .inr r=>
   some r
def bits_ends_left_2 (_K : Nat) (p0 p1 p2 : Int) (_p3 : List Int) : Option (Int):=
 let v1:=(kwrap .i64 (8 * p0))
 let v2:=(kwrap .i64 (v1 - p1))
 let v3:=(kwrap .i64 (v2 - p2))
 some v3
def bits_ends_may_2 (K : Nat) (p0 p1 p2 p3 : Int) (p4 : List Int) : Option (Int):=
 let v5:=(decide (p0 < 0))
 let v6:=(decide (p0 > 32))
 let v7:=(bif v5 then true else v6)
 bif v7 then
  some 1
 else
  (bits_ends_left_2 K p1 p2 p3 p4).bind fun r9=>
  let v10:=(decide (p0 > r9))
  bif v10 then
   some 50
  else
   some 0
def bits_ends_ahead_2 (_K : Nat) (p0 _p1 : Int) (_p2 : List Int) : Option (Int × Int × Int):=
 let v1:=(kwrap .i64 (p0 + 1))
 let v2:=(kwrap .i64 (Int.tdiv p0 8))
 let v3:=(Int.tmod p0 8)
 let v4:=(kshr .u8 128 v3)
 gd ((0 : Int) ≤ v3) <|
 some (v2,v4,v1)
def bits_Eye_one (_K : Nat) (p0 p1 _p2 _p3 : Int) (p4 : List Int) : Option (Int):=
 let v1:=(Kd.nth (.int .u8) p4 (Int.toNat p0))
 let v2:=(kand .u8 v1 p1)
 gd ((0 : Int) ≤ p0 ∧ p0 < (p4.length : Int)) <|
 bif (v2 != 0) then
  some 1
 else
  some 0
def bits_Eye_Front_2.r0 (K : Nat) (c0 c1 : Int) (c2 : List Int) (next : Int → Int → Int → Option (Int × Int)) (x59 x60 x61 : Int) : Option (Int × Int):=
 let v73:=(decide (x60 < c0))
 bif v73 then
  let v78:=(kshl .u32 x59 1)
  (bits_ends_ahead_2 K x61 c1 c2).bind fun (r79,r80,r81)=>
  (bits_Eye_one K r79 r80 r81 c1 c2).bind fun r82=>
  let v83:=(kor .u32 v78 r82)
  let v84:=(kwrap .i64 (x60 + 1))
  next v83 v84 r81
 else
  some (x59,x61)
def bits_Eye_Front_2.l0 (K : Nat) (c0 c1 : Int) (c2 : List Int) (n : Nat) : Int → Int → Int → Option (Int × Int):=rounds (bits_Eye_Front_2.r0 K c0 c1 c2) (fun _ _ _=>none) n
def bits_Eye_Front_2 (K : Nat) (p0 p1 p2 : Int) (p3 : List Int) : Option (Int × Int × Int):=
 (bits_ends_may_2 K p0 (p3.length : Int) p1 p2 p3).bind fun r26=>
 bif (r26 != 0) then
  some (0,r26,p1)
 else
  (bits_Eye_Front_2.l0 K p0 p2 p3 K 0 0 p1 : Option (Int × Int)).bind fun (x49,x50)=>
   some (x49,0,x50)
def subband_take_2.r0 (K : Nat) (c0 c1 c2 : Int) (c3 : List Int) (next : Int → Int → List Int → Option (Int × (List Int))) (x49 x50 : Int) (x51 : List Int) : Option (Int × (List Int)):=
 let v61:=(decide (x49 < c1))
 bif v61 then
  (bits_Eye_Front_2 K c0 x50 c2 c3).bind fun (r65,_r66,r67)=>
  let v68:=(List.set x51 (Int.toNat x49) (kwrap .i64 r65))
  gd ((0 : Int) ≤ x49 ∧ x49 < (x51.length : Int) ∧ (Int.toNat x49) < x51.length) <|
  let v69:=(kwrap .i64 (x49 + 1))
  next v69 r67 v68
 else
  some (x50,x51)
def subband_take_2.l0 (K : Nat) (c0 c1 c2 : Int) (c3 : List Int) (n : Nat) : Int → Int → List Int → Option (Int × (List Int)):=rounds (subband_take_2.r0 K c0 c1 c2 c3) (fun _ _ _=>none) n
def subband_take_2 (K : Nat) (p0 p1 p2 p3 : Int) (p4 : List Int) : Option ((List Int) × Int):=
 let v21:=(List.replicate (Int.toNat p0) (0 : Int))
 gd ((0 : Int) ≤ p0 ∧ p0 ≤ p0 ∧ p0 * 8 ≤ 140737488355328) <|
 let v22:=(v21.length : Int)
 (subband_take_2.l0 K p1 v22 p3 p4 K 0 p2 v21 : Option (Int × (List Int))).bind fun (x41,x42)=>
  some (x42,x41)
def subband_Parse.r2 (K : Nat) (_c0 : List Int) (_c1 : List (List Int)) (c2 _c3 _c4 _c5 : Int) (c6 : List Int) (c7 _c8 _c9 _c10 _c11 _c12 _c13 _c14 _c15 _c16 : Int) (_c17 : List Int) (_c18 : List (List Int)) (_c19 : List (List (List Int))) (next : Int → List (List Int) → Option ((List (List Int)))) (x1025 : Int) (x1026 : List (List Int)) : Option ((List (List Int))):=
 let v1031:=(decide (x1025 < c7))
 bif v1031 then
  let v1033:=(Kd.nth (.int .i64) c6 (Int.toNat x1025))
  gd ((0 : Int) ≤ x1025 ∧ x1025 < (c6.length : Int)) <|
  gd ((0 : Int) ≤ c2 ∧ c2 < (x1026.length : Int)) <|
  let v1034:=(List.getD x1026 (Int.toNat c2) [])
  gd ((Int.toNat c2) < x1026.length) <|
  (subband_take K 1 v1033).bind fun r1035=>
  let v1036:=(v1034 ++ r1035)
  gd (((v1034.length : Int) + (r1035.length : Int)) * 8 ≤ 70368744177664) <|
  gd ((0 : Int) ≤ c2 ∧ c2 < (x1026.length : Int)) <|
  let v1037:=(List.set x1026 (Int.toNat c2) v1036)
  gd ((Int.toNat c2) < x1026.length) <|
  let v1038:=(kwrap .i64 (x1025 + 1))
  next v1038 v1037
 else
  some x1026
def subband_Parse.l2 (K : Nat) (c0 : List Int) (c1 : List (List Int)) (c2 c3 c4 c5 : Int) (c6 : List Int) (c7 c8 c9 c10 c11 c12 c13 c14 c15 c16 : Int) (c17 : List Int) (c18 : List (List Int)) (c19 : List (List (List Int))) (n : Nat) : Int → List (List Int) → Option ((List (List Int))):=rounds (subband_Parse.r2 K c0 c1 c2 c3 c4 c5 c6 c7 c8 c9 c10 c11 c12 c13 c14 c15 c16 c17 c18 c19) (fun _ _=>none) n
def subband_Parse.r1 (K : Nat) (c0 : List Int) (c1 : List (List Int)) (c2 c3 c4 c5 c6 c7 c8 c9 c10 c11 c12 c13 : Int) (c14 : List Int) (c15 : List (List Int)) (c16 : List (List (List Int))) (next : Int → List (List Int) → Option ((List (List Int)))) (x979 : Int) (x980 : List (List Int)) : Option ((List (List Int))):=
 let v1001:=(decide (x979 < c4))
 bif v1001 then
  let v1011:=(Kd.nth (.slice (.int .i64)) c1 (Int.toNat x979))
  let v1012:=(v1011.length : Int)
  gd ((0 : Int) ≤ x979 ∧ x979 < (c1.length : Int)) <|
  (subband_Parse.l2 K c0 c1 x979 c2 c3 c4 v1011 v1012 c5 c6 c7 c8 c9 c10 c11 c12 c13 c14 c15 c16 K 0 x980 : Option ((List (List Int)))).bind fun x1021=>
   let v1022:=(kwrap .i64 (x979 + 1))
   next v1022 x1021
 else
  some x980
def subband_Parse.l1 (K : Nat) (c0 : List Int) (c1 : List (List Int)) (c2 c3 c4 c5 c6 c7 c8 c9 c10 c11 c12 c13 : Int) (c14 : List Int) (c15 : List (List Int)) (c16 : List (List (List Int))) (n : Nat) : Int → List (List Int) → Option ((List (List Int))):=rounds (subband_Parse.r1 K c0 c1 c2 c3 c4 c5 c6 c7 c8 c9 c10 c11 c12 c13 c14 c15 c16) (fun _ _=>none) n
def subband_Parse.r0 (K : Nat) (c0 : List Int) (c1 : List (List Int)) (c2 c3 c4 c5 c6 c7 c8 c9 c10 c11 : Int) (c12 : List Int) (c13 : List (List Int)) (next : Int → List (List (List Int)) → Option ((List (List (List Int))))) (x788 : Int) (x789 : List (List (List Int))) : Option ((List (List (List Int)))):=
 let v874:=(decide (x788 < c2))
 bif v874 then
  let v916:=(List.replicate (Int.toNat c5) ([] : List Int))
  gd ((0 : Int) ≤ c5 ∧ c5 ≤ c5 ∧ c5 * 24 ≤ 140737488355328) <|
  let v917:=(v916.length : Int)
  (subband_Parse.l1 K c0 c1 c2 x788 v917 c3 c4 c5 c6 c7 c8 c9 c10 c11 c12 c13 x789 K 0 v916 : Option ((List (List Int)))).bind fun x958=>
   let v959:=(x789 ++ [x958])
   gd (((x789.length : Int) + ([x958].length : Int)) * 24 ≤ 70368744177664) <|
   let v960:=(kwrap .i64 (x788 + 1))
   next v960 v959
 else
  some x789
def subband_Parse.l0 (K : Nat) (c0 : List Int) (c1 : List (List Int)) (c2 c3 c4 c5 c6 c7 c8 c9 c10 c11 : Int) (c12 : List Int) (c13 : List (List Int)) (n : Nat) : Int → List (List (List Int)) → Option ((List (List (List Int)))):=rounds (subband_Parse.r0 K c0 c1 c2 c3 c4 c5 c6 c7 c8 c9 c10 c11 c12 c13) (fun _ _=>none) n
def subband_Parse.r3 (K : Nat) (_c0 : List Int) (c1 _c2 _c3 c4 _c5 _c6 _c7 _c8 _c9 _c10 : Int) (_c11 : List Int) (next : Int → List (List Int) → Option ((List (List Int)))) (x1041 : Int) (x1042 : List (List Int)) : Option ((List (List Int))):=
 let v1047:=(decide (x1041 < c1))
 bif v1047 then
  (subband_take K c4 4).bind fun r1049=>
  let v1050:=(x1042 ++ [r1049])
  gd (((x1042.length : Int) + ([r1049].length : Int)) * 24 ≤ 70368744177664) <|
  let v1051:=(kwrap .i64 (x1041 + 1))
  next v1051 v1050
 else
  some x1042
def subband_Parse.l3 (K : Nat) (c0 : List Int) (c1 c2 c3 c4 c5 c6 c7 c8 c9 c10 : Int) (c11 : List Int) (n : Nat) : Int → List (List Int) → Option ((List (List Int))):=rounds (subband_Parse.r3 K c0 c1 c2 c3 c4 c5 c6 c7 c8 c9 c10 c11) (fun _ _=>none) n
def subband_Parse.r6 (K : Nat) (_c0 : List Int) (_c1 : List (List Int)) (c2 _c3 _c4 _c5 : Int) (c6 : List Int) (c7 _c8 _c9 _c10 _c11 _c12 _c13 _c14 _c15 _c16 : Int) (c17 _c18 : List Int) (_c19 : List (List Int)) (_c20 : List (List (List Int))) (next : Int → Int → List (List Int) → Option (Int × (List (List Int)))) (x1932 x1933 : Int) (x1934 : List (List Int)) : Option (Int × (List (List Int))):=
 let v1942:=(decide (x1932 < c7))
 bif v1942 then
  let v1945:=(Kd.nth (.int .i64) c6 (Int.toNat x1932))
  gd ((0 : Int) ≤ x1932 ∧ x1932 < (c6.length : Int)) <|
  gd ((0 : Int) ≤ c2 ∧ c2 < (x1934.length : Int)) <|
  let v1946:=(List.getD x1934 (Int.toNat c2) [])
  gd ((Int.toNat c2) < x1934.length) <|
  (subband_take_2 K 1 v1945 x1933 0 c17).bind fun (r1947,r1948)=>
  let v1949:=(v1946 ++ r1947)
  gd (((v1946.length : Int) + (r1947.length : Int)) * 8 ≤ 70368744177664) <|
  gd ((0 : Int) ≤ c2 ∧ c2 < (x1934.length : Int)) <|
  let v1950:=(List.set x1934 (Int.toNat c2) v1949)
  gd ((Int.toNat c2) < x1934.length) <|
  let v1951:=(kwrap .i64 (x1932 + 1))
  next v1951 r1948 v1950
 else
  some (x1933,x1934)
def subband_Parse.l6 (K : Nat) (c0 : List Int) (c1 : List (List Int)) (c2 c3 c4 c5 : Int) (c6 : List Int) (c7 c8 c9 c10 c11 c12 c13 c14 c15 c16 : Int) (c17 c18 : List Int) (c19 : List (List Int)) (c20 : List (List (List Int))) (n : Nat) : Int → Int → List (List Int) → Option (Int × (List (List Int))):=rounds (subband_Parse.r6 K c0 c1 c2 c3 c4 c5 c6 c7 c8 c9 c10 c11 c12 c13 c14 c15 c16 c17 c18 c19 c20) (fun _ _ _=>none) n
def subband_Parse.r5 (K : Nat) (c0 : List Int) (c1 : List (List Int)) (c2 c3 c4 c5 c6 c7 c8 c9 c10 c11 c12 c13 : Int) (c14 c15 : List Int) (c16 : List (List Int)) (c17 : List (List (List Int))) (next : Int → Int → List (List Int) → Option (Int × (List (List Int)))) (x1854 x1855 : Int) (x1856 : List (List Int)) : Option (Int × (List (List Int))):=
 let v1892:=(decide (x1854 < c4))
 bif v1892 then
  let v1909:=(Kd.nth (.slice (.int .i64)) c1 (Int.toNat x1854))
  let v1910:=(v1909.length : Int)
  gd ((0 : Int) ≤ x1854 ∧ x1854 < (c1.length : Int)) <|
  (subband_Parse.l6 K c0 c1 x1854 c2 c3 c4 v1909 v1910 c5 c6 c7 c8 c9 c10 c11 c12 c13 c14 c15 c16 c17 K 0 x1855 x1856 : Option (Int × (List (List Int)))).bind fun (x1925,x1926)=>
   let v1927:=(kwrap .i64 (x1854 + 1))
   next v1927 x1925 x1926
 else
  some (x1855,x1856)
def subband_Parse.l5 (K : Nat) (c0 : List Int) (c1 : List (List Int)) (c2 c3 c4 c5 c6 c7 c8 c9 c10 c11 c12 c13 : Int) (c14 c15 : List Int) (c16 : List (List Int)) (c17 : List (List (List Int))) (n : Nat) : Int → Int → List (List Int) → Option (Int × (List (List Int))):=rounds (subband_Parse.r5 K c0 c1 c2 c3 c4 c5 c6 c7 c8 c9 c10 c11 c12 c13 c14 c15 c16 c17) (fun _ _ _=>none) n
def subband_Parse.r4 (K : Nat) (c0 : List Int) (c1 : List (List Int)) (c2 c3 c4 c5 c6 c7 c8 c9 c10 c11 : Int) (c12 c13 : List Int) (c14 : List (List Int)) (next : Int → Int → List (List (List Int)) → Option ((List (List (List Int))))) (x1523 x1524 : Int) (x1525 : List (List (List Int))) : Option ((List (List (List Int)))):=
 let v1673:=(decide (x1523 < c2))
 bif v1673 then
  let v1746:=(List.replicate (Int.toNat c5) ([] : List Int))
  gd ((0 : Int) ≤ c5 ∧ c5 ≤ c5 ∧ c5 * 24 ≤ 140737488355328) <|
  let v1747:=(v1746.length : Int)
  (subband_Parse.l5 K c0 c1 c2 x1523 v1747 c3 c4 c5 c6 c7 c8 c9 c10 c11 c12 c13 c14 x1525 K 0 x1524 v1746 : Option (Int × (List (List Int)))).bind fun (x1818,x1819)=>
   let v1820:=(x1525 ++ [x1819])
   gd (((x1525.length : Int) + ([x1819].length : Int)) * 24 ≤ 70368744177664) <|
   let v1821:=(kwrap .i64 (x1523 + 1))
   next v1821 x1818 v1820
 else
  some x1525
def subband_Parse.l4 (K : Nat) (c0 : List Int) (c1 : List (List Int)) (c2 c3 c4 c5 c6 c7 c8 c9 c10 c11 : Int) (c12 c13 : List Int) (c14 : List (List Int)) (n : Nat) : Int → Int → List (List (List Int)) → Option ((List (List (List Int)))):=rounds (subband_Parse.r4 K c0 c1 c2 c3 c4 c5 c6 c7 c8 c9 c10 c11 c12 c13 c14) (fun _ _ _=>none) n
def subband_Parse.r7 (K : Nat) (_c0 : List Int) (c1 _c2 _c3 c4 _c5 _c6 _c7 _c8 _c9 _c10 : Int) (c11 _c12 : List Int) (next : Int → Int → List (List Int) → Option (Int × (List (List Int)))) (x1956 x1957 : Int) (x1958 : List (List Int)) : Option (Int × (List (List Int))):=
 let v1966:=(decide (x1956 < c1))
 bif v1966 then
  (subband_take_2 K c4 4 x1957 0 c11).bind fun (r1969,r1970)=>
  let v1971:=(x1958 ++ [r1969])
  gd (((x1958.length : Int) + ([r1969].length : Int)) * 24 ≤ 70368744177664) <|
  let v1972:=(kwrap .i64 (x1956 + 1))
  next v1972 r1970 v1971
 else
  some (x1957,x1958)
def subband_Parse.l7 (K : Nat) (c0 : List Int) (c1 c2 c3 c4 c5 c6 c7 c8 c9 c10 : Int) (c11 c12 : List Int) (n : Nat) : Int → Int → List (List Int) → Option (Int × (List (List Int))):=rounds (subband_Parse.r7 K c0 c1 c2 c3 c4 c5 c6 c7 c8 c9 c10 c11 c12) (fun _ _ _=>none) n
def subband_Parse (K : Nat) (p0 p1 p2 p3 p4 p5 p6 p7 p8 p9 : Int) (p10 : List Int) : Option ((List Int) × (List (List Int)) × (List (List (List Int))) × Int):=
 (subband_may K p0 p1 p2 p3 p4 p5 p6 p7 p8 p9).bind fun r514=>
 bif (r514 != 0) then
  some (([] : List Int),([] : List (List Int)),([] : List (List (List Int))),r514)
 else
  (format_Payload K p0 p1 p2 p3 p4 p5 p6 p7 p8 p9).bind fun r515=>
  let v516:=((p10.length : Int) != r515)
  bif v516 then
   some (([] : List Int),([] : List (List Int)),([] : List (List (List Int))),140)
  else
   (bits_Open K p10).bind fun z=>match z with
   | .inl _=>
    (bits_Eye_Front K 32).bind fun _=>
    let v518:=(List.replicate (Int.toNat p3) (0 : Int))
    gd ((0 : Int) ≤ p3 ∧ p3 ≤ p3 ∧ p3 * 8 ≤ 140737488355328) <|
    (
     bif (p6 == 1) then
      (subband_take K p3 1).bind fun r1052=>
      some r1052
     else
      some v518 : Option ((List Int))).bind fun x520=>
     (subband_Parse.l3 K p10 p2 p0 p1 p3 p4 p5 p6 p7 p8 p9 x520 K 0 ([] : List (List Int)) : Option ((List (List Int)))).bind fun x529=>
      (alloc_Share K p0 p1 p2 p3 p4 p5 p6 p7 p8 p9 x529).bind fun (r530,r531)=>
      bif (r531 != 0) then
       some (([] : List Int),([] : List (List Int)),([] : List (List (List Int))),140)
      else
       (subband_Parse.l0 K p10 r530 p4 p0 p1 p2 p3 p5 p6 p7 p8 p9 x520 x529 K 0 ([] : List (List (List Int))) : Option ((List (List (List Int))))).bind fun x700=>
        (subband_Pack K p0 p1 p2 p3 p4 p5 p6 p7 p8 p9 x520 x529 x700).bind fun (r701,r702)=>
        (
         bif (r702 != 0) then
          some true
         else
          (slices_Equal_byte_byte K r701 p10).bind fun r705=>
          some (!r705) : Option (Bool)).bind fun x704=>
         bif x704 then
          some (([] : List Int),([] : List (List Int)),([] : List (List (List Int))),140)
         else
          some (x520,x529,x700,0)
   | .inr r517=>
    (bits_Eye_Front_2 K 32 0 0 r517).bind fun (_r1053,_r1054,r1055)=>
    let v1056:=(List.replicate (Int.toNat p3) (0 : Int))
    gd ((0 : Int) ≤ p3 ∧ p3 ≤ p3 ∧ p3 * 8 ≤ 140737488355328) <|
    (
     bif (p6 == 1) then
      (subband_take_2 K p3 1 r1055 0 r517).bind fun (r1973,r1974)=>
      some (r1974,r1973)
     else
      some (r1055,v1056) : Option (Int × (List Int))).bind fun (x1059,x1060)=>
     (subband_Parse.l7 K p10 p2 p0 p1 p3 p4 p5 p6 p7 p8 p9 r517 x1060 K 0 x1059 ([] : List (List Int)) : Option (Int × (List (List Int)))).bind fun (x1075,x1076)=>
      (alloc_Share K p0 p1 p2 p3 p4 p5 p6 p7 p8 p9 x1076).bind fun (r1077,r1078)=>
      bif (r1078 != 0) then
       some (([] : List Int),([] : List (List Int)),([] : List (List (List Int))),140)
      else
       (subband_Parse.l4 K p10 r1077 p4 p0 p1 p2 p3 p5 p6 p7 p8 p9 r517 x1060 x1076 K 0 x1075 ([] : List (List (List Int))) : Option ((List (List (List Int))))).bind fun x1373=>
        (subband_Pack K p0 p1 p2 p3 p4 p5 p6 p7 p8 p9 x1060 x1076 x1373).bind fun (r1374,r1375)=>
        (
         bif (r1375 != 0) then
          some true
         else
          (slices_Equal_byte_byte K r1374 p10).bind fun r1378=>
          some (!r1378) : Option (Bool)).bind fun x1377=>
         bif x1377 then
          some (([] : List Int),([] : List (List Int)),([] : List (List (List Int))),140)
         else
          some (x1060,x1076,x1373,0)
def pcm_Part.r0 (_K : Nat) (c0 : Int) (c1 : List Int) (c2 : Int) (next : Int → List (List Int) → Option ((List (List Int)))) (x17 : Int) (x18 : List (List Int)) : Option ((List (List Int))):=
 let v21:=(decide (x17 < c2))
 bif v21 then
  let v22:=(Kd.nth (.int .i16) c1 (Int.toNat x17))
  gd ((0 : Int) ≤ x17 ∧ x17 < (c1.length : Int)) <|
  let v23:=(Int.tmod x17 c0)
  gd (c0 ≠ 0) <|
  gd (c0 ≠ 0) <|
  let v24:=(Int.toNat v23)
  gd ((0 : Int) ≤ v23 ∧ v23 < (x18.length : Int)) <|
  let v25:=(List.getD x18 v24 [])
  gd (v24 < x18.length) <|
  let v26:=(v25 ++ [v22])
  gd (((v25.length : Int) + ([v22].length : Int)) * 2 ≤ 70368744177664) <|
  gd ((0 : Int) ≤ v23 ∧ v23 < (x18.length : Int)) <|
  let v27:=(List.set x18 v24 v26)
  gd (v24 < x18.length) <|
  let v28:=(kwrap .i64 (x17 + 1))
  next v28 v27
 else
  some x18
def pcm_Part.l0 (K : Nat) (c0 : Int) (c1 : List Int) (c2 : Int) (n : Nat) : Int → List (List Int) → Option ((List (List Int))):=rounds (pcm_Part.r0 K c0 c1 c2) (fun _ _=>none) n
def pcm_Part (K : Nat) (p0 : List Int) (p1 : Int) : Option ((List (List Int)) × Int):=
 let v6:=(decide (p1 < 1))
 let v7:=(decide (p1 > 2))
 let v8:=(bif v6 then true else v7)
 let v9:=(Int.tmod (p0.length : Int) p1)
 let v10:=(bif v8 then true else (v9 != 0))
 gd (((!v8) = true → p1 ≠ 0)) <|
 bif v10 then
  some (([] : List (List Int)),1)
 else
  let v11:=(List.replicate (Int.toNat p1) ([] : List Int))
  gd ((0 : Int) ≤ p1 ∧ p1 ≤ p1 ∧ p1 * 24 ≤ 140737488355328) <|
  (pcm_Part.l0 K p1 p0 (p0.length : Int) K 0 v11 : Option ((List (List Int)))).bind fun x16=>
   some (x16,0)
def fix_Sat32 (K : Nat) (p0 : Int) : Option (Int):=
 (fix_within_int64 K p0 (-2147483648) 2147483647).bind fun r2=>
 some (kwrap .i32 r2)
def poly_rounded (K : Nat) (p0 p1 : Int) : Option (Int):=
 (fix_Round K p0 p1).bind fun r3=>
 (fix_Sat32 K r3).bind fun r4=>
 some (kwrap .i64 r4)
def poly_bands_wave (_K : Nat) (p0 p1 p2 : Int) (_p3 p4 _p5 : List Int) : Option (Int):=
 let v1:=(kwrap .i64 (8 * p2))
 let v2:=(kwrap .i64 (p0 * p1))
 let v3:=(Int.tmod v2 v1)
 gd (v1 ≠ 0) <|
 let v4:=(kwrap .i64 (v3 + v1))
 let v5:=(Int.tmod v4 v1)
 gd (v1 ≠ 0) <|
 let v6:=(Kd.nth (.int .i16) p4 (Int.toNat v5))
 gd ((0 : Int) ≤ v5 ∧ v5 < (p4.length : Int)) <|
 let v7:=(kwrap .i64 v6)
 some v7
def poly_Splitter_Feed.r1 (K : Nat) (c0 _c1 c2 c3 : Int) (c4 c5 c6 c7 _c8 : List Int) (next : Int → Int → Option (Int)) (x237 x238 : Int) : Option (Int):=
 let v243:=(decide (x238 < c2))
 bif v243 then
  let v245:=(Kd.nth (.int .i64) c7 (Int.toNat x238))
  gd ((0 : Int) ≤ x238 ∧ x238 < (c7.length : Int) ∧ (Int.toNat x238) < c7.length) <|
  let v246:=(kwrap .i64 (2 * c0))
  let v247:=(kwrap .i64 (v246 + 1))
  let v248:=(kwrap .i64 (2 * x238))
  let v249:=(kwrap .i64 (v248 - c3))
  (poly_bands_wave K v247 v249 c3 c4 c5 c6).bind fun r250=>
  let v251:=(kwrap .i64 (v245 * r250))
  let v252:=(kwrap .i64 (x237 + v251))
  let v253:=(kwrap .i64 (x238 + 1))
  next v252 v253
 else
  some x237
def poly_Splitter_Feed.l1 (K : Nat) (c0 c1 c2 c3 : Int) (c4 c5 c6 c7 c8 : List Int) (n : Nat) : Int → Int → Option (Int):=rounds (poly_Splitter_Feed.r1 K c0 c1 c2 c3 c4 c5 c6 c7 c8) (fun _ _=>none) n
def poly_Splitter_Feed.r0 (K : Nat) (c0 c1 : Int) (c2 c3 c4 c5 : List Int) (next : Int → List Int → Option ((List Int))) (x186 : Int) (x187 : List Int) : Option ((List Int)):=
 let v210:=(decide (x186 < c0))
 bif v210 then
  (poly_Splitter_Feed.l1 K x186 c0 (c5.length : Int) c1 c2 c3 c4 c5 x187 K 0 0 : Option (Int)).bind fun x229=>
   let v230:=(kwrap .i64 (Int.tdiv c1 4))
   let v231:=(kwrap .i64 (16 + v230))
   (poly_rounded K x229 v231).bind fun r232=>
   let v233:=(List.set x187 (Int.toNat x186) (kwrap .i32 r232))
   gd ((0 : Int) ≤ x186 ∧ x186 < (x187.length : Int) ∧ (Int.toNat x186) < x187.length) <|
   let v234:=(kwrap .i64 (x186 + 1))
   next v234 v233
 else
  some x187
def poly_Splitter_Feed.l0 (K : Nat) (c0 c1 : Int) (c2 c3 c4 c5 : List Int) (n : Nat) : Int → List Int → Option ((List Int)):=rounds (poly_Splitter_Feed.r0 K c0 c1 c2 c3 c4 c5) (fun _ _=>none) n
def poly_Splitter_Feed.r3 (_K : Nat) (c0 _c1 c2 : Int) (c3 _c4 c5 _c6 : List Int) (next : Int → Int → Option (Int)) (x297 x298 : Int) : Option (Int):=
 let v301:=(decide (x298 < 5))
 bif v301 then
  let v302:=(kwrap .i64 (2 * c2))
  let v303:=(kwrap .i64 (v302 * x298))
  let v304:=(kwrap .i64 (c0 + v303))
  let v305:=(Int.toNat v304)
  gd ((0 : Int) ≤ v304 ∧ v304 < (c5.length : Int)) <|
  let v306:=(Kd.nth (.int .i64) c5 v305)
  gd (v305 < c5.length) <|
  let v307:=(Kd.nth (.int .i16) c3 v305)
  gd ((0 : Int) ≤ v304 ∧ v304 < (c3.length : Int)) <|
  let v308:=(kwrap .i64 v307)
  let v309:=(kwrap .i64 (v306 * v308))
  let v310:=(kwrap .i64 (v309 - x297))
  let v311:=(kwrap .i64 (x298 + 1))
  next v310 v311
 else
  some x297
def poly_Splitter_Feed.l3 (K : Nat) (c0 c1 c2 : Int) (c3 c4 c5 c6 : List Int) (n : Nat) : Int → Int → Option (Int):=rounds (poly_Splitter_Feed.r3 K c0 c1 c2 c3 c4 c5 c6) (fun _ _=>none) n
def poly_Splitter_Feed.r2 (K : Nat) (c0 c1 : Int) (c2 c3 c4 : List Int) (next : Int → List Int → Option ((List Int))) (x266 : Int) (x267 : List Int) : Option ((List Int)):=
 let v282:=(decide (x266 < c0))
 bif v282 then
  (poly_Splitter_Feed.l3 K x266 c0 c1 c2 c3 c4 x267 K 0 0 : Option (Int)).bind fun x293=>
   (poly_rounded K (kwrap .i64 (0 - x293)) 14).bind fun r294=>
   let v295:=(List.set x267 (Int.toNat x266) r294)
   gd ((0 : Int) ≤ x266 ∧ x266 < (x267.length : Int) ∧ (Int.toNat x266) < x267.length) <|
   let v296:=(kwrap .i64 (x266 + 1))
   next v296 v295
 else
  some x267
def poly_Splitter_Feed.l2 (K : Nat) (c0 c1 : Int) (c2 c3 c4 : List Int) (n : Nat) : Int → List Int → Option ((List Int)):=rounds (poly_Splitter_Feed.r2 K c0 c1 c2 c3 c4) (fun _ _=>none) n
def poly_Splitter_Feed.r4 (_K : Nat) (c0 : List Int) (c1 c2 : Int) (_c3 _c4 : List Int) (next : Int → List Int → Option ((List Int))) (x312 : Int) (x313 : List Int) : Option ((List Int)):=
 let v316:=(decide (x312 < c1))
 bif v316 then
  let v317:=(Kd.nth (.int .i16) c0 (Int.toNat x312))
  gd ((0 : Int) ≤ x312 ∧ x312 < (c0.length : Int)) <|
  let v318:=(kwrap .i64 (c2 - 1))
  let v319:=(kwrap .i64 (v318 - x312))
  let v320:=(kwrap .i64 v317)
  let v321:=(Int.toNat v319)
  gd ((0 : Int) ≤ v319 ∧ v319 < (x313.length : Int)) <|
  let v322:=(List.set x313 v321 v320)
  gd (v321 < x313.length) <|
  let v323:=(kwrap .i64 (x312 + 1))
  next v323 v322
 else
  some x313
def poly_Splitter_Feed.l4 (K : Nat) (c0 : List Int) (c1 c2 : Int) (c3 c4 : List Int) (n : Nat) : Int → List Int → Option ((List Int)):=rounds (poly_Splitter_Feed.r4 K c0 c1 c2 c3 c4) (fun _ _=>none) n
def poly_Splitter_Feed (K : Nat) (p0 : List Int) (p1 : Int) (p2 p3 p4 : List Int) : Option ((List Int) × Int × (List Int)):=
 let v80:=((p0.length : Int) != p1)
 bif v80 then
  some (([] : List Int),1,p4)
 else
  gd ((0 : Int) ≤ p1 ∧ p1 < (p4.length : Int)) <|
  let v81:=(cpy (Int.toNat p1) p4 p4)
  gd ((Int.toNat p1) < p4.length) <|
  (poly_Splitter_Feed.l4 K p0 (p0.length : Int) p1 p2 p3 K 0 v81 : Option ((List Int))).bind fun x86=>
   let v87:=(kwrap .i64 (2 * p1))
   let v88:=(List.replicate (Int.toNat v87) (0 : Int))
   gd ((0 : Int) ≤ v87 ∧ v87 ≤ v87 ∧ v87 * 8 ≤ 140737488355328) <|
   let v89:=(v88.length : Int)
   (poly_Splitter_Feed.l2 K v89 p1 p2 p3 x86 K 0 v88 : Option ((List Int))).bind fun x118=>
    let v119:=(List.replicate (Int.toNat p1) (0 : Int))
    gd ((0 : Int) ≤ p1 ∧ p1 ≤ p1 ∧ p1 * 4 ≤ 140737488355328) <|
    let v120:=(v119.length : Int)
    (poly_Splitter_Feed.l0 K v120 p1 p2 p3 x86 x118 K 0 v119 : Option ((List Int))).bind fun x165=>
     some (x165,0,x86)
def subband_fits_1_1 (_K : Nat) (p0 : List Int) (_p1 _p2 _p3 p4 _p5 _p6 _p7 _p8 _p9 _p10 : Int) : Option (Bool):=
 let v1:=((p0.length : Int) == p4)
 some v1
def subband_shaped_int32_1 (K : Nat) (p0 : List Int) (p1 p2 p3 p4 p5 p6 p7 p8 p9 p10 : Int) : Option (Bool):=
 (subband_fits_1_1 K p0 p1 p2 p3 p4 p5 p6 p7 p8 p9 p10).bind fun r2=>
 some (!r2)
def slices_IndexFunc_int32_int32.r0 (K : Nat) (c0 : List (List Int)) (c1 c2 c3 c4 c5 c6 c7 c8 c9 c10 c11 : Int) (next : Int → Option ((Unit) ⊕ (Int))) (x15 : Int) : Option ((Unit) ⊕ (Int)):=
 let v19:=(decide (x15 < c1))
 bif v19 then
  let v21:=(Kd.nth (.slice (.int .i32)) c0 (Int.toNat x15))
  gd ((0 : Int) ≤ x15 ∧ x15 < (c0.length : Int)) <|
  (subband_shaped_int32_1 K v21 c2 c3 c4 c5 c6 c7 c8 c9 c10 c11).bind fun r22=>
  bif r22 then
   some (.inr x15)
  else
   let v23:=(kwrap .i64 (x15 + 1))
   next v23
 else
  some (.inl ())
def slices_IndexFunc_int32_int32.l0 (K : Nat) (c0 : List (List Int)) (c1 c2 c3 c4 c5 c6 c7 c8 c9 c10 c11 : Int) (n : Nat) : Int → Option ((Unit) ⊕ (Int)):=rounds (slices_IndexFunc_int32_int32.r0 K c0 c1 c2 c3 c4 c5 c6 c7 c8 c9 c10 c11) (fun _=>none) n
def slices_IndexFunc_int32_int32 (K : Nat) (p0 : List (List Int)) (p1 p2 p3 p4 p5 p6 p7 p8 p9 p10 : Int) : Option (Int):=
 (slices_IndexFunc_int32_int32.l0 K p0 (p0.length : Int) p1 p2 p3 p4 p5 p6 p7 p8 p9 p10 K 0 : Option ((Unit) ⊕ (Int))).bind fun z=>match z with
 | .inl _=>
  some (-1)
 | .inr r=>
  some r
def slices_ContainsFunc_int32_int32 (K : Nat) (p0 : List (List Int)) (p1 p2 p3 p4 p5 p6 p7 p8 p9 p10 : Int) : Option (Bool):=
 (slices_IndexFunc_int32_int32 K p0 p1 p2 p3 p4 p5 p6 p7 p8 p9 p10).bind fun r2=>
 let v3:=(decide (r2 ≥ 0))
 some v3
def subband_shaped_int32 (K : Nat) (p0 : List (List Int)) (p1 p2 p3 p4 p5 p6 p7 p8 p9 p10 p11 : Int) : Option (Bool):=
 (
  let v5:=((p0.length : Int) == p1)
  bif v5 then
   (slices_ContainsFunc_int32_int32 K p0 p2 p3 p4 p5 p6 p7 p8 p9 p10 p11).bind fun r6=>
   some (!r6)
  else
   some false : Option (Bool)).bind fun x4=>
  some x4
def subband_fits_1 (K : Nat) (p0 : List (List Int)) (p1 p2 p3 p4 p5 p6 p7 p8 p9 p10 : Int) : Option (Bool):=
 (subband_shaped_int32 K p0 p5 p1 p2 p3 p4 p5 p6 p7 p8 p9 p10).bind fun r2=>
 some r2
def subband_shaped_int32_1_2 (K : Nat) (p0 : List (List Int)) (p1 p2 p3 p4 p5 p6 p7 p8 p9 p10 : Int) : Option (Bool):=
 (subband_fits_1 K p0 p1 p2 p3 p4 p5 p6 p7 p8 p9 p10).bind fun r2=>
 some (!r2)
def slices_IndexFunc_int32_int32_2.r0 (K : Nat) (c0 : List (List (List Int))) (c1 c2 c3 c4 c5 c6 c7 c8 c9 c10 c11 : Int) (next : Int → Option ((Unit) ⊕ (Int))) (x15 : Int) : Option ((Unit) ⊕ (Int)):=
 let v19:=(decide (x15 < c1))
 bif v19 then
  let v21:=(Kd.nth (.slice (.slice (.int .i32))) c0 (Int.toNat x15))
  gd ((0 : Int) ≤ x15 ∧ x15 < (c0.length : Int)) <|
  (subband_shaped_int32_1_2 K v21 c2 c3 c4 c5 c6 c7 c8 c9 c10 c11).bind fun r22=>
  bif r22 then
   some (.inr x15)
  else
   let v23:=(kwrap .i64 (x15 + 1))
   next v23
 else
  some (.inl ())
def slices_IndexFunc_int32_int32_2.l0 (K : Nat) (c0 : List (List (List Int))) (c1 c2 c3 c4 c5 c6 c7 c8 c9 c10 c11 : Int) (n : Nat) : Int → Option ((Unit) ⊕ (Int)):=rounds (slices_IndexFunc_int32_int32_2.r0 K c0 c1 c2 c3 c4 c5 c6 c7 c8 c9 c10 c11) (fun _=>none) n
def slices_IndexFunc_int32_int32_2 (K : Nat) (p0 : List (List (List Int))) (p1 p2 p3 p4 p5 p6 p7 p8 p9 p10 : Int) : Option (Int):=
 (slices_IndexFunc_int32_int32_2.l0 K p0 (p0.length : Int) p1 p2 p3 p4 p5 p6 p7 p8 p9 p10 K 0 : Option ((Unit) ⊕ (Int))).bind fun z=>match z with
 | .inl _=>
  some (-1)
 | .inr r=>
  some r
def slices_ContainsFunc_int32_int32_2 (K : Nat) (p0 : List (List (List Int))) (p1 p2 p3 p4 p5 p6 p7 p8 p9 p10 : Int) : Option (Bool):=
 (slices_IndexFunc_int32_int32_2 K p0 p1 p2 p3 p4 p5 p6 p7 p8 p9 p10).bind fun r2=>
 let v3:=(decide (r2 ≥ 0))
 some v3
def subband_shaped_int32_2 (K : Nat) (p0 : List (List (List Int))) (p1 p2 p3 p4 p5 p6 p7 p8 p9 p10 p11 : Int) : Option (Bool):=
 (
  let v5:=((p0.length : Int) == p1)
  bif v5 then
   (slices_ContainsFunc_int32_int32_2 K p0 p2 p3 p4 p5 p6 p7 p8 p9 p10 p11).bind fun r6=>
   some (!r6)
  else
   some false : Option (Bool)).bind fun x4=>
  some x4
def subband_fits (K : Nat) (p0 p1 p2 p3 p4 p5 p6 p7 p8 p9 : Int) (p10 : List (List (List Int))) : Option (Bool):=
 (subband_shaped_int32_2 K p10 p2 p0 p1 p2 p3 p4 p5 p6 p7 p8 p9).bind fun r2=>
 some r2
def quant_bands.r0 (_K : Nat) (c0 : List (List Int)) (c1 : Int) (next : Int → Option ((Unit) ⊕ (Int))) (x10 : Int) : Option ((Unit) ⊕ (Int)):=
 let v12:=(decide (x10 < c1))
 bif v12 then
  let v13:=(Kd.nth (.slice (.int .i32)) c0 (Int.toNat x10))
  gd ((0 : Int) ≤ x10 ∧ x10 < (c0.length : Int)) <|
  let v14:=(v13.length : Int)
  let v15:=(Kd.nth (.slice (.int .i32)) c0 0)
  let v16:=(v15.length : Int)
  gd (0 < (c0.length : Int)) <|
  bif (v14 != v16) then
   some (.inr 0)
  else
   let v17:=(kwrap .i64 (x10 + 1))
   next v17
 else
  some (.inl ())
def quant_bands.l0 (K : Nat) (c0 : List (List Int)) (c1 : Int) (n : Nat) : Int → Option ((Unit) ⊕ (Int)):=rounds (quant_bands.r0 K c0 c1) (fun _=>none) n
def quant_bands (K : Nat) (p0 : List (List Int)) : Option (Int):=
 let v3:=((p0.length : Int) == 0)
 let v4:=(Kd.nth (.slice (.int .i32)) p0 0)
 let v5:=(v4.length : Int)
 let v6:=(decide (v5 > 8))
 let v7:=(bif v3 then true else v6)
 gd (((!v3) = true → 0 < (p0.length : Int))) <|
 bif v7 then
  some 0
 else
  (quant_bands.l0 K p0 (p0.length : Int) K 0 : Option ((Unit) ⊕ (Int))).bind fun z=>match z with
  | .inl _=>
   gd (0 < (p0.length : Int)) <|
   some v5
  | .inr r=>
   some r
def quant_Middle_1 (_K : Nat) (p0 p1 : Int) : Option (Int × Int):=
 let v1:=(kwrap .i64 ((kwrap .i64 p0) + (kwrap .i64 p1)))
 let v2:=(kshr .i64 v1 1)
 let v3:=(kwrap .i32 v2)
 let v4:=(kwrap .i64 ((kwrap .i64 p0) - (kwrap .i64 p1)))
 let v5:=(kshr .i64 v4 1)
 let v6:=(kwrap .i32 v5)
 some (v3,v6)
def quant_pairs.r1 (K : Nat) (c0 : List (List Int)) (c1 : Int) (_c2 : List (List Int)) (_c3 : Int) (c4 : List Int) (c5 : Int) (next : Int → List (List Int) → List (List Int) → Option ((List (List Int)) × (List (List Int)))) (x264 : Int) (x265 x266 : List (List Int)) : Option ((List (List Int)) × (List (List Int))):=
 let v274:=(decide (x264 < c5))
 bif v274 then
  let v277:=(Kd.nth (.int .i32) c4 (Int.toNat x264))
  gd ((0 : Int) ≤ x264 ∧ x264 < (c4.length : Int)) <|
  let v278:=(Kd.nth (.slice (.int .i32)) c0 (Int.toNat c1))
  let v279:=(Kd.nth (.int .i32) v278 (Int.toNat x264))
  gd ((0 : Int) ≤ c1 ∧ c1 < (c0.length : Int) ∧ (0 : Int) ≤ x264 ∧ x264 < (v278.length : Int)) <|
  (quant_Middle_1 K v277 v279).bind fun (r280,r281)=>
  gd ((0 : Int) ≤ c1 ∧ c1 < (x265.length : Int)) <|
  let v282:=(List.getD x265 (Int.toNat c1) [])
  gd ((Int.toNat c1) < x265.length) <|
  let v283:=(v282 ++ [r280])
  gd (((v282.length : Int) + ([r280].length : Int)) * 4 ≤ 70368744177664) <|
  gd ((0 : Int) ≤ c1 ∧ c1 < (x266.length : Int)) <|
  let v284:=(List.getD x266 (Int.toNat c1) [])
  gd ((Int.toNat c1) < x266.length) <|
  let v285:=(v284 ++ [r281])
  gd (((v284.length : Int) + ([r281].length : Int)) * 4 ≤ 70368744177664) <|
  gd ((0 : Int) ≤ c1 ∧ c1 < (x265.length : Int)) <|
  let v286:=(List.set x265 (Int.toNat c1) v283)
  gd ((Int.toNat c1) < x265.length) <|
  gd ((0 : Int) ≤ c1 ∧ c1 < (x266.length : Int)) <|
  let v287:=(List.set x266 (Int.toNat c1) v285)
  gd ((Int.toNat c1) < x266.length) <|
  let v288:=(kwrap .i64 (x264 + 1))
  next v288 v286 v287
 else
  some (x265,x266)
def quant_pairs.l1 (K : Nat) (c0 : List (List Int)) (c1 : Int) (c2 : List (List Int)) (c3 : Int) (c4 : List Int) (c5 : Int) (n : Nat) : Int → List (List Int) → List (List Int) → Option ((List (List Int)) × (List (List Int))):=rounds (quant_pairs.r1 K c0 c1 c2 c3 c4 c5) (fun _ _ _=>none) n
def quant_pairs.r0 (K : Nat) (c0 c1 : List (List Int)) (c2 : Int) (next : Int → List (List Int) → List (List Int) → Option ((List (List Int)) × (List (List Int)))) (x186 : Int) (x187 x188 : List (List Int)) : Option ((List (List Int)) × (List (List Int))):=
 let v224:=(decide (x186 < c2))
 bif v224 then
  let v241:=(Kd.nth (.slice (.int .i32)) c1 (Int.toNat x186))
  gd ((0 : Int) ≤ x186 ∧ x186 < (c1.length : Int)) <|
  let v242:=(v241.length : Int)
  (quant_pairs.l1 K c0 x186 c1 c2 v241 v242 K 0 x187 x188 : Option ((List (List Int)) × (List (List Int)))).bind fun (x257,x258)=>
   let v259:=(kwrap .i64 (x186 + 1))
   next v259 x257 x258
 else
  some (x187,x188)
def quant_pairs.l0 (K : Nat) (c0 c1 : List (List Int)) (c2 : Int) (n : Nat) : Int → List (List Int) → List (List Int) → Option ((List (List Int)) × (List (List Int))):=rounds (quant_pairs.r0 K c0 c1 c2) (fun _ _ _=>none) n
def quant_pairs (K : Nat) (p0 p1 : List (List Int)) : Option ((List (List Int)) × (List (List Int)) × Int):=
 (
  (quant_bands K p0).bind fun r289=>
  bif (r289 == 0) then
   some true
  else
   (quant_bands K p0).bind fun r290=>
   (quant_bands K p1).bind fun r291=>
   let v292:=(r290 != r291)
   let v293:=((p0.length : Int) != (p1.length : Int))
   let v294:=(bif v292 then true else v293)
   some v294 : Option (Bool)).bind fun x80=>
  bif x80 then
   some (([] : List (List Int)),([] : List (List Int)),1)
  else
   let v81:=(List.replicate (Int.toNat (p0.length : Int)) ([] : List Int))
   gd ((0 : Int) ≤ (p0.length : Int) ∧ (p0.length : Int) ≤ (p0.length : Int) ∧ (p0.length : Int) * 24 ≤ 140737488355328) <|
   gd ((0 : Int) ≤ (p0.length : Int) ∧ (p0.length : Int) ≤ (p0.length : Int) ∧ (p0.length : Int) * 24 ≤ 140737488355328) <|
   (quant_pairs.l0 K p1 p0 (p0.length : Int) K 0 v81 v81 : Option ((List (List Int)) × (List (List Int)))).bind fun (x152,x153)=>
    some (x152,x153,0)
def quant_Middle (K : Nat) (p0 p1 : List (List Int)) : Option ((List (List Int)) × (List (List Int)) × Int):=
 (quant_pairs K p0 p1).bind fun (r4,r5,r6)=>
 some (r4,r5,r6)
def quant_Scale.r0 (_K : Nat) (c0 : Int) (next : Int → Option (Int)) (x7 : Int) : Option (Int):=
 let v9:=(decide (x7 < 15))
 let v10:=(kshl .i64 2 x7)
 let v11:=(decide (c0 ≥ v10))
 let v12:=(bif v9 then v11 else false)
 gd ((v9 = true → (0 : Int) ≤ x7)) <|
 bif v12 then
  let v13:=(kwrap .i64 (x7 + 1))
  next v13
 else
  some x7
def quant_Scale.l0 (K : Nat) (c0 : Int) (n : Nat) : Int → Option (Int):=rounds (quant_Scale.r0 K c0) (fun _=>none) n
def quant_Scale (K : Nat) (p0 : Int) : Option (Int):=
 (quant_Scale.l0 K p0 K 0 : Option (Int)).bind fun x6=>
  some x6
def quant_Scales.r0 (K : Nat) (c0 : Int) (c1 : List Int) (next : Int → List Int → Option ((List Int))) (x74 : Int) (x75 : List Int) : Option ((List Int)):=
 let v80:=(decide (x74 < c0))
 bif v80 then
  let v82:=(Kd.nth (.int .i64) c1 (Int.toNat x74))
  gd ((0 : Int) ≤ x74 ∧ x74 < (c1.length : Int) ∧ (Int.toNat x74) < c1.length) <|
  (quant_Scale K v82).bind fun r83=>
  let v84:=(List.set x75 (Int.toNat x74) r83)
  gd ((0 : Int) ≤ x74 ∧ x74 < (x75.length : Int) ∧ (Int.toNat x74) < x75.length) <|
  let v85:=(kwrap .i64 (x74 + 1))
  next v85 v84
 else
  some x75
def quant_Scales.l0 (K : Nat) (c0 : Int) (c1 : List Int) (n : Nat) : Int → List Int → Option ((List Int)):=rounds (quant_Scales.r0 K c0 c1) (fun _ _=>none) n
def quant_Scales.r2 (_K : Nat) (_c0 : Int) (_c1 : List (List Int)) (_c2 _c3 : Int) (c4 : List Int) (c5 : Int) (next : Int → List Int → Option ((List Int))) (x124 : Int) (x125 : List Int) : Option ((List Int)):=
 let v128:=(decide (x124 < c5))
 bif v128 then
  let v129:=(Kd.nth (.int .i32) c4 (Int.toNat x124))
  gd ((0 : Int) ≤ x124 ∧ x124 < (c4.length : Int)) <|
  let v130:=(Kd.nth (.int .i64) x125 (Int.toNat x124))
  let v131:=(kwrap .i64 v129)
  let v132:=(kwrap .i64 (0 - v131))
  let v133:=(imax (imax v130 v131) v132)
  let v134:=(List.set x125 (Int.toNat x124) v133)
  gd ((0 : Int) ≤ x124 ∧ x124 < (x125.length : Int) ∧ (Int.toNat x124) < x125.length ∧ (0 : Int) ≤ x124 ∧ x124 < (x125.length : Int) ∧ (Int.toNat x124) < x125.length) <|
  let v135:=(kwrap .i64 (x124 + 1))
  next v135 v134
 else
  some x125
def quant_Scales.l2 (K : Nat) (c0 : Int) (c1 : List (List Int)) (c2 c3 : Int) (c4 : List Int) (c5 : Int) (n : Nat) : Int → List Int → Option ((List Int)):=rounds (quant_Scales.r2 K c0 c1 c2 c3 c4 c5) (fun _ _=>none) n
def quant_Scales.r1 (K : Nat) (c0 : Int) (c1 : List (List Int)) (c2 : Int) (next : Int → List Int → Option ((List Int))) (x96 : Int) (x97 : List Int) : Option ((List Int)):=
 let v110:=(decide (x96 < c2))
 bif v110 then
  let v116:=(Kd.nth (.slice (.int .i32)) c1 (Int.toNat x96))
  gd ((0 : Int) ≤ x96 ∧ x96 < (c1.length : Int)) <|
  let v117:=(v116.length : Int)
  (quant_Scales.l2 K c0 c1 c2 x96 v116 v117 K 0 x97 : Option ((List Int))).bind fun x122=>
   let v123:=(kwrap .i64 (x96 + 1))
   next v123 x122
 else
  some x97
def quant_Scales.l1 (K : Nat) (c0 : Int) (c1 : List (List Int)) (c2 : Int) (n : Nat) : Int → List Int → Option ((List Int)):=rounds (quant_Scales.r1 K c0 c1 c2) (fun _ _=>none) n
def quant_Scales (K : Nat) (p0 : List (List Int)) : Option ((List Int) × Int):=
 (quant_bands K p0).bind fun r36=>
 bif (r36 == 0) then
  some (([] : List Int),1)
 else
  let v37:=(List.replicate (Int.toNat r36) (0 : Int))
  gd ((0 : Int) ≤ r36 ∧ r36 ≤ r36 ∧ r36 * 8 ≤ 140737488355328) <|
  (quant_Scales.l1 K r36 p0 (p0.length : Int) K 0 v37 : Option ((List Int))).bind fun x62=>
   gd ((0 : Int) ≤ r36 ∧ r36 ≤ r36 ∧ r36 * 8 ≤ 140737488355328) <|
   (quant_Scales.l0 K (x62.length : Int) x62 K 0 v37 : Option ((List Int))).bind fun x71=>
    some (x71,0)
def quant_Joins.r0 (_K : Nat) (c0 : Int) (c1 c2 c3 c4 : List Int) (next : Int → List (Bool) → Option ((List (Bool)))) (x62 : Int) (x63 : List (Bool)) : Option ((List (Bool))):=
 let v66:=(decide (x62 < c0))
 bif v66 then
  let v67:=(Kd.nth (.int .i64) c1 (Int.toNat x62))
  gd ((0 : Int) ≤ x62 ∧ x62 < (c1.length : Int)) <|
  let v68:=(Kd.nth (.int .i64) c2 (Int.toNat x62))
  gd ((0 : Int) ≤ x62 ∧ x62 < (c2.length : Int)) <|
  let v69:=(kwrap .i64 (v67 + v68))
  let v70:=(Kd.nth (.int .i64) c3 (Int.toNat x62))
  gd ((0 : Int) ≤ x62 ∧ x62 < (c3.length : Int)) <|
  let v71:=(Kd.nth (.int .i64) c4 (Int.toNat x62))
  gd ((0 : Int) ≤ x62 ∧ x62 < (c4.length : Int)) <|
  let v72:=(kwrap .i64 (v70 + v71))
  let v73:=(decide (v69 > v72))
  gd ((0 : Int) ≤ x62 ∧ x62 < (x63.length : Int)) <|
  let v74:=(List.set x63 (Int.toNat x62) v73)
  gd ((Int.toNat x62) < x63.length) <|
  let v75:=(kwrap .i64 (x62 + 1))
  next v75 v74
 else
  some x63
def quant_Joins.l0 (K : Nat) (c0 : Int) (c1 c2 c3 c4 : List Int) (n : Nat) : Int → List (Bool) → Option ((List (Bool))):=rounds (quant_Joins.r0 K c0 c1 c2 c3 c4) (fun _ _=>none) n
def quant_Joins (K : Nat) (p0 p1 : List (List Int)) : Option ((List (Bool)) × Int):=
 (quant_Middle K p0 p1).bind fun (r29,r30,r31)=>
 bif (r31 != 0) then
  some (([] : List (Bool)),r31)
 else
  (
   (quant_Scales K p0).bind fun (r78,_r79)=>
   (quant_Scales K p1).bind fun (r82,_r83)=>
   (quant_Scales K r29).bind fun (r86,_r87)=>
   (quant_Scales K r30).bind fun (r90,_r91)=>
   some (r78,r82,r86,r90) : Option ((List Int) × (List Int) × (List Int) × (List Int))).bind fun (x48,x49,x50,x51)=>
   let v52:=(List.replicate (Int.toNat (x48.length : Int)) (false : Bool))
   gd ((0 : Int) ≤ (x48.length : Int) ∧ (x48.length : Int) ≤ (x48.length : Int) ∧ (x48.length : Int) * 1 ≤ 140737488355328) <|
   let v53:=(v52.length : Int)
   let v54:=(kwrap .i64 (v53 - 1))
   let v55:=(Int.toNat v54)
   let v56:=((v55 : Nat) : Int)
   gd ((0 : Int) ≤ v54 ∧ v54 ≤ (v52.length : Int) ∧ v52 ≠ []) <|
   (quant_Joins.l0 K v56 x48 x49 x50 x51 K 0 v52 : Option ((List (Bool)))).bind fun x61=>
    some (x61,0)
def slices_Index_int_int_2.r0 (_K : Nat) (c0 c1 : Int) (c2 : List Int) (next : Int → Option ((Unit) ⊕ (Int))) (x5 : Int) : Option ((Unit) ⊕ (Int)):=
 let v7:=(decide (x5 < c1))
 bif v7 then
  let v8:=(Kd.nth (.int .i64) c2 (Int.toNat x5))
  gd ((0 : Int) ≤ x5 ∧ x5 < (c2.length : Int) ∧ (Int.toNat x5) < c2.length) <|
  bif (c0 == v8) then
   some (.inr x5)
  else
   let v9:=(kwrap .i64 (x5 + 1))
   next v9
 else
  some (.inl ())
def slices_Index_int_int_2.l0 (K : Nat) (c0 c1 : Int) (c2 : List Int) (n : Nat) : Int → Option ((Unit) ⊕ (Int)):=rounds (slices_Index_int_int_2.r0 K c0 c1 c2) (fun _=>none) n
def slices_Index_int_int_2 (K : Nat) (p0 : Int) (p1 : List Int) : Option (Int):=
 (slices_Index_int_int_2.l0 K p0 (p1.length : Int) p1 K 0 : Option ((Unit) ⊕ (Int))).bind fun z=>match z with
 | .inl _=>
  some (-1)
 | .inr r=>
  some r
def slices_Contains_int_int_2 (K : Nat) (p0 : Int) (p1 : List Int) : Option (Bool):=
 (slices_Index_int_int_2 K p0 p1).bind fun r2=>
 let v3:=(decide (r2 ≥ 0))
 some v3
def slices_Clone_int32_int32 (_K : Nat) (p0 : List Int) : Option ((List Int)):=
 gd (p0 ≠ []) <|
 let v1:=(([] : List Int) ++ p0)
 gd (((([] : List Int).length : Int) + (p0.length : Int)) * 4 ≤ 70368744177664) <|
 some v1
def subband_clone.r0 (K : Nat) (c0 : List (List Int)) (c1 : Int) (next : Int → List (List Int) → Option ((List (List Int)))) (x22 : Int) (x23 : List (List Int)) : Option ((List (List Int))):=
 let v28:=(decide (x22 < c1))
 bif v28 then
  let v30:=(Kd.nth (.slice (.int .i32)) c0 (Int.toNat x22))
  gd ((0 : Int) ≤ x22 ∧ x22 < (c0.length : Int)) <|
  (slices_Clone_int32_int32 K v30).bind fun r31=>
  let v32:=(List.set x23 (Int.toNat x22) r31)
  gd ((0 : Int) ≤ x22 ∧ x22 < (x23.length : Int) ∧ (Int.toNat x22) < x23.length) <|
  let v33:=(kwrap .i64 (x22 + 1))
  next v33 v32
 else
  some x23
def subband_clone.l0 (K : Nat) (c0 : List (List Int)) (c1 : Int) (n : Nat) : Int → List (List Int) → Option ((List (List Int))):=rounds (subband_clone.r0 K c0 c1) (fun _ _=>none) n
def subband_clone (K : Nat) (p0 : List (List Int)) : Option ((List (List Int))):=
 let v10:=(List.replicate (Int.toNat (p0.length : Int)) ([] : List Int))
 gd ((0 : Int) ≤ (p0.length : Int) ∧ (p0.length : Int) ≤ (p0.length : Int) ∧ (p0.length : Int) * 24 ≤ 140737488355328) <|
 (subband_clone.l0 K p0 (p0.length : Int) K 0 v10 : Option ((List (List Int)))).bind fun x19=>
  some x19
def subband_Params_swapped_1.r0 (_K : Nat) (c0 c1 : Int) (c2 c3 : List (List Int)) (next : Int → List (List Int) → List (List Int) → Option ((List (List Int)) × (List (List Int)))) (x17 : Int) (x18 x19 : List (List Int)) : Option ((List (List Int)) × (List (List Int))):=
 let v23:=(decide (x17 < c1))
 bif v23 then
  gd ((0 : Int) ≤ x17 ∧ x17 < (x18.length : Int)) <|
  let v24:=(List.getD x18 (Int.toNat x17) [])
  gd ((Int.toNat x17) < x18.length) <|
  gd ((0 : Int) ≤ x17 ∧ x17 < (x19.length : Int)) <|
  let v25:=(List.getD x19 (Int.toNat x17) [])
  gd ((Int.toNat x17) < x19.length) <|
  let v26:=(Kd.nth (.slice (.int .i32)) c2 (Int.toNat x17))
  gd ((0 : Int) ≤ x17 ∧ x17 < (c2.length : Int)) <|
  let v27:=(Kd.nth (.int .i32) v26 (Int.toNat c0))
  gd ((0 : Int) ≤ c0 ∧ c0 < (v26.length : Int)) <|
  let v28:=(Kd.nth (.slice (.int .i32)) c3 (Int.toNat x17))
  gd ((0 : Int) ≤ x17 ∧ x17 < (c3.length : Int)) <|
  let v29:=(Kd.nth (.int .i32) v28 (Int.toNat c0))
  gd ((0 : Int) ≤ c0 ∧ c0 < (v28.length : Int)) <|
  gd ((0 : Int) ≤ c0 ∧ c0 < (v24.length : Int)) <|
  let v30:=(List.set v24 (Int.toNat c0) v27)
  gd ((Int.toNat c0) < v24.length) <|
  gd ((0 : Int) ≤ c0 ∧ c0 < (v25.length : Int)) <|
  let v31:=(List.set v25 (Int.toNat c0) v29)
  gd ((Int.toNat c0) < v25.length) <|
  let v32:=(kwrap .i64 (x17 + 1))
  next v32 (List.set x18 (Int.toNat x17) v30) (List.set x19 (Int.toNat x17) v31)
 else
  some (x18,x19)
def subband_Params_swapped_1.l0 (K : Nat) (c0 c1 : Int) (c2 c3 : List (List Int)) (n : Nat) : Int → List (List Int) → List (List Int) → Option ((List (List Int)) × (List (List Int))):=rounds (subband_Params_swapped_1.r0 K c0 c1 c2 c3) (fun _ _ _=>none) n
def subband_Params_swapped_1 (K : Nat) (p0 : Int) (p1 p2 p3 p4 : List (List Int)) : Option ((List (List Int)) × (List (List Int))):=
 (subband_Params_swapped_1.l0 K p0 (p1.length : Int) p1 p2 K 0 p3 p4 : Option ((List (List Int)) × (List (List Int)))).bind fun (x15,x16)=>
  some (x15,x16)
def subband_Params_each.r0 (K : Nat) (c0 : Int) (c1 c2 : List (List Int)) (c3 : List Int) (next : Int → List (List Int) → List (List Int) → Option ((List (List Int)) × (List (List Int)))) (x37 : Int) (x38 x39 : List (List Int)) : Option ((List (List Int)) × (List (List Int))):=
 let v47:=(decide (x37 < c0))
 bif v47 then
  (
   let v53:=(Kd.nth (.int .i64) c3 (Int.toNat x37))
   gd ((0 : Int) ≤ x37 ∧ x37 < (c3.length : Int) ∧ (Int.toNat x37) < c3.length) <|
   bif (v53 == 1) then
    (subband_Params_swapped_1 K x37 c1 c2 x38 x39).bind fun (r54,r55)=>
    some (r54,r55)
   else
    some (x38,x39) : Option ((List (List Int)) × (List (List Int)))).bind fun (x50,x51)=>
   let v52:=(kwrap .i64 (x37 + 1))
   next v52 x50 x51
 else
  some (x38,x39)
def subband_Params_each.l0 (K : Nat) (c0 : Int) (c1 c2 : List (List Int)) (c3 : List Int) (n : Nat) : Int → List (List Int) → List (List Int) → Option ((List (List Int)) × (List (List Int))):=rounds (subband_Params_each.r0 K c0 c1 c2 c3) (fun _ _ _=>none) n
def subband_Params_each (K : Nat) (p0 p1 : List (List Int)) (p2 : List Int) (p3 p4 : List (List Int)) : Option ((List (List Int)) × (List (List Int))):=
 (subband_Params_each.l0 K (p2.length : Int) p0 p1 p2 K 0 p3 p4 : Option ((List (List Int)) × (List (List Int)))).bind fun (x31,x32)=>
  some (x31,x32)
def subband_Params_swapped (K : Nat) (p0 : List (List (List Int))) (p1 : List Int) : Option ((List (List (List Int)))):=
 (slices_Contains_int_int_2 K 1 p1).bind fun r9=>
 bif (!r9) then
  some p0
 else
  let v10:=(Kd.nth (.slice (.slice (.int .i32))) p0 0)
  gd (0 < (p0.length : Int)) <|
  let v11:=(Kd.nth (.slice (.slice (.int .i32))) p0 1)
  gd (1 < (p0.length : Int)) <|
  (quant_Middle K v10 v11).bind fun (r12,r13,_r14)=>
  gd (0 < (p0.length : Int)) <|
  (subband_clone K v10).bind fun r15=>
  gd (1 < (p0.length : Int)) <|
  (subband_clone K v11).bind fun r16=>
  (subband_Params_each K r12 r13 p1 r15 r16).bind fun (r17,r18)=>
  some ([r17,r18])
def quant_Quant (K : Nat) (p0 p1 p2 : Int) : Option (Int × Int):=
 (quant_may K p1 p2).bind fun r5=>
 bif (!r5) then
  some (0,1)
 else
  bif (p2 == 0) then
   some (0,0)
  else
   let v6:=(kshl .i64 2 p1)
   gd ((0 : Int) ≤ p1) <|
   let v7:=(kshl .i64 1 p2)
   gd ((0 : Int) ≤ p2) <|
   let v8:=(kwrap .i64 (v7 - 1))
   let v9:=(kwrap .i64 (1 - v6))
   let v10:=(kwrap .i64 (v6 - 1))
   (fix_Clip K (kwrap .i64 p0) v9 v10).bind fun r11=>
   let v12:=(kwrap .i64 (r11 * v8))
   let v13:=(kwrap .i64 (p1 + 1))
   let v14:=(kshr .i64 v12 v13)
   let v15:=(kwrap .i64 (v14 + v8))
   let v16:=(kshr .i64 v15 1)
   gd ((0 : Int) ≤ v13) <|
   some (v16,0)
def subband_Analyse.r2 (K : Nat) (_c0 : List (List (List Int))) (c1 : List (List Int)) (c2 c3 _c4 _c5 : Int) (c6 : List Int) (c7 _c8 _c9 _c10 _c11 _c12 _c13 _c14 _c15 _c16 _c17 : Int) (c18 : List (List Int)) (_c19 : List Int) (c20 : List (List (List Int))) (_c21 : Nat) (next : Int → List (List Int) → Option ((List (List Int)))) (x966 : Int) (x967 : List (List Int)) : Option ((List (List Int))):=
 let v974:=(decide (x966 < c7))
 bif v974 then
  let v977:=(Kd.nth (.int .i32) c6 (Int.toNat x966))
  gd ((0 : Int) ≤ x966 ∧ x966 < (c6.length : Int)) <|
  let v978:=(Kd.nth (.slice (.int .i64)) c18 (Int.toNat c3))
  gd ((0 : Int) ≤ c3 ∧ c3 < (c18.length : Int)) <|
  let v979:=(Kd.nth (.int .i64) v978 (Int.toNat x966))
  gd ((0 : Int) ≤ x966 ∧ x966 < (v978.length : Int)) <|
  let v980:=(Kd.nth (.slice (.int .i64)) c1 (Int.toNat c3))
  gd ((0 : Int) ≤ c3 ∧ c3 < (c1.length : Int)) <|
  let v981:=(Kd.nth (.int .i64) v980 (Int.toNat x966))
  gd ((0 : Int) ≤ x966 ∧ x966 < (v980.length : Int)) <|
  (quant_Quant K v977 v979 v981).bind fun (r982,_r983)=>
  gd ((0 : Int) ≤ c2 ∧ c2 < (c20.length : Int)) <|
  gd ((0 : Int) ≤ c2 ∧ c2 < (c20.length : Int)) <|
  gd ((0 : Int) ≤ c3 ∧ c3 < (x967.length : Int)) <|
  let v984:=(List.getD x967 (Int.toNat c3) [])
  gd ((Int.toNat c3) < x967.length) <|
  let v985:=(v984 ++ [r982])
  gd (((v984.length : Int) + ([r982].length : Int)) * 8 ≤ 70368744177664) <|
  gd ((0 : Int) ≤ c3 ∧ c3 < (x967.length : Int)) <|
  let v986:=(List.set x967 (Int.toNat c3) v985)
  gd ((Int.toNat c3) < x967.length) <|
  let v987:=(kwrap .i64 (x966 + 1))
  next v987 v986
 else
  some x967
def subband_Analyse.l2 (K : Nat) (c0 : List (List (List Int))) (c1 : List (List Int)) (c2 c3 c4 c5 : Int) (c6 : List Int) (c7 c8 c9 c10 c11 c12 c13 c14 c15 c16 c17 : Int) (c18 : List (List Int)) (c19 : List Int) (c20 : List (List (List Int))) (c21 n : Nat) : Int → List (List Int) → Option ((List (List Int))):=rounds (subband_Analyse.r2 K c0 c1 c2 c3 c4 c5 c6 c7 c8 c9 c10 c11 c12 c13 c14 c15 c16 c17 c18 c19 c20 c21) (fun _ _=>none) n
def subband_Analyse.r1 (K : Nat) (c0 : List (List (List Int))) (c1 : List (List Int)) (c2 c3 c4 c5 c6 c7 c8 c9 c10 c11 c12 c13 c14 : Int) (c15 : List (List Int)) (c16 : List Int) (c17 : List (List (List Int))) (c18 : Nat) (next : Int → List (List Int) → Option ((List (List Int)))) (x901 : Int) (x902 : List (List Int)) : Option ((List (List Int))):=
 let v931:=(decide (x901 < c4))
 bif v931 then
  let v945:=(Kd.nth (.slice (.slice (.int .i32))) c0 (Int.toNat x901))
  let v946:=(Kd.nth (.slice (.int .i32)) v945 c18)
  let v947:=(v946.length : Int)
  gd ((0 : Int) ≤ x901 ∧ x901 < (c0.length : Int) ∧ (0 : Int) ≤ c2 ∧ c2 < (v945.length : Int)) <|
  (subband_Analyse.l2 K c0 c1 c2 x901 c3 c4 v946 v947 c5 c6 c7 c8 c9 c10 c11 c12 c13 c14 c15 c16 c17 c18 K 0 x902 : Option ((List (List Int)))).bind fun x960=>
   let v961:=(kwrap .i64 (x901 + 1))
   next v961 x960
 else
  some x902
def subband_Analyse.l1 (K : Nat) (c0 : List (List (List Int))) (c1 : List (List Int)) (c2 c3 c4 c5 c6 c7 c8 c9 c10 c11 c12 c13 c14 : Int) (c15 : List (List Int)) (c16 : List Int) (c17 : List (List (List Int))) (c18 n : Nat) : Int → List (List Int) → Option ((List (List Int))):=rounds (subband_Analyse.r1 K c0 c1 c2 c3 c4 c5 c6 c7 c8 c9 c10 c11 c12 c13 c14 c15 c16 c17 c18) (fun _ _=>none) n
def subband_Analyse.r0 (K : Nat) (c0 : List (List (List Int))) (c1 : List (List Int)) (c2 c3 c4 c5 c6 c7 c8 c9 c10 c11 c12 : Int) (c13 : List (List Int)) (c14 : List Int) (next : Int → List (List (List Int)) → Option ((List (List (List Int))))) (x640 : Int) (x641 : List (List (List Int))) : Option ((List (List (List Int)))):=
 let v758:=(decide (x640 < c2))
 bif v758 then
  let v816:=(List.replicate (Int.toNat c5) ([] : List Int))
  gd ((0 : Int) ≤ c5 ∧ c5 ≤ c5 ∧ c5 * 24 ≤ 140737488355328) <|
  gd ((0 : Int) ≤ x640 ∧ x640 < (x641.length : Int)) <|
  gd ((Int.toNat x640) < x641.length) <|
  (subband_Analyse.l1 K c0 c1 x640 c2 (c0.length : Int) c3 c4 c5 c6 c7 c8 c9 c10 c11 c12 c13 c14 x641 (Int.toNat x640) K 0 v816 : Option ((List (List Int)))).bind fun x873=>
   let v874:=(kwrap .i64 (x640 + 1))
   next v874 (List.set x641 (Int.toNat x640) x873)
 else
  some x641
def subband_Analyse.l0 (K : Nat) (c0 : List (List (List Int))) (c1 : List (List Int)) (c2 c3 c4 c5 c6 c7 c8 c9 c10 c11 c12 : Int) (c13 : List (List Int)) (c14 : List Int) (n : Nat) : Int → List (List (List Int)) → Option ((List (List (List Int)))):=rounds (subband_Analyse.r0 K c0 c1 c2 c3 c4 c5 c6 c7 c8 c9 c10 c11 c12 c13 c14) (fun _ _=>none) n
def subband_Analyse.r3 (K : Nat) (c0 : List (List (List Int))) (c1 _c2 _c3 _c4 _c5 _c6 _c7 _c8 _c9 _c10 _c11 : Int) (_c12 : List Int) (next : Int → List (List Int) → Option ((List (List Int)))) (x992 : Int) (x993 : List (List Int)) : Option ((List (List Int))):=
 let v1000:=(decide (x992 < c1))
 bif v1000 then
  let v1003:=(Kd.nth (.slice (.slice (.int .i32))) c0 (Int.toNat x992))
  gd ((0 : Int) ≤ x992 ∧ x992 < (c0.length : Int)) <|
  (quant_Scales K v1003).bind fun (r1004,_r1005)=>
  let v1006:=(x993 ++ [r1004])
  gd (((x993.length : Int) + ([r1004].length : Int)) * 24 ≤ 70368744177664) <|
  let v1007:=(kwrap .i64 (x992 + 1))
  next v1007 v1006
 else
  some x993
def subband_Analyse.l3 (K : Nat) (c0 : List (List (List Int))) (c1 c2 c3 c4 c5 c6 c7 c8 c9 c10 c11 : Int) (c12 : List Int) (n : Nat) : Int → List (List Int) → Option ((List (List Int))):=rounds (subband_Analyse.r3 K c0 c1 c2 c3 c4 c5 c6 c7 c8 c9 c10 c11 c12) (fun _ _=>none) n
def subband_Analyse.r4 (_K : Nat) (_c0 : List (List (List Int))) (c1 : List (Bool)) (c2 _c3 _c4 _c5 _c6 _c7 _c8 _c9 _c10 _c11 _c12 : Int) (next : Int → List Int → Option ((List Int))) (x1020 : Int) (x1021 : List Int) : Option ((List Int)):=
 let v1025:=(decide (x1020 < c2))
 bif v1025 then
  (
   let v1028:=(Kd.nth (.bool) c1 (Int.toNat x1020))
   gd ((0 : Int) ≤ x1020 ∧ x1020 < (c1.length : Int)) <|
   bif v1028 then
    let v1029:=(List.set x1021 (Int.toNat x1020) 1)
    gd ((0 : Int) ≤ x1020 ∧ x1020 < (x1021.length : Int) ∧ (Int.toNat x1020) < x1021.length) <|
    some v1029
   else
    some x1021 : Option ((List Int))).bind fun x1026=>
   let v1027:=(kwrap .i64 (x1020 + 1))
   next v1027 x1026
 else
  some x1021
def subband_Analyse.l4 (K : Nat) (c0 : List (List (List Int))) (c1 : List (Bool)) (c2 c3 c4 c5 c6 c7 c8 c9 c10 c11 c12 : Int) (n : Nat) : Int → List Int → Option ((List Int)):=rounds (subband_Analyse.r4 K c0 c1 c2 c3 c4 c5 c6 c7 c8 c9 c10 c11 c12) (fun _ _=>none) n
def subband_Analyse (K : Nat) (p0 p1 p2 p3 p4 p5 p6 p7 p8 p9 : Int) (p10 : List (List (List Int))) : Option ((List Int) × (List (List Int)) × (List (List (List Int))) × Int):=
 (subband_may K p0 p1 p2 p3 p4 p5 p6 p7 p8 p9).bind fun r262=>
 bif (r262 != 0) then
  some (([] : List Int),([] : List (List Int)),([] : List (List (List Int))),r262)
 else
  (subband_fits K p0 p1 p2 p3 p4 p5 p6 p7 p8 p9 p10).bind fun r263=>
  bif (!r263) then
   some (([] : List Int),([] : List (List Int)),([] : List (List (List Int))),1)
  else
   let v264:=(List.replicate (Int.toNat p3) (0 : Int))
   gd ((0 : Int) ≤ p3 ∧ p3 ≤ p3 ∧ p3 * 8 ≤ 140737488355328) <|
   (
    bif (p6 == 1) then
     let v1008:=(Kd.nth (.slice (.slice (.int .i32))) p10 0)
     gd (0 < (p10.length : Int)) <|
     let v1009:=(Kd.nth (.slice (.slice (.int .i32))) p10 1)
     gd (1 < (p10.length : Int)) <|
     (quant_Joins K v1008 v1009).bind fun (r1010,_r1011)=>
     (subband_Analyse.l4 K p10 r1010 (r1010.length : Int) p0 p1 p2 p3 p4 p5 p6 p7 p8 p9 K 0 v264 : Option ((List Int))).bind fun x1018=>
      some x1018
    else
     some v264 : Option ((List Int))).bind fun x274=>
    (subband_Params_swapped K p10 x274).bind fun r275=>
    (subband_Analyse.l3 K r275 (r275.length : Int) p0 p1 p2 p3 p4 p5 p6 p7 p8 p9 x274 K 0 ([] : List (List Int)) : Option ((List (List Int)))).bind fun x288=>
     (alloc_Share K p0 p1 p2 p3 p4 p5 p6 p7 p8 p9 x288).bind fun (r289,_r290)=>
     let v291:=(List.replicate (Int.toNat p4) ([] : List (List Int)))
     gd ((0 : Int) ≤ p4 ∧ p4 ≤ p4 ∧ p4 * 24 ≤ 140737488355328) <|
     let v292:=(v291.length : Int)
     (subband_Analyse.l0 K r275 r289 v292 p0 p1 p2 p3 p4 p5 p6 p7 p8 p9 x288 x274 K 0 v291 : Option ((List (List (List Int))))).bind fun x525=>
      some (x274,x288,x525,0)
def subband_Encoder_Feed_2.r1 (K : Nat) (c0 : List Int) (_c1 : List (List Int)) (_c2 _c3 _c4 _c5 c6 _c7 _c8 _c9 _c10 _c11 _c12 c13 : Int) (c14 c15 : List Int) (next : Int → Int → List Int → List (List (List Int)) → Option (Int × (List Int) × (List (List (List Int))))) (x356 x357 : Int) (x358 : List Int) (x359 : List (List (List Int))) : Option (Int × (List Int) × (List (List (List Int)))):=
 let v370:=(c0.length : Int)
 let v371:=(decide (x357 < v370))
 bif v371 then
  bif x356 == 0 then
   let v375:=(kwrap .i64 (x357 + c6))
   let v376:=((c0.take (Int.toNat v375)).drop (Int.toNat x357))
   gd ((0 : Int) ≤ x357 ∧ x357 ≤ v375 ∧ v375 ≤ v370) <|
   (poly_Splitter_Feed K v376 c13 c14 c15 x358).bind fun (r377,_r378,r379)=>
   let v380:=(List.getD x359 0 [])
   let v381:=(v380 ++ [r377])
   let v382:=(List.set x359 0 v381)
   gd (0 < (x359.length : Int) ∧ 0 < x359.length ∧ ((v380.length : Int) + ([r377].length : Int)) * 24 ≤ 70368744177664 ∧ 0 < (x359.length : Int) ∧ 0 < x359.length) <|
   next 0 v375 r379 v382
  else
   none
 else
  some (x356,x358,x359)
def subband_Encoder_Feed_2.l1 (K : Nat) (c0 : List Int) (c1 : List (List Int)) (c2 c3 c4 c5 c6 c7 c8 c9 c10 c11 c12 c13 : Int) (c14 c15 : List Int) (n : Nat) : Int → Int → List Int → List (List (List Int)) → Option (Int × (List Int) × (List (List (List Int)))):=rounds (subband_Encoder_Feed_2.r1 K c0 c1 c2 c3 c4 c5 c6 c7 c8 c9 c10 c11 c12 c13 c14 c15) (fun _ _ _ _=>none) n
def subband_Encoder_Feed_2.r0 (K : Nat) (c0 : List (List Int)) (c1 c2 c3 c4 c5 c6 c7 c8 c9 c10 c11 c12 : Int) (c13 c14 : List Int) (next : Int → List Int → List (List (List Int)) → Option ((List Int) × (List (List (List Int))))) (x249 : Int) (x250 : List Int) (x251 : List (List (List Int))) : Option ((List Int) × (List (List (List Int)))):=
 let v301:=(decide (x249 < c1))
 bif v301 then
  let v325:=(Kd.nth (.slice (.int .i16)) c0 (Int.toNat x249))
  gd ((0 : Int) ≤ x249 ∧ x249 < (c0.length : Int)) <|
  (subband_Encoder_Feed_2.l1 K v325 c0 c1 c2 c3 c4 c5 c6 c7 c8 c9 c10 c11 c12 c13 c14 K x249 0 x250 x251 : Option (Int × (List Int) × (List (List (List Int))))).bind fun (x346,x347,x348)=>
   let v349:=(kwrap .i64 (x346 + 1))
   next v349 x347 x348
 else
  some (x250,x251)
def subband_Encoder_Feed_2.l0 (K : Nat) (c0 : List (List Int)) (c1 c2 c3 c4 c5 c6 c7 c8 c9 c10 c11 c12 : Int) (c13 c14 : List Int) (n : Nat) : Int → List Int → List (List (List Int)) → Option ((List Int) × (List (List (List Int)))):=rounds (subband_Encoder_Feed_2.r0 K c0 c1 c2 c3 c4 c5 c6 c7 c8 c9 c10 c11 c12 c13 c14) (fun _ _ _=>none) n
def subband_Encoder_Feed_2 (K : Nat) (p0 : List Int) (p1 p2 p3 p4 p5 p6 p7 p8 p9 p10 p11 : Int) (p12 p13 p14 : List Int) : Option ((List Int) × Int × (List Int)):=
 let v103:=(kwrap .i64 (p3 * p4))
 let v104:=(kwrap .i64 (v103 * p5))
 let v105:=((p0.length : Int) != v104)
 bif v105 then
  some (([] : List Int),1,p14)
 else
  (pcm_Part K p0 p3).bind fun (r106,_r107)=>
  let v108:=(List.replicate (Int.toNat p3) ([] : List (List Int)))
  gd ((0 : Int) ≤ p3 ∧ p3 ≤ p3 ∧ p3 * 24 ≤ 140737488355328) <|
  (subband_Encoder_Feed_2.l0 K r106 (r106.length : Int) p1 p2 p3 p4 p5 p6 p7 p8 p9 p10 p11 p12 p13 K 0 p14 v108 : Option ((List Int) × (List (List (List Int))))).bind fun (x201,x202)=>
   (subband_Analyse K p1 p2 p3 p4 p5 p6 p7 p8 p9 p10 x202).bind fun (r203,r204,r205,_r206)=>
   (subband_Pack K p1 p2 p3 p4 p5 p6 p7 p8 p9 p10 r203 r204 r205).bind fun (r207,r208)=>
   some (r207,r208,x201)
def subband_Encoder_Feed_3.r1 (K : Nat) (c0 : List Int) (_c1 : List (List Int)) (_c2 _c3 _c4 _c5 c6 _c7 _c8 _c9 _c10 _c11 _c12 c13 : Int) (c14 c15 : List Int) (c16 : Int) (c17 c18 : List Int) (next : Int → Int → List Int → List Int → List (List (List Int)) → Option (Int × (List Int) × (List Int) × (List (List (List Int))))) (x669 x670 : Int) (x671 x672 : List Int) (x673 : List (List (List Int))) : Option (Int × (List Int) × (List Int) × (List (List (List Int)))):=
 let v689:=(c0.length : Int)
 let v690:=(decide (x670 < v689))
 bif v690 then
  (
   bif x669 == 0 then
    let v702:=(kwrap .i64 (x670 + c6))
    let v703:=((c0.take (Int.toNat v702)).drop (Int.toNat x670))
    gd ((0 : Int) ≤ x670 ∧ x670 ≤ v702 ∧ v702 ≤ v689) <|
    (poly_Splitter_Feed K v703 c13 c14 c15 x671).bind fun (r704,_r705,r706)=>
    let v707:=(List.getD x673 0 [])
    let v708:=(v707 ++ [r704])
    let v709:=(List.set x673 0 v708)
    gd (0 < (x673.length : Int) ∧ 0 < x673.length ∧ ((v707.length : Int) + ([r704].length : Int)) * 24 ≤ 70368744177664 ∧ 0 < (x673.length : Int) ∧ 0 < x673.length) <|
    some (0,r706,x672,v709)
   else
    bif x669 == 1 then
     let v710:=(kwrap .i64 (x670 + c6))
     let v711:=((c0.take (Int.toNat v710)).drop (Int.toNat x670))
     gd ((0 : Int) ≤ x670 ∧ x670 ≤ v710 ∧ v710 ≤ v689) <|
     (poly_Splitter_Feed K v711 c16 c17 c18 x672).bind fun (r712,_r713,r714)=>
     let v715:=(List.getD x673 1 [])
     let v716:=(v715 ++ [r712])
     let v717:=(List.set x673 1 v716)
     gd (1 < (x673.length : Int) ∧ 1 < x673.length ∧ ((v715.length : Int) + ([r712].length : Int)) * 24 ≤ 70368744177664 ∧ 1 < (x673.length : Int) ∧ 1 < x673.length) <|
     some (1,x671,r714,v717)
    else
     none : Option (Int × (List Int) × (List Int) × (List (List (List Int))))).bind fun (x697,x698,x699,x700)=>
   let v701:=(kwrap .i64 (x670 + c6))
   next x697 v701 x698 x699 x700
 else
  some (x669,x671,x672,x673)
def subband_Encoder_Feed_3.l1 (K : Nat) (c0 : List Int) (c1 : List (List Int)) (c2 c3 c4 c5 c6 c7 c8 c9 c10 c11 c12 c13 : Int) (c14 c15 : List Int) (c16 : Int) (c17 c18 : List Int) (n : Nat) : Int → Int → List Int → List Int → List (List (List Int)) → Option (Int × (List Int) × (List Int) × (List (List (List Int)))):=rounds (subband_Encoder_Feed_3.r1 K c0 c1 c2 c3 c4 c5 c6 c7 c8 c9 c10 c11 c12 c13 c14 c15 c16 c17 c18) (fun _ _ _ _ _=>none) n
def subband_Encoder_Feed_3.r0 (K : Nat) (c0 : List (List Int)) (c1 c2 c3 c4 c5 c6 c7 c8 c9 c10 c11 c12 : Int) (c13 c14 : List Int) (c15 : Int) (c16 c17 : List Int) (next : Int → List Int → List Int → List (List (List Int)) → Option ((List Int) × (List Int) × (List (List (List Int))))) (x512 : Int) (x513 x514 : List Int) (x515 : List (List (List Int))) : Option ((List Int) × (List Int) × (List (List (List Int)))):=
 let v588:=(decide (x512 < c1))
 bif v588 then
  let v623:=(Kd.nth (.slice (.int .i16)) c0 (Int.toNat x512))
  gd ((0 : Int) ≤ x512 ∧ x512 < (c0.length : Int)) <|
  (subband_Encoder_Feed_3.l1 K v623 c0 c1 c2 c3 c4 c5 c6 c7 c8 c9 c10 c11 c12 c13 c14 c15 c16 c17 K x512 0 x513 x514 x515 : Option (Int × (List Int) × (List Int) × (List (List (List Int))))).bind fun (x654,x655,x656,x657)=>
   let v658:=(kwrap .i64 (x654 + 1))
   next v658 x655 x656 x657
 else
  some (x513,x514,x515)
def subband_Encoder_Feed_3.l0 (K : Nat) (c0 : List (List Int)) (c1 c2 c3 c4 c5 c6 c7 c8 c9 c10 c11 c12 : Int) (c13 c14 : List Int) (c15 : Int) (c16 c17 : List Int) (n : Nat) : Int → List Int → List Int → List (List (List Int)) → Option ((List Int) × (List Int) × (List (List (List Int)))):=rounds (subband_Encoder_Feed_3.r0 K c0 c1 c2 c3 c4 c5 c6 c7 c8 c9 c10 c11 c12 c13 c14 c15 c16 c17) (fun _ _ _ _=>none) n
def subband_Encoder_Feed_3 (K : Nat) (p0 : List Int) (p1 p2 p3 p4 p5 p6 p7 p8 p9 p10 p11 : Int) (p12 p13 : List Int) (p14 : Int) (p15 p16 p17 p18 : List Int) : Option ((List Int) × Int × (List Int) × (List Int)):=
 let v199:=(kwrap .i64 (p3 * p4))
 let v200:=(kwrap .i64 (v199 * p5))
 let v201:=((p0.length : Int) != v200)
 bif v201 then
  some (([] : List Int),1,p17,p18)
 else
  (pcm_Part K p0 p3).bind fun (r202,_r203)=>
  let v204:=(List.replicate (Int.toNat p3) ([] : List (List Int)))
  gd ((0 : Int) ≤ p3 ∧ p3 ≤ p3 ∧ p3 * 24 ≤ 140737488355328) <|
  (subband_Encoder_Feed_3.l0 K r202 (r202.length : Int) p1 p2 p3 p4 p5 p6 p7 p8 p9 p10 p11 p12 p13 p14 p15 p16 K 0 p17 p18 v204 : Option ((List Int) × (List Int) × (List (List (List Int))))).bind fun (x392,x393,x394)=>
   (subband_Analyse K p1 p2 p3 p4 p5 p6 p7 p8 p9 p10 x394).bind fun (r395,r396,r397,_r398)=>
   (subband_Pack K p1 p2 p3 p4 p5 p6 p7 p8 p9 p10 r395 r396 r397).bind fun (r399,r400)=>
   some (r399,r400,x392,x393)
def psalterylaw14_alive (K : Nat)  : Option (Bool):=
 (bank_New K ).bind fun _=>
 (psalterylaw14_plain K ).bind fun _=>
 (subband_NewEncoder K 1 0 1 4 4 0 0 2 0 0 (List.replicate 388 none) 0 0).bind fun z=>match z with
 | .inl r48=>
  let v67:=(bif (r48 != 0) then true else true)
  bif v67 then
   some false
  else
   (subband_Encoder_Feed K (List.replicate 16 (0 : Int))).bind fun r68=>
   (subband_Encoder_Feed K (List.replicate 15 (0 : Int))).bind fun _r69=>
   (psalterylaw14_plain K ).bind fun _=>
   (subband_Parse K 1 0 1 4 4 0 0 2 0 0 r68).bind fun (_r70,_r71,_r72,_r73)=>
   some false
 | .inr (.inl (_r49,_r50,_r51,r52,r53,r54,r55))=>
  (subband_Encoder_Feed_2 K (List.replicate 16 (0 : Int)) 1 0 1 4 4 0 0 2 0 0 r52 r53 r54 r55).bind fun (r74,r75,r76)=>
  (subband_Encoder_Feed_2 K (List.replicate 15 (0 : Int)) 1 0 1 4 4 0 0 2 0 0 r52 r53 r54 r76).bind fun (_r77,r78,_r79)=>
  (psalterylaw14_plain K ).bind fun _=>
  (subband_Parse K 1 0 1 4 4 0 0 2 0 0 r74).bind fun (_r80,_r81,r82,r83)=>
  let v84:=((r74.length : Int) == 7)
  let v85:=(bif (r75 == 0) then v84 else false)
  let v86:=(Kd.nth (.int .u8) r74 0)
  let v87:=(bif v85 then (v86 == 156) else false)
  let v88:=(Kd.nth (.int .u8) r74 1)
  let v89:=(bif v87 then (v88 == 0) else false)
  let v90:=(Kd.nth (.int .u8) r74 2)
  let v91:=(bif v89 then (v90 == 2) else false)
  let v92:=(bif v91 then (r78 == 1) else false)
  let v93:=(bif v92 then (r83 == 0) else false)
  let v94:=((r82.length : Int) == 4)
  let v95:=(bif v93 then v94 else false)
  gd ((v85 = true → 0 < (r74.length : Int)) ∧ (v87 = true → 1 < (r74.length : Int)) ∧ (v89 = true → 2 < (r74.length : Int))) <|
  some v95
 | .inr (.inr (_r56,_r57,_r58,r59,r60,r61,r62,r63,r64,r65,r66))=>
  (subband_Encoder_Feed_3 K (List.replicate 16 (0 : Int)) 1 0 2 4 4 0 0 2 0 0 r59 r60 r61 r62 r63 r64 r65 r66).bind fun (r96,r97,r98,r99)=>
  (subband_Encoder_Feed_3 K (List.replicate 15 (0 : Int)) 1 0 2 4 4 0 0 2 0 0 r59 r60 r61 r62 r63 r64 r98 r99).bind fun (_r100,r101,_r102,_r103)=>
  (psalterylaw14_plain K ).bind fun _=>
  (subband_Parse K 1 0 1 4 4 0 0 2 0 0 r96).bind fun (_r104,_r105,r106,r107)=>
  let v108:=((r96.length : Int) == 7)
  let v109:=(bif (r97 == 0) then v108 else false)
  let v110:=(Kd.nth (.int .u8) r96 0)
  let v111:=(bif v109 then (v110 == 156) else false)
  let v112:=(Kd.nth (.int .u8) r96 1)
  let v113:=(bif v111 then (v112 == 0) else false)
  let v114:=(Kd.nth (.int .u8) r96 2)
  let v115:=(bif v113 then (v114 == 2) else false)
  let v116:=(bif v115 then (r101 == 1) else false)
  let v117:=(bif v116 then (r107 == 0) else false)
  let v118:=((r106.length : Int) == 4)
  let v119:=(bif v117 then v118 else false)
  gd ((v109 = true → 0 < (r96.length : Int)) ∧ (v111 = true → 1 < (r96.length : Int)) ∧ (v113 = true → 2 < (r96.length : Int))) <|
  some v119
def fix_Add (K : Nat) (p0 p1 : Int) : Option (Int):=
 let v2:=(kwrap .i64 ((kwrap .i64 p0) + (kwrap .i64 p1)))
 (fix_Sat32 K v2).bind fun r3=>
 some r3
def fix_Sub (K : Nat) (p0 p1 : Int) : Option (Int):=
 let v2:=(kwrap .i64 ((kwrap .i64 p0) - (kwrap .i64 p1)))
 (fix_Sat32 K v2).bind fun r3=>
 some r3
def quant_Sides_1 (K : Nat) (p0 p1 : Int) : Option (Int × Int):=
 (fix_Add K p0 p1).bind fun r3=>
 (fix_Sub K p0 p1).bind fun r4=>
 some (r3,r4)
def quant_pairs_2.r1 (K : Nat) (c0 : List (List Int)) (c1 : Int) (_c2 : List (List Int)) (_c3 : Int) (c4 : List Int) (c5 : Int) (next : Int → List (List Int) → List (List Int) → Option ((List (List Int)) × (List (List Int)))) (x264 : Int) (x265 x266 : List (List Int)) : Option ((List (List Int)) × (List (List Int))):=
 let v274:=(decide (x264 < c5))
 bif v274 then
  let v277:=(Kd.nth (.int .i32) c4 (Int.toNat x264))
  gd ((0 : Int) ≤ x264 ∧ x264 < (c4.length : Int)) <|
  let v278:=(Kd.nth (.slice (.int .i32)) c0 (Int.toNat c1))
  let v279:=(Kd.nth (.int .i32) v278 (Int.toNat x264))
  gd ((0 : Int) ≤ c1 ∧ c1 < (c0.length : Int) ∧ (0 : Int) ≤ x264 ∧ x264 < (v278.length : Int)) <|
  (quant_Sides_1 K v277 v279).bind fun (r280,r281)=>
  gd ((0 : Int) ≤ c1 ∧ c1 < (x265.length : Int)) <|
  let v282:=(List.getD x265 (Int.toNat c1) [])
  gd ((Int.toNat c1) < x265.length) <|
  let v283:=(v282 ++ [r280])
  gd (((v282.length : Int) + ([r280].length : Int)) * 4 ≤ 70368744177664) <|
  gd ((0 : Int) ≤ c1 ∧ c1 < (x266.length : Int)) <|
  let v284:=(List.getD x266 (Int.toNat c1) [])
  gd ((Int.toNat c1) < x266.length) <|
  let v285:=(v284 ++ [r281])
  gd (((v284.length : Int) + ([r281].length : Int)) * 4 ≤ 70368744177664) <|
  gd ((0 : Int) ≤ c1 ∧ c1 < (x265.length : Int)) <|
  let v286:=(List.set x265 (Int.toNat c1) v283)
  gd ((Int.toNat c1) < x265.length) <|
  gd ((0 : Int) ≤ c1 ∧ c1 < (x266.length : Int)) <|
  let v287:=(List.set x266 (Int.toNat c1) v285)
  gd ((Int.toNat c1) < x266.length) <|
  let v288:=(kwrap .i64 (x264 + 1))
  next v288 v286 v287
 else
  some (x265,x266)
def quant_pairs_2.l1 (K : Nat) (c0 : List (List Int)) (c1 : Int) (c2 : List (List Int)) (c3 : Int) (c4 : List Int) (c5 : Int) (n : Nat) : Int → List (List Int) → List (List Int) → Option ((List (List Int)) × (List (List Int))):=rounds (quant_pairs_2.r1 K c0 c1 c2 c3 c4 c5) (fun _ _ _=>none) n
def quant_pairs_2.r0 (K : Nat) (c0 c1 : List (List Int)) (c2 : Int) (next : Int → List (List Int) → List (List Int) → Option ((List (List Int)) × (List (List Int)))) (x186 : Int) (x187 x188 : List (List Int)) : Option ((List (List Int)) × (List (List Int))):=
 let v224:=(decide (x186 < c2))
 bif v224 then
  let v241:=(Kd.nth (.slice (.int .i32)) c1 (Int.toNat x186))
  gd ((0 : Int) ≤ x186 ∧ x186 < (c1.length : Int)) <|
  let v242:=(v241.length : Int)
  (quant_pairs_2.l1 K c0 x186 c1 c2 v241 v242 K 0 x187 x188 : Option ((List (List Int)) × (List (List Int)))).bind fun (x257,x258)=>
   let v259:=(kwrap .i64 (x186 + 1))
   next v259 x257 x258
 else
  some (x187,x188)
def quant_pairs_2.l0 (K : Nat) (c0 c1 : List (List Int)) (c2 : Int) (n : Nat) : Int → List (List Int) → List (List Int) → Option ((List (List Int)) × (List (List Int))):=rounds (quant_pairs_2.r0 K c0 c1 c2) (fun _ _ _=>none) n
def quant_pairs_2 (K : Nat) (p0 p1 : List (List Int)) : Option ((List (List Int)) × (List (List Int)) × Int):=
 (
  (quant_bands K p0).bind fun r289=>
  bif (r289 == 0) then
   some true
  else
   (quant_bands K p0).bind fun r290=>
   (quant_bands K p1).bind fun r291=>
   let v292:=(r290 != r291)
   let v293:=((p0.length : Int) != (p1.length : Int))
   let v294:=(bif v292 then true else v293)
   some v294 : Option (Bool)).bind fun x80=>
  bif x80 then
   some (([] : List (List Int)),([] : List (List Int)),1)
  else
   let v81:=(List.replicate (Int.toNat (p0.length : Int)) ([] : List Int))
   gd ((0 : Int) ≤ (p0.length : Int) ∧ (p0.length : Int) ≤ (p0.length : Int) ∧ (p0.length : Int) * 24 ≤ 140737488355328) <|
   gd ((0 : Int) ≤ (p0.length : Int) ∧ (p0.length : Int) ≤ (p0.length : Int) ∧ (p0.length : Int) * 24 ≤ 140737488355328) <|
   (quant_pairs_2.l0 K p1 p0 (p0.length : Int) K 0 v81 v81 : Option ((List (List Int)) × (List (List Int)))).bind fun (x152,x153)=>
    some (x152,x153,0)
def quant_Sides (K : Nat) (p0 p1 : List (List Int)) : Option ((List (List Int)) × (List (List Int)) × Int):=
 (quant_pairs_2 K p0 p1).bind fun (r4,r5,r6)=>
 some (r4,r5,r6)
def subband_Params_each_2.r0 (K : Nat) (c0 : List Int) (c1 : Int) (_c2 : List (List Int)) (_c3 : List (List (List Int))) (c4 c5 : List (List Int)) (next : Int → List (List Int) → List (List Int) → Option ((List (List Int)) × (List (List Int)))) (x37 : Int) (x38 x39 : List (List Int)) : Option ((List (List Int)) × (List (List Int))):=
 let v47:=(decide (x37 < c1))
 bif v47 then
  (
   let v53:=(Kd.nth (.int .i64) c0 (Int.toNat x37))
   gd ((0 : Int) ≤ x37 ∧ x37 < (c0.length : Int)) <|
   bif (v53 == 1) then
    (subband_Params_swapped_1 K x37 c4 c5 x38 x39).bind fun (r54,r55)=>
    some (r54,r55)
   else
    some (x38,x39) : Option ((List (List Int)) × (List (List Int)))).bind fun (x50,x51)=>
   let v52:=(kwrap .i64 (x37 + 1))
   next v52 x50 x51
 else
  some (x38,x39)
def subband_Params_each_2.l0 (K : Nat) (c0 : List Int) (c1 : Int) (c2 : List (List Int)) (c3 : List (List (List Int))) (c4 c5 : List (List Int)) (n : Nat) : Int → List (List Int) → List (List Int) → Option ((List (List Int)) × (List (List Int))):=rounds (subband_Params_each_2.r0 K c0 c1 c2 c3 c4 c5) (fun _ _ _=>none) n
def subband_Params_each_2 (K : Nat) (p0 : List Int) (p1 : List (List Int)) (p2 : List (List (List Int))) (p3 p4 p5 p6 : List (List Int)) : Option ((List (List Int)) × (List (List Int))):=
 (subband_Params_each_2.l0 K p0 (p0.length : Int) p1 p2 p3 p4 K 0 p5 p6 : Option ((List (List Int)) × (List (List Int)))).bind fun (x31,x32)=>
  some (x31,x32)
def subband_Params_swapped_2 (K : Nat) (p0 : List (List (List Int))) (p1 : List Int) (p2 : List (List Int)) (p3 : List (List (List Int))) : Option ((List (List (List Int)))):=
 (slices_Contains_int_int K p1 1).bind fun r9=>
 bif (!r9) then
  some p0
 else
  let v10:=(Kd.nth (.slice (.slice (.int .i32))) p0 0)
  gd (0 < (p0.length : Int)) <|
  let v11:=(Kd.nth (.slice (.slice (.int .i32))) p0 1)
  gd (1 < (p0.length : Int)) <|
  (quant_Sides K v10 v11).bind fun (r12,r13,_r14)=>
  gd (0 < (p0.length : Int)) <|
  (subband_clone K v10).bind fun r15=>
  gd (1 < (p0.length : Int)) <|
  (subband_clone K v11).bind fun r16=>
  (subband_Params_each_2 K p1 p2 p3 r12 r13 r15 r16).bind fun (r17,r18)=>
  some ([r17,r18])
def subband_Planes.r2 (K : Nat) (c0 : List (List Int)) (c1 _c2 : Int) (_c3 : List (List (List Int))) (_c4 _c5 : Int) (c6 : List Int) (c7 : Int) (_c8 : List Int) (c9 : List (List Int)) (_c10 : List (List (List Int))) (next : Int → List Int → Option ((List Int))) (x919 : Int) (x920 : List Int) : Option ((List Int)):=
 let v927:=(decide (x919 < c7))
 bif v927 then
  let v930:=(Kd.nth (.int .i64) c6 (Int.toNat x919))
  gd ((0 : Int) ≤ x919 ∧ x919 < (c6.length : Int)) <|
  let v931:=(Kd.nth (.slice (.int .i64)) c9 (Int.toNat c1))
  gd ((0 : Int) ≤ c1 ∧ c1 < (c9.length : Int)) <|
  let v932:=(Kd.nth (.int .i64) v931 (Int.toNat x919))
  gd ((0 : Int) ≤ x919 ∧ x919 < (v931.length : Int)) <|
  let v933:=(Kd.nth (.slice (.int .i64)) c0 (Int.toNat c1))
  gd ((0 : Int) ≤ c1 ∧ c1 < (c0.length : Int)) <|
  let v934:=(Kd.nth (.int .i64) v933 (Int.toNat x919))
  gd ((0 : Int) ≤ x919 ∧ x919 < (v933.length : Int)) <|
  (quant_Level K v930 v932 v934).bind fun (r935,_r936)=>
  let v937:=(x920 ++ [r935])
  gd (((x920.length : Int) + ([r935].length : Int)) * 4 ≤ 70368744177664) <|
  let v938:=(kwrap .i64 (x919 + 1))
  next v938 v937
 else
  some x920
def subband_Planes.l2 (K : Nat) (c0 : List (List Int)) (c1 c2 : Int) (c3 : List (List (List Int))) (c4 c5 : Int) (c6 : List Int) (c7 : Int) (c8 : List Int) (c9 : List (List Int)) (c10 : List (List (List Int))) (n : Nat) : Int → List Int → Option ((List Int)):=rounds (subband_Planes.r2 K c0 c1 c2 c3 c4 c5 c6 c7 c8 c9 c10) (fun _ _=>none) n
def subband_Planes.r1 (K : Nat) (c0 : List (List Int)) (c1 c2 : Int) (c3 : List (List (List Int))) (c4 : Int) (c5 : List Int) (c6 : List (List Int)) (next : Int → List (List (List Int)) → Option ((List (List (List Int))))) (x851 : Int) (x852 : List (List (List Int))) : Option ((List (List (List Int)))):=
 let v881:=(decide (x851 < c4))
 bif v881 then
  let v895:=(Kd.nth (.slice (.slice (.int .i64))) c3 (Int.toNat x851))
  gd ((0 : Int) ≤ x851 ∧ x851 < (c3.length : Int)) <|
  let v896:=(Kd.nth (.slice (.int .i64)) v895 (Int.toNat c1))
  let v897:=(v896.length : Int)
  gd ((0 : Int) ≤ c1 ∧ c1 < (v895.length : Int)) <|
  (subband_Planes.l2 K c0 c1 c2 c3 c4 x851 v896 v897 c5 c6 x852 K 0 ([] : List Int) : Option ((List Int))).bind fun x910=>
   let v911:=(List.getD x852 (Int.toNat c1) [])
   gd ((0 : Int) ≤ c1 ∧ c1 < (x852.length : Int) ∧ (Int.toNat c1) < x852.length) <|
   let v912:=(v911 ++ [x910])
   let v913:=(List.set x852 (Int.toNat c1) v912)
   gd (((v911.length : Int) + ([x910].length : Int)) * 24 ≤ 70368744177664 ∧ (0 : Int) ≤ c1 ∧ c1 < (x852.length : Int) ∧ (Int.toNat c1) < x852.length) <|
   let v914:=(kwrap .i64 (x851 + 1))
   next v914 v913
 else
  some x852
def subband_Planes.l1 (K : Nat) (c0 : List (List Int)) (c1 c2 : Int) (c3 : List (List (List Int))) (c4 : Int) (c5 : List Int) (c6 : List (List Int)) (n : Nat) : Int → List (List (List Int)) → Option ((List (List (List Int)))):=rounds (subband_Planes.r1 K c0 c1 c2 c3 c4 c5 c6) (fun _ _=>none) n
def subband_Planes.r0 (K : Nat) (c0 : List (List Int)) (c1 : Int) (c2 : List Int) (c3 : List (List Int)) (c4 : List (List (List Int))) (next : Int → List (List (List Int)) → Option ((List (List (List Int))))) (x591 : Int) (x592 : List (List (List Int))) : Option ((List (List (List Int)))):=
 let v709:=(decide (x591 < c1))
 bif v709 then
  (subband_Planes.l1 K c0 x591 c1 c4 (c4.length : Int) c2 c3 K 0 x592 : Option ((List (List (List Int))))).bind fun x823=>
   let v824:=(kwrap .i64 (x591 + 1))
   next v824 x823
 else
  some x592
def subband_Planes.l0 (K : Nat) (c0 : List (List Int)) (c1 : Int) (c2 : List Int) (c3 : List (List Int)) (c4 : List (List (List Int))) (n : Nat) : Int → List (List (List Int)) → Option ((List (List (List Int)))):=rounds (subband_Planes.r0 K c0 c1 c2 c3 c4) (fun _ _=>none) n
def subband_Planes (K : Nat) (p0 p1 p2 p3 p4 p5 p6 p7 p8 p9 : Int) (p10 : List Int) (p11 : List (List Int)) (p12 : List (List (List Int))) : Option ((List (List (List Int))) × Int):=
 (subband_may K p0 p1 p2 p3 p4 p5 p6 p7 p8 p9).bind fun r238=>
 bif (r238 != 0) then
  some (([] : List (List (List Int))),r238)
 else
  (subband_Params_share K p0 p1 p2 p3 p4 p5 p6 p7 p8 p9 p10 p11 p12).bind fun (r239,r240)=>
  bif (!r240) then
   some (([] : List (List (List Int))),1)
  else
   let v241:=(List.replicate (Int.toNat p2) ([] : List (List Int)))
   gd ((0 : Int) ≤ p2 ∧ p2 ≤ p2 ∧ p2 * 24 ≤ 140737488355328) <|
   let v242:=(v241.length : Int)
   (subband_Planes.l0 K r239 v242 p10 p11 p12 K 0 v241 : Option ((List (List (List Int))))).bind fun x475=>
    (subband_Params_swapped_2 K x475 p10 p11 p12).bind fun r476=>
    some (r476,0)
def subband_Encoder_Reset (_K : Nat)  : Option (Unit):=
 some ()
def psalteryref11_Bits.r0 (_K : Nat) (_c0 _c1 c2 c3 _c4 _c5 _c6 _c7 _c8 _c9 : Int) (next : Int → Int → Option (Int)) (x17 x18 : Int) : Option (Int):=
 let v21:=(decide (x18 < c2))
 bif v21 then
  let v22:=(kwrap .i64 (4 * c3))
  let v23:=(kwrap .i64 (x17 + v22))
  let v24:=(kwrap .i64 (x18 + 1))
  next v23 v24
 else
  some x17
def psalteryref11_Bits.l0 (K : Nat) (c0 c1 c2 c3 c4 c5 c6 c7 c8 c9 : Int) (n : Nat) : Int → Int → Option (Int):=rounds (psalteryref11_Bits.r0 K c0 c1 c2 c3 c4 c5 c6 c7 c8 c9) (fun _ _=>none) n
def psalteryref11_Bits (K : Nat) (p0 p1 p2 p3 p4 p5 p6 p7 p8 p9 : Int) : Option (Int):=
 bif (p0 == 2) then
  let v7:=(kwrap .i64 (p9 * 8))
  some v7
 else
  let v8:=(kwrap .i64 (p4 * p7))
  let v9:=(kwrap .i64 (32 + v8))
  (psalteryref11_Bits.l0 K p0 p1 p2 p3 p4 p5 p6 p7 p8 p9 K v9 0 : Option (Int)).bind fun x14=>
   (
    bif (p6 == 1) then
     let v16:=(kwrap .i64 (x14 + p3))
     some v16
    else
     some x14 : Option (Int)).bind fun x15=>
    some x15
def psalteryref11_Payload.r0 (_K : Nat)  (next : Int → Option (Int)) (x11 : Int) : Option (Int):=
 let v13:=(Int.tmod x11 8)
 bif (v13 != 0) then
  let v14:=(kwrap .i64 (x11 + 1))
  next v14
 else
  some x11
def psalteryref11_Payload.l0 (K : Nat)  (n : Nat) : Int → Option (Int):=rounds (psalteryref11_Payload.r0 K) (fun _=>none) n
def psalteryref11_Payload (K : Nat) (p0 p1 p2 p3 p4 p5 p6 p7 p8 p9 : Int) : Option (Int):=
 bif (p0 == 2) then
  let v5:=(kwrap .i64 (p9 * p2))
  some v5
 else
  (psalteryref11_Bits K p0 p1 p2 p3 p4 p5 p6 p7 p8 p9).bind fun r6=>
  (psalteryref11_Payload.l0 K K r6 : Option (Int)).bind fun x9=>
   let v10:=(kwrap .i64 (Int.tdiv x9 8))
   some v10
def poly_Splitter_Reset (_K : Nat) (_p0 : Int) (_p1 _p2 p3 : List Int) : Option ((List Int)):=
 some (List.replicate p3.length (0 : Int))
def subband_Encoder_Reset_2 (K : Nat) (_p0 _p1 _p2 _p3 _p4 _p5 _p6 _p7 _p8 _p9 p10 : Int) (p11 p12 p13 : List Int) : Option ((List Int)):=
 (
  (poly_Splitter_Reset K p10 p11 p12 p13).bind fun r8=>
  some r8 : Option ((List Int))).bind fun x6=>
  some x6
def subband_Encoder_Reset_3 (K : Nat) (_p0 _p1 _p2 _p3 _p4 _p5 _p6 _p7 _p8 _p9 p10 : Int) (p11 p12 : List Int) (p13 : Int) (p14 p15 p16 p17 : List Int) : Option ((List Int) × (List Int)):=
 (
  (poly_Splitter_Reset K p10 p11 p12 p16).bind fun r14=>
  (poly_Splitter_Reset K p13 p14 p15 p17).bind fun r16=>
  some (r14,r16) : Option ((List Int) × (List Int))).bind fun (x11,x12)=>
  some (x11,x12)
def psalterylaw14_SubBack.r0 (K : Nat) (c0 : List Int) (c1 c2 c3 c4 c5 c6 c7 c8 c9 c10 c11 : Int) (_next : Option ((Unit) ⊕ (Bool)))  : Option ((Unit) ⊕ (Bool)):=
 let v201:=(decide (0 < (c0.length : Int)))
 bif v201 then
  let v211:=(List.replicate (Int.toNat c1) (0 : Int))
  gd ((0 : Int) ≤ c1 ∧ c1 ≤ c1 ∧ c1 * 2 ≤ 140737488355328) <|
  let v212:=((c0.take (Int.toNat (c0.length : Int))).drop (Int.toNat 0))
  let v213:=(cpy 0 v211 v212)
  gd (0 ≤ (c0.length : Int) ∧ (c0.length : Int) ≤ (c0.length : Int)) <|
  (subband_Encoder_Feed K v213).bind fun r214=>
  (subband_Parse K c2 c3 c4 c5 c6 c7 c8 c9 c10 c11 r214).bind fun (r215,r216,r217,_r218)=>
  (subband_Pack K c2 c3 c4 c5 c6 c7 c8 c9 c10 c11 r215 r216 r217).bind fun (_r219,_r220)=>
  (subband_Planes K c2 c3 c4 c5 c6 c7 c8 c9 c10 c11 r215 r216 r217).bind fun (_r221,_r222)=>
  some (.inr false)
 else
  some (.inl ())
def psalterylaw14_SubBack.l0 (K : Nat) (c0 : List Int) (c1 c2 c3 c4 c5 c6 c7 c8 c9 c10 c11 : Int) (n : Nat) : Option ((Unit) ⊕ (Bool)):=rounds (psalterylaw14_SubBack.r0 K c0 c1 c2 c3 c4 c5 c6 c7 c8 c9 c10 c11) (none) n
def psalterylaw14_SubBack.r1 (K : Nat) (c0 : List Int) (c1 c2 c3 c4 c5 c6 c7 c8 c9 c10 c11 c12 : Int) (c13 c14 : List Int) (next : List Int → Int → List Int → Option (((List Int) × (List Int)) ⊕ (Bool))) (x317 : List Int) (x318 : Int) (x319 : List Int) : Option (((List Int) × (List Int)) ⊕ (Bool)):=
 let v338:=(decide (x318 < (c0.length : Int)))
 bif v338 then
  (
   let v355:=(List.replicate (Int.toNat c1) (0 : Int))
   gd ((0 : Int) ≤ c1 ∧ c1 ≤ c1 ∧ c1 * 2 ≤ 140737488355328) <|
   let v356:=((c0.take (Int.toNat (c0.length : Int))).drop (Int.toNat x318))
   let v357:=(cpy 0 v355 v356)
   gd ((0 : Int) ≤ x318 ∧ x318 ≤ (c0.length : Int) ∧ (c0.length : Int) ≤ (c0.length : Int)) <|
   (subband_Encoder_Feed_2 K v357 c2 c3 1 c5 c6 c7 c8 c9 c10 c11 c12 c13 c14 x319).bind fun (r358,r359,r360)=>
   (subband_Parse K c2 c3 c4 c5 c6 c7 c8 c9 c10 c11 r358).bind fun (r361,r362,r363,r364)=>
   (subband_Pack K c2 c3 c4 c5 c6 c7 c8 c9 c10 c11 r361 r362 r363).bind fun (r365,r366)=>
   (subband_Planes K c2 c3 c4 c5 c6 c7 c8 c9 c10 c11 r361 r362 r363).bind fun (r367,r368)=>
   (
    let v371:=(bif (r359 != 0) then true else (r364 != 0))
    let v372:=(bif v371 then true else (r366 != 0))
    let v373:=(bif v372 then true else (r368 != 0))
    bif v373 then
     some true
    else
     (psalteryref11_Payload K c2 c3 c4 c5 c6 c7 c8 c9 c10 c11).bind fun r374=>
     let v375:=((r358.length : Int) != r374)
     let v376:=(!(beqs (bstr r365) (bstr r358)))
     let v377:=(bif v375 then true else v376)
     let v378:=((r367.length : Int) != c4)
     let v379:=(bif v377 then true else v378)
     some v379 : Option (Bool)).bind fun x370=>
    bif x370 then
     some (.inr false)
    else
     bif (x318 == 0) then
      some (.inl (r358,r360))
     else
      some (.inl (x317,r360)) : Option (((List Int) × (List Int)) ⊕ (Bool))).bind fun z=>match z with
  | .inl (x352,x353)=>
   let v354:=(kwrap .i64 (x318 + c1))
   next x352 v354 x353
  | .inr r=>
   some (.inr r)
 else
  some (.inl (x317,x319))
def psalterylaw14_SubBack.l1 (K : Nat) (c0 : List Int) (c1 c2 c3 c4 c5 c6 c7 c8 c9 c10 c11 c12 : Int) (c13 c14 : List Int) (n : Nat) : List Int → Int → List Int → Option (((List Int) × (List Int)) ⊕ (Bool)):=rounds (psalterylaw14_SubBack.r1 K c0 c1 c2 c3 c4 c5 c6 c7 c8 c9 c10 c11 c12 c13 c14) (fun _ _ _=>none) n
def psalterylaw14_SubBack.r2 (K : Nat) (c0 : List Int) (c1 c2 c3 c4 c5 c6 c7 c8 c9 c10 c11 c12 : Int) (c13 c14 : List Int) (c15 : Int) (c16 c17 : List Int) (next : List Int → Int → List Int → List Int → Option (((List Int) × (List Int) × (List Int)) ⊕ (Bool))) (x489 : List Int) (x490 : Int) (x491 x492 : List Int) : Option (((List Int) × (List Int) × (List Int)) ⊕ (Bool)):=
 let v514:=(decide (x490 < (c0.length : Int)))
 bif v514 then
  (
   let v533:=(List.replicate (Int.toNat c1) (0 : Int))
   gd ((0 : Int) ≤ c1 ∧ c1 ≤ c1 ∧ c1 * 2 ≤ 140737488355328) <|
   let v534:=((c0.take (Int.toNat (c0.length : Int))).drop (Int.toNat x490))
   let v535:=(cpy 0 v533 v534)
   gd ((0 : Int) ≤ x490 ∧ x490 ≤ (c0.length : Int) ∧ (c0.length : Int) ≤ (c0.length : Int)) <|
   (subband_Encoder_Feed_3 K v535 c2 c3 2 c5 c6 c7 c8 c9 c10 c11 c12 c13 c14 c15 c16 c17 x491 x492).bind fun (r536,r537,r538,r539)=>
   (subband_Parse K c2 c3 c4 c5 c6 c7 c8 c9 c10 c11 r536).bind fun (r540,r541,r542,r543)=>
   (subband_Pack K c2 c3 c4 c5 c6 c7 c8 c9 c10 c11 r540 r541 r542).bind fun (r544,r545)=>
   (subband_Planes K c2 c3 c4 c5 c6 c7 c8 c9 c10 c11 r540 r541 r542).bind fun (r546,r547)=>
   (
    let v550:=(bif (r537 != 0) then true else (r543 != 0))
    let v551:=(bif v550 then true else (r545 != 0))
    let v552:=(bif v551 then true else (r547 != 0))
    bif v552 then
     some true
    else
     (psalteryref11_Payload K c2 c3 c4 c5 c6 c7 c8 c9 c10 c11).bind fun r553=>
     let v554:=((r536.length : Int) != r553)
     let v555:=(!(beqs (bstr r544) (bstr r536)))
     let v556:=(bif v554 then true else v555)
     let v557:=((r546.length : Int) != c4)
     let v558:=(bif v556 then true else v557)
     some v558 : Option (Bool)).bind fun x549=>
    bif x549 then
     some (.inr false)
    else
     bif (x490 == 0) then
      some (.inl (r536,r538,r539))
     else
      some (.inl (x489,r538,r539)) : Option (((List Int) × (List Int) × (List Int)) ⊕ (Bool))).bind fun z=>match z with
  | .inl (x529,x530,x531)=>
   let v532:=(kwrap .i64 (x490 + c1))
   next x529 v532 x530 x531
  | .inr r=>
   some (.inr r)
 else
  some (.inl (x489,x491,x492))
def psalterylaw14_SubBack.l2 (K : Nat) (c0 : List Int) (c1 c2 c3 c4 c5 c6 c7 c8 c9 c10 c11 c12 : Int) (c13 c14 : List Int) (c15 : Int) (c16 c17 : List Int) (n : Nat) : List Int → Int → List Int → List Int → Option (((List Int) × (List Int) × (List Int)) ⊕ (Bool)):=rounds (psalterylaw14_SubBack.r2 K c0 c1 c2 c3 c4 c5 c6 c7 c8 c9 c10 c11 c12 c13 c14 c15 c16 c17) (fun _ _ _ _=>none) n
def psalterylaw14_SubBack (K : Nat) (p0 p1 p2 p3 p4 p5 p6 p7 p8 p9 : Int) (p10 : List Int) : Option (Bool):=
 (psalterylaw14_alive K ).bind fun r155=>
 bif (!r155) then
  some false
 else
  (bank_New K ).bind fun _=>
  (subband_NewEncoder K p0 p1 p2 p3 p4 p5 p6 p7 p8 p9 (List.replicate 388 none) 0 0).bind fun z=>match z with
  | .inl r156=>
   let v157:=(decide ((p10.length : Int) > 1000))
   let v158:=(bif (r156 != 0) then true else v157)
   bif v158 then
    some true
   else
    let v159:=(kwrap .i64 (p2 * p3))
    let v160:=(kwrap .i64 (v159 * p4))
    (psalterylaw14_SubBack.l0 K p10 v160 p0 p1 p2 p3 p4 p5 p6 p7 p8 p9 K  : Option ((Unit) ⊕ (Bool))).bind fun z=>match z with
    | .inl _=>
     let v179:=((p10.length : Int) == 0)
     bif v179 then
      some true
     else
      (subband_Encoder_Reset K ).bind fun _=>
      let v180:=(List.replicate (Int.toNat v160) (0 : Int))
      gd ((0 : Int) ≤ v160 ∧ v160 ≤ v160 ∧ v160 * 2 ≤ 140737488355328) <|
      let v181:=(cpy 0 v180 p10)
      (subband_Encoder_Feed K v181).bind fun _r182=>
      some false
    | .inr r=>
     some r
  | .inr (.inl (_r223,_r224,_r225,r226,r227,r228,r229))=>
   let v230:=(decide ((p10.length : Int) > 1000))
   bif v230 then
    some true
   else
    let v231:=(kwrap .i64 (p2 * p3))
    let v232:=(kwrap .i64 (v231 * p4))
    (psalterylaw14_SubBack.l1 K p10 v232 p0 p1 p2 p3 p4 p5 p6 p7 p8 p9 r226 r227 r228 K ([] : List Int) 0 r229 : Option (((List Int) × (List Int)) ⊕ (Bool))).bind fun z=>match z with
    | .inl (x280,x281)=>
     let v282:=((p10.length : Int) == 0)
     bif v282 then
      some true
     else
      (subband_Encoder_Reset_2 K p0 p1 1 p3 p4 p5 p6 p7 p8 p9 r226 r227 r228 x281).bind fun r283=>
      let v284:=(List.replicate (Int.toNat v232) (0 : Int))
      gd ((0 : Int) ≤ v232 ∧ v232 ≤ v232 ∧ v232 * 2 ≤ 140737488355328) <|
      let v285:=(cpy 0 v284 p10)
      (subband_Encoder_Feed_2 K v285 p0 p1 1 p3 p4 p5 p6 p7 p8 p9 r226 r227 r228 r283).bind fun (r286,r287,_r288)=>
      let v289:=(beqs (bstr r286) (bstr x280))
      let v290:=(bif (r287 == 0) then v289 else false)
      some v290
    | .inr r=>
     some r
  | .inr (.inr (_r380,_r381,_r382,r383,r384,r385,r386,r387,r388,r389,r390))=>
   let v391:=(decide ((p10.length : Int) > 1000))
   bif v391 then
    some true
   else
    let v392:=(kwrap .i64 (p2 * p3))
    let v393:=(kwrap .i64 (v392 * p4))
    (psalterylaw14_SubBack.l2 K p10 v393 p0 p1 p2 p3 p4 p5 p6 p7 p8 p9 r383 r384 r385 r386 r387 r388 K ([] : List Int) 0 r389 r390 : Option (((List Int) × (List Int) × (List Int)) ⊕ (Bool))).bind fun z=>match z with
    | .inl (x447,x448,x449)=>
     let v450:=((p10.length : Int) == 0)
     bif v450 then
      some true
     else
      (subband_Encoder_Reset_3 K p0 p1 2 p3 p4 p5 p6 p7 p8 p9 r383 r384 r385 r386 r387 r388 x448 x449).bind fun (r451,r452)=>
      let v453:=(List.replicate (Int.toNat v393) (0 : Int))
      gd ((0 : Int) ≤ v393 ∧ v393 ≤ v393 ∧ v393 * 2 ≤ 140737488355328) <|
      let v454:=(cpy 0 v453 p10)
      (subband_Encoder_Feed_3 K v454 p0 p1 2 p3 p4 p5 p6 p7 p8 p9 r383 r384 r385 r386 r387 r388 r451 r452).bind fun (r455,r456,_r457,_r458)=>
      let v459:=(beqs (bstr r455) (bstr x447))
      let v460:=(bif (r456 == 0) then v459 else false)
      some v460
    | .inr r=>
     some r
end Go.Fo
