/- The functions of Go that are reached, as functions of plain values. -/
import Derived.Test.YtphienllhdoenaaGreatJ3
namespace Go.Fo
def bank_New (_K : Nat) : Option (Unit):=
 some ()
def psalterylaw14_plain (_K : Nat)  : Option (Unit):=
 some ()
def format_within (_K : Nat) (p0 p1 p2 : Int) : Option (Bool):=
 let v1:=(decide (p0 ≥ p1))
 let v2:=(decide (p0 ≤ p2))
 let v3:=(bif v1 then v2 else false)
 some v3
def slices_Index_bool_bool.r0 (_K : Nat) (c0 : Bool) (c1 : Int) (c2 : List (Bool)) (next : Int → Option ((Unit) ⊕ (Int))) (x5 : Int) : Option ((Unit) ⊕ (Int)):=
 let v7:=(decide (x5 < c1))
 bif v7 then
  let v8:=(Kd.nth (.bool) c2 (Int.toNat x5))
  gd ((0 : Int) ≤ x5 ∧ x5 < (c2.length : Int) ∧ (Int.toNat x5) < c2.length) <|
  bif (c0 == v8) then
   some (.inr x5)
  else
   let v9:=(kwrap .i64 (x5 + 1))
   next v9
 else
  some (.inl ())
def slices_Index_bool_bool.l0 (K : Nat) (c0 : Bool) (c1 : Int) (c2 : List (Bool)) (n : Nat) : Int → Option ((Unit) ⊕ (Int)):=rounds (slices_Index_bool_bool.r0 K c0 c1 c2) (fun _=>none) n
def slices_Index_bool_bool (K : Nat) (p0 : Bool) (p1 : List (Bool)) : Option (Int):=
 (slices_Index_bool_bool.l0 K p0 (p1.length : Int) p1 K 0 : Option ((Unit) ⊕ (Int))).bind fun z=>match z with
 | .inl _=>
  some (-1)
 | .inr r=>
  some r
def slices_Contains_bool_bool (K : Nat) (p0 : Bool) (p1 : List (Bool)) : Option (Bool):=
 (slices_Index_bool_bool K p0 p1).bind fun r2=>
 let v3:=(decide (r2 ≥ 0))
 some v3
def format_all (K : Nat) (p0 : List (Bool)) : Option (Bool):=
 (slices_Contains_bool_bool K false p0).bind fun r2=>
 some (!r2)
def lapped_lengths (_K : Nat)  : Option (Unit):=
 some ()
def lapped_Lengths (K : Nat)  : Option ((List Int)):=
 (lapped_lengths K ).bind fun _=>
 let v1:=[(40,(60,(80,120))).1,(40,(60,(80,120))).2.1,(40,(60,(80,120))).2.2.1,(40,(60,(80,120))).2.2.2]
 some v1
def slices_Index_int_int.r0 (_K : Nat) (c0 : List Int) (c1 c2 : Int) (next : Int → Option ((Unit) ⊕ (Int))) (x5 : Int) : Option ((Unit) ⊕ (Int)):=
 let v7:=(decide (x5 < c2))
 bif v7 then
  let v8:=(Kd.nth (.int .i64) c0 (Int.toNat x5))
  gd ((0 : Int) ≤ x5 ∧ x5 < (c0.length : Int)) <|
  bif (c1 == v8) then
   some (.inr x5)
  else
   let v9:=(kwrap .i64 (x5 + 1))
   next v9
 else
  some (.inl ())
def slices_Index_int_int.l0 (K : Nat) (c0 : List Int) (c1 c2 : Int) (n : Nat) : Int → Option ((Unit) ⊕ (Int)):=rounds (slices_Index_int_int.r0 K c0 c1 c2) (fun _=>none) n
def slices_Index_int_int (K : Nat) (p0 : List Int) (p1 : Int) : Option (Int):=
 (slices_Index_int_int.l0 K p0 p1 (p0.length : Int) K 0 : Option ((Unit) ⊕ (Int))).bind fun z=>match z with
 | .inl _=>
  some (-1)
 | .inr r=>
  some r
def slices_Contains_int_int (K : Nat) (p0 : List Int) (p1 : Int) : Option (Bool):=
 (slices_Index_int_int K p0 p1).bind fun r2=>
 let v3:=(decide (r2 ≥ 0))
 some v3
def format_fields (K : Nat) (p0 p1 p2 p3 p4 p5 p6 p7 p8 p9 : Int) : Option (Bool):=
 (format_within K p1 0 3).bind fun r64=>
 (format_within K p2 1 2).bind fun r65=>
 (format_all K [r64,r65]).bind fun r66=>
 bif (p0 == 1) then
  (
   bif r66 then
    let v116:=(bif (p3 == 4) then true else (p3 == 8))
    let v117:=(Int.tmod p4 4)
    bif (v117 == 0) then
     (format_within K p4 4 16).bind fun r119=>
     let v120:=(bif (v117 == 0) then r119 else false)
     (format_within K p5 0 1).bind fun r121=>
     let v122:=(kwrap .i64 (p2 - 1))
     (format_within K p6 0 v122).bind fun r123=>
     let v124:=(kwrap .i64 (16 * p3))
     let v125:=(kwrap .i64 (v124 * p2))
     let v126:=(imin v125 250)
     (format_within K p7 2 v126).bind fun r127=>
     let v128:=(bif (p8 == 0) then (p9 == 0) else false)
     let v129:=[v116,v120,r121,r123,r127,v128]
     (format_all K v129).bind fun r130=>
     let v131:=(bif r66 then r130 else false)
     some v131
    else
     let v132:=(bif (v117 == 0) then false else false)
     (format_within K p5 0 1).bind fun r133=>
     let v134:=(kwrap .i64 (p2 - 1))
     (format_within K p6 0 v134).bind fun r135=>
     let v136:=(kwrap .i64 (16 * p3))
     let v137:=(kwrap .i64 (v136 * p2))
     let v138:=(imin v137 250)
     (format_within K p7 2 v138).bind fun r139=>
     let v140:=(bif (p8 == 0) then (p9 == 0) else false)
     let v141:=[v116,v132,r133,r135,r139,v140]
     (format_all K v141).bind fun r142=>
     let v143:=(bif r66 then r142 else false)
     some v143
   else
    let v144:=(bif r66 then false else false)
    some v144 : Option (Bool)).bind fun x114=>
   some x114
 else
  bif (p0 == 2) then
   (
    bif r66 then
     (lapped_Lengths K ).bind fun r158=>
     (slices_Contains_int_int K r158 p8).bind fun r159=>
     (format_within K p9 20 120).bind fun r160=>
     let v161:=(bif (p3 == 0) then (p4 == 0) else false)
     let v162:=(bif v161 then (p5 == 0) else false)
     let v163:=(bif v162 then (p6 == 0) else false)
     let v164:=(bif v163 then (p7 == 0) else false)
     let v165:=[r159,r160,v164]
     (format_all K v165).bind fun r166=>
     let v167:=(bif r66 then r166 else false)
     some v167
    else
     let v168:=(bif r66 then false else false)
     some v168 : Option (Bool)).bind fun x156=>
    some x156
  else
   some false
def format_bits (_K : Nat) (p0 _p1 p2 p3 p4 _p5 p6 p7 _p8 p9 : Int) : Option (Int):=
 bif (p0 == 2) then
  let v1:=(kwrap .i64 (8 * p9))
  some v1
 else
  let v2:=(kwrap .i64 (p6 * p3))
  let v3:=(kwrap .i64 (32 + v2))
  let v4:=(kwrap .i64 (4 * p3))
  let v5:=(kwrap .i64 (v4 * p2))
  let v6:=(kwrap .i64 (v3 + v5))
  let v7:=(kwrap .i64 (p4 * p7))
  let v8:=(kwrap .i64 (v6 + v7))
  some v8
def format_payload (K : Nat) (p0 p1 p2 p3 p4 p5 p6 p7 p8 p9 : Int) : Option (Int):=
 bif (p0 == 2) then
  let v2:=(kwrap .i64 (p9 * p2))
  some v2
 else
  (format_bits K p0 p1 p2 p3 p4 p5 p6 p7 p8 p9).bind fun r3=>
  let v4:=(kwrap .i64 (r3 + 7))
  let v5:=(kwrap .i64 (Int.tdiv v4 8))
  some v5
def format_Check (K : Nat) (p0 p1 p2 p3 p4 p5 p6 p7 p8 p9 : Int) : Option (Int):=
 (
  (format_fields K p0 p1 p2 p3 p4 p5 p6 p7 p8 p9).bind fun r7=>
  bif (!r7) then
   some true
  else
   (format_payload K p0 p1 p2 p3 p4 p5 p6 p7 p8 p9).bind fun r8=>
   let v9:=(decide (r8 > 512))
   some v9 : Option (Bool)).bind fun x6=>
  bif x6 then
   some 110
  else
   some 0
def subband_may (K : Nat) (p0 p1 p2 p3 p4 p5 p6 p7 p8 p9 : Int) : Option (Int):=
 (format_Check K p0 p1 p2 p3 p4 p5 p6 p7 p8 p9).bind fun r2=>
 let v3:=(bif (r2 != 0) then true else (p0 != 1))
 bif v3 then
  some 110
 else
  some 0
def bank_Bank_may (_K : Nat) (p0 : Bool) (_p1 : List (Option (List Int))) (_p2 _p3 : Int) : Option ((Unit) ⊕ (Unit)):=
 bif (!p0) then
  some (.inl ())
 else
  some (.inr ())
def sync_atomic_Bool_Load (_K : Nat) (_p0 _p1 : List (Option (List Int))) (_p2 _p3 : Int) : Option (Unit):=
 some ()
def wave_modulo (_K : Nat) (p0 p1 : Int) : Option (Int):=
 let v2:=(Int.tmod p0 p1)
 gd (p1 ≠ 0) <|
 let v3:=(decide (v2 < 0))
 (
  bif v3 then
   let v5:=(kwrap .i64 (v2 + p1))
   some v5
  else
   some v2 : Option (Int)).bind fun x4=>
  some x4
def wave_height (K : Nat) (p0 p1 : Int) : Option (Int × Int):=
 (wave_modulo K p0 p1).bind fun r3=>
 let v4:=(kwrap .i64 (4 * r3))
 let v5:=(kwrap .i64 (Int.tdiv v4 p1))
 gd (p1 ≠ 0) <|
 let v6:=(Int.tmod v4 p1)
 gd (p1 ≠ 0) <|
 let v7:=(kand .i64 v5 1)
 (
  bif (v7 == 1) then
   let v11:=(kwrap .i64 (p1 - v6))
   some v11
  else
   some v6 : Option (Int)).bind fun x8=>
  let v9:=(kshl .u64 (kwrap .u64 x8) 30)
  let v10:=(kwrap .u64 (Int.tdiv v9 (kwrap .u64 p1)))
  gd ((kwrap .u64 p1) ≠ 0) <|
  some (v10,v5)
def fix_within_int (_K : Nat) (p0 p1 p2 : Int) : Option (Int):=
 let v1:=(decide (p0 < p1))
 bif v1 then
  some p1
 else
  let v2:=(decide (p0 > p2))
  bif v2 then
   some p2
  else
   some p0
def fix_Round (K : Nat) (p0 p1 : Int) : Option (Int):=
 (fix_within_int K p1 0 62).bind fun r2=>
 bif (r2 == 0) then
  some p0
 else
  let v3:=(kshr .i64 p0 r2)
  gd ((0 : Int) ≤ r2) <|
  let v4:=(kwrap .i64 (r2 - 1))
  let v5:=(kshr .i64 p0 v4)
  gd ((0 : Int) ≤ v4) <|
  let v6:=(kand .i64 v5 1)
  let v7:=(kwrap .i64 (v3 + v6))
  some v7
def fix_within_int64 (_K : Nat) (p0 p1 p2 : Int) : Option (Int):=
 let v1:=(decide (p0 < p1))
 bif v1 then
  some p1
 else
  let v2:=(decide (p0 > p2))
  bif v2 then
   some p2
  else
   some p0
def fix_Clip (K : Nat) (p0 p1 p2 : Int) : Option (Int):=
 (fix_within_int64 K p0 p1 p2).bind fun r2=>
 some r2
def wave_sine.r0 (_K : Nat) (_c0 _c1 c2 : Int) (next : Int → Int → Option (Int)) (x27 x28 : Int) : Option (Int):=
 let v31:=(decide (x28 < 4))
 bif v31 then
  let v32:=(List.getD [5026995,85569306,693598668,1686629713] (Int.toNat x28) 0)
  gd ((0 : Int) ≤ x28 ∧ x28 < 4) <|
  let v33:=(kwrap .u64 (x27 * c2))
  let v34:=(kshr .u64 v33 30)
  let v35:=(kwrap .u64 (v32 - v34))
  let v36:=(kwrap .i64 (x28 + 1))
  next v35 v36
 else
  some x27
def wave_sine.l0 (K : Nat) (c0 c1 c2 : Int) (n : Nat) : Int → Int → Option (Int):=rounds (wave_sine.r0 K c0 c1 c2) (fun _ _=>none) n
def wave_sine (K : Nat) (p0 p1 : Int) : Option (Int):=
 (wave_height K p0 p1).bind fun (r11,r12)=>
 let v13:=(kwrap .u64 (r11 * r11))
 let v14:=(kshr .u64 v13 30)
 (wave_sine.l0 K r11 r12 v14 K 172272 0 : Option (Int)).bind fun x19=>
  let v20:=(kwrap .u64 (x19 * r11))
  let v21:=(kshr .u64 v20 30)
  let v22:=(kwrap .i64 v21)
  (fix_Round K v22 15).bind fun r23=>
  (fix_Clip K r23 0 32767).bind fun r24=>
  let v25:=(decide (r12 ≥ 2))
  (
   bif v25 then
    some ((kwrap .i64 (0 - r24)))
   else
    some r24 : Option (Int)).bind fun x26=>
   some (kwrap .i16 x26)
def wave_Sine (K : Nat) (p0 p1 : Int) : Option (Int × Int):=
 let v2:=(decide (p1 < 1))
 let v3:=(decide (p1 > 1048576))
 let v4:=(bif v2 then true else v3)
 bif v4 then
  some (0,1)
 else
  (wave_sine K p0 p1).bind fun r5=>
  some (r5,0)
def wave_Cosine (K : Nat) (p0 p1 : Int) : Option (Int × Int):=
 let v3:=(decide (p1 < 1))
 let v4:=(decide (p1 > 1048576))
 let v5:=(bif v3 then true else v4)
 bif v5 then
  some (0,1)
 else
  (wave_modulo K p0 p1).bind fun r6=>
  let v7:=(kwrap .i64 (4 * r6))
  let v8:=(kwrap .i64 (v7 + p1))
  let v9:=(kwrap .i64 (4 * p1))
  (wave_sine K v8 v9).bind fun r10=>
  some (r10,0)
def fix_Sat16 (K : Nat) (p0 : Int) : Option (Int):=
 (fix_within_int64 K p0 (-32768) 32767).bind fun r2=>
 some (kwrap .i16 r2)
def bank_filtered (K : Nat) (p0 p1 : Int) : Option (Int):=
 let v11:=(kwrap .i64 (5 * p0))
 let v12:=(kwrap .i64 (p1 - v11))
 (
  bif (v12 != 0) then
   let v32:=(kwrap .i64 (3 * v12))
   let v33:=(kwrap .i64 (10 * p0))
   (wave_Sine K v32 v33).bind fun (r34,_r35)=>
   let v36:=(kwrap .i64 (565 * p0))
   let v37:=(kwrap .i64 ((kwrap .i64 r34) * v36))
   let v38:=(kwrap .i64 (1065 * v12))
   let v39:=(kwrap .i64 (Int.tdiv v37 v38))
   gd (v38 ≠ 0) <|
   some v39
  else
   some 32768 : Option (Int)).bind fun x15=>
  let v16:=(kwrap .i64 (10 * p0))
  (wave_Cosine K p1 v16).bind fun (r17,_r18)=>
  let v19:=(kwrap .i64 (2 * p1))
  (wave_Cosine K v19 v16).bind fun (r20,_r21)=>
  let v22:=(kwrap .i64 (50 * (kwrap .i64 r17)))
  let v23:=(kwrap .i64 (1376256 - v22))
  let v24:=(kwrap .i64 (8 * (kwrap .i64 r20)))
  let v25:=(kwrap .i64 (v23 + v24))
  let v26:=(kwrap .i64 (Int.tdiv v25 100))
  let v27:=(kwrap .i64 (x15 * v26))
  (fix_Round K v27 15).bind fun r28=>
  let v29:=(kwrap .i64 (r28 * 19708))
  (fix_Round K v29 15).bind fun r30=>
  (fix_Sat16 K r30).bind fun r31=>
  some r31
def bank_Bank_Filter_1 (K : Nat) (p0 p1 : Int) : Option (Int):=
 (bank_filtered K p1 p0).bind fun r2=>
 some r2
def sync_atomic_Int64_Add (_K : Nat) (p0 : Int) (p1 : List (Option (List Int))) (_p2 : List Int) (p3 : List (Option (List Int))) (p4 _p5 : Int) : Option (Int):=
 gd (p1.length + p3.length = 387) <|
 some (kwrap .i64 (p4 + p0))
def bank_Bank_tell_1.r0 (K : Nat) (c0 : Int) (_c1 _c2 : List (Option (List Int))) (_c3 _c4 _c5 c6 : Int) (next : Int → List Int → Option ((List Int))) (x25 : Int) (x26 : List Int) : Option ((List Int)):=
 let v31:=(decide (x25 < c0))
 bif v31 then
  (bank_Bank_Filter_1 K x25 c6).bind fun r33=>
  gd ((0 : Int) ≤ x25 ∧ x25 < (x26.length : Int)) <|
  let v34:=(List.set x26 (Int.toNat x25) r33)
  gd ((Int.toNat x25) < x26.length) <|
  let v35:=(kwrap .i64 (x25 + 1))
  next v35 v34
 else
  some x26
def bank_Bank_tell_1.l0 (K : Nat) (c0 : Int) (c1 c2 : List (Option (List Int))) (c3 c4 c5 c6 : Int) (n : Nat) : Int → List Int → Option ((List Int)):=rounds (bank_Bank_tell_1.r0 K c0 c1 c2 c3 c4 c5 c6) (fun _ _=>none) n
def bank_Bank_tell_1 (K : Nat) (p0 p1 : List (Option (List Int))) (p2 p3 p4 p5 : Int) : Option ((List Int) × Int):=
 let v11:=(List.replicate (Int.toNat p4) (0 : Int))
 gd ((0 : Int) ≤ p4 ∧ p4 ≤ p4 ∧ p4 * 2 ≤ 140737488355328) <|
 let v12:=(v11.length : Int)
 (bank_Bank_tell_1.l0 K v12 p0 p1 p2 p3 p4 p5 K 0 v11 : Option ((List Int))).bind fun x21=>
  (sync_atomic_Int64_Add K 1 p0 x21 p1 p2 p3).bind fun r22=>
  some (x21,r22)
def sync_Once_doSlow (K : Nat) (p0 p1 : List (Option (List Int))) (p2 p3 p4 p5 : Int) : Option ((List Int) × Int):=
 bank_Bank_tell_1 K p0 p1 p2 p3 p4 p5
def sync_Once_Do (K : Nat) (p0 p1 : List (Option (List Int))) (p2 p3 p4 p5 : Int) : Option ((List Int) × Int):=
 (sync_atomic_Bool_Load K p0 p1 p2 p3).bind fun _=>
 (sync_Once_doSlow K p0 p1 p2 p3 p4 p5).bind fun (r3,r4)=>
 some (r3,r4)
def sync_atomic_Int64_Add_2 (_K : Nat) (p0 : Int) (p1 : List (Option (List Int))) (_p2 : List Int) (p3 : List (Option (List Int))) (_p4 p5 : Int) : Option (Int):=
 gd (p1.length + p3.length = 387) <|
 some (kwrap .i64 (p5 + p0))
def slices_Clone_int16_int16 (_K : Nat) (p0 : List Int) : Option ((List Int)):=
 gd (p0 ≠ []) <|
 let v1:=(([] : List Int) ++ p0)
 gd (((([] : List Int).length : Int) + (p0.length : Int)) * 2 ≤ 70368744177664) <|
 some v1
def bank_Bank_tell (K : Nat) (t0 t1 : List (Option (List Int))) (p1 p3 p4 p5 : Int) : Option ((List Int) × (List Int) × Int × Int):=
 (sync_Once_Do K t0 t1 p3 p4 p1 p5).bind fun (r5,r6)=>
 (sync_atomic_Int64_Add_2 K 1 t0 r5 t1 r6 p4).bind fun r7=>
 (slices_Clone_int16_int16 K r5).bind fun r8=>
 some (r8,r5,r6,r7)
def sync_atomic_Bool_Load_2 (_K : Nat) (_p0 : List (Option (List Int))) (_p1 : List Int) (_p2 : List (Option (List Int))) (_p3 _p4 : Int) : Option (Unit):=
 some ()
def sync_Once_Do_2 (K : Nat) (p0 : List (Option (List Int))) (p1 : List Int) (p2 : List (Option (List Int))) (p3 p4 _p5 _p6 : Int) : Option (Unit):=
 (sync_atomic_Bool_Load_2 K p0 p1 p2 p3 p4).bind fun _=>
 some ()
def bank_Bank_tell_2 (K : Nat) (t0 t1 : List (Option (List Int))) (l : List Int) (p1 p3 p4 p5 : Int) : Option ((List Int) × Int):=
 (sync_Once_Do_2 K t0 l t1 p3 p4 p1 p5).bind fun _=>
 (sync_atomic_Int64_Add_2 K 1 t0 l t1 p3 p4).bind fun r3=>
 (slices_Clone_int16_int16 K l).bind fun r4=>
 some (r4,r3)
def bank_Bank_tell_3 (K p0 : Nat) (p1 : Int) (p2 : List (Option (List Int))) (p3 p4 p5 : Int) : Option ((List Int) × (List (Option (List Int))) × Int × Int):=
 gd (p2.length = 388 ∧ p0 = p0 / 4 * 4 ∧ p0 / 4 < 388) <|
 match p2[p0 / 4]? with
 | some none=>(bank_Bank_tell K (p2.take (p0 / 4)) (p2.drop ((p0 / 4) + 1)) p1 p3 p4 p5).bind fun (q0',q1',q2',q3')=>some (q0',(p2.take (p0 / 4) ++ some q1' :: p2.drop ((p0 / 4) + 1)),q2',q3')
 | some (some l)=>(bank_Bank_tell_2 K (p2.take (p0 / 4)) (p2.drop ((p0 / 4) + 1)) l p1 p3 p4 p5).bind fun (q0',q1')=>some (q0',p2,p3,q1')
 | none=>none
def bank_Bank_Filter (K : Nat) (p0 : Int) (p1 : List (Option (List Int))) (p2 p3 : Int) : Option ((List Int) × Int × (List (Option (List Int))) × Int × Int):=
 let v5:=(bif (p0 == 4) then true else (p0 == 8))
 (bank_Bank_may K v5 p1 p2 p3).bind fun z=>match z with
 | .inl _=>
  some (([] : List Int),1,p1,p2,p3)
 | .inr _=>
  let v6:=(kwrap .i64 (Int.tdiv p0 8))
  let v7:=(1544 + (Int.toNat v6) * 4)
  gd ((0 : Int) ≤ v6 ∧ v6 < 2) <|
  let v8:=(kwrap .i64 (10 * p0))
  (bank_Bank_tell_3 K v7 v8 p1 p2 p3 p0).bind fun (r9,r10,r11,r12)=>
  some (r9,0,r10,r11,r12)
def bank_Bank_Turn_1 (K : Nat) (p0 p1 : Int) : Option (Int):=
 (wave_Cosine K p0 p1).bind fun (r3,_r4)=>
 some r3
def bank_Bank_tell_1_2.r0 (K : Nat) (c0 : Int) (_c1 _c2 : List (Option (List Int))) (_c3 _c4 _c5 c6 : Int) (next : Int → List Int → Option ((List Int))) (x25 : Int) (x26 : List Int) : Option ((List Int)):=
 let v31:=(decide (x25 < c0))
 bif v31 then
  (bank_Bank_Turn_1 K x25 c6).bind fun r33=>
  gd ((0 : Int) ≤ x25 ∧ x25 < (x26.length : Int)) <|
  let v34:=(List.set x26 (Int.toNat x25) r33)
  gd ((Int.toNat x25) < x26.length) <|
  let v35:=(kwrap .i64 (x25 + 1))
  next v35 v34
 else
  some x26
def bank_Bank_tell_1_2.l0 (K : Nat) (c0 : Int) (c1 c2 : List (Option (List Int))) (c3 c4 c5 c6 : Int) (n : Nat) : Int → List Int → Option ((List Int)):=rounds (bank_Bank_tell_1_2.r0 K c0 c1 c2 c3 c4 c5 c6) (fun _ _=>none) n
def bank_Bank_tell_1_2 (K : Nat) (p0 p1 : List (Option (List Int))) (p2 p3 p4 p5 : Int) : Option ((List Int) × Int):=
 let v11:=(List.replicate (Int.toNat p4) (0 : Int))
 gd ((0 : Int) ≤ p4 ∧ p4 ≤ p4 ∧ p4 * 2 ≤ 140737488355328) <|
 let v12:=(v11.length : Int)
 (bank_Bank_tell_1_2.l0 K v12 p0 p1 p2 p3 p4 p5 K 0 v11 : Option ((List Int))).bind fun x21=>
  (sync_atomic_Int64_Add K 1 p0 x21 p1 p2 p3).bind fun r22=>
  some (x21,r22)
def sync_Once_doSlow_2 (K : Nat) (p0 p1 : List (Option (List Int))) (p2 p3 p4 p5 : Int) : Option ((List Int) × Int):=
 bank_Bank_tell_1_2 K p0 p1 p2 p3 p4 p5
def sync_Once_Do_3 (K : Nat) (p0 p1 : List (Option (List Int))) (p2 p3 p4 p5 : Int) : Option ((List Int) × Int):=
 (sync_atomic_Bool_Load K p0 p1 p2 p3).bind fun _=>
 (sync_Once_doSlow_2 K p0 p1 p2 p3 p4 p5).bind fun (r3,r4)=>
 some (r3,r4)
def bank_Bank_tell_4 (K : Nat) (t0 t1 : List (Option (List Int))) (p1 p3 p4 p5 : Int) : Option ((List Int) × (List Int) × Int × Int):=
 (sync_Once_Do_3 K t0 t1 p3 p4 p1 p5).bind fun (r5,r6)=>
 (sync_atomic_Int64_Add_2 K 1 t0 r5 t1 r6 p4).bind fun r7=>
 (slices_Clone_int16_int16 K r5).bind fun r8=>
 some (r8,r5,r6,r7)
def sync_Once_Do_4 (K : Nat) (p0 : List (Option (List Int))) (p1 : List Int) (p2 : List (Option (List Int))) (p3 p4 _p5 _p6 : Int) : Option (Unit):=
 (sync_atomic_Bool_Load_2 K p0 p1 p2 p3 p4).bind fun _=>
 some ()
def bank_Bank_tell_5 (K : Nat) (t0 t1 : List (Option (List Int))) (l : List Int) (p1 p3 p4 p5 : Int) : Option ((List Int) × Int):=
 (sync_Once_Do_4 K t0 l t1 p3 p4 p1 p5).bind fun _=>
 (sync_atomic_Int64_Add_2 K 1 t0 l t1 p3 p4).bind fun r3=>
 (slices_Clone_int16_int16 K l).bind fun r4=>
 some (r4,r3)
def bank_Bank_tell_6 (K p0 : Nat) (p1 : Int) (p2 : List (Option (List Int))) (p3 p4 p5 : Int) : Option ((List Int) × (List (Option (List Int))) × Int × Int):=
 gd (p2.length = 388 ∧ p0 = p0 / 4 * 4 ∧ p0 / 4 < 388) <|
 match p2[p0 / 4]? with
 | some none=>(bank_Bank_tell_4 K (p2.take (p0 / 4)) (p2.drop ((p0 / 4) + 1)) p1 p3 p4 p5).bind fun (q0',q1',q2',q3')=>some (q0',(p2.take (p0 / 4) ++ some q1' :: p2.drop ((p0 / 4) + 1)),q2',q3')
 | some (some l)=>(bank_Bank_tell_5 K (p2.take (p0 / 4)) (p2.drop ((p0 / 4) + 1)) l p1 p3 p4 p5).bind fun (q0',q1')=>some (q0',p2,p3,q1')
 | none=>none
def bank_Bank_Turn (K : Nat) (p0 : Int) (p1 : List (Option (List Int))) (p2 p3 : Int) : Option ((List Int) × Int × (List (Option (List Int))) × Int × Int):=
 let v5:=(decide (p0 ≥ 4))
 let v6:=(decide (p0 ≤ 1024))
 let v7:=(bif v5 then v6 else false)
 let v8:=(Int.tmod p0 4)
 let v9:=(bif v7 then (v8 == 0) else false)
 (bank_Bank_may K v9 p1 p2 p3).bind fun z=>match z with
 | .inl _=>
  some (([] : List Int),1,p1,p2,p3)
 | .inr _=>
  let v10:=(kwrap .i64 (Int.tdiv p0 4))
  let v11:=(0 + (Int.toNat v10) * 4)
  gd ((0 : Int) ≤ v10 ∧ v10 < 257) <|
  (bank_Bank_tell_6 K v11 p0 p1 p2 p3 p0).bind fun (r12,r13,r14,r15)=>
  some (r12,0,r13,r14,r15)
def poly_tables (K : Nat) (p0 : Int) (p1 : List (Option (List Int))) (p2 p3 : Int) : Option (Int × (List Int) × (List Int) × Int × (List (Option (List Int))) × Int × Int):=
 (bank_Bank_Filter K p0 p1 p2 p3).bind fun (r11,r12,r13,r14,r15)=>
 bif (r12 != 0) then
  some (0,([] : List Int),([] : List Int),r12,r13,r14,r15)
 else
  let v16:=(kwrap .i64 (8 * p0))
  (bank_Bank_Turn K v16 r13 r14 r15).bind fun (r17,r18,r19,r20,r21)=>
  some (p0,r11,r17,r18,r19,r20,r21)
def poly_NewSplitter (K : Nat) (p0 : Int) (p1 : List (Option (List Int))) (p2 p3 : Int) : Option ((Int × (List (Option (List Int))) × Int × Int) ⊕ ((List (Option (List Int))) × Int × Int × Int × (List Int) × (List Int) × (List Int))):=
 (poly_tables K p0 p1 p2 p3).bind fun (r8,r9,r10,r11,r12,r13,r14)=>
 bif (r11 != 0) then
  some (.inl (r11,r12,r13,r14))
 else
  let v15:=(kwrap .i64 (10 * p0))
  let v16:=(List.replicate (Int.toNat v15) (0 : Int))
  gd ((0 : Int) ≤ v15 ∧ v15 ≤ v15 ∧ v15 * 8 ≤ 140737488355328) <|
  some (.inr (r12,r13,r14,r8,r9,r10,v16))
def subband_NewEncoder (K : Nat) (p0 p1 p2 p3 p4 p5 p6 p7 p8 p9 : Int) (p10 : List (Option (List Int))) (p11 p12 : Int) : Option ((Int) ⊕ ((List (Option (List Int))) × Int × Int × Int × (List Int) × (List Int) × (List Int)) ⊕ ((List (Option (List Int))) × Int × Int × Int × (List Int) × (List Int) × Int × (List Int) × (List Int) × (List Int) × (List Int))):=
 (subband_may K p0 p1 p2 p3 p4 p5 p6 p7 p8 p9).bind fun r204=>
 bif (r204 != 0) then
  some (.inl r204)
 else
  bif p2 == 1 then
   (poly_NewSplitter K p3 p10 p11 p12).bind fun z=>match z with
   | .inl (_r352,_r353,_r354,_r355)=>
    none
   | .inr (r356,r357,r358,r359,r360,r361,r362)=>
    some (.inr (.inl (r356,r357,r358,r359,r360,r361,r362)))
  else
   bif p2 == 2 then
    (poly_NewSplitter K p3 p10 p11 p12).bind fun z=>match z with
    | .inl (_r374,_r375,_r376,_r377)=>
     none
    | .inr (r378,r379,r380,r381,r382,r383,r384)=>
     (poly_NewSplitter K p3 r378 r379 r380).bind fun z=>match z with
     | .inl (_r396,_r397,_r398,_r399)=>
      none
     | .inr (r400,r401,r402,r403,r404,r405,r406)=>
      some (.inr (.inr (r400,r401,r402,r381,r382,r383,r403,r404,r405,r384,r406)))
   else
    none
def subband_Encoder_Feed (_K : Nat) (_p0 : List Int) : Option (Unit):=
 some ()
def format_of (K : Nat) (p0 p1 p2 p3 p4 p5 p6 p7 p8 p9 : Int) : Option (Int):=
 (format_Check K p0 p1 p2 p3 p4 p5 p6 p7 p8 p9).bind fun r3=>
 bif (r3 != 0) then
  some 0
 else
  (format_payload K p0 p1 p2 p3 p4 p5 p6 p7 p8 p9).bind fun r4=>
  some r4
def format_Payload (K : Nat) (p0 p1 p2 p3 p4 p5 p6 p7 p8 p9 : Int) : Option (Int):=
 (format_of K p0 p1 p2 p3 p4 p5 p6 p7 p8 p9).bind fun r2=>
 some r2
def bytes_Clone (_K : Nat)  : Option (Unit):=
 some ()
def bits_Open (K : Nat)  : Option (Unit):=
 (bytes_Clone K ).bind fun _=>
 some ()
def bits_ends_left (_K : Nat) (p0 p1 p2 : Int) : Option (Int):=
 let v1:=(kwrap .i64 (8 * p0))
 let v2:=(kwrap .i64 (v1 - p1))
 let v3:=(kwrap .i64 (v2 - p2))
 some v3
def bits_ends_may (K : Nat) (p0 p1 p2 p3 : Int) : Option (Int):=
 let v5:=(decide (p0 < 0))
 let v6:=(decide (p0 > 32))
 let v7:=(bif v5 then true else v6)
 bif v7 then
  some 1
 else
  (bits_ends_left K p1 p2 p3).bind fun r9=>
  let v10:=(decide (p0 > r9))
  bif v10 then
   some 50
  else
   some 0
def bits_ends_ahead (_K : Nat) (p0 _p1 : Int) : Option (Int × Int × Int):=
 let v1:=(kwrap .i64 (p0 + 1))
 let v2:=(kwrap .i64 (Int.tdiv p0 8))
 let v3:=(Int.tmod p0 8)
 let v4:=(kshr .u8 128 v3)
 gd ((0 : Int) ≤ v3) <|
 some (v2,v4,v1)
def bits_Eye_Front.r0 (K : Nat) (c0 c1 c2 : Int) (_next : Option (Unit))  : Option (Unit):=
 let v21:=(decide (0 < c0))
 bif v21 then
  (bits_ends_ahead K c1 c2).bind fun (_r26,_r27,_r28)=>
  none
 else
  some ()
def bits_Eye_Front.l0 (K : Nat) (c0 c1 c2 : Int) (n : Nat) : Option (Unit):=rounds (bits_Eye_Front.r0 K c0 c1 c2) (none) n
def bits_Eye_Front (K : Nat) (p0 p1 p2 : Int) : Option (Int):=
 (bits_ends_may K p0 0 p1 p2).bind fun r8=>
 bif (r8 != 0) then
  some r8
 else
  (bits_Eye_Front.l0 K p0 p1 p2 K  : Option (Unit)).bind fun _=>
   some 0
def subband_take.r0 (K : Nat) (c0 c1 c2 c3 : Int) (next : Int → List Int → Option ((List Int))) (x23 : Int) (x24 : List Int) : Option ((List Int)):=
 let v29:=(decide (x23 < c1))
 bif v29 then
  (bits_Eye_Front K c0 c2 c3).bind fun _r31=>
  let v32:=(List.set x24 (Int.toNat x23) 0)
  gd ((0 : Int) ≤ x23 ∧ x23 < (x24.length : Int) ∧ (Int.toNat x23) < x24.length) <|
  let v33:=(kwrap .i64 (x23 + 1))
  next v33 v32
 else
  some x24
def subband_take.l0 (K : Nat) (c0 c1 c2 c3 : Int) (n : Nat) : Int → List Int → Option ((List Int)):=rounds (subband_take.r0 K c0 c1 c2 c3) (fun _ _=>none) n
def subband_take (K : Nat) (p0 p1 p2 p3 : Int) : Option ((List Int)):=
 let v10:=(List.replicate (Int.toNat p0) (0 : Int))
 gd ((0 : Int) ≤ p0 ∧ p0 ≤ p0 ∧ p0 * 8 ≤ 140737488355328) <|
 let v11:=(v10.length : Int)
 (subband_take.l0 K p1 v11 p2 p3 K 0 v10 : Option ((List Int))).bind fun x20=>
  some x20
def alloc_may.r1 (_K : Nat) (_c0 : List (List Int)) (_c1 _c2 : Int) (c3 : List Int) (c4 _c5 _c6 _c7 _c8 _c9 _c10 _c11 _c12 _c13 _c14 : Int) (next : Int → Option ((Unit) ⊕ (Int))) (x43 : Int) : Option ((Unit) ⊕ (Int)):=
 let v45:=(decide (x43 < c4))
 bif v45 then
  let v46:=(Kd.nth (.int .i64) c3 (Int.toNat x43))
  gd ((0 : Int) ≤ x43 ∧ x43 < (c3.length : Int)) <|
  let v47:=(decide (v46 < 0))
  let v48:=(decide (v46 > 15))
  let v49:=(bif v47 then true else v48)
  bif v49 then
   some (.inr 1)
  else
   let v50:=(kwrap .i64 (x43 + 1))
   next v50
 else
  some (.inl ())
def alloc_may.l1 (K : Nat) (c0 : List (List Int)) (c1 c2 : Int) (c3 : List Int) (c4 c5 c6 c7 c8 c9 c10 c11 c12 c13 c14 : Int) (n : Nat) : Int → Option ((Unit) ⊕ (Int)):=rounds (alloc_may.r1 K c0 c1 c2 c3 c4 c5 c6 c7 c8 c9 c10 c11 c12 c13 c14) (fun _=>none) n
def alloc_may.r0 (K : Nat) (c0 : List (List Int)) (c1 c2 c3 c4 c5 c6 c7 c8 c9 c10 c11 : Int) (next : Int → Option ((Unit) ⊕ (Int))) (x29 : Int) : Option ((Unit) ⊕ (Int)):=
 let v35:=(decide (x29 < c1))
 bif v35 then
  let v38:=(Kd.nth (.slice (.int .i64)) c0 (Int.toNat x29))
  gd ((0 : Int) ≤ x29 ∧ x29 < (c0.length : Int)) <|
  let v39:=(v38.length : Int)
  bif (v39 != c5) then
   some (.inr 1)
  else
   (alloc_may.l1 K c0 c1 x29 v38 v39 c2 c3 c4 c5 c6 c7 c8 c9 c10 c11 K 0 : Option ((Unit) ⊕ (Int))).bind fun z=>match z with
   | .inl _=>
    let v42:=(kwrap .i64 (x29 + 1))
    next v42
   | .inr r=>
    some (.inr r)
 else
  some (.inl ())
def alloc_may.l0 (K : Nat) (c0 : List (List Int)) (c1 c2 c3 c4 c5 c6 c7 c8 c9 c10 c11 : Int) (n : Nat) : Int → Option ((Unit) ⊕ (Int)):=rounds (alloc_may.r0 K c0 c1 c2 c3 c4 c5 c6 c7 c8 c9 c10 c11) (fun _=>none) n
def alloc_may (K : Nat) (p0 p1 p2 p3 p4 p5 p6 p7 p8 p9 : Int) (p10 : List (List Int)) : Option (Int):=
 (format_Check K p0 p1 p2 p3 p4 p5 p6 p7 p8 p9).bind fun r12=>
 let v13:=(bif (r12 != 0) then true else (p0 != 1))
 bif v13 then
  some 110
 else
  let v14:=((p10.length : Int) != p2)
  bif v14 then
   some 1
  else
   (alloc_may.l0 K p10 (p10.length : Int) p0 p1 p2 p3 p4 p5 p6 p7 p8 p9 K 0 : Option ((Unit) ⊕ (Int))).bind fun z=>match z with
   | .inl _=>
    some 0
   | .inr r=>
    some r
def alloc_four (_K : Nat)  : Option (Unit):=
 some ()
def alloc_eight (_K : Nat)  : Option (Unit):=
 some ()
def alloc_offset (K : Nat) (_p0 p1 _p2 p3 _p4 _p5 _p6 _p7 _p8 _p9 p10 : Int) : Option (Int):=
 bif (p3 == 4) then
  (alloc_four K ).bind fun _=>
  let v1:=(List.getD [(-1),0,0,0,(-2),0,0,1,(-2),0,0,1,(-2),0,0,1] ((Int.toNat p1) * 4 + 0) 0)
  let v2:=(List.getD [(-1),0,0,0,(-2),0,0,1,(-2),0,0,1,(-2),0,0,1] ((Int.toNat p1) * 4 + 1) 0)
  let v3:=(List.getD [(-1),0,0,0,(-2),0,0,1,(-2),0,0,1,(-2),0,0,1] ((Int.toNat p1) * 4 + 2) 0)
  let v4:=(List.getD [(-1),0,0,0,(-2),0,0,1,(-2),0,0,1,(-2),0,0,1] ((Int.toNat p1) * 4 + 3) 0)
  gd ((0 : Int) ≤ p1 ∧ p1 < (4 : Int)) <|
  let v5:=(List.getD [v1,v2,v3,v4] (Int.toNat p10) 0)
  gd ((0 : Int) ≤ p10 ∧ p10 < 4) <|
  some v5
 else
  (alloc_eight K ).bind fun _=>
  let v6:=(List.getD [(-2),0,0,0,0,0,0,1,(-3),0,0,0,0,0,1,2,(-4),0,0,0,0,0,1,2,(-4),0,0,0,0,0,1,2] ((Int.toNat p1) * 8 + 0) 0)
  let v7:=(List.getD [(-2),0,0,0,0,0,0,1,(-3),0,0,0,0,0,1,2,(-4),0,0,0,0,0,1,2,(-4),0,0,0,0,0,1,2] ((Int.toNat p1) * 8 + 1) 0)
  let v8:=(List.getD [(-2),0,0,0,0,0,0,1,(-3),0,0,0,0,0,1,2,(-4),0,0,0,0,0,1,2,(-4),0,0,0,0,0,1,2] ((Int.toNat p1) * 8 + 2) 0)
  let v9:=(List.getD [(-2),0,0,0,0,0,0,1,(-3),0,0,0,0,0,1,2,(-4),0,0,0,0,0,1,2,(-4),0,0,0,0,0,1,2] ((Int.toNat p1) * 8 + 3) 0)
  let v10:=(List.getD [(-2),0,0,0,0,0,0,1,(-3),0,0,0,0,0,1,2,(-4),0,0,0,0,0,1,2,(-4),0,0,0,0,0,1,2] ((Int.toNat p1) * 8 + 4) 0)
  let v11:=(List.getD [(-2),0,0,0,0,0,0,1,(-3),0,0,0,0,0,1,2,(-4),0,0,0,0,0,1,2,(-4),0,0,0,0,0,1,2] ((Int.toNat p1) * 8 + 5) 0)
  let v12:=(List.getD [(-2),0,0,0,0,0,0,1,(-3),0,0,0,0,0,1,2,(-4),0,0,0,0,0,1,2,(-4),0,0,0,0,0,1,2] ((Int.toNat p1) * 8 + 6) 0)
  let v13:=(List.getD [(-2),0,0,0,0,0,0,1,(-3),0,0,0,0,0,1,2,(-4),0,0,0,0,0,1,2,(-4),0,0,0,0,0,1,2] ((Int.toNat p1) * 8 + 7) 0)
  gd ((0 : Int) ≤ p1 ∧ p1 < (4 : Int)) <|
  let v14:=(List.getD [v6,v7,v8,v9,v10,v11,v12,v13] (Int.toNat p10) 0)
  gd ((0 : Int) ≤ p10 ∧ p10 < 8) <|
  some v14
def alloc_need (K : Nat) (p0 p1 p2 p3 p4 p5 p6 p7 p8 p9 p10 p11 : Int) : Option (Int):=
 bif (p5 == 1) then
  some p10
 else
  bif (p10 == 0) then
   some (-5)
  else
   (alloc_offset K p0 p1 p2 p3 p4 p5 p6 p7 p8 p9 p11).bind fun r3=>
   let v4:=(kwrap .i64 (p10 - r3))
   let v5:=(decide (v4 > 0))
   (
    bif v5 then
     let v7:=(kwrap .i64 (Int.tdiv v4 2))
     some v7
    else
     some v4 : Option (Int)).bind fun x6=>
    some x6
def alloc_Needs.r1 (K : Nat) (_c0 : List (List Int)) (c1 _c2 : Int) (c3 : List Int) (c4 c5 c6 c7 c8 c9 c10 c11 c12 c13 c14 : Int) (next : Int → List (List Int) → Option ((List (List Int)))) (x151 : Int) (x152 : List (List Int)) : Option ((List (List Int))):=
 let v157:=(decide (x151 < c4))
 bif v157 then
  let v159:=(Kd.nth (.int .i64) c3 (Int.toNat x151))
  gd ((0 : Int) ≤ x151 ∧ x151 < (c3.length : Int)) <|
  gd ((0 : Int) ≤ c1 ∧ c1 < (x152.length : Int)) <|
  let v160:=(List.getD x152 (Int.toNat c1) [])
  gd ((Int.toNat c1) < x152.length) <|
  (alloc_need K c5 c6 c7 c8 c9 c10 c11 c12 c13 c14 v159 x151).bind fun r161=>
  let v162:=(v160 ++ [r161])
  gd (((v160.length : Int) + ([r161].length : Int)) * 8 ≤ 70368744177664) <|
  gd ((0 : Int) ≤ c1 ∧ c1 < (x152.length : Int)) <|
  let v163:=(List.set x152 (Int.toNat c1) v162)
  gd ((Int.toNat c1) < x152.length) <|
  let v164:=(kwrap .i64 (x151 + 1))
  next v164 v163
 else
  some x152
def alloc_Needs.l1 (K : Nat) (c0 : List (List Int)) (c1 c2 : Int) (c3 : List Int) (c4 c5 c6 c7 c8 c9 c10 c11 c12 c13 c14 : Int) (n : Nat) : Int → List (List Int) → Option ((List (List Int))):=rounds (alloc_Needs.r1 K c0 c1 c2 c3 c4 c5 c6 c7 c8 c9 c10 c11 c12 c13 c14) (fun _ _=>none) n
def alloc_Needs.r0 (K : Nat) (c0 : List (List Int)) (c1 c2 c3 c4 c5 c6 c7 c8 c9 c10 c11 : Int) (next : Int → List (List Int) → Option ((List (List Int)))) (x105 : Int) (x106 : List (List Int)) : Option ((List (List Int))):=
 let v127:=(decide (x105 < c1))
 bif v127 then
  let v137:=(Kd.nth (.slice (.int .i64)) c0 (Int.toNat x105))
  let v138:=(v137.length : Int)
  gd ((0 : Int) ≤ x105 ∧ x105 < (c0.length : Int)) <|
  (alloc_Needs.l1 K c0 x105 c1 v137 v138 c2 c3 c4 c5 c6 c7 c8 c9 c10 c11 K 0 x106 : Option ((List (List Int)))).bind fun x147=>
   let v148:=(kwrap .i64 (x105 + 1))
   next v148 x147
 else
  some x106
def alloc_Needs.l0 (K : Nat) (c0 : List (List Int)) (c1 c2 c3 c4 c5 c6 c7 c8 c9 c10 c11 : Int) (n : Nat) : Int → List (List Int) → Option ((List (List Int))):=rounds (alloc_Needs.r0 K c0 c1 c2 c3 c4 c5 c6 c7 c8 c9 c10 c11) (fun _ _=>none) n
def alloc_Needs (K : Nat) (p0 p1 p2 p3 p4 p5 p6 p7 p8 p9 : Int) (p10 : List (List Int)) : Option ((List (List Int)) × Int):=
 (alloc_may K p0 p1 p2 p3 p4 p5 p6 p7 p8 p9 p10).bind fun r43=>
 bif (r43 != 0) then
  some (([] : List (List Int)),r43)
 else
  let v44:=(List.replicate (Int.toNat p2) ([] : List Int))
  gd ((0 : Int) ≤ p2 ∧ p2 ≤ p2 ∧ p2 * 24 ≤ 140737488355328) <|
  let v45:=(v44.length : Int)
  (alloc_Needs.l0 K p10 v45 p0 p1 p2 p3 p4 p5 p6 p7 p8 p9 K 0 v44 : Option ((List (List Int)))).bind fun x86=>
   some (x86,0)
def alloc_sharing_cut_1 (_K : Nat) (p0 : Int) (_p1 : Nat) (p2 : List Int) (_p3 p4 _p5 : Int) (_p6 p7 : List (List Int)) (p8 : Nat) : Option (Int × (List (List Int))):=
 some ((imax p4 p0),(List.set p7 p8 p2))
def alloc_sharing_each.r1 (K : Nat) (c0 _c1 c2 c3 c4 : Int) (c5 : List (List Int)) (next : Int → Int → List (List Int) → Option (Int × (List (List Int)))) (x255 x256 : Int) (x257 : List (List Int)) : Option (Int × (List (List Int))):=
 let v265:=(decide (x255 < c2))
 bif v265 then
  let v268:=(Kd.nth (.slice (.int .i64)) c5 (Int.toNat x255))
  gd ((0 : Int) ≤ x255 ∧ x255 < (c5.length : Int)) <|
  let v269:=(Kd.nth (.int .i64) v268 (Int.toNat c0))
  gd ((0 : Int) ≤ c0 ∧ c0 < (v268.length : Int)) <|
  gd ((0 : Int) ≤ x255 ∧ x255 < (x257.length : Int)) <|
  let v270:=(List.getD x257 (Int.toNat x255) [])
  gd ((Int.toNat x255) < x257.length) <|
  gd ((0 : Int) ≤ c0 ∧ c0 < (v270.length : Int)) <|
  (alloc_sharing_cut_1 K v269 (Int.toNat c0) v270 c3 x256 c4 c5 x257 (Int.toNat x255)).bind fun (r271,r272)=>
  let v273:=(kwrap .i64 (x255 + 1))
  next v273 r271 r272
 else
  some (x256,x257)
def alloc_sharing_each.l1 (K : Nat) (c0 c1 c2 c3 c4 : Int) (c5 : List (List Int)) (n : Nat) : Int → Int → List (List Int) → Option (Int × (List (List Int))):=rounds (alloc_sharing_each.r1 K c0 c1 c2 c3 c4 c5) (fun _ _ _=>none) n
def alloc_sharing_each.r0 (K : Nat) (c0 c1 c2 : Int) (c3 : List (List Int)) (next : Int → Int → List (List Int) → Option (Int × (List (List Int)))) (x179 x180 : Int) (x181 : List (List Int)) : Option (Int × (List (List Int))):=
 let v217:=(decide (x179 < c0))
 bif v217 then
  (alloc_sharing_each.l1 K x179 c0 (c3.length : Int) c1 c2 c3 K 0 x180 x181 : Option (Int × (List (List Int)))).bind fun (x248,x249)=>
   let v250:=(kwrap .i64 (x179 + 1))
   next v250 x248 x249
 else
  some (x180,x181)
def alloc_sharing_each.l0 (K : Nat) (c0 c1 c2 : Int) (c3 : List (List Int)) (n : Nat) : Int → Int → List (List Int) → Option (Int × (List (List Int))):=rounds (alloc_sharing_each.r0 K c0 c1 c2 c3) (fun _ _ _=>none) n
def alloc_sharing_each (K : Nat) (p0 p1 p2 : Int) (p3 p4 : List (List Int)) : Option (Int × (List (List Int))):=
 let v73:=(Kd.nth (.slice (.int .i64)) p3 0)
 let v74:=(v73.length : Int)
 gd (0 < (p3.length : Int)) <|
 (alloc_sharing_each.l0 K v74 p0 p2 p3 K 0 p1 p4 : Option (Int × (List (List Int)))).bind fun (x145,x146)=>
  some (x145,x146)
def alloc_sharing_costs_1 (_K : Nat) (p0 : Int) (_p1 : Nat) (p2 : List Int) (p3 _p4 p5 _p6 : Int) (_p7 p8 : List (List Int)) (p9 : Nat) : Option (Int × (List (List Int))):=
 let v3:=(kwrap .i64 (p0 - p5))
 (
  bif (v3 == 1) then
   let v6:=(kwrap .i64 (p3 + 2))
   some ((v6,(List.set p8 p9 p2)))
  else
   let v7:=(decide (v3 > 1))
   let v8:=(decide (v3 < 16))
   let v9:=(bif v7 then v8 else false)
   bif v9 then
    let v10:=(kwrap .i64 (p3 + 1))
    some ((v10,(List.set p8 p9 p2)))
   else
    some ((p3,(List.set p8 p9 p2))) : Option (Int × (List (List Int)))).bind fun (x4,x5)=>
  some (x4,x5)
def alloc_sharing_each_2.r1 (K : Nat) (c0 _c1 c2 c3 c4 c5 : Int) (c6 : List (List Int)) (next : Int → Int → List (List Int) → Option (Int × (List (List Int)))) (x255 x256 : Int) (x257 : List (List Int)) : Option (Int × (List (List Int))):=
 let v265:=(decide (x255 < c2))
 bif v265 then
  let v268:=(Kd.nth (.slice (.int .i64)) c6 (Int.toNat x255))
  gd ((0 : Int) ≤ x255 ∧ x255 < (c6.length : Int)) <|
  let v269:=(Kd.nth (.int .i64) v268 (Int.toNat c0))
  gd ((0 : Int) ≤ c0 ∧ c0 < (v268.length : Int)) <|
  gd ((0 : Int) ≤ x255 ∧ x255 < (x257.length : Int)) <|
  let v270:=(List.getD x257 (Int.toNat x255) [])
  gd ((Int.toNat x255) < x257.length) <|
  gd ((0 : Int) ≤ c0 ∧ c0 < (v270.length : Int)) <|
  (alloc_sharing_costs_1 K v269 (Int.toNat c0) v270 x256 c3 c4 c5 c6 x257 (Int.toNat x255)).bind fun (r271,r272)=>
  let v273:=(kwrap .i64 (x255 + 1))
  next v273 r271 r272
 else
  some (x256,x257)
def alloc_sharing_each_2.l1 (K : Nat) (c0 c1 c2 c3 c4 c5 : Int) (c6 : List (List Int)) (n : Nat) : Int → Int → List (List Int) → Option (Int × (List (List Int))):=rounds (alloc_sharing_each_2.r1 K c0 c1 c2 c3 c4 c5 c6) (fun _ _ _=>none) n
def alloc_sharing_each_2.r0 (K : Nat) (c0 c1 c2 c3 : Int) (c4 : List (List Int)) (next : Int → Int → List (List Int) → Option (Int × (List (List Int)))) (x179 x180 : Int) (x181 : List (List Int)) : Option (Int × (List (List Int))):=
 let v217:=(decide (x179 < c0))
 bif v217 then
  (alloc_sharing_each_2.l1 K x179 c0 (c4.length : Int) c1 c2 c3 c4 K 0 x180 x181 : Option (Int × (List (List Int)))).bind fun (x248,x249)=>
   let v250:=(kwrap .i64 (x179 + 1))
   next v250 x248 x249
 else
  some (x180,x181)
def alloc_sharing_each_2.l0 (K : Nat) (c0 c1 c2 c3 : Int) (c4 : List (List Int)) (n : Nat) : Int → Int → List (List Int) → Option (Int × (List (List Int))):=rounds (alloc_sharing_each_2.r0 K c0 c1 c2 c3 c4) (fun _ _ _=>none) n
def alloc_sharing_each_2 (K : Nat) (p0 p1 p2 : Int) (p3 : List (List Int)) (p4 : Int) (p5 : List (List Int)) : Option (Int × (List (List Int))):=
 let v73:=(Kd.nth (.slice (.int .i64)) p3 0)
 let v74:=(v73.length : Int)
 gd (0 < (p3.length : Int)) <|
 (alloc_sharing_each_2.l0 K v74 p0 p1 p2 p3 K 0 p4 p5 : Option (Int × (List (List Int)))).bind fun (x145,x146)=>
  some (x145,x146)
def alloc_sharing_costs (K : Nat) (p0 p1 p2 : Int) (p3 p4 : List (List Int)) : Option (Int × (List (List Int))):=
 (alloc_sharing_each_2 K p0 p1 p2 p3 0 p4).bind fun (r3,r4)=>
 some (r3,r4)
def alloc_sharing_cut.r0 (K : Nat) (c0 : Int) (c1 : List (List Int)) (next : Int → Int → Int → List (List Int) → Option (Int × Int × Int × (List (List Int)))) (x45 x46 x47 : Int) (x48 : List (List Int)) : Option (Int × Int × Int × (List (List Int))):=
 let v55:=(kwrap .i64 (x47 + x45))
 let v56:=(decide (v55 < c0))
 bif v56 then
  let v57:=(kwrap .i64 (x46 - 1))
  (alloc_sharing_costs K c0 v57 v55 c1 x48).bind fun (r58,r59)=>
  next r58 v57 v55 r59
 else
  some (x45,x46,x47,x48)
def alloc_sharing_cut.l0 (K : Nat) (c0 : Int) (c1 : List (List Int)) (n : Nat) : Int → Int → Int → List (List Int) → Option (Int × Int × Int × (List (List Int))):=rounds (alloc_sharing_cut.r0 K c0 c1) (fun _ _ _ _=>none) n
def alloc_sharing_cut (K : Nat) (p0 p1 p2 : Int) (p3 p4 : List (List Int)) : Option (Int × Int × (List (List Int))):=
 (alloc_sharing_each K p0 p1 p2 p3 p4).bind fun (r21,r22)=>
 (alloc_sharing_costs K p0 r21 p2 p3 r22).bind fun (r23,r24)=>
 (alloc_sharing_cut.l0 K p0 p3 K r23 r21 p2 r24 : Option (Int × Int × Int × (List (List Int)))).bind fun (x37,x38,x39,x40)=>
  let v41:=(kwrap .i64 (x39 + x37))
  bif (v41 == p0) then
   let v42:=(kwrap .i64 (x38 - 1))
   some (v42,v41,x40)
  else
   some (x38,x39,x40)
def alloc_Share_1 (_K : Nat) (p0 : Int) (p1 : Nat) (p2 : List Int) (_p3 p4 _p5 : Int) (_p6 p7 : List (List Int)) (p8 : Nat) : Option ((List (List Int))):=
 let v2:=(kwrap .i64 (p4 + 2))
 let v3:=(decide (p0 ≥ v2))
 (
  bif v3 then
   let v5:=(kwrap .i64 (p0 - p4))
   let v6:=(List.set p2 p1 (imin v5 16))
   gd (p1 < p2.length) <|
   some (List.set p7 p8 v6)
  else
   some (List.set p7 p8 p2) : Option ((List (List Int)))).bind fun x4=>
  some x4
def alloc_sharing_each_3.r1 (K : Nat) (c0 _c1 c2 c3 c4 c5 : Int) (c6 : List (List Int)) (next : Int → List (List Int) → Option ((List (List Int)))) (x147 : Int) (x148 : List (List Int)) : Option ((List (List Int))):=
 let v153:=(decide (x147 < c2))
 bif v153 then
  let v155:=(Kd.nth (.slice (.int .i64)) c6 (Int.toNat x147))
  gd ((0 : Int) ≤ x147 ∧ x147 < (c6.length : Int)) <|
  let v156:=(Kd.nth (.int .i64) v155 (Int.toNat c0))
  gd ((0 : Int) ≤ c0 ∧ c0 < (v155.length : Int)) <|
  gd ((0 : Int) ≤ x147 ∧ x147 < (x148.length : Int)) <|
  let v157:=(List.getD x148 (Int.toNat x147) [])
  gd ((Int.toNat x147) < x148.length) <|
  gd ((0 : Int) ≤ c0 ∧ c0 < (v157.length : Int)) <|
  (alloc_Share_1 K v156 (Int.toNat c0) v157 c3 c4 c5 c6 x148 (Int.toNat x147)).bind fun r158=>
  let v159:=(kwrap .i64 (x147 + 1))
  next v159 r158
 else
  some x148
def alloc_sharing_each_3.l1 (K : Nat) (c0 c1 c2 c3 c4 c5 : Int) (c6 : List (List Int)) (n : Nat) : Int → List (List Int) → Option ((List (List Int))):=rounds (alloc_sharing_each_3.r1 K c0 c1 c2 c3 c4 c5 c6) (fun _ _=>none) n
def alloc_sharing_each_3.r0 (K : Nat) (c0 c1 c2 c3 : Int) (c4 : List (List Int)) (next : Int → List (List Int) → Option ((List (List Int)))) (x103 : Int) (x104 : List (List Int)) : Option ((List (List Int))):=
 let v125:=(decide (x103 < c0))
 bif v125 then
  (alloc_sharing_each_3.l1 K x103 c0 (c4.length : Int) c1 c2 c3 c4 K 0 x104 : Option ((List (List Int)))).bind fun x143=>
   let v144:=(kwrap .i64 (x103 + 1))
   next v144 x143
 else
  some x104
def alloc_sharing_each_3.l0 (K : Nat) (c0 c1 c2 c3 : Int) (c4 : List (List Int)) (n : Nat) : Int → List (List Int) → Option ((List (List Int))):=rounds (alloc_sharing_each_3.r0 K c0 c1 c2 c3 c4) (fun _ _=>none) n
def alloc_sharing_each_3 (K : Nat) (p0 p1 p2 : Int) (p3 p4 : List (List Int)) : Option ((List (List Int))):=
 let v42:=(Kd.nth (.slice (.int .i64)) p3 0)
 let v43:=(v42.length : Int)
 gd (0 < (p3.length : Int)) <|
 (alloc_sharing_each_3.l0 K v43 p0 p1 p2 p3 K 0 p4 : Option ((List (List Int)))).bind fun x84=>
  some x84
def alloc_sharing_more_1 (_K : Nat) (p0 : Int) (p1 : Nat) (p2 : List Int) (p3 : Bool) (p4 p5 p6 : Int) (_p7 p8 : List (List Int)) (p9 : Nat) : Option (Bool × Int × (List (List Int))):=
 (
  let v5:=(decide (p6 ≥ p4))
  bif v5 then
   some (.inr (false,p6,(List.set p8 p9 p2)))
  else
   let v6:=(Kd.nth (.int .i64) p2 p1)
   let v7:=(decide (v6 ≥ 2))
   let v8:=(decide (v6 < 16))
   let v9:=(bif v7 then v8 else false)
   gd (p1 < p2.length ∧ (v7 = true → p1 < p2.length)) <|
   bif v9 then
    let v10:=(kwrap .i64 (v6 + 1))
    let v11:=(List.set p2 p1 v10)
    gd (p1 < p2.length ∧ p1 < p2.length) <|
    let v12:=(kwrap .i64 (p6 + 1))
    some (.inl (v12,(List.set p8 p9 v11)))
   else
    let v13:=(kwrap .i64 (p5 + 1))
    let v14:=(bif p3 then (p0 == v13) else false)
    let v15:=(kwrap .i64 (p6 + 1))
    let v16:=(decide (p4 > v15))
    let v17:=(bif v14 then v16 else false)
    bif v17 then
     let v18:=(List.set p2 p1 2)
     gd (p1 < p2.length) <|
     let v19:=(kwrap .i64 (p6 + 2))
     some (.inl (v19,(List.set p8 p9 v18)))
    else
     some (.inl (p6,(List.set p8 p9 p2))) : Option ((Int × (List (List Int))) ⊕ (Bool × Int × (List (List Int))))).bind fun z=>match z with
 | .inl (x3,x4)=>
  some (true,x3,x4)
 | .inr r=>
  some r
def alloc_sharing_each_4.r1 (K : Nat) (c0 _c1 c2 c3 c4 : Int) (c5 : List (List Int)) (c6 : Bool) (next : Int → Int → List (List Int) → Option ((Int × (List (List Int))) ⊕ (Int × (List (List Int))))) (x313 x314 : Int) (x315 : List (List Int)) : Option ((Int × (List (List Int))) ⊕ (Int × (List (List Int)))):=
 let v325:=(decide (x313 < c2))
 bif v325 then
  let v329:=(Kd.nth (.slice (.int .i64)) c5 (Int.toNat x313))
  gd ((0 : Int) ≤ x313 ∧ x313 < (c5.length : Int)) <|
  let v330:=(Kd.nth (.int .i64) v329 (Int.toNat c0))
  gd ((0 : Int) ≤ c0 ∧ c0 < (v329.length : Int)) <|
  gd ((0 : Int) ≤ x313 ∧ x313 < (x315.length : Int)) <|
  let v331:=(List.getD x315 (Int.toNat x313) [])
  gd ((Int.toNat x313) < x315.length) <|
  gd ((0 : Int) ≤ c0 ∧ c0 < (v331.length : Int)) <|
  (alloc_sharing_more_1 K v330 (Int.toNat c0) v331 c6 c3 c4 x314 c5 x315 (Int.toNat x313)).bind fun (r332,r333,r334)=>
  bif (!r332) then
   some (.inr (r333,r334))
  else
   let v335:=(kwrap .i64 (x313 + 1))
   next v335 r333 r334
 else
  some (.inl (x314,x315))
def alloc_sharing_each_4.l1 (K : Nat) (c0 c1 c2 c3 c4 : Int) (c5 : List (List Int)) (c6 : Bool) (n : Nat) : Int → Int → List (List Int) → Option ((Int × (List (List Int))) ⊕ (Int × (List (List Int)))):=rounds (alloc_sharing_each_4.r1 K c0 c1 c2 c3 c4 c5 c6) (fun _ _ _=>none) n
def alloc_sharing_each_4.r0 (K : Nat) (c0 c1 c2 : Int) (c3 : List (List Int)) (c4 : Bool) (next : Int → Int → List (List Int) → Option ((Int × (List (List Int))) ⊕ (Int × (List (List Int))))) (x219 x220 : Int) (x221 : List (List Int)) : Option ((Int × (List (List Int))) ⊕ (Int × (List (List Int)))):=
 let v265:=(decide (x219 < c0))
 bif v265 then
  (alloc_sharing_each_4.l1 K x219 c0 (c3.length : Int) c1 c2 c3 c4 K 0 x220 x221 : Option ((Int × (List (List Int))) ⊕ (Int × (List (List Int))))).bind fun z=>match z with
  | .inl (x304,x305)=>
   let v306:=(kwrap .i64 (x219 + 1))
   next v306 x304 x305
  | .inr r=>
   some (.inr r)
 else
  some (.inl (x220,x221))
def alloc_sharing_each_4.l0 (K : Nat) (c0 c1 c2 : Int) (c3 : List (List Int)) (c4 : Bool) (n : Nat) : Int → Int → List (List Int) → Option ((Int × (List (List Int))) ⊕ (Int × (List (List Int)))):=rounds (alloc_sharing_each_4.r0 K c0 c1 c2 c3 c4) (fun _ _ _=>none) n
def alloc_sharing_each_4 (K : Nat) (p0 p1 p2 : Int) (p3 : List (List Int)) (p4 : Bool) (p5 : List (List Int)) : Option (Int × (List (List Int))):=
 let v89:=(Kd.nth (.slice (.int .i64)) p3 0)
 let v90:=(v89.length : Int)
 gd (0 < (p3.length : Int)) <|
 (alloc_sharing_each_4.l0 K v90 p0 p1 p3 p4 K 0 p2 p5 : Option ((Int × (List (List Int))) ⊕ (Int × (List (List Int))))).bind fun z=>match z with
 | .inl (x177,x178)=>
  some (x177,x178)
 | .inr r=>
  some r
def alloc_sharing_more (K : Nat) (p0 : Bool) (p1 p2 p3 : Int) (p4 p5 : List (List Int)) : Option (Int × (List (List Int))):=
 (alloc_sharing_each_4 K p1 p2 p3 p4 p0 p5).bind fun (r3,r4)=>
 some (r3,r4)
def alloc_Share.r0 (_K : Nat) (c0 _c1 _c2 _c3 c4 _c5 _c6 _c7 _c8 _c9 _c10 : Int) (_c11 : List (List Int)) (next : Int → List (List Int) → Option ((List (List Int)))) (x33 : Int) (x34 : List (List Int)) : Option ((List (List Int))):=
 let v37:=(decide (x33 < c0))
 bif v37 then
  let v38:=(List.replicate (Int.toNat c4) (0 : Int))
  gd ((0 : Int) ≤ c4 ∧ c4 ≤ c4 ∧ c4 * 8 ≤ 140737488355328) <|
  gd ((0 : Int) ≤ x33 ∧ x33 < (x34.length : Int)) <|
  let v39:=(List.set x34 (Int.toNat x33) v38)
  gd ((Int.toNat x33) < x34.length) <|
  let v40:=(kwrap .i64 (x33 + 1))
  next v40 v39
 else
  some x34
def alloc_Share.l0 (K : Nat) (c0 c1 c2 c3 c4 c5 c6 c7 c8 c9 c10 : Int) (c11 : List (List Int)) (n : Nat) : Int → List (List Int) → Option ((List (List Int))):=rounds (alloc_Share.r0 K c0 c1 c2 c3 c4 c5 c6 c7 c8 c9 c10 c11) (fun _ _=>none) n
def alloc_Share (K : Nat) (p0 p1 p2 p3 p4 p5 p6 p7 p8 p9 : Int) (p10 : List (List Int)) : Option ((List (List Int)) × Int):=
 (alloc_Needs K p0 p1 p2 p3 p4 p5 p6 p7 p8 p9 p10).bind fun (r16,r17)=>
 bif (r17 != 0) then
  some (([] : List (List Int)),r17)
 else
  let v18:=(List.replicate (Int.toNat p2) ([] : List Int))
  gd ((0 : Int) ≤ p2 ∧ p2 ≤ p2 ∧ p2 * 24 ≤ 140737488355328) <|
  let v19:=(v18.length : Int)
  (alloc_Share.l0 K v19 p0 p1 p2 p3 p4 p5 p6 p7 p8 p9 r16 K 0 v18 : Option ((List (List Int)))).bind fun x24=>
   (alloc_sharing_cut K p7 (-99) 0 r16 x24).bind fun (r25,r26,r27)=>
   (alloc_sharing_each_3 K p7 r25 r26 r16 r27).bind fun r28=>
   (alloc_sharing_more K true p7 r25 r26 r16 r28).bind fun (r29,r30)=>
   (alloc_sharing_more K false p7 r25 r29 r16 r30).bind fun (_r31,r32)=>
   some (r32,0)
def subband_Params_share_2 (_K : Nat) (p0 _p1 _p2 _p3 _p4 _p5 _p6 p7 _p8 _p9 _p10 : Int) : Option (Bool):=
 let v1:=(bif (p7 == 1) then (p0 == 1) else false)
 let v2:=(bif (p0 == 0) then true else v1)
 some v2
def subband_shaped_int_1 (K : Nat) (p0 p1 p2 p3 p4 p5 p6 p7 p8 p9 p10 : Int) : Option (Bool):=
 (subband_Params_share_2 K p0 p1 p2 p3 p4 p5 p6 p7 p8 p9 p10).bind fun r2=>
 some (!r2)
def slices_IndexFunc_int_int.r0 (K : Nat) (c0 : List Int) (c1 c2 c3 c4 c5 c6 c7 c8 c9 c10 c11 : Int) (next : Int → Option ((Unit) ⊕ (Int))) (x15 : Int) : Option ((Unit) ⊕ (Int)):=
 let v19:=(decide (x15 < c1))
 bif v19 then
  let v21:=(Kd.nth (.int .i64) c0 (Int.toNat x15))
  gd ((0 : Int) ≤ x15 ∧ x15 < (c0.length : Int)) <|
  (subband_shaped_int_1 K v21 c2 c3 c4 c5 c6 c7 c8 c9 c10 c11).bind fun r22=>
  bif r22 then
   some (.inr x15)
  else
   let v23:=(kwrap .i64 (x15 + 1))
   next v23
 else
  some (.inl ())
def slices_IndexFunc_int_int.l0 (K : Nat) (c0 : List Int) (c1 c2 c3 c4 c5 c6 c7 c8 c9 c10 c11 : Int) (n : Nat) : Int → Option ((Unit) ⊕ (Int)):=rounds (slices_IndexFunc_int_int.r0 K c0 c1 c2 c3 c4 c5 c6 c7 c8 c9 c10 c11) (fun _=>none) n
def slices_IndexFunc_int_int (K : Nat) (p0 : List Int) (p1 p2 p3 p4 p5 p6 p7 p8 p9 p10 : Int) : Option (Int):=
 (slices_IndexFunc_int_int.l0 K p0 (p0.length : Int) p1 p2 p3 p4 p5 p6 p7 p8 p9 p10 K 0 : Option ((Unit) ⊕ (Int))).bind fun z=>match z with
 | .inl _=>
  some (-1)
 | .inr r=>
  some r
def slices_ContainsFunc_int_int (K : Nat) (p0 : List Int) (p1 p2 p3 p4 p5 p6 p7 p8 p9 p10 : Int) : Option (Bool):=
 (slices_IndexFunc_int_int K p0 p1 p2 p3 p4 p5 p6 p7 p8 p9 p10).bind fun r2=>
 let v3:=(decide (r2 ≥ 0))
 some v3
def subband_shaped_int (K : Nat) (p0 : List Int) (p1 p2 p3 p4 p5 p6 p7 p8 p9 p10 p11 : Int) : Option (Bool):=
 (
  let v5:=((p0.length : Int) == p1)
  bif v5 then
   (slices_ContainsFunc_int_int K p0 p2 p3 p4 p5 p6 p7 p8 p9 p10 p11).bind fun r6=>
   some (!r6)
  else
   some false : Option (Bool)).bind fun x4=>
  some x4
def subband_Params_share_1 (_K : Nat) (p0 : Int) : Option (Bool):=
 some (p0 == 0)
def subband_Params_share_3 (_K : Nat) (p0 : List (List Int)) (_p1 _p2 p3 _p4 _p5 _p6 _p7 _p8 _p9 _p10 : Int) : Option (Bool):=
 let v1:=((p0.length : Int) == p3)
 some v1
def subband_shaped_int_1_2 (K : Nat) (p0 : List (List Int)) (p1 p2 p3 p4 p5 p6 p7 p8 p9 p10 : Int) : Option (Bool):=
 (subband_Params_share_3 K p0 p1 p2 p3 p4 p5 p6 p7 p8 p9 p10).bind fun r2=>
 some (!r2)
def slices_IndexFunc_int_int_2.r0 (K : Nat) (c0 : List (List (List Int))) (c1 c2 c3 c4 c5 c6 c7 c8 c9 c10 c11 : Int) (next : Int → Option ((Unit) ⊕ (Int))) (x15 : Int) : Option ((Unit) ⊕ (Int)):=
 let v19:=(decide (x15 < c1))
 bif v19 then
  let v21:=(Kd.nth (.slice (.slice (.int .i64))) c0 (Int.toNat x15))
  gd ((0 : Int) ≤ x15 ∧ x15 < (c0.length : Int)) <|
  (subband_shaped_int_1_2 K v21 c2 c3 c4 c5 c6 c7 c8 c9 c10 c11).bind fun r22=>
  bif r22 then
   some (.inr x15)
  else
   let v23:=(kwrap .i64 (x15 + 1))
   next v23
 else
  some (.inl ())
def slices_IndexFunc_int_int_2.l0 (K : Nat) (c0 : List (List (List Int))) (c1 c2 c3 c4 c5 c6 c7 c8 c9 c10 c11 : Int) (n : Nat) : Int → Option ((Unit) ⊕ (Int)):=rounds (slices_IndexFunc_int_int_2.r0 K c0 c1 c2 c3 c4 c5 c6 c7 c8 c9 c10 c11) (fun _=>none) n
def slices_IndexFunc_int_int_2 (K : Nat) (p0 : List (List (List Int))) (p1 p2 p3 p4 p5 p6 p7 p8 p9 p10 : Int) : Option (Int):=
 (slices_IndexFunc_int_int_2.l0 K p0 (p0.length : Int) p1 p2 p3 p4 p5 p6 p7 p8 p9 p10 K 0 : Option ((Unit) ⊕ (Int))).bind fun z=>match z with
 | .inl _=>
  some (-1)
 | .inr r=>
  some r
def slices_ContainsFunc_int_int_2 (K : Nat) (p0 : List (List (List Int))) (p1 p2 p3 p4 p5 p6 p7 p8 p9 p10 : Int) : Option (Bool):=
 (slices_IndexFunc_int_int_2 K p0 p1 p2 p3 p4 p5 p6 p7 p8 p9 p10).bind fun r2=>
 let v3:=(decide (r2 ≥ 0))
 some v3
def subband_shaped_int_2 (K : Nat) (p0 : List (List (List Int))) (p1 p2 p3 p4 p5 p6 p7 p8 p9 p10 p11 : Int) : Option (Bool):=
 (
  let v5:=((p0.length : Int) == p1)
  bif v5 then
   (slices_ContainsFunc_int_int_2 K p0 p2 p3 p4 p5 p6 p7 p8 p9 p10 p11).bind fun r6=>
   some (!r6)
  else
   some false : Option (Bool)).bind fun x4=>
  some x4
def quant_may (_K : Nat) (p0 p1 : Int) : Option (Bool):=
 let v1:=(decide (p0 ≥ 0))
 let v2:=(decide (p0 ≤ 15))
 let v3:=(bif v1 then v2 else false)
 let v4:=(decide (p1 ≥ 2))
 let v5:=(decide (p1 ≤ 16))
 let v6:=(bif v4 then v5 else false)
 let v7:=(bif (p1 == 0) then true else v6)
 let v8:=(bif v3 then v7 else false)
 some v8
def quant_Level (K : Nat) (p0 p1 p2 : Int) : Option (Int × Int):=
 (quant_may K p1 p2).bind fun r7=>
 (
  bif (!r7) then
   some (!r7)
  else
   let v18:=(decide (p0 < 0))
   bif v18 then
    some v18
   else
    let v19:=(bif (p2 == 0) then (p0 != 0) else false)
    bif v19 then
     some v19
    else
     let v20:=(decide (p2 > 0))
     let v21:=(kshl .i64 1 p2)
     let v22:=(kwrap .i64 (v21 - 1))
     let v23:=(decide (p0 ≥ v22))
     let v24:=(bif v20 then v23 else false)
     gd ((v20 = true → (0 : Int) ≤ p2)) <|
     some v24 : Option (Bool)).bind fun x8=>
  bif x8 then
   some (0,1)
  else
   bif (p2 == 0) then
    some (0,0)
   else
    let v9:=(kshl .i64 2 p1)
    gd ((0 : Int) ≤ p1) <|
    let v10:=(kshl .i64 1 p2)
    gd ((0 : Int) ≤ p2) <|
    let v11:=(kwrap .i64 (v10 - 1))
    let v12:=(kwrap .i64 (2 * p0))
    let v13:=(kwrap .i64 (v12 + 1))
    let v14:=(kwrap .i64 (v13 * v9))
    let v15:=(kwrap .i64 (Int.tdiv v14 v11))
    let v16:=(kwrap .i64 (v15 - v9))
    let v17:=(kwrap .i32 v16)
    gd (v11 ≠ 0) <|
    some (v17,0)
def subband_Params_share.r2 (K : Nat) (c0 c1 : List (List Int)) (c2 : Int) (_c3 : List (List (List Int))) (_c4 _c5 : Int) (_c6 : List Int) (c7 : List (List Int)) (_c8 _c9 _c10 c11 _c12 _c13 _c14 _c15 _c16 _c17 : Int) (next : Bool → Int → Option (Bool)) (x921 : Bool) (x922 : Int) : Option (Bool):=
 let v929:=(decide (x922 < c11))
 let v930:=(bif x921 then v929 else false)
 bif v930 then
  let v933:=(Kd.nth (.slice (.int .i64)) c1 (Int.toNat c2))
  gd ((0 : Int) ≤ c2 ∧ c2 < (c1.length : Int)) <|
  let v934:=(Kd.nth (.int .i64) v933 (Int.toNat x922))
  gd ((0 : Int) ≤ x922 ∧ x922 < (v933.length : Int)) <|
  let v935:=(Kd.nth (.slice (.int .i64)) c7 (Int.toNat c2))
  gd ((0 : Int) ≤ c2 ∧ c2 < (c7.length : Int)) <|
  let v936:=(Kd.nth (.int .i64) v935 (Int.toNat x922))
  gd ((0 : Int) ≤ x922 ∧ x922 < (v935.length : Int)) <|
  let v937:=(Kd.nth (.slice (.int .i64)) c0 (Int.toNat c2))
  gd ((0 : Int) ≤ c2 ∧ c2 < (c0.length : Int)) <|
  let v938:=(Kd.nth (.int .i64) v937 (Int.toNat x922))
  gd ((0 : Int) ≤ x922 ∧ x922 < (v937.length : Int)) <|
  (quant_Level K v934 v936 v938).bind fun (_r939,r940)=>
  let v941:=(kwrap .i64 (x922 + 1))
  next (r940 == 0) v941
 else
  some x921
def subband_Params_share.l2 (K : Nat) (c0 c1 : List (List Int)) (c2 : Int) (c3 : List (List (List Int))) (c4 c5 : Int) (c6 : List Int) (c7 : List (List Int)) (c8 c9 c10 c11 c12 c13 c14 c15 c16 c17 : Int) (n : Nat) : Bool → Int → Option (Bool):=rounds (subband_Params_share.r2 K c0 c1 c2 c3 c4 c5 c6 c7 c8 c9 c10 c11 c12 c13 c14 c15 c16 c17) (fun _ _=>none) n
def subband_Params_share.r1 (K : Nat) (c0 c1 : List (List Int)) (c2 : List (List (List Int))) (c3 c4 : Int) (c5 : List Int) (c6 : List (List Int)) (c7 c8 c9 c10 c11 c12 c13 c14 c15 c16 : Int) (next : Bool → Int → Option (Bool)) (x856 : Bool) (x857 : Int) : Option (Bool):=
 let v886:=(decide (x857 < c9))
 let v887:=(bif x856 then v886 else false)
 bif v887 then
  let v901:=(Kd.nth (.slice (.int .i64)) c1 (Int.toNat x857))
  gd ((0 : Int) ≤ x857 ∧ x857 < (c1.length : Int)) <|
  let v902:=(v901.length : Int)
  (subband_Params_share.l2 K c0 c1 x857 c2 c3 c4 c5 c6 c7 c8 c9 c10 c11 c12 c13 c14 c15 c16 K (v902 == c10) 0 : Option (Bool)).bind fun x915=>
   let v916:=(kwrap .i64 (x857 + 1))
   next x915 v916
 else
  some x856
def subband_Params_share.l1 (K : Nat) (c0 c1 : List (List Int)) (c2 : List (List (List Int))) (c3 c4 : Int) (c5 : List Int) (c6 : List (List Int)) (c7 c8 c9 c10 c11 c12 c13 c14 c15 c16 : Int) (n : Nat) : Bool → Int → Option (Bool):=rounds (subband_Params_share.r1 K c0 c1 c2 c3 c4 c5 c6 c7 c8 c9 c10 c11 c12 c13 c14 c15 c16) (fun _ _=>none) n
def subband_Params_share.r0 (K : Nat) (c0 : List (List Int)) (c1 : List (List (List Int))) (c2 : Int) (c3 : List Int) (c4 : List (List Int)) (c5 c6 c7 c8 c9 c10 c11 c12 c13 c14 : Int) (next : Bool → Int → Option (Bool)) (x595 : Bool) (x596 : Int) : Option (Bool):=
 let v713:=(decide (x596 < c2))
 bif v713 then
  let v771:=(Kd.nth (.slice (.slice (.int .i64))) c1 (Int.toNat x596))
  gd ((0 : Int) ≤ x596 ∧ x596 < (c1.length : Int)) <|
  (subband_Params_share.l1 K c0 v771 c1 c2 x596 c3 c4 c5 c6 c7 c8 c9 c10 c11 c12 c13 c14 K x595 0 : Option (Bool)).bind fun x828=>
   let v829:=(kwrap .i64 (x596 + 1))
   next x828 v829
 else
  some x595
def subband_Params_share.l0 (K : Nat) (c0 : List (List Int)) (c1 : List (List (List Int))) (c2 : Int) (c3 : List Int) (c4 : List (List Int)) (c5 c6 c7 c8 c9 c10 c11 c12 c13 c14 : Int) (n : Nat) : Bool → Int → Option (Bool):=rounds (subband_Params_share.r0 K c0 c1 c2 c3 c4 c5 c6 c7 c8 c9 c10 c11 c12 c13 c14) (fun _ _=>none) n
def subband_Params_share (K : Nat) (p0 p1 p2 p3 p4 p5 p6 p7 p8 p9 : Int) (p10 : List Int) (p11 : List (List Int)) (p12 : List (List (List Int))) : Option ((List (List Int)) × Bool):=
 (
  (subband_shaped_int K p10 p3 p0 p1 p2 p3 p4 p5 p6 p7 p8 p9).bind fun r942=>
  bif (!r942) then
   let v944:=(bif (!r942) then true else false)
   some v944
  else
   let v945:=(kwrap .i64 (p3 - 1))
   let v946:=(Kd.nth (.int .i64) p10 (Int.toNat v945))
   gd ((0 : Int) ≤ v945 ∧ v945 < (p10.length : Int)) <|
   (subband_Params_share_1 K v946).bind fun r947=>
   let v948:=(bif (!r942) then true else (!r947))
   some v948 : Option (Bool)).bind fun x244=>
  bif x244 then
   some (([] : List (List Int)),false)
  else
   (alloc_Share K p0 p1 p2 p3 p4 p5 p6 p7 p8 p9 p11).bind fun (r245,r246)=>
   bif (r246 != 0) then
    some (([] : List (List Int)),false)
   else
    (subband_shaped_int_2 K p12 p4 p0 p1 p2 p3 p4 p5 p6 p7 p8 p9).bind fun r247=>
    (subband_Params_share.l0 K r245 p12 (p12.length : Int) p10 p11 p0 p1 p2 p3 p4 p5 p6 p7 p8 p9 K r247 0 : Option (Bool)).bind fun x480=>
     some (r245,x480)
def bits_New (_K : Nat) (p0 : Int) : Option ((Int) ⊕ ((List Int))):=
 let v1:=(decide (p0 < 0))
 bif v1 then
  some (.inl 1)
 else
  let v2:=(decide (p0 > 512))
  bif v2 then
   some (.inl 2)
  else
   let v3:=(List.replicate (Int.toNat p0) (0 : Int))
   gd ((0 : Int) ≤ p0 ∧ p0 ≤ p0 ∧ p0 * 1 ≤ 140737488355328) <|
   some (.inr v3)
def bits_Pad_write (_K : Nat) (_p0 _p1 : Int) : Option (Unit):=
 some ()
def bits_Pad_Front (K : Nat) (p0 p1 : Int) : Option (Unit):=
 (bits_Pad_write K p0 p1).bind fun _=>
 some ()
def subband_put.r0 (K : Nat) (c0 : List ((Int × Int))) (c1 : Int) (next : Int → Int → Option (Int)) (x11 x12 : Int) : Option (Int):=
 let v15:=(decide (x12 < c1))
 bif v15 then
  let v16:=(Kd.nth (.pair (.int .i64) (.int .i64)) c0 (Int.toNat x12))
  gd ((0 : Int) ≤ x12 ∧ x12 < (c0.length : Int)) <|
  let v17:=(kwrap .u32 v16.1)
  (bits_Pad_Front K v17 v16.2).bind fun _=>
  let v18:=(kwrap .i64 (x11 + v16.2))
  let v19:=(kwrap .i64 (x12 + 1))
  next v18 v19
 else
  some x11
def subband_put.l0 (K : Nat) (c0 : List ((Int × Int))) (c1 : Int) (n : Nat) : Int → Int → Option (Int):=rounds (subband_put.r0 K c0 c1) (fun _ _=>none) n
def subband_put (K : Nat) (p0 : List ((Int × Int))) : Option (Int):=
 (subband_put.l0 K p0 (p0.length : Int) K 0 0 : Option (Int)).bind fun x10=>
  some x10
def subband_head (_K : Nat) (_p0 p1 p2 p3 p4 p5 p6 p7 _p8 _p9 : Int) : Option ((List ((Int × Int)))):=
 (
  bif (p2 == 2) then
   let v8:=(kwrap .i64 (2 + p6))
   some v8
  else
   some 0 : Option (Int)).bind fun x2=>
  let v3:=(kwrap .i64 (Int.tdiv p4 4))
  let v4:=(kwrap .i64 (v3 - 1))
  let v5:=(kwrap .i64 (Int.tdiv p3 4))
  let v6:=(kwrap .i64 (v5 - 1))
  let v7:=[(p1,2),(v4,2),(x2,2),(p5,1),(v6,1),(p7,8)]
  some v7
def subband_Params_side.r1 (_K : Nat) (_c0 : List (List Int)) (_c1 _c2 : Int) (c3 : List Int) (c4 : Int) (_c5 : List Int) (_c6 : List (List (List Int))) (next : Int → List ((Int × Int)) → Option ((List ((Int × Int))))) (x101 : Int) (x102 : List ((Int × Int))) : Option ((List ((Int × Int)))):=
 let v105:=(decide (x101 < c4))
 bif v105 then
  let v106:=(Kd.nth (.int .i64) c3 (Int.toNat x101))
  gd ((0 : Int) ≤ x101 ∧ x101 < (c3.length : Int)) <|
  let v107:=(x102 ++ [(v106,4)])
  gd (((x102.length : Int) + ([(v106,4)].length : Int)) * 16 ≤ 70368744177664) <|
  let v108:=(kwrap .i64 (x101 + 1))
  next v108 v107
 else
  some x102
def subband_Params_side.l1 (K : Nat) (c0 : List (List Int)) (c1 c2 : Int) (c3 : List Int) (c4 : Int) (c5 : List Int) (c6 : List (List (List Int))) (n : Nat) : Int → List ((Int × Int)) → Option ((List ((Int × Int)))):=rounds (subband_Params_side.r1 K c0 c1 c2 c3 c4 c5 c6) (fun _ _=>none) n
def subband_Params_side.r0 (K : Nat) (c0 : List (List Int)) (c1 : Int) (c2 : List Int) (c3 : List (List (List Int))) (next : Int → List ((Int × Int)) → Option ((List ((Int × Int))))) (x73 : Int) (x74 : List ((Int × Int))) : Option ((List ((Int × Int)))):=
 let v87:=(decide (x73 < c1))
 bif v87 then
  let v93:=(Kd.nth (.slice (.int .i64)) c0 (Int.toNat x73))
  gd ((0 : Int) ≤ x73 ∧ x73 < (c0.length : Int)) <|
  let v94:=(v93.length : Int)
  (subband_Params_side.l1 K c0 c1 x73 v93 v94 c2 c3 K 0 x74 : Option ((List ((Int × Int))))).bind fun x99=>
   let v100:=(kwrap .i64 (x73 + 1))
   next v100 x99
 else
  some x74
def subband_Params_side.l0 (K : Nat) (c0 : List (List Int)) (c1 : Int) (c2 : List Int) (c3 : List (List (List Int))) (n : Nat) : Int → List ((Int × Int)) → Option ((List ((Int × Int)))):=rounds (subband_Params_side.r0 K c0 c1 c2 c3) (fun _ _=>none) n
def subband_Params_side.r2 (_K : Nat) (c0 : List Int) (c1 : Int) (_c2 : List (List Int)) (_c3 : List (List (List Int))) (next : Int → List ((Int × Int)) → Option ((List ((Int × Int))))) (x114 : Int) (x115 : List ((Int × Int))) : Option ((List ((Int × Int)))):=
 let v118:=(decide (x114 < c1))
 bif v118 then
  let v119:=(Kd.nth (.int .i64) c0 (Int.toNat x114))
  gd ((0 : Int) ≤ x114 ∧ x114 < (c0.length : Int)) <|
  let v120:=(x115 ++ [(v119,1)])
  gd (((x115.length : Int) + ([(v119,1)].length : Int)) * 16 ≤ 70368744177664) <|
  let v121:=(kwrap .i64 (x114 + 1))
  next v121 v120
 else
  some x115
def subband_Params_side.l2 (K : Nat) (c0 : List Int) (c1 : Int) (c2 : List (List Int)) (c3 : List (List (List Int))) (n : Nat) : Int → List ((Int × Int)) → Option ((List ((Int × Int)))):=rounds (subband_Params_side.r2 K c0 c1 c2 c3) (fun _ _=>none) n
def subband_Params_side (K : Nat) (_p0 _p1 _p2 _p3 _p4 _p5 p6 _p7 _p8 _p9 : Int) (p10 : List Int) (p11 : List (List Int)) (p12 : List (List (List Int))) : Option ((List ((Int × Int)))):=
 (
  bif (p6 == 1) then
   (subband_Params_side.l2 K p10 (p10.length : Int) p11 p12 K 0 ([] : List ((Int × Int))) : Option ((List ((Int × Int))))).bind fun x113=>
    some x113
  else
   some (([] : List ((Int × Int)))) : Option ((List ((Int × Int))))).bind fun x37=>
  (subband_Params_side.l0 K p11 (p11.length : Int) p10 p12 K 0 x37 : Option ((List ((Int × Int))))).bind fun x62=>
   some x62
def bits_Pad_Bytes (_K : Nat)  : Option (Unit):=
 some ()
def check_of (_K : Nat) (p0 : Int) : Option (Int × Int × Int × Int):=
 bif (p0 == 8) then
  some (8,15,29,0)
 else
  bif (p0 == 16) then
   some (16,65535,4129,0)
  else
   bif (p0 == 24) then
    some (24,5592405,1627,0)
   else
    some (0,0,0,1)
def check_kind_sum.r0 (_K : Nat) (_c0 c1 _c2 _c3 : Int) (_next : Option (Unit))  : Option (Unit):=
 let v1:=(decide (0 < c1))
 bif v1 then
  none
 else
  some ()
def check_kind_sum.l0 (K : Nat) (c0 c1 c2 c3 : Int) (n : Nat) : Option (Unit):=rounds (check_kind_sum.r0 K c0 c1 c2 c3) (none) n
def check_kind_sum (K : Nat) (p0 p1 p2 p3 : Int) : Option (Unit):=
 (check_kind_sum.l0 K p1 p3 p0 p2 K  : Option (Unit)).bind fun _=>
  some ()
def check_Bits (K : Nat) (p0 p1 : Int) : Option (Int × Int):=
 (check_of K p0).bind fun (r5,r6,r7,r8)=>
 let v9:=(decide (p1 < 0))
 let v10:=(bif (r8 != 0) then true else v9)
 let v11:=(decide (p1 > 0))
 let v12:=(bif v10 then true else v11)
 bif v12 then
  some (0,1)
 else
  (check_kind_sum K r5 r6 r7 p1).bind fun _=>
  some (r6,0)
def bits_ends_left_2 (_K : Nat) (p0 p1 p2 : Int) (_p3 : List Int) : Option (Int):=
 let v1:=(kwrap .i64 (8 * p0))
 let v2:=(kwrap .i64 (v1 - p1))
 let v3:=(kwrap .i64 (v2 - p2))
 some v3
def bits_ends_may_2 (K : Nat) (p0 p1 p2 p3 : Int) (p4 : List Int) : Option (Int):=
 let v5:=(decide (p0 < 0))
 let v6:=(decide (p0 > 32))
 let v7:=(bif v5 then true else v6)
 bif v7 then
  some 1
 else
  (bits_ends_left_2 K p1 p2 p3 p4).bind fun r9=>
  let v10:=(decide (p0 > r9))
  bif v10 then
   some 50
  else
   some 0
def bits_Pad_write_2 (K : Nat) (p0 p1 p2 p3 : Int) (p4 : List Int) : Option (Int):=
 let v2:=(decide (p1 ≥ 0))
 let v3:=(decide (p1 < 32))
 let v4:=(bif v2 then v3 else false)
 let v5:=(kshr .u32 p0 p1)
 let v6:=(bif v4 then (v5 != 0) else false)
 gd ((v4 = true → (0 : Int) ≤ p1)) <|
 bif v6 then
  some 1
 else
  (bits_ends_may_2 K p1 (p4.length : Int) p2 p3 p4).bind fun r7=>
  some r7
def bits_ends_ahead_2 (_K : Nat) (p0 _p1 : Int) (_p2 : List Int) : Option (Int × Int × Int):=
 let v1:=(kwrap .i64 (p0 + 1))
 let v2:=(kwrap .i64 (Int.tdiv p0 8))
 let v3:=(Int.tmod p0 8)
 let v4:=(kshr .u8 128 v3)
 gd ((0 : Int) ≤ v3) <|
 some (v2,v4,v1)
def bits_Pad_Front_2.r0 (K : Nat) (c0 c1 : Int) (next : Int → Int → List Int → Option (Int × (List Int))) (x45 x46 : Int) (x47 : List Int) : Option (Int × (List Int)):=
 let v56:=(decide (x45 ≥ 0))
 bif v56 then
  (
   (bits_ends_ahead_2 K x46 c1 x47).bind fun (r63,r64,r65)=>
   let v66:=(kshr .u32 c0 x45)
   let v67:=(kand .u32 v66 1)
   gd ((0 : Int) ≤ x45) <|
   bif (v67 == 1) then
    let v68:=(Kd.nth (.int .u8) x47 (Int.toNat r63))
    let v69:=(kor .u8 v68 r64)
    let v70:=(List.set x47 (Int.toNat r63) v69)
    gd ((0 : Int) ≤ r63 ∧ r63 < (x47.length : Int) ∧ (Int.toNat r63) < x47.length ∧ (0 : Int) ≤ r63 ∧ r63 < (x47.length : Int) ∧ (Int.toNat r63) < x47.length) <|
    some (r65,v70)
   else
    some (r65,x47) : Option (Int × (List Int))).bind fun (x60,x61)=>
   let v62:=(kwrap .i64 (x45 - 1))
   next v62 x60 x61
 else
  some (x46,x47)
def bits_Pad_Front_2.l0 (K : Nat) (c0 c1 : Int) (n : Nat) : Int → Int → List Int → Option (Int × (List Int)):=rounds (bits_Pad_Front_2.r0 K c0 c1) (fun _ _ _=>none) n
def bits_Pad_Front_2 (K : Nat) (p0 p1 p2 p3 : Int) (p4 : List Int) : Option (Int × Int × (List Int)):=
 (bits_Pad_write_2 K p0 p1 p2 p3 p4).bind fun r20=>
 bif (r20 != 0) then
  some (r20,p2,p4)
 else
  let v21:=(kwrap .i64 (p1 - 1))
  (bits_Pad_Front_2.l0 K p0 p3 K v21 p2 p4 : Option (Int × (List Int))).bind fun (x38,x39)=>
   some (0,x38,x39)
def subband_put_2.r0 (K : Nat) (c0 : List ((Int × Int))) (c1 c2 : Int) (next : Int → Int → Int → List Int → Option (Int × Int × (List Int))) (x53 x54 x55 : Int) (x56 : List Int) : Option (Int × Int × (List Int)):=
 let v67:=(decide (x54 < c1))
 bif v67 then
  let v71:=(Kd.nth (.pair (.int .i64) (.int .i64)) c0 (Int.toNat x54))
  gd ((0 : Int) ≤ x54 ∧ x54 < (c0.length : Int)) <|
  let v72:=(kwrap .u32 v71.1)
  (bits_Pad_Front_2 K v72 v71.2 x55 c2 x56).bind fun (_r73,r74,r75)=>
  let v76:=(kwrap .i64 (x53 + v71.2))
  let v77:=(kwrap .i64 (x54 + 1))
  next v76 v77 r74 r75
 else
  some (x53,x55,x56)
def subband_put_2.l0 (K : Nat) (c0 : List ((Int × Int))) (c1 c2 : Int) (n : Nat) : Int → Int → Int → List Int → Option (Int × Int × (List Int)):=rounds (subband_put_2.r0 K c0 c1 c2) (fun _ _ _ _=>none) n
def subband_put_2 (K : Nat) (p0 : List ((Int × Int))) (p1 p2 : Int) (p3 : List Int) : Option (Int × Int × (List Int)):=
 (subband_put_2.l0 K p0 (p0.length : Int) p2 K 0 0 p1 p3 : Option (Int × Int × (List Int))).bind fun (x44,x45,x46)=>
  some (x44,x45,x46)
def bytes_Clone_2 (_K : Nat) (p0 : List Int) : Option ((List Int)):=
 gd (p0 ≠ []) <|
 let v1:=(([] : List Int) ++ p0)
 gd (((([] : List Int).length : Int) + (p0.length : Int)) * 1 ≤ 70368744177664) <|
 some v1
def bits_Pad_Bytes_2 (K : Nat) (_p0 _p1 : Int) (p2 : List Int) : Option ((List Int)):=
 (bytes_Clone_2 K p2).bind fun r2=>
 some r2
def check_kind_next (_K : Nat) (p0 _p1 p2 p3 p4 : Int) : Option (Int):=
 let v2:=(kwrap .i64 (p0 - 1))
 let v3:=(kshr .u32 p3 v2)
 gd ((0 : Int) ≤ v2) <|
 let v4:=(kshl .u32 p3 1)
 let v5:=(kshl .u32 1 p0)
 let v6:=(kwrap .u32 (v5 - 1))
 let v7:=(kand .u32 v4 v6)
 gd ((0 : Int) ≤ p0) <|
 (
  bif (v3 != p4) then
   let v9:=(kxor .u32 v7 p2)
   some v9
  else
   some v7 : Option (Int)).bind fun x8=>
  some x8
def check_kind_sum_2.r0 (K : Nat) (c0 : List Int) (c1 c2 c3 c4 : Int) (next : Int → Int → Option (Int)) (x21 x22 : Int) : Option (Int):=
 let v27:=(decide (x22 < c1))
 bif v27 then
  let v29:=(kwrap .i64 (Int.tdiv x22 8))
  let v30:=(Kd.nth (.int .u8) c0 (Int.toNat v29))
  gd ((0 : Int) ≤ v29 ∧ v29 < (c0.length : Int)) <|
  let v31:=(kwrap .u32 v30)
  let v32:=(Int.tmod x22 8)
  let v33:=(kwrap .i64 (7 - v32))
  let v34:=(kshr .u32 v31 v33)
  gd ((0 : Int) ≤ v33) <|
  let v35:=(kand .u32 v34 1)
  (check_kind_next K c2 c3 c4 x21 v35).bind fun r36=>
  let v37:=(kwrap .i64 (x22 + 1))
  next r36 v37
 else
  some x21
def check_kind_sum_2.l0 (K : Nat) (c0 : List Int) (c1 c2 c3 c4 : Int) (n : Nat) : Int → Int → Option (Int):=rounds (check_kind_sum_2.r0 K c0 c1 c2 c3 c4) (fun _ _=>none) n
def check_kind_sum_2 (K : Nat) (p0 p1 p2 : Int) (p3 : List Int) (p4 : Int) : Option (Int):=
 (check_kind_sum_2.l0 K p3 p4 p0 p1 p2 K p1 0 : Option (Int)).bind fun x18=>
  some x18
def check_Bits_2 (K : Nat) (p0 : Int) (p1 : List Int) (p2 : Int) : Option (Int × Int):=
 (check_of K p0).bind fun (r6,r7,r8,r9)=>
 let v10:=(decide (p2 < 0))
 let v11:=(bif (r9 != 0) then true else v10)
 let v12:=(kwrap .i64 (8 * (p1.length : Int)))
 let v13:=(decide (p2 > v12))
 let v14:=(bif v11 then true else v13)
 bif v14 then
  some (0,1)
 else
  (check_kind_sum_2 K r6 r7 r8 p1 p2).bind fun r15=>
  some (r15,0)
def subband_Params_sum (K : Nat) (p0 p1 p2 p3 p4 p5 p6 p7 p8 p9 : Int) (p10 : List Int) (p11 : List (List Int)) (p12 : List (List (List Int))) : Option (Int):=
 (bits_New K 512).bind fun z=>match z with
 | .inl _r20=>
  (subband_head K p0 p1 p2 p3 p4 p5 p6 p7 p8 p9).bind fun r22=>
  (subband_put K r22).bind fun r23=>
  (subband_Params_side K p0 p1 p2 p3 p4 p5 p6 p7 p8 p9 p10 p11 p12).bind fun r24=>
  (subband_put K r24).bind fun r25=>
  let v26:=(kwrap .i64 (r23 + r25))
  (bits_Pad_Bytes K ).bind fun _=>
  (check_Bits K 8 v26).bind fun (r27,_r28)=>
  some (kwrap .i64 r27)
 | .inr r21=>
  (subband_head K p0 p1 p2 p3 p4 p5 p6 p7 p8 p9).bind fun r29=>
  (subband_put_2 K r29 0 0 r21).bind fun (r30,r31,r32)=>
  (subband_Params_side K p0 p1 p2 p3 p4 p5 p6 p7 p8 p9 p10 p11 p12).bind fun r33=>
  (subband_put_2 K r33 r31 0 r32).bind fun (r34,r35,r36)=>
  let v37:=(kwrap .i64 (r30 + r34))
  (bits_Pad_Bytes_2 K r35 0 r36).bind fun r38=>
  (check_Bits_2 K 8 r38 v37).bind fun (r39,_r40)=>
  some (kwrap .i64 r39)
def subband_Params_codes.r2 (_K : Nat) (c0 : List (List Int)) (c1 : Int) (_c2 : List (List (List Int))) (_c3 _c4 : Int) (_c5 : List (List Int)) (_c6 : Int) (c7 : List Int) (c8 : Int) (_c9 : List Int) (_c10 : List (List Int)) (next : Int → List ((Int × Int)) → Option ((List ((Int × Int))))) (x407 : Int) (x408 : List ((Int × Int))) : Option ((List ((Int × Int)))):=
 let v411:=(decide (x407 < c8))
 bif v411 then
  let v412:=(Kd.nth (.int .i64) c7 (Int.toNat x407))
  gd ((0 : Int) ≤ x407 ∧ x407 < (c7.length : Int)) <|
  let v413:=(Kd.nth (.slice (.int .i64)) c0 (Int.toNat c1))
  let v414:=(Kd.nth (.int .i64) v413 (Int.toNat x407))
  let v415:=[(v412,v414)]
  let v416:=(x408 ++ v415)
  gd ((0 : Int) ≤ c1 ∧ c1 < (c0.length : Int) ∧ (0 : Int) ≤ x407 ∧ x407 < (v413.length : Int) ∧ ((x408.length : Int) + (v415.length : Int)) * 16 ≤ 70368744177664) <|
  let v417:=(kwrap .i64 (x407 + 1))
  next v417 v416
 else
  some x408
def subband_Params_codes.l2 (K : Nat) (c0 : List (List Int)) (c1 : Int) (c2 : List (List (List Int))) (c3 c4 : Int) (c5 : List (List Int)) (c6 : Int) (c7 : List Int) (c8 : Int) (c9 : List Int) (c10 : List (List Int)) (n : Nat) : Int → List ((Int × Int)) → Option ((List ((Int × Int)))):=rounds (subband_Params_codes.r2 K c0 c1 c2 c3 c4 c5 c6 c7 c8 c9 c10) (fun _ _=>none) n
def subband_Params_codes.r1 (K : Nat) (c0 : List (List Int)) (c1 : List (List (List Int))) (c2 c3 : Int) (c4 : List (List Int)) (c5 : Int) (c6 : List Int) (c7 : List (List Int)) (next : Int → List ((Int × Int)) → Option ((List ((Int × Int))))) (x379 : Int) (x380 : List ((Int × Int))) : Option ((List ((Int × Int)))):=
 let v393:=(decide (x379 < c5))
 bif v393 then
  let v399:=(Kd.nth (.slice (.int .i64)) c4 (Int.toNat x379))
  gd ((0 : Int) ≤ x379 ∧ x379 < (c4.length : Int)) <|
  let v400:=(v399.length : Int)
  (subband_Params_codes.l2 K c0 x379 c1 c2 c3 c4 c5 v399 v400 c6 c7 K 0 x380 : Option ((List ((Int × Int))))).bind fun x405=>
   let v406:=(kwrap .i64 (x379 + 1))
   next v406 x405
 else
  some x380
def subband_Params_codes.l1 (K : Nat) (c0 : List (List Int)) (c1 : List (List (List Int))) (c2 c3 : Int) (c4 : List (List Int)) (c5 : Int) (c6 : List Int) (c7 : List (List Int)) (n : Nat) : Int → List ((Int × Int)) → Option ((List ((Int × Int)))):=rounds (subband_Params_codes.r1 K c0 c1 c2 c3 c4 c5 c6 c7) (fun _ _=>none) n
def subband_Params_codes.r0 (K : Nat) (c0 : List (List Int)) (c1 : List (List (List Int))) (c2 : Int) (c3 : List Int) (c4 : List (List Int)) (next : Int → List ((Int × Int)) → Option ((List ((Int × Int))))) (x261 : Int) (x262 : List ((Int × Int))) : Option ((List ((Int × Int)))):=
 let v315:=(decide (x261 < c2))
 bif v315 then
  let v341:=(Kd.nth (.slice (.slice (.int .i64))) c1 (Int.toNat x261))
  gd ((0 : Int) ≤ x261 ∧ x261 < (c1.length : Int)) <|
  let v342:=(v341.length : Int)
  (subband_Params_codes.l1 K c0 c1 c2 x261 v341 v342 c3 c4 K 0 x262 : Option ((List ((Int × Int))))).bind fun x367=>
   let v368:=(kwrap .i64 (x261 + 1))
   next v368 x367
 else
  some x262
def subband_Params_codes.l0 (K : Nat) (c0 : List (List Int)) (c1 : List (List (List Int))) (c2 : Int) (c3 : List Int) (c4 : List (List Int)) (n : Nat) : Int → List ((Int × Int)) → Option ((List ((Int × Int)))):=rounds (subband_Params_codes.r0 K c0 c1 c2 c3 c4) (fun _ _=>none) n
def subband_Params_codes (K : Nat) (p0 : List (List Int)) (p1 : List Int) (p2 : List (List Int)) (p3 : List (List (List Int))) : Option ((List ((Int × Int)))):=
 (subband_Params_codes.l0 K p0 p3 (p3.length : Int) p1 p2 K 0 ([] : List ((Int × Int))) : Option ((List ((Int × Int))))).bind fun x210=>
  some x210
def subband_Pack (K : Nat) (p0 p1 p2 p3 p4 p5 p6 p7 p8 p9 : Int) (p10 : List Int) (p11 : List (List Int)) (p12 : List (List (List Int))) : Option ((Int) ⊕ ((List Int))):=
 (subband_may K p0 p1 p2 p3 p4 p5 p6 p7 p8 p9).bind fun r36=>
 bif (r36 != 0) then
  some (.inl r36)
 else
  (subband_Params_share K p0 p1 p2 p3 p4 p5 p6 p7 p8 p9 p10 p11 p12).bind fun (r37,r38)=>
  bif (!r38) then
   some (.inl 1)
  else
   (format_Payload K p0 p1 p2 p3 p4 p5 p6 p7 p8 p9).bind fun r39=>
   (bits_New K r39).bind fun z=>match z with
   | .inl _r40=>
    (subband_put K [(156,8)]).bind fun _r42=>
    (subband_head K p0 p1 p2 p3 p4 p5 p6 p7 p8 p9).bind fun r43=>
    (subband_put K r43).bind fun _r44=>
    (subband_Params_sum K p0 p1 p2 p3 p4 p5 p6 p7 p8 p9 p10 p11 p12).bind fun r45=>
    (subband_put K [(r45,8)]).bind fun _r46=>
    (subband_Params_side K p0 p1 p2 p3 p4 p5 p6 p7 p8 p9 p10 p11 p12).bind fun r47=>
    (subband_put K r47).bind fun _r48=>
    (subband_Params_codes K r37 p10 p11 p12).bind fun r49=>
    (subband_put K r49).bind fun _r50=>
    (bits_Pad_Bytes K ).bind fun _=>
    some (.inl 0)
   | .inr r41=>
    (subband_put_2 K [(156,8)] 0 0 r41).bind fun (_r51,r52,r53)=>
    (subband_head K p0 p1 p2 p3 p4 p5 p6 p7 p8 p9).bind fun r54=>
    (subband_put_2 K r54 r52 0 r53).bind fun (_r55,r56,r57)=>
    (subband_Params_sum K p0 p1 p2 p3 p4 p5 p6 p7 p8 p9 p10 p11 p12).bind fun r58=>
    (subband_put_2 K [(r58,8)] r56 0 r57).bind fun (_r59,r60,r61)=>
    (subband_Params_side K p0 p1 p2 p3 p4 p5 p6 p7 p8 p9 p10 p11 p12).bind fun r62=>
    (subband_put_2 K r62 r60 0 r61).bind fun (_r63,r64,r65)=>
    (subband_Params_codes K r37 p10 p11 p12).bind fun r66=>
    (subband_put_2 K r66 r64 0 r65).bind fun (_r67,r68,r69)=>
    (bits_Pad_Bytes_2 K r68 0 r69).bind fun r70=>
    some (.inr r70)
def slices_Equal_byte_byte.r0 (_K : Nat)  (_next : Option (Unit))  : Option (Unit):=
 some ()
def slices_Equal_byte_byte.l0 (K : Nat)  (n : Nat) : Option (Unit):=rounds (slices_Equal_byte_byte.r0 K) (none) n
def slices_Equal_byte_byte (K : Nat)  : Option (Unit):=
 (slices_Equal_byte_byte.l0 K K  : Option (Unit)).bind fun _=>
  some ()
def slices_Equal_byte_byte_2.r0 (_K : Nat) (c0 : List Int) (c1 : Int) (_next : Option (Unit))  : Option (Unit):=
 let v2:=(decide (0 < c1))
 bif v2 then
  gd (0 < (c0.length : Int)) <|
  none
 else
  some ()
def slices_Equal_byte_byte_2.l0 (K : Nat) (c0 : List Int) (c1 : Int) (n : Nat) : Option (Unit):=rounds (slices_Equal_byte_byte_2.r0 K c0 c1) (none) n
def slices_Equal_byte_byte_2 (K : Nat) (p0 : List Int) : Option (Bool):=
 let v1:=((p0.length : Int) != 0)
 bif v1 then
  some false
 else
  (slices_Equal_byte_byte_2.l0 K p0 (p0.length : Int) K  : Option (Unit)).bind fun _=>
   some true
def subband_Parse.r2 (K : Nat) (_c0 : List (List Int)) (c1 _c2 _c3 _c4 : Int) (c5 : List Int) (c6 _c7 _c8 _c9 _c10 _c11 _c12 _c13 _c14 _c15 : Int) (_c16 : List Int) (_c17 : List (List Int)) (_c18 : List (List (List Int))) (next : Int → List (List Int) → Option ((List (List Int)))) (x701 : Int) (x702 : List (List Int)) : Option ((List (List Int))):=
 let v707:=(decide (x701 < c6))
 bif v707 then
  let v709:=(Kd.nth (.int .i64) c5 (Int.toNat x701))
  gd ((0 : Int) ≤ x701 ∧ x701 < (c5.length : Int)) <|
  gd ((0 : Int) ≤ c1 ∧ c1 < (x702.length : Int)) <|
  let v710:=(List.getD x702 (Int.toNat c1) [])
  gd ((Int.toNat c1) < x702.length) <|
  (subband_take K 1 v709 0 0).bind fun r711=>
  let v712:=(v710 ++ r711)
  gd (((v710.length : Int) + (r711.length : Int)) * 8 ≤ 70368744177664) <|
  gd ((0 : Int) ≤ c1 ∧ c1 < (x702.length : Int)) <|
  let v713:=(List.set x702 (Int.toNat c1) v712)
  gd ((Int.toNat c1) < x702.length) <|
  let v714:=(kwrap .i64 (x701 + 1))
  next v714 v713
 else
  some x702
def subband_Parse.l2 (K : Nat) (c0 : List (List Int)) (c1 c2 c3 c4 : Int) (c5 : List Int) (c6 c7 c8 c9 c10 c11 c12 c13 c14 c15 : Int) (c16 : List Int) (c17 : List (List Int)) (c18 : List (List (List Int))) (n : Nat) : Int → List (List Int) → Option ((List (List Int))):=rounds (subband_Parse.r2 K c0 c1 c2 c3 c4 c5 c6 c7 c8 c9 c10 c11 c12 c13 c14 c15 c16 c17 c18) (fun _ _=>none) n
def subband_Parse.r1 (K : Nat) (c0 : List (List Int)) (c1 c2 c3 c4 c5 c6 c7 c8 c9 c10 c11 c12 : Int) (c13 : List Int) (c14 : List (List Int)) (c15 : List (List (List Int))) (next : Int → List (List Int) → Option ((List (List Int)))) (x655 : Int) (x656 : List (List Int)) : Option ((List (List Int))):=
 let v677:=(decide (x655 < c3))
 bif v677 then
  let v687:=(Kd.nth (.slice (.int .i64)) c0 (Int.toNat x655))
  let v688:=(v687.length : Int)
  gd ((0 : Int) ≤ x655 ∧ x655 < (c0.length : Int)) <|
  (subband_Parse.l2 K c0 x655 c1 c2 c3 v687 v688 c4 c5 c6 c7 c8 c9 c10 c11 c12 c13 c14 c15 K 0 x656 : Option ((List (List Int)))).bind fun x697=>
   let v698:=(kwrap .i64 (x655 + 1))
   next v698 x697
 else
  some x656
def subband_Parse.l1 (K : Nat) (c0 : List (List Int)) (c1 c2 c3 c4 c5 c6 c7 c8 c9 c10 c11 c12 : Int) (c13 : List Int) (c14 : List (List Int)) (c15 : List (List (List Int))) (n : Nat) : Int → List (List Int) → Option ((List (List Int))):=rounds (subband_Parse.r1 K c0 c1 c2 c3 c4 c5 c6 c7 c8 c9 c10 c11 c12 c13 c14 c15) (fun _ _=>none) n
def subband_Parse.r0 (K : Nat) (c0 : List (List Int)) (c1 c2 c3 c4 c5 c6 c7 c8 c9 c10 : Int) (c11 : List Int) (c12 : List (List Int)) (next : Int → List (List (List Int)) → Option ((List (List (List Int))))) (x464 : Int) (x465 : List (List (List Int))) : Option ((List (List (List Int)))):=
 let v550:=(decide (x464 < c1))
 bif v550 then
  let v592:=(List.replicate (Int.toNat c4) ([] : List Int))
  gd ((0 : Int) ≤ c4 ∧ c4 ≤ c4 ∧ c4 * 24 ≤ 140737488355328) <|
  let v593:=(v592.length : Int)
  (subband_Parse.l1 K c0 c1 x464 v593 c2 c3 c4 c5 c6 c7 c8 c9 c10 c11 c12 x465 K 0 v592 : Option ((List (List Int)))).bind fun x634=>
   let v635:=(x465 ++ [x634])
   gd (((x465.length : Int) + ([x634].length : Int)) * 24 ≤ 70368744177664) <|
   let v636:=(kwrap .i64 (x464 + 1))
   next v636 v635
 else
  some x465
def subband_Parse.l0 (K : Nat) (c0 : List (List Int)) (c1 c2 c3 c4 c5 c6 c7 c8 c9 c10 : Int) (c11 : List Int) (c12 : List (List Int)) (n : Nat) : Int → List (List (List Int)) → Option ((List (List (List Int)))):=rounds (subband_Parse.r0 K c0 c1 c2 c3 c4 c5 c6 c7 c8 c9 c10 c11 c12) (fun _ _=>none) n
def subband_Parse.r3 (K : Nat) (c0 _c1 _c2 c3 _c4 _c5 _c6 _c7 _c8 _c9 : Int) (_c10 : List Int) (next : Int → List (List Int) → Option ((List (List Int)))) (x717 : Int) (x718 : List (List Int)) : Option ((List (List Int))):=
 let v723:=(decide (x717 < c0))
 bif v723 then
  (subband_take K c3 4 0 0).bind fun r725=>
  let v726:=(x718 ++ [r725])
  gd (((x718.length : Int) + ([r725].length : Int)) * 24 ≤ 70368744177664) <|
  let v727:=(kwrap .i64 (x717 + 1))
  next v727 v726
 else
  some x718
def subband_Parse.l3 (K : Nat) (c0 c1 c2 c3 c4 c5 c6 c7 c8 c9 : Int) (c10 : List Int) (n : Nat) : Int → List (List Int) → Option ((List (List Int))):=rounds (subband_Parse.r3 K c0 c1 c2 c3 c4 c5 c6 c7 c8 c9 c10) (fun _ _=>none) n
def subband_Parse (K : Nat) (p0 p1 p2 p3 p4 p5 p6 p7 p8 p9 : Int) : Option ((List Int) × (List (List Int)) × (List (List (List Int))) × Int):=
 (subband_may K p0 p1 p2 p3 p4 p5 p6 p7 p8 p9).bind fun r191=>
 bif (r191 != 0) then
  some (([] : List Int),([] : List (List Int)),([] : List (List (List Int))),r191)
 else
  (format_Payload K p0 p1 p2 p3 p4 p5 p6 p7 p8 p9).bind fun r192=>
  bif (0 != r192) then
   some (([] : List Int),([] : List (List Int)),([] : List (List (List Int))),140)
  else
   (bits_Open K ).bind fun _=>
   (bits_Eye_Front K 32 0 0).bind fun _r193=>
   let v194:=(List.replicate (Int.toNat p3) (0 : Int))
   gd ((0 : Int) ≤ p3 ∧ p3 ≤ p3 ∧ p3 * 8 ≤ 140737488355328) <|
   (
    bif (p6 == 1) then
     (subband_take K p3 1 0 0).bind fun r728=>
     some r728
    else
     some v194 : Option ((List Int))).bind fun x196=>
    (subband_Parse.l3 K p2 p0 p1 p3 p4 p5 p6 p7 p8 p9 x196 K 0 ([] : List (List Int)) : Option ((List (List Int)))).bind fun x205=>
     (alloc_Share K p0 p1 p2 p3 p4 p5 p6 p7 p8 p9 x205).bind fun (r206,r207)=>
     bif (r207 != 0) then
      some (([] : List Int),([] : List (List Int)),([] : List (List (List Int))),140)
     else
      (subband_Parse.l0 K r206 p4 p0 p1 p2 p3 p5 p6 p7 p8 p9 x196 x205 K 0 ([] : List (List (List Int))) : Option ((List (List (List Int))))).bind fun x376=>
       (subband_Pack K p0 p1 p2 p3 p4 p5 p6 p7 p8 p9 x196 x205 x376).bind fun z=>match z with
       | .inl r377=>
        (
         bif (r377 != 0) then
          some true
         else
          (slices_Equal_byte_byte K ).bind fun _=>
          some false : Option (Bool)).bind fun x379=>
         bif x379 then
          some (([] : List Int),([] : List (List Int)),([] : List (List (List Int))),140)
         else
          some (x196,x205,x376,0)
       | .inr r378=>
        (slices_Equal_byte_byte_2 K r378).bind fun r381=>
        bif (!r381) then
         some (([] : List Int),([] : List (List Int)),([] : List (List (List Int))),140)
        else
         some (x196,x205,x376,0)
def pcm_Part.r0 (_K : Nat) (c0 : Int) (c1 : List Int) (c2 : Int) (next : Int → List (List Int) → Option ((List (List Int)))) (x17 : Int) (x18 : List (List Int)) : Option ((List (List Int))):=
 let v21:=(decide (x17 < c2))
 bif v21 then
  let v22:=(Kd.nth (.int .i16) c1 (Int.toNat x17))
  gd ((0 : Int) ≤ x17 ∧ x17 < (c1.length : Int)) <|
  let v23:=(Int.tmod x17 c0)
  gd (c0 ≠ 0) <|
  gd (c0 ≠ 0) <|
  let v24:=(Int.toNat v23)
  gd ((0 : Int) ≤ v23 ∧ v23 < (x18.length : Int)) <|
  let v25:=(List.getD x18 v24 [])
  gd (v24 < x18.length) <|
  let v26:=(v25 ++ [v22])
  gd (((v25.length : Int) + ([v22].length : Int)) * 2 ≤ 70368744177664) <|
  gd ((0 : Int) ≤ v23 ∧ v23 < (x18.length : Int)) <|
  let v27:=(List.set x18 v24 v26)
  gd (v24 < x18.length) <|
  let v28:=(kwrap .i64 (x17 + 1))
  next v28 v27
 else
  some x18
def pcm_Part.l0 (K : Nat) (c0 : Int) (c1 : List Int) (c2 : Int) (n : Nat) : Int → List (List Int) → Option ((List (List Int))):=rounds (pcm_Part.r0 K c0 c1 c2) (fun _ _=>none) n
def pcm_Part (K : Nat) (p0 : List Int) (p1 : Int) : Option ((List (List Int)) × Int):=
 let v6:=(decide (p1 < 1))
 let v7:=(decide (p1 > 2))
 let v8:=(bif v6 then true else v7)
 let v9:=(Int.tmod (p0.length : Int) p1)
 let v10:=(bif v8 then true else (v9 != 0))
 gd (((!v8) = true → p1 ≠ 0)) <|
 bif v10 then
  some (([] : List (List Int)),1)
 else
  let v11:=(List.replicate (Int.toNat p1) ([] : List Int))
  gd ((0 : Int) ≤ p1 ∧ p1 ≤ p1 ∧ p1 * 24 ≤ 140737488355328) <|
  (pcm_Part.l0 K p1 p0 (p0.length : Int) K 0 v11 : Option ((List (List Int)))).bind fun x16=>
   some (x16,0)
def fix_Sat32 (K : Nat) (p0 : Int) : Option (Int):=
 (fix_within_int64 K p0 (-2147483648) 2147483647).bind fun r2=>
 some (kwrap .i32 r2)
def poly_rounded (K : Nat) (p0 p1 : Int) : Option (Int):=
 (fix_Round K p0 p1).bind fun r3=>
 (fix_Sat32 K r3).bind fun r4=>
 some (kwrap .i64 r4)
def poly_bands_wave (_K : Nat) (p0 p1 p2 : Int) (_p3 p4 _p5 : List Int) : Option (Int):=
 let v1:=(kwrap .i64 (8 * p2))
 let v2:=(kwrap .i64 (p0 * p1))
 let v3:=(Int.tmod v2 v1)
 gd (v1 ≠ 0) <|
 let v4:=(kwrap .i64 (v3 + v1))
 let v5:=(Int.tmod v4 v1)
 gd (v1 ≠ 0) <|
 let v6:=(Kd.nth (.int .i16) p4 (Int.toNat v5))
 gd ((0 : Int) ≤ v5 ∧ v5 < (p4.length : Int)) <|
 let v7:=(kwrap .i64 v6)
 some v7
def poly_Splitter_Feed.r1 (K : Nat) (c0 _c1 c2 c3 : Int) (c4 c5 c6 c7 _c8 : List Int) (next : Int → Int → Option (Int)) (x237 x238 : Int) : Option (Int):=
 let v243:=(decide (x238 < c2))
 bif v243 then
  let v245:=(Kd.nth (.int .i64) c7 (Int.toNat x238))
  gd ((0 : Int) ≤ x238 ∧ x238 < (c7.length : Int) ∧ (Int.toNat x238) < c7.length) <|
  let v246:=(kwrap .i64 (2 * c0))
  let v247:=(kwrap .i64 (v246 + 1))
  let v248:=(kwrap .i64 (2 * x238))
  let v249:=(kwrap .i64 (v248 - c3))
  (poly_bands_wave K v247 v249 c3 c4 c5 c6).bind fun r250=>
  let v251:=(kwrap .i64 (v245 * r250))
  let v252:=(kwrap .i64 (x237 + v251))
  let v253:=(kwrap .i64 (x238 + 1))
  next v252 v253
 else
  some x237
def poly_Splitter_Feed.l1 (K : Nat) (c0 c1 c2 c3 : Int) (c4 c5 c6 c7 c8 : List Int) (n : Nat) : Int → Int → Option (Int):=rounds (poly_Splitter_Feed.r1 K c0 c1 c2 c3 c4 c5 c6 c7 c8) (fun _ _=>none) n
def poly_Splitter_Feed.r0 (K : Nat) (c0 c1 : Int) (c2 c3 c4 c5 : List Int) (next : Int → List Int → Option ((List Int))) (x186 : Int) (x187 : List Int) : Option ((List Int)):=
 let v210:=(decide (x186 < c0))
 bif v210 then
  (poly_Splitter_Feed.l1 K x186 c0 (c5.length : Int) c1 c2 c3 c4 c5 x187 K 0 0 : Option (Int)).bind fun x229=>
   let v230:=(kwrap .i64 (Int.tdiv c1 4))
   let v231:=(kwrap .i64 (16 + v230))
   (poly_rounded K x229 v231).bind fun r232=>
   let v233:=(List.set x187 (Int.toNat x186) (kwrap .i32 r232))
   gd ((0 : Int) ≤ x186 ∧ x186 < (x187.length : Int) ∧ (Int.toNat x186) < x187.length) <|
   let v234:=(kwrap .i64 (x186 + 1))
   next v234 v233
 else
  some x187
def poly_Splitter_Feed.l0 (K : Nat) (c0 c1 : Int) (c2 c3 c4 c5 : List Int) (n : Nat) : Int → List Int → Option ((List Int)):=rounds (poly_Splitter_Feed.r0 K c0 c1 c2 c3 c4 c5) (fun _ _=>none) n
def poly_Splitter_Feed.r3 (_K : Nat) (c0 _c1 c2 : Int) (c3 _c4 c5 _c6 : List Int) (next : Int → Int → Option (Int)) (x297 x298 : Int) : Option (Int):=
 let v301:=(decide (x298 < 5))
 bif v301 then
  let v302:=(kwrap .i64 (2 * c2))
  let v303:=(kwrap .i64 (v302 * x298))
  let v304:=(kwrap .i64 (c0 + v303))
  let v305:=(Int.toNat v304)
  gd ((0 : Int) ≤ v304 ∧ v304 < (c5.length : Int)) <|
  let v306:=(Kd.nth (.int .i64) c5 v305)
  gd (v305 < c5.length) <|
  let v307:=(Kd.nth (.int .i16) c3 v305)
  gd ((0 : Int) ≤ v304 ∧ v304 < (c3.length : Int)) <|
  let v308:=(kwrap .i64 v307)
  let v309:=(kwrap .i64 (v306 * v308))
  let v310:=(kwrap .i64 (v309 - x297))
  let v311:=(kwrap .i64 (x298 + 1))
  next v310 v311
 else
  some x297
def poly_Splitter_Feed.l3 (K : Nat) (c0 c1 c2 : Int) (c3 c4 c5 c6 : List Int) (n : Nat) : Int → Int → Option (Int):=rounds (poly_Splitter_Feed.r3 K c0 c1 c2 c3 c4 c5 c6) (fun _ _=>none) n
def poly_Splitter_Feed.r2 (K : Nat) (c0 c1 : Int) (c2 c3 c4 : List Int) (next : Int → List Int → Option ((List Int))) (x266 : Int) (x267 : List Int) : Option ((List Int)):=
 let v282:=(decide (x266 < c0))
 bif v282 then
  (poly_Splitter_Feed.l3 K x266 c0 c1 c2 c3 c4 x267 K 0 0 : Option (Int)).bind fun x293=>
   (poly_rounded K (kwrap .i64 (0 - x293)) 14).bind fun r294=>
   let v295:=(List.set x267 (Int.toNat x266) r294)
   gd ((0 : Int) ≤ x266 ∧ x266 < (x267.length : Int) ∧ (Int.toNat x266) < x267.length) <|
   let v296:=(kwrap .i64 (x266 + 1))
   next v296 v295
 else
  some x267
def poly_Splitter_Feed.l2 (K : Nat) (c0 c1 : Int) (c2 c3 c4 : List Int) (n : Nat) : Int → List Int → Option ((List Int)):=rounds (poly_Splitter_Feed.r2 K c0 c1 c2 c3 c4) (fun _ _=>none) n
def poly_Splitter_Feed.r4 (_K : Nat) (c0 : List Int) (c1 c2 : Int) (_c3 _c4 : List Int) (next : Int → List Int → Option ((List Int))) (x312 : Int) (x313 : List Int) : Option ((List Int)):=
 let v316:=(decide (x312 < c1))
 bif v316 then
  let v317:=(Kd.nth (.int .i16) c0 (Int.toNat x312))
  gd ((0 : Int) ≤ x312 ∧ x312 < (c0.length : Int)) <|
  let v318:=(kwrap .i64 (c2 - 1))
  let v319:=(kwrap .i64 (v318 - x312))
  let v320:=(kwrap .i64 v317)
  let v321:=(Int.toNat v319)
  gd ((0 : Int) ≤ v319 ∧ v319 < (x313.length : Int)) <|
  let v322:=(List.set x313 v321 v320)
  gd (v321 < x313.length) <|
  let v323:=(kwrap .i64 (x312 + 1))
  next v323 v322
 else
  some x313
def poly_Splitter_Feed.l4 (K : Nat) (c0 : List Int) (c1 c2 : Int) (c3 c4 : List Int) (n : Nat) : Int → List Int → Option ((List Int)):=rounds (poly_Splitter_Feed.r4 K c0 c1 c2 c3 c4) (fun _ _=>none) n
def poly_Splitter_Feed (K : Nat) (p0 : List Int) (p1 : Int) (p2 p3 p4 : List Int) : Option ((List Int) × Int × (List Int)):=
 let v80:=((p0.length : Int) != p1)
 bif v80 then
  some (([] : List Int),1,p4)
 else
  gd ((0 : Int) ≤ p1 ∧ p1 < (p4.length : Int)) <|
  let v81:=(cpy (Int.toNat p1) p4 p4)
  gd ((Int.toNat p1) < p4.length) <|
  (poly_Splitter_Feed.l4 K p0 (p0.length : Int) p1 p2 p3 K 0 v81 : Option ((List Int))).bind fun x86=>
   let v87:=(kwrap .i64 (2 * p1))
   let v88:=(List.replicate (Int.toNat v87) (0 : Int))
   gd ((0 : Int) ≤ v87 ∧ v87 ≤ v87 ∧ v87 * 8 ≤ 140737488355328) <|
   let v89:=(v88.length : Int)
   (poly_Splitter_Feed.l2 K v89 p1 p2 p3 x86 K 0 v88 : Option ((List Int))).bind fun x118=>
    let v119:=(List.replicate (Int.toNat p1) (0 : Int))
    gd ((0 : Int) ≤ p1 ∧ p1 ≤ p1 ∧ p1 * 4 ≤ 140737488355328) <|
    let v120:=(v119.length : Int)
    (poly_Splitter_Feed.l0 K v120 p1 p2 p3 x86 x118 K 0 v119 : Option ((List Int))).bind fun x165=>
     some (x165,0,x86)
def subband_fits_1_1 (_K : Nat) (p0 : List Int) (_p1 _p2 _p3 p4 _p5 _p6 _p7 _p8 _p9 _p10 : Int) : Option (Bool):=
 let v1:=((p0.length : Int) == p4)
 some v1
def subband_shaped_int32_1 (K : Nat) (p0 : List Int) (p1 p2 p3 p4 p5 p6 p7 p8 p9 p10 : Int) : Option (Bool):=
 (subband_fits_1_1 K p0 p1 p2 p3 p4 p5 p6 p7 p8 p9 p10).bind fun r2=>
 some (!r2)
def slices_IndexFunc_int32_int32.r0 (K : Nat) (c0 : List (List Int)) (c1 c2 c3 c4 c5 c6 c7 c8 c9 c10 c11 : Int) (next : Int → Option ((Unit) ⊕ (Int))) (x15 : Int) : Option ((Unit) ⊕ (Int)):=
 let v19:=(decide (x15 < c1))
 bif v19 then
  let v21:=(Kd.nth (.slice (.int .i32)) c0 (Int.toNat x15))
  gd ((0 : Int) ≤ x15 ∧ x15 < (c0.length : Int)) <|
  (subband_shaped_int32_1 K v21 c2 c3 c4 c5 c6 c7 c8 c9 c10 c11).bind fun r22=>
  bif r22 then
   some (.inr x15)
  else
   let v23:=(kwrap .i64 (x15 + 1))
   next v23
 else
  some (.inl ())
def slices_IndexFunc_int32_int32.l0 (K : Nat) (c0 : List (List Int)) (c1 c2 c3 c4 c5 c6 c7 c8 c9 c10 c11 : Int) (n : Nat) : Int → Option ((Unit) ⊕ (Int)):=rounds (slices_IndexFunc_int32_int32.r0 K c0 c1 c2 c3 c4 c5 c6 c7 c8 c9 c10 c11) (fun _=>none) n
def slices_IndexFunc_int32_int32 (K : Nat) (p0 : List (List Int)) (p1 p2 p3 p4 p5 p6 p7 p8 p9 p10 : Int) : Option (Int):=
 (slices_IndexFunc_int32_int32.l0 K p0 (p0.length : Int) p1 p2 p3 p4 p5 p6 p7 p8 p9 p10 K 0 : Option ((Unit) ⊕ (Int))).bind fun z=>match z with
 | .inl _=>
  some (-1)
 | .inr r=>
  some r
def slices_ContainsFunc_int32_int32 (K : Nat) (p0 : List (List Int)) (p1 p2 p3 p4 p5 p6 p7 p8 p9 p10 : Int) : Option (Bool):=
 (slices_IndexFunc_int32_int32 K p0 p1 p2 p3 p4 p5 p6 p7 p8 p9 p10).bind fun r2=>
 let v3:=(decide (r2 ≥ 0))
 some v3
def subband_shaped_int32 (K : Nat) (p0 : List (List Int)) (p1 p2 p3 p4 p5 p6 p7 p8 p9 p10 p11 : Int) : Option (Bool):=
 (
  let v5:=((p0.length : Int) == p1)
  bif v5 then
   (slices_ContainsFunc_int32_int32 K p0 p2 p3 p4 p5 p6 p7 p8 p9 p10 p11).bind fun r6=>
   some (!r6)
  else
   some false : Option (Bool)).bind fun x4=>
  some x4
def subband_fits_1 (K : Nat) (p0 : List (List Int)) (p1 p2 p3 p4 p5 p6 p7 p8 p9 p10 : Int) : Option (Bool):=
 (subband_shaped_int32 K p0 p5 p1 p2 p3 p4 p5 p6 p7 p8 p9 p10).bind fun r2=>
 some r2
def subband_shaped_int32_1_2 (K : Nat) (p0 : List (List Int)) (p1 p2 p3 p4 p5 p6 p7 p8 p9 p10 : Int) : Option (Bool):=
 (subband_fits_1 K p0 p1 p2 p3 p4 p5 p6 p7 p8 p9 p10).bind fun r2=>
 some (!r2)
def slices_IndexFunc_int32_int32_2.r0 (K : Nat) (c0 : List (List (List Int))) (c1 c2 c3 c4 c5 c6 c7 c8 c9 c10 c11 : Int) (next : Int → Option ((Unit) ⊕ (Int))) (x15 : Int) : Option ((Unit) ⊕ (Int)):=
 let v19:=(decide (x15 < c1))
 bif v19 then
  let v21:=(Kd.nth (.slice (.slice (.int .i32))) c0 (Int.toNat x15))
  gd ((0 : Int) ≤ x15 ∧ x15 < (c0.length : Int)) <|
  (subband_shaped_int32_1_2 K v21 c2 c3 c4 c5 c6 c7 c8 c9 c10 c11).bind fun r22=>
  bif r22 then
   some (.inr x15)
  else
   let v23:=(kwrap .i64 (x15 + 1))
   next v23
 else
  some (.inl ())
def slices_IndexFunc_int32_int32_2.l0 (K : Nat) (c0 : List (List (List Int))) (c1 c2 c3 c4 c5 c6 c7 c8 c9 c10 c11 : Int) (n : Nat) : Int → Option ((Unit) ⊕ (Int)):=rounds (slices_IndexFunc_int32_int32_2.r0 K c0 c1 c2 c3 c4 c5 c6 c7 c8 c9 c10 c11) (fun _=>none) n
def slices_IndexFunc_int32_int32_2 (K : Nat) (p0 : List (List (List Int))) (p1 p2 p3 p4 p5 p6 p7 p8 p9 p10 : Int) : Option (Int):=
 (slices_IndexFunc_int32_int32_2.l0 K p0 (p0.length : Int) p1 p2 p3 p4 p5 p6 p7 p8 p9 p10 K 0 : Option ((Unit) ⊕ (Int))).bind fun z=>match z with
 | .inl _=>
  some (-1)
 | .inr r=>
  some r
def slices_ContainsFunc_int32_int32_2 (K : Nat) (p0 : List (List (List Int))) (p1 p2 p3 p4 p5 p6 p7 p8 p9 p10 : Int) : Option (Bool):=
 (slices_IndexFunc_int32_int32_2 K p0 p1 p2 p3 p4 p5 p6 p7 p8 p9 p10).bind fun r2=>
 let v3:=(decide (r2 ≥ 0))
 some v3
def subband_shaped_int32_2 (K : Nat) (p0 : List (List (List Int))) (p1 p2 p3 p4 p5 p6 p7 p8 p9 p10 p11 : Int) : Option (Bool):=
 (
  let v5:=((p0.length : Int) == p1)
  bif v5 then
   (slices_ContainsFunc_int32_int32_2 K p0 p2 p3 p4 p5 p6 p7 p8 p9 p10 p11).bind fun r6=>
   some (!r6)
  else
   some false : Option (Bool)).bind fun x4=>
  some x4
def subband_fits (K : Nat) (p0 p1 p2 p3 p4 p5 p6 p7 p8 p9 : Int) (p10 : List (List (List Int))) : Option (Bool):=
 (subband_shaped_int32_2 K p10 p2 p0 p1 p2 p3 p4 p5 p6 p7 p8 p9).bind fun r2=>
 some r2
def quant_bands.r0 (_K : Nat) (c0 : List (List Int)) (c1 : Int) (next : Int → Option ((Unit) ⊕ (Int))) (x10 : Int) : Option ((Unit) ⊕ (Int)):=
 let v12:=(decide (x10 < c1))
 bif v12 then
  let v13:=(Kd.nth (.slice (.int .i32)) c0 (Int.toNat x10))
  gd ((0 : Int) ≤ x10 ∧ x10 < (c0.length : Int)) <|
  let v14:=(v13.length : Int)
  let v15:=(Kd.nth (.slice (.int .i32)) c0 0)
  let v16:=(v15.length : Int)
  gd (0 < (c0.length : Int)) <|
  bif (v14 != v16) then
   some (.inr 0)
  else
   let v17:=(kwrap .i64 (x10 + 1))
   next v17
 else
  some (.inl ())
def quant_bands.l0 (K : Nat) (c0 : List (List Int)) (c1 : Int) (n : Nat) : Int → Option ((Unit) ⊕ (Int)):=rounds (quant_bands.r0 K c0 c1) (fun _=>none) n
def quant_bands (K : Nat) (p0 : List (List Int)) : Option (Int):=
 let v3:=((p0.length : Int) == 0)
 let v4:=(Kd.nth (.slice (.int .i32)) p0 0)
 let v5:=(v4.length : Int)
 let v6:=(decide (v5 > 8))
 let v7:=(bif v3 then true else v6)
 gd (((!v3) = true → 0 < (p0.length : Int))) <|
 bif v7 then
  some 0
 else
  (quant_bands.l0 K p0 (p0.length : Int) K 0 : Option ((Unit) ⊕ (Int))).bind fun z=>match z with
  | .inl _=>
   gd (0 < (p0.length : Int)) <|
   some v5
  | .inr r=>
   some r
def quant_Middle_1 (_K : Nat) (p0 p1 : Int) : Option (Int × Int):=
 let v1:=(kwrap .i64 ((kwrap .i64 p0) + (kwrap .i64 p1)))
 let v2:=(kshr .i64 v1 1)
 let v3:=(kwrap .i32 v2)
 let v4:=(kwrap .i64 ((kwrap .i64 p0) - (kwrap .i64 p1)))
 let v5:=(kshr .i64 v4 1)
 let v6:=(kwrap .i32 v5)
 some (v3,v6)
def quant_pairs.r1 (K : Nat) (c0 : List (List Int)) (c1 : Int) (_c2 : List (List Int)) (_c3 : Int) (c4 : List Int) (c5 : Int) (next : Int → List (List Int) → List (List Int) → Option ((List (List Int)) × (List (List Int)))) (x264 : Int) (x265 x266 : List (List Int)) : Option ((List (List Int)) × (List (List Int))):=
 let v274:=(decide (x264 < c5))
 bif v274 then
  let v277:=(Kd.nth (.int .i32) c4 (Int.toNat x264))
  gd ((0 : Int) ≤ x264 ∧ x264 < (c4.length : Int)) <|
  let v278:=(Kd.nth (.slice (.int .i32)) c0 (Int.toNat c1))
  let v279:=(Kd.nth (.int .i32) v278 (Int.toNat x264))
  gd ((0 : Int) ≤ c1 ∧ c1 < (c0.length : Int) ∧ (0 : Int) ≤ x264 ∧ x264 < (v278.length : Int)) <|
  (quant_Middle_1 K v277 v279).bind fun (r280,r281)=>
  gd ((0 : Int) ≤ c1 ∧ c1 < (x265.length : Int)) <|
  let v282:=(List.getD x265 (Int.toNat c1) [])
  gd ((Int.toNat c1) < x265.length) <|
  let v283:=(v282 ++ [r280])
  gd (((v282.length : Int) + ([r280].length : Int)) * 4 ≤ 70368744177664) <|
  gd ((0 : Int) ≤ c1 ∧ c1 < (x266.length : Int)) <|
  let v284:=(List.getD x266 (Int.toNat c1) [])
  gd ((Int.toNat c1) < x266.length) <|
  let v285:=(v284 ++ [r281])
  gd (((v284.length : Int) + ([r281].length : Int)) * 4 ≤ 70368744177664) <|
  gd ((0 : Int) ≤ c1 ∧ c1 < (x265.length : Int)) <|
  let v286:=(List.set x265 (Int.toNat c1) v283)
  gd ((Int.toNat c1) < x265.length) <|
  gd ((0 : Int) ≤ c1 ∧ c1 < (x266.length : Int)) <|
  let v287:=(List.set x266 (Int.toNat c1) v285)
  gd ((Int.toNat c1) < x266.length) <|
  let v288:=(kwrap .i64 (x264 + 1))
  next v288 v286 v287
 else
  some (x265,x266)
def quant_pairs.l1 (K : Nat) (c0 : List (List Int)) (c1 : Int) (c2 : List (List Int)) (c3 : Int) (c4 : List Int) (c5 : Int) (n : Nat) : Int → List (List Int) → List (List Int) → Option ((List (List Int)) × (List (List Int))):=rounds (quant_pairs.r1 K c0 c1 c2 c3 c4 c5) (fun _ _ _=>none) n
def quant_pairs.r0 (K : Nat) (c0 c1 : List (List Int)) (c2 : Int) (next : Int → List (List Int) → List (List Int) → Option ((List (List Int)) × (List (List Int)))) (x186 : Int) (x187 x188 : List (List Int)) : Option ((List (List Int)) × (List (List Int))):=
 let v224:=(decide (x186 < c2))
 bif v224 then
  let v241:=(Kd.nth (.slice (.int .i32)) c1 (Int.toNat x186))
  gd ((0 : Int) ≤ x186 ∧ x186 < (c1.length : Int)) <|
  let v242:=(v241.length : Int)
  (quant_pairs.l1 K c0 x186 c1 c2 v241 v242 K 0 x187 x188 : Option ((List (List Int)) × (List (List Int)))).bind fun (x257,x258)=>
   let v259:=(kwrap .i64 (x186 + 1))
   next v259 x257 x258
 else
  some (x187,x188)
def quant_pairs.l0 (K : Nat) (c0 c1 : List (List Int)) (c2 : Int) (n : Nat) : Int → List (List Int) → List (List Int) → Option ((List (List Int)) × (List (List Int))):=rounds (quant_pairs.r0 K c0 c1 c2) (fun _ _ _=>none) n
def quant_pairs (K : Nat) (p0 p1 : List (List Int)) : Option ((List (List Int)) × (List (List Int)) × Int):=
 (
  (quant_bands K p0).bind fun r289=>
  bif (r289 == 0) then
   some true
  else
   (quant_bands K p0).bind fun r290=>
   (quant_bands K p1).bind fun r291=>
   let v292:=(r290 != r291)
   let v293:=((p0.length : Int) != (p1.length : Int))
   let v294:=(bif v292 then true else v293)
   some v294 : Option (Bool)).bind fun x80=>
  bif x80 then
   some (([] : List (List Int)),([] : List (List Int)),1)
  else
   let v81:=(List.replicate (Int.toNat (p0.length : Int)) ([] : List Int))
   gd ((0 : Int) ≤ (p0.length : Int) ∧ (p0.length : Int) ≤ (p0.length : Int) ∧ (p0.length : Int) * 24 ≤ 140737488355328) <|
   gd ((0 : Int) ≤ (p0.length : Int) ∧ (p0.length : Int) ≤ (p0.length : Int) ∧ (p0.length : Int) * 24 ≤ 140737488355328) <|
   (quant_pairs.l0 K p1 p0 (p0.length : Int) K 0 v81 v81 : Option ((List (List Int)) × (List (List Int)))).bind fun (x152,x153)=>
    some (x152,x153,0)
def quant_Middle (K : Nat) (p0 p1 : List (List Int)) : Option ((List (List Int)) × (List (List Int)) × Int):=
 (quant_pairs K p0 p1).bind fun (r4,r5,r6)=>
 some (r4,r5,r6)
def quant_Scale.r0 (_K : Nat) (c0 : Int) (next : Int → Option (Int)) (x7 : Int) : Option (Int):=
 let v9:=(decide (x7 < 15))
 let v10:=(kshl .i64 2 x7)
 let v11:=(decide (c0 ≥ v10))
 let v12:=(bif v9 then v11 else false)
 gd ((v9 = true → (0 : Int) ≤ x7)) <|
 bif v12 then
  let v13:=(kwrap .i64 (x7 + 1))
  next v13
 else
  some x7
def quant_Scale.l0 (K : Nat) (c0 : Int) (n : Nat) : Int → Option (Int):=rounds (quant_Scale.r0 K c0) (fun _=>none) n
def quant_Scale (K : Nat) (p0 : Int) : Option (Int):=
 (quant_Scale.l0 K p0 K 0 : Option (Int)).bind fun x6=>
  some x6
def quant_Scales.r0 (K : Nat) (c0 : Int) (c1 : List Int) (next : Int → List Int → Option ((List Int))) (x74 : Int) (x75 : List Int) : Option ((List Int)):=
 let v80:=(decide (x74 < c0))
 bif v80 then
  let v82:=(Kd.nth (.int .i64) c1 (Int.toNat x74))
  gd ((0 : Int) ≤ x74 ∧ x74 < (c1.length : Int) ∧ (Int.toNat x74) < c1.length) <|
  (quant_Scale K v82).bind fun r83=>
  let v84:=(List.set x75 (Int.toNat x74) r83)
  gd ((0 : Int) ≤ x74 ∧ x74 < (x75.length : Int) ∧ (Int.toNat x74) < x75.length) <|
  let v85:=(kwrap .i64 (x74 + 1))
  next v85 v84
 else
  some x75
def quant_Scales.l0 (K : Nat) (c0 : Int) (c1 : List Int) (n : Nat) : Int → List Int → Option ((List Int)):=rounds (quant_Scales.r0 K c0 c1) (fun _ _=>none) n
def quant_Scales.r2 (_K : Nat) (_c0 : Int) (_c1 : List (List Int)) (_c2 _c3 : Int) (c4 : List Int) (c5 : Int) (next : Int → List Int → Option ((List Int))) (x124 : Int) (x125 : List Int) : Option ((List Int)):=
 let v128:=(decide (x124 < c5))
 bif v128 then
  let v129:=(Kd.nth (.int .i32) c4 (Int.toNat x124))
  gd ((0 : Int) ≤ x124 ∧ x124 < (c4.length : Int)) <|
  let v130:=(Kd.nth (.int .i64) x125 (Int.toNat x124))
  let v131:=(kwrap .i64 v129)
  let v132:=(kwrap .i64 (0 - v131))
  let v133:=(imax (imax v130 v131) v132)
  let v134:=(List.set x125 (Int.toNat x124) v133)
  gd ((0 : Int) ≤ x124 ∧ x124 < (x125.length : Int) ∧ (Int.toNat x124) < x125.length ∧ (0 : Int) ≤ x124 ∧ x124 < (x125.length : Int) ∧ (Int.toNat x124) < x125.length) <|
  let v135:=(kwrap .i64 (x124 + 1))
  next v135 v134
 else
  some x125
def quant_Scales.l2 (K : Nat) (c0 : Int) (c1 : List (List Int)) (c2 c3 : Int) (c4 : List Int) (c5 : Int) (n : Nat) : Int → List Int → Option ((List Int)):=rounds (quant_Scales.r2 K c0 c1 c2 c3 c4 c5) (fun _ _=>none) n
def quant_Scales.r1 (K : Nat) (c0 : Int) (c1 : List (List Int)) (c2 : Int) (next : Int → List Int → Option ((List Int))) (x96 : Int) (x97 : List Int) : Option ((List Int)):=
 let v110:=(decide (x96 < c2))
 bif v110 then
  let v116:=(Kd.nth (.slice (.int .i32)) c1 (Int.toNat x96))
  gd ((0 : Int) ≤ x96 ∧ x96 < (c1.length : Int)) <|
  let v117:=(v116.length : Int)
  (quant_Scales.l2 K c0 c1 c2 x96 v116 v117 K 0 x97 : Option ((List Int))).bind fun x122=>
   let v123:=(kwrap .i64 (x96 + 1))
   next v123 x122
 else
  some x97
def quant_Scales.l1 (K : Nat) (c0 : Int) (c1 : List (List Int)) (c2 : Int) (n : Nat) : Int → List Int → Option ((List Int)):=rounds (quant_Scales.r1 K c0 c1 c2) (fun _ _=>none) n
def quant_Scales (K : Nat) (p0 : List (List Int)) : Option ((List Int) × Int):=
 (quant_bands K p0).bind fun r36=>
 bif (r36 == 0) then
  some (([] : List Int),1)
 else
  let v37:=(List.replicate (Int.toNat r36) (0 : Int))
  gd ((0 : Int) ≤ r36 ∧ r36 ≤ r36 ∧ r36 * 8 ≤ 140737488355328) <|
  (quant_Scales.l1 K r36 p0 (p0.length : Int) K 0 v37 : Option ((List Int))).bind fun x62=>
   gd ((0 : Int) ≤ r36 ∧ r36 ≤ r36 ∧ r36 * 8 ≤ 140737488355328) <|
   (quant_Scales.l0 K (x62.length : Int) x62 K 0 v37 : Option ((List Int))).bind fun x71=>
    some (x71,0)
def quant_Joins.r0 (_K : Nat) (c0 : Int) (c1 c2 c3 c4 : List Int) (next : Int → List (Bool) → Option ((List (Bool)))) (x62 : Int) (x63 : List (Bool)) : Option ((List (Bool))):=
 let v66:=(decide (x62 < c0))
 bif v66 then
  let v67:=(Kd.nth (.int .i64) c1 (Int.toNat x62))
  gd ((0 : Int) ≤ x62 ∧ x62 < (c1.length : Int)) <|
  let v68:=(Kd.nth (.int .i64) c2 (Int.toNat x62))
  gd ((0 : Int) ≤ x62 ∧ x62 < (c2.length : Int)) <|
  let v69:=(kwrap .i64 (v67 + v68))
  let v70:=(Kd.nth (.int .i64) c3 (Int.toNat x62))
  gd ((0 : Int) ≤ x62 ∧ x62 < (c3.length : Int)) <|
  let v71:=(Kd.nth (.int .i64) c4 (Int.toNat x62))
  gd ((0 : Int) ≤ x62 ∧ x62 < (c4.length : Int)) <|
  let v72:=(kwrap .i64 (v70 + v71))
  let v73:=(decide (v69 > v72))
  gd ((0 : Int) ≤ x62 ∧ x62 < (x63.length : Int)) <|
  let v74:=(List.set x63 (Int.toNat x62) v73)
  gd ((Int.toNat x62) < x63.length) <|
  let v75:=(kwrap .i64 (x62 + 1))
  next v75 v74
 else
  some x63
def quant_Joins.l0 (K : Nat) (c0 : Int) (c1 c2 c3 c4 : List Int) (n : Nat) : Int → List (Bool) → Option ((List (Bool))):=rounds (quant_Joins.r0 K c0 c1 c2 c3 c4) (fun _ _=>none) n
def quant_Joins (K : Nat) (p0 p1 : List (List Int)) : Option ((List (Bool)) × Int):=
 (quant_Middle K p0 p1).bind fun (r29,r30,r31)=>
 bif (r31 != 0) then
  some (([] : List (Bool)),r31)
 else
  (
   (quant_Scales K p0).bind fun (r78,_r79)=>
   (quant_Scales K p1).bind fun (r82,_r83)=>
   (quant_Scales K r29).bind fun (r86,_r87)=>
   (quant_Scales K r30).bind fun (r90,_r91)=>
   some (r78,r82,r86,r90) : Option ((List Int) × (List Int) × (List Int) × (List Int))).bind fun (x48,x49,x50,x51)=>
   let v52:=(List.replicate (Int.toNat (x48.length : Int)) (false : Bool))
   gd ((0 : Int) ≤ (x48.length : Int) ∧ (x48.length : Int) ≤ (x48.length : Int) ∧ (x48.length : Int) * 1 ≤ 140737488355328) <|
   let v53:=(v52.length : Int)
   let v54:=(kwrap .i64 (v53 - 1))
   let v55:=(Int.toNat v54)
   let v56:=((v55 : Nat) : Int)
   gd ((0 : Int) ≤ v54 ∧ v54 ≤ (v52.length : Int) ∧ v52 ≠ []) <|
   (quant_Joins.l0 K v56 x48 x49 x50 x51 K 0 v52 : Option ((List (Bool)))).bind fun x61=>
    some (x61,0)
def slices_Index_int_int_2.r0 (_K : Nat) (c0 c1 : Int) (c2 : List Int) (next : Int → Option ((Unit) ⊕ (Int))) (x5 : Int) : Option ((Unit) ⊕ (Int)):=
 let v7:=(decide (x5 < c1))
 bif v7 then
  let v8:=(Kd.nth (.int .i64) c2 (Int.toNat x5))
  gd ((0 : Int) ≤ x5 ∧ x5 < (c2.length : Int) ∧ (Int.toNat x5) < c2.length) <|
  bif (c0 == v8) then
   some (.inr x5)
  else
   let v9:=(kwrap .i64 (x5 + 1))
   next v9
 else
  some (.inl ())
def slices_Index_int_int_2.l0 (K : Nat) (c0 c1 : Int) (c2 : List Int) (n : Nat) : Int → Option ((Unit) ⊕ (Int)):=rounds (slices_Index_int_int_2.r0 K c0 c1 c2) (fun _=>none) n
def slices_Index_int_int_2 (K : Nat) (p0 : Int) (p1 : List Int) : Option (Int):=
 (slices_Index_int_int_2.l0 K p0 (p1.length : Int) p1 K 0 : Option ((Unit) ⊕ (Int))).bind fun z=>match z with
 | .inl _=>
  some (-1)
 | .inr r=>
  some r
def slices_Contains_int_int_2 (K : Nat) (p0 : Int) (p1 : List Int) : Option (Bool):=
 (slices_Index_int_int_2 K p0 p1).bind fun r2=>
 let v3:=(decide (r2 ≥ 0))
 some v3
def slices_Clone_int32_int32 (_K : Nat) (p0 : List Int) : Option ((List Int)):=
 gd (p0 ≠ []) <|
 let v1:=(([] : List Int) ++ p0)
 gd (((([] : List Int).length : Int) + (p0.length : Int)) * 4 ≤ 70368744177664) <|
 some v1
def subband_clone.r0 (K : Nat) (c0 : List (List Int)) (c1 : Int) (next : Int → List (List Int) → Option ((List (List Int)))) (x22 : Int) (x23 : List (List Int)) : Option ((List (List Int))):=
 let v28:=(decide (x22 < c1))
 bif v28 then
  let v30:=(Kd.nth (.slice (.int .i32)) c0 (Int.toNat x22))
  gd ((0 : Int) ≤ x22 ∧ x22 < (c0.length : Int)) <|
  (slices_Clone_int32_int32 K v30).bind fun r31=>
  let v32:=(List.set x23 (Int.toNat x22) r31)
  gd ((0 : Int) ≤ x22 ∧ x22 < (x23.length : Int) ∧ (Int.toNat x22) < x23.length) <|
  let v33:=(kwrap .i64 (x22 + 1))
  next v33 v32
 else
  some x23
def subband_clone.l0 (K : Nat) (c0 : List (List Int)) (c1 : Int) (n : Nat) : Int → List (List Int) → Option ((List (List Int))):=rounds (subband_clone.r0 K c0 c1) (fun _ _=>none) n
def subband_clone (K : Nat) (p0 : List (List Int)) : Option ((List (List Int))):=
 let v10:=(List.replicate (Int.toNat (p0.length : Int)) ([] : List Int))
 gd ((0 : Int) ≤ (p0.length : Int) ∧ (p0.length : Int) ≤ (p0.length : Int) ∧ (p0.length : Int) * 24 ≤ 140737488355328) <|
 (subband_clone.l0 K p0 (p0.length : Int) K 0 v10 : Option ((List (List Int)))).bind fun x19=>
  some x19
def subband_Params_swapped_1.r0 (_K : Nat) (c0 c1 : Int) (c2 c3 : List (List Int)) (next : Int → List (List Int) → List (List Int) → Option ((List (List Int)) × (List (List Int)))) (x17 : Int) (x18 x19 : List (List Int)) : Option ((List (List Int)) × (List (List Int))):=
 let v23:=(decide (x17 < c1))
 bif v23 then
  gd ((0 : Int) ≤ x17 ∧ x17 < (x18.length : Int)) <|
  let v24:=(List.getD x18 (Int.toNat x17) [])
  gd ((Int.toNat x17) < x18.length) <|
  gd ((0 : Int) ≤ x17 ∧ x17 < (x19.length : Int)) <|
  let v25:=(List.getD x19 (Int.toNat x17) [])
  gd ((Int.toNat x17) < x19.length) <|
  let v26:=(Kd.nth (.slice (.int .i32)) c2 (Int.toNat x17))
  gd ((0 : Int) ≤ x17 ∧ x17 < (c2.length : Int)) <|
  let v27:=(Kd.nth (.int .i32) v26 (Int.toNat c0))
  gd ((0 : Int) ≤ c0 ∧ c0 < (v26.length : Int)) <|
  let v28:=(Kd.nth (.slice (.int .i32)) c3 (Int.toNat x17))
  gd ((0 : Int) ≤ x17 ∧ x17 < (c3.length : Int)) <|
  let v29:=(Kd.nth (.int .i32) v28 (Int.toNat c0))
  gd ((0 : Int) ≤ c0 ∧ c0 < (v28.length : Int)) <|
  gd ((0 : Int) ≤ c0 ∧ c0 < (v24.length : Int)) <|
  let v30:=(List.set v24 (Int.toNat c0) v27)
  gd ((Int.toNat c0) < v24.length) <|
  gd ((0 : Int) ≤ c0 ∧ c0 < (v25.length : Int)) <|
  let v31:=(List.set v25 (Int.toNat c0) v29)
  gd ((Int.toNat c0) < v25.length) <|
  let v32:=(kwrap .i64 (x17 + 1))
  next v32 (List.set x18 (Int.toNat x17) v30) (List.set x19 (Int.toNat x17) v31)
 else
  some (x18,x19)
def subband_Params_swapped_1.l0 (K : Nat) (c0 c1 : Int) (c2 c3 : List (List Int)) (n : Nat) : Int → List (List Int) → List (List Int) → Option ((List (List Int)) × (List (List Int))):=rounds (subband_Params_swapped_1.r0 K c0 c1 c2 c3) (fun _ _ _=>none) n
def subband_Params_swapped_1 (K : Nat) (p0 : Int) (p1 p2 p3 p4 : List (List Int)) : Option ((List (List Int)) × (List (List Int))):=
 (subband_Params_swapped_1.l0 K p0 (p1.length : Int) p1 p2 K 0 p3 p4 : Option ((List (List Int)) × (List (List Int)))).bind fun (x15,x16)=>
  some (x15,x16)
def subband_Params_each.r0 (K : Nat) (c0 : Int) (c1 c2 : List (List Int)) (c3 : List Int) (next : Int → List (List Int) → List (List Int) → Option ((List (List Int)) × (List (List Int)))) (x37 : Int) (x38 x39 : List (List Int)) : Option ((List (List Int)) × (List (List Int))):=
 let v47:=(decide (x37 < c0))
 bif v47 then
  (
   let v53:=(Kd.nth (.int .i64) c3 (Int.toNat x37))
   gd ((0 : Int) ≤ x37 ∧ x37 < (c3.length : Int) ∧ (Int.toNat x37) < c3.length) <|
   bif (v53 == 1) then
    (subband_Params_swapped_1 K x37 c1 c2 x38 x39).bind fun (r54,r55)=>
    some (r54,r55)
   else
    some (x38,x39) : Option ((List (List Int)) × (List (List Int)))).bind fun (x50,x51)=>
   let v52:=(kwrap .i64 (x37 + 1))
   next v52 x50 x51
 else
  some (x38,x39)
def subband_Params_each.l0 (K : Nat) (c0 : Int) (c1 c2 : List (List Int)) (c3 : List Int) (n : Nat) : Int → List (List Int) → List (List Int) → Option ((List (List Int)) × (List (List Int))):=rounds (subband_Params_each.r0 K c0 c1 c2 c3) (fun _ _ _=>none) n
def subband_Params_each (K : Nat) (p0 p1 : List (List Int)) (p2 : List Int) (p3 p4 : List (List Int)) : Option ((List (List Int)) × (List (List Int))):=
 (subband_Params_each.l0 K (p2.length : Int) p0 p1 p2 K 0 p3 p4 : Option ((List (List Int)) × (List (List Int)))).bind fun (x31,x32)=>
  some (x31,x32)
def subband_Params_swapped (K : Nat) (p0 : List (List (List Int))) (p1 : List Int) : Option ((List (List (List Int)))):=
 (slices_Contains_int_int_2 K 1 p1).bind fun r9=>
 bif (!r9) then
  some p0
 else
  let v10:=(Kd.nth (.slice (.slice (.int .i32))) p0 0)
  gd (0 < (p0.length : Int)) <|
  let v11:=(Kd.nth (.slice (.slice (.int .i32))) p0 1)
  gd (1 < (p0.length : Int)) <|
  (quant_Middle K v10 v11).bind fun (r12,r13,_r14)=>
  gd (0 < (p0.length : Int)) <|
  (subband_clone K v10).bind fun r15=>
  gd (1 < (p0.length : Int)) <|
  (subband_clone K v11).bind fun r16=>
  (subband_Params_each K r12 r13 p1 r15 r16).bind fun (r17,r18)=>
  some ([r17,r18])
def quant_Quant (K : Nat) (p0 p1 p2 : Int) : Option (Int × Int):=
 (quant_may K p1 p2).bind fun r5=>
 bif (!r5) then
  some (0,1)
 else
  bif (p2 == 0) then
   some (0,0)
  else
   let v6:=(kshl .i64 2 p1)
   gd ((0 : Int) ≤ p1) <|
   let v7:=(kshl .i64 1 p2)
   gd ((0 : Int) ≤ p2) <|
   let v8:=(kwrap .i64 (v7 - 1))
   let v9:=(kwrap .i64 (1 - v6))
   let v10:=(kwrap .i64 (v6 - 1))
   (fix_Clip K (kwrap .i64 p0) v9 v10).bind fun r11=>
   let v12:=(kwrap .i64 (r11 * v8))
   let v13:=(kwrap .i64 (p1 + 1))
   let v14:=(kshr .i64 v12 v13)
   let v15:=(kwrap .i64 (v14 + v8))
   let v16:=(kshr .i64 v15 1)
   gd ((0 : Int) ≤ v13) <|
   some (v16,0)
def subband_Analyse.r2 (K : Nat) (_c0 : List (List (List Int))) (c1 : List (List Int)) (c2 c3 _c4 _c5 : Int) (c6 : List Int) (c7 _c8 _c9 _c10 _c11 _c12 _c13 _c14 _c15 _c16 _c17 : Int) (c18 : List (List Int)) (_c19 : List Int) (c20 : List (List (List Int))) (_c21 : Nat) (next : Int → List (List Int) → Option ((List (List Int)))) (x966 : Int) (x967 : List (List Int)) : Option ((List (List Int))):=
 let v974:=(decide (x966 < c7))
 bif v974 then
  let v977:=(Kd.nth (.int .i32) c6 (Int.toNat x966))
  gd ((0 : Int) ≤ x966 ∧ x966 < (c6.length : Int)) <|
  let v978:=(Kd.nth (.slice (.int .i64)) c18 (Int.toNat c3))
  gd ((0 : Int) ≤ c3 ∧ c3 < (c18.length : Int)) <|
  let v979:=(Kd.nth (.int .i64) v978 (Int.toNat x966))
  gd ((0 : Int) ≤ x966 ∧ x966 < (v978.length : Int)) <|
  let v980:=(Kd.nth (.slice (.int .i64)) c1 (Int.toNat c3))
  gd ((0 : Int) ≤ c3 ∧ c3 < (c1.length : Int)) <|
  let v981:=(Kd.nth (.int .i64) v980 (Int.toNat x966))
  gd ((0 : Int) ≤ x966 ∧ x966 < (v980.length : Int)) <|
  (quant_Quant K v977 v979 v981).bind fun (r982,_r983)=>
  gd ((0 : Int) ≤ c2 ∧ c2 < (c20.length : Int)) <|
  gd ((0 : Int) ≤ c2 ∧ c2 < (c20.length : Int)) <|
  gd ((0 : Int) ≤ c3 ∧ c3 < (x967.length : Int)) <|
  let v984:=(List.getD x967 (Int.toNat c3) [])
  gd ((Int.toNat c3) < x967.length) <|
  let v985:=(v984 ++ [r982])
  gd (((v984.length : Int) + ([r982].length : Int)) * 8 ≤ 70368744177664) <|
  gd ((0 : Int) ≤ c3 ∧ c3 < (x967.length : Int)) <|
  let v986:=(List.set x967 (Int.toNat c3) v985)
  gd ((Int.toNat c3) < x967.length) <|
  let v987:=(kwrap .i64 (x966 + 1))
  next v987 v986
 else
  some x967
def subband_Analyse.l2 (K : Nat) (c0 : List (List (List Int))) (c1 : List (List Int)) (c2 c3 c4 c5 : Int) (c6 : List Int) (c7 c8 c9 c10 c11 c12 c13 c14 c15 c16 c17 : Int) (c18 : List (List Int)) (c19 : List Int) (c20 : List (List (List Int))) (c21 n : Nat) : Int → List (List Int) → Option ((List (List Int))):=rounds (subband_Analyse.r2 K c0 c1 c2 c3 c4 c5 c6 c7 c8 c9 c10 c11 c12 c13 c14 c15 c16 c17 c18 c19 c20 c21) (fun _ _=>none) n
def subband_Analyse.r1 (K : Nat) (c0 : List (List (List Int))) (c1 : List (List Int)) (c2 c3 c4 c5 c6 c7 c8 c9 c10 c11 c12 c13 c14 : Int) (c15 : List (List Int)) (c16 : List Int) (c17 : List (List (List Int))) (c18 : Nat) (next : Int → List (List Int) → Option ((List (List Int)))) (x901 : Int) (x902 : List (List Int)) : Option ((List (List Int))):=
 let v931:=(decide (x901 < c4))
 bif v931 then
  let v945:=(Kd.nth (.slice (.slice (.int .i32))) c0 (Int.toNat x901))
  let v946:=(Kd.nth (.slice (.int .i32)) v945 c18)
  let v947:=(v946.length : Int)
  gd ((0 : Int) ≤ x901 ∧ x901 < (c0.length : Int) ∧ (0 : Int) ≤ c2 ∧ c2 < (v945.length : Int)) <|
  (subband_Analyse.l2 K c0 c1 c2 x901 c3 c4 v946 v947 c5 c6 c7 c8 c9 c10 c11 c12 c13 c14 c15 c16 c17 c18 K 0 x902 : Option ((List (List Int)))).bind fun x960=>
   let v961:=(kwrap .i64 (x901 + 1))
   next v961 x960
 else
  some x902
def subband_Analyse.l1 (K : Nat) (c0 : List (List (List Int))) (c1 : List (List Int)) (c2 c3 c4 c5 c6 c7 c8 c9 c10 c11 c12 c13 c14 : Int) (c15 : List (List Int)) (c16 : List Int) (c17 : List (List (List Int))) (c18 n : Nat) : Int → List (List Int) → Option ((List (List Int))):=rounds (subband_Analyse.r1 K c0 c1 c2 c3 c4 c5 c6 c7 c8 c9 c10 c11 c12 c13 c14 c15 c16 c17 c18) (fun _ _=>none) n
def subband_Analyse.r0 (K : Nat) (c0 : List (List (List Int))) (c1 : List (List Int)) (c2 c3 c4 c5 c6 c7 c8 c9 c10 c11 c12 : Int) (c13 : List (List Int)) (c14 : List Int) (next : Int → List (List (List Int)) → Option ((List (List (List Int))))) (x640 : Int) (x641 : List (List (List Int))) : Option ((List (List (List Int)))):=
 let v758:=(decide (x640 < c2))
 bif v758 then
  let v816:=(List.replicate (Int.toNat c5) ([] : List Int))
  gd ((0 : Int) ≤ c5 ∧ c5 ≤ c5 ∧ c5 * 24 ≤ 140737488355328) <|
  gd ((0 : Int) ≤ x640 ∧ x640 < (x641.length : Int)) <|
  gd ((Int.toNat x640) < x641.length) <|
  (subband_Analyse.l1 K c0 c1 x640 c2 (c0.length : Int) c3 c4 c5 c6 c7 c8 c9 c10 c11 c12 c13 c14 x641 (Int.toNat x640) K 0 v816 : Option ((List (List Int)))).bind fun x873=>
   let v874:=(kwrap .i64 (x640 + 1))
   next v874 (List.set x641 (Int.toNat x640) x873)
 else
  some x641
def subband_Analyse.l0 (K : Nat) (c0 : List (List (List Int))) (c1 : List (List Int)) (c2 c3 c4 c5 c6 c7 c8 c9 c10 c11 c12 : Int) (c13 : List (List Int)) (c14 : List Int) (n : Nat) : Int → List (List (List Int)) → Option ((List (List (List Int)))):=rounds (subband_Analyse.r0 K c0 c1 c2 c3 c4 c5 c6 c7 c8 c9 c10 c11 c12 c13 c14) (fun _ _=>none) n
def subband_Analyse.r3 (K : Nat) (c0 : List (List (List Int))) (c1 _c2 _c3 _c4 _c5 _c6 _c7 _c8 _c9 _c10 _c11 : Int) (_c12 : List Int) (next : Int → List (List Int) → Option ((List (List Int)))) (x992 : Int) (x993 : List (List Int)) : Option ((List (List Int))):=
 let v1000:=(decide (x992 < c1))
 bif v1000 then
  let v1003:=(Kd.nth (.slice (.slice (.int .i32))) c0 (Int.toNat x992))
  gd ((0 : Int) ≤ x992 ∧ x992 < (c0.length : Int)) <|
  (quant_Scales K v1003).bind fun (r1004,_r1005)=>
  let v1006:=(x993 ++ [r1004])
  gd (((x993.length : Int) + ([r1004].length : Int)) * 24 ≤ 70368744177664) <|
  let v1007:=(kwrap .i64 (x992 + 1))
  next v1007 v1006
 else
  some x993
def subband_Analyse.l3 (K : Nat) (c0 : List (List (List Int))) (c1 c2 c3 c4 c5 c6 c7 c8 c9 c10 c11 : Int) (c12 : List Int) (n : Nat) : Int → List (List Int) → Option ((List (List Int))):=rounds (subband_Analyse.r3 K c0 c1 c2 c3 c4 c5 c6 c7 c8 c9 c10 c11 c12) (fun _ _=>none) n
def subband_Analyse.r4 (_K : Nat) (_c0 : List (List (List Int))) (c1 : List (Bool)) (c2 _c3 _c4 _c5 _c6 _c7 _c8 _c9 _c10 _c11 _c12 : Int) (next : Int → List Int → Option ((List Int))) (x1020 : Int) (x1021 : List Int) : Option ((List Int)):=
 let v1025:=(decide (x1020 < c2))
 bif v1025 then
  (
   let v1028:=(Kd.nth (.bool) c1 (Int.toNat x1020))
   gd ((0 : Int) ≤ x1020 ∧ x1020 < (c1.length : Int)) <|
   bif v1028 then
    let v1029:=(List.set x1021 (Int.toNat x1020) 1)
    gd ((0 : Int) ≤ x1020 ∧ x1020 < (x1021.length : Int) ∧ (Int.toNat x1020) < x1021.length) <|
    some v1029
   else
    some x1021 : Option ((List Int))).bind fun x1026=>
   let v1027:=(kwrap .i64 (x1020 + 1))
   next v1027 x1026
 else
  some x1021
def subband_Analyse.l4 (K : Nat) (c0 : List (List (List Int))) (c1 : List (Bool)) (c2 c3 c4 c5 c6 c7 c8 c9 c10 c11 c12 : Int) (n : Nat) : Int → List Int → Option ((List Int)):=rounds (subband_Analyse.r4 K c0 c1 c2 c3 c4 c5 c6 c7 c8 c9 c10 c11 c12) (fun _ _=>none) n
def subband_Analyse (K : Nat) (p0 p1 p2 p3 p4 p5 p6 p7 p8 p9 : Int) (p10 : List (List (List Int))) : Option ((List Int) × (List (List Int)) × (List (List (List Int))) × Int):=
 (subband_may K p0 p1 p2 p3 p4 p5 p6 p7 p8 p9).bind fun r262=>
 bif (r262 != 0) then
  some (([] : List Int),([] : List (List Int)),([] : List (List (List Int))),r262)
 else
  (subband_fits K p0 p1 p2 p3 p4 p5 p6 p7 p8 p9 p10).bind fun r263=>
  bif (!r263) then
   some (([] : List Int),([] : List (List Int)),([] : List (List (List Int))),1)
  else
   let v264:=(List.replicate (Int.toNat p3) (0 : Int))
   gd ((0 : Int) ≤ p3 ∧ p3 ≤ p3 ∧ p3 * 8 ≤ 140737488355328) <|
   (
    bif (p6 == 1) then
     let v1008:=(Kd.nth (.slice (.slice (.int .i32))) p10 0)
     gd (0 < (p10.length : Int)) <|
     let v1009:=(Kd.nth (.slice (.slice (.int .i32))) p10 1)
     gd (1 < (p10.length : Int)) <|
     (quant_Joins K v1008 v1009).bind fun (r1010,_r1011)=>
     (subband_Analyse.l4 K p10 r1010 (r1010.length : Int) p0 p1 p2 p3 p4 p5 p6 p7 p8 p9 K 0 v264 : Option ((List Int))).bind fun x1018=>
      some x1018
    else
     some v264 : Option ((List Int))).bind fun x274=>
    (subband_Params_swapped K p10 x274).bind fun r275=>
    (subband_Analyse.l3 K r275 (r275.length : Int) p0 p1 p2 p3 p4 p5 p6 p7 p8 p9 x274 K 0 ([] : List (List Int)) : Option ((List (List Int)))).bind fun x288=>
     (alloc_Share K p0 p1 p2 p3 p4 p5 p6 p7 p8 p9 x288).bind fun (r289,_r290)=>
     let v291:=(List.replicate (Int.toNat p4) ([] : List (List Int)))
     gd ((0 : Int) ≤ p4 ∧ p4 ≤ p4 ∧ p4 * 24 ≤ 140737488355328) <|
     let v292:=(v291.length : Int)
     (subband_Analyse.l0 K r275 r289 v292 p0 p1 p2 p3 p4 p5 p6 p7 p8 p9 x288 x274 K 0 v291 : Option ((List (List (List Int))))).bind fun x525=>
      some (x274,x288,x525,0)
def subband_Encoder_Feed_2.r1 (K : Nat) (c0 : List Int) (_c1 : List (List Int)) (_c2 _c3 _c4 _c5 c6 _c7 _c8 _c9 _c10 _c11 _c12 c13 : Int) (c14 c15 : List Int) (next : Int → Int → List Int → List (List (List Int)) → Option (Int × (List Int) × (List (List (List Int))))) (x356 x357 : Int) (x358 : List Int) (x359 : List (List (List Int))) : Option (Int × (List Int) × (List (List (List Int)))):=
 let v370:=(c0.length : Int)
 let v371:=(decide (x357 < v370))
 bif v371 then
  bif x356 == 0 then
   let v375:=(kwrap .i64 (x357 + c6))
   let v376:=((c0.take (Int.toNat v375)).drop (Int.toNat x357))
   gd ((0 : Int) ≤ x357 ∧ x357 ≤ v375 ∧ v375 ≤ v370) <|
   (poly_Splitter_Feed K v376 c13 c14 c15 x358).bind fun (r377,_r378,r379)=>
   let v380:=(List.getD x359 0 [])
   let v381:=(v380 ++ [r377])
   let v382:=(List.set x359 0 v381)
   gd (0 < (x359.length : Int) ∧ 0 < x359.length ∧ ((v380.length : Int) + ([r377].length : Int)) * 24 ≤ 70368744177664 ∧ 0 < (x359.length : Int) ∧ 0 < x359.length) <|
   next 0 v375 r379 v382
  else
   none
 else
  some (x356,x358,x359)
def subband_Encoder_Feed_2.l1 (K : Nat) (c0 : List Int) (c1 : List (List Int)) (c2 c3 c4 c5 c6 c7 c8 c9 c10 c11 c12 c13 : Int) (c14 c15 : List Int) (n : Nat) : Int → Int → List Int → List (List (List Int)) → Option (Int × (List Int) × (List (List (List Int)))):=rounds (subband_Encoder_Feed_2.r1 K c0 c1 c2 c3 c4 c5 c6 c7 c8 c9 c10 c11 c12 c13 c14 c15) (fun _ _ _ _=>none) n
def subband_Encoder_Feed_2.r0 (K : Nat) (c0 : List (List Int)) (c1 c2 c3 c4 c5 c6 c7 c8 c9 c10 c11 c12 : Int) (c13 c14 : List Int) (next : Int → List Int → List (List (List Int)) → Option ((List Int) × (List (List (List Int))))) (x249 : Int) (x250 : List Int) (x251 : List (List (List Int))) : Option ((List Int) × (List (List (List Int)))):=
 let v301:=(decide (x249 < c1))
 bif v301 then
  let v325:=(Kd.nth (.slice (.int .i16)) c0 (Int.toNat x249))
  gd ((0 : Int) ≤ x249 ∧ x249 < (c0.length : Int)) <|
  (subband_Encoder_Feed_2.l1 K v325 c0 c1 c2 c3 c4 c5 c6 c7 c8 c9 c10 c11 c12 c13 c14 K x249 0 x250 x251 : Option (Int × (List Int) × (List (List (List Int))))).bind fun (x346,x347,x348)=>
   let v349:=(kwrap .i64 (x346 + 1))
   next v349 x347 x348
 else
  some (x250,x251)
def subband_Encoder_Feed_2.l0 (K : Nat) (c0 : List (List Int)) (c1 c2 c3 c4 c5 c6 c7 c8 c9 c10 c11 c12 : Int) (c13 c14 : List Int) (n : Nat) : Int → List Int → List (List (List Int)) → Option ((List Int) × (List (List (List Int)))):=rounds (subband_Encoder_Feed_2.r0 K c0 c1 c2 c3 c4 c5 c6 c7 c8 c9 c10 c11 c12 c13 c14) (fun _ _ _=>none) n
def subband_Encoder_Feed_2 (K : Nat) (p0 : List Int) (p1 p2 p3 p4 p5 p6 p7 p8 p9 p10 p11 : Int) (p12 p13 p14 : List Int) : Option ((Int × (List Int)) ⊕ ((List Int) × (List Int))):=
 let v103:=(kwrap .i64 (p3 * p4))
 let v104:=(kwrap .i64 (v103 * p5))
 let v105:=((p0.length : Int) != v104)
 bif v105 then
  some (.inl (1,p14))
 else
  (pcm_Part K p0 p3).bind fun (r106,_r107)=>
  let v108:=(List.replicate (Int.toNat p3) ([] : List (List Int)))
  gd ((0 : Int) ≤ p3 ∧ p3 ≤ p3 ∧ p3 * 24 ≤ 140737488355328) <|
  (subband_Encoder_Feed_2.l0 K r106 (r106.length : Int) p1 p2 p3 p4 p5 p6 p7 p8 p9 p10 p11 p12 p13 K 0 p14 v108 : Option ((List Int) × (List (List (List Int))))).bind fun (x201,x202)=>
   (subband_Analyse K p1 p2 p3 p4 p5 p6 p7 p8 p9 p10 x202).bind fun (r203,r204,r205,_r206)=>
   (subband_Pack K p1 p2 p3 p4 p5 p6 p7 p8 p9 p10 r203 r204 r205).bind fun z=>match z with
   | .inl r207=>
    some (.inl (r207,x201))
   | .inr r208=>
    some (.inr (x201,r208))
def bytes_Clone_3 (_K : Nat) (p0 : List Int) : Option ((List Int)):=
 gd (p0 ≠ []) <|
 let v1:=(([] : List Int) ++ p0)
 gd (((([] : List Int).length : Int) + (p0.length : Int)) * 1 ≤ 70368744177664) <|
 some v1
def bits_Open_2 (K : Nat) (p0 : List Int) : Option ((Unit) ⊕ ((List Int))):=
 let v2:=(decide ((p0.length : Int) > 512))
 bif v2 then
  some (.inl ())
 else
  (bytes_Clone_3 K p0).bind fun r3=>
  some (.inr r3)
def bits_Eye_Front_2 (_K : Nat) (_p0 : Int) : Option (Unit):=
 some ()
def subband_take_2.r0 (K : Nat) (c0 c1 : Int) (next : Int → List Int → Option ((List Int))) (x13 : Int) (x14 : List Int) : Option ((List Int)):=
 let v17:=(decide (x13 < c1))
 bif v17 then
  (bits_Eye_Front_2 K c0).bind fun _=>
  let v18:=(List.set x14 (Int.toNat x13) 0)
  gd ((0 : Int) ≤ x13 ∧ x13 < (x14.length : Int) ∧ (Int.toNat x13) < x14.length) <|
  let v19:=(kwrap .i64 (x13 + 1))
  next v19 v18
 else
  some x14
def subband_take_2.l0 (K : Nat) (c0 c1 : Int) (n : Nat) : Int → List Int → Option ((List Int)):=rounds (subband_take_2.r0 K c0 c1) (fun _ _=>none) n
def subband_take_2 (K : Nat) (p0 p1 : Int) : Option ((List Int)):=
 let v6:=(List.replicate (Int.toNat p0) (0 : Int))
 gd ((0 : Int) ≤ p0 ∧ p0 ≤ p0 ∧ p0 * 8 ≤ 140737488355328) <|
 let v7:=(v6.length : Int)
 (subband_take_2.l0 K p1 v7 K 0 v6 : Option ((List Int))).bind fun x12=>
  some x12
def slices_Equal_byte_byte_3.r0 (_K : Nat) (_c0 : List Int) (_next : Option (Unit))  : Option (Unit):=
 some ()
def slices_Equal_byte_byte_3.l0 (K : Nat) (c0 : List Int) (n : Nat) : Option (Unit):=rounds (slices_Equal_byte_byte_3.r0 K c0) (none) n
def slices_Equal_byte_byte_3 (K : Nat) (p0 : List Int) : Option (Bool):=
 let v1:=(0 != (p0.length : Int))
 bif v1 then
  some false
 else
  (slices_Equal_byte_byte_3.l0 K p0 K  : Option (Unit)).bind fun _=>
   some true
def slices_Equal_byte_byte_4.r0 (_K : Nat) (c0 c1 : List Int) (c2 : Int) (next : Int → Option ((Unit) ⊕ (Bool))) (x6 : Int) : Option ((Unit) ⊕ (Bool)):=
 let v8:=(decide (x6 < c2))
 bif v8 then
  let v9:=(Kd.nth (.int .u8) c0 (Int.toNat x6))
  gd ((0 : Int) ≤ x6 ∧ x6 < (c0.length : Int)) <|
  let v10:=(Kd.nth (.int .u8) c1 (Int.toNat x6))
  gd ((0 : Int) ≤ x6 ∧ x6 < (c1.length : Int)) <|
  bif (v9 != v10) then
   some (.inr false)
  else
   let v11:=(kwrap .i64 (x6 + 1))
   next v11
 else
  some (.inl ())
def slices_Equal_byte_byte_4.l0 (K : Nat) (c0 c1 : List Int) (c2 : Int) (n : Nat) : Int → Option ((Unit) ⊕ (Bool)):=rounds (slices_Equal_byte_byte_4.r0 K c0 c1 c2) (fun _=>none) n
def slices_Equal_byte_byte_4 (K : Nat) (p0 p1 : List Int) : Option (Bool):=
 let v3:=((p0.length : Int) != (p1.length : Int))
 bif v3 then
  some false
 else
  (slices_Equal_byte_byte_4.l0 K p0 p1 (p0.length : Int) K 0 : Option ((Unit) ⊕ (Bool))).bind fun z=>match z with
  | .inl _=>
   some true
  | .inr r=>
   some r
def bits_ends_left_3 (_K : Nat) (p0 p1 p2 : Int) (_p3 : List Int) : Option (Int):=
 let v1:=(kwrap .i64 (8 * p0))
 let v2:=(kwrap .i64 (v1 - p1))
 let v3:=(kwrap .i64 (v2 - p2))
 some v3
def bits_ends_may_3 (K : Nat) (p0 p1 p2 p3 : Int) (p4 : List Int) : Option (Int):=
 let v5:=(decide (p0 < 0))
 let v6:=(decide (p0 > 32))
 let v7:=(bif v5 then true else v6)
 bif v7 then
  some 1
 else
  (bits_ends_left_3 K p1 p2 p3 p4).bind fun r9=>
  let v10:=(decide (p0 > r9))
  bif v10 then
   some 50
  else
   some 0
def bits_ends_ahead_3 (_K : Nat) (p0 _p1 : Int) (_p2 : List Int) : Option (Int × Int × Int):=
 let v1:=(kwrap .i64 (p0 + 1))
 let v2:=(kwrap .i64 (Int.tdiv p0 8))
 let v3:=(Int.tmod p0 8)
 let v4:=(kshr .u8 128 v3)
 gd ((0 : Int) ≤ v3) <|
 some (v2,v4,v1)
def bits_Eye_one (_K : Nat) (p0 p1 _p2 _p3 : Int) (p4 : List Int) : Option (Int):=
 let v1:=(Kd.nth (.int .u8) p4 (Int.toNat p0))
 let v2:=(kand .u8 v1 p1)
 gd ((0 : Int) ≤ p0 ∧ p0 < (p4.length : Int)) <|
 bif (v2 != 0) then
  some 1
 else
  some 0
def bits_Eye_Front_3.r0 (K : Nat) (c0 c1 : Int) (c2 : List Int) (next : Int → Int → Int → Option (Int × Int)) (x59 x60 x61 : Int) : Option (Int × Int):=
 let v73:=(decide (x60 < c0))
 bif v73 then
  let v78:=(kshl .u32 x59 1)
  (bits_ends_ahead_3 K x61 c1 c2).bind fun (r79,r80,r81)=>
  (bits_Eye_one K r79 r80 r81 c1 c2).bind fun r82=>
  let v83:=(kor .u32 v78 r82)
  let v84:=(kwrap .i64 (x60 + 1))
  next v83 v84 r81
 else
  some (x59,x61)
def bits_Eye_Front_3.l0 (K : Nat) (c0 c1 : Int) (c2 : List Int) (n : Nat) : Int → Int → Int → Option (Int × Int):=rounds (bits_Eye_Front_3.r0 K c0 c1 c2) (fun _ _ _=>none) n
def bits_Eye_Front_3 (K : Nat) (p0 p1 p2 : Int) (p3 : List Int) : Option (Int × Int × Int):=
 (bits_ends_may_3 K p0 (p3.length : Int) p1 p2 p3).bind fun r26=>
 bif (r26 != 0) then
  some (0,r26,p1)
 else
  (bits_Eye_Front_3.l0 K p0 p2 p3 K 0 0 p1 : Option (Int × Int)).bind fun (x49,x50)=>
   some (x49,0,x50)
def subband_take_3.r0 (K : Nat) (c0 c1 c2 : Int) (c3 : List Int) (next : Int → Int → List Int → Option (Int × (List Int))) (x49 x50 : Int) (x51 : List Int) : Option (Int × (List Int)):=
 let v61:=(decide (x49 < c1))
 bif v61 then
  (bits_Eye_Front_3 K c0 x50 c2 c3).bind fun (r65,_r66,r67)=>
  let v68:=(List.set x51 (Int.toNat x49) (kwrap .i64 r65))
  gd ((0 : Int) ≤ x49 ∧ x49 < (x51.length : Int) ∧ (Int.toNat x49) < x51.length) <|
  let v69:=(kwrap .i64 (x49 + 1))
  next v69 r67 v68
 else
  some (x50,x51)
def subband_take_3.l0 (K : Nat) (c0 c1 c2 : Int) (c3 : List Int) (n : Nat) : Int → Int → List Int → Option (Int × (List Int)):=rounds (subband_take_3.r0 K c0 c1 c2 c3) (fun _ _ _=>none) n
def subband_take_3 (K : Nat) (p0 p1 p2 p3 : Int) (p4 : List Int) : Option ((List Int) × Int):=
 let v21:=(List.replicate (Int.toNat p0) (0 : Int))
 gd ((0 : Int) ≤ p0 ∧ p0 ≤ p0 ∧ p0 * 8 ≤ 140737488355328) <|
 let v22:=(v21.length : Int)
 (subband_take_3.l0 K p1 v22 p3 p4 K 0 p2 v21 : Option (Int × (List Int))).bind fun (x41,x42)=>
  some (x42,x41)
def subband_Parse_2.r2 (K : Nat) (_c0 : List Int) (_c1 : List (List Int)) (c2 _c3 _c4 _c5 : Int) (c6 : List Int) (c7 _c8 _c9 _c10 _c11 _c12 _c13 _c14 _c15 _c16 : Int) (_c17 : List Int) (_c18 : List (List Int)) (_c19 : List (List (List Int))) (next : Int → List (List Int) → Option ((List (List Int)))) (x1031 : Int) (x1032 : List (List Int)) : Option ((List (List Int))):=
 let v1037:=(decide (x1031 < c7))
 bif v1037 then
  let v1039:=(Kd.nth (.int .i64) c6 (Int.toNat x1031))
  gd ((0 : Int) ≤ x1031 ∧ x1031 < (c6.length : Int)) <|
  gd ((0 : Int) ≤ c2 ∧ c2 < (x1032.length : Int)) <|
  let v1040:=(List.getD x1032 (Int.toNat c2) [])
  gd ((Int.toNat c2) < x1032.length) <|
  (subband_take_2 K 1 v1039).bind fun r1041=>
  let v1042:=(v1040 ++ r1041)
  gd (((v1040.length : Int) + (r1041.length : Int)) * 8 ≤ 70368744177664) <|
  gd ((0 : Int) ≤ c2 ∧ c2 < (x1032.length : Int)) <|
  let v1043:=(List.set x1032 (Int.toNat c2) v1042)
  gd ((Int.toNat c2) < x1032.length) <|
  let v1044:=(kwrap .i64 (x1031 + 1))
  next v1044 v1043
 else
  some x1032
def subband_Parse_2.l2 (K : Nat) (c0 : List Int) (c1 : List (List Int)) (c2 c3 c4 c5 : Int) (c6 : List Int) (c7 c8 c9 c10 c11 c12 c13 c14 c15 c16 : Int) (c17 : List Int) (c18 : List (List Int)) (c19 : List (List (List Int))) (n : Nat) : Int → List (List Int) → Option ((List (List Int))):=rounds (subband_Parse_2.r2 K c0 c1 c2 c3 c4 c5 c6 c7 c8 c9 c10 c11 c12 c13 c14 c15 c16 c17 c18 c19) (fun _ _=>none) n
def subband_Parse_2.r1 (K : Nat) (c0 : List Int) (c1 : List (List Int)) (c2 c3 c4 c5 c6 c7 c8 c9 c10 c11 c12 c13 : Int) (c14 : List Int) (c15 : List (List Int)) (c16 : List (List (List Int))) (next : Int → List (List Int) → Option ((List (List Int)))) (x985 : Int) (x986 : List (List Int)) : Option ((List (List Int))):=
 let v1007:=(decide (x985 < c4))
 bif v1007 then
  let v1017:=(Kd.nth (.slice (.int .i64)) c1 (Int.toNat x985))
  let v1018:=(v1017.length : Int)
  gd ((0 : Int) ≤ x985 ∧ x985 < (c1.length : Int)) <|
  (subband_Parse_2.l2 K c0 c1 x985 c2 c3 c4 v1017 v1018 c5 c6 c7 c8 c9 c10 c11 c12 c13 c14 c15 c16 K 0 x986 : Option ((List (List Int)))).bind fun x1027=>
   let v1028:=(kwrap .i64 (x985 + 1))
   next v1028 x1027
 else
  some x986
def subband_Parse_2.l1 (K : Nat) (c0 : List Int) (c1 : List (List Int)) (c2 c3 c4 c5 c6 c7 c8 c9 c10 c11 c12 c13 : Int) (c14 : List Int) (c15 : List (List Int)) (c16 : List (List (List Int))) (n : Nat) : Int → List (List Int) → Option ((List (List Int))):=rounds (subband_Parse_2.r1 K c0 c1 c2 c3 c4 c5 c6 c7 c8 c9 c10 c11 c12 c13 c14 c15 c16) (fun _ _=>none) n
def subband_Parse_2.r0 (K : Nat) (c0 : List Int) (c1 : List (List Int)) (c2 c3 c4 c5 c6 c7 c8 c9 c10 c11 : Int) (c12 : List Int) (c13 : List (List Int)) (next : Int → List (List (List Int)) → Option ((List (List (List Int))))) (x794 : Int) (x795 : List (List (List Int))) : Option ((List (List (List Int)))):=
 let v880:=(decide (x794 < c2))
 bif v880 then
  let v922:=(List.replicate (Int.toNat c5) ([] : List Int))
  gd ((0 : Int) ≤ c5 ∧ c5 ≤ c5 ∧ c5 * 24 ≤ 140737488355328) <|
  let v923:=(v922.length : Int)
  (subband_Parse_2.l1 K c0 c1 c2 x794 v923 c3 c4 c5 c6 c7 c8 c9 c10 c11 c12 c13 x795 K 0 v922 : Option ((List (List Int)))).bind fun x964=>
   let v965:=(x795 ++ [x964])
   gd (((x795.length : Int) + ([x964].length : Int)) * 24 ≤ 70368744177664) <|
   let v966:=(kwrap .i64 (x794 + 1))
   next v966 v965
 else
  some x795
def subband_Parse_2.l0 (K : Nat) (c0 : List Int) (c1 : List (List Int)) (c2 c3 c4 c5 c6 c7 c8 c9 c10 c11 : Int) (c12 : List Int) (c13 : List (List Int)) (n : Nat) : Int → List (List (List Int)) → Option ((List (List (List Int)))):=rounds (subband_Parse_2.r0 K c0 c1 c2 c3 c4 c5 c6 c7 c8 c9 c10 c11 c12 c13) (fun _ _=>none) n
def subband_Parse_2.r3 (K : Nat) (_c0 : List Int) (c1 _c2 _c3 c4 _c5 _c6 _c7 _c8 _c9 _c10 : Int) (_c11 : List Int) (next : Int → List (List Int) → Option ((List (List Int)))) (x1047 : Int) (x1048 : List (List Int)) : Option ((List (List Int))):=
 let v1053:=(decide (x1047 < c1))
 bif v1053 then
  (subband_take_2 K c4 4).bind fun r1055=>
  let v1056:=(x1048 ++ [r1055])
  gd (((x1048.length : Int) + ([r1055].length : Int)) * 24 ≤ 70368744177664) <|
  let v1057:=(kwrap .i64 (x1047 + 1))
  next v1057 v1056
 else
  some x1048
def subband_Parse_2.l3 (K : Nat) (c0 : List Int) (c1 c2 c3 c4 c5 c6 c7 c8 c9 c10 : Int) (c11 : List Int) (n : Nat) : Int → List (List Int) → Option ((List (List Int))):=rounds (subband_Parse_2.r3 K c0 c1 c2 c3 c4 c5 c6 c7 c8 c9 c10 c11) (fun _ _=>none) n
def subband_Parse_2.r6 (K : Nat) (_c0 : List Int) (_c1 : List (List Int)) (c2 _c3 _c4 _c5 : Int) (c6 : List Int) (c7 _c8 _c9 _c10 _c11 _c12 _c13 _c14 _c15 _c16 : Int) (c17 _c18 : List Int) (_c19 : List (List Int)) (_c20 : List (List (List Int))) (next : Int → Int → List (List Int) → Option (Int × (List (List Int)))) (x1940 x1941 : Int) (x1942 : List (List Int)) : Option (Int × (List (List Int))):=
 let v1950:=(decide (x1940 < c7))
 bif v1950 then
  let v1953:=(Kd.nth (.int .i64) c6 (Int.toNat x1940))
  gd ((0 : Int) ≤ x1940 ∧ x1940 < (c6.length : Int)) <|
  gd ((0 : Int) ≤ c2 ∧ c2 < (x1942.length : Int)) <|
  let v1954:=(List.getD x1942 (Int.toNat c2) [])
  gd ((Int.toNat c2) < x1942.length) <|
  (subband_take_3 K 1 v1953 x1941 0 c17).bind fun (r1955,r1956)=>
  let v1957:=(v1954 ++ r1955)
  gd (((v1954.length : Int) + (r1955.length : Int)) * 8 ≤ 70368744177664) <|
  gd ((0 : Int) ≤ c2 ∧ c2 < (x1942.length : Int)) <|
  let v1958:=(List.set x1942 (Int.toNat c2) v1957)
  gd ((Int.toNat c2) < x1942.length) <|
  let v1959:=(kwrap .i64 (x1940 + 1))
  next v1959 r1956 v1958
 else
  some (x1941,x1942)
def subband_Parse_2.l6 (K : Nat) (c0 : List Int) (c1 : List (List Int)) (c2 c3 c4 c5 : Int) (c6 : List Int) (c7 c8 c9 c10 c11 c12 c13 c14 c15 c16 : Int) (c17 c18 : List Int) (c19 : List (List Int)) (c20 : List (List (List Int))) (n : Nat) : Int → Int → List (List Int) → Option (Int × (List (List Int))):=rounds (subband_Parse_2.r6 K c0 c1 c2 c3 c4 c5 c6 c7 c8 c9 c10 c11 c12 c13 c14 c15 c16 c17 c18 c19 c20) (fun _ _ _=>none) n
def subband_Parse_2.r5 (K : Nat) (c0 : List Int) (c1 : List (List Int)) (c2 c3 c4 c5 c6 c7 c8 c9 c10 c11 c12 c13 : Int) (c14 c15 : List Int) (c16 : List (List Int)) (c17 : List (List (List Int))) (next : Int → Int → List (List Int) → Option (Int × (List (List Int)))) (x1862 x1863 : Int) (x1864 : List (List Int)) : Option (Int × (List (List Int))):=
 let v1900:=(decide (x1862 < c4))
 bif v1900 then
  let v1917:=(Kd.nth (.slice (.int .i64)) c1 (Int.toNat x1862))
  let v1918:=(v1917.length : Int)
  gd ((0 : Int) ≤ x1862 ∧ x1862 < (c1.length : Int)) <|
  (subband_Parse_2.l6 K c0 c1 x1862 c2 c3 c4 v1917 v1918 c5 c6 c7 c8 c9 c10 c11 c12 c13 c14 c15 c16 c17 K 0 x1863 x1864 : Option (Int × (List (List Int)))).bind fun (x1933,x1934)=>
   let v1935:=(kwrap .i64 (x1862 + 1))
   next v1935 x1933 x1934
 else
  some (x1863,x1864)
def subband_Parse_2.l5 (K : Nat) (c0 : List Int) (c1 : List (List Int)) (c2 c3 c4 c5 c6 c7 c8 c9 c10 c11 c12 c13 : Int) (c14 c15 : List Int) (c16 : List (List Int)) (c17 : List (List (List Int))) (n : Nat) : Int → Int → List (List Int) → Option (Int × (List (List Int))):=rounds (subband_Parse_2.r5 K c0 c1 c2 c3 c4 c5 c6 c7 c8 c9 c10 c11 c12 c13 c14 c15 c16 c17) (fun _ _ _=>none) n
def subband_Parse_2.r4 (K : Nat) (c0 : List Int) (c1 : List (List Int)) (c2 c3 c4 c5 c6 c7 c8 c9 c10 c11 : Int) (c12 c13 : List Int) (c14 : List (List Int)) (next : Int → Int → List (List (List Int)) → Option ((List (List (List Int))))) (x1531 x1532 : Int) (x1533 : List (List (List Int))) : Option ((List (List (List Int)))):=
 let v1681:=(decide (x1531 < c2))
 bif v1681 then
  let v1754:=(List.replicate (Int.toNat c5) ([] : List Int))
  gd ((0 : Int) ≤ c5 ∧ c5 ≤ c5 ∧ c5 * 24 ≤ 140737488355328) <|
  let v1755:=(v1754.length : Int)
  (subband_Parse_2.l5 K c0 c1 c2 x1531 v1755 c3 c4 c5 c6 c7 c8 c9 c10 c11 c12 c13 c14 x1533 K 0 x1532 v1754 : Option (Int × (List (List Int)))).bind fun (x1826,x1827)=>
   let v1828:=(x1533 ++ [x1827])
   gd (((x1533.length : Int) + ([x1827].length : Int)) * 24 ≤ 70368744177664) <|
   let v1829:=(kwrap .i64 (x1531 + 1))
   next v1829 x1826 v1828
 else
  some x1533
def subband_Parse_2.l4 (K : Nat) (c0 : List Int) (c1 : List (List Int)) (c2 c3 c4 c5 c6 c7 c8 c9 c10 c11 : Int) (c12 c13 : List Int) (c14 : List (List Int)) (n : Nat) : Int → Int → List (List (List Int)) → Option ((List (List (List Int)))):=rounds (subband_Parse_2.r4 K c0 c1 c2 c3 c4 c5 c6 c7 c8 c9 c10 c11 c12 c13 c14) (fun _ _ _=>none) n
def subband_Parse_2.r7 (K : Nat) (_c0 : List Int) (c1 _c2 _c3 c4 _c5 _c6 _c7 _c8 _c9 _c10 : Int) (c11 _c12 : List Int) (next : Int → Int → List (List Int) → Option (Int × (List (List Int)))) (x1964 x1965 : Int) (x1966 : List (List Int)) : Option (Int × (List (List Int))):=
 let v1974:=(decide (x1964 < c1))
 bif v1974 then
  (subband_take_3 K c4 4 x1965 0 c11).bind fun (r1977,r1978)=>
  let v1979:=(x1966 ++ [r1977])
  gd (((x1966.length : Int) + ([r1977].length : Int)) * 24 ≤ 70368744177664) <|
  let v1980:=(kwrap .i64 (x1964 + 1))
  next v1980 r1978 v1979
 else
  some (x1965,x1966)
def subband_Parse_2.l7 (K : Nat) (c0 : List Int) (c1 c2 c3 c4 c5 c6 c7 c8 c9 c10 : Int) (c11 c12 : List Int) (n : Nat) : Int → Int → List (List Int) → Option (Int × (List (List Int))):=rounds (subband_Parse_2.r7 K c0 c1 c2 c3 c4 c5 c6 c7 c8 c9 c10 c11 c12) (fun _ _ _=>none) n
def subband_Parse_2 (K : Nat) (p0 p1 p2 p3 p4 p5 p6 p7 p8 p9 : Int) (p10 : List Int) : Option ((List Int) × (List (List Int)) × (List (List (List Int))) × Int):=
 (subband_may K p0 p1 p2 p3 p4 p5 p6 p7 p8 p9).bind fun r518=>
 bif (r518 != 0) then
  some (([] : List Int),([] : List (List Int)),([] : List (List (List Int))),r518)
 else
  (format_Payload K p0 p1 p2 p3 p4 p5 p6 p7 p8 p9).bind fun r519=>
  let v520:=((p10.length : Int) != r519)
  bif v520 then
   some (([] : List Int),([] : List (List Int)),([] : List (List (List Int))),140)
  else
   (bits_Open_2 K p10).bind fun z=>match z with
   | .inl _=>
    (bits_Eye_Front_2 K 32).bind fun _=>
    let v522:=(List.replicate (Int.toNat p3) (0 : Int))
    gd ((0 : Int) ≤ p3 ∧ p3 ≤ p3 ∧ p3 * 8 ≤ 140737488355328) <|
    (
     bif (p6 == 1) then
      (subband_take_2 K p3 1).bind fun r1058=>
      some r1058
     else
      some v522 : Option ((List Int))).bind fun x524=>
     (subband_Parse_2.l3 K p10 p2 p0 p1 p3 p4 p5 p6 p7 p8 p9 x524 K 0 ([] : List (List Int)) : Option ((List (List Int)))).bind fun x533=>
      (alloc_Share K p0 p1 p2 p3 p4 p5 p6 p7 p8 p9 x533).bind fun (r534,r535)=>
      bif (r535 != 0) then
       some (([] : List Int),([] : List (List Int)),([] : List (List (List Int))),140)
      else
       (subband_Parse_2.l0 K p10 r534 p4 p0 p1 p2 p3 p5 p6 p7 p8 p9 x524 x533 K 0 ([] : List (List (List Int))) : Option ((List (List (List Int))))).bind fun x704=>
        (subband_Pack K p0 p1 p2 p3 p4 p5 p6 p7 p8 p9 x524 x533 x704).bind fun z=>match z with
        | .inl r705=>
         (
          bif (r705 != 0) then
           some true
          else
           (slices_Equal_byte_byte_3 K p10).bind fun r709=>
           some (!r709) : Option (Bool)).bind fun x708=>
          bif x708 then
           some (([] : List Int),([] : List (List Int)),([] : List (List (List Int))),140)
          else
           some (x524,x533,x704,0)
        | .inr r706=>
         (slices_Equal_byte_byte_4 K r706 p10).bind fun r711=>
         bif (!r711) then
          some (([] : List Int),([] : List (List Int)),([] : List (List (List Int))),140)
         else
          some (x524,x533,x704,0)
   | .inr r521=>
    (bits_Eye_Front_3 K 32 0 0 r521).bind fun (_r1059,_r1060,r1061)=>
    let v1062:=(List.replicate (Int.toNat p3) (0 : Int))
    gd ((0 : Int) ≤ p3 ∧ p3 ≤ p3 ∧ p3 * 8 ≤ 140737488355328) <|
    (
     bif (p6 == 1) then
      (subband_take_3 K p3 1 r1061 0 r521).bind fun (r1981,r1982)=>
      some (r1982,r1981)
     else
      some (r1061,v1062) : Option (Int × (List Int))).bind fun (x1065,x1066)=>
     (subband_Parse_2.l7 K p10 p2 p0 p1 p3 p4 p5 p6 p7 p8 p9 r521 x1066 K 0 x1065 ([] : List (List Int)) : Option (Int × (List (List Int)))).bind fun (x1081,x1082)=>
      (alloc_Share K p0 p1 p2 p3 p4 p5 p6 p7 p8 p9 x1082).bind fun (r1083,r1084)=>
      bif (r1084 != 0) then
       some (([] : List Int),([] : List (List Int)),([] : List (List (List Int))),140)
      else
       (subband_Parse_2.l4 K p10 r1083 p4 p0 p1 p2 p3 p5 p6 p7 p8 p9 r521 x1066 x1082 K 0 x1081 ([] : List (List (List Int))) : Option ((List (List (List Int))))).bind fun x1379=>
        (subband_Pack K p0 p1 p2 p3 p4 p5 p6 p7 p8 p9 x1066 x1082 x1379).bind fun z=>match z with
        | .inl r1380=>
         (
          bif (r1380 != 0) then
           some true
          else
           (slices_Equal_byte_byte_3 K p10).bind fun r1384=>
           some (!r1384) : Option (Bool)).bind fun x1383=>
          bif x1383 then
           some (([] : List Int),([] : List (List Int)),([] : List (List (List Int))),140)
          else
           some (x1066,x1082,x1379,0)
        | .inr r1381=>
         (slices_Equal_byte_byte_4 K r1381 p10).bind fun r1386=>
         bif (!r1386) then
          some (([] : List Int),([] : List (List Int)),([] : List (List (List Int))),140)
         else
          some (x1066,x1082,x1379,0)
def subband_Encoder_Feed_3.r1 (K : Nat) (c0 : List Int) (_c1 : List (List Int)) (_c2 _c3 _c4 _c5 c6 _c7 _c8 _c9 _c10 _c11 _c12 c13 : Int) (c14 c15 : List Int) (c16 : Int) (c17 c18 : List Int) (next : Int → Int → List Int → List Int → List (List (List Int)) → Option (Int × (List Int) × (List Int) × (List (List (List Int))))) (x669 x670 : Int) (x671 x672 : List Int) (x673 : List (List (List Int))) : Option (Int × (List Int) × (List Int) × (List (List (List Int)))):=
 let v689:=(c0.length : Int)
 let v690:=(decide (x670 < v689))
 bif v690 then
  (
   bif x669 == 0 then
    let v702:=(kwrap .i64 (x670 + c6))
    let v703:=((c0.take (Int.toNat v702)).drop (Int.toNat x670))
    gd ((0 : Int) ≤ x670 ∧ x670 ≤ v702 ∧ v702 ≤ v689) <|
    (poly_Splitter_Feed K v703 c13 c14 c15 x671).bind fun (r704,_r705,r706)=>
    let v707:=(List.getD x673 0 [])
    let v708:=(v707 ++ [r704])
    let v709:=(List.set x673 0 v708)
    gd (0 < (x673.length : Int) ∧ 0 < x673.length ∧ ((v707.length : Int) + ([r704].length : Int)) * 24 ≤ 70368744177664 ∧ 0 < (x673.length : Int) ∧ 0 < x673.length) <|
    some (0,r706,x672,v709)
   else
    bif x669 == 1 then
     let v710:=(kwrap .i64 (x670 + c6))
     let v711:=((c0.take (Int.toNat v710)).drop (Int.toNat x670))
     gd ((0 : Int) ≤ x670 ∧ x670 ≤ v710 ∧ v710 ≤ v689) <|
     (poly_Splitter_Feed K v711 c16 c17 c18 x672).bind fun (r712,_r713,r714)=>
     let v715:=(List.getD x673 1 [])
     let v716:=(v715 ++ [r712])
     let v717:=(List.set x673 1 v716)
     gd (1 < (x673.length : Int) ∧ 1 < x673.length ∧ ((v715.length : Int) + ([r712].length : Int)) * 24 ≤ 70368744177664 ∧ 1 < (x673.length : Int) ∧ 1 < x673.length) <|
     some (1,x671,r714,v717)
    else
     none : Option (Int × (List Int) × (List Int) × (List (List (List Int))))).bind fun (x697,x698,x699,x700)=>
   let v701:=(kwrap .i64 (x670 + c6))
   next x697 v701 x698 x699 x700
 else
  some (x669,x671,x672,x673)
def subband_Encoder_Feed_3.l1 (K : Nat) (c0 : List Int) (c1 : List (List Int)) (c2 c3 c4 c5 c6 c7 c8 c9 c10 c11 c12 c13 : Int) (c14 c15 : List Int) (c16 : Int) (c17 c18 : List Int) (n : Nat) : Int → Int → List Int → List Int → List (List (List Int)) → Option (Int × (List Int) × (List Int) × (List (List (List Int)))):=rounds (subband_Encoder_Feed_3.r1 K c0 c1 c2 c3 c4 c5 c6 c7 c8 c9 c10 c11 c12 c13 c14 c15 c16 c17 c18) (fun _ _ _ _ _=>none) n
def subband_Encoder_Feed_3.r0 (K : Nat) (c0 : List (List Int)) (c1 c2 c3 c4 c5 c6 c7 c8 c9 c10 c11 c12 : Int) (c13 c14 : List Int) (c15 : Int) (c16 c17 : List Int) (next : Int → List Int → List Int → List (List (List Int)) → Option ((List Int) × (List Int) × (List (List (List Int))))) (x512 : Int) (x513 x514 : List Int) (x515 : List (List (List Int))) : Option ((List Int) × (List Int) × (List (List (List Int)))):=
 let v588:=(decide (x512 < c1))
 bif v588 then
  let v623:=(Kd.nth (.slice (.int .i16)) c0 (Int.toNat x512))
  gd ((0 : Int) ≤ x512 ∧ x512 < (c0.length : Int)) <|
  (subband_Encoder_Feed_3.l1 K v623 c0 c1 c2 c3 c4 c5 c6 c7 c8 c9 c10 c11 c12 c13 c14 c15 c16 c17 K x512 0 x513 x514 x515 : Option (Int × (List Int) × (List Int) × (List (List (List Int))))).bind fun (x654,x655,x656,x657)=>
   let v658:=(kwrap .i64 (x654 + 1))
   next v658 x655 x656 x657
 else
  some (x513,x514,x515)
def subband_Encoder_Feed_3.l0 (K : Nat) (c0 : List (List Int)) (c1 c2 c3 c4 c5 c6 c7 c8 c9 c10 c11 c12 : Int) (c13 c14 : List Int) (c15 : Int) (c16 c17 : List Int) (n : Nat) : Int → List Int → List Int → List (List (List Int)) → Option ((List Int) × (List Int) × (List (List (List Int)))):=rounds (subband_Encoder_Feed_3.r0 K c0 c1 c2 c3 c4 c5 c6 c7 c8 c9 c10 c11 c12 c13 c14 c15 c16 c17) (fun _ _ _ _=>none) n
def subband_Encoder_Feed_3 (K : Nat) (p0 : List Int) (p1 p2 p3 p4 p5 p6 p7 p8 p9 p10 p11 : Int) (p12 p13 : List Int) (p14 : Int) (p15 p16 p17 p18 : List Int) : Option ((Int × (List Int) × (List Int)) ⊕ ((List Int) × (List Int) × (List Int))):=
 let v199:=(kwrap .i64 (p3 * p4))
 let v200:=(kwrap .i64 (v199 * p5))
 let v201:=((p0.length : Int) != v200)
 bif v201 then
  some (.inl (1,p17,p18))
 else
  (pcm_Part K p0 p3).bind fun (r202,_r203)=>
  let v204:=(List.replicate (Int.toNat p3) ([] : List (List Int)))
  gd ((0 : Int) ≤ p3 ∧ p3 ≤ p3 ∧ p3 * 24 ≤ 140737488355328) <|
  (subband_Encoder_Feed_3.l0 K r202 (r202.length : Int) p1 p2 p3 p4 p5 p6 p7 p8 p9 p10 p11 p12 p13 p14 p15 p16 K 0 p17 p18 v204 : Option ((List Int) × (List Int) × (List (List (List Int))))).bind fun (x392,x393,x394)=>
   (subband_Analyse K p1 p2 p3 p4 p5 p6 p7 p8 p9 p10 x394).bind fun (r395,r396,r397,_r398)=>
   (subband_Pack K p1 p2 p3 p4 p5 p6 p7 p8 p9 p10 r395 r396 r397).bind fun z=>match z with
   | .inl r399=>
    some (.inl (r399,x392,x393))
   | .inr r400=>
    some (.inr (x392,x393,r400))
def psalterylaw14_alive (K : Nat)  : Option (Bool):=
 (bank_New K ).bind fun _=>
 (psalterylaw14_plain K ).bind fun _=>
 (subband_NewEncoder K 1 0 1 4 4 0 0 2 0 0 (List.replicate 388 none) 0 0).bind fun z=>match z with
 | .inl r90=>
  let v109:=(bif (r90 != 0) then true else true)
  bif v109 then
   some false
  else
   (subband_Encoder_Feed K (List.replicate 16 (0 : Int))).bind fun _=>
   (subband_Encoder_Feed K (List.replicate 15 (0 : Int))).bind fun _=>
   (psalterylaw14_plain K ).bind fun _=>
   (subband_Parse K 1 0 1 4 4 0 0 2 0 0).bind fun (_r110,_r111,_r112,_r113)=>
   some false
 | .inr (.inl (_r91,_r92,_r93,r94,r95,r96,r97))=>
  (subband_Encoder_Feed_2 K (List.replicate 16 (0 : Int)) 1 0 1 4 4 0 0 2 0 0 r94 r95 r96 r97).bind fun z=>match z with
  | .inl (r114,r115)=>
   (subband_Encoder_Feed_2 K (List.replicate 15 (0 : Int)) 1 0 1 4 4 0 0 2 0 0 r94 r95 r96 r115).bind fun z=>match z with
   | .inl (_r118,_r119)=>
    (psalterylaw14_plain K ).bind fun _=>
    (subband_Parse K 1 0 1 4 4 0 0 2 0 0).bind fun (_r122,_r123,_r124,_r125)=>
    let v126:=(bif (r114 == 0) then false else false)
    bif v126 then
     none
    else
     some false
   | .inr (_r120,_r121)=>
    (psalterylaw14_plain K ).bind fun _=>
    (subband_Parse K 1 0 1 4 4 0 0 2 0 0).bind fun (_r127,_r128,_r129,_r130)=>
    let v131:=(bif (r114 == 0) then false else false)
    bif v131 then
     none
    else
     some false
  | .inr (r116,r117)=>
   (subband_Encoder_Feed_2 K (List.replicate 15 (0 : Int)) 1 0 1 4 4 0 0 2 0 0 r94 r95 r96 r116).bind fun z=>match z with
   | .inl (r132,_r133)=>
    (psalterylaw14_plain K ).bind fun _=>
    (subband_Parse_2 K 1 0 1 4 4 0 0 2 0 0 r117).bind fun (_r136,_r137,r138,r139)=>
    (
     let v141:=((r117.length : Int) == 7)
     bif v141 then
      let v142:=(Kd.nth (.int .u8) r117 0)
      gd (0 < (r117.length : Int)) <|
      let v143:=(Kd.nth (.int .u8) r117 1)
      let v144:=(bif (v142 == 156) then (v143 == 0) else false)
      let v145:=(Kd.nth (.int .u8) r117 2)
      let v146:=(bif v144 then (v145 == 2) else false)
      let v147:=(bif v146 then (r132 == 1) else false)
      let v148:=(bif v147 then (r139 == 0) else false)
      let v149:=((r138.length : Int) == 4)
      let v150:=(bif v148 then v149 else false)
      gd (((v142 == 156) = true → 1 < (r117.length : Int)) ∧ (v144 = true → 2 < (r117.length : Int))) <|
      some v150
     else
      some false : Option (Bool)).bind fun x140=>
     some x140
   | .inr (_r134,_r135)=>
    (psalterylaw14_plain K ).bind fun _=>
    (subband_Parse_2 K 1 0 1 4 4 0 0 2 0 0 r117).bind fun (_r151,_r152,r153,r154)=>
    (
     let v156:=((r117.length : Int) == 7)
     bif v156 then
      let v157:=(Kd.nth (.int .u8) r117 0)
      gd (0 < (r117.length : Int)) <|
      let v158:=(Kd.nth (.int .u8) r117 1)
      let v159:=(bif (v157 == 156) then (v158 == 0) else false)
      let v160:=(Kd.nth (.int .u8) r117 2)
      let v161:=(bif v159 then (v160 == 2) else false)
      let v162:=(bif v161 then false else false)
      let v163:=(bif v162 then (r154 == 0) else false)
      let v164:=((r153.length : Int) == 4)
      let v165:=(bif v163 then v164 else false)
      gd (((v157 == 156) = true → 1 < (r117.length : Int)) ∧ (v159 = true → 2 < (r117.length : Int))) <|
      some v165
     else
      some false : Option (Bool)).bind fun x155=>
     some x155
 | .inr (.inr (_r98,_r99,_r100,r101,r102,r103,r104,r105,r106,r107,r108))=>
  (subband_Encoder_Feed_3 K (List.replicate 16 (0 : Int)) 1 0 2 4 4 0 0 2 0 0 r101 r102 r103 r104 r105 r106 r107 r108).bind fun z=>match z with
  | .inl (r166,r167,r168)=>
   (subband_Encoder_Feed_3 K (List.replicate 15 (0 : Int)) 1 0 2 4 4 0 0 2 0 0 r101 r102 r103 r104 r105 r106 r167 r168).bind fun z=>match z with
   | .inl (_r172,_r173,_r174)=>
    (psalterylaw14_plain K ).bind fun _=>
    (subband_Parse K 1 0 1 4 4 0 0 2 0 0).bind fun (_r178,_r179,_r180,_r181)=>
    let v182:=(bif (r166 == 0) then false else false)
    bif v182 then
     none
    else
     some false
   | .inr (_r175,_r176,_r177)=>
    (psalterylaw14_plain K ).bind fun _=>
    (subband_Parse K 1 0 1 4 4 0 0 2 0 0).bind fun (_r183,_r184,_r185,_r186)=>
    let v187:=(bif (r166 == 0) then false else false)
    bif v187 then
     none
    else
     some false
  | .inr (r169,r170,r171)=>
   (subband_Encoder_Feed_3 K (List.replicate 15 (0 : Int)) 1 0 2 4 4 0 0 2 0 0 r101 r102 r103 r104 r105 r106 r169 r170).bind fun z=>match z with
   | .inl (r188,_r189,_r190)=>
    (psalterylaw14_plain K ).bind fun _=>
    (subband_Parse_2 K 1 0 1 4 4 0 0 2 0 0 r171).bind fun (_r194,_r195,r196,r197)=>
    (
     let v199:=((r171.length : Int) == 7)
     bif v199 then
      let v200:=(Kd.nth (.int .u8) r171 0)
      gd (0 < (r171.length : Int)) <|
      let v201:=(Kd.nth (.int .u8) r171 1)
      let v202:=(bif (v200 == 156) then (v201 == 0) else false)
      let v203:=(Kd.nth (.int .u8) r171 2)
      let v204:=(bif v202 then (v203 == 2) else false)
      let v205:=(bif v204 then (r188 == 1) else false)
      let v206:=(bif v205 then (r197 == 0) else false)
      let v207:=((r196.length : Int) == 4)
      let v208:=(bif v206 then v207 else false)
      gd (((v200 == 156) = true → 1 < (r171.length : Int)) ∧ (v202 = true → 2 < (r171.length : Int))) <|
      some v208
     else
      some false : Option (Bool)).bind fun x198=>
     some x198
   | .inr (_r191,_r192,_r193)=>
    (psalterylaw14_plain K ).bind fun _=>
    (subband_Parse_2 K 1 0 1 4 4 0 0 2 0 0 r171).bind fun (_r209,_r210,r211,r212)=>
    (
     let v214:=((r171.length : Int) == 7)
     bif v214 then
      let v215:=(Kd.nth (.int .u8) r171 0)
      gd (0 < (r171.length : Int)) <|
      let v216:=(Kd.nth (.int .u8) r171 1)
      let v217:=(bif (v215 == 156) then (v216 == 0) else false)
      let v218:=(Kd.nth (.int .u8) r171 2)
      let v219:=(bif v217 then (v218 == 2) else false)
      let v220:=(bif v219 then false else false)
      let v221:=(bif v220 then (r212 == 0) else false)
      let v222:=((r211.length : Int) == 4)
      let v223:=(bif v221 then v222 else false)
      gd (((v215 == 156) = true → 1 < (r171.length : Int)) ∧ (v217 = true → 2 < (r171.length : Int))) <|
      some v223
     else
      some false : Option (Bool)).bind fun x213=>
     some x213
def psalterylaw14_SubTurned.r0 (_K : Nat) (c0 c1 c2 _c3 _c4 _c5 _c6 _c7 _c8 _c9 _c10 _c11 _c12 : Int) (next : Int → Option (Unit)) (x110 : Int) : Option (Unit):=
 let v112:=(decide (x110 < 8))
 let v113:=(kwrap .i64 (c2 + x110))
 let v114:=(kwrap .i64 (32 + c1))
 let v115:=(decide (v113 < v114))
 let v116:=(bif v112 then v115 else false)
 bif v116 then
  let v117:=(kshr .u8 c0 (kwrap .u64 x110))
  let v118:=(Int.tmod v117 2)
  gd ((0 : Int) ≤ (kwrap .u64 x110)) <|
  bif (v118 == 1) then
   none
  else
   let v120:=(kwrap .i64 (x110 + 1))
   next v120
 else
  some ()
def psalterylaw14_SubTurned.l0 (K : Nat) (c0 c1 c2 c3 c4 c5 c6 c7 c8 c9 c10 c11 c12 : Int) (n : Nat) : Int → Option (Unit):=rounds (psalterylaw14_SubTurned.r0 K c0 c1 c2 c3 c4 c5 c6 c7 c8 c9 c10 c11 c12) (fun _=>none) n
def psalterylaw14_SubTurned.r1 (_K : Nat) (c0 c1 c2 _c3 _c4 _c5 _c6 _c7 _c8 _c9 _c10 _c11 _c12 : Int) (next : Bool → Int → List Int → Option (Bool × (List Int))) (x165 : Bool) (x166 : Int) (x167 : List Int) : Option (Bool × (List Int)):=
 let v173:=(decide (x166 < 8))
 let v174:=(kwrap .i64 (c2 + x166))
 let v175:=(kwrap .i64 (32 + c1))
 let v176:=(decide (v174 < v175))
 let v177:=(bif v173 then v176 else false)
 bif v177 then
  (
   let v181:=(kshr .u8 c0 (kwrap .u64 x166))
   let v182:=(Int.tmod v181 2)
   gd ((0 : Int) ≤ (kwrap .u64 x166)) <|
   bif (v182 == 1) then
    let v183:=(kwrap .i64 (Int.tdiv v174 8))
    let v184:=(Int.toNat v183)
    let v185:=(Kd.nth (.int .u8) x167 v184)
    let v186:=(Int.tmod v174 8)
    let v187:=(kwrap .u64 v186)
    let v188:=(kshr .u8 128 v187)
    let v189:=(kxor .u8 v185 v188)
    let v190:=(List.set x167 v184 v189)
    gd ((0 : Int) ≤ v183 ∧ v183 < (x167.length : Int) ∧ v184 < x167.length ∧ (0 : Int) ≤ v187 ∧ (0 : Int) ≤ v183 ∧ v183 < (x167.length : Int) ∧ v184 < x167.length) <|
    some (true,v190)
   else
    some (x165,x167) : Option (Bool × (List Int))).bind fun (x178,x179)=>
   let v180:=(kwrap .i64 (x166 + 1))
   next x178 v180 x179
 else
  some (x165,x167)
def psalterylaw14_SubTurned.l1 (K : Nat) (c0 c1 c2 c3 c4 c5 c6 c7 c8 c9 c10 c11 c12 : Int) (n : Nat) : Bool → Int → List Int → Option (Bool × (List Int)):=rounds (psalterylaw14_SubTurned.r1 K c0 c1 c2 c3 c4 c5 c6 c7 c8 c9 c10 c11 c12) (fun _ _ _=>none) n
def psalterylaw14_SubTurned.r2 (_K : Nat) (c0 c1 c2 _c3 _c4 _c5 _c6 _c7 _c8 _c9 _c10 _c11 _c12 : Int) (next : Int → Option (Unit)) (x225 : Int) : Option (Unit):=
 let v227:=(decide (x225 < 8))
 let v228:=(kwrap .i64 (c2 + x225))
 let v229:=(kwrap .i64 (32 + c1))
 let v230:=(decide (v228 < v229))
 let v231:=(bif v227 then v230 else false)
 bif v231 then
  let v232:=(kshr .u8 c0 (kwrap .u64 x225))
  let v233:=(Int.tmod v232 2)
  gd ((0 : Int) ≤ (kwrap .u64 x225)) <|
  bif (v233 == 1) then
   none
  else
   let v235:=(kwrap .i64 (x225 + 1))
   next v235
 else
  some ()
def psalterylaw14_SubTurned.l2 (K : Nat) (c0 c1 c2 c3 c4 c5 c6 c7 c8 c9 c10 c11 c12 : Int) (n : Nat) : Int → Option (Unit):=rounds (psalterylaw14_SubTurned.r2 K c0 c1 c2 c3 c4 c5 c6 c7 c8 c9 c10 c11 c12) (fun _=>none) n
def psalterylaw14_SubTurned.r3 (_K : Nat) (c0 c1 c2 _c3 _c4 _c5 _c6 _c7 _c8 _c9 _c10 _c11 _c12 : Int) (next : Bool → Int → List Int → Option (Bool × (List Int))) (x280 : Bool) (x281 : Int) (x282 : List Int) : Option (Bool × (List Int)):=
 let v288:=(decide (x281 < 8))
 let v289:=(kwrap .i64 (c2 + x281))
 let v290:=(kwrap .i64 (32 + c1))
 let v291:=(decide (v289 < v290))
 let v292:=(bif v288 then v291 else false)
 bif v292 then
  (
   let v296:=(kshr .u8 c0 (kwrap .u64 x281))
   let v297:=(Int.tmod v296 2)
   gd ((0 : Int) ≤ (kwrap .u64 x281)) <|
   bif (v297 == 1) then
    let v298:=(kwrap .i64 (Int.tdiv v289 8))
    let v299:=(Int.toNat v298)
    let v300:=(Kd.nth (.int .u8) x282 v299)
    let v301:=(Int.tmod v289 8)
    let v302:=(kwrap .u64 v301)
    let v303:=(kshr .u8 128 v302)
    let v304:=(kxor .u8 v300 v303)
    let v305:=(List.set x282 v299 v304)
    gd ((0 : Int) ≤ v298 ∧ v298 < (x282.length : Int) ∧ v299 < x282.length ∧ (0 : Int) ≤ v302 ∧ (0 : Int) ≤ v298 ∧ v298 < (x282.length : Int) ∧ v299 < x282.length) <|
    some (true,v305)
   else
    some (x280,x282) : Option (Bool × (List Int))).bind fun (x293,x294)=>
   let v295:=(kwrap .i64 (x281 + 1))
   next x293 v295 x294
 else
  some (x280,x282)
def psalterylaw14_SubTurned.l3 (K : Nat) (c0 c1 c2 c3 c4 c5 c6 c7 c8 c9 c10 c11 c12 : Int) (n : Nat) : Bool → Int → List Int → Option (Bool × (List Int)):=rounds (psalterylaw14_SubTurned.r3 K c0 c1 c2 c3 c4 c5 c6 c7 c8 c9 c10 c11 c12) (fun _ _ _=>none) n
def psalterylaw14_SubTurned (K : Nat) (p0 p1 p2 p3 p4 p5 p6 p7 p8 p9 : Int) (p10 : List Int) (p11 p12 : Int) (p13 : Bool) : Option (Bool):=
 (psalterylaw14_alive K ).bind fun r73=>
 bif (!r73) then
  some false
 else
  (bank_New K ).bind fun _=>
  (subband_NewEncoder K p0 p1 p2 p3 p4 p5 p6 p7 p8 p9 (List.replicate 388 none) 0 0).bind fun z=>match z with
  | .inl r74=>
   let v75:=(decide ((p10.length : Int) > 1000))
   let v76:=(bif (r74 != 0) then true else v75)
   let v77:=(bif v76 then true else (p12 == 0))
   bif v77 then
    some true
   else
    let v78:=(kwrap .i64 (p2 * p3))
    let v79:=(kwrap .i64 (v78 * p4))
    let v80:=(List.replicate (Int.toNat v79) (0 : Int))
    gd ((0 : Int) ≤ v79 ∧ v79 ≤ v79 ∧ v79 * 2 ≤ 140737488355328) <|
    let v81:=(cpy 0 v80 p10)
    (subband_Encoder_Feed K v81).bind fun _=>
    some false
  | .inr (.inl (_r82,_r83,_r84,r85,r86,r87,r88))=>
   let v89:=(decide ((p10.length : Int) > 1000))
   let v90:=(bif v89 then true else (p12 == 0))
   bif v90 then
    some true
   else
    let v91:=(kwrap .i64 (p2 * p3))
    let v92:=(kwrap .i64 (v91 * p4))
    let v93:=(List.replicate (Int.toNat v92) (0 : Int))
    gd ((0 : Int) ≤ v92 ∧ v92 ≤ v92 ∧ v92 * 2 ≤ 140737488355328) <|
    let v94:=(cpy 0 v93 p10)
    (subband_Encoder_Feed_2 K v94 p0 p1 1 p3 p4 p5 p6 p7 p8 p9 r85 r86 r87 r88).bind fun z=>match z with
    | .inl (r95,_r96)=>
     bif (r95 != 0) then
      some false
     else
      bif p13 then
       none
      else
       let v102:=(kwrap .i64 (p6 * p3))
       let v103:=(kwrap .i64 (4 * p2))
       let v104:=(kwrap .i64 (v103 * p3))
       let v105:=(kwrap .i64 (v102 + v104))
       let v106:=(Int.tmod (kwrap .i64 p11) v105)
       let v107:=(kwrap .i64 (32 + v106))
       gd (v105 ≠ 0) <|
       (psalterylaw14_SubTurned.l0 K p12 v105 v107 p0 p1 p2 p3 p4 p5 p6 p7 p8 p9 K 0 : Option (Unit)).bind fun _=>
        some true
    | .inr (_r97,r98)=>
     (
      bif p13 then
       let v140:=(Int.tmod (kwrap .i64 p11) 4)
       let v141:=(Int.toNat v140)
       let v142:=(Kd.nth (.int .u8) r98 v141)
       let v143:=(kxor .u8 v142 p12)
       let v144:=(List.set r98 v141 v143)
       gd ((0 : Int) ≤ v140 ∧ v140 < (r98.length : Int) ∧ v141 < r98.length ∧ (0 : Int) ≤ v140 ∧ v140 < (r98.length : Int) ∧ v141 < r98.length) <|
       some (.inl v144)
      else
       let v145:=(kwrap .i64 (p6 * p3))
       let v146:=(kwrap .i64 (4 * p2))
       let v147:=(kwrap .i64 (v146 * p3))
       let v148:=(kwrap .i64 (v145 + v147))
       let v149:=(Int.tmod (kwrap .i64 p11) v148)
       let v150:=(kwrap .i64 (32 + v149))
       gd (v148 ≠ 0) <|
       (psalterylaw14_SubTurned.l1 K p12 v148 v150 p0 p1 p2 p3 p4 p5 p6 p7 p8 p9 K false 0 r98 : Option (Bool × (List Int))).bind fun (x161,x162)=>
        bif (!x161) then
         some (.inr true)
        else
         some (.inl x162) : Option (((List Int)) ⊕ (Bool))).bind fun z=>match z with
     | .inl x133=>
      (subband_Parse_2 K p0 p1 p2 p3 p4 p5 p6 p7 p8 p9 x133).bind fun (r134,_r135,_r136,r137)=>
      let v138:=((r134.length : Int) == 0)
      let v139:=(bif (r137 == 140) then v138 else false)
      some v139
     | .inr r=>
      some r
  | .inr (.inr (_r191,_r192,_r193,r194,r195,r196,r197,r198,r199,r200,r201))=>
   let v202:=(decide ((p10.length : Int) > 1000))
   let v203:=(bif v202 then true else (p12 == 0))
   bif v203 then
    some true
   else
    let v204:=(kwrap .i64 (p2 * p3))
    let v205:=(kwrap .i64 (v204 * p4))
    let v206:=(List.replicate (Int.toNat v205) (0 : Int))
    gd ((0 : Int) ≤ v205 ∧ v205 ≤ v205 ∧ v205 * 2 ≤ 140737488355328) <|
    let v207:=(cpy 0 v206 p10)
    (subband_Encoder_Feed_3 K v207 p0 p1 2 p3 p4 p5 p6 p7 p8 p9 r194 r195 r196 r197 r198 r199 r200 r201).bind fun z=>match z with
    | .inl (r208,_r209,_r210)=>
     bif (r208 != 0) then
      some false
     else
      bif p13 then
       none
      else
       let v217:=(kwrap .i64 (p6 * p3))
       let v218:=(kwrap .i64 (4 * p2))
       let v219:=(kwrap .i64 (v218 * p3))
       let v220:=(kwrap .i64 (v217 + v219))
       let v221:=(Int.tmod (kwrap .i64 p11) v220)
       let v222:=(kwrap .i64 (32 + v221))
       gd (v220 ≠ 0) <|
       (psalterylaw14_SubTurned.l2 K p12 v220 v222 p0 p1 p2 p3 p4 p5 p6 p7 p8 p9 K 0 : Option (Unit)).bind fun _=>
        some true
    | .inr (_r211,_r212,r213)=>
     (
      bif p13 then
       let v255:=(Int.tmod (kwrap .i64 p11) 4)
       let v256:=(Int.toNat v255)
       let v257:=(Kd.nth (.int .u8) r213 v256)
       let v258:=(kxor .u8 v257 p12)
       let v259:=(List.set r213 v256 v258)
       gd ((0 : Int) ≤ v255 ∧ v255 < (r213.length : Int) ∧ v256 < r213.length ∧ (0 : Int) ≤ v255 ∧ v255 < (r213.length : Int) ∧ v256 < r213.length) <|
       some (.inl v259)
      else
       let v260:=(kwrap .i64 (p6 * p3))
       let v261:=(kwrap .i64 (4 * p2))
       let v262:=(kwrap .i64 (v261 * p3))
       let v263:=(kwrap .i64 (v260 + v262))
       let v264:=(Int.tmod (kwrap .i64 p11) v263)
       let v265:=(kwrap .i64 (32 + v264))
       gd (v263 ≠ 0) <|
       (psalterylaw14_SubTurned.l3 K p12 v263 v265 p0 p1 p2 p3 p4 p5 p6 p7 p8 p9 K false 0 r213 : Option (Bool × (List Int))).bind fun (x276,x277)=>
        bif (!x276) then
         some (.inr true)
        else
         some (.inl x277) : Option (((List Int)) ⊕ (Bool))).bind fun z=>match z with
     | .inl x248=>
      (subband_Parse_2 K p0 p1 p2 p3 p4 p5 p6 p7 p8 p9 x248).bind fun (r249,_r250,_r251,r252)=>
      let v253:=((r249.length : Int) == 0)
      let v254:=(bif (r252 == 140) then v253 else false)
      some v254
     | .inr r=>
      some r
end Go.Fo
