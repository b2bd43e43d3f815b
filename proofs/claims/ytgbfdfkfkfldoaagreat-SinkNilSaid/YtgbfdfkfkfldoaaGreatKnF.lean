/- The functions of Go that are reached, as functions of plain values. -/
import Derived.Test.YtgbfdfkfkfldoaaGreatJ4
namespace Go.Fo
def bank_New (_K : Nat) : Option (Unit):=
 some ()
def psalterylaw29_plain (_K : Nat)  : Option (Unit):=
 some ()
def format_within (_K : Nat)  : Option (Unit):=
 some ()
def format_within_2 (_K : Nat)  : Option (Unit):=
 some ()
def slices_Index_bool_bool.r0 (_K : Nat) (d : Int) (b : List (Bool)) (next : Int → Option ((Unit) ⊕ (Int))) (a : Int) : Option ((Unit) ⊕ (Int)):=
 let e:=(decide (a < d))
 bif e then
  let f:=(Kd.nth (.bool) b (Int.toNat a))
  gd ((0 : Int) ≤ a ∧ a < (b.length : Int) ∧ (Int.toNat a) < b.length) <|
  bif (false == f) then
   some (.inr a)
  else
   let g:=(kwrap .i64 (a + 1))
   next g
 else
  some (.inl ())
def slices_Index_bool_bool.l0 (K : Nat) (a : Int) (b : List (Bool)) (n : Nat) : Int → Option ((Unit) ⊕ (Int)):=rounds (slices_Index_bool_bool.r0 K a b) (fun _=>none) n
def slices_Index_bool_bool (K : Nat) (a : List (Bool)) : Option (Int):=
 (slices_Index_bool_bool.l0 K (a.length : Int) a K 0 : Option ((Unit) ⊕ (Int))).bind fun z=>match z with
 | .inl _=>
  some (-1)
 | .inr r=>
  some r
def slices_Contains_bool_bool (K : Nat) (a : List (Bool)) : Option (Bool):=
 (slices_Index_bool_bool K a).bind fun b=>
 let d:=(decide (b ≥ 0))
 some d
def format_all (K : Nat) (a : List (Bool)) : Option (Bool):=
 (slices_Contains_bool_bool K a).bind fun b=>
 some (!b)
def lapped_lengths (_K : Nat)  : Option (Unit):=
 some ()
def lapped_Lengths (K : Nat)  : Option ((List Int)):=
 (lapped_lengths K ).bind fun _=>
 let a:=[(40,(60,(80,120))).1,(40,(60,(80,120))).2.1,(40,(60,(80,120))).2.2.1,(40,(60,(80,120))).2.2.2]
 some a
def slices_Index_int_int.r0 (_K : Nat) (b : List Int) (d : Int) (next : Int → Option ((Unit) ⊕ (Int))) (a : Int) : Option ((Unit) ⊕ (Int)):=
 let e:=(decide (a < d))
 bif e then
  let f:=(Kd.nth (.int .i64) b (Int.toNat a))
  gd ((0 : Int) ≤ a ∧ a < (b.length : Int)) <|
  bif (40 == f) then
   some (.inr a)
  else
   let g:=(kwrap .i64 (a + 1))
   next g
 else
  some (.inl ())
def slices_Index_int_int.l0 (K : Nat) (a : List Int) (b : Int) (n : Nat) : Int → Option ((Unit) ⊕ (Int)):=rounds (slices_Index_int_int.r0 K a b) (fun _=>none) n
def slices_Index_int_int (K : Nat) (a : List Int) : Option (Int):=
 (slices_Index_int_int.l0 K a (a.length : Int) K 0 : Option ((Unit) ⊕ (Int))).bind fun z=>match z with
 | .inl _=>
  some (-1)
 | .inr r=>
  some r
def slices_Contains_int_int (K : Nat) (a : List Int) : Option (Bool):=
 (slices_Index_int_int K a).bind fun b=>
 let d:=(decide (b ≥ 0))
 some d
def format_within_3 (_K : Nat)  : Option (Unit):=
 some ()
def format_fields (K : Nat)  : Option (Bool):=
 (format_within K ).bind fun _=>
 (format_within_2 K ).bind fun _=>
 (format_all K [true,true]).bind fun a=>
 (
  bif a then
   (lapped_Lengths K ).bind fun b=>
   (slices_Contains_int_int K b).bind fun d=>
   (format_within_3 K ).bind fun _=>
   let e:=[d,true,true]
   (format_all K e).bind fun f=>
   let g:=(bif a then f else false)
   some g
  else
   let h:=(bif a then false else false)
   some h : Option (Bool)).bind fun i=>
  some i
def format_payload (_K : Nat)  : Option (Unit):=
 some ()
def format_Check (K : Nat)  : Option (Int):=
 (
  (format_fields K ).bind fun a=>
  bif (!a) then
   some true
  else
   (format_payload K ).bind fun _=>
   some false : Option (Bool)).bind fun b=>
  bif b then
   some 110
  else
   some 0
def lap_may (K : Nat)  : Option (Int):=
 (format_Check K ).bind fun a=>
 let b:=(bif (a != 0) then true else false)
 bif b then
  some 110
 else
  some 0
def bank_Bank_may (_K : Nat) (a : Bool) (_b : List (Option (List Int))) : Option ((Unit) ⊕ (Unit)):=
 bif (!a) then
  some (.inl ())
 else
  some (.inr ())
def sync_atomic_Bool_Load (_K : Nat) (_a _b : List (Option (List Int))) : Option (Unit):=
 some ()
def wave_modulo (_K : Nat) (a : Int) : Option (Int):=
 let b:=(Int.tmod 1 a)
 gd (a ≠ 0) <|
 let d:=(decide (b < 0))
 (
  bif d then
   let e:=(kwrap .i64 (b + a))
   some e
  else
   some b : Option (Int)).bind fun f=>
  some f
def wave_height (K : Nat) (a : Int) : Option (Int × Int):=
 (wave_modulo K a).bind fun f=>
 let b:=(kwrap .i64 (4 * f))
 let d:=(kwrap .i64 (Int.tdiv b a))
 gd (a ≠ 0) <|
 let e:=(Int.tmod b a)
 gd (a ≠ 0) <|
 let g:=(kand .i64 d 1)
 (
  bif (g == 1) then
   let h:=(kwrap .i64 (a - e))
   some h
  else
   some e : Option (Int)).bind fun i=>
  let j:=(kshl .u64 (kwrap .u64 i) 30)
  let k:=(kwrap .u64 (Int.tdiv j (kwrap .u64 a)))
  gd ((kwrap .u64 a) ≠ 0) <|
  some (k,d)
def fix_within_int (_K : Nat)  : Option (Unit):=
 some ()
def fix_Round (K : Nat) (a : Int) : Option (Int):=
 (fix_within_int K ).bind fun _=>
 let b:=(kshr .i64 a 15)
 let d:=(kshr .i64 a 14)
 let e:=(kand .i64 d 1)
 let f:=(kwrap .i64 (b + e))
 some f
def fix_within_int64 (_K : Nat) (a : Int) : Option (Int):=
 let b:=(decide (a < 0))
 bif b then
  some 0
 else
  let d:=(decide (a > 32767))
  bif d then
   some 32767
  else
   some a
def fix_Clip (K : Nat) (a : Int) : Option (Int):=
 (fix_within_int64 K a).bind fun b=>
 some b
def wave_sine.r0 (_K : Nat) (_k _l d : Int) (next : Int → Int → Option (Int)) (b a : Int) : Option (Int):=
 let e:=(decide (a < 4))
 bif e then
  let f:=(List.getD [5026995,85569306,693598668,1686629713] (Int.toNat a) 0)
  gd ((0 : Int) ≤ a ∧ a < 4) <|
  let g:=(kwrap .u64 (b * d))
  let h:=(kshr .u64 g 30)
  let i:=(kwrap .u64 (f - h))
  let j:=(kwrap .i64 (a + 1))
  next i j
 else
  some b
def wave_sine.l0 (K : Nat) (a b d : Int) (n : Nat) : Int → Int → Option (Int):=rounds (wave_sine.r0 K a b d) (fun _ _=>none) n
def wave_sine (K : Nat) (e : Int) : Option (Int):=
 (wave_height K e).bind fun (a,b)=>
 let f:=(kwrap .u64 (a * a))
 let g:=(kshr .u64 f 30)
 (wave_sine.l0 K a b g K 172272 0 : Option (Int)).bind fun h=>
  let i:=(kwrap .u64 (h * a))
  let j:=(kshr .u64 i 30)
  let k:=(kwrap .i64 j)
  (fix_Round K k).bind fun l=>
  (fix_Clip K l).bind fun d=>
  let m:=(decide (b ≥ 2))
  (
   bif m then
    some ((kwrap .i64 (0 - d)))
   else
    some d : Option (Int)).bind fun n=>
   some (kwrap .i16 n)
def wave_Sine (K : Nat) (a : Int) : Option (Int × Int):=
 let b:=(decide (a < 1))
 let d:=(decide (a > 1048576))
 let e:=(bif b then true else d)
 bif e then
  some (0,1)
 else
  (wave_sine K a).bind fun f=>
  some (f,0)
def bank_Bank_Slope_1 (K : Nat) (a : Int) : Option (Int):=
 let b:=(kwrap .i64 (8 * a))
 (wave_Sine K b).bind fun (d,_e)=>
 some d
def wave_modulo_2 (_K : Nat) (d a : Int) : Option (Int):=
 let b:=(Int.tmod d a)
 gd (a ≠ 0) <|
 let e:=(decide (b < 0))
 (
  bif e then
   let f:=(kwrap .i64 (b + a))
   some f
  else
   some b : Option (Int)).bind fun g=>
  some g
def wave_height_2 (K : Nat) (f a : Int) : Option (Int × Int):=
 (wave_modulo_2 K f a).bind fun g=>
 let b:=(kwrap .i64 (4 * g))
 let d:=(kwrap .i64 (Int.tdiv b a))
 gd (a ≠ 0) <|
 let e:=(Int.tmod b a)
 gd (a ≠ 0) <|
 let h:=(kand .i64 d 1)
 (
  bif (h == 1) then
   let i:=(kwrap .i64 (a - e))
   some i
  else
   some e : Option (Int)).bind fun j=>
  let k:=(kshl .u64 (kwrap .u64 j) 30)
  let l:=(kwrap .u64 (Int.tdiv k (kwrap .u64 a)))
  gd ((kwrap .u64 a) ≠ 0) <|
  some (l,d)
def wave_sine_2.r0 (_K : Nat) (_k _l d : Int) (next : Int → Int → Option (Int)) (b a : Int) : Option (Int):=
 let e:=(decide (a < 4))
 bif e then
  let f:=(List.getD [5026995,85569306,693598668,1686629713] (Int.toNat a) 0)
  gd ((0 : Int) ≤ a ∧ a < 4) <|
  let g:=(kwrap .u64 (b * d))
  let h:=(kshr .u64 g 30)
  let i:=(kwrap .u64 (f - h))
  let j:=(kwrap .i64 (a + 1))
  next i j
 else
  some b
def wave_sine_2.l0 (K : Nat) (a b d : Int) (n : Nat) : Int → Int → Option (Int):=rounds (wave_sine_2.r0 K a b d) (fun _ _=>none) n
def wave_sine_2 (K : Nat) (e f : Int) : Option (Int):=
 (wave_height_2 K e f).bind fun (a,b)=>
 let g:=(kwrap .u64 (a * a))
 let h:=(kshr .u64 g 30)
 (wave_sine_2.l0 K a b h K 172272 0 : Option (Int)).bind fun i=>
  let j:=(kwrap .u64 (i * a))
  let k:=(kshr .u64 j 30)
  let l:=(kwrap .i64 k)
  (fix_Round K l).bind fun m=>
  (fix_Clip K m).bind fun d=>
  let n:=(decide (b ≥ 2))
  (
   bif n then
    some ((kwrap .i64 (0 - d)))
   else
    some d : Option (Int)).bind fun o=>
   some (kwrap .i16 o)
def wave_Sine_2 (K : Nat) (b a : Int) : Option (Int × Int):=
 let d:=(decide (a < 1))
 let e:=(decide (a > 1048576))
 let f:=(bif d then true else e)
 bif f then
  some (0,1)
 else
  (wave_sine_2 K b a).bind fun g=>
  some (g,0)
def bank_Bank_Slope_1_2 (K : Nat) (a b : Int) : Option (Int):=
 let d:=(kwrap .i64 (2 * a))
 let e:=(kwrap .i64 (d + 1))
 let f:=(kwrap .i64 (8 * b))
 (wave_Sine_2 K e f).bind fun (g,_h)=>
 some g
def sync_atomic_Int64_Add (_K : Nat) (a : List (Option (List Int))) (_d : List Int) (b : List (Option (List Int))) : Option (Int):=
 gd (a.length + b.length = 387) <|
 some (kwrap .i64 (0 + 1))
def bank_Bank_tell_1.r0 (K : Nat) (d : Int) (_j _k : List (Option (List Int))) (_l e : Int) (next : Int → List Int → Option ((List Int))) (a : Int) (b : List Int) : Option ((List Int)):=
 let f:=(decide (a < d))
 bif f then
  (bank_Bank_Slope_1_2 K a e).bind fun g=>
  gd ((0 : Int) ≤ a ∧ a < (b.length : Int)) <|
  let h:=(List.set b (Int.toNat a) g)
  gd ((Int.toNat a) < b.length) <|
  let i:=(kwrap .i64 (a + 1))
  next i h
 else
  some b
def bank_Bank_tell_1.l0 (K : Nat) (a : Int) (b d : List (Option (List Int))) (e f : Int) (n : Nat) : Int → List Int → Option ((List Int)):=rounds (bank_Bank_tell_1.r0 K a b d e f) (fun _ _=>none) n
def bank_Bank_tell_1 (K : Nat) (b d : List (Option (List Int))) (a g : Int) : Option ((List Int) × Int):=
 let e:=(List.replicate (Int.toNat a) (0 : Int))
 gd ((0 : Int) ≤ a ∧ a ≤ a ∧ a * 2 ≤ 140737488355328) <|
 let h:=(e.length : Int)
 (bank_Bank_tell_1.l0 K h b d a g K 0 e : Option ((List Int))).bind fun f=>
  (sync_atomic_Int64_Add K b f d).bind fun i=>
  some (f,i)
def sync_Once_doSlow (K : Nat) (a b : List (Option (List Int))) (d e : Int) : Option ((List Int) × Int):=
 bank_Bank_tell_1 K a b d e
def sync_Once_Do (K : Nat) (a b : List (Option (List Int))) (d e : Int) : Option ((List Int) × Int):=
 (sync_atomic_Bool_Load K a b).bind fun _=>
 (sync_Once_doSlow K a b d e).bind fun (f,g)=>
 some (f,g)
def sync_atomic_Int64_Add_2 (_K : Nat) (a : List (Option (List Int))) (_d : List Int) (b : List (Option (List Int))) (_e : Int) : Option (Int):=
 gd (a.length + b.length = 387) <|
 some (kwrap .i64 (0 + 1))
def slices_Clone_int16_int16 (_K : Nat) (a : List Int) : Option ((List Int)):=
 gd (a ≠ []) <|
 let b:=(([] : List Int) ++ a)
 gd (((([] : List Int).length : Int) + (a.length : Int)) * 2 ≤ 70368744177664) <|
 some b
def bank_Bank_tell (K : Nat) (t0 t1 : List (Option (List Int))) (d e : Int) : Option ((List Int) × (List Int) × Int × Int):=
 (sync_Once_Do K t0 t1 d e).bind fun (a,b)=>
 (sync_atomic_Int64_Add_2 K t0 a t1 b).bind fun f=>
 (slices_Clone_int16_int16 K a).bind fun g=>
 some (g,a,b,f)
def sync_atomic_Bool_Load_2 (_K : Nat) (_a : List (Option (List Int))) (_b : List Int) (_d : List (Option (List Int))) : Option (Unit):=
 some ()
def sync_Once_Do_2 (K : Nat) (a : List (Option (List Int))) (b : List Int) (d : List (Option (List Int))) (_e _f : Int) : Option (Unit):=
 (sync_atomic_Bool_Load_2 K a b d).bind fun _=>
 some ()
def sync_atomic_Int64_Add_3 (_K : Nat) (a : List (Option (List Int))) (_d : List Int) (b : List (Option (List Int))) : Option (Int):=
 gd (a.length + b.length = 387) <|
 some (kwrap .i64 (0 + 1))
def bank_Bank_tell_2 (K : Nat) (t0 t1 : List (Option (List Int))) (l : List Int) (a b : Int) : Option ((List Int) × Int):=
 (sync_Once_Do_2 K t0 l t1 a b).bind fun _=>
 (sync_atomic_Int64_Add_3 K t0 l t1).bind fun d=>
 (slices_Clone_int16_int16 K l).bind fun e=>
 some (e,d)
def bank_Bank_tell_3 (K a : Nat) (d : Int) (b : List (Option (List Int))) (e : Int) : Option ((List Int) × (List (Option (List Int))) × Int × Int):=
 gd (b.length = 388 ∧ a = a / 4 * 4 ∧ a / 4 < 388) <|
 match b[a / 4]? with
 | some none=>(bank_Bank_tell K (b.take (a / 4)) (b.drop ((a / 4) + 1)) d e).bind fun (q0',q1',q2',q3')=>some (q0',(b.take (a / 4) ++ some q1' :: b.drop ((a / 4) + 1)),q2',q3')
 | some (some l)=>(bank_Bank_tell_2 K (b.take (a / 4)) (b.drop ((a / 4) + 1)) l d e).bind fun (q0',q1')=>some (q0',b,0,q1')
 | none=>none
def bank_Bank_Slope (K : Nat) (a : Int) (b : List (Option (List Int))) : Option ((List Int) × Int × (List (Option (List Int))) × Int × Int):=
 let d:=(decide (a ≥ 1))
 let e:=(decide (a ≤ 128))
 let f:=(bif d then e else false)
 (bank_Bank_may K f b).bind fun z=>match z with
 | .inl _=>
  some (([] : List Int),1,b,0,0)
 | .inr _=>
  let g:=(1028 + (Int.toNat a) * 4)
  gd ((0 : Int) ≤ a ∧ a < 129) <|
  (bank_Bank_tell_3 K g a b a).bind fun (h,i,j,k)=>
  some (h,0,i,j,k)
def math_bits_Mul64 (_K : Nat) (a b : Int) : Option (Int × Int):=
 let d:=(kand .u64 a 4294967295)
 let e:=(kshr .u64 a 32)
 let f:=(kand .u64 b 4294967295)
 let g:=(kshr .u64 b 32)
 let i:=(kwrap .u64 (d * f))
 let j:=(kwrap .u64 (e * f))
 let k:=(kshr .u64 i 32)
 let h:=(kwrap .u64 (j + k))
 let l:=(kand .u64 h 4294967295)
 let m:=(kshr .u64 h 32)
 let n:=(kwrap .u64 (d * g))
 let o:=(kwrap .u64 (l + n))
 let p:=(kwrap .u64 (e * g))
 let q:=(kwrap .u64 (p + m))
 let s:=(kshr .u64 o 32)
 let t:=(kwrap .u64 (q + s))
 let u:=(kwrap .u64 (a * b))
 some (t,u)
def math_bits_Mul (K : Nat) (a b : Int) : Option (Int × Int):=
 (math_bits_Mul64 K a b).bind fun (d,e)=>
 some (d,e)
def slices_Repeat_int16_int16.r0 (_K : Nat)  (next : Int → List Int → Option ((List Int))) (a : Int) (b : List Int) : Option ((List Int)):=
 let d:=(decide (a < (b.length : Int)))
 bif d then
  gd ((0 : Int) ≤ a ∧ a < (b.length : Int)) <|
  gd ((0 : Int) ≤ a ∧ a ≤ (b.length : Int) ∧ b ≠ []) <|
  let e:=(cpy (Int.toNat a) b (b.take (Int.toNat a)))
  gd ((Int.toNat a) < b.length ∧ (Int.toNat a) ≤ b.length) <|
  let f:=(kwrap .i64 (a + ((min (b.take (Int.toNat a)).length (b.length - (Int.toNat a)) : Nat) : Int)))
  next f e
 else
  some b
def slices_Repeat_int16_int16.l0 (K : Nat)  (n : Nat) : Int → List Int → Option ((List Int)):=rounds (slices_Repeat_int16_int16.r0 K) (fun _ _=>none) n
def slices_Repeat_int16_int16 (K : Nat) (b : List Int) (d : Int) : Option ((List Int)):=
 let f:=(decide (d < 0))
 bif f then
  none
 else
  let g:=(kwrap .u64 (b.length : Int))
  (math_bits_Mul K g (kwrap .u64 d)).bind fun (h,a)=>
  let i:=(decide (h > 0))
  let j:=(decide (a > 9223372036854775807))
  let k:=(bif i then true else j)
  bif k then
   none
  else
   let e:=(List.replicate (Int.toNat (kwrap .i64 a)) (0 : Int))
   gd ((0 : Int) ≤ (kwrap .i64 a) ∧ (kwrap .i64 a) ≤ (kwrap .i64 a) ∧ (kwrap .i64 a) * 2 ≤ 140737488355328) <|
   let l:=(cpy 0 e b)
   let m:=((min b.length (e.length - 0) : Nat) : Int)
   (slices_Repeat_int16_int16.l0 K K m l : Option ((List Int))).bind fun n=>
    some n
def slices_Clone_int16_int16_2 (_K : Nat) (a : List Int) : Option ((List Int)):=
 gd (a ≠ []) <|
 let b:=(([] : List Int) ++ a)
 gd (((([] : List Int).length : Int) + (a.length : Int)) * 2 ≤ 70368744177664) <|
 some b
def slices_Reverse_int16_int16.r0 (_K : Nat)  (next : Int → Int → List Int → Option ((List Int))) (a b : Int) (d : List Int) : Option ((List Int)):=
 let f:=(decide (a < b))
 bif f then
  gd ((0 : Int) ≤ b ∧ b < (d.length : Int)) <|
  let g:=(Kd.nth (.int .i16) d (Int.toNat b))
  gd ((Int.toNat b) < d.length) <|
  gd ((0 : Int) ≤ a ∧ a < (d.length : Int)) <|
  let h:=(Kd.nth (.int .i16) d (Int.toNat a))
  gd ((Int.toNat a) < d.length) <|
  gd ((0 : Int) ≤ a ∧ a < (d.length : Int)) <|
  let e:=(List.set d (Int.toNat a) g)
  gd ((Int.toNat a) < d.length) <|
  gd ((0 : Int) ≤ b ∧ b < (e.length : Int)) <|
  let i:=(List.set e (Int.toNat b) h)
  gd ((Int.toNat b) < e.length) <|
  let j:=(kwrap .i64 (a + 1))
  let k:=(kwrap .i64 (b - 1))
  next j k i
 else
  some d
def slices_Reverse_int16_int16.l0 (K : Nat)  (n : Nat) : Int → Int → List Int → Option ((List Int)):=rounds (slices_Reverse_int16_int16.r0 K) (fun _ _ _=>none) n
def slices_Reverse_int16_int16 (K : Nat) (a : List Int) : Option ((List Int)):=
 let b:=(kwrap .i64 ((a.length : Int) - 1))
 (slices_Reverse_int16_int16.l0 K K 0 b a : Option ((List Int))).bind fun d=>
  some d
def lapped_Window (K : Nat) (f : List (Option (List Int))) : Option ((List Int) × Int × (List (Option (List Int))) × Int × Int):=
 (lapped_lengths K ).bind fun _=>
 let m:=[(40,(60,(80,120))).1,(40,(60,(80,120))).2.1,(40,(60,(80,120))).2.2.1,(40,(60,(80,120))).2.2.2]
 (slices_Contains_int_int K m).bind fun n=>
 bif (!n) then
  some (([] : List Int),1,f,0,0)
 else
  let o:=(kwrap .i64 (Int.tdiv 40 2))
  (bank_Bank_Slope K o f).bind fun (b,g,h,i,j)=>
  bif (g != 0) then
   some (([] : List Int),g,h,i,j)
  else
   let a:=(kwrap .i64 (Int.tdiv 40 4))
   let d:=(List.replicate (Int.toNat a) (0 : Int))
   gd ((0 : Int) ≤ a ∧ a ≤ 80) <|
   gd (((d.length : Int) + (b.length : Int)) * 2 ≤ 70368744177664) <|
   (slices_Repeat_int16_int16 K [32767] a).bind fun k=>
   let e:=((d ++ b) ++ k)
   gd ((((d ++ b).length : Int) + (k.length : Int)) * 2 ≤ 70368744177664) <|
   (slices_Clone_int16_int16_2 K e).bind fun p=>
   (slices_Reverse_int16_int16 K p).bind fun l=>
   gd (((e.length : Int) + (l.length : Int)) * 2 ≤ 70368744177664) <|
   some ((e ++ l),0,h,i,j)
def bank_Bank_may_2 (_K : Nat) (a : Bool) (_b : List (Option (List Int))) (_d _e : Int) : Option ((Unit) ⊕ (Unit)):=
 bif (!a) then
  some (.inl ())
 else
  some (.inr ())
def sync_atomic_Bool_Load_3 (_K : Nat) (_a _b : List (Option (List Int))) (_d _e : Int) : Option (Unit):=
 some ()
def wave_modulo_3 (_K : Nat)  : Option (Int):=
 let a:=(Int.tmod 0 320)
 let b:=(decide (a < 0))
 (
  bif b then
   let d:=(kwrap .i64 (a + 320))
   some d
  else
   some a : Option (Int)).bind fun e=>
  some e
def wave_modulo_4 (_K : Nat) (b : Int) : Option (Int):=
 let a:=(Int.tmod b 1280)
 let d:=(decide (a < 0))
 (
  bif d then
   let e:=(kwrap .i64 (a + 1280))
   some e
  else
   some a : Option (Int)).bind fun f=>
  some f
def wave_height_3 (K : Nat) (e : Int) : Option (Int × Int):=
 (wave_modulo_4 K e).bind fun f=>
 let a:=(kwrap .i64 (4 * f))
 let b:=(kwrap .i64 (Int.tdiv a 1280))
 let d:=(Int.tmod a 1280)
 let g:=(kand .i64 b 1)
 (
  bif (g == 1) then
   let h:=(kwrap .i64 (1280 - d))
   some h
  else
   some d : Option (Int)).bind fun i=>
  let j:=(kshl .u64 (kwrap .u64 i) 30)
  let k:=(kwrap .u64 (Int.tdiv j 1280))
  some (k,b)
def wave_sine_3.r0 (_K : Nat) (_k _l d : Int) (next : Int → Int → Option (Int)) (b a : Int) : Option (Int):=
 let e:=(decide (a < 4))
 bif e then
  let f:=(List.getD [5026995,85569306,693598668,1686629713] (Int.toNat a) 0)
  gd ((0 : Int) ≤ a ∧ a < 4) <|
  let g:=(kwrap .u64 (b * d))
  let h:=(kshr .u64 g 30)
  let i:=(kwrap .u64 (f - h))
  let j:=(kwrap .i64 (a + 1))
  next i j
 else
  some b
def wave_sine_3.l0 (K : Nat) (a b d : Int) (n : Nat) : Int → Int → Option (Int):=rounds (wave_sine_3.r0 K a b d) (fun _ _=>none) n
def wave_sine_3 (K : Nat) (e : Int) : Option (Int):=
 (wave_height_3 K e).bind fun (a,b)=>
 let f:=(kwrap .u64 (a * a))
 let g:=(kshr .u64 f 30)
 (wave_sine_3.l0 K a b g K 172272 0 : Option (Int)).bind fun h=>
  let i:=(kwrap .u64 (h * a))
  let j:=(kshr .u64 i 30)
  let k:=(kwrap .i64 j)
  (fix_Round K k).bind fun l=>
  (fix_Clip K l).bind fun d=>
  let m:=(decide (b ≥ 2))
  (
   bif m then
    some ((kwrap .i64 (0 - d)))
   else
    some d : Option (Int)).bind fun n=>
   some (kwrap .i16 n)
def wave_Cosine (K : Nat)  : Option (Int):=
 (wave_modulo_3 K ).bind fun a=>
 let b:=(kwrap .i64 (4 * a))
 let d:=(kwrap .i64 (b + 320))
 (wave_sine_3 K d).bind fun e=>
 some e
def bank_Bank_Turn_1 (K : Nat)  : Option (Int):=
 (wave_Cosine K ).bind fun a=>
 some a
def wave_modulo_5 (_K : Nat) (b : Int) : Option (Int):=
 let a:=(Int.tmod b 320)
 let d:=(decide (a < 0))
 (
  bif d then
   let e:=(kwrap .i64 (a + 320))
   some e
  else
   some a : Option (Int)).bind fun f=>
  some f
def wave_Cosine_2 (K : Nat) (a : Int) : Option (Int):=
 (wave_modulo_5 K a).bind fun b=>
 let d:=(kwrap .i64 (4 * b))
 let e:=(kwrap .i64 (d + 320))
 (wave_sine_3 K e).bind fun f=>
 some f
def bank_Bank_Turn_1_2 (K : Nat) (a : Int) : Option (Int):=
 (wave_Cosine_2 K a).bind fun b=>
 some b
def sync_atomic_Int64_Add_4 (_K : Nat) (a : List (Option (List Int))) (_e : List Int) (b : List (Option (List Int))) (d _f : Int) : Option (Int):=
 gd (a.length + b.length = 387) <|
 some (kwrap .i64 (d + 1))
def bank_Bank_tell_1_2.r0 (K : Nat) (d : Int) (_i _j : List (Option (List Int))) (_k _l : Int) (next : Int → List Int → Option ((List Int))) (a : Int) (b : List Int) : Option ((List Int)):=
 let e:=(decide (a < d))
 bif e then
  (bank_Bank_Turn_1_2 K a).bind fun f=>
  gd ((0 : Int) ≤ a ∧ a < (b.length : Int)) <|
  let g:=(List.set b (Int.toNat a) f)
  gd ((Int.toNat a) < b.length) <|
  let h:=(kwrap .i64 (a + 1))
  next h g
 else
  some b
def bank_Bank_tell_1_2.l0 (K : Nat) (a : Int) (b d : List (Option (List Int))) (e f : Int) (n : Nat) : Int → List Int → Option ((List Int)):=rounds (bank_Bank_tell_1_2.r0 K a b d e f) (fun _ _=>none) n
def bank_Bank_tell_1_2 (K : Nat) (a b : List (Option (List Int))) (d e : Int) : Option ((List Int) × Int):=
 let g:=((List.replicate 320 (0 : Int)).length : Int)
 (bank_Bank_tell_1_2.l0 K g a b d e K 0 (List.replicate 320 (0 : Int)) : Option ((List Int))).bind fun f=>
  (sync_atomic_Int64_Add_4 K a f b d e).bind fun h=>
  some (f,h)
def sync_Once_doSlow_2 (K : Nat) (a b : List (Option (List Int))) (d e : Int) : Option ((List Int) × Int):=
 bank_Bank_tell_1_2 K a b d e
def sync_Once_Do_3 (K : Nat) (a b : List (Option (List Int))) (d e : Int) : Option ((List Int) × Int):=
 (sync_atomic_Bool_Load_3 K a b d e).bind fun _=>
 (sync_Once_doSlow_2 K a b d e).bind fun (f,g)=>
 some (f,g)
def sync_atomic_Int64_Add_5 (_K : Nat) (a : List (Option (List Int))) (_e : List Int) (b : List (Option (List Int))) (_f d : Int) : Option (Int):=
 gd (a.length + b.length = 387) <|
 some (kwrap .i64 (d + 1))
def bank_Bank_tell_4 (K : Nat) (t0 t1 : List (Option (List Int))) (e b : Int) : Option ((List Int) × (List Int) × Int × Int):=
 (sync_Once_Do_3 K t0 t1 e b).bind fun (a,d)=>
 (sync_atomic_Int64_Add_5 K t0 a t1 d b).bind fun f=>
 (slices_Clone_int16_int16 K a).bind fun g=>
 some (g,a,d,f)
def sync_atomic_Bool_Load_4 (_K : Nat) (_a : List (Option (List Int))) (_b : List Int) (_d : List (Option (List Int))) (_e _f : Int) : Option (Unit):=
 some ()
def sync_Once_Do_4 (K : Nat) (a : List (Option (List Int))) (b : List Int) (d : List (Option (List Int))) (e f : Int) : Option (Unit):=
 (sync_atomic_Bool_Load_4 K a b d e f).bind fun _=>
 some ()
def bank_Bank_tell_5 (K : Nat) (t0 t1 : List (Option (List Int))) (l : List Int) (a b : Int) : Option ((List Int) × Int):=
 (sync_Once_Do_4 K t0 l t1 a b).bind fun _=>
 (sync_atomic_Int64_Add_5 K t0 l t1 a b).bind fun d=>
 (slices_Clone_int16_int16 K l).bind fun e=>
 some (e,d)
def bank_Bank_tell_6 (K a : Nat) (b : List (Option (List Int))) (d e : Int) : Option ((List Int) × (List (Option (List Int))) × Int × Int):=
 gd (b.length = 388 ∧ a = a / 4 * 4 ∧ a / 4 < 388) <|
 match b[a / 4]? with
 | some none=>(bank_Bank_tell_4 K (b.take (a / 4)) (b.drop ((a / 4) + 1)) d e).bind fun (q0',q1',q2',q3')=>some (q0',(b.take (a / 4) ++ some q1' :: b.drop ((a / 4) + 1)),q2',q3')
 | some (some l)=>(bank_Bank_tell_5 K (b.take (a / 4)) (b.drop ((a / 4) + 1)) l d e).bind fun (q0',q1')=>some (q0',b,d,q1')
 | none=>none
def bank_Bank_Turn (K : Nat) (a : List (Option (List Int))) (b d : Int) : Option ((List Int) × Int × (List (Option (List Int))) × Int × Int):=
 let f:=(Int.tmod 320 4)
 (bank_Bank_may_2 K (f == 0) a b d).bind fun z=>match z with
 | .inl _=>
  some (([] : List Int),1,a,b,d)
 | .inr _=>
  let e:=(kwrap .i64 (Int.tdiv 320 4))
  let g:=(0 + (Int.toNat e) * 4)
  gd ((0 : Int) ≤ e ∧ e < 257) <|
  (bank_Bank_tell_6 K g a b d).bind fun (h,i,j,k)=>
  some (h,0,i,j,k)
def lapped_of (K : Nat) (f : List (Option (List Int))) : Option (Int × (List Int) × (List Int) × Int × (List (Option (List Int))) × Int × Int):=
 (lapped_Window K f).bind fun (g,a,b,d,e)=>
 bif (a != 0) then
  some (0,([] : List Int),([] : List Int),a,b,d,e)
 else
  (bank_Bank_Turn K b d e).bind fun (h,i,j,k,l)=>
  some (40,g,h,i,j,k,l)
def lapped_NewUnlapper (K : Nat) (f : List (Option (List Int))) : Option ((Int × (List (Option (List Int))) × Int × Int) ⊕ ((List (Option (List Int))) × Int × Int × Int × (List Int) × (List Int) × (List Int))):=
 (lapped_of K f).bind fun (g,h,i,a,b,d,e)=>
 bif (a != 0) then
  some (.inl (a,b,d,e))
 else
  some (.inr (b,d,e,g,h,i,(List.replicate 40 (0 : Int))))
def pitch_NewComb (_K : Nat)  : Option ((List Int)):=
 some (List.replicate 79 (0 : Int))
def lap_NewDecoder (K : Nat) (b : List (Option (List Int))) : Option ((Int) ⊕ ((List (Option (List Int))) × Int × Int × Int × (List Int) × (List Int) × (List Int) × (List Int))):=
 (lap_may K ).bind fun a=>
 bif (a != 0) then
  some (.inl a)
 else
  (
   (lapped_NewUnlapper K b).bind fun z=>match z with
   | .inl (_u,_w,_y,_A)=>
    none
   | .inr (d,e,f,g,h,i,j)=>
    (pitch_NewComb K ).bind fun k=>
    some (d,e,f,g,h,i,k,j) : Option ((List (Option (List Int))) × Int × Int × Int × (List Int) × (List Int) × (List Int) × (List Int))).bind fun (l,m,n,o,p,q,s,t)=>
   some (.inr (l,m,n,o,p,q,s,t))
def hide_speak (K : Nat) (a : List (Option (List Int))) : Option ((Int) ⊕ ((List (Option (List Int))) × Int × Int × Int × (List Int) × (List Int) × (List Int) × (List Int))):=
 (lap_NewDecoder K a).bind fun z=>match z with
 | .inl b=>
  some (.inl b)
 | .inr (d,e,f,g,h,i,j,k)=>
  some (.inr (d,e,f,g,h,i,j,k))
def lap_Decoder_Reset (_K : Nat)  : Option (Unit):=
 some ()
def hide_laps_reset (K : Nat)  : Option ((List (List Int)) × (List ((Int × Int))) × (List Int)):=
 (lap_Decoder_Reset K ).bind fun _=>
 (
  let a:=(([] : List (List Int)) ++ [(List.replicate 40 (0 : Int))])
  gd (((([] : List (List Int)).length : Int) + 1) * 24 ≤ 70368744177664) <|
  gd (([1].length : Int) * 2 ≤ 70368744177664) <|
  some (a,[1]) : Option ((List (List Int)) × (List Int))).bind fun (b,d)=>
  some (b,(List.replicate 1 ((0,0) : (Int × Int))),d)
def lapped_Unlapper_Reset (_K : Nat) (_b : Int) (_d _e a : List Int) : Option ((List Int)):=
 some (List.replicate a.length (0 : Int))
def pitch_Comb_Reset (_K : Nat) (_a : List Int) : Option ((List Int)):=
 some (List.replicate 79 (0 : Int))
def lap_Decoder_Reset_2 (K : Nat) (a : Int) (b d e f : List Int) : Option ((List Int) × (List Int)):=
 (
  (lapped_Unlapper_Reset K a b d f).bind fun g=>
  (pitch_Comb_Reset K e).bind fun h=>
  some (h,g) : Option ((List Int) × (List Int))).bind fun (i,j)=>
  some (i,j)
def hide_laps_reset_2 (K : Nat) (a : Int) (b d e f : List Int) : Option ((List Int) × (List Int) × (List (List Int)) × (List ((Int × Int))) × (List Int)):=
 (lap_Decoder_Reset_2 K a b d e f).bind fun (g,h)=>
 (
  let i:=(([] : List (List Int)) ++ [(List.replicate 40 (0 : Int))])
  gd (((([] : List (List Int)).length : Int) + 1) * 24 ≤ 70368744177664) <|
  gd (([1].length : Int) * 2 ≤ 70368744177664) <|
  some (i,[1]) : Option ((List (List Int)) × (List Int))).bind fun (j,k)=>
  some (g,h,j,(List.replicate 1 ((0,0) : (Int × Int))),k)
def hide_NewPlayer (K : Nat) (g : List (Option (List Int))) : Option ((Int) ⊕ ((List (List Int)) × (List ((Int × Int))) × (List Int)) ⊕ ((List (Option (List Int))) × Int × Int × (List (List Int)) × (List ((Int × Int))) × (List Int) × Int × (List Int) × (List Int) × (List Int) × (List Int))):=
 (format_Check K ).bind fun a=>
 bif (a != 0) then
  some (.inl a)
 else
  (hide_speak K g).bind fun z=>match z with
  | .inl b=>
   bif (b != 0) then
    some (.inl b)
   else
    (hide_laps_reset K ).bind fun (h,i,j)=>
    some (.inr (.inl (h,i,j)))
  | .inr (k,l,m,d,e,f,n,o)=>
   (hide_laps_reset_2 K d e f n o).bind fun (p,q,s,t,u)=>
   some (.inr (.inr (k,l,m,s,t,u,d,e,f,p,q)))
def slots_Check (_K : Nat)  : Option (Unit):=
 some ()
def sink_New (K : Nat) (b : List (Option (List Int))) : Option ((Int) ⊕ (Unit) ⊕ ((List (List Int)) × (List ((Int × Int))) × (List Int)) ⊕ ((List (Option (List Int))) × Int × Int × (List (List Int)) × (List ((Int × Int))) × (List Int) × Int × (List Int) × (List Int) × (List Int) × (List Int))):=
 (hide_NewPlayer K b).bind fun z=>match z with
 | .inl a=>
  bif (a != 0) then
   some (.inl a)
  else
   (slots_Check K ).bind fun _=>
   some (.inr (.inl ()))
 | .inr (.inl (d,e,f))=>
  (slots_Check K ).bind fun _=>
  some (.inr (.inr (.inl (d,e,f))))
 | .inr (.inr (g,h,i,j,k,l,m,n,o,p,q))=>
  (slots_Check K ).bind fun _=>
  some (.inr (.inr (.inr (g,h,i,j,k,l,m,n,o,p,q))))
def sink_Sink_End (_K : Nat)  : Option ((List ((Int × (Int × (Int × List Int)))))):=
 some ([] : List ((Int × (Int × (Int × List Int)))))
def sink_Sink_Take (_K : Nat)  : Option ((List Int)):=
 some ([] : List Int)
def hide_Player_Gap (_K : Nat)  : Option ((List Int)):=
 some ([] : List Int)
def sink_Sink_play (K : Nat)  : Option ((List Int)):=
 (hide_Player_Gap K ).bind fun a=>
 some a
def sink_Sink_End_2 (K : Nat)  : Option ((List ((Int × (Int × (Int × List Int)))))):=
 (sink_Sink_play K ).bind fun a=>
 let b:=[(1,(0,(0,a)))]
 some b
def check_of (_K : Nat)  : Option (Unit):=
 some ()
def check_kind_sum.r0 (_K : Nat) (a : Int) (_next : Option (Unit))  : Option (Unit):=
 let b:=(decide (0 < a))
 bif b then
  none
 else
  some ()
def check_kind_sum.l0 (K : Nat) (a : Int) (n : Nat) : Option (Unit):=rounds (check_kind_sum.r0 K a) (none) n
def check_kind_sum (K : Nat) (a : Int) : Option (Unit):=
 (check_kind_sum.l0 K a K  : Option (Unit)).bind fun _=>
  some ()
def check_kind_tail.r0 (_K : Nat)  (next : Int → List Int → Option ((List Int))) (a : Int) (b : List Int) : Option ((List Int)):=
 let e:=(decide (a ≥ 0))
 bif e then
  let f:=(kshr .u32 5592405 a)
  let d:=(kwrap .u8 f)
  let g:=(b ++ [d])
  gd ((0 : Int) ≤ a ∧ ((b.length : Int) + ([d].length : Int)) * 1 ≤ 70368744177664) <|
  let h:=(kwrap .i64 (a - 8))
  next h g
 else
  some b
def check_kind_tail.l0 (K : Nat)  (n : Nat) : Int → List Int → Option ((List Int)):=rounds (check_kind_tail.r0 K) (fun _ _=>none) n
def check_kind_tail (K : Nat)  : Option ((List Int)):=
 (check_kind_tail.l0 K K 16 ([] : List Int) : Option ((List Int))).bind fun a=>
  some a
def check_Open (K : Nat)  : Option ((List Int)):=
 (check_of K ).bind fun _=>
 let d:=(kwrap .i64 (Int.tdiv 24 8))
 let a:=(kwrap .i64 (0 - d))
 let b:=(decide (a < 0))
 bif b then
  let e:=(bif b then true else false)
  bif e then
   some ([] : List Int)
  else
   none
 else
  let f:=(kwrap .i64 (8 * a))
  (check_kind_sum K f).bind fun _=>
  (check_kind_tail K ).bind fun _g=>
  none
def pdu_Parse (K : Nat)  : Option (ByteArray):=
 (check_Open K ).bind fun _a=>
 some (⟨#[]⟩ : ByteArray)
def sink_Sink_Take_2 (K : Nat)  : Option ((List Int)):=
 (pdu_Parse K ).bind fun _a=>
 some ([] : List Int)
def fix_within_int64_2 (_K : Nat) (a : Int) : Option (Int):=
 let b:=(decide (a < (-2147483648)))
 bif b then
  some (-2147483648)
 else
  let d:=(decide (a > 2147483647))
  bif d then
   some 2147483647
  else
   some a
def fix_Sat32 (K : Nat) (a : Int) : Option (Int):=
 (fix_within_int64_2 K a).bind fun b=>
 some (kwrap .i32 b)
def hide_faded (K : Nat) (a : Int) : Option (Int):=
 let b:=(kwrap .i64 ((kwrap .i64 a) * 24576))
 (fix_Round K b).bind fun d=>
 (fix_Sat32 K d).bind fun e=>
 some e
def fix_Sub (K : Nat) (a : Int) : Option (Int):=
 let b:=(kwrap .i64 (0 - (kwrap .i64 a)))
 (fix_Sat32 K b).bind fun d=>
 some d
def hide_laps_line (K : Nat) (e : Int) (_m : List (List Int)) (_n : List ((Int × Int))) (a _o : List Int) : Option (Int × (List Int)):=
 (hide_faded K e).bind fun d=>
 gd (0 < (a.length : Int)) <|
 let f:=(Kd.nth (.int .u16) a 0)
 gd (0 < a.length) <|
 let g:=(kwrap .u16 (13849 * f))
 let h:=(kwrap .u16 (g + 16831))
 gd (0 < (a.length : Int)) <|
 let b:=(List.set a 0 h)
 gd (0 < a.length) <|
 let i:=(Kd.nth (.int .u16) b 0)
 let j:=(decide (i ≥ 32768))
 gd (0 < (b.length : Int) ∧ 0 < b.length) <|
 (
  bif j then
   (fix_Sub K d).bind fun k=>
   some k
  else
   some d : Option (Int)).bind fun l=>
  some (l,b)
def hide_laps_line_2 (K : Nat) (a f : Int) (_n : List (List Int)) (_o : Nat) (_p : List ((Int × Int))) (b _q : List Int) : Option (Int × (List Int)):=
 (hide_faded K f).bind fun e=>
 gd ((0 : Int) ≤ a ∧ a < (b.length : Int)) <|
 let g:=(Kd.nth (.int .u16) b (Int.toNat a))
 gd ((Int.toNat a) < b.length) <|
 let h:=(kwrap .u16 (13849 * g))
 let i:=(kwrap .u16 (h + 16831))
 gd ((0 : Int) ≤ a ∧ a < (b.length : Int)) <|
 let d:=(List.set b (Int.toNat a) i)
 gd ((Int.toNat a) < b.length) <|
 let j:=(Kd.nth (.int .u16) d (Int.toNat a))
 let k:=(decide (j ≥ 32768))
 gd ((0 : Int) ≤ a ∧ a < (d.length : Int) ∧ (Int.toNat a) < d.length) <|
 (
  bif k then
   (fix_Sub K e).bind fun l=>
   some l
  else
   some e : Option (Int)).bind fun m=>
  some (m,d)
def hide_laps_turn.r1 (K : Nat) (g _p h : Int) (d : List (List Int)) (e : Nat) (i : List ((Int × Int))) (next : Int → List Int → List Int → Option ((List (List Int)) × (List Int))) (a : Int) (f b : List Int) : Option ((List (List Int)) × (List Int)):=
 let j:=(decide (a < h))
 bif j then
  let k:=(Kd.nth (.int .i32) b (Int.toNat a))
  gd ((0 : Int) ≤ a ∧ a < (b.length : Int) ∧ (Int.toNat a) < b.length) <|
  (hide_laps_line_2 K g k d e i f b).bind fun (l,m)=>
  let n:=(List.set b (Int.toNat a) l)
  gd ((0 : Int) ≤ a ∧ a < (b.length : Int) ∧ (Int.toNat a) < b.length) <|
  let o:=(kwrap .i64 (a + 1))
  next o m n
 else
  some (((List.set d e b),f))
def hide_laps_turn.l1 (K : Nat) (a b d : Int) (e : List (List Int)) (f : Nat) (g : List ((Int × Int))) (n : Nat) : Int → List Int → List Int → Option ((List (List Int)) × (List Int)):=rounds (hide_laps_turn.r1 K a b d e f g) (fun _ _ _=>none) n
def hide_laps_turn.r0 (K : Nat) (d : Int) (g : List ((Int × Int))) (next : Int → List (List Int) → List Int → Option ((List (List Int)) × (List Int))) (a : Int) (b : List (List Int)) (e : List Int) : Option ((List (List Int)) × (List Int)):=
 let h:=(decide (a < d))
 bif h then
  let f:=(List.getD b (Int.toNat a) [])
  gd ((0 : Int) ≤ a ∧ a < (b.length : Int) ∧ (Int.toNat a) < b.length) <|
  let i:=(f.length : Int)
  (hide_laps_turn.l1 K a d i b (Int.toNat a) g K 0 e f : Option ((List (List Int)) × (List Int))).bind fun (j,k)=>
   let l:=(kwrap .i64 (a + 1))
   next l j k
 else
  some (b,e)
def hide_laps_turn.l0 (K : Nat) (a : Int) (b : List ((Int × Int))) (n : Nat) : Int → List (List Int) → List Int → Option ((List (List Int)) × (List Int)):=rounds (hide_laps_turn.r0 K a b) (fun _ _ _=>none) n
def hide_laps_turn (K : Nat) (a : List (List Int)) (b : List ((Int × Int))) (d : List Int) : Option ((List (List Int)) × (List ((Int × Int))) × (List Int)):=
 (hide_laps_turn.l0 K (a.length : Int) (List.replicate b.length ((0,0) : (Int × Int))) K 0 a d : Option ((List (List Int)) × (List Int))).bind fun (e,f)=>
  some (e,(List.replicate b.length ((0,0) : (Int × Int))),f)
def lap_Decoder_Play (_K : Nat) (_a : List (List Int)) (_b : List ((Int × Int))) : Option ((List Int)):=
 some ([] : List Int)
def hide_laps_play (K : Nat) (a : List (List Int)) (b : List ((Int × Int))) (_e : List Int) : Option ((List Int)):=
 (lap_Decoder_Play K a b).bind fun d=>
 some d
def hide_Player_Gap_2 (K : Nat) (e : List (List Int)) (f : List ((Int × Int))) (g : List Int) : Option ((List Int) × (List (List Int)) × (List ((Int × Int))) × (List Int)):=
 (hide_laps_turn K e f g).bind fun (a,b,d)=>
 (hide_laps_play K a b d).bind fun h=>
 some (h,a,b,d)
def sink_Sink_play_2 (K : Nat) (a : List (List Int)) (b : List ((Int × Int))) (d : List Int) : Option ((List Int) × (List (List Int)) × (List ((Int × Int))) × (List Int)):=
 (hide_Player_Gap_2 K a b d).bind fun (e,f,g,h)=>
 some (e,f,g,h)
def sink_Sink_End_3 (K : Nat) (a : List (List Int)) (b : List ((Int × Int))) (d : List Int) : Option ((List ((Int × (Int × (Int × List Int))))) × (List (List Int)) × (List ((Int × Int))) × (List Int)):=
 (sink_Sink_play_2 K a b d).bind fun (e,f,g,h)=>
 let i:=[(1,(0,(0,e)))]
 some (i,f,g,h)
def sink_Sink_Take_3 (K : Nat) (_a : List (List Int)) (_b : List ((Int × Int))) (_d : List Int) : Option ((List Int)):=
 (pdu_Parse K ).bind fun _e=>
 some ([] : List Int)
def hide_laps_line_3 (K : Nat) (e : Int) (_m : List (List Int)) (_n : List ((Int × Int))) (a _o : List Int) (_p : Int) (_q _s _t _u : List Int) : Option (Int × (List Int)):=
 (hide_faded K e).bind fun d=>
 gd (0 < (a.length : Int)) <|
 let f:=(Kd.nth (.int .u16) a 0)
 gd (0 < a.length) <|
 let g:=(kwrap .u16 (13849 * f))
 let h:=(kwrap .u16 (g + 16831))
 gd (0 < (a.length : Int)) <|
 let b:=(List.set a 0 h)
 gd (0 < a.length) <|
 let i:=(Kd.nth (.int .u16) b 0)
 let j:=(decide (i ≥ 32768))
 gd (0 < (b.length : Int) ∧ 0 < b.length) <|
 (
  bif j then
   (fix_Sub K d).bind fun k=>
   some k
  else
   some d : Option (Int)).bind fun l=>
  some (l,b)
def hide_laps_line_4 (K : Nat) (a f : Int) (_n : List (List Int)) (_o : Nat) (_p : List ((Int × Int))) (b _q : List Int) (_s : Int) (_t _u _w _y : List Int) : Option (Int × (List Int)):=
 (hide_faded K f).bind fun e=>
 gd ((0 : Int) ≤ a ∧ a < (b.length : Int)) <|
 let g:=(Kd.nth (.int .u16) b (Int.toNat a))
 gd ((Int.toNat a) < b.length) <|
 let h:=(kwrap .u16 (13849 * g))
 let i:=(kwrap .u16 (h + 16831))
 gd ((0 : Int) ≤ a ∧ a < (b.length : Int)) <|
 let d:=(List.set b (Int.toNat a) i)
 gd ((Int.toNat a) < b.length) <|
 let j:=(Kd.nth (.int .u16) d (Int.toNat a))
 let k:=(decide (j ≥ 32768))
 gd ((0 : Int) ≤ a ∧ a < (d.length : Int) ∧ (Int.toNat a) < d.length) <|
 (
  bif k then
   (fix_Sub K e).bind fun l=>
   some l
  else
   some e : Option (Int)).bind fun m=>
  some (m,d)
def hide_laps_turn_2.r1 (K : Nat) (g _w h : Int) (d : List (List Int)) (e : Nat) (i : List ((Int × Int))) (j : Int) (k l m n : List Int) (next : Int → List Int → List Int → Option ((List (List Int)) × (List Int))) (a : Int) (f b : List Int) : Option ((List (List Int)) × (List Int)):=
 let o:=(decide (a < h))
 bif o then
  let p:=(Kd.nth (.int .i32) b (Int.toNat a))
  gd ((0 : Int) ≤ a ∧ a < (b.length : Int) ∧ (Int.toNat a) < b.length) <|
  (hide_laps_line_4 K g p d e i f b j k l m n).bind fun (q,s)=>
  let t:=(List.set b (Int.toNat a) q)
  gd ((0 : Int) ≤ a ∧ a < (b.length : Int) ∧ (Int.toNat a) < b.length) <|
  let u:=(kwrap .i64 (a + 1))
  next u s t
 else
  some (((List.set d e b),f))
def hide_laps_turn_2.l1 (K : Nat) (a b d : Int) (e : List (List Int)) (f : Nat) (g : List ((Int × Int))) (h : Int) (i j k l : List Int) (n : Nat) : Int → List Int → List Int → Option ((List (List Int)) × (List Int)):=rounds (hide_laps_turn_2.r1 K a b d e f g h i j k l) (fun _ _ _=>none) n
def hide_laps_turn_2.r0 (K : Nat) (d : Int) (g : List ((Int × Int))) (h : Int) (i j k l : List Int) (next : Int → List (List Int) → List Int → Option ((List (List Int)) × (List Int))) (a : Int) (b : List (List Int)) (e : List Int) : Option ((List (List Int)) × (List Int)):=
 let m:=(decide (a < d))
 bif m then
  let f:=(List.getD b (Int.toNat a) [])
  gd ((0 : Int) ≤ a ∧ a < (b.length : Int) ∧ (Int.toNat a) < b.length) <|
  let n:=(f.length : Int)
  (hide_laps_turn_2.l1 K a d n b (Int.toNat a) g h i j k l K 0 e f : Option ((List (List Int)) × (List Int))).bind fun (o,p)=>
   let q:=(kwrap .i64 (a + 1))
   next q o p
 else
  some (b,e)
def hide_laps_turn_2.l0 (K : Nat) (a : Int) (b : List ((Int × Int))) (d : Int) (e f g h : List Int) (n : Nat) : Int → List (List Int) → List Int → Option ((List (List Int)) × (List Int)):=rounds (hide_laps_turn_2.r0 K a b d e f g h) (fun _ _ _=>none) n
def hide_laps_turn_2 (K : Nat) (a : List (List Int)) (b : List ((Int × Int))) (d : List Int) (e : Int) (f g h i : List Int) : Option ((List (List Int)) × (List ((Int × Int))) × (List Int)):=
 (hide_laps_turn_2.l0 K (a.length : Int) (List.replicate b.length ((0,0) : (Int × Int))) e f g h i K 0 a d : Option ((List (List Int)) × (List Int))).bind fun (j,k)=>
  some (j,(List.replicate b.length ((0,0) : (Int × Int))),k)
def pitch_Check (_K : Nat) (a b : Int) : Option (Int):=
 let d:=((a == 0) && (b == 0))
 let e:=(decide (b < 1))
 let f:=(decide (b > 3))
 let g:=(bif e then true else f)
 let h:=(decide (a < 16))
 let i:=(bif g then true else h)
 let j:=(decide (a > 79))
 let k:=(bif i then true else j)
 let l:=(bif (!d) then k else false)
 bif l then
  some 1
 else
  some 0
def lapped_tables_wave (_K : Nat) (b : Int) (_j d _k : List Int) : Option (Int):=
 let f:=(kwrap .i64 (1 + b))
 let g:=(kwrap .i64 (f * 1))
 let e:=(kwrap .i64 (8 * b))
 let a:=(Int.tmod g e)
 gd (e ≠ 0) <|
 let h:=(Kd.nth (.int .i16) d (Int.toNat a))
 gd ((0 : Int) ≤ a ∧ a < (d.length : Int)) <|
 let i:=(kwrap .i64 h)
 some i
def lapped_tables_wave_2 (_K : Nat) (f b : Int) (_m d _n : List Int) : Option (Int):=
 let g:=(kwrap .i64 (1 + b))
 let h:=(kwrap .i64 (2 * f))
 let i:=(kwrap .i64 (h + 1))
 let j:=(kwrap .i64 (g * i))
 let e:=(kwrap .i64 (8 * b))
 let a:=(Int.tmod j e)
 gd (e ≠ 0) <|
 let k:=(Kd.nth (.int .i16) d (Int.toNat a))
 gd ((0 : Int) ≤ a ∧ a < (d.length : Int)) <|
 let l:=(kwrap .i64 k)
 some l
def lapped_down (_K : Nat) (b a : Int) : Option (Int):=
 let d:=(kwrap .i64 (Int.tdiv b a))
 gd (a ≠ 0) <|
 let e:=(Int.tmod b a)
 let f:=(decide (e < 0))
 gd (a ≠ 0) <|
 (
  bif f then
   let g:=(kwrap .i64 (d - 1))
   some g
  else
   some d : Option (Int)).bind fun h=>
  some h
def lapped_tables_windowed (K : Nat) (b _h : Int) (a _i _j : List Int) : Option (Int):=
 let d:=(Kd.nth (.int .i16) a 0)
 let e:=(kwrap .i64 d)
 let f:=(kwrap .i64 (b * e))
 gd (0 < (a.length : Int)) <|
 (fix_Round K f).bind fun g=>
 some g
def lapped_Unlapper_sample.r0 (K : Nat) (b : List Int) (e f : Int) (g h i : List Int) (next : Int → Int → Option (Int)) (d a : Int) : Option (Int):=
 let j:=(decide (a < e))
 bif j then
  let k:=(Kd.nth (.int .i32) b (Int.toNat a))
  gd ((0 : Int) ≤ a ∧ a < (b.length : Int)) <|
  let l:=(kwrap .i64 k)
  (lapped_tables_wave_2 K a f g h i).bind fun m=>
  let n:=(kwrap .i64 (l * m))
  let o:=(kwrap .i64 (d + n))
  let p:=(kwrap .i64 (a + 1))
  next o p
 else
  some d
def lapped_Unlapper_sample.l0 (K : Nat) (a : List Int) (b d : Int) (e f g : List Int) (n : Nat) : Int → Int → Option (Int):=rounds (lapped_Unlapper_sample.r0 K a b d e f g) (fun _ _=>none) n
def lapped_Unlapper_sample (K : Nat) (b : List Int) (a : Int) (d e f : List Int) : Option (Int):=
 (lapped_Unlapper_sample.l0 K b (b.length : Int) a d e f K 0 0 : Option (Int)).bind fun g=>
  (fix_Round K g).bind fun h=>
  let i:=(kwrap .i64 (2 * h))
  let j:=(kwrap .i64 (Int.tdiv a 2))
  let k:=(kwrap .i64 (i + j))
  (lapped_down K k a).bind fun l=>
  (fix_Sat32 K l).bind fun m=>
  (lapped_tables_windowed K (kwrap .i64 m) a d e f).bind fun n=>
  (fix_Sat32 K n).bind fun o=>
  some o
def fix_Add (K : Nat) (a b : Int) : Option (Int):=
 let d:=(kwrap .i64 ((kwrap .i64 a) + (kwrap .i64 b)))
 (fix_Sat32 K d).bind fun e=>
 some e
def lapped_tables_wave_3 (_K : Nat) (f b : Int) (_m d _n : List Int) : Option (Int):=
 let g:=(kwrap .i64 (2 * f))
 let h:=(kwrap .i64 (g + 1))
 let i:=(kwrap .i64 (h + b))
 let j:=(kwrap .i64 (i * 1))
 let e:=(kwrap .i64 (8 * b))
 let a:=(Int.tmod j e)
 gd (e ≠ 0) <|
 let k:=(Kd.nth (.int .i16) d (Int.toNat a))
 gd ((0 : Int) ≤ a ∧ a < (d.length : Int)) <|
 let l:=(kwrap .i64 k)
 some l
def lapped_tables_wave_4 (_K : Nat) (f g b : Int) (_p d _q : List Int) : Option (Int):=
 let h:=(kwrap .i64 (2 * f))
 let i:=(kwrap .i64 (h + 1))
 let j:=(kwrap .i64 (i + b))
 let k:=(kwrap .i64 (2 * g))
 let l:=(kwrap .i64 (k + 1))
 let m:=(kwrap .i64 (j * l))
 let e:=(kwrap .i64 (8 * b))
 let a:=(Int.tmod m e)
 gd (e ≠ 0) <|
 let n:=(Kd.nth (.int .i16) d (Int.toNat a))
 gd ((0 : Int) ≤ a ∧ a < (d.length : Int)) <|
 let o:=(kwrap .i64 n)
 some o
def lapped_tables_windowed_2 (K : Nat) (d a _i : Int) (b _j _k : List Int) : Option (Int):=
 let e:=(Kd.nth (.int .i16) b (Int.toNat a))
 let f:=(kwrap .i64 e)
 let g:=(kwrap .i64 (d * f))
 gd ((0 : Int) ≤ a ∧ a < (b.length : Int)) <|
 (fix_Round K g).bind fun h=>
 some h
def lapped_Unlapper_sample_2.r0 (K : Nat) (e : Int) (b : List Int) (f g : Int) (h i j : List Int) (next : Int → Int → Option (Int)) (d a : Int) : Option (Int):=
 let k:=(decide (a < f))
 bif k then
  let l:=(Kd.nth (.int .i32) b (Int.toNat a))
  gd ((0 : Int) ≤ a ∧ a < (b.length : Int)) <|
  let m:=(kwrap .i64 l)
  (lapped_tables_wave_4 K e a g h i j).bind fun n=>
  let o:=(kwrap .i64 (m * n))
  let p:=(kwrap .i64 (d + o))
  let q:=(kwrap .i64 (a + 1))
  next p q
 else
  some d
def lapped_Unlapper_sample_2.l0 (K : Nat) (a : Int) (b : List Int) (d e : Int) (f g h : List Int) (n : Nat) : Int → Int → Option (Int):=rounds (lapped_Unlapper_sample_2.r0 K a b d e f g h) (fun _ _=>none) n
def lapped_Unlapper_sample_2 (K : Nat) (b : List Int) (d a : Int) (e f g : List Int) : Option (Int):=
 (lapped_Unlapper_sample_2.l0 K d b (b.length : Int) a e f g K 0 0 : Option (Int)).bind fun h=>
  (fix_Round K h).bind fun i=>
  let j:=(kwrap .i64 (2 * i))
  let k:=(kwrap .i64 (Int.tdiv a 2))
  let l:=(kwrap .i64 (j + k))
  (lapped_down K l a).bind fun m=>
  (fix_Sat32 K m).bind fun n=>
  (lapped_tables_windowed_2 K (kwrap .i64 n) d a e f g).bind fun o=>
  (fix_Sat32 K o).bind fun p=>
  some p
def lapped_Unlapper_Feed.r0 (K : Nat) (e : List Int) (f d : Int) (g h _n : List Int) (next : Int → List Int → Option ((List Int))) (a : Int) (b : List Int) : Option ((List Int)):=
 let i:=(decide (a < f))
 bif i then
  let j:=(kwrap .i64 (d + a))
  (lapped_Unlapper_sample_2 K e j d g h b).bind fun k=>
  gd ((0 : Int) ≤ a ∧ a < (b.length : Int)) <|
  let l:=(List.set b (Int.toNat a) k)
  gd ((Int.toNat a) < b.length) <|
  let m:=(kwrap .i64 (a + 1))
  next m l
 else
  some b
def lapped_Unlapper_Feed.l0 (K : Nat) (a : List Int) (b d : Int) (e f g : List Int) (n : Nat) : Int → List Int → Option ((List Int)):=rounds (lapped_Unlapper_Feed.r0 K a b d e f g) (fun _ _=>none) n
def lapped_Unlapper_Feed.r1 (K : Nat) (e : List Int) (f g : Int) (h i b : List Int) (next : Int → List Int → Option ((List Int))) (a : Int) (d : List Int) : Option ((List Int)):=
 let j:=(decide (a < f))
 bif j then
  gd ((0 : Int) ≤ a ∧ a < (b.length : Int)) <|
  let k:=(Kd.nth (.int .i32) b (Int.toNat a))
  gd ((Int.toNat a) < b.length) <|
  (lapped_Unlapper_sample_2 K e a g h i b).bind fun l=>
  (fix_Add K k l).bind fun m=>
  gd ((0 : Int) ≤ a ∧ a < (d.length : Int)) <|
  let n:=(List.set d (Int.toNat a) m)
  gd ((Int.toNat a) < d.length) <|
  let o:=(kwrap .i64 (a + 1))
  next o n
 else
  some d
def lapped_Unlapper_Feed.l1 (K : Nat) (a : List Int) (b d : Int) (e f g : List Int) (n : Nat) : Int → List Int → Option ((List Int)):=rounds (lapped_Unlapper_Feed.r1 K a b d e f g) (fun _ _=>none) n
def lapped_Unlapper_Feed (K : Nat) (d : List Int) (a : Int) (e f b : List Int) : Option ((List Int) × Int × (List Int)):=
 let i:=((d.length : Int) != a)
 bif i then
  some (([] : List Int),1,b)
 else
  let g:=(List.replicate (Int.toNat a) (0 : Int))
  gd ((0 : Int) ≤ a ∧ a ≤ a ∧ a * 4 ≤ 140737488355328) <|
  let j:=(g.length : Int)
  (lapped_Unlapper_Feed.l1 K d j a e f b K 0 g : Option ((List Int))).bind fun h=>
   (lapped_Unlapper_Feed.l0 K d (b.length : Int) a e f h K 0 b : Option ((List Int))).bind fun k=>
    some (h,0,k)
def slices_Grow_int64_int64 (_K : Nat) (a : Int) : Option (Unit):=
 gd (0 ≤ a ∧ a * 8 ≤ 140737488355328) <| some ()
def slices_Concat_int64_int64 (K : Nat) (a b : List Int) : Option ((List Int)):=
 (
  let d:=(kwrap .i64 (79 + (a.length : Int)))
  let f:=(decide (d < 0))
  bif f then
   none
  else
   some d : Option (Int)).bind fun g=>
  (slices_Grow_int64_int64 K g).bind fun _=>
  (
   let e:=(([] : List Int) ++ b)
   gd (((([] : List Int).length : Int) + (b.length : Int)) * 8 ≤ 70368744177664) <|
   gd (((e.length : Int) + (a.length : Int)) * 8 ≤ 70368744177664) <|
   some (e ++ a) : Option ((List Int))).bind fun h=>
   some h
def pitch_past_with (K : Nat) (a b : List Int) : Option ((List Int)):=
 (slices_Concat_int64_int64 K a b).bind fun d=>
 some d
def fix_within_int64_3 (_K : Nat) (a : Int) : Option (Int):=
 let b:=(decide (a < (-32768)))
 bif b then
  some (-32768)
 else
  let d:=(decide (a > 32767))
  bif d then
   some 32767
  else
   some a
def fix_Sat16 (K : Nat) (a : Int) : Option (Int):=
 (fix_within_int64_3 K a).bind fun b=>
 some (kwrap .i16 b)
def pitch_past_keep (_K : Nat) (a d : List Int) : Option ((List Int)):=
 let b:=(kwrap .i64 ((a.length : Int) - 79))
 let e:=((a.take (Int.toNat (a.length : Int))).drop (Int.toNat b))
 gd ((0 : Int) ≤ b ∧ b ≤ (a.length : Int) ∧ (a.length : Int) ≤ (a.length : Int)) <|
 some (cpy 0 d e)
def pitch_Comb_Feed.r0 (K : Nat) (e : List Int) (f : Int) (g : List Int) (h : Int) (_y : List Int) (i _z : Int) (next : Int → List Int → Option ((List Int))) (a : Int) (b : List Int) : Option ((List Int)):=
 let j:=(decide (a < h))
 bif j then
  let k:=(Kd.nth (.int .i64) g (Int.toNat a))
  gd ((0 : Int) ≤ a ∧ a < (g.length : Int)) <|
  let l:=(kwrap .i64 (32768 - f))
  let m:=(kwrap .i64 (k * l))
  let n:=(kwrap .i64 (79 + a))
  let d:=(kwrap .i64 (n - i))
  let o:=(Kd.nth (.int .i64) e (Int.toNat d))
  let p:=(kwrap .i64 (o * f))
  let q:=(kwrap .i64 (m + p))
  gd ((0 : Int) ≤ d ∧ d < (e.length : Int)) <|
  (fix_Round K q).bind fun s=>
  (fix_Sat16 K s).bind fun t=>
  let u:=(List.set b (Int.toNat a) t)
  gd ((0 : Int) ≤ a ∧ a < (b.length : Int) ∧ (Int.toNat a) < b.length) <|
  let w:=(kwrap .i64 (a + 1))
  next w u
 else
  some b
def pitch_Comb_Feed.l0 (K : Nat) (a : List Int) (b : Int) (d : List Int) (e : Int) (f : List Int) (g h : Int) (n : Nat) : Int → List Int → Option ((List Int)):=rounds (pitch_Comb_Feed.r0 K a b d e f g h) (fun _ _=>none) n
def pitch_Comb_Feed.r1 (_K : Nat) (d : List Int) (e : Int) (_k : List Int) (_l _m : Int) (next : Int → List Int → Option ((List Int))) (a : Int) (b : List Int) : Option ((List Int)):=
 let f:=(decide (a < e))
 bif f then
  let g:=(Kd.nth (.int .i32) d (Int.toNat a))
  gd ((0 : Int) ≤ a ∧ a < (d.length : Int)) <|
  let h:=(kwrap .i64 g)
  let i:=(List.set b (Int.toNat a) h)
  gd ((0 : Int) ≤ a ∧ a < (b.length : Int) ∧ (Int.toNat a) < b.length) <|
  let j:=(kwrap .i64 (a + 1))
  next j i
 else
  some b
def pitch_Comb_Feed.l1 (K : Nat) (a : List Int) (b : Int) (d : List Int) (e f : Int) (n : Nat) : Int → List Int → Option ((List Int)):=rounds (pitch_Comb_Feed.r1 K a b d e f) (fun _ _=>none) n
def pitch_Comb_Feed (K : Nat) (a : List Int) (e d : Int) (b : List Int) : Option ((List Int) × Int × (List Int)):=
 let i:=(decide ((a.length : Int) > 120))
 bif i then
  some (([] : List Int),2,b)
 else
  (pitch_Check K e d).bind fun j=>
  bif (j != 0) then
   some (([] : List Int),1,b)
  else
   let g:=(List.replicate (Int.toNat (a.length : Int)) (0 : Int))
   gd ((0 : Int) ≤ (a.length : Int) ∧ (a.length : Int) ≤ (a.length : Int) ∧ (a.length : Int) * 8 ≤ 140737488355328) <|
   (pitch_Comb_Feed.l1 K a (a.length : Int) b e d K 0 g : Option ((List Int))).bind fun f=>
    (pitch_past_with K f b).bind fun h=>
    let k:=(kwrap .i64 (d * 4096))
    gd ((0 : Int) ≤ (a.length : Int) ∧ (a.length : Int) ≤ (a.length : Int) ∧ (a.length : Int) * 2 ≤ 140737488355328) <|
    (pitch_Comb_Feed.l0 K h k f (f.length : Int) b e d K 0 g : Option ((List Int))).bind fun l=>
     (pitch_past_keep K h b).bind fun m=>
     some (l,0,m)
def pcm_Weave.r1 (_K : Nat) (e : List (List Int)) (b _l h : Int) (next : Int → List Int → Option ((List Int))) (a : Int) (d : List Int) : Option ((List Int)):=
 let i:=(decide (a < h))
 bif i then
  let f:=(Kd.nth (.slice (.int .i16)) e (Int.toNat a))
  gd ((0 : Int) ≤ a ∧ a < (e.length : Int)) <|
  let g:=(Kd.nth (.int .i16) f (Int.toNat b))
  let j:=(d ++ [g])
  gd ((0 : Int) ≤ b ∧ b < (f.length : Int) ∧ ((d.length : Int) + ([g].length : Int)) * 2 ≤ 70368744177664) <|
  let k:=(kwrap .i64 (a + 1))
  next k j
 else
  some d
def pcm_Weave.l1 (K : Nat) (a : List (List Int)) (b d e : Int) (n : Nat) : Int → List Int → Option ((List Int)):=rounds (pcm_Weave.r1 K a b d e) (fun _ _=>none) n
def pcm_Weave.r0 (K : Nat) (b : List (List Int)) (d : Int) (next : Int → List Int → Option ((List Int))) (a : Int) (e : List Int) : Option ((List Int)):=
 let f:=(decide (a < d))
 bif f then
  (pcm_Weave.l1 K b a d (b.length : Int) K 0 e : Option ((List Int))).bind fun g=>
   let h:=(kwrap .i64 (a + 1))
   next h g
 else
  some e
def pcm_Weave.l0 (K : Nat) (a : List (List Int)) (b : Int) (n : Nat) : Int → List Int → Option ((List Int)):=rounds (pcm_Weave.r0 K a b) (fun _ _=>none) n
def pcm_Weave (K : Nat) (a : List (List Int)) : Option ((List Int) × Int):=
 let f:=(decide ((a.length : Int) < 1))
 let g:=(decide ((a.length : Int) > 2))
 let b:=(bif f then true else g)
 let h:=(Kd.nth (.slice (.int .i16)) a 0)
 gd (((!b) = true → 0 < (a.length : Int))) <|
 let e:=(h.length : Int)
 let d:=(kwrap .i64 ((a.length : Int) - 1))
 let i:=(Kd.nth (.slice (.int .i16)) a (Int.toNat d))
 gd (((!b) = true → (0 : Int) ≤ d) ∧ ((!b) = true → d < (a.length : Int))) <|
 let j:=(i.length : Int)
 let k:=(bif b then true else (e != j))
 bif k then
  some (([] : List Int),1)
 else
  gd (0 < (a.length : Int)) <|
  (pcm_Weave.l0 K a e K 0 ([] : List Int) : Option ((List Int))).bind fun l=>
   some (l,0)
def lap_Decoder_Play_2.r0 (K : Nat) (e : List (List Int)) (h : Int) (b : List ((Int × Int))) (i : Int) (j k : List Int) (next : Int → List Int → List Int → List (List Int) → Option ((List Int) × (List Int) × (List (List Int)))) (a : Int) (f g : List Int) (d : List (List Int)) : Option ((List Int) × (List Int) × (List (List Int))):=
 let l:=(decide (a < h))
 bif l then
  let m:=(Kd.nth (.slice (.int .i32)) e (Int.toNat a))
  gd ((0 : Int) ≤ a ∧ a < (e.length : Int)) <|
  bif a == 0 then
   (lapped_Unlapper_Feed K m i j k g).bind fun (n,_w,o)=>
   gd (0 < (b.length : Int)) <|
   let p:=(Kd.nth (.pair (.int .i64) (.int .i64)) b 0).1
   let q:=(Kd.nth (.pair (.int .i64) (.int .i64)) b 0).2
   gd (0 < b.length) <|
   (pitch_Comb_Feed K n p q f).bind fun (s,_y,t)=>
   gd (0 < (d.length : Int)) <|
   let u:=(List.set d 0 s)
   gd (0 < d.length) <|
   next 1 t o u
  else
   none
 else
  some (f,g,d)
def lap_Decoder_Play_2.l0 (K : Nat) (a : List (List Int)) (b : Int) (d : List ((Int × Int))) (e : Int) (f g : List Int) (n : Nat) : Int → List Int → List Int → List (List Int) → Option ((List Int) × (List Int) × (List (List Int))):=rounds (lap_Decoder_Play_2.r0 K a b d e f g) (fun _ _ _ _=>none) n
def lap_Decoder_Play_2.r1 (K : Nat) (d : List (List Int)) (e : Int) (b : List ((Int × Int))) (_p : Int) (_q _s f g : List Int) (next : Int → Option ((Unit) ⊕ ((List Int) × Int × (List Int) × (List Int)))) (a : Int) : Option ((Unit) ⊕ ((List Int) × Int × (List Int) × (List Int))):=
 let h:=(decide (a < e))
 bif h then
  let i:=(Kd.nth (.slice (.int .i32)) d (Int.toNat a))
  gd ((0 : Int) ≤ a ∧ a < (d.length : Int)) <|
  (
   let j:=(i.length : Int)
   bif (j != 40) then
    some true
   else
    gd ((0 : Int) ≤ a ∧ a < (b.length : Int)) <|
    let k:=(Kd.nth (.pair (.int .i64) (.int .i64)) b (Int.toNat a)).1
    let l:=(Kd.nth (.pair (.int .i64) (.int .i64)) b (Int.toNat a)).2
    gd ((Int.toNat a) < b.length) <|
    (pitch_Check K k l).bind fun m=>
    some (m != 0) : Option (Bool)).bind fun n=>
   bif n then
    some (.inr (([] : List Int),1,f,g))
   else
    let o:=(kwrap .i64 (a + 1))
    next o
 else
  some (.inl ())
def lap_Decoder_Play_2.l1 (K : Nat) (a : List (List Int)) (b : Int) (d : List ((Int × Int))) (e : Int) (f g h i : List Int) (n : Nat) : Int → Option ((Unit) ⊕ ((List Int) × Int × (List Int) × (List Int))):=rounds (lap_Decoder_Play_2.r1 K a b d e f g h i) (fun _=>none) n
def lap_Decoder_Play_2 (K : Nat) (a : List (List Int)) (b : List ((Int × Int))) (f : Int) (g h d e : List Int) : Option ((List Int) × Int × (List Int) × (List Int)):=
 let i:=((a.length : Int) != 1)
 let j:=((b.length : Int) != 1)
 let k:=(bif i then true else j)
 bif k then
  some (([] : List Int),1,d,e)
 else
  (lap_Decoder_Play_2.l1 K a (a.length : Int) b f g h d e K 0 : Option ((Unit) ⊕ ((List Int) × Int × (List Int) × (List Int)))).bind fun z=>match z with
  | .inl _=>
   let l:=(List.replicate (Int.toNat (a.length : Int)) ([] : List Int))
   gd ((0 : Int) ≤ (a.length : Int) ∧ (a.length : Int) ≤ (a.length : Int) ∧ (a.length : Int) * 24 ≤ 140737488355328) <|
   (lap_Decoder_Play_2.l0 K a (a.length : Int) b f g h K 0 d e l : Option ((List Int) × (List Int) × (List (List Int)))).bind fun (m,n,o)=>
    (pcm_Weave K o).bind fun (p,q)=>
    some (p,q,m,n)
  | .inr r=>
   some r
def hide_laps_play_2 (K : Nat) (a : List (List Int)) (b : List ((Int × Int))) (_l : List Int) (d : Int) (e f g h : List Int) : Option ((List Int) × (List Int) × (List Int)):=
 (lap_Decoder_Play_2 K a b d e f g h).bind fun (i,_m,j,k)=>
 some (i,j,k)
def hide_Player_Gap_3 (K : Nat) (j : List (List Int)) (k : List ((Int × Int))) (l : List Int) (a : Int) (b d e f : List Int) : Option ((List Int) × (List (List Int)) × (List ((Int × Int))) × (List Int) × (List Int) × (List Int)):=
 (hide_laps_turn_2 K j k l a b d e f).bind fun (g,h,i)=>
 (hide_laps_play_2 K g h i a b d e f).bind fun (m,n,o)=>
 some (m,g,h,i,n,o)
def sink_Sink_play_3 (K : Nat) (a : List (List Int)) (b : List ((Int × Int))) (d : List Int) (e : Int) (f g h i : List Int) : Option ((List Int) × (List (List Int)) × (List ((Int × Int))) × (List Int) × (List Int) × (List Int)):=
 (hide_Player_Gap_3 K a b d e f g h i).bind fun (j,k,l,m,n,o)=>
 some (j,k,l,m,n,o)
def sink_Sink_End_4 (K : Nat) (a : List (List Int)) (b : List ((Int × Int))) (d : List Int) (e : Int) (f g h i : List Int) : Option ((List ((Int × (Int × (Int × List Int))))) × (List (List Int)) × (List ((Int × Int))) × (List Int) × (List Int) × (List Int)):=
 (sink_Sink_play_3 K a b d e f g h i).bind fun (j,k,l,m,n,o)=>
 let p:=[(1,(0,(0,j)))]
 some (p,k,l,m,n,o)
def sink_Sink_Take_4 (K : Nat) (_a : List (List Int)) (_b : List ((Int × Int))) (_d : List Int) (_e : Int) (_f _g _h _i : List Int) : Option ((List Int)):=
 (pdu_Parse K ).bind fun _j=>
 some ([] : List Int)
def psalterylaw29_alive (K : Nat)  : Option (Bool):=
 (bank_New K ).bind fun _=>
 (psalterylaw29_plain K ).bind fun _=>
 (sink_New K (List.replicate 388 none)).bind fun z=>match z with
 | .inl D=>
  let E:=(bif (D != 0) then true else true)
  bif E then
   some false
  else
   (sink_Sink_End K ).bind fun a=>
   (sink_Sink_Take K ).bind fun _au=>
   let j:=((a.length : Int) == 1)
   let f:=(Kd.nth (.pair (.int .i64) (.pair (.int .i64) (.pair (.int .i64) (.slice (.int .i16))))) a 0)
   let F:=(f.2.1 == 0)
   let k:=(bif j then F else false)
   let G:=(f.2.2.1 == 0)
   let l:=(bif k then G else false)
   let H:=(f.2.2.2.length : Int)
   let I:=(bif l then (H == 40) else false)
   let J:=(bif I then false else false)
   gd ((j = true → 0 < (a.length : Int)) ∧ (k = true → 0 < (a.length : Int)) ∧ (l = true → 0 < (a.length : Int))) <|
   some J
 | .inr (.inl _)=>
  (sink_Sink_End_2 K ).bind fun b=>
  (sink_Sink_Take_2 K ).bind fun _aw=>
  let m:=((b.length : Int) == 1)
  let g:=(Kd.nth (.pair (.int .i64) (.pair (.int .i64) (.pair (.int .i64) (.slice (.int .i16))))) b 0)
  let L:=(g.2.1 == 0)
  let n:=(bif m then L else false)
  let M:=(g.2.2.1 == 0)
  let o:=(bif n then M else false)
  let N:=(g.2.2.2.length : Int)
  let O:=(bif o then (N == 40) else false)
  let P:=(bif O then true else false)
  gd ((m = true → 0 < (b.length : Int)) ∧ (n = true → 0 < (b.length : Int)) ∧ (o = true → 0 < (b.length : Int))) <|
  some P
 | .inr (.inr (.inl (Q,R,S)))=>
  (sink_Sink_End_3 K Q R S).bind fun (d,T,U,V)=>
  (sink_Sink_Take_3 K T U V).bind fun _ay=>
  let p:=((d.length : Int) == 1)
  let h:=(Kd.nth (.pair (.int .i64) (.pair (.int .i64) (.pair (.int .i64) (.slice (.int .i16))))) d 0)
  let W:=(h.2.1 == 0)
  let q:=(bif p then W else false)
  let X:=(h.2.2.1 == 0)
  let s:=(bif q then X else false)
  let Y:=(h.2.2.2.length : Int)
  let Z:=(bif s then (Y == 40) else false)
  let aa:=(bif Z then true else false)
  gd ((p = true → 0 < (d.length : Int)) ∧ (q = true → 0 < (d.length : Int)) ∧ (s = true → 0 < (d.length : Int))) <|
  some aa
 | .inr (.inr (.inr (_az,_aA,_aB,ab,ad,ae,t,u,w,af,ag)))=>
  (sink_Sink_End_4 K ab ad ae t u w af ag).bind fun (e,ah,ai,aj,ak,al)=>
  (sink_Sink_Take_4 K ah ai aj t u w ak al).bind fun _aD=>
  let y:=((e.length : Int) == 1)
  let i:=(Kd.nth (.pair (.int .i64) (.pair (.int .i64) (.pair (.int .i64) (.slice (.int .i16))))) e 0)
  let am:=(i.2.1 == 0)
  let A:=(bif y then am else false)
  let an:=(i.2.2.1 == 0)
  let B:=(bif A then an else false)
  let ao:=(i.2.2.2.length : Int)
  let ap:=(bif B then (ao == 40) else false)
  let aq:=(bif ap then true else false)
  gd ((y = true → 0 < (e.length : Int)) ∧ (A = true → 0 < (e.length : Int)) ∧ (B = true → 0 < (e.length : Int))) <|
  some aq
def sink_Sink_Take_5 (_K : Nat) (_a : List Int) : Option ((List Int)):=
 some ([] : List Int)
def bank_Bank_may_3 (_K : Nat) (_a : Bool) : Option (Unit):=
 some ()
def bank_Bank_Slope_2 (K : Nat) (a : Int) : Option ((List Int)):=
 let b:=(decide (a ≥ 1))
 let d:=(decide (a ≤ 128))
 let e:=(bif b then d else false)
 (bank_Bank_may_3 K e).bind fun _=>
 some ([] : List Int)
def lapped_Window_2 (K : Nat)  : Option ((List Int) × Int):=
 (lapped_lengths K ).bind fun _=>
 let a:=[(40,(60,(80,120))).1,(40,(60,(80,120))).2.1,(40,(60,(80,120))).2.2.1,(40,(60,(80,120))).2.2.2]
 (slices_Contains_int_int K a).bind fun b=>
 bif (!b) then
  some (([] : List Int),1)
 else
  let d:=(kwrap .i64 (Int.tdiv 40 2))
  (bank_Bank_Slope_2 K d).bind fun _e=>
  some (([] : List Int),3)
def bank_Bank_Turn_2 (K : Nat)  : Option ((List Int)):=
 let a:=(Int.tmod 320 4)
 (bank_Bank_may_3 K (a == 0)).bind fun _=>
 some ([] : List Int)
def lapped_of_2 (K : Nat)  : Option (Int × (List Int) × (List Int) × Int):=
 (lapped_Window_2 K ).bind fun (b,a)=>
 bif (a != 0) then
  some (0,([] : List Int),([] : List Int),a)
 else
  (bank_Bank_Turn_2 K ).bind fun d=>
  some (40,b,d,3)
def lapped_NewUnlapper_2 (K : Nat)  : Option ((Int) ⊕ (Int × (List Int) × (List Int) × (List Int))):=
 (lapped_of_2 K ).bind fun (b,d,e,a)=>
 bif (a != 0) then
  some (.inl a)
 else
  some (.inr (b,d,e,(List.replicate 40 (0 : Int))))
def lap_NewDecoder_2 (K : Nat)  : Option ((Int) ⊕ ((List Int))):=
 (lap_may K ).bind fun a=>
 bif (a != 0) then
  some (.inl a)
 else
  (
   (lapped_NewUnlapper_2 K ).bind fun z=>match z with
   | .inl b=>
    bif (b != 0) then
     some (.inr (.inl b))
    else
     (pitch_NewComb K ).bind fun d=>
     some (.inl d)
   | .inr (_f,_g,_h,_i)=>
    none : Option (((List Int)) ⊕ ((Int) ⊕ ((List Int))))).bind fun z=>match z with
  | .inl e=>
   some (.inr e)
  | .inr r=>
   some r
def hide_speak_2 (K : Nat)  : Option ((Int) ⊕ ((List Int))):=
 (lap_NewDecoder_2 K ).bind fun z=>match z with
 | .inl a=>
  some (.inl a)
 | .inr b=>
  some (.inr b)
def lapped_Unlapper_Reset_2 (_K : Nat)  : Option (Unit):=
 some ()
def lap_Decoder_Reset_3 (K : Nat) (a : List Int) : Option ((List Int)):=
 (
  (lapped_Unlapper_Reset_2 K ).bind fun _=>
  (pitch_Comb_Reset K a).bind fun b=>
  some b : Option ((List Int))).bind fun d=>
  some d
def hide_laps_reset_3 (K : Nat) (a : List Int) : Option ((List Int) × (List (List Int)) × (List ((Int × Int))) × (List Int)):=
 (lap_Decoder_Reset_3 K a).bind fun b=>
 (
  let d:=(([] : List (List Int)) ++ [(List.replicate 40 (0 : Int))])
  gd (((([] : List (List Int)).length : Int) + 1) * 24 ≤ 70368744177664) <|
  gd (([1].length : Int) * 2 ≤ 70368744177664) <|
  some (d,[1]) : Option ((List (List Int)) × (List Int))).bind fun (e,f)=>
  some (b,e,(List.replicate 1 ((0,0) : (Int × Int))),f)
def hide_NewPlayer_2 (K : Nat)  : Option ((Int) ⊕ ((List (List Int)) × (List ((Int × Int))) × (List Int)) ⊕ ((List (List Int)) × (List ((Int × Int))) × (List Int) × (List Int))):=
 (format_Check K ).bind fun a=>
 bif (a != 0) then
  some (.inl a)
 else
  (hide_speak_2 K ).bind fun z=>match z with
  | .inl b=>
   bif (b != 0) then
    some (.inl b)
   else
    (hide_laps_reset K ).bind fun (d,e,f)=>
    some (.inr (.inl (d,e,f)))
  | .inr g=>
   (hide_laps_reset_3 K g).bind fun (h,i,j,k)=>
   some (.inr (.inr (i,j,k,h)))
def sink_New_2 (K : Nat)  : Option ((Int) ⊕ (Unit) ⊕ ((List (List Int)) × (List ((Int × Int))) × (List Int)) ⊕ ((List (List Int)) × (List ((Int × Int))) × (List Int) × (List Int))):=
 (hide_NewPlayer_2 K ).bind fun z=>match z with
 | .inl a=>
  bif (a != 0) then
   some (.inl a)
  else
   (slots_Check K ).bind fun _=>
   some (.inr (.inl ()))
 | .inr (.inl (b,d,e))=>
  (slots_Check K ).bind fun _=>
  some (.inr (.inr (.inl (b,d,e))))
 | .inr (.inr (f,g,h,i))=>
  (slots_Check K ).bind fun _=>
  some (.inr (.inr (.inr (f,g,h,i))))
def sink_Sink_Stop (_K : Nat)  : Option ((List ((Int × (Int × (Int × List Int)))))):=
 some ([] : List ((Int × (Int × (Int × List Int)))))
def sink_Sink_Doubles (_K : Nat)  : Option (Unit):=
 some ()
def sink_Sink_Next (_K : Nat)  : Option (Unit):=
 some ()
def psalterylaw29_SinkNil (K : Nat) (a : List Int) : Option (Bool):=
 (psalterylaw29_alive K ).bind fun b=>
 bif (!b) then
  some false
 else
  (sink_Sink_Take_5 K a).bind fun _s=>
  (psalterylaw29_plain K ).bind fun _=>
  (sink_New_2 K ).bind fun z=>match z with
  | .inl d=>
   (
    (sink_Sink_End K ).bind fun e=>
    (sink_Sink_Stop K ).bind fun f=>
    let g:=(kwrap .i64 ((e.length : Int) + (f.length : Int)))
    bif (g == 0) then
     (sink_Sink_Doubles K ).bind fun _=>
     (sink_Sink_Next K ).bind fun _=>
     some (d == 3)
    else
     some false : Option (Bool)).bind fun h=>
    some h
  | .inr (.inl _)=>
   (
    (sink_Sink_End K ).bind fun i=>
    (sink_Sink_Stop K ).bind fun j=>
    let k:=(kwrap .i64 ((i.length : Int) + (j.length : Int)))
    bif (k == 0) then
     (sink_Sink_Doubles K ).bind fun _=>
     (sink_Sink_Next K ).bind fun _=>
     some ()
    else
     some () : Option (Unit)).bind fun _=>
    some false
  | .inr (.inr (.inl (_t,_u,_w)))=>
   (
    (sink_Sink_End K ).bind fun l=>
    (sink_Sink_Stop K ).bind fun m=>
    let n:=(kwrap .i64 ((l.length : Int) + (m.length : Int)))
    bif (n == 0) then
     (sink_Sink_Doubles K ).bind fun _=>
     (sink_Sink_Next K ).bind fun _=>
     some ()
    else
     some () : Option (Unit)).bind fun _=>
    some false
  | .inr (.inr (.inr (_y,_A,_B,_D)))=>
   (
    (sink_Sink_End K ).bind fun o=>
    (sink_Sink_Stop K ).bind fun p=>
    let q:=(kwrap .i64 ((o.length : Int) + (p.length : Int)))
    bif (q == 0) then
     (sink_Sink_Doubles K ).bind fun _=>
     (sink_Sink_Next K ).bind fun _=>
     some ()
    else
     some () : Option (Unit)).bind fun _=>
    some false
end Go.Fo
