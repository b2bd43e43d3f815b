/- The functions of Go that are reached, as functions of plain values. -/
import Derived.Test.YtdfoifpmghandadGreatJ3
namespace Go.Fo
def bank_New (_K : Nat) : Option (Unit):=
 some ()
def psalterylaw14_plain (_K : Nat)  : Option (Unit):=
 some ()
def format_within (_K : Nat) (a b d : Int) : Option (Bool):=
 let e:=(decide (a ≥ b))
 let f:=(decide (a ≤ d))
 let g:=(bif e then f else false)
 some g
def slices_Index_bool_bool.r0 (_K : Nat) (d : Bool) (e : Int) (b : List (Bool)) (next : Int → Option ((Unit) ⊕ (Int))) (a : Int) : Option ((Unit) ⊕ (Int)):=
 let f:=(decide (a < e))
 bif f then
  let g:=(Kd.nth (.bool) b (Int.toNat a))
  gd ((0 : Int) ≤ a ∧ a < (b.length : Int) ∧ (Int.toNat a) < b.length) <|
  bif (d == g) then
   some (.inr a)
  else
   let h:=(kwrap .i64 (a + 1))
   next h
 else
  some (.inl ())
def slices_Index_bool_bool.l0 (K : Nat) (a : Bool) (b : Int) (d : List (Bool)) (n : Nat) : Int → Option ((Unit) ⊕ (Int)):=rounds (slices_Index_bool_bool.r0 K a b d) (fun _=>none) n
def slices_Index_bool_bool (K : Nat) (b : Bool) (a : List (Bool)) : Option (Int):=
 (slices_Index_bool_bool.l0 K b (a.length : Int) a K 0 : Option ((Unit) ⊕ (Int))).bind fun z=>match z with
 | .inl _=>
  some (-1)
 | .inr r=>
  some r
def slices_Contains_bool_bool (K : Nat) (a : Bool) (b : List (Bool)) : Option (Bool):=
 (slices_Index_bool_bool K a b).bind fun d=>
 let e:=(decide (d ≥ 0))
 some e
def format_all (K : Nat) (a : List (Bool)) : Option (Bool):=
 (slices_Contains_bool_bool K false a).bind fun b=>
 some (!b)
def lapped_lengths (_K : Nat)  : Option (Unit):=
 some ()
def lapped_Lengths (K : Nat)  : Option ((List Int)):=
 (lapped_lengths K ).bind fun _=>
 let a:=[(40,(60,(80,120))).1,(40,(60,(80,120))).2.1,(40,(60,(80,120))).2.2.1,(40,(60,(80,120))).2.2.2]
 some a
def slices_Index_int_int.r0 (_K : Nat) (b : List Int) (d e : Int) (next : Int → Option ((Unit) ⊕ (Int))) (a : Int) : Option ((Unit) ⊕ (Int)):=
 let f:=(decide (a < e))
 bif f then
  let g:=(Kd.nth (.int .i64) b (Int.toNat a))
  gd ((0 : Int) ≤ a ∧ a < (b.length : Int)) <|
  bif (d == g) then
   some (.inr a)
  else
   let h:=(kwrap .i64 (a + 1))
   next h
 else
  some (.inl ())
def slices_Index_int_int.l0 (K : Nat) (a : List Int) (b d : Int) (n : Nat) : Int → Option ((Unit) ⊕ (Int)):=rounds (slices_Index_int_int.r0 K a b d) (fun _=>none) n
def slices_Index_int_int (K : Nat) (a : List Int) (b : Int) : Option (Int):=
 (slices_Index_int_int.l0 K a b (a.length : Int) K 0 : Option ((Unit) ⊕ (Int))).bind fun z=>match z with
 | .inl _=>
  some (-1)
 | .inr r=>
  some r
def slices_Contains_int_int (K : Nat) (a : List Int) (b : Int) : Option (Bool):=
 (slices_Index_int_int K a b).bind fun d=>
 let e:=(decide (d ≥ 0))
 some e
def format_fields (K : Nat) (l n b d e f g h i j : Int) : Option (Bool):=
 (format_within K n 0 3).bind fun o=>
 (format_within K b 1 2).bind fun p=>
 (format_all K [o,p]).bind fun a=>
 bif (l == 1) then
  (
   bif a then
    let m:=(bif (d == 4) then true else (d == 8))
    let k:=(Int.tmod e 4)
    bif (k == 0) then
     (format_within K e 4 16).bind fun q=>
     let s:=(bif (k == 0) then q else false)
     (format_within K f 0 1).bind fun t=>
     let u:=(kwrap .i64 (b - 1))
     (format_within K g 0 u).bind fun w=>
     let y:=(kwrap .i64 (16 * d))
     let z:=(kwrap .i64 (y * b))
     let A:=(imin z 250)
     (format_within K h 2 A).bind fun B=>
     let D:=(bif (i == 0) then (j == 0) else false)
     let E:=[m,s,t,w,B,D]
     (format_all K E).bind fun F=>
     let G:=(bif a then F else false)
     some G
    else
     let H:=(bif (k == 0) then false else false)
     (format_within K f 0 1).bind fun I=>
     let J:=(kwrap .i64 (b - 1))
     (format_within K g 0 J).bind fun L=>
     let M:=(kwrap .i64 (16 * d))
     let N:=(kwrap .i64 (M * b))
     let O:=(imin N 250)
     (format_within K h 2 O).bind fun P=>
     let Q:=(bif (i == 0) then (j == 0) else false)
     let R:=[m,H,I,L,P,Q]
     (format_all K R).bind fun S=>
     let T:=(bif a then S else false)
     some T
   else
    let U:=(bif a then false else false)
    some U : Option (Bool)).bind fun V=>
   some V
 else
  bif (l == 2) then
   (
    bif a then
     (lapped_Lengths K ).bind fun W=>
     (slices_Contains_int_int K W i).bind fun X=>
     (format_within K j 20 120).bind fun Y=>
     let Z:=(bif (d == 0) then (e == 0) else false)
     let aa:=(bif Z then (f == 0) else false)
     let ab:=(bif aa then (g == 0) else false)
     let ad:=(bif ab then (h == 0) else false)
     let ae:=[X,Y,ad]
     (format_all K ae).bind fun af=>
     let ag:=(bif a then af else false)
     some ag
    else
     let ah:=(bif a then false else false)
     some ah : Option (Bool)).bind fun ai=>
    some ai
  else
   some false
def format_bits (_K : Nat) (b _q d a e _s f g _t h : Int) : Option (Int):=
 bif (b == 2) then
  let i:=(kwrap .i64 (8 * h))
  some i
 else
  let j:=(kwrap .i64 (f * a))
  let k:=(kwrap .i64 (32 + j))
  let l:=(kwrap .i64 (4 * a))
  let m:=(kwrap .i64 (l * d))
  let n:=(kwrap .i64 (k + m))
  let o:=(kwrap .i64 (e * g))
  let p:=(kwrap .i64 (n + o))
  some p
def format_payload (K : Nat) (a e b f g h i j k d : Int) : Option (Int):=
 bif (a == 2) then
  let l:=(kwrap .i64 (d * b))
  some l
 else
  (format_bits K a e b f g h i j k d).bind fun m=>
  let n:=(kwrap .i64 (m + 7))
  let o:=(kwrap .i64 (Int.tdiv n 8))
  some o
def format_Check (K : Nat) (a b d e f g h i j k : Int) : Option (Int):=
 (
  (format_fields K a b d e f g h i j k).bind fun l=>
  bif (!l) then
   some true
  else
   (format_payload K a b d e f g h i j k).bind fun m=>
   let n:=(decide (m > 512))
   some n : Option (Bool)).bind fun o=>
  bif o then
   some 110
  else
   some 0
def subband_may (K : Nat) (a b d e f g h i j k : Int) : Option (Int):=
 (format_Check K a b d e f g h i j k).bind fun l=>
 let m:=(bif (l != 0) then true else (a != 1))
 bif m then
  some 110
 else
  some 0
def bank_Bank_may (_K : Nat) (a : Bool) (_b : List (Option (List Int))) (_d _e : Int) : Option ((Unit) ⊕ (Unit)):=
 bif (!a) then
  some (.inl ())
 else
  some (.inr ())
def sync_atomic_Bool_Load (_K : Nat) (_a _b : List (Option (List Int))) (_d _e : Int) : Option (Unit):=
 some ()
def wave_modulo (_K : Nat) (d a : Int) : Option (Int):=
 let b:=(Int.tmod d a)
 gd (a ≠ 0) <|
 let e:=(decide (b < 0))
 (
  bif e then
   let f:=(kwrap .i64 (b + a))
   some f
  else
   some b : Option (Int)).bind fun g=>
  some g
def wave_height (K : Nat) (f a : Int) : Option (Int × Int):=
 (wave_modulo K f a).bind fun g=>
 let b:=(kwrap .i64 (4 * g))
 let d:=(kwrap .i64 (Int.tdiv b a))
 gd (a ≠ 0) <|
 let e:=(Int.tmod b a)
 gd (a ≠ 0) <|
 let h:=(kand .i64 d 1)
 (
  bif (h == 1) then
   let i:=(kwrap .i64 (a - e))
   some i
  else
   some e : Option (Int)).bind fun j=>
  let k:=(kshl .u64 (kwrap .u64 j) 30)
  let l:=(kwrap .u64 (Int.tdiv k (kwrap .u64 a)))
  gd ((kwrap .u64 a) ≠ 0) <|
  some (l,d)
def fix_within_int (_K : Nat) (a b d : Int) : Option (Int):=
 let e:=(decide (a < b))
 bif e then
  some b
 else
  let f:=(decide (a > d))
  bif f then
   some d
  else
   some a
def fix_Round (K : Nat) (b e : Int) : Option (Int):=
 (fix_within_int K e 0 62).bind fun a=>
 bif (a == 0) then
  some b
 else
  let f:=(kshr .i64 b a)
  gd ((0 : Int) ≤ a) <|
  let d:=(kwrap .i64 (a - 1))
  let g:=(kshr .i64 b d)
  gd ((0 : Int) ≤ d) <|
  let h:=(kand .i64 g 1)
  let i:=(kwrap .i64 (f + h))
  some i
def fix_within_int64 (_K : Nat) (a b d : Int) : Option (Int):=
 let e:=(decide (a < b))
 bif e then
  some b
 else
  let f:=(decide (a > d))
  bif f then
   some d
  else
   some a
def fix_Clip (K : Nat) (a b d : Int) : Option (Int):=
 (fix_within_int64 K a b d).bind fun e=>
 some e
def wave_sine.r0 (_K : Nat) (_k _l d : Int) (next : Int → Int → Option (Int)) (b a : Int) : Option (Int):=
 let e:=(decide (a < 4))
 bif e then
  let f:=(List.getD [5026995,85569306,693598668,1686629713] (Int.toNat a) 0)
  gd ((0 : Int) ≤ a ∧ a < 4) <|
  let g:=(kwrap .u64 (b * d))
  let h:=(kshr .u64 g 30)
  let i:=(kwrap .u64 (f - h))
  let j:=(kwrap .i64 (a + 1))
  next i j
 else
  some b
def wave_sine.l0 (K : Nat) (a b d : Int) (n : Nat) : Int → Int → Option (Int):=rounds (wave_sine.r0 K a b d) (fun _ _=>none) n
def wave_sine (K : Nat) (e f : Int) : Option (Int):=
 (wave_height K e f).bind fun (a,b)=>
 let g:=(kwrap .u64 (a * a))
 let h:=(kshr .u64 g 30)
 (wave_sine.l0 K a b h K 172272 0 : Option (Int)).bind fun i=>
  let j:=(kwrap .u64 (i * a))
  let k:=(kshr .u64 j 30)
  let l:=(kwrap .i64 k)
  (fix_Round K l 15).bind fun m=>
  (fix_Clip K m 0 32767).bind fun d=>
  let n:=(decide (b ≥ 2))
  (
   bif n then
    some ((kwrap .i64 (0 - d)))
   else
    some d : Option (Int)).bind fun o=>
   some (kwrap .i16 o)
def wave_Sine (K : Nat) (b a : Int) : Option (Int × Int):=
 let d:=(decide (a < 1))
 let e:=(decide (a > 1048576))
 let f:=(bif d then true else e)
 bif f then
  some (0,1)
 else
  (wave_sine K b a).bind fun g=>
  some (g,0)
def wave_Cosine (K : Nat) (b a : Int) : Option (Int × Int):=
 let d:=(decide (a < 1))
 let e:=(decide (a > 1048576))
 let f:=(bif d then true else e)
 bif f then
  some (0,1)
 else
  (wave_modulo K b a).bind fun g=>
  let h:=(kwrap .i64 (4 * g))
  let i:=(kwrap .i64 (h + a))
  let j:=(kwrap .i64 (4 * a))
  (wave_sine K i j).bind fun k=>
  some (k,0)
def fix_Sat16 (K : Nat) (a : Int) : Option (Int):=
 (fix_within_int64 K a (-32768) 32767).bind fun b=>
 some (kwrap .i16 b)
def bank_filtered (K : Nat) (a b : Int) : Option (Int):=
 let g:=(kwrap .i64 (5 * a))
 let d:=(kwrap .i64 (b - g))
 (
  bif (d != 0) then
   let h:=(kwrap .i64 (3 * d))
   let i:=(kwrap .i64 (10 * a))
   (wave_Sine K h i).bind fun (j,_F)=>
   let k:=(kwrap .i64 (565 * a))
   let l:=(kwrap .i64 ((kwrap .i64 j) * k))
   let e:=(kwrap .i64 (1065 * d))
   let m:=(kwrap .i64 (Int.tdiv l e))
   gd (e ≠ 0) <|
   some m
  else
   some 32768 : Option (Int)).bind fun n=>
  let f:=(kwrap .i64 (10 * a))
  (wave_Cosine K b f).bind fun (o,_G)=>
  let p:=(kwrap .i64 (2 * b))
  (wave_Cosine K p f).bind fun (q,_H)=>
  let s:=(kwrap .i64 (50 * (kwrap .i64 o)))
  let t:=(kwrap .i64 (1376256 - s))
  let u:=(kwrap .i64 (8 * (kwrap .i64 q)))
  let w:=(kwrap .i64 (t + u))
  let y:=(kwrap .i64 (Int.tdiv w 100))
  let z:=(kwrap .i64 (n * y))
  (fix_Round K z 15).bind fun A=>
  let B:=(kwrap .i64 (A * 19708))
  (fix_Round K B 15).bind fun D=>
  (fix_Sat16 K D).bind fun E=>
  some E
def bank_Bank_Filter_1 (K : Nat) (a b : Int) : Option (Int):=
 (bank_filtered K b a).bind fun d=>
 some d
def sync_atomic_Int64_Add (_K : Nat) (a : Int) (b : List (Option (List Int))) (_f : List Int) (d : List (Option (List Int))) (e _g : Int) : Option (Int):=
 gd (b.length + d.length = 387) <|
 some (kwrap .i64 (e + a))
def bank_Bank_tell_1.r0 (K : Nat) (d : Int) (_j _k : List (Option (List Int))) (_l _m _n e : Int) (next : Int → List Int → Option ((List Int))) (a : Int) (b : List Int) : Option ((List Int)):=
 let f:=(decide (a < d))
 bif f then
  (bank_Bank_Filter_1 K a e).bind fun g=>
  gd ((0 : Int) ≤ a ∧ a < (b.length : Int)) <|
  let h:=(List.set b (Int.toNat a) g)
  gd ((Int.toNat a) < b.length) <|
  let i:=(kwrap .i64 (a + 1))
  next i h
 else
  some b
def bank_Bank_tell_1.l0 (K : Nat) (a : Int) (b d : List (Option (List Int))) (e f g h : Int) (n : Nat) : Int → List Int → Option ((List Int)):=rounds (bank_Bank_tell_1.r0 K a b d e f g h) (fun _ _=>none) n
def bank_Bank_tell_1 (K : Nat) (b d : List (Option (List Int))) (e f a i : Int) : Option ((List Int) × Int):=
 let g:=(List.replicate (Int.toNat a) (0 : Int))
 gd ((0 : Int) ≤ a ∧ a ≤ a ∧ a * 2 ≤ 140737488355328) <|
 let j:=(g.length : Int)
 (bank_Bank_tell_1.l0 K j b d e f a i K 0 g : Option ((List Int))).bind fun h=>
  (sync_atomic_Int64_Add K 1 b h d e f).bind fun k=>
  some (h,k)
def sync_Once_doSlow (K : Nat) (a b : List (Option (List Int))) (d e f g : Int) : Option ((List Int) × Int):=
 bank_Bank_tell_1 K a b d e f g
def sync_Once_Do (K : Nat) (a b : List (Option (List Int))) (d e f g : Int) : Option ((List Int) × Int):=
 (sync_atomic_Bool_Load K a b d e).bind fun _=>
 (sync_Once_doSlow K a b d e f g).bind fun (h,i)=>
 some (h,i)
def sync_atomic_Int64_Add_2 (_K : Nat) (a : Int) (b : List (Option (List Int))) (_f : List Int) (d : List (Option (List Int))) (_g e : Int) : Option (Int):=
 gd (b.length + d.length = 387) <|
 some (kwrap .i64 (e + a))
def slices_Clone_int16_int16 (_K : Nat) (a : List Int) : Option ((List Int)):=
 gd (a ≠ []) <|
 let b:=(([] : List Int) ++ a)
 gd (((([] : List Int).length : Int) + (a.length : Int)) * 2 ≤ 70368744177664) <|
 some b
def bank_Bank_tell (K : Nat) (t0 t1 : List (Option (List Int))) (e f b g : Int) : Option ((List Int) × (List Int) × Int × Int):=
 (sync_Once_Do K t0 t1 f b e g).bind fun (a,d)=>
 (sync_atomic_Int64_Add_2 K 1 t0 a t1 d b).bind fun h=>
 (slices_Clone_int16_int16 K a).bind fun i=>
 some (i,a,d,h)
def sync_atomic_Bool_Load_2 (_K : Nat) (_a : List (Option (List Int))) (_b : List Int) (_d : List (Option (List Int))) (_e _f : Int) : Option (Unit):=
 some ()
def sync_Once_Do_2 (K : Nat) (a : List (Option (List Int))) (b : List Int) (d : List (Option (List Int))) (e f _g _h : Int) : Option (Unit):=
 (sync_atomic_Bool_Load_2 K a b d e f).bind fun _=>
 some ()
def bank_Bank_tell_2 (K : Nat) (t0 t1 : List (Option (List Int))) (l : List Int) (d a b e : Int) : Option ((List Int) × Int):=
 (sync_Once_Do_2 K t0 l t1 a b d e).bind fun _=>
 (sync_atomic_Int64_Add_2 K 1 t0 l t1 a b).bind fun f=>
 (slices_Clone_int16_int16 K l).bind fun g=>
 some (g,f)
def bank_Bank_tell_3 (K a : Nat) (e : Int) (b : List (Option (List Int))) (d f g : Int) : Option ((List Int) × (List (Option (List Int))) × Int × Int):=
 gd (b.length = 388 ∧ a = a / 4 * 4 ∧ a / 4 < 388) <|
 match b[a / 4]? with
 | some none=>(bank_Bank_tell K (b.take (a / 4)) (b.drop ((a / 4) + 1)) e d f g).bind fun (q0',q1',q2',q3')=>some (q0',(b.take (a / 4) ++ some q1' :: b.drop ((a / 4) + 1)),q2',q3')
 | some (some l)=>(bank_Bank_tell_2 K (b.take (a / 4)) (b.drop ((a / 4) + 1)) l e d f g).bind fun (q0',q1')=>some (q0',b,d,q1')
 | none=>none
def bank_Bank_Filter (K : Nat) (a : Int) (b : List (Option (List Int))) (d e : Int) : Option ((List Int) × Int × (List (Option (List Int))) × Int × Int):=
 let g:=(bif (a == 4) then true else (a == 8))
 (bank_Bank_may K g b d e).bind fun z=>match z with
 | .inl _=>
  some (([] : List Int),1,b,d,e)
 | .inr _=>
  let f:=(kwrap .i64 (Int.tdiv a 8))
  let h:=(1544 + (Int.toNat f) * 4)
  gd ((0 : Int) ≤ f ∧ f < 2) <|
  let i:=(kwrap .i64 (10 * a))
  (bank_Bank_tell_3 K h i b d e a).bind fun (j,k,l,m)=>
  some (j,0,k,l,m)
def bank_Bank_Turn_1 (K : Nat) (a b : Int) : Option (Int):=
 (wave_Cosine K a b).bind fun (d,_e)=>
 some d
def bank_Bank_tell_1_2.r0 (K : Nat) (d : Int) (_j _k : List (Option (List Int))) (_l _m _n e : Int) (next : Int → List Int → Option ((List Int))) (a : Int) (b : List Int) : Option ((List Int)):=
 let f:=(decide (a < d))
 bif f then
  (bank_Bank_Turn_1 K a e).bind fun g=>
  gd ((0 : Int) ≤ a ∧ a < (b.length : Int)) <|
  let h:=(List.set b (Int.toNat a) g)
  gd ((Int.toNat a) < b.length) <|
  let i:=(kwrap .i64 (a + 1))
  next i h
 else
  some b
def bank_Bank_tell_1_2.l0 (K : Nat) (a : Int) (b d : List (Option (List Int))) (e f g h : Int) (n : Nat) : Int → List Int → Option ((List Int)):=rounds (bank_Bank_tell_1_2.r0 K a b d e f g h) (fun _ _=>none) n
def bank_Bank_tell_1_2 (K : Nat) (b d : List (Option (List Int))) (e f a i : Int) : Option ((List Int) × Int):=
 let g:=(List.replicate (Int.toNat a) (0 : Int))
 gd ((0 : Int) ≤ a ∧ a ≤ a ∧ a * 2 ≤ 140737488355328) <|
 let j:=(g.length : Int)
 (bank_Bank_tell_1_2.l0 K j b d e f a i K 0 g : Option ((List Int))).bind fun h=>
  (sync_atomic_Int64_Add K 1 b h d e f).bind fun k=>
  some (h,k)
def sync_Once_doSlow_2 (K : Nat) (a b : List (Option (List Int))) (d e f g : Int) : Option ((List Int) × Int):=
 bank_Bank_tell_1_2 K a b d e f g
def sync_Once_Do_3 (K : Nat) (a b : List (Option (List Int))) (d e f g : Int) : Option ((List Int) × Int):=
 (sync_atomic_Bool_Load K a b d e).bind fun _=>
 (sync_Once_doSlow_2 K a b d e f g).bind fun (h,i)=>
 some (h,i)
def bank_Bank_tell_4 (K : Nat) (t0 t1 : List (Option (List Int))) (e f b g : Int) : Option ((List Int) × (List Int) × Int × Int):=
 (sync_Once_Do_3 K t0 t1 f b e g).bind fun (a,d)=>
 (sync_atomic_Int64_Add_2 K 1 t0 a t1 d b).bind fun h=>
 (slices_Clone_int16_int16 K a).bind fun i=>
 some (i,a,d,h)
def sync_Once_Do_4 (K : Nat) (a : List (Option (List Int))) (b : List Int) (d : List (Option (List Int))) (e f _g _h : Int) : Option (Unit):=
 (sync_atomic_Bool_Load_2 K a b d e f).bind fun _=>
 some ()
def bank_Bank_tell_5 (K : Nat) (t0 t1 : List (Option (List Int))) (l : List Int) (d a b e : Int) : Option ((List Int) × Int):=
 (sync_Once_Do_4 K t0 l t1 a b d e).bind fun _=>
 (sync_atomic_Int64_Add_2 K 1 t0 l t1 a b).bind fun f=>
 (slices_Clone_int16_int16 K l).bind fun g=>
 some (g,f)
def bank_Bank_tell_6 (K a : Nat) (e : Int) (b : List (Option (List Int))) (d f g : Int) : Option ((List Int) × (List (Option (List Int))) × Int × Int):=
 gd (b.length = 388 ∧ a = a / 4 * 4 ∧ a / 4 < 388) <|
 match b[a / 4]? with
 | some none=>(bank_Bank_tell_4 K (b.take (a / 4)) (b.drop ((a / 4) + 1)) e d f g).bind fun (q0',q1',q2',q3')=>some (q0',(b.take (a / 4) ++ some q1' :: b.drop ((a / 4) + 1)),q2',q3')
 | some (some l)=>(bank_Bank_tell_5 K (b.take (a / 4)) (b.drop ((a / 4) + 1)) l e d f g).bind fun (q0',q1')=>some (q0',b,d,q1')
 | none=>none
def bank_Bank_Turn (K : Nat) (a : Int) (b : List (Option (List Int))) (d e : Int) : Option ((List Int) × Int × (List (Option (List Int))) × Int × Int):=
 let g:=(decide (a ≥ 4))
 let h:=(decide (a ≤ 1024))
 let i:=(bif g then h else false)
 let j:=(Int.tmod a 4)
 let k:=(bif i then (j == 0) else false)
 (bank_Bank_may K k b d e).bind fun z=>match z with
 | .inl _=>
  some (([] : List Int),1,b,d,e)
 | .inr _=>
  let f:=(kwrap .i64 (Int.tdiv a 4))
  let l:=(0 + (Int.toNat f) * 4)
  gd ((0 : Int) ≤ f ∧ f < 257) <|
  (bank_Bank_tell_6 K l a b d e a).bind fun (m,n,o,p)=>
  some (m,0,n,o,p)
def poly_tables (K : Nat) (a : Int) (g : List (Option (List Int))) (h i : Int) : Option (Int × (List Int) × (List Int) × Int × (List (Option (List Int))) × Int × Int):=
 (bank_Bank_Filter K a g h i).bind fun (j,b,d,e,f)=>
 bif (b != 0) then
  some (0,([] : List Int),([] : List Int),b,d,e,f)
 else
  let k:=(kwrap .i64 (8 * a))
  (bank_Bank_Turn K k d e f).bind fun (l,m,n,o,p)=>
  some (a,j,l,m,n,o,p)
def poly_NewSplitter (K : Nat) (b : Int) (h : List (Option (List Int))) (i j : Int) : Option ((Int × (List (Option (List Int))) × Int × Int) ⊕ ((List (Option (List Int))) × Int × Int × Int × (List Int) × (List Int) × (List Int))):=
 (poly_tables K b h i j).bind fun (k,l,m,d,e,f,g)=>
 bif (d != 0) then
  some (.inl (d,e,f,g))
 else
  let a:=(kwrap .i64 (10 * b))
  let n:=(List.replicate (Int.toNat a) (0 : Int))
  gd ((0 : Int) ≤ a ∧ a ≤ a ∧ a * 8 ≤ 140737488355328) <|
  some (.inr (e,f,g,k,l,m,n))
def subband_NewEncoder (K : Nat) (h i b a j k l m n o : Int) (d : List (Option (List Int))) (e f : Int) : Option ((Int) ⊕ ((List (Option (List Int))) × Int × Int × Int × (List Int) × (List Int) × (List Int)) ⊕ ((List (Option (List Int))) × Int × Int × Int × (List Int) × (List Int) × Int × (List Int) × (List Int) × (List Int) × (List Int))):=
 (subband_may K h i b a j k l m n o).bind fun g=>
 bif (g != 0) then
  some (.inl g)
 else
  bif b == 1 then
   (poly_NewSplitter K a d e f).bind fun z=>match z with
   | .inl (_Q,_R,_S,_T)=>
    none
   | .inr (p,q,s,t,u,w,y)=>
    some (.inr (.inl (p,q,s,t,u,w,y)))
  else
   bif b == 2 then
    (poly_NewSplitter K a d e f).bind fun z=>match z with
    | .inl (_U,_V,_W,_X)=>
     none
    | .inr (A,B,D,E,F,G,H)=>
     (poly_NewSplitter K a A B D).bind fun z=>match z with
     | .inl (_Y,_Z,_aa,_ab)=>
      none
     | .inr (I,J,L,M,N,O,P)=>
      some (.inr (.inr (I,J,L,E,F,G,M,N,O,H,P)))
   else
    none
def subband_Encoder_Feed (_K : Nat) (_a : List Int) : Option ((List Int)):=
 some ([] : List Int)
def format_of (K : Nat) (a b d e f g h i j k : Int) : Option (Int):=
 (format_Check K a b d e f g h i j k).bind fun l=>
 bif (l != 0) then
  some 0
 else
  (format_payload K a b d e f g h i j k).bind fun m=>
  some m
def format_Payload (K : Nat) (a b d e f g h i j k : Int) : Option (Int):=
 (format_of K a b d e f g h i j k).bind fun l=>
 some l
def bytes_Clone (_K : Nat) (a : List Int) : Option ((List Int)):=
 gd (a ≠ []) <|
 let b:=(([] : List Int) ++ a)
 gd (((([] : List Int).length : Int) + (a.length : Int)) * 1 ≤ 70368744177664) <|
 some b
def bits_Open (K : Nat) (a : List Int) : Option ((Unit) ⊕ ((List Int))):=
 let b:=(decide ((a.length : Int) > 512))
 bif b then
  some (.inl ())
 else
  (bytes_Clone K a).bind fun d=>
  some (.inr d)
def bits_Eye_Front (_K : Nat) (_a : Int) : Option (Unit):=
 some ()
def subband_take.r0 (K : Nat) (d e : Int) (next : Int → List Int → Option ((List Int))) (a : Int) (b : List Int) : Option ((List Int)):=
 let f:=(decide (a < e))
 bif f then
  (bits_Eye_Front K d).bind fun _=>
  let g:=(List.set b (Int.toNat a) 0)
  gd ((0 : Int) ≤ a ∧ a < (b.length : Int) ∧ (Int.toNat a) < b.length) <|
  let h:=(kwrap .i64 (a + 1))
  next h g
 else
  some b
def subband_take.l0 (K : Nat) (a b : Int) (n : Nat) : Int → List Int → Option ((List Int)):=rounds (subband_take.r0 K a b) (fun _ _=>none) n
def subband_take (K : Nat) (a d : Int) : Option ((List Int)):=
 let b:=(List.replicate (Int.toNat a) (0 : Int))
 gd ((0 : Int) ≤ a ∧ a ≤ a ∧ a * 8 ≤ 140737488355328) <|
 let e:=(b.length : Int)
 (subband_take.l0 K d e K 0 b : Option ((List Int))).bind fun f=>
  some f
def alloc_may.r1 (_K : Nat) (_k : List (List Int)) (_l _m : Int) (b : List Int) (e _n _o _p _q _s _t _u _w _y _z : Int) (next : Int → Option ((Unit) ⊕ (Int))) (a : Int) : Option ((Unit) ⊕ (Int)):=
 let f:=(decide (a < e))
 bif f then
  let d:=(Kd.nth (.int .i64) b (Int.toNat a))
  gd ((0 : Int) ≤ a ∧ a < (b.length : Int)) <|
  let g:=(decide (d < 0))
  let h:=(decide (d > 15))
  let i:=(bif g then true else h)
  bif i then
   some (.inr 1)
  else
   let j:=(kwrap .i64 (a + 1))
   next j
 else
  some (.inl ())
def alloc_may.l1 (K : Nat) (a : List (List Int)) (b d : Int) (e : List Int) (f g h i j k l m o p q : Int) (n : Nat) : Int → Option ((Unit) ⊕ (Int)):=rounds (alloc_may.r1 K a b d e f g h i j k l m o p q) (fun _=>none) n
def alloc_may.r0 (K : Nat) (b : List (List Int)) (d h i j e k l m n o p : Int) (next : Int → Option ((Unit) ⊕ (Int))) (a : Int) : Option ((Unit) ⊕ (Int)):=
 let q:=(decide (a < d))
 bif q then
  let f:=(Kd.nth (.slice (.int .i64)) b (Int.toNat a))
  gd ((0 : Int) ≤ a ∧ a < (b.length : Int)) <|
  let g:=(f.length : Int)
  bif (g != e) then
   some (.inr 1)
  else
   (alloc_may.l1 K b d a f g h i j e k l m n o p K 0 : Option ((Unit) ⊕ (Int))).bind fun z=>match z with
   | .inl _=>
    let s:=(kwrap .i64 (a + 1))
    next s
   | .inr r=>
    some (.inr r)
 else
  some (.inl ())
def alloc_may.l0 (K : Nat) (a : List (List Int)) (b d e f g h i j k l m : Int) (n : Nat) : Int → Option ((Unit) ⊕ (Int)):=rounds (alloc_may.r0 K a b d e f g h i j k l m) (fun _=>none) n
def alloc_may (K : Nat) (a e b f g h i j k l : Int) (d : List (List Int)) : Option (Int):=
 (format_Check K a e b f g h i j k l).bind fun m=>
 let n:=(bif (m != 0) then true else (a != 1))
 bif n then
  some 110
 else
  let o:=((d.length : Int) != b)
  bif o then
   some 1
  else
   (alloc_may.l0 K d (d.length : Int) a e b f g h i j k l K 0 : Option ((Unit) ⊕ (Int))).bind fun z=>match z with
   | .inl _=>
    some 0
   | .inr r=>
    some r
def alloc_four (_K : Nat)  : Option (Unit):=
 some ()
def alloc_eight (_K : Nat)  : Option (Unit):=
 some ()
def alloc_offset (K : Nat) (_t a _u d _w _y _z _A _B _D b : Int) : Option (Int):=
 bif (d == 4) then
  (alloc_four K ).bind fun _=>
  let e:=(List.getD [(-1),0,0,0,(-2),0,0,1,(-2),0,0,1,(-2),0,0,1] ((Int.toNat a) * 4 + 0) 0)
  let f:=(List.getD [(-1),0,0,0,(-2),0,0,1,(-2),0,0,1,(-2),0,0,1] ((Int.toNat a) * 4 + 1) 0)
  let g:=(List.getD [(-1),0,0,0,(-2),0,0,1,(-2),0,0,1,(-2),0,0,1] ((Int.toNat a) * 4 + 2) 0)
  let h:=(List.getD [(-1),0,0,0,(-2),0,0,1,(-2),0,0,1,(-2),0,0,1] ((Int.toNat a) * 4 + 3) 0)
  gd ((0 : Int) ≤ a ∧ a < (4 : Int)) <|
  let i:=(List.getD [e,f,g,h] (Int.toNat b) 0)
  gd ((0 : Int) ≤ b ∧ b < 4) <|
  some i
 else
  (alloc_eight K ).bind fun _=>
  let j:=(List.getD [(-2),0,0,0,0,0,0,1,(-3),0,0,0,0,0,1,2,(-4),0,0,0,0,0,1,2,(-4),0,0,0,0,0,1,2] ((Int.toNat a) * 8 + 0) 0)
  let k:=(List.getD [(-2),0,0,0,0,0,0,1,(-3),0,0,0,0,0,1,2,(-4),0,0,0,0,0,1,2,(-4),0,0,0,0,0,1,2] ((Int.toNat a) * 8 + 1) 0)
  let l:=(List.getD [(-2),0,0,0,0,0,0,1,(-3),0,0,0,0,0,1,2,(-4),0,0,0,0,0,1,2,(-4),0,0,0,0,0,1,2] ((Int.toNat a) * 8 + 2) 0)
  let m:=(List.getD [(-2),0,0,0,0,0,0,1,(-3),0,0,0,0,0,1,2,(-4),0,0,0,0,0,1,2,(-4),0,0,0,0,0,1,2] ((Int.toNat a) * 8 + 3) 0)
  let n:=(List.getD [(-2),0,0,0,0,0,0,1,(-3),0,0,0,0,0,1,2,(-4),0,0,0,0,0,1,2,(-4),0,0,0,0,0,1,2] ((Int.toNat a) * 8 + 4) 0)
  let o:=(List.getD [(-2),0,0,0,0,0,0,1,(-3),0,0,0,0,0,1,2,(-4),0,0,0,0,0,1,2,(-4),0,0,0,0,0,1,2] ((Int.toNat a) * 8 + 5) 0)
  let p:=(List.getD [(-2),0,0,0,0,0,0,1,(-3),0,0,0,0,0,1,2,(-4),0,0,0,0,0,1,2,(-4),0,0,0,0,0,1,2] ((Int.toNat a) * 8 + 6) 0)
  let q:=(List.getD [(-2),0,0,0,0,0,0,1,(-3),0,0,0,0,0,1,2,(-4),0,0,0,0,0,1,2,(-4),0,0,0,0,0,1,2] ((Int.toNat a) * 8 + 7) 0)
  gd ((0 : Int) ≤ a ∧ a < (4 : Int)) <|
  let s:=(List.getD [j,k,l,m,n,o,p,q] (Int.toNat b) 0)
  gd ((0 : Int) ≤ b ∧ b < 8) <|
  some s
def alloc_need (K : Nat) (e f g h i d j k l m a n : Int) : Option (Int):=
 bif (d == 1) then
  some a
 else
  bif (a == 0) then
   some (-5)
  else
   (alloc_offset K e f g h i d j k l m n).bind fun o=>
   let b:=(kwrap .i64 (a - o))
   let p:=(decide (b > 0))
   (
    bif p then
     let q:=(kwrap .i64 (Int.tdiv b 2))
     some q
    else
     some b : Option (Int)).bind fun s=>
    some s
def alloc_Needs.r1 (K : Nat) (_A : List (List Int)) (a _B : Int) (e : List Int) (h i j k l m n o p q s : Int) (next : Int → List (List Int) → Option ((List (List Int)))) (d : Int) (b : List (List Int)) : Option ((List (List Int))):=
 let t:=(decide (d < h))
 bif t then
  let u:=(Kd.nth (.int .i64) e (Int.toNat d))
  gd ((0 : Int) ≤ d ∧ d < (e.length : Int)) <|
  gd ((0 : Int) ≤ a ∧ a < (b.length : Int)) <|
  let f:=(List.getD b (Int.toNat a) [])
  gd ((Int.toNat a) < b.length) <|
  (alloc_need K i j k l m n o p q s u d).bind fun g=>
  let w:=(f ++ [g])
  gd (((f.length : Int) + ([g].length : Int)) * 8 ≤ 70368744177664) <|
  gd ((0 : Int) ≤ a ∧ a < (b.length : Int)) <|
  let y:=(List.set b (Int.toNat a) w)
  gd ((Int.toNat a) < b.length) <|
  let z:=(kwrap .i64 (d + 1))
  next z y
 else
  some b
def alloc_Needs.l1 (K : Nat) (a : List (List Int)) (b d : Int) (e : List Int) (f g h i j k l m o p q : Int) (n : Nat) : Int → List (List Int) → Option ((List (List Int))):=rounds (alloc_Needs.r1 K a b d e f g h i j k l m o p q) (fun _ _=>none) n
def alloc_Needs.r0 (K : Nat) (b : List (List Int)) (d g h i j k l m n o p : Int) (next : Int → List (List Int) → Option ((List (List Int)))) (a : Int) (e : List (List Int)) : Option ((List (List Int))):=
 let q:=(decide (a < d))
 bif q then
  let f:=(Kd.nth (.slice (.int .i64)) b (Int.toNat a))
  let s:=(f.length : Int)
  gd ((0 : Int) ≤ a ∧ a < (b.length : Int)) <|
  (alloc_Needs.l1 K b a d f s g h i j k l m n o p K 0 e : Option ((List (List Int)))).bind fun t=>
   let u:=(kwrap .i64 (a + 1))
   next u t
 else
  some e
def alloc_Needs.l0 (K : Nat) (a : List (List Int)) (b d e f g h i j k l m : Int) (n : Nat) : Int → List (List Int) → Option ((List (List Int))):=rounds (alloc_Needs.r0 K a b d e f g h i j k l m) (fun _ _=>none) n
def alloc_Needs (K : Nat) (b d a e f g h i j k : Int) (l : List (List Int)) : Option ((List (List Int)) × Int):=
 (alloc_may K b d a e f g h i j k l).bind fun m=>
 bif (m != 0) then
  some (([] : List (List Int)),m)
 else
  let n:=(List.replicate (Int.toNat a) ([] : List Int))
  gd ((0 : Int) ≤ a ∧ a ≤ a ∧ a * 24 ≤ 140737488355328) <|
  let o:=(n.length : Int)
  (alloc_Needs.l0 K l o b d a e f g h i j k K 0 n : Option ((List (List Int)))).bind fun p=>
   some (p,0)
def alloc_sharing_cut_1 (_K : Nat) (a : Int) (_g : Nat) (b : List Int) (_h d _i : Int) (_j e : List (List Int)) (f : Nat) : Option (Int × (List (List Int))):=
 some ((imax d a),(List.set e f b))
def alloc_sharing_each.r1 (K : Nat) (b _q i j k : Int) (e : List (List Int)) (next : Int → Int → List (List Int) → Option (Int × (List (List Int)))) (a f : Int) (d : List (List Int)) : Option (Int × (List (List Int))):=
 let l:=(decide (a < i))
 bif l then
  let g:=(Kd.nth (.slice (.int .i64)) e (Int.toNat a))
  gd ((0 : Int) ≤ a ∧ a < (e.length : Int)) <|
  let m:=(Kd.nth (.int .i64) g (Int.toNat b))
  gd ((0 : Int) ≤ b ∧ b < (g.length : Int)) <|
  gd ((0 : Int) ≤ a ∧ a < (d.length : Int)) <|
  let h:=(List.getD d (Int.toNat a) [])
  gd ((Int.toNat a) < d.length) <|
  gd ((0 : Int) ≤ b ∧ b < (h.length : Int)) <|
  (alloc_sharing_cut_1 K m (Int.toNat b) h j f k e d (Int.toNat a)).bind fun (n,o)=>
  let p:=(kwrap .i64 (a + 1))
  next p n o
 else
  some (f,d)
def alloc_sharing_each.l1 (K : Nat) (a b d e f : Int) (g : List (List Int)) (n : Nat) : Int → Int → List (List Int) → Option (Int × (List (List Int))):=rounds (alloc_sharing_each.r1 K a b d e f g) (fun _ _ _=>none) n
def alloc_sharing_each.r0 (K : Nat) (b g h : Int) (d : List (List Int)) (next : Int → Int → List (List Int) → Option (Int × (List (List Int)))) (a e : Int) (f : List (List Int)) : Option (Int × (List (List Int))):=
 let i:=(decide (a < b))
 bif i then
  (alloc_sharing_each.l1 K a b (d.length : Int) g h d K 0 e f : Option (Int × (List (List Int)))).bind fun (j,k)=>
   let l:=(kwrap .i64 (a + 1))
   next l j k
 else
  some (e,f)
def alloc_sharing_each.l0 (K : Nat) (a b d : Int) (e : List (List Int)) (n : Nat) : Int → Int → List (List Int) → Option (Int × (List (List Int))):=rounds (alloc_sharing_each.r0 K a b d e) (fun _ _ _=>none) n
def alloc_sharing_each (K : Nat) (b d e : Int) (a f : List (List Int)) : Option (Int × (List (List Int))):=
 let g:=(Kd.nth (.slice (.int .i64)) a 0)
 let h:=(g.length : Int)
 gd (0 < (a.length : Int)) <|
 (alloc_sharing_each.l0 K h b e a K 0 d f : Option (Int × (List (List Int)))).bind fun (i,j)=>
  some (i,j)
def alloc_sharing_costs_1 (_K : Nat) (g : Int) (_p : Nat) (a : List Int) (b _q h _s : Int) (_t d : List (List Int)) (e : Nat) : Option (Int × (List (List Int))):=
 let f:=(kwrap .i64 (g - h))
 (
  bif (f == 1) then
   let i:=(kwrap .i64 (b + 2))
   some ((i,(List.set d e a)))
  else
   let j:=(decide (f > 1))
   let k:=(decide (f < 16))
   let l:=(bif j then k else false)
   bif l then
    let m:=(kwrap .i64 (b + 1))
    some ((m,(List.set d e a)))
   else
    some ((b,(List.set d e a))) : Option (Int × (List (List Int)))).bind fun (n,o)=>
  some (n,o)
def alloc_sharing_each_2.r1 (K : Nat) (b _s i j k l : Int) (e : List (List Int)) (next : Int → Int → List (List Int) → Option (Int × (List (List Int)))) (a f : Int) (d : List (List Int)) : Option (Int × (List (List Int))):=
 let m:=(decide (a < i))
 bif m then
  let g:=(Kd.nth (.slice (.int .i64)) e (Int.toNat a))
  gd ((0 : Int) ≤ a ∧ a < (e.length : Int)) <|
  let n:=(Kd.nth (.int .i64) g (Int.toNat b))
  gd ((0 : Int) ≤ b ∧ b < (g.length : Int)) <|
  gd ((0 : Int) ≤ a ∧ a < (d.length : Int)) <|
  let h:=(List.getD d (Int.toNat a) [])
  gd ((Int.toNat a) < d.length) <|
  gd ((0 : Int) ≤ b ∧ b < (h.length : Int)) <|
  (alloc_sharing_costs_1 K n (Int.toNat b) h f j k l e d (Int.toNat a)).bind fun (o,p)=>
  let q:=(kwrap .i64 (a + 1))
  next q o p
 else
  some (f,d)
def alloc_sharing_each_2.l1 (K : Nat) (a b d e f g : Int) (h : List (List Int)) (n : Nat) : Int → Int → List (List Int) → Option (Int × (List (List Int))):=rounds (alloc_sharing_each_2.r1 K a b d e f g h) (fun _ _ _=>none) n
def alloc_sharing_each_2.r0 (K : Nat) (b g h i : Int) (d : List (List Int)) (next : Int → Int → List (List Int) → Option (Int × (List (List Int)))) (a e : Int) (f : List (List Int)) : Option (Int × (List (List Int))):=
 let j:=(decide (a < b))
 bif j then
  (alloc_sharing_each_2.l1 K a b (d.length : Int) g h i d K 0 e f : Option (Int × (List (List Int)))).bind fun (k,l)=>
   let m:=(kwrap .i64 (a + 1))
   next m k l
 else
  some (e,f)
def alloc_sharing_each_2.l0 (K : Nat) (a b d e : Int) (f : List (List Int)) (n : Nat) : Int → Int → List (List Int) → Option (Int × (List (List Int))):=rounds (alloc_sharing_each_2.r0 K a b d e f) (fun _ _ _=>none) n
def alloc_sharing_each_2 (K : Nat) (b d e : Int) (a : List (List Int)) (f : Int) (g : List (List Int)) : Option (Int × (List (List Int))):=
 let h:=(Kd.nth (.slice (.int .i64)) a 0)
 let i:=(h.length : Int)
 gd (0 < (a.length : Int)) <|
 (alloc_sharing_each_2.l0 K i b d e a K 0 f g : Option (Int × (List (List Int)))).bind fun (j,k)=>
  some (j,k)
def alloc_sharing_costs (K : Nat) (a b d : Int) (e f : List (List Int)) : Option (Int × (List (List Int))):=
 (alloc_sharing_each_2 K a b d e 0 f).bind fun (g,h)=>
 some (g,h)
def alloc_sharing_cut.r0 (K : Nat) (b : Int) (i : List (List Int)) (next : Int → Int → Int → List (List Int) → Option (Int × Int × Int × (List (List Int)))) (d e f : Int) (g : List (List Int)) : Option (Int × Int × Int × (List (List Int))):=
 let a:=(kwrap .i64 (f + d))
 let j:=(decide (a < b))
 bif j then
  let h:=(kwrap .i64 (e - 1))
  (alloc_sharing_costs K b h a i g).bind fun (k,l)=>
  next k h a l
 else
  some (d,e,f,g)
def alloc_sharing_cut.l0 (K : Nat) (a : Int) (b : List (List Int)) (n : Nat) : Int → Int → Int → List (List Int) → Option (Int × Int × Int × (List (List Int))):=rounds (alloc_sharing_cut.r0 K a b) (fun _ _ _ _=>none) n
def alloc_sharing_cut (K : Nat) (a j b : Int) (d k : List (List Int)) : Option (Int × Int × (List (List Int))):=
 (alloc_sharing_each K a j b d k).bind fun (e,l)=>
 (alloc_sharing_costs K a e b d l).bind fun (m,n)=>
 (alloc_sharing_cut.l0 K a d K m e b n : Option (Int × Int × Int × (List (List Int)))).bind fun (o,f,g,h)=>
  let i:=(kwrap .i64 (g + o))
  bif (i == a) then
   let p:=(kwrap .i64 (f - 1))
   some (p,i,h)
  else
   some (f,g,h)
def alloc_Share_1 (_K : Nat) (b : Int) (d : Nat) (a : List Int) (_m e _n : Int) (_o f : List (List Int)) (g : Nat) : Option ((List (List Int))):=
 let h:=(kwrap .i64 (e + 2))
 let i:=(decide (b ≥ h))
 (
  bif i then
   let j:=(kwrap .i64 (b - e))
   let k:=(List.set a d (imin j 16))
   gd (d < a.length) <|
   some (List.set f g k)
  else
   some (List.set f g a) : Option ((List (List Int)))).bind fun l=>
  some l
def alloc_sharing_each_3.r1 (K : Nat) (b _p h i j k : Int) (e : List (List Int)) (next : Int → List (List Int) → Option ((List (List Int)))) (a : Int) (d : List (List Int)) : Option ((List (List Int))):=
 let l:=(decide (a < h))
 bif l then
  let f:=(Kd.nth (.slice (.int .i64)) e (Int.toNat a))
  gd ((0 : Int) ≤ a ∧ a < (e.length : Int)) <|
  let m:=(Kd.nth (.int .i64) f (Int.toNat b))
  gd ((0 : Int) ≤ b ∧ b < (f.length : Int)) <|
  gd ((0 : Int) ≤ a ∧ a < (d.length : Int)) <|
  let g:=(List.getD d (Int.toNat a) [])
  gd ((Int.toNat a) < d.length) <|
  gd ((0 : Int) ≤ b ∧ b < (g.length : Int)) <|
  (alloc_Share_1 K m (Int.toNat b) g i j k e d (Int.toNat a)).bind fun n=>
  let o:=(kwrap .i64 (a + 1))
  next o n
 else
  some d
def alloc_sharing_each_3.l1 (K : Nat) (a b d e f g : Int) (h : List (List Int)) (n : Nat) : Int → List (List Int) → Option ((List (List Int))):=rounds (alloc_sharing_each_3.r1 K a b d e f g h) (fun _ _=>none) n
def alloc_sharing_each_3.r0 (K : Nat) (b f g h : Int) (d : List (List Int)) (next : Int → List (List Int) → Option ((List (List Int)))) (a : Int) (e : List (List Int)) : Option ((List (List Int))):=
 let i:=(decide (a < b))
 bif i then
  (alloc_sharing_each_3.l1 K a b (d.length : Int) f g h d K 0 e : Option ((List (List Int)))).bind fun j=>
   let k:=(kwrap .i64 (a + 1))
   next k j
 else
  some e
def alloc_sharing_each_3.l0 (K : Nat) (a b d e : Int) (f : List (List Int)) (n : Nat) : Int → List (List Int) → Option ((List (List Int))):=rounds (alloc_sharing_each_3.r0 K a b d e f) (fun _ _=>none) n
def alloc_sharing_each_3 (K : Nat) (b d e : Int) (a f : List (List Int)) : Option ((List (List Int))):=
 let g:=(Kd.nth (.slice (.int .i64)) a 0)
 let h:=(g.length : Int)
 gd (0 < (a.length : Int)) <|
 (alloc_sharing_each_3.l0 K h b d e a K 0 f : Option ((List (List Int)))).bind fun i=>
  some i
def alloc_sharing_more_1 (_K : Nat) (j : Int) (b : Nat) (a : List Int) (k : Bool) (h l d : Int) (_G e : List (List Int)) (f : Nat) : Option (Bool × Int × (List (List Int))):=
 (
  let m:=(decide (d ≥ h))
  bif m then
   some (.inr (false,d,(List.set e f a)))
  else
   let g:=(Kd.nth (.int .i64) a b)
   let i:=(decide (g ≥ 2))
   let n:=(decide (g < 16))
   let o:=(bif i then n else false)
   gd (b < a.length ∧ (i = true → b < a.length)) <|
   bif o then
    let p:=(kwrap .i64 (g + 1))
    let q:=(List.set a b p)
    gd (b < a.length ∧ b < a.length) <|
    let s:=(kwrap .i64 (d + 1))
    some (.inl (s,(List.set e f q)))
   else
    let t:=(kwrap .i64 (l + 1))
    let u:=(bif k then (j == t) else false)
    let w:=(kwrap .i64 (d + 1))
    let y:=(decide (h > w))
    let A:=(bif u then y else false)
    bif A then
     let B:=(List.set a b 2)
     gd (b < a.length) <|
     let D:=(kwrap .i64 (d + 2))
     some (.inl (D,(List.set e f B)))
    else
     some (.inl (d,(List.set e f a))) : Option ((Int × (List (List Int))) ⊕ (Bool × Int × (List (List Int))))).bind fun z=>match z with
 | .inl (E,F)=>
  some (true,E,F)
 | .inr r=>
  some r
def alloc_sharing_each_4.r1 (K : Nat) (b _t k l m : Int) (e : List (List Int)) (n : Bool) (next : Int → Int → List (List Int) → Option ((Int × (List (List Int))) ⊕ (Int × (List (List Int))))) (a f : Int) (d : List (List Int)) : Option ((Int × (List (List Int))) ⊕ (Int × (List (List Int)))):=
 let o:=(decide (a < k))
 bif o then
  let g:=(Kd.nth (.slice (.int .i64)) e (Int.toNat a))
  gd ((0 : Int) ≤ a ∧ a < (e.length : Int)) <|
  let p:=(Kd.nth (.int .i64) g (Int.toNat b))
  gd ((0 : Int) ≤ b ∧ b < (g.length : Int)) <|
  gd ((0 : Int) ≤ a ∧ a < (d.length : Int)) <|
  let h:=(List.getD d (Int.toNat a) [])
  gd ((Int.toNat a) < d.length) <|
  gd ((0 : Int) ≤ b ∧ b < (h.length : Int)) <|
  (alloc_sharing_more_1 K p (Int.toNat b) h n l m f e d (Int.toNat a)).bind fun (q,i,j)=>
  bif (!q) then
   some (.inr (i,j))
  else
   let s:=(kwrap .i64 (a + 1))
   next s i j
 else
  some (.inl (f,d))
def alloc_sharing_each_4.l1 (K : Nat) (a b d e f : Int) (g : List (List Int)) (h : Bool) (n : Nat) : Int → Int → List (List Int) → Option ((Int × (List (List Int))) ⊕ (Int × (List (List Int)))):=rounds (alloc_sharing_each_4.r1 K a b d e f g h) (fun _ _ _=>none) n
def alloc_sharing_each_4.r0 (K : Nat) (b g h : Int) (d : List (List Int)) (i : Bool) (next : Int → Int → List (List Int) → Option ((Int × (List (List Int))) ⊕ (Int × (List (List Int))))) (a e : Int) (f : List (List Int)) : Option ((Int × (List (List Int))) ⊕ (Int × (List (List Int)))):=
 let j:=(decide (a < b))
 bif j then
  (alloc_sharing_each_4.l1 K a b (d.length : Int) g h d i K 0 e f : Option ((Int × (List (List Int))) ⊕ (Int × (List (List Int))))).bind fun z=>match z with
  | .inl (k,l)=>
   let m:=(kwrap .i64 (a + 1))
   next m k l
  | .inr r=>
   some (.inr r)
 else
  some (.inl (e,f))
def alloc_sharing_each_4.l0 (K : Nat) (a b d : Int) (e : List (List Int)) (f : Bool) (n : Nat) : Int → Int → List (List Int) → Option ((Int × (List (List Int))) ⊕ (Int × (List (List Int)))):=rounds (alloc_sharing_each_4.r0 K a b d e f) (fun _ _ _=>none) n
def alloc_sharing_each_4 (K : Nat) (b d e : Int) (a : List (List Int)) (f : Bool) (g : List (List Int)) : Option (Int × (List (List Int))):=
 let h:=(Kd.nth (.slice (.int .i64)) a 0)
 let i:=(h.length : Int)
 gd (0 < (a.length : Int)) <|
 (alloc_sharing_each_4.l0 K i b d a f K 0 e g : Option ((Int × (List (List Int))) ⊕ (Int × (List (List Int))))).bind fun z=>match z with
 | .inl (j,k)=>
  some (j,k)
 | .inr r=>
  some r
def alloc_sharing_more (K : Nat) (a : Bool) (b d e : Int) (f g : List (List Int)) : Option (Int × (List (List Int))):=
 (alloc_sharing_each_4 K b d e f a g).bind fun (h,i)=>
 some (h,i)
def alloc_Share.r0 (_K : Nat) (e _j _k _l b _m _n _o _p _q _s : Int) (_t : List (List Int)) (next : Int → List (List Int) → Option ((List (List Int)))) (a : Int) (d : List (List Int)) : Option ((List (List Int))):=
 let f:=(decide (a < e))
 bif f then
  let g:=(List.replicate (Int.toNat b) (0 : Int))
  gd ((0 : Int) ≤ b ∧ b ≤ b ∧ b * 8 ≤ 140737488355328) <|
  gd ((0 : Int) ≤ a ∧ a < (d.length : Int)) <|
  let h:=(List.set d (Int.toNat a) g)
  gd ((Int.toNat a) < d.length) <|
  let i:=(kwrap .i64 (a + 1))
  next i h
 else
  some d
def alloc_Share.l0 (K : Nat) (a b d e f g h i j k l : Int) (m : List (List Int)) (n : Nat) : Int → List (List Int) → Option ((List (List Int))):=rounds (alloc_Share.r0 K a b d e f g h i j k l m) (fun _ _=>none) n
def alloc_Share (K : Nat) (f g a h i j k b l m : Int) (q : List (List Int)) : Option ((List (List Int)) × Int):=
 (alloc_Needs K f g a h i j k b l m q).bind fun (d,n)=>
 bif (n != 0) then
  some (([] : List (List Int)),n)
 else
  let o:=(List.replicate (Int.toNat a) ([] : List Int))
  gd ((0 : Int) ≤ a ∧ a ≤ a ∧ a * 24 ≤ 140737488355328) <|
  let s:=(o.length : Int)
  (alloc_Share.l0 K s f g a h i j k b l m d K 0 o : Option ((List (List Int)))).bind fun t=>
   (alloc_sharing_cut K b (-99) 0 d t).bind fun (e,p,u)=>
   (alloc_sharing_each_3 K b e p d u).bind fun w=>
   (alloc_sharing_more K true b e p d w).bind fun (y,z)=>
   (alloc_sharing_more K false b e y d z).bind fun (_B,A)=>
   some (A,0)
def subband_Params_share_2 (_K : Nat) (a _f _g _h _i _j _k b _l _m _n : Int) : Option (Bool):=
 let d:=(bif (b == 1) then (a == 1) else false)
 let e:=(bif (a == 0) then true else d)
 some e
def subband_shaped_int_1 (K : Nat) (a b d e f g h i j k l : Int) : Option (Bool):=
 (subband_Params_share_2 K a b d e f g h i j k l).bind fun m=>
 some (!m)
def slices_IndexFunc_int_int.r0 (K : Nat) (b : List Int) (d e f g h i j k l m n : Int) (next : Int → Option ((Unit) ⊕ (Int))) (a : Int) : Option ((Unit) ⊕ (Int)):=
 let o:=(decide (a < d))
 bif o then
  let p:=(Kd.nth (.int .i64) b (Int.toNat a))
  gd ((0 : Int) ≤ a ∧ a < (b.length : Int)) <|
  (subband_shaped_int_1 K p e f g h i j k l m n).bind fun q=>
  bif q then
   some (.inr a)
  else
   let s:=(kwrap .i64 (a + 1))
   next s
 else
  some (.inl ())
def slices_IndexFunc_int_int.l0 (K : Nat) (a : List Int) (b d e f g h i j k l m : Int) (n : Nat) : Int → Option ((Unit) ⊕ (Int)):=rounds (slices_IndexFunc_int_int.r0 K a b d e f g h i j k l m) (fun _=>none) n
def slices_IndexFunc_int_int (K : Nat) (a : List Int) (b d e f g h i j k l : Int) : Option (Int):=
 (slices_IndexFunc_int_int.l0 K a (a.length : Int) b d e f g h i j k l K 0 : Option ((Unit) ⊕ (Int))).bind fun z=>match z with
 | .inl _=>
  some (-1)
 | .inr r=>
  some r
def slices_ContainsFunc_int_int (K : Nat) (a : List Int) (b d e f g h i j k l : Int) : Option (Bool):=
 (slices_IndexFunc_int_int K a b d e f g h i j k l).bind fun m=>
 let n:=(decide (m ≥ 0))
 some n
def subband_shaped_int (K : Nat) (a : List Int) (b d e f g h i j k l m : Int) : Option (Bool):=
 (
  let n:=((a.length : Int) == b)
  bif n then
   (slices_ContainsFunc_int_int K a d e f g h i j k l m).bind fun o=>
   some (!o)
  else
   some false : Option (Bool)).bind fun p=>
  some p
def subband_Params_share_1 (_K : Nat) (a : Int) : Option (Bool):=
 some (a == 0)
def subband_Params_share_3 (_K : Nat) (a : List (List Int)) (_e _f b _g _h _i _j _k _l _m : Int) : Option (Bool):=
 let d:=((a.length : Int) == b)
 some d
def subband_shaped_int_1_2 (K : Nat) (a : List (List Int)) (b d e f g h i j k l : Int) : Option (Bool):=
 (subband_Params_share_3 K a b d e f g h i j k l).bind fun m=>
 some (!m)
def slices_IndexFunc_int_int_2.r0 (K : Nat) (b : List (List (List Int))) (d e f g h i j k l m n : Int) (next : Int → Option ((Unit) ⊕ (Int))) (a : Int) : Option ((Unit) ⊕ (Int)):=
 let o:=(decide (a < d))
 bif o then
  let p:=(Kd.nth (.slice (.slice (.int .i64))) b (Int.toNat a))
  gd ((0 : Int) ≤ a ∧ a < (b.length : Int)) <|
  (subband_shaped_int_1_2 K p e f g h i j k l m n).bind fun q=>
  bif q then
   some (.inr a)
  else
   let s:=(kwrap .i64 (a + 1))
   next s
 else
  some (.inl ())
def slices_IndexFunc_int_int_2.l0 (K : Nat) (a : List (List (List Int))) (b d e f g h i j k l m : Int) (n : Nat) : Int → Option ((Unit) ⊕ (Int)):=rounds (slices_IndexFunc_int_int_2.r0 K a b d e f g h i j k l m) (fun _=>none) n
def slices_IndexFunc_int_int_2 (K : Nat) (a : List (List (List Int))) (b d e f g h i j k l : Int) : Option (Int):=
 (slices_IndexFunc_int_int_2.l0 K a (a.length : Int) b d e f g h i j k l K 0 : Option ((Unit) ⊕ (Int))).bind fun z=>match z with
 | .inl _=>
  some (-1)
 | .inr r=>
  some r
def slices_ContainsFunc_int_int_2 (K : Nat) (a : List (List (List Int))) (b d e f g h i j k l : Int) : Option (Bool):=
 (slices_IndexFunc_int_int_2 K a b d e f g h i j k l).bind fun m=>
 let n:=(decide (m ≥ 0))
 some n
def subband_shaped_int_2 (K : Nat) (a : List (List (List Int))) (b d e f g h i j k l m : Int) : Option (Bool):=
 (
  let n:=((a.length : Int) == b)
  bif n then
   (slices_ContainsFunc_int_int_2 K a d e f g h i j k l m).bind fun o=>
   some (!o)
  else
   some false : Option (Bool)).bind fun p=>
  some p
def quant_may (_K : Nat) (b a : Int) : Option (Bool):=
 let d:=(decide (b ≥ 0))
 let e:=(decide (b ≤ 15))
 let f:=(bif d then e else false)
 let g:=(decide (a ≥ 2))
 let h:=(decide (a ≤ 16))
 let i:=(bif g then h else false)
 let j:=(bif (a == 0) then true else i)
 let k:=(bif f then j else false)
 some k
def quant_Level (K : Nat) (b d a : Int) : Option (Int × Int):=
 (quant_may K d a).bind fun e=>
 (
  bif (!e) then
   some (!e)
  else
   let f:=(decide (b < 0))
   bif f then
    some f
   else
    let g:=(bif (a == 0) then (b != 0) else false)
    bif g then
     some g
    else
     let h:=(decide (a > 0))
     let k:=(kshl .i64 1 a)
     let l:=(kwrap .i64 (k - 1))
     let m:=(decide (b ≥ l))
     let n:=(bif h then m else false)
     gd ((h = true → (0 : Int) ≤ a)) <|
     some n : Option (Bool)).bind fun o=>
  bif o then
   some (0,1)
  else
   bif (a == 0) then
    some (0,0)
   else
    let i:=(kshl .i64 2 d)
    gd ((0 : Int) ≤ d) <|
    let p:=(kshl .i64 1 a)
    gd ((0 : Int) ≤ a) <|
    let j:=(kwrap .i64 (p - 1))
    let q:=(kwrap .i64 (2 * b))
    let s:=(kwrap .i64 (q + 1))
    let t:=(kwrap .i64 (s * i))
    let u:=(kwrap .i64 (Int.tdiv t j))
    let w:=(kwrap .i64 (u - i))
    let y:=(kwrap .i32 w)
    gd (j ≠ 0) <|
    some (y,0)
def subband_Params_share.r2 (K : Nat) (d e : List (List Int)) (b : Int) (_t : List (List (List Int))) (_u _w : Int) (_y : List Int) (f : List (List Int)) (_z _A _B k _D _E _F _G _H _I : Int) (next : Bool → Int → Option (Bool)) (g : Bool) (a : Int) : Option (Bool):=
 let l:=(decide (a < k))
 let m:=(bif g then l else false)
 bif m then
  let h:=(Kd.nth (.slice (.int .i64)) e (Int.toNat b))
  gd ((0 : Int) ≤ b ∧ b < (e.length : Int)) <|
  let n:=(Kd.nth (.int .i64) h (Int.toNat a))
  gd ((0 : Int) ≤ a ∧ a < (h.length : Int)) <|
  let i:=(Kd.nth (.slice (.int .i64)) f (Int.toNat b))
  gd ((0 : Int) ≤ b ∧ b < (f.length : Int)) <|
  let o:=(Kd.nth (.int .i64) i (Int.toNat a))
  gd ((0 : Int) ≤ a ∧ a < (i.length : Int)) <|
  let j:=(Kd.nth (.slice (.int .i64)) d (Int.toNat b))
  gd ((0 : Int) ≤ b ∧ b < (d.length : Int)) <|
  let p:=(Kd.nth (.int .i64) j (Int.toNat a))
  gd ((0 : Int) ≤ a ∧ a < (j.length : Int)) <|
  (quant_Level K n o p).bind fun (_J,q)=>
  let s:=(kwrap .i64 (a + 1))
  next (q == 0) s
 else
  some g
def subband_Params_share.l2 (K : Nat) (a b : List (List Int)) (d : Int) (e : List (List (List Int))) (f g : Int) (h : List Int) (i : List (List Int)) (j k l m o p q s t u : Int) (n : Nat) : Bool → Int → Option (Bool):=rounds (subband_Params_share.r2 K a b d e f g h i j k l m o p q s t u) (fun _ _=>none) n
def subband_Params_share.r1 (K : Nat) (g b : List (List Int)) (h : List (List (List Int))) (i j : Int) (k : List Int) (l : List (List Int)) (m n d e o p q s t u : Int) (next : Bool → Int → Option (Bool)) (f : Bool) (a : Int) : Option (Bool):=
 let w:=(decide (a < d))
 let y:=(bif f then w else false)
 bif y then
  let z:=(Kd.nth (.slice (.int .i64)) b (Int.toNat a))
  gd ((0 : Int) ≤ a ∧ a < (b.length : Int)) <|
  let A:=(z.length : Int)
  (subband_Params_share.l2 K g b a h i j k l m n d e o p q s t u K (A == e) 0 : Option (Bool)).bind fun B=>
   let D:=(kwrap .i64 (a + 1))
   next B D
 else
  some f
def subband_Params_share.l1 (K : Nat) (a b : List (List Int)) (d : List (List (List Int))) (e f : Int) (g : List Int) (h : List (List Int)) (i j k l m o p q s t : Int) (n : Nat) : Bool → Int → Option (Bool):=rounds (subband_Params_share.r1 K a b d e f g h i j k l m o p q s t) (fun _ _=>none) n
def subband_Params_share.r0 (K : Nat) (f : List (List Int)) (b : List (List (List Int))) (d : Int) (g : List Int) (h : List (List Int)) (i j k l m n o p q s : Int) (next : Bool → Int → Option (Bool)) (e : Bool) (a : Int) : Option (Bool):=
 let t:=(decide (a < d))
 bif t then
  let u:=(Kd.nth (.slice (.slice (.int .i64))) b (Int.toNat a))
  gd ((0 : Int) ≤ a ∧ a < (b.length : Int)) <|
  (subband_Params_share.l1 K f u b d a g h i j k l m n o p q s K e 0 : Option (Bool)).bind fun w=>
   let y:=(kwrap .i64 (a + 1))
   next w y
 else
  some e
def subband_Params_share.l0 (K : Nat) (a : List (List Int)) (b : List (List (List Int))) (d : Int) (e : List Int) (f : List (List Int)) (g h i j k l m o p q : Int) (n : Nat) : Bool → Int → Option (Bool):=rounds (subband_Params_share.r0 K a b d e f g h i j k l m o p q) (fun _ _=>none) n
def subband_Params_share (K : Nat) (d e f a b g h i j k : Int) (l : List Int) (p : List (List Int)) (m : List (List (List Int))) : Option ((List (List Int)) × Bool):=
 (
  (subband_shaped_int K l a d e f a b g h i j k).bind fun n=>
  bif (!n) then
   let s:=(bif (!n) then true else false)
   some s
  else
   let o:=(kwrap .i64 (a - 1))
   let t:=(Kd.nth (.int .i64) l (Int.toNat o))
   gd ((0 : Int) ≤ o ∧ o < (l.length : Int)) <|
   (subband_Params_share_1 K t).bind fun u=>
   let w:=(bif (!n) then true else (!u))
   some w : Option (Bool)).bind fun y=>
  bif y then
   some (([] : List (List Int)),false)
  else
   (alloc_Share K d e f a b g h i j k p).bind fun (q,z)=>
   bif (z != 0) then
    some (([] : List (List Int)),false)
   else
    (subband_shaped_int_2 K m b d e f a b g h i j k).bind fun A=>
    (subband_Params_share.l0 K q m (m.length : Int) l p d e f a b g h i j k K A 0 : Option (Bool)).bind fun B=>
     some (q,B)
def bits_New (_K : Nat) (a : Int) : Option ((Int) ⊕ ((List Int))):=
 let b:=(decide (a < 0))
 bif b then
  some (.inl 1)
 else
  let d:=(decide (a > 512))
  bif d then
   some (.inl 2)
  else
   let e:=(List.replicate (Int.toNat a) (0 : Int))
   gd ((0 : Int) ≤ a ∧ a ≤ a ∧ a * 1 ≤ 140737488355328) <|
   some (.inr e)
def bits_Pad_write (_K : Nat) (_a _b : Int) : Option (Unit):=
 some ()
def bits_Pad_Front (K : Nat) (a b : Int) : Option (Unit):=
 (bits_Pad_write K a b).bind fun _=>
 some ()
def subband_put.r0 (K : Nat) (d : List ((Int × Int))) (f : Int) (next : Int → Int → Option (Int)) (e a : Int) : Option (Int):=
 let g:=(decide (a < f))
 bif g then
  let b:=(Kd.nth (.pair (.int .i64) (.int .i64)) d (Int.toNat a))
  gd ((0 : Int) ≤ a ∧ a < (d.length : Int)) <|
  let h:=(kwrap .u32 b.1)
  (bits_Pad_Front K h b.2).bind fun _=>
  let i:=(kwrap .i64 (e + b.2))
  let j:=(kwrap .i64 (a + 1))
  next i j
 else
  some e
def subband_put.l0 (K : Nat) (a : List ((Int × Int))) (b : Int) (n : Nat) : Int → Int → Option (Int):=rounds (subband_put.r0 K a b) (fun _ _=>none) n
def subband_put (K : Nat) (a : List ((Int × Int))) : Option (Int):=
 (subband_put.l0 K a (a.length : Int) K 0 0 : Option (Int)).bind fun b=>
  some b
def subband_head (_K : Nat) (_p a b d e f g h _q _s : Int) : Option ((List ((Int × Int)))):=
 (
  bif (b == 2) then
   let i:=(kwrap .i64 (2 + g))
   some i
  else
   some 0 : Option (Int)).bind fun j=>
  let k:=(kwrap .i64 (Int.tdiv e 4))
  let l:=(kwrap .i64 (k - 1))
  let m:=(kwrap .i64 (Int.tdiv d 4))
  let n:=(kwrap .i64 (m - 1))
  let o:=[(a,2),(l,2),(j,2),(f,1),(n,1),(h,8)]
  some o
def subband_Params_side.r1 (_K : Nat) (_j : List (List Int)) (_k _l : Int) (d : List Int) (f : Int) (_m : List Int) (_n : List (List (List Int))) (next : Int → List ((Int × Int)) → Option ((List ((Int × Int))))) (a : Int) (b : List ((Int × Int))) : Option ((List ((Int × Int)))):=
 let g:=(decide (a < f))
 bif g then
  let e:=(Kd.nth (.int .i64) d (Int.toNat a))
  gd ((0 : Int) ≤ a ∧ a < (d.length : Int)) <|
  let h:=(b ++ [(e,4)])
  gd (((b.length : Int) + ([(e,4)].length : Int)) * 16 ≤ 70368744177664) <|
  let i:=(kwrap .i64 (a + 1))
  next i h
 else
  some b
def subband_Params_side.l1 (K : Nat) (a : List (List Int)) (b d : Int) (e : List Int) (f : Int) (g : List Int) (h : List (List (List Int))) (n : Nat) : Int → List ((Int × Int)) → Option ((List ((Int × Int)))):=rounds (subband_Params_side.r1 K a b d e f g h) (fun _ _=>none) n
def subband_Params_side.r0 (K : Nat) (b : List (List Int)) (d : Int) (g : List Int) (h : List (List (List Int))) (next : Int → List ((Int × Int)) → Option ((List ((Int × Int))))) (a : Int) (e : List ((Int × Int))) : Option ((List ((Int × Int)))):=
 let i:=(decide (a < d))
 bif i then
  let f:=(Kd.nth (.slice (.int .i64)) b (Int.toNat a))
  gd ((0 : Int) ≤ a ∧ a < (b.length : Int)) <|
  let j:=(f.length : Int)
  (subband_Params_side.l1 K b d a f j g h K 0 e : Option ((List ((Int × Int))))).bind fun k=>
   let l:=(kwrap .i64 (a + 1))
   next l k
 else
  some e
def subband_Params_side.l0 (K : Nat) (a : List (List Int)) (b : Int) (d : List Int) (e : List (List (List Int))) (n : Nat) : Int → List ((Int × Int)) → Option ((List ((Int × Int)))):=rounds (subband_Params_side.r0 K a b d e) (fun _ _=>none) n
def subband_Params_side.r2 (_K : Nat) (d : List Int) (f : Int) (_j : List (List Int)) (_k : List (List (List Int))) (next : Int → List ((Int × Int)) → Option ((List ((Int × Int))))) (a : Int) (b : List ((Int × Int))) : Option ((List ((Int × Int)))):=
 let g:=(decide (a < f))
 bif g then
  let e:=(Kd.nth (.int .i64) d (Int.toNat a))
  gd ((0 : Int) ≤ a ∧ a < (d.length : Int)) <|
  let h:=(b ++ [(e,1)])
  gd (((b.length : Int) + ([(e,1)].length : Int)) * 16 ≤ 70368744177664) <|
  let i:=(kwrap .i64 (a + 1))
  next i h
 else
  some b
def subband_Params_side.l2 (K : Nat) (a : List Int) (b : Int) (d : List (List Int)) (e : List (List (List Int))) (n : Nat) : Int → List ((Int × Int)) → Option ((List ((Int × Int)))):=rounds (subband_Params_side.r2 K a b d e) (fun _ _=>none) n
def subband_Params_side (K : Nat) (_i _j _k _l _m _n e _o _p _q : Int) (a : List Int) (b : List (List Int)) (d : List (List (List Int))) : Option ((List ((Int × Int)))):=
 (
  bif (e == 1) then
   (subband_Params_side.l2 K a (a.length : Int) b d K 0 ([] : List ((Int × Int))) : Option ((List ((Int × Int))))).bind fun f=>
    some f
  else
   some (([] : List ((Int × Int)))) : Option ((List ((Int × Int))))).bind fun g=>
  (subband_Params_side.l0 K b (b.length : Int) a d K 0 g : Option ((List ((Int × Int))))).bind fun h=>
   some h
def bits_Pad_Bytes (_K : Nat)  : Option ((List Int)):=
 some ([] : List Int)
def check_of (_K : Nat) (a : Int) : Option (Int × Int × Int × Int):=
 bif (a == 8) then
  some (8,15,29,0)
 else
  bif (a == 16) then
   some (16,65535,4129,0)
  else
   bif (a == 24) then
    some (24,5592405,1627,0)
   else
    some (0,0,0,1)
def check_kind_next (_K : Nat) (a _n f b g : Int) : Option (Int):=
 let d:=(kwrap .i64 (a - 1))
 let h:=(kshr .u32 b d)
 gd ((0 : Int) ≤ d) <|
 let i:=(kshl .u32 b 1)
 let j:=(kshl .u32 1 a)
 let k:=(kwrap .u32 (j - 1))
 let e:=(kand .u32 i k)
 gd ((0 : Int) ≤ a) <|
 (
  bif (h != g) then
   let l:=(kxor .u32 e f)
   some l
  else
   some e : Option (Int)).bind fun m=>
  some m
def check_kind_sum.r0 (K : Nat) (d : List Int) (g h i j : Int) (next : Int → Int → Option (Int)) (e a : Int) : Option (Int):=
 let k:=(decide (a < g))
 bif k then
  let b:=(kwrap .i64 (Int.tdiv a 8))
  let l:=(Kd.nth (.int .u8) d (Int.toNat b))
  gd ((0 : Int) ≤ b ∧ b < (d.length : Int)) <|
  let m:=(kwrap .u32 l)
  let n:=(Int.tmod a 8)
  let f:=(kwrap .i64 (7 - n))
  let o:=(kshr .u32 m f)
  gd ((0 : Int) ≤ f) <|
  let p:=(kand .u32 o 1)
  (check_kind_next K h i j e p).bind fun q=>
  let s:=(kwrap .i64 (a + 1))
  next q s
 else
  some e
def check_kind_sum.l0 (K : Nat) (a : List Int) (b d e f : Int) (n : Nat) : Int → Int → Option (Int):=rounds (check_kind_sum.r0 K a b d e f) (fun _ _=>none) n
def check_kind_sum (K : Nat) (b a d : Int) (e : List Int) (f : Int) : Option (Int):=
 (check_kind_sum.l0 K e f b a d K a 0 : Option (Int)).bind fun g=>
  some g
def check_Bits (K : Nat) (d : Int) (b : List Int) (a : Int) : Option (Int × Int):=
 (check_of K d).bind fun (e,f,g,h)=>
 let i:=(decide (a < 0))
 let j:=(bif (h != 0) then true else i)
 let k:=(kwrap .i64 (8 * (b.length : Int)))
 let l:=(decide (a > k))
 let m:=(bif j then true else l)
 bif m then
  some (0,1)
 else
  (check_kind_sum K e f g b a).bind fun n=>
  some (n,0)
def bits_ends_left (_K : Nat) (a b d : Int) (_h : List Int) : Option (Int):=
 let e:=(kwrap .i64 (8 * a))
 let f:=(kwrap .i64 (e - b))
 let g:=(kwrap .i64 (f - d))
 some g
def bits_ends_may (K : Nat) (a b d e : Int) (f : List Int) : Option (Int):=
 let g:=(decide (a < 0))
 let h:=(decide (a > 32))
 let i:=(bif g then true else h)
 bif i then
  some 1
 else
  (bits_ends_left K b d e f).bind fun j=>
  let k:=(decide (a > j))
  bif k then
   some 50
  else
   some 0
def bits_Pad_write_2 (K : Nat) (e a f g : Int) (b : List Int) : Option (Int):=
 let h:=(decide (a ≥ 0))
 let i:=(decide (a < 32))
 let d:=(bif h then i else false)
 let j:=(kshr .u32 e a)
 let k:=(bif d then (j != 0) else false)
 gd ((d = true → (0 : Int) ≤ a)) <|
 bif k then
  some 1
 else
  (bits_ends_may K a (b.length : Int) f g b).bind fun l=>
  some l
def bits_ends_ahead (_K : Nat) (a _g : Int) (_h : List Int) : Option (Int × Int × Int):=
 let d:=(kwrap .i64 (a + 1))
 let e:=(kwrap .i64 (Int.tdiv a 8))
 let b:=(Int.tmod a 8)
 let f:=(kshr .u8 128 b)
 gd ((0 : Int) ≤ b) <|
 some (e,f,d)
def bits_Pad_Front_2.r0 (K : Nat) (g h : Int) (next : Int → Int → List Int → Option (Int × (List Int))) (d e : Int) (a : List Int) : Option (Int × (List Int)):=
 let i:=(decide (d ≥ 0))
 bif i then
  (
   (bits_ends_ahead K e h a).bind fun (b,j,f)=>
   let k:=(kshr .u32 g d)
   let l:=(kand .u32 k 1)
   gd ((0 : Int) ≤ d) <|
   bif (l == 1) then
    let m:=(Kd.nth (.int .u8) a (Int.toNat b))
    let n:=(kor .u8 m j)
    let o:=(List.set a (Int.toNat b) n)
    gd ((0 : Int) ≤ b ∧ b < (a.length : Int) ∧ (Int.toNat b) < a.length ∧ (0 : Int) ≤ b ∧ b < (a.length : Int) ∧ (Int.toNat b) < a.length) <|
    some (f,o)
   else
    some (f,a) : Option (Int × (List Int))).bind fun (p,q)=>
   let s:=(kwrap .i64 (d - 1))
   next s p q
 else
  some (e,a)
def bits_Pad_Front_2.l0 (K : Nat) (a b : Int) (n : Nat) : Int → Int → List Int → Option (Int × (List Int)):=rounds (bits_Pad_Front_2.r0 K a b) (fun _ _ _=>none) n
def bits_Pad_Front_2 (K : Nat) (d e a f : Int) (b : List Int) : Option (Int × Int × (List Int)):=
 (bits_Pad_write_2 K d e a f b).bind fun g=>
 bif (g != 0) then
  some (g,a,b)
 else
  let h:=(kwrap .i64 (e - 1))
  (bits_Pad_Front_2.l0 K d f K h a b : Option (Int × (List Int))).bind fun (i,j)=>
   some (0,i,j)
def subband_put_2.r0 (K : Nat) (d : List ((Int × Int))) (h i : Int) (next : Int → Int → Int → List Int → Option (Int × Int × (List Int))) (e a f : Int) (g : List Int) : Option (Int × Int × (List Int)):=
 let j:=(decide (a < h))
 bif j then
  let b:=(Kd.nth (.pair (.int .i64) (.int .i64)) d (Int.toNat a))
  gd ((0 : Int) ≤ a ∧ a < (d.length : Int)) <|
  let k:=(kwrap .u32 b.1)
  (bits_Pad_Front_2 K k b.2 f i g).bind fun (_p,l,m)=>
  let n:=(kwrap .i64 (e + b.2))
  let o:=(kwrap .i64 (a + 1))
  next n o l m
 else
  some (e,f,g)
def subband_put_2.l0 (K : Nat) (a : List ((Int × Int))) (b d : Int) (n : Nat) : Int → Int → Int → List Int → Option (Int × Int × (List Int)):=rounds (subband_put_2.r0 K a b d) (fun _ _ _ _=>none) n
def subband_put_2 (K : Nat) (a : List ((Int × Int))) (b d : Int) (e : List Int) : Option (Int × Int × (List Int)):=
 (subband_put_2.l0 K a (a.length : Int) d K 0 0 b e : Option (Int × Int × (List Int))).bind fun (f,g,h)=>
  some (f,g,h)
def bytes_Clone_2 (_K : Nat) (a : List Int) : Option ((List Int)):=
 gd (a ≠ []) <|
 let b:=(([] : List Int) ++ a)
 gd (((([] : List Int).length : Int) + (a.length : Int)) * 1 ≤ 70368744177664) <|
 some b
def bits_Pad_Bytes_2 (K : Nat) (_d _e : Int) (a : List Int) : Option ((List Int)):=
 (bytes_Clone_2 K a).bind fun b=>
 some b
def subband_Params_sum (K : Nat) (a b d e f g h i j k : Int) (l : List Int) (m : List (List Int)) (n : List (List (List Int))) : Option (Int):=
 (bits_New K 512).bind fun z=>match z with
 | .inl _N=>
  (subband_head K a b d e f g h i j k).bind fun o=>
  (subband_put K o).bind fun p=>
  (subband_Params_side K a b d e f g h i j k l m n).bind fun q=>
  (subband_put K q).bind fun s=>
  let t:=(kwrap .i64 (p + s))
  (bits_Pad_Bytes K ).bind fun u=>
  (check_Bits K 8 u t).bind fun (w,_O)=>
  some (kwrap .i64 w)
 | .inr y=>
  (subband_head K a b d e f g h i j k).bind fun A=>
  (subband_put_2 K A 0 0 y).bind fun (B,D,E)=>
  (subband_Params_side K a b d e f g h i j k l m n).bind fun F=>
  (subband_put_2 K F D 0 E).bind fun (G,H,I)=>
  let J:=(kwrap .i64 (B + G))
  (bits_Pad_Bytes_2 K H 0 I).bind fun L=>
  (check_Bits K 8 L J).bind fun (M,_P)=>
  some (kwrap .i64 M)
def subband_Params_codes.r2 (_K : Nat) (e : List (List Int)) (b : Int) (_o : List (List (List Int))) (_p _q : Int) (_s : List (List Int)) (_t : Int) (f : List Int) (i : Int) (_u : List Int) (_w : List (List Int)) (next : Int → List ((Int × Int)) → Option ((List ((Int × Int))))) (a : Int) (d : List ((Int × Int))) : Option ((List ((Int × Int)))):=
 let j:=(decide (a < i))
 bif j then
  let k:=(Kd.nth (.int .i64) f (Int.toNat a))
  gd ((0 : Int) ≤ a ∧ a < (f.length : Int)) <|
  let g:=(Kd.nth (.slice (.int .i64)) e (Int.toNat b))
  let l:=(Kd.nth (.int .i64) g (Int.toNat a))
  let h:=[(k,l)]
  let m:=(d ++ h)
  gd ((0 : Int) ≤ b ∧ b < (e.length : Int) ∧ (0 : Int) ≤ a ∧ a < (g.length : Int) ∧ ((d.length : Int) + (h.length : Int)) * 16 ≤ 70368744177664) <|
  let n:=(kwrap .i64 (a + 1))
  next n m
 else
  some d
def subband_Params_codes.l2 (K : Nat) (a : List (List Int)) (b : Int) (d : List (List (List Int))) (e f : Int) (g : List (List Int)) (h : Int) (i : List Int) (j : Int) (k : List Int) (l : List (List Int)) (n : Nat) : Int → List ((Int × Int)) → Option ((List ((Int × Int)))):=rounds (subband_Params_codes.r2 K a b d e f g h i j k l) (fun _ _=>none) n
def subband_Params_codes.r1 (K : Nat) (g : List (List Int)) (h : List (List (List Int))) (i j : Int) (b : List (List Int)) (d : Int) (k : List Int) (l : List (List Int)) (next : Int → List ((Int × Int)) → Option ((List ((Int × Int))))) (a : Int) (e : List ((Int × Int))) : Option ((List ((Int × Int)))):=
 let m:=(decide (a < d))
 bif m then
  let f:=(Kd.nth (.slice (.int .i64)) b (Int.toNat a))
  gd ((0 : Int) ≤ a ∧ a < (b.length : Int)) <|
  let n:=(f.length : Int)
  (subband_Params_codes.l2 K g a h i j b d f n k l K 0 e : Option ((List ((Int × Int))))).bind fun o=>
   let p:=(kwrap .i64 (a + 1))
   next p o
 else
  some e
def subband_Params_codes.l1 (K : Nat) (a : List (List Int)) (b : List (List (List Int))) (d e : Int) (f : List (List Int)) (g : Int) (h : List Int) (i : List (List Int)) (n : Nat) : Int → List ((Int × Int)) → Option ((List ((Int × Int)))):=rounds (subband_Params_codes.r1 K a b d e f g h i) (fun _ _=>none) n
def subband_Params_codes.r0 (K : Nat) (g : List (List Int)) (b : List (List (List Int))) (d : Int) (h : List Int) (i : List (List Int)) (next : Int → List ((Int × Int)) → Option ((List ((Int × Int))))) (a : Int) (e : List ((Int × Int))) : Option ((List ((Int × Int)))):=
 let j:=(decide (a < d))
 bif j then
  let f:=(Kd.nth (.slice (.slice (.int .i64))) b (Int.toNat a))
  gd ((0 : Int) ≤ a ∧ a < (b.length : Int)) <|
  let k:=(f.length : Int)
  (subband_Params_codes.l1 K g b d a f k h i K 0 e : Option ((List ((Int × Int))))).bind fun l=>
   let m:=(kwrap .i64 (a + 1))
   next m l
 else
  some e
def subband_Params_codes.l0 (K : Nat) (a : List (List Int)) (b : List (List (List Int))) (d : Int) (e : List Int) (f : List (List Int)) (n : Nat) : Int → List ((Int × Int)) → Option ((List ((Int × Int)))):=rounds (subband_Params_codes.r0 K a b d e f) (fun _ _=>none) n
def subband_Params_codes (K : Nat) (b : List (List Int)) (d : List Int) (e : List (List Int)) (a : List (List (List Int))) : Option ((List ((Int × Int)))):=
 (subband_Params_codes.l0 K b a (a.length : Int) d e K 0 ([] : List ((Int × Int))) : Option ((List ((Int × Int))))).bind fun f=>
  some f
def subband_Pack (K : Nat) (a b d e f g h i j k : Int) (l : List Int) (m : List (List Int)) (n : List (List (List Int))) : Option ((List Int) × Int):=
 (subband_may K a b d e f g h i j k).bind fun o=>
 bif (o != 0) then
  some (([] : List Int),o)
 else
  (subband_Params_share K a b d e f g h i j k l m n).bind fun (p,q)=>
  bif (!q) then
   some (([] : List Int),1)
  else
   (format_Payload K a b d e f g h i j k).bind fun s=>
   (bits_New K s).bind fun z=>match z with
   | .inl _T=>
    (subband_put K [(156,8)]).bind fun _U=>
    (subband_head K a b d e f g h i j k).bind fun t=>
    (subband_put K t).bind fun _V=>
    (subband_Params_sum K a b d e f g h i j k l m n).bind fun u=>
    (subband_put K [(u,8)]).bind fun _W=>
    (subband_Params_side K a b d e f g h i j k l m n).bind fun w=>
    (subband_put K w).bind fun _X=>
    (subband_Params_codes K p l m n).bind fun y=>
    (subband_put K y).bind fun _Y=>
    (bits_Pad_Bytes K ).bind fun A=>
    some (A,0)
   | .inr B=>
    (subband_put_2 K [(156,8)] 0 0 B).bind fun (_Z,D,E)=>
    (subband_head K a b d e f g h i j k).bind fun F=>
    (subband_put_2 K F D 0 E).bind fun (_aa,G,H)=>
    (subband_Params_sum K a b d e f g h i j k l m n).bind fun I=>
    (subband_put_2 K [(I,8)] G 0 H).bind fun (_ab,J,L)=>
    (subband_Params_side K a b d e f g h i j k l m n).bind fun M=>
    (subband_put_2 K M J 0 L).bind fun (_ad,N,O)=>
    (subband_Params_codes K p l m n).bind fun P=>
    (subband_put_2 K P N 0 O).bind fun (_ae,Q,R)=>
    (bits_Pad_Bytes_2 K Q 0 R).bind fun S=>
    some (S,0)
def slices_Equal_byte_byte.r0 (_K : Nat) (b d : List Int) (e : Int) (next : Int → Option ((Unit) ⊕ (Bool))) (a : Int) : Option ((Unit) ⊕ (Bool)):=
 let f:=(decide (a < e))
 bif f then
  let g:=(Kd.nth (.int .u8) b (Int.toNat a))
  gd ((0 : Int) ≤ a ∧ a < (b.length : Int)) <|
  let h:=(Kd.nth (.int .u8) d (Int.toNat a))
  gd ((0 : Int) ≤ a ∧ a < (d.length : Int)) <|
  bif (g != h) then
   some (.inr false)
  else
   let i:=(kwrap .i64 (a + 1))
   next i
 else
  some (.inl ())
def slices_Equal_byte_byte.l0 (K : Nat) (a b : List Int) (d : Int) (n : Nat) : Int → Option ((Unit) ⊕ (Bool)):=rounds (slices_Equal_byte_byte.r0 K a b d) (fun _=>none) n
def slices_Equal_byte_byte (K : Nat) (a b : List Int) : Option (Bool):=
 let d:=((a.length : Int) != (b.length : Int))
 bif d then
  some false
 else
  (slices_Equal_byte_byte.l0 K a b (a.length : Int) K 0 : Option ((Unit) ⊕ (Bool))).bind fun z=>match z with
  | .inl _=>
   some true
  | .inr r=>
   some r
def bits_ends_left_2 (_K : Nat) (a b d : Int) (_h : List Int) : Option (Int):=
 let e:=(kwrap .i64 (8 * a))
 let f:=(kwrap .i64 (e - b))
 let g:=(kwrap .i64 (f - d))
 some g
def bits_ends_may_2 (K : Nat) (a b d e : Int) (f : List Int) : Option (Int):=
 let g:=(decide (a < 0))
 let h:=(decide (a > 32))
 let i:=(bif g then true else h)
 bif i then
  some 1
 else
  (bits_ends_left_2 K b d e f).bind fun j=>
  let k:=(decide (a > j))
  bif k then
   some 50
  else
   some 0
def bits_ends_ahead_2 (_K : Nat) (a _g : Int) (_h : List Int) : Option (Int × Int × Int):=
 let d:=(kwrap .i64 (a + 1))
 let e:=(kwrap .i64 (Int.tdiv a 8))
 let b:=(Int.tmod a 8)
 let f:=(kshr .u8 128 b)
 gd ((0 : Int) ≤ b) <|
 some (e,f,d)
def bits_Eye_one (_K : Nat) (a d _g _h : Int) (b : List Int) : Option (Int):=
 let e:=(Kd.nth (.int .u8) b (Int.toNat a))
 let f:=(kand .u8 e d)
 gd ((0 : Int) ≤ a ∧ a < (b.length : Int)) <|
 bif (f != 0) then
  some 1
 else
  some 0
def bits_Eye_Front_2.r0 (K : Nat) (h a : Int) (b : List Int) (next : Int → Int → Int → Option (Int × Int)) (d e f : Int) : Option (Int × Int):=
 let i:=(decide (e < h))
 bif i then
  let j:=(kshl .u32 d 1)
  (bits_ends_ahead_2 K f a b).bind fun (k,l,g)=>
  (bits_Eye_one K k l g a b).bind fun m=>
  let n:=(kor .u32 j m)
  let o:=(kwrap .i64 (e + 1))
  next n o g
 else
  some (d,f)
def bits_Eye_Front_2.l0 (K : Nat) (a b : Int) (d : List Int) (n : Nat) : Int → Int → Int → Option (Int × Int):=rounds (bits_Eye_Front_2.r0 K a b d) (fun _ _ _=>none) n
def bits_Eye_Front_2 (K : Nat) (d a e : Int) (b : List Int) : Option (Int × Int × Int):=
 (bits_ends_may_2 K d (b.length : Int) a e b).bind fun f=>
 bif (f != 0) then
  some (0,f,a)
 else
  (bits_Eye_Front_2.l0 K d e b K 0 0 a : Option (Int × Int)).bind fun (g,h)=>
   some (g,0,h)
def subband_take_2.r0 (K : Nat) (e f g : Int) (h : List Int) (next : Int → Int → List Int → Option (Int × (List Int))) (a d : Int) (b : List Int) : Option (Int × (List Int)):=
 let i:=(decide (a < f))
 bif i then
  (bits_Eye_Front_2 K e d g h).bind fun (j,_n,k)=>
  let l:=(List.set b (Int.toNat a) (kwrap .i64 j))
  gd ((0 : Int) ≤ a ∧ a < (b.length : Int) ∧ (Int.toNat a) < b.length) <|
  let m:=(kwrap .i64 (a + 1))
  next m k l
 else
  some (d,b)
def subband_take_2.l0 (K : Nat) (a b d : Int) (e : List Int) (n : Nat) : Int → Int → List Int → Option (Int × (List Int)):=rounds (subband_take_2.r0 K a b d e) (fun _ _ _=>none) n
def subband_take_2 (K : Nat) (a d e f : Int) (g : List Int) : Option ((List Int) × Int):=
 let b:=(List.replicate (Int.toNat a) (0 : Int))
 gd ((0 : Int) ≤ a ∧ a ≤ a ∧ a * 8 ≤ 140737488355328) <|
 let h:=(b.length : Int)
 (subband_take_2.l0 K d h f g K 0 e b : Option (Int × (List Int))).bind fun (i,j)=>
  some (j,i)
def subband_Parse.r2 (K : Nat) (_n : List Int) (_o : List (List Int)) (a _p _q _s : Int) (e : List Int) (h _t _u _w _y _z _A _B _D _E : Int) (_F : List Int) (_G : List (List Int)) (_H : List (List (List Int))) (next : Int → List (List Int) → Option ((List (List Int)))) (d : Int) (b : List (List Int)) : Option ((List (List Int))):=
 let i:=(decide (d < h))
 bif i then
  let j:=(Kd.nth (.int .i64) e (Int.toNat d))
  gd ((0 : Int) ≤ d ∧ d < (e.length : Int)) <|
  gd ((0 : Int) ≤ a ∧ a < (b.length : Int)) <|
  let f:=(List.getD b (Int.toNat a) [])
  gd ((Int.toNat a) < b.length) <|
  (subband_take K 1 j).bind fun g=>
  let k:=(f ++ g)
  gd (((f.length : Int) + (g.length : Int)) * 8 ≤ 70368744177664) <|
  gd ((0 : Int) ≤ a ∧ a < (b.length : Int)) <|
  let l:=(List.set b (Int.toNat a) k)
  gd ((Int.toNat a) < b.length) <|
  let m:=(kwrap .i64 (d + 1))
  next m l
 else
  some b
def subband_Parse.l2 (K : Nat) (a : List Int) (b : List (List Int)) (d e f g : Int) (h : List Int) (i j k l m o p q s t : Int) (u : List Int) (w : List (List Int)) (y : List (List (List Int))) (n : Nat) : Int → List (List Int) → Option ((List (List Int))):=rounds (subband_Parse.r2 K a b d e f g h i j k l m o p q s t u w y) (fun _ _=>none) n
def subband_Parse.r1 (K : Nat) (g : List Int) (b : List (List Int)) (h i d j k l m n o p q s : Int) (t : List Int) (u : List (List Int)) (w : List (List (List Int))) (next : Int → List (List Int) → Option ((List (List Int)))) (a : Int) (e : List (List Int)) : Option ((List (List Int))):=
 let y:=(decide (a < d))
 bif y then
  let f:=(Kd.nth (.slice (.int .i64)) b (Int.toNat a))
  let z:=(f.length : Int)
  gd ((0 : Int) ≤ a ∧ a < (b.length : Int)) <|
  (subband_Parse.l2 K g b a h i d f z j k l m n o p q s t u w K 0 e : Option ((List (List Int)))).bind fun A=>
   let B:=(kwrap .i64 (a + 1))
   next B A
 else
  some e
def subband_Parse.l1 (K : Nat) (a : List Int) (b : List (List Int)) (d e f g h i j k l m o p : Int) (q : List Int) (s : List (List Int)) (t : List (List (List Int))) (n : Nat) : Int → List (List Int) → Option ((List (List Int))):=rounds (subband_Parse.r1 K a b d e f g h i j k l m o p q s t) (fun _ _=>none) n
def subband_Parse.r0 (K : Nat) (h : List Int) (i : List (List Int)) (e j k a l m n o p q : Int) (s : List Int) (t : List (List Int)) (next : Int → List (List (List Int)) → Option ((List (List (List Int))))) (d : Int) (b : List (List (List Int))) : Option ((List (List (List Int)))):=
 let u:=(decide (d < e))
 bif u then
  let f:=(List.replicate (Int.toNat a) ([] : List Int))
  gd ((0 : Int) ≤ a ∧ a ≤ a ∧ a * 24 ≤ 140737488355328) <|
  let w:=(f.length : Int)
  (subband_Parse.l1 K h i e d w j k a l m n o p q s t b K 0 f : Option ((List (List Int)))).bind fun g=>
   let y:=(b ++ [g])
   gd (((b.length : Int) + ([g].length : Int)) * 24 ≤ 70368744177664) <|
   let z:=(kwrap .i64 (d + 1))
   next z y
 else
  some b
def subband_Parse.l0 (K : Nat) (a : List Int) (b : List (List Int)) (d e f g h i j k l m : Int) (o : List Int) (p : List (List Int)) (n : Nat) : Int → List (List (List Int)) → Option ((List (List (List Int)))):=rounds (subband_Parse.r0 K a b d e f g h i j k l m o p) (fun _ _=>none) n
def subband_Parse.r3 (K : Nat) (_j : List Int) (e _k _l f _m _n _o _p _q _s : Int) (_t : List Int) (next : Int → List (List Int) → Option ((List (List Int)))) (b : Int) (a : List (List Int)) : Option ((List (List Int))):=
 let g:=(decide (b < e))
 bif g then
  (subband_take K f 4).bind fun d=>
  let h:=(a ++ [d])
  gd (((a.length : Int) + ([d].length : Int)) * 24 ≤ 70368744177664) <|
  let i:=(kwrap .i64 (b + 1))
  next i h
 else
  some a
def subband_Parse.l3 (K : Nat) (a : List Int) (b d e f g h i j k l : Int) (m : List Int) (n : Nat) : Int → List (List Int) → Option ((List (List Int))):=rounds (subband_Parse.r3 K a b d e f g h i j k l m) (fun _ _=>none) n
def subband_Parse.r6 (K : Nat) (_q : List Int) (_s : List (List Int)) (a _t _u _w : Int) (e : List Int) (i _y _z _A _B _D _E _F _G _H : Int) (j _I : List Int) (_J : List (List Int)) (_L : List (List (List Int))) (next : Int → Int → List (List Int) → Option (Int × (List (List Int)))) (d f : Int) (b : List (List Int)) : Option (Int × (List (List Int))):=
 let k:=(decide (d < i))
 bif k then
  let l:=(Kd.nth (.int .i64) e (Int.toNat d))
  gd ((0 : Int) ≤ d ∧ d < (e.length : Int)) <|
  gd ((0 : Int) ≤ a ∧ a < (b.length : Int)) <|
  let g:=(List.getD b (Int.toNat a) [])
  gd ((Int.toNat a) < b.length) <|
  (subband_take_2 K 1 l f 0 j).bind fun (h,m)=>
  let n:=(g ++ h)
  gd (((g.length : Int) + (h.length : Int)) * 8 ≤ 70368744177664) <|
  gd ((0 : Int) ≤ a ∧ a < (b.length : Int)) <|
  let o:=(List.set b (Int.toNat a) n)
  gd ((Int.toNat a) < b.length) <|
  let p:=(kwrap .i64 (d + 1))
  next p m o
 else
  some (f,b)
def subband_Parse.l6 (K : Nat) (a : List Int) (b : List (List Int)) (d e f g : Int) (h : List Int) (i j k l m o p q s t : Int) (u w : List Int) (y : List (List Int)) (z : List (List (List Int))) (n : Nat) : Int → Int → List (List Int) → Option (Int × (List (List Int))):=rounds (subband_Parse.r6 K a b d e f g h i j k l m o p q s t u w y z) (fun _ _ _=>none) n
def subband_Parse.r5 (K : Nat) (h : List Int) (b : List (List Int)) (i j d k l m n o p q s t : Int) (u w : List Int) (y : List (List Int)) (z : List (List (List Int))) (next : Int → Int → List (List Int) → Option (Int × (List (List Int)))) (a e : Int) (f : List (List Int)) : Option (Int × (List (List Int))):=
 let A:=(decide (a < d))
 bif A then
  let g:=(Kd.nth (.slice (.int .i64)) b (Int.toNat a))
  let B:=(g.length : Int)
  gd ((0 : Int) ≤ a ∧ a < (b.length : Int)) <|
  (subband_Parse.l6 K h b a i j d g B k l m n o p q s t u w y z K 0 e f : Option (Int × (List (List Int)))).bind fun (D,E)=>
   let F:=(kwrap .i64 (a + 1))
   next F D E
 else
  some (e,f)
def subband_Parse.l5 (K : Nat) (a : List Int) (b : List (List Int)) (d e f g h i j k l m o p : Int) (q s : List Int) (t : List (List Int)) (u : List (List (List Int))) (n : Nat) : Int → Int → List (List Int) → Option (Int × (List (List Int))):=rounds (subband_Parse.r5 K a b d e f g h i j k l m o p q s t u) (fun _ _ _=>none) n
def subband_Parse.r4 (K : Nat) (h : List Int) (i : List (List Int)) (e j k a l m n o p q : Int) (s t : List Int) (u : List (List Int)) (next : Int → Int → List (List (List Int)) → Option ((List (List (List Int))))) (d w : Int) (b : List (List (List Int))) : Option ((List (List (List Int)))):=
 let y:=(decide (d < e))
 bif y then
  let f:=(List.replicate (Int.toNat a) ([] : List Int))
  gd ((0 : Int) ≤ a ∧ a ≤ a ∧ a * 24 ≤ 140737488355328) <|
  let z:=(f.length : Int)
  (subband_Parse.l5 K h i e d z j k a l m n o p q s t u b K 0 w f : Option (Int × (List (List Int)))).bind fun (A,g)=>
   let B:=(b ++ [g])
   gd (((b.length : Int) + ([g].length : Int)) * 24 ≤ 70368744177664) <|
   let D:=(kwrap .i64 (d + 1))
   next D A B
 else
  some b
def subband_Parse.l4 (K : Nat) (a : List Int) (b : List (List Int)) (d e f g h i j k l m : Int) (o p : List Int) (q : List (List Int)) (n : Nat) : Int → Int → List (List (List Int)) → Option ((List (List (List Int)))):=rounds (subband_Parse.r4 K a b d e f g h i j k l m o p q) (fun _ _ _=>none) n
def subband_Parse.r7 (K : Nat) (_m : List Int) (f _n _o g _p _q _s _t _u _w : Int) (h _y : List Int) (next : Int → Int → List (List Int) → Option (Int × (List (List Int)))) (b d : Int) (a : List (List Int)) : Option (Int × (List (List Int))):=
 let i:=(decide (b < f))
 bif i then
  (subband_take_2 K g 4 d 0 h).bind fun (e,j)=>
  let k:=(a ++ [e])
  gd (((a.length : Int) + ([e].length : Int)) * 24 ≤ 70368744177664) <|
  let l:=(kwrap .i64 (b + 1))
  next l j k
 else
  some (d,a)
def subband_Parse.l7 (K : Nat) (a : List Int) (b d e f g h i j k l : Int) (m o : List Int) (n : Nat) : Int → Int → List (List Int) → Option (Int × (List (List Int))):=rounds (subband_Parse.r7 K a b d e f g h i j k l m o) (fun _ _ _=>none) n
def subband_Parse (K : Nat) (d e f a g h b i j k : Int) (l : List Int) : Option ((List Int) × (List (List Int)) × (List (List (List Int))) × Int):=
 (subband_may K d e f a g h b i j k).bind fun s=>
 bif (s != 0) then
  some (([] : List Int),([] : List (List Int)),([] : List (List (List Int))),s)
 else
  (format_Payload K d e f a g h b i j k).bind fun y=>
  let A:=((l.length : Int) != y)
  bif A then
   some (([] : List Int),([] : List (List Int)),([] : List (List (List Int))),140)
  else
   (bits_Open K l).bind fun z=>match z with
   | .inl _=>
    (bits_Eye_Front K 32).bind fun _=>
    let B:=(List.replicate (Int.toNat a) (0 : Int))
    gd ((0 : Int) ≤ a ∧ a ≤ a ∧ a * 8 ≤ 140737488355328) <|
    (
     bif (b == 1) then
      (subband_take K a 1).bind fun D=>
      some D
     else
      some B : Option ((List Int))).bind fun m=>
     (subband_Parse.l3 K l f d e a g h b i j k m K 0 ([] : List (List Int)) : Option ((List (List Int)))).bind fun n=>
      (alloc_Share K d e f a g h b i j k n).bind fun (E,F)=>
      bif (F != 0) then
       some (([] : List Int),([] : List (List Int)),([] : List (List (List Int))),140)
      else
       (subband_Parse.l0 K l E g d e f a h b i j k m n K 0 ([] : List (List (List Int))) : Option ((List (List (List Int))))).bind fun t=>
        (subband_Pack K d e f a g h b i j k m n t).bind fun (G,H)=>
        (
         bif (H != 0) then
          some true
         else
          (slices_Equal_byte_byte K G l).bind fun I=>
          some (!I) : Option (Bool)).bind fun J=>
         bif J then
          some (([] : List Int),([] : List (List Int)),([] : List (List (List Int))),140)
         else
          some (m,n,t,0)
   | .inr o=>
    (bits_Eye_Front_2 K 32 0 0 o).bind fun (_W,_X,u)=>
    let L:=(List.replicate (Int.toNat a) (0 : Int))
    gd ((0 : Int) ≤ a ∧ a ≤ a ∧ a * 8 ≤ 140737488355328) <|
    (
     bif (b == 1) then
      (subband_take_2 K a 1 u 0 o).bind fun (M,N)=>
      some (N,M)
     else
      some (u,L) : Option (Int × (List Int))).bind fun (O,p)=>
     (subband_Parse.l7 K l f d e a g h b i j k o p K 0 O ([] : List (List Int)) : Option (Int × (List (List Int)))).bind fun (P,q)=>
      (alloc_Share K d e f a g h b i j k q).bind fun (Q,R)=>
      bif (R != 0) then
       some (([] : List Int),([] : List (List Int)),([] : List (List (List Int))),140)
      else
       (subband_Parse.l4 K l Q g d e f a h b i j k o p q K 0 P ([] : List (List (List Int))) : Option ((List (List (List Int))))).bind fun w=>
        (subband_Pack K d e f a g h b i j k p q w).bind fun (S,T)=>
        (
         bif (T != 0) then
          some true
         else
          (slices_Equal_byte_byte K S l).bind fun U=>
          some (!U) : Option (Bool)).bind fun V=>
         bif V then
          some (([] : List Int),([] : List (List Int)),([] : List (List (List Int))),140)
         else
          some (p,q,w,0)
def pcm_Part.r0 (_K : Nat) (f : Int) (g : List Int) (j : Int) (next : Int → List (List Int) → Option ((List (List Int)))) (b : Int) (a : List (List Int)) : Option ((List (List Int))):=
 let k:=(decide (b < j))
 bif k then
  let h:=(Kd.nth (.int .i16) g (Int.toNat b))
  gd ((0 : Int) ≤ b ∧ b < (g.length : Int)) <|
  let d:=(Int.tmod b f)
  gd (f ≠ 0) <|
  gd (f ≠ 0) <|
  let e:=(Int.toNat d)
  gd ((0 : Int) ≤ d ∧ d < (a.length : Int)) <|
  let i:=(List.getD a e [])
  gd (e < a.length) <|
  let l:=(i ++ [h])
  gd (((i.length : Int) + ([h].length : Int)) * 2 ≤ 70368744177664) <|
  gd ((0 : Int) ≤ d ∧ d < (a.length : Int)) <|
  let m:=(List.set a e l)
  gd (e < a.length) <|
  let n:=(kwrap .i64 (b + 1))
  next n m
 else
  some a
def pcm_Part.l0 (K : Nat) (a : Int) (b : List Int) (d : Int) (n : Nat) : Int → List (List Int) → Option ((List (List Int))):=rounds (pcm_Part.r0 K a b d) (fun _ _=>none) n
def pcm_Part (K : Nat) (b : List Int) (a : Int) : Option ((List (List Int)) × Int):=
 let e:=(decide (a < 1))
 let f:=(decide (a > 2))
 let d:=(bif e then true else f)
 let g:=(Int.tmod (b.length : Int) a)
 let h:=(bif d then true else (g != 0))
 gd (((!d) = true → a ≠ 0)) <|
 bif h then
  some (([] : List (List Int)),1)
 else
  let i:=(List.replicate (Int.toNat a) ([] : List Int))
  gd ((0 : Int) ≤ a ∧ a ≤ a ∧ a * 24 ≤ 140737488355328) <|
  (pcm_Part.l0 K a b (b.length : Int) K 0 i : Option ((List (List Int)))).bind fun j=>
   some (j,0)
def fix_Sat32 (K : Nat) (a : Int) : Option (Int):=
 (fix_within_int64 K a (-2147483648) 2147483647).bind fun b=>
 some (kwrap .i32 b)
def poly_rounded (K : Nat) (a b : Int) : Option (Int):=
 (fix_Round K a b).bind fun d=>
 (fix_Sat32 K d).bind fun e=>
 some (kwrap .i64 e)
def poly_bands_wave (_K : Nat) (e f g : Int) (_m d _n : List Int) : Option (Int):=
 let a:=(kwrap .i64 (8 * g))
 let h:=(kwrap .i64 (e * f))
 let i:=(Int.tmod h a)
 gd (a ≠ 0) <|
 let j:=(kwrap .i64 (i + a))
 let b:=(Int.tmod j a)
 gd (a ≠ 0) <|
 let k:=(Kd.nth (.int .i16) d (Int.toNat b))
 gd ((0 : Int) ≤ b ∧ b < (d.length : Int)) <|
 let l:=(kwrap .i64 k)
 some l
def poly_Splitter_Feed.r1 (K : Nat) (f _w g d : Int) (h i j b _y : List Int) (next : Int → Int → Option (Int)) (e a : Int) : Option (Int):=
 let k:=(decide (a < g))
 bif k then
  let l:=(Kd.nth (.int .i64) b (Int.toNat a))
  gd ((0 : Int) ≤ a ∧ a < (b.length : Int) ∧ (Int.toNat a) < b.length) <|
  let m:=(kwrap .i64 (2 * f))
  let n:=(kwrap .i64 (m + 1))
  let o:=(kwrap .i64 (2 * a))
  let p:=(kwrap .i64 (o - d))
  (poly_bands_wave K n p d h i j).bind fun q=>
  let s:=(kwrap .i64 (l * q))
  let t:=(kwrap .i64 (e + s))
  let u:=(kwrap .i64 (a + 1))
  next t u
 else
  some e
def poly_Splitter_Feed.l1 (K : Nat) (a b d e : Int) (f g h i j : List Int) (n : Nat) : Int → Int → Option (Int):=rounds (poly_Splitter_Feed.r1 K a b d e f g h i j) (fun _ _=>none) n
def poly_Splitter_Feed.r0 (K : Nat) (d e : Int) (g h i f : List Int) (next : Int → List Int → Option ((List Int))) (a : Int) (b : List Int) : Option ((List Int)):=
 let j:=(decide (a < d))
 bif j then
  (poly_Splitter_Feed.l1 K a d (f.length : Int) e g h i f b K 0 0 : Option (Int)).bind fun k=>
   let l:=(kwrap .i64 (Int.tdiv e 4))
   let m:=(kwrap .i64 (16 + l))
   (poly_rounded K k m).bind fun n=>
   let o:=(List.set b (Int.toNat a) (kwrap .i32 n))
   gd ((0 : Int) ≤ a ∧ a < (b.length : Int) ∧ (Int.toNat a) < b.length) <|
   let p:=(kwrap .i64 (a + 1))
   next p o
 else
  some b
def poly_Splitter_Feed.l0 (K : Nat) (a b : Int) (d e f g : List Int) (n : Nat) : Int → List Int → Option ((List Int)):=rounds (poly_Splitter_Feed.r0 K a b d e f g) (fun _ _=>none) n
def poly_Splitter_Feed.r3 (_K : Nat) (h _t i : Int) (f _u b _w : List Int) (next : Int → Int → Option (Int)) (g d : Int) : Option (Int):=
 let j:=(decide (d < 5))
 bif j then
  let k:=(kwrap .i64 (2 * i))
  let l:=(kwrap .i64 (k * d))
  let a:=(kwrap .i64 (h + l))
  let e:=(Int.toNat a)
  gd ((0 : Int) ≤ a ∧ a < (b.length : Int)) <|
  let m:=(Kd.nth (.int .i64) b e)
  gd (e < b.length) <|
  let n:=(Kd.nth (.int .i16) f e)
  gd ((0 : Int) ≤ a ∧ a < (f.length : Int)) <|
  let o:=(kwrap .i64 n)
  let p:=(kwrap .i64 (m * o))
  let q:=(kwrap .i64 (p - g))
  let s:=(kwrap .i64 (d + 1))
  next q s
 else
  some g
def poly_Splitter_Feed.l3 (K : Nat) (a b d : Int) (e f g h : List Int) (n : Nat) : Int → Int → Option (Int):=rounds (poly_Splitter_Feed.r3 K a b d e f g h) (fun _ _=>none) n
def poly_Splitter_Feed.r2 (K : Nat) (d e : Int) (f g h : List Int) (next : Int → List Int → Option ((List Int))) (a : Int) (b : List Int) : Option ((List Int)):=
 let i:=(decide (a < d))
 bif i then
  (poly_Splitter_Feed.l3 K a d e f g h b K 0 0 : Option (Int)).bind fun j=>
   (poly_rounded K (kwrap .i64 (0 - j)) 14).bind fun k=>
   let l:=(List.set b (Int.toNat a) k)
   gd ((0 : Int) ≤ a ∧ a < (b.length : Int) ∧ (Int.toNat a) < b.length) <|
   let m:=(kwrap .i64 (a + 1))
   next m l
 else
  some b
def poly_Splitter_Feed.l2 (K : Nat) (a b : Int) (d e f : List Int) (n : Nat) : Int → List Int → Option ((List Int)):=rounds (poly_Splitter_Feed.r2 K a b d e f) (fun _ _=>none) n
def poly_Splitter_Feed.r4 (_K : Nat) (e : List Int) (g h : Int) (_o _p : List Int) (next : Int → List Int → Option ((List Int))) (a : Int) (b : List Int) : Option ((List Int)):=
 let i:=(decide (a < g))
 bif i then
  let j:=(Kd.nth (.int .i16) e (Int.toNat a))
  gd ((0 : Int) ≤ a ∧ a < (e.length : Int)) <|
  let k:=(kwrap .i64 (h - 1))
  let d:=(kwrap .i64 (k - a))
  let l:=(kwrap .i64 j)
  let f:=(Int.toNat d)
  gd ((0 : Int) ≤ d ∧ d < (b.length : Int)) <|
  let m:=(List.set b f l)
  gd (f < b.length) <|
  let n:=(kwrap .i64 (a + 1))
  next n m
 else
  some b
def poly_Splitter_Feed.l4 (K : Nat) (a : List Int) (b d : Int) (e f : List Int) (n : Nat) : Int → List Int → Option ((List Int)):=rounds (poly_Splitter_Feed.r4 K a b d e f) (fun _ _=>none) n
def poly_Splitter_Feed (K : Nat) (e : List Int) (a : Int) (f g b : List Int) : Option ((List Int) × Int × (List Int)):=
 let k:=((e.length : Int) != a)
 bif k then
  some (([] : List Int),1,b)
 else
  gd ((0 : Int) ≤ a ∧ a < (b.length : Int)) <|
  let l:=(cpy (Int.toNat a) b b)
  gd ((Int.toNat a) < b.length) <|
  (poly_Splitter_Feed.l4 K e (e.length : Int) a f g K 0 l : Option ((List Int))).bind fun h=>
   let d:=(kwrap .i64 (2 * a))
   let i:=(List.replicate (Int.toNat d) (0 : Int))
   gd ((0 : Int) ≤ d ∧ d ≤ d ∧ d * 8 ≤ 140737488355328) <|
   let m:=(i.length : Int)
   (poly_Splitter_Feed.l2 K m a f g h K 0 i : Option ((List Int))).bind fun n=>
    let j:=(List.replicate (Int.toNat a) (0 : Int))
    gd ((0 : Int) ≤ a ∧ a ≤ a ∧ a * 4 ≤ 140737488355328) <|
    let o:=(j.length : Int)
    (poly_Splitter_Feed.l0 K o a f g h n K 0 j : Option ((List Int))).bind fun p=>
     some (p,0,h)
def subband_fits_1_1 (_K : Nat) (a : List Int) (_e _f _g b _h _i _j _k _l _m : Int) : Option (Bool):=
 let d:=((a.length : Int) == b)
 some d
def subband_shaped_int32_1 (K : Nat) (a : List Int) (b d e f g h i j k l : Int) : Option (Bool):=
 (subband_fits_1_1 K a b d e f g h i j k l).bind fun m=>
 some (!m)
def slices_IndexFunc_int32_int32.r0 (K : Nat) (b : List (List Int)) (d e f g h i j k l m n : Int) (next : Int → Option ((Unit) ⊕ (Int))) (a : Int) : Option ((Unit) ⊕ (Int)):=
 let o:=(decide (a < d))
 bif o then
  let p:=(Kd.nth (.slice (.int .i32)) b (Int.toNat a))
  gd ((0 : Int) ≤ a ∧ a < (b.length : Int)) <|
  (subband_shaped_int32_1 K p e f g h i j k l m n).bind fun q=>
  bif q then
   some (.inr a)
  else
   let s:=(kwrap .i64 (a + 1))
   next s
 else
  some (.inl ())
def slices_IndexFunc_int32_int32.l0 (K : Nat) (a : List (List Int)) (b d e f g h i j k l m : Int) (n : Nat) : Int → Option ((Unit) ⊕ (Int)):=rounds (slices_IndexFunc_int32_int32.r0 K a b d e f g h i j k l m) (fun _=>none) n
def slices_IndexFunc_int32_int32 (K : Nat) (a : List (List Int)) (b d e f g h i j k l : Int) : Option (Int):=
 (slices_IndexFunc_int32_int32.l0 K a (a.length : Int) b d e f g h i j k l K 0 : Option ((Unit) ⊕ (Int))).bind fun z=>match z with
 | .inl _=>
  some (-1)
 | .inr r=>
  some r
def slices_ContainsFunc_int32_int32 (K : Nat) (a : List (List Int)) (b d e f g h i j k l : Int) : Option (Bool):=
 (slices_IndexFunc_int32_int32 K a b d e f g h i j k l).bind fun m=>
 let n:=(decide (m ≥ 0))
 some n
def subband_shaped_int32 (K : Nat) (a : List (List Int)) (b d e f g h i j k l m : Int) : Option (Bool):=
 (
  let n:=((a.length : Int) == b)
  bif n then
   (slices_ContainsFunc_int32_int32 K a d e f g h i j k l m).bind fun o=>
   some (!o)
  else
   some false : Option (Bool)).bind fun p=>
  some p
def subband_fits_1 (K : Nat) (b : List (List Int)) (d e f g a h i j k l : Int) : Option (Bool):=
 (subband_shaped_int32 K b a d e f g a h i j k l).bind fun m=>
 some m
def subband_shaped_int32_1_2 (K : Nat) (a : List (List Int)) (b d e f g h i j k l : Int) : Option (Bool):=
 (subband_fits_1 K a b d e f g h i j k l).bind fun m=>
 some (!m)
def slices_IndexFunc_int32_int32_2.r0 (K : Nat) (b : List (List (List Int))) (d e f g h i j k l m n : Int) (next : Int → Option ((Unit) ⊕ (Int))) (a : Int) : Option ((Unit) ⊕ (Int)):=
 let o:=(decide (a < d))
 bif o then
  let p:=(Kd.nth (.slice (.slice (.int .i32))) b (Int.toNat a))
  gd ((0 : Int) ≤ a ∧ a < (b.length : Int)) <|
  (subband_shaped_int32_1_2 K p e f g h i j k l m n).bind fun q=>
  bif q then
   some (.inr a)
  else
   let s:=(kwrap .i64 (a + 1))
   next s
 else
  some (.inl ())
def slices_IndexFunc_int32_int32_2.l0 (K : Nat) (a : List (List (List Int))) (b d e f g h i j k l m : Int) (n : Nat) : Int → Option ((Unit) ⊕ (Int)):=rounds (slices_IndexFunc_int32_int32_2.r0 K a b d e f g h i j k l m) (fun _=>none) n
def slices_IndexFunc_int32_int32_2 (K : Nat) (a : List (List (List Int))) (b d e f g h i j k l : Int) : Option (Int):=
 (slices_IndexFunc_int32_int32_2.l0 K a (a.length : Int) b d e f g h i j k l K 0 : Option ((Unit) ⊕ (Int))).bind fun z=>match z with
 | .inl _=>
  some (-1)
 | .inr r=>
  some r
def slices_ContainsFunc_int32_int32_2 (K : Nat) (a : List (List (List Int))) (b d e f g h i j k l : Int) : Option (Bool):=
 (slices_IndexFunc_int32_int32_2 K a b d e f g h i j k l).bind fun m=>
 let n:=(decide (m ≥ 0))
 some n
def subband_shaped_int32_2 (K : Nat) (a : List (List (List Int))) (b d e f g h i j k l m : Int) : Option (Bool):=
 (
  let n:=((a.length : Int) == b)
  bif n then
   (slices_ContainsFunc_int32_int32_2 K a d e f g h i j k l m).bind fun o=>
   some (!o)
  else
   some false : Option (Bool)).bind fun p=>
  some p
def subband_fits (K : Nat) (b d a e f g h i j k : Int) (l : List (List (List Int))) : Option (Bool):=
 (subband_shaped_int32_2 K l a b d a e f g h i j k).bind fun m=>
 some m
def quant_bands.r0 (_K : Nat) (b : List (List Int)) (d : Int) (next : Int → Option ((Unit) ⊕ (Int))) (a : Int) : Option ((Unit) ⊕ (Int)):=
 let e:=(decide (a < d))
 bif e then
  let f:=(Kd.nth (.slice (.int .i32)) b (Int.toNat a))
  gd ((0 : Int) ≤ a ∧ a < (b.length : Int)) <|
  let g:=(f.length : Int)
  let h:=(Kd.nth (.slice (.int .i32)) b 0)
  let i:=(h.length : Int)
  gd (0 < (b.length : Int)) <|
  bif (g != i) then
   some (.inr 0)
  else
   let j:=(kwrap .i64 (a + 1))
   next j
 else
  some (.inl ())
def quant_bands.l0 (K : Nat) (a : List (List Int)) (b : Int) (n : Nat) : Int → Option ((Unit) ⊕ (Int)):=rounds (quant_bands.r0 K a b) (fun _=>none) n
def quant_bands (K : Nat) (a : List (List Int)) : Option (Int):=
 let b:=((a.length : Int) == 0)
 let e:=(Kd.nth (.slice (.int .i32)) a 0)
 let d:=(e.length : Int)
 let f:=(decide (d > 8))
 let g:=(bif b then true else f)
 gd (((!b) = true → 0 < (a.length : Int))) <|
 bif g then
  some 0
 else
  (quant_bands.l0 K a (a.length : Int) K 0 : Option ((Unit) ⊕ (Int))).bind fun z=>match z with
  | .inl _=>
   gd (0 < (a.length : Int)) <|
   some d
  | .inr r=>
   some r
def quant_Middle_1 (_K : Nat) (a b : Int) : Option (Int × Int):=
 let d:=(kwrap .i64 ((kwrap .i64 a) + (kwrap .i64 b)))
 let e:=(kshr .i64 d 1)
 let f:=(kwrap .i32 e)
 let g:=(kwrap .i64 ((kwrap .i64 a) - (kwrap .i64 b)))
 let h:=(kshr .i64 g 1)
 let i:=(kwrap .i32 h)
 some (f,i)
def quant_pairs.r1 (K : Nat) (f : List (List Int)) (a : Int) (_y : List (List Int)) (_z : Int) (g : List Int) (m : Int) (next : Int → List (List Int) → List (List Int) → Option ((List (List Int)) × (List (List Int)))) (b : Int) (d e : List (List Int)) : Option ((List (List Int)) × (List (List Int))):=
 let n:=(decide (b < m))
 bif n then
  let o:=(Kd.nth (.int .i32) g (Int.toNat b))
  gd ((0 : Int) ≤ b ∧ b < (g.length : Int)) <|
  let h:=(Kd.nth (.slice (.int .i32)) f (Int.toNat a))
  let p:=(Kd.nth (.int .i32) h (Int.toNat b))
  gd ((0 : Int) ≤ a ∧ a < (f.length : Int) ∧ (0 : Int) ≤ b ∧ b < (h.length : Int)) <|
  (quant_Middle_1 K o p).bind fun (i,j)=>
  gd ((0 : Int) ≤ a ∧ a < (d.length : Int)) <|
  let k:=(List.getD d (Int.toNat a) [])
  gd ((Int.toNat a) < d.length) <|
  let q:=(k ++ [i])
  gd (((k.length : Int) + ([i].length : Int)) * 4 ≤ 70368744177664) <|
  gd ((0 : Int) ≤ a ∧ a < (e.length : Int)) <|
  let l:=(List.getD e (Int.toNat a) [])
  gd ((Int.toNat a) < e.length) <|
  let s:=(l ++ [j])
  gd (((l.length : Int) + ([j].length : Int)) * 4 ≤ 70368744177664) <|
  gd ((0 : Int) ≤ a ∧ a < (d.length : Int)) <|
  let t:=(List.set d (Int.toNat a) q)
  gd ((Int.toNat a) < d.length) <|
  gd ((0 : Int) ≤ a ∧ a < (e.length : Int)) <|
  let u:=(List.set e (Int.toNat a) s)
  gd ((Int.toNat a) < e.length) <|
  let w:=(kwrap .i64 (b + 1))
  next w t u
 else
  some (d,e)
def quant_pairs.l1 (K : Nat) (a : List (List Int)) (b : Int) (d : List (List Int)) (e : Int) (f : List Int) (g : Int) (n : Nat) : Int → List (List Int) → List (List Int) → Option ((List (List Int)) × (List (List Int))):=rounds (quant_pairs.r1 K a b d e f g) (fun _ _ _=>none) n
def quant_pairs.r0 (K : Nat) (h b : List (List Int)) (d : Int) (next : Int → List (List Int) → List (List Int) → Option ((List (List Int)) × (List (List Int)))) (a : Int) (e f : List (List Int)) : Option ((List (List Int)) × (List (List Int))):=
 let i:=(decide (a < d))
 bif i then
  let g:=(Kd.nth (.slice (.int .i32)) b (Int.toNat a))
  gd ((0 : Int) ≤ a ∧ a < (b.length : Int)) <|
  let j:=(g.length : Int)
  (quant_pairs.l1 K h a b d g j K 0 e f : Option ((List (List Int)) × (List (List Int)))).bind fun (k,l)=>
   let m:=(kwrap .i64 (a + 1))
   next m k l
 else
  some (e,f)
def quant_pairs.l0 (K : Nat) (a b : List (List Int)) (d : Int) (n : Nat) : Int → List (List Int) → List (List Int) → Option ((List (List Int)) × (List (List Int))):=rounds (quant_pairs.r0 K a b d) (fun _ _ _=>none) n
def quant_pairs (K : Nat) (a b : List (List Int)) : Option ((List (List Int)) × (List (List Int)) × Int):=
 (
  (quant_bands K a).bind fun e=>
  bif (e == 0) then
   some true
  else
   (quant_bands K a).bind fun f=>
   (quant_bands K b).bind fun g=>
   let h:=(f != g)
   let i:=((a.length : Int) != (b.length : Int))
   let j:=(bif h then true else i)
   some j : Option (Bool)).bind fun k=>
  bif k then
   some (([] : List (List Int)),([] : List (List Int)),1)
  else
   let d:=(List.replicate (Int.toNat (a.length : Int)) ([] : List Int))
   gd ((0 : Int) ≤ (a.length : Int) ∧ (a.length : Int) ≤ (a.length : Int) ∧ (a.length : Int) * 24 ≤ 140737488355328) <|
   gd ((0 : Int) ≤ (a.length : Int) ∧ (a.length : Int) ≤ (a.length : Int) ∧ (a.length : Int) * 24 ≤ 140737488355328) <|
   (quant_pairs.l0 K b a (a.length : Int) K 0 d d : Option ((List (List Int)) × (List (List Int)))).bind fun (l,m)=>
    some (l,m,0)
def quant_Middle (K : Nat) (a b : List (List Int)) : Option ((List (List Int)) × (List (List Int)) × Int):=
 (quant_pairs K a b).bind fun (d,e,f)=>
 some (d,e,f)
def quant_Scale.r0 (_K : Nat) (d : Int) (next : Int → Option (Int)) (a : Int) : Option (Int):=
 let b:=(decide (a < 15))
 let e:=(kshl .i64 2 a)
 let f:=(decide (d ≥ e))
 let g:=(bif b then f else false)
 gd ((b = true → (0 : Int) ≤ a)) <|
 bif g then
  let h:=(kwrap .i64 (a + 1))
  next h
 else
  some a
def quant_Scale.l0 (K : Nat) (a : Int) (n : Nat) : Int → Option (Int):=rounds (quant_Scale.r0 K a) (fun _=>none) n
def quant_Scale (K : Nat) (a : Int) : Option (Int):=
 (quant_Scale.l0 K a K 0 : Option (Int)).bind fun b=>
  some b
def quant_Scales.r0 (K : Nat) (e : Int) (d : List Int) (next : Int → List Int → Option ((List Int))) (a : Int) (b : List Int) : Option ((List Int)):=
 let f:=(decide (a < e))
 bif f then
  let g:=(Kd.nth (.int .i64) d (Int.toNat a))
  gd ((0 : Int) ≤ a ∧ a < (d.length : Int) ∧ (Int.toNat a) < d.length) <|
  (quant_Scale K g).bind fun h=>
  let i:=(List.set b (Int.toNat a) h)
  gd ((0 : Int) ≤ a ∧ a < (b.length : Int) ∧ (Int.toNat a) < b.length) <|
  let j:=(kwrap .i64 (a + 1))
  next j i
 else
  some b
def quant_Scales.l0 (K : Nat) (a : Int) (b : List Int) (n : Nat) : Int → List Int → Option ((List Int)):=rounds (quant_Scales.r0 K a b) (fun _ _=>none) n
def quant_Scales.r2 (_K : Nat) (_n : Int) (_o : List (List Int)) (_p _q : Int) (d : List Int) (f : Int) (next : Int → List Int → Option ((List Int))) (a : Int) (b : List Int) : Option ((List Int)):=
 let g:=(decide (a < f))
 bif g then
  let h:=(Kd.nth (.int .i32) d (Int.toNat a))
  gd ((0 : Int) ≤ a ∧ a < (d.length : Int)) <|
  let i:=(Kd.nth (.int .i64) b (Int.toNat a))
  let e:=(kwrap .i64 h)
  let j:=(kwrap .i64 (0 - e))
  let k:=(imax (imax i e) j)
  let l:=(List.set b (Int.toNat a) k)
  gd ((0 : Int) ≤ a ∧ a < (b.length : Int) ∧ (Int.toNat a) < b.length ∧ (0 : Int) ≤ a ∧ a < (b.length : Int) ∧ (Int.toNat a) < b.length) <|
  let m:=(kwrap .i64 (a + 1))
  next m l
 else
  some b
def quant_Scales.l2 (K : Nat) (a : Int) (b : List (List Int)) (d e : Int) (f : List Int) (g : Int) (n : Nat) : Int → List Int → Option ((List Int)):=rounds (quant_Scales.r2 K a b d e f g) (fun _ _=>none) n
def quant_Scales.r1 (K : Nat) (g : Int) (b : List (List Int)) (d : Int) (next : Int → List Int → Option ((List Int))) (a : Int) (e : List Int) : Option ((List Int)):=
 let h:=(decide (a < d))
 bif h then
  let f:=(Kd.nth (.slice (.int .i32)) b (Int.toNat a))
  gd ((0 : Int) ≤ a ∧ a < (b.length : Int)) <|
  let i:=(f.length : Int)
  (quant_Scales.l2 K g b d a f i K 0 e : Option ((List Int))).bind fun j=>
   let k:=(kwrap .i64 (a + 1))
   next k j
 else
  some e
def quant_Scales.l1 (K : Nat) (a : Int) (b : List (List Int)) (d : Int) (n : Nat) : Int → List Int → Option ((List Int)):=rounds (quant_Scales.r1 K a b d) (fun _ _=>none) n
def quant_Scales (K : Nat) (b : List (List Int)) : Option ((List Int) × Int):=
 (quant_bands K b).bind fun a=>
 bif (a == 0) then
  some (([] : List Int),1)
 else
  let d:=(List.replicate (Int.toNat a) (0 : Int))
  gd ((0 : Int) ≤ a ∧ a ≤ a ∧ a * 8 ≤ 140737488355328) <|
  (quant_Scales.l1 K a b (b.length : Int) K 0 d : Option ((List Int))).bind fun e=>
   gd ((0 : Int) ≤ a ∧ a ≤ a ∧ a * 8 ≤ 140737488355328) <|
   (quant_Scales.l0 K (e.length : Int) e K 0 d : Option ((List Int))).bind fun f=>
    some (f,0)
def quant_Joins.r0 (_K : Nat) (h : Int) (d e f g : List Int) (next : Int → List (Bool) → Option ((List (Bool)))) (a : Int) (b : List (Bool)) : Option ((List (Bool))):=
 let i:=(decide (a < h))
 bif i then
  let j:=(Kd.nth (.int .i64) d (Int.toNat a))
  gd ((0 : Int) ≤ a ∧ a < (d.length : Int)) <|
  let k:=(Kd.nth (.int .i64) e (Int.toNat a))
  gd ((0 : Int) ≤ a ∧ a < (e.length : Int)) <|
  let l:=(kwrap .i64 (j + k))
  let m:=(Kd.nth (.int .i64) f (Int.toNat a))
  gd ((0 : Int) ≤ a ∧ a < (f.length : Int)) <|
  let n:=(Kd.nth (.int .i64) g (Int.toNat a))
  gd ((0 : Int) ≤ a ∧ a < (g.length : Int)) <|
  let o:=(kwrap .i64 (m + n))
  let p:=(decide (l > o))
  gd ((0 : Int) ≤ a ∧ a < (b.length : Int)) <|
  let q:=(List.set b (Int.toNat a) p)
  gd ((Int.toNat a) < b.length) <|
  let s:=(kwrap .i64 (a + 1))
  next s q
 else
  some b
def quant_Joins.l0 (K : Nat) (a : Int) (b d e f : List Int) (n : Nat) : Int → List (Bool) → Option ((List (Bool))):=rounds (quant_Joins.r0 K a b d e f) (fun _ _=>none) n
def quant_Joins (K : Nat) (e f : List (List Int)) : Option ((List (Bool)) × Int):=
 (quant_Middle K e f).bind fun (h,i,g)=>
 bif (g != 0) then
  some (([] : List (Bool)),g)
 else
  (
   (quant_Scales K e).bind fun (j,_w)=>
   (quant_Scales K f).bind fun (k,_y)=>
   (quant_Scales K h).bind fun (l,_z)=>
   (quant_Scales K i).bind fun (m,_A)=>
   some (j,k,l,m) : Option ((List Int) × (List Int) × (List Int) × (List Int))).bind fun (a,n,o,p)=>
   let b:=(List.replicate (Int.toNat (a.length : Int)) (false : Bool))
   gd ((0 : Int) ≤ (a.length : Int) ∧ (a.length : Int) ≤ (a.length : Int) ∧ (a.length : Int) * 1 ≤ 140737488355328) <|
   let q:=(b.length : Int)
   let d:=(kwrap .i64 (q - 1))
   let s:=(Int.toNat d)
   let t:=((s : Nat) : Int)
   gd ((0 : Int) ≤ d ∧ d ≤ (b.length : Int) ∧ b ≠ []) <|
   (quant_Joins.l0 K t a n o p K 0 b : Option ((List (Bool)))).bind fun u=>
    some (u,0)
def slices_Index_int_int_2.r0 (_K : Nat) (d e : Int) (b : List Int) (next : Int → Option ((Unit) ⊕ (Int))) (a : Int) : Option ((Unit) ⊕ (Int)):=
 let f:=(decide (a < e))
 bif f then
  let g:=(Kd.nth (.int .i64) b (Int.toNat a))
  gd ((0 : Int) ≤ a ∧ a < (b.length : Int) ∧ (Int.toNat a) < b.length) <|
  bif (d == g) then
   some (.inr a)
  else
   let h:=(kwrap .i64 (a + 1))
   next h
 else
  some (.inl ())
def slices_Index_int_int_2.l0 (K : Nat) (a b : Int) (d : List Int) (n : Nat) : Int → Option ((Unit) ⊕ (Int)):=rounds (slices_Index_int_int_2.r0 K a b d) (fun _=>none) n
def slices_Index_int_int_2 (K : Nat) (b : Int) (a : List Int) : Option (Int):=
 (slices_Index_int_int_2.l0 K b (a.length : Int) a K 0 : Option ((Unit) ⊕ (Int))).bind fun z=>match z with
 | .inl _=>
  some (-1)
 | .inr r=>
  some r
def slices_Contains_int_int_2 (K : Nat) (a : Int) (b : List Int) : Option (Bool):=
 (slices_Index_int_int_2 K a b).bind fun d=>
 let e:=(decide (d ≥ 0))
 some e
def slices_Clone_int32_int32 (_K : Nat) (a : List Int) : Option ((List Int)):=
 gd (a ≠ []) <|
 let b:=(([] : List Int) ++ a)
 gd (((([] : List Int).length : Int) + (a.length : Int)) * 4 ≤ 70368744177664) <|
 some b
def subband_clone.r0 (K : Nat) (d : List (List Int)) (e : Int) (next : Int → List (List Int) → Option ((List (List Int)))) (a : Int) (b : List (List Int)) : Option ((List (List Int))):=
 let f:=(decide (a < e))
 bif f then
  let g:=(Kd.nth (.slice (.int .i32)) d (Int.toNat a))
  gd ((0 : Int) ≤ a ∧ a < (d.length : Int)) <|
  (slices_Clone_int32_int32 K g).bind fun h=>
  let i:=(List.set b (Int.toNat a) h)
  gd ((0 : Int) ≤ a ∧ a < (b.length : Int) ∧ (Int.toNat a) < b.length) <|
  let j:=(kwrap .i64 (a + 1))
  next j i
 else
  some b
def subband_clone.l0 (K : Nat) (a : List (List Int)) (b : Int) (n : Nat) : Int → List (List Int) → Option ((List (List Int))):=rounds (subband_clone.r0 K a b) (fun _ _=>none) n
def subband_clone (K : Nat) (a : List (List Int)) : Option ((List (List Int))):=
 let b:=(List.replicate (Int.toNat (a.length : Int)) ([] : List Int))
 gd ((0 : Int) ≤ (a.length : Int) ∧ (a.length : Int) ≤ (a.length : Int) ∧ (a.length : Int) * 24 ≤ 140737488355328) <|
 (subband_clone.l0 K a (a.length : Int) K 0 b : Option ((List (List Int)))).bind fun d=>
  some d
def subband_Params_swapped_1.r0 (_K : Nat) (b l : Int) (h i : List (List Int)) (next : Int → List (List Int) → List (List Int) → Option ((List (List Int)) × (List (List Int)))) (a : Int) (d e : List (List Int)) : Option ((List (List Int)) × (List (List Int))):=
 let m:=(decide (a < l))
 bif m then
  gd ((0 : Int) ≤ a ∧ a < (d.length : Int)) <|
  let f:=(List.getD d (Int.toNat a) [])
  gd ((Int.toNat a) < d.length) <|
  gd ((0 : Int) ≤ a ∧ a < (e.length : Int)) <|
  let g:=(List.getD e (Int.toNat a) [])
  gd ((Int.toNat a) < e.length) <|
  let j:=(Kd.nth (.slice (.int .i32)) h (Int.toNat a))
  gd ((0 : Int) ≤ a ∧ a < (h.length : Int)) <|
  let n:=(Kd.nth (.int .i32) j (Int.toNat b))
  gd ((0 : Int) ≤ b ∧ b < (j.length : Int)) <|
  let k:=(Kd.nth (.slice (.int .i32)) i (Int.toNat a))
  gd ((0 : Int) ≤ a ∧ a < (i.length : Int)) <|
  let o:=(Kd.nth (.int .i32) k (Int.toNat b))
  gd ((0 : Int) ≤ b ∧ b < (k.length : Int)) <|
  gd ((0 : Int) ≤ b ∧ b < (f.length : Int)) <|
  let p:=(List.set f (Int.toNat b) n)
  gd ((Int.toNat b) < f.length) <|
  gd ((0 : Int) ≤ b ∧ b < (g.length : Int)) <|
  let q:=(List.set g (Int.toNat b) o)
  gd ((Int.toNat b) < g.length) <|
  let s:=(kwrap .i64 (a + 1))
  next s (List.set d (Int.toNat a) p) (List.set e (Int.toNat a) q)
 else
  some (d,e)
def subband_Params_swapped_1.l0 (K : Nat) (a b : Int) (d e : List (List Int)) (n : Nat) : Int → List (List Int) → List (List Int) → Option ((List (List Int)) × (List (List Int))):=rounds (subband_Params_swapped_1.r0 K a b d e) (fun _ _ _=>none) n
def subband_Params_swapped_1 (K : Nat) (b : Int) (a d e f : List (List Int)) : Option ((List (List Int)) × (List (List Int))):=
 (subband_Params_swapped_1.l0 K b (a.length : Int) a d K 0 e f : Option ((List (List Int)) × (List (List Int)))).bind fun (g,h)=>
  some (g,h)
def subband_Params_each.r0 (K : Nat) (f : Int) (g h : List (List Int)) (b : List Int) (next : Int → List (List Int) → List (List Int) → Option ((List (List Int)) × (List (List Int)))) (a : Int) (d e : List (List Int)) : Option ((List (List Int)) × (List (List Int))):=
 let i:=(decide (a < f))
 bif i then
  (
   let j:=(Kd.nth (.int .i64) b (Int.toNat a))
   gd ((0 : Int) ≤ a ∧ a < (b.length : Int) ∧ (Int.toNat a) < b.length) <|
   bif (j == 1) then
    (subband_Params_swapped_1 K a g h d e).bind fun (k,l)=>
    some (k,l)
   else
    some (d,e) : Option ((List (List Int)) × (List (List Int)))).bind fun (m,n)=>
   let o:=(kwrap .i64 (a + 1))
   next o m n
 else
  some (d,e)
def subband_Params_each.l0 (K : Nat) (a : Int) (b d : List (List Int)) (e : List Int) (n : Nat) : Int → List (List Int) → List (List Int) → Option ((List (List Int)) × (List (List Int))):=rounds (subband_Params_each.r0 K a b d e) (fun _ _ _=>none) n
def subband_Params_each (K : Nat) (b d : List (List Int)) (a : List Int) (e f : List (List Int)) : Option ((List (List Int)) × (List (List Int))):=
 (subband_Params_each.l0 K (a.length : Int) b d a K 0 e f : Option ((List (List Int)) × (List (List Int)))).bind fun (g,h)=>
  some (g,h)
def subband_Params_swapped (K : Nat) (a : List (List (List Int))) (b : List Int) : Option ((List (List (List Int)))):=
 (slices_Contains_int_int_2 K 1 b).bind fun f=>
 bif (!f) then
  some a
 else
  let d:=(Kd.nth (.slice (.slice (.int .i32))) a 0)
  gd (0 < (a.length : Int)) <|
  let e:=(Kd.nth (.slice (.slice (.int .i32))) a 1)
  gd (1 < (a.length : Int)) <|
  (quant_Middle K d e).bind fun (g,h,_m)=>
  gd (0 < (a.length : Int)) <|
  (subband_clone K d).bind fun i=>
  gd (1 < (a.length : Int)) <|
  (subband_clone K e).bind fun j=>
  (subband_Params_each K g h b i j).bind fun (k,l)=>
  some ([k,l])
def quant_Quant (K : Nat) (g a b : Int) : Option (Int × Int):=
 (quant_may K a b).bind fun h=>
 bif (!h) then
  some (0,1)
 else
  bif (b == 0) then
   some (0,0)
  else
   let d:=(kshl .i64 2 a)
   gd ((0 : Int) ≤ a) <|
   let i:=(kshl .i64 1 b)
   gd ((0 : Int) ≤ b) <|
   let e:=(kwrap .i64 (i - 1))
   let j:=(kwrap .i64 (1 - d))
   let k:=(kwrap .i64 (d - 1))
   (fix_Clip K (kwrap .i64 g) j k).bind fun l=>
   let m:=(kwrap .i64 (l * e))
   let f:=(kwrap .i64 (a + 1))
   let n:=(kshr .i64 m f)
   let o:=(kwrap .i64 (n + e))
   let p:=(kshr .i64 o 1)
   gd ((0 : Int) ≤ f) <|
   some (p,0)
def subband_Analyse.r2 (K : Nat) (_y : List (List (List Int))) (f : List (List Int)) (e a _z _A : Int) (g : List Int) (n _B _D _E _F _G _H _I _J _L _M : Int) (h : List (List Int)) (_N : List Int) (i : List (List (List Int))) (_O : Nat) (next : Int → List (List Int) → Option ((List (List Int)))) (b : Int) (d : List (List Int)) : Option ((List (List Int))):=
 let o:=(decide (b < n))
 bif o then
  let p:=(Kd.nth (.int .i32) g (Int.toNat b))
  gd ((0 : Int) ≤ b ∧ b < (g.length : Int)) <|
  let j:=(Kd.nth (.slice (.int .i64)) h (Int.toNat a))
  gd ((0 : Int) ≤ a ∧ a < (h.length : Int)) <|
  let q:=(Kd.nth (.int .i64) j (Int.toNat b))
  gd ((0 : Int) ≤ b ∧ b < (j.length : Int)) <|
  let k:=(Kd.nth (.slice (.int .i64)) f (Int.toNat a))
  gd ((0 : Int) ≤ a ∧ a < (f.length : Int)) <|
  let s:=(Kd.nth (.int .i64) k (Int.toNat b))
  gd ((0 : Int) ≤ b ∧ b < (k.length : Int)) <|
  (quant_Quant K p q s).bind fun (l,_P)=>
  gd ((0 : Int) ≤ e ∧ e < (i.length : Int)) <|
  gd ((0 : Int) ≤ e ∧ e < (i.length : Int)) <|
  gd ((0 : Int) ≤ a ∧ a < (d.length : Int)) <|
  let m:=(List.getD d (Int.toNat a) [])
  gd ((Int.toNat a) < d.length) <|
  let t:=(m ++ [l])
  gd (((m.length : Int) + ([l].length : Int)) * 8 ≤ 70368744177664) <|
  gd ((0 : Int) ≤ a ∧ a < (d.length : Int)) <|
  let u:=(List.set d (Int.toNat a) t)
  gd ((Int.toNat a) < d.length) <|
  let w:=(kwrap .i64 (b + 1))
  next w u
 else
  some d
def subband_Analyse.l2 (K : Nat) (a : List (List (List Int))) (b : List (List Int)) (d e f g : Int) (h : List Int) (i j k l m o p q s t u : Int) (w : List (List Int)) (y : List Int) (z : List (List (List Int))) (A n : Nat) : Int → List (List Int) → Option ((List (List Int))):=rounds (subband_Analyse.r2 K a b d e f g h i j k l m o p q s t u w y z A) (fun _ _=>none) n
def subband_Analyse.r1 (K : Nat) (b : List (List (List Int))) (j : List (List Int)) (d k e l m n o p q s t u w : Int) (y : List (List Int)) (z : List Int) (A : List (List (List Int))) (f : Nat) (next : Int → List (List Int) → Option ((List (List Int)))) (a : Int) (g : List (List Int)) : Option ((List (List Int))):=
 let B:=(decide (a < e))
 bif B then
  let h:=(Kd.nth (.slice (.slice (.int .i32))) b (Int.toNat a))
  let i:=(Kd.nth (.slice (.int .i32)) h f)
  let D:=(i.length : Int)
  gd ((0 : Int) ≤ a ∧ a < (b.length : Int) ∧ (0 : Int) ≤ d ∧ d < (h.length : Int)) <|
  (subband_Analyse.l2 K b j d a k e i D l m n o p q s t u w y z A f K 0 g : Option ((List (List Int)))).bind fun E=>
   let F:=(kwrap .i64 (a + 1))
   next F E
 else
  some g
def subband_Analyse.l1 (K : Nat) (a : List (List (List Int))) (b : List (List Int)) (d e f g h i j k l m o p q : Int) (s : List (List Int)) (t : List Int) (u : List (List (List Int))) (w n : Nat) : Int → List (List Int) → Option ((List (List Int))):=rounds (subband_Analyse.r1 K a b d e f g h i j k l m o p q s t u w) (fun _ _=>none) n
def subband_Analyse.r0 (K : Nat) (e : List (List (List Int))) (g : List (List Int)) (f h i b j k l m n o p : Int) (q : List (List Int)) (s : List Int) (next : Int → List (List (List Int)) → Option ((List (List (List Int))))) (a : Int) (d : List (List (List Int))) : Option ((List (List (List Int)))):=
 let t:=(decide (a < f))
 bif t then
  let u:=(List.replicate (Int.toNat b) ([] : List Int))
  gd ((0 : Int) ≤ b ∧ b ≤ b ∧ b * 24 ≤ 140737488355328) <|
  gd ((0 : Int) ≤ a ∧ a < (d.length : Int)) <|
  gd ((Int.toNat a) < d.length) <|
  (subband_Analyse.l1 K e g a f (e.length : Int) h i b j k l m n o p q s d (Int.toNat a) K 0 u : Option ((List (List Int)))).bind fun w=>
   let y:=(kwrap .i64 (a + 1))
   next y (List.set d (Int.toNat a) w)
 else
  some d
def subband_Analyse.l0 (K : Nat) (a : List (List (List Int))) (b : List (List Int)) (d e f g h i j k l m o : Int) (p : List (List Int)) (q : List Int) (n : Nat) : Int → List (List (List Int)) → Option ((List (List (List Int)))):=rounds (subband_Analyse.r0 K a b d e f g h i j k l m o p q) (fun _ _=>none) n
def subband_Analyse.r3 (K : Nat) (d : List (List (List Int))) (f _k _l _m _n _o _p _q _s _t _u : Int) (_w : List Int) (next : Int → List (List Int) → Option ((List (List Int)))) (a : Int) (b : List (List Int)) : Option ((List (List Int))):=
 let g:=(decide (a < f))
 bif g then
  let h:=(Kd.nth (.slice (.slice (.int .i32))) d (Int.toNat a))
  gd ((0 : Int) ≤ a ∧ a < (d.length : Int)) <|
  (quant_Scales K h).bind fun (e,_y)=>
  let i:=(b ++ [e])
  gd (((b.length : Int) + ([e].length : Int)) * 24 ≤ 70368744177664) <|
  let j:=(kwrap .i64 (a + 1))
  next j i
 else
  some b
def subband_Analyse.l3 (K : Nat) (a : List (List (List Int))) (b d e f g h i j k l m : Int) (o : List Int) (n : Nat) : Int → List (List Int) → Option ((List (List Int))):=rounds (subband_Analyse.r3 K a b d e f g h i j k l m o) (fun _ _=>none) n
def subband_Analyse.r4 (_K : Nat) (_k : List (List (List Int))) (d : List (Bool)) (e _l _m _n _o _p _q _s _t _u _w : Int) (next : Int → List Int → Option ((List Int))) (a : Int) (b : List Int) : Option ((List Int)):=
 let f:=(decide (a < e))
 bif f then
  (
   let g:=(Kd.nth (.bool) d (Int.toNat a))
   gd ((0 : Int) ≤ a ∧ a < (d.length : Int)) <|
   bif g then
    let h:=(List.set b (Int.toNat a) 1)
    gd ((0 : Int) ≤ a ∧ a < (b.length : Int) ∧ (Int.toNat a) < b.length) <|
    some h
   else
    some b : Option ((List Int))).bind fun i=>
   let j:=(kwrap .i64 (a + 1))
   next j i
 else
  some b
def subband_Analyse.l4 (K : Nat) (a : List (List (List Int))) (b : List (Bool)) (d e f g h i j k l m o : Int) (n : Nat) : Int → List Int → Option ((List Int)):=rounds (subband_Analyse.r4 K a b d e f g h i j k l m o) (fun _ _=>none) n
def subband_Analyse (K : Nat) (f g h a b i d j k l : Int) (e : List (List (List Int))) : Option ((List Int) × (List (List Int)) × (List (List (List Int))) × Int):=
 (subband_may K f g h a b i d j k l).bind fun p=>
 bif (p != 0) then
  some (([] : List Int),([] : List (List Int)),([] : List (List (List Int))),p)
 else
  (subband_fits K f g h a b i d j k l e).bind fun u=>
  bif (!u) then
   some (([] : List Int),([] : List (List Int)),([] : List (List (List Int))),1)
  else
   let q:=(List.replicate (Int.toNat a) (0 : Int))
   gd ((0 : Int) ≤ a ∧ a ≤ a ∧ a * 8 ≤ 140737488355328) <|
   (
    bif (d == 1) then
     let w:=(Kd.nth (.slice (.slice (.int .i32))) e 0)
     gd (0 < (e.length : Int)) <|
     let y:=(Kd.nth (.slice (.slice (.int .i32))) e 1)
     gd (1 < (e.length : Int)) <|
     (quant_Joins K w y).bind fun (s,_E)=>
     (subband_Analyse.l4 K e s (s.length : Int) f g h a b i d j k l K 0 q : Option ((List Int))).bind fun z=>
      some z
    else
     some q : Option ((List Int))).bind fun m=>
    (subband_Params_swapped K e m).bind fun n=>
    (subband_Analyse.l3 K n (n.length : Int) f g h a b i d j k l m K 0 ([] : List (List Int)) : Option ((List (List Int)))).bind fun o=>
     (alloc_Share K f g h a b i d j k l o).bind fun (A,_F)=>
     let t:=(List.replicate (Int.toNat b) ([] : List (List Int)))
     gd ((0 : Int) ≤ b ∧ b ≤ b ∧ b * 24 ≤ 140737488355328) <|
     let B:=(t.length : Int)
     (subband_Analyse.l0 K n A B f g h a b i d j k l o m K 0 t : Option ((List (List (List Int))))).bind fun D=>
      some (m,o,D,0)
def subband_Encoder_Feed_2.r1 (K : Nat) (e : List Int) (_u : List (List Int)) (_w _y _z _A k _B _D _E _F _G _H l : Int) (m n : List Int) (next : Int → Int → List Int → List (List (List Int)) → Option (Int × (List Int) × (List (List (List Int))))) (f b : Int) (g : List Int) (a : List (List (List Int))) : Option (Int × (List Int) × (List (List (List Int)))):=
 let h:=(e.length : Int)
 let o:=(decide (b < h))
 bif o then
  bif f == 0 then
   let d:=(kwrap .i64 (b + k))
   let p:=((e.take (Int.toNat d)).drop (Int.toNat b))
   gd ((0 : Int) ≤ b ∧ b ≤ d ∧ d ≤ h) <|
   (poly_Splitter_Feed K p l m n g).bind fun (i,_I,q)=>
   let j:=(List.getD a 0 [])
   let s:=(j ++ [i])
   let t:=(List.set a 0 s)
   gd (0 < (a.length : Int) ∧ 0 < a.length ∧ ((j.length : Int) + ([i].length : Int)) * 24 ≤ 70368744177664 ∧ 0 < (a.length : Int) ∧ 0 < a.length) <|
   next 0 d q t
  else
   none
 else
  some (f,g,a)
def subband_Encoder_Feed_2.l1 (K : Nat) (a : List Int) (b : List (List Int)) (d e f g h i j k l m o p : Int) (q s : List Int) (n : Nat) : Int → Int → List Int → List (List (List Int)) → Option (Int × (List Int) × (List (List (List Int)))):=rounds (subband_Encoder_Feed_2.r1 K a b d e f g h i j k l m o p q s) (fun _ _ _ _=>none) n
def subband_Encoder_Feed_2.r0 (K : Nat) (b : List (List Int)) (d g h i j k l m n o p q : Int) (s t : List Int) (next : Int → List Int → List (List (List Int)) → Option ((List Int) × (List (List (List Int))))) (a : Int) (e : List Int) (f : List (List (List Int))) : Option ((List Int) × (List (List (List Int)))):=
 let u:=(decide (a < d))
 bif u then
  let w:=(Kd.nth (.slice (.int .i16)) b (Int.toNat a))
  gd ((0 : Int) ≤ a ∧ a < (b.length : Int)) <|
  (subband_Encoder_Feed_2.l1 K w b d g h i j k l m n o p q s t K a 0 e f : Option (Int × (List Int) × (List (List (List Int))))).bind fun (y,z,A)=>
   let B:=(kwrap .i64 (y + 1))
   next B z A
 else
  some (e,f)
def subband_Encoder_Feed_2.l0 (K : Nat) (a : List (List Int)) (b d e f g h i j k l m o : Int) (p q : List Int) (n : Nat) : Int → List Int → List (List (List Int)) → Option ((List Int) × (List (List (List Int)))):=rounds (subband_Encoder_Feed_2.r0 K a b d e f g h i j k l m o p q) (fun _ _ _=>none) n
def subband_Encoder_Feed_2 (K : Nat) (l : List Int) (e f a b d g h i j k o : Int) (p q m : List Int) : Option ((List Int) × Int × (List Int)):=
 let s:=(kwrap .i64 (a * b))
 let t:=(kwrap .i64 (s * d))
 let u:=((l.length : Int) != t)
 bif u then
  some (([] : List Int),1,m)
 else
  (pcm_Part K l a).bind fun (n,_G)=>
  let w:=(List.replicate (Int.toNat a) ([] : List (List Int)))
  gd ((0 : Int) ≤ a ∧ a ≤ a ∧ a * 24 ≤ 140737488355328) <|
  (subband_Encoder_Feed_2.l0 K n (n.length : Int) e f a b d g h i j k o p q K 0 m w : Option ((List Int) × (List (List (List Int))))).bind fun (y,z)=>
   (subband_Analyse K e f a b d g h i j k z).bind fun (A,B,D,_H)=>
   (subband_Pack K e f a b d g h i j k A B D).bind fun (E,F)=>
   some (E,F,y)
def subband_Encoder_Feed_3.r1 (K : Nat) (d : List Int) (_O : List (List Int)) (_P _Q _R _S e _T _U _V _W _X _Y p : Int) (q s : List Int) (t : Int) (u w : List Int) (next : Int → Int → List Int → List Int → List (List (List Int)) → Option (Int × (List Int) × (List Int) × (List (List (List Int))))) (f b : Int) (g h : List Int) (a : List (List (List Int))) : Option (Int × (List Int) × (List Int) × (List (List (List Int)))):=
 let i:=(d.length : Int)
 let y:=(decide (b < i))
 bif y then
  (
   bif f == 0 then
    let j:=(kwrap .i64 (b + e))
    let z:=((d.take (Int.toNat j)).drop (Int.toNat b))
    gd ((0 : Int) ≤ b ∧ b ≤ j ∧ j ≤ i) <|
    (poly_Splitter_Feed K z p q s g).bind fun (l,_Z,A)=>
    let m:=(List.getD a 0 [])
    let B:=(m ++ [l])
    let D:=(List.set a 0 B)
    gd (0 < (a.length : Int) ∧ 0 < a.length ∧ ((m.length : Int) + ([l].length : Int)) * 24 ≤ 70368744177664 ∧ 0 < (a.length : Int) ∧ 0 < a.length) <|
    some (0,A,h,D)
   else
    bif f == 1 then
     let k:=(kwrap .i64 (b + e))
     let E:=((d.take (Int.toNat k)).drop (Int.toNat b))
     gd ((0 : Int) ≤ b ∧ b ≤ k ∧ k ≤ i) <|
     (poly_Splitter_Feed K E t u w h).bind fun (n,_aa,F)=>
     let o:=(List.getD a 1 [])
     let G:=(o ++ [n])
     let H:=(List.set a 1 G)
     gd (1 < (a.length : Int) ∧ 1 < a.length ∧ ((o.length : Int) + ([n].length : Int)) * 24 ≤ 70368744177664 ∧ 1 < (a.length : Int) ∧ 1 < a.length) <|
     some (1,g,F,H)
    else
     none : Option (Int × (List Int) × (List Int) × (List (List (List Int))))).bind fun (I,J,L,M)=>
   let N:=(kwrap .i64 (b + e))
   next I N J L M
 else
  some (f,g,h,a)
def subband_Encoder_Feed_3.l1 (K : Nat) (a : List Int) (b : List (List Int)) (d e f g h i j k l m o p : Int) (q s : List Int) (t : Int) (u w : List Int) (n : Nat) : Int → Int → List Int → List Int → List (List (List Int)) → Option (Int × (List Int) × (List Int) × (List (List (List Int)))):=rounds (subband_Encoder_Feed_3.r1 K a b d e f g h i j k l m o p q s t u w) (fun _ _ _ _ _=>none) n
def subband_Encoder_Feed_3.r0 (K : Nat) (b : List (List Int)) (d h i j k l m n o p q s : Int) (t u : List Int) (w : Int) (y z : List Int) (next : Int → List Int → List Int → List (List (List Int)) → Option ((List Int) × (List Int) × (List (List (List Int))))) (a : Int) (e f : List Int) (g : List (List (List Int))) : Option ((List Int) × (List Int) × (List (List (List Int)))):=
 let A:=(decide (a < d))
 bif A then
  let B:=(Kd.nth (.slice (.int .i16)) b (Int.toNat a))
  gd ((0 : Int) ≤ a ∧ a < (b.length : Int)) <|
  (subband_Encoder_Feed_3.l1 K B b d h i j k l m n o p q s t u w y z K a 0 e f g : Option (Int × (List Int) × (List Int) × (List (List (List Int))))).bind fun (D,E,F,G)=>
   let H:=(kwrap .i64 (D + 1))
   next H E F G
 else
  some (e,f,g)
def subband_Encoder_Feed_3.l0 (K : Nat) (a : List (List Int)) (b d e f g h i j k l m o : Int) (p q : List Int) (s : Int) (t u : List Int) (n : Nat) : Int → List Int → List Int → List (List (List Int)) → Option ((List Int) × (List Int) × (List (List (List Int)))):=rounds (subband_Encoder_Feed_3.r0 K a b d e f g h i j k l m o p q s t u) (fun _ _ _ _=>none) n
def subband_Encoder_Feed_3 (K : Nat) (l : List Int) (e f a b d g h i j k p : Int) (q s : List Int) (t : Int) (u w m n : List Int) : Option ((List Int) × Int × (List Int) × (List Int)):=
 let y:=(kwrap .i64 (a * b))
 let z:=(kwrap .i64 (y * d))
 let A:=((l.length : Int) != z)
 bif A then
  some (([] : List Int),1,m,n)
 else
  (pcm_Part K l a).bind fun (o,_M)=>
  let B:=(List.replicate (Int.toNat a) ([] : List (List Int)))
  gd ((0 : Int) ≤ a ∧ a ≤ a ∧ a * 24 ≤ 140737488355328) <|
  (subband_Encoder_Feed_3.l0 K o (o.length : Int) e f a b d g h i j k p q s t u w K 0 m n B : Option ((List Int) × (List Int) × (List (List (List Int))))).bind fun (D,E,F)=>
   (subband_Analyse K e f a b d g h i j k F).bind fun (G,H,I,_N)=>
   (subband_Pack K e f a b d g h i j k G H I).bind fun (J,L)=>
   some (J,L,D,E)
def psalterylaw14_alive (K : Nat)  : Option (Bool):=
 (bank_New K ).bind fun _=>
 (psalterylaw14_plain K ).bind fun _=>
 (subband_NewEncoder K 1 0 1 4 4 0 0 2 0 0 (List.replicate 388 none) 0 0).bind fun z=>match z with
 | .inl t=>
  let u:=(bif (t != 0) then true else true)
  bif u then
   some false
  else
   (subband_Encoder_Feed K (List.replicate 16 (0 : Int))).bind fun w=>
   (subband_Encoder_Feed K (List.replicate 15 (0 : Int))).bind fun _ai=>
   (psalterylaw14_plain K ).bind fun _=>
   (subband_Parse K 1 0 1 4 4 0 0 2 0 0 w).bind fun (_aj,_ak,_al,_am)=>
   some false
 | .inr (.inl (_an,_ao,_ap,d,e,f,y))=>
  (subband_Encoder_Feed_2 K (List.replicate 16 (0 : Int)) 1 0 1 4 4 0 0 2 0 0 d e f y).bind fun (a,A,B)=>
  (subband_Encoder_Feed_2 K (List.replicate 15 (0 : Int)) 1 0 1 4 4 0 0 2 0 0 d e f B).bind fun (_aq,D,_au)=>
  (psalterylaw14_plain K ).bind fun _=>
  (subband_Parse K 1 0 1 4 4 0 0 2 0 0 a).bind fun (_aw,_ay,E,F)=>
  let G:=((a.length : Int) == 7)
  let g:=(bif (A == 0) then G else false)
  let H:=(Kd.nth (.int .u8) a 0)
  let h:=(bif g then (H == 156) else false)
  let I:=(Kd.nth (.int .u8) a 1)
  let i:=(bif h then (I == 0) else false)
  let J:=(Kd.nth (.int .u8) a 2)
  let L:=(bif i then (J == 2) else false)
  let M:=(bif L then (D == 1) else false)
  let N:=(bif M then (F == 0) else false)
  let O:=((E.length : Int) == 4)
  let P:=(bif N then O else false)
  gd ((g = true → 0 < (a.length : Int)) ∧ (h = true → 1 < (a.length : Int)) ∧ (i = true → 2 < (a.length : Int))) <|
  some P
 | .inr (.inr (_az,_aA,_aB,j,k,l,m,n,o,Q,R))=>
  (subband_Encoder_Feed_3 K (List.replicate 16 (0 : Int)) 1 0 2 4 4 0 0 2 0 0 j k l m n o Q R).bind fun (b,S,T,U)=>
  (subband_Encoder_Feed_3 K (List.replicate 15 (0 : Int)) 1 0 2 4 4 0 0 2 0 0 j k l m n o T U).bind fun (_aD,V,_aE,_aF)=>
  (psalterylaw14_plain K ).bind fun _=>
  (subband_Parse K 1 0 1 4 4 0 0 2 0 0 b).bind fun (_aG,_aH,W,X)=>
  let Y:=((b.length : Int) == 7)
  let p:=(bif (S == 0) then Y else false)
  let Z:=(Kd.nth (.int .u8) b 0)
  let q:=(bif p then (Z == 156) else false)
  let aa:=(Kd.nth (.int .u8) b 1)
  let s:=(bif q then (aa == 0) else false)
  let ab:=(Kd.nth (.int .u8) b 2)
  let ad:=(bif s then (ab == 2) else false)
  let ae:=(bif ad then (V == 1) else false)
  let af:=(bif ae then (X == 0) else false)
  let ag:=((W.length : Int) == 4)
  let ah:=(bif af then ag else false)
  gd ((p = true → 0 < (b.length : Int)) ∧ (q = true → 1 < (b.length : Int)) ∧ (s = true → 2 < (b.length : Int))) <|
  some ah
def psalteryref13_Far.r0 (_K : Nat) (b : List (List Int)) (next : Int → Option ((Unit) ⊕ (Bool))) (a : Int) : Option ((Unit) ⊕ (Bool)):=
 let d:=(decide (a < (b.length : Int)))
 bif d then
  let e:=(Kd.nth (.slice (.int .i32)) b (Int.toNat a))
  let f:=(e.length : Int)
  let g:=(decide (f > 40))
  gd ((0 : Int) ≤ a ∧ a < (b.length : Int)) <|
  bif g then
   some (.inr true)
  else
   let h:=(kwrap .i64 (a + 1))
   next h
 else
  some (.inl ())
def psalteryref13_Far.l0 (K : Nat) (a : List (List Int)) (n : Nat) : Int → Option ((Unit) ⊕ (Bool)):=rounds (psalteryref13_Far.r0 K a) (fun _=>none) n
def psalteryref13_Far (K : Nat) (a : List (List Int)) : Option (Bool):=
 let b:=(decide ((a.length : Int) > 40))
 bif b then
  some true
 else
  (psalteryref13_Far.l0 K a K 0 : Option ((Unit) ⊕ (Bool))).bind fun z=>match z with
  | .inl _=>
   some false
  | .inr r=>
   some r
def psalteryref14_FarPlanes.r0 (K : Nat) (b : List (List (List Int))) (next : Int → Option ((Unit) ⊕ (Bool))) (a : Int) : Option ((Unit) ⊕ (Bool)):=
 let d:=(decide (a < (b.length : Int)))
 bif d then
  let e:=(Kd.nth (.slice (.slice (.int .i32))) b (Int.toNat a))
  gd ((0 : Int) ≤ a ∧ a < (b.length : Int)) <|
  (psalteryref13_Far K e).bind fun f=>
  bif f then
   some (.inr true)
  else
   let g:=(kwrap .i64 (a + 1))
   next g
 else
  some (.inl ())
def psalteryref14_FarPlanes.l0 (K : Nat) (a : List (List (List Int))) (n : Nat) : Int → Option ((Unit) ⊕ (Bool)):=rounds (psalteryref14_FarPlanes.r0 K a) (fun _=>none) n
def psalteryref14_FarPlanes (K : Nat) (a : List (List (List Int))) : Option (Bool):=
 let b:=(decide ((a.length : Int) > 10))
 bif b then
  some true
 else
  (psalteryref14_FarPlanes.l0 K a K 0 : Option ((Unit) ⊕ (Bool))).bind fun z=>match z with
  | .inl _=>
   some false
  | .inr r=>
   some r
def poly_NewJoiner (K : Nat) (b : Int) (h : List (Option (List Int))) (i j : Int) : Option ((Int × (List (Option (List Int))) × Int × Int) ⊕ ((List (Option (List Int))) × Int × Int × Int × (List Int) × (List Int) × (List Int))):=
 (poly_tables K b h i j).bind fun (k,l,m,d,e,f,g)=>
 bif (d != 0) then
  some (.inl (d,e,f,g))
 else
  let a:=(kwrap .i64 (20 * b))
  let n:=(List.replicate (Int.toNat a) (0 : Int))
  gd ((0 : Int) ≤ a ∧ a ≤ a ∧ a * 8 ≤ 140737488355328) <|
  some (.inr (e,f,g,k,l,m,n))
def subband_NewDecoder (K : Nat) (h i b a j k l m n o : Int) (d : List (Option (List Int))) (e f : Int) : Option ((Int) ⊕ ((List (Option (List Int))) × Int × Int × Int × (List Int) × (List Int) × (List Int)) ⊕ ((List (Option (List Int))) × Int × Int × Int × (List Int) × (List Int) × Int × (List Int) × (List Int) × (List Int) × (List Int))):=
 (subband_may K h i b a j k l m n o).bind fun g=>
 bif (g != 0) then
  some (.inl g)
 else
  bif b == 1 then
   (poly_NewJoiner K a d e f).bind fun z=>match z with
   | .inl (_Q,_R,_S,_T)=>
    none
   | .inr (p,q,s,t,u,w,y)=>
    some (.inr (.inl (p,q,s,t,u,w,y)))
  else
   bif b == 2 then
    (poly_NewJoiner K a d e f).bind fun z=>match z with
    | .inl (_U,_V,_W,_X)=>
     none
    | .inr (A,B,D,E,F,G,H)=>
     (poly_NewJoiner K a A B D).bind fun z=>match z with
     | .inl (_Y,_Z,_aa,_ab)=>
      none
     | .inr (I,J,L,M,N,O,P)=>
      some (.inr (.inr (I,J,L,E,F,G,M,N,O,H,P)))
   else
    none
def psalteryref11_Bits.r0 (_K : Nat) (_j _k d e _l _m _n _o _p _q : Int) (next : Int → Int → Option (Int)) (a b : Int) : Option (Int):=
 let f:=(decide (b < d))
 bif f then
  let g:=(kwrap .i64 (4 * e))
  let h:=(kwrap .i64 (a + g))
  let i:=(kwrap .i64 (b + 1))
  next h i
 else
  some a
def psalteryref11_Bits.l0 (K : Nat) (a b d e f g h i j k : Int) (n : Nat) : Int → Int → Option (Int):=rounds (psalteryref11_Bits.r0 K a b d e f g h i j k) (fun _ _=>none) n
def psalteryref11_Bits (K : Nat) (a i j b d k e f l g : Int) : Option (Int):=
 bif (a == 2) then
  let m:=(kwrap .i64 (g * 8))
  some m
 else
  let n:=(kwrap .i64 (d * f))
  let o:=(kwrap .i64 (32 + n))
  (psalteryref11_Bits.l0 K a i j b d k e f l g K o 0 : Option (Int)).bind fun h=>
   (
    bif (e == 1) then
     let p:=(kwrap .i64 (h + b))
     some p
    else
     some h : Option (Int)).bind fun q=>
    some q
def psalteryref11_Sub (K : Nat) (i f a d b g h e j k : Int) : Option (Bool):=
 let l:=(bif (i != 1) then true else (j != 0))
 let m:=(bif l then true else (k != 0))
 bif m then
  some false
 else
  let n:=(decide (f < 0))
  let o:=(decide (f > 3))
  let p:=(bif n then true else o)
  let q:=(decide (a < 1))
  let s:=(bif p then true else q)
  let t:=(decide (a > 2))
  let u:=(bif s then true else t)
  let w:=(decide (g < 0))
  let y:=(bif u then true else w)
  let z:=(decide (g > 1))
  let A:=(bif y then true else z)
  bif A then
   some false
  else
   let B:=(bif (d != 4) then (d != 8) else false)
   let D:=(bif (b != 4) then (b != 8) else false)
   let E:=(bif D then (b != 12) else false)
   let F:=(bif E then (b != 16) else false)
   let G:=(bif B then true else F)
   bif G then
    some false
   else
    let H:=(bif (h != 1) then true else (a != 2))
    let I:=(bif (h != 0) then H else false)
    bif I then
     some false
    else
     (
      let J:=(decide (e ≥ 2))
      let L:=(decide (e ≤ 250))
      let M:=(bif J then L else false)
      let N:=(kwrap .i64 (16 * d))
      let O:=(kwrap .i64 (N * a))
      let P:=(decide (e ≤ O))
      let Q:=(bif M then P else false)
      bif Q then
       (psalteryref11_Bits K i f a d b g h e j k).bind fun R=>
       let S:=(decide (R ≤ 4096))
       some S
      else
       some false : Option (Bool)).bind fun T=>
      some T
def subband_Decoder_Play (_K : Nat) (_a : List (List (List Int))) : Option ((List Int)):=
 some ([] : List Int)
def psalteryref14_Fits.r1 (_K : Nat) (d : List (List (List Int))) (b _l _m _n f g _o _p _q _s _t : Int) (next : Int → Option ((Unit) ⊕ (Bool))) (a : Int) : Option ((Unit) ⊕ (Bool)):=
 let h:=(decide (a < g))
 bif h then
  let e:=(Kd.nth (.slice (.slice (.int .i32))) d (Int.toNat b))
  gd ((0 : Int) ≤ b ∧ b < (d.length : Int)) <|
  let i:=(Kd.nth (.slice (.int .i32)) e (Int.toNat a))
  gd ((0 : Int) ≤ a ∧ a < (e.length : Int)) <|
  let j:=(i.length : Int)
  bif (j != f) then
   some (.inr false)
  else
   let k:=(kwrap .i64 (a + 1))
   next k
 else
  some (.inl ())
def psalteryref14_Fits.l1 (K : Nat) (a : List (List (List Int))) (b d e f g h i j k l m : Int) (n : Nat) : Int → Option ((Unit) ⊕ (Bool)):=rounds (psalteryref14_Fits.r1 K a b d e f g h i j k l m) (fun _=>none) n
def psalteryref14_Fits.r0 (K : Nat) (b : List (List (List Int))) (e f g h d i j k l m : Int) (next : Int → Option ((Unit) ⊕ (Bool))) (a : Int) : Option ((Unit) ⊕ (Bool)):=
 let n:=(decide (a < (b.length : Int)))
 bif n then
  let o:=(Kd.nth (.slice (.slice (.int .i32))) b (Int.toNat a))
  gd ((0 : Int) ≤ a ∧ a < (b.length : Int)) <|
  let p:=(o.length : Int)
  bif (p != d) then
   some (.inr false)
  else
   (psalteryref14_Fits.l1 K b a e f g h d i j k l m K 0 : Option ((Unit) ⊕ (Bool))).bind fun z=>match z with
   | .inl _=>
    let q:=(kwrap .i64 (a + 1))
    next q
   | .inr r=>
    some (.inr r)
 else
  some (.inl ())
def psalteryref14_Fits.l0 (K : Nat) (a : List (List (List Int))) (b d e f g h i j k l : Int) (n : Nat) : Int → Option ((Unit) ⊕ (Bool)):=rounds (psalteryref14_Fits.r0 K a b d e f g h i j k l) (fun _=>none) n
def psalteryref14_Fits (K : Nat) (d e a f g h i j k l : Int) (b : List (List (List Int))) : Option (Bool):=
 let m:=((b.length : Int) != a)
 bif m then
  some false
 else
  (psalteryref14_Fits.l0 K b d e a f g h i j k l K 0 : Option ((Unit) ⊕ (Bool))).bind fun z=>match z with
  | .inl _=>
   some true
  | .inr r=>
   some r
def poly_Joiner_Feed.r1 (_K : Nat) (b d _L : Int) (e _M a _N : List Int) (next : Int → Int → Option (Int)) (k f : Int) : Option (Int):=
 let p:=(decide (f < 5))
 bif p then
  let q:=(kwrap .i64 (4 * b))
  let l:=(kwrap .i64 (q * f))
  let g:=(kwrap .i64 (l + d))
  let m:=(Int.toNat g)
  gd ((0 : Int) ≤ g ∧ g < (a.length : Int)) <|
  let s:=(Kd.nth (.int .i64) a m)
  gd (m < a.length) <|
  let t:=(kwrap .i64 (2 * b))
  let n:=(kwrap .i64 (t * f))
  let h:=(kwrap .i64 (n + d))
  let u:=(Kd.nth (.int .i16) e (Int.toNat h))
  gd ((0 : Int) ≤ h ∧ h < (e.length : Int)) <|
  let w:=(kwrap .i64 u)
  let y:=(kwrap .i64 (s * w))
  let z:=(kwrap .i64 (3 * b))
  let A:=(kwrap .i64 (l + z))
  let i:=(kwrap .i64 (A + d))
  let o:=(Int.toNat i)
  gd ((0 : Int) ≤ i ∧ i < (a.length : Int)) <|
  let B:=(Kd.nth (.int .i64) a o)
  gd (o < a.length) <|
  let D:=(kwrap .i64 (n + b))
  let j:=(kwrap .i64 (D + d))
  let E:=(Kd.nth (.int .i16) e (Int.toNat j))
  gd ((0 : Int) ≤ j ∧ j < (e.length : Int)) <|
  let F:=(kwrap .i64 E)
  let G:=(kwrap .i64 (B * F))
  let H:=(kwrap .i64 (y + G))
  let I:=(kwrap .i64 (H - k))
  let J:=(kwrap .i64 (f + 1))
  next I J
 else
  some k
def poly_Joiner_Feed.l1 (K : Nat) (a b d : Int) (e f g h : List Int) (n : Nat) : Int → Int → Option (Int):=rounds (poly_Joiner_Feed.r1 K a b d e f g h) (fun _ _=>none) n
def poly_Joiner_Feed.r0 (K : Nat) (e d : Int) (f g h : List Int) (next : Int → List Int → Option ((List Int))) (a : Int) (b : List Int) : Option ((List Int)):=
 let i:=(decide (a < d))
 bif i then
  (poly_Joiner_Feed.l1 K e a d f g h b K 0 0 : Option (Int)).bind fun j=>
   (fix_Round K j 14).bind fun k=>
   (fix_Sat16 K k).bind fun l=>
   let m:=(List.set b (Int.toNat a) l)
   gd ((0 : Int) ≤ a ∧ a < (b.length : Int) ∧ (Int.toNat a) < b.length) <|
   let n:=(kwrap .i64 (a + 1))
   next n m
 else
  some b
def poly_Joiner_Feed.l0 (K : Nat) (a b : Int) (d e f : List Int) (n : Nat) : Int → List Int → Option ((List Int)):=rounds (poly_Joiner_Feed.r0 K a b d e f) (fun _ _=>none) n
def poly_Joiner_Feed.r3 (K : Nat) (b : List Int) (d f _y g : Int) (h i j : List Int) (next : Int → Int → Option (Int)) (e a : Int) : Option (Int):=
 let k:=(decide (a < g))
 bif k then
  let l:=(Kd.nth (.int .i32) b (Int.toNat a))
  gd ((0 : Int) ≤ a ∧ a < (b.length : Int)) <|
  let m:=(kwrap .i64 l)
  let n:=(kwrap .i64 (2 * a))
  let o:=(kwrap .i64 (n + 1))
  let p:=(kwrap .i64 (2 * f))
  let q:=(kwrap .i64 (p + d))
  (poly_bands_wave K o q d h i j).bind fun s=>
  let t:=(kwrap .i64 (m * s))
  let u:=(kwrap .i64 (e + t))
  let w:=(kwrap .i64 (a + 1))
  next u w
 else
  some e
def poly_Joiner_Feed.l3 (K : Nat) (a : List Int) (b d e f : Int) (g h i : List Int) (n : Nat) : Int → Int → Option (Int):=rounds (poly_Joiner_Feed.r3 K a b d e f g h i) (fun _ _=>none) n
def poly_Joiner_Feed.r2 (K : Nat) (d : List Int) (f e : Int) (g h : List Int) (next : Int → List Int → Option ((List Int))) (a : Int) (b : List Int) : Option ((List Int)):=
 let i:=(decide (a < e))
 bif i then
  (poly_Joiner_Feed.l3 K d f a e (d.length : Int) g h b K 0 0 : Option (Int)).bind fun j=>
   (poly_rounded K j 15).bind fun k=>
   gd ((0 : Int) ≤ a ∧ a < (b.length : Int)) <|
   let l:=(List.set b (Int.toNat a) k)
   gd ((Int.toNat a) < b.length) <|
   let m:=(kwrap .i64 (a + 1))
   next m l
 else
  some b
def poly_Joiner_Feed.l2 (K : Nat) (a : List Int) (b d : Int) (e f : List Int) (n : Nat) : Int → List Int → Option ((List Int)):=rounds (poly_Joiner_Feed.r2 K a b d e f) (fun _ _=>none) n
def poly_Joiner_Feed (K : Nat) (e : List Int) (a : Int) (f g b : List Int) : Option ((List Int) × Int × (List Int)):=
 let k:=((e.length : Int) != a)
 bif k then
  some (([] : List Int),1,b)
 else
  let d:=(kwrap .i64 (2 * a))
  let h:=(Int.toNat d)
  gd ((0 : Int) ≤ d ∧ d < (b.length : Int)) <|
  let l:=(cpy h b b)
  gd (h < b.length) <|
  (poly_Joiner_Feed.l2 K e a d f g K 0 l : Option ((List Int))).bind fun i=>
   let j:=(List.replicate (Int.toNat a) (0 : Int))
   gd ((0 : Int) ≤ a ∧ a ≤ a ∧ a * 2 ≤ 140737488355328) <|
   let m:=(j.length : Int)
   (poly_Joiner_Feed.l0 K a m f g i K 0 j : Option ((List Int))).bind fun n=>
    some (n,0,i)
def pcm_Weave.r1 (_K : Nat) (e : List (List Int)) (b _l h : Int) (next : Int → List Int → Option ((List Int))) (a : Int) (d : List Int) : Option ((List Int)):=
 let i:=(decide (a < h))
 bif i then
  let f:=(Kd.nth (.slice (.int .i16)) e (Int.toNat a))
  gd ((0 : Int) ≤ a ∧ a < (e.length : Int)) <|
  let g:=(Kd.nth (.int .i16) f (Int.toNat b))
  let j:=(d ++ [g])
  gd ((0 : Int) ≤ b ∧ b < (f.length : Int) ∧ ((d.length : Int) + ([g].length : Int)) * 2 ≤ 70368744177664) <|
  let k:=(kwrap .i64 (a + 1))
  next k j
 else
  some d
def pcm_Weave.l1 (K : Nat) (a : List (List Int)) (b d e : Int) (n : Nat) : Int → List Int → Option ((List Int)):=rounds (pcm_Weave.r1 K a b d e) (fun _ _=>none) n
def pcm_Weave.r0 (K : Nat) (b : List (List Int)) (d : Int) (next : Int → List Int → Option ((List Int))) (a : Int) (e : List Int) : Option ((List Int)):=
 let f:=(decide (a < d))
 bif f then
  (pcm_Weave.l1 K b a d (b.length : Int) K 0 e : Option ((List Int))).bind fun g=>
   let h:=(kwrap .i64 (a + 1))
   next h g
 else
  some e
def pcm_Weave.l0 (K : Nat) (a : List (List Int)) (b : Int) (n : Nat) : Int → List Int → Option ((List Int)):=rounds (pcm_Weave.r0 K a b) (fun _ _=>none) n
def pcm_Weave (K : Nat) (a : List (List Int)) : Option ((List Int) × Int):=
 let f:=(decide ((a.length : Int) < 1))
 let g:=(decide ((a.length : Int) > 2))
 let b:=(bif f then true else g)
 let h:=(Kd.nth (.slice (.int .i16)) a 0)
 gd (((!b) = true → 0 < (a.length : Int))) <|
 let e:=(h.length : Int)
 let d:=(kwrap .i64 ((a.length : Int) - 1))
 let i:=(Kd.nth (.slice (.int .i16)) a (Int.toNat d))
 gd (((!b) = true → (0 : Int) ≤ d) ∧ ((!b) = true → d < (a.length : Int))) <|
 let j:=(i.length : Int)
 let k:=(bif b then true else (e != j))
 bif k then
  some (([] : List Int),1)
 else
  gd (0 < (a.length : Int)) <|
  (pcm_Weave.l0 K a e K 0 ([] : List Int) : Option ((List Int))).bind fun l=>
   some (l,0)
def subband_Decoder_Play_2.r1 (K : Nat) (_t : List (List (List Int))) (_u : Int) (d : List (List Int)) (i _w _y _z _A _B _D _E _F _G _H j : Int) (k l : List Int) (next : Int → Int → List Int → List (List Int) → Option (Int × (List Int) × (List (List Int)))) (e b : Int) (f : List Int) (a : List (List Int)) : Option (Int × (List Int) × (List (List Int))):=
 let m:=(decide (b < i))
 bif m then
  let n:=(Kd.nth (.slice (.int .i32)) d (Int.toNat b))
  gd ((0 : Int) ≤ b ∧ b < (d.length : Int)) <|
  bif e == 0 then
   (poly_Joiner_Feed K n j k l f).bind fun (g,_I,o)=>
   let h:=(List.getD a 0 [])
   let p:=(h ++ g)
   let q:=(List.set a 0 p)
   gd (0 < (a.length : Int) ∧ 0 < a.length ∧ ((h.length : Int) + (g.length : Int)) * 2 ≤ 70368744177664 ∧ 0 < (a.length : Int) ∧ 0 < a.length) <|
   let s:=(kwrap .i64 (b + 1))
   next 0 s o q
  else
   none
 else
  some (e,f,a)
def subband_Decoder_Play_2.l1 (K : Nat) (a : List (List (List Int))) (b : Int) (d : List (List Int)) (e f g h i j k l m o p q : Int) (s t : List Int) (n : Nat) : Int → Int → List Int → List (List Int) → Option (Int × (List Int) × (List (List Int))):=rounds (subband_Decoder_Play_2.r1 K a b d e f g h i j k l m o p q s t) (fun _ _ _ _=>none) n
def subband_Decoder_Play_2.r0 (K : Nat) (b : List (List (List Int))) (d h i j k l m n o p q s : Int) (t u : List Int) (next : Int → List Int → List (List Int) → Option ((List Int) × (List (List Int)))) (a : Int) (e : List Int) (f : List (List Int)) : Option ((List Int) × (List (List Int))):=
 let w:=(decide (a < d))
 bif w then
  let g:=(Kd.nth (.slice (.slice (.int .i32))) b (Int.toNat a))
  gd ((0 : Int) ≤ a ∧ a < (b.length : Int)) <|
  let y:=(g.length : Int)
  (subband_Decoder_Play_2.l1 K b d g y h i j k l m n o p q s t u K a 0 e f : Option (Int × (List Int) × (List (List Int)))).bind fun (z,A,B)=>
   let D:=(kwrap .i64 (z + 1))
   next D A B
 else
  some (e,f)
def subband_Decoder_Play_2.l0 (K : Nat) (a : List (List (List Int))) (b d e f g h i j k l m o : Int) (p q : List Int) (n : Nat) : Int → List Int → List (List Int) → Option ((List Int) × (List (List Int))):=rounds (subband_Decoder_Play_2.r0 K a b d e f g h i j k l m o p q) (fun _ _ _=>none) n
def subband_Decoder_Play_2 (K : Nat) (b : List (List (List Int))) (d e a f g h i j k l n : Int) (o p m : List Int) : Option ((List Int) × Int × (List Int)):=
 (subband_fits K d e a f g h i j k l b).bind fun q=>
 bif (!q) then
  some (([] : List Int),1,m)
 else
  let s:=(List.replicate (Int.toNat a) ([] : List Int))
  gd ((0 : Int) ≤ a ∧ a ≤ a ∧ a * 24 ≤ 140737488355328) <|
  (subband_Decoder_Play_2.l0 K b (b.length : Int) d e a f g h i j k l n o p K 0 m s : Option ((List Int) × (List (List Int)))).bind fun (t,u)=>
   (pcm_Weave K u).bind fun (w,y)=>
   some (w,y,t)
def psalteryref03_part (_K : Nat) (a b : Int) : Option (Int):=
 let d:=(kwrap .i64 (a * b))
 let e:=(kwrap .i64 (Int.tdiv d 1073741824))
 some e
def psalteryref01_down (_K : Nat) (b a : Int) : Option (Int):=
 let d:=(kwrap .i64 (Int.tdiv b a))
 gd (a ≠ 0) <|
 let e:=(Int.tmod b a)
 let f:=(decide (e < 0))
 gd (a ≠ 0) <|
 (
  bif f then
   let g:=(kwrap .i64 (d - 1))
   some g
  else
   some d : Option (Int)).bind fun h=>
  some h
def psalteryref01_Round (K : Nat) (a e : Int) : Option (Int):=
 let b:=(imax (imin e 62) 0)
 bif (b == 0) then
  some a
 else
  let f:=(kwrap .i64 (b - 1))
  let d:=(kwrap .u64 f)
  let g:=(kshl .i64 1 d)
  gd ((0 : Int) ≤ d) <|
  (psalteryref01_down K a g).bind fun h=>
  let i:=(kwrap .i64 (h + 1))
  (psalteryref01_down K i 2).bind fun j=>
  some j
def psalteryref03_signed (K : Nat) (h a : Int) (i : Bool) : Option (Int):=
 let d:=(kwrap .i64 (4 * h))
 let j:=(decide (d ≥ a))
 (
  bif j then
   let k:=(kwrap .i64 (2 * a))
   let l:=(kwrap .i64 (k - d))
   some l
  else
   some d : Option (Int)).bind fun m=>
  let n:=(kwrap .i64 (m * 1073741824))
  let e:=(kwrap .i64 (Int.tdiv n a))
  gd (a ≠ 0) <|
  (psalteryref03_part K e e).bind fun b=>
  (psalteryref03_part K 172272 b).bind fun o=>
  let p:=(kwrap .i64 (5026995 - o))
  (psalteryref03_part K p b).bind fun q=>
  let s:=(kwrap .i64 (85569306 - q))
  (psalteryref03_part K s b).bind fun t=>
  let u:=(kwrap .i64 (693598668 - t))
  (psalteryref03_part K u b).bind fun w=>
  let y:=(kwrap .i64 (1686629713 - w))
  (psalteryref03_part K y e).bind fun z=>
  (psalteryref01_Round K z 15).bind fun f=>
  let A:=(decide (f > 32767))
  (
   bif A then
    some 32767
   else
    some f : Option (Int)).bind fun g=>
   bif i then
    let B:=(kwrap .i16 (kwrap .i64 (0 - g)))
    some B
   else
    some (kwrap .i16 g)
def psalteryref03_of (K : Nat) (b a : Int) : Option (Int):=
 let e:=(decide (b < 0))
 (
  bif e then
   let f:=(kwrap .i64 (b + a))
   some f
  else
   some b : Option (Int)).bind fun d=>
  let g:=(kwrap .i64 (2 * d))
  let h:=(decide (g ≥ a))
  bif h then
   let i:=(kwrap .i64 (Int.tdiv a 2))
   let j:=(kwrap .i64 (d - i))
   (psalteryref03_signed K j a true).bind fun k=>
   some k
  else
   (psalteryref03_signed K d a false).bind fun l=>
   some l
def psalteryref03_Of (K : Nat) (f a : Int) : Option (Int):=
 let b:=(Int.tmod f a)
 gd (a ≠ 0) <|
 let g:=(decide (b < 0))
 (
  bif g then
   let h:=(kwrap .i64 (b + a))
   some h
  else
   some b : Option (Int)).bind fun d=>
  let i:=(kwrap .i64 (2 * d))
  let e:=(decide (i ≥ a))
  (
   bif e then
    let j:=(kwrap .i64 (Int.tdiv a 2))
    let k:=(kwrap .i64 (d - j))
    let l:=(Int.tmod a 2)
    bif (l == 1) then
     let m:=(kwrap .i64 (2 * b))
     let n:=(kwrap .i64 (2 * a))
     gd (a ≠ 0) <|
     (psalteryref03_of K m n).bind fun o=>
     some (.inr o)
    else
     some (.inl k)
   else
    some (.inl d) : Option ((Int) ⊕ (Int))).bind fun z=>match z with
  | .inl p=>
   (psalteryref03_signed K p a e).bind fun q=>
   some q
  | .inr r=>
   some r
def psalteryref03_Cosine (K : Nat) (b a : Int) : Option (Int × Int):=
 let d:=(decide (a < 1))
 let e:=(decide (a > 1048576))
 let f:=(bif d then true else e)
 bif f then
  some (0,1)
 else
  let g:=(Int.tmod b a)
  gd (a ≠ 0) <|
  let h:=(kwrap .i64 (4 * g))
  let i:=(kwrap .i64 (h + a))
  let j:=(kwrap .i64 (4 * a))
  (psalteryref03_Of K i j).bind fun k=>
  some (k,0)
def psalteryref08_wave (K : Nat) (a b d : Int) : Option (Int):=
 let e:=(kwrap .i64 (a * b))
 let f:=(kwrap .i64 (8 * d))
 (psalteryref03_Cosine K e f).bind fun (g,_h)=>
 some (kwrap .i64 g)
def psalteryref01_Sat (_K : Nat) (a f : Int) : Option (Int):=
 let g:=(kwrap .i64 (f - 1))
 let d:=(kwrap .u64 g)
 let h:=(kshl .i64 1 d)
 let b:=(kwrap .i64 (h - 1))
 gd ((0 : Int) ≤ d) <|
 let i:=(decide (a > b))
 bif i then
  some b
 else
  let j:=(kwrap .i64 (0 - b))
  let e:=(kwrap .i64 (j - 1))
  let k:=(decide (a < e))
  bif k then
   some e
  else
   some a
def psalteryref08_round (K : Nat) (a b : Int) : Option (Int):=
 (psalteryref01_Round K a b).bind fun d=>
 (psalteryref01_Sat K d 32).bind fun e=>
 some e
def psalteryref04_Filter.r0 (K : Nat) (b : Int) (next : Int → List Int → Option ((List Int))) (a : Int) (d : List Int) : Option ((List Int)):=
 let e:=(kwrap .i64 (5 * b))
 let j:=(decide (a < e))
 bif j then
  (
   bif (a != 0) then
    let k:=(kwrap .i64 (3 * a))
    let l:=(kwrap .i64 (10 * b))
    (psalteryref03_Of K k l).bind fun m=>
    let n:=(kwrap .i64 ((kwrap .i64 m) * b))
    let o:=(kwrap .i64 (n * 565))
    let f:=(kwrap .i64 (a * 1065))
    let p:=(kwrap .i64 (Int.tdiv o f))
    gd (f ≠ 0) <|
    some p
   else
    some 32768 : Option (Int)).bind fun q=>
   let g:=(kwrap .i64 (a + e))
   let h:=(kwrap .i64 (10 * b))
   (psalteryref03_Cosine K g h).bind fun (s,_I)=>
   let t:=(kwrap .i64 (2 * g))
   (psalteryref03_Cosine K t h).bind fun (u,_J)=>
   let w:=(kwrap .i64 (8 * (kwrap .i64 u)))
   let y:=(kwrap .i64 (1376256 + w))
   let z:=(kwrap .i64 (50 * (kwrap .i64 s)))
   let A:=(kwrap .i64 (y - z))
   let B:=(kwrap .i64 (Int.tdiv A 100))
   let D:=(kwrap .i64 (q * B))
   (psalteryref01_Round K D 15).bind fun E=>
   let F:=(kwrap .i64 (E * 19708))
   (psalteryref01_Round K F 15).bind fun G=>
   let i:=[(kwrap .i16 G)]
   gd (((d.length : Int) + (i.length : Int)) * 2 ≤ 70368744177664) <|
   let H:=(kwrap .i64 (a + 1))
   next H (d ++ i)
 else
  some d
def psalteryref04_Filter.l0 (K : Nat) (a : Int) (n : Nat) : Int → List Int → Option ((List Int)):=rounds (psalteryref04_Filter.r0 K a) (fun _ _=>none) n
def psalteryref04_Filter (K : Nat) (a : Int) : Option ((List Int)):=
 let b:=(bif (a != 4) then (a != 8) else false)
 bif b then
  some ([] : List Int)
 else
  let d:=(kwrap .i64 ((-5) * a))
  (psalteryref04_Filter.l0 K a K d ([] : List Int) : Option ((List Int))).bind fun e=>
   some e
def psalteryref08_Join.r1 (_K : Nat) (d : Int) (e : List Int) (f : Int) (a _O : List Int) (next : Int → Int → Option (Int)) (k b : Int) : Option (Int):=
 let q:=(decide (b < 5))
 bif q then
  let s:=(kwrap .i64 (4 * d))
  let l:=(kwrap .i64 (s * b))
  let g:=(kwrap .i64 (l + f))
  let m:=(Int.toNat g)
  gd ((0 : Int) ≤ g ∧ g < (a.length : Int)) <|
  let t:=(Kd.nth (.int .i64) a m)
  gd (m < a.length) <|
  let u:=(kwrap .i64 (2 * d))
  let n:=(kwrap .i64 (u * b))
  let h:=(kwrap .i64 (n + f))
  let w:=(Kd.nth (.int .i16) e (Int.toNat h))
  gd ((0 : Int) ≤ h ∧ h < (e.length : Int)) <|
  let y:=(kwrap .i64 w)
  let z:=(kwrap .i64 (t * y))
  let A:=(kwrap .i64 (3 * d))
  let B:=(kwrap .i64 (l + A))
  let i:=(kwrap .i64 (B + f))
  let o:=(Int.toNat i)
  gd ((0 : Int) ≤ i ∧ i < (a.length : Int)) <|
  let D:=(Kd.nth (.int .i64) a o)
  gd (o < a.length) <|
  let E:=(kwrap .i64 (n + d))
  let j:=(kwrap .i64 (E + f))
  let F:=(Kd.nth (.int .i16) e (Int.toNat j))
  gd ((0 : Int) ≤ j ∧ j < (e.length : Int)) <|
  let G:=(kwrap .i64 F)
  let H:=(kwrap .i64 (D * G))
  let p:=(kwrap .i64 (z + H))
  let I:=(Int.tmod b 2)
  (
   bif (I == 1) then
    let J:=(kwrap .i64 (0 - p))
    some J
   else
    some p : Option (Int)).bind fun L=>
   let M:=(kwrap .i64 (k + L))
   let N:=(kwrap .i64 (b + 1))
   next M N
 else
  some k
def psalteryref08_Join.l1 (K : Nat) (a : Int) (b : List Int) (d : Int) (e f : List Int) (n : Nat) : Int → Int → Option (Int):=rounds (psalteryref08_Join.r1 K a b d e f) (fun _ _=>none) n
def psalteryref08_Join.r0 (K : Nat) (d : Int) (f g : List Int) (next : Int → List Int → Option ((List Int))) (b : Int) (a : List Int) : Option ((List Int)):=
 let h:=(decide (b < d))
 bif h then
  (psalteryref08_Join.l1 K d f b g a K 0 0 : Option (Int)).bind fun i=>
   (psalteryref01_Round K i 14).bind fun j=>
   (psalteryref01_Sat K j 16).bind fun k=>
   let e:=[(kwrap .i16 k)]
   let l:=(a ++ e)
   gd (((a.length : Int) + (e.length : Int)) * 2 ≤ 70368744177664) <|
   let m:=(kwrap .i64 (b + 1))
   next m l
 else
  some a
def psalteryref08_Join.l0 (K : Nat) (a : Int) (b d : List Int) (n : Nat) : Int → List Int → Option ((List Int)):=rounds (psalteryref08_Join.r0 K a b d) (fun _ _=>none) n
def psalteryref08_Join.r2 (_K : Nat) (b : Int) (next : List Int → Option ((List Int))) (a : List Int) : Option ((List Int)):=
 let d:=(kwrap .i64 (20 * b))
 let e:=(decide ((a.length : Int) < d))
 bif e then
  gd (((a.length : Int) + ([0].length : Int)) * 8 ≤ 70368744177664) <|
  next (a ++ [0])
 else
  some a
def psalteryref08_Join.l2 (K : Nat) (a : Int) (n : Nat) : List Int → Option ((List Int)):=rounds (psalteryref08_Join.r2 K a) (fun _=>none) n
def psalteryref08_Join.r5 (K : Nat) (e : List (List Int)) (b d h : Int) (_u : List Int) (next : Int → Int → Option (Int)) (f a : Int) : Option (Int):=
 let i:=(decide (a < b))
 bif i then
  let g:=(Kd.nth (.slice (.int .i32)) e (Int.toNat d))
  gd ((0 : Int) ≤ d ∧ d < (e.length : Int)) <|
  let j:=(Kd.nth (.int .i32) g (Int.toNat a))
  gd ((0 : Int) ≤ a ∧ a < (g.length : Int)) <|
  let k:=(kwrap .i64 j)
  let l:=(kwrap .i64 (2 * a))
  let m:=(kwrap .i64 (l + 1))
  let n:=(kwrap .i64 (2 * h))
  let o:=(kwrap .i64 (n + b))
  (psalteryref08_wave K m o b).bind fun p=>
  let q:=(kwrap .i64 (k * p))
  let s:=(kwrap .i64 (f + q))
  let t:=(kwrap .i64 (a + 1))
  next s t
 else
  some f
def psalteryref08_Join.l5 (K : Nat) (a : List (List Int)) (b d e : Int) (f : List Int) (n : Nat) : Int → Int → Option (Int):=rounds (psalteryref08_Join.r5 K a b d e f) (fun _ _=>none) n
def psalteryref08_Join.r4 (K : Nat) (f : List (List Int)) (d g : Int) (next : Int → List Int → Option ((List Int))) (b : Int) (a : List Int) : Option ((List Int)):=
 let h:=(kwrap .i64 (2 * d))
 let i:=(decide (b < h))
 bif i then
  (psalteryref08_Join.l5 K f d g b a K 0 0 : Option (Int)).bind fun j=>
   (psalteryref08_round K j 15).bind fun e=>
   let k:=(a ++ [e])
   gd (((a.length : Int) + ([e].length : Int)) * 8 ≤ 70368744177664) <|
   let l:=(kwrap .i64 (b + 1))
   next l k
 else
  some a
def psalteryref08_Join.l4 (K : Nat) (a : List (List Int)) (b d : Int) (n : Nat) : Int → List Int → Option ((List Int)):=rounds (psalteryref08_Join.r4 K a b d) (fun _ _=>none) n
def psalteryref08_Join.r3 (K : Nat) (e : List (List Int)) (d : Int) (next : Int → List Int → Option ((List Int))) (a : Int) (b : List Int) : Option ((List Int)):=
 let f:=(decide (a ≥ 0))
 let g:=(kwrap .i64 (20 * d))
 let h:=(decide ((b.length : Int) < g))
 let i:=(bif f then h else false)
 bif i then
  (psalteryref08_Join.l4 K e d a K 0 b : Option ((List Int))).bind fun j=>
   let k:=(kwrap .i64 (a - 1))
   next k j
 else
  some b
def psalteryref08_Join.l3 (K : Nat) (a : List (List Int)) (b : Int) (n : Nat) : Int → List Int → Option ((List Int)):=rounds (psalteryref08_Join.r3 K a b) (fun _ _=>none) n
def psalteryref08_Join (K : Nat) (b : List (List Int)) (a : Int) : Option ((List Int)):=
 let d:=(kwrap .i64 ((b.length : Int) - 1))
 (psalteryref08_Join.l3 K b a K d ([] : List Int) : Option ((List Int))).bind fun e=>
  (psalteryref08_Join.l2 K a K e : Option ((List Int))).bind fun f=>
   (psalteryref04_Filter K a).bind fun g=>
   (psalteryref08_Join.l0 K a g f K 0 ([] : List Int) : Option ((List Int))).bind fun h=>
    some h
def psalteryref14_Play.r1 (_K : Nat) (b _l _m h _n _o _p _q _s _t _u : Int) (d : List (List Int)) (next : Int → List Int → Option ((List Int))) (a : Int) (e : List Int) : Option ((List Int)):=
 let i:=(decide (a < h))
 bif i then
  let f:=(Kd.nth (.slice (.int .i16)) d (Int.toNat a))
  let g:=(Kd.nth (.int .i16) f (Int.toNat b))
  let j:=(e ++ [g])
  gd ((0 : Int) ≤ a ∧ a < (d.length : Int) ∧ (Int.toNat a) < d.length ∧ (0 : Int) ≤ b ∧ b < (f.length : Int) ∧ ((e.length : Int) + ([g].length : Int)) * 2 ≤ 70368744177664) <|
  let k:=(kwrap .i64 (a + 1))
  next k j
 else
  some e
def psalteryref14_Play.l1 (K : Nat) (a b d e f g h i j k l : Int) (m : List (List Int)) (n : Nat) : Int → List Int → Option ((List Int)):=rounds (psalteryref14_Play.r1 K a b d e f g h i j k l m) (fun _ _=>none) n
def psalteryref14_Play.r0 (K : Nat) (e f g h i j k l m n : Int) (a : List (List Int)) (next : Int → List Int → Option ((List Int))) (b : Int) (d : List Int) : Option ((List Int)):=
 let o:=(Kd.nth (.slice (.int .i16)) a 0)
 let p:=(o.length : Int)
 let q:=(decide (b < p))
 gd (0 < (a.length : Int) ∧ 0 < a.length) <|
 bif q then
  (psalteryref14_Play.l1 K b e f g h i j k l m n a K 0 d : Option ((List Int))).bind fun s=>
   let t:=(kwrap .i64 (b + 1))
   next t s
 else
  some d
def psalteryref14_Play.l0 (K : Nat) (a b d e f g h i j k : Int) (l : List (List Int)) (n : Nat) : Int → List Int → Option ((List Int)):=rounds (psalteryref14_Play.r0 K a b d e f g h i j k l) (fun _ _=>none) n
def psalteryref14_Play.r3 (K : Nat) (_l : List (List (List (List Int)))) (_m : Int) (b : List (List Int)) (_n _o _p h _q _s _t _u _w _y : Int) (_z : List (List Int)) (next : Int → List Int → Option ((List Int))) (d : Int) (e : List Int) : Option ((List Int)):=
 let i:=(decide (d < (b.length : Int)))
 bif i then
  let f:=(kwrap .i64 (d - 9))
  let a:=(kwrap .i64 (d + 1))
  let j:=((b.take (Int.toNat a)).drop (Int.toNat (imax f 0)))
  gd ((0 : Int) ≤ (imax f 0) ∧ (imax f 0) ≤ a ∧ a ≤ (b.length : Int)) <|
  (psalteryref08_Join K j h).bind fun g=>
  let k:=(e ++ g)
  gd (((e.length : Int) + (g.length : Int)) * 2 ≤ 70368744177664) <|
  next a k
 else
  some e
def psalteryref14_Play.l3 (K : Nat) (a : List (List (List (List Int)))) (b : Int) (d : List (List Int)) (e f g h i j k l m o : Int) (p : List (List Int)) (n : Nat) : Int → List Int → Option ((List Int)):=rounds (psalteryref14_Play.r3 K a b d e f g h i j k l m o p) (fun _ _=>none) n
def psalteryref14_Play.r4 (_K : Nat) (b : List (List (List (List Int)))) (d _k _l _m _n _o _p _q _s _t _u : Int) (_w : List (List Int)) (next : Int → List (List Int) → Option ((List (List Int)))) (a : Int) (e : List (List Int)) : Option ((List (List Int))):=
 let h:=(decide (a < (b.length : Int)))
 bif h then
  let f:=(Kd.nth (.slice (.slice (.slice (.int .i32)))) b (Int.toNat a))
  let g:=(Kd.nth (.slice (.slice (.int .i32))) f (Int.toNat d))
  let i:=(e ++ g)
  gd ((0 : Int) ≤ a ∧ a < (b.length : Int) ∧ (0 : Int) ≤ d ∧ d < (f.length : Int) ∧ ((e.length : Int) + (g.length : Int)) * 24 ≤ 70368744177664) <|
  let j:=(kwrap .i64 (a + 1))
  next j i
 else
  some e
def psalteryref14_Play.l4 (K : Nat) (a : List (List (List (List Int)))) (b d e f g h i j k l m : Int) (o : List (List Int)) (n : Nat) : Int → List (List Int) → Option ((List (List Int))):=rounds (psalteryref14_Play.r4 K a b d e f g h i j k l m o) (fun _ _=>none) n
def psalteryref14_Play.r2 (K : Nat) (f : List (List (List (List Int)))) (g h d i e j k l m n : Int) (next : Int → List (List Int) → Option ((List (List Int)))) (b : Int) (a : List (List Int)) : Option ((List (List Int))):=
 let q:=(decide (b < d))
 bif q then
  (psalteryref14_Play.l4 K f b g h d i e j k l m n a K 0 ([] : List (List Int)) : Option ((List (List Int)))).bind fun o=>
   let s:=(kwrap .i64 ((o.length : Int) - e))
   (psalteryref14_Play.l3 K f b o g h d i e j k l m n a K s ([] : List Int) : Option ((List Int))).bind fun p=>
    let t:=(a ++ [p])
    gd (((a.length : Int) + ([p].length : Int)) * 24 ≤ 70368744177664) <|
    let u:=(kwrap .i64 (b + 1))
    next u t
 else
  some a
def psalteryref14_Play.l2 (K : Nat) (a : List (List (List (List Int)))) (b d e f g h i j k l : Int) (n : Nat) : Int → List (List Int) → Option ((List (List Int))):=rounds (psalteryref14_Play.r2 K a b d e f g h i j k l) (fun _ _=>none) n
def psalteryref14_Play (K : Nat) (a b d e f g h i j k : Int) (l : List (List (List (List Int)))) : Option ((List Int)):=
 (psalteryref14_Play.l2 K l a b d e f g h i j k K 0 ([] : List (List Int)) : Option ((List (List Int)))).bind fun m=>
  (psalteryref14_Play.l0 K a b d e f g h i j k m K 0 ([] : List Int) : Option ((List Int))).bind fun n=>
   some n
def psalteryref14_Play_2 (K : Nat) (a b d e f g h i j k : Int) (l : List (List (List (List Int)))) : Option ((List Int)):=
 psalteryref14_Play K a b d e f g h i j k l
def psalteryref04_Same.r0 (_K : Nat) (b d : List Int) (next : Int → Option ((Unit) ⊕ (Bool))) (a : Int) : Option ((Unit) ⊕ (Bool)):=
 let e:=(decide (a < (b.length : Int)))
 bif e then
  let f:=(Kd.nth (.int .i16) b (Int.toNat a))
  gd ((0 : Int) ≤ a ∧ a < (b.length : Int)) <|
  let g:=(Kd.nth (.int .i16) d (Int.toNat a))
  gd ((0 : Int) ≤ a ∧ a < (d.length : Int)) <|
  bif (f != g) then
   some (.inr false)
  else
   let h:=(kwrap .i64 (a + 1))
   next h
 else
  some (.inl ())
def psalteryref04_Same.l0 (K : Nat) (a b : List Int) (n : Nat) : Int → Option ((Unit) ⊕ (Bool)):=rounds (psalteryref04_Same.r0 K a b) (fun _=>none) n
def psalteryref04_Same (K : Nat) (a b : List Int) : Option (Bool):=
 let d:=((a.length : Int) != (b.length : Int))
 bif d then
  some false
 else
  (psalteryref04_Same.l0 K a b K 0 : Option ((Unit) ⊕ (Bool))).bind fun z=>match z with
  | .inl _=>
   some true
  | .inr r=>
   some r
def subband_Decoder_Play_3.r1 (K : Nat) (_J : List (List (List Int))) (_L : Int) (g : List (List Int)) (m _M _N _O _P _Q _R _S _T _U _V n : Int) (o p : List Int) (q : Int) (s t : List Int) (next : Int → Int → List Int → List Int → List (List Int) → Option (Int × (List Int) × (List Int) × (List (List Int)))) (d b : Int) (e f : List Int) (a : List (List Int)) : Option (Int × (List Int) × (List Int) × (List (List Int))):=
 let u:=(decide (b < m))
 bif u then
  (
   let h:=(Kd.nth (.slice (.int .i32)) g (Int.toNat b))
   gd ((0 : Int) ≤ b ∧ b < (g.length : Int)) <|
   bif d == 0 then
    (poly_Joiner_Feed K h n o p e).bind fun (i,_W,w)=>
    let j:=(List.getD a 0 [])
    let y:=(j ++ i)
    let z:=(List.set a 0 y)
    gd (0 < (a.length : Int) ∧ 0 < a.length ∧ ((j.length : Int) + (i.length : Int)) * 2 ≤ 70368744177664 ∧ 0 < (a.length : Int) ∧ 0 < a.length) <|
    some (0,w,f,z)
   else
    bif d == 1 then
     (poly_Joiner_Feed K h q s t f).bind fun (k,_X,A)=>
     let l:=(List.getD a 1 [])
     let B:=(l ++ k)
     let D:=(List.set a 1 B)
     gd (1 < (a.length : Int) ∧ 1 < a.length ∧ ((l.length : Int) + (k.length : Int)) * 2 ≤ 70368744177664 ∧ 1 < (a.length : Int) ∧ 1 < a.length) <|
     some (1,e,A,D)
    else
     none : Option (Int × (List Int) × (List Int) × (List (List Int)))).bind fun (E,F,G,H)=>
   let I:=(kwrap .i64 (b + 1))
   next E I F G H
 else
  some (d,e,f,a)
def subband_Decoder_Play_3.l1 (K : Nat) (a : List (List (List Int))) (b : Int) (d : List (List Int)) (e f g h i j k l m o p q : Int) (s t : List Int) (u : Int) (w y : List Int) (n : Nat) : Int → Int → List Int → List Int → List (List Int) → Option (Int × (List Int) × (List Int) × (List (List Int))):=rounds (subband_Decoder_Play_3.r1 K a b d e f g h i j k l m o p q s t u w y) (fun _ _ _ _ _=>none) n
def subband_Decoder_Play_3.r0 (K : Nat) (b : List (List (List Int))) (d i j k l m n o p q s t : Int) (u w : List Int) (y : Int) (z A : List Int) (next : Int → List Int → List Int → List (List Int) → Option ((List Int) × (List Int) × (List (List Int)))) (a : Int) (e f : List Int) (g : List (List Int)) : Option ((List Int) × (List Int) × (List (List Int))):=
 let B:=(decide (a < d))
 bif B then
  let h:=(Kd.nth (.slice (.slice (.int .i32))) b (Int.toNat a))
  gd ((0 : Int) ≤ a ∧ a < (b.length : Int)) <|
  let D:=(h.length : Int)
  (subband_Decoder_Play_3.l1 K b d h D i j k l m n o p q s t u w y z A K a 0 e f g : Option (Int × (List Int) × (List Int) × (List (List Int)))).bind fun (E,F,G,H)=>
   let I:=(kwrap .i64 (E + 1))
   next I F G H
 else
  some (e,f,g)
def subband_Decoder_Play_3.l0 (K : Nat) (a : List (List (List Int))) (b d e f g h i j k l m o : Int) (p q : List Int) (s : Int) (t u : List Int) (n : Nat) : Int → List Int → List Int → List (List Int) → Option ((List Int) × (List Int) × (List (List Int))):=rounds (subband_Decoder_Play_3.r0 K a b d e f g h i j k l m o p q s t u) (fun _ _ _ _=>none) n
def subband_Decoder_Play_3 (K : Nat) (b : List (List (List Int))) (d e a f g h i j k l o : Int) (p q : List Int) (s : Int) (t u m n : List Int) : Option ((List Int) × Int × (List Int) × (List Int)):=
 (subband_fits K d e a f g h i j k l b).bind fun w=>
 bif (!w) then
  some (([] : List Int),1,m,n)
 else
  let y:=(List.replicate (Int.toNat a) ([] : List Int))
  gd ((0 : Int) ≤ a ∧ a ≤ a ∧ a * 24 ≤ 140737488355328) <|
  (subband_Decoder_Play_3.l0 K b (b.length : Int) d e a f g h i j k l o p q s t u K 0 m n y : Option ((List Int) × (List Int) × (List (List Int)))).bind fun (z,A,B)=>
   (pcm_Weave K B).bind fun (D,E)=>
   some (D,E,z,A)
def psalterylaw14_SubPlays.r0 (K : Nat) (a : List (List (List Int))) (b d e f g h i j k l m n : Int) (_next : Option ((Unit) ⊕ (Bool)))  : Option ((Unit) ⊕ (Bool)):=
 let o:=(Int.tmod (kwrap .i64 b) 3)
 let p:=(kwrap .i64 (1 + o))
 let q:=(decide (0 < p))
 bif q then
  (subband_Decoder_Play K a).bind fun s=>
  (psalteryref14_Fits K e f g h i j k l m n a).bind fun t=>
  bif (!t) then
   let u:=((s.length : Int) == 0)
   let w:=(bif (d == 0) then u else false)
   let y:=(bif w then false else false)
   some (.inr y)
  else
   gd (([a].length : Int) * 24 ≤ 70368744177664) <|
   some (.inr false)
 else
  some (.inl ())
def psalterylaw14_SubPlays.l0 (K : Nat) (a : List (List (List Int))) (b d e f g h i j k l m o : Int) (n : Nat) : Option ((Unit) ⊕ (Bool)):=rounds (psalterylaw14_SubPlays.r0 K a b d e f g h i j k l m o) (none) n
def psalterylaw14_SubPlays.r1 (K : Nat) (a : List (List (List Int))) (s b d l e f g h i j k t : Int) (u w : List Int) (next : Int → List (List (List (List Int))) → List Int → Option ((Unit) ⊕ (Bool))) (m : Int) (n : List (List (List (List Int)))) (y : List Int) : Option ((Unit) ⊕ (Bool)):=
 let z:=(Int.tmod (kwrap .i64 s) 3)
 let A:=(kwrap .i64 (1 + z))
 let B:=(decide (m < A))
 bif B then
  (subband_Decoder_Play_2 K a b d 1 e f g h i j k t u w y).bind fun (o,p,D)=>
  (psalteryref14_Fits K b d l e f g h i j k a).bind fun E=>
  bif (!E) then
   let F:=((o.length : Int) == 0)
   let G:=(bif F then (p == 1) else false)
   some (.inr G)
  else
   let q:=(n ++ [a])
   gd (((n.length : Int) + ([a].length : Int)) * 24 ≤ 70368744177664) <|
   (
    bif (p != 0) then
     some true
    else
     (psalteryref14_Play_2 K b d l e f g h i j k q).bind fun H=>
     (psalteryref04_Same K o H).bind fun I=>
     some (!I) : Option (Bool)).bind fun J=>
    bif J then
     some (.inr false)
    else
     let L:=(kwrap .i64 (m + 1))
     next L q D
 else
  some (.inl ())
def psalterylaw14_SubPlays.l1 (K : Nat) (a : List (List (List Int))) (b d e f g h i j k l m o : Int) (p q : List Int) (n : Nat) : Int → List (List (List (List Int))) → List Int → Option ((Unit) ⊕ (Bool)):=rounds (psalterylaw14_SubPlays.r1 K a b d e f g h i j k l m o p q) (fun _ _ _=>none) n
def psalterylaw14_SubPlays.r2 (K : Nat) (a : List (List (List Int))) (s b d l e f g h i j k t : Int) (u w : List Int) (y : Int) (z A : List Int) (next : Int → List (List (List (List Int))) → List Int → List Int → Option ((Unit) ⊕ (Bool))) (m : Int) (n : List (List (List (List Int)))) (B D : List Int) : Option ((Unit) ⊕ (Bool)):=
 let E:=(Int.tmod (kwrap .i64 s) 3)
 let F:=(kwrap .i64 (1 + E))
 let G:=(decide (m < F))
 bif G then
  (subband_Decoder_Play_3 K a b d 2 e f g h i j k t u w y z A B D).bind fun (o,p,H,I)=>
  (psalteryref14_Fits K b d l e f g h i j k a).bind fun J=>
  bif (!J) then
   let L:=((o.length : Int) == 0)
   let M:=(bif L then (p == 1) else false)
   some (.inr M)
  else
   let q:=(n ++ [a])
   gd (((n.length : Int) + ([a].length : Int)) * 24 ≤ 70368744177664) <|
   (
    bif (p != 0) then
     some true
    else
     (psalteryref14_Play_2 K b d l e f g h i j k q).bind fun N=>
     (psalteryref04_Same K o N).bind fun O=>
     some (!O) : Option (Bool)).bind fun P=>
    bif P then
     some (.inr false)
    else
     let Q:=(kwrap .i64 (m + 1))
     next Q q H I
 else
  some (.inl ())
def psalterylaw14_SubPlays.l2 (K : Nat) (a : List (List (List Int))) (b d e f g h i j k l m o : Int) (p q : List Int) (s : Int) (t u : List Int) (n : Nat) : Int → List (List (List (List Int))) → List Int → List Int → Option ((Unit) ⊕ (Bool)):=rounds (psalterylaw14_SubPlays.r2 K a b d e f g h i j k l m o p q s t u) (fun _ _ _ _=>none) n
def psalterylaw14_SubPlays (K : Nat) (a b d e f g h i j k : Int) (l : List (List (List Int))) (m : Int) : Option (Bool):=
 (psalterylaw14_alive K ).bind fun o=>
 bif (!o) then
  some false
 else
  (psalteryref14_FarPlanes K l).bind fun p=>
  bif p then
   some true
  else
   (bank_New K ).bind fun _=>
   (subband_NewDecoder K a b d e f g h i j k (List.replicate 388 none) 0 0).bind fun z=>match z with
   | .inl n=>
    (psalteryref11_Sub K a b d e f g h i j k).bind fun q=>
    bif (!q) then
     some (n == 110)
    else
     (psalterylaw14_SubPlays.l0 K l m n a b d e f g h i j k K  : Option ((Unit) ⊕ (Bool))).bind fun z=>match z with
     | .inl _=>
      some (n == 0)
     | .inr r=>
      some r
   | .inr (.inl (_L,_M,_N,s,t,u,w))=>
    (psalteryref11_Sub K a b d e f g h i j k).bind fun y=>
    bif (!y) then
     some false
    else
     (psalterylaw14_SubPlays.l1 K l m a b d e f g h i j k s t u K 0 ([] : List (List (List (List Int)))) w : Option ((Unit) ⊕ (Bool))).bind fun z=>match z with
     | .inl _=>
      some true
     | .inr r=>
      some r
   | .inr (.inr (_O,_P,_Q,A,B,D,E,F,G,H,I))=>
    (psalteryref11_Sub K a b d e f g h i j k).bind fun J=>
    bif (!J) then
     some false
    else
     (psalterylaw14_SubPlays.l2 K l m a b d e f g h i j k A B D E F G K 0 ([] : List (List (List (List Int)))) H I : Option ((Unit) ⊕ (Bool))).bind fun z=>match z with
     | .inl _=>
      some true
     | .inr r=>
      some r
end Go.Fo
