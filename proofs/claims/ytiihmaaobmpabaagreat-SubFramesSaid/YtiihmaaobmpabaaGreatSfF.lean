/- The functions of Go that are reached, as functions of plain values. -/
import Derived.Test.YtiihmaaobmpabaaGreatJ3
namespace Go.Fo
def yw (_K:Nat):Option (Unit):=
 some ()
def qe (_K:Nat)  : Option (Unit):=
 some ()
def zf (_K:Nat) (a b d:Int):Option (Bool):=
 let e:=(decide (a>=b))
 let f:=(decide (a<=d))
 let g:=(bif e then f else false)
 some g
def qi.r0 (_K:Nat) (d:Bool) (e:Int) (b:List (Bool)) (next:Int->Option ((Unit) ⊕ (Int))) (a:Int):Option ((Unit) ⊕ (Int)):=
 let f:=(decide (a<e))
 bif f then
  let g:=(Kd.nth (.bool) b (Int.toNat a))
  gd ((0:Int)<=a/\a<(b.length:Int)/\(Int.toNat a)<b.length) <|
  bif (d==g) then
   some (.inr a)
  else
   let h:=(wa .i64 (a+1))
   next h
 else
  some (.inl ())
def qi.l0 (K:Nat) (a:Bool) (b:Int) (d:List (Bool)) (n:Nat):Int->Option ((Unit) ⊕ (Int)):=wo (qi.r0 K a b d) (fun _=>none) n
def qi (K:Nat) (b:Bool) (a:List (Bool)):Option (Int):=
 (qi.l0 K b (a.length:Int) a K 0:Option ((Unit) ⊕ (Int))).bind fun z=>match z with
 | .inl _=>
  some (-1)
 | .inr r=>
  some r
def kD (K:Nat) (a:Bool) (b:List (Bool)):Option (Bool):=
 (qi K a b).bind fun d=>
 let e:=(decide (d>=0))
 some e
def kE (K:Nat) (a:List (Bool)):Option (Bool):=
 (kD K false a).bind fun b=>
 some (!b)
def xR (_K:Nat)  : Option (Unit):=
 some ()
def xe (K:Nat)  : Option ((List Int)):=
 (xR K ).bind fun _=>
 let a:=[(40,(60,(80,120))).1,(40,(60,(80,120))).2.1,(40,(60,(80,120))).2.2.1,(40,(60,(80,120))).2.2.2]
 some a
def w8.r0 (_K:Nat) (b:List Int) (d e:Int) (next:Int->Option ((Unit) ⊕ (Int))) (a:Int):Option ((Unit) ⊕ (Int)):=
 let f:=(decide (a<e))
 bif f then
  let g:=(Kd.nth (.int .i64) b (Int.toNat a))
  gd ((0:Int)<=a/\a<(b.length:Int)) <|
  bif (d==g) then
   some (.inr a)
  else
   let h:=(wa .i64 (a+1))
   next h
 else
  some (.inl ())
def w8.l0 (K:Nat) (a:List Int) (b d:Int) (n:Nat):Int->Option ((Unit) ⊕ (Int)):=wo (w8.r0 K a b d) (fun _=>none) n
def w8 (K:Nat) (a:List Int) (b:Int):Option (Int):=
 (w8.l0 K a b (a.length:Int) K 0:Option ((Unit) ⊕ (Int))).bind fun z=>match z with
 | .inl _=>
  some (-1)
 | .inr r=>
  some r
def qW (K:Nat) (a:List Int) (b:Int):Option (Bool):=
 (w8 K a b).bind fun d=>
 let e:=(decide (d>=0))
 some e
def jY (K:Nat) (l n b d e f g h i j:Int):Option (Bool):=
 (zf K n 0 3).bind fun o=>
 (zf K b 1 2).bind fun p=>
 (kE K [o,p]).bind fun a=>
 bif (l==1) then
  (
   bif a then
    let m:=(bif (d==4) then true else (d==8))
    let k:=(Int.tmod e 4)
    bif (k==0) then
     (zf K e 4 16).bind fun q=>
     let s:=(bif (k==0) then q else false)
     (zf K f 0 1).bind fun t=>
     let u:=(wa .i64 (b-1))
     (zf K g 0 u).bind fun w=>
     let y:=(wa .i64 (16*d))
     let z:=(wa .i64 (y*b))
     let A:=(imin z 250)
     (zf K h 2 A).bind fun B=>
     let D:=(bif (i==0) then (j==0) else false)
     let E:=[m,s,t,w,B,D]
     (kE K E).bind fun F=>
     let G:=(bif a then F else false)
     some G
    else
     let H:=(bif (k==0) then false else false)
     (zf K f 0 1).bind fun I=>
     let J:=(wa .i64 (b-1))
     (zf K g 0 J).bind fun L=>
     let M:=(wa .i64 (16*d))
     let N:=(wa .i64 (M*b))
     let O:=(imin N 250)
     (zf K h 2 O).bind fun P=>
     let Q:=(bif (i==0) then (j==0) else false)
     let R:=[m,H,I,L,P,Q]
     (kE K R).bind fun S=>
     let T:=(bif a then S else false)
     some T
   else
    let U:=(bif a then false else false)
    some U:Option (Bool)).bind fun V=>
   some V
 else
  bif (l==2) then
   (
    bif a then
     (xe K ).bind fun W=>
     (qW K W i).bind fun X=>
     (zf K j 20 120).bind fun Y=>
     let Z:=(bif (d==0) then (e==0) else false)
     let aa:=(bif Z then (f==0) else false)
     let ab:=(bif aa then (g==0) else false)
     let ad:=(bif ab then (h==0) else false)
     let ae:=[X,Y,ad]
     (kE K ae).bind fun af=>
     let ag:=(bif a then af else false)
     some ag
    else
     let ah:=(bif a then false else false)
     some ah:Option (Bool)).bind fun ai=>
    some ai
  else
   some false
def xZ (_K:Nat) (b _q d a e _s f g _t h:Int):Option (Int):=
 bif (b==2) then
  let i:=(wa .i64 (8*h))
  some i
 else
  let j:=(wa .i64 (f*a))
  let k:=(wa .i64 (32+j))
  let l:=(wa .i64 (4*a))
  let m:=(wa .i64 (l*d))
  let n:=(wa .i64 (k+m))
  let o:=(wa .i64 (e*g))
  let p:=(wa .i64 (n+o))
  some p
def kK (K:Nat) (a e b f g h i j k d:Int):Option (Int):=
 bif (a==2) then
  let l:=(wa .i64 (d*b))
  some l
 else
  (xZ K a e b f g h i j k d).bind fun m=>
  let n:=(wa .i64 (m+7))
  let o:=(wa .i64 (Int.tdiv n 8))
  some o
def kJ (K:Nat) (a b d e f g h i j k:Int):Option (Int):=
 (
  (jY K a b d e f g h i j k).bind fun l=>
  bif (!l) then
   some true
  else
   (kK K a b d e f g h i j k).bind fun m=>
   let n:=(decide (m>512))
   some n:Option (Bool)).bind fun o=>
  bif o then
   some 110
  else
   some 0
def kB (K:Nat) (a b d e f g h i j k:Int):Option (Int):=
 (kJ K a b d e f g h i j k).bind fun l=>
 let m:=(bif (l != 0) then true else (a != 1))
 bif m then
  some 110
 else
  some 0
def zX (_K:Nat) (a:Bool) (_b:List (Option (List Int))) (_d _e:Int):Option ((Unit) ⊕ (Unit)):=
 bif (!a) then
  some (.inl ())
 else
  some (.inr ())
def qO (_K:Nat) (_a _b:List (Option (List Int))) (_d _e:Int):Option (Unit):=
 some ()
def xD (_K:Nat) (d a:Int):Option (Int):=
 let b:=(Int.tmod d a)
 gd (a≠0) <|
 let e:=(decide (b<0))
 (
  bif e then
   let f:=(wa .i64 (b+a))
   some f
  else
   some b:Option (Int)).bind fun g=>
  some g
def yN (K:Nat) (f a:Int):Option (Int × Int):=
 (xD K f a).bind fun g=>
 let b:=(wa .i64 (4*g))
 let d:=(wa .i64 (Int.tdiv b a))
 gd (a≠0) <|
 let e:=(Int.tmod b a)
 gd (a≠0) <|
 let h:=(kand .i64 d 1)
 (
  bif (h==1) then
   let i:=(wa .i64 (a-e))
   some i
  else
   some e:Option (Int)).bind fun j=>
  let k:=(kshl .u64 (wa .u64 j) 30)
  let l:=(wa .u64 (Int.tdiv k (wa .u64 a)))
  gd ((wa .u64 a)≠0) <|
  some (l,d)
def jx (_K:Nat) (a b d:Int):Option (Int):=
 let e:=(decide (a<b))
 bif e then
  some b
 else
  let f:=(decide (a>d))
  bif f then
   some d
  else
   some a
def jw (K:Nat) (b e:Int):Option (Int):=
 (jx K e 0 62).bind fun a=>
 bif (a==0) then
  some b
 else
  let f:=(kshr .i64 b a)
  gd ((0:Int)<=a) <|
  let d:=(wa .i64 (a-1))
  let g:=(kshr .i64 b d)
  gd ((0:Int)<=d) <|
  let h:=(kand .i64 g 1)
  let i:=(wa .i64 (f+h))
  some i
def qu (_K:Nat) (a b d:Int):Option (Int):=
 let e:=(decide (a<b))
 bif e then
  some b
 else
  let f:=(decide (a>d))
  bif f then
   some d
  else
   some a
def yA (K:Nat) (a b d:Int):Option (Int):=
 (qu K a b d).bind fun e=>
 some e
def jW.r0 (_K:Nat) (_k _l d:Int) (next:Int->Int->Option (Int)) (b a:Int):Option (Int):=
 let e:=(decide (a<4))
 bif e then
  let f:=(List.getD [5026995,85569306,693598668,1686629713] (Int.toNat a) 0)
  gd ((0:Int)<=a/\a<4) <|
  let g:=(wa .u64 (b*d))
  let h:=(kshr .u64 g 30)
  let i:=(wa .u64 (f-h))
  let j:=(wa .i64 (a+1))
  next i j
 else
  some b
def jW.l0 (K:Nat) (a b d:Int) (n:Nat):Int->Int->Option (Int):=wo (jW.r0 K a b d) (fun _ _=>none) n
def jW (K:Nat) (e f:Int):Option (Int):=
 (yN K e f).bind fun (a,b)=>
 let g:=(wa .u64 (a*a))
 let h:=(kshr .u64 g 30)
 (jW.l0 K a b h K 172272 0:Option (Int)).bind fun i=>
  let j:=(wa .u64 (i*a))
  let k:=(kshr .u64 j 30)
  let l:=(wa .i64 k)
  (jw K l 15).bind fun m=>
  (yA K m 0 32767).bind fun d=>
  let n:=(decide (b>=2))
  (
   bif n then
    some ((wa .i64 (0-d)))
   else
    some d:Option (Int)).bind fun o=>
   some (wa .i16 o)
def vY (K:Nat) (b a:Int):Option (Int × Int):=
 let d:=(decide (a<1))
 let e:=(decide (a>1048576))
 let f:=(bif d then true else e)
 bif f then
  some (0,1)
 else
  (jW K b a).bind fun g=>
  some (g,0)
def jG (K:Nat) (b a:Int):Option (Int × Int):=
 let d:=(decide (a<1))
 let e:=(decide (a>1048576))
 let f:=(bif d then true else e)
 bif f then
  some (0,1)
 else
  (xD K b a).bind fun g=>
  let h:=(wa .i64 (4*g))
  let i:=(wa .i64 (h+a))
  let j:=(wa .i64 (4*a))
  (jW K i j).bind fun k=>
  some (k,0)
def Wc (K:Nat) (a:Int):Option (Int):=
 (qu K a (-32768) 32767).bind fun b=>
 some (wa .i16 b)
def xV (K:Nat) (a b:Int):Option (Int):=
 let g:=(wa .i64 (5*a))
 let d:=(wa .i64 (b-g))
 (
  bif (d != 0) then
   let h:=(wa .i64 (3*d))
   let i:=(wa .i64 (10*a))
   (vY K h i).bind fun (j,_F)=>
   let k:=(wa .i64 (565*a))
   let l:=(wa .i64 ((wa .i64 j)*k))
   let e:=(wa .i64 (1065*d))
   let m:=(wa .i64 (Int.tdiv l e))
   gd (e≠0) <|
   some m
  else
   some 32768:Option (Int)).bind fun n=>
  let f:=(wa .i64 (10*a))
  (jG K b f).bind fun (o,_G)=>
  let p:=(wa .i64 (2*b))
  (jG K p f).bind fun (q,_H)=>
  let s:=(wa .i64 (50*(wa .i64 o)))
  let t:=(wa .i64 (1376256-s))
  let u:=(wa .i64 (8*(wa .i64 q)))
  let w:=(wa .i64 (t+u))
  let y:=(wa .i64 (Int.tdiv w 100))
  let z:=(wa .i64 (n*y))
  (jw K z 15).bind fun A=>
  let B:=(wa .i64 (A*19708))
  (jw K B 15).bind fun D=>
  (Wc K D).bind fun E=>
  some E
def jM (K:Nat) (a b:Int):Option (Int):=
 (xV K b a).bind fun d=>
 some d
def qP (_K:Nat) (a:Int) (b:List (Option (List Int))) (_f:List Int) (d:List (Option (List Int))) (e _g:Int):Option (Int):=
 gd (b.length+d.length=387) <|
 some (wa .i64 (e+a))
def qY.r0 (K:Nat) (d:Int) (_j _k:List (Option (List Int))) (_l _m _n e:Int) (next:Int->List Int->Option ((List Int))) (a:Int) (b:List Int):Option ((List Int)):=
 let f:=(decide (a<d))
 bif f then
  (jM K a e).bind fun g=>
  gd ((0:Int)<=a/\a<(b.length:Int)) <|
  let h:=(List.set b (Int.toNat a) g)
  gd ((Int.toNat a)<b.length) <|
  let i:=(wa .i64 (a+1))
  next i h
 else
  some b
def qY.l0 (K:Nat) (a:Int) (b d:List (Option (List Int))) (e f g h:Int) (n:Nat):Int->List Int->Option ((List Int)):=wo (qY.r0 K a b d e f g h) (fun _ _=>none) n
def qY (K:Nat) (b d:List (Option (List Int))) (e f a i:Int):Option ((List Int) × Int):=
 let g:=(List.replicate (Int.toNat a) (0:Int))
 gd ((0:Int)<=a/\a<=a/\a*2<=140737488355328) <|
 let j:=(g.length:Int)
 (qY.l0 K j b d e f a i K 0 g:Option ((List Int))).bind fun h=>
  (qP K 1 b h d e f).bind fun k=>
  some (h,k)
def xh (K:Nat) (a b:List (Option (List Int))) (d e f g:Int):Option ((List Int) × Int):=
 qY K a b d e f g
def yi (K:Nat) (a b:List (Option (List Int))) (d e f g:Int):Option ((List Int) × Int):=
 (qO K a b d e).bind fun _=>
 (xh K a b d e f g).bind fun (h,i)=>
 some (h,i)
def zI (_K:Nat) (a:Int) (b:List (Option (List Int))) (_f:List Int) (d:List (Option (List Int))) (_g e:Int):Option (Int):=
 gd (b.length+d.length=387) <|
 some (wa .i64 (e+a))
def zq (_K:Nat) (a:List Int):Option ((List Int)):=
 gd (a≠[]) <|
 let b:=(([]:List Int)++a)
 gd (((([]:List Int).length:Int)+(a.length:Int))*2<=70368744177664) <|
 some b
def xQ (K:Nat) (t0 t1:List (Option (List Int))) (e f b g:Int):Option ((List Int) × (List Int) × Int × Int):=
 (yi K t0 t1 f b e g).bind fun (a,d)=>
 (zI K 1 t0 a t1 d b).bind fun h=>
 (zq K a).bind fun i=>
 some (i,a,d,h)
def qA (_K:Nat) (_a:List (Option (List Int))) (_b:List Int) (_d:List (Option (List Int))) (_e _f:Int):Option (Unit):=
 some ()
def xb (K:Nat) (a:List (Option (List Int))) (b:List Int) (d:List (Option (List Int))) (e f _g _h:Int):Option (Unit):=
 (qA K a b d e f).bind fun _=>
 some ()
def xt (K:Nat) (t0 t1:List (Option (List Int))) (l:List Int) (d a b e:Int):Option ((List Int) × Int):=
 (xb K t0 l t1 a b d e).bind fun _=>
 (zI K 1 t0 l t1 a b).bind fun f=>
 (zq K l).bind fun g=>
 some (g,f)
def jB (K a:Nat) (e:Int) (b:List (Option (List Int))) (d f g:Int):Option ((List Int) × (List (Option (List Int))) × Int × Int):=
 gd (b.length=388/\a=a/4*4/\a/4<388) <|
 match b[a/4]? with
 | some none=>(xQ K (b.take (a/4)) (b.drop ((a/4)+1)) e d f g).bind fun (q0',q1',q2',q3')=>some (q0',(b.take (a/4)++some q1'::b.drop ((a/4)+1)),q2',q3')
 | some (some l)=>(xt K (b.take (a/4)) (b.drop ((a/4)+1)) l e d f g).bind fun (q0',q1')=>some (q0',b,d,q1')
 | none=>none
def xo (K:Nat) (a:Int) (b:List (Option (List Int))) (d e:Int):Option ((List Int) × Int × (List (Option (List Int))) × Int × Int):=
 let g:=(bif (a==4) then true else (a==8))
 (zX K g b d e).bind fun z=>match z with
 | .inl _=>
  some (([]:List Int),1,b,d,e)
 | .inr _=>
  let f:=(wa .i64 (Int.tdiv a 8))
  let h:=(1544+(Int.toNat f)*4)
  gd ((0:Int)<=f/\f<2) <|
  let i:=(wa .i64 (10*a))
  (jB K h i b d e a).bind fun (j,k,l,m)=>
  some (j,0,k,l,m)
def xr (K:Nat) (a b:Int):Option (Int):=
 (jG K a b).bind fun (d,_e)=>
 some d
def qE.r0 (K:Nat) (d:Int) (_j _k:List (Option (List Int))) (_l _m _n e:Int) (next:Int->List Int->Option ((List Int))) (a:Int) (b:List Int):Option ((List Int)):=
 let f:=(decide (a<d))
 bif f then
  (xr K a e).bind fun g=>
  gd ((0:Int)<=a/\a<(b.length:Int)) <|
  let h:=(List.set b (Int.toNat a) g)
  gd ((Int.toNat a)<b.length) <|
  let i:=(wa .i64 (a+1))
  next i h
 else
  some b
def qE.l0 (K:Nat) (a:Int) (b d:List (Option (List Int))) (e f g h:Int) (n:Nat):Int->List Int->Option ((List Int)):=wo (qE.r0 K a b d e f g h) (fun _ _=>none) n
def qE (K:Nat) (b d:List (Option (List Int))) (e f a i:Int):Option ((List Int) × Int):=
 let g:=(List.replicate (Int.toNat a) (0:Int))
 gd ((0:Int)<=a/\a<=a/\a*2<=140737488355328) <|
 let j:=(g.length:Int)
 (qE.l0 K j b d e f a i K 0 g:Option ((List Int))).bind fun h=>
  (qP K 1 b h d e f).bind fun k=>
  some (h,k)
def jK (K:Nat) (a b:List (Option (List Int))) (d e f g:Int):Option ((List Int) × Int):=
 qE K a b d e f g
def xM (K:Nat) (a b:List (Option (List Int))) (d e f g:Int):Option ((List Int) × Int):=
 (qO K a b d e).bind fun _=>
 (jK K a b d e f g).bind fun (h,i)=>
 some (h,i)
def xn (K:Nat) (t0 t1:List (Option (List Int))) (e f b g:Int):Option ((List Int) × (List Int) × Int × Int):=
 (xM K t0 t1 f b e g).bind fun (a,d)=>
 (zI K 1 t0 a t1 d b).bind fun h=>
 (zq K a).bind fun i=>
 some (i,a,d,h)
def xa (K:Nat) (a:List (Option (List Int))) (b:List Int) (d:List (Option (List Int))) (e f _g _h:Int):Option (Unit):=
 (qA K a b d e f).bind fun _=>
 some ()
def xg (K:Nat) (t0 t1:List (Option (List Int))) (l:List Int) (d a b e:Int):Option ((List Int) × Int):=
 (xa K t0 l t1 a b d e).bind fun _=>
 (zI K 1 t0 l t1 a b).bind fun f=>
 (zq K l).bind fun g=>
 some (g,f)
def jt (K a:Nat) (e:Int) (b:List (Option (List Int))) (d f g:Int):Option ((List Int) × (List (Option (List Int))) × Int × Int):=
 gd (b.length=388/\a=a/4*4/\a/4<388) <|
 match b[a/4]? with
 | some none=>(xn K (b.take (a/4)) (b.drop ((a/4)+1)) e d f g).bind fun (q0',q1',q2',q3')=>some (q0',(b.take (a/4)++some q1'::b.drop ((a/4)+1)),q2',q3')
 | some (some l)=>(xg K (b.take (a/4)) (b.drop ((a/4)+1)) l e d f g).bind fun (q0',q1')=>some (q0',b,d,q1')
 | none=>none
def xO (K:Nat) (a:Int) (b:List (Option (List Int))) (d e:Int):Option ((List Int) × Int × (List (Option (List Int))) × Int × Int):=
 let g:=(decide (a>=4))
 let h:=(decide (a<=1024))
 let i:=(bif g then h else false)
 let j:=(Int.tmod a 4)
 let k:=(bif i then (j==0) else false)
 (zX K k b d e).bind fun z=>match z with
 | .inl _=>
  some (([]:List Int),1,b,d,e)
 | .inr _=>
  let f:=(wa .i64 (Int.tdiv a 4))
  let l:=(0+(Int.toNat f)*4)
  gd ((0:Int)<=f/\f<257) <|
  (jt K l a b d e a).bind fun (m,n,o,p)=>
  some (m,0,n,o,p)
def yM (K:Nat) (a:Int) (g:List (Option (List Int))) (h i:Int):Option (Int × (List Int) × (List Int) × Int × (List (Option (List Int))) × Int × Int):=
 (xo K a g h i).bind fun (j,b,d,e,f)=>
 bif (b != 0) then
  some (0,([]:List Int),([]:List Int),b,d,e,f)
 else
  let k:=(wa .i64 (8*a))
  (xO K k d e f).bind fun (l,m,n,o,p)=>
  some (a,j,l,m,n,o,p)
def wW (K:Nat) (b:Int) (h:List (Option (List Int))) (i j:Int):Option ((Int × (List (Option (List Int))) × Int × Int) ⊕ ((List (Option (List Int))) × Int × Int × Int × (List Int) × (List Int) × (List Int))):=
 (yM K b h i j).bind fun (k,l,m,d,e,f,g)=>
 bif (d != 0) then
  some (.inl (d,e,f,g))
 else
  let a:=(wa .i64 (10*b))
  let n:=(List.replicate (Int.toNat a) (0:Int))
  gd ((0:Int)<=a/\a<=a/\a*8<=140737488355328) <|
  some (.inr (e,f,g,k,l,m,n))
def wJ (K:Nat) (h i b a j k l m n o:Int) (d:List (Option (List Int))) (e f:Int):Option ((Int) ⊕ ((List (Option (List Int))) × Int × Int × Int × (List Int) × (List Int) × (List Int)) ⊕ ((List (Option (List Int))) × Int × Int × Int × (List Int) × (List Int) × Int × (List Int) × (List Int) × (List Int) × (List Int))):=
 (kB K h i b a j k l m n o).bind fun g=>
 bif (g != 0) then
  some (.inl g)
 else
  bif b==1 then
   (wW K a d e f).bind fun z=>match z with
   | .inl (_Q,_R,_S,_T)=>
    none
   | .inr (p,q,s,t,u,w,y)=>
    some (.inr (.inl (p,q,s,t,u,w,y)))
  else
   bif b==2 then
    (wW K a d e f).bind fun z=>match z with
    | .inl (_U,_V,_W,_X)=>
     none
    | .inr (A,B,D,E,F,G,H)=>
     (wW K a A B D).bind fun z=>match z with
     | .inl (_Y,_Z,_aa,_ab)=>
      none
     | .inr (I,J,L,M,N,O,P)=>
      some (.inr (.inr (I,J,L,E,F,G,M,N,O,H,P)))
   else
    none
def qm (_K:Nat) (_a:List Int):Option ((List Int)):=
 some ([]:List Int)
def vZ (K:Nat) (a b d e f g h i j k:Int):Option (Int):=
 (kJ K a b d e f g h i j k).bind fun l=>
 bif (l != 0) then
  some 0
 else
  (kK K a b d e f g h i j k).bind fun m=>
  some m
def jd (K:Nat) (a b d e f g h i j k:Int):Option (Int):=
 (vZ K a b d e f g h i j k).bind fun l=>
 some l
def yR (_K:Nat) (a:List Int):Option ((List Int)):=
 gd (a≠[]) <|
 let b:=(([]:List Int)++a)
 gd (((([]:List Int).length:Int)+(a.length:Int))*1<=70368744177664) <|
 some b
def kG (K:Nat) (a:List Int):Option ((Unit) ⊕ ((List Int))):=
 let b:=(decide ((a.length:Int)>512))
 bif b then
  some (.inl ())
 else
  (yR K a).bind fun d=>
  some (.inr d)
def jz (_K:Nat) (_a:Int):Option (Unit):=
 some ()
def qG.r0 (K:Nat) (d e:Int) (next:Int->List Int->Option ((List Int))) (a:Int) (b:List Int):Option ((List Int)):=
 let f:=(decide (a<e))
 bif f then
  (jz K d).bind fun _=>
  let g:=(List.set b (Int.toNat a) 0)
  gd ((0:Int)<=a/\a<(b.length:Int)/\(Int.toNat a)<b.length) <|
  let h:=(wa .i64 (a+1))
  next h g
 else
  some b
def qG.l0 (K:Nat) (a b:Int) (n:Nat):Int->List Int->Option ((List Int)):=wo (qG.r0 K a b) (fun _ _=>none) n
def qG (K:Nat) (a d:Int):Option ((List Int)):=
 let b:=(List.replicate (Int.toNat a) (0:Int))
 gd ((0:Int)<=a/\a<=a/\a*8<=140737488355328) <|
 let e:=(b.length:Int)
 (qG.l0 K d e K 0 b:Option ((List Int))).bind fun f=>
  some f
def wS.r1 (_K:Nat) (_k:List (List Int)) (_l _m:Int) (b:List Int) (e _n _o _p _q _s _t _u _w _y _z:Int) (next:Int->Option ((Unit) ⊕ (Int))) (a:Int):Option ((Unit) ⊕ (Int)):=
 let f:=(decide (a<e))
 bif f then
  let d:=(Kd.nth (.int .i64) b (Int.toNat a))
  gd ((0:Int)<=a/\a<(b.length:Int)) <|
  let g:=(decide (d<0))
  let h:=(decide (d>15))
  let i:=(bif g then true else h)
  bif i then
   some (.inr 1)
  else
   let j:=(wa .i64 (a+1))
   next j
 else
  some (.inl ())
def wS.l1 (K:Nat) (a:List (List Int)) (b d:Int) (e:List Int) (f g h i j k l m o p q:Int) (n:Nat):Int->Option ((Unit) ⊕ (Int)):=wo (wS.r1 K a b d e f g h i j k l m o p q) (fun _=>none) n
def wS.r0 (K:Nat) (b:List (List Int)) (d h i j e k l m n o p:Int) (next:Int->Option ((Unit) ⊕ (Int))) (a:Int):Option ((Unit) ⊕ (Int)):=
 let q:=(decide (a<d))
 bif q then
  let f:=(Kd.nth (.slice (.int .i64)) b (Int.toNat a))
  gd ((0:Int)<=a/\a<(b.length:Int)) <|
  let g:=(f.length:Int)
  bif (g != e) then
   some (.inr 1)
  else
   (wS.l1 K b d a f g h i j e k l m n o p K 0:Option ((Unit) ⊕ (Int))).bind fun z=>match z with
   | .inl _=>
    let s:=(wa .i64 (a+1))
    next s
   | .inr r=>
    some (.inr r)
 else
  some (.inl ())
def wS.l0 (K:Nat) (a:List (List Int)) (b d e f g h i j k l m:Int) (n:Nat):Int->Option ((Unit) ⊕ (Int)):=wo (wS.r0 K a b d e f g h i j k l m) (fun _=>none) n
def wS (K:Nat) (a e b f g h i j k l:Int) (d:List (List Int)):Option (Int):=
 (kJ K a e b f g h i j k l).bind fun m=>
 let n:=(bif (m != 0) then true else (a != 1))
 bif n then
  some 110
 else
  let o:=((d.length:Int) != b)
  bif o then
   some 1
  else
   (wS.l0 K d (d.length:Int) a e b f g h i j k l K 0:Option ((Unit) ⊕ (Int))).bind fun z=>match z with
   | .inl _=>
    some 0
   | .inr r=>
    some r
def vu (_K:Nat)  : Option (Unit):=
 some ()
def yK (_K:Nat)  : Option (Unit):=
 some ()
def jL (K:Nat) (_t a _u d _w _y _z _A _B _D b:Int):Option (Int):=
 bif (d==4) then
  (vu K ).bind fun _=>
  let e:=(List.getD [(-1),0,0,0,(-2),0,0,1,(-2),0,0,1,(-2),0,0,1] ((Int.toNat a)*4+0) 0)
  let f:=(List.getD [(-1),0,0,0,(-2),0,0,1,(-2),0,0,1,(-2),0,0,1] ((Int.toNat a)*4+1) 0)
  let g:=(List.getD [(-1),0,0,0,(-2),0,0,1,(-2),0,0,1,(-2),0,0,1] ((Int.toNat a)*4+2) 0)
  let h:=(List.getD [(-1),0,0,0,(-2),0,0,1,(-2),0,0,1,(-2),0,0,1] ((Int.toNat a)*4+3) 0)
  gd ((0:Int)<=a/\a<(4:Int)) <|
  let i:=(List.getD [e,f,g,h] (Int.toNat b) 0)
  gd ((0:Int)<=b/\b<4) <|
  some i
 else
  (yK K ).bind fun _=>
  let j:=(List.getD [(-2),0,0,0,0,0,0,1,(-3),0,0,0,0,0,1,2,(-4),0,0,0,0,0,1,2,(-4),0,0,0,0,0,1,2] ((Int.toNat a)*8+0) 0)
  let k:=(List.getD [(-2),0,0,0,0,0,0,1,(-3),0,0,0,0,0,1,2,(-4),0,0,0,0,0,1,2,(-4),0,0,0,0,0,1,2] ((Int.toNat a)*8+1) 0)
  let l:=(List.getD [(-2),0,0,0,0,0,0,1,(-3),0,0,0,0,0,1,2,(-4),0,0,0,0,0,1,2,(-4),0,0,0,0,0,1,2] ((Int.toNat a)*8+2) 0)
  let m:=(List.getD [(-2),0,0,0,0,0,0,1,(-3),0,0,0,0,0,1,2,(-4),0,0,0,0,0,1,2,(-4),0,0,0,0,0,1,2] ((Int.toNat a)*8+3) 0)
  let n:=(List.getD [(-2),0,0,0,0,0,0,1,(-3),0,0,0,0,0,1,2,(-4),0,0,0,0,0,1,2,(-4),0,0,0,0,0,1,2] ((Int.toNat a)*8+4) 0)
  let o:=(List.getD [(-2),0,0,0,0,0,0,1,(-3),0,0,0,0,0,1,2,(-4),0,0,0,0,0,1,2,(-4),0,0,0,0,0,1,2] ((Int.toNat a)*8+5) 0)
  let p:=(List.getD [(-2),0,0,0,0,0,0,1,(-3),0,0,0,0,0,1,2,(-4),0,0,0,0,0,1,2,(-4),0,0,0,0,0,1,2] ((Int.toNat a)*8+6) 0)
  let q:=(List.getD [(-2),0,0,0,0,0,0,1,(-3),0,0,0,0,0,1,2,(-4),0,0,0,0,0,1,2,(-4),0,0,0,0,0,1,2] ((Int.toNat a)*8+7) 0)
  gd ((0:Int)<=a/\a<(4:Int)) <|
  let s:=(List.getD [j,k,l,m,n,o,p,q] (Int.toNat b) 0)
  gd ((0:Int)<=b/\b<8) <|
  some s
def xT (K:Nat) (e f g h i d j k l m a n:Int):Option (Int):=
 bif (d==1) then
  some a
 else
  bif (a==0) then
   some (-5)
  else
   (jL K e f g h i d j k l m n).bind fun o=>
   let b:=(wa .i64 (a-o))
   let p:=(decide (b>0))
   (
    bif p then
     let q:=(wa .i64 (Int.tdiv b 2))
     some q
    else
     some b:Option (Int)).bind fun s=>
    some s
def zU.r1 (K:Nat) (_A:List (List Int)) (a _B:Int) (e:List Int) (h i j k l m n o p q s:Int) (next:Int->List (List Int)->Option ((List (List Int)))) (d:Int) (b:List (List Int)):Option ((List (List Int))):=
 let t:=(decide (d<h))
 bif t then
  let u:=(Kd.nth (.int .i64) e (Int.toNat d))
  gd ((0:Int)<=d/\d<(e.length:Int)) <|
  gd ((0:Int)<=a/\a<(b.length:Int)) <|
  let f:=(List.getD b (Int.toNat a) [])
  gd ((Int.toNat a)<b.length) <|
  (xT K i j k l m n o p q s u d).bind fun g=>
  let w:=(f++[g])
  gd (((f.length:Int)+([g].length:Int))*8<=70368744177664) <|
  gd ((0:Int)<=a/\a<(b.length:Int)) <|
  let y:=(List.set b (Int.toNat a) w)
  gd ((Int.toNat a)<b.length) <|
  let z:=(wa .i64 (d+1))
  next z y
 else
  some b
def zU.l1 (K:Nat) (a:List (List Int)) (b d:Int) (e:List Int) (f g h i j k l m o p q:Int) (n:Nat):Int->List (List Int)->Option ((List (List Int))):=wo (zU.r1 K a b d e f g h i j k l m o p q) (fun _ _=>none) n
def zU.r0 (K:Nat) (b:List (List Int)) (d g h i j k l m n o p:Int) (next:Int->List (List Int)->Option ((List (List Int)))) (a:Int) (e:List (List Int)):Option ((List (List Int))):=
 let q:=(decide (a<d))
 bif q then
  let f:=(Kd.nth (.slice (.int .i64)) b (Int.toNat a))
  let s:=(f.length:Int)
  gd ((0:Int)<=a/\a<(b.length:Int)) <|
  (zU.l1 K b a d f s g h i j k l m n o p K 0 e:Option ((List (List Int)))).bind fun t=>
   let u:=(wa .i64 (a+1))
   next u t
 else
  some e
def zU.l0 (K:Nat) (a:List (List Int)) (b d e f g h i j k l m:Int) (n:Nat):Int->List (List Int)->Option ((List (List Int))):=wo (zU.r0 K a b d e f g h i j k l m) (fun _ _=>none) n
def zU (K:Nat) (b d a e f g h i j k:Int) (l:List (List Int)):Option ((List (List Int)) × Int):=
 (wS K b d a e f g h i j k l).bind fun m=>
 bif (m != 0) then
  some (([]:List (List Int)),m)
 else
  let n:=(List.replicate (Int.toNat a) ([]:List Int))
  gd ((0:Int)<=a/\a<=a/\a*24<=140737488355328) <|
  let o:=(n.length:Int)
  (zU.l0 K l o b d a e f g h i j k K 0 n:Option ((List (List Int)))).bind fun p=>
   some (p,0)
def ky (_K:Nat) (a:Int) (_g:Nat) (b:List Int) (_h d _i:Int) (_j e:List (List Int)) (f:Nat):Option (Int × (List (List Int))):=
 some ((imax d a),(List.set e f b))
def wP.r1 (K:Nat) (b _q i j k:Int) (e:List (List Int)) (next:Int->Int->List (List Int)->Option (Int × (List (List Int)))) (a f:Int) (d:List (List Int)):Option (Int × (List (List Int))):=
 let l:=(decide (a<i))
 bif l then
  let g:=(Kd.nth (.slice (.int .i64)) e (Int.toNat a))
  gd ((0:Int)<=a/\a<(e.length:Int)) <|
  let m:=(Kd.nth (.int .i64) g (Int.toNat b))
  gd ((0:Int)<=b/\b<(g.length:Int)) <|
  gd ((0:Int)<=a/\a<(d.length:Int)) <|
  let h:=(List.getD d (Int.toNat a) [])
  gd ((Int.toNat a)<d.length) <|
  gd ((0:Int)<=b/\b<(h.length:Int)) <|
  (ky K m (Int.toNat b) h j f k e d (Int.toNat a)).bind fun (n,o)=>
  let p:=(wa .i64 (a+1))
  next p n o
 else
  some (f,d)
def wP.l1 (K:Nat) (a b d e f:Int) (g:List (List Int)) (n:Nat):Int->Int->List (List Int)->Option (Int × (List (List Int))):=wo (wP.r1 K a b d e f g) (fun _ _ _=>none) n
def wP.r0 (K:Nat) (b g h:Int) (d:List (List Int)) (next:Int->Int->List (List Int)->Option (Int × (List (List Int)))) (a e:Int) (f:List (List Int)):Option (Int × (List (List Int))):=
 let i:=(decide (a<b))
 bif i then
  (wP.l1 K a b (d.length:Int) g h d K 0 e f:Option (Int × (List (List Int)))).bind fun (j,k)=>
   let l:=(wa .i64 (a+1))
   next l j k
 else
  some (e,f)
def wP.l0 (K:Nat) (a b d:Int) (e:List (List Int)) (n:Nat):Int->Int->List (List Int)->Option (Int × (List (List Int))):=wo (wP.r0 K a b d e) (fun _ _ _=>none) n
def wP (K:Nat) (b d e:Int) (a f:List (List Int)):Option (Int × (List (List Int))):=
 let g:=(Kd.nth (.slice (.int .i64)) a 0)
 let h:=(g.length:Int)
 gd (0<(a.length:Int)) <|
 (wP.l0 K h b e a K 0 d f:Option (Int × (List (List Int)))).bind fun (i,j)=>
  some (i,j)
def qx (_K:Nat) (g:Int) (_p:Nat) (a:List Int) (b _q h _s:Int) (_t d:List (List Int)) (e:Nat):Option (Int × (List (List Int))):=
 let f:=(wa .i64 (g-h))
 (
  bif (f==1) then
   let i:=(wa .i64 (b+2))
   some ((i,(List.set d e a)))
  else
   let j:=(decide (f>1))
   let k:=(decide (f<16))
   let l:=(bif j then k else false)
   bif l then
    let m:=(wa .i64 (b+1))
    some ((m,(List.set d e a)))
   else
    some ((b,(List.set d e a))):Option (Int × (List (List Int)))).bind fun (n,o)=>
  some (n,o)
def wM.r1 (K:Nat) (b _s i j k l:Int) (e:List (List Int)) (next:Int->Int->List (List Int)->Option (Int × (List (List Int)))) (a f:Int) (d:List (List Int)):Option (Int × (List (List Int))):=
 let m:=(decide (a<i))
 bif m then
  let g:=(Kd.nth (.slice (.int .i64)) e (Int.toNat a))
  gd ((0:Int)<=a/\a<(e.length:Int)) <|
  let n:=(Kd.nth (.int .i64) g (Int.toNat b))
  gd ((0:Int)<=b/\b<(g.length:Int)) <|
  gd ((0:Int)<=a/\a<(d.length:Int)) <|
  let h:=(List.getD d (Int.toNat a) [])
  gd ((Int.toNat a)<d.length) <|
  gd ((0:Int)<=b/\b<(h.length:Int)) <|
  (qx K n (Int.toNat b) h f j k l e d (Int.toNat a)).bind fun (o,p)=>
  let q:=(wa .i64 (a+1))
  next q o p
 else
  some (f,d)
def wM.l1 (K:Nat) (a b d e f g:Int) (h:List (List Int)) (n:Nat):Int->Int->List (List Int)->Option (Int × (List (List Int))):=wo (wM.r1 K a b d e f g h) (fun _ _ _=>none) n
def wM.r0 (K:Nat) (b g h i:Int) (d:List (List Int)) (next:Int->Int->List (List Int)->Option (Int × (List (List Int)))) (a e:Int) (f:List (List Int)):Option (Int × (List (List Int))):=
 let j:=(decide (a<b))
 bif j then
  (wM.l1 K a b (d.length:Int) g h i d K 0 e f:Option (Int × (List (List Int)))).bind fun (k,l)=>
   let m:=(wa .i64 (a+1))
   next m k l
 else
  some (e,f)
def wM.l0 (K:Nat) (a b d e:Int) (f:List (List Int)) (n:Nat):Int->Int->List (List Int)->Option (Int × (List (List Int))):=wo (wM.r0 K a b d e f) (fun _ _ _=>none) n
def wM (K:Nat) (b d e:Int) (a:List (List Int)) (f:Int) (g:List (List Int)):Option (Int × (List (List Int))):=
 let h:=(Kd.nth (.slice (.int .i64)) a 0)
 let i:=(h.length:Int)
 gd (0<(a.length:Int)) <|
 (wM.l0 K i b d e a K 0 f g:Option (Int × (List (List Int)))).bind fun (j,k)=>
  some (j,k)
def qK (K:Nat) (a b d:Int) (e f:List (List Int)):Option (Int × (List (List Int))):=
 (wM K a b d e 0 f).bind fun (g,h)=>
 some (g,h)
def zb.r0 (K:Nat) (b:Int) (i:List (List Int)) (next:Int->Int->Int->List (List Int)->Option (Int × Int × Int × (List (List Int)))) (d e f:Int) (g:List (List Int)):Option (Int × Int × Int × (List (List Int))):=
 let a:=(wa .i64 (f+d))
 let j:=(decide (a<b))
 bif j then
  let h:=(wa .i64 (e-1))
  (qK K b h a i g).bind fun (k,l)=>
  next k h a l
 else
  some (d,e,f,g)
def zb.l0 (K:Nat) (a:Int) (b:List (List Int)) (n:Nat):Int->Int->Int->List (List Int)->Option (Int × Int × Int × (List (List Int))):=wo (zb.r0 K a b) (fun _ _ _ _=>none) n
def zb (K:Nat) (a j b:Int) (d k:List (List Int)):Option (Int × Int × (List (List Int))):=
 (wP K a j b d k).bind fun (e,l)=>
 (qK K a e b d l).bind fun (m,n)=>
 (zb.l0 K a d K m e b n:Option (Int × Int × Int × (List (List Int)))).bind fun (o,f,g,h)=>
  let i:=(wa .i64 (g+o))
  bif (i==a) then
   let p:=(wa .i64 (f-1))
   some (p,i,h)
  else
   some (f,g,h)
def jp (_K:Nat) (b:Int) (d:Nat) (a:List Int) (_m e _n:Int) (_o f:List (List Int)) (g:Nat):Option ((List (List Int))):=
 let h:=(wa .i64 (e+2))
 let i:=(decide (b>=h))
 (
  bif i then
   let j:=(wa .i64 (b-e))
   let k:=(List.set a d (imin j 16))
   gd (d<a.length) <|
   some (List.set f g k)
  else
   some (List.set f g a):Option ((List (List Int)))).bind fun l=>
  some l
def wI.r1 (K:Nat) (b _p h i j k:Int) (e:List (List Int)) (next:Int->List (List Int)->Option ((List (List Int)))) (a:Int) (d:List (List Int)):Option ((List (List Int))):=
 let l:=(decide (a<h))
 bif l then
  let f:=(Kd.nth (.slice (.int .i64)) e (Int.toNat a))
  gd ((0:Int)<=a/\a<(e.length:Int)) <|
  let m:=(Kd.nth (.int .i64) f (Int.toNat b))
  gd ((0:Int)<=b/\b<(f.length:Int)) <|
  gd ((0:Int)<=a/\a<(d.length:Int)) <|
  let g:=(List.getD d (Int.toNat a) [])
  gd ((Int.toNat a)<d.length) <|
  gd ((0:Int)<=b/\b<(g.length:Int)) <|
  (jp K m (Int.toNat b) g i j k e d (Int.toNat a)).bind fun n=>
  let o:=(wa .i64 (a+1))
  next o n
 else
  some d
def wI.l1 (K:Nat) (a b d e f g:Int) (h:List (List Int)) (n:Nat):Int->List (List Int)->Option ((List (List Int))):=wo (wI.r1 K a b d e f g h) (fun _ _=>none) n
def wI.r0 (K:Nat) (b f g h:Int) (d:List (List Int)) (next:Int->List (List Int)->Option ((List (List Int)))) (a:Int) (e:List (List Int)):Option ((List (List Int))):=
 let i:=(decide (a<b))
 bif i then
  (wI.l1 K a b (d.length:Int) f g h d K 0 e:Option ((List (List Int)))).bind fun j=>
   let k:=(wa .i64 (a+1))
   next k j
 else
  some e
def wI.l0 (K:Nat) (a b d e:Int) (f:List (List Int)) (n:Nat):Int->List (List Int)->Option ((List (List Int))):=wo (wI.r0 K a b d e f) (fun _ _=>none) n
def wI (K:Nat) (b d e:Int) (a f:List (List Int)):Option ((List (List Int))):=
 let g:=(Kd.nth (.slice (.int .i64)) a 0)
 let h:=(g.length:Int)
 gd (0<(a.length:Int)) <|
 (wI.l0 K h b d e a K 0 f:Option ((List (List Int)))).bind fun i=>
  some i
def qF (_K:Nat) (j:Int) (b:Nat) (a:List Int) (k:Bool) (h l d:Int) (_G e:List (List Int)) (f:Nat):Option (Bool × Int × (List (List Int))):=
 (
  let m:=(decide (d>=h))
  bif m then
   some (.inr (false,d,(List.set e f a)))
  else
   let g:=(Kd.nth (.int .i64) a b)
   let i:=(decide (g>=2))
   let n:=(decide (g<16))
   let o:=(bif i then n else false)
   gd (b<a.length/\(i=true->b<a.length)) <|
   bif o then
    let p:=(wa .i64 (g+1))
    let q:=(List.set a b p)
    gd (b<a.length/\b<a.length) <|
    let s:=(wa .i64 (d+1))
    some (.inl (s,(List.set e f q)))
   else
    let t:=(wa .i64 (l+1))
    let u:=(bif k then (j==t) else false)
    let w:=(wa .i64 (d+1))
    let y:=(decide (h>w))
    let A:=(bif u then y else false)
    bif A then
     let B:=(List.set a b 2)
     gd (b<a.length) <|
     let D:=(wa .i64 (d+2))
     some (.inl (D,(List.set e f B)))
    else
     some (.inl (d,(List.set e f a))):Option ((Int × (List (List Int))) ⊕ (Bool × Int × (List (List Int))))).bind fun z=>match z with
 | .inl (E,F)=>
  some (true,E,F)
 | .inr r=>
  some r
def wC.r1 (K:Nat) (b _t k l m:Int) (e:List (List Int)) (n:Bool) (next:Int->Int->List (List Int)->Option ((Int × (List (List Int))) ⊕ (Int × (List (List Int))))) (a f:Int) (d:List (List Int)):Option ((Int × (List (List Int))) ⊕ (Int × (List (List Int)))):=
 let o:=(decide (a<k))
 bif o then
  let g:=(Kd.nth (.slice (.int .i64)) e (Int.toNat a))
  gd ((0:Int)<=a/\a<(e.length:Int)) <|
  let p:=(Kd.nth (.int .i64) g (Int.toNat b))
  gd ((0:Int)<=b/\b<(g.length:Int)) <|
  gd ((0:Int)<=a/\a<(d.length:Int)) <|
  let h:=(List.getD d (Int.toNat a) [])
  gd ((Int.toNat a)<d.length) <|
  gd ((0:Int)<=b/\b<(h.length:Int)) <|
  (qF K p (Int.toNat b) h n l m f e d (Int.toNat a)).bind fun (q,i,j)=>
  bif (!q) then
   some (.inr (i,j))
  else
   let s:=(wa .i64 (a+1))
   next s i j
 else
  some (.inl (f,d))
def wC.l1 (K:Nat) (a b d e f:Int) (g:List (List Int)) (h:Bool) (n:Nat):Int->Int->List (List Int)->Option ((Int × (List (List Int))) ⊕ (Int × (List (List Int)))):=wo (wC.r1 K a b d e f g h) (fun _ _ _=>none) n
def wC.r0 (K:Nat) (b g h:Int) (d:List (List Int)) (i:Bool) (next:Int->Int->List (List Int)->Option ((Int × (List (List Int))) ⊕ (Int × (List (List Int))))) (a e:Int) (f:List (List Int)):Option ((Int × (List (List Int))) ⊕ (Int × (List (List Int)))):=
 let j:=(decide (a<b))
 bif j then
  (wC.l1 K a b (d.length:Int) g h d i K 0 e f:Option ((Int × (List (List Int))) ⊕ (Int × (List (List Int))))).bind fun z=>match z with
  | .inl (k,l)=>
   let m:=(wa .i64 (a+1))
   next m k l
  | .inr r=>
   some (.inr r)
 else
  some (.inl (e,f))
def wC.l0 (K:Nat) (a b d:Int) (e:List (List Int)) (f:Bool) (n:Nat):Int->Int->List (List Int)->Option ((Int × (List (List Int))) ⊕ (Int × (List (List Int)))):=wo (wC.r0 K a b d e f) (fun _ _ _=>none) n
def wC (K:Nat) (b d e:Int) (a:List (List Int)) (f:Bool) (g:List (List Int)):Option (Int × (List (List Int))):=
 let h:=(Kd.nth (.slice (.int .i64)) a 0)
 let i:=(h.length:Int)
 gd (0<(a.length:Int)) <|
 (wC.l0 K i b d a f K 0 e g:Option ((Int × (List (List Int))) ⊕ (Int × (List (List Int))))).bind fun z=>match z with
 | .inl (j,k)=>
  some (j,k)
 | .inr r=>
  some r
def qU (K:Nat) (a:Bool) (b d e:Int) (f g:List (List Int)):Option (Int × (List (List Int))):=
 (wC K b d e f a g).bind fun (h,i)=>
 some (h,i)
def zp.r0 (_K:Nat) (e _j _k _l b _m _n _o _p _q _s:Int) (_t:List (List Int)) (next:Int->List (List Int)->Option ((List (List Int)))) (a:Int) (d:List (List Int)):Option ((List (List Int))):=
 let f:=(decide (a<e))
 bif f then
  let g:=(List.replicate (Int.toNat b) (0:Int))
  gd ((0:Int)<=b/\b<=b/\b*8<=140737488355328) <|
  gd ((0:Int)<=a/\a<(d.length:Int)) <|
  let h:=(List.set d (Int.toNat a) g)
  gd ((Int.toNat a)<d.length) <|
  let i:=(wa .i64 (a+1))
  next i h
 else
  some d
def zp.l0 (K:Nat) (a b d e f g h i j k l:Int) (m:List (List Int)) (n:Nat):Int->List (List Int)->Option ((List (List Int))):=wo (zp.r0 K a b d e f g h i j k l m) (fun _ _=>none) n
def zp (K:Nat) (f g a h i j k b l m:Int) (q:List (List Int)):Option ((List (List Int)) × Int):=
 (zU K f g a h i j k b l m q).bind fun (d,n)=>
 bif (n != 0) then
  some (([]:List (List Int)),n)
 else
  let o:=(List.replicate (Int.toNat a) ([]:List Int))
  gd ((0:Int)<=a/\a<=a/\a*24<=140737488355328) <|
  let s:=(o.length:Int)
  (zp.l0 K s f g a h i j k b l m d K 0 o:Option ((List (List Int)))).bind fun t=>
   (zb K b (-99) 0 d t).bind fun (e,p,u)=>
   (wI K b e p d u).bind fun w=>
   (qU K true b e p d w).bind fun (y,z)=>
   (qU K false b e y d z).bind fun (_B,A)=>
   some (A,0)
def kU (_K:Nat) (a _f _g _h _i _j _k b _l _m _n:Int):Option (Bool):=
 let d:=(bif (b==1) then (a==1) else false)
 let e:=(bif (a==0) then true else d)
 some e
def jm (K:Nat) (a b d e f g h i j k l:Int):Option (Bool):=
 (kU K a b d e f g h i j k l).bind fun m=>
 some (!m)
def zT.r0 (K:Nat) (b:List Int) (d e f g h i j k l m n:Int) (next:Int->Option ((Unit) ⊕ (Int))) (a:Int):Option ((Unit) ⊕ (Int)):=
 let o:=(decide (a<d))
 bif o then
  let p:=(Kd.nth (.int .i64) b (Int.toNat a))
  gd ((0:Int)<=a/\a<(b.length:Int)) <|
  (jm K p e f g h i j k l m n).bind fun q=>
  bif q then
   some (.inr a)
  else
   let s:=(wa .i64 (a+1))
   next s
 else
  some (.inl ())
def zT.l0 (K:Nat) (a:List Int) (b d e f g h i j k l m:Int) (n:Nat):Int->Option ((Unit) ⊕ (Int)):=wo (zT.r0 K a b d e f g h i j k l m) (fun _=>none) n
def zT (K:Nat) (a:List Int) (b d e f g h i j k l:Int):Option (Int):=
 (zT.l0 K a (a.length:Int) b d e f g h i j k l K 0:Option ((Unit) ⊕ (Int))).bind fun z=>match z with
 | .inl _=>
  some (-1)
 | .inr r=>
  some r
def qZ (K:Nat) (a:List Int) (b d e f g h i j k l:Int):Option (Bool):=
 (zT K a b d e f g h i j k l).bind fun m=>
 let n:=(decide (m>=0))
 some n
def jb (K:Nat) (a:List Int) (b d e f g h i j k l m:Int):Option (Bool):=
 (
  let n:=((a.length:Int)==b)
  bif n then
   (qZ K a d e f g h i j k l m).bind fun o=>
   some (!o)
  else
   some false:Option (Bool)).bind fun p=>
  some p
def kR (_K:Nat) (a:Int):Option (Bool):=
 some (a==0)
def kV (_K:Nat) (a:List (List Int)) (_e _f b _g _h _i _j _k _l _m:Int):Option (Bool):=
 let d:=((a.length:Int)==b)
 some d
def kk (K:Nat) (a:List (List Int)) (b d e f g h i j k l:Int):Option (Bool):=
 (kV K a b d e f g h i j k l).bind fun m=>
 some (!m)
def zl.r0 (K:Nat) (b:List (List (List Int))) (d e f g h i j k l m n:Int) (next:Int->Option ((Unit) ⊕ (Int))) (a:Int):Option ((Unit) ⊕ (Int)):=
 let o:=(decide (a<d))
 bif o then
  let p:=(Kd.nth (.slice (.slice (.int .i64))) b (Int.toNat a))
  gd ((0:Int)<=a/\a<(b.length:Int)) <|
  (kk K p e f g h i j k l m n).bind fun q=>
  bif q then
   some (.inr a)
  else
   let s:=(wa .i64 (a+1))
   next s
 else
  some (.inl ())
def zl.l0 (K:Nat) (a:List (List (List Int))) (b d e f g h i j k l m:Int) (n:Nat):Int->Option ((Unit) ⊕ (Int)):=wo (zl.r0 K a b d e f g h i j k l m) (fun _=>none) n
def zl (K:Nat) (a:List (List (List Int))) (b d e f g h i j k l:Int):Option (Int):=
 (zl.l0 K a (a.length:Int) b d e f g h i j k l K 0:Option ((Unit) ⊕ (Int))).bind fun z=>match z with
 | .inl _=>
  some (-1)
 | .inr r=>
  some r
def qN (K:Nat) (a:List (List (List Int))) (b d e f g h i j k l:Int):Option (Bool):=
 (zl K a b d e f g h i j k l).bind fun m=>
 let n:=(decide (m>=0))
 some n
def kL (K:Nat) (a:List (List (List Int))) (b d e f g h i j k l m:Int):Option (Bool):=
 (
  let n:=((a.length:Int)==b)
  bif n then
   (qN K a d e f g h i j k l m).bind fun o=>
   some (!o)
  else
   some false:Option (Bool)).bind fun p=>
  some p
def xj (_K:Nat) (b a:Int):Option (Bool):=
 let d:=(decide (b>=0))
 let e:=(decide (b<=15))
 let f:=(bif d then e else false)
 let g:=(decide (a>=2))
 let h:=(decide (a<=16))
 let i:=(bif g then h else false)
 let j:=(bif (a==0) then true else i)
 let k:=(bif f then j else false)
 some k
def ye (K:Nat) (b d a:Int):Option (Int × Int):=
 (xj K d a).bind fun e=>
 (
  bif (!e) then
   some (!e)
  else
   let f:=(decide (b<0))
   bif f then
    some f
   else
    let g:=(bif (a==0) then (b != 0) else false)
    bif g then
     some g
    else
     let h:=(decide (a>0))
     let k:=(kshl .i64 1 a)
     let l:=(wa .i64 (k-1))
     let m:=(decide (b>=l))
     let n:=(bif h then m else false)
     gd ((h=true->(0:Int)<=a)) <|
     some n:Option (Bool)).bind fun o=>
  bif o then
   some (0,1)
  else
   bif (a==0) then
    some (0,0)
   else
    let i:=(kshl .i64 2 d)
    gd ((0:Int)<=d) <|
    let p:=(kshl .i64 1 a)
    gd ((0:Int)<=a) <|
    let j:=(wa .i64 (p-1))
    let q:=(wa .i64 (2*b))
    let s:=(wa .i64 (q+1))
    let t:=(wa .i64 (s*i))
    let u:=(wa .i64 (Int.tdiv t j))
    let w:=(wa .i64 (u-i))
    let y:=(wa .i32 w)
    gd (j≠0) <|
    some (y,0)
def wR.r2 (K:Nat) (d e:List (List Int)) (b:Int) (_t:List (List (List Int))) (_u _w:Int) (_y:List Int) (f:List (List Int)) (_z _A _B k _D _E _F _G _H _I:Int) (next:Bool->Int->Option (Bool)) (g:Bool) (a:Int):Option (Bool):=
 let l:=(decide (a<k))
 let m:=(bif g then l else false)
 bif m then
  let h:=(Kd.nth (.slice (.int .i64)) e (Int.toNat b))
  gd ((0:Int)<=b/\b<(e.length:Int)) <|
  let n:=(Kd.nth (.int .i64) h (Int.toNat a))
  gd ((0:Int)<=a/\a<(h.length:Int)) <|
  let i:=(Kd.nth (.slice (.int .i64)) f (Int.toNat b))
  gd ((0:Int)<=b/\b<(f.length:Int)) <|
  let o:=(Kd.nth (.int .i64) i (Int.toNat a))
  gd ((0:Int)<=a/\a<(i.length:Int)) <|
  let j:=(Kd.nth (.slice (.int .i64)) d (Int.toNat b))
  gd ((0:Int)<=b/\b<(d.length:Int)) <|
  let p:=(Kd.nth (.int .i64) j (Int.toNat a))
  gd ((0:Int)<=a/\a<(j.length:Int)) <|
  (ye K n o p).bind fun (_J,q)=>
  let s:=(wa .i64 (a+1))
  next (q==0) s
 else
  some g
def wR.l2 (K:Nat) (a b:List (List Int)) (d:Int) (e:List (List (List Int))) (f g:Int) (h:List Int) (i:List (List Int)) (j k l m o p q s t u:Int) (n:Nat):Bool->Int->Option (Bool):=wo (wR.r2 K a b d e f g h i j k l m o p q s t u) (fun _ _=>none) n
def wR.r1 (K:Nat) (g b:List (List Int)) (h:List (List (List Int))) (i j:Int) (k:List Int) (l:List (List Int)) (m n d e o p q s t u:Int) (next:Bool->Int->Option (Bool)) (f:Bool) (a:Int):Option (Bool):=
 let w:=(decide (a<d))
 let y:=(bif f then w else false)
 bif y then
  let z:=(Kd.nth (.slice (.int .i64)) b (Int.toNat a))
  gd ((0:Int)<=a/\a<(b.length:Int)) <|
  let A:=(z.length:Int)
  (wR.l2 K g b a h i j k l m n d e o p q s t u K (A==e) 0:Option (Bool)).bind fun B=>
   let D:=(wa .i64 (a+1))
   next B D
 else
  some f
def wR.l1 (K:Nat) (a b:List (List Int)) (d:List (List (List Int))) (e f:Int) (g:List Int) (h:List (List Int)) (i j k l m o p q s t:Int) (n:Nat):Bool->Int->Option (Bool):=wo (wR.r1 K a b d e f g h i j k l m o p q s t) (fun _ _=>none) n
def wR.r0 (K:Nat) (f:List (List Int)) (b:List (List (List Int))) (d:Int) (g:List Int) (h:List (List Int)) (i j k l m n o p q s:Int) (next:Bool->Int->Option (Bool)) (e:Bool) (a:Int):Option (Bool):=
 let t:=(decide (a<d))
 bif t then
  let u:=(Kd.nth (.slice (.slice (.int .i64))) b (Int.toNat a))
  gd ((0:Int)<=a/\a<(b.length:Int)) <|
  (wR.l1 K f u b d a g h i j k l m n o p q s K e 0:Option (Bool)).bind fun w=>
   let y:=(wa .i64 (a+1))
   next w y
 else
  some e
def wR.l0 (K:Nat) (a:List (List Int)) (b:List (List (List Int))) (d:Int) (e:List Int) (f:List (List Int)) (g h i j k l m o p q:Int) (n:Nat):Bool->Int->Option (Bool):=wo (wR.r0 K a b d e f g h i j k l m o p q) (fun _ _=>none) n
def wR (K:Nat) (d e f a b g h i j k:Int) (l:List Int) (p:List (List Int)) (m:List (List (List Int))):Option ((List (List Int)) × Bool):=
 (
  (jb K l a d e f a b g h i j k).bind fun n=>
  bif (!n) then
   let s:=(bif (!n) then true else false)
   some s
  else
   let o:=(wa .i64 (a-1))
   let t:=(Kd.nth (.int .i64) l (Int.toNat o))
   gd ((0:Int)<=o/\o<(l.length:Int)) <|
   (kR K t).bind fun u=>
   let w:=(bif (!n) then true else (!u))
   some w:Option (Bool)).bind fun y=>
  bif y then
   some (([]:List (List Int)),false)
  else
   (zp K d e f a b g h i j k p).bind fun (q,z)=>
   bif (z != 0) then
    some (([]:List (List Int)),false)
   else
    (kL K m b d e f a b g h i j k).bind fun A=>
    (wR.l0 K q m (m.length:Int) l p d e f a b g h i j k K A 0:Option (Bool)).bind fun B=>
     some (q,B)
def kr (_K:Nat) (a:Int):Option ((Int) ⊕ ((List Int))):=
 let b:=(decide (a<0))
 bif b then
  some (.inl 1)
 else
  let d:=(decide (a>512))
  bif d then
   some (.inl 2)
  else
   let e:=(List.replicate (Int.toNat a) (0:Int))
   gd ((0:Int)<=a/\a<=a/\a*1<=140737488355328) <|
   some (.inr e)
def xN (_K:Nat) (_a _b:Int):Option (Unit):=
 some ()
def xd (K:Nat) (a b:Int):Option (Unit):=
 (xN K a b).bind fun _=>
 some ()
def zZ.r0 (K:Nat) (d:List ((Int × Int))) (f:Int) (next:Int->Int->Option (Int)) (e a:Int):Option (Int):=
 let g:=(decide (a<f))
 bif g then
  let b:=(Kd.nth (.pair (.int .i64) (.int .i64)) d (Int.toNat a))
  gd ((0:Int)<=a/\a<(d.length:Int)) <|
  let h:=(wa .u32 b.1)
  (xd K h b.2).bind fun _=>
  let i:=(wa .i64 (e+b.2))
  let j:=(wa .i64 (a+1))
  next i j
 else
  some e
def zZ.l0 (K:Nat) (a:List ((Int × Int))) (b:Int) (n:Nat):Int->Int->Option (Int):=wo (zZ.r0 K a b) (fun _ _=>none) n
def zZ (K:Nat) (a:List ((Int × Int))):Option (Int):=
 (zZ.l0 K a (a.length:Int) K 0 0:Option (Int)).bind fun b=>
  some b
def qR (_K:Nat) (_p a b d e f g h _q _s:Int):Option ((List ((Int × Int)))):=
 (
  bif (b==2) then
   let i:=(wa .i64 (2+g))
   some i
  else
   some 0:Option (Int)).bind fun j=>
  let k:=(wa .i64 (Int.tdiv e 4))
  let l:=(wa .i64 (k-1))
  let m:=(wa .i64 (Int.tdiv d 4))
  let n:=(wa .i64 (m-1))
  let o:=[(a,2),(l,2),(j,2),(f,1),(n,1),(h,8)]
  some o
def wG.r1 (_K:Nat) (_j:List (List Int)) (_k _l:Int) (d:List Int) (f:Int) (_m:List Int) (_n:List (List (List Int))) (next:Int->List ((Int × Int))->Option ((List ((Int × Int))))) (a:Int) (b:List ((Int × Int))):Option ((List ((Int × Int)))):=
 let g:=(decide (a<f))
 bif g then
  let e:=(Kd.nth (.int .i64) d (Int.toNat a))
  gd ((0:Int)<=a/\a<(d.length:Int)) <|
  let h:=(b++[(e,4)])
  gd (((b.length:Int)+([(e,4)].length:Int))*16<=70368744177664) <|
  let i:=(wa .i64 (a+1))
  next i h
 else
  some b
def wG.l1 (K:Nat) (a:List (List Int)) (b d:Int) (e:List Int) (f:Int) (g:List Int) (h:List (List (List Int))) (n:Nat):Int->List ((Int × Int))->Option ((List ((Int × Int)))):=wo (wG.r1 K a b d e f g h) (fun _ _=>none) n
def wG.r0 (K:Nat) (b:List (List Int)) (d:Int) (g:List Int) (h:List (List (List Int))) (next:Int->List ((Int × Int))->Option ((List ((Int × Int))))) (a:Int) (e:List ((Int × Int))):Option ((List ((Int × Int)))):=
 let i:=(decide (a<d))
 bif i then
  let f:=(Kd.nth (.slice (.int .i64)) b (Int.toNat a))
  gd ((0:Int)<=a/\a<(b.length:Int)) <|
  let j:=(f.length:Int)
  (wG.l1 K b d a f j g h K 0 e:Option ((List ((Int × Int))))).bind fun k=>
   let l:=(wa .i64 (a+1))
   next l k
 else
  some e
def wG.l0 (K:Nat) (a:List (List Int)) (b:Int) (d:List Int) (e:List (List (List Int))) (n:Nat):Int->List ((Int × Int))->Option ((List ((Int × Int)))):=wo (wG.r0 K a b d e) (fun _ _=>none) n
def wG.r2 (_K:Nat) (d:List Int) (f:Int) (_j:List (List Int)) (_k:List (List (List Int))) (next:Int->List ((Int × Int))->Option ((List ((Int × Int))))) (a:Int) (b:List ((Int × Int))):Option ((List ((Int × Int)))):=
 let g:=(decide (a<f))
 bif g then
  let e:=(Kd.nth (.int .i64) d (Int.toNat a))
  gd ((0:Int)<=a/\a<(d.length:Int)) <|
  let h:=(b++[(e,1)])
  gd (((b.length:Int)+([(e,1)].length:Int))*16<=70368744177664) <|
  let i:=(wa .i64 (a+1))
  next i h
 else
  some b
def wG.l2 (K:Nat) (a:List Int) (b:Int) (d:List (List Int)) (e:List (List (List Int))) (n:Nat):Int->List ((Int × Int))->Option ((List ((Int × Int)))):=wo (wG.r2 K a b d e) (fun _ _=>none) n
def wG (K:Nat) (_i _j _k _l _m _n e _o _p _q:Int) (a:List Int) (b:List (List Int)) (d:List (List (List Int))):Option ((List ((Int × Int)))):=
 (
  bif (e==1) then
   (wG.l2 K a (a.length:Int) b d K 0 ([]:List ((Int × Int))):Option ((List ((Int × Int))))).bind fun f=>
    some f
  else
   some (([]:List ((Int × Int)))):Option ((List ((Int × Int))))).bind fun g=>
  (wG.l0 K b (b.length:Int) a d K 0 g:Option ((List ((Int × Int))))).bind fun h=>
   some h
def jy (_K:Nat)  : Option ((List Int)):=
 some ([]:List Int)
def vg (_K:Nat) (a:Int):Option (Int × Int × Int × Int):=
 bif (a==8) then
  some (8,15,29,0)
 else
  bif (a==16) then
   some (16,65535,4129,0)
  else
   bif (a==24) then
    some (24,5592405,1627,0)
   else
    some (0,0,0,1)
def jg (_K:Nat) (a _n f b g:Int):Option (Int):=
 let d:=(wa .i64 (a-1))
 let h:=(kshr .u32 b d)
 gd ((0:Int)<=d) <|
 let i:=(kshl .u32 b 1)
 let j:=(kshl .u32 1 a)
 let k:=(wa .u32 (j-1))
 let e:=(kand .u32 i k)
 gd ((0:Int)<=a) <|
 (
  bif (h != g) then
   let l:=(kxor .u32 e f)
   some l
  else
   some e:Option (Int)).bind fun m=>
  some m
def qC.r0 (K:Nat) (d:List Int) (g h i j:Int) (next:Int->Int->Option (Int)) (e a:Int):Option (Int):=
 let k:=(decide (a<g))
 bif k then
  let b:=(wa .i64 (Int.tdiv a 8))
  let l:=(Kd.nth (.int .u8) d (Int.toNat b))
  gd ((0:Int)<=b/\b<(d.length:Int)) <|
  let m:=(wa .u32 l)
  let n:=(Int.tmod a 8)
  let f:=(wa .i64 (7-n))
  let o:=(kshr .u32 m f)
  gd ((0:Int)<=f) <|
  let p:=(kand .u32 o 1)
  (jg K h i j e p).bind fun q=>
  let s:=(wa .i64 (a+1))
  next q s
 else
  some e
def qC.l0 (K:Nat) (a:List Int) (b d e f:Int) (n:Nat):Int->Int->Option (Int):=wo (qC.r0 K a b d e f) (fun _ _=>none) n
def qC (K:Nat) (b a d:Int) (e:List Int) (f:Int):Option (Int):=
 (qC.l0 K e f b a d K a 0:Option (Int)).bind fun g=>
  some g
def xz (K:Nat) (d:Int) (b:List Int) (a:Int):Option (Int × Int):=
 (vg K d).bind fun (e,f,g,h)=>
 let i:=(decide (a<0))
 let j:=(bif (h != 0) then true else i)
 let k:=(wa .i64 (8*(b.length:Int)))
 let l:=(decide (a>k))
 let m:=(bif j then true else l)
 bif m then
  some (0,1)
 else
  (qC K e f g b a).bind fun n=>
  some (n,0)
def j9 (_K:Nat) (a b d:Int) (_h:List Int):Option (Int):=
 let e:=(wa .i64 (8*a))
 let f:=(wa .i64 (e-b))
 let g:=(wa .i64 (f-d))
 some g
def jo (K:Nat) (a b d e:Int) (f:List Int):Option (Int):=
 let g:=(decide (a<0))
 let h:=(decide (a>32))
 let i:=(bif g then true else h)
 bif i then
  some 1
 else
  (j9 K b d e f).bind fun j=>
  let k:=(decide (a>j))
  bif k then
   some 50
  else
   some 0
def kZ (K:Nat) (e a f g:Int) (b:List Int):Option (Int):=
 let h:=(decide (a>=0))
 let i:=(decide (a<32))
 let d:=(bif h then i else false)
 let j:=(kshr .u32 e a)
 let k:=(bif d then (j != 0) else false)
 gd ((d=true->(0:Int)<=a)) <|
 bif k then
  some 1
 else
  (jo K a (b.length:Int) f g b).bind fun l=>
  some l
def jV (_K:Nat) (a _g:Int) (_h:List Int):Option (Int × Int × Int):=
 let d:=(wa .i64 (a+1))
 let e:=(wa .i64 (Int.tdiv a 8))
 let b:=(Int.tmod a 8)
 let f:=(kshr .u8 128 b)
 gd ((0:Int)<=b) <|
 some (e,f,d)
def zd.r0 (K:Nat) (g h:Int) (next:Int->Int->List Int->Option (Int × (List Int))) (d e:Int) (a:List Int):Option (Int × (List Int)):=
 let i:=(decide (d>=0))
 bif i then
  (
   (jV K e h a).bind fun (b,j,f)=>
   let k:=(kshr .u32 g d)
   let l:=(kand .u32 k 1)
   gd ((0:Int)<=d) <|
   bif (l==1) then
    let m:=(Kd.nth (.int .u8) a (Int.toNat b))
    let n:=(kor .u8 m j)
    let o:=(List.set a (Int.toNat b) n)
    gd ((0:Int)<=b/\b<(a.length:Int)/\(Int.toNat b)<a.length/\(0:Int)<=b/\b<(a.length:Int)/\(Int.toNat b)<a.length) <|
    some (f,o)
   else
    some (f,a):Option (Int × (List Int))).bind fun (p,q)=>
   let s:=(wa .i64 (d-1))
   next s p q
 else
  some (e,a)
def zd.l0 (K:Nat) (a b:Int) (n:Nat):Int->Int->List Int->Option (Int × (List Int)):=wo (zd.r0 K a b) (fun _ _ _=>none) n
def zd (K:Nat) (d e a f:Int) (b:List Int):Option (Int × Int × (List Int)):=
 (kZ K d e a f b).bind fun g=>
 bif (g != 0) then
  some (g,a,b)
 else
  let h:=(wa .i64 (e-1))
  (zd.l0 K d f K h a b:Option (Int × (List Int))).bind fun (i,j)=>
   some (0,i,j)
def wV.r0 (K:Nat) (d:List ((Int × Int))) (h i:Int) (next:Int->Int->Int->List Int->Option (Int × Int × (List Int))) (e a f:Int) (g:List Int):Option (Int × Int × (List Int)):=
 let j:=(decide (a<h))
 bif j then
  let b:=(Kd.nth (.pair (.int .i64) (.int .i64)) d (Int.toNat a))
  gd ((0:Int)<=a/\a<(d.length:Int)) <|
  let k:=(wa .u32 b.1)
  (zd K k b.2 f i g).bind fun (_p,l,m)=>
  let n:=(wa .i64 (e+b.2))
  let o:=(wa .i64 (a+1))
  next n o l m
 else
  some (e,f,g)
def wV.l0 (K:Nat) (a:List ((Int × Int))) (b d:Int) (n:Nat):Int->Int->Int->List Int->Option (Int × Int × (List Int)):=wo (wV.r0 K a b d) (fun _ _ _ _=>none) n
def wV (K:Nat) (a:List ((Int × Int))) (b d:Int) (e:List Int):Option (Int × Int × (List Int)):=
 (wV.l0 K a (a.length:Int) d K 0 0 b e:Option (Int × Int × (List Int))).bind fun (f,g,h)=>
  some (f,g,h)
def xv (_K:Nat) (a:List Int):Option ((List Int)):=
 gd (a≠[]) <|
 let b:=(([]:List Int)++a)
 gd (((([]:List Int).length:Int)+(a.length:Int))*1<=70368744177664) <|
 some b
def k7 (K:Nat) (_d _e:Int) (a:List Int):Option ((List Int)):=
 (xv K a).bind fun b=>
 some b
def z8 (K:Nat) (a b d e f g h i j k:Int) (l:List Int) (m:List (List Int)) (n:List (List (List Int))):Option (Int):=
 (kr K 512).bind fun z=>match z with
 | .inl _N=>
  (qR K a b d e f g h i j k).bind fun o=>
  (zZ K o).bind fun p=>
  (wG K a b d e f g h i j k l m n).bind fun q=>
  (zZ K q).bind fun s=>
  let t:=(wa .i64 (p+s))
  (jy K ).bind fun u=>
  (xz K 8 u t).bind fun (w,_O)=>
  some (wa .i64 w)
 | .inr y=>
  (qR K a b d e f g h i j k).bind fun A=>
  (wV K A 0 0 y).bind fun (B,D,E)=>
  (wG K a b d e f g h i j k l m n).bind fun F=>
  (wV K F D 0 E).bind fun (G,H,I)=>
  let J:=(wa .i64 (B+G))
  (k7 K H 0 I).bind fun L=>
  (xz K 8 L J).bind fun (M,_P)=>
  some (wa .i64 M)
def wN.r2 (_K:Nat) (e:List (List Int)) (b:Int) (_o:List (List (List Int))) (_p _q:Int) (_s:List (List Int)) (_t:Int) (f:List Int) (i:Int) (_u:List Int) (_w:List (List Int)) (next:Int->List ((Int × Int))->Option ((List ((Int × Int))))) (a:Int) (d:List ((Int × Int))):Option ((List ((Int × Int)))):=
 let j:=(decide (a<i))
 bif j then
  let k:=(Kd.nth (.int .i64) f (Int.toNat a))
  gd ((0:Int)<=a/\a<(f.length:Int)) <|
  let g:=(Kd.nth (.slice (.int .i64)) e (Int.toNat b))
  let l:=(Kd.nth (.int .i64) g (Int.toNat a))
  let h:=[(k,l)]
  let m:=(d++h)
  gd ((0:Int)<=b/\b<(e.length:Int)/\(0:Int)<=a/\a<(g.length:Int)/\((d.length:Int)+(h.length:Int))*16<=70368744177664) <|
  let n:=(wa .i64 (a+1))
  next n m
 else
  some d
def wN.l2 (K:Nat) (a:List (List Int)) (b:Int) (d:List (List (List Int))) (e f:Int) (g:List (List Int)) (h:Int) (i:List Int) (j:Int) (k:List Int) (l:List (List Int)) (n:Nat):Int->List ((Int × Int))->Option ((List ((Int × Int)))):=wo (wN.r2 K a b d e f g h i j k l) (fun _ _=>none) n
def wN.r1 (K:Nat) (g:List (List Int)) (h:List (List (List Int))) (i j:Int) (b:List (List Int)) (d:Int) (k:List Int) (l:List (List Int)) (next:Int->List ((Int × Int))->Option ((List ((Int × Int))))) (a:Int) (e:List ((Int × Int))):Option ((List ((Int × Int)))):=
 let m:=(decide (a<d))
 bif m then
  let f:=(Kd.nth (.slice (.int .i64)) b (Int.toNat a))
  gd ((0:Int)<=a/\a<(b.length:Int)) <|
  let n:=(f.length:Int)
  (wN.l2 K g a h i j b d f n k l K 0 e:Option ((List ((Int × Int))))).bind fun o=>
   let p:=(wa .i64 (a+1))
   next p o
 else
  some e
def wN.l1 (K:Nat) (a:List (List Int)) (b:List (List (List Int))) (d e:Int) (f:List (List Int)) (g:Int) (h:List Int) (i:List (List Int)) (n:Nat):Int->List ((Int × Int))->Option ((List ((Int × Int)))):=wo (wN.r1 K a b d e f g h i) (fun _ _=>none) n
def wN.r0 (K:Nat) (g:List (List Int)) (b:List (List (List Int))) (d:Int) (h:List Int) (i:List (List Int)) (next:Int->List ((Int × Int))->Option ((List ((Int × Int))))) (a:Int) (e:List ((Int × Int))):Option ((List ((Int × Int)))):=
 let j:=(decide (a<d))
 bif j then
  let f:=(Kd.nth (.slice (.slice (.int .i64))) b (Int.toNat a))
  gd ((0:Int)<=a/\a<(b.length:Int)) <|
  let k:=(f.length:Int)
  (wN.l1 K g b d a f k h i K 0 e:Option ((List ((Int × Int))))).bind fun l=>
   let m:=(wa .i64 (a+1))
   next m l
 else
  some e
def wN.l0 (K:Nat) (a:List (List Int)) (b:List (List (List Int))) (d:Int) (e:List Int) (f:List (List Int)) (n:Nat):Int->List ((Int × Int))->Option ((List ((Int × Int)))):=wo (wN.r0 K a b d e f) (fun _ _=>none) n
def wN (K:Nat) (b:List (List Int)) (d:List Int) (e:List (List Int)) (a:List (List (List Int))):Option ((List ((Int × Int)))):=
 (wN.l0 K b a (a.length:Int) d e K 0 ([]:List ((Int × Int))):Option ((List ((Int × Int))))).bind fun f=>
  some f
def qz (K:Nat) (a b d e f g h i j k:Int) (l:List Int) (m:List (List Int)) (n:List (List (List Int))):Option ((List Int) × Int):=
 (kB K a b d e f g h i j k).bind fun o=>
 bif (o != 0) then
  some (([]:List Int),o)
 else
  (wR K a b d e f g h i j k l m n).bind fun (p,q)=>
  bif (!q) then
   some (([]:List Int),1)
  else
   (jd K a b d e f g h i j k).bind fun s=>
   (kr K s).bind fun z=>match z with
   | .inl _T=>
    (zZ K [(156,8)]).bind fun _U=>
    (qR K a b d e f g h i j k).bind fun t=>
    (zZ K t).bind fun _V=>
    (z8 K a b d e f g h i j k l m n).bind fun u=>
    (zZ K [(u,8)]).bind fun _W=>
    (wG K a b d e f g h i j k l m n).bind fun w=>
    (zZ K w).bind fun _X=>
    (wN K p l m n).bind fun y=>
    (zZ K y).bind fun _Y=>
    (jy K ).bind fun A=>
    some (A,0)
   | .inr B=>
    (wV K [(156,8)] 0 0 B).bind fun (_Z,D,E)=>
    (qR K a b d e f g h i j k).bind fun F=>
    (wV K F D 0 E).bind fun (_aa,G,H)=>
    (z8 K a b d e f g h i j k l m n).bind fun I=>
    (wV K [(I,8)] G 0 H).bind fun (_ab,J,L)=>
    (wG K a b d e f g h i j k l m n).bind fun M=>
    (wV K M J 0 L).bind fun (_ad,N,O)=>
    (wN K p l m n).bind fun P=>
    (wV K P N 0 O).bind fun (_ae,Q,R)=>
    (k7 K Q 0 R).bind fun S=>
    some (S,0)
def zP.r0 (_K:Nat) (b d:List Int) (e:Int) (next:Int->Option ((Unit) ⊕ (Bool))) (a:Int):Option ((Unit) ⊕ (Bool)):=
 let f:=(decide (a<e))
 bif f then
  let g:=(Kd.nth (.int .u8) b (Int.toNat a))
  gd ((0:Int)<=a/\a<(b.length:Int)) <|
  let h:=(Kd.nth (.int .u8) d (Int.toNat a))
  gd ((0:Int)<=a/\a<(d.length:Int)) <|
  bif (g != h) then
   some (.inr false)
  else
   let i:=(wa .i64 (a+1))
   next i
 else
  some (.inl ())
def zP.l0 (K:Nat) (a b:List Int) (d:Int) (n:Nat):Int->Option ((Unit) ⊕ (Bool)):=wo (zP.r0 K a b d) (fun _=>none) n
def zP (K:Nat) (a b:List Int):Option (Bool):=
 let d:=((a.length:Int) != (b.length:Int))
 bif d then
  some false
 else
  (zP.l0 K a b (a.length:Int) K 0:Option ((Unit) ⊕ (Bool))).bind fun z=>match z with
  | .inl _=>
   some true
  | .inr r=>
   some r
def kY (_K:Nat) (a b d:Int) (_h:List Int):Option (Int):=
 let e:=(wa .i64 (8*a))
 let f:=(wa .i64 (e-b))
 let g:=(wa .i64 (f-d))
 some g
def jh (K:Nat) (a b d e:Int) (f:List Int):Option (Int):=
 let g:=(decide (a<0))
 let h:=(decide (a>32))
 let i:=(bif g then true else h)
 bif i then
  some 1
 else
  (kY K b d e f).bind fun j=>
  let k:=(decide (a>j))
  bif k then
   some 50
  else
   some 0
def kM (_K:Nat) (a _g:Int) (_h:List Int):Option (Int × Int × Int):=
 let d:=(wa .i64 (a+1))
 let e:=(wa .i64 (Int.tdiv a 8))
 let b:=(Int.tmod a 8)
 let f:=(kshr .u8 128 b)
 gd ((0:Int)<=b) <|
 some (e,f,d)
def yn (_K:Nat) (a d _g _h:Int) (b:List Int):Option (Int):=
 let e:=(Kd.nth (.int .u8) b (Int.toNat a))
 let f:=(kand .u8 e d)
 gd ((0:Int)<=a/\a<(b.length:Int)) <|
 bif (f != 0) then
  some 1
 else
  some 0
def qt.r0 (K:Nat) (h a:Int) (b:List Int) (next:Int->Int->Int->Option (Int × Int)) (d e f:Int):Option (Int × Int):=
 let i:=(decide (e<h))
 bif i then
  let j:=(kshl .u32 d 1)
  (kM K f a b).bind fun (k,l,g)=>
  (yn K k l g a b).bind fun m=>
  let n:=(kor .u32 j m)
  let o:=(wa .i64 (e+1))
  next n o g
 else
  some (d,f)
def qt.l0 (K:Nat) (a b:Int) (d:List Int) (n:Nat):Int->Int->Int->Option (Int × Int):=wo (qt.r0 K a b d) (fun _ _ _=>none) n
def qt (K:Nat) (d a e:Int) (b:List Int):Option (Int × Int × Int):=
 (jh K d (b.length:Int) a e b).bind fun f=>
 bif (f != 0) then
  some (0,f,a)
 else
  (qt.l0 K d e b K 0 0 a:Option (Int × Int)).bind fun (g,h)=>
   some (g,0,h)
def qq.r0 (K:Nat) (e f g:Int) (h:List Int) (next:Int->Int->List Int->Option (Int × (List Int))) (a d:Int) (b:List Int):Option (Int × (List Int)):=
 let i:=(decide (a<f))
 bif i then
  (qt K e d g h).bind fun (j,_n,k)=>
  let l:=(List.set b (Int.toNat a) (wa .i64 j))
  gd ((0:Int)<=a/\a<(b.length:Int)/\(Int.toNat a)<b.length) <|
  let m:=(wa .i64 (a+1))
  next m k l
 else
  some (d,b)
def qq.l0 (K:Nat) (a b d:Int) (e:List Int) (n:Nat):Int->Int->List Int->Option (Int × (List Int)):=wo (qq.r0 K a b d e) (fun _ _ _=>none) n
def qq (K:Nat) (a d e f:Int) (g:List Int):Option ((List Int) × Int):=
 let b:=(List.replicate (Int.toNat a) (0:Int))
 gd ((0:Int)<=a/\a<=a/\a*8<=140737488355328) <|
 let h:=(b.length:Int)
 (qq.l0 K d h f g K 0 e b:Option (Int × (List Int))).bind fun (i,j)=>
  some (j,i)
def wF.r2 (K:Nat) (_n:List Int) (_o:List (List Int)) (a _p _q _s:Int) (e:List Int) (h _t _u _w _y _z _A _B _D _E:Int) (_F:List Int) (_G:List (List Int)) (_H:List (List (List Int))) (next:Int->List (List Int)->Option ((List (List Int)))) (d:Int) (b:List (List Int)):Option ((List (List Int))):=
 let i:=(decide (d<h))
 bif i then
  let j:=(Kd.nth (.int .i64) e (Int.toNat d))
  gd ((0:Int)<=d/\d<(e.length:Int)) <|
  gd ((0:Int)<=a/\a<(b.length:Int)) <|
  let f:=(List.getD b (Int.toNat a) [])
  gd ((Int.toNat a)<b.length) <|
  (qG K 1 j).bind fun g=>
  let k:=(f++g)
  gd (((f.length:Int)+(g.length:Int))*8<=70368744177664) <|
  gd ((0:Int)<=a/\a<(b.length:Int)) <|
  let l:=(List.set b (Int.toNat a) k)
  gd ((Int.toNat a)<b.length) <|
  let m:=(wa .i64 (d+1))
  next m l
 else
  some b
def wF.l2 (K:Nat) (a:List Int) (b:List (List Int)) (d e f g:Int) (h:List Int) (i j k l m o p q s t:Int) (u:List Int) (w:List (List Int)) (y:List (List (List Int))) (n:Nat):Int->List (List Int)->Option ((List (List Int))):=wo (wF.r2 K a b d e f g h i j k l m o p q s t u w y) (fun _ _=>none) n
def wF.r1 (K:Nat) (g:List Int) (b:List (List Int)) (h i d j k l m n o p q s:Int) (t:List Int) (u:List (List Int)) (w:List (List (List Int))) (next:Int->List (List Int)->Option ((List (List Int)))) (a:Int) (e:List (List Int)):Option ((List (List Int))):=
 let y:=(decide (a<d))
 bif y then
  let f:=(Kd.nth (.slice (.int .i64)) b (Int.toNat a))
  let z:=(f.length:Int)
  gd ((0:Int)<=a/\a<(b.length:Int)) <|
  (wF.l2 K g b a h i d f z j k l m n o p q s t u w K 0 e:Option ((List (List Int)))).bind fun A=>
   let B:=(wa .i64 (a+1))
   next B A
 else
  some e
def wF.l1 (K:Nat) (a:List Int) (b:List (List Int)) (d e f g h i j k l m o p:Int) (q:List Int) (s:List (List Int)) (t:List (List (List Int))) (n:Nat):Int->List (List Int)->Option ((List (List Int))):=wo (wF.r1 K a b d e f g h i j k l m o p q s t) (fun _ _=>none) n
def wF.r0 (K:Nat) (h:List Int) (i:List (List Int)) (e j k a l m n o p q:Int) (s:List Int) (t:List (List Int)) (next:Int->List (List (List Int))->Option ((List (List (List Int))))) (d:Int) (b:List (List (List Int))):Option ((List (List (List Int)))):=
 let u:=(decide (d<e))
 bif u then
  let f:=(List.replicate (Int.toNat a) ([]:List Int))
  gd ((0:Int)<=a/\a<=a/\a*24<=140737488355328) <|
  let w:=(f.length:Int)
  (wF.l1 K h i e d w j k a l m n o p q s t b K 0 f:Option ((List (List Int)))).bind fun g=>
   let y:=(b++[g])
   gd (((b.length:Int)+([g].length:Int))*24<=70368744177664) <|
   let z:=(wa .i64 (d+1))
   next z y
 else
  some b
def wF.l0 (K:Nat) (a:List Int) (b:List (List Int)) (d e f g h i j k l m:Int) (o:List Int) (p:List (List Int)) (n:Nat):Int->List (List (List Int))->Option ((List (List (List Int)))):=wo (wF.r0 K a b d e f g h i j k l m o p) (fun _ _=>none) n
def wF.r3 (K:Nat) (_j:List Int) (e _k _l f _m _n _o _p _q _s:Int) (_t:List Int) (next:Int->List (List Int)->Option ((List (List Int)))) (b:Int) (a:List (List Int)):Option ((List (List Int))):=
 let g:=(decide (b<e))
 bif g then
  (qG K f 4).bind fun d=>
  let h:=(a++[d])
  gd (((a.length:Int)+([d].length:Int))*24<=70368744177664) <|
  let i:=(wa .i64 (b+1))
  next i h
 else
  some a
def wF.l3 (K:Nat) (a:List Int) (b d e f g h i j k l:Int) (m:List Int) (n:Nat):Int->List (List Int)->Option ((List (List Int))):=wo (wF.r3 K a b d e f g h i j k l m) (fun _ _=>none) n
def wF.r6 (K:Nat) (_q:List Int) (_s:List (List Int)) (a _t _u _w:Int) (e:List Int) (i _y _z _A _B _D _E _F _G _H:Int) (j _I:List Int) (_J:List (List Int)) (_L:List (List (List Int))) (next:Int->Int->List (List Int)->Option (Int × (List (List Int)))) (d f:Int) (b:List (List Int)):Option (Int × (List (List Int))):=
 let k:=(decide (d<i))
 bif k then
  let l:=(Kd.nth (.int .i64) e (Int.toNat d))
  gd ((0:Int)<=d/\d<(e.length:Int)) <|
  gd ((0:Int)<=a/\a<(b.length:Int)) <|
  let g:=(List.getD b (Int.toNat a) [])
  gd ((Int.toNat a)<b.length) <|
  (qq K 1 l f 0 j).bind fun (h,m)=>
  let n:=(g++h)
  gd (((g.length:Int)+(h.length:Int))*8<=70368744177664) <|
  gd ((0:Int)<=a/\a<(b.length:Int)) <|
  let o:=(List.set b (Int.toNat a) n)
  gd ((Int.toNat a)<b.length) <|
  let p:=(wa .i64 (d+1))
  next p m o
 else
  some (f,b)
def wF.l6 (K:Nat) (a:List Int) (b:List (List Int)) (d e f g:Int) (h:List Int) (i j k l m o p q s t:Int) (u w:List Int) (y:List (List Int)) (z:List (List (List Int))) (n:Nat):Int->Int->List (List Int)->Option (Int × (List (List Int))):=wo (wF.r6 K a b d e f g h i j k l m o p q s t u w y z) (fun _ _ _=>none) n
def wF.r5 (K:Nat) (h:List Int) (b:List (List Int)) (i j d k l m n o p q s t:Int) (u w:List Int) (y:List (List Int)) (z:List (List (List Int))) (next:Int->Int->List (List Int)->Option (Int × (List (List Int)))) (a e:Int) (f:List (List Int)):Option (Int × (List (List Int))):=
 let A:=(decide (a<d))
 bif A then
  let g:=(Kd.nth (.slice (.int .i64)) b (Int.toNat a))
  let B:=(g.length:Int)
  gd ((0:Int)<=a/\a<(b.length:Int)) <|
  (wF.l6 K h b a i j d g B k l m n o p q s t u w y z K 0 e f:Option (Int × (List (List Int)))).bind fun (D,E)=>
   let F:=(wa .i64 (a+1))
   next F D E
 else
  some (e,f)
def wF.l5 (K:Nat) (a:List Int) (b:List (List Int)) (d e f g h i j k l m o p:Int) (q s:List Int) (t:List (List Int)) (u:List (List (List Int))) (n:Nat):Int->Int->List (List Int)->Option (Int × (List (List Int))):=wo (wF.r5 K a b d e f g h i j k l m o p q s t u) (fun _ _ _=>none) n
def wF.r4 (K:Nat) (h:List Int) (i:List (List Int)) (e j k a l m n o p q:Int) (s t:List Int) (u:List (List Int)) (next:Int->Int->List (List (List Int))->Option ((List (List (List Int))))) (d w:Int) (b:List (List (List Int))):Option ((List (List (List Int)))):=
 let y:=(decide (d<e))
 bif y then
  let f:=(List.replicate (Int.toNat a) ([]:List Int))
  gd ((0:Int)<=a/\a<=a/\a*24<=140737488355328) <|
  let z:=(f.length:Int)
  (wF.l5 K h i e d z j k a l m n o p q s t u b K 0 w f:Option (Int × (List (List Int)))).bind fun (A,g)=>
   let B:=(b++[g])
   gd (((b.length:Int)+([g].length:Int))*24<=70368744177664) <|
   let D:=(wa .i64 (d+1))
   next D A B
 else
  some b
def wF.l4 (K:Nat) (a:List Int) (b:List (List Int)) (d e f g h i j k l m:Int) (o p:List Int) (q:List (List Int)) (n:Nat):Int->Int->List (List (List Int))->Option ((List (List (List Int)))):=wo (wF.r4 K a b d e f g h i j k l m o p q) (fun _ _ _=>none) n
def wF.r7 (K:Nat) (_m:List Int) (f _n _o g _p _q _s _t _u _w:Int) (h _y:List Int) (next:Int->Int->List (List Int)->Option (Int × (List (List Int)))) (b d:Int) (a:List (List Int)):Option (Int × (List (List Int))):=
 let i:=(decide (b<f))
 bif i then
  (qq K g 4 d 0 h).bind fun (e,j)=>
  let k:=(a++[e])
  gd (((a.length:Int)+([e].length:Int))*24<=70368744177664) <|
  let l:=(wa .i64 (b+1))
  next l j k
 else
  some (d,a)
def wF.l7 (K:Nat) (a:List Int) (b d e f g h i j k l:Int) (m o:List Int) (n:Nat):Int->Int->List (List Int)->Option (Int × (List (List Int))):=wo (wF.r7 K a b d e f g h i j k l m o) (fun _ _ _=>none) n
def wF (K:Nat) (d e f a g h b i j k:Int) (l:List Int):Option ((List Int) × (List (List Int)) × (List (List (List Int))) × Int):=
 (kB K d e f a g h b i j k).bind fun s=>
 bif (s != 0) then
  some (([]:List Int),([]:List (List Int)),([]:List (List (List Int))),s)
 else
  (jd K d e f a g h b i j k).bind fun y=>
  let A:=((l.length:Int) != y)
  bif A then
   some (([]:List Int),([]:List (List Int)),([]:List (List (List Int))),140)
  else
   (kG K l).bind fun z=>match z with
   | .inl _=>
    (jz K 32).bind fun _=>
    let B:=(List.replicate (Int.toNat a) (0:Int))
    gd ((0:Int)<=a/\a<=a/\a*8<=140737488355328) <|
    (
     bif (b==1) then
      (qG K a 1).bind fun D=>
      some D
     else
      some B:Option ((List Int))).bind fun m=>
     (wF.l3 K l f d e a g h b i j k m K 0 ([]:List (List Int)):Option ((List (List Int)))).bind fun n=>
      (zp K d e f a g h b i j k n).bind fun (E,F)=>
      bif (F != 0) then
       some (([]:List Int),([]:List (List Int)),([]:List (List (List Int))),140)
      else
       (wF.l0 K l E g d e f a h b i j k m n K 0 ([]:List (List (List Int))):Option ((List (List (List Int))))).bind fun t=>
        (qz K d e f a g h b i j k m n t).bind fun (G,H)=>
        (
         bif (H != 0) then
          some true
         else
          (zP K G l).bind fun I=>
          some (!I):Option (Bool)).bind fun J=>
         bif J then
          some (([]:List Int),([]:List (List Int)),([]:List (List (List Int))),140)
         else
          some (m,n,t,0)
   | .inr o=>
    (qt K 32 0 0 o).bind fun (_W,_X,u)=>
    let L:=(List.replicate (Int.toNat a) (0:Int))
    gd ((0:Int)<=a/\a<=a/\a*8<=140737488355328) <|
    (
     bif (b==1) then
      (qq K a 1 u 0 o).bind fun (M,N)=>
      some (N,M)
     else
      some (u,L):Option (Int × (List Int))).bind fun (O,p)=>
     (wF.l7 K l f d e a g h b i j k o p K 0 O ([]:List (List Int)):Option (Int × (List (List Int)))).bind fun (P,q)=>
      (zp K d e f a g h b i j k q).bind fun (Q,R)=>
      bif (R != 0) then
       some (([]:List Int),([]:List (List Int)),([]:List (List (List Int))),140)
      else
       (wF.l4 K l Q g d e f a h b i j k o p q K 0 P ([]:List (List (List Int))):Option ((List (List (List Int))))).bind fun w=>
        (qz K d e f a g h b i j k p q w).bind fun (S,T)=>
        (
         bif (T != 0) then
          some true
         else
          (zP K S l).bind fun U=>
          some (!U):Option (Bool)).bind fun V=>
         bif V then
          some (([]:List Int),([]:List (List Int)),([]:List (List (List Int))),140)
         else
          some (p,q,w,0)
def kQ.r0 (_K:Nat) (f:Int) (g:List Int) (j:Int) (next:Int->List (List Int)->Option ((List (List Int)))) (b:Int) (a:List (List Int)):Option ((List (List Int))):=
 let k:=(decide (b<j))
 bif k then
  let h:=(Kd.nth (.int .i16) g (Int.toNat b))
  gd ((0:Int)<=b/\b<(g.length:Int)) <|
  let d:=(Int.tmod b f)
  gd (f≠0) <|
  gd (f≠0) <|
  let e:=(Int.toNat d)
  gd ((0:Int)<=d/\d<(a.length:Int)) <|
  let i:=(List.getD a e [])
  gd (e<a.length) <|
  let l:=(i++[h])
  gd (((i.length:Int)+([h].length:Int))*2<=70368744177664) <|
  gd ((0:Int)<=d/\d<(a.length:Int)) <|
  let m:=(List.set a e l)
  gd (e<a.length) <|
  let n:=(wa .i64 (b+1))
  next n m
 else
  some a
def kQ.l0 (K:Nat) (a:Int) (b:List Int) (d:Int) (n:Nat):Int->List (List Int)->Option ((List (List Int))):=wo (kQ.r0 K a b d) (fun _ _=>none) n
def kQ (K:Nat) (b:List Int) (a:Int):Option ((List (List Int)) × Int):=
 let e:=(decide (a<1))
 let f:=(decide (a>2))
 let d:=(bif e then true else f)
 let g:=(Int.tmod (b.length:Int) a)
 let h:=(bif d then true else (g != 0))
 gd (((!d)=true->a≠0)) <|
 bif h then
  some (([]:List (List Int)),1)
 else
  let i:=(List.replicate (Int.toNat a) ([]:List Int))
  gd ((0:Int)<=a/\a<=a/\a*24<=140737488355328) <|
  (kQ.l0 K a b (b.length:Int) K 0 i:Option ((List (List Int)))).bind fun j=>
   some (j,0)
def vW (K:Nat) (a:Int):Option (Int):=
 (qu K a (-2147483648) 2147483647).bind fun b=>
 some (wa .i32 b)
def jO (K:Nat) (a b:Int):Option (Int):=
 (jw K a b).bind fun d=>
 (vW K d).bind fun e=>
 some (wa .i64 e)
def jf (_K:Nat) (e f g:Int) (_m d _n:List Int):Option (Int):=
 let a:=(wa .i64 (8*g))
 let h:=(wa .i64 (e*f))
 let i:=(Int.tmod h a)
 gd (a≠0) <|
 let j:=(wa .i64 (i+a))
 let b:=(Int.tmod j a)
 gd (a≠0) <|
 let k:=(Kd.nth (.int .i16) d (Int.toNat b))
 gd ((0:Int)<=b/\b<(d.length:Int)) <|
 let l:=(wa .i64 k)
 some l
def wq.r1 (K:Nat) (f _w g d:Int) (h i j b _y:List Int) (next:Int->Int->Option (Int)) (e a:Int):Option (Int):=
 let k:=(decide (a<g))
 bif k then
  let l:=(Kd.nth (.int .i64) b (Int.toNat a))
  gd ((0:Int)<=a/\a<(b.length:Int)/\(Int.toNat a)<b.length) <|
  let m:=(wa .i64 (2*f))
  let n:=(wa .i64 (m+1))
  let o:=(wa .i64 (2*a))
  let p:=(wa .i64 (o-d))
  (jf K n p d h i j).bind fun q=>
  let s:=(wa .i64 (l*q))
  let t:=(wa .i64 (e+s))
  let u:=(wa .i64 (a+1))
  next t u
 else
  some e
def wq.l1 (K:Nat) (a b d e:Int) (f g h i j:List Int) (n:Nat):Int->Int->Option (Int):=wo (wq.r1 K a b d e f g h i j) (fun _ _=>none) n
def wq.r0 (K:Nat) (d e:Int) (g h i f:List Int) (next:Int->List Int->Option ((List Int))) (a:Int) (b:List Int):Option ((List Int)):=
 let j:=(decide (a<d))
 bif j then
  (wq.l1 K a d (f.length:Int) e g h i f b K 0 0:Option (Int)).bind fun k=>
   let l:=(wa .i64 (Int.tdiv e 4))
   let m:=(wa .i64 (16+l))
   (jO K k m).bind fun n=>
   let o:=(List.set b (Int.toNat a) (wa .i32 n))
   gd ((0:Int)<=a/\a<(b.length:Int)/\(Int.toNat a)<b.length) <|
   let p:=(wa .i64 (a+1))
   next p o
 else
  some b
def wq.l0 (K:Nat) (a b:Int) (d e f g:List Int) (n:Nat):Int->List Int->Option ((List Int)):=wo (wq.r0 K a b d e f g) (fun _ _=>none) n
def wq.r3 (_K:Nat) (h _t i:Int) (f _u b _w:List Int) (next:Int->Int->Option (Int)) (g d:Int):Option (Int):=
 let j:=(decide (d<5))
 bif j then
  let k:=(wa .i64 (2*i))
  let l:=(wa .i64 (k*d))
  let a:=(wa .i64 (h+l))
  let e:=(Int.toNat a)
  gd ((0:Int)<=a/\a<(b.length:Int)) <|
  let m:=(Kd.nth (.int .i64) b e)
  gd (e<b.length) <|
  let n:=(Kd.nth (.int .i16) f e)
  gd ((0:Int)<=a/\a<(f.length:Int)) <|
  let o:=(wa .i64 n)
  let p:=(wa .i64 (m*o))
  let q:=(wa .i64 (p-g))
  let s:=(wa .i64 (d+1))
  next q s
 else
  some g
def wq.l3 (K:Nat) (a b d:Int) (e f g h:List Int) (n:Nat):Int->Int->Option (Int):=wo (wq.r3 K a b d e f g h) (fun _ _=>none) n
def wq.r2 (K:Nat) (d e:Int) (f g h:List Int) (next:Int->List Int->Option ((List Int))) (a:Int) (b:List Int):Option ((List Int)):=
 let i:=(decide (a<d))
 bif i then
  (wq.l3 K a d e f g h b K 0 0:Option (Int)).bind fun j=>
   (jO K (wa .i64 (0-j)) 14).bind fun k=>
   let l:=(List.set b (Int.toNat a) k)
   gd ((0:Int)<=a/\a<(b.length:Int)/\(Int.toNat a)<b.length) <|
   let m:=(wa .i64 (a+1))
   next m l
 else
  some b
def wq.l2 (K:Nat) (a b:Int) (d e f:List Int) (n:Nat):Int->List Int->Option ((List Int)):=wo (wq.r2 K a b d e f) (fun _ _=>none) n
def wq.r4 (_K:Nat) (e:List Int) (g h:Int) (_o _p:List Int) (next:Int->List Int->Option ((List Int))) (a:Int) (b:List Int):Option ((List Int)):=
 let i:=(decide (a<g))
 bif i then
  let j:=(Kd.nth (.int .i16) e (Int.toNat a))
  gd ((0:Int)<=a/\a<(e.length:Int)) <|
  let k:=(wa .i64 (h-1))
  let d:=(wa .i64 (k-a))
  let l:=(wa .i64 j)
  let f:=(Int.toNat d)
  gd ((0:Int)<=d/\d<(b.length:Int)) <|
  let m:=(List.set b f l)
  gd (f<b.length) <|
  let n:=(wa .i64 (a+1))
  next n m
 else
  some b
def wq.l4 (K:Nat) (a:List Int) (b d:Int) (e f:List Int) (n:Nat):Int->List Int->Option ((List Int)):=wo (wq.r4 K a b d e f) (fun _ _=>none) n
def wq (K:Nat) (e:List Int) (a:Int) (f g b:List Int):Option ((List Int) × Int × (List Int)):=
 let k:=((e.length:Int) != a)
 bif k then
  some (([]:List Int),1,b)
 else
  gd ((0:Int)<=a/\a<(b.length:Int)) <|
  let l:=(cpy (Int.toNat a) b b)
  gd ((Int.toNat a)<b.length) <|
  (wq.l4 K e (e.length:Int) a f g K 0 l:Option ((List Int))).bind fun h=>
   let d:=(wa .i64 (2*a))
   let i:=(List.replicate (Int.toNat d) (0:Int))
   gd ((0:Int)<=d/\d<=d/\d*8<=140737488355328) <|
   let m:=(i.length:Int)
   (wq.l2 K m a f g h K 0 i:Option ((List Int))).bind fun n=>
    let j:=(List.replicate (Int.toNat a) (0:Int))
    gd ((0:Int)<=a/\a<=a/\a*4<=140737488355328) <|
    let o:=(j.length:Int)
    (wq.l0 K o a f g h n K 0 j:Option ((List Int))).bind fun p=>
     some (p,0,h)
def xm (_K:Nat) (a:List Int) (_e _f _g b _h _i _j _k _l _m:Int):Option (Bool):=
 let d:=((a.length:Int)==b)
 some d
def kl (K:Nat) (a:List Int) (b d e f g h i j k l:Int):Option (Bool):=
 (xm K a b d e f g h i j k l).bind fun m=>
 some (!m)
def za.r0 (K:Nat) (b:List (List Int)) (d e f g h i j k l m n:Int) (next:Int->Option ((Unit) ⊕ (Int))) (a:Int):Option ((Unit) ⊕ (Int)):=
 let o:=(decide (a<d))
 bif o then
  let p:=(Kd.nth (.slice (.int .i32)) b (Int.toNat a))
  gd ((0:Int)<=a/\a<(b.length:Int)) <|
  (kl K p e f g h i j k l m n).bind fun q=>
  bif q then
   some (.inr a)
  else
   let s:=(wa .i64 (a+1))
   next s
 else
  some (.inl ())
def za.l0 (K:Nat) (a:List (List Int)) (b d e f g h i j k l m:Int) (n:Nat):Int->Option ((Unit) ⊕ (Int)):=wo (za.r0 K a b d e f g h i j k l m) (fun _=>none) n
def za (K:Nat) (a:List (List Int)) (b d e f g h i j k l:Int):Option (Int):=
 (za.l0 K a (a.length:Int) b d e f g h i j k l K 0:Option ((Unit) ⊕ (Int))).bind fun z=>match z with
 | .inl _=>
  some (-1)
 | .inr r=>
  some r
def qB (K:Nat) (a:List (List Int)) (b d e f g h i j k l:Int):Option (Bool):=
 (za K a b d e f g h i j k l).bind fun m=>
 let n:=(decide (m>=0))
 some n
def jn (K:Nat) (a:List (List Int)) (b d e f g h i j k l m:Int):Option (Bool):=
 (
  let n:=((a.length:Int)==b)
  bif n then
   (qB K a d e f g h i j k l m).bind fun o=>
   some (!o)
  else
   some false:Option (Bool)).bind fun p=>
  some p
def xc (K:Nat) (b:List (List Int)) (d e f g a h i j k l:Int):Option (Bool):=
 (jn K b a d e f g a h i j k l).bind fun m=>
 some m
def kH (K:Nat) (a:List (List Int)) (b d e f g h i j k l:Int):Option (Bool):=
 (xc K a b d e f g h i j k l).bind fun m=>
 some (!m)
def zc.r0 (K:Nat) (b:List (List (List Int))) (d e f g h i j k l m n:Int) (next:Int->Option ((Unit) ⊕ (Int))) (a:Int):Option ((Unit) ⊕ (Int)):=
 let o:=(decide (a<d))
 bif o then
  let p:=(Kd.nth (.slice (.slice (.int .i32))) b (Int.toNat a))
  gd ((0:Int)<=a/\a<(b.length:Int)) <|
  (kH K p e f g h i j k l m n).bind fun q=>
  bif q then
   some (.inr a)
  else
   let s:=(wa .i64 (a+1))
   next s
 else
  some (.inl ())
def zc.l0 (K:Nat) (a:List (List (List Int))) (b d e f g h i j k l m:Int) (n:Nat):Int->Option ((Unit) ⊕ (Int)):=wo (zc.r0 K a b d e f g h i j k l m) (fun _=>none) n
def zc (K:Nat) (a:List (List (List Int))) (b d e f g h i j k l:Int):Option (Int):=
 (zc.l0 K a (a.length:Int) b d e f g h i j k l K 0:Option ((Unit) ⊕ (Int))).bind fun z=>match z with
 | .inl _=>
  some (-1)
 | .inr r=>
  some r
def qr (K:Nat) (a:List (List (List Int))) (b d e f g h i j k l:Int):Option (Bool):=
 (zc K a b d e f g h i j k l).bind fun m=>
 let n:=(decide (m>=0))
 some n
def kW (K:Nat) (a:List (List (List Int))) (b d e f g h i j k l m:Int):Option (Bool):=
 (
  let n:=((a.length:Int)==b)
  bif n then
   (qr K a d e f g h i j k l m).bind fun o=>
   some (!o)
  else
   some false:Option (Bool)).bind fun p=>
  some p
def xP (K:Nat) (b d a e f g h i j k:Int) (l:List (List (List Int))):Option (Bool):=
 (kW K l a b d a e f g h i j k).bind fun m=>
 some m
def qw.r0 (_K:Nat) (b:List (List Int)) (d:Int) (next:Int->Option ((Unit) ⊕ (Int))) (a:Int):Option ((Unit) ⊕ (Int)):=
 let e:=(decide (a<d))
 bif e then
  let f:=(Kd.nth (.slice (.int .i32)) b (Int.toNat a))
  gd ((0:Int)<=a/\a<(b.length:Int)) <|
  let g:=(f.length:Int)
  let h:=(Kd.nth (.slice (.int .i32)) b 0)
  let i:=(h.length:Int)
  gd (0<(b.length:Int)) <|
  bif (g != i) then
   some (.inr 0)
  else
   let j:=(wa .i64 (a+1))
   next j
 else
  some (.inl ())
def qw.l0 (K:Nat) (a:List (List Int)) (b:Int) (n:Nat):Int->Option ((Unit) ⊕ (Int)):=wo (qw.r0 K a b) (fun _=>none) n
def qw (K:Nat) (a:List (List Int)):Option (Int):=
 let b:=((a.length:Int)==0)
 let e:=(Kd.nth (.slice (.int .i32)) a 0)
 let d:=(e.length:Int)
 let f:=(decide (d>8))
 let g:=(bif b then true else f)
 gd (((!b)=true->0<(a.length:Int))) <|
 bif g then
  some 0
 else
  (qw.l0 K a (a.length:Int) K 0:Option ((Unit) ⊕ (Int))).bind fun z=>match z with
  | .inl _=>
   gd (0<(a.length:Int)) <|
   some d
  | .inr r=>
   some r
def js (_K:Nat) (a b:Int):Option (Int × Int):=
 let d:=(wa .i64 ((wa .i64 a)+(wa .i64 b)))
 let e:=(kshr .i64 d 1)
 let f:=(wa .i32 e)
 let g:=(wa .i64 ((wa .i64 a)-(wa .i64 b)))
 let h:=(kshr .i64 g 1)
 let i:=(wa .i32 h)
 some (f,i)
def ql.r1 (K:Nat) (f:List (List Int)) (a:Int) (_y:List (List Int)) (_z:Int) (g:List Int) (m:Int) (next:Int->List (List Int)->List (List Int)->Option ((List (List Int)) × (List (List Int)))) (b:Int) (d e:List (List Int)):Option ((List (List Int)) × (List (List Int))):=
 let n:=(decide (b<m))
 bif n then
  let o:=(Kd.nth (.int .i32) g (Int.toNat b))
  gd ((0:Int)<=b/\b<(g.length:Int)) <|
  let h:=(Kd.nth (.slice (.int .i32)) f (Int.toNat a))
  let p:=(Kd.nth (.int .i32) h (Int.toNat b))
  gd ((0:Int)<=a/\a<(f.length:Int)/\(0:Int)<=b/\b<(h.length:Int)) <|
  (js K o p).bind fun (i,j)=>
  gd ((0:Int)<=a/\a<(d.length:Int)) <|
  let k:=(List.getD d (Int.toNat a) [])
  gd ((Int.toNat a)<d.length) <|
  let q:=(k++[i])
  gd (((k.length:Int)+([i].length:Int))*4<=70368744177664) <|
  gd ((0:Int)<=a/\a<(e.length:Int)) <|
  let l:=(List.getD e (Int.toNat a) [])
  gd ((Int.toNat a)<e.length) <|
  let s:=(l++[j])
  gd (((l.length:Int)+([j].length:Int))*4<=70368744177664) <|
  gd ((0:Int)<=a/\a<(d.length:Int)) <|
  let t:=(List.set d (Int.toNat a) q)
  gd ((Int.toNat a)<d.length) <|
  gd ((0:Int)<=a/\a<(e.length:Int)) <|
  let u:=(List.set e (Int.toNat a) s)
  gd ((Int.toNat a)<e.length) <|
  let w:=(wa .i64 (b+1))
  next w t u
 else
  some (d,e)
def ql.l1 (K:Nat) (a:List (List Int)) (b:Int) (d:List (List Int)) (e:Int) (f:List Int) (g:Int) (n:Nat):Int->List (List Int)->List (List Int)->Option ((List (List Int)) × (List (List Int))):=wo (ql.r1 K a b d e f g) (fun _ _ _=>none) n
def ql.r0 (K:Nat) (h b:List (List Int)) (d:Int) (next:Int->List (List Int)->List (List Int)->Option ((List (List Int)) × (List (List Int)))) (a:Int) (e f:List (List Int)):Option ((List (List Int)) × (List (List Int))):=
 let i:=(decide (a<d))
 bif i then
  let g:=(Kd.nth (.slice (.int .i32)) b (Int.toNat a))
  gd ((0:Int)<=a/\a<(b.length:Int)) <|
  let j:=(g.length:Int)
  (ql.l1 K h a b d g j K 0 e f:Option ((List (List Int)) × (List (List Int)))).bind fun (k,l)=>
   let m:=(wa .i64 (a+1))
   next m k l
 else
  some (e,f)
def ql.l0 (K:Nat) (a b:List (List Int)) (d:Int) (n:Nat):Int->List (List Int)->List (List Int)->Option ((List (List Int)) × (List (List Int))):=wo (ql.r0 K a b d) (fun _ _ _=>none) n
def ql (K:Nat) (a b:List (List Int)):Option ((List (List Int)) × (List (List Int)) × Int):=
 (
  (qw K a).bind fun e=>
  bif (e==0) then
   some true
  else
   (qw K a).bind fun f=>
   (qw K b).bind fun g=>
   let h:=(f != g)
   let i:=((a.length:Int) != (b.length:Int))
   let j:=(bif h then true else i)
   some j:Option (Bool)).bind fun k=>
  bif k then
   some (([]:List (List Int)),([]:List (List Int)),1)
  else
   let d:=(List.replicate (Int.toNat (a.length:Int)) ([]:List Int))
   gd ((0:Int)<=(a.length:Int)/\(a.length:Int)<=(a.length:Int)/\(a.length:Int)*24<=140737488355328) <|
   gd ((0:Int)<=(a.length:Int)/\(a.length:Int)<=(a.length:Int)/\(a.length:Int)*24<=140737488355328) <|
   (ql.l0 K b a (a.length:Int) K 0 d d:Option ((List (List Int)) × (List (List Int)))).bind fun (l,m)=>
    some (l,m,0)
def jk (K:Nat) (a b:List (List Int)):Option ((List (List Int)) × (List (List Int)) × Int):=
 (ql K a b).bind fun (d,e,f)=>
 some (d,e,f)
def kA.r0 (_K:Nat) (d:Int) (next:Int->Option (Int)) (a:Int):Option (Int):=
 let b:=(decide (a<15))
 let e:=(kshl .i64 2 a)
 let f:=(decide (d>=e))
 let g:=(bif b then f else false)
 gd ((b=true->(0:Int)<=a)) <|
 bif g then
  let h:=(wa .i64 (a+1))
  next h
 else
  some a
def kA.l0 (K:Nat) (a:Int) (n:Nat):Int->Option (Int):=wo (kA.r0 K a) (fun _=>none) n
def kA (K:Nat) (a:Int):Option (Int):=
 (kA.l0 K a K 0:Option (Int)).bind fun b=>
  some b
def wZ.r0 (K:Nat) (e:Int) (d:List Int) (next:Int->List Int->Option ((List Int))) (a:Int) (b:List Int):Option ((List Int)):=
 let f:=(decide (a<e))
 bif f then
  let g:=(Kd.nth (.int .i64) d (Int.toNat a))
  gd ((0:Int)<=a/\a<(d.length:Int)/\(Int.toNat a)<d.length) <|
  (kA K g).bind fun h=>
  let i:=(List.set b (Int.toNat a) h)
  gd ((0:Int)<=a/\a<(b.length:Int)/\(Int.toNat a)<b.length) <|
  let j:=(wa .i64 (a+1))
  next j i
 else
  some b
def wZ.l0 (K:Nat) (a:Int) (b:List Int) (n:Nat):Int->List Int->Option ((List Int)):=wo (wZ.r0 K a b) (fun _ _=>none) n
def wZ.r2 (_K:Nat) (_n:Int) (_o:List (List Int)) (_p _q:Int) (d:List Int) (f:Int) (next:Int->List Int->Option ((List Int))) (a:Int) (b:List Int):Option ((List Int)):=
 let g:=(decide (a<f))
 bif g then
  let h:=(Kd.nth (.int .i32) d (Int.toNat a))
  gd ((0:Int)<=a/\a<(d.length:Int)) <|
  let i:=(Kd.nth (.int .i64) b (Int.toNat a))
  let e:=(wa .i64 h)
  let j:=(wa .i64 (0-e))
  let k:=(imax (imax i e) j)
  let l:=(List.set b (Int.toNat a) k)
  gd ((0:Int)<=a/\a<(b.length:Int)/\(Int.toNat a)<b.length/\(0:Int)<=a/\a<(b.length:Int)/\(Int.toNat a)<b.length) <|
  let m:=(wa .i64 (a+1))
  next m l
 else
  some b
def wZ.l2 (K:Nat) (a:Int) (b:List (List Int)) (d e:Int) (f:List Int) (g:Int) (n:Nat):Int->List Int->Option ((List Int)):=wo (wZ.r2 K a b d e f g) (fun _ _=>none) n
def wZ.r1 (K:Nat) (g:Int) (b:List (List Int)) (d:Int) (next:Int->List Int->Option ((List Int))) (a:Int) (e:List Int):Option ((List Int)):=
 let h:=(decide (a<d))
 bif h then
  let f:=(Kd.nth (.slice (.int .i32)) b (Int.toNat a))
  gd ((0:Int)<=a/\a<(b.length:Int)) <|
  let i:=(f.length:Int)
  (wZ.l2 K g b d a f i K 0 e:Option ((List Int))).bind fun j=>
   let k:=(wa .i64 (a+1))
   next k j
 else
  some e
def wZ.l1 (K:Nat) (a:Int) (b:List (List Int)) (d:Int) (n:Nat):Int->List Int->Option ((List Int)):=wo (wZ.r1 K a b d) (fun _ _=>none) n
def wZ (K:Nat) (b:List (List Int)):Option ((List Int) × Int):=
 (qw K b).bind fun a=>
 bif (a==0) then
  some (([]:List Int),1)
 else
  let d:=(List.replicate (Int.toNat a) (0:Int))
  gd ((0:Int)<=a/\a<=a/\a*8<=140737488355328) <|
  (wZ.l1 K a b (b.length:Int) K 0 d:Option ((List Int))).bind fun e=>
   gd ((0:Int)<=a/\a<=a/\a*8<=140737488355328) <|
   (wZ.l0 K (e.length:Int) e K 0 d:Option ((List Int))).bind fun f=>
    some (f,0)
def qX.r0 (_K:Nat) (h:Int) (d e f g:List Int) (next:Int->List (Bool)->Option ((List (Bool)))) (a:Int) (b:List (Bool)):Option ((List (Bool))):=
 let i:=(decide (a<h))
 bif i then
  let j:=(Kd.nth (.int .i64) d (Int.toNat a))
  gd ((0:Int)<=a/\a<(d.length:Int)) <|
  let k:=(Kd.nth (.int .i64) e (Int.toNat a))
  gd ((0:Int)<=a/\a<(e.length:Int)) <|
  let l:=(wa .i64 (j+k))
  let m:=(Kd.nth (.int .i64) f (Int.toNat a))
  gd ((0:Int)<=a/\a<(f.length:Int)) <|
  let n:=(Kd.nth (.int .i64) g (Int.toNat a))
  gd ((0:Int)<=a/\a<(g.length:Int)) <|
  let o:=(wa .i64 (m+n))
  let p:=(decide (l>o))
  gd ((0:Int)<=a/\a<(b.length:Int)) <|
  let q:=(List.set b (Int.toNat a) p)
  gd ((Int.toNat a)<b.length) <|
  let s:=(wa .i64 (a+1))
  next s q
 else
  some b
def qX.l0 (K:Nat) (a:Int) (b d e f:List Int) (n:Nat):Int->List (Bool)->Option ((List (Bool))):=wo (qX.r0 K a b d e f) (fun _ _=>none) n
def qX (K:Nat) (e f:List (List Int)):Option ((List (Bool)) × Int):=
 (jk K e f).bind fun (h,i,g)=>
 bif (g != 0) then
  some (([]:List (Bool)),g)
 else
  (
   (wZ K e).bind fun (j,_w)=>
   (wZ K f).bind fun (k,_y)=>
   (wZ K h).bind fun (l,_z)=>
   (wZ K i).bind fun (m,_A)=>
   some (j,k,l,m):Option ((List Int) × (List Int) × (List Int) × (List Int))).bind fun (a,n,o,p)=>
   let b:=(List.replicate (Int.toNat (a.length:Int)) (false:Bool))
   gd ((0:Int)<=(a.length:Int)/\(a.length:Int)<=(a.length:Int)/\(a.length:Int)*1<=140737488355328) <|
   let q:=(b.length:Int)
   let d:=(wa .i64 (q-1))
   let s:=(Int.toNat d)
   let t:=((s:Nat):Int)
   gd ((0:Int)<=d/\d<=(b.length:Int)/\b≠[]) <|
   (qX.l0 K t a n o p K 0 b:Option ((List (Bool)))).bind fun u=>
    some (u,0)
def zQ.r0 (_K:Nat) (d e:Int) (b:List Int) (next:Int->Option ((Unit) ⊕ (Int))) (a:Int):Option ((Unit) ⊕ (Int)):=
 let f:=(decide (a<e))
 bif f then
  let g:=(Kd.nth (.int .i64) b (Int.toNat a))
  gd ((0:Int)<=a/\a<(b.length:Int)/\(Int.toNat a)<b.length) <|
  bif (d==g) then
   some (.inr a)
  else
   let h:=(wa .i64 (a+1))
   next h
 else
  some (.inl ())
def zQ.l0 (K:Nat) (a b:Int) (d:List Int) (n:Nat):Int->Option ((Unit) ⊕ (Int)):=wo (zQ.r0 K a b d) (fun _=>none) n
def zQ (K:Nat) (b:Int) (a:List Int):Option (Int):=
 (zQ.l0 K b (a.length:Int) a K 0:Option ((Unit) ⊕ (Int))).bind fun z=>match z with
 | .inl _=>
  some (-1)
 | .inr r=>
  some r
def qo (K:Nat) (a:Int) (b:List Int):Option (Bool):=
 (zQ K a b).bind fun d=>
 let e:=(decide (d>=0))
 some e
def kI (_K:Nat) (a:List Int):Option ((List Int)):=
 gd (a≠[]) <|
 let b:=(([]:List Int)++a)
 gd (((([]:List Int).length:Int)+(a.length:Int))*4<=70368744177664) <|
 some b
def qk.r0 (K:Nat) (d:List (List Int)) (e:Int) (next:Int->List (List Int)->Option ((List (List Int)))) (a:Int) (b:List (List Int)):Option ((List (List Int))):=
 let f:=(decide (a<e))
 bif f then
  let g:=(Kd.nth (.slice (.int .i32)) d (Int.toNat a))
  gd ((0:Int)<=a/\a<(d.length:Int)) <|
  (kI K g).bind fun h=>
  let i:=(List.set b (Int.toNat a) h)
  gd ((0:Int)<=a/\a<(b.length:Int)/\(Int.toNat a)<b.length) <|
  let j:=(wa .i64 (a+1))
  next j i
 else
  some b
def qk.l0 (K:Nat) (a:List (List Int)) (b:Int) (n:Nat):Int->List (List Int)->Option ((List (List Int))):=wo (qk.r0 K a b) (fun _ _=>none) n
def qk (K:Nat) (a:List (List Int)):Option ((List (List Int))):=
 let b:=(List.replicate (Int.toNat (a.length:Int)) ([]:List Int))
 gd ((0:Int)<=(a.length:Int)/\(a.length:Int)<=(a.length:Int)/\(a.length:Int)*24<=140737488355328) <|
 (qk.l0 K a (a.length:Int) K 0 b:Option ((List (List Int)))).bind fun d=>
  some d
def w9.r0 (_K:Nat) (b l:Int) (h i:List (List Int)) (next:Int->List (List Int)->List (List Int)->Option ((List (List Int)) × (List (List Int)))) (a:Int) (d e:List (List Int)):Option ((List (List Int)) × (List (List Int))):=
 let m:=(decide (a<l))
 bif m then
  gd ((0:Int)<=a/\a<(d.length:Int)) <|
  let f:=(List.getD d (Int.toNat a) [])
  gd ((Int.toNat a)<d.length) <|
  gd ((0:Int)<=a/\a<(e.length:Int)) <|
  let g:=(List.getD e (Int.toNat a) [])
  gd ((Int.toNat a)<e.length) <|
  let j:=(Kd.nth (.slice (.int .i32)) h (Int.toNat a))
  gd ((0:Int)<=a/\a<(h.length:Int)) <|
  let n:=(Kd.nth (.int .i32) j (Int.toNat b))
  gd ((0:Int)<=b/\b<(j.length:Int)) <|
  let k:=(Kd.nth (.slice (.int .i32)) i (Int.toNat a))
  gd ((0:Int)<=a/\a<(i.length:Int)) <|
  let o:=(Kd.nth (.int .i32) k (Int.toNat b))
  gd ((0:Int)<=b/\b<(k.length:Int)) <|
  gd ((0:Int)<=b/\b<(f.length:Int)) <|
  let p:=(List.set f (Int.toNat b) n)
  gd ((Int.toNat b)<f.length) <|
  gd ((0:Int)<=b/\b<(g.length:Int)) <|
  let q:=(List.set g (Int.toNat b) o)
  gd ((Int.toNat b)<g.length) <|
  let s:=(wa .i64 (a+1))
  next s (List.set d (Int.toNat a) p) (List.set e (Int.toNat a) q)
 else
  some (d,e)
def w9.l0 (K:Nat) (a b:Int) (d e:List (List Int)) (n:Nat):Int->List (List Int)->List (List Int)->Option ((List (List Int)) × (List (List Int))):=wo (w9.r0 K a b d e) (fun _ _ _=>none) n
def w9 (K:Nat) (b:Int) (a d e f:List (List Int)):Option ((List (List Int)) × (List (List Int))):=
 (w9.l0 K b (a.length:Int) a d K 0 e f:Option ((List (List Int)) × (List (List Int)))).bind fun (g,h)=>
  some (g,h)
def qc.r0 (K:Nat) (f:Int) (g h:List (List Int)) (b:List Int) (next:Int->List (List Int)->List (List Int)->Option ((List (List Int)) × (List (List Int)))) (a:Int) (d e:List (List Int)):Option ((List (List Int)) × (List (List Int))):=
 let i:=(decide (a<f))
 bif i then
  (
   let j:=(Kd.nth (.int .i64) b (Int.toNat a))
   gd ((0:Int)<=a/\a<(b.length:Int)/\(Int.toNat a)<b.length) <|
   bif (j==1) then
    (w9 K a g h d e).bind fun (k,l)=>
    some (k,l)
   else
    some (d,e):Option ((List (List Int)) × (List (List Int)))).bind fun (m,n)=>
   let o:=(wa .i64 (a+1))
   next o m n
 else
  some (d,e)
def qc.l0 (K:Nat) (a:Int) (b d:List (List Int)) (e:List Int) (n:Nat):Int->List (List Int)->List (List Int)->Option ((List (List Int)) × (List (List Int))):=wo (qc.r0 K a b d e) (fun _ _ _=>none) n
def qc (K:Nat) (b d:List (List Int)) (a:List Int) (e f:List (List Int)):Option ((List (List Int)) × (List (List Int))):=
 (qc.l0 K (a.length:Int) b d a K 0 e f:Option ((List (List Int)) × (List (List Int)))).bind fun (g,h)=>
  some (g,h)
def qI (K:Nat) (a:List (List (List Int))) (b:List Int):Option ((List (List (List Int)))):=
 (qo K 1 b).bind fun f=>
 bif (!f) then
  some a
 else
  let d:=(Kd.nth (.slice (.slice (.int .i32))) a 0)
  gd (0<(a.length:Int)) <|
  let e:=(Kd.nth (.slice (.slice (.int .i32))) a 1)
  gd (1<(a.length:Int)) <|
  (jk K d e).bind fun (g,h,_m)=>
  gd (0<(a.length:Int)) <|
  (qk K d).bind fun i=>
  gd (1<(a.length:Int)) <|
  (qk K e).bind fun j=>
  (qc K g h b i j).bind fun (k,l)=>
  some ([k,l])
def xE (K:Nat) (g a b:Int):Option (Int × Int):=
 (xj K a b).bind fun h=>
 bif (!h) then
  some (0,1)
 else
  bif (b==0) then
   some (0,0)
  else
   let d:=(kshl .i64 2 a)
   gd ((0:Int)<=a) <|
   let i:=(kshl .i64 1 b)
   gd ((0:Int)<=b) <|
   let e:=(wa .i64 (i-1))
   let j:=(wa .i64 (1-d))
   let k:=(wa .i64 (d-1))
   (yA K (wa .i64 g) j k).bind fun l=>
   let m:=(wa .i64 (l*e))
   let f:=(wa .i64 (a+1))
   let n:=(kshr .i64 m f)
   let o:=(wa .i64 (n+e))
   let p:=(kshr .i64 o 1)
   gd ((0:Int)<=f) <|
   some (p,0)
def ww.r2 (K:Nat) (_y:List (List (List Int))) (f:List (List Int)) (e a _z _A:Int) (g:List Int) (n _B _D _E _F _G _H _I _J _L _M:Int) (h:List (List Int)) (_N:List Int) (i:List (List (List Int))) (_O:Nat) (next:Int->List (List Int)->Option ((List (List Int)))) (b:Int) (d:List (List Int)):Option ((List (List Int))):=
 let o:=(decide (b<n))
 bif o then
  let p:=(Kd.nth (.int .i32) g (Int.toNat b))
  gd ((0:Int)<=b/\b<(g.length:Int)) <|
  let j:=(Kd.nth (.slice (.int .i64)) h (Int.toNat a))
  gd ((0:Int)<=a/\a<(h.length:Int)) <|
  let q:=(Kd.nth (.int .i64) j (Int.toNat b))
  gd ((0:Int)<=b/\b<(j.length:Int)) <|
  let k:=(Kd.nth (.slice (.int .i64)) f (Int.toNat a))
  gd ((0:Int)<=a/\a<(f.length:Int)) <|
  let s:=(Kd.nth (.int .i64) k (Int.toNat b))
  gd ((0:Int)<=b/\b<(k.length:Int)) <|
  (xE K p q s).bind fun (l,_P)=>
  gd ((0:Int)<=e/\e<(i.length:Int)) <|
  gd ((0:Int)<=e/\e<(i.length:Int)) <|
  gd ((0:Int)<=a/\a<(d.length:Int)) <|
  let m:=(List.getD d (Int.toNat a) [])
  gd ((Int.toNat a)<d.length) <|
  let t:=(m++[l])
  gd (((m.length:Int)+([l].length:Int))*8<=70368744177664) <|
  gd ((0:Int)<=a/\a<(d.length:Int)) <|
  let u:=(List.set d (Int.toNat a) t)
  gd ((Int.toNat a)<d.length) <|
  let w:=(wa .i64 (b+1))
  next w u
 else
  some d
def ww.l2 (K:Nat) (a:List (List (List Int))) (b:List (List Int)) (d e f g:Int) (h:List Int) (i j k l m o p q s t u:Int) (w:List (List Int)) (y:List Int) (z:List (List (List Int))) (A n:Nat):Int->List (List Int)->Option ((List (List Int))):=wo (ww.r2 K a b d e f g h i j k l m o p q s t u w y z A) (fun _ _=>none) n
def ww.r1 (K:Nat) (b:List (List (List Int))) (j:List (List Int)) (d k e l m n o p q s t u w:Int) (y:List (List Int)) (z:List Int) (A:List (List (List Int))) (f:Nat) (next:Int->List (List Int)->Option ((List (List Int)))) (a:Int) (g:List (List Int)):Option ((List (List Int))):=
 let B:=(decide (a<e))
 bif B then
  let h:=(Kd.nth (.slice (.slice (.int .i32))) b (Int.toNat a))
  let i:=(Kd.nth (.slice (.int .i32)) h f)
  let D:=(i.length:Int)
  gd ((0:Int)<=a/\a<(b.length:Int)/\(0:Int)<=d/\d<(h.length:Int)) <|
  (ww.l2 K b j d a k e i D l m n o p q s t u w y z A f K 0 g:Option ((List (List Int)))).bind fun E=>
   let F:=(wa .i64 (a+1))
   next F E
 else
  some g
def ww.l1 (K:Nat) (a:List (List (List Int))) (b:List (List Int)) (d e f g h i j k l m o p q:Int) (s:List (List Int)) (t:List Int) (u:List (List (List Int))) (w n:Nat):Int->List (List Int)->Option ((List (List Int))):=wo (ww.r1 K a b d e f g h i j k l m o p q s t u w) (fun _ _=>none) n
def ww.r0 (K:Nat) (e:List (List (List Int))) (g:List (List Int)) (f h i b j k l m n o p:Int) (q:List (List Int)) (s:List Int) (next:Int->List (List (List Int))->Option ((List (List (List Int))))) (a:Int) (d:List (List (List Int))):Option ((List (List (List Int)))):=
 let t:=(decide (a<f))
 bif t then
  let u:=(List.replicate (Int.toNat b) ([]:List Int))
  gd ((0:Int)<=b/\b<=b/\b*24<=140737488355328) <|
  gd ((0:Int)<=a/\a<(d.length:Int)) <|
  gd ((Int.toNat a)<d.length) <|
  (ww.l1 K e g a f (e.length:Int) h i b j k l m n o p q s d (Int.toNat a) K 0 u:Option ((List (List Int)))).bind fun w=>
   let y:=(wa .i64 (a+1))
   next y (List.set d (Int.toNat a) w)
 else
  some d
def ww.l0 (K:Nat) (a:List (List (List Int))) (b:List (List Int)) (d e f g h i j k l m o:Int) (p:List (List Int)) (q:List Int) (n:Nat):Int->List (List (List Int))->Option ((List (List (List Int)))):=wo (ww.r0 K a b d e f g h i j k l m o p q) (fun _ _=>none) n
def ww.r3 (K:Nat) (d:List (List (List Int))) (f _k _l _m _n _o _p _q _s _t _u:Int) (_w:List Int) (next:Int->List (List Int)->Option ((List (List Int)))) (a:Int) (b:List (List Int)):Option ((List (List Int))):=
 let g:=(decide (a<f))
 bif g then
  let h:=(Kd.nth (.slice (.slice (.int .i32))) d (Int.toNat a))
  gd ((0:Int)<=a/\a<(d.length:Int)) <|
  (wZ K h).bind fun (e,_y)=>
  let i:=(b++[e])
  gd (((b.length:Int)+([e].length:Int))*24<=70368744177664) <|
  let j:=(wa .i64 (a+1))
  next j i
 else
  some b
def ww.l3 (K:Nat) (a:List (List (List Int))) (b d e f g h i j k l m:Int) (o:List Int) (n:Nat):Int->List (List Int)->Option ((List (List Int))):=wo (ww.r3 K a b d e f g h i j k l m o) (fun _ _=>none) n
def ww.r4 (_K:Nat) (_k:List (List (List Int))) (d:List (Bool)) (e _l _m _n _o _p _q _s _t _u _w:Int) (next:Int->List Int->Option ((List Int))) (a:Int) (b:List Int):Option ((List Int)):=
 let f:=(decide (a<e))
 bif f then
  (
   let g:=(Kd.nth (.bool) d (Int.toNat a))
   gd ((0:Int)<=a/\a<(d.length:Int)) <|
   bif g then
    let h:=(List.set b (Int.toNat a) 1)
    gd ((0:Int)<=a/\a<(b.length:Int)/\(Int.toNat a)<b.length) <|
    some h
   else
    some b:Option ((List Int))).bind fun i=>
   let j:=(wa .i64 (a+1))
   next j i
 else
  some b
def ww.l4 (K:Nat) (a:List (List (List Int))) (b:List (Bool)) (d e f g h i j k l m o:Int) (n:Nat):Int->List Int->Option ((List Int)):=wo (ww.r4 K a b d e f g h i j k l m o) (fun _ _=>none) n
def ww (K:Nat) (f g h a b i d j k l:Int) (e:List (List (List Int))):Option ((List Int) × (List (List Int)) × (List (List (List Int))) × Int):=
 (kB K f g h a b i d j k l).bind fun p=>
 bif (p != 0) then
  some (([]:List Int),([]:List (List Int)),([]:List (List (List Int))),p)
 else
  (xP K f g h a b i d j k l e).bind fun u=>
  bif (!u) then
   some (([]:List Int),([]:List (List Int)),([]:List (List (List Int))),1)
  else
   let q:=(List.replicate (Int.toNat a) (0:Int))
   gd ((0:Int)<=a/\a<=a/\a*8<=140737488355328) <|
   (
    bif (d==1) then
     let w:=(Kd.nth (.slice (.slice (.int .i32))) e 0)
     gd (0<(e.length:Int)) <|
     let y:=(Kd.nth (.slice (.slice (.int .i32))) e 1)
     gd (1<(e.length:Int)) <|
     (qX K w y).bind fun (s,_E)=>
     (ww.l4 K e s (s.length:Int) f g h a b i d j k l K 0 q:Option ((List Int))).bind fun z=>
      some z
    else
     some q:Option ((List Int))).bind fun m=>
    (qI K e m).bind fun n=>
    (ww.l3 K n (n.length:Int) f g h a b i d j k l m K 0 ([]:List (List Int)):Option ((List (List Int)))).bind fun o=>
     (zp K f g h a b i d j k l o).bind fun (A,_F)=>
     let t:=(List.replicate (Int.toNat b) ([]:List (List Int)))
     gd ((0:Int)<=b/\b<=b/\b*24<=140737488355328) <|
     let B:=(t.length:Int)
     (ww.l0 K n A B f g h a b i d j k l o m K 0 t:Option ((List (List (List Int))))).bind fun D=>
      some (m,o,D,0)
def wD.r1 (K:Nat) (e:List Int) (_u:List (List Int)) (_w _y _z _A k _B _D _E _F _G _H l:Int) (m n:List Int) (next:Int->Int->List Int->List (List (List Int))->Option (Int × (List Int) × (List (List (List Int))))) (f b:Int) (g:List Int) (a:List (List (List Int))):Option (Int × (List Int) × (List (List (List Int)))):=
 let h:=(e.length:Int)
 let o:=(decide (b<h))
 bif o then
  bif f==0 then
   let d:=(wa .i64 (b+k))
   let p:=((e.take (Int.toNat d)).drop (Int.toNat b))
   gd ((0:Int)<=b/\b<=d/\d<=h) <|
   (wq K p l m n g).bind fun (i,_I,q)=>
   let j:=(List.getD a 0 [])
   let s:=(j++[i])
   let t:=(List.set a 0 s)
   gd (0<(a.length:Int)/\0<a.length/\((j.length:Int)+([i].length:Int))*24<=70368744177664/\0<(a.length:Int)/\0<a.length) <|
   next 0 d q t
  else
   none
 else
  some (f,g,a)
def wD.l1 (K:Nat) (a:List Int) (b:List (List Int)) (d e f g h i j k l m o p:Int) (q s:List Int) (n:Nat):Int->Int->List Int->List (List (List Int))->Option (Int × (List Int) × (List (List (List Int)))):=wo (wD.r1 K a b d e f g h i j k l m o p q s) (fun _ _ _ _=>none) n
def wD.r0 (K:Nat) (b:List (List Int)) (d g h i j k l m n o p q:Int) (s t:List Int) (next:Int->List Int->List (List (List Int))->Option ((List Int) × (List (List (List Int))))) (a:Int) (e:List Int) (f:List (List (List Int))):Option ((List Int) × (List (List (List Int)))):=
 let u:=(decide (a<d))
 bif u then
  let w:=(Kd.nth (.slice (.int .i16)) b (Int.toNat a))
  gd ((0:Int)<=a/\a<(b.length:Int)) <|
  (wD.l1 K w b d g h i j k l m n o p q s t K a 0 e f:Option (Int × (List Int) × (List (List (List Int))))).bind fun (y,z,A)=>
   let B:=(wa .i64 (y+1))
   next B z A
 else
  some (e,f)
def wD.l0 (K:Nat) (a:List (List Int)) (b d e f g h i j k l m o:Int) (p q:List Int) (n:Nat):Int->List Int->List (List (List Int))->Option ((List Int) × (List (List (List Int)))):=wo (wD.r0 K a b d e f g h i j k l m o p q) (fun _ _ _=>none) n
def wD (K:Nat) (l:List Int) (e f a b d g h i j k o:Int) (p q m:List Int):Option ((List Int) × Int × (List Int)):=
 let s:=(wa .i64 (a*b))
 let t:=(wa .i64 (s*d))
 let u:=((l.length:Int) != t)
 bif u then
  some (([]:List Int),1,m)
 else
  (kQ K l a).bind fun (n,_G)=>
  let w:=(List.replicate (Int.toNat a) ([]:List (List Int)))
  gd ((0:Int)<=a/\a<=a/\a*24<=140737488355328) <|
  (wD.l0 K n (n.length:Int) e f a b d g h i j k o p q K 0 m w:Option ((List Int) × (List (List (List Int))))).bind fun (y,z)=>
   (ww K e f a b d g h i j k z).bind fun (A,B,D,_H)=>
   (qz K e f a b d g h i j k A B D).bind fun (E,F)=>
   some (E,F,y)
def wx.r1 (K:Nat) (d:List Int) (_O:List (List Int)) (_P _Q _R _S e _T _U _V _W _X _Y p:Int) (q s:List Int) (t:Int) (u w:List Int) (next:Int->Int->List Int->List Int->List (List (List Int))->Option (Int × (List Int) × (List Int) × (List (List (List Int))))) (f b:Int) (g h:List Int) (a:List (List (List Int))):Option (Int × (List Int) × (List Int) × (List (List (List Int)))):=
 let i:=(d.length:Int)
 let y:=(decide (b<i))
 bif y then
  (
   bif f==0 then
    let j:=(wa .i64 (b+e))
    let z:=((d.take (Int.toNat j)).drop (Int.toNat b))
    gd ((0:Int)<=b/\b<=j/\j<=i) <|
    (wq K z p q s g).bind fun (l,_Z,A)=>
    let m:=(List.getD a 0 [])
    let B:=(m++[l])
    let D:=(List.set a 0 B)
    gd (0<(a.length:Int)/\0<a.length/\((m.length:Int)+([l].length:Int))*24<=70368744177664/\0<(a.length:Int)/\0<a.length) <|
    some (0,A,h,D)
   else
    bif f==1 then
     let k:=(wa .i64 (b+e))
     let E:=((d.take (Int.toNat k)).drop (Int.toNat b))
     gd ((0:Int)<=b/\b<=k/\k<=i) <|
     (wq K E t u w h).bind fun (n,_aa,F)=>
     let o:=(List.getD a 1 [])
     let G:=(o++[n])
     let H:=(List.set a 1 G)
     gd (1<(a.length:Int)/\1<a.length/\((o.length:Int)+([n].length:Int))*24<=70368744177664/\1<(a.length:Int)/\1<a.length) <|
     some (1,g,F,H)
    else
     none:Option (Int × (List Int) × (List Int) × (List (List (List Int))))).bind fun (I,J,L,M)=>
   let N:=(wa .i64 (b+e))
   next I N J L M
 else
  some (f,g,h,a)
def wx.l1 (K:Nat) (a:List Int) (b:List (List Int)) (d e f g h i j k l m o p:Int) (q s:List Int) (t:Int) (u w:List Int) (n:Nat):Int->Int->List Int->List Int->List (List (List Int))->Option (Int × (List Int) × (List Int) × (List (List (List Int)))):=wo (wx.r1 K a b d e f g h i j k l m o p q s t u w) (fun _ _ _ _ _=>none) n
def wx.r0 (K:Nat) (b:List (List Int)) (d h i j k l m n o p q s:Int) (t u:List Int) (w:Int) (y z:List Int) (next:Int->List Int->List Int->List (List (List Int))->Option ((List Int) × (List Int) × (List (List (List Int))))) (a:Int) (e f:List Int) (g:List (List (List Int))):Option ((List Int) × (List Int) × (List (List (List Int)))):=
 let A:=(decide (a<d))
 bif A then
  let B:=(Kd.nth (.slice (.int .i16)) b (Int.toNat a))
  gd ((0:Int)<=a/\a<(b.length:Int)) <|
  (wx.l1 K B b d h i j k l m n o p q s t u w y z K a 0 e f g:Option (Int × (List Int) × (List Int) × (List (List (List Int))))).bind fun (D,E,F,G)=>
   let H:=(wa .i64 (D+1))
   next H E F G
 else
  some (e,f,g)
def wx.l0 (K:Nat) (a:List (List Int)) (b d e f g h i j k l m o:Int) (p q:List Int) (s:Int) (t u:List Int) (n:Nat):Int->List Int->List Int->List (List (List Int))->Option ((List Int) × (List Int) × (List (List (List Int)))):=wo (wx.r0 K a b d e f g h i j k l m o p q s t u) (fun _ _ _ _=>none) n
def wx (K:Nat) (l:List Int) (e f a b d g h i j k p:Int) (q s:List Int) (t:Int) (u w m n:List Int):Option ((List Int) × Int × (List Int) × (List Int)):=
 let y:=(wa .i64 (a*b))
 let z:=(wa .i64 (y*d))
 let A:=((l.length:Int) != z)
 bif A then
  some (([]:List Int),1,m,n)
 else
  (kQ K l a).bind fun (o,_M)=>
  let B:=(List.replicate (Int.toNat a) ([]:List (List Int)))
  gd ((0:Int)<=a/\a<=a/\a*24<=140737488355328) <|
  (wx.l0 K o (o.length:Int) e f a b d g h i j k p q s t u w K 0 m n B:Option ((List Int) × (List Int) × (List (List (List Int))))).bind fun (D,E,F)=>
   (ww K e f a b d g h i j k F).bind fun (G,H,I,_N)=>
   (qz K e f a b d g h i j k G H I).bind fun (J,L)=>
   some (J,L,D,E)
def kw (K:Nat)  : Option (Bool):=
 (yw K ).bind fun _=>
 (qe K ).bind fun _=>
 (wJ K 1 0 1 4 4 0 0 2 0 0 (List.replicate 388 none) 0 0).bind fun z=>match z with
 | .inl t=>
  let u:=(bif (t != 0) then true else true)
  bif u then
   some false
  else
   (qm K (List.replicate 16 (0:Int))).bind fun w=>
   (qm K (List.replicate 15 (0:Int))).bind fun _ai=>
   (qe K ).bind fun _=>
   (wF K 1 0 1 4 4 0 0 2 0 0 w).bind fun (_aj,_ak,_al,_am)=>
   some false
 | .inr (.inl (_an,_ao,_ap,d,e,f,y))=>
  (wD K (List.replicate 16 (0:Int)) 1 0 1 4 4 0 0 2 0 0 d e f y).bind fun (a,A,B)=>
  (wD K (List.replicate 15 (0:Int)) 1 0 1 4 4 0 0 2 0 0 d e f B).bind fun (_aq,D,_au)=>
  (qe K ).bind fun _=>
  (wF K 1 0 1 4 4 0 0 2 0 0 a).bind fun (_aw,_ay,E,F)=>
  let G:=((a.length:Int)==7)
  let g:=(bif (A==0) then G else false)
  let H:=(Kd.nth (.int .u8) a 0)
  let h:=(bif g then (H==156) else false)
  let I:=(Kd.nth (.int .u8) a 1)
  let i:=(bif h then (I==0) else false)
  let J:=(Kd.nth (.int .u8) a 2)
  let L:=(bif i then (J==2) else false)
  let M:=(bif L then (D==1) else false)
  let N:=(bif M then (F==0) else false)
  let O:=((E.length:Int)==4)
  let P:=(bif N then O else false)
  gd ((g=true->0<(a.length:Int))/\(h=true->1<(a.length:Int))/\(i=true->2<(a.length:Int))) <|
  some P
 | .inr (.inr (_az,_aA,_aB,j,k,l,m,n,o,Q,R))=>
  (wx K (List.replicate 16 (0:Int)) 1 0 2 4 4 0 0 2 0 0 j k l m n o Q R).bind fun (b,S,T,U)=>
  (wx K (List.replicate 15 (0:Int)) 1 0 2 4 4 0 0 2 0 0 j k l m n o T U).bind fun (_aD,V,_aE,_aF)=>
  (qe K ).bind fun _=>
  (wF K 1 0 1 4 4 0 0 2 0 0 b).bind fun (_aG,_aH,W,X)=>
  let Y:=((b.length:Int)==7)
  let p:=(bif (S==0) then Y else false)
  let Z:=(Kd.nth (.int .u8) b 0)
  let q:=(bif p then (Z==156) else false)
  let aa:=(Kd.nth (.int .u8) b 1)
  let s:=(bif q then (aa==0) else false)
  let ab:=(Kd.nth (.int .u8) b 2)
  let ad:=(bif s then (ab==2) else false)
  let ae:=(bif ad then (V==1) else false)
  let af:=(bif ae then (X==0) else false)
  let ag:=((W.length:Int)==4)
  let ah:=(bif af then ag else false)
  gd ((p=true->0<(b.length:Int))/\(q=true->1<(b.length:Int))/\(s=true->2<(b.length:Int))) <|
  some ah
def zK.r0 (_K:Nat) (_j _k d e _l _m _n _o _p _q:Int) (next:Int->Int->Option (Int)) (a b:Int):Option (Int):=
 let f:=(decide (b<d))
 bif f then
  let g:=(wa .i64 (4*e))
  let h:=(wa .i64 (a+g))
  let i:=(wa .i64 (b+1))
  next h i
 else
  some a
def zK.l0 (K:Nat) (a b d e f g h i j k:Int) (n:Nat):Int->Int->Option (Int):=wo (zK.r0 K a b d e f g h i j k) (fun _ _=>none) n
def zK (K:Nat) (a i j b d k e f l g:Int):Option (Int):=
 bif (a==2) then
  let m:=(wa .i64 (g*8))
  some m
 else
  let n:=(wa .i64 (d*f))
  let o:=(wa .i64 (32+n))
  (zK.l0 K a i j b d k e f l g K o 0:Option (Int)).bind fun h=>
   (
    bif (e==1) then
     let p:=(wa .i64 (h+b))
     some p
    else
     some h:Option (Int)).bind fun q=>
    some q
def qy (K:Nat) (i f a d b g h e j k:Int):Option (Bool):=
 let l:=(bif (i != 1) then true else (j != 0))
 let m:=(bif l then true else (k != 0))
 bif m then
  some false
 else
  let n:=(decide (f<0))
  let o:=(decide (f>3))
  let p:=(bif n then true else o)
  let q:=(decide (a<1))
  let s:=(bif p then true else q)
  let t:=(decide (a>2))
  let u:=(bif s then true else t)
  let w:=(decide (g<0))
  let y:=(bif u then true else w)
  let z:=(decide (g>1))
  let A:=(bif y then true else z)
  bif A then
   some false
  else
   let B:=(bif (d != 4) then (d != 8) else false)
   let D:=(bif (b != 4) then (b != 8) else false)
   let E:=(bif D then (b != 12) else false)
   let F:=(bif E then (b != 16) else false)
   let G:=(bif B then true else F)
   bif G then
    some false
   else
    let H:=(bif (h != 1) then true else (a != 2))
    let I:=(bif (h != 0) then H else false)
    bif I then
     some false
    else
     (
      let J:=(decide (e>=2))
      let L:=(decide (e<=250))
      let M:=(bif J then L else false)
      let N:=(wa .i64 (16*d))
      let O:=(wa .i64 (N*a))
      let P:=(decide (e<=O))
      let Q:=(bif M then P else false)
      bif Q then
       (zK K i f a d b g h e j k).bind fun R=>
       let S:=(decide (R<=4096))
       some S
      else
       some false:Option (Bool)).bind fun T=>
      some T
def qa (_K:Nat) (a _g _h b d _i _j _k e _l:Int):Option (Int):=
 bif (a==2) then
  some e
 else
  let f:=(wa .i64 (b*d))
  some f
def zW.r0 (_K:Nat) (b:List Int) (f:Int) (next:Int->List Int->Option ((List Int))) (a:Int) (d:List Int):Option ((List Int)):=
 let g:=(decide (a<(b.length:Int)))
 bif g then
  let e:=(Kd.nth (.int .i16) b (Int.toNat a))
  let h:=(d++[e])
  gd ((0:Int)<=a/\a<(b.length:Int)/\((d.length:Int)+([e].length:Int))*2<=70368744177664) <|
  let i:=(wa .i64 (a+f))
  next i h
 else
  some d
def zW.l0 (K:Nat) (a:List Int) (b:Int) (n:Nat):Int->List Int->Option ((List Int)):=wo (zW.r0 K a b) (fun _ _=>none) n
def zW (K:Nat) (a:List Int) (b d:Int):Option ((List Int)):=
 (zW.l0 K a d K b ([]:List Int):Option ((List Int))).bind fun e=>
  some e
def zw (_K:Nat) (a b:Int):Option (Int):=
 let d:=(wa .i64 (a*b))
 let e:=(wa .i64 (Int.tdiv d 1073741824))
 some e
def qV (_K:Nat) (b a:Int):Option (Int):=
 let d:=(wa .i64 (Int.tdiv b a))
 gd (a≠0) <|
 let e:=(Int.tmod b a)
 let f:=(decide (e<0))
 gd (a≠0) <|
 (
  bif f then
   let g:=(wa .i64 (d-1))
   some g
  else
   some d:Option (Int)).bind fun h=>
  some h
def zO (K:Nat) (a e:Int):Option (Int):=
 let b:=(imax (imin e 62) 0)
 bif (b==0) then
  some a
 else
  let f:=(wa .i64 (b-1))
  let d:=(wa .u64 f)
  let g:=(kshl .i64 1 d)
  gd ((0:Int)<=d) <|
  (qV K a g).bind fun h=>
  let i:=(wa .i64 (h+1))
  (qV K i 2).bind fun j=>
  some j
def qg (K:Nat) (h a:Int) (i:Bool):Option (Int):=
 let d:=(wa .i64 (4*h))
 let j:=(decide (d>=a))
 (
  bif j then
   let k:=(wa .i64 (2*a))
   let l:=(wa .i64 (k-d))
   some l
  else
   some d:Option (Int)).bind fun m=>
  let n:=(wa .i64 (m*1073741824))
  let e:=(wa .i64 (Int.tdiv n a))
  gd (a≠0) <|
  (zw K e e).bind fun b=>
  (zw K 172272 b).bind fun o=>
  let p:=(wa .i64 (5026995-o))
  (zw K p b).bind fun q=>
  let s:=(wa .i64 (85569306-q))
  (zw K s b).bind fun t=>
  let u:=(wa .i64 (693598668-t))
  (zw K u b).bind fun w=>
  let y:=(wa .i64 (1686629713-w))
  (zw K y e).bind fun z=>
  (zO K z 15).bind fun f=>
  let A:=(decide (f>32767))
  (
   bif A then
    some 32767
   else
    some f:Option (Int)).bind fun g=>
   bif i then
    let B:=(wa .i16 (wa .i64 (0-g)))
    some B
   else
    some (wa .i16 g)
def xk (K:Nat) (b a:Int):Option (Int):=
 let e:=(decide (b<0))
 (
  bif e then
   let f:=(wa .i64 (b+a))
   some f
  else
   some b:Option (Int)).bind fun d=>
  let g:=(wa .i64 (2*d))
  let h:=(decide (g>=a))
  bif h then
   let i:=(wa .i64 (Int.tdiv a 2))
   let j:=(wa .i64 (d-i))
   (qg K j a true).bind fun k=>
   some k
  else
   (qg K d a false).bind fun l=>
   some l
def ja (K:Nat) (f a:Int):Option (Int):=
 let b:=(Int.tmod f a)
 gd (a≠0) <|
 let g:=(decide (b<0))
 (
  bif g then
   let h:=(wa .i64 (b+a))
   some h
  else
   some b:Option (Int)).bind fun d=>
  let i:=(wa .i64 (2*d))
  let e:=(decide (i>=a))
  (
   bif e then
    let j:=(wa .i64 (Int.tdiv a 2))
    let k:=(wa .i64 (d-j))
    let l:=(Int.tmod a 2)
    bif (l==1) then
     let m:=(wa .i64 (2*b))
     let n:=(wa .i64 (2*a))
     gd (a≠0) <|
     (xk K m n).bind fun o=>
     some (.inr o)
    else
     some (.inl k)
   else
    some (.inl d):Option ((Int) ⊕ (Int))).bind fun z=>match z with
  | .inl p=>
   (qg K p a e).bind fun q=>
   some q
  | .inr r=>
   some r
def qn (K:Nat) (b a:Int):Option (Int × Int):=
 let d:=(decide (a<1))
 let e:=(decide (a>1048576))
 let f:=(bif d then true else e)
 bif f then
  some (0,1)
 else
  let g:=(Int.tmod b a)
  gd (a≠0) <|
  let h:=(wa .i64 (4*g))
  let i:=(wa .i64 (h+a))
  let j:=(wa .i64 (4*a))
  (ja K i j).bind fun k=>
  some (k,0)
def qj.r0 (K:Nat) (b:Int) (next:Int->List Int->Option ((List Int))) (a:Int) (d:List Int):Option ((List Int)):=
 let e:=(wa .i64 (5*b))
 let j:=(decide (a<e))
 bif j then
  (
   bif (a != 0) then
    let k:=(wa .i64 (3*a))
    let l:=(wa .i64 (10*b))
    (ja K k l).bind fun m=>
    let n:=(wa .i64 ((wa .i64 m)*b))
    let o:=(wa .i64 (n*565))
    let f:=(wa .i64 (a*1065))
    let p:=(wa .i64 (Int.tdiv o f))
    gd (f≠0) <|
    some p
   else
    some 32768:Option (Int)).bind fun q=>
   let g:=(wa .i64 (a+e))
   let h:=(wa .i64 (10*b))
   (qn K g h).bind fun (s,_I)=>
   let t:=(wa .i64 (2*g))
   (qn K t h).bind fun (u,_J)=>
   let w:=(wa .i64 (8*(wa .i64 u)))
   let y:=(wa .i64 (1376256+w))
   let z:=(wa .i64 (50*(wa .i64 s)))
   let A:=(wa .i64 (y-z))
   let B:=(wa .i64 (Int.tdiv A 100))
   let D:=(wa .i64 (q*B))
   (zO K D 15).bind fun E=>
   let F:=(wa .i64 (E*19708))
   (zO K F 15).bind fun G=>
   let i:=[(wa .i16 G)]
   gd (((d.length:Int)+(i.length:Int))*2<=70368744177664) <|
   let H:=(wa .i64 (a+1))
   next H (d++i)
 else
  some d
def qj.l0 (K:Nat) (a:Int) (n:Nat):Int->List Int->Option ((List Int)):=wo (qj.r0 K a) (fun _ _=>none) n
def qj (K:Nat) (a:Int):Option ((List Int)):=
 let b:=(bif (a != 4) then (a != 8) else false)
 bif b then
  some ([]:List Int)
 else
  let d:=(wa .i64 ((-5)*a))
  (qj.l0 K a K d ([]:List Int):Option ((List Int))).bind fun e=>
   some e
def kN (_K:Nat) (a f:Int):Option (Int):=
 let g:=(wa .i64 (f-1))
 let d:=(wa .u64 g)
 let h:=(kshl .i64 1 d)
 let b:=(wa .i64 (h-1))
 gd ((0:Int)<=d) <|
 let i:=(decide (a>b))
 bif i then
  some b
 else
  let j:=(wa .i64 (0-b))
  let e:=(wa .i64 (j-1))
  let k:=(decide (a<e))
  bif k then
   some e
  else
   some a
def qL (K:Nat) (a b:Int):Option (Int):=
 (zO K a b).bind fun d=>
 (kN K d 32).bind fun e=>
 some e
def kF (K:Nat) (a b d:Int):Option (Int):=
 let e:=(wa .i64 (a*b))
 let f:=(wa .i64 (8*d))
 (qn K e f).bind fun (g,_h)=>
 some (wa .i64 g)
def wd.r1 (K:Nat) (b _s f:Int) (d _t:List Int) (next:Int->Int->Option (Int)) (e a:Int):Option (Int):=
 let g:=(wa .i64 (2*b))
 let h:=(decide (a<g))
 bif h then
  gd ((0:Int)<=a/\a<(d.length:Int)) <|
  let i:=(Kd.nth (.int .i64) d (Int.toNat a))
  gd ((Int.toNat a)<d.length) <|
  let j:=(wa .i64 (2*f))
  let k:=(wa .i64 (j+1))
  let l:=(wa .i64 (2*a))
  let m:=(wa .i64 (l-b))
  (kF K k m b).bind fun n=>
  let o:=(wa .i64 (i*n))
  let p:=(wa .i64 (e+o))
  let q:=(wa .i64 (a+1))
  next p q
 else
  some e
def wd.l1 (K:Nat) (a b d:Int) (e f:List Int) (n:Nat):Int->Int->Option (Int):=wo (wd.r1 K a b d e f) (fun _ _=>none) n
def wd.r0 (K:Nat) (d e:Int) (g:List Int) (next:Int->List Int->Option ((List Int))) (b:Int) (a:List Int):Option ((List Int)):=
 let h:=(decide (b<d))
 bif h then
  (wd.l1 K d e b g a K 0 0:Option (Int)).bind fun i=>
   (qL K i e).bind fun j=>
   let f:=[(wa .i32 j)]
   let k:=(a++f)
   gd (((a.length:Int)+(f.length:Int))*4<=70368744177664) <|
   let l:=(wa .i64 (b+1))
   next l k
 else
  some a
def wd.l0 (K:Nat) (a b:Int) (d:List Int) (n:Nat):Int->List Int->Option ((List Int)):=wo (wd.r0 K a b d) (fun _ _=>none) n
def wd.r3 (_K:Nat) (i:Int) (f:List Int) (j:Int) (d _y:List Int) (next:Int->Int->Option (Int)) (g b:Int):Option (Int):=
 let k:=(decide (b<5))
 bif k then
  let l:=(wa .i64 (2*i))
  let m:=(wa .i64 (l*b))
  let a:=(wa .i64 (j+m))
  let e:=(Int.toNat a)
  gd ((0:Int)<=a/\a<(d.length:Int)) <|
  let n:=(Kd.nth (.int .i64) d e)
  gd (e<d.length) <|
  let o:=(Kd.nth (.int .i16) f e)
  gd ((0:Int)<=a/\a<(f.length:Int)) <|
  let p:=(wa .i64 o)
  let h:=(wa .i64 (n*p))
  let q:=(Int.tmod b 2)
  (
   bif (q==0) then
    let s:=(wa .i64 (0-h))
    some s
   else
    some h:Option (Int)).bind fun t=>
   let u:=(wa .i64 (g+t))
   let w:=(wa .i64 (b+1))
   next u w
 else
  some g
def wd.l3 (K:Nat) (a:Int) (b:List Int) (d:Int) (e f:List Int) (n:Nat):Int->Int->Option (Int):=wo (wd.r3 K a b d e f) (fun _ _=>none) n
def wd.r2 (K:Nat) (d:Int) (f g:List Int) (next:Int->List Int->Option ((List Int))) (b:Int) (a:List Int):Option ((List Int)):=
 let h:=(wa .i64 (2*d))
 let i:=(decide (b<h))
 bif i then
  (wd.l3 K d f b g a K 0 0:Option (Int)).bind fun j=>
   (qL K j 14).bind fun e=>
   let k:=(a++[e])
   gd (((a.length:Int)+([e].length:Int))*8<=70368744177664) <|
   let l:=(wa .i64 (b+1))
   next l k
 else
  some a
def wd.l2 (K:Nat) (a:Int) (b d:List Int) (n:Nat):Int->List Int->Option ((List Int)):=wo (wd.r2 K a b d) (fun _ _=>none) n
def wd.r4 (_K:Nat) (b:Int) (next:List Int->Option ((List Int))) (a:List Int):Option ((List Int)):=
 let d:=(wa .i64 (10*b))
 let e:=(decide ((a.length:Int)<d))
 bif e then
  gd (((a.length:Int)+([0].length:Int))*8<=70368744177664) <|
  next (a++[0])
 else
  some a
def wd.l4 (K:Nat) (a:Int) (n:Nat):List Int->Option ((List Int)):=wo (wd.r4 K a) (fun _=>none) n
def wd.r6 (_K:Nat) (e:List (List Int)) (_l b:Int) (next:Int->List Int->Option ((List Int))) (a:Int) (d:List Int):Option ((List Int)):=
 let h:=(decide (a>=0))
 bif h then
  let f:=(Kd.nth (.slice (.int .i16)) e (Int.toNat b))
  let i:=(Kd.nth (.int .i16) f (Int.toNat a))
  let g:=(wa .i64 i)
  let j:=(d++[g])
  gd ((0:Int)<=b/\b<(e.length:Int)/\(0:Int)<=a/\a<(f.length:Int)/\((d.length:Int)+([g].length:Int))*8<=70368744177664) <|
  let k:=(wa .i64 (a-1))
  next k j
 else
  some d
def wd.l6 (K:Nat) (a:List (List Int)) (b d:Int) (n:Nat):Int->List Int->Option ((List Int)):=wo (wd.r6 K a b d) (fun _ _=>none) n
def wd.r5 (K:Nat) (e:List (List Int)) (b:Int) (next:Int->List Int->Option ((List Int))) (a:Int) (d:List Int):Option ((List Int)):=
 let f:=(decide (a>=0))
 bif f then
  let g:=(wa .i64 (b-1))
  (wd.l6 K e b a K g d:Option ((List Int))).bind fun h=>
   let i:=(wa .i64 (a-1))
   next i h
 else
  some d
def wd.l5 (K:Nat) (a:List (List Int)) (b:Int) (n:Nat):Int->List Int->Option ((List Int)):=wo (wd.r5 K a b) (fun _ _=>none) n
def wd (K:Nat) (b:List (List Int)) (a:Int):Option ((List Int)):=
 let d:=(wa .i64 ((b.length:Int)-1))
 (wd.l5 K b a K d ([]:List Int):Option ((List Int))).bind fun e=>
  (wd.l4 K a K e:Option ((List Int))).bind fun f=>
   (qj K a).bind fun g=>
   (wd.l2 K a g f K 0 ([]:List Int):Option ((List Int))).bind fun h=>
    (
     bif (a==8) then
      some 18
     else
      some 17:Option (Int)).bind fun i=>
     (wd.l0 K a i h K 0 ([]:List Int):Option ((List Int))).bind fun j=>
      some j
def zv (_K:Nat) (d a:Int):Option (Int):=
 let b:=(wa .i64 (Int.tdiv d a))
 gd (a≠0) <|
 let e:=(wa .i64 (b*a))
 let f:=(decide (e>d))
 (
  bif f then
   let g:=(wa .i64 (b-1))
   some g
  else
   some b:Option (Int)).bind fun h=>
  some h
def w6.r1 (K:Nat) (d h:List (List Int)) (a:Int) (_B _D:List (List Int)) (next:Int->List Int->List Int->Option ((List Int) × (List Int))) (b:Int) (e f:List Int):Option ((List Int) × (List Int)):=
 let g:=(Kd.nth (.slice (.int .i32)) d (Int.toNat a))
 let n:=(g.length:Int)
 let o:=(decide (b<n))
 gd ((0:Int)<=a/\a<(d.length:Int)) <|
 bif o then
  gd ((0:Int)<=a/\a<(d.length:Int)) <|
  let p:=(Kd.nth (.int .i32) g (Int.toNat b))
  gd ((0:Int)<=b/\b<(g.length:Int)) <|
  let i:=(wa .i64 p)
  let j:=(Kd.nth (.slice (.int .i32)) h (Int.toNat a))
  gd ((0:Int)<=a/\a<(h.length:Int)) <|
  let q:=(Kd.nth (.int .i32) j (Int.toNat b))
  gd ((0:Int)<=b/\b<(j.length:Int)) <|
  let k:=(wa .i64 q)
  let s:=(wa .i64 (i+k))
  (zv K s 2).bind fun t=>
  let l:=[(wa .i32 t)]
  let u:=(e++l)
  gd (((e.length:Int)+(l.length:Int))*4<=70368744177664) <|
  let w:=(wa .i64 (i-k))
  (zv K w 2).bind fun y=>
  let m:=[(wa .i32 y)]
  let z:=(f++m)
  gd (((f.length:Int)+(m.length:Int))*4<=70368744177664) <|
  let A:=(wa .i64 (b+1))
  next A u z
 else
  some (e,f)
def w6.l1 (K:Nat) (a b:List (List Int)) (d:Int) (e f:List (List Int)) (n:Nat):Int->List Int->List Int->Option ((List Int) × (List Int)):=wo (w6.r1 K a b d e f) (fun _ _ _=>none) n
def w6.r0 (K:Nat) (e h:List (List Int)) (next:Int->List (List Int)->List (List Int)->Option ((List (List Int)) × (List (List Int)))) (d:Int) (a b:List (List Int)):Option ((List (List Int)) × (List (List Int))):=
 let i:=(decide (d<(e.length:Int)))
 bif i then
  (w6.l1 K e h d a b K 0 ([]:List Int) ([]:List Int):Option ((List Int) × (List Int))).bind fun (f,g)=>
   let j:=(a++[f])
   gd (((a.length:Int)+([f].length:Int))*24<=70368744177664) <|
   let k:=(b++[g])
   gd (((b.length:Int)+([g].length:Int))*24<=70368744177664) <|
   let l:=(wa .i64 (d+1))
   next l j k
 else
  some (a,b)
def w6.l0 (K:Nat) (a b:List (List Int)) (n:Nat):Int->List (List Int)->List (List Int)->Option ((List (List Int)) × (List (List Int))):=wo (w6.r0 K a b) (fun _ _ _=>none) n
def w6 (K:Nat) (a b:List (List Int)):Option ((List (List Int)) × (List (List Int))):=
 (w6.l0 K a b K 0 ([]:List (List Int)) ([]:List (List Int)):Option ((List (List Int)) × (List (List Int)))).bind fun (d,e)=>
  some (d,e)
def zo.r0 (_K:Nat) (d:Int) (next:Int->Int->Option (Int)) (a b:Int):Option (Int):=
 let e:=(decide (b<d))
 bif e then
  let f:=(wa .i64 (a*2))
  let g:=(wa .i64 (b+1))
  next f g
 else
  some a
def zo.l0 (K:Nat) (a:Int) (n:Nat):Int->Int->Option (Int):=wo (zo.r0 K a) (fun _ _=>none) n
def zo (K:Nat) (a:Int):Option (Int):=
 (zo.l0 K a K 1 0:Option (Int)).bind fun b=>
  some b
def zM.r0 (K:Nat) (d:Int) (next:Int->Option ((Unit) ⊕ (Int))) (a:Int):Option ((Unit) ⊕ (Int)):=
 let e:=(decide (a<15))
 bif e then
  let b:=(wa .i64 (a+1))
  (zo K b).bind fun f=>
  let g:=(decide (f>d))
  bif g then
   some (.inr a)
  else
   next b
 else
  some (.inl ())
def zM.l0 (K:Nat) (a:Int) (n:Nat):Int->Option ((Unit) ⊕ (Int)):=wo (zM.r0 K a) (fun _=>none) n
def zM (K:Nat) (a:Int):Option (Int):=
 (zM.l0 K a K 0:Option ((Unit) ⊕ (Int))).bind fun z=>match z with
 | .inl _=>
  some 15
 | .inr r=>
  some r
def wQ.r1 (_K:Nat) (b:List (List Int)) (d:Int) (_p:List Int) (next:Int->Int->Option (Int)) (e a:Int):Option (Int):=
 let i:=(decide (a<(b.length:Int)))
 bif i then
  (
   let g:=(Kd.nth (.slice (.int .i32)) b (Int.toNat a))
   let j:=(Kd.nth (.int .i32) g (Int.toNat d))
   let f:=(wa .i64 j)
   gd ((0:Int)<=a/\a<(b.length:Int)/\(0:Int)<=d/\d<(g.length:Int)) <|
   let k:=(decide (f<0))
   (
    bif k then
     let l:=(wa .i64 (0-f))
     some l
    else
     some f:Option (Int)).bind fun h=>
    let m:=(decide (h>e))
    bif m then
     some h
    else
     some e:Option (Int)).bind fun n=>
   let o:=(wa .i64 (a+1))
   next n o
 else
  some e
def wQ.l1 (K:Nat) (a:List (List Int)) (b:Int) (d:List Int) (n:Nat):Int->Int->Option (Int):=wo (wQ.r1 K a b d) (fun _ _=>none) n
def wQ.r0 (K:Nat) (b:List (List Int)) (next:Int->List Int->Option ((List Int))) (d:Int) (a:List Int):Option ((List Int)):=
 let f:=(Kd.nth (.slice (.int .i32)) b 0)
 let g:=(f.length:Int)
 let h:=(decide (d<g))
 gd (0<(b.length:Int)) <|
 bif h then
  (wQ.l1 K b d a K 0 0:Option (Int)).bind fun i=>
   (zM K i).bind fun e=>
   let j:=(a++[e])
   gd (((a.length:Int)+([e].length:Int))*8<=70368744177664) <|
   let k:=(wa .i64 (d+1))
   next k j
 else
  some a
def wQ.l0 (K:Nat) (a:List (List Int)) (n:Nat):Int->List Int->Option ((List Int)):=wo (wQ.r0 K a) (fun _ _=>none) n
def wQ (K:Nat) (a:List (List Int)):Option ((List Int)):=
 (wQ.l0 K a K 0 ([]:List Int):Option ((List Int))).bind fun b=>
  some b
def qf.r0 (_K:Nat) (d f g h:List Int) (next:Int->List (Bool)->Option ((List (Bool)))) (a:Int) (e:List (Bool)):Option ((List (Bool))):=
 let k:=(decide (a<(d.length:Int)))
 bif k then
  let i:=(wa .i64 (a+1))
  let b:=(decide (i<(d.length:Int)))
  let l:=(Kd.nth (.int .i64) d (Int.toNat a))
  gd ((b=true->(0:Int)<=a)/\(b=true->a<(d.length:Int))) <|
  let m:=(Kd.nth (.int .i64) f (Int.toNat a))
  gd ((b=true->(0:Int)<=a)/\(b=true->a<(f.length:Int))) <|
  let n:=(wa .i64 (l+m))
  let o:=(Kd.nth (.int .i64) g (Int.toNat a))
  gd ((b=true->(0:Int)<=a)/\(b=true->a<(g.length:Int))) <|
  let p:=(Kd.nth (.int .i64) h (Int.toNat a))
  gd ((b=true->(0:Int)<=a)/\(b=true->a<(h.length:Int))) <|
  let q:=(wa .i64 (o+p))
  let s:=(decide (n>q))
  let j:=(bif b then s else false)
  let t:=(e++[j])
  gd (((e.length:Int)+([j].length:Int))*1<=70368744177664) <|
  next i t
 else
  some e
def qf.l0 (K:Nat) (a b d e:List Int) (n:Nat):Int->List (Bool)->Option ((List (Bool))):=wo (qf.r0 K a b d e) (fun _ _=>none) n
def qf (K:Nat) (a b:List (List Int)):Option ((List (Bool))):=
 (w6 K a b).bind fun (d,e)=>
 (wQ K a).bind fun f=>
 (wQ K b).bind fun g=>
 (wQ K d).bind fun h=>
 (wQ K e).bind fun i=>
 (qf.l0 K f g h i K 0 ([]:List (Bool)):Option ((List (Bool)))).bind fun j=>
  some j
def qh (_K:Nat) (_j a _k d _l _m _n _o _p _q b:Int):Option (Int):=
 bif (d==4) then
  bif (b==0) then
   bif (a==0) then
    some (-1)
   else
    some (-2)
  else
   let e:=(decide (a>0))
   let f:=(bif (b==3) then e else false)
   bif f then
    some 1
   else
    some 0
 else
  (
   bif (b==0) then
    let g:=(wa .i64 ((-2)-(imin a 2)))
    some (.inr g)
   else
    bif (b==6) then
     let h:=(decide (a>0))
     bif h then
      some (.inr 1)
     else
      some (.inl ())
    else
     bif (b==7) then
      let i:=(decide (a>0))
      bif i then
       some (.inr 2)
      else
       some (.inr 1)
     else
      some (.inl ()):Option ((Unit) ⊕ (Int))).bind fun z=>match z with
  | .inl _=>
   some 0
  | .inr r=>
   some r
def zh.r1 (K:Nat) (g:List (List Int)) (b l m h n o i p q s t:Int) (next:Int->List Int->Option ((List Int))) (a:Int) (d:List Int):Option ((List Int)):=
 let u:=(decide (a<h))
 bif u then
  let j:=(Kd.nth (.slice (.int .i64)) g (Int.toNat a))
  let e:=(Kd.nth (.int .i64) j (Int.toNat b))
  gd ((0:Int)<=a/\a<(g.length:Int)/\(0:Int)<=b/\b<(j.length:Int)) <|
  (
   bif (i==0) then
    (qh K l m h n o i p q s t b).bind fun w=>
    let f:=(wa .i64 (e-w))
    let y:=(decide (f>0))
    (
     bif y then
      let z:=(wa .i64 (Int.tdiv f 2))
      some z
     else
      some f:Option (Int)).bind fun A=>
     bif (e==0) then
      some (-5)
     else
      some A
   else
    some e:Option (Int)).bind fun k=>
   let B:=(d++[k])
   gd (((d.length:Int)+([k].length:Int))*8<=70368744177664) <|
   let D:=(wa .i64 (a+1))
   next D B
 else
  some d
def zh.l1 (K:Nat) (a:List (List Int)) (b d e f g h i j k l m:Int) (n:Nat):Int->List Int->Option ((List Int)):=wo (zh.r1 K a b d e f g h i j k l m) (fun _ _=>none) n
def zh.r0 (K:Nat) (e:List (List Int)) (f g h b i j k l m n:Int) (next:Int->List Int->Option ((List Int))) (a:Int) (d:List Int):Option ((List Int)):=
 let o:=(decide (a<b))
 bif o then
  (zh.l1 K e a f g h b i j k l m n K 0 d:Option ((List Int))).bind fun p=>
   let q:=(wa .i64 (a+1))
   next q p
 else
  some d
def zh.l0 (K:Nat) (a:List (List Int)) (b d e f g h i j k l:Int) (n:Nat):Int->List Int->Option ((List Int)):=wo (zh.r0 K a b d e f g h i j k l) (fun _ _=>none) n
def zh (K:Nat) (a b d e f g h i j k:Int) (l:List (List Int)):Option ((List Int)):=
 (zh.l0 K l a b d e f g h i j k K 0 ([]:List Int):Option ((List Int))).bind fun m=>
  some m
def qd.r0 (_K:Nat) (b:List Int) (g:Int) (next:Int->Int->Option (Int)) (d a:Int):Option (Int):=
 let j:=(decide (a<(b.length:Int)))
 bif j then
  (
   let e:=(Kd.nth (.int .i64) b (Int.toNat a))
   let h:=(wa .i64 (g+1))
   gd ((0:Int)<=a/\a<(b.length:Int)) <|
   (
    bif (e==h) then
     let k:=(wa .i64 (d+2))
     some k
    else
     some d:Option (Int)).bind fun i=>
    let f:=(decide (e>h))
    let l:=(wa .i64 (g+16))
    let m:=(decide (e<l))
    let n:=(bif f then m else false)
    gd ((0:Int)<=a/\a<(b.length:Int)/\(f=true->(0:Int)<=a)/\(f=true->a<(b.length:Int))) <|
    bif n then
     let o:=(wa .i64 (i+1))
     some o
    else
     some i:Option (Int)).bind fun p=>
   let q:=(wa .i64 (a+1))
   next p q
 else
  some d
def qd.l0 (K:Nat) (a:List Int) (b:Int) (n:Nat):Int->Int->Option (Int):=wo (qd.r0 K a b) (fun _ _=>none) n
def qd (K:Nat) (a:List Int) (b:Int):Option (Int):=
 (qd.l0 K a b K 0 0:Option (Int)).bind fun d=>
  some d
def wj.r0 (_K:Nat) (g:List Int) (_u _w _y _z _A _B _D h _E _F:Int) (next:Int->Int->List Int->Option ((List Int))) (e a:Int) (b:List Int):Option ((List Int)):=
 let i:=(decide (a<(g.length:Int)))
 let j:=(decide (e<h))
 let k:=(bif i then j else false)
 bif k then
  (
   let f:=(Kd.nth (.int .i64) b (Int.toNat a))
   let d:=(decide (f>=2))
   let l:=(decide (f<=15))
   let m:=(bif d then l else false)
   gd ((0:Int)<=a/\a<(b.length:Int)/\(Int.toNat a)<b.length/\(d=true->(0:Int)<=a)/\(d=true->a<(b.length:Int))/\(d=true->(Int.toNat a)<b.length)) <|
   bif m then
    let n:=(wa .i64 (f+1))
    let o:=(List.set b (Int.toNat a) n)
    gd ((0:Int)<=a/\a<(b.length:Int)/\(Int.toNat a)<b.length/\(0:Int)<=a/\a<(b.length:Int)/\(Int.toNat a)<b.length) <|
    let p:=(wa .i64 (e+1))
    some (p,o)
   else
    some (e,b):Option (Int × (List Int))).bind fun (q,s)=>
   let t:=(wa .i64 (a+1))
   next q t s
 else
  some b
def wj.l0 (K:Nat) (a:List Int) (b d e f g h i j k l:Int) (n:Nat):Int->Int->List Int->Option ((List Int)):=wo (wj.r0 K a b d e f g h i j k l) (fun _ _ _=>none) n
def wj.r1 (_K:Nat) (f:List Int) (i _G _H _I _J _L _M _N h _O _P:Int) (next:Int->Int->List Int->Option (Int × (List Int))) (d a:Int) (b:List Int):Option (Int × (List Int)):=
 let j:=(decide (a<(f.length:Int)))
 let k:=(decide (d<h))
 let l:=(bif j then k else false)
 bif l then
  (
   let g:=(Kd.nth (.int .i64) b (Int.toNat a))
   let e:=(decide (g>=2))
   let m:=(decide (g<=15))
   let n:=(bif e then m else false)
   gd ((0:Int)<=a/\a<(b.length:Int)/\(Int.toNat a)<b.length/\(e=true->(0:Int)<=a)/\(e=true->a<(b.length:Int))/\(e=true->(Int.toNat a)<b.length)) <|
   bif n then
    let o:=(wa .i64 (g+1))
    let p:=(List.set b (Int.toNat a) o)
    gd ((0:Int)<=a/\a<(b.length:Int)/\(Int.toNat a)<b.length/\(0:Int)<=a/\a<(b.length:Int)/\(Int.toNat a)<b.length) <|
    let q:=(wa .i64 (d+1))
    some (q,p)
   else
    let s:=(Kd.nth (.int .i64) f (Int.toNat a))
    let t:=(wa .i64 (i+1))
    let u:=(s==t)
    let w:=(wa .i64 (d+1))
    let y:=(decide (w<h))
    let z:=(bif u then y else false)
    gd ((0:Int)<=a/\a<(f.length:Int)) <|
    bif z then
     let A:=(List.set b (Int.toNat a) 2)
     gd ((0:Int)<=a/\a<(b.length:Int)/\(Int.toNat a)<b.length) <|
     let B:=(wa .i64 (d+2))
     some (B,A)
    else
     some (d,b):Option (Int × (List Int))).bind fun (D,E)=>
   let F:=(wa .i64 (a+1))
   next D F E
 else
  some (d,b)
def wj.l1 (K:Nat) (a:List Int) (b d e f g h i j k l m:Int) (n:Nat):Int->Int->List Int->Option (Int × (List Int)):=wo (wj.r1 K a b d e f g h i j k l m) (fun _ _ _=>none) n
def wj.r2 (_K:Nat) (d:List Int) (e _o _p _q _s _t _u _w _y _z _A _B:Int) (next:Int->List Int->Option ((List Int))) (a:Int) (b:List Int):Option ((List Int)):=
 let g:=(decide (a<(d.length:Int)))
 bif g then
  (
   let f:=(Kd.nth (.int .i64) d (Int.toNat a))
   let h:=(wa .i64 (e+2))
   let i:=(decide (f>=h))
   gd ((0:Int)<=a/\a<(d.length:Int)) <|
   bif i then
    let j:=(wa .i64 (f-e))
    let k:=(imin j 16)
    let l:=(List.set b (Int.toNat a) k)
    gd ((0:Int)<=a/\a<(d.length:Int)/\(0:Int)<=a/\a<(b.length:Int)/\(Int.toNat a)<b.length) <|
    some l
   else
    some b:Option ((List Int))).bind fun m=>
   let n:=(wa .i64 (a+1))
   next n m
 else
  some b
def wj.l2 (K:Nat) (a:List Int) (b d e f g h i j k l m o:Int) (n:Nat):Int->List Int->Option ((List Int)):=wo (wj.r2 K a b d e f g h i j k l m o) (fun _ _=>none) n
def wj.r3 (K:Nat) (e:List Int) (_l _m _n _o _p _q _s f _t _u:Int) (next:Int->Int->Int->Option (Int × Int × Int)) (g h i:Int):Option (Int × Int × Int):=
 let a:=(wa .i64 (g-1))
 let b:=(wa .i64 (h+i))
 (qd K e a).bind fun d=>
 let j:=(wa .i64 (b+d))
 let k:=(decide (j>=f))
 bif k then
  some (a,b,d)
 else
  next a b d
def wj.l3 (K:Nat) (a:List Int) (b d e f g h i j k l:Int) (n:Nat):Int->Int->Int->Option (Int × Int × Int):=wo (wj.r3 K a b d e f g h i j k l) (fun _ _ _=>none) n
def wj.r4 (_K:Nat) (b:List Int) (_i _j _k _l _m _n _o _p _q _s:Int) (next:Int->Int->Option (Int)) (d a:Int):Option (Int):=
 let e:=(decide (a<(b.length:Int)))
 bif e then
  let f:=(Kd.nth (.int .i64) b (Int.toNat a))
  let g:=(imax d f)
  gd ((0:Int)<=a/\a<(b.length:Int)) <|
  let h:=(wa .i64 (a+1))
  next g h
 else
  some d
def wj.l4 (K:Nat) (a:List Int) (b d e f g h i j k l:Int) (n:Nat):Int->Int->Option (Int):=wo (wj.r4 K a b d e f g h i j k l) (fun _ _=>none) n
def wj (K:Nat) (d e f g h i j b k l:Int) (q:List (List Int)):Option ((List Int)):=
 (zh K d e f g h i j b k l q).bind fun a=>
 let s:=(Kd.nth (.int .i64) a 0)
 gd (0<(a.length:Int)) <|
 (wj.l4 K a d e f g h i j b k l K s 1:Option (Int)).bind fun t=>
  let u:=(wa .i64 (t+1))
  (wj.l3 K a d e f g h i j b k l K u 0 0:Option (Int × Int × Int)).bind fun (m,n,w)=>
   let y:=(wa .i64 (n+w))
   (
    bif (y==b) then
     let z:=(wa .i64 (m-1))
     some (z,b)
    else
     some (m,n):Option (Int × Int)).bind fun (o,p)=>
    let A:=(List.replicate (Int.toNat (a.length:Int)) (0:Int))
    gd ((0:Int)<=(a.length:Int)/\(a.length:Int)<=(a.length:Int)/\(a.length:Int)*8<=140737488355328) <|
    (wj.l2 K a o p d e f g h i j b k l K 0 A:Option ((List Int))).bind fun B=>
     (wj.l1 K a o d e f g h i j b k l K p 0 B:Option (Int × (List Int))).bind fun (D,E)=>
      (wj.l0 K a d e f g h i j b k l K D 0 E:Option ((List Int))).bind fun F=>
       some F
def jl (_K:Nat) (b a:Int):Option (Bool):=
 let d:=(decide (b>=0))
 let e:=(decide (b<=15))
 let f:=(bif d then e else false)
 let g:=(decide (a>=0))
 let h:=(bif f then g else false)
 let i:=(decide (a<=16))
 let j:=(bif h then i else false)
 let k:=(bif j then (a != 1) else false)
 some k
def kt (K:Nat) (d e b:Int):Option (Int × Int):=
 (jl K e b).bind fun h=>
 bif (!h) then
  some (0,1)
 else
  bif (b==0) then
   some (0,0)
  else
   let i:=(wa .i64 (e+1))
   (zo K i).bind fun a=>
   let j:=(decide ((wa .i64 d)>=a))
   (
    bif j then
     let k:=(wa .i64 (a-1))
     some k
    else
     some (wa .i64 d):Option (Int)).bind fun f=>
    let l:=(decide (f<=(wa .i64 (0-a))))
    (
     bif l then
      let m:=(wa .i64 (1-a))
      some m
     else
      some f:Option (Int)).bind fun n=>
     (zo K b).bind fun o=>
     let g:=(wa .i64 (o-1))
     let p:=(wa .i64 (n*g))
     (zv K p a).bind fun q=>
     let s:=(wa .i64 (q+g))
     (zv K s 2).bind fun t=>
     some (t,0)
def wg.r2 (K:Nat) (h:List Int) (d b:Int) (_z:List (List (List Int))) (_A _B n o _D _E _F _G _H _I:Int) (i:List (List Int)) (e:List (List (List Int))) (_J:List (List Int)) (_L:List Int) (_M:List (List (List Int))) (next:Int->List Int->Option ((List Int))) (a:Int) (f:List Int):Option ((List Int)):=
 let p:=(decide (a<o))
 bif p then
  gd ((0:Int)<=b/\b<(e.length:Int)) <|
  let j:=(Kd.nth (.slice (.slice (.int .i32))) e (Int.toNat b))
  gd ((Int.toNat b)<e.length) <|
  let k:=(Kd.nth (.slice (.int .i32)) j (Int.toNat d))
  gd ((0:Int)<=d/\d<(j.length:Int)) <|
  let q:=(Kd.nth (.int .i32) k (Int.toNat a))
  gd ((0:Int)<=a/\a<(k.length:Int)) <|
  let l:=(Kd.nth (.slice (.int .i64)) i (Int.toNat b))
  gd ((0:Int)<=b/\b<(i.length:Int)) <|
  let s:=(Kd.nth (.int .i64) l (Int.toNat a))
  gd ((0:Int)<=a/\a<(l.length:Int)) <|
  let t:=(wa .i64 (a*n))
  let g:=(wa .i64 (t+b))
  let u:=(Kd.nth (.int .i64) h (Int.toNat g))
  gd ((0:Int)<=g/\g<(h.length:Int)) <|
  (kt K q s u).bind fun (m,_N)=>
  let w:=(f++[m])
  gd (((f.length:Int)+([m].length:Int))*8<=70368744177664) <|
  let y:=(wa .i64 (a+1))
  next y w
 else
  some f
def wg.l2 (K:Nat) (a:List Int) (b d:Int) (e:List (List (List Int))) (f g h i j k l m o p:Int) (q:List (List Int)) (s:List (List (List Int))) (t:List (List Int)) (u:List Int) (w:List (List (List Int))) (n:Nat):Int->List Int->Option ((List Int)):=wo (wg.r2 K a b d e f g h i j k l m o p q s t u w) (fun _ _=>none) n
def wg.r1 (K:Nat) (f:List Int) (g:Int) (h:List (List (List Int))) (i j d k l m n o p q:Int) (s:List (List Int)) (t:List (List (List Int))) (u:List Int) (w:List (List (List Int))) (next:Int->List (List Int)->Option ((List (List Int)))) (b:Int) (a:List (List Int)):Option ((List (List Int))):=
 let y:=(decide (b<d))
 bif y then
  (wg.l2 K f g b h i j d k l m n o p q s t a u w K 0 ([]:List Int):Option ((List Int))).bind fun e=>
   let z:=(a++[e])
   gd (((a.length:Int)+([e].length:Int))*24<=70368744177664) <|
   let A:=(wa .i64 (b+1))
   next A z
 else
  some a
def wg.l1 (K:Nat) (a:List Int) (b:Int) (d:List (List (List Int))) (e f g h i j k l m o:Int) (p:List (List Int)) (q:List (List (List Int))) (s:List Int) (t:List (List (List Int))) (n:Nat):Int->List (List Int)->Option ((List (List Int))):=wo (wg.r1 K a b d e f g h i j k l m o p q s t) (fun _ _=>none) n
def wg.r0 (K:Nat) (f:List Int) (g:List (List (List Int))) (h i j k d l m n o p:Int) (q:List (List Int)) (s:List (List (List Int))) (t:List Int) (next:Int->List (List (List Int))->Option ((List (List (List Int))))) (b:Int) (a:List (List (List Int))):Option ((List (List (List Int)))):=
 let u:=(decide (b<d))
 bif u then
  (wg.l1 K f b g h i j k d l m n o p q s t a K 0 ([]:List (List Int)):Option ((List (List Int)))).bind fun e=>
   let w:=(a++[e])
   gd (((a.length:Int)+([e].length:Int))*24<=70368744177664) <|
   let y:=(wa .i64 (b+1))
   next y w
 else
  some a
def wg.l0 (K:Nat) (a:List Int) (b:List (List (List Int))) (d e f g h i j k l m:Int) (o:List (List Int)) (p:List (List (List Int))) (q:List Int) (n:Nat):Int->List (List (List Int))->Option ((List (List (List Int)))):=wo (wg.r0 K a b d e f g h i j k l m o p q) (fun _ _=>none) n
def wg.r5 (_K:Nat) (b d:Int) (_p:List (List (List Int))) (_q _s _t _u j _w _y _z _A _B:Int) (e:List (List (List Int))) (_D _E:List Int) (_F:List (List Int)) (next:Int->Int->Option (Int)) (f a:Int):Option (Int):=
 let k:=(decide (a<j))
 bif k then
  let g:=(Kd.nth (.slice (.slice (.int .i32))) e (Int.toNat b))
  let h:=(Kd.nth (.slice (.int .i32)) g (Int.toNat a))
  let l:=(Kd.nth (.int .i32) h (Int.toNat d))
  let i:=(wa .i64 l)
  gd ((0:Int)<=b/\b<(e.length:Int)/\(Int.toNat b)<e.length/\(0:Int)<=a/\a<(g.length:Int)/\(0:Int)<=d/\d<(h.length:Int)) <|
  let m:=(wa .i64 (0-i))
  let n:=(imax (imax f i) m)
  let o:=(wa .i64 (a+1))
  next n o
 else
  some f
def wg.l5 (K:Nat) (a b:Int) (d:List (List (List Int))) (e f g h i j k l m o:Int) (p:List (List (List Int))) (q s:List Int) (t:List (List Int)) (n:Nat):Int->Int->Option (Int):=wo (wg.r5 K a b d e f g h i j k l m o p q s t) (fun _ _=>none) n
def wg.r4 (K:Nat) (f:Int) (g:List (List (List Int))) (h i j d k l m n o p:Int) (q:List (List (List Int))) (s:List Int) (t:List (List Int)) (next:Int->List Int->Option ((List Int))) (b:Int) (a:List Int):Option ((List Int)):=
 let u:=(decide (b<d))
 bif u then
  (wg.l5 K f b g h i j d k l m n o p q a s t K 0 0:Option (Int)).bind fun w=>
   (zM K w).bind fun e=>
   let y:=(a++[e])
   gd (((a.length:Int)+([e].length:Int))*8<=70368744177664) <|
   let z:=(wa .i64 (b+1))
   next z y
 else
  some a
def wg.l4 (K:Nat) (a:Int) (b:List (List (List Int))) (d e f g h i j k l m:Int) (o:List (List (List Int))) (p:List Int) (q:List (List Int)) (n:Nat):Int->List Int->Option ((List Int)):=wo (wg.r4 K a b d e f g h i j k l m o p q) (fun _ _=>none) n
def wg.r3 (K:Nat) (f:List (List (List Int))) (g h d i j k l m n o:Int) (p:List (List (List Int))) (q:List Int) (next:Int->List (List Int)->Option ((List (List Int)))) (b:Int) (a:List (List Int)):Option ((List (List Int))):=
 let s:=(decide (b<d))
 bif s then
  (wg.l4 K b f g h d i j k l m n o p q a K 0 ([]:List Int):Option ((List Int))).bind fun e=>
   let t:=(a++[e])
   gd (((a.length:Int)+([e].length:Int))*24<=70368744177664) <|
   let u:=(wa .i64 (b+1))
   next u t
 else
  some a
def wg.l3 (K:Nat) (a:List (List (List Int))) (b d e f g h i j k l:Int) (m:List (List (List Int))) (o:List Int) (n:Nat):Int->List (List Int)->Option ((List (List Int))):=wo (wg.r3 K a b d e f g h i j k l m o) (fun _ _=>none) n
def wg.r8 (_K:Nat) (h i:List (List Int)) (d b:Int) (f:List (List (List Int))) (_D _E _F p _G _H _I _J _L _M:Int) (_N:List (List (List Int))) (_O:List (List Int)) (e:List Int) (next:Int->List Int->Option ((List Int))) (a:Int) (g:List Int):Option ((List Int)):=
 let q:=(decide (a<p))
 bif q then
  let j:=(Kd.nth (.slice (.slice (.int .i32))) f (Int.toNat d))
  let k:=(Kd.nth (.slice (.int .i32)) j (Int.toNat b))
  let s:=(Kd.nth (.int .i32) k (Int.toNat a))
  gd ((0:Int)<=d/\d<(f.length:Int)/\(Int.toNat d)<f.length/\(0:Int)<=b/\b<(j.length:Int)/\(0:Int)<=a/\a<(k.length:Int)) <|
  let l:=(Kd.nth (.int .i64) e (Int.toNat a))
  let t:=(bif (l==1) then (d==0) else false)
  gd ((0:Int)<=a/\a<(e.length:Int)/\(Int.toNat a)<e.length) <|
  (
   bif t then
    let m:=(Kd.nth (.slice (.int .i32)) h (Int.toNat b))
    let u:=(Kd.nth (.int .i32) m (Int.toNat a))
    gd ((0:Int)<=b/\b<(h.length:Int)/\(0:Int)<=a/\a<(m.length:Int)) <|
    some u
   else
    some s:Option (Int)).bind fun w=>
   let y:=(bif (l==1) then (d==1) else false)
   gd ((0:Int)<=a/\a<(e.length:Int)/\(Int.toNat a)<e.length) <|
   (
    bif y then
     let n:=(Kd.nth (.slice (.int .i32)) i (Int.toNat b))
     let z:=(Kd.nth (.int .i32) n (Int.toNat a))
     gd ((0:Int)<=b/\b<(i.length:Int)/\(0:Int)<=a/\a<(n.length:Int)) <|
     some z
    else
     some w:Option (Int)).bind fun o=>
    let A:=(g++[o])
    gd (((g.length:Int)+([o].length:Int))*4<=70368744177664) <|
    let B:=(wa .i64 (a+1))
    next B A
 else
  some g
def wg.l8 (K:Nat) (a b:List (List Int)) (d e:Int) (f:List (List (List Int))) (g h i j k l m o p q:Int) (s:List (List (List Int))) (t:List (List Int)) (u:List Int) (n:Nat):Int->List Int->Option ((List Int)):=wo (wg.r8 K a b d e f g h i j k l m o p q s t u) (fun _ _=>none) n
def wg.r7 (K:Nat) (f g:List (List Int)) (h:Int) (i:List (List (List Int))) (j k l m d n o p q s:Int) (t:List (List (List Int))) (u:List Int) (next:Int->List (List Int)->Option ((List (List Int)))) (b:Int) (a:List (List Int)):Option ((List (List Int))):=
 let w:=(decide (b<d))
 bif w then
  (wg.l8 K f g h b i j k l m d n o p q s t a u K 0 ([]:List Int):Option ((List Int))).bind fun e=>
   let y:=(a++[e])
   gd (((a.length:Int)+([e].length:Int))*24<=70368744177664) <|
   let z:=(wa .i64 (b+1))
   next z y
 else
  some a
def wg.l7 (K:Nat) (a b:List (List Int)) (d:Int) (e:List (List (List Int))) (f g h i j k l m o p:Int) (q:List (List (List Int))) (s:List Int) (n:Nat):Int->List (List Int)->Option ((List (List Int))):=wo (wg.r7 K a b d e f g h i j k l m o p q s) (fun _ _=>none) n
def wg.r6 (K:Nat) (f g:List (List Int)) (h:List (List (List Int))) (i j d k l m n o p q:Int) (s:List Int) (next:Int->List (List (List Int))->Option ((List (List (List Int))))) (b:Int) (a:List (List (List Int))):Option ((List (List (List Int)))):=
 let t:=(decide (b<d))
 bif t then
  (wg.l7 K f g b h i j d k l m n o p q a s K 0 ([]:List (List Int)):Option ((List (List Int)))).bind fun e=>
   let u:=(a++[e])
   gd (((a.length:Int)+([e].length:Int))*24<=70368744177664) <|
   let w:=(wa .i64 (b+1))
   next w u
 else
  some a
def wg.l6 (K:Nat) (a b:List (List Int)) (d:List (List (List Int))) (e f g h i j k l m o:Int) (p:List Int) (n:Nat):Int->List (List (List Int))->Option ((List (List (List Int)))):=wo (wg.r6 K a b d e f g h i j k l m o p) (fun _ _=>none) n
def wg.r9 (_K:Nat) (_k _l:List (List Int)) (d:List (Bool)) (_m:List (List (List Int))) (_n _o _p e _q _s _t _u _w _y:Int) (next:Int->List Int->Option ((List Int))) (a:Int) (b:List Int):Option ((List Int)):=
 let f:=(decide (a<e))
 bif f then
  (
   let g:=(Kd.nth (.bool) d (Int.toNat a))
   gd ((0:Int)<=a/\a<(d.length:Int)) <|
   bif g then
    let h:=(List.set b (Int.toNat a) 1)
    gd ((0:Int)<=a/\a<(b.length:Int)/\(Int.toNat a)<b.length) <|
    some h
   else
    some b:Option ((List Int))).bind fun i=>
   let j:=(wa .i64 (a+1))
   next j i
 else
  some b
def wg.l9 (K:Nat) (a b:List (List Int)) (d:List (Bool)) (e:List (List (List Int))) (f g h i j k l m o p:Int) (n:Nat):Int->List Int->Option ((List Int)):=wo (wg.r9 K a b d e f g h i j k l m o p) (fun _ _=>none) n
def wg (K:Nat) (e f g b h i d j k l:Int) (a:List (List (List Int))):Option ((List Int) × (List (List Int)) × (List (List (List Int)))):=
 let o:=(List.replicate (Int.toNat b) (0:Int))
 gd ((0:Int)<=b/\b<=b/\b*8<=140737488355328) <|
 (
  bif (d==1) then
   gd (0<(a.length:Int)) <|
   let p:=(Kd.nth (.slice (.slice (.int .i32))) a 0)
   gd (0<a.length) <|
   gd (1<(a.length:Int)) <|
   let q:=(Kd.nth (.slice (.slice (.int .i32))) a 1)
   gd (1<a.length) <|
   (w6 K p q).bind fun (s,t)=>
   gd (0<(a.length:Int)) <|
   gd (0<a.length) <|
   gd (1<(a.length:Int)) <|
   gd (1<a.length) <|
   (qf K p q).bind fun w=>
   (wg.l9 K s t w a e f g b h i d j k l K 0 o:Option ((List Int))).bind fun y=>
    some (s,t,y)
  else
   some ((([]:List (List Int)),([]:List (List Int)),o)):Option ((List (List Int)) × (List (List Int)) × (List Int))).bind fun (z,A,m)=>
  (wg.l6 K z A a e f g b h i d j k l m K 0 ([]:List (List (List Int))):Option ((List (List (List Int))))).bind fun u=>
   (wg.l3 K a e f g b h i d j k l u m K 0 ([]:List (List Int)):Option ((List (List Int)))).bind fun n=>
    (wj K e f g b h i d j k l n).bind fun B=>
    (wg.l0 K B a e f g b h i d j k l n u m K 0 ([]:List (List (List Int))):Option ((List (List (List Int))))).bind fun D=>
     some (m,n,D)
def wT.r0 (_K:Nat) (e:Int) (next:Int->List Int->Option ((List Int))) (a:Int) (b:List Int):Option ((List Int)):=
 let f:=(decide (a>=0))
 bif f then
  let g:=(kshr .i64 e (wa .u64 a))
  let d:=(Int.tmod g 2)
  let h:=(b++[d])
  gd ((0:Int)<=(wa .u64 a)/\((b.length:Int)+([d].length:Int))*8<=70368744177664) <|
  let i:=(wa .i64 (a-1))
  next i h
 else
  some b
def wT.l0 (K:Nat) (a:Int) (n:Nat):Int->List Int->Option ((List Int)):=wo (wT.r0 K a) (fun _ _=>none) n
def wT (K:Nat) (a b:Int):Option ((List Int)):=
 let d:=(wa .i64 (b-1))
 (wT.l0 K a K d ([]:List Int):Option ((List Int))).bind fun e=>
  some e
def qT (K:Nat) (_w h i j k d l m _y _z:Int):Option ((List Int)):=
 (wT K h 2).bind fun a=>
 let n:=(wa .i64 (Int.tdiv k 4))
 let o:=(wa .i64 (n-1))
 (wT K o 2).bind fun b=>
 gd (((a.length:Int)+(b.length:Int))*8<=70368744177664) <|
 (
  bif (i==1) then
   let p:=((a++b)++[0,0])
   gd ((((a++b).length:Int)+([0,0].length:Int))*8<=70368744177664) <|
   some p
  else
   bif (l==0) then
    let q:=((a++b)++[1,0])
    gd ((((a++b).length:Int)+([1,0].length:Int))*8<=70368744177664) <|
    some q
   else
    let s:=((a++b)++[1,1])
    gd ((((a++b).length:Int)+([1,1].length:Int))*8<=70368744177664) <|
    some s:Option ((List Int))).bind fun e=>
  gd (((e.length:Int)+([d].length:Int))*8<=70368744177664) <|
  (
   bif (j==8) then
    let t:=((e++[d])++[1])
    gd ((((e++[d]).length:Int)+([1].length:Int))*8<=70368744177664) <|
    some t
   else
    let u:=((e++[d])++[0])
    gd ((((e++[d]).length:Int)+([0].length:Int))*8<=70368744177664) <|
    some u:Option ((List Int))).bind fun f=>
   (wT K m 8).bind fun g=>
   gd (((f.length:Int)+(g.length:Int))*8<=70368744177664) <|
   some (f++g)
def wY.r1 (_K:Nat) (g _m _n:Int) (a _o:List Int) (next:Int->Int->Option (Int)) (e b:Int):Option (Int):=
 let h:=(decide (b<8))
 bif h then
  let i:=(wa .i64 (2*e))
  let d:=(wa .i64 (g+b))
  let f:=(Int.toNat d)
  let j:=(Kd.nth (.int .i64) a f)
  let k:=(wa .i64 (i+j))
  gd ((0:Int)<=d/\d<(a.length:Int)/\f<a.length) <|
  let l:=(wa .i64 (b+1))
  next k l
 else
  some e
def wY.l1 (K:Nat) (a b d:Int) (e f:List Int) (n:Nat):Int->Int->Option (Int):=wo (wY.r1 K a b d e f) (fun _ _=>none) n
def wY.r0 (K:Nat) (f g:Int) (d:List Int) (next:Int->List Int->Option ((List Int))) (b:Int) (a:List Int):Option ((List Int)):=
 let h:=(decide (b<(d.length:Int)))
 bif h then
  (wY.l1 K b f g d a K 0 0:Option (Int)).bind fun i=>
   let e:=[(wa .u8 i)]
   gd (((a.length:Int)+(e.length:Int))*1<=70368744177664) <|
   let j:=(wa .i64 (b+8))
   next j (a++e)
 else
  some a
def wY.l0 (K:Nat) (a b:Int) (d:List Int) (n:Nat):Int->List Int->Option ((List Int)):=wo (wY.r0 K a b d) (fun _ _=>none) n
def wY (K:Nat) (a b:Int) (d:List Int):Option ((List Int)):=
 (wY.l0 K a b d K 0 ([]:List Int):Option ((List Int))).bind fun e=>
  some e
def zL.r0 (_K:Nat)  (next:List Int->Option ((List Int))) (a:List Int):Option ((List Int)):=
 let b:=(Int.tmod (a.length:Int) 8)
 bif (b != 0) then
  gd (((a.length:Int)+([0].length:Int))*8<=70368744177664) <|
  next (a++[0])
 else
  some a
def zL.l0 (K:Nat)  (n:Nat):List Int->Option ((List Int)):=wo (zL.r0 K) (fun _=>none) n
def zL (K:Nat) (a:List Int):Option ((List Int)):=
 let b:=(([]:List Int)++a)
 gd (((([]:List Int).length:Int)+(a.length:Int))*8<=70368744177664) <|
 (zL.l0 K K b:Option ((List Int))).bind fun d=>
  (wY K 0 0 d).bind fun e=>
  some e
def jc (_K:Nat) (a:Int):Option (Int × Int × Bool):=
 bif (a==8) then
  some (15,29,true)
 else
  bif (a==16) then
   some (65535,4129,true)
  else
   bif (a==24) then
    some (5592405,1627,true)
   else
    some (0,0,false)
def zj.r1 (_K:Nat) (_o:Int) (_p:List Int) (_q e b _s f:Int) (next:Int->Int->Option (Int)) (a d:Int):Option (Int):=
 let g:=(decide (d<f))
 bif g then
  (
   let h:=(decide (a>=b))
   bif h then
    let i:=(wa .u32 (a-b))
    let j:=(wa .u32 (i*2))
    let k:=(kxor .u32 j e)
    some k
   else
    let l:=(wa .u32 (a*2))
    some l:Option (Int)).bind fun m=>
   let n:=(wa .i64 (d+1))
   next m n
 else
  some a
def zj.l1 (K:Nat) (a:Int) (b:List Int) (d e f g h:Int) (n:Nat):Int->Int->Option (Int):=wo (zj.r1 K a b d e f g h) (fun _ _=>none) n
def zj.r0 (K:Nat) (g:Int) (b:List Int) (e n o:Int) (next:Int->Int->Option (Int)) (h a:Int):Option (Int):=
 let i:=(wa .i64 (8*a))
 let p:=(decide (i<e))
 bif p then
  let q:=(Kd.nth (.int .u8) b (Int.toNat a))
  let j:=(wa .u32 q)
  let s:=(wa .i64 (g-8))
  let d:=(wa .u64 s)
  let t:=(kshl .u32 j d)
  let k:=(kxor .u32 h t)
  gd ((0:Int)<=a/\a<(b.length:Int)/\(0:Int)<=d) <|
  let f:=(wa .i64 (e-i))
  let u:=(decide ((imin f 8)<8))
  (
   bif u then
    let w:=(wa .i64 (8-(imin f 8)))
    let l:=(wa .u64 w)
    let m:=(kshl .u32 1 l)
    let y:=(Int.tmod j m)
    let z:=(kshl .u32 y d)
    let A:=(kxor .u32 k z)
    gd ((0:Int)<=a/\a<(b.length:Int)/\(0:Int)<=l/\m≠0/\(0:Int)<=d) <|
    some A
   else
    some k:Option (Int)).bind fun B=>
   (zj.l1 K g b e n o a (imin f 8) K B 0:Option (Int)).bind fun D=>
    let E:=(wa .i64 (a+1))
    next D E
 else
  some h
def zj.l0 (K:Nat) (a:Int) (b:List Int) (d e f:Int) (n:Nat):Int->Int->Option (Int):=wo (zj.r0 K a b d e f) (fun _ _=>none) n
def zj (K:Nat) (a:Int) (d:List Int) (e:Int):Option (Int):=
 (jc K a).bind fun (f,g,_k)=>
 let h:=(wa .i64 (a-1))
 let b:=(wa .u64 h)
 let i:=(kshl .u32 1 b)
 gd ((0:Int)<=b) <|
 (zj.l0 K a d e g i K f 0:Option (Int)).bind fun j=>
  some j
def zJ.r0 (_K:Nat)  (next:Int->Option (Int)) (a:Int):Option (Int):=
 let b:=(Int.tmod a 8)
 bif (b != 0) then
  let d:=(wa .i64 (a+1))
  next d
 else
  some a
def zJ.l0 (K:Nat)  (n:Nat):Int->Option (Int):=wo (zJ.r0 K) (fun _=>none) n
def zJ (K:Nat) (a e b f g h i j k d:Int):Option (Int):=
 bif (a==2) then
  let l:=(wa .i64 (d*b))
  some l
 else
  (zK K a e b f g h i j k d).bind fun m=>
  (zJ.l0 K K m:Option (Int)).bind fun n=>
   let o:=(wa .i64 (Int.tdiv n 8))
   some o
def wm.r0 (K:Nat) (b d e f g h i j k l:Int) (next:List Int->Option ((List Int))) (a:List Int):Option ((List Int)):=
 (zJ K b d e f g h i j k l).bind fun m=>
 let n:=(wa .i64 (8*m))
 let o:=(decide ((a.length:Int)<n))
 bif o then
  gd (((a.length:Int)+([0].length:Int))*8<=70368744177664) <|
  next (a++[0])
 else
  some a
def wm.l0 (K:Nat) (a b d e f g h i j k:Int) (n:Nat):List Int->Option ((List Int)):=wo (wm.r0 K a b d e f g h i j k) (fun _=>none) n
def wm.r3 (K:Nat) (g:List Int) (d b _u _w l m _y _z _A _B _D _E:Int) (_F:List Int) (_G:List (List Int)) (h:List (List (List Int))) (next:Int->List Int->Option ((List Int))) (a:Int) (e:List Int):Option ((List Int)):=
 let n:=(decide (a<m))
 bif n then
  let i:=(Kd.nth (.slice (.slice (.int .i64))) h (Int.toNat d))
  gd ((0:Int)<=d/\d<(h.length:Int)) <|
  let j:=(Kd.nth (.slice (.int .i64)) i (Int.toNat b))
  gd ((0:Int)<=b/\b<(i.length:Int)) <|
  let o:=(Kd.nth (.int .i64) j (Int.toNat a))
  gd ((0:Int)<=a/\a<(j.length:Int)) <|
  let p:=(wa .i64 (a*l))
  let f:=(wa .i64 (p+b))
  let q:=(Kd.nth (.int .i64) g (Int.toNat f))
  gd ((0:Int)<=f/\f<(g.length:Int)) <|
  (wT K o q).bind fun k=>
  let s:=(e++k)
  gd (((e.length:Int)+(k.length:Int))*8<=70368744177664) <|
  let t:=(wa .i64 (a+1))
  next t s
 else
  some e
def wm.l3 (K:Nat) (a:List Int) (b d e f g h i j k l m o:Int) (p:List Int) (q:List (List Int)) (s:List (List (List Int))) (n:Nat):Int->List Int->Option ((List Int)):=wo (wm.r3 K a b d e f g h i j k l m o p q s) (fun _ _=>none) n
def wm.r2 (K:Nat) (e:List Int) (f g h b i j k l m n o:Int) (p:List Int) (q:List (List Int)) (s:List (List (List Int))) (next:Int->List Int->Option ((List Int))) (a:Int) (d:List Int):Option ((List Int)):=
 let t:=(decide (a<b))
 bif t then
  (wm.l3 K e f a g h b i j k l m n o p q s K 0 d:Option ((List Int))).bind fun u=>
   let w:=(wa .i64 (a+1))
   next w u
 else
  some d
def wm.l2 (K:Nat) (a:List Int) (b d e f g h i j k l m:Int) (o:List Int) (p:List (List Int)) (q:List (List (List Int))) (n:Nat):Int->List Int->Option ((List Int)):=wo (wm.r2 K a b d e f g h i j k l m o p q) (fun _ _=>none) n
def wm.r1 (K:Nat) (e:List Int) (f g h i b j k l m n:Int) (o:List Int) (p:List (List Int)) (q:List (List (List Int))) (next:Int->List Int->Option ((List Int))) (a:Int) (d:List Int):Option ((List Int)):=
 let s:=(decide (a<b))
 bif s then
  (wm.l2 K e a f g h i b j k l m n o p q K 0 d:Option ((List Int))).bind fun t=>
   let u:=(wa .i64 (a+1))
   next u t
 else
  some d
def wm.l1 (K:Nat) (a:List Int) (b d e f g h i j k l:Int) (m:List Int) (o:List (List Int)) (p:List (List (List Int))) (n:Nat):Int->List Int->Option ((List Int)):=wo (wm.r1 K a b d e f g h i j k l m o p) (fun _ _=>none) n
def wm.r5 (K:Nat) (b _m _n _o h _p _q _s _t _u _w:Int) (_y:List Int) (e:List (List Int)) (_z:List (List (List Int))) (next:Int->List Int->Option ((List Int))) (a:Int) (d:List Int):Option ((List Int)):=
 let i:=(decide (a<h))
 bif i then
  let f:=(Kd.nth (.slice (.int .i64)) e (Int.toNat b))
  let j:=(Kd.nth (.int .i64) f (Int.toNat a))
  gd ((0:Int)<=b/\b<(e.length:Int)/\(0:Int)<=a/\a<(f.length:Int)) <|
  (wT K j 4).bind fun g=>
  let k:=(d++g)
  gd (((d.length:Int)+(g.length:Int))*8<=70368744177664) <|
  let l:=(wa .i64 (a+1))
  next l k
 else
  some d
def wm.l5 (K:Nat) (a b d e f g h i j k l:Int) (m:List Int) (o:List (List Int)) (p:List (List (List Int))) (n:Nat):Int->List Int->Option ((List Int)):=wo (wm.r5 K a b d e f g h i j k l m o p) (fun _ _=>none) n
def wm.r4 (K:Nat) (e f b g h i j k l m:Int) (n:List Int) (o:List (List Int)) (p:List (List (List Int))) (next:Int->List Int->Option ((List Int))) (a:Int) (d:List Int):Option ((List Int)):=
 let q:=(decide (a<b))
 bif q then
  (wm.l5 K a e f b g h i j k l m n o p K 0 d:Option ((List Int))).bind fun s=>
   let t:=(wa .i64 (a+1))
   next t s
 else
  some d
def wm.l4 (K:Nat) (a b d e f g h i j k:Int) (l:List Int) (m:List (List Int)) (o:List (List (List Int))) (n:Nat):Int->List Int->Option ((List Int)):=wo (wm.r4 K a b d e f g h i j k l m o) (fun _ _=>none) n
def wm (K:Nat) (b d e f g h a i j k:Int) (l:List Int) (n:List (List Int)) (o:List (List (List Int))):Option (ByteArray):=
 (
  bif (a==1) then
   gd ((l.length:Int)*8<=70368744177664) <|
   some l
  else
   some (([]:List Int)):Option ((List Int))).bind fun z=>
  (wm.l4 K b d e f g h a i j k l n o K 0 z:Option ((List Int))).bind fun m=>
   (qT K b d e f g h a i j k).bind fun p=>
   let q:=(p++m)
   gd (((p.length:Int)+(m.length:Int))*8<=70368744177664) <|
   (zL K q).bind fun A=>
   let B:=(q.length:Int)
   (zj K 8 A B).bind fun D=>
   (wT K 156 8).bind fun s=>
   (qT K b d e f g h a i j k).bind fun t=>
   let u:=(s++t)
   gd (((s.length:Int)+(t.length:Int))*8<=70368744177664) <|
   (wT K (wa .i64 D) 8).bind fun w=>
   let y:=(u++w)
   gd (((u.length:Int)+(w.length:Int))*8<=70368744177664) <|
   let E:=(y++m)
   gd (((y.length:Int)+(m.length:Int))*8<=70368744177664) <|
   (wj K b d e f g h a i j k n).bind fun F=>
   (wm.l1 K F b d e f g h a i j k l n o K 0 E:Option ((List Int))).bind fun G=>
    (wm.l0 K b d e f g h a i j k K G:Option ((List Int))).bind fun H=>
     (zL K H).bind fun I=>
     some (bstr I)
def wE.r1 (K:Nat) (_l:List (List Int)) (_m _n:Int) (b:List (List Int)) (_o _p _q h _s _t _u _w _y _z:Int) (_A:List (List (List Int))) (next:Int->List (List Int)->Option ((List (List Int)))) (d:Int) (e:List (List Int)):Option ((List (List Int))):=
 let i:=(decide (d<(b.length:Int)))
 bif i then
  let f:=(wa .i64 (d-9))
  let a:=(wa .i64 (d+1))
  let j:=((b.take (Int.toNat a)).drop (Int.toNat (imax f 0)))
  gd ((0:Int)<=(imax f 0)/\(imax f 0)<=a/\a<=(b.length:Int)) <|
  (wd K j h).bind fun g=>
  let k:=(e++[g])
  gd (((e.length:Int)+([g].length:Int))*24<=70368744177664) <|
  next a k
 else
  some e
def wE.l1 (K:Nat) (a:List (List Int)) (b d:Int) (e:List (List Int)) (f g h i j k l m o p:Int) (q:List (List (List Int))) (n:Nat):Int->List (List Int)->Option ((List (List Int))):=wo (wE.r1 K a b d e f g h i j k l m o p q) (fun _ _=>none) n
def wE.r3 (_K:Nat) (_k:List (List Int)) (g _l _m:Int) (e:List Int) (_n _o _p h _q _s _t _u _w _y:Int) (_z:List (List (List Int))) (next:Int->List (List Int)->Option ((List (List Int)))) (a:Int) (d:List (List Int)):Option ((List (List Int))):=
 let i:=(decide (a<g))
 bif i then
  let b:=(wa .i64 (a+h))
  let f:=((e.take (Int.toNat b)).drop (Int.toNat a))
  let j:=(d++[f])
  gd ((0:Int)<=a/\a<=b/\b<=(e.length:Int)/\((d.length:Int)+([f].length:Int))*24<=70368744177664) <|
  next b j
 else
  some d
def wE.l3 (K:Nat) (a:List (List Int)) (b d e:Int) (f:List Int) (g h i j k l m o p q:Int) (s:List (List (List Int))) (n:Nat):Int->List (List Int)->Option ((List (List Int))):=wo (wE.r3 K a b d e f g h i j k l m o p q s) (fun _ _=>none) n
def wE.r2 (K:Nat) (b:List (List Int)) (g d h i e j k l m n o p:Int) (q:List (List (List Int))) (next:Int->List (List Int)->Option ((List (List Int)))) (a:Int) (f:List (List Int)):Option ((List (List Int))):=
 let s:=(decide (a<(b.length:Int)))
 bif s then
  let t:=(Kd.nth (.slice (.int .i16)) b (Int.toNat a))
  gd ((0:Int)<=a/\a<(b.length:Int)) <|
  (zW K t d e).bind fun u=>
  (wE.l3 K b g d a u h i e j k l m n o p q K 0 f:Option ((List (List Int)))).bind fun w=>
   let y:=(wa .i64 (a+1))
   next y w
 else
  some f
def wE.l2 (K:Nat) (a:List (List Int)) (b d e f g h i j k l m o:Int) (p:List (List (List Int))) (n:Nat):Int->List (List Int)->Option ((List (List Int))):=wo (wE.r2 K a b d e f g h i j k l m o p) (fun _ _=>none) n
def wE.r0 (K:Nat) (f:List (List Int)) (g h i d j e k l m n o:Int) (next:Int->List (List (List Int))->Option ((List (List (List Int))))) (b:Int) (a:List (List (List Int))):Option ((List (List (List Int)))):=
 let s:=(decide (b<d))
 bif s then
  (wE.l2 K f g b h i d j e k l m n o a K 0 ([]:List (List Int)):Option ((List (List Int)))).bind fun p=>
   let t:=(wa .i64 ((p.length:Int)-e))
   (wE.l1 K f g b p h i d j e k l m n o a K t ([]:List (List Int)):Option ((List (List Int)))).bind fun q=>
    let u:=(a++[q])
    gd (((a.length:Int)+([q].length:Int))*24<=70368744177664) <|
    let w:=(wa .i64 (b+1))
    next w u
 else
  some a
def wE.l0 (K:Nat) (a:List (List Int)) (b d e f g h i j k l m:Int) (n:Nat):Int->List (List (List Int))->Option ((List (List (List Int)))):=wo (wE.r0 K a b d e f g h i j k l m) (fun _ _=>none) n
def wE (K:Nat) (d e f a b g h i j k:Int) (l:List (List Int)):Option (ByteArray):=
 let m:=(wa .i64 (a*b))
 (wE.l0 K l m d e f a b g h i j k K 0 ([]:List (List (List Int))):Option ((List (List (List Int))))).bind fun n=>
  (wg K d e f a b g h i j k n).bind fun (o,p,q)=>
  (wm K d e f a b g h i j k o p q).bind fun s=>
  some s
def qp (K:Nat) (a b d e f g h i j k:Int) (l:List (List Int)):Option (ByteArray):=
 wE K a b d e f g h i j k l
def psalterylaw14_SubFrames.r0 (K:Nat) (a:List Int) (b _k _l _m _n _o _p _q _s _t _u:Int) (_next:Option ((Unit) ⊕ (Bool)))  : Option ((Unit) ⊕ (Bool)):=
 let e:=(decide (0<(a.length:Int)))
 let f:=(wa .i64 (3*b))
 let g:=(decide (0<f))
 let h:=(bif e then g else false)
 bif h then
  let i:=(List.replicate (Int.toNat b) (0:Int))
  gd ((0:Int)<=b/\b<=b/\b*2<=140737488355328) <|
  let j:=((a.take (Int.toNat (a.length:Int))).drop (Int.toNat 0))
  let d:=(cpy 0 i j)
  gd (0<=(a.length:Int)/\(a.length:Int)<=(a.length:Int)) <|
  gd (([d].length:Int)*24<=70368744177664) <|
  (qm K d).bind fun _w=>
  some (.inr false)
 else
  some (.inl ())
def psalterylaw14_SubFrames.l0 (K:Nat) (a:List Int) (b d e f g h i j k l m:Int) (n:Nat):Option ((Unit) ⊕ (Bool)):=wo (psalterylaw14_SubFrames.r0 K a b d e f g h i j k l m) (none) n
def psalterylaw14_SubFrames.r1 (K:Nat) (b:List Int) (a g h s i j k l m n o t:Int) (u w:List Int) (next:Int->List (List Int)->List Int->Option ((Unit) ⊕ (Bool))) (d:Int) (p:List (List Int)) (y:List Int):Option ((Unit) ⊕ (Bool)):=
 let z:=(decide (d<(b.length:Int)))
 let A:=(wa .i64 (3*a))
 let B:=(decide (d<A))
 let D:=(bif z then B else false)
 bif D then
  let E:=(List.replicate (Int.toNat a) (0:Int))
  gd ((0:Int)<=a/\a<=a/\a*2<=140737488355328) <|
  let F:=((b.take (Int.toNat (b.length:Int))).drop (Int.toNat d))
  let e:=(cpy 0 E F)
  gd ((0:Int)<=d/\d<=(b.length:Int)/\(b.length:Int)<=(b.length:Int)) <|
  let q:=(p++[e])
  gd (((p.length:Int)+([e].length:Int))*24<=70368744177664) <|
  (wD K e g h 1 i j k l m n o t u w y).bind fun (G,f,H)=>
  (
   bif (f != 0) then
    let I:=(bif (f != 0) then true else false)
    some I
   else
    (qp K g h s i j k l m n o q).bind fun J=>
    let L:=(!(beqs (bstr G) J))
    let M:=(bif (f != 0) then true else L)
    some M:Option (Bool)).bind fun N=>
   bif N then
    some (.inr false)
   else
    let O:=(wa .i64 (d+a))
    next O q H
 else
  some (.inl ())
def psalterylaw14_SubFrames.l1 (K:Nat) (a:List Int) (b d e f g h i j k l m o:Int) (p q:List Int) (n:Nat):Int->List (List Int)->List Int->Option ((Unit) ⊕ (Bool)):=wo (psalterylaw14_SubFrames.r1 K a b d e f g h i j k l m o p q) (fun _ _ _=>none) n
def psalterylaw14_SubFrames.r2 (K:Nat) (b:List Int) (a g h s i j k l m n o t:Int) (u w:List Int) (y:Int) (z A:List Int) (next:Int->List (List Int)->List Int->List Int->Option ((Unit) ⊕ (Bool))) (d:Int) (p:List (List Int)) (B D:List Int):Option ((Unit) ⊕ (Bool)):=
 let E:=(decide (d<(b.length:Int)))
 let F:=(wa .i64 (3*a))
 let G:=(decide (d<F))
 let H:=(bif E then G else false)
 bif H then
  let I:=(List.replicate (Int.toNat a) (0:Int))
  gd ((0:Int)<=a/\a<=a/\a*2<=140737488355328) <|
  let J:=((b.take (Int.toNat (b.length:Int))).drop (Int.toNat d))
  let e:=(cpy 0 I J)
  gd ((0:Int)<=d/\d<=(b.length:Int)/\(b.length:Int)<=(b.length:Int)) <|
  let q:=(p++[e])
  gd (((p.length:Int)+([e].length:Int))*24<=70368744177664) <|
  (wx K e g h 2 i j k l m n o t u w y z A B D).bind fun (L,f,M,N)=>
  (
   bif (f != 0) then
    let O:=(bif (f != 0) then true else false)
    some O
   else
    (qp K g h s i j k l m n o q).bind fun P=>
    let Q:=(!(beqs (bstr L) P))
    let R:=(bif (f != 0) then true else Q)
    some R:Option (Bool)).bind fun S=>
   bif S then
    some (.inr false)
   else
    let T:=(wa .i64 (d+a))
    next T q M N
 else
  some (.inl ())
def psalterylaw14_SubFrames.l2 (K:Nat) (a:List Int) (b d e f g h i j k l m o:Int) (p q:List Int) (s:Int) (t u:List Int) (n:Nat):Int->List (List Int)->List Int->List Int->Option ((Unit) ⊕ (Bool)):=wo (psalterylaw14_SubFrames.r2 K a b d e f g h i j k l m o p q s t u) (fun _ _ _ _=>none) n
def psalterylaw14_SubFrames (K:Nat) (b d a e f g h i j k:Int) (l:List Int):Option (Bool):=
 (kw K ).bind fun n=>
 bif (!n) then
  some false
 else
  (yw K ).bind fun _=>
  (wJ K b d a e f g h i j k (List.replicate 388 none) 0 0).bind fun z=>match z with
  | .inl m=>
   (qy K b d a e f g h i j k).bind fun o=>
   bif (!o) then
    some (m==110)
   else
    let p:=(decide ((l.length:Int)>700))
    let q:=(bif (m != 0) then true else p)
    bif q then
     some (m==0)
    else
     (qa K b d a e f g h i j k).bind fun s=>
     let t:=(wa .i64 (a*s))
     (psalterylaw14_SubFrames.l0 K l t b d a e f g h i j k K  : Option ((Unit) ⊕ (Bool))).bind fun z=>match z with
     | .inl _=>
      some true
     | .inr r=>
      some r
  | .inr (.inl (_T,_U,_V,u,w,y,A))=>
   (qy K b d a e f g h i j k).bind fun B=>
   bif (!B) then
    some false
   else
    let D:=(decide ((l.length:Int)>700))
    bif D then
     some true
    else
     (qa K b d a e f g h i j k).bind fun E=>
     let F:=(wa .i64 (a*E))
     (psalterylaw14_SubFrames.l1 K l F b d a e f g h i j k u w y K 0 ([]:List (List Int)) A:Option ((Unit) ⊕ (Bool))).bind fun z=>match z with
     | .inl _=>
      some true
     | .inr r=>
      some r
  | .inr (.inr (_W,_X,_Y,G,H,I,J,L,M,N,O))=>
   (qy K b d a e f g h i j k).bind fun P=>
   bif (!P) then
    some false
   else
    let Q:=(decide ((l.length:Int)>700))
    bif Q then
     some true
    else
     (qa K b d a e f g h i j k).bind fun R=>
     let S:=(wa .i64 (a*R))
     (psalterylaw14_SubFrames.l2 K l S b d a e f g h i j k G H I J L M K 0 ([]:List (List Int)) N O:Option ((Unit) ⊕ (Bool))).bind fun z=>match z with
     | .inl _=>
      some true
     | .inr r=>
      some r
end Go.Fo
