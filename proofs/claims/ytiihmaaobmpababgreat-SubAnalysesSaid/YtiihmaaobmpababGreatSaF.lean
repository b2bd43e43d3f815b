/- The functions of Go that are reached, as functions of plain values. -/
import Derived.Test.YtiihmaaobmpababGreatJ3
namespace Go.Fo
def Wa (_K:Nat):Option (Unit):=
 some ()
def z7 (_K:Nat)  : Option (Unit):=
 some ()
def za (_K:Nat) (a b d:Int):Option (Bool):=
 let e:=(decide (a>=b))
 let f:=(decide (a<=d))
 let g:=(bif e then f else false)
 some g
def qa.r0 (_K:Nat) (d:Bool) (e:Int) (b:List (Bool)) (next:Int->Option ((Unit) ⊕ (Int))) (a:Int):Option ((Unit) ⊕ (Int)):=
 let f:=(decide (a<e))
 bif f then
  let g:=(Kd.nth (.bool) b (Int.toNat a))
  gd ((0:Int)<=a/\a<(b.length:Int)/\(Int.toNat a)<b.length) <|
  bif (d==g) then
   some (.inr a)
  else
   let h:=(wb .i64 (a+1))
   next h
 else
  some (.inl ())
def qa.l0 (K:Nat) (a:Bool) (b:Int) (d:List (Bool)) (n:Nat):Int->Option ((Unit) ⊕ (Int)):=wq (qa.r0 K a b d) (fun _=>none) n
def qa (K:Nat) (b:Bool) (a:List (Bool)):Option (Int):=
 (qa.l0 K b (a.length:Int) a K 0:Option ((Unit) ⊕ (Int))).bind fun z=>match z with
 | .inl _=>
  some (-1)
 | .inr r=>
  some r
def kl (K:Nat) (a:Bool) (b:List (Bool)):Option (Bool):=
 (qa K a b).bind fun d=>
 let e:=(decide (d>=0))
 some e
def kr (K:Nat) (a:List (Bool)):Option (Bool):=
 (kl K false a).bind fun b=>
 some (!b)
def xt (_K:Nat)  : Option (Unit):=
 some ()
def jD (K:Nat)  : Option ((List Int)):=
 (xt K ).bind fun _=>
 let a:=[(40,(60,(80,120))).1,(40,(60,(80,120))).2.1,(40,(60,(80,120))).2.2.1,(40,(60,(80,120))).2.2.2]
 some a
def wS.r0 (_K:Nat) (b:List Int) (d e:Int) (next:Int->Option ((Unit) ⊕ (Int))) (a:Int):Option ((Unit) ⊕ (Int)):=
 let f:=(decide (a<e))
 bif f then
  let g:=(Kd.nth (.int .i64) b (Int.toNat a))
  gd ((0:Int)<=a/\a<(b.length:Int)) <|
  bif (d==g) then
   some (.inr a)
  else
   let h:=(wb .i64 (a+1))
   next h
 else
  some (.inl ())
def wS.l0 (K:Nat) (a:List Int) (b d:Int) (n:Nat):Int->Option ((Unit) ⊕ (Int)):=wq (wS.r0 K a b d) (fun _=>none) n
def wS (K:Nat) (a:List Int) (b:Int):Option (Int):=
 (wS.l0 K a b (a.length:Int) K 0:Option ((Unit) ⊕ (Int))).bind fun z=>match z with
 | .inl _=>
  some (-1)
 | .inr r=>
  some r
def z5 (K:Nat) (a:List Int) (b:Int):Option (Bool):=
 (wS K a b).bind fun d=>
 let e:=(decide (d>=0))
 some e
def jt (K:Nat) (l n b d e f g h i j:Int):Option (Bool):=
 (za K n 0 3).bind fun o=>
 (za K b 1 2).bind fun p=>
 (kr K [o,p]).bind fun a=>
 bif (l==1) then
  (
   bif a then
    let m:=(bif (d==4) then true else (d==8))
    let k:=(Int.tmod e 4)
    bif (k==0) then
     (za K e 4 16).bind fun q=>
     let s:=(bif (k==0) then q else false)
     (za K f 0 1).bind fun t=>
     let u:=(wb .i64 (b-1))
     (za K g 0 u).bind fun w=>
     let y:=(wb .i64 (16*d))
     let z:=(wb .i64 (y*b))
     let A:=(imin z 250)
     (za K h 2 A).bind fun B=>
     let D:=(bif (i==0) then (j==0) else false)
     let E:=[m,s,t,w,B,D]
     (kr K E).bind fun F=>
     let G:=(bif a then F else false)
     some G
    else
     let H:=(bif (k==0) then false else false)
     (za K f 0 1).bind fun I=>
     let J:=(wb .i64 (b-1))
     (za K g 0 J).bind fun L=>
     let M:=(wb .i64 (16*d))
     let N:=(wb .i64 (M*b))
     let O:=(imin N 250)
     (za K h 2 O).bind fun P=>
     let Q:=(bif (i==0) then (j==0) else false)
     let R:=[m,H,I,L,P,Q]
     (kr K R).bind fun S=>
     let T:=(bif a then S else false)
     some T
   else
    let U:=(bif a then false else false)
    some U:Option (Bool)).bind fun V=>
   some V
 else
  bif (l==2) then
   (
    bif a then
     (jD K ).bind fun W=>
     (z5 K W i).bind fun X=>
     (za K j 20 120).bind fun Y=>
     let Z:=(bif (d==0) then (e==0) else false)
     let aa:=(bif Z then (f==0) else false)
     let ab:=(bif aa then (g==0) else false)
     let ad:=(bif ab then (h==0) else false)
     let ae:=[X,Y,ad]
     (kr K ae).bind fun af=>
     let ag:=(bif a then af else false)
     some ag
    else
     let ah:=(bif a then false else false)
     some ah:Option (Bool)).bind fun ai=>
    some ai
  else
   some false
def xL (_K:Nat) (b _q d a e _s f g _t h:Int):Option (Int):=
 bif (b==2) then
  let i:=(wb .i64 (8*h))
  some i
 else
  let j:=(wb .i64 (f*a))
  let k:=(wb .i64 (32+j))
  let l:=(wb .i64 (4*a))
  let m:=(wb .i64 (l*d))
  let n:=(wb .i64 (k+m))
  let o:=(wb .i64 (e*g))
  let p:=(wb .i64 (n+o))
  some p
def kA (K:Nat) (a e b f g h i j k d:Int):Option (Int):=
 bif (a==2) then
  let l:=(wb .i64 (d*b))
  some l
 else
  (xL K a e b f g h i j k d).bind fun m=>
  let n:=(wb .i64 (m+7))
  let o:=(wb .i64 (Int.tdiv n 8))
  some o
def kz (K:Nat) (a b d e f g h i j k:Int):Option (Int):=
 (
  (jt K a b d e f g h i j k).bind fun l=>
  bif (!l) then
   some true
  else
   (kA K a b d e f g h i j k).bind fun m=>
   let n:=(decide (m>512))
   some n:Option (Bool)).bind fun o=>
  bif o then
   some 110
  else
   some 0
def qG (K:Nat) (a b d e f g h i j k:Int):Option (Int):=
 (kz K a b d e f g h i j k).bind fun l=>
 let m:=(bif (l != 0) then true else (a != 1))
 bif m then
  some 110
 else
  some 0
def zP (_K:Nat) (a:Bool) (_b:List (Option (List Int))) (_d _e:Int):Option ((Unit) ⊕ (Unit)):=
 bif (!a) then
  some (.inl ())
 else
  some (.inr ())
def qI (_K:Nat) (_a _b:List (Option (List Int))) (_d _e:Int):Option (Unit):=
 some ()
def xk (_K:Nat) (d a:Int):Option (Int):=
 let b:=(Int.tmod d a)
 gd (a≠0) <|
 let e:=(decide (b<0))
 (
  bif e then
   let f:=(wb .i64 (b+a))
   some f
  else
   some b:Option (Int)).bind fun g=>
  some g
def yk (K:Nat) (f a:Int):Option (Int × Int):=
 (xk K f a).bind fun g=>
 let b:=(wb .i64 (4*g))
 let d:=(wb .i64 (Int.tdiv b a))
 gd (a≠0) <|
 let e:=(Int.tmod b a)
 gd (a≠0) <|
 let h:=(kand .i64 d 1)
 (
  bif (h==1) then
   let i:=(wb .i64 (a-e))
   some i
  else
   some e:Option (Int)).bind fun j=>
  let k:=(kshl .u64 (wb .u64 j) 30)
  let l:=(wb .u64 (Int.tdiv k (wb .u64 a)))
  gd ((wb .u64 a)≠0) <|
  some (l,d)
def xp (_K:Nat) (a b d:Int):Option (Int):=
 let e:=(decide (a<b))
 bif e then
  some b
 else
  let f:=(decide (a>d))
  bif f then
   some d
  else
   some a
def ju (K:Nat) (b e:Int):Option (Int):=
 (xp K e 0 62).bind fun a=>
 bif (a==0) then
  some b
 else
  let f:=(kshr .i64 b a)
  gd ((0:Int)<=a) <|
  let d:=(wb .i64 (a-1))
  let g:=(kshr .i64 b d)
  gd ((0:Int)<=d) <|
  let h:=(kand .i64 g 1)
  let i:=(wb .i64 (f+h))
  some i
def qp (_K:Nat) (a b d:Int):Option (Int):=
 let e:=(decide (a<b))
 bif e then
  some b
 else
  let f:=(decide (a>d))
  bif f then
   some d
  else
   some a
def ya (K:Nat) (a b d:Int):Option (Int):=
 (qp K a b d).bind fun e=>
 some e
def jw.r0 (_K:Nat) (_k _l d:Int) (next:Int->Int->Option (Int)) (b a:Int):Option (Int):=
 let e:=(decide (a<4))
 bif e then
  let f:=(List.getD [5026995,85569306,693598668,1686629713] (Int.toNat a) 0)
  gd ((0:Int)<=a/\a<4) <|
  let g:=(wb .u64 (b*d))
  let h:=(kshr .u64 g 30)
  let i:=(wb .u64 (f-h))
  let j:=(wb .i64 (a+1))
  next i j
 else
  some b
def jw.l0 (K:Nat) (a b d:Int) (n:Nat):Int->Int->Option (Int):=wq (jw.r0 K a b d) (fun _ _=>none) n
def jw (K:Nat) (e f:Int):Option (Int):=
 (yk K e f).bind fun (a,b)=>
 let g:=(wb .u64 (a*a))
 let h:=(kshr .u64 g 30)
 (jw.l0 K a b h K 172272 0:Option (Int)).bind fun i=>
  let j:=(wb .u64 (i*a))
  let k:=(kshr .u64 j 30)
  let l:=(wb .i64 k)
  (ju K l 15).bind fun m=>
  (ya K m 0 32767).bind fun d=>
  let n:=(decide (b>=2))
  (
   bif n then
    some ((wb .i64 (0-d)))
   else
    some d:Option (Int)).bind fun o=>
   some (wb .i16 o)
def vt (K:Nat) (b a:Int):Option (Int × Int):=
 let d:=(decide (a<1))
 let e:=(decide (a>1048576))
 let f:=(bif d then true else e)
 bif f then
  some (0,1)
 else
  (jw K b a).bind fun g=>
  some (g,0)
def jh (K:Nat) (b a:Int):Option (Int × Int):=
 let d:=(decide (a<1))
 let e:=(decide (a>1048576))
 let f:=(bif d then true else e)
 bif f then
  some (0,1)
 else
  (xk K b a).bind fun g=>
  let h:=(wb .i64 (4*g))
  let i:=(wb .i64 (h+a))
  let j:=(wb .i64 (4*a))
  (jw K i j).bind fun k=>
  some (k,0)
def vn (K:Nat) (a:Int):Option (Int):=
 (qp K a (-32768) 32767).bind fun b=>
 some (wb .i16 b)
def xG (K:Nat) (a b:Int):Option (Int):=
 let g:=(wb .i64 (5*a))
 let d:=(wb .i64 (b-g))
 (
  bif (d != 0) then
   let h:=(wb .i64 (3*d))
   let i:=(wb .i64 (10*a))
   (vt K h i).bind fun (j,_F)=>
   let k:=(wb .i64 (565*a))
   let l:=(wb .i64 ((wb .i64 j)*k))
   let e:=(wb .i64 (1065*d))
   let m:=(wb .i64 (Int.tdiv l e))
   gd (e≠0) <|
   some m
  else
   some 32768:Option (Int)).bind fun n=>
  let f:=(wb .i64 (10*a))
  (jh K b f).bind fun (o,_G)=>
  let p:=(wb .i64 (2*b))
  (jh K p f).bind fun (q,_H)=>
  let s:=(wb .i64 (50*(wb .i64 o)))
  let t:=(wb .i64 (1376256-s))
  let u:=(wb .i64 (8*(wb .i64 q)))
  let w:=(wb .i64 (t+u))
  let y:=(wb .i64 (Int.tdiv w 100))
  let z:=(wb .i64 (n*y))
  (ju K z 15).bind fun A=>
  let B:=(wb .i64 (A*19708))
  (ju K B 15).bind fun D=>
  (vn K D).bind fun E=>
  some E
def jj (K:Nat) (a b:Int):Option (Int):=
 (xG K b a).bind fun d=>
 some d
def qH (_K:Nat) (a:Int) (b:List (Option (List Int))) (_f:List Int) (d:List (Option (List Int))) (e _g:Int):Option (Int):=
 gd (b.length+d.length=387) <|
 some (wb .i64 (e+a))
def qN.r0 (K:Nat) (d:Int) (_j _k:List (Option (List Int))) (_l _m _n e:Int) (next:Int->List Int->Option ((List Int))) (a:Int) (b:List Int):Option ((List Int)):=
 let f:=(decide (a<d))
 bif f then
  (jj K a e).bind fun g=>
  gd ((0:Int)<=a/\a<(b.length:Int)) <|
  let h:=(List.set b (Int.toNat a) g)
  gd ((Int.toNat a)<b.length) <|
  let i:=(wb .i64 (a+1))
  next i h
 else
  some b
def qN.l0 (K:Nat) (a:Int) (b d:List (Option (List Int))) (e f g h:Int) (n:Nat):Int->List Int->Option ((List Int)):=wq (qN.r0 K a b d e f g h) (fun _ _=>none) n
def qN (K:Nat) (b d:List (Option (List Int))) (e f a i:Int):Option ((List Int) × Int):=
 let g:=(List.replicate (Int.toNat a) (0:Int))
 gd ((0:Int)<=a/\a<=a/\a*2<=140737488355328) <|
 let j:=(g.length:Int)
 (qN.l0 K j b d e f a i K 0 g:Option ((List Int))).bind fun h=>
  (qH K 1 b h d e f).bind fun k=>
  some (h,k)
def jL (K:Nat) (a b:List (Option (List Int))) (d e f g:Int):Option ((List Int) × Int):=
 qN K a b d e f g
def xS (K:Nat) (a b:List (Option (List Int))) (d e f g:Int):Option ((List Int) × Int):=
 (qI K a b d e).bind fun _=>
 (jL K a b d e f g).bind fun (h,i)=>
 some (h,i)
def zv (_K:Nat) (a:Int) (b:List (Option (List Int))) (_f:List Int) (d:List (Option (List Int))) (_g e:Int):Option (Int):=
 gd (b.length+d.length=387) <|
 some (wb .i64 (e+a))
def zl (_K:Nat) (a:List Int):Option ((List Int)):=
 gd (a≠[]) <|
 let b:=(([]:List Int)++a)
 gd (((([]:List Int).length:Int)+(a.length:Int))*2<=70368744177664) <|
 some b
def xx (K:Nat) (t0 t1:List (Option (List Int))) (e f b g:Int):Option ((List Int) × (List Int) × Int × Int):=
 (xS K t0 t1 f b e g).bind fun (a,d)=>
 (zv K 1 t0 a t1 d b).bind fun h=>
 (zl K a).bind fun i=>
 some (i,a,d,h)
def qu (_K:Nat) (_a:List (Option (List Int))) (_b:List Int) (_d:List (Option (List Int))) (_e _f:Int):Option (Unit):=
 some ()
def jI (K:Nat) (a:List (Option (List Int))) (b:List Int) (d:List (Option (List Int))) (e f _g _h:Int):Option (Unit):=
 (qu K a b d e f).bind fun _=>
 some ()
def jX (K:Nat) (t0 t1:List (Option (List Int))) (l:List Int) (d a b e:Int):Option ((List Int) × Int):=
 (jI K t0 l t1 a b d e).bind fun _=>
 (zv K 1 t0 l t1 a b).bind fun f=>
 (zl K l).bind fun g=>
 some (g,f)
def jd (K a:Nat) (e:Int) (b:List (Option (List Int))) (d f g:Int):Option ((List Int) × (List (Option (List Int))) × Int × Int):=
 gd (b.length=388/\a=a/4*4/\a/4<388) <|
 match b[a/4]? with
 | some none=>(xx K (b.take (a/4)) (b.drop ((a/4)+1)) e d f g).bind fun (q0',q1',q2',q3')=>some (q0',(b.take (a/4)++some q1'::b.drop ((a/4)+1)),q2',q3')
 | some (some l)=>(jX K (b.take (a/4)) (b.drop ((a/4)+1)) l e d f g).bind fun (q0',q1')=>some (q0',b,d,q1')
 | none=>none
def j2 (K:Nat) (a:Int) (b:List (Option (List Int))) (d e:Int):Option ((List Int) × Int × (List (Option (List Int))) × Int × Int):=
 let g:=(bif (a==4) then true else (a==8))
 (zP K g b d e).bind fun z=>match z with
 | .inl _=>
  some (([]:List Int),1,b,d,e)
 | .inr _=>
  let f:=(wb .i64 (Int.tdiv a 8))
  let h:=(1544+(Int.toNat f)*4)
  gd ((0:Int)<=f/\f<2) <|
  let i:=(wb .i64 (10*a))
  (jd K h i b d e a).bind fun (j,k,l,m)=>
  some (j,0,k,l,m)
def jU (K:Nat) (a b:Int):Option (Int):=
 (jh K a b).bind fun (d,_e)=>
 some d
def qy.r0 (K:Nat) (d:Int) (_j _k:List (Option (List Int))) (_l _m _n e:Int) (next:Int->List Int->Option ((List Int))) (a:Int) (b:List Int):Option ((List Int)):=
 let f:=(decide (a<d))
 bif f then
  (jU K a e).bind fun g=>
  gd ((0:Int)<=a/\a<(b.length:Int)) <|
  let h:=(List.set b (Int.toNat a) g)
  gd ((Int.toNat a)<b.length) <|
  let i:=(wb .i64 (a+1))
  next i h
 else
  some b
def qy.l0 (K:Nat) (a:Int) (b d:List (Option (List Int))) (e f g h:Int) (n:Nat):Int->List Int->Option ((List Int)):=wq (qy.r0 K a b d e f g h) (fun _ _=>none) n
def qy (K:Nat) (b d:List (Option (List Int))) (e f a i:Int):Option ((List Int) × Int):=
 let g:=(List.replicate (Int.toNat a) (0:Int))
 gd ((0:Int)<=a/\a<=a/\a*2<=140737488355328) <|
 let j:=(g.length:Int)
 (qy.l0 K j b d e f a i K 0 g:Option ((List Int))).bind fun h=>
  (qH K 1 b h d e f).bind fun k=>
  some (h,k)
def jo (K:Nat) (a b:List (Option (List Int))) (d e f g:Int):Option ((List Int) × Int):=
 qy K a b d e f g
def xr (K:Nat) (a b:List (Option (List Int))) (d e f g:Int):Option ((List Int) × Int):=
 (qI K a b d e).bind fun _=>
 (jo K a b d e f g).bind fun (h,i)=>
 some (h,i)
def jK (K:Nat) (t0 t1:List (Option (List Int))) (e f b g:Int):Option ((List Int) × (List Int) × Int × Int):=
 (xr K t0 t1 f b e g).bind fun (a,d)=>
 (zv K 1 t0 a t1 d b).bind fun h=>
 (zl K a).bind fun i=>
 some (i,a,d,h)
def jG (K:Nat) (a:List (Option (List Int))) (b:List Int) (d:List (Option (List Int))) (e f _g _h:Int):Option (Unit):=
 (qu K a b d e f).bind fun _=>
 some ()
def j5 (K:Nat) (t0 t1:List (Option (List Int))) (l:List Int) (d a b e:Int):Option ((List Int) × Int):=
 (jG K t0 l t1 a b d e).bind fun _=>
 (zv K 1 t0 l t1 a b).bind fun f=>
 (zl K l).bind fun g=>
 some (g,f)
def ja (K a:Nat) (e:Int) (b:List (Option (List Int))) (d f g:Int):Option ((List Int) × (List (Option (List Int))) × Int × Int):=
 gd (b.length=388/\a=a/4*4/\a/4<388) <|
 match b[a/4]? with
 | some none=>(jK K (b.take (a/4)) (b.drop ((a/4)+1)) e d f g).bind fun (q0',q1',q2',q3')=>some (q0',(b.take (a/4)++some q1'::b.drop ((a/4)+1)),q2',q3')
 | some (some l)=>(j5 K (b.take (a/4)) (b.drop ((a/4)+1)) l e d f g).bind fun (q0',q1')=>some (q0',b,d,q1')
 | none=>none
def xy (K:Nat) (a:Int) (b:List (Option (List Int))) (d e:Int):Option ((List Int) × Int × (List (Option (List Int))) × Int × Int):=
 let g:=(decide (a>=4))
 let h:=(decide (a<=1024))
 let i:=(bif g then h else false)
 let j:=(Int.tmod a 4)
 let k:=(bif i then (j==0) else false)
 (zP K k b d e).bind fun z=>match z with
 | .inl _=>
  some (([]:List Int),1,b,d,e)
 | .inr _=>
  let f:=(wb .i64 (Int.tdiv a 4))
  let l:=(0+(Int.toNat f)*4)
  gd ((0:Int)<=f/\f<257) <|
  (ja K l a b d e a).bind fun (m,n,o,p)=>
  some (m,0,n,o,p)
def yg (K:Nat) (a:Int) (g:List (Option (List Int))) (h i:Int):Option (Int × (List Int) × (List Int) × Int × (List (Option (List Int))) × Int × Int):=
 (j2 K a g h i).bind fun (j,b,d,e,f)=>
 bif (b != 0) then
  some (0,([]:List Int),([]:List Int),b,d,e,f)
 else
  let k:=(wb .i64 (8*a))
  (xy K k d e f).bind fun (l,m,n,o,p)=>
  some (a,j,l,m,n,o,p)
def zf (K:Nat) (b:Int) (h:List (Option (List Int))) (i j:Int):Option ((Int × (List (Option (List Int))) × Int × Int) ⊕ ((List (Option (List Int))) × Int × Int × Int × (List Int) × (List Int) × (List Int))):=
 (yg K b h i j).bind fun (k,l,m,d,e,f,g)=>
 bif (d != 0) then
  some (.inl (d,e,f,g))
 else
  let a:=(wb .i64 (10*b))
  let n:=(List.replicate (Int.toNat a) (0:Int))
  gd ((0:Int)<=a/\a<=a/\a*8<=140737488355328) <|
  some (.inr (e,f,g,k,l,m,n))
def wT (K:Nat) (h i b a j k l m n o:Int) (d:List (Option (List Int))) (e f:Int):Option ((Int) ⊕ ((List (Option (List Int))) × Int × Int × Int × (List Int) × (List Int) × (List Int)) ⊕ ((List (Option (List Int))) × Int × Int × Int × (List Int) × (List Int) × Int × (List Int) × (List Int) × (List Int) × (List Int))):=
 (qG K h i b a j k l m n o).bind fun g=>
 bif (g != 0) then
  some (.inl g)
 else
  bif b==1 then
   (zf K a d e f).bind fun z=>match z with
   | .inl (_Q,_R,_S,_T)=>
    none
   | .inr (p,q,s,t,u,w,y)=>
    some (.inr (.inl (p,q,s,t,u,w,y)))
  else
   bif b==2 then
    (zf K a d e f).bind fun z=>match z with
    | .inl (_U,_V,_W,_X)=>
     none
    | .inr (A,B,D,E,F,G,H)=>
     (zf K a A B D).bind fun z=>match z with
     | .inl (_Y,_Z,_aa,_ab)=>
      none
     | .inr (I,J,L,M,N,O,P)=>
      some (.inr (.inr (I,J,L,E,F,G,M,N,O,H,P)))
   else
    none
def qO (_K:Nat) (_a:List Int):Option ((List Int)):=
 some ([]:List Int)
def vz (K:Nat) (a b d e f g h i j k:Int):Option (Int):=
 (kz K a b d e f g h i j k).bind fun l=>
 bif (l != 0) then
  some 0
 else
  (kA K a b d e f g h i j k).bind fun m=>
  some m
def kY (K:Nat) (a b d e f g h i j k:Int):Option (Int):=
 (vz K a b d e f g h i j k).bind fun l=>
 some l
def yj (_K:Nat) (a:List Int):Option ((List Int)):=
 gd (a≠[]) <|
 let b:=(([]:List Int)++a)
 gd (((([]:List Int).length:Int)+(a.length:Int))*1<=70368744177664) <|
 some b
def ku (K:Nat) (a:List Int):Option ((Unit) ⊕ ((List Int))):=
 let b:=(decide ((a.length:Int)>512))
 bif b then
  some (.inl ())
 else
  (yj K a).bind fun d=>
  some (.inr d)
def jb (_K:Nat) (_a:Int):Option (Unit):=
 some ()
def qB.r0 (K:Nat) (d e:Int) (next:Int->List Int->Option ((List Int))) (a:Int) (b:List Int):Option ((List Int)):=
 let f:=(decide (a<e))
 bif f then
  (jb K d).bind fun _=>
  let g:=(List.set b (Int.toNat a) 0)
  gd ((0:Int)<=a/\a<(b.length:Int)/\(Int.toNat a)<b.length) <|
  let h:=(wb .i64 (a+1))
  next h g
 else
  some b
def qB.l0 (K:Nat) (a b:Int) (n:Nat):Int->List Int->Option ((List Int)):=wq (qB.r0 K a b) (fun _ _=>none) n
def qB (K:Nat) (a d:Int):Option ((List Int)):=
 let b:=(List.replicate (Int.toNat a) (0:Int))
 gd ((0:Int)<=a/\a<=a/\a*8<=140737488355328) <|
 let e:=(b.length:Int)
 (qB.l0 K d e K 0 b:Option ((List Int))).bind fun f=>
  some f
def wG.r1 (_K:Nat) (_k:List (List Int)) (_l _m:Int) (b:List Int) (e _n _o _p _q _s _t _u _w _y _z:Int) (next:Int->Option ((Unit) ⊕ (Int))) (a:Int):Option ((Unit) ⊕ (Int)):=
 let f:=(decide (a<e))
 bif f then
  let d:=(Kd.nth (.int .i64) b (Int.toNat a))
  gd ((0:Int)<=a/\a<(b.length:Int)) <|
  let g:=(decide (d<0))
  let h:=(decide (d>15))
  let i:=(bif g then true else h)
  bif i then
   some (.inr 1)
  else
   let j:=(wb .i64 (a+1))
   next j
 else
  some (.inl ())
def wG.l1 (K:Nat) (a:List (List Int)) (b d:Int) (e:List Int) (f g h i j k l m o p q:Int) (n:Nat):Int->Option ((Unit) ⊕ (Int)):=wq (wG.r1 K a b d e f g h i j k l m o p q) (fun _=>none) n
def wG.r0 (K:Nat) (b:List (List Int)) (d h i j e k l m n o p:Int) (next:Int->Option ((Unit) ⊕ (Int))) (a:Int):Option ((Unit) ⊕ (Int)):=
 let q:=(decide (a<d))
 bif q then
  let f:=(Kd.nth (.slice (.int .i64)) b (Int.toNat a))
  gd ((0:Int)<=a/\a<(b.length:Int)) <|
  let g:=(f.length:Int)
  bif (g != e) then
   some (.inr 1)
  else
   (wG.l1 K b d a f g h i j e k l m n o p K 0:Option ((Unit) ⊕ (Int))).bind fun z=>match z with
   | .inl _=>
    let s:=(wb .i64 (a+1))
    next s
   | .inr r=>
    some (.inr r)
 else
  some (.inl ())
def wG.l0 (K:Nat) (a:List (List Int)) (b d e f g h i j k l m:Int) (n:Nat):Int->Option ((Unit) ⊕ (Int)):=wq (wG.r0 K a b d e f g h i j k l m) (fun _=>none) n
def wG (K:Nat) (a e b f g h i j k l:Int) (d:List (List Int)):Option (Int):=
 (kz K a e b f g h i j k l).bind fun m=>
 let n:=(bif (m != 0) then true else (a != 1))
 bif n then
  some 110
 else
  let o:=((d.length:Int) != b)
  bif o then
   some 1
  else
   (wG.l0 K d (d.length:Int) a e b f g h i j k l K 0:Option ((Unit) ⊕ (Int))).bind fun z=>match z with
   | .inl _=>
    some 0
   | .inr r=>
    some r
def yJ (_K:Nat)  : Option (Unit):=
 some ()
def yl (_K:Nat)  : Option (Unit):=
 some ()
def jl (K:Nat) (_t a _u d _w _y _z _A _B _D b:Int):Option (Int):=
 bif (d==4) then
  (yJ K ).bind fun _=>
  let e:=(List.getD [(-1),0,0,0,(-2),0,0,1,(-2),0,0,1,(-2),0,0,1] ((Int.toNat a)*4+0) 0)
  let f:=(List.getD [(-1),0,0,0,(-2),0,0,1,(-2),0,0,1,(-2),0,0,1] ((Int.toNat a)*4+1) 0)
  let g:=(List.getD [(-1),0,0,0,(-2),0,0,1,(-2),0,0,1,(-2),0,0,1] ((Int.toNat a)*4+2) 0)
  let h:=(List.getD [(-1),0,0,0,(-2),0,0,1,(-2),0,0,1,(-2),0,0,1] ((Int.toNat a)*4+3) 0)
  gd ((0:Int)<=a/\a<(4:Int)) <|
  let i:=(List.getD [e,f,g,h] (Int.toNat b) 0)
  gd ((0:Int)<=b/\b<4) <|
  some i
 else
  (yl K ).bind fun _=>
  let j:=(List.getD [(-2),0,0,0,0,0,0,1,(-3),0,0,0,0,0,1,2,(-4),0,0,0,0,0,1,2,(-4),0,0,0,0,0,1,2] ((Int.toNat a)*8+0) 0)
  let k:=(List.getD [(-2),0,0,0,0,0,0,1,(-3),0,0,0,0,0,1,2,(-4),0,0,0,0,0,1,2,(-4),0,0,0,0,0,1,2] ((Int.toNat a)*8+1) 0)
  let l:=(List.getD [(-2),0,0,0,0,0,0,1,(-3),0,0,0,0,0,1,2,(-4),0,0,0,0,0,1,2,(-4),0,0,0,0,0,1,2] ((Int.toNat a)*8+2) 0)
  let m:=(List.getD [(-2),0,0,0,0,0,0,1,(-3),0,0,0,0,0,1,2,(-4),0,0,0,0,0,1,2,(-4),0,0,0,0,0,1,2] ((Int.toNat a)*8+3) 0)
  let n:=(List.getD [(-2),0,0,0,0,0,0,1,(-3),0,0,0,0,0,1,2,(-4),0,0,0,0,0,1,2,(-4),0,0,0,0,0,1,2] ((Int.toNat a)*8+4) 0)
  let o:=(List.getD [(-2),0,0,0,0,0,0,1,(-3),0,0,0,0,0,1,2,(-4),0,0,0,0,0,1,2,(-4),0,0,0,0,0,1,2] ((Int.toNat a)*8+5) 0)
  let p:=(List.getD [(-2),0,0,0,0,0,0,1,(-3),0,0,0,0,0,1,2,(-4),0,0,0,0,0,1,2,(-4),0,0,0,0,0,1,2] ((Int.toNat a)*8+6) 0)
  let q:=(List.getD [(-2),0,0,0,0,0,0,1,(-3),0,0,0,0,0,1,2,(-4),0,0,0,0,0,1,2,(-4),0,0,0,0,0,1,2] ((Int.toNat a)*8+7) 0)
  gd ((0:Int)<=a/\a<(4:Int)) <|
  let s:=(List.getD [j,k,l,m,n,o,p,q] (Int.toNat b) 0)
  gd ((0:Int)<=b/\b<8) <|
  some s
def xD (K:Nat) (e f g h i d j k l m a n:Int):Option (Int):=
 bif (d==1) then
  some a
 else
  bif (a==0) then
   some (-5)
  else
   (jl K e f g h i d j k l m n).bind fun o=>
   let b:=(wb .i64 (a-o))
   let p:=(decide (b>0))
   (
    bif p then
     let q:=(wb .i64 (Int.tdiv b 2))
     some q
    else
     some b:Option (Int)).bind fun s=>
    some s
def zK.r1 (K:Nat) (_A:List (List Int)) (a _B:Int) (e:List Int) (h i j k l m n o p q s:Int) (next:Int->List (List Int)->Option ((List (List Int)))) (d:Int) (b:List (List Int)):Option ((List (List Int))):=
 let t:=(decide (d<h))
 bif t then
  let u:=(Kd.nth (.int .i64) e (Int.toNat d))
  gd ((0:Int)<=d/\d<(e.length:Int)) <|
  gd ((0:Int)<=a/\a<(b.length:Int)) <|
  let f:=(List.getD b (Int.toNat a) [])
  gd ((Int.toNat a)<b.length) <|
  (xD K i j k l m n o p q s u d).bind fun g=>
  let w:=(f++[g])
  gd (((f.length:Int)+([g].length:Int))*8<=70368744177664) <|
  gd ((0:Int)<=a/\a<(b.length:Int)) <|
  let y:=(List.set b (Int.toNat a) w)
  gd ((Int.toNat a)<b.length) <|
  let z:=(wb .i64 (d+1))
  next z y
 else
  some b
def zK.l1 (K:Nat) (a:List (List Int)) (b d:Int) (e:List Int) (f g h i j k l m o p q:Int) (n:Nat):Int->List (List Int)->Option ((List (List Int))):=wq (zK.r1 K a b d e f g h i j k l m o p q) (fun _ _=>none) n
def zK.r0 (K:Nat) (b:List (List Int)) (d g h i j k l m n o p:Int) (next:Int->List (List Int)->Option ((List (List Int)))) (a:Int) (e:List (List Int)):Option ((List (List Int))):=
 let q:=(decide (a<d))
 bif q then
  let f:=(Kd.nth (.slice (.int .i64)) b (Int.toNat a))
  let s:=(f.length:Int)
  gd ((0:Int)<=a/\a<(b.length:Int)) <|
  (zK.l1 K b a d f s g h i j k l m n o p K 0 e:Option ((List (List Int)))).bind fun t=>
   let u:=(wb .i64 (a+1))
   next u t
 else
  some e
def zK.l0 (K:Nat) (a:List (List Int)) (b d e f g h i j k l m:Int) (n:Nat):Int->List (List Int)->Option ((List (List Int))):=wq (zK.r0 K a b d e f g h i j k l m) (fun _ _=>none) n
def zK (K:Nat) (b d a e f g h i j k:Int) (l:List (List Int)):Option ((List (List Int)) × Int):=
 (wG K b d a e f g h i j k l).bind fun m=>
 bif (m != 0) then
  some (([]:List (List Int)),m)
 else
  let n:=(List.replicate (Int.toNat a) ([]:List Int))
  gd ((0:Int)<=a/\a<=a/\a*24<=140737488355328) <|
  let o:=(n.length:Int)
  (zK.l0 K l o b d a e f g h i j k K 0 n:Option ((List (List Int)))).bind fun p=>
   some (p,0)
def qY (_K:Nat) (a:Int) (_g:Nat) (b:List Int) (_h d _i:Int) (_j e:List (List Int)) (f:Nat):Option (Int × (List (List Int))):=
 some ((imax d a),(List.set e f b))
def wF.r1 (K:Nat) (b _q i j k:Int) (e:List (List Int)) (next:Int->Int->List (List Int)->Option (Int × (List (List Int)))) (a f:Int) (d:List (List Int)):Option (Int × (List (List Int))):=
 let l:=(decide (a<i))
 bif l then
  let g:=(Kd.nth (.slice (.int .i64)) e (Int.toNat a))
  gd ((0:Int)<=a/\a<(e.length:Int)) <|
  let m:=(Kd.nth (.int .i64) g (Int.toNat b))
  gd ((0:Int)<=b/\b<(g.length:Int)) <|
  gd ((0:Int)<=a/\a<(d.length:Int)) <|
  let h:=(List.getD d (Int.toNat a) [])
  gd ((Int.toNat a)<d.length) <|
  gd ((0:Int)<=b/\b<(h.length:Int)) <|
  (qY K m (Int.toNat b) h j f k e d (Int.toNat a)).bind fun (n,o)=>
  let p:=(wb .i64 (a+1))
  next p n o
 else
  some (f,d)
def wF.l1 (K:Nat) (a b d e f:Int) (g:List (List Int)) (n:Nat):Int->Int->List (List Int)->Option (Int × (List (List Int))):=wq (wF.r1 K a b d e f g) (fun _ _ _=>none) n
def wF.r0 (K:Nat) (b g h:Int) (d:List (List Int)) (next:Int->Int->List (List Int)->Option (Int × (List (List Int)))) (a e:Int) (f:List (List Int)):Option (Int × (List (List Int))):=
 let i:=(decide (a<b))
 bif i then
  (wF.l1 K a b (d.length:Int) g h d K 0 e f:Option (Int × (List (List Int)))).bind fun (j,k)=>
   let l:=(wb .i64 (a+1))
   next l j k
 else
  some (e,f)
def wF.l0 (K:Nat) (a b d:Int) (e:List (List Int)) (n:Nat):Int->Int->List (List Int)->Option (Int × (List (List Int))):=wq (wF.r0 K a b d e) (fun _ _ _=>none) n
def wF (K:Nat) (b d e:Int) (a f:List (List Int)):Option (Int × (List (List Int))):=
 let g:=(Kd.nth (.slice (.int .i64)) a 0)
 let h:=(g.length:Int)
 gd (0<(a.length:Int)) <|
 (wF.l0 K h b e a K 0 d f:Option (Int × (List (List Int)))).bind fun (i,j)=>
  some (i,j)
def qr (_K:Nat) (g:Int) (_p:Nat) (a:List Int) (b _q h _s:Int) (_t d:List (List Int)) (e:Nat):Option (Int × (List (List Int))):=
 let f:=(wb .i64 (g-h))
 (
  bif (f==1) then
   let i:=(wb .i64 (b+2))
   some ((i,(List.set d e a)))
  else
   let j:=(decide (f>1))
   let k:=(decide (f<16))
   let l:=(bif j then k else false)
   bif l then
    let m:=(wb .i64 (b+1))
    some ((m,(List.set d e a)))
   else
    some ((b,(List.set d e a))):Option (Int × (List (List Int)))).bind fun (n,o)=>
  some (n,o)
def wD.r1 (K:Nat) (b _s i j k l:Int) (e:List (List Int)) (next:Int->Int->List (List Int)->Option (Int × (List (List Int)))) (a f:Int) (d:List (List Int)):Option (Int × (List (List Int))):=
 let m:=(decide (a<i))
 bif m then
  let g:=(Kd.nth (.slice (.int .i64)) e (Int.toNat a))
  gd ((0:Int)<=a/\a<(e.length:Int)) <|
  let n:=(Kd.nth (.int .i64) g (Int.toNat b))
  gd ((0:Int)<=b/\b<(g.length:Int)) <|
  gd ((0:Int)<=a/\a<(d.length:Int)) <|
  let h:=(List.getD d (Int.toNat a) [])
  gd ((Int.toNat a)<d.length) <|
  gd ((0:Int)<=b/\b<(h.length:Int)) <|
  (qr K n (Int.toNat b) h f j k l e d (Int.toNat a)).bind fun (o,p)=>
  let q:=(wb .i64 (a+1))
  next q o p
 else
  some (f,d)
def wD.l1 (K:Nat) (a b d e f g:Int) (h:List (List Int)) (n:Nat):Int->Int->List (List Int)->Option (Int × (List (List Int))):=wq (wD.r1 K a b d e f g h) (fun _ _ _=>none) n
def wD.r0 (K:Nat) (b g h i:Int) (d:List (List Int)) (next:Int->Int->List (List Int)->Option (Int × (List (List Int)))) (a e:Int) (f:List (List Int)):Option (Int × (List (List Int))):=
 let j:=(decide (a<b))
 bif j then
  (wD.l1 K a b (d.length:Int) g h i d K 0 e f:Option (Int × (List (List Int)))).bind fun (k,l)=>
   let m:=(wb .i64 (a+1))
   next m k l
 else
  some (e,f)
def wD.l0 (K:Nat) (a b d e:Int) (f:List (List Int)) (n:Nat):Int->Int->List (List Int)->Option (Int × (List (List Int))):=wq (wD.r0 K a b d e f) (fun _ _ _=>none) n
def wD (K:Nat) (b d e:Int) (a:List (List Int)) (f:Int) (g:List (List Int)):Option (Int × (List (List Int))):=
 let h:=(Kd.nth (.slice (.int .i64)) a 0)
 let i:=(h.length:Int)
 gd (0<(a.length:Int)) <|
 (wD.l0 K i b d e a K 0 f g:Option (Int × (List (List Int)))).bind fun (j,k)=>
  some (j,k)
def qC (K:Nat) (a b d:Int) (e f:List (List Int)):Option (Int × (List (List Int))):=
 (wD K a b d e 0 f).bind fun (g,h)=>
 some (g,h)
def w8.r0 (K:Nat) (b:Int) (i:List (List Int)) (next:Int->Int->Int->List (List Int)->Option (Int × Int × Int × (List (List Int)))) (d e f:Int) (g:List (List Int)):Option (Int × Int × Int × (List (List Int))):=
 let a:=(wb .i64 (f+d))
 let j:=(decide (a<b))
 bif j then
  let h:=(wb .i64 (e-1))
  (qC K b h a i g).bind fun (k,l)=>
  next k h a l
 else
  some (d,e,f,g)
def w8.l0 (K:Nat) (a:Int) (b:List (List Int)) (n:Nat):Int->Int->Int->List (List Int)->Option (Int × Int × Int × (List (List Int))):=wq (w8.r0 K a b) (fun _ _ _ _=>none) n
def w8 (K:Nat) (a j b:Int) (d k:List (List Int)):Option (Int × Int × (List (List Int))):=
 (wF K a j b d k).bind fun (e,l)=>
 (qC K a e b d l).bind fun (m,n)=>
 (w8.l0 K a d K m e b n:Option (Int × Int × Int × (List (List Int)))).bind fun (o,f,g,h)=>
  let i:=(wb .i64 (g+o))
  bif (i==a) then
   let p:=(wb .i64 (f-1))
   some (p,i,h)
  else
   some (f,g,h)
def kS (_K:Nat) (b:Int) (d:Nat) (a:List Int) (_m e _n:Int) (_o f:List (List Int)) (g:Nat):Option ((List (List Int))):=
 let h:=(wb .i64 (e+2))
 let i:=(decide (b>=h))
 (
  bif i then
   let j:=(wb .i64 (b-e))
   let k:=(List.set a d (imin j 16))
   gd (d<a.length) <|
   some (List.set f g k)
  else
   some (List.set f g a):Option ((List (List Int)))).bind fun l=>
  some l
def wC.r1 (K:Nat) (b _p h i j k:Int) (e:List (List Int)) (next:Int->List (List Int)->Option ((List (List Int)))) (a:Int) (d:List (List Int)):Option ((List (List Int))):=
 let l:=(decide (a<h))
 bif l then
  let f:=(Kd.nth (.slice (.int .i64)) e (Int.toNat a))
  gd ((0:Int)<=a/\a<(e.length:Int)) <|
  let m:=(Kd.nth (.int .i64) f (Int.toNat b))
  gd ((0:Int)<=b/\b<(f.length:Int)) <|
  gd ((0:Int)<=a/\a<(d.length:Int)) <|
  let g:=(List.getD d (Int.toNat a) [])
  gd ((Int.toNat a)<d.length) <|
  gd ((0:Int)<=b/\b<(g.length:Int)) <|
  (kS K m (Int.toNat b) g i j k e d (Int.toNat a)).bind fun n=>
  let o:=(wb .i64 (a+1))
  next o n
 else
  some d
def wC.l1 (K:Nat) (a b d e f g:Int) (h:List (List Int)) (n:Nat):Int->List (List Int)->Option ((List (List Int))):=wq (wC.r1 K a b d e f g h) (fun _ _=>none) n
def wC.r0 (K:Nat) (b f g h:Int) (d:List (List Int)) (next:Int->List (List Int)->Option ((List (List Int)))) (a:Int) (e:List (List Int)):Option ((List (List Int))):=
 let i:=(decide (a<b))
 bif i then
  (wC.l1 K a b (d.length:Int) f g h d K 0 e:Option ((List (List Int)))).bind fun j=>
   let k:=(wb .i64 (a+1))
   next k j
 else
  some e
def wC.l0 (K:Nat) (a b d e:Int) (f:List (List Int)) (n:Nat):Int->List (List Int)->Option ((List (List Int))):=wq (wC.r0 K a b d e f) (fun _ _=>none) n
def wC (K:Nat) (b d e:Int) (a f:List (List Int)):Option ((List (List Int))):=
 let g:=(Kd.nth (.slice (.int .i64)) a 0)
 let h:=(g.length:Int)
 gd (0<(a.length:Int)) <|
 (wC.l0 K h b d e a K 0 f:Option ((List (List Int)))).bind fun i=>
  some i
def qx (_K:Nat) (j:Int) (b:Nat) (a:List Int) (k:Bool) (h l d:Int) (_G e:List (List Int)) (f:Nat):Option (Bool × Int × (List (List Int))):=
 (
  let m:=(decide (d>=h))
  bif m then
   some (.inr (false,d,(List.set e f a)))
  else
   let g:=(Kd.nth (.int .i64) a b)
   let i:=(decide (g>=2))
   let n:=(decide (g<16))
   let o:=(bif i then n else false)
   gd (b<a.length/\(i=true->b<a.length)) <|
   bif o then
    let p:=(wb .i64 (g+1))
    let q:=(List.set a b p)
    gd (b<a.length/\b<a.length) <|
    let s:=(wb .i64 (d+1))
    some (.inl (s,(List.set e f q)))
   else
    let t:=(wb .i64 (l+1))
    let u:=(bif k then (j==t) else false)
    let w:=(wb .i64 (d+1))
    let y:=(decide (h>w))
    let A:=(bif u then y else false)
    bif A then
     let B:=(List.set a b 2)
     gd (b<a.length) <|
     let D:=(wb .i64 (d+2))
     some (.inl (D,(List.set e f B)))
    else
     some (.inl (d,(List.set e f a))):Option ((Int × (List (List Int))) ⊕ (Bool × Int × (List (List Int))))).bind fun z=>match z with
 | .inl (E,F)=>
  some (true,E,F)
 | .inr r=>
  some r
def wu.r1 (K:Nat) (b _t k l m:Int) (e:List (List Int)) (n:Bool) (next:Int->Int->List (List Int)->Option ((Int × (List (List Int))) ⊕ (Int × (List (List Int))))) (a f:Int) (d:List (List Int)):Option ((Int × (List (List Int))) ⊕ (Int × (List (List Int)))):=
 let o:=(decide (a<k))
 bif o then
  let g:=(Kd.nth (.slice (.int .i64)) e (Int.toNat a))
  gd ((0:Int)<=a/\a<(e.length:Int)) <|
  let p:=(Kd.nth (.int .i64) g (Int.toNat b))
  gd ((0:Int)<=b/\b<(g.length:Int)) <|
  gd ((0:Int)<=a/\a<(d.length:Int)) <|
  let h:=(List.getD d (Int.toNat a) [])
  gd ((Int.toNat a)<d.length) <|
  gd ((0:Int)<=b/\b<(h.length:Int)) <|
  (qx K p (Int.toNat b) h n l m f e d (Int.toNat a)).bind fun (q,i,j)=>
  bif (!q) then
   some (.inr (i,j))
  else
   let s:=(wb .i64 (a+1))
   next s i j
 else
  some (.inl (f,d))
def wu.l1 (K:Nat) (a b d e f:Int) (g:List (List Int)) (h:Bool) (n:Nat):Int->Int->List (List Int)->Option ((Int × (List (List Int))) ⊕ (Int × (List (List Int)))):=wq (wu.r1 K a b d e f g h) (fun _ _ _=>none) n
def wu.r0 (K:Nat) (b g h:Int) (d:List (List Int)) (i:Bool) (next:Int->Int->List (List Int)->Option ((Int × (List (List Int))) ⊕ (Int × (List (List Int))))) (a e:Int) (f:List (List Int)):Option ((Int × (List (List Int))) ⊕ (Int × (List (List Int)))):=
 let j:=(decide (a<b))
 bif j then
  (wu.l1 K a b (d.length:Int) g h d i K 0 e f:Option ((Int × (List (List Int))) ⊕ (Int × (List (List Int))))).bind fun z=>match z with
  | .inl (k,l)=>
   let m:=(wb .i64 (a+1))
   next m k l
  | .inr r=>
   some (.inr r)
 else
  some (.inl (e,f))
def wu.l0 (K:Nat) (a b d:Int) (e:List (List Int)) (f:Bool) (n:Nat):Int->Int->List (List Int)->Option ((Int × (List (List Int))) ⊕ (Int × (List (List Int)))):=wq (wu.r0 K a b d e f) (fun _ _ _=>none) n
def wu (K:Nat) (b d e:Int) (a:List (List Int)) (f:Bool) (g:List (List Int)):Option (Int × (List (List Int))):=
 let h:=(Kd.nth (.slice (.int .i64)) a 0)
 let i:=(h.length:Int)
 gd (0<(a.length:Int)) <|
 (wu.l0 K i b d a f K 0 e g:Option ((Int × (List (List Int))) ⊕ (Int × (List (List Int))))).bind fun z=>match z with
 | .inl (j,k)=>
  some (j,k)
 | .inr r=>
  some r
def qM (K:Nat) (a:Bool) (b d e:Int) (f g:List (List Int)):Option (Int × (List (List Int))):=
 (wu K b d e f a g).bind fun (h,i)=>
 some (h,i)
def zd.r0 (_K:Nat) (e _j _k _l b _m _n _o _p _q _s:Int) (_t:List (List Int)) (next:Int->List (List Int)->Option ((List (List Int)))) (a:Int) (d:List (List Int)):Option ((List (List Int))):=
 let f:=(decide (a<e))
 bif f then
  let g:=(List.replicate (Int.toNat b) (0:Int))
  gd ((0:Int)<=b/\b<=b/\b*8<=140737488355328) <|
  gd ((0:Int)<=a/\a<(d.length:Int)) <|
  let h:=(List.set d (Int.toNat a) g)
  gd ((Int.toNat a)<d.length) <|
  let i:=(wb .i64 (a+1))
  next i h
 else
  some d
def zd.l0 (K:Nat) (a b d e f g h i j k l:Int) (m:List (List Int)) (n:Nat):Int->List (List Int)->Option ((List (List Int))):=wq (zd.r0 K a b d e f g h i j k l m) (fun _ _=>none) n
def zd (K:Nat) (f g a h i j k b l m:Int) (q:List (List Int)):Option ((List (List Int)) × Int):=
 (zK K f g a h i j k b l m q).bind fun (d,n)=>
 bif (n != 0) then
  some (([]:List (List Int)),n)
 else
  let o:=(List.replicate (Int.toNat a) ([]:List Int))
  gd ((0:Int)<=a/\a<=a/\a*24<=140737488355328) <|
  let s:=(o.length:Int)
  (zd.l0 K s f g a h i j k b l m d K 0 o:Option ((List (List Int)))).bind fun t=>
   (w8 K b (-99) 0 d t).bind fun (e,p,u)=>
   (wC K b e p d u).bind fun w=>
   (qM K true b e p d w).bind fun (y,z)=>
   (qM K false b e y d z).bind fun (_B,A)=>
   some (A,0)
def kH (_K:Nat) (a _f _g _h _i _j _k b _l _m _n:Int):Option (Bool):=
 let d:=(bif (b==1) then (a==1) else false)
 let e:=(bif (a==0) then true else d)
 some e
def kP (K:Nat) (a b d e f g h i j k l:Int):Option (Bool):=
 (kH K a b d e f g h i j k l).bind fun m=>
 some (!m)
def zj.r0 (K:Nat) (b:List Int) (d e f g h i j k l m n:Int) (next:Int->Option ((Unit) ⊕ (Int))) (a:Int):Option ((Unit) ⊕ (Int)):=
 let o:=(decide (a<d))
 bif o then
  let p:=(Kd.nth (.int .i64) b (Int.toNat a))
  gd ((0:Int)<=a/\a<(b.length:Int)) <|
  (kP K p e f g h i j k l m n).bind fun q=>
  bif q then
   some (.inr a)
  else
   let s:=(wb .i64 (a+1))
   next s
 else
  some (.inl ())
def zj.l0 (K:Nat) (a:List Int) (b d e f g h i j k l m:Int) (n:Nat):Int->Option ((Unit) ⊕ (Int)):=wq (zj.r0 K a b d e f g h i j k l m) (fun _=>none) n
def zj (K:Nat) (a:List Int) (b d e f g h i j k l:Int):Option (Int):=
 (zj.l0 K a (a.length:Int) b d e f g h i j k l K 0:Option ((Unit) ⊕ (Int))).bind fun z=>match z with
 | .inl _=>
  some (-1)
 | .inr r=>
  some r
def qS (K:Nat) (a:List Int) (b d e f g h i j k l:Int):Option (Bool):=
 (zj K a b d e f g h i j k l).bind fun m=>
 let n:=(decide (m>=0))
 some n
def kt (K:Nat) (a:List Int) (b d e f g h i j k l m:Int):Option (Bool):=
 (
  let n:=((a.length:Int)==b)
  bif n then
   (qS K a d e f g h i j k l m).bind fun o=>
   some (!o)
  else
   some false:Option (Bool)).bind fun p=>
  some p
def kJ (_K:Nat) (a:Int):Option (Bool):=
 some (a==0)
def kI (_K:Nat) (a:List (List Int)) (_e _f b _g _h _i _j _k _l _m:Int):Option (Bool):=
 let d:=((a.length:Int)==b)
 some d
def qV (K:Nat) (a:List (List Int)) (b d e f g h i j k l:Int):Option (Bool):=
 (kI K a b d e f g h i j k l).bind fun m=>
 some (!m)
def w6.r0 (K:Nat) (b:List (List (List Int))) (d e f g h i j k l m n:Int) (next:Int->Option ((Unit) ⊕ (Int))) (a:Int):Option ((Unit) ⊕ (Int)):=
 let o:=(decide (a<d))
 bif o then
  let p:=(Kd.nth (.slice (.slice (.int .i64))) b (Int.toNat a))
  gd ((0:Int)<=a/\a<(b.length:Int)) <|
  (qV K p e f g h i j k l m n).bind fun q=>
  bif q then
   some (.inr a)
  else
   let s:=(wb .i64 (a+1))
   next s
 else
  some (.inl ())
def w6.l0 (K:Nat) (a:List (List (List Int))) (b d e f g h i j k l m:Int) (n:Nat):Int->Option ((Unit) ⊕ (Int)):=wq (w6.r0 K a b d e f g h i j k l m) (fun _=>none) n
def w6 (K:Nat) (a:List (List (List Int))) (b d e f g h i j k l:Int):Option (Int):=
 (w6.l0 K a (a.length:Int) b d e f g h i j k l K 0:Option ((Unit) ⊕ (Int))).bind fun z=>match z with
 | .inl _=>
  some (-1)
 | .inr r=>
  some r
def qF (K:Nat) (a:List (List (List Int))) (b d e f g h i j k l:Int):Option (Bool):=
 (w6 K a b d e f g h i j k l).bind fun m=>
 let n:=(decide (m>=0))
 some n
def qQ (K:Nat) (a:List (List (List Int))) (b d e f g h i j k l m:Int):Option (Bool):=
 (
  let n:=((a.length:Int)==b)
  bif n then
   (qF K a d e f g h i j k l m).bind fun o=>
   some (!o)
  else
   some false:Option (Bool)).bind fun p=>
  some p
def j4 (_K:Nat) (b a:Int):Option (Bool):=
 let d:=(decide (b>=0))
 let e:=(decide (b<=15))
 let f:=(bif d then e else false)
 let g:=(decide (a>=2))
 let h:=(decide (a<=16))
 let i:=(bif g then h else false)
 let j:=(bif (a==0) then true else i)
 let k:=(bif f then j else false)
 some k
def kQ (K:Nat) (b d a:Int):Option (Int × Int):=
 (j4 K d a).bind fun e=>
 (
  bif (!e) then
   some (!e)
  else
   let f:=(decide (b<0))
   bif f then
    some f
   else
    let g:=(bif (a==0) then (b != 0) else false)
    bif g then
     some g
    else
     let h:=(decide (a>0))
     let k:=(kshl .i64 1 a)
     let l:=(wb .i64 (k-1))
     let m:=(decide (b>=l))
     let n:=(bif h then m else false)
     gd ((h=true->(0:Int)<=a)) <|
     some n:Option (Bool)).bind fun o=>
  bif o then
   some (0,1)
  else
   bif (a==0) then
    some (0,0)
   else
    let i:=(kshl .i64 2 d)
    gd ((0:Int)<=d) <|
    let p:=(kshl .i64 1 a)
    gd ((0:Int)<=a) <|
    let j:=(wb .i64 (p-1))
    let q:=(wb .i64 (2*b))
    let s:=(wb .i64 (q+1))
    let t:=(wb .i64 (s*i))
    let u:=(wb .i64 (Int.tdiv t j))
    let w:=(wb .i64 (u-i))
    let y:=(wb .i32 w)
    gd (j≠0) <|
    some (y,0)
def wr.r2 (K:Nat) (d e:List (List Int)) (b:Int) (_t:List (List (List Int))) (_u _w:Int) (_y:List Int) (f:List (List Int)) (_z _A _B k _D _E _F _G _H _I:Int) (next:Bool->Int->Option (Bool)) (g:Bool) (a:Int):Option (Bool):=
 let l:=(decide (a<k))
 let m:=(bif g then l else false)
 bif m then
  let h:=(Kd.nth (.slice (.int .i64)) e (Int.toNat b))
  gd ((0:Int)<=b/\b<(e.length:Int)) <|
  let n:=(Kd.nth (.int .i64) h (Int.toNat a))
  gd ((0:Int)<=a/\a<(h.length:Int)) <|
  let i:=(Kd.nth (.slice (.int .i64)) f (Int.toNat b))
  gd ((0:Int)<=b/\b<(f.length:Int)) <|
  let o:=(Kd.nth (.int .i64) i (Int.toNat a))
  gd ((0:Int)<=a/\a<(i.length:Int)) <|
  let j:=(Kd.nth (.slice (.int .i64)) d (Int.toNat b))
  gd ((0:Int)<=b/\b<(d.length:Int)) <|
  let p:=(Kd.nth (.int .i64) j (Int.toNat a))
  gd ((0:Int)<=a/\a<(j.length:Int)) <|
  (kQ K n o p).bind fun (_J,q)=>
  let s:=(wb .i64 (a+1))
  next (q==0) s
 else
  some g
def wr.l2 (K:Nat) (a b:List (List Int)) (d:Int) (e:List (List (List Int))) (f g:Int) (h:List Int) (i:List (List Int)) (j k l m o p q s t u:Int) (n:Nat):Bool->Int->Option (Bool):=wq (wr.r2 K a b d e f g h i j k l m o p q s t u) (fun _ _=>none) n
def wr.r1 (K:Nat) (g b:List (List Int)) (h:List (List (List Int))) (i j:Int) (k:List Int) (l:List (List Int)) (m n d e o p q s t u:Int) (next:Bool->Int->Option (Bool)) (f:Bool) (a:Int):Option (Bool):=
 let w:=(decide (a<d))
 let y:=(bif f then w else false)
 bif y then
  let z:=(Kd.nth (.slice (.int .i64)) b (Int.toNat a))
  gd ((0:Int)<=a/\a<(b.length:Int)) <|
  let A:=(z.length:Int)
  (wr.l2 K g b a h i j k l m n d e o p q s t u K (A==e) 0:Option (Bool)).bind fun B=>
   let D:=(wb .i64 (a+1))
   next B D
 else
  some f
def wr.l1 (K:Nat) (a b:List (List Int)) (d:List (List (List Int))) (e f:Int) (g:List Int) (h:List (List Int)) (i j k l m o p q s t:Int) (n:Nat):Bool->Int->Option (Bool):=wq (wr.r1 K a b d e f g h i j k l m o p q s t) (fun _ _=>none) n
def wr.r0 (K:Nat) (f:List (List Int)) (b:List (List (List Int))) (d:Int) (g:List Int) (h:List (List Int)) (i j k l m n o p q s:Int) (next:Bool->Int->Option (Bool)) (e:Bool) (a:Int):Option (Bool):=
 let t:=(decide (a<d))
 bif t then
  let u:=(Kd.nth (.slice (.slice (.int .i64))) b (Int.toNat a))
  gd ((0:Int)<=a/\a<(b.length:Int)) <|
  (wr.l1 K f u b d a g h i j k l m n o p q s K e 0:Option (Bool)).bind fun w=>
   let y:=(wb .i64 (a+1))
   next w y
 else
  some e
def wr.l0 (K:Nat) (a:List (List Int)) (b:List (List (List Int))) (d:Int) (e:List Int) (f:List (List Int)) (g h i j k l m o p q:Int) (n:Nat):Bool->Int->Option (Bool):=wq (wr.r0 K a b d e f g h i j k l m o p q) (fun _ _=>none) n
def wr (K:Nat) (d e f a b g h i j k:Int) (l:List Int) (p:List (List Int)) (m:List (List (List Int))):Option ((List (List Int)) × Bool):=
 (
  (kt K l a d e f a b g h i j k).bind fun n=>
  bif (!n) then
   let s:=(bif (!n) then true else false)
   some s
  else
   let o:=(wb .i64 (a-1))
   let t:=(Kd.nth (.int .i64) l (Int.toNat o))
   gd ((0:Int)<=o/\o<(l.length:Int)) <|
   (kJ K t).bind fun u=>
   let w:=(bif (!n) then true else (!u))
   some w:Option (Bool)).bind fun y=>
  bif y then
   some (([]:List (List Int)),false)
  else
   (zd K d e f a b g h i j k p).bind fun (q,z)=>
   bif (z != 0) then
    some (([]:List (List Int)),false)
   else
    (qQ K m b d e f a b g h i j k).bind fun A=>
    (wr.l0 K q m (m.length:Int) l p d e f a b g h i j k K A 0:Option (Bool)).bind fun B=>
     some (q,B)
def kq (_K:Nat) (a:Int):Option ((Int) ⊕ ((List Int))):=
 let b:=(decide (a<0))
 bif b then
  some (.inl 1)
 else
  let d:=(decide (a>512))
  bif d then
   some (.inl 2)
  else
   let e:=(List.replicate (Int.toNat a) (0:Int))
   gd ((0:Int)<=a/\a<=a/\a*1<=140737488355328) <|
   some (.inr e)
def xu (_K:Nat) (_a _b:Int):Option (Unit):=
 some ()
def jE (K:Nat) (a b:Int):Option (Unit):=
 (xu K a b).bind fun _=>
 some ()
def zX.r0 (K:Nat) (d:List ((Int × Int))) (f:Int) (next:Int->Int->Option (Int)) (e a:Int):Option (Int):=
 let g:=(decide (a<f))
 bif g then
  let b:=(Kd.nth (.pair (.int .i64) (.int .i64)) d (Int.toNat a))
  gd ((0:Int)<=a/\a<(d.length:Int)) <|
  let h:=(wb .u32 b.1)
  (jE K h b.2).bind fun _=>
  let i:=(wb .i64 (e+b.2))
  let j:=(wb .i64 (a+1))
  next i j
 else
  some e
def zX.l0 (K:Nat) (a:List ((Int × Int))) (b:Int) (n:Nat):Int->Int->Option (Int):=wq (zX.r0 K a b) (fun _ _=>none) n
def zX (K:Nat) (a:List ((Int × Int))):Option (Int):=
 (zX.l0 K a (a.length:Int) K 0 0:Option (Int)).bind fun b=>
  some b
def kv (_K:Nat) (_p a b d e f g h _q _s:Int):Option ((List ((Int × Int)))):=
 (
  bif (b==2) then
   let i:=(wb .i64 (2+g))
   some i
  else
   some 0:Option (Int)).bind fun j=>
  let k:=(wb .i64 (Int.tdiv e 4))
  let l:=(wb .i64 (k-1))
  let m:=(wb .i64 (Int.tdiv d 4))
  let n:=(wb .i64 (m-1))
  let o:=[(a,2),(l,2),(j,2),(f,1),(n,1),(h,8)]
  some o
def wI.r1 (_K:Nat) (_j:List (List Int)) (_k _l:Int) (d:List Int) (f:Int) (_m:List Int) (_n:List (List (List Int))) (next:Int->List ((Int × Int))->Option ((List ((Int × Int))))) (a:Int) (b:List ((Int × Int))):Option ((List ((Int × Int)))):=
 let g:=(decide (a<f))
 bif g then
  let e:=(Kd.nth (.int .i64) d (Int.toNat a))
  gd ((0:Int)<=a/\a<(d.length:Int)) <|
  let h:=(b++[(e,4)])
  gd (((b.length:Int)+([(e,4)].length:Int))*16<=70368744177664) <|
  let i:=(wb .i64 (a+1))
  next i h
 else
  some b
def wI.l1 (K:Nat) (a:List (List Int)) (b d:Int) (e:List Int) (f:Int) (g:List Int) (h:List (List (List Int))) (n:Nat):Int->List ((Int × Int))->Option ((List ((Int × Int)))):=wq (wI.r1 K a b d e f g h) (fun _ _=>none) n
def wI.r0 (K:Nat) (b:List (List Int)) (d:Int) (g:List Int) (h:List (List (List Int))) (next:Int->List ((Int × Int))->Option ((List ((Int × Int))))) (a:Int) (e:List ((Int × Int))):Option ((List ((Int × Int)))):=
 let i:=(decide (a<d))
 bif i then
  let f:=(Kd.nth (.slice (.int .i64)) b (Int.toNat a))
  gd ((0:Int)<=a/\a<(b.length:Int)) <|
  let j:=(f.length:Int)
  (wI.l1 K b d a f j g h K 0 e:Option ((List ((Int × Int))))).bind fun k=>
   let l:=(wb .i64 (a+1))
   next l k
 else
  some e
def wI.l0 (K:Nat) (a:List (List Int)) (b:Int) (d:List Int) (e:List (List (List Int))) (n:Nat):Int->List ((Int × Int))->Option ((List ((Int × Int)))):=wq (wI.r0 K a b d e) (fun _ _=>none) n
def wI.r2 (_K:Nat) (d:List Int) (f:Int) (_j:List (List Int)) (_k:List (List (List Int))) (next:Int->List ((Int × Int))->Option ((List ((Int × Int))))) (a:Int) (b:List ((Int × Int))):Option ((List ((Int × Int)))):=
 let g:=(decide (a<f))
 bif g then
  let e:=(Kd.nth (.int .i64) d (Int.toNat a))
  gd ((0:Int)<=a/\a<(d.length:Int)) <|
  let h:=(b++[(e,1)])
  gd (((b.length:Int)+([(e,1)].length:Int))*16<=70368744177664) <|
  let i:=(wb .i64 (a+1))
  next i h
 else
  some b
def wI.l2 (K:Nat) (a:List Int) (b:Int) (d:List (List Int)) (e:List (List (List Int))) (n:Nat):Int->List ((Int × Int))->Option ((List ((Int × Int)))):=wq (wI.r2 K a b d e) (fun _ _=>none) n
def wI (K:Nat) (_i _j _k _l _m _n e _o _p _q:Int) (a:List Int) (b:List (List Int)) (d:List (List (List Int))):Option ((List ((Int × Int)))):=
 (
  bif (e==1) then
   (wI.l2 K a (a.length:Int) b d K 0 ([]:List ((Int × Int))):Option ((List ((Int × Int))))).bind fun f=>
    some f
  else
   some (([]:List ((Int × Int)))):Option ((List ((Int × Int))))).bind fun g=>
  (wI.l0 K b (b.length:Int) a d K 0 g:Option ((List ((Int × Int))))).bind fun h=>
   some h
def kZ (_K:Nat)  : Option ((List Int)):=
 some ([]:List Int)
def Wb (_K:Nat) (a:Int):Option (Int × Int × Int × Int):=
 bif (a==8) then
  some (8,15,29,0)
 else
  bif (a==16) then
   some (16,65535,4129,0)
  else
   bif (a==24) then
    some (24,5592405,1627,0)
   else
    some (0,0,0,1)
def xe (_K:Nat) (a _n f b g:Int):Option (Int):=
 let d:=(wb .i64 (a-1))
 let h:=(kshr .u32 b d)
 gd ((0:Int)<=d) <|
 let i:=(kshl .u32 b 1)
 let j:=(kshl .u32 1 a)
 let k:=(wb .u32 (j-1))
 let e:=(kand .u32 i k)
 gd ((0:Int)<=a) <|
 (
  bif (h != g) then
   let l:=(kxor .u32 e f)
   some l
  else
   some e:Option (Int)).bind fun m=>
  some m
def kB.r0 (K:Nat) (d:List Int) (g h i j:Int) (next:Int->Int->Option (Int)) (e a:Int):Option (Int):=
 let k:=(decide (a<g))
 bif k then
  let b:=(wb .i64 (Int.tdiv a 8))
  let l:=(Kd.nth (.int .u8) d (Int.toNat b))
  gd ((0:Int)<=b/\b<(d.length:Int)) <|
  let m:=(wb .u32 l)
  let n:=(Int.tmod a 8)
  let f:=(wb .i64 (7-n))
  let o:=(kshr .u32 m f)
  gd ((0:Int)<=f) <|
  let p:=(kand .u32 o 1)
  (xe K h i j e p).bind fun q=>
  let s:=(wb .i64 (a+1))
  next q s
 else
  some e
def kB.l0 (K:Nat) (a:List Int) (b d e f:Int) (n:Nat):Int->Int->Option (Int):=wq (kB.r0 K a b d e f) (fun _ _=>none) n
def kB (K:Nat) (b a d:Int) (e:List Int) (f:Int):Option (Int):=
 (kB.l0 K e f b a d K a 0:Option (Int)).bind fun g=>
  some g
def xE (K:Nat) (d:Int) (b:List Int) (a:Int):Option (Int × Int):=
 (Wb K d).bind fun (e,f,g,h)=>
 let i:=(decide (a<0))
 let j:=(bif (h != 0) then true else i)
 let k:=(wb .i64 (8*(b.length:Int)))
 let l:=(decide (a>k))
 let m:=(bif j then true else l)
 bif m then
  some (0,1)
 else
  (kB K e f g b a).bind fun n=>
  some (n,0)
def xv (_K:Nat) (a b d:Int) (_h:List Int):Option (Int):=
 let e:=(wb .i64 (8*a))
 let f:=(wb .i64 (e-b))
 let g:=(wb .i64 (f-d))
 some g
def j9 (K:Nat) (a b d e:Int) (f:List Int):Option (Int):=
 let g:=(decide (a<0))
 let h:=(decide (a>32))
 let i:=(bif g then true else h)
 bif i then
  some 1
 else
  (xv K b d e f).bind fun j=>
  let k:=(decide (a>j))
  bif k then
   some 50
  else
   some 0
def jT (K:Nat) (e a f g:Int) (b:List Int):Option (Int):=
 let h:=(decide (a>=0))
 let i:=(decide (a<32))
 let d:=(bif h then i else false)
 let j:=(kshr .u32 e a)
 let k:=(bif d then (j != 0) else false)
 gd ((d=true->(0:Int)<=a)) <|
 bif k then
  some 1
 else
  (j9 K a (b.length:Int) f g b).bind fun l=>
  some l
def xd (_K:Nat) (a _g:Int) (_h:List Int):Option (Int × Int × Int):=
 let d:=(wb .i64 (a+1))
 let e:=(wb .i64 (Int.tdiv a 8))
 let b:=(Int.tmod a 8)
 let f:=(kshr .u8 128 b)
 gd ((0:Int)<=b) <|
 some (e,f,d)
def qR.r0 (K:Nat) (g h:Int) (next:Int->Int->List Int->Option (Int × (List Int))) (d e:Int) (a:List Int):Option (Int × (List Int)):=
 let i:=(decide (d>=0))
 bif i then
  (
   (xd K e h a).bind fun (b,j,f)=>
   let k:=(kshr .u32 g d)
   let l:=(kand .u32 k 1)
   gd ((0:Int)<=d) <|
   bif (l==1) then
    let m:=(Kd.nth (.int .u8) a (Int.toNat b))
    let n:=(kor .u8 m j)
    let o:=(List.set a (Int.toNat b) n)
    gd ((0:Int)<=b/\b<(a.length:Int)/\(Int.toNat b)<a.length/\(0:Int)<=b/\b<(a.length:Int)/\(Int.toNat b)<a.length) <|
    some (f,o)
   else
    some (f,a):Option (Int × (List Int))).bind fun (p,q)=>
   let s:=(wb .i64 (d-1))
   next s p q
 else
  some (e,a)
def qR.l0 (K:Nat) (a b:Int) (n:Nat):Int->Int->List Int->Option (Int × (List Int)):=wq (qR.r0 K a b) (fun _ _ _=>none) n
def qR (K:Nat) (d e a f:Int) (b:List Int):Option (Int × Int × (List Int)):=
 (jT K d e a f b).bind fun g=>
 bif (g != 0) then
  some (g,a,b)
 else
  let h:=(wb .i64 (e-1))
  (qR.l0 K d f K h a b:Option (Int × (List Int))).bind fun (i,j)=>
   some (0,i,j)
def zp.r0 (K:Nat) (d:List ((Int × Int))) (h i:Int) (next:Int->Int->Int->List Int->Option (Int × Int × (List Int))) (e a f:Int) (g:List Int):Option (Int × Int × (List Int)):=
 let j:=(decide (a<h))
 bif j then
  let b:=(Kd.nth (.pair (.int .i64) (.int .i64)) d (Int.toNat a))
  gd ((0:Int)<=a/\a<(d.length:Int)) <|
  let k:=(wb .u32 b.1)
  (qR K k b.2 f i g).bind fun (_p,l,m)=>
  let n:=(wb .i64 (e+b.2))
  let o:=(wb .i64 (a+1))
  next n o l m
 else
  some (e,f,g)
def zp.l0 (K:Nat) (a:List ((Int × Int))) (b d:Int) (n:Nat):Int->Int->Int->List Int->Option (Int × Int × (List Int)):=wq (zp.r0 K a b d) (fun _ _ _ _=>none) n
def zp (K:Nat) (a:List ((Int × Int))) (b d:Int) (e:List Int):Option (Int × Int × (List Int)):=
 (zp.l0 K a (a.length:Int) d K 0 0 b e:Option (Int × Int × (List Int))).bind fun (f,g,h)=>
  some (f,g,h)
def xF (_K:Nat) (a:List Int):Option ((List Int)):=
 gd (a≠[]) <|
 let b:=(([]:List Int)++a)
 gd (((([]:List Int).length:Int)+(a.length:Int))*1<=70368744177664) <|
 some b
def kK (K:Nat) (_d _e:Int) (a:List Int):Option ((List Int)):=
 (xF K a).bind fun b=>
 some b
def qL (K:Nat) (a b d e f g h i j k:Int) (l:List Int) (m:List (List Int)) (n:List (List (List Int))):Option (Int):=
 (kq K 512).bind fun z=>match z with
 | .inl _N=>
  (kv K a b d e f g h i j k).bind fun o=>
  (zX K o).bind fun p=>
  (wI K a b d e f g h i j k l m n).bind fun q=>
  (zX K q).bind fun s=>
  let t:=(wb .i64 (p+s))
  (kZ K ).bind fun u=>
  (xE K 8 u t).bind fun (w,_O)=>
  some (wb .i64 w)
 | .inr y=>
  (kv K a b d e f g h i j k).bind fun A=>
  (zp K A 0 0 y).bind fun (B,D,E)=>
  (wI K a b d e f g h i j k l m n).bind fun F=>
  (zp K F D 0 E).bind fun (G,H,I)=>
  let J:=(wb .i64 (B+G))
  (kK K H 0 I).bind fun L=>
  (xE K 8 L J).bind fun (M,_P)=>
  some (wb .i64 M)
def wN.r2 (_K:Nat) (e:List (List Int)) (b:Int) (_o:List (List (List Int))) (_p _q:Int) (_s:List (List Int)) (_t:Int) (f:List Int) (i:Int) (_u:List Int) (_w:List (List Int)) (next:Int->List ((Int × Int))->Option ((List ((Int × Int))))) (a:Int) (d:List ((Int × Int))):Option ((List ((Int × Int)))):=
 let j:=(decide (a<i))
 bif j then
  let k:=(Kd.nth (.int .i64) f (Int.toNat a))
  gd ((0:Int)<=a/\a<(f.length:Int)) <|
  let g:=(Kd.nth (.slice (.int .i64)) e (Int.toNat b))
  let l:=(Kd.nth (.int .i64) g (Int.toNat a))
  let h:=[(k,l)]
  let m:=(d++h)
  gd ((0:Int)<=b/\b<(e.length:Int)/\(0:Int)<=a/\a<(g.length:Int)/\((d.length:Int)+(h.length:Int))*16<=70368744177664) <|
  let n:=(wb .i64 (a+1))
  next n m
 else
  some d
def wN.l2 (K:Nat) (a:List (List Int)) (b:Int) (d:List (List (List Int))) (e f:Int) (g:List (List Int)) (h:Int) (i:List Int) (j:Int) (k:List Int) (l:List (List Int)) (n:Nat):Int->List ((Int × Int))->Option ((List ((Int × Int)))):=wq (wN.r2 K a b d e f g h i j k l) (fun _ _=>none) n
def wN.r1 (K:Nat) (g:List (List Int)) (h:List (List (List Int))) (i j:Int) (b:List (List Int)) (d:Int) (k:List Int) (l:List (List Int)) (next:Int->List ((Int × Int))->Option ((List ((Int × Int))))) (a:Int) (e:List ((Int × Int))):Option ((List ((Int × Int)))):=
 let m:=(decide (a<d))
 bif m then
  let f:=(Kd.nth (.slice (.int .i64)) b (Int.toNat a))
  gd ((0:Int)<=a/\a<(b.length:Int)) <|
  let n:=(f.length:Int)
  (wN.l2 K g a h i j b d f n k l K 0 e:Option ((List ((Int × Int))))).bind fun o=>
   let p:=(wb .i64 (a+1))
   next p o
 else
  some e
def wN.l1 (K:Nat) (a:List (List Int)) (b:List (List (List Int))) (d e:Int) (f:List (List Int)) (g:Int) (h:List Int) (i:List (List Int)) (n:Nat):Int->List ((Int × Int))->Option ((List ((Int × Int)))):=wq (wN.r1 K a b d e f g h i) (fun _ _=>none) n
def wN.r0 (K:Nat) (g:List (List Int)) (b:List (List (List Int))) (d:Int) (h:List Int) (i:List (List Int)) (next:Int->List ((Int × Int))->Option ((List ((Int × Int))))) (a:Int) (e:List ((Int × Int))):Option ((List ((Int × Int)))):=
 let j:=(decide (a<d))
 bif j then
  let f:=(Kd.nth (.slice (.slice (.int .i64))) b (Int.toNat a))
  gd ((0:Int)<=a/\a<(b.length:Int)) <|
  let k:=(f.length:Int)
  (wN.l1 K g b d a f k h i K 0 e:Option ((List ((Int × Int))))).bind fun l=>
   let m:=(wb .i64 (a+1))
   next m l
 else
  some e
def wN.l0 (K:Nat) (a:List (List Int)) (b:List (List (List Int))) (d:Int) (e:List Int) (f:List (List Int)) (n:Nat):Int->List ((Int × Int))->Option ((List ((Int × Int)))):=wq (wN.r0 K a b d e f) (fun _ _=>none) n
def wN (K:Nat) (b:List (List Int)) (d:List Int) (e:List (List Int)) (a:List (List (List Int))):Option ((List ((Int × Int)))):=
 (wN.l0 K b a (a.length:Int) d e K 0 ([]:List ((Int × Int))):Option ((List ((Int × Int))))).bind fun f=>
  some f
def qW (K:Nat) (a b d e f g h i j k:Int) (l:List Int) (m:List (List Int)) (n:List (List (List Int))):Option ((List Int) × Int):=
 (qG K a b d e f g h i j k).bind fun o=>
 bif (o != 0) then
  some (([]:List Int),o)
 else
  (wr K a b d e f g h i j k l m n).bind fun (p,q)=>
  bif (!q) then
   some (([]:List Int),1)
  else
   (kY K a b d e f g h i j k).bind fun s=>
   (kq K s).bind fun z=>match z with
   | .inl _T=>
    (zX K [(156,8)]).bind fun _U=>
    (kv K a b d e f g h i j k).bind fun t=>
    (zX K t).bind fun _V=>
    (qL K a b d e f g h i j k l m n).bind fun u=>
    (zX K [(u,8)]).bind fun _W=>
    (wI K a b d e f g h i j k l m n).bind fun w=>
    (zX K w).bind fun _X=>
    (wN K p l m n).bind fun y=>
    (zX K y).bind fun _Y=>
    (kZ K ).bind fun A=>
    some (A,0)
   | .inr B=>
    (zp K [(156,8)] 0 0 B).bind fun (_Z,D,E)=>
    (kv K a b d e f g h i j k).bind fun F=>
    (zp K F D 0 E).bind fun (_aa,G,H)=>
    (qL K a b d e f g h i j k l m n).bind fun I=>
    (zp K [(I,8)] G 0 H).bind fun (_ab,J,L)=>
    (wI K a b d e f g h i j k l m n).bind fun M=>
    (zp K M J 0 L).bind fun (_ad,N,O)=>
    (wN K p l m n).bind fun P=>
    (zp K P N 0 O).bind fun (_ae,Q,R)=>
    (kK K Q 0 R).bind fun S=>
    some (S,0)
def zI.r0 (_K:Nat) (b d:List Int) (e:Int) (next:Int->Option ((Unit) ⊕ (Bool))) (a:Int):Option ((Unit) ⊕ (Bool)):=
 let f:=(decide (a<e))
 bif f then
  let g:=(Kd.nth (.int .u8) b (Int.toNat a))
  gd ((0:Int)<=a/\a<(b.length:Int)) <|
  let h:=(Kd.nth (.int .u8) d (Int.toNat a))
  gd ((0:Int)<=a/\a<(d.length:Int)) <|
  bif (g != h) then
   some (.inr false)
  else
   let i:=(wb .i64 (a+1))
   next i
 else
  some (.inl ())
def zI.l0 (K:Nat) (a b:List Int) (d:Int) (n:Nat):Int->Option ((Unit) ⊕ (Bool)):=wq (zI.r0 K a b d) (fun _=>none) n
def zI (K:Nat) (a b:List Int):Option (Bool):=
 let d:=((a.length:Int) != (b.length:Int))
 bif d then
  some false
 else
  (zI.l0 K a b (a.length:Int) K 0:Option ((Unit) ⊕ (Bool))).bind fun z=>match z with
  | .inl _=>
   some true
  | .inr r=>
   some r
def jO (_K:Nat) (a b d:Int) (_h:List Int):Option (Int):=
 let e:=(wb .i64 (8*a))
 let f:=(wb .i64 (e-b))
 let g:=(wb .i64 (f-d))
 some g
def jq (K:Nat) (a b d e:Int) (f:List Int):Option (Int):=
 let g:=(decide (a<0))
 let h:=(decide (a>32))
 let i:=(bif g then true else h)
 bif i then
  some 1
 else
  (jO K b d e f).bind fun j=>
  let k:=(decide (a>j))
  bif k then
   some 50
  else
   some 0
def jA (_K:Nat) (a _g:Int) (_h:List Int):Option (Int × Int × Int):=
 let d:=(wb .i64 (a+1))
 let e:=(wb .i64 (Int.tdiv a 8))
 let b:=(Int.tmod a 8)
 let f:=(kshr .u8 128 b)
 gd ((0:Int)<=b) <|
 some (e,f,d)
def xR (_K:Nat) (a d _g _h:Int) (b:List Int):Option (Int):=
 let e:=(Kd.nth (.int .u8) b (Int.toNat a))
 let f:=(kand .u8 e d)
 gd ((0:Int)<=a/\a<(b.length:Int)) <|
 bif (f != 0) then
  some 1
 else
  some 0
def qo.r0 (K:Nat) (h a:Int) (b:List Int) (next:Int->Int->Int->Option (Int × Int)) (d e f:Int):Option (Int × Int):=
 let i:=(decide (e<h))
 bif i then
  let j:=(kshl .u32 d 1)
  (jA K f a b).bind fun (k,l,g)=>
  (xR K k l g a b).bind fun m=>
  let n:=(kor .u32 j m)
  let o:=(wb .i64 (e+1))
  next n o g
 else
  some (d,f)
def qo.l0 (K:Nat) (a b:Int) (d:List Int) (n:Nat):Int->Int->Int->Option (Int × Int):=wq (qo.r0 K a b d) (fun _ _ _=>none) n
def qo (K:Nat) (d a e:Int) (b:List Int):Option (Int × Int × Int):=
 (jq K d (b.length:Int) a e b).bind fun f=>
 bif (f != 0) then
  some (0,f,a)
 else
  (qo.l0 K d e b K 0 0 a:Option (Int × Int)).bind fun (g,h)=>
   some (g,0,h)
def qm.r0 (K:Nat) (e f g:Int) (h:List Int) (next:Int->Int->List Int->Option (Int × (List Int))) (a d:Int) (b:List Int):Option (Int × (List Int)):=
 let i:=(decide (a<f))
 bif i then
  (qo K e d g h).bind fun (j,_n,k)=>
  let l:=(List.set b (Int.toNat a) (wb .i64 j))
  gd ((0:Int)<=a/\a<(b.length:Int)/\(Int.toNat a)<b.length) <|
  let m:=(wb .i64 (a+1))
  next m k l
 else
  some (d,b)
def qm.l0 (K:Nat) (a b d:Int) (e:List Int) (n:Nat):Int->Int->List Int->Option (Int × (List Int)):=wq (qm.r0 K a b d e) (fun _ _ _=>none) n
def qm (K:Nat) (a d e f:Int) (g:List Int):Option ((List Int) × Int):=
 let b:=(List.replicate (Int.toNat a) (0:Int))
 gd ((0:Int)<=a/\a<=a/\a*8<=140737488355328) <|
 let h:=(b.length:Int)
 (qm.l0 K d h f g K 0 e b:Option (Int × (List Int))).bind fun (i,j)=>
  some (j,i)
def wx.r2 (K:Nat) (_n:List Int) (_o:List (List Int)) (a _p _q _s:Int) (e:List Int) (h _t _u _w _y _z _A _B _D _E:Int) (_F:List Int) (_G:List (List Int)) (_H:List (List (List Int))) (next:Int->List (List Int)->Option ((List (List Int)))) (d:Int) (b:List (List Int)):Option ((List (List Int))):=
 let i:=(decide (d<h))
 bif i then
  let j:=(Kd.nth (.int .i64) e (Int.toNat d))
  gd ((0:Int)<=d/\d<(e.length:Int)) <|
  gd ((0:Int)<=a/\a<(b.length:Int)) <|
  let f:=(List.getD b (Int.toNat a) [])
  gd ((Int.toNat a)<b.length) <|
  (qB K 1 j).bind fun g=>
  let k:=(f++g)
  gd (((f.length:Int)+(g.length:Int))*8<=70368744177664) <|
  gd ((0:Int)<=a/\a<(b.length:Int)) <|
  let l:=(List.set b (Int.toNat a) k)
  gd ((Int.toNat a)<b.length) <|
  let m:=(wb .i64 (d+1))
  next m l
 else
  some b
def wx.l2 (K:Nat) (a:List Int) (b:List (List Int)) (d e f g:Int) (h:List Int) (i j k l m o p q s t:Int) (u:List Int) (w:List (List Int)) (y:List (List (List Int))) (n:Nat):Int->List (List Int)->Option ((List (List Int))):=wq (wx.r2 K a b d e f g h i j k l m o p q s t u w y) (fun _ _=>none) n
def wx.r1 (K:Nat) (g:List Int) (b:List (List Int)) (h i d j k l m n o p q s:Int) (t:List Int) (u:List (List Int)) (w:List (List (List Int))) (next:Int->List (List Int)->Option ((List (List Int)))) (a:Int) (e:List (List Int)):Option ((List (List Int))):=
 let y:=(decide (a<d))
 bif y then
  let f:=(Kd.nth (.slice (.int .i64)) b (Int.toNat a))
  let z:=(f.length:Int)
  gd ((0:Int)<=a/\a<(b.length:Int)) <|
  (wx.l2 K g b a h i d f z j k l m n o p q s t u w K 0 e:Option ((List (List Int)))).bind fun A=>
   let B:=(wb .i64 (a+1))
   next B A
 else
  some e
def wx.l1 (K:Nat) (a:List Int) (b:List (List Int)) (d e f g h i j k l m o p:Int) (q:List Int) (s:List (List Int)) (t:List (List (List Int))) (n:Nat):Int->List (List Int)->Option ((List (List Int))):=wq (wx.r1 K a b d e f g h i j k l m o p q s t) (fun _ _=>none) n
def wx.r0 (K:Nat) (h:List Int) (i:List (List Int)) (e j k a l m n o p q:Int) (s:List Int) (t:List (List Int)) (next:Int->List (List (List Int))->Option ((List (List (List Int))))) (d:Int) (b:List (List (List Int))):Option ((List (List (List Int)))):=
 let u:=(decide (d<e))
 bif u then
  let f:=(List.replicate (Int.toNat a) ([]:List Int))
  gd ((0:Int)<=a/\a<=a/\a*24<=140737488355328) <|
  let w:=(f.length:Int)
  (wx.l1 K h i e d w j k a l m n o p q s t b K 0 f:Option ((List (List Int)))).bind fun g=>
   let y:=(b++[g])
   gd (((b.length:Int)+([g].length:Int))*24<=70368744177664) <|
   let z:=(wb .i64 (d+1))
   next z y
 else
  some b
def wx.l0 (K:Nat) (a:List Int) (b:List (List Int)) (d e f g h i j k l m:Int) (o:List Int) (p:List (List Int)) (n:Nat):Int->List (List (List Int))->Option ((List (List (List Int)))):=wq (wx.r0 K a b d e f g h i j k l m o p) (fun _ _=>none) n
def wx.r3 (K:Nat) (_j:List Int) (e _k _l f _m _n _o _p _q _s:Int) (_t:List Int) (next:Int->List (List Int)->Option ((List (List Int)))) (b:Int) (a:List (List Int)):Option ((List (List Int))):=
 let g:=(decide (b<e))
 bif g then
  (qB K f 4).bind fun d=>
  let h:=(a++[d])
  gd (((a.length:Int)+([d].length:Int))*24<=70368744177664) <|
  let i:=(wb .i64 (b+1))
  next i h
 else
  some a
def wx.l3 (K:Nat) (a:List Int) (b d e f g h i j k l:Int) (m:List Int) (n:Nat):Int->List (List Int)->Option ((List (List Int))):=wq (wx.r3 K a b d e f g h i j k l m) (fun _ _=>none) n
def wx.r6 (K:Nat) (_q:List Int) (_s:List (List Int)) (a _t _u _w:Int) (e:List Int) (i _y _z _A _B _D _E _F _G _H:Int) (j _I:List Int) (_J:List (List Int)) (_L:List (List (List Int))) (next:Int->Int->List (List Int)->Option (Int × (List (List Int)))) (d f:Int) (b:List (List Int)):Option (Int × (List (List Int))):=
 let k:=(decide (d<i))
 bif k then
  let l:=(Kd.nth (.int .i64) e (Int.toNat d))
  gd ((0:Int)<=d/\d<(e.length:Int)) <|
  gd ((0:Int)<=a/\a<(b.length:Int)) <|
  let g:=(List.getD b (Int.toNat a) [])
  gd ((Int.toNat a)<b.length) <|
  (qm K 1 l f 0 j).bind fun (h,m)=>
  let n:=(g++h)
  gd (((g.length:Int)+(h.length:Int))*8<=70368744177664) <|
  gd ((0:Int)<=a/\a<(b.length:Int)) <|
  let o:=(List.set b (Int.toNat a) n)
  gd ((Int.toNat a)<b.length) <|
  let p:=(wb .i64 (d+1))
  next p m o
 else
  some (f,b)
def wx.l6 (K:Nat) (a:List Int) (b:List (List Int)) (d e f g:Int) (h:List Int) (i j k l m o p q s t:Int) (u w:List Int) (y:List (List Int)) (z:List (List (List Int))) (n:Nat):Int->Int->List (List Int)->Option (Int × (List (List Int))):=wq (wx.r6 K a b d e f g h i j k l m o p q s t u w y z) (fun _ _ _=>none) n
def wx.r5 (K:Nat) (h:List Int) (b:List (List Int)) (i j d k l m n o p q s t:Int) (u w:List Int) (y:List (List Int)) (z:List (List (List Int))) (next:Int->Int->List (List Int)->Option (Int × (List (List Int)))) (a e:Int) (f:List (List Int)):Option (Int × (List (List Int))):=
 let A:=(decide (a<d))
 bif A then
  let g:=(Kd.nth (.slice (.int .i64)) b (Int.toNat a))
  let B:=(g.length:Int)
  gd ((0:Int)<=a/\a<(b.length:Int)) <|
  (wx.l6 K h b a i j d g B k l m n o p q s t u w y z K 0 e f:Option (Int × (List (List Int)))).bind fun (D,E)=>
   let F:=(wb .i64 (a+1))
   next F D E
 else
  some (e,f)
def wx.l5 (K:Nat) (a:List Int) (b:List (List Int)) (d e f g h i j k l m o p:Int) (q s:List Int) (t:List (List Int)) (u:List (List (List Int))) (n:Nat):Int->Int->List (List Int)->Option (Int × (List (List Int))):=wq (wx.r5 K a b d e f g h i j k l m o p q s t u) (fun _ _ _=>none) n
def wx.r4 (K:Nat) (h:List Int) (i:List (List Int)) (e j k a l m n o p q:Int) (s t:List Int) (u:List (List Int)) (next:Int->Int->List (List (List Int))->Option ((List (List (List Int))))) (d w:Int) (b:List (List (List Int))):Option ((List (List (List Int)))):=
 let y:=(decide (d<e))
 bif y then
  let f:=(List.replicate (Int.toNat a) ([]:List Int))
  gd ((0:Int)<=a/\a<=a/\a*24<=140737488355328) <|
  let z:=(f.length:Int)
  (wx.l5 K h i e d z j k a l m n o p q s t u b K 0 w f:Option (Int × (List (List Int)))).bind fun (A,g)=>
   let B:=(b++[g])
   gd (((b.length:Int)+([g].length:Int))*24<=70368744177664) <|
   let D:=(wb .i64 (d+1))
   next D A B
 else
  some b
def wx.l4 (K:Nat) (a:List Int) (b:List (List Int)) (d e f g h i j k l m:Int) (o p:List Int) (q:List (List Int)) (n:Nat):Int->Int->List (List (List Int))->Option ((List (List (List Int)))):=wq (wx.r4 K a b d e f g h i j k l m o p q) (fun _ _ _=>none) n
def wx.r7 (K:Nat) (_m:List Int) (f _n _o g _p _q _s _t _u _w:Int) (h _y:List Int) (next:Int->Int->List (List Int)->Option (Int × (List (List Int)))) (b d:Int) (a:List (List Int)):Option (Int × (List (List Int))):=
 let i:=(decide (b<f))
 bif i then
  (qm K g 4 d 0 h).bind fun (e,j)=>
  let k:=(a++[e])
  gd (((a.length:Int)+([e].length:Int))*24<=70368744177664) <|
  let l:=(wb .i64 (b+1))
  next l j k
 else
  some (d,a)
def wx.l7 (K:Nat) (a:List Int) (b d e f g h i j k l:Int) (m o:List Int) (n:Nat):Int->Int->List (List Int)->Option (Int × (List (List Int))):=wq (wx.r7 K a b d e f g h i j k l m o) (fun _ _ _=>none) n
def wx (K:Nat) (d e f a g h b i j k:Int) (l:List Int):Option ((List Int) × (List (List Int)) × (List (List (List Int))) × Int):=
 (qG K d e f a g h b i j k).bind fun s=>
 bif (s != 0) then
  some (([]:List Int),([]:List (List Int)),([]:List (List (List Int))),s)
 else
  (kY K d e f a g h b i j k).bind fun y=>
  let A:=((l.length:Int) != y)
  bif A then
   some (([]:List Int),([]:List (List Int)),([]:List (List (List Int))),140)
  else
   (ku K l).bind fun z=>match z with
   | .inl _=>
    (jb K 32).bind fun _=>
    let B:=(List.replicate (Int.toNat a) (0:Int))
    gd ((0:Int)<=a/\a<=a/\a*8<=140737488355328) <|
    (
     bif (b==1) then
      (qB K a 1).bind fun D=>
      some D
     else
      some B:Option ((List Int))).bind fun m=>
     (wx.l3 K l f d e a g h b i j k m K 0 ([]:List (List Int)):Option ((List (List Int)))).bind fun n=>
      (zd K d e f a g h b i j k n).bind fun (E,F)=>
      bif (F != 0) then
       some (([]:List Int),([]:List (List Int)),([]:List (List (List Int))),140)
      else
       (wx.l0 K l E g d e f a h b i j k m n K 0 ([]:List (List (List Int))):Option ((List (List (List Int))))).bind fun t=>
        (qW K d e f a g h b i j k m n t).bind fun (G,H)=>
        (
         bif (H != 0) then
          some true
         else
          (zI K G l).bind fun I=>
          some (!I):Option (Bool)).bind fun J=>
         bif J then
          some (([]:List Int),([]:List (List Int)),([]:List (List (List Int))),140)
         else
          some (m,n,t,0)
   | .inr o=>
    (qo K 32 0 0 o).bind fun (_W,_X,u)=>
    let L:=(List.replicate (Int.toNat a) (0:Int))
    gd ((0:Int)<=a/\a<=a/\a*8<=140737488355328) <|
    (
     bif (b==1) then
      (qm K a 1 u 0 o).bind fun (M,N)=>
      some (N,M)
     else
      some (u,L):Option (Int × (List Int))).bind fun (O,p)=>
     (wx.l7 K l f d e a g h b i j k o p K 0 O ([]:List (List Int)):Option (Int × (List (List Int)))).bind fun (P,q)=>
      (zd K d e f a g h b i j k q).bind fun (Q,R)=>
      bif (R != 0) then
       some (([]:List Int),([]:List (List Int)),([]:List (List (List Int))),140)
      else
       (wx.l4 K l Q g d e f a h b i j k o p q K 0 P ([]:List (List (List Int))):Option ((List (List (List Int))))).bind fun w=>
        (qW K d e f a g h b i j k p q w).bind fun (S,T)=>
        (
         bif (T != 0) then
          some true
         else
          (zI K S l).bind fun U=>
          some (!U):Option (Bool)).bind fun V=>
         bif V then
          some (([]:List Int),([]:List (List Int)),([]:List (List (List Int))),140)
         else
          some (p,q,w,0)
def xb.r0 (_K:Nat) (f:Int) (g:List Int) (j:Int) (next:Int->List (List Int)->Option ((List (List Int)))) (b:Int) (a:List (List Int)):Option ((List (List Int))):=
 let k:=(decide (b<j))
 bif k then
  let h:=(Kd.nth (.int .i16) g (Int.toNat b))
  gd ((0:Int)<=b/\b<(g.length:Int)) <|
  let d:=(Int.tmod b f)
  gd (f≠0) <|
  gd (f≠0) <|
  let e:=(Int.toNat d)
  gd ((0:Int)<=d/\d<(a.length:Int)) <|
  let i:=(List.getD a e [])
  gd (e<a.length) <|
  let l:=(i++[h])
  gd (((i.length:Int)+([h].length:Int))*2<=70368744177664) <|
  gd ((0:Int)<=d/\d<(a.length:Int)) <|
  let m:=(List.set a e l)
  gd (e<a.length) <|
  let n:=(wb .i64 (b+1))
  next n m
 else
  some a
def xb.l0 (K:Nat) (a:Int) (b:List Int) (d:Int) (n:Nat):Int->List (List Int)->Option ((List (List Int))):=wq (xb.r0 K a b d) (fun _ _=>none) n
def xb (K:Nat) (b:List Int) (a:Int):Option ((List (List Int)) × Int):=
 let e:=(decide (a<1))
 let f:=(decide (a>2))
 let d:=(bif e then true else f)
 let g:=(Int.tmod (b.length:Int) a)
 let h:=(bif d then true else (g != 0))
 gd (((!d)=true->a≠0)) <|
 bif h then
  some (([]:List (List Int)),1)
 else
  let i:=(List.replicate (Int.toNat a) ([]:List Int))
  gd ((0:Int)<=a/\a<=a/\a*24<=140737488355328) <|
  (xb.l0 K a b (b.length:Int) K 0 i:Option ((List (List Int)))).bind fun j=>
   some (j,0)
def jW (K:Nat) (a:Int):Option (Int):=
 (qp K a (-2147483648) 2147483647).bind fun b=>
 some (wb .i32 b)
def jZ (K:Nat) (a b:Int):Option (Int):=
 (ju K a b).bind fun d=>
 (jW K d).bind fun e=>
 some (wb .i64 e)
def xf (_K:Nat) (e f g:Int) (_m d _n:List Int):Option (Int):=
 let a:=(wb .i64 (8*g))
 let h:=(wb .i64 (e*f))
 let i:=(Int.tmod h a)
 gd (a≠0) <|
 let j:=(wb .i64 (i+a))
 let b:=(Int.tmod j a)
 gd (a≠0) <|
 let k:=(Kd.nth (.int .i16) d (Int.toNat b))
 gd ((0:Int)<=b/\b<(d.length:Int)) <|
 let l:=(wb .i64 k)
 some l
def ww.r1 (K:Nat) (f _w g d:Int) (h i j b _y:List Int) (next:Int->Int->Option (Int)) (e a:Int):Option (Int):=
 let k:=(decide (a<g))
 bif k then
  let l:=(Kd.nth (.int .i64) b (Int.toNat a))
  gd ((0:Int)<=a/\a<(b.length:Int)/\(Int.toNat a)<b.length) <|
  let m:=(wb .i64 (2*f))
  let n:=(wb .i64 (m+1))
  let o:=(wb .i64 (2*a))
  let p:=(wb .i64 (o-d))
  (xf K n p d h i j).bind fun q=>
  let s:=(wb .i64 (l*q))
  let t:=(wb .i64 (e+s))
  let u:=(wb .i64 (a+1))
  next t u
 else
  some e
def ww.l1 (K:Nat) (a b d e:Int) (f g h i j:List Int) (n:Nat):Int->Int->Option (Int):=wq (ww.r1 K a b d e f g h i j) (fun _ _=>none) n
def ww.r0 (K:Nat) (d e:Int) (g h i f:List Int) (next:Int->List Int->Option ((List Int))) (a:Int) (b:List Int):Option ((List Int)):=
 let j:=(decide (a<d))
 bif j then
  (ww.l1 K a d (f.length:Int) e g h i f b K 0 0:Option (Int)).bind fun k=>
   let l:=(wb .i64 (Int.tdiv e 4))
   let m:=(wb .i64 (16+l))
   (jZ K k m).bind fun n=>
   let o:=(List.set b (Int.toNat a) (wb .i32 n))
   gd ((0:Int)<=a/\a<(b.length:Int)/\(Int.toNat a)<b.length) <|
   let p:=(wb .i64 (a+1))
   next p o
 else
  some b
def ww.l0 (K:Nat) (a b:Int) (d e f g:List Int) (n:Nat):Int->List Int->Option ((List Int)):=wq (ww.r0 K a b d e f g) (fun _ _=>none) n
def ww.r3 (_K:Nat) (h _t i:Int) (f _u b _w:List Int) (next:Int->Int->Option (Int)) (g d:Int):Option (Int):=
 let j:=(decide (d<5))
 bif j then
  let k:=(wb .i64 (2*i))
  let l:=(wb .i64 (k*d))
  let a:=(wb .i64 (h+l))
  let e:=(Int.toNat a)
  gd ((0:Int)<=a/\a<(b.length:Int)) <|
  let m:=(Kd.nth (.int .i64) b e)
  gd (e<b.length) <|
  let n:=(Kd.nth (.int .i16) f e)
  gd ((0:Int)<=a/\a<(f.length:Int)) <|
  let o:=(wb .i64 n)
  let p:=(wb .i64 (m*o))
  let q:=(wb .i64 (p-g))
  let s:=(wb .i64 (d+1))
  next q s
 else
  some g
def ww.l3 (K:Nat) (a b d:Int) (e f g h:List Int) (n:Nat):Int->Int->Option (Int):=wq (ww.r3 K a b d e f g h) (fun _ _=>none) n
def ww.r2 (K:Nat) (d e:Int) (f g h:List Int) (next:Int->List Int->Option ((List Int))) (a:Int) (b:List Int):Option ((List Int)):=
 let i:=(decide (a<d))
 bif i then
  (ww.l3 K a d e f g h b K 0 0:Option (Int)).bind fun j=>
   (jZ K (wb .i64 (0-j)) 14).bind fun k=>
   let l:=(List.set b (Int.toNat a) k)
   gd ((0:Int)<=a/\a<(b.length:Int)/\(Int.toNat a)<b.length) <|
   let m:=(wb .i64 (a+1))
   next m l
 else
  some b
def ww.l2 (K:Nat) (a b:Int) (d e f:List Int) (n:Nat):Int->List Int->Option ((List Int)):=wq (ww.r2 K a b d e f) (fun _ _=>none) n
def ww.r4 (_K:Nat) (e:List Int) (g h:Int) (_o _p:List Int) (next:Int->List Int->Option ((List Int))) (a:Int) (b:List Int):Option ((List Int)):=
 let i:=(decide (a<g))
 bif i then
  let j:=(Kd.nth (.int .i16) e (Int.toNat a))
  gd ((0:Int)<=a/\a<(e.length:Int)) <|
  let k:=(wb .i64 (h-1))
  let d:=(wb .i64 (k-a))
  let l:=(wb .i64 j)
  let f:=(Int.toNat d)
  gd ((0:Int)<=d/\d<(b.length:Int)) <|
  let m:=(List.set b f l)
  gd (f<b.length) <|
  let n:=(wb .i64 (a+1))
  next n m
 else
  some b
def ww.l4 (K:Nat) (a:List Int) (b d:Int) (e f:List Int) (n:Nat):Int->List Int->Option ((List Int)):=wq (ww.r4 K a b d e f) (fun _ _=>none) n
def ww (K:Nat) (e:List Int) (a:Int) (f g b:List Int):Option ((List Int) × Int × (List Int)):=
 let k:=((e.length:Int) != a)
 bif k then
  some (([]:List Int),1,b)
 else
  gd ((0:Int)<=a/\a<(b.length:Int)) <|
  let l:=(cpy (Int.toNat a) b b)
  gd ((Int.toNat a)<b.length) <|
  (ww.l4 K e (e.length:Int) a f g K 0 l:Option ((List Int))).bind fun h=>
   let d:=(wb .i64 (2*a))
   let i:=(List.replicate (Int.toNat d) (0:Int))
   gd ((0:Int)<=d/\d<=d/\d*8<=140737488355328) <|
   let m:=(i.length:Int)
   (ww.l2 K m a f g h K 0 i:Option ((List Int))).bind fun n=>
    let j:=(List.replicate (Int.toNat a) (0:Int))
    gd ((0:Int)<=a/\a<=a/\a*4<=140737488355328) <|
    let o:=(j.length:Int)
    (ww.l0 K o a f g h n K 0 j:Option ((List Int))).bind fun p=>
     some (p,0,h)
def jM (_K:Nat) (a:List Int) (_e _f _g b _h _i _j _k _l _m:Int):Option (Bool):=
 let d:=((a.length:Int)==b)
 some d
def qX (K:Nat) (a:List Int) (b d e f g h i j k l:Int):Option (Bool):=
 (jM K a b d e f g h i j k l).bind fun m=>
 some (!m)
def wX.r0 (K:Nat) (b:List (List Int)) (d e f g h i j k l m n:Int) (next:Int->Option ((Unit) ⊕ (Int))) (a:Int):Option ((Unit) ⊕ (Int)):=
 let o:=(decide (a<d))
 bif o then
  let p:=(Kd.nth (.slice (.int .i32)) b (Int.toNat a))
  gd ((0:Int)<=a/\a<(b.length:Int)) <|
  (qX K p e f g h i j k l m n).bind fun q=>
  bif q then
   some (.inr a)
  else
   let s:=(wb .i64 (a+1))
   next s
 else
  some (.inl ())
def wX.l0 (K:Nat) (a:List (List Int)) (b d e f g h i j k l m:Int) (n:Nat):Int->Option ((Unit) ⊕ (Int)):=wq (wX.r0 K a b d e f g h i j k l m) (fun _=>none) n
def wX (K:Nat) (a:List (List Int)) (b d e f g h i j k l:Int):Option (Int):=
 (wX.l0 K a (a.length:Int) b d e f g h i j k l K 0:Option ((Unit) ⊕ (Int))).bind fun z=>match z with
 | .inl _=>
  some (-1)
 | .inr r=>
  some r
def qw (K:Nat) (a:List (List Int)) (b d e f g h i j k l:Int):Option (Bool):=
 (wX K a b d e f g h i j k l).bind fun m=>
 let n:=(decide (m>=0))
 some n
def kR (K:Nat) (a:List (List Int)) (b d e f g h i j k l m:Int):Option (Bool):=
 (
  let n:=((a.length:Int)==b)
  bif n then
   (qw K a d e f g h i j k l m).bind fun o=>
   some (!o)
  else
   some false:Option (Bool)).bind fun p=>
  some p
def kX (K:Nat) (b:List (List Int)) (d e f g a h i j k l:Int):Option (Bool):=
 (kR K b a d e f g a h i j k l).bind fun m=>
 some m
def ky (K:Nat) (a:List (List Int)) (b d e f g h i j k l:Int):Option (Bool):=
 (kX K a b d e f g h i j k l).bind fun m=>
 some (!m)
def wY.r0 (K:Nat) (b:List (List (List Int))) (d e f g h i j k l m n:Int) (next:Int->Option ((Unit) ⊕ (Int))) (a:Int):Option ((Unit) ⊕ (Int)):=
 let o:=(decide (a<d))
 bif o then
  let p:=(Kd.nth (.slice (.slice (.int .i32))) b (Int.toNat a))
  gd ((0:Int)<=a/\a<(b.length:Int)) <|
  (ky K p e f g h i j k l m n).bind fun q=>
  bif q then
   some (.inr a)
  else
   let s:=(wb .i64 (a+1))
   next s
 else
  some (.inl ())
def wY.l0 (K:Nat) (a:List (List (List Int))) (b d e f g h i j k l m:Int) (n:Nat):Int->Option ((Unit) ⊕ (Int)):=wq (wY.r0 K a b d e f g h i j k l m) (fun _=>none) n
def wY (K:Nat) (a:List (List (List Int))) (b d e f g h i j k l:Int):Option (Int):=
 (wY.l0 K a (a.length:Int) b d e f g h i j k l K 0:Option ((Unit) ⊕ (Int))).bind fun z=>match z with
 | .inl _=>
  some (-1)
 | .inr r=>
  some r
def qn (K:Nat) (a:List (List (List Int))) (b d e f g h i j k l:Int):Option (Bool):=
 (wY K a b d e f g h i j k l).bind fun m=>
 let n:=(decide (m>=0))
 some n
def kG (K:Nat) (a:List (List (List Int))) (b d e f g h i j k l m:Int):Option (Bool):=
 (
  let n:=((a.length:Int)==b)
  bif n then
   (qn K a d e f g h i j k l m).bind fun o=>
   some (!o)
  else
   some false:Option (Bool)).bind fun p=>
  some p
def jJ (K:Nat) (b d a e f g h i j k:Int) (l:List (List (List Int))):Option (Bool):=
 (kG K l a b d a e f g h i j k).bind fun m=>
 some m
def zU.r0 (_K:Nat) (b:List (List Int)) (d:Int) (next:Int->Option ((Unit) ⊕ (Int))) (a:Int):Option ((Unit) ⊕ (Int)):=
 let e:=(decide (a<d))
 bif e then
  let f:=(Kd.nth (.slice (.int .i32)) b (Int.toNat a))
  gd ((0:Int)<=a/\a<(b.length:Int)) <|
  let g:=(f.length:Int)
  let h:=(Kd.nth (.slice (.int .i32)) b 0)
  let i:=(h.length:Int)
  gd (0<(b.length:Int)) <|
  bif (g != i) then
   some (.inr 0)
  else
   let j:=(wb .i64 (a+1))
   next j
 else
  some (.inl ())
def zU.l0 (K:Nat) (a:List (List Int)) (b:Int) (n:Nat):Int->Option ((Unit) ⊕ (Int)):=wq (zU.r0 K a b) (fun _=>none) n
def zU (K:Nat) (a:List (List Int)):Option (Int):=
 let b:=((a.length:Int)==0)
 let e:=(Kd.nth (.slice (.int .i32)) a 0)
 let d:=(e.length:Int)
 let f:=(decide (d>8))
 let g:=(bif b then true else f)
 gd (((!b)=true->0<(a.length:Int))) <|
 bif g then
  some 0
 else
  (zU.l0 K a (a.length:Int) K 0:Option ((Unit) ⊕ (Int))).bind fun z=>match z with
  | .inl _=>
   gd (0<(a.length:Int)) <|
   some d
  | .inr r=>
   some r
def k7 (_K:Nat) (a b:Int):Option (Int × Int):=
 let d:=(wb .i64 ((wb .i64 a)+(wb .i64 b)))
 let e:=(kshr .i64 d 1)
 let f:=(wb .i32 e)
 let g:=(wb .i64 ((wb .i64 a)-(wb .i64 b)))
 let h:=(kshr .i64 g 1)
 let i:=(wb .i32 h)
 some (f,i)
def qj.r1 (K:Nat) (f:List (List Int)) (a:Int) (_y:List (List Int)) (_z:Int) (g:List Int) (m:Int) (next:Int->List (List Int)->List (List Int)->Option ((List (List Int)) × (List (List Int)))) (b:Int) (d e:List (List Int)):Option ((List (List Int)) × (List (List Int))):=
 let n:=(decide (b<m))
 bif n then
  let o:=(Kd.nth (.int .i32) g (Int.toNat b))
  gd ((0:Int)<=b/\b<(g.length:Int)) <|
  let h:=(Kd.nth (.slice (.int .i32)) f (Int.toNat a))
  let p:=(Kd.nth (.int .i32) h (Int.toNat b))
  gd ((0:Int)<=a/\a<(f.length:Int)/\(0:Int)<=b/\b<(h.length:Int)) <|
  (k7 K o p).bind fun (i,j)=>
  gd ((0:Int)<=a/\a<(d.length:Int)) <|
  let k:=(List.getD d (Int.toNat a) [])
  gd ((Int.toNat a)<d.length) <|
  let q:=(k++[i])
  gd (((k.length:Int)+([i].length:Int))*4<=70368744177664) <|
  gd ((0:Int)<=a/\a<(e.length:Int)) <|
  let l:=(List.getD e (Int.toNat a) [])
  gd ((Int.toNat a)<e.length) <|
  let s:=(l++[j])
  gd (((l.length:Int)+([j].length:Int))*4<=70368744177664) <|
  gd ((0:Int)<=a/\a<(d.length:Int)) <|
  let t:=(List.set d (Int.toNat a) q)
  gd ((Int.toNat a)<d.length) <|
  gd ((0:Int)<=a/\a<(e.length:Int)) <|
  let u:=(List.set e (Int.toNat a) s)
  gd ((Int.toNat a)<e.length) <|
  let w:=(wb .i64 (b+1))
  next w t u
 else
  some (d,e)
def qj.l1 (K:Nat) (a:List (List Int)) (b:Int) (d:List (List Int)) (e:Int) (f:List Int) (g:Int) (n:Nat):Int->List (List Int)->List (List Int)->Option ((List (List Int)) × (List (List Int))):=wq (qj.r1 K a b d e f g) (fun _ _ _=>none) n
def qj.r0 (K:Nat) (h b:List (List Int)) (d:Int) (next:Int->List (List Int)->List (List Int)->Option ((List (List Int)) × (List (List Int)))) (a:Int) (e f:List (List Int)):Option ((List (List Int)) × (List (List Int))):=
 let i:=(decide (a<d))
 bif i then
  let g:=(Kd.nth (.slice (.int .i32)) b (Int.toNat a))
  gd ((0:Int)<=a/\a<(b.length:Int)) <|
  let j:=(g.length:Int)
  (qj.l1 K h a b d g j K 0 e f:Option ((List (List Int)) × (List (List Int)))).bind fun (k,l)=>
   let m:=(wb .i64 (a+1))
   next m k l
 else
  some (e,f)
def qj.l0 (K:Nat) (a b:List (List Int)) (d:Int) (n:Nat):Int->List (List Int)->List (List Int)->Option ((List (List Int)) × (List (List Int))):=wq (qj.r0 K a b d) (fun _ _ _=>none) n
def qj (K:Nat) (a b:List (List Int)):Option ((List (List Int)) × (List (List Int)) × Int):=
 (
  (zU K a).bind fun e=>
  bif (e==0) then
   some true
  else
   (zU K a).bind fun f=>
   (zU K b).bind fun g=>
   let h:=(f != g)
   let i:=((a.length:Int) != (b.length:Int))
   let j:=(bif h then true else i)
   some j:Option (Bool)).bind fun k=>
  bif k then
   some (([]:List (List Int)),([]:List (List Int)),1)
  else
   let d:=(List.replicate (Int.toNat (a.length:Int)) ([]:List Int))
   gd ((0:Int)<=(a.length:Int)/\(a.length:Int)<=(a.length:Int)/\(a.length:Int)*24<=140737488355328) <|
   gd ((0:Int)<=(a.length:Int)/\(a.length:Int)<=(a.length:Int)/\(a.length:Int)*24<=140737488355328) <|
   (qj.l0 K b a (a.length:Int) K 0 d d:Option ((List (List Int)) × (List (List Int)))).bind fun (l,m)=>
    some (l,m,0)
def kO (K:Nat) (a b:List (List Int)):Option ((List (List Int)) × (List (List Int)) × Int):=
 (qj K a b).bind fun (d,e,f)=>
 some (d,e,f)
def kk.r0 (_K:Nat) (d:Int) (next:Int->Option (Int)) (a:Int):Option (Int):=
 let b:=(decide (a<15))
 let e:=(kshl .i64 2 a)
 let f:=(decide (d>=e))
 let g:=(bif b then f else false)
 gd ((b=true->(0:Int)<=a)) <|
 bif g then
  let h:=(wb .i64 (a+1))
  next h
 else
  some a
def kk.l0 (K:Nat) (a:Int) (n:Nat):Int->Option (Int):=wq (kk.r0 K a) (fun _=>none) n
def kk (K:Nat) (a:Int):Option (Int):=
 (kk.l0 K a K 0:Option (Int)).bind fun b=>
  some b
def wP.r0 (K:Nat) (e:Int) (d:List Int) (next:Int->List Int->Option ((List Int))) (a:Int) (b:List Int):Option ((List Int)):=
 let f:=(decide (a<e))
 bif f then
  let g:=(Kd.nth (.int .i64) d (Int.toNat a))
  gd ((0:Int)<=a/\a<(d.length:Int)/\(Int.toNat a)<d.length) <|
  (kk K g).bind fun h=>
  let i:=(List.set b (Int.toNat a) h)
  gd ((0:Int)<=a/\a<(b.length:Int)/\(Int.toNat a)<b.length) <|
  let j:=(wb .i64 (a+1))
  next j i
 else
  some b
def wP.l0 (K:Nat) (a:Int) (b:List Int) (n:Nat):Int->List Int->Option ((List Int)):=wq (wP.r0 K a b) (fun _ _=>none) n
def wP.r2 (_K:Nat) (_n:Int) (_o:List (List Int)) (_p _q:Int) (d:List Int) (f:Int) (next:Int->List Int->Option ((List Int))) (a:Int) (b:List Int):Option ((List Int)):=
 let g:=(decide (a<f))
 bif g then
  let h:=(Kd.nth (.int .i32) d (Int.toNat a))
  gd ((0:Int)<=a/\a<(d.length:Int)) <|
  let i:=(Kd.nth (.int .i64) b (Int.toNat a))
  let e:=(wb .i64 h)
  let j:=(wb .i64 (0-e))
  let k:=(imax (imax i e) j)
  let l:=(List.set b (Int.toNat a) k)
  gd ((0:Int)<=a/\a<(b.length:Int)/\(Int.toNat a)<b.length/\(0:Int)<=a/\a<(b.length:Int)/\(Int.toNat a)<b.length) <|
  let m:=(wb .i64 (a+1))
  next m l
 else
  some b
def wP.l2 (K:Nat) (a:Int) (b:List (List Int)) (d e:Int) (f:List Int) (g:Int) (n:Nat):Int->List Int->Option ((List Int)):=wq (wP.r2 K a b d e f g) (fun _ _=>none) n
def wP.r1 (K:Nat) (g:Int) (b:List (List Int)) (d:Int) (next:Int->List Int->Option ((List Int))) (a:Int) (e:List Int):Option ((List Int)):=
 let h:=(decide (a<d))
 bif h then
  let f:=(Kd.nth (.slice (.int .i32)) b (Int.toNat a))
  gd ((0:Int)<=a/\a<(b.length:Int)) <|
  let i:=(f.length:Int)
  (wP.l2 K g b d a f i K 0 e:Option ((List Int))).bind fun j=>
   let k:=(wb .i64 (a+1))
   next k j
 else
  some e
def wP.l1 (K:Nat) (a:Int) (b:List (List Int)) (d:Int) (n:Nat):Int->List Int->Option ((List Int)):=wq (wP.r1 K a b d) (fun _ _=>none) n
def wP (K:Nat) (b:List (List Int)):Option ((List Int) × Int):=
 (zU K b).bind fun a=>
 bif (a==0) then
  some (([]:List Int),1)
 else
  let d:=(List.replicate (Int.toNat a) (0:Int))
  gd ((0:Int)<=a/\a<=a/\a*8<=140737488355328) <|
  (wP.l1 K a b (b.length:Int) K 0 d:Option ((List Int))).bind fun e=>
   gd ((0:Int)<=a/\a<=a/\a*8<=140737488355328) <|
   (wP.l0 K (e.length:Int) e K 0 d:Option ((List Int))).bind fun f=>
    some (f,0)
def qP.r0 (_K:Nat) (h:Int) (d e f g:List Int) (next:Int->List (Bool)->Option ((List (Bool)))) (a:Int) (b:List (Bool)):Option ((List (Bool))):=
 let i:=(decide (a<h))
 bif i then
  let j:=(Kd.nth (.int .i64) d (Int.toNat a))
  gd ((0:Int)<=a/\a<(d.length:Int)) <|
  let k:=(Kd.nth (.int .i64) e (Int.toNat a))
  gd ((0:Int)<=a/\a<(e.length:Int)) <|
  let l:=(wb .i64 (j+k))
  let m:=(Kd.nth (.int .i64) f (Int.toNat a))
  gd ((0:Int)<=a/\a<(f.length:Int)) <|
  let n:=(Kd.nth (.int .i64) g (Int.toNat a))
  gd ((0:Int)<=a/\a<(g.length:Int)) <|
  let o:=(wb .i64 (m+n))
  let p:=(decide (l>o))
  gd ((0:Int)<=a/\a<(b.length:Int)) <|
  let q:=(List.set b (Int.toNat a) p)
  gd ((Int.toNat a)<b.length) <|
  let s:=(wb .i64 (a+1))
  next s q
 else
  some b
def qP.l0 (K:Nat) (a:Int) (b d e f:List Int) (n:Nat):Int->List (Bool)->Option ((List (Bool))):=wq (qP.r0 K a b d e f) (fun _ _=>none) n
def qP (K:Nat) (e f:List (List Int)):Option ((List (Bool)) × Int):=
 (kO K e f).bind fun (h,i,g)=>
 bif (g != 0) then
  some (([]:List (Bool)),g)
 else
  (
   (wP K e).bind fun (j,_w)=>
   (wP K f).bind fun (k,_y)=>
   (wP K h).bind fun (l,_z)=>
   (wP K i).bind fun (m,_A)=>
   some (j,k,l,m):Option ((List Int) × (List Int) × (List Int) × (List Int))).bind fun (a,n,o,p)=>
   let b:=(List.replicate (Int.toNat (a.length:Int)) (false:Bool))
   gd ((0:Int)<=(a.length:Int)/\(a.length:Int)<=(a.length:Int)/\(a.length:Int)*1<=140737488355328) <|
   let q:=(b.length:Int)
   let d:=(wb .i64 (q-1))
   let s:=(Int.toNat d)
   let t:=((s:Nat):Int)
   gd ((0:Int)<=d/\d<=(b.length:Int)/\b≠[]) <|
   (qP.l0 K t a n o p K 0 b:Option ((List (Bool)))).bind fun u=>
    some (u,0)
def zJ.r0 (_K:Nat) (d e:Int) (b:List Int) (next:Int->Option ((Unit) ⊕ (Int))) (a:Int):Option ((Unit) ⊕ (Int)):=
 let f:=(decide (a<e))
 bif f then
  let g:=(Kd.nth (.int .i64) b (Int.toNat a))
  gd ((0:Int)<=a/\a<(b.length:Int)/\(Int.toNat a)<b.length) <|
  bif (d==g) then
   some (.inr a)
  else
   let h:=(wb .i64 (a+1))
   next h
 else
  some (.inl ())
def zJ.l0 (K:Nat) (a b:Int) (d:List Int) (n:Nat):Int->Option ((Unit) ⊕ (Int)):=wq (zJ.r0 K a b d) (fun _=>none) n
def zJ (K:Nat) (b:Int) (a:List Int):Option (Int):=
 (zJ.l0 K b (a.length:Int) a K 0:Option ((Unit) ⊕ (Int))).bind fun z=>match z with
 | .inl _=>
  some (-1)
 | .inr r=>
  some r
def qk (K:Nat) (a:Int) (b:List Int):Option (Bool):=
 (zJ K a b).bind fun d=>
 let e:=(decide (d>=0))
 some e
def kw (_K:Nat) (a:List Int):Option ((List Int)):=
 gd (a≠[]) <|
 let b:=(([]:List Int)++a)
 gd (((([]:List Int).length:Int)+(a.length:Int))*4<=70368744177664) <|
 some b
def zO.r0 (K:Nat) (d:List (List Int)) (e:Int) (next:Int->List (List Int)->Option ((List (List Int)))) (a:Int) (b:List (List Int)):Option ((List (List Int))):=
 let f:=(decide (a<e))
 bif f then
  let g:=(Kd.nth (.slice (.int .i32)) d (Int.toNat a))
  gd ((0:Int)<=a/\a<(d.length:Int)) <|
  (kw K g).bind fun h=>
  let i:=(List.set b (Int.toNat a) h)
  gd ((0:Int)<=a/\a<(b.length:Int)/\(Int.toNat a)<b.length) <|
  let j:=(wb .i64 (a+1))
  next j i
 else
  some b
def zO.l0 (K:Nat) (a:List (List Int)) (b:Int) (n:Nat):Int->List (List Int)->Option ((List (List Int))):=wq (zO.r0 K a b) (fun _ _=>none) n
def zO (K:Nat) (a:List (List Int)):Option ((List (List Int))):=
 let b:=(List.replicate (Int.toNat (a.length:Int)) ([]:List Int))
 gd ((0:Int)<=(a.length:Int)/\(a.length:Int)<=(a.length:Int)/\(a.length:Int)*24<=140737488355328) <|
 (zO.l0 K a (a.length:Int) K 0 b:Option ((List (List Int)))).bind fun d=>
  some d
def wO.r0 (_K:Nat) (b l:Int) (h i:List (List Int)) (next:Int->List (List Int)->List (List Int)->Option ((List (List Int)) × (List (List Int)))) (a:Int) (d e:List (List Int)):Option ((List (List Int)) × (List (List Int))):=
 let m:=(decide (a<l))
 bif m then
  gd ((0:Int)<=a/\a<(d.length:Int)) <|
  let f:=(List.getD d (Int.toNat a) [])
  gd ((Int.toNat a)<d.length) <|
  gd ((0:Int)<=a/\a<(e.length:Int)) <|
  let g:=(List.getD e (Int.toNat a) [])
  gd ((Int.toNat a)<e.length) <|
  let j:=(Kd.nth (.slice (.int .i32)) h (Int.toNat a))
  gd ((0:Int)<=a/\a<(h.length:Int)) <|
  let n:=(Kd.nth (.int .i32) j (Int.toNat b))
  gd ((0:Int)<=b/\b<(j.length:Int)) <|
  let k:=(Kd.nth (.slice (.int .i32)) i (Int.toNat a))
  gd ((0:Int)<=a/\a<(i.length:Int)) <|
  let o:=(Kd.nth (.int .i32) k (Int.toNat b))
  gd ((0:Int)<=b/\b<(k.length:Int)) <|
  gd ((0:Int)<=b/\b<(f.length:Int)) <|
  let p:=(List.set f (Int.toNat b) n)
  gd ((Int.toNat b)<f.length) <|
  gd ((0:Int)<=b/\b<(g.length:Int)) <|
  let q:=(List.set g (Int.toNat b) o)
  gd ((Int.toNat b)<g.length) <|
  let s:=(wb .i64 (a+1))
  next s (List.set d (Int.toNat a) p) (List.set e (Int.toNat a) q)
 else
  some (d,e)
def wO.l0 (K:Nat) (a b:Int) (d e:List (List Int)) (n:Nat):Int->List (List Int)->List (List Int)->Option ((List (List Int)) × (List (List Int))):=wq (wO.r0 K a b d e) (fun _ _ _=>none) n
def wO (K:Nat) (b:Int) (a d e f:List (List Int)):Option ((List (List Int)) × (List (List Int))):=
 (wO.l0 K b (a.length:Int) a d K 0 e f:Option ((List (List Int)) × (List (List Int)))).bind fun (g,h)=>
  some (g,h)
def z9.r0 (K:Nat) (f:Int) (g h:List (List Int)) (b:List Int) (next:Int->List (List Int)->List (List Int)->Option ((List (List Int)) × (List (List Int)))) (a:Int) (d e:List (List Int)):Option ((List (List Int)) × (List (List Int))):=
 let i:=(decide (a<f))
 bif i then
  (
   let j:=(Kd.nth (.int .i64) b (Int.toNat a))
   gd ((0:Int)<=a/\a<(b.length:Int)/\(Int.toNat a)<b.length) <|
   bif (j==1) then
    (wO K a g h d e).bind fun (k,l)=>
    some (k,l)
   else
    some (d,e):Option ((List (List Int)) × (List (List Int)))).bind fun (m,n)=>
   let o:=(wb .i64 (a+1))
   next o m n
 else
  some (d,e)
def z9.l0 (K:Nat) (a:Int) (b d:List (List Int)) (e:List Int) (n:Nat):Int->List (List Int)->List (List Int)->Option ((List (List Int)) × (List (List Int))):=wq (z9.r0 K a b d e) (fun _ _ _=>none) n
def z9 (K:Nat) (b d:List (List Int)) (a:List Int) (e f:List (List Int)):Option ((List (List Int)) × (List (List Int))):=
 (z9.l0 K (a.length:Int) b d a K 0 e f:Option ((List (List Int)) × (List (List Int)))).bind fun (g,h)=>
  some (g,h)
def qz (K:Nat) (a:List (List (List Int))) (b:List Int):Option ((List (List (List Int)))):=
 (qk K 1 b).bind fun f=>
 bif (!f) then
  some a
 else
  let d:=(Kd.nth (.slice (.slice (.int .i32))) a 0)
  gd (0<(a.length:Int)) <|
  let e:=(Kd.nth (.slice (.slice (.int .i32))) a 1)
  gd (1<(a.length:Int)) <|
  (kO K d e).bind fun (g,h,_m)=>
  gd (0<(a.length:Int)) <|
  (zO K d).bind fun i=>
  gd (1<(a.length:Int)) <|
  (zO K e).bind fun j=>
  (z9 K g h b i j).bind fun (k,l)=>
  some ([k,l])
def xj (K:Nat) (g a b:Int):Option (Int × Int):=
 (j4 K a b).bind fun h=>
 bif (!h) then
  some (0,1)
 else
  bif (b==0) then
   some (0,0)
  else
   let d:=(kshl .i64 2 a)
   gd ((0:Int)<=a) <|
   let i:=(kshl .i64 1 b)
   gd ((0:Int)<=b) <|
   let e:=(wb .i64 (i-1))
   let j:=(wb .i64 (1-d))
   let k:=(wb .i64 (d-1))
   (ya K (wb .i64 g) j k).bind fun l=>
   let m:=(wb .i64 (l*e))
   let f:=(wb .i64 (a+1))
   let n:=(kshr .i64 m f)
   let o:=(wb .i64 (n+e))
   let p:=(kshr .i64 o 1)
   gd ((0:Int)<=f) <|
   some (p,0)
def wm.r2 (K:Nat) (_y:List (List (List Int))) (f:List (List Int)) (e a _z _A:Int) (g:List Int) (n _B _D _E _F _G _H _I _J _L _M:Int) (h:List (List Int)) (_N:List Int) (i:List (List (List Int))) (_O:Nat) (next:Int->List (List Int)->Option ((List (List Int)))) (b:Int) (d:List (List Int)):Option ((List (List Int))):=
 let o:=(decide (b<n))
 bif o then
  let p:=(Kd.nth (.int .i32) g (Int.toNat b))
  gd ((0:Int)<=b/\b<(g.length:Int)) <|
  let j:=(Kd.nth (.slice (.int .i64)) h (Int.toNat a))
  gd ((0:Int)<=a/\a<(h.length:Int)) <|
  let q:=(Kd.nth (.int .i64) j (Int.toNat b))
  gd ((0:Int)<=b/\b<(j.length:Int)) <|
  let k:=(Kd.nth (.slice (.int .i64)) f (Int.toNat a))
  gd ((0:Int)<=a/\a<(f.length:Int)) <|
  let s:=(Kd.nth (.int .i64) k (Int.toNat b))
  gd ((0:Int)<=b/\b<(k.length:Int)) <|
  (xj K p q s).bind fun (l,_P)=>
  gd ((0:Int)<=e/\e<(i.length:Int)) <|
  gd ((0:Int)<=e/\e<(i.length:Int)) <|
  gd ((0:Int)<=a/\a<(d.length:Int)) <|
  let m:=(List.getD d (Int.toNat a) [])
  gd ((Int.toNat a)<d.length) <|
  let t:=(m++[l])
  gd (((m.length:Int)+([l].length:Int))*8<=70368744177664) <|
  gd ((0:Int)<=a/\a<(d.length:Int)) <|
  let u:=(List.set d (Int.toNat a) t)
  gd ((Int.toNat a)<d.length) <|
  let w:=(wb .i64 (b+1))
  next w u
 else
  some d
def wm.l2 (K:Nat) (a:List (List (List Int))) (b:List (List Int)) (d e f g:Int) (h:List Int) (i j k l m o p q s t u:Int) (w:List (List Int)) (y:List Int) (z:List (List (List Int))) (A n:Nat):Int->List (List Int)->Option ((List (List Int))):=wq (wm.r2 K a b d e f g h i j k l m o p q s t u w y z A) (fun _ _=>none) n
def wm.r1 (K:Nat) (b:List (List (List Int))) (j:List (List Int)) (d k e l m n o p q s t u w:Int) (y:List (List Int)) (z:List Int) (A:List (List (List Int))) (f:Nat) (next:Int->List (List Int)->Option ((List (List Int)))) (a:Int) (g:List (List Int)):Option ((List (List Int))):=
 let B:=(decide (a<e))
 bif B then
  let h:=(Kd.nth (.slice (.slice (.int .i32))) b (Int.toNat a))
  let i:=(Kd.nth (.slice (.int .i32)) h f)
  let D:=(i.length:Int)
  gd ((0:Int)<=a/\a<(b.length:Int)/\(0:Int)<=d/\d<(h.length:Int)) <|
  (wm.l2 K b j d a k e i D l m n o p q s t u w y z A f K 0 g:Option ((List (List Int)))).bind fun E=>
   let F:=(wb .i64 (a+1))
   next F E
 else
  some g
def wm.l1 (K:Nat) (a:List (List (List Int))) (b:List (List Int)) (d e f g h i j k l m o p q:Int) (s:List (List Int)) (t:List Int) (u:List (List (List Int))) (w n:Nat):Int->List (List Int)->Option ((List (List Int))):=wq (wm.r1 K a b d e f g h i j k l m o p q s t u w) (fun _ _=>none) n
def wm.r0 (K:Nat) (e:List (List (List Int))) (g:List (List Int)) (f h i b j k l m n o p:Int) (q:List (List Int)) (s:List Int) (next:Int->List (List (List Int))->Option ((List (List (List Int))))) (a:Int) (d:List (List (List Int))):Option ((List (List (List Int)))):=
 let t:=(decide (a<f))
 bif t then
  let u:=(List.replicate (Int.toNat b) ([]:List Int))
  gd ((0:Int)<=b/\b<=b/\b*24<=140737488355328) <|
  gd ((0:Int)<=a/\a<(d.length:Int)) <|
  gd ((Int.toNat a)<d.length) <|
  (wm.l1 K e g a f (e.length:Int) h i b j k l m n o p q s d (Int.toNat a) K 0 u:Option ((List (List Int)))).bind fun w=>
   let y:=(wb .i64 (a+1))
   next y (List.set d (Int.toNat a) w)
 else
  some d
def wm.l0 (K:Nat) (a:List (List (List Int))) (b:List (List Int)) (d e f g h i j k l m o:Int) (p:List (List Int)) (q:List Int) (n:Nat):Int->List (List (List Int))->Option ((List (List (List Int)))):=wq (wm.r0 K a b d e f g h i j k l m o p q) (fun _ _=>none) n
def wm.r3 (K:Nat) (d:List (List (List Int))) (f _k _l _m _n _o _p _q _s _t _u:Int) (_w:List Int) (next:Int->List (List Int)->Option ((List (List Int)))) (a:Int) (b:List (List Int)):Option ((List (List Int))):=
 let g:=(decide (a<f))
 bif g then
  let h:=(Kd.nth (.slice (.slice (.int .i32))) d (Int.toNat a))
  gd ((0:Int)<=a/\a<(d.length:Int)) <|
  (wP K h).bind fun (e,_y)=>
  let i:=(b++[e])
  gd (((b.length:Int)+([e].length:Int))*24<=70368744177664) <|
  let j:=(wb .i64 (a+1))
  next j i
 else
  some b
def wm.l3 (K:Nat) (a:List (List (List Int))) (b d e f g h i j k l m:Int) (o:List Int) (n:Nat):Int->List (List Int)->Option ((List (List Int))):=wq (wm.r3 K a b d e f g h i j k l m o) (fun _ _=>none) n
def wm.r4 (_K:Nat) (_k:List (List (List Int))) (d:List (Bool)) (e _l _m _n _o _p _q _s _t _u _w:Int) (next:Int->List Int->Option ((List Int))) (a:Int) (b:List Int):Option ((List Int)):=
 let f:=(decide (a<e))
 bif f then
  (
   let g:=(Kd.nth (.bool) d (Int.toNat a))
   gd ((0:Int)<=a/\a<(d.length:Int)) <|
   bif g then
    let h:=(List.set b (Int.toNat a) 1)
    gd ((0:Int)<=a/\a<(b.length:Int)/\(Int.toNat a)<b.length) <|
    some h
   else
    some b:Option ((List Int))).bind fun i=>
   let j:=(wb .i64 (a+1))
   next j i
 else
  some b
def wm.l4 (K:Nat) (a:List (List (List Int))) (b:List (Bool)) (d e f g h i j k l m o:Int) (n:Nat):Int->List Int->Option ((List Int)):=wq (wm.r4 K a b d e f g h i j k l m o) (fun _ _=>none) n
def wm (K:Nat) (f g h a b i d j k l:Int) (e:List (List (List Int))):Option ((List Int) × (List (List Int)) × (List (List (List Int))) × Int):=
 (qG K f g h a b i d j k l).bind fun p=>
 bif (p != 0) then
  some (([]:List Int),([]:List (List Int)),([]:List (List (List Int))),p)
 else
  (jJ K f g h a b i d j k l e).bind fun u=>
  bif (!u) then
   some (([]:List Int),([]:List (List Int)),([]:List (List (List Int))),1)
  else
   let q:=(List.replicate (Int.toNat a) (0:Int))
   gd ((0:Int)<=a/\a<=a/\a*8<=140737488355328) <|
   (
    bif (d==1) then
     let w:=(Kd.nth (.slice (.slice (.int .i32))) e 0)
     gd (0<(e.length:Int)) <|
     let y:=(Kd.nth (.slice (.slice (.int .i32))) e 1)
     gd (1<(e.length:Int)) <|
     (qP K w y).bind fun (s,_E)=>
     (wm.l4 K e s (s.length:Int) f g h a b i d j k l K 0 q:Option ((List Int))).bind fun z=>
      some z
    else
     some q:Option ((List Int))).bind fun m=>
    (qz K e m).bind fun n=>
    (wm.l3 K n (n.length:Int) f g h a b i d j k l m K 0 ([]:List (List Int)):Option ((List (List Int)))).bind fun o=>
     (zd K f g h a b i d j k l o).bind fun (A,_F)=>
     let t:=(List.replicate (Int.toNat b) ([]:List (List Int)))
     gd ((0:Int)<=b/\b<=b/\b*24<=140737488355328) <|
     let B:=(t.length:Int)
     (wm.l0 K n A B f g h a b i d j k l o m K 0 t:Option ((List (List (List Int))))).bind fun D=>
      some (m,o,D,0)
def wZ.r1 (K:Nat) (e:List Int) (_u:List (List Int)) (_w _y _z _A k _B _D _E _F _G _H l:Int) (m n:List Int) (next:Int->Int->List Int->List (List (List Int))->Option (Int × (List Int) × (List (List (List Int))))) (f b:Int) (g:List Int) (a:List (List (List Int))):Option (Int × (List Int) × (List (List (List Int)))):=
 let h:=(e.length:Int)
 let o:=(decide (b<h))
 bif o then
  bif f==0 then
   let d:=(wb .i64 (b+k))
   let p:=((e.take (Int.toNat d)).drop (Int.toNat b))
   gd ((0:Int)<=b/\b<=d/\d<=h) <|
   (ww K p l m n g).bind fun (i,_I,q)=>
   let j:=(List.getD a 0 [])
   let s:=(j++[i])
   let t:=(List.set a 0 s)
   gd (0<(a.length:Int)/\0<a.length/\((j.length:Int)+([i].length:Int))*24<=70368744177664/\0<(a.length:Int)/\0<a.length) <|
   next 0 d q t
  else
   none
 else
  some (f,g,a)
def wZ.l1 (K:Nat) (a:List Int) (b:List (List Int)) (d e f g h i j k l m o p:Int) (q s:List Int) (n:Nat):Int->Int->List Int->List (List (List Int))->Option (Int × (List Int) × (List (List (List Int)))):=wq (wZ.r1 K a b d e f g h i j k l m o p q s) (fun _ _ _ _=>none) n
def wZ.r0 (K:Nat) (b:List (List Int)) (d g h i j k l m n o p q:Int) (s t:List Int) (next:Int->List Int->List (List (List Int))->Option ((List Int) × (List (List (List Int))))) (a:Int) (e:List Int) (f:List (List (List Int))):Option ((List Int) × (List (List (List Int)))):=
 let u:=(decide (a<d))
 bif u then
  let w:=(Kd.nth (.slice (.int .i16)) b (Int.toNat a))
  gd ((0:Int)<=a/\a<(b.length:Int)) <|
  (wZ.l1 K w b d g h i j k l m n o p q s t K a 0 e f:Option (Int × (List Int) × (List (List (List Int))))).bind fun (y,z,A)=>
   let B:=(wb .i64 (y+1))
   next B z A
 else
  some (e,f)
def wZ.l0 (K:Nat) (a:List (List Int)) (b d e f g h i j k l m o:Int) (p q:List Int) (n:Nat):Int->List Int->List (List (List Int))->Option ((List Int) × (List (List (List Int)))):=wq (wZ.r0 K a b d e f g h i j k l m o p q) (fun _ _ _=>none) n
def wZ (K:Nat) (l:List Int) (e f a b d g h i j k o:Int) (p q m:List Int):Option ((List Int) × Int × (List Int)):=
 let s:=(wb .i64 (a*b))
 let t:=(wb .i64 (s*d))
 let u:=((l.length:Int) != t)
 bif u then
  some (([]:List Int),1,m)
 else
  (xb K l a).bind fun (n,_G)=>
  let w:=(List.replicate (Int.toNat a) ([]:List (List Int)))
  gd ((0:Int)<=a/\a<=a/\a*24<=140737488355328) <|
  (wZ.l0 K n (n.length:Int) e f a b d g h i j k o p q K 0 m w:Option ((List Int) × (List (List (List Int))))).bind fun (y,z)=>
   (wm K e f a b d g h i j k z).bind fun (A,B,D,_H)=>
   (qW K e f a b d g h i j k A B D).bind fun (E,F)=>
   some (E,F,y)
def w3.r1 (K:Nat) (d:List Int) (_O:List (List Int)) (_P _Q _R _S e _T _U _V _W _X _Y p:Int) (q s:List Int) (t:Int) (u w:List Int) (next:Int->Int->List Int->List Int->List (List (List Int))->Option (Int × (List Int) × (List Int) × (List (List (List Int))))) (f b:Int) (g h:List Int) (a:List (List (List Int))):Option (Int × (List Int) × (List Int) × (List (List (List Int)))):=
 let i:=(d.length:Int)
 let y:=(decide (b<i))
 bif y then
  (
   bif f==0 then
    let j:=(wb .i64 (b+e))
    let z:=((d.take (Int.toNat j)).drop (Int.toNat b))
    gd ((0:Int)<=b/\b<=j/\j<=i) <|
    (ww K z p q s g).bind fun (l,_Z,A)=>
    let m:=(List.getD a 0 [])
    let B:=(m++[l])
    let D:=(List.set a 0 B)
    gd (0<(a.length:Int)/\0<a.length/\((m.length:Int)+([l].length:Int))*24<=70368744177664/\0<(a.length:Int)/\0<a.length) <|
    some (0,A,h,D)
   else
    bif f==1 then
     let k:=(wb .i64 (b+e))
     let E:=((d.take (Int.toNat k)).drop (Int.toNat b))
     gd ((0:Int)<=b/\b<=k/\k<=i) <|
     (ww K E t u w h).bind fun (n,_aa,F)=>
     let o:=(List.getD a 1 [])
     let G:=(o++[n])
     let H:=(List.set a 1 G)
     gd (1<(a.length:Int)/\1<a.length/\((o.length:Int)+([n].length:Int))*24<=70368744177664/\1<(a.length:Int)/\1<a.length) <|
     some (1,g,F,H)
    else
     none:Option (Int × (List Int) × (List Int) × (List (List (List Int))))).bind fun (I,J,L,M)=>
   let N:=(wb .i64 (b+e))
   next I N J L M
 else
  some (f,g,h,a)
def w3.l1 (K:Nat) (a:List Int) (b:List (List Int)) (d e f g h i j k l m o p:Int) (q s:List Int) (t:Int) (u w:List Int) (n:Nat):Int->Int->List Int->List Int->List (List (List Int))->Option (Int × (List Int) × (List Int) × (List (List (List Int)))):=wq (w3.r1 K a b d e f g h i j k l m o p q s t u w) (fun _ _ _ _ _=>none) n
def w3.r0 (K:Nat) (b:List (List Int)) (d h i j k l m n o p q s:Int) (t u:List Int) (w:Int) (y z:List Int) (next:Int->List Int->List Int->List (List (List Int))->Option ((List Int) × (List Int) × (List (List (List Int))))) (a:Int) (e f:List Int) (g:List (List (List Int))):Option ((List Int) × (List Int) × (List (List (List Int)))):=
 let A:=(decide (a<d))
 bif A then
  let B:=(Kd.nth (.slice (.int .i16)) b (Int.toNat a))
  gd ((0:Int)<=a/\a<(b.length:Int)) <|
  (w3.l1 K B b d h i j k l m n o p q s t u w y z K a 0 e f g:Option (Int × (List Int) × (List Int) × (List (List (List Int))))).bind fun (D,E,F,G)=>
   let H:=(wb .i64 (D+1))
   next H E F G
 else
  some (e,f,g)
def w3.l0 (K:Nat) (a:List (List Int)) (b d e f g h i j k l m o:Int) (p q:List Int) (s:Int) (t u:List Int) (n:Nat):Int->List Int->List Int->List (List (List Int))->Option ((List Int) × (List Int) × (List (List (List Int)))):=wq (w3.r0 K a b d e f g h i j k l m o p q s t u) (fun _ _ _ _=>none) n
def w3 (K:Nat) (l:List Int) (e f a b d g h i j k p:Int) (q s:List Int) (t:Int) (u w m n:List Int):Option ((List Int) × Int × (List Int) × (List Int)):=
 let y:=(wb .i64 (a*b))
 let z:=(wb .i64 (y*d))
 let A:=((l.length:Int) != z)
 bif A then
  some (([]:List Int),1,m,n)
 else
  (xb K l a).bind fun (o,_M)=>
  let B:=(List.replicate (Int.toNat a) ([]:List (List Int)))
  gd ((0:Int)<=a/\a<=a/\a*24<=140737488355328) <|
  (w3.l0 K o (o.length:Int) e f a b d g h i j k p q s t u w K 0 m n B:Option ((List Int) × (List Int) × (List (List (List Int))))).bind fun (D,E,F)=>
   (wm K e f a b d g h i j k F).bind fun (G,H,I,_N)=>
   (qW K e f a b d g h i j k G H I).bind fun (J,L)=>
   some (J,L,D,E)
def kh (K:Nat)  : Option (Bool):=
 (Wa K ).bind fun _=>
 (z7 K ).bind fun _=>
 (wT K 1 0 1 4 4 0 0 2 0 0 (List.replicate 388 none) 0 0).bind fun z=>match z with
 | .inl t=>
  let u:=(bif (t != 0) then true else true)
  bif u then
   some false
  else
   (qO K (List.replicate 16 (0:Int))).bind fun w=>
   (qO K (List.replicate 15 (0:Int))).bind fun _ai=>
   (z7 K ).bind fun _=>
   (wx K 1 0 1 4 4 0 0 2 0 0 w).bind fun (_aj,_ak,_al,_am)=>
   some false
 | .inr (.inl (_an,_ao,_ap,d,e,f,y))=>
  (wZ K (List.replicate 16 (0:Int)) 1 0 1 4 4 0 0 2 0 0 d e f y).bind fun (a,A,B)=>
  (wZ K (List.replicate 15 (0:Int)) 1 0 1 4 4 0 0 2 0 0 d e f B).bind fun (_aq,D,_au)=>
  (z7 K ).bind fun _=>
  (wx K 1 0 1 4 4 0 0 2 0 0 a).bind fun (_aw,_ay,E,F)=>
  let G:=((a.length:Int)==7)
  let g:=(bif (A==0) then G else false)
  let H:=(Kd.nth (.int .u8) a 0)
  let h:=(bif g then (H==156) else false)
  let I:=(Kd.nth (.int .u8) a 1)
  let i:=(bif h then (I==0) else false)
  let J:=(Kd.nth (.int .u8) a 2)
  let L:=(bif i then (J==2) else false)
  let M:=(bif L then (D==1) else false)
  let N:=(bif M then (F==0) else false)
  let O:=((E.length:Int)==4)
  let P:=(bif N then O else false)
  gd ((g=true->0<(a.length:Int))/\(h=true->1<(a.length:Int))/\(i=true->2<(a.length:Int))) <|
  some P
 | .inr (.inr (_az,_aA,_aB,j,k,l,m,n,o,Q,R))=>
  (w3 K (List.replicate 16 (0:Int)) 1 0 2 4 4 0 0 2 0 0 j k l m n o Q R).bind fun (b,S,T,U)=>
  (w3 K (List.replicate 15 (0:Int)) 1 0 2 4 4 0 0 2 0 0 j k l m n o T U).bind fun (_aD,V,_aE,_aF)=>
  (z7 K ).bind fun _=>
  (wx K 1 0 1 4 4 0 0 2 0 0 b).bind fun (_aG,_aH,W,X)=>
  let Y:=((b.length:Int)==7)
  let p:=(bif (S==0) then Y else false)
  let Z:=(Kd.nth (.int .u8) b 0)
  let q:=(bif p then (Z==156) else false)
  let aa:=(Kd.nth (.int .u8) b 1)
  let s:=(bif q then (aa==0) else false)
  let ab:=(Kd.nth (.int .u8) b 2)
  let ad:=(bif s then (ab==2) else false)
  let ae:=(bif ad then (V==1) else false)
  let af:=(bif ae then (X==0) else false)
  let ag:=((W.length:Int)==4)
  let ah:=(bif af then ag else false)
  gd ((p=true->0<(b.length:Int))/\(q=true->1<(b.length:Int))/\(s=true->2<(b.length:Int))) <|
  some ah
def qg.r0 (_K:Nat) (b:List (List Int)) (next:Int->Option ((Unit) ⊕ (Bool))) (a:Int):Option ((Unit) ⊕ (Bool)):=
 let d:=(decide (a<(b.length:Int)))
 bif d then
  let e:=(Kd.nth (.slice (.int .i32)) b (Int.toNat a))
  let f:=(e.length:Int)
  let g:=(decide (f>40))
  gd ((0:Int)<=a/\a<(b.length:Int)) <|
  bif g then
   some (.inr true)
  else
   let h:=(wb .i64 (a+1))
   next h
 else
  some (.inl ())
def qg.l0 (K:Nat) (a:List (List Int)) (n:Nat):Int->Option ((Unit) ⊕ (Bool)):=wq (qg.r0 K a) (fun _=>none) n
def qg (K:Nat) (a:List (List Int)):Option (Bool):=
 let b:=(decide ((a.length:Int)>40))
 bif b then
  some true
 else
  (qg.l0 K a K 0:Option ((Unit) ⊕ (Bool))).bind fun z=>match z with
  | .inl _=>
   some false
  | .inr r=>
   some r
def zq.r0 (K:Nat) (b:List (List (List Int))) (next:Int->Option ((Unit) ⊕ (Bool))) (a:Int):Option ((Unit) ⊕ (Bool)):=
 let d:=(decide (a<(b.length:Int)))
 bif d then
  let e:=(Kd.nth (.slice (.slice (.int .i32))) b (Int.toNat a))
  gd ((0:Int)<=a/\a<(b.length:Int)) <|
  (qg K e).bind fun f=>
  bif f then
   some (.inr true)
  else
   let g:=(wb .i64 (a+1))
   next g
 else
  some (.inl ())
def zq.l0 (K:Nat) (a:List (List (List Int))) (n:Nat):Int->Option ((Unit) ⊕ (Bool)):=wq (zq.r0 K a) (fun _=>none) n
def zq (K:Nat) (a:List (List (List Int))):Option (Bool):=
 let b:=(decide ((a.length:Int)>10))
 bif b then
  some true
 else
  (zq.l0 K a K 0:Option ((Unit) ⊕ (Bool))).bind fun z=>match z with
  | .inl _=>
   some false
  | .inr r=>
   some r
def wV.r1 (_K:Nat) (a:Int) (_l:List Int) (_m:List (List Int)) (d:List (List (List Int))) (next:Int->Option ((Unit) ⊕ (Bool))) (b:Int):Option ((Unit) ⊕ (Bool)):=
 let e:=(Kd.nth (.slice (.slice (.int .i64))) d (Int.toNat a))
 let f:=(e.length:Int)
 let g:=(decide (b<f))
 gd ((0:Int)<=a/\a<(d.length:Int)) <|
 bif g then
  let h:=(Kd.nth (.slice (.int .i64)) e (Int.toNat b))
  let i:=(h.length:Int)
  let j:=(decide (i>40))
  gd ((0:Int)<=a/\a<(d.length:Int)/\(0:Int)<=b/\b<(e.length:Int)) <|
  bif j then
   some (.inr true)
  else
   let k:=(wb .i64 (b+1))
   next k
 else
  some (.inl ())
def wV.l1 (K:Nat) (a:Int) (b:List Int) (d:List (List Int)) (e:List (List (List Int))) (n:Nat):Int->Option ((Unit) ⊕ (Bool)):=wq (wV.r1 K a b d e) (fun _=>none) n
def wV.r0 (K:Nat) (d:List Int) (e:List (List Int)) (b:List (List (List Int))) (next:Int->Option ((Unit) ⊕ (Bool))) (a:Int):Option ((Unit) ⊕ (Bool)):=
 let f:=(decide (a<(b.length:Int)))
 bif f then
  let g:=(Kd.nth (.slice (.slice (.int .i64))) b (Int.toNat a))
  let h:=(g.length:Int)
  let i:=(decide (h>10))
  gd ((0:Int)<=a/\a<(b.length:Int)) <|
  bif i then
   some (.inr true)
  else
   (wV.l1 K a d e b K 0:Option ((Unit) ⊕ (Bool))).bind fun z=>match z with
   | .inl _=>
    let j:=(wb .i64 (a+1))
    next j
   | .inr r=>
    some (.inr r)
 else
  some (.inl ())
def wV.l0 (K:Nat) (a:List Int) (b:List (List Int)) (d:List (List (List Int))) (n:Nat):Int->Option ((Unit) ⊕ (Bool)):=wq (wV.r0 K a b d) (fun _=>none) n
def wV.r2 (_K:Nat) (_i:List Int) (b:List (List Int)) (_j:List (List (List Int))) (next:Int->Option ((Unit) ⊕ (Bool))) (a:Int):Option ((Unit) ⊕ (Bool)):=
 let d:=(decide (a<(b.length:Int)))
 bif d then
  let e:=(Kd.nth (.slice (.int .i64)) b (Int.toNat a))
  let f:=(e.length:Int)
  let g:=(decide (f>40))
  gd ((0:Int)<=a/\a<(b.length:Int)) <|
  bif g then
   some (.inr true)
  else
   let h:=(wb .i64 (a+1))
   next h
 else
  some (.inl ())
def wV.l2 (K:Nat) (a:List Int) (b:List (List Int)) (d:List (List (List Int))) (n:Nat):Int->Option ((Unit) ⊕ (Bool)):=wq (wV.r2 K a b d) (fun _=>none) n
def wV (K:Nat) (a:List Int) (b:List (List Int)) (d:List (List (List Int))):Option (Bool):=
 let e:=(decide ((a.length:Int)>40))
 let f:=(decide ((d.length:Int)>40))
 let g:=(bif e then true else f)
 let h:=(decide ((b.length:Int)>10))
 let i:=(bif g then true else h)
 bif i then
  some true
 else
  (wV.l2 K a b d K 0:Option ((Unit) ⊕ (Bool))).bind fun z=>match z with
  | .inl _=>
   (wV.l0 K a b d K 0:Option ((Unit) ⊕ (Bool))).bind fun z=>match z with
   | .inl _=>
    some false
   | .inr r=>
    some r
  | .inr r=>
   some r
def vq (K:Nat) (a b:Int):Option (Int):=
 let d:=(wb .i64 ((wb .i64 a)+(wb .i64 b)))
 (jW K d).bind fun e=>
 some e
def vy (K:Nat) (a b:Int):Option (Int):=
 let d:=(wb .i64 ((wb .i64 a)-(wb .i64 b)))
 (jW K d).bind fun e=>
 some e
def xa (K:Nat) (a b:Int):Option (Int × Int):=
 (vq K a b).bind fun d=>
 (vy K a b).bind fun e=>
 some (d,e)
def qd.r1 (K:Nat) (f:List (List Int)) (a:Int) (_y:List (List Int)) (_z:Int) (g:List Int) (m:Int) (next:Int->List (List Int)->List (List Int)->Option ((List (List Int)) × (List (List Int)))) (b:Int) (d e:List (List Int)):Option ((List (List Int)) × (List (List Int))):=
 let n:=(decide (b<m))
 bif n then
  let o:=(Kd.nth (.int .i32) g (Int.toNat b))
  gd ((0:Int)<=b/\b<(g.length:Int)) <|
  let h:=(Kd.nth (.slice (.int .i32)) f (Int.toNat a))
  let p:=(Kd.nth (.int .i32) h (Int.toNat b))
  gd ((0:Int)<=a/\a<(f.length:Int)/\(0:Int)<=b/\b<(h.length:Int)) <|
  (xa K o p).bind fun (i,j)=>
  gd ((0:Int)<=a/\a<(d.length:Int)) <|
  let k:=(List.getD d (Int.toNat a) [])
  gd ((Int.toNat a)<d.length) <|
  let q:=(k++[i])
  gd (((k.length:Int)+([i].length:Int))*4<=70368744177664) <|
  gd ((0:Int)<=a/\a<(e.length:Int)) <|
  let l:=(List.getD e (Int.toNat a) [])
  gd ((Int.toNat a)<e.length) <|
  let s:=(l++[j])
  gd (((l.length:Int)+([j].length:Int))*4<=70368744177664) <|
  gd ((0:Int)<=a/\a<(d.length:Int)) <|
  let t:=(List.set d (Int.toNat a) q)
  gd ((Int.toNat a)<d.length) <|
  gd ((0:Int)<=a/\a<(e.length:Int)) <|
  let u:=(List.set e (Int.toNat a) s)
  gd ((Int.toNat a)<e.length) <|
  let w:=(wb .i64 (b+1))
  next w t u
 else
  some (d,e)
def qd.l1 (K:Nat) (a:List (List Int)) (b:Int) (d:List (List Int)) (e:Int) (f:List Int) (g:Int) (n:Nat):Int->List (List Int)->List (List Int)->Option ((List (List Int)) × (List (List Int))):=wq (qd.r1 K a b d e f g) (fun _ _ _=>none) n
def qd.r0 (K:Nat) (h b:List (List Int)) (d:Int) (next:Int->List (List Int)->List (List Int)->Option ((List (List Int)) × (List (List Int)))) (a:Int) (e f:List (List Int)):Option ((List (List Int)) × (List (List Int))):=
 let i:=(decide (a<d))
 bif i then
  let g:=(Kd.nth (.slice (.int .i32)) b (Int.toNat a))
  gd ((0:Int)<=a/\a<(b.length:Int)) <|
  let j:=(g.length:Int)
  (qd.l1 K h a b d g j K 0 e f:Option ((List (List Int)) × (List (List Int)))).bind fun (k,l)=>
   let m:=(wb .i64 (a+1))
   next m k l
 else
  some (e,f)
def qd.l0 (K:Nat) (a b:List (List Int)) (d:Int) (n:Nat):Int->List (List Int)->List (List Int)->Option ((List (List Int)) × (List (List Int))):=wq (qd.r0 K a b d) (fun _ _ _=>none) n
def qd (K:Nat) (a b:List (List Int)):Option ((List (List Int)) × (List (List Int)) × Int):=
 (
  (zU K a).bind fun e=>
  bif (e==0) then
   some true
  else
   (zU K a).bind fun f=>
   (zU K b).bind fun g=>
   let h:=(f != g)
   let i:=((a.length:Int) != (b.length:Int))
   let j:=(bif h then true else i)
   some j:Option (Bool)).bind fun k=>
  bif k then
   some (([]:List (List Int)),([]:List (List Int)),1)
  else
   let d:=(List.replicate (Int.toNat (a.length:Int)) ([]:List Int))
   gd ((0:Int)<=(a.length:Int)/\(a.length:Int)<=(a.length:Int)/\(a.length:Int)*24<=140737488355328) <|
   gd ((0:Int)<=(a.length:Int)/\(a.length:Int)<=(a.length:Int)/\(a.length:Int)*24<=140737488355328) <|
   (qd.l0 K b a (a.length:Int) K 0 d d:Option ((List (List Int)) × (List (List Int)))).bind fun (l,m)=>
    some (l,m,0)
def xJ (K:Nat) (a b:List (List Int)):Option ((List (List Int)) × (List (List Int)) × Int):=
 (qd K a b).bind fun (d,e,f)=>
 some (d,e,f)
def z4.r0 (K:Nat) (e:List Int) (f:Int) (_p:List (List Int)) (_q:List (List (List Int))) (g h:List (List Int)) (next:Int->List (List Int)->List (List Int)->Option ((List (List Int)) × (List (List Int)))) (a:Int) (b d:List (List Int)):Option ((List (List Int)) × (List (List Int))):=
 let i:=(decide (a<f))
 bif i then
  (
   let j:=(Kd.nth (.int .i64) e (Int.toNat a))
   gd ((0:Int)<=a/\a<(e.length:Int)) <|
   bif (j==1) then
    (wO K a g h b d).bind fun (k,l)=>
    some (k,l)
   else
    some (b,d):Option ((List (List Int)) × (List (List Int)))).bind fun (m,n)=>
   let o:=(wb .i64 (a+1))
   next o m n
 else
  some (b,d)
def z4.l0 (K:Nat) (a:List Int) (b:Int) (d:List (List Int)) (e:List (List (List Int))) (f g:List (List Int)) (n:Nat):Int->List (List Int)->List (List Int)->Option ((List (List Int)) × (List (List Int))):=wq (z4.r0 K a b d e f g) (fun _ _ _=>none) n
def z4 (K:Nat) (a:List Int) (b:List (List Int)) (d:List (List (List Int))) (e f g h:List (List Int)):Option ((List (List Int)) × (List (List Int))):=
 (z4.l0 K a (a.length:Int) b d e f K 0 g h:Option ((List (List Int)) × (List (List Int)))).bind fun (i,j)=>
  some (i,j)
def qK (K:Nat) (a:List (List (List Int))) (b:List Int) (f:List (List Int)) (g:List (List (List Int))):Option ((List (List (List Int)))):=
 (z5 K b 1).bind fun h=>
 bif (!h) then
  some a
 else
  let d:=(Kd.nth (.slice (.slice (.int .i32))) a 0)
  gd (0<(a.length:Int)) <|
  let e:=(Kd.nth (.slice (.slice (.int .i32))) a 1)
  gd (1<(a.length:Int)) <|
  (xJ K d e).bind fun (i,j,_o)=>
  gd (0<(a.length:Int)) <|
  (zO K d).bind fun k=>
  gd (1<(a.length:Int)) <|
  (zO K e).bind fun l=>
  (z4 K b f g i j k l).bind fun (m,n)=>
  some ([m,n])
def w9.r2 (K:Nat) (e:List (List Int)) (b _s:Int) (_t:List (List (List Int))) (_u _w:Int) (f:List Int) (k:Int) (_y:List Int) (g:List (List Int)) (_z:List (List (List Int))) (next:Int->List Int->Option ((List Int))) (a:Int) (d:List Int):Option ((List Int)):=
 let l:=(decide (a<k))
 bif l then
  let m:=(Kd.nth (.int .i64) f (Int.toNat a))
  gd ((0:Int)<=a/\a<(f.length:Int)) <|
  let h:=(Kd.nth (.slice (.int .i64)) g (Int.toNat b))
  gd ((0:Int)<=b/\b<(g.length:Int)) <|
  let n:=(Kd.nth (.int .i64) h (Int.toNat a))
  gd ((0:Int)<=a/\a<(h.length:Int)) <|
  let i:=(Kd.nth (.slice (.int .i64)) e (Int.toNat b))
  gd ((0:Int)<=b/\b<(e.length:Int)) <|
  let o:=(Kd.nth (.int .i64) i (Int.toNat a))
  gd ((0:Int)<=a/\a<(i.length:Int)) <|
  (kQ K m n o).bind fun (j,_A)=>
  let p:=(d++[j])
  gd (((d.length:Int)+([j].length:Int))*4<=70368744177664) <|
  let q:=(wb .i64 (a+1))
  next q p
 else
  some d
def w9.l2 (K:Nat) (a:List (List Int)) (b d:Int) (e:List (List (List Int))) (f g:Int) (h:List Int) (i:Int) (j:List Int) (k:List (List Int)) (l:List (List (List Int))) (n:Nat):Int->List Int->Option ((List Int)):=wq (w9.r2 K a b d e f g h i j k l) (fun _ _=>none) n
def w9.r1 (K:Nat) (k:List (List Int)) (a l:Int) (e:List (List (List Int))) (f:Int) (m:List Int) (n:List (List Int)) (next:Int->List (List (List Int))->Option ((List (List (List Int))))) (d:Int) (b:List (List (List Int))):Option ((List (List (List Int)))):=
 let o:=(decide (d<f))
 bif o then
  let g:=(Kd.nth (.slice (.slice (.int .i64))) e (Int.toNat d))
  gd ((0:Int)<=d/\d<(e.length:Int)) <|
  let h:=(Kd.nth (.slice (.int .i64)) g (Int.toNat a))
  let p:=(h.length:Int)
  gd ((0:Int)<=a/\a<(g.length:Int)) <|
  (w9.l2 K k a l e f d h p m n b K 0 ([]:List Int):Option ((List Int))).bind fun i=>
   let j:=(List.getD b (Int.toNat a) [])
   gd ((0:Int)<=a/\a<(b.length:Int)/\(Int.toNat a)<b.length) <|
   let q:=(j++[i])
   let s:=(List.set b (Int.toNat a) q)
   gd (((j.length:Int)+([i].length:Int))*24<=70368744177664/\(0:Int)<=a/\a<(b.length:Int)/\(Int.toNat a)<b.length) <|
   let t:=(wb .i64 (d+1))
   next t s
 else
  some b
def w9.l1 (K:Nat) (a:List (List Int)) (b d:Int) (e:List (List (List Int))) (f:Int) (g:List Int) (h:List (List Int)) (n:Nat):Int->List (List (List Int))->Option ((List (List (List Int)))):=wq (w9.r1 K a b d e f g h) (fun _ _=>none) n
def w9.r0 (K:Nat) (f:List (List Int)) (b:Int) (g:List Int) (h:List (List Int)) (d:List (List (List Int))) (next:Int->List (List (List Int))->Option ((List (List (List Int))))) (a:Int) (e:List (List (List Int))):Option ((List (List (List Int)))):=
 let i:=(decide (a<b))
 bif i then
  (w9.l1 K f a b d (d.length:Int) g h K 0 e:Option ((List (List (List Int))))).bind fun j=>
   let k:=(wb .i64 (a+1))
   next k j
 else
  some e
def w9.l0 (K:Nat) (a:List (List Int)) (b:Int) (d:List Int) (e:List (List Int)) (f:List (List (List Int))) (n:Nat):Int->List (List (List Int))->Option ((List (List (List Int)))):=wq (w9.r0 K a b d e f) (fun _ _=>none) n
def w9 (K:Nat) (f g a h i j k l m n:Int) (b:List Int) (d:List (List Int)) (e:List (List (List Int))):Option ((List (List (List Int))) × Int):=
 (qG K f g a h i j k l m n).bind fun o=>
 bif (o != 0) then
  some (([]:List (List (List Int))),o)
 else
  (wr K f g a h i j k l m n b d e).bind fun (q,s)=>
  bif (!s) then
   some (([]:List (List (List Int))),1)
  else
   let p:=(List.replicate (Int.toNat a) ([]:List (List Int)))
   gd ((0:Int)<=a/\a<=a/\a*24<=140737488355328) <|
   let t:=(p.length:Int)
   (w9.l0 K q t b d e K 0 p:Option ((List (List (List Int))))).bind fun u=>
    (qK K u b d e).bind fun w=>
    some (w,0)
def qc.r0 (_K:Nat) (_j _k d e _l _m _n _o _p _q:Int) (next:Int->Int->Option (Int)) (a b:Int):Option (Int):=
 let f:=(decide (b<d))
 bif f then
  let g:=(wb .i64 (4*e))
  let h:=(wb .i64 (a+g))
  let i:=(wb .i64 (b+1))
  next h i
 else
  some a
def qc.l0 (K:Nat) (a b d e f g h i j k:Int) (n:Nat):Int->Int->Option (Int):=wq (qc.r0 K a b d e f g h i j k) (fun _ _=>none) n
def qc (K:Nat) (a i j b d k e f l g:Int):Option (Int):=
 bif (a==2) then
  let m:=(wb .i64 (g*8))
  some m
 else
  let n:=(wb .i64 (d*f))
  let o:=(wb .i64 (32+n))
  (qc.l0 K a i j b d k e f l g K o 0:Option (Int)).bind fun h=>
   (
    bif (e==1) then
     let p:=(wb .i64 (h+b))
     some p
    else
     some h:Option (Int)).bind fun q=>
    some q
def qU (K:Nat) (i f a d b g h e j k:Int):Option (Bool):=
 let l:=(bif (i != 1) then true else (j != 0))
 let m:=(bif l then true else (k != 0))
 bif m then
  some false
 else
  let n:=(decide (f<0))
  let o:=(decide (f>3))
  let p:=(bif n then true else o)
  let q:=(decide (a<1))
  let s:=(bif p then true else q)
  let t:=(decide (a>2))
  let u:=(bif s then true else t)
  let w:=(decide (g<0))
  let y:=(bif u then true else w)
  let z:=(decide (g>1))
  let A:=(bif y then true else z)
  bif A then
   some false
  else
   let B:=(bif (d != 4) then (d != 8) else false)
   let D:=(bif (b != 4) then (b != 8) else false)
   let E:=(bif D then (b != 12) else false)
   let F:=(bif E then (b != 16) else false)
   let G:=(bif B then true else F)
   bif G then
    some false
   else
    let H:=(bif (h != 1) then true else (a != 2))
    let I:=(bif (h != 0) then H else false)
    bif I then
     some false
    else
     (
      let J:=(decide (e>=2))
      let L:=(decide (e<=250))
      let M:=(bif J then L else false)
      let N:=(wb .i64 (16*d))
      let O:=(wb .i64 (N*a))
      let P:=(decide (e<=O))
      let Q:=(bif M then P else false)
      bif Q then
       (qc K i f a d b g h e j k).bind fun R=>
       let S:=(decide (R<=4096))
       some S
      else
       some false:Option (Bool)).bind fun T=>
      some T
def zh.r1 (_K:Nat) (d:List (List (List Int))) (b _l _m _n f g _o _p _q _s _t:Int) (next:Int->Option ((Unit) ⊕ (Bool))) (a:Int):Option ((Unit) ⊕ (Bool)):=
 let h:=(decide (a<g))
 bif h then
  let e:=(Kd.nth (.slice (.slice (.int .i32))) d (Int.toNat b))
  gd ((0:Int)<=b/\b<(d.length:Int)) <|
  let i:=(Kd.nth (.slice (.int .i32)) e (Int.toNat a))
  gd ((0:Int)<=a/\a<(e.length:Int)) <|
  let j:=(i.length:Int)
  bif (j != f) then
   some (.inr false)
  else
   let k:=(wb .i64 (a+1))
   next k
 else
  some (.inl ())
def zh.l1 (K:Nat) (a:List (List (List Int))) (b d e f g h i j k l m:Int) (n:Nat):Int->Option ((Unit) ⊕ (Bool)):=wq (zh.r1 K a b d e f g h i j k l m) (fun _=>none) n
def zh.r0 (K:Nat) (b:List (List (List Int))) (e f g h d i j k l m:Int) (next:Int->Option ((Unit) ⊕ (Bool))) (a:Int):Option ((Unit) ⊕ (Bool)):=
 let n:=(decide (a<(b.length:Int)))
 bif n then
  let o:=(Kd.nth (.slice (.slice (.int .i32))) b (Int.toNat a))
  gd ((0:Int)<=a/\a<(b.length:Int)) <|
  let p:=(o.length:Int)
  bif (p != d) then
   some (.inr false)
  else
   (zh.l1 K b a e f g h d i j k l m K 0:Option ((Unit) ⊕ (Bool))).bind fun z=>match z with
   | .inl _=>
    let q:=(wb .i64 (a+1))
    next q
   | .inr r=>
    some (.inr r)
 else
  some (.inl ())
def zh.l0 (K:Nat) (a:List (List (List Int))) (b d e f g h i j k l:Int) (n:Nat):Int->Option ((Unit) ⊕ (Bool)):=wq (zh.r0 K a b d e f g h i j k l) (fun _=>none) n
def zh (K:Nat) (d e a f g h i j k l:Int) (b:List (List (List Int))):Option (Bool):=
 let m:=((b.length:Int) != a)
 bif m then
  some false
 else
  (zh.l0 K b d e a f g h i j k l K 0:Option ((Unit) ⊕ (Bool))).bind fun z=>match z with
  | .inl _=>
   some true
  | .inr r=>
   some r
def w4 (_K:Nat) (d a:Int):Option (Int):=
 let b:=(wb .i64 (Int.tdiv d a))
 gd (a≠0) <|
 let e:=(wb .i64 (b*a))
 let f:=(decide (e>d))
 (
  bif f then
   let g:=(wb .i64 (b-1))
   some g
  else
   some b:Option (Int)).bind fun h=>
  some h
def wR.r1 (K:Nat) (d h:List (List Int)) (a:Int) (_B _D:List (List Int)) (next:Int->List Int->List Int->Option ((List Int) × (List Int))) (b:Int) (e f:List Int):Option ((List Int) × (List Int)):=
 let g:=(Kd.nth (.slice (.int .i32)) d (Int.toNat a))
 let n:=(g.length:Int)
 let o:=(decide (b<n))
 gd ((0:Int)<=a/\a<(d.length:Int)) <|
 bif o then
  gd ((0:Int)<=a/\a<(d.length:Int)) <|
  let p:=(Kd.nth (.int .i32) g (Int.toNat b))
  gd ((0:Int)<=b/\b<(g.length:Int)) <|
  let i:=(wb .i64 p)
  let j:=(Kd.nth (.slice (.int .i32)) h (Int.toNat a))
  gd ((0:Int)<=a/\a<(h.length:Int)) <|
  let q:=(Kd.nth (.int .i32) j (Int.toNat b))
  gd ((0:Int)<=b/\b<(j.length:Int)) <|
  let k:=(wb .i64 q)
  let s:=(wb .i64 (i+k))
  (w4 K s 2).bind fun t=>
  let l:=[(wb .i32 t)]
  let u:=(e++l)
  gd (((e.length:Int)+(l.length:Int))*4<=70368744177664) <|
  let w:=(wb .i64 (i-k))
  (w4 K w 2).bind fun y=>
  let m:=[(wb .i32 y)]
  let z:=(f++m)
  gd (((f.length:Int)+(m.length:Int))*4<=70368744177664) <|
  let A:=(wb .i64 (b+1))
  next A u z
 else
  some (e,f)
def wR.l1 (K:Nat) (a b:List (List Int)) (d:Int) (e f:List (List Int)) (n:Nat):Int->List Int->List Int->Option ((List Int) × (List Int)):=wq (wR.r1 K a b d e f) (fun _ _ _=>none) n
def wR.r0 (K:Nat) (e h:List (List Int)) (next:Int->List (List Int)->List (List Int)->Option ((List (List Int)) × (List (List Int)))) (d:Int) (a b:List (List Int)):Option ((List (List Int)) × (List (List Int))):=
 let i:=(decide (d<(e.length:Int)))
 bif i then
  (wR.l1 K e h d a b K 0 ([]:List Int) ([]:List Int):Option ((List Int) × (List Int))).bind fun (f,g)=>
   let j:=(a++[f])
   gd (((a.length:Int)+([f].length:Int))*24<=70368744177664) <|
   let k:=(b++[g])
   gd (((b.length:Int)+([g].length:Int))*24<=70368744177664) <|
   let l:=(wb .i64 (d+1))
   next l j k
 else
  some (a,b)
def wR.l0 (K:Nat) (a b:List (List Int)) (n:Nat):Int->List (List Int)->List (List Int)->Option ((List (List Int)) × (List (List Int))):=wq (wR.r0 K a b) (fun _ _ _=>none) n
def wR (K:Nat) (a b:List (List Int)):Option ((List (List Int)) × (List (List Int))):=
 (wR.l0 K a b K 0 ([]:List (List Int)) ([]:List (List Int)):Option ((List (List Int)) × (List (List Int)))).bind fun (d,e)=>
  some (d,e)
def wK.r0 (_K:Nat) (d:Int) (next:Int->Int->Option (Int)) (a b:Int):Option (Int):=
 let e:=(decide (b<d))
 bif e then
  let f:=(wb .i64 (a*2))
  let g:=(wb .i64 (b+1))
  next f g
 else
  some a
def wK.l0 (K:Nat) (a:Int) (n:Nat):Int->Int->Option (Int):=wq (wK.r0 K a) (fun _ _=>none) n
def wK (K:Nat) (a:Int):Option (Int):=
 (wK.l0 K a K 1 0:Option (Int)).bind fun b=>
  some b
def zw.r0 (K:Nat) (d:Int) (next:Int->Option ((Unit) ⊕ (Int))) (a:Int):Option ((Unit) ⊕ (Int)):=
 let e:=(decide (a<15))
 bif e then
  let b:=(wb .i64 (a+1))
  (wK K b).bind fun f=>
  let g:=(decide (f>d))
  bif g then
   some (.inr a)
  else
   next b
 else
  some (.inl ())
def zw.l0 (K:Nat) (a:Int) (n:Nat):Int->Option ((Unit) ⊕ (Int)):=wq (zw.r0 K a) (fun _=>none) n
def zw (K:Nat) (a:Int):Option (Int):=
 (zw.l0 K a K 0:Option ((Unit) ⊕ (Int))).bind fun z=>match z with
 | .inl _=>
  some 15
 | .inr r=>
  some r
def wH.r1 (_K:Nat) (b:List (List Int)) (d:Int) (_p:List Int) (next:Int->Int->Option (Int)) (e a:Int):Option (Int):=
 let i:=(decide (a<(b.length:Int)))
 bif i then
  (
   let g:=(Kd.nth (.slice (.int .i32)) b (Int.toNat a))
   let j:=(Kd.nth (.int .i32) g (Int.toNat d))
   let f:=(wb .i64 j)
   gd ((0:Int)<=a/\a<(b.length:Int)/\(0:Int)<=d/\d<(g.length:Int)) <|
   let k:=(decide (f<0))
   (
    bif k then
     let l:=(wb .i64 (0-f))
     some l
    else
     some f:Option (Int)).bind fun h=>
    let m:=(decide (h>e))
    bif m then
     some h
    else
     some e:Option (Int)).bind fun n=>
   let o:=(wb .i64 (a+1))
   next n o
 else
  some e
def wH.l1 (K:Nat) (a:List (List Int)) (b:Int) (d:List Int) (n:Nat):Int->Int->Option (Int):=wq (wH.r1 K a b d) (fun _ _=>none) n
def wH.r0 (K:Nat) (b:List (List Int)) (next:Int->List Int->Option ((List Int))) (d:Int) (a:List Int):Option ((List Int)):=
 let f:=(Kd.nth (.slice (.int .i32)) b 0)
 let g:=(f.length:Int)
 let h:=(decide (d<g))
 gd (0<(b.length:Int)) <|
 bif h then
  (wH.l1 K b d a K 0 0:Option (Int)).bind fun i=>
   (zw K i).bind fun e=>
   let j:=(a++[e])
   gd (((a.length:Int)+([e].length:Int))*8<=70368744177664) <|
   let k:=(wb .i64 (d+1))
   next k j
 else
  some a
def wH.l0 (K:Nat) (a:List (List Int)) (n:Nat):Int->List Int->Option ((List Int)):=wq (wH.r0 K a) (fun _ _=>none) n
def wH (K:Nat) (a:List (List Int)):Option ((List Int)):=
 (wH.l0 K a K 0 ([]:List Int):Option ((List Int))).bind fun b=>
  some b
def z8.r0 (_K:Nat) (d f g h:List Int) (next:Int->List (Bool)->Option ((List (Bool)))) (a:Int) (e:List (Bool)):Option ((List (Bool))):=
 let k:=(decide (a<(d.length:Int)))
 bif k then
  let i:=(wb .i64 (a+1))
  let b:=(decide (i<(d.length:Int)))
  let l:=(Kd.nth (.int .i64) d (Int.toNat a))
  gd ((b=true->(0:Int)<=a)/\(b=true->a<(d.length:Int))) <|
  let m:=(Kd.nth (.int .i64) f (Int.toNat a))
  gd ((b=true->(0:Int)<=a)/\(b=true->a<(f.length:Int))) <|
  let n:=(wb .i64 (l+m))
  let o:=(Kd.nth (.int .i64) g (Int.toNat a))
  gd ((b=true->(0:Int)<=a)/\(b=true->a<(g.length:Int))) <|
  let p:=(Kd.nth (.int .i64) h (Int.toNat a))
  gd ((b=true->(0:Int)<=a)/\(b=true->a<(h.length:Int))) <|
  let q:=(wb .i64 (o+p))
  let s:=(decide (n>q))
  let j:=(bif b then s else false)
  let t:=(e++[j])
  gd (((e.length:Int)+([j].length:Int))*1<=70368744177664) <|
  next i t
 else
  some e
def z8.l0 (K:Nat) (a b d e:List Int) (n:Nat):Int->List (Bool)->Option ((List (Bool))):=wq (z8.r0 K a b d e) (fun _ _=>none) n
def z8 (K:Nat) (a b:List (List Int)):Option ((List (Bool))):=
 (wR K a b).bind fun (d,e)=>
 (wH K a).bind fun f=>
 (wH K b).bind fun g=>
 (wH K d).bind fun h=>
 (wH K e).bind fun i=>
 (z8.l0 K f g h i K 0 ([]:List (Bool)):Option ((List (Bool)))).bind fun j=>
  some j
def qb (_K:Nat) (_j a _k d _l _m _n _o _p _q b:Int):Option (Int):=
 bif (d==4) then
  bif (b==0) then
   bif (a==0) then
    some (-1)
   else
    some (-2)
  else
   let e:=(decide (a>0))
   let f:=(bif (b==3) then e else false)
   bif f then
    some 1
   else
    some 0
 else
  (
   bif (b==0) then
    let g:=(wb .i64 ((-2)-(imin a 2)))
    some (.inr g)
   else
    bif (b==6) then
     let h:=(decide (a>0))
     bif h then
      some (.inr 1)
     else
      some (.inl ())
    else
     bif (b==7) then
      let i:=(decide (a>0))
      bif i then
       some (.inr 2)
      else
       some (.inr 1)
     else
      some (.inl ()):Option ((Unit) ⊕ (Int))).bind fun z=>match z with
  | .inl _=>
   some 0
  | .inr r=>
   some r
def zc.r1 (K:Nat) (g:List (List Int)) (b l m h n o i p q s t:Int) (next:Int->List Int->Option ((List Int))) (a:Int) (d:List Int):Option ((List Int)):=
 let u:=(decide (a<h))
 bif u then
  let j:=(Kd.nth (.slice (.int .i64)) g (Int.toNat a))
  let e:=(Kd.nth (.int .i64) j (Int.toNat b))
  gd ((0:Int)<=a/\a<(g.length:Int)/\(0:Int)<=b/\b<(j.length:Int)) <|
  (
   bif (i==0) then
    (qb K l m h n o i p q s t b).bind fun w=>
    let f:=(wb .i64 (e-w))
    let y:=(decide (f>0))
    (
     bif y then
      let z:=(wb .i64 (Int.tdiv f 2))
      some z
     else
      some f:Option (Int)).bind fun A=>
     bif (e==0) then
      some (-5)
     else
      some A
   else
    some e:Option (Int)).bind fun k=>
   let B:=(d++[k])
   gd (((d.length:Int)+([k].length:Int))*8<=70368744177664) <|
   let D:=(wb .i64 (a+1))
   next D B
 else
  some d
def zc.l1 (K:Nat) (a:List (List Int)) (b d e f g h i j k l m:Int) (n:Nat):Int->List Int->Option ((List Int)):=wq (zc.r1 K a b d e f g h i j k l m) (fun _ _=>none) n
def zc.r0 (K:Nat) (e:List (List Int)) (f g h b i j k l m n:Int) (next:Int->List Int->Option ((List Int))) (a:Int) (d:List Int):Option ((List Int)):=
 let o:=(decide (a<b))
 bif o then
  (zc.l1 K e a f g h b i j k l m n K 0 d:Option ((List Int))).bind fun p=>
   let q:=(wb .i64 (a+1))
   next q p
 else
  some d
def zc.l0 (K:Nat) (a:List (List Int)) (b d e f g h i j k l:Int) (n:Nat):Int->List Int->Option ((List Int)):=wq (zc.r0 K a b d e f g h i j k l) (fun _ _=>none) n
def zc (K:Nat) (a b d e f g h i j k:Int) (l:List (List Int)):Option ((List Int)):=
 (zc.l0 K l a b d e f g h i j k K 0 ([]:List Int):Option ((List Int))).bind fun m=>
  some m
def z6.r0 (_K:Nat) (b:List Int) (g:Int) (next:Int->Int->Option (Int)) (d a:Int):Option (Int):=
 let j:=(decide (a<(b.length:Int)))
 bif j then
  (
   let e:=(Kd.nth (.int .i64) b (Int.toNat a))
   let h:=(wb .i64 (g+1))
   gd ((0:Int)<=a/\a<(b.length:Int)) <|
   (
    bif (e==h) then
     let k:=(wb .i64 (d+2))
     some k
    else
     some d:Option (Int)).bind fun i=>
    let f:=(decide (e>h))
    let l:=(wb .i64 (g+16))
    let m:=(decide (e<l))
    let n:=(bif f then m else false)
    gd ((0:Int)<=a/\a<(b.length:Int)/\(f=true->(0:Int)<=a)/\(f=true->a<(b.length:Int))) <|
    bif n then
     let o:=(wb .i64 (i+1))
     some o
    else
     some i:Option (Int)).bind fun p=>
   let q:=(wb .i64 (a+1))
   next p q
 else
  some d
def z6.l0 (K:Nat) (a:List Int) (b:Int) (n:Nat):Int->Int->Option (Int):=wq (z6.r0 K a b) (fun _ _=>none) n
def z6 (K:Nat) (a:List Int) (b:Int):Option (Int):=
 (z6.l0 K a b K 0 0:Option (Int)).bind fun d=>
  some d
def wh.r0 (_K:Nat) (g:List Int) (_u _w _y _z _A _B _D h _E _F:Int) (next:Int->Int->List Int->Option ((List Int))) (e a:Int) (b:List Int):Option ((List Int)):=
 let i:=(decide (a<(g.length:Int)))
 let j:=(decide (e<h))
 let k:=(bif i then j else false)
 bif k then
  (
   let f:=(Kd.nth (.int .i64) b (Int.toNat a))
   let d:=(decide (f>=2))
   let l:=(decide (f<=15))
   let m:=(bif d then l else false)
   gd ((0:Int)<=a/\a<(b.length:Int)/\(Int.toNat a)<b.length/\(d=true->(0:Int)<=a)/\(d=true->a<(b.length:Int))/\(d=true->(Int.toNat a)<b.length)) <|
   bif m then
    let n:=(wb .i64 (f+1))
    let o:=(List.set b (Int.toNat a) n)
    gd ((0:Int)<=a/\a<(b.length:Int)/\(Int.toNat a)<b.length/\(0:Int)<=a/\a<(b.length:Int)/\(Int.toNat a)<b.length) <|
    let p:=(wb .i64 (e+1))
    some (p,o)
   else
    some (e,b):Option (Int × (List Int))).bind fun (q,s)=>
   let t:=(wb .i64 (a+1))
   next q t s
 else
  some b
def wh.l0 (K:Nat) (a:List Int) (b d e f g h i j k l:Int) (n:Nat):Int->Int->List Int->Option ((List Int)):=wq (wh.r0 K a b d e f g h i j k l) (fun _ _ _=>none) n
def wh.r1 (_K:Nat) (f:List Int) (i _G _H _I _J _L _M _N h _O _P:Int) (next:Int->Int->List Int->Option (Int × (List Int))) (d a:Int) (b:List Int):Option (Int × (List Int)):=
 let j:=(decide (a<(f.length:Int)))
 let k:=(decide (d<h))
 let l:=(bif j then k else false)
 bif l then
  (
   let g:=(Kd.nth (.int .i64) b (Int.toNat a))
   let e:=(decide (g>=2))
   let m:=(decide (g<=15))
   let n:=(bif e then m else false)
   gd ((0:Int)<=a/\a<(b.length:Int)/\(Int.toNat a)<b.length/\(e=true->(0:Int)<=a)/\(e=true->a<(b.length:Int))/\(e=true->(Int.toNat a)<b.length)) <|
   bif n then
    let o:=(wb .i64 (g+1))
    let p:=(List.set b (Int.toNat a) o)
    gd ((0:Int)<=a/\a<(b.length:Int)/\(Int.toNat a)<b.length/\(0:Int)<=a/\a<(b.length:Int)/\(Int.toNat a)<b.length) <|
    let q:=(wb .i64 (d+1))
    some (q,p)
   else
    let s:=(Kd.nth (.int .i64) f (Int.toNat a))
    let t:=(wb .i64 (i+1))
    let u:=(s==t)
    let w:=(wb .i64 (d+1))
    let y:=(decide (w<h))
    let z:=(bif u then y else false)
    gd ((0:Int)<=a/\a<(f.length:Int)) <|
    bif z then
     let A:=(List.set b (Int.toNat a) 2)
     gd ((0:Int)<=a/\a<(b.length:Int)/\(Int.toNat a)<b.length) <|
     let B:=(wb .i64 (d+2))
     some (B,A)
    else
     some (d,b):Option (Int × (List Int))).bind fun (D,E)=>
   let F:=(wb .i64 (a+1))
   next D F E
 else
  some (d,b)
def wh.l1 (K:Nat) (a:List Int) (b d e f g h i j k l m:Int) (n:Nat):Int->Int->List Int->Option (Int × (List Int)):=wq (wh.r1 K a b d e f g h i j k l m) (fun _ _ _=>none) n
def wh.r2 (_K:Nat) (d:List Int) (e _o _p _q _s _t _u _w _y _z _A _B:Int) (next:Int->List Int->Option ((List Int))) (a:Int) (b:List Int):Option ((List Int)):=
 let g:=(decide (a<(d.length:Int)))
 bif g then
  (
   let f:=(Kd.nth (.int .i64) d (Int.toNat a))
   let h:=(wb .i64 (e+2))
   let i:=(decide (f>=h))
   gd ((0:Int)<=a/\a<(d.length:Int)) <|
   bif i then
    let j:=(wb .i64 (f-e))
    let k:=(imin j 16)
    let l:=(List.set b (Int.toNat a) k)
    gd ((0:Int)<=a/\a<(d.length:Int)/\(0:Int)<=a/\a<(b.length:Int)/\(Int.toNat a)<b.length) <|
    some l
   else
    some b:Option ((List Int))).bind fun m=>
   let n:=(wb .i64 (a+1))
   next n m
 else
  some b
def wh.l2 (K:Nat) (a:List Int) (b d e f g h i j k l m o:Int) (n:Nat):Int->List Int->Option ((List Int)):=wq (wh.r2 K a b d e f g h i j k l m o) (fun _ _=>none) n
def wh.r3 (K:Nat) (e:List Int) (_l _m _n _o _p _q _s f _t _u:Int) (next:Int->Int->Int->Option (Int × Int × Int)) (g h i:Int):Option (Int × Int × Int):=
 let a:=(wb .i64 (g-1))
 let b:=(wb .i64 (h+i))
 (z6 K e a).bind fun d=>
 let j:=(wb .i64 (b+d))
 let k:=(decide (j>=f))
 bif k then
  some (a,b,d)
 else
  next a b d
def wh.l3 (K:Nat) (a:List Int) (b d e f g h i j k l:Int) (n:Nat):Int->Int->Int->Option (Int × Int × Int):=wq (wh.r3 K a b d e f g h i j k l) (fun _ _ _=>none) n
def wh.r4 (_K:Nat) (b:List Int) (_i _j _k _l _m _n _o _p _q _s:Int) (next:Int->Int->Option (Int)) (d a:Int):Option (Int):=
 let e:=(decide (a<(b.length:Int)))
 bif e then
  let f:=(Kd.nth (.int .i64) b (Int.toNat a))
  let g:=(imax d f)
  gd ((0:Int)<=a/\a<(b.length:Int)) <|
  let h:=(wb .i64 (a+1))
  next g h
 else
  some d
def wh.l4 (K:Nat) (a:List Int) (b d e f g h i j k l:Int) (n:Nat):Int->Int->Option (Int):=wq (wh.r4 K a b d e f g h i j k l) (fun _ _=>none) n
def wh (K:Nat) (d e f g h i j b k l:Int) (q:List (List Int)):Option ((List Int)):=
 (zc K d e f g h i j b k l q).bind fun a=>
 let s:=(Kd.nth (.int .i64) a 0)
 gd (0<(a.length:Int)) <|
 (wh.l4 K a d e f g h i j b k l K s 1:Option (Int)).bind fun t=>
  let u:=(wb .i64 (t+1))
  (wh.l3 K a d e f g h i j b k l K u 0 0:Option (Int × Int × Int)).bind fun (m,n,w)=>
   let y:=(wb .i64 (n+w))
   (
    bif (y==b) then
     let z:=(wb .i64 (m-1))
     some (z,b)
    else
     some (m,n):Option (Int × Int)).bind fun (o,p)=>
    let A:=(List.replicate (Int.toNat (a.length:Int)) (0:Int))
    gd ((0:Int)<=(a.length:Int)/\(a.length:Int)<=(a.length:Int)/\(a.length:Int)*8<=140737488355328) <|
    (wh.l2 K a o p d e f g h i j b k l K 0 A:Option ((List Int))).bind fun B=>
     (wh.l1 K a o d e f g h i j b k l K p 0 B:Option (Int × (List Int))).bind fun (D,E)=>
      (wh.l0 K a d e f g h i j b k l K D 0 E:Option ((List Int))).bind fun F=>
       some F
def qD (_K:Nat) (b a:Int):Option (Bool):=
 let d:=(decide (b>=0))
 let e:=(decide (b<=15))
 let f:=(bif d then e else false)
 let g:=(decide (a>=0))
 let h:=(bif f then g else false)
 let i:=(decide (a<=16))
 let j:=(bif h then i else false)
 let k:=(bif j then (a != 1) else false)
 some k
def qZ (K:Nat) (d e b:Int):Option (Int × Int):=
 (qD K e b).bind fun h=>
 bif (!h) then
  some (0,1)
 else
  bif (b==0) then
   some (0,0)
  else
   let i:=(wb .i64 (e+1))
   (wK K i).bind fun a=>
   let j:=(decide ((wb .i64 d)>=a))
   (
    bif j then
     let k:=(wb .i64 (a-1))
     some k
    else
     some (wb .i64 d):Option (Int)).bind fun f=>
    let l:=(decide (f<=(wb .i64 (0-a))))
    (
     bif l then
      let m:=(wb .i64 (1-a))
      some m
     else
      some f:Option (Int)).bind fun n=>
     (wK K b).bind fun o=>
     let g:=(wb .i64 (o-1))
     let p:=(wb .i64 (n*g))
     (w4 K p a).bind fun q=>
     let s:=(wb .i64 (q+g))
     (w4 K s 2).bind fun t=>
     some (t,0)
def wg.r2 (K:Nat) (h:List Int) (d b _z _A n o _B _D _E _F _G _H:Int) (i:List (List Int)) (e:List (List (List Int))) (_I:List (List Int)) (_J:List Int) (_L:List (List (List Int))) (next:Int->List Int->Option ((List Int))) (a:Int) (f:List Int):Option ((List Int)):=
 let p:=(decide (a<o))
 bif p then
  gd ((0:Int)<=b/\b<(e.length:Int)) <|
  let j:=(Kd.nth (.slice (.slice (.int .i32))) e (Int.toNat b))
  gd ((Int.toNat b)<e.length) <|
  let k:=(Kd.nth (.slice (.int .i32)) j (Int.toNat d))
  gd ((0:Int)<=d/\d<(j.length:Int)) <|
  let q:=(Kd.nth (.int .i32) k (Int.toNat a))
  gd ((0:Int)<=a/\a<(k.length:Int)) <|
  let l:=(Kd.nth (.slice (.int .i64)) i (Int.toNat b))
  gd ((0:Int)<=b/\b<(i.length:Int)) <|
  let s:=(Kd.nth (.int .i64) l (Int.toNat a))
  gd ((0:Int)<=a/\a<(l.length:Int)) <|
  let t:=(wb .i64 (a*n))
  let g:=(wb .i64 (t+b))
  let u:=(Kd.nth (.int .i64) h (Int.toNat g))
  gd ((0:Int)<=g/\g<(h.length:Int)) <|
  (qZ K q s u).bind fun (m,_M)=>
  let w:=(f++[m])
  gd (((f.length:Int)+([m].length:Int))*8<=70368744177664) <|
  let y:=(wb .i64 (a+1))
  next y w
 else
  some f
def wg.l2 (K:Nat) (a:List Int) (b d e f g h i j k l m o:Int) (p:List (List Int)) (q:List (List (List Int))) (s:List (List Int)) (t:List Int) (u:List (List (List Int))) (n:Nat):Int->List Int->Option ((List Int)):=wq (wg.r2 K a b d e f g h i j k l m o p q s t u) (fun _ _=>none) n
def wg.r1 (K:Nat) (f:List Int) (g h i d j k l m n o p:Int) (q:List (List Int)) (s:List (List (List Int))) (t:List Int) (u:List (List (List Int))) (next:Int->List (List Int)->Option ((List (List Int)))) (b:Int) (a:List (List Int)):Option ((List (List Int))):=
 let w:=(decide (b<d))
 bif w then
  (wg.l2 K f g b h i d j k l m n o p q s a t u K 0 ([]:List Int):Option ((List Int))).bind fun e=>
   let y:=(a++[e])
   gd (((a.length:Int)+([e].length:Int))*24<=70368744177664) <|
   let z:=(wb .i64 (b+1))
   next z y
 else
  some a
def wg.l1 (K:Nat) (a:List Int) (b d e f g h i j k l m:Int) (o:List (List Int)) (p:List (List (List Int))) (q:List Int) (s:List (List (List Int))) (n:Nat):Int->List (List Int)->Option ((List (List Int))):=wq (wg.r1 K a b d e f g h i j k l m o p q s) (fun _ _=>none) n
def wg.r0 (K:Nat) (f:List Int) (g h i j d k l m n o:Int) (p:List (List Int)) (q:List (List (List Int))) (s:List Int) (next:Int->List (List (List Int))->Option ((List (List (List Int))))) (b:Int) (a:List (List (List Int))):Option ((List (List (List Int)))):=
 let t:=(decide (b<d))
 bif t then
  (wg.l1 K f b g h i j d k l m n o p q s a K 0 ([]:List (List Int)):Option ((List (List Int)))).bind fun e=>
   let u:=(a++[e])
   gd (((a.length:Int)+([e].length:Int))*24<=70368744177664) <|
   let w:=(wb .i64 (b+1))
   next w u
 else
  some a
def wg.l0 (K:Nat) (a:List Int) (b d e f g h i j k l:Int) (m:List (List Int)) (o:List (List (List Int))) (p:List Int) (n:Nat):Int->List (List (List Int))->Option ((List (List (List Int)))):=wq (wg.r0 K a b d e f g h i j k l m o p) (fun _ _=>none) n
def wg.r5 (_K:Nat) (b d _p _q _s _t j _u _w _y _z _A:Int) (e:List (List (List Int))) (_B _D:List Int) (_E:List (List Int)) (next:Int->Int->Option (Int)) (f a:Int):Option (Int):=
 let k:=(decide (a<j))
 bif k then
  let g:=(Kd.nth (.slice (.slice (.int .i32))) e (Int.toNat b))
  let h:=(Kd.nth (.slice (.int .i32)) g (Int.toNat a))
  let l:=(Kd.nth (.int .i32) h (Int.toNat d))
  let i:=(wb .i64 l)
  gd ((0:Int)<=b/\b<(e.length:Int)/\(Int.toNat b)<e.length/\(0:Int)<=a/\a<(g.length:Int)/\(0:Int)<=d/\d<(h.length:Int)) <|
  let m:=(wb .i64 (0-i))
  let n:=(imax (imax f i) m)
  let o:=(wb .i64 (a+1))
  next n o
 else
  some f
def wg.l5 (K:Nat) (a b d e f g h i j k l m:Int) (o:List (List (List Int))) (p q:List Int) (s:List (List Int)) (n:Nat):Int->Int->Option (Int):=wq (wg.r5 K a b d e f g h i j k l m o p q s) (fun _ _=>none) n
def wg.r4 (K:Nat) (f g h i d j k l m n o:Int) (p:List (List (List Int))) (q:List Int) (s:List (List Int)) (next:Int->List Int->Option ((List Int))) (b:Int) (a:List Int):Option ((List Int)):=
 let t:=(decide (b<d))
 bif t then
  (wg.l5 K f b g h i d j k l m n o p a q s K 0 0:Option (Int)).bind fun u=>
   (zw K u).bind fun e=>
   let w:=(a++[e])
   gd (((a.length:Int)+([e].length:Int))*8<=70368744177664) <|
   let y:=(wb .i64 (b+1))
   next y w
 else
  some a
def wg.l4 (K:Nat) (a b d e f g h i j k l:Int) (m:List (List (List Int))) (o:List Int) (p:List (List Int)) (n:Nat):Int->List Int->Option ((List Int)):=wq (wg.r4 K a b d e f g h i j k l m o p) (fun _ _=>none) n
def wg.r3 (K:Nat) (f g d h i j k l m n:Int) (o:List (List (List Int))) (p:List Int) (next:Int->List (List Int)->Option ((List (List Int)))) (b:Int) (a:List (List Int)):Option ((List (List Int))):=
 let q:=(decide (b<d))
 bif q then
  (wg.l4 K b f g d h i j k l m n o p a K 0 ([]:List Int):Option ((List Int))).bind fun e=>
   let s:=(a++[e])
   gd (((a.length:Int)+([e].length:Int))*24<=70368744177664) <|
   let t:=(wb .i64 (b+1))
   next t s
 else
  some a
def wg.l3 (K:Nat) (a b d e f g h i j k:Int) (l:List (List (List Int))) (m:List Int) (n:Nat):Int->List (List Int)->Option ((List (List Int))):=wq (wg.r3 K a b d e f g h i j k l m) (fun _ _=>none) n
def wg.r8 (_K:Nat) (g:List (List (List Int))) (h i:List (List Int)) (d b _D _E _F p _G _H _I _J _L _M:Int) (_N:List (List (List Int))) (_O:List (List Int)) (e:List Int) (next:Int->List Int->Option ((List Int))) (a:Int) (f:List Int):Option ((List Int)):=
 let q:=(decide (a<p))
 bif q then
  let j:=(Kd.nth (.slice (.slice (.int .i32))) g (Int.toNat d))
  let k:=(Kd.nth (.slice (.int .i32)) j (Int.toNat b))
  let s:=(Kd.nth (.int .i32) k (Int.toNat a))
  gd ((0:Int)<=d/\d<(g.length:Int)/\(0:Int)<=b/\b<(j.length:Int)/\(0:Int)<=a/\a<(k.length:Int)) <|
  let l:=(Kd.nth (.int .i64) e (Int.toNat a))
  let t:=(bif (l==1) then (d==0) else false)
  gd ((0:Int)<=a/\a<(e.length:Int)/\(Int.toNat a)<e.length) <|
  (
   bif t then
    let m:=(Kd.nth (.slice (.int .i32)) h (Int.toNat b))
    let u:=(Kd.nth (.int .i32) m (Int.toNat a))
    gd ((0:Int)<=b/\b<(h.length:Int)/\(0:Int)<=a/\a<(m.length:Int)) <|
    some u
   else
    some s:Option (Int)).bind fun w=>
   let y:=(bif (l==1) then (d==1) else false)
   gd ((0:Int)<=a/\a<(e.length:Int)/\(Int.toNat a)<e.length) <|
   (
    bif y then
     let n:=(Kd.nth (.slice (.int .i32)) i (Int.toNat b))
     let z:=(Kd.nth (.int .i32) n (Int.toNat a))
     gd ((0:Int)<=b/\b<(i.length:Int)/\(0:Int)<=a/\a<(n.length:Int)) <|
     some z
    else
     some w:Option (Int)).bind fun o=>
    let A:=(f++[o])
    gd (((f.length:Int)+([o].length:Int))*4<=70368744177664) <|
    let B:=(wb .i64 (a+1))
    next B A
 else
  some f
def wg.l8 (K:Nat) (a:List (List (List Int))) (b d:List (List Int)) (e f g h i j k l m o p q:Int) (s:List (List (List Int))) (t:List (List Int)) (u:List Int) (n:Nat):Int->List Int->Option ((List Int)):=wq (wg.r8 K a b d e f g h i j k l m o p q s t u) (fun _ _=>none) n
def wg.r7 (K:Nat) (f:List (List (List Int))) (g h:List (List Int)) (i j k l m d n o p q s:Int) (t:List (List (List Int))) (u:List Int) (next:Int->List (List Int)->Option ((List (List Int)))) (b:Int) (a:List (List Int)):Option ((List (List Int))):=
 let w:=(decide (b<d))
 bif w then
  (wg.l8 K f g h i b j k l m d n o p q s t a u K 0 ([]:List Int):Option ((List Int))).bind fun e=>
   let y:=(a++[e])
   gd (((a.length:Int)+([e].length:Int))*24<=70368744177664) <|
   let z:=(wb .i64 (b+1))
   next z y
 else
  some a
def wg.l7 (K:Nat) (a:List (List (List Int))) (b d:List (List Int)) (e f g h i j k l m o p:Int) (q:List (List (List Int))) (s:List Int) (n:Nat):Int->List (List Int)->Option ((List (List Int))):=wq (wg.r7 K a b d e f g h i j k l m o p q s) (fun _ _=>none) n
def wg.r6 (K:Nat) (f:List (List (List Int))) (g h:List (List Int)) (i j d k l m n o p q:Int) (s:List Int) (next:Int->List (List (List Int))->Option ((List (List (List Int))))) (b:Int) (a:List (List (List Int))):Option ((List (List (List Int)))):=
 let t:=(decide (b<d))
 bif t then
  (wg.l7 K f g h b i j d k l m n o p q a s K 0 ([]:List (List Int)):Option ((List (List Int)))).bind fun e=>
   let u:=(a++[e])
   gd (((a.length:Int)+([e].length:Int))*24<=70368744177664) <|
   let w:=(wb .i64 (b+1))
   next w u
 else
  some a
def wg.l6 (K:Nat) (a:List (List (List Int))) (b d:List (List Int)) (e f g h i j k l m o:Int) (p:List Int) (n:Nat):Int->List (List (List Int))->Option ((List (List (List Int)))):=wq (wg.r6 K a b d e f g h i j k l m o p) (fun _ _=>none) n
def wg.r9 (_K:Nat) (_k:List (List (List Int))) (_l _m:List (List Int)) (d:List (Bool)) (_n _o _p e _q _s _t _u _w _y:Int) (next:Int->List Int->Option ((List Int))) (a:Int) (b:List Int):Option ((List Int)):=
 let f:=(decide (a<e))
 bif f then
  (
   let g:=(Kd.nth (.bool) d (Int.toNat a))
   gd ((0:Int)<=a/\a<(d.length:Int)) <|
   bif g then
    let h:=(List.set b (Int.toNat a) 1)
    gd ((0:Int)<=a/\a<(b.length:Int)/\(Int.toNat a)<b.length) <|
    some h
   else
    some b:Option ((List Int))).bind fun i=>
   let j:=(wb .i64 (a+1))
   next j i
 else
  some b
def wg.l9 (K:Nat) (a:List (List (List Int))) (b d:List (List Int)) (e:List (Bool)) (f g h i j k l m o p:Int) (n:Nat):Int->List Int->Option ((List Int)):=wq (wg.r9 K a b d e f g h i j k l m o p) (fun _ _=>none) n
def wg (K:Nat) (e f g a h i d j k l:Int) (b:List (List (List Int))):Option ((List Int) × (List (List Int)) × (List (List (List Int)))):=
 let o:=(List.replicate (Int.toNat a) (0:Int))
 gd ((0:Int)<=a/\a<=a/\a*8<=140737488355328) <|
 (
  bif (d==1) then
   let p:=(Kd.nth (.slice (.slice (.int .i32))) b 0)
   gd (0<(b.length:Int)) <|
   let q:=(Kd.nth (.slice (.slice (.int .i32))) b 1)
   gd (1<(b.length:Int)) <|
   (wR K p q).bind fun (s,t)=>
   gd (0<(b.length:Int)) <|
   gd (1<(b.length:Int)) <|
   (z8 K p q).bind fun w=>
   (wg.l9 K b s t w e f g a h i d j k l K 0 o:Option ((List Int))).bind fun y=>
    some (s,t,y)
  else
   some ((([]:List (List Int)),([]:List (List Int)),o)):Option ((List (List Int)) × (List (List Int)) × (List Int))).bind fun (z,A,m)=>
  (wg.l6 K b z A e f g a h i d j k l m K 0 ([]:List (List (List Int))):Option ((List (List (List Int))))).bind fun u=>
   (wg.l3 K e f g a h i d j k l u m K 0 ([]:List (List Int)):Option ((List (List Int)))).bind fun n=>
    (wh K e f g a h i d j k l n).bind fun B=>
    (wg.l0 K B e f g a h i d j k l n u m K 0 ([]:List (List (List Int))):Option ((List (List (List Int))))).bind fun D=>
     some (m,n,D)
def zT.r0 (_K:Nat) (b d:List Int) (next:Int->Option ((Unit) ⊕ (Bool))) (a:Int):Option ((Unit) ⊕ (Bool)):=
 let e:=(decide (a<(b.length:Int)))
 bif e then
  let f:=(Kd.nth (.int .i64) b (Int.toNat a))
  gd ((0:Int)<=a/\a<(b.length:Int)) <|
  let g:=(Kd.nth (.int .i64) d (Int.toNat a))
  gd ((0:Int)<=a/\a<(d.length:Int)) <|
  bif (f != g) then
   some (.inr false)
  else
   let h:=(wb .i64 (a+1))
   next h
 else
  some (.inl ())
def zT.l0 (K:Nat) (a b:List Int) (n:Nat):Int->Option ((Unit) ⊕ (Bool)):=wq (zT.r0 K a b) (fun _=>none) n
def zT (K:Nat) (a b:List Int):Option (Bool):=
 let d:=((a.length:Int) != (b.length:Int))
 bif d then
  some false
 else
  (zT.l0 K a b K 0:Option ((Unit) ⊕ (Bool))).bind fun z=>match z with
  | .inl _=>
   some true
  | .inr r=>
   some r
def zH.r0 (K:Nat) (b d:List (List Int)) (next:Int->Option ((Unit) ⊕ (Bool))) (a:Int):Option ((Unit) ⊕ (Bool)):=
 let e:=(decide (a<(b.length:Int)))
 bif e then
  let f:=(Kd.nth (.slice (.int .i64)) b (Int.toNat a))
  gd ((0:Int)<=a/\a<(b.length:Int)) <|
  let g:=(Kd.nth (.slice (.int .i64)) d (Int.toNat a))
  gd ((0:Int)<=a/\a<(d.length:Int)) <|
  (zT K f g).bind fun h=>
  bif (!h) then
   some (.inr false)
  else
   let i:=(wb .i64 (a+1))
   next i
 else
  some (.inl ())
def zH.l0 (K:Nat) (a b:List (List Int)) (n:Nat):Int->Option ((Unit) ⊕ (Bool)):=wq (zH.r0 K a b) (fun _=>none) n
def zH (K:Nat) (a b:List (List Int)):Option (Bool):=
 let d:=((a.length:Int) != (b.length:Int))
 bif d then
  some false
 else
  (zH.l0 K a b K 0:Option ((Unit) ⊕ (Bool))).bind fun z=>match z with
  | .inl _=>
   some true
  | .inr r=>
   some r
def zZ.r0 (K:Nat) (_j:List Int) (_k:List (List Int)) (b:List (List (List Int))) (_l:List Int) (_m:List (List Int)) (d:List (List (List Int))) (next:Int->Option ((Unit) ⊕ (Bool))) (a:Int):Option ((Unit) ⊕ (Bool)):=
 let e:=(decide (a<(b.length:Int)))
 bif e then
  let f:=(Kd.nth (.slice (.slice (.int .i64))) b (Int.toNat a))
  gd ((0:Int)<=a/\a<(b.length:Int)) <|
  let g:=(Kd.nth (.slice (.slice (.int .i64))) d (Int.toNat a))
  gd ((0:Int)<=a/\a<(d.length:Int)) <|
  (zH K f g).bind fun h=>
  bif (!h) then
   some (.inr false)
  else
   let i:=(wb .i64 (a+1))
   next i
 else
  some (.inl ())
def zZ.l0 (K:Nat) (a:List Int) (b:List (List Int)) (d:List (List (List Int))) (e:List Int) (f:List (List Int)) (g:List (List (List Int))) (n:Nat):Int->Option ((Unit) ⊕ (Bool)):=wq (zZ.r0 K a b d e f g) (fun _=>none) n
def zZ (K:Nat) (a:List Int) (b:List (List Int)) (d:List (List (List Int))) (e:List Int) (f:List (List Int)) (g:List (List (List Int))):Option (Bool):=
 (
  (zT K a e).bind fun h=>
  bif (!h) then
   some true
  else
   (zH K b f).bind fun i=>
   let j:=((d.length:Int) != (g.length:Int))
   let k:=(bif (!i) then true else j)
   some k:Option (Bool)).bind fun l=>
  bif l then
   some false
  else
   (zZ.l0 K a b d e f g K 0:Option ((Unit) ⊕ (Bool))).bind fun z=>match z with
   | .inl _=>
    some true
   | .inr r=>
    some r
def zo.r1 (_K:Nat) (e:List (List Int)) (b _m _n _o h _p _q _s _t _u _w:Int) (next:Int->Option ((Unit) ⊕ (Int))) (a:Int):Option ((Unit) ⊕ (Int)):=
 let i:=(decide (a<h))
 bif i then
  let f:=(Kd.nth (.slice (.int .i64)) e (Int.toNat b))
  let g:=(Kd.nth (.int .i64) f (Int.toNat a))
  let d:=(decide (g<0))
  let j:=(decide (g>15))
  let k:=(bif d then true else j)
  gd ((0:Int)<=b/\b<(e.length:Int)/\(0:Int)<=a/\a<(f.length:Int)/\((!d)=true->(0:Int)<=b)/\((!d)=true->b<(e.length:Int))/\((!d)=true->(0:Int)<=a)/\((!d)=true->a<(f.length:Int))) <|
  bif k then
   some (.inr 1)
  else
   let l:=(wb .i64 (a+1))
   next l
 else
  some (.inl ())
def zo.l1 (K:Nat) (a:List (List Int)) (b d e f g h i j k l m:Int) (n:Nat):Int->Option ((Unit) ⊕ (Int)):=wq (zo.r1 K a b d e f g h i j k l m) (fun _=>none) n
def zo.r0 (K:Nat) (b:List (List Int)) (e f g d h i j k l m:Int) (next:Int->Option ((Unit) ⊕ (Int))) (a:Int):Option ((Unit) ⊕ (Int)):=
 let n:=(decide (a<(b.length:Int)))
 bif n then
  let o:=(Kd.nth (.slice (.int .i64)) b (Int.toNat a))
  gd ((0:Int)<=a/\a<(b.length:Int)) <|
  let p:=(o.length:Int)
  bif (p != d) then
   some (.inr 1)
  else
   (zo.l1 K b a e f g d h i j k l m K 0:Option ((Unit) ⊕ (Int))).bind fun z=>match z with
   | .inl _=>
    let q:=(wb .i64 (a+1))
    next q
   | .inr r=>
    some (.inr r)
 else
  some (.inl ())
def zo.l0 (K:Nat) (a:List (List Int)) (b d e f g h i j k l:Int) (n:Nat):Int->Option ((Unit) ⊕ (Int)):=wq (zo.r0 K a b d e f g h i j k l) (fun _=>none) n
def zo (K:Nat) (b d a e f g h i j k:Int) (l:List (List Int)):Option (Int):=
 (qU K b d a e f g h i j k).bind fun m=>
 bif (!m) then
  some 110
 else
  let n:=((l.length:Int) != a)
  bif n then
   some 1
  else
   (zo.l0 K l b d a e f g h i j k K 0:Option ((Unit) ⊕ (Int))).bind fun z=>match z with
   | .inl _=>
    some 0
   | .inr r=>
    some r
def qq (K:Nat) (a d b:Int):Option (Int × Int):=
 (qD K d b).bind fun g=>
 let h:=(decide (a<0))
 let i:=(bif (!g) then true else h)
 bif i then
  some (0,1)
 else
  bif (b==0) then
   bif (a != 0) then
    some (0,1)
   else
    some (0,0)
  else
   (wK K b).bind fun j=>
   let e:=(wb .i64 (j-1))
   let k:=(decide (a>=e))
   bif k then
    some (0,1)
   else
    let l:=(wb .i64 (d+1))
    (wK K l).bind fun f=>
    let m:=(wb .i64 (2*a))
    let n:=(wb .i64 (m+1))
    let o:=(wb .i64 (n*f))
    (w4 K o e).bind fun p=>
    let q:=(wb .i64 (p-f))
    let s:=(wb .i32 q)
    some (s,0)
def wE.r2 (K:Nat) (f:List Int) (d b _w _y l m _z _A _B _D _E _F:Int) (_G:List Int) (g:List (List Int)) (h:List (List (List Int))) (next:Int->Option ((Unit) ⊕ (Bool))) (a:Int):Option ((Unit) ⊕ (Bool)):=
 let n:=(decide (a<m))
 bif n then
  let i:=(Kd.nth (.slice (.slice (.int .i64))) h (Int.toNat d))
  gd ((0:Int)<=d/\d<(h.length:Int)) <|
  let j:=(Kd.nth (.slice (.int .i64)) i (Int.toNat b))
  gd ((0:Int)<=b/\b<(i.length:Int)) <|
  let o:=(Kd.nth (.int .i64) j (Int.toNat a))
  gd ((0:Int)<=a/\a<(j.length:Int)) <|
  let k:=(Kd.nth (.slice (.int .i64)) g (Int.toNat b))
  gd ((0:Int)<=b/\b<(g.length:Int)) <|
  let p:=(Kd.nth (.int .i64) k (Int.toNat a))
  gd ((0:Int)<=a/\a<(k.length:Int)) <|
  let q:=(wb .i64 (a*l))
  let e:=(wb .i64 (q+b))
  let s:=(Kd.nth (.int .i64) f (Int.toNat e))
  gd ((0:Int)<=e/\e<(f.length:Int)) <|
  (qq K o p s).bind fun (_H,t)=>
  bif (t != 0) then
   some (.inr false)
  else
   let u:=(wb .i64 (a+1))
   next u
 else
  some (.inl ())
def wE.l2 (K:Nat) (a:List Int) (b d e f g h i j k l m o:Int) (p:List Int) (q:List (List Int)) (s:List (List (List Int))) (n:Nat):Int->Option ((Unit) ⊕ (Bool)):=wq (wE.r2 K a b d e f g h i j k l m o p q s) (fun _=>none) n
def wE.r1 (K:Nat) (h:List Int) (b i j e f k l m n o p:Int) (q:List Int) (s:List (List Int)) (d:List (List (List Int))) (next:Int->Option ((Unit) ⊕ (Bool))) (a:Int):Option ((Unit) ⊕ (Bool)):=
 let t:=(decide (a<e))
 bif t then
  let g:=(Kd.nth (.slice (.slice (.int .i64))) d (Int.toNat b))
  gd ((0:Int)<=b/\b<(d.length:Int)) <|
  let u:=(Kd.nth (.slice (.int .i64)) g (Int.toNat a))
  gd ((0:Int)<=a/\a<(g.length:Int)) <|
  let w:=(u.length:Int)
  bif (w != f) then
   some (.inr false)
  else
   (wE.l2 K h b a i j e f k l m n o p q s d K 0:Option ((Unit) ⊕ (Bool))).bind fun z=>match z with
   | .inl _=>
    let y:=(wb .i64 (a+1))
    next y
   | .inr r=>
    some (.inr r)
 else
  some (.inl ())
def wE.l1 (K:Nat) (a:List Int) (b d e f g h i j k l m:Int) (o:List Int) (p:List (List Int)) (q:List (List (List Int))) (n:Nat):Int->Option ((Unit) ⊕ (Bool)):=wq (wE.r1 K a b d e f g h i j k l m o p q) (fun _=>none) n
def wE.r0 (K:Nat) (f:List Int) (g h d i e j k l m n:Int) (o:List Int) (p:List (List Int)) (b:List (List (List Int))) (next:Int->Option ((Unit) ⊕ (Bool))) (a:Int):Option ((Unit) ⊕ (Bool)):=
 let q:=(decide (a<e))
 bif q then
  let s:=(Kd.nth (.slice (.slice (.int .i64))) b (Int.toNat a))
  gd ((0:Int)<=a/\a<(b.length:Int)) <|
  let t:=(s.length:Int)
  bif (t != d) then
   some (.inr false)
  else
   (wE.l1 K f a g h d i e j k l m n o p b K 0:Option ((Unit) ⊕ (Bool))).bind fun z=>match z with
   | .inl _=>
    let u:=(wb .i64 (a+1))
    next u
   | .inr r=>
    some (.inr r)
 else
  some (.inl ())
def wE.l0 (K:Nat) (a:List Int) (b d e f g h i j k l:Int) (m:List Int) (o:List (List Int)) (p:List (List (List Int))) (n:Nat):Int->Option ((Unit) ⊕ (Bool)):=wq (wE.r0 K a b d e f g h i j k l m o p) (fun _=>none) n
def wE.r3 (_K:Nat) (_n _o _p b _q _s f _t _u _w:Int) (d:List Int) (_y:List (List Int)) (_z:List (List (List Int))) (next:Int->Option ((Unit) ⊕ (Bool))) (a:Int):Option ((Unit) ⊕ (Bool)):=
 let g:=(decide (a<b))
 bif g then
  let e:=(Kd.nth (.int .i64) d (Int.toNat a))
  gd ((0:Int)<=a/\a<(d.length:Int)) <|
  let h:=(bif (e != 1) then true else (f==0))
  let i:=(wb .i64 (b-1))
  let j:=(a==i)
  let k:=(bif h then true else j)
  let l:=(bif (e != 0) then k else false)
  bif l then
   some (.inr false)
  else
   let m:=(wb .i64 (a+1))
   next m
 else
  some (.inl ())
def wE.l3 (K:Nat) (a b d e f g h i j k:Int) (l:List Int) (m:List (List Int)) (o:List (List (List Int))) (n:Nat):Int->Option ((Unit) ⊕ (Bool)):=wq (wE.r3 K a b d e f g h i j k l m o) (fun _=>none) n
def wE (K:Nat) (d e f a b g h i j k:Int) (m:List Int) (l:List (List Int)) (n:List (List (List Int))):Option (Bool):=
 (
  let o:=((m.length:Int) != a)
  let p:=((n.length:Int) != b)
  let q:=(bif o then true else p)
  bif q then
   some true
  else
   (zo K d e f a b g h i j k l).bind fun s=>
   some (s != 0):Option (Bool)).bind fun t=>
  bif t then
   some false
  else
   (wE.l3 K d e f a b g h i j k m l n K 0:Option ((Unit) ⊕ (Bool))).bind fun z=>match z with
   | .inl _=>
    (wh K d e f a b g h i j k l).bind fun u=>
    (wE.l0 K u d e f a b g h i j k m l n K 0:Option ((Unit) ⊕ (Bool))).bind fun z=>match z with
    | .inl _=>
     some true
    | .inr r=>
     some r
   | .inr r=>
    some r
def qe (_K:Nat) (a f:Int):Option (Int):=
 let g:=(wb .i64 (f-1))
 let d:=(wb .u64 g)
 let h:=(kshl .i64 1 d)
 let b:=(wb .i64 (h-1))
 gd ((0:Int)<=d) <|
 let i:=(decide (a>b))
 bif i then
  some b
 else
  let j:=(wb .i64 (0-b))
  let e:=(wb .i64 (j-1))
  let k:=(decide (a<e))
  bif k then
   some e
  else
   some a
def zb.r1 (K:Nat) (d h:List (List Int)) (a:Int) (_B _D:List (List Int)) (next:Int->List Int->List Int->Option ((List Int) × (List Int))) (b:Int) (e f:List Int):Option ((List Int) × (List Int)):=
 let g:=(Kd.nth (.slice (.int .i32)) d (Int.toNat a))
 let n:=(g.length:Int)
 let o:=(decide (b<n))
 gd ((0:Int)<=a/\a<(d.length:Int)) <|
 bif o then
  gd ((0:Int)<=a/\a<(d.length:Int)) <|
  let p:=(Kd.nth (.int .i32) g (Int.toNat b))
  gd ((0:Int)<=b/\b<(g.length:Int)) <|
  let i:=(wb .i64 p)
  let j:=(Kd.nth (.slice (.int .i32)) h (Int.toNat a))
  gd ((0:Int)<=a/\a<(h.length:Int)) <|
  let q:=(Kd.nth (.int .i32) j (Int.toNat b))
  gd ((0:Int)<=b/\b<(j.length:Int)) <|
  let k:=(wb .i64 q)
  let s:=(wb .i64 (i+k))
  (qe K s 32).bind fun t=>
  let l:=[(wb .i32 t)]
  let u:=(e++l)
  gd (((e.length:Int)+(l.length:Int))*4<=70368744177664) <|
  let w:=(wb .i64 (i-k))
  (qe K w 32).bind fun y=>
  let m:=[(wb .i32 y)]
  let z:=(f++m)
  gd (((f.length:Int)+(m.length:Int))*4<=70368744177664) <|
  let A:=(wb .i64 (b+1))
  next A u z
 else
  some (e,f)
def zb.l1 (K:Nat) (a b:List (List Int)) (d:Int) (e f:List (List Int)) (n:Nat):Int->List Int->List Int->Option ((List Int) × (List Int)):=wq (zb.r1 K a b d e f) (fun _ _ _=>none) n
def zb.r0 (K:Nat) (e f:List (List Int)) (next:Int->List (List Int)->List (List Int)->Option ((List (List Int)) × (List (List Int)))) (d:Int) (a b:List (List Int)):Option ((List (List Int)) × (List (List Int))):=
 let g:=(decide (d<(e.length:Int)))
 bif g then
  (zb.l1 K e f d a b K 0 ([]:List Int) ([]:List Int):Option ((List Int) × (List Int))).bind fun (h,i)=>
   let j:=(a++[h])
   gd (((a.length:Int)+1)*24<=70368744177664) <|
   let k:=(b++[i])
   gd (((b.length:Int)+1)*24<=70368744177664) <|
   let l:=(wb .i64 (d+1))
   next l j k
 else
  some (a,b)
def zb.l0 (K:Nat) (a b:List (List Int)) (n:Nat):Int->List (List Int)->List (List Int)->Option ((List (List Int)) × (List (List Int))):=wq (zb.r0 K a b) (fun _ _ _=>none) n
def zb (K:Nat) (a b:List (List Int)):Option ((List (List Int)) × (List (List Int))):=
 (zb.l0 K a b K 0 ([]:List (List Int)) ([]:List (List Int)):Option ((List (List Int)) × (List (List Int)))).bind fun (d,e)=>
  some (d,e)
def ko (K b d:Nat) (a:List (List Int)):Option ((List (List Int)) × (List (List Int))):=
 gd (0<a.length/\b<=a.length/\d<=a.length) <|
 zb K (a.take b) (a.drop d)
def wn.r1 (_K:Nat) (_l:List Int) (_m:Int) (d:List (List Int)) (_n _o g _p _q _s _t _u _w _y:Int) (_z:List Int) (_A:List (List Int)) (_B:List (List (List Int))) (next:Int->List (List (List Int))->Option ((List (List (List Int))))) (a:Int) (b:List (List (List Int))):Option ((List (List (List Int)))):=
 let h:=(decide (a<g))
 bif h then
  gd ((0:Int)<=a/\a<(b.length:Int)) <|
  let e:=(List.getD b (Int.toNat a) [])
  gd ((Int.toNat a)<b.length) <|
  let f:=(Kd.nth (.slice (.int .i32)) d (Int.toNat a))
  gd ((0:Int)<=a/\a<(d.length:Int)) <|
  let i:=(e++[f])
  gd (((e.length:Int)+([f].length:Int))*24<=70368744177664) <|
  gd ((0:Int)<=a/\a<(b.length:Int)) <|
  let j:=(List.set b (Int.toNat a) i)
  gd ((Int.toNat a)<b.length) <|
  let k:=(wb .i64 (a+1))
  next k j
 else
  some b
def wn.l1 (K:Nat) (a:List Int) (b:Int) (d:List (List Int)) (e f g h i j k l m o:Int) (p:List Int) (q:List (List Int)) (s:List (List (List Int))) (n:Nat):Int->List (List (List Int))->Option ((List (List (List Int)))):=wq (wn.r1 K a b d e f g h i j k l m o p q s) (fun _ _=>none) n
def wn.r2 (_K:Nat) (_w:List Int) (_y:Int) (g h:List (List Int)) (_z _A _B m _D _E _F _G _H _I:Int) (i:List Int) (_J:List (List Int)) (_L _M:List (List (List Int))) (next:Int->List (List Int)->Option ((List (List Int)))) (a:Int) (b:List (List Int)):Option ((List (List Int))):=
 let n:=(decide (a<m))
 bif n then
  (
   let o:=(Kd.nth (.int .i64) i (Int.toNat a))
   gd ((0:Int)<=a/\a<(i.length:Int)) <|
   bif (o==1) then
    gd (0<(b.length:Int)) <|
    let d:=(List.getD b 0 [])
    gd (0<b.length) <|
    let j:=(Kd.nth (.slice (.int .i32)) g 0)
    gd (0<(g.length:Int)) <|
    let p:=(Kd.nth (.int .i32) j (Int.toNat a))
    gd ((0:Int)<=a/\a<(j.length:Int)) <|
    gd ((0:Int)<=a/\a<(d.length:Int)) <|
    let e:=(List.set d (Int.toNat a) p)
    gd ((Int.toNat a)<d.length) <|
    gd (1<((List.set b 0 e).length:Int)) <|
    let f:=(List.getD (List.set b 0 e) 1 [])
    let k:=(List.set b 0 e)
    gd (1<k.length) <|
    let l:=(Kd.nth (.slice (.int .i32)) h 0)
    gd (0<(h.length:Int)) <|
    let q:=(Kd.nth (.int .i32) l (Int.toNat a))
    gd ((0:Int)<=a/\a<(l.length:Int)) <|
    gd ((0:Int)<=a/\a<(f.length:Int)) <|
    let s:=(List.set f (Int.toNat a) q)
    gd ((Int.toNat a)<f.length) <|
    some (List.set k 1 s)
   else
    some b:Option ((List (List Int)))).bind fun t=>
   let u:=(wb .i64 (a+1))
   next u t
 else
  some b
def wn.l2 (K:Nat) (a:List Int) (b:Int) (d e:List (List Int)) (f g h i j k l m o p:Int) (q:List Int) (s:List (List Int)) (t u:List (List (List Int))) (n:Nat):Int->List (List Int)->Option ((List (List Int))):=wq (wn.r2 K a b d e f g h i j k l m o p q s t u) (fun _ _=>none) n
def wn.r4 (K:Nat) (g:List Int) (d b _z _A n o _B _D _E _F _G _H:Int) (_I:List Int) (h:List (List Int)) (i _J:List (List (List Int))) (_L:List (List Int)) (next:Int->List Int->Option ((List Int))) (a:Int) (e:List Int):Option ((List Int)):=
 let p:=(decide (a<o))
 bif p then
  let j:=(Kd.nth (.slice (.slice (.int .i64))) i (Int.toNat d))
  gd ((0:Int)<=d/\d<(i.length:Int)) <|
  let k:=(Kd.nth (.slice (.int .i64)) j (Int.toNat b))
  gd ((0:Int)<=b/\b<(j.length:Int)) <|
  let q:=(Kd.nth (.int .i64) k (Int.toNat a))
  gd ((0:Int)<=a/\a<(k.length:Int)) <|
  let l:=(Kd.nth (.slice (.int .i64)) h (Int.toNat b))
  gd ((0:Int)<=b/\b<(h.length:Int)) <|
  let s:=(Kd.nth (.int .i64) l (Int.toNat a))
  gd ((0:Int)<=a/\a<(l.length:Int)) <|
  let t:=(wb .i64 (a*n))
  let f:=(wb .i64 (t+b))
  let u:=(Kd.nth (.int .i64) g (Int.toNat f))
  gd ((0:Int)<=f/\f<(g.length:Int)) <|
  (qq K q s u).bind fun (m,_M)=>
  let w:=(e++[m])
  gd (((e.length:Int)+([m].length:Int))*4<=70368744177664) <|
  let y:=(wb .i64 (a+1))
  next y w
 else
  some e
def wn.l4 (K:Nat) (a:List Int) (b d e f g h i j k l m o:Int) (p:List Int) (q:List (List Int)) (s t:List (List (List Int))) (u:List (List Int)) (n:Nat):Int->List Int->Option ((List Int)):=wq (wn.r4 K a b d e f g h i j k l m o p q s t u) (fun _ _=>none) n
def wn.r3 (K:Nat) (e:List Int) (f g h d i j k l m n o:Int) (p:List Int) (q:List (List Int)) (s t:List (List (List Int))) (next:Int->List (List Int)->Option ((List (List Int)))) (b:Int) (a:List (List Int)):Option ((List (List Int))):=
 let u:=(decide (b<d))
 bif u then
  (wn.l4 K e f b g h d i j k l m n o p q s t a K 0 ([]:List Int):Option ((List Int))).bind fun w=>
   let y:=(a++[w])
   gd (((a.length:Int)+1)*24<=70368744177664) <|
   let z:=(wb .i64 (b+1))
   next z y
 else
  some a
def wn.l3 (K:Nat) (a:List Int) (b d e f g h i j k l m:Int) (o:List Int) (p:List (List Int)) (q s:List (List (List Int))) (n:Nat):Int->List (List Int)->Option ((List (List Int))):=wq (wn.r3 K a b d e f g h i j k l m o p q s) (fun _ _=>none) n
def wn.r0 (K:Nat) (g:List Int) (h i d j e k l m n o:Int) (p:List Int) (q:List (List Int)) (s:List (List (List Int))) (next:Int->List (List (List Int))->Option ((List (List (List Int))))) (b:Int) (f:List (List (List Int))):Option ((List (List (List Int)))):=
 let t:=(decide (b<e))
 bif t then
  (wn.l3 K g b h i d j e k l m n o p q s f K 0 ([]:List (List Int)):Option ((List (List Int)))).bind fun a=>
   (
    bif (d==2) then
     gd (1<=(a.length:Int)/\a≠[]) <|
     gd (1<(a.length:Int)) <|
     (ko K 1 1 a).bind fun (u,w)=>
     (wn.l2 K g b u w h i d j e k l m n o p q s f K 0 a:Option ((List (List Int)))).bind fun y=>
      some y
    else
     some a:Option ((List (List Int)))).bind fun z=>
    (wn.l1 K g b z h i d j e k l m n o p q s K 0 f:Option ((List (List (List Int))))).bind fun A=>
     let B:=(wb .i64 (b+1))
     next B A
 else
  some f
def wn.l0 (K:Nat) (a:List Int) (b d e f g h i j k l:Int) (m:List Int) (o:List (List Int)) (p:List (List (List Int))) (n:Nat):Int->List (List (List Int))->Option ((List (List (List Int)))):=wq (wn.r0 K a b d e f g h i j k l m o p) (fun _ _=>none) n
def wn (K:Nat) (b d a e f g h i j k:Int) (m:List Int) (l:List (List Int)) (n:List (List (List Int))):Option ((List (List (List Int)))):=
 (wh K b d a e f g h i j k l).bind fun o=>
 let p:=(List.replicate (Int.toNat a) ([]:List (List Int)))
 gd ((0:Int)<=a/\a<=a/\a*24<=140737488355328) <|
 (wn.l0 K o b d a e f g h i j k m l n K 0 p:Option ((List (List (List Int))))).bind fun q=>
  some q
def zi.r1 (_K:Nat) (d f:List (List Int)) (a:Int) (next:Int->Option ((Unit) ⊕ (Bool))) (b:Int):Option ((Unit) ⊕ (Bool)):=
 let e:=(Kd.nth (.slice (.int .i32)) d (Int.toNat a))
 let h:=(e.length:Int)
 let i:=(decide (b<h))
 gd ((0:Int)<=a/\a<(d.length:Int)) <|
 bif i then
  gd ((0:Int)<=a/\a<(d.length:Int)) <|
  let j:=(Kd.nth (.int .i32) e (Int.toNat b))
  gd ((0:Int)<=b/\b<(e.length:Int)) <|
  let g:=(Kd.nth (.slice (.int .i32)) f (Int.toNat a))
  gd ((0:Int)<=a/\a<(f.length:Int)) <|
  let k:=(Kd.nth (.int .i32) g (Int.toNat b))
  gd ((0:Int)<=b/\b<(g.length:Int)) <|
  bif (j != k) then
   some (.inr false)
  else
   let l:=(wb .i64 (b+1))
   next l
 else
  some (.inl ())
def zi.l1 (K:Nat) (a b:List (List Int)) (d:Int) (n:Nat):Int->Option ((Unit) ⊕ (Bool)):=wq (zi.r1 K a b d) (fun _=>none) n
def zi.r0 (K:Nat) (b d:List (List Int)) (next:Int->Option ((Unit) ⊕ (Bool))) (a:Int):Option ((Unit) ⊕ (Bool)):=
 let e:=(decide (a<(b.length:Int)))
 bif e then
  let f:=(Kd.nth (.slice (.int .i32)) b (Int.toNat a))
  gd ((0:Int)<=a/\a<(b.length:Int)) <|
  let g:=(f.length:Int)
  let h:=(Kd.nth (.slice (.int .i32)) d (Int.toNat a))
  gd ((0:Int)<=a/\a<(d.length:Int)) <|
  let i:=(h.length:Int)
  bif (g != i) then
   some (.inr false)
  else
   (zi.l1 K b d a K 0:Option ((Unit) ⊕ (Bool))).bind fun z=>match z with
   | .inl _=>
    let j:=(wb .i64 (a+1))
    next j
   | .inr r=>
    some (.inr r)
 else
  some (.inl ())
def zi.l0 (K:Nat) (a b:List (List Int)) (n:Nat):Int->Option ((Unit) ⊕ (Bool)):=wq (zi.r0 K a b) (fun _=>none) n
def zi (K:Nat) (a b:List (List Int)):Option (Bool):=
 let d:=((a.length:Int) != (b.length:Int))
 bif d then
  some false
 else
  (zi.l0 K a b K 0:Option ((Unit) ⊕ (Bool))).bind fun z=>match z with
  | .inl _=>
   some true
  | .inr r=>
   some r
def w7.r0 (K:Nat) (b d:List (List (List Int))) (next:Int->Option ((Unit) ⊕ (Bool))) (a:Int):Option ((Unit) ⊕ (Bool)):=
 let e:=(decide (a<(b.length:Int)))
 bif e then
  let f:=(Kd.nth (.slice (.slice (.int .i32))) b (Int.toNat a))
  gd ((0:Int)<=a/\a<(b.length:Int)) <|
  let g:=(Kd.nth (.slice (.slice (.int .i32))) d (Int.toNat a))
  gd ((0:Int)<=a/\a<(d.length:Int)) <|
  (zi K f g).bind fun h=>
  bif (!h) then
   some (.inr false)
  else
   let i:=(wb .i64 (a+1))
   next i
 else
  some (.inl ())
def w7.l0 (K:Nat) (a b:List (List (List Int))) (n:Nat):Int->Option ((Unit) ⊕ (Bool)):=wq (w7.r0 K a b) (fun _=>none) n
def w7 (K:Nat) (a b:List (List (List Int))):Option (Bool):=
 let d:=((a.length:Int) != (b.length:Int))
 bif d then
  some false
 else
  (w7.l0 K a b K 0:Option ((Unit) ⊕ (Bool))).bind fun z=>match z with
  | .inl _=>
   some true
  | .inr r=>
   some r
def psalterylaw14_SubAnalyses (K:Nat) (a b d e f g h i j k:Int) (m:List (List (List Int))) (n:List Int) (o:List (List Int)) (p:List (List (List Int))):Option (Bool):=
 (kh K ).bind fun u=>
 bif (!u) then
  some false
 else
  (
   (zq K m).bind fun w=>
   bif w then
    some true
   else
    (wV K n o p).bind fun y=>
    some y:Option (Bool)).bind fun A=>
   bif A then
    some true
   else
    (wm K a b d e f g h i j k m).bind fun (q,B,D,l)=>
    (w9 K a b d e f g h i j k n o p).bind fun (s,t)=>
    (qU K a b d e f g h i j k).bind fun E=>
    bif (!E) then
     let F:=(bif (l==110) then (t==110) else false)
     let G:=((s.length:Int)==0)
     let H:=(bif F then G else false)
     let I:=((q.length:Int)==0)
     let J:=(bif H then I else false)
     some J
    else
     (zh K a b d e f g h i j k m).bind fun L=>
     (
      bif (!L) then
       let M:=((q.length:Int) != 0)
       let N:=(bif (l != 1) then true else M)
       bif N then
        some (.inr false)
       else
        some (.inl ())
      else
       (
        bif (l != 0) then
         let O:=(bif (l != 0) then true else false)
         some O
        else
         (wg K a b d e f g h i j k m).bind fun (P,Q,R)=>
         (zZ K q B D P Q R).bind fun S=>
         let T:=(bif (l != 0) then true else (!S))
         some T:Option (Bool)).bind fun U=>
        bif U then
         some (.inr false)
        else
         some (.inl ()):Option ((Unit) ⊕ (Bool))).bind fun z=>match z with
     | .inl _=>
      (wE K a b d e f g h i j k n o p).bind fun V=>
      bif (!V) then
       let W:=((s.length:Int)==0)
       let X:=(bif (t==1) then W else false)
       some X
      else
       (
        bif (t==0) then
         (wn K a b d e f g h i j k n o p).bind fun Y=>
         (w7 K s Y).bind fun Z=>
         some Z
        else
         some false:Option (Bool)).bind fun aa=>
        some aa
     | .inr r=>
      some r
end Go.Fo
