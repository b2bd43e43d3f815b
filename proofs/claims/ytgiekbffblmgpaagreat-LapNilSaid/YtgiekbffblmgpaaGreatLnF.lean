/- The functions of Go that are reached, as functions of plain values. -/
import Derived.Test.YtgiekbffblmgpaaGreatJ4
namespace Go.Fo
def Y3:ByteArray := ⟨#[0, 1, 2, 2, 3, 3, 3, 3, 4, 4, 4, 4, 4, 4, 4, 4, 5, 5, 5, 5, 5, 5, 5, 5, 5, 5, 5, 5, 5, 5, 5, 5, 6, 6, 6, 6, 6, 6, 6, 6, 6, 6, 6, 6, 6, 6, 6, 6, 6, 6, 6, 6, 6, 6, 6, 6, 6, 6, 6, 6, 6, 6, 6, 6, 7, 7, 7, 7, 7, 7, 7, 7, 7, 7, 7, 7, 7, 7, 7, 7, 7, 7, 7, 7, 7, 7, 7, 7, 7, 7, 7, 7, 7, 7, 7, 7, 7, 7, 7, 7, 7, 7, 7, 7, 7, 7, 7, 7, 7, 7, 7, 7, 7, 7, 7, 7, 7, 7, 7, 7, 7, 7, 7, 7, 7, 7, 7, 7, 8, 8, 8, 8, 8, 8, 8, 8, 8, 8, 8, 8, 8, 8, 8, 8, 8, 8, 8, 8, 8, 8, 8, 8, 8, 8, 8, 8, 8, 8, 8, 8, 8, 8, 8, 8, 8, 8, 8, 8, 8, 8, 8, 8, 8, 8, 8, 8, 8, 8, 8, 8, 8, 8, 8, 8, 8, 8, 8, 8, 8, 8, 8, 8, 8, 8, 8, 8, 8, 8, 8, 8, 8, 8, 8, 8, 8, 8, 8, 8, 8, 8, 8, 8, 8, 8, 8, 8, 8, 8, 8, 8, 8, 8, 8, 8, 8, 8, 8, 8, 8, 8, 8, 8, 8, 8, 8, 8, 8, 8, 8, 8, 8, 8, 8, 8, 8, 8, 8, 8, 8, 8, 8, 8, 8, 8, 8, 8]⟩
def vZ:List Int := [0, 0, 0, 0, 0, 0, 0, 0, 192, 128, 64, 0, 0, -64, -128, -192, 384, 256, 128, 0, 0, -128, -256, -384, 512, 384, 192, 0, -64, -192, -320, -512, -192, -128, -64, 0, 0, 64, 128, 192, -384, -256, -128, 0, 0, 128, 256, 384, 256, 256, 0, 0, -128, -128, -128, -128, -128, -128, 256, 256, 0, 0, -128, -128, -192, -64, 64, 192, 192, 64, -64, -192, 192, 64, -64, -192, -192, -64, 64, 192, 512, 0, 0, -64, -64, -128, -128, -128, 0, 384, 128, 0, -64, -128, -128, -192, 0, 0, 320, 128, 0, -128, -128, -192, -64, -64, -64, 320, 128, 0, -128, -128, 128, 128, 128, 128, -128, -128, -128, -128, 256, 128, 128, 64, 0, -64, -192, -320]
def vu (_K:Nat):Option (Unit):=
 some ()
def ww (_K:Nat)  : Option (Unit):=
 some ()
def wH (_K:Nat) (a b d:Int):Option (Bool):=
 let e:=(decide (a>=b))
 let f:=(decide (a<=d))
 let g:=(bif e then f else false)
 some g
def w8.r0 (_K:Nat) (d:Bool) (e:Int) (b:List (Bool)) (next:Int->Option ((Unit) ⊕ (Int))) (a:Int):Option ((Unit) ⊕ (Int)):=
 let f:=(decide (a<e))
 bif f then
  let g:=(Kd.nth (.bool) b (Int.toNat a))
  gd ((0:Int)<=a/\a<(b.length:Int)/\(Int.toNat a)<b.length) <|
  bif (d==g) then
   some (.inr a)
  else
   let h:=(wc .i64 (a+1))
   next h
 else
  some (.inl ())
def w8.l0 (K:Nat) (a:Bool) (b:Int) (d:List (Bool)) (n:Nat):Int->Option ((Unit) ⊕ (Int)):=wr (w8.r0 K a b d) (fun _=>none) n
def w8 (K:Nat) (b:Bool) (a:List (Bool)):Option (Int):=
 (w8.l0 K b (a.length:Int) a K 0:Option ((Unit) ⊕ (Int))).bind fun z=>match z with
 | .inl _=>
  some (-1)
 | .inr r=>
  some r
def qo (K:Nat) (a:Bool) (b:List (Bool)):Option (Bool):=
 (w8 K a b).bind fun d=>
 let e:=(decide (d>=0))
 some e
def kq (K:Nat) (a:List (Bool)):Option (Bool):=
 (qo K false a).bind fun b=>
 some (!b)
def qy (_K:Nat)  : Option (Unit):=
 some ()
def jl (K:Nat)  : Option ((List Int)):=
 (qy K ).bind fun _=>
 let a:=[(40,(60,(80,120))).1,(40,(60,(80,120))).2.1,(40,(60,(80,120))).2.2.1,(40,(60,(80,120))).2.2.2]
 some a
def zo.r0 (_K:Nat) (b:List Int) (d e:Int) (next:Int->Option ((Unit) ⊕ (Int))) (a:Int):Option ((Unit) ⊕ (Int)):=
 let f:=(decide (a<e))
 bif f then
  let g:=(Kd.nth (.int .i64) b (Int.toNat a))
  gd ((0:Int)<=a/\a<(b.length:Int)) <|
  bif (d==g) then
   some (.inr a)
  else
   let h:=(wc .i64 (a+1))
   next h
 else
  some (.inl ())
def zo.l0 (K:Nat) (a:List Int) (b d:Int) (n:Nat):Int->Option ((Unit) ⊕ (Int)):=wr (zo.r0 K a b d) (fun _=>none) n
def zo (K:Nat) (a:List Int) (b:Int):Option (Int):=
 (zo.l0 K a b (a.length:Int) K 0:Option ((Unit) ⊕ (Int))).bind fun z=>match z with
 | .inl _=>
  some (-1)
 | .inr r=>
  some r
def w5 (K:Nat) (a:List Int) (b:Int):Option (Bool):=
 (zo K a b).bind fun d=>
 let e:=(decide (d>=0))
 some e
def jG (K:Nat) (l n b d e f g h i j:Int):Option (Bool):=
 (wH K n 0 3).bind fun o=>
 (wH K b 1 2).bind fun p=>
 (kq K [o,p]).bind fun a=>
 bif (l==1) then
  (
   bif a then
    let m:=(bif (d==4) then true else (d==8))
    let k:=(Int.tmod e 4)
    bif (k==0) then
     (wH K e 4 16).bind fun q=>
     let s:=(bif (k==0) then q else false)
     (wH K f 0 1).bind fun t=>
     let u:=(wc .i64 (b-1))
     (wH K g 0 u).bind fun w=>
     let y:=(wc .i64 (16*d))
     let z:=(wc .i64 (y*b))
     let A:=(imin z 250)
     (wH K h 2 A).bind fun B=>
     let D:=(bif (i==0) then (j==0) else false)
     let E:=[m,s,t,w,B,D]
     (kq K E).bind fun F=>
     let G:=(bif a then F else false)
     some G
    else
     let H:=(bif (k==0) then false else false)
     (wH K f 0 1).bind fun I=>
     let J:=(wc .i64 (b-1))
     (wH K g 0 J).bind fun L=>
     let M:=(wc .i64 (16*d))
     let N:=(wc .i64 (M*b))
     let O:=(imin N 250)
     (wH K h 2 O).bind fun P=>
     let Q:=(bif (i==0) then (j==0) else false)
     let R:=[m,H,I,L,P,Q]
     (kq K R).bind fun S=>
     let T:=(bif a then S else false)
     some T
   else
    let U:=(bif a then false else false)
    some U:Option (Bool)).bind fun V=>
   some V
 else
  bif (l==2) then
   (
    bif a then
     (jl K ).bind fun W=>
     (w5 K W i).bind fun X=>
     (wH K j 20 120).bind fun Y=>
     let Z:=(bif (d==0) then (e==0) else false)
     let aa:=(bif Z then (f==0) else false)
     let ab:=(bif aa then (g==0) else false)
     let ad:=(bif ab then (h==0) else false)
     let ae:=[X,Y,ad]
     (kq K ae).bind fun af=>
     let ag:=(bif a then af else false)
     some ag
    else
     let ah:=(bif a then false else false)
     some ah:Option (Bool)).bind fun ai=>
    some ai
  else
   some false
def yf (_K:Nat) (b _q d a e _s f g _t h:Int):Option (Int):=
 bif (b==2) then
  let i:=(wc .i64 (8*h))
  some i
 else
  let j:=(wc .i64 (f*a))
  let k:=(wc .i64 (32+j))
  let l:=(wc .i64 (4*a))
  let m:=(wc .i64 (l*d))
  let n:=(wc .i64 (k+m))
  let o:=(wc .i64 (e*g))
  let p:=(wc .i64 (n+o))
  some p
def xc (K:Nat) (a e b f g h i j k d:Int):Option (Int):=
 bif (a==2) then
  let l:=(wc .i64 (d*b))
  some l
 else
  (yf K a e b f g h i j k d).bind fun m=>
  let n:=(wc .i64 (m+7))
  let o:=(wc .i64 (Int.tdiv n 8))
  some o
def xH (K:Nat) (a b d e f g h i j k:Int):Option (Int):=
 (
  (jG K a b d e f g h i j k).bind fun l=>
  bif (!l) then
   some true
  else
   (xc K a b d e f g h i j k).bind fun m=>
   let n:=(decide (m>512))
   some n:Option (Bool)).bind fun o=>
  bif o then
   some 110
  else
   some 0
def jf (K:Nat) (a b d e f g h i j k:Int):Option (Int):=
 (xH K a b d e f g h i j k).bind fun l=>
 let m:=(bif (l != 0) then true else (a != 2))
 bif m then
  some 110
 else
  some 0
def wX (_K:Nat) (a:Bool) (_b:List (Option (List Int))) (_d _e:Int):Option ((Unit) ⊕ (Unit)):=
 bif (!a) then
  some (.inl ())
 else
  some (.inr ())
def zW (_K:Nat) (_a _b:List (Option (List Int))) (_d _e:Int):Option (Unit):=
 some ()
def j8 (_K:Nat) (d a:Int):Option (Int):=
 let b:=(Int.tmod d a)
 gd (a≠0) <|
 let e:=(decide (b<0))
 (
  bif e then
   let f:=(wc .i64 (b+a))
   some f
  else
   some b:Option (Int)).bind fun g=>
  some g
def yg (K:Nat) (f a:Int):Option (Int × Int):=
 (j8 K f a).bind fun g=>
 let b:=(wc .i64 (4*g))
 let d:=(wc .i64 (Int.tdiv b a))
 gd (a≠0) <|
 let e:=(Int.tmod b a)
 gd (a≠0) <|
 let h:=(kand .i64 d 1)
 (
  bif (h==1) then
   let i:=(wc .i64 (a-e))
   some i
  else
   some e:Option (Int)).bind fun j=>
  let k:=(kshl .u64 (wc .u64 j) 30)
  let l:=(wc .u64 (Int.tdiv k (wc .u64 a)))
  gd ((wc .u64 a)≠0) <|
  some (l,d)
def xk (_K:Nat) (a b d:Int):Option (Int):=
 let e:=(decide (a<b))
 bif e then
  some b
 else
  let f:=(decide (a>d))
  bif f then
   some d
  else
   some a
def wK (K:Nat) (b e:Int):Option (Int):=
 (xk K e 0 62).bind fun a=>
 bif (a==0) then
  some b
 else
  let f:=(kshr .i64 b a)
  gd ((0:Int)<=a) <|
  let d:=(wc .i64 (a-1))
  let g:=(kshr .i64 b d)
  gd ((0:Int)<=d) <|
  let h:=(kand .i64 g 1)
  let i:=(wc .i64 (f+h))
  some i
def qS (_K:Nat) (a b d:Int):Option (Int):=
 let e:=(decide (a<b))
 bif e then
  some b
 else
  let f:=(decide (a>d))
  bif f then
   some d
  else
   some a
def zc (K:Nat) (a b d:Int):Option (Int):=
 (qS K a b d).bind fun e=>
 some e
def kX.r0 (_K:Nat) (_k _l d:Int) (next:Int->Int->Option (Int)) (b a:Int):Option (Int):=
 let e:=(decide (a<4))
 bif e then
  let f:=(List.getD ([5026995,85569306,693598668,1686629713]:List Int) (Int.toNat a) 0)
  gd ((0:Int)<=a/\a<4) <|
  let g:=(wc .u64 (b*d))
  let h:=(kshr .u64 g 30)
  let i:=(wc .u64 (f-h))
  let j:=(wc .i64 (a+1))
  next i j
 else
  some b
def kX.l0 (K:Nat) (a b d:Int) (n:Nat):Int->Int->Option (Int):=wr (kX.r0 K a b d) (fun _ _=>none) n
def kX (K:Nat) (e f:Int):Option (Int):=
 (yg K e f).bind fun (a,b)=>
 let g:=(wc .u64 (a*a))
 let h:=(kshr .u64 g 30)
 (kX.l0 K a b h K 172272 0:Option (Int)).bind fun i=>
  let j:=(wc .u64 (i*a))
  let k:=(kshr .u64 j 30)
  let l:=(wc .i64 k)
  (wK K l 15).bind fun m=>
  (zc K m 0 32767).bind fun d=>
  let n:=(decide (b>=2))
  (
   bif n then
    some ((wc .i64 (0-d)))
   else
    some d:Option (Int)).bind fun o=>
   some (wc .i16 o)
def xM (K:Nat) (b a:Int):Option (Int × Int):=
 let d:=(decide (a<1))
 let e:=(decide (a>1048576))
 let f:=(bif d then true else e)
 bif f then
  some (0,1)
 else
  (kX K b a).bind fun g=>
  some (g,0)
def k8 (K:Nat) (a b:Int):Option (Int):=
 let d:=(wc .i64 (2*a))
 let e:=(wc .i64 (d+1))
 let f:=(wc .i64 (8*b))
 (xM K e f).bind fun (g,_h)=>
 some g
def zX (_K:Nat) (a:Int) (b:List (Option (List Int))) (_f:List Int) (d:List (Option (List Int))) (e _g:Int):Option (Int):=
 gd (b.length+d.length=387) <|
 some (wc .i64 (e+a))
def z4.r0 (K:Nat) (d:Int) (_j _k:List (Option (List Int))) (_l _m _n e:Int) (next:Int->List Int->Option ((List Int))) (a:Int) (b:List Int):Option ((List Int)):=
 let f:=(decide (a<d))
 bif f then
  (k8 K a e).bind fun g=>
  gd ((0:Int)<=a/\a<(b.length:Int)) <|
  let h:=(List.set b (Int.toNat a) g)
  gd ((Int.toNat a)<b.length) <|
  let i:=(wc .i64 (a+1))
  next i h
 else
  some b
def z4.l0 (K:Nat) (a:Int) (b d:List (Option (List Int))) (e f g h:Int) (n:Nat):Int->List Int->Option ((List Int)):=wr (z4.r0 K a b d e f g h) (fun _ _=>none) n
def z4 (K:Nat) (b d:List (Option (List Int))) (e f a i:Int):Option ((List Int) × Int):=
 let g:=(List.replicate (Int.toNat a) (0:Int))
 gd ((0:Int)<=a/\a<=a/\a*2<=140737488355328) <|
 let j:=(g.length:Int)
 (z4.l0 K j b d e f a i K 0 g:Option ((List Int))).bind fun h=>
  (zX K 1 b h d e f).bind fun k=>
  some (h,k)
def jo (K:Nat) (a b:List (Option (List Int))) (d e f g:Int):Option ((List Int) × Int):=
 z4 K a b d e f g
def xI (K:Nat) (a b:List (Option (List Int))) (d e f g:Int):Option ((List Int) × Int):=
 (zW K a b d e).bind fun _=>
 (jo K a b d e f g).bind fun (h,i)=>
 some (h,i)
def wP (_K:Nat) (a:Int) (b:List (Option (List Int))) (_f:List Int) (d:List (Option (List Int))) (_g e:Int):Option (Int):=
 gd (b.length+d.length=387) <|
 some (wc .i64 (e+a))
def wM (_K:Nat) (a:List Int):Option ((List Int)):=
 gd (a≠[]) <|
 let b:=(([]:List Int)++a)
 gd (((([]:List Int).length:Int)+(a.length:Int))*2<=70368744177664) <|
 some b
def xe (K:Nat) (t0 t1:List (Option (List Int))) (e f b g:Int):Option ((List Int) × (List Int) × Int × Int):=
 (xI K t0 t1 f b e g).bind fun (a,d)=>
 (wP K 1 t0 a t1 d b).bind fun h=>
 (wM K a).bind fun i=>
 some (i,a,d,h)
def zw (_K:Nat) (_a:List (Option (List Int))) (_b:List Int) (_d:List (Option (List Int))) (_e _f:Int):Option (Unit):=
 some ()
def jg (K:Nat) (a:List (Option (List Int))) (b:List Int) (d:List (Option (List Int))) (e f _g _h:Int):Option (Unit):=
 (zw K a b d e f).bind fun _=>
 some ()
def jy (K:Nat) (t0 t1:List (Option (List Int))) (l:List Int) (d a b e:Int):Option ((List Int) × Int):=
 (jg K t0 l t1 a b d e).bind fun _=>
 (wP K 1 t0 l t1 a b).bind fun f=>
 (wM K l).bind fun g=>
 some (g,f)
def kx (K a:Nat) (e:Int) (b:List (Option (List Int))) (d f g:Int):Option ((List Int) × (List (Option (List Int))) × Int × Int):=
 gd (b.length=388/\a=a/4*4/\a/4<388) <|
 match b[a/4]? with
 | some none=>(xe K (b.take (a/4)) (b.drop ((a/4)+1)) e d f g).bind fun (q0',q1',q2',q3')=>some (q0',(b.take (a/4)++some q1'::b.drop ((a/4)+1)),q2',q3')
 | some (some l)=>(jy K (b.take (a/4)) (b.drop ((a/4)+1)) l e d f g).bind fun (q0',q1')=>some (q0',b,d,q1')
 | none=>none
def jS (K:Nat) (a:Int) (b:List (Option (List Int))) (d e:Int):Option ((List Int) × Int × (List (Option (List Int))) × Int × Int):=
 let f:=(decide (a>=1))
 let g:=(decide (a<=128))
 let h:=(bif f then g else false)
 (wX K h b d e).bind fun z=>match z with
 | .inl _=>
  some (([]:List Int),1,b,d,e)
 | .inr _=>
  let i:=(1028+(Int.toNat a)*4)
  gd ((0:Int)<=a/\a<129) <|
  (kx K i a b d e a).bind fun (j,k,l,m)=>
  some (j,0,k,l,m)
def jY (_K:Nat) (a b:Int):Option (Int × Int):=
 let d:=(kand .u64 a 4294967295)
 let e:=(kshr .u64 a 32)
 let f:=(kand .u64 b 4294967295)
 let g:=(kshr .u64 b 32)
 let i:=(wc .u64 (d*f))
 let j:=(wc .u64 (e*f))
 let k:=(kshr .u64 i 32)
 let h:=(wc .u64 (j+k))
 let l:=(kand .u64 h 4294967295)
 let m:=(kshr .u64 h 32)
 let n:=(wc .u64 (d*g))
 let o:=(wc .u64 (l+n))
 let p:=(wc .u64 (e*g))
 let q:=(wc .u64 (p+m))
 let s:=(kshr .u64 o 32)
 let t:=(wc .u64 (q+s))
 let u:=(wc .u64 (a*b))
 some (t,u)
def jM (K:Nat) (a b:Int):Option (Int × Int):=
 (jY K a b).bind fun (d,e)=>
 some (d,e)
def wQ.r0 (_K:Nat)  (next:Int->List Int->Option ((List Int))) (a:Int) (b:List Int):Option ((List Int)):=
 let d:=(decide (a<(b.length:Int)))
 bif d then
  gd ((0:Int)<=a/\a<(b.length:Int)) <|
  gd ((0:Int)<=a/\a<=(b.length:Int)/\b≠[]) <|
  let e:=(cpy (Int.toNat a) b (b.take (Int.toNat a)))
  gd ((Int.toNat a)<b.length/\(Int.toNat a)<=b.length) <|
  let f:=(wc .i64 (a+((min (b.take (Int.toNat a)).length (b.length-(Int.toNat a)):Nat):Int)))
  next f e
 else
  some b
def wQ.l0 (K:Nat)  (n:Nat):Int->List Int->Option ((List Int)):=wr (wQ.r0 K) (fun _ _=>none) n
def wQ (K:Nat) (b:List Int) (d:Int):Option ((List Int)):=
 let f:=(decide (d<0))
 bif f then
  none
 else
  let g:=(wc .u64 (b.length:Int))
  (jM K g (wc .u64 d)).bind fun (h,a)=>
  let i:=(decide (h>0))
  let j:=(decide (a>9223372036854775807))
  let k:=(bif i then true else j)
  bif k then
   none
  else
   let e:=(List.replicate (Int.toNat (wc .i64 a)) (0:Int))
   gd ((0:Int)<=(wc .i64 a)/\(wc .i64 a)<=(wc .i64 a)/\(wc .i64 a)*2<=140737488355328) <|
   let l:=(cpy 0 e b)
   let m:=((min b.length (e.length-0):Nat):Int)
   (wQ.l0 K K m l:Option ((List Int))).bind fun n=>
    some n
def qc (_K:Nat) (a:List Int):Option ((List Int)):=
 gd (a≠[]) <|
 let b:=(([]:List Int)++a)
 gd (((([]:List Int).length:Int)+(a.length:Int))*2<=70368744177664) <|
 some b
def wW.r0 (_K:Nat)  (next:Int->Int->List Int->Option ((List Int))) (a b:Int) (d:List Int):Option ((List Int)):=
 let f:=(decide (a<b))
 bif f then
  gd ((0:Int)<=b/\b<(d.length:Int)) <|
  let g:=(Kd.nth (.int .i16) d (Int.toNat b))
  gd ((Int.toNat b)<d.length) <|
  gd ((0:Int)<=a/\a<(d.length:Int)) <|
  let h:=(Kd.nth (.int .i16) d (Int.toNat a))
  gd ((Int.toNat a)<d.length) <|
  gd ((0:Int)<=a/\a<(d.length:Int)) <|
  let e:=(List.set d (Int.toNat a) g)
  gd ((Int.toNat a)<d.length) <|
  gd ((0:Int)<=b/\b<(e.length:Int)) <|
  let i:=(List.set e (Int.toNat b) h)
  gd ((Int.toNat b)<e.length) <|
  let j:=(wc .i64 (a+1))
  let k:=(wc .i64 (b-1))
  next j k i
 else
  some d
def wW.l0 (K:Nat)  (n:Nat):Int->Int->List Int->Option ((List Int)):=wr (wW.r0 K) (fun _ _ _=>none) n
def wW (K:Nat) (a:List Int):Option ((List Int)):=
 let b:=(wc .i64 ((a.length:Int)-1))
 (wW.l0 K K 0 b a:Option ((List Int))).bind fun d=>
  some d
def jJ (K:Nat) (a:Int) (g:List (Option (List Int))) (h i:Int):Option ((List Int) × Int × (List (Option (List Int))) × Int × Int):=
 (qy K ).bind fun _=>
 let q:=[(40,(60,(80,120))).1,(40,(60,(80,120))).2.1,(40,(60,(80,120))).2.2.1,(40,(60,(80,120))).2.2.2]
 (w5 K q a).bind fun s=>
 bif (!s) then
  some (([]:List Int),1,g,h,i)
 else
  let t:=(wc .i64 (Int.tdiv a 2))
  (jS K t g h i).bind fun (d,j,k,l,m)=>
  bif (j != 0) then
   some (([]:List Int),j,k,l,m)
  else
   let b:=(wc .i64 (Int.tdiv a 4))
   let n:=(wc .i64 (2*a))
   let e:=(List.replicate (Int.toNat b) (0:Int))
   gd ((0:Int)<=b/\b<=n/\n*2<=140737488355328) <|
   gd (((e.length:Int)+(d.length:Int))*2<=70368744177664) <|
   (wQ K ([32767]:List Int) b).bind fun o=>
   let f:=((e++d)++o)
   gd ((((e++d).length:Int)+(o.length:Int))*2<=70368744177664) <|
   (qc K f).bind fun u=>
   (wW K u).bind fun p=>
   gd (((f.length:Int)+(p.length:Int))*2<=70368744177664) <|
   some ((f++p),0,k,l,m)
def yh (K:Nat) (b a:Int):Option (Int × Int):=
 let d:=(decide (a<1))
 let e:=(decide (a>1048576))
 let f:=(bif d then true else e)
 bif f then
  some (0,1)
 else
  (j8 K b a).bind fun g=>
  let h:=(wc .i64 (4*g))
  let i:=(wc .i64 (h+a))
  let j:=(wc .i64 (4*a))
  (kX K i j).bind fun k=>
  some (k,0)
def jF (K:Nat) (a b:Int):Option (Int):=
 (yh K a b).bind fun (d,_e)=>
 some d
def zI.r0 (K:Nat) (d:Int) (_j _k:List (Option (List Int))) (_l _m _n e:Int) (next:Int->List Int->Option ((List Int))) (a:Int) (b:List Int):Option ((List Int)):=
 let f:=(decide (a<d))
 bif f then
  (jF K a e).bind fun g=>
  gd ((0:Int)<=a/\a<(b.length:Int)) <|
  let h:=(List.set b (Int.toNat a) g)
  gd ((Int.toNat a)<b.length) <|
  let i:=(wc .i64 (a+1))
  next i h
 else
  some b
def zI.l0 (K:Nat) (a:Int) (b d:List (Option (List Int))) (e f g h:Int) (n:Nat):Int->List Int->Option ((List Int)):=wr (zI.r0 K a b d e f g h) (fun _ _=>none) n
def zI (K:Nat) (b d:List (Option (List Int))) (e f a i:Int):Option ((List Int) × Int):=
 let g:=(List.replicate (Int.toNat a) (0:Int))
 gd ((0:Int)<=a/\a<=a/\a*2<=140737488355328) <|
 let j:=(g.length:Int)
 (zI.l0 K j b d e f a i K 0 g:Option ((List Int))).bind fun h=>
  (zX K 1 b h d e f).bind fun k=>
  some (h,k)
def kN (K:Nat) (a b:List (Option (List Int))) (d e f g:Int):Option ((List Int) × Int):=
 zI K a b d e f g
def xi (K:Nat) (a b:List (Option (List Int))) (d e f g:Int):Option ((List Int) × Int):=
 (zW K a b d e).bind fun _=>
 (kN K a b d e f g).bind fun (h,i)=>
 some (h,i)
def jp (K:Nat) (t0 t1:List (Option (List Int))) (e f b g:Int):Option ((List Int) × (List Int) × Int × Int):=
 (xi K t0 t1 f b e g).bind fun (a,d)=>
 (wP K 1 t0 a t1 d b).bind fun h=>
 (wM K a).bind fun i=>
 some (i,a,d,h)
def jj (K:Nat) (a:List (Option (List Int))) (b:List Int) (d:List (Option (List Int))) (e f _g _h:Int):Option (Unit):=
 (zw K a b d e f).bind fun _=>
 some ()
def jq (K:Nat) (t0 t1:List (Option (List Int))) (l:List Int) (d a b e:Int):Option ((List Int) × Int):=
 (jj K t0 l t1 a b d e).bind fun _=>
 (wP K 1 t0 l t1 a b).bind fun f=>
 (wM K l).bind fun g=>
 some (g,f)
def kv (K a:Nat) (e:Int) (b:List (Option (List Int))) (d f g:Int):Option ((List Int) × (List (Option (List Int))) × Int × Int):=
 gd (b.length=388/\a=a/4*4/\a/4<388) <|
 match b[a/4]? with
 | some none=>(jp K (b.take (a/4)) (b.drop ((a/4)+1)) e d f g).bind fun (q0',q1',q2',q3')=>some (q0',(b.take (a/4)++some q1'::b.drop ((a/4)+1)),q2',q3')
 | some (some l)=>(jq K (b.take (a/4)) (b.drop ((a/4)+1)) l e d f g).bind fun (q0',q1')=>some (q0',b,d,q1')
 | none=>none
def xj (K:Nat) (a:Int) (b:List (Option (List Int))) (d e:Int):Option ((List Int) × Int × (List (Option (List Int))) × Int × Int):=
 let g:=(decide (a>=4))
 let h:=(decide (a<=1024))
 let i:=(bif g then h else false)
 let j:=(Int.tmod a 4)
 let k:=(bif i then (j==0) else false)
 (wX K k b d e).bind fun z=>match z with
 | .inl _=>
  some (([]:List Int),1,b,d,e)
 | .inr _=>
  let f:=(wc .i64 (Int.tdiv a 4))
  let l:=(0+(Int.toNat f)*4)
  gd ((0:Int)<=f/\f<257) <|
  (kv K l a b d e a).bind fun (m,n,o,p)=>
  some (m,0,n,o,p)
def yU (K:Nat) (a:Int) (g:List (Option (List Int))) (h i:Int):Option (Int × (List Int) × (List Int) × Int × (List (Option (List Int))) × Int × Int):=
 (jJ K a g h i).bind fun (j,b,d,e,f)=>
 bif (b != 0) then
  some (0,([]:List Int),([]:List Int),b,d,e,f)
 else
  let k:=(wc .i64 (8*a))
  (xj K k d e f).bind fun (l,m,n,o,p)=>
  some (a,j,l,m,n,o,p)
def wC (K:Nat) (a:Int) (g:List (Option (List Int))) (h i:Int):Option ((Int × (List (Option (List Int))) × Int × Int) ⊕ ((List (Option (List Int))) × Int × Int × Int × (List Int) × (List Int) × (List Int))):=
 (yU K a g h i).bind fun (j,k,l,b,d,e,f)=>
 bif (b != 0) then
  some (.inl (b,d,e,f))
 else
  let m:=(List.replicate (Int.toNat a) (0:Int))
  gd ((0:Int)<=a/\a<=a/\a*2<=140737488355328) <|
  some (.inr (d,e,f,j,k,l,m))
def w3 (_K:Nat)  : Option ((List Int)):=
 some (List.replicate 79 (0:Int))
def wI (K:Nat) (h i b j k l m n a o:Int) (d:List (Option (List Int))) (e f:Int):Option ((Int) ⊕ ((List (Option (List Int))) × Int × Int × (List Int) × Int × (List Int) × (List Int) × (List Int)) ⊕ ((List (Option (List Int))) × Int × Int × (List Int) × Int × (List Int) × (List Int) × (List Int) × Int × (List Int) × (List Int) × (List Int) × (List Int))):=
 (jf K h i b j k l m n a o).bind fun g=>
 bif (g != 0) then
  some (.inl g)
 else
  bif b==1 then
   (wC K a d e f).bind fun z=>match z with
   | .inl (_T,_U,_V,_W)=>
    none
   | .inr (p,q,s,t,u,w,y)=>
    (w3 K ).bind fun A=>
    some (.inr (.inl (p,q,s,A,t,u,w,y)))
  else
   bif b==2 then
    (wC K a d e f).bind fun z=>match z with
    | .inl (_X,_Y,_Z,_aa)=>
     none
    | .inr (B,D,E,F,G,H,I)=>
     (w3 K ).bind fun J=>
     (wC K a B D E).bind fun z=>match z with
     | .inl (_ab,_ad,_ae,_af)=>
      none
     | .inr (L,M,N,O,P,Q,R)=>
      (w3 K ).bind fun S=>
      some (.inr (.inr (L,M,N,J,F,G,H,S,O,P,Q,I,R)))
   else
    none
def z7 (_K:Nat) (_a:List Int):Option ((List Int)):=
 some ([]:List Int)
def yd (_K:Nat) (a:List Int):Option ((List Int)):=
 gd (a≠[]) <|
 let b:=(([]:List Int)++a)
 gd (((([]:List Int).length:Int)+(a.length:Int))*1<=70368744177664) <|
 some b
def xN (K:Nat) (a:List Int):Option ((List Int)):=
 let b:=(decide ((a.length:Int)>512))
 bif b then
  none
 else
  (yd K a).bind fun d=>
  some d
def xd (_K:Nat) (a b d:Int) (_h:List Int):Option (Int):=
 let e:=(wc .i64 (8*a))
 let f:=(wc .i64 (e-b))
 let g:=(wc .i64 (f-d))
 some g
def jL (K:Nat) (a b d e:Int) (f:List Int):Option (Int):=
 let g:=(decide (a<0))
 let h:=(decide (a>32))
 let i:=(bif g then true else h)
 bif i then
  some 1
 else
  (xd K b d e f).bind fun j=>
  let k:=(decide (a>j))
  bif k then
   some 50
  else
   some 0
def jD (_K:Nat) (d _j a:Int) (_k:List Int):Option (Int × Int × Int):=
 let e:=(wc .i64 (a+1))
 let f:=(wc .i64 (d-1))
 let g:=(wc .i64 (Int.tdiv a 8))
 let h:=(wc .i64 (f-g))
 let b:=(Int.tmod a 8)
 let i:=(kshl .u8 1 b)
 gd ((0:Int)<=b) <|
 some (h,i,e)
def ju (_K:Nat) (a d _g _h:Int) (b:List Int):Option (Int):=
 let e:=(Kd.nth (.int .u8) b (Int.toNat a))
 let f:=(kand .u8 e d)
 gd ((0:Int)<=a/\a<(b.length:Int)) <|
 bif (f != 0) then
  some 1
 else
  some 0
def qM.r0 (K:Nat) (h d:Int) (b:List Int) (next:Int->Int->Int->Option (Int × Int)) (e a f:Int):Option (Int × Int):=
 let i:=(decide (a<h))
 bif i then
  (jD K (b.length:Int) d f b).bind fun (j,k,g)=>
  (ju K j k d g b).bind fun l=>
  let m:=(kshl .u32 l a)
  gd ((0:Int)<=a) <|
  let n:=(kor .u32 e m)
  let o:=(wc .i64 (a+1))
  next n o g
 else
  some (e,f)
def qM.l0 (K:Nat) (a b:Int) (d:List Int) (n:Nat):Int->Int->Int->Option (Int × Int):=wr (qM.r0 K a b d) (fun _ _ _=>none) n
def qM (K:Nat) (d e a:Int) (b:List Int):Option (Int × Int × Int):=
 (jL K d (b.length:Int) e a b).bind fun f=>
 bif (f != 0) then
  some (0,f,a)
 else
  (qM.l0 K d e b K 0 0 a:Option (Int × Int)).bind fun (g,h)=>
   some (g,0,h)
def wh (K:Nat) (a b d:Int) (e:List Int):Option (Int × Int):=
 (qM K a b d e).bind fun (f,_h,g)=>
 some ((wc .i64 f),g)
def jn (K:Nat) (a f g:Int) (b:List Int):Option (Int):=
 let h:=(decide (a<0))
 let d:=(wc .i64 (Int.tdiv a 8))
 let i:=(decide (d>=(b.length:Int)))
 let j:=(bif h then true else i)
 bif j then
  some 0
 else
  let e:=(Int.tmod a 8)
  let k:=(kshr .u8 128 e)
  gd ((0:Int)<=e) <|
  (ju K d k f g b).bind fun l=>
  some (wc .i64 l)
def qT (K:Nat) (_j _k b a _l d e:Int) (f:List Int):Option (Int × Int):=
 let g:=(wc .i64 (b+a))
 (jn K g d e f).bind fun h=>
 let i:=(wc .i64 (a+1))
 some (h,i)
def qm.r0 (K:Nat) (e f:Int) (g:List Int) (h:Int) (next:Int->Int->Int->Option (Int × Int)) (b d a:Int):Option (Int × Int):=
 let i:=(decide (b<16))
 bif i then
  let j:=(wc .i64 (2*a))
  (qT K 0 65535 h d a e f g).bind fun (k,l)=>
  let m:=(wc .i64 (j+k))
  let n:=(wc .i64 (b+1))
  next n l m
 else
  some (d,a)
def qm.l0 (K:Nat) (a b:Int) (d:List Int) (e:Int) (n:Nat):Int->Int->Int->Option (Int × Int):=wr (qm.r0 K a b d e) (fun _ _ _=>none) n
def qm (K:Nat) (b d e:Int) (f:List Int):Option (Int × Int × Int):=
 let a:=(imin (imax b 0) 4096)
 (qm.l0 K d e f a K 0 0 0:Option (Int × Int)).bind fun (g,h)=>
  some (a,g,h)
def xp (_K:Nat) (a:Int):Option ((List Int)):=
 bif (a==0) then
  let b:=([700,180,60,25,12,7,5,4,3,2,2,1,1,1,1]:List Int)
  some b
 else
  bif (a==1) then
   let d:=([380,330,140,65,32,18,11,7,5,4,3,2,2,1,2]:List Int)
   some d
  else
   bif (a==2) then
    let e:=([200,280,210,120,70,42,26,17,12,8,6,4,3,2,6]:List Int)
    some e
   else
    let f:=([90,140,150,140,115,90,70,52,40,30,22,16,12,9,40]:List Int)
    some f
def qZ (_K:Nat) (a:Int):Option (Int):=
 let b:=(imax a (wc .i64 (0-a)))
 some b
def qO.r0 (_K:Nat) (e:List Int) (f:Int) (next:Int->Int->Option ((Int) ⊕ (Int))) (b a:Int):Option ((Int) ⊕ (Int)):=
 let g:=(decide (a<f))
 bif g then
  let d:=(Kd.nth (.int .i64) e (Int.toNat a))
  gd ((0:Int)<=a/\a<(e.length:Int)) <|
  let h:=(decide (d<1))
  let i:=(wc .i64 (4096-b))
  let j:=(decide (d>i))
  let k:=(bif h then true else j)
  bif k then
   some (.inr 0)
  else
   let l:=(wc .i64 (b+d))
   let m:=(wc .i64 (a+1))
   next l m
 else
  some (.inl b)
def qO.l0 (K:Nat) (a:List Int) (b:Int) (n:Nat):Int->Int->Option ((Int) ⊕ (Int)):=wr (qO.r0 K a b) (fun _ _=>none) n
def qO (K:Nat) (a:List Int):Option (Int):=
 let b:=(decide ((a.length:Int)<2))
 let d:=(decide ((a.length:Int)>32))
 let e:=(bif b then true else d)
 bif e then
  some 0
 else
  (qO.l0 K a (a.length:Int) K 0 0:Option ((Int) ⊕ (Int))).bind fun z=>match z with
  | .inl f=>
   some f
  | .inr r=>
   some r
def qU (_K:Nat) (a b _f _g _h _i _j:Int) (_k:List Int):Option (Int):=
 let d:=(wc .i64 (b-a))
 let e:=(wc .i64 (d+1))
 some e
def zv.r0 (_K:Nat) (_j:List Int) (_k _l:Int) (b:List Int) (e _m _n _o _p _q _s _t:Int) (_u:List Int) (next:Int->Int->Option (Int)) (d a:Int):Option (Int):=
 let f:=(decide (a<e))
 bif f then
  let g:=(Kd.nth (.int .i64) b (Int.toNat a))
  gd ((0:Int)<=a/\a<(b.length:Int)) <|
  let h:=(wc .i64 (d+g))
  let i:=(wc .i64 (a+1))
  next h i
 else
  some d
def zv.l0 (K:Nat) (a:List Int) (b d:Int) (e:List Int) (f g h i j k l m:Int) (o:List Int) (n:Nat):Int->Int->Option (Int):=wr (zv.r0 K a b d e f g h i j k l m o) (fun _ _=>none) n
def zv (K:Nat) (b:List Int) (a d e f g h i j k:Int) (l:List Int):Option (Int × Int):=
 let m:=((b.take (Int.toNat a)).drop (Int.toNat 0))
 let p:=(m.length:Int)
 gd (0<=a/\a<=(b.length:Int)) <|
 (zv.l0 K b a d m p e f g h i j k l K 0 0:Option (Int)).bind fun n=>
  (qU K e f g h i j k l).bind fun o=>
  let q:=(Kd.nth (.int .i64) b (Int.toNat a))
  let s:=(wc .i64 (n+q))
  let t:=(wc .i64 (o*s))
  let u:=(wc .i64 (Int.tdiv t d))
  let w:=(wc .i64 (e+u))
  let y:=(wc .i64 (w-1))
  gd ((0:Int)<=a/\a<(b.length:Int)/\d≠0) <|
  let z:=(wc .i64 (o*n))
  let A:=(wc .i64 (Int.tdiv z d))
  let B:=(wc .i64 (e+A))
  gd (d≠0) <|
  some (B,y)
def jd (K:Nat) (b d e f g a h i:Int) (j:List Int):Option (Int × Int):=
 let k:=(wc .i64 (a-b))
 let l:=(wc .i64 (2*k))
 (qT K d e f g a h i j).bind fun (m,n)=>
 let o:=(wc .i64 (l+m))
 some (n,o)
def z6.r0 (K:Nat) (g h i:Int) (j:List Int) (next:Int->Int->Int->Int->Option (Int × Int × Int × Int)) (a b e f:Int):Option (Int × Int × Int × Int):=
 (
  let k:=(decide (b<32768))
  bif k then
   some (.inl 0)
  else
   let l:=(decide (a>=32768))
   bif l then
    some (.inl 32768)
   else
    let m:=(decide (a>=16384))
    let n:=(decide (b<49152))
    let o:=(bif m then n else false)
    bif o then
     some (.inl 16384)
    else
     some (.inr (a,b,e,f)):Option ((Int) ⊕ (Int × Int × Int × Int))).bind fun z=>match z with
 | .inl d=>
  (jd K d a b g e f h i j).bind fun (p,q)=>
  let s:=(wc .i64 (a-d))
  let t:=(wc .i64 (2*s))
  let u:=(wc .i64 (b-d))
  let w:=(wc .i64 (2*u))
  let y:=(wc .i64 (w+1))
  next t y p q
 | .inr r=>
  some (r)
def z6.l0 (K:Nat) (a b d:Int) (e:List Int) (n:Nat):Int->Int->Int->Int->Option (Int × Int × Int × Int):=wr (z6.r0 K a b d e) (fun _ _ _ _=>none) n
def z6 (K:Nat) (a b d e f g h:Int) (i:List Int):Option (Int × Int × Int × Int):=
 (z6.l0 K d g h i K a b e f:Option (Int × Int × Int × Int)).bind fun r=>
  some r
def zO.r0 (_K:Nat) (b:List Int) (_i _j _k _l _m _n _o _p:Int) (_q:List Int) (next:Int->Int->Option (Int)) (d a:Int):Option (Int):=
 let e:=(Kd.nth (.int .i64) b (Int.toNat a))
 let f:=(decide (d>=e))
 gd ((0:Int)<=a/\a<(b.length:Int)) <|
 bif f then
  let g:=(wc .i64 (d-e))
  gd ((0:Int)<=a/\a<(b.length:Int)) <|
  let h:=(wc .i64 (a+1))
  next g h
 else
  some a
def zO.l0 (K:Nat) (a:List Int) (b d e f g h i j:Int) (k:List Int) (n:Nat):Int->Int->Option (Int):=wr (zO.r0 K a b d e f g h i j k) (fun _ _=>none) n
def zO (K:Nat) (k:List Int) (b e f d a g h:Int) (i:List Int):Option (Int × Int × Int × Int × Int × Int):=
 (qO K k).bind fun j=>
 bif (j==0) then
  some (0,1,b,e,d,a)
 else
  let n:=(wc .i64 (a-b))
  let o:=(wc .i64 (n+1))
  let p:=(wc .i64 (o*j))
  let q:=(wc .i64 (p-1))
  (qU K b e f d a g h i).bind fun l=>
  let s:=(wc .i64 (Int.tdiv q l))
  gd (l≠0) <|
  (zO.l0 K k j b e f d a g h i K s 0:Option (Int)).bind fun m=>
   (zv K k m j b e f d a g h i).bind fun (t,u)=>
   (z6 K t u f d a g h i).bind fun (w,y,z,A)=>
   some (m,0,w,y,z,A)
def ko (K:Nat) (a:List Int) (_q b d e f g h i:Int) (j:List Int):Option (Int × Int × Int × Int × Int × Int):=
 (zO K a b d e f g h i j).bind fun (k,l,m,n,o,p)=>
 some (k,l,m,n,o,p)
def jW (_K:Nat) (a:Int):Option (Int):=
 let h:=(decide (a>=4294967296))
 (
  bif h then
   let i:=(kshr .u64 a 32)
   some (i,32)
  else
   some (a,0):Option (Int × Int)).bind fun (b,f)=>
  let j:=(decide (b>=65536))
  (
   bif j then
    let k:=(kshr .u64 b 16)
    let l:=(wc .i64 (f+16))
    some (k,l)
   else
    some (b,f):Option (Int × Int)).bind fun (d,g)=>
   let m:=(decide (d>=256))
   (
    bif m then
     let n:=(kshr .u64 d 8)
     let o:=(wc .i64 (g+8))
     some (n,o)
    else
     some (d,g):Option (Int × Int)).bind fun (e,p)=>
    let q:=(sbyte Y3 (Int.toNat (wc .u8 e)))
    let s:=(wc .i64 q)
    let t:=(wc .i64 (p+s))
    gd ((0:Int)<=(wc .u8 e)/\(wc .u8 e)<(Y3.size:Int)) <|
    some t
def kU (K:Nat) (a:Int):Option (Int):=
 (jW K a).bind fun b=>
 some b
def qA (_K:Nat)  : Option ((List Int)):=
 let a:=([1,1]:List Int)
 some a
def wS.r0 (K:Nat) (m n o p:Int) (q:List Int) (next:Int->Int->Int->Int->Int->Int->Option ((Int × Int × Int × Int × Int) ⊕ (Int × Int × Int × Int × Int × Int))) (b a d e f g:Int):Option ((Int × Int × Int × Int × Int) ⊕ (Int × Int × Int × Int × Int × Int)):=
 let s:=(decide (a>=0))
 bif s then
  (qA K ).bind fun t=>
  let u:=(kshr .i64 m a)
  gd ((0:Int)<=a) <|
  let w:=(kand .i64 u 1)
  (ko K t w d e n f g o p q).bind fun (y,h,i,j,k,l)=>
  bif (h != 0) then
   some (.inr (0,h,i,j,k,l))
  else
   let z:=(kshl .i64 b 1)
   let A:=(kor .i64 z y)
   let B:=(wc .i64 (a-1))
   next A B i j k l
 else
  some (.inl (b,d,e,f,g))
def wS.l0 (K:Nat) (a b d e:Int) (f:List Int) (n:Nat):Int->Int->Int->Int->Int->Int->Option ((Int × Int × Int × Int × Int) ⊕ (Int × Int × Int × Int × Int × Int)):=wr (wS.r0 K a b d e f) (fun _ _ _ _ _ _=>none) n
def wS.r1 (K:Nat) (_y i j k l:Int) (m:List Int) (next:Int->Int->Int->Int->Int->Option ((Int × Int × Int × Int × Int) ⊕ (Int × Int × Int × Int × Int × Int))) (f n o p q:Int):Option ((Int × Int × Int × Int × Int) ⊕ (Int × Int × Int × Int × Int × Int)):=
 let s:=(decide (f<i))
 (
  bif s then
   some 1
  else
   some 0:Option (Int)).bind fun t=>
  (qA K ).bind fun u=>
  (ko K u t n o j p q k l m).bind fun (w,g,a,b,d,e)=>
  bif (g != 0) then
   some (.inr (0,g,a,b,d,e))
  else
   bif (w==0) then
    some (.inl (f,a,b,d,e))
   else
    let h:=(wc .i64 (f+1))
    bif (h==15) then
     some (.inr (0,70,a,b,d,e))
    else
     next h a b d e
def wS.l1 (K:Nat) (a b d e f:Int) (g:List Int) (n:Nat):Int->Int->Int->Int->Int->Option ((Int × Int × Int × Int × Int) ⊕ (Int × Int × Int × Int × Int × Int)):=wr (wS.r1 K a b d e f g) (fun _ _ _ _ _=>none) n
def wS (K:Nat) (a g h b i j d e:Int) (f:List Int):Option (Int × Int × Int × Int × Int × Int):=
 (kU K (wc .u64 a)).bind fun k=>
 let l:=(wc .i64 (k-1))
 (wS.l1 K a l b d e f K 0 g h i j:Option ((Int × Int × Int × Int × Int) ⊕ (Int × Int × Int × Int × Int × Int))).bind fun z=>match z with
 | .inl (m,n,o,p,q)=>
  let s:=(wc .i64 (m-1))
  (wS.l0 K a b d e f K 1 s n o p q:Option ((Int × Int × Int × Int × Int) ⊕ (Int × Int × Int × Int × Int × Int))).bind fun z=>match z with
  | .inl (t,u,w,y,A)=>
   some (t,0,u,w,y,A)
  | .inr r=>
   some r
 | .inr r=>
  some r
def zJ.r0 (K:Nat) (b:List Int) (e:Int) (next:Int->Int->Option (Int)) (d a:Int):Option (Int):=
 let f:=(decide (a<e))
 bif f then
  let g:=(Kd.nth (.int .i64) b (Int.toNat a))
  gd ((0:Int)<=a/\a<(b.length:Int)) <|
  (qZ K g).bind fun h=>
  let i:=(wc .i64 (d+(imin h 3)))
  let j:=(wc .i64 (a+1))
  next i j
 else
  some d
def zJ.l0 (K:Nat) (a:List Int) (b:Int) (n:Nat):Int->Int->Option (Int):=wr (zJ.r0 K a b) (fun _ _=>none) n
def zJ (K:Nat) (a:List Int):Option (Int):=
 let b:=(wc .i64 ((a.length:Int)-2))
 let d:=((a.take (Int.toNat (a.length:Int))).drop (Int.toNat (imax b 0)))
 let e:=(d.length:Int)
 gd ((0:Int)<=(imax b 0)/\(imax b 0)<=(a.length:Int)/\(a.length:Int)<=(a.length:Int)) <|
 (zJ.l0 K d e K 0 0:Option (Int)).bind fun f=>
  let g:=(wc .i64 (f+1))
  let h:=(wc .i64 (Int.tdiv g 2))
  some h
def xg (K:Nat) (a:List Int):Option (Int):=
 zJ K a
def qV (K:Nat) (a:Int) (A:List Int) (B D b E F d e:Int) (f:List Int):Option (Int × Int × Int × Int × Int × Int):=
 (xg K A).bind fun G=>
 (xp K G).bind fun H=>
 (qZ K a).bind fun I=>
 (ko K H (imin I 14) B D b E F d e f).bind fun (p,q,g,h,i,j)=>
 bif (q != 0) then
  some (0,q,g,h,i,j)
 else
  (
   bif (p==14) then
    (qZ K a).bind fun J=>
    let L:=(wc .i64 (J-14))
    let M:=(wc .i64 (L+1))
    (wS K (imax M 1) g h b i j d e f).bind fun (N,s,t,u,w,y)=>
    bif (s != 0) then
     some (.inr (0,s,t,u,w,y))
    else
     let O:=(wc .i64 (N+14))
     let P:=(wc .i64 (O-1))
     some (.inl (P,t,u,w,y))
   else
    some (.inl (p,g,h,i,j)):Option ((Int × Int × Int × Int × Int) ⊕ (Int × Int × Int × Int × Int × Int))).bind fun z=>match z with
  | .inl (k,l,m,n,o)=>
   let Q:=(decide (k>32767))
   bif Q then
    some (0,70,l,m,n,o)
   else
    bif (k==0) then
     some (0,0,l,m,n,o)
    else
     let R:=(decide (a<0))
     (
      bif R then
       some 1
      else
       some 0:Option (Int)).bind fun S=>
      (qA K ).bind fun T=>
      (ko K T S l m b n o d e f).bind fun (U,V,W,X,Y,Z)=>
      let aa:=(wc .i64 (2*U))
      let ab:=(wc .i64 (1-aa))
      let ad:=(wc .i64 (k*ab))
      some (ad,V,W,X,Y,Z)
  | .inr r=>
   some r
def qe.r0 (K:Nat) (n o p q:Int) (s:List Int) (next:Int->Int->Int->Int->Int->List Int->Option ((Int × Int × Int × Int × (List Int)) ⊕ ((Int × Int × Int × Int × Int) ⊕ (Int × Int × Int × Int × (List Int))))) (b d e f g:Int) (a:List Int):Option ((Int × Int × Int × Int × (List Int)) ⊕ ((Int × Int × Int × Int × Int) ⊕ (Int × Int × Int × Int × (List Int)))):=
 let t:=(decide (b<n))
 bif t then
  (qV K 0 a d e o f g p q s).bind fun (h,i,j,k,l,m)=>
  bif (i != 0) then
   some (.inr (.inl (i,j,k,l,m)))
  else
   let u:=(a++[h])
   gd (((a.length:Int)+([h].length:Int))*8<=70368744177664) <|
   let w:=(wc .i64 (b+1))
   next w j k l m u
 else
  some (.inl (d,e,f,g,a))
def qe.l0 (K:Nat) (a b d e:Int) (f:List Int) (n:Nat):Int->Int->Int->Int->Int->List Int->Option ((Int × Int × Int × Int × (List Int)) ⊕ ((Int × Int × Int × Int × Int) ⊕ (Int × Int × Int × Int × (List Int)))):=wr (qe.r0 K a b d e f) (fun _ _ _ _ _ _=>none) n
def qe (K:Nat) (a b d g e f h i:Int) (j:List Int):Option ((Int × Int × Int × Int × Int) ⊕ (Int × Int × Int × Int × (List Int))):=
 let k:=(decide (a<0))
 let l:=(decide (a>120))
 let m:=(bif k then true else l)
 bif m then
  some (.inl (1,b,d,e,f))
 else
  (qe.l0 K a g h i j K 0 b d e f ([]:List Int):Option ((Int × Int × Int × Int × (List Int)) ⊕ ((Int × Int × Int × Int × Int) ⊕ (Int × Int × Int × Int × (List Int))))).bind fun z=>match z with
  | .inl (n,o,p,q,s)=>
   some (.inr (n,o,p,q,s))
  | .inr r=>
   some r
def zL.r0 (_K:Nat) (e _k _l _m _n _o _p _q _s _t _u _w _y _z _A _B _D _E _F _G:Int) (b:List Int) (next:Int->Int->Option (Int)) (d a:Int):Option (Int):=
 let f:=(decide (a<e))
 bif f then
  (
   let g:=(Kd.nth (.int .i64) b (Int.toNat a))
   gd ((0:Int)<=a/\a<(b.length:Int)/\(Int.toNat a)<b.length) <|
   bif (g != 0) then
    let h:=(wc .i64 (d+1))
    some h
   else
    some d:Option (Int)).bind fun i=>
   let j:=(wc .i64 (a+1))
   next i j
 else
  some d
def zL.l0 (K:Nat) (a b d e f g h i j k l m o p q s t u w y:Int) (z:List Int) (n:Nat):Int->Int->Option (Int):=wr (zL.r0 K a b d e f g h i j k l m o p q s t u w y z) (fun _ _=>none) n
def zL (K:Nat) (b d e f g h i j k l m n o p q s t u w:Int) (a:List Int):Option (Int):=
 (zL.l0 K (a.length:Int) b d e f g h i j k l m n o p q s t u w a K 0 0:Option (Int)).bind fun y=>
  some y
def j9.r0 (_K:Nat) (d:List Int) (next:Int->Option (Int)) (e:Int):Option (Int):=
 let a:=(decide (e>0))
 let b:=(wc .i64 (e-1))
 let f:=(Int.toNat b)
 let g:=(Kd.nth (.int .i64) d f)
 let h:=(bif a then (g==0) else false)
 gd ((a=true->(0:Int)<=b)/\(a=true->b<(d.length:Int))/\(a=true->f<d.length)) <|
 bif h then
  next b
 else
  some e
def j9.l0 (K:Nat) (a:List Int) (n:Nat):Int->Option (Int):=wr (j9.r0 K a) (fun _=>none) n
def j9 (K:Nat) (a:List Int):Option (Int):=
 (j9.l0 K a K (a.length:Int):Option (Int)).bind fun b=>
  some b
def zi.r0 (_K:Nat) (e f g h _l _m _n _o _p _q _s _t _u _w _y _z _A _B _D:Int) (_E:List Int) (next:Int->List ((Int × Int))->Option ((List ((Int × Int))))) (a:Int) (b:List ((Int × Int))):Option ((List ((Int × Int)))):=
 let i:=(decide (a<4))
 bif i then
  let d:=(List.getD [e,f,g,h] (Int.toNat a) 0)
  gd ((0:Int)<=a/\a<4) <|
  let j:=(b++[(d,5)])
  gd (((b.length:Int)+([(d,5)].length:Int))*16<=70368744177664) <|
  let k:=(wc .i64 (a+1))
  next k j
 else
  some b
def zi.l0 (K:Nat) (a b d e f g h i j k l m o p q s t u w:Int) (y:List Int) (n:Nat):Int->List ((Int × Int))->Option ((List ((Int × Int)))):=wr (zi.r0 K a b d e f g h i j k l m o p q s t u w y) (fun _ _=>none) n
def zi.r1 (_K:Nat) (e f g h i j k l _q _s _t _u _w _y _z _A _B _D _E:Int) (_F:List Int) (next:Int->List ((Int × Int))->Option ((List ((Int × Int))))) (a:Int) (b:List ((Int × Int))):Option ((List ((Int × Int)))):=
 let m:=(decide (a<8))
 bif m then
  let n:=(List.getD [e,f,g,h,i,j,k,l] (Int.toNat a) 0)
  gd ((0:Int)<=a/\a<8) <|
  let d:=(wc .i64 (n+4))
  let o:=(b++[(d,3)])
  gd (((b.length:Int)+([(d,3)].length:Int))*16<=70368744177664) <|
  let p:=(wc .i64 (a+1))
  next p o
 else
  some b
def zi.l1 (K:Nat) (a b d e f g h i j k l m o p q s t u w:Int) (y:List Int) (n:Nat):Int->List ((Int × Int))->Option ((List ((Int × Int)))):=wr (zi.r1 K a b d e f g h i j k l m o p q s t u w y) (fun _ _=>none) n
def zi (K:Nat) (d e k l m n o p q s a t u w y f b g h:Int) (i:List Int):Option ((List ((Int × Int)))):=
 let G:=[(d,2),(e,4)]
 (zi.l1 K k l m n o p q s d e a t u w y f b g h i K 0 G:Option ((List ((Int × Int))))).bind fun z=>
  let A:=(z++[(a,1)])
  gd (((z.length:Int)+([(a,1)].length:Int))*16<=70368744177664) <|
  (
   bif (a==1) then
    (zi.l0 K t u w y d e k l m n o p q s a f b g h i K 0 A:Option ((List ((Int × Int))))).bind fun H=>
     some H
   else
    some A:Option ((List ((Int × Int))))).bind fun B=>
   let j:=(B++[(b,2)])
   gd (((B.length:Int)+([(b,2)].length:Int))*16<=70368744177664) <|
   let I:=(decide (b>0))
   (
    bif I then
     let D:=(wc .i64 (f-16))
     let J:=(j++[(D,6)])
     gd (((j.length:Int)+([(D,6)].length:Int))*16<=70368744177664) <|
     some J
    else
     some j:Option ((List ((Int × Int))))).bind fun E=>
    (j9 K i).bind fun L=>
    let F:=[(g,8),(h,3),(L,7)]
    gd (((E.length:Int)+(F.length:Int))*16<=70368744177664) <|
    some (E++F)
def zd.r0 (_K:Nat) (e:List Int) (next:Int->Option (Int)) (b:Int):Option (Int):=
 let d:=(decide (b>0))
 let a:=(wc .i64 (b-1))
 let f:=(Kd.nth (.int .i64) e (Int.toNat a))
 let g:=(bif d then (f==0) else false)
 gd ((d=true->(0:Int)<=a)/\(d=true->a<(e.length:Int))) <|
 bif g then
  next a
 else
  some b
def zd.l0 (K:Nat) (a:List Int) (n:Nat):Int->Option (Int):=wr (zd.r0 K a) (fun _=>none) n
def zd (K:Nat) (a:List Int):Option (Int):=
 (zd.l0 K a K (a.length:Int):Option (Int)).bind fun b=>
  some b
def j0 (K:Nat) (_e _f _g _h _i _j _k _l _m _n _o _p _q _s _t _u _w _y _z:Int) (a:List Int):Option ((List Int)):=
 (zd K a).bind fun b=>
 let d:=((a.take (Int.toNat b)).drop (Int.toNat 0))
 gd (0<=b/\b<=(a.length:Int)) <|
 some d
def ky (_K:Nat)  : Option ((List Int)):=
 some ([]:List Int)
def xv.r0 (_K:Nat) (b:List Int) (e:Int) (next:Int->Option ((Unit) ⊕ (Int))) (a:Int):Option ((Unit) ⊕ (Int)):=
 let f:=(decide (a<e))
 bif f then
  let d:=(Kd.nth (.int .i64) b (Int.toNat a))
  gd ((0:Int)<=a/\a<(b.length:Int)) <|
  let g:=(decide (d<(-32767)))
  let h:=(decide (d>32767))
  let i:=(bif g then true else h)
  bif i then
   some (.inr 1)
  else
   let j:=(wc .i64 (a+1))
   next j
 else
  some (.inl ())
def xv.l0 (K:Nat) (a:List Int) (b:Int) (n:Nat):Int->Option ((Unit) ⊕ (Int)):=wr (xv.r0 K a b) (fun _=>none) n
def xv (K:Nat) (a:List Int):Option (Int):=
 let b:=(decide ((a.length:Int)>120))
 bif b then
  some 2
 else
  (xv.l0 K a (a.length:Int) K 0:Option ((Unit) ⊕ (Int))).bind fun z=>match z with
  | .inl _=>
   some 0
  | .inr r=>
   some r
def kH (_K:Nat) (a b _f:Int) (_g:Bool) (_h:Int) (_i:List Int):Option (Int):=
 let d:=(wc .i64 (b-a))
 let e:=(wc .i64 (d+1))
 some e
def zf.r0 (_K:Nat) (_j:List Int) (_k _l:Int) (b:List Int) (e _m _n _o:Int) (_p:Bool) (_q:Int) (_s:List Int) (next:Int->Int->Option (Int)) (d a:Int):Option (Int):=
 let f:=(decide (a<e))
 bif f then
  let g:=(Kd.nth (.int .i64) b (Int.toNat a))
  gd ((0:Int)<=a/\a<(b.length:Int)) <|
  let h:=(wc .i64 (d+g))
  let i:=(wc .i64 (a+1))
  next h i
 else
  some d
def zf.l0 (K:Nat) (a:List Int) (b d:Int) (e:List Int) (f g h i:Int) (j:Bool) (k:Int) (l:List Int) (n:Nat):Int->Int->Option (Int):=wr (zf.r0 K a b d e f g h i j k l) (fun _ _=>none) n
def zf (K:Nat) (b:List Int) (a d e f g:Int) (h:Bool) (i:Int) (j:List Int):Option (Int × Int):=
 let k:=((b.take (Int.toNat a)).drop (Int.toNat 0))
 let n:=(k.length:Int)
 gd (0<=a/\a<=(b.length:Int)) <|
 (zf.l0 K b a d k n e f g h i j K 0 0:Option (Int)).bind fun l=>
  (kH K e f g h i j).bind fun m=>
  let o:=(Kd.nth (.int .i64) b (Int.toNat a))
  let p:=(wc .i64 (l+o))
  let q:=(wc .i64 (m*p))
  let s:=(wc .i64 (Int.tdiv q d))
  let t:=(wc .i64 (e+s))
  let u:=(wc .i64 (t-1))
  gd ((0:Int)<=a/\a<(b.length:Int)/\d≠0) <|
  let w:=(wc .i64 (m*l))
  let y:=(wc .i64 (Int.tdiv w d))
  let z:=(wc .i64 (e+y))
  gd (d≠0) <|
  some (z,u)
def ki (_K:Nat) (i _q _s _t:Int) (_u:Bool) (e:Int) (f:List Int):Option (Int × (List Int)):=
 let g:=(Int.tmod e 8)
 (
  bif (g==0) then
   let j:=(f++([0]:List Int))
   gd (((f.length:Int)+(([0]:List Int).length:Int))*1<=70368744177664) <|
   some j
  else
   some f:Option ((List Int))).bind fun a=>
  let b:=(wc .i64 (Int.tdiv e 8))
  let d:=(Int.toNat b)
  gd ((0:Int)<=b/\b<(a.length:Int)) <|
  let k:=(Kd.nth (.int .u8) a d)
  gd (d<a.length) <|
  let h:=(wc .i64 (7-g))
  let l:=(kshl .i64 i h)
  gd ((0:Int)<=h) <|
  let m:=(wc .u8 l)
  let n:=(kor .u8 k m)
  gd ((0:Int)<=b/\b<(a.length:Int)) <|
  let o:=(List.set a d n)
  gd (d<a.length) <|
  let p:=(wc .i64 (e+1))
  some (p,o)
def w7.r0 (K:Nat) (e f g:Int) (h:Bool) (next:Int->Int->List Int->Option (Int × Int × (List Int))) (a b:Int) (d:List Int):Option (Int × Int × (List Int)):=
 let i:=(decide (a>0))
 bif i then
  let j:=(wc .i64 (1-e))
  (ki K j f g a h b d).bind fun (k,l)=>
  let m:=(wc .i64 (a-1))
  next m k l
 else
  some (a,b,d)
def w7.l0 (K:Nat) (a b d:Int) (e:Bool) (n:Nat):Int->Int->List Int->Option (Int × Int × (List Int)):=wr (w7.r0 K a b d e) (fun _ _ _=>none) n
def w7 (K:Nat) (a b d e:Int) (f:Bool) (g:Int) (h:List Int):Option (Int × Int × (List Int)):=
 (ki K a b d e f g h).bind fun (i,j)=>
 (w7.l0 K a b d f K e i j:Option (Int × Int × (List Int))).bind fun (k,l,m)=>
  some (k,l,m)
def wT (K:Nat) (a d e b:Int) (f:Bool) (g:Int) (h:List Int):Option ((Int) ⊕ (Int × Int × (List Int))):=
 bif (a==16384) then
  let i:=(wc .i64 (b+1))
  some (.inl i)
 else
  let j:=(wc .i64 (Int.tdiv a 32768))
  (w7 K j d e b f g h).bind fun (k,l,m)=>
  some (.inr (k,l,m))
def zK.r0 (K:Nat) (h:Bool) (next:Int->Int->Int->Int->List Int->Option (Int × Int × Int × Int × (List Int))) (a b g e:Int) (f:List Int):Option (Int × Int × Int × Int × (List Int)):=
 (
  let i:=(decide (b<32768))
  bif i then
   some (.inl 0)
  else
   let j:=(decide (a>=32768))
   bif j then
    some (.inl 32768)
   else
    let k:=(decide (a>=16384))
    let l:=(decide (b<49152))
    let m:=(bif k then l else false)
    bif m then
     some (.inl 16384)
    else
     some (.inr (a,b,g,e,f)):Option ((Int) ⊕ (Int × Int × Int × Int × (List Int)))).bind fun z=>match z with
 | .inl d=>
  (wT K d a b g h e f).bind fun z=>match z with
  | .inl n=>
   let o:=(wc .i64 (a-d))
   let p:=(wc .i64 (2*o))
   let q:=(wc .i64 (b-d))
   let s:=(wc .i64 (2*q))
   let t:=(wc .i64 (s+1))
   next p t n e f
  | .inr (u,w,y)=>
   let A:=(wc .i64 (a-d))
   let B:=(wc .i64 (2*A))
   let D:=(wc .i64 (b-d))
   let E:=(wc .i64 (2*D))
   let F:=(wc .i64 (E+1))
   next B F u w y
 | .inr r=>
  some (r)
def zK.l0 (K:Nat) (a:Bool) (n:Nat):Int->Int->Int->Int->List Int->Option (Int × Int × Int × Int × (List Int)):=wr (zK.r0 K a) (fun _ _ _ _ _=>none) n
def zK (K:Nat) (a b d:Int) (e:Bool) (f:Int) (g:List Int):Option (Int × Int × Int × Int × (List Int)):=
 (zK.l0 K e K a b d f g:Option (Int × Int × Int × Int × (List Int))).bind fun r=>
  some r
def jX (K:Nat) (a:List Int) (b i j e:Int) (d:Bool) (f:Int) (g:List Int):Option (Int × Int × Int × Int × (List Int)):=
 bif d then
  none
 else
  (qO K a).bind fun h=>
  let k:=(decide (b<0))
  let l:=(bif (h==0) then true else k)
  let m:=(decide (b>=(a.length:Int)))
  let n:=(bif l then true else m)
  bif n then
   none
  else
   (zf K a b h i j e d f g).bind fun (o,p)=>
   (zK K o p e d f g).bind fun (q,s,t,u,w)=>
   some (q,s,t,u,w)
def kt (K:Nat) (a:List Int) (b d e f:Int) (g:Bool) (h:Int) (i:List Int):Option (Int × Int × Int × Int × (List Int)):=
 (jX K a b d e f g h i).bind fun (j,k,l,m,n)=>
 some (j,k,l,m,n)
def wJ.r0 (K:Nat) (j:Int) (k:Bool) (next:Int->Int->Int->Int->Int->Int->List Int->Option (Int × Int × Int × Int × Int × (List Int))) (b a d e f g:Int) (h:List Int):Option (Int × Int × Int × Int × Int × (List Int)):=
 let l:=(decide (a>=0))
 bif l then
  (qA K ).bind fun m=>
  let n:=(kshr .i64 j a)
  gd ((0:Int)<=a) <|
  let i:=(kand .i64 n 1)
  (kt K m i d e f k g h).bind fun (o,p,q,s,t)=>
  let u:=(kshl .i64 b 1)
  let w:=(kor .i64 u i)
  let y:=(wc .i64 (a-1))
  next w y o p q s t
 else
  some (b,d,e,f,g,h)
def wJ.l0 (K:Nat) (a:Int) (b:Bool) (n:Nat):Int->Int->Int->Int->Int->Int->List Int->Option (Int × Int × Int × Int × Int × (List Int)):=wr (wJ.r0 K a b) (fun _ _ _ _ _ _ _=>none) n
def wJ.r1 (K:Nat) (_t j:Int) (k:Bool) (next:Int->Int->Int->Int->Int->List Int->Option ((Int × Int × Int × Int × Int × (List Int)) ⊕ (Int × Int × Int × Int × Int × Int × (List Int)))) (a l m n o:Int) (p:List Int):Option ((Int × Int × Int × Int × Int × (List Int)) ⊕ (Int × Int × Int × Int × Int × Int × (List Int))):=
 let q:=(decide (a<j))
 (
  bif q then
   some 1
  else
   some 0:Option (Int)).bind fun h=>
  (qA K ).bind fun s=>
  (kt K s h l m n k o p).bind fun (b,d,e,f,g)=>
  bif (h==0) then
   some (.inl (a,b,d,e,f,g))
  else
   let i:=(wc .i64 (a+1))
   bif (i==15) then
    some (.inr (0,70,b,d,e,f,g))
   else
    next i b d e f g
def wJ.l1 (K:Nat) (a b:Int) (d:Bool) (n:Nat):Int->Int->Int->Int->Int->List Int->Option ((Int × Int × Int × Int × Int × (List Int)) ⊕ (Int × Int × Int × Int × Int × Int × (List Int))):=wr (wJ.r1 K a b d) (fun _ _ _ _ _ _=>none) n
def wJ (K:Nat) (a d e f:Int) (b:Bool) (g:Int) (h:List Int):Option (Int × Int × Int × Int × Int × Int × (List Int)):=
 (kU K (wc .u64 a)).bind fun i=>
 let j:=(wc .i64 (i-1))
 (wJ.l1 K a j b K 0 d e f g h:Option ((Int × Int × Int × Int × Int × (List Int)) ⊕ (Int × Int × Int × Int × Int × Int × (List Int)))).bind fun z=>match z with
 | .inl (k,l,m,n,o,p)=>
  let q:=(wc .i64 (k-1))
  (wJ.l0 K a b K 1 q l m n o p:Option (Int × Int × Int × Int × Int × (List Int))).bind fun (s,t,u,w,y,A)=>
   some (s,0,t,u,w,y,A)
 | .inr r=>
  some r
def qW (K:Nat) (A:List Int) (a B D E:Int) (b:Bool) (F:Int) (G:List Int):Option (Int × Int × Int × Int × Int × Int × (List Int)):=
 (zJ K A).bind fun H=>
 (xp K H).bind fun I=>
 (qZ K a).bind fun d=>
 (kt K I (imin d 14) B D E b F G).bind fun (k,l,m,n,o)=>
 let J:=((imin d 14)==14)
 (
  bif J then
   (qZ K a).bind fun L=>
   let M:=(wc .i64 (L-14))
   let N:=(wc .i64 (M+1))
   (wJ K (imax N 1) k l m b n o).bind fun (O,p,q,s,t,u,w)=>
   bif (p != 0) then
    some (.inr (0,p,q,s,t,u,w))
   else
    let P:=(wc .i64 (O+14))
    let Q:=(wc .i64 (P-1))
    some (.inl (Q,q,s,t,u,w))
  else
   some (.inl ((imin d 14),k,l,m,n,o)):Option ((Int × Int × Int × Int × Int × (List Int)) ⊕ (Int × Int × Int × Int × Int × Int × (List Int)))).bind fun z=>match z with
 | .inl (e,f,g,h,i,j)=>
  let R:=(decide (e>32767))
  bif R then
   some (0,70,f,g,h,i,j)
  else
   bif (e==0) then
    some (0,0,f,g,h,i,j)
   else
    let S:=(decide (a<0))
    (
     bif S then
      some 1
     else
      some 0:Option (Int)).bind fun y=>
     (qA K ).bind fun T=>
     (kt K T y f g h b i j).bind fun (U,V,W,X,Y)=>
     let Z:=(wc .i64 (2*y))
     let aa:=(wc .i64 (1-Z))
     let ab:=(wc .i64 (e*aa))
     some (ab,0,U,V,W,X,Y)
 | .inr r=>
  some r
def jI.r0 (K:Nat) (b:List Int) (d:Int) (p:Bool) (next:Int->Int->Int->Int->Int->List Int->Option ((Int × Int × Int × Int × (List Int)) ⊕ (Int × Int × Int × Int × Int × (List Int)))) (a e f g h:Int) (i:List Int):Option ((Int × Int × Int × Int × (List Int)) ⊕ (Int × Int × Int × Int × Int × (List Int))):=
 let q:=(decide (a<d))
 bif q then
  let s:=(Kd.nth (.int .i64) b (Int.toNat a))
  gd ((0:Int)<=a/\a<(b.length:Int)) <|
  let t:=((b.take (Int.toNat a)).drop (Int.toNat 0))
  gd (0<=a/\a<=d) <|
  (qW K t s e f g p h i).bind fun (_w,j,k,l,m,n,o)=>
  bif (j != 0) then
   some (.inr (j,k,l,m,n,o))
  else
   let u:=(wc .i64 (a+1))
   next u k l m n o
 else
  some (.inl (e,f,g,h,i))
def jI.l0 (K:Nat) (a:List Int) (b:Int) (d:Bool) (n:Nat):Int->Int->Int->Int->Int->List Int->Option ((Int × Int × Int × Int × (List Int)) ⊕ (Int × Int × Int × Int × Int × (List Int))):=wr (jI.r0 K a b d) (fun _ _ _ _ _ _=>none) n
def jI (K:Nat) (a:List Int) (b d e:Int) (f:Bool) (g:Int) (h:List Int):Option (Int × Int × Int × Int × Int × (List Int)):=
 (xv K a).bind fun i=>
 bif (i != 0) then
  none
 else
  (jI.l0 K a (a.length:Int) f K 0 b d e g h:Option ((Int × Int × Int × Int × (List Int)) ⊕ (Int × Int × Int × Int × Int × (List Int)))).bind fun z=>match z with
  | .inl (j,k,l,m,n)=>
   some (0,j,k,l,m,n)
  | .inr r=>
   some r
def ka (K:Nat) (a b g:Int) (h:Bool) (d:Int) (e:List Int):Option (Int × Int × (List Int)):=
 bif h then
  none
 else
  let f:=(wc .i64 (g+1))
  let i:=(decide (a<16384))
  (
   bif i then
    (w7 K 0 a b f true d e).bind fun (j,k,l)=>
    some (j,k,l)
   else
    (w7 K 1 a b f true d e).bind fun (m,n,o)=>
    some (m,n,o):Option (Int × Int × (List Int))).bind fun (p,q,s)=>
   some (p,q,s)
def kb (_K:Nat) (_a _b _d:Int) (_e:Bool) (_f:Int) (_g:List Int):Option (Unit):=
 some ()
def jB (K:Nat) (f:List Int):Option (Int × Int):=
 (ky K ).bind fun g=>
 (jI K f 0 65535 0 false 0 g).bind fun (a,b,d,h,i,j)=>
 bif (a != 0) then
  some (0,a)
 else
  (ka K b d h false i j).bind fun (k,e,l)=>
  (kb K b d k true e l).bind fun _=>
  some (e,0)
def zM.r0 (_K:Nat) (b:List ((Int × Int))) (e _j _k _l _m _n _o _p _q _s _t _u _w _y _z _A _B _D _E _F:Int) (_G:List Int) (next:Int->Int->Option (Int)) (d a:Int):Option (Int):=
 let f:=(decide (a<e))
 bif f then
  let g:=(Kd.nth (.pair (.int .i64) (.int .i64)) b (Int.toNat a))
  gd ((0:Int)<=a/\a<(b.length:Int)) <|
  let h:=(wc .i64 (d-g.2))
  let i:=(wc .i64 (a+1))
  next h i
 else
  some d
def zM.l0 (K:Nat) (a:List ((Int × Int))) (b d e f g h i j k l m o p q s t u w y z:Int) (A:List Int) (n:Nat):Int->Int->Option (Int):=wr (zM.r0 K a b d e f g h i j k l m o p q s t u w y z A) (fun _ _=>none) n
def zM (K:Nat) (_G _H _I _J _L _M _N _O _P z a b d e f g h i j k l m n o p q s t u:Int) (w:List Int):Option (Int):=
 let A:=(wc .i64 (8*z))
 (zi K a b d e f g h i j k l m n o p q s t u w).bind fun y=>
 (zM.l0 K y (y.length:Int) a b d e f g h i j k l m n o p q s t u w K A 0:Option (Int)).bind fun B=>
  (j0 K a b d e f g h i j k l m n o p q s t u w).bind fun D=>
  (jB K D).bind fun (E,_Q)=>
  let F:=(wc .i64 (B-E))
  some F
def jh (_K:Nat) (a:Int):Option (Int × Int × Int × Int × Int × Int × Int × Int × Bool):=
 bif (a==40) then
  some (2,4,7,11,16,23,31,40,true)
 else
  bif (a==60) then
   some (3,6,10,16,24,34,46,60,true)
  else
   bif (a==80) then
    some (4,8,14,22,32,46,62,80,true)
   else
    bif (a==120) then
     some (6,12,21,33,48,69,93,120,true)
    else
     some (0,0,0,0,0,0,0,0,false)
def j7 (K:Nat) (e a:Int):Option (Int × Int):=
 (jh K e).bind fun (f,g,h,i,j,k,l,m,n)=>
 let o:=[0,f,g,h,i,j,k,l,m]
 let p:=(decide (a<0))
 let q:=(bif (!n) then true else p)
 let s:=(decide (a>3))
 let t:=(bif q then true else s)
 bif t then
  some (0,1)
 else
  let u:=(wc .i64 (2*a))
  let b:=(wc .i64 (u+2))
  let d:=(0+(Int.toNat b)*1)
  let w:=(List.getD o (d+0) 0)
  gd ((0:Int)<=b/\b<9/\d+1<=9) <|
  some (w,0)
def qk (_K:Nat) (a b:Int):Option (Int):=
 let d:=((a==0)&&(b==0))
 let e:=(decide (b<1))
 let f:=(decide (b>3))
 let g:=(bif e then true else f)
 let h:=(decide (a<16))
 let i:=(bif g then true else h)
 let j:=(decide (a>79))
 let k:=(bif i then true else j)
 let l:=(bif (!d) then k else false)
 bif l then
  some 1
 else
  some 0
def ke.r0 (_K:Nat) (d e f g h:Int) (next:Int->Option ((Unit) ⊕ (Int))) (a:Int):Option ((Unit) ⊕ (Int)):=
 let i:=(decide (a<4))
 bif i then
  let b:=(List.getD [d,e,f,g] (Int.toNat a) 0)
  gd ((0:Int)<=a/\a<4) <|
  let j:=(decide (b<0))
  let k:=(wc .i64 (16*h))
  let l:=(decide (b>k))
  let m:=(bif j then true else l)
  bif m then
   some (.inr 1)
  else
   let n:=(wc .i64 (a+1))
   next n
 else
  some (.inl ())
def ke.l0 (K:Nat) (a b d e f:Int) (n:Nat):Int->Option ((Unit) ⊕ (Int)):=wr (ke.r0 K a b d e f) (fun _=>none) n
def ke (K:Nat) (a b d e f:Int):Option (Int):=
 let g:=(bif (a != 0) then (a != 1) else false)
 bif g then
  some 1
 else
  (ke.l0 K b d e f a K 0:Option ((Unit) ⊕ (Int))).bind fun z=>match z with
  | .inl _=>
   some 0
  | .inr r=>
   some r
def qR.r0 (_K:Nat) (d e f g h i j k:Int) (next:Int->Option ((Unit) ⊕ (Int))) (a:Int):Option ((Unit) ⊕ (Int)):=
 let l:=(decide (a<8))
 bif l then
  let b:=(List.getD [d,e,f,g,h,i,j,k] (Int.toNat a) 0)
  gd ((0:Int)<=a/\a<8) <|
  let m:=(decide (b<(-4)))
  let n:=(decide (b>3))
  let o:=(bif m then true else n)
  bif o then
   some (.inr 1)
  else
   let p:=(wc .i64 (a+1))
   next p
 else
  some (.inl ())
def qR.l0 (K:Nat) (a b d e f g h i:Int) (n:Nat):Int->Option ((Unit) ⊕ (Int)):=wr (qR.r0 K a b d e f g h i) (fun _=>none) n
def qR (K:Nat) (a b d e f g h i j:Int):Option (Int):=
 let k:=(decide (a<0))
 let l:=(decide (a>15))
 let m:=(bif k then true else l)
 bif m then
  some 1
 else
  (qR.l0 K b d e f g h i j K 0:Option ((Unit) ⊕ (Int))).bind fun z=>match z with
  | .inl _=>
   some 0
  | .inr r=>
   some r
def jH.r0 (_K:Nat) (e:Int) (next:Int->Int->Option (Int)) (b a:Int):Option (Int):=
 let f:=(decide (a<8))
 bif f then
  (
   let g:=(List.getD ([1518500249,1276901416,1170923761,1121280435,1097253708,1085434105,1079572135,1076653033]:List Int) (Int.toNat a) 0)
   gd ((0:Int)<=a/\a<8) <|
   let d:=(wc .i64 (7-a))
   let h:=(kshr .i32 e d)
   let i:=(kand .i32 h 1)
   gd ((0:Int)<=d) <|
   bif (i==1) then
    let j:=(wc .u64 (b*g))
    let k:=(kshr .u64 j 30)
    some k
   else
    some b:Option (Int)).bind fun l=>
   let m:=(wc .i64 (a+1))
   next l m
 else
  some b
def jH.l0 (K:Nat) (a:Int) (n:Nat):Int->Int->Option (Int):=wr (jH.r0 K a) (fun _ _=>none) n
def jH (K:Nat) (a:Int):Option (Int × Int):=
 let e:=(decide (a<(-4096)))
 let f:=(decide (a>7680))
 let g:=(bif e then true else f)
 bif g then
  some (0,1)
 else
  (jH.l0 K a K 1073741824 0:Option (Int)).bind fun d=>
   let h:=(kshr .i32 a 8)
   let i:=(wc .i64 h)
   let b:=(wc .i64 (i-14))
   let j:=(decide (b>=0))
   bif j then
    let k:=(kshl .u64 d b)
    gd ((0:Int)<=b) <|
    some (k,0)
   else
    let l:=(wc .i64 (0-b))
    (wK K (wc .i64 d) l).bind fun m=>
    some ((wc .u64 m),0)
def xK (K:Nat) (a:Int):Option (Int × Int):=
 let b:=(decide (a<0))
 let d:=(decide (a>240))
 let e:=(bif b then true else d)
 bif e then
  some (0,1)
 else
  let f:=(wc .i64 (32*a))
  let g:=(wc .i32 f)
  (jH K g).bind fun (h,i)=>
  some (h,i)
def kP.r0 (_K:Nat) (_k:Int) (b:List Int) (e:Int) (next:Int->Option ((Unit) ⊕ (Int × Int))) (a:Int):Option ((Unit) ⊕ (Int × Int)):=
 let f:=(decide (a<e))
 bif f then
  let d:=(Kd.nth (.int .i64) b (Int.toNat a))
  gd ((0:Int)<=a/\a<(b.length:Int)) <|
  let g:=(decide (d<(-32767)))
  let h:=(decide (d>32767))
  let i:=(bif g then true else h)
  bif i then
   some (.inr (0,1))
  else
   let j:=(wc .i64 (a+1))
   next j
 else
  some (.inl ())
def kP.l0 (K:Nat) (a:Int) (b:List Int) (d:Int) (n:Nat):Int->Option ((Unit) ⊕ (Int × Int)):=wr (kP.r0 K a b d) (fun _=>none) n
def kP (K:Nat) (b:Int) (a:List Int) (e:Int):Option (Int × Int):=
 let f:=(decide (b>120))
 let g:=(decide ((a.length:Int)>120))
 let h:=(bif f then true else g)
 bif h then
  some (0,2)
 else
  (xK K e).bind fun (d,i)=>
  let j:=(b != (a.length:Int))
  let k:=(bif (i != 0) then true else j)
  bif k then
   some (0,1)
  else
   (kP.l0 K d a (a.length:Int) K 0:Option ((Unit) ⊕ (Int × Int))).bind fun z=>match z with
   | .inl _=>
    some ((wc .i64 d),0)
   | .inr r=>
    some r
def zh.r0 (_K:Nat) (_i b:List Int) (_j _k _l e:Int) (next:Int->Option ((Unit) ⊕ (Bool))) (a:Int):Option ((Unit) ⊕ (Bool)):=
 let f:=(decide (a<e))
 bif f then
  let d:=(Kd.nth (.int .i64) b (Int.toNat a))
  gd ((0:Int)<=a/\a<(b.length:Int)) <|
  let g:=(bif (d != 0) then (d != 1) else false)
  bif g then
   some (.inr false)
  else
   let h:=(wc .i64 (a+1))
   next h
 else
  some (.inl ())
def zh.l0 (K:Nat) (a b:List Int) (d e f g:Int) (n:Nat):Int->Option ((Unit) ⊕ (Bool)):=wr (zh.r0 K a b d e f g) (fun _=>none) n
def zh.r1 (_K:Nat) (d _k:List Int) (_l _m e:Int) (next:Int->Int->Option (Int)) (b a:Int):Option (Int):=
 let f:=(decide (a<e))
 bif f then
  (
   let g:=(Kd.nth (.int .i64) d (Int.toNat a))
   gd ((0:Int)<=a/\a<(d.length:Int)) <|
   bif (g != 0) then
    let h:=(wc .i64 (b+1))
    some h
   else
    some b:Option (Int)).bind fun i=>
   let j:=(wc .i64 (a+1))
   next i j
 else
  some b
def zh.l1 (K:Nat) (a b:List Int) (d e f:Int) (n:Nat):Int->Int->Option (Int):=wr (zh.r1 K a b d e f) (fun _ _=>none) n
def zh (K:Nat) (a b:List Int) (d e:Int):Option (Bool):=
 (zh.l1 K a b d e (a.length:Int) K 0 0:Option (Int)).bind fun f=>
  (zh.l0 K a b d e f (b.length:Int) K 0:Option ((Unit) ⊕ (Bool))).bind fun z=>match z with
  | .inl _=>
   let g:=(decide ((b.length:Int)<=f))
   let h:=(decide (d>=0))
   let i:=(bif g then h else false)
   let j:=(decide (d<=7))
   let k:=(bif i then j else false)
   let l:=(decide (e>=0))
   let m:=(bif k then l else false)
   let n:=(decide (e<=(a.length:Int)))
   let o:=(bif m then n else false)
   some o
  | .inr r=>
   some r
def qP (_K:Nat) (a:Int):Option (Int):=
 let b:=(imax a (wc .i64 (0-a)))
 some b
def j1 (_K:Nat) (a b:Int):Option (Int):=
 let d:=(decide (b<0))
 bif d then
  some (wc .i64 (0-a))
 else
  some a
def qD (K:Nat) (a:Int):Option (Int):=
 (qS K a (-2147483648) 2147483647).bind fun b=>
 some (wc .i32 b)
def j2 (_K:Nat) (b:Int):Option (Bool × Int):=
 let d:=(wc .u16 (13849*b))
 let a:=(wc .u16 (d+16831))
 let e:=(decide (a>=32768))
 some (e,a)
def zP.r0 (K:Nat) (h l e:Int) (i:List Int) (m:Int) (next:List Int->Int->Int->List Int->Option ((List Int))) (b:List Int) (a f:Int) (d:List Int):Option ((List Int)):=
 let n:=(decide (a<m))
 bif n then
  (
   let g:=(Kd.nth (.int .i64) i (Int.toNat a))
   gd ((0:Int)<=a/\a<(i.length:Int)) <|
   (qP K g).bind fun o=>
   let j:=(wc .i64 (o*e))
   bif (g != 0) then
    let p:=(decide ((b.length:Int)>0))
    (
     bif p then
      let q:=(Kd.nth (.int .i64) b 0)
      let s:=(wc .i64 (2*q))
      let t:=(wc .i64 (s-1))
      let u:=(wc .i64 (Int.tdiv e 4))
      let w:=(wc .i64 (t*u))
      let y:=(wc .i64 (j+w))
      gd (0<(b.length:Int)) <|
      let z:=((b.take (Int.toNat (b.length:Int))).drop (Int.toNat 1))
      gd (1<=(b.length:Int)/\(b.length:Int)<=(b.length:Int)) <|
      some (z,y)
     else
      some (b,j):Option ((List Int) × Int)).bind fun (A,B)=>
     (wK K B 16).bind fun D=>
     (j1 K D g).bind fun E=>
     (qD K E).bind fun F=>
     let G:=(List.set d (Int.toNat a) F)
     gd ((0:Int)<=a/\a<(d.length:Int)/\(Int.toNat a)<d.length) <|
     some (A,f,G)
   else
    let H:=(decide (h>0))
    let I:=(decide (a<l))
    let J:=(bif H then I else false)
    bif J then
     let L:=(wc .i64 (h*e))
     let M:=(wc .i64 (Int.tdiv L 16))
     (wK K M 16).bind fun k=>
     (j2 K f).bind fun (N,O)=>
     (
      bif N then
       some ((wc .i64 (0-k)))
      else
       some k:Option (Int)).bind fun P=>
      (qD K P).bind fun Q=>
      let R:=(List.set d (Int.toNat a) Q)
      gd ((0:Int)<=a/\a<(d.length:Int)/\(Int.toNat a)<d.length) <|
      some (b,O,R)
    else
     some (b,f,d):Option ((List Int) × Int × (List Int))).bind fun (S,T,U)=>
   let V:=(wc .i64 (a+1))
   next S V T U
 else
  some d
def zP.l0 (K:Nat) (a b d:Int) (e:List Int) (f:Int) (n:Nat):List Int->Int->Int->List Int->Option ((List Int)):=wr (zP.r0 K a b d e f) (fun _ _ _ _=>none) n
def zP.r1 (K:Nat) (b _k:List Int) (_l _m _n e:Int) (next:Int->Int->Option (Int)) (a d:Int):Option (Int):=
 let f:=(decide (a<e))
 bif f then
  let g:=(Kd.nth (.int .i64) b (Int.toNat a))
  gd ((0:Int)<=a/\a<(b.length:Int)) <|
  (qP K g).bind fun h=>
  let i:=(wc .u16 (d+(wc .u16 h)))
  let j:=(wc .i64 (a+1))
  next j i
 else
  some d
def zP.l1 (K:Nat) (a b:List Int) (d e f g:Int) (n:Nat):Int->Int->Option (Int):=wr (zP.r1 K a b d e f g) (fun _ _=>none) n
def zP (K:Nat) (a:List Int) (i:Int) (b:List Int) (d e:Int):Option ((List Int) × Int):=
 (kP K (a.length:Int) a i).bind fun (f,g)=>
 (
  bif (g==0) then
   (zh K a b d e).bind fun j=>
   some (!j)
  else
   some false:Option (Bool)).bind fun k=>
  (
   bif k then
    some 1
   else
    some g:Option (Int)).bind fun h=>
   bif (h != 0) then
    some (([]:List Int),h)
   else
    (zP.l1 K a b d e f (a.length:Int) K 0 0:Option (Int)).bind fun l=>
     let m:=(List.replicate (Int.toNat (a.length:Int)) (0:Int))
     gd ((0:Int)<=(a.length:Int)/\(a.length:Int)<=(a.length:Int)/\(a.length:Int)*4<=140737488355328) <|
     (zP.l0 K d e f a (a.length:Int) K b 0 l m:Option ((List Int))).bind fun n=>
      some (n,0)
def wR.r0 (_K:Nat) (e f g h _l _m _n _o _p _q _s _t _u _w _y _z _A _B _D:Int) (_E _F:List Int) (next:Int->List ((Int × Int))->Option ((List ((Int × Int))))) (a:Int) (b:List ((Int × Int))):Option ((List ((Int × Int)))):=
 let i:=(decide (a<4))
 bif i then
  let d:=(List.getD [e,f,g,h] (Int.toNat a) 0)
  gd ((0:Int)<=a/\a<4) <|
  let j:=(b++[(d,5)])
  gd (((b.length:Int)+([(d,5)].length:Int))*16<=70368744177664) <|
  let k:=(wc .i64 (a+1))
  next k j
 else
  some b
def wR.l0 (K:Nat) (a b d e f g h i j k l m o p q s t u w:Int) (y z:List Int) (n:Nat):Int->List ((Int × Int))->Option ((List ((Int × Int)))):=wr (wR.r0 K a b d e f g h i j k l m o p q s t u w y z) (fun _ _=>none) n
def wR.r1 (_K:Nat) (e f g h i j k l _q _s _t _u _w _y _z _A _B _D _E:Int) (_F _G:List Int) (next:Int->List ((Int × Int))->Option ((List ((Int × Int))))) (a:Int) (b:List ((Int × Int))):Option ((List ((Int × Int)))):=
 let m:=(decide (a<8))
 bif m then
  let n:=(List.getD [e,f,g,h,i,j,k,l] (Int.toNat a) 0)
  gd ((0:Int)<=a/\a<8) <|
  let d:=(wc .i64 (n+4))
  let o:=(b++[(d,3)])
  gd (((b.length:Int)+([(d,3)].length:Int))*16<=70368744177664) <|
  let p:=(wc .i64 (a+1))
  next p o
 else
  some b
def wR.l1 (K:Nat) (a b d e f g h i j k l m o p q s t u w:Int) (y z:List Int) (n:Nat):Int->List ((Int × Int))->Option ((List ((Int × Int)))):=wr (wR.r1 K a b d e f g h i j k l m o p q s t u w y z) (fun _ _=>none) n
def wR (K:Nat) (d e k l m n o p q s a t u w y f b g h:Int) (i z:List Int):Option ((List ((Int × Int)))):=
 let H:=[(d,2),(e,4)]
 (wR.l1 K k l m n o p q s d e a t u w y f b g h i z K 0 H:Option ((List ((Int × Int))))).bind fun A=>
  let B:=(A++[(a,1)])
  gd (((A.length:Int)+([(a,1)].length:Int))*16<=70368744177664) <|
  (
   bif (a==1) then
    (wR.l0 K t u w y d e k l m n o p q s a f b g h i z K 0 B:Option ((List ((Int × Int))))).bind fun I=>
     some I
   else
    some B:Option ((List ((Int × Int))))).bind fun D=>
   let j:=(D++[(b,2)])
   gd (((D.length:Int)+([(b,2)].length:Int))*16<=70368744177664) <|
   let J:=(decide (b>0))
   (
    bif J then
     let E:=(wc .i64 (f-16))
     let L:=(j++[(E,6)])
     gd (((j.length:Int)+([(E,6)].length:Int))*16<=70368744177664) <|
     some L
    else
     some j:Option ((List ((Int × Int))))).bind fun F=>
    (zd K i).bind fun M=>
    let G:=[(g,8),(h,3),(M,7)]
    gd (((F.length:Int)+(G.length:Int))*16<=70368744177664) <|
    some (F++G)
def qE (K:Nat) (_e _f _g _h _i _j _k _l _m _n _o _p _q _s _t _u _w _y _z:Int) (a _A:List Int):Option ((List Int)):=
 (zd K a).bind fun b=>
 let d:=((a.take (Int.toNat b)).drop (Int.toNat 0))
 gd (0<=b/\b<=(a.length:Int)) <|
 some d
def zU.r0 (_K:Nat) (b:List ((Int × Int))) (e _j _k _l _m _n _o _p _q _s _t _u _w _y _z _A _B _D _E _F:Int) (_G _H:List Int) (next:Int->Int->Option (Int)) (d a:Int):Option (Int):=
 let f:=(decide (a<e))
 bif f then
  let g:=(Kd.nth (.pair (.int .i64) (.int .i64)) b (Int.toNat a))
  gd ((0:Int)<=a/\a<(b.length:Int)) <|
  let h:=(wc .i64 (d-g.2))
  let i:=(wc .i64 (a+1))
  next h i
 else
  some d
def zU.l0 (K:Nat) (a:List ((Int × Int))) (b d e f g h i j k l m o p q s t u w y z:Int) (A B:List Int) (n:Nat):Int->Int->Option (Int):=wr (zU.r0 K a b d e f g h i j k l m o p q s t u w y z A B) (fun _ _=>none) n
def zU (K:Nat) (_H _I _J _L _M _N _O _P _Q A a b d e f g h i j k l m n o p q s t u:Int) (w y:List Int):Option (Int):=
 let B:=(wc .i64 (8*A))
 (wR K a b d e f g h i j k l m n o p q s t u w y).bind fun z=>
 (zU.l0 K z (z.length:Int) a b d e f g h i j k l m n o p q s t u w y K B 0:Option (Int)).bind fun D=>
  (qE K a b d e f g h i j k l m n o p q s t u w y).bind fun E=>
  (jB K E).bind fun (F,_R)=>
  let G:=(wc .i64 (D-F))
  some G
def zV.r0 (_K:Nat) (d:List Int) (e _k _l _m _n _o _p _q _s _t _u _w _y _z _A _B _D _E _F _G:Int) (_H:List Int) (next:Int->Int->Option (Int)) (b a:Int):Option (Int):=
 let f:=(decide (a<e))
 bif f then
  (
   let g:=(Kd.nth (.int .i64) d (Int.toNat a))
   gd ((0:Int)<=a/\a<(d.length:Int)) <|
   bif (g != 0) then
    let h:=(wc .i64 (b+1))
    some h
   else
    some b:Option (Int)).bind fun i=>
   let j:=(wc .i64 (a+1))
   next i j
 else
  some b
def zV.l0 (K:Nat) (a:List Int) (b d e f g h i j k l m o p q s t u w y z:Int) (A:List Int) (n:Nat):Int->Int->Option (Int):=wr (zV.r0 K a b d e f g h i j k l m o p q s t u w y z A) (fun _ _=>none) n
def zV (K:Nat) (b d e f g h i j k l m n o p q s t u w:Int) (a y:List Int):Option (Int):=
 (zV.l0 K a (a.length:Int) b d e f g h i j k l m n o p q s t u w y K 0 0:Option (Int)).bind fun z=>
  some z
def jZ (K:Nat) (M N O P Q R S T b U l m n o p q s t u w f g h i j d e y z:Int) (a k:List Int):Option (Bool):=
 (j7 K b l).bind fun (J,A)=>
 (
  bif (A != 0) then
   let B:=(bif (A != 0) then true else false)
   bif B then
    let D:=(bif B then true else false)
    bif D then
     let V:=(bif D then true else false)
     let W:=((a.length:Int) != b)
     let X:=(bif V then true else W)
     some X
    else
     (qk K d e).bind fun Y=>
     let Z:=(bif D then true else (Y != 0))
     let aa:=((a.length:Int) != b)
     let ab:=(bif Z then true else aa)
     some ab
   else
    (ke K f g h i j).bind fun ad=>
    let E:=(bif B then true else (ad != 0))
    bif E then
     let ae:=(bif E then true else false)
     let af:=((a.length:Int) != b)
     let ag:=(bif ae then true else af)
     some ag
    else
     (qk K d e).bind fun ah=>
     let ai:=(bif E then true else (ah != 0))
     let aj:=((a.length:Int) != b)
     let ak:=(bif ai then true else aj)
     some ak
  else
   (qR K m n o p q s t u w).bind fun al=>
   let F:=(bif (A != 0) then true else (al != 0))
   bif F then
    let G:=(bif F then true else false)
    bif G then
     let am:=(bif G then true else false)
     let an:=((a.length:Int) != b)
     let ao:=(bif am then true else an)
     some ao
    else
     (qk K d e).bind fun ap=>
     let aq:=(bif G then true else (ap != 0))
     let au:=((a.length:Int) != b)
     let aw:=(bif aq then true else au)
     some aw
   else
    (ke K f g h i j).bind fun ay=>
    let H:=(bif F then true else (ay != 0))
    bif H then
     let az:=(bif H then true else false)
     let aA:=((a.length:Int) != b)
     let aB:=(bif az then true else aA)
     some aB
    else
     (qk K d e).bind fun aD=>
     let aE:=(bif H then true else (aD != 0))
     let aF:=((a.length:Int) != b)
     let aG:=(bif aE then true else aF)
     some aG:Option (Bool)).bind fun aH=>
  bif aH then
   some false
  else
   (zd K a).bind fun aI=>
   let aJ:=(decide (aI>J))
   bif aJ then
    some false
   else
    (zP K a y k z J).bind fun (_aS,aL)=>
    bif (aL != 0) then
     some false
    else
     (zU K M N O P Q R S T b U l m n o p q s t u w f g h i j d e y z a k).bind fun L=>
     (
      let I:=(decide (L>=0))
      bif I then
       (zV K l m n o p q s t u w f g h i j d e y z a k).bind fun aM=>
       let aN:=(imin aM L)
       let aO:=((k.length:Int)==aN)
       let aP:=(bif I then aO else false)
       some aP
      else
       let aQ:=(bif I then false else false)
       some aQ:Option (Bool)).bind fun aR=>
      some aR
def vG (_K:Nat) (a:Int):Option ((List Int)):=
 let b:=(decide (a<0))
 bif b then
  none
 else
  let d:=(decide (a>512))
  bif d then
   none
  else
   let e:=(List.replicate (Int.toNat a) (0:Int))
   gd ((0:Int)<=a/\a<=a/\a*1<=140737488355328) <|
   some e
def jE (_K:Nat) (a b d:Int) (_h:List Int):Option (Int):=
 let e:=(wc .i64 (8*a))
 let f:=(wc .i64 (e-b))
 let g:=(wc .i64 (f-d))
 some g
def kT (K:Nat) (a b d e:Int) (f:List Int):Option (Int):=
 let g:=(decide (a<0))
 let h:=(decide (a>32))
 let i:=(bif g then true else h)
 bif i then
  some 1
 else
  (jE K b d e f).bind fun j=>
  let k:=(decide (a>j))
  bif k then
   some 50
  else
   some 0
def kw (K:Nat) (e a f g:Int) (b:List Int):Option (Int):=
 let h:=(decide (a>=0))
 let i:=(decide (a<32))
 let d:=(bif h then i else false)
 let j:=(kshr .u32 e a)
 let k:=(bif d then (j != 0) else false)
 gd ((d=true->(0:Int)<=a)) <|
 bif k then
  some 1
 else
  (kT K a (b.length:Int) f g b).bind fun l=>
  some l
def kD (_K:Nat) (d _j a:Int) (_k:List Int):Option (Int × Int × Int):=
 let e:=(wc .i64 (a+1))
 let f:=(wc .i64 (d-1))
 let g:=(wc .i64 (Int.tdiv a 8))
 let h:=(wc .i64 (f-g))
 let b:=(Int.tmod a 8)
 let i:=(kshl .u8 1 b)
 gd ((0:Int)<=b) <|
 some (h,i,e)
def qa.r0 (K:Nat) (g h i:Int) (next:Int->Int->List Int->Option (Int × (List Int))) (d e:Int) (a:List Int):Option (Int × (List Int)):=
 let j:=(decide (d<h))
 bif j then
  (
   (kD K (a.length:Int) i e a).bind fun (b,k,f)=>
   let l:=(kshr .u32 g d)
   let m:=(kand .u32 l 1)
   gd ((0:Int)<=d) <|
   bif (m==1) then
    let n:=(Kd.nth (.int .u8) a (Int.toNat b))
    let o:=(kor .u8 n k)
    let p:=(List.set a (Int.toNat b) o)
    gd ((0:Int)<=b/\b<(a.length:Int)/\(Int.toNat b)<a.length/\(0:Int)<=b/\b<(a.length:Int)/\(Int.toNat b)<a.length) <|
    some (f,p)
   else
    some (f,a):Option (Int × (List Int))).bind fun (q,s)=>
   let t:=(wc .i64 (d+1))
   next t q s
 else
  some (e,a)
def qa.l0 (K:Nat) (a b d:Int) (n:Nat):Int->Int->List Int->Option (Int × (List Int)):=wr (qa.r0 K a b d) (fun _ _ _=>none) n
def qa (K:Nat) (d e f a:Int) (b:List Int):Option (Int × Int × (List Int)):=
 (kw K d e f a b).bind fun g=>
 bif (g != 0) then
  some (g,a,b)
 else
  (qa.l0 K d e f K 0 a b:Option (Int × (List Int))).bind fun (h,i)=>
   some (0,h,i)
def jr (_K:Nat) (_b _d _e:Int) (_f:Bool) (_g:Int) (a:List Int):Option (Unit):=
 gd ((a.length:Int)*1<=70368744177664) <|
 some ()
def jU (_K:Nat) (a _g:Int) (_h:List Int):Option (Int × Int × Int):=
 let d:=(wc .i64 (a+1))
 let e:=(wc .i64 (Int.tdiv a 8))
 let b:=(Int.tmod a 8)
 let f:=(kshr .u8 128 b)
 gd ((0:Int)<=b) <|
 some (e,f,d)
def qx.r0 (K:Nat) (g h:Int) (next:Int->Int->List Int->Option (Int × (List Int))) (d e:Int) (a:List Int):Option (Int × (List Int)):=
 let i:=(decide (d>=0))
 bif i then
  (
   (jU K e h a).bind fun (b,j,f)=>
   let k:=(kshr .u32 g d)
   let l:=(kand .u32 k 1)
   gd ((0:Int)<=d) <|
   bif (l==1) then
    let m:=(Kd.nth (.int .u8) a (Int.toNat b))
    let n:=(kor .u8 m j)
    let o:=(List.set a (Int.toNat b) n)
    gd ((0:Int)<=b/\b<(a.length:Int)/\(Int.toNat b)<a.length/\(0:Int)<=b/\b<(a.length:Int)/\(Int.toNat b)<a.length) <|
    some (f,o)
   else
    some (f,a):Option (Int × (List Int))).bind fun (p,q)=>
   let s:=(wc .i64 (d-1))
   next s p q
 else
  some (e,a)
def qx.l0 (K:Nat) (a b:Int) (n:Nat):Int->Int->List Int->Option (Int × (List Int)):=wr (qx.r0 K a b) (fun _ _ _=>none) n
def qx (K:Nat) (d e a f:Int) (b:List Int):Option (Int × Int × (List Int)):=
 (kw K d e a f b).bind fun g=>
 bif (g != 0) then
  some (g,a,b)
 else
  let h:=(wc .i64 (e-1))
  (qx.l0 K d f K h a b:Option (Int × (List Int))).bind fun (i,j)=>
   some (0,i,j)
def xt (_K:Nat) (a:List Int):Option ((List Int)):=
 gd (a≠[]) <|
 let b:=(([]:List Int)++a)
 gd (((([]:List Int).length:Int)+(a.length:Int))*1<=70368744177664) <|
 some b
def xb (K:Nat) (_d _e:Int) (a:List Int):Option ((List Int)):=
 (xt K a).bind fun b=>
 some b
def zp.r0 (K:Nat) (e f:Int) (g:List Int) (next:Int->Int->List Int->Option (Int × (List Int))) (a b:Int) (d:List Int):Option (Int × (List Int)):=
 let h:=(decide (a<e))
 bif h then
  (jn K a 0 0 g).bind fun i=>
  (qx K (wc .u32 i) 1 b f d).bind fun (_m,j,k)=>
  let l:=(wc .i64 (a+1))
  next l j k
 else
  some (b,d)
def zp.l0 (K:Nat) (a b:Int) (d:List Int) (n:Nat):Int->Int->List Int->Option (Int × (List Int)):=wr (zp.r0 K a b d) (fun _ _ _=>none) n
def zp.r1 (K:Nat) (b:List Int) (f _m _n _o _p _q _s _t _u _w _y _z _A _B _D _E _F _G _H _I:Int) (_J:List Int) (next:Int->Int->List Int->Option (Int × (List Int))) (a d:Int) (e:List Int):Option (Int × (List Int)):=
 let g:=(decide (a<f))
 bif g then
  let h:=(Kd.nth (.int .i64) b (Int.toNat a))
  gd ((0:Int)<=a/\a<(b.length:Int)) <|
  let i:=(wc .u32 h)
  (qa K i 1 0 d e).bind fun (_L,j,k)=>
  let l:=(wc .i64 (a+1))
  next l j k
 else
  some (d,e)
def zp.l1 (K:Nat) (a:List Int) (b d e f g h i j k l m o p q s t u w y z:Int) (A:List Int) (n:Nat):Int->Int->List Int->Option (Int × (List Int)):=wr (zp.r1 K a b d e f g h i j k l m o p q s t u w y z A) (fun _ _ _=>none) n
def zp.r2 (K:Nat) (b:List ((Int × Int))) (g _m _n _o _p _q _s _t _u _w _y _z _A _B _D _E _F _G _H _I:Int) (_J _L:List Int) (next:Int->Int->List Int->Option (Int × (List Int))) (a d:Int) (e:List Int):Option (Int × (List Int)):=
 let h:=(decide (a<g))
 bif h then
  let f:=(Kd.nth (.pair (.int .i64) (.int .i64)) b (Int.toNat a))
  gd ((0:Int)<=a/\a<(b.length:Int)) <|
  let i:=(wc .u32 f.1)
  (qa K i f.2 0 d e).bind fun (_M,j,k)=>
  let l:=(wc .i64 (a+1))
  next l j k
 else
  some (d,e)
def zp.l2 (K:Nat) (a:List ((Int × Int))) (b d e f g h i j k l m o p q s t u w y z:Int) (A B:List Int) (n:Nat):Int->Int->List Int->Option (Int × (List Int)):=wr (zp.r2 K a b d e f g h i j k l m o p q s t u w y z A B) (fun _ _ _=>none) n
def zp (K:Nat) (F G H I J L M N O z b d e f g h i j k l m n o p q s t u w:Int) (y a:List Int):Option ((List Int) × Int):=
 (jf K F G H I J L M N O z).bind fun P=>
 bif (P != 0) then
  some (([]:List Int),P)
 else
  (jZ K F G H I J L M N O z b d e f g h i j k l m n o p q s t u w y a).bind fun T=>
  bif (!T) then
   some (([]:List Int),1)
  else
   (vG K z).bind fun U=>
   (wR K b d e f g h i j k l m n o p q s t u w y a).bind fun Q=>
   (zp.l2 K Q (Q.length:Int) b d e f g h i j k l m n o p q s t u w y a K 0 0 U:Option (Int × (List Int))).bind fun (V,W)=>
    (zp.l1 K a (a.length:Int) b d e f g h i j k l m n o p q s t u w y K 0 V W:Option (Int × (List Int))).bind fun (R,X)=>
     (ky K ).bind fun Y=>
     (qE K b d e f g h i j k l m n o p q s t u w y a).bind fun Z=>
     (jI K Z 0 65535 0 false 0 Y).bind fun (_ai,A,B,aa,ab,ad)=>
     (ka K A B aa false ab ad).bind fun (S,D,E)=>
     (jr K A B S true D E).bind fun _=>
     (xN K E).bind fun ae=>
     (kb K A B S true D E).bind fun _=>
     (zp.l0 K D R ae K 0 0 X:Option (Int × (List Int))).bind fun (af,ag)=>
      (xb K af R ag).bind fun ah=>
      some (ah,0)
def wV.r0 (_K:Nat) (b d:List Int) (e:Int) (next:Int->Option ((Unit) ⊕ (Bool))) (a:Int):Option ((Unit) ⊕ (Bool)):=
 let f:=(decide (a<e))
 bif f then
  let g:=(Kd.nth (.int .u8) b (Int.toNat a))
  gd ((0:Int)<=a/\a<(b.length:Int)) <|
  let h:=(Kd.nth (.int .u8) d (Int.toNat a))
  gd ((0:Int)<=a/\a<(d.length:Int)) <|
  bif (g != h) then
   some (.inr false)
  else
   let i:=(wc .i64 (a+1))
   next i
 else
  some (.inl ())
def wV.l0 (K:Nat) (a b:List Int) (d:Int) (n:Nat):Int->Option ((Unit) ⊕ (Bool)):=wr (wV.r0 K a b d) (fun _=>none) n
def wV (K:Nat) (a b:List Int):Option (Bool):=
 let d:=((a.length:Int) != (b.length:Int))
 bif d then
  some false
 else
  (wV.l0 K a b (a.length:Int) K 0:Option ((Unit) ⊕ (Bool))).bind fun z=>match z with
  | .inl _=>
   some true
  | .inr r=>
   some r
def qi.r0 (K:Nat) (_l:List Int) (e _m _n _o _p _q _s _t _u _w _y _z _A _B _D _E _F _G _H _I _J _L _M _N _O _P _Q _R _S _T:Int) (_U f:List Int) (next:Int->Int->List Int->Option ((List Int))) (b g:Int) (a:List Int):Option ((List Int)):=
 let h:=(decide (b<e))
 bif h then
  (wh K 1 0 g f).bind fun (d,i)=>
  let j:=(a++[d])
  gd (((a.length:Int)+([d].length:Int))*8<=70368744177664) <|
  let k:=(wc .i64 (b+1))
  next k i j
 else
  some a
def qi.l0 (K:Nat) (a:List Int) (b d e f g h i j k l m o p q s t u w y z A B D E F G H I J L:Int) (M N:List Int) (n:Nat):Int->Int->List Int->Option ((List Int)):=wr (qi.r0 K a b d e f g h i j k l m o p q s t u w y z A B D E F G H I J L M N) (fun _ _ _=>none) n
def qi.r1 (K:Nat) (_l:List Int) (e _m _n _o _p _q _s _t _u _w _y _z _A _B _D _E _F _G _H _I _J _L _M _N _O _P _Q _R _S _T:Int) (_U f:List Int) (next:Int->Int->List Int->Option ((List Int))) (b g:Int) (a:List Int):Option ((List Int)):=
 let h:=(decide (b<e))
 bif h then
  (wh K 1 0 g f).bind fun (d,i)=>
  let j:=(a++[d])
  gd (((a.length:Int)+([d].length:Int))*8<=70368744177664) <|
  let k:=(wc .i64 (b+1))
  next k i j
 else
  some a
def qi.l1 (K:Nat) (a:List Int) (b d e f g h i j k l m o p q s t u w y z A B D E F G H I J L:Int) (M N:List Int) (n:Nat):Int->Int->List Int->Option ((List Int)):=wr (qi.r1 K a b d e f g h i j k l m o p q s t u w y z A B D E F G H I J L M N) (fun _ _ _=>none) n
def qi (K:Nat) (B D E F G H I J b A:Int) (L:List Int):Option (Int × Int × Int × Int × Int × Int × Int × Int × Int × Int × Int × Int × Int × Int × Int × Int × Int × Int × Int × (List Int) × (List Int) × Int):=
 (jf K B D E F G H I J b A).bind fun S=>
 bif (S != 0) then
  some (0,0,0,0,0,0,0,0,0,0,0,0,0,0,0,0,0,0,0,([]:List Int),([]:List Int),S)
 else
  let Y:=((L.length:Int) != A)
  bif Y then
   some (0,0,0,0,0,0,0,0,0,0,0,0,0,0,0,0,0,0,0,([]:List Int),([]:List Int),140)
  else
   (xN K L).bind fun a=>
   (wh K 2 0 0 a).bind fun (f,Z)=>
   (wh K 4 0 Z a).bind fun (g,aa)=>
   (
    (wh K 3 0 aa a).bind fun (ab,ad)=>
    let ae:=(wc .i64 (ab-4))
    (wh K 3 0 ad a).bind fun (af,ag)=>
    let ah:=(wc .i64 (af-4))
    (wh K 3 0 ag a).bind fun (ai,aj)=>
    let ak:=(wc .i64 (ai-4))
    (wh K 3 0 aj a).bind fun (al,am)=>
    let an:=(wc .i64 (al-4))
    (wh K 3 0 am a).bind fun (ao,ap)=>
    let aq:=(wc .i64 (ao-4))
    (wh K 3 0 ap a).bind fun (au,aw)=>
    let ay:=(wc .i64 (au-4))
    (wh K 3 0 aw a).bind fun (az,aA)=>
    let aB:=(wc .i64 (az-4))
    (wh K 3 0 aA a).bind fun (aD,aE)=>
    let aF:=(wc .i64 (aD-4))
    some (aE,ae,ah,ak,an,aq,ay,aB,aF):Option (Int × Int × Int × Int × Int × Int × Int × Int × Int)).bind fun (aG,h,i,j,k,l,m,n,o)=>
    (wh K 1 0 aG a).bind fun (d,T)=>
    (
     bif (d==1) then
      (
       (wh K 5 0 T a).bind fun (aH,aI)=>
       (wh K 5 0 aI a).bind fun (aJ,aL)=>
       (wh K 5 0 aL a).bind fun (aM,aN)=>
       (wh K 5 0 aN a).bind fun (aO,aP)=>
       some (aP,aH,aJ,aM,aO):Option (Int × Int × Int × Int × Int)).bind fun (aQ,aR,aS,aT,aU)=>
       some (aQ,aR,aS,aT,aU)
     else
      some (T,0,0,0,0):Option (Int × Int × Int × Int × Int)).bind fun (aV,p,q,s,t)=>
     (wh K 2 0 aV a).bind fun (e,U)=>
     let aW:=(decide (e>0))
     (
      bif aW then
       (wh K 6 0 U a).bind fun (aX,aY)=>
       let aZ:=(wc .i64 (aX+16))
       some (aY,aZ)
      else
       some (U,0):Option (Int × Int)).bind fun (a0,u)=>
      (wh K 8 0 a0 a).bind fun (w,a1)=>
      (wh K 3 0 a1 a).bind fun (y,a2)=>
      (wh K 7 0 a2 a).bind fun (M,P)=>
      (qm K 0 0 P a).bind fun (a3,a4,a5)=>
      (qe K M 0 65535 a3 a4 a5 0 P a).bind fun z=>match z with
      | .inl (a6,_bp,_bq,_bs,_bt)=>
       let a7:=(decide (M>b))
       let a8:=(bif (a6 != 0) then true else a7)
       bif a8 then
        some (0,0,0,0,0,0,0,0,0,0,0,0,0,0,0,0,0,0,0,([]:List Int),([]:List Int),140)
       else
        let Q:=(wc .i64 (b-M))
        let N:=(([]:List Int)++(List.replicate (Int.toNat Q) (0:Int)))
        gd ((0:Int)<=Q/\((([]:List Int).length:Int)+Q)*8<=70368744177664) <|
        (zL K f g h i j k l m n o d p q s t u e w y N).bind fun a9=>
        (zM K B D E F G H I J b A f g h i j k l m n o d p q s t u e w y N).bind fun ba=>
        let bb:=(imin a9 ba)
        (qi.l0 K L bb B D E F G H I J b A f g h i j k l m n o d p q s t u e w y N a K 0 P ([]:List Int):Option ((List Int))).bind fun V=>
         (zp K B D E F G H I J b A f g h i j k l m n o d p q s t u e w y N V).bind fun (bd,be)=>
         (
          bif (be != 0) then
           some true
          else
           (wV K bd L).bind fun bf=>
           some (!bf):Option (Bool)).bind fun bg=>
          bif bg then
           some (0,0,0,0,0,0,0,0,0,0,0,0,0,0,0,0,0,0,0,([]:List Int),([]:List Int),140)
          else
           some (f,g,h,i,j,k,l,m,n,o,d,p,q,s,t,u,e,w,y,N,V,0)
      | .inr (_bu,_bw,_bz,_bA,W)=>
       let bh:=(decide (M>b))
       bif bh then
        some (0,0,0,0,0,0,0,0,0,0,0,0,0,0,0,0,0,0,0,([]:List Int),([]:List Int),140)
       else
        let R:=(wc .i64 (b-M))
        let O:=(W++(List.replicate (Int.toNat R) (0:Int)))
        gd ((0:Int)<=R/\((W.length:Int)+R)*8<=70368744177664) <|
        (zL K f g h i j k l m n o d p q s t u e w y O).bind fun bi=>
        (zM K B D E F G H I J b A f g h i j k l m n o d p q s t u e w y O).bind fun bj=>
        let bk:=(imin bi bj)
        (qi.l1 K L bk B D E F G H I J b A f g h i j k l m n o d p q s t u e w y O a K 0 P ([]:List Int):Option ((List Int))).bind fun X=>
         (zp K B D E F G H I J b A f g h i j k l m n o d p q s t u e w y O X).bind fun (bl,bm)=>
         (
          bif (bm != 0) then
           some true
          else
           (wV K bl L).bind fun bn=>
           some (!bn):Option (Bool)).bind fun bo=>
          bif bo then
           some (0,0,0,0,0,0,0,0,0,0,0,0,0,0,0,0,0,0,0,([]:List Int),([]:List Int),140)
          else
           some (f,g,h,i,j,k,l,m,n,o,d,p,q,s,t,u,e,w,y,O,X,0)
def jO.r0 (_K:Nat) (f:Int) (g:List Int) (j:Int) (next:Int->List (List Int)->Option ((List (List Int)))) (b:Int) (a:List (List Int)):Option ((List (List Int))):=
 let k:=(decide (b<j))
 bif k then
  let h:=(Kd.nth (.int .i16) g (Int.toNat b))
  gd ((0:Int)<=b/\b<(g.length:Int)) <|
  let d:=(Int.tmod b f)
  gd (f≠0) <|
  gd (f≠0) <|
  let e:=(Int.toNat d)
  gd ((0:Int)<=d/\d<(a.length:Int)) <|
  let i:=(List.getD a e [])
  gd (e<a.length) <|
  let l:=(i++[h])
  gd (((i.length:Int)+([h].length:Int))*2<=70368744177664) <|
  gd ((0:Int)<=d/\d<(a.length:Int)) <|
  let m:=(List.set a e l)
  gd (e<a.length) <|
  let n:=(wc .i64 (b+1))
  next n m
 else
  some a
def jO.l0 (K:Nat) (a:Int) (b:List Int) (d:Int) (n:Nat):Int->List (List Int)->Option ((List (List Int))):=wr (jO.r0 K a b d) (fun _ _=>none) n
def jO (K:Nat) (b:List Int) (a:Int):Option ((List (List Int)) × Int):=
 let e:=(decide (a<1))
 let f:=(decide (a>2))
 let d:=(bif e then true else f)
 let g:=(Int.tmod (b.length:Int) a)
 let h:=(bif d then true else (g != 0))
 gd (((!d)=true->a≠0)) <|
 bif h then
  some (([]:List (List Int)),1)
 else
  let i:=(List.replicate (Int.toNat a) ([]:List Int))
  gd ((0:Int)<=a/\a<=a/\a*24<=140737488355328) <|
  (jO.l0 K a b (b.length:Int) K 0 i:Option ((List (List Int)))).bind fun j=>
   some (j,0)
def qF (_K:Nat) (a:Int):Option (Unit):=
 gd (0<=a/\a*8<=140737488355328) <| some ()
def qp (K:Nat) (a b:List Int):Option ((List Int)):=
 (
  let d:=(wc .i64 (79+(a.length:Int)))
  let f:=(decide (d<0))
  bif f then
   none
  else
   some d:Option (Int)).bind fun g=>
  (qF K g).bind fun _=>
  (
   let e:=(([]:List Int)++b)
   gd (((([]:List Int).length:Int)+(b.length:Int))*8<=70368744177664) <|
   gd (((e.length:Int)+(a.length:Int))*8<=70368744177664) <|
   some (e++a):Option ((List Int))).bind fun h=>
   some h
def jV (K:Nat) (a b:List Int):Option ((List Int)):=
 (qp K a b).bind fun d=>
 some d
def wF.r0 (_K:Nat) (g h:Int) (a:List Int) (next:Int->Int->Option (Int)) (f b:Int):Option (Int):=
 let i:=(decide (b<(a.length:Int)))
 bif i then
  let d:=(wc .i64 (b-g))
  let j:=(Kd.nth (.int .i64) a (Int.toNat d))
  gd ((0:Int)<=d/\d<(a.length:Int)) <|
  let e:=(wc .i64 (b-h))
  let k:=(Kd.nth (.int .i64) a (Int.toNat e))
  gd ((0:Int)<=e/\e<(a.length:Int)) <|
  let l:=(wc .i64 (j*k))
  let m:=(wc .i64 (f+l))
  let n:=(wc .i64 (b+1))
  next m n
 else
  some f
def wF.l0 (K:Nat) (a b:Int) (d:List Int) (n:Nat):Int->Int->Option (Int):=wr (wF.r0 K a b d) (fun _ _=>none) n
def wF (K:Nat) (a b:Int) (d:List Int):Option (Int):=
 (wF.l0 K a b d K 0 79:Option (Int)).bind fun e=>
  some e
def kV.r0 (_K:Nat) (e:Int) (next:Int->Int->Option (Int)) (a b:Int):Option (Int):=
 let f:=(decide (b>0))
 bif f then
  (
   let d:=(kor .u64 a b)
   let g:=(wc .u64 (d*d))
   let h:=(decide (g<=e))
   bif h then
    some d
   else
    some a:Option (Int)).bind fun i=>
   let j:=(kshr .u64 b 1)
   next i j
 else
  some a
def kV.l0 (K:Nat) (a:Int) (n:Nat):Int->Int->Option (Int):=wr (kV.r0 K a) (fun _ _=>none) n
def kV (K:Nat) (a:Int):Option (Int):=
 (kV.l0 K a K 0 2147483648:Option (Int)).bind fun b=>
  some (wc .u32 b)
def qw.r0 (_K:Nat) (d:Int) (next:Int->Int->Option (Int)) (b a:Int):Option (Int):=
 let e:=(decide (a<3))
 bif e then
  (
   let f:=(List.getD ([140,192,230]:List Int) (Int.toNat a) 0)
   gd ((0:Int)<=a/\a<3) <|
   let g:=(decide (d>=f))
   bif g then
    let h:=(wc .i64 (b+1))
    some h
   else
    some b:Option (Int)).bind fun i=>
   let j:=(wc .i64 (a+1))
   next i j
 else
  some b
def qw.l0 (K:Nat) (a:Int) (n:Nat):Int->Int->Option (Int):=wr (qw.r0 K a) (fun _ _=>none) n
def qw (K:Nat) (b d e:Int):Option (Int):=
 (kV K d).bind fun f=>
 (kV K e).bind fun g=>
 let a:=(wc .i64 ((wc .i64 f)*(wc .i64 g)))
 let h:=(decide (b<=0))
 let i:=(decide (a<=0))
 let j:=(bif h then true else i)
 bif j then
  some 0
 else
  let k:=(wc .i64 (b*256))
  let l:=(wc .i64 (Int.tdiv k a))
  gd (a≠0) <|
  (qw.l0 K l K 0 0:Option (Int)).bind fun m=>
   some m
def j3 (_K:Nat) (a d:List Int):Option ((List Int)):=
 let b:=(wc .i64 ((a.length:Int)-79))
 let e:=((a.take (Int.toNat (a.length:Int))).drop (Int.toNat b))
 gd ((0:Int)<=b/\b<=(a.length:Int)/\(a.length:Int)<=(a.length:Int)) <|
 some (cpy 0 d e)
def wG.r0 (K:Nat) (_l f:List Int) (next:Int->Int->Int->Option (Int × Int)) (d b a:Int):Option (Int × Int):=
 let g:=(decide (a<=79))
 bif g then
  (
   (wF K 0 a f).bind fun e=>
   let h:=(decide (e>b))
   bif h then
    some (a,e)
   else
    some (d,b):Option (Int × Int)).bind fun (i,j)=>
   let k:=(wc .i64 (a+1))
   next i j k
 else
  some (d,b)
def wG.l0 (K:Nat) (a b:List Int) (n:Nat):Int->Int->Int->Option (Int × Int):=wr (wG.r0 K a b) (fun _ _ _=>none) n
def wG.r1 (_K:Nat) (d:List Int) (e:Int) (_k:List Int) (next:Int->List Int->Option ((List Int))) (a:Int) (b:List Int):Option ((List Int)):=
 let f:=(decide (a<e))
 bif f then
  let g:=(Kd.nth (.int .i16) d (Int.toNat a))
  gd ((0:Int)<=a/\a<(d.length:Int)) <|
  let h:=(wc .i64 g)
  let i:=(List.set b (Int.toNat a) h)
  gd ((0:Int)<=a/\a<(b.length:Int)/\(Int.toNat a)<b.length) <|
  let j:=(wc .i64 (a+1))
  next j i
 else
  some b
def wG.l1 (K:Nat) (a:List Int) (b:Int) (d:List Int) (n:Nat):Int->List Int->Option ((List Int)):=wr (wG.r1 K a b d) (fun _ _=>none) n
def wG (K:Nat) (a b:List Int):Option (Int × Int × Int × (List Int)):=
 let h:=(decide ((a.length:Int)>120))
 bif h then
  some (0,0,2,b)
 else
  let i:=(List.replicate (Int.toNat (a.length:Int)) (0:Int))
  gd ((0:Int)<=(a.length:Int)/\(a.length:Int)<=(a.length:Int)/\(a.length:Int)*8<=140737488355328) <|
  (wG.l1 K a (a.length:Int) b K 0 i:Option ((List Int))).bind fun j=>
   (jV K j b).bind fun d=>
   (wF K 0 16 d).bind fun k=>
   (wG.l0 K b d K 16 k 17:Option (Int × Int)).bind fun (e,l)=>
    (wF K 0 0 d).bind fun m=>
    (wF K e e d).bind fun n=>
    (qw K l (wc .u64 m) (wc .u64 n)).bind fun f=>
    (j3 K d b).bind fun g=>
    bif (f==0) then
     some (0,0,0,g)
    else
     some (e,f,0,g)
def qC (_K:Nat) (a:Int):Option (Unit):=
 gd (0<=a/\a*2<=140737488355328) <| some ()
def qq (K:Nat) (a b:List Int):Option ((List Int)):=
 (
  let d:=(wc .i64 (0+(b.length:Int)))
  let g:=(decide (d<0))
  bif g then
   none
  else
   let e:=(wc .i64 (d+(a.length:Int)))
   let h:=(decide (e<0))
   bif h then
    none
   else
    some e:Option (Int)).bind fun i=>
  (qC K i).bind fun _=>
  (
   let f:=(([]:List Int)++b)
   gd (((([]:List Int).length:Int)+(b.length:Int))*2<=70368744177664) <|
   gd (((f.length:Int)+(a.length:Int))*2<=70368744177664) <|
   some (f++a):Option ((List Int))).bind fun j=>
   some j
def qL (K:Nat) (d a _i:Int) (b _j _k:List Int):Option (Int):=
 let e:=(Kd.nth (.int .i16) b (Int.toNat a))
 let f:=(wc .i64 e)
 let g:=(wc .i64 (d*f))
 gd ((0:Int)<=a/\a<(b.length:Int)) <|
 (wK K g 15).bind fun h=>
 some h
def kI (_K:Nat) (f g b:Int) (_p d _q:List Int):Option (Int):=
 let h:=(wc .i64 (2*f))
 let i:=(wc .i64 (h+1))
 let j:=(wc .i64 (i+b))
 let k:=(wc .i64 (2*g))
 let l:=(wc .i64 (k+1))
 let m:=(wc .i64 (j*l))
 let e:=(wc .i64 (8*b))
 let a:=(Int.tmod m e)
 gd (e≠0) <|
 let n:=(Kd.nth (.int .i16) d (Int.toNat a))
 gd ((0:Int)<=a/\a<(d.length:Int)) <|
 let o:=(wc .i64 n)
 some o
def wv.r1 (K:Nat) (_q:List Int) (e _s f g:Int) (h i j b _t:List Int) (next:Int->Int->Option (Int)) (d a:Int):Option (Int):=
 let k:=(decide (a<f))
 bif k then
  let l:=(Kd.nth (.int .i64) b (Int.toNat a))
  gd ((0:Int)<=a/\a<(b.length:Int)/\(Int.toNat a)<b.length) <|
  (kI K a e g h i j).bind fun m=>
  let n:=(wc .i64 (l*m))
  let o:=(wc .i64 (d+n))
  let p:=(wc .i64 (a+1))
  next o p
 else
  some d
def wv.l1 (K:Nat) (a:List Int) (b d e f:Int) (g h i j k:List Int) (n:Nat):Int->Int->Option (Int):=wr (wv.r1 K a b d e f g h i j k) (fun _ _=>none) n
def wv.r0 (K:Nat) (f:List Int) (d g:Int) (h i j e:List Int) (next:Int->List Int->Option ((List Int))) (a:Int) (b:List Int):Option ((List Int)):=
 let k:=(decide (a<d))
 bif k then
  (wv.l1 K f a d (e.length:Int) g h i j e b K 0 0:Option (Int)).bind fun l=>
   (wK K l 15).bind fun m=>
   (qD K m).bind fun n=>
   let o:=(List.set b (Int.toNat a) n)
   gd ((0:Int)<=a/\a<(b.length:Int)/\(Int.toNat a)<b.length) <|
   let p:=(wc .i64 (a+1))
   next p o
 else
  some b
def wv.l0 (K:Nat) (a:List Int) (b d:Int) (e f g h:List Int) (n:Nat):Int->List Int->Option ((List Int)):=wr (wv.r0 K a b d e f g h) (fun _ _=>none) n
def wv.r2 (K:Nat) (_p d:List Int) (f g:Int) (h i j:List Int) (next:Int->List Int->Option ((List Int))) (a:Int) (b:List Int):Option ((List Int)):=
 let k:=(decide (a<f))
 bif k then
  let l:=(Kd.nth (.int .i16) d (Int.toNat a))
  gd ((0:Int)<=a/\a<(d.length:Int)) <|
  let m:=(wc .i64 l)
  (qL K m a g h i j).bind fun e=>
  let n:=(b++[e])
  gd (((b.length:Int)+([e].length:Int))*8<=70368744177664) <|
  let o:=(wc .i64 (a+1))
  next o n
 else
  some b
def wv.l2 (K:Nat) (a b:List Int) (d e:Int) (f g h:List Int) (n:Nat):Int->List Int->Option ((List Int)):=wr (wv.r2 K a b d e f g h) (fun _ _=>none) n
def wv (K:Nat) (b:List Int) (a:Int) (e f d:List Int):Option ((List Int) × Int × (List Int)):=
 let j:=((b.length:Int) != a)
 bif j then
  some (([]:List Int),1,d)
 else
  let g:=(wc .i64 (2*a))
  gd (0<=g/\g*8<=140737488355328) <|
  (qq K b d).bind fun h=>
  (wv.l2 K b h (h.length:Int) a e f d K 0 (List.replicate 0 (0:Int)):Option ((List Int))).bind fun k=>
   let i:=(List.replicate (Int.toNat a) (0:Int))
   gd ((0:Int)<=a/\a<=a/\a*4<=140737488355328) <|
   let l:=(i.length:Int)
   (wv.l0 K b l a e f d k K 0 i:Option ((List Int))).bind fun m=>
    some (m,0,(cpy 0 d b))
def qN.r0 (_K:Nat) (b:List Int) (g:Int) (next:Int->Int->Option (Int)) (d a:Int):Option (Int):=
 let h:=(decide (a<g))
 bif h then
  let i:=(Kd.nth (.int .i32) b (Int.toNat a))
  gd ((0:Int)<=a/\a<(b.length:Int)) <|
  let e:=(wc .i64 i)
  let j:=(wc .i64 (0-e))
  let k:=(imax e j)
  let f:=(wc .i64 (Int.tdiv k 8))
  let l:=(wc .i64 (f*f))
  let m:=(wc .u64 l)
  let n:=(wc .u64 (d+m))
  let o:=(wc .i64 (a+1))
  next n o
 else
  some d
def qN.l0 (K:Nat) (a:List Int) (b:Int) (n:Nat):Int->Int->Option (Int):=wr (qN.r0 K a b) (fun _ _=>none) n
def qN (K:Nat) (a:List Int):Option (Int):=
 (qN.l0 K a (a.length:Int) K 0 0:Option (Int)).bind fun b=>
  some b
def z9.r0 (K:Nat) (g:List Int) (k:Int) (h:List Int) (next:Int->List Int->Option ((List Int))) (a:Int) (b:List Int):Option ((List Int)):=
 let l:=(decide (a<k))
 bif l then
  let i:=(0+(Int.toNat a)*1)
  gd ((0:Int)<=a/\a<9) <|
  let e:=(List.getD h (i+0) 0)
  gd (i+1<=9) <|
  let d:=(wc .i64 (a+1))
  let j:=(0+(Int.toNat d)*1)
  gd ((0:Int)<=d/\d<9) <|
  let f:=(List.getD h (j+0) 0)
  gd (j+1<=9) <|
  let m:=((g.take (Int.toNat f)).drop (Int.toNat e))
  gd ((0:Int)<=e/\e<=f/\f<=(g.length:Int)) <|
  (qN K m).bind fun n=>
  gd ((0:Int)<=a/\a<(b.length:Int)) <|
  let o:=(List.set b (Int.toNat a) n)
  gd ((Int.toNat a)<b.length) <|
  next d o
 else
  some b
def z9.l0 (K:Nat) (a:List Int) (b:Int) (d:List Int) (n:Nat):Int->List Int->Option ((List Int)):=wr (z9.r0 K a b d) (fun _ _=>none) n
def z9 (K:Nat) (a:List Int):Option ((List Int) × Int):=
 (jh K (a.length:Int)).bind fun (b,d,e,f,g,h,i,j,k)=>
 let l:=[0,b,d,e,f,g,h,i,j]
 bif (!k) then
  some (([]:List Int),1)
 else
  let m:=((List.replicate 8 (0:Int)).length:Int)
  (z9.l0 K a m l K 0 (List.replicate 8 (0:Int)):Option ((List Int))).bind fun n=>
   some (n,0)
def jm.r0 (_K:Nat) (b:List Int) (g:Int) (next:Int->Int->Option (Int)) (h a:Int):Option (Int):=
 let i:=(decide (a>0))
 bif i then
  let d:=(wc .i64 (2*a))
  let j:=(Kd.nth (.int .u64) b (Int.toNat d))
  gd ((0:Int)<=d/\d<(b.length:Int)) <|
  let e:=(wc .i64 (d+1))
  let k:=(Kd.nth (.int .u64) b (Int.toNat e))
  gd ((0:Int)<=e/\e<(b.length:Int)) <|
  let l:=(wc .u64 (j+k))
  let f:=(wc .u64 (h+l))
  let m:=(decide (f>g))
  bif m then
   some a
  else
   let n:=(wc .i64 (a-1))
   next f n
 else
  some a
def jm.l0 (K:Nat) (a:List Int) (b:Int) (n:Nat):Int->Int->Option (Int):=wr (jm.r0 K a b) (fun _ _=>none) n
def jm (K:Nat) (a:List Int):Option (Int × Int):=
 (z9 K a).bind fun (d,b)=>
 bif (b != 0) then
  some (0,b)
 else
  (qN K a).bind fun e=>
  let f:=(wc .u64 (Int.tdiv e 4096))
  (jm.l0 K d f K 0 3:Option (Int)).bind fun g=>
   some (g,0)
def qu (_K:Nat) (a:List Int):Option ((List Int)):=
 gd (a≠[]) <|
 let b:=(([]:List Int)++a)
 gd (((([]:List Int).length:Int)+(a.length:Int))*4<=70368744177664) <|
 some b
def xZ (K:Nat) (d:List Int) (f:Int):Option ((List Int) × Int):=
 (j7 K (d.length:Int) f).bind fun (a,e)=>
 bif (e != 0) then
  some (([]:List Int),e)
 else
  (qu K d).bind fun b=>
  let g:=(List.take (Int.toNat a) b++List.replicate (b.length-(Int.toNat a)) (0:Int))
  gd ((0:Int)<=a/\a<(b.length:Int)/\(Int.toNat a)<b.length) <|
  some (g,0)
def xn (K:Nat) (j:Int):Option ((List Int) × Int):=
 (jh K j).bind fun (a,b,d,e,f,g,h,i,k)=>
 bif (!k) then
  some (([]:List Int),1)
 else
  let l:=[(0,(a,(b,(d,(e,(f,(g,(h,i)))))))).1,(0,(a,(b,(d,(e,(f,(g,(h,i)))))))).2.1,(0,(a,(b,(d,(e,(f,(g,(h,i)))))))).2.2.1,(0,(a,(b,(d,(e,(f,(g,(h,i)))))))).2.2.2.1,(0,(a,(b,(d,(e,(f,(g,(h,i)))))))).2.2.2.2.1,(0,(a,(b,(d,(e,(f,(g,(h,i)))))))).2.2.2.2.2.1,(0,(a,(b,(d,(e,(f,(g,(h,i)))))))).2.2.2.2.2.2.1,(0,(a,(b,(d,(e,(f,(g,(h,i)))))))).2.2.2.2.2.2.2.1,(0,(a,(b,(d,(e,(f,(g,(h,i)))))))).2.2.2.2.2.2.2.2]
  some (l,0)
def xC.r0 (_K:Nat)  (next:Int->Int->Int->Option (Int)) (b d e:Int):Option (Int):=
 let g:=(decide (e<8))
 bif g then
  let h:=(wc .u64 (b*b))
  let f:=(kshr .u64 h 30)
  let a:=(kshr .u64 f 31)
  let i:=(kshr .u64 f a)
  gd ((0:Int)<=a) <|
  let j:=(kshl .i32 d 1)
  let k:=(wc .i32 a)
  let l:=(kor .i32 j k)
  let m:=(wc .i64 (e+1))
  next i l m
 else
  some d
def xC.l0 (K:Nat)  (n:Nat):Int->Int->Int->Option (Int):=wr (xC.r0 K) (fun _ _ _=>none) n
def xC (K:Nat) (b:Int):Option (Int × Int):=
 (kU K b).bind fun f=>
 let a:=(wc .i64 (f-1))
 let g:=(decide (a<0))
 bif g then
  some (0,1)
 else
  let d:=(wc .i64 (30-a))
  let h:=(kshl .u64 b (imax d 0))
  let e:=(wc .i64 (a-30))
  let i:=(kshr .u64 h (imax e 0))
  gd ((0:Int)<=(imax d 0)/\(0:Int)<=(imax e 0)) <|
  let j:=(wc .i32 a)
  (xC.l0 K K i j 0:Option (Int)).bind fun k=>
   some (k,0)
def qG.r0 (_K:Nat) (e:Int) (next:Int->List Int->Option ((List Int))) (a:Int) (d:List Int):Option ((List Int)):=
 let f:=(decide (a<8))
 bif f then
  let b:=(0+(Int.toNat a)*1)
  let g:=(List.getD d (b+0) 0)
  let h:=(wc .i64 (Int.tdiv e 8))
  let i:=(wc .i64 (g-h))
  let j:=(List.set d b i)
  gd ((0:Int)<=a/\a<8/\b+1<=8/\(0:Int)<=a/\a<8/\b<8) <|
  let k:=(wc .i64 (a+1))
  next k j
 else
  some d
def qG.l0 (K:Nat) (a:Int) (n:Nat):Int->List Int->Option ((List Int)):=wr (qG.r0 K a) (fun _ _=>none) n
def qG.r1 (K:Nat) (b f:List Int) (k:Int) (next:Int->Int->List Int->Option (Int × (List Int))) (g a:Int) (h:List Int):Option (Int × (List Int)):=
 let l:=(decide (a<k))
 bif l then
  let m:=(Kd.nth (.int .u64) f (Int.toNat a))
  gd ((0:Int)<=a/\a<(f.length:Int)) <|
  let d:=(wc .i64 (a+1))
  let n:=(Kd.nth (.int .i64) b (Int.toNat d))
  gd ((0:Int)<=d/\d<(b.length:Int)) <|
  let o:=(Kd.nth (.int .i64) b (Int.toNat a))
  gd ((0:Int)<=a/\a<(b.length:Int)) <|
  let p:=(wc .i64 (n-o))
  let i:=(wc .u64 p)
  let q:=(wc .u64 (Int.tdiv m i))
  gd (i≠0) <|
  let s:=(wc .u64 (q+1))
  (xC K s).bind fun (t,_A)=>
  let u:=(wc .i32 (Int.tdiv t 2))
  let w:=(wc .i64 u)
  let e:=(0+(Int.toNat a)*1)
  let j:=(List.set h e w)
  gd ((0:Int)<=a/\a<8/\e<8) <|
  let y:=(List.getD j (e+0) 0)
  let z:=(wc .i64 (g+y))
  gd ((0:Int)<=a/\a<8/\e+1<=8) <|
  next z d j
 else
  some (g,h)
def qG.l1 (K:Nat) (a b:List Int) (d:Int) (n:Nat):Int->Int->List Int->Option (Int × (List Int)):=wr (qG.r1 K a b d) (fun _ _ _=>none) n
def qG (K:Nat) (b:List Int):Option (Int × Int × Int × Int × Int × Int × Int × Int × Int):=
 (z9 K b).bind fun (d,e)=>
 bif (e != 0) then
  some (0,0,0,0,0,0,0,0,e)
 else
  (xn K (b.length:Int)).bind fun (f,_i)=>
  (qG.l1 K f d (d.length:Int) K 0 0 (List.replicate 8 (0:Int)):Option (Int × (List Int))).bind fun (g,h)=>
   (qG.l0 K g K 0 h:Option ((List Int))).bind fun a=>
    some ((List.getD a 0 0),(List.getD a 1 0),(List.getD a 2 0),(List.getD a 3 0),(List.getD a 4 0),(List.getD a 5 0),(List.getD a 6 0),(List.getD a 7 0),0)
def xq (_K:Nat)  : Option (Unit):=
 some ()
def zY.r0 (_K:Nat) (g h i j k l m n:Int) (o:List Int) (next:Int->Int->Option (Int)) (d a:Int):Option (Int):=
 let p:=(decide (a<8))
 bif p then
  let e:=(List.getD [g,h,i,j,k,l,m,n] (Int.toNat a) 0)
  gd ((0:Int)<=a/\a<8) <|
  let b:=(0+(Int.toNat a)*1)
  gd ((0:Int)<=a/\a<8) <|
  let f:=(List.getD o (b+0) 0)
  gd (b+1<=8) <|
  let q:=(wc .i64 (e-f))
  gd ((0:Int)<=a/\a<8) <|
  gd (b+1<=8) <|
  let s:=(wc .i64 (f-e))
  let t:=(imax q s)
  let u:=(wc .i64 (d+t))
  let w:=(wc .i64 (a+1))
  next u w
 else
  some d
def zY.l0 (K:Nat) (a b d e f g h i:Int) (j:List Int) (n:Nat):Int->Int->Option (Int):=wr (zY.r0 K a b d e f g h i j) (fun _ _=>none) n
def zY (K:Nat) (a b d e f g h i j k l m n o p q:Int):Option (Int):=
 let s:=(List.getD [a,b,d,e,f,g,h,i] 0 0)
 let t:=(List.getD [a,b,d,e,f,g,h,i] 1 0)
 let u:=(List.getD [a,b,d,e,f,g,h,i] 2 0)
 let w:=(List.getD [a,b,d,e,f,g,h,i] 3 0)
 let y:=(List.getD [a,b,d,e,f,g,h,i] 4 0)
 let z:=(List.getD [a,b,d,e,f,g,h,i] 5 0)
 let A:=(List.getD [a,b,d,e,f,g,h,i] 6 0)
 let B:=(List.getD [a,b,d,e,f,g,h,i] 7 0)
 (zY.l0 K s t u w y z A B [j,k,l,m,n,o,p,q] K 0 0:Option (Int)).bind fun D=>
  some D
def kF.r0 (K:Nat) (e a:List Int) (next:Int->Int->Option (Int)) (f g:Int):Option (Int):=
 let p:=(decide (f<16))
 bif p then
  (
   let h:=(List.getD e 0 0)
   let i:=(List.getD e 1 0)
   let j:=(List.getD e 2 0)
   let k:=(List.getD e 3 0)
   let l:=(List.getD e 4 0)
   let m:=(List.getD e 5 0)
   let n:=(List.getD e 6 0)
   let o:=(List.getD e 7 0)
   let b:=(0+(Int.toNat f)*8)
   gd ((0:Int)<=f/\f<16) <|
   let q:=(List.getD a (b+0) 0)
   let s:=(List.getD a (b+1) 0)
   let t:=(List.getD a (b+2) 0)
   let u:=(List.getD a (b+3) 0)
   let w:=(List.getD a (b+4) 0)
   let y:=(List.getD a (b+5) 0)
   let z:=(List.getD a (b+6) 0)
   let A:=(List.getD a (b+7) 0)
   gd (b+8<=128) <|
   (zY K h i j k l m n o q s t u w y z A).bind fun B=>
   let d:=(0+(Int.toNat g)*8)
   gd ((0:Int)<=g/\g<16) <|
   let D:=(List.getD a (d+0) 0)
   let E:=(List.getD a (d+1) 0)
   let F:=(List.getD a (d+2) 0)
   let G:=(List.getD a (d+3) 0)
   let H:=(List.getD a (d+4) 0)
   let I:=(List.getD a (d+5) 0)
   let J:=(List.getD a (d+6) 0)
   let L:=(List.getD a (d+7) 0)
   gd (d+8<=128) <|
   (zY K h i j k l m n o D E F G H I J L).bind fun M=>
   let N:=(decide (B<M))
   bif N then
    some f
   else
    some g:Option (Int)).bind fun O=>
   let P:=(wc .i64 (f+1))
   next P O
 else
  some g
def kF.l0 (K:Nat) (a b:List Int) (n:Nat):Int->Int->Option (Int):=wr (kF.r0 K a b) (fun _ _=>none) n
def kF (K:Nat) (g:List Int):Option (Int × Int × Int × Int × Int × Int × Int × Int × Int × Int):=
 (qG K g).bind fun (h,i,j,k,l,m,n,o,f)=>
 let a:=[h,i,j,k,l,m,n,o]
 bif (f != 0) then
  some (0,0,0,0,0,0,0,0,0,f)
 else
  (xq K ).bind fun _=>
  let b:=([0,0,0,0,0,0,0,0,192,128,64,0,0,(-64),(-128),(-192),384,256,128,0,0,(-128),(-256),(-384),512,384,192,0,(-64),(-192),(-320),(-512),(-192),(-128),(-64),0,0,64,128,192,(-384),(-256),(-128),0,0,128,256,384,256,256,0,0,(-128),(-128),(-128),(-128),(-128),(-128),256,256,0,0,(-128),(-128),(-192),(-64),64,192,192,64,(-64),(-192),192,64,(-64),(-192),(-192),(-64),64,192,512,0,0,(-64),(-64),(-128),(-128),(-128),0,384,128,0,(-64),(-128),(-128),(-192),0,0,320,128,0,(-128),(-128),(-192),(-64),(-64),(-64),320,128,0,(-128),(-128),128,128,128,128,(-128),(-128),(-128),(-128),256,128,128,64,0,(-64),(-192),(-320)]:List Int)
  (kF.l0 K a b K 0 0:Option (Int)).bind fun e=>
   let d:=(0+(Int.toNat e)*8)
   let p:=(List.getD b (d+0) 0)
   let q:=(List.getD b (d+1) 0)
   let s:=(List.getD b (d+2) 0)
   let t:=(List.getD b (d+3) 0)
   let u:=(List.getD b (d+4) 0)
   let w:=(List.getD b (d+5) 0)
   let y:=(List.getD b (d+6) 0)
   let z:=(List.getD b (d+7) 0)
   gd ((0:Int)<=e/\e<16/\d+8<=128) <|
   (
    let A:=(List.getD a 0 0)
    let B:=(wc .i64 (A-p))
    let D:=(wc .i64 (B+64))
    let E:=(kshr .i64 D 7)
    (zc K E (-4) 3).bind fun F=>
    let G:=(List.getD a 1 0)
    let H:=(wc .i64 (G-q))
    let I:=(wc .i64 (H+64))
    let J:=(kshr .i64 I 7)
    (zc K J (-4) 3).bind fun L=>
    let M:=(List.getD a 2 0)
    let N:=(wc .i64 (M-s))
    let O:=(wc .i64 (N+64))
    let P:=(kshr .i64 O 7)
    (zc K P (-4) 3).bind fun Q=>
    let R:=(List.getD a 3 0)
    let S:=(wc .i64 (R-t))
    let T:=(wc .i64 (S+64))
    let U:=(kshr .i64 T 7)
    (zc K U (-4) 3).bind fun V=>
    let W:=(List.getD a 4 0)
    let X:=(wc .i64 (W-u))
    let Y:=(wc .i64 (X+64))
    let Z:=(kshr .i64 Y 7)
    (zc K Z (-4) 3).bind fun aa=>
    let ab:=(List.getD a 5 0)
    let ad:=(wc .i64 (ab-w))
    let ae:=(wc .i64 (ad+64))
    let af:=(kshr .i64 ae 7)
    (zc K af (-4) 3).bind fun ag=>
    let ah:=(List.getD a 6 0)
    let ai:=(wc .i64 (ah-y))
    let aj:=(wc .i64 (ai+64))
    let ak:=(kshr .i64 aj 7)
    (zc K ak (-4) 3).bind fun al=>
    let am:=(List.getD a 7 0)
    let an:=(wc .i64 (am-z))
    let ao:=(wc .i64 (an+64))
    let ap:=(kshr .i64 ao 7)
    (zc K ap (-4) 3).bind fun aq=>
    some (F,L,Q,V,aa,ag,al,aq):Option (Int × Int × Int × Int × Int × Int × Int × Int)).bind fun (au,aw,ay,az,aA,aB,aD,aE)=>
    some (e,au,aw,ay,az,aA,aB,aD,aE,0)
def xP (K:Nat) (a j k l m n o p q:Int):Option ((List Int) × Int):=
 (qR K a j k l m n o p q).bind fun s=>
 bif (s != 0) then
  some (([]:List Int),s)
 else
  (xq K ).bind fun _=>
  let t:=(List.getD vZ ((Int.toNat a)*8+0) 0)
  let u:=(List.getD vZ ((Int.toNat a)*8+1) 0)
  let w:=(List.getD vZ ((Int.toNat a)*8+2) 0)
  let y:=(List.getD vZ ((Int.toNat a)*8+3) 0)
  let z:=(List.getD vZ ((Int.toNat a)*8+4) 0)
  let A:=(List.getD vZ ((Int.toNat a)*8+5) 0)
  let B:=(List.getD vZ ((Int.toNat a)*8+6) 0)
  let D:=(List.getD vZ ((Int.toNat a)*8+7) 0)
  gd ((0:Int)<=a/\a<(16:Int)) <|
  (
   let E:=(wc .i64 (128*j))
   let F:=(wc .i64 (t+E))
   let G:=(wc .i32 F)
   let b:=(List.set (List.replicate 8 (0:Int)) 0 G)
   gd (0<((List.replicate 8 (0:Int)).length:Int)/\0<(List.replicate 8 (0:Int)).length) <|
   let H:=(wc .i64 (128*k))
   let I:=(wc .i64 (u+H))
   let J:=(wc .i32 I)
   let d:=(List.set b 1 J)
   gd (1<(b.length:Int)/\1<b.length) <|
   let L:=(wc .i64 (128*l))
   let M:=(wc .i64 (w+L))
   let N:=(wc .i32 M)
   let e:=(List.set d 2 N)
   gd (2<(d.length:Int)/\2<d.length) <|
   let O:=(wc .i64 (128*m))
   let P:=(wc .i64 (y+O))
   let Q:=(wc .i32 P)
   let f:=(List.set e 3 Q)
   gd (3<(e.length:Int)/\3<e.length) <|
   let R:=(wc .i64 (128*n))
   let S:=(wc .i64 (z+R))
   let T:=(wc .i32 S)
   let g:=(List.set f 4 T)
   gd (4<(f.length:Int)/\4<f.length) <|
   let U:=(wc .i64 (128*o))
   let V:=(wc .i64 (A+U))
   let W:=(wc .i32 V)
   let h:=(List.set g 5 W)
   gd (5<(g.length:Int)/\5<g.length) <|
   let X:=(wc .i64 (128*p))
   let Y:=(wc .i64 (B+X))
   let Z:=(wc .i32 Y)
   let i:=(List.set h 6 Z)
   gd (6<(h.length:Int)/\6<h.length) <|
   let aa:=(wc .i64 (128*q))
   let ab:=(wc .i64 (D+aa))
   let ad:=(wc .i32 ab)
   let ae:=(List.set i 7 ad)
   gd (7<(i.length:Int)/\7<i.length) <|
   some ae:Option ((List Int))).bind fun af=>
   some (af,0)
def wN.r1 (K:Nat) (_o:List Int) (_p:Int) (_q:List Int) (f:Int) (_s:List Int) (_t _u:Int) (d:List Int) (g:Int) (next:Int->List Int->Option ((List Int))) (a:Int) (b:List Int):Option ((List Int)):=
 let h:=(decide (a<g))
 bif h then
  let i:=(Kd.nth (.int .i32) d (Int.toNat a))
  gd ((0:Int)<=a/\a<(d.length:Int)) <|
  let j:=(wc .i64 i)
  let k:=(wc .i64 (j*(wc .i64 f)))
  (wK K k 16).bind fun l=>
  (qD K l).bind fun e=>
  let m:=(b++[e])
  gd (((b.length:Int)+([e].length:Int))*4<=70368744177664) <|
  let n:=(wc .i64 (a+1))
  next n m
 else
  some b
def wN.l1 (K:Nat) (a:List Int) (b:Int) (d:List Int) (e:Int) (f:List Int) (g h:Int) (i:List Int) (j:Int) (n:Nat):Int->List Int->Option ((List Int)):=wr (wN.r1 K a b d e f g h i j) (fun _ _=>none) n
def wN.r0 (K:Nat) (e:List Int) (i:Int) (b f:List Int) (j:Int) (next:Int->List Int->Option ((List Int))) (a:Int) (k:List Int):Option ((List Int)):=
 let m:=(decide (a<j))
 bif m then
  let n:=(Kd.nth (.int .i32) f (Int.toNat a))
  gd ((0:Int)<=a/\a<(f.length:Int)) <|
  let o:=(wc .i32 (i*n))
  (jH K o).bind fun (p,_t)=>
  let g:=(Kd.nth (.int .i64) b (Int.toNat a))
  gd ((0:Int)<=a/\a<(b.length:Int)) <|
  let d:=(wc .i64 (a+1))
  let h:=(Kd.nth (.int .i64) b (Int.toNat d))
  gd ((0:Int)<=d/\d<(b.length:Int)) <|
  let l:=((e.take (Int.toNat h)).drop (Int.toNat g))
  gd ((0:Int)<=g/\g<=h/\h<=(e.length:Int)) <|
  let q:=(l.length:Int)
  (wN.l1 K e i b p f j a l q K 0 k:Option ((List Int))).bind fun s=>
   next d s
 else
  some k
def wN.l0 (K:Nat) (a:List Int) (b:Int) (d e:List Int) (f:Int) (n:Nat):Int->List Int->Option ((List Int)):=wr (wN.r0 K a b d e f) (fun _ _=>none) n
def wN (K:Nat) (a:List Int) (f g h i j k l m n o:Int):Option ((Int) ⊕ ((List Int))):=
 (xn K (a.length:Int)).bind fun (p,b)=>
 bif (b != 0) then
  some (.inl b)
 else
  (xP K f g h i j k l m n).bind fun (d,e)=>
  bif (e != 0) then
   some (.inl e)
  else
   gd (0<=(a.length:Int)/\(a.length:Int)*4<=140737488355328) <|
   (wN.l0 K a o p d (d.length:Int) K 0 (List.replicate 0 (0:Int)):Option ((List Int))).bind fun q=>
    some (.inr q)
def zZ (K:Nat) (a:List Int) (b d e f g h i j k:Int):Option ((Int) ⊕ ((List Int))):=
 (wN K a b d e f g h i j k (-1)).bind fun z=>match z with
 | .inl l=>
  some (.inl l)
 | .inr m=>
  some (.inr m)
def wY.r0 (_K e:Nat) (b:Int) (d:List Int) (_t _u _w _y:Int) (next:Int->Int->Option (Int)) (a g:Int):Option (Int):=
 let i:=(decide (a<((e:Nat):Int)))
 bif i then
  gd ((0:Int)<=a/\a<((e:Nat):Int)) <|
  let j:=(Kd.nth (.int .i32) d (Int.toNat a))
  gd ((Int.toNat a)<d.length) <|
  let k:=(kshr .i32 j b)
  gd ((0:Int)<=b) <|
  let l:=(wc .i64 k)
  let f:=(wc .i64 (a-4))
  let h:=(Int.toNat f)
  gd ((0:Int)<=f/\f<((e:Nat):Int)) <|
  let m:=(Kd.nth (.int .i32) d h)
  gd (h<d.length) <|
  let n:=(kshr .i32 m b)
  gd ((0:Int)<=b) <|
  let o:=(wc .i64 n)
  let p:=(wc .i64 (l*o))
  let q:=(wc .i64 (g+p))
  let s:=(wc .i64 (a+1))
  next s q
 else
  some g
def wY.l0 (K a:Nat) (b:Int) (d:List Int) (e f g h:Int) (n:Nat):Int->Int->Option (Int):=wr (wY.r0 K a b d e f g h) (fun _ _=>none) n
def wY.r1 (_K e:Nat) (b:Int) (d:List Int) (_t _u _w:Int) (next:Int->Int->Option (Int)) (a g:Int):Option (Int):=
 let i:=(decide (a<((e:Nat):Int)))
 bif i then
  gd ((0:Int)<=a/\a<((e:Nat):Int)) <|
  let j:=(Kd.nth (.int .i32) d (Int.toNat a))
  gd ((Int.toNat a)<d.length) <|
  let k:=(kshr .i32 j b)
  gd ((0:Int)<=b) <|
  let l:=(wc .i64 k)
  let f:=(wc .i64 (a-3))
  let h:=(Int.toNat f)
  gd ((0:Int)<=f/\f<((e:Nat):Int)) <|
  let m:=(Kd.nth (.int .i32) d h)
  gd (h<d.length) <|
  let n:=(kshr .i32 m b)
  gd ((0:Int)<=b) <|
  let o:=(wc .i64 n)
  let p:=(wc .i64 (l*o))
  let q:=(wc .i64 (g+p))
  let s:=(wc .i64 (a+1))
  next s q
 else
  some g
def wY.l1 (K a:Nat) (b:Int) (d:List Int) (e f g:Int) (n:Nat):Int->Int->Option (Int):=wr (wY.r1 K a b d e f g) (fun _ _=>none) n
def wY.r2 (_K e:Nat) (b:Int) (d:List Int) (_t _u:Int) (next:Int->Int->Option (Int)) (a g:Int):Option (Int):=
 let i:=(decide (a<((e:Nat):Int)))
 bif i then
  gd ((0:Int)<=a/\a<((e:Nat):Int)) <|
  let j:=(Kd.nth (.int .i32) d (Int.toNat a))
  gd ((Int.toNat a)<d.length) <|
  let k:=(kshr .i32 j b)
  gd ((0:Int)<=b) <|
  let l:=(wc .i64 k)
  let f:=(wc .i64 (a-2))
  let h:=(Int.toNat f)
  gd ((0:Int)<=f/\f<((e:Nat):Int)) <|
  let m:=(Kd.nth (.int .i32) d h)
  gd (h<d.length) <|
  let n:=(kshr .i32 m b)
  gd ((0:Int)<=b) <|
  let o:=(wc .i64 n)
  let p:=(wc .i64 (l*o))
  let q:=(wc .i64 (g+p))
  let s:=(wc .i64 (a+1))
  next s q
 else
  some g
def wY.l2 (K a:Nat) (b:Int) (d:List Int) (e f:Int) (n:Nat):Int->Int->Option (Int):=wr (wY.r2 K a b d e f) (fun _ _=>none) n
def wY.r3 (_K e:Nat) (b:Int) (d:List Int) (_t:Int) (next:Int->Int->Option (Int)) (a g:Int):Option (Int):=
 let i:=(decide (a<((e:Nat):Int)))
 bif i then
  gd ((0:Int)<=a/\a<((e:Nat):Int)) <|
  let j:=(Kd.nth (.int .i32) d (Int.toNat a))
  gd ((Int.toNat a)<d.length) <|
  let k:=(kshr .i32 j b)
  gd ((0:Int)<=b) <|
  let l:=(wc .i64 k)
  let f:=(wc .i64 (a-1))
  let h:=(Int.toNat f)
  gd ((0:Int)<=f/\f<((e:Nat):Int)) <|
  let m:=(Kd.nth (.int .i32) d h)
  gd (h<d.length) <|
  let n:=(kshr .i32 m b)
  gd ((0:Int)<=b) <|
  let o:=(wc .i64 n)
  let p:=(wc .i64 (l*o))
  let q:=(wc .i64 (g+p))
  let s:=(wc .i64 (a+1))
  next s q
 else
  some g
def wY.l3 (K a:Nat) (b:Int) (d:List Int) (e:Int) (n:Nat):Int->Int->Option (Int):=wr (wY.r3 K a b d e) (fun _ _=>none) n
def wY.r4 (_K e:Nat) (b:Int) (d:List Int) (next:Int->Int->Option (Int)) (a g:Int):Option (Int):=
 let i:=(decide (a<((e:Nat):Int)))
 bif i then
  gd ((0:Int)<=a/\a<((e:Nat):Int)) <|
  let j:=(Kd.nth (.int .i32) d (Int.toNat a))
  gd ((Int.toNat a)<d.length) <|
  let k:=(kshr .i32 j b)
  gd ((0:Int)<=b) <|
  let l:=(wc .i64 k)
  let f:=(wc .i64 (a-0))
  let h:=(Int.toNat f)
  gd ((0:Int)<=f/\f<((e:Nat):Int)) <|
  let m:=(Kd.nth (.int .i32) d h)
  gd (h<d.length) <|
  let n:=(kshr .i32 m b)
  gd ((0:Int)<=b) <|
  let o:=(wc .i64 n)
  let p:=(wc .i64 (l*o))
  let q:=(wc .i64 (g+p))
  let s:=(wc .i64 (a+1))
  next s q
 else
  some g
def wY.l4 (K a:Nat) (b:Int) (d:List Int) (n:Nat):Int->Int->Option (Int):=wr (wY.r4 K a b d) (fun _ _=>none) n
def wY.r5 (_K f:Nat) (g:Int) (b:List Int) (next:Int->Int->Option (Int)) (d a:Int):Option (Int):=
 let h:=(decide (a<g))
 bif h then
  let i:=(Kd.nth (.int .i32) b (Int.toNat a))
  gd ((0:Int)<=a/\a<((f:Nat):Int)/\(Int.toNat a)<b.length) <|
  let e:=(wc .i64 i)
  let j:=(wc .i64 (0-e))
  let k:=(imax (imax d e) j)
  let l:=(wc .i64 (a+1))
  next k l
 else
  some d
def wY.l5 (K a:Nat) (b:Int) (d:List Int) (n:Nat):Int->Int->Option (Int):=wr (wY.r5 K a b d) (fun _ _=>none) n
def wY (K a:Nat) (b:List Int):Option (Int × Int × Int × Int × Int):=
 (wY.l5 K a ((a:Nat):Int) b K 0 0:Option (Int)).bind fun i=>
  (kU K (wc .u64 i)).bind fun j=>
  let d:=(wc .i64 (j-15))
  (
   (wY.l4 K a (imax d 0) b K 0 0:Option (Int)).bind fun e=>
    (wY.l3 K a (imax d 0) b e K 1 0:Option (Int)).bind fun f=>
     (wY.l2 K a (imax d 0) b e f K 2 0:Option (Int)).bind fun g=>
      (wY.l1 K a (imax d 0) b e f g K 3 0:Option (Int)).bind fun h=>
       (wY.l0 K a (imax d 0) b e f g h K 4 0:Option (Int)).bind fun k=>
        some (e,f,g,h,k):Option (Int × Int × Int × Int × Int)).bind fun (l,m,n,o,p)=>
   some (l,m,n,o,p)
def zq (_K:Nat) (a:List Int):Option ((List Int)):=
 gd (a≠[]) <|
 let b:=(([]:List Int)++a)
 gd (((([]:List Int).length:Int)+(a.length:Int))*8<=70368744177664) <|
 some b
def kQ (K:Nat) (a:Int):Option (Int):=
 let b:=(wc .i64 (a-8))
 (xM K b 34).bind fun (d,_e)=>
 some d
def kW (K:Nat) (b d:Int):Option (Int):=
 (kQ K b).bind fun e=>
 let a:=(wc .i64 (d-(wc .i64 e)))
 let f:=(wc .i64 (0-a))
 some (imax a f)
def zT.r0 (K:Nat) (d:Int) (next:Int->Int->Option (Int)) (b a:Int):Option (Int):=
 let e:=(decide (a<17))
 bif e then
  (
   (kW K a d).bind fun f=>
   (kW K b d).bind fun g=>
   let h:=(decide (f<g))
   bif h then
    some a
   else
    some b:Option (Int)).bind fun i=>
   let j:=(wc .i64 (a+1))
   next i j
 else
  some b
def zT.l0 (K:Nat) (a:Int) (n:Nat):Int->Int->Option (Int):=wr (zT.r0 K a) (fun _ _=>none) n
def zT (K:Nat) (a:Int):Option (Int):=
 (zT.l0 K a K 0 0:Option (Int)).bind fun b=>
  some b
def z5.r0 (K:Nat) (_D:(Int × (Int × (Int × (Int × Int))))) (g h:Nat) (i j:Int) (_E:List Int) (_F _G _H _I:Int) (next:Int->List Int->List Int->Option ((List Int) × (List Int))) (a:Int) (b d:List Int):Option ((List Int) × (List Int)):=
 let k:=(decide (a<j))
 bif k then
  let l:=(Kd.nth (.int .i64) b (Int.toNat a))
  gd ((0:Int)<=a/\a<((g:Nat):Int)/\(Int.toNat a)<b.length) <|
  let e:=(wc .i64 (a+1))
  let m:=(decide (e<j))
  (
   bif m then
    let f:=(Int.toNat e)
    gd ((0:Int)<=e/\e<((g:Nat):Int)) <|
    let n:=(Kd.nth (.int .i64) b f)
    gd (f<b.length) <|
    gd ((0:Int)<=e/\e<((h:Nat):Int)) <|
    let o:=(Kd.nth (.int .i64) d f)
    gd (f<d.length) <|
    let p:=(wc .i64 (i*o))
    (wK K p 15).bind fun q=>
    let s:=(wc .i64 (n+q))
    gd ((0:Int)<=a/\a<((g:Nat):Int)) <|
    let t:=(List.set b (Int.toNat a) s)
    gd ((Int.toNat a)<b.length) <|
    some t
   else
    some b:Option ((List Int))).bind fun u=>
   gd ((0:Int)<=a/\a<((h:Nat):Int)) <|
   let w:=(Kd.nth (.int .i64) d (Int.toNat a))
   gd ((Int.toNat a)<d.length) <|
   let y:=(wc .i64 (i*l))
   (wK K y 15).bind fun z=>
   let A:=(wc .i64 (w+z))
   gd ((0:Int)<=a/\a<((h:Nat):Int)) <|
   let B:=(List.set d (Int.toNat a) A)
   gd ((Int.toNat a)<d.length) <|
   next e u B
 else
  some (b,d)
def z5.l0 (K:Nat) (a:(Int × (Int × (Int × (Int × Int))))) (b d:Nat) (e f:Int) (g:List Int) (h i j k:Int) (n:Nat):Int->List Int->List Int->Option ((List Int) × (List Int)):=wr (z5.r0 K a b d e f g h i j k) (fun _ _ _=>none) n
def z5.r1 (K:Nat) (_D:(Int × (Int × (Int × (Int × Int))))) (g h:Nat) (i j:Int) (_E:List Int) (_F _G _H:Int) (next:Int->List Int->List Int->Option ((List Int) × (List Int))) (a:Int) (b d:List Int):Option ((List Int) × (List Int)):=
 let k:=(decide (a<j))
 bif k then
  let l:=(Kd.nth (.int .i64) b (Int.toNat a))
  gd ((0:Int)<=a/\a<((g:Nat):Int)/\(Int.toNat a)<b.length) <|
  let e:=(wc .i64 (a+1))
  let m:=(decide (e<j))
  (
   bif m then
    let f:=(Int.toNat e)
    gd ((0:Int)<=e/\e<((g:Nat):Int)) <|
    let n:=(Kd.nth (.int .i64) b f)
    gd (f<b.length) <|
    gd ((0:Int)<=e/\e<((h:Nat):Int)) <|
    let o:=(Kd.nth (.int .i64) d f)
    gd (f<d.length) <|
    let p:=(wc .i64 (i*o))
    (wK K p 15).bind fun q=>
    let s:=(wc .i64 (n+q))
    gd ((0:Int)<=a/\a<((g:Nat):Int)) <|
    let t:=(List.set b (Int.toNat a) s)
    gd ((Int.toNat a)<b.length) <|
    some t
   else
    some b:Option ((List Int))).bind fun u=>
   gd ((0:Int)<=a/\a<((h:Nat):Int)) <|
   let w:=(Kd.nth (.int .i64) d (Int.toNat a))
   gd ((Int.toNat a)<d.length) <|
   let y:=(wc .i64 (i*l))
   (wK K y 15).bind fun z=>
   let A:=(wc .i64 (w+z))
   gd ((0:Int)<=a/\a<((h:Nat):Int)) <|
   let B:=(List.set d (Int.toNat a) A)
   gd ((Int.toNat a)<d.length) <|
   next e u B
 else
  some (b,d)
def z5.l1 (K:Nat) (a:(Int × (Int × (Int × (Int × Int))))) (b d:Nat) (e f:Int) (g:List Int) (h i j:Int) (n:Nat):Int->List Int->List Int->Option ((List Int) × (List Int)):=wr (z5.r1 K a b d e f g h i j) (fun _ _ _=>none) n
def z5.r2 (K:Nat) (_D:(Int × (Int × (Int × (Int × Int))))) (g h:Nat) (i j:Int) (_E:List Int) (_F _G:Int) (next:Int->List Int->List Int->Option ((List Int) × (List Int))) (a:Int) (b d:List Int):Option ((List Int) × (List Int)):=
 let k:=(decide (a<j))
 bif k then
  let l:=(Kd.nth (.int .i64) b (Int.toNat a))
  gd ((0:Int)<=a/\a<((g:Nat):Int)/\(Int.toNat a)<b.length) <|
  let e:=(wc .i64 (a+1))
  let m:=(decide (e<j))
  (
   bif m then
    let f:=(Int.toNat e)
    gd ((0:Int)<=e/\e<((g:Nat):Int)) <|
    let n:=(Kd.nth (.int .i64) b f)
    gd (f<b.length) <|
    gd ((0:Int)<=e/\e<((h:Nat):Int)) <|
    let o:=(Kd.nth (.int .i64) d f)
    gd (f<d.length) <|
    let p:=(wc .i64 (i*o))
    (wK K p 15).bind fun q=>
    let s:=(wc .i64 (n+q))
    gd ((0:Int)<=a/\a<((g:Nat):Int)) <|
    let t:=(List.set b (Int.toNat a) s)
    gd ((Int.toNat a)<b.length) <|
    some t
   else
    some b:Option ((List Int))).bind fun u=>
   gd ((0:Int)<=a/\a<((h:Nat):Int)) <|
   let w:=(Kd.nth (.int .i64) d (Int.toNat a))
   gd ((Int.toNat a)<d.length) <|
   let y:=(wc .i64 (i*l))
   (wK K y 15).bind fun z=>
   let A:=(wc .i64 (w+z))
   gd ((0:Int)<=a/\a<((h:Nat):Int)) <|
   let B:=(List.set d (Int.toNat a) A)
   gd ((Int.toNat a)<d.length) <|
   next e u B
 else
  some (b,d)
def z5.l2 (K:Nat) (a:(Int × (Int × (Int × (Int × Int))))) (b d:Nat) (e f:Int) (g:List Int) (h i:Int) (n:Nat):Int->List Int->List Int->Option ((List Int) × (List Int)):=wr (z5.r2 K a b d e f g h i) (fun _ _ _=>none) n
def z5.r3 (K:Nat) (_A:(Int × (Int × (Int × (Int × Int))))) (g h:Int) (_B:List Int) (_D:Int) (next:Int->List Int->List Int->Option ((List Int) × (List Int))) (a:Int) (b d:List Int):Option ((List Int) × (List Int)):=
 let i:=(decide (a<h))
 bif i then
  let j:=(Kd.nth (.int .i64) b (Int.toNat a))
  gd ((0:Int)<=a/\a<(b.length:Int)/\(Int.toNat a)<b.length) <|
  let e:=(wc .i64 (a+1))
  let k:=(decide (e<(b.length:Int)))
  (
   bif k then
    let f:=(Int.toNat e)
    gd ((0:Int)<=e/\e<(b.length:Int)) <|
    let l:=(Kd.nth (.int .i64) b f)
    gd (f<b.length) <|
    gd ((0:Int)<=e/\e<(d.length:Int)) <|
    let m:=(Kd.nth (.int .i64) d f)
    gd (f<d.length) <|
    let n:=(wc .i64 (g*m))
    (wK K n 15).bind fun o=>
    let p:=(wc .i64 (l+o))
    gd ((0:Int)<=a/\a<(b.length:Int)) <|
    let q:=(List.set b (Int.toNat a) p)
    gd ((Int.toNat a)<b.length) <|
    some q
   else
    some b:Option ((List Int))).bind fun s=>
   gd ((0:Int)<=a/\a<(d.length:Int)) <|
   let t:=(Kd.nth (.int .i64) d (Int.toNat a))
   gd ((Int.toNat a)<d.length) <|
   let u:=(wc .i64 (g*j))
   (wK K u 15).bind fun w=>
   let y:=(wc .i64 (t+w))
   gd ((0:Int)<=a/\a<(d.length:Int)) <|
   let z:=(List.set d (Int.toNat a) y)
   gd ((Int.toNat a)<d.length) <|
   next e s z
 else
  some (b,d)
def z5.l3 (K:Nat) (a:(Int × (Int × (Int × (Int × Int))))) (b d:Int) (e:List Int) (f:Int) (n:Nat):Int->List Int->List Int->Option ((List Int) × (List Int)):=wr (z5.r3 K a b d e f) (fun _ _ _=>none) n
def z5 (K N:Nat) (o:List Int):Option (Int × Int × Int × Int × Int × Int):=
 let ae:=(decide (((N:Nat):Int)>120))
 bif ae then
  some (0,0,0,0,0,2)
 else
  (wY K N o).bind fun (a,b,d,e,f)=>
  let af:=(([(a,(b,(d,(e,f)))).1,(a,(b,(d,(e,f)))).2.1,(a,(b,(d,(e,f)))).2.2.1,(a,(b,(d,(e,f)))).2.2.2.1,(a,(b,(d,(e,f)))).2.2.2.2].take (Int.toNat 5)).drop (Int.toNat 1))
  (zq K af).bind fun p=>
  let ag:=(([(a,(b,(d,(e,f)))).1,(a,(b,(d,(e,f)))).2.1,(a,(b,(d,(e,f)))).2.2.1,(a,(b,(d,(e,f)))).2.2.2.1,(a,(b,(d,(e,f)))).2.2.2.2].take (Int.toNat 4)).drop (Int.toNat 0))
  (zq K ag).bind fun g=>
  (
   let F:=(Kd.nth (.int .i64) g 0)
   let ah:=(decide (F>0))
   gd (0<(g.length:Int)/\0<g.length) <|
   (
    bif ah then
     gd (0<(p.length:Int)) <|
     let ai:=(Kd.nth (.int .i64) p 0)
     gd (0<p.length) <|
     let aj:=(wc .i64 (0-ai))
     let ak:=(wc .i64 (aj*32768))
     gd (0<(g.length:Int)) <|
     gd (0<g.length) <|
     let al:=(wc .i64 (Int.tdiv ak F))
     gd (F≠0) <|
     (zc K al (-32767) 32767).bind fun am=>
     some am
    else
     some 0:Option (Int)).bind fun O=>
    (zT K O).bind fun q=>
    (z5.l3 K (a,(b,(d,(e,f)))) O (p.length:Int) o q K 0 p g:Option ((List Int) × (List Int))).bind fun (h,i)=>
     let j:=(wc .i64 ((h.length:Int)-1))
     let s:=(Int.toNat j)
     gd ((0:Int)<=j/\j<=(h.length:Int)/\h≠[]) <|
     let t:=(Int.toNat (imax j 1))
     gd ((0:Int)<=(imax j 1)/\(imax j 1)<=(i.length:Int)/\i≠[]) <|
     let G:=(Kd.nth (.int .i64) i 0)
     let an:=(decide (G>0))
     gd (0<((t:Nat):Int)/\0<i.length) <|
     (
      bif an then
       gd (0<((s:Nat):Int)) <|
       let ao:=(Kd.nth (.int .i64) h 0)
       gd (0<h.length) <|
       let ap:=(wc .i64 (0-ao))
       let aq:=(wc .i64 (ap*32768))
       gd (0<((t:Nat):Int)) <|
       gd (0<i.length) <|
       let au:=(wc .i64 (Int.tdiv aq G))
       gd (G≠0) <|
       (zc K au (-32767) 32767).bind fun aw=>
       some aw
      else
       some 0:Option (Int)).bind fun P=>
      (zT K P).bind fun E=>
      let Q:=((s:Nat):Int)
      (z5.l2 K (a,(b,(d,(e,f)))) s t P Q o q E K 0 h i:Option ((List Int) × (List Int))).bind fun (u,k)=>
       let l:=(wc .i64 (Q-1))
       let w:=(Int.toNat l)
       gd ((0:Int)<=l/\l<=((s:Nat):Int)/\s<=u.length/\u≠[]) <|
       let y:=(Int.toNat (imax l 1))
       gd ((0:Int)<=(imax l 1)/\(imax l 1)<=((t:Nat):Int)/\t<=k.length/\k≠[]) <|
       let H:=(Kd.nth (.int .i64) k 0)
       let ay:=(decide (H>0))
       gd (0<((y:Nat):Int)/\0<k.length) <|
       (
        bif ay then
         gd (0<((w:Nat):Int)) <|
         let az:=(Kd.nth (.int .i64) u 0)
         gd (0<u.length) <|
         let aA:=(wc .i64 (0-az))
         let aB:=(wc .i64 (aA*32768))
         gd (0<((y:Nat):Int)) <|
         gd (0<k.length) <|
         let aD:=(wc .i64 (Int.tdiv aB H))
         gd (H≠0) <|
         (zc K aD (-32767) 32767).bind fun aE=>
         some aE
        else
         some 0:Option (Int)).bind fun R=>
        (zT K R).bind fun I=>
        let S:=((w:Nat):Int)
        (z5.l1 K (a,(b,(d,(e,f)))) w y R S o q E I K 0 u k:Option ((List Int) × (List Int))).bind fun (z,m)=>
         let n:=(wc .i64 (S-1))
         let A:=(Int.toNat n)
         gd ((0:Int)<=n/\n<=((w:Nat):Int)/\w<=z.length/\z≠[]) <|
         let B:=(Int.toNat (imax n 1))
         gd ((0:Int)<=(imax n 1)/\(imax n 1)<=((y:Nat):Int)/\y<=m.length/\m≠[]) <|
         let J:=(Kd.nth (.int .i64) m 0)
         let aF:=(decide (J>0))
         gd (0<((B:Nat):Int)/\0<m.length) <|
         (
          bif aF then
           gd (0<((A:Nat):Int)) <|
           let aG:=(Kd.nth (.int .i64) z 0)
           gd (0<z.length) <|
           let aH:=(wc .i64 (0-aG))
           let aI:=(wc .i64 (aH*32768))
           gd (0<((B:Nat):Int)) <|
           gd (0<m.length) <|
           let aJ:=(wc .i64 (Int.tdiv aI J))
           gd (J≠0) <|
           (zc K aJ (-32767) 32767).bind fun aL=>
           some aL
          else
           some 0:Option (Int)).bind fun T=>
          (zT K T).bind fun U=>
          let V:=((A:Nat):Int)
          (z5.l0 K (a,(b,(d,(e,f)))) A B T V o q E I U K 0 z m:Option ((List Int) × (List Int))).bind fun (W,L)=>
           let D:=(wc .i64 (V-1))
           gd ((0:Int)<=D/\D<=((A:Nat):Int)/\A<=W.length/\W≠[]) <|
           let aM:=(Int.toNat (imax D 1))
           gd ((0:Int)<=(imax D 1)/\(imax D 1)<=((B:Nat):Int)/\B<=L.length/\L≠[]) <|
           some (aM,L,q,E,I,U):Option (Nat × (List Int) × Int × Int × Int × Int)).bind fun (aN,X,Y,Z,aa,ab)=>
   let ad:=(a,(b,(d,(e,f)))).1
   let M:=(decide (ad<=0))
   let aO:=(wc .i64 (2*ad))
   gd (((!M)=true->0<((aN:Nat):Int))) <|
   let aP:=(Kd.nth (.int .i64) X 0)
   gd (((!M)=true->0<X.length)) <|
   let aQ:=(wc .i64 (3*aP))
   let aR:=(decide (aO<aQ))
   let aS:=(bif M then true else aR)
   let aT:=((Y==8)&&((Z==8)&&((aa==8)&&(ab==8))))
   let aU:=(bif aS then true else aT)
   bif aU then
    some (0,0,0,0,0,0)
   else
    some (1,Y,Z,aa,ab,0)
def qb (_K a:Nat) (b:List Int):Option ((List Int)):=
 let d:=(([]:List Int)++(b.take a))
 gd (a<=b.length/\0<a/\((([]:List Int).length:Int)+((a:Nat):Int))*4<=70368744177664) <|
 some d
def ZD (K:Nat) (_n a b d e:Int):Option (Int × Int × Int × Int):=
 (
  (kQ K a).bind fun f=>
  (kQ K b).bind fun g=>
  (kQ K d).bind fun h=>
  (kQ K e).bind fun i=>
  some (f,g,h,i):Option (Int × Int × Int × Int)).bind fun (j,k,l,m)=>
  some (j,k,l,m)
def zQ (K:Nat) (a b:Int):Option (Int):=
 let d:=(wc .i64 ((wc .i64 a)*(wc .i64 b)))
 (wK K d 15).bind fun e=>
 (qD K e).bind fun f=>
 some f
def qX (K:Nat) (a b:Int):Option (Int):=
 let d:=(wc .i64 ((wc .i64 a)+(wc .i64 b)))
 (qD K d).bind fun e=>
 some e
def jz (K:Nat) (a b d e _A f g h i j k l m:Int):Option (Int × Int × Int):=
 (
  (zQ K a f).bind fun n=>
  (qX K j n).bind fun o=>
  (zQ K b g).bind fun p=>
  (qX K k p).bind fun q=>
  (zQ K d h).bind fun s=>
  (qX K l s).bind fun t=>
  (zQ K e i).bind fun u=>
  (qX K m u).bind fun _B=>
  some (o,q,t):Option (Int × Int × Int)).bind fun (w,y,z)=>
  some (w,y,z)
def j4 (K:Nat) (a b d e f g h i j:Int):Option (Int × Int × Int × Int):=
 (
  (zQ K g b).bind fun o=>
  (qX K a o).bind fun k=>
  (zQ K h d).bind fun p=>
  (qX K k p).bind fun l=>
  (zQ K i e).bind fun q=>
  (qX K l q).bind fun m=>
  (zQ K j f).bind fun s=>
  (qX K m s).bind fun t=>
  some (k,l,m,t):Option (Int × Int × Int × Int)).bind fun (u,w,y,n)=>
  (jz K a u w y n b d e f g h i j).bind fun (z,A,B)=>
  some (n,z,A,B)
def kC.r0 (K:Nat) (e:Int) (_w:List Int) (f g h i:Int) (next:Int->List Int->Int->Int->Int->Int->Option ((List Int))) (a:Int) (b:List Int) (j k l m:Int):Option ((List Int)):=
 let n:=(decide (a<e))
 bif n then
  let d:=(Kd.nth (.int .i32) b (Int.toNat a))
  gd ((0:Int)<=a/\a<(b.length:Int)/\(Int.toNat a)<b.length) <|
  (j4 K d f g h i j k l m).bind fun (o,p,q,s)=>
  let t:=(List.set b (Int.toNat a) o)
  gd ((0:Int)<=a/\a<(b.length:Int)/\(Int.toNat a)<b.length) <|
  let u:=(wc .i64 (a+1))
  next u t d p q s
 else
  some b
def kC.l0 (K:Nat) (a:Int) (b:List Int) (d e f g:Int) (n:Nat):Int->List Int->Int->Int->Int->Int->Option ((List Int)):=wr (kC.r0 K a b d e f g) (fun _ _ _ _ _ _=>none) n
def kC (K d:Nat) (a e f g h:Int) (i:List Int):Option ((List Int) × Int):=
 let k:=(decide (((d:Nat):Int)>120))
 bif k then
  some (([]:List Int),2)
 else
  (ke K a e f g h).bind fun j=>
  bif (j != 0) then
   some (([]:List Int),j)
  else
   (qb K d i).bind fun b=>
   bif (a==0) then
    some (b,0)
   else
    (ZD K a e f g h).bind fun (l,m,n,o)=>
    (kC.l0 K (b.length:Int) i l m n o K 0 b 0 0 0 0:Option ((List Int))).bind fun p=>
     some (p,0)
def Wc (K a:Nat) (b d e f g:Int) (h:List Int):Option ((List Int) × Int):=
 (kC K a b d e f g h).bind fun (i,j)=>
 some (i,j)
def qj (_K:Nat) (a:Int):Option (Int):=
 let b:=(wc .i64 (0-(wc .i64 a)))
 let d:=(imax (wc .i64 a) b)
 some d
def k9 (_K:Nat) (a b:Int):Option (Int):=
 let d:=(decide (b<0))
 bif d then
  some (wc .i64 (0-a))
 else
  some a
def qv.r0 (K:Nat) (d g:Int) (e:List Int) (next:Int->List Int->Option ((List Int))) (a:Int) (b:List Int):Option ((List Int)):=
 let h:=(decide (a<g))
 bif h then
  let f:=(Kd.nth (.int .i32) e (Int.toNat a))
  gd ((0:Int)<=a/\a<(e.length:Int)/\(Int.toNat a)<e.length) <|
  (qj K f).bind fun i=>
  let j:=(kshl .i64 i 16)
  let k:=(wc .i64 (3*d))
  let l:=(wc .i64 (Int.tdiv k 8))
  let m:=(wc .i64 (j+l))
  let n:=(wc .i64 (Int.tdiv m d))
  gd (d≠0) <|
  let o:=(imin n 32767)
  (k9 K o f).bind fun p=>
  let q:=(List.set b (Int.toNat a) p)
  gd ((0:Int)<=a/\a<(b.length:Int)/\(Int.toNat a)<b.length) <|
  let s:=(wc .i64 (a+1))
  next s q
 else
  some b
def qv.l0 (K:Nat) (a b:Int) (d:List Int) (n:Nat):Int->List Int->Option ((List Int)):=wr (qv.r0 K a b d) (fun _ _=>none) n
def qv (K:Nat) (d:Int) (a:List Int):Option ((List Int) × Int):=
 let e:=(decide ((a.length:Int)>120))
 bif e then
  some (([]:List Int),2)
 else
  (xK K d).bind fun (f,b)=>
  bif (b != 0) then
   some (([]:List Int),b)
  else
   let g:=(List.replicate (Int.toNat (a.length:Int)) (0:Int))
   gd ((0:Int)<=(a.length:Int)/\(a.length:Int)<=(a.length:Int)/\(a.length:Int)*8<=140737488355328) <|
   (qv.l0 K (wc .i64 f) (a.length:Int) a K 0 g:Option ((List Int))).bind fun h=>
    some (h,0)
def wZ.r0 (_K:Nat) (e f g h _l _m _n _o _p _q _s _t _u _w _y _z _A _B _D:Int) (_E:List Int) (next:Int->List ((Int × Int))->Option ((List ((Int × Int))))) (a:Int) (b:List ((Int × Int))):Option ((List ((Int × Int)))):=
 let i:=(decide (a<4))
 bif i then
  let d:=(List.getD [e,f,g,h] (Int.toNat a) 0)
  gd ((0:Int)<=a/\a<4) <|
  let j:=(b++[(d,5)])
  gd (((b.length:Int)+([(d,5)].length:Int))*16<=70368744177664) <|
  let k:=(wc .i64 (a+1))
  next k j
 else
  some b
def wZ.l0 (K:Nat) (a b d e f g h i j k l m o p q s t u w:Int) (y:List Int) (n:Nat):Int->List ((Int × Int))->Option ((List ((Int × Int)))):=wr (wZ.r0 K a b d e f g h i j k l m o p q s t u w y) (fun _ _=>none) n
def wZ.r1 (_K:Nat) (e f g h i j k l _q _s _t _u _w _y _z _A _B _D _E:Int) (_F:List Int) (next:Int->List ((Int × Int))->Option ((List ((Int × Int))))) (a:Int) (b:List ((Int × Int))):Option ((List ((Int × Int)))):=
 let m:=(decide (a<8))
 bif m then
  let n:=(List.getD [e,f,g,h,i,j,k,l] (Int.toNat a) 0)
  gd ((0:Int)<=a/\a<8) <|
  let d:=(wc .i64 (n+4))
  let o:=(b++[(d,3)])
  gd (((b.length:Int)+([(d,3)].length:Int))*16<=70368744177664) <|
  let p:=(wc .i64 (a+1))
  next p o
 else
  some b
def wZ.l1 (K:Nat) (a b d e f g h i j k l m o p q s t u w:Int) (y:List Int) (n:Nat):Int->List ((Int × Int))->Option ((List ((Int × Int)))):=wr (wZ.r1 K a b d e f g h i j k l m o p q s t u w y) (fun _ _=>none) n
def wZ (K:Nat) (d e k l m n o p q s a t u w y f b g h:Int) (i:List Int):Option ((List ((Int × Int)))):=
 let G:=[(d,2),(e,4)]
 (wZ.l1 K k l m n o p q s d e a t u w y f b g h i K 0 G:Option ((List ((Int × Int))))).bind fun z=>
  let A:=(z++[(a,1)])
  gd (((z.length:Int)+([(a,1)].length:Int))*16<=70368744177664) <|
  (
   bif (a==1) then
    (wZ.l0 K t u w y d e k l m n o p q s a f b g h i K 0 A:Option ((List ((Int × Int))))).bind fun H=>
     some H
   else
    some A:Option ((List ((Int × Int))))).bind fun B=>
   let j:=(B++[(b,2)])
   gd (((B.length:Int)+([(b,2)].length:Int))*16<=70368744177664) <|
   let I:=(decide (b>0))
   (
    bif I then
     let D:=(wc .i64 (f-16))
     let J:=(j++[(D,6)])
     gd (((j.length:Int)+([(D,6)].length:Int))*16<=70368744177664) <|
     some J
    else
     some j:Option ((List ((Int × Int))))).bind fun E=>
    (zd K i).bind fun L=>
    let F:=[(g,8),(h,3),(L,7)]
    gd (((E.length:Int)+(F.length:Int))*16<=70368744177664) <|
    some (E++F)
def jb (K:Nat) (_e _f _g _h _i _j _k _l _m _n _o _p _q _s _t _u _w _y _z:Int) (a:List Int):Option ((List Int)):=
 (zd K a).bind fun b=>
 let d:=((a.take (Int.toNat b)).drop (Int.toNat 0))
 gd (0<=b/\b<=(a.length:Int)) <|
 some d
def zl.r0 (_K:Nat) (b:List ((Int × Int))) (e _j _k _l _m _n _o _p _q _s _t _u _w _y _z _A _B _D _E _F:Int) (_G:List Int) (next:Int->Int->Option (Int)) (d a:Int):Option (Int):=
 let f:=(decide (a<e))
 bif f then
  let g:=(Kd.nth (.pair (.int .i64) (.int .i64)) b (Int.toNat a))
  gd ((0:Int)<=a/\a<(b.length:Int)) <|
  let h:=(wc .i64 (d-g.2))
  let i:=(wc .i64 (a+1))
  next h i
 else
  some d
def zl.l0 (K:Nat) (a:List ((Int × Int))) (b d e f g h i j k l m o p q s t u w y z:Int) (A:List Int) (n:Nat):Int->Int->Option (Int):=wr (zl.r0 K a b d e f g h i j k l m o p q s t u w y z A) (fun _ _=>none) n
def zl (K:Nat) (_G _H _I _J _L _M _N _O _P z a b d e f g h i j k l m n o p q s t u:Int) (w:List Int):Option (Int):=
 let A:=(wc .i64 (8*z))
 (wZ K a b d e f g h i j k l m n o p q s t u w).bind fun y=>
 (zl.l0 K y (y.length:Int) a b d e f g h i j k l m n o p q s t u w K A 0:Option (Int)).bind fun B=>
  (jb K a b d e f g h i j k l m n o p q s t u w).bind fun D=>
  (jB K D).bind fun (E,_Q)=>
  let F:=(wc .i64 (B-E))
  some F
def ql (K:Nat) (a d e f g h i j k l m n o p q s t u _N w:Int) (_O:List Int) (y z A B D E F G H I:Int) (J:List Int):Option (Bool × (List Int)):=
 (qv K a J).bind fun (b,_P)=>
 (zl K y z A B D E F G H I d e f g h i j k l m n o p q s t u a w b).bind fun L=>
 let M:=(decide (L>=0))
 some (M,b)
def qI.r0 (K:Nat) (g h i j k l m n o p q s t u w y z A B D E F G H I J L M:Int) (N:List Int) (next:Int->Int->List Int->Option (Int × Int × (List Int))) (a b:Int) (d:List Int):Option (Int × Int × (List Int)):=
 (
  let O:=(decide (a<240))
  bif O then
   (ql K a g h i j k l m n o p q s t u w y z b A d B D E F G H I J L M N).bind fun (P,Q)=>
   some (((!P),a,Q))
  else
   some (false,b,d):Option (Bool × Int × (List Int))).bind fun (R,e,f)=>
  bif R then
   let S:=(wc .i64 (a+1))
   next S e f
  else
   some (a,e,f)
def qI.l0 (K:Nat) (a b d e f g h i j k l m o p q s t u w y z A B D E F G H:Int) (I:List Int) (n:Nat):Int->Int->List Int->Option (Int × Int × (List Int)):=wr (qI.r0 K a b d e f g h i j k l m o p q s t u w y z A B D E F G H I) (fun _ _ _=>none) n
def qI.r1 (K:Nat) (h i j k l m n o p q s t u w y z A B D E F G H I J L M N:Int) (O:List Int) (next:Int->Int->Int->List Int->Option (Int × Int × (List Int))) (b d e:Int) (f:List Int):Option (Int × Int × (List Int)):=
 let P:=(decide (b<d))
 bif P then
  let Q:=(wc .i64 (b+d))
  let a:=(wc .i64 (Int.tdiv Q 2))
  (ql K a h i j k l m n o p q s t u w y z A e B f D E F G H I J L M N O).bind fun (R,g)=>
  bif R then
   next b a a g
  else
   let S:=(wc .i64 (a+1))
   next S d a g
 else
  some (b,e,f)
def qI.l1 (K:Nat) (a b d e f g h i j k l m o p q s t u w y z A B D E F G H:Int) (I:List Int) (n:Nat):Int->Int->Int->List Int->Option (Int × Int × (List Int)):=wr (qI.r1 K a b d e f g h i j k l m o p q s t u w y z A B D E F G H I) (fun _ _ _ _=>none) n
def qI (K:Nat) (a b d e f g h i j k l m n o p q s I t u w y z A B D E F G:Int) (H:List Int):Option (Int × Int × (List Int)):=
 (qI.l1 K a b d e f g h i j k l m n o p q s t u w y z A B D E F G H K 0 240 I ([]:List Int):Option (Int × Int × (List Int))).bind fun (J,L,M)=>
  (qI.l0 K a b d e f g h i j k l m n o p q s t u w y z A B D E F G H K J L M:Option (Int × Int × (List Int))).bind fun (N,O,P)=>
   some (N,O,P)
def kE.r0 (K:Nat) (h i:Int) (e:List Int) (j:Int) (d:List Int) (next:Int->List Int->Option ((List Int))) (a:Int) (b:List Int):Option ((List Int)):=
 let k:=(decide (a<j))
 bif k then
  (
   let f:=(Kd.nth (.int .i64) e (Int.toNat a))
   gd ((0:Int)<=a/\a<(e.length:Int)) <|
   let l:=((b.length:Int)==h)
   let m:=(bif (f==0) then true else l)
   bif m then
    some b
   else
    let n:=(Kd.nth (.int .i32) d (Int.toNat a))
    gd ((0:Int)<=a/\a<(d.length:Int)/\(Int.toNat a)<d.length) <|
    (qj K n).bind fun o=>
    let p:=(kshl .i64 o 16)
    (qP K f).bind fun q=>
    let s:=(wc .i64 (q*i))
    let t:=(decide (p>=s))
    (
     bif t then
      some 1
     else
      some 0:Option (Int)).bind fun g=>
     let u:=(b++[g])
     gd (((b.length:Int)+([g].length:Int))*8<=70368744177664) <|
     some u:Option ((List Int))).bind fun w=>
   let y:=(wc .i64 (a+1))
   next y w
 else
  some b
def kE.l0 (K:Nat) (a b:Int) (d:List Int) (e:Int) (f:List Int) (n:Nat):Int->List Int->Option ((List Int)):=wr (kE.r0 K a b d e f) (fun _ _=>none) n
def kE (K:Nat) (a:List Int) (g b:Int) (d:List Int):Option ((List Int) × Int):=
 (kP K (d.length:Int) a g).bind fun (h,e)=>
 let i:=(decide (b<0))
 let j:=(bif (e==0) then i else false)
 (
  bif j then
   some 1
  else
   some e:Option (Int)).bind fun f=>
  bif (f != 0) then
   some (([]:List Int),f)
  else
   (kE.l0 K b h a (a.length:Int) d K 0 ([]:List Int):Option ((List Int))).bind fun k=>
    some (k,0)
def kM.r0 (K g:Nat) (_s:Int) (e:List Int) (h:Int) (f:List Int) (next:Int->Int->Int->Option (Int × Int)) (b d a:Int):Option (Int × Int):=
 let i:=(decide (a<h))
 bif i then
  (
   let j:=(Kd.nth (.int .i64) e (Int.toNat a))
   gd ((0:Int)<=a/\a<(e.length:Int)) <|
   bif (j==0) then
    let k:=(Kd.nth (.int .i32) f (Int.toNat a))
    gd ((0:Int)<=a/\a<((g:Nat):Int)/\(Int.toNat a)<f.length) <|
    (qj K k).bind fun l=>
    let m:=(wc .i64 (b+l))
    let n:=(wc .i64 (d+1))
    some (m,n)
   else
    some (b,d):Option (Int × Int)).bind fun (o,p)=>
   let q:=(wc .i64 (a+1))
   next o p q
 else
  some (b,d)
def kM.l0 (K a:Nat) (b:Int) (d:List Int) (e:Int) (f:List Int) (n:Nat):Int->Int->Int->Option (Int × Int):=wr (kM.r0 K a b d e f) (fun _ _ _=>none) n
def kM (K d:Nat) (b:List Int) (g:Int) (h:List Int):Option (Int × Int):=
 (kP K ((d:Nat):Int) b g).bind fun (a,e)=>
 bif (e != 0) then
  some (0,e)
 else
  (kM.l0 K d a b (b.length:Int) h K 0 0 0:Option (Int × Int)).bind fun (i,f)=>
   let j:=(wc .i64 (Int.tdiv i (imax f 1)))
   gd ((imax f 1)≠0) <|
   let k:=(kshl .i64 j 20)
   let l:=(wc .i64 (Int.tdiv a 2))
   let m:=(wc .i64 (k+l))
   let n:=(wc .i64 (Int.tdiv m a))
   gd (a≠0) <|
   some ((imin n 7),0)
def kB (K:Nat) (D E F G H I J L b M:Int) (N:List Int) (g h:Int):Option (Int × Int × Int × Int × Int × Int × Int × Int × Int × Int × Int × Int × Int × Int × Int × Int × Int × Int × Int × (List Int) × (List Int) × Int):=
 (jf K D E F G H I J L b M).bind fun O=>
 bif (O != 0) then
  some (0,0,0,0,0,0,0,0,0,0,0,0,0,0,0,0,0,0,0,([]:List Int),([]:List Int),O)
 else
  (
   let Q:=((N.length:Int) != b)
   bif Q then
    some true
   else
    (qk K g h).bind fun R=>
    some (R != 0):Option (Bool)).bind fun S=>
   bif S then
    some (0,0,0,0,0,0,0,0,0,0,0,0,0,0,0,0,0,0,0,([]:List Int),([]:List Int),1)
   else
    (jm K N).bind fun (e,_ae)=>
    (j7 K b e).bind fun (a,_af)=>
    (xZ K N e).bind fun (P,_ag)=>
    (kF K P).bind fun (i,j,k,l,m,n,o,p,q,_ah)=>
    (zZ K P i j k l m n o p q).bind fun z=>match z with
    | .inl _ai=>
     none
    | .inr d=>
     gd ((0:Int)<=a/\a<=(d.length:Int)/\d≠[]) <|
     (z5 K (Int.toNat a) d).bind fun (s,t,u,w,y,_aj)=>
     gd ((0:Int)<=a/\a<=(d.length:Int)/\d≠[]) <|
     (Wc K (Int.toNat a) s t u w y d).bind fun (T,_ak)=>
     let f:=(cpy 0 d T)
     (qI K e i j k l m n o p q s t u w y g h 0 0 D E F G H I J L b M f).bind fun (A,U,V)=>
     (ql K A e i j k l m n o p q s t u w y g h U 0 V D E F G H I J L b M f).bind fun (W,X)=>
     (
      bif (!W) then
       let Y:=(List.replicate (Int.toNat b) (0:Int))
       gd ((0:Int)<=b/\b<=b/\b*8<=140737488355328) <|
       some Y
      else
       some X:Option ((List Int))).bind fun B=>
      (zl K D E F G H I J L b M e i j k l m n o p q s t u w y g h A 0 B).bind fun Z=>
      (kE K B A Z f).bind fun (aa,_al)=>
      gd ((0:Int)<=a/\a<=(f.length:Int)/\f≠[]) <|
      let ab:=((B.take (Int.toNat a)).drop (Int.toNat 0))
      gd (0<=a/\a<=(B.length:Int)) <|
      (kM K (Int.toNat a) ab A f).bind fun (ad,_am)=>
      some (e,i,j,k,l,m,n,o,p,q,s,t,u,w,y,g,h,A,ad,B,aa,0)
def zb.r0 (K:Nat) (d:List (List Int)) (y e f g h i j k l m n z:Int) (A B:List Int) (next:Int->List Int->List Int->List Int->Option (((List Int) × (List Int) × (List Int)) ⊕ ((List Int) × Int × (List Int) × (List Int)))) (a:Int) (o p b:List Int):Option (((List Int) × (List Int) × (List Int)) ⊕ ((List Int) × Int × (List Int) × (List Int))):=
 let D:=(decide (a<y))
 bif D then
  let q:=(Kd.nth (.slice (.int .i16)) d (Int.toNat a))
  gd ((0:Int)<=a/\a<(d.length:Int)) <|
  bif a==0 then
   (wG K q o).bind fun (E,F,_af,s)=>
   (wv K q z A B p).bind fun (G,_ag,t)=>
   (kB K e f g h i j k l m n G E F).bind fun (H,I,J,L,M,N,O,P,Q,R,S,T,U,V,W,X,Y,Z,aa,ab,ad,_ah)=>
   (zp K e f g h i j k l m n H I J L M N O P Q R S T U V W X Y Z aa ab ad).bind fun (u,w)=>
   bif (w != 0) then
    some (.inr (([]:List Int),w,s,t))
   else
    let ae:=(b++u)
    gd (((b.length:Int)+(u.length:Int))*1<=70368744177664) <|
    next 1 s t ae
  else
   none
 else
  some (.inl (o,p,b))
def zb.l0 (K:Nat) (a:List (List Int)) (b d e f g h i j k l m o:Int) (p q:List Int) (n:Nat):Int->List Int->List Int->List Int->Option (((List Int) × (List Int) × (List Int)) ⊕ ((List Int) × Int × (List Int) × (List Int))):=wr (zb.r0 K a b d e f g h i j k l m o p q) (fun _ _ _ _=>none) n
def zb (K:Nat) (b:List Int) (h i a j k l m n d o:Int) (e:List Int) (p:Int) (q s f:List Int):Option ((List Int) × Int × (List Int) × (List Int)):=
 let t:=(wc .i64 (a*d))
 let u:=((b.length:Int) != t)
 bif u then
  some (([]:List Int),1,e,f)
 else
  (jO K b a).bind fun (g,_B)=>
  (zb.l0 K g (g.length:Int) h i a j k l m n d o p q s K 0 e f ([]:List Int):Option (((List Int) × (List Int) × (List Int)) ⊕ ((List Int) × Int × (List Int) × (List Int)))).bind fun z=>match z with
  | .inl (w,y,A)=>
   some (A,0,w,y)
  | .inr r=>
   some r
def za.r0 (K:Nat) (t:List (List Int)) (G d e f g h i j k l m H:Int) (I J:List Int) (L:Int) (M N:List Int) (next:Int->List Int->List Int->List Int->List Int->List Int->Option (((List Int) × (List Int) × (List Int) × (List Int) × (List Int)) ⊕ ((List Int) × Int × (List Int) × (List Int) × (List Int) × (List Int)))) (a:Int) (n o p q b:List Int):Option (((List Int) × (List Int) × (List Int) × (List Int) × (List Int)) ⊕ ((List Int) × Int × (List Int) × (List Int) × (List Int) × (List Int))):=
 let O:=(decide (a<G))
 bif O then
  (
   let s:=(Kd.nth (.slice (.int .i16)) t (Int.toNat a))
   gd ((0:Int)<=a/\a<(t.length:Int)) <|
   bif a==0 then
    (wG K s n).bind fun (P,Q,_a2,u)=>
    (wv K s H I J p).bind fun (R,_a3,w)=>
    (kB K d e f g h i j k l m R P Q).bind fun (S,T,U,V,W,X,Y,Z,aa,ab,ad,ae,af,ag,ah,ai,aj,ak,al,am,an,_a4)=>
    (zp K d e f g h i j k l m S T U V W X Y Z aa ab ad ae af ag ah ai aj ak al am an).bind fun (y,A)=>
    bif (A != 0) then
     some (.inr (([]:List Int),A,u,o,w,q))
    else
     let ao:=(b++y)
     gd (((b.length:Int)+(y.length:Int))*1<=70368744177664) <|
     some (.inl (0,u,o,w,q,ao))
   else
    bif a==1 then
     (wG K s o).bind fun (ap,aq,_a5,B)=>
     (wv K s L M N q).bind fun (au,_a6,D)=>
     (kB K d e f g h i j k l m au ap aq).bind fun (aw,ay,az,aA,aB,aD,aE,aF,aG,aH,aI,aJ,aL,aM,aN,aO,aP,aQ,aR,aS,aT,_a7)=>
     (zp K d e f g h i j k l m aw ay az aA aB aD aE aF aG aH aI aJ aL aM aN aO aP aQ aR aS aT).bind fun (E,F)=>
     bif (F != 0) then
      some (.inr (([]:List Int),F,n,B,p,D))
     else
      let aU:=(b++E)
      gd (((b.length:Int)+(E.length:Int))*1<=70368744177664) <|
      some (.inl (1,n,B,p,D,aU))
    else
     none:Option ((Int × (List Int) × (List Int) × (List Int) × (List Int) × (List Int)) ⊕ ((List Int) × Int × (List Int) × (List Int) × (List Int) × (List Int)))).bind fun z=>match z with
  | .inl (aV,aW,aX,aY,aZ,a0)=>
   let a1:=(wc .i64 (aV+1))
   next a1 aW aX aY aZ a0
  | .inr r=>
   some (.inr r)
 else
  some (.inl (n,o,p,q,b))
def za.l0 (K:Nat) (a:List (List Int)) (b d e f g h i j k l m o:Int) (p q:List Int) (s:Int) (t u:List Int) (n:Nat):Int->List Int->List Int->List Int->List Int->List Int->Option (((List Int) × (List Int) × (List Int) × (List Int) × (List Int)) ⊕ ((List Int) × Int × (List Int) × (List Int) × (List Int) × (List Int))):=wr (za.r0 K a b d e f g h i j k l m o p q s t u) (fun _ _ _ _ _ _=>none) n
def za (K:Nat) (b:List Int) (j k a l m n o p d q:Int) (e:List Int) (s:Int) (t u f:List Int) (w:Int) (y A g h:List Int):Option ((List Int) × Int × (List Int) × (List Int) × (List Int) × (List Int)):=
 let B:=(wc .i64 (a*d))
 let D:=((b.length:Int) != B)
 bif D then
  some (([]:List Int),1,e,f,g,h)
 else
  (jO K b a).bind fun (i,_J)=>
  (za.l0 K i (i.length:Int) j k a l m n o p d q s t u w y A K 0 e f g h ([]:List Int):Option (((List Int) × (List Int) × (List Int) × (List Int) × (List Int)) ⊕ ((List Int) × Int × (List Int) × (List Int) × (List Int) × (List Int)))).bind fun z=>match z with
  | .inl (E,F,G,H,I)=>
   some (I,0,E,F,G,H)
  | .inr r=>
   some r
def qh (K:Nat)  : Option (Bool):=
 (vu K ).bind fun _=>
 (ww K ).bind fun _=>
 (wI K 2 0 1 0 0 0 0 0 40 20 (List.replicate 388 none) 0 0).bind fun z=>match z with
 | .inl o=>
  let p:=(bif (o != 0) then true else true)
  bif p then
   some false
  else
   (z7 K (List.replicate 40 (0:Int))).bind fun q=>
   (z7 K (List.replicate 41 (0:Int))).bind fun _ag=>
   (ww K ).bind fun _=>
   (qi K 2 0 1 0 0 0 0 0 40 20 q).bind fun (_ah,_ai,_aj,_ak,_al,_am,_an,_ao,_ap,_aq,_au,_aw,_ay,_az,_aA,_aB,_aD,_aE,_aF,_aG,_aH,_aI)=>
   some false
 | .inr (.inl (_aJ,_aL,_aM,s,d,e,f,t))=>
  (zb K (List.replicate 40 (0:Int)) 2 0 1 0 0 0 0 0 40 20 s d e f t).bind fun (a,u,w,y)=>
  (zb K (List.replicate 41 (0:Int)) 2 0 1 0 0 0 0 0 40 20 w d e f y).bind fun (_aN,A,_aO,_aP)=>
  (ww K ).bind fun _=>
  (qi K 2 0 1 0 0 0 0 0 40 20 a).bind fun (_aQ,_aR,_aS,_aT,_aU,_aV,_aW,_aX,_aY,_aZ,_a0,_a1,_a2,_a3,_a4,_a5,_a6,_a7,_a8,B,_a9,D)=>
  let E:=((a.length:Int)==20)
  let g:=(bif (u==0) then E else false)
  let F:=(Kd.nth (.int .u8) a 19)
  let G:=(bif g then (F==0) else false)
  let H:=(bif G then (A==1) else false)
  let I:=(bif H then (D==0) else false)
  let J:=((B.length:Int)==40)
  let L:=(bif I then J else false)
  gd ((g=true->19<(a.length:Int))) <|
  some L
 | .inr (.inr (_ba,_bb,_bd,M,h,i,j,N,k,l,m,O,P))=>
  (za K (List.replicate 40 (0:Int)) 2 0 2 0 0 0 0 0 40 20 M h i j N k l m O P).bind fun (b,Q,R,S,T,U)=>
  (za K (List.replicate 41 (0:Int)) 2 0 2 0 0 0 0 0 40 20 R h i j S k l m T U).bind fun (_be,V,_bf,_bg,_bh,_bi)=>
  (ww K ).bind fun _=>
  (qi K 2 0 1 0 0 0 0 0 40 20 b).bind fun (_bj,_bk,_bl,_bm,_bn,_bo,_bp,_bq,_bs,_bt,_bu,_bw,_bz,_bA,_bB,_bD,_bE,_bF,_bG,W,_bH,X)=>
  let Y:=((b.length:Int)==20)
  let n:=(bif (Q==0) then Y else false)
  let Z:=(Kd.nth (.int .u8) b 19)
  let aa:=(bif n then (Z==0) else false)
  let ab:=(bif aa then (V==1) else false)
  let ad:=(bif ab then (X==0) else false)
  let ae:=((W.length:Int)==40)
  let af:=(bif ad then ae else false)
  gd ((n=true->19<(b.length:Int))) <|
  some af
def jc (_K:Nat)  : Option (Unit):=
 some ()
def kY (_K:Nat)  : Option (Unit):=
 some ()
def jw (_K:Nat)  : Option ((List Int)):=
 some ([]:List Int)
def kh (_K:Nat) (_a:Bool):Option (Unit):=
 some ()
def kj (K:Nat) (a:Int):Option ((List Int)):=
 let b:=(decide (a>=1))
 let d:=(decide (a<=128))
 let e:=(bif b then d else false)
 (kh K e).bind fun _=>
 some ([]:List Int)
def kS (K:Nat) (a:Int):Option ((List Int) × Int):=
 (qy K ).bind fun _=>
 let b:=[(40,(60,(80,120))).1,(40,(60,(80,120))).2.1,(40,(60,(80,120))).2.2.1,(40,(60,(80,120))).2.2.2]
 (w5 K b a).bind fun d=>
 bif (!d) then
  some (([]:List Int),1)
 else
  let e:=(wc .i64 (Int.tdiv a 2))
  (kj K e).bind fun _f=>
  some (([]:List Int),3)
def ku (K:Nat) (a:Int):Option ((List Int)):=
 let b:=(decide (a>=4))
 let d:=(decide (a<=1024))
 let e:=(bif b then d else false)
 let f:=(Int.tmod a 4)
 let g:=(bif e then (f==0) else false)
 (kh K g).bind fun _=>
 some ([]:List Int)
def j5 (K:Nat) (a:Int):Option (Int × (List Int) × (List Int) × Int):=
 (kS K a).bind fun (d,b)=>
 bif (b != 0) then
  some (0,([]:List Int),([]:List Int),b)
 else
  let e:=(wc .i64 (8*a))
  (ku K e).bind fun f=>
  some (a,d,f,3)
def wB (K:Nat) (a:Int):Option ((Int) ⊕ (Int × (List Int) × (List Int) × (List Int))):=
 (j5 K a).bind fun (d,e,f,b)=>
 bif (b != 0) then
  some (.inl b)
 else
  let g:=(List.replicate (Int.toNat a) (0:Int))
  gd ((0:Int)<=a/\a<=a/\a*2<=140737488355328) <|
  some (.inr (d,e,f,g))
def wx (K:Nat) (h i b j k l m n a o:Int):Option ((Int) ⊕ ((List Int)) ⊕ ((List Int) × (List Int))):=
 (jf K h i b j k l m n a o).bind fun d=>
 bif (d != 0) then
  some (.inl d)
 else
  bif b==1 then
   (wB K a).bind fun z=>match z with
   | .inl e=>
    bif (e != 0) then
     some (.inl e)
    else
     (w3 K ).bind fun p=>
     some (.inr (.inl p))
   | .inr (_t,_u,_w,_y)=>
    none
  else
   bif b==2 then
    (wB K a).bind fun z=>match z with
    | .inl f=>
     bif (f != 0) then
      some (.inl f)
     else
      (w3 K ).bind fun q=>
      (wB K a).bind fun z=>match z with
      | .inl g=>
       bif (g != 0) then
        some (.inl g)
       else
        (w3 K ).bind fun s=>
        some (.inr (.inr (q,s)))
      | .inr (_A,_B,_D,_E)=>
       none
    | .inr (_F,_G,_H,_I)=>
     none
   else
    none
def wA (K:Nat) (a:Int):Option ((Int) ⊕ (Int × (List Int) × (List Int) × (List Int))):=
 (j5 K a).bind fun (d,e,f,b)=>
 bif (b != 0) then
  some (.inl b)
 else
  let g:=(List.replicate (Int.toNat a) (0:Int))
  gd ((0:Int)<=a/\a<=a/\a*4<=140737488355328) <|
  some (.inr (d,e,f,g))
def qQ (_K:Nat)  : Option ((List Int)):=
 some (List.replicate 79 (0:Int))
def wt (K:Nat) (h i b j k l m n a o:Int):Option ((Int) ⊕ ((List Int)) ⊕ ((List Int) × (List Int))):=
 (jf K h i b j k l m n a o).bind fun d=>
 bif (d != 0) then
  some (.inl d)
 else
  bif b==1 then
   (wA K a).bind fun z=>match z with
   | .inl e=>
    bif (e != 0) then
     some (.inl e)
    else
     (qQ K ).bind fun p=>
     some (.inr (.inl p))
   | .inr (_t,_u,_w,_y)=>
    none
  else
   bif b==2 then
    (wA K a).bind fun z=>match z with
    | .inl f=>
     bif (f != 0) then
      some (.inl f)
     else
      (qQ K ).bind fun q=>
      (wA K a).bind fun z=>match z with
      | .inl g=>
       bif (g != 0) then
        some (.inl g)
       else
        (qQ K ).bind fun s=>
        some (.inr (.inr (q,s)))
      | .inr (_A,_B,_D,_E)=>
       none
    | .inr (_F,_G,_H,_I)=>
     none
   else
    none
def psalterylaw21_LapNil (K:Nat) (b:List Int):Option (Bool):=
 (qh K ).bind fun d=>
 bif (!d) then
  some false
 else
  (jc K ).bind fun _=>
  (kY K ).bind fun _=>
  (z7 K b).bind fun _i=>
  (jw K ).bind fun _j=>
  (ww K ).bind fun _=>
  (wx K 2 0 1 0 0 0 0 0 40 20).bind fun z=>match z with
  | .inl a=>
   (ww K ).bind fun _=>
   (wt K 2 0 1 0 0 0 0 0 40 20).bind fun z=>match z with
   | .inl e=>
    let f:=(bif (a==3) then (e==3) else false)
    some f
   | .inr (.inl _k)=>
    let g:=(bif (a==3) then false else false)
    some g
   | .inr (.inr (_l,_m))=>
    let h:=(bif (a==3) then false else false)
    some h
  | .inr (.inl _n)=>
   (ww K ).bind fun _=>
   (wt K 2 0 1 0 0 0 0 0 40 20).bind fun z=>match z with
   | .inl _o=>
    some false
   | .inr (.inl _p)=>
    some false
   | .inr (.inr (_q,_s))=>
    some false
  | .inr (.inr (_t,_u))=>
   (ww K ).bind fun _=>
   (wt K 2 0 1 0 0 0 0 0 40 20).bind fun z=>match z with
   | .inl _w=>
    some false
   | .inr (.inl _y)=>
    some false
   | .inr (.inr (_A,_B))=>
    some false
end Go.Fo
