/- The functions of Go that are reached, as functions of plain values. -/
import Derived.Test.YtllmmohdmmneoaaGreatJ4
namespace Go.Fo
def KS:ByteArray := ⟨#[0, 1, 2, 2, 3, 3, 3, 3, 4, 4, 4, 4, 4, 4, 4, 4, 5, 5, 5, 5, 5, 5, 5, 5, 5, 5, 5, 5, 5, 5, 5, 5, 6, 6, 6, 6, 6, 6, 6, 6, 6, 6, 6, 6, 6, 6, 6, 6, 6, 6, 6, 6, 6, 6, 6, 6, 6, 6, 6, 6, 6, 6, 6, 6, 7, 7, 7, 7, 7, 7, 7, 7, 7, 7, 7, 7, 7, 7, 7, 7, 7, 7, 7, 7, 7, 7, 7, 7, 7, 7, 7, 7, 7, 7, 7, 7, 7, 7, 7, 7, 7, 7, 7, 7, 7, 7, 7, 7, 7, 7, 7, 7, 7, 7, 7, 7, 7, 7, 7, 7, 7, 7, 7, 7, 7, 7, 7, 7, 8, 8, 8, 8, 8, 8, 8, 8, 8, 8, 8, 8, 8, 8, 8, 8, 8, 8, 8, 8, 8, 8, 8, 8, 8, 8, 8, 8, 8, 8, 8, 8, 8, 8, 8, 8, 8, 8, 8, 8, 8, 8, 8, 8, 8, 8, 8, 8, 8, 8, 8, 8, 8, 8, 8, 8, 8, 8, 8, 8, 8, 8, 8, 8, 8, 8, 8, 8, 8, 8, 8, 8, 8, 8, 8, 8, 8, 8, 8, 8, 8, 8, 8, 8, 8, 8, 8, 8, 8, 8, 8, 8, 8, 8, 8, 8, 8, 8, 8, 8, 8, 8, 8, 8, 8, 8, 8, 8, 8, 8, 8, 8, 8, 8, 8, 8, 8, 8, 8, 8, 8, 8, 8, 8, 8, 8, 8, 8]⟩
def WT:Li := [0, 0, 0, 0, 0, 0, 0, 0, 192, 128, 64, 0, 0, -64, -128, -192, 384, 256, 128, 0, 0, -128, -256, -384, 512, 384, 192, 0, -64, -192, -320, -512, -192, -128, -64, 0, 0, 64, 128, 192, -384, -256, -128, 0, 0, 128, 256, 384, 256, 256, 0, 0, -128, -128, -128, -128, -128, -128, 256, 256, 0, 0, -128, -128, -192, -64, 64, 192, 192, 64, -64, -192, 192, 64, -64, -192, -192, -64, 64, 192, 512, 0, 0, -64, -64, -128, -128, -128, 0, 384, 128, 0, -64, -128, -128, -192, 0, 0, 320, 128, 0, -128, -128, -192, -64, -64, -64, 320, 128, 0, -128, -128, 128, 128, 128, 128, -128, -128, -128, -128, 256, 128, 128, 64, 0, -64, -192, -320]
def yx (_K:Nat):Option Unit:=
 some ()
def zY (_K:Nat)  : Option Unit:=
 some ()
def wQ (_K:Nat) (a b d:Int):Option Bool:=
 let e:=(decide (a>=b));let f:=(decide (a<=d));let g:=(bif e then f else false);some g
def zw.r0 (_K:Nat) (d:Bool) (e:Int) (b:List Bool) (next:Int->Option ((Unit)⊕(Int))) (a:Int):Option ((Unit)⊕(Int)):=
 let f:=(decide (a<e));bif f then
  let g:=(Kd.nth (.bool) b (Int.toNat a));gd ((0:Int)<=a/\a<(b.length:Int)/\(Int.toNat a)<b.length) <|bif (d==g) then
   some (.inr a)
  else
   let h:=(wb .i64 (a+1));next h
 else
  some (.inl ())
def zw.l0 (K:Nat) (a:Bool) (b:Int) (d:List Bool) (n:Nat):Int->Option ((Unit)⊕(Int)):=wA (zw.r0 K a b d) (fun _=>none) n
def zw (K:Nat) (b:Bool) (a:List Bool):Option Int:=
 (zw.l0 K b (a.length:Int) a K 0:Option ((Unit)⊕(Int))).bind fun z=>match z with
 | .inl _=>
  some (-1)
 | .inr r=>
  some r
def qR (K:Nat) (a:Bool) (b:List Bool):Option Bool:=
 (zw K a b).bind fun d=>
 let e:=(decide (d>=0));some e
def kQ (K:Nat) (a:List Bool):Option Bool:=
 (qR K false a).bind fun b=>
 some (!b)
def jm (_K:Nat)  : Option Unit:=
 some ()
def jk (K:Nat)  : Option Li:=
 (jm K ).bind fun _=>
 let a:=[(40,(60,(80,120))).1,(40,(60,(80,120))).2.1,(40,(60,(80,120))).2.2.1,(40,(60,(80,120))).2.2.2];some a
def zT.r0 (_K:Nat) (b:Li) (d e:Int) (next:Int->Option ((Unit)⊕(Int))) (a:Int):Option ((Unit)⊕(Int)):=
 let f:=(decide (a<e));bif f then
  let g:=(Kd.nth (.int .i64) b (Int.toNat a));gd ((0:Int)<=a/\a<(b.length:Int)) <|bif (d==g) then
   some (.inr a)
  else
   let h:=(wb .i64 (a+1));next h
 else
  some (.inl ())
def zT.l0 (K:Nat) (a:Li) (b d:Int) (n:Nat):Int->Option ((Unit)⊕(Int)):=wA (zT.r0 K a b d) (fun _=>none) n
def zT (K:Nat) (a:Li) (b:Int):Option Int:=
 (zT.l0 K a b (a.length:Int) K 0:Option ((Unit)⊕(Int))).bind fun z=>match z with
 | .inl _=>
  some (-1)
 | .inr r=>
  some r
def z9 (K:Nat) (a:Li) (b:Int):Option Bool:=
 (zT K a b).bind fun d=>
 let e:=(decide (d>=0));some e
def jS (K:Nat) (l n b d e f g h i j:Int):Option Bool:=
 (wQ K n 0 3).bind fun o=>
 (wQ K b 1 2).bind fun p=>
 (kQ K [o,p]).bind fun a=>
 bif (l==1) then
  (
   bif a then
    let m:=(bif (d==4) then true else (d==8));let k:=(Int.tmod e 4);bif (k==0) then
     (wQ K e 4 16).bind fun q=>
     let s:=(bif (k==0) then q else false);(wQ K f 0 1).bind fun t=>
     let u:=(wb .i64 (b-1));(wQ K g 0 u).bind fun w=>
     let y:=(wb .i64 (16*d));let z:=(wb .i64 (y*b));let A:=(imin z 250);(wQ K h 2 A).bind fun B=>
     let D:=(bif (i==0) then (j==0) else false);let E:=[m,s,t,w,B,D];(kQ K E).bind fun F=>
     let G:=(bif a then F else false);some G
    else
     let H:=(bif (k==0) then false else false);(wQ K f 0 1).bind fun I=>
     let J:=(wb .i64 (b-1));(wQ K g 0 J).bind fun L=>
     let M:=(wb .i64 (16*d));let N:=(wb .i64 (M*b));let O:=(imin N 250);(wQ K h 2 O).bind fun P=>
     let Q:=(bif (i==0) then (j==0) else false);let R:=[m,H,I,L,P,Q];(kQ K R).bind fun S=>
     let T:=(bif a then S else false);some T
   else
    let U:=(bif a then false else false);some U:Option Bool).bind fun V=>
   some V
 else
  bif (l==2) then
   (
    bif a then
     (jk K ).bind fun W=>
     (z9 K W i).bind fun X=>
     (wQ K j 20 120).bind fun Y=>
     let Z:=(bif (d==0) then (e==0) else false);let aa:=(bif Z then (f==0) else false);let ab:=(bif aa then (g==0) else false);let ad:=(bif ab then (h==0) else false);let ae:=[X,Y,ad];(kQ K ae).bind fun af=>
     let ag:=(bif a then af else false);some ag
    else
     let ah:=(bif a then false else false);some ah:Option Bool).bind fun ai=>
    some ai
  else
   some false
def yJ (_K:Nat) (b _q d a e _s f g _t h:Int):Option Int:=
 bif (b==2) then
  let i:=(wb .i64 (8*h));some i
 else
  let j:=(wb .i64 (f*a));let k:=(wb .i64 (32+j));let l:=(wb .i64 (4*a));let m:=(wb .i64 (l*d));let n:=(wb .i64 (k+m));let o:=(wb .i64 (e*g));let p:=(wb .i64 (n+o));some p
def xT (K:Nat) (a e b f g h i j k d:Int):Option Int:=
 bif (a==2) then
  let l:=(wb .i64 (d*b));some l
 else
  (yJ K a e b f g h i j k d).bind fun m=>
  let n:=(wb .i64 (m+7));let o:=(wb .i64 (Int.tdiv n 8));some o
def xM (K:Nat) (a b d e f g h i j k:Int):Option Int:=
 (
  (jS K a b d e f g h i j k).bind fun l=>
  bif (!l) then
   some true
  else
   (xT K a b d e f g h i j k).bind fun m=>
   let n:=(decide (m>512));some n:Option Bool).bind fun o=>
  bif o then
   some 110
  else
   some 0
def kj (K:Nat) (a b d e f g h i j k:Int):Option Int:=
 (xM K a b d e f g h i j k).bind fun l=>
 let m:=(bif (l != 0) then true else (a != 2));bif m then
  some 110
 else
  some 0
def zj (_K:Nat) (a:Bool) (_b:List (Option Li)) (_d _e:Int):Option ((Unit)⊕(Unit)):=
 bif (!a) then
  some (.inl ())
 else
  some (.inr ())
def qw (_K:Nat) (_a _b:List (Option Li)) (_d _e:Int):Option Unit:=
 some ()
def j5 (_K:Nat) (d a:Int):Option Int:=
 let b:=(Int.tmod d a);gd (a≠0) <|let e:=(decide (b<0));(
  bif e then
   let f:=(wb .i64 (b+a));some f
  else
   some b:Option Int).bind fun g=>
  some g
def yI (K:Nat) (f a:Int):Option (Int×Int):=
 (j5 K f a).bind fun g=>
 let b:=(wb .i64 (4*g));let d:=(wb .i64 (Int.tdiv b a));gd (a≠0) <|let e:=(Int.tmod b a);gd (a≠0) <|let h:=(kand .i64 d 1);(
  bif (h==1) then
   let i:=(wb .i64 (a-e));some i
  else
   some e:Option Int).bind fun j=>
  let k:=(kshl .u64 (wb .u64 j) 30);let l:=(wb .u64 (Int.tdiv k (wb .u64 a)));gd ((wb .u64 a)≠0) <|some (l,d)
def j6 (_K:Nat) (a b d:Int):Option Int:=
 let e:=(decide (a<b));bif e then
  some b
 else
  let f:=(decide (a>d));bif f then
   some d
  else
   some a
def wK (K:Nat) (b e:Int):Option Int:=
 (j6 K e 0 62).bind fun a=>
 bif (a==0) then
  some b
 else
  let f:=(kshr .i64 b a);gd ((0:Int)<=a) <|let d:=(wb .i64 (a-1));let g:=(kshr .i64 b d);gd ((0:Int)<=d) <|let h:=(kand .i64 g 1);let i:=(wb .i64 (f+h));some i
def qp (_K:Nat) (a b d:Int):Option Int:=
 let e:=(decide (a<b));bif e then
  some b
 else
  let f:=(decide (a>d));bif f then
   some d
  else
   some a
def z4 (K:Nat) (a b d:Int):Option Int:=
 (qp K a b d).bind fun e=>
 some e
def kX.r0 (_K:Nat) (_k _l d:Int) (next:Int->Int->Option Int) (b a:Int):Option Int:=
 let e:=(decide (a<4));bif e then
  let f:=(List.getD ([5026995,85569306,693598668,1686629713]:Li) (Int.toNat a) 0);gd ((0:Int)<=a/\a<4) <|let g:=(wb .u64 (b*d));let h:=(kshr .u64 g 30);let i:=(wb .u64 (f-h));let j:=(wb .i64 (a+1));next i j
 else
  some b
def kX.l0 (K:Nat) (a b d:Int) (n:Nat):Int->Int->Option Int:=wA (kX.r0 K a b d) (fun _ _=>none) n
def kX (K:Nat) (e f:Int):Option Int:=
 (yI K e f).bind fun (a,b)=>
 let g:=(wb .u64 (a*a));let h:=(kshr .u64 g 30);(kX.l0 K a b h K 172272 0:Option Int).bind fun i=>
  let j:=(wb .u64 (i*a));let k:=(kshr .u64 j 30);let l:=(wb .i64 k);(wK K l 15).bind fun m=>
  (z4 K m 0 32767).bind fun d=>
  let n:=(decide (b>=2));(
   bif n then
    some ((wb .i64 (0-d)))
   else
    some d:Option Int).bind fun o=>
   some (wb .i16 o)
def xE (K:Nat) (b a:Int):Option (Int×Int):=
 let d:=(decide (a<1));let e:=(decide (a>1048576));let f:=(bif d then true else e);bif f then
  some (0,1)
 else
  (kX K b a).bind fun g=>
  some (g,0)
def k9 (K:Nat) (a b:Int):Option Int:=
 let d:=(wb .i64 (2*a));let e:=(wb .i64 (d+1));let f:=(wb .i64 (8*b));(xE K e f).bind fun (g,_h)=>
 some g
def qv (_K:Nat) (a:Int) (b:List (Option Li)) (_f:Li) (d:List (Option Li)) (e _g:Int):Option Int:=
 gd (b.length+d.length=387) <|some (wb .i64 (e+a))
def qh.r0 (K:Nat) (d:Int) (_j _k:List (Option Li)) (_l _m _n e:Int) (next:Int->Li->Option Li) (a:Int) (b:Li):Option Li:=
 let f:=(decide (a<d));bif f then
  (k9 K a e).bind fun g=>
  gd ((0:Int)<=a/\a<(b.length:Int)) <|let h:=(List.set b (Int.toNat a) g);gd ((Int.toNat a)<b.length) <|let i:=(wb .i64 (a+1));next i h
 else
  some b
def qh.l0 (K:Nat) (a:Int) (b d:List (Option Li)) (e f g h:Int) (n:Nat):Int->Li->Option Li:=wA (qh.r0 K a b d e f g h) (fun _ _=>none) n
def qh (K:Nat) (b d:List (Option Li)) (e f a i:Int):Option (Li×Int):=
 let g:=(List.replicate (Int.toNat a) (0:Int));gd ((0:Int)<=a/\a<=a/\a*2<=140737488355328) <|let j:=(g.length:Int);(qh.l0 K j b d e f a i K 0 g:Option Li).bind fun h=>
  (qv K 1 b h d e f).bind fun k=>
  some (h,k)
def xb (K:Nat) (a b:List (Option Li)) (d e f g:Int):Option (Li×Int):=
 qh K a b d e f g
def yo (K:Nat) (a b:List (Option Li)) (d e f g:Int):Option (Li×Int):=
 (qw K a b d e).bind fun _=>
 (xb K a b d e f g).bind fun (h,i)=>
 some (h,i)
def zo (_K:Nat) (a:Int) (b:List (Option Li)) (_f:Li) (d:List (Option Li)) (_g e:Int):Option Int:=
 gd (b.length+d.length=387) <|some (wb .i64 (e+a))
def wO (_K:Nat) (a:Li):Option Li:=
 gd (a≠[]) <|let b:=(([]:Li)++a);gd (((([]:Li).length:Int)+(a.length:Int))*2<=70368744177664) <|some b
def xO (K:Nat) (t0 t1:List (Option Li)) (e f b g:Int):Option (Li×Li×Int×Int):=
 (yo K t0 t1 f b e g).bind fun (a,d)=>
 (zo K 1 t0 a t1 d b).bind fun h=>
 (wO K a).bind fun i=>
 some (i,a,d,h)
def qk (_K:Nat) (_a:List (Option Li)) (_b:Li) (_d:List (Option Li)) (_e _f:Int):Option Unit:=
 some ()
def j9 (K:Nat) (a:List (Option Li)) (b:Li) (d:List (Option Li)) (e f _g _h:Int):Option Unit:=
 (qk K a b d e f).bind fun _=>
 some ()
def xl (K:Nat) (t0 t1:List (Option Li)) (l:Li) (d a b e:Int):Option (Li×Int):=
 (j9 K t0 l t1 a b d e).bind fun _=>
 (zo K 1 t0 l t1 a b).bind fun f=>
 (wO K l).bind fun g=>
 some (g,f)
def qZ (K a:Nat) (e:Int) (b:List (Option Li)) (d f g:Int):Option (Li×(List (Option Li))×Int×Int):=
 gd (b.length=388/\a=a/4*4/\a/4<388) <|match b[a/4]? with
 | some none=>(xO K (b.take (a/4)) (b.drop ((a/4)+1)) e d f g).bind fun (q0',q1',q2',q3')=>some (q0',(b.take (a/4)++some q1'::b.drop ((a/4)+1)),q2',q3')
 | some (some l)=>(xl K (b.take (a/4)) (b.drop ((a/4)+1)) l e d f g).bind fun (q0',q1')=>some (q0',b,d,q1')
 | none=>none
def k7 (K:Nat) (a:Int) (b:List (Option Li)) (d e:Int):Option (Li×Int×(List (Option Li))×Int×Int):=
 let f:=(decide (a>=1));let g:=(decide (a<=128));let h:=(bif f then g else false);(zj K h b d e).bind fun z=>match z with
 | .inl _=>
  some (([]:Li),1,b,d,e)
 | .inr _=>
  let i:=(1028+(Int.toNat a)*4);gd ((0:Int)<=a/\a<129) <|(qZ K i a b d e a).bind fun (j,k,l,m)=>
  some (j,0,k,l,m)
def xz (_K:Nat) (a b:Int):Option (Int×Int):=
 let d:=(kand .u64 a 4294967295);let e:=(kshr .u64 a 32);let f:=(kand .u64 b 4294967295);let g:=(kshr .u64 b 32);let i:=(wb .u64 (d*f));let j:=(wb .u64 (e*f));let k:=(kshr .u64 i 32);let h:=(wb .u64 (j+k));let l:=(kand .u64 h 4294967295);let m:=(kshr .u64 h 32);let n:=(wb .u64 (d*g));let o:=(wb .u64 (l+n));let p:=(wb .u64 (e*g));let q:=(wb .u64 (p+m));let s:=(kshr .u64 o 32);let t:=(wb .u64 (q+s));let u:=(wb .u64 (a*b));some (t,u)
def xo (K:Nat) (a b:Int):Option (Int×Int):=
 (xz K a b).bind fun (d,e)=>
 some (d,e)
def w8.r0 (_K:Nat)  (next:Int->Li->Option Li) (a:Int) (b:Li):Option Li:=
 let d:=(decide (a<(b.length:Int)));bif d then
  gd ((0:Int)<=a/\a<(b.length:Int)) <|gd ((0:Int)<=a/\a<=(b.length:Int)/\b≠[]) <|let e:=(cpy (Int.toNat a) b (b.take (Int.toNat a)));gd ((Int.toNat a)<b.length/\(Int.toNat a)<=b.length) <|let f:=(wb .i64 (a+((min (b.take (Int.toNat a)).length (b.length-(Int.toNat a)):Nat):Int)));next f e
 else
  some b
def w8.l0 (K:Nat)  (n:Nat):Int->Li->Option Li:=wA (w8.r0 K) (fun _ _=>none) n
def w8 (K:Nat) (b:Li) (d:Int):Option Li:=
 let f:=(decide (d<0));bif f then
  none
 else
  let g:=(wb .u64 (b.length:Int));(xo K g (wb .u64 d)).bind fun (h,a)=>
  let i:=(decide (h>0));let j:=(decide (a>9223372036854775807));let k:=(bif i then true else j);bif k then
   none
  else
   let e:=(List.replicate (Int.toNat (wb .i64 a)) (0:Int));gd ((0:Int)<=(wb .i64 a)/\(wb .i64 a)<=(wb .i64 a)/\(wb .i64 a)*2<=140737488355328) <|let l:=(cpy 0 e b);let m:=((min b.length (e.length-0):Nat):Int);(w8.l0 K K m l:Option Li).bind fun n=>
    some n
def qn (_K:Nat) (a:Li):Option Li:=
 gd (a≠[]) <|let b:=(([]:Li)++a);gd (((([]:Li).length:Int)+(a.length:Int))*2<=70368744177664) <|some b
def wN.r0 (_K:Nat)  (next:Int->Int->Li->Option Li) (a b:Int) (d:Li):Option Li:=
 let f:=(decide (a<b));bif f then
  gd ((0:Int)<=b/\b<(d.length:Int)) <|let g:=(Kd.nth (.int .i16) d (Int.toNat b));gd ((Int.toNat b)<d.length) <|gd ((0:Int)<=a/\a<(d.length:Int)) <|let h:=(Kd.nth (.int .i16) d (Int.toNat a));gd ((Int.toNat a)<d.length) <|gd ((0:Int)<=a/\a<(d.length:Int)) <|let e:=(List.set d (Int.toNat a) g);gd ((Int.toNat a)<d.length) <|gd ((0:Int)<=b/\b<(e.length:Int)) <|let i:=(List.set e (Int.toNat b) h);gd ((Int.toNat b)<e.length) <|let j:=(wb .i64 (a+1));let k:=(wb .i64 (b-1));next j k i
 else
  some d
def wN.l0 (K:Nat)  (n:Nat):Int->Int->Li->Option Li:=wA (wN.r0 K) (fun _ _ _=>none) n
def wN (K:Nat) (a:Li):Option Li:=
 let b:=(wb .i64 ((a.length:Int)-1));(wN.l0 K K 0 b a:Option Li).bind fun d=>
  some d
def xr (K:Nat) (a:Int) (g:List (Option Li)) (h i:Int):Option (Li×Int×(List (Option Li))×Int×Int):=
 (jm K ).bind fun _=>
 let q:=[(40,(60,(80,120))).1,(40,(60,(80,120))).2.1,(40,(60,(80,120))).2.2.1,(40,(60,(80,120))).2.2.2];(z9 K q a).bind fun s=>
 bif (!s) then
  some (([]:Li),1,g,h,i)
 else
  let t:=(wb .i64 (Int.tdiv a 2));(k7 K t g h i).bind fun (d,j,k,l,m)=>
  bif (j != 0) then
   some (([]:Li),j,k,l,m)
  else
   let b:=(wb .i64 (Int.tdiv a 4));let n:=(wb .i64 (2*a));let e:=(List.replicate (Int.toNat b) (0:Int));gd ((0:Int)<=b/\b<=n/\n*2<=140737488355328) <|gd (((e.length:Int)+(d.length:Int))*2<=70368744177664) <|(w8 K ([32767]:Li) b).bind fun o=>
   let f:=((e++d)++o);gd ((((e++d).length:Int)+(o.length:Int))*2<=70368744177664) <|(qn K f).bind fun u=>
   (wN K u).bind fun p=>
   gd (((f.length:Int)+(p.length:Int))*2<=70368744177664) <|some ((f++p),0,k,l,m)
def ye (K:Nat) (b a:Int):Option (Int×Int):=
 let d:=(decide (a<1));let e:=(decide (a>1048576));let f:=(bif d then true else e);bif f then
  some (0,1)
 else
  (j5 K b a).bind fun g=>
  let h:=(wb .i64 (4*g));let i:=(wb .i64 (h+a));let j:=(wb .i64 (4*a));(kX K i j).bind fun k=>
  some (k,0)
def jl (K:Nat) (a b:Int):Option Int:=
 (ye K a b).bind fun (d,_e)=>
 some d
def z6.r0 (K:Nat) (d:Int) (_j _k:List (Option Li)) (_l _m _n e:Int) (next:Int->Li->Option Li) (a:Int) (b:Li):Option Li:=
 let f:=(decide (a<d));bif f then
  (jl K a e).bind fun g=>
  gd ((0:Int)<=a/\a<(b.length:Int)) <|let h:=(List.set b (Int.toNat a) g);gd ((Int.toNat a)<b.length) <|let i:=(wb .i64 (a+1));next i h
 else
  some b
def z6.l0 (K:Nat) (a:Int) (b d:List (Option Li)) (e f g h:Int) (n:Nat):Int->Li->Option Li:=wA (z6.r0 K a b d e f g h) (fun _ _=>none) n
def z6 (K:Nat) (b d:List (Option Li)) (e f a i:Int):Option (Li×Int):=
 let g:=(List.replicate (Int.toNat a) (0:Int));gd ((0:Int)<=a/\a<=a/\a*2<=140737488355328) <|let j:=(g.length:Int);(z6.l0 K j b d e f a i K 0 g:Option Li).bind fun h=>
  (qv K 1 b h d e f).bind fun k=>
  some (h,k)
def jy (K:Nat) (a b:List (Option Li)) (d e f g:Int):Option (Li×Int):=
 z6 K a b d e f g
def xR (K:Nat) (a b:List (Option Li)) (d e f g:Int):Option (Li×Int):=
 (qw K a b d e).bind fun _=>
 (jy K a b d e f g).bind fun (h,i)=>
 some (h,i)
def xg (K:Nat) (t0 t1:List (Option Li)) (e f b g:Int):Option (Li×Li×Int×Int):=
 (xR K t0 t1 f b e g).bind fun (a,d)=>
 (zo K 1 t0 a t1 d b).bind fun h=>
 (wO K a).bind fun i=>
 some (i,a,d,h)
def xa (K:Nat) (a:List (Option Li)) (b:Li) (d:List (Option Li)) (e f _g _h:Int):Option Unit:=
 (qk K a b d e f).bind fun _=>
 some ()
def xk (K:Nat) (t0 t1:List (Option Li)) (l:Li) (d a b e:Int):Option (Li×Int):=
 (xa K t0 l t1 a b d e).bind fun _=>
 (zo K 1 t0 l t1 a b).bind fun f=>
 (wO K l).bind fun g=>
 some (g,f)
def qW (K a:Nat) (e:Int) (b:List (Option Li)) (d f g:Int):Option (Li×(List (Option Li))×Int×Int):=
 gd (b.length=388/\a=a/4*4/\a/4<388) <|match b[a/4]? with
 | some none=>(xg K (b.take (a/4)) (b.drop ((a/4)+1)) e d f g).bind fun (q0',q1',q2',q3')=>some (q0',(b.take (a/4)++some q1'::b.drop ((a/4)+1)),q2',q3')
 | some (some l)=>(xk K (b.take (a/4)) (b.drop ((a/4)+1)) l e d f g).bind fun (q0',q1')=>some (q0',b,d,q1')
 | none=>none
def jn (K:Nat) (a:Int) (b:List (Option Li)) (d e:Int):Option (Li×Int×(List (Option Li))×Int×Int):=
 let g:=(decide (a>=4));let h:=(decide (a<=1024));let i:=(bif g then h else false);let j:=(Int.tmod a 4);let k:=(bif i then (j==0) else false);(zj K k b d e).bind fun z=>match z with
 | .inl _=>
  some (([]:Li),1,b,d,e)
 | .inr _=>
  let f:=(wb .i64 (Int.tdiv a 4));let l:=(0+(Int.toNat f)*4);gd ((0:Int)<=f/\f<257) <|(qW K l a b d e a).bind fun (m,n,o,p)=>
  some (m,0,n,o,p)
def xV (K:Nat) (a:Int) (g:List (Option Li)) (h i:Int):Option (Int×Li×Li×Int×(List (Option Li))×Int×Int):=
 (xr K a g h i).bind fun (j,b,d,e,f)=>
 bif (b != 0) then
  some (0,([]:Li),([]:Li),b,d,e,f)
 else
  let k:=(wb .i64 (8*a));(jn K k d e f).bind fun (l,m,n,o,p)=>
  some (a,j,l,m,n,o,p)
def wV (K:Nat) (a:Int) (g:List (Option Li)) (h i:Int):Option ((Int×(List (Option Li))×Int×Int)⊕((List (Option Li))×Int×Int×Int×Li×Li×Li)):=
 (xV K a g h i).bind fun (j,k,l,b,d,e,f)=>
 bif (b != 0) then
  some (.inl (b,d,e,f))
 else
  let m:=(List.replicate (Int.toNat a) (0:Int));gd ((0:Int)<=a/\a<=a/\a*2<=140737488355328) <|some (.inr (d,e,f,j,k,l,m))
def qN (_K:Nat)  : Option Li:=
 some (List.replicate 79 (0:Int))
def za (K:Nat) (h i b j k l m n a o:Int) (d:List (Option Li)) (e f:Int):Option ((Int)⊕((List (Option Li))×Int×Int×Li×Int×Li×Li×Li)⊕((List (Option Li))×Int×Int×Li×Int×Li×Li×Li×Int×Li×Li×Li×Li)):=
 (kj K h i b j k l m n a o).bind fun g=>
 bif (g != 0) then
  some (.inl g)
 else
  bif b==1 then
   (wV K a d e f).bind fun z=>match z with
   | .inl (_T,_U,_V,_W)=>
    none
   | .inr (p,q,s,t,u,w,y)=>
    (qN K ).bind fun A=>
    some (.inr (.inl (p,q,s,A,t,u,w,y)))
  else
   bif b==2 then
    (wV K a d e f).bind fun z=>match z with
    | .inl (_X,_Y,_Z,_aa)=>
     none
    | .inr (B,D,E,F,G,H,I)=>
     (qN K ).bind fun J=>
     (wV K a B D E).bind fun z=>match z with
     | .inl (_ab,_ad,_ae,_af)=>
      none
     | .inr (L,M,N,O,P,Q,R)=>
      (qN K ).bind fun S=>
      some (.inr (.inr (L,M,N,J,F,G,H,S,O,P,Q,I,R)))
   else
    none
def kM (_K:Nat) (_a:Li):Option Li:=
 some ([]:Li)
def yj (_K:Nat) (a:Li):Option Li:=
 gd (a≠[]) <|let b:=(([]:Li)++a);gd (((([]:Li).length:Int)+(a.length:Int))*1<=70368744177664) <|some b
def xH (K:Nat) (a:Li):Option Li:=
 let b:=(decide ((a.length:Int)>512));bif b then
  none
 else
  (yj K a).bind fun d=>
  some d
def j4 (_K:Nat) (a b d:Int) (_h:Li):Option Int:=
 let e:=(wb .i64 (8*a));let f:=(wb .i64 (e-b));let g:=(wb .i64 (f-d));some g
def jT (K:Nat) (a b d e:Int) (f:Li):Option Int:=
 let g:=(decide (a<0));let h:=(decide (a>32));let i:=(bif g then true else h);bif i then
  some 1
 else
  (j4 K b d e f).bind fun j=>
  let k:=(decide (a>j));bif k then
   some 50
  else
   some 0
def kL (_K:Nat) (d _j a:Int) (_k:Li):Option (Int×Int×Int):=
 let e:=(wb .i64 (a+1));let f:=(wb .i64 (d-1));let g:=(wb .i64 (Int.tdiv a 8));let h:=(wb .i64 (f-g));let b:=(Int.tmod a 8);let i:=(kshl .u8 1 b);gd ((0:Int)<=b) <|some (h,i,e)
def jA (_K:Nat) (a d _g _h:Int) (b:Li):Option Int:=
 let e:=(Kd.nth (.int .u8) b (Int.toNat a));let f:=(kand .u8 e d);gd ((0:Int)<=a/\a<(b.length:Int)) <|bif (f != 0) then
  some 1
 else
  some 0
def zX.r0 (K:Nat) (h d:Int) (b:Li) (next:Int->Int->Int->Option (Int×Int)) (e a f:Int):Option (Int×Int):=
 let i:=(decide (a<h));bif i then
  (kL K (b.length:Int) d f b).bind fun (j,k,g)=>
  (jA K j k d g b).bind fun l=>
  let m:=(kshl .u32 l a);gd ((0:Int)<=a) <|let n:=(kor .u32 e m);let o:=(wb .i64 (a+1));next n o g
 else
  some (e,f)
def zX.l0 (K:Nat) (a b:Int) (d:Li) (n:Nat):Int->Int->Int->Option (Int×Int):=wA (zX.r0 K a b d) (fun _ _ _=>none) n
def zX (K:Nat) (d e a:Int) (b:Li):Option (Int×Int×Int):=
 (jT K d (b.length:Int) e a b).bind fun f=>
 bif (f != 0) then
  some (0,f,a)
 else
  (zX.l0 K d e b K 0 0 a:Option (Int×Int)).bind fun (g,h)=>
   some (g,0,h)
def wj (K:Nat) (a b d:Int) (e:Li):Option (Int×Int):=
 (zX K a b d e).bind fun (f,_h,g)=>
 some ((wb .i64 f),g)
def kE (K:Nat) (a f g:Int) (b:Li):Option Int:=
 let h:=(decide (a<0));let d:=(wb .i64 (Int.tdiv a 8));let i:=(decide (d>=(b.length:Int)));let j:=(bif h then true else i);bif j then
  some 0
 else
  let e:=(Int.tmod a 8);let k:=(kshr .u8 128 e);gd ((0:Int)<=e) <|(jA K d k f g b).bind fun l=>
  some (wb .i64 l)
def qA (K:Nat) (_j _k b a _l d e:Int) (f:Li):Option (Int×Int):=
 let g:=(wb .i64 (b+a));(kE K g d e f).bind fun h=>
 let i:=(wb .i64 (a+1));some (h,i)
def zV.r0 (K:Nat) (e f:Int) (g:Li) (h:Int) (next:Int->Int->Int->Option (Int×Int)) (b d a:Int):Option (Int×Int):=
 let i:=(decide (b<16));bif i then
  let j:=(wb .i64 (2*a));(qA K 0 65535 h d a e f g).bind fun (k,l)=>
  let m:=(wb .i64 (j+k));let n:=(wb .i64 (b+1));next n l m
 else
  some (d,a)
def zV.l0 (K:Nat) (a b:Int) (d:Li) (e:Int) (n:Nat):Int->Int->Int->Option (Int×Int):=wA (zV.r0 K a b d e) (fun _ _ _=>none) n
def zV (K:Nat) (b d e:Int) (f:Li):Option (Int×Int×Int):=
 let a:=(imin (imax b 0) 4096);(zV.l0 K d e f a K 0 0 0:Option (Int×Int)).bind fun (g,h)=>
  some (a,g,h)
def j7 (_K:Nat) (a:Int):Option Li:=
 bif (a==0) then
  let b:=([700,180,60,25,12,7,5,4,3,2,2,1,1,1,1]:Li);some b
 else
  bif (a==1) then
   let d:=([380,330,140,65,32,18,11,7,5,4,3,2,2,1,2]:Li);some d
  else
   bif (a==2) then
    let e:=([200,280,210,120,70,42,26,17,12,8,6,4,3,2,6]:Li);some e
   else
    let f:=([90,140,150,140,115,90,70,52,40,30,22,16,12,9,40]:Li);some f
def qK (_K:Nat) (a:Int):Option Int:=
 let b:=(imax a (wb .i64 (0-a)));some b
def z8.r0 (_K:Nat) (e:Li) (f:Int) (next:Int->Int->Option ((Int)⊕(Int))) (b a:Int):Option ((Int)⊕(Int)):=
 let g:=(decide (a<f));bif g then
  let d:=(Kd.nth (.int .i64) e (Int.toNat a));gd ((0:Int)<=a/\a<(e.length:Int)) <|let h:=(decide (d<1));let i:=(wb .i64 (4096-b));let j:=(decide (d>i));let k:=(bif h then true else j);bif k then
   some (.inr 0)
  else
   let l:=(wb .i64 (b+d));let m:=(wb .i64 (a+1));next l m
 else
  some (.inl b)
def z8.l0 (K:Nat) (a:Li) (b:Int) (n:Nat):Int->Int->Option ((Int)⊕(Int)):=wA (z8.r0 K a b) (fun _ _=>none) n
def z8 (K:Nat) (a:Li):Option Int:=
 let b:=(decide ((a.length:Int)<2));let d:=(decide ((a.length:Int)>32));let e:=(bif b then true else d);bif e then
  some 0
 else
  (z8.l0 K a (a.length:Int) K 0 0:Option ((Int)⊕(Int))).bind fun z=>match z with
  | .inl f=>
   some f
  | .inr r=>
   some r
def qY (_K:Nat) (a b _f _g _h _i _j:Int) (_k:Li):Option Int:=
 let d:=(wb .i64 (b-a));let e:=(wb .i64 (d+1));some e
def qc.r0 (_K:Nat) (_j:Li) (_k _l:Int) (b:Li) (e _m _n _o _p _q _s _t:Int) (_u:Li) (next:Int->Int->Option Int) (d a:Int):Option Int:=
 let f:=(decide (a<e));bif f then
  let g:=(Kd.nth (.int .i64) b (Int.toNat a));gd ((0:Int)<=a/\a<(b.length:Int)) <|let h:=(wb .i64 (d+g));let i:=(wb .i64 (a+1));next h i
 else
  some d
def qc.l0 (K:Nat) (a:Li) (b d:Int) (e:Li) (f g h i j k l m:Int) (o:Li) (n:Nat):Int->Int->Option Int:=wA (qc.r0 K a b d e f g h i j k l m o) (fun _ _=>none) n
def qc (K:Nat) (b:Li) (a d e f g h i j k:Int) (l:Li):Option (Int×Int):=
 let m:=((b.take (Int.toNat a)).drop (Int.toNat 0));let p:=(m.length:Int);gd (0<=a/\a<=(b.length:Int)) <|(qc.l0 K b a d m p e f g h i j k l K 0 0:Option Int).bind fun n=>
  (qY K e f g h i j k l).bind fun o=>
  let q:=(Kd.nth (.int .i64) b (Int.toNat a));let s:=(wb .i64 (n+q));let t:=(wb .i64 (o*s));let u:=(wb .i64 (Int.tdiv t d));let w:=(wb .i64 (e+u));let y:=(wb .i64 (w-1));gd ((0:Int)<=a/\a<(b.length:Int)/\d≠0) <|let z:=(wb .i64 (o*n));let A:=(wb .i64 (Int.tdiv z d));let B:=(wb .i64 (e+A));gd (d≠0) <|some (B,y)
def qI (K:Nat) (b d e f g a h i:Int) (j:Li):Option (Int×Int):=
 let k:=(wb .i64 (a-b));let l:=(wb .i64 (2*k));(qA K d e f g a h i j).bind fun (m,n)=>
 let o:=(wb .i64 (l+m));some (n,o)
def zc.r0 (K:Nat) (g h i:Int) (j:Li) (next:Int->Int->Int->Int->Option (Int×Int×Int×Int)) (a b e f:Int):Option (Int×Int×Int×Int):=
 (
  let k:=(decide (b<32768));bif k then
   some (.inl 0)
  else
   let l:=(decide (a>=32768));bif l then
    some (.inl 32768)
   else
    let m:=(decide (a>=16384));let n:=(decide (b<49152));let o:=(bif m then n else false);bif o then
     some (.inl 16384)
    else
     some (.inr (a,b,e,f)):Option ((Int)⊕(Int×Int×Int×Int))).bind fun z=>match z with
 | .inl d=>
  (qI K d a b g e f h i j).bind fun (p,q)=>
  let s:=(wb .i64 (a-d));let t:=(wb .i64 (2*s));let u:=(wb .i64 (b-d));let w:=(wb .i64 (2*u));let y:=(wb .i64 (w+1));next t y p q
 | .inr r=>
  some (r)
def zc.l0 (K:Nat) (a b d:Int) (e:Li) (n:Nat):Int->Int->Int->Int->Option (Int×Int×Int×Int):=wA (zc.r0 K a b d e) (fun _ _ _ _=>none) n
def zc (K:Nat) (a b d e f g h:Int) (i:Li):Option (Int×Int×Int×Int):=
 (zc.l0 K d g h i K a b e f:Option (Int×Int×Int×Int)).bind fun r=>
  some r
def zb.r0 (_K:Nat) (b:Li) (_i _j _k _l _m _n _o _p:Int) (_q:Li) (next:Int->Int->Option Int) (d a:Int):Option Int:=
 let e:=(Kd.nth (.int .i64) b (Int.toNat a));let f:=(decide (d>=e));gd ((0:Int)<=a/\a<(b.length:Int)) <|bif f then
  let g:=(wb .i64 (d-e));gd ((0:Int)<=a/\a<(b.length:Int)) <|let h:=(wb .i64 (a+1));next g h
 else
  some a
def zb.l0 (K:Nat) (a:Li) (b d e f g h i j:Int) (k:Li) (n:Nat):Int->Int->Option Int:=wA (zb.r0 K a b d e f g h i j k) (fun _ _=>none) n
def zb (K:Nat) (k:Li) (b e f d a g h:Int) (i:Li):Option (Int×Int×Int×Int×Int×Int):=
 (z8 K k).bind fun j=>
 bif (j==0) then
  some (0,1,b,e,d,a)
 else
  let n:=(wb .i64 (a-b));let o:=(wb .i64 (n+1));let p:=(wb .i64 (o*j));let q:=(wb .i64 (p-1));(qY K b e f d a g h i).bind fun l=>
  let s:=(wb .i64 (Int.tdiv q l));gd (l≠0) <|(zb.l0 K k j b e f d a g h i K s 0:Option Int).bind fun m=>
   (qc K k m j b e f d a g h i).bind fun (t,u)=>
   (zc K t u f d a g h i).bind fun (w,y,z,A)=>
   some (m,0,w,y,z,A)
def ku (K:Nat) (a:Li) (_q b d e f g h i:Int) (j:Li):Option (Int×Int×Int×Int×Int×Int):=
 (zb K a b d e f g h i j).bind fun (k,l,m,n,o,p)=>
 some (k,l,m,n,o,p)
def jH (_K:Nat) (a:Int):Option Int:=
 let h:=(decide (a>=4294967296));(
  bif h then
   let i:=(kshr .u64 a 32);some (i,32)
  else
   some (a,0):Option (Int×Int)).bind fun (b,f)=>
  let j:=(decide (b>=65536));(
   bif j then
    let k:=(kshr .u64 b 16);let l:=(wb .i64 (f+16));some (k,l)
   else
    some (b,f):Option (Int×Int)).bind fun (d,g)=>
   let m:=(decide (d>=256));(
    bif m then
     let n:=(kshr .u64 d 8);let o:=(wb .i64 (g+8));some (n,o)
    else
     some (d,g):Option (Int×Int)).bind fun (e,p)=>
    let q:=(sbyte KS (Int.toNat (wb .u8 e)));let s:=(wb .i64 q);let t:=(wb .i64 (p+s));gd ((0:Int)<=(wb .u8 e)/\(wb .u8 e)<(KS.size:Int)) <|some t
def kY (K:Nat) (a:Int):Option Int:=
 (jH K a).bind fun b=>
 some b
def qC (_K:Nat)  : Option Li:=
 let a:=([1,1]:Li);some a
def wB.r0 (K:Nat) (m n o p:Int) (q:Li) (next:Int->Int->Int->Int->Int->Int->Option ((Int×Int×Int×Int×Int)⊕(Int×Int×Int×Int×Int×Int))) (b a d e f g:Int):Option ((Int×Int×Int×Int×Int)⊕(Int×Int×Int×Int×Int×Int)):=
 let s:=(decide (a>=0));bif s then
  (qC K ).bind fun t=>
  let u:=(kshr .i64 m a);gd ((0:Int)<=a) <|let w:=(kand .i64 u 1);(ku K t w d e n f g o p q).bind fun (y,h,i,j,k,l)=>
  bif (h != 0) then
   some (.inr (0,h,i,j,k,l))
  else
   let z:=(kshl .i64 b 1);let A:=(kor .i64 z y);let B:=(wb .i64 (a-1));next A B i j k l
 else
  some (.inl (b,d,e,f,g))
def wB.l0 (K:Nat) (a b d e:Int) (f:Li) (n:Nat):Int->Int->Int->Int->Int->Int->Option ((Int×Int×Int×Int×Int)⊕(Int×Int×Int×Int×Int×Int)):=wA (wB.r0 K a b d e f) (fun _ _ _ _ _ _=>none) n
def wB.r1 (K:Nat) (_y i j k l:Int) (m:Li) (next:Int->Int->Int->Int->Int->Option ((Int×Int×Int×Int×Int)⊕(Int×Int×Int×Int×Int×Int))) (f n o p q:Int):Option ((Int×Int×Int×Int×Int)⊕(Int×Int×Int×Int×Int×Int)):=
 let s:=(decide (f<i));(
  bif s then
   some 1
  else
   some 0:Option Int).bind fun t=>
  (qC K ).bind fun u=>
  (ku K u t n o j p q k l m).bind fun (w,g,a,b,d,e)=>
  bif (g != 0) then
   some (.inr (0,g,a,b,d,e))
  else
   bif (w==0) then
    some (.inl (f,a,b,d,e))
   else
    let h:=(wb .i64 (f+1));bif (h==15) then
     some (.inr (0,70,a,b,d,e))
    else
     next h a b d e
def wB.l1 (K:Nat) (a b d e f:Int) (g:Li) (n:Nat):Int->Int->Int->Int->Int->Option ((Int×Int×Int×Int×Int)⊕(Int×Int×Int×Int×Int×Int)):=wA (wB.r1 K a b d e f g) (fun _ _ _ _ _=>none) n
def wB (K:Nat) (a g h b i j d e:Int) (f:Li):Option (Int×Int×Int×Int×Int×Int):=
 (kY K (wb .u64 a)).bind fun k=>
 let l:=(wb .i64 (k-1));(wB.l1 K a l b d e f K 0 g h i j:Option ((Int×Int×Int×Int×Int)⊕(Int×Int×Int×Int×Int×Int))).bind fun z=>match z with
 | .inl (m,n,o,p,q)=>
  let s:=(wb .i64 (m-1));(wB.l0 K a b d e f K 1 s n o p q:Option ((Int×Int×Int×Int×Int)⊕(Int×Int×Int×Int×Int×Int))).bind fun z=>match z with
  | .inl (t,u,w,y,A)=>
   some (t,0,u,w,y,A)
  | .inr r=>
   some r
 | .inr r=>
  some r
def zI.r0 (K:Nat) (b:Li) (e:Int) (next:Int->Int->Option Int) (d a:Int):Option Int:=
 let f:=(decide (a<e));bif f then
  let g:=(Kd.nth (.int .i64) b (Int.toNat a));gd ((0:Int)<=a/\a<(b.length:Int)) <|(qK K g).bind fun h=>
  let i:=(wb .i64 (d+(imin h 3)));let j:=(wb .i64 (a+1));next i j
 else
  some d
def zI.l0 (K:Nat) (a:Li) (b:Int) (n:Nat):Int->Int->Option Int:=wA (zI.r0 K a b) (fun _ _=>none) n
def zI (K:Nat) (a:Li):Option Int:=
 let b:=(wb .i64 ((a.length:Int)-2));let d:=((a.take (Int.toNat (a.length:Int))).drop (Int.toNat (imax b 0)));let e:=(d.length:Int);gd ((0:Int)<=(imax b 0)/\(imax b 0)<=(a.length:Int)/\(a.length:Int)<=(a.length:Int)) <|(zI.l0 K d e K 0 0:Option Int).bind fun f=>
  let g:=(wb .i64 (f+1));let h:=(wb .i64 (Int.tdiv g 2));some h
def xQ (K:Nat) (a:Li):Option Int:=
 zI K a
def kb (K:Nat) (a:Int) (A:Li) (B D b E F d e:Int) (f:Li):Option (Int×Int×Int×Int×Int×Int):=
 (xQ K A).bind fun G=>
 (j7 K G).bind fun H=>
 (qK K a).bind fun I=>
 (ku K H (imin I 14) B D b E F d e f).bind fun (p,q,g,h,i,j)=>
 bif (q != 0) then
  some (0,q,g,h,i,j)
 else
  (
   bif (p==14) then
    (qK K a).bind fun J=>
    let L:=(wb .i64 (J-14));let M:=(wb .i64 (L+1));(wB K (imax M 1) g h b i j d e f).bind fun (N,s,t,u,w,y)=>
    bif (s != 0) then
     some (.inr (0,s,t,u,w,y))
    else
     let O:=(wb .i64 (N+14));let P:=(wb .i64 (O-1));some (.inl (P,t,u,w,y))
   else
    some (.inl (p,g,h,i,j)):Option ((Int×Int×Int×Int×Int)⊕(Int×Int×Int×Int×Int×Int))).bind fun z=>match z with
  | .inl (k,l,m,n,o)=>
   let Q:=(decide (k>32767));bif Q then
    some (0,70,l,m,n,o)
   else
    bif (k==0) then
     some (0,0,l,m,n,o)
    else
     let R:=(decide (a<0));(
      bif R then
       some 1
      else
       some 0:Option Int).bind fun S=>
      (qC K ).bind fun T=>
      (ku K T S l m b n o d e f).bind fun (U,V,W,X,Y,Z)=>
      let aa:=(wb .i64 (2*U));let ab:=(wb .i64 (1-aa));let ad:=(wb .i64 (k*ab));some (ad,V,W,X,Y,Z)
  | .inr r=>
   some r
def km.r0 (K:Nat) (n o p q:Int) (s:Li) (next:Int->Int->Int->Int->Int->Li->Option ((Int×Int×Int×Int×Li)⊕(Int×Int×Int×Int×Int×Li))) (b d e f g:Int) (a:Li):Option ((Int×Int×Int×Int×Li)⊕(Int×Int×Int×Int×Int×Li)):=
 let t:=(decide (b<n));bif t then
  (kb K 0 a d e o f g p q s).bind fun (h,i,j,k,l,m)=>
  bif (i != 0) then
   some (.inr (i,j,k,l,m,([]:Li)))
  else
   let u:=(a++[h]);gd (((a.length:Int)+([h].length:Int))*8<=70368744177664) <|let w:=(wb .i64 (b+1));next w j k l m u
 else
  some (.inl (d,e,f,g,a))
def km.l0 (K:Nat) (a b d e:Int) (f:Li) (n:Nat):Int->Int->Int->Int->Int->Li->Option ((Int×Int×Int×Int×Li)⊕(Int×Int×Int×Int×Int×Li)):=wA (km.r0 K a b d e f) (fun _ _ _ _ _ _=>none) n
def km (K:Nat) (a b d g e f h i:Int) (j:Li):Option (Int×Int×Int×Int×Int×Li):=
 let k:=(decide (a<0));let l:=(decide (a>120));let m:=(bif k then true else l);bif m then
  some (1,b,d,e,f,([]:Li))
 else
  (km.l0 K a g h i j K 0 b d e f ([]:Li):Option ((Int×Int×Int×Int×Li)⊕(Int×Int×Int×Int×Int×Li))).bind fun z=>match z with
  | .inl (n,o,p,q,s)=>
   some (0,n,o,p,q,s)
  | .inr r=>
   some r
def zi.r0 (_K:Nat) (e _k _l _m _n _o _p _q _s _t _u _w _y _z _A _B _D _E _F _G:Int) (b:Li) (next:Int->Int->Option Int) (d a:Int):Option Int:=
 let f:=(decide (a<e));bif f then
  (
   let g:=(Kd.nth (.int .i64) b (Int.toNat a));gd ((0:Int)<=a/\a<(b.length:Int)/\(Int.toNat a)<b.length) <|bif (g != 0) then
    let h:=(wb .i64 (d+1));some h
   else
    some d:Option Int).bind fun i=>
   let j:=(wb .i64 (a+1));next i j
 else
  some d
def zi.l0 (K:Nat) (a b d e f g h i j k l m o p q s t u w y:Int) (z:Li) (n:Nat):Int->Int->Option Int:=wA (zi.r0 K a b d e f g h i j k l m o p q s t u w y z) (fun _ _=>none) n
def zi (K:Nat) (b d e f g h i j k l m n o p q s t u w:Int) (a:Li):Option Int:=
 (zi.l0 K (a.length:Int) b d e f g h i j k l m n o p q s t u w a K 0 0:Option Int).bind fun y=>
  some y
def qM.r0 (_K:Nat) (d:Li) (next:Int->Option Int) (e:Int):Option Int:=
 let a:=(decide (e>0));let b:=(wb .i64 (e-1));let f:=(Int.toNat b);let g:=(Kd.nth (.int .i64) d f);let h:=(bif a then (g==0) else false);gd ((a=true->(0:Int)<=b)/\(a=true->b<(d.length:Int))/\(a=true->f<d.length)) <|bif h then
  next b
 else
  some e
def qM.l0 (K:Nat) (a:Li) (n:Nat):Int->Option Int:=wA (qM.r0 K a) (fun _=>none) n
def qM (K:Nat) (a:Li):Option Int:=
 (qM.l0 K a K (a.length:Int):Option Int).bind fun b=>
  some b
def wC.r0 (_K:Nat) (e f g h _l _m _n _o _p _q _s _t _u _w _y _z _A _B _D:Int) (_E:Li) (next:Int->List (Int×Int)->Option ((List (Int×Int)))) (a:Int) (b:List (Int×Int)):Option ((List (Int×Int))):=
 let i:=(decide (a<4));bif i then
  let d:=(List.getD [e,f,g,h] (Int.toNat a) 0);gd ((0:Int)<=a/\a<4) <|let j:=(b++[(d,5)]);gd (((b.length:Int)+([(d,5)].length:Int))*16<=70368744177664) <|let k:=(wb .i64 (a+1));next k j
 else
  some b
def wC.l0 (K:Nat) (a b d e f g h i j k l m o p q s t u w:Int) (y:Li) (n:Nat):Int->List (Int×Int)->Option ((List (Int×Int))):=wA (wC.r0 K a b d e f g h i j k l m o p q s t u w y) (fun _ _=>none) n
def wC.r1 (_K:Nat) (e f g h i j k l _q _s _t _u _w _y _z _A _B _D _E:Int) (_F:Li) (next:Int->List (Int×Int)->Option ((List (Int×Int)))) (a:Int) (b:List (Int×Int)):Option ((List (Int×Int))):=
 let m:=(decide (a<8));bif m then
  let n:=(List.getD [e,f,g,h,i,j,k,l] (Int.toNat a) 0);gd ((0:Int)<=a/\a<8) <|let d:=(wb .i64 (n+4));let o:=(b++[(d,3)]);gd (((b.length:Int)+([(d,3)].length:Int))*16<=70368744177664) <|let p:=(wb .i64 (a+1));next p o
 else
  some b
def wC.l1 (K:Nat) (a b d e f g h i j k l m o p q s t u w:Int) (y:Li) (n:Nat):Int->List (Int×Int)->Option ((List (Int×Int))):=wA (wC.r1 K a b d e f g h i j k l m o p q s t u w y) (fun _ _=>none) n
def wC (K:Nat) (d e k l m n o p q s a t u w y f b g h:Int) (i:Li):Option ((List (Int×Int))):=
 let G:=[(d,2),(e,4)];(wC.l1 K k l m n o p q s d e a t u w y f b g h i K 0 G:Option ((List (Int×Int)))).bind fun z=>
  let A:=(z++[(a,1)]);gd (((z.length:Int)+([(a,1)].length:Int))*16<=70368744177664) <|(
   bif (a==1) then
    (wC.l0 K t u w y d e k l m n o p q s a f b g h i K 0 A:Option ((List (Int×Int)))).bind fun H=>
     some H
   else
    some A:Option ((List (Int×Int)))).bind fun B=>
   let j:=(B++[(b,2)]);gd (((B.length:Int)+([(b,2)].length:Int))*16<=70368744177664) <|let I:=(decide (b>0));(
    bif I then
     let D:=(wb .i64 (f-16));let J:=(j++[(D,6)]);gd (((j.length:Int)+([(D,6)].length:Int))*16<=70368744177664) <|some J
    else
     some j:Option ((List (Int×Int)))).bind fun E=>
    (qM K i).bind fun L=>
    let F:=[(g,8),(h,3),(L,7)];gd (((E.length:Int)+(F.length:Int))*16<=70368744177664) <|some (E++F)
def zd.r0 (_K:Nat) (e:Li) (next:Int->Option Int) (b:Int):Option Int:=
 let d:=(decide (b>0));let a:=(wb .i64 (b-1));let f:=(Kd.nth (.int .i64) e (Int.toNat a));let g:=(bif d then (f==0) else false);gd ((d=true->(0:Int)<=a)/\(d=true->a<(e.length:Int))) <|bif g then
  next a
 else
  some b
def zd.l0 (K:Nat) (a:Li) (n:Nat):Int->Option Int:=wA (zd.r0 K a) (fun _=>none) n
def zd (K:Nat) (a:Li):Option Int:=
 (zd.l0 K a K (a.length:Int):Option Int).bind fun b=>
  some b
def jM (K:Nat) (_e _f _g _h _i _j _k _l _m _n _o _p _q _s _t _u _w _y _z:Int) (a:Li):Option Li:=
 (zd K a).bind fun b=>
 let d:=((a.take (Int.toNat b)).drop (Int.toNat 0));gd (0<=b/\b<=(a.length:Int)) <|some d
def jq (_K:Nat)  : Option Li:=
 some ([]:Li)
def kC.r0 (_K:Nat) (b:Li) (e:Int) (next:Int->Option ((Unit)⊕(Int))) (a:Int):Option ((Unit)⊕(Int)):=
 let f:=(decide (a<e));bif f then
  let d:=(Kd.nth (.int .i64) b (Int.toNat a));gd ((0:Int)<=a/\a<(b.length:Int)) <|let g:=(decide (d<(-32767)));let h:=(decide (d>32767));let i:=(bif g then true else h);bif i then
   some (.inr 1)
  else
   let j:=(wb .i64 (a+1));next j
 else
  some (.inl ())
def kC.l0 (K:Nat) (a:Li) (b:Int) (n:Nat):Int->Option ((Unit)⊕(Int)):=wA (kC.r0 K a b) (fun _=>none) n
def kC (K:Nat) (a:Li):Option Int:=
 let b:=(decide ((a.length:Int)>120));bif b then
  some 2
 else
  (kC.l0 K a (a.length:Int) K 0:Option ((Unit)⊕(Int))).bind fun z=>match z with
  | .inl _=>
   some 0
  | .inr r=>
   some r
def kT (_K:Nat) (a b _f:Int) (_g:Bool) (_h:Int) (_i:Li):Option Int:=
 let d:=(wb .i64 (b-a));let e:=(wb .i64 (d+1));some e
def wH.r0 (_K:Nat) (_j:Li) (_k _l:Int) (b:Li) (e _m _n _o:Int) (_p:Bool) (_q:Int) (_s:Li) (next:Int->Int->Option Int) (d a:Int):Option Int:=
 let f:=(decide (a<e));bif f then
  let g:=(Kd.nth (.int .i64) b (Int.toNat a));gd ((0:Int)<=a/\a<(b.length:Int)) <|let h:=(wb .i64 (d+g));let i:=(wb .i64 (a+1));next h i
 else
  some d
def wH.l0 (K:Nat) (a:Li) (b d:Int) (e:Li) (f g h i:Int) (j:Bool) (k:Int) (l:Li) (n:Nat):Int->Int->Option Int:=wA (wH.r0 K a b d e f g h i j k l) (fun _ _=>none) n
def wH (K:Nat) (b:Li) (a d e f g:Int) (h:Bool) (i:Int) (j:Li):Option (Int×Int):=
 let k:=((b.take (Int.toNat a)).drop (Int.toNat 0));let n:=(k.length:Int);gd (0<=a/\a<=(b.length:Int)) <|(wH.l0 K b a d k n e f g h i j K 0 0:Option Int).bind fun l=>
  (kT K e f g h i j).bind fun m=>
  let o:=(Kd.nth (.int .i64) b (Int.toNat a));let p:=(wb .i64 (l+o));let q:=(wb .i64 (m*p));let s:=(wb .i64 (Int.tdiv q d));let t:=(wb .i64 (e+s));let u:=(wb .i64 (t-1));gd ((0:Int)<=a/\a<(b.length:Int)/\d≠0) <|let w:=(wb .i64 (m*l));let y:=(wb .i64 (Int.tdiv w d));let z:=(wb .i64 (e+y));gd (d≠0) <|some (z,u)
def kA (_K:Nat) (i _q _s _t:Int) (_u:Bool) (e:Int) (f:Li):Option (Int×Li):=
 let g:=(Int.tmod e 8);(
  bif (g==0) then
   let j:=(f++([0]:Li));gd (((f.length:Int)+(([0]:Li).length:Int))*1<=70368744177664) <|some j
  else
   some f:Option Li).bind fun a=>
  let b:=(wb .i64 (Int.tdiv e 8));let d:=(Int.toNat b);gd ((0:Int)<=b/\b<(a.length:Int)) <|let k:=(Kd.nth (.int .u8) a d);gd (d<a.length) <|let h:=(wb .i64 (7-g));let l:=(kshl .i64 i h);gd ((0:Int)<=h) <|let m:=(wb .u8 l);let n:=(kor .u8 k m);gd ((0:Int)<=b/\b<(a.length:Int)) <|let o:=(List.set a d n);gd (d<a.length) <|let p:=(wb .i64 (e+1));some (p,o)
def wM.r0 (K:Nat) (e f g:Int) (h:Bool) (next:Int->Int->Li->Option (Int×Int×Li)) (a b:Int) (d:Li):Option (Int×Int×Li):=
 let i:=(decide (a>0));bif i then
  let j:=(wb .i64 (1-e));(kA K j f g a h b d).bind fun (k,l)=>
  let m:=(wb .i64 (a-1));next m k l
 else
  some (a,b,d)
def wM.l0 (K:Nat) (a b d:Int) (e:Bool) (n:Nat):Int->Int->Li->Option (Int×Int×Li):=wA (wM.r0 K a b d e) (fun _ _ _=>none) n
def wM (K:Nat) (a b d e:Int) (f:Bool) (g:Int) (h:Li):Option (Int×Int×Li):=
 (kA K a b d e f g h).bind fun (i,j)=>
 (wM.l0 K a b d f K e i j:Option (Int×Int×Li)).bind fun (k,l,m)=>
  some (k,l,m)
def wU (K:Nat) (a d e b:Int) (f:Bool) (g:Int) (h:Li):Option ((Int)⊕(Int×Int×Li)):=
 bif (a==16384) then
  let i:=(wb .i64 (b+1));some (.inl i)
 else
  let j:=(wb .i64 (Int.tdiv a 32768));(wM K j d e b f g h).bind fun (k,l,m)=>
  some (.inr (k,l,m))
def wS.r0 (K:Nat) (h:Bool) (next:Int->Int->Int->Int->Li->Option (Int×Int×Int×Int×Li)) (a b g e:Int) (f:Li):Option (Int×Int×Int×Int×Li):=
 (
  let i:=(decide (b<32768));bif i then
   some (.inl 0)
  else
   let j:=(decide (a>=32768));bif j then
    some (.inl 32768)
   else
    let k:=(decide (a>=16384));let l:=(decide (b<49152));let m:=(bif k then l else false);bif m then
     some (.inl 16384)
    else
     some (.inr (a,b,g,e,f)):Option ((Int)⊕(Int×Int×Int×Int×Li))).bind fun z=>match z with
 | .inl d=>
  (wU K d a b g h e f).bind fun z=>match z with
  | .inl n=>
   let o:=(wb .i64 (a-d));let p:=(wb .i64 (2*o));let q:=(wb .i64 (b-d));let s:=(wb .i64 (2*q));let t:=(wb .i64 (s+1));next p t n e f
  | .inr (u,w,y)=>
   let A:=(wb .i64 (a-d));let B:=(wb .i64 (2*A));let D:=(wb .i64 (b-d));let E:=(wb .i64 (2*D));let F:=(wb .i64 (E+1));next B F u w y
 | .inr r=>
  some (r)
def wS.l0 (K:Nat) (a:Bool) (n:Nat):Int->Int->Int->Int->Li->Option (Int×Int×Int×Int×Li):=wA (wS.r0 K a) (fun _ _ _ _ _=>none) n
def wS (K:Nat) (a b d:Int) (e:Bool) (f:Int) (g:Li):Option (Int×Int×Int×Int×Li):=
 (wS.l0 K e K a b d f g:Option (Int×Int×Int×Int×Li)).bind fun r=>
  some r
def jL (K:Nat) (a:Li) (b i j e:Int) (d:Bool) (f:Int) (g:Li):Option (Int×Int×Int×Int×Li):=
 bif d then
  none
 else
  (z8 K a).bind fun h=>
  let k:=(decide (b<0));let l:=(bif (h==0) then true else k);let m:=(decide (b>=(a.length:Int)));let n:=(bif l then true else m);bif n then
   none
  else
   (wH K a b h i j e d f g).bind fun (o,p)=>
   (wS K o p e d f g).bind fun (q,s,t,u,w)=>
   some (q,s,t,u,w)
def kP (K:Nat) (a:Li) (b d e f:Int) (g:Bool) (h:Int) (i:Li):Option (Int×Int×Int×Int×Li):=
 (jL K a b d e f g h i).bind fun (j,k,l,m,n)=>
 some (j,k,l,m,n)
def wt.r0 (K:Nat) (j:Int) (k:Bool) (next:Int->Int->Int->Int->Int->Int->Li->Option (Int×Int×Int×Int×Int×Li)) (b a d e f g:Int) (h:Li):Option (Int×Int×Int×Int×Int×Li):=
 let l:=(decide (a>=0));bif l then
  (qC K ).bind fun m=>
  let n:=(kshr .i64 j a);gd ((0:Int)<=a) <|let i:=(kand .i64 n 1);(kP K m i d e f k g h).bind fun (o,p,q,s,t)=>
  let u:=(kshl .i64 b 1);let w:=(kor .i64 u i);let y:=(wb .i64 (a-1));next w y o p q s t
 else
  some (b,d,e,f,g,h)
def wt.l0 (K:Nat) (a:Int) (b:Bool) (n:Nat):Int->Int->Int->Int->Int->Int->Li->Option (Int×Int×Int×Int×Int×Li):=wA (wt.r0 K a b) (fun _ _ _ _ _ _ _=>none) n
def wt.r1 (K:Nat) (_t j:Int) (k:Bool) (next:Int->Int->Int->Int->Int->Li->Option ((Int×Int×Int×Int×Int×Li)⊕(Int×Int×Int×Int×Int×Int×Li))) (a l m n o:Int) (p:Li):Option ((Int×Int×Int×Int×Int×Li)⊕(Int×Int×Int×Int×Int×Int×Li)):=
 let q:=(decide (a<j));(
  bif q then
   some 1
  else
   some 0:Option Int).bind fun h=>
  (qC K ).bind fun s=>
  (kP K s h l m n k o p).bind fun (b,d,e,f,g)=>
  bif (h==0) then
   some (.inl (a,b,d,e,f,g))
  else
   let i:=(wb .i64 (a+1));bif (i==15) then
    some (.inr (0,70,b,d,e,f,g))
   else
    next i b d e f g
def wt.l1 (K:Nat) (a b:Int) (d:Bool) (n:Nat):Int->Int->Int->Int->Int->Li->Option ((Int×Int×Int×Int×Int×Li)⊕(Int×Int×Int×Int×Int×Int×Li)):=wA (wt.r1 K a b d) (fun _ _ _ _ _ _=>none) n
def wt (K:Nat) (a d e f:Int) (b:Bool) (g:Int) (h:Li):Option (Int×Int×Int×Int×Int×Int×Li):=
 (kY K (wb .u64 a)).bind fun i=>
 let j:=(wb .i64 (i-1));(wt.l1 K a j b K 0 d e f g h:Option ((Int×Int×Int×Int×Int×Li)⊕(Int×Int×Int×Int×Int×Int×Li))).bind fun z=>match z with
 | .inl (k,l,m,n,o,p)=>
  let q:=(wb .i64 (k-1));(wt.l0 K a b K 1 q l m n o p:Option (Int×Int×Int×Int×Int×Li)).bind fun (s,t,u,w,y,A)=>
   some (s,0,t,u,w,y,A)
 | .inr r=>
  some r
def qX (K:Nat) (A:Li) (a B D E:Int) (b:Bool) (F:Int) (G:Li):Option (Int×Int×Int×Int×Int×Int×Li):=
 (zI K A).bind fun H=>
 (j7 K H).bind fun I=>
 (qK K a).bind fun d=>
 (kP K I (imin d 14) B D E b F G).bind fun (k,l,m,n,o)=>
 let J:=((imin d 14)==14);(
  bif J then
   (qK K a).bind fun L=>
   let M:=(wb .i64 (L-14));let N:=(wb .i64 (M+1));(wt K (imax N 1) k l m b n o).bind fun (O,p,q,s,t,u,w)=>
   bif (p != 0) then
    some (.inr (0,p,q,s,t,u,w))
   else
    let P:=(wb .i64 (O+14));let Q:=(wb .i64 (P-1));some (.inl (Q,q,s,t,u,w))
  else
   some (.inl ((imin d 14),k,l,m,n,o)):Option ((Int×Int×Int×Int×Int×Li)⊕(Int×Int×Int×Int×Int×Int×Li))).bind fun z=>match z with
 | .inl (e,f,g,h,i,j)=>
  let R:=(decide (e>32767));bif R then
   some (0,70,f,g,h,i,j)
  else
   bif (e==0) then
    some (0,0,f,g,h,i,j)
   else
    let S:=(decide (a<0));(
     bif S then
      some 1
     else
      some 0:Option Int).bind fun y=>
     (qC K ).bind fun T=>
     (kP K T y f g h b i j).bind fun (U,V,W,X,Y)=>
     let Z:=(wb .i64 (2*y));let aa:=(wb .i64 (1-Z));let ab:=(wb .i64 (e*aa));some (ab,0,U,V,W,X,Y)
 | .inr r=>
  some r
def qV.r0 (K:Nat) (b:Li) (d:Int) (p:Bool) (next:Int->Int->Int->Int->Int->Li->Option ((Int×Int×Int×Int×Li)⊕(Int×Int×Int×Int×Int×Li))) (a e f g h:Int) (i:Li):Option ((Int×Int×Int×Int×Li)⊕(Int×Int×Int×Int×Int×Li)):=
 let q:=(decide (a<d));bif q then
  let s:=(Kd.nth (.int .i64) b (Int.toNat a));gd ((0:Int)<=a/\a<(b.length:Int)) <|let t:=((b.take (Int.toNat a)).drop (Int.toNat 0));gd (0<=a/\a<=d) <|(qX K t s e f g p h i).bind fun (_w,j,k,l,m,n,o)=>
  bif (j != 0) then
   some (.inr (j,k,l,m,n,o))
  else
   let u:=(wb .i64 (a+1));next u k l m n o
 else
  some (.inl (e,f,g,h,i))
def qV.l0 (K:Nat) (a:Li) (b:Int) (d:Bool) (n:Nat):Int->Int->Int->Int->Int->Li->Option ((Int×Int×Int×Int×Li)⊕(Int×Int×Int×Int×Int×Li)):=wA (qV.r0 K a b d) (fun _ _ _ _ _ _=>none) n
def qV (K:Nat) (a:Li) (b d e:Int) (f:Bool) (g:Int) (h:Li):Option (Int×Int×Int×Int×Int×Li):=
 (kC K a).bind fun i=>
 bif (i != 0) then
  none
 else
  (qV.l0 K a (a.length:Int) f K 0 b d e g h:Option ((Int×Int×Int×Int×Li)⊕(Int×Int×Int×Int×Int×Li))).bind fun z=>match z with
  | .inl (j,k,l,m,n)=>
   some (0,j,k,l,m,n)
  | .inr r=>
   some r
def kz (K:Nat) (a b g:Int) (h:Bool) (d:Int) (e:Li):Option (Int×Int×Li):=
 bif h then
  none
 else
  let f:=(wb .i64 (g+1));let i:=(decide (a<16384));(
   bif i then
    (wM K 0 a b f true d e).bind fun (j,k,l)=>
    some (j,k,l)
   else
    (wM K 1 a b f true d e).bind fun (m,n,o)=>
    some (m,n,o):Option (Int×Int×Li)).bind fun (p,q,s)=>
   some (p,q,s)
def kZ (_K:Nat) (_a _b _d:Int) (_e:Bool) (_f:Int) (_g:Li):Option Unit:=
 some ()
def jV (K:Nat) (f:Li):Option (Int×Int):=
 (jq K ).bind fun g=>
 (qV K f 0 65535 0 false 0 g).bind fun (a,b,d,h,i,j)=>
 bif (a != 0) then
  some (0,a)
 else
  (kz K b d h false i j).bind fun (k,e,l)=>
  (kZ K b d k true e l).bind fun _=>
  some (e,0)
def wX.r0 (_K:Nat) (b:List (Int×Int)) (e _j _k _l _m _n _o _p _q _s _t _u _w _y _z _A _B _D _E _F:Int) (_G:Li) (next:Int->Int->Option Int) (d a:Int):Option Int:=
 let f:=(decide (a<e));bif f then
  let g:=(Kd.nth (.pair (.int .i64) (.int .i64)) b (Int.toNat a));gd ((0:Int)<=a/\a<(b.length:Int)) <|let h:=(wb .i64 (d-g.2));let i:=(wb .i64 (a+1));next h i
 else
  some d
def wX.l0 (K:Nat) (a:List (Int×Int)) (b d e f g h i j k l m o p q s t u w y z:Int) (A:Li) (n:Nat):Int->Int->Option Int:=wA (wX.r0 K a b d e f g h i j k l m o p q s t u w y z A) (fun _ _=>none) n
def wX (K:Nat) (_G _H _I _J _L _M _N _O _P z a b d e f g h i j k l m n o p q s t u:Int) (w:Li):Option Int:=
 let A:=(wb .i64 (8*z));(wC K a b d e f g h i j k l m n o p q s t u w).bind fun y=>
 (wX.l0 K y (y.length:Int) a b d e f g h i j k l m n o p q s t u w K A 0:Option Int).bind fun B=>
  (jM K a b d e f g h i j k l m n o p q s t u w).bind fun D=>
  (jV K D).bind fun (E,_Q)=>
  let F:=(wb .i64 (B-E));some F
def jg (_K:Nat) (a:Int):Option (Int×Int×Int×Int×Int×Int×Int×Int×Bool):=
 bif (a==40) then
  some (2,4,7,11,16,23,31,40,true)
 else
  bif (a==60) then
   some (3,6,10,16,24,34,46,60,true)
  else
   bif (a==80) then
    some (4,8,14,22,32,46,62,80,true)
   else
    bif (a==120) then
     some (6,12,21,33,48,69,93,120,true)
    else
     some (0,0,0,0,0,0,0,0,false)
def kK (K:Nat) (e a:Int):Option (Int×Int):=
 (jg K e).bind fun (f,g,h,i,j,k,l,m,n)=>
 let o:=[0,f,g,h,i,j,k,l,m];let p:=(decide (a<0));let q:=(bif (!n) then true else p);let s:=(decide (a>3));let t:=(bif q then true else s);bif t then
  some (0,1)
 else
  let u:=(wb .i64 (2*a));let b:=(wb .i64 (u+2));let d:=(0+(Int.toNat b)*1);let w:=(List.getD o (d+0) 0);gd ((0:Int)<=b/\b<9/\d+1<=9) <|some (w,0)
def zQ (_K:Nat) (a b:Int):Option Int:=
 let d:=((a==0)&&(b==0));let e:=(decide (b<1));let f:=(decide (b>3));let g:=(bif e then true else f);let h:=(decide (a<16));let i:=(bif g then true else h);let j:=(decide (a>79));let k:=(bif i then true else j);let l:=(bif (!d) then k else false);bif l then
  some 1
 else
  some 0
def qL.r0 (_K:Nat) (d e f g h:Int) (next:Int->Option ((Unit)⊕(Int))) (a:Int):Option ((Unit)⊕(Int)):=
 let i:=(decide (a<4));bif i then
  let b:=(List.getD [d,e,f,g] (Int.toNat a) 0);gd ((0:Int)<=a/\a<4) <|let j:=(decide (b<0));let k:=(wb .i64 (16*h));let l:=(decide (b>k));let m:=(bif j then true else l);bif m then
   some (.inr 1)
  else
   let n:=(wb .i64 (a+1));next n
 else
  some (.inl ())
def qL.l0 (K:Nat) (a b d e f:Int) (n:Nat):Int->Option ((Unit)⊕(Int)):=wA (qL.r0 K a b d e f) (fun _=>none) n
def qL (K:Nat) (a b d e f:Int):Option Int:=
 let g:=(bif (a != 0) then (a != 1) else false);bif g then
  some 1
 else
  (qL.l0 K b d e f a K 0:Option ((Unit)⊕(Int))).bind fun z=>match z with
  | .inl _=>
   some 0
  | .inr r=>
   some r
def qu.r0 (_K:Nat) (d e f g h i j k:Int) (next:Int->Option ((Unit)⊕(Int))) (a:Int):Option ((Unit)⊕(Int)):=
 let l:=(decide (a<8));bif l then
  let b:=(List.getD [d,e,f,g,h,i,j,k] (Int.toNat a) 0);gd ((0:Int)<=a/\a<8) <|let m:=(decide (b<(-4)));let n:=(decide (b>3));let o:=(bif m then true else n);bif o then
   some (.inr 1)
  else
   let p:=(wb .i64 (a+1));next p
 else
  some (.inl ())
def qu.l0 (K:Nat) (a b d e f g h i:Int) (n:Nat):Int->Option ((Unit)⊕(Int)):=wA (qu.r0 K a b d e f g h i) (fun _=>none) n
def qu (K:Nat) (a b d e f g h i j:Int):Option Int:=
 let k:=(decide (a<0));let l:=(decide (a>15));let m:=(bif k then true else l);bif m then
  some 1
 else
  (qu.l0 K b d e f g h i j K 0:Option ((Unit)⊕(Int))).bind fun z=>match z with
  | .inl _=>
   some 0
  | .inr r=>
   some r
def jJ.r0 (_K:Nat) (e:Int) (next:Int->Int->Option Int) (b a:Int):Option Int:=
 let f:=(decide (a<8));bif f then
  (
   let g:=(List.getD ([1518500249,1276901416,1170923761,1121280435,1097253708,1085434105,1079572135,1076653033]:Li) (Int.toNat a) 0);gd ((0:Int)<=a/\a<8) <|let d:=(wb .i64 (7-a));let h:=(kshr .i32 e d);let i:=(kand .i32 h 1);gd ((0:Int)<=d) <|bif (i==1) then
    let j:=(wb .u64 (b*g));let k:=(kshr .u64 j 30);some k
   else
    some b:Option Int).bind fun l=>
   let m:=(wb .i64 (a+1));next l m
 else
  some b
def jJ.l0 (K:Nat) (a:Int) (n:Nat):Int->Int->Option Int:=wA (jJ.r0 K a) (fun _ _=>none) n
def jJ (K:Nat) (a:Int):Option (Int×Int):=
 let e:=(decide (a<(-4096)));let f:=(decide (a>7680));let g:=(bif e then true else f);bif g then
  some (0,1)
 else
  (jJ.l0 K a K 1073741824 0:Option Int).bind fun d=>
   let h:=(kshr .i32 a 8);let i:=(wb .i64 h);let b:=(wb .i64 (i-14));let j:=(decide (b>=0));bif j then
    let k:=(kshl .u64 d b);gd ((0:Int)<=b) <|some (k,0)
   else
    let l:=(wb .i64 (0-b));(wK K (wb .i64 d) l).bind fun m=>
    some ((wb .u64 m),0)
def xW (K:Nat) (a:Int):Option (Int×Int):=
 let b:=(decide (a<0));let d:=(decide (a>240));let e:=(bif b then true else d);bif e then
  some (0,1)
 else
  let f:=(wb .i64 (32*a));let g:=(wb .i32 f);(jJ K g).bind fun (h,i)=>
  some (h,i)
def jd.r0 (_K:Nat) (_k:Int) (b:Li) (e:Int) (next:Int->Option ((Unit)⊕(Int×Int))) (a:Int):Option ((Unit)⊕(Int×Int)):=
 let f:=(decide (a<e));bif f then
  let d:=(Kd.nth (.int .i64) b (Int.toNat a));gd ((0:Int)<=a/\a<(b.length:Int)) <|let g:=(decide (d<(-32767)));let h:=(decide (d>32767));let i:=(bif g then true else h);bif i then
   some (.inr (0,1))
  else
   let j:=(wb .i64 (a+1));next j
 else
  some (.inl ())
def jd.l0 (K:Nat) (a:Int) (b:Li) (d:Int) (n:Nat):Int->Option ((Unit)⊕(Int×Int)):=wA (jd.r0 K a b d) (fun _=>none) n
def jd (K:Nat) (b:Int) (a:Li) (e:Int):Option (Int×Int):=
 let f:=(decide (b>120));let g:=(decide ((a.length:Int)>120));let h:=(bif f then true else g);bif h then
  some (0,2)
 else
  (xW K e).bind fun (d,i)=>
  let j:=(b != (a.length:Int));let k:=(bif (i != 0) then true else j);bif k then
   some (0,1)
  else
   (jd.l0 K d a (a.length:Int) K 0:Option ((Unit)⊕(Int×Int))).bind fun z=>match z with
   | .inl _=>
    some ((wb .i64 d),0)
   | .inr r=>
    some r
def zK.r0 (_K:Nat) (_i b:Li) (_j _k _l e:Int) (next:Int->Option ((Unit)⊕(Bool))) (a:Int):Option ((Unit)⊕(Bool)):=
 let f:=(decide (a<e));bif f then
  let d:=(Kd.nth (.int .i64) b (Int.toNat a));gd ((0:Int)<=a/\a<(b.length:Int)) <|let g:=(bif (d != 0) then (d != 1) else false);bif g then
   some (.inr false)
  else
   let h:=(wb .i64 (a+1));next h
 else
  some (.inl ())
def zK.l0 (K:Nat) (a b:Li) (d e f g:Int) (n:Nat):Int->Option ((Unit)⊕(Bool)):=wA (zK.r0 K a b d e f g) (fun _=>none) n
def zK.r1 (_K:Nat) (d _k:Li) (_l _m e:Int) (next:Int->Int->Option Int) (b a:Int):Option Int:=
 let f:=(decide (a<e));bif f then
  (
   let g:=(Kd.nth (.int .i64) d (Int.toNat a));gd ((0:Int)<=a/\a<(d.length:Int)) <|bif (g != 0) then
    let h:=(wb .i64 (b+1));some h
   else
    some b:Option Int).bind fun i=>
   let j:=(wb .i64 (a+1));next i j
 else
  some b
def zK.l1 (K:Nat) (a b:Li) (d e f:Int) (n:Nat):Int->Int->Option Int:=wA (zK.r1 K a b d e f) (fun _ _=>none) n
def zK (K:Nat) (a b:Li) (d e:Int):Option Bool:=
 (zK.l1 K a b d e (a.length:Int) K 0 0:Option Int).bind fun f=>
  (zK.l0 K a b d e f (b.length:Int) K 0:Option ((Unit)⊕(Bool))).bind fun z=>match z with
  | .inl _=>
   let g:=(decide ((b.length:Int)<=f));let h:=(decide (d>=0));let i:=(bif g then h else false);let j:=(decide (d<=7));let k:=(bif i then j else false);let l:=(decide (e>=0));let m:=(bif k then l else false);let n:=(decide (e<=(a.length:Int)));let o:=(bif m then n else false);some o
  | .inr r=>
   some r
def kJ (_K:Nat) (a:Int):Option Int:=
 let b:=(imax a (wb .i64 (0-a)));some b
def xt (_K:Nat) (a b:Int):Option Int:=
 let d:=(decide (b<0));bif d then
  some (wb .i64 (0-a))
 else
  some a
def qg (K:Nat) (a:Int):Option Int:=
 (qp K a (-2147483648) 2147483647).bind fun b=>
 some (wb .i32 b)
def xu (_K:Nat) (b:Int):Option (Bool×Int):=
 let d:=(wb .u16 (13849*b));let a:=(wb .u16 (d+16831));let e:=(decide (a>=32768));some (e,a)
def zP.r0 (K:Nat) (h l e:Int) (i:Li) (m:Int) (next:Li->Int->Int->Li->Option Li) (b:Li) (a f:Int) (d:Li):Option Li:=
 let n:=(decide (a<m));bif n then
  (
   let g:=(Kd.nth (.int .i64) i (Int.toNat a));gd ((0:Int)<=a/\a<(i.length:Int)) <|(kJ K g).bind fun o=>
   let j:=(wb .i64 (o*e));bif (g != 0) then
    let p:=(decide ((b.length:Int)>0));(
     bif p then
      let q:=(Kd.nth (.int .i64) b 0);let s:=(wb .i64 (2*q));let t:=(wb .i64 (s-1));let u:=(wb .i64 (Int.tdiv e 4));let w:=(wb .i64 (t*u));let y:=(wb .i64 (j+w));gd (0<(b.length:Int)) <|let z:=((b.take (Int.toNat (b.length:Int))).drop (Int.toNat 1));gd (1<=(b.length:Int)/\(b.length:Int)<=(b.length:Int)) <|some (z,y)
     else
      some (b,j):Option (Li×Int)).bind fun (A,B)=>
     (wK K B 16).bind fun D=>
     (xt K D g).bind fun E=>
     (qg K E).bind fun F=>
     let G:=(List.set d (Int.toNat a) F);gd ((0:Int)<=a/\a<(d.length:Int)/\(Int.toNat a)<d.length) <|some (A,f,G)
   else
    let H:=(decide (h>0));let I:=(decide (a<l));let J:=(bif H then I else false);bif J then
     let L:=(wb .i64 (h*e));let M:=(wb .i64 (Int.tdiv L 16));(wK K M 16).bind fun k=>
     (xu K f).bind fun (N,O)=>
     (
      bif N then
       some ((wb .i64 (0-k)))
      else
       some k:Option Int).bind fun P=>
      (qg K P).bind fun Q=>
      let R:=(List.set d (Int.toNat a) Q);gd ((0:Int)<=a/\a<(d.length:Int)/\(Int.toNat a)<d.length) <|some (b,O,R)
    else
     some (b,f,d):Option (Li×Int×Li)).bind fun (S,T,U)=>
   let V:=(wb .i64 (a+1));next S V T U
 else
  some d
def zP.l0 (K:Nat) (a b d:Int) (e:Li) (f:Int) (n:Nat):Li->Int->Int->Li->Option Li:=wA (zP.r0 K a b d e f) (fun _ _ _ _=>none) n
def zP.r1 (K:Nat) (b _k:Li) (_l _m _n e:Int) (next:Int->Int->Option Int) (a d:Int):Option Int:=
 let f:=(decide (a<e));bif f then
  let g:=(Kd.nth (.int .i64) b (Int.toNat a));gd ((0:Int)<=a/\a<(b.length:Int)) <|(kJ K g).bind fun h=>
  let i:=(wb .u16 (d+(wb .u16 h)));let j:=(wb .i64 (a+1));next j i
 else
  some d
def zP.l1 (K:Nat) (a b:Li) (d e f g:Int) (n:Nat):Int->Int->Option Int:=wA (zP.r1 K a b d e f g) (fun _ _=>none) n
def zP (K:Nat) (a:Li) (i:Int) (b:Li) (d e:Int):Option (Int×Li):=
 (jd K (a.length:Int) a i).bind fun (f,g)=>
 (
  bif (g==0) then
   (zK K a b d e).bind fun j=>
   some (!j)
  else
   some false:Option Bool).bind fun k=>
  (
   bif k then
    some 1
   else
    some g:Option Int).bind fun h=>
   bif (h != 0) then
    some (h,([]:Li))
   else
    (zP.l1 K a b d e f (a.length:Int) K 0 0:Option Int).bind fun l=>
     let m:=(List.replicate (Int.toNat (a.length:Int)) (0:Int));gd ((0:Int)<=(a.length:Int)/\(a.length:Int)<=(a.length:Int)/\(a.length:Int)*4<=140737488355328) <|(zP.l0 K d e f a (a.length:Int) K b 0 l m:Option Li).bind fun n=>
      some (0,n)
def wv.r0 (_K:Nat) (e f g h _l _m _n _o _p _q _s _t _u _w _y _z _A _B _D:Int) (_E _F:Li) (next:Int->List (Int×Int)->Option ((List (Int×Int)))) (a:Int) (b:List (Int×Int)):Option ((List (Int×Int))):=
 let i:=(decide (a<4));bif i then
  let d:=(List.getD [e,f,g,h] (Int.toNat a) 0);gd ((0:Int)<=a/\a<4) <|let j:=(b++[(d,5)]);gd (((b.length:Int)+([(d,5)].length:Int))*16<=70368744177664) <|let k:=(wb .i64 (a+1));next k j
 else
  some b
def wv.l0 (K:Nat) (a b d e f g h i j k l m o p q s t u w:Int) (y z:Li) (n:Nat):Int->List (Int×Int)->Option ((List (Int×Int))):=wA (wv.r0 K a b d e f g h i j k l m o p q s t u w y z) (fun _ _=>none) n
def wv.r1 (_K:Nat) (e f g h i j k l _q _s _t _u _w _y _z _A _B _D _E:Int) (_F _G:Li) (next:Int->List (Int×Int)->Option ((List (Int×Int)))) (a:Int) (b:List (Int×Int)):Option ((List (Int×Int))):=
 let m:=(decide (a<8));bif m then
  let n:=(List.getD [e,f,g,h,i,j,k,l] (Int.toNat a) 0);gd ((0:Int)<=a/\a<8) <|let d:=(wb .i64 (n+4));let o:=(b++[(d,3)]);gd (((b.length:Int)+([(d,3)].length:Int))*16<=70368744177664) <|let p:=(wb .i64 (a+1));next p o
 else
  some b
def wv.l1 (K:Nat) (a b d e f g h i j k l m o p q s t u w:Int) (y z:Li) (n:Nat):Int->List (Int×Int)->Option ((List (Int×Int))):=wA (wv.r1 K a b d e f g h i j k l m o p q s t u w y z) (fun _ _=>none) n
def wv (K:Nat) (d e k l m n o p q s a t u w y f b g h:Int) (i z:Li):Option ((List (Int×Int))):=
 let H:=[(d,2),(e,4)];(wv.l1 K k l m n o p q s d e a t u w y f b g h i z K 0 H:Option ((List (Int×Int)))).bind fun A=>
  let B:=(A++[(a,1)]);gd (((A.length:Int)+([(a,1)].length:Int))*16<=70368744177664) <|(
   bif (a==1) then
    (wv.l0 K t u w y d e k l m n o p q s a f b g h i z K 0 B:Option ((List (Int×Int)))).bind fun I=>
     some I
   else
    some B:Option ((List (Int×Int)))).bind fun D=>
   let j:=(D++[(b,2)]);gd (((D.length:Int)+([(b,2)].length:Int))*16<=70368744177664) <|let J:=(decide (b>0));(
    bif J then
     let E:=(wb .i64 (f-16));let L:=(j++[(E,6)]);gd (((j.length:Int)+([(E,6)].length:Int))*16<=70368744177664) <|some L
    else
     some j:Option ((List (Int×Int)))).bind fun F=>
    (zd K i).bind fun M=>
    let G:=[(g,8),(h,3),(M,7)];gd (((F.length:Int)+(G.length:Int))*16<=70368744177664) <|some (F++G)
def qH (K:Nat) (_e _f _g _h _i _j _k _l _m _n _o _p _q _s _t _u _w _y _z:Int) (a _A:Li):Option Li:=
 (zd K a).bind fun b=>
 let d:=((a.take (Int.toNat b)).drop (Int.toNat 0));gd (0<=b/\b<=(a.length:Int)) <|some d
def wP.r0 (_K:Nat) (b:List (Int×Int)) (e _j _k _l _m _n _o _p _q _s _t _u _w _y _z _A _B _D _E _F:Int) (_G _H:Li) (next:Int->Int->Option Int) (d a:Int):Option Int:=
 let f:=(decide (a<e));bif f then
  let g:=(Kd.nth (.pair (.int .i64) (.int .i64)) b (Int.toNat a));gd ((0:Int)<=a/\a<(b.length:Int)) <|let h:=(wb .i64 (d-g.2));let i:=(wb .i64 (a+1));next h i
 else
  some d
def wP.l0 (K:Nat) (a:List (Int×Int)) (b d e f g h i j k l m o p q s t u w y z:Int) (A B:Li) (n:Nat):Int->Int->Option Int:=wA (wP.r0 K a b d e f g h i j k l m o p q s t u w y z A B) (fun _ _=>none) n
def wP (K:Nat) (_H _I _J _L _M _N _O _P _Q A a b d e f g h i j k l m n o p q s t u:Int) (w y:Li):Option Int:=
 let B:=(wb .i64 (8*A));(wv K a b d e f g h i j k l m n o p q s t u w y).bind fun z=>
 (wP.l0 K z (z.length:Int) a b d e f g h i j k l m n o p q s t u w y K B 0:Option Int).bind fun D=>
  (qH K a b d e f g h i j k l m n o p q s t u w y).bind fun E=>
  (jV K E).bind fun (F,_R)=>
  let G:=(wb .i64 (D-F));some G
def w7.r0 (_K:Nat) (d:Li) (e _k _l _m _n _o _p _q _s _t _u _w _y _z _A _B _D _E _F _G:Int) (_H:Li) (next:Int->Int->Option Int) (b a:Int):Option Int:=
 let f:=(decide (a<e));bif f then
  (
   let g:=(Kd.nth (.int .i64) d (Int.toNat a));gd ((0:Int)<=a/\a<(d.length:Int)) <|bif (g != 0) then
    let h:=(wb .i64 (b+1));some h
   else
    some b:Option Int).bind fun i=>
   let j:=(wb .i64 (a+1));next i j
 else
  some b
def w7.l0 (K:Nat) (a:Li) (b d e f g h i j k l m o p q s t u w y z:Int) (A:Li) (n:Nat):Int->Int->Option Int:=wA (w7.r0 K a b d e f g h i j k l m o p q s t u w y z A) (fun _ _=>none) n
def w7 (K:Nat) (b d e f g h i j k l m n o p q s t u w:Int) (a y:Li):Option Int:=
 (w7.l0 K a (a.length:Int) b d e f g h i j k l m n o p q s t u w y K 0 0:Option Int).bind fun z=>
  some z
def qd (K:Nat) (M N O P Q R S T b U l m n o p q s t u w f g h i j d e y z:Int) (a k:Li):Option Bool:=
 (kK K b l).bind fun (J,A)=>
 (
  bif (A != 0) then
   let B:=(bif (A != 0) then true else false);bif B then
    let D:=(bif B then true else false);bif D then
     let V:=(bif D then true else false);let W:=((a.length:Int) != b);let X:=(bif V then true else W);some X
    else
     (zQ K d e).bind fun Y=>
     let Z:=(bif D then true else (Y != 0));let aa:=((a.length:Int) != b);let ab:=(bif Z then true else aa);some ab
   else
    (qL K f g h i j).bind fun ad=>
    let E:=(bif B then true else (ad != 0));bif E then
     let ae:=(bif E then true else false);let af:=((a.length:Int) != b);let ag:=(bif ae then true else af);some ag
    else
     (zQ K d e).bind fun ah=>
     let ai:=(bif E then true else (ah != 0));let aj:=((a.length:Int) != b);let ak:=(bif ai then true else aj);some ak
  else
   (qu K m n o p q s t u w).bind fun al=>
   let F:=(bif (A != 0) then true else (al != 0));bif F then
    let G:=(bif F then true else false);bif G then
     let am:=(bif G then true else false);let an:=((a.length:Int) != b);let ao:=(bif am then true else an);some ao
    else
     (zQ K d e).bind fun ap=>
     let aq:=(bif G then true else (ap != 0));let au:=((a.length:Int) != b);let aw:=(bif aq then true else au);some aw
   else
    (qL K f g h i j).bind fun ay=>
    let H:=(bif F then true else (ay != 0));bif H then
     let az:=(bif H then true else false);let aA:=((a.length:Int) != b);let aB:=(bif az then true else aA);some aB
    else
     (zQ K d e).bind fun aD=>
     let aE:=(bif H then true else (aD != 0));let aF:=((a.length:Int) != b);let aG:=(bif aE then true else aF);some aG:Option Bool).bind fun aH=>
  bif aH then
   some false
  else
   (zd K a).bind fun aI=>
   let aJ:=(decide (aI>J));bif aJ then
    some false
   else
    (zP K a y k z J).bind fun (aL,_aS)=>
    bif (aL != 0) then
     some false
    else
     (wP K M N O P Q R S T b U l m n o p q s t u w f g h i j d e y z a k).bind fun L=>
     (
      let I:=(decide (L>=0));bif I then
       (w7 K l m n o p q s t u w f g h i j d e y z a k).bind fun aM=>
       let aN:=(imin aM L);let aO:=((k.length:Int)==aN);let aP:=(bif I then aO else false);some aP
      else
       let aQ:=(bif I then false else false);some aQ:Option Bool).bind fun aR=>
      some aR
def vB (_K:Nat) (a:Int):Option Li:=
 let b:=(decide (a<0));bif b then
  none
 else
  let d:=(decide (a>512));bif d then
   none
  else
   let e:=(List.replicate (Int.toNat a) (0:Int));gd ((0:Int)<=a/\a<=a/\a*1<=140737488355328) <|some e
def xm (_K:Nat) (a b d:Int) (_h:Li):Option Int:=
 let e:=(wb .i64 (8*a));let f:=(wb .i64 (e-b));let g:=(wb .i64 (f-d));some g
def kV (K:Nat) (a b d e:Int) (f:Li):Option Int:=
 let g:=(decide (a<0));let h:=(decide (a>32));let i:=(bif g then true else h);bif i then
  some 1
 else
  (xm K b d e f).bind fun j=>
  let k:=(decide (a>j));bif k then
   some 50
  else
   some 0
def kO (K:Nat) (e a f g:Int) (b:Li):Option Int:=
 let h:=(decide (a>=0));let i:=(decide (a<32));let d:=(bif h then i else false);let j:=(kshr .u32 e a);let k:=(bif d then (j != 0) else false);gd ((d=true->(0:Int)<=a)) <|bif k then
  some 1
 else
  (kV K a (b.length:Int) f g b).bind fun l=>
  some l
def kR (_K:Nat) (d _j a:Int) (_k:Li):Option (Int×Int×Int):=
 let e:=(wb .i64 (a+1));let f:=(wb .i64 (d-1));let g:=(wb .i64 (Int.tdiv a 8));let h:=(wb .i64 (f-g));let b:=(Int.tmod a 8);let i:=(kshl .u8 1 b);gd ((0:Int)<=b) <|some (h,i,e)
def zv.r0 (K:Nat) (g h i:Int) (next:Int->Int->Li->Option (Int×Li)) (d e:Int) (a:Li):Option (Int×Li):=
 let j:=(decide (d<h));bif j then
  (
   (kR K (a.length:Int) i e a).bind fun (b,k,f)=>
   let l:=(kshr .u32 g d);let m:=(kand .u32 l 1);gd ((0:Int)<=d) <|bif (m==1) then
    let n:=(Kd.nth (.int .u8) a (Int.toNat b));let o:=(kor .u8 n k);let p:=(List.set a (Int.toNat b) o);gd ((0:Int)<=b/\b<(a.length:Int)/\(Int.toNat b)<a.length/\(0:Int)<=b/\b<(a.length:Int)/\(Int.toNat b)<a.length) <|some (f,p)
   else
    some (f,a):Option (Int×Li)).bind fun (q,s)=>
   let t:=(wb .i64 (d+1));next t q s
 else
  some (e,a)
def zv.l0 (K:Nat) (a b d:Int) (n:Nat):Int->Int->Li->Option (Int×Li):=wA (zv.r0 K a b d) (fun _ _ _=>none) n
def zv (K:Nat) (d e f a:Int) (b:Li):Option (Int×Int×Li):=
 (kO K d e f a b).bind fun g=>
 bif (g != 0) then
  some (g,a,b)
 else
  (zv.l0 K d e f K 0 a b:Option (Int×Li)).bind fun (h,i)=>
   some (0,h,i)
def xh (_K:Nat) (_b _d _e:Int) (_f:Bool) (_g:Int) (a:Li):Option Unit:=
 gd ((a.length:Int)*1<=70368744177664) <|some ()
def k8 (_K:Nat) (a _g:Int) (_h:Li):Option (Int×Int×Int):=
 let d:=(wb .i64 (a+1));let e:=(wb .i64 (Int.tdiv a 8));let b:=(Int.tmod a 8);let f:=(kshr .u8 128 b);gd ((0:Int)<=b) <|some (e,f,d)
def zL.r0 (K:Nat) (g h:Int) (next:Int->Int->Li->Option (Int×Li)) (d e:Int) (a:Li):Option (Int×Li):=
 let i:=(decide (d>=0));bif i then
  (
   (k8 K e h a).bind fun (b,j,f)=>
   let k:=(kshr .u32 g d);let l:=(kand .u32 k 1);gd ((0:Int)<=d) <|bif (l==1) then
    let m:=(Kd.nth (.int .u8) a (Int.toNat b));let n:=(kor .u8 m j);let o:=(List.set a (Int.toNat b) n);gd ((0:Int)<=b/\b<(a.length:Int)/\(Int.toNat b)<a.length/\(0:Int)<=b/\b<(a.length:Int)/\(Int.toNat b)<a.length) <|some (f,o)
   else
    some (f,a):Option (Int×Li)).bind fun (p,q)=>
   let s:=(wb .i64 (d-1));next s p q
 else
  some (e,a)
def zL.l0 (K:Nat) (a b:Int) (n:Nat):Int->Int->Li->Option (Int×Li):=wA (zL.r0 K a b) (fun _ _ _=>none) n
def zL (K:Nat) (d e a f:Int) (b:Li):Option (Int×Int×Li):=
 (kO K d e a f b).bind fun g=>
 bif (g != 0) then
  some (g,a,b)
 else
  let h:=(wb .i64 (e-1));(zL.l0 K d f K h a b:Option (Int×Li)).bind fun (i,j)=>
   some (0,i,j)
def xp (_K:Nat) (a:Li):Option Li:=
 gd (a≠[]) <|let b:=(([]:Li)++a);gd (((([]:Li).length:Int)+(a.length:Int))*1<=70368744177664) <|some b
def xP (K:Nat) (_d _e:Int) (a:Li):Option Li:=
 (xp K a).bind fun b=>
 some b
def wL.r0 (K:Nat) (e f:Int) (g:Li) (next:Int->Int->Li->Option (Int×Li)) (a b:Int) (d:Li):Option (Int×Li):=
 let h:=(decide (a<e));bif h then
  (kE K a 0 0 g).bind fun i=>
  (zL K (wb .u32 i) 1 b f d).bind fun (_m,j,k)=>
  let l:=(wb .i64 (a+1));next l j k
 else
  some (b,d)
def wL.l0 (K:Nat) (a b:Int) (d:Li) (n:Nat):Int->Int->Li->Option (Int×Li):=wA (wL.r0 K a b d) (fun _ _ _=>none) n
def wL.r1 (K:Nat) (b:Li) (f _m _n _o _p _q _s _t _u _w _y _z _A _B _D _E _F _G _H _I:Int) (_J:Li) (next:Int->Int->Li->Option (Int×Li)) (a d:Int) (e:Li):Option (Int×Li):=
 let g:=(decide (a<f));bif g then
  let h:=(Kd.nth (.int .i64) b (Int.toNat a));gd ((0:Int)<=a/\a<(b.length:Int)) <|let i:=(wb .u32 h);(zv K i 1 0 d e).bind fun (_L,j,k)=>
  let l:=(wb .i64 (a+1));next l j k
 else
  some (d,e)
def wL.l1 (K:Nat) (a:Li) (b d e f g h i j k l m o p q s t u w y z:Int) (A:Li) (n:Nat):Int->Int->Li->Option (Int×Li):=wA (wL.r1 K a b d e f g h i j k l m o p q s t u w y z A) (fun _ _ _=>none) n
def wL.r2 (K:Nat) (b:List (Int×Int)) (g _m _n _o _p _q _s _t _u _w _y _z _A _B _D _E _F _G _H _I:Int) (_J _L:Li) (next:Int->Int->Li->Option (Int×Li)) (a d:Int) (e:Li):Option (Int×Li):=
 let h:=(decide (a<g));bif h then
  let f:=(Kd.nth (.pair (.int .i64) (.int .i64)) b (Int.toNat a));gd ((0:Int)<=a/\a<(b.length:Int)) <|let i:=(wb .u32 f.1);(zv K i f.2 0 d e).bind fun (_M,j,k)=>
  let l:=(wb .i64 (a+1));next l j k
 else
  some (d,e)
def wL.l2 (K:Nat) (a:List (Int×Int)) (b d e f g h i j k l m o p q s t u w y z:Int) (A B:Li) (n:Nat):Int->Int->Li->Option (Int×Li):=wA (wL.r2 K a b d e f g h i j k l m o p q s t u w y z A B) (fun _ _ _=>none) n
def wL (K:Nat) (F G H I J L M N O z b d e f g h i j k l m n o p q s t u w:Int) (y a:Li):Option (Li×Int):=
 (kj K F G H I J L M N O z).bind fun P=>
 bif (P != 0) then
  some (([]:Li),P)
 else
  (qd K F G H I J L M N O z b d e f g h i j k l m n o p q s t u w y a).bind fun T=>
  bif (!T) then
   some (([]:Li),1)
  else
   (vB K z).bind fun U=>
   (wv K b d e f g h i j k l m n o p q s t u w y a).bind fun Q=>
   (wL.l2 K Q (Q.length:Int) b d e f g h i j k l m n o p q s t u w y a K 0 0 U:Option (Int×Li)).bind fun (V,W)=>
    (wL.l1 K a (a.length:Int) b d e f g h i j k l m n o p q s t u w y K 0 V W:Option (Int×Li)).bind fun (R,X)=>
     (jq K ).bind fun Y=>
     (qH K b d e f g h i j k l m n o p q s t u w y a).bind fun Z=>
     (qV K Z 0 65535 0 false 0 Y).bind fun (_ai,A,B,aa,ab,ad)=>
     (kz K A B aa false ab ad).bind fun (S,D,E)=>
     (xh K A B S true D E).bind fun _=>
     (xH K E).bind fun ae=>
     (kZ K A B S true D E).bind fun _=>
     (wL.l0 K D R ae K 0 0 X:Option (Int×Li)).bind fun (af,ag)=>
      (xP K af R ag).bind fun ah=>
      some (ah,0)
def zf.r0 (_K:Nat) (b d:Li) (e:Int) (next:Int->Option ((Unit)⊕(Bool))) (a:Int):Option ((Unit)⊕(Bool)):=
 let f:=(decide (a<e));bif f then
  let g:=(Kd.nth (.int .u8) b (Int.toNat a));gd ((0:Int)<=a/\a<(b.length:Int)) <|let h:=(Kd.nth (.int .u8) d (Int.toNat a));gd ((0:Int)<=a/\a<(d.length:Int)) <|bif (g != h) then
   some (.inr false)
  else
   let i:=(wb .i64 (a+1));next i
 else
  some (.inl ())
def zf.l0 (K:Nat) (a b:Li) (d:Int) (n:Nat):Int->Option ((Unit)⊕(Bool)):=wA (zf.r0 K a b d) (fun _=>none) n
def zf (K:Nat) (a b:Li):Option Bool:=
 let d:=((a.length:Int) != (b.length:Int));bif d then
  some false
 else
  (zf.l0 K a b (a.length:Int) K 0:Option ((Unit)⊕(Bool))).bind fun z=>match z with
  | .inl _=>
   some true
  | .inr r=>
   some r
def zM.r0 (K:Nat) (_l:Li) (e _m _n _o _p _q _s _t _u _w _y _z _A _B _D _E _F _G _H _I _J _L _M _N _O _P _Q _R _S _T:Int) (_U f:Li) (next:Int->Int->Li->Option Li) (b g:Int) (a:Li):Option Li:=
 let h:=(decide (b<e));bif h then
  (wj K 1 0 g f).bind fun (d,i)=>
  let j:=(a++[d]);gd (((a.length:Int)+([d].length:Int))*8<=70368744177664) <|let k:=(wb .i64 (b+1));next k i j
 else
  some a
def zM.l0 (K:Nat) (a:Li) (b d e f g h i j k l m o p q s t u w y z A B D E F G H I J L:Int) (M N:Li) (n:Nat):Int->Int->Li->Option Li:=wA (zM.r0 K a b d e f g h i j k l m o p q s t u w y z A B D E F G H I J L M N) (fun _ _ _=>none) n
def zM (K:Nat) (B D E F G H I J b f:Int) (L:Li):Option (Int×Int×Int×Int×Int×Int×Int×Int×Int×Int×Int×Int×Int×Int×Int×Int×Int×Int×Int×Li×Li×Int):=
 (kj K B D E F G H I J b f).bind fun P=>
 bif (P != 0) then
  some (0,0,0,0,0,0,0,0,0,0,0,0,0,0,0,0,0,0,0,([]:Li),([]:Li),P)
 else
  let U:=((L.length:Int) != f);bif U then
   some (0,0,0,0,0,0,0,0,0,0,0,0,0,0,0,0,0,0,0,([]:Li),([]:Li),140)
  else
   (xH K L).bind fun a=>
   (wj K 2 0 0 a).bind fun (g,V)=>
   (wj K 4 0 V a).bind fun (h,W)=>
   (
    (wj K 3 0 W a).bind fun (X,Y)=>
    let Z:=(wb .i64 (X-4));(wj K 3 0 Y a).bind fun (aa,ab)=>
    let ad:=(wb .i64 (aa-4));(wj K 3 0 ab a).bind fun (ae,af)=>
    let ag:=(wb .i64 (ae-4));(wj K 3 0 af a).bind fun (ah,ai)=>
    let aj:=(wb .i64 (ah-4));(wj K 3 0 ai a).bind fun (ak,al)=>
    let am:=(wb .i64 (ak-4));(wj K 3 0 al a).bind fun (an,ao)=>
    let ap:=(wb .i64 (an-4));(wj K 3 0 ao a).bind fun (aq,au)=>
    let aw:=(wb .i64 (aq-4));(wj K 3 0 au a).bind fun (ay,az)=>
    let aA:=(wb .i64 (ay-4));some (az,Z,ad,ag,aj,am,ap,aw,aA):Option (Int×Int×Int×Int×Int×Int×Int×Int×Int)).bind fun (aB,i,j,k,l,m,n,o,p)=>
    (wj K 1 0 aB a).bind fun (d,Q)=>
    (
     bif (d==1) then
      (
       (wj K 5 0 Q a).bind fun (aD,aE)=>
       (wj K 5 0 aE a).bind fun (aF,aG)=>
       (wj K 5 0 aG a).bind fun (aH,aI)=>
       (wj K 5 0 aI a).bind fun (aJ,aL)=>
       some (aL,aD,aF,aH,aJ):Option (Int×Int×Int×Int×Int)).bind fun (aM,aN,aO,aP,aQ)=>
       some (aM,aN,aO,aP,aQ)
     else
      some (Q,0,0,0,0):Option (Int×Int×Int×Int×Int)).bind fun (aR,q,s,t,u)=>
     (wj K 2 0 aR a).bind fun (e,R)=>
     let aS:=(decide (e>0));(
      bif aS then
       (wj K 6 0 R a).bind fun (aT,aU)=>
       let aV:=(wb .i64 (aT+16));some (aU,aV)
      else
       some (R,0):Option (Int×Int)).bind fun (aW,w)=>
      (wj K 8 0 aW a).bind fun (y,aX)=>
      (wj K 3 0 aX a).bind fun (z,aY)=>
      (wj K 7 0 aY a).bind fun (M,N)=>
      (zV K 0 0 N a).bind fun (aZ,a0,a1)=>
      (km K M 0 65535 aZ a0 a1 0 N a).bind fun (a2,_bd,_be,_bf,_bg,S)=>
      let a3:=(decide (M>b));let a4:=(bif (a2 != 0) then true else a3);bif a4 then
       some (0,0,0,0,0,0,0,0,0,0,0,0,0,0,0,0,0,0,0,([]:Li),([]:Li),140)
      else
       let O:=(wb .i64 (b-M));let A:=(S++(List.replicate (Int.toNat O) (0:Int)));gd ((0:Int)<=O/\((S.length:Int)+O)*8<=70368744177664) <|(zi K g h i j k l m n o p d q s t u w e y z A).bind fun a5=>
       (wX K B D E F G H I J b f g h i j k l m n o p d q s t u w e y z A).bind fun a6=>
       let a7:=(imin a5 a6);(zM.l0 K L a7 B D E F G H I J b f g h i j k l m n o p d q s t u w e y z A a K 0 N ([]:Li):Option Li).bind fun T=>
        (wL K B D E F G H I J b f g h i j k l m n o p d q s t u w e y z A T).bind fun (a8,a9)=>
        (
         bif (a9 != 0) then
          some true
         else
          (zf K a8 L).bind fun ba=>
          some (!ba):Option Bool).bind fun bb=>
         bif bb then
          some (0,0,0,0,0,0,0,0,0,0,0,0,0,0,0,0,0,0,0,([]:Li),([]:Li),140)
         else
          some (g,h,i,j,k,l,m,n,o,p,d,q,s,t,u,w,e,y,z,A,T,0)
def xq.r0 (_K:Nat) (f:Int) (g:Li) (j:Int) (next:Int->List Li->Option ((List Li))) (b:Int) (a:List Li):Option ((List Li)):=
 let k:=(decide (b<j));bif k then
  let h:=(Kd.nth (.int .i16) g (Int.toNat b));gd ((0:Int)<=b/\b<(g.length:Int)) <|let d:=(Int.tmod b f);gd (f≠0) <|gd (f≠0) <|let e:=(Int.toNat d);gd ((0:Int)<=d/\d<(a.length:Int)) <|let i:=(List.getD a e []);gd (e<a.length) <|let l:=(i++[h]);gd (((i.length:Int)+([h].length:Int))*2<=70368744177664) <|gd ((0:Int)<=d/\d<(a.length:Int)) <|let m:=(List.set a e l);gd (e<a.length) <|let n:=(wb .i64 (b+1));next n m
 else
  some a
def xq.l0 (K:Nat) (a:Int) (b:Li) (d:Int) (n:Nat):Int->List Li->Option ((List Li)):=wA (xq.r0 K a b d) (fun _ _=>none) n
def xq (K:Nat) (b:Li) (a:Int):Option ((List Li)×Int):=
 let e:=(decide (a<1));let f:=(decide (a>2));let d:=(bif e then true else f);let g:=(Int.tmod (b.length:Int) a);let h:=(bif d then true else (g != 0));gd (((!d)=true->a≠0)) <|bif h then
  some (([]:List Li),1)
 else
  let i:=(List.replicate (Int.toNat a) ([]:Li));gd ((0:Int)<=a/\a<=a/\a*24<=140737488355328) <|(xq.l0 K a b (b.length:Int) K 0 i:Option ((List Li))).bind fun j=>
   some (j,0)
def kq (_K:Nat) (a:Int):Option Unit:=
 gd (0<=a/\a*8<=140737488355328) <| some ()
def qq (K:Nat) (a b:Li):Option Li:=
 (
  let d:=(wb .i64 (79+(a.length:Int)));let f:=(decide (d<0));bif f then
   none
  else
   some d:Option Int).bind fun g=>
  (kq K g).bind fun _=>
  (
   let e:=(([]:Li)++b);gd (((([]:Li).length:Int)+(b.length:Int))*8<=70368744177664) <|gd (((e.length:Int)+(a.length:Int))*8<=70368744177664) <|some (e++a):Option Li).bind fun h=>
   some h
def kW (K:Nat) (a b:Li):Option Li:=
 (qq K a b).bind fun d=>
 some d
def w6.r0 (_K:Nat) (g h:Int) (a:Li) (next:Int->Int->Option Int) (f b:Int):Option Int:=
 let i:=(decide (b<(a.length:Int)));bif i then
  let d:=(wb .i64 (b-g));let j:=(Kd.nth (.int .i64) a (Int.toNat d));gd ((0:Int)<=d/\d<(a.length:Int)) <|let e:=(wb .i64 (b-h));let k:=(Kd.nth (.int .i64) a (Int.toNat e));gd ((0:Int)<=e/\e<(a.length:Int)) <|let l:=(wb .i64 (j*k));let m:=(wb .i64 (f+l));let n:=(wb .i64 (b+1));next m n
 else
  some f
def w6.l0 (K:Nat) (a b:Int) (d:Li) (n:Nat):Int->Int->Option Int:=wA (w6.r0 K a b d) (fun _ _=>none) n
def w6 (K:Nat) (a b:Int) (d:Li):Option Int:=
 (w6.l0 K a b d K 0 79:Option Int).bind fun e=>
  some e
def jQ.r0 (_K:Nat) (e:Int) (next:Int->Int->Option Int) (a b:Int):Option Int:=
 let f:=(decide (b>0));bif f then
  (
   let d:=(kor .u64 a b);let g:=(wb .u64 (d*d));let h:=(decide (g<=e));bif h then
    some d
   else
    some a:Option Int).bind fun i=>
   let j:=(kshr .u64 b 1);next i j
 else
  some a
def jQ.l0 (K:Nat) (a:Int) (n:Nat):Int->Int->Option Int:=wA (jQ.r0 K a) (fun _ _=>none) n
def jQ (K:Nat) (a:Int):Option Int:=
 (jQ.l0 K a K 0 2147483648:Option Int).bind fun b=>
  some (wb .u32 b)
def kl.r0 (_K:Nat) (d:Int) (next:Int->Int->Option Int) (b a:Int):Option Int:=
 let e:=(decide (a<3));bif e then
  (
   let f:=(List.getD ([140,192,230]:Li) (Int.toNat a) 0);gd ((0:Int)<=a/\a<3) <|let g:=(decide (d>=f));bif g then
    let h:=(wb .i64 (b+1));some h
   else
    some b:Option Int).bind fun i=>
   let j:=(wb .i64 (a+1));next i j
 else
  some b
def kl.l0 (K:Nat) (a:Int) (n:Nat):Int->Int->Option Int:=wA (kl.r0 K a) (fun _ _=>none) n
def kl (K:Nat) (b d e:Int):Option Int:=
 (jQ K d).bind fun f=>
 (jQ K e).bind fun g=>
 let a:=(wb .i64 ((wb .i64 f)*(wb .i64 g)));let h:=(decide (b<=0));let i:=(decide (a<=0));let j:=(bif h then true else i);bif j then
  some 0
 else
  let k:=(wb .i64 (b*256));let l:=(wb .i64 (Int.tdiv k a));gd (a≠0) <|(kl.l0 K l K 0 0:Option Int).bind fun m=>
   some m
def kv (_K:Nat) (a d:Li):Option Li:=
 let b:=(wb .i64 ((a.length:Int)-79));let e:=((a.take (Int.toNat (a.length:Int))).drop (Int.toNat b));gd ((0:Int)<=b/\b<=(a.length:Int)/\(a.length:Int)<=(a.length:Int)) <|some (cpy 0 d e)
def w5.r0 (K:Nat) (_l f:Li) (next:Int->Int->Int->Option (Int×Int)) (d b a:Int):Option (Int×Int):=
 let g:=(decide (a<=79));bif g then
  (
   (w6 K 0 a f).bind fun e=>
   let h:=(decide (e>b));bif h then
    some (a,e)
   else
    some (d,b):Option (Int×Int)).bind fun (i,j)=>
   let k:=(wb .i64 (a+1));next i j k
 else
  some (d,b)
def w5.l0 (K:Nat) (a b:Li) (n:Nat):Int->Int->Int->Option (Int×Int):=wA (w5.r0 K a b) (fun _ _ _=>none) n
def w5.r1 (_K:Nat) (d:Li) (e:Int) (_k:Li) (next:Int->Li->Option Li) (a:Int) (b:Li):Option Li:=
 let f:=(decide (a<e));bif f then
  let g:=(Kd.nth (.int .i16) d (Int.toNat a));gd ((0:Int)<=a/\a<(d.length:Int)) <|let h:=(wb .i64 g);let i:=(List.set b (Int.toNat a) h);gd ((0:Int)<=a/\a<(b.length:Int)/\(Int.toNat a)<b.length) <|let j:=(wb .i64 (a+1));next j i
 else
  some b
def w5.l1 (K:Nat) (a:Li) (b:Int) (d:Li) (n:Nat):Int->Li->Option Li:=wA (w5.r1 K a b d) (fun _ _=>none) n
def w5 (K:Nat) (a b:Li):Option (Int×Int×Int×Li):=
 let h:=(decide ((a.length:Int)>120));bif h then
  some (0,0,2,b)
 else
  let i:=(List.replicate (Int.toNat (a.length:Int)) (0:Int));gd ((0:Int)<=(a.length:Int)/\(a.length:Int)<=(a.length:Int)/\(a.length:Int)*8<=140737488355328) <|(w5.l1 K a (a.length:Int) b K 0 i:Option Li).bind fun j=>
   (kW K j b).bind fun d=>
   (w6 K 0 16 d).bind fun k=>
   (w5.l0 K b d K 16 k 17:Option (Int×Int)).bind fun (e,l)=>
    (w6 K 0 0 d).bind fun m=>
    (w6 K e e d).bind fun n=>
    (kl K l (wb .u64 m) (wb .u64 n)).bind fun f=>
    (kv K d b).bind fun g=>
    bif (f==0) then
     some (0,0,0,g)
    else
     some (e,f,0,g)
def kr (_K:Nat) (a:Int):Option Unit:=
 gd (0<=a/\a*2<=140737488355328) <| some ()
def qS (K:Nat) (a b:Li):Option Li:=
 (
  let d:=(wb .i64 (0+(b.length:Int)));let g:=(decide (d<0));bif g then
   none
  else
   let e:=(wb .i64 (d+(a.length:Int)));let h:=(decide (e<0));bif h then
    none
   else
    some e:Option Int).bind fun i=>
  (kr K i).bind fun _=>
  (
   let f:=(([]:Li)++b);gd (((([]:Li).length:Int)+(b.length:Int))*2<=70368744177664) <|gd (((f.length:Int)+(a.length:Int))*2<=70368744177664) <|some (f++a):Option Li).bind fun j=>
   some j
def kF (K:Nat) (d a _i:Int) (b _j _k:Li):Option Int:=
 let e:=(Kd.nth (.int .i16) b (Int.toNat a));let f:=(wb .i64 e);let g:=(wb .i64 (d*f));gd ((0:Int)<=a/\a<(b.length:Int)) <|(wK K g 15).bind fun h=>
 some h
def jz (_K:Nat) (f g b:Int) (_p d _q:Li):Option Int:=
 let h:=(wb .i64 (2*f));let i:=(wb .i64 (h+1));let j:=(wb .i64 (i+b));let k:=(wb .i64 (2*g));let l:=(wb .i64 (k+1));let m:=(wb .i64 (j*l));let e:=(wb .i64 (8*b));let a:=(Int.tmod m e);gd (e≠0) <|let n:=(Kd.nth (.int .i16) d (Int.toNat a));gd ((0:Int)<=a/\a<(d.length:Int)) <|let o:=(wb .i64 n);some o
def wG.r1 (K:Nat) (_q:Li) (e _s f g:Int) (h i j b _t:Li) (next:Int->Int->Option Int) (d a:Int):Option Int:=
 let k:=(decide (a<f));bif k then
  let l:=(Kd.nth (.int .i64) b (Int.toNat a));gd ((0:Int)<=a/\a<(b.length:Int)/\(Int.toNat a)<b.length) <|(jz K a e g h i j).bind fun m=>
  let n:=(wb .i64 (l*m));let o:=(wb .i64 (d+n));let p:=(wb .i64 (a+1));next o p
 else
  some d
def wG.l1 (K:Nat) (a:Li) (b d e f:Int) (g h i j k:Li) (n:Nat):Int->Int->Option Int:=wA (wG.r1 K a b d e f g h i j k) (fun _ _=>none) n
def wG.r0 (K:Nat) (f:Li) (d g:Int) (h i j e:Li) (next:Int->Li->Option Li) (a:Int) (b:Li):Option Li:=
 let k:=(decide (a<d));bif k then
  (wG.l1 K f a d (e.length:Int) g h i j e b K 0 0:Option Int).bind fun l=>
   (wK K l 15).bind fun m=>
   (qg K m).bind fun n=>
   let o:=(List.set b (Int.toNat a) n);gd ((0:Int)<=a/\a<(b.length:Int)/\(Int.toNat a)<b.length) <|let p:=(wb .i64 (a+1));next p o
 else
  some b
def wG.l0 (K:Nat) (a:Li) (b d:Int) (e f g h:Li) (n:Nat):Int->Li->Option Li:=wA (wG.r0 K a b d e f g h) (fun _ _=>none) n
def wG.r2 (K:Nat) (_p d:Li) (f g:Int) (h i j:Li) (next:Int->Li->Option Li) (a:Int) (b:Li):Option Li:=
 let k:=(decide (a<f));bif k then
  let l:=(Kd.nth (.int .i16) d (Int.toNat a));gd ((0:Int)<=a/\a<(d.length:Int)) <|let m:=(wb .i64 l);(kF K m a g h i j).bind fun e=>
  let n:=(b++[e]);gd (((b.length:Int)+([e].length:Int))*8<=70368744177664) <|let o:=(wb .i64 (a+1));next o n
 else
  some b
def wG.l2 (K:Nat) (a b:Li) (d e:Int) (f g h:Li) (n:Nat):Int->Li->Option Li:=wA (wG.r2 K a b d e f g h) (fun _ _=>none) n
def wG (K:Nat) (b:Li) (a:Int) (e f d:Li):Option (Li×Int×Li):=
 let j:=((b.length:Int) != a);bif j then
  some (([]:Li),1,d)
 else
  let g:=(wb .i64 (2*a));gd (0<=g/\g*8<=140737488355328) <|(qS K b d).bind fun h=>
  (wG.l2 K b h (h.length:Int) a e f d K 0 (List.replicate 0 (0:Int)):Option Li).bind fun k=>
   let i:=(List.replicate (Int.toNat a) (0:Int));gd ((0:Int)<=a/\a<=a/\a*4<=140737488355328) <|let l:=(i.length:Int);(wG.l0 K b l a e f d k K 0 i:Option Li).bind fun m=>
    some (m,0,(cpy 0 d b))
def kI.r0 (_K:Nat) (b:Li) (g:Int) (next:Int->Int->Option Int) (d a:Int):Option Int:=
 let h:=(decide (a<g));bif h then
  let i:=(Kd.nth (.int .i32) b (Int.toNat a));gd ((0:Int)<=a/\a<(b.length:Int)) <|let e:=(wb .i64 i);let j:=(wb .i64 (0-e));let k:=(imax e j);let f:=(wb .i64 (Int.tdiv k 8));let l:=(wb .i64 (f*f));let m:=(wb .u64 l);let n:=(wb .u64 (d+m));let o:=(wb .i64 (a+1));next n o
 else
  some d
def kI.l0 (K:Nat) (a:Li) (b:Int) (n:Nat):Int->Int->Option Int:=wA (kI.r0 K a b) (fun _ _=>none) n
def kI (K:Nat) (a:Li):Option Int:=
 (kI.l0 K a (a.length:Int) K 0 0:Option Int).bind fun b=>
  some b
def qG.r0 (K:Nat) (g:Li) (k:Int) (h:Li) (next:Int->Li->Option Li) (a:Int) (b:Li):Option Li:=
 let l:=(decide (a<k));bif l then
  let i:=(0+(Int.toNat a)*1);gd ((0:Int)<=a/\a<9) <|let e:=(List.getD h (i+0) 0);gd (i+1<=9) <|let d:=(wb .i64 (a+1));let j:=(0+(Int.toNat d)*1);gd ((0:Int)<=d/\d<9) <|let f:=(List.getD h (j+0) 0);gd (j+1<=9) <|let m:=((g.take (Int.toNat f)).drop (Int.toNat e));gd ((0:Int)<=e/\e<=f/\f<=(g.length:Int)) <|(kI K m).bind fun n=>
  gd ((0:Int)<=a/\a<(b.length:Int)) <|let o:=(List.set b (Int.toNat a) n);gd ((Int.toNat a)<b.length) <|next d o
 else
  some b
def qG.l0 (K:Nat) (a:Li) (b:Int) (d:Li) (n:Nat):Int->Li->Option Li:=wA (qG.r0 K a b d) (fun _ _=>none) n
def qG (K:Nat) (a:Li):Option (Li×Int):=
 (jg K (a.length:Int)).bind fun (b,d,e,f,g,h,i,j,k)=>
 let l:=[0,b,d,e,f,g,h,i,j];bif (!k) then
  some (([]:Li),1)
 else
  let m:=((List.replicate 8 (0:Int)).length:Int);(qG.l0 K a m l K 0 (List.replicate 8 (0:Int)):Option Li).bind fun n=>
   some (n,0)
def j8.r0 (_K:Nat) (b:Li) (g:Int) (next:Int->Int->Option Int) (h a:Int):Option Int:=
 let i:=(decide (a>0));bif i then
  let d:=(wb .i64 (2*a));let j:=(Kd.nth (.int .u64) b (Int.toNat d));gd ((0:Int)<=d/\d<(b.length:Int)) <|let e:=(wb .i64 (d+1));let k:=(Kd.nth (.int .u64) b (Int.toNat e));gd ((0:Int)<=e/\e<(b.length:Int)) <|let l:=(wb .u64 (j+k));let f:=(wb .u64 (h+l));let m:=(decide (f>g));bif m then
   some a
  else
   let n:=(wb .i64 (a-1));next f n
 else
  some a
def j8.l0 (K:Nat) (a:Li) (b:Int) (n:Nat):Int->Int->Option Int:=wA (j8.r0 K a b) (fun _ _=>none) n
def j8 (K:Nat) (a:Li):Option (Int×Int):=
 (qG K a).bind fun (d,b)=>
 bif (b != 0) then
  some (0,b)
 else
  (kI K a).bind fun e=>
  let f:=(wb .u64 (Int.tdiv e 4096));(j8.l0 K d f K 0 3:Option Int).bind fun g=>
   some (g,0)
def kg (_K:Nat) (a:Li):Option Li:=
 gd (a≠[]) <|let b:=(([]:Li)++a);gd (((([]:Li).length:Int)+(a.length:Int))*4<=70368744177664) <|some b
def yM (K:Nat) (d:Li) (f:Int):Option (Li×Int):=
 (kK K (d.length:Int) f).bind fun (a,e)=>
 bif (e != 0) then
  some (([]:Li),e)
 else
  (kg K d).bind fun b=>
  let g:=(List.take (Int.toNat a) b++List.replicate (b.length-(Int.toNat a)) (0:Int));gd ((0:Int)<=a/\a<(b.length:Int)/\(Int.toNat a)<b.length) <|some (g,0)
def xB (K:Nat) (j:Int):Option (Li×Int):=
 (jg K j).bind fun (a,b,d,e,f,g,h,i,k)=>
 bif (!k) then
  some (([]:Li),1)
 else
  let l:=[(0,(a,(b,(d,(e,(f,(g,(h,i)))))))).1,(0,(a,(b,(d,(e,(f,(g,(h,i)))))))).2.1,(0,(a,(b,(d,(e,(f,(g,(h,i)))))))).2.2.1,(0,(a,(b,(d,(e,(f,(g,(h,i)))))))).2.2.2.1,(0,(a,(b,(d,(e,(f,(g,(h,i)))))))).2.2.2.2.1,(0,(a,(b,(d,(e,(f,(g,(h,i)))))))).2.2.2.2.2.1,(0,(a,(b,(d,(e,(f,(g,(h,i)))))))).2.2.2.2.2.2.1,(0,(a,(b,(d,(e,(f,(g,(h,i)))))))).2.2.2.2.2.2.2.1,(0,(a,(b,(d,(e,(f,(g,(h,i)))))))).2.2.2.2.2.2.2.2];some (l,0)
def yi.r0 (_K:Nat)  (next:Int->Int->Int->Option Int) (b d e:Int):Option Int:=
 let g:=(decide (e<8));bif g then
  let h:=(wb .u64 (b*b));let f:=(kshr .u64 h 30);let a:=(kshr .u64 f 31);let i:=(kshr .u64 f a);gd ((0:Int)<=a) <|let j:=(kshl .i32 d 1);let k:=(wb .i32 a);let l:=(kor .i32 j k);let m:=(wb .i64 (e+1));next i l m
 else
  some d
def yi.l0 (K:Nat)  (n:Nat):Int->Int->Int->Option Int:=wA (yi.r0 K) (fun _ _ _=>none) n
def yi (K:Nat) (b:Int):Option (Int×Int):=
 (kY K b).bind fun f=>
 let a:=(wb .i64 (f-1));let g:=(decide (a<0));bif g then
  some (0,1)
 else
  let d:=(wb .i64 (30-a));let h:=(kshl .u64 b (imax d 0));let e:=(wb .i64 (a-30));let i:=(kshr .u64 h (imax e 0));gd ((0:Int)<=(imax d 0)/\(0:Int)<=(imax e 0)) <|let j:=(wb .i32 a);(yi.l0 K K i j 0:Option Int).bind fun k=>
   some (k,0)
def ky.r0 (_K:Nat) (e:Int) (next:Int->Li->Option Li) (a:Int) (d:Li):Option Li:=
 let f:=(decide (a<8));bif f then
  let b:=(0+(Int.toNat a)*1);let g:=(List.getD d (b+0) 0);let h:=(wb .i64 (Int.tdiv e 8));let i:=(wb .i64 (g-h));let j:=(List.set d b i);gd ((0:Int)<=a/\a<8/\b+1<=8/\(0:Int)<=a/\a<8/\b<8) <|let k:=(wb .i64 (a+1));next k j
 else
  some d
def ky.l0 (K:Nat) (a:Int) (n:Nat):Int->Li->Option Li:=wA (ky.r0 K a) (fun _ _=>none) n
def ky.r1 (K:Nat) (b f:Li) (k:Int) (next:Int->Int->Li->Option (Int×Li)) (g a:Int) (h:Li):Option (Int×Li):=
 let l:=(decide (a<k));bif l then
  let m:=(Kd.nth (.int .u64) f (Int.toNat a));gd ((0:Int)<=a/\a<(f.length:Int)) <|let d:=(wb .i64 (a+1));let n:=(Kd.nth (.int .i64) b (Int.toNat d));gd ((0:Int)<=d/\d<(b.length:Int)) <|let o:=(Kd.nth (.int .i64) b (Int.toNat a));gd ((0:Int)<=a/\a<(b.length:Int)) <|let p:=(wb .i64 (n-o));let i:=(wb .u64 p);let q:=(wb .u64 (Int.tdiv m i));gd (i≠0) <|let s:=(wb .u64 (q+1));(yi K s).bind fun (t,_A)=>
  let u:=(wb .i32 (Int.tdiv t 2));let w:=(wb .i64 u);let e:=(0+(Int.toNat a)*1);let j:=(List.set h e w);gd ((0:Int)<=a/\a<8/\e<8) <|let y:=(List.getD j (e+0) 0);let z:=(wb .i64 (g+y));gd ((0:Int)<=a/\a<8/\e+1<=8) <|next z d j
 else
  some (g,h)
def ky.l1 (K:Nat) (a b:Li) (d:Int) (n:Nat):Int->Int->Li->Option (Int×Li):=wA (ky.r1 K a b d) (fun _ _ _=>none) n
def ky (K:Nat) (b:Li):Option (Int×Int×Int×Int×Int×Int×Int×Int×Int):=
 (qG K b).bind fun (d,e)=>
 bif (e != 0) then
  some (0,0,0,0,0,0,0,0,e)
 else
  (xB K (b.length:Int)).bind fun (f,_i)=>
  (ky.l1 K f d (d.length:Int) K 0 0 (List.replicate 8 (0:Int)):Option (Int×Li)).bind fun (g,h)=>
   (ky.l0 K g K 0 h:Option Li).bind fun a=>
    some ((List.getD a 0 0),(List.getD a 1 0),(List.getD a 2 0),(List.getD a 3 0),(List.getD a 4 0),(List.getD a 5 0),(List.getD a 6 0),(List.getD a 7 0),0)
def xA (_K:Nat)  : Option Unit:=
 some ()
def qz.r0 (_K:Nat) (g h i j k l m n:Int) (o:Li) (next:Int->Int->Option Int) (d a:Int):Option Int:=
 let p:=(decide (a<8));bif p then
  let e:=(List.getD [g,h,i,j,k,l,m,n] (Int.toNat a) 0);gd ((0:Int)<=a/\a<8) <|let b:=(0+(Int.toNat a)*1);gd ((0:Int)<=a/\a<8) <|let f:=(List.getD o (b+0) 0);gd (b+1<=8) <|let q:=(wb .i64 (e-f));gd ((0:Int)<=a/\a<8) <|gd (b+1<=8) <|let s:=(wb .i64 (f-e));let t:=(imax q s);let u:=(wb .i64 (d+t));let w:=(wb .i64 (a+1));next u w
 else
  some d
def qz.l0 (K:Nat) (a b d e f g h i:Int) (j:Li) (n:Nat):Int->Int->Option Int:=wA (qz.r0 K a b d e f g h i j) (fun _ _=>none) n
def qz (K:Nat) (a b d e f g h i j k l m n o p q:Int):Option Int:=
 let s:=(List.getD [a,b,d,e,f,g,h,i] 0 0);let t:=(List.getD [a,b,d,e,f,g,h,i] 1 0);let u:=(List.getD [a,b,d,e,f,g,h,i] 2 0);let w:=(List.getD [a,b,d,e,f,g,h,i] 3 0);let y:=(List.getD [a,b,d,e,f,g,h,i] 4 0);let z:=(List.getD [a,b,d,e,f,g,h,i] 5 0);let A:=(List.getD [a,b,d,e,f,g,h,i] 6 0);let B:=(List.getD [a,b,d,e,f,g,h,i] 7 0);(qz.l0 K s t u w y z A B [j,k,l,m,n,o,p,q] K 0 0:Option Int).bind fun D=>
  some D
def jG.r0 (K:Nat) (e a:Li) (next:Int->Int->Option Int) (f g:Int):Option Int:=
 let p:=(decide (f<16));bif p then
  (
   let h:=(List.getD e 0 0);let i:=(List.getD e 1 0);let j:=(List.getD e 2 0);let k:=(List.getD e 3 0);let l:=(List.getD e 4 0);let m:=(List.getD e 5 0);let n:=(List.getD e 6 0);let o:=(List.getD e 7 0);let b:=(0+(Int.toNat f)*8);gd ((0:Int)<=f/\f<16) <|let q:=(List.getD a (b+0) 0);let s:=(List.getD a (b+1) 0);let t:=(List.getD a (b+2) 0);let u:=(List.getD a (b+3) 0);let w:=(List.getD a (b+4) 0);let y:=(List.getD a (b+5) 0);let z:=(List.getD a (b+6) 0);let A:=(List.getD a (b+7) 0);gd (b+8<=128) <|(qz K h i j k l m n o q s t u w y z A).bind fun B=>
   let d:=(0+(Int.toNat g)*8);gd ((0:Int)<=g/\g<16) <|let D:=(List.getD a (d+0) 0);let E:=(List.getD a (d+1) 0);let F:=(List.getD a (d+2) 0);let G:=(List.getD a (d+3) 0);let H:=(List.getD a (d+4) 0);let I:=(List.getD a (d+5) 0);let J:=(List.getD a (d+6) 0);let L:=(List.getD a (d+7) 0);gd (d+8<=128) <|(qz K h i j k l m n o D E F G H I J L).bind fun M=>
   let N:=(decide (B<M));bif N then
    some f
   else
    some g:Option Int).bind fun O=>
   let P:=(wb .i64 (f+1));next P O
 else
  some g
def jG.l0 (K:Nat) (a b:Li) (n:Nat):Int->Int->Option Int:=wA (jG.r0 K a b) (fun _ _=>none) n
def jG (K:Nat) (g:Li):Option (Int×Int×Int×Int×Int×Int×Int×Int×Int×Int):=
 (ky K g).bind fun (h,i,j,k,l,m,n,o,f)=>
 let a:=[h,i,j,k,l,m,n,o];bif (f != 0) then
  some (0,0,0,0,0,0,0,0,0,f)
 else
  (xA K ).bind fun _=>
  let b:=([0,0,0,0,0,0,0,0,192,128,64,0,0,(-64),(-128),(-192),384,256,128,0,0,(-128),(-256),(-384),512,384,192,0,(-64),(-192),(-320),(-512),(-192),(-128),(-64),0,0,64,128,192,(-384),(-256),(-128),0,0,128,256,384,256,256,0,0,(-128),(-128),(-128),(-128),(-128),(-128),256,256,0,0,(-128),(-128),(-192),(-64),64,192,192,64,(-64),(-192),192,64,(-64),(-192),(-192),(-64),64,192,512,0,0,(-64),(-64),(-128),(-128),(-128),0,384,128,0,(-64),(-128),(-128),(-192),0,0,320,128,0,(-128),(-128),(-192),(-64),(-64),(-64),320,128,0,(-128),(-128),128,128,128,128,(-128),(-128),(-128),(-128),256,128,128,64,0,(-64),(-192),(-320)]:Li);(jG.l0 K a b K 0 0:Option Int).bind fun e=>
   let d:=(0+(Int.toNat e)*8);let p:=(List.getD b (d+0) 0);let q:=(List.getD b (d+1) 0);let s:=(List.getD b (d+2) 0);let t:=(List.getD b (d+3) 0);let u:=(List.getD b (d+4) 0);let w:=(List.getD b (d+5) 0);let y:=(List.getD b (d+6) 0);let z:=(List.getD b (d+7) 0);gd ((0:Int)<=e/\e<16/\d+8<=128) <|(
    let A:=(List.getD a 0 0);let B:=(wb .i64 (A-p));let D:=(wb .i64 (B+64));let E:=(kshr .i64 D 7);(z4 K E (-4) 3).bind fun F=>
    let G:=(List.getD a 1 0);let H:=(wb .i64 (G-q));let I:=(wb .i64 (H+64));let J:=(kshr .i64 I 7);(z4 K J (-4) 3).bind fun L=>
    let M:=(List.getD a 2 0);let N:=(wb .i64 (M-s));let O:=(wb .i64 (N+64));let P:=(kshr .i64 O 7);(z4 K P (-4) 3).bind fun Q=>
    let R:=(List.getD a 3 0);let S:=(wb .i64 (R-t));let T:=(wb .i64 (S+64));let U:=(kshr .i64 T 7);(z4 K U (-4) 3).bind fun V=>
    let W:=(List.getD a 4 0);let X:=(wb .i64 (W-u));let Y:=(wb .i64 (X+64));let Z:=(kshr .i64 Y 7);(z4 K Z (-4) 3).bind fun aa=>
    let ab:=(List.getD a 5 0);let ad:=(wb .i64 (ab-w));let ae:=(wb .i64 (ad+64));let af:=(kshr .i64 ae 7);(z4 K af (-4) 3).bind fun ag=>
    let ah:=(List.getD a 6 0);let ai:=(wb .i64 (ah-y));let aj:=(wb .i64 (ai+64));let ak:=(kshr .i64 aj 7);(z4 K ak (-4) 3).bind fun al=>
    let am:=(List.getD a 7 0);let an:=(wb .i64 (am-z));let ao:=(wb .i64 (an+64));let ap:=(kshr .i64 ao 7);(z4 K ap (-4) 3).bind fun aq=>
    some (F,L,Q,V,aa,ag,al,aq):Option (Int×Int×Int×Int×Int×Int×Int×Int)).bind fun (au,aw,ay,az,aA,aB,aD,aE)=>
    some (e,au,aw,ay,az,aA,aB,aD,aE,0)
def xY (K:Nat) (a j k l m n o p q:Int):Option (Li×Int):=
 (qu K a j k l m n o p q).bind fun s=>
 bif (s != 0) then
  some (([]:Li),s)
 else
  (xA K ).bind fun _=>
  let t:=(List.getD WT ((Int.toNat a)*8+0) 0);let u:=(List.getD WT ((Int.toNat a)*8+1) 0);let w:=(List.getD WT ((Int.toNat a)*8+2) 0);let y:=(List.getD WT ((Int.toNat a)*8+3) 0);let z:=(List.getD WT ((Int.toNat a)*8+4) 0);let A:=(List.getD WT ((Int.toNat a)*8+5) 0);let B:=(List.getD WT ((Int.toNat a)*8+6) 0);let D:=(List.getD WT ((Int.toNat a)*8+7) 0);gd ((0:Int)<=a/\a<(16:Int)) <|(
   let E:=(wb .i64 (128*j));let F:=(wb .i64 (t+E));let G:=(wb .i32 F);let b:=(List.set (List.replicate 8 (0:Int)) 0 G);gd (0<((List.replicate 8 (0:Int)).length:Int)/\0<(List.replicate 8 (0:Int)).length) <|let H:=(wb .i64 (128*k));let I:=(wb .i64 (u+H));let J:=(wb .i32 I);let d:=(List.set b 1 J);gd (1<(b.length:Int)/\1<b.length) <|let L:=(wb .i64 (128*l));let M:=(wb .i64 (w+L));let N:=(wb .i32 M);let e:=(List.set d 2 N);gd (2<(d.length:Int)/\2<d.length) <|let O:=(wb .i64 (128*m));let P:=(wb .i64 (y+O));let Q:=(wb .i32 P);let f:=(List.set e 3 Q);gd (3<(e.length:Int)/\3<e.length) <|let R:=(wb .i64 (128*n));let S:=(wb .i64 (z+R));let T:=(wb .i32 S);let g:=(List.set f 4 T);gd (4<(f.length:Int)/\4<f.length) <|let U:=(wb .i64 (128*o));let V:=(wb .i64 (A+U));let W:=(wb .i32 V);let h:=(List.set g 5 W);gd (5<(g.length:Int)/\5<g.length) <|let X:=(wb .i64 (128*p));let Y:=(wb .i64 (B+X));let Z:=(wb .i32 Y);let i:=(List.set h 6 Z);gd (6<(h.length:Int)/\6<h.length) <|let aa:=(wb .i64 (128*q));let ab:=(wb .i64 (D+aa));let ad:=(wb .i32 ab);let ae:=(List.set i 7 ad);gd (7<(i.length:Int)/\7<i.length) <|some ae:Option Li).bind fun af=>
   some (af,0)
def z3.r1 (K:Nat) (_o:Li) (_p:Int) (_q:Li) (f:Int) (_s:Li) (_t _u:Int) (d:Li) (g:Int) (next:Int->Li->Option Li) (a:Int) (b:Li):Option Li:=
 let h:=(decide (a<g));bif h then
  let i:=(Kd.nth (.int .i32) d (Int.toNat a));gd ((0:Int)<=a/\a<(d.length:Int)) <|let j:=(wb .i64 i);let k:=(wb .i64 (j*(wb .i64 f)));(wK K k 16).bind fun l=>
  (qg K l).bind fun e=>
  let m:=(b++[e]);gd (((b.length:Int)+([e].length:Int))*4<=70368744177664) <|let n:=(wb .i64 (a+1));next n m
 else
  some b
def z3.l1 (K:Nat) (a:Li) (b:Int) (d:Li) (e:Int) (f:Li) (g h:Int) (i:Li) (j:Int) (n:Nat):Int->Li->Option Li:=wA (z3.r1 K a b d e f g h i j) (fun _ _=>none) n
def z3.r0 (K:Nat) (e:Li) (i:Int) (b f:Li) (j:Int) (next:Int->Li->Option Li) (a:Int) (k:Li):Option Li:=
 let m:=(decide (a<j));bif m then
  let n:=(Kd.nth (.int .i32) f (Int.toNat a));gd ((0:Int)<=a/\a<(f.length:Int)) <|let o:=(wb .i32 (i*n));(jJ K o).bind fun (p,_t)=>
  let g:=(Kd.nth (.int .i64) b (Int.toNat a));gd ((0:Int)<=a/\a<(b.length:Int)) <|let d:=(wb .i64 (a+1));let h:=(Kd.nth (.int .i64) b (Int.toNat d));gd ((0:Int)<=d/\d<(b.length:Int)) <|let l:=((e.take (Int.toNat h)).drop (Int.toNat g));gd ((0:Int)<=g/\g<=h/\h<=(e.length:Int)) <|let q:=(l.length:Int);(z3.l1 K e i b p f j a l q K 0 k:Option Li).bind fun s=>
   next d s
 else
  some k
def z3.l0 (K:Nat) (a:Li) (b:Int) (d e:Li) (f:Int) (n:Nat):Int->Li->Option Li:=wA (z3.r0 K a b d e f) (fun _ _=>none) n
def z3 (K:Nat) (a:Li) (f g h i j k l m n o:Int):Option (Int×Li):=
 (xB K (a.length:Int)).bind fun (p,b)=>
 bif (b != 0) then
  some (b,([]:Li))
 else
  (xY K f g h i j k l m n).bind fun (d,e)=>
  bif (e != 0) then
   some (e,([]:Li))
  else
   gd (0<=(a.length:Int)/\(a.length:Int)*4<=140737488355328) <|(z3.l0 K a o p d (d.length:Int) K 0 (List.replicate 0 (0:Int)):Option Li).bind fun q=>
    some (0,q)
def vg (K:Nat) (a:Li) (b d e f g h i j k:Int):Option (Int×Li):=
 (z3 K a b d e f g h i j k (-1)).bind fun (l,m)=>
 some (l,m)
def zO.r0 (_K e:Nat) (b:Int) (d:Li) (_t _u _w _y:Int) (next:Int->Int->Option Int) (a g:Int):Option Int:=
 let i:=(decide (a<((e:Nat):Int)));bif i then
  gd ((0:Int)<=a/\a<((e:Nat):Int)) <|let j:=(Kd.nth (.int .i32) d (Int.toNat a));gd ((Int.toNat a)<d.length) <|let k:=(kshr .i32 j b);gd ((0:Int)<=b) <|let l:=(wb .i64 k);let f:=(wb .i64 (a-4));let h:=(Int.toNat f);gd ((0:Int)<=f/\f<((e:Nat):Int)) <|let m:=(Kd.nth (.int .i32) d h);gd (h<d.length) <|let n:=(kshr .i32 m b);gd ((0:Int)<=b) <|let o:=(wb .i64 n);let p:=(wb .i64 (l*o));let q:=(wb .i64 (g+p));let s:=(wb .i64 (a+1));next s q
 else
  some g
def zO.l0 (K a:Nat) (b:Int) (d:Li) (e f g h:Int) (n:Nat):Int->Int->Option Int:=wA (zO.r0 K a b d e f g h) (fun _ _=>none) n
def zO.r1 (_K e:Nat) (b:Int) (d:Li) (_t _u _w:Int) (next:Int->Int->Option Int) (a g:Int):Option Int:=
 let i:=(decide (a<((e:Nat):Int)));bif i then
  gd ((0:Int)<=a/\a<((e:Nat):Int)) <|let j:=(Kd.nth (.int .i32) d (Int.toNat a));gd ((Int.toNat a)<d.length) <|let k:=(kshr .i32 j b);gd ((0:Int)<=b) <|let l:=(wb .i64 k);let f:=(wb .i64 (a-3));let h:=(Int.toNat f);gd ((0:Int)<=f/\f<((e:Nat):Int)) <|let m:=(Kd.nth (.int .i32) d h);gd (h<d.length) <|let n:=(kshr .i32 m b);gd ((0:Int)<=b) <|let o:=(wb .i64 n);let p:=(wb .i64 (l*o));let q:=(wb .i64 (g+p));let s:=(wb .i64 (a+1));next s q
 else
  some g
def zO.l1 (K a:Nat) (b:Int) (d:Li) (e f g:Int) (n:Nat):Int->Int->Option Int:=wA (zO.r1 K a b d e f g) (fun _ _=>none) n
def zO.r2 (_K e:Nat) (b:Int) (d:Li) (_t _u:Int) (next:Int->Int->Option Int) (a g:Int):Option Int:=
 let i:=(decide (a<((e:Nat):Int)));bif i then
  gd ((0:Int)<=a/\a<((e:Nat):Int)) <|let j:=(Kd.nth (.int .i32) d (Int.toNat a));gd ((Int.toNat a)<d.length) <|let k:=(kshr .i32 j b);gd ((0:Int)<=b) <|let l:=(wb .i64 k);let f:=(wb .i64 (a-2));let h:=(Int.toNat f);gd ((0:Int)<=f/\f<((e:Nat):Int)) <|let m:=(Kd.nth (.int .i32) d h);gd (h<d.length) <|let n:=(kshr .i32 m b);gd ((0:Int)<=b) <|let o:=(wb .i64 n);let p:=(wb .i64 (l*o));let q:=(wb .i64 (g+p));let s:=(wb .i64 (a+1));next s q
 else
  some g
def zO.l2 (K a:Nat) (b:Int) (d:Li) (e f:Int) (n:Nat):Int->Int->Option Int:=wA (zO.r2 K a b d e f) (fun _ _=>none) n
def zO.r3 (_K e:Nat) (b:Int) (d:Li) (_t:Int) (next:Int->Int->Option Int) (a g:Int):Option Int:=
 let i:=(decide (a<((e:Nat):Int)));bif i then
  gd ((0:Int)<=a/\a<((e:Nat):Int)) <|let j:=(Kd.nth (.int .i32) d (Int.toNat a));gd ((Int.toNat a)<d.length) <|let k:=(kshr .i32 j b);gd ((0:Int)<=b) <|let l:=(wb .i64 k);let f:=(wb .i64 (a-1));let h:=(Int.toNat f);gd ((0:Int)<=f/\f<((e:Nat):Int)) <|let m:=(Kd.nth (.int .i32) d h);gd (h<d.length) <|let n:=(kshr .i32 m b);gd ((0:Int)<=b) <|let o:=(wb .i64 n);let p:=(wb .i64 (l*o));let q:=(wb .i64 (g+p));let s:=(wb .i64 (a+1));next s q
 else
  some g
def zO.l3 (K a:Nat) (b:Int) (d:Li) (e:Int) (n:Nat):Int->Int->Option Int:=wA (zO.r3 K a b d e) (fun _ _=>none) n
def zO.r4 (_K e:Nat) (b:Int) (d:Li) (next:Int->Int->Option Int) (a g:Int):Option Int:=
 let i:=(decide (a<((e:Nat):Int)));bif i then
  gd ((0:Int)<=a/\a<((e:Nat):Int)) <|let j:=(Kd.nth (.int .i32) d (Int.toNat a));gd ((Int.toNat a)<d.length) <|let k:=(kshr .i32 j b);gd ((0:Int)<=b) <|let l:=(wb .i64 k);let f:=(wb .i64 (a-0));let h:=(Int.toNat f);gd ((0:Int)<=f/\f<((e:Nat):Int)) <|let m:=(Kd.nth (.int .i32) d h);gd (h<d.length) <|let n:=(kshr .i32 m b);gd ((0:Int)<=b) <|let o:=(wb .i64 n);let p:=(wb .i64 (l*o));let q:=(wb .i64 (g+p));let s:=(wb .i64 (a+1));next s q
 else
  some g
def zO.l4 (K a:Nat) (b:Int) (d:Li) (n:Nat):Int->Int->Option Int:=wA (zO.r4 K a b d) (fun _ _=>none) n
def zO.r5 (_K f:Nat) (g:Int) (b:Li) (next:Int->Int->Option Int) (d a:Int):Option Int:=
 let h:=(decide (a<g));bif h then
  let i:=(Kd.nth (.int .i32) b (Int.toNat a));gd ((0:Int)<=a/\a<((f:Nat):Int)/\(Int.toNat a)<b.length) <|let e:=(wb .i64 i);let j:=(wb .i64 (0-e));let k:=(imax (imax d e) j);let l:=(wb .i64 (a+1));next k l
 else
  some d
def zO.l5 (K a:Nat) (b:Int) (d:Li) (n:Nat):Int->Int->Option Int:=wA (zO.r5 K a b d) (fun _ _=>none) n
def zO (K a:Nat) (b:Li):Option (Int×Int×Int×Int×Int):=
 (zO.l5 K a ((a:Nat):Int) b K 0 0:Option Int).bind fun i=>
  (kY K (wb .u64 i)).bind fun j=>
  let d:=(wb .i64 (j-15));(
   (zO.l4 K a (imax d 0) b K 0 0:Option Int).bind fun e=>
    (zO.l3 K a (imax d 0) b e K 1 0:Option Int).bind fun f=>
     (zO.l2 K a (imax d 0) b e f K 2 0:Option Int).bind fun g=>
      (zO.l1 K a (imax d 0) b e f g K 3 0:Option Int).bind fun h=>
       (zO.l0 K a (imax d 0) b e f g h K 4 0:Option Int).bind fun k=>
        some (e,f,g,h,k):Option (Int×Int×Int×Int×Int)).bind fun (l,m,n,o,p)=>
   some (l,m,n,o,p)
def qe (_K:Nat) (a:Li):Option Li:=
 gd (a≠[]) <|let b:=(([]:Li)++a);gd (((([]:Li).length:Int)+(a.length:Int))*8<=70368744177664) <|some b
def jp (K:Nat) (a:Int):Option Int:=
 let b:=(wb .i64 (a-8));(xE K b 34).bind fun (d,_e)=>
 some d
def jU (K:Nat) (b d:Int):Option Int:=
 (jp K b).bind fun e=>
 let a:=(wb .i64 (d-(wb .i64 e)));let f:=(wb .i64 (0-a));some (imax a f)
def qt.r0 (K:Nat) (d:Int) (next:Int->Int->Option Int) (b a:Int):Option Int:=
 let e:=(decide (a<17));bif e then
  (
   (jU K a d).bind fun f=>
   (jU K b d).bind fun g=>
   let h:=(decide (f<g));bif h then
    some a
   else
    some b:Option Int).bind fun i=>
   let j:=(wb .i64 (a+1));next i j
 else
  some b
def qt.l0 (K:Nat) (a:Int) (n:Nat):Int->Int->Option Int:=wA (qt.r0 K a) (fun _ _=>none) n
def qt (K:Nat) (a:Int):Option Int:=
 (qt.l0 K a K 0 0:Option Int).bind fun b=>
  some b
def qD.r0 (K:Nat) (_D:(Int×(Int×(Int×(Int×Int))))) (g h:Nat) (i j:Int) (_E:Li) (_F _G _H _I:Int) (next:Int->Li->Li->Option (Li×Li)) (a:Int) (b d:Li):Option (Li×Li):=
 let k:=(decide (a<j));bif k then
  let l:=(Kd.nth (.int .i64) b (Int.toNat a));gd ((0:Int)<=a/\a<((g:Nat):Int)/\(Int.toNat a)<b.length) <|let e:=(wb .i64 (a+1));let m:=(decide (e<j));(
   bif m then
    let f:=(Int.toNat e);gd ((0:Int)<=e/\e<((g:Nat):Int)) <|let n:=(Kd.nth (.int .i64) b f);gd (f<b.length) <|gd ((0:Int)<=e/\e<((h:Nat):Int)) <|let o:=(Kd.nth (.int .i64) d f);gd (f<d.length) <|let p:=(wb .i64 (i*o));(wK K p 15).bind fun q=>
    let s:=(wb .i64 (n+q));gd ((0:Int)<=a/\a<((g:Nat):Int)) <|let t:=(List.set b (Int.toNat a) s);gd ((Int.toNat a)<b.length) <|some t
   else
    some b:Option Li).bind fun u=>
   gd ((0:Int)<=a/\a<((h:Nat):Int)) <|let w:=(Kd.nth (.int .i64) d (Int.toNat a));gd ((Int.toNat a)<d.length) <|let y:=(wb .i64 (i*l));(wK K y 15).bind fun z=>
   let A:=(wb .i64 (w+z));gd ((0:Int)<=a/\a<((h:Nat):Int)) <|let B:=(List.set d (Int.toNat a) A);gd ((Int.toNat a)<d.length) <|next e u B
 else
  some (b,d)
def qD.l0 (K:Nat) (a:(Int×(Int×(Int×(Int×Int))))) (b d:Nat) (e f:Int) (g:Li) (h i j k:Int) (n:Nat):Int->Li->Li->Option (Li×Li):=wA (qD.r0 K a b d e f g h i j k) (fun _ _ _=>none) n
def qD.r1 (K:Nat) (_D:(Int×(Int×(Int×(Int×Int))))) (g h:Nat) (i j:Int) (_E:Li) (_F _G _H:Int) (next:Int->Li->Li->Option (Li×Li)) (a:Int) (b d:Li):Option (Li×Li):=
 let k:=(decide (a<j));bif k then
  let l:=(Kd.nth (.int .i64) b (Int.toNat a));gd ((0:Int)<=a/\a<((g:Nat):Int)/\(Int.toNat a)<b.length) <|let e:=(wb .i64 (a+1));let m:=(decide (e<j));(
   bif m then
    let f:=(Int.toNat e);gd ((0:Int)<=e/\e<((g:Nat):Int)) <|let n:=(Kd.nth (.int .i64) b f);gd (f<b.length) <|gd ((0:Int)<=e/\e<((h:Nat):Int)) <|let o:=(Kd.nth (.int .i64) d f);gd (f<d.length) <|let p:=(wb .i64 (i*o));(wK K p 15).bind fun q=>
    let s:=(wb .i64 (n+q));gd ((0:Int)<=a/\a<((g:Nat):Int)) <|let t:=(List.set b (Int.toNat a) s);gd ((Int.toNat a)<b.length) <|some t
   else
    some b:Option Li).bind fun u=>
   gd ((0:Int)<=a/\a<((h:Nat):Int)) <|let w:=(Kd.nth (.int .i64) d (Int.toNat a));gd ((Int.toNat a)<d.length) <|let y:=(wb .i64 (i*l));(wK K y 15).bind fun z=>
   let A:=(wb .i64 (w+z));gd ((0:Int)<=a/\a<((h:Nat):Int)) <|let B:=(List.set d (Int.toNat a) A);gd ((Int.toNat a)<d.length) <|next e u B
 else
  some (b,d)
def qD.l1 (K:Nat) (a:(Int×(Int×(Int×(Int×Int))))) (b d:Nat) (e f:Int) (g:Li) (h i j:Int) (n:Nat):Int->Li->Li->Option (Li×Li):=wA (qD.r1 K a b d e f g h i j) (fun _ _ _=>none) n
def qD.r2 (K:Nat) (_D:(Int×(Int×(Int×(Int×Int))))) (g h:Nat) (i j:Int) (_E:Li) (_F _G:Int) (next:Int->Li->Li->Option (Li×Li)) (a:Int) (b d:Li):Option (Li×Li):=
 let k:=(decide (a<j));bif k then
  let l:=(Kd.nth (.int .i64) b (Int.toNat a));gd ((0:Int)<=a/\a<((g:Nat):Int)/\(Int.toNat a)<b.length) <|let e:=(wb .i64 (a+1));let m:=(decide (e<j));(
   bif m then
    let f:=(Int.toNat e);gd ((0:Int)<=e/\e<((g:Nat):Int)) <|let n:=(Kd.nth (.int .i64) b f);gd (f<b.length) <|gd ((0:Int)<=e/\e<((h:Nat):Int)) <|let o:=(Kd.nth (.int .i64) d f);gd (f<d.length) <|let p:=(wb .i64 (i*o));(wK K p 15).bind fun q=>
    let s:=(wb .i64 (n+q));gd ((0:Int)<=a/\a<((g:Nat):Int)) <|let t:=(List.set b (Int.toNat a) s);gd ((Int.toNat a)<b.length) <|some t
   else
    some b:Option Li).bind fun u=>
   gd ((0:Int)<=a/\a<((h:Nat):Int)) <|let w:=(Kd.nth (.int .i64) d (Int.toNat a));gd ((Int.toNat a)<d.length) <|let y:=(wb .i64 (i*l));(wK K y 15).bind fun z=>
   let A:=(wb .i64 (w+z));gd ((0:Int)<=a/\a<((h:Nat):Int)) <|let B:=(List.set d (Int.toNat a) A);gd ((Int.toNat a)<d.length) <|next e u B
 else
  some (b,d)
def qD.l2 (K:Nat) (a:(Int×(Int×(Int×(Int×Int))))) (b d:Nat) (e f:Int) (g:Li) (h i:Int) (n:Nat):Int->Li->Li->Option (Li×Li):=wA (qD.r2 K a b d e f g h i) (fun _ _ _=>none) n
def qD.r3 (K:Nat) (_A:(Int×(Int×(Int×(Int×Int))))) (g h:Int) (_B:Li) (_D:Int) (next:Int->Li->Li->Option (Li×Li)) (a:Int) (b d:Li):Option (Li×Li):=
 let i:=(decide (a<h));bif i then
  let j:=(Kd.nth (.int .i64) b (Int.toNat a));gd ((0:Int)<=a/\a<(b.length:Int)/\(Int.toNat a)<b.length) <|let e:=(wb .i64 (a+1));let k:=(decide (e<(b.length:Int)));(
   bif k then
    let f:=(Int.toNat e);gd ((0:Int)<=e/\e<(b.length:Int)) <|let l:=(Kd.nth (.int .i64) b f);gd (f<b.length) <|gd ((0:Int)<=e/\e<(d.length:Int)) <|let m:=(Kd.nth (.int .i64) d f);gd (f<d.length) <|let n:=(wb .i64 (g*m));(wK K n 15).bind fun o=>
    let p:=(wb .i64 (l+o));gd ((0:Int)<=a/\a<(b.length:Int)) <|let q:=(List.set b (Int.toNat a) p);gd ((Int.toNat a)<b.length) <|some q
   else
    some b:Option Li).bind fun s=>
   gd ((0:Int)<=a/\a<(d.length:Int)) <|let t:=(Kd.nth (.int .i64) d (Int.toNat a));gd ((Int.toNat a)<d.length) <|let u:=(wb .i64 (g*j));(wK K u 15).bind fun w=>
   let y:=(wb .i64 (t+w));gd ((0:Int)<=a/\a<(d.length:Int)) <|let z:=(List.set d (Int.toNat a) y);gd ((Int.toNat a)<d.length) <|next e s z
 else
  some (b,d)
def qD.l3 (K:Nat) (a:(Int×(Int×(Int×(Int×Int))))) (b d:Int) (e:Li) (f:Int) (n:Nat):Int->Li->Li->Option (Li×Li):=wA (qD.r3 K a b d e f) (fun _ _ _=>none) n
def qD (K N:Nat) (o:Li):Option (Int×Int×Int×Int×Int×Int):=
 let ae:=(decide (((N:Nat):Int)>120));bif ae then
  some (0,0,0,0,0,2)
 else
  (zO K N o).bind fun (a,b,d,e,f)=>
  let af:=(([(a,(b,(d,(e,f)))).1,(a,(b,(d,(e,f)))).2.1,(a,(b,(d,(e,f)))).2.2.1,(a,(b,(d,(e,f)))).2.2.2.1,(a,(b,(d,(e,f)))).2.2.2.2].take (Int.toNat 5)).drop (Int.toNat 1));(qe K af).bind fun p=>
  let ag:=(([(a,(b,(d,(e,f)))).1,(a,(b,(d,(e,f)))).2.1,(a,(b,(d,(e,f)))).2.2.1,(a,(b,(d,(e,f)))).2.2.2.1,(a,(b,(d,(e,f)))).2.2.2.2].take (Int.toNat 4)).drop (Int.toNat 0));(qe K ag).bind fun g=>
  (
   let F:=(Kd.nth (.int .i64) g 0);let ah:=(decide (F>0));gd (0<(g.length:Int)/\0<g.length) <|(
    bif ah then
     gd (0<(p.length:Int)) <|let ai:=(Kd.nth (.int .i64) p 0);gd (0<p.length) <|let aj:=(wb .i64 (0-ai));let ak:=(wb .i64 (aj*32768));gd (0<(g.length:Int)) <|gd (0<g.length) <|let al:=(wb .i64 (Int.tdiv ak F));gd (F≠0) <|(z4 K al (-32767) 32767).bind fun am=>
     some am
    else
     some 0:Option Int).bind fun O=>
    (qt K O).bind fun q=>
    (qD.l3 K (a,(b,(d,(e,f)))) O (p.length:Int) o q K 0 p g:Option (Li×Li)).bind fun (h,i)=>
     let j:=(wb .i64 ((h.length:Int)-1));let s:=(Int.toNat j);gd ((0:Int)<=j/\j<=(h.length:Int)/\h≠[]) <|let t:=(Int.toNat (imax j 1));gd ((0:Int)<=(imax j 1)/\(imax j 1)<=(i.length:Int)/\i≠[]) <|let G:=(Kd.nth (.int .i64) i 0);let an:=(decide (G>0));gd (0<((t:Nat):Int)/\0<i.length) <|(
      bif an then
       gd (0<((s:Nat):Int)) <|let ao:=(Kd.nth (.int .i64) h 0);gd (0<h.length) <|let ap:=(wb .i64 (0-ao));let aq:=(wb .i64 (ap*32768));gd (0<((t:Nat):Int)) <|gd (0<i.length) <|let au:=(wb .i64 (Int.tdiv aq G));gd (G≠0) <|(z4 K au (-32767) 32767).bind fun aw=>
       some aw
      else
       some 0:Option Int).bind fun P=>
      (qt K P).bind fun E=>
      let Q:=((s:Nat):Int);(qD.l2 K (a,(b,(d,(e,f)))) s t P Q o q E K 0 h i:Option (Li×Li)).bind fun (u,k)=>
       let l:=(wb .i64 (Q-1));let w:=(Int.toNat l);gd ((0:Int)<=l/\l<=((s:Nat):Int)/\s<=u.length/\u≠[]) <|let y:=(Int.toNat (imax l 1));gd ((0:Int)<=(imax l 1)/\(imax l 1)<=((t:Nat):Int)/\t<=k.length/\k≠[]) <|let H:=(Kd.nth (.int .i64) k 0);let ay:=(decide (H>0));gd (0<((y:Nat):Int)/\0<k.length) <|(
        bif ay then
         gd (0<((w:Nat):Int)) <|let az:=(Kd.nth (.int .i64) u 0);gd (0<u.length) <|let aA:=(wb .i64 (0-az));let aB:=(wb .i64 (aA*32768));gd (0<((y:Nat):Int)) <|gd (0<k.length) <|let aD:=(wb .i64 (Int.tdiv aB H));gd (H≠0) <|(z4 K aD (-32767) 32767).bind fun aE=>
         some aE
        else
         some 0:Option Int).bind fun R=>
        (qt K R).bind fun I=>
        let S:=((w:Nat):Int);(qD.l1 K (a,(b,(d,(e,f)))) w y R S o q E I K 0 u k:Option (Li×Li)).bind fun (z,m)=>
         let n:=(wb .i64 (S-1));let A:=(Int.toNat n);gd ((0:Int)<=n/\n<=((w:Nat):Int)/\w<=z.length/\z≠[]) <|let B:=(Int.toNat (imax n 1));gd ((0:Int)<=(imax n 1)/\(imax n 1)<=((y:Nat):Int)/\y<=m.length/\m≠[]) <|let J:=(Kd.nth (.int .i64) m 0);let aF:=(decide (J>0));gd (0<((B:Nat):Int)/\0<m.length) <|(
          bif aF then
           gd (0<((A:Nat):Int)) <|let aG:=(Kd.nth (.int .i64) z 0);gd (0<z.length) <|let aH:=(wb .i64 (0-aG));let aI:=(wb .i64 (aH*32768));gd (0<((B:Nat):Int)) <|gd (0<m.length) <|let aJ:=(wb .i64 (Int.tdiv aI J));gd (J≠0) <|(z4 K aJ (-32767) 32767).bind fun aL=>
           some aL
          else
           some 0:Option Int).bind fun T=>
          (qt K T).bind fun U=>
          let V:=((A:Nat):Int);(qD.l0 K (a,(b,(d,(e,f)))) A B T V o q E I U K 0 z m:Option (Li×Li)).bind fun (W,L)=>
           let D:=(wb .i64 (V-1));gd ((0:Int)<=D/\D<=((A:Nat):Int)/\A<=W.length/\W≠[]) <|let aM:=(Int.toNat (imax D 1));gd ((0:Int)<=(imax D 1)/\(imax D 1)<=((B:Nat):Int)/\B<=L.length/\L≠[]) <|some (aM,L,q,E,I,U):Option (Nat×Li×Int×Int×Int×Int)).bind fun (aN,X,Y,Z,aa,ab)=>
   let ad:=(a,(b,(d,(e,f)))).1;let M:=(decide (ad<=0));let aO:=(wb .i64 (2*ad));gd (((!M)=true->0<((aN:Nat):Int))) <|let aP:=(Kd.nth (.int .i64) X 0);gd (((!M)=true->0<X.length)) <|let aQ:=(wb .i64 (3*aP));let aR:=(decide (aO<aQ));let aS:=(bif M then true else aR);let aT:=((Y==8)&&((Z==8)&&((aa==8)&&(ab==8))));let aU:=(bif aS then true else aT);bif aU then
    some (0,0,0,0,0,0)
   else
    some (1,Y,Z,aa,ab,0)
def zH (_K a:Nat) (b:Li):Option Li:=
 let d:=(([]:Li)++(b.take a));gd (a<=b.length/\0<a/\((([]:Li).length:Int)+((a:Nat):Int))*4<=70368744177664) <|some d
def vU (K:Nat) (_n a b d e:Int):Option (Int×Int×Int×Int):=
 (
  (jp K a).bind fun f=>
  (jp K b).bind fun g=>
  (jp K d).bind fun h=>
  (jp K e).bind fun i=>
  some (f,g,h,i):Option (Int×Int×Int×Int)).bind fun (j,k,l,m)=>
  some (j,k,l,m)
def zJ (K:Nat) (a b:Int):Option Int:=
 let d:=(wb .i64 ((wb .i64 a)*(wb .i64 b)));(wK K d 15).bind fun e=>
 (qg K e).bind fun f=>
 some f
def ki (K:Nat) (a b:Int):Option Int:=
 let d:=(wb .i64 ((wb .i64 a)+(wb .i64 b)));(qg K d).bind fun e=>
 some e
def ka (K:Nat) (a b d e _A f g h i j k l m:Int):Option (Int×Int×Int):=
 (
  (zJ K a f).bind fun n=>
  (ki K j n).bind fun o=>
  (zJ K b g).bind fun p=>
  (ki K k p).bind fun q=>
  (zJ K d h).bind fun s=>
  (ki K l s).bind fun t=>
  (zJ K e i).bind fun u=>
  (ki K m u).bind fun _B=>
  some (o,q,t):Option (Int×Int×Int)).bind fun (w,y,z)=>
  some (w,y,z)
def xv (K:Nat) (a b d e f g h i j:Int):Option (Int×Int×Int×Int):=
 (
  (zJ K g b).bind fun o=>
  (ki K a o).bind fun k=>
  (zJ K h d).bind fun p=>
  (ki K k p).bind fun l=>
  (zJ K i e).bind fun q=>
  (ki K l q).bind fun m=>
  (zJ K j f).bind fun s=>
  (ki K m s).bind fun t=>
  some (k,l,m,t):Option (Int×Int×Int×Int)).bind fun (u,w,y,n)=>
  (ka K a u w y n b d e f g h i j).bind fun (z,A,B)=>
  some (n,z,A,B)
def js.r0 (K:Nat) (e:Int) (_w:Li) (f g h i:Int) (next:Int->Li->Int->Int->Int->Int->Option Li) (a:Int) (b:Li) (j k l m:Int):Option Li:=
 let n:=(decide (a<e));bif n then
  let d:=(Kd.nth (.int .i32) b (Int.toNat a));gd ((0:Int)<=a/\a<(b.length:Int)/\(Int.toNat a)<b.length) <|(xv K d f g h i j k l m).bind fun (o,p,q,s)=>
  let t:=(List.set b (Int.toNat a) o);gd ((0:Int)<=a/\a<(b.length:Int)/\(Int.toNat a)<b.length) <|let u:=(wb .i64 (a+1));next u t d p q s
 else
  some b
def js.l0 (K:Nat) (a:Int) (b:Li) (d e f g:Int) (n:Nat):Int->Li->Int->Int->Int->Int->Option Li:=wA (js.r0 K a b d e f g) (fun _ _ _ _ _ _=>none) n
def js (K d:Nat) (a e f g h:Int) (i:Li):Option (Li×Int):=
 let k:=(decide (((d:Nat):Int)>120));bif k then
  some (([]:Li),2)
 else
  (qL K a e f g h).bind fun j=>
  bif (j != 0) then
   some (([]:Li),j)
  else
   (zH K d i).bind fun b=>
   bif (a==0) then
    some (b,0)
   else
    (vU K a e f g h).bind fun (l,m,n,o)=>
    (js.l0 K (b.length:Int) i l m n o K 0 b 0 0 0 0:Option Li).bind fun p=>
     some (p,0)
def W7 (K a:Nat) (b d e f g:Int) (h:Li):Option (Li×Int):=
 (js K a b d e f g h).bind fun (i,j)=>
 some (i,j)
def qP (_K:Nat) (a:Int):Option Int:=
 let b:=(wb .i64 (0-(wb .i64 a)));let d:=(imax (wb .i64 a) b);some d
def jY (_K:Nat) (a b:Int):Option Int:=
 let d:=(decide (b<0));bif d then
  some (wb .i64 (0-a))
 else
  some a
def kh.r0 (K:Nat) (d g:Int) (e:Li) (next:Int->Li->Option Li) (a:Int) (b:Li):Option Li:=
 let h:=(decide (a<g));bif h then
  let f:=(Kd.nth (.int .i32) e (Int.toNat a));gd ((0:Int)<=a/\a<(e.length:Int)/\(Int.toNat a)<e.length) <|(qP K f).bind fun i=>
  let j:=(kshl .i64 i 16);let k:=(wb .i64 (3*d));let l:=(wb .i64 (Int.tdiv k 8));let m:=(wb .i64 (j+l));let n:=(wb .i64 (Int.tdiv m d));gd (d≠0) <|let o:=(imin n 32767);(jY K o f).bind fun p=>
  let q:=(List.set b (Int.toNat a) p);gd ((0:Int)<=a/\a<(b.length:Int)/\(Int.toNat a)<b.length) <|let s:=(wb .i64 (a+1));next s q
 else
  some b
def kh.l0 (K:Nat) (a b:Int) (d:Li) (n:Nat):Int->Li->Option Li:=wA (kh.r0 K a b d) (fun _ _=>none) n
def kh (K:Nat) (d:Int) (a:Li):Option (Li×Int):=
 let e:=(decide ((a.length:Int)>120));bif e then
  some (([]:Li),2)
 else
  (xW K d).bind fun (f,b)=>
  bif (b != 0) then
   some (([]:Li),b)
  else
   let g:=(List.replicate (Int.toNat (a.length:Int)) (0:Int));gd ((0:Int)<=(a.length:Int)/\(a.length:Int)<=(a.length:Int)/\(a.length:Int)*8<=140737488355328) <|(kh.l0 K (wb .i64 f) (a.length:Int) a K 0 g:Option Li).bind fun h=>
    some (h,0)
def zU.r0 (_K:Nat) (e f g h _l _m _n _o _p _q _s _t _u _w _y _z _A _B _D:Int) (_E:Li) (next:Int->List (Int×Int)->Option ((List (Int×Int)))) (a:Int) (b:List (Int×Int)):Option ((List (Int×Int))):=
 let i:=(decide (a<4));bif i then
  let d:=(List.getD [e,f,g,h] (Int.toNat a) 0);gd ((0:Int)<=a/\a<4) <|let j:=(b++[(d,5)]);gd (((b.length:Int)+([(d,5)].length:Int))*16<=70368744177664) <|let k:=(wb .i64 (a+1));next k j
 else
  some b
def zU.l0 (K:Nat) (a b d e f g h i j k l m o p q s t u w:Int) (y:Li) (n:Nat):Int->List (Int×Int)->Option ((List (Int×Int))):=wA (zU.r0 K a b d e f g h i j k l m o p q s t u w y) (fun _ _=>none) n
def zU.r1 (_K:Nat) (e f g h i j k l _q _s _t _u _w _y _z _A _B _D _E:Int) (_F:Li) (next:Int->List (Int×Int)->Option ((List (Int×Int)))) (a:Int) (b:List (Int×Int)):Option ((List (Int×Int))):=
 let m:=(decide (a<8));bif m then
  let n:=(List.getD [e,f,g,h,i,j,k,l] (Int.toNat a) 0);gd ((0:Int)<=a/\a<8) <|let d:=(wb .i64 (n+4));let o:=(b++[(d,3)]);gd (((b.length:Int)+([(d,3)].length:Int))*16<=70368744177664) <|let p:=(wb .i64 (a+1));next p o
 else
  some b
def zU.l1 (K:Nat) (a b d e f g h i j k l m o p q s t u w:Int) (y:Li) (n:Nat):Int->List (Int×Int)->Option ((List (Int×Int))):=wA (zU.r1 K a b d e f g h i j k l m o p q s t u w y) (fun _ _=>none) n
def zU (K:Nat) (d e k l m n o p q s a t u w y f b g h:Int) (i:Li):Option ((List (Int×Int))):=
 let G:=[(d,2),(e,4)];(zU.l1 K k l m n o p q s d e a t u w y f b g h i K 0 G:Option ((List (Int×Int)))).bind fun z=>
  let A:=(z++[(a,1)]);gd (((z.length:Int)+([(a,1)].length:Int))*16<=70368744177664) <|(
   bif (a==1) then
    (zU.l0 K t u w y d e k l m n o p q s a f b g h i K 0 A:Option ((List (Int×Int)))).bind fun H=>
     some H
   else
    some A:Option ((List (Int×Int)))).bind fun B=>
   let j:=(B++[(b,2)]);gd (((B.length:Int)+([(b,2)].length:Int))*16<=70368744177664) <|let I:=(decide (b>0));(
    bif I then
     let D:=(wb .i64 (f-16));let J:=(j++[(D,6)]);gd (((j.length:Int)+([(D,6)].length:Int))*16<=70368744177664) <|some J
    else
     some j:Option ((List (Int×Int)))).bind fun E=>
    (zd K i).bind fun L=>
    let F:=[(g,8),(h,3),(L,7)];gd (((E.length:Int)+(F.length:Int))*16<=70368744177664) <|some (E++F)
def j0 (K:Nat) (_e _f _g _h _i _j _k _l _m _n _o _p _q _s _t _u _w _y _z:Int) (a:Li):Option Li:=
 (zd K a).bind fun b=>
 let d:=((a.take (Int.toNat b)).drop (Int.toNat 0));gd (0<=b/\b<=(a.length:Int)) <|some d
def qa.r0 (_K:Nat) (b:List (Int×Int)) (e _j _k _l _m _n _o _p _q _s _t _u _w _y _z _A _B _D _E _F:Int) (_G:Li) (next:Int->Int->Option Int) (d a:Int):Option Int:=
 let f:=(decide (a<e));bif f then
  let g:=(Kd.nth (.pair (.int .i64) (.int .i64)) b (Int.toNat a));gd ((0:Int)<=a/\a<(b.length:Int)) <|let h:=(wb .i64 (d-g.2));let i:=(wb .i64 (a+1));next h i
 else
  some d
def qa.l0 (K:Nat) (a:List (Int×Int)) (b d e f g h i j k l m o p q s t u w y z:Int) (A:Li) (n:Nat):Int->Int->Option Int:=wA (qa.r0 K a b d e f g h i j k l m o p q s t u w y z A) (fun _ _=>none) n
def qa (K:Nat) (_G _H _I _J _L _M _N _O _P z a b d e f g h i j k l m n o p q s t u:Int) (w:Li):Option Int:=
 let A:=(wb .i64 (8*z));(zU K a b d e f g h i j k l m n o p q s t u w).bind fun y=>
 (qa.l0 K y (y.length:Int) a b d e f g h i j k l m n o p q s t u w K A 0:Option Int).bind fun B=>
  (j0 K a b d e f g h i j k l m n o p q s t u w).bind fun D=>
  (jV K D).bind fun (E,_Q)=>
  let F:=(wb .i64 (B-E));some F
def qO (K:Nat) (a d e f g h i j k l m n o p q s t u _N w:Int) (_O:Li) (y z A B D E F G H I:Int) (J:Li):Option (Bool×Li):=
 (kh K a J).bind fun (b,_P)=>
 (qa K y z A B D E F G H I d e f g h i j k l m n o p q s t u a w b).bind fun L=>
 let M:=(decide (L>=0));some (M,b)
def kw.r0 (K:Nat) (g h i j k l m n o p q s t u w y z A B D E F G H I J L M:Int) (N:Li) (next:Int->Int->Li->Option (Int×Int×Li)) (a b:Int) (d:Li):Option (Int×Int×Li):=
 (
  let O:=(decide (a<240));bif O then
   (qO K a g h i j k l m n o p q s t u w y z b A d B D E F G H I J L M N).bind fun (P,Q)=>
   some (((!P),a,Q))
  else
   some (false,b,d):Option (Bool×Int×Li)).bind fun (R,e,f)=>
  bif R then
   let S:=(wb .i64 (a+1));next S e f
  else
   some (a,e,f)
def kw.l0 (K:Nat) (a b d e f g h i j k l m o p q s t u w y z A B D E F G H:Int) (I:Li) (n:Nat):Int->Int->Li->Option (Int×Int×Li):=wA (kw.r0 K a b d e f g h i j k l m o p q s t u w y z A B D E F G H I) (fun _ _ _=>none) n
def kw.r1 (K:Nat) (h i j k l m n o p q s t u w y z A B D E F G H I J L M N:Int) (O:Li) (next:Int->Int->Int->Li->Option (Int×Int×Li)) (b d e:Int) (f:Li):Option (Int×Int×Li):=
 let P:=(decide (b<d));bif P then
  let Q:=(wb .i64 (b+d));let a:=(wb .i64 (Int.tdiv Q 2));(qO K a h i j k l m n o p q s t u w y z A e B f D E F G H I J L M N O).bind fun (R,g)=>
  bif R then
   next b a a g
  else
   let S:=(wb .i64 (a+1));next S d a g
 else
  some (b,e,f)
def kw.l1 (K:Nat) (a b d e f g h i j k l m o p q s t u w y z A B D E F G H:Int) (I:Li) (n:Nat):Int->Int->Int->Li->Option (Int×Int×Li):=wA (kw.r1 K a b d e f g h i j k l m o p q s t u w y z A B D E F G H I) (fun _ _ _ _=>none) n
def kw (K:Nat) (a b d e f g h i j k l m n o p q s I t u w y z A B D E F G:Int) (H:Li):Option (Int×Int×Li):=
 (kw.l1 K a b d e f g h i j k l m n o p q s t u w y z A B D E F G H K 0 240 I ([]:Li):Option (Int×Int×Li)).bind fun (J,L,M)=>
  (kw.l0 K a b d e f g h i j k l m n o p q s t u w y z A B D E F G H K J L M:Option (Int×Int×Li)).bind fun (N,O,P)=>
   some (N,O,P)
def jE.r0 (K:Nat) (h i:Int) (e:Li) (j:Int) (d:Li) (next:Int->Li->Option Li) (a:Int) (b:Li):Option Li:=
 let k:=(decide (a<j));bif k then
  (
   let f:=(Kd.nth (.int .i64) e (Int.toNat a));gd ((0:Int)<=a/\a<(e.length:Int)) <|let l:=((b.length:Int)==h);let m:=(bif (f==0) then true else l);bif m then
    some b
   else
    let n:=(Kd.nth (.int .i32) d (Int.toNat a));gd ((0:Int)<=a/\a<(d.length:Int)/\(Int.toNat a)<d.length) <|(qP K n).bind fun o=>
    let p:=(kshl .i64 o 16);(kJ K f).bind fun q=>
    let s:=(wb .i64 (q*i));let t:=(decide (p>=s));(
     bif t then
      some 1
     else
      some 0:Option Int).bind fun g=>
     let u:=(b++[g]);gd (((b.length:Int)+([g].length:Int))*8<=70368744177664) <|some u:Option Li).bind fun w=>
   let y:=(wb .i64 (a+1));next y w
 else
  some b
def jE.l0 (K:Nat) (a b:Int) (d:Li) (e:Int) (f:Li) (n:Nat):Int->Li->Option Li:=wA (jE.r0 K a b d e f) (fun _ _=>none) n
def jE (K:Nat) (a:Li) (g b:Int) (d:Li):Option (Li×Int):=
 (jd K (d.length:Int) a g).bind fun (h,e)=>
 let i:=(decide (b<0));let j:=(bif (e==0) then i else false);(
  bif j then
   some 1
  else
   some e:Option Int).bind fun f=>
  bif (f != 0) then
   some (([]:Li),f)
  else
   (jE.l0 K b h a (a.length:Int) d K 0 ([]:Li):Option Li).bind fun k=>
    some (k,0)
def jw.r0 (K g:Nat) (_s:Int) (e:Li) (h:Int) (f:Li) (next:Int->Int->Int->Option (Int×Int)) (b d a:Int):Option (Int×Int):=
 let i:=(decide (a<h));bif i then
  (
   let j:=(Kd.nth (.int .i64) e (Int.toNat a));gd ((0:Int)<=a/\a<(e.length:Int)) <|bif (j==0) then
    let k:=(Kd.nth (.int .i32) f (Int.toNat a));gd ((0:Int)<=a/\a<((g:Nat):Int)/\(Int.toNat a)<f.length) <|(qP K k).bind fun l=>
    let m:=(wb .i64 (b+l));let n:=(wb .i64 (d+1));some (m,n)
   else
    some (b,d):Option (Int×Int)).bind fun (o,p)=>
   let q:=(wb .i64 (a+1));next o p q
 else
  some (b,d)
def jw.l0 (K a:Nat) (b:Int) (d:Li) (e:Int) (f:Li) (n:Nat):Int->Int->Int->Option (Int×Int):=wA (jw.r0 K a b d e f) (fun _ _ _=>none) n
def jw (K d:Nat) (b:Li) (g:Int) (h:Li):Option (Int×Int):=
 (jd K ((d:Nat):Int) b g).bind fun (a,e)=>
 bif (e != 0) then
  some (0,e)
 else
  (jw.l0 K d a b (b.length:Int) h K 0 0 0:Option (Int×Int)).bind fun (i,f)=>
   let j:=(wb .i64 (Int.tdiv i (imax f 1)));gd ((imax f 1)≠0) <|let k:=(kshl .i64 j 20);let l:=(wb .i64 (Int.tdiv a 2));let m:=(wb .i64 (k+l));let n:=(wb .i64 (Int.tdiv m a));gd (a≠0) <|some ((imin n 7),0)
def jr (K:Nat) (B D E F G H I J b L:Int) (M:Li) (g h:Int):Option (Int×Int×Int×Int×Int×Int×Int×Int×Int×Int×Int×Int×Int×Int×Int×Int×Int×Int×Int×Li×Li×Int):=
 (kj K B D E F G H I J b L).bind fun N=>
 bif (N != 0) then
  some (0,0,0,0,0,0,0,0,0,0,0,0,0,0,0,0,0,0,0,([]:Li),([]:Li),N)
 else
  (
   let P:=((M.length:Int) != b);bif P then
    some true
   else
    (zQ K g h).bind fun Q=>
    some (Q != 0):Option Bool).bind fun R=>
   bif R then
    some (0,0,0,0,0,0,0,0,0,0,0,0,0,0,0,0,0,0,0,([]:Li),([]:Li),1)
   else
    (j8 K M).bind fun (e,_ad)=>
    (kK K b e).bind fun (a,_ae)=>
    (yM K M e).bind fun (O,_af)=>
    (jG K O).bind fun (i,j,k,l,m,n,o,p,q,_ag)=>
    (vg K O i j k l m n o p q).bind fun (_ah,d)=>
    gd ((0:Int)<=a/\a<=(d.length:Int)/\d≠[]) <|(qD K (Int.toNat a) d).bind fun (s,t,u,w,y,_ai)=>
    gd ((0:Int)<=a/\a<=(d.length:Int)/\d≠[]) <|(W7 K (Int.toNat a) s t u w y d).bind fun (S,_aj)=>
    let f:=(cpy 0 d S);(kw K e i j k l m n o p q s t u w y g h 0 0 B D E F G H I J b L f).bind fun (z,T,U)=>
    (qO K z e i j k l m n o p q s t u w y g h T 0 U B D E F G H I J b L f).bind fun (V,W)=>
    (
     bif (!V) then
      let X:=(List.replicate (Int.toNat b) (0:Int));gd ((0:Int)<=b/\b<=b/\b*8<=140737488355328) <|some X
     else
      some W:Option Li).bind fun A=>
     (qa K B D E F G H I J b L e i j k l m n o p q s t u w y g h z 0 A).bind fun Y=>
     (jE K A z Y f).bind fun (Z,_ak)=>
     gd ((0:Int)<=a/\a<=(f.length:Int)/\f≠[]) <|let aa:=((A.take (Int.toNat a)).drop (Int.toNat 0));gd (0<=a/\a<=(A.length:Int)) <|(jw K (Int.toNat a) aa z f).bind fun (ab,_al)=>
     some (e,i,j,k,l,m,n,o,p,q,s,t,u,w,y,g,h,z,ab,A,Z,0)
def z7.r0 (K:Nat) (d:List Li) (y e f g h i j k l m n z:Int) (A B:Li) (next:Int->Li->Li->Li->Option ((Li×Li×Li)⊕(Li×Int×Li×Li))) (a:Int) (o p b:Li):Option ((Li×Li×Li)⊕(Li×Int×Li×Li)):=
 let D:=(decide (a<y));bif D then
  let q:=(Kd.nth (.slice (.int .i16)) d (Int.toNat a));gd ((0:Int)<=a/\a<(d.length:Int)) <|bif a==0 then
   (w5 K q o).bind fun (E,F,_af,s)=>
   (wG K q z A B p).bind fun (G,_ag,t)=>
   (jr K e f g h i j k l m n G E F).bind fun (H,I,J,L,M,N,O,P,Q,R,S,T,U,V,W,X,Y,Z,aa,ab,ad,_ah)=>
   (wL K e f g h i j k l m n H I J L M N O P Q R S T U V W X Y Z aa ab ad).bind fun (u,w)=>
   bif (w != 0) then
    some (.inr (([]:Li),w,s,t))
   else
    let ae:=(b++u);gd (((b.length:Int)+(u.length:Int))*1<=70368744177664) <|next 1 s t ae
  else
   none
 else
  some (.inl (o,p,b))
def z7.l0 (K:Nat) (a:List Li) (b d e f g h i j k l m o:Int) (p q:Li) (n:Nat):Int->Li->Li->Li->Option ((Li×Li×Li)⊕(Li×Int×Li×Li)):=wA (z7.r0 K a b d e f g h i j k l m o p q) (fun _ _ _ _=>none) n
def z7 (K:Nat) (b:Li) (h i a j k l m n d o:Int) (e:Li) (p:Int) (q s f:Li):Option (Li×Int×Li×Li):=
 let t:=(wb .i64 (a*d));let u:=((b.length:Int) != t);bif u then
  some (([]:Li),1,e,f)
 else
  (xq K b a).bind fun (g,_B)=>
  (z7.l0 K g (g.length:Int) h i a j k l m n d o p q s K 0 e f ([]:Li):Option ((Li×Li×Li)⊕(Li×Int×Li×Li))).bind fun z=>match z with
  | .inl (w,y,A)=>
   some (A,0,w,y)
  | .inr r=>
   some r
def z5.r0 (K:Nat) (t:List Li) (G d e f g h i j k l m H:Int) (I J:Li) (L:Int) (M N:Li) (next:Int->Li->Li->Li->Li->Li->Option ((Li×Li×Li×Li×Li)⊕(Li×Int×Li×Li×Li×Li))) (a:Int) (n o p q b:Li):Option ((Li×Li×Li×Li×Li)⊕(Li×Int×Li×Li×Li×Li)):=
 let O:=(decide (a<G));bif O then
  (
   let s:=(Kd.nth (.slice (.int .i16)) t (Int.toNat a));gd ((0:Int)<=a/\a<(t.length:Int)) <|bif a==0 then
    (w5 K s n).bind fun (P,Q,_a2,u)=>
    (wG K s H I J p).bind fun (R,_a3,w)=>
    (jr K d e f g h i j k l m R P Q).bind fun (S,T,U,V,W,X,Y,Z,aa,ab,ad,ae,af,ag,ah,ai,aj,ak,al,am,an,_a4)=>
    (wL K d e f g h i j k l m S T U V W X Y Z aa ab ad ae af ag ah ai aj ak al am an).bind fun (y,A)=>
    bif (A != 0) then
     some (.inr (([]:Li),A,u,o,w,q))
    else
     let ao:=(b++y);gd (((b.length:Int)+(y.length:Int))*1<=70368744177664) <|some (.inl (0,u,o,w,q,ao))
   else
    bif a==1 then
     (w5 K s o).bind fun (ap,aq,_a5,B)=>
     (wG K s L M N q).bind fun (au,_a6,D)=>
     (jr K d e f g h i j k l m au ap aq).bind fun (aw,ay,az,aA,aB,aD,aE,aF,aG,aH,aI,aJ,aL,aM,aN,aO,aP,aQ,aR,aS,aT,_a7)=>
     (wL K d e f g h i j k l m aw ay az aA aB aD aE aF aG aH aI aJ aL aM aN aO aP aQ aR aS aT).bind fun (E,F)=>
     bif (F != 0) then
      some (.inr (([]:Li),F,n,B,p,D))
     else
      let aU:=(b++E);gd (((b.length:Int)+(E.length:Int))*1<=70368744177664) <|some (.inl (1,n,B,p,D,aU))
    else
     none:Option ((Int×Li×Li×Li×Li×Li)⊕(Li×Int×Li×Li×Li×Li))).bind fun z=>match z with
  | .inl (aV,aW,aX,aY,aZ,a0)=>
   let a1:=(wb .i64 (aV+1));next a1 aW aX aY aZ a0
  | .inr r=>
   some (.inr r)
 else
  some (.inl (n,o,p,q,b))
def z5.l0 (K:Nat) (a:List Li) (b d e f g h i j k l m o:Int) (p q:Li) (s:Int) (t u:Li) (n:Nat):Int->Li->Li->Li->Li->Li->Option ((Li×Li×Li×Li×Li)⊕(Li×Int×Li×Li×Li×Li)):=wA (z5.r0 K a b d e f g h i j k l m o p q s t u) (fun _ _ _ _ _ _=>none) n
def z5 (K:Nat) (b:Li) (j k a l m n o p d q:Int) (e:Li) (s:Int) (t u f:Li) (w:Int) (y A g h:Li):Option (Li×Int×Li×Li×Li×Li):=
 let B:=(wb .i64 (a*d));let D:=((b.length:Int) != B);bif D then
  some (([]:Li),1,e,f,g,h)
 else
  (xq K b a).bind fun (i,_J)=>
  (z5.l0 K i (i.length:Int) j k a l m n o p d q s t u w y A K 0 e f g h ([]:Li):Option ((Li×Li×Li×Li×Li)⊕(Li×Int×Li×Li×Li×Li))).bind fun z=>match z with
  | .inl (E,F,G,H,I)=>
   some (I,0,E,F,G,H)
  | .inr r=>
   some r
def qJ (K:Nat)  : Option Bool:=
 (yx K ).bind fun _=>
 (zY K ).bind fun _=>
 (za K 2 0 1 0 0 0 0 0 40 20 (List.replicate 388 none) 0 0).bind fun z=>match z with
 | .inl o=>
  let p:=(bif (o != 0) then true else true);bif p then
   some false
  else
   (kM K (List.replicate 40 (0:Int))).bind fun q=>
   (kM K (List.replicate 41 (0:Int))).bind fun _ag=>
   (zY K ).bind fun _=>
   (zM K 2 0 1 0 0 0 0 0 40 20 q).bind fun (_ah,_ai,_aj,_ak,_al,_am,_an,_ao,_ap,_aq,_au,_aw,_ay,_az,_aA,_aB,_aD,_aE,_aF,_aG,_aH,_aI)=>
   some false
 | .inr (.inl (_aJ,_aL,_aM,s,d,e,f,t))=>
  (z7 K (List.replicate 40 (0:Int)) 2 0 1 0 0 0 0 0 40 20 s d e f t).bind fun (a,u,w,y)=>
  (z7 K (List.replicate 41 (0:Int)) 2 0 1 0 0 0 0 0 40 20 w d e f y).bind fun (_aN,A,_aO,_aP)=>
  (zY K ).bind fun _=>
  (zM K 2 0 1 0 0 0 0 0 40 20 a).bind fun (_aQ,_aR,_aS,_aT,_aU,_aV,_aW,_aX,_aY,_aZ,_a0,_a1,_a2,_a3,_a4,_a5,_a6,_a7,_a8,B,_a9,D)=>
  let E:=((a.length:Int)==20);let g:=(bif (u==0) then E else false);let F:=(Kd.nth (.int .u8) a 19);let G:=(bif g then (F==0) else false);let H:=(bif G then (A==1) else false);let I:=(bif H then (D==0) else false);let J:=((B.length:Int)==40);let L:=(bif I then J else false);gd ((g=true->19<(a.length:Int))) <|some L
 | .inr (.inr (_ba,_bb,_bd,M,h,i,j,N,k,l,m,O,P))=>
  (z5 K (List.replicate 40 (0:Int)) 2 0 2 0 0 0 0 0 40 20 M h i j N k l m O P).bind fun (b,Q,R,S,T,U)=>
  (z5 K (List.replicate 41 (0:Int)) 2 0 2 0 0 0 0 0 40 20 R h i j S k l m T U).bind fun (_be,V,_bf,_bg,_bh,_bi)=>
  (zY K ).bind fun _=>
  (zM K 2 0 1 0 0 0 0 0 40 20 b).bind fun (_bj,_bk,_bl,_bm,_bn,_bo,_bp,_bq,_bs,_bt,_bu,_bw,_bz,_bA,_bB,_bD,_bE,_bF,_bG,W,_bH,X)=>
  let Y:=((b.length:Int)==20);let n:=(bif (Q==0) then Y else false);let Z:=(Kd.nth (.int .u8) b 19);let aa:=(bif n then (Z==0) else false);let ab:=(bif aa then (V==1) else false);let ad:=(bif ab then (X==0) else false);let ae:=((W.length:Int)==40);let af:=(bif ad then ae else false);gd ((n=true->19<(b.length:Int))) <|some af
def wE (K:Nat) (a:Int) (g:List (Option Li)) (h i:Int):Option ((Int×(List (Option Li))×Int×Int)⊕((List (Option Li))×Int×Int×Int×Li×Li×Li)):=
 (xV K a g h i).bind fun (j,k,l,b,d,e,f)=>
 bif (b != 0) then
  some (.inl (b,d,e,f))
 else
  let m:=(List.replicate (Int.toNat a) (0:Int));gd ((0:Int)<=a/\a<=a/\a*4<=140737488355328) <|some (.inr (d,e,f,j,k,l,m))
def qy (_K:Nat)  : Option Li:=
 some (List.replicate 79 (0:Int))
def wJ (K:Nat) (h i b j k l m n a o:Int) (d:List (Option Li)) (e f:Int):Option ((Int)⊕((List (Option Li))×Int×Int×Int×Li×Li×Li×Li)⊕((List (Option Li))×Int×Int×Int×Li×Li×Li×Int×Li×Li×Li×Li×Li)):=
 (kj K h i b j k l m n a o).bind fun g=>
 bif (g != 0) then
  some (.inl g)
 else
  bif b==1 then
   (wE K a d e f).bind fun z=>match z with
   | .inl (_T,_U,_V,_W)=>
    none
   | .inr (p,q,s,t,u,w,y)=>
    (qy K ).bind fun A=>
    some (.inr (.inl (p,q,s,t,u,w,A,y)))
  else
   bif b==2 then
    (wE K a d e f).bind fun z=>match z with
    | .inl (_X,_Y,_Z,_aa)=>
     none
    | .inr (B,D,E,F,G,H,I)=>
     (qy K ).bind fun J=>
     (wE K a B D E).bind fun z=>match z with
     | .inl (_ab,_ad,_ae,_af)=>
      none
     | .inr (L,M,N,O,P,Q,R)=>
      (qy K ).bind fun S=>
      some (.inr (.inr (L,M,N,F,G,H,J,O,P,Q,S,I,R)))
   else
    none
def xI (K:Nat) (a b:Int):Option Int:=
 let d:=(wb .i64 ((wb .i64 a)-(wb .i64 b)));(qg K d).bind fun e=>
 some e
def jo (K:Nat) (a b d e f g h i j:Int):Option (Int×Int×Int×Int):=
 (
  (zJ K j f).bind fun o=>
  (xI K a o).bind fun k=>
  (zJ K i e).bind fun p=>
  (xI K k p).bind fun l=>
  (zJ K h d).bind fun q=>
  (xI K l q).bind fun m=>
  (zJ K g b).bind fun s=>
  (xI K m s).bind fun t=>
  some (t,m,l,k):Option (Int×Int×Int×Int)).bind fun (n,u,w,y)=>
  (ka K n u w y a b d e f g h i j).bind fun (z,A,B)=>
  some (n,z,A,B)
def qF.r0 (K:Nat) (e:Int) (_w:Li) (f g h i:Int) (next:Int->Li->Int->Int->Int->Int->Option Li) (a:Int) (b:Li) (j k l m:Int):Option Li:=
 let n:=(decide (a<e));bif n then
  let o:=(Kd.nth (.int .i32) b (Int.toNat a));gd ((0:Int)<=a/\a<(b.length:Int)/\(Int.toNat a)<b.length) <|(jo K o f g h i j k l m).bind fun (d,p,q,s)=>
  let t:=(List.set b (Int.toNat a) d);gd ((0:Int)<=a/\a<(b.length:Int)/\(Int.toNat a)<b.length) <|let u:=(wb .i64 (a+1));next u t d p q s
 else
  some b
def qF.l0 (K:Nat) (a:Int) (b:Li) (d e f g:Int) (n:Nat):Int->Li->Int->Int->Int->Int->Option Li:=wA (qF.r0 K a b d e f g) (fun _ _ _ _ _ _=>none) n
def qF (K d:Nat) (a e f g h:Int) (i:Li):Option (Li×Int):=
 let k:=(decide (((d:Nat):Int)>120));bif k then
  some (([]:Li),2)
 else
  (qL K a e f g h).bind fun j=>
  bif (j != 0) then
   some (([]:Li),j)
  else
   (zH K d i).bind fun b=>
   bif (a==0) then
    some (b,0)
   else
    (vU K a e f g h).bind fun (l,m,n,o)=>
    (qF.l0 K (b.length:Int) i l m n o K 0 b 0 0 0 0:Option Li).bind fun p=>
     some (p,0)
def vb (K a:Nat) (b d e f g:Int) (h:Li):Option (Li×Int):=
 (qF K a b d e f g h).bind fun (i,j)=>
 some (i,j)
def yq (K:Nat) (a:Li) (b d e f g h i j k:Int):Option (Int×Li):=
 (z3 K a b d e f g h i j k 1).bind fun (l,m)=>
 some (l,m)
def xj (K:Nat) (e f g h i j k l d m n o p q s t u w y z A B D E F M N G H:Int) (I J:Li):Option (Li×Int):=
 (kj K e f g h i j k l d m).bind fun L=>
 bif (L != 0) then
  some (([]:Li),L)
 else
  (qd K e f g h i j k l d m n o p q s t u w y z A B D E F M N G H I J).bind fun O=>
  bif (!O) then
   some (([]:Li),1)
  else
   (kK K d n).bind fun (a,_T)=>
   (zP K I G J H a).bind fun (_U,b)=>
   gd ((0:Int)<=a/\a<=(b.length:Int)/\b≠[]) <|(vb K (Int.toNat a) A B D E F b).bind fun (P,_V)=>
   let Q:=(cpy 0 b P);(yq K Q o p q s t u w y z).bind fun (R,S)=>
   some (S,R)
def jx (_K:Nat) (_a:List Li) (_b:List (Int×Int)):Option Li:=
 some ([]:Li)
def qB (_K:Nat) (f g b:Int) (_p d _q:Li):Option Int:=
 let h:=(wb .i64 (2*f));let i:=(wb .i64 (h+1));let j:=(wb .i64 (i+b));let k:=(wb .i64 (2*g));let l:=(wb .i64 (k+1));let m:=(wb .i64 (j*l));let e:=(wb .i64 (8*b));let a:=(Int.tmod m e);gd (e≠0) <|let n:=(Kd.nth (.int .i16) d (Int.toNat a));gd ((0:Int)<=a/\a<(d.length:Int)) <|let o:=(wb .i64 n);some o
def yk (_K:Nat) (b a:Int):Option Int:=
 let d:=(wb .i64 (Int.tdiv b a));gd (a≠0) <|let e:=(Int.tmod b a);let f:=(decide (e<0));gd (a≠0) <|(
  bif f then
   let g:=(wb .i64 (d-1));some g
  else
   some d:Option Int).bind fun h=>
  some h
def kk (K:Nat) (d a _i:Int) (b _j _k:Li):Option Int:=
 let e:=(Kd.nth (.int .i16) b (Int.toNat a));let f:=(wb .i64 e);let g:=(wb .i64 (d*f));gd ((0:Int)<=a/\a<(b.length:Int)) <|(wK K g 15).bind fun h=>
 some h
def wW.r0 (K:Nat) (e:Int) (b:Li) (f g:Int) (h i j:Li) (next:Int->Int->Option Int) (d a:Int):Option Int:=
 let k:=(decide (a<f));bif k then
  let l:=(Kd.nth (.int .i32) b (Int.toNat a));gd ((0:Int)<=a/\a<(b.length:Int)) <|let m:=(wb .i64 l);(qB K e a g h i j).bind fun n=>
  let o:=(wb .i64 (m*n));let p:=(wb .i64 (d+o));let q:=(wb .i64 (a+1));next p q
 else
  some d
def wW.l0 (K:Nat) (a:Int) (b:Li) (d e:Int) (f g h:Li) (n:Nat):Int->Int->Option Int:=wA (wW.r0 K a b d e f g h) (fun _ _=>none) n
def wW (K:Nat) (b:Li) (d a:Int) (e f g:Li):Option Int:=
 (wW.l0 K d b (b.length:Int) a e f g K 0 0:Option Int).bind fun h=>
  (wK K h 15).bind fun i=>
  let j:=(wb .i64 (2*i));let k:=(wb .i64 (Int.tdiv a 2));let l:=(wb .i64 (j+k));(yk K l a).bind fun m=>
  (qg K m).bind fun n=>
  (kk K (wb .i64 n) d a e f g).bind fun o=>
  (qg K o).bind fun p=>
  some p
def wD.r0 (K:Nat) (e:Li) (f d:Int) (g h _n:Li) (next:Int->Li->Option Li) (a:Int) (b:Li):Option Li:=
 let i:=(decide (a<f));bif i then
  let j:=(wb .i64 (d+a));(wW K e j d g h b).bind fun k=>
  gd ((0:Int)<=a/\a<(b.length:Int)) <|let l:=(List.set b (Int.toNat a) k);gd ((Int.toNat a)<b.length) <|let m:=(wb .i64 (a+1));next m l
 else
  some b
def wD.l0 (K:Nat) (a:Li) (b d:Int) (e f g:Li) (n:Nat):Int->Li->Option Li:=wA (wD.r0 K a b d e f g) (fun _ _=>none) n
def wD.r1 (K:Nat) (e:Li) (f g:Int) (h i b:Li) (next:Int->Li->Option Li) (a:Int) (d:Li):Option Li:=
 let j:=(decide (a<f));bif j then
  gd ((0:Int)<=a/\a<(b.length:Int)) <|let k:=(Kd.nth (.int .i32) b (Int.toNat a));gd ((Int.toNat a)<b.length) <|(wW K e a g h i b).bind fun l=>
  (ki K k l).bind fun m=>
  gd ((0:Int)<=a/\a<(d.length:Int)) <|let n:=(List.set d (Int.toNat a) m);gd ((Int.toNat a)<d.length) <|let o:=(wb .i64 (a+1));next o n
 else
  some d
def wD.l1 (K:Nat) (a:Li) (b d:Int) (e f g:Li) (n:Nat):Int->Li->Option Li:=wA (wD.r1 K a b d e f g) (fun _ _=>none) n
def wD (K:Nat) (d:Li) (a:Int) (e f b:Li):Option (Li×Int×Li):=
 let i:=((d.length:Int) != a);bif i then
  some (([]:Li),1,b)
 else
  let g:=(List.replicate (Int.toNat a) (0:Int));gd ((0:Int)<=a/\a<=a/\a*4<=140737488355328) <|let j:=(g.length:Int);(wD.l1 K d j a e f b K 0 g:Option Li).bind fun h=>
   (wD.l0 K d (b.length:Int) a e f h K 0 b:Option Li).bind fun k=>
    some (h,0,k)
def yT (K:Nat) (a:Int):Option Int:=
 (qp K a (-32768) 32767).bind fun b=>
 some (wb .i16 b)
def wR.r0 (K:Nat) (e:Li) (f:Int) (g:Li) (h:Int) (_y:Li) (i _z:Int) (next:Int->Li->Option Li) (a:Int) (b:Li):Option Li:=
 let j:=(decide (a<h));bif j then
  let k:=(Kd.nth (.int .i64) g (Int.toNat a));gd ((0:Int)<=a/\a<(g.length:Int)) <|let l:=(wb .i64 (32768-f));let m:=(wb .i64 (k*l));let n:=(wb .i64 (79+a));let d:=(wb .i64 (n-i));let o:=(Kd.nth (.int .i64) e (Int.toNat d));let p:=(wb .i64 (o*f));let q:=(wb .i64 (m+p));gd ((0:Int)<=d/\d<(e.length:Int)) <|(wK K q 15).bind fun s=>
  (yT K s).bind fun t=>
  let u:=(List.set b (Int.toNat a) t);gd ((0:Int)<=a/\a<(b.length:Int)/\(Int.toNat a)<b.length) <|let w:=(wb .i64 (a+1));next w u
 else
  some b
def wR.l0 (K:Nat) (a:Li) (b:Int) (d:Li) (e:Int) (f:Li) (g h:Int) (n:Nat):Int->Li->Option Li:=wA (wR.r0 K a b d e f g h) (fun _ _=>none) n
def wR.r1 (_K:Nat) (d:Li) (e:Int) (_k:Li) (_l _m:Int) (next:Int->Li->Option Li) (a:Int) (b:Li):Option Li:=
 let f:=(decide (a<e));bif f then
  let g:=(Kd.nth (.int .i32) d (Int.toNat a));gd ((0:Int)<=a/\a<(d.length:Int)) <|let h:=(wb .i64 g);let i:=(List.set b (Int.toNat a) h);gd ((0:Int)<=a/\a<(b.length:Int)/\(Int.toNat a)<b.length) <|let j:=(wb .i64 (a+1));next j i
 else
  some b
def wR.l1 (K:Nat) (a:Li) (b:Int) (d:Li) (e f:Int) (n:Nat):Int->Li->Option Li:=wA (wR.r1 K a b d e f) (fun _ _=>none) n
def wR (K:Nat) (a:Li) (e d:Int) (b:Li):Option (Li×Int×Li):=
 let i:=(decide ((a.length:Int)>120));bif i then
  some (([]:Li),2,b)
 else
  (zQ K e d).bind fun j=>
  bif (j != 0) then
   some (([]:Li),1,b)
  else
   let g:=(List.replicate (Int.toNat (a.length:Int)) (0:Int));gd ((0:Int)<=(a.length:Int)/\(a.length:Int)<=(a.length:Int)/\(a.length:Int)*8<=140737488355328) <|(wR.l1 K a (a.length:Int) b e d K 0 g:Option Li).bind fun f=>
    (kW K f b).bind fun h=>
    let k:=(wb .i64 (d*4096));gd ((0:Int)<=(a.length:Int)/\(a.length:Int)<=(a.length:Int)/\(a.length:Int)*2<=140737488355328) <|(wR.l0 K h k f (f.length:Int) b e d K 0 g:Option Li).bind fun l=>
     (kv K h b).bind fun m=>
     some (l,0,m)
def qx.r1 (_K:Nat) (e:List Li) (b _l h:Int) (next:Int->Li->Option Li) (a:Int) (d:Li):Option Li:=
 let i:=(decide (a<h));bif i then
  let f:=(Kd.nth (.slice (.int .i16)) e (Int.toNat a));gd ((0:Int)<=a/\a<(e.length:Int)) <|let g:=(Kd.nth (.int .i16) f (Int.toNat b));let j:=(d++[g]);gd ((0:Int)<=b/\b<(f.length:Int)/\((d.length:Int)+([g].length:Int))*2<=70368744177664) <|let k:=(wb .i64 (a+1));next k j
 else
  some d
def qx.l1 (K:Nat) (a:List Li) (b d e:Int) (n:Nat):Int->Li->Option Li:=wA (qx.r1 K a b d e) (fun _ _=>none) n
def qx.r0 (K:Nat) (b:List Li) (d:Int) (next:Int->Li->Option Li) (a:Int) (e:Li):Option Li:=
 let f:=(decide (a<d));bif f then
  (qx.l1 K b a d (b.length:Int) K 0 e:Option Li).bind fun g=>
   let h:=(wb .i64 (a+1));next h g
 else
  some e
def qx.l0 (K:Nat) (a:List Li) (b:Int) (n:Nat):Int->Li->Option Li:=wA (qx.r0 K a b) (fun _ _=>none) n
def qx (K:Nat) (a:List Li):Option (Li×Int):=
 let f:=(decide ((a.length:Int)<1));let g:=(decide ((a.length:Int)>2));let b:=(bif f then true else g);let h:=(Kd.nth (.slice (.int .i16)) a 0);gd (((!b)=true->0<(a.length:Int))) <|let e:=(h.length:Int);let d:=(wb .i64 ((a.length:Int)-1));let i:=(Kd.nth (.slice (.int .i16)) a (Int.toNat d));gd (((!b)=true->(0:Int)<=d)/\((!b)=true->d<(a.length:Int))) <|let j:=(i.length:Int);let k:=(bif b then true else (e != j));bif k then
  some (([]:Li),1)
 else
  gd (0<(a.length:Int)) <|(qx.l0 K a e K 0 ([]:Li):Option Li).bind fun l=>
   some (l,0)
def w4.r0 (K:Nat) (d:List (Int×Int)) (e:List Li) (i _u _w _y _z _A _B _D _E _F _G j:Int) (k l:Li) (next:Int->Li->Li->List Li->Option (Li×Li×(List Li))) (a:Int) (f g:Li) (b:List Li):Option (Li×Li×(List Li)):=
 let m:=(decide (a<i));bif m then
  let n:=(Kd.nth (.slice (.int .i32)) e (Int.toNat a));gd ((0:Int)<=a/\a<(e.length:Int)) <|bif a==0 then
   (wD K n j k l g).bind fun (o,_H,p)=>
   let h:=(Kd.nth (.pair (.int .i64) (.int .i64)) d 0);gd (0<(d.length:Int)) <|(wR K o h.1 h.2 f).bind fun (q,_I,s)=>
   gd (0<(b.length:Int)) <|let t:=(List.set b 0 q);gd (0<b.length) <|next 1 s p t
  else
   none
 else
  some (f,g,b)
def w4.l0 (K:Nat) (a:List (Int×Int)) (b:List Li) (d e f g h i j k l m o p:Int) (q s:Li) (n:Nat):Int->Li->Li->List Li->Option (Li×Li×(List Li)):=wA (w4.r0 K a b d e f g h i j k l m o p q s) (fun _ _ _ _=>none) n
def w4.r1 (K:Nat) (b:List Li) (d:List (Int×Int)) (f _p _q _s _t _u _w _y _z g _A _B:Int) (_D _E h i:Li) (next:Int->Option ((Unit)⊕(Li×Int×Li×Li))) (a:Int):Option ((Unit)⊕(Li×Int×Li×Li)):=
 let j:=(decide (a<f));bif j then
  let k:=(Kd.nth (.slice (.int .i32)) b (Int.toNat a));gd ((0:Int)<=a/\a<(b.length:Int)) <|(
   let l:=(k.length:Int);bif (l != g) then
    some true
   else
    let e:=(Kd.nth (.pair (.int .i64) (.int .i64)) d (Int.toNat a));gd ((0:Int)<=a/\a<(d.length:Int)) <|(zQ K e.1 e.2).bind fun m=>
    some (m != 0):Option Bool).bind fun n=>
   bif n then
    some (.inr (([]:Li),1,h,i))
   else
    let o:=(wb .i64 (a+1));next o
 else
  some (.inl ())
def w4.l1 (K:Nat) (a:List Li) (b:List (Int×Int)) (d e f g h i j k l m o p:Int) (q s t u:Li) (n:Nat):Int->Option ((Unit)⊕(Li×Int×Li×Li)):=wA (w4.r1 K a b d e f g h i j k l m o p q s t u) (fun _=>none) n
def w4 (K:Nat) (a:List Li) (d:List (Int×Int)) (g h b i j k l m n o p:Int) (q s e f:Li):Option (Li×Int×Li×Li):=
 let t:=((a.length:Int) != b);let u:=((d.length:Int) != b);let w:=(bif t then true else u);bif w then
  some (([]:Li),1,e,f)
 else
  (w4.l1 K a d (a.length:Int) g h b i j k l m n o p q s e f K 0:Option ((Unit)⊕(Li×Int×Li×Li))).bind fun z=>match z with
  | .inl _=>
   let y:=(List.replicate (Int.toNat (a.length:Int)) ([]:Li));gd ((0:Int)<=(a.length:Int)/\(a.length:Int)<=(a.length:Int)/\(a.length:Int)*24<=140737488355328) <|(w4.l0 K d a (a.length:Int) g h b i j k l m n o p q s K 0 e f y:Option (Li×Li×(List Li))).bind fun (A,B,D)=>
    (qx K D).bind fun (E,F)=>
    some (E,F,A,B)
  | .inr r=>
   some r
def w3.r0 (K:Nat) (d:List (Int×Int)) (i:List Li) (m _Q _R _S _T _U _V _W _X _Y _Z n:Int) (o p:Li) (q:Int) (s t:Li) (next:Int->Li->Li->Li->Li->List Li->Option (Li×Li×Li×Li×(List Li))) (b:Int) (e f g h:Li) (a:List Li):Option (Li×Li×Li×Li×(List Li)):=
 let u:=(decide (b<m));bif u then
  (
   let j:=(Kd.nth (.slice (.int .i32)) i (Int.toNat b));gd ((0:Int)<=b/\b<(i.length:Int)) <|bif b==0 then
    (wD K j n o p g).bind fun (w,_aa,y)=>
    let k:=(Kd.nth (.pair (.int .i64) (.int .i64)) d 0);gd (0<(d.length:Int)) <|(wR K w k.1 k.2 e).bind fun (z,_ab,A)=>
    gd (0<(a.length:Int)) <|let B:=(List.set a 0 z);gd (0<a.length) <|some (0,A,f,y,h,B)
   else
    bif b==1 then
     (wD K j q s t h).bind fun (D,_ad,E)=>
     let l:=(Kd.nth (.pair (.int .i64) (.int .i64)) d 1);gd (1<(d.length:Int)) <|(wR K D l.1 l.2 f).bind fun (F,_ae,G)=>
     gd (1<(a.length:Int)) <|let H:=(List.set a 1 F);gd (1<a.length) <|some (1,e,G,g,E,H)
    else
     none:Option (Int×Li×Li×Li×Li×(List Li))).bind fun (I,J,L,M,N,O)=>
   let P:=(wb .i64 (I+1));next P J L M N O
 else
  some (e,f,g,h,a)
def w3.l0 (K:Nat) (a:List (Int×Int)) (b:List Li) (d e f g h i j k l m o p:Int) (q s:Li) (t:Int) (u w:Li) (n:Nat):Int->Li->Li->Li->Li->List Li->Option (Li×Li×Li×Li×(List Li)):=wA (w3.r0 K a b d e f g h i j k l m o p q s t u w) (fun _ _ _ _ _ _=>none) n
def w3.r1 (K:Nat) (b:List Li) (d:List (Int×Int)) (f _s _t _u _w _y _z _A _B g _D _E:Int) (_F _G h:Li) (_H:Int) (_I _J i j k:Li) (next:Int->Option ((Unit)⊕(Li×Int×Li×Li×Li×Li))) (a:Int):Option ((Unit)⊕(Li×Int×Li×Li×Li×Li)):=
 let l:=(decide (a<f));bif l then
  let m:=(Kd.nth (.slice (.int .i32)) b (Int.toNat a));gd ((0:Int)<=a/\a<(b.length:Int)) <|(
   let n:=(m.length:Int);bif (n != g) then
    some true
   else
    let e:=(Kd.nth (.pair (.int .i64) (.int .i64)) d (Int.toNat a));gd ((0:Int)<=a/\a<(d.length:Int)) <|(zQ K e.1 e.2).bind fun o=>
    some (o != 0):Option Bool).bind fun p=>
   bif p then
    some (.inr (([]:Li),1,h,i,j,k))
   else
    let q:=(wb .i64 (a+1));next q
 else
  some (.inl ())
def w3.l1 (K:Nat) (a:List Li) (b:List (Int×Int)) (d e f g h i j k l m o p:Int) (q s t:Li) (u:Int) (w y z A B:Li) (n:Nat):Int->Option ((Unit)⊕(Li×Int×Li×Li×Li×Li)):=wA (w3.r1 K a b d e f g h i j k l m o p q s t u w y z A B) (fun _=>none) n
def w3 (K:Nat) (a:List Li) (d:List (Int×Int)) (i j b k l m n o p q s:Int) (t u e:Li) (w:Int) (y A f g h:Li):Option (Li×Int×Li×Li×Li×Li):=
 let B:=((a.length:Int) != b);let D:=((d.length:Int) != b);let E:=(bif B then true else D);bif E then
  some (([]:Li),1,e,f,g,h)
 else
  (w3.l1 K a d (a.length:Int) i j b k l m n o p q s t u e w y A f g h K 0:Option ((Unit)⊕(Li×Int×Li×Li×Li×Li))).bind fun z=>match z with
  | .inl _=>
   let F:=(List.replicate (Int.toNat (a.length:Int)) ([]:Li));gd ((0:Int)<=(a.length:Int)/\(a.length:Int)<=(a.length:Int)/\(a.length:Int)*24<=140737488355328) <|(w3.l0 K d a (a.length:Int) i j b k l m n o p q s t u w y A K 0 e f g h F:Option (Li×Li×Li×Li×(List Li))).bind fun (G,H,I,J,L)=>
    (qx K L).bind fun (M,N)=>
    some (M,N,G,H,I,J)
  | .inr r=>
   some r
def psalterylaw21_LapAny.r0 (_K:Nat) (d:Li) (_m _n _o h _p _q _s _t _u _w _y _z _A _B _D _E _F _G _H _I _J _L _M _N _O _P e f _Q _R:Int) (_S _T:Li) (next:Int->List Li->List (Int×Int)->Option ((List Li)×(List (Int×Int)))) (g:Int) (a:List Li) (b:List (Int×Int)):Option ((List Li)×(List (Int×Int))):=
 let i:=(decide (g<h));bif i then
  let j:=(a++[d]);gd (((a.length:Int)+([d].length:Int))*24<=70368744177664) <|let k:=(b++[(e,f)]);gd (((b.length:Int)+([(e,f)].length:Int))*16<=70368744177664) <|let l:=(wb .i64 (g+1));next l j k
 else
  some (a,b)
def psalterylaw21_LapAny.l0 (K:Nat) (a:Li) (b d e f g h i j k l m o p q s t u w y z A B D E F G H I J L:Int) (M N:Li) (n:Nat):Int->List Li->List (Int×Int)->Option ((List Li)×(List (Int×Int))):=wA (psalterylaw21_LapAny.r0 K a b d e f g h i j k l m o p q s t u w y z A B D E F G H I J L M N) (fun _ _ _=>none) n
def psalterylaw21_LapAny.r1 (_K:Nat) (d:Li) (_m _n _o h _p _q _s _t _u _w _y _z _A _B _D _E _F _G _H _I _J _L _M _N _O _P e f _Q _R:Int) (_S _T:Li) (_U:Int) (_V _W _X _Y:Li) (next:Int->List Li->List (Int×Int)->Option ((List Li)×(List (Int×Int)))) (g:Int) (a:List Li) (b:List (Int×Int)):Option ((List Li)×(List (Int×Int))):=
 let i:=(decide (g<h));bif i then
  let j:=(a++[d]);gd (((a.length:Int)+([d].length:Int))*24<=70368744177664) <|let k:=(b++[(e,f)]);gd (((b.length:Int)+([(e,f)].length:Int))*16<=70368744177664) <|let l:=(wb .i64 (g+1));next l j k
 else
  some (a,b)
def psalterylaw21_LapAny.l1 (K:Nat) (a:Li) (b d e f g h i j k l m o p q s t u w y z A B D E F G H I J L:Int) (M N:Li) (O:Int) (P Q R S:Li) (n:Nat):Int->List Li->List (Int×Int)->Option ((List Li)×(List (Int×Int))):=wA (psalterylaw21_LapAny.r1 K a b d e f g h i j k l m o p q s t u w y z A B D E F G H I J L M N O P Q R S) (fun _ _ _=>none) n
def psalterylaw21_LapAny.r2 (_K:Nat) (d:Li) (_m _n _o h _p _q _s _t _u _w _y _z _A _B _D _E _F _G _H _I _J _L _M _N _O _P e f _Q _R:Int) (_S _T:Li) (_U:Int) (_V _W _X:Li) (_Y:Int) (_Z _aa _ab _ad _ae:Li) (next:Int->List Li->List (Int×Int)->Option ((List Li)×(List (Int×Int)))) (g:Int) (a:List Li) (b:List (Int×Int)):Option ((List Li)×(List (Int×Int))):=
 let i:=(decide (g<h));bif i then
  let j:=(a++[d]);gd (((a.length:Int)+([d].length:Int))*24<=70368744177664) <|let k:=(b++[(e,f)]);gd (((b.length:Int)+([(e,f)].length:Int))*16<=70368744177664) <|let l:=(wb .i64 (g+1));next l j k
 else
  some (a,b)
def psalterylaw21_LapAny.l2 (K:Nat) (a:Li) (b d e f g h i j k l m o p q s t u w y z A B D E F G H I J L:Int) (M N:Li) (O:Int) (P Q R:Li) (S:Int) (T U V W X:Li) (n:Nat):Int->List Li->List (Int×Int)->Option ((List Li)×(List (Int×Int))):=wA (psalterylaw21_LapAny.r2 K a b d e f g h i j k l m o p q s t u w y z A B D E F G H I J L M N O P Q R S T U V W X) (fun _ _ _=>none) n
def psalterylaw21_LapAny (K:Nat) (d e b f g h i j a k:Int) (l:ByteArray):Option Bool:=
 (qJ K ).bind fun a6=>
 bif (!a6) then
  some false
 else
  let a7:=(decide ((l.size:Int)>600));bif a7 then
   some true
  else
   (yx K ).bind fun _=>
   (wJ K d e b f g h i j a k (List.replicate 388 none) 0 0).bind fun z=>match z with
   | .inl a8=>
    bif (a8 != 0) then
     some true
    else
     (zM K d e b f g h i j a k (sbytes l)).bind fun (p,q,s,t,u,w,y,A,B,D,E,F,G,H,I,J,L,M,N,m,O,P)=>
     bif (P != 0) then
      let a9:=((m.length:Int)==0);let ba:=(bif (P==140) then a9 else false);some ba
     else
      (xj K d e b f g h i j a k p q s t u w y A B D E F G H I J L M N m O).bind fun (bb,Q)=>
      (psalterylaw21_LapAny.l0 K bb Q d e b f g h i j a k p q s t u w y A B D E F G H I J L M N m O K 0 ([]:List Li) ([]:List (Int×Int)):Option ((List Li)×(List (Int×Int)))).bind fun (bd,be)=>
       (jx K bd be).bind fun bf=>
       let bg:=(bif (Q==0) then false else false);let bh:=(wb .i64 (b*a));let bi:=((bf.length:Int)==bh);let bj:=(bif bg then bi else false);some bj
   | .inr (.inl (_bM,_bN,_bO,R,S,T,U,V))=>
    (zM K d e b f g h i j a k (sbytes l)).bind fun (W,X,Y,Z,aa,ab,ad,ae,af,ag,ah,ai,aj,ak,al,am,an,ao,ap,n,aq,au)=>
    bif (au != 0) then
     let bk:=((n.length:Int)==0);let bl:=(bif (au==140) then bk else false);some bl
    else
     (xj K d e b f g h i j a k W X Y Z aa ab ad ae af ag ah ai aj ak al am an ao ap n aq).bind fun (bm,aw)=>
     (psalterylaw21_LapAny.l1 K bm aw d e b f g h i j a k W X Y Z aa ab ad ae af ag ah ai aj ak al am an ao ap n aq R S T U V K 0 ([]:List Li) ([]:List (Int×Int)):Option ((List Li)×(List (Int×Int)))).bind fun (bn,bo)=>
      (w4 K bn bo d e 1 f g h i j a k R S T U V).bind fun (bp,bq,_bP,_bQ)=>
      let bs:=(bif (aw==0) then (bq==0) else false);let bt:=(wb .i64 (b*a));let bu:=((bp.length:Int)==bt);let bw:=(bif bs then bu else false);some bw
   | .inr (.inr (_bR,_bS,_bT,ay,az,aA,aB,aD,aE,aF,aG,aH,aI))=>
    (zM K d e b f g h i j a k (sbytes l)).bind fun (aJ,aL,aM,aN,aO,aP,aQ,aR,aS,aT,aU,aV,aW,aX,aY,aZ,a0,a1,a2,o,a3,a4)=>
    bif (a4 != 0) then
     let bz:=((o.length:Int)==0);let bA:=(bif (a4==140) then bz else false);some bA
    else
     (xj K d e b f g h i j a k aJ aL aM aN aO aP aQ aR aS aT aU aV aW aX aY aZ a0 a1 a2 o a3).bind fun (bB,a5)=>
     (psalterylaw21_LapAny.l2 K bB a5 d e b f g h i j a k aJ aL aM aN aO aP aQ aR aS aT aU aV aW aX aY aZ a0 a1 a2 o a3 ay az aA aB aD aE aF aG aH aI K 0 ([]:List Li) ([]:List (Int×Int)):Option ((List Li)×(List (Int×Int)))).bind fun (bD,bE)=>
      (w3 K bD bE d e 2 f g h i j a k ay az aA aB aD aE aF aG aH aI).bind fun (bF,bG,_bU,_bV,_bW,_bX)=>
      let bH:=(bif (a5==0) then (bG==0) else false);let bI:=(wb .i64 (b*a));let bJ:=((bF.length:Int)==bI);let bL:=(bif bH then bJ else false);some bL
end Go.Fo
