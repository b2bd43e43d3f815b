/- Frames are parsed: they come to results. -/
import Derived.Test.YtllmmohdmmneoaaGreatMaWm
import Derived.Test.YtllmmohdmmneoaaGreatMaWi
namespace Go.Fo
set_option maxRecDepth 6000
theorem btk {n x y k:Nat} {g:Nat->Int} (hg:B01 g) (hn:n<=1000000) (hk:k<32) (hs:x+y+k<=8*n):Ok (fun r=>0<=r.1/\r.1<2^k/\r.2=((y+k:Nat):Int)) (wj 100000 k x y (pf n g)):=by
 have hr:=Je hg n y k
 exact ⟨_,ur hg hn hk hs,hr.1,hr.2,rfl⟩
theorem VD {a b:Li} (ha:a.length<=4000):Ok (fun r=>r=true->a=b) (zf 100000 a b):=by
 refine Ok.ite (fun _=>Ok.some (fun h=>by cases h)) (fun c=>?_)
 have c:(a.length:Int)=(b.length:Int):=by simpa using c
 refine Ok.bind (Q:=fun z=>match z with|.inl _=>∀i:Nat,i<a.length->a.getD i 0=b.getD i 0|.inr r=>r=false) ?_ ?_
 ·unfold zf.l0
  refine kS (fun i=>0<=i/\i<=(a.length:Int)/\∀j:Nat,(j:Int)<i->a.getD j 0=b.getD j 0) (fun i=>((a.length:Int)-i).toNat) _ ?_ 100000 _ ⟨by omega,by omega,fun j hj=>by omega⟩ (by omega)
  rintro next i ⟨h1,h2,h3⟩ ih
  refine Ok.ite (fun d=>?_) (fun d=>Ok.some (fun j hj=>h3 j (by have:=df d;omega)))
  have d:=dt d
  refine Ok.gd ⟨h1,d⟩ (Ok.gd ⟨h1,by omega⟩ (Ok.ite (fun _=>Ok.some rfl) (fun d2=>?_)))
  have d2:(a.getD i.toNat 0 != (b.getD i.toNat 0:Int))=false:=d2
  have e:=kw1 (x:=i) (by omega) (by omega)
  refine ih _ ⟨by omega,by omega,fun j hj=>?_⟩ (by omega)
  by_cases q:(j:Int)=i
  ·have e2:i.toNat=j:=by omega
   rw[e2] at d2
   simpa using d2
  ·exact h3 j (by omega)
 ·intro z hz
  cases z with
  | inl u =>
   refine Ok.some (fun _=>?_)
   apply List.ext_getElem
   ·omega
   ·intro i h1 h2
    have:=hz i h1
    rw[List.getD_eq_getElem?_getD,List.getD_eq_getElem?_getD,List.getElem?_eq_getElem h1,List.getElem?_eq_getElem h2] at this
    exact this
  | inr r=>exact Ok.some (fun h=>by have hz:r=false:=hz;rw[hz] at h;cases h)
abbrev PrT:=Int×Int×Int×Int×Int×Int×Int×Int×Int×Int×Int×Int×Int×Int×Int×Int×Int×Int×Int×Li×Li×Int
def PrR (b:Li) (p0 p1 p2 p3 p4 p5 p6 p7 p8 p9:Int):PrT->Prop
  | (w,c,r0,r1,r2,r3,r4,r5,r6,r7,on,i0,i1,i2,i3,la,st,gn,ns,q,z,e)=>(e=140/\q=[])\/(e=0/\Fit p0 p1 p2 p3 p4 p5 p6 p7 p8 p9 w c r0 r1 r2 r3 r4 r5 r6 r7 on i0 i1 i2 i3 la st gn ns q z/\qd 100000 p0 p1 p2 p3 p4 p5 p6 p7 p8 p9 w c r0 r1 r2 r3 r4 r5 r6 r7 on i0 i1 i2 i3 la st gn ns q z=some true/\wL 100000 p0 p1 p2 p3 p4 p5 p6 p7 p8 p9 w c r0 r1 r2 r3 r4 r5 r6 r7 on i0 i1 i2 i3 la st gn ns q z=some (b,0))
theorem VK {n:Nat} {g:Nat->Int} (hg:B01 g) (hn:n<=1000000) {b:Li} {v:Int} {p0 p1 p2 p3 p4 p5 p6 p7 p8 p9 w c r0 r1 r2 r3 r4 r5 r6 r7 on i0 i1 i2 i3 la st gn ns:Int} {q:Li} {y:Nat} (hv:v<=200) (hy:(y:Int)+v<=8*n\/v<=0):Ok (fun z=>z.length<=200) (zM.l0 100000 b v p0 p1 p2 p3 p4 p5 p6 p7 p8 p9 w c r0 r1 r2 r3 r4 r5 r6 r7 on i0 i1 i2 i3 la st gn ns q (pf n g) 100000 0 y []):=by
 have key:∀(j m i:Nat) (z:Li),j<m->v<=i+j->z.length=i->i+j<=200->Ok (fun z=>z.length<=200) (zM.l0 100000 b v p0 p1 p2 p3 p4 p5 p6 p7 p8 p9 w c r0 r1 r2 r3 r4 r5 r6 r7 on i0 i1 i2 i3 la st gn ns q (pf n g) m (i:Int) ((y+i:Nat):Int) z):=by
  intro j
  induction j with
  | zero =>
   intro m i z hm hvi hzi hi2
   obtain ⟨m,rfl⟩:∃q,m=q+1:=⟨m-1,by omega⟩
   show Ok _ (zM.r0 100000 b v p0 p1 p2 p3 p4 p5 p6 p7 p8 p9 w c r0 r1 r2 r3 r4 r5 r6 r7 on i0 i1 i2 i3 la st gn ns q (pf n g) (zM.l0 100000 b v p0 p1 p2 p3 p4 p5 p6 p7 p8 p9 w c r0 r1 r2 r3 r4 r5 r6 r7 on i0 i1 i2 i3 la st gn ns q (pf n g) m) (i:Int) ((y+i:Nat):Int) z)
   unfold zM.r0
   exact Ok.ite (fun d=>by have:=dt d;omega) (fun _=>Ok.some (by omega))
  | succ j ih =>
   intro m i z hm hvi hzi hi2
   obtain ⟨m,rfl⟩:∃q,m=q+1:=⟨m-1,by omega⟩
   show Ok _ (zM.r0 100000 b v p0 p1 p2 p3 p4 p5 p6 p7 p8 p9 w c r0 r1 r2 r3 r4 r5 r6 r7 on i0 i1 i2 i3 la st gn ns q (pf n g) (zM.l0 100000 b v p0 p1 p2 p3 p4 p5 p6 p7 p8 p9 w c r0 r1 r2 r3 r4 r5 r6 r7 on i0 i1 i2 i3 la st gn ns q (pf n g) m) (i:Int) ((y+i:Nat):Int) z)
   unfold zM.r0
   refine Ok.ite (fun d=>?_) (fun _=>Ok.some (by omega))
   have d:=dt d
   refine Ok.bind (btk (k:=1) (x:=0) (y:=y+i) hg hn (by decide) (by omega)) ?_
   rintro ⟨x,_⟩ ⟨_,_,rfl⟩
   refine Ok.gd (by show ((z.length:Int)+1)*8<=_;omega) ?_
   dsimp only
   rw[kw1 (by omega) (by omega)]
   exact ih m (i+1) (z++[x]) (by omega) (by omega) (by rw[List.length_append];show z.length+1=i+1;omega) (by omega)
 exact key 200 100000 0 [] (by omega) (by omega) rfl (by omega)
theorem KH {p0 p1 p2 p3 p4 p5 p6 p7 p8 p9:Int} (hl:LapF p0 p1 p2 p3 p4 p5 p6 p7 p8 p9) (hm:kj 100000 p0 p1 p2 p3 p4 p5 p6 p7 p8 p9=some 0) {b:Li} (hU:U8 b) (hbl:b.length<=90000):Ok (PrR b p0 p1 p2 p3 p4 p5 p6 p7 p8 p9) (zM 100000 p0 p1 p2 p3 p4 p5 p6 p7 p8 p9 b):=by
  have hb0:=hl.by0;have hb1:=hl.by1
  have hl8:40<=p8/\p8<=120:=by rcases hl.ln with h|h|h|h<;>omega
  refine Ok.bind (Ok.is hm) ?_
  rintro _ rfl
  refine Ok.ite (fun c=>by cases c) (fun _=>?_)
  refine Ok.ite (fun _=>Ok.some (.inl ⟨rfl,rfl⟩)) (fun c=>?_)
  have hlen:(b.length:Int)=p9:=by simpa using c
  have hpf:=HG hU
  have hg:=gF b
  generalize hgd:bof b=g at *
  generalize hnd:b.length=n at *
  have hn:n<=1000000:=by omega
  have ho:=Ua (n:=n) (by omega) (by omega) g
  have ho2:xH 100000 b=some (pf n g):=by rw[hpf] at ho ⊢;exact ho
  refine Ok.bind (Ok.is ho2) ?_
  rintro _ rfl
  have hpf2:b=pf n g:=hpf.symm
  have hcont:∀(w c r0 r1 r2 r3 r4 r5 r6 r7 on i0 i1 i2 i3 la st gn ns:Int) (y:Nat) (M:Int),(∀i,-1000<=([r0,r1,r2,r3,r4,r5,r6,r7]:Li).getD i 0/\([r0,r1,r2,r3,r4,r5,r6,r7]:Li).getD i 0<=1000)->(-1000<=la/\la<=1000)->(y:Int)=sdw on st →
      Ok (PrR b p0 p1 p2 p3 p4 p5 p6 p7 p8 p9) ((zV 100000 0 0 y (pf n g)).bind fun (aZ,a0,a1)=>(km 100000 M 0 65535 aZ a0 a1 0 y (pf n g)).bind fun (a2,_,_,_,_,S) =>
        bif (bif (a2 != 0) then true else (decide (M>p8))) then
         some (0,0,0,0,0,0,0,0,0,0,0,0,0,0,0,0,0,0,0,([]:Li),([]:Li),140)
        else
         gd ((0:Int)<=(wb .i64 (p8-M))/\((S.length:Int)+(wb .i64 (p8-M)))*8<=70368744177664) <|
         (zi 100000 w c r0 r1 r2 r3 r4 r5 r6 r7 on i0 i1 i2 i3 la st gn ns (S++(List.replicate (Int.toNat (wb .i64 (p8-M))) (0:Int)))).bind fun a5 =>
         (wX 100000 p0 p1 p2 p3 p4 p5 p6 p7 p8 p9 w c r0 r1 r2 r3 r4 r5 r6 r7 on i0 i1 i2 i3 la st gn ns (S++(List.replicate (Int.toNat (wb .i64 (p8-M))) (0:Int)))).bind fun a6 =>
         (zM.l0 100000 b (imin a5 a6) p0 p1 p2 p3 p4 p5 p6 p7 p8 p9 w c r0 r1 r2 r3 r4 r5 r6 r7 on i0 i1 i2 i3 la st gn ns (S++(List.replicate (Int.toNat (wb .i64 (p8-M))) (0:Int))) (pf n g) 100000 0 y ([]:Li):Option Li).bind fun T =>
          (wL 100000 p0 p1 p2 p3 p4 p5 p6 p7 p8 p9 w c r0 r1 r2 r3 r4 r5 r6 r7 on i0 i1 i2 i3 la st gn ns (S++(List.replicate (Int.toNat (wb .i64 (p8-M))) (0:Int))) T).bind fun (a8,a9) =>
          (bif (a9 != 0) then some true else (zf 100000 a8 b).bind fun ba=>some (!ba):Option Bool).bind fun bb =>
           bif bb then
            some (0,0,0,0,0,0,0,0,0,0,0,0,0,0,0,0,0,0,0,([]:Li),([]:Li),140)
           else
            some (w,c,r0,r1,r2,r3,r4,r5,r6,r7,on,i0,i1,i2,i3,la,st,gn,ns,(S++(List.replicate (Int.toNat (wb .i64 (p8-M))) (0:Int))),T,0)):=by
    intro w c r0 r1 r2 r3 r4 r5 r6 r7 on i0 i1 i2 i3 la st gn ns y M hr hla hy
    have hsr:0<=sdw on st/\sdw on st<=100:=by unfold sdw;split<;>split<;>omega
    refine Ok.bind (Ok.is (HA hg hn 0 y)) ?_
    rintro _ rfl
    refine Ok.bind (Uj hg hn (x:=0) (y:=y) (GN (Kn (n:=n) hg)) (by show 16<=1000;decide) M) ?_
    rintro ⟨a2,b1,b2,b3,b4,S⟩ hS
    refine Ok.ite (fun _=>Ok.some (.inl ⟨rfl,rfl⟩)) (fun cc=>?_)
    obtain ⟨c1,c2⟩:=xF cc
    have c1:a2=0:=by simpa using c1
    have c2:=df c2
    obtain ⟨hSl,hM0,hM1,hSS⟩:=hS c1
    have hSl:(S.length:Int)=M:=hSl
    have hSS:Stp S:=hSS
    have ek:wb .i64 (p8-M)=p8-M:=wT (by omega) (by omega)
    rw[ek]
    have hAl:(S++List.replicate (Int.toNat (p8-M)) (0:Int)).length=p8.toNat:=by rw[List.length_append,List.length_replicate];omega
    have hAS:Stp (S++List.replicate (Int.toNat (p8-M)) (0:Int)):=⟨by rw[hAl];omega,fun i=>by
      rw[List.getD_eq_getElem?_getD]
      by_cases hi:i<S.length
      · rw[List.getElem?_append_left hi,<-List.getD_eq_getElem?_getD];exact hSS.2 i
      · rw[List.getElem?_append_right (by omega),List.getElem?_replicate]
        split<;>decide⟩
    generalize S++List.replicate (Int.toNat (p8-M)) (0:Int)=A at *
    refine Ok.gd ⟨by omega,by omega⟩ ?_
    refine Ok.bind (Ok.is (Hf (q:=A) (by omega))) ?_
    rintro _ rfl
    refine Ok.bind (Ok.is (gI (q:=A) hr hla hAS (by omega))) ?_
    rintro _ rfl
    have hnz:=Q6 A A.length
    have him:imin (nzc A A.length:Int) (8*p9-sdw on st-((cod (A.take (lst A A.length))).length:Int))<=200/\imin (nzc A A.length:Int) (8*p9-sdw on st-((cod (A.take (lst A A.length))).length:Int))<=8*p9-sdw on st-((cod (A.take (lst A A.length))).length:Int):=by
      unfold imin;split<;>omega
    refine Ok.bind (VK hg hn (y:=y) him.1 (.inl (by omega))) ?_
    intro z hz
    refine Ok.bind (Gx hl hm w c r0 r1 r2 r3 r4 r5 r6 r7 on i0 i1 i2 i3 la st gn ns A z (by omega) (by omega)).isR ?_
    rintro ⟨a8,a9⟩ ⟨hpk,hp⟩
    refine Ok.bind (Q:=fun bb=>bb=false->a9=0/\a8=b) ?_ ?_
    · refine Ok.ite (fun _=>Ok.some (fun h=>by cases h)) (fun c3=>?_)
      have c3:a9=0:=by simpa using c3
      have ha8:=(hp c3).2.2
      have ha8:a8=pf p9.toNat (frg p9.toNat w c r0 r1 r2 r3 r4 r5 r6 r7 on i0 i1 i2 i3 la st gn ns A z):=ha8
      refine Ok.bind (VD (b:=b) (by rw[ha8,kH];omega)) ?_
      intro ba hba
      exact Ok.some (fun h=>⟨c3,hba (by cases ba;cases h;rfl)⟩)
    · intro bb hbb
      refine Ok.ite (fun _=>Ok.some (.inl ⟨rfl,rfl⟩)) (fun c4=>?_)
      obtain ⟨e9,e8⟩:=hbb c4
      subst e9 e8
      obtain ⟨f1,f2,_⟩:=hp rfl
      exact Ok.some (.inr ⟨rfl,f1,f2,hpk⟩)
  refine Ok.bind (btk (k:=2) (x:=0) (y:=0) hg hn (by decide) (by omega)) ?_
  rintro ⟨w,_⟩ ⟨w_0,w_1,rfl⟩
  have w_0:0<=w:=w_0
  have w_1:w<4:=w_1
  refine Ok.bind (btk (k:=4) (x:=0) (y:=0+2) hg hn (by decide) (by omega)) ?_
  rintro ⟨c,_⟩ ⟨c_0,c_1,rfl⟩
  have c_0:0<=c:=c_0
  have c_1:c<16:=c_1
  refine Ok.bind (Q:=fun r=>r.1=((30:Nat):Int)/\∀i,-1000<=([r.2.1,r.2.2.1,r.2.2.2.1,r.2.2.2.2.1,r.2.2.2.2.2.1,r.2.2.2.2.2.2.1,r.2.2.2.2.2.2.2.1,r.2.2.2.2.2.2.2.2]:Li).getD i 0/\([r.2.1,r.2.2.1,r.2.2.2.1,r.2.2.2.2.1,r.2.2.2.2.2.1,r.2.2.2.2.2.2.1,r.2.2.2.2.2.2.2.1,r.2.2.2.2.2.2.2.2]:Li).getD i 0<=1000) ?_ ?_
  · show Ok _ ((wj 100000 3 0 ((6:Nat):Int) (pf n g)).bind _)
    refine Ok.bind (btk (k:=3) (x:=0) (y:=6) hg hn (by decide) (by omega)) ?_
    rintro ⟨x0,_⟩ ⟨x0_0,x0_1,rfl⟩
    have x0_0:0<=x0:=x0_0
    have x0_1:x0<8:=x0_1
    refine Ok.bind (btk (k:=3) (x:=0) (y:=9) hg hn (by decide) (by omega)) ?_
    rintro ⟨x1,_⟩ ⟨x1_0,x1_1,rfl⟩
    have x1_0:0<=x1:=x1_0
    have x1_1:x1<8:=x1_1
    refine Ok.bind (btk (k:=3) (x:=0) (y:=12) hg hn (by decide) (by omega)) ?_
    rintro ⟨x2,_⟩ ⟨x2_0,x2_1,rfl⟩
    have x2_0:0<=x2:=x2_0
    have x2_1:x2<8:=x2_1
    refine Ok.bind (btk (k:=3) (x:=0) (y:=15) hg hn (by decide) (by omega)) ?_
    rintro ⟨x3,_⟩ ⟨x3_0,x3_1,rfl⟩
    have x3_0:0<=x3:=x3_0
    have x3_1:x3<8:=x3_1
    refine Ok.bind (btk (k:=3) (x:=0) (y:=18) hg hn (by decide) (by omega)) ?_
    rintro ⟨x4,_⟩ ⟨x4_0,x4_1,rfl⟩
    have x4_0:0<=x4:=x4_0
    have x4_1:x4<8:=x4_1
    refine Ok.bind (btk (k:=3) (x:=0) (y:=21) hg hn (by decide) (by omega)) ?_
    rintro ⟨x5,_⟩ ⟨x5_0,x5_1,rfl⟩
    have x5_0:0<=x5:=x5_0
    have x5_1:x5<8:=x5_1
    refine Ok.bind (btk (k:=3) (x:=0) (y:=24) hg hn (by decide) (by omega)) ?_
    rintro ⟨x6,_⟩ ⟨x6_0,x6_1,rfl⟩
    have x6_0:0<=x6:=x6_0
    have x6_1:x6<8:=x6_1
    refine Ok.bind (btk (k:=3) (x:=0) (y:=27) hg hn (by decide) (by omega)) ?_
    rintro ⟨x7,_⟩ ⟨x7_0,x7_1,rfl⟩
    have x7_0:0<=x7:=x7_0
    have x7_1:x7<8:=x7_1
    dsimp only
    rw[wT (x:=x0-4) (by omega) (by omega),wT (x:=x1-4) (by omega) (by omega),wT (x:=x2-4) (by omega) (by omega),wT (x:=x3-4) (by omega) (by omega),wT (x:=x4-4) (by omega) (by omega),wT (x:=x5-4) (by omega) (by omega),wT (x:=x6-4) (by omega) (by omega),wT (x:=x7-4) (by omega) (by omega)]
    refine Ok.some ⟨rfl,Uh (L:=[x0-4,x1-4,x2-4,x3-4,x4-4,x5-4,x6-4,x7-4]) rfl (fun i hi=>?_)⟩
    rcases (show i=0\/i=1\/i=2\/i=3\/i=4\/i=5\/i=6\/i=7 by omega) with rfl|rfl|rfl|rfl|rfl|rfl|rfl|rfl
    · exact ⟨by show -4<=x0-4;omega,by show x0-4<=3;omega⟩
    · exact ⟨by show -4<=x1-4;omega,by show x1-4<=3;omega⟩
    · exact ⟨by show -4<=x2-4;omega,by show x2-4<=3;omega⟩
    · exact ⟨by show -4<=x3-4;omega,by show x3-4<=3;omega⟩
    · exact ⟨by show -4<=x4-4;omega,by show x4-4<=3;omega⟩
    · exact ⟨by show -4<=x5-4;omega,by show x5-4<=3;omega⟩
    · exact ⟨by show -4<=x6-4;omega,by show x6-4<=3;omega⟩
    · exact ⟨by show -4<=x7-4;omega,by show x7-4<=3;omega⟩
  rintro ⟨_,r0,r1,r2,r3,r4,r5,r6,r7⟩ ⟨rfl,hr⟩
  have hr:∀i,-1000<=([r0,r1,r2,r3,r4,r5,r6,r7]:Li).getD i 0/\([r0,r1,r2,r3,r4,r5,r6,r7]:Li).getD i 0<=1000:=hr
  refine Ok.bind (btk (k:=1) (x:=0) (y:=30) hg hn (by decide) (by omega)) ?_
  rintro ⟨on,_⟩ ⟨on_0,on_1,rfl⟩
  have on_0:0<=on:=on_0
  have on_1:on<2:=on_1
  refine Ok.bind (Q:=fun r=>r.1=((31+(if on=1 then 20 else 0):Nat):Int)) ?_ ?_
  · refine Ok.ite (fun c=>?_) (fun c=>Ok.some (by rw[if_neg (by simpa using c)]))
    have c:on=1:=by simpa using c
    rw[if_pos c]
    refine Ok.bind (Q:=fun r=>r.1=((51:Nat):Int)) ?_ (fun r hr=>Ok.some hr)
    show Ok _ ((wj 100000 5 0 ((31:Nat):Int) (pf n g)).bind _)
    refine Ok.bind (btk (k:=5) (x:=0) (y:=31) hg hn (by decide) (by omega)) ?_
    rintro ⟨y0,_⟩ ⟨y0_0,y0_1,rfl⟩
    have y0_0:0<=y0:=y0_0
    have y0_1:y0<32:=y0_1
    refine Ok.bind (btk (k:=5) (x:=0) (y:=36) hg hn (by decide) (by omega)) ?_
    rintro ⟨y1,_⟩ ⟨y1_0,y1_1,rfl⟩
    have y1_0:0<=y1:=y1_0
    have y1_1:y1<32:=y1_1
    refine Ok.bind (btk (k:=5) (x:=0) (y:=41) hg hn (by decide) (by omega)) ?_
    rintro ⟨y2,_⟩ ⟨y2_0,y2_1,rfl⟩
    have y2_0:0<=y2:=y2_0
    have y2_1:y2<32:=y2_1
    refine Ok.bind (btk (k:=5) (x:=0) (y:=46) hg hn (by decide) (by omega)) ?_
    rintro ⟨y3,_⟩ ⟨y3_0,y3_1,rfl⟩
    have y3_0:0<=y3:=y3_0
    have y3_1:y3<32:=y3_1
    exact Ok.some rfl
  rintro ⟨_,i0,i1,i2,i3⟩ hy1
  have hy1:_=((31+(if on=1 then 20 else 0):Nat):Int):=hy1
  subst hy1
  have hons:(31+(if on=1 then 20 else 0):Nat)<=51:=by split<;>omega
  generalize hY1:(31+(if on=1 then 20 else 0):Nat)=Y1 at *
  refine Ok.bind (btk (k:=2) (x:=0) (y:=Y1) hg hn (by decide) (by omega)) ?_
  rintro ⟨st,_⟩ ⟨st_0,st_1,rfl⟩
  have st_0:0<=st:=st_0
  have st_1:st<4:=st_1
  refine Ok.bind (Q:=fun r=>r.1=((Y1+2+(if 0<st then 6 else 0):Nat):Int)/\-1000<=r.2/\r.2<=1000) ?_ ?_
  · refine Ok.ite (fun c=>?_) (fun c=>Ok.some ⟨by rw[if_neg (df c)],by show -1000<=(0:Int);decide,by show (0:Int)<=1000;decide⟩)
    rw[if_pos (dt c)]
    refine Ok.bind (btk (k:=6) (x:=0) (y:=Y1+2) hg hn (by decide) (by omega)) ?_
    rintro ⟨x,_⟩ ⟨x_0,x_1,rfl⟩
    have x_0:0<=x:=x_0
    have x_1:x<64:=x_1
    dsimp only
    rw[wT (x:=x+16) (by omega) (by omega)]
    exact Ok.some ⟨rfl,by show -1000<=x+16;omega,by show x+16<=1000;omega⟩
  rintro ⟨_,la⟩ ⟨hy2,hla⟩
  have hy2:_=((Y1+2+(if 0<st then 6 else 0):Nat):Int):=hy2
  have hla:-1000<=la/\la<=1000:=hla
  subst hy2
  have hsts:(Y1+2+(if 0<st then 6 else 0):Nat)<=Y1+8:=by split<;>omega
  have hsd:((Y1+2+(if 0<st then 6 else 0)+8+3+7:Nat):Int)=sdw on st:=by
    rw[<-hY1];unfold sdw
    split<;>split<;>rfl
  generalize (Y1+2+(if 0<st then 6 else 0):Nat)=Y2 at *
  refine Ok.bind (btk (k:=8) (x:=0) (y:=Y2) hg hn (by decide) (by omega)) ?_
  rintro ⟨gn,_⟩ ⟨gn_0,gn_1,rfl⟩
  have gn_0:0<=gn:=gn_0
  have gn_1:gn<256:=gn_1
  refine Ok.bind (btk (k:=3) (x:=0) (y:=Y2+8) hg hn (by decide) (by omega)) ?_
  rintro ⟨ns,_⟩ ⟨ns_0,ns_1,rfl⟩
  have ns_0:0<=ns:=ns_0
  have ns_1:ns<8:=ns_1
  refine Ok.bind (btk (k:=7) (x:=0) (y:=Y2+8+3) hg hn (by decide) (by omega)) ?_
  rintro ⟨M,_⟩ ⟨M_0,M_1,rfl⟩
  have M_0:0<=M:=M_0
  have M_1:M<128:=M_1
  exact hcont w c r0 r1 r2 r3 r4 r5 r6 r7 on i0 i1 i2 i3 la st gn ns _ M hr hla hsd
end Go.Fo
