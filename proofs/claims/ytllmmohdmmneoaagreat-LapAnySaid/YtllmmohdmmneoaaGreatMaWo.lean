/- Lines of parameters: they come to results. -/
import Derived.Test.YtllmmohdmmneoaaGreatMaWl
namespace Go.Fo
set_option maxRecDepth 6000
theorem VB (a:Int):Ok (fun _=>True) (yT 100000 a):=Ok.bind (vt a _ _ (by decide)) (fun _ _=>Ok.some trivial)
theorem Gu (a b d:Int) (h:b<=d):Ok (fun _=>True) (z4 100000 a b d):=Ok.bind (vt a b d h) (fun _ _=>Ok.some trivial)
theorem WC (a b:Int):Ok (fun _=>True) (ki 100000 a b):=Ok.bind (yl _) (fun _ _=>Ok.some trivial)
theorem Za (a b:Int):Ok (fun _=>True) (xI 100000 a b):=Ok.bind (yl _) (fun _ _=>Ok.some trivial)
theorem yh (a b:Int):Ok (fun _=>True) (zJ 100000 a b):=by
 unfold zJ
 exact Ok.bind (xK _ _) (fun _ _=>Ok.bind (Q:=fun _=>True) (yl _) (fun _ _=>Ok.some trivial))
theorem Qi {a:Int} (d:Int) (h:a≠0):Ok (fun _=>True) (j5 100000 d a):=Ok.gd h (Ok.bind (Q:=fun _=>True) (Ok.ite (fun _=>Ok.some trivial) (fun _=>Ok.some trivial)) (fun _ _=>Ok.some trivial))
theorem QG {a:Int} (d:Int) (h0:1<=a) (h1:a<=4194304):Ok (fun _=>True) (kX 100000 d a):=by
 have hu:wb .u64 a≠0:=by rw[UR];omega
 refine Ok.bind (Q:=fun _=>True) ?_ ?_
 ·refine Ok.bind (Qi d (by omega)) (fun g _=>Ok.gd (by omega) (Ok.gd (by omega) (Ok.bind (Q:=fun _=>True) (Ok.ite (fun _=>Ok.some trivial) (fun _=>Ok.some trivial)) (fun j _=>Ok.gd hu (Ok.some trivial)))))
 ·rintro ⟨l,e⟩ _
  refine Ok.bind (Q:=fun _=>True) ?_ (fun i _=>Ok.bind (xK _ _) (fun m _=>Ok.bind (Gu _ _ _ (by decide)) (fun d _=>Ok.bind (Q:=fun _=>True) (Ok.ite (fun _=>Ok.some trivial) (fun _=>Ok.some trivial)) (fun _ _=>Ok.some trivial))))
  unfold kX.l0
  refine qo (fun _ a=>0<=a/\a<=4) (fun _ a=>(4-a).toNat) _ ?_ 100000 _ _ ⟨by omega,by omega⟩ (by omega)
  rintro next b a ⟨h1,h2⟩ ih
  refine Ok.ite (fun c=>?_) (fun _=>Ok.some trivial)
  have c:=dt c
  have e:=kw1 (x:=a) (by omega) (by omega)
  exact Ok.gd ⟨h1,c⟩ (ih _ _ ⟨by omega,by omega⟩ (by omega))
theorem Zc (a:Int):Ok (fun _=>True) (jp 100000 a):=by
 refine Ok.bind (Q:=fun _=>True) ?_ (fun _ _=>Ok.some trivial)
 unfold xE
 refine Ok.ite (fun _=>Ok.some trivial) (fun _=>Ok.bind (QG (a:=34) _ (by decide) (by decide)) (fun _ _=>Ok.some trivial))
theorem HT (n a b d e:Int):Ok (fun _=>True) (vU 100000 n a b d e):=by
 refine Ok.bind (Q:=fun _=>True) ?_ (fun _ _=>Ok.some trivial)
 exact Ok.bind (Zc _) (fun _ _=>Ok.bind (Zc _) (fun _ _=>Ok.bind (Zc _) (fun _ _=>Ok.bind (Zc _) (fun _ _=>Ok.some trivial))))
theorem uU (a b d e A f g h i j k l m:Int):Ok (fun _=>True) (ka 100000 a b d e A f g h i j k l m):=by
 refine Ok.bind (Q:=fun _=>True) ?_ (fun _ _=>Ok.some trivial)
 refine Ok.bind (yh _ _) (fun _ _=>Ok.bind (WC _ _) (fun _ _=>?_))
 refine Ok.bind (yh _ _) (fun _ _=>Ok.bind (WC _ _) (fun _ _=>?_))
 refine Ok.bind (yh _ _) (fun _ _=>Ok.bind (WC _ _) (fun _ _=>?_))
 exact Ok.bind (yh _ _) (fun _ _=>Ok.bind (WC _ _) (fun _ _=>Ok.some trivial))
theorem GM (a b d e f g h i j:Int):Ok (fun _=>True) (jo 100000 a b d e f g h i j):=by
 refine Ok.bind (Q:=fun _=>True) ?_ (fun _ _=>Ok.bind (uU _ _ _ _ _ _ _ _ _ _ _ _ _) (fun _ _=>Ok.some trivial))
 refine Ok.bind (yh _ _) (fun _ _=>Ok.bind (Za _ _) (fun _ _=>?_))
 refine Ok.bind (yh _ _) (fun _ _=>Ok.bind (Za _ _) (fun _ _=>?_))
 refine Ok.bind (yh _ _) (fun _ _=>Ok.bind (Za _ _) (fun _ _=>?_))
 exact Ok.bind (yh _ _) (fun _ _=>Ok.bind (Za _ _) (fun _ _=>Ok.some trivial))
theorem K3 {d:Nat} {x:Li} (on i0 i1 i2 i3:Int) (h0:0<d) (h1:d<=x.length) (hx:x.length<=1000):Ok (fun _=>True) (qF 100000 d on i0 i1 i2 i3 x):=by
 refine Ok.ite (fun _=>Ok.some trivial) (fun c=>?_)
 refine Ok.bind (Z7 on i0 i1 i2 i3) (fun j _=>Ok.ite (fun _=>Ok.some trivial) (fun _=>?_))
 have hcl:zH 100000 d x=some (x.take d):=by
  unfold zH
  simp only[List.nil_append]
  have e:(x.take d).length=d:=by rw[List.length_take];omega
  first
  | exact zp ⟨h1,by rw[e];omega⟩ rfl
  | exact zp ⟨h1,h0,by show ((0:Int)+(d:Int))*4<=_;omega⟩ rfl
  | exact zp (by intro q;rw[q] at h1;simp at h1;omega) (zp ⟨h1,h0,by show ((0:Int)+(d:Int))*4<=_;omega⟩ rfl)
 refine Ok.bind (Ok.is hcl) ?_
 rintro _ rfl
 refine Ok.ite (fun _=>Ok.some trivial) (fun _=>?_)
 refine Ok.bind (HT _ _ _ _ _) ?_
 rintro ⟨l,m,n,o⟩ _
 have hl:(x.take d).length=d:=by rw[List.length_take];omega
 refine Ok.bind (Q:=fun _=>True) ?_ (fun _ _=>Ok.some trivial)
 unfold qF.l0
 refine vT (fun a b _ _ _ _=>0<=a/\a<=(d:Int)/\b.length=d) (fun a _ _ _ _ _=>((d:Int)-a).toNat) _ ?_ 100000 _ _ _ _ _ _ ⟨by omega,by omega,hl⟩ (by omega)
 rintro next a b j k l2 m2 ⟨g1,g2,g3⟩ ih
 refine Ok.ite (fun c=>?_) (fun _=>Ok.some trivial)
 have c:=dt c
 rw[hl] at c
 refine Ok.gd ⟨g1,by omega,by omega⟩ (Ok.bind (GM _ _ _ _ _ _ _ _ _) ?_)
 rintro ⟨d2,p,q,s⟩ _
 have e:=kw1 (x:=a) (by omega) (by omega)
 exact Ok.gd ⟨g1,by omega,by omega⟩ (ih _ _ _ _ _ _ ⟨by omega,by omega,by rw[List.length_set];exact g3⟩ (by omega))
theorem Xi {c r0 r1 r2 r3 r4 r5 r6 r7:Int} (hc:0<=c/\c<=15) (hr:∀i,i<8->-4<=([r0,r1,r2,r3,r4,r5,r6,r7]:Li).getD i 0/\([r0,r1,r2,r3,r4,r5,r6,r7]:Li).getD i 0<=3):Ok (fun r=>r=0) (qu 100000 c r0 r1 r2 r3 r4 r5 r6 r7):=by
 refine Ok.ite (fun d=>?_) (fun _=>?_)
 ·have d:(bif decide (c<0) then true else decide (c>15))=true:=d
  rw[decide_eq_false (by omega),decide_eq_false (by omega)] at d;cases d
 refine Ok.bind (Q:=fun z=>match z with|.inl _=>True|.inr _=>False) ?_ ?_
 ·unfold qu.l0
  refine kS (fun a=>0<=a/\a<=8) (fun a=>(8-a).toNat) _ ?_ 100000 _ ⟨by omega,by omega⟩ (by omega)
  rintro next a ⟨h1,h2⟩ ih
  refine Ok.ite (fun d=>?_) (fun _=>Ok.some trivial)
  have d:=dt d
  have h:=hr a.toNat (by omega)
  have e:=kw1 (x:=a) (by omega) (by omega)
  refine Ok.gd ⟨h1,d⟩ (Ok.ite (fun d2=>?_) (fun _=>ih _ ⟨by omega,by omega⟩ (by omega)))
  have d2:(bif decide (([r0,r1,r2,r3,r4,r5,r6,r7]:Li).getD a.toNat 0 < -4) then true else decide (([r0,r1,r2,r3,r4,r5,r6,r7]:Li).getD a.toNat 0>3))=true:=d2
  rw[decide_eq_false (by omega),decide_eq_false (by omega)] at d2;cases d2
 ·intro z hz
  cases z with
  | inl u=>exact Ok.some rfl
  | inr r=>exact hz.elim
theorem GP {c r0 r1 r2 r3 r4 r5 r6 r7:Int} (hc:0<=c/\c<=15) (hr:∀i,i<8->-4<=([r0,r1,r2,r3,r4,r5,r6,r7]:Li).getD i 0/\([r0,r1,r2,r3,r4,r5,r6,r7]:Li).getD i 0<=3):Ok (fun r=>r.2=0/\r.1.length=8) (xY 100000 c r0 r1 r2 r3 r4 r5 r6 r7):=by
 refine Ok.bind (Xi hc hr) ?_
 rintro _ rfl
 refine Ok.ite (fun d=>by cases d) (fun _=>Ok.bind (Ok.is (show xA 100000=some () from rfl)) (fun _ _=>Ok.gd ⟨hc.1,by omega⟩ ?_))
 refine Ok.bind (Q:=fun l=>l.length=8) ?_ (fun l hl=>Ok.some ⟨rfl,hl⟩)
 dsimp only
 simp only[List.length_set,List.length_replicate]
 refine Ok.gd (by decide) (Ok.gd (by decide) (Ok.gd (by decide) (Ok.gd (by decide) (Ok.gd (by decide) (Ok.gd (by decide) (Ok.gd (by decide) (Ok.gd (by decide) (Ok.some ?_))))))))
 simp
theorem G7 {n:Int} (h:vj n):∃L:Li,xB 100000 n=some (L,0)/\L.length=9/\L.getD 0 0=0/\L.getD 8 0=n/\∀i,i<8->0<=L.getD i 0/\L.getD i 0<=L.getD (i+1) 0/\L.getD (i+1) 0<=n:=by
 have key:∀{L:Li} {m:Int},((List.range 8).all fun i=>decide (0<=L.getD i 0/\L.getD i 0<=L.getD (i+1) 0/\L.getD (i+1) 0<=m))=true->∀i,i<8->0<=L.getD i 0/\L.getD i 0<=L.getD (i+1) 0/\L.getD (i+1) 0<=m:=fun h i hi=>of_decide_eq_true (List.all_eq_true.1 h i (List.mem_range.2 hi))
 rcases h with rfl|rfl|rfl|rfl
 ·exact ⟨[0,2,4,7,11,16,23,31,40],rfl,rfl,rfl,rfl,key (by decide)⟩
 ·exact ⟨[0,3,6,10,16,24,34,46,60],rfl,rfl,rfl,rfl,key (by decide)⟩
 ·exact ⟨[0,4,8,14,22,32,46,62,80],rfl,rfl,rfl,rfl,key (by decide)⟩
 ·exact ⟨[0,6,12,21,33,48,69,93,120],rfl,rfl,rfl,rfl,key (by decide)⟩
theorem YG {x:Li} (h:vj (x.length:Int)) {c r0 r1 r2 r3 r4 r5 r6 r7:Int} (hc:0<=c/\c<=15) (hr:∀i,i<8->-4<=([r0,r1,r2,r3,r4,r5,r6,r7]:Li).getD i 0/\([r0,r1,r2,r3,r4,r5,r6,r7]:Li).getD i 0<=3) (sg:Int):Ok (fun r=>r.1=0/\r.2.length=x.length) (z3 100000 x c r0 r1 r2 r3 r4 r5 r6 r7 sg):=by
 obtain ⟨L,hL,h9,h0,h8,hi⟩:=G7 h
 have hxl:x.length<=120:=by rcases h with h|h|h|h<;>omega
 refine Ok.bind (Ok.is hL) ?_
 rintro _ rfl
 refine Ok.ite (fun d=>by cases d) (fun _=>?_)
 refine Ok.bind (GP hc hr) ?_
 rintro ⟨d,e⟩ ⟨he,hd⟩
 have he:e=0:=he
 have hd:d.length=8:=hd
 subst he
 refine Ok.ite (fun d=>by cases d) (fun _=>?_)
 refine Ok.gd ⟨by omega,by omega⟩ (Ok.bind (Q:=fun q=>q.length=x.length) ?_ (fun q hq=>Ok.some ⟨rfl,hq⟩))
 unfold z3.l0
 refine qo (fun a k=>0<=a/\a<=8/\(k.length:Int)=L.getD a.toNat 0) (fun a _=>(8-a).toNat) _ ?_ 100000 _ _ ⟨by omega,by omega,by rw[show Int.toNat 0=0 from rfl,h0];rfl⟩ (by omega)
 rintro next a k ⟨g1,g2,g3⟩ ih
 refine Ok.ite (fun d2=>?_) (fun d2=>Ok.some ?_)
 ·have d2:=dt d2
  have hb:=hi a.toNat (by omega)
  have e:=kw1 (x:=a) (by omega) (by omega)
  refine Ok.gd ⟨g1,d2⟩ (Ok.bind (Uy _) ?_)
  rintro ⟨p,t⟩ _
  have e1:Kd.nth (.int .i64) L (Int.toNat a)=L.getD a.toNat 0:=rfl
  have e2:Kd.nth (.int .i64) L (Int.toNat (a+1))=L.getD (a.toNat+1) 0:=by rw[show Int.toNat (a+1)=a.toNat+1 by omega];rfl
  dsimp only
  rw[e,e1,e2]
  refine Ok.gd ⟨g1,by omega⟩ (Ok.gd ⟨by omega,by omega⟩ (Ok.gd ⟨hb.1,hb.2.1,hb.2.2⟩ ?_))
  have hml:(((x.take (Int.toNat (L.getD (a.toNat+1) 0))).drop (Int.toNat (L.getD a.toNat 0))).length:Int)=L.getD (a.toNat+1) 0-L.getD a.toNat 0:=by rw[List.length_drop,List.length_take];omega
  generalize ((x.take (Int.toNat (L.getD (a.toNat+1) 0))).drop (Int.toNat (L.getD a.toNat 0)))=M at *
  refine Ok.bind (Q:=fun s=>(s.length:Int)=L.getD (a.toNat+1) 0) ?_ (fun s hs=>ih _ _ ⟨by omega,by omega,by rw[show Int.toNat (a+1)=a.toNat+1 by omega];exact hs⟩ (by omega))
  unfold z3.l1
  refine qo (fun i s=>0<=i/\i<=(M.length:Int)/\(s.length:Int)=L.getD a.toNat 0+i) (fun i _=>((M.length:Int)-i).toNat) _ ?_ 100000 _ _ ⟨by omega,by omega,by omega⟩ (by omega)
  rintro next2 i s ⟨f1,f2,f3⟩ ih2
  refine Ok.ite (fun d3=>?_) (fun d3=>Ok.some (by have:=df d3;omega))
  have d3:=dt d3
  have e3:=kw1 (x:=i) (by omega) (by omega)
  refine Ok.gd ⟨f1,d3⟩ (Ok.bind (xK _ _) (fun l _=>Ok.bind (yl _) (fun v _=>Ok.gd (by show ((s.length:Int)+1)*4<=_;omega) (ih2 _ _ ⟨by omega,by omega,by rw[List.length_append];show ((s.length+1:Nat):Int)=_;omega⟩ (by omega)))))
 ·have d2:=df d2
  rw[hd] at d2
  have e8:a.toNat=8:=by omega
  rw[e8,h8] at g3
  omega
theorem GF {α:Type} (xs ys:List α):(cpy 0 xs ys).length=xs.length:=by
 unfold cpy
 simp only[List.take_zero,List.nil_append,List.length_append,List.length_take,List.length_drop]
 omega
theorem Ky {p0 p1 p2 p3 p4 p5 p6 p7 p8 p9 w c r0 r1 r2 r3 r4 r5 r6 r7 on i0 i1 i2 i3 la st gn ns:Int} {q z:Li} (hl:LapF p0 p1 p2 p3 p4 p5 p6 p7 p8 p9) (hm:kj 100000 p0 p1 p2 p3 p4 p5 p6 p7 p8 p9=some 0) (h:Fit p0 p1 p2 p3 p4 p5 p6 p7 p8 p9 w c r0 r1 r2 r3 r4 r5 r6 r7 on i0 i1 i2 i3 la st gn ns q z) (hf:qd 100000 p0 p1 p2 p3 p4 p5 p6 p7 p8 p9 w c r0 r1 r2 r3 r4 r5 r6 r7 on i0 i1 i2 i3 la st gn ns q z=some true):Ok (fun r=>r.2=0/\(r.1.length:Int)=p8) (xj 100000 p0 p1 p2 p3 p4 p5 p6 p7 p8 p9 w c r0 r1 r2 r3 r4 r5 r6 r7 on i0 i1 i2 i3 la st gn ns q z):=by
 obtain ⟨k,hk,k0,k1,x,hx,hxl,hR⟩:=h.kp
 have hql:=h.ql
 have hS:=hR.1.1
 refine Ok.bind (Ok.is hm) ?_
 rintro _ rfl
 refine Ok.ite (fun d=>by cases d) (fun _=>Ok.bind (Ok.is hf) ?_)
 rintro _ rfl
 refine Ok.ite (fun d=>by cases d) (fun _=>Ok.bind (Ok.is hk) ?_)
 rintro _ rfl
 refine Ok.bind (Ok.is hx) ?_
 rintro _ rfl
 refine Ok.gd ⟨by omega,by omega,fun e=>by rw[e] at hxl;simp at hxl;omega⟩ ?_
 refine Ok.bind (Q:=fun _=>True) (Ok.bind (K3 on i0 i1 i2 i3 (d:=k.toNat) (x:=x) (by omega) (by omega) (by omega)) (fun _ _=>Ok.some trivial)) ?_
 rintro ⟨P,V⟩ _
 have hcl:=GF x P
 dsimp only
 have h4:vj ((cpy 0 x P).length:Int):=by rw[hcl,hxl,hql];exact hl.ln
 refine Ok.bind (Q:=fun r=>r.1=0/\r.2.length=(cpy 0 x P).length) (Ok.bind (YG h4 h.c0 h.rr 1) (fun r hr=>Ok.some hr)) ?_
 rintro ⟨e,s⟩ ⟨he,hs⟩
 have he:e=0:=he
 have hs:s.length=(cpy 0 x P).length:=hs
 exact Ok.some ⟨he,by show (s.length:Int)=p8;omega⟩
end Go.Fo
