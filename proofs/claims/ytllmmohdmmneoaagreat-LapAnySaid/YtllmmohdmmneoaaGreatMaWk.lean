/- Checks of parameters; steps restored: they come to results. -/
import Derived.Test.YtllmmohdmmneoaaGreatMaWj
namespace Go.Fo
set_option maxRecDepth 6000
theorem Ok.isR {α:Type} {P:α->Prop} {o:Option α} (h:Ok P o):Ok (fun r=>o=Option.some r/\P r) o:=by
 obtain ⟨r,h1,h2⟩:=h;exact ⟨r,h1,h1,h2⟩
theorem xF {a b:Bool} (h:(bif a then true else b)=false):a=false/\b=false:=by
 cases a with
 | true=>cases h
 | false=>exact ⟨rfl,h⟩
theorem WL {a b:Bool} (h:(bif a then b else false)=true):a=true/\b=true:=by
 cases a with
 | true=>exact ⟨rfl,h⟩
 | false=>cases h
def vj (n:Int):Prop:=n=40\/n=60\/n=80\/n=120
theorem GK (n w:Int):Ok (fun r=>r.2=0->vj n/\0<=w/\w<=3/\1<=r.1/\r.1<=n) (kK 100000 n w):=by
 have fin:∀(L:Li) (e:Int×Int×Int×Int×Int×Int×Int×Int×Bool),jg 100000 n=some e->e=(L.getD 1 0,L.getD 2 0,L.getD 3 0,L.getD 4 0,L.getD 5 0,L.getD 6 0,L.getD 7 0,L.getD 8 0,true)->L.length=9->L.getD 0 0=0->vj n->(∀i,i<4->1<=L.getD (2*i+2) 0/\L.getD (2*i+2) 0<=n)->Ok (fun r=>r.2=0->vj n/\0<=w/\w<=3/\1<=r.1/\r.1<=n) (kK 100000 n w):=by
  intro L e he hE h9 h0 h4 hL
  refine Ok.bind (Ok.is he) ?_
  rintro _ rfl
  subst hE
  refine Ok.ite (fun _=>Ok.some (fun h=>by cases h)) (fun c=>?_)
  obtain ⟨c1,c2⟩:=xF c
  obtain ⟨c3,c4⟩:=xF c1
  have c4:=df c4
  have c2:=df c2
  dsimp only
  rw[wT (x:=2*w) (by omega) (by omega),wT (x:=2*w+2) (by omega) (by omega)]
  refine Ok.gd ⟨by omega,by omega,by omega⟩ (Ok.some (fun _=>⟨h4,by omega,by omega,?_⟩))
  have e1:0+(2*w+2).toNat*1+0=2*w.toNat+2:=by omega
  have e2:([0,L.getD 1 0,L.getD 2 0,L.getD 3 0,L.getD 4 0,L.getD 5 0,L.getD 6 0,L.getD 7 0,L.getD 8 0]:Li)=L:=by
   match L,h9,h0 with
   | [a,b,c,d,e,f,g,h,i],_,h0 =>
    have h0:a=0:=h0
    rw[h0];rfl
  show 1<=List.getD [0,L.getD 1 0,L.getD 2 0,L.getD 3 0,L.getD 4 0,L.getD 5 0,L.getD 6 0,L.getD 7 0,L.getD 8 0] (0+(2*w+2).toNat*1+0) 0/\List.getD [0,L.getD 1 0,L.getD 2 0,L.getD 3 0,L.getD 4 0,L.getD 5 0,L.getD 6 0,L.getD 7 0,L.getD 8 0] (0+(2*w+2).toNat*1+0) 0<=n
  rw[e1,e2]
  exact hL w.toNat (by omega)
 have all4:∀{L:Li} {m:Int},((List.range 4).all fun i=>decide (1<=L.getD (2*i+2) 0/\L.getD (2*i+2) 0<=m))=true->∀i,i<4->1<=L.getD (2*i+2) 0/\L.getD (2*i+2) 0<=m:=fun h i hi=>of_decide_eq_true (List.all_eq_true.1 h i (List.mem_range.2 hi))
 by_cases h40:n=40
 ·subst h40;exact fin [0,2,4,7,11,16,23,31,40] _ rfl rfl rfl rfl (.inl rfl) (all4 (by decide))
 by_cases h60:n=60
 ·subst h60;exact fin [0,3,6,10,16,24,34,46,60] _ rfl rfl rfl rfl (.inr (.inl rfl)) (all4 (by decide))
 by_cases h80:n=80
 ·subst h80;exact fin [0,4,8,14,22,32,46,62,80] _ rfl rfl rfl rfl (.inr (.inr (.inl rfl))) (all4 (by decide))
 by_cases h120:n=120
 ·subst h120;exact fin [0,6,12,21,33,48,69,93,120] _ rfl rfl rfl rfl (.inr (.inr (.inr rfl))) (all4 (by decide))
 ·have he:jg 100000 n=some (0,0,0,0,0,0,0,0,false):=wq (beq_eq_false_iff_ne.2 h40) (wq (beq_eq_false_iff_ne.2 h60) (wq (beq_eq_false_iff_ne.2 h80) (wq (beq_eq_false_iff_ne.2 h120) rfl)))
  refine Ok.bind (Ok.is he) ?_
  rintro _ rfl
  exact Ok.ite (fun _=>Ok.some (fun h=>by cases h)) (fun c=>by
   obtain ⟨c1,_⟩:=xF c
   obtain ⟨c3,_⟩:=xF c1
   cases c3)
theorem YM (a b:Int):Ok (fun r=>r=0->(a=0/\b=0)\/(1<=b/\b<=3/\16<=a/\a<=79)) (zQ 100000 a b):=by
 refine Ok.ite (fun _=>Ok.some (fun h=>by cases h)) (fun c=>Ok.some (fun _=>?_))
 rcases Bool.eq_false_or_eq_true ((a==0)&&(b==0)) with e|e
 ·rw[Bool.and_eq_true] at e
  exact .inl ⟨by simpa using e.1,by simpa using e.2⟩
 ·rw[e] at c
  have c:(bif (bif (bif decide (b<1) then true else decide (b>3)) then true else decide (a<16)) then true else decide (a>79))=false:=c
  obtain ⟨c1,c2⟩:=xF c
  obtain ⟨c3,c4⟩:=xF c1
  obtain ⟨c5,c6⟩:=xF c3
  have c2:=df c2;have c4:=df c4;have c5:=df c5;have c6:=df c6
  exact .inr ⟨by omega,by omega,by omega,by omega⟩
theorem Z7 (on i0 i1 i2 i3:Int):Ok (fun r=>r=0->(on=0\/on=1)/\∀i,i<4->0<=([i0,i1,i2,i3]:Li).getD i 0/\([i0,i1,i2,i3]:Li).getD i 0<=16*on) (qL 100000 on i0 i1 i2 i3):=by
 refine Ok.ite (fun _=>Ok.some (fun h=>by cases h)) (fun c=>?_)
 have hon:on=0\/on=1:=by
  by_cases e:on=0
  ·exact .inl e
  ·refine .inr ?_
   have e2:(on != 0)=true:=by rw[bne_iff_ne];exact e
   rw[e2] at c
   have c:(on != 1)=false:=c
   simpa using c
 refine Ok.bind (Q:=fun z=>match z with|.inl _=>∀i,i<4->0<=([i0,i1,i2,i3]:Li).getD i 0/\([i0,i1,i2,i3]:Li).getD i 0<=16*on|.inr e=>e=1) ?_ ?_
 ·unfold qL.l0
  refine kS (fun a=>0<=a/\a<=4/\∀i:Nat,(i:Int)<a->0<=([i0,i1,i2,i3]:Li).getD i 0/\([i0,i1,i2,i3]:Li).getD i 0<=16*on) (fun a=>(4-a).toNat) _ ?_ 100000 _ ⟨by omega,by omega,fun i hi=>by omega⟩ (by omega)
  rintro next a ⟨h1,h2,h3⟩ ih
  refine Ok.ite (fun d=>?_) (fun d=>Ok.some (fun i hi=>h3 i (by have:=df d;omega)))
  have d:=dt d
  have e1:List.getD ([i0,i1,i2,i3]:Li) (Int.toNat a) 0=([i0,i1,i2,i3]:Li).getD a.toNat 0:=rfl
  refine Ok.gd ⟨h1,d⟩ (Ok.ite (fun _=>Ok.some rfl) (fun d2=>?_))
  obtain ⟨d3,d4⟩:=xF d2
  have d3:=df d3;have d4:=df d4
  rw[wT (x:=16*on) (by omega) (by omega)] at d4
  have e:=kw1 (x:=a) (by omega) (by omega)
  refine ih _ ⟨by omega,by omega,fun i hi=>?_⟩ (by omega)
  by_cases q:(i:Int)=a
  ·have:a.toNat=i:=by omega
   rw[this] at d3 d4
   exact ⟨by omega,by omega⟩
  ·exact h3 i (by omega)
 ·intro z hz
  cases z with
  | inl u=>exact Ok.some (fun _=>⟨hon,hz⟩)
  | inr e=>exact Ok.some (fun h=>by have hz:e=1:=hz;have h:e=0:=h;omega)
theorem YS (c r0 r1 r2 r3 r4 r5 r6 r7:Int):Ok (fun r=>r=0->0<=c/\c<=15/\∀i,i<8->-4<=([r0,r1,r2,r3,r4,r5,r6,r7]:Li).getD i 0/\([r0,r1,r2,r3,r4,r5,r6,r7]:Li).getD i 0<=3) (qu 100000 c r0 r1 r2 r3 r4 r5 r6 r7):=by
 refine Ok.ite (fun _=>Ok.some (fun h=>by cases h)) (fun d=>?_)
 obtain ⟨d1,d2⟩:=xF d
 have d1:=df d1;have d2:=df d2
 refine Ok.bind (Q:=fun z=>match z with|.inl _=>∀i,i<8->-4<=([r0,r1,r2,r3,r4,r5,r6,r7]:Li).getD i 0/\([r0,r1,r2,r3,r4,r5,r6,r7]:Li).getD i 0<=3|.inr e=>e=1) ?_ ?_
 ·unfold qu.l0
  refine kS (fun a=>0<=a/\a<=8/\∀i:Nat,(i:Int)<a->-4<=([r0,r1,r2,r3,r4,r5,r6,r7]:Li).getD i 0/\([r0,r1,r2,r3,r4,r5,r6,r7]:Li).getD i 0<=3) (fun a=>(8-a).toNat) _ ?_ 100000 _ ⟨by omega,by omega,fun i hi=>by omega⟩ (by omega)
  rintro next a ⟨h1,h2,h3⟩ ih
  refine Ok.ite (fun d=>?_) (fun d=>Ok.some (fun i hi=>h3 i (by have:=df d;omega)))
  have d:=dt d
  refine Ok.gd ⟨h1,d⟩ (Ok.ite (fun _=>Ok.some rfl) (fun d2=>?_))
  obtain ⟨d3,d4⟩:=xF d2
  have d3:=df d3;have d4:=df d4
  have e:=kw1 (x:=a) (by omega) (by omega)
  refine ih _ ⟨by omega,by omega,fun i hi=>?_⟩ (by omega)
  by_cases q:(i:Int)=a
  ·have:a.toNat=i:=by omega
   rw[this] at d3 d4
   exact ⟨by omega,by omega⟩
  ·exact h3 i (by omega)
 ·intro z hz
  cases z with
  | inl u=>exact Ok.some (fun _=>⟨by omega,by omega,hz⟩)
  | inr e=>exact Ok.some (fun h=>by have hz:e=1:=hz;have h:e=0:=h;omega)
theorem Z5 (a b d:Int) (h:b<=d):Ok (fun r=>b<=r/\r<=d) (j6 100000 a b d):=by
 refine Ok.ite (fun _=>Ok.some ⟨Int.le_refl _,h⟩) (fun c=>Ok.ite (fun _=>Ok.some ⟨h,Int.le_refl _⟩) (fun e=>Ok.some ⟨by have:=df c;omega,by have:=df e;omega⟩))
theorem vt (a b d:Int) (h:b<=d):Ok (fun r=>b<=r/\r<=d) (qp 100000 a b d):=Z5 a b d h
theorem xK (b e:Int):Ok (fun _=>True) (wK 100000 b e):=by
 refine Ok.bind (Z5 e 0 62 (by decide)) ?_
 rintro a ⟨h0,h1⟩
 refine Ok.ite (fun _=>Ok.some trivial) (fun c=>?_)
 have c:a≠0:=by simpa using c
 dsimp only
 rw[wT (x:=a-1) (by omega) (by omega)]
 exact Ok.gd h0 (Ok.gd (by omega) (Ok.some trivial))
theorem yl (a:Int):Ok (fun _=>True) (qg 100000 a):=Ok.bind (vt a _ _ (by decide)) (fun _ _=>Ok.some trivial)
theorem Uy (a:Int):Ok (fun _=>True) (jJ 100000 a):=by
 refine Ok.ite (fun _=>Ok.some trivial) (fun _=>Ok.bind (Q:=fun _=>True) ?_ (fun d _=>?_))
 ·unfold jJ.l0
  refine qo (fun _ a=>0<=a/\a<=8) (fun _ a=>(8-a).toNat) _ ?_ 100000 _ _ ⟨by omega,by omega⟩ (by omega)
  rintro next b i ⟨h1,h2⟩ ih
  refine Ok.ite (fun c=>?_) (fun _=>Ok.some trivial)
  have c:=dt c
  refine Ok.bind (Q:=fun _=>True) ?_ (fun r _=>?_)
  ·refine Ok.gd ⟨h1,c⟩ ?_
   dsimp only
   rw[wT (x:=7-i) (by omega) (by omega)]
   exact Ok.gd (by omega) (Ok.ite (fun _=>Ok.some trivial) (fun _=>Ok.some trivial))
  ·have e:=kw1 (x:=i) (by omega) (by omega)
   exact ih _ _ ⟨by omega,by omega⟩ (by omega)
 ·refine Ok.ite (fun c=>Ok.gd (dt c) (Ok.some trivial)) (fun _=>Ok.bind (xK _ _) (fun _ _=>Ok.some trivial))
theorem G6 (g:Int):Ok (fun r=>r.2=0->0<=g/\g<=240) (xW 100000 g):=by
 refine Ok.ite (fun _=>Ok.some (fun h=>by cases h)) (fun c=>?_)
 obtain ⟨c1,c2⟩:=xF c
 have c1:=df c1;have c2:=df c2
 exact Ok.bind (Uy _) (fun r _=>Ok.some (fun _=>⟨by omega,by omega⟩))
theorem GR (l:Int) (q:Li) (g:Int):Ok (fun r=>r.2=0->Stp q/\0<=g/\g<=240) (jd 100000 l q g):=by
 refine Ok.ite (fun _=>Ok.some (fun h=>by cases h)) (fun c=>?_)
 obtain ⟨c1,c2⟩:=xF c
 have c2:=df c2
 refine Ok.bind (G6 g) ?_
 rintro ⟨d,i⟩ hs
 refine Ok.ite (fun _=>Ok.some (fun h=>by cases h)) (fun c3=>?_)
 obtain ⟨c4,c5⟩:=xF c3
 have hi:i=0:=by simpa using c4
 refine Ok.bind (Q:=fun z=>match z with|.inl _=>∀i,i<q.length->(q.getD i 0).natAbs<=32767|.inr r=>r.2≠0) ?_ ?_
 ·unfold jd.l0
  refine kS (fun a=>0<=a/\a<=(q.length:Int)/\∀i:Nat,(i:Int)<a->(q.getD i 0).natAbs<=32767) (fun a=>((q.length:Int)-a).toNat) _ ?_ 100000 _ ⟨by omega,by omega,fun i hi=>by omega⟩ (by omega)
  rintro next a ⟨h1,h2,h3⟩ ih
  refine Ok.ite (fun d=>?_) (fun d=>Ok.some (fun i hi=>h3 i (by have:=df d;omega)))
  have d:=dt d
  refine Ok.gd ⟨h1,d⟩ (Ok.ite (fun _=>Ok.some (by show (1:Int)≠0;decide)) (fun d2=>?_))
  obtain ⟨d3,d4⟩:=xF d2
  have d3:¬(q.getD a.toNat 0:Int) < -32767:=df d3
  have d4:¬(q.getD a.toNat 0:Int)>32767:=df d4
  have e:=kw1 (x:=a) (by omega) (by omega)
  refine ih _ ⟨by omega,by omega,fun i hi=>?_⟩ (by omega)
  by_cases q:(i:Int)=a
  ·have:a.toNat=i:=by omega
   rw[this] at d3 d4
   omega
  ·exact h3 i (by omega)
 ·intro z hz
  cases z with
  | inl u =>
   refine Ok.some (fun _=>⟨⟨by omega,fun i=>?_⟩,hs hi⟩)
   by_cases h:i<q.length
   ·exact hz i h
   ·rw[List.getD_eq_getElem?_getD,List.getElem?_eq_none (by omega)];decide
  | inr r=>exact Ok.some (fun h=>absurd h hz)
def Vg (z:Li):Prop:=∀i,i<z.length->z.getD i 0=0\/z.getD i 0=1
theorem ZZ (q z:Li) (n k:Int) (hq:q.length<=200) (hz:z.length<=90000):Ok (fun b=>b=true->Vg z/\0<=n/\n<=7/\0<=k/\k<=(q.length:Int)) (zK 100000 q z n k):=by
 refine Ok.bind (Q:=fun _=>True) ?_ (fun f _=>?_)
 ·unfold zK.l1
  refine qo (fun _ a=>0<=a/\a<=(q.length:Int)) (fun _ a=>((q.length:Int)-a).toNat) _ ?_ 100000 _ _ ⟨by omega,by omega⟩ (by omega)
  rintro next b a ⟨h1,h2⟩ ih
  refine Ok.ite (fun c=>?_) (fun _=>Ok.some trivial)
  have c:=dt c
  refine Ok.bind (Q:=fun _=>True) (Ok.gd ⟨h1,c⟩ (Ok.ite (fun _=>Ok.some trivial) (fun _=>Ok.some trivial))) (fun r _=>?_)
  have e:=kw1 (x:=a) (by omega) (by omega)
  exact ih _ _ ⟨by omega,by omega⟩ (by omega)
 ·refine Ok.bind (Q:=fun s=>match s with|.inl _=>Vg z|.inr b=>b=false) ?_ ?_
  ·unfold zK.l0
   refine kS (fun a=>0<=a/\a<=(z.length:Int)/\∀i:Nat,(i:Int)<a->z.getD i 0=0\/z.getD i 0=1) (fun a=>((z.length:Int)-a).toNat) _ ?_ 100000 _ ⟨by omega,by omega,fun i hi=>by omega⟩ (by omega)
   rintro next a ⟨h1,h2,h3⟩ ih
   refine Ok.ite (fun c=>?_) (fun c=>Ok.some (fun i hi=>h3 i (by have:=df c;omega)))
   have c:=dt c
   refine Ok.gd ⟨h1,c⟩ (Ok.ite (fun _=>Ok.some rfl) (fun c2=>?_))
   have c2:(bif (z.getD a.toNat 0 != (0:Int)) then (z.getD a.toNat 0 != (1:Int)) else false)=false:=c2
   have e:=kw1 (x:=a) (by omega) (by omega)
   refine ih _ ⟨by omega,by omega,fun i hi=>?_⟩ (by omega)
   by_cases q:(i:Int)=a
   ·have e3:a.toNat=i:=by omega
    rw[e3] at c2
    by_cases e0:z.getD i 0=0
    ·exact .inl e0
    ·have e2:(z.getD i 0 != (0:Int))=true:=by rw[bne_iff_ne];exact e0
     rw[e2] at c2
     have c2:(z.getD i 0 != (1:Int))=false:=c2
     exact .inr (by simpa using c2)
   ·exact h3 i (by omega)
  ·intro s hs
   cases s with
   | inl u =>
    refine Ok.some (fun h=>?_)
    obtain ⟨a1,a2⟩:=WL h
    obtain ⟨a3,a4⟩:=WL a1
    obtain ⟨a5,a6⟩:=WL a3
    obtain ⟨a7,a8⟩:=WL a5
    exact ⟨hs,dt a8,dt a6,dt a4,dt a2⟩
   | inr b=>exact Ok.some (fun h=>by have hs:b=false:=hs;rw[hs] at h;cases h)
def Rst (q:Li) (g:Int) (z:Li) (n k:Int):Prop:=Stp q/\0<=g/\g<=240/\Vg z/\0<=n/\n<=7/\0<=k/\k<=(q.length:Int)
theorem JJ (q:Li) (g:Int) (z:Li) (n k:Int) (hq:q.length<=200) (hz:z.length<=90000):Ok (fun r=>r.1=0->Rst q g z n k/\r.2.length=q.length) (zP 100000 q g z n k):=by
 refine Ok.bind (GR _ q g) ?_
 rintro ⟨f,e⟩ hm
 refine Ok.bind (Q:=fun b=>b=false->e=0->Vg z/\0<=n/\n<=7/\0<=k/\k<=(q.length:Int)) ?_ ?_
 ·refine Ok.ite (fun _=>Ok.bind (ZZ q z n k hq hz) (fun b hb=>Ok.some (fun h _=>hb (by cases b;cases h;rfl)))) (fun c=>Ok.some (fun _ h=>?_))
  have c:e≠0:=by simpa using c
  exact absurd h c
 intro b hb
 refine Ok.bind (Q:=fun h=>h=0->b=false/\e=0) (Ok.ite (fun _=>Ok.some (fun h=>by cases h)) (fun c=>Ok.some (fun h=>⟨c,h⟩))) ?_
 intro h hh
 refine Ok.ite (fun c=>Ok.some (fun e0=>?_)) (fun c=>?_)
 ·have c:h≠0:=by simpa using c
  exact absurd e0 c
 have c:h=0:=by simpa using c
 obtain ⟨hb0,he0⟩:=hh c
 have hR:=hb hb0 he0
 have hM:=hm he0
 refine Ok.bind (Q:=fun _=>True) ?_ (fun l _=>?_)
 ·unfold zP.l1
  refine qo (fun a _=>0<=a/\a<=(q.length:Int)) (fun a _=>((q.length:Int)-a).toNat) _ ?_ 100000 _ _ ⟨by omega,by omega⟩ (by omega)
  rintro next a d ⟨h1,h2⟩ ih
  refine Ok.ite (fun c=>?_) (fun _=>Ok.some trivial)
  have c:=dt c
  refine Ok.gd ⟨h1,c⟩ (Ok.bind (Q:=fun _=>True) (Ok.some trivial) (fun r _=>?_))
  have e:=kw1 (x:=a) (by omega) (by omega)
  exact ih _ _ ⟨by omega,by omega⟩ (by omega)
 ·refine Ok.gd ⟨by omega,by omega,by omega⟩ (Ok.bind (Q:=fun d=>d.length=q.length) ?_ (fun d hd=>Ok.some (fun _=>⟨⟨hM.1,hM.2.1,hM.2.2,hR⟩,hd⟩)))
  unfold zP.l0
  refine vV (fun _ a _ d=>0<=a/\a<=(q.length:Int)/\d.length=q.length) (fun _ a _ _=>((q.length:Int)-a).toNat) _ ?_ 100000 _ _ _ _ ⟨by omega,by omega,by rw[List.length_replicate];omega⟩ (by omega)
  rintro next b a f d ⟨h1,h2,h3⟩ ih
  refine Ok.ite (fun c=>?_) (fun _=>Ok.some h3)
  have c:=dt c
  refine Ok.bind (Q:=fun r=>r.2.2.length=q.length) ?_ ?_
  ·refine Ok.gd ⟨h1,c⟩ (Ok.bind (Q:=fun _=>True) (Ok.some trivial) (fun o _=>?_))
   refine Ok.ite (fun _=>?_) (fun _=>?_)
   ·refine Ok.bind (Q:=fun _=>True) ?_ ?_
    ·refine Ok.ite (fun c2=>Ok.gd (dt c2) (Ok.gd ⟨by have:=dt c2;omega,Int.le_refl _⟩ (Ok.some trivial))) (fun _=>Ok.some trivial)
    ·rintro ⟨A,B⟩ _
     refine Ok.bind (xK _ _) (fun D _=>Ok.bind (Q:=fun _=>True) (Ok.ite (fun _=>Ok.some trivial) (fun _=>Ok.some trivial)) (fun E _=>Ok.bind (yl _) (fun F _=>Ok.gd ⟨h1,by omega,by omega⟩ (Ok.some ?_))))
     show (List.set _ _ _).length=_
     rw[List.length_set];exact h3
   ·refine Ok.ite (fun _=>?_) (fun _=>Ok.some h3)
    refine Ok.bind (xK _ _) (fun D _=>Ok.bind (Q:=fun _=>True) (Ok.some trivial) ?_)
    rintro ⟨N,O⟩ _
    refine Ok.bind (Q:=fun _=>True) (Ok.ite (fun _=>Ok.some trivial) (fun _=>Ok.some trivial)) (fun E _=>Ok.bind (yl _) (fun F _=>Ok.gd ⟨h1,by omega,by omega⟩ (Ok.some ?_)))
    show (List.set _ _ _).length=_
    rw[List.length_set];exact h3
  ·rintro ⟨S,Tt,U⟩ hU
   have e:=kw1 (x:=a) (by omega) (by omega)
   exact ih _ _ _ _ ⟨by omega,by omega,hU⟩ (by omega)
structure Fit (p0 p1 p2 p3 p4 p5 p6 p7 p8 p9 w c r0 r1 r2 r3 r4 r5 r6 r7 on i0 i1 i2 i3 la st gn ns:Int) (q z:Li):Prop where
  w0:0<=w/\w<=3
  c0:0<=c/\c<=15
  rr:∀i,i<8->-4<=([r0,r1,r2,r3,r4,r5,r6,r7]:Li).getD i 0/\([r0,r1,r2,r3,r4,r5,r6,r7]:Li).getD i 0<=3
  oo:on=0\/on=1
  ii:∀i,i<4->0<=([i0,i1,i2,i3]:Li).getD i 0/\([i0,i1,i2,i3]:Li).getD i 0<=16*on
  pp:(la=0/\st=0)\/(1<=st/\st<=3/\16<=la/\la<=79)
  ql:(q.length:Int)=p8
  kp:∃k,kK 100000 p8 w=some (k,0)/\1<=k/\k<=p8/\∃x,zP 100000 q gn z ns k=some (0,x)/\x.length=q.length/\Rst q gn z ns k
  rm:((cod (q.take (lst q q.length))).length:Int)+sdw on st<=8*p9
  zl:(z.length:Int)=imin (nzc q q.length) (8*p9-sdw on st-(cod (q.take (lst q q.length))).length)
theorem Uh {L:Li} (hl:L.length=8) (h:∀i,i<8->-4<=L.getD i 0/\L.getD i 0<=3) (i:Nat):-1000<=L.getD i 0/\L.getD i 0<=1000:=by
 by_cases e:i<8
 ·have:=h i e;omega
 ·rw[List.getD_eq_getElem?_getD,List.getElem?_eq_none (by omega)];decide
theorem GZ {p0 p1 p2 p3 p4 p5 p6 p7 p8 p9:Int} (w c r0 r1 r2 r3 r4 r5 r6 r7 on i0 i1 i2 i3 la st gn ns:Int) (q z:Li) (hp:0<=p9/\p9<=1000) (hq:q.length<=200) (hz:z.length<=90000):Ok (fun b=>b=true->Fit p0 p1 p2 p3 p4 p5 p6 p7 p8 p9 w c r0 r1 r2 r3 r4 r5 r6 r7 on i0 i1 i2 i3 la st gn ns q z) (qd 100000 p0 p1 p2 p3 p4 p5 p6 p7 p8 p9 w c r0 r1 r2 r3 r4 r5 r6 r7 on i0 i1 i2 i3 la st gn ns q z):=by
 refine Ok.bind (GK p8 w).isR ?_
 rintro ⟨k,e⟩ ⟨hke,hk⟩
 have hk:e=0->vj p8/\0<=w/\w<=3/\1<=k/\k<=p8:=hk
 refine Ok.bind (Q:=fun b=>b=false->e=0/\(0<=c/\c<=15/\∀i,i<8->-4<=([r0,r1,r2,r3,r4,r5,r6,r7]:Li).getD i 0/\([r0,r1,r2,r3,r4,r5,r6,r7]:Li).getD i 0<=3)/\((on=0\/on=1)/\∀i,i<4->0<=([i0,i1,i2,i3]:Li).getD i 0/\([i0,i1,i2,i3]:Li).getD i 0<=16*on)/\((la=0/\st=0)\/(1<=st/\st<=3/\16<=la/\la<=79))/\(q.length:Int)=p8) ?_ ?_
 ·generalize hA:(e != 0)=a
  cases a with
  | true=>exact Ok.some (fun h=>(tff h).elim)
  | false =>
   have hA:e=0:=by simpa using hA
   refine Ok.bind (YS c r0 r1 r2 r3 r4 r5 r6 r7) ?_
   intro al hal
   generalize hB:(al != 0)=b
   cases b with
   | true=>exact Ok.some (fun h=>(tff h).elim)
   | false =>
    have hB:al=0:=by simpa using hB
    refine Ok.bind (Z7 on i0 i1 i2 i3) ?_
    intro ay hay
    generalize hC:(ay != 0)=d
    cases d with
    | true=>exact Ok.some (fun h=>(tff h).elim)
    | false =>
     have hC:ay=0:=by simpa using hC
     refine Ok.bind (YM la st) ?_
     intro ad had
     refine Ok.some (fun h=>?_)
     have h:(bif (ad != 0) then true else ((q.length:Int) != p8))=false:=h
     obtain ⟨h1,h2⟩:=xF h
     exact ⟨hA,hal hB,hay hC,had (by simpa using h1),by simpa using h2⟩
 intro b hb
 refine Ok.ite (fun _=>Ok.some (fun h=>by cases h)) (fun c1=>?_)
 obtain ⟨he,hs,ht,hpi,hql⟩:=hb c1
 obtain ⟨h4,w0,w1,k0,k1⟩:=hk he
 subst he
 refine Ok.bind (Ok.is (ZK q (by omega)).2) ?_
 rintro _ rfl
 refine Ok.ite (fun _=>Ok.some (fun h=>by cases h)) (fun _=>?_)
 refine Ok.bind (JJ q gn z ns k hq hz).isR ?_
 rintro ⟨e,x⟩ ⟨hxe,hx⟩
 refine Ok.ite (fun _=>Ok.some (fun h=>by cases h)) (fun c2=>?_)
 have c2:e=0:=by simpa using c2
 subst c2
 obtain ⟨hR,hxl⟩:=hx rfl
 have hrm:=VQ (p0:=p0) (p1:=p1) (p2:=p2) (p3:=p3) (p4:=p4) (p5:=p5) (p6:=p6) (p7:=p7) (p8:=p8) (p9:=p9) (w:=w) (c:=c) (on:=on) (i0:=i0) (i1:=i1) (i2:=i2) (i3:=i3) (st:=st) (gn:=gn) (ns:=ns) (q:=q) (z:=z) (Uh (L:=[r0,r1,r2,r3,r4,r5,r6,r7]) rfl hs.2.2) (la:=la) (by omega) hR.1 hp
 refine Ok.bind (Ok.is hrm) ?_
 rintro _ rfl
 refine Ok.bind (Q:=fun b=>b=true->((cod (q.take (lst q q.length))).length:Int)+sdw on st<=8*p9/\(z.length:Int)=imin (nzc q q.length) (8*p9-sdw on st-(cod (q.take (lst q q.length))).length)) ?_ (fun b hb=>Ok.some (fun h=>⟨⟨w0,w1⟩,⟨hs.1,hs.2.1⟩,hs.2.2,ht.1,ht.2,hpi,hql,⟨k,hke,k0,k1,x,hxe,hxl,hR⟩,(hb h).1,(hb h).2⟩))
 refine Ok.ite (fun c3=>?_) (fun c3=>Ok.some (fun h=>by rw[c3] at h;cases h))
 refine Ok.bind (Ok.is (Ul (q:=q) (z:=z) (by omega))) ?_
 rintro _ rfl
 refine Ok.some (fun h=>?_)
 rw[c3] at h
 have c3:=dt c3
 have h:((z.length:Int)==imin (nzc q q.length:Int) (8*p9-sdw on st-(cod (q.take (lst q q.length))).length))=true:=h
 exact ⟨by omega,by simpa using h⟩
end Go.Fo
