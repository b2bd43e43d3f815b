/- Formats of Lap; fields and bits are laid into a frame. -/
import Derived.Test.YtllmmohdmmneoaaGreatMaWk
namespace Go.Fo
set_option maxRecDepth 6000
theorem Y4 (v:Bool) (l:List Bool) (hl:l.length<=1000):Ok (fun r=>r<0->∀i,i<l.length->l.getD i false≠v) (zw 100000 v l):=by
 refine Ok.bind (Q:=fun z=>match z with|.inl _=>∀i,i<l.length->l.getD i false≠v|.inr r=>(0:Int)<=r) ?_ ?_
 ·unfold zw.l0
  refine kS (fun a=>0<=a/\a<=(l.length:Int)/\∀i:Nat,(i:Int)<a->l.getD i false≠v) (fun a=>((l.length:Int)-a).toNat) _ ?_ 100000 _ ⟨by omega,by omega,fun i hi=>by omega⟩ (by omega)
  rintro next a ⟨h1,h2,h3⟩ ih
  refine Ok.ite (fun d=>?_) (fun d=>Ok.some (fun i hi=>h3 i (by have:=df d;omega)))
  have d:=dt d
  refine Ok.gd ⟨h1,d,by omega⟩ (Ok.ite (fun _=>Ok.some h1) (fun d2=>?_))
  have d2:(v==l.getD a.toNat false)=false:=d2
  have e:=kw1 (x:=a) (by omega) (by omega)
  refine ih _ ⟨by omega,by omega,fun i hi=>?_⟩ (by omega)
  by_cases q:(i:Int)=a
  ·have e2:a.toNat=i:=by omega
   rw[e2] at d2
   intro h
   rw[h] at d2
   simp at d2
  ·exact h3 i (by omega)
 ·intro z hz
  cases z with
  | inl u=>exact Ok.some (fun _=>hz)
  | inr r=>exact Ok.some (fun h=>by have:(0:Int)<=r:=hz;omega)
theorem ZL (l:List Bool) (hl:l.length<=1000):Ok (fun b=>b=true->∀i,i<l.length->l.getD i false=true) (kQ 100000 l):=by
 refine Ok.bind (Ok.bind (Y4 false l hl) (fun r hr=>Ok.some (P:=fun b=>b=false->∀i,i<l.length->l.getD i false≠false) (fun h=>hr (by have:=df h;omega)))) ?_
 intro b hb
 refine Ok.some (fun h i hi=>?_)
 have:=hb (by cases b;rfl;cases h) i hi
 cases q:l.getD i false
 ·exact absurd q this
 ·rfl
theorem YI (v:Int) (l:Li) (hl:l.length<=1000):Ok (fun r=>0<=r->∃i,i<l.length/\l.getD i 0=v) (zT 100000 l v):=by
 refine Ok.bind (Q:=fun z=>match z with|.inl _=>True|.inr _=>∃i,i<l.length/\l.getD i 0=v) ?_ ?_
 ·unfold zT.l0
  refine kS (fun a=>0<=a/\a<=(l.length:Int)) (fun a=>((l.length:Int)-a).toNat) _ ?_ 100000 _ ⟨by omega,by omega⟩ (by omega)
  rintro next a ⟨h1,h2⟩ ih
  refine Ok.ite (fun d=>?_) (fun d=>Ok.some trivial)
  have d:=dt d
  refine Ok.gd ⟨h1,d⟩ (Ok.ite (fun d2=>Ok.some ⟨a.toNat,by omega,?_⟩) (fun d2=>?_))
  ·have d2:(v==(l.getD a.toNat 0:Int))=true:=d2
   simpa using (beq_iff_eq.1 d2).symm
  ·have e:=kw1 (x:=a) (by omega) (by omega)
   exact ih _ ⟨by omega,by omega⟩ (by omega)
 ·intro z hz
  cases z with
  | inl u=>exact Ok.some (fun h=>by have h:(0:Int)<=-1:=h;omega)
  | inr r=>exact Ok.some (fun _=>hz)
theorem v4 (a b d:Int):Ok (fun r=>r=true->b<=a/\a<=d) (wQ 100000 a b d):=Ok.some (fun h=>by
 obtain ⟨h1,h2⟩:=WL h
 exact ⟨dt h1,dt h2⟩)
structure LapF (p0 p1 p2 p3 p4 p5 p6 p7 p8 p9:Int):Prop where
  cd:p0=2
  ch:p2=1\/p2=2
  ln:vj p8
  by0:20<=p9
  by1:p9<=120
theorem YR (p0 p1 p2 p3 p4 p5 p6 p7 p8 p9:Int) (h0:p0=2):Ok (fun b=>b=true->LapF p0 p1 p2 p3 p4 p5 p6 p7 p8 p9) (jS 100000 p0 p1 p2 p3 p4 p5 p6 p7 p8 p9):=by
 refine Ok.bind (v4 p1 0 3) ?_
 intro o ho
 refine Ok.bind (v4 p2 1 2) ?_
 intro p hp
 refine Ok.bind (ZL [o,p] (by show 2<=1000;decide)) ?_
 intro a ha
 refine Ok.ite (fun c=>?_) (fun _=>?_)
 ·have c:p0=1:=by simpa using c
  omega
 ·refine Ok.ite (fun _=>?_) (fun _=>Ok.some (fun h=>by cases h))
  refine Ok.bind (Q:=fun b=>b=true->LapF p0 p1 p2 p3 p4 p5 p6 p7 p8 p9) ?_ (fun b hb=>Ok.some hb)
  refine Ok.ite (fun ca=>?_) (fun ca=>Ok.some (fun h=>by rw[ca] at h;cases h))
  have h2:=hp (ha ca 1 (by show 1<2;decide))
  refine Ok.bind (Ok.is (show jk 100000=some [40,60,80,120] from rfl)) ?_
  rintro _ rfl
  refine Ok.bind (Q:=fun b=>b=true->vj p8) ?_ ?_
  ·refine Ok.bind (YI p8 [40,60,80,120] (by show 4<=1000;decide)) ?_
   intro r hr
   refine Ok.some (fun h=>?_)
   obtain ⟨i,hi,he⟩:=hr (dt h)
   have hi:i<4:=hi
   rcases (show i=0\/i=1\/i=2\/i=3 by omega) with e|e|e|e<;>rw[e] at he
   ·exact .inl he.symm
   ·exact .inr (.inl he.symm)
   ·exact .inr (.inr (.inl he.symm))
   ·exact .inr (.inr (.inr he.symm))
  intro X hX
  refine Ok.bind (v4 p9 20 120) ?_
  intro Y hY
  refine Ok.bind (ZL [X,Y,(bif (bif (bif (bif (p3==0) then (p4==0) else false) then (p5==0) else false) then (p6==0) else false) then (p7==0) else false)] (by show 3<=1000;decide)) ?_
  intro af haf
  refine Ok.some (fun h=>?_)
  obtain ⟨h3,h4⟩:=WL h
  have hx:=haf h4 0 (by show 0<3;decide)
  have hy:=haf h4 1 (by show 1<3;decide)
  have hy:=hY hy
  exact ⟨h0,by omega,hX hx,hy.1,hy.2⟩
theorem uF (p0 p1 p2 p3 p4 p5 p6 p7 p8 p9:Int):Ok (fun r=>r=0/\LapF p0 p1 p2 p3 p4 p5 p6 p7 p8 p9\/r=110) (kj 100000 p0 p1 p2 p3 p4 p5 p6 p7 p8 p9):=by
 by_cases h0:p0=2
 ·refine Ok.bind (Q:=fun r=>r=0/\LapF p0 p1 p2 p3 p4 p5 p6 p7 p8 p9\/r=110) ?_ ?_
  ·refine Ok.bind (Q:=fun b=>b=false->LapF p0 p1 p2 p3 p4 p5 p6 p7 p8 p9) ?_ ?_
   ·refine Ok.bind (YR p0 p1 p2 p3 p4 p5 p6 p7 p8 p9 h0) ?_
    intro l hl
    refine Ok.ite (fun _=>Ok.some (fun h=>by cases h)) (fun c=>?_)
    have c:l=true:=by simpa using c
    refine Ok.bind (Q:=fun _=>True) (Ok.ite (fun _=>Ok.some trivial) (fun d=>?_)) (fun m _=>Ok.some (fun _=>hl c))
    have d:(p0==2)=false:=d
    rw[h0] at d;cases d
   ·intro o ho
    exact Ok.ite (fun _=>Ok.some (.inr rfl)) (fun c=>Ok.some (.inl ⟨rfl,ho c⟩))
  ·intro l hl
   refine Ok.ite (fun _=>Ok.some (.inr rfl)) (fun c=>?_)
   obtain ⟨c1,_⟩:=xF c
   have c1:l=0:=by simpa using c1
   rcases hl with ⟨_,hl⟩|hl
   ·exact Ok.some (.inl ⟨rfl,hl⟩)
   ·omega
 ·have hc:Ok (fun _=>True) (xM 100000 p0 p1 p2 p3 p4 p5 p6 p7 p8 p9):=by
   have w_ok:∀a b d:Int,Ok (fun _=>True) (wQ 100000 a b d):=fun a b d=>Ok.some trivial
   refine Ok.bind (Q:=fun _=>True) ?_ (fun o _=>Ok.ite (fun _=>Ok.some trivial) (fun _=>Ok.some trivial))
   refine Ok.bind (Q:=fun _=>True) ?_ (fun l _=>Ok.ite (fun _=>Ok.some trivial) (fun _=>Ok.bind (Q:=fun _=>True) (Ok.ite (fun _=>Ok.some trivial) (fun _=>Ok.bind (Q:=fun _=>True) (Ok.ite (fun _=>Ok.some trivial) (fun _=>Ok.some trivial)) (fun _ _=>Ok.some trivial))) (fun m _=>Ok.some trivial)))
   refine Ok.bind (w_ok _ _ _) (fun o _=>Ok.bind (w_ok _ _ _) (fun p _=>Ok.bind (ZL [o,p] (by show 2<=1000;decide)) (fun a _=>?_)))
   refine Ok.ite (fun _=>Ok.bind (Q:=fun _=>True) ?_ (fun _ _=>Ok.some trivial)) (fun _=>Ok.ite (fun c=>?_) (fun _=>Ok.some trivial))
   ·refine Ok.ite (fun _=>Ok.ite (fun _=>?_) (fun _=>?_)) (fun _=>Ok.some trivial)
    ·exact Ok.bind (w_ok _ _ _) (fun q _=>Ok.bind (w_ok _ _ _) (fun t _=>Ok.bind (w_ok _ _ _) (fun v _=>Ok.bind (w_ok _ _ _) (fun x _=>Ok.bind (ZL _ (by show 6<=1000;decide)) (fun _ _=>Ok.some trivial)))))
    ·exact Ok.bind (w_ok _ _ _) (fun t _=>Ok.bind (w_ok _ _ _) (fun v _=>Ok.bind (w_ok _ _ _) (fun x _=>Ok.bind (ZL _ (by show 6<=1000;decide)) (fun _ _=>Ok.some trivial))))
   ·have c:p0=2:=by simpa using c
    exact absurd c h0
  refine Ok.bind hc (fun l _=>Ok.ite (fun _=>Ok.some (.inr rfl)) (fun c=>?_))
  obtain ⟨_,c2⟩:=xF c
  have c2:p0=2:=by simpa using c2
  exact absurd c2 h0
def fy (L:List (Int×Int)):Nat->Nat
  | 0=>0
  | i+1=>fy L i+(L.getD i (0,0)).2.toNat
def fg (n:Nat) (L:List (Int×Int)):Nat->Nat->Int
  | 0=>fun _=>0
  | i+1=>blay (fg n L i) n (fy L i) (L.getD i (0,0)).1 (L.getD i (0,0)).2.toNat
def Fd (L:List (Int×Int)):Prop:=∀i,i<L.length->0<=(L.getD i (0,0)).2/\(L.getD i (0,0)).2<32/\0<=(L.getD i (0,0)).1/\(L.getD i (0,0)).1<2^(L.getD i (0,0)).2.toNat
theorem GU (L:List (Int×Int)) {i j:Nat} (h:i<=j):fy L i<=fy L j:=by
 induction j with
 | zero=>rw[show i=0 by omega];exact Nat.le_refl _
 | succ j ih =>
  by_cases e:i=j+1
  ·rw[e];exact Nat.le_refl _
  ·have:=ih (by omega)
   show _<=fy L j+_
   omega
theorem gj {n:Nat} {L:List (Int×Int)} (i:Nat) (h:fy L i<=8*n):B01 (fg n L i)/\∀p,p+fy L i<8*n->fg n L i p=0:=by
 induction i with
 | zero=>exact ⟨fun _=>.inl rfl,fun _ _=>rfl⟩
 | succ i ih =>
  have h2:fy L (i+1)=fy L i+(L.getD i (0,0)).2.toNat:=rfl
  have ih:=ih (by omega)
  refine ⟨Xq ih.1 _ _ _ _,fun p hp=>?_⟩
  show blay _ _ _ _ _ p=0
  rw[Yr (by omega) (by omega),if_neg (by omega)]
  exact ih.2 p (by omega)
theorem XX {n:Nat} (hn:n<=100000) {L:List (Int×Int)} (hL:Fd L) {i:Nat} (hi:i<L.length) (h:fy L (i+1)<=8*n):zv 100000 (wb .u32 (L.getD i (0,0)).1) (L.getD i (0,0)).2 0 (fy L i) (pf n (fg n L i))=some (0,(fy L (i+1):Int),pf n (fg n L (i+1))):=by
 obtain ⟨h0,h1,h2,h3⟩:=hL i hi
 have e2:fy L (i+1)=fy L i+(L.getD i (0,0)).2.toNat:=rfl
 have hg:=gj (n:=n) (L:=L) i (by omega)
 have hp:=JZ (show (L.getD i (0,0)).2.toNat<=31 by omega)
 have e31:(2:Int)^31=2147483648:=by decide
 have hk:(L.getD i (0,0)).2=(((L.getD i (0,0)).2.toNat:Nat):Int):=by omega
 rw[Vd h2 (by omega)]
 have:=Hu (x:=0) (y:=fy L i) (k:=(L.getD i (0,0)).2.toNat) (v:=(L.getD i (0,0)).1) hg.1 (show n<=1000000 by omega) (by omega) h2 h3 (by omega) (fun j hj=>hg.2 _ (by unfold pb;omega))
 rw[<-hk] at this
 exact this
def frt (g:Nat->Int) (C:Li):Nat->Nat->Int
  | 0=>g
  | i+1=>upd (frt g C i) i (C.getD i 0)
theorem Hv {g:Nat->Int} (hg:B01 g) {C:Li} (hC:Bl C) (i:Nat):B01 (frt g C i):=by
 induction i with
 | zero=>exact hg
 | succ i ih=>exact ih.upd (X9 hC i)
theorem gX {g:Nat->Int} {C:Li} {i p:Nat}:frt g C i p=if p<i then C.getD p 0 else g p:=by
 induction i with
 | zero=>rw[if_neg (by omega)];rfl
 | succ i ih =>
  show upd _ _ _ p=_
  by_cases e:p=i
  ·rw[e,QU,if_pos (by omega)]
  ·rw[Zj e,ih]
   by_cases q:p<i
   ·rw[if_pos q,if_pos (by omega)]
   ·rw[if_neg q,if_neg (by omega)]
theorem GJ (n:Nat):pf n (fun _=>0)=List.replicate n 0:=by
 unfold pf
 apply List.ext_getElem
 ·simp
 ·intro k h1 h2
  simp[fby]
theorem KE {n:Nat} (h0:0<n) (hn:n<=100000) (g:Nat->Int):xp 100000 (pf n g)=some (pf n g):=by
 refine zp (fun e=>?_) (zp ?_ rfl)
 ·have:=kH n g;rw[e] at this;simp at this;omega
 ·rw[kH];show ((0:Int)+n)*1<=_;omega
theorem UI {n:Nat} (h0:0<n) (hn:n<=100000) (g:Nat->Int):yj 100000 (pf n g)=some (pf n g):=KE h0 hn g
theorem Ua {n:Nat} (h0:0<n) (hn:n<=512) (g:Nat->Int):xH 100000 (pf n g)=some (pf n g):=by
 refine wq (decide_eq_false (by rw[kH];omega)) (wr (UI h0 (by omega) g) rfl)
end Go.Fo
