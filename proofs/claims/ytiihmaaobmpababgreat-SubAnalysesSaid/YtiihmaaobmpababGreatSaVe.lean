/- The parameters of planes,number by number: the program. -/
import Derived.Test.YtiihmaaobmpababGreatSaVd
namespace Go.Fo
set_option maxRecDepth 6000
theorem Ok.both {α:Type} {P Q:α->Prop} {o:Option α} (h:Ok P o) (k:Ok Q o):Ok (fun r=>P r/\Q r) o:=by
 obtain ⟨r,e,h⟩:=h
 obtain ⟨r',e',k⟩:=k
 rw [e] at e'
 cases e'
 exact ⟨r,e,h,k⟩
def jvf (P:List (List (List Int))) (p3 p4 p6 b:Int):Int:=if p6=1/\jnf (blk P 0) (blk P 1) p4 p3 b=true then 1 else 0
def atf (P:List (List (List Int))) (p3 p4 p6 c i b:Int):Int:=if jvf P p3 p4 p6 b=1 then (if c=0 then midf (blk P 0) (blk P 1) i b else sidf (blk P 0) (blk P 1) i b) else celf (blk P c) i b
theorem Qd (P:List (List (List Int))) (p3 p4 p6 b:Int):jvf P p3 p4 p6 b=0\/(p6=1/\jvf P p3 p4 p6 b=1):=by
 unfold jvf; split
 ·rename_i h; exact .inr ⟨h.1,rfl⟩
 ·exact .inl rfl
structure Pl (p0 p1 p2 p3 p4 p5 p6 p7 p8 p9:Int) (P:List (List (List Int))):Prop where
  m:yf p0 p1 p2 p3 p4 p5 p6 p7 p8 p9
  c:Cd p2 p4 p3 P
  g:∀ c,0<=c->c<p2->Rgs p4 p3 (blk P c)
theorem Pl.rg {p0 p1 p2 p3 p4 p5 p6 p7 p8 p9:Int} {P:List (List (List Int))} (h:Pl p0 p1 p2 p3 p4 p5 p6 p7 p8 p9 P) {c:Int} (c0:0<=c) (c1:c<p2):Rgf p4 p3 (atf P p3 p4 p6 c):=fun i b i0 i1 b0 b1=>by
 unfold atf
 split
 ·rename_i hj
  have h6:p6=0\/(p6=1/\p2=2):=h.m.1.2.2.2.2.2.2.2.1
  have:p2=2:=by rcases Qd P p3 p4 p6 b with e | e<;>omega
  split
  ·exact Rgs.mid (h.g 0 (by omega) (by omega)) (h.g 1 (by omega) (by omega)) i b i0 i1 b0 b1
  ·exact Rgs.sid (h.g 0 (by omega) (by omega)) (h.g 1 (by omega) (by omega)) i b i0 i1 b0 b1
 ·exact h.g c c0 c1 i b i0 i1 b0 b1
theorem Xq {s:List Bool} {B:Int} {g:Int->Bool} (hs:Pb B s g) {p6:Int} (h6:p6=1) {y:List Int} {i:Int} {jv:Int->Int} (hj:∀ b,0<=b->b<B->jv b=if g b=true then 1 else 0) (g1:0<=i) (d:i<B) (g3:(y.length:Int)=B) (g4:∀ q,0<=q->q<B->at' y q=if q<i then jv q else 0) :
  Ok (fun y'=>(y'.length:Int)=B/\∀ q,0<=q->q<B->at' y' q=if q<i+1 then jv q else 0)
   (gd ((0:Int)<=i/\i<(s.length:Int)) (bif (Kd.nth (.bool) s (Int.toNat i)) then gd ((0:Int)<=i/\i<(y.length:Int)/\(Int.toNat i)<y.length) (some (List.set y (Int.toNat i) 1)) else some y)):=by
 have hs1:=hs.1
 have ev:=hs.2 i g1 d
 refine Ok.gd ⟨g1,by omega⟩ (Ok.ite (fun c=>Ok.gd ⟨g1,by omega,by omega⟩ (Ok.some ⟨by rw [List.length_set]; exact g3,fun q q0 q1=>?_⟩)) (fun c=>Ok.some ⟨g3,fun q q0 q1=>?_⟩))
 ·have c:atB s i=true:=c
  rw [vO g1 (by omega) q0]
  by_cases e:q=i
  ·rw [if_pos e,if_pos (by omega),e,hj i g1 d,<-ev,c,if_pos rfl]
  ·rw [if_neg e,g4 q q0 q1]
   by_cases e2:q<i
   ·rw [if_pos e2,if_pos (by omega)]
   ·rw [if_neg e2,if_neg (by omega)]
 ·have c:atB s i=false:=c
  rw [g4 q q0 q1]
  by_cases e:q=i
  ·rw [if_neg (by omega),if_pos (by omega),e,hj i g1 d,<-ev,c,if_neg (by decide)]
  ·by_cases e2:q<i
   ·rw [if_pos e2,if_pos (by omega)]
   ·rw [if_neg e2,if_neg (by omega)]
theorem Ye (p0 p1 p2 p3 p4 p5 p6 p7 p8 p9:Int) {P:List (List (List Int))} (h:Pl p0 p1 p2 p3 p4 p5 p6 p7 p8 p9 P) {J:List Int} (hJ:Pv p3 J (jvf P p3 p4 p6)):Ok (fun r=>(r.length:Int)=p2/\∀ c,0<=c->c<p2->Pw p4 p3 (blk r c) (atf P p3 p4 p6 c)) (qz 5000 P J):=by
 have h3:p3=4\/p3=8:=h.m.1.2.2.2.2.1
 have h4:p4=4\/p4=8\/p4=12\/p4=16:=h.m.1.2.2.2.2.2.1
 have h6:p6=0\/(p6=1/\p2=2):=h.m.1.2.2.2.2.2.2.2.1
 have hJ1:=hJ.1
 have hP1:=h.c.1
 refine Ok.bind (ZK (by omega)) ?_
 intro r hr
 refine Ok.ite (fun c=>Ok.some ⟨hP1,fun q q0 q1=>(Pw.self (h.c.2 q q0 q1)).cg (fun i b i0 i1 b0 b1=>?_)⟩) (fun c=>?_)
 ·have hn:¬ ∃ i,0<=i/\i<(J.length:Int)/\at' J i=1:=fun hx=>by rw [hr.2 hx] at c; cases c
  have:jvf P p3 p4 p6 b≠1:=fun hv=>hn ⟨b,b0,by omega,by rw [hJ.2 b b0 b1]; exact hv⟩
  unfold atf; rw [if_neg this]
 ·have hx:=hr.1 (by cases r; cases c; rfl)
  clear hr
  obtain ⟨b,b0,b1,hb⟩:=hx
  have h2:p2=2:=by
   rw [hJ.2 b b0 (by omega)] at hb
   rcases Qd P p3 p4 p6 b with e | e<;>omega
  have q0:=h.c.2 0 (by omega) (by omega)
  have q1:=h.c.2 1 (by omega) (by omega)
  refine Ok.gd (by omega) (Ok.gd (by omega) (Ok.bind (VF (M:=p4) (B:=p3) q0 q1 (by omega) (by omega) (by omega) (by omega) (h.g 0 (by omega) (by omega)) (h.g 1 (by omega) (by omega))) ?_))
  rintro ⟨x,y,e⟩ ⟨hx,hy,_⟩
  refine Ok.gd (by omega) (Ok.bind (XW (M:=p4) (B:=p3) q0 (by omega) (by omega) (by omega) (by omega)) ?_)
  intro X hX
  rw [show X=blk P 0 from hX]
  refine Ok.gd (by omega) (Ok.bind (XW (M:=p4) (B:=p3) q1 (by omega) (by omega) (by omega) (by omega)) ?_)
  intro Y hY
  rw [show Y=blk P 1 from hY]
  refine Ok.bind (Q:=fun r=>Pw p4 p3 r.1 (atf P p3 p4 p6 0)/\Pw p4 p3 r.2 (atf P p3 p4 p6 1)) (Ok.bind (Q:=fun r=>Pw p4 p3 r.1 (atf P p3 p4 p6 0)/\Pw p4 p3 r.2 (atf P p3 p4 p6 1)) ?_ (fun r hr=>Ok.some hr)) ?_
  ·unfold z9.l0
   refine ql (fun b X Y=>0<=b/\b<=p3/\Pw p4 p3 X (fun i k=>if k<b then atf P p3 p4 p6 0 i k else celf (blk P 0) i k)/\Pw p4 p3 Y (fun i k=>if k<b then atf P p3 p4 p6 1 i k else celf (blk P 1) i k)) (fun b _ _=>(p3-b).toNat) _ ?_ 5000 _ _ _ ⟨by omega,by omega,(Pw.self q0).cg (fun i k _ _ k0 _=>by rw [if_neg (by omega)]),(Pw.self q1).cg (fun i k _ _ k0 _=>by rw [if_neg (by omega)])⟩ (by omega)
   rintro next b X Y ⟨g1,g2,g3,g4⟩ ih
   refine Ok.ite (fun d=>?_) (fun d=>Ok.some ⟨g3.cg (fun i k _ _ _ k1=>by have:=df d; rw [if_pos (by omega)]),g4.cg (fun i k _ _ _ k1=>by have:=df d; rw [if_pos (by omega)])⟩)
   have d:=dt d
   have ej:=hJ.2 b g1 (by omega)
   refine Ok.bind (Q:=fun r=>Pw p4 p3 r.1 (fun i k=>if k<b+1 then atf P p3 p4 p6 0 i k else celf (blk P 0) i k)/\Pw p4 p3 r.2 (fun i k=>if k<b+1 then atf P p3 p4 p6 1 i k else celf (blk P 1) i k)) (Ok.gd ⟨g1,d,by omega⟩ (Ok.ite (fun c=>?_) (fun c=>Ok.some ?_))) ?_
   ·have c:at' J b=1:=by simpa using c
    rw [ej] at c
    refine Ok.bind (J7 hx hy g3 g4 (by omega) (by omega) g1 (by omega)) (fun r hr=>Ok.some ⟨hr.1.cg (fun i k _ _ k0 k1=>?_),hr.2.cg (fun i k _ _ k0 k1=>?_)⟩)
    ·by_cases e2:k=b
     ·rw [if_pos e2,if_pos (by omega),e2]; unfold atf; rw [if_pos c,if_pos rfl]; rfl
     ·rw [if_neg e2]
      by_cases e3:k<b
      ·rw [if_pos e3,if_pos (by omega)]
      ·rw [if_neg e3,if_neg (by omega)]
    ·by_cases e2:k=b
     ·rw [if_pos e2,if_pos (by omega),e2]; unfold atf; rw [if_pos c,if_neg (by decide)]; rfl
     ·rw [if_neg e2]
      by_cases e3:k<b
      ·rw [if_pos e3,if_pos (by omega)]
      ·rw [if_neg e3,if_neg (by omega)]
   ·have c:¬ at' J b=1:=by simpa using c
    rw [ej] at c
    refine ⟨g3.cg (fun i k _ _ k0 k1=>?_),g4.cg (fun i k _ _ k0 k1=>?_)⟩
    ·by_cases e2:k=b
     ·rw [if_neg (by omega),if_pos (by omega),e2]; unfold atf; rw [if_neg c]
     ·by_cases e3:k<b
      ·rw [if_pos e3,if_pos (by omega)]
      ·rw [if_neg e3,if_neg (by omega)]
    ·by_cases e2:k=b
     ·rw [if_neg (by omega),if_pos (by omega),e2]; unfold atf; rw [if_neg c]
     ·by_cases e3:k<b
      ·rw [if_pos e3,if_pos (by omega)]
      ·rw [if_neg e3,if_neg (by omega)]
   ·rintro ⟨X',Y'⟩ ⟨e1,e2⟩
    have e:=kw1 (x:=b) (by omega) (by omega)
    dsimp only
    rw [e]
    exact ih _ _ _ ⟨by omega,by omega,e1,e2⟩ (by omega)
  ·rintro ⟨X',Y'⟩ ⟨e1,e2⟩
   refine Ok.some ⟨by show (2:Int)=_; omega,fun c c0 c1=>?_⟩
   have:c=0\/c=1:=by omega
   rcases this with rfl | rfl
   ·exact e1
   ·exact e2
def Qx (p2 p3 p4 p6:Int) (P:List (List (List Int))) (w:Int->Int->Int) (Q:List (List (List Int))):Prop:=(Q.length:Int)=p4/\∀ i,0<=i->i<p4->Pw p2 p3 (blk Q i) (fun c b=>qv (atf P p3 p4 p6 c i b) (scf (atf P p3 p4 p6 c) p4 b) (w c b))
theorem JC (p0 p1 p2 p3 p4 p5 p6 p7 p8 p9:Int) {P:List (List (List Int))} (h:Pl p0 p1 p2 p3 p4 p5 p6 p7 p8 p9 P) {S:List (List Int)} (hS:Pw p2 p3 S (fun c b=>scf (atf P p3 p4 p6 c) p4 b)):Fit p0 p1 p2 p3 p4 p5 p6 p7 p8 p9 S :=
 ⟨h.m,hS.1,fun c c0 c1=>⟨(hS.2 c c0 c1).1,fun q q0 q1=>by rw [(hS.2 c c0 c1).2 q q0 q1]; exact yL _ _ _⟩⟩
theorem YP (p0 p1 p2 p3 p4 p5 p6 p7 p8 p9:Int) {P R:List (List (List Int))} (h:Pl p0 p1 p2 p3 p4 p5 p6 p7 p8 p9 P) (hR1:(R.length:Int)=p2) (hR:∀ c,0<=c->c<p2->Pw p4 p3 (blk R c) (atf P p3 p4 p6 c)) (J:List Int) {S sh:List (List Int)} (hS:Pw p2 p3 S (fun c b=>scf (atf P p3 p4 p6 c) p4 b)) (hsh:Sh p2 p3 sh) :
  Ok (Qx p2 p3 p4 p6 P (celf sh)) (wm.l0 5000 R sh ((List.replicate (Int.toNat p4) ([]:List (List Int))).length:Int) p0 p1 p2 p3 p4 p5 p6 p7 p8 p9 S J 5000 0 (List.replicate (Int.toNat p4) ([]:List (List Int)))):=by
 have h2:p2=1\/p2=2:=h.m.1.2.2.2.1
 have h3:p3=4\/p3=8:=h.m.1.2.2.2.2.1
 have h4:p4=4\/p4=8\/p4=12\/p4=16:=h.m.1.2.2.2.2.2.1
 have hrep:((List.replicate (Int.toNat p4) ([]:List (List Int))).length:Int)=p4:=by simp; omega
 have hS1:=hS.1
 have hs1:=hsh.1
 rw [hrep]
 unfold wm.l0
 refine wA (fun i Y=>0<=i/\i<=p4/\(Y.length:Int)=p4/\∀ q,0<=q->q<i->Pw p2 p3 (blk Y q) (fun c b=>qv (atf P p3 p4 p6 c q b) (scf (atf P p3 p4 p6 c) p4 b) (celf sh c b))) (fun i _=>(p4-i).toNat) _ ?_ 5000 _ _ ⟨by omega,by omega,hrep,fun q _ _=>by omega⟩ (by omega)
 rintro next i Y ⟨g1,g2,g3,g4⟩ ih
 refine Ok.ite (fun d=>?_) (fun d=>Ok.some ⟨g3,fun q q0 q1=>g4 q q0 (by have:=df d; omega)⟩)
 have d:=dt d
 refine Ok.gd ⟨by omega,by omega,by omega⟩ (Ok.gd ⟨g1,by omega⟩ (Ok.gd (by omega) (Ok.bind (Q:=fun X=>Pw p2 p3 X (fun c b=>qv (atf P p3 p4 p6 c i b) (scf (atf P p3 p4 p6 c) p4 b) (celf sh c b))) ?_ ?_)))
 ·unfold wm.l1
  refine wA (fun c X=>0<=c/\c<=p2/\Pp p2 c p3 0 X (fun c b=>qv (atf P p3 p4 p6 c i b) (scf (atf P p3 p4 p6 c) p4 b) (celf sh c b))) (fun c _=>(p2-c).toNat) _ ?_ 5000 _ _ ⟨by omega,by omega,Pp.rep _ (by omega)⟩ (by omega)
  rintro next2 c X ⟨f1,f2,f3⟩ ih2
  refine Ok.ite (fun d2=>?_) (fun d2=>Ok.some ?_)
  ·have d2:c<(R.length:Int):=dt d2
   have hb:=hR c f1 (by omega)
   have hb1:=hb.1
   have hrw:=hb.2 i g1 (by omega)
   have hrw1:=hrw.1
   have hSc:=hS.2 c f1 (by omega)
   have hSc1:=hSc.1
   have hsr:=hsh.2 c f1 (by omega)
   refine Ok.gd ⟨f1,d2,g1,by show i<((blk R c).length:Int); omega⟩ (Ok.bind (Q:=fun X=>Pp p2 c p3 p3 X (fun c b=>qv (atf P p3 p4 p6 c i b) (scf (atf P p3 p4 p6 c) p4 b) (celf sh c b))) ?_ ?_)
   ·unfold wm.l2
    refine wA (fun b X=>0<=b/\b<=p3/\Pp p2 c p3 b X (fun c b=>qv (atf P p3 p4 p6 c i b) (scf (atf P p3 p4 p6 c) p4 b) (celf sh c b))) (fun b _=>(p3-b).toNat) _ ?_ 5000 _ _ ⟨by omega,by omega,f3⟩ (by omega)
    rintro next3 b X ⟨e1,e2,e3⟩ ih3
    refine Ok.ite (fun d3=>?_) (fun d3=>Ok.some ?_)
    ·have d3:b<((row (blk R c) i).length:Int):=dt d3
     have hX1:=e3.1.1
     have hXl:=e3.1.len f1 (by omega)
     have v1:at' (row (blk R c) i) b=atf P p3 p4 p6 c i b:=hrw.2 b e1 (by omega)
     have v2:at' (row S c) b=scf (atf P p3 p4 p6 c) p4 b:=hSc.2 b e1 (by omega)
     have hq:=UD (x:=at' (row (blk R c) i) b) (by rw [v1]; exact h.rg f1 (by omega) i b g1 (by omega) e1 (by omega)) (at' (row S c) b) (at' (row sh c) b)
     refine Ok.gd ⟨e1,d3⟩ (Ok.gd ⟨f1,by omega⟩ (Ok.gd ⟨e1,by show b<((row S c).length:Int); omega⟩ (Ok.gd ⟨f1,by omega⟩ (Ok.gd ⟨e1,by show b<((row sh c).length:Int); omega⟩ (Ok.bind hq ?_)))))
     rintro ⟨v,ve⟩ hv
     have hv:v=qv (at' (row (blk R c) i) b) (at' (row S c) b) (at' (row sh c) b):=hv
     rw [v1,v2] at hv
     refine Ok.gd ⟨g1,by omega⟩ (Ok.gd ⟨g1,by omega⟩ (Ok.gd ⟨f1,by omega⟩ (Ok.gd (by omega) (Ok.gd (by show (((X.getD c.toNat []).length:Int)+1)*8<=_; omega) (Ok.gd ⟨f1,by omega⟩ (Ok.gd (by omega) ?_))))))
     have e:wb .i64 (b+1)=b+1:=kw1 (by omega) (by omega)
     dsimp only
     rw [e]
     exact ih3 _ _ ⟨by omega,by omega,e3.app f1 (by omega) hv⟩ (by omega)
    ·have d3:¬ b<((row (blk R c) i).length:Int):=df d3
     have:b=p3:=by omega
     rw [this] at e3
     exact e3
   ·intro X' hX'
    have e:wb .i64 (c+1)=c+1:=kw1 (by omega) (by omega)
    dsimp only
    rw [e]
    exact ih2 _ _ ⟨by omega,by omega,Pp.nxt hX'⟩ (by omega)
  ·have d2:¬ c<(R.length:Int):=df d2
   have:c=p2:=by omega
   rw [this] at f3
   exact f3.all
 ·intro X hX
  have e:wb .i64 (i+1)=i+1:=kw1 (by omega) (by omega)
  dsimp only
  rw [e]
  refine ih _ _ ⟨by omega,by omega,by rw [List.length_set]; exact g3,fun q q0 q1=>?_⟩ (by omega)
  rw [yN g1 (by omega) q0]
  by_cases e:q=i
  ·rw [if_pos e,e]; exact hX
  ·rw [if_neg e]; exact g4 q q0 (by omega)
theorem Yo (p0 p1 p2 p3 p4 p5 p6 p7 p8 p9:Int) {P:List (List (List Int))} (h:Pl p0 p1 p2 p3 p4 p5 p6 p7 p8 p9 P) :
  Ok (fun r=>r.2.2.2=0/\Pv p3 r.1 (jvf P p3 p4 p6)/\Pw p2 p3 r.2.1 (fun c b=>scf (atf P p3 p4 p6 c) p4 b)/\∃ sh,zd 5000 p0 p1 p2 p3 p4 p5 p6 p7 p8 p9 r.2.1=some (sh,0)/\Qx p2 p3 p4 p6 P (celf sh) r.2.2.1) (wm 5000 p0 p1 p2 p3 p4 p5 p6 p7 p8 p9 P):=by
 have hm:=h.m
 have h2:p2=1\/p2=2:=hm.1.2.2.2.1
 have h3:p3=4\/p3=8:=hm.1.2.2.2.2.1
 have h4:p4=4\/p4=8\/p4=12\/p4=16:=hm.1.2.2.2.2.2.1
 have h6:p6=0\/(p6=1/\p2=2):=hm.1.2.2.2.2.2.2.2.1
 have hP1:=h.c.1
 refine Ok.bind (Ok.is ((Wu p0 p1 p2 p3 p4 p5 p6 p7 p8 p9).trans (by rw [if_pos hm]))) ?_
 rintro _ rfl
 refine Ok.ite (fun h=>by cases h) (fun _=>Ok.bind (XU p0 p1 p2 p3 p4 p5 p6 p7 p8 p9 h.c (by omega) (by omega)) ?_)
 rintro _ rfl
 have hrep:((List.replicate (Int.toNat p3) (0:Int)).length:Int)=p3:=by simp; omega
 refine Ok.ite (fun h=>by cases h) (fun _=>Ok.gd ⟨by omega,by omega,by omega⟩ (Ok.bind (Q:=fun J=>Pv p3 J (jvf P p3 p4 p6)) (Ok.ite (fun c=>?_) (fun c=>Ok.some ⟨hrep,fun k _ _=>?_⟩)) ?_))
 ·have c:p6=1:=by simpa using c
  have e2:p2=2:=by omega
  refine Ok.gd (by omega) (Ok.gd (by omega) (Ok.bind (UR (M:=p4) (B:=p3) (h.c.2 0 (by omega) (by omega)) (h.c.2 1 (by omega) (by omega)) (by omega) (by omega) (by omega) (by omega) (h.g 0 (by omega) (by omega)) (h.g 1 (by omega) (by omega))) ?_))
  rintro ⟨s,se⟩ ⟨hs,_⟩
  have hs:Pb p3 s (jnf (blk P 0) (blk P 1) p4 p3):=hs
  have hs1:(s.length:Int)=p3:=hs.1
  refine Ok.bind (Q:=fun J=>Pv p3 J (jvf P p3 p4 p6)) ?_ (fun r hr=>Ok.some hr)
  unfold wm.l4
  refine wA (fun i y=>0<=i/\i<=p3/\(y.length:Int)=p3/\∀ q,0<=q->q<p3->at' y q=if q<i then jvf P p3 p4 p6 q else 0) (fun i _=>(p3-i).toNat) _ ?_ 5000 _ _ ⟨by omega,by omega,hrep,fun q _ _=>by rw [if_neg (by omega)]; exact yO _ _⟩ (by omega)
  rintro next i y ⟨g1,g2,g3,g4⟩ ih
  refine Ok.ite (fun d=>?_) (fun d=>Ok.some ⟨g3,fun q q0 q1=>by have:=df d; rw [g4 q q0 q1,if_pos (by omega)]⟩)
  have d:=dt d
  refine Ok.bind (Xq hs c (fun b _ _=>by unfold jvf; by_cases e:jnf (blk P 0) (blk P 1) p4 p3 b=true<;>simp [e,c]) g1 (by omega) g3 g4) ?_
  rintro y' ⟨k1,k2⟩
  have e:=kw1 (x:=i) (by omega) (by omega)
  dsimp only
  rw [e]
  exact ih _ _ ⟨by omega,by omega,k1,k2⟩ (by omega)
 ·have c:¬ p6=1:=by simpa using c
  rw [yO]
  unfold jvf; rw [if_neg (fun h=>c h.1)]
 ·intro J hJ
  refine Ok.bind (Ye p0 p1 p2 p3 p4 p5 p6 p7 p8 p9 h hJ) ?_
  rintro R ⟨hR1,hR⟩
  refine Ok.bind (Q:=fun S=>Pw p2 p3 S (fun c b=>scf (atf P p3 p4 p6 c) p4 b)) ?_ ?_
  ·unfold wm.l3
   refine wA (fun i S=>0<=i/\i<=p2/\Pw i p3 S (fun c b=>scf (atf P p3 p4 p6 c) p4 b)) (fun i _=>(p2-i).toNat) _ ?_ 5000 _ _ ⟨by omega,by omega,Pw.nil _ _⟩ (by omega)
   rintro next i S ⟨g1,g2,g3⟩ ih
   have gl:=g3.1
   refine Ok.ite (fun d=>?_) (fun d=>Ok.some (by have:=df d; rw [show i=p2 by omega] at g3; exact g3))
   have d:=dt d
   refine Ok.gd ⟨g1,d⟩ (Ok.bind (y8 (M:=p4) (B:=p3) (hR i g1 (by omega)) (h.rg g1 (by omega)) (by omega) (by omega) (by omega) (by omega)) ?_)
   rintro ⟨l,le⟩ ⟨hl,_⟩
   refine Ok.gd (by show ((S.length:Int)+1)*24<=_; omega) ?_
   have e:wb .i64 (i+1)=i+1:=kw1 (by omega) (by omega)
   dsimp only
   rw [e]
   exact ih _ _ ⟨by omega,by omega,g3.snoc hl⟩ (by omega)
  ·intro S hS
   have hf:=JC p0 p1 p2 p3 p4 p5 p6 p7 p8 p9 h hS
   obtain ⟨C,B,z,hz⟩:=Vv p0 p1 p2 p3 p4 p5 p6 p7 p8 p9 hf
   have hsh:Sh p2 p3 (rw_ C B z):=by rw [<-hz.hC,<-hz.hB]; exact XE
   refine Ok.bind (Ok.is hz.ha) ?_
   rintro _ rfl
   refine Ok.gd ⟨by omega,by omega,by omega⟩ (Ok.bind (YP p0 p1 p2 p3 p4 p5 p6 p7 p8 p9 h hR1 hR J hS hsh) (fun Q hQ=>Ok.some ⟨rfl,hJ,hS,rw_ C B z,hz.ha,hQ⟩))
end Go.Fo
