/- A frame's bits,as lists. -/
import Derived.Test.YtiihmaaobmpabaaGreatSfOc
import Derived.Test.YtiihmaaobmpabaaGreatSfBd
namespace Go.Fo
set_option maxRecDepth 6000
theorem xW {β:Type} (f:Nat->List β) (n:Nat):(List.range (n+1)).flatMap f=(List.range n).flatMap f++f n:=by rw [List.range_succ,List.flatMap_append]; simp
theorem yD {β:Type} (f:Nat->β) (n:Nat):(List.range (n+1)).map f=(List.range n).map f++[f n]:=by rw [List.range_succ,List.map_append]; rfl
theorem tS {i:Int} (h:0<=i):(i+1).toNat=i.toNat+1:=by omega
def tg (l:List Int) (k:Int):List (Int × Int):=(List.range l.length).map fun i:Nat=>(at' l i,k)
def rz (r w:List Int):List (Int × Int):=(List.range r.length).map fun b:Nat=>(at' r b,at' w b)
def bz (B sh:List (List Int)):List (Int × Int):=(List.range B.length).flatMap fun c:Nat=>rz (row B c) (row sh c)
def y5 (sh:List (List Int)) (Q:List (List (List Int))):List (Int × Int):=(List.range Q.length).flatMap fun i:Nat=>bz (blk Q i) sh
def kX (p6:Int) (J:List Int):List (Int × Int):=if p6=1 then tg J 1 else []
def j6 (S:List (List Int)):List (Int × Int):=(List.range S.length).flatMap fun c:Nat=>tg (row S c) 4
def j4 (p1 p2 p3 p4 p5 p6 p7:Int):List (Int × Int):=[(p1,2),(p4/4-1,2),(if p2=2 then 2+p6 else 0,2),(p5,1),(p3/4-1,1),(p7,8)]
theorem UH (p0 p1 p2 p3 p4 p5 p6 p7 p8 p9:Int) (hm:yd p0 p1 p2 p3 p4 p5 p6 p7 p8 p9):qR 5000 p0 p1 p2 p3 p4 p5 p6 p7 p8 p9=some (j4 p1 p2 p3 p4 p5 p6 p7):=by
 have h2:p2=1\/p2=2:=hm.1.2.2.2.1
 have h3:p3=4\/p3=8:=hm.1.2.2.2.2.1
 have h4:p4=4\/p4=8\/p4=12\/p4=16:=hm.1.2.2.2.2.2.1
 have h6:p6=0\/(p6=1/\p2=2):=hm.1.2.2.2.2.2.2.2.1
 have e:(bif (p2==2) then (let v8:=wa .i64 (2+p6); some v8) else some (0:Int):Option Int)=some (if p2=2 then 2+p6 else 0):=by
  rcases h2 with rfl | rfl
  ·rfl
  ·show some (wa .i64 (2+p6))=some (2+p6)
   rw [zH (by omega) (by omega)]
 refine wr e ?_
 have e4:wa .i64 (wa .i64 (Int.tdiv p4 4)-1)=p4/4-1:=by rcases h4 with rfl | rfl | rfl | rfl<;>decide
 have e3:wa .i64 (wa .i64 (Int.tdiv p3 4)-1)=p3/4-1:=by rcases h3 with rfl | rfl<;>decide
 dsimp only
 rw [e4,e3]; rfl
theorem JL (p0 p1 p2 p3 p4 p5 p6 p7 p8 p9:Int) {J:List Int} {S:List (List Int)} (Q:List (List (List Int))) (hf:Fit p0 p1 p2 p3 p4 p5 p6 p7 p8 p9 S) (hj:(J.length:Int)=p3):Ok (fun l=>l=kX p6 J++j6 S/\l.length<=200) (wG 5000 p0 p1 p2 p3 p4 p5 p6 p7 p8 p9 J S Q):=by
 have h2:=(fit hf).2.1
 have h3:=(fit hf).2.2.1
 have hS:=hf.2.1
 refine Ok.bind (Q:=fun l=>l=kX p6 J/\l.length<=8) ?_ ?_
 ·refine Ok.ite (fun c6=>Ok.bind (Q:=fun l=>l=tg J 1/\l.length<=8) ?_ (fun r hr=>Ok.some ⟨by rw [hr.1]; unfold kX; rw [if_pos (by simpa using c6)],hr.2⟩)) (fun c6=>Ok.some ⟨by unfold kX; rw [if_neg (by simpa using c6)],by show 0<=8; omega⟩)
  unfold wG.l2
  refine wu (fun i l=>0<=i/\i<=(J.length:Int)/\(l.length:Int)=i/\l=(List.range i.toNat).map fun q:Nat=>(at' J q,(1:Int))) (fun i _=>((J.length:Int)-i).toNat) _ ?_ 5000 _ _ ⟨by omega,by omega,rfl,rfl⟩ (by omega)
  rintro next i l ⟨g1,g2,g3,g4⟩ ih
  refine Ok.ite (fun d=>?_) (fun d=>Ok.some ⟨?_,by omega⟩)
  ·have d:=dt d
   refine Ok.gd ⟨g1,d⟩ (Ok.gd (by show ((l.length:Int)+1)*16<=_; omega) ?_)
   have e:=kw1 (x:=i) (by omega) (by omega)
   refine ih _ _ ⟨by omega,by omega,by rw [List.length_append]; show (((l.length+1:Nat)):Int)=_; omega,?_⟩ (by omega)
   rw [e,tS g1,yD,<-g4]; rfl
  ·have d:=df d
   rw [g4,show i.toNat=J.length by omega]; rfl
 rintro l0 ⟨hl0,hl1⟩
 refine Ok.bind (Q:=fun l=>l=kX p6 J++j6 S/\l.length<=200) ?_ (fun r hr=>Ok.some hr)
 unfold wG.l0
 refine wu (fun c l=>0<=c/\c<=(S.length:Int)/\(l.length:Int)<=8+8*c/\l=l0++(List.range c.toNat).flatMap fun c:Nat=>tg (row S c) 4) (fun c _=>((S.length:Int)-c).toNat) _ ?_ 5000 _ _ ⟨by omega,by omega,by omega,by simp⟩ (by omega)
 rintro next c l ⟨g1,g2,g3,g4⟩ ih
 refine Ok.ite (fun d=>?_) (fun d=>Ok.some ⟨?_,by omega⟩)
 ·have d:=dt d
  have hr:=(hf.2.2 c g1 (by omega)).1
  refine Ok.gd ⟨g1,d⟩ (Ok.bind (Q:=fun m=>(m.length:Int)<=8+8*c+8/\m=l++tg (row S c) 4) ?_ ?_)
  ·unfold wG.l1
   refine wu (fun b m=>0<=b/\b<=((row S c).length:Int)/\(m.length:Int)<=8+8*c+b/\m=l++(List.range b.toNat).map fun q:Nat=>(at' (row S c) q,(4:Int))) (fun b _=>(((row S c).length:Int)-b).toNat) _ ?_ 5000 _ _ ⟨by omega,by omega,by omega,by simp⟩ (by omega)
   rintro next2 b m ⟨f1,f2,f3,f4⟩ ih2
   refine Ok.ite (fun d2=>?_) (fun d2=>Ok.some ⟨by omega,?_⟩)
   ·have d2:b<((row S c).length:Int):=dt d2
    refine Ok.gd ⟨f1,d2⟩ (Ok.gd (by show ((m.length:Int)+1)*16<=_; omega) ?_)
    have e:=kw1 (x:=b) (by omega) (by omega)
    refine ih2 _ _ ⟨by omega,by show _<=((row S c).length:Int); omega,by rw [List.length_append]; show (((m.length+1:Nat)):Int)<=_; omega,?_⟩ (by omega)
    rw [e,tS f1,yD,<-List.append_assoc,<-f4]; rfl
   ·have d2:¬ b<((row S c).length:Int):=df d2
    rw [f4,show b.toNat=(row S c).length by omega]; rfl
  ·rintro m ⟨hm,hm2⟩
   have e:=kw1 (x:=c) (by omega) (by omega)
   refine ih _ _ ⟨by omega,by omega,by omega,?_⟩ (by omega)
   rw [e,tS g1,xW,<-List.append_assoc,<-g4,hm2,show ((c.toNat:Nat):Int)=c by omega]
 ·have d:=df d
  rw [g4,hl0,show c.toNat=S.length by omega]; rfl
theorem gg (p4 p2 p3:Int) {J:List Int} {S:List (List Int)} {Q:List (List (List Int))} {sh:List (List Int)} (h2:p2=1\/p2=2) (h3:p3=4\/p3=8) (h4:p4=4\/p4=8\/p4=12\/p4=16) (hq:Cd p4 p2 p3 Q) (hsh:Sh p2 p3 sh):Ok (fun l=>l=y5 sh Q/\l.length<=300) (wN 5000 sh J S Q):=by
 have hQ:=hq.1
 refine Ok.bind (Q:=fun l=>l=y5 sh Q/\l.length<=300) ?_ (fun r hr=>Ok.some hr)
 unfold wN.l0
 refine wu (fun i l=>0<=i/\i<=(Q.length:Int)/\(l.length:Int)<=16*i/\l=(List.range i.toNat).flatMap fun i:Nat=>bz (blk Q i) sh) (fun i _=>((Q.length:Int)-i).toNat) _ ?_ 5000 _ _ ⟨by omega,by omega,by show (0:Int)<=_; omega,rfl⟩ (by omega)
 rintro next i l ⟨g1,g2,g3,g4⟩ ih
 refine Ok.ite (fun d=>?_) (fun d=>Ok.some ⟨?_,by omega⟩)
 ·have d:=dt d
  have hb:=hq.2 i g1 (by omega)
  have hbl:=hb.1
  refine Ok.gd ⟨g1,d⟩ (Ok.bind (Q:=fun m=>(m.length:Int)<=16*i+16/\m=l++bz (blk Q i) sh) ?_ ?_)
  ·unfold wN.l1
   refine wu (fun c m=>0<=c/\c<=((blk Q i).length:Int)/\(m.length:Int)<=16*i+8*c/\m=l++(List.range c.toNat).flatMap fun c:Nat=>rz (row (blk Q i) c) (row sh c)) (fun c _=>(((blk Q i).length:Int)-c).toNat) _ ?_ 5000 _ _ ⟨by omega,by omega,by omega,by simp⟩ (by omega)
   rintro next2 c m ⟨f1,f2,f3,f4⟩ ih2
   refine Ok.ite (fun d2=>?_) (fun d2=>Ok.some ⟨by omega,?_⟩)
   ·have d2:c<((blk Q i).length:Int):=dt d2
    have hr:=hb.2 c f1 (by omega)
    have hsr:=hsh.2 c f1 (by omega)
    have hs1:=hsh.1
    refine Ok.gd ⟨f1,d2⟩ (Ok.bind (Q:=fun r=>(r.length:Int)<=16*i+8*c+8/\r=m++rz (row (blk Q i) c) (row sh c)) ?_ ?_)
    ·unfold wN.l2
     refine wu (fun b r=>0<=b/\b<=((row (blk Q i) c).length:Int)/\(r.length:Int)<=16*i+8*c+b/\r=m++(List.range b.toNat).map fun b:Nat=>(at' (row (blk Q i) c) b,at' (row sh c) b)) (fun b _=>(((row (blk Q i) c).length:Int)-b).toNat) _ ?_ 5000 _ _ ⟨by omega,by omega,by omega,by simp⟩ (by omega)
     rintro next3 b r ⟨e1,e2,e3,e4⟩ ih3
     refine Ok.ite (fun d3=>?_) (fun d3=>Ok.some ⟨by omega,?_⟩)
     ·have d3:b<((row (blk Q i) c).length:Int):=dt d3
      refine Ok.gd ⟨e1,d3⟩ (Ok.gd ⟨f1,by omega,e1,by show b<((row sh c).length:Int); omega,by show ((r.length:Int)+1)*16<=_; omega⟩ ?_)
      have e:=kw1 (x:=b) (by omega) (by omega)
      refine ih3 _ _ ⟨by omega,by show _<=((row (blk Q i) c).length:Int); omega,by rw [List.length_append]; show (((r.length+1:Nat)):Int)<=_; omega,?_⟩ (by omega)
      rw [e,tS e1,yD,<-List.append_assoc,<-e4]; rfl
     ·have d3:¬ b<((row (blk Q i) c).length:Int):=df d3
      rw [e4,show b.toNat=(row (blk Q i) c).length by omega]; rfl
    ·rintro r ⟨hr1,hr2⟩
     have e:=kw1 (x:=c) (by omega) (by omega)
     refine ih2 _ _ ⟨by omega,by show _<=((blk Q i).length:Int); omega,by omega,?_⟩ (by omega)
     rw [e,tS f1,xW,<-List.append_assoc,<-f4,hr2,show ((c.toNat:Nat):Int)=c by omega]
   ·have d2:¬ c<((blk Q i).length:Int):=df d2
    rw [f4,show c.toNat=(blk Q i).length by omega]; rfl
  ·rintro m ⟨hm1,hm2⟩
   have e:=kw1 (x:=i) (by omega) (by omega)
   refine ih _ _ ⟨by omega,by omega,by omega,?_⟩ (by omega)
   rw [e,tS g1,xW,<-g4,hm2,show ((i.toNat:Nat):Int)=i by omega]
 ·have d:=df d
  rw [g4,show i.toNat=Q.length by omega]; rfl
end Go.Fo
