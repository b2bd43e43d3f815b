/- The law of any share: it holds. -/
import Derived.Test.YtllmmohdmmneoaaGreatMaWn
import Derived.Test.YtllmmohdmmneoaaGreatMaWq
namespace Go.Fo
set_option maxRecDepth 6000
theorem any_w (p0 p1 p2 p3 p4 p5 p6 p7 p8 p9:Int) (s:ByteArray):psalterylaw21_LapAny 100000 p0 p1 p2 p3 p4 p5 p6 p7 p8 p9 s=some true:=by
 suffices h:Ok (fun r=>r=true) (psalterylaw21_LapAny 100000 p0 p1 p2 p3 p4 p5 p6 p7 p8 p9 s) by
  obtain ⟨r,h1,h2⟩:=h
  rw[h1,h2]
 refine Ok.bind (Ok.is uh) ?_
 rintro _ rfl
 refine Ok.ite (fun c=>by cases c) (fun _=>?_)
 refine Ok.ite (fun _=>Ok.some rfl) (fun c=>?_)
 have hs:(s.size:Int)<=600:=by have:=df c;omega
 have hsl:=g9 s
 refine Ok.bind (Ok.is (show yx 100000=some () from rfl)) (fun _ _=>?_)
 refine Ok.bind (GI p0 p1 p2 p3 p4 p5 p6 p7 p8 p9) ?_
 intro z hz
 cases z with
 | inl a=>exact Ok.ite (fun _=>Ok.some rfl) (fun c=>absurd (by simpa using c) hz)
 | inr z =>
  cases z with
  | inl z =>
   obtain ⟨_,_,_,R,S,T,U,V⟩:=z
   obtain ⟨hl,hm,h2,hM⟩:=hz
   have hn:=yp hl.ln
   refine Ok.bind (KH hl hm (gw s) (by omega)) ?_
   rintro ⟨w,c,r0,r1,r2,r3,r4,r5,r6,r7,on,i0,i1,i2,i3,la,st,gn,ns,q,x,e⟩ hP
   refine Ok.ite (fun d=>?_) (fun d=>?_)
   ·rcases hP with ⟨e1,e2⟩|⟨e1,_⟩
    ·subst e1 e2;exact Ok.some rfl
    ·rw[e1] at d;cases d
   have d:e=0:=by simpa using d
   rcases hP with ⟨e1,_⟩|⟨_,hF,hf,_⟩
   ·omega
   refine Ok.bind (Ky hl hm hF hf) ?_
   rintro ⟨bb,e2⟩ ⟨g1,g2⟩
   have g1:e2=0:=g1
   have g2:(bb.length:Int)=p8:=g2
   subst g1
   refine Ok.bind (Q:=fun r=>r=(List.replicate p2.toNat bb,List.replicate p2.toNat (la,st))) ?_ ?_
   ·unfold psalterylaw21_LapAny.l1
    refine y7 (fun a l m=>0<=a/\a<=p2/\l=List.replicate a.toNat bb/\m=List.replicate a.toNat (la,st)) (fun a _ _=>(p2-a).toNat) _ ?_ 100000 _ _ _ ⟨by omega,by omega,rfl,rfl⟩ (by omega)
    rintro next a l m ⟨h1,h2,rfl,rfl⟩ ih
    refine Ok.ite (fun c=>?_) (fun c=>Ok.some ?_)
    ·have c:=dt c
     have e:=kw1 (x:=a) (by omega) (by omega)
     refine Ok.gd (by rw[List.length_replicate];show ((a.toNat:Int)+1)*24<=_;omega) (Ok.gd (by rw[List.length_replicate];show ((a.toNat:Int)+1)*16<=_;omega) (ih _ _ _ ⟨by omega,by omega,?_,?_⟩ (by omega)))
     ·rw[e,show (a+1).toNat=a.toNat+1 by omega,List.replicate_succ']
     ·rw[e,show (a+1).toNat=a.toNat+1 by omega,List.replicate_succ']
    ·have c:=df c
     rw[show a=p2 by omega]
   ·rintro _ rfl
    subst h2
    refine Ok.bind (Ur (p2:=1) hl.ln hM g2 hF.pp) ?_
    rintro ⟨bp,bq,_,_⟩ ⟨f1,f2⟩
    have f1:bq=0:=f1
    have f2:(bp.length:Int)=p8:=f2
    subst f1
    refine Ok.some ?_
    rw[wT (x:=1*p8) (by omega) (by omega),f2,Int.one_mul]
    simp
  | inr z =>
   obtain ⟨_,_,_,R,S,T,U,R2,S2,T2,U2,V,V2⟩:=z
   obtain ⟨hl,hm,h2,hM,hM2⟩:=hz
   have hn:=yp hl.ln
   refine Ok.bind (KH hl hm (gw s) (by omega)) ?_
   rintro ⟨w,c,r0,r1,r2,r3,r4,r5,r6,r7,on,i0,i1,i2,i3,la,st,gn,ns,q,x,e⟩ hP
   refine Ok.ite (fun d=>?_) (fun d=>?_)
   ·rcases hP with ⟨e1,e2⟩|⟨e1,_⟩
    ·subst e1 e2;exact Ok.some rfl
    ·rw[e1] at d;cases d
   have d:e=0:=by simpa using d
   rcases hP with ⟨e1,_⟩|⟨_,hF,hf,_⟩
   ·omega
   refine Ok.bind (Ky hl hm hF hf) ?_
   rintro ⟨bb,e2⟩ ⟨g1,g2⟩
   have g1:e2=0:=g1
   have g2:(bb.length:Int)=p8:=g2
   subst g1
   refine Ok.bind (Q:=fun r=>r=(List.replicate p2.toNat bb,List.replicate p2.toNat (la,st))) ?_ ?_
   ·unfold psalterylaw21_LapAny.l2
    refine y7 (fun a l m=>0<=a/\a<=p2/\l=List.replicate a.toNat bb/\m=List.replicate a.toNat (la,st)) (fun a _ _=>(p2-a).toNat) _ ?_ 100000 _ _ _ ⟨by omega,by omega,rfl,rfl⟩ (by omega)
    rintro next a l m ⟨h1,h2,rfl,rfl⟩ ih
    refine Ok.ite (fun c=>?_) (fun c=>Ok.some ?_)
    ·have c:=dt c
     have e:=kw1 (x:=a) (by omega) (by omega)
     refine Ok.gd (by rw[List.length_replicate];show ((a.toNat:Int)+1)*24<=_;omega) (Ok.gd (by rw[List.length_replicate];show ((a.toNat:Int)+1)*16<=_;omega) (ih _ _ _ ⟨by omega,by omega,?_,?_⟩ (by omega)))
     ·rw[e,show (a+1).toNat=a.toNat+1 by omega,List.replicate_succ']
     ·rw[e,show (a+1).toNat=a.toNat+1 by omega,List.replicate_succ']
    ·have c:=df c
     rw[show a=p2 by omega]
   ·rintro _ rfl
    subst h2
    refine Ok.bind (U0 (p2:=2) hl.ln hM hM2 g2 hF.pp) ?_
    rintro ⟨bp,bq,_,_,_,_⟩ ⟨f1,f2⟩
    have f1:bq=0:=f1
    have f2:(bp.length:Int)=2*p8:=f2
    subst f1
    refine Ok.some ?_
    rw[wT (x:=2*p8) (by omega) (by omega),f2]
    simp
end Go.Fo
