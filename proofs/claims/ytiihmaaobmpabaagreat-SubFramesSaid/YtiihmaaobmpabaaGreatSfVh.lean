/- Frames are fed. -/
import Derived.Test.YtiihmaaobmpabaaGreatSfVg
namespace Go.Fo
set_option maxRecDepth 6000
theorem pl1 (p0 p1 p4 p5 p6 p7 p8 p9:Int) {m:Nat} (hmay:yd p0 p1 1 (m:Int) p4 p5 p6 p7 p8 p9) (bs cs:List (List Int)) (hc:(cs.length:Int)=p4):Pl p0 p1 1 (m:Int) p4 p5 p6 p7 p8 p9 [spls m bs cs]:=by
 refine ⟨hmay,⟨rfl,fun c c0 c1=>?_⟩,fun c c0 c1=>?_⟩
 ·have:c=0:=by omega
  subst this; rw [<-hc]; exact Kx m cs bs
 ·have:c=0:=by omega
  subst this; rw [<-hc]; exact Kk m cs bs
theorem pl2 (p0 p1 p4 p5 p6 p7 p8 p9:Int) {m:Nat} (hmay:yd p0 p1 2 (m:Int) p4 p5 p6 p7 p8 p9) (bs cs ds es:List (List Int)) (hc:(cs.length:Int)=p4) (he:(es.length:Int)=p4):Pl p0 p1 2 (m:Int) p4 p5 p6 p7 p8 p9 [spls m bs cs,spls m ds es]:=by
 refine ⟨hmay,⟨rfl,fun c c0 c1=>?_⟩,fun c c0 c1=>?_⟩
 ·have:c=0\/c=1:=by omega
  rcases this with rfl | rfl
  ·rw [<-hc]; exact Kx m cs bs
  ·rw [<-he]; exact Kx m es ds
 ·have:c=0\/c=1:=by omega
  rcases this with rfl | rfl
  ·rw [<-hc]; exact Kk m cs bs
  ·rw [<-he]; exact Kk m es ds
theorem gy {m i n:Nat} (hm:4<=m) (h:i*m<n*m):i*m+m<=n*m:=by
 have:i<n:=Nat.lt_of_mul_lt_mul_right h
 have:=Nat.mul_le_mul_right m this
 rw [Nat.succ_mul] at this; exact this
theorem gf {m i n:Nat} (hm:4<=m) (h:¬ i*m<n*m):n<=i:=Nat.le_of_mul_le_mul_right (Nat.le_of_not_lt h) (by omega)
theorem Hi {p4 C:Int} {m:Nat} (hC:C=1\/C=2) (hm:m=4\/m=8) (h4:p4=4\/p4=8\/p4=12\/p4=16) {e:List Int} (he:e.length=C.toNat*(p4.toNat*m)):wa .i64 (wa .i64 (C*(m:Int))*p4)=(e.length:Int):=by
 rw [he]
 rcases hC with rfl | rfl<;>rcases hm with rfl | rfl<;>rcases h4 with rfl | rfl | rfl | rfl<;>rfl
theorem GC (p0 p1 p4 p5 p6 p7 p8 p9:Int) {m:Nat} (hm:m=4\/m=8) (hmay:yd p0 p1 1 (m:Int) p4 p5 p6 p7 p8 p9) {e:List Int} (he:e.length=1*(p4.toNat*m)) (bs:List (List Int)) :
  ∃ b,wD 5000 e p0 p1 1 (m:Int) p4 p5 p6 p7 p8 p9 (m:Int) (hP m) (tuP m) (stt m bs)=some (b,0,stt m (bs++cuts m (chn 1 (p4.toNat*m) 0 e) p4.toNat)) ∧
   ∃ J S Q,wg 5000 p0 p1 1 (m:Int) p4 p5 p6 p7 p8 p9 [spls m bs (cuts m (chn 1 (p4.toNat*m) 0 e) p4.toNat)]=some (J,S,Q)/\wm 5000 p0 p1 1 (m:Int) p4 p5 p6 p7 p8 p9 J S Q=some (bstr b):=by
 have h4:p4=4\/p4=8\/p4=12\/p4=16:=hmay.1.2.2.2.2.2.1
 have hk:=Hi (C:=1) (.inl rfl) hm h4 he
 have hnm:p4.toNat*m<=16*8:=Nat.mul_le_mul (by omega) (by omega)
 have hcl:=xJ m (chn 1 (p4.toNat*m) 0 e) p4.toNat
 obtain ⟨J,S,Q,b,a1,a2,a3,a4⟩:=K1 p0 p1 1 (m:Int) p4 p5 p6 p7 p8 p9 (pl1 p0 p1 p4 p5 p6 p7 p8 p9 hmay bs (cuts m (chn 1 (p4.toNat*m) 0 e) p4.toNat) (by omega))
 refine ⟨b,?_,J,S,Q,a3,a4⟩
 have hpart:=gD (e:=e) (n:=p4.toNat*m) (by omega) (by omega)
 generalize hce:chn 1 (p4.toNat*m) 0 e=ce at *
 have hcel:ce.length=p4.toNat*m:=by rw [<-hce]; exact yk _ _ _ _
 have key:Ok (fun r=>r=(b,0,stt m (bs++cuts m ce p4.toNat))) (wD 5000 e p0 p1 1 (m:Int) p4 p5 p6 p7 p8 p9 (m:Int) (hP m) (tuP m) (stt m bs)):=by
  refine Ok.ite (fun c=>?_) (fun _=>Ok.bind hpart ?_)
  ·rw [hk] at c; simp at c
  rintro _ rfl
  refine Ok.gd ⟨by decide,by decide,by decide⟩ (Ok.bind (Q:=fun r=>r=(stt m (bs++cuts m ce p4.toNat),[spls m bs (cuts m ce p4.toNat)])) ?_ ?_)
  ·unfold wD.l0
   refine qD (fun c V X=>(c=0/\V=stt m bs/\X=[[]])\/(c=1/\V=stt m (bs++cuts m ce p4.toNat)/\X=[spls m bs (cuts m ce p4.toNat)])) (fun c _ _=>(1-c).toNat) _ ?_ 5000 _ _ _ (.inl ⟨rfl,rfl,rfl⟩) (by omega)
   rintro next c V X (⟨rfl,rfl,rfl⟩ | ⟨rfl,rfl,rfl⟩) ih
   ·unfold wD.r0
    dsimp only
    refine Ok.ite (fun d=>?_) (fun d=>by have:=df d; simp at this)
    refine Ok.gd ⟨by omega,by simp⟩ (Ok.bind (Q:=fun r=>r=(0,stt m (bs++cuts m ce p4.toNat),[spls m bs (cuts m ce p4.toNat)])) ?_ ?_)
    ·show Ok _ (wD.l1 5000 ce [ce] ([ce].length:Int) p0 p1 1 (m:Int) p4 p5 p6 p7 p8 p9 (m:Int) (hP m) (tuP m) 5000 0 0 (stt m bs) [[]])
     unfold wD.l1
     refine yE (fun j b V X=>j=0/\∃ i:Nat,i<=p4.toNat/\b=((i*m:Nat):Int)/\V=stt m (bs++cuts m ce i)/\X=[spls m bs (cuts m ce i)]) (fun _ b _ _=>(((p4.toNat*m:Nat):Int)-b).toNat) _ ?_ 5000 _ _ _ _ ⟨rfl,0,by omega,by simp,by simp [cuts,kg],rfl⟩ (by omega)
     rintro next2 j b V X ⟨rfl,i,hi,rfl,rfl,rfl⟩ ih2
     refine Ok.ite (fun d2=>?_) (fun d2=>Ok.some ?_)
     ·have d2:((i*m:Nat):Int)<(ce.length:Int):=dt d2
      have hl:=gy (m:=m) (i:=i) (n:=p4.toNat) (by omega) (by omega)
      have ek:wa .i64 (((i*m:Nat):Int)+(m:Int))=((i*m+m:Nat):Int):=by rw [zH (by omega) (by omega)]; omega
      have hsl:=yz m (cuts m ce i) bs
      have hcl:=xJ m ce i
      refine Ok.ite (fun _=>?_) (fun h=>by cases h)
      dsimp only
      rw [ek,Int.toNat_natCast,Int.toNat_natCast]
      refine Ok.gd ⟨by omega,by omega,by omega⟩ (Ok.bind (Ok.is (KA hm (bs++cuts m ce i) (s:=cutm m ce i) (WZ (by omega)))) ?_)
      rintro _ rfl
      refine Ok.gd ⟨by simp,by simp,?_,by simp,by simp⟩ ?_
      ·show (((spls m bs (cuts m ce i)).length:Int)+1)*24<=_
       omega
      ·refine ih2 _ _ _ _ ⟨rfl,i+1,?_,?_,?_,?_⟩ (by omega)
       ·exact Nat.le_of_mul_le_mul_right (c:=m) (by rw [Nat.add_mul,Nat.one_mul]; omega) (by omega)
       ·rw [Nat.add_mul,Nat.one_mul]
       ·rw [Z7,<-List.append_assoc]
       ·rw [Z7,y8]; rfl
     ·have d2:¬ ((i*m:Nat):Int)<(ce.length:Int):=df d2
      have:=gf (m:=m) (i:=i) (n:=p4.toNat) (by omega) (by omega)
      rw [show i=p4.toNat by omega]
    ·rintro _ rfl
     exact ih _ _ _ (.inr ⟨rfl,rfl,rfl⟩) (by dsimp only; decide)
   ·unfold wD.r0
    dsimp only
    exact Ok.ite (fun d=>by have:=dt d; simp at this) (fun _=>Ok.some rfl)
  ·rintro _ rfl
   refine Ok.bind (Ok.is a1) ?_
   rintro _ rfl
   refine Ok.bind (Ok.is a2) ?_
   rintro _ rfl
   exact Ok.some rfl
 obtain ⟨r,r1,r2⟩:=key
 rw [r1,r2]
theorem G4 (p0 p1 p4 p5 p6 p7 p8 p9:Int) {m:Nat} (hm:m=4\/m=8) (hmay:yd p0 p1 2 (m:Int) p4 p5 p6 p7 p8 p9) {e:List Int} (he:e.length=2*(p4.toNat*m)) (bs ds:List (List Int)) :
  ∃ b,wx 5000 e p0 p1 2 (m:Int) p4 p5 p6 p7 p8 p9 (m:Int) (hP m) (tuP m) (m:Int) (hP m) (tuP m) (stt m bs) (stt m ds)=some (b,0,stt m (bs++cuts m (chn 2 (p4.toNat*m) 0 e) p4.toNat),stt m (ds++cuts m (chn 2 (p4.toNat*m) 1 e) p4.toNat)) ∧
   ∃ J S Q,wg 5000 p0 p1 2 (m:Int) p4 p5 p6 p7 p8 p9 [spls m bs (cuts m (chn 2 (p4.toNat*m) 0 e) p4.toNat),spls m ds (cuts m (chn 2 (p4.toNat*m) 1 e) p4.toNat)]=some (J,S,Q)/\wm 5000 p0 p1 2 (m:Int) p4 p5 p6 p7 p8 p9 J S Q=some (bstr b):=by
 have h4:p4=4\/p4=8\/p4=12\/p4=16:=hmay.1.2.2.2.2.2.1
 have hk:=Hi (C:=2) (.inr rfl) hm h4 he
 have hnm:p4.toNat*m<=16*8:=Nat.mul_le_mul (by omega) (by omega)
 have hcl:=xJ m (chn 2 (p4.toNat*m) 0 e) p4.toNat
 have hcl1:=xJ m (chn 2 (p4.toNat*m) 1 e) p4.toNat
 obtain ⟨J,S,Q,b,a1,a2,a3,a4⟩:=K1 p0 p1 2 (m:Int) p4 p5 p6 p7 p8 p9 (pl2 p0 p1 p4 p5 p6 p7 p8 p9 hmay bs (cuts m (chn 2 (p4.toNat*m) 0 e) p4.toNat) ds (cuts m (chn 2 (p4.toNat*m) 1 e) p4.toNat) (by omega) (by omega))
 refine ⟨b,?_,J,S,Q,a3,a4⟩
 have hpart:=Gr (e:=e) (n:=p4.toNat*m) (by omega) (by omega)
 generalize hce:chn 2 (p4.toNat*m) 0 e=ce at *
 generalize hde:chn 2 (p4.toNat*m) 1 e=de at *
 have hcel:ce.length=p4.toNat*m:=by rw [<-hce]; exact yk _ _ _ _
 have hdel:de.length=p4.toNat*m:=by rw [<-hde]; exact yk _ _ _ _
 have key:Ok (fun r=>r=(b,0,stt m (bs++cuts m ce p4.toNat),stt m (ds++cuts m de p4.toNat))) (wx 5000 e p0 p1 2 (m:Int) p4 p5 p6 p7 p8 p9 (m:Int) (hP m) (tuP m) (m:Int) (hP m) (tuP m) (stt m bs) (stt m ds)):=by
  refine Ok.ite (fun c=>?_) (fun _=>Ok.bind hpart ?_)
  ·rw [hk] at c; simp at c
  rintro _ rfl
  refine Ok.gd ⟨by decide,by decide,by decide⟩ (Ok.bind (Q:=fun r=>r=(stt m (bs++cuts m ce p4.toNat),stt m (ds++cuts m de p4.toNat),[spls m bs (cuts m ce p4.toNat),spls m ds (cuts m de p4.toNat)])) ?_ ?_)
  ·unfold wx.l0
   refine yE (fun c V W X=>(c=0/\V=stt m bs/\W=stt m ds/\X=[[],[]])\/(c=1/\V=stt m (bs++cuts m ce p4.toNat)/\W=stt m ds/\X=[spls m bs (cuts m ce p4.toNat),[]])\/(c=2/\V=stt m (bs++cuts m ce p4.toNat)/\W=stt m (ds++cuts m de p4.toNat)/\X=[spls m bs (cuts m ce p4.toNat),spls m ds (cuts m de p4.toNat)])) (fun c _ _ _=>(2-c).toNat) _ ?_ 5000 _ _ _ _ (.inl ⟨rfl,rfl,rfl,rfl⟩) (by omega)
   rintro next c V W X (⟨rfl,rfl,rfl,rfl⟩ | ⟨rfl,rfl,rfl,rfl⟩ | ⟨rfl,rfl,rfl,rfl⟩) ih
   ·unfold wx.r0
    dsimp only
    refine Ok.ite (fun d=>?_) (fun d=>by have:=df d; simp at this)
    refine Ok.gd ⟨by omega,by simp⟩ (Ok.bind (Q:=fun r=>r=(0,stt m (bs++cuts m ce p4.toNat),stt m ds,[spls m bs (cuts m ce p4.toNat),[]])) ?_ ?_)
    ·show Ok _ (wx.l1 5000 ce [ce,de] ([ce,de].length:Int) p0 p1 2 (m:Int) p4 p5 p6 p7 p8 p9 (m:Int) (hP m) (tuP m) (m:Int) (hP m) (tuP m) 5000 0 0 (stt m bs) (stt m ds) [[],[]])
     unfold wx.l1
     refine Ww (fun j b V W X=>j=0/\W=stt m ds/\∃ i:Nat,i<=p4.toNat/\b=((i*m:Nat):Int)/\V=stt m (bs++cuts m ce i)/\X=[spls m bs (cuts m ce i),[]]) (fun _ b _ _ _=>(((p4.toNat*m:Nat):Int)-b).toNat) _ ?_ 5000 _ _ _ _ _ ⟨rfl,rfl,0,by omega,by simp,by simp [cuts,kg],rfl⟩ (by omega)
     rintro next2 j b V W X ⟨rfl,rfl,i,hi,rfl,rfl,rfl⟩ ih2
     refine Ok.ite (fun d2=>?_) (fun d2=>Ok.some ?_)
     ·have d2:((i*m:Nat):Int)<(ce.length:Int):=dt d2
      have hl:=gy (m:=m) (i:=i) (n:=p4.toNat) (by omega) (by omega)
      have ek:wa .i64 (((i*m:Nat):Int)+(m:Int))=((i*m+m:Nat):Int):=by rw [zH (by omega) (by omega)]; omega
      have hsl:=yz m (cuts m ce i) bs
      have hcl:=xJ m ce i
      refine Ok.bind (Q:=fun r=>r=(0,stt m (bs++cuts m ce (i+1)),stt m ds,[spls m bs (cuts m ce (i+1)),[]])) (Ok.ite (fun _=>?_) (fun h=>by cases h)) ?_
      ·dsimp only
       rw [ek,Int.toNat_natCast,Int.toNat_natCast]
       refine Ok.gd ⟨by omega,by omega,by omega⟩ (Ok.bind (Ok.is (KA hm (bs++cuts m ce i) (s:=cutm m ce i) (WZ (by omega)))) ?_)
       rintro _ rfl
       refine Ok.gd ⟨by simp,by simp,?_,by simp,by simp⟩ (Ok.some ?_)
       ·show (((spls m bs (cuts m ce i)).length:Int)+1)*24<=_
        omega
       ·rw [Z7,<-List.append_assoc,y8]; rfl
      ·rintro _ rfl
       dsimp only
       rw [ek]
       refine ih2 _ _ _ _ _ ⟨rfl,rfl,i+1,?_,?_,rfl,rfl⟩ (by omega)
       ·exact Nat.le_of_mul_le_mul_right (c:=m) (by rw [Nat.add_mul,Nat.one_mul]; omega) (by omega)
       ·rw [Nat.add_mul,Nat.one_mul]
     ·have d2:¬ ((i*m:Nat):Int)<(ce.length:Int):=df d2
      have:=gf (m:=m) (i:=i) (n:=p4.toNat) (by omega) (by omega)
      rw [show i=p4.toNat by omega]
    ·rintro _ rfl
     exact ih _ _ _ _ (.inr (.inl ⟨rfl,rfl,rfl,rfl⟩)) (by dsimp only; decide)
   ·unfold wx.r0
    dsimp only
    refine Ok.ite (fun d=>?_) (fun d=>by have:=df d; simp at this)
    refine Ok.gd ⟨by omega,by simp⟩ (Ok.bind (Q:=fun r=>r=(1,stt m (bs++cuts m ce p4.toNat),stt m (ds++cuts m de p4.toNat),[spls m bs (cuts m ce p4.toNat),spls m ds (cuts m de p4.toNat)])) ?_ ?_)
    ·show Ok _ (wx.l1 5000 de [ce,de] ([ce,de].length:Int) p0 p1 2 (m:Int) p4 p5 p6 p7 p8 p9 (m:Int) (hP m) (tuP m) (m:Int) (hP m) (tuP m) 5000 1 0 (stt m (bs++cuts m ce p4.toNat)) (stt m ds) [spls m bs (cuts m ce p4.toNat),[]])
     unfold wx.l1
     refine Ww (fun j b V W X=>j=1/\V=stt m (bs++cuts m ce p4.toNat)/\∃ i:Nat,i<=p4.toNat/\b=((i*m:Nat):Int)/\W=stt m (ds++cuts m de i)/\X=[spls m bs (cuts m ce p4.toNat),spls m ds (cuts m de i)]) (fun _ b _ _ _=>(((p4.toNat*m:Nat):Int)-b).toNat) _ ?_ 5000 _ _ _ _ _ ⟨rfl,rfl,0,by omega,by simp,by simp [cuts,kg],rfl⟩ (by omega)
     rintro next2 j b V W X ⟨rfl,rfl,i,hi,rfl,rfl,rfl⟩ ih2
     refine Ok.ite (fun d2=>?_) (fun d2=>Ok.some ?_)
     ·have d2:((i*m:Nat):Int)<(de.length:Int):=dt d2
      have hl:=gy (m:=m) (i:=i) (n:=p4.toNat) (by omega) (by omega)
      have ek:wa .i64 (((i*m:Nat):Int)+(m:Int))=((i*m+m:Nat):Int):=by rw [zH (by omega) (by omega)]; omega
      have hsl:=yz m (cuts m de i) ds
      have hcl:=xJ m de i
      refine Ok.bind (Q:=fun r=>r=(1,stt m (bs++cuts m ce p4.toNat),stt m (ds++cuts m de (i+1)),[spls m bs (cuts m ce p4.toNat),spls m ds (cuts m de (i+1))])) (Ok.ite (fun h=>by cases h) (fun _=>Ok.ite (fun _=>?_) (fun h=>by cases h))) ?_
      ·dsimp only
       rw [ek,Int.toNat_natCast,Int.toNat_natCast]
       refine Ok.gd ⟨by omega,by omega,by omega⟩ (Ok.bind (Ok.is (KA hm (ds++cuts m de i) (s:=cutm m de i) (WZ (by omega)))) ?_)
       rintro _ rfl
       refine Ok.gd ⟨by simp,by simp,?_,by simp,by simp⟩ (Ok.some ?_)
       ·show (((spls m ds (cuts m de i)).length:Int)+1)*24<=_
        omega
       ·rw [Z7,<-List.append_assoc,y8]; rfl
      ·rintro _ rfl
       dsimp only
       rw [ek]
       refine ih2 _ _ _ _ _ ⟨rfl,rfl,i+1,?_,?_,rfl,rfl⟩ (by omega)
       ·exact Nat.le_of_mul_le_mul_right (c:=m) (by rw [Nat.add_mul,Nat.one_mul]; omega) (by omega)
       ·rw [Nat.add_mul,Nat.one_mul]
     ·have d2:¬ ((i*m:Nat):Int)<(de.length:Int):=df d2
      have:=gf (m:=m) (i:=i) (n:=p4.toNat) (by omega) (by omega)
      rw [show i=p4.toNat by omega]
    ·rintro _ rfl
     exact ih _ _ _ _ (.inr (.inr ⟨rfl,rfl,rfl,rfl⟩)) (by dsimp only; decide)
   ·unfold wx.r0
    dsimp only
    exact Ok.ite (fun d=>by have:=dt d; simp at this) (fun _=>Ok.some rfl)
  ·rintro _ rfl
   refine Ok.bind (Ok.is a1) ?_
   rintro _ rfl
   refine Ok.bind (Ok.is a2) ?_
   rintro _ rfl
   exact Ok.some rfl
 obtain ⟨r,r1,r2⟩:=key
 rw [r1,r2]
end Go.Fo
