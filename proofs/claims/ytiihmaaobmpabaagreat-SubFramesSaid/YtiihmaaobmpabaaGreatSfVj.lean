/- The frames of a subband encoder are the document's: the law. -/
import Derived.Test.YtiihmaaobmpabaaGreatSfVi
namespace Go.Fo
set_option maxRecDepth 6000
theorem Jw (s:ByteArray):beqs s s=true:=by unfold beqs; exact beq_self_eq_true _
theorem gr:kw 5000=some true:=by kernel_rfl
theorem Ml:∃ u,yw 5000=some u:=⟨_,rfl⟩
theorem X8 (m:Nat):List.replicate (10*m) 0=stt m []:=by unfold stt rvs; simp
theorem Yb (p0 p1 p2 p3 p4 p5 p6 p7 p8 p9:Int) {C m:Nat} (hC:C=1\/C=2) (h2:p2=(C:Int)) (hm:m=4\/m=8) (h3:p3=(m:Int)) (h4:p4=4\/p4=8\/p4=12\/p4=16) (A:List (List Int)) (e:List Int) (hA:A.length<=3) (hl:∀ x∈A++[e],x.length=C*(p4.toNat*m))
  {J:List Int} {S:List (List Int)} {Q:List (List (List Int))} {b:List Int} (ha:wg 5000 p0 p1 p2 p3 p4 p5 p6 p7 p8 p9 ((List.range C).map fun c:Nat=>spls m (hsc C (p4.toNat*m) m p4.toNat c A) (cuts m (chn C (p4.toNat*m) c e) p4.toNat))=some (J,S,Q)) (hp:wm 5000 p0 p1 p2 p3 p4 p5 p6 p7 p8 p9 J S Q=some (bstr b)) :
  Ok (fun r=>r=bstr b) (qp 5000 p0 p1 p2 p3 p4 p5 p6 p7 p8 p9 (A++[e])):=by
 refine Ok.bind (H0 p0 p1 p2 p3 p4 p5 p6 p7 p8 p9 hC h2 hm h3 h4 A e hA hl) ?_
 intro r hr
 rw [show r=_ from hr]
 refine Ok.bind (Ok.is ha) ?_
 rintro _ rfl
 refine Ok.bind (Ok.is hp) ?_
 rintro _ rfl
 exact Ok.some rfl

theorem uV (p0 p1 p4 p5 p6 p7 p8 p9:Int) {m:Nat} (hm:m=4\/m=8) (hmay:yd p0 p1 1 (m:Int) p4 p5 p6 p7 p8 p9) (l:List Int) (hl:l.length<=700) :
  Ok (fun z=>z=.inl ()\/z=.inr true) (psalterylaw14_SubFrames.l1 5000 l ((1*(p4.toNat*m):Nat):Int) p0 p1 1 (m:Int) p4 p5 p6 p7 p8 p9 (m:Int) (hP m) (tuP m) 5000 0 [] (stt m [])):=by
 have h4:p4=4\/p4=8\/p4=12\/p4=16:=hmay.1.2.2.2.2.2.1
 have hnm:p4.toNat*m<=16*8:=Nat.mul_le_mul (by omega) (by omega)
 have hnm1:4*4<=p4.toNat*m:=Nat.mul_le_mul (by omega) (by omega)
 generalize hF:1*(p4.toNat*m)=F
 have hF1:16<=F:=by omega
 have hF2:F<=256:=by omega
 unfold psalterylaw14_SubFrames.l1
 refine qD (fun d A V=>∃ k:Nat,k<=3/\d=((k*F:Nat):Int)/\A.length=k/\(∀ x∈A,x.length=1*(p4.toNat*m))/\V=stt m (hsc 1 (p4.toNat*m) m p4.toNat 0 A)) (fun d _ _=>((4*F:Nat)-d).toNat) _ ?_ 5000 _ _ _ ⟨0,by omega,by simp,rfl,fun x hx=>(by cases hx),rfl⟩ (by omega)
 rintro next d A V ⟨k,hk,rfl,hA,hAl,rfl⟩ ih
 have hkF:k*F<=3*F:=Nat.mul_le_mul_right _ hk
 have e3:wa .i64 (3*(F:Int))=((3*F:Nat):Int):=by rw [zH (by omega) (by omega)]; omega
 refine Ok.ite (fun c=>?_) (fun _=>Ok.some (.inl rfl))
 obtain ⟨c1,c2⟩:=yx c
 have c1:((k*F:Nat):Int)<(l.length:Int):=dt c1
 have c2:=dt c2
 rw [e3] at c2
 have hk3:k<3:=Nat.lt_of_mul_lt_mul_right (a:=F) (by omega)
 have hel:(cpy 0 (List.replicate (Int.toNat (F:Int)) (0:Int)) ((l.take (Int.toNat (l.length:Int))).drop (Int.toNat ((k*F:Nat):Int)))).length=1*(p4.toNat*m):=by
  unfold cpy; simp; omega
 have e1:wa .i64 (((k*F:Nat):Int)+(F:Int))=(((k+1)*F:Nat):Int):=by rw [zH (by omega) (by omega),Nat.add_mul,Nat.one_mul]; omega
 dsimp only
 rw [e1]
 generalize cpy 0 (List.replicate (Int.toNat (F:Int)) (0:Int)) ((l.take (Int.toNat (l.length:Int))).drop (Int.toNat ((k*F:Nat):Int)))=e at hel ⊢
 have hAe:∀ x∈A++[e],x.length=1*(p4.toNat*m):=fun x hx=>by
  rcases List.mem_append.1 hx with h | h
  ·exact hAl x h
  ·rw [List.mem_singleton.1 h]; exact hel
 obtain ⟨b,hb,J,S,Q,ha,hp⟩:=GC p0 p1 p4 p5 p6 p7 p8 p9 hm hmay hel (hsc 1 (p4.toNat*m) m p4.toNat 0 A)
 refine Ok.gd ⟨by omega,by omega,by omega⟩ (Ok.gd ⟨by omega,by omega,by omega⟩ (Ok.gd (by show ((A.length:Int)+1)*24<=_; omega) (Ok.bind (Ok.is hb) ?_)))
 rintro _ rfl
 refine Ok.bind (Q:=fun r=>r=false) (Ok.ite (fun h=>by cases h) (fun _=>Ok.bind (Yb p0 p1 1 (m:Int) p4 p5 p6 p7 p8 p9 (C:=1) (m:=m) (.inl rfl) rfl hm rfl h4 A e (by omega) hAe ha hp) ?_)) ?_
 ·rintro _ rfl
  refine Ok.some ?_
  rw [Jw]; rfl
 ·rintro _ rfl
  refine Ok.ite (fun h=>by cases h) (fun _=>?_)
  refine ih _ _ _ ⟨k+1,by omega,rfl,by rw [List.length_append,hA]; rfl,hAe,by rw [Q1]⟩ ?_
  rw [Nat.add_mul,Nat.one_mul]; omega

theorem GU (p0 p1 p4 p5 p6 p7 p8 p9:Int) {m:Nat} (hm:m=4\/m=8) (hmay:yd p0 p1 2 (m:Int) p4 p5 p6 p7 p8 p9) (l:List Int) (hl:l.length<=700) :
  Ok (fun z=>z=.inl ()\/z=.inr true) (psalterylaw14_SubFrames.l2 5000 l ((2*(p4.toNat*m):Nat):Int) p0 p1 2 (m:Int) p4 p5 p6 p7 p8 p9 (m:Int) (hP m) (tuP m) (m:Int) (hP m) (tuP m) 5000 0 [] (stt m []) (stt m [])):=by
 have h4:p4=4\/p4=8\/p4=12\/p4=16:=hmay.1.2.2.2.2.2.1
 have hnm:p4.toNat*m<=16*8:=Nat.mul_le_mul (by omega) (by omega)
 have hnm1:4*4<=p4.toNat*m:=Nat.mul_le_mul (by omega) (by omega)
 generalize hF:2*(p4.toNat*m)=F
 have hF1:16<=F:=by omega
 have hF2:F<=256:=by omega
 unfold psalterylaw14_SubFrames.l2
 refine yE (fun d A V W=>∃ k:Nat,k<=3/\d=((k*F:Nat):Int)/\A.length=k/\(∀ x∈A,x.length=2*(p4.toNat*m))/\V=stt m (hsc 2 (p4.toNat*m) m p4.toNat 0 A)/\W=stt m (hsc 2 (p4.toNat*m) m p4.toNat 1 A)) (fun d _ _ _=>((4*F:Nat)-d).toNat) _ ?_ 5000 _ _ _ _ ⟨0,by omega,by simp,rfl,fun x hx=>(by cases hx),rfl,rfl⟩ (by omega)
 rintro next d A V W ⟨k,hk,rfl,hA,hAl,rfl,rfl⟩ ih
 have hkF:k*F<=3*F:=Nat.mul_le_mul_right _ hk
 have e3:wa .i64 (3*(F:Int))=((3*F:Nat):Int):=by rw [zH (by omega) (by omega)]; omega
 refine Ok.ite (fun c=>?_) (fun _=>Ok.some (.inl rfl))
 obtain ⟨c1,c2⟩:=yx c
 have c1:((k*F:Nat):Int)<(l.length:Int):=dt c1
 have c2:=dt c2
 rw [e3] at c2
 have hk3:k<3:=Nat.lt_of_mul_lt_mul_right (a:=F) (by omega)
 have hel:(cpy 0 (List.replicate (Int.toNat (F:Int)) (0:Int)) ((l.take (Int.toNat (l.length:Int))).drop (Int.toNat ((k*F:Nat):Int)))).length=2*(p4.toNat*m):=by
  unfold cpy; simp; omega
 have e1:wa .i64 (((k*F:Nat):Int)+(F:Int))=(((k+1)*F:Nat):Int):=by rw [zH (by omega) (by omega),Nat.add_mul,Nat.one_mul]; omega
 dsimp only
 rw [e1]
 generalize cpy 0 (List.replicate (Int.toNat (F:Int)) (0:Int)) ((l.take (Int.toNat (l.length:Int))).drop (Int.toNat ((k*F:Nat):Int)))=e at hel ⊢
 have hAe:∀ x∈A++[e],x.length=2*(p4.toNat*m):=fun x hx=>by
  rcases List.mem_append.1 hx with h | h
  ·exact hAl x h
  ·rw [List.mem_singleton.1 h]; exact hel
 obtain ⟨b,hb,J,S,Q,ha,hp⟩:=G4 p0 p1 p4 p5 p6 p7 p8 p9 hm hmay hel (hsc 2 (p4.toNat*m) m p4.toNat 0 A) (hsc 2 (p4.toNat*m) m p4.toNat 1 A)
 refine Ok.gd ⟨by omega,by omega,by omega⟩ (Ok.gd ⟨by omega,by omega,by omega⟩ (Ok.gd (by show ((A.length:Int)+1)*24<=_; omega) (Ok.bind (Ok.is hb) ?_)))
 rintro _ rfl
 refine Ok.bind (Q:=fun r=>r=false) (Ok.ite (fun h=>by cases h) (fun _=>Ok.bind (Yb p0 p1 2 (m:Int) p4 p5 p6 p7 p8 p9 (C:=2) (m:=m) (.inr rfl) rfl hm rfl h4 A e (by omega) hAe ha hp) ?_)) ?_
 ·rintro _ rfl
  refine Ok.some ?_
  rw [Jw]; rfl
 ·rintro _ rfl
  refine Ok.ite (fun h=>by cases h) (fun _=>?_)
  refine ih _ _ _ _ ⟨k+1,by omega,rfl,by rw [List.length_append,hA]; rfl,hAe,by rw [Q1],by rw [Q1]⟩ ?_
  rw [Nat.add_mul,Nat.one_mul]; omega

theorem frames_w (p0 p1 p2 p3 p4 p5 p6 p7 p8 p9:Int) (l:List Int):psalterylaw14_SubFrames 5000 p0 p1 p2 p3 p4 p5 p6 p7 p8 p9 l=some true:=by
 have key:Ok (fun r=>r=true) (psalterylaw14_SubFrames 5000 p0 p1 p2 p3 p4 p5 p6 p7 p8 p9 l):=by
  refine Ok.bind (Ok.is gr) ?_
  rintro _ rfl
  obtain ⟨u,hu⟩:=Ml
  refine Ok.ite (fun h=>by cases h) (fun _=>Ok.bind (Ok.is hu) ?_)
  intro _ _
  by_cases hmay:yd p0 p1 p2 p3 p4 p5 p6 p7 p8 p9
  ·have h0:p0=1:=hmay.1.1
   have h2:p2=1\/p2=2:=hmay.1.2.2.2.1
   have h3':p3=4\/p3=8:=hmay.1.2.2.2.2.1
   have h4:p4=4\/p4=8\/p4=12\/p4=16:=hmay.1.2.2.2.2.2.1
   obtain ⟨m,hm,h3⟩:∃ m:Nat,(m=4\/m=8)/\p3=(m:Int):=by
    rcases h3' with h | h
    ·exact ⟨4,.inl rfl,h⟩
    ·exact ⟨8,.inr rfl,h⟩
   subst h3
   subst h0
   obtain ⟨t1,a,b,e,t2,a2,b2,e'⟩:=MG hm
   have hmy:kB 5000 1 p1 p2 (m:Int) p4 p5 p6 p7 p8 p9=some 0:=(Z0 1 p1 p2 (m:Int) p4 p5 p6 p7 p8 p9).trans (by rw [if_pos hmay])
   have hsm:qa 5000 1 p1 p2 (m:Int) p4 p5 p6 p7 p8 p9=some ((p4.toNat*m:Nat):Int):=by
    refine wA rfl ?_
    rcases hm with rfl | rfl<;>rcases h4 with rfl | rfl | rfl | rfl<;>rfl
   rcases h2 with h2 | h2
   ·subst h2
    have hd:wJ 5000 1 p1 1 (m:Int) p4 p5 p6 p7 p8 p9 (List.replicate 388 none) 0 0=some (.inr (.inl (t1,a,b,(m:Int),hP m,tuP m,List.replicate (10*m) 0))) :=
     wr hmy (wA rfl (wO rfl (wr e rfl)))
    refine Ok.bind (Ok.is hd) ?_
    rintro _ rfl
    refine Ok.bind (JQ 1 p1 1 (m:Int) p4 p5 p6 p7 p8 p9) ?_
    intro r hr
    rw [show r=true from hr.2 hmay]
    refine Ok.ite (fun h=>by cases h) (fun _=>Ok.ite (fun _=>Ok.some rfl) (fun c=>?_))
    have c:=df c
    refine Ok.bind (Ok.is hsm) ?_
    rintro _ rfl
    have hst:wa .i64 (1*((p4.toNat*m:Nat):Int))=((1*(p4.toNat*m):Nat):Int):=by
     rcases hm with rfl | rfl<;>rcases h4 with rfl | rfl | rfl | rfl<;>rfl
    have hl:=uV 1 p1 p4 p5 p6 p7 p8 p9 hm hmay l (by omega)
    rw [<-X8] at hl
    dsimp only
    rw [hst]
    refine Ok.bind hl ?_
    rintro z (rfl | rfl)
    ·exact Ok.some rfl
    ·exact Ok.some rfl
   ·subst h2
    have hd:wJ 5000 1 p1 2 (m:Int) p4 p5 p6 p7 p8 p9 (List.replicate 388 none) 0 0=some (.inr (.inr (t2,a2,b2,(m:Int),hP m,tuP m,(m:Int),hP m,tuP m,List.replicate (10*m) 0,List.replicate (10*m) 0))) :=
     wr hmy (wA rfl (wA rfl (wO rfl (wr e (wr e' rfl)))))
    refine Ok.bind (Ok.is hd) ?_
    rintro _ rfl
    refine Ok.bind (JQ 1 p1 2 (m:Int) p4 p5 p6 p7 p8 p9) ?_
    intro r hr
    rw [show r=true from hr.2 hmay]
    refine Ok.ite (fun h=>by cases h) (fun _=>Ok.ite (fun _=>Ok.some rfl) (fun c=>?_))
    have c:=df c
    refine Ok.bind (Ok.is hsm) ?_
    rintro _ rfl
    have hst:wa .i64 (2*((p4.toNat*m:Nat):Int))=((2*(p4.toNat*m):Nat):Int):=by
     rcases hm with rfl | rfl<;>rcases h4 with rfl | rfl | rfl | rfl<;>rfl
    have hl:=GU 1 p1 p4 p5 p6 p7 p8 p9 hm hmay l (by omega)
    rw [<-X8] at hl
    dsimp only
    rw [hst]
    refine Ok.bind hl ?_
    rintro z (rfl | rfl)
    ·exact Ok.some rfl
    ·exact Ok.some rfl
  ·have hd:wJ 5000 p0 p1 p2 p3 p4 p5 p6 p7 p8 p9 (List.replicate 388 none) 0 0=some (.inl 110) :=
    wr ((Z0 p0 p1 p2 p3 p4 p5 p6 p7 p8 p9).trans (by rw [if_neg hmay])) (wO rfl rfl)
   refine Ok.bind (Ok.is hd) ?_
   rintro _ rfl
   refine Ok.bind (JQ p0 p1 p2 p3 p4 p5 p6 p7 p8 p9) ?_
   intro r hr
   have e:r=false:=by
    cases r
    ·rfl
    ·exact absurd (hr.1 rfl) hmay
   rw [e]
   exact Ok.ite (fun _=>Ok.some rfl) (fun h=>by cases h)
 obtain ⟨r,h1,h2⟩:=key
 rw [h1,show r=true from h2]
end Go.Fo
