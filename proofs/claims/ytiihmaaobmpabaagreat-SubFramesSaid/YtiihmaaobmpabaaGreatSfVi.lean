/- What the document's Encode lays. -/
import Derived.Test.YtiihmaaobmpabaaGreatSfVh
namespace Go.Fo
set_option maxRecDepth 6000
theorem G7 {C n c:Nat} (hC:C=1\/C=2) (hc:c<C) (hn:n<=600) {e:List Int} (he:e.length=C*n):Ok (fun r=>r=chn C n c e) (zW 5000 e (c:Int) (C:Int)):=by
 refine Ok.bind (Q:=fun r=>r=chn C n c e) ?_ (fun r hr=>Ok.some hr)
 unfold zW.l0
 refine wu (fun a d=>∃ k:Nat,k<=n/\a=((k*C+c:Nat):Int)/\d=chn C k c e) (fun a _=>(((C*n+c:Nat):Int)-a).toNat) _ ?_ 5000 _ _ ⟨0,by omega,by simp,rfl⟩ (by rcases hC with rfl | rfl<;>omega)
 rintro next a d ⟨k,hk,rfl,rfl⟩ ih
 have el:=yk C k c e
 refine Ok.ite (fun d=>?_) (fun d=>Ok.some ?_)
 ·have d:=dt d
  have hkn:k<n:=by rcases hC with rfl | rfl<;>omega
  have ek:wa .i64 (((k*C+c:Nat):Int)+(C:Int))=(((k+1)*C+c:Nat):Int):=by rw [zH (by rcases hC with rfl | rfl<;>omega) (by rcases hC with rfl | rfl<;>omega)]; rcases hC with rfl | rfl<;>omega
  dsimp only
  rw [ek]
  refine Ok.gd ⟨by omega,d,?_⟩ ?_
  ·show (((chn C k c e).length:Int)+1)*2<=_
   omega
  ·refine ih _ _ ⟨k+1,by omega,rfl,?_⟩ (by rcases hC with rfl | rfl<;>omega)
   rw [X0]; rfl
 ·have d:=df d
  rw [show k=n by rcases hC with rfl | rfl<;>omega]
def hsc (C n m q c:Nat) (A:List (List Int)):List (List Int):=(A.map fun e=>cuts m (chn C n c e) q).flatten
theorem Q1 (C n m q c:Nat) (A:List (List Int)) (e:List Int):hsc C n m q c (A++[e])=hsc C n m q c A++cuts m (chn C n c e) q:=by unfold hsc; simp
theorem Q4 (C n m q c:Nat):∀ A:List (List Int),(hsc C n m q c A).length=A.length*q
 | []=>by simp [hsc]
 | e::A=>by
  show ((cuts m (chn C n c e) q)++hsc C n m q c A).length=_
  rw [List.length_append,Q4 C n m q c A,xJ,List.length_cons,Nat.add_mul,Nat.one_mul,Nat.add_comm]
theorem Mr {C n m q c:Nat} (hn:n=q*m) (A:List (List Int)):∀ b∈hsc C n m q c A,b.length=m:=by
 intro b hb
 unfold hsc at hb
 obtain ⟨l,hl,hb⟩:=List.mem_flatten.1 hb
 obtain ⟨e,_,rfl⟩:=List.mem_map.1 hl
 exact Ma (by rw [yk,hn]; exact Nat.le_refl _) b hb
theorem Jd (X:List (List Int)) {i:Int} (h0:0<=i) (h1:i<(X.length:Int)):X.take (i+1).toNat=X.take i.toNat++[row X i]:=by
 rw [show (i+1).toNat=i.toNat+1 by omega,List.take_add_one,Kw X h0 h1,List.getElem?_eq_getElem (by omega)]; rfl
theorem H0 (p0 p1 p2 p3 p4 p5 p6 p7 p8 p9:Int) {C m:Nat} (hC:C=1\/C=2) (h2:p2=(C:Int)) (hm:m=4\/m=8) (h3:p3=(m:Int)) (h4:p4=4\/p4=8\/p4=12\/p4=16) (A:List (List Int)) (e:List Int) (hA:A.length<=3) (hl:∀ x∈A++[e],x.length=C*(p4.toNat*m)) :
  Ok (fun r=>r=(List.range C).map fun c:Nat=>spls m (hsc C (p4.toNat*m) m p4.toNat c A) (cuts m (chn C (p4.toNat*m) c e) p4.toNat)) (wE.l0 5000 (A++[e]) (wa .i64 (p3*p4)) p0 p1 p2 p3 p4 p5 p6 p7 p8 p9 5000 0 []):=by
 have hnm:p4.toNat*m<=16*8:=Nat.mul_le_mul (by omega) (by omega)
 have hg:wa .i64 (p3*p4)=((p4.toNat*m:Nat):Int):=by
  subst h3
  rcases hm with rfl | rfl<;>rcases h4 with rfl | rfl | rfl | rfl<;>rfl
 rw [hg]
 generalize hn:p4.toNat*m=n at *
 generalize hF:A++[e]=F at *
 have hFl:F.length=A.length+1:=by rw [<-hF]; simp
 unfold wE.l0
 refine wu (fun c X=>0<=c/\c<=(C:Int)/\X=(List.range c.toNat).map fun c:Nat=>spls m (hsc C n m p4.toNat c A) (cuts m (chn C n c e) p4.toNat)) (fun c _=>((C:Int)-c).toNat) _ ?_ 5000 _ _ ⟨by omega,by omega,rfl⟩ (by omega)
 rintro next c X ⟨g1,g2,g3⟩ ih
 refine Ok.ite (fun d=>?_) (fun d=>Ok.some (by have:=df d; rw [g3,show c.toNat=C by omega]))
 have d:=dt d
 obtain ⟨c,rfl⟩:∃ k:Nat,c=(k:Int):=⟨c.toNat,by omega⟩
 have hcC:c<C:=by omega
 refine Ok.bind (Q:=fun r=>r=hsc C n m p4.toNat c F) ?_ ?_
 ·unfold wE.l2
  refine wu (fun a f=>0<=a/\a<=(F.length:Int)/\f=hsc C n m p4.toNat c (F.take a.toNat)) (fun a _=>((F.length:Int)-a).toNat) _ ?_ 5000 _ _ ⟨by omega,by omega,rfl⟩ (by omega)
  rintro next2 a f ⟨f1,f2,rfl⟩ ih2
  refine Ok.ite (fun d2=>?_) (fun d2=>Ok.some (by have:=df d2; rw [List.take_of_length_le (by omega)]))
  have d2:=dt d2
  have hrl:(row F a).length=C*n:=by rw [Kw F f1 d2]; exact hl _ (List.getElem_mem _)
  refine Ok.gd ⟨f1,d2⟩ (Ok.bind (Q:=fun r=>r=chn C n c (row F a)) ?_ ?_)
  ·rw [h2]
   exact G7 hC hcC (by omega) hrl
  intro u hu
  have hul:u.length=n:=by rw [show u=_ from hu]; exact yk _ _ _ _
  have hfl:=Q4 C n m p4.toNat c (F.take a.toNat)
  have hfl2:(F.take a.toNat).length*p4.toNat<=4*16:=Nat.mul_le_mul (by rw [List.length_take]; omega) (by omega)
  refine Ok.bind (Q:=fun r=>r=hsc C n m p4.toNat c (F.take a.toNat)++cuts m u p4.toNat) ?_ ?_
  ·unfold wE.l3
   refine wu (fun b d=>∃ i:Nat,i<=p4.toNat/\b=((i*m:Nat):Int)/\d=hsc C n m p4.toNat c (F.take a.toNat)++cuts m u i) (fun b _=>((n:Int)-b).toNat) _ ?_ 5000 _ _ ⟨0,by omega,by simp,by simp [cuts,kg]⟩ (by omega)
   rintro next3 b d ⟨i,hi,rfl,rfl⟩ ih3
   refine Ok.ite (fun d3=>?_) (fun d3=>Ok.some ?_)
   ·have d3:=dt d3
    have hln:=gy (m:=m) (i:=i) (n:=p4.toNat) (by omega) (by omega)
    have ek:wa .i64 (((i*m:Nat):Int)+p3)=((i*m+m:Nat):Int):=by rw [h3,zH (by omega) (by omega)]; omega
    have hcl:=xJ m u i
    dsimp only
    rw [ek,Int.toNat_natCast,Int.toNat_natCast]
    refine Ok.gd ⟨by omega,by omega,by omega,?_⟩ ?_
    ·show (((hsc C n m p4.toNat c (F.take a.toNat)++cuts m u i).length:Int)+1)*24<=_
     rw [List.length_append]; omega
    ·refine ih3 _ _ ⟨i+1,?_,?_,?_⟩ (by omega)
     ·exact Nat.le_of_mul_le_mul_right (c:=m) (by rw [Nat.add_mul,Nat.one_mul]; omega) (by omega)
     ·rw [Nat.add_mul,Nat.one_mul]
     ·rw [Z7,<-List.append_assoc]; rfl
   ·have d3:=df d3
    have:=gf (m:=m) (i:=i) (n:=p4.toNat) (by omega) (by omega)
    rw [show i=p4.toNat by omega]
  ·intro w hw
   have e1:=kw1 (x:=a) (by omega) (by omega)
   dsimp only
   rw [e1]
   refine ih2 _ _ ⟨by omega,by omega,?_⟩ (by omega)
   rw [Jd F f1 d2,Q1,show w=_ from hw,show u=_ from hu]
 ·intro p hp
  have hp:p=hsc C n m p4.toNat c A++cuts m (chn C n c e) p4.toNat:=by rw [show p=_ from hp,<-hF,Q1]
  have hpm:∀ b∈p,b.length=m:=by
   rw [show p=hsc C n m p4.toNat c (A++[e]) by rw [hp,Q1]]
   exact Mr hn.symm _
  have hbl:=Q4 C n m p4.toNat c A
  have hbl2:A.length*p4.toNat<=3*16:=Nat.mul_le_mul hA (by omega)
  have hcl:=xJ m (chn C n c e) p4.toNat
  generalize hbs:hsc C n m p4.toNat c A=bs at *
  generalize hcs:cuts m (chn C n c e) p4.toNat=cs at *
  have hpl:p.length=bs.length+cs.length:=by rw [hp,List.length_append]
  have et:wa .i64 ((p.length:Int)-p4)=(bs.length:Int):=by rw [zH (by omega) (by omega)]; omega
  dsimp only
  rw [et]
  refine Ok.bind (Q:=fun r=>r=spls m bs cs) ?_ ?_
  ·unfold wE.l1
   refine wu (fun q X=>(bs.length:Int)<=q/\q<=(p.length:Int)/\X=spls m bs (cs.take (q-(bs.length:Int)).toNat)) (fun q _=>((p.length:Int)-q).toNat) _ ?_ 5000 _ _ ⟨by omega,by omega,by simp [spls]⟩ (by omega)
   rintro next3 q X ⟨f1,f2,f3⟩ ih3
   refine Ok.ite (fun d2=>?_) (fun d2=>Ok.some (by have:=df d2; rw [f3,List.take_of_length_le (by omega)]))
   have d2:=dt d2
   have e1:=kw1 (x:=q) (by omega) (by omega)
   have e9:wa .i64 (q-9)=q-9:=zH (by omega) (by omega)
   have hmx:imax (q-9) 0=if q<9 then 0 else q-9:=by unfold imax; split<;>split<;>omega
   have hXl:X.length<=16:=by rw [f3,yz,List.length_take]; omega
   dsimp only
   rw [e1,e9,hmx]
   have hw0:(p.take (q+1).toNat).length=q.toNat+1:=by rw [List.length_take]; omega
   have hsp:=gx m hm ((p.take (q+1).toNat).drop (if q<9 then 0 else q-9).toNat) (by rw [List.length_drop,hw0]; split<;>omega) (fun b hb=>hpm b (List.mem_of_mem_take (List.mem_of_mem_drop hb))) (by rw [List.length_drop,hw0]; split<;>omega)
   rw [U6 m _ (fun b hb=>hpm b (List.mem_of_mem_take hb)) _ (by rw [hw0]; split<;>omega)] at hsp
   rw [h3]
   refine Ok.gd ⟨by split<;>omega,by split<;>omega,by omega⟩ (Ok.bind (Ok.is hsp) ?_)
   rintro _ rfl
   refine Ok.gd (by show ((X.length:Int)+1)*24<=_; omega) ?_
   refine ih3 _ _ ⟨by omega,by omega,?_⟩ (by omega)
   have e2:p.take (q+1).toNat=bs++cs.take (q+1-(bs.length:Int)).toNat:=by
    rw [hp,List.take_append,List.take_of_length_le (by omega)]
    congr 2; omega
   rw [e2,show q+1-(bs.length:Int)=q-(bs.length:Int)+1 by omega,Jd cs (by omega) (by omega),y8,f3,List.append_assoc]
  ·intro r hr
   have hXl:X.length<=2:=by rw [g3,List.length_map,List.length_range]; omega
   have e1:=kw1 (x:=(c:Int)) (by omega) (by omega)
   refine Ok.gd (by show ((X.length:Int)+1)*24<=_; omega) ?_
   rw [e1]
   refine ih _ _ ⟨by omega,by omega,?_⟩ (by omega)
   rw [show ((c:Int)+1).toNat=c+1 by omega,List.range_succ,List.map_append,g3,Int.toNat_natCast,List.map_cons,List.map_nil,show r=_ from hr,hbs,hcs]
end Go.Fo
