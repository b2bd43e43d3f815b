/- Analysed and packed: the program and the document. -/
import Derived.Test.YtiihmaaobmpabaaGreatSfVf
import Derived.Test.YtiihmaaobmpabaaGreatSfUi
import Derived.Test.YtiihmaaobmpabaaGreatSfSq
namespace Go.Fo
set_option maxRecDepth 6000
theorem K1 (p0 p1 p2 p3 p4 p5 p6 p7 p8 p9:Int) {P:List (List (List Int))} (h:Pl p0 p1 p2 p3 p4 p5 p6 p7 p8 p9 P) :
  ∃ J S Q b,ww 5000 p0 p1 p2 p3 p4 p5 p6 p7 p8 p9 P=some (J,S,Q,0)/\qz 5000 p0 p1 p2 p3 p4 p5 p6 p7 p8 p9 J S Q=some (b,0)/\wg 5000 p0 p1 p2 p3 p4 p5 p6 p7 p8 p9 P=some (J,S,Q)/\wm 5000 p0 p1 p2 p3 p4 p5 p6 p7 p8 p9 J S Q=some (bstr b):=by
 obtain ⟨⟨J,S,Q,e⟩,he,⟨a1,a2,a3,sh,a4,a5⟩,⟨_,C,B,z,hz,hv⟩⟩:=Ok.both (Vm p0 p1 p2 p3 p4 p5 p6 p7 p8 p9 h) (Xf p0 p1 p2 p3 p4 p5 p6 p7 p8 p9 h.m h.c)
 have a1:e=0:=a1
 subst a1
 obtain ⟨C',B',z',hz',hsr⟩:=GL p0 p1 p2 p3 p4 p5 p6 p7 p8 p9 hz.hf
 have h2:=hz'.ha
 rw [hz.ha] at h2
 have h2:rw_ C B z=rw_ C' B' z':=(Prod.mk.inj (Option.some.inj h2)).1
 have a4:zp 5000 p0 p1 p2 p3 p4 p5 p6 p7 p8 p9 S=some (sh,0):=a4
 have h4:sh=rw_ C B z:=by
  have q:=hz.ha
  rw [show zp 5000 p0 p1 p2 p3 p4 p5 p6 p7 p8 p9 S=_ from a4] at q
  exact (Prod.mk.inj (Option.some.inj q)).1
 obtain ⟨b,b1,_,_,r',b4,b5⟩:=ui p0 p1 p2 p3 p4 p5 p6 p7 p8 p9 hz' hsr (by rw [<-h2]; exact hv)
 obtain ⟨r,r1,r2⟩:=Xs p0 p1 p2 p3 p4 p5 p6 p7 p8 p9 h a2 a3 hz' hsr (by rw [<-h2,<-h4]; exact a5)
 exact ⟨J,S,Q,b,he,b1,by rw [r1,r2],by rw [b4,b5]⟩
def cutm (m:Nat) (l:List Int) (i:Nat):List Int:=(l.take (i*m+m)).drop (i*m)
def cuts (m:Nat) (l:List Int) (k:Nat):List (List Int):=kg (cutm m l) k
theorem WZ {m i:Nat} {l:List Int} (h:i*m+m<=l.length):(cutm m l i).length=m:=by unfold cutm; rw [List.length_drop,List.length_take]; omega
theorem Z7 (m:Nat) (l:List Int) (k:Nat):cuts m l (k+1)=cuts m l k++[cutm m l k]:=yG _ _
theorem xJ (m:Nat) (l:List Int) (k:Nat):(cuts m l k).length=k:=jX _ _
theorem Ma {m k:Nat} {l:List Int} (h:k*m<=l.length):∀ b∈cuts m l k,b.length=m:=by
 intro b hb
 unfold cuts kg at hb
 obtain ⟨i,hi,rfl⟩:=List.mem_map.1 hb
 have hi:=List.mem_range.1 hi
 have hk2:(i+1)*m<=k*m:=Nat.mul_le_mul_right _ hi
 rw [Nat.add_mul,Nat.one_mul] at hk2
 exact WZ (by omega)
def spls (m:Nat):List (List Int)->List (List Int)->List (List Int)
  | _,[]=>[]
  | bs,c::cs=>spl m (hP m) (tuP m) (stt m (bs++[c]))::spls m (bs++[c]) cs
theorem y8 (m:Nat):∀ (cs bs:List (List Int)) (c:List Int),spls m bs (cs++[c])=spls m bs cs++[spl m (hP m) (tuP m) (stt m (bs++cs++[c]))]
 | [],bs,c=>by simp [spls]
 | d::cs,bs,c=>by
  show spl m (hP m) (tuP m) (stt m (bs++[d]))::spls m (bs++[d]) (cs++[c])=_
  rw [y8 m cs (bs++[d]) c,show bs++(d::cs)++[c]=bs++[d]++cs++[c] by simp]; rfl
theorem yz (m:Nat):∀ (cs bs:List (List Int)),(spls m bs cs).length=cs.length
 | [],_=>rfl
 | d::cs,bs=>by
  show (spls m (bs++[d]) cs).length+1=_
  rw [yz m cs]; rfl
theorem JE (m:Nat):∀ (cs bs:List (List Int)),∀ r∈spls m bs cs,∃ X,r=spl m (hP m) (tuP m) X
 | [],_,r,h=>by cases h
 | d::cs,bs,r,h=>by
  rcases List.mem_cons.1 h with h | h
  ·exact ⟨_,h⟩
  ·exact JE m cs _ r h
theorem Kw (X:List (List Int)) {i:Int} (h0:0<=i) (h1:i<(X.length:Int)):row X i=X[i.toNat]'(by omega):=by
 show X.getD i.toNat []=_
 rw [List.getD_eq_getElem?_getD,List.getElem?_eq_getElem (by omega)]; rfl
theorem Jt (m:Nat) (cs bs:List (List Int)) {i:Int} (h0:0<=i) (h1:i<(cs.length:Int)):∃ X,row (spls m bs cs) i=spl m (hP m) (tuP m) X:=by
 have hl:=yz m cs bs
 rw [Kw _ h0 (by omega)]
 exact JE m cs bs _ (List.getElem_mem _)
theorem Kx (m:Nat) (cs bs:List (List Int)):Sh (cs.length:Int) (m:Int) (spls m bs cs):=⟨by rw [yz],fun c c0 c1=>by
 obtain ⟨X,h⟩:=Jt m cs bs c0 c1
 rw [h]; unfold spl; rw [jX]⟩
theorem Kk (m:Nat) (cs bs:List (List Int)):Rgs (cs.length:Int) (m:Int) (spls m bs cs):=fun i b i0 i1 b0 b1=>by
 obtain ⟨X,h⟩:=Jt m cs bs i0 i1
 rw [h]
 have e:at' (spl m (hP m) (tuP m) X) b=ov m (tuP m) (kg (yv m (hP m) X) (2*m)) b.toNat:=by
  show (kg _ _).getD b.toNat 0=_
  rw [List.getD_eq_getElem?_getD,Vr _ (by omega)]; rfl
 rw [e]
 exact WM _
theorem KA {m:Nat} (hm:m=4\/m=8) (bs:List (List Int)) {s:List Int} (hs:s.length=m) :
  wq 5000 s (m:Int) (hP m) (tuP m) (stt m bs)=some (spl m (hP m) (tuP m) (stt m (bs++[s])),0,stt m (bs++[s])):=by
 obtain ⟨hh,ht,_,_⟩:=U9 m hm
 have:=HU 5000 m (by decide) hm s (hP m) (tuP m) (stt m bs) hs hh ht (GV _ _)
 rw [H8 m bs s hs] at this; exact this
def chn (C n c:Nat) (e:List Int):List Int:=kg (fun i=>e.getD (i*C+c) 0) n
theorem yk (C n c:Nat) (e:List Int):(chn C n c e).length=n:=jX _ _
theorem X0 (C n c:Nat) (e:List Int):chn C (n+1) c e=chn C n c e++[e.getD (n*C+c) 0]:=yG _ _
theorem gD {e:List Int} {n:Nat} (hn:n<=600) (he:e.length=n):Ok (fun r=>r=([chn 1 n 0 e],0)) (kQ 5000 e 1):=by
 have h1:Int.tmod (e.length:Int) 1=0:=Int.tmod_one _
 have key:Ok (fun r=>r=[chn 1 n 0 e]) (kQ.l0 5000 1 e (e.length:Int) 5000 0 [[]]):=by
  unfold kQ.l0
  refine wu (fun b a=>0<=b/\b<=(n:Int)/\a=[chn 1 b.toNat 0 e]) (fun b _=>((n:Int)-b).toNat) _ ?_ 5000 _ _ ⟨by omega,by omega,rfl⟩ (by omega)
  rintro next b a ⟨g1,g2,rfl⟩ ih
  refine Ok.ite (fun d=>?_) (fun d=>Ok.some (by have:=df d; rw [show b.toNat=n by omega]))
  have d:=dt d
  have ez:Int.tmod b 1=0:=Int.tmod_one _
  have el:=yk 1 b.toNat 0 e
  have e1:=kw1 (x:=b) (by omega) (by omega)
  dsimp only
  rw [ez,e1]
  refine Ok.gd ⟨g1,by omega⟩ (Ok.gd (by decide) (Ok.gd (by decide) (Ok.gd ⟨by decide,by simp⟩ (Ok.gd (by simp) (Ok.gd ?_ (Ok.gd ⟨by decide,by simp⟩ (Ok.gd (by simp) ?_)))))))
  ·show (((chn 1 b.toNat 0 e).length:Int)+1)*2<=_
   omega
  ·refine ih _ _ ⟨by omega,by omega,?_⟩ (by omega)
   rw [show (b+1).toNat=b.toNat+1 by omega,X0,Nat.mul_one,Nat.add_zero]; rfl
 refine Ok.gd (fun _=>by decide) (Ok.ite (fun c=>?_) (fun _=>Ok.gd ⟨by decide,by decide,by decide⟩ (Ok.bind key (fun r hr=>Ok.some (by rw [hr])))))
 rw [h1] at c; cases c
theorem Gr {e:List Int} {n:Nat} (hn:n<=600) (he:e.length=2*n):Ok (fun r=>r=([chn 2 n 0 e,chn 2 n 1 e],0)) (kQ 5000 e 2):=by
 have h1:Int.tmod (e.length:Int) 2=0:=by rw [Int.tmod_eq_emod_of_nonneg (by omega)]; omega
 have key:Ok (fun r=>r=[chn 2 n 0 e,chn 2 n 1 e]) (kQ.l0 5000 2 e (e.length:Int) 5000 0 [[],[]]):=by
  unfold kQ.l0
  refine wu (fun b a=>∃ k:Nat,k<=n/\((b=((2*k:Nat):Int)/\a=[chn 2 k 0 e,chn 2 k 1 e])\/(k<n/\b=((2*k+1:Nat):Int)/\a=[chn 2 (k+1) 0 e,chn 2 k 1 e]))) (fun b _=>(((2*n:Nat):Int)-b).toNat) _ ?_ 5000 _ _ ⟨0,by omega,.inl ⟨rfl,rfl⟩⟩ (by omega)
  rintro next b a ⟨k,hk,⟨rfl,rfl⟩ | ⟨hk1,rfl,rfl⟩⟩ ih
  ·refine Ok.ite (fun d=>?_) (fun d=>Ok.some (by have:=df d; rw [show k=n by omega]))
   have d:=dt d
   have ez:Int.tmod ((2*k:Nat):Int) 2=0:=by rw [Int.tmod_eq_emod_of_nonneg (by omega)]; omega
   have el:=yk 2 k 0 e
   have e1:wa .i64 (((2*k:Nat):Int)+1)=((2*k+1:Nat):Int):=by rw [kw1 (by omega) (by omega)]; rfl
   dsimp only
   rw [ez,e1]
   refine Ok.gd ⟨by omega,by omega⟩ (Ok.gd (by decide) (Ok.gd (by decide) (Ok.gd ⟨by decide,by simp⟩ (Ok.gd (by simp) (Ok.gd ?_ (Ok.gd ⟨by decide,by simp⟩ (Ok.gd (by simp) ?_)))))))
   ·show (((chn 2 k 0 e).length:Int)+1)*2<=_
    omega
   ·refine ih _ _ ⟨k,hk,.inr ⟨by omega,rfl,?_⟩⟩ (by omega)
    rw [X0,Nat.mul_comm k 2,Nat.add_zero]; rfl
  ·refine Ok.ite (fun d=>?_) (fun d=>by have:=df d; omega)
   have d:=dt d
   have ez:Int.tmod ((2*k+1:Nat):Int) 2=1:=by rw [Int.tmod_eq_emod_of_nonneg (by omega)]; omega
   have el:=yk 2 k 1 e
   have e1:wa .i64 (((2*k+1:Nat):Int)+1)=((2*(k+1):Nat):Int):=by rw [kw1 (by omega) (by omega)]; omega
   dsimp only
   rw [ez,e1]
   refine Ok.gd ⟨by omega,by omega⟩ (Ok.gd (by decide) (Ok.gd (by decide) (Ok.gd ⟨by decide,by simp⟩ (Ok.gd (by simp) (Ok.gd ?_ (Ok.gd ⟨by decide,by simp⟩ (Ok.gd (by simp) ?_)))))))
   ·show (((chn 2 k 1 e).length:Int)+1)*2<=_
    omega
   ·refine ih _ _ ⟨k+1,by omega,.inl ⟨rfl,?_⟩⟩ (by omega)
    rw [X0 2 k 1,Nat.mul_comm k 2]; rfl
 refine Ok.gd (fun _=>by decide) (Ok.ite (fun c=>?_) (fun _=>Ok.gd ⟨by decide,by decide,by decide⟩ (Ok.bind key (fun r hr=>Ok.some (by rw [hr])))))
 rw [h1] at c; cases c
end Go.Fo
