/- Frames that come back. -/
import Derived.Test.YtphienllhdoenaaGreatSbEh
namespace Go.Fo
set_option maxRecDepth 6000
theorem pad_ok (b : Int) (h0 : 0 ≤ b) (h1 : b ≤ 9000) : Ok (fun r=>r = 8 * ((b + 7) / 8)) (psalteryref11_Payload.l0 5000 5000 b):=by
 unfold psalteryref11_Payload.l0
 refine rounds_ok1 (fun x=>b ≤ x ∧ x ≤ 8 * ((b + 7) / 8)) (fun x=>(8 * ((b + 7) / 8) - x).toNat) _ ?_ 5000 _ ⟨by omega,by omega⟩ (by omega)
 rintro next x ⟨g1,g2⟩ ih
 refine Ok.ite (fun d=>?_) (fun d=>Ok.some ?_)
 ·have d : Int.tmod x 8 ≠ 0:=by simpa using d
  rw [Int.tmod_eq_emod_of_nonneg (by omega)] at d
  have e:=kw1 (x:=x) (by omega) (by omega)
  exact ih _ ⟨by omega,by omega⟩ (by omega)
 ·have d : Int.tmod x 8 = 0:=by simpa using d
  rw [Int.tmod_eq_emod_of_nonneg (by omega)] at d
  omega
theorem refpay_ok (p0 p1 p2 p3 p4 p5 p6 p7 p8 p9 : Int) (h : subP p0 p1 p2 p3 p4 p5 p6 p7 p8 p9) : Ok (fun r=>r = payZ p2 p3 p4 p6 p7) (psalteryref11_Payload 5000 p0 p1 p2 p3 p4 p5 p6 p7 p8 p9):=by
 have hb:=bitsZ_in p0 p1 p2 p3 p4 p5 p6 p7 p8 p9 h
 obtain ⟨q1,q2,q3,q4,q5,q6,q7,q8,_⟩:=prods p0 p1 p2 p3 p4 p5 p6 p7 p8 p9 h
 have h0:=h.1
 have h2 : p2 = 1 ∨ p2 = 2:=h.2.2.2.1
 have h6 : p6 = 0 ∨ (p6 = 1 ∧ p2 = 2):=h.2.2.2.2.2.2.2.1
 have e : (p0 == 2) = false:=by rw [h0]; rfl
 refine Ok.ite (fun c=>by rw [e] at c; cases c) (fun _=>Ok.bind (Q:=fun r=>r = bitsZ p2 p3 p4 p6 p7) ?_ ?_)
 ·refine Ok.ite (fun c=>by rw [e] at c; cases c) (fun _=>?_)
  dsimp only
  rw [kw64 (x:=p4 * p7) (by omega) (by omega),kw64 (x:=32 + p4 * p7) (by omega) (by omega)]
  refine Ok.bind (Q:=fun r=>r = 32 + p4 * p7 + 4 * p3 * p2) ?_ ?_
  ·unfold psalteryref11_Bits.l0
   refine rounds_ok2 (fun x c=>0 ≤ c ∧ c ≤ p2 ∧ x = 32 + p4 * p7 + 4 * p3 * c) (fun _ c=>(p2 - c).toNat) _ ?_ 5000 _ _ ⟨by omega,by omega,by rw [Int.mul_zero,Int.add_zero]⟩ (by omega)
   rintro next x c ⟨g1,g2,g3⟩ ih
   refine Ok.ite (fun d=>?_) (fun d=>Ok.some ?_)
   ·have d:=dt d
    have hm : 4 * p3 * (c + 1) = 4 * p3 * c + 4 * p3:=by rw [Int.mul_add,Int.mul_one]
    have hc : c = 0 ∨ c = 1:=by omega
    have e1 : kwrap .i64 (4 * p3) = 4 * p3:=kw64 (by omega) (by omega)
    have e2 : kwrap .i64 (x + 4 * p3) = x + 4 * p3:=by rcases hc with rfl | rfl <;> exact kw64 (by omega) (by omega)
    have e3:=kw1 (x:=c) (by omega) (by omega)
    dsimp only
    rw [e1,e2,e3]
    exact ih _ _ ⟨by omega,by omega,by rw [hm]; omega⟩ (by omega)
   ·have d:=df d
    have : c = p2:=by omega
    rw [g3,this]
  ·rintro _ rfl
   refine Ok.bind (Q:=fun r=>r = bitsZ p2 p3 p4 p6 p7) (Ok.ite (fun c=>?_) (fun c=>?_)) (fun r hr=>Ok.some hr)
   ·have c : p6 = 1:=by simpa using c
    refine Ok.some ?_
    show kwrap .i64 (32 + p4 * p7 + 4 * p3 * p2 + p3) = _
    unfold bitsZ
    rw [kw64 (by omega) (by omega),c,Int.one_mul]; omega
   ·have c : ¬ p6 = 1:=by simpa using c
    refine Ok.some ?_
    have : p6 = 0:=by omega
    unfold bitsZ
    rw [this,Int.zero_mul]; omega
 ·rintro _ rfl
  refine Ok.bind (pad_ok _ (by omega) (by omega)) ?_
  rintro _ rfl
  refine Ok.some ?_
  show kwrap .i64 (Int.tdiv (8 * ((bitsZ p2 p3 p4 p6 p7 + 7) / 8)) 8) = _
  rw [Int.tdiv_eq_ediv_of_nonneg (by omega),kw64 (by omega) (by omega)]
  unfold payZ; omega
def Fr (p0 p1 p2 p3 p4 p5 p6 p7 p8 p9 : Int) (b : List Int) : Prop:=(b.length : Int) = payZ p2 p3 p4 p6 p7 ∧ ∃ J S Q X,subband_Parse 5000 p0 p1 p2 p3 p4 p5 p6 p7 p8 p9 b = some (J,S,Q,0) ∧ subband_Pack 5000 p0 p1 p2 p3 p4 p5 p6 p7 p8 p9 J S Q = some (b,0) ∧ subband_Planes 5000 p0 p1 p2 p3 p4 p5 p6 p7 p8 p9 J S Q = some (X,0) ∧ (X.length : Int) = p2
theorem fr_of (p0 p1 p2 p3 p4 p5 p6 p7 p8 p9 : Int) {J : List Int} {S : List (List Int)} {Q : List (List (List Int))} {C B : Nat} {z : Int → Int} (h : Shr p0 p1 p2 p3 p4 p5 p6 p7 p8 p9 S C B z) (hv : PV p0 p1 p2 p3 p4 p5 p6 p7 p8 p9 J S Q (rw_ C B z)) : Ok (fun r=>r.2 = 0 ∧ Fr p0 p1 p2 p3 p4 p5 p6 p7 p8 p9 r.1) (subband_Pack 5000 p0 p1 p2 p3 p4 p5 p6 p7 p8 p9 J S Q):=by
 have hm:=h.hf.1
 have h3 : p3 = 4 ∨ p3 = 8:=hm.1.2.2.2.2.1
 have h4 : p4 = 4 ∨ p4 = 8 ∨ p4 = 12 ∨ p4 = 16:=hm.1.2.2.2.2.2.1
 obtain ⟨s,_,hp⟩:=pack_w p0 p1 p2 p3 p4 p5 p6 p7 p8 p9 h hv
 generalize pk (payZ p2 p3 p4 p6 p7).toNat (bns (frL p1 p2 p3 p4 p5 p6 p7 s J S Q (rw_ C B z))) = b at hp
 obtain ⟨hl,⟨_,hpa,rfl⟩⟩:=parse_w p0 p1 p2 p3 p4 p5 p6 p7 p8 p9 h hv hp
 obtain ⟨r,hpk,_,hval⟩:=pack_ok p0 p1 p2 p3 p4 p5 p6 p7 p8 p9 J S Q hm (by have:=hv.1.1; omega) (by have:=hv.2.2.1.1; omega)
 rw [hp] at hpk
 injection hpk with hpk
 subst hpk
 obtain ⟨sh,hV,hS⟩:=hval rfl
 obtain ⟨⟨X,xe⟩,hpl,hx0,hX⟩:=planes_ok p0 p1 p2 p3 p4 p5 p6 p7 p8 p9 hm hV hS
 have hx0 : xe = 0:=hx0
 subst hx0
 exact ⟨(b,0),hp,rfl,hl,J,S,Q,X,hpa,hp,hpl,hX.1⟩
theorem mulk {m k : Int} (hm : m = 4 ∨ m = 8) (h0 : 0 ≤ k) (h1 : k ≤ 100) : m * (k + 1) = m * k + m ∧ 0 ≤ m * k ∧ m * k ≤ 800:=by rcases hm with rfl | rfl <;> omega
theorem mlt {m k p : Int} (hm : m = 4 ∨ m = 8) (h : m * k < m * p) : k < p:=by rcases hm with rfl | rfl <;> omega
theorem mle {m k p : Int} (hm : m = 4 ∨ m = 8) (h : k < p) : m * k + m ≤ m * p:=by rcases hm with rfl | rfl <;> omega
theorem seg_len {l : List Int} {y m : Int} (hy : 0 ≤ y) (hm : 0 ≤ m) (h : y + m ≤ (l.length : Int)) : (((l.take (Int.toNat (y + m))).drop (Int.toNat y)).length : Int) = m:=by
 rw [List.length_drop,List.length_take]; omega
theorem feed2_ok (p0 p1 p3 p4 p5 p6 p7 p8 p9 : Int) (hm : may0 p0 p1 1 p3 p4 p5 p6 p7 p8 p9) {x h turn V : List Int} (hx : (x.length : Int) = p3 * p4) (hh : (h.length : Int) = 10 * p3) (ht : (turn.length : Int) = 8 * p3) (hV : (V.length : Int) = 10 * p3) :
  Ok (fun r=>r.2.1 = 0 ∧ (r.2.2.length : Int) = 10 * p3 ∧ Fr p0 p1 1 p3 p4 p5 p6 p7 p8 p9 r.1) (subband_Encoder_Feed_2 5000 x p0 p1 1 p3 p4 p5 p6 p7 p8 p9 p3 h turn V):=by
 have h3 : p3 = 4 ∨ p3 = 8:=hm.1.2.2.2.2.1
 have h4 : p4 = 4 ∨ p4 = 8 ∨ p4 = 12 ∨ p4 = 16:=hm.1.2.2.2.2.2.1
 have hn : 16 ≤ p3 * p4 ∧ p3 * p4 ≤ 128:=by rcases h3 with rfl | rfl <;> rcases h4 with rfl | rfl | rfl | rfl <;> decide
 have e1 : kwrap .i64 (kwrap .i64 (1 * p3) * p4) = p3 * p4:=by rw [Int.one_mul,kw64 (x:=p3) (by omega) (by omega),kw64 (by omega) (by omega)]
 unfold subband_Encoder_Feed_2
 dsimp only
 rw [e1]
 refine Ok.ite (fun c=>by rw [hx,bne_self_eq_false] at c; cases c) (fun _=>?_)
 refine Ok.bind (part_ok (C:=1) (n:=p3 * p4) (.inl rfl) (by rw [hx,Int.mul_one]) (by omega) (by omega)) ?_
 rintro ⟨L,le⟩ ⟨_,hL⟩
 have hL : Sh 1 (p3 * p4) L:=hL
 have hL1 : (L.length : Int) = 1:=hL.1
 refine Ok.gd ⟨by decide,by decide,by decide⟩ (Ok.bind (Q:=fun r=>(r.1.length : Int) = 10 * p3 ∧ Cd 1 p4 p3 r.2) ?_ ?_)
 ·unfold subband_Encoder_Feed_2.l0
  refine rounds_ok3 (fun c V X=>0 ≤ c ∧ c ≤ 1 ∧ (V.length : Int) = 10 * p3 ∧ PC 1 p4 p3 c 0 X) (fun c _ _=>(1 - c).toNat) _ ?_ 5000 _ _ _ ⟨by omega,by omega,hV,PC.rep (by omega)⟩ (by omega)
  rintro next c V X ⟨g1,g2,g3,g4⟩ ih
  refine Ok.ite (fun d=>?_) (fun d=>Ok.some ⟨g3,?_⟩)
  ·have d : c < (L.length : Int):=dt d
   have hc : c = 0:=by omega
   subst hc
   have hrow:=hL.2 0 (by omega) (by omega)
   refine Ok.gd ⟨by omega,d⟩ (Ok.bind (Q:=fun r=>r.1 = 0 ∧ (r.2.1.length : Int) = 10 * p3 ∧ PC 1 p4 p3 0 p4 r.2.2) ?_ ?_)
   ·unfold subband_Encoder_Feed_2.l1
    refine rounds_ok4 (fun a y V X=>a = 0 ∧ (V.length : Int) = 10 * p3 ∧ ∃ k,0 ≤ k ∧ k ≤ p4 ∧ y = p3 * k ∧ PC 1 p4 p3 0 k X) (fun _ y _ _=>(1000 - y).toNat) _ ?_ 5000 _ _ _ _ ⟨rfl,g3,0,by omega,by omega,by rw [Int.mul_zero],g4⟩ (by omega)
    rintro next2 a y V X ⟨rfl,f1,k,f2,f3,rfl,f4⟩ ih2
    obtain ⟨k1,k2,k3⟩:=mulk h3 f2 (show k ≤ 100 by omega)
    refine Ok.ite (fun d2=>?_) (fun d2=>Ok.some ⟨rfl,f1,?_⟩)
    ·have d2 : p3 * k < ((row L 0).length : Int):=dt d2
     have hk:=mlt h3 (show p3 * k < p3 * p4 by omega)
     have hk2:=mle h3 hk
     have e2 : kwrap .i64 (p3 * k + p3) = p3 * k + p3:=kw64 (by omega) (by omega)
     have hX:=f4.1
     have hXl:=f4.len (by omega) (by omega)
     refine Ok.ite (fun _=>?_) (fun h=>by cases h)
     dsimp only
     rw [e2]
     refine Ok.gd ⟨k2,by omega,by show _ ≤ ((row L 0).length : Int); omega⟩ (Ok.bind (sfeed_ok h3 (seg_len (l:=row L 0) k2 (by omega) (by omega)) hh ht f1) ?_)
     rintro ⟨r,e,V'⟩ ⟨hr,hV'⟩
     refine Ok.gd ⟨by omega,by omega,by show (((X.getD (Int.toNat 0) []).length : Int) + 1) * 24 ≤ _; omega,by omega,by omega⟩ ?_
     exact ih2 _ _ _ _ ⟨rfl,hV',k + 1,by omega,by omega,k1.symm,f4.app (by omega) (by omega) hr⟩ (by omega)
    ·have d2 : ¬ p3 * k < ((row L 0).length : Int):=df d2
     have : k = p4:=by
      have : ¬ k < p4:=fun h=>by have:=mle h3 h; omega
      omega
     subst this
     exact f4
   ·rintro ⟨a,V',X'⟩ ⟨ha,hV',hX'⟩
    have ha : a = 0:=ha
    subst ha
    exact ih _ _ _ ⟨by decide,by decide,hV',PC.nxt hX'⟩ (by decide)
  ·have d : ¬ c < (L.length : Int):=df d
   have : c = 1:=by omega
   subst this
   exact g4.all
 ·rintro ⟨V',X⟩ ⟨hV',hX⟩
  refine Ok.bind (analyse_ok p0 p1 1 p3 p4 p5 p6 p7 p8 p9 hm hX) ?_
  rintro ⟨J,S,Q,e⟩ ⟨_,C,B,z,hS,hP⟩
  refine Ok.bind (fr_of p0 p1 1 p3 p4 p5 p6 p7 p8 p9 hS hP) ?_
  rintro ⟨b,be⟩ ⟨hb,hf⟩
  exact Ok.some ⟨hb,hV',hf⟩
end Go.Fo
