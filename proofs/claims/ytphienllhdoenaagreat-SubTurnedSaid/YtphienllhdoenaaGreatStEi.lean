/- Frames that come back. -/
import Derived.Test.YtphienllhdoenaaGreatStEh
namespace Go.Fo
set_option maxRecDepth 6000
def Fx (p0 p1 p2 p3 p4 p5 p6 p7 p8 p9 : Int) (b : List Int) : Prop:=∃ J S Q C B z s,Shr p0 p1 p2 p3 p4 p5 p6 p7 p8 p9 S C B z ∧ PV p0 p1 p2 p3 p4 p5 p6 p7 p8 p9 J S Q (rw_ C B z) ∧ (0 ≤ s ∧ s < 256) ∧ subband_Params_sum 5000 p0 p1 p2 p3 p4 p5 p6 p7 p8 p9 J S Q = some s ∧ b = pk (payZ p2 p3 p4 p6 p7).toNat (bns (frL p1 p2 p3 p4 p5 p6 p7 s J S Q (rw_ C B z)))
theorem fx_of (p0 p1 p2 p3 p4 p5 p6 p7 p8 p9 : Int) {J : List Int} {S : List (List Int)} {Q : List (List (List Int))} {C B : Nat} {z : Int → Int} (h : Shr p0 p1 p2 p3 p4 p5 p6 p7 p8 p9 S C B z) (hv : PV p0 p1 p2 p3 p4 p5 p6 p7 p8 p9 J S Q (rw_ C B z)) : Ok (fun r=>∃ b,r = .inr b ∧ Fx p0 p1 p2 p3 p4 p5 p6 p7 p8 p9 b) (subband_Pack 5000 p0 p1 p2 p3 p4 p5 p6 p7 p8 p9 J S Q):=by
 obtain ⟨s,hs,hsum,hp⟩:=pack_w p0 p1 p2 p3 p4 p5 p6 p7 p8 p9 h hv
 exact ⟨_,hp,_,rfl,J,S,Q,C,B,z,s,h,hv,hs,hsum,rfl⟩
theorem mulk {m k : Int} (hm : m = 4 ∨ m = 8) (h0 : 0 ≤ k) (h1 : k ≤ 100) : m * (k + 1) = m * k + m ∧ 0 ≤ m * k ∧ m * k ≤ 800:=by rcases hm with rfl | rfl <;> omega
theorem mlt {m k p : Int} (hm : m = 4 ∨ m = 8) (h : m * k < m * p) : k < p:=by rcases hm with rfl | rfl <;> omega
theorem mle {m k p : Int} (hm : m = 4 ∨ m = 8) (h : k < p) : m * k + m ≤ m * p:=by rcases hm with rfl | rfl <;> omega
theorem seg_len {l : List Int} {y m : Int} (hy : 0 ≤ y) (hm : 0 ≤ m) (h : y + m ≤ (l.length : Int)) : (((l.take (Int.toNat (y + m))).drop (Int.toNat y)).length : Int) = m:=by
 rw [List.length_drop,List.length_take]; omega
theorem feed2_ok (p0 p1 p3 p4 p5 p6 p7 p8 p9 : Int) (hm : may0 p0 p1 1 p3 p4 p5 p6 p7 p8 p9) {x h turn V : List Int} (hx : (x.length : Int) = p3 * p4) (hh : (h.length : Int) = 10 * p3) (ht : (turn.length : Int) = 8 * p3) (hV : (V.length : Int) = 10 * p3) :
  Ok (fun r=>∃ V b,r = .inr (V,b) ∧ Fx p0 p1 1 p3 p4 p5 p6 p7 p8 p9 b) (subband_Encoder_Feed_2 5000 x p0 p1 1 p3 p4 p5 p6 p7 p8 p9 p3 h turn V):=by
 have h3 : p3 = 4 ∨ p3 = 8:=hm.1.2.2.2.2.1
 have h4 : p4 = 4 ∨ p4 = 8 ∨ p4 = 12 ∨ p4 = 16:=hm.1.2.2.2.2.2.1
 have hn : 16 ≤ p3 * p4 ∧ p3 * p4 ≤ 128:=by rcases h3 with rfl | rfl <;> rcases h4 with rfl | rfl | rfl | rfl <;> decide
 have e1 : kwrap .i64 (kwrap .i64 (1 * p3) * p4) = p3 * p4:=by rw [Int.one_mul,kw64 (x:=p3) (by omega) (by omega),kw64 (by omega) (by omega)]
 unfold subband_Encoder_Feed_2
 dsimp only
 rw [e1]
 refine Ok.ite (fun c=>by rw [hx,bne_self_eq_false] at c; cases c) (fun _=>?_)
 refine Ok.bind (part_ok (C:=1) (n:=p3 * p4) (.inl rfl) (by rw [hx,Int.mul_one]) (by omega) (by omega)) ?_
 rintro ⟨L,le⟩ ⟨_,hL⟩
 have hL : Sh 1 (p3 * p4) L:=hL
 have hL1 : (L.length : Int) = 1:=hL.1
 refine Ok.gd ⟨by decide,by decide,by decide⟩ (Ok.bind (Q:=fun r=>(r.1.length : Int) = 10 * p3 ∧ Cd 1 p4 p3 r.2) ?_ ?_)
 ·unfold subband_Encoder_Feed_2.l0
  refine rounds_ok3 (fun c V X=>0 ≤ c ∧ c ≤ 1 ∧ (V.length : Int) = 10 * p3 ∧ PC 1 p4 p3 c 0 X) (fun c _ _=>(1 - c).toNat) _ ?_ 5000 _ _ _ ⟨by omega,by omega,hV,PC.rep (by omega)⟩ (by omega)
  rintro next c V X ⟨g1,g2,g3,g4⟩ ih
  refine Ok.ite (fun d=>?_) (fun d=>Ok.some ⟨g3,?_⟩)
  ·have d : c < (L.length : Int):=dt d
   have hc : c = 0:=by omega
   subst hc
   have hrow:=hL.2 0 (by omega) (by omega)
   refine Ok.gd ⟨by omega,d⟩ (Ok.bind (Q:=fun r=>r.1 = 0 ∧ (r.2.1.length : Int) = 10 * p3 ∧ PC 1 p4 p3 0 p4 r.2.2) ?_ ?_)
   ·unfold subband_Encoder_Feed_2.l1
    refine rounds_ok4 (fun a y V X=>a = 0 ∧ (V.length : Int) = 10 * p3 ∧ ∃ k,0 ≤ k ∧ k ≤ p4 ∧ y = p3 * k ∧ PC 1 p4 p3 0 k X) (fun _ y _ _=>(1000 - y).toNat) _ ?_ 5000 _ _ _ _ ⟨rfl,g3,0,by omega,by omega,by rw [Int.mul_zero],g4⟩ (by omega)
    rintro next2 a y V X ⟨rfl,f1,k,f2,f3,rfl,f4⟩ ih2
    obtain ⟨k1,k2,k3⟩:=mulk h3 f2 (show k ≤ 100 by omega)
    refine Ok.ite (fun d2=>?_) (fun d2=>Ok.some ⟨rfl,f1,?_⟩)
    ·have d2 : p3 * k < ((row L 0).length : Int):=dt d2
     have hk:=mlt h3 (show p3 * k < p3 * p4 by omega)
     have hk2:=mle h3 hk
     have e2 : kwrap .i64 (p3 * k + p3) = p3 * k + p3:=kw64 (by omega) (by omega)
     have hX:=f4.1
     have hXl:=f4.len (by omega) (by omega)
     refine Ok.ite (fun _=>?_) (fun h=>by cases h)
     dsimp only
     rw [e2]
     refine Ok.gd ⟨k2,by omega,by show _ ≤ ((row L 0).length : Int); omega⟩ (Ok.bind (sfeed_ok h3 (seg_len (l:=row L 0) k2 (by omega) (by omega)) hh ht f1) ?_)
     rintro ⟨r,e,V'⟩ ⟨hr,hV'⟩
     refine Ok.gd ⟨by omega,by omega,by show (((X.getD (Int.toNat 0) []).length : Int) + 1) * 24 ≤ _; omega,by omega,by omega⟩ ?_
     exact ih2 _ _ _ _ ⟨rfl,hV',k + 1,by omega,by omega,k1.symm,f4.app (by omega) (by omega) hr⟩ (by omega)
    ·have d2 : ¬ p3 * k < ((row L 0).length : Int):=df d2
     have : k = p4:=by
      have : ¬ k < p4:=fun h=>by have:=mle h3 h; omega
      omega
     subst this
     exact f4
   ·rintro ⟨a,V',X'⟩ ⟨ha,hV',hX'⟩
    have ha : a = 0:=ha
    subst ha
    exact ih _ _ _ ⟨by decide,by decide,hV',PC.nxt hX'⟩ (by decide)
  ·have d : ¬ c < (L.length : Int):=df d
   have : c = 1:=by omega
   subst this
   exact g4.all
 ·rintro ⟨V',X⟩ ⟨hV',hX⟩
  refine Ok.bind (analyse_ok p0 p1 1 p3 p4 p5 p6 p7 p8 p9 hm hX) ?_
  rintro ⟨J,S,Q,e⟩ ⟨_,C,B,z,hS,hP⟩
  refine Ok.bind (fx_of p0 p1 1 p3 p4 p5 p6 p7 p8 p9 hS hP) ?_
  rintro _ ⟨b,rfl,hf⟩
  exact Ok.some ⟨V',b,rfl,hf⟩
end Go.Fo
