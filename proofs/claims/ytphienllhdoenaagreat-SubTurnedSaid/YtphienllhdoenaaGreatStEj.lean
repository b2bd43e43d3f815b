/- The law. -/
import Derived.Test.YtphienllhdoenaaGreatStEi
namespace Go.Fo
set_option maxRecDepth 6000
theorem feed3_ok (p0 p1 p3 p4 p5 p6 p7 p8 p9 : Int) (hm : may0 p0 p1 2 p3 p4 p5 p6 p7 p8 p9) {x h turn h' turn' V1 V2 : List Int} (hx : (x.length : Int) = 2 * p3 * p4) (hh : (h.length : Int) = 10 * p3) (ht : (turn.length : Int) = 8 * p3) (hh' : (h'.length : Int) = 10 * p3) (ht' : (turn'.length : Int) = 8 * p3) (hV1 : (V1.length : Int) = 10 * p3) (hV2 : (V2.length : Int) = 10 * p3) :
  Ok (fun r=>∃ V W b,r = .inr (V,W,b) ∧ Fx p0 p1 2 p3 p4 p5 p6 p7 p8 p9 b) (subband_Encoder_Feed_3 5000 x p0 p1 2 p3 p4 p5 p6 p7 p8 p9 p3 h turn p3 h' turn' V1 V2):=by
 have h3 : p3 = 4 ∨ p3 = 8:=hm.1.2.2.2.2.1
 have h4 : p4 = 4 ∨ p4 = 8 ∨ p4 = 12 ∨ p4 = 16:=hm.1.2.2.2.2.2.1
 have hn : 16 ≤ p3 * p4 ∧ p3 * p4 ≤ 128 ∧ 2 * p3 * p4 = p3 * p4 * 2:=by rcases h3 with rfl | rfl <;> rcases h4 with rfl | rfl | rfl | rfl <;> decide
 have e1 : kwrap .i64 (kwrap .i64 (2 * p3) * p4) = 2 * p3 * p4:=by rw [kw64 (x:=2 * p3) (by omega) (by omega),kw64 (by omega) (by omega)]
 unfold subband_Encoder_Feed_3
 dsimp only
 rw [e1]
 refine Ok.ite (fun c=>by rw [hx,bne_self_eq_false] at c; cases c) (fun _=>?_)
 refine Ok.bind (part_ok (C:=2) (n:=p3 * p4) (.inr rfl) (by rw [hx]; exact hn.2.2) (by omega) (by omega)) ?_
 rintro ⟨L,le⟩ ⟨_,hL⟩
 have hL : Sh 2 (p3 * p4) L:=hL
 have hL1 : (L.length : Int) = 2:=hL.1
 refine Ok.gd ⟨by decide,by decide,by decide⟩ (Ok.bind (Q:=fun r=>(r.1.length : Int) = 10 * p3 ∧ (r.2.1.length : Int) = 10 * p3 ∧ Cd 2 p4 p3 r.2.2) ?_ ?_)
 ·unfold subband_Encoder_Feed_3.l0
  refine rounds_ok4 (fun c V W X=>0 ≤ c ∧ c ≤ 2 ∧ (V.length : Int) = 10 * p3 ∧ (W.length : Int) = 10 * p3 ∧ PC 2 p4 p3 c 0 X) (fun c _ _ _=>(2 - c).toNat) _ ?_ 5000 _ _ _ _ ⟨by omega,by omega,hV1,hV2,PC.rep (by omega)⟩ (by omega)
  rintro next c V W X ⟨g1,g2,g3,g4,g5⟩ ih
  refine Ok.ite (fun d=>?_) (fun d=>Ok.some ⟨g3,g4,?_⟩)
  ·have d : c < (L.length : Int):=dt d
   have hc : c = 0 ∨ c = 1:=by omega
   have hrow:=hL.2 c (by omega) (by omega)
   refine Ok.gd ⟨by omega,d⟩ (Ok.bind (Q:=fun r=>r.1 = c ∧ (r.2.1.length : Int) = 10 * p3 ∧ (r.2.2.1.length : Int) = 10 * p3 ∧ PC 2 p4 p3 c p4 r.2.2.2) ?_ ?_)
   ·unfold subband_Encoder_Feed_3.l1
    refine rounds_ok5 (fun a y V W X=>a = c ∧ (V.length : Int) = 10 * p3 ∧ (W.length : Int) = 10 * p3 ∧ ∃ k,0 ≤ k ∧ k ≤ p4 ∧ y = p3 * k ∧ PC 2 p4 p3 c k X) (fun _ y _ _ _=>(1000 - y).toNat) _ ?_ 5000 _ _ _ _ _ ⟨rfl,g3,g4,0,by omega,by omega,by rw [Int.mul_zero],g5⟩ (by omega)
    rintro next2 a y V W X ⟨rfl,f1,f1',k,f2,f3,rfl,f4⟩ ih2
    obtain ⟨k1,k2,k3⟩:=mulk h3 f2 (show k ≤ 100 by omega)
    refine Ok.ite (fun d2=>?_) (fun d2=>Ok.some ⟨rfl,f1,f1',?_⟩)
    ·have d2 : p3 * k < ((row L a).length : Int):=dt d2
     have hk:=mlt h3 (show p3 * k < p3 * p4 by omega)
     have hk2:=mle h3 hk
     have e2 : kwrap .i64 (p3 * k + p3) = p3 * k + p3:=kw64 (by omega) (by omega)
     have hX:=f4.1
     have hXl:=f4.len (by omega) (by omega)
     have hsl:=seg_len (l:=row L a) (y:=p3 * k) (m:=p3) k2 (by omega) (by omega)
     refine Ok.bind (Q:=fun r=>r.1 = a ∧ (r.2.1.length : Int) = 10 * p3 ∧ (r.2.2.1.length : Int) = 10 * p3 ∧ PC 2 p4 p3 a (k + 1) r.2.2.2) ?_ ?_
     ·rcases hc with rfl | rfl
      ·refine Ok.ite (fun _=>?_) (fun h=>by cases h)
       dsimp only
       rw [e2]
       refine Ok.gd ⟨k2,by omega,by show _ ≤ ((row L 0).length : Int); omega⟩ (Ok.bind (sfeed_ok h3 hsl hh ht f1) ?_)
       rintro ⟨r,e,V'⟩ ⟨hr,hV'⟩
       exact Ok.gd ⟨by omega,by omega,by show (((X.getD (Int.toNat 0) []).length : Int) + 1) * 24 ≤ _; omega,by omega,by omega⟩ (Ok.some ⟨rfl,hV',f1',f4.app (by omega) (by omega) hr⟩)
      ·refine Ok.ite (fun h=>by cases h) (fun _=>Ok.ite (fun _=>?_) (fun h=>by cases h))
       dsimp only
       rw [e2]
       refine Ok.gd ⟨k2,by omega,by show _ ≤ ((row L 1).length : Int); omega⟩ (Ok.bind (sfeed_ok h3 hsl hh' ht' f1') ?_)
       rintro ⟨r,e,V'⟩ ⟨hr,hV'⟩
       exact Ok.gd ⟨by omega,by omega,by show (((X.getD (Int.toNat 1) []).length : Int) + 1) * 24 ≤ _; omega,by omega,by omega⟩ (Ok.some ⟨rfl,f1,hV',f4.app (by omega) (by omega) hr⟩)
     ·rintro ⟨a',V',W',X'⟩ ⟨q1,q2,q3,q4⟩
      have q1 : a' = a:=q1
      subst q1
      dsimp only
      rw [e2]
      exact ih2 _ _ _ _ _ ⟨rfl,q2,q3,k + 1,by omega,by omega,k1.symm,q4⟩ (by omega)
    ·have d2 : ¬ p3 * k < ((row L a).length : Int):=df d2
     have : k = p4:=by
      have : ¬ k < p4:=fun h=>by have:=mle h3 h; omega
      omega
     subst this
     exact f4
   ·rintro ⟨a,V',W',X'⟩ ⟨ha,hV',hW',hX'⟩
    have ha : a = c:=ha
    subst ha
    have e:=kw1 (x:=a) (by omega) (by omega)
    dsimp only
    rw [e]
    exact ih _ _ _ _ ⟨by omega,by omega,hV',hW',PC.nxt hX'⟩ (by omega)
  ·have d : ¬ c < (L.length : Int):=df d
   have : c = 2:=by omega
   subst this
   exact g5.all
 ·rintro ⟨V',W',X⟩ ⟨hV',hW',hX⟩
  refine Ok.bind (analyse_ok p0 p1 2 p3 p4 p5 p6 p7 p8 p9 hm hX) ?_
  rintro ⟨J,S,Q,e⟩ ⟨_,C,B,z,hS,hP⟩
  refine Ok.bind (fx_of p0 p1 2 p3 p4 p5 p6 p7 p8 p9 hS hP) ?_
  rintro _ ⟨b,rfl,hf⟩
  exact Ok.some ⟨V',W',b,rfl,hf⟩
theorem cpy_len (n : Nat) (d s : List Int) : (cpy n d s).length = d.length:=by unfold cpy; simp; omega
def nsB (m : Int) : Bool:=match poly_NewSplitter 5000 m (List.replicate 388 none) 0 0 with
  | some (.inr (t,a,b,m',h,u,V))=>m' == m && (h.length : Int) == 10 * m && (u.length : Int) == 8 * m && V == List.replicate (10 * m).toNat 0 && (match poly_NewSplitter 5000 m t a b with
    | some (.inr (_,_,_,m2,h2,u2,V2))=>m2 == m && (h2.length : Int) == 10 * m && (u2.length : Int) == 8 * m && V2 == List.replicate (10 * m).toNat 0
    | _=>false)
  | _=>false
theorem ns4 : nsB 4 = true:=by kernel_rfl
theorem ns8 : nsB 8 = true:=by kernel_rfl
theorem ns_ok {m : Int} (hm : m = 4 ∨ m = 8) : ∃ t a b h u,poly_NewSplitter 5000 m (List.replicate 388 none) 0 0 = some (.inr (t,a,b,m,h,u,List.replicate (10 * m).toNat 0)) ∧ (h.length : Int) = 10 * m ∧ (u.length : Int) = 8 * m ∧
  ∃ t2 a2 b2 h2 u2,poly_NewSplitter 5000 m t a b = some (.inr (t2,a2,b2,m,h2,u2,List.replicate (10 * m).toNat 0)) ∧ (h2.length : Int) = 10 * m ∧ (u2.length : Int) = 8 * m:=by
 have h : nsB m = true:=by
  rcases hm with rfl | rfl
  ·exact ns4
  ·exact ns8
 unfold nsB at h
 split at h
 ·rename_i t a b m' h' u V e
  simp only [Bool.and_eq_true,beq_iff_eq] at h
  obtain ⟨⟨⟨⟨h1,h2⟩,h3⟩,h4⟩,h5⟩:=h
  split at h5
  ·rename_i t2 a2 b2 m2 h2' u2 V2 e2
   simp only [Bool.and_eq_true,beq_iff_eq] at h5
   obtain ⟨⟨⟨k1,k2⟩,k3⟩,k4⟩:=h5
   exact ⟨t,a,b,h',u,by rw [e,h1,h4],h2,h3,t2,a2,b2,h2',u2,by rw [e2,k1,k4],k2,k3⟩
  ·cases h5
 ·cases h
theorem alive_t : psalterylaw14_alive 5000 = some true:=by kernel_rfl
theorem bank_t : ∃ u,bank_New 5000 = some u:=⟨_,rfl⟩
end Go.Fo
