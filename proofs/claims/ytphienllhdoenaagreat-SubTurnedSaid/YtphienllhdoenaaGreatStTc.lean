/- Frames that are parsed are frames that are laid. -/
import Derived.Test.YtphienllhdoenaaGreatStTb
namespace Go.Fo
set_option maxRecDepth 6000
theorem qlen {Q : List (List (List Int))} {p4 : Int} (hQ : (Q.length : Int) = p4) (h4 : p4 = 4 ∨ p4 = 8 ∨ p4 = 12 ∨ p4 = 16) : Q.length ≤ 4000:=by omega
theorem fx_len (p0 p1 p2 p3 p4 p5 p6 p7 p8 p9 : Int) (hm : may0 p0 p1 p2 p3 p4 p5 p6 p7 p8 p9) {b : List Int} (h : Fx p0 p1 p2 p3 p4 p5 p6 p7 p8 p9 b) : (b.length : Int) = payZ p2 p3 p4 p6 p7 ∧ b.length ≤ 512:=by
 have hz:=payZ_in p0 p1 p2 p3 p4 p5 p6 p7 p8 p9 hm
 obtain ⟨J,S,Q,C,B,z,s,_,_,_,_,rfl⟩:=h
 rw [pk_len]; omega
theorem equal_iff {a b : List Int} (ha : a.length ≤ 4000) : Ok (fun r=>r = true → a = b) (slices_Equal_byte_byte_4 5000 a b):=by
 refine Ok.ite (fun _=>Ok.some (fun h=>by cases h)) (fun c=>?_)
 have c : (a.length : Int) = (b.length : Int):=by simpa using c
 refine Ok.bind (Q:=fun z=>match z with | .inl _=>a = b | .inr r=>r = false) ?_ ?_
 ·unfold slices_Equal_byte_byte_4.l0
  refine rounds_ok1 (fun i=>0 ≤ i ∧ i ≤ (a.length : Int) ∧ ∀ j : Nat,(j : Int) < i → a.getD j 0 = b.getD j 0) (fun i=>((a.length : Int) - i).toNat) _ ?_ 5000 _ ⟨by omega,by omega,fun j hj=>by omega⟩ (by omega)
  rintro next i ⟨g1,g2,g3⟩ ih
  refine Ok.ite (fun d=>?_) (fun d=>Ok.some ?_)
  ·have d:=dt d
   refine Ok.gd ⟨g1,d⟩ (Ok.gd ⟨g1,by omega⟩ (Ok.ite (fun _=>Ok.some rfl) (fun e=>?_)))
   have e : a.getD i.toNat 0 = b.getD i.toNat 0:=by
    have e : (Kd.nth (.int .u8) a (Int.toNat i) != Kd.nth (.int .u8) b (Int.toNat i)) = false:=e
    rw [bne_eq_false_iff_eq] at e; exact e
   have ek:=kw1 (x:=i) (by omega) (by omega)
   refine ih _ ⟨by omega,by omega,fun j hj=>?_⟩ (by omega)
   by_cases q : (j : Int) < i
   ·exact g3 j q
   ·rw [show j = i.toNat by omega]; exact e
  ·have d:=df d
   show a = b
   apply List.ext_getElem
   ·omega
   ·intro j h1 h2
    have:=g3 j (by omega)
    rw [List.getD_eq_getElem?_getD,List.getD_eq_getElem?_getD,List.getElem?_eq_getElem h1,List.getElem?_eq_getElem h2] at this
    exact this
 ·intro z hz
  cases z with
  | inl u=>exact Ok.some (fun _=>hz)
  | inr r=>exact Ok.some (fun h=>by rw [show r = false from hz] at h; cases h)
theorem pack_cases (p0 p1 p2 p3 p4 p5 p6 p7 p8 p9 : Int) {J : List Int} {S : List (List Int)} {Q : List (List (List Int))} (hf : Fit p0 p1 p2 p3 p4 p5 p6 p7 p8 p9 S) (hJ : J.length ≤ 4000) (hQ : Q.length ≤ 4000) : Ok (fun r=>(∃ b,r = .inr b ∧ Fx p0 p1 p2 p3 p4 p5 p6 p7 p8 p9 b) ∨ r = .inl 1) (subband_Pack 5000 p0 p1 p2 p3 p4 p5 p6 p7 p8 p9 J S Q):=by
 have hm:=hf.1
 obtain ⟨C,B,z,h⟩:=shr_of p0 p1 p2 p3 p4 p5 p6 p7 p8 p9 hf
 by_cases hv : PV p0 p1 p2 p3 p4 p5 p6 p7 p8 p9 J S Q (rw_ C B z)
 ·exact (fx_of p0 p1 p2 p3 p4 p5 p6 p7 p8 p9 h hv).mono (fun r hr=>.inl hr)
 ·have hsh : Sh p2 p3 (rw_ C B z):=by rw [← h.hC,← h.hB]; exact rw_sh
  obtain ⟨⟨sh',ok⟩,hsE,hs1,_⟩:=pshare_iff p0 p1 p2 p3 p4 p5 p6 p7 p8 p9 J S Q hm hJ hQ hf hsh h.ha
  have hok : ok = false:=by
   cases hk : ok
   ·rfl
   ·exact absurd (hs1.1 hk) hv
  subst hok
  refine Ok.bind (Ok.is ((smay_w p0 p1 p2 p3 p4 p5 p6 p7 p8 p9).trans (by rw [if_pos hm]))) ?_
  rintro _ rfl
  refine Ok.ite (fun h=>by cases h) (fun _=>Ok.bind (Ok.is hsE) ?_)
  rintro _ rfl
  exact Ok.ite (fun _=>Ok.some (.inr rfl)) (fun h=>by cases h)
theorem parse_l6 {b : List Int} (hb : b.length ≤ 600) (rowsh : List Int) (hr : rowsh.length ≤ 100) (c : Int) (C : Int) (hc0 : 0 ≤ c) (hc : c < C) (X : List (List Int)) (hX : (X.length : Int) = C) (hXc : X.getD c.toNat [] = []) (hXr : ∀ q : Nat,(c : Int) < q → X.getD q [] = []) (x : Int) (hx : 0 ≤ x) (hx2 : x ≤ 8 * (b.length : Int)) (b0 : List Int) (s0 : List (List Int)) (c3 c4 c5 : Int) (d0 d1 d2 d3 d4 d5 d6 d7 d8 : Int) (J : List Int) (S : List (List Int)) (Y : List (List (List Int))) :
  Ok (fun r=>(0 ≤ r.1 ∧ r.1 ≤ 8 * (b.length : Int)) ∧ (r.2.length : Int) = C ∧ (∀ q : Nat,(c : Int) < q → r.2.getD q [] = []))
   (subband_Parse_2.l6 5000 b0 s0 c c3 c4 c5 rowsh (rowsh.length : Int) d0 d1 d2 d3 d4 d5 d6 d7 d8 b J S Y 5000 0 x X):=by
 unfold subband_Parse_2.l6
 refine rounds_ok3 (fun i y Z=>0 ≤ i ∧ i ≤ (rowsh.length : Int) ∧ (0 ≤ y ∧ y ≤ 8 * (b.length : Int)) ∧ (Z.length : Int) = C ∧ ((Z.getD c.toNat []).length : Int) = i ∧ ∀ q : Nat,(c : Int) < q → Z.getD q [] = []) (fun i _ _=>((rowsh.length : Int) - i).toNat) _ ?_ 5000 _ _ _ ⟨by omega,by omega,⟨hx,hx2⟩,hX,by rw [hXc]; rfl,hXr⟩ (by omega)
 rintro next i y Z ⟨h1,h2,⟨h3,h4⟩,h5,h6,h7⟩ ih
 refine Ok.ite (fun d=>?_) (fun _=>Ok.some ⟨⟨h3,h4⟩,h5,h7⟩)
 have d:=dt d
 refine Ok.gd ⟨h1,d⟩ (Ok.gd ⟨hc0,by omega⟩ (Ok.gd (by omega) (Ok.bind (takeO (n:=1) (by omega) (by omega) hb h3 h4) ?_)))
 rintro ⟨l,y'⟩ ⟨g1,g2,g3⟩
 have g1 : (l.length : Int) = 1:=g1
 refine Ok.gd (by show (((Z.getD c.toNat []).length : Int) + (l.length : Int)) * 8 ≤ _; omega) (Ok.gd ⟨hc0,by omega⟩ (Ok.gd (by omega) ?_))
 have e:=kw1 (x:=i) (by omega) (by omega)
 refine ih _ _ _ ⟨by omega,by omega,⟨g2,g3⟩,by rw [List.length_set]; exact h5,?_,fun q hq=>?_⟩ (by omega)
 ·rw [List.getD_eq_getElem?_getD,List.getElem?_set_self (by omega)]
  show (((Z.getD c.toNat [] ++ l).length : Nat) : Int) = _
  rw [List.length_append]; push_cast; omega
 ·rw [List.getD_eq_getElem?_getD,List.getElem?_set_ne (by omega),← List.getD_eq_getElem?_getD]; exact h7 q hq
theorem parse_fx (p0 p1 p2 p3 p4 p5 p6 p7 p8 p9 : Int) (b : List Int) (hm : may0 p0 p1 p2 p3 p4 p5 p6 p7 p8 p9) : Ok (fun r=>(r.2.2.2 = 140 ∧ r.1 = []) ∨ (r.2.2.2 = 0 ∧ Fx p0 p1 p2 p3 p4 p5 p6 p7 p8 p9 b)) (subband_Parse_2 5000 p0 p1 p2 p3 p4 p5 p6 p7 p8 p9 b):=by
 have h2 : p2 = 1 ∨ p2 = 2:=hm.1.2.2.2.1
 have h3 : p3 = 4 ∨ p3 = 8:=hm.1.2.2.2.2.1
 have h4 : p4 = 4 ∨ p4 = 8 ∨ p4 = 12 ∨ p4 = 16:=hm.1.2.2.2.2.2.1
 have hz:=payZ_in p0 p1 p2 p3 p4 p5 p6 p7 p8 p9 hm
 refine Ok.bind (Ok.is ((smay_w p0 p1 p2 p3 p4 p5 p6 p7 p8 p9).trans (by rw [if_pos hm]))) ?_
 rintro _ rfl
 refine Ok.ite (fun h=>by cases h) (fun _=>?_)
 refine Ok.bind (Ok.is (Pay_w p0 p1 p2 p3 p4 p5 p6 p7 p8 p9 hm)) ?_
 rintro _ rfl
 refine Ok.ite (fun _=>Ok.some (.inl ⟨rfl,rfl⟩)) (fun c=>?_)
 have c : (b.length : Int) = payZ p2 p3 p4 p6 p7:=by simpa using c
 refine Ok.bind (Q:=fun z=>z = .inr b) (Ok.ite (fun d=>by have:=dt d; omega) (fun _=>Ok.bind (Q:=fun r=>r = b) (clone_ok (by omega) (by omega)) (fun r hr=>Ok.some (by rw [hr])))) ?_
 rintro _ rfl
 refine Ok.bind (eye_ok (b:=b) (by omega) (by omega) (by omega)) ?_
 rintro ⟨v1,v2,x⟩ ⟨hx1,hx2⟩
 have hx1 : 0 ≤ x:=hx1
 have hx2 : x ≤ 8 * (b.length : Int):=hx2
 refine Ok.gd ⟨by omega,by omega,by omega⟩ (Ok.bind (Q:=fun r=>(r.2.length : Int) = p3 ∧ 0 ≤ r.1 ∧ r.1 ≤ 8 * (b.length : Int)) ?_ ?_)
 ·refine Ok.ite (fun _=>Ok.bind (takeO (by omega) (by omega) (by omega) hx1 hx2) ?_) (fun _=>Ok.some ⟨by show ((List.replicate (Int.toNat p3) (0 : Int)).length : Int) = p3; simp; omega,hx1,hx2⟩)
  rintro ⟨l,y⟩ ⟨g1,g2,g3⟩
  exact Ok.some ⟨g1,g2,g3⟩
 rintro ⟨y,J⟩ ⟨hJ,hy1,hy2⟩
 have hJ : (J.length : Int) = p3:=hJ
 have hy1 : 0 ≤ y:=hy1
 have hy2 : y ≤ 8 * (b.length : Int):=hy2
 refine Ok.bind (Q:=fun r=>0 ≤ r.1 ∧ r.1 ≤ 8 * (b.length : Int)) ?_ ?_
 ·unfold subband_Parse_2.l7
  refine rounds_ok3 (fun i y Z=>0 ≤ i ∧ i ≤ p2 ∧ (0 ≤ y ∧ y ≤ 8 * (b.length : Int)) ∧ (Z.length : Int) = i) (fun i _ _=>(p2 - i).toNat) _ ?_ 5000 _ _ _ ⟨by omega,by omega,⟨hy1,hy2⟩,rfl⟩ (by omega)
  rintro next i y Z ⟨g1,g2,⟨g3,g4⟩,g5⟩ ih
  refine Ok.ite (fun d=>?_) (fun _=>Ok.some ⟨g3,g4⟩)
  have d:=dt d
  refine Ok.bind (takeO (by omega) (by omega) (by omega) g3 g4) ?_
  rintro ⟨l,y'⟩ ⟨f1,f2,f3⟩
  refine Ok.gd (by show ((Z.length : Int) + 1) * 24 ≤ _; omega) ?_
  have e:=kw1 (x:=i) (by omega) (by omega)
  exact ih _ _ _ ⟨by omega,by omega,⟨f2,f3⟩,by rw [List.length_append]; show (((Z.length + 1 : Nat)) : Int) = _; omega⟩ (by omega)
 rintro ⟨z,S⟩ ⟨hz1,hz2⟩
 have hz1 : 0 ≤ z:=hz1
 have hz2 : z ≤ 8 * (b.length : Int):=hz2
 rcases amay_w p0 p1 p2 p3 p4 p5 p6 p7 p8 p9 S hm with ⟨ha,hf⟩ | ⟨ha,_⟩
 ·obtain ⟨sh,hs,hsh⟩:=share_sh hf ha
  refine Ok.bind (Ok.is hs) ?_
  rintro _ rfl
  refine Ok.ite (fun h=>by cases h) (fun _=>?_)
  refine Ok.bind (Q:=fun Q=>(Q.length : Int) = p4) ?_ ?_
  ·unfold subband_Parse_2.l4
   refine rounds_ok3 (fun i y Z=>0 ≤ i ∧ i ≤ p4 ∧ (0 ≤ y ∧ y ≤ 8 * (b.length : Int)) ∧ (Z.length : Int) = i) (fun i _ _=>(p4 - i).toNat) _ ?_ 5000 _ _ _ ⟨by omega,by omega,⟨hz1,hz2⟩,rfl⟩ (by omega)
   rintro next i y Z ⟨g1,g2,⟨g3,g4⟩,g5⟩ ih
   refine Ok.ite (fun d=>?_) (fun d=>Ok.some (by have:=df d; omega))
   have d:=dt d
   refine Ok.gd ⟨by omega,by omega,by omega⟩ (Ok.bind (Q:=fun r=>0 ≤ r.1 ∧ r.1 ≤ 8 * (b.length : Int)) ?_ ?_)
   ·have hrep : ((List.replicate (Int.toNat p2) ([] : List Int)).length : Int) = p2:=by simp; omega
    rw [hrep]
    unfold subband_Parse_2.l5
    refine rounds_ok3 (fun c y X=>0 ≤ c ∧ c ≤ p2 ∧ (0 ≤ y ∧ y ≤ 8 * (b.length : Int)) ∧ (X.length : Int) = p2 ∧ ∀ q : Nat,c ≤ (q : Int) → X.getD q [] = []) (fun c _ _=>(p2 - c).toNat) _ ?_ 5000 _ _ _ ⟨by omega,by omega,⟨g3,g4⟩,hrep,fun q _=>?_⟩ (by omega)
    ·rintro next2 c y X ⟨f1,f2,⟨f3,f4⟩,f5,f6⟩ ih2
     refine Ok.ite (fun d2=>?_) (fun _=>Ok.some ⟨f3,f4⟩)
     have d2:=dt d2
     have hl:=hsh.2 c f1 d2
     have hs1:=hsh.1
     refine Ok.gd ⟨f1,by omega⟩ (Ok.bind (parse_l6 (by omega) (row sh c) (by omega) c p2 f1 d2 X f5 (f6 _ (by omega)) (fun q hq=>f6 q (by omega)) y f3 f4 _ _ _ _ _ _ _ _ _ _ _ _ _ _ _ _ _) ?_)
     rintro ⟨y',X'⟩ ⟨⟨e1,e2⟩,e3,e4⟩
     have e:=kw1 (x:=c) (by omega) (by omega)
     exact ih2 _ _ _ ⟨by omega,by omega,⟨e1,e2⟩,e3,fun q hq=>e4 q (by omega)⟩ (by omega)
    ·rw [List.getD_eq_getElem?_getD,List.getElem?_replicate]; split <;> rfl
   ·rintro ⟨y',X'⟩ ⟨e1,e2⟩
    refine Ok.gd (by show ((Z.length : Int) + 1) * 24 ≤ _; omega) ?_
    have e:=kw1 (x:=i) (by omega) (by omega)
    exact ih _ _ _ ⟨by omega,by omega,⟨e1,e2⟩,by rw [List.length_append]; show (((Z.length + 1 : Nat)) : Int) = _; omega⟩ (by omega)
  ·intro Q hQ
   refine Ok.bind (pack_cases p0 p1 p2 p3 p4 p5 p6 p7 p8 p9 hf (J:=J) (Q:=Q) (by omega) (qlen hQ h4)) ?_
   rintro z (⟨b',rfl,hb⟩ | rfl)
   ·refine Ok.bind (equal_iff (by have:=fx_len p0 p1 p2 p3 p4 p5 p6 p7 p8 p9 hm hb; omega)) ?_
    intro r hr
    refine Ok.ite (fun _=>Ok.some (.inl ⟨rfl,rfl⟩)) (fun c=>Ok.some (.inr ⟨rfl,?_⟩))
    rw [← hr (by simpa using c)]; exact hb
   ·exact Ok.bind (Q:=fun x=>x = true) (Ok.ite (fun _=>Ok.some rfl) (fun h=>by cases h)) (fun x hx=>by rw [show x = true from hx]; exact Ok.some (.inl ⟨rfl,rfl⟩))
 ·refine Ok.bind (Ok.is (share_no ha)) ?_
  rintro _ rfl
  exact Ok.ite (fun _=>Ok.some (.inl ⟨rfl,rfl⟩)) (fun h=>by cases h)
end Go.Fo
