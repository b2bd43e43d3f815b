/- Any bytes,parsed by the program. -/
import Derived.Test.YtdfoifpmghandaaGreatSpUj
namespace Go.Fo
set_option maxRecDepth 6000
theorem fo_cg {g h : Nat → Nat} : ∀ {n : Nat},(∀ i,i < n → g i = h i) → fo g n = fo h n
 | 0,_=>rfl
 | n + 1,e=>by show fo g n + g n = fo h n + h n; rw [fo_cg (fun i hi=>e i (by omega)),e n (by omega)]
theorem fo_fz (z : Int → Int) (C c : Nat) : ∀ n,fo (fun b=>(z ((b * C + c : Nat) : Int)).toNat) n = fz z C c n
 | 0=>rfl
 | n + 1=>by rw [fz_s,← fo_fz z C c n]; rfl
theorem bw_sm {C B : Nat} {z : Int → Int} (hC : C = 1 ∨ C = 2) (hz : ∀ i,0 ≤ z i) : ((fo (gr (rw_ C B z)) (rw_ C B z).length : Nat) : Int) = sm z (B * C):=by
 have hg : ∀ c,c < C → gr (rw_ C B z) c = fz z C c B:=by
  intro c hc
  unfold gr
  rw [rw_rlen hc,← fo_fz]
  apply fo_cg
  intro b hb
  unfold gw
  rw [rw_at hc hb]
 rw [rw_len]
 rcases hC with rfl | rfl
 ·rw [← fz1 hz B,← hg 0 (by omega)]
  show ((0 + gr (rw_ 1 B z) 0 : Nat) : Int) = _
  rw [Nat.zero_add]
 ·rw [← fz2 hz B,← hg 0 (by omega),← hg 1 (by omega)]
  show ((0 + gr (rw_ 2 B z) 0 + gr (rw_ 2 B z) 1 : Nat) : Int) = _
  rw [Nat.zero_add]
def x1 (p3 p6 : Int) : Nat:=if p6 = 1 then 32 + p3.toNat else 32
def jx (M : List Int) (p3 p6 : Int) : List Int:=if p6 = 1 then numsB M 32 1 p3.toNat else List.replicate p3.toNat 0
def sx (M : List Int) (p2 p3 p6 : Int) : List (List Int):=(List.range p2.toNat).map fun c=>numsB M (x1 p3 p6 + c * (p3.toNat * 4)) 4 p3.toNat
def x2 (p2 p3 p6 : Int) : Nat:=x1 p3 p6 + p2.toNat * (p3.toNat * 4)
theorem numsB_at {M : List Int} {x k n : Nat} {i : Int} (h0 : 0 ≤ i) (h1 : i < n) : at' (numsB M x k n) i = nb M (x + i.toNat * k) k:=by
 show (numsB M x k n).getD i.toNat 0 = _
 rw [numsB_nb,List.getD_eq_getElem?_getD,List.getElem?_eq_getElem (by simp; omega)]
 simp
theorem sx_fit (p0 p1 p2 p3 p4 p5 p6 p7 p8 p9 : Int) (hm : may0 p0 p1 p2 p3 p4 p5 p6 p7 p8 p9) {M : List Int} (hM : Bit M) : Fit p0 p1 p2 p3 p4 p5 p6 p7 p8 p9 (sx M p2 p3 p6):=by
 have h2 : p2 = 1 ∨ p2 = 2:=hm.1.2.2.2.1
 have h3 : p3 = 4 ∨ p3 = 8:=hm.1.2.2.2.2.1
 refine ⟨hm,by simp [sx]; omega,fun c c0 c1=>?_⟩
 have e : row (sx M p2 p3 p6) c = numsB M (x1 p3 p6 + c.toNat * (p3.toNat * 4)) 4 p3.toNat:=by
  show (sx M p2 p3 p6).getD c.toNat [] = _
  unfold sx
  rw [List.getD_eq_getElem?_getD,List.getElem?_eq_getElem (by simp; omega)]
  simp
 rw [e]
 refine ⟨by simp [numsB]; omega,fun q q0 q1=>?_⟩
 rw [numsB_at q0 (by omega)]
 have:=nb_r hM (x1 p3 p6 + c.toNat * (p3.toNat * 4) + q.toNat * 4) 4
 have e4 : (2 : Int) ^ 4 = 16:=rfl
 omega
theorem pack_any (p0 p1 p2 p3 p4 p5 p6 p7 p8 p9 : Int) {J : List Int} {S : List (List Int)} {Q : List (List (List Int))} (hf : Fit p0 p1 p2 p3 p4 p5 p6 p7 p8 p9 S) (hJ : J.length ≤ 4000) (hQ : Q.length ≤ 4000) : Ok (fun r=>(MayBe p0 p1 p2 p3 p4 p5 p6 p7 p8 p9 J S Q ∧ r.2 = 0 ∧ (r.1.length : Int) = payZ p2 p3 p4 p6 p7) ∨ (¬ MayBe p0 p1 p2 p3 p4 p5 p6 p7 p8 p9 J S Q ∧ r = ([],1))) (subband_Pack 5000 p0 p1 p2 p3 p4 p5 p6 p7 p8 p9 J S Q):=by
 have hm:=hf.1
 have hz:=payZ_in p0 p1 p2 p3 p4 p5 p6 p7 p8 p9 hm
 obtain ⟨C,B,z,h⟩:=shr_of p0 p1 p2 p3 p4 p5 p6 p7 p8 p9 hf
 by_cases hv : PV p0 p1 p2 p3 p4 p5 p6 p7 p8 p9 J S Q (rw_ C B z)
 ·obtain ⟨s,_,_,hp⟩:=pack_w p0 p1 p2 p3 p4 p5 p6 p7 p8 p9 h hv
  exact ⟨_,hp,.inl ⟨⟨C,B,z,h,hv⟩,rfl,by rw [pk_len]; omega⟩⟩
 ·have hsh : Sh p2 p3 (rw_ C B z):=by rw [← h.hC,← h.hB]; exact rw_sh
  obtain ⟨⟨sh',ok⟩,hsE,hs1,_⟩:=pshare_iff p0 p1 p2 p3 p4 p5 p6 p7 p8 p9 J S Q hm hJ hQ hf hsh h.ha
  have hok : ok = false:=by
   cases hk : ok
   ·rfl
   ·exact absurd (hs1.1 hk) hv
  subst hok
  refine Ok.bind (Ok.is ((smay_w p0 p1 p2 p3 p4 p5 p6 p7 p8 p9).trans (by rw [if_pos hm]))) ?_
  rintro _ rfl
  refine Ok.ite (fun h=>by cases h) (fun _=>Ok.bind (Ok.is hsE) ?_)
  rintro _ rfl
  exact Ok.ite (fun _=>Ok.some (.inr ⟨fun hg=>hv ((gd_pv p0 p1 p2 p3 p4 p5 p6 p7 p8 p9 h).1 hg),rfl⟩)) (fun h=>by cases h)
theorem equal_iff2 {a b : List Int} (ha : a.length ≤ 4000) : Ok (fun r=>r = true ↔ a = b) (slices_Equal_byte_byte 5000 a b):=by
 refine Ok.ite (fun c=>Ok.some ⟨fun h=>(by cases h),fun h=>?_⟩) (fun c=>?_)
 ·rw [h,bne_self_eq_false] at c; cases c
 have c : (a.length : Int) = (b.length : Int):=by simpa using c
 refine Ok.bind (Q:=fun z=>match z with | .inl _=>a = b | .inr r=>r = false ∧ a ≠ b) ?_ ?_
 ·unfold slices_Equal_byte_byte.l0
  refine rounds_ok1 (fun i=>0 ≤ i ∧ i ≤ (a.length : Int) ∧ ∀ j : Nat,(j : Int) < i → a.getD j 0 = b.getD j 0) (fun i=>((a.length : Int) - i).toNat) _ ?_ 5000 _ ⟨by omega,by omega,fun j hj=>by omega⟩ (by omega)
  rintro next i ⟨g1,g2,g3⟩ ih
  refine Ok.ite (fun d=>?_) (fun d=>Ok.some ?_)
  ·have d:=dt d
   refine Ok.gd ⟨g1,d⟩ (Ok.gd ⟨g1,by omega⟩ (Ok.ite (fun e=>Ok.some ⟨rfl,fun h=>?_⟩) (fun e=>?_)))
   ·rw [h,bne_self_eq_false] at e; cases e
   have e : a.getD i.toNat 0 = b.getD i.toNat 0:=by
    have e : (Kd.nth (.int .u8) a (Int.toNat i) != Kd.nth (.int .u8) b (Int.toNat i)) = false:=e
    rw [bne_eq_false_iff_eq] at e; exact e
   have ek:=kw1 (x:=i) (by omega) (by omega)
   refine ih _ ⟨by omega,by omega,fun j hj=>?_⟩ (by omega)
   by_cases q : (j : Int) < i
   ·exact g3 j q
   ·rw [show j = i.toNat by omega]; exact e
  ·have d:=df d
   show a = b
   apply List.ext_getElem
   ·omega
   ·intro j h1 h2
    have:=g3 j (by omega)
    rw [List.getD_eq_getElem?_getD,List.getD_eq_getElem?_getD,List.getElem?_eq_getElem h1,List.getElem?_eq_getElem h2] at this
    exact this
 ·intro z hz
  cases z with
  | inl u=>exact Ok.some ⟨fun _=>hz,fun _=>rfl⟩
  | inr r=>exact Ok.some ⟨fun h=>(by rw [hz.1] at h; cases h),fun h=>absurd h hz.2⟩
theorem parse_x (p0 p1 p2 p3 p4 p5 p6 p7 p8 p9 : Int) (hm : may0 p0 p1 p2 p3 p4 p5 p6 p7 p8 p9) {M : List Int} (hM : Bit M) {C B : Nat} {z : Int → Int} (h : Shr p0 p1 p2 p3 p4 p5 p6 p7 p8 p9 (sx M p2 p3 p6) C B z) : Ok (fun r=>(subband_Pack 5000 p0 p1 p2 p3 p4 p5 p6 p7 p8 p9 (jx M p3 p6) (sx M p2 p3 p6) (qx M (x2 p2 p3 p6) (rw_ C B z) p4.toNat) = some (pk (payZ p2 p3 p4 p6 p7).toNat M,0) → r = (jx M p3 p6,sx M p2 p3 p6,qx M (x2 p2 p3 p6) (rw_ C B z) p4.toNat,0)) ∧ (¬ subband_Pack 5000 p0 p1 p2 p3 p4 p5 p6 p7 p8 p9 (jx M p3 p6) (sx M p2 p3 p6) (qx M (x2 p2 p3 p6) (rw_ C B z) p4.toNat) = some (pk (payZ p2 p3 p4 p6 p7).toNat M,0) → r = ([],[],[],140))) (subband_Parse 5000 p0 p1 p2 p3 p4 p5 p6 p7 p8 p9 (pk (payZ p2 p3 p4 p6 p7).toNat M)):=by
 have h2 : p2 = 1 ∨ p2 = 2:=hm.1.2.2.2.1
 have h3 : p3 = 4 ∨ p3 = 8:=hm.1.2.2.2.2.1
 have h4 : p4 = 4 ∨ p4 = 8 ∨ p4 = 12 ∨ p4 = 16:=hm.1.2.2.2.2.2.1
 have h6 : p6 = 0 ∨ (p6 = 1 ∧ p2 = 2):=hm.1.2.2.2.2.2.2.2.1
 have hz:=payZ_in p0 p1 p2 p3 p4 p5 p6 p7 p8 p9 hm
 have hC:=h.hC
 have hB:=h.hB
 have hf:=h.hf
 have hsh : Sh p2 p3 (rw_ C B z):=by rw [← hC,← hB]; exact rw_sh
 have hbw:=bw_sm (C:=C) (B:=B) (z:=z) (by omega) (fun i=>(h.hz i).1)
 have hsum:=h.hs
 have hle : p4 * sm z (B * C) ≤ p4 * p7:=Int.mul_le_mul_of_nonneg_left hsum (by omega)
 have hx12 : ((x2 p2 p3 p6 : Nat) : Int) = 32 + p6 * p3 + 4 * p3 * p2 ∧ ((x1 p3 p6 : Nat) : Int) = 32 + p6 * p3 ∧ x1 p3 p6 ≤ x2 p2 p3 p6:=by
  unfold x2 x1
  rcases h6 with h6 | ⟨h6,h6'⟩
  ·rw [if_neg (by omega),h6]
   rcases h2 with h2 | h2 <;> rw [h2] <;> refine ⟨?_,?_,?_⟩ <;> simp <;> omega
  ·rw [if_pos h6,h6,h6']
   refine ⟨?_,?_,?_⟩ <;> simp <;> omega
 have hall : x2 p2 p3 p6 + p4.toNat * fo (gr (rw_ C B z)) (rw_ C B z).length ≤ 8 * (payZ p2 p3 p4 p6 p7).toNat:=by
  have e : ((p4.toNat * fo (gr (rw_ C B z)) (rw_ C B z).length : Nat) : Int) = p4 * sm z (B * C):=by rw [← hbw,Int.natCast_mul,Int.toNat_of_nonneg (by omega)]
  have hp : payZ p2 p3 p4 p6 p7 = (32 + p6 * p3 + 4 * p3 * p2 + p4 * p7 + 7) / 8:=rfl
  omega
 have hw2 : ∀ c,0 ≤ c → c < p2 → ∀ i,0 ≤ i → i < p3 → 0 ≤ at' (row (rw_ C B z) c) i ∧ at' (row (rw_ C B z) c) i ≤ 32:=by
  intro c c0 c1 b b0 b1
  have e:=rw_at (C:=C) (B:=B) (z:=z) (c:=c.toNat) (b:=b.toNat) (by omega) (by omega)
  rw [show ((c.toNat : Nat) : Int) = c by omega,show ((b.toNat : Nat) : Int) = b by omega] at e
  rw [e]
  have:=h.hz ((b.toNat * C + c.toNat : Nat) : Int)
  omega
 generalize hn : (payZ p2 p3 p4 p6 p7).toNat = n at *
 generalize hshe : rw_ C B z = sh at *
 have hbl : ((pk n M).length : Int) = payZ p2 p3 p4 p6 p7:=by rw [pk_len]; omega
 have hn6 : n ≤ 600:=by omega
 have hsl:=hsh.1
 generalize hbwe : fo (gr sh) sh.length = bw at *
 refine Ok.bind (Ok.is ((smay_w p0 p1 p2 p3 p4 p5 p6 p7 p8 p9).trans (by rw [if_pos hm]))) ?_
 rintro _ rfl
 refine Ok.ite (fun h=>by cases h) (fun _=>?_)
 refine Ok.bind (Ok.is (Pay_w p0 p1 p2 p3 p4 p5 p6 p7 p8 p9 hm)) ?_
 rintro _ rfl
 refine Ok.ite (fun c=>?_) (fun _=>?_)
 ·rw [hbl,bne_self_eq_false] at c; cases c
 refine Ok.bind (Q:=fun z=>z = .inr (pk n M)) (Ok.ite (fun d=>by have:=dt d; omega) (fun _=>Ok.bind (Q:=fun r=>r = pk n M) (clone_ok (by rw [pk_len]; omega) (by rw [pk_len]; omega)) (fun r hr=>Ok.some (by rw [hr])))) ?_
 rintro _ rfl
 have hey : ∃ v,bits_Eye_Front_2 5000 32 0 0 (pk n M) = some (v,0,32):=⟨_,eye_w (M:=M) (n:=n) (k:=32) (x:=0) hM hn6 (by omega) (by omega)⟩
 obtain ⟨v32,hey⟩:=hey
 refine Ok.bind (Ok.is hey) ?_
 rintro _ rfl
 refine Ok.gd ⟨by omega,by omega,by omega⟩ (Ok.bind (Q:=fun r=>r = (((x1 p3 p6 : Nat) : Int),jx M p3 p6)) ?_ ?_)
 ·refine Ok.ite (fun c=>?_) (fun c=>Ok.some ?_)
  ·have c : p6 = 1:=by simpa using c
   have hx1e : x1 p3 p6 = 32 + p3.toNat:=by unfold x1; rw [if_pos c]
   have ht:=takeW (M:=M) (n:=n) (k:=1) (x:=32) (c:=p3.toNat) hM hn6 (by omega) (by omega) (by omega)
   rw [show ((p3.toNat : Nat) : Int) = p3 by omega] at ht
   refine Ok.bind (Ok.is ht) ?_
   rintro _ rfl
   refine Ok.some ?_
   rw [hx1e,Nat.mul_one]
   unfold jx; rw [if_pos c]
  ·have c : ¬ p6 = 1:=by simpa using c
   unfold x1 jx
   rw [if_neg c,if_neg c]; rfl
 rintro _ rfl
 refine Ok.bind (Q:=fun r=>r = (((x2 p2 p3 p6 : Nat) : Int),sx M p2 p3 p6)) ?_ ?_
 ·unfold subband_Parse.l7
  refine rounds_ok3 (fun i y Z=>0 ≤ i ∧ i ≤ p2 ∧ y = ((x1 p3 p6 + i.toNat * (p3.toNat * 4) : Nat) : Int) ∧ Z = (List.range i.toNat).map fun c=>numsB M (x1 p3 p6 + c * (p3.toNat * 4)) 4 p3.toNat) (fun i _ _=>(p2 - i).toNat) _ ?_ 5000 _ _ _ ⟨by omega,by omega,by simp,rfl⟩ (by omega)
  rintro next i y Z ⟨g1,g2,g3,g4⟩ ih
  have hZl : (Z.length : Int) = i:=by rw [g4]; simp; omega
  refine Ok.ite (fun d=>?_) (fun d=>Ok.some ?_)
  ·have d:=dt d
   have hpos : x1 p3 p6 + i.toNat * (p3.toNat * 4) + p3.toNat * 4 ≤ x2 p2 p3 p6:=by
    unfold x2
    have : i.toNat = 0 ∨ i.toNat = 1:=by omega
    rcases this with q | q <;> rw [q] <;> rcases h2 with h2 | h2 <;> rw [h2] <;> simp <;> omega
   have ht:=takeW (M:=M) (n:=n) (k:=4) (x:=x1 p3 p6 + i.toNat * (p3.toNat * 4)) (c:=p3.toNat) hM hn6 (by omega) (by omega) (by omega)
   rw [show ((p3.toNat : Nat) : Int) = p3 by omega,← g3] at ht
   refine Ok.bind (Ok.is ht) ?_
   rintro _ rfl
   refine Ok.gd (by show ((Z.length : Int) + 1) * 24 ≤ _; omega) ?_
   have e:=kw1 (x:=i) (by omega) (by omega)
   refine ih _ _ _ ⟨by omega,by omega,?_,?_⟩ (by omega)
   ·rw [e,tS g1,Nat.add_mul,Nat.one_mul,Nat.add_assoc]
   ·rw [e,tS g1,rs_map,← g4]
  ·have d:=df d
   rw [g3,g4,show i.toNat = p2.toNat by omega]; rfl
 rintro _ rfl
 refine Ok.bind (Ok.is h.ha) ?_
 rintro _ rfl
 refine Ok.ite (fun h=>by cases h) (fun _=>?_)
 refine Ok.bind (Q:=fun r=>r = qx M (x2 p2 p3 p6) sh p4.toNat) ?_ ?_
 ·unfold subband_Parse.l4
  rw [hshe]
  refine rounds_ok3 (fun i y Z=>0 ≤ i ∧ i ≤ p4 ∧ y = ((x2 p2 p3 p6 + i.toNat * bw : Nat) : Int) ∧ Z = (List.range i.toNat).map fun i=>blkx M (x2 p2 p3 p6 + i * bw) sh) (fun i _ _=>(p4 - i).toNat) _ ?_ 5000 _ _ _ ⟨by omega,by omega,by simp,rfl⟩ (by omega)
  rintro next i y Z ⟨g1,g2,g3,g4⟩ ih
  have hZl : (Z.length : Int) = i:=by rw [g4]; simp; omega
  refine Ok.ite (fun d=>?_) (fun d=>Ok.some ?_)
  ·have d:=dt d
   have hmul : i.toNat * bw + bw ≤ p4.toNat * bw:=by
    have:=Nat.mul_le_mul_right bw (show i.toNat + 1 ≤ p4.toNat by omega)
    rw [Nat.add_mul,Nat.one_mul] at this; exact this
   refine Ok.gd ⟨by omega,by omega,by omega⟩ ?_
   refine Ok.bind (px5 hn6 hM (C:=p2) (W:=p3) ⟨by omega,by omega⟩ ⟨by omega,by omega⟩ hsh hw2 (x2 p2 p3 p6 + i.toNat * bw) (by rw [hbwe]; omega) y g3 _ _ _ _ _ _ _ _ _ _ _ _ _ _ _) ?_
   rintro ⟨y',X⟩ ⟨k1,k2⟩
   have k1 : y' = ((x2 p2 p3 p6 + i.toNat * bw + fo (gr sh) sh.length : Nat) : Int):=k1
   have k2 : X = blkx M (x2 p2 p3 p6 + i.toNat * bw) sh:=k2
   rw [hbwe] at k1
   refine Ok.gd (by show ((Z.length : Int) + 1) * 24 ≤ _; omega) ?_
   have e:=kw1 (x:=i) (by omega) (by omega)
   refine ih _ _ _ ⟨by omega,by omega,?_,?_⟩ (by omega)
   ·rw [e,tS g1,k1,Nat.add_mul,Nat.one_mul,Nat.add_assoc]
   ·rw [e,tS g1,rs_map,← g4,k2]
  ·have d:=df d
   unfold qx
   rw [g4,show i.toNat = p4.toNat by omega,hbwe]
 rintro _ rfl
 have hJl : (jx M p3 p6).length ≤ 4000:=by unfold jx; split <;> simp [numsB] <;> omega
 have hQl : (qx M (x2 p2 p3 p6) sh p4.toNat).length ≤ 4000:=by simp [qx]; omega
 obtain ⟨⟨b',e⟩,hp,hpc⟩:=pack_any p0 p1 p2 p3 p4 p5 p6 p7 p8 p9 hf hJl hQl
 refine Ok.bind (Ok.is hp) ?_
 rintro _ rfl
 rw [hp]
 rcases hpc with ⟨_,he,hl⟩ | ⟨_,he⟩
 ·have he : e = 0:=he
  have hl : (b'.length : Int) = payZ p2 p3 p4 p6 p7:=hl
  subst he
  refine Ok.bind (Q:=fun x=>x = false ↔ b' = pk n M) ?_ ?_
  ·refine Ok.ite (fun h=>by cases h) (fun _=>Ok.bind (equal_iff2 (by omega)) ?_)
   intro r hr
   refine Ok.some ?_
   cases r
   ·exact ⟨fun h=>(by cases h),fun h=>(by have:=hr.2 h; cases this)⟩
   ·exact ⟨fun _=>hr.1 rfl,fun _=>rfl⟩
  ·intro x hx
   refine Ok.ite (fun c=>Ok.some ⟨fun h=>?_,fun _=>rfl⟩) (fun c=>Ok.some ⟨fun _=>rfl,fun h=>?_⟩)
   ·injection h with h
    injection h with h
    rw [hx.2 h] at c; cases c
   ·exact absurd (by rw [hx.1 c]) h
 ·injection he with he1 he2
  subst he1 he2
  refine Ok.bind (Q:=fun x=>x = true) (Ok.ite (fun _=>Ok.some rfl) (fun h=>by cases h)) ?_
  rintro _ rfl
  refine Ok.ite (fun _=>Ok.some ⟨fun h=>?_,fun _=>rfl⟩) (fun h=>by cases h)
  injection h with h
  injection h with h1 h2
  cases h2
end Go.Fo
