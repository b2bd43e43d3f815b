/- Any bytes,parsed by the document. -/
import Derived.Test.YtdfoifpmghandaaGreatSpUl
import Derived.Laws.Strings
namespace Go.Fo
set_option maxRecDepth 6000
theorem bstr_data (l : List Int) : (bstr l).data.toList = l.map fun n=>UInt8.ofNat n.toNat:=by
 have key : ∀ (l : List Int) (r : ByteArray),(l.foldl (fun r n=>r.push (UInt8.ofNat n.toNat)) r).data.toList = r.data.toList ++ l.map fun n=>UInt8.ofNat n.toNat:=by
  intro l
  induction l with
  | nil=>intro r; simp
  | cons a l ih =>
   intro r
   rw [List.foldl_cons,ih]
   show (r.data.push (UInt8.ofNat a.toNat)).toList ++ _ = _
   simp
 exact key l ByteArray.empty
theorem sb_bstr {b : List Int} (hb : ∀ x ∈ b,0 ≤ x ∧ x < 256) : sbytes (bstr b) = b:=by
 unfold sbytes
 rw [bstr_data,List.map_map]
 conv=>rhs; rw [← List.map_id b]
 apply List.map_congr_left
 intro x hx
 have:=hb x hx
 show ((UInt8.ofNat x.toNat).toNat : Int) = x
 rw [UInt8.toNat_ofNat']
 have : x.toNat % 2 ^ 8 = x.toNat:=Nat.mod_eq_of_lt (by omega)
 omega
theorem beqs_iff {b : List Int} (hb : ∀ x ∈ b,0 ≤ x ∧ x < 256) (s : ByteArray) : beqs (bstr b) s = true ↔ b = sbytes s:=by
 unfold beqs
 rw [beq_iff_eq,ByteArray.toList_eq,ByteArray.toList_eq]
 constructor
 ·intro h
  have h2:=sb_bstr hb
  unfold sbytes at h2 ⊢
  rw [h] at h2; exact h2.symm
 ·rintro rfl
  rw [bstr_data]
  unfold sbytes
  rw [List.map_map]
  conv=>rhs; rw [← List.map_id s.data.toList]
  apply List.map_congr_left
  intro x _
  show UInt8.ofNat ((x.toNat : Nat) : Int).toNat = x
  rw [Int.toNat_natCast]
  simp
theorem sb_r (s : ByteArray) : ∀ x ∈ sbytes s,0 ≤ x ∧ x < 256:=by
 intro x hx
 obtain ⟨c,_,rfl⟩:=List.mem_map.mp hx
 have:=c.toNat_lt
 omega
theorem rcode_at {C B : Nat} {z : Int → Int} {p2 p3 c b : Int} (h2 : p2 = 1 ∨ p2 = 2) (hC : (C : Int) = p2) (hB : (B : Int) = p3) (hp3 : p3 ≤ 8) (c0 : 0 ≤ c) (c1 : c < p2) (b0 : 0 ≤ b) (b1' : b < p3) : kwrap .i64 (kwrap .i64 (b * p2) + c) = b * p2 + c ∧ 0 ≤ b * p2 + c ∧ b * p2 + c < ((tabv (B * C) z).length : Int) ∧ Kd.nth (.int .i64) (tabv (B * C) z) (Int.toNat (b * p2 + c)) = at' (row (rw_ C B z) c) b:=by
 have htl:=tab_len (B * C) z
 have hbc : 0 ≤ b * p2 + c ∧ b * p2 + c < ((B * C : Nat) : Int) ∧ b * p2 ≤ 20 ∧ 0 ≤ b * p2:=by
  rcases h2 with h2 | h2
  ·have : C = 1:=by omega
   subst this; rw [h2]; omega
  ·have : C = 2:=by omega
   subst this; rw [h2]; omega
 have e:=rw_at (C:=C) (B:=B) (z:=z) (c:=c.toNat) (b:=b.toNat) (by omega) (by omega)
 rw [show ((c.toNat : Nat) : Int) = c by omega,show ((b.toNat : Nat) : Int) = b by omega] at e
 have e2 : ((b.toNat * C + c.toNat : Nat) : Int) = b * p2 + c:=by
  rcases h2 with h2 | h2
  ·have : C = 1:=by omega
   subst this; rw [h2]; omega
  ·have : C = 2:=by omega
   subst this; rw [h2]; omega
 have k1 : kwrap .i64 (b * p2) = b * p2:=kw64 (by omega) (by omega)
 refine ⟨by rw [k1]; exact kw64 (by omega) (by omega),hbc.1,by rw [htl]; exact hbc.2.1,?_⟩
 rw [e,e2]
 exact tab_at (B * C) z _ hbc.1 hbc.2.1
theorem rparse_x (p0 p1 p2 p3 p4 p5 p6 p7 p8 p9 : Int) (hm : may0 p0 p1 p2 p3 p4 p5 p6 p7 p8 p9) {s : ByteArray} (hsz : (s.size : Int) = payZ p2 p3 p4 p6 p7) {M : List Int} (hMe : M = ofB (sbytes s)) {C B : Nat} {z : Int → Int} (h : Shr p0 p1 p2 p3 p4 p5 p6 p7 p8 p9 (sx M p2 p3 p6) C B z) (hsr : psalteryref12_Share 5000 p0 p1 p2 p3 p4 p5 p6 p7 p8 p9 (sx M p2 p3 p6) = some (tabv (B * C) z)) : Ok (fun r=>(subband_Pack 5000 p0 p1 p2 p3 p4 p5 p6 p7 p8 p9 (jx M p3 p6) (sx M p2 p3 p6) (qx M (x2 p2 p3 p6) (rw_ C B z) p4.toNat) = some (sbytes s,0) → r = (jx M p3 p6,sx M p2 p3 p6,qx M (x2 p2 p3 p6) (rw_ C B z) p4.toNat,true)) ∧ (¬ subband_Pack 5000 p0 p1 p2 p3 p4 p5 p6 p7 p8 p9 (jx M p3 p6) (sx M p2 p3 p6) (qx M (x2 p2 p3 p6) (rw_ C B z) p4.toNat) = some (sbytes s,0) → r = ([],[],[],false))) (psalteryref14_Parse 5000 p0 p1 p2 p3 p4 p5 p6 p7 p8 p9 s):=by
 have h2 : p2 = 1 ∨ p2 = 2:=hm.1.2.2.2.1
 have h3 : p3 = 4 ∨ p3 = 8:=hm.1.2.2.2.2.1
 have h4 : p4 = 4 ∨ p4 = 8 ∨ p4 = 12 ∨ p4 = 16:=hm.1.2.2.2.2.2.1
 have h6 : p6 = 0 ∨ (p6 = 1 ∧ p2 = 2):=hm.1.2.2.2.2.2.2.2.1
 have hz:=payZ_in p0 p1 p2 p3 p4 p5 p6 p7 p8 p9 hm
 have hC:=h.hC
 have hB:=h.hB
 have hf:=h.hf
 have hM : Bit M:=by rw [hMe]; exact ofB_bit _
 have hMl : M.length = 8 * s.size:=by rw [hMe,ofB_len,sbytes_len]
 have hsh : Sh p2 p3 (rw_ C B z):=by rw [← hC,← hB]; exact rw_sh
 have hbw:=bw_sm (C:=C) (B:=B) (z:=z) (by omega) (fun i=>(h.hz i).1)
 have hsum:=h.hs
 have hle : p4 * sm z (B * C) ≤ p4 * p7:=Int.mul_le_mul_of_nonneg_left hsum (by omega)
 have hx12 : ((x2 p2 p3 p6 : Nat) : Int) = 32 + p6 * p3 + 4 * p3 * p2 ∧ ((x1 p3 p6 : Nat) : Int) = 32 + p6 * p3 ∧ x1 p3 p6 ≤ x2 p2 p3 p6:=by
  unfold x2 x1
  rcases h6 with h6 | ⟨h6,h6'⟩
  ·rw [if_neg (by omega),h6]
   rcases h2 with h2 | h2 <;> rw [h2] <;> refine ⟨?_,?_,?_⟩ <;> simp <;> omega
  ·rw [if_pos h6,h6,h6']
   refine ⟨?_,?_,?_⟩ <;> simp <;> omega
 have hall : x2 p2 p3 p6 + p4.toNat * fo (gr (rw_ C B z)) (rw_ C B z).length ≤ M.length:=by
  have e : ((p4.toNat * fo (gr (rw_ C B z)) (rw_ C B z).length : Nat) : Int) = p4 * sm z (B * C):=by rw [← hbw,Int.natCast_mul,Int.toNat_of_nonneg (by omega)]
  have hp : payZ p2 p3 p4 p6 p7 = (32 + p6 * p3 + 4 * p3 * p2 + p4 * p7 + 7) / 8:=rfl
  omega
 have hw2 : ∀ c,0 ≤ c → c < p2 → ∀ i,0 ≤ i → i < p3 → 0 ≤ at' (row (rw_ C B z) c) i ∧ at' (row (rw_ C B z) c) i ≤ 32:=by
  intro c c0 c1 b b0 b1
  have e:=rw_at (C:=C) (B:=B) (z:=z) (c:=c.toNat) (b:=b.toNat) (by omega) (by omega)
  rw [show ((c.toNat : Nat) : Int) = c by omega,show ((b.toNat : Nat) : Int) = b by omega] at e
  rw [e]
  have:=h.hz ((b.toNat * C + c.toNat : Nat) : Int)
  omega
 have hsl:=hsh.1
 generalize hbwe : fo (gr (rw_ C B z)) (rw_ C B z).length = bw at *
 refine Ok.bind (refpay_ok p0 p1 p2 p3 p4 p5 p6 p7 p8 p9 hm.1) ?_
 rintro _ rfl
 refine Ok.ite (fun c=>absurd hsz (ne_t c)) (fun _=>?_)
 refine Ok.bind (rof_ok (by rw [sbytes_len]; omega) (fun i hi=>?_)) ?_
 ·have hx:=sb_r s ((sbytes s)[i]) (List.getElem_mem hi)
  have e : at' (sbytes s) i = (sbytes s)[i]:=by
   show (sbytes s).getD i 0 = _
   rw [List.getD_eq_getElem?_getD,List.getElem?_eq_getElem hi]; rfl
  rw [e]; exact hx
 rintro _ rfl
 rw [← hMe]
 refine Ok.gd ⟨by omega,by omega,by omega⟩ (Ok.bind (Q:=fun r=>r = (((x1 p3 p6 : Nat) : Int),jx M p3 p6)) ?_ ?_)
 ·unfold psalteryref14_Parse.l5
  by_cases c6 : p6 = 1
  ·have hx1e : x1 p3 p6 = 32 + p3.toNat:=by unfold x1; rw [if_pos c6]
   refine rounds_ok3 (fun y i l=>0 ≤ i ∧ i ≤ p3 ∧ y = ((32 + i.toNat : Nat) : Int) ∧ l = tabv p3.toNat (fun q=>if q < i then nb M (32 + q.toNat) 1 else 0)) (fun _ i _=>(p3 - i).toNat) _ ?_ 5000 _ _ _ ⟨by omega,by omega,rfl,?_⟩ (by omega)
   ·rintro next y i l ⟨g1,g2,g3,g4⟩ ih
    have hll : (l.length : Int) = p3:=by rw [g4,tab_len]; omega
    refine Ok.ite (fun d=>?_) (fun d=>Ok.some ?_)
    ·obtain ⟨d,_⟩:=and_t d
     have d:=dt d
     have e:=kw1 (x:=i) (by omega) (by omega)
     have e2:=kw1 (x:=y) (by omega) (by omega)
     refine Ok.bind (rnum_ok hM (by omega) (x:=32 + i.toNat) (w:=1) (by decide) (by omega) g3) ?_
     rintro _ rfl
     refine Ok.gd ⟨g1,by omega⟩ (Ok.gd (by omega) (ih _ _ _ ⟨by omega,by omega,by rw [e,e2]; omega,?_⟩ (by omega)))
     rw [e,g4,tab_set]
     apply tab_cg
     intro j j0 j1
     by_cases q : j = i
     ·rw [if_pos (by omega),if_pos (by omega),q]; rfl
     ·rw [if_neg (by omega)]
      by_cases q2 : j < i
      ·rw [if_pos q2,if_pos (by omega)]
      ·rw [if_neg q2,if_neg (by omega)]
    ·have d : ¬ i < p3:=by
      rcases and_f d with d | d
      ·exact df d
      ·rw [c6] at d; cases d
     rw [g3,g4,hx1e,show i.toNat = p3.toNat by omega]
     unfold jx
     rw [if_pos c6,numsB_nb]
     congr 1
     unfold tabv
     apply List.map_congr_left
     intro q hq
     have hq:=List.mem_range.mp hq
     show (if (q : Int) < i then nb M (32 + (q : Int).toNat) 1 else 0) = _
     rw [if_pos (by omega),Nat.mul_one]; rfl
   ·apply List.ext_getElem
    ·simp [tabv]
    ·intro q a1 a2
     rw [List.getElem_replicate]
     simp only [tabv,List.getElem_map,List.getElem_range]
     rw [if_neg (by omega)]
  ·refine rounds_ok3 (fun y i l=>y = ((x1 p3 p6 : Nat) : Int) ∧ l = jx M p3 p6) (fun _ _ _=>0) _ ?_ 5000 _ _ _ ⟨by unfold x1; rw [if_neg c6]; rfl,by unfold jx; rw [if_neg c6]⟩ (by omega)
   rintro next y i l ⟨rfl,rfl⟩ ih
   refine Ok.ite (fun d=>?_) (fun d=>Ok.some rfl)
   obtain ⟨_,d⟩:=and_t d
   exact absurd (by simpa using d) c6
 rintro _ rfl
 refine Ok.bind (Q:=fun r=>r = (((x2 p2 p3 p6 : Nat) : Int),sx M p2 p3 p6)) ?_ ?_
 ·unfold psalteryref14_Parse.l3
  refine rounds_ok3 (fun y i Z=>0 ≤ i ∧ i ≤ p2 ∧ y = ((x1 p3 p6 + i.toNat * (p3.toNat * 4) : Nat) : Int) ∧ Z = (List.range i.toNat).map fun c=>numsB M (x1 p3 p6 + c * (p3.toNat * 4)) 4 p3.toNat) (fun _ i _=>(p2 - i).toNat) _ ?_ 5000 _ _ _ ⟨by omega,by omega,by simp,rfl⟩ (by omega)
  rintro next y i Z ⟨g1,g2,g3,g4⟩ ih
  have hZl : (Z.length : Int) = i:=by rw [g4]; simp; omega
  refine Ok.ite (fun d=>?_) (fun d=>Ok.some ?_)
  ·have d:=dt d
   have hpos : x1 p3 p6 + i.toNat * (p3.toNat * 4) + p3.toNat * 4 ≤ x2 p2 p3 p6:=by
    unfold x2
    have : i.toNat = 0 ∨ i.toNat = 1:=by omega
    rcases this with q | q <;> rw [q] <;> rcases h2 with h2 | h2 <;> rw [h2] <;> simp <;> omega
   generalize hx0 : x1 p3 p6 + i.toNat * (p3.toNat * 4) = x0 at *
   refine Ok.bind (Q:=fun r=>r = (((x0 + p3.toNat * 4 : Nat) : Int),numsB M x0 4 p3.toNat)) ?_ ?_
   ·unfold psalteryref14_Parse.l4
    refine rounds_ok3 (fun y b l=>0 ≤ b ∧ b ≤ p3 ∧ y = ((x0 + b.toNat * 4 : Nat) : Int) ∧ l = (List.range b.toNat).map fun q=>nb M (x0 + q * 4) 4) (fun _ b _=>(p3 - b).toNat) _ ?_ 5000 _ _ _ ⟨by omega,by omega,by rw [g3]; simp,rfl⟩ (by omega)
    rintro next2 y b l ⟨f1,f2,f3,f4⟩ ih2
    have hll : (l.length : Int) = b:=by rw [f4]; simp; omega
    refine Ok.ite (fun d2=>?_) (fun d2=>Ok.some ?_)
    ·have d2:=dt d2
     have e:=kw1 (x:=b) (by omega) (by omega)
     have e2 : kwrap .i64 (y + 4) = y + 4:=kw64 (by omega) (by omega)
     refine Ok.bind (rnum_ok hM (by omega) (x:=x0 + b.toNat * 4) (w:=4) (by decide) (by show x0 + b.toNat * 4 + 4 ≤ _; omega) f3) ?_
     rintro _ rfl
     refine Ok.gd (by show ((l.length : Int) + 1) * 8 ≤ _; omega) (ih2 _ _ _ ⟨by omega,by omega,by rw [e,e2]; omega,?_⟩ (by omega))
     rw [e,tS f1,rs_map,← f4]; rfl
    ·have d2:=df d2
     rw [f3,f4,show b.toNat = p3.toNat by omega,numsB_nb]
   ·rintro _ rfl
    refine Ok.gd (by show ((Z.length : Int) + 1) * 24 ≤ _; omega) ?_
    have e:=kw1 (x:=i) (by omega) (by omega)
    refine ih _ _ _ ⟨by omega,by omega,?_,?_⟩ (by omega)
    ·rw [e,tS g1,Nat.add_mul,Nat.one_mul,← hx0,Nat.add_assoc]
    ·rw [e,tS g1,rs_map,← g4,hx0]
  ·have d:=df d
   rw [g3,g4,show i.toNat = p2.toNat by omega]; rfl
 rintro _ rfl
 refine Ok.bind (Ok.is hsr) ?_
 rintro _ rfl
 refine Ok.bind (Q:=fun r=>r = qx M (x2 p2 p3 p6) (rw_ C B z) p4.toNat) ?_ ?_
 ·unfold psalteryref14_Parse.l0
  refine rounds_ok3 (fun y i Z=>0 ≤ i ∧ i ≤ p4 ∧ y = ((x2 p2 p3 p6 + i.toNat * bw : Nat) : Int) ∧ Z = (List.range i.toNat).map fun i=>blkx M (x2 p2 p3 p6 + i * bw) (rw_ C B z)) (fun _ i _=>(p4 - i).toNat) _ ?_ 5000 _ _ _ ⟨by omega,by omega,by simp,rfl⟩ (by omega)
  rintro next y i Z ⟨g1,g2,g3,g4⟩ ih
  have hZl : (Z.length : Int) = i:=by rw [g4]; simp; omega
  refine Ok.ite (fun d=>?_) (fun d=>Ok.some ?_)
  ·have d:=dt d
   have hmul : i.toNat * bw + bw ≤ p4.toNat * bw:=by
    have:=Nat.mul_le_mul_right bw (show i.toNat + 1 ≤ p4.toNat by omega)
    rw [Nat.add_mul,Nat.one_mul] at this; exact this
   generalize hx0 : x2 p2 p3 p6 + i.toNat * bw = x0 at *
   refine Ok.bind (Q:=fun r=>r = (((x0 + bw : Nat) : Int),blkx M x0 (rw_ C B z))) ?_ ?_
   ·unfold psalteryref14_Parse.l1
    refine rounds_ok3 (fun y c Z=>0 ≤ c ∧ c ≤ p2 ∧ y = ((x0 + fo (gr (rw_ C B z)) c.toNat : Nat) : Int) ∧ Z = (List.range c.toNat).map fun c : Nat=>rowx M (x0 + fo (gr (rw_ C B z)) c) (row (rw_ C B z) c)) (fun _ c _=>(p2 - c).toNat) _ ?_ 5000 _ _ _ ⟨by omega,by omega,by rw [g3]; rfl,rfl⟩ (by omega)
    rintro next2 y c Z2 ⟨f1,f2,f3,f4⟩ ih2
    have hZ2 : (Z2.length : Int) = c:=by rw [f4]; simp; omega
    refine Ok.ite (fun d2=>?_) (fun d2=>Ok.some ?_)
    ·have d2:=dt d2
     have hfo:=fo_le (gr (rw_ C B z)) (i:=c.toNat) (n:=(rw_ C B z).length) (by omega)
     have hrl:=hsh.2 c f1 d2
     have hgr : gr (rw_ C B z) c.toNat = fo (gw (row (rw_ C B z) c)) p3.toNat:=by unfold gr; rw [show ((c.toNat : Nat) : Int) = c by omega,show (row (rw_ C B z) c).length = p3.toNat by omega]
     rw [hbwe] at hfo
     generalize hx3 : x0 + fo (gr (rw_ C B z)) c.toNat = x3 at *
     refine Ok.bind (Q:=fun r=>r = (((x3 + gr (rw_ C B z) c.toNat : Nat) : Int),rowx M x3 (row (rw_ C B z) c))) ?_ ?_
     ·unfold psalteryref14_Parse.l2
      refine rounds_ok3 (fun y b l=>0 ≤ b ∧ b ≤ p3 ∧ y = ((x3 + fo (gw (row (rw_ C B z) c)) b.toNat : Nat) : Int) ∧ l = (List.range b.toNat).map fun b=>nb M (x3 + fo (gw (row (rw_ C B z) c)) b) (gw (row (rw_ C B z) c) b)) (fun _ b _=>(p3 - b).toNat) _ ?_ 5000 _ _ _ ⟨by omega,by omega,by rw [f3]; rfl,rfl⟩ (by omega)
      rintro next3 y b l ⟨e1,e2,e3,e4⟩ ih3
      have hll : (l.length : Int) = b:=by rw [e4]; simp; omega
      refine Ok.ite (fun d3=>?_) (fun d3=>Ok.some ?_)
      ·have d3:=dt d3
       obtain ⟨k1,k2,k3,k4⟩:=rcode_at (z:=z) h2 hC hB (by omega) f1 d2 e1 d3
       have hw:=hw2 c f1 d2 b e1 d3
       have hfo2:=fo_le (gw (row (rw_ C B z) c)) (i:=b.toNat) (n:=p3.toNat) (by omega)
       have hgw : gw (row (rw_ C B z) c) b.toNat = (at' (row (rw_ C B z) c) b).toNat:=by unfold gw; rw [show ((b.toNat : Nat) : Int) = b by omega]
       rw [hgr] at hfo
       have hpos : x3 + fo (gw (row (rw_ C B z) c)) b.toNat + (at' (row (rw_ C B z) c) b).toNat ≤ M.length:=by rw [← hgw]; omega
       dsimp only
       rw [k1,k4]
       refine Ok.gd ⟨k2,k3⟩ (Ok.bind (rnum_ok hM (by omega) (x:=x3 + fo (gw (row (rw_ C B z) c)) b.toNat) hw hpos e3) ?_)
       rintro _ rfl
       have e:=kw1 (x:=b) (by omega) (by omega)
       have ey : kwrap .i64 (y + at' (row (rw_ C B z) c) b) = ((x3 + (fo (gw (row (rw_ C B z) c)) b.toNat + gw (row (rw_ C B z) c) b.toNat) : Nat) : Int):=by rw [kw64 (by omega) (by omega),hgw]; omega
       rw [ey]
       refine Ok.gd (by show ((l.length : Int) + 1) * 8 ≤ _; omega) (ih3 _ _ _ ⟨by omega,by omega,by rw [e,tS e1]; rfl,?_⟩ (by omega))
       rw [e,tS e1,rs_map,← e4,hgw]
      ·have d3:=df d3
       rw [e3,e4,show b.toNat = p3.toNat by omega,hgr]
       unfold rowx
       rw [show (row (rw_ C B z) c).length = p3.toNat by omega]
     ·rintro _ rfl
      refine Ok.gd (by show ((Z2.length : Int) + 1) * 24 ≤ _; omega) ?_
      have e:=kw1 (x:=c) (by omega) (by omega)
      refine ih2 _ _ _ ⟨by omega,by omega,?_,?_⟩ (by omega)
      ·rw [e,tS f1,← hx3]
       show _ = ((x0 + (fo (gr (rw_ C B z)) c.toNat + gr (rw_ C B z) c.toNat) : Nat) : Int)
       rw [Nat.add_assoc]
      ·rw [e,tS f1,rs_map,← f4,hx3,show ((c.toNat : Nat) : Int) = c by omega]
    ·have d2:=df d2
     rw [f3,f4,show c.toNat = (rw_ C B z).length by omega,hbwe]; rfl
   ·rintro _ rfl
    refine Ok.gd (by show ((Z.length : Int) + 1) * 24 ≤ _; omega) ?_
    have e:=kw1 (x:=i) (by omega) (by omega)
    refine ih _ _ _ ⟨by omega,by omega,?_,?_⟩ (by omega)
    ·rw [e,tS g1,Nat.add_mul,Nat.one_mul,← hx0,Nat.add_assoc]
    ·rw [e,tS g1,rs_map,← g4,hx0]
  ·have d:=df d
   unfold qx
   rw [g4,show i.toNat = p4.toNat by omega,hbwe]
 rintro _ rfl
 refine Ok.bind (Q:=fun x=>x = false ↔ subband_Pack 5000 p0 p1 p2 p3 p4 p5 p6 p7 p8 p9 (jx M p3 p6) (sx M p2 p3 p6) (qx M (x2 p2 p3 p6) (rw_ C B z) p4.toNat) = some (sbytes s,0)) ?_ ?_
 ·refine Ok.bind (rmay_ok p0 p1 p2 p3 p4 p5 p6 p7 p8 p9 hm _ _ (by have:=hf.2.1; omega)) ?_
  intro r hr
  refine Ok.ite (fun c=>Ok.some ⟨fun h=>(by cases h),fun hp=>?_⟩) (fun c=>?_)
  ·have hJl : (jx M p3 p6).length ≤ 4000:=by unfold jx; split <;> simp [numsB] <;> omega
   have hQl : (qx M (x2 p2 p3 p6) (rw_ C B z) p4.toNat).length ≤ 4000:=by simp [qx]; omega
   obtain ⟨_,hp2,hpc⟩:=pack_any p0 p1 p2 p3 p4 p5 p6 p7 p8 p9 hf hJl hQl
   rw [hp] at hp2
   injection hp2 with hp2
   subst hp2
   rcases hpc with ⟨hg,_⟩ | ⟨_,he⟩
   ·rw [hr.2 hg] at c; cases c
   ·injection he with _ he
    cases he
  ·have hg:=hr.1 (by simpa using c)
   obtain ⟨b,hp,hbl,hbr,hrp⟩:=rpack_ok p0 p1 p2 p3 p4 p5 p6 p7 p8 p9 h hsr ((gd_pv p0 p1 p2 p3 p4 p5 p6 p7 p8 p9 h).1 hg)
   refine Ok.bind hrp ?_
   rintro _ rfl
   refine Ok.some ?_
   have hbi:=beqs_iff hbr s
   rw [hp]
   constructor
   ·intro hx
    have : beqs (bstr b) s = true:=by simpa using hx
    rw [hbi.1 this]
   ·intro hx
    injection hx with hx
    injection hx with hx
    rw [hbi.2 hx]; rfl
 ·intro x hx
  refine Ok.ite (fun c=>Ok.some ⟨fun hp=>?_,fun _=>rfl⟩) (fun c=>Ok.some ⟨fun _=>rfl,fun hp=>absurd (hx.1 c) hp⟩)
  rw [hx.2 hp] at c; cases c
end Go.Fo
