/- The law. -/
import Derived.Test.YtdfoifpmghandaaGreatSpUm
namespace Go.Fo
set_option maxRecDepth 6000
theorem far_ok (J : List Int) (S : List (List Int)) (Q : List (List (List Int))) : Ok (fun r=>r = false → J.length ≤ 40 ∧ S.length ≤ 10 ∧ Q.length ≤ 40) (psalteryref14_Far 5000 J S Q):=by
 refine Ok.ite (fun _=>Ok.some (fun h=>by cases h)) (fun c=>?_)
 obtain ⟨c,c3⟩:=or_f c
 obtain ⟨c1,c2⟩:=or_f c
 have c1:=df c1; have c2:=df c2; have c3:=df c3
 refine Ok.bind (Q:=fun z=>match z with | .inl _=>True | .inr r=>r = true) ?_ ?_
 ·unfold psalteryref14_Far.l2
  refine rounds_ok1 (fun i=>0 ≤ i ∧ i ≤ (S.length : Int)) (fun i=>((S.length : Int) - i).toNat) _ ?_ 5000 _ ⟨by omega,by omega⟩ (by omega)
  rintro next i ⟨g1,g2⟩ ih
  refine Ok.ite (fun d=>?_) (fun _=>Ok.some trivial)
  have d:=dt d
  have e:=kw1 (x:=i) (by omega) (by omega)
  exact Ok.gd ⟨g1,d⟩ (Ok.ite (fun _=>Ok.some rfl) (fun _=>ih _ ⟨by omega,by omega⟩ (by omega)))
 intro z hz
 cases z with
 | inr r=>exact Ok.some (fun h=>by rw [show r = true from hz] at h; cases h)
 | inl u =>
  refine Ok.bind (Q:=fun z=>match z with | .inl _=>True | .inr r=>r = true) ?_ ?_
  ·unfold psalteryref14_Far.l0
   refine rounds_ok1 (fun i=>0 ≤ i ∧ i ≤ (Q.length : Int)) (fun i=>((Q.length : Int) - i).toNat) _ ?_ 5000 _ ⟨by omega,by omega⟩ (by omega)
   rintro next i ⟨g1,g2⟩ ih
   refine Ok.ite (fun d=>?_) (fun _=>Ok.some trivial)
   have d:=dt d
   have e:=kw1 (x:=i) (by omega) (by omega)
   refine Ok.gd ⟨g1,d⟩ (Ok.ite (fun _=>Ok.some rfl) (fun e3=>?_))
   have e3 : ¬ ((blk Q i).length : Int) > 10:=df e3
   refine Ok.bind (Q:=fun z=>match z with | .inl _=>True | .inr r=>r = true) ?_ ?_
   ·unfold psalteryref14_Far.l1
    refine rounds_ok1 (fun b=>0 ≤ b ∧ b ≤ ((blk Q i).length : Int)) (fun b=>(((blk Q i).length : Int) - b).toNat) _ ?_ 5000 _ ⟨by omega,by omega⟩ (by omega)
    rintro next2 b ⟨f1,f2⟩ ih2
    refine Ok.gd ⟨g1,d⟩ (Ok.ite (fun d2=>?_) (fun _=>Ok.some trivial))
    have d2 : b < ((blk Q i).length : Int):=dt d2
    have e2:=kw1 (x:=b) (by omega) (by omega)
    exact Ok.gd ⟨g1,d,f1,d2⟩ (Ok.ite (fun _=>Ok.some rfl) (fun _=>ih2 _ ⟨by omega,by rw [e2]; show b + 1 ≤ ((blk Q i).length : Int); omega⟩ (by rw [e2]; show (((blk Q i).length : Int) - (b + 1)).toNat < _; omega)))
   ·intro z hz
    cases z with
    | inl u=>exact ih _ ⟨by omega,by omega⟩ (by omega)
    | inr r=>exact Ok.some hz
  ·intro z hz
   cases z with
   | inl u=>exact Ok.some (fun _=>⟨by omega,by omega,by omega⟩)
   | inr r=>exact Ok.some (fun h=>by rw [show r = true from hz] at h; cases h)
theorem ints_ok {a : List Int} (ha : a.length ≤ 4000) : Ok (fun r=>r = true) (psalteryref14_ints 5000 a a):=by
 refine Ok.ite (fun c=>by rw [bne_self_eq_false] at c; cases c) (fun _=>?_)
 refine Ok.bind (Q:=fun z=>z = .inl ()) ?_ (fun z hz=>by rw [show z = .inl () from hz]; exact Ok.some rfl)
 unfold psalteryref14_ints.l0
 refine rounds_ok1 (fun i=>0 ≤ i ∧ i ≤ (a.length : Int)) (fun i=>((a.length : Int) - i).toNat) _ ?_ 5000 _ ⟨by omega,by omega⟩ (by omega)
 rintro next i ⟨g1,g2⟩ ih
 refine Ok.ite (fun d=>?_) (fun _=>Ok.some rfl)
 have d:=dt d
 refine Ok.gd ⟨g1,d⟩ (Ok.gd ⟨g1,d⟩ (Ok.ite (fun c=>by rw [bne_self_eq_false] at c; cases c) (fun _=>?_)))
 have e:=kw1 (x:=i) (by omega) (by omega)
 exact ih _ ⟨by omega,by omega⟩ (by omega)
theorem lists_ok {a : List (List Int)} (ha : a.length ≤ 4000) (hr : ∀ i,0 ≤ i → i < (a.length : Int) → (row a i).length ≤ 4000) : Ok (fun r=>r = true) (psalteryref14_lists 5000 a a):=by
 refine Ok.ite (fun c=>by rw [bne_self_eq_false] at c; cases c) (fun _=>?_)
 refine Ok.bind (Q:=fun z=>z = .inl ()) ?_ (fun z hz=>by rw [show z = .inl () from hz]; exact Ok.some rfl)
 unfold psalteryref14_lists.l0
 refine rounds_ok1 (fun i=>0 ≤ i ∧ i ≤ (a.length : Int)) (fun i=>((a.length : Int) - i).toNat) _ ?_ 5000 _ ⟨by omega,by omega⟩ (by omega)
 rintro next i ⟨g1,g2⟩ ih
 refine Ok.ite (fun d=>?_) (fun _=>Ok.some rfl)
 have d:=dt d
 refine Ok.gd ⟨g1,d⟩ (Ok.gd ⟨g1,d⟩ (Ok.bind (ints_ok (hr i g1 d)) ?_))
 rintro _ rfl
 refine Ok.ite (fun h=>by cases h) (fun _=>?_)
 have e:=kw1 (x:=i) (by omega) (by omega)
 exact ih _ ⟨by omega,by omega⟩ (by omega)
theorem same_ok {J : List Int} {S : List (List Int)} {Q : List (List (List Int))} (hJ : J.length ≤ 4000) (hS : S.length ≤ 4000) (hSr : ∀ i,0 ≤ i → i < (S.length : Int) → (row S i).length ≤ 4000) (hQ : Q.length ≤ 4000) (hQr : ∀ i,0 ≤ i → i < (Q.length : Int) → (blk Q i).length ≤ 4000 ∧ ∀ c,0 ≤ c → c < ((blk Q i).length : Int) → (row (blk Q i) c).length ≤ 4000) : Ok (fun r=>r = true) (psalteryref14_Same 5000 J S Q J S Q):=by
 refine Ok.bind (Q:=fun x=>x = false) (Ok.bind (ints_ok hJ) ?_) ?_
 ·rintro _ rfl
  refine Ok.ite (fun h=>by cases h) (fun _=>Ok.bind (lists_ok hS hSr) ?_)
  rintro _ rfl
  refine Ok.some ?_
  show (bif false then true else ((Q.length : Int) != (Q.length : Int))) = false
  rw [bne_self_eq_false]; rfl
 rintro _ rfl
 refine Ok.ite (fun h=>by cases h) (fun _=>?_)
 refine Ok.bind (Q:=fun z=>z = .inl ()) ?_ (fun z hz=>by rw [show z = .inl () from hz]; exact Ok.some rfl)
 unfold psalteryref14_Same.l0
 refine rounds_ok1 (fun i=>0 ≤ i ∧ i ≤ (Q.length : Int)) (fun i=>((Q.length : Int) - i).toNat) _ ?_ 5000 _ ⟨by omega,by omega⟩ (by omega)
 rintro next i ⟨g1,g2⟩ ih
 refine Ok.ite (fun d=>?_) (fun _=>Ok.some rfl)
 have d:=dt d
 have hq:=hQr i g1 d
 refine Ok.gd ⟨g1,d⟩ (Ok.gd ⟨g1,d⟩ (Ok.bind (lists_ok hq.1 hq.2) ?_))
 rintro _ rfl
 refine Ok.ite (fun h=>by cases h) (fun _=>?_)
 have e:=kw1 (x:=i) (by omega) (by omega)
 exact ih _ ⟨by omega,by omega⟩ (by omega)
theorem pack_all (p0 p1 p2 p3 p4 p5 p6 p7 p8 p9 : Int) (hm : may0 p0 p1 p2 p3 p4 p5 p6 p7 p8 p9) {J : List Int} {S : List (List Int)} {Q : List (List (List Int))} (hJ : J.length ≤ 4000) (hQ : Q.length ≤ 4000) : Ok (fun r=>(MayBe p0 p1 p2 p3 p4 p5 p6 p7 p8 p9 J S Q ∧ r.2 = 0) ∨ (¬ MayBe p0 p1 p2 p3 p4 p5 p6 p7 p8 p9 J S Q ∧ r = ([],1))) (subband_Pack 5000 p0 p1 p2 p3 p4 p5 p6 p7 p8 p9 J S Q):=by
 by_cases hf : Fit p0 p1 p2 p3 p4 p5 p6 p7 p8 p9 S
 ·exact (pack_any p0 p1 p2 p3 p4 p5 p6 p7 p8 p9 hf hJ hQ).mono (fun r hr=>by
   rcases hr with ⟨a,b,_⟩ | h
   ·exact .inl ⟨a,b⟩
   ·exact .inr h)
 ·obtain ⟨⟨sh,ok⟩,hs,hv⟩:=pshare_ok p0 p1 p2 p3 p4 p5 p6 p7 p8 p9 J S Q hm hJ hQ
  have hok : ok = false:=by
   cases hk : ok
   ·rfl
   ·exact absurd (hv hk).1 hf
  subst hok
  refine Ok.bind (Ok.is ((smay_w p0 p1 p2 p3 p4 p5 p6 p7 p8 p9).trans (by rw [if_pos hm]))) ?_
  rintro _ rfl
  refine Ok.ite (fun h=>by cases h) (fun _=>Ok.bind (Ok.is hs) ?_)
  rintro _ rfl
  exact Ok.ite (fun _=>Ok.some (.inr ⟨fun ⟨_,_,_,h,_⟩=>hf h.hf,rfl⟩)) (fun h=>by cases h)
theorem alive_t : psalterylaw14_alive 5000 = some true:=by kernel_rfl
theorem both_ok (p0 p1 p2 p3 p4 p5 p6 p7 p8 p9 : Int) (hm : may0 p0 p1 p2 p3 p4 p5 p6 p7 p8 p9) (s : ByteArray) (hs : s.size ≤ 2000) : ∃ J S Q e ok,subband_Parse 5000 p0 p1 p2 p3 p4 p5 p6 p7 p8 p9 (sbytes s) = some (J,S,Q,e) ∧ psalteryref14_Parse 5000 p0 p1 p2 p3 p4 p5 p6 p7 p8 p9 s = some (J,S,Q,ok) ∧ ((e = 0 ∧ ok = true) ∨ (e = 140 ∧ ok = false)) ∧ Ok (fun r=>r = true) (psalteryref14_Same 5000 J S Q J S Q):=by
 have h2 : p2 = 1 ∨ p2 = 2:=hm.1.2.2.2.1
 have h3 : p3 = 4 ∨ p3 = 8:=hm.1.2.2.2.2.1
 have h4 : p4 = 4 ∨ p4 = 8 ∨ p4 = 12 ∨ p4 = 16:=hm.1.2.2.2.2.2.1
 have hz:=payZ_in p0 p1 p2 p3 p4 p5 p6 p7 p8 p9 hm
 have hnil : Ok (fun r=>r = true) (psalteryref14_Same 5000 [] [] [] [] [] []):=same_ok (by decide) (by decide) (fun i i0 i1=>by have i1 : i < 0:=i1; omega) (by decide) (fun i i0 i1=>by have i1 : i < 0:=i1; omega)
 by_cases hsz : (s.size : Int) = payZ p2 p3 p4 p6 p7
 ·have hM:=ofB_bit (sbytes s)
  have hpk : pk (payZ p2 p3 p4 p6 p7).toNat (ofB (sbytes s)) = sbytes s:=by
   have:=ofB_pk (b:=sbytes s) (fun i hi=>by
    have hx:=sb_r s ((sbytes s)[i]) (List.getElem_mem hi)
    have e : at' (sbytes s) i = (sbytes s)[i]:=by
     show (sbytes s).getD i 0 = _
     rw [List.getD_eq_getElem?_getD,List.getElem?_eq_getElem hi]; rfl
    rw [e]; exact hx)
   rw [sbytes_len] at this
   rw [show (payZ p2 p3 p4 p6 p7).toNat = s.size by omega]; exact this
  have hf:=sx_fit p0 p1 p2 p3 p4 p5 p6 p7 p8 p9 hm hM
  obtain ⟨C,B,z,h,hsr⟩:=shr_ref p0 p1 p2 p3 p4 p5 p6 p7 p8 p9 hf
  obtain ⟨r1,q1,k1,k1'⟩:=parse_x p0 p1 p2 p3 p4 p5 p6 p7 p8 p9 hm hM h
  obtain ⟨r2,q2,k2,k2'⟩:=rparse_x p0 p1 p2 p3 p4 p5 p6 p7 p8 p9 hm hsz rfl h hsr
  rw [hpk] at q1 k1 k1'
  by_cases hp : subband_Pack 5000 p0 p1 p2 p3 p4 p5 p6 p7 p8 p9 (jx (ofB (sbytes s)) p3 p6) (sx (ofB (sbytes s)) p2 p3 p6) (qx (ofB (sbytes s)) (x2 p2 p3 p6) (rw_ C B z) p4.toNat) = some (sbytes s,0)
  ·have e1:=k1 hp
   have e2:=k2 hp
   subst e1 e2
   have hC:=h.hC
   have hB:=h.hB
   refine ⟨_,_,_,_,_,q1,q2,.inl ⟨rfl,rfl⟩,same_ok ?_ (by have:=hf.2.1; omega) (fun i i0 i1=>by have:=(hf.2.2 i i0 (by have:=hf.2.1; omega)).1; omega) (by simp [qx]; omega) (fun i i0 i1=>?_)⟩
   ·unfold jx; split <;> simp [numsB] <;> omega
   ·have e : blk (qx (ofB (sbytes s)) (x2 p2 p3 p6) (rw_ C B z) p4.toNat) i = blkx (ofB (sbytes s)) (x2 p2 p3 p6 + i.toNat * fo (gr (rw_ C B z)) (rw_ C B z).length) (rw_ C B z):=by
     have i1 : i < (p4.toNat : Int):=by simpa [qx] using i1
     show (qx (ofB (sbytes s)) (x2 p2 p3 p6) (rw_ C B z) p4.toNat).getD i.toNat [] = _
     unfold qx
     rw [List.getD_eq_getElem?_getD,List.getElem?_eq_getElem (by simp; omega)]
     simp
    rw [e]
    refine ⟨by rw [blkx_len,rw_len]; omega,fun c c0 c1=>?_⟩
    rw [blkx_len,rw_len] at c1
    rw [blkx_row _ _ _ c0 (by rw [rw_len]; exact c1)]
    have:=rw_rlen (C:=C) (B:=B) (z:=z) (c:=c.toNat) (by omega)
    rw [show ((c.toNat : Nat) : Int) = c by omega] at this
    simp [rowx]; omega
  ·have e1:=k1' hp
   have e2:=k2' hp
   subst e1 e2
   exact ⟨_,_,_,_,_,q1,q2,.inr ⟨rfl,rfl⟩,hnil⟩
 ·have q1 : subband_Parse 5000 p0 p1 p2 p3 p4 p5 p6 p7 p8 p9 (sbytes s) = some ([],[],[],140):=bnd_eq ((smay_w p0 p1 p2 p3 p4 p5 p6 p7 p8 p9).trans (by rw [if_pos hm])) (bif_eq_f rfl (bnd_eq (Pay_w p0 p1 p2 p3 p4 p5 p6 p7 p8 p9 hm) (bif_eq_t (by rw [sbytes_len]; simpa using hsz) rfl)))
  obtain ⟨_,hr,rfl⟩:=refpay_ok p0 p1 p2 p3 p4 p5 p6 p7 p8 p9 hm.1
  have q2 : psalteryref14_Parse 5000 p0 p1 p2 p3 p4 p5 p6 p7 p8 p9 s = some ([],[],[],false):=bnd_eq hr (bif_eq_t (by simpa using hsz) rfl)
  exact ⟨_,_,_,_,_,q1,q2,.inr ⟨rfl,rfl⟩,hnil⟩
theorem packs_w (p0 p1 p2 p3 p4 p5 p6 p7 p8 p9 : Int) (J : List Int) (S : List (List Int)) (Q : List (List (List Int))) (s : ByteArray) : psalterylaw14_SubPacks 5000 p0 p1 p2 p3 p4 p5 p6 p7 p8 p9 J S Q s = some true:=by
 have key : Ok (fun r=>r = true) (psalterylaw14_SubPacks 5000 p0 p1 p2 p3 p4 p5 p6 p7 p8 p9 J S Q s):=by
  refine Ok.bind (Ok.is alive_t) ?_
  rintro _ rfl
  refine Ok.ite (fun h=>by cases h) (fun _=>Ok.bind (far_ok J S Q) ?_)
  intro far hfar
  refine Ok.ite (fun _=>Ok.some rfl) (fun c=>?_)
  obtain ⟨c1,c2⟩:=or_f c
  obtain ⟨hJ,hS,hQ⟩:=hfar c1
  have c2:=df c2
  by_cases hm : may0 p0 p1 p2 p3 p4 p5 p6 p7 p8 p9
  ·obtain ⟨⟨b,e⟩,hpe,hpk⟩:=pack_all p0 p1 p2 p3 p4 p5 p6 p7 p8 p9 hm (J:=J) (S:=S) (Q:=Q) (by omega) (by omega)
   refine Ok.bind (Ok.is hpe) ?_
   rintro _ rfl
   obtain ⟨J',S',Q',e',ok,q1,q2,hcase,hsame⟩:=both_ok p0 p1 p2 p3 p4 p5 p6 p7 p8 p9 hm s (by omega)
   refine Ok.bind (Ok.is q1) ?_
   rintro _ rfl
   refine Ok.bind (sub_ok p0 p1 p2 p3 p4 p5 p6 p7 p8 p9) ?_
   intro r hr
   rw [hr.2 hm]
   refine Ok.ite (fun h=>by cases h) (fun _=>Ok.bind (rmay_ok p0 p1 p2 p3 p4 p5 p6 p7 p8 p9 hm J Q (by omega)) ?_)
   intro r2 hr2
   refine Ok.bind (Q:=fun z=>z = .inl ()) ?_ ?_
   ·refine Ok.ite (fun c=>?_) (fun c=>?_)
    ·have c : r2 = false:=by simpa using c
     rcases hpk with ⟨hg,_⟩ | ⟨_,he⟩
     ·rw [hr2.2 hg] at c; cases c
     ·injection he with x1 x2
      subst x1 x2
      exact Ok.ite (fun h=>by cases h) (fun _=>Ok.some rfl)
    ·have c : r2 = true:=by simpa using c
     have hg:=hr2.1 c
     rcases hpk with ⟨_,he⟩ | ⟨hn,_⟩
     ·have he : e = 0:=he
      subst he
      obtain ⟨C,B,z,hs,hv⟩:=hg
      obtain ⟨C',B',z',hs',hsr'⟩:=shr_ref p0 p1 p2 p3 p4 p5 p6 p7 p8 p9 hs.hf
      obtain ⟨b',hp',_,_,hrp⟩:=rpack_ok p0 p1 p2 p3 p4 p5 p6 p7 p8 p9 hs' hsr' ((gd_pv p0 p1 p2 p3 p4 p5 p6 p7 p8 p9 hs').1 ⟨C,B,z,hs,hv⟩)
      have eb : b = b':=by
       have:=hpe.symm.trans hp'
       injection this with this
       injection this
      refine Ok.bind (Q:=fun x=>x = false) (Ok.ite (fun h=>by cases h) (fun _=>Ok.bind hrp ?_)) ?_
      ·rintro _ rfl
       refine Ok.some ?_
       rw [eb]
       show (bif ((0 : Int) != 0) then true else !(beqs (bstr b') (bstr b'))) = false
       rw [show beqs (bstr b') (bstr b') = true by unfold beqs; exact beq_self_eq_true _]; rfl
      ·rintro _ rfl
       exact Ok.ite (fun h=>by cases h) (fun _=>Ok.some rfl)
     ·exact absurd hg hn
   ·rintro _ rfl
    refine Ok.bind (Ok.is q2) ?_
    rintro _ rfl
    refine Ok.bind hsame ?_
    rintro _ rfl
    refine Ok.some ?_
    rcases hcase with ⟨rfl,rfl⟩ | ⟨rfl,rfl⟩ <;> rfl
  ·have hmay : subband_may 5000 p0 p1 p2 p3 p4 p5 p6 p7 p8 p9 = some 110:=(smay_w p0 p1 p2 p3 p4 p5 p6 p7 p8 p9).trans (by rw [if_neg hm])
   have hp : subband_Pack 5000 p0 p1 p2 p3 p4 p5 p6 p7 p8 p9 J S Q = some ([],110):=bnd_eq hmay (bif_eq_t rfl rfl)
   have hq : subband_Parse 5000 p0 p1 p2 p3 p4 p5 p6 p7 p8 p9 (sbytes s) = some ([],[],[],110):=bnd_eq hmay (bif_eq_t rfl rfl)
   refine Ok.bind (Ok.is hp) ?_
   rintro _ rfl
   refine Ok.bind (Ok.is hq) ?_
   rintro _ rfl
   refine Ok.bind (sub_ok p0 p1 p2 p3 p4 p5 p6 p7 p8 p9) ?_
   intro r hr
   have hrf : r = false:=by
    cases hk : r
    ·rfl
    ·exact absurd (hr.1 hk) hm
   subst hrf
   exact Ok.ite (fun _=>Ok.some rfl) (fun h=>by cases h)
 obtain ⟨_,h,rfl⟩:=key
 exact h
end Go.Fo
