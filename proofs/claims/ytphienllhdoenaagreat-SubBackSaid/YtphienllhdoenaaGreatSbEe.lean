/- A packed frame is parsed to what it was packed of. -/
import Derived.Test.YtphienllhdoenaaGreatSbEd
namespace Go.Fo
set_option maxRecDepth 6000
theorem parse_w (p0 p1 p2 p3 p4 p5 p6 p7 p8 p9 : Int) {J : List Int} {S : List (List Int)} {Q : List (List (List Int))} {C B : Nat} {z : Int → Int} (h : Shr p0 p1 p2 p3 p4 p5 p6 p7 p8 p9 S C B z) (hv : PV p0 p1 p2 p3 p4 p5 p6 p7 p8 p9 J S Q (rw_ C B z)) {b : List Int} (hb : subband_Pack 5000 p0 p1 p2 p3 p4 p5 p6 p7 p8 p9 J S Q = some (b,0)) : (b.length : Int) = payZ p2 p3 p4 p6 p7 ∧ Ok (fun r=>r = (J,S,Q,0)) (subband_Parse 5000 p0 p1 p2 p3 p4 p5 p6 p7 p8 p9 b):=by
 have hm:=h.hf.1
 have h2 : p2 = 1 ∨ p2 = 2:=hm.1.2.2.2.1
 have h3 : p3 = 4 ∨ p3 = 8:=hm.1.2.2.2.2.1
 have h4 : p4 = 4 ∨ p4 = 8 ∨ p4 = 12 ∨ p4 = 16:=hm.1.2.2.2.2.2.1
 have h6 : p6 = 0 ∨ (p6 = 1 ∧ p2 = 2):=hm.1.2.2.2.2.2.2.2.1
 have hz:=payZ_in p0 p1 p2 p3 p4 p5 p6 p7 p8 p9 hm
 obtain ⟨s,hsr,hP⟩:=pack_w p0 p1 p2 p3 p4 p5 p6 p7 p8 p9 h hv
 have hbe : b = pk (payZ p2 p3 p4 p6 p7).toNat (bns (frL p1 p2 p3 p4 p5 p6 p7 s J S Q (rw_ C B z))):=by
  have:=hb.symm.trans hP
  injection this with this
  injection this
 have hbl : (b.length : Int) = payZ p2 p3 p4 p6 p7:=by rw [hbe,pk_len]; omega
 refine ⟨hbl,?_⟩
 have hW:=wid_all p0 p1 p2 p3 p4 p5 p6 p7 p8 p9 h hv s
 have hF:=all_fits p0 p1 p2 p3 p4 p5 p6 p7 p8 p9 h.hf hv hsr
 generalize hn : (payZ p2 p3 p4 p6 p7).toNat = n at *
 have hn6 : n ≤ 600:=by omega
 have hfr : ∃ L,L = frL p1 p2 p3 p4 p5 p6 p7 s J S Q (rw_ C B z):=⟨_,rfl⟩
 obtain ⟨L,hL⟩:=hfr
 rw [← hL] at hW hF hbe
 have hC:=h.hC
 have hB:=h.hB
 have hsh : Sh p2 p3 (rw_ C B z):=by rw [← hC,← hB]; exact rw_sh
 generalize hshe : rw_ C B z = sh at *
 have hSl:=h.hf.2.1
 have hJ:=hv.1.1
 have hQ:=hv.2.2.1.1
 have hpre:=wid_pre p1 p2 p3 p4 p5 p6 p7 s
 generalize hpe : preL p1 p2 p3 p4 p5 p6 p7 s = P at *
 have hLe : L = P ++ (joinL p6 J ++ scalL S) ++ codesL sh Q:=by rw [hL]; unfold frL; rw [hpe]
 clear hL
 refine Ok.bind (Ok.is ((smay_w p0 p1 p2 p3 p4 p5 p6 p7 p8 p9).trans (by rw [if_pos hm]))) ?_
 rintro _ rfl
 refine Ok.ite (fun h=>by cases h) (fun _=>?_)
 refine Ok.bind (Ok.is (Pay_w p0 p1 p2 p3 p4 p5 p6 p7 p8 p9 hm)) ?_
 rintro _ rfl
 refine Ok.ite (fun c=>?_) (fun _=>?_)
 ·rw [hbl,bne_self_eq_false] at c; cases c
 refine Ok.bind (Q:=fun z=>z = .inr b) (Ok.ite (fun d=>by have:=dt d; omega) (fun _=>Ok.bind (Q:=fun r=>r = b) (clone_ok (by omega) (by omega)) (fun r hr=>Ok.some (by rw [hr])))) ?_
 rintro _ rfl
 have hw32 : 32 ≤ 8 * n:=by rw [hLe,wid_app,wid_app,hpre] at hW; omega
 have hey : ∃ v,bits_Eye_Front_2 5000 32 0 0 b = some (v,0,32):=⟨_,by rw [hbe]; exact eye_w (M:=bns L) (n:=n) (k:=32) (x:=0) (bns_bit _) hn6 (by omega) (by omega)⟩
 obtain ⟨v32,hey⟩:=hey
 refine Ok.bind (Ok.is hey) ?_
 rintro _ rfl
 refine Ok.gd ⟨by omega,by omega,by omega⟩ (Ok.bind (Q:=fun r=>r = ((wid (P ++ joinL p6 J) : Int),J)) ?_ ?_)
 ·refine Ok.ite (fun c=>?_) (fun c=>Ok.some ?_)
  ·have c : p6 = 1:=by simpa using c
   have hj : joinL p6 J = tg J 1:=by unfold joinL; rw [if_pos c]
   have ht:=takeL (L:=L) (A:=P) (R:=scalL S ++ codesL sh Q) (l:=J) (k:=1) (c:=p3) (x:=32) (n:=n) (by rw [hLe,hj]; simp only [List.append_assoc]) hn6 (by decide) (by omega) hW (fun i hi=>?_) hJ.symm (by rw [hpre]; rfl)
   ·rw [hbe]
    refine Ok.bind (Ok.is ht) ?_
    rintro _ rfl
    exact Ok.some (by rw [hj])
   ·refine hF _ ?_
    rw [hLe,hj]
    exact List.mem_append_left _ (List.mem_append_right _ (List.mem_append_left _ (List.mem_map.mpr ⟨i,List.mem_range.mpr hi,rfl⟩)))
  ·have c : ¬ p6 = 1:=by simpa using c
   have hj : joinL p6 J = []:=by unfold joinL; rw [if_neg c]
   rw [hj,List.append_nil,hpre]
   have : List.replicate (Int.toNat p3) (0 : Int) = J:=by
    apply List.ext_getElem
    ·simp; omega
    ·intro i a1 a2
     rw [List.getElem_replicate]
     have:=hv.1.2 i (by omega) (by omega)
     have e : at' J (i : Int) = J[i]:=by
      show J.getD i 0 = _
      rw [List.getD_eq_getElem?_getD,List.getElem?_eq_getElem a2]; rfl
     rw [e] at this
     rcases this with h | ⟨h,_⟩
     ·exact h.symm
     ·exact absurd h c
   rw [this]; rfl
 rintro _ rfl
 refine Ok.bind (Q:=fun r=>r = ((wid (P ++ joinL p6 J ++ scalL S) : Int),S)) ?_ ?_
 ·unfold subband_Parse.l7
  rw [hbe]
  refine rounds_ok3 (fun i y Z=>0 ≤ i ∧ i ≤ p2 ∧ y = (wid (P ++ joinL p6 J ++ (List.range i.toNat).flatMap fun c : Nat=>tg (row S c) 4) : Int) ∧ Z = (List.range i.toNat).map fun c : Nat=>row S c) (fun i _ _=>(p2 - i).toNat) _ ?_ 5000 _ _ _ ⟨by omega,by omega,by simp,rfl⟩ (by omega)
  rintro next i y Z ⟨g1,g2,g3,g4⟩ ih
  have hZl : (Z.length : Int) = i:=by rw [g4]; simp; omega
  refine Ok.ite (fun d=>?_) (fun d=>Ok.some ?_)
  ·have d:=dt d
   have hr:=h.hf.2.2 i g1 d
   obtain ⟨R',hR⟩:=r_split (fun c : Nat=>tg (row S c) 4) (i:=i.toNat) (n:=S.length) (by omega)
   have hL2 : L = (P ++ joinL p6 J ++ (List.range i.toNat).flatMap fun c : Nat=>tg (row S c) 4) ++ tg (row S i) 4 ++ (R' ++ codesL sh Q):=by
    rw [hLe]; unfold scalL; rw [hR,show ((i.toNat : Nat) : Int) = i by omega]
    simp only [List.append_assoc]
   have ht:=takeL (c:=p3) hL2 hn6 (by decide) (by omega) hW (fun j hj=>hF _ (by rw [hL2]; exact List.mem_append_left _ (List.mem_append_right _ (List.mem_map.mpr ⟨j,List.mem_range.mpr hj,rfl⟩)))) hr.1.symm g3
   refine Ok.bind (Ok.is ht) ?_
   rintro _ rfl
   refine Ok.gd (by show ((Z.length : Int) + 1) * 24 ≤ _; omega) ?_
   have e:=kw1 (x:=i) (by omega) (by omega)
   refine ih _ _ _ ⟨by omega,by omega,?_,?_⟩ (by omega)
   ·rw [e,tS g1,rs_flat,← List.append_assoc,show ((i.toNat : Nat) : Int) = i by omega]
   ·rw [e,tS g1,rs_map,← g4,show ((i.toNat : Nat) : Int) = i by omega]
  ·have d:=df d
   rw [g3,g4,show i.toNat = S.length by omega,rng_row]; rfl
 rintro _ rfl
 refine Ok.bind (Ok.is h.ha) ?_
 rintro _ rfl
 refine Ok.ite (fun h=>by cases h) (fun _=>?_)
 refine Ok.bind (Q:=fun r=>r = Q) ?_ ?_
 ·unfold subband_Parse.l4
  rw [hbe,hshe]
  refine rounds_ok3 (fun i y Z=>0 ≤ i ∧ i ≤ p4 ∧ y = (wid (P ++ joinL p6 J ++ scalL S ++ (List.range i.toNat).flatMap fun i : Nat=>bz (blk Q i) sh) : Int) ∧ Z = (List.range i.toNat).map fun i : Nat=>blk Q i) (fun i _ _=>(p4 - i).toNat) _ ?_ 5000 _ _ _ ⟨by omega,by omega,by simp,rfl⟩ (by omega)
  rintro next i y Z ⟨g1,g2,g3,g4⟩ ih
  have hZl : (Z.length : Int) = i:=by rw [g4]; simp; omega
  refine Ok.ite (fun d=>?_) (fun d=>Ok.some ?_)
  ·have d:=dt d
   have hr:=hv.2.2.1.2 i g1 d
   obtain ⟨R',hR⟩:=r_split (fun i : Nat=>bz (blk Q i) sh) (i:=i.toNat) (n:=Q.length) (by omega)
   have hL2 : L = (P ++ joinL p6 J ++ scalL S ++ (List.range i.toNat).flatMap fun i : Nat=>bz (blk Q i) sh) ++ bz (blk Q i) sh ++ R':=by
    rw [hLe]; unfold codesL; rw [hR,show ((i.toNat : Nat) : Int) = i by omega]
    simp only [List.append_assoc]
   refine Ok.gd ⟨by omega,by omega,by omega⟩ ?_
   refine Ok.bind (pl5 hn6 (C:=p2) (M:=p3) ⟨by omega,by omega⟩ ⟨by omega,by omega⟩ hr hsh hL2 hW hF y g3 _ _ _ _ _ _ _ _ _ _ _ _ _ _ _) ?_
   rintro ⟨y',X⟩ ⟨k1,k2⟩
   refine Ok.gd (by show ((Z.length : Int) + 1) * 24 ≤ _; omega) ?_
   have e:=kw1 (x:=i) (by omega) (by omega)
   refine ih _ _ _ ⟨by omega,by omega,?_,?_⟩ (by omega)
   ·rw [e,tS g1,rs_flat,← List.append_assoc,show ((i.toNat : Nat) : Int) = i by omega]; exact k1
   ·have k2 : X = blk Q i:=k2
    rw [e,tS g1,rs_map,← g4,show ((i.toNat : Nat) : Int) = i by omega,k2]
  ·have d:=df d
   rw [g4,show i.toNat = Q.length by omega,rng_blk]
 rintro _ rfl
 refine Ok.bind (Ok.is hb) ?_
 rintro _ rfl
 refine Ok.bind (Q:=fun x=>x = false) ?_ ?_
 ·refine Ok.ite (fun h=>by cases h) (fun _=>Ok.bind (equal_w (by omega)) ?_)
  rintro _ rfl
  exact Ok.some rfl
 rintro _ rfl
 exact Ok.some rfl
end Go.Fo
