/- Frames are packed,whatever comes. -/
import Derived.Test.YtphienllhdoenaaGreatSbOb
namespace Go.Fo
set_option maxRecDepth 6000
theorem side_ok (p0 p1 p2 p3 p4 p5 p6 p7 p8 p9 : Int) {J : List Int} {S : List (List Int)} {Q : List (List (List Int))} {sh : List (List Int)} (hv : Val p0 p1 p2 p3 p4 p5 p6 p7 p8 p9 J S Q sh) : Ok (fun l=>l.length ≤ 200) (subband_Params_side 5000 p0 p1 p2 p3 p4 p5 p6 p7 p8 p9 J S Q):=by
 obtain ⟨hf,hj,hq,_,_⟩:=hv
 have h2:=(fit hf).2.1
 have h3:=(fit hf).2.2.1
 have hS:=hf.2.1
 have hJ:=hj.1
 refine Ok.bind (Q:=fun l=>l.length ≤ 8) ?_ ?_
 ·refine Ok.ite (fun _=>Ok.bind (Q:=fun l=>l.length ≤ 8) ?_ (fun r hr=>Ok.some hr)) (fun _=>Ok.some (by show 0 ≤ 8; omega))
  unfold subband_Params_side.l2
  refine rounds_ok2 (fun i l=>0 ≤ i ∧ i ≤ (J.length : Int) ∧ (l.length : Int) = i) (fun i _=>((J.length : Int) - i).toNat) _ ?_ 5000 _ _ ⟨by omega,by omega,rfl⟩ (by omega)
  rintro next i l ⟨g1,g2,g3⟩ ih
  refine Ok.ite (fun d=>?_) (fun _=>Ok.some (by omega))
  have d:=dt d
  refine Ok.gd ⟨g1,d⟩ (Ok.gd (by show ((l.length : Int) + 1) * 16 ≤ _; omega) ?_)
  have e:=kw1 (x:=i) (by omega) (by omega)
  exact ih _ _ ⟨by omega,by omega,by rw [List.length_append]; show (((l.length + 1 : Nat)) : Int) = _; omega⟩ (by omega)
 intro l0 hl0
 refine Ok.bind (Q:=fun l=>l.length ≤ 200) ?_ (fun r hr=>Ok.some hr)
 unfold subband_Params_side.l0
 refine rounds_ok2 (fun c l=>0 ≤ c ∧ c ≤ (S.length : Int) ∧ (l.length : Int) ≤ 8 + 8 * c) (fun c _=>((S.length : Int) - c).toNat) _ ?_ 5000 _ _ ⟨by omega,by omega,by omega⟩ (by omega)
 rintro next c l ⟨g1,g2,g3⟩ ih
 refine Ok.ite (fun d=>?_) (fun _=>Ok.some (by omega))
 have d:=dt d
 have hr:=(hf.2.2 c g1 (by omega)).1
 refine Ok.gd ⟨g1,d⟩ (Ok.bind (Q:=fun m=>(m.length : Int) ≤ 8 + 8 * c + 8) ?_ ?_)
 ·unfold subband_Params_side.l1
  refine rounds_ok2 (fun b m=>0 ≤ b ∧ b ≤ ((row S c).length : Int) ∧ (m.length : Int) ≤ 8 + 8 * c + b) (fun b _=>(((row S c).length : Int) - b).toNat) _ ?_ 5000 _ _ ⟨by omega,by omega,by omega⟩ (by omega)
  rintro next2 b m ⟨f1,f2,f3⟩ ih2
  refine Ok.ite (fun d2=>?_) (fun _=>Ok.some (by omega))
  have d2 : b < ((row S c).length : Int):=dt d2
  refine Ok.gd ⟨f1,d2⟩ (Ok.gd (by show ((m.length : Int) + 1) * 16 ≤ _; omega) ?_)
  have e:=kw1 (x:=b) (by omega) (by omega)
  exact ih2 _ _ ⟨by omega,by show _ ≤ ((row S c).length : Int); omega,by rw [List.length_append]; show (((m.length + 1 : Nat)) : Int) ≤ _; omega⟩ (by omega)
 ·intro m hm
  have e:=kw1 (x:=c) (by omega) (by omega)
  exact ih _ _ ⟨by omega,by omega,by omega⟩ (by omega)
theorem codes_ok (p0 p1 p2 p3 p4 p5 p6 p7 p8 p9 : Int) {J : List Int} {S : List (List Int)} {Q : List (List (List Int))} {sh : List (List Int)} (hv : Val p0 p1 p2 p3 p4 p5 p6 p7 p8 p9 J S Q sh) : Ok (fun l=>l.length ≤ 300) (subband_Params_codes 5000 sh J S Q):=by
 obtain ⟨hf,hj,hq,hsh,_⟩:=hv
 have h2:=(fit hf).2.1
 have h3:=(fit hf).2.2.1
 have h4 : p4 = 4 ∨ p4 = 8 ∨ p4 = 12 ∨ p4 = 16:=hf.1.1.2.2.2.2.2.1
 have hQ:=hq.1
 refine Ok.bind (Q:=fun l=>l.length ≤ 300) ?_ (fun r hr=>Ok.some hr)
 unfold subband_Params_codes.l0
 refine rounds_ok2 (fun i l=>0 ≤ i ∧ i ≤ (Q.length : Int) ∧ (l.length : Int) ≤ 16 * i) (fun i _=>((Q.length : Int) - i).toNat) _ ?_ 5000 _ _ ⟨by omega,by omega,by show (0 : Int) ≤ _; omega⟩ (by omega)
 rintro next i l ⟨g1,g2,g3⟩ ih
 refine Ok.ite (fun d=>?_) (fun _=>Ok.some (by omega))
 have d:=dt d
 have hb:=hq.2 i g1 (by omega)
 have hbl:=hb.1
 refine Ok.gd ⟨g1,d⟩ (Ok.bind (Q:=fun m=>(m.length : Int) ≤ 16 * i + 16) ?_ ?_)
 ·unfold subband_Params_codes.l1
  refine rounds_ok2 (fun c m=>0 ≤ c ∧ c ≤ ((blk Q i).length : Int) ∧ (m.length : Int) ≤ 16 * i + 8 * c) (fun c _=>(((blk Q i).length : Int) - c).toNat) _ ?_ 5000 _ _ ⟨by omega,by omega,by omega⟩ (by omega)
  rintro next2 c m ⟨f1,f2,f3⟩ ih2
  refine Ok.ite (fun d2=>?_) (fun _=>Ok.some (by omega))
  have d2 : c < ((blk Q i).length : Int):=dt d2
  have hr:=hb.2 c f1 (by omega)
  have hsr:=hsh.2 c f1 (by omega)
  have hs1:=hsh.1
  refine Ok.gd ⟨f1,d2⟩ (Ok.bind (Q:=fun m=>(m.length : Int) ≤ 16 * i + 8 * c + 8) ?_ ?_)
  ·unfold subband_Params_codes.l2
   refine rounds_ok2 (fun b m=>0 ≤ b ∧ b ≤ ((row (blk Q i) c).length : Int) ∧ (m.length : Int) ≤ 16 * i + 8 * c + b) (fun b _=>(((row (blk Q i) c).length : Int) - b).toNat) _ ?_ 5000 _ _ ⟨by omega,by omega,by omega⟩ (by omega)
   rintro next3 b m ⟨e1,e2,e3⟩ ih3
   refine Ok.ite (fun d3=>?_) (fun _=>Ok.some (by omega))
   have d3 : b < ((row (blk Q i) c).length : Int):=dt d3
   refine Ok.gd ⟨e1,d3⟩ (Ok.gd ⟨f1,by omega,e1,by show b < ((row sh c).length : Int); omega,by show ((m.length : Int) + 1) * 16 ≤ _; omega⟩ ?_)
   have e:=kw1 (x:=b) (by omega) (by omega)
   exact ih3 _ _ ⟨by omega,by show _ ≤ ((row (blk Q i) c).length : Int); omega,by rw [List.length_append]; show (((m.length + 1 : Nat)) : Int) ≤ _; omega⟩ (by omega)
  ·intro m hm
   have e:=kw1 (x:=c) (by omega) (by omega)
   exact ih2 _ _ ⟨by omega,by show _ ≤ ((blk Q i).length : Int); omega,by omega⟩ (by omega)
 ·intro m hm
  have e:=kw1 (x:=i) (by omega) (by omega)
  exact ih _ _ ⟨by omega,by omega,by omega⟩ (by omega)
theorem head_ok (p0 p1 p2 p3 p4 p5 p6 p7 p8 p9 : Int) : Ok (fun l=>l.length ≤ 10) (subband_head 5000 p0 p1 p2 p3 p4 p5 p6 p7 p8 p9):=by
 refine Ok.bind (Q:=fun _=>True) (Ok.ite (fun _=>Ok.some trivial) (fun _=>Ok.some trivial)) ?_
 intro r _
 exact Ok.some (by show 6 ≤ 10; omega)
theorem new_w {n : Int} (h0 : 0 ≤ n) (h1 : n ≤ 512) : bits_New 5000 n = some (.inr (List.replicate n.toNat 0)) :=
 bif_eq_f (decide_eq_false (by omega)) (bif_eq_f (decide_eq_false (by omega)) (gd_eq ⟨h0,by omega,by omega⟩ rfl))
theorem sumP_ok (p0 p1 p2 p3 p4 p5 p6 p7 p8 p9 : Int) {J : List Int} {S : List (List Int)} {Q : List (List (List Int))} {sh : List (List Int)} (hv : Val p0 p1 p2 p3 p4 p5 p6 p7 p8 p9 J S Q sh) : Ok (fun _=>True) (subband_Params_sum 5000 p0 p1 p2 p3 p4 p5 p6 p7 p8 p9 J S Q):=by
 refine Ok.bind (Ok.is (new_w (by decide) (by decide))) ?_
 rintro _ rfl
 have hl : (List.replicate (Int.toNat 512) (0 : Int)).length = 512:=by simp
 refine Ok.bind (head_ok p0 p1 p2 p3 p4 p5 p6 p7 p8 p9) ?_
 intro l hl2
 refine Ok.bind (putO (by omega) (by omega) (by omega) (by omega)) ?_
 rintro ⟨n1,x1,b1⟩ ⟨a1,a2,a3⟩
 have a1 : b1.length = (List.replicate (Int.toNat 512) (0 : Int)).length:=a1
 refine Ok.bind (side_ok p0 p1 p2 p3 p4 p5 p6 p7 p8 p9 hv) ?_
 intro s hs
 have a2 : 0 ≤ x1:=a2
 have a3 : x1 ≤ 8 * ((List.replicate (Int.toNat 512) (0 : Int)).length : Int):=a3
 refine Ok.bind (putO (b:=b1) (by omega) (by omega) a2 (by omega)) ?_
 rintro ⟨n2,x2,b2⟩ ⟨c1,c2,c3⟩
 have c1 : b2.length = b1.length:=c1
 refine Ok.bind (Q:=fun r=>r = b2) (Ok.bind (clone_ok (by omega) (by omega)) (fun r hr=>Ok.some hr)) ?_
 rintro _ rfl
 refine Ok.bind (sum_ok (by omega)) ?_
 rintro ⟨y1,y2⟩ _
 exact Ok.some trivial
theorem payZ_in (p0 p1 p2 p3 p4 p5 p6 p7 p8 p9 : Int) (hm : may0 p0 p1 p2 p3 p4 p5 p6 p7 p8 p9) : 7 ≤ payZ p2 p3 p4 p6 p7 ∧ payZ p2 p3 p4 p6 p7 ≤ 512:=by
 have:=bitsZ_in p0 p1 p2 p3 p4 p5 p6 p7 p8 p9 hm.1
 have:=hm.2
 unfold payZ; omega
theorem pack_ok (p0 p1 p2 p3 p4 p5 p6 p7 p8 p9 : Int) (J : List Int) (S : List (List Int)) (Q : List (List (List Int))) (hm : may0 p0 p1 p2 p3 p4 p5 p6 p7 p8 p9) (hJ : J.length ≤ 4000) (hQ : Q.length ≤ 4000) :
  Ok (fun r=>(r.1.length ≤ 512) ∧ (r.2 = 0 → ∃ sh,Val p0 p1 p2 p3 p4 p5 p6 p7 p8 p9 J S Q sh ∧ subband_Params_share 5000 p0 p1 p2 p3 p4 p5 p6 p7 p8 p9 J S Q = some (sh,true))) (subband_Pack 5000 p0 p1 p2 p3 p4 p5 p6 p7 p8 p9 J S Q):=by
 refine Ok.bind (Ok.is ((smay_w p0 p1 p2 p3 p4 p5 p6 p7 p8 p9).trans (by rw [if_pos hm]))) ?_
 rintro _ rfl
 refine Ok.ite (fun h=>by cases h) (fun _=>?_)
 have hp:=pshare_ok p0 p1 p2 p3 p4 p5 p6 p7 p8 p9 J S Q hm hJ hQ
 obtain ⟨⟨sh,ok⟩,hs,hv⟩:=hp
 refine Ok.bind (Ok.is hs) ?_
 rintro _ rfl
 refine Ok.ite (fun _=>Ok.some ⟨by show 0 ≤ 512; omega,fun h=>by cases h⟩) (fun c=>?_)
 have c : ok = true:=by simpa using c
 subst c
 have hv : Val p0 p1 p2 p3 p4 p5 p6 p7 p8 p9 J S Q sh:=hv rfl
 have hz:=payZ_in p0 p1 p2 p3 p4 p5 p6 p7 p8 p9 hm
 refine Ok.bind (Ok.is (Pay_w p0 p1 p2 p3 p4 p5 p6 p7 p8 p9 hm)) ?_
 rintro _ rfl
 refine Ok.bind (Ok.is (new_w (by omega) hz.2)) ?_
 rintro _ rfl
 have hl : (List.replicate (Int.toNat (payZ p2 p3 p4 p6 p7)) (0 : Int)).length = (payZ p2 p3 p4 p6 p7).toNat:=by simp
 generalize List.replicate (Int.toNat (payZ p2 p3 p4 p6 p7)) (0 : Int) = b0 at hl
 refine Ok.bind (putO (b:=b0) (by show 1 ≤ 1000; omega) (by omega) (by omega) (by omega)) ?_
 rintro ⟨n1,x1,b1⟩ ⟨a1,a2,a3⟩
 have a1 : b1.length = b0.length:=a1
 have a2 : 0 ≤ x1:=a2
 have a3 : x1 ≤ 8 * (b0.length : Int):=a3
 refine Ok.bind (head_ok p0 p1 p2 p3 p4 p5 p6 p7 p8 p9) ?_
 intro l hl2
 refine Ok.bind (putO (b:=b1) (by omega) (by omega) a2 (by omega)) ?_
 rintro ⟨n2,x2,b2⟩ ⟨c1,c2,c3⟩
 have c1 : b2.length = b1.length:=c1
 have c2 : 0 ≤ x2:=c2
 have c3 : x2 ≤ 8 * (b1.length : Int):=c3
 refine Ok.bind (sumP_ok p0 p1 p2 p3 p4 p5 p6 p7 p8 p9 hv) ?_
 intro y _
 refine Ok.bind (putO (b:=b2) (by show 1 ≤ 1000; omega) (by omega) c2 (by omega)) ?_
 rintro ⟨n3,x3,b3⟩ ⟨d1,d2,d3⟩
 have d1 : b3.length = b2.length:=d1
 have d2 : 0 ≤ x3:=d2
 have d3 : x3 ≤ 8 * (b2.length : Int):=d3
 refine Ok.bind (side_ok p0 p1 p2 p3 p4 p5 p6 p7 p8 p9 hv) ?_
 intro s hs2
 refine Ok.bind (putO (b:=b3) (by omega) (by omega) d2 (by omega)) ?_
 rintro ⟨n4,x4,b4⟩ ⟨e1,e2,e3⟩
 have e1 : b4.length = b3.length:=e1
 have e2 : 0 ≤ x4:=e2
 have e3 : x4 ≤ 8 * (b3.length : Int):=e3
 refine Ok.bind (codes_ok p0 p1 p2 p3 p4 p5 p6 p7 p8 p9 hv) ?_
 intro q hq
 refine Ok.bind (putO (b:=b4) (by omega) (by omega) e2 (by omega)) ?_
 rintro ⟨n5,x5,b5⟩ ⟨f1,f2,f3⟩
 have f1 : b5.length = b4.length:=f1
 refine Ok.bind (Q:=fun r=>r = b5) (Ok.bind (clone_ok (by omega) (by omega)) (fun r hr=>Ok.some hr)) ?_
 intro r hr
 refine Ok.some ⟨?_,fun _=>⟨sh,hv,hs⟩⟩
 show r.length ≤ 512
 rw [hr]; omega
end Go.Fo
