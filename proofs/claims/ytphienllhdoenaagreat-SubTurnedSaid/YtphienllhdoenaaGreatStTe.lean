/- The law. -/
import Derived.Test.YtphienllhdoenaaGreatStTd
namespace Go.Fo
set_option maxRecDepth 6000
theorem ku64 {x : Int} (h0 : 0 ≤ x) (h1 : x < 1000) : kwrap .u64 x = x:=by
 unfold kwrap IntKind.wrap; simp [IntKind.bits,IntKind.signed]; omega
theorem parse_no (p0 p1 p2 p3 p4 p5 p6 p7 p8 p9 : Int) (hm : may0 p0 p1 p2 p3 p4 p5 p6 p7 p8 p9) {b : List Int} (hn : ¬ Fx p0 p1 p2 p3 p4 p5 p6 p7 p8 p9 b) : Ok (fun r=>r.2.2.2 = 140 ∧ r.1 = []) (subband_Parse_2 5000 p0 p1 p2 p3 p4 p5 p6 p7 p8 p9 b) :=
 (parse_fx p0 p1 p2 p3 p4 p5 p6 p7 p8 p9 b hm).mono (fun r hr=>by rcases hr with h | h; exact h; exact absurd h.2 hn)
theorem turn1 (m : Int) (p0 p1 p2 p3 p4 p5 p6 p7 p8 p9 : Int) (cov x0 : Int) (n : Nat) (M : List Int) (h32 : 32 ≤ x0) (hx0 : x0 < 32 + cov) (hM : Bit M) (hMl : 32 + cov ≤ (M.length : Int)) (hMn : M.length ≤ 8 * n) (hn : n ≤ 600) :
  Ok (fun r=>∃ M2,r.2 = pk n M2 ∧ Bit M2 ∧ (∀ p : Nat,(p : Int) < x0 ∨ x0 + 8 ≤ (p : Int) ∨ 32 + cov ≤ (p : Int) → b1 M2 p = b1 M p) ∧ (r.1 = true → ∃ p,b1 M2 p ≠ b1 M p)) (psalterylaw14_SubTurned.l1 5000 m cov x0 p0 p1 p2 p3 p4 p5 p6 p7 p8 p9 5000 false 0 (pk n M)):=by
 have e0 : kwrap .i64 (32 + cov) = 32 + cov:=kw64 (by omega) (by omega)
 unfold psalterylaw14_SubTurned.l1
 refine rounds_ok3 (fun f i l=>0 ≤ i ∧ i ≤ 8 ∧ ∃ M2,l = pk n M2 ∧ Bit M2 ∧ M2.length = M.length ∧ (∀ p : Nat,(p : Int) < x0 ∨ x0 + i ≤ (p : Int) ∨ 32 + cov ≤ (p : Int) → b1 M2 p = b1 M p) ∧ (f = true → ∃ p : Nat,(p : Int) < x0 + i ∧ b1 M2 p ≠ b1 M p)) (fun _ i _=>(8 - i).toNat) _ ?_ 5000 _ _ _ ⟨by omega,by omega,M,rfl,hM,rfl,fun p _=>rfl,fun h=>by cases h⟩ (by omega)
 rintro next f i l ⟨g1,g2,M2,rfl,b2,hl,ho,hne⟩ ih
 have e1 : kwrap .i64 (x0 + i) = x0 + i:=kw64 (by omega) (by omega)
 have ek:=kw1 (x:=i) (by omega) (by omega)
 have eu:=ku64 g1 (by omega)
 refine Ok.ite (fun d=>?_) (fun d=>Ok.some ⟨M2,rfl,b2,fun p hp=>ho p (by omega),fun h=>by obtain ⟨p,_,hp⟩:=hne h; exact ⟨p,hp⟩⟩)
 have d : (bif decide (i < 8) then decide (kwrap .i64 (x0 + i) < kwrap .i64 (32 + cov)) else false) = true:=d
 rw [e0,e1] at d
 have d8 : i < 8:=by
  cases h : decide (i < 8)
  ·rw [h] at d; cases d
  ·exact dt h
 have dc : x0 + i < 32 + cov:=by rw [decide_eq_true d8] at d; exact dt d
 refine Ok.bind (Q:=fun r=>∃ M2,r.2 = pk n M2 ∧ Bit M2 ∧ M2.length = M.length ∧ (∀ p : Nat,(p : Int) < x0 ∨ x0 + (i + 1) ≤ (p : Int) ∨ 32 + cov ≤ (p : Int) → b1 M2 p = b1 M p) ∧ (r.1 = true → ∃ p : Nat,(p : Int) < x0 + (i + 1) ∧ b1 M2 p ≠ b1 M p)) ?_ ?_
 ·refine Ok.gd (by rw [eu]; exact g1) (Ok.ite (fun _=>?_) (fun _=>Ok.some ⟨M2,rfl,b2,hl,fun p hp=>ho p (by omega),fun h=>by obtain ⟨p,q,hp⟩:=hne h; exact ⟨p,by omega,hp⟩⟩))
  have t1 : Int.tdiv (x0 + i) 8 = (x0 + i) / 8:=Int.tdiv_eq_ediv_of_nonneg (by omega)
  have t2 : Int.tmod (x0 + i) 8 = (x0 + i) % 8:=Int.tmod_eq_emod_of_nonneg (by omega)
  have hfl:=flip_w (M:=M2) (n:=n) (p:=(x0 + i).toNat) b2 (by omega) (by omega)
  dsimp only
  rw [e1,t1,t2,kw64 (x:=(x0 + i) / 8) (by omega) (by omega),ku64 (x:=(x0 + i) % 8) (by omega) (by omega),show Int.toNat ((x0 + i) / 8) = (x0 + i).toNat / 8 by omega,show (x0 + i) % 8 = (((x0 + i).toNat % 8 : Nat) : Int) by omega,hfl]
  have hlen:=pk_len n M2
  refine Ok.gd ⟨by omega,by omega,by omega,by omega,by omega,by omega,by omega⟩ (Ok.some ⟨M2.set (x0 + i).toNat (1 - b1 M2 (x0 + i).toNat),rfl,fun q=>?_,by rw [List.length_set]; exact hl,fun p hp=>?_,fun _=>⟨(x0 + i).toNat,by omega,?_⟩⟩)
  ·rw [b1_set (by omega)]
   have:=b2 (x0 + i).toNat
   split
   ·omega
   ·exact b2 q
  ·rw [b1_set (by omega),if_neg (by omega)]; exact ho p (by omega)
  ·rw [b1_set (by omega),if_pos rfl,ho (x0 + i).toNat (by omega)]
   have:=hM (x0 + i).toNat
   omega
 ·rintro ⟨f',l'⟩ ⟨M3,rfl,b3,hl3,ho3,hne3⟩
  dsimp only
  rw [ek]
  exact ih _ _ _ ⟨by omega,by omega,M3,rfl,b3,hl3,ho3,hne3⟩ (by omega)
theorem turn3 (m : Int) (p0 p1 p2 p3 p4 p5 p6 p7 p8 p9 : Int) (cov x0 : Int) (n : Nat) (M : List Int) (h32 : 32 ≤ x0) (hx0 : x0 < 32 + cov) (hM : Bit M) (hMl : 32 + cov ≤ (M.length : Int)) (hMn : M.length ≤ 8 * n) (hn : n ≤ 600) :
  Ok (fun r=>∃ M2,r.2 = pk n M2 ∧ Bit M2 ∧ (∀ p : Nat,(p : Int) < x0 ∨ x0 + 8 ≤ (p : Int) ∨ 32 + cov ≤ (p : Int) → b1 M2 p = b1 M p) ∧ (r.1 = true → ∃ p,b1 M2 p ≠ b1 M p)) (psalterylaw14_SubTurned.l3 5000 m cov x0 p0 p1 p2 p3 p4 p5 p6 p7 p8 p9 5000 false 0 (pk n M)):=by
 have e0 : kwrap .i64 (32 + cov) = 32 + cov:=kw64 (by omega) (by omega)
 unfold psalterylaw14_SubTurned.l3
 refine rounds_ok3 (fun f i l=>0 ≤ i ∧ i ≤ 8 ∧ ∃ M2,l = pk n M2 ∧ Bit M2 ∧ M2.length = M.length ∧ (∀ p : Nat,(p : Int) < x0 ∨ x0 + i ≤ (p : Int) ∨ 32 + cov ≤ (p : Int) → b1 M2 p = b1 M p) ∧ (f = true → ∃ p : Nat,(p : Int) < x0 + i ∧ b1 M2 p ≠ b1 M p)) (fun _ i _=>(8 - i).toNat) _ ?_ 5000 _ _ _ ⟨by omega,by omega,M,rfl,hM,rfl,fun p _=>rfl,fun h=>by cases h⟩ (by omega)
 rintro next f i l ⟨g1,g2,M2,rfl,b2,hl,ho,hne⟩ ih
 have e1 : kwrap .i64 (x0 + i) = x0 + i:=kw64 (by omega) (by omega)
 have ek:=kw1 (x:=i) (by omega) (by omega)
 have eu:=ku64 g1 (by omega)
 refine Ok.ite (fun d=>?_) (fun d=>Ok.some ⟨M2,rfl,b2,fun p hp=>ho p (by omega),fun h=>by obtain ⟨p,_,hp⟩:=hne h; exact ⟨p,hp⟩⟩)
 have d : (bif decide (i < 8) then decide (kwrap .i64 (x0 + i) < kwrap .i64 (32 + cov)) else false) = true:=d
 rw [e0,e1] at d
 have d8 : i < 8:=by
  cases h : decide (i < 8)
  ·rw [h] at d; cases d
  ·exact dt h
 have dc : x0 + i < 32 + cov:=by rw [decide_eq_true d8] at d; exact dt d
 refine Ok.bind (Q:=fun r=>∃ M2,r.2 = pk n M2 ∧ Bit M2 ∧ M2.length = M.length ∧ (∀ p : Nat,(p : Int) < x0 ∨ x0 + (i + 1) ≤ (p : Int) ∨ 32 + cov ≤ (p : Int) → b1 M2 p = b1 M p) ∧ (r.1 = true → ∃ p : Nat,(p : Int) < x0 + (i + 1) ∧ b1 M2 p ≠ b1 M p)) ?_ ?_
 ·refine Ok.gd (by rw [eu]; exact g1) (Ok.ite (fun _=>?_) (fun _=>Ok.some ⟨M2,rfl,b2,hl,fun p hp=>ho p (by omega),fun h=>by obtain ⟨p,q,hp⟩:=hne h; exact ⟨p,by omega,hp⟩⟩))
  have t1 : Int.tdiv (x0 + i) 8 = (x0 + i) / 8:=Int.tdiv_eq_ediv_of_nonneg (by omega)
  have t2 : Int.tmod (x0 + i) 8 = (x0 + i) % 8:=Int.tmod_eq_emod_of_nonneg (by omega)
  have hfl:=flip_w (M:=M2) (n:=n) (p:=(x0 + i).toNat) b2 (by omega) (by omega)
  dsimp only
  rw [e1,t1,t2,kw64 (x:=(x0 + i) / 8) (by omega) (by omega),ku64 (x:=(x0 + i) % 8) (by omega) (by omega),show Int.toNat ((x0 + i) / 8) = (x0 + i).toNat / 8 by omega,show (x0 + i) % 8 = (((x0 + i).toNat % 8 : Nat) : Int) by omega,hfl]
  have hlen:=pk_len n M2
  refine Ok.gd ⟨by omega,by omega,by omega,by omega,by omega,by omega,by omega⟩ (Ok.some ⟨M2.set (x0 + i).toNat (1 - b1 M2 (x0 + i).toNat),rfl,fun q=>?_,by rw [List.length_set]; exact hl,fun p hp=>?_,fun _=>⟨(x0 + i).toNat,by omega,?_⟩⟩)
  ·rw [b1_set (by omega)]
   have:=b2 (x0 + i).toNat
   split
   ·omega
   ·exact b2 q
  ·rw [b1_set (by omega),if_neg (by omega)]; exact ho p (by omega)
  ·rw [b1_set (by omega),if_pos rfl,ho (x0 + i).toNat (by omega)]
   have:=hM (x0 + i).toNat
   omega
 ·rintro ⟨f',l'⟩ ⟨M3,rfl,b3,hl3,ho3,hne3⟩
  dsimp only
  rw [ek]
  exact ih _ _ _ ⟨by omega,by omega,M3,rfl,b3,hl3,ho3,hne3⟩ (by omega)

theorem no_turn (p0 p1 p2 p3 p4 p5 p6 p7 p8 p9 : Int) (hm : may0 p0 p1 p2 p3 p4 p5 p6 p7 p8 p9) {b : List Int} (hf : Fx p0 p1 p2 p3 p4 p5 p6 p7 p8 p9 b) : (∀ j v,j < 4 → v ≠ Kd.nth (.int .u8) b j → ¬ Fx p0 p1 p2 p3 p4 p5 p6 p7 p8 p9 (b.set j v)) ∧ (∀ j : Nat,j < 4 → 0 ≤ Kd.nth (.int .u8) b j ∧ Kd.nth (.int .u8) b j < 256) ∧ 7 ≤ b.length ∧
  ∃ M,b = pk (payZ p2 p3 p4 p6 p7).toNat M ∧ Bit M ∧ 32 + (p6 * p3 + 4 * p3 * p2) ≤ (M.length : Int) ∧ M.length ≤ 8 * (payZ p2 p3 p4 p6 p7).toNat ∧ ∀ M2 (x0 : Nat),Bit M2 → 32 ≤ x0 → (∀ p : Nat,p < x0 ∨ x0 + 8 ≤ p ∨ 32 + (p6 * p3 + 4 * p3 * p2) ≤ (p : Int) → b1 M2 p = b1 M p) → (∃ p,b1 M2 p ≠ b1 M p) → ¬ Fx p0 p1 p2 p3 p4 p5 p6 p7 p8 p9 (pk (payZ p2 p3 p4 p6 p7).toNat M2):=by
 have hz:=payZ_in p0 p1 p2 p3 p4 p5 p6 p7 p8 p9 hm
 obtain ⟨s,X,Y,hs,bX,bY,hX,hsum,hb,hl⟩:=fx_use p0 p1 p2 p3 p4 p5 p6 p7 p8 p9 hf
 have hHl : (bns (headL p1 p2 p3 p4 p5 p6 p7)).length = 16:=rfl
 have bH : Bit (bns (headL p1 p2 p3 p4 p5 p6 p7)):=bns_bit _
 have hfl : (fbitsL (bns (headL p1 p2 p3 p4 p5 p6 p7)) s X Y).length = 32 + X.length + Y.length:=by unfold fbitsL; rw [List.length_append,List.length_append,List.length_append,List.length_append,bn_len,bn_len,hHl]
 have bM:=fb_bit (s:=s) bH bX bY
 subst hb
 refine ⟨fun j v hj hv h'=>?_,fun j hj=>?_,by rw [pk_len]; omega,fbitsL (bns (headL p1 p2 p3 p4 p5 p6 p7)) s X Y,rfl,bM,by omega,hl,fun M2 x0 b2 hx0 ho hne h'=>?_⟩
 ·obtain ⟨s',X',Y',hs',bX',bY',hX',hsum',hb',_⟩:=fx_use p0 p1 p2 p3 p4 p5 p6 p7 p8 p9 h'
  rw [pk_at (by omega)] at hv
  exact hv (no_head hj (by omega) hHl bH bX bY bX' bY' (by omega) (by omega) hsum hsum' hb')
 ·rw [pk_at (by omega)]; exact pby_r bM j
 ·obtain ⟨s',X',Y',hs',bX',bY',hX',hsum',hb',_⟩:=fx_use p0 p1 p2 p3 p4 p5 p6 p7 p8 p9 h'
  obtain ⟨p,hp⟩:=hne
  exact hp (no_side (by omega) hx0 hHl bH bX bY bX' bY' b2 (by omega) (by omega) hs hs' hsum hsum' (fun p hp=>ho p (by omega)) hb' p)
theorem tail_ok (p0 p1 p2 p3 p4 p5 p6 p7 p8 p9 : Int) (hm : may0 p0 p1 p2 p3 p4 p5 p6 p7 p8 p9) {b : List Int} (hn : ¬ Fx p0 p1 p2 p3 p4 p5 p6 p7 p8 p9 b) : Ok (fun r=>r = true) ((subband_Parse_2 5000 p0 p1 p2 p3 p4 p5 p6 p7 p8 p9 b).bind fun (r134,_r135,_r136,r137)=>
   let v138:=((r134.length : Int) == 0)
   let v139:=(bif (r137 == 140) then v138 else false)
   some v139):=by
 refine Ok.bind (parse_no p0 p1 p2 p3 p4 p5 p6 p7 p8 p9 hm hn) ?_
 rintro ⟨a,b',c,e⟩ ⟨he,ha⟩
 have he : e = 140:=he
 have ha : a = []:=ha
 subst he ha
 exact Ok.some rfl
theorem turn_ok (p0 p1 p2 p3 p4 p5 p6 p7 p8 p9 : Int) (hm : may0 p0 p1 p2 p3 p4 p5 p6 p7 p8 p9) {b : List Int} (hf : Fx p0 p1 p2 p3 p4 p5 p6 p7 p8 p9 b) {x m : Int} (hd : Bool) (hx : 0 ≤ x ∧ x < 65536) (hm8 : 0 ≤ m ∧ m < 256) (hm0 : m ≠ 0) (w : Int → Int → List Int → Option (Bool × List Int))
    (hw : ∀ cov x0 n M,32 ≤ x0 → x0 < 32 + cov → Bit M → 32 + cov ≤ (M.length : Int) → M.length ≤ 8 * n → n ≤ 600 → Ok (fun r=>∃ M2,r.2 = pk n M2 ∧ Bit M2 ∧ (∀ p : Nat,(p : Int) < x0 ∨ x0 + 8 ≤ (p : Int) ∨ 32 + cov ≤ (p : Int) → b1 M2 p = b1 M p) ∧ (r.1 = true → ∃ p,b1 M2 p ≠ b1 M p)) (w cov x0 (pk n M))) :
    Ok (fun r=>r = true) ((bif hd then
       let v140:=(Int.tmod (kwrap .i64 x) 4)
       let v141:=(Int.toNat v140)
       let v142:=(Kd.nth (.int .u8) b v141)
       let v143:=(kxor .u8 v142 m)
       let v144:=(List.set b v141 v143)
       gd ((0 : Int) ≤ v140 ∧ v140 < (b.length : Int) ∧ v141 < b.length ∧ (0 : Int) ≤ v140 ∧ v140 < (b.length : Int) ∧ v141 < b.length) <|
       some (.inl v144)
      else
       let v145:=(kwrap .i64 (p6 * p3))
       let v146:=(kwrap .i64 (4 * p2))
       let v147:=(kwrap .i64 (v146 * p3))
       let v148:=(kwrap .i64 (v145 + v147))
       let v149:=(Int.tmod (kwrap .i64 x) v148)
       let v150:=(kwrap .i64 (32 + v149))
       gd (v148 ≠ 0) <|
       (w v148 v150 b).bind fun (x161,x162)=>
        bif (!x161) then
         some (.inr true)
        else
         some (.inl x162) : Option (((List Int)) ⊕ (Bool))).bind fun z=>match z with
     | .inl x133=>
      (subband_Parse_2 5000 p0 p1 p2 p3 p4 p5 p6 p7 p8 p9 x133).bind fun (r134,_r135,_r136,r137)=>
      let v138:=((r134.length : Int) == 0)
      let v139:=(bif (r137 == 140) then v138 else false)
      some v139
     | .inr r=>
      some r):=by
  have h2 : p2 = 1 ∨ p2 = 2:=hm.1.2.2.2.1
  have h3 : p3 = 4 ∨ p3 = 8:=hm.1.2.2.2.2.1
  have h6 : p6 = 0 ∨ (p6 = 1 ∧ p2 = 2):=hm.1.2.2.2.2.2.2.2.1
  have hz:=payZ_in p0 p1 p2 p3 p4 p5 p6 p7 p8 p9 hm
  obtain ⟨t1,t2,t3,M,rfl,bM,hM,hMl,t4⟩:=no_turn p0 p1 p2 p3 p4 p5 p6 p7 p8 p9 hm hf
  have kx : kwrap .i64 x = x:=kw64 (by omega) (by omega)
  refine Ok.bind (Q:=fun z=>(∃ b',z = .inl b' ∧ ¬ Fx p0 p1 p2 p3 p4 p5 p6 p7 p8 p9 b') ∨ z = .inr true) (Ok.ite (fun _=>?_) (fun _=>?_)) ?_
  · have e : Int.tmod x 4 = x % 4:=Int.tmod_eq_emod_of_nonneg hx.1
    have hj : (x % 4).toNat < 4:=by omega
    have hr:=t2 _ hj
    dsimp only
    rw [kx,e]
    refine Ok.gd ⟨by omega,by omega,by omega,by omega,by omega,by omega⟩ (Ok.some (.inl ⟨_,rfl,t1 _ _ hj (kx_ne hr.1 hr.2 hm8.1 hm8.2 hm0)⟩))
  · have hcov : p6 * p3 + 4 * p3 * p2 = p6 * p3 + 4 * p2 * p3 ∧ 16 ≤ p6 * p3 + 4 * p3 * p2 ∧ p6 * p3 + 4 * p3 * p2 ≤ 72 ∧ 0 ≤ p6 * p3 ∧ p6 * p3 ≤ 8:=by
      rcases h6 with h | ⟨h,_⟩ <;> rw [h] <;> rcases h2 with h | h <;> rw [h] <;> rcases h3 with h | h <;> rw [h] <;> decide
    have e1 : kwrap .i64 (p6 * p3) = p6 * p3:=kw64 (by omega) (by omega)
    have e2 : kwrap .i64 (4 * p2) = 4 * p2:=kw64 (by omega) (by omega)
    have e3 : kwrap .i64 (4 * p2 * p3) = 4 * p2 * p3:=kw64 (by omega) (by omega)
    have e4 : kwrap .i64 (p6 * p3 + 4 * p2 * p3) = p6 * p3 + 4 * p3 * p2:=by rw [← hcov.1]; exact kw64 (by omega) (by omega)
    dsimp only
    rw [e1,e2,e3,e4,kx,Int.tmod_eq_emod_of_nonneg hx.1]
    generalize p6 * p3 + 4 * p3 * p2 = cov at *
    have m0:=Int.emod_nonneg x (show cov ≠ 0 by omega)
    have m1:=Int.emod_lt_of_pos x (show 0 < cov by omega)
    rw [kw64 (x:=32 + x % cov) (by omega) (by omega)]
    refine Ok.gd (by omega) (Ok.bind (hw cov (32 + x % cov) _ M (by omega) (by omega) bM hM hMl (by omega)) ?_)
    rintro ⟨f,l⟩ ⟨M2,rfl,b2,ho,hne⟩
    refine Ok.ite (fun _=>Ok.some (.inr rfl)) (fun c=>Ok.some (.inl ⟨_,rfl,t4 M2 (32 + x % cov).toNat b2 (by omega) (fun p hp=>ho p (by omega)) (hne (by simpa using c))⟩))
  · rintro z (⟨b',rfl,hb'⟩ | rfl)
    · exact tail_ok p0 p1 p2 p3 p4 p5 p6 p7 p8 p9 hm hb'
    · exact Ok.some rfl
theorem turned_w (p0 p1 p2 p3 p4 p5 p6 p7 p8 p9 : Int) (L : List Int) (x m : Int) (hd : Bool) (hx : 0 ≤ x ∧ x < 65536) (hm8 : 0 ≤ m ∧ m < 256) : psalterylaw14_SubTurned 5000 p0 p1 p2 p3 p4 p5 p6 p7 p8 p9 L x m hd = some true:=by
 have key : Ok (fun r=>r = true) (psalterylaw14_SubTurned 5000 p0 p1 p2 p3 p4 p5 p6 p7 p8 p9 L x m hd):=by
  refine Ok.bind (Ok.is alive_t) ?_
  rintro _ rfl
  refine Ok.ite (fun h=>by cases h) (fun _=>?_)
  obtain ⟨u,hu⟩:=bank_t
  refine Ok.bind (Ok.is hu) ?_
  intro _ _
  by_cases hm : may0 p0 p1 p2 p3 p4 p5 p6 p7 p8 p9
  ·have h2 : p2 = 1 ∨ p2 = 2:=hm.1.2.2.2.1
   have h3 : p3 = 4 ∨ p3 = 8:=hm.1.2.2.2.2.1
   have h4 : p4 = 4 ∨ p4 = 8 ∨ p4 = 12 ∨ p4 = 16:=hm.1.2.2.2.2.2.1
   have hV0 : ((List.replicate (10 * p3).toNat (0 : Int)).length : Int) = 10 * p3:=by simp; omega
   obtain ⟨t,a,b,h,u,e,c1,c2,t2,a2,b2,h',u',e',d1,d2⟩:=ns_ok (m:=p3) h3
   have hmay : subband_may 5000 p0 p1 p2 p3 p4 p5 p6 p7 p8 p9 = some 0:=(smay_w p0 p1 p2 p3 p4 p5 p6 p7 p8 p9).trans (by rw [if_pos hm])
   rcases h2 with h2 | h2
   ·subst h2
    have hn : 16 ≤ p3 * p4 ∧ p3 * p4 ≤ 128:=by rcases h3 with rfl | rfl <;> rcases h4 with rfl | rfl | rfl | rfl <;> decide
    have hd' : subband_NewEncoder 5000 p0 p1 1 p3 p4 p5 p6 p7 p8 p9 (List.replicate 388 none) 0 0 = some (.inr (.inl (t,a,b,p3,h,u,List.replicate (10 * p3).toNat 0))) :=
     bnd_eq hmay (bif_eq_f rfl (bif_eq_t rfl (bnd_eq e rfl)))
    refine Ok.bind (Ok.is hd') ?_
    rintro _ rfl
    refine Ok.ite (fun _=>Ok.some rfl) (fun dl=>?_)
    have hm0 : m ≠ 0:=by
     intro h0
     have dl : (bif decide ((L.length : Int) > 1000) then true else (m == 0)) = false:=dl
     rw [h0] at dl
     cases hk : decide ((L.length : Int) > 1000) <;> rw [hk] at dl <;> cases dl
    have e1 : kwrap .i64 (kwrap .i64 (1 * p3) * p4) = p3 * p4:=by rw [Int.one_mul,kw64 (x:=p3) (by omega) (by omega),kw64 (by omega) (by omega)]
    dsimp only
    rw [e1]
    refine Ok.gd ⟨by omega,by omega,by omega⟩ (Ok.bind (feed2_ok p0 p1 p3 p4 p5 p6 p7 p8 p9 hm (by rw [cpy_len]; simp; omega) c1 c2 hV0) ?_)
    rintro _ ⟨V',bb,rfl,hf⟩
    exact turn_ok p0 p1 1 p3 p4 p5 p6 p7 p8 p9 hm hf hd hx hm8 hm0 (fun cov x0 l=>psalterylaw14_SubTurned.l1 5000 m cov x0 p0 p1 1 p3 p4 p5 p6 p7 p8 p9 5000 false 0 l) (fun cov x0 n M=>turn1 m p0 p1 1 p3 p4 p5 p6 p7 p8 p9 cov x0 n M)
   ·subst h2
    have hn : 16 ≤ 2 * p3 * p4 ∧ 2 * p3 * p4 ≤ 256:=by rcases h3 with rfl | rfl <;> rcases h4 with rfl | rfl | rfl | rfl <;> decide
    have hd' : subband_NewEncoder 5000 p0 p1 2 p3 p4 p5 p6 p7 p8 p9 (List.replicate 388 none) 0 0 = some (.inr (.inr (t2,a2,b2,p3,h,u,p3,h',u',List.replicate (10 * p3).toNat 0,List.replicate (10 * p3).toNat 0))) :=
     bnd_eq hmay (bif_eq_f rfl (bif_eq_f rfl (bif_eq_t rfl (bnd_eq e (bnd_eq e' rfl)))))
    refine Ok.bind (Ok.is hd') ?_
    rintro _ rfl
    refine Ok.ite (fun _=>Ok.some rfl) (fun dl=>?_)
    have hm0 : m ≠ 0:=by
     intro h0
     have dl : (bif decide ((L.length : Int) > 1000) then true else (m == 0)) = false:=dl
     rw [h0] at dl
     cases hk : decide ((L.length : Int) > 1000) <;> rw [hk] at dl <;> cases dl
    have e1 : kwrap .i64 (kwrap .i64 (2 * p3) * p4) = 2 * p3 * p4:=by rw [kw64 (x:=2 * p3) (by omega) (by omega),kw64 (by omega) (by omega)]
    dsimp only
    rw [e1]
    refine Ok.gd ⟨by omega,by omega,by omega⟩ (Ok.bind (feed3_ok p0 p1 p3 p4 p5 p6 p7 p8 p9 hm (by rw [cpy_len]; simp; omega) c1 c2 d1 d2 hV0 hV0) ?_)
    rintro _ ⟨V',W',bb,rfl,hf⟩
    exact turn_ok p0 p1 2 p3 p4 p5 p6 p7 p8 p9 hm hf hd hx hm8 hm0 (fun cov x0 l=>psalterylaw14_SubTurned.l3 5000 m cov x0 p0 p1 2 p3 p4 p5 p6 p7 p8 p9 5000 false 0 l) (fun cov x0 n M=>turn3 m p0 p1 2 p3 p4 p5 p6 p7 p8 p9 cov x0 n M)
  ·have hmay : subband_may 5000 p0 p1 p2 p3 p4 p5 p6 p7 p8 p9 = some 110:=(smay_w p0 p1 p2 p3 p4 p5 p6 p7 p8 p9).trans (by rw [if_neg hm])
   have hd' : subband_NewEncoder 5000 p0 p1 p2 p3 p4 p5 p6 p7 p8 p9 (List.replicate 388 none) 0 0 = some (.inl 110):=bnd_eq hmay (bif_eq_t rfl rfl)
   refine Ok.bind (Ok.is hd') ?_
   rintro _ rfl
   refine Ok.ite (fun _=>Ok.some rfl) (fun h=>by cases h)
 obtain ⟨_,h,rfl⟩:=key
 exact h
end Go.Fo
