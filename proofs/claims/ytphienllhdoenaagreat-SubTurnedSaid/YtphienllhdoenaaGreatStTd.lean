/- What is turned is told: bits alone. -/
import Derived.Test.YtphienllhdoenaaGreatStTc
namespace Go.Fo
set_option maxRecDepth 6000
theorem told2 {H A B : List Nat} {a : Nat} (hH : Bn H) (hA : Bn A) (hB : Bn B) (hl : A.length = B.length) (hs : ∀ i,i < a ∨ a + 8 ≤ i → A.getD i 0 = B.getD i 0) (h : crc 15 (H ++ A) = crc 15 (H ++ B)) : A = B:=by
 have e1 : A.take a = B.take a:=by
  apply List.ext_getElem
  ·rw [List.length_take,List.length_take,hl]
  ·intro i h1 h2
   rw [List.length_take] at h1
   rw [List.getElem_take,List.getElem_take]
   have:=hs i (.inl (by omega))
   rw [List.getD_eq_getElem?_getD,List.getD_eq_getElem?_getD,List.getElem?_eq_getElem (by omega),List.getElem?_eq_getElem (by omega)] at this
   exact this
 have e2 : (A.drop a).drop 8 = (B.drop a).drop 8:=by
  rw [List.drop_drop,List.drop_drop]
  apply List.ext_getElem
  ·rw [List.length_drop,List.length_drop,hl]
  ·intro i h1 h2
   rw [List.length_drop] at h1
   rw [List.getElem_drop,List.getElem_drop]
   have:=hs (a + 8 + i) (.inr (by omega))
   rw [List.getD_eq_getElem?_getD,List.getD_eq_getElem?_getD,List.getElem?_eq_getElem (by omega),List.getElem?_eq_getElem (by omega)] at this
   exact this
 have sA : A = A.take a ++ (A.drop a).take 8 ++ (A.drop a).drop 8:=by rw [List.append_assoc,List.take_append_drop,List.take_append_drop]
 have sB : B = A.take a ++ (B.drop a).take 8 ++ (A.drop a).drop 8:=by rw [e1,e2,List.append_assoc,List.take_append_drop,List.take_append_drop]
 have tk : ∀ {l : List Nat} (k : Nat),Bn l → Bn (l.take k):=fun k h b hb=>h b (List.mem_of_mem_take hb)
 have dr : ∀ {l : List Nat} (k : Nat),Bn l → Bn (l.drop k):=fun k h b hb=>h b (List.mem_of_mem_drop hb)
 have hw : (A.drop a).take 8 = (B.drop a).take 8:=by
  refine crc_told (s:=15) (A:=H ++ A.take a) (Z:=(A.drop a).drop 8) (by decide) (fun b hb=>?_) (tk 8 (dr a hA)) (tk 8 (dr a hB)) (dr 8 (dr a hA)) (by rw [List.length_take,List.length_take,List.length_drop,List.length_drop,hl]) (by rw [List.length_take]; omega) ?_
  ·rcases List.mem_append.mp hb with h | h
   ·exact hH b h
   ·exact tk a hA b h
  ·have x1 : H ++ A = H ++ A.take a ++ (A.drop a).take 8 ++ (A.drop a).drop 8:=by
    conv=>lhs; rw [sA]
    simp only [List.append_assoc]
   have x2 : H ++ B = H ++ A.take a ++ (B.drop a).take 8 ++ (A.drop a).drop 8:=by
    conv=>lhs; rw [sB]
    simp only [List.append_assoc]
   rw [← x1,← x2]; exact h
 rw [sA,sB,hw]
theorem natL_at (X : List Int) (i : Nat) : (natL X).getD i 0 = (b1 X i).toNat:=by
 unfold natL b1
 rw [List.getD_eq_getElem?_getD,List.getD_eq_getElem?_getD,List.getElem?_map]
 cases X[i]? <;> rfl
def fbitsL (H : List Int) (s : Int) (X Y : List Int) : List Int:=bn 156 8 ++ H ++ bn s 8 ++ X ++ Y
theorem fb_bit {H X Y : List Int} {s : Int} (hH : Bit H) (hX : Bit X) (hY : Bit Y) : Bit (fbitsL H s X Y):=((((bn_bit 156 8).app hH).app (bn_bit s 8)).app hX).app hY
theorem fb_lo {H X Y X' Y' : List Int} {s s' : Int} (hH : H.length = 16) {i : Nat} (hi : i < 24) : b1 (fbitsL H s X Y) i = b1 (fbitsL H s' X' Y') i:=by
 have l1 : (bn 156 8 ++ H).length = 24:=by rw [List.length_append,bn_len,hH]
 unfold fbitsL
 rw [b1_app,if_pos (by rw [List.length_append,List.length_append,l1]; omega),b1_app,if_pos (by rw [List.length_append,l1]; omega),b1_app,if_pos (by omega)]
 rw [b1_app (L:=bn 156 8 ++ H ++ bn s' 8 ++ X'),if_pos (by rw [List.length_append,List.length_append,l1]; omega),b1_app (L:=bn 156 8 ++ H ++ bn s' 8),if_pos (by rw [List.length_append,l1]; omega),b1_app (L:=bn 156 8 ++ H),if_pos (by omega)]
theorem fb_s {H X Y : List Int} {s : Int} (hH : H.length = 16) {t : Nat} (ht : t < 8) : b1 (fbitsL H s X Y) (24 + t) = s / 2 ^ (7 - t) % 2:=by
 have l1 : (bn 156 8 ++ H).length = 24:=by rw [List.length_append,bn_len,hH]
 have l2 : (bn 156 8 ++ H ++ bn s 8).length = 32:=by rw [List.length_append,l1,bn_len]
 unfold fbitsL
 rw [b1_app,if_pos (by rw [List.length_append,l2]; omega),b1_app,if_pos (by rw [l2]; omega),b1_app,if_neg (by rw [l1]; omega),l1,show 24 + t - 24 = t by omega,bn_at ht]
theorem fb_x {H X Y : List Int} {s : Int} (hH : H.length = 16) {i : Nat} (hi : i < X.length) : b1 (fbitsL H s X Y) (32 + i) = b1 X i:=by
 have l1 : (bn 156 8 ++ H).length = 24:=by rw [List.length_append,bn_len,hH]
 have l2 : (bn 156 8 ++ H ++ bn s 8).length = 32:=by rw [List.length_append,l1,bn_len]
 unfold fbitsL
 rw [b1_app,if_pos (by rw [List.length_append,l2]; omega),b1_app,if_neg (by rw [l2]; omega),l2,show 32 + i - 32 = i by omega]
theorem byteB : ((List.range 256).all fun s=>(128 * ((s : Int) / 2 ^ 7 % 2) + 64 * ((s : Int) / 2 ^ 6 % 2) + 32 * ((s : Int) / 2 ^ 5 % 2) + 16 * ((s : Int) / 2 ^ 4 % 2) + 8 * ((s : Int) / 2 ^ 3 % 2) + 4 * ((s : Int) / 2 ^ 2 % 2) + 2 * ((s : Int) / 2 ^ 1 % 2) + (s : Int) / 2 ^ 0 % 2) == (s : Int)) = true:=by kernel_rfl
theorem byte3' {M : List Int} {s : Int} (hs : 0 ≤ s ∧ s < 256) (a : ∀ t,t < 8 → b1 M (8 * 3 + t) = s / 2 ^ (7 - t) % 2) : pby M 3 = s:=by
 have h:=beq_iff_eq.mp (List.all_eq_true.mp byteB s.toNat (List.mem_range.mpr (by omega)))
 rw [Int.toNat_of_nonneg hs.1] at h
 have e0 : b1 M (8 * 3) = _:=a 0 (by decide)
 unfold pby
 rw [e0,a 1 (by decide),a 2 (by decide),a 3 (by decide),a 4 (by decide),a 5 (by decide),a 6 (by decide),a 7 (by decide)]
 exact h
theorem byte3 {H X Y : List Int} {s : Int} (hH : H.length = 16) (hs : 0 ≤ s ∧ s < 256) : pby (fbitsL H s X Y) 3 = s:=byte3' hs (fun _ ht=>fb_s hH ht)
theorem pby_cg {L M : List Int} {j : Nat} (h : ∀ t,t < 8 → b1 L (8 * j + t) = b1 M (8 * j + t)) : pby L j = pby M j:=by
 unfold pby
 rw [show b1 L (8 * j) = b1 M (8 * j) from h 0 (by omega),h 1 (by omega),h 2 (by omega),h 3 (by omega),h 4 (by omega),h 5 (by omega),h 6 (by omega),h 7 (by omega)]
theorem no_head {n j : Nat} {H X Y X' Y' : List Int} {s s' v : Int} (hj : j < 4) (hn : 4 ≤ n) (hH : H.length = 16) (bH : Bit H) (bX : Bit X) (bY : Bit Y) (bX' : Bit X') (bY' : Bit Y') (hl : X.length = X'.length) (hx : 32 + X.length ≤ 8 * n) (hs : s = ((crc 15 (natL (H ++ X)) : Nat) : Int)) (hs' : s' = ((crc 15 (natL (H ++ X')) : Nat) : Int)) (h : (pk n (fbitsL H s X Y)).set j v = pk n (fbitsL H s' X' Y')) : v = pby (fbitsL H s X Y) j:=by
 have bM:=fb_bit (s:=s) bH bX bY
 have bM':=fb_bit (s:=s') bH bX' bY'
 have hby : ∀ i,i < n → i ≠ j → pby (fbitsL H s X Y) i = pby (fbitsL H s' X' Y') i:=by
  intro i hi hij
  have e : Kd.nth (.int .u8) ((pk n (fbitsL H s X Y)).set j v) i = pby (fbitsL H s' X' Y') i:=by rw [h]; exact pk_at hi
  rw [← e]
  show _ = ((pk n (fbitsL H s X Y)).set j v).getD i 0
  rw [List.getD_eq_getElem?_getD,List.getElem?_set_ne (Ne.symm hij),← List.getD_eq_getElem?_getD]
  exact (pk_at hi).symm
 have hbit : ∀ i,i < X.length → b1 X i = b1 X' i:=by
  intro i hi
  have a:=pby_bit bM ((32 + i) / 8) ((32 + i) % 8) (Nat.mod_lt _ (by decide))
  have b:=pby_bit bM' ((32 + i) / 8) ((32 + i) % 8) (Nat.mod_lt _ (by decide))
  rw [show 8 * ((32 + i) / 8) + (32 + i) % 8 = 32 + i by omega] at a b
  rw [fb_x hH hi] at a
  rw [fb_x hH (by omega)] at b
  rw [← a,← b,hby _ (by omega) (by omega)]
 have hXX : X = X':=by
  apply List.ext_getElem hl
  intro i h1 h2
  have:=hbit i h1
  unfold b1 at this
  rw [List.getD_eq_getElem?_getD,List.getD_eq_getElem?_getD,List.getElem?_eq_getElem h1,List.getElem?_eq_getElem h2] at this
  exact this
 have hss : s = s':=by rw [hs,hs',hXX]
 have e : v = pby (fbitsL H s' X' Y') j:=by
  rw [← pk_at (n:=n) (by omega),← h]
  show v = ((pk n (fbitsL H s X Y)).set j v).getD j 0
  rw [List.getD_eq_getElem?_getD,List.getElem?_set_self (by rw [pk_len]; omega)]; rfl
 rw [e]
 apply pby_cg
 intro t ht
 by_cases q : 8 * j + t < 24
 ·exact fb_lo hH q
 ·rw [show 8 * j + t = 24 + t by omega,fb_s hH ht,fb_s hH ht,hss]
theorem no_side {n x0 : Nat} {H X Y X' Y' M2 : List Int} {s s' : Int} (hn : 4 ≤ n) (hx0 : 32 ≤ x0) (hH : H.length = 16) (bH : Bit H) (bX : Bit X) (bY : Bit Y) (bX' : Bit X') (bY' : Bit Y') (b2 : Bit M2) (hl : X.length = X'.length) (hx : 32 + X.length ≤ 8 * n) (r : 0 ≤ s ∧ s < 256) (r' : 0 ≤ s' ∧ s' < 256) (hs : s = ((crc 15 (natL (H ++ X)) : Nat) : Int)) (hs' : s' = ((crc 15 (natL (H ++ X')) : Nat) : Int)) (ho : ∀ p,p < x0 ∨ x0 + 8 ≤ p ∨ 32 + X.length ≤ p → b1 M2 p = b1 (fbitsL H s X Y) p) (h : pk n M2 = pk n (fbitsL H s' X' Y')) : ∀ p,b1 M2 p = b1 (fbitsL H s X Y) p:=by
 have bM':=fb_bit (s:=s') bH bX' bY'
 have hb:=pk_inj b2 bM' h
 have hss : s = s':=by
  have e : pby M2 3 = pby (fbitsL H s X Y) 3:=pby_cg (fun t ht=>ho _ (.inl (by omega)))
  have e2 : pby M2 3 = pby (fbitsL H s' X' Y') 3:=pby_cg (fun t ht=>hb _ (by omega))
  rw [byte3 hH r] at e
  rw [byte3 hH r'] at e2
  rw [← e,← e2]
 have hXX : natL X = natL X':=by
  refine told2 (H:=natL H) (a:=x0 - 32) (natL_bn bH) (natL_bn bX) (natL_bn bX') (by simp [natL,hl]) (fun i hi=>?_) ?_
  ·rw [natL_at,natL_at]
   by_cases q : i < X.length
   ·have e1:=ho (32 + i) (by omega)
    have e2:=hb (32 + i) (by omega)
    rw [fb_x hH q] at e1
    rw [fb_x hH (by omega)] at e2
    rw [← e1,e2]
   ·rw [b1_out (by omega),b1_out (by omega)]
  ·rw [← natL_app,← natL_app]
   rw [hs,hs'] at hss
   exact_mod_cast hss
 intro p
 by_cases q : p < x0 ∨ x0 + 8 ≤ p ∨ 32 + X.length ≤ p
 ·exact ho p q
 ·have q2 : p - 32 < X.length:=by omega
  have e1:=fb_x (H:=H) (X:=X) (Y:=Y) (s:=s) hH q2
  have e2:=fb_x (H:=H) (X:=X') (Y:=Y') (s:=s') hH (i:=p - 32) (by omega)
  rw [show 32 + (p - 32) = p by omega] at e1 e2
  rw [hb p (by omega),e1,e2]
  have a:=natL_at X (p - 32)
  have b:=natL_at X' (p - 32)
  rw [hXX,b] at a
  have c:=bX (p - 32)
  have d:=bX' (p - 32)
  omega
theorem fx_use (p0 p1 p2 p3 p4 p5 p6 p7 p8 p9 : Int) {b : List Int} (h : Fx p0 p1 p2 p3 p4 p5 p6 p7 p8 p9 b) : ∃ s X Y,(0 ≤ s ∧ s < 256) ∧ Bit X ∧ Bit Y ∧ (X.length : Int) = p6 * p3 + 4 * p3 * p2 ∧ s = ((crc 15 (natL (bns (headL p1 p2 p3 p4 p5 p6 p7) ++ X)) : Nat) : Int) ∧ b = pk (payZ p2 p3 p4 p6 p7).toNat (fbitsL (bns (headL p1 p2 p3 p4 p5 p6 p7)) s X Y) ∧ (fbitsL (bns (headL p1 p2 p3 p4 p5 p6 p7)) s X Y).length ≤ 8 * (payZ p2 p3 p4 p6 p7).toNat:=by
 obtain ⟨J,S,Q,C,B,z,s,hS,hv,hs,hsum,rfl⟩:=h
 have hm:=hS.hf.1
 have h3 : p3 = 4 ∨ p3 = 8:=hm.1.2.2.2.2.1
 have h6 : p6 = 0 ∨ (p6 = 1 ∧ p2 = 2):=hm.1.2.2.2.2.2.2.2.1
 have w2:=wid_joins p6 J (by omega)
 rw [hv.1.1] at w2
 have w3:=wid_scal (C:=p2) (N:=p3) (S:=S) ⟨hS.hf.2.1,fun c a b=>(hS.hf.2.2 c a b).1⟩ (by omega)
 have hW:=wid_all p0 p1 p2 p3 p4 p5 p6 p7 p8 p9 hS hv s
 have e : bns (frL p1 p2 p3 p4 p5 p6 p7 s J S Q (rw_ C B z)) = fbitsL (bns (headL p1 p2 p3 p4 p5 p6 p7)) s (bns (joinL p6 J ++ scalL S)) (bns (codesL (rw_ C B z) Q)):=by
  unfold frL preL fbitsL
  rw [bns_app,bns_app,bns_app,bns_app,bns_one,bns_one]; rfl
 refine ⟨s,bns (joinL p6 J ++ scalL S),bns (codesL (rw_ C B z) Q),hs,bns_bit _,bns_bit _,?_,?_,by rw [e],by rw [← e]; exact hW⟩
 ·show ((wid (joinL p6 J ++ scalL S) : Nat) : Int) = _
  rw [wid_app]; omega
 ·rw [← bns_app]; exact sum_w p0 p1 p2 p3 p4 p5 p6 p7 p8 p9 Q hS.hf hv.1 hsum
theorem kxor8 {x y : Nat} (hx : x < 256) (hy : y < 256) : kxor .u8 (x : Int) (y : Int) = ((x ^^^ y : Nat) : Int):=by
 unfold kxor
 have e : (BitVec.ofInt IntKind.u8.bits (x : Int) ^^^ BitVec.ofInt IntKind.u8.bits (y : Int)).toNat = x ^^^ y:=by
  rw [BitVec.toNat_xor,BitVec.toNat_ofInt,BitVec.toNat_ofInt]
  show ((x : Int) % ((2 ^ 8 : Nat) : Int)).toNat ^^^ ((y : Int) % ((2 ^ 8 : Nat) : Int)).toNat = _
  rw [show ((x : Int) % ((2 ^ 8 : Nat) : Int)).toNat = x by omega,show ((y : Int) % ((2 ^ 8 : Nat) : Int)).toNat = y by omega]
 rw [e]
 have hlt : x ^^^ y < 2 ^ 8:=Nat.xor_lt_two_pow (by omega) (by omega)
 have hlt : x ^^^ y < 256:=hlt
 generalize x ^^^ y = v at *
 show kwrap .u8 (v : Int) = v
 unfold kwrap IntKind.wrap; simp [IntKind.bits,IntKind.signed]; omega
theorem kx_ne {y m : Int} (h0 : 0 ≤ y) (h1 : y < 256) (m0 : 0 ≤ m) (m1 : m < 256) (hm : m ≠ 0) : kxor .u8 y m ≠ y:=by
 intro h
 obtain ⟨a,rfl⟩:=Int.eq_ofNat_of_zero_le h0
 obtain ⟨c,rfl⟩:=Int.eq_ofNat_of_zero_le m0
 rw [kxor8 (by omega) (by omega)] at h
 have h : a ^^^ c = a:=by exact_mod_cast h
 have:=congrArg (a ^^^ ·) h
 simp only [← Nat.xor_assoc,Nat.xor_self,Nat.zero_xor] at this
 omega
end Go.Fo
