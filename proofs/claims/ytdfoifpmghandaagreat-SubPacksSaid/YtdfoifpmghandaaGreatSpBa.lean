/- Bits laid and taken,exactly. -/
import Derived.Test.YtdfoifpmghandaaGreatSpOb
namespace Go.Fo
set_option maxRecDepth 6000
abbrev b1 (L : List Int) (i : Nat) : Int:=L.getD i 0
def Bit (L : List Int) : Prop:=∀ i,b1 L i = 0 ∨ b1 L i = 1
theorem Bit.bd {L : List Int} (h : Bit L) (i : Nat) : 0 ≤ b1 L i ∧ b1 L i ≤ 1:=by rcases h i with e | e <;> rw [e] <;> decide
def pby (L : List Int) (j : Nat) : Int:=128 * b1 L (8 * j) + 64 * b1 L (8 * j + 1) + 32 * b1 L (8 * j + 2) + 16 * b1 L (8 * j + 3) + 8 * b1 L (8 * j + 4) + 4 * b1 L (8 * j + 5) + 2 * b1 L (8 * j + 6) + b1 L (8 * j + 7)
def pk (n : Nat) (L : List Int) : List Int:=(List.range n).map (pby L)
theorem pk_len (n : Nat) (L : List Int) : (pk n L).length = n:=by simp [pk]
theorem pk_at {n : Nat} {L : List Int} {j : Nat} (h : j < n) : Kd.nth (.int .u8) (pk n L) j = pby L j:=by
 show (pk n L).getD j 0 = _
 unfold pk
 rw [List.getD_eq_getElem?_getD,List.getElem?_eq_getElem (by simpa using h)]
 simp
theorem pby_r {L : List Int} (h : Bit L) (j : Nat) : 0 ≤ pby L j ∧ pby L j < 256:=by
 have h0:=h.bd (8 * j); have h1:=h.bd (8 * j + 1); have h2:=h.bd (8 * j + 2); have h3:=h.bd (8 * j + 3); have h4:=h.bd (8 * j + 4); have h5:=h.bd (8 * j + 5); have h6:=h.bd (8 * j + 6); have h7:=h.bd (8 * j + 7)
 unfold pby; omega
theorem pby_bit {L : List Int} (h : Bit L) (j : Nat) (t : Nat) (ht : t < 8) : pby L j / 2 ^ (7 - t) % 2 = b1 L (8 * j + t):=by
 have h0:=h.bd (8 * j); have h1:=h.bd (8 * j + 1); have h2:=h.bd (8 * j + 2); have h3:=h.bd (8 * j + 3); have h4:=h.bd (8 * j + 4); have h5:=h.bd (8 * j + 5); have h6:=h.bd (8 * j + 6); have h7:=h.bd (8 * j + 7)
 have hb : t = 0 ∨ t = 1 ∨ t = 2 ∨ t = 3 ∨ t = 4 ∨ t = 5 ∨ t = 6 ∨ t = 7:=by omega
 unfold pby
 rcases hb with rfl | rfl | rfl | rfl | rfl | rfl | rfl | rfl <;> simp only [Nat.add_zero,Nat.reduceSub,Int.reducePow] <;> omega
theorem b1_app {L M : List Int} {i : Nat} : b1 (L ++ M) i = if i < L.length then b1 L i else b1 M (i - L.length):=by
 unfold b1
 rw [List.getD_eq_getElem?_getD,List.getD_eq_getElem?_getD,List.getD_eq_getElem?_getD]
 by_cases h : i < L.length
 ·rw [if_pos h,List.getElem?_append_left h]
 ·rw [if_neg h,List.getElem?_append_right (by omega)]
theorem b1_out {L : List Int} {i : Nat} (h : L.length ≤ i) : b1 L i = 0:=by
 unfold b1; rw [List.getD_eq_getElem?_getD,List.getElem?_eq_none h]; rfl
theorem Bit.app {L M : List Int} (h : Bit L) (k : Bit M) : Bit (L ++ M):=fun i=>by rw [b1_app]; split; exact h i; exact k _
theorem Bit.nil : Bit []:=fun i=>.inl (b1_out (by simp))
theorem orB : ((List.range 256).all fun y=>(List.range 8).all fun t=>decide (y % 2 ^ (8 - t) ≠ 0) || decide (kor .u8 (y : Int) (kshr .u8 128 (t : Int)) = ((y + 2 ^ (7 - t) : Nat) : Int))) = true:=by kernel_rfl
theorem or_w {y : Int} {t : Nat} (h0 : 0 ≤ y) (h1 : y < 256) (ht : t < 8) (hd : y % 2 ^ (8 - t) = 0) : kor .u8 y (kshr .u8 128 (t : Int)) = y + 2 ^ (7 - t):=by
 have h:=List.all_eq_true.1 (List.all_eq_true.1 orB y.toNat (List.mem_range.2 (by omega))) t (List.mem_range.2 ht)
 rw [Int.toNat_of_nonneg h0] at h
 rcases Bool.or_eq_true _ _ ▸ h with h | h
 ·exfalso
  have h:=of_decide_eq_true h
  apply h
  have : ((y.toNat % 2 ^ (8 - t) : Nat) : Int) = 0:=by push_cast; rw [Int.toNat_of_nonneg h0]; exact hd
  exact_mod_cast this
 ·have h:=of_decide_eq_true h
  rw [h]; push_cast; rw [Int.toNat_of_nonneg h0]
theorem andB : ((List.range 256).all fun y=>(List.range 8).all fun t=>(kand .u8 (y : Int) (kshr .u8 128 (t : Int)) != 0) == (decide (y / 2 ^ (7 - t) % 2 = 1))) = true:=by kernel_rfl
theorem and_w {y : Int} {t : Nat} (h0 : 0 ≤ y) (h1 : y < 256) (ht : t < 8) : (kand .u8 y (kshr .u8 128 (t : Int)) != 0) = decide (y / 2 ^ (7 - t) % 2 = 1):=by
 have h:=List.all_eq_true.1 (List.all_eq_true.1 andB y.toNat (List.mem_range.2 (by omega))) t (List.mem_range.2 ht)
 rw [Int.toNat_of_nonneg h0] at h
 rw [beq_iff_eq.1 h]
 apply decide_eq_decide.2
 constructor
 ·intro e
  have : ((y.toNat / 2 ^ (7 - t) % 2 : Nat) : Int) = 1:=by exact_mod_cast e
  push_cast at this; rwa [Int.toNat_of_nonneg h0] at this
 ·intro e
  have : ((y.toNat / 2 ^ (7 - t) % 2 : Nat) : Int) = 1:=by push_cast; rwa [Int.toNat_of_nonneg h0]
  exact_mod_cast this
theorem pk_one {n : Nat} {L : List Int} (h : Bit L) (hx : L.length < 8 * n) : (pk n L).set (L.length / 8) (kor .u8 (pby L (L.length / 8)) (kshr .u8 128 ((L.length % 8 : Nat) : Int))) = pk n (L ++ [1]):=by
 have hr:=pby_r h (L.length / 8)
 have hz : ∀ t,L.length % 8 ≤ t → b1 L (8 * (L.length / 8) + t) = 0:=fun t ht=>b1_out (by omega)
 have h0:=h.bd (8 * (L.length / 8)); have h1:=h.bd (8 * (L.length / 8) + 1); have h2:=h.bd (8 * (L.length / 8) + 2); have h3:=h.bd (8 * (L.length / 8) + 3); have h4:=h.bd (8 * (L.length / 8) + 4); have h5:=h.bd (8 * (L.length / 8) + 5); have h6:=h.bd (8 * (L.length / 8) + 6); have h7:=h.bd (8 * (L.length / 8) + 7)
 have hq : L.length % 8 = 0 ∨ L.length % 8 = 1 ∨ L.length % 8 = 2 ∨ L.length % 8 = 3 ∨ L.length % 8 = 4 ∨ L.length % 8 = 5 ∨ L.length % 8 = 6 ∨ L.length % 8 = 7:=by omega
 have hd : pby L (L.length / 8) % 2 ^ (8 - L.length % 8) = 0:=by
  unfold pby
  rcases hq with e | e | e | e | e | e | e | e <;> rw [e] at hz ⊢ <;> simp only [Nat.reduceSub,Int.reducePow]
  ·rw [show b1 L (8 * (L.length / 8)) = 0 from hz 0 (by omega),hz 1 (by omega),hz 2 (by omega),hz 3 (by omega),hz 4 (by omega),hz 5 (by omega),hz 6 (by omega),hz 7 (by omega)]; rfl
  ·rw [hz 1 (by omega),hz 2 (by omega),hz 3 (by omega),hz 4 (by omega),hz 5 (by omega),hz 6 (by omega),hz 7 (by omega)]; omega
  ·rw [hz 2 (by omega),hz 3 (by omega),hz 4 (by omega),hz 5 (by omega),hz 6 (by omega),hz 7 (by omega)]; omega
  ·rw [hz 3 (by omega),hz 4 (by omega),hz 5 (by omega),hz 6 (by omega),hz 7 (by omega)]; omega
  ·rw [hz 4 (by omega),hz 5 (by omega),hz 6 (by omega),hz 7 (by omega)]; omega
  ·rw [hz 5 (by omega),hz 6 (by omega),hz 7 (by omega)]; omega
  ·rw [hz 6 (by omega),hz 7 (by omega)]; omega
  ·rw [hz 7 (by omega)]; omega
 rw [or_w hr.1 hr.2 (Nat.mod_lt _ (by decide)) hd]
 apply List.ext_getElem
 ·simp [pk]
 ·intro k g1 g2
  have hk : k < n:=by simpa [pk] using g2
  rw [List.getElem_set]
  simp only [pk,List.getElem_map,List.getElem_range]
  have ha : ∀ i,b1 (L ++ [1]) i = if i < L.length then b1 L i else if i = L.length then 1 else 0:=fun i=>by
   rw [b1_app]
   by_cases e : i < L.length
   ·rw [if_pos e,if_pos e]
   ·rw [if_neg e,if_neg e]
    by_cases e2 : i = L.length
    ·rw [if_pos e2,e2,Nat.sub_self]; rfl
    ·rw [if_neg e2]; exact b1_out (by simp; omega)
  by_cases e : L.length / 8 = k
  ·rw [if_pos e,← e]
   have ha2 : ∀ t,b1 (L ++ [1]) (8 * (L.length / 8) + t) = if t < L.length % 8 then b1 L (8 * (L.length / 8) + t) else if t = L.length % 8 then 1 else 0:=fun t=>by
    rw [ha]
    by_cases q : t < L.length % 8
    ·rw [if_pos q,if_pos (by omega)]
    ·rw [if_neg q,if_neg (by omega)]
     by_cases q2 : t = L.length % 8
     ·rw [if_pos q2,if_pos (by omega)]
     ·rw [if_neg q2,if_neg (by omega)]
   unfold pby
   rw [show b1 (L ++ [1]) (8 * (L.length / 8)) = _ from ha2 0,ha2 1,ha2 2,ha2 3,ha2 4,ha2 5,ha2 6,ha2 7]
   have z0:=hz 0; have z1:=hz 1; have z2:=hz 2; have z3:=hz 3; have z4:=hz 4; have z5:=hz 5; have z6:=hz 6; have z7:=hz 7
   rcases hq with e | e | e | e | e | e | e | e <;> rw [e] at z0 z1 z2 z3 z4 z5 z6 z7 ⊢ <;> simp only [Nat.reduceSub,Int.reducePow,Nat.reduceLT,if_true,if_false,Nat.reduceEqDiff,Nat.add_zero] at z0 z1 z2 z3 z4 z5 z6 z7 ⊢ <;> omega
  ·rw [if_neg e]
   have hs : ∀ t,t < 8 → b1 (L ++ [1]) (8 * k + t) = b1 L (8 * k + t):=fun t ht=>by
    rw [ha]
    by_cases q : 8 * k + t < L.length
    ·rw [if_pos q]
    ·rw [if_neg q,if_neg (by omega)]; exact (b1_out (by omega)).symm
   unfold pby
   rw [show b1 (L ++ [1]) (8 * k) = b1 L (8 * k) from hs 0 (by omega),hs 1 (by omega),hs 2 (by omega),hs 3 (by omega),hs 4 (by omega),hs 5 (by omega),hs 6 (by omega),hs 7 (by omega)]
theorem pk_zero (n : Nat) (L : List Int) : pk n (L ++ [0]) = pk n L:=by
 have ha : ∀ i,b1 (L ++ [0]) i = b1 L i:=fun i=>by
  rw [b1_app]
  by_cases e : i < L.length
  ·rw [if_pos e]
  ·rw [if_neg e,b1_out (L:=L) (by omega)]
   cases h : i - L.length with
   | zero=>rfl
   | succ j=>exact b1_out (by simp)
 unfold pk
 apply List.map_congr_left
 intro j _
 unfold pby
 rw [ha,ha,ha,ha,ha,ha,ha,ha]
def bn (v : Int) (k : Nat) : List Int:=(List.range k).map fun i=>v / 2 ^ (k - 1 - i) % 2
theorem bn_len (v : Int) (k : Nat) : (bn v k).length = k:=by simp [bn]
theorem bn_at {v : Int} {k i : Nat} (h : i < k) : b1 (bn v k) i = v / 2 ^ (k - 1 - i) % 2:=by
 unfold b1 bn
 rw [List.getD_eq_getElem?_getD,List.getElem?_eq_getElem (by simpa using h)]
 simp
theorem bn_bit (v : Int) (k : Nat) : Bit (bn v k):=fun i=>by
 by_cases h : i < k
 ·rw [bn_at h]; omega
 ·exact .inl (b1_out (by rw [bn_len]; omega))
theorem bn_take {v : Int} {k i : Nat} (h : i < k) : (bn v k).take (i + 1) = (bn v k).take i ++ [v / 2 ^ (k - 1 - i) % 2]:=by
 rw [List.take_add_one,List.getElem?_eq_getElem (by rw [bn_len]; exact h)]
 simp [bn]
theorem bits0 {x : Int} (h0 : 0 ≤ x) (h1 : x < 4294967296) : kand .u32 x 1 = x % 2:=by
 have h:=and_mask 32 x 1 (by decide)
 unfold kand
 show kwrap .u32 ((BitVec.ofInt 32 x &&& BitVec.ofInt 32 1).toNat : Int) = _
 have h : ((BitVec.ofInt 32 x &&& BitVec.ofInt 32 1).toNat : Int) = x % 2:=h
 rw [h]
 unfold kwrap IntKind.wrap; simp [IntKind.bits,IntKind.signed]; omega
theorem p2le {s t : Nat} (h : s ≤ t) : (2 : Int) ^ s ≤ 2 ^ t:=by
 have:=Int.ofNat_le.2 (Nat.pow_le_pow_right (n:=2) (by decide) h)
 rwa [Int.natCast_pow,Int.natCast_pow] at this
theorem shr32 {v : Int} {i : Nat} (hi : i < 32) : kshr .u32 v (i : Int) = v / 2 ^ i:=by
 unfold kshr
 rw [show min (Int.toNat (i : Int)) IntKind.u32.bits = i by show min i 32 = i; omega]
 exact Int.fdiv_eq_ediv_of_nonneg _ (Int.pow_nonneg (by decide))
theorem front_w {v : Int} {k n : Nat} {L : List Int} (hL : Bit L) (hn : n ≤ 600) (hk : k ≤ 32) (hv0 : 0 ≤ v) (hv : v < 2 ^ k) (hx : L.length + k ≤ 8 * n) : bits_Pad_Front_2 5000 v k L.length 0 (pk n L) = some (0,((L.length + k : Nat) : Int),pk n (L ++ bn v k)):=by
 have hv2 : v < 4294967296:=Int.lt_of_lt_of_le hv (p2le hk)
 have hw : bits_Pad_write_2 5000 v k L.length 0 (pk n L) = some 0:=by
  have e1 : kwrap .i64 (8 * (((pk n L).length : Nat) : Int)) = 8 * n:=by rw [pk_len]; exact kw64 (by omega) (by omega)
  have e2 : bits_ends_may 5000 k (((pk n L).length : Nat) : Int) L.length 0 (pk n L) = some 0:=by
   refine bif_eq_f (by rw [decide_eq_false (by omega),decide_eq_false (by omega)]; rfl) (bnd_eq (x:=8 * (n : Int) - L.length) ?_ (bif_eq_f (decide_eq_false (by omega)) rfl))
   unfold bits_ends_left
   dsimp only
   rw [e1,kw64 (x:=8 * (n : Int) - L.length) (by omega) (by omega),Int.sub_zero,kw64 (by omega) (by omega)]
  refine gd_eq (fun _=>by omega) (bif_eq_f ?_ (bnd_eq e2 rfl))
  rw [decide_eq_true (show (k : Int) ≥ 0 by omega)]
  by_cases e : k < 32
  ·rw [decide_eq_true (show (k : Int) < 32 by omega),shr32 e,Int.ediv_eq_zero_of_lt hv0 hv]; rfl
  ·rw [decide_eq_false (by omega)]; rfl
 refine bnd_eq hw (bif_eq_f rfl ?_)
 dsimp only
 have key : ∀ (j m : Nat),j < m → j ≤ k → bits_Pad_Front_2.l0 5000 v 0 m ((j : Int) - 1) ((L.length + (k - j) : Nat) : Int) (pk n (L ++ (bn v k).take (k - j))) = some (((L.length + k : Nat) : Int),pk n (L ++ bn v k)):=by
  intro j
  induction j with
  | zero =>
   intro m hm _
   obtain ⟨m,rfl⟩ : ∃ q,m = q + 1:=⟨m - 1,by omega⟩
   show bits_Pad_Front_2.r0 5000 v 0 (bits_Pad_Front_2.l0 5000 v 0 m) (((0 : Nat) : Int) - 1) ((L.length + (k - 0) : Nat) : Int) (pk n (L ++ (bn v k).take (k - 0))) = _
   unfold bits_Pad_Front_2.r0
   refine bif_eq_f (decide_eq_false (by omega)) ?_
   rw [Nat.sub_zero,List.take_of_length_le (by rw [bn_len]; omega)]
  | succ j ih =>
   intro m hm hj
   obtain ⟨m,rfl⟩ : ∃ q,m = q + 1:=⟨m - 1,by omega⟩
   have ih:=ih m (by omega) (by omega)
   have ht : (L ++ (bn v k).take (k - (j + 1))).length = L.length + (k - (j + 1)):=by rw [List.length_append,List.length_take,bn_len]; omega
   have hbit : Bit (L ++ (bn v k).take (k - (j + 1))):=hL.app (fun i=>by
    unfold b1
    rw [List.getD_eq_getElem?_getD,List.getElem?_take]
    split
    ·rw [← List.getD_eq_getElem?_getD]; exact bn_bit v k i
    ·exact .inl rfl)
   have hnx : L ++ (bn v k).take (k - j) = (L ++ (bn v k).take (k - (j + 1))) ++ [v / 2 ^ j % 2]:=by
    rw [show k - j = (k - (j + 1)) + 1 by omega,bn_take (by omega),List.append_assoc,show k - 1 - (k - (j + 1)) = j by omega]
   rw [show (((j + 1 : Nat) : Int) - 1) = (j : Int) by omega]
   show bits_Pad_Front_2.r0 5000 v 0 (bits_Pad_Front_2.l0 5000 v 0 m) (j : Int) ((L.length + (k - (j + 1)) : Nat) : Int) (pk n (L ++ (bn v k).take (k - (j + 1)))) = _
   have hdv : 0 ≤ v / 2 ^ j ∧ v / 2 ^ j < 4294967296:=⟨Int.ediv_nonneg hv0 (Int.pow_nonneg (by decide)),Int.lt_of_le_of_lt (Int.ediv_le_self _ hv0) hv2⟩
   generalize hM : L ++ (bn v k).take (k - (j + 1)) = M at *
   unfold bits_Pad_Front_2.r0
   refine bif_eq_t (decide_eq_true (by omega)) (bnd_eq (x:=(((M.length + 1 : Nat) : Int),pk n (M ++ [v / 2 ^ j % 2]))) ?_ ?_)
   ·refine bnd_eq (ahead_w (by omega) (by omega) _) ?_
    dsimp only
    rw [shr32 (by omega),bits0 hdv.1 hdv.2]
    refine gd_eq (by omega) ?_
    rw [← ht]
    by_cases e : v / 2 ^ j % 2 = 1
    ·refine bif_eq_t (by rw [e]; rfl) (gd_eq ⟨by omega,by rw [pk_len]; omega,by rw [pk_len]; omega,by omega,by rw [pk_len]; omega,by rw [pk_len]; omega⟩ ?_)
     rw [e,← pk_one hbit (by omega),show Int.toNat ((M.length : Int) / 8) = M.length / 8 by omega,pk_at (by omega)]
     congr 1
    ·have e0 : v / 2 ^ j % 2 = 0:=by omega
     refine bif_eq_f (by rw [e0]; rfl) ?_
     rw [e0,pk_zero]; congr 1
   ·dsimp only
    rw [kw64 (x:=(j : Int) - 1) (by omega) (by omega),← hnx,show M.length + 1 = L.length + (k - j) by omega]
    exact ih
 have h0:=key k 5000 (by omega) (Nat.le_refl _)
 rw [Nat.sub_self,Nat.add_zero,List.take_zero,List.append_nil] at h0
 rw [kw64 (x:=(k : Int) - 1) (by omega) (by omega)]
 exact bnd_eq h0 rfl
end Go.Fo
