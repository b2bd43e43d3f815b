/- What is laid is taken again. -/
import Derived.Test.YtphienllhdoenaaGreatSbEc
namespace Go.Fo
set_option maxRecDepth 6000
theorem num_mid {A R : List (Int × Int)} {v k : Int} (hf : fits2 (v,k)) : num ((List.range k.toNat).map fun t=>b1 (bns (A ++ [(v,k)] ++ R)) (wid A + t)) = v:=by
 have e : ((List.range k.toNat).map fun t=>b1 (bns (A ++ [(v,k)] ++ R)) (wid A + t)) = bn v k.toNat:=by
  apply List.ext_getElem
  ·rw [bn_len]; simp
  ·intro t h1 h2
   have ht : t < k.toNat:=by rw [bn_len] at h2; exact h2
   rw [List.getElem_map,List.getElem_range,bns_app,bns_app,bns_one,b1_app,if_pos (by rw [List.length_append,bn_len]; show wid A + t < wid A + _; omega),b1_app,if_neg (by show ¬ wid A + t < wid A; omega)]
   show b1 (bn v k.toNat) (wid A + t - wid A) = _
   rw [Nat.add_sub_cancel_left]
   show (bn v k.toNat).getD t 0 = _
   rw [List.getD_eq_getElem?_getD,List.getElem?_eq_getElem h2]; rfl
 rw [e]
 exact num_bn hf.2.2.1 hf.2.2.2
theorem nums_at {M : List Int} {x k n i : Nat} (h : i < (numsB M x k n).length) : (numsB M x k n)[i] = num ((List.range k).map fun t=>b1 M (x + i * k + t)):=by
 simp only [numsB,List.getElem_map,List.getElem_range]
theorem nums_mid {A R : List (Int × Int)} {l : List Int} {k : Int} (hf : ∀ i : Nat,i < l.length → fits2 (at' l i,k)) : numsB (bns (A ++ tg l k ++ R)) (wid A) k.toNat l.length = l:=by
 apply List.ext_getElem
 ·simp [numsB]
 ·intro i h1 h2
  obtain ⟨R',hR⟩:=m_split (fun i : Nat=>(at' l i,k)) h2
  have hw : wid (A ++ (List.range i).map fun i : Nat=>(at' l i,k)) = wid A + i * k.toNat:=by rw [wid_app,wid_map (fun i : Nat=>(at' l i,k)) (fun _=>rfl)]
  have hL : A ++ tg l k ++ R = (A ++ (List.range i).map fun i : Nat=>(at' l i,k)) ++ [(at' l i,k)] ++ (R' ++ R):=by unfold tg; rw [hR]; simp only [List.append_assoc]
  rw [nums_at,hL,← hw,num_mid (hf i h2)]
  show l.getD i 0 = _
  rw [List.getD_eq_getElem?_getD,List.getElem?_eq_getElem h2]; rfl
theorem takeL {L A R : List (Int × Int)} {l : List Int} {k c x : Int} {n : Nat} (hL : L = A ++ tg l k ++ R) (hn : n ≤ 600) (hk : 0 ≤ k ∧ k ≤ 32) (hl : l.length ≤ 100) (hW : wid L ≤ 8 * n) (hf : ∀ i : Nat,i < l.length → fits2 (at' l i,k)) (hc : c = (l.length : Int)) (hx : x = (wid A : Int)) :
  subband_take_2 5000 c k x 0 (pk n (bns L)) = some (l,(wid (A ++ tg l k) : Int)):=by
 subst hL hc hx
 have hw : wid (A ++ tg l k) = wid A + l.length * k.toNat:=by rw [wid_app,wid_tg]
 have h:=takeW (M:=bns (A ++ tg l k ++ R)) (n:=n) (k:=k.toNat) (x:=wid A) (c:=l.length) (bns_bit _) hn (by omega) hl (by rw [wid_app] at hW; omega)
 rw [nums_mid hf,show ((k.toNat : Nat) : Int) = k by omega] at h
 rw [hw]; exact h
theorem equal_w {a : List Int} (ha : a.length ≤ 4000) : Ok (fun r=>r = true) (slices_Equal_byte_byte 5000 a a):=by
 refine Ok.ite (fun c=>by rw [bne_self_eq_false] at c; cases c) (fun _=>?_)
 refine Ok.bind (Q:=fun z=>z = .inl ()) ?_ (fun z hz=>by rw [show z = .inl () from hz]; exact Ok.some rfl)
 unfold slices_Equal_byte_byte.l0
 refine rounds_ok1 (fun i=>0 ≤ i ∧ i ≤ (a.length : Int)) (fun i=>((a.length : Int) - i).toNat) _ ?_ 5000 _ ⟨by omega,by omega⟩ (by omega)
 rintro next i ⟨g1,g2⟩ ih
 refine Ok.ite (fun d=>?_) (fun _=>Ok.some rfl)
 have d:=dt d
 refine Ok.gd ⟨g1,d⟩ (Ok.gd ⟨g1,d⟩ (Ok.ite (fun c=>by rw [bne_self_eq_false] at c; cases c) (fun _=>?_)))
 have e:=kw1 (x:=i) (by omega) (by omega)
 exact ih _ ⟨by omega,by omega⟩ (by omega)
theorem setgd {X : List (List Int)} {c : Nat} (h : c < X.length) (v : List Int) : (X.set c v).getD c [] = v:=by rw [List.getD_eq_getElem?_getD,List.getElem?_set_self h]; rfl
theorem rng_at (r : List Int) : ((List.range r.length).map fun b : Nat=>at' r b) = r:=by
 apply List.ext_getElem
 ·simp
 ·intro j a1 a2
  rw [List.getElem_map,List.getElem_range]
  show r.getD j 0 = _
  rw [List.getD_eq_getElem?_getD,List.getElem?_eq_getElem a2]; rfl
theorem rng_row (r : List (List Int)) : ((List.range r.length).map fun b : Nat=>row r b) = r:=by
 apply List.ext_getElem
 ·simp
 ·intro j a1 a2
  rw [List.getElem_map,List.getElem_range]
  show r.getD j [] = _
  rw [List.getD_eq_getElem?_getD,List.getElem?_eq_getElem a2]; rfl
theorem rng_blk (r : List (List (List Int))) : ((List.range r.length).map fun b : Nat=>blk r b) = r:=by
 apply List.ext_getElem
 ·simp
 ·intro j a1 a2
  rw [List.getElem_map,List.getElem_range]
  show r.getD j [] = _
  rw [List.getD_eq_getElem?_getD,List.getElem?_eq_getElem a2]; rfl
theorem pl6 {n : Nat} (hn : n ≤ 600) {L A R : List (Int × Int)} {r w : List Int} (hrw : r.length = w.length) (hw : w.length ≤ 100) (hL : L = A ++ rz r w ++ R) (hW : wid L ≤ 8 * n) (hF : ∀ q ∈ L,fits2 q) (c C : Int) (hc0 : 0 ≤ c) (hc : c < C) (X : List (List Int)) (hX : (X.length : Int) = C) (hXc : X.getD c.toNat [] = []) (x : Int) (hx : x = (wid A : Int)) (b0 : List Int) (s0 : List (List Int)) (c3 c4 c5 : Int) (d0 d1 d2 d3 d4 d5 d6 d7 d8 : Int) (J : List Int) (S : List (List Int)) (Y : List (List (List Int))) :
  Ok (fun s=>s.1 = (wid (A ++ rz r w) : Int) ∧ s.2 = X.set c.toNat r) (subband_Parse.l6 5000 b0 s0 c c3 c4 c5 w (w.length : Int) d0 d1 d2 d3 d4 d5 d6 d7 d8 (pk n (bns L)) J S Y 5000 0 x X):=by
 unfold subband_Parse.l6
 have hmap : ∀ m,m ≤ r.length → (((List.range m).map fun b : Nat=>at' r b).length : Int) = m:=by intro m _; simp
 refine rounds_ok3 (fun i y Z=>0 ≤ i ∧ i ≤ (w.length : Int) ∧ y = (wid (A ++ (List.range i.toNat).map fun b : Nat=>(at' r b,at' w b)) : Int) ∧ Z = X.set c.toNat ((List.range i.toNat).map fun b : Nat=>at' r b)) (fun i _ _=>((w.length : Int) - i).toNat) _ ?_ 5000 _ _ _ ⟨by omega,by omega,by rw [hx]; simp,?_⟩ (by omega)
 ·rintro next i y Z ⟨h1,h2,h3,h4⟩ ih
  have hZl : Z.length = X.length:=by rw [h4,List.length_set]
  refine Ok.ite (fun d=>?_) (fun d=>Ok.some ⟨?_,?_⟩)
  ·have d:=dt d
   obtain ⟨R',hR⟩:=m_split (fun b : Nat=>(at' r b,at' w b)) (i:=i.toNat) (n:=r.length) (by omega)
   have hL2 : L = (A ++ (List.range i.toNat).map fun b : Nat=>(at' r b,at' w b)) ++ tg [at' r i] (at' w i) ++ (R' ++ R):=by
    rw [hL]; unfold rz; rw [hR]
    simp only [List.append_assoc]; rfl
   have hq : fits2 (at' r i,at' w i):=hF _ (by rw [hL2]; exact List.mem_append_left _ (List.mem_append_right _ (List.mem_singleton.mpr rfl)))
   have hone : ∀ j : Nat,j < [at' r i].length → fits2 (at' [at' r i] j,at' w i):=by
    intro j hj
    have hj : j < 1:=hj
    have hj0 : j = 0:=by omega
    subst hj0; exact hq
   have ht:=takeL (c:=1) hL2 hn ⟨hq.1,hq.2.1⟩ (by show 1 ≤ 100; omega) hW hone rfl h3
   have hgd : Z.getD c.toNat [] = (List.range i.toNat).map fun b : Nat=>at' r b:=by rw [h4]; exact setgd (by omega) _
   refine Ok.gd ⟨h1,d⟩ (Ok.gd ⟨hc0,by omega⟩ (Ok.gd (by omega) (Ok.bind (Ok.is ht) ?_)))
   rintro _ rfl
   have e:=kw1 (x:=i) (by omega) (by omega)
   refine Ok.gd (by rw [hgd,hmap _ (by omega)]; show (_ + (1 : Int)) * 8 ≤ _; omega) (Ok.gd ⟨hc0,by omega⟩ (Ok.gd (by omega) ?_))
   refine ih _ _ _ ⟨by omega,by omega,?_,?_⟩ (by omega)
   ·rw [e,tS h1,rs_map,← List.append_assoc]; rfl
   ·rw [e,tS h1,rs_map,hgd,h4,List.set_set]; rfl
  ·have d:=df d
   rw [h3,show i.toNat = r.length by omega]; rfl
  ·have d:=df d
   rw [h4,show i.toNat = r.length by omega]
   show X.set c.toNat ((List.range r.length).map fun b : Nat=>at' r b) = _
   rw [rng_at]
 ·show X = X.set c.toNat []
  apply List.ext_getElem
  ·rw [List.length_set]
  ·intro j a1 a2
   rw [List.getElem_set]
   split
   ·rename_i hj
    subst hj
    rw [List.getD_eq_getElem?_getD,List.getElem?_eq_getElem a1] at hXc
    exact hXc
   ·rfl
def upto (B : List (List Int)) (C : Nat) (c : Int) : List (List Int):=(List.range C).map fun q : Nat=>if (q : Int) < c then row B q else []
theorem upto_get {B : List (List Int)} {C : Nat} {c : Int} {q : Nat} (h : q < (upto B C c).length) : (upto B C c)[q] = if (q : Int) < c then row B q else []:=by simp only [upto,List.getElem_map,List.getElem_range]
theorem upto_at {B : List (List Int)} {C : Nat} {c : Int} {q : Nat} (hq : q < C) : (upto B C c).getD q [] = if (q : Int) < c then row B q else []:=by
 unfold upto
 rw [List.getD_eq_getElem?_getD,List.getElem?_eq_getElem (by simpa using hq)]
 simp
theorem upto_set {B : List (List Int)} {C : Nat} {c : Int} (hc : 0 ≤ c) : (upto B C c).set c.toNat (row B c) = upto B C (c + 1):=by
 apply List.ext_getElem
 ·simp [upto]
 ·intro q h1 h2
  rw [List.getElem_set,upto_get,upto_get]
  split
  ·rename_i h
   subst h
   rw [if_pos (by omega)]
   show row B c = row B ((c.toNat : Nat) : Int)
   rw [show ((c.toNat : Nat) : Int) = c by omega]
  ·by_cases e : (q : Int) < c
   ·rw [if_pos e,if_pos (by omega)]
   ·rw [if_neg e,if_neg (by omega)]
theorem upto_all {B : List (List Int)} {C : Nat} {c : Int} (hB : B.length = C) (hc : (C : Int) ≤ c) : upto B C c = B:=by
 apply List.ext_getElem
 ·simp [upto,hB]
 ·intro q h1 h2
  rw [upto_get,if_pos (by omega)]
  show B.getD q [] = _
  rw [List.getD_eq_getElem?_getD,List.getElem?_eq_getElem h2]; rfl
theorem pl5 {n : Nat} (hn : n ≤ 600) {L A R : List (Int × Int)} {B sh : List (List Int)} {C M : Int} (hC : 0 ≤ C ∧ C ≤ 100) (hM : 0 ≤ M ∧ M ≤ 100) (hB : Sh C M B) (hsh : Sh C M sh) (hL : L = A ++ bz B sh ++ R) (hW : wid L ≤ 8 * n) (hF : ∀ q ∈ L,fits2 q) (x : Int) (hx : x = (wid A : Int)) (b0 : List Int) (c2 c3 : Int) (d0 d1 d2 d3 d4 d5 d6 d7 d8 : Int) (J : List Int) (S : List (List Int)) (Y : List (List (List Int))) :
  Ok (fun s=>s.1 = (wid (A ++ bz B sh) : Int) ∧ s.2 = B) (subband_Parse.l5 5000 b0 sh c2 c3 ((List.replicate C.toNat ([] : List Int)).length : Int) d0 d1 d2 d3 d4 d5 d6 d7 d8 (pk n (bns L)) J S Y 5000 0 x (List.replicate C.toNat [])):=by
 unfold subband_Parse.l5
 have hBl:=hB.1
 have hsl:=hsh.1
 have hll : ((List.replicate C.toNat ([] : List Int)).length : Int) = C:=by simp; omega
 rw [hll]
 refine rounds_ok3 (fun c y Z=>0 ≤ c ∧ c ≤ C ∧ y = (wid (A ++ (List.range c.toNat).flatMap fun c : Nat=>rz (row B c) (row sh c)) : Int) ∧ Z = upto B C.toNat c) (fun c _ _=>(C - c).toNat) _ ?_ 5000 _ _ _ ⟨by omega,by omega,by rw [hx]; simp,?_⟩ (by omega)
 ·rintro next c y Z ⟨h1,h2,h3,h4⟩ ih
  refine Ok.ite (fun d=>?_) (fun d=>Ok.some ⟨?_,?_⟩)
  ·have d:=dt d
   obtain ⟨R',hR⟩:=r_split (fun c : Nat=>rz (row B c) (row sh c)) (i:=c.toNat) (n:=B.length) (by omega)
   have hL2 : L = (A ++ (List.range c.toNat).flatMap fun c : Nat=>rz (row B c) (row sh c)) ++ rz (row B c) (row sh c) ++ (R' ++ R):=by
    rw [hL]; unfold bz; rw [hR,show ((c.toNat : Nat) : Int) = c by omega]
    simp only [List.append_assoc]
   have a1:=hB.2 c h1 d
   have a2:=hsh.2 c h1 d
   have hZc : Z.getD c.toNat [] = []:=by rw [h4,upto_at (by omega),if_neg (by omega)]
   refine Ok.gd ⟨h1,by omega⟩ (Ok.bind (pl6 hn (show (row B c).length = (row sh c).length by omega) (by omega) hL2 hW hF c C h1 d Z (by rw [h4]; simp [upto]; omega) hZc y h3 _ _ _ _ _ _ _ _ _ _ _ _ _ _ _ _ _) ?_)
   rintro ⟨y',Z'⟩ ⟨k1,k2⟩
   have e:=kw1 (x:=c) (by omega) (by omega)
   refine ih _ _ _ ⟨by omega,by omega,?_,?_⟩ (by omega)
   ·rw [e,tS h1,rs_flat,← List.append_assoc,show ((c.toNat : Nat) : Int) = c by omega]; exact k1
   ·rw [e,← upto_set h1,← h4]; exact k2
  ·have d:=df d
   rw [h3,show c.toNat = B.length by omega]; rfl
  ·have d:=df d
   rw [h4]; exact upto_all (by omega) (by omega)
 ·apply List.ext_getElem
  ·simp [upto]
  ·intro q a1 a2
   rw [List.getElem_replicate,upto_get,if_neg (by omega)]
end Go.Fo
