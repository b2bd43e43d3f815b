/- What is laid is taken again. -/
import Derived.Test.YtdfoifpmghandaaGreatSpEc
namespace Go.Fo
set_option maxRecDepth 6000
theorem num_mid {A R : List (Int × Int)} {v k : Int} (hf : fits2 (v,k)) : num ((List.range k.toNat).map fun t=>b1 (bns (A ++ [(v,k)] ++ R)) (wid A + t)) = v:=by
 have e : ((List.range k.toNat).map fun t=>b1 (bns (A ++ [(v,k)] ++ R)) (wid A + t)) = bn v k.toNat:=by
  apply List.ext_getElem
  ·rw [bn_len]; simp
  ·intro t h1 h2
   have ht : t < k.toNat:=by rw [bn_len] at h2; exact h2
   rw [List.getElem_map,List.getElem_range,bns_app,bns_app,bns_one,b1_app,if_pos (by rw [List.length_append,bn_len]; show wid A + t < wid A + _; omega),b1_app,if_neg (by show ¬ wid A + t < wid A; omega)]
   show b1 (bn v k.toNat) (wid A + t - wid A) = _
   rw [Nat.add_sub_cancel_left]
   show (bn v k.toNat).getD t 0 = _
   rw [List.getD_eq_getElem?_getD,List.getElem?_eq_getElem h2]; rfl
 rw [e]
 exact num_bn hf.2.2.1 hf.2.2.2
theorem nums_at {M : List Int} {x k n i : Nat} (h : i < (numsB M x k n).length) : (numsB M x k n)[i] = num ((List.range k).map fun t=>b1 M (x + i * k + t)):=by
 simp only [numsB,List.getElem_map,List.getElem_range]
theorem nums_mid {A R : List (Int × Int)} {l : List Int} {k : Int} (hf : ∀ i : Nat,i < l.length → fits2 (at' l i,k)) : numsB (bns (A ++ tg l k ++ R)) (wid A) k.toNat l.length = l:=by
 apply List.ext_getElem
 ·simp [numsB]
 ·intro i h1 h2
  obtain ⟨R',hR⟩:=m_split (fun i : Nat=>(at' l i,k)) h2
  have hw : wid (A ++ (List.range i).map fun i : Nat=>(at' l i,k)) = wid A + i * k.toNat:=by rw [wid_app,wid_map (fun i : Nat=>(at' l i,k)) (fun _=>rfl)]
  have hL : A ++ tg l k ++ R = (A ++ (List.range i).map fun i : Nat=>(at' l i,k)) ++ [(at' l i,k)] ++ (R' ++ R):=by unfold tg; rw [hR]; simp only [List.append_assoc]
  rw [nums_at,hL,← hw,num_mid (hf i h2)]
  show l.getD i 0 = _
  rw [List.getD_eq_getElem?_getD,List.getElem?_eq_getElem h2]; rfl
theorem setgd {X : List (List Int)} {c : Nat} (h : c < X.length) (v : List Int) : (X.set c v).getD c [] = v:=by rw [List.getD_eq_getElem?_getD,List.getElem?_set_self h]; rfl
def upto (B : List (List Int)) (C : Nat) (c : Int) : List (List Int):=(List.range C).map fun q : Nat=>if (q : Int) < c then row B q else []
theorem upto_get {B : List (List Int)} {C : Nat} {c : Int} {q : Nat} (h : q < (upto B C c).length) : (upto B C c)[q] = if (q : Int) < c then row B q else []:=by simp only [upto,List.getElem_map,List.getElem_range]
theorem upto_at {B : List (List Int)} {C : Nat} {c : Int} {q : Nat} (hq : q < C) : (upto B C c).getD q [] = if (q : Int) < c then row B q else []:=by
 unfold upto
 rw [List.getD_eq_getElem?_getD,List.getElem?_eq_getElem (by simpa using hq)]
 simp
theorem upto_set {B : List (List Int)} {C : Nat} {c : Int} (hc : 0 ≤ c) : (upto B C c).set c.toNat (row B c) = upto B C (c + 1):=by
 apply List.ext_getElem
 ·simp [upto]
 ·intro q h1 h2
  rw [List.getElem_set,upto_get,upto_get]
  split
  ·rename_i h
   subst h
   rw [if_pos (by omega)]
   show row B c = row B ((c.toNat : Nat) : Int)
   rw [show ((c.toNat : Nat) : Int) = c by omega]
  ·by_cases e : (q : Int) < c
   ·rw [if_pos e,if_pos (by omega)]
   ·rw [if_neg e,if_neg (by omega)]
theorem upto_all {B : List (List Int)} {C : Nat} {c : Int} (hB : B.length = C) (hc : (C : Int) ≤ c) : upto B C c = B:=by
 apply List.ext_getElem
 ·simp [upto,hB]
 ·intro q h1 h2
  rw [upto_get,if_pos (by omega)]
  show B.getD q [] = _
  rw [List.getD_eq_getElem?_getD,List.getElem?_eq_getElem h2]; rfl
end Go.Fo
