/- Any bytes,parsed by the document: bits and numbers. -/
import Derived.Test.YtdfoifpmghandaaGreatSpUk
namespace Go.Fo
set_option maxRecDepth 6000
theorem pby_num (L : List Int) (j : Nat) : pby L j = num ((List.range 8).map fun t=>b1 L (8 * j + t)):=by
 show _ = num [b1 L (8 * j + 0),b1 L (8 * j + 1),b1 L (8 * j + 2),b1 L (8 * j + 3),b1 L (8 * j + 4),b1 L (8 * j + 5),b1 L (8 * j + 6),b1 L (8 * j + 7)]
 unfold num pby
 simp only [List.foldl_cons,List.foldl_nil,Nat.add_zero]
 omega
def ofB (b : List Int) : List Int:=bns (tg b 8)
theorem ofB_len (b : List Int) : (ofB b).length = 8 * b.length:=by
 show wid (tg b 8) = _
 rw [wid_tg]
 show b.length * 8 = _
 omega
theorem ofB_bit (b : List Int) : Bit (ofB b):=bns_bit _
theorem pk_get {n : Nat} {L : List Int} {i : Nat} (h : i < (pk n L).length) : (pk n L)[i] = pby L i:=by simp only [pk,List.getElem_map,List.getElem_range]
theorem ofB_pk {b : List Int} (hb : ∀ i : Nat,i < b.length → 0 ≤ at' b i ∧ at' b i < 256) : pk b.length (ofB b) = b:=by
 have hf : ∀ i : Nat,i < b.length → fits2 (at' b i,8):=fun i hi=>⟨by show (0 : Int) ≤ 8; decide,by show (8 : Int) ≤ 32; decide,(hb i hi).1,(hb i hi).2⟩
 have h:=nums_mid (A:=[]) (R:=[]) (l:=b) (k:=8) hf
 rw [List.append_nil,List.nil_append] at h
 apply List.ext_getElem
 ·rw [pk_len]
 ·intro i h1 h2
  rw [pk_get,pby_num]
  have h3 : i < (numsB (bns (tg b 8)) (wid []) (Int.toNat 8) b.length).length:=by rw [h]; exact h2
  have e : (numsB (bns (tg b 8)) (wid []) (Int.toNat 8) b.length)[i] = b[i]:=by
   congr 1
  rw [nums_at] at e
  rw [← e]
  show num ((List.range 8).map fun t=>b1 (ofB b) (8 * i + t)) = num ((List.range 8).map fun t=>b1 (ofB b) (0 + i * 8 + t))
  rw [show 0 + i * 8 = 8 * i by omega]
theorem rof_ok {b : List Int} (hl : b.length ≤ 2100) (hb : ∀ i : Nat,i < b.length → 0 ≤ at' b i ∧ at' b i < 256) : Ok (fun r=>r = ofB b) (psalteryref05_Of 5000 b):=by
 refine Ok.bind (Q:=fun r=>r = ofB b) ?_ (fun r hr=>Ok.some hr)
 unfold psalteryref05_Of.l0
 refine rounds_ok2 (fun i r=>0 ≤ i ∧ i ≤ (b.length : Int) ∧ (r.length : Int) = 8 * i ∧ r = bns ((List.range i.toNat).map fun i : Nat=>(at' b i,(8 : Int)))) (fun i _=>((b.length : Int) - i).toNat) _ ?_ 5000 _ _ ⟨by omega,by omega,by show (0 : Int) = _; omega,rfl⟩ (by omega)
 rintro next i r ⟨g1,g2,g3,g4⟩ ih
 refine Ok.ite (fun d=>?_) (fun d=>Ok.some ?_)
 ·have d:=dt d
  have hv:=hb i.toNat (by omega)
  rw [show ((i.toNat : Nat) : Int) = i by omega] at hv
  refine Ok.bind (Q:=fun x=>x = r ++ bn (at' b i) 8) ?_ ?_
  ·unfold psalteryref05_Of.l1
   refine rounds_ok2 (fun k x=>-1 ≤ k ∧ k ≤ 7 ∧ x = r ++ (bn (at' b i) 8).take (7 - k).toNat) (fun k _=>(k + 1).toNat) _ ?_ 5000 _ _ ⟨by omega,by omega,by simp⟩ (by omega)
   rintro next2 k x ⟨f1,f2,f3⟩ ih2
   refine Ok.ite (fun d2=>?_) (fun d2=>Ok.some ?_)
   ·have d2 : k ≥ 0:=dt d2
    have eu:=ku64' (x:=k) d2 (by omega)
    have ek : kwrap .i64 (k - 1) = k - 1:=kw64 (by omega) (by omega)
    have ev : kwrap .i64 (Kd.nth (.int .u8) b (Int.toNat i)) = at' b i:=kw64 (by have:=hv.1; show -9223372036854775808 ≤ at' b i; omega) (by have:=hv.2; show at' b i ≤ _; omega)
    have hq : 0 ≤ at' b i / 2 ^ k.toNat:=Int.ediv_nonneg hv.1 (Int.pow_nonneg (by decide))
    have hlen : (x.length : Int) ≤ 20000:=by rw [f3,List.length_append,List.length_take,bn_len]; omega
    refine Ok.gd ⟨g1,d⟩ ?_
    dsimp only
    rw [eu,ek,ev,shr64' _ (by omega),Int.tmod_eq_emod_of_nonneg hq]
    refine Ok.gd d2 (Ok.gd (by show ((x.length : Int) + 1) * 8 ≤ _; omega) (ih2 _ _ ⟨by omega,by omega,?_⟩ (by omega)))
    have hbt:=bn_take (v:=at' b i) (k:=8) (i:=(7 - k).toNat) (by omega)
    rw [f3,List.append_assoc,show (7 - (k - 1)).toNat = (7 - k).toNat + 1 by omega,hbt,show 8 - 1 - (7 - k).toNat = k.toNat by omega]
   ·have d2 : ¬ k ≥ 0:=df d2
    rw [f3,List.take_of_length_le (by rw [bn_len]; omega)]
  ·rintro _ rfl
   have e:=kw1 (x:=i) (by omega) (by omega)
   refine ih _ _ ⟨by omega,by omega,by rw [List.length_append,bn_len]; omega,?_⟩ (by omega)
   rw [e,tS g1,rs_map,bns_app,bns_one,← g4,show ((i.toNat : Nat) : Int) = i by omega]; rfl
 ·have d:=df d
  rw [g4,show i.toNat = b.length by omega]; rfl
theorem rnum_ok {M : List Int} (hM : Bit M) (hl : M.length ≤ 20000) {x : Nat} {w y : Int} (hw : 0 ≤ w ∧ w ≤ 32) (hx : x + w.toNat ≤ M.length) (hy : y = (x : Int)) : Ok (fun r=>r = nb M x w.toNat) (psalteryref14_number 5000 M y w):=by
 subst hy
 refine Ok.bind (Q:=fun r=>r = nb M x w.toNat) ?_ (fun r hr=>Ok.some hr)
 have k0 : kwrap .i64 ((x : Int) + w) = x + w:=kw64 (by omega) (by omega)
 unfold psalteryref14_number.l0
 refine rounds_ok2 (fun v i=>(x : Int) ≤ i ∧ i ≤ x + w ∧ v = nb M x (i - x).toNat) (fun _ i=>((x : Int) + w - i).toNat) _ ?_ 5000 _ _ ⟨by omega,by omega,by rw [show ((x : Int) - x).toNat = 0 by omega]; rfl⟩ (by omega)
 rintro next v i ⟨g1,g2,g3⟩ ih
 unfold psalteryref14_number.r0
 dsimp only
 rw [k0]
 refine Ok.ite (fun d=>?_) (fun d=>Ok.some ?_)
 ·obtain ⟨d1,d2⟩:=and_t d
  have d1:=dt d1
  have d2:=dt d2
  have hr:=nb_r hM x (i - x).toNat
  rw [← g3] at hr
  have hp:=p2le (s:=(i - x).toNat) (t:=32) (by omega)
  have e32 : (2 : Int) ^ 32 = 4294967296:=rfl
  have hb:=hM.bd i.toNat
  have hat : Kd.nth (.int .i64) M (Int.toNat i) = b1 M i.toNat:=rfl
  have k1 : kwrap .i64 (2 * v) = 2 * v:=kw64 (by omega) (by omega)
  have k2 : kwrap .i64 (2 * v + b1 M i.toNat) = 2 * v + b1 M i.toNat:=kw64 (by omega) (by omega)
  have e:=kw1 (x:=i) (by omega) (by omega)
  rw [k1,hat,k2,e]
  refine Ok.gd ⟨by omega,d2⟩ (ih _ _ ⟨by omega,by omega,?_⟩ (by omega))
  rw [show (i + 1 - x).toNat = (i - x).toNat + 1 by omega,nb_s,← g3,show x + (i - x).toNat = i.toNat by omega]
 ·rcases and_f d with d | d
  ·have d:=df d
   rw [g3,show (i - x).toNat = w.toNat by omega]
  ·have d:=df d
   rw [g3,show (i - x).toNat = w.toNat by omega]
end Go.Fo
