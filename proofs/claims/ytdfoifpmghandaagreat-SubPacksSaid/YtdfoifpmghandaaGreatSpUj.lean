/- Any bytes,parsed. -/
import Derived.Test.YtdfoifpmghandaaGreatSpUi
namespace Go.Fo
set_option maxRecDepth 6000
def fo (g : Nat → Nat) : Nat → Nat
  | 0=>0
  | n + 1=>fo g n + g n
theorem fo_le (g : Nat → Nat) {i n : Nat} (h : i < n) : fo g i + g i ≤ fo g n:=by
 induction n with
 | zero=>omega
 | succ n ih =>
  show _ ≤ fo g n + g n
  by_cases e : i = n
  ·subst e; omega
  ·have:=ih (by omega); omega
def nb (M : List Int) (x k : Nat) : Int:=num ((List.range k).map fun t=>b1 M (x + t))
def gw (w : List Int) (b : Nat) : Nat:=(at' w b).toNat
def rowx (M : List Int) (x : Nat) (w : List Int) : List Int:=(List.range w.length).map fun b=>nb M (x + fo (gw w) b) (gw w b)
def gr (sh : List (List Int)) (c : Nat) : Nat:=fo (gw (row sh c)) (row sh c).length
def blkx (M : List Int) (x : Nat) (sh : List (List Int)) : List (List Int):=(List.range sh.length).map fun c : Nat=>rowx M (x + fo (gr sh) c) (row sh c)
def qx (M : List Int) (x : Nat) (sh : List (List Int)) (m : Nat) : List (List (List Int)):=(List.range m).map fun i=>blkx M (x + i * fo (gr sh) sh.length) sh
theorem nb_s (M : List Int) (x k : Nat) : nb M x (k + 1) = 2 * nb M x k + b1 M (x + k):=by unfold nb; rw [rs_map,num_app]
theorem nb_r {M : List Int} (hM : Bit M) (x : Nat) : ∀ k,0 ≤ nb M x k ∧ nb M x k < 2 ^ k
 | 0=>by show (0 : Int) ≤ 0 ∧ (0 : Int) < 1; decide
 | k + 1=>by
  have ih:=nb_r hM x k
  have:=hM.bd (x + k)
  rw [nb_s,Int.pow_succ]; omega
theorem numsB_nb (M : List Int) (x k n : Nat) : numsB M x k n = (List.range n).map fun i=>nb M (x + i * k) k:=rfl
theorem take1 {M : List Int} {n x : Nat} {k y : Int} (hM : Bit M) (hn : n ≤ 600) (hk : 0 ≤ k ∧ k ≤ 32) (hx : x + k.toNat ≤ 8 * n) (hy : y = (x : Int)) : subband_take_2 5000 1 k y 0 (pk n M) = some ([nb M x k.toNat],((x + k.toNat : Nat) : Int)):=by
 subst hy
 have h:=takeW (M:=M) (n:=n) (k:=k.toNat) (x:=x) (c:=1) hM hn (by omega) (by decide) (by omega)
 rw [show ((k.toNat : Nat) : Int) = k by omega,Nat.one_mul] at h
 rw [show ((1 : Nat) : Int) = 1 from rfl] at h
 rw [h]
 have : numsB M x k.toNat 1 = [nb M x k.toNat]:=by rw [numsB_nb,rs_map]; simp
 rw [this]
theorem px6 {n : Nat} (hn : n ≤ 600) {M : List Int} (hM : Bit M) {w : List Int} (hw : w.length ≤ 100) (hw2 : ∀ i,0 ≤ i → i < (w.length : Int) → 0 ≤ at' w i ∧ at' w i ≤ 32) (x : Nat) (hW : x + fo (gw w) w.length ≤ 8 * n) (c C : Int) (hc0 : 0 ≤ c) (hc : c < C) (X : List (List Int)) (hX : (X.length : Int) = C) (hXc : X.getD c.toNat [] = []) (y : Int) (hy : y = (x : Int)) (b0 : List Int) (s0 : List (List Int)) (c3 c4 c5 : Int) (d0 d1 d2 d3 d4 d5 d6 d7 d8 : Int) (J : List Int) (S : List (List Int)) (Y : List (List (List Int))) :
  Ok (fun s=>s.1 = ((x + fo (gw w) w.length : Nat) : Int) ∧ s.2 = X.set c.toNat (rowx M x w)) (subband_Parse.l6 5000 b0 s0 c c3 c4 c5 w (w.length : Int) d0 d1 d2 d3 d4 d5 d6 d7 d8 (pk n M) J S Y 5000 0 y X):=by
 unfold subband_Parse.l6
 refine rounds_ok3 (fun i y Z=>0 ≤ i ∧ i ≤ (w.length : Int) ∧ y = ((x + fo (gw w) i.toNat : Nat) : Int) ∧ Z = X.set c.toNat ((List.range i.toNat).map fun b=>nb M (x + fo (gw w) b) (gw w b))) (fun i _ _=>((w.length : Int) - i).toNat) _ ?_ 5000 _ _ _ ⟨by omega,by omega,by rw [hy]; rfl,?_⟩ (by omega)
 ·rintro next i y Z ⟨h1,h2,h3,h4⟩ ih
  have hZl : Z.length = X.length:=by rw [h4,List.length_set]
  refine Ok.ite (fun d=>?_) (fun d=>Ok.some ⟨?_,?_⟩)
  ·have d:=dt d
   have hwi:=hw2 i h1 d
   have hfo:=fo_le (gw w) (i:=i.toNat) (n:=w.length) (by omega)
   have hgw : gw w i.toNat = (at' w i).toNat:=rfl
   have hle : x + fo (gw w) i.toNat + (at' w i).toNat ≤ 8 * n:=by rw [← hgw]; omega
   have hgd : Z.getD c.toNat [] = (List.range i.toNat).map fun b=>nb M (x + fo (gw w) b) (gw w b):=by rw [h4]; exact setgd (by omega) _
   have hgl : ((Z.getD c.toNat []).length : Int) = i:=by rw [hgd]; simp; omega
   refine Ok.gd ⟨h1,d⟩ (Ok.gd ⟨hc0,by omega⟩ (Ok.gd (by omega) (Ok.bind (Ok.is (take1 hM hn hwi (x:=x + fo (gw w) i.toNat) hle h3)) ?_)))
   rintro _ rfl
   have e:=kw1 (x:=i) (by omega) (by omega)
   refine Ok.gd (by rw [hgl]; show (i + 1) * 8 ≤ _; omega) (Ok.gd ⟨hc0,by omega⟩ (Ok.gd (by omega) ?_))
   refine ih _ _ _ ⟨by omega,by omega,?_,?_⟩ (by omega)
   ·rw [e,tS h1]
    show _ = ((x + (fo (gw w) i.toNat + gw w i.toNat) : Nat) : Int)
    rw [hgw,← Nat.add_assoc]
   ·rw [e,tS h1,rs_map,hgd,h4,List.set_set]; rfl
  ·have d:=df d
   rw [h3,show i.toNat = w.length by omega]
  ·have d:=df d
   rw [h4,show i.toNat = w.length by omega]; rfl
 ·show X = X.set c.toNat []
  apply List.ext_getElem
  ·rw [List.length_set]
  ·intro j a1 a2
   rw [List.getElem_set]
   split
   ·rename_i hj
    subst hj
    rw [List.getD_eq_getElem?_getD,List.getElem?_eq_getElem a1] at hXc
    exact hXc
   ·rfl
theorem blkx_len (M : List Int) (x : Nat) (sh : List (List Int)) : (blkx M x sh).length = sh.length:=by simp [blkx]
theorem blkx_row (M : List Int) (x : Nat) (sh : List (List Int)) {c : Int} (h0 : 0 ≤ c) (h1 : c < (sh.length : Int)) : row (blkx M x sh) c = rowx M (x + fo (gr sh) c.toNat) (row sh c):=by
 show (blkx M x sh).getD c.toNat [] = _
 unfold blkx
 rw [List.getD_eq_getElem?_getD,List.getElem?_eq_getElem (by simp; omega)]
 simp
 rw [show max c 0 = c by omega]
theorem px5 {n : Nat} (hn : n ≤ 600) {M : List Int} (hM : Bit M) {sh : List (List Int)} {C W : Int} (hC : 0 ≤ C ∧ C ≤ 100) (hW0 : 0 ≤ W ∧ W ≤ 100) (hsh : Sh C W sh) (hw2 : ∀ c,0 ≤ c → c < C → ∀ i,0 ≤ i → i < W → 0 ≤ at' (row sh c) i ∧ at' (row sh c) i ≤ 32) (x : Nat) (hW : x + fo (gr sh) sh.length ≤ 8 * n) (y : Int) (hy : y = (x : Int)) (b0 : List Int) (c2 c3 : Int) (d0 d1 d2 d3 d4 d5 d6 d7 d8 : Int) (J : List Int) (S : List (List Int)) (Y : List (List (List Int))) :
  Ok (fun s=>s.1 = ((x + fo (gr sh) sh.length : Nat) : Int) ∧ s.2 = blkx M x sh) (subband_Parse.l5 5000 b0 sh c2 c3 ((List.replicate C.toNat ([] : List Int)).length : Int) d0 d1 d2 d3 d4 d5 d6 d7 d8 (pk n M) J S Y 5000 0 y (List.replicate C.toNat [])):=by
 unfold subband_Parse.l5
 have hsl:=hsh.1
 have hll : ((List.replicate C.toNat ([] : List Int)).length : Int) = C:=by simp; omega
 have hBl:=blkx_len M x sh
 rw [hll]
 refine rounds_ok3 (fun c y Z=>0 ≤ c ∧ c ≤ C ∧ y = ((x + fo (gr sh) c.toNat : Nat) : Int) ∧ Z = upto (blkx M x sh) C.toNat c) (fun c _ _=>(C - c).toNat) _ ?_ 5000 _ _ _ ⟨by omega,by omega,by rw [hy]; rfl,?_⟩ (by omega)
 ·rintro next c y Z ⟨h1,h2,h3,h4⟩ ih
  refine Ok.ite (fun d=>?_) (fun d=>Ok.some ⟨?_,?_⟩)
  ·have d:=dt d
   have a2:=hsh.2 c h1 d
   have hfo:=fo_le (gr sh) (i:=c.toNat) (n:=sh.length) (by omega)
   have hgr : gr sh c.toNat = fo (gw (row sh c)) (row sh c).length:=by unfold gr; rw [show ((c.toNat : Nat) : Int) = c by omega]
   have hZc : Z.getD c.toNat [] = []:=by rw [h4,upto_at (by omega),if_neg (by omega)]
   refine Ok.gd ⟨h1,by omega⟩ (Ok.bind (px6 hn hM (w:=row sh c) (by omega) (fun i i0 i1=>hw2 c h1 d i i0 (by omega)) (x + fo (gr sh) c.toNat) (by omega) c C h1 d Z (by rw [h4]; simp [upto]; omega) hZc y h3 _ _ _ _ _ _ _ _ _ _ _ _ _ _ _ _ _) ?_)
   rintro ⟨y',Z'⟩ ⟨k1,k2⟩
   have k1 : y' = ((x + fo (gr sh) c.toNat + fo (gw (row sh c)) (row sh c).length : Nat) : Int):=k1
   have k2 : Z' = Z.set c.toNat (rowx M (x + fo (gr sh) c.toNat) (row sh c)):=k2
   have e:=kw1 (x:=c) (by omega) (by omega)
   refine ih _ _ _ ⟨by omega,by omega,?_,?_⟩ (by omega)
   ·rw [e,tS h1,k1,← hgr]
    show _ = ((x + (fo (gr sh) c.toNat + gr sh c.toNat) : Nat) : Int)
    rw [Nat.add_assoc]
   ·rw [e,← upto_set h1,← h4,k2,blkx_row M x sh h1 (by omega)]
  ·have d:=df d
   rw [h3,show c.toNat = sh.length by omega]
  ·have d:=df d
   rw [h4]; exact upto_all (by omega) (by omega)
 ·apply List.ext_getElem
  ·simp [upto]
  ·intro q a1 a2
   rw [List.getElem_replicate,upto_get,if_neg (by omega)]
end Go.Fo
