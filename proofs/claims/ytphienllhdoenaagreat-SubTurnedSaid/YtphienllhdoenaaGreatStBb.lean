/- Lists of numbers laid; numbers taken,exactly. -/
import Derived.Test.YtphienllhdoenaaGreatStBa
namespace Go.Fo
set_option maxRecDepth 6000
def fits2 (q : Int × Int) : Prop:=0 ≤ q.2 ∧ q.2 ≤ 32 ∧ 0 ≤ q.1 ∧ q.1 < 2 ^ q.2.toNat
def bns (l : List (Int × Int)) : List Int:=l.flatMap fun q=>bn q.1 q.2.toNat
def wid (l : List (Int × Int)) : Nat:=(bns l).length
theorem bns_bit : ∀ l,Bit (bns l)
 | []=>Bit.nil
 | q :: l=>by
  show Bit (bn q.1 q.2.toNat ++ bns l)
  exact (bn_bit _ _).app (bns_bit l)
theorem bns_app (l m : List (Int × Int)) : bns (l ++ m) = bns l ++ bns m:=by unfold bns; rw [List.flatMap_append]
theorem bns_one (q : Int × Int) : bns [q] = bn q.1 q.2.toNat:=by unfold bns; simp
theorem kwu32 {v : Int} (h0 : 0 ≤ v) (h1 : v < 4294967296) : kwrap .u32 v = v:=by
 unfold kwrap IntKind.wrap; simp [IntKind.bits,IntKind.signed]; omega
theorem put_w {l : List (Int × Int)} {n : Nat} {L : List Int} (hl : l.length ≤ 1000) (hL : Bit L) (hn : n ≤ 600) (hf : ∀ i,i < l.length → fits2 (l.getD i (0,0))) (hx : L.length + wid l ≤ 8 * n) :
  subband_put_2 5000 l L.length 0 (pk n L) = some ((wid l : Int),((L.length + wid l : Nat) : Int),pk n (L ++ bns l)):=by
 have key : ∀ (k m i : Nat),k < m → i + k = l.length → subband_put_2.l0 5000 l (l.length : Int) 0 m (wid (l.take i) : Int) i ((L.length + wid (l.take i) : Nat) : Int) (pk n (L ++ bns (l.take i))) = some ((wid l : Int),((L.length + wid l : Nat) : Int),pk n (L ++ bns l)):=by
  intro k
  induction k with
  | zero =>
   intro m i hm hi
   obtain ⟨m,rfl⟩ : ∃ q,m = q + 1:=⟨m - 1,by omega⟩
   have e : l.take i = l:=List.take_of_length_le (by omega)
   rw [e]
   show subband_put_2.r0 5000 l (l.length : Int) 0 (subband_put_2.l0 5000 l (l.length : Int) 0 m) (wid l : Int) (i : Int) ((L.length + wid l : Nat) : Int) (pk n (L ++ bns l)) = _
   unfold subband_put_2.r0
   exact bif_eq_f (decide_eq_false (by omega)) rfl
  | succ k ih =>
   intro m i hm hi
   obtain ⟨m,rfl⟩ : ∃ q,m = q + 1:=⟨m - 1,by omega⟩
   have ih:=ih m (i + 1) (by omega) (by omega)
   have hi' : i < l.length:=by omega
   have hq : l.take (i + 1) = l.take i ++ [l.getD i (0,0)]:=by
    rw [List.take_add_one,List.getD_eq_getElem?_getD,List.getElem?_eq_getElem hi']; rfl
   have hf1:=hf i hi'
   generalize l.getD i (0,0) = q at *
   obtain ⟨f1,f2,f3,f4⟩:=hf1
   have hb : bns (l.take (i + 1)) = bns (l.take i) ++ bn q.1 q.2.toNat:=by rw [hq,bns_app,bns_one]
   have hw : wid (l.take (i + 1)) = wid (l.take i) + q.2.toNat:=by unfold wid; rw [hb,List.length_append,bn_len]
   have hle : wid (l.take (i + 1)) ≤ wid l:=by
    have : bns l = bns (l.take (i + 1)) ++ bns (l.drop (i + 1)):=by rw [← bns_app,List.take_append_drop]
    unfold wid; rw [this,List.length_append]; omega
   have hv : q.1 < 4294967296:=Int.lt_of_lt_of_le f4 (p2le (t:=32) (by omega))
   have hfr:=front_w (v:=q.1) (k:=q.2.toNat) (n:=n) (L:=L ++ bns (l.take i)) (hL.app (bns_bit _)) hn (by omega) f3 f4 (by rw [List.length_append]; show L.length + wid (l.take i) + _ ≤ _; omega)
   rw [List.length_append,Int.toNat_of_nonneg f1] at hfr
   show subband_put_2.r0 5000 l (l.length : Int) 0 (subband_put_2.l0 5000 l (l.length : Int) 0 m) (wid (l.take i) : Int) (i : Int) ((L.length + wid (l.take i) : Nat) : Int) (pk n (L ++ bns (l.take i))) = _
   unfold subband_put_2.r0
   have hn2 : Kd.nth (.pair (.int .i64) (.int .i64)) l (Int.toNat (i : Int)) = q:=by
    have : (l.take (i + 1)).getD i (0,0) = q:=by rw [hq,List.getD_eq_getElem?_getD,List.getElem?_append_right (by rw [List.length_take]; omega)]; simp [List.length_take,Nat.min_eq_left (show i ≤ l.length by omega)]
    show l.getD i (0,0) = q
    rw [← this,List.getD_eq_getElem?_getD,List.getD_eq_getElem?_getD,List.getElem?_take,if_pos (by omega)]
   refine bif_eq_t (decide_eq_true (by omega)) (gd_eq ⟨by omega,by omega⟩ ?_)
   dsimp only
   rw [hn2,kwu32 f3 hv]
   refine bnd_eq hfr ?_
   dsimp only
   rw [kw1 (by omega) (by omega),kw64 (x:=(wid (l.take i) : Int) + q.2) (by omega) (by omega),List.append_assoc,← hb]
   have e1 : (wid (l.take i) : Int) + q.2 = (wid (l.take (i + 1)) : Int):=by omega
   have e2 : (((L.length + (bns (l.take i)).length + q.2.toNat : Nat)) : Int) = ((L.length + wid (l.take (i + 1)) : Nat) : Int):=by rw [hw]; unfold wid; omega
   rw [e1,e2]
   exact ih
 have h0:=key l.length 5000 0 (by omega) (by omega)
 have e : wid (l.take 0) = 0:=by unfold wid bns; simp
 rw [e,List.take_zero] at h0
 have e2 : L ++ bns [] = L:=by unfold bns; simp
 rw [e2] at h0
 exact bnd_eq h0 rfl
def num (l : List Int) : Int:=l.foldl (fun a b=>2 * a + b) 0
def numsB (M : List Int) (x k n : Nat) : List Int:=(List.range n).map fun i=>num ((List.range k).map fun t=>b1 M (x + i * k + t))
end Go.Fo
