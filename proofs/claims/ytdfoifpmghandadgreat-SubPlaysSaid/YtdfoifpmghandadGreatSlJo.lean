/- What the document's join tells. -/
import Derived.Test.YtdfoifpmghandadGreatSlFd
namespace Go.Fo
set_option maxRecDepth 6000
def hP (m : Int) : List Int:=match poly_NewJoiner 5000 m (List.replicate 388 none) 0 0 with | some (.inr (_,_,_,_,h,_,_))=>h | _=>[]
def tuP (m : Int) : List Int:=match poly_NewJoiner 5000 m (List.replicate 388 none) 0 0 with | some (.inr (_,_,_,_,_,u,_))=>u | _=>[]
def njB (m : Int) : Bool:=match poly_NewJoiner 5000 m (List.replicate 388 none) 0 0 with
  | some (.inr (t,a,b,m',h,u,V))=>m' == m && h == hP m && u == tuP m && V == List.replicate (20 * m).toNat 0 && (match poly_NewJoiner 5000 m t a b with
    | some (.inr (_,_,_,m2,h2,u2,V2))=>m2 == m && h2 == hP m && u2 == tuP m && V2 == List.replicate (20 * m).toNat 0
    | _=>false)
  | _=>false
theorem nj4 : njB 4 = true:=by kernel_rfl
theorem nj8 : njB 8 = true:=by kernel_rfl
theorem nj_ok {m : Nat} (hm : m = 4 ∨ m = 8) : ∃ t a b,poly_NewJoiner 5000 (m : Int) (List.replicate 388 none) 0 0 = some (.inr (t,a,b,(m : Int),hP m,tuP m,List.replicate (20 * m) 0)) ∧
  ∃ t2 a2 b2,poly_NewJoiner 5000 (m : Int) t a b = some (.inr (t2,a2,b2,(m : Int),hP m,tuP m,List.replicate (20 * m) 0)):=by
 have h : njB m = true:=by
  rcases hm with rfl | rfl
  ·exact nj4
  ·exact nj8
 have e0 : (20 * (m : Int)).toNat = 20 * m:=by omega
 unfold njB at h
 split at h
 ·rename_i t a b m' h' u V e
  simp only [Bool.and_eq_true,beq_iff_eq] at h
  obtain ⟨⟨⟨⟨h1,h2⟩,h3⟩,h4⟩,h5⟩:=h
  split at h5
  ·rename_i t2 a2 b2 m2 h2' u2 V2 e2
   simp only [Bool.and_eq_true,beq_iff_eq] at h5
   obtain ⟨⟨⟨g1,g2⟩,g3⟩,g4⟩:=h5
   exact ⟨t,a,b,by rw [e,h1,h2,h3,h4,e0],t2,a2,b2,by rw [e2,g1,g2,g3,g4,e0]⟩
  ·cases h5
 ·cases h
theorem new_ok : ∀ m : Nat,m = 4 ∨ m = 8 → (hP m).length = 10 * m ∧ (tuP m).length = 8 * m ∧ psalteryref04_Filter 5000 (m : Int) = some (hP m) ∧
  ((List.range m).all fun i=>(List.range (2 * m)).all fun k=>psalteryref08_wave 5000 (2 * (i : Int) + 1) (2 * (k : Int) + (m : Int)) (m : Int) == some (wv m (tuP m) (2 * (i : Int) + 1) (2 * (k : Int) + (m : Int)))) = true:=by
 intro m hm
 rcases hm with rfl | rfl
 ·exact ⟨by kernel_rfl,by kernel_rfl,by kernel_rfl,by kernel_rfl⟩
 ·exact ⟨by kernel_rfl,by kernel_rfl,by kernel_rfl,by kernel_rfl⟩
def rjs (m : Nat) (u : List Int) : List (List Int) → List Int
  | []=>[]
  | b :: bs=>rjs m u bs ++ tabOf (vk m u b) (2 * m)
theorem rjs_app (m : Nat) (u : List Int) (b : List Int) : ∀ bs : List (List Int),rjs m u (bs ++ [b]) = tabOf (vk m u b) (2 * m) ++ rjs m u bs
 | []=>by simp [rjs]
 | a :: bs=>by
  show rjs m u (bs ++ [b]) ++ tabOf (vk m u a) (2 * m) = _
  rw [rjs_app m u b bs,List.append_assoc]; rfl
theorem rjs_len (m : Nat) (u : List Int) : ∀ bs : List (List Int),(rjs m u bs).length = bs.length * (2 * m)
 | []=>by simp [rjs]
 | b :: bs=>by
  show (rjs m u bs ++ tabOf (vk m u b) (2 * m)).length = _
  rw [List.length_append,rjs_len m u bs,tabOf_len,List.length_cons,Nat.add_mul,Nat.one_mul]
def stj (m : Nat) (u : List Int) (bs : List (List Int)) : List Int:=(rjs m u bs ++ List.replicate (20 * m) 0).take (20 * m)
theorem stj_len (m : Nat) (u : List Int) (bs : List (List Int)) : (stj m u bs).length = 20 * m:=by unfold stj; simp
theorem jx_stj (m : Nat) (u : List Int) (bs : List (List Int)) (b : List Int) : jx m u b (stj m u bs) = stj m u (bs ++ [b]):=by
 have hl : (tabOf (vk m u b) (2 * m)).length = 2 * m:=tabOf_len _ _
 unfold jx stj
 have e1 : ((rjs m u bs ++ List.replicate (20 * m) 0).take (20 * m)).take (18 * m) = (rjs m u bs ++ List.replicate (20 * m) 0).take (18 * m):=by rw [List.take_take,Nat.min_eq_left (by omega)]
 have e2 : (tabOf (vk m u b) (2 * m) ++ (rjs m u bs ++ List.replicate (20 * m) 0)).take (20 * m) = tabOf (vk m u b) (2 * m) ++ (rjs m u bs ++ List.replicate (20 * m) 0).take (18 * m):=by
  rw [List.take_append,hl,List.take_of_length_le (by omega),show 20 * m - 2 * m = 18 * m by omega]
 rw [e1,rjs_app,List.append_assoc,e2]

theorem rsat_w (K : Nat) (x : Int) : psalteryref01_Sat K x 32 = some (sat32v x):=by
 unfold psalteryref01_Sat
 have e3 : kwrap .i64 (kshl .i64 1 (kwrap .u64 (kwrap .i64 (32 - 1))) - 1) = 2147483647:=by decide
 dsimp only
 rw [e3]
 refine gd_eq (by decide) ?_
 unfold sat32v
 by_cases a : x > 2147483647
 ·rw [if_neg (by omega),if_pos a]; exact bif_eq_t (decide_eq_true a) rfl
 ·refine bif_eq_f (decide_eq_false a) ?_
  have e7 : kwrap .i64 (kwrap .i64 (0 - 2147483647) - 1) = -2147483648:=by decide
  rw [e7]
  by_cases b : x < -2147483648
  ·rw [if_pos b]; exact bif_eq_t (decide_eq_true b) rfl
  ·rw [if_neg b,if_neg a]; exact bif_eq_f (decide_eq_false b) rfl
theorem rsat16_w (K : Nat) (x : Int) : psalteryref01_Sat K x 16 = some (sat16v x):=by
 unfold psalteryref01_Sat
 have e3 : kwrap .i64 (kshl .i64 1 (kwrap .u64 (kwrap .i64 (16 - 1))) - 1) = 32767:=by decide
 dsimp only
 rw [e3]
 refine gd_eq (by decide) ?_
 unfold sat16v
 by_cases a : x > 32767
 ·rw [if_neg (by omega),if_pos a]; exact bif_eq_t (decide_eq_true a) rfl
 ·refine bif_eq_f (decide_eq_false a) ?_
  have e7 : kwrap .i64 (kwrap .i64 (0 - 32767) - 1) = -32768:=by decide
  rw [e7]
  by_cases b : x < -32768
  ·rw [if_pos b]; exact bif_eq_t (decide_eq_true b) rfl
  ·rw [if_neg b,if_neg a]; exact bif_eq_f (decide_eq_false b) rfl
theorem rrd_w (K : Nat) {n s : Int} (h0 : -9223372036854775808 ≤ n) (h1 : n ≤ 9223372036854775807) (hs : 2 ≤ s) (hs2 : s ≤ 62) : psalteryref08_round K n s = some (sat32v (rnd n s.toNat)) :=
 bnd_eq (rround_w K h0 h1 hs hs2) (bnd_eq (rsat_w K _) rfl)

theorem join_b (m : Nat) (hm : m = 4 ∨ m = 8) (bs : List (List Int)) (u x : List Int) (k : Nat) (hk : k < bs.length) (hkb : k ≤ 100) (hb : (bs.getD k []).length = m) (hx : x.length ≤ 1000)
  (hw : ((List.range m).all fun i=>(List.range (2 * m)).all fun k=>psalteryref08_wave 5000 (2 * (i : Int) + 1) (2 * (k : Int) + (m : Int)) (m : Int) == some (wv m u (2 * (i : Int) + 1) (2 * (k : Int) + (m : Int)))) = true) :
  psalteryref08_Join.l4 5000 bs (m : Int) (k : Int) 5000 0 x = some (x ++ tabOf (vk m u (bs.getD k [])) (2 * m)):=by
 have gen : ∀ (r e q : Nat),q + r = 2 * m → psalteryref08_Join.l4 5000 bs (m : Int) (k : Int) (r + e + 1) (q : Int) (x ++ tabOf (vk m u (bs.getD k [])) q) = some (x ++ tabOf (vk m u (bs.getD k [])) (2 * m)):=by
  intro r
  induction r with
  | zero =>
   intro e q hq
   have : q = 2 * m:=by omega
   subst this
   show psalteryref08_Join.r4 5000 bs (m : Int) (k : Int) (psalteryref08_Join.l4 5000 bs (m : Int) (k : Int) (0 + e)) ((2 * m : Nat) : Int) _ = _
   unfold psalteryref08_Join.r4
   rw [kw_i64 (x:=2 * (m : Int)) (by omega) (by omega)]
   exact bif_eq_f (decide_eq_false (by omega)) rfl
  | succ r ih =>
   intro e q hq
   show psalteryref08_Join.r4 5000 bs (m : Int) (k : Int) (psalteryref08_Join.l4 5000 bs (m : Int) (k : Int) (r + 1 + e)) (q : Int) _ = _
   unfold psalteryref08_Join.r4
   rw [kw_i64 (x:=2 * (m : Int)) (by omega) (by omega)]
   refine bif_eq_t (decide_eq_true (by omega)) ?_
   refine bnd_eq (x:=vacc m u (bs.getD k []) q) ?_ ?_
   ·refine acc_loop0 m (fun i a=>kwrap .i64 (a + kwrap .i64 (kwrap .i64 ((bs.getD k []).getD i 0) * wv m u (2 * (i : Int) + 1) (2 * (q : Int) + (m : Int))))) 0 _ (fun next i a hi=>?_) (fun next=>?_) (by omega)
    ·unfold psalteryref08_Join.r5
     refine bif_eq_t (decide_eq_true (by omega)) ?_
     refine gd_eq (by omega) ?_
     rw [Int.toNat_natCast]
     have hn : Kd.nth (.slice (.int .i32)) bs k = bs.getD k []:=rfl
     rw [hn]
     refine gd_eq (by rw [hb]; omega) ?_
     rw [kw_i64 (x:=2 * (i : Int)) (by omega) (by omega)]
     try dsimp only
     rw [kw_i64 (x:=2 * (i : Int) + 1) (by omega) (by omega),kw_i64 (x:=2 * (q : Int)) (by omega) (by omega)]
     try dsimp only
     rw [kw_i64 (x:=2 * (q : Int) + (m : Int)) (by omega) (by omega)]
     have hwv:=beq_iff_eq.1 (List.all_eq_true.1 (List.all_eq_true.1 hw i (List.mem_range.2 hi)) q (List.mem_range.2 (by omega)))
     refine bnd_eq hwv ?_
     rw [kw_i64 (x:=(i : Int) + 1) (by omega) (by omega),Int.toNat_natCast]
     rfl
    ·unfold psalteryref08_Join.r5
     exact bif_eq_f (decide_eq_false (by omega)) rfl
   ·have hbb:=acc_b (g:=fun i a=>kwrap .i64 (a + kwrap .i64 (kwrap .i64 ((bs.getD k []).getD i 0) * wv m u (2 * (i : Int) + 1) (2 * (q : Int) + (m : Int))))) (s:=0) m (by omega) (fun k x=>⟨_,rfl⟩)
    refine bnd_eq (rrd_w 5000 hbb.1 hbb.2 (by decide) (by decide)) ?_
    refine gd_eq (by rw [List.length_append,tabOf_len]; simp; omega) ?_
    rw [kw_i64 (x:=(q : Int) + 1) (by omega) (by omega),show r + 1 + e = r + e + 1 by omega]
    have hcat : x ++ tabOf (vk m u (bs.getD k [])) q ++ [sat32v (rnd (vacc m u (bs.getD k []) q) (Int.toNat 15))] = x ++ tabOf (vk m u (bs.getD k [])) (q + 1):=by rw [tabOf_succ,List.append_assoc]; rfl
    rw [hcat]
    exact ih e (q + 1) (by omega)
 obtain ⟨e,he⟩ : ∃ e,5000 = 2 * m + e + 1:=⟨5000 - 2 * m - 1,by omega⟩
 have:=gen (2 * m) e 0 (by omega)
 rw [← he] at this
 have h0 : tabOf (vk m u (bs.getD k [])) 0 = []:=rfl
 rw [h0,List.append_nil] at this
 exact this

theorem join_in (m : Nat) (hm : m = 4 ∨ m = 8) (bs : List (List Int)) (u : List Int) (hn : bs.length ≤ 60) (hb : ∀ b ∈ bs,b.length = m)
  (hw : ((List.range m).all fun i=>(List.range (2 * m)).all fun k=>psalteryref08_wave 5000 (2 * (i : Int) + 1) (2 * (k : Int) + (m : Int)) (m : Int) == some (wv m u (2 * (i : Int) + 1) (2 * (k : Int) + (m : Int)))) = true) :
  psalteryref08_Join.l3 5000 bs (m : Int) 5000 ((bs.length : Int) - 1) [] = some ((rjs m u bs).take (20 * m)):=by
 have key : ∀ (k : Nat),k ≤ bs.length → bs.length - k ≤ 10 → ∀ e : Nat,psalteryref08_Join.l3 5000 bs (m : Int) (k + e + 1) ((k : Int) - 1) (rjs m u (bs.drop k)) = some ((rjs m u bs).take (20 * m)):=by
  intro k
  induction k with
  | zero =>
   intro _ h10 e
   show psalteryref08_Join.r3 5000 bs (m : Int) (psalteryref08_Join.l3 5000 bs (m : Int) (0 + e)) (((0 : Nat) : Int) - 1) _ = _
   unfold psalteryref08_Join.r3
   refine bif_eq_f (by rw [decide_eq_false (show ¬ ((0 : Nat) : Int) - 1 ≥ 0 by omega)]; rfl) ?_
   rw [List.drop_zero,List.take_of_length_le]
   rw [rjs_len]
   rcases hm with rfl | rfl <;> omega
  | succ k ih =>
   intro hk h10 e
   show psalteryref08_Join.r3 5000 bs (m : Int) (psalteryref08_Join.l3 5000 bs (m : Int) (k + 1 + e)) (((k + 1 : Nat) : Int) - 1) _ = _
   have ek : ((k + 1 : Nat) : Int) - 1 = (k : Int):=by omega
   rw [ek]
   unfold psalteryref08_Join.r3
   have hrl : (rjs m u (bs.drop (k + 1))).length = (bs.length - (k + 1)) * (2 * m):=by rw [rjs_len,List.length_drop]
   rw [kw_i64 (x:=20 * (m : Int)) (by omega) (by omega),decide_eq_true (show (k : Int) ≥ 0 by omega)]
   by_cases hf : bs.length - (k + 1) = 10
   ·refine bif_eq_f (decide_eq_false (by rw [hrl,hf]; omega)) ?_
    have hsplit : ∀ (n : Nat) (l : List (List Int)),rjs m u l = rjs m u (l.drop n) ++ rjs m u (l.take n):=by
     intro n
     induction n with
     | zero=>intro l; simp [rjs]
     | succ n ihn =>
      intro l
      cases l with
      | nil=>simp [rjs]
      | cons b l =>
       show rjs m u l ++ tabOf (vk m u b) (2 * m) = rjs m u (l.drop n) ++ (rjs m u (l.take n) ++ tabOf (vk m u b) (2 * m))
       rw [← List.append_assoc,← ihn l]
    rw [hsplit (k + 1) bs,List.take_append_of_le_length (by rw [hrl,hf]; omega),List.take_of_length_le (by rw [hrl,hf]; omega)]
   ·have hlt : (rjs m u (bs.drop (k + 1))).length < 20 * m:=by
     rw [hrl]
     rcases hm with rfl | rfl <;> omega
    refine bif_eq_t (decide_eq_true (by omega)) ?_
    have hg : (bs.getD k []).length = m:=by rw [List.getD_eq_getElem?_getD,List.getElem?_eq_getElem (by omega)]; exact hb _ (List.getElem_mem (by omega))
    refine bnd_eq (join_b m hm bs u _ k (by omega) (by omega) hg (by omega) hw) ?_
    have hcons : rjs m u (bs.drop (k + 1)) ++ tabOf (vk m u (bs.getD k [])) (2 * m) = rjs m u (bs.drop k):=by
     rw [List.drop_eq_getElem_cons (l:=bs) (i:=k) (by omega),List.getD_eq_getElem?_getD,List.getElem?_eq_getElem (by omega)]; rfl
    rw [hcons,kw_i64 (x:=(k : Int) - 1) (by omega) (by omega),show k + 1 + e = k + e + 1 by omega]
    exact ih (by omega) (by omega) e
 obtain ⟨e,he⟩ : ∃ e,5000 = bs.length + e + 1:=⟨5000 - bs.length - 1,by omega⟩
 have:=key bs.length (Nat.le_refl _) (by omega) e
 rw [List.drop_of_length_le (Nat.le_refl _),← he] at this
 exact this

theorem jpad (m : Nat) (hm : m = 4 ∨ m = 8) (R : List Int) (hR : R.length ≤ 480) : psalteryref08_Join.l2 5000 (m : Int) 5000 R = some (R ++ List.replicate (20 * m - R.length) 0):=by
 have key : ∀ (q : Nat) (x : List Int),x.length ≤ 480 → 20 * m - x.length = q → ∀ e : Nat,psalteryref08_Join.l2 5000 (m : Int) (q + e + 1) x = some (x ++ List.replicate q 0):=by
  intro q
  induction q with
  | zero =>
   intro x _ hx e
   show psalteryref08_Join.r2 5000 (m : Int) (psalteryref08_Join.l2 5000 (m : Int) (0 + e)) x = _
   unfold psalteryref08_Join.r2
   rw [kw_i64 (x:=20 * (m : Int)) (by omega) (by omega),List.replicate_zero,List.append_nil]
   exact bif_eq_f (decide_eq_false (by omega)) rfl
  | succ q ih =>
   intro x hb hx e
   show psalteryref08_Join.r2 5000 (m : Int) (psalteryref08_Join.l2 5000 (m : Int) (q + 1 + e)) x = _
   unfold psalteryref08_Join.r2
   rw [kw_i64 (x:=20 * (m : Int)) (by omega) (by omega)]
   refine bif_eq_t (decide_eq_true (by omega)) ?_
   refine gd_eq (by simp; omega) ?_
   rw [show q + 1 + e = q + e + 1 by omega,ih (x ++ [0]) (by simp; omega) (by simp; omega) e,List.append_assoc]; rfl
 obtain ⟨e,he⟩ : ∃ e,5000 = (20 * m - R.length) + e + 1:=⟨5000 - (20 * m - R.length) - 1,by omega⟩
 have:=key _ R hR rfl e
 rw [← he] at this
 exact this

theorem sumj (t0 t1 t2 t3 t4 : Int) : kwrap .i64 (kwrap .i64 (kwrap .i64 (kwrap .i64 (kwrap .i64 (0 + t0) + kwrap .i64 (0 - t1)) + t2) + kwrap .i64 (0 - t3)) + t4) =
  kwrap .i64 (t4 - kwrap .i64 (t3 - kwrap .i64 (t2 - kwrap .i64 (t1 - kwrap .i64 (t0 - 0))))):=by
 simp only [kw_add_l,kw_add_r,kw_sub_l,kw_sub_r]
 congr 1; omega
theorem ref_j (m : Nat) (hm : m = 4 ∨ m = 8) (h V : List Int) (hh : h.length = 10 * m) (hV : V.length = 20 * m) :
  psalteryref08_Join.l0 5000 (m : Int) h V 5000 0 [] = some (jnl m h V):=by
 have:=app_loop0 (r:=psalteryref08_Join.r0 5000 (m : Int) h V) (b:=fun _ _=>none) m (jv m h V) (fun i=>(i : Int)) (some (jnl m h V)) (fun next j hj=>?_) (fun next=>?_) (K:=5000) (by omega)
 ·exact this
 ·unfold psalteryref08_Join.r0
  refine bif_eq_t (decide_eq_true (by omega)) ?_
  let g : Nat → Int → Int:=fun k s=>kwrap .i64 (s + if k % 2 = 1 then kwrap .i64 (0 - jt m h V j k) else jt m h V j k)
  have hs5 : accf g 0 5 = jacc m h V j:=sumj (jt m h V j 0) (jt m h V j 1) (jt m h V j 2) (jt m h V j 3) (jt m h V j 4)
  have h3 : psalteryref08_Join.l1 5000 (m : Int) h (j : Int) V (tabOf (jv m h V) j) 5000 0 0 = some (accf g 0 5):=by
   refine acc_loop0 5 g 0 _ (fun next i s hi=>?_) (fun next=>?_) (by omega)
   ·unfold psalteryref08_Join.r1
    refine bif_eq_t (decide_eq_true (by omega)) ?_
    have hb1 : 4 * m * i + 3 * m + j < 20 * m:=by rcases hm with rfl | rfl <;> omega
    have hb2 : 2 * m * i + m + j < 10 * m:=by rcases hm with rfl | rfl <;> omega
    have e1 : (4 * (m : Int)) * (i : Int) = ((4 * m * i : Nat) : Int):=by simp
    have e2 : (2 * (m : Int)) * (i : Int) = ((2 * m * i : Nat) : Int):=by simp
    rw [kw_i64 (x:=4 * (m : Int)) (by omega) (by omega),kw_i64 (x:=2 * (m : Int)) (by omega) (by omega),kw_i64 (x:=3 * (m : Int)) (by omega) (by omega)]
    try dsimp only
    rw [e1,e2,kw_i64 (x:=((4 * m * i : Nat) : Int)) (by omega) (by omega),kw_i64 (x:=((2 * m * i : Nat) : Int)) (by omega) (by omega)]
    try dsimp only
    rw [kw_i64 (x:=((4 * m * i : Nat) : Int) + (j : Int)) (by omega) (by omega),kw_i64 (x:=((2 * m * i : Nat) : Int) + (j : Int)) (by omega) (by omega),kw_i64 (x:=((4 * m * i : Nat) : Int) + 3 * (m : Int)) (by omega) (by omega),kw_i64 (x:=((2 * m * i : Nat) : Int) + (m : Int)) (by omega) (by omega)]
    try dsimp only
    rw [kw_i64 (x:=((4 * m * i : Nat) : Int) + 3 * (m : Int) + (j : Int)) (by omega) (by omega),kw_i64 (x:=((2 * m * i : Nat) : Int) + (m : Int) + (j : Int)) (by omega) (by omega)]
    refine gd_eq (by omega) ?_
    refine gd_eq (by omega) ?_
    refine gd_eq (by omega) ?_
    refine gd_eq (by omega) ?_
    refine gd_eq (by omega) ?_
    refine gd_eq (by omega) ?_
    have em : Int.tmod (i : Int) 2 = ((i % 2 : Nat) : Int):=by rw [Int.tmod_eq_emod_of_nonneg (by omega)]; omega
    refine bnd_eq (x:=if i % 2 = 1 then kwrap .i64 (0 - jt m h V j i) else jt m h V j i) ?_ ?_
    ·rw [em,show (((4 * m * i : Nat) : Int) + (j : Int)).toNat = 4 * m * i + j by omega,show (((2 * m * i : Nat) : Int) + (j : Int)).toNat = 2 * m * i + j by omega,
      show (((4 * m * i : Nat) : Int) + 3 * (m : Int) + (j : Int)).toNat = 4 * m * i + 3 * m + j by omega,show (((2 * m * i : Nat) : Int) + (m : Int) + (j : Int)).toNat = 2 * m * i + m + j by omega]
     by_cases hz : i % 2 = 1
     ·rw [if_pos hz,hz]; rfl
     ·rw [if_neg hz,show i % 2 = 0 by omega]; rfl
    ·rw [kw_i64 (x:=(i : Int) + 1) (by omega) (by omega)]
     rfl
   ·unfold psalteryref08_Join.r1
    exact bif_eq_f (by decide) rfl
  refine bnd_eq h3 ?_
  rw [hs5]
  have hb:=acc_b (g:=fun i a=>kwrap .i64 (jt m h V j i - a)) (s:=0) 5 (by omega) (fun k x=>⟨_,rfl⟩)
  refine bnd_eq (rround_w 5000 (n:=jacc m h V j) hb.1 hb.2 (by decide) (by decide)) ?_
  refine bnd_eq (rsat16_w 5000 _) ?_
  have hs2:=sat16v_b (rnd (jacc m h V j) (Int.toNat 14))
  rw [kw_i16 hs2.1 hs2.2]
  refine gd_eq (by rw [tabOf_len]; simp; omega) ?_
  rw [kw_i64 (x:=(j : Int) + 1) (by omega) (by omega),tabOf_succ]
  rfl
 ·unfold psalteryref08_Join.r0
  exact bif_eq_f (decide_eq_false (by omega)) rfl

theorem join_w (m : Nat) (hm : m = 4 ∨ m = 8) (bs : List (List Int)) (hn : bs.length ≤ 60) (hb : ∀ b ∈ bs,b.length = m) : psalteryref08_Join 5000 bs (m : Int) = some (jnl m (hP m) (stj m (tuP m) bs)):=by
 obtain ⟨hh,ht,hf,hw⟩:=new_ok m hm
 unfold psalteryref08_Join
 rw [kw_i64 (x:=(bs.length : Int) - 1) (by omega) (by omega)]
 refine bnd_eq (join_in m hm bs (tuP m) hn hb hw) ?_
 refine bnd_eq (jpad m hm _ (by rw [List.length_take]; omega)) ?_
 refine bnd_eq hf ?_
 have hst : (rjs m (tuP m) bs).take (20 * m) ++ List.replicate (20 * m - ((rjs m (tuP m) bs).take (20 * m)).length) 0 = stj m (tuP m) bs:=by
  unfold stj
  rw [List.take_append,List.take_replicate,List.length_take]
  congr 2
  omega
 rw [hst]
 exact bnd_eq (ref_j m hm (hP m) _ hh (stj_len _ _ _)) rfl


theorem rjs_split (m : Nat) (u : List Int) : ∀ (n : Nat) (l : List (List Int)),rjs m u l = rjs m u (l.drop n) ++ rjs m u (l.take n)
 | 0,l=>by simp [rjs]
 | n + 1,[]=>by simp [rjs]
 | n + 1,b :: l=>by
  show rjs m u l ++ tabOf (vk m u b) (2 * m) = rjs m u (l.drop n) ++ (rjs m u (l.take n) ++ tabOf (vk m u b) (2 * m))
  rw [← List.append_assoc,← rjs_split m u n l]
theorem stj_drop (m : Nat) (u : List Int) (bs : List (List Int)) (n : Nat) (hn : n = 0 ∨ bs.length - n = 10) (hl : n ≤ bs.length) : stj m u (bs.drop n) = stj m u bs:=by
 rcases hn with rfl | hn
 ·rw [List.drop_zero]
 ·unfold stj
  rw [rjs_split m u n bs,List.append_assoc]
  have hlen : (rjs m u (bs.drop n)).length = 20 * m:=by rw [rjs_len,List.length_drop,hn]; omega
  rw [List.take_append_of_le_length (by omega),List.take_append_of_le_length (by omega)]
end Go.Fo
