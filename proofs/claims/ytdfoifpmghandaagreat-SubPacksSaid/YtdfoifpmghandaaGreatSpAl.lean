/- Rows of rows that tell a function; sums over all bands. -/
import Derived.Test.YtdfoifpmghandaaGreatSpFm
namespace Go.Fo
abbrev row (l : List (List Int)) (j : Int) : List Int:=Kd.nth (.slice (.int .i64)) l (Int.toNat j)
abbrev at' (v : List Int) (i : Int) : Int:=Kd.nth (.int .i64) v (Int.toNat i)
def tabv (n : Nat) (f : Int → Int) : List Int:=(List.range n).map fun i : Nat=>f i
theorem tab_s (n : Nat) (f : Int → Int) : tabv n f ++ [f n] = tabv (n + 1) f:=by unfold tabv; rw [List.range_succ,List.map_append]; rfl
theorem tab_len (n : Nat) (f : Int → Int) : (tabv n f).length = n:=by simp [tabv]
theorem tab_at (n : Nat) (f : Int → Int) (i : Int) (h0 : 0 ≤ i) (h : i < n) : at' (tabv n f) i = f i:=by
 unfold at' Kd.nth tabv
 rw [List.getD_eq_getElem?_getD,List.getElem?_eq_getElem (by simp; omega)]
 show (List.map (fun i : Nat=>f i) (List.range n))[i.toNat]'_ = f i
 rw [List.getElem_map,List.getElem_range,Int.toNat_of_nonneg h0]
theorem tab_set (n : Nat) (f : Int → Int) (i : Nat) (v : Int) : (tabv n f).set i v = tabv n (fun j=>if j = (i : Int) then v else f j):=by
 apply List.ext_getElem
 ·simp [tabv]
 ·intro k h1 h2
  simp only [tabv,List.getElem_set,List.getElem_map,List.getElem_range]
  by_cases e : i = k
  ·rw [if_pos e,if_pos (by omega)]
  ·rw [if_neg e,if_neg (by omega)]
theorem tab_cg (n : Nat) (f g : Int → Int) (h : ∀ j : Int,0 ≤ j → j < n → f j = g j) : tabv n f = tabv n g:=by
 unfold tabv
 apply List.map_congr_left
 intro k hk
 have:=List.mem_range.1 hk
 exact h k (by omega) (by omega)
def upd (z : Int → Int) (i v : Int) : Int → Int:=fun j=>if j = i then v else z j

def rw_ (C B : Nat) (z : Int → Int) : List (List Int):=(List.range C).map fun c : Nat=>tabv B fun b=>z (b * C + c)
theorem rw_len (C B : Nat) (z : Int → Int) : (rw_ C B z).length = C:=by simp [rw_]
theorem rw_get {C B : Nat} {z : Int → Int} {c : Nat} (hc : c < C) : (rw_ C B z).getD c [] = tabv B fun b=>z (b * C + c):=by
 unfold rw_
 rw [List.getD_eq_getElem?_getD,List.getElem?_eq_getElem (by simpa using hc)]
 simp
theorem rw_row {C B : Nat} {z : Int → Int} {c : Nat} (hc : c < C) : row (rw_ C B z) c = tabv B fun b=>z (b * C + c):=rw_get hc
theorem rw_rlen {C B : Nat} {z : Int → Int} {c : Nat} (hc : c < C) : (row (rw_ C B z) c).length = B:=by rw [rw_row hc,tab_len]
theorem rw_glen {C B : Nat} {z : Int → Int} {c : Nat} (hc : c < C) : ((rw_ C B z).getD c []).length = B:=by rw [rw_get hc,tab_len]
theorem rw_at {C B : Nat} {z : Int → Int} {c b : Nat} (hc : c < C) (hb : b < B) : at' (row (rw_ C B z) c) b = z ((b * C + c : Nat) : Int):=by
 rw [rw_row hc,tab_at _ _ _ (by omega) (by omega)]; push_cast; rfl
theorem rw_set {C B : Nat} {z : Int → Int} {c b : Nat} (hC : C = 1 ∨ C = 2) (hc : c < C) (v : Int) : (rw_ C B z).set c ((tabv B fun b=>z (b * C + c)).set b v) = rw_ C B (upd z ((b * C + c : Nat) : Int) v):=by
 apply List.ext_getElem
 ·simp [rw_]
 ·intro k h1 h2
  have hk : k < C:=by simpa [rw_] using h2
  rw [List.getElem_set]
  simp only [rw_,List.getElem_map,List.getElem_range]
  rw [tab_set]
  by_cases e : c = k
  ·rw [if_pos e]; subst e
   apply tab_cg; intro j _ _
   unfold upd
   by_cases e2 : j = (b : Int)
   ·rw [if_pos e2,if_pos (by rw [e2]; push_cast; rfl)]
   ·rw [if_neg e2,if_neg (by rcases hC with rfl | rfl <;> (push_cast; omega))]
  ·rw [if_neg e]
   apply tab_cg; intro j _ _
   unfold upd
   rw [if_neg (by rcases hC with rfl | rfl <;> (push_cast; omega))]
theorem rw_same {C B : Nat} {z : Int → Int} {c : Nat} (hc : c < C) : (rw_ C B z).set c ((rw_ C B z).getD c []) = rw_ C B z:=by
 apply List.ext_getElem
 ·simp
 ·intro k h1 h2
  rw [List.getElem_set]
  split
  ·rename_i e; subst e
   rw [List.getD_eq_getElem?_getD,List.getElem?_eq_getElem h2]; rfl
  ·rfl
theorem ltl {α : Type} {L : List α} {n c : Nat} (hl : L.length = n) (h : c < n) : ((c : Nat) : Int) < ((L.length : Nat) : Int):=by rw [hl]; omega
theorem ltn {α : Type} {L : List α} {n c : Nat} (hl : L.length = n) (h : c < n) : c < L.length:=by rw [hl]; exact h
theorem cnn (c : Nat) : (0 : Int) ≤ ((c : Nat) : Int):=Int.natCast_nonneg c
theorem kwc {c n : Nat} (h : c < n) (hn : n ≤ 1000000) : kwrap .i64 (((c : Nat) : Int) + 1) = ((c + 1 : Nat) : Int):=by rw [kw_i64 (by omega) (by omega)]; push_cast; rfl
def itr {α : Type} : Nat → (Int → α → α) → α → α
  | 0,_,a=>a
  | n + 1,F,a=>F n (itr n F a)
def wt (d : Int) : Int:=bif d == 1 then 2 else bif (bif decide (d > 1) then decide (d < 16) else false) then 1 else 0
theorem wt_r (d : Int) : 0 ≤ wt d ∧ wt d ≤ 2:=by unfold wt; cases (d == 1) <;> cases decide (d > 1) <;> cases decide (d < 16) <;> decide
theorem itr_c (h : Int → Int) (s : Int) : ∀ n : Nat,0 ≤ itr n (fun i a=>a + wt (h i - s)) 0 ∧ itr n (fun i a=>a + wt (h i - s)) 0 ≤ 2 * n
 | 0=>⟨Int.le_refl _,Int.le_refl _⟩
 | n + 1=>by
  have:=itr_c h s n
  have:=wt_r (h n - s)
  show 0 ≤ itr n (fun i a=>a + wt (h i - s)) 0 + wt (h n - s) ∧ _
  constructor
  ·omega
  ·show itr n (fun i a=>a + wt (h i - s)) 0 + wt (h n - s) ≤ _
   push_cast; omega
theorem itr_m (h : Int → Int) (a0 : Int) (ha : -1000 ≤ a0 ∧ a0 ≤ 15) : ∀ n : Nat,(∀ i : Int,0 ≤ i → i < n → -5 ≤ h i ∧ h i ≤ 15) → -1000 ≤ itr n (fun i a=>imax a (h i)) a0 ∧ itr n (fun i a=>imax a (h i)) a0 ≤ 15
 | 0,_=>ha
 | n + 1,hr=>by
  have h1:=itr_m h a0 ha n (fun i i0 i1=>hr i i0 (by omega))
  have h2:=hr n (by omega) (by omega)
  show -1000 ≤ imax (itr n (fun i a=>imax a (h i)) a0) (h n) ∧ imax (itr n (fun i a=>imax a (h i)) a0) (h n) ≤ 15
  have g : ∀ x y : Int,-1000 ≤ x ∧ x ≤ 15 → -5 ≤ y ∧ y ≤ 15 → -1000 ≤ imax x y ∧ imax x y ≤ 15:=by intro x y hx hy; unfold imax; split <;> omega
  exact g _ _ h1 h2
def GG (d : Int) : Int:=if d ≤ 1 then 0 else if d ≤ 16 then d else 16
theorem GG_s (d : Int) : GG (d + 1) = GG d + wt d:=by
 unfold GG wt
 by_cases e1 : d = 1
 ·subst e1; rfl
 ·rw [show (d == 1) = false by simpa using e1]
  by_cases e2 : d > 1
  ·by_cases e3 : d < 16
   ·rw [decide_eq_true e2,decide_eq_true e3,if_neg (by omega),if_pos (by omega),if_neg (by omega),if_pos (by omega)]; rfl
   ·rw [decide_eq_true e2,decide_eq_false e3,if_neg (by omega),if_neg (by omega),if_neg (by omega)]
    show (16 : Int) = (if d ≤ 16 then d else 16) + 0
    split <;> omega
  ·rw [decide_eq_false e2,if_pos (by omega),if_pos (by omega)]; rfl
def cst (h : Int → Int) (N : Nat) (s : Int) : Int:=itr N (fun i a=>a + wt (h i - s)) 0
def tot (h : Int → Int) (N : Nat) (s : Int) : Int:=itr N (fun i a=>a + GG (h i - s)) 0
theorem cst_r (h : Int → Int) (N : Nat) (s : Int) : 0 ≤ cst h N s ∧ cst h N s ≤ 2 * N:=itr_c h s N
theorem tot_s (h : Int → Int) (s : Int) : ∀ N : Nat,tot h N (s - 1) = tot h N s + cst h N s
 | 0=>rfl
 | N + 1=>by
  have ih:=tot_s h s N
  have g:=GG_s (h N - s)
  rw [show h N - s + 1 = h N - (s - 1) by omega] at g
  show tot h N (s - 1) + GG (h N - (s - 1)) = (tot h N s + GG (h N - s)) + (cst h N s + wt (h N - s))
  omega
theorem tot_r (h : Int → Int) : ∀ (N : Nat) (s : Int),0 ≤ tot h N s ∧ tot h N s ≤ 16 * N
 | 0,_=>⟨Int.le_refl _,Int.le_refl _⟩
 | N + 1,s=>by
  have ih:=tot_r h N s
  have g : ∀ d,0 ≤ GG d ∧ GG d ≤ 16:=by intro d; unfold GG; split <;> (try split) <;> omega
  have:=g (h N - s)
  show 0 ≤ tot h N s + GG (h N - s) ∧ tot h N s + GG (h N - s) ≤ _
  constructor
  ·omega
  ·push_cast; omega
theorem tot_end (h : Int → Int) : ∀ (N : Nat) (s : Int),(∀ i : Int,0 ≤ i → i < N → -5 ≤ h i ∧ h i ≤ 15) → s ≤ -21 → tot h N s = 16 * N
 | 0,_,_,_=>rfl
 | N + 1,s,hr,hs=>by
  have ih:=tot_end h N s (fun i i0 i1=>hr i i0 (by omega)) hs
  have:=hr N (by omega) (by omega)
  show tot h N s + GG (h N - s) = _
  have g : GG (h N - s) = 16:=by unfold GG; split <;> (try split) <;> omega
  rw [ih,g]; push_cast; omega
theorem mx_ge (h : Int → Int) (a0 : Int) : ∀ (N : Nat) (i : Int),0 ≤ i → i < N → h i ≤ itr N (fun i a=>imax a (h i)) a0
 | 0,i,h0,h1=>by omega
 | N + 1,i,h0,h1=>by
  have g : ∀ x y : Int,x ≤ imax x y ∧ y ≤ imax x y:=by intro x y; unfold imax; split <;> omega
  have:=g (itr N (fun i a=>imax a (h i)) a0) (h N)
  show h i ≤ imax (itr N (fun i a=>imax a (h i)) a0) (h N)
  by_cases e : i = N
  ·rw [e]; exact this.2
  ·have:=mx_ge h a0 N i h0 (by omega); omega
theorem tot_zero (h : Int → Int) (s : Int) : ∀ (N : Nat),(∀ i : Int,0 ≤ i → i < N → h i ≤ s) → tot h N s = 0
 | 0,_=>rfl
 | N + 1,hr=>by
  have ih:=tot_zero h s N (fun i i0 i1=>hr i i0 (by omega))
  have:=hr N (by omega) (by omega)
  show tot h N s + GG (h N - s) = 0
  have g : GG (h N - s) = 0:=by unfold GG; split <;> (try split) <;> omega
  rw [ih,g]; rfl
def offI (r B b : Int) : Int:=(alloc_offset 5000 0 r 0 B 0 0 0 0 0 0 b).getD 0
theorem off_w (p0 p1 p2 p3 p4 p5 p6 p7 p8 p9 b : Int) (hr : 0 ≤ p1 ∧ p1 ≤ 3) (hB : p3 = 4 ∨ p3 = 8) (hb : 0 ≤ b ∧ b < p3) : alloc_offset 5000 p0 p1 p2 p3 p4 p5 p6 p7 p8 p9 b = some (offI p1 p3 b) ∧ -4 ≤ offI p1 p3 b ∧ offI p1 p3 b ≤ 2:=by
 have h1 : p1 = 0 ∨ p1 = 1 ∨ p1 = 2 ∨ p1 = 3:=by omega
 rcases hB with rfl | rfl
 ·have h2 : b = 0 ∨ b = 1 ∨ b = 2 ∨ b = 3:=by omega
  rcases h1 with rfl | rfl | rfl | rfl <;> rcases h2 with rfl | rfl | rfl | rfl <;> exact ⟨rfl,by decide,by decide⟩
 ·have h2 : b = 0 ∨ b = 1 ∨ b = 2 ∨ b = 3 ∨ b = 4 ∨ b = 5 ∨ b = 6 ∨ b = 7:=by omega
  rcases h1 with rfl | rfl | rfl | rfl <;> rcases h2 with rfl | rfl | rfl | rfl | rfl | rfl | rfl | rfl <;> exact ⟨rfl,by decide,by decide⟩
def needI (r B me s b : Int) : Int:=bif me == 1 then s else bif s == 0 then -5 else bif decide (s - offI r B b > 0) then Int.tdiv (s - offI r B b) 2 else s - offI r B b
theorem need_w (p0 p1 p2 p3 p4 p5 p6 p7 p8 p9 s b : Int) (hr : 0 ≤ p1 ∧ p1 ≤ 3) (hB : p3 = 4 ∨ p3 = 8) (hb : 0 ≤ b ∧ b < p3) (hs : 0 ≤ s ∧ s ≤ 15) : alloc_need 5000 p0 p1 p2 p3 p4 p5 p6 p7 p8 p9 s b = some (needI p1 p3 p5 s b):=by
 obtain ⟨h1,h2,h3⟩:=off_w p0 p1 p2 p3 p4 p5 p6 p7 p8 p9 b hr hB hb
 unfold needI
 rcases Bool.eq_false_or_eq_true (p5 == 1) with e | e
 ·rw [e]; exact bif_eq_t e rfl
 ·rw [e]
  refine bif_eq_f e ?_
  rcases Bool.eq_false_or_eq_true (s == 0) with e2 | e2
  ·rw [e2]; exact bif_eq_t rfl rfl
  ·rw [e2]
   refine bif_eq_f rfl (bnd_eq h1 ?_)
   dsimp only
   rw [kw_i64 (x:=s - offI p1 p3 b) (by omega) (by omega)]
   rcases Bool.eq_false_or_eq_true (decide (s - offI p1 p3 b > 0)) with e3 | e3
   ·have h0 : s - offI p1 p3 b > 0:=of_decide_eq_true e3
    rw [e3]
    refine bnd_eq (bif_eq_t rfl rfl) ?_
    rw [kw_i64 (by rw [Int.tdiv_eq_ediv_of_nonneg (by omega)]; omega) (by rw [Int.tdiv_eq_ediv_of_nonneg (by omega)]; omega)]; rfl
   ·rw [e3]; exact bnd_eq (bif_eq_f rfl rfl) rfl
theorem need_rng (r B me s b : Int) (hr : 0 ≤ r ∧ r ≤ 3) (hB : B = 4 ∨ B = 8) (hb : 0 ≤ b ∧ b < B) (hs : 0 ≤ s ∧ s ≤ 15) : -5 ≤ needI r B me s b ∧ needI r B me s b ≤ 15:=by
 obtain ⟨_,h2,h3⟩:=off_w 0 r 0 B 0 0 0 0 0 0 b hr hB hb
 unfold needI
 cases (me == 1)
 ·cases e : (s == 0)
  ·have e' : s ≠ 0:=by simpa using e
   cases e3 : decide (s - offI r B b > 0)
   ·have : ¬ s - offI r B b > 0:=of_decide_eq_false e3
    show -5 ≤ s - offI r B b ∧ s - offI r B b ≤ 15; omega
   ·have : s - offI r B b > 0:=of_decide_eq_true e3
    show -5 ≤ Int.tdiv (s - offI r B b) 2 ∧ Int.tdiv (s - offI r B b) 2 ≤ 15
    rw [Int.tdiv_eq_ediv_of_nonneg (by omega)]; omega
  ·show -5 ≤ (-5 : Int) ∧ (-5 : Int) ≤ 15; decide
 ·show -5 ≤ s ∧ s ≤ 15; omega

def Fit (p0 p1 p2 p3 p4 p5 p6 p7 p8 p9 : Int) (l : List (List Int)) : Prop:=may0 p0 p1 p2 p3 p4 p5 p6 p7 p8 p9 ∧ (l.length : Int) = p2 ∧ ∀ c,0 ≤ c → c < p2 → ((row l c).length : Int) = p3 ∧ ∀ q,0 ≤ q → q < p3 → 0 ≤ at' (row l c) q ∧ at' (row l c) q ≤ 15
theorem may_in (l : List (List Int)) (n j p0 p1 p2 p3 p4 p5 p6 p7 p8 p9 : Int) (hj : 0 ≤ j ∧ j < (l.length : Int)) (hv : ((row l j).length : Int) = p3) (hB : p3 ≤ 100) (k : Nat) : ∀ (m : Nat) (i : Int),k < m → 0 ≤ i → i + k = p3 →
  (alloc_may.l1 5000 l n j (row l j) ((row l j).length : Int) p0 p1 p2 p3 p4 p5 p6 p7 p8 p9 m i = some (.inl ()) ∧ ∀ q,i ≤ q → q < p3 → 0 ≤ at' (row l j) q ∧ at' (row l j) q ≤ 15) ∨ alloc_may.l1 5000 l n j (row l j) ((row l j).length : Int) p0 p1 p2 p3 p4 p5 p6 p7 p8 p9 m i = some (.inr 1):=by
 induction k with
 | zero =>
  intro m i hm h0 hi
  obtain ⟨m,rfl⟩ : ∃ q,m = q + 1:=⟨m - 1,by omega⟩
  refine .inl ⟨?_,fun q h1 h2=>by omega⟩
  show alloc_may.r1 5000 l n j (row l j) ((row l j).length : Int) p0 p1 p2 p3 p4 p5 p6 p7 p8 p9 (alloc_may.l1 5000 l n j (row l j) ((row l j).length : Int) p0 p1 p2 p3 p4 p5 p6 p7 p8 p9 m) i = _
  exact bif_eq_f (decide_eq_false (by omega)) rfl
 | succ k ih =>
  intro m i hm h0 hi
  obtain ⟨m,rfl⟩ : ∃ q,m = q + 1:=⟨m - 1,by omega⟩
  have hr : ∀ z,(bif (bif decide (at' (row l j) i < 0) then true else decide (at' (row l j) i > 15)) then some (.inr 1) else alloc_may.l1 5000 l n j (row l j) ((row l j).length : Int) p0 p1 p2 p3 p4 p5 p6 p7 p8 p9 m (i + 1)) = z → alloc_may.l1 5000 l n j (row l j) ((row l j).length : Int) p0 p1 p2 p3 p4 p5 p6 p7 p8 p9 (m + 1) i = z:=by
   intro z hz
   show alloc_may.r1 5000 l n j (row l j) ((row l j).length : Int) p0 p1 p2 p3 p4 p5 p6 p7 p8 p9 (alloc_may.l1 5000 l n j (row l j) ((row l j).length : Int) p0 p1 p2 p3 p4 p5 p6 p7 p8 p9 m) i = z
   refine bif_eq_t (decide_eq_true (by omega)) (gd_eq ⟨h0,by omega⟩ ?_)
   dsimp only
   rw [kw_i64 (x:=i + 1) (by omega) (by omega)]
   exact hz
  by_cases c1 : at' (row l j) i < 0
  ·exact .inr (hr _ (bif_eq_t (by rw [decide_eq_true c1]; rfl) rfl))
  ·by_cases c2 : at' (row l j) i > 15
   ·exact .inr (hr _ (bif_eq_t (by rw [decide_eq_false c1,decide_eq_true c2]; rfl) rfl))
   ·have hf : (bif decide (at' (row l j) i < 0) then true else decide (at' (row l j) i > 15)) = false:=by rw [decide_eq_false c1,decide_eq_false c2]; rfl
    rcases ih m (i + 1) (by omega) (by omega) (by omega) with ⟨h1,h2⟩ | h1
    ·refine .inl ⟨hr _ (bif_eq_f hf h1),fun q q1 q2=>?_⟩
     by_cases e : q = i
     ·subst e; omega
     ·exact h2 q (by omega) q2
    ·exact .inr (hr _ (bif_eq_f hf h1))
theorem may_out (l : List (List Int)) (p0 p1 p2 p3 p4 p5 p6 p7 p8 p9 : Int) (hl : l.length ≤ 10) (hB : 0 ≤ p3 ∧ p3 ≤ 100) (k : Nat) : ∀ (m : Nat) (j : Int),k < m → 0 ≤ j → j + k = (l.length : Int) →
  (alloc_may.l0 5000 l (l.length : Int) p0 p1 p2 p3 p4 p5 p6 p7 p8 p9 m j = some (.inl ()) ∧ ∀ c,j ≤ c → c < (l.length : Int) → ((row l c).length : Int) = p3 ∧ ∀ q,0 ≤ q → q < p3 → 0 ≤ at' (row l c) q ∧ at' (row l c) q ≤ 15) ∨ alloc_may.l0 5000 l (l.length : Int) p0 p1 p2 p3 p4 p5 p6 p7 p8 p9 m j = some (.inr 1):=by
 induction k with
 | zero =>
  intro m j hm h0 hj
  obtain ⟨m,rfl⟩ : ∃ q,m = q + 1:=⟨m - 1,by omega⟩
  refine .inl ⟨?_,fun q h1 h2=>by omega⟩
  show alloc_may.r0 5000 l (l.length : Int) p0 p1 p2 p3 p4 p5 p6 p7 p8 p9 (alloc_may.l0 5000 l (l.length : Int) p0 p1 p2 p3 p4 p5 p6 p7 p8 p9 m) j = _
  exact bif_eq_f (decide_eq_false (by omega)) rfl
 | succ k ih =>
  intro m j hm h0 hj
  obtain ⟨m,rfl⟩ : ∃ q,m = q + 1:=⟨m - 1,by omega⟩
  by_cases c1 : ((row l j).length : Int) = p3
  ·have hi:=may_in l (l.length : Int) j p0 p1 p2 p3 p4 p5 p6 p7 p8 p9 ⟨h0,by omega⟩ c1 hB.2 p3.toNat 5000 0 (by omega) (by omega) (by omega)
   rcases hi with ⟨i1,i2⟩ | i1
   ·rcases ih m (j + 1) (by omega) (by omega) (by omega) with ⟨h1,h2⟩ | h1
    ·refine .inl ⟨?_,fun c c0 cl=>?_⟩
     ·show alloc_may.r0 5000 l (l.length : Int) p0 p1 p2 p3 p4 p5 p6 p7 p8 p9 (alloc_may.l0 5000 l (l.length : Int) p0 p1 p2 p3 p4 p5 p6 p7 p8 p9 m) j = _
      refine bif_eq_t (decide_eq_true (by omega)) (gd_eq ⟨h0,by omega⟩ (bif_eq_f (by simpa using c1) (bnd_eq i1 ?_)))
      dsimp only
      rw [kw_i64 (x:=j + 1) (by omega) (by omega)]; exact h1
     ·by_cases e : c = j
      ·subst e; exact ⟨c1,i2⟩
      ·exact h2 c (by omega) cl
    ·refine .inr ?_
     show alloc_may.r0 5000 l (l.length : Int) p0 p1 p2 p3 p4 p5 p6 p7 p8 p9 (alloc_may.l0 5000 l (l.length : Int) p0 p1 p2 p3 p4 p5 p6 p7 p8 p9 m) j = _
     refine bif_eq_t (decide_eq_true (by omega)) (gd_eq ⟨h0,by omega⟩ (bif_eq_f (by simpa using c1) (bnd_eq i1 ?_)))
     dsimp only
     rw [kw_i64 (x:=j + 1) (by omega) (by omega)]; exact h1
   ·refine .inr ?_
    show alloc_may.r0 5000 l (l.length : Int) p0 p1 p2 p3 p4 p5 p6 p7 p8 p9 (alloc_may.l0 5000 l (l.length : Int) p0 p1 p2 p3 p4 p5 p6 p7 p8 p9 m) j = _
    exact bif_eq_t (decide_eq_true (by omega)) (gd_eq ⟨h0,by omega⟩ (bif_eq_f (by simpa using c1) (bnd_eq i1 rfl)))
  ·refine .inr ?_
   show alloc_may.r0 5000 l (l.length : Int) p0 p1 p2 p3 p4 p5 p6 p7 p8 p9 (alloc_may.l0 5000 l (l.length : Int) p0 p1 p2 p3 p4 p5 p6 p7 p8 p9 m) j = _
   exact bif_eq_t (decide_eq_true (by omega)) (gd_eq ⟨h0,by omega⟩ (bif_eq_t (by simpa using c1) rfl))
theorem may_no (l : List (List Int)) (p0 p1 p2 p3 p4 p5 p6 p7 p8 p9 : Int) (hl : l.length ≤ 10) (hB : 0 ≤ p3 ∧ p3 ≤ 100) (hf : ∀ c,0 ≤ c → c < (l.length : Int) → ((row l c).length : Int) = p3 ∧ ∀ q,0 ≤ q → q < p3 → 0 ≤ at' (row l c) q ∧ at' (row l c) q ≤ 15) (k : Nat) : ∀ (m : Nat) (j : Int),k < m → 0 ≤ j → j + k = (l.length : Int) →
  alloc_may.l0 5000 l (l.length : Int) p0 p1 p2 p3 p4 p5 p6 p7 p8 p9 m j ≠ some (.inr 1):=by
 induction k with
 | zero =>
  intro m j hm h0 hj
  obtain ⟨m,rfl⟩ : ∃ q,m = q + 1:=⟨m - 1,by omega⟩
  have : alloc_may.l0 5000 l (l.length : Int) p0 p1 p2 p3 p4 p5 p6 p7 p8 p9 (m + 1) j = some (.inl ()):=by
   show alloc_may.r0 5000 l (l.length : Int) p0 p1 p2 p3 p4 p5 p6 p7 p8 p9 (alloc_may.l0 5000 l (l.length : Int) p0 p1 p2 p3 p4 p5 p6 p7 p8 p9 m) j = _
   exact bif_eq_f (decide_eq_false (by omega)) rfl
  rw [this]; intro h; cases h
 | succ k ih =>
  intro m j hm h0 hj
  obtain ⟨m,rfl⟩ : ∃ q,m = q + 1:=⟨m - 1,by omega⟩
  obtain ⟨c1,c2⟩:=hf j h0 (by omega)
  have ok : ∀ (k' : Nat) (m' : Nat) (i : Int),k' < m' → 0 ≤ i → i + k' = p3 → alloc_may.l1 5000 l (l.length : Int) j (row l j) ((row l j).length : Int) p0 p1 p2 p3 p4 p5 p6 p7 p8 p9 m' i = some (.inl ()):=by
   intro k'
   induction k' with
   | zero =>
    intro m' i hm' hi0 hi
    obtain ⟨m',rfl⟩ : ∃ q,m' = q + 1:=⟨m' - 1,by omega⟩
    show alloc_may.r1 5000 l (l.length : Int) j (row l j) ((row l j).length : Int) p0 p1 p2 p3 p4 p5 p6 p7 p8 p9 (alloc_may.l1 5000 l (l.length : Int) j (row l j) ((row l j).length : Int) p0 p1 p2 p3 p4 p5 p6 p7 p8 p9 m') i = _
    exact bif_eq_f (decide_eq_false (by omega)) rfl
   | succ k' ih' =>
    intro m' i hm' hi0 hi
    obtain ⟨m',rfl⟩ : ∃ q,m' = q + 1:=⟨m' - 1,by omega⟩
    have q:=c2 i hi0 (by omega)
    show alloc_may.r1 5000 l (l.length : Int) j (row l j) ((row l j).length : Int) p0 p1 p2 p3 p4 p5 p6 p7 p8 p9 (alloc_may.l1 5000 l (l.length : Int) j (row l j) ((row l j).length : Int) p0 p1 p2 p3 p4 p5 p6 p7 p8 p9 m') i = _
    refine bif_eq_t (decide_eq_true (by omega)) (gd_eq ⟨hi0,by omega⟩ (bif_eq_f ?_ ?_))
    ·show (bif decide (at' (row l j) i < 0) then true else decide (at' (row l j) i > 15)) = false
     rw [decide_eq_false (by omega),decide_eq_false (by omega)]; rfl
    ·dsimp only
     rw [kw_i64 (x:=i + 1) (by omega) (by omega)]; exact ih' m' (i + 1) (by omega) (by omega) (by omega)
  have : alloc_may.l0 5000 l (l.length : Int) p0 p1 p2 p3 p4 p5 p6 p7 p8 p9 (m + 1) j = alloc_may.l0 5000 l (l.length : Int) p0 p1 p2 p3 p4 p5 p6 p7 p8 p9 m (j + 1):=by
   show alloc_may.r0 5000 l (l.length : Int) p0 p1 p2 p3 p4 p5 p6 p7 p8 p9 (alloc_may.l0 5000 l (l.length : Int) p0 p1 p2 p3 p4 p5 p6 p7 p8 p9 m) j = _
   refine bif_eq_t (decide_eq_true (by omega)) (gd_eq ⟨h0,by omega⟩ (bif_eq_f (by simpa using c1) (bnd_eq (ok p3.toNat 5000 0 (by omega) (by omega) (by omega)) ?_)))
   dsimp only
   rw [kw_i64 (x:=j + 1) (by omega) (by omega)]
  rw [this]; exact ih m (j + 1) (by omega) (by omega) (by omega)
theorem amay_w (p0 p1 p2 p3 p4 p5 p6 p7 p8 p9 : Int) (l : List (List Int)) (hm : may0 p0 p1 p2 p3 p4 p5 p6 p7 p8 p9) : alloc_may 5000 p0 p1 p2 p3 p4 p5 p6 p7 p8 p9 l = some 0 ∧ Fit p0 p1 p2 p3 p4 p5 p6 p7 p8 p9 l ∨ alloc_may 5000 p0 p1 p2 p3 p4 p5 p6 p7 p8 p9 l = some 1 ∧ ¬ Fit p0 p1 p2 p3 p4 p5 p6 p7 p8 p9 l:=by
 have hc : format_Check 5000 p0 p1 p2 p3 p4 p5 p6 p7 p8 p9 = some 0:=(Check_w p0 p1 p2 p3 p4 p5 p6 p7 p8 p9).trans (by rw [if_pos (show okP p0 p1 p2 p3 p4 p5 p6 p7 p8 p9 from .inl hm)])
 have e1 : p0 = 1:=hm.1.1
 have hr : ∀ z,(bif ((l.length : Int) != p2) then some 1 else (alloc_may.l0 5000 l (l.length : Int) p0 p1 p2 p3 p4 p5 p6 p7 p8 p9 5000 0).bind fun z=>match z with | .inl _=>some 0 | .inr r=>some r) = z → alloc_may 5000 p0 p1 p2 p3 p4 p5 p6 p7 p8 p9 l = z:=by
  intro z hz
  exact bnd_eq hc (bif_eq_f (by rw [e1]; rfl) hz)
 have h2 : p2 = 1 ∨ p2 = 2:=hm.1.2.2.2.1
 have h3 : p3 = 4 ∨ p3 = 8:=hm.1.2.2.2.2.1
 by_cases c1 : (l.length : Int) = p2
 ·rcases may_out l p0 p1 p2 p3 p4 p5 p6 p7 p8 p9 (by omega) (by omega) l.length 5000 0 (by omega) (by omega) (by omega) with ⟨i1,i2⟩ | i1
  ·exact .inl ⟨hr _ (bif_eq_f (by simpa using c1) (bnd_eq i1 rfl)),hm,c1,fun c c0 cl=>i2 c c0 (by omega)⟩
  ·refine .inr ⟨hr _ (bif_eq_f (by simpa using c1) (bnd_eq i1 rfl)),fun hf=>?_⟩
   exact absurd i1 (may_no l p0 p1 p2 p3 p4 p5 p6 p7 p8 p9 (by omega) (by omega) (fun c c0 cl=>hf.2.2 c c0 (by omega)) l.length 5000 0 (by omega) (by omega) (by omega))
 ·exact .inr ⟨hr _ (bif_eq_t (by simpa using c1) rfl),fun hf=>c1 hf.2.1⟩
end Go.Fo
