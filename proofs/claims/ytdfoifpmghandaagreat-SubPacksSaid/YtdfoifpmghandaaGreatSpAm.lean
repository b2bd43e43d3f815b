/- The loops over all bands. -/
import Derived.Test.YtdfoifpmghandaaGreatSpAl
namespace Go.Fo
set_option maxRecDepth 6000
theorem sharing_each_in (h : Int → Int) (pool sum : Int) (C B : Nat) (hC : C = 1 ∨ C = 2) (b : Nat) (hb : b < B) (a0 : Int × (Int → Int))
  (hcb : ∀ c : Nat,c < C → alloc_sharing_cut_1 5000 (at' (row (rw_ C B h) c) b) b ((rw_ C B (itr (b * C + c) (fun i (a : Int × (Int → Int))=>(imax a.1 (h i),a.2)) a0).2).getD c []) pool (itr (b * C + c) (fun i (a : Int × (Int → Int))=>(imax a.1 (h i),a.2)) a0).1 sum (rw_ C B h) (rw_ C B (itr (b * C + c) (fun i (a : Int × (Int → Int))=>(imax a.1 (h i),a.2)) a0).2) c = some (((fun i (a : Int × (Int → Int))=>(imax a.1 (h i),a.2)) ((b * C + c : Nat) : Int) (itr (b * C + c) (fun i (a : Int × (Int → Int))=>(imax a.1 (h i),a.2)) a0)).1,rw_ C B ((fun i (a : Int × (Int → Int))=>(imax a.1 (h i),a.2)) ((b * C + c : Nat) : Int) (itr (b * C + c) (fun i (a : Int × (Int → Int))=>(imax a.1 (h i),a.2)) a0)).2)) (k : Nat) : ∀ (m c : Nat),k < m → c + k = C → alloc_sharing_each.l1 5000 (b : Int) (B : Int) (C : Int) pool sum (rw_ C B h) m c (itr (b * C + c) (fun i (a : Int × (Int → Int))=>(imax a.1 (h i),a.2)) a0).1 (rw_ C B (itr (b * C + c) (fun i (a : Int × (Int → Int))=>(imax a.1 (h i),a.2)) a0).2) = some ((itr (b * C + C) (fun i (a : Int × (Int → Int))=>(imax a.1 (h i),a.2)) a0).1,rw_ C B (itr (b * C + C) (fun i (a : Int × (Int → Int))=>(imax a.1 (h i),a.2)) a0).2):=by
 induction k with
 | zero =>
  intro m c hm hc
  obtain ⟨m,rfl⟩ : ∃ q,m = q + 1:=⟨m - 1,by omega⟩
  have hq : c = C:=by omega
  show alloc_sharing_each.r1 5000 (b : Int) (B : Int) (C : Int) pool sum (rw_ C B h) (alloc_sharing_each.l1 5000 (b : Int) (B : Int) (C : Int) pool sum (rw_ C B h) m) c (itr (b * C + c) (fun i (a : Int × (Int → Int))=>(imax a.1 (h i),a.2)) a0).1 (rw_ C B (itr (b * C + c) (fun i (a : Int × (Int → Int))=>(imax a.1 (h i),a.2)) a0).2) = _
  refine bif_eq_f (decide_eq_false (by omega)) ?_
  rw [hq]
 | succ k ih =>
  intro m c hm hc
  obtain ⟨m,rfl⟩ : ∃ q,m = q + 1:=⟨m - 1,by omega⟩
  show alloc_sharing_each.r1 5000 (b : Int) (B : Int) (C : Int) pool sum (rw_ C B h) (alloc_sharing_each.l1 5000 (b : Int) (B : Int) (C : Int) pool sum (rw_ C B h) m) c (itr (b * C + c) (fun i (a : Int × (Int → Int))=>(imax a.1 (h i),a.2)) a0).1 (rw_ C B (itr (b * C + c) (fun i (a : Int × (Int → Int))=>(imax a.1 (h i),a.2)) a0).2) = _
  refine bif_eq_t (decide_eq_true (by omega)) (gd_eq ⟨cnn c,ltl (rw_len C B h) (by omega)⟩ (gd_eq ⟨cnn b,ltl (rw_rlen (z:=h) (c:=c) (by omega)) hb⟩ (gd_eq ⟨cnn c,ltl (rw_len C B _) (by omega)⟩ (gd_eq (ltn (rw_len C B _) (by omega)) (gd_eq ⟨cnn b,ltl (rw_glen (c:=c) (by omega)) hb⟩ (bnd_eq (hcb c (by omega)) ?_))))))
  dsimp only
  rw [kwc (n:=C) (by omega) (by omega)]
  exact ih m (c + 1) (by omega) (by omega)
theorem sharing_each_l (h : Int → Int) (pool sum : Int) (C B : Nat) (hC : C = 1 ∨ C = 2) (hB : B ≤ 8) (a0 : Int × (Int → Int))
  (hcb : ∀ b c : Nat,b < B → c < C → alloc_sharing_cut_1 5000 (at' (row (rw_ C B h) c) b) b ((rw_ C B (itr (b * C + c) (fun i (a : Int × (Int → Int))=>(imax a.1 (h i),a.2)) a0).2).getD c []) pool (itr (b * C + c) (fun i (a : Int × (Int → Int))=>(imax a.1 (h i),a.2)) a0).1 sum (rw_ C B h) (rw_ C B (itr (b * C + c) (fun i (a : Int × (Int → Int))=>(imax a.1 (h i),a.2)) a0).2) c = some (((fun i (a : Int × (Int → Int))=>(imax a.1 (h i),a.2)) ((b * C + c : Nat) : Int) (itr (b * C + c) (fun i (a : Int × (Int → Int))=>(imax a.1 (h i),a.2)) a0)).1,rw_ C B ((fun i (a : Int × (Int → Int))=>(imax a.1 (h i),a.2)) ((b * C + c : Nat) : Int) (itr (b * C + c) (fun i (a : Int × (Int → Int))=>(imax a.1 (h i),a.2)) a0)).2)) (k : Nat) : ∀ (m b : Nat),k < m → b + k = B → alloc_sharing_each.l0 5000 (B : Int) pool sum (rw_ C B h) m b (itr (b * C) (fun i (a : Int × (Int → Int))=>(imax a.1 (h i),a.2)) a0).1 (rw_ C B (itr (b * C) (fun i (a : Int × (Int → Int))=>(imax a.1 (h i),a.2)) a0).2) = some ((itr (B * C) (fun i (a : Int × (Int → Int))=>(imax a.1 (h i),a.2)) a0).1,rw_ C B (itr (B * C) (fun i (a : Int × (Int → Int))=>(imax a.1 (h i),a.2)) a0).2):=by
 induction k with
 | zero =>
  intro m b hm hc
  obtain ⟨m,rfl⟩ : ∃ q,m = q + 1:=⟨m - 1,by omega⟩
  have hq : b = B:=by omega
  show alloc_sharing_each.r0 5000 (B : Int) pool sum (rw_ C B h) (alloc_sharing_each.l0 5000 (B : Int) pool sum (rw_ C B h) m) b (itr (b * C) (fun i (a : Int × (Int → Int))=>(imax a.1 (h i),a.2)) a0).1 (rw_ C B (itr (b * C) (fun i (a : Int × (Int → Int))=>(imax a.1 (h i),a.2)) a0).2) = _
  refine bif_eq_f (decide_eq_false (by omega)) ?_
  rw [hq]
 | succ k ih =>
  intro m b hm hc
  obtain ⟨m,rfl⟩ : ∃ q,m = q + 1:=⟨m - 1,by omega⟩
  show alloc_sharing_each.r0 5000 (B : Int) pool sum (rw_ C B h) (alloc_sharing_each.l0 5000 (B : Int) pool sum (rw_ C B h) m) b (itr (b * C) (fun i (a : Int × (Int → Int))=>(imax a.1 (h i),a.2)) a0).1 (rw_ C B (itr (b * C) (fun i (a : Int × (Int → Int))=>(imax a.1 (h i),a.2)) a0).2) = _
  have hin:=sharing_each_in h pool sum C B hC b (by omega) a0 (fun c hc=>hcb b c (by omega) hc) C 5000 0 (by omega) (by omega)
  rw [show ((C : Nat) : Int) = (((rw_ C B h).length : Nat) : Int) by rw [rw_len]] at hin
  refine bif_eq_t (decide_eq_true (by omega)) (bnd_eq hin ?_)
  dsimp only
  rw [kwc (n:=B) (by omega) (by omega)]
  have:=ih m (b + 1) (by omega) (by omega)
  rw [show (b + 1) * C = b * C + C by rw [Nat.add_mul,Nat.one_mul]] at this
  exact this
theorem sharing_each_2_in (h : Int → Int) (pool s sum : Int) (C B : Nat) (hC : C = 1 ∨ C = 2) (b : Nat) (hb : b < B) (a0 : Int × (Int → Int))
  (hcb : ∀ c : Nat,c < C → alloc_sharing_costs_1 5000 (at' (row (rw_ C B h) c) b) b ((rw_ C B (itr (b * C + c) (fun i (a : Int × (Int → Int))=>(a.1 + wt (h i - s),a.2)) a0).2).getD c []) (itr (b * C + c) (fun i (a : Int × (Int → Int))=>(a.1 + wt (h i - s),a.2)) a0).1 pool s sum (rw_ C B h) (rw_ C B (itr (b * C + c) (fun i (a : Int × (Int → Int))=>(a.1 + wt (h i - s),a.2)) a0).2) c = some (((fun i (a : Int × (Int → Int))=>(a.1 + wt (h i - s),a.2)) ((b * C + c : Nat) : Int) (itr (b * C + c) (fun i (a : Int × (Int → Int))=>(a.1 + wt (h i - s),a.2)) a0)).1,rw_ C B ((fun i (a : Int × (Int → Int))=>(a.1 + wt (h i - s),a.2)) ((b * C + c : Nat) : Int) (itr (b * C + c) (fun i (a : Int × (Int → Int))=>(a.1 + wt (h i - s),a.2)) a0)).2)) (k : Nat) : ∀ (m c : Nat),k < m → c + k = C → alloc_sharing_each_2.l1 5000 (b : Int) (B : Int) (C : Int) pool s sum (rw_ C B h) m c (itr (b * C + c) (fun i (a : Int × (Int → Int))=>(a.1 + wt (h i - s),a.2)) a0).1 (rw_ C B (itr (b * C + c) (fun i (a : Int × (Int → Int))=>(a.1 + wt (h i - s),a.2)) a0).2) = some ((itr (b * C + C) (fun i (a : Int × (Int → Int))=>(a.1 + wt (h i - s),a.2)) a0).1,rw_ C B (itr (b * C + C) (fun i (a : Int × (Int → Int))=>(a.1 + wt (h i - s),a.2)) a0).2):=by
 induction k with
 | zero =>
  intro m c hm hc
  obtain ⟨m,rfl⟩ : ∃ q,m = q + 1:=⟨m - 1,by omega⟩
  have hq : c = C:=by omega
  show alloc_sharing_each_2.r1 5000 (b : Int) (B : Int) (C : Int) pool s sum (rw_ C B h) (alloc_sharing_each_2.l1 5000 (b : Int) (B : Int) (C : Int) pool s sum (rw_ C B h) m) c (itr (b * C + c) (fun i (a : Int × (Int → Int))=>(a.1 + wt (h i - s),a.2)) a0).1 (rw_ C B (itr (b * C + c) (fun i (a : Int × (Int → Int))=>(a.1 + wt (h i - s),a.2)) a0).2) = _
  refine bif_eq_f (decide_eq_false (by omega)) ?_
  rw [hq]
 | succ k ih =>
  intro m c hm hc
  obtain ⟨m,rfl⟩ : ∃ q,m = q + 1:=⟨m - 1,by omega⟩
  show alloc_sharing_each_2.r1 5000 (b : Int) (B : Int) (C : Int) pool s sum (rw_ C B h) (alloc_sharing_each_2.l1 5000 (b : Int) (B : Int) (C : Int) pool s sum (rw_ C B h) m) c (itr (b * C + c) (fun i (a : Int × (Int → Int))=>(a.1 + wt (h i - s),a.2)) a0).1 (rw_ C B (itr (b * C + c) (fun i (a : Int × (Int → Int))=>(a.1 + wt (h i - s),a.2)) a0).2) = _
  refine bif_eq_t (decide_eq_true (by omega)) (gd_eq ⟨cnn c,ltl (rw_len C B h) (by omega)⟩ (gd_eq ⟨cnn b,ltl (rw_rlen (z:=h) (c:=c) (by omega)) hb⟩ (gd_eq ⟨cnn c,ltl (rw_len C B _) (by omega)⟩ (gd_eq (ltn (rw_len C B _) (by omega)) (gd_eq ⟨cnn b,ltl (rw_glen (c:=c) (by omega)) hb⟩ (bnd_eq (hcb c (by omega)) ?_))))))
  dsimp only
  rw [kwc (n:=C) (by omega) (by omega)]
  exact ih m (c + 1) (by omega) (by omega)
theorem sharing_each_2_l (h : Int → Int) (pool s sum : Int) (C B : Nat) (hC : C = 1 ∨ C = 2) (hB : B ≤ 8) (a0 : Int × (Int → Int))
  (hcb : ∀ b c : Nat,b < B → c < C → alloc_sharing_costs_1 5000 (at' (row (rw_ C B h) c) b) b ((rw_ C B (itr (b * C + c) (fun i (a : Int × (Int → Int))=>(a.1 + wt (h i - s),a.2)) a0).2).getD c []) (itr (b * C + c) (fun i (a : Int × (Int → Int))=>(a.1 + wt (h i - s),a.2)) a0).1 pool s sum (rw_ C B h) (rw_ C B (itr (b * C + c) (fun i (a : Int × (Int → Int))=>(a.1 + wt (h i - s),a.2)) a0).2) c = some (((fun i (a : Int × (Int → Int))=>(a.1 + wt (h i - s),a.2)) ((b * C + c : Nat) : Int) (itr (b * C + c) (fun i (a : Int × (Int → Int))=>(a.1 + wt (h i - s),a.2)) a0)).1,rw_ C B ((fun i (a : Int × (Int → Int))=>(a.1 + wt (h i - s),a.2)) ((b * C + c : Nat) : Int) (itr (b * C + c) (fun i (a : Int × (Int → Int))=>(a.1 + wt (h i - s),a.2)) a0)).2)) (k : Nat) : ∀ (m b : Nat),k < m → b + k = B → alloc_sharing_each_2.l0 5000 (B : Int) pool s sum (rw_ C B h) m b (itr (b * C) (fun i (a : Int × (Int → Int))=>(a.1 + wt (h i - s),a.2)) a0).1 (rw_ C B (itr (b * C) (fun i (a : Int × (Int → Int))=>(a.1 + wt (h i - s),a.2)) a0).2) = some ((itr (B * C) (fun i (a : Int × (Int → Int))=>(a.1 + wt (h i - s),a.2)) a0).1,rw_ C B (itr (B * C) (fun i (a : Int × (Int → Int))=>(a.1 + wt (h i - s),a.2)) a0).2):=by
 induction k with
 | zero =>
  intro m b hm hc
  obtain ⟨m,rfl⟩ : ∃ q,m = q + 1:=⟨m - 1,by omega⟩
  have hq : b = B:=by omega
  show alloc_sharing_each_2.r0 5000 (B : Int) pool s sum (rw_ C B h) (alloc_sharing_each_2.l0 5000 (B : Int) pool s sum (rw_ C B h) m) b (itr (b * C) (fun i (a : Int × (Int → Int))=>(a.1 + wt (h i - s),a.2)) a0).1 (rw_ C B (itr (b * C) (fun i (a : Int × (Int → Int))=>(a.1 + wt (h i - s),a.2)) a0).2) = _
  refine bif_eq_f (decide_eq_false (by omega)) ?_
  rw [hq]
 | succ k ih =>
  intro m b hm hc
  obtain ⟨m,rfl⟩ : ∃ q,m = q + 1:=⟨m - 1,by omega⟩
  show alloc_sharing_each_2.r0 5000 (B : Int) pool s sum (rw_ C B h) (alloc_sharing_each_2.l0 5000 (B : Int) pool s sum (rw_ C B h) m) b (itr (b * C) (fun i (a : Int × (Int → Int))=>(a.1 + wt (h i - s),a.2)) a0).1 (rw_ C B (itr (b * C) (fun i (a : Int × (Int → Int))=>(a.1 + wt (h i - s),a.2)) a0).2) = _
  have hin:=sharing_each_2_in h pool s sum C B hC b (by omega) a0 (fun c hc=>hcb b c (by omega) hc) C 5000 0 (by omega) (by omega)
  rw [show ((C : Nat) : Int) = (((rw_ C B h).length : Nat) : Int) by rw [rw_len]] at hin
  refine bif_eq_t (decide_eq_true (by omega)) (bnd_eq hin ?_)
  dsimp only
  rw [kwc (n:=B) (by omega) (by omega)]
  have:=ih m (b + 1) (by omega) (by omega)
  rw [show (b + 1) * C = b * C + C by rw [Nat.add_mul,Nat.one_mul]] at this
  exact this
theorem sharing_each_3_in (h : Int → Int) (pool s sum : Int) (C B : Nat) (hC : C = 1 ∨ C = 2) (b : Nat) (hb : b < B) (a0 : Int × (Int → Int))
  (hcb : ∀ c : Nat,c < C → alloc_Share_1 5000 (at' (row (rw_ C B h) c) b) b ((rw_ C B (itr (b * C + c) (fun i (a : Int × (Int → Int))=>(a.1,if h i ≥ s + 2 then upd a.2 i (imin (h i - s) 16) else a.2)) a0).2).getD c []) pool s sum (rw_ C B h) (rw_ C B (itr (b * C + c) (fun i (a : Int × (Int → Int))=>(a.1,if h i ≥ s + 2 then upd a.2 i (imin (h i - s) 16) else a.2)) a0).2) c = some (rw_ C B ((fun i (a : Int × (Int → Int))=>(a.1,if h i ≥ s + 2 then upd a.2 i (imin (h i - s) 16) else a.2)) ((b * C + c : Nat) : Int) (itr (b * C + c) (fun i (a : Int × (Int → Int))=>(a.1,if h i ≥ s + 2 then upd a.2 i (imin (h i - s) 16) else a.2)) a0)).2)) (k : Nat) : ∀ (m c : Nat),k < m → c + k = C → alloc_sharing_each_3.l1 5000 (b : Int) (B : Int) (C : Int) pool s sum (rw_ C B h) m c (rw_ C B (itr (b * C + c) (fun i (a : Int × (Int → Int))=>(a.1,if h i ≥ s + 2 then upd a.2 i (imin (h i - s) 16) else a.2)) a0).2) = some (rw_ C B (itr (b * C + C) (fun i (a : Int × (Int → Int))=>(a.1,if h i ≥ s + 2 then upd a.2 i (imin (h i - s) 16) else a.2)) a0).2):=by
 induction k with
 | zero =>
  intro m c hm hc
  obtain ⟨m,rfl⟩ : ∃ q,m = q + 1:=⟨m - 1,by omega⟩
  have hq : c = C:=by omega
  show alloc_sharing_each_3.r1 5000 (b : Int) (B : Int) (C : Int) pool s sum (rw_ C B h) (alloc_sharing_each_3.l1 5000 (b : Int) (B : Int) (C : Int) pool s sum (rw_ C B h) m) c (rw_ C B (itr (b * C + c) (fun i (a : Int × (Int → Int))=>(a.1,if h i ≥ s + 2 then upd a.2 i (imin (h i - s) 16) else a.2)) a0).2) = _
  refine bif_eq_f (decide_eq_false (by omega)) ?_
  rw [hq]
 | succ k ih =>
  intro m c hm hc
  obtain ⟨m,rfl⟩ : ∃ q,m = q + 1:=⟨m - 1,by omega⟩
  show alloc_sharing_each_3.r1 5000 (b : Int) (B : Int) (C : Int) pool s sum (rw_ C B h) (alloc_sharing_each_3.l1 5000 (b : Int) (B : Int) (C : Int) pool s sum (rw_ C B h) m) c (rw_ C B (itr (b * C + c) (fun i (a : Int × (Int → Int))=>(a.1,if h i ≥ s + 2 then upd a.2 i (imin (h i - s) 16) else a.2)) a0).2) = _
  refine bif_eq_t (decide_eq_true (by omega)) (gd_eq ⟨cnn c,ltl (rw_len C B h) (by omega)⟩ (gd_eq ⟨cnn b,ltl (rw_rlen (z:=h) (c:=c) (by omega)) hb⟩ (gd_eq ⟨cnn c,ltl (rw_len C B _) (by omega)⟩ (gd_eq (ltn (rw_len C B _) (by omega)) (gd_eq ⟨cnn b,ltl (rw_glen (c:=c) (by omega)) hb⟩ (bnd_eq (hcb c (by omega)) ?_))))))
  dsimp only
  rw [kwc (n:=C) (by omega) (by omega)]
  exact ih m (c + 1) (by omega) (by omega)
theorem sharing_each_3_l (h : Int → Int) (pool s sum : Int) (C B : Nat) (hC : C = 1 ∨ C = 2) (hB : B ≤ 8) (a0 : Int × (Int → Int))
  (hcb : ∀ b c : Nat,b < B → c < C → alloc_Share_1 5000 (at' (row (rw_ C B h) c) b) b ((rw_ C B (itr (b * C + c) (fun i (a : Int × (Int → Int))=>(a.1,if h i ≥ s + 2 then upd a.2 i (imin (h i - s) 16) else a.2)) a0).2).getD c []) pool s sum (rw_ C B h) (rw_ C B (itr (b * C + c) (fun i (a : Int × (Int → Int))=>(a.1,if h i ≥ s + 2 then upd a.2 i (imin (h i - s) 16) else a.2)) a0).2) c = some (rw_ C B ((fun i (a : Int × (Int → Int))=>(a.1,if h i ≥ s + 2 then upd a.2 i (imin (h i - s) 16) else a.2)) ((b * C + c : Nat) : Int) (itr (b * C + c) (fun i (a : Int × (Int → Int))=>(a.1,if h i ≥ s + 2 then upd a.2 i (imin (h i - s) 16) else a.2)) a0)).2)) (k : Nat) : ∀ (m b : Nat),k < m → b + k = B → alloc_sharing_each_3.l0 5000 (B : Int) pool s sum (rw_ C B h) m b (rw_ C B (itr (b * C) (fun i (a : Int × (Int → Int))=>(a.1,if h i ≥ s + 2 then upd a.2 i (imin (h i - s) 16) else a.2)) a0).2) = some (rw_ C B (itr (B * C) (fun i (a : Int × (Int → Int))=>(a.1,if h i ≥ s + 2 then upd a.2 i (imin (h i - s) 16) else a.2)) a0).2):=by
 induction k with
 | zero =>
  intro m b hm hc
  obtain ⟨m,rfl⟩ : ∃ q,m = q + 1:=⟨m - 1,by omega⟩
  have hq : b = B:=by omega
  show alloc_sharing_each_3.r0 5000 (B : Int) pool s sum (rw_ C B h) (alloc_sharing_each_3.l0 5000 (B : Int) pool s sum (rw_ C B h) m) b (rw_ C B (itr (b * C) (fun i (a : Int × (Int → Int))=>(a.1,if h i ≥ s + 2 then upd a.2 i (imin (h i - s) 16) else a.2)) a0).2) = _
  refine bif_eq_f (decide_eq_false (by omega)) ?_
  rw [hq]
 | succ k ih =>
  intro m b hm hc
  obtain ⟨m,rfl⟩ : ∃ q,m = q + 1:=⟨m - 1,by omega⟩
  show alloc_sharing_each_3.r0 5000 (B : Int) pool s sum (rw_ C B h) (alloc_sharing_each_3.l0 5000 (B : Int) pool s sum (rw_ C B h) m) b (rw_ C B (itr (b * C) (fun i (a : Int × (Int → Int))=>(a.1,if h i ≥ s + 2 then upd a.2 i (imin (h i - s) 16) else a.2)) a0).2) = _
  have hin:=sharing_each_3_in h pool s sum C B hC b (by omega) a0 (fun c hc=>hcb b c (by omega) hc) C 5000 0 (by omega) (by omega)
  rw [show ((C : Nat) : Int) = (((rw_ C B h).length : Nat) : Int) by rw [rw_len]] at hin
  refine bif_eq_t (decide_eq_true (by omega)) (bnd_eq hin ?_)
  dsimp only
  rw [kwc (n:=B) (by omega) (by omega)]
  have:=ih m (b + 1) (by omega) (by omega)
  rw [show (b + 1) * C = b * C + C by rw [Nat.add_mul,Nat.one_mul]] at this
  exact this
end Go.Fo
