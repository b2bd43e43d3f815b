/- The loops over all bands. -/
import Derived.Test.YtiihmaaobmpababGreatSaAl
namespace Go.Fo
set_option maxRecDepth 6000
theorem WM (h:Int->Int) (pool sum:Int) (C B:Nat) (hC:C=1\/C=2) (b:Nat) (hb:b<B) (a0:Int × (Int->Int))
  (hcb:∀ c:Nat,c<C->qY 5000 (at' (row (rw_ C B h) c) b) b ((rw_ C B (itr (b*C+c) (fun i (a:Int × (Int->Int))=>(imax a.1 (h i),a.2)) a0).2).getD c []) pool (itr (b*C+c) (fun i (a:Int × (Int->Int))=>(imax a.1 (h i),a.2)) a0).1 sum (rw_ C B h) (rw_ C B (itr (b*C+c) (fun i (a:Int × (Int->Int))=>(imax a.1 (h i),a.2)) a0).2) c=some (((fun i (a:Int × (Int->Int))=>(imax a.1 (h i),a.2)) ((b*C+c:Nat):Int) (itr (b*C+c) (fun i (a:Int × (Int->Int))=>(imax a.1 (h i),a.2)) a0)).1,rw_ C B ((fun i (a:Int × (Int->Int))=>(imax a.1 (h i),a.2)) ((b*C+c:Nat):Int) (itr (b*C+c) (fun i (a:Int × (Int->Int))=>(imax a.1 (h i),a.2)) a0)).2)) (k:Nat):∀ (m c:Nat),k<m->c+k=C->wF.l1 5000 (b:Int) (B:Int) (C:Int) pool sum (rw_ C B h) m c (itr (b*C+c) (fun i (a:Int × (Int->Int))=>(imax a.1 (h i),a.2)) a0).1 (rw_ C B (itr (b*C+c) (fun i (a:Int × (Int->Int))=>(imax a.1 (h i),a.2)) a0).2)=some ((itr (b*C+C) (fun i (a:Int × (Int->Int))=>(imax a.1 (h i),a.2)) a0).1,rw_ C B (itr (b*C+C) (fun i (a:Int × (Int->Int))=>(imax a.1 (h i),a.2)) a0).2):=by
 induction k with
 | zero =>
  intro m c hm hc
  obtain ⟨m,rfl⟩:∃ q,m=q+1:=⟨m-1,by omega⟩
  have hq:c=C:=by omega
  show wF.r1 5000 (b:Int) (B:Int) (C:Int) pool sum (rw_ C B h) (wF.l1 5000 (b:Int) (B:Int) (C:Int) pool sum (rw_ C B h) m) c (itr (b*C+c) (fun i (a:Int × (Int->Int))=>(imax a.1 (h i),a.2)) a0).1 (rw_ C B (itr (b*C+c) (fun i (a:Int × (Int->Int))=>(imax a.1 (h i),a.2)) a0).2)=_
  refine wM (decide_eq_false (by omega)) ?_
  rw [hq]
 | succ k ih =>
  intro m c hm hc
  obtain ⟨m,rfl⟩:∃ q,m=q+1:=⟨m-1,by omega⟩
  show wF.r1 5000 (b:Int) (B:Int) (C:Int) pool sum (rw_ C B h) (wF.l1 5000 (b:Int) (B:Int) (C:Int) pool sum (rw_ C B h) m) c (itr (b*C+c) (fun i (a:Int × (Int->Int))=>(imax a.1 (h i),a.2)) a0).1 (rw_ C B (itr (b*C+c) (fun i (a:Int × (Int->Int))=>(imax a.1 (h i),a.2)) a0).2)=_
  refine wQ (decide_eq_true (by omega)) (qi ⟨cnn c,ltl (jn C B h) (by omega)⟩ (qi ⟨cnn b,ltl (yI (z:=h) (c:=c) (by omega)) hb⟩ (qi ⟨cnn c,ltl (jn C B _) (by omega)⟩ (qi (ltn (jn C B _) (by omega)) (qi ⟨cnn b,ltl (vv (c:=c) (by omega)) hb⟩ (wJ (hcb c (by omega)) ?_))))))
  dsimp only
  rw [kwc (n:=C) (by omega) (by omega)]
  exact ih m (c+1) (by omega) (by omega)
theorem Zs (h:Int->Int) (pool sum:Int) (C B:Nat) (hC:C=1\/C=2) (hB:B<=8) (a0:Int × (Int->Int))
  (hcb:∀ b c:Nat,b<B->c<C->qY 5000 (at' (row (rw_ C B h) c) b) b ((rw_ C B (itr (b*C+c) (fun i (a:Int × (Int->Int))=>(imax a.1 (h i),a.2)) a0).2).getD c []) pool (itr (b*C+c) (fun i (a:Int × (Int->Int))=>(imax a.1 (h i),a.2)) a0).1 sum (rw_ C B h) (rw_ C B (itr (b*C+c) (fun i (a:Int × (Int->Int))=>(imax a.1 (h i),a.2)) a0).2) c=some (((fun i (a:Int × (Int->Int))=>(imax a.1 (h i),a.2)) ((b*C+c:Nat):Int) (itr (b*C+c) (fun i (a:Int × (Int->Int))=>(imax a.1 (h i),a.2)) a0)).1,rw_ C B ((fun i (a:Int × (Int->Int))=>(imax a.1 (h i),a.2)) ((b*C+c:Nat):Int) (itr (b*C+c) (fun i (a:Int × (Int->Int))=>(imax a.1 (h i),a.2)) a0)).2)) (k:Nat):∀ (m b:Nat),k<m->b+k=B->wF.l0 5000 (B:Int) pool sum (rw_ C B h) m b (itr (b*C) (fun i (a:Int × (Int->Int))=>(imax a.1 (h i),a.2)) a0).1 (rw_ C B (itr (b*C) (fun i (a:Int × (Int->Int))=>(imax a.1 (h i),a.2)) a0).2)=some ((itr (B*C) (fun i (a:Int × (Int->Int))=>(imax a.1 (h i),a.2)) a0).1,rw_ C B (itr (B*C) (fun i (a:Int × (Int->Int))=>(imax a.1 (h i),a.2)) a0).2):=by
 induction k with
 | zero =>
  intro m b hm hc
  obtain ⟨m,rfl⟩:∃ q,m=q+1:=⟨m-1,by omega⟩
  have hq:b=B:=by omega
  show wF.r0 5000 (B:Int) pool sum (rw_ C B h) (wF.l0 5000 (B:Int) pool sum (rw_ C B h) m) b (itr (b*C) (fun i (a:Int × (Int->Int))=>(imax a.1 (h i),a.2)) a0).1 (rw_ C B (itr (b*C) (fun i (a:Int × (Int->Int))=>(imax a.1 (h i),a.2)) a0).2)=_
  refine wM (decide_eq_false (by omega)) ?_
  rw [hq]
 | succ k ih =>
  intro m b hm hc
  obtain ⟨m,rfl⟩:∃ q,m=q+1:=⟨m-1,by omega⟩
  show wF.r0 5000 (B:Int) pool sum (rw_ C B h) (wF.l0 5000 (B:Int) pool sum (rw_ C B h) m) b (itr (b*C) (fun i (a:Int × (Int->Int))=>(imax a.1 (h i),a.2)) a0).1 (rw_ C B (itr (b*C) (fun i (a:Int × (Int->Int))=>(imax a.1 (h i),a.2)) a0).2)=_
  have hin:=WM h pool sum C B hC b (by omega) a0 (fun c hc=>hcb b c (by omega) hc) C 5000 0 (by omega) (by omega)
  rw [show ((C:Nat):Int)=(((rw_ C B h).length:Nat):Int) by rw [jn]] at hin
  refine wQ (decide_eq_true (by omega)) (wJ hin ?_)
  dsimp only
  rw [kwc (n:=B) (by omega) (by omega)]
  have:=ih m (b+1) (by omega) (by omega)
  rw [show (b+1)*C=b*C+C by rw [Nat.add_mul,Nat.one_mul]] at this
  exact this
theorem Wp (h:Int->Int) (pool s sum:Int) (C B:Nat) (hC:C=1\/C=2) (b:Nat) (hb:b<B) (a0:Int × (Int->Int))
  (hcb:∀ c:Nat,c<C->qr 5000 (at' (row (rw_ C B h) c) b) b ((rw_ C B (itr (b*C+c) (fun i (a:Int × (Int->Int))=>(a.1+wt (h i-s),a.2)) a0).2).getD c []) (itr (b*C+c) (fun i (a:Int × (Int->Int))=>(a.1+wt (h i-s),a.2)) a0).1 pool s sum (rw_ C B h) (rw_ C B (itr (b*C+c) (fun i (a:Int × (Int->Int))=>(a.1+wt (h i-s),a.2)) a0).2) c=some (((fun i (a:Int × (Int->Int))=>(a.1+wt (h i-s),a.2)) ((b*C+c:Nat):Int) (itr (b*C+c) (fun i (a:Int × (Int->Int))=>(a.1+wt (h i-s),a.2)) a0)).1,rw_ C B ((fun i (a:Int × (Int->Int))=>(a.1+wt (h i-s),a.2)) ((b*C+c:Nat):Int) (itr (b*C+c) (fun i (a:Int × (Int->Int))=>(a.1+wt (h i-s),a.2)) a0)).2)) (k:Nat):∀ (m c:Nat),k<m->c+k=C->wD.l1 5000 (b:Int) (B:Int) (C:Int) pool s sum (rw_ C B h) m c (itr (b*C+c) (fun i (a:Int × (Int->Int))=>(a.1+wt (h i-s),a.2)) a0).1 (rw_ C B (itr (b*C+c) (fun i (a:Int × (Int->Int))=>(a.1+wt (h i-s),a.2)) a0).2)=some ((itr (b*C+C) (fun i (a:Int × (Int->Int))=>(a.1+wt (h i-s),a.2)) a0).1,rw_ C B (itr (b*C+C) (fun i (a:Int × (Int->Int))=>(a.1+wt (h i-s),a.2)) a0).2):=by
 induction k with
 | zero =>
  intro m c hm hc
  obtain ⟨m,rfl⟩:∃ q,m=q+1:=⟨m-1,by omega⟩
  have hq:c=C:=by omega
  show wD.r1 5000 (b:Int) (B:Int) (C:Int) pool s sum (rw_ C B h) (wD.l1 5000 (b:Int) (B:Int) (C:Int) pool s sum (rw_ C B h) m) c (itr (b*C+c) (fun i (a:Int × (Int->Int))=>(a.1+wt (h i-s),a.2)) a0).1 (rw_ C B (itr (b*C+c) (fun i (a:Int × (Int->Int))=>(a.1+wt (h i-s),a.2)) a0).2)=_
  refine wM (decide_eq_false (by omega)) ?_
  rw [hq]
 | succ k ih =>
  intro m c hm hc
  obtain ⟨m,rfl⟩:∃ q,m=q+1:=⟨m-1,by omega⟩
  show wD.r1 5000 (b:Int) (B:Int) (C:Int) pool s sum (rw_ C B h) (wD.l1 5000 (b:Int) (B:Int) (C:Int) pool s sum (rw_ C B h) m) c (itr (b*C+c) (fun i (a:Int × (Int->Int))=>(a.1+wt (h i-s),a.2)) a0).1 (rw_ C B (itr (b*C+c) (fun i (a:Int × (Int->Int))=>(a.1+wt (h i-s),a.2)) a0).2)=_
  refine wQ (decide_eq_true (by omega)) (qi ⟨cnn c,ltl (jn C B h) (by omega)⟩ (qi ⟨cnn b,ltl (yI (z:=h) (c:=c) (by omega)) hb⟩ (qi ⟨cnn c,ltl (jn C B _) (by omega)⟩ (qi (ltn (jn C B _) (by omega)) (qi ⟨cnn b,ltl (vv (c:=c) (by omega)) hb⟩ (wJ (hcb c (by omega)) ?_))))))
  dsimp only
  rw [kwc (n:=C) (by omega) (by omega)]
  exact ih m (c+1) (by omega) (by omega)
theorem WB (h:Int->Int) (pool s sum:Int) (C B:Nat) (hC:C=1\/C=2) (hB:B<=8) (a0:Int × (Int->Int))
  (hcb:∀ b c:Nat,b<B->c<C->qr 5000 (at' (row (rw_ C B h) c) b) b ((rw_ C B (itr (b*C+c) (fun i (a:Int × (Int->Int))=>(a.1+wt (h i-s),a.2)) a0).2).getD c []) (itr (b*C+c) (fun i (a:Int × (Int->Int))=>(a.1+wt (h i-s),a.2)) a0).1 pool s sum (rw_ C B h) (rw_ C B (itr (b*C+c) (fun i (a:Int × (Int->Int))=>(a.1+wt (h i-s),a.2)) a0).2) c=some (((fun i (a:Int × (Int->Int))=>(a.1+wt (h i-s),a.2)) ((b*C+c:Nat):Int) (itr (b*C+c) (fun i (a:Int × (Int->Int))=>(a.1+wt (h i-s),a.2)) a0)).1,rw_ C B ((fun i (a:Int × (Int->Int))=>(a.1+wt (h i-s),a.2)) ((b*C+c:Nat):Int) (itr (b*C+c) (fun i (a:Int × (Int->Int))=>(a.1+wt (h i-s),a.2)) a0)).2)) (k:Nat):∀ (m b:Nat),k<m->b+k=B->wD.l0 5000 (B:Int) pool s sum (rw_ C B h) m b (itr (b*C) (fun i (a:Int × (Int->Int))=>(a.1+wt (h i-s),a.2)) a0).1 (rw_ C B (itr (b*C) (fun i (a:Int × (Int->Int))=>(a.1+wt (h i-s),a.2)) a0).2)=some ((itr (B*C) (fun i (a:Int × (Int->Int))=>(a.1+wt (h i-s),a.2)) a0).1,rw_ C B (itr (B*C) (fun i (a:Int × (Int->Int))=>(a.1+wt (h i-s),a.2)) a0).2):=by
 induction k with
 | zero =>
  intro m b hm hc
  obtain ⟨m,rfl⟩:∃ q,m=q+1:=⟨m-1,by omega⟩
  have hq:b=B:=by omega
  show wD.r0 5000 (B:Int) pool s sum (rw_ C B h) (wD.l0 5000 (B:Int) pool s sum (rw_ C B h) m) b (itr (b*C) (fun i (a:Int × (Int->Int))=>(a.1+wt (h i-s),a.2)) a0).1 (rw_ C B (itr (b*C) (fun i (a:Int × (Int->Int))=>(a.1+wt (h i-s),a.2)) a0).2)=_
  refine wM (decide_eq_false (by omega)) ?_
  rw [hq]
 | succ k ih =>
  intro m b hm hc
  obtain ⟨m,rfl⟩:∃ q,m=q+1:=⟨m-1,by omega⟩
  show wD.r0 5000 (B:Int) pool s sum (rw_ C B h) (wD.l0 5000 (B:Int) pool s sum (rw_ C B h) m) b (itr (b*C) (fun i (a:Int × (Int->Int))=>(a.1+wt (h i-s),a.2)) a0).1 (rw_ C B (itr (b*C) (fun i (a:Int × (Int->Int))=>(a.1+wt (h i-s),a.2)) a0).2)=_
  have hin:=Wp h pool s sum C B hC b (by omega) a0 (fun c hc=>hcb b c (by omega) hc) C 5000 0 (by omega) (by omega)
  rw [show ((C:Nat):Int)=(((rw_ C B h).length:Nat):Int) by rw [jn]] at hin
  refine wQ (decide_eq_true (by omega)) (wJ hin ?_)
  dsimp only
  rw [kwc (n:=B) (by omega) (by omega)]
  have:=ih m (b+1) (by omega) (by omega)
  rw [show (b+1)*C=b*C+C by rw [Nat.add_mul,Nat.one_mul]] at this
  exact this
theorem Wh (h:Int->Int) (pool s sum:Int) (C B:Nat) (hC:C=1\/C=2) (b:Nat) (hb:b<B) (a0:Int × (Int->Int))
  (hcb:∀ c:Nat,c<C->kS 5000 (at' (row (rw_ C B h) c) b) b ((rw_ C B (itr (b*C+c) (fun i (a:Int × (Int->Int))=>(a.1,if h i>=s+2 then upd a.2 i (imin (h i-s) 16) else a.2)) a0).2).getD c []) pool s sum (rw_ C B h) (rw_ C B (itr (b*C+c) (fun i (a:Int × (Int->Int))=>(a.1,if h i>=s+2 then upd a.2 i (imin (h i-s) 16) else a.2)) a0).2) c=some (rw_ C B ((fun i (a:Int × (Int->Int))=>(a.1,if h i>=s+2 then upd a.2 i (imin (h i-s) 16) else a.2)) ((b*C+c:Nat):Int) (itr (b*C+c) (fun i (a:Int × (Int->Int))=>(a.1,if h i>=s+2 then upd a.2 i (imin (h i-s) 16) else a.2)) a0)).2)) (k:Nat):∀ (m c:Nat),k<m->c+k=C->wC.l1 5000 (b:Int) (B:Int) (C:Int) pool s sum (rw_ C B h) m c (rw_ C B (itr (b*C+c) (fun i (a:Int × (Int->Int))=>(a.1,if h i>=s+2 then upd a.2 i (imin (h i-s) 16) else a.2)) a0).2)=some (rw_ C B (itr (b*C+C) (fun i (a:Int × (Int->Int))=>(a.1,if h i>=s+2 then upd a.2 i (imin (h i-s) 16) else a.2)) a0).2):=by
 induction k with
 | zero =>
  intro m c hm hc
  obtain ⟨m,rfl⟩:∃ q,m=q+1:=⟨m-1,by omega⟩
  have hq:c=C:=by omega
  show wC.r1 5000 (b:Int) (B:Int) (C:Int) pool s sum (rw_ C B h) (wC.l1 5000 (b:Int) (B:Int) (C:Int) pool s sum (rw_ C B h) m) c (rw_ C B (itr (b*C+c) (fun i (a:Int × (Int->Int))=>(a.1,if h i>=s+2 then upd a.2 i (imin (h i-s) 16) else a.2)) a0).2)=_
  refine wM (decide_eq_false (by omega)) ?_
  rw [hq]
 | succ k ih =>
  intro m c hm hc
  obtain ⟨m,rfl⟩:∃ q,m=q+1:=⟨m-1,by omega⟩
  show wC.r1 5000 (b:Int) (B:Int) (C:Int) pool s sum (rw_ C B h) (wC.l1 5000 (b:Int) (B:Int) (C:Int) pool s sum (rw_ C B h) m) c (rw_ C B (itr (b*C+c) (fun i (a:Int × (Int->Int))=>(a.1,if h i>=s+2 then upd a.2 i (imin (h i-s) 16) else a.2)) a0).2)=_
  refine wQ (decide_eq_true (by omega)) (qi ⟨cnn c,ltl (jn C B h) (by omega)⟩ (qi ⟨cnn b,ltl (yI (z:=h) (c:=c) (by omega)) hb⟩ (qi ⟨cnn c,ltl (jn C B _) (by omega)⟩ (qi (ltn (jn C B _) (by omega)) (qi ⟨cnn b,ltl (vv (c:=c) (by omega)) hb⟩ (wJ (hcb c (by omega)) ?_))))))
  dsimp only
  rw [kwc (n:=C) (by omega) (by omega)]
  exact ih m (c+1) (by omega) (by omega)
theorem Wx (h:Int->Int) (pool s sum:Int) (C B:Nat) (hC:C=1\/C=2) (hB:B<=8) (a0:Int × (Int->Int))
  (hcb:∀ b c:Nat,b<B->c<C->kS 5000 (at' (row (rw_ C B h) c) b) b ((rw_ C B (itr (b*C+c) (fun i (a:Int × (Int->Int))=>(a.1,if h i>=s+2 then upd a.2 i (imin (h i-s) 16) else a.2)) a0).2).getD c []) pool s sum (rw_ C B h) (rw_ C B (itr (b*C+c) (fun i (a:Int × (Int->Int))=>(a.1,if h i>=s+2 then upd a.2 i (imin (h i-s) 16) else a.2)) a0).2) c=some (rw_ C B ((fun i (a:Int × (Int->Int))=>(a.1,if h i>=s+2 then upd a.2 i (imin (h i-s) 16) else a.2)) ((b*C+c:Nat):Int) (itr (b*C+c) (fun i (a:Int × (Int->Int))=>(a.1,if h i>=s+2 then upd a.2 i (imin (h i-s) 16) else a.2)) a0)).2)) (k:Nat):∀ (m b:Nat),k<m->b+k=B->wC.l0 5000 (B:Int) pool s sum (rw_ C B h) m b (rw_ C B (itr (b*C) (fun i (a:Int × (Int->Int))=>(a.1,if h i>=s+2 then upd a.2 i (imin (h i-s) 16) else a.2)) a0).2)=some (rw_ C B (itr (B*C) (fun i (a:Int × (Int->Int))=>(a.1,if h i>=s+2 then upd a.2 i (imin (h i-s) 16) else a.2)) a0).2):=by
 induction k with
 | zero =>
  intro m b hm hc
  obtain ⟨m,rfl⟩:∃ q,m=q+1:=⟨m-1,by omega⟩
  have hq:b=B:=by omega
  show wC.r0 5000 (B:Int) pool s sum (rw_ C B h) (wC.l0 5000 (B:Int) pool s sum (rw_ C B h) m) b (rw_ C B (itr (b*C) (fun i (a:Int × (Int->Int))=>(a.1,if h i>=s+2 then upd a.2 i (imin (h i-s) 16) else a.2)) a0).2)=_
  refine wM (decide_eq_false (by omega)) ?_
  rw [hq]
 | succ k ih =>
  intro m b hm hc
  obtain ⟨m,rfl⟩:∃ q,m=q+1:=⟨m-1,by omega⟩
  show wC.r0 5000 (B:Int) pool s sum (rw_ C B h) (wC.l0 5000 (B:Int) pool s sum (rw_ C B h) m) b (rw_ C B (itr (b*C) (fun i (a:Int × (Int->Int))=>(a.1,if h i>=s+2 then upd a.2 i (imin (h i-s) 16) else a.2)) a0).2)=_
  have hin:=Wh h pool s sum C B hC b (by omega) a0 (fun c hc=>hcb b c (by omega) hc) C 5000 0 (by omega) (by omega)
  rw [show ((C:Nat):Int)=(((rw_ C B h).length:Nat):Int) by rw [jn]] at hin
  refine wQ (decide_eq_true (by omega)) (wJ hin ?_)
  dsimp only
  rw [kwc (n:=B) (by omega) (by omega)]
  have:=ih m (b+1) (by omega) (by omega)
  rw [show (b+1)*C=b*C+C by rw [Nat.add_mul,Nat.one_mul]] at this
  exact this
end Go.Fo
