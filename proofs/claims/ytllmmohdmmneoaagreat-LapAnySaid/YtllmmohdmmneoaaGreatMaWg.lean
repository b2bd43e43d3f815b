/- Lines and steps are put,exactly. -/
import Derived.Test.YtllmmohdmmneoaaGreatMaWf
namespace Go.Fo
set_option maxRecDepth 6000
theorem uZ {A:Li} (hA:A.length<=90000) {n:Int} (hn:n.natAbs<=32767) {s:CS} (h:Cok s) (hs:sz s+700<=89000):∃r,qX 100000 A n s.lo s.hi s.ow false s.B.length (pbl s.B)=some (r,0,rep (pal s (lsy (ctx A) n))):=by
 have hm14:imin (n.natAbs:Int) 14=((min n.natAbs 14:Nat):Int):=by unfold imin;split<;>omega
 have hlt:min n.natAbs 14<(tbl (ctx A)).length:=by rw[QS];omega
 obtain ⟨p1,p2,p3⟩:=Zn h (QL (ctx A)) hlt (by omega)
 have p4:=ZR h (QL (ctx A)) hlt (by omega)
 have hsz:=J6 (a:=n) (by omega) (by omega)
 have e0:lsy (ctx A) n=[(tbl (ctx A),min n.natAbs 14)]++((if 14<=n.natAbs then vsy (n.natAbs-13) else [])++(if n=0 then [] else [(evn,if n<0 then 1 else 0)])):=rfl
 rw[e0,W2,W2]
 have e1:pal s [(tbl (ctx A),min n.natAbs 14)]=s.put (tbl (ctx A)) (min n.natAbs 14):=Kf _ _
 rw[e1]
 generalize s.put (tbl (ctx A)) (min n.natAbs 14)=s1 at *
 have hm_len:(if 14<=n.natAbs then vsy (n.natAbs-13) else ([]:List Sym)).length<=29:=by
  split
  ·rw[Yz];have:=QX (v:=n.natAbs-13) (by omega) (by omega);omega
  ·exact Nat.zero_le _
 have hm_ok:=JY (s:=s1) (hJ n) p2 (by omega)
 have hb2:14<=n.natAbs->wt 100000 ((n.natAbs-13:Nat):Int) s1.lo s1.hi s1.ow false s1.B.length (pbl s1.B)=some (((n.natAbs-13:Nat):Int),0,rep (pal s1 (if 14<=n.natAbs then vsy (n.natAbs-13) else []))):=fun c=>by
  rw[if_pos c];exact YL (by omega) (by omega) p2 (by omega)
 have hb3:¬14<=n.natAbs->s1=pal s1 (if 14<=n.natAbs then vsy (n.natAbs-13) else []):=fun c=>by rw[if_neg c];rfl
 generalize pal s1 (if 14<=n.natAbs then vsy (n.natAbs-13) else [])=s2 at *
 obtain ⟨lo1,hi1,ow1,B1⟩:=s1
 obtain ⟨lo2,hi2,ow2,B2⟩:=s2
 refine ⟨if n=0 then 0 else wb .i64 ((n.natAbs:Int)*wb .i64 (1-wb .i64 (2*((if n<0 then 1 else 0:Nat):Int)))),?_⟩
 refine wr (Z3 hA) (wr (XO _) (wr hsz ?_))
 rw[hm14]
 refine wr p4 ?_
 dsimp only[rep]
 refine wr (x:=.inl ((n.natAbs:Int),lo2,hi2,(ow2:Int),(B2.length:Int),pbl B2)) ?_ ?_
 ·by_cases c:14<=n.natAbs
  ·refine wI (by rw[show min n.natAbs 14=14 by omega];rfl) (wr hsz ?_)
   rw[wT (x:=(n.natAbs:Int)-14) (by omega) (by omega),wT (x:=(n.natAbs:Int)-14+1) (by omega) (by omega)]
   have e:imax ((n.natAbs:Int)-14+1) 1=((n.natAbs-13:Nat):Int):=by unfold imax;split<;>omega
   rw[e]
   refine wr (hb2 c) ?_
   dsimp only[rep]
   refine wq rfl ?_
   rw[wT (x:=((n.natAbs-13:Nat):Int)+14) (by omega) (by omega),wT (x:=((n.natAbs-13:Nat):Int)+14-1) (by omega) (by omega)]
   rw[show ((n.natAbs-13:Nat):Int)+14-1=(n.natAbs:Int) by omega]
  ·refine wq (by rw[beq_eq_false_iff_ne];omega) ?_
   have e:=hb3 c
   injection e with q1 q2 q3 q4
   subst q1 q2 q3 q4
   rw[show min n.natAbs 14=n.natAbs by omega]
 ·dsimp only
  refine wq (decide_eq_false (by omega)) ?_
  by_cases c:n=0
  ·rw[if_pos c,if_pos c]
   exact wI (by rw[c];rfl) rfl
  ·rw[if_neg c,if_neg c]
   have hd:(bif decide (n<0) then some 1 else some 0:Option Int)=some (((if n<0 then 1 else 0:Nat)):Int):=by
    by_cases q:n<0
    ·rw[if_pos q,decide_eq_true q];rfl
    ·rw[if_neg q,decide_eq_false q];rfl
   have hlt2:(if n<0 then 1 else 0)<evn.length:=by show _<2;split<;>omega
   have hp:=ZR hm_ok.1 xZ hlt2 (by omega)
   rw[Kf]
   show _=some (_,_,rep (CS.put ⟨lo2,hi2,ow2,B2⟩ evn (if n<0 then 1 else 0)))
   generalize CS.put ⟨lo2,hi2,ow2,B2⟩ evn (if n<0 then 1 else 0)=s3 at hp ⊢
   obtain ⟨lo3,hi3,ow3,B3⟩:=s3
   refine wq (by rw[beq_eq_false_iff_ne];omega) (wr hd ?_)
   exact wr (x:=evn) rfl (wr hp rfl)
def qsy (q:Li):Nat->List Sym
  | 0=>[]
  | i+1=>qsy q i++lsy (ctx (q.take i)) (q.getD i 0)
def Stp (q:Li):Prop:=q.length<=120/\∀i,(q.getD i 0).natAbs<=32767
theorem gJ (q:Li) (i:Nat):Sy (qsy q i):=by induction i with
 | zero=>intro x hx;cases hx
 | succ i ih=>exact ih.app (Hz _ _)
theorem Gc {q:Li} (h:Stp q) (i:Nat):(qsy q i).length<=31*i:=by induction i with
 | zero=>exact Nat.le_refl _
 | succ i ih =>
  have:=ux (c:=ctx (q.take i)) (h.2 i)
  unfold qsy;rw[List.length_append];omega
theorem Ho {q:Li} (h:Stp q):kC 100000 q=some 0:=by
 have hl:=h.1
 refine wq (decide_eq_false (by omega)) (wr (x:=.inl ()) ?_ rfl)
 have key:∀(j m:Nat),j<m->j<=q.length->kC.l0 100000 q q.length m ((q.length-j:Nat):Int)=some (.inl ()):=by
  intro j
  induction j with
  | zero =>
   intro m hm _
   obtain ⟨m,rfl⟩:∃q,m=q+1:=⟨m-1,by omega⟩
   show kC.r0 100000 q q.length (kC.l0 100000 q q.length m) ((q.length-0:Nat):Int)=_
   unfold kC.r0
   exact wq (decide_eq_false (by omega)) rfl
  | succ j ih =>
   intro m hm hj
   obtain ⟨m,rfl⟩:∃q,m=q+1:=⟨m-1,by omega⟩
   have ih:=ih m (by omega) (by omega)
   show kC.r0 100000 q q.length (kC.l0 100000 q q.length m) ((q.length-(j+1):Nat):Int)=_
   unfold kC.r0
   have hb:=h.2 (q.length-(j+1))
   have e3:Kd.nth (.int .i64) q (Int.toNat ((q.length-(j+1):Nat):Int))=q.getD (q.length-(j+1)) 0:=rfl
   refine wI (decide_eq_true (by omega)) (zp ⟨by omega,by omega⟩ (wq ?_ ?_))
   ·have hc:(bif decide ((q.getD (q.length-(j+1)) 0:Int) < -32767) then true else decide ((q.getD (q.length-(j+1)) 0:Int)>32767))=false:=by
     rw[decide_eq_false (by omega),decide_eq_false (by omega)];rfl
    exact hc
   ·dsimp only
    rw[kw1 (by omega) (by omega),show ((q.length-(j+1):Nat):Int)+1=((q.length-j:Nat):Int) by omega]
    exact ih
 have:=key q.length 100000 (by omega) (Nat.le_refl _)
 rwa[Nat.sub_self] at this
theorem QH {q:Li} (h:Stp q):qV 100000 q 0 65535 0 false 0 []=some (0,rep (pal CS.new (qsy q q.length)))/\Cok (pal CS.new (qsy q q.length))/\sz (pal CS.new (qsy q q.length))<=59520:=by
 have hl:=h.1
 have hall:∀i,i<=q.length->Cok (pal CS.new (qsy q i))/\sz (pal CS.new (qsy q i))<=59520:=fun i hi=>by
  have hq:=Gc h i
  have e:sz CS.new=0:=rfl
  have:=JY (gJ q i) gP (by rw[e];omega)
  rw[e] at this
  exact ⟨this.1,by omega⟩
 refine ⟨?_,hall _ (Nat.le_refl _)⟩
 refine wr (Ho h) (wq rfl (wr (x:=.inl (rep (pal CS.new (qsy q q.length)))) ?_ rfl))
 have key:∀(j m:Nat),j<m->j<=q.length->qV.l0 100000 q q.length false m ((q.length-j:Nat):Int) (pal CS.new (qsy q (q.length-j))).lo (pal CS.new (qsy q (q.length-j))).hi (pal CS.new (qsy q (q.length-j))).ow (pal CS.new (qsy q (q.length-j))).B.length (pbl (pal CS.new (qsy q (q.length-j))).B)=some (.inl (rep (pal CS.new (qsy q q.length)))):=by
  intro j
  induction j with
  | zero =>
   intro m hm _
   obtain ⟨m,rfl⟩:∃q,m=q+1:=⟨m-1,by omega⟩
   rw[Nat.sub_zero]
   show qV.r0 100000 q q.length false (qV.l0 100000 q q.length false m) (q.length:Int) _ _ _ _ _=_
   unfold qV.r0
   exact wq (decide_eq_false (by omega)) rfl
  | succ j ih =>
   intro m hm hj
   obtain ⟨m,rfl⟩:∃q,m=q+1:=⟨m-1,by omega⟩
   have ih:=ih m (by omega) (by omega)
   have e:q.length-j=q.length-(j+1)+1:=by omega
   rw[e] at ih
   have hi':=hall (q.length-(j+1)) (by omega)
   generalize hi:q.length-(j+1)=i at ih hi' ⊢
   have hd:qsy q (i+1)=qsy q i++lsy (ctx (q.take i)) (q.getD i 0):=rfl
   rw[hd,W2] at ih
   generalize pal CS.new (qsy q i)=s at *
   show qV.r0 100000 q q.length false (qV.l0 100000 q q.length false m) (i:Int) s.lo s.hi s.ow s.B.length (pbl s.B)=_
   unfold qV.r0
   have e3:Kd.nth (.int .i64) q (Int.toNat (i:Int))=q.getD i 0:=rfl
   have e4:((q.take (Int.toNat (i:Int))).drop (Int.toNat 0))=q.take i:=rfl
   refine wI (decide_eq_true (by omega)) (zp ⟨by omega,by omega⟩ (zp ⟨by omega,by omega⟩ ?_))
   obtain ⟨r,hr⟩:=uZ (A:=q.take i) (by rw[List.length_take];omega) (h.2 i) hi'.1 (by omega)
   refine wr hr (wq rfl ?_)
   dsimp only[rep]
   rw[kw1 (by omega) (by omega)]
   exact ih
 have:=key q.length 100000 (by omega) (Nat.le_refl _)
 rw[Nat.sub_self] at this
 have e1:pal CS.new (qsy q 0)=CS.new:=rfl
 rw[e1] at this
 have e2:pbl CS.new.B=[]:=rfl
 rw[e2] at this
 exact this
def cod (q:Li):Li:=(pal CS.new (qsy q q.length)).fin
theorem Ha {q:Li} (h:Stp q):Bl (cod q):=gA (QH h).2.1.bl
theorem Qz {q:Li} (h:Stp q):(cod q).length<=59522:=by unfold cod;rw[Qv];have:=(QH h).2.2;omega
theorem V8 {q:Li} (h:Stp q):jV 100000 q=some (((cod q).length:Int),0):=by
 obtain ⟨h1,h2,h3⟩:=QH h
 refine wr rfl (wr h1 ?_)
 dsimp only[rep]
 exact wq rfl (wr (gx h2 (by omega)) (wr rfl rfl))
end Go.Fo
