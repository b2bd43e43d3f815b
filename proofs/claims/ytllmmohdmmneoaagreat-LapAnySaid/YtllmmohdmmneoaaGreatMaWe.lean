/- The symbols of steps,and that they are put. -/
import Derived.Test.YtllmmohdmmneoaaGreatMaWc
namespace Go.Fo
set_option maxRecDepth 6000
def tbl (c:Int):Li:=if c=0 then [700,180,60,25,12,7,5,4,3,2,2,1,1,1,1] else if c=1 then [380,330,140,65,32,18,11,7,5,4,3,2,2,1,2] else if c=2 then [200,280,210,120,70,42,26,17,12,8,6,4,3,2,6] else [90,140,150,140,115,90,70,52,40,30,22,16,12,9,40]
def evn:Li:=[1,1]
theorem Xl {t:Li} (h:(decide (2<=t.length)&&decide (t.length<=32)&&(List.range t.length).all (fun i=>decide (1<=t.getD i 0))&&decide (flo t t.length<=4096))=true):Tb t:=by
 simp only[Bool.and_eq_true,decide_eq_true_eq,List.all_eq_true,List.mem_range] at h
 exact ⟨h.1.1.1,h.1.1.2,h.1.2,h.2⟩
theorem xZ:Tb evn:=Xl (by kernel_rfl)
theorem QL (c:Int):Tb (tbl c):=by
 unfold tbl
 split
 ·exact Xl (by kernel_rfl)
 ·split
  ·exact Xl (by kernel_rfl)
  ·split<;>exact Xl (by kernel_rfl)
theorem QS (c:Int):(tbl c).length=15:=by
 unfold tbl
 split
 ·rfl
 ·split
  ·rfl
  ·split<;>rfl
theorem XO (c:Int):j7 100000 c=some (tbl c):=by
 unfold j7 tbl
 by_cases h0:c=0
 ·rw[if_pos h0];exact wI (by rw[h0];rfl) rfl
 ·rw[if_neg h0]
  refine wq (beq_eq_false_iff_ne.2 h0) ?_
  by_cases h1:c=1
  ·rw[if_pos h1];exact wI (by rw[h1];rfl) rfl
  ·rw[if_neg h1]
   refine wq (beq_eq_false_iff_ne.2 h1) ?_
   by_cases h2:c=2
   ·rw[if_pos h2];exact wI (by rw[h2];rfl) rfl
   ·rw[if_neg h2]
    exact wq (beq_eq_false_iff_ne.2 h2) rfl
theorem J6 {a:Int} (h0:-40000<=a) (h1:a<=40000):qK 100000 a=some (a.natAbs:Int):=by
 unfold qK
 dsimp only
 rw[wT (by omega) (by omega)]
 unfold imax
 split
 ·rw[show (a.natAbs:Int)=0-a by omega]
 ·rw[show (a.natAbs:Int)=a by omega]
def lst:Li->Nat->Nat
  | _,0=>0
  | q,n+1=>if q.getD n 0=0 then lst q n else n+1
theorem Jq (q:Li) (n:Nat):lst q n<=n:=by
 induction n with
 | zero=>exact Nat.le_refl _
 | succ n ih=>unfold lst;split<;>omega
theorem ZK (q:Li) (hq:q.length<=90000):qM 100000 q=some (lst q q.length:Int)/\zd 100000 q=some (lst q q.length:Int):=by
 have key:∀(j m:Nat),j<m->j<=q.length->qM.l0 100000 q m j=some (lst q j:Int)/\zd.l0 100000 q m j=some (lst q j:Int):=by
  intro j
  induction j with
  | zero =>
   intro m hm _
   obtain ⟨m,rfl⟩:∃q,m=q+1:=⟨m-1,by omega⟩
   constructor
   ·show qM.r0 100000 q (qM.l0 100000 q m) ((0:Nat):Int)=_
    unfold qM.r0
    exact zp ⟨fun h=>(ftf h).elim,fun h=>(ftf h).elim,fun h=>(ftf h).elim⟩ (wq rfl rfl)
   ·show zd.r0 100000 q (zd.l0 100000 q m) ((0:Nat):Int)=_
    unfold zd.r0
    exact zp ⟨fun h=>(ftf h).elim,fun h=>(ftf h).elim⟩ (wq rfl rfl)
  | succ j ih =>
   intro m hm hj
   obtain ⟨m,rfl⟩:∃q,m=q+1:=⟨m-1,by omega⟩
   have ih:=ih m (by omega) (by omega)
   have e1:wb .i64 (((j+1:Nat):Int)-1)=(j:Int):=by rw[wT (by omega) (by omega)];omega
   have e2:decide (((j+1:Nat):Int)>0)=true:=decide_eq_true (by omega)
   have e3:Kd.nth (.int .i64) q (Int.toNat (j:Int))=q.getD j 0:=rfl
   constructor
   ·show qM.r0 100000 q (qM.l0 100000 q m) ((j+1:Nat):Int)=_
    unfold qM.r0 lst
    dsimp only
    rw[e1,e2,e3]
    refine zp ⟨fun _=>by omega,fun _=>by omega,fun _=>by omega⟩ ?_
    by_cases c:q.getD j 0=0
    ·rw[if_pos c];exact wI (by rw[c];rfl) ih.1
    ·rw[if_neg c];exact wq (beq_eq_false_iff_ne.2 c) rfl
   ·show zd.r0 100000 q (zd.l0 100000 q m) ((j+1:Nat):Int)=_
    unfold zd.r0 lst
    dsimp only
    rw[e1,e2,e3]
    refine zp ⟨fun _=>by omega,fun _=>by omega⟩ ?_
    by_cases c:q.getD j 0=0
    ·rw[if_pos c];exact wI (by rw[c];rfl) ih.2
    ·rw[if_neg c];exact wq (beq_eq_false_iff_ne.2 c) rfl
 have:=key q.length 100000 (by omega) (Nat.le_refl _)
 exact ⟨wr this.1 rfl,wr this.2 rfl⟩
def ctx (A:Li):Int:=(zI 100000 A).getD 0
theorem Z3 {A:Li} (h:A.length<=90000):zI 100000 A=some (ctx A):=by
 have hok:Ok (fun _=>True) (zI 100000 A):=by
  unfold zI
  dsimp only
  rw[wT (by omega) (by omega)]
  have hx:0<=imax ((A.length:Int)-2) 0/\imax ((A.length:Int)-2) 0<=(A.length:Int):=by unfold imax;split<;>omega
  refine Ok.gd ⟨hx.1,hx.2,Int.le_refl _⟩ (Ok.bind (Q:=fun _=>True) ?_ (fun _ _=>Ok.some trivial))
  have hD:∀D:Li,D.length<=90000->Ok (fun _=>True) (zI.l0 100000 D (D.length:Int) 100000 0 0):=by
   intro D hD
   unfold zI.l0
   refine qo (fun _ a=>0<=a/\a<=(D.length:Int)) (fun _ a=>((D.length:Int)-a).toNat) _ ?_ 100000 _ _ ⟨by omega,by omega⟩ (by omega)
   rintro next d a ⟨h1,h2⟩ ih
   refine Ok.ite (fun c=>?_) (fun _=>Ok.some trivial)
   have c:=dt c
   refine Ok.gd ⟨h1,c⟩ (Ok.bind (Q:=fun _=>True) (Ok.some trivial) (fun r _=>?_))
   have e:=kw1 (x:=a) (by omega) (by omega)
   exact ih _ _ ⟨by omega,by omega⟩ (by omega)
  refine hD _ ?_
  rw[List.length_drop,List.length_take];omega
 obtain ⟨r,hr,_⟩:=hok
 unfold ctx;rw[hr];rfl
end Go.Fo
