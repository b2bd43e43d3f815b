/- What the document's split tells. -/
import Derived.Test.YtiihmaaobmpabaaGreatSfFd
namespace Go.Fo
set_option maxRecDepth 6000
def hP (m:Int):List Int:=match wW 5000 m (List.replicate 388 none) 0 0 with | some (.inr (_,_,_,_,h,_,_))=>h | _=>[]
def tuP (m:Int):List Int:=match wW 5000 m (List.replicate 388 none) 0 0 with | some (.inr (_,_,_,_,_,u,_))=>u | _=>[]
def njB (m:Int):Bool:=match wW 5000 m (List.replicate 388 none) 0 0 with
  | some (.inr (t,a,b,m',h,u,V))=>m'==m&&h==hP m&&u==tuP m&&V==List.replicate (10*m).toNat 0&&(match wW 5000 m t a b with
    | some (.inr (_,_,_,m2,h2,u2,V2))=>m2==m&&h2==hP m&&u2==tuP m&&V2==List.replicate (10*m).toNat 0
    | _=>false)
  | _=>false
theorem nj4:njB 4=true:=by kernel_rfl
theorem nj8:njB 8=true:=by kernel_rfl
theorem MG {m:Nat} (hm:m=4\/m=8):∃ t a b,wW 5000 (m:Int) (List.replicate 388 none) 0 0=some (.inr (t,a,b,(m:Int),hP m,tuP m,List.replicate (10*m) 0)) ∧
  ∃ t2 a2 b2,wW 5000 (m:Int) t a b=some (.inr (t2,a2,b2,(m:Int),hP m,tuP m,List.replicate (10*m) 0)):=by
 have h:njB m=true:=by
  rcases hm with rfl | rfl
  ·exact nj4
  ·exact nj8
 have e0:(10*(m:Int)).toNat=10*m:=by omega
 unfold njB at h
 split at h
 ·rename_i t a b m' h' u V e
  simp only [Bool.and_eq_true,beq_iff_eq] at h
  obtain ⟨⟨⟨⟨h1,h2⟩,h3⟩,h4⟩,h5⟩:=h
  split at h5
  ·rename_i t2 a2 b2 m2 h2' u2 V2 e2
   simp only [Bool.and_eq_true,beq_iff_eq] at h5
   obtain ⟨⟨⟨g1,g2⟩,g3⟩,g4⟩:=h5
   exact ⟨t,a,b,by rw [e,h1,h2,h3,h4,e0],t2,a2,b2,by rw [e2,g1,g2,g3,g4,e0]⟩
  ·cases h5
 ·cases h
theorem U9:∀ m:Nat,m=4\/m=8->(hP m).length=10*m/\(tuP m).length=8*m/\qj 5000 (m:Int)=some (hP m) ∧
  ((List.range m).all fun i=>(List.range (2*m)).all fun j=>kF 5000 (2*(i:Int)+1) (2*(j:Int)-(m:Int)) (m:Int)==some (wv m (tuP m) (2*(i:Int)+1) (2*(j:Int)-(m:Int))))=true:=by
 intro m hm
 rcases hm with rfl | rfl
 ·exact ⟨by kernel_rfl,by kernel_rfl,by kernel_rfl,by kernel_rfl⟩
 ·exact ⟨by kernel_rfl,by kernel_rfl,by kernel_rfl,by kernel_rfl⟩
def rvs (bs:List (List Int)):List Int:=(bs.flatten.map (wa .i64)).reverse
def stt (m:Nat) (bs:List (List Int)):List Int:=(rvs bs++List.replicate (10*m) 0).take (10*m)
theorem GV (m:Nat) (bs:List (List Int)):(stt m bs).length=10*m:=by unfold stt; simp
theorem gE (bs:List (List Int)) (b:List Int):rvs (bs++[b])=(b.map (wa .i64)).reverse++rvs bs:=by unfold rvs; simp
theorem H8 (m:Nat) (bs:List (List Int)) (b:List Int) (hb:b.length=m):nxb m b (stt m bs)=stt m (bs++[b]):=by
 have hl:((b.map (wa .i64)).reverse).length=m:=by simp [hb]
 unfold nxb stt
 have e1:((rvs bs++List.replicate (10*m) 0).take (10*m)).take (9*m)=(rvs bs++List.replicate (10*m) 0).take (9*m):=by rw [List.take_take,Nat.min_eq_left (by omega)]
 have e2:((b.map (wa .i64)).reverse++(rvs bs++List.replicate (10*m) 0)).take (10*m)=(b.map (wa .i64)).reverse++(rvs bs++List.replicate (10*m) 0).take (9*m):=by
  rw [List.take_append,hl,List.take_of_length_le (by omega),show 10*m-m=9*m by omega]
 rw [e1,gE,List.append_assoc,e2]
theorem K6 (b:List Int) (bs:List (List Int)):rvs (b::bs)=rvs bs++(b.map (wa .i64)).reverse:=by unfold rvs; simp
theorem ZB (m:Nat):∀ bs:List (List Int),(∀ b∈bs,b.length=m)->(rvs bs).length=bs.length*m
 | [],_=>by simp [rvs]
 | b::bs,h=>by
  rw [K6,List.length_append,ZB m bs (fun x hx=>h x (List.mem_cons_of_mem _ hx)),List.length_reverse,List.length_map,h b (List.mem_cons_self ..),List.length_cons,Nat.add_mul,Nat.one_mul]

theorem Mi (K m:Nat) (bs:List (List Int)) (hK:100<=K) (hm:m=4\/m=8) (hn:bs.length<=60) (hb:∀ b∈bs,b.length=m) :
  wd.l5 K bs (m:Int) K ((bs.length:Int)-1) []=some (rvs bs):=by
 have key:∀ (k:Nat),k<=bs.length->∀ e:Nat,wd.l5 K bs (m:Int) (k+e+1) ((k:Int)-1) (rvs (bs.drop k))=some (rvs bs):=by
  intro k
  induction k with
  | zero =>
   intro _ e
   show wd.r5 K bs (m:Int) (wd.l5 K bs (m:Int) (0+e)) (((0:Nat):Int)-1) (rvs (bs.drop 0))=_
   unfold wd.r5
   exact wA (decide_eq_false (by omega)) rfl
  | succ k ih =>
   intro hk e
   show wd.r5 K bs (m:Int) (wd.l5 K bs (m:Int) (k+1+e)) (((k+1:Nat):Int)-1) (rvs (bs.drop (k+1)))=_
   have ek:((k+1:Nat):Int)-1=(k:Int):=by omega
   rw [ek]
   unfold wd.r5
   refine wO (decide_eq_true (by omega)) ?_
   have hmem:bs[k]∈bs:=List.getElem_mem (by omega)
   have hbl:=hb _ hmem
   have hnth:Kd.nth (.slice (.int .i16)) bs k=bs[k]:=by unfold Kd.nth; rw [List.getD_eq_getElem?_getD,List.getElem?_eq_getElem (by omega)]; rfl
   have hrl:(rvs (bs.drop (k+1))).length<=480:=by
    rw [ZB m _ (fun b hb'=>hb b (List.mem_of_mem_drop hb')),List.length_drop]
    rcases hm with rfl | rfl<;>omega
   have inner:∀ (q:Nat),q<=m->∀ e:Nat,wd.l6 K bs (m:Int) (k:Int) (q+e+1) ((q:Int)-1) (rvs (bs.drop (k+1))++((bs[k].drop q).map (wa .i64)).reverse)=some (rvs (bs.drop (k+1))++(bs[k].map (wa .i64)).reverse):=by
    intro q
    induction q with
    | zero =>
     intro _ e
     show wd.r6 K bs (m:Int) (k:Int) (wd.l6 K bs (m:Int) (k:Int) (0+e)) (((0:Nat):Int)-1) _=_
     unfold wd.r6
     exact wA (decide_eq_false (by omega)) rfl
    | succ q ihq =>
     intro hq e
     show wd.r6 K bs (m:Int) (k:Int) (wd.l6 K bs (m:Int) (k:Int) (q+1+e)) (((q+1:Nat):Int)-1) _=_
     have eq1:((q+1:Nat):Int)-1=(q:Int):=by omega
     rw [eq1]
     unfold wd.r6
     refine wO (decide_eq_true (by omega)) ?_
     rw [Int.toNat_natCast,Int.toNat_natCast,hnth]
     dsimp only
     have hn2:Kd.nth (.int .i16) bs[k] q=bs[k][q]'(by omega):=by unfold Kd.nth; rw [List.getD_eq_getElem?_getD,List.getElem?_eq_getElem (by omega)]; rfl
     rw [hn2]
     refine zi (by
      simp only [List.length_append,List.length_reverse,List.length_map,List.length_drop,List.length_cons,List.length_nil]
      omega) ?_
     have hcat:rvs (bs.drop (k+1))++((bs[k].drop (q+1)).map (wa .i64)).reverse++[wa .i64 (bs[k][q]'(by omega))]=rvs (bs.drop (k+1))++((bs[k].drop q).map (wa .i64)).reverse:=by
      rw [List.drop_eq_getElem_cons (l:=bs[k]) (i:=q) (by omega),List.map_cons,List.reverse_cons,List.append_assoc]
     rw [hcat,wX (x:=(q:Int)-1) (by omega) (by omega),show q+1+e=q+e+1 by omega]
     exact ihq (by omega) e
   obtain ⟨e',he'⟩:∃ e',K=m+e'+1:=⟨K-m-1,by omega⟩
   have h10:=inner m (Nat.le_refl _) e'
   have hd0:bs[k].drop m=[]:=List.drop_of_length_le (by omega)
   rw [hd0,List.map_nil,List.reverse_nil,List.append_nil,<-he'] at h10
   rw [wX (x:=(m:Int)-1) (by omega) (by omega)]
   refine wr h10 ?_
   rw [wX (x:=(k:Int)-1) (by omega) (by omega),<-K6,show bs[k]::bs.drop (k+1)=bs.drop k from (List.drop_eq_getElem_cons (by omega)).symm,show k+1+e=k+e+1 by omega]
   exact ih (by omega) e
 obtain ⟨e,he⟩:∃ e,K=bs.length+e+1:=⟨K-bs.length-1,by omega⟩
 have:=key bs.length (Nat.le_refl _) e
 rw [List.drop_of_length_le (Nat.le_refl _),<-he] at this
 exact this

theorem gm (K m:Nat) (hK:200<=K) (hm:m=4\/m=8) (R:List Int) (hR:R.length<=480):wd.l4 K (m:Int) K R=some (R++List.replicate (10*m-R.length) 0):=by
 have key:∀ (q:Nat) (x:List Int),x.length<=480->10*m-x.length=q->∀ e:Nat,wd.l4 K (m:Int) (q+e+1) x=some (x++List.replicate q 0):=by
  intro q
  induction q with
  | zero =>
   intro x _ hx e
   show wd.r4 K (m:Int) (wd.l4 K (m:Int) (0+e)) x=_
   unfold wd.r4
   rw [wX (x:=10*(m:Int)) (by omega) (by omega),List.replicate_zero,List.append_nil]
   exact wA (decide_eq_false (by omega)) rfl
  | succ q ih =>
   intro x hb hx e
   show wd.r4 K (m:Int) (wd.l4 K (m:Int) (q+1+e)) x=_
   unfold wd.r4
   rw [wX (x:=10*(m:Int)) (by omega) (by omega)]
   refine wO (decide_eq_true (by omega)) ?_
   refine zi (by simp; omega) ?_
   rw [show q+1+e=q+e+1 by omega,ih (x++[0]) (by simp; omega) (by simp; omega) e,List.append_assoc]; rfl
 obtain ⟨e,he⟩:∃ e,K=(10*m-R.length)+e+1:=⟨K-(10*m-R.length)-1,by omega⟩
 have:=key _ R hR rfl e
 rw [<-he] at this
 exact this

theorem Hw (K:Nat) (x:Int):kN K x 32=some (yg x):=by
 unfold kN
 have e3:wa .i64 (kshl .i64 1 (wa .u64 (wa .i64 (32-1)))-1)=2147483647:=by decide
 dsimp only
 rw [e3]
 refine zi (by decide) ?_
 unfold yg
 by_cases a:x>2147483647
 ·rw [if_neg (by omega),if_pos a]; exact wO (decide_eq_true a) rfl
 ·refine wA (decide_eq_false a) ?_
  have e7:wa .i64 (wa .i64 (0-2147483647)-1)=-2147483648:=by decide
  rw [e7]
  by_cases b:x < -2147483648
  ·rw [if_pos b]; exact wO (decide_eq_true b) rfl
  ·rw [if_neg b,if_neg a]; exact wA (decide_eq_false b) rfl
theorem gN (K:Nat) {n s:Int} (h0:-9223372036854775808<=n) (h1:n<=9223372036854775807) (hs:2<=s) (hs2:s<=62):qL K n s=some (yg (rnd n s.toNat)) :=
 wr (Ui K h0 h1 hs hs2) (wr (Hw K _) rfl)

theorem mo (t0 t1 t2 t3 t4:Int):wa .i64 (wa .i64 (wa .i64 (wa .i64 (wa .i64 (0+wa .i64 (0-wa .i64 t0))+wa .i64 t1)+wa .i64 (0-wa .i64 t2))+wa .i64 t3)+wa .i64 (0-wa .i64 t4)) =
  wa .i64 (0-wa .i64 (wa .i64 t4-wa .i64 (wa .i64 t3-wa .i64 (wa .i64 t2-wa .i64 (wa .i64 t1-wa .i64 (wa .i64 t0-0)))))):=by
 simp only [V4,ua,Up,uF]
 congr 1; omega
theorem Mz (K m:Nat) (hK:100<=K) (hm:m=4\/m=8) (h x X:List Int) (hh:h.length=10*m) (hx:10*m<=x.length) (hX:X=x.take (10*m)) :
  wd.l2 K (m:Int) h x K 0 []=some (kg (yv m h X) (2*m)):=by
 have hg:∀ i,i<10*m->X.getD i 0=x.getD i 0:=fun i hi=>by rw [hX,List.getD_eq_getElem?_getD,List.getElem?_take,if_pos hi,<-List.getD_eq_getElem?_getD]
 have:=QY (r:=wd.r2 K (m:Int) h x) (b:=fun _ _=>none) (2*m) (yv m h X) (fun i=>(i:Int)) (some (kg (yv m h X) (2*m))) (fun next j hj=>?_) (fun next=>?_) (K:=K) (by omega)
 ·exact this
 ·unfold wd.r2
  rw [wX (x:=2*(m:Int)) (by omega) (by omega)]
  refine wO (decide_eq_true (by omega)) ?_
  let T:Nat->Int:=fun k=>wa .i64 (x.getD (j+2*m*k) 0*wa .i64 (h.getD (j+2*m*k) 0))
  let g:Nat->Int->Int:=fun k s=>wa .i64 (s+if k%2=0 then wa .i64 (0-T k) else T k)
  have hs5:accf g 0 5=wa .i64 (0-sacc m h X j):=by
   have hT:∀ k,k<5->X.getD (j+2*m*k) 0=x.getD (j+2*m*k) 0:=fun k hk=>hg _ (by rcases hm with rfl | rfl<;>omega)
   have e:sacc m h X j=accf (fun k s=>wa .i64 (T k-s)) 0 5:=by
    unfold sacc
    exact Y3 5 fun k hk s=>by rw [hT k hk]
   rw [e]
   exact mo (x.getD (j+2*m*0) 0*wa .i64 (h.getD (j+2*m*0) 0)) (x.getD (j+2*m*1) 0*wa .i64 (h.getD (j+2*m*1) 0)) (x.getD (j+2*m*2) 0*wa .i64 (h.getD (j+2*m*2) 0)) (x.getD (j+2*m*3) 0*wa .i64 (h.getD (j+2*m*3) 0)) (x.getD (j+2*m*4) 0*wa .i64 (h.getD (j+2*m*4) 0))
  have h7:wd.l3 K (m:Int) h (j:Int) x (kg (yv m h X) j) K 0 0=some (accf g 0 5):=by
   refine vU 5 g 0 _ (fun next k s hk=>?_) (fun next=>?_) (by omega)
   ·unfold wd.r3
    refine wO (decide_eq_true (by omega)) ?_
    have hb:j+2*m*k<10*m:=by rcases hm with rfl | rfl<;>omega
    have e0:(2*(m:Int))*(k:Int)=((2*m*k:Nat):Int):=by simp
    rw [wX (x:=2*(m:Int)) (by omega) (by omega)]
    dsimp only
    rw [e0,wX (x:=((2*m*k:Nat):Int)) (by omega) (by omega),wX (x:=(j:Int)+((2*m*k:Nat):Int)) (by omega) (by omega)]
    refine zi (by omega) ?_
    refine zi (by omega) ?_
    refine zi (by rw [hh]; omega) ?_
    rw [show ((j:Int)+((2*m*k:Nat):Int)).toNat=j+2*m*k by omega]
    have em:Int.tmod (k:Int) 2=((k%2:Nat):Int):=by rw [Int.tmod_eq_emod_of_nonneg (by omega)]; omega
    refine wr (x:=if k%2=0 then wa .i64 (0-T k) else T k) ?_ ?_
    ·rw [em]
     by_cases hz:k%2=0
     ·rw [if_pos hz,hz]; rfl
     ·rw [if_neg hz,show k%2=1 by omega]; rfl
    ·rw [wX (x:=(k:Int)+1) (by omega) (by omega)]; rfl
   ·unfold wd.r3
    exact wA (by decide) rfl
  refine wr h7 ?_
  rw [hs5]
  obtain ⟨b1,b2⟩:=kwb (0-sacc m h X j)
  refine wr (gN K b1 b2 (by decide) (by decide)) ?_
  refine zi (by rw [jX]; simp; omega) ?_
  rw [wX (x:=(j:Int)+1) (by omega) (by omega),yG]
  rfl
 ·unfold wd.r2
  rw [wX (x:=2*(m:Int)) (by omega) (by omega)]
  exact wA (decide_eq_false (by omega)) rfl

theorem Mx (m:Nat) (hm:m=4\/m=8) (turn Y:List Int) (s:Int) (hs:s=16+(m:Int)/4) (hY:Y.length=2*m)
  (hw:((List.range m).all fun i=>(List.range (2*m)).all fun j=>kF 5000 (2*(i:Int)+1) (2*(j:Int)-(m:Int)) (m:Int)==some (wv m turn (2*(i:Int)+1) (2*(j:Int)-(m:Int))))=true) :
  wd.l0 5000 (m:Int) s Y 5000 0 []=some (kg (ov m turn Y) m):=by
 have:=QY (r:=wd.r0 5000 (m:Int) s Y) (b:=fun _ _=>none) m (ov m turn Y) (fun i=>(i:Int)) (some (kg (ov m turn Y) m)) (fun next i hi=>?_) (fun next=>?_) (K:=5000) (by omega)
 ·exact this
 ·unfold wd.r0
  refine wO (decide_eq_true (by omega)) ?_
  refine wr (x:=oacc m turn Y i) ?_ ?_
  ·refine vU (2*m) (fun j s=>wa .i64 (s+wa .i64 (Y.getD j 0*wv m turn (2*(i:Int)+1) (2*(j:Int)-(m:Int))))) 0 _ (fun next j s' hj=>?_) (fun next=>?_) (by omega)
   ·unfold wd.r1
    rw [wX (x:=2*(m:Int)) (by omega) (by omega)]
    refine wO (decide_eq_true (by omega)) ?_
    refine zi (by rw [hY]; omega) ?_
    refine zi (by rw [hY]; omega) ?_
    rw [wX (x:=2*(i:Int)) (by omega) (by omega)]
    dsimp only
    rw [wX (x:=2*(i:Int)+1) (by omega) (by omega),wX (x:=2*(j:Int)) (by omega) (by omega),wX (x:=2*(j:Int)-(m:Int)) (by omega) (by omega)]
    have hwv:=beq_iff_eq.1 (List.all_eq_true.1 (List.all_eq_true.1 hw i (List.mem_range.2 hi)) j (List.mem_range.2 hj))
    refine wr hwv ?_
    rw [wX (x:=(j:Int)+1) (by omega) (by omega),Int.toNat_natCast]
    rfl
   ·unfold wd.r1
    rw [wX (x:=2*(m:Int)) (by omega) (by omega)]
    exact wA (decide_eq_false (by omega)) rfl
  ·have hb:-9223372036854775808<=oacc m turn Y i/\oacc m turn Y i<=9223372036854775807:=by
    unfold oacc
    obtain ⟨q,hq⟩:∃ q,2*m=q+1:=⟨2*m-1,by omega⟩
    rw [hq]; exact kwb _
   refine wr (gN 5000 hb.1 hb.2 (by omega) (by omega)) ?_
   have hs2:=WM (rnd (oacc m turn Y i) s.toNat)
   rw [Wp hs2.1 hs2.2]
   refine zi (by rw [jX]; simp; omega) ?_
   rw [wX (x:=(i:Int)+1) (by omega) (by omega),yG]
   have:s.toNat=16+m/4:=by omega
   rw [this]
   rfl
 ·unfold wd.r0
  exact wA (decide_eq_false (by omega)) rfl

theorem gx (m:Nat) (hm:m=4\/m=8) (bs:List (List Int)) (hn:bs.length<=60) (hb:∀ b∈bs,b.length=m) (h1:1<=bs.length):wd 5000 bs (m:Int)=some (spl m (hP m) (tuP m) (stt m bs)):=by
 obtain ⟨hh,ht,hf,hw⟩:=U9 m hm
 unfold wd
 rw [wX (x:=(bs.length:Int)-1) (by omega) (by omega)]
 refine wr (Mi 5000 m bs (by decide) hm hn hb) ?_
 have hrl:(rvs bs).length<=480:=by
  rw [ZB m bs hb]
  rcases hm with rfl | rfl<;>omega
 refine wr (gm 5000 m (by decide) hm _ hrl) ?_
 refine wr hf ?_
 have hst:stt m bs=(rvs bs++List.replicate (10*m-(rvs bs).length) 0).take (10*m):=by
  unfold stt
  rw [List.take_append,List.take_append,List.take_replicate,List.take_replicate]
  congr 2
  omega
 refine wr (Mz 5000 m (by decide) hm (hP m) _ (stt m bs) hh (by rw [List.length_append,List.length_replicate]; omega) hst) ?_
 refine wr (x:=16+(m:Int)/4) (by rcases hm with rfl | rfl<;>rfl) ?_
 exact wr (Mx m hm (tuP m) _ _ rfl (jX _ _) hw) rfl


theorem uU (a b:List (List Int)):rvs (a++b)=rvs b++rvs a:=by unfold rvs; simp
theorem U6 (m:Nat) (bs:List (List Int)) (hb:∀ b∈bs,b.length=m) (n:Nat) (hn:n=0\/bs.length-n=10):stt m (bs.drop n)=stt m bs:=by
 rcases hn with rfl | hn
 ·rw [List.drop_zero]
 ·unfold stt
  have e:rvs bs=rvs (bs.drop n)++rvs (bs.take n):=by rw [<-uU,List.take_append_drop]
  have hlen:(rvs (bs.drop n)).length=10*m:=by rw [ZB m _ (fun b h=>hb b (List.mem_of_mem_drop h)),List.length_drop,hn]
  rw [e,List.append_assoc,List.take_append_of_le_length (by omega),List.take_append_of_le_length (by omega)]
end Go.Fo
