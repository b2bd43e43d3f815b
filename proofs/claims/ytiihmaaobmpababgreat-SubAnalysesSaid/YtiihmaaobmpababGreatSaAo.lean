/- What the bands need; the share of scales that may be,and of others. -/
import Derived.Test.YtiihmaaobmpababGreatSaAn
namespace Go.Fo
set_option maxRecDepth 6000
def nd (p0 p1 p2 p3 p4 p5 p6 p7 p8 p9:Int) (l:List (List Int)) (c b:Int):Int:=WI p1 p3 p5 (at' (row l c) b) b

def nr (C:Nat) (g:Nat->Nat) (f:Nat->Int->Int):List (List Int):=(List.range C).map fun c=>tabv (g c) (f c)
theorem yY (C:Nat) (g:Nat->Nat) (f:Nat->Int->Int):(nr C g f).length=C:=by simp [nr]
theorem V4 {C:Nat} {g:Nat->Nat} {f:Nat->Int->Int} {c:Nat} (hc:c<C):(nr C g f).getD c []=tabv (g c) (f c):=by
 unfold nr
 rw [List.getD_eq_getElem?_getD,List.getElem?_eq_getElem (by simpa using hc)]
 simp
theorem V9 {C:Nat} {g:Nat->Nat} {f:Nat->Int->Int} {c:Nat} (n:Nat):(nr C g f).set c (tabv n (f c))=nr C (fun i=>if i=c then n else g i) f:=by
 apply List.ext_getElem
 ·simp [nr]
 ·intro k h1 h2
  rw [List.getElem_set]
  simp only [nr,List.getElem_map,List.getElem_range]
  by_cases e:c=k
  ·rw [if_pos e,if_pos e.symm,e]
  ·rw [if_neg e,if_neg (fun q=>e q.symm)]
theorem WK {C:Nat} {g g':Nat->Nat} {f f':Nat->Int->Int} (h:∀ c,c<C->g c=g' c) (hf:∀ c,c<C->∀ b:Int,0<=b->b<(g c:Nat)->f c b=f' c b):nr C g f=nr C g' f':=by
 unfold nr
 apply List.map_congr_left
 intro c hc
 rw [<-h c (List.mem_range.1 hc)]
 exact QD _ _ _ (fun j j0 j1=>hf c (List.mem_range.1 hc) j j0 j1)
theorem VI (C:Nat) (f:Nat->Int->Int):List.replicate C ([]:List Int)=nr C (fun _=>0) f:=by
 apply List.ext_getElem
 ·simp [nr]
 ·intro k h1 h2
  simp [nr,tabv]
theorem Xf (n:Nat) (f:Int->Int) {v:Int} (hv:v=f n):tabv n f++[v]=tabv (n+1) f:=by rw [hv]; exact gg n f
theorem fit {p0 p1 p2 p3 p4 p5 p6 p7 p8 p9:Int} {l:List (List Int)} (h:Fit p0 p1 p2 p3 p4 p5 p6 p7 p8 p9 l):(0<=p1/\p1<=3)/\(p2=1\/p2=2)/\(p3=4\/p3=8)/\(p5=0\/p5=1):=by
 obtain ⟨⟨⟨_,a1,a2,a3,a4,_,a5,_⟩,_⟩,_⟩:=h
 exact ⟨⟨a1,a2⟩,a3,a4,a5⟩
theorem G2 {p0 p1 p2 p3 p4 p5 p6 p7 p8 p9:Int} {l:List (List Int)} (h:Fit p0 p1 p2 p3 p4 p5 p6 p7 p8 p9 l) (c b:Int) (hc:0<=c/\c<p2) (hb:0<=b/\b<p3):xD 5000 p0 p1 p2 p3 p4 p5 p6 p7 p8 p9 (at' (row l c) b) b=some (nd p0 p1 p2 p3 p4 p5 p6 p7 p8 p9 l c b)/\-5<=nd p0 p1 p2 p3 p4 p5 p6 p7 p8 p9 l c b/\nd p0 p1 p2 p3 p4 p5 p6 p7 p8 p9 l c b<=15:=by
 obtain ⟨h1,h2,h3,h4⟩:=fit h
 exact ⟨Gb p0 p1 p2 p3 p4 p5 p6 p7 p8 p9 _ b h1 h3 hb ((h.2.2 c hc.1 hc.2).2 b hb.1 hb.2),YA _ _ _ _ b h1 h3 hb ((h.2.2 c hc.1 hc.2).2 b hb.1 hb.2)⟩
theorem nin {p0 p1 p2 p3 p4 p5 p6 p7 p8 p9:Int} {l:List (List Int)} (hf:Fit p0 p1 p2 p3 p4 p5 p6 p7 p8 p9 l) (C B c:Nat) (hC:(C:Int)=p2) (hB:(B:Int)=p3) (hc:c<C) (g:Nat->Nat) (k:Nat):∀ (m b:Nat),k<m->b+k=B->g c=b →
  zK.l1 5000 l (c:Int) (C:Int) (row l c) ((row l c).length:Int) p0 p1 p2 p3 p4 p5 p6 p7 p8 p9 m b (nr C g (fun c b=>nd p0 p1 p2 p3 p4 p5 p6 p7 p8 p9 l c b))=some (nr C (fun i=>if i=c then B else g i) (fun c b=>nd p0 p1 p2 p3 p4 p5 p6 p7 p8 p9 l c b)):=by
 have hrl:=hf.2.2 c (by omega) (by omega)
 have h3:=(fit hf).2.2.1
 induction k generalizing g with
 | zero =>
  intro m b hm hb hg
  obtain ⟨m,rfl⟩:∃ q,m=q+1:=⟨m-1,by omega⟩
  show zK.r1 5000 l (c:Int) (C:Int) (row l c) ((row l c).length:Int) p0 p1 p2 p3 p4 p5 p6 p7 p8 p9 (zK.l1 5000 l (c:Int) (C:Int) (row l c) ((row l c).length:Int) p0 p1 p2 p3 p4 p5 p6 p7 p8 p9 m) b _=_
  refine wM (decide_eq_false (by omega)) ?_
  congr 1
  apply WK
  ·intro i _; split
   ·rename_i e; rw [e]; omega
   ·rfl
  ·intros; rfl
 | succ k ih =>
  intro m b hm hb hg
  obtain ⟨m,rfl⟩:∃ q,m=q+1:=⟨m-1,by omega⟩
  have hn:=G2 hf c b ⟨by omega,by omega⟩ ⟨by omega,by omega⟩
  show zK.r1 5000 l (c:Int) (C:Int) (row l c) ((row l c).length:Int) p0 p1 p2 p3 p4 p5 p6 p7 p8 p9 (zK.l1 5000 l (c:Int) (C:Int) (row l c) ((row l c).length:Int) p0 p1 p2 p3 p4 p5 p6 p7 p8 p9 m) b _=_
  have hlen:((nr C g (fun c b=>nd p0 p1 p2 p3 p4 p5 p6 p7 p8 p9 l c b)).getD c []).length=b:=by rw [V4 hc,kT,hg]
  have hset:(nr C g (fun c b=>nd p0 p1 p2 p3 p4 p5 p6 p7 p8 p9 l c b)).set c ((nr C g (fun c b=>nd p0 p1 p2 p3 p4 p5 p6 p7 p8 p9 l c b)).getD c []++[nd p0 p1 p2 p3 p4 p5 p6 p7 p8 p9 l c b])=nr C (fun i=>if i=c then b+1 else g i) (fun c b=>nd p0 p1 p2 p3 p4 p5 p6 p7 p8 p9 l c b):=by
   rw [V4 hc,hg,Xf b (fun b=>nd p0 p1 p2 p3 p4 p5 p6 p7 p8 p9 l c b) rfl,V9]
  refine wQ (decide_eq_true (by omega)) (qi ⟨cnn b,by show (b:Int)<((row l c).length:Int); omega⟩ (qi ⟨cnn c,ltl (yY C g _) hc⟩ (qi (ltn (yY C g _) hc) (wJ hn.1 (qi ?_ (qi ⟨cnn c,ltl (yY C g _) hc⟩ (qi (ltn (yY C g _) hc) ?_)))))))
  ·show ((((nr C g (fun c b=>nd p0 p1 p2 p3 p4 p5 p6 p7 p8 p9 l c b)).getD c []).length:Int)+(1:Int))*8<=_
   rw [hlen]; omega
  ·dsimp only
   rw [kwc (n:=B) (by omega) (by omega)]
   have:=ih (fun i=>if i=c then b+1 else g i) m (b+1) (by omega) (by omega) (if_pos rfl)
   rw [show Int.toNat (c:Int)=c from rfl,hset,this]
   congr 1
   apply WK
   ·intro i _; by_cases e:i=c
    ·simp only [if_pos e]
    ·simp only [if_neg e]
   ·intros; rfl
theorem nout {p0 p1 p2 p3 p4 p5 p6 p7 p8 p9:Int} {l:List (List Int)} (hf:Fit p0 p1 p2 p3 p4 p5 p6 p7 p8 p9 l) (C B:Nat) (hC:(C:Int)=p2) (hB:(B:Int)=p3) (k:Nat):∀ (m c:Nat),k<m->c+k=C →
  zK.l0 5000 l (C:Int) p0 p1 p2 p3 p4 p5 p6 p7 p8 p9 m c (nr C (fun i=>if i<c then B else 0) (fun c b=>nd p0 p1 p2 p3 p4 p5 p6 p7 p8 p9 l c b))=some (nr C (fun _=>B) (fun c b=>nd p0 p1 p2 p3 p4 p5 p6 p7 p8 p9 l c b)):=by
 have hll:=hf.2.1
 have h2:=(fit hf).2.1
 have h3:=(fit hf).2.2.1
 induction k with
 | zero =>
  intro m c hm hc
  obtain ⟨m,rfl⟩:∃ q,m=q+1:=⟨m-1,by omega⟩
  show zK.r0 5000 l (C:Int) p0 p1 p2 p3 p4 p5 p6 p7 p8 p9 (zK.l0 5000 l (C:Int) p0 p1 p2 p3 p4 p5 p6 p7 p8 p9 m) c _=_
  refine wM (decide_eq_false (by omega)) ?_
  congr 1
  apply WK
  ·intro i hi; rw [if_pos (by omega)]
  ·intros; rfl
 | succ k ih =>
  intro m c hm hc
  obtain ⟨m,rfl⟩:∃ q,m=q+1:=⟨m-1,by omega⟩
  show zK.r0 5000 l (C:Int) p0 p1 p2 p3 p4 p5 p6 p7 p8 p9 (zK.l0 5000 l (C:Int) p0 p1 p2 p3 p4 p5 p6 p7 p8 p9 m) c _=_
  have:=nin hf C B c hC hB (by omega) (fun i=>if i<c then B else 0) B 5000 0 (by omega) (by omega) (if_neg (by omega))
  refine wQ (decide_eq_true (by omega)) (qi ⟨cnn c,by omega⟩ (wJ this ?_))
  dsimp only
  rw [kwc (n:=C) (by omega) (by omega)]
  have e:nr C (fun i=>if i=c then B else if i<c then B else 0) (fun c b=>nd p0 p1 p2 p3 p4 p5 p6 p7 p8 p9 l c b)=nr C (fun i=>if i<c+1 then B else 0) (fun c b=>nd p0 p1 p2 p3 p4 p5 p6 p7 p8 p9 l c b):=by
   apply WK
   ·intro i _
    by_cases e:i=c
    ·rw [if_pos e,if_pos (by omega)]
    ·rw [if_neg e]
     by_cases e2:i<c
     ·rw [if_pos e2,if_pos (by omega)]
     ·rw [if_neg e2,if_neg (by omega)]
   ·intros; rfl
  rw [e]; exact ih m (c+1) (by omega) (by omega)
def hN (p0 p1 p2 p3 p4 p5 p6 p7 p8 p9:Int) (l:List (List Int)) (i:Int):Int:=nd p0 p1 p2 p3 p4 p5 p6 p7 p8 p9 l (i%p2) (i/p2)
theorem uV {p0 p1 p2 p3 p4 p5 p6 p7 p8 p9:Int} {l:List (List Int)} (b c C:Nat) (hC:(C:Int)=p2) (hc:c<C):hN p0 p1 p2 p3 p4 p5 p6 p7 p8 p9 l ((b*C+c:Nat):Int)=nd p0 p1 p2 p3 p4 p5 p6 p7 p8 p9 l c b:=by
 have h1:(b*C+c)%C=c:=by rw [Nat.add_comm,Nat.add_mul_mod_self_right]; exact Nat.mod_eq_of_lt hc
 have h2:(b*C+c)/C=b:=by rw [Nat.add_comm,Nat.add_mul_div_right _ _ (by omega),Nat.div_eq_of_lt hc,Nat.zero_add]
 unfold hN
 rw [<-hC,<-Int.natCast_emod,<-Int.natCast_ediv,h1,h2]
theorem Vp {p0 p1 p2 p3 p4 p5 p6 p7 p8 p9:Int} {l:List (List Int)} (hf:Fit p0 p1 p2 p3 p4 p5 p6 p7 p8 p9 l) (C B:Nat) (hC:(C:Int)=p2) (hB:(B:Int)=p3) (i:Int) (h0:0<=i) (h1:i<(B*C:Nat)):-5<=hN p0 p1 p2 p3 p4 p5 p6 p7 p8 p9 l i/\hN p0 p1 p2 p3 p4 p5 p6 p7 p8 p9 l i<=15:=by
 have h2:=(fit hf).2.1
 have hC':C=1\/C=2:=by omega
 have hq:0<=i%p2/\i%p2<p2/\0<=i/p2/\i/p2<p3:=by rcases hC' with rfl | rfl<;>(rw [<-hC,<-hB]; omega)
 exact (G2 hf _ _ ⟨hq.1,hq.2.1⟩ ⟨hq.2.2.1,hq.2.2.2⟩).2
theorem ub {p0 p1 p2 p3 p4 p5 p6 p7 p8 p9:Int} {l:List (List Int)} (hf:Fit p0 p1 p2 p3 p4 p5 p6 p7 p8 p9 l) (hm:wG 5000 p0 p1 p2 p3 p4 p5 p6 p7 p8 p9 l=some 0) (C B:Nat) (hC:(C:Int)=p2) (hB:(B:Int)=p3):zK 5000 p0 p1 p2 p3 p4 p5 p6 p7 p8 p9 l=some (rw_ C B (hN p0 p1 p2 p3 p4 p5 p6 p7 p8 p9 l),0):=by
 have h2:=(fit hf).2.1
 have hrw:nr C (fun _=>B) (fun c b=>nd p0 p1 p2 p3 p4 p5 p6 p7 p8 p9 l c b)=rw_ C B (hN p0 p1 p2 p3 p4 p5 p6 p7 p8 p9 l):=by
  unfold nr rw_
  apply List.map_congr_left
  intro c hc
  apply QD
  intro j j0 j1
  obtain ⟨b,rfl⟩:∃ b:Nat,j=b:=⟨j.toNat,by omega⟩
  have:=uV (l:=l) (p0:=p0) (p1:=p1) (p2:=p2) (p3:=p3) (p4:=p4) (p5:=p5) (p6:=p6) (p7:=p7) (p8:=p8) (p9:=p9) b c C hC (List.mem_range.1 hc)
  show nd p0 p1 p2 p3 p4 p5 p6 p7 p8 p9 l c b=_
  rw [<-this]; push_cast; rfl
 refine wJ hm (wM rfl ?_)
 dsimp only
 rw [show List.replicate (Int.toNat p2) ([]:List Int)=nr C (fun i=>if i<0 then B else 0) (fun c b=>nd p0 p1 p2 p3 p4 p5 p6 p7 p8 p9 l c b) by
  rw [show Int.toNat p2=C by omega,VI C (fun c b=>nd p0 p1 p2 p3 p4 p5 p6 p7 p8 p9 l c b)]
  apply WK
  ·intro i _; rw [if_neg (by omega)]
  ·intros; rfl]
 refine qi ⟨by omega,by omega,by omega⟩ ?_
 rw [yY]
 refine wJ (nout hf C B hC hB C 5000 0 (by omega) (by omega)) ?_
 rw [hrw]
theorem Ge (p0 p1 p2 p3 p4 p5 p6 p7 p8 p9:Int) (C B:Nat) (hB:(B:Int)=p3) (hB2:B<=100) (hC2:C<=100) (x:List (List Int)) (k:Nat):∀ (m c:Nat),k<m->c+k=C →
  zd.l0 5000 (C:Int) p0 p1 p2 p3 p4 p5 p6 p7 p8 p9 x m c (nr C (fun i=>if i<c then B else 0) (fun _ _=>0))=some (rw_ C B (fun _=>0)):=by
 induction k with
 | zero =>
  intro m c hm hc
  obtain ⟨m,rfl⟩:∃ q,m=q+1:=⟨m-1,by omega⟩
  show zd.r0 5000 (C:Int) p0 p1 p2 p3 p4 p5 p6 p7 p8 p9 x (zd.l0 5000 (C:Int) p0 p1 p2 p3 p4 p5 p6 p7 p8 p9 x m) c _=_
  refine wM (decide_eq_false (by omega)) ?_
  congr 1
  exact WK (g':=fun _=>B) (f':=fun _ _=>0) (fun i hi=>by rw [if_pos (by omega)]) (by intros; rfl)
 | succ k ih =>
  intro m c hm hc
  obtain ⟨m,rfl⟩:∃ q,m=q+1:=⟨m-1,by omega⟩
  show zd.r0 5000 (C:Int) p0 p1 p2 p3 p4 p5 p6 p7 p8 p9 x (zd.l0 5000 (C:Int) p0 p1 p2 p3 p4 p5 p6 p7 p8 p9 x m) c _=_
  have hrep:List.replicate (Int.toNat p3) (0:Int)=tabv B (fun _=>0):=by
   rw [show Int.toNat p3=B by omega]
   apply List.ext_getElem
   ·simp [tabv]
   ·intro k h1 h2; simp [tabv]
  refine wQ (decide_eq_true (by omega)) (qi ⟨by omega,by omega,by omega⟩ (qi ⟨cnn c,ltl (yY C _ _) (by omega)⟩ (qi (ltn (yY C _ _) (by omega)) ?_)))
  dsimp only
  rw [kwc (n:=C) (by omega) (by omega),hrep,show Int.toNat (c:Int)=c from rfl,V9 (f:=fun _ _=>0) (c:=c) B]
  have e:nr C (fun i=>if i=c then B else if i<c then B else 0) (fun _ _=>0)=nr C (fun i=>if i<c+1 then B else 0) (fun _ _=>0):=by
   apply WK
   ·intro i _
    by_cases e:i=c
    ·rw [if_pos e,if_pos (by omega)]
    ·rw [if_neg e]
     by_cases e2:i<c
     ·rw [if_pos e2,if_pos (by omega)]
     ·rw [if_neg e2,if_neg (by omega)]
   ·intros; rfl
  rw [e]; exact ih m (c+1) (by omega) (by omega)
def sset (h:Int->Int) (s i:Int) (a:Int × (Int->Int)):Int × (Int->Int):=(a.1,if h i>=s+2 then upd a.2 i (imin (h i-s) 16) else a.2)
def shr (h:Int->Int) (N:Nat) (pool a b:Int):Int × (Int->Int):=itr N (mst false pool a h) (itr N (mst true pool a h) (b,(itr N (sset h a) (b,fun _=>0)).2))
theorem Ju (h:Int->Int) (s b:Int):∀ n i,0<=(itr n (sset h s) (b,fun _=>0)).2 i/\(itr n (sset h s) (b,fun _=>0)).2 i<=16
 | 0,i=>⟨Int.le_refl _,by show (0:Int)<=16; decide⟩
 | n+1,i=>by
  have ih:=Ju h s b n i
  show 0<=(if h n>=s+2 then upd (itr n (sset h s) (b,fun _=>0)).2 n (imin (h n-s) 16) else (itr n (sset h s) (b,fun _=>0)).2) i/\(if h n>=s+2 then upd (itr n (sset h s) (b,fun _=>0)).2 n (imin (h n-s) 16) else (itr n (sset h s) (b,fun _=>0)).2) i<=16
  by_cases c:h n>=s+2
  ·rw [if_pos c]
   unfold upd
   by_cases e:i=n
   ·rw [if_pos e]; unfold imin; split<;>omega
   ·rw [if_neg e]; exact ih
  ·rw [if_neg c]; exact ih
theorem XK {p0 p1 p2 p3 p4 p5 p6 p7 p8 p9:Int} {l:List (List Int)} (hf:Fit p0 p1 p2 p3 p4 p5 p6 p7 p8 p9 l) (hm:wG 5000 p0 p1 p2 p3 p4 p5 p6 p7 p8 p9 l=some 0) (C B:Nat) (hC:(C:Int)=p2) (hB:(B:Int)=p3) :
  ∃ a b,-30<=a/\a<=15/\0<=b/\b<=p7/\b=tot (hN p0 p1 p2 p3 p4 p5 p6 p7 p8 p9 l) (B*C) a/\zd 5000 p0 p1 p2 p3 p4 p5 p6 p7 p8 p9 l=some (rw_ C B (shr (hN p0 p1 p2 p3 p4 p5 p6 p7 p8 p9 l) (B*C) p7 a b).2,0)/\(∀ i,0<=(shr (hN p0 p1 p2 p3 p4 p5 p6 p7 p8 p9 l) (B*C) p7 a b).2 i/\(shr (hN p0 p1 p2 p3 p4 p5 p6 p7 p8 p9 l) (B*C) p7 a b).2 i<=16)/\Yy (hN p0 p1 p2 p3 p4 p5 p6 p7 p8 p9 l) (B*C) p7 a b:=by
 have h2:=(fit hf).2.1
 have h3:=(fit hf).2.2.1
 have hC':C=1\/C=2:=by omega
 have hB':B<=8:=by omega
 have hr:=Vp hf C B hC hB
 have hp1:2<=p7:=hf.1.1.2.2.2.2.2.2.2.2.1
 have hp2:p7<=250:=hf.1.1.2.2.2.2.2.2.2.2.2.1
 have hp:p7<=16*(B*C:Nat):=by
  have:=hf.1.1.2.2.2.2.2.2.2.2.2.2.1
  rcases hC' with rfl | rfl<;>(rw [<-hC,<-hB] at this; omega)
 obtain ⟨a,b,h1,h4,h5,h6,h7,h8,h9⟩:=ge (hN p0 p1 p2 p3 p4 p5 p6 p7 p8 p9 l) p7 C B hC' hB' (by omega) (fun _=>0) hr ⟨by omega,hp⟩
 have g0:good (b,(itr (B*C) (sset (hN p0 p1 p2 p3 p4 p5 p6 p7 p8 p9 l) a) (b,fun _=>0)).2):=⟨⟨h6,by show b<=1000; omega⟩,fun j=>Ju (hN p0 p1 p2 p3 p4 p5 p6 p7 p8 p9 l) a b (B*C) j⟩
 have g1:=yc true p7 a (hN p0 p1 p2 p3 p4 p5 p6 p7 p8 p9 l) (by omega) _ g0 (B*C)
 have m1:=VA true (hN p0 p1 p2 p3 p4 p5 p6 p7 p8 p9 l) p7 a C B hC' hB' _ g0 (by omega) hr (by omega)
 have m2:=VA false (hN p0 p1 p2 p3 p4 p5 p6 p7 p8 p9 l) p7 a C B hC' hB' _ g1 (by omega) hr (by omega)
 have g2:=yc false p7 a (hN p0 p1 p2 p3 p4 p5 p6 p7 p8 p9 l) (by omega) _ g1 (B*C)
 refine ⟨a,b,h4,h5,h6,h7,h8,?_,g2.2,h9⟩
 refine wJ (ub hf hm C B hC hB) (wM rfl ?_)
 dsimp only
 rw [show List.replicate (Int.toNat p2) ([]:List Int)=nr C (fun i=>if i<0 then B else 0) (fun _ _=>0) by
  rw [show Int.toNat p2=C by omega,VI C (fun _ _=>0)]
  apply WK
  ·intro i _; rw [if_neg (by omega)]
  ·intros; rfl]
 refine qi ⟨by omega,by omega,by omega⟩ ?_
 rw [yY]
 exact wJ (Ge p0 p1 p2 p3 p4 p5 p6 p7 p8 p9 C B hB (by omega) (by omega) _ C 5000 0 (by omega) (by omega)) (wJ h1 (wJ (gf (hN p0 p1 p2 p3 p4 p5 p6 p7 p8 p9 l) p7 a b C B hC' hB' b (fun _=>0) hr (by omega)) (wJ m1 (wJ m2 rfl))))
theorem XM {p0 p1 p2 p3 p4 p5 p6 p7 p8 p9:Int} {l:List (List Int)} (hf:Fit p0 p1 p2 p3 p4 p5 p6 p7 p8 p9 l) (hm:wG 5000 p0 p1 p2 p3 p4 p5 p6 p7 p8 p9 l=some 0) (C B:Nat) (hC:(C:Int)=p2) (hB:(B:Int)=p3) :
  ∃ a b,-30<=a/\a<=15/\0<=b/\b<=p7/\b=tot (hN p0 p1 p2 p3 p4 p5 p6 p7 p8 p9 l) (B*C) a/\zd 5000 p0 p1 p2 p3 p4 p5 p6 p7 p8 p9 l=some (rw_ C B (shr (hN p0 p1 p2 p3 p4 p5 p6 p7 p8 p9 l) (B*C) p7 a b).2,0)/\∀ i,0<=(shr (hN p0 p1 p2 p3 p4 p5 p6 p7 p8 p9 l) (B*C) p7 a b).2 i/\(shr (hN p0 p1 p2 p3 p4 p5 p6 p7 p8 p9 l) (B*C) p7 a b).2 i<=16:=by
 obtain ⟨a,b,h1,h2,h3,h4,h5,h6,h7,_⟩:=XK hf hm C B hC hB
 exact ⟨a,b,h1,h2,h3,h4,h5,h6,h7⟩
theorem VM {p0 p1 p2 p3 p4 p5 p6 p7 p8 p9:Int} {l:List (List Int)} (hm:wG 5000 p0 p1 p2 p3 p4 p5 p6 p7 p8 p9 l=some 1):zd 5000 p0 p1 p2 p3 p4 p5 p6 p7 p8 p9 l=some ([],1) :=
 wJ (wJ hm (wQ rfl rfl)) (wQ rfl rfl)
end Go.Fo
