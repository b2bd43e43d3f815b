/- Quants,number by number; the parameters of planes,number by number: the program. -/
import Derived.Test.YtiihmaaobmpababGreatSaVc
import Derived.Test.YtiihmaaobmpababGreatSaEg
namespace Go.Fo
set_option maxRecDepth 6000
def okq (s b:Int):Prop:=0<=s/\s<=15/\(b=0\/2<=b/\b<=16)
instance (s b:Int):Decidable (okq s b):=by unfold okq; infer_instance
def qnv (x s:Int):Int:=if 2^(s.toNat+1)<=x then 2^(s.toNat+1)-1 else if x<=0-2^(s.toNat+1) then 1-2^(s.toNat+1) else x
def qv (x s b:Int):Int:=if okq s b then (if b=0 then 0 else (qnv x s*(2^b.toNat-1)/2^(s.toNat+1)+(2^b.toNat-1))/2) else 0
theorem Q1 (s b:Int):Ok (fun r=>r=true↔okq s b) (j4 5000 s b):=by
 refine Ok.some ?_
 show (bif (bif decide (s>=0) then decide (s<=15) else false) then (bif (b==0) then true else (bif decide (b>=2) then decide (b<=16) else false)) else false)=true↔_
 unfold okq
 by_cases a1:s>=0<;>by_cases a2:s<=15<;>by_cases a3:b=0<;>by_cases a4:b>=2<;>by_cases a5:b<=16<;>simp [a1,a2,a3,a4,a5]<;>omega
theorem Z4 (s b:Int):Ok (fun r=>r=true↔okq s b) (qD 5000 s b):=by
 refine Ok.some ?_
 show (bif (bif (bif (bif decide (s>=0) then decide (s<=15) else false) then decide (b>=0) else false) then decide (b<=16) else false) then (b != 1) else false)=true↔_
 unfold okq
 by_cases a1:s>=0<;>by_cases a2:s<=15<;>by_cases a3:b>=0<;>by_cases a4:b<=16<;>by_cases a5:b=1<;>simp [a1,a2,a3,a4,a5]<;>omega
theorem gi:((List.range 16).all fun w=>decide ((2:Int)<=2^(w+1))&&decide ((2:Int)^(w+1)<=65536))=true:=by kernel_rfl
theorem YF {s:Int} (h0:0<=s) (h1:s<=15):(2:Int)<=2^(s.toNat+1)/\(2:Int)^(s.toNat+1)<=65536:=by
 have:=List.all_eq_true.1 gi s.toNat (List.mem_range.2 (by omega))
 simp only [Bool.and_eq_true,decide_eq_true_eq] at this
 exact this
theorem GV:((List.range 17).all fun w=>decide ((0:Int)<=2^w-1)&&decide ((2:Int)^w-1<=65535)&&(kshl .i64 1 (w:Int)==2^w))=true:=by kernel_rfl
theorem Vi {b:Int} (h0:0<=b) (h1:b<=16):(0:Int)<=2^b.toNat-1/\(2:Int)^b.toNat-1<=65535:=by
 have:=List.all_eq_true.1 GV b.toNat (List.mem_range.2 (by omega))
 simp only [Bool.and_eq_true,decide_eq_true_eq] at this
 exact this.1
theorem GM {x w:Int} (h0:0<=w) (h1:w<=60):kshr .i64 x w=x/2^w.toNat:=by
 unfold kshr
 have e:min w.toNat (IntKind.bits .i64)=w.toNat:=Nat.min_eq_left (by show w.toNat<=64; omega)
 rw [e,Int.fdiv_eq_ediv_of_nonneg _ (Int.le_of_lt (Int.pow_pos (by decide)))]
theorem u6 {x s R:Int} (hR:R=2^(s.toNat+1)) (h:2<=R):1-R<=qnv x s/\qnv x s<=R-1:=by
 unfold qnv
 rw [<-hR]
 split
 ·omega
 ·split<;>omega
theorem qprod {n E:Int} (h0:-65536<=n) (h1:n<=65536) (hE:0<=E) (hE2:E<=65535):-4294967296<=n*E/\n*E<=4294967296:=by
 have p1:n*E<=65536*E:=Int.mul_le_mul_of_nonneg_right h1 hE
 have p2:-65536*E<=n*E:=Int.mul_le_mul_of_nonneg_right h0 hE
 omega
theorem UD {x:Int} (hx:vc x) (s b:Int):Ok (fun r=>r.1=qv x s b) (xj 5000 x s b):=by
 obtain ⟨x0,x1⟩:=hx
 refine Ok.bind (Q1 s b) ?_
 intro r hr
 refine Ok.ite (fun c=>Ok.some ?_) (fun c=>?_)
 ·have:¬ okq s b:=fun h=>by rw [hr.2 h] at c; cases c
  show (0:Int)=qv x s b
  unfold qv; rw [if_neg this]
 ·have ho:okq s b:=hr.1 (by cases r; cases c; rfl)
  obtain ⟨s0,s1,hb⟩:=ho
  refine Ok.ite (fun c2=>Ok.some ?_) (fun c2=>?_)
  ·have:b=0:=by simpa using c2
   show (0:Int)=qv x s b
   unfold qv; rw [if_pos ⟨s0,s1,hb⟩,if_pos this]
  ·have hb0:b≠0:=by simpa using c2
   have b0:0<=b:=by omega
   have b1:b<=16:=by omega
   have eR:=JA s0 s1
   obtain ⟨r0,r1⟩:=YF s0 s1
   obtain ⟨l0,l1⟩:=Vi b0 b1
   have eE:wb .i64 (kshl .i64 1 b-1)=2^b.toNat-1:=Kc b0 b1
   have eq:qv x s b=(qnv x s*(2^b.toNat-1)/2^(s.toNat+1)+(2^b.toNat-1))/2:=by unfold qv; rw [if_pos ⟨s0,s1,hb⟩,if_neg hb0]
   obtain ⟨q0,q1⟩:=u6 (x:=x) (s:=s) rfl r0
   have hq:qnv x s=if 2^(s.toNat+1)<=x then 2^(s.toNat+1)-1 else if x<=0-2^(s.toNat+1) then 1-2^(s.toNat+1) else x:=rfl
   have eS:(s+1).toNat=s.toNat+1:=by omega
   have e1:wb .i64 (s+1)=s+1:=kw1 (by omega) (by omega)
   have hsh:∀ y:Int,kshr .i64 y (s+1)=y/2^(s.toNat+1):=fun y=>by rw [GM (by omega) (by omega),eS]
   refine Ok.gd s0 (Ok.gd b0 ?_)
   dsimp only
   rw [eR,eE,zY (x:=x) (by omega) (by omega),e1]
   rw [eq]
   generalize hRR:(2:Int)^(s.toNat+1)=R at *
   generalize hEE:(2:Int)^b.toNat-1=E at *
   generalize hNN:qnv x s=n at *
   rw [zY (x:=1-R) (by omega) (by omega),zY (x:=R-1) (by omega) (by omega)]
   refine Ok.bind (Q:=fun r=>r=n) (Ok.bind (Q:=fun r=>r=n) (Ok.ite (fun d=>Ok.some ?_) (fun d=>Ok.ite (fun d2=>Ok.some ?_) (fun d2=>Ok.some ?_))) (fun r hr=>Ok.some hr)) ?_
   ·have d:=dt d
    show 1-R=n
    rw [hq,if_neg (by omega),if_pos (by omega)]
   ·have d:=df d; have d2:=dt d2
    show R-1=n
    rw [hq,if_pos (by omega)]
   ·have d:=df d; have d2:=df d2
    show x=n
    rw [hq,if_neg (by omega),if_neg (by omega)]
   ·intro r' hr'
    rw [show r'=n from hr']
    obtain ⟨p0,p1⟩:=qprod (n:=n) (E:=E) (by omega) (by omega) l0 l1
    have d0:-4294967296<=n*E/R:=Int.le_ediv_of_mul_le (by omega) (by
     have:-4294967296*R<=-4294967296*1:=Int.mul_le_mul_of_nonpos_left (by omega) (by omega)
     omega)
    have d1:n*E/R<=4294967296:=Int.ediv_le_of_le_mul (by omega) (by
     have:4294967296*1<=4294967296*R:=Int.mul_le_mul_of_nonneg_left (by omega) (by omega)
     omega)
    refine Ok.gd (by omega) (Ok.some ?_)
    show kshr .i64 (wb .i64 (kshr .i64 (wb .i64 (n*E)) (s+1)+E)) 1=_
    rw [zY (x:=n*E) (by omega) (by omega),hsh,zY (x:=n*E/R+E) (by omega) (by omega),KR]
theorem Vj {x:Int} (hx:vc x) (s b:Int):Ok (fun r=>r.1=qv x s b) (qZ 5000 x s b):=by
 obtain ⟨x0,x1⟩:=hx
 refine Ok.bind (Z4 s b) ?_
 intro r hr
 refine Ok.ite (fun c=>Ok.some ?_) (fun c=>?_)
 ·have:¬ okq s b:=fun h=>by rw [hr.2 h] at c; cases c
  show (0:Int)=qv x s b
  unfold qv; rw [if_neg this]
 ·have ho:okq s b:=hr.1 (by cases r; cases c; rfl)
  obtain ⟨s0,s1,hb⟩:=ho
  refine Ok.ite (fun c2=>Ok.some ?_) (fun c2=>?_)
  ·have:b=0:=by simpa using c2
   show (0:Int)=qv x s b
   unfold qv; rw [if_pos ⟨s0,s1,hb⟩,if_pos this]
  ·have hb0:b≠0:=by simpa using c2
   have b0:0<=b:=by omega
   have b1:b<=16:=by omega
   obtain ⟨r0,r1⟩:=YF s0 s1
   obtain ⟨l0,l1⟩:=Vi b0 b1
   have eq:qv x s b=(qnv x s*(2^b.toNat-1)/2^(s.toNat+1)+(2^b.toNat-1))/2:=by unfold qv; rw [if_pos ⟨s0,s1,hb⟩,if_neg hb0]
   obtain ⟨q0,q1⟩:=u6 (x:=x) (s:=s) rfl r0
   have hq:qnv x s=if 2^(s.toNat+1)<=x then 2^(s.toNat+1)-1 else if x<=0-2^(s.toNat+1) then 1-2^(s.toNat+1) else x:=rfl
   have eS:(s+1).toNat=s.toNat+1:=by omega
   have e1:wb .i64 (s+1)=s+1:=kw1 (by omega) (by omega)
   have kx:wb .i64 x=x:=zY (by omega) (by omega)
   dsimp only
   rw [e1,kx]
   have hpw:=Wk (n:=s+1) (by omega) (by omega)
   rw [eS] at hpw
   have hpb:=Wk (n:=b) b0 (by omega)
   rw [eq]
   generalize hRR:(2:Int)^(s.toNat+1)=R at *
   generalize hEE:(2:Int)^b.toNat=T at *
   generalize hNN:qnv x s=n at *
   refine Ok.bind hpw ?_
   intro r' hr'
   rw [show r'=R from hr']
   refine Ok.bind (Q:=fun f=>f=if R<=x then R-1 else x) (Ok.ite (fun d=>Ok.some ?_) (fun d=>Ok.some ?_)) ?_
   ·have d:=dt d
    show wb .i64 (R-1)=_
    rw [zY (by omega) (by omega),if_pos d]
   ·have d:=df d
    show x=_
    rw [if_neg d]
   ·rintro _ rfl
    rw [zY (x:=0-R) (by omega) (by omega),zY (x:=1-R) (by omega) (by omega)]
    refine Ok.bind (Q:=fun f=>f=n) (Ok.ite (fun d=>Ok.some ?_) (fun d=>Ok.some ?_)) ?_
    ·have d:=dt d
     show 1-R=n
     rw [hq]
     by_cases c:R<=x
     ·rw [if_pos c] at d; omega
     ·rw [if_neg c] at d; rw [if_neg c,if_pos d]
    ·have d:=df d
     show (if R<=x then R-1 else x)=n
     rw [hq]
     by_cases c:R<=x
     ·rw [if_pos c,if_pos c]
     ·rw [if_neg c] at d; rw [if_neg c,if_neg c,if_neg d]
    ·intro r' hr'
     rw [show r'=n from hr']
     refine Ok.bind hpb ?_
     intro r' hr'
     rw [show r'=T from hr']
     rw [zY (x:=T-1) (by omega) (by omega)]
     obtain ⟨p0,p1⟩:=qprod (n:=n) (E:=T-1) (by omega) (by omega) (by omega) (by omega)
     have d0:-4294967296<=n*(T-1)/R:=Int.le_ediv_of_mul_le (by omega) (by
      have:-4294967296*R<=-4294967296*1:=Int.mul_le_mul_of_nonpos_left (by omega) (by omega)
      omega)
     have d1:n*(T-1)/R<=4294967296:=Int.ediv_le_of_le_mul (by omega) (by
      have:4294967296*1<=4294967296*R:=Int.mul_le_mul_of_nonneg_left (by omega) (by omega)
      omega)
     rw [zY (x:=n*(T-1)) (by omega) (by omega)]
     refine Ok.bind (Ok.is (Wm (x:=n*(T-1)) (d:=R) (by omega) (by omega) (by omega) (by omega))) ?_
     rintro _ rfl
     rw [zY (x:=n*(T-1)/R+(T-1)) (by omega) (by omega)]
     refine Ok.bind (Ok.is (Wm (x:=n*(T-1)/R+(T-1)) (d:=2) (by omega) (by omega) (by omega) (by omega))) ?_
     rintro _ rfl
     exact Ok.some rfl
end Go.Fo
