/- Rounding and waves: what the program and the document reckon. -/
import Derived.Test.YtiihmaaobmpabaaGreatJ3
import Derived.Test.YtiihmaaobmpabaaGreatSfF
namespace Go.Fo
set_option maxRecDepth 6000

def rnd (n:Int) (s:Nat):Int:=(n/2^(s-1)+1)/2

theorem vF (s:Nat):(0:Int)<2^s:=Int.pow_pos (by decide)
theorem Wt {s t:Nat} (h:s<=t):(2:Int)^s<=2^t:=by
 have:=Nat.pow_le_pow_right (n:=2) (by decide) h
 exact_mod_cast this
theorem vR {n d:Int} (hd:1<=d) {a:Int} (h0:-a<=n) (h1:n<=a):-a<=n/d/\n/d<=a:=by
 have ha:0<=a:=by omega
 have h2:=Int.mul_ediv_add_emod n d
 have h3:=Int.emod_nonneg n (b:=d) (by omega)
 have h4:=Int.emod_lt_of_pos n (b:=d) (by omega)
 constructor
 ·refine Int.le_ediv_of_mul_le (by omega) ?_
  have:-a*d<=-a*1:=Int.mul_le_mul_of_nonpos_left (by omega) hd
  omega
 ·refine Int.ediv_le_of_le_mul (by omega) ?_
  have:a*1<=a*d:=Int.mul_le_mul_of_nonneg_left hd ha
  omega

theorem uE (K:Nat) {n s:Int} (h0:-9223372036854775808<=n) (h1:n<=9223372036854775807) (hs:1<=s) (hs2:s<=62):jw K n s=some (rnd n s.toNat):=by
 obtain ⟨q,rfl⟩:∃ q:Nat,s=((q+1:Nat):Int):=⟨(s-1).toNat,by omega⟩
 have hq:q<=61:=by omega
 have hw:jx K ((q+1:Nat):Int) 0 62=some ((q+1:Nat):Int):=by
  unfold jx
  rw [decide_eq_false (show ¬ ((q+1:Nat):Int)<0 by omega),decide_eq_false (show ¬ ((q+1:Nat):Int)>62 by omega)]
  rfl
 refine wr hw ?_
 refine wA (by simp; omega) ?_
 refine zi (by omega) ?_
 have e4:wa .i64 (((q+1:Nat):Int)-1)=(q:Int):=by rw [wX (by omega) (by omega)]; omega
 simp only [e4]
 refine zi (by omega) ?_
 have hp:=vF q
 have s1:kshr .i64 n ((q+1:Nat):Int)=n/2^q/2:=by
  unfold kshr
  rw [show min ((q+1:Nat):Int).toNat (IntKind.bits .i64)=q+1 by
   show min _ 64=_
   omega,Int.fdiv_eq_ediv_of_nonneg _ (by have:=vF (q+1); omega),Int.pow_succ,Int.ediv_ediv_of_nonneg (by omega)]
 have s2:kshr .i64 n (q:Int)=n/2^q:=by
  unfold kshr
  rw [show min ((q:Int)).toNat (IntKind.bits .i64)=q by
   show min _ 64=_
   omega,Int.fdiv_eq_ediv_of_nonneg _ (by omega)]
 have s3:∀ x:Int,kand .i64 x 1=x%2:=fun x=>Qy x 1 (by decide)
 obtain ⟨b1,b2⟩:=vR (n:=n) (d:=2^q) (by omega) (a:=9223372036854775808) (by omega) (by omega)
 rw [s1,s2,s3]
 generalize hx:n/2^q=x at b1 b2 ⊢
 have:rnd n ((q+1:Nat):Int).toNat=(x+1)/2:=by
  unfold rnd
  rw [show ((q+1:Nat):Int).toNat-1=q by omega,hx]
 rw [this,wX (by omega) (by omega)]
 congr 1; omega

theorem UF (K:Nat) {n d:Int} (h0:-9223372036854775808<=n) (h1:n<=9223372036854775807) (hd:1<=d) (hx:n≠-9223372036854775808\/2<=d):qV K n d=some (n/d):=by
 have t1:=Int.mul_tdiv_add_tmod n d
 have key:Int.tdiv n d=(if 0<=n\/n%d=0 then n/d else n/d+1):=by
  rw [Int.tdiv_eq_ediv]
  have hs:Int.sign d=1:=Int.sign_eq_one_of_pos (by omega)
  rw [hs]
  have:d∣n↔n%d=0:=Int.dvd_iff_emod_eq_zero
  simp only [this]
  split<;>simp
 have e2:=Int.mul_ediv_add_emod n d
 have m0:=Int.emod_nonneg n (b:=d) (by omega)
 have m1:=Int.emod_lt_of_pos n (b:=d) (by omega)
 obtain ⟨b1,b2⟩:=vR (n:=n) (d:=d) hd (a:=9223372036854775808) (by omega) (by omega)
 have tb:-9223372036854775808<=Int.tdiv n d/\Int.tdiv n d<=9223372036854775807:=by
  rw [key]
  split
  ·rename_i h
   rcases h with h | h
   ·obtain ⟨_,c2⟩:=vR (n:=n) (d:=d) hd (a:=9223372036854775807) (by omega) (by omega)
    omega
   ·have:n/d<=9223372036854775807:=by
     rcases Int.le_total n 0 with h2 | h2
     ·have:n/d<=0:=Int.ediv_nonpos_of_nonpos_of_neg h2 (by omega)
      omega
     ·exact (vR (n:=n) (d:=d) hd (a:=9223372036854775807) (by omega) (by omega)).2
    omega
  ·rename_i h
   have h2:n<0:=by omega
   have:n/d<0:=Int.ediv_neg_of_neg_of_pos h2 (by omega)
   omega
 refine zi (by omega) ?_
 simp only [wX tb.1 tb.2]
 refine zi (by omega) ?_
 have tm:Int.tmod n d<0↔¬ (0<=n\/n%d=0):=by
  have:Int.tmod n d=n-d*Int.tdiv n d:=by omega
  rw [this,key]
  split
  ·rename_i h
   have:n-d*(n/d)=n%d:=by omega
   rw [this]; simp only [h,not_true_eq_false,iff_false]; omega
  ·rename_i h
   have e3:d*(n/d+1)=d*(n/d)+d:=by rw [Int.mul_add,Int.mul_one]
   rw [e3]; simp only [h,not_false_eq_true,iff_true]; omega
 by_cases h:0<=n\/n%d=0
 ·refine wr (wA (decide_eq_false (fun hh=>(tm.1 hh) h)) rfl) ?_
  rw [key,if_pos h]
 ·refine wr (wO (decide_eq_true (tm.2 h)) rfl) ?_
  rw [key,if_neg h,wX (by omega) (by omega)]
  congr 1; omega

theorem Ui (K:Nat) {n s:Int} (h0:-9223372036854775808<=n) (h1:n<=9223372036854775807) (hs:2<=s) (hs2:s<=62):zO K n s=some (rnd n s.toNat):=by
 obtain ⟨q,rfl⟩:∃ q:Nat,s=((q+1:Nat):Int):=⟨(s-1).toNat,by omega⟩
 have hq:q<=61:=by omega
 have hm:imax (imin ((q+1:Nat):Int) 62) 0=((q+1:Nat):Int):=by
  unfold imax imin; split<;>split<;>omega
 unfold zO
 simp only [hm]
 refine wA (by simp; omega) ?_
 have e4:wa .i64 (((q+1:Nat):Int)-1)=(q:Int):=by rw [wX (by omega) (by omega)]; omega
 have e5:wa .u64 (q:Int)=(q:Int):=by rw [H7]; omega
 simp only [e4,e5]
 have hp:=vF q
 have e6:kshl .i64 1 (q:Int)=2^q:=by
  unfold kshl
  rw [show min ((q:Int)).toNat (IntKind.bits .i64)=q by
   show min _ 64=_
   omega,Int.one_mul]
  have:=Wt (s:=q) (t:=61) hq
  exact wX (by omega) (by omega)
 rw [e6]
 refine zi (by omega) ?_
 refine wr (UF K h0 (by omega) (by omega) (by
  right
  have:=Wt (s:=1) (t:=q) (by omega)
  omega)) ?_
 obtain ⟨b1,b2⟩:=vR (n:=n) (d:=2^q) (by omega) (a:=9223372036854775808) (by omega) (by omega)
 have b3:n/2^q<=9223372036854775806:=by
  have h2:(2:Int)<=2^q:=Wt (s:=1) (t:=q) (by omega)
  have h3:n/2^q<9223372036854775807:=Int.ediv_lt_of_lt_mul (by omega) (by
   have:(9223372036854775807:Int)*2<=9223372036854775807*2^q:=Int.mul_le_mul_of_nonneg_left h2 (by decide)
   omega)
  omega
 refine wr (x:=(n/2^q+1)/2) ?_ ?_
 ·rw [wX (by omega) (by omega)]
  exact UF K (by omega) (by omega) (by omega) (.inr (by omega))
 ·unfold rnd; rw [show ((q+1:Nat):Int).toNat-1=q by omega]

end Go.Fo
