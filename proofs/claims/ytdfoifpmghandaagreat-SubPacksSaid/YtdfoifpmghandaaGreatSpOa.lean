/- Bits are taken and laid; sums; lists of pairs: they come to results. -/
import Derived.Test.YtdfoifpmghandaaGreatSpOk
import Derived.Test.YtdfoifpmghandaaGreatSpAo
namespace Go.Fo
set_option maxRecDepth 6000
theorem kw1 {x : Int} (h0 : -1000000000 ≤ x) (h1 : x ≤ 1000000000) : kwrap .i64 (x + 1) = x + 1:=kw64 (by omega) (by omega)
theorem ahead2_w {y : Int} (h0 : 0 ≤ y) (h1 : y ≤ 100000) (b : List Int) : bits_ends_ahead_2 5000 y 0 b = some (y / 8,kshr .u8 128 (y % 8),y + 1):=by
 unfold bits_ends_ahead_2
 dsimp only
 rw [kw1 (by omega) (by omega),Int.tdiv_eq_ediv_of_nonneg h0,Int.tmod_eq_emod_of_nonneg h0,kw64 (x:=y / 8) (by omega) (by omega)]
 exact gd_eq (by omega) rfl
theorem ahead_w {y : Int} (h0 : 0 ≤ y) (h1 : y ≤ 100000) (b : List Int) : bits_ends_ahead 5000 y 0 b = some (y / 8,kshr .u8 128 (y % 8),y + 1):=ahead2_w h0 h1 b
theorem may2_ok {k x : Int} {b : List Int} (hx : 0 ≤ x) (hb : b.length ≤ 600) (hx2 : x ≤ 8 * (b.length : Int)) : Ok (fun r=>r = 0 → 0 ≤ k ∧ k ≤ 32 ∧ x + k ≤ 8 * (b.length : Int)) (bits_ends_may_2 5000 k (b.length : Int) x 0 b):=by
 refine Ok.ite (fun _=>Ok.some (fun h=>by cases h)) (fun c=>?_)
 have e : bits_ends_left_2 5000 (b.length : Int) x 0 b = some (8 * (b.length : Int) - x):=by
  unfold bits_ends_left_2
  dsimp only
  rw [kw64 (x:=8 * (b.length : Int)) (by omega) (by omega),kw64 (x:=8 * (b.length : Int) - x) (by omega) (by omega),Int.sub_zero,kw64 (by omega) (by omega)]
 refine Ok.bind (Ok.is e) ?_
 rintro _ rfl
 refine Ok.ite (fun _=>Ok.some (fun h=>by cases h)) (fun c2=>Ok.some (fun _=>?_))
 have c2:=df c2
 have c3 : ¬ k < 0 ∧ ¬ k > 32:=by
  cases h1 : decide (k < 0)
  ·rw [h1] at c; exact ⟨df h1,df c⟩
  ·rw [h1] at c; cases c
 omega
theorem may_ok {k x : Int} {b : List Int} (hx : 0 ≤ x) (hb : b.length ≤ 600) (hx2 : x ≤ 8 * (b.length : Int)) : Ok (fun r=>r = 0 → 0 ≤ k ∧ k ≤ 32 ∧ x + k ≤ 8 * (b.length : Int)) (bits_ends_may 5000 k (b.length : Int) x 0 b):=may2_ok hx hb hx2
theorem front_ok {v k x : Int} {b : List Int} (hb : b.length ≤ 600) (hx : 0 ≤ x) (hx2 : x ≤ 8 * (b.length : Int)) : Ok (fun r=>r.2.2.length = b.length ∧ 0 ≤ r.2.1 ∧ r.2.1 ≤ 8 * (b.length : Int)) (bits_Pad_Front_2 5000 v k x 0 b):=by
 have hw : Ok (fun r=>r = 0 → 0 ≤ k ∧ k ≤ 32 ∧ x + k ≤ 8 * (b.length : Int)) (bits_Pad_write_2 5000 v k x 0 b):=by
  refine Ok.gd (fun c=>?_) ?_
  ·cases h1 : decide (k ≥ 0)
   ·have c : (bif decide (k ≥ 0) then decide (k < 32) else false) = true:=c
    rw [h1] at c; cases c
   ·exact dt h1
  refine Ok.ite (fun _=>Ok.some (fun h=>by cases h)) (fun _=>?_)
  exact Ok.bind (may_ok hx hb hx2) (fun r hr=>Ok.some hr)
 refine Ok.bind hw ?_
 intro r hr
 refine Ok.ite (fun _=>Ok.some ⟨rfl,hx,hx2⟩) (fun c=>?_)
 obtain ⟨k0,k1,k2⟩:=hr (by simpa using c)
 have hl : Ok (fun r=>r.2.length = b.length ∧ 0 ≤ r.1 ∧ r.1 ≤ 8 * (b.length : Int)) (bits_Pad_Front_2.l0 5000 v 0 5000 (kwrap .i64 (k - 1)) x b):=by
  rw [kw64 (x:=k - 1) (by omega) (by omega)]
  unfold bits_Pad_Front_2.l0
  refine rounds_ok3 (fun i y l=>-1 ≤ i ∧ i < k ∧ y = x + (k - 1 - i) ∧ l.length = b.length) (fun i _ _=>(i + 1).toNat) _ ?_ 5000 _ _ _ ⟨by omega,by omega,by omega,rfl⟩ (by omega)
  rintro next i y l ⟨h1,h2,h3,h4⟩ ih
  refine Ok.ite (fun c=>?_) (fun c=>Ok.some ⟨h4,by show 0 ≤ y; omega,by show y ≤ _; omega⟩)
  have c:=dt c
  refine Ok.bind (Q:=fun r=>r.1 = y + 1 ∧ r.2.length = b.length) ?_ ?_
  ·refine Ok.bind (Ok.is (ahead_w (y:=y) (by omega) (by omega) l)) ?_
   rintro _ rfl
   refine Ok.gd (by omega) (Ok.ite (fun _=>Ok.gd ⟨by omega,by omega,by omega,by omega,by omega,by omega⟩ (Ok.some ⟨rfl,?_⟩)) (fun _=>Ok.some ⟨rfl,h4⟩))
   show (List.set _ _ _).length = _
   rw [List.length_set]; exact h4
  ·rintro ⟨r1,r2⟩ ⟨g1,g2⟩
   have e : kwrap .i64 (i - 1) = i - 1:=kw64 (by omega) (by omega)
   have g1 : r1 = y + 1:=g1
   exact ih _ _ _ ⟨by omega,by omega,by omega,g2⟩ (by omega)
 refine Ok.bind hl ?_
 rintro ⟨y,l⟩ ⟨h1,h2,h3⟩
 exact Ok.some ⟨h1,h2,h3⟩
theorem putO {l : List (Int × Int)} {x : Int} {b : List Int} (hl : l.length ≤ 1000) (hb : b.length ≤ 600) (hx : 0 ≤ x) (hx2 : x ≤ 8 * (b.length : Int)) : Ok (fun r=>r.2.2.length = b.length ∧ 0 ≤ r.2.1 ∧ r.2.1 ≤ 8 * (b.length : Int)) (subband_put_2 5000 l x 0 b):=by
 have h : Ok (fun r : Int × Int × List Int=>r.2.2.length = b.length ∧ 0 ≤ r.2.1 ∧ r.2.1 ≤ 8 * (b.length : Int)) (subband_put_2.l0 5000 l (l.length : Int) 0 5000 0 0 x b):=by
  unfold subband_put_2.l0
  refine rounds_ok4 (fun _ i y c=>0 ≤ i ∧ i ≤ (l.length : Int) ∧ c.length = b.length ∧ 0 ≤ y ∧ y ≤ 8 * (b.length : Int)) (fun _ i _ _=>((l.length : Int) - i).toNat) _ ?_ 5000 _ _ _ _ ⟨by omega,by omega,rfl,hx,hx2⟩ (by omega)
  rintro next n i y c ⟨h1,h2,h3,h4,h5⟩ ih
  refine Ok.ite (fun d=>?_) (fun d=>Ok.some ⟨h3,h4,h5⟩)
  have d:=dt d
  refine Ok.gd ⟨h1,d⟩ (Ok.bind (front_ok (b:=c) (by omega) h4 (by omega)) ?_)
  rintro ⟨r1,r2,r3⟩ ⟨g1,g2,g3⟩
  have e:=kw1 (x:=i) (by omega) (by omega)
  exact ih _ _ _ _ ⟨by omega,by omega,g1.trans h3,g2,by rw [h3] at g3; exact g3⟩ (by omega)
 refine Ok.bind h ?_
 rintro ⟨n,y,c⟩ hr
 exact Ok.some hr
theorem clone_ok {b : List Int} (h0 : 0 < b.length) (hb : b.length ≤ 100000) : Ok (fun r=>r = b) (bytes_Clone_2 5000 b) :=
 Ok.gd (fun e=>by rw [e] at h0; cases h0) (Ok.gd (by show ((0 : Int) + _) * 1 ≤ _; omega) (Ok.some rfl))
end Go.Fo
