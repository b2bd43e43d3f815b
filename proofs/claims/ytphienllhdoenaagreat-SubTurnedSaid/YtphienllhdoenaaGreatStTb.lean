/- The check of a frame,exactly; bits that are turned. -/
import Derived.Test.YtphienllhdoenaaGreatStEj
import Derived.Test.YtphienllhdoenaaGreatStTa
namespace Go.Fo
set_option maxRecDepth 6000
def natL (M : List Int) : List Nat:=M.map Int.toNat
theorem natL_bn {M : List Int} (h : Bit M) : Bn (natL M):=by
 intro b hb
 obtain ⟨x,hx,rfl⟩:=List.mem_map.mp hb
 obtain ⟨i,hi,rfl⟩:=List.mem_iff_getElem.mp hx
 have:=h i
 have e : b1 M i = M[i]:=by unfold b1; rw [List.getD_eq_getElem?_getD,List.getElem?_eq_getElem hi]; rfl
 rw [e] at this
 omega
theorem natL_app (L M : List Int) : natL (L ++ M) = natL L ++ natL M:=List.map_append
theorem natL_rng (M : List Int) : ((List.range M.length).map fun i=>(b1 M i).toNat) = natL M:=by
 unfold natL
 apply List.ext_getElem
 ·simp
 ·intro i h1 h2
  have hi : i < M.length:=by simpa using h1
  rw [List.getElem_map,List.getElem_range,List.getElem_map]
  unfold b1
  rw [List.getD_eq_getElem?_getD,List.getElem?_eq_getElem hi]; rfl
theorem stepB : ((List.range 256).all fun s=>(List.range 2).all fun b=>check_kind_next 5000 8 15 29 (s : Int) (b : Int) == some ((nx s b : Nat) : Int)) = true:=by kernel_rfl
theorem step_w {s b : Nat} (hs : s < 256) (hb : b < 2) : check_kind_next 5000 8 15 29 (s : Int) (b : Int) = some ((nx s b : Nat) : Int):=by
 have h:=List.all_eq_true.mp (List.all_eq_true.mp stepB s (List.mem_range.mpr hs)) b (List.mem_range.mpr hb)
 exact beq_iff_eq.mp h
theorem csum_ok {M : List Int} {n : Nat} (hM : Bit M) (hn : n ≤ 600) (hk : M.length ≤ 8 * n) : Ok (fun r=>r = ((crc 15 (natL M) : Nat) : Int)) (check_kind_sum_2 5000 8 15 29 (pk n M) (M.length : Int)):=by
 refine Ok.bind (Q:=fun r=>r = ((crc 15 (natL M) : Nat) : Int)) ?_ (fun r hr=>Ok.some hr)
 unfold check_kind_sum_2.l0
 refine rounds_ok2 (fun s i=>0 ≤ i ∧ i ≤ (M.length : Int) ∧ s = ((crc 15 ((List.range i.toNat).map fun i=>(b1 M i).toNat) : Nat) : Int)) (fun _ i=>((M.length : Int) - i).toNat) _ ?_ 5000 _ _ ⟨by omega,by omega,rfl⟩ (by omega)
 rintro next s i ⟨h1,h2,h3⟩ ih
 refine Ok.ite (fun d=>?_) (fun d=>Ok.some ?_)
 ·have d:=dt d
  have e1 : kwrap .i64 (Int.tdiv i 8) = i / 8:=by rw [Int.tdiv_eq_ediv_of_nonneg h1,kw64 (by omega) (by omega)]
  have e2 : kwrap .i64 (7 - Int.tmod i 8) = 7 - i % 8:=by rw [Int.tmod_eq_emod_of_nonneg h1,kw64 (by omega) (by omega)]
  have hpr:=pby_r hM (i.toNat / 8)
  have hpb:=pby_bit hM (i.toNat / 8) (i.toNat % 8) (Nat.mod_lt _ (by decide))
  rw [show 8 * (i.toNat / 8) + i.toNat % 8 = i.toNat by omega] at hpb
  have hbit:=hM i.toNat
  dsimp only
  rw [e1,e2]
  refine Ok.gd ⟨by omega,by rw [pk_len]; omega⟩ (Ok.gd (by omega) ?_)
  have hat : Kd.nth (.int .u8) (pk n M) (Int.toNat (i / 8)) = pby M (i.toNat / 8):=by rw [show Int.toNat (i / 8) = i.toNat / 8 by omega,pk_at (by omega)]
  have hv : kand .u32 (kshr .u32 (kwrap .u32 (Kd.nth (.int .u8) (pk n M) (Int.toNat (i / 8)))) (7 - i % 8)) 1 = (((b1 M i.toNat).toNat : Nat) : Int):=by
   have hq : 0 ≤ pby M (i.toNat / 8) / 2 ^ (7 - i.toNat % 8) ∧ pby M (i.toNat / 8) / 2 ^ (7 - i.toNat % 8) < 4294967296:=by
    have p:=Int.pow_pos (n:=2) (m:=7 - i.toNat % 8) (by decide)
    have a1:=Int.ediv_nonneg hpr.1 (Int.le_of_lt p)
    have a2:=Int.ediv_le_self (2 ^ (7 - i.toNat % 8)) hpr.1
    omega
   rw [hat,kwu32 hpr.1 (by omega),show (7 - i % 8 : Int) = ((7 - i.toNat % 8 : Nat) : Int) by omega,shr32 (by omega),bits0 hq.1 hq.2,hpb]
   omega
  rw [hv,h3]
  have hb2 : (b1 M i.toNat).toNat < 2:=by omega
  have hbn : Bn ((List.range i.toNat).map fun i=>(b1 M i).toNat):=by
   intro b hb
   obtain ⟨j,_,rfl⟩:=List.mem_map.mp hb
   have:=hM j
   omega
  refine Ok.bind (Ok.is (step_w (crc_r _ (by decide) hbn) hb2)) ?_
  rintro _ rfl
  have e:=kw1 (x:=i) (by omega) (by omega)
  refine ih _ _ ⟨by omega,by omega,?_⟩ (by omega)
  rw [e,tS h1,rs_map,crc_app]; rfl
 ·have d:=df d
  rw [h3,show i.toNat = M.length by omega,natL_rng]
theorem sum_w (p0 p1 p2 p3 p4 p5 p6 p7 p8 p9 : Int) {J : List Int} {S : List (List Int)} (Q : List (List (List Int))) (hf : Fit p0 p1 p2 p3 p4 p5 p6 p7 p8 p9 S) (hj : Jn p0 p1 p2 p3 p4 p5 p6 p7 p8 p9 J) {s : Int} (h : subband_Params_sum 5000 p0 p1 p2 p3 p4 p5 p6 p7 p8 p9 J S Q = some s) : s = ((crc 15 (natL (bns (headL p1 p2 p3 p4 p5 p6 p7 ++ (joinL p6 J ++ scalL S)))) : Nat) : Int):=by
 have hm:=hf.1
 have h2 : p2 = 1 ∨ p2 = 2:=hm.1.2.2.2.1
 have h3 : p3 = 4 ∨ p3 = 8:=hm.1.2.2.2.2.1
 have h6 : p6 = 0 ∨ (p6 = 1 ∧ p2 = 2):=hm.1.2.2.2.2.2.2.2.1
 have w1 : wid (headL p1 p2 p3 p4 p5 p6 p7) = 16:=rfl
 have w2:=wid_joins p6 J (by omega)
 rw [hj.1] at w2
 have w3:=wid_scal (C:=p2) (N:=p3) (S:=S) ⟨hf.2.1,fun c a b=>(hf.2.2 c a b).1⟩ (by omega)
 have hws : wid (headL p1 p2 p3 p4 p5 p6 p7 ++ (joinL p6 J ++ scalL S)) ≤ 8 * 512:=by
  rw [wid_app,wid_app,w1]
  have a1 : p6 * p3 ≤ 8:=by rcases h6 with h | ⟨h,_⟩ <;> rw [h] <;> omega
  have a2 : 4 * p3 * p2 ≤ 64:=by rcases h2 with h | h <;> rw [h] <;> omega
  omega
 have key : Ok (fun s=>s = ((crc 15 (natL (bns (headL p1 p2 p3 p4 p5 p6 p7 ++ (joinL p6 J ++ scalL S)))) : Nat) : Int)) (subband_Params_sum 5000 p0 p1 p2 p3 p4 p5 p6 p7 p8 p9 J S Q):=by
  refine Ok.bind (Ok.is (new_w (by decide) (by decide))) ?_
  rintro _ rfl
  dsimp only
  rw [show Int.toNat 512 = 512 from rfl,pk_nil]
  refine Ok.bind (Ok.is (head_w p0 p1 p2 p3 p4 p5 p6 p7 p8 p9 hm)) ?_
  rintro _ rfl
  refine Ok.bind (Ok.is (putL (A:=[]) (n:=512) (by show 6 ≤ 1000; omega) (by decide) (head_fits p0 p1 p2 p3 p4 p5 p6 p7 p8 p9 hm) (by show 16 ≤ 8 * 512; omega))) ?_
  rintro _ rfl
  refine Ok.bind (side_w p0 p1 p2 p3 p4 p5 p6 p7 p8 p9 Q hf hj.1) ?_
  rintro _ ⟨rfl,hl⟩
  refine Ok.bind (Ok.is (putL (A:=headL p1 p2 p3 p4 p5 p6 p7) (n:=512) (by omega) (by decide) (side_fits p0 p1 p2 p3 p4 p5 p6 p7 p8 p9 hf hj) hws)) ?_
  rintro _ rfl
  refine Ok.bind (Q:=fun r=>r = pk 512 (bns (headL p1 p2 p3 p4 p5 p6 p7 ++ (joinL p6 J ++ scalL S)))) (Ok.bind (clone_ok (by rw [pk_len]; omega) (by rw [pk_len]; omega)) (fun r hr=>Ok.some hr)) ?_
  rintro _ rfl
  have ek : kwrap .i64 (((wid (headL p1 p2 p3 p4 p5 p6 p7) : Nat) : Int) + ((wid (joinL p6 J ++ scalL S) : Nat) : Int)) = (((bns (headL p1 p2 p3 p4 p5 p6 p7 ++ (joinL p6 J ++ scalL S))).length : Nat) : Int):=by
   show _ = ((wid (headL p1 p2 p3 p4 p5 p6 p7 ++ (joinL p6 J ++ scalL S)) : Nat) : Int)
   have hsum:=wid_app (headL p1 p2 p3 p4 p5 p6 p7) (joinL p6 J ++ scalL S)
   rw [kw64 (by omega) (by omega),hsum]; omega
  dsimp only
  rw [ek]
  generalize hM : bns (headL p1 p2 p3 p4 p5 p6 p7 ++ (joinL p6 J ++ scalL S)) = M at *
  have hMl : M.length ≤ 8 * 512:=by rw [← hM]; exact hws
  have hMb : Bit M:=by rw [← hM]; exact bns_bit _
  refine Ok.bind (Q:=fun r=>r.1 = ((crc 15 (natL M) : Nat) : Int)) ?_ ?_
  ·refine Ok.bind (Ok.is (show check_of 5000 8 = some (8,15,29,0) from rfl)) ?_
   rintro _ rfl
   have e : kwrap .i64 (8 * ((pk 512 M).length : Int)) = 4096:=by rw [pk_len]; rfl
   refine Ok.ite (fun c=>?_) (fun _=>Ok.bind (csum_ok hMb (by decide) hMl) (fun r hr=>Ok.some hr))
   have c : (bif (bif ((0 : Int) != 0) then true else decide ((M.length : Int) < 0)) then true else decide ((M.length : Int) > kwrap .i64 (8 * ((pk 512 M).length : Int)))) = true:=c
   rw [e,decide_eq_false (by omega),decide_eq_false (by omega)] at c
   cases c
  ·rintro ⟨y,e⟩ hy
   have hy : y = ((crc 15 (natL M) : Nat) : Int):=hy
   have hr:=crc_r (natL M) (s:=15) (by decide) (natL_bn hMb)
   exact Ok.some (by rw [hy,kw64 (by omega) (by omega)])
 obtain ⟨_,h',rfl⟩:=key
 rw [h] at h'
 injection h'
theorem pk_inj {n : Nat} {L M : List Int} (hL : Bit L) (hM : Bit M) (h : pk n L = pk n M) : ∀ i,i < 8 * n → b1 L i = b1 M i:=by
 intro i hi
 have e : pby L (i / 8) = pby M (i / 8):=by
  rw [← pk_at (n:=n) (by omega),h,pk_at (by omega)]
 have a:=pby_bit hL (i / 8) (i % 8) (Nat.mod_lt _ (by decide))
 have b:=pby_bit hM (i / 8) (i % 8) (Nat.mod_lt _ (by decide))
 rw [show 8 * (i / 8) + i % 8 = i by omega] at a b
 rw [← a,← b,e]
theorem b1_set {M : List Int} {p q : Nat} {v : Int} (hp : p < M.length) : b1 (M.set p v) q = if q = p then v else b1 M q:=by
 unfold b1
 rw [List.getD_eq_getElem?_getD,List.getD_eq_getElem?_getD]
 by_cases e : q = p
 ·rw [if_pos e,e,List.getElem?_set_self hp]; rfl
 ·rw [if_neg e,List.getElem?_set_ne (Ne.symm e)]
theorem xorB : ((List.range 256).all fun y=>(List.range 8).all fun t=>kxor .u8 (y : Int) (kshr .u8 128 (t : Int)) == (if y / 2 ^ (7 - t) % 2 = 1 then (y : Int) - 2 ^ (7 - t) else (y : Int) + 2 ^ (7 - t))) = true:=by kernel_rfl
theorem xor_w {y : Int} {t : Nat} (h0 : 0 ≤ y) (h1 : y < 256) (ht : t < 8) : kxor .u8 y (kshr .u8 128 (t : Int)) = if y / 2 ^ (7 - t) % 2 = 1 then y - 2 ^ (7 - t) else y + 2 ^ (7 - t):=by
 have h:=List.all_eq_true.1 (List.all_eq_true.1 xorB y.toNat (List.mem_range.2 (by omega))) t (List.mem_range.2 ht)
 have h:=beq_iff_eq.1 h
 have e : ((y.toNat : Nat) : Int) = y:=Int.toNat_of_nonneg h0
 rw [e] at h
 rw [h]
 have e2 : (y.toNat / 2 ^ (7 - t) % 2 = 1) ↔ (y / 2 ^ (7 - t) % 2 = 1):=by
  constructor
  ·intro q
   have : ((y.toNat / 2 ^ (7 - t) % 2 : Nat) : Int) = 1:=by exact_mod_cast q
   push_cast at this; rwa [e] at this
  ·intro q
   have : ((y.toNat / 2 ^ (7 - t) % 2 : Nat) : Int) = 1:=by push_cast; rwa [e]
   exact_mod_cast this
 by_cases q : y / 2 ^ (7 - t) % 2 = 1
 ·rw [if_pos q,if_pos (e2.mpr q)]
 ·rw [if_neg q,if_neg (fun x=>q (e2.mp x))]
theorem flip_w {M : List Int} {n p : Nat} (hM : Bit M) (hp : p < M.length) (hn : p < 8 * n) : (pk n M).set (p / 8) (kxor .u8 (Kd.nth (.int .u8) (pk n M) (p / 8)) (kshr .u8 128 ((p % 8 : Nat) : Int))) = pk n (M.set p (1 - b1 M p)):=by
 have hr:=pby_r hM (p / 8)
 have hpb:=pby_bit hM (p / 8) (p % 8) (Nat.mod_lt _ (by decide))
 rw [show 8 * (p / 8) + p % 8 = p by omega] at hpb
 rw [show Kd.nth (.int .u8) (pk n M) (p / 8) = pby M (p / 8) from pk_at (by omega),xor_w hr.1 hr.2 (Nat.mod_lt _ (by decide)),hpb]
 have ha : ∀ i,b1 (M.set p (1 - b1 M p)) i = if i = p then 1 - b1 M p else b1 M i:=fun i=>b1_set hp
 apply List.ext_getElem
 ·simp [pk]
 ·intro k g1 g2
  rw [List.getElem_set]
  simp only [pk,List.getElem_map,List.getElem_range]
  by_cases e : p / 8 = k
  ·rw [if_pos e,← e]
   have ha2 : ∀ t,b1 (M.set p (1 - b1 M p)) (8 * (p / 8) + t) = if t = p % 8 then 1 - b1 M p else b1 M (8 * (p / 8) + t):=fun t=>by
    rw [ha]
    by_cases q : t = p % 8
    ·rw [if_pos q,if_pos (by omega)]
    ·rw [if_neg q,if_neg (by omega)]
   have hq : p % 8 = 0 ∨ p % 8 = 1 ∨ p % 8 = 2 ∨ p % 8 = 3 ∨ p % 8 = 4 ∨ p % 8 = 5 ∨ p % 8 = 6 ∨ p % 8 = 7:=by omega
   have hpp : b1 M p = b1 M (8 * (p / 8) + p % 8):=by rw [show 8 * (p / 8) + p % 8 = p by omega]
   have hbit:=hM p
   unfold pby
   rw [show b1 (M.set p (1 - b1 M p)) (8 * (p / 8)) = _ from ha2 0,ha2 1,ha2 2,ha2 3,ha2 4,ha2 5,ha2 6,ha2 7]
   rcases hq with e | e | e | e | e | e | e | e <;> rw [e] at hpp ⊢ <;> simp only [Nat.reduceSub,Int.reducePow,if_true,if_false,Nat.reduceEqDiff,Nat.add_zero] at hpp ⊢ <;> rcases hbit with q | q <;> rw [q] at hpp ⊢ <;> first | (rw [if_pos rfl]; omega) | (rw [if_neg (by decide)]; omega)
  ·rw [if_neg e]
   have hs : ∀ t,t < 8 → b1 (M.set p (1 - b1 M p)) (8 * k + t) = b1 M (8 * k + t):=fun t ht=>by rw [ha,if_neg (by omega)]
   unfold pby
   rw [show b1 (M.set p (1 - b1 M p)) (8 * k) = b1 M (8 * k) from hs 0 (by omega),hs 1 (by omega),hs 2 (by omega),hs 3 (by omega),hs 4 (by omega),hs 5 (by omega),hs 6 (by omega),hs 7 (by omega)]
end Go.Fo
