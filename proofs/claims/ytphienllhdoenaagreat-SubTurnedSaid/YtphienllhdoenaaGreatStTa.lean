/- A check of 8 bits. -/
import Derived.Test.YtphienllhdoenaaGreatStF
namespace Go.Fo
set_option maxRecDepth 6000
def nx (s b : Nat) : Nat:=(2 * s % 256) ^^^ (29 * ((s / 128 + b) % 2))
theorem nxB : ((List.range 256).all fun s=>(List.range 2).all fun b=>(nx s b % 2 == (s / 128 + b) % 2) && decide (nx s b < 256)) = true:=by kernel_rfl
theorem nx_r {s b : Nat} (hs : s < 256) (hb : b < 2) : nx s b % 2 = (s / 128 + b) % 2 ∧ nx s b < 256:=by
 have h:=List.all_eq_true.mp (List.all_eq_true.mp nxB s (List.mem_range.mpr hs)) b (List.mem_range.mpr hb)
 have h:=Bool.and_eq_true_iff.mp h
 exact ⟨beq_iff_eq.mp h.1,of_decide_eq_true h.2⟩
theorem xor_cancel {a b c : Nat} (h : a ^^^ c = b ^^^ c) : a = b:=by
 have:=congrArg (· ^^^ c) h
 simpa [Nat.xor_assoc] using this
theorem nx_back {s s' b b' m : Nat} (hs : s < 256) (hs' : s' < 256) (hb : b < 2) (hb' : b' < 2) (hm : m < 8) (h : nx s b % 2 ^ (m + 1) = nx s' b' % 2 ^ (m + 1)) : (s / 128 + b) % 2 = (s' / 128 + b') % 2 ∧ s % 2 ^ m = s' % 2 ^ m:=by
 have e2 : (s / 128 + b) % 2 = (s' / 128 + b') % 2:=by
  have h2:=congrArg (· % 2) h
  have d : (2 : Nat) ∣ 2 ^ (m + 1):=⟨2 ^ m,by rw [Nat.pow_succ]; omega⟩
  simp only [Nat.mod_mod_of_dvd _ d] at h2
  rw [(nx_r hs hb).1,(nx_r hs' hb').1] at h2
  exact h2
 refine ⟨e2,?_⟩
 unfold nx at h
 rw [e2,Nat.xor_mod_two_pow,Nat.xor_mod_two_pow] at h
 have h:=xor_cancel h
 have d : 2 ^ (m + 1) ∣ 256:=Nat.pow_dvd_pow 2 (show m + 1 ≤ 8 by omega)
 rw [Nat.mod_mod_of_dvd _ d,Nat.mod_mod_of_dvd _ d,Nat.pow_succ,Nat.mul_comm (2 ^ m) 2,Nat.mul_mod_mul_left,Nat.mul_mod_mul_left] at h
 omega
def crc (s : Nat) (l : List Nat) : Nat:=l.foldl nx s
def Bn (l : List Nat) : Prop:=∀ b ∈ l,b < 2
theorem crc_r : ∀ (l : List Nat) {s : Nat},s < 256 → Bn l → crc s l < 256
 | [],_,hs,_=>hs
 | b :: l,s,hs,hl=>crc_r l (nx_r hs (hl b (List.mem_cons_self ..))).2 (fun c hc=>hl c (List.mem_cons_of_mem _ hc))
theorem crc_back : ∀ (l l' : List Nat) {s s' : Nat} (m : Nat),s < 256 → s' < 256 → Bn l → Bn l' → l.length = l'.length → m + l.length ≤ 8 → crc s l % 2 ^ (m + l.length) = crc s' l' % 2 ^ (m + l.length) → s % 2 ^ m = s' % 2 ^ m
 | [],[],_,_,_,_,_,_,_,_,_,h=>h
 | b :: l,b' :: l',s,s',m,hs,hs',hl,hl',hn,hm,h=>by
  have hb:=hl b (List.mem_cons_self ..)
  have hb':=hl' b' (List.mem_cons_self ..)
  have hn : l.length = l'.length:=by simpa using hn
  have hlen : (b :: l).length = l.length + 1:=rfl
  rw [hlen] at hm
  have h : crc (nx s b) l % 2 ^ (m + 1 + l.length) = crc (nx s' b') l' % 2 ^ (m + 1 + l.length):=by
   rw [hlen,show m + (l.length + 1) = m + 1 + l.length by omega] at h; exact h
  have:=crc_back l l' (m + 1) (nx_r hs hb).2 (nx_r hs' hb').2 (fun c hc=>hl c (List.mem_cons_of_mem _ hc)) (fun c hc=>hl' c (List.mem_cons_of_mem _ hc)) hn (by omega) h
  exact (nx_back hs hs' hb hb' (by omega) this).2
theorem crc_win : ∀ (l l' : List Nat) {s : Nat},s < 256 → Bn l → Bn l' → l.length = l'.length → l.length ≤ 8 → crc s l = crc s l' → l = l'
 | [],[],_,_,_,_,_,_,_=>rfl
 | b :: l,b' :: l',s,hs,hl,hl',hn,hm,h=>by
  have hb:=hl b (List.mem_cons_self ..)
  have hb':=hl' b' (List.mem_cons_self ..)
  have hn2 : l.length = l'.length:=by simpa using hn
  have hlen : (b :: l).length = l.length + 1:=rfl
  rw [hlen] at hm
  have h2 : crc (nx s b) l = crc (nx s b') l':=h
  have tl : Bn l:=fun c hc=>hl c (List.mem_cons_of_mem _ hc)
  have tl' : Bn l':=fun c hc=>hl' c (List.mem_cons_of_mem _ hc)
  have h1:=crc_back l l' 1 (nx_r hs hb).2 (nx_r hs hb').2 tl tl' hn2 (by omega) (by rw [h2])
  have h1 : nx s b % 2 = nx s b' % 2:=h1
  rw [(nx_r hs hb).1,(nx_r hs hb').1] at h1
  have e : b = b':=by omega
  subst e
  rw [crc_win l l' (nx_r hs hb).2 tl tl' hn2 (by omega) h2]
theorem crc_app (s : Nat) (l m : List Nat) : crc s (l ++ m) = crc (crc s l) m:=by unfold crc; rw [List.foldl_append]
theorem nx_inj {s s' b : Nat} (hs : s < 256) (hs' : s' < 256) (hb : b < 2) (h : nx s b = nx s' b) : s = s':=by
 have h7:=(nx_back (m:=7) hs hs' hb hb (by omega) (by rw [h]))
 have : s % 128 = s' % 128:=h7.2
 omega
theorem crc_inj : ∀ (l : List Nat) {s s' : Nat},s < 256 → s' < 256 → Bn l → crc s l = crc s' l → s = s'
 | [],_,_,_,_,_,h=>h
 | b :: l,s,s',hs,hs',hl,h=>by
  have hb:=hl b (List.mem_cons_self ..)
  exact nx_inj hs hs' hb (crc_inj l (nx_r hs hb).2 (nx_r hs' hb).2 (fun c hc=>hl c (List.mem_cons_of_mem _ hc)) h)
theorem crc_told {s : Nat} {A W W' Z : List Nat} (hs : s < 256) (hA : Bn A) (hW : Bn W) (hW' : Bn W') (hZ : Bn Z) (hl : W.length = W'.length) (h8 : W.length ≤ 8) (h : crc s (A ++ W ++ Z) = crc s (A ++ W' ++ Z)) : W = W':=by
 rw [crc_app,crc_app,crc_app,crc_app] at h
 have hA':=crc_r A hs hA
 exact crc_win W W' hA' hW hW' hl h8 (crc_inj Z (crc_r W hA' hW) (crc_r W' hA' hW') hZ h)
end Go.Fo
