/- Builders of strings, by hand: their address, and the string that they come to. -/
import Derived.Test.YtphienllhdoenaaDoorProg
import Derived.Tactics
import Derived.Tactics2
import Derived.WalkKit
import Derived.Laws.Externs
import Derived.Laws.StandIn
import Derived.Lib.Builder
import Derived.Lib.UnsafeStr
import Derived.RegionTactic
import Derived.RegionCalls
import Derived.KernelRfl
import Derived.Test.YtphienllhdoenaaDoorJ3
namespace Go.Fo
section
open Go.Proofs
set_option maxRecDepth 100000
set_option maxHeartbeats 2000000
theorem copyUsed_calls (b : Nat) (w : World) (h0 : w.cell? ⟨b, 0, none⟩ = some (.pointer (some ⟨b, 0, none⟩))) :
    Calls Tryd.prog 47 #[.pointer (some ⟨b, 0, none⟩)] w fun e w' => e = .returned (.tuple #[]) ∧ w' = w := by
  obtain ⟨j, hj, _⟩ := Option.map_eq_some_iff.1 (show (Tryd.prog.info? 65).map (·.size) = some 2 by kernel_rfl)
  go_enter Tryd.func47, Tryd.ntmps47
  go_wp2
  rw [Lib.run_neq_ptr_same w _ Tryd.underlying63 hj]
  go_wp2
  go_end0
  exact ⟨rfl, rfl⟩
theorem copyFresh_calls (b : Nat) (w : World) (h0 : w.cell? ⟨b, 0, none⟩ = some (.pointer none)) (hsh : w.shape? b = some (65, 2)) (hfz : w.frozen? ⟨b, 0, none⟩ = false) :
    Calls Tryd.prog 47 #[.pointer (some ⟨b, 0, none⟩)] w fun e w' => e = .returned (.tuple #[]) ∧ w' = w.setCell ⟨b, 0, none⟩ (.pointer (some ⟨b, 0, none⟩)) := by
  obtain ⟨j, hj, hjs⟩ := Option.map_eq_some_iff.1 (show (Tryd.prog.info? 65).map (·.size) = some 2 by kernel_rfl)
  go_enter Tryd.func47, Tryd.ntmps47
  go_wp2
  rw [Lib.run_to_unsafe w ⟨b, 0, none⟩ Tryd.underlying63 Tryd.underlying127 hj (by rw [hjs]; decide) hsh (Nat.zero_lt_succ 1)]
  simp only [Result.andThen]
  rw [Oper.upon_value]
  go_wp2
  rw [run_callFunc_extern Tryd.func68 (by kernel_rfl) (by kernel_rfl) (by kernel_rfl) (e := Extern.AbiNoEscape.same) (by kernel_rfl)]
  rw [Lib.run_noEscape]
  simp only [Result.andThen]
  rw [Oper.upon_value]
  go_wp2
  rw [Lib.run_from_unsafe w ⟨b, 0, none⟩ Tryd.underlying127 Tryd.underlying63 hj hsh (by kernel_rfl)]
  simp only [Result.andThen]
  rw [Oper.upon_value]
  go_wp2
  go_end0
  exact ⟨rfl, rfl⟩
theorem bstring_calls (b : Nat) (v p : Value) (T0 : Nat) (l : List Int) (w : World) (hbk : w.heap[b]? = some (.cells #[p, v] T0 (0, 0)))
    (hv : v = .slice none 0 0 ∧ l = [] ∨ ∃ (g cap : Nat) (cur : Array Value), v = .slice (some ⟨g, 0, none⟩) l.length cap ∧ w.heap[g]? = some (.cells cur 5 (0, 0)) ∧ l.length ≤ cap ∧ cur.size = cap ∧ ∀ (j : Nat) (x : Int), l[j]? = some x → cur[j]? = some (Value.int .u8 x)) (hl : l.length ≤ 70368744177664) :
    Calls Tryd.prog 24 #[.pointer (some ⟨b, 0, none⟩)] w fun e w' => e = .returned (.string (bstr l)) ∧ w'.os = w.os ∧ w'.output = w.output ∧ w'.tape = w.tape ∧ w.heap.size ≤ w'.heap.size ∧ ∀ q, q < w.heap.size → v.ownBlock ≠ some q → w'.heap[q]? = w.heap[q]? := by
  have hc0 : ∀ (W : World), W.heap = w.heap → W.cell? ⟨b, 1, none⟩ = some v := fun W hW => by
    have hb : W.heap[b]? = some (.cells #[p, v] T0 (0, 0)) := by rw [hW]; exact hbk
    rw [Lib.cell_of_heap hb]; rfl
  have c1 : w.drew.cell? ⟨b, 1, none⟩ = some v := hc0 _ rfl
  have c2 : w.cell? ⟨b, 1, none⟩ = some v := hc0 _ rfl
  have hlt : b < w.heap.size := (Array.getElem?_eq_some_iff.1 hbk).1
  rcases hv with ⟨rfl, rfl⟩ | ⟨g, cap, cur, rfl, hg, hlc, hcs, hcur⟩
  · have hSD : (Builtin.unsafeSliceData_ #[41] 105 #[.slice none 0 0]).run Tryd.prog w.drew = .ok (.pointer none) w.drew := rfl
    have hUS := fun (W : World) (q : Option Addr) => Lib.run_unsafeString_none (P := Tryd.prog) W 105 3 9 q
    clear hbk hc0
    go_enter Tryd.func24, Tryd.ntmps24
    go_wp2
    go_region
    all_goals (go_wp2; go_ret; exact ⟨rfl, rfl, rfl, rfl, Nat.le_refl _, fun _ _ _ => rfl⟩)
  · by_cases hl0 : l = []
    · subst hl0
      have hUS := fun (W : World) (q : Option Addr) => Lib.run_unsafeString_none (P := Tryd.prog) W 105 3 9 q
      by_cases hc0' : cap = 0
      · subst hc0'
        have hsh : w.drew.shape? g = some (5, cur.size) := by
          have hg' : w.drew.heap[g]? = some (.cells cur 5 (0, 0)) := hg
          simp [World.shape?, hg']
        have hSD : (Builtin.unsafeSliceData_ #[41] 105 #[.slice (some ⟨g, 0, none⟩) 0 0]).run Tryd.prog w.drew = .ok (.pointer (some ⟨w.drew.heap.size, 0, none⟩)) (w.drew.alloc (.view ⟨g, 0, none⟩ 5)) :=
          Lib.run_unsafeSliceData_zero w.drew _ _ 5 Tryd.underlying105 ⟨g, 0, none⟩ 0 (5, cur.size) hsh
        have c4 : (w.drew.alloc (.view ⟨g, 0, none⟩ 5)).cell? ⟨b, 1, none⟩ = some (.slice (some ⟨g, 0, none⟩) 0 0) := by
          have : (w.drew.alloc (.view ⟨g, 0, none⟩ 5)).heap[b]? = _ := (Lib.alloc_old w.drew _ b hlt).trans hbk
          rw [Lib.cell_of_heap this]; rfl
        have c3 : (w.alloc (.view ⟨g, 0, none⟩ 5)).drew.cell? ⟨b, 1, none⟩ = some (.slice (some ⟨g, 0, none⟩) 0 0) := c4
        have hold : ∀ q, q < w.heap.size → (w.drew.alloc (.view ⟨g, 0, none⟩ 5)).heap[q]? = w.heap[q]? := fun q hq => Lib.alloc_old w.drew _ q hq
        have hsz : w.heap.size ≤ (w.drew.alloc (.view ⟨g, 0, none⟩ 5)).heap.size := by simp
        clear hbk hc0 hg hcur hlc hcs hsh
        go_enter Tryd.func24, Tryd.ntmps24
        go_wp2
        go_region
        all_goals (go_wp2; go_ret; exact ⟨rfl, rfl, rfl, rfl, hsz, fun q hq _ => hold q hq⟩)
      · have hSD : (Builtin.unsafeSliceData_ #[41] 105 #[.slice (some ⟨g, 0, none⟩) 0 cap]).run Tryd.prog w.drew = .ok (.pointer (some ⟨g, 0, none⟩)) w.drew :=
          Lib.run_unsafeSliceData_row _ _ _ _ _ _ hc0'
        clear hbk hc0 hg hcur hlc hcs hc0'
        go_enter Tryd.func24, Tryd.ntmps24
        go_wp2
        go_region
        all_goals (go_wp2; go_ret; exact ⟨rfl, rfl, rfl, rfl, Nat.le_refl _, fun _ _ _ => rfl⟩)
    · have hl1 : 0 < l.length := List.length_pos_iff.2 hl0
      have hSD : (Builtin.unsafeSliceData_ #[41] 105 #[.slice (some ⟨g, 0, none⟩) l.length cap]).run Tryd.prog w.drew = .ok (.pointer (some ⟨g, 0, none⟩)) w.drew :=
        Lib.run_unsafeSliceData_row _ _ _ _ _ _ (by omega)
      have hg' : w.drew.heap[g]? = some (.cells cur 5 (0, 0)) := hg
      have hUS : (Builtin.unsafeString_ #[105, 3] 9 #[.pointer (some ⟨g, 0, none⟩), .int .i64 l.length]).run Tryd.prog w.drew = .ok (.string (bstr l)) (w.drew.freeze ⟨g, 0, none⟩ l.length) :=
        run_unsafeString_ints w.drew 105 3 9 5 Tryd.underlying105 (by kernel_rfl) g cur.size (by simp [World.shape?, hg']) l hl0 (by omega) (by omega) (fun j x hx => by
          have h1 := hcur j x hx
          have h2 : (⟨g, 0, none⟩ : Addr).add j = ⟨g, j, none⟩ := by unfold Addr.add; split <;> simp_all
          rw [h2, Lib.cell_of_heap hg']; exact h1)
      have hfr := freeze_rest w.drew g l.length
      have hfh : ∀ q, q ≠ g → (w.drew.freeze ⟨g, 0, none⟩ l.length).heap[q]? = w.heap[q]? := fun q hq => freeze_heap w.drew g l.length hq
      generalize w.drew.freeze ⟨g, 0, none⟩ l.length = W' at hUS hfr hfh
      clear hbk hc0 hg hg' hcur hlc hcs
      go_enter Tryd.func24, Tryd.ntmps24
      go_wp2
      go_region
      all_goals (go_wp2; go_ret; exact ⟨rfl, hfr.1, hfr.2.1, hfr.2.2.1, Nat.le_of_eq hfr.2.2.2.symm, fun q _ hq => hfh q (fun e => hq (by rw [e]; rfl))⟩)
end
section
open Go.Proofs
theorem copy_fn {o : Option Nat} {Lr : List (Nat × Option MObj)} : Fn Tryd.prog 47 [.p 0 0] ((0, some (.bld 65 o)) :: Lr) (.tup []) ((0, some (.bld 65 o)) :: Lr) := by
  intro X ρ m w vs hp hv
  obtain ⟨v, us, rfl, hv, hus⟩ := hv
  simp only [CvL] at hus; subst hus
  simp only [Cv] at hv; subst hv
  have h0 : getO ((0, some (MObj.bld 65 o)) :: Lr) 0 = some (.bld 65 o) := rfl
  obtain ⟨hn, p, hb, hpp⟩ := hp.obj _ _ h0
  have hc : w.cell? ⟨(ρ 0).blk, 0, none⟩ = some p := by rw [Lib.cell_of_heap hb]; rfl
  rcases hpp with rfl | rfl
  · obtain ⟨g1, g2⟩ := hp.setbld h0
    refine (copyFresh_calls _ w hc (by simp [World.shape?, hb]) (Lib.frozen_of_heap hb 0)).mono ?_
    rintro e w' ⟨rfl, rfl⟩
    exact ⟨ρ, m, _, rfl, ⟨[], rfl, rfl⟩, g1, g2, fun _ _ => rfl⟩
  · refine (copyUsed_calls _ w hc).mono ?_
    rintro e w' ⟨rfl, rfl⟩
    exact ⟨ρ, m, _, rfl, ⟨[], rfl, rfl⟩, hp, Nx.refl .., fun _ _ => rfl⟩
theorem bstring_fn {T0 : Nat} {xs : List Int} (hx : xs.length ≤ 70368744177664) : Fn Tryd.prog 24 [.p 0 0] [(0, some (.bld T0 (some 1))), (1, some (.brw 5 (.int .u8) xs))] (.str (bstr xs)) [(0, none), (1, none)] := by
  intro X ρ m w vs hp hv
  obtain ⟨v, us, rfl, hv, hus⟩ := hv
  simp only [CvL] at hus; subst hus
  simp only [Cv] at hv; subst hv
  obtain ⟨hn, p, hb, _⟩ := hp.obj 0 _ rfl
  obtain ⟨g0, g1, g2⟩ := hp.obj 1 _ rfl
  have hs : bufV ρ (some 1) = .slice none 0 0 ∧ xs = [] ∨ ∃ (g cap : Nat) (cur : Array Value), bufV ρ (some 1) = .slice (some ⟨g, 0, none⟩) xs.length cap ∧ w.heap[g]? = some (.cells cur 5 (0, 0)) ∧ xs.length ≤ cap ∧ cur.size = cap ∧ ∀ (j : Nat) (x : Int), xs[j]? = some x → cur[j]? = some (Value.int .u8 x) := by
    rcases g2 with ⟨g3, rfl⟩ | ⟨g3, g4, vs, g5, g6, g7⟩
    · exact .inl ⟨by show (ρ 1).hdr = _; unfold Hd.hdr; rw [g3]; rfl, rfl⟩
    · refine .inr ⟨(ρ 1).blk, (ρ 1).cap, vs.toArray, by show (ρ 1).hdr = _; unfold Hd.hdr; rw [g3, g0]; rfl, g5, g4, by simpa [Kd.n] using g6, fun j x hj => ?_⟩
      obtain ⟨hlt, rfl⟩ := List.getElem?_eq_some_iff.1 hj
      have := g7 j hlt
      simp only [Kd.R, Kd.n, Nat.mul_one] at this
      have h2 : ((vs.drop j).take 1)[0]? = vs[j]? := by rw [List.getElem?_take_of_lt (by decide), List.getElem?_drop, Nat.add_zero]
      rw [List.getElem?_toArray, ← h2, this]; rfl
  refine (bstring_calls _ _ _ _ xs w hb hs hx).mono ?_
  rintro e w' ⟨rfl, h1, h2, h3, h4, h5⟩
  have hf : ∀ q, ¬ foot ρ 1 q → (bufV ρ (some 1)).ownBlock ≠ some q := by
    intro q hq he
    have he' : (ρ 1).hdr.ownBlock = some q := he
    unfold Hd.hdr at he'
    split at he'
    · cases he'
    · rename_i hn1
      refine hq ⟨by simpa using hn1, ?_⟩
      simp only [Value.ownBlock, Option.some.injEq] at he'; exact he'.symm
  have t := hp.gone2 (k := 1) rfl (fun q hq hnf => h5 q hq (hf q hnf)) h4
  refine ⟨ρ, m, _, rfl, rfl, t.weak (fun k o hk => ?_), ⟨Mle.refl m, fun _ _ => rfl, fun q hX => h5 q (hp.lt q hX) (hf q fun hq => hp.djX 1 _ q rfl hq hX), h4, h1, h2, h3⟩, fun _ _ => rfl⟩
  simp only [getO] at hk
  split at hk
  · cases hk
  · split at hk
    · cases hk
    · cases hk
end
end Go.Fo
