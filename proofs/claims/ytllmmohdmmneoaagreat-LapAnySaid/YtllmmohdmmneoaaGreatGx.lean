/- slices.Grow of nil, by hand: what an append of a make does. -/
import Derived.Test.YtllmmohdmmneoaaGreatProg
import Derived.Tactics
import Derived.Tactics2
import Derived.WalkKit
import Derived.Lib.Walk
import Derived.Lib.SliceRun
import Derived.Lib.AppendZerosOnto
import Derived.KernelRfl
import Derived.Test.YtllmmohdmmneoaaGreatJ4
namespace Go.Fo
section
open Go.Proofs Go.Lib
set_option maxHeartbeats 4000000
set_option maxRecDepth 100000
theorem K5 (i0:TypeInfo) (z:Value) (hi0:Tryz.prog.info? 2=some i0) (hz0:i0.zero=some z) (hs0:0<i0.size) (hb0:i0.bytes=8) (n:Nat) (hn:n*8<=140737488355328) (w:World) :
    Calls Tryz.prog 173 #[.slice none 0 0, .int .i64 n] w fun e w' =>
      (n=0/\e=.returned (.slice none 0 0)/\w'=w)\/(0<n/\∃G, n<=G/\e=.returned (.slice (some ⟨w.heap.size, 0, none⟩) 0 G)/\w'=w.drew.alloc (.cells (Builtin.zeroCells z.cells n++Builtin.zeroCells z.cells (G-n)) 2)) := by
  have h1:¬((n:Int)<0) := by omega
  rcases Nat.eq_zero_or_pos n with e|h4
  · subst e
    go_enter Tryz.func173, Tryz.ntmps173
    go_wp2
    go_ret
    exact ⟨rfl, rfl⟩
  · have h4':(n:Int)>0 := by omega
    have hold:(Builtin.firstCells i0.size 0 (.slice none 0 0)).run Tryz.prog w.drew=.ok (#[]:Array Value) w.drew := run_firstCells_none w.drew i0.size 0 0 0
    have hrz:∀ty, (Builtin.append_ #[212, 3] ty #[.slice none 0 0, .int .i64 (n:Int)]).run Tryz.prog w =
        .ok (.slice (some ⟨w.heap.size, 0, none⟩) n (grownCap w n 0 2)) (w.drew.alloc (.cells (Builtin.zeroCells z.cells n++Builtin.zeroCells z.cells (grownCap w n 0 2-n)) 2)) := fun ty => by
      have h := Lib.run_append_grow_zeros w 212 3 ty 2 i0 z .i64 .i64 Tryz.underlying212 Tryz.underlying3 hi0 hz0 none 0 0 [] hold n h4 hs0 (by omega) (by omega)
        (by rw[hb0];omega)
        (by rw[hb0, Nat.zero_add];exact growslice_fits (by omega) (by omega))
      simpa using h
    have hGn:n<=grownCap w n 0 2 := grownCap_ge w _ _ _
    obtain ⟨G, hG⟩:∃G, G=grownCap w n 0 2 := ⟨_, rfl⟩
    rw[<-hG] at hrz hGn
    have hG63:G<=9223372036854775807 := by
      have := grownCap_le_maxLen w n 0 2 (by unfold maxLen;omega)
      rw[<-hG] at this
      unfold maxLen at this
      omega
    clear hold hG
    go_enter Tryz.func173, Tryz.ntmps173
    go_wp2_with (at_builtin;refine Lib.wpList_append_run _ rfl _ _ _ _ rfl _ _ rfl rfl _ _ (hrz _) ?_)
    all_goals (go_ret;exact .inr ⟨G, hGn, rfl, rfl⟩)
end
section
open Go.Proofs
theorem uY {i:TI} (ht:TOK Tryz.prog 212 i) {k:Kd} (hk:i.ek=some k) (hbb:i.eb=8) (hn1:0<k.n) {n:Int} (h0:0<=n) (h1:n*8<=140737488355328) :
    Fn Tryz.prog 173 [.nils, .int .i64 n] [] (.sl 1000) [(1000, some (.rows k []))] := by
  intro X ρ m w vs hp hv
  obtain ⟨v, us, rfl, hv, v2, us2, rfl, hv2, hus⟩ := hv
  simp only[CvL] at hus;subst hus
  simp only[Cv] at hv hv2;subst hv;subst hv2
  obtain ⟨n, rfl⟩:∃q:Nat, n=q := ⟨n.toNat, by omega⟩
  obtain ⟨hslc, hkn, je, z, hje, hjb, hz, hzr⟩ := ht.ek k hk
  obtain ⟨hund, hsz⟩ := ht.slc hslc
  obtain ⟨j', hj', hjs⟩ := zW hsz
  rw[hje] at hj';cases hj'
  have he:i.elem=2 := by
    have := hund.symm.trans Tryz.underlying212
    simp only[Option.some.injEq, TypeDesc.slice.injEq] at this
    exact this
  rw[he] at hje
  have hzl:z.cells.size=k.n := by
    have := Kd.R.len _ _ _ (hzr m);rw[<-this];simp
  have hfr:∀q o, ww ([]:List (Nat×Option MObj)) q=some o->q≠1000->o.has 1000=false := fun q o hq => by cases hq
  refine (K5 je z hje hz (by omega) (by omega) n (by omega) w).mono ?_
  rintro e w' (⟨rfl, rfl, rfl⟩|⟨hpos, G, hG, rfl, rfl⟩)
  · refine ⟨setρ ρ 1000 ⟨0, 0, 0, true, k.n⟩, m, _, rfl, by simp only[Cv, setρ_eq];rfl, ?_, Nx.refl .., fun q hq => setρ_ne _ _ _ (by omega)⟩
    refine hp.turn 1000 (some (.rows k [])) (fun _ => False) (fun k' hk' => setρ_ne _ _ _ hk') (.inr fun k' o hk' hne => hfr k' o hk' hne) (fun b _ _ => rfl) (Nat.le_refl _) (fun b _ hf => hf.elim) (fun _ _ _ _ _ _ hf => hf) (fun o ho => ?_)
    simp only[Option.some.injEq] at ho;subst ho
    refine ⟨⟨by rw[setρ_eq];rfl, by rw[setρ_eq], .inl ⟨by rw[setρ_eq], rfl⟩⟩, fun b hf => ?_⟩
    have := hf.1;rw[setρ_eq] at this;cases this
  · generalize hvs:(Builtin.zeroCells z.cells n++Builtin.zeroCells z.cells (G-n))=vs
    have hlen:vs.toList.length=G*k.n := by
      have hz1:∀q, (Builtin.zeroCells z.cells q).toList.length=q*k.n := fun q => by simp[Builtin.zeroCells, hzl]
      have h2 := hz1 n
      have h3 := hz1 (G-n)
      have h4:n*k.n+(G-n)*k.n=G*k.n := by rw[<-Nat.add_mul, Nat.add_sub_cancel' hG]
      subst hvs
      generalize Builtin.zeroCells z.cells n=A at h2 ⊢
      generalize Builtin.zeroCells z.cells (G-n)=B at h3 ⊢
      rw[Array.toList_append, List.length_append, h2, h3, h4]
    have hw:Nw w (w.drew.alloc (.cells vs 2)) (.cells vs.toList.toArray 2 (0, 0)) := ⟨by rw[Array.toArray_toList];rfl, rfl, rfl, rfl⟩
    have ho:osat (setρ ρ 1000 ⟨w.heap.size, 0, G, false, k.n⟩) m (w.drew.alloc (.cells vs 2)) 1000 (.rows k []) := by
      refine ⟨by rw[setρ_eq];rfl, by rw[setρ_eq], .inr ⟨by rw[setρ_eq], by rw[setρ_eq];exact Nat.zero_le _, vs.toList, 2, ?_, by rw[setρ_eq];exact hlen, fun i hi => by simp at hi⟩⟩
      rw[setρ_eq, hw.heap];simp
    obtain ⟨g1, g2⟩ := hw.hp hp (d := 1000) (hd := ⟨w.heap.size, 0, G, false, k.n⟩) rfl hfr ho
    exact ⟨_, m, _, rfl, by simp only[Cv, setρ_eq];rfl, g1, g2, fun q hq => setρ_ne _ _ _ (by omega)⟩
end
section
open Go.Proofs Go.Lib
set_option maxHeartbeats 4000000
set_option maxRecDepth 100000
theorem QT (i0:TypeInfo) (z:Value) (hi0:Tryz.prog.info? 214=some i0) (hz0:i0.zero=some z) (hs0:0<i0.size) (hb0:i0.bytes=2) (n:Nat) (hn:n*2<=140737488355328) (w:World) :
    Calls Tryz.prog 157 #[.slice none 0 0, .int .i64 n] w fun e w' =>
      (n=0/\e=.returned (.slice none 0 0)/\w'=w)\/(0<n/\∃G, n<=G/\e=.returned (.slice (some ⟨w.heap.size, 0, none⟩) 0 G)/\w'=w.drew.alloc (.cells (Builtin.zeroCells z.cells n++Builtin.zeroCells z.cells (G-n)) 214)) := by
  have h1:¬((n:Int)<0) := by omega
  rcases Nat.eq_zero_or_pos n with e|h4
  · subst e
    go_enter Tryz.func157, Tryz.ntmps157
    go_wp2
    go_ret
    exact ⟨rfl, rfl⟩
  · have h4':(n:Int)>0 := by omega
    have hold:(Builtin.firstCells i0.size 0 (.slice none 0 0)).run Tryz.prog w.drew=.ok (#[]:Array Value) w.drew := run_firstCells_none w.drew i0.size 0 0 0
    have hrz:∀ty, (Builtin.append_ #[50, 3] ty #[.slice none 0 0, .int .i64 (n:Int)]).run Tryz.prog w =
        .ok (.slice (some ⟨w.heap.size, 0, none⟩) n (grownCap w n 0 214)) (w.drew.alloc (.cells (Builtin.zeroCells z.cells n++Builtin.zeroCells z.cells (grownCap w n 0 214-n)) 214)) := fun ty => by
      have h := Lib.run_append_grow_zeros w 50 3 ty 214 i0 z .i64 .i64 Tryz.underlying50 Tryz.underlying3 hi0 hz0 none 0 0 [] hold n h4 hs0 (by omega) (by omega)
        (by rw[hb0];omega)
        (by rw[hb0, Nat.zero_add];exact growslice_fits (by omega) (by omega))
      simpa using h
    have hGn:n<=grownCap w n 0 214 := grownCap_ge w _ _ _
    obtain ⟨G, hG⟩:∃G, G=grownCap w n 0 214 := ⟨_, rfl⟩
    rw[<-hG] at hrz hGn
    have hG63:G<=9223372036854775807 := by
      have := grownCap_le_maxLen w n 0 214 (by unfold maxLen;omega)
      rw[<-hG] at this
      unfold maxLen at this
      omega
    clear hold hG
    go_enter Tryz.func157, Tryz.ntmps157
    go_wp2_with (at_builtin;refine Lib.wpList_append_run _ rfl _ _ _ _ rfl _ _ rfl rfl _ _ (hrz _) ?_)
    all_goals (go_ret;exact .inr ⟨G, hGn, rfl, rfl⟩)
end
section
open Go.Proofs
theorem Va {i:TI} (ht:TOK Tryz.prog 50 i) {k:Kd} (hk:i.ek=some k) (hbb:i.eb=2) (hn1:0<k.n) {n:Int} (h0:0<=n) (h1:n*2<=140737488355328) :
    Fn Tryz.prog 157 [.nils, .int .i64 n] [] (.sl 1000) [(1000, some (.rows k []))] := by
  intro X ρ m w vs hp hv
  obtain ⟨v, us, rfl, hv, v2, us2, rfl, hv2, hus⟩ := hv
  simp only[CvL] at hus;subst hus
  simp only[Cv] at hv hv2;subst hv;subst hv2
  obtain ⟨n, rfl⟩:∃q:Nat, n=q := ⟨n.toNat, by omega⟩
  obtain ⟨hslc, hkn, je, z, hje, hjb, hz, hzr⟩ := ht.ek k hk
  obtain ⟨hund, hsz⟩ := ht.slc hslc
  obtain ⟨j', hj', hjs⟩ := zW hsz
  rw[hje] at hj';cases hj'
  have he:i.elem=214 := by
    have := hund.symm.trans Tryz.underlying50
    simp only[Option.some.injEq, TypeDesc.slice.injEq] at this
    exact this
  rw[he] at hje
  have hzl:z.cells.size=k.n := by
    have := Kd.R.len _ _ _ (hzr m);rw[<-this];simp
  have hfr:∀q o, ww ([]:List (Nat×Option MObj)) q=some o->q≠1000->o.has 1000=false := fun q o hq => by cases hq
  refine (QT je z hje hz (by omega) (by omega) n (by omega) w).mono ?_
  rintro e w' (⟨rfl, rfl, rfl⟩|⟨hpos, G, hG, rfl, rfl⟩)
  · refine ⟨setρ ρ 1000 ⟨0, 0, 0, true, k.n⟩, m, _, rfl, by simp only[Cv, setρ_eq];rfl, ?_, Nx.refl .., fun q hq => setρ_ne _ _ _ (by omega)⟩
    refine hp.turn 1000 (some (.rows k [])) (fun _ => False) (fun k' hk' => setρ_ne _ _ _ hk') (.inr fun k' o hk' hne => hfr k' o hk' hne) (fun b _ _ => rfl) (Nat.le_refl _) (fun b _ hf => hf.elim) (fun _ _ _ _ _ _ hf => hf) (fun o ho => ?_)
    simp only[Option.some.injEq] at ho;subst ho
    refine ⟨⟨by rw[setρ_eq];rfl, by rw[setρ_eq], .inl ⟨by rw[setρ_eq], rfl⟩⟩, fun b hf => ?_⟩
    have := hf.1;rw[setρ_eq] at this;cases this
  · generalize hvs:(Builtin.zeroCells z.cells n++Builtin.zeroCells z.cells (G-n))=vs
    have hlen:vs.toList.length=G*k.n := by
      have hz1:∀q, (Builtin.zeroCells z.cells q).toList.length=q*k.n := fun q => by simp[Builtin.zeroCells, hzl]
      have h2 := hz1 n
      have h3 := hz1 (G-n)
      have h4:n*k.n+(G-n)*k.n=G*k.n := by rw[<-Nat.add_mul, Nat.add_sub_cancel' hG]
      subst hvs
      generalize Builtin.zeroCells z.cells n=A at h2 ⊢
      generalize Builtin.zeroCells z.cells (G-n)=B at h3 ⊢
      rw[Array.toList_append, List.length_append, h2, h3, h4]
    have hw:Nw w (w.drew.alloc (.cells vs 214)) (.cells vs.toList.toArray 214 (0, 0)) := ⟨by rw[Array.toArray_toList];rfl, rfl, rfl, rfl⟩
    have ho:osat (setρ ρ 1000 ⟨w.heap.size, 0, G, false, k.n⟩) m (w.drew.alloc (.cells vs 214)) 1000 (.rows k []) := by
      refine ⟨by rw[setρ_eq];rfl, by rw[setρ_eq], .inr ⟨by rw[setρ_eq], by rw[setρ_eq];exact Nat.zero_le _, vs.toList, 214, ?_, by rw[setρ_eq];exact hlen, fun i hi => by simp at hi⟩⟩
      rw[setρ_eq, hw.heap];simp
    obtain ⟨g1, g2⟩ := hw.hp hp (d := 1000) (hd := ⟨w.heap.size, 0, G, false, k.n⟩) rfl hfr ho
    exact ⟨_, m, _, rfl, by simp only[Cv, setρ_eq];rfl, g1, g2, fun q hq => setρ_ne _ _ _ (by omega)⟩
end
end Go.Fo
