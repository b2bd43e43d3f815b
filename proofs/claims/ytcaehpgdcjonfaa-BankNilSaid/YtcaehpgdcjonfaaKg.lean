/- The last of the operations that change no memory; and all of them together. -/
import Derived.Test.YtcaehpgdcjonfaaKf
namespace Go.Fo

theorem len_slice {P : Program} {ty : Array TypeId} {T : Nat} (hty : ty[0]? = some T) {e : TypeId} (hd : P.underlying T = some (.slice e)) (t : TypeId) (a : Option Addr) (n c : Nat) (w : World) :
    (Builtin.len_ ty t #[.slice a n c]).run P w = .ok (.int .i64 n) w := by
  unfold Builtin.len_
  simp only [hty, List.getElem?_toArray, List.getElem?_cons_zero]
  rw [run_bind', run_underlying hd]; rfl
theorem len_string {P : Program} {ty : Array TypeId} {T : Nat} (hty : ty[0]? = some T) (hd : P.underlying T = some .string) (t : TypeId) (s : ByteArray) (w : World) :
    (Builtin.len_ ty t #[.string s]).run P w = .ok (.int .i64 s.size) w := by
  unfold Builtin.len_
  simp only [hty, List.getElem?_toArray, List.getElem?_cons_zero]
  rw [run_bind', run_underlying hd]; rfl
theorem len_array {P : Program} {ty : Array TypeId} {T : Nat} (hty : ty[0]? = some T) {n : Nat} {e : TypeId} (hd : P.underlying T = some (.array n e)) (t : TypeId) (u : Value) (w : World) :
    (Builtin.len_ ty t #[u]).run P w = .ok (.int .i64 n) w := by
  unfold Builtin.len_
  simp only [hty, List.getElem?_toArray, List.getElem?_cons_zero]
  rw [run_bind', run_underlying hd]; rfl

theorem lenM_ok {P : Program} {T : Nat} {i : TI} (ht : TOK P T i) {L : List (Nat × Option MObj)} {x r : MV} (h : lenM i L x = some r) {ρ : Nat → Hd} {m : Mem} {w : World}
    (hO : ∀ k o, getO L k = some o → osat ρ m w k o) {u : Value} (hu : Cv ρ m x u) (ty : Array TypeId) (hty : ty[0]? = some T) (t : TypeId) : ∃ z, (Builtin.len_ ty t #[u]).run P w = .ok z w ∧ Cv ρ m r z := by
  unfold lenM at h
  split at h
  · rename_i hslc
    obtain ⟨hund, hsz⟩ := ht.slc hslc
    split at h
    · simp only [Option.some.injEq] at h; subst h
      obtain ⟨v, hv, hs⟩ := hu
      simp only [List.cons.injEq, and_true] at hv; subst hv
      rcases hs with ⟨_, rfl, rfl⟩ | ⟨b, off, cap, cells, T', fr, rfl, _⟩
      · exact ⟨_, len_slice hty hund t _ _ _ w, rfl⟩
      · exact ⟨_, len_slice hty hund t _ _ _ w, rfl⟩
    · simp only [Option.some.injEq] at h; subst h
      simp only [Cv] at hu; subst hu
      exact ⟨_, len_slice hty hund t _ _ _ w, rfl⟩
    · rename_i key
      split at h
      · rename_i k xs hk
        simp only [Option.some.injEq] at h; subst h
        simp only [Cv] at hu; subst hu
        obtain ⟨g0, g1, g2⟩ := hO _ _ hk
        rcases g2 with ⟨hn, rfl⟩ | ⟨hn, _⟩
        · unfold Hd.hdr; rw [hn]; exact ⟨_, len_slice hty hund t _ _ _ w, rfl⟩
        · unfold Hd.hdr; rw [hn, g0]; exact ⟨_, len_slice hty hund t _ _ _ w, rfl⟩
      · cases h
    · simp only [Option.some.injEq] at h; subst h
      simp only [Cv] at hu; subst hu
      exact ⟨_, len_slice hty hund t _ _ _ w, rfl⟩
    · cases h
  · split at h
    · rename_i hg
      simp only [beq_iff_eq] at hg
      obtain ⟨d, hd, _, htag⟩ := ht.und
      have : d = .string := by rw [hg] at htag; cases d <;> simp_all [tagOf]
      subst this
      split at h
      · simp only [Option.some.injEq] at h; subst h
        simp only [Cv] at hu; subst hu
        exact ⟨_, len_string hty hd t _ w, rfl⟩
      · cases h
    · split at h
      · rename_i harr
        simp only [Option.some.injEq] at h; subst h
        exact ⟨_, len_array hty (ht.arr harr).1 t u w, rfl⟩
      · cases h

theorem foldMin_ok {P : Program} {ρ : Nat → Hd} {m : Mem} (w : World) : ∀ {l : List MV} {x r : MV} {u : Value} {vs : List Value}, foldMin x l = some r → Cv ρ m x u → CvL ρ m l vs → ∃ z, (vs.foldlM Builtin.min2 u).run P w = .ok z w ∧ Cv ρ m r z
  | [], x, r, u, vs, h, hu, hv => by
    simp only [CvL] at hv; subst hv
    cases x <;> simp only [foldMin, Option.some.injEq] at h <;> subst h <;> exact ⟨u, rfl, hu⟩
  | y :: l, x, r, u, vs, h, hu, hv => by
    unfold foldMin at h
    split at h
    · rename_i heq; cases heq
    · rename_i k a k' b l' heq
      simp only [List.cons.injEq] at heq; obtain ⟨rfl, rfl⟩ := heq
      obtain ⟨v, us, rfl, h1, h2⟩ := hv
      simp only [Cv] at hu h1; subst hu h1
      rw [List.foldlM_cons, run_bind', show (Builtin.min2 (.int k a) (.int k' b)).run P w = .ok (.int k (imin a b)) w from rfl]
      exact foldMin_ok w h rfl h2
    · cases h
theorem foldMax_ok {P : Program} {ρ : Nat → Hd} {m : Mem} (w : World) : ∀ {l : List MV} {x r : MV} {u : Value} {vs : List Value}, foldMax x l = some r → Cv ρ m x u → CvL ρ m l vs → ∃ z, (vs.foldlM Builtin.max2 u).run P w = .ok z w ∧ Cv ρ m r z
  | [], x, r, u, vs, h, hu, hv => by
    simp only [CvL] at hv; subst hv
    cases x <;> simp only [foldMax, Option.some.injEq] at h <;> subst h <;> exact ⟨u, rfl, hu⟩
  | y :: l, x, r, u, vs, h, hu, hv => by
    unfold foldMax at h
    split at h
    · rename_i heq; cases heq
    · rename_i k a k' b l' heq
      simp only [List.cons.injEq] at heq; obtain ⟨rfl, rfl⟩ := heq
      obtain ⟨v, us, rfl, h1, h2⟩ := hv
      simp only [Cv] at hu h1; subst hu h1
      rw [List.foldlM_cons, run_bind', show (Builtin.max2 (.int k a) (.int k' b)).run P w = .ok (.int k (imax a b)) w from rfl]
      exact foldMax_ok w h rfl h2
    · cases h

end Go.Fo
