/- Loads of cells, and the evaluator of the operations that change no memory. -/
import Derived.Test.YtcaehpgdcjonfaaKb
namespace Go.Fo

theorem cell_of {w : World} {b off : Nat} {arr : Array Value} {T : TypeId} {fr : Nat × Nat} (h : w.heap[b]? = some (.cells arr T fr)) : w.cell? ⟨b, off, none⟩ = arr[off]? := by
  simp [World.cell?, h]

theorem run_bind {α β : Type} {P : Program} (s : Sem α) (f : α → Sem β) (w : World) :
    (s.bind f).run P w = match s.run P w with | .ok a w' => (f a).run P w' | .halt h w' => .halt h w' := by
  induction s generalizing w with
  | pure a => rfl
  | load m a k ih =>
    simp only [Sem.bind, Sem.run]
    split
    · exact ih _ _
    · split
      · exact ih _ _
      · rfl
  | store m a v k ih =>
    cases v <;> simp only [Sem.bind, Sem.run] <;> (repeat' split) <;> first | exact ih _ | rfl | simp_all
  | new o k ih => exact ih _ _
  | shape r k ih => exact ih _ _
  | freeze a n k ih => exact ih _
  | frozen a k ih => exact ih _ _
  | getObj r k ih =>
    simp only [Sem.bind, Sem.run]
    split <;> first | rfl | exact ih _ _
  | setObj r o k ih =>
    simp only [Sem.bind, Sem.run]
    split <;> first | rfl | exact ih _
  | choose q k ih =>
    simp only [Sem.bind, Sem.run]
    split <;> exact ih _ _
  | sys c k ih => exact ih _ _
  | program k ih => exact ih _ _
  | mark m k ih => exact ih _
  | halt h => rfl

theorem run_bind' {α β : Type} {P : Program} (s : Sem α) (f : α → Sem β) (w : World) :
    (s >>= f).run P w = match s.run P w with | .ok a w' => (f a).run P w' | .halt h w' => .halt h w' := run_bind s f w
theorem run_pure {α : Type} {P : Program} (a : α) (w : World) : (pure a : Sem α).run P w = .ok a w := rfl

theorem run_underlying {P : Program} {t : Nat} {d : TypeDesc} (h : P.underlying t = some d) (w : World) : (underlying t).run P w = .ok d w := by
  simp [underlying, program, Sem.run, h, pure]
theorem run_sizeOf {P : Program} {t : Nat} {j : TypeInfo} (h : P.info? t = some j) (w : World) : (sizeOf t).run P w = .ok j.size w := by
  simp [sizeOf, typeInfo, program, Sem.run, h, pure]
theorem run_zeroValue {P : Program} {t : Nat} {j : TypeInfo} {z : Value} (h : P.info? t = some j) (hz : j.zero = some z) (w : World) : (zeroValue t).run P w = .ok z w := by
  simp [zeroValue, typeInfo, program, Sem.run, h, hz, pure]
theorem run_isAgg {P : Program} {t : Nat} {d : TypeDesc} (h : P.underlying t = some d) (w : World) : (isAgg t).run P w = .ok (isAggD d) w := by
  unfold isAgg
  rw [run_bind', run_underlying h]
  cases d <;> rfl
theorem run_load {P : Program} {a : Addr} {v : Value} {w : World} (h : w.cell? a = some v) : (load a).run P w = .ok v w := by
  simp [load, Sem.run, h]

theorem add_at (b off i : Nat) : (⟨b, off, none⟩ : Addr).add i = ⟨b, off + i, none⟩ := by
  unfold Addr.add
  split
  · rename_i h; subst h; rfl
  · rfl

theorem run_loadCellsFrom {P : Program} {w : World} {b off : Nat} {arr : Array Value} {T : TypeId} {fr : Nat × Nat} (h : w.heap[b]? = some (.cells arr T fr)) :
    ∀ (n i : Nat) (acc : Array Value), off + i + n ≤ arr.size → (loadCellsFrom ⟨b, off, none⟩ i n acc).run P w = .ok (acc ++ ((arr.toList.drop (off + i)).take n).toArray) w := by
  intro n
  induction n with
  | zero => intro i acc _; simp [loadCellsFrom, pure]
  | succ n ih =>
    intro i acc hs
    unfold loadCellsFrom
    have hlt : off + i < arr.size := by omega
    have hc : w.cell? ((⟨b, off, none⟩ : Addr).add i) = some arr[off + i] := by rw [add_at, cell_of h]; simp [hlt]
    rw [run_bind', run_load hc]
    simp only
    rw [ih (i + 1) _ (by omega)]
    congr 1
    have : (arr.toList.drop (off + i)).take (n + 1) = arr[off + i] :: (arr.toList.drop (off + (i + 1))).take n := by
      rw [List.drop_eq_getElem_cons (by simpa using hlt)]
      simp [Nat.add_assoc]
    rw [this]
    simp

theorem run_loadCells {P : Program} {w : World} {b off n : Nat} {arr : Array Value} {T : TypeId} {fr : Nat × Nat} (h : w.heap[b]? = some (.cells arr T fr)) (hs : off + n ≤ arr.size) :
    (loadCells ⟨b, off, none⟩ n).run P w = .ok ((arr.toList.drop off).take n).toArray w := by
  unfold loadCells
  rw [run_loadCellsFrom h n 0 _ (by omega)]
  simp

/-- what a load of type T reads: an aggregate, or the one cell -/
def shutC (agg : Bool) (cs : List Value) : Value := if agg then .agg cs.toArray else cs.headD undef

theorem run_loadVar {P : Program} {w : World} {b off : Nat} {arr : Array Value} {T T' : TypeId} {fr : Nat × Nat} {i : TI} (ht : TOK P T i) (h : w.heap[b]? = some (.cells arr T' fr)) (hs : off + i.size ≤ arr.size) (h1 : i.agg = true ∨ i.size = 1) :
    (loadVar T ⟨b, off, none⟩).run P w = .ok (shutC i.agg ((arr.toList.drop off).take i.size)) w := by
  obtain ⟨j, z, hj, hsz, _⟩ := ht.info
  obtain ⟨d, hd, ha, _⟩ := ht.und
  unfold loadVar
  rw [run_bind', run_isAgg hd, ha]
  simp only
  cases hag : i.agg with
  | true =>
    simp only [if_true]
    rw [run_bind', run_sizeOf hj, hsz]
    simp only
    rw [run_bind', run_loadCells h hs]
    rfl
  | false =>
    have h2 : i.size = 1 := by simpa [hag] using h1
    have hlt : off < arr.size := by omega
    simp only [Bool.false_eq_true, if_false]
    rw [run_load (v := arr[off]) (by rw [cell_of h]; simp [hlt])]
    simp [shutC, h2, List.drop_eq_getElem_cons, hlt]

/-- data as symbolic values, cell by cell -/
def Kd.flat : (k : Kd) → k.T → List MV
  | .int k, x => [.int k x]
  | .bool, x => [.bool x]
  | .str, x => [.str x]
  | .slice e, l => [.im (.slice e) l]
  | .pair a b, x => a.flat x.1 ++ b.flat x.2
  | .unit, _ => []

theorem flat_ok {ρ : Nat → Hd} {m : Mem} : ∀ (k : Kd) (x : k.T) (cs : List Value), k.R m x cs → CvL ρ m (k.flat x) cs
  | .int k, x, cs, h => by simp only [Kd.R] at h; subst h; exact ⟨_, _, rfl, rfl, rfl⟩
  | .bool, x, cs, h => by simp only [Kd.R] at h; subst h; exact ⟨_, _, rfl, rfl, rfl⟩
  | .str, x, cs, h => by simp only [Kd.R] at h; subst h; exact ⟨_, _, rfl, rfl, rfl⟩
  | .slice e, l, cs, h => by
    obtain ⟨v, rfl, hs⟩ := h
    exact ⟨v, [], rfl, ⟨v, rfl, hs⟩, rfl⟩
  | .pair a b, x, cs, h => by
    obtain ⟨c, d, rfl, h1, h2⟩ := h
    exact CvL.append (flat_ok a x.1 c h1) (flat_ok b x.2 d h2)
  | .unit, _, cs, h => by simp only [Kd.R] at h; subst h; rfl

/-- the part of data that begins at a cell and has so many -/
def Kd.at : (k : Kd) → k.T → Nat → Nat → Option ((k' : Kd) × k'.T)
  | .pair a b, x, off, n => if off == 0 && n == a.n + b.n then some ⟨.pair a b, x⟩ else if off < a.n then a.at x.1 off n else b.at x.2 (off - a.n) n
  | k, x, off, n => if off == 0 && n == k.n then some ⟨k, x⟩ else none

theorem at_ok {m : Mem} : ∀ (k : Kd) (x : k.T) (cs : List Value) (off n : Nat) (k' : Kd) (y : k'.T), k.R m x cs → k.at x off n = some ⟨k', y⟩ → k'.n = n ∧ off + n ≤ k.n ∧ k'.R m y ((cs.drop off).take n) := by
  intro k
  have base : ∀ (k : Kd) (x : k.T) (cs : List Value) (off n : Nat) (k' : Kd) (y : k'.T), k.R m x cs → (if off == 0 && n == k.n then some (⟨k, x⟩ : (k' : Kd) × k'.T) else none) = some ⟨k', y⟩ → k'.n = n ∧ off + n ≤ k.n ∧ k'.R m y ((cs.drop off).take n) := by
    intro k x cs off n k' y hr h
    split at h
    · rename_i hc
      simp only [Bool.and_eq_true, beq_iff_eq] at hc
      obtain ⟨rfl, rfl⟩ := hc
      obtain ⟨rfl, h⟩ := Sigma.mk.inj (Option.some.inj h)
      have := eq_of_heq h; subst this
      refine ⟨rfl, by omega, ?_⟩
      rw [List.drop_zero, List.take_of_length_le (by rw [Kd.R.len _ _ _ hr]; exact Nat.le_refl _)]
      exact hr
    · cases h
  induction k with
  | pair a b iha ihb =>
    intro x cs off n k' y hr h
    have hlen := Kd.R.len _ _ _ hr
    unfold Kd.at at h
    split at h
    · rename_i hc
      exact base (.pair a b) x cs off n k' y hr (by show (if (off == 0 && n == a.n + b.n) then some (⟨.pair a b, x⟩ : (k' : Kd) × k'.T) else none) = _; rw [if_pos hc]; exact h)
    · obtain ⟨c, d, rfl, h1, h2⟩ := hr
      have lc := Kd.R.len _ _ _ h1
      have ld := Kd.R.len _ _ _ h2
      split at h
      · rename_i hlt
        obtain ⟨g1, g2, g3⟩ := iha x.1 c off n k' y h1 h
        refine ⟨g1, by simp only [Kd.n]; omega, ?_⟩
        rw [List.drop_append_of_le_length (by omega), List.take_append_of_le_length (by rw [List.length_drop]; omega)]
        exact g3
      · rename_i hlt
        obtain ⟨g1, g2, g3⟩ := ihb x.2 d (off - a.n) n k' y h2 h
        refine ⟨g1, by simp only [Kd.n]; omega, ?_⟩
        rw [List.drop_append, List.drop_of_length_le (by omega), List.nil_append, lc]
        exact g3
  | int _ => exact base _
  | bool => exact base _
  | str => exact base _
  | slice _ => exact base _
  | unit => exact base _

def Kd.nth (k : Kd) (l : List k.T) (i : Nat) : k.T := l.getD i k.df

theorem slr_nth {m : Mem} {e : Kd} {l : List e.T} {v : Value} (h : SlR m e.n (e.R m) l v) {i : Nat} (hi : i < l.length) : ∃ b off cap cells T fr, v = .slice (some ⟨b, off, none⟩) l.length cap ∧
    m b = some (.cells cells T fr) ∧ off + i * e.n + e.n ≤ cells.size ∧ e.R m (e.nth l i) ((cells.toList.drop (off + i * e.n)).take e.n) := by
  rcases h with ⟨_, _, rfl⟩ | ⟨b, off, cap, cells, T, fr, h1, h2, h3, h4, h5⟩
  · simp at hi
  · refine ⟨b, off, cap, cells, T, fr, h1, h3, ?_, ?_⟩
    · have : i * e.n + e.n ≤ l.length * e.n := by
        have : (i + 1) * e.n ≤ l.length * e.n := Nat.mul_le_mul_right _ hi
        rw [Nat.add_mul, Nat.one_mul] at this; exact this
      omega
    · have := h5 i hi
      unfold Kd.nth
      rw [List.getD_eq_getElem?_getD, List.getElem?_eq_getElem hi]
      exact this

end Go.Fo
