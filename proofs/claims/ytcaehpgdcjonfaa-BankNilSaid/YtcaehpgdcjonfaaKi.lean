/- Slice expressions; and all the operations that change no memory together. -/
import Derived.Test.YtcaehpgdcjonfaaKh
import Derived.Laws.BytesString
namespace Go.Fo

theorem run_bound {P : Program} {k : IntKind} {n : Int} {y : Nat} (h0 : 0 ≤ n) (h1 : n ≤ (y : Int)) (c : BoundsCode) (w : World) : (Instr.sliceBound (.int k n) y c).run P w = .ok n.toNat w := by
  unfold Instr.sliceBound
  rw [run_bind', show (asIntOf (.int k n)).run P w = .ok (k, n) w from rfl]
  simp only [h0, h1, and_self, if_true]; rfl

def ointV : Option Int → Option Value → Prop
  | none, none => True
  | some n, some v => ∃ k, v = .int k n
  | _, _ => False

theorem run_bounds {P : Program} {len cap : Nat} {lo hi : Option Int} {vl vh : Option Value} (hl : ointV lo vl) (hh : ointV hi vh) (h0 : 0 ≤ lo.getD 0) (h1 : lo.getD 0 ≤ hi.getD (len : Int)) (h2 : hi.getD (len : Int) ≤ (len : Int)) (hc : len ≤ cap) (b : Bool) (w : World) :
    (Instr.sliceBounds b len cap vl vh none).run P w = .ok ((lo.getD 0).toNat, (hi.getD (len : Int)).toNat, cap) w := by
  have bh : ∀ k n c, hi = some n → (Instr.sliceBound (.int k n) cap c).run P w = .ok (hi.getD (len : Int)).toNat w := by
    intro k n c e; subst e
    simp only [Option.getD_some] at h1 h2 ⊢
    exact run_bound (by omega) (by omega) _ w
  have bl : ∀ k n c, lo = some n → (Instr.sliceBound (.int k n) (hi.getD (len : Int)).toNat c).run P w = .ok (lo.getD 0).toNat w := by
    intro k n c e; subst e
    simp only [Option.getD_some] at h0 h1 ⊢
    exact run_bound h0 (by omega) _ w
  unfold Instr.sliceBounds
  simp only [Option.isSome_none, Bool.false_eq_true, if_false]
  rw [run_bind', run_pure]; simp only
  cases hi with
  | none => cases vh with
    | some v => exact hh.elim
    | none =>
      simp only
      rw [run_bind', run_pure]; simp only
      cases lo with
      | none => cases vl with
        | some v => exact hl.elim
        | none => rfl
      | some n => cases vl with
        | none => exact hl.elim
        | some v =>
          obtain ⟨k, rfl⟩ := hl
          simp only
          have := bl k n .sliceB rfl
          simp only [Option.getD_none, Int.toNat_natCast] at this
          rw [run_bind', this]; simp
  | some n' => cases vh with
    | none => exact hh.elim
    | some v' =>
      obtain ⟨k', rfl⟩ := hh
      simp only
      rw [run_bind', bh k' n' _ rfl]; simp only
      cases lo with
      | none => cases vl with
        | some v => exact hl.elim
        | none => rfl
      | some n => cases vl with
        | none => exact hl.elim
        | some v =>
          obtain ⟨k, rfl⟩ := hl
          simp only
          rw [run_bind', bl k n _ rfl]; simp

theorem slr_sub {α : Type} {m : Mem} {sz : Nat} {R : α → List Value → Prop} {l : List α} {b off cap : Nat} {cells : Array Value} {T : TypeId} {fr : Nat × Nat}
    (h2 : l.length ≤ cap) (h3 : m b = some (.cells cells T fr)) (h4 : off + l.length * sz ≤ cells.size) (h5 : ∀ (i : Nat) (h : i < l.length), R l[i] ((cells.toList.drop (off + i * sz)).take sz)) (lo hi : Nat) (hlo : lo ≤ hi) (hhi : hi ≤ l.length) :
    SlR m sz R ((l.take hi).drop lo) (.slice (if cap = lo then some ⟨b, off, none⟩ else some ((⟨b, off, none⟩ : Addr).add (lo * sz))) (hi - lo) (cap - lo)) := by
  have hlen : ((l.take hi).drop lo).length = hi - lo := by rw [List.length_drop, List.length_take]; omega
  right
  split
  · rename_i hc
    refine ⟨b, off, cap - lo, cells, T, fr, by rw [hlen], by omega, h3, ?_, fun i hi' => by omega⟩
    rw [hlen, show hi - lo = 0 by omega]; omega
  · refine ⟨b, off + lo * sz, cap - lo, cells, T, fr, by rw [hlen, add_mul_at], by omega, h3, ?_, fun i hi' => ?_⟩
    · have : hi * sz ≤ l.length * sz := Nat.mul_le_mul_right _ hhi
      have e : (hi - lo) * sz = hi * sz - lo * sz := Nat.sub_mul _ _ _
      have : lo * sz ≤ hi * sz := Nat.mul_le_mul_right _ hlo
      rw [hlen, e]; omega
    · rw [hlen] at hi'
      have hx := h5 (lo + i) (by omega)
      have e : off + lo * sz + i * sz = off + (lo + i) * sz := by rw [Nat.add_mul]; omega
      rw [e]
      have : ((l.take hi).drop lo)[i] = l[lo + i] := by simp
      rw [this]; exact hx

theorem unpairs_ok {m : Mem} {e : Kd} : ∀ (n : Nat) (k : Kd) (x : k.T) (l : List e.T) (cs : List Value), unpairs e n k x = some l → k.R m x cs → l.length = n ∧ cs.length = n * e.n ∧ ∀ (i : Nat) (h : i < l.length), e.R m l[i] ((cs.drop (i * e.n)).take e.n)
  | 0, _, _, _, _, h, _ => by simp [unpairs] at h
  | 1, k, x, l, cs, h, hr => by
    unfold unpairs at h
    split at h
    · rename_i hk
      subst hk
      simp only [Option.some.injEq] at h; subst h
      have hl := Kd.R.len _ _ _ hr
      refine ⟨rfl, by rw [hl]; omega, fun i hi => ?_⟩
      have : i = 0 := by simpa using hi
      subst this
      simp only [List.getElem_cons_zero, Nat.zero_mul, List.drop_zero]
      rw [List.take_of_length_le (by omega)]; exact hr
    · cases h
  | n + 2, .pair a b, x, l, cs, h, hr => by
    unfold unpairs at h
    split at h
    · rename_i hk
      subst hk
      split at h
      · rename_i l' hl'
        simp only [Option.some.injEq] at h; subst h
        obtain ⟨c1, c2, rfl, r1, r2⟩ := hr
        have g0 := Kd.R.len _ _ _ r1
        obtain ⟨g1, g2, g3⟩ := unpairs_ok (n + 1) b x.2 l' c2 hl' r2
        refine ⟨by simp [g1], by rw [List.length_append, g0, g2, show n + 2 = (n + 1) + 1 by omega, Nat.add_mul (n + 1) 1]; omega, fun i hi => ?_⟩
        cases i with
        | zero =>
          simp only [List.getElem_cons_zero, Nat.zero_mul, List.drop_zero]
          rw [List.take_append_of_le_length (by omega), List.take_of_length_le (by omega)]; exact r1
        | succ i =>
          have := g3 i (by simpa using hi)
          simp only [List.getElem_cons_succ]
          rw [List.drop_append, List.drop_of_length_le (by rw [g0, Nat.add_mul, Nat.one_mul]; omega), List.nil_append, g0, show (i + 1) * a.n - a.n = i * a.n by rw [Nat.add_mul, Nat.one_mul]; omega]
          exact this
      · cases h
    · cases h
  | n + 2, .int _, _, _, _, h, _ => by simp [unpairs] at h
  | n + 2, .bool, _, _, _, h, _ => by simp [unpairs] at h
  | n + 2, .str, _, _, _, h, _ => by simp [unpairs] at h
  | n + 2, .slice _, _, _, _, h, _ => by simp [unpairs] at h
  | n + 2, .unit, _, _, _, h, _ => by simp [unpairs] at h

theorem sliceM_ok {P : Program} {T : Nat} {i : TI} (ht : TOK P T i) {x r : MV} {lo hi : Option Int} {C : Prop} {L : List (Nat × Option MObj)} (h : sliceM i L x lo hi = some (r, C)) (hC : C) {ρ : Nat → Hd} {m : Mem} {u : Value} (hu : Cv ρ m x u)
    {vl vh : Option Value} (hl : ointV lo vl) (hh : ointV hi vh) (w : World) (hO : ∀ k o, getO L k = some o → osat ρ m w k o) : ∃ z, (Instr.sliceAt T u vl vh none).run P w = .ok z w ∧ Cv ρ m r z := by
  unfold sliceM at h
  split at h
  · rename_i key
    split at h
    · rename_i k xs hk
      split at h
      · rename_i hg
        simp only [Bool.and_eq_true, beq_iff_eq] at hg
        obtain ⟨hslc, he⟩ := hg
        simp only [Option.some.injEq, Prod.mk.injEq] at h; obtain ⟨rfl, rfl⟩ := h
        simp only [Cv] at hu; subst hu
        obtain ⟨h0, h1⟩ := hC
        obtain ⟨g0, g1, g2⟩ := hO _ _ hk
        obtain ⟨hund, hesz⟩ := ht.slc hslc
        obtain ⟨j, hj, hjs⟩ := sizeb_ok hesz
        rcases g2 with ⟨_, rfl⟩ | ⟨hn, hcap, _⟩
        · simp at h1; omega
        refine ⟨.slice (some ⟨(ρ key).blk, (lo.getD 0).toNat * (ρ key).sz, none⟩) ((ρ key).len - (lo.getD 0).toNat) ((ρ key).cap - (lo.getD 0).toNat), ?_, rfl⟩
        unfold Hd.hdr
        rw [hn, g0]
        simp only [Bool.false_eq_true, if_false]
        unfold Instr.sliceAt
        rw [run_bind', run_underlying hund]; simp only
        unfold Instr.slice
        rw [run_bind', run_underlying hund]; simp only
        rw [run_bind', run_bounds hl hh h0 (by simp; omega) (by simp) hcap]; simp only
        rw [run_bind', run_sizeOf hj, hjs]
        have e1 : ((none : Option Int).getD (xs.length : Int)).toNat = xs.length := by simp
        have hlt : ¬ (ρ key).cap = (lo.getD 0).toNat := by omega
        have ha : (⟨(ρ key).blk, 0, none⟩ : Addr).add ((lo.getD 0).toNat * i.esz) = ⟨(ρ key).blk, 0 + (lo.getD 0).toNat * i.esz, none⟩ := add_mul_at (ρ key).blk 0 (lo.getD 0).toNat i.esz
        rw [e1, g1, he]
        simp only [Option.map_some, ha, Nat.zero_add, if_neg hlt]
        rfl
      · cases h
    · cases h
  · rename_i e l
    split at h
    · rename_i hg
      simp only [Bool.and_eq_true, beq_iff_eq] at hg
      obtain ⟨hslc, he⟩ := hg
      simp only [Option.some.injEq, Prod.mk.injEq] at h; obtain ⟨rfl, rfl⟩ := h
      obtain ⟨v, hv, hs⟩ := hu
      simp only [List.cons.injEq, and_true] at hv; subst hv
      obtain ⟨h0, h1, h2⟩ := hC
      obtain ⟨hund, hesz⟩ := ht.slc hslc
      obtain ⟨j, hj, hjs⟩ := sizeb_ok hesz
      have run : ∀ (a : Option Addr) (n c : Nat), n = l.length → l.length ≤ c → (Instr.sliceAt T (.slice a n c) vl vh none).run P w =
          .ok (.slice (if c = (lo.getD 0).toNat then a else a.map (·.add ((lo.getD 0).toNat * i.esz))) ((hi.getD (l.length : Int)).toNat - (lo.getD 0).toNat) (c - (lo.getD 0).toNat)) w := by
        intro a n c hn hc
        subst hn
        unfold Instr.sliceAt
        rw [run_bind', run_underlying hund]; simp only
        unfold Instr.slice
        rw [run_bind', run_underlying hund]; simp only
        rw [run_bind', run_bounds hl hh h0 h1 h2 hc]; simp only
        rw [run_bind', run_sizeOf hj, hjs]; rfl
      rcases hs with ⟨a, rfl, rfl⟩ | ⟨b, off, cap, cells, T', fr, rfl, g2, g3, g4, g5⟩
      · refine ⟨_, run a 0 0 rfl (Nat.le_refl _), _, rfl, ?_⟩
        simp only [List.length_nil] at h1 h2 ⊢
        left
        have e1 : (lo.getD 0).toNat = 0 := by omega
        have e2 : (hi.getD ((0 : Nat) : Int)).toNat = 0 := by omega
        rw [e1, e2]; exact ⟨a, by simp, by simp⟩
      · refine ⟨_, run _ _ cap rfl g2, _, rfl, ?_⟩
        rw [← he]
        exact slr_sub (R := e.R m) g2 g3 g4 g5 (lo.getD 0).toNat (hi.getD (l.length : Int)).toNat (by omega) (by omega)
    · cases h
  · rename_i s
    split at h
    · rename_i hg
      simp only [beq_iff_eq] at hg
      simp only [Option.some.injEq, Prod.mk.injEq] at h; obtain ⟨rfl, rfl⟩ := h
      simp only [Cv] at hu; subst hu
      obtain ⟨h0, h1, h2⟩ := hC
      obtain ⟨d, hd, _, htag⟩ := ht.und
      have : d = .string := by rw [hg] at htag; cases d <;> simp_all [tagOf]
      subst this
      refine ⟨_, ?_, rfl⟩
      unfold Instr.sliceAt
      rw [run_bind', run_underlying hd]; simp only
      unfold Instr.slice
      rw [run_bind', run_underlying hd]; simp only [Option.isSome_none, Bool.false_eq_true, if_false]
      rw [run_bind', run_bounds hl hh h0 h1 h2 (Nat.le_refl _)]; rfl
    · cases h
  · rename_i k y
    split at h
    · rename_i hg
      simp only [Bool.and_eq_true, beq_iff_eq] at hg
      obtain ⟨harr, he⟩ := hg
      split at h
      · rename_i l hl'
        simp only [Option.some.injEq, Prod.mk.injEq] at h; obtain ⟨rfl, rfl⟩ := h
        obtain ⟨b, off, cells, T', fr, rfl, m1, m2, m3⟩ := hu
        obtain ⟨u1, u2, u3⟩ := unpairs_ok i.alen k y l _ hl' m3
        obtain ⟨h0, h1, h2⟩ := hC
        obtain ⟨hund, hesz, _⟩ := ht.arr harr
        obtain ⟨j, hj, hjs⟩ := sizeb_ok hesz
        have hkn : k.n = i.alen * (elK i.alen k).n := by
          have := Kd.R.len _ _ _ m3; omega
        refine ⟨.slice (some (if l.length = (lo.getD 0).toNat then ⟨b, off, none⟩ else (⟨b, off, none⟩ : Addr).add ((lo.getD 0).toNat * i.esz))) ((hi.getD (l.length : Int)).toNat - (lo.getD 0).toNat) (l.length - (lo.getD 0).toNat), ?_, _, rfl, ?_⟩
        · unfold Instr.sliceAt
          rw [run_bind', run_underlying hund]; simp only
          rw [run_bind', show (Instr.sureAddr (.pointer (some ⟨b, off, none⟩))).run P w = .ok ⟨b, off, none⟩ w from rfl]; simp only
          rw [show Instr.sliceBounds false i.alen i.alen vl vh none = Instr.sliceBounds false l.length l.length vl vh none from by rw [u1]]
          rw [run_bind', run_bounds hl hh h0 h1 h2 (Nat.le_refl _)]; simp only
          rw [run_bind', run_sizeOf hj, hjs]; rfl
        · have := slr_sub (R := (elK i.alen k).R m) (l := l) (b := b) (off := off) (cap := l.length) (cells := cells) (T := T') (fr := fr) (sz := (elK i.alen k).n) (Nat.le_refl _) m1 (by rw [u1]; omega) (fun q hq => by
              have := u3 q hq
              have hle : (q + 1) * (elK i.alen k).n ≤ l.length * (elK i.alen k).n := Nat.mul_le_mul_right _ (by omega)
              rw [Nat.add_mul, Nat.one_mul, u1] at hle
              rw [List.drop_take, List.take_take, List.drop_drop, Nat.min_eq_left (by omega)] at this
              exact this) (lo.getD 0).toNat (hi.getD (l.length : Int)).toNat (by omega) (by omega)
          rw [he] at this
          rw [he]
          split
          · rename_i e; rw [if_pos e] at this; exact this
          · rename_i e; rw [if_neg e] at this; exact this
      · cases h
    · cases h
  · cases h

theorem oint_ok {ρ : Nat → Hd} {m : Mem} {A : List (Nat × MV)} {a : Act} (h : Slots ρ m A a) {g : Option Bool} (hg : GOK g) {x : Option Operand} {n : Option Int} {C : Prop} (hx : oint A g x = some (n, C)) (hC : C) : ointV n (x.map a.eval) := by
  unfold oint at hx
  split at hx
  · simp only [Option.some.injEq, Prod.mk.injEq] at hx; obtain ⟨rfl, rfl⟩ := hx; trivial
  · split at hx
    · rename_i k n' D hd
      simp only [Option.some.injEq, Prod.mk.injEq] at hx; obtain ⟨rfl, rfl⟩ := hx
      have := opg_ok h hg hd hC
      exact ⟨k, this⟩
    · cases hx

/-- all the operations that change no memory -/
theorem pure_ok {P : Program} {tab : Nat → Option TI} (hT : ∀ t i, tab t = some i → TOK P t i) (hE : ∀ t i, tab t = some i → i.eqf = true → EqF P t i) {A : List (Nat × MV)} {L : List (Nat × Option MObj)} {g : Option Bool} (hg : GOK g) {o : Oper} {r : MV} {C : Prop}
    (h : pureD tab A L g o.op = some (r, C)) (hC : C) {ρ : Nat → Hd} {m : Mem} {a : Act} {w : World} (hA : Slots ρ m A a) (hO : ∀ k o, getO L k = some o → osat ρ m w k o) (hM : ∀ b o, m b = some o → w.heap[b]? = some o) :
    ∃ v, (execOp a.eval o).run P w = .ok (.value v) w ∧ Cv ρ m r v := by
  have lift : ∀ (s : Sem Value), (∃ v, s.run P w = .ok v w ∧ Cv ρ m r v) → ∃ v, (do pure (Next.value (← s)) : Sem Next).run P w = .ok (.value v) w ∧ Cv ρ m r v := by
    rintro s ⟨v, h1, h2⟩
    exact ⟨v, by rw [run_bind', h1]; rfl, h2⟩
  obtain ⟨dst, op, ty, pos, after, guard⟩ := o
  simp only at h
  unfold pureD at h
  split at h
  · exact ⟨_, rfl, opg_ok hA hg h hC⟩
  · exact ⟨_, rfl, opg_ok hA hg h hC⟩
  · rename_i c x y
    split at h
    · rename_i t D a' b' h1 h2 h3
      split at h
      · rename_i r' E hp
        simp only [Option.some.injEq, Prod.mk.injEq] at h; obtain ⟨rfl, rfl⟩ := h
        have hc := opg_ok hA hg h1 hC.1
        simp only [Cv] at hc
        have hx := opd_ok hA h2
        have hy := opd_ok hA h3
        unfold pickM at hp
        split at hp
        · rename_i ta p tb q s1 s2
          simp only [Option.some.injEq, Prod.mk.injEq] at hp; obtain ⟨rfl, rfl⟩ := hp
          refine ⟨if t then a.eval x else a.eval y, ?_, ?_⟩
          · show (do pure (Next.value (if ← asBool (a.eval c) then a.eval x else a.eval y)) : Sem Next).run P w = _
            rw [hc]; rfl
          · cases t with
            | true =>
              have := strip_ok hx (t := true) rfl (by rw [s1]; exact hC.2.1)
              rw [s1] at this; simpa [Cv] using this
            | false =>
              have := strip_ok hy (t := true) rfl (by rw [s2]; exact hC.2.2)
              rw [s2] at this; simpa [Cv] using this
        · cases hp
      · cases h
    · cases h
  · rename_i op' T x y yt
    split at h
    · rename_i x' D y' E h1 h2
      split at h
      · rename_i r' F hb
        simp only [Option.some.injEq, Prod.mk.injEq] at h; obtain ⟨rfl, rfl⟩ := h
        exact lift _ (binM_ok hT hE hb hC.2.2 (opg_ok hA hg h1 hC.1) (opg_ok hA hg h2 hC.2.1) x y w)
      · cases h
    · cases h
  · rename_i op' T x
    split at h
    · rename_i x' D h1
      split at h
      · rename_i r' hb
        simp only [Option.some.injEq, Prod.mk.injEq] at h; obtain ⟨rfl, rfl⟩ := h
        exact lift _ (unM_ok hb (opg_ok hA hg h1 hC) w)
      · cases h
    · cases h
  · rename_i s d x
    split at h
    · rename_i i0 i k n D h0 h1 h2
      split at h
      · rename_i k' hk
        simp only [Option.some.injEq, Prod.mk.injEq] at h; obtain ⟨rfl, rfl⟩ := h
        have hc := opg_ok hA hg h2 hC
        simp only [Cv] at hc
        refine lift _ ⟨.int k' (kwrap k' n), ?_, rfl⟩
        obtain ⟨e, he, _⟩ := (hT _ _ h0).und
        unfold convert
        rw [run_bind', run_underlying he]; simp only
        rw [run_bind', run_underlying ((hT _ _ h1).ik k' hk), hc]
        rfl
      · cases h
    · rename_i j i l D h0 h1 h2
      split at h
      · rename_i hgd
        simp only [Bool.and_eq_true, beq_iff_eq, Option.any_eq_true_iff_get] at hgd
        obtain ⟨⟨hslc, htag⟩, he⟩ := hgd
        simp only [Option.some.injEq, Prod.mk.injEq] at h; obtain ⟨rfl, rfl⟩ := h
        obtain ⟨v, hv, hs⟩ := opg_ok hA hg h2 hC
        simp only [List.cons.injEq, and_true] at hv
        obtain ⟨hund, _⟩ := (hT _ _ h0).slc hslc
        obtain ⟨ie, hie, hik⟩ : ∃ ie, tab j.elem = some ie ∧ ie.ik = some .u8 := by
          obtain ⟨h3, h4⟩ := he
          exact ⟨_, (Option.some_get h3).symm, h4⟩
        have heu := (hT _ _ hie).ik _ hik
        obtain ⟨dd, hd, _, htg⟩ := (hT _ _ h1).und
        have : dd = .string := by rw [htag] at htg; cases dd <;> simp_all [tagOf]
        subst this
        refine lift _ ⟨.string (bstr l), ?_, rfl⟩
        rw [hv]
        rcases hs with ⟨a0, rfl, rfl⟩ | ⟨b, off, cap, cells, T', fr, rfl, g2, g3, g4, g5⟩
        · rw [run_convert_bytes_string w s d j.elem a0 0 0 hund heu hd]
          cases a0 with
          | none => rfl
          | some a0 => rfl
        · have hn1 : (Kd.int IntKind.u8).n = 1 := rfl
          simp only [hn1, Nat.mul_one] at g4 g5
          rw [run_convert_bytes_string w s d j.elem _ l.length cap hund heu hd]
          refine run_bytesToString w _ _ _ l ?_
          rw [run_loadCells (hM _ _ g3) (by simpa using g4)]
          congr 2
          apply List.ext_getElem
          · simp at g4 ⊢; omega
          · intro q q1 q2
            have hq : q < l.length := by simpa using q2
            have := g5 q hq
            have : (cells.toList.drop (off + q)).take 1 = [Value.int .u8 l[q]] := this
            have h9 : ((cells.toList.drop (off + q)).take 1)[0]? = some (Value.int .u8 l[q]) := by rw [this]; rfl
            rw [List.getElem?_take, if_pos (by decide), List.getElem?_drop, Nat.add_zero] at h9
            simp only [List.getElem_take, List.getElem_drop, List.getElem_map]
            exact (List.getElem_eq_iff _).2 h9
      · cases h
    · cases h
  · rename_i S x f
    split at h
    · rename_i i x' D h0 h1
      split at h
      · rename_i r' hb
        simp only [Option.some.injEq, Prod.mk.injEq] at h; obtain ⟨rfl, rfl⟩ := h
        exact lift _ (fieldAddrM_ok (hT _ _ h0) hb (opg_ok hA hg h1 hC) w)
      · cases h
    · cases h
  · rename_i S x f
    split at h
    · rename_i i x' D h0 h1
      split at h
      · rename_i r' hb
        simp only [Option.some.injEq, Prod.mk.injEq] at h; obtain ⟨rfl, rfl⟩ := h
        exact lift _ (fieldM_ok (hT _ _ h0) hb (opg_ok hA hg h1 hC) w)
      · cases h
    · cases h
  · rename_i T x
    split at h
    · rename_i i x' D h0 h1
      split at h
      · rename_i r' E hb
        simp only [Option.some.injEq, Prod.mk.injEq] at h; obtain ⟨rfl, rfl⟩ := h
        exact lift _ (loadM_ok (hT _ _ h0) hb hC.2 hO hM (opg_ok hA hg h1 hC.1))
      · cases h
    · cases h
  · rename_i T x n
    split at h
    · rename_i i x' D k n' E h0 h1 h2
      split at h
      · rename_i r' F hb
        simp only [Option.some.injEq, Prod.mk.injEq] at h; obtain ⟨rfl, rfl⟩ := h
        have hn := opg_ok hA hg h2 hC.2.1
        simp only [Cv] at hn
        refine lift (Instr.indexAt T (a.eval x) (a.eval n)) ?_
        rw [hn]
        exact indexAddrM_ok (hT _ _ h0) hb hC.2.2 hO (opg_ok hA hg h1 hC.1) k
      · cases h
    · cases h
  · rename_i T x n
    split at h
    · rename_i i x' D k n' E h0 h1 h2
      split at h
      · rename_i r' F hb
        simp only [Option.some.injEq, Prod.mk.injEq] at h; obtain ⟨rfl, rfl⟩ := h
        have hn := opg_ok hA hg h2 hC.2.1
        simp only [Cv] at hn
        refine lift (Instr.index T (a.eval x) (a.eval n)) ?_
        rw [hn]
        exact indexM_ok (hT _ _ h0) hb hC.2.2 (opg_ok hA hg h1 hC.1) k w
      · cases h
    · cases h
  · rename_i x j
    split at h
    · rename_i l D h1
      split at h
      · rename_i r' hj
        simp only [Option.some.injEq, Prod.mk.injEq] at h; obtain ⟨rfl, rfl⟩ := h
        obtain ⟨vs, hv, hl⟩ := opg_ok hA hg h1 hC
        obtain ⟨v, h2, h3⟩ := CvL.get hl j _ hj
        refine lift (Instr.extract (a.eval x) j) ⟨v, ?_, h3⟩
        rw [hv]
        simp [Instr.extract, h2]
      · cases h
    · cases h
  · rename_i x
    split at h
    · rename_i k off D h1
      simp only [Option.some.injEq, Prod.mk.injEq] at h; obtain ⟨rfl, rfl⟩ := h
      have hc := opg_ok hA hg h1 hC
      refine ⟨a.eval x, ?_, hc⟩
      simp only [Cv] at hc
      unfold execOp; simp only; rw [hc]; rfl
    · rename_i k j off D h1
      simp only [Option.some.injEq, Prod.mk.injEq] at h; obtain ⟨rfl, rfl⟩ := h
      have hc := opg_ok hA hg h1 hC
      refine ⟨a.eval x, ?_, hc⟩
      simp only [Cv] at hc
      unfold execOp; simp only; rw [hc]; rfl
    · rename_i k o j D h1
      simp only [Option.some.injEq, Prod.mk.injEq] at h; obtain ⟨rfl, rfl⟩ := h
      have hc := opg_ok hA hg h1 hC
      refine ⟨a.eval x, ?_, hc⟩
      simp only [Cv] at hc
      unfold execOp; simp only; rw [hc]; rfl
    · rename_i k y D h1
      simp only [Option.some.injEq, Prod.mk.injEq] at h; obtain ⟨rfl, rfl⟩ := h
      have hc := opg_ok hA hg h1 hC
      refine ⟨a.eval x, ?_, hc⟩
      obtain ⟨b, off, cells, T', fr, hc, _⟩ := hc
      unfold execOp; simp only; rw [hc]; rfl
    · cases h
  · rename_i f first cap
    split at h
    · rename_i hf
      split at h
      · rename_i l D h1
        simp only [Option.some.injEq, Prod.mk.injEq] at h; obtain ⟨rfl, rfl⟩ := h
        have hc := opgs_ok hA hg h1 hC
        refine lift (Instr.makeFunc (.func f) (first.map a.eval) (cap.map a.eval)) ⟨_, rfl, _, ?_, hc⟩
        have : first = #[] := by simpa using hf
        subst this
        rw [show cap.map a.eval = (List.map a.eval cap.toList).toArray by apply Array.ext'; simp, Array.map_empty]
      · cases h
    · cases h
  · rename_i t parts
    split at h
    · rename_i i ps D h0 h1
      split at h
      · rename_i r' hb
        simp only [Option.some.injEq, Prod.mk.injEq] at h; obtain ⟨rfl, rfl⟩ := h
        obtain ⟨g1, g2⟩ := partsM_ok hA hg h1 hC
        refine lift (Instr.build t (parts.map fun (i, x) => (i, a.eval x))) ?_
        have := buildM_ok (hT _ _ h0) hb g1 g2 w
        rw [show (parts.map fun (i, x) => (i, a.eval x)) = (parts.toList.map fun x => (x.1, a.eval x.2)).toArray by apply Array.ext'; simp]
        exact this
      · cases h
    · cases h
  · rename_i T x lo hi
    split at h
    · rename_i i x' D lo' E hi' F h0 h1 h2 h3
      split at h
      · rename_i r' G hb
        simp only [Option.some.injEq, Prod.mk.injEq] at h; obtain ⟨rfl, rfl⟩ := h
        exact lift (Instr.sliceAt T (a.eval x) (lo.map a.eval) (hi.map a.eval) none) (sliceM_ok (hT _ _ h0) hb hC.2.2.2 (opg_ok hA hg h1 hC.1) (oint_ok hA hg h2 hC.2.1) (oint_ok hA hg h3 hC.2.2.1) w hO)
      · cases h
    · cases h
  · rename_i args argTypes
    split at h
    · rename_i T x D h0 h1
      split at h
      · rename_i i hi
        split at h
        · rename_i r' hb
          simp only [Option.some.injEq, Prod.mk.injEq] at h; obtain ⟨rfl, rfl⟩ := h
          obtain ⟨v, us, hv, hx, hus⟩ := opgs_ok hA hg h1 hC
          simp only [CvL] at hus; subst hus
          have hargs : args.map a.eval = #[v] := by apply Array.ext'; simpa using hv
          refine lift (Builtin.len_ argTypes ty (args.map a.eval)) ?_
          rw [hargs]
          exact lenM_ok (hT _ _ hi) hb hO hx argTypes h0 ty
        · cases h
      · cases h
    · cases h
  · rename_i args argTypes
    split at h
    · rename_i x l D h1
      split at h
      · rename_i r' hb
        simp only [Option.some.injEq, Prod.mk.injEq] at h; obtain ⟨rfl, rfl⟩ := h
        obtain ⟨v, us, hv, hx, hus⟩ := opgs_ok hA hg h1 hC
        have hargs : args.map a.eval = (v :: us).toArray := by apply Array.ext'; simpa using hv
        refine lift (Builtin.min_ argTypes ty (args.map a.eval)) ?_
        rw [hargs]
        exact foldMin_ok w hb hx hus
      · cases h
    · cases h
  · rename_i args argTypes
    split at h
    · rename_i x l D h1
      split at h
      · rename_i r' hb
        simp only [Option.some.injEq, Prod.mk.injEq] at h; obtain ⟨rfl, rfl⟩ := h
        obtain ⟨v, us, hv, hx, hus⟩ := opgs_ok hA hg h1 hC
        have hargs : args.map a.eval = (v :: us).toArray := by apply Array.ext'; simpa using hv
        refine lift (Builtin.max_ argTypes ty (args.map a.eval)) ?_
        rw [hargs]
        exact foldMax_ok w hb hx hus
      · cases h
    · cases h
  · cases h

end Go.Fo
