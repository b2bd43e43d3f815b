/- The operations that write or make memory: what is known behind them. -/
import Derived.Test.YtcaehpgdcjonfaaKj
namespace Go.Fo

/-- elements of a slice literal, in order -/
def rowsM (k : Kd) : Nat → List (Nat × MV) → Option (List k.T)
  | _, [] => some []
  | n, (i, v) :: l => if i == n && (mvcells v).length == k.n && solid v then
      (match k.updL k.df 0 (mvcells v), rowsM k (n + 1) l with | some y, some ys => some (y :: ys) | _, _ => none) else none

/-- elements of a slice literal that are no plain data, cell by cell -/
def hdM (sz : Nat) : Nat → List (Nat × MV) → Option (List MV)
  | _, [] => some []
  | n, (i, v) :: l => if i == n && (mvcells v).length == sz && solid v then (match hdM sz (n + 1) l with | some r => some (mvcells v ++ r) | none => none) else none

/-- what is appended -/
def srcM (L : List (Nat × Option MObj)) (k : Kd) : MV → Option (List k.T)
  | .nils => some []
  | .im (.slice e) l => if h : e = k then some (h ▸ l) else none
  | .sl key => match getO L key with
    | some (.rows e l) => if h : e = k then some (h ▸ l) else none
    | _ => none
  | _ => none

/-- a list over the places of another, as far as there are any -/
def cpy {α : Type} (lo : Nat) (xs ys : List α) : List α := xs.take lo ++ (ys.take (xs.length - lo) ++ xs.drop (lo + ys.length))
/-- where a copy goes: a slice of its own, or what of it lies behind a place -/
def dstM : MV → Option (Nat × Nat)
  | .sl key => some (key, 0)
  | .sv key lo => some (key, lo)
  | _ => none
def dcond : MV → Nat → Prop
  | .sv _ lo, n => lo < n
  | _, _ => True

def heapD (tab : Nat → Option TI) (A : List (Nat × MV)) (L : List (Nat × Option MObj)) (g : Option Bool) (d : Nat) : Op → Option (MV × List (Nat × Option MObj) × Bool × Prop)
  | .store T x v => match tab T, opg A g x, opg A g v with
    | some i, some (.p key off, C), some (v', D) => (match getO L key with
      | some (.cells cs) => if (mvcells v').length == i.size && solid v' && (mvcells v').all cellm && decide (off + i.size ≤ cs.length) then
          some (.nilp, [(key, some (.cells (cs.take off ++ (mvcells v' ++ cs.drop (off + i.size)))))], false, C ∧ D) else none
      | _ => none)
    | some i, some (.pe key j f, C), some (v', D) => (match getO L key with
      | some (.rows k xs) => if (mvcells v').length == i.size && solid v' && (mvcells v').all cellm && decide (1 ≤ i.size) then
          (match k.updL (k.nth xs j) f (mvcells v') with
          | some y => some (.nilp, [(key, some (.rows k (xs.set j y)))], false, C ∧ D ∧ j < xs.length)
          | none => none) else none
      | _ => none)
    | some i, some (.pf key o j, C), some (v', D) => (match getO L key with
      | some (.foc pre cs post) => if (mvcells v').length == i.size && solid v' && (mvcells v').all cellm && decide (j + i.size ≤ cs.length) then
          some (.nilp, [(key, some (.foc pre (cs.take j ++ (mvcells v' ++ cs.drop (j + i.size))) post))], false, C ∧ D ∧ o = pre.length) else none
      | _ => none)
    | _, _, _ => none
  | .box _ x => match opg A g x with
    | some (x', C) => if solid x' then some (.p d 0, [(d, some (.cells (mvcells x')))], true, C) else none
    | none => none
  | .alloc T => match tab T with
    | some i => some (.p d 0, [(d, some (.cells i.zero))], true, True)
    | none => none
  | .buildSlice T len parts => match tab T, partsM A g parts.toList with
    | some i, some (ps, C) => (match i.ek with
      | some k => (match rowsM k 0 ps with
        | some xs => if len == ps.length && decide (len * i.esz ≤ 16777216) && decide (1 ≤ i.esz) then some (.sl d, [(d, some (.rows k xs))], true, C) else none
        | none => none)
      | none => if i.slc && (tab i.elem).isSome && len == ps.length && decide (len * i.esz ≤ 16777216) && decide (1 ≤ i.esz) then (match hdM i.esz 0 ps with | some cs => some (.hd d len, [(d, some (.cells cs))], true, C) | none => none) else none)
    | _, _ => none
  | .makeSlice T n c => match tab T, opg A g n, opg A g c with
    | some i, some (.int _ n', C), some (.int _ c', D) => (match i.ek with
      | some k => if decide (1 ≤ i.eb) && decide (1 ≤ i.esz) then some (.sl d, [(d, some (.rows k (List.replicate n'.toNat k.df)))], true, C ∧ D ∧ 0 ≤ n' ∧ n' ≤ c' ∧ c' * (i.eb : Int) ≤ 140737488355328) else none
      | none => (match tab i.elem with
        | some ie => if i.slc && decide (n' = c') && decide (0 ≤ n') && decide (n'.toNat * ie.bytes ≤ 16777216) && decide (1 ≤ ie.bytes) && decide (1 ≤ i.esz) && ie.zero.length == i.esz then some (.hd d n'.toNat, [(d, some (.cells (List.replicate n'.toNat ie.zero).flatten))], true, C ∧ D) else none
        | none => none))
    | _, _, _ => none
  | .call { callee := .builtin .append, args, argTypes } => match argTypes[0]?, opgs A g args.toList with
    | some T, some ([s, x], C) => (match tab T with
      | some i => (match s with
        | .nils => (match i.ek with
          | some k => (match srcM L k x with
            | some ys => if decide (1 ≤ i.eb) && (argTypes[1]? == some T || argTypes[1]?.any fun t => (tab t).any (·.slc)) then some (.sl d, [(d, some (.rows k ys))], true, C ∧ (ys.length : Int) * (i.eb : Int) ≤ 70368744177664) else none
            | none => none)
          | none => none)
        | .sl key => (match getO L key, i.ek with
          | some (.rows k xs), some k' => (match srcM L k x with
            | some ys => if decide (1 ≤ i.eb) && decide (k = k') && (argTypes[1]? == some T || argTypes[1]?.any fun t => (tab t).any (·.slc)) then
                some (.sl d, [(d, some (.rows k (xs ++ ys))), (key, none)], true, C ∧ ((xs.length : Int) + (ys.length : Int)) * (i.eb : Int) ≤ 70368744177664) else none
            | none => none)
          | _, _ => none)
        | _ => none)
      | none => none)
    | _, _ => none
  | .call { callee := .builtin .copy, args, argTypes } => match argTypes[0]?, opgs A g args.toList with
    | some T, some ([s, x], C) => (match tab T, dstM s with
      | some i, some (key, lo) => (match getO L key, i.ek with
        | some (.rows k xs), some k' => (match srcM L k x with
          | some ys => if decide (k = k') then some (.int .i64 ((min ys.length (xs.length - lo) : Nat) : Int), [(key, some (.rows k (cpy lo xs ys)))], false, C ∧ dcond s xs.length) else none
          | none => none)
        | _, _ => none)
      | _, _ => none)
    | _, _ => none
  | .call { callee := .builtin .clear, args, argTypes } => match argTypes[0]?, opgs A g args.toList with
    | some T, some ([.sl key], C) => (match tab T with
      | some i => (match getO L key, i.ek with
        | some (.rows k xs), some k' => if decide (k = k') && decide (1 ≤ i.esz) then some (.tup [], [(key, some (.rows k (List.replicate xs.length k.df)))], false, C) else none
        | _, _ => none)
      | none => none)
    | _, _ => none
  | _ => none

/-- the outcome of an operation that writes or makes memory -/
def HRes (P : Program) (X : Nat → Prop) (ρ : Nat → Hd) (m : Mem) (L : Nat → Option MObj) (w : World) (d : Nat) (s : Sem Next) (mv : MV) (U : List (Nat × Option MObj)) (fr : Bool) : Prop :=
  ∃ nx w' ρ', s.run P w = .ok nx w' ∧ ((∃ v, nx = .value v ∧ Cv ρ' m mv v) ∨ (nx = .skip ∧ fr = false)) ∧ Hp X ρ' m (updO U L) w' ∧ Nx X m m w w' ∧ (∀ k, k ≠ d → ρ' k = ρ k) ∧ (fr = false → ρ' = ρ)

theorem Wr.nx {X : Nat → Prop} {m : Mem} {w w' : World} {b : Nat} {o : Obj} (h : Wr w w' b o) (hX : ¬ X b) : Nx X m m w w' :=
  ⟨Mle.refl m, fun _ _ => rfl, fun b' hb' => h.un b' (fun e => hX (e ▸ hb')), Nat.le_of_eq h.size.symm, h.os, h.out, h.tape⟩

theorem updO_one (key : Nat) (o : Option MObj) (L : Nat → Option MObj) : updO [(key, o)] L = fun k => if key == k then o else L k := rfl

theorem store_cells_ok {P : Program} {X : Nat → Prop} {ρ : Nat → Hd} {m : Mem} {L : Nat → Option MObj} {w : World} (h : Hp X ρ m L w) {T : Nat} {i : TI} (ht : TOK P T i) {key off : Nat} {cs : List MV} (hk : L key = some (.cells cs)) {x : MV} {v : Value}
    (hv : Cv ρ m x v) (hn : (mvcells x).length = i.size) (hs : solid x = true) (hc : (mvcells x).all cellm = true) (ho : off + i.size ≤ cs.length) (d : Nat) :
    HRes P X ρ m L w d (do Instr.storeAt T (.pointer (some ⟨(ρ key).blk, off, none⟩)) v; pure .skip) .nilp [(key, some (.cells (cs.take off ++ (mvcells x ++ cs.drop (off + i.size)))))] false := by
  obtain ⟨hnil, vs, T', hb, hl⟩ := h.obj _ _ hk
  have hcv := cells_ok hs hv
  have hlen := CvL.length hcv
  have hvl := CvL.length hl
  obtain ⟨w', h1, h2⟩ := run_storeAt (P := P) (off := off) ht hb (v := v) (by rw [← Array.length_toList, hlen, hn]) (by omega) (cellms_ok hc hcv)
  refine ⟨.skip, w', ρ, ?_, .inr ⟨rfl, rfl⟩, ?_, ?_, fun _ _ => rfl, fun _ => rfl⟩
  · rw [run_bind', h1]; rfl
  · rw [updO_one]
    refine h.turn key _ (fun b => b = (ρ key).blk) (fun _ _ => rfl) (.inl rfl) (fun b _ hb => h2.un b hb) (Nat.le_of_eq h2.size.symm) (fun b _ hb => hb ▸ h.djm key _ _ hk ⟨hnil, rfl⟩) (fun k o b hne hk' hf hb => ?_) (fun o ho' => ?_)
    · exact hne (h.dj k o key _ b hk' hk hf ⟨hnil, hb⟩)
    · simp only [Option.some.injEq] at ho'; subst ho'
      refine ⟨⟨hnil, _, T', h2.at_, ?_⟩, fun b hf => ⟨h.djm key _ _ hk hf, h.djX key _ _ hk hf, fun k o' hne hk' hf' => hne (h.dj k o' key _ b hk' hk hf' hf)⟩⟩
      exact CvL.append (CvL.take off hl) (CvL.append hcv (CvL.drop _ hl))
  · exact h2.nx (h.djX key _ _ hk ⟨hnil, rfl⟩)

theorem store_rows_ok {P : Program} {X : Nat → Prop} {ρ : Nat → Hd} {m : Mem} {L : Nat → Option MObj} {w : World} (h : Hp X ρ m L w) {T : Nat} {i : TI} (ht : TOK P T i) {key j f : Nat} {k : Kd} {xs : List k.T} (hk : L key = some (.rows k xs)) {x : MV} {v : Value}
    (hv : Cv ρ m x v) (hn : (mvcells x).length = i.size) (hs : solid x = true) (hc : (mvcells x).all cellm = true) (hj : j < xs.length) (h1s : 1 ≤ i.size) {y : k.T} (hy : k.updL (k.nth xs j) f (mvcells x) = some y) (d : Nat) :
    HRes P X ρ m L w d (do Instr.storeAt T (.pointer (some ⟨(ρ key).blk, j * (ρ key).sz + f, none⟩)) v; pure .skip) .nilp [(key, some (.rows k (xs.set j y)))] false := by
  obtain ⟨g0, g1, g2⟩ := h.obj _ _ hk
  rcases g2 with ⟨_, rfl⟩ | ⟨hnil, hcap, vs, T', hb, hvl, hel⟩
  · simp at hj
  have hcv := cells_ok hs hv
  have hlen := CvL.length hcv
  have hr := hel j hj
  have hnth : k.nth xs j = xs[j] := by unfold Kd.nth; rw [List.getD_eq_getElem?_getD, List.getElem?_eq_getElem hj]; rfl
  rw [← hnth] at hr
  obtain ⟨p1, p2⟩ := updL_ok hcv _ y f _ hy hr
  have hrl := Kd.R.len _ _ _ hr
  have hjn : (j + 1) * k.n ≤ (ρ key).cap * k.n := Nat.mul_le_mul_right _ (by omega)
  rw [Nat.add_mul, Nat.one_mul] at hjn
  have hfn : f + i.size ≤ k.n := by
    rcases p1 with p1 | p1
    · rw [p1] at hn; simp at hn; omega
    · omega
  rw [g1]
  obtain ⟨w', h1, h2⟩ := run_storeAt (P := P) (off := j * k.n + f) ht hb (v := v) (by rw [← Array.length_toList, hlen, hn]) (by omega) (cellms_ok hc hcv)
  refine ⟨.skip, w', ρ, ?_, .inr ⟨rfl, rfl⟩, ?_, ?_, fun _ _ => rfl, fun _ => rfl⟩
  · rw [run_bind', h1]; rfl
  · rw [updO_one]
    refine h.turn key _ (fun b => b = (ρ key).blk) (fun _ _ => rfl) (.inl rfl) (fun b _ hb => h2.un b hb) (Nat.le_of_eq h2.size.symm) (fun b _ hb => hb ▸ h.djm key _ _ hk ⟨hnil, rfl⟩) (fun k' o b hne hk' hf hb => ?_) (fun o ho' => ?_)
    · exact hne (h.dj k' o key _ b hk' hk hf ⟨hnil, hb⟩)
    · simp only [Option.some.injEq] at ho'; subst ho'
      refine ⟨⟨by simpa using g0, g1, .inr ⟨hnil, by simpa using hcap, _, T', h2.at_, ?_, ?_⟩⟩, fun b hf => ⟨h.djm key _ _ hk hf, h.djX key _ _ hk hf, fun k' o' hne hk' hf' => hne (h.dj k' o' key _ b hk' hk hf' hf)⟩⟩
      · simp [hlen, hn]; omega
      · intro q hq
        simp only [List.length_set] at hq
        by_cases e : q = j
        · subst e
          rw [List.getElem_set_self]
          have e1 : (vs.take (q * k.n + f) ++ (v.cells.toList ++ vs.drop (q * k.n + f + i.size))).drop (q * k.n) = (vs.drop (q * k.n)).take f ++ (v.cells.toList ++ vs.drop (q * k.n + f + i.size)) := by
            rw [List.drop_append_of_le_length (by simp; omega), List.drop_take]
            congr 2; omega
          rw [e1]
          have e2 : ((vs.drop (q * k.n)).take k.n).take f ++ (v.cells.toList ++ ((vs.drop (q * k.n)).take k.n).drop (f + v.cells.toList.length)) = ((vs.drop (q * k.n)).take f ++ (v.cells.toList ++ vs.drop (q * k.n + f + i.size))).take k.n := by
            rw [List.take_take, Nat.min_eq_left (by omega)]
            rw [List.take_append, List.take_of_length_le (l := (vs.drop (q * k.n)).take f) (by simp; omega), List.take_append, List.take_of_length_le (l := v.cells.toList) (by simp [hlen, hn] at *; omega)]
            congr 2
            rw [List.drop_take, List.drop_drop]
            have hl1 : ((vs.drop (q * k.n)).take f).length = f := by simp; omega
            have hl2 : v.cells.toList.length = i.size := by rw [hlen, hn]
            rw [hl1, hl2]
            congr 1; · omega
            · congr 1; omega
          rw [← e2]; exact p2
        · rw [List.getElem_set_ne (fun e' => e e'.symm)]
          have hq' := hel q hq
          have hqn : (q + 1) * k.n ≤ (ρ key).cap * k.n := Nat.mul_le_mul_right _ (by omega)
          rw [Nat.add_mul, Nat.one_mul] at hqn
          have e3 : ((vs.take (j * k.n + f) ++ (v.cells.toList ++ vs.drop (j * k.n + f + i.size))).drop (q * k.n)).take k.n = (vs.drop (q * k.n)).take k.n := by
            have hl2 : v.cells.toList.length = i.size := by rw [hlen, hn]
            rcases Nat.lt_or_ge q j with hlt | hge
            · have : (q + 1) * k.n ≤ j * k.n := Nat.mul_le_mul_right _ hlt
              rw [Nat.add_mul, Nat.one_mul] at this
              rw [List.drop_append_of_le_length (by simp; omega), List.take_append_of_le_length (by simp; omega), List.drop_take, List.take_take, Nat.min_eq_left (by omega)]
            · have : (j + 1) * k.n ≤ q * k.n := Nat.mul_le_mul_right _ (by omega)
              rw [Nat.add_mul, Nat.one_mul] at this
              have hlt : (vs.take (j * k.n + f)).length = j * k.n + f := by rw [List.length_take]; omega
              rw [List.drop_append, List.drop_of_length_le (by rw [hlt]; omega), List.nil_append, List.drop_append, List.drop_of_length_le (by rw [hlt, hl2]; omega), List.nil_append, List.drop_drop]
              congr 2
              rw [hlt, hl2]; omega
          rw [e3]; exact hq'
  · exact h2.nx (h.djX key _ _ hk ⟨hnil, rfl⟩)

end Go.Fo
